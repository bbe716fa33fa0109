/- A part of the proof. -/
import Derived.Test.YtdbdfkohpjefjaaGreatLayerC
import Derived.Test.YtdbdfkohpjefjaaGreatProg
set_option linter.all false
set_option maxHeartbeats 4000000
set_option maxRecDepth 100000
namespace Go.Proofs.YtdbdfkohpjefjaaGreat
open Go.Sp
theorem ty:
 ((A1L Tryz.prog 2=some false)∧(A01 Tryz.prog 2=some 1)∧(A08 Tryz.prog 2=some (.int .i64 0))∧(A05 Tryz.prog 2=some 8)∧(Tryz.prog.underlying 2=some (.int .i64))∧(A1L Tryz.prog 3=some false)∧(A01 Tryz.prog 3=some 1)∧(A08 Tryz.prog 3=some (.int .i64 0))∧(A05 Tryz.prog 3=some 8)∧(Tryz.prog.underlying 3=some (.int .i64))∧(A1L Tryz.prog 4=some false)∧(A01 Tryz.prog 4=some 1)∧(A08 Tryz.prog 4=some (.bool false))∧(A05 Tryz.prog 4=some 1)∧(Tryz.prog.underlying 4=some .bool)∧(A1L Tryz.prog 5=some false))∧
 ((A01 Tryz.prog 5=some 1)∧(A08 Tryz.prog 5=some (.int .u8 0))∧(A05 Tryz.prog 5=some 1)∧(Tryz.prog.underlying 5=some (.int .u8))∧(A1L Tryz.prog 9=some false)∧(A01 Tryz.prog 9=some 1)∧(A08 Tryz.prog 9=some (.string ByteArray.empty))∧(A05 Tryz.prog 9=some 16)∧(A1L Tryz.prog 21=some false)∧(A01 Tryz.prog 21=some 1)∧(A08 Tryz.prog 21=some (.int .i32 0))∧(A05 Tryz.prog 21=some 4)∧(Tryz.prog.underlying 21=some (.int .i32))∧(A1L Tryz.prog 22=some false)∧(A01 Tryz.prog 22=some 1)∧(A08 Tryz.prog 22=some (.slice none 0 0)))∧
 ((A05 Tryz.prog 22=some 24)∧(A0B Tryz.prog 22=some (none,132))∧(A1L Tryz.prog 24=some true)∧(A01 Tryz.prog 24=some 2)∧(A08 Tryz.prog 24=some (.agg #[.int .i64 0,.slice none 0 0]))∧(A05 Tryz.prog 24=some 32)∧(A1z Tryz.prog 24 0=some (0,3))∧(A1z Tryz.prog 24 1=some (1,22))∧(A2i Tryz.prog 24=some (.agg #[.int .i64 0,.slice none 0 0],fun i=>(#[(0,1),(1,1)]:Array (Nat×Nat))[i]?))∧(A1L Tryz.prog 25=some false)∧(A01 Tryz.prog 25=some 1)∧(A08 Tryz.prog 25=some (.slice none 0 0))∧(A05 Tryz.prog 25=some 24)∧(A0B Tryz.prog 25=some (none,28))∧(A1L Tryz.prog 27=some true)∧(A01 Tryz.prog 27=some 3))∧
 ((A08 Tryz.prog 27=some (.agg #[.int .i64 0,.slice none 0 0,.slice none 0 0]))∧(A05 Tryz.prog 27=some 56)∧(A1z Tryz.prog 27 0=some (0,24))∧(A1z Tryz.prog 27 1=some (2,25))∧(A2i Tryz.prog 27=some (.agg #[.int .i64 0,.slice none 0 0,.slice none 0 0],fun i=>(#[(0,2),(2,1)]:Array (Nat×Nat))[i]?))∧(A1L Tryz.prog 28=some false)∧(A01 Tryz.prog 28=some 1)∧(A08 Tryz.prog 28=some (.slice none 0 0))∧(A05 Tryz.prog 28=some 24)∧(A0B Tryz.prog 28=some (none,3))∧(A1L Tryz.prog 31=some false)∧(A01 Tryz.prog 31=some 1)∧(A08 Tryz.prog 31=some (.int .i64 0))∧(A05 Tryz.prog 31=some 8)∧(Tryz.prog.underlying 31=some (.int .i64))∧(A1L Tryz.prog 36=some false))∧
 ((A01 Tryz.prog 36=some 1)∧(A08 Tryz.prog 36=some (.slice none 0 0))∧(A05 Tryz.prog 36=some 24)∧(A0B Tryz.prog 36=some (none,3))∧(A1L Tryz.prog 53=some false)∧(A01 Tryz.prog 53=some 1)∧(A08 Tryz.prog 53=some (.slice none 0 0))∧(A05 Tryz.prog 53=some 24)∧(A0B Tryz.prog 53=some (none,36))∧(A1L Tryz.prog 59=some true)∧(A01 Tryz.prog 59=some 2)∧(A08 Tryz.prog 59=some (.agg #[.int .u8 0,.int .u8 0]))∧(A05 Tryz.prog 59=some 2)∧(A0B Tryz.prog 59=some (some 2,5))∧(A2i Tryz.prog 59=some (.agg #[.int .u8 0,.int .u8 0],fun i=>some (i*1,1)))∧(A1L Tryz.prog 60=some true))∧
 ((A01 Tryz.prog 60=some 2)∧(A08 Tryz.prog 60=some (.agg #[.slice none 0 0,.slice none 0 0]))∧(A05 Tryz.prog 60=some 48)∧(A0B Tryz.prog 60=some (some 2,36))∧(A2i Tryz.prog 60=some (.agg #[.slice none 0 0,.slice none 0 0],fun i=>some (i*1,1)))∧(A1L Tryz.prog 99=some false)∧(A01 Tryz.prog 99=some 1)∧(A08 Tryz.prog 99=some (.slice none 0 0))∧(A05 Tryz.prog 99=some 24)∧(A0B Tryz.prog 99=some (none,3))∧(A1L Tryz.prog 103=some false)∧(A01 Tryz.prog 103=some 1)∧(A08 Tryz.prog 103=some (.slice none 0 0))∧(A05 Tryz.prog 103=some 24)∧(A0B Tryz.prog 103=some (none,119))∧(A1L Tryz.prog 114=some false))∧
 ((A01 Tryz.prog 114=some 1)∧(A08 Tryz.prog 114=some (.int .u64 0))∧(A05 Tryz.prog 114=some 8)∧(Tryz.prog.underlying 114=some (.int .u64))∧(A1L Tryz.prog 119=some true)∧(A01 Tryz.prog 119=some 2)∧(A08 Tryz.prog 119=some (.agg #[.int .i64 0,.int .i64 0]))∧(A05 Tryz.prog 119=some 16)∧(A0B Tryz.prog 119=some (some 2,3))∧(A2i Tryz.prog 119=some (.agg #[.int .i64 0,.int .i64 0],fun i=>some (i*1,1)))∧(A1L Tryz.prog 123=some true)∧(A01 Tryz.prog 123=some 12)∧(A08 Tryz.prog 123=some (.agg #[.int .i64 0,.int .i64 0,.int .i64 0,.int .i64 0,.int .i64 0,.int .i64 0,.int .i64 0,.int .i64 0,.int .i64 0,.int .i64 0,.int .i64 0,.int .i64 0]))∧(A05 Tryz.prog 123=some 96)∧(A0B Tryz.prog 123=some (some 12,3))∧(A2i Tryz.prog 123=some (.agg #[.int .i64 0,.int .i64 0,.int .i64 0,.int .i64 0,.int .i64 0,.int .i64 0,.int .i64 0,.int .i64 0,.int .i64 0,.int .i64 0,.int .i64 0,.int .i64 0],fun i=>some (i*1,1))))∧
 ((A1L Tryz.prog 124=some true)∧(A01 Tryz.prog 124=some 12)∧(A08 Tryz.prog 124=some (.agg #[.int .i64 0,.int .i64 0,.int .i64 0,.int .i64 0,.int .i64 0,.int .i64 0,.int .i64 0,.int .i64 0,.int .i64 0,.int .i64 0,.int .i64 0,.int .i64 0]))∧(A05 Tryz.prog 124=some 96)∧(A0B Tryz.prog 124=some (some 12,3))∧(A2i Tryz.prog 124=some (.agg #[.int .i64 0,.int .i64 0,.int .i64 0,.int .i64 0,.int .i64 0,.int .i64 0,.int .i64 0,.int .i64 0,.int .i64 0,.int .i64 0,.int .i64 0,.int .i64 0],fun i=>some (i*1,1)))∧(A1L Tryz.prog 129=some true)∧(A01 Tryz.prog 129=some 2)∧(A08 Tryz.prog 129=some (.agg #[.int .i64 0,.int .i64 0]))∧(A05 Tryz.prog 129=some 16)∧(A1z Tryz.prog 129 0=some (0,3))∧(A1z Tryz.prog 129 1=some (1,3))∧(A2i Tryz.prog 129=some (.agg #[.int .i64 0,.int .i64 0],fun i=>(#[(0,1),(1,1)]:Array (Nat×Nat))[i]?))∧(A1L Tryz.prog 132=some true)∧(A01 Tryz.prog 132=some 3)∧(A08 Tryz.prog 132=some (.agg #[.int .i64 0,.int .i64 0,.int .i64 0])))∧
 ((A05 Tryz.prog 132=some 24)∧(A1z Tryz.prog 132 0=some (0,3))∧(A1z Tryz.prog 132 1=some (1,3))∧(A1z Tryz.prog 132 2=some (2,3))∧(A2i Tryz.prog 132=some (.agg #[.int .i64 0,.int .i64 0,.int .i64 0],fun i=>(#[(0,1),(1,1),(2,1)]:Array (Nat×Nat))[i]?))∧(A1L Tryz.prog 134=some false)∧(A01 Tryz.prog 134=some 1)∧(A08 Tryz.prog 134=some (.map none))∧(A05 Tryz.prog 134=some 8)∧(B1o Tryz.prog 134=some (3,3))∧(A1L Tryz.prog 136=some false)∧(A01 Tryz.prog 136=some 1)∧(A08 Tryz.prog 136=some (.map none))∧(A05 Tryz.prog 136=some 8)∧(B1o Tryz.prog 136=some (3,4))∧(A1L Tryz.prog 149=some false))∧
 ((A01 Tryz.prog 149=some 1)∧(A08 Tryz.prog 149=some (.pointer none))∧(A05 Tryz.prog 149=some 8)∧(A1L Tryz.prog 155=some true)∧(A01 Tryz.prog 155=some 12)∧(A08 Tryz.prog 155=some (.agg #[.int .i64 0,.int .i64 0,.int .i64 0,.int .i64 0,.int .i64 0,.int .i64 0,.int .i64 0,.int .i64 0,.int .i64 0,.int .i64 0,.int .i64 0,.int .i64 0]))∧(A05 Tryz.prog 155=some 96)∧(A0B Tryz.prog 155=some (some 12,3))∧(A2i Tryz.prog 155=some (.agg #[.int .i64 0,.int .i64 0,.int .i64 0,.int .i64 0,.int .i64 0,.int .i64 0,.int .i64 0,.int .i64 0,.int .i64 0,.int .i64 0,.int .i64 0,.int .i64 0],fun i=>some (i*1,1)))∧(A1L Tryz.prog 166=some false)∧(A01 Tryz.prog 166=some 1)∧(A08 Tryz.prog 166=some (.int .i64 0))∧(A05 Tryz.prog 166=some 8)∧(Tryz.prog.underlying 166=some (.int .i64))∧(A1L Tryz.prog 174=some false)∧(A01 Tryz.prog 174=some 1))∧
 ((A08 Tryz.prog 174=some (.int .u32 0))∧(A05 Tryz.prog 174=some 4)∧(Tryz.prog.underlying 174=some (.int .u32))∧(A1L Tryz.prog 176=some false)∧(A01 Tryz.prog 176=some 1)∧(A08 Tryz.prog 176=some (.int .u64 0))∧(A05 Tryz.prog 176=some 8)∧(Tryz.prog.underlying 176=some (.int .u64))∧(A1L Tryz.prog 178=some false)∧(A01 Tryz.prog 178=some 1)∧(A08 Tryz.prog 178=some (.slice none 0 0))∧(A05 Tryz.prog 178=some 24)∧(A0B Tryz.prog 178=some (none,4))∧(A1L Tryz.prog 180=some false)∧(A01 Tryz.prog 180=some 1)∧(A08 Tryz.prog 180=some (.map none)))∧
 ((A05 Tryz.prog 180=some 8)∧(B1o Tryz.prog 180=some (129,3))∧(A1L Tryz.prog 181=some false)∧(A01 Tryz.prog 181=some 1)∧(A08 Tryz.prog 181=some (.map none))∧(A05 Tryz.prog 181=some 8)∧(B1o Tryz.prog 181=some (129,3))∧(A1L Tryz.prog 186=some false)∧(A01 Tryz.prog 186=some 1)∧(A08 Tryz.prog 186=some (.pointer none))∧(A05 Tryz.prog 186=some 8)∧(A1L Tryz.prog 192=some true)∧(A01 Tryz.prog 192=some 6)∧(A08 Tryz.prog 192=some (.agg #[.int .i64 0,.slice none 0 0,.int .i64 0,.slice none 0 0,.slice none 0 0,.int .i64 0]))∧(A05 Tryz.prog 192=some 96)∧(A1z Tryz.prog 192 0=some (0,24)))∧
 ((A1z Tryz.prog 192 1=some (2,3))∧(A1z Tryz.prog 192 2=some (3,36))∧(A1z Tryz.prog 192 3=some (4,99))∧(A1z Tryz.prog 192 4=some (5,31))∧(A2i Tryz.prog 192=some (.agg #[.int .i64 0,.slice none 0 0,.int .i64 0,.slice none 0 0,.slice none 0 0,.int .i64 0],fun i=>(#[(0,2),(2,1),(3,1),(4,1),(5,1)]:Array (Nat×Nat))[i]?))∧(A1L Tryz.prog 198=some false)∧(A01 Tryz.prog 198=some 1)∧(A08 Tryz.prog 198=some (.slice none 0 0))∧(A05 Tryz.prog 198=some 24)∧(A0B Tryz.prog 198=some (none,202))∧(A1L Tryz.prog 200=some false)∧(A01 Tryz.prog 200=some 1)∧(A08 Tryz.prog 200=some (.string ByteArray.empty))∧(A05 Tryz.prog 200=some 16)∧(A1L Tryz.prog 202=some true)∧(A01 Tryz.prog 202=some 2))∧
 ((A08 Tryz.prog 202=some (.agg #[.string ByteArray.empty,.string ByteArray.empty]))∧(A05 Tryz.prog 202=some 32)∧(A1z Tryz.prog 202 0=some (0,200))∧(A1z Tryz.prog 202 1=some (1,200))∧(A2i Tryz.prog 202=some (.agg #[.string ByteArray.empty,.string ByteArray.empty],fun i=>(#[(0,1),(1,1)]:Array (Nat×Nat))[i]?))∧(A1L Tryz.prog 203=some false)∧(A01 Tryz.prog 203=some 1)∧(A08 Tryz.prog 203=some (.pointer none))∧(A05 Tryz.prog 203=some 8)∧(A1L Tryz.prog 206=some false)∧(A01 Tryz.prog 206=some 1)∧(A08 Tryz.prog 206=some (.int .u64 0))∧(A05 Tryz.prog 206=some 8)∧(Tryz.prog.underlying 206=some (.int .u64))∧(A1L Tryz.prog 210=some false)∧(A01 Tryz.prog 210=some 1))∧
 ((A08 Tryz.prog 210=some (.pointer none))∧(A05 Tryz.prog 210=some 8)∧(A1L Tryz.prog 223=some false)∧(A01 Tryz.prog 223=some 1)∧(A08 Tryz.prog 223=some (.slice none 0 0))∧(A05 Tryz.prog 223=some 24)∧(A0B Tryz.prog 223=some (none,200))∧(A1L Tryz.prog 225=some true)∧(A01 Tryz.prog 225=some 3)∧(A08 Tryz.prog 225=some (.agg #[.int .i64 0,.int .i64 0,.slice none 0 0]))∧(A05 Tryz.prog 225=some 40)∧(A1z Tryz.prog 225 0=some (0,3))∧(A1z Tryz.prog 225 1=some (1,3))∧(A1z Tryz.prog 225 2=some (2,223))∧(A2i Tryz.prog 225=some (.agg #[.int .i64 0,.int .i64 0,.slice none 0 0],fun i=>(#[(0,1),(1,1),(2,1)]:Array (Nat×Nat))[i]?))∧(A1L Tryz.prog 229=some true))∧
 ((A01 Tryz.prog 229=some 12)∧(A08 Tryz.prog 229=some (.agg #[.int .i64 0,.int .i64 0,.int .i64 0,.int .i64 0,.int .i64 0,.int .i64 0,.int .i64 0,.int .i64 0,.int .i64 0,.int .i64 0,.int .i64 0,.int .i64 0]))∧(A05 Tryz.prog 229=some 96)∧(A0B Tryz.prog 229=some (some 12,3))∧(A2i Tryz.prog 229=some (.agg #[.int .i64 0,.int .i64 0,.int .i64 0,.int .i64 0,.int .i64 0,.int .i64 0,.int .i64 0,.int .i64 0,.int .i64 0,.int .i64 0,.int .i64 0,.int .i64 0],fun i=>some (i*1,1)))∧(A1L Tryz.prog 232=some false)∧(A01 Tryz.prog 232=some 1)∧(A08 Tryz.prog 232=some (.pointer none))∧(A05 Tryz.prog 232=some 8)∧(A1L Tryz.prog 247=some false)∧(A01 Tryz.prog 247=some 1)∧(A08 Tryz.prog 247=some (.pointer none))∧(A05 Tryz.prog 247=some 8)∧(A1L Tryz.prog 265=some false)∧(A01 Tryz.prog 265=some 1)∧(A08 Tryz.prog 265=some (.slice none 0 0)))∧
 ((A05 Tryz.prog 265=some 24)∧(A0B Tryz.prog 265=some (none,5))∧(A1L Tryz.prog 277=some false)∧(A01 Tryz.prog 277=some 1)∧(A08 Tryz.prog 277=some (.pointer none))∧(A05 Tryz.prog 277=some 8)):=by
 (repeat' refine Qw8 ?_ ?_)<;>kernel_rfl
attribute [go_sem] ty
def A0k (n:Int):TVal:= .t (.int .i64 n)
def A0z (b:Bool):TVal:= .t (.bool b)
def A3o (a b:Int):TVal:= .agg [.int .i64 a,.int .i64 b]
attribute [go_sem] A0k A0z A3o
theorem C0U (n:Int):ACall Tryz.prog 143 [A0k n] (A0z false):=by
 refine ACall.of_body Tryz.func143 rfl (by kernel_rfl) ?_;simp only [entry,Tryz.ntmps143,A0k];refine zU ?_;refine zR Qw9 Qw9 Qw9 ?_;simp [A0y,A0x,Blk.cells,ty,Tryz.results143,A0s,A0t,toT,A0d,A0b,A0c,A0a,A0z]
theorem A86 (n v:Int):ACall Tryz.prog 146 [A0k n,A0k v] (A0z (decide (0≤v∧v<n))):=by
 refine ACall.of_body Tryz.func146 rfl (by kernel_rfl) ?_;simp only [entry,Tryz.ntmps146,A0k];refine zU ?_
 repeat' (first|((first|(refine zT ?_;intro K' hK')|(refine zG ?_ ?_<;>(try refine zH ?_)<;>intro hguard<;>(try exact zX)<;>try intro K' hK'))<;>((try simp+contextual only [go_sem]);(repeat' first|(with_reducible refine hK' _ _ ?_;clear hK' K')|exact zY|with_reducible refine Qw8 ?_ ?_|(with_reducible intro hpath;try exact zP)|(refine hK' _ _ ?_;clear hK' K')|fail);try refine zS ?_))|(refine zE ?_;refine hK _ _ ?_;clear hK K)|(refine zN ?_;try refine zS ?_)|refine zA ?_|(refine zB ?_;intro K hK)|(refine zC ?_ ?_<;>(try refine zH ?_)<;>intro hcond<;>try exact zX)|fail)
 all_goals
  simp [A0y,A0x,Blk.cells,ty,Tryz.results146,A0s,A0t,toT,A0d,A0b,A0c,A0a,A0z]
 all_goals omega
def A5T (a b:Int):Int:=if a<b then -1 else if b<a then 1 else 0
theorem A9L (a b:Int):ACall Tryz.prog 83 [A0k a,A0k b] (A0k (A5T a b)):=by
 refine ACall.of_body Tryz.func83 rfl (by kernel_rfl) ?_;simp only [entry,Tryz.ntmps83,A0k];refine zU ?_
 repeat' (first|((first|(refine zT ?_;intro K' hK')|(refine zG ?_ ?_<;>(try refine zH ?_)<;>intro hguard<;>(try exact zX)<;>try intro K' hK'))<;>((try simp+contextual only [go_sem]);(repeat' first|(with_reducible refine hK' _ _ ?_;clear hK' K')|(with_reducible refine zK (C0U _) ?_;try simp+contextual only [go_sem])|exact zY|with_reducible refine Qw8 ?_ ?_|(with_reducible intro hpath;try exact zP)|(refine hK' _ _ ?_;clear hK' K')|fail);try refine zS ?_))|(refine zE ?_;refine hK _ _ ?_;clear hK K)|(refine zN ?_;try refine zS ?_)|refine zA ?_|(refine zB ?_;intro K hK)|(refine zC ?_ ?_<;>(try refine zH ?_)<;>intro hcond<;>try exact zX)|fail)
 all_goals
  simp [A0y,A0x,Blk.cells,ty,Tryz.results83,A0s,A0t,toT,A0d,A0b,A0c,A0a,A0k,A5T]
 all_goals omega
def ints (xs:List Int):Tree:= .slice (xs.map fun x=>[.int .i64 x])
def orI:List Int->Int
 | []=>0
 | x::xs=>if x≠0 then x else orI xs
theorem C6b (xs:List Int) (hl:xs.length<2^40):ACall Tryz.prog 179 [.t (ints xs)] (A0k (orI xs)):=by
 refine ACall.of_body Tryz.func179 rfl (by kernel_rfl) ?_;simp only [entry,Tryz.ntmps179,ints];refine zU ?_
 repeat' (first|((first|(refine zT ?_;intro K' hK')|(refine zG ?_ ?_<;>(try refine zH ?_)<;>intro hguard<;>(try exact zX)<;>try intro K' hK'))<;>((try simp+contextual only [go_sem,Zq]);(repeat' first|(with_reducible refine hK' _ _ ?_;clear hK' K')|exact zY|with_reducible refine Qw8 ?_ ?_|(with_reducible intro hpath;try exact zP)|(refine hK' _ _ ?_;clear hK' K')|fail);try refine zS ?_))|(refine zE ?_;refine hK _ _ ?_;clear hK K)|(refine zN ?_;try refine zS ?_)|refine zA ?_|(refine zB ?_;intro K hK)|(refine zC ?_ ?_<;>(try refine zH ?_)<;>intro hcond<;>try exact zX)|fail)
 refine AWp.loopS (α:=Nat) 18 (fun k=>[(3,.c (.int .i64 0)),(6,.c (.slice (xs.map fun x=>[.int .i64 x]) .none)),(7,.c (.int .i64 xs.length)),(8,.c (.int .i64 (k:Int)))]) (fun k=>[]) (fun k=>k≤xs.length∧orI xs=orI (xs.drop k)) (fun k=>xs.length-k) (0) (hk:=Weak.headL 0 18 [3,6,7,8] zW) (h0:=?_) (round:=fun k hI=>?_)
 ·exact ⟨Xj _,rfl⟩
 ·obtain ⟨hk,hx⟩:=hI;by_cases hlt:k<xs.length
  ·have e1:xs[k]? =some xs[k]:=Qq hlt
   repeat' (first|((first|(refine zT ?_;intro K' hK')|(refine zG ?_ ?_<;>(try refine zH ?_)<;>intro hguard<;>(try exact zX)<;>try intro K' hK'))<;>((try simp+contextual only [go_sem,QY,Int.toNat_natCast,e1]);(repeat' first|(with_reducible refine hK' _ _ ?_;clear hK' K')|exact zY|with_reducible refine Qw8 ?_ ?_|(with_reducible intro hpath;try exact zP)|(refine hK' _ _ ?_;clear hK' K')|fail);try refine zS ?_))|(refine zE ?_;refine hK _ _ ?_;clear hK K)|(refine zN ?_;try refine zS ?_)|refine zA ?_|(refine zB ?_;intro K hK)|(refine zC ?_ ?_<;>(try refine zH ?_)<;>intro hcond<;>try exact zX)|fail)
   ·have hxk:orI xs=xs[k]:=by rw [hx,XV hlt,orI]; simp_all
    simp [A0y,A0x,Blk.cells,ty,Tryz.results179,A0s,A0t,toT,A0d,A0b,A0c,A0a,A0k,hxk]
   ·refine ⟨k+1,Weak.headN 0 18 [3,6,7,8] zW,?_,?_⟩
    ·exact ⟨hlt,by rw [hx,XV hlt,orI]; simp_all⟩
    ·omega
  ·have ek:k=xs.length:=by omega
   have h0:orI xs=0:=by rw [hx,ek,Vk,orI]
   refine zR (zc @ZX Qw9) Qw9 Qw9 ?_;simp [A0y,A0x,Blk.cells,ty,Tryz.results179,A0s,A0t,toT,A0d,A0b,A0c,A0a,A0k,h0]
theorem A9M (a b c d:Int):ACall Tryz.prog 149 [A3o a b,A3o c d] (A0k (orI [A5T a c,A5T b d])):=by
 refine ACall.of_body Tryz.func149 rfl (by kernel_rfl) ?_;simp only [entry,Tryz.ntmps149,A3o];refine zU ?_
 repeat' (first|((first|(refine zT ?_;intro K' hK')|(refine zG ?_ ?_<;>(try refine zH ?_)<;>intro hguard<;>(try exact zX)<;>try intro K' hK'))<;>((try simp+contextual only [go_sem,ints,chunks,List.range,List.range.loop]);(repeat' first|(with_reducible refine hK' _ _ ?_;clear hK' K')|((with_reducible first|refine zK (A9L _ _) ?_|refine zL (c:=C6b [_,_] (by simp)) (q:=?_));try simp+contextual only [go_sem,ints,chunks,List.range,List.range.loop])|exact zY|with_reducible refine Qw8 ?_ ?_|(with_reducible intro hpath;try exact zP)|(refine hK' _ _ ?_;clear hK' K')|fail);try refine zS ?_))|(refine zE ?_;refine hK _ _ ?_;clear hK K)|(refine zN ?_;try refine zS ?_)|refine zA ?_|(refine zB ?_;intro K hK)|(refine zC ?_ ?_<;>(try refine zH ?_)<;>intro hcond<;>try exact zX)|fail)
 simp [A0y,A0x,Blk.cells,ty,Tryz.results149,A0s,A0t,toT,A0d,A0b,A0c,A0a,A0k]
theorem B7P (a b:Int):ACall Tryz.prog 147 [A0k a,A0k b] (A3o (min a b) (max a b)):=by
 refine ACall.of_body Tryz.func147 rfl (by kernel_rfl) ?_;simp only [entry,Tryz.ntmps147,A0k];refine zU ?_
 repeat' (first|((first|(refine zT ?_;intro K' hK')|(refine zG ?_ ?_<;>(try refine zH ?_)<;>intro hguard<;>(try exact zX)<;>try intro K' hK'))<;>((try simp+contextual only [go_sem]);(repeat' first|(with_reducible refine hK' _ _ ?_;clear hK' K')|exact zY|with_reducible refine Qw8 ?_ ?_|(with_reducible intro hpath;try exact zP)|(refine hK' _ _ ?_;clear hK' K')|fail);try refine zS ?_))|(refine zE ?_;refine hK _ _ ?_;clear hK K)|(refine zN ?_;try refine zS ?_)|refine zA ?_|(refine zB ?_;intro K hK)|(refine zC ?_ ?_<;>(try refine zH ?_)<;>intro hcond<;>try exact zX)|fail)
 all_goals
  simp [A0y,A0x,Blk.cells,ty,Tryz.results147,A0s,A0t,toT,A0d,A0b,A0c,A0a,A3o]
structure E where
 (a b m:Int)
structure G where
 (n:Int) (es:List E)
def C0V (e:E):List Tree:=[.int .i64 e.a,.int .i64 e.b,.int .i64 e.m]
def A0f (es:List E):List (List Tree):=es.map C0V
def tG (g:G):TVal:= .agg [.int .i64 g.n,.slice (A0f g.es)]
attribute [go_sem] tG
def C5Q (p:Int×Int):List Tree:=[.int .i64 p.1,.int .i64 p.2]
def A1c (l:List (Int×Int)):List (List Tree):=l.map C5Q
def endsL (es:List E):List (Int×Int):=es.flatMap fun e=>List.replicate e.m.toNat (e.a,e.b)
theorem A06 (es:List E):(A0f es).length=es.length:=by simp [A0f]
theorem A02 (es:List (Int×Int)):(A1c es).length=es.length:=by simp [A1c]
theorem A20 {l:List (Int×Int)} {i:Nat} {p:Int×Int} (h:l[i]? =some p):(A1c l)[i]? =some [.int .i64 p.1,.int .i64 p.2]:=by simp [A1c,C5Q,h]
theorem A9N (l:List (Int×Int)) (a b:Int):A1c l++[[.int .i64 a,.int .i64 b]]=A1c (l++[(a,b)]):=by simp [A1c,C5Q]
theorem A6k {l:List (Int×Int)} {r:List Tree} (h:r∈A1c l):r.length=2:=by
 obtain ⟨x,_,rfl⟩:=QJ.1 h;rfl
theorem A31 (a b:List E):endsL (a++b)=endsL a++endsL b:=by unfold endsL; exact List.flatMap_append
theorem B1P (e:E):endsL [e]=List.replicate e.m.toNat (e.a,e.b):=by simp [endsL]
theorem A1u {es:List E} {i:Nat} (h:i<es.length):endsL (es.take (i+1))=endsL (es.take i)++List.replicate es[i].m.toNat (es[i].a,es[i].b):=by
 rw [XX h,A31,B1P]
theorem A6l (es:List E) (i:Nat):(endsL (es.take i)).length≤(endsL es).length:=by
 have:endsL es=endsL (es.take i)++endsL (es.drop i):=by rw [<-A31,WJ]
 rw [this,Xv]; omega
theorem A2e {es:List E} {i:Nat} {e:E} (h:es[i]? =some e):(A0f es)[i]? =some [.int .i64 e.a,.int .i64 e.b,.int .i64 e.m]:=by
 simp [A0f,h,C0V]
theorem B49 (g:G) (hs:(endsL g.es).length<2^40) (hl:g.es.length<2^40) (hm: ∀e,e∈g.es->e.m<2^40):ACall Tryz.prog 86 [tG g] (.t (.slice (A1c (endsL g.es)))):=by
 refine ACall.of_body Tryz.func86 rfl (by kernel_rfl) ?_;simp only [entry,Tryz.ntmps86,tG];refine zU ?_;refine zR Qw9 Qw9 Qw9 ?_;refine AWp.weak (Weak.opens ((fun t f=>[f,f,f,t,f,f,f,f,f,f,f,f,f,f,f,f,f,f,f,f,f,f,f,f,f,f,f,f,f,f,f,f,f,f,f,f,f,f,f,f]) true false) 2 (by first | omega | simp)) ?_;simp only [A27,A8q,List.length_cons,List.length_nil,Xv,Nat.reduceAdd,List.cons_append,List.nil_append];refine AWp.loopS (α:=Nat) 40 (fun i=>[(1,.c (.ptr 0 0)),(3,.c (.slice (A1c (endsL (g.es.take i))) (.chain 1))),(4,.c (.int .i64 (i:Int)))]) (fun i=>[.box [.int .i64 g.n,.slice (A0f g.es) .none],.chain (endsL (g.es.take i)).length 2]) (fun i=>i≤g.es.length) (fun i=>g.es.length-i) (0) (hk:=Weak.headL 2 40 [1,3,4] zW) (h0:=?_) (round:=fun i hI=>?_)
 ·exact Xj _
 ·by_cases hlt:i<g.es.length
  ·have e1:g.es[i]? =some g.es[i]:=Qq hlt;have e2:=A2e e1;have hle:=A6l g.es (i+1);rw [A1u hlt,Xv,Yx] at hle;have hmi:=hm g.es[i] (Xw hlt)
   repeat' (first|((first|(refine zT ?_;intro K' hK')|(refine zG ?_ ?_<;>(try refine zH ?_)<;>intro hguard<;>(try exact zX)<;>try intro K' hK'))<;>((try simp+contextual only [go_sem,A06,ZX]);(repeat' first|(with_reducible refine hK' _ _ ?_;clear hK' K')|exact zY|with_reducible refine Qw8 ?_ ?_|(with_reducible intro hpath;try exact zP)|(refine hK' _ _ ?_;clear hK' K')|fail);try refine zS ?_))|(refine zE ?_;refine hK _ _ ?_;clear hK K)|(refine zN ?_;try refine zS ?_)|refine zA ?_|(refine zB ?_;intro K hK)|(refine zC ?_ ?_<;>(try refine zH ?_)<;>intro hcond<;>try exact zX)|fail)
   ·
    refine AWp.loopS (α:=Nat) 40 (fun k=>[(1,.c (.ptr 0 0)),(3,.c (.slice (A1c (endsL (g.es.take i)++List.replicate k (g.es[i].a,g.es[i].b))) (.chain 1))),(4,.c (.int .i64 (i:Int))),(5,.c (.int .i64 (k:Int)))]) (fun k=>[.box [.int .i64 g.n,.slice (A0f g.es) .none],.chain ((endsL (g.es.take i)).length+k) 2]) (fun k=>k≤g.es[i].m.toNat) (fun k=>g.es[i].m.toNat-k) (0) (hk:=Weak.headL 2 40 [1,3,4,5] zW) (h0:=?_) (round:=fun k hI=>?_)
    ·exact Xj _
    ·by_cases hk:(k:Int)<g.es[i].m
     ·
      have hk2:k<g.es[i].m.toNat:=by omega
      repeat' (first|((first|(refine zT ?_;intro K' hK')|(refine zG ?_ ?_<;>(try refine zH ?_)<;>intro hguard<;>(try exact zX)<;>try intro K' hK'))<;>((try simp+contextual only [go_sem,e2,Int.toNat_natCast,Xv,Yx,A02,chunks,List.range,List.range.loop,A9N,Zk,<-List.replicate_succ']);(repeat' first|(with_reducible refine hK' _ _ ?_;clear hK' K')|(with_reducible exact A6k (by assumption))|exact zY|with_reducible refine Qw8 ?_ ?_|(with_reducible intro hpath;try exact zP)|(refine hK' _ _ ?_;clear hK' K')|fail);try refine zS ?_))|(refine zE ?_;refine hK _ _ ?_;clear hK K)|(refine zN ?_;try refine zS ?_)|refine zA ?_|(refine zB ?_;intro K hK)|(refine zC ?_ ?_<;>(try refine zH ?_)<;>intro hcond<;>try exact zX)|fail)
      refine ⟨k+1,Weak.headN 2 40 [1,3,4,5] zW (e1:=by first|rfl|(simp [mask,A1C,WQ,List.replicate_succ];done)|(simp [mask,A1C,WQ,List.replicate_succ]<;>simp_all<;>omega)) (e2:=by first|rfl|(simp [mask,A1C,WQ,List.replicate_succ];done)|(simp [mask,A1C,WQ,List.replicate_succ]<;>simp_all<;>omega)),?_,?_⟩
      ·exact hk2
      ·omega
     ·
      have ek:k=g.es[i].m.toNat:=by omega
      refine zR (zc @e2 Qw9) Qw9 Qw9 ?_;refine ⟨i+1,Weak.headN 2 40 [1,3,4] zW (e1:=by first|rfl|(simp [mask,A1C,A1u hlt,ek];done)|(simp [mask,A1C,A1u hlt,ek]<;>simp_all<;>omega)) (e2:=by first|rfl|(simp [mask,A1C,A1u hlt,ek];done)|(simp [mask,A1C,A1u hlt,ek]<;>simp_all<;>omega)),?_,?_⟩
      ·exact hlt
      ·omega
  ·have ei:i=g.es.length:=by omega
   refine zR (zc @A06 (zc @ZX Qw9)) Qw9 Qw9 ?_;simp [A0y,A0x,Blk.cells,ty,Tryz.results86,A0s,A0t,toT,A0d,A0b,A0c,A0a,ei]
theorem B1Q (g:G) (v:Int):ACall Tryz.prog 151 [tG g,A0k v] (A0z (decide (0≤v∧v<g.n))):=by
 refine ACall.of_body Tryz.func151 rfl (by kernel_rfl) ?_;simp only [entry,Tryz.ntmps151,tG,A0k];refine zU ?_
 repeat' (first|((first|(refine zT ?_;intro K' hK')|(refine zG ?_ ?_<;>(try refine zH ?_)<;>intro hguard<;>(try exact zX)<;>try intro K' hK'))<;>((try simp+contextual only [go_sem]);(repeat' first|(with_reducible refine hK' _ _ ?_;clear hK' K')|exact zY|with_reducible refine Qw8 ?_ ?_|(with_reducible intro hpath;try exact zP)|(refine hK' _ _ ?_;clear hK' K')|fail);try refine zS ?_))|(refine zE ?_;refine hK _ _ ?_;clear hK K)|(refine zN ?_;try refine zS ?_)|refine zA ?_|(refine zB ?_;intro K hK)|(refine zC ?_ ?_<;>(try refine zH ?_)<;>intro hcond<;>try exact zX)|fail)
 all_goals
  simp [A0y,A0x,Blk.cells,ty,Tryz.results151,A0s,A0t,toT,A0d,A0b,A0c,A0a,A0z]
 all_goals omega
def A4J (n:Int) (es:List E) (i:Nat):Int:=
 match es[i]? with
 | none=>0
 | some x=>
  if ¬(0≤x.a∧x.a<n)∨ ¬(0≤x.b∧x.b<n)∨x.m<1∨50<x.m then 2
  else if x.b<x.a then 9
  else match i with
   | 0=>0
   | j+1=>match es[j]? with
    | none=>0
    | some y=>if x.a<y.a∨(x.a=y.a∧x.b≤y.b) then 9 else 0
theorem C3m (g:G) (i:Nat) (hi:i<g.es.length) (hl:g.es.length<2^40):ACall Tryz.prog 96 [tG g,A0k i] (A0k (A4J g.n g.es i)):=by
 have e1:g.es[i]? =some g.es[i]:=Qq hi;have e2:=A2e e1;cases i with
 | zero=>
  refine ACall.of_body Tryz.func96 rfl (by kernel_rfl) ?_;simp only [entry,Tryz.ntmps96,tG,A0k];refine zU ?_
  repeat' (first|((first|(refine zT ?_;intro K' hK')|(refine zG ?_ ?_<;>(try refine zH ?_)<;>intro hguard<;>(try exact zX)<;>try intro K' hK'))<;>((try simp+contextual only [go_sem,e2,Int.toNat_natCast,Int.toNat_zero,Int.natCast_zero]);(repeat' first|(with_reducible refine hK' _ _ ?_;clear hK' K')|(with_reducible refine zK (B1Q g _) ?_;try simp+contextual only [go_sem,e2,Int.toNat_natCast,Int.toNat_zero,Int.natCast_zero])|exact zY|with_reducible refine Qw8 ?_ ?_|(with_reducible intro hpath;try exact zP)|(refine hK' _ _ ?_;clear hK' K')|fail);try refine zS ?_))|(refine zE ?_;refine hK _ _ ?_;clear hK K)|(refine zN ?_;try refine zS ?_)|refine zA ?_|(refine zB ?_;intro K hK)|(refine zC ?_ ?_<;>(try refine zH ?_)<;>intro hcond<;>try exact zX)|fail)
  all_goals
   simp [A0y,A0x,Blk.cells,ty,Tryz.results96,A0s,A0t,toT,A0d,A0b,A0c,A0a,A0k,A4J,e1]
  all_goals omega
 | succ j=>
  have hj:j<g.es.length:=by omega
  have f1:g.es[j]? =some g.es[j]:=Qq hj;have f2:=A2e f1;have e4:((j+1:Nat):Int)-1=j:=by omega
  have e5:((j+1:Nat):Int).toNat=j+1:=by omega
  have e6:((j:Nat):Int).toNat=j:=by omega
  refine ACall.of_body Tryz.func96 rfl (by kernel_rfl) ?_;simp only [entry,Tryz.ntmps96,tG,A0k];refine zU ?_
  repeat' (first|((first|(refine zT ?_;intro K' hK')|(refine zG ?_ ?_<;>(try refine zH ?_)<;>intro hguard<;>(try exact zX)<;>try intro K' hK'))<;>((try simp+contextual only [go_sem,e2,e4,e5,e6,f2]);(repeat' first|(with_reducible refine hK' _ _ ?_;clear hK' K')|(with_reducible refine zK (B1Q g _) ?_;try simp+contextual only [go_sem,e2,e4,e5,e6,f2])|exact zY|with_reducible refine Qw8 ?_ ?_|(with_reducible intro hpath;try exact zP)|(refine hK' _ _ ?_;clear hK' K')|fail);try refine zS ?_))|(refine zE ?_;refine hK _ _ ?_;clear hK K)|(refine zN ?_;try refine zS ?_)|refine zA ?_|(refine zB ?_;intro K hK)|(refine zC ?_ ?_<;>(try refine zH ?_)<;>intro hcond<;>try exact zX)|fail)
  all_goals
   simp [A0y,A0x,Blk.cells,ty,Tryz.results96,A0s,A0t,toT,A0d,A0b,A0c,A0a,A0k,A4J,e1,f1]
  all_goals omega
def A4K (n:Int) (es:List E):Nat->Int
 | 0=>0
 | k+1=>if A4J n es (es.length-(k+1))≠0 then A4J n es (es.length-(k+1)) else A4K n es k
def checkG (g:G):Int:=if g.n<1∨12<g.n then 2 else A4K g.n g.es g.es.length
theorem A6m (g:G) (hl:g.es.length<2^40):ACall Tryz.prog 47 [tG g] (A0k (checkG g)):=by
 refine ACall.of_body Tryz.func47 rfl (by kernel_rfl) ?_;simp only [entry,Tryz.ntmps47,tG];refine zU ?_
 repeat' (first|((first|(refine zT ?_;intro K' hK')|(refine zG ?_ ?_<;>(try refine zH ?_)<;>intro hguard<;>(try exact zX)<;>try intro K' hK'))<;>((try simp+contextual only [go_sem]);(repeat' first|(with_reducible refine hK' _ _ ?_;clear hK' K')|exact zY|with_reducible refine Qw8 ?_ ?_|(with_reducible intro hpath;try exact zP)|(refine hK' _ _ ?_;clear hK' K')|fail);try refine zS ?_))|(refine zE ?_;refine hK _ _ ?_;clear hK K)|(refine zN ?_;try refine zS ?_)|refine zA ?_|(refine zB ?_;intro K hK)|(refine zC ?_ ?_<;>(try refine zH ?_)<;>intro hcond<;>try exact zX)|fail)
 ·
  simp [A0y,A0x,Blk.cells,ty,Tryz.results47,A0s,A0t,toT,A0d,A0b,A0c,A0a,A0k,checkG]
  all_goals omega
 ·
  refine AWp.loopS (α:=Nat) 26 (fun i=>[(1,.c (.ptr 0 0)),(3,.c (.int .i64 (i:Int)))]) (fun i=>[.box [.int .i64 g.n,.slice (A0f g.es) .none]]) (fun i=>i≤g.es.length∧checkG g=A4K g.n g.es (g.es.length-i)) (fun i=>g.es.length-i) (0) (hk:=Weak.headL 1 26 [1,3] zW) (h0:=?_) (round:=fun i hI=>?_)
  ·exact ⟨Xj _,by simp only [checkG,Nat.sub_zero]; rw [if_neg (by omega)]⟩
  ·obtain ⟨hi,hx⟩:=hI;by_cases hlt:i<g.es.length
   ·have es:g.es.length-i=(g.es.length-(i+1))+1:=by omega
    have ei:g.es.length-(g.es.length-(i+1)+1)=i:=by omega
    rw [es,A4K,ei] at hx
    repeat' (first|((first|(refine zT ?_;intro K' hK')|(refine zG ?_ ?_<;>(try refine zH ?_)<;>intro hguard<;>(try exact zX)<;>try intro K' hK'))<;>((try simp+contextual only [go_sem,A06,ZX]);(repeat' first|(with_reducible refine hK' _ _ ?_;clear hK' K')|(with_reducible refine zK (C3m g i hlt hl) ?_;try simp+contextual only [go_sem,A06,ZX])|exact zY|with_reducible refine Qw8 ?_ ?_|(with_reducible intro hpath;try exact zP)|(refine hK' _ _ ?_;clear hK' K')|fail);try refine zS ?_))|(refine zE ?_;refine hK _ _ ?_;clear hK K)|(refine zN ?_;try refine zS ?_)|refine zA ?_|(refine zB ?_;intro K hK)|(refine zC ?_ ?_<;>(try refine zH ?_)<;>intro hcond<;>try exact zX)|fail)
    ·have hx2:checkG g=A4J g.n g.es i:=by rw [hx,if_pos (by assumption)]
     simp [A0y,A0x,Blk.cells,ty,Tryz.results47,A0s,A0t,toT,A0d,A0b,A0c,A0a,A0k,hx2]
    ·refine ⟨i+1,Weak.headN 1 26 [1,3] zW,?_,?_⟩
     ·exact ⟨hlt,by rw [hx,if_neg (by omega)]⟩
     ·omega
   ·have ei:i=g.es.length:=by omega
    have h0:checkG g=0:=by rw [hx,ei,JQ,A4K]
    refine zR (zc @A06 (zc @ZX Qw9)) Qw9 Qw9 ?_;simp [A0y,A0x,Blk.cells,ty,Tryz.results47,A0s,A0t,toT,A0d,A0b,A0c,A0a,A0k,h0]
 ·
  simp [A0y,A0x,Blk.cells,ty,Tryz.results47,A0s,A0t,toT,A0d,A0b,A0c,A0a,A0k,checkG]
  all_goals omega
theorem A32 (g:G) (hs:(endsL g.es).length<2^40) (hl:g.es.length<2^40) (hm: ∀e,e∈g.es->e.m<2^40):ACall Tryz.prog 38 [tG g] (A0k (endsL g.es).length):=by
 refine ACall.of_body Tryz.func38 rfl (by kernel_rfl) ?_;simp only [entry,Tryz.ntmps38,tG];refine zU ?_
 repeat' (first|((first|(refine zT ?_;intro K' hK')|(refine zG ?_ ?_<;>(try refine zH ?_)<;>intro hguard<;>(try exact zX)<;>try intro K' hK'))<;>((try simp+contextual only [go_sem,A02]);(repeat' first|(with_reducible refine hK' _ _ ?_;clear hK' K')|(with_reducible refine zK (B49 g hs hl hm) ?_;try simp+contextual only [go_sem,A02])|exact zY|with_reducible refine Qw8 ?_ ?_|(with_reducible intro hpath;try exact zP)|(refine hK' _ _ ?_;clear hK' K')|fail);try refine zS ?_))|(refine zE ?_;refine hK _ _ ?_;clear hK K)|(refine zN ?_;try refine zS ?_)|refine zA ?_|(refine zB ?_;intro K hK)|(refine zC ?_ ?_<;>(try refine zH ?_)<;>intro hcond<;>try exact zX)|fail)
 all_goals
  simp [A0y,A0x,Blk.cells,ty,Tryz.results38,A0s,A0t,toT,A0d,A0b,A0c,A0a,A0k]
def A6V (es:List E):Nat->Int×Int
 | 0=>(-1,-1)
 | j+1=>match es[j]? with
  | some y=>(y.a,y.b)
  | none=>(-1,-1)
def B7g (n:Int) (x:E):Prop:= ¬(0≤x.a∧x.a<n)∨ ¬(0≤x.b∧x.b<n)∨x.m<1∨50<x.m
theorem A6n {n:Int} {es:List E} {i:Nat} (hi:i<es.length) (h:B7g n es[i]):A4J n es i=2:=by
 unfold A4J; rw [Qq hi]; exact if_pos h
theorem A9O {n:Int} {es:List E} {i:Nat} (hi:i<es.length) (h: ¬B7g n es[i]) (h2:es[i].b<es[i].a∨0≤orI [A5T (A6V es i).1 es[i].a,A5T (A6V es i).2 es[i].b]):A4J n es i=9:=by
 unfold A4J; rw [Qq hi];simp only;unfold B7g at h;rw [if_neg h];by_cases hb:es[i].b<es[i].a
 ·rw [if_pos hb]
 ·rw [if_neg hb];rcases h2 with h2 | h2
  ·exact absurd h2 hb
  ·cases i with
   | zero=>exfalso; simp only [A6V,orI,A5T] at h2; (repeat' split at h2)<;>omega
   | succ j=>
    have hj:j<es.length:=by omega
    simp only [A6V,Qq hj,orI,A5T] at h2 ⊢;rw [if_pos]
    (repeat' split at h2)<;>omega
theorem B5Y {n:Int} {es:List E} {i:Nat} (hi:i<es.length) (h: ¬B7g n es[i]) (h1: ¬es[i].b<es[i].a) (h2: ¬0≤orI [A5T (A6V es i).1 es[i].a,A5T (A6V es i).2 es[i].b]):A4J n es i=0:=by
 unfold A4J; rw [Qq hi];simp only;unfold B7g at h;rw [if_neg h,if_neg h1];cases i with
 | zero=>rfl
 | succ j=>
  have hj:j<es.length:=by omega
  simp only [A6V,Qq hj,orI,A5T] at h2 ⊢;rw [if_neg]
  (repeat' split at h2)<;>omega
theorem A7J (g:G) (hl:g.es.length<2^40):ACall Tryz.prog 93 [tG g] (A0k (checkG g)):=by
 refine ACall.of_body Tryz.func93 rfl (by kernel_rfl) ?_;simp only [entry,Tryz.ntmps93,tG];refine zU ?_
 repeat' (first|((first|(refine zT ?_;intro K' hK')|(refine zG ?_ ?_<;>(try refine zH ?_)<;>intro hguard<;>(try exact zX)<;>try intro K' hK'))<;>((try simp+contextual only [go_sem,A06]);(repeat' first|(with_reducible refine hK' _ _ ?_;clear hK' K')|exact zY|with_reducible refine Qw8 ?_ ?_|(with_reducible intro hpath;try exact zP)|(refine hK' _ _ ?_;clear hK' K')|fail);try refine zS ?_))|(refine zE ?_;refine hK _ _ ?_;clear hK K)|(refine zN ?_;try refine zS ?_)|refine zA ?_|(refine zB ?_;intro K hK)|(refine zC ?_ ?_<;>(try refine zH ?_)<;>intro hcond<;>try exact zX)|fail)
 ·
  simp [A0y,A0x,Blk.cells,ty,Tryz.results93,A0s,A0t,toT,A0d,A0b,A0c,A0a,A0k,checkG]
  all_goals omega
 ·
  refine AWp.loopS (α:=Nat) 67 (fun i=>[(1,.c (.ptr 0 0)),(3,.c (.ptr 1 0)),(17,.c (.slice (A0f g.es) .none)),(18,.c (.int .i64 g.es.length)),(19,.c (.int .i64 (i:Int)))]) (fun i=>[.box [.int .i64 g.n,.slice (A0f g.es) .none],.box [.int .i64 (A6V g.es i).1,.int .i64 (A6V g.es i).2]]) (fun i=>i≤g.es.length∧checkG g=A4K g.n g.es (g.es.length-i)) (fun i=>g.es.length-i) (0) (hk:=Weak.headL 2 67 [1,3,17,18,19] zW) (h0:=?_) (round:=fun i hI=>?_)
  ·exact ⟨Xj _,by simp only [checkG,Nat.sub_zero]; rw [if_neg (by omega)]⟩
  ·obtain ⟨hi,hx⟩:=hI;by_cases hlt:i<g.es.length
   ·have es:g.es.length-i=(g.es.length-(i+1))+1:=by omega
    have ei:g.es.length-(g.es.length-(i+1)+1)=i:=by omega
    rw [es,A4K,ei] at hx;have e1:g.es[i]? =some g.es[i]:=Qq hlt;have e2:=A2e e1
    repeat' (first|((first|(refine zT ?_;intro K' hK')|(refine zG ?_ ?_<;>(try refine zH ?_)<;>intro hguard<;>(try exact zX)<;>try intro K' hK'))<;>((try simp+contextual only [go_sem,e2,Int.toNat_natCast]);(repeat' first|(with_reducible refine hK' _ _ ?_;clear hK' K')|((with_reducible first|refine zK (A86 _ _) ?_|refine zK (A9M _ _ _ _) ?_);try simp+contextual only [go_sem,e2,Int.toNat_natCast])|exact zY|with_reducible refine Qw8 ?_ ?_|(with_reducible intro hpath;try exact zP)|(refine hK' _ _ ?_;clear hK' K')|fail);try refine zS ?_))|(refine zE ?_;refine hK _ _ ?_;clear hK K)|(refine zN ?_;try refine zS ?_)|refine zA ?_|(refine zB ?_;intro K hK)|(refine zC ?_ ?_<;>(try refine zH ?_)<;>intro hcond<;>try exact zX)|fail)
    ·have h2:checkG g=2:=by rw [hx,A6n hlt (by unfold B7g; omega),if_pos (by decide)]
     simp [A0y,A0x,Blk.cells,ty,Tryz.results93,A0s,A0t,toT,A0d,A0b,A0c,A0a,A0k,h2]
    ·have h9:checkG g=9:=by rw [hx,A9O hlt (by unfold B7g; omega) (by first | exact .inl (by assumption) | exact .inr (by assumption)),if_pos (by decide)]
     simp [A0y,A0x,Blk.cells,ty,Tryz.results93,A0s,A0t,toT,A0d,A0b,A0c,A0a,A0k,h9]
    ·have h0:A4J g.n g.es i=0:=B5Y hlt (by unfold B7g; omega) (by omega) (by omega);refine ⟨i+1,Weak.headN 2 67 [1,3,17,18,19] zW (e1:=by first|rfl|(simp [mask,A1C,A6V,e1];done)|(simp [mask,A1C,A6V,e1]<;>simp_all<;>omega)) (e2:=by first|rfl|(simp [mask,A1C,A6V,e1];done)|(simp [mask,A1C,A6V,e1]<;>simp_all<;>omega)),?_,?_⟩
     ·exact ⟨hlt,by rw [hx,if_neg (by omega)]⟩
     ·omega
    ·have h9:checkG g=9:=by rw [hx,A9O hlt (by unfold B7g; omega) (by first | exact .inl (by assumption) | exact .inr (by assumption)),if_pos (by decide)]
     simp [A0y,A0x,Blk.cells,ty,Tryz.results93,A0s,A0t,toT,A0d,A0b,A0c,A0a,A0k,h9]
    ·have h2:checkG g=2:=by rw [hx,A6n hlt (by unfold B7g; omega),if_pos (by decide)]
     simp [A0y,A0x,Blk.cells,ty,Tryz.results93,A0s,A0t,toT,A0d,A0b,A0c,A0a,A0k,h2]
    ·have h2:checkG g=2:=by rw [hx,A6n hlt (by unfold B7g; omega),if_pos (by decide)]
     simp [A0y,A0x,Blk.cells,ty,Tryz.results93,A0s,A0t,toT,A0d,A0b,A0c,A0a,A0k,h2]
    ·have h2:checkG g=2:=by rw [hx,A6n hlt (by unfold B7g; omega),if_pos (by decide)]
     simp [A0y,A0x,Blk.cells,ty,Tryz.results93,A0s,A0t,toT,A0d,A0b,A0c,A0a,A0k,h2]
   ·have ei:i=g.es.length:=by omega
    have h0:checkG g=0:=by rw [hx,ei,JQ,A4K]
    refine zR (zc @A06 (zc @ZX Qw9)) Qw9 Qw9 ?_;simp [A0y,A0x,Blk.cells,ty,Tryz.results93,A0s,A0t,toT,A0d,A0b,A0c,A0a,A0k,h0]
 ·
  simp [A0y,A0x,Blk.cells,ty,Tryz.results93,A0s,A0t,toT,A0d,A0b,A0c,A0a,A0k,checkG]
  all_goals omega
end Go.Proofs.YtdbdfkohpjefjaaGreat
