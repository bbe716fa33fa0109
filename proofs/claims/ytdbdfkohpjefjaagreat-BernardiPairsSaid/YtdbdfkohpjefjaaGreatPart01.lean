/- A part of the proof. -/
import Derived.Test.YtdbdfkohpjefjaaGreatLayerC
import Derived.Test.YtdbdfkohpjefjaaGreatProg
set_option linter.all false
set_option maxHeartbeats 4000000
set_option maxRecDepth 100000
namespace Go.Proofs.YtdbdfkohpjefjaaGreat
open Go.Sp
def ty:
 ((A1O Tryz.prog 2=some false)∧(A01 Tryz.prog 2=some 1)∧(A09 Tryz.prog 2=some (.int .i64 0))∧(A04 Tryz.prog 2=some 8)∧(Tryz.prog.underlying 2=some (.int .i64))∧(A1O Tryz.prog 3=some false)∧(A01 Tryz.prog 3=some 1)∧(A09 Tryz.prog 3=some (.int .i64 0))∧(A04 Tryz.prog 3=some 8)∧(Tryz.prog.underlying 3=some (.int .i64))∧(A1O Tryz.prog 4=some false)∧(A01 Tryz.prog 4=some 1)∧(A09 Tryz.prog 4=some (.bool false))∧(A04 Tryz.prog 4=some 1)∧(Tryz.prog.underlying 4=some .bool)∧(A1O Tryz.prog 5=some false))∧
 ((A01 Tryz.prog 5=some 1)∧(A09 Tryz.prog 5=some (.int .u8 0))∧(A04 Tryz.prog 5=some 1)∧(Tryz.prog.underlying 5=some (.int .u8))∧(A1O Tryz.prog 9=some false)∧(A01 Tryz.prog 9=some 1)∧(A09 Tryz.prog 9=some (.string ByteArray.empty))∧(A04 Tryz.prog 9=some 16)∧(A1O Tryz.prog 21=some false)∧(A01 Tryz.prog 21=some 1)∧(A09 Tryz.prog 21=some (.int .i32 0))∧(A04 Tryz.prog 21=some 4)∧(Tryz.prog.underlying 21=some (.int .i32))∧(A1O Tryz.prog 22=some false)∧(A01 Tryz.prog 22=some 1)∧(A09 Tryz.prog 22=some (.slice none 0 0)))∧
 ((A04 Tryz.prog 22=some 24)∧(A0C Tryz.prog 22=some (none,132))∧(A1O Tryz.prog 24=some true)∧(A01 Tryz.prog 24=some 2)∧(A09 Tryz.prog 24=some (.agg #[.int .i64 0,.slice none 0 0]))∧(A04 Tryz.prog 24=some 32)∧(A14 Tryz.prog 24 0=some (0,3))∧(A14 Tryz.prog 24 1=some (1,22))∧(A2n Tryz.prog 24=some (.agg #[.int .i64 0,.slice none 0 0],fun i=>(#[(0,1),(1,1)]:Array (Nat×Nat))[i]?))∧(A1O Tryz.prog 25=some false)∧(A01 Tryz.prog 25=some 1)∧(A09 Tryz.prog 25=some (.slice none 0 0))∧(A04 Tryz.prog 25=some 24)∧(A0C Tryz.prog 25=some (none,28))∧(A1O Tryz.prog 27=some true)∧(A01 Tryz.prog 27=some 3))∧
 ((A09 Tryz.prog 27=some (.agg #[.int .i64 0,.slice none 0 0,.slice none 0 0]))∧(A04 Tryz.prog 27=some 56)∧(A14 Tryz.prog 27 0=some (0,24))∧(A14 Tryz.prog 27 1=some (2,25))∧(A2n Tryz.prog 27=some (.agg #[.int .i64 0,.slice none 0 0,.slice none 0 0],fun i=>(#[(0,2),(2,1)]:Array (Nat×Nat))[i]?))∧(A1O Tryz.prog 28=some false)∧(A01 Tryz.prog 28=some 1)∧(A09 Tryz.prog 28=some (.slice none 0 0))∧(A04 Tryz.prog 28=some 24)∧(A0C Tryz.prog 28=some (none,3))∧(A1O Tryz.prog 31=some false)∧(A01 Tryz.prog 31=some 1)∧(A09 Tryz.prog 31=some (.int .i64 0))∧(A04 Tryz.prog 31=some 8)∧(Tryz.prog.underlying 31=some (.int .i64))∧(A1O Tryz.prog 36=some false))∧
 ((A01 Tryz.prog 36=some 1)∧(A09 Tryz.prog 36=some (.slice none 0 0))∧(A04 Tryz.prog 36=some 24)∧(A0C Tryz.prog 36=some (none,3))∧(A1O Tryz.prog 53=some false)∧(A01 Tryz.prog 53=some 1)∧(A09 Tryz.prog 53=some (.slice none 0 0))∧(A04 Tryz.prog 53=some 24)∧(A0C Tryz.prog 53=some (none,36))∧(A1O Tryz.prog 59=some true)∧(A01 Tryz.prog 59=some 2)∧(A09 Tryz.prog 59=some (.agg #[.int .u8 0,.int .u8 0]))∧(A04 Tryz.prog 59=some 2)∧(A0C Tryz.prog 59=some (some 2,5))∧(A2n Tryz.prog 59=some (.agg #[.int .u8 0,.int .u8 0],fun i=>some (i*1,1)))∧(A1O Tryz.prog 60=some true))∧
 ((A01 Tryz.prog 60=some 2)∧(A09 Tryz.prog 60=some (.agg #[.slice none 0 0,.slice none 0 0]))∧(A04 Tryz.prog 60=some 48)∧(A0C Tryz.prog 60=some (some 2,36))∧(A2n Tryz.prog 60=some (.agg #[.slice none 0 0,.slice none 0 0],fun i=>some (i*1,1)))∧(A1O Tryz.prog 99=some false)∧(A01 Tryz.prog 99=some 1)∧(A09 Tryz.prog 99=some (.slice none 0 0))∧(A04 Tryz.prog 99=some 24)∧(A0C Tryz.prog 99=some (none,3))∧(A1O Tryz.prog 103=some false)∧(A01 Tryz.prog 103=some 1)∧(A09 Tryz.prog 103=some (.slice none 0 0))∧(A04 Tryz.prog 103=some 24)∧(A0C Tryz.prog 103=some (none,119))∧(A1O Tryz.prog 114=some false))∧
 ((A01 Tryz.prog 114=some 1)∧(A09 Tryz.prog 114=some (.int .u64 0))∧(A04 Tryz.prog 114=some 8)∧(Tryz.prog.underlying 114=some (.int .u64))∧(A1O Tryz.prog 119=some true)∧(A01 Tryz.prog 119=some 2)∧(A09 Tryz.prog 119=some (.agg #[.int .i64 0,.int .i64 0]))∧(A04 Tryz.prog 119=some 16)∧(A0C Tryz.prog 119=some (some 2,3))∧(A2n Tryz.prog 119=some (.agg #[.int .i64 0,.int .i64 0],fun i=>some (i*1,1)))∧(A1O Tryz.prog 123=some true)∧(A01 Tryz.prog 123=some 12)∧(A09 Tryz.prog 123=some (.agg #[.int .i64 0,.int .i64 0,.int .i64 0,.int .i64 0,.int .i64 0,.int .i64 0,.int .i64 0,.int .i64 0,.int .i64 0,.int .i64 0,.int .i64 0,.int .i64 0]))∧(A04 Tryz.prog 123=some 96)∧(A0C Tryz.prog 123=some (some 12,3))∧(A2n Tryz.prog 123=some (.agg #[.int .i64 0,.int .i64 0,.int .i64 0,.int .i64 0,.int .i64 0,.int .i64 0,.int .i64 0,.int .i64 0,.int .i64 0,.int .i64 0,.int .i64 0,.int .i64 0],fun i=>some (i*1,1))))∧
 ((A1O Tryz.prog 124=some true)∧(A01 Tryz.prog 124=some 12)∧(A09 Tryz.prog 124=some (.agg #[.int .i64 0,.int .i64 0,.int .i64 0,.int .i64 0,.int .i64 0,.int .i64 0,.int .i64 0,.int .i64 0,.int .i64 0,.int .i64 0,.int .i64 0,.int .i64 0]))∧(A04 Tryz.prog 124=some 96)∧(A0C Tryz.prog 124=some (some 12,3))∧(A2n Tryz.prog 124=some (.agg #[.int .i64 0,.int .i64 0,.int .i64 0,.int .i64 0,.int .i64 0,.int .i64 0,.int .i64 0,.int .i64 0,.int .i64 0,.int .i64 0,.int .i64 0,.int .i64 0],fun i=>some (i*1,1)))∧(A1O Tryz.prog 129=some true)∧(A01 Tryz.prog 129=some 2)∧(A09 Tryz.prog 129=some (.agg #[.int .i64 0,.int .i64 0]))∧(A04 Tryz.prog 129=some 16)∧(A14 Tryz.prog 129 0=some (0,3))∧(A14 Tryz.prog 129 1=some (1,3))∧(A2n Tryz.prog 129=some (.agg #[.int .i64 0,.int .i64 0],fun i=>(#[(0,1),(1,1)]:Array (Nat×Nat))[i]?))∧(A1O Tryz.prog 132=some true)∧(A01 Tryz.prog 132=some 3)∧(A09 Tryz.prog 132=some (.agg #[.int .i64 0,.int .i64 0,.int .i64 0])))∧
 ((A04 Tryz.prog 132=some 24)∧(A14 Tryz.prog 132 0=some (0,3))∧(A14 Tryz.prog 132 1=some (1,3))∧(A14 Tryz.prog 132 2=some (2,3))∧(A2n Tryz.prog 132=some (.agg #[.int .i64 0,.int .i64 0,.int .i64 0],fun i=>(#[(0,1),(1,1),(2,1)]:Array (Nat×Nat))[i]?))∧(A1O Tryz.prog 134=some false)∧(A01 Tryz.prog 134=some 1)∧(A09 Tryz.prog 134=some (.map none))∧(A04 Tryz.prog 134=some 8)∧(B1Y Tryz.prog 134=some (3,3))∧(A1O Tryz.prog 136=some false)∧(A01 Tryz.prog 136=some 1)∧(A09 Tryz.prog 136=some (.map none))∧(A04 Tryz.prog 136=some 8)∧(B1Y Tryz.prog 136=some (3,4))∧(A1O Tryz.prog 149=some false))∧
 ((A01 Tryz.prog 149=some 1)∧(A09 Tryz.prog 149=some (.pointer none))∧(A04 Tryz.prog 149=some 8)∧(A1O Tryz.prog 155=some true)∧(A01 Tryz.prog 155=some 12)∧(A09 Tryz.prog 155=some (.agg #[.int .i64 0,.int .i64 0,.int .i64 0,.int .i64 0,.int .i64 0,.int .i64 0,.int .i64 0,.int .i64 0,.int .i64 0,.int .i64 0,.int .i64 0,.int .i64 0]))∧(A04 Tryz.prog 155=some 96)∧(A0C Tryz.prog 155=some (some 12,3))∧(A2n Tryz.prog 155=some (.agg #[.int .i64 0,.int .i64 0,.int .i64 0,.int .i64 0,.int .i64 0,.int .i64 0,.int .i64 0,.int .i64 0,.int .i64 0,.int .i64 0,.int .i64 0,.int .i64 0],fun i=>some (i*1,1)))∧(A1O Tryz.prog 166=some false)∧(A01 Tryz.prog 166=some 1)∧(A09 Tryz.prog 166=some (.int .i64 0))∧(A04 Tryz.prog 166=some 8)∧(Tryz.prog.underlying 166=some (.int .i64))∧(A1O Tryz.prog 174=some false)∧(A01 Tryz.prog 174=some 1))∧
 ((A09 Tryz.prog 174=some (.int .u32 0))∧(A04 Tryz.prog 174=some 4)∧(Tryz.prog.underlying 174=some (.int .u32))∧(A1O Tryz.prog 176=some false)∧(A01 Tryz.prog 176=some 1)∧(A09 Tryz.prog 176=some (.int .u64 0))∧(A04 Tryz.prog 176=some 8)∧(Tryz.prog.underlying 176=some (.int .u64))∧(A1O Tryz.prog 178=some false)∧(A01 Tryz.prog 178=some 1)∧(A09 Tryz.prog 178=some (.slice none 0 0))∧(A04 Tryz.prog 178=some 24)∧(A0C Tryz.prog 178=some (none,4))∧(A1O Tryz.prog 180=some false)∧(A01 Tryz.prog 180=some 1)∧(A09 Tryz.prog 180=some (.map none)))∧
 ((A04 Tryz.prog 180=some 8)∧(B1Y Tryz.prog 180=some (129,3))∧(A1O Tryz.prog 181=some false)∧(A01 Tryz.prog 181=some 1)∧(A09 Tryz.prog 181=some (.map none))∧(A04 Tryz.prog 181=some 8)∧(B1Y Tryz.prog 181=some (129,3))∧(A1O Tryz.prog 186=some false)∧(A01 Tryz.prog 186=some 1)∧(A09 Tryz.prog 186=some (.pointer none))∧(A04 Tryz.prog 186=some 8)∧(A1O Tryz.prog 192=some true)∧(A01 Tryz.prog 192=some 6)∧(A09 Tryz.prog 192=some (.agg #[.int .i64 0,.slice none 0 0,.int .i64 0,.slice none 0 0,.slice none 0 0,.int .i64 0]))∧(A04 Tryz.prog 192=some 96)∧(A14 Tryz.prog 192 0=some (0,24)))∧
 ((A14 Tryz.prog 192 1=some (2,3))∧(A14 Tryz.prog 192 2=some (3,36))∧(A14 Tryz.prog 192 3=some (4,99))∧(A14 Tryz.prog 192 4=some (5,31))∧(A2n Tryz.prog 192=some (.agg #[.int .i64 0,.slice none 0 0,.int .i64 0,.slice none 0 0,.slice none 0 0,.int .i64 0],fun i=>(#[(0,2),(2,1),(3,1),(4,1),(5,1)]:Array (Nat×Nat))[i]?))∧(A1O Tryz.prog 198=some false)∧(A01 Tryz.prog 198=some 1)∧(A09 Tryz.prog 198=some (.slice none 0 0))∧(A04 Tryz.prog 198=some 24)∧(A0C Tryz.prog 198=some (none,202))∧(A1O Tryz.prog 200=some false)∧(A01 Tryz.prog 200=some 1)∧(A09 Tryz.prog 200=some (.string ByteArray.empty))∧(A04 Tryz.prog 200=some 16)∧(A1O Tryz.prog 202=some true)∧(A01 Tryz.prog 202=some 2))∧
 ((A09 Tryz.prog 202=some (.agg #[.string ByteArray.empty,.string ByteArray.empty]))∧(A04 Tryz.prog 202=some 32)∧(A14 Tryz.prog 202 0=some (0,200))∧(A14 Tryz.prog 202 1=some (1,200))∧(A2n Tryz.prog 202=some (.agg #[.string ByteArray.empty,.string ByteArray.empty],fun i=>(#[(0,1),(1,1)]:Array (Nat×Nat))[i]?))∧(A1O Tryz.prog 203=some false)∧(A01 Tryz.prog 203=some 1)∧(A09 Tryz.prog 203=some (.pointer none))∧(A04 Tryz.prog 203=some 8)∧(A1O Tryz.prog 206=some false)∧(A01 Tryz.prog 206=some 1)∧(A09 Tryz.prog 206=some (.int .u64 0))∧(A04 Tryz.prog 206=some 8)∧(Tryz.prog.underlying 206=some (.int .u64))∧(A1O Tryz.prog 210=some false)∧(A01 Tryz.prog 210=some 1))∧
 ((A09 Tryz.prog 210=some (.pointer none))∧(A04 Tryz.prog 210=some 8)∧(A1O Tryz.prog 223=some false)∧(A01 Tryz.prog 223=some 1)∧(A09 Tryz.prog 223=some (.slice none 0 0))∧(A04 Tryz.prog 223=some 24)∧(A0C Tryz.prog 223=some (none,200))∧(A1O Tryz.prog 225=some true)∧(A01 Tryz.prog 225=some 3)∧(A09 Tryz.prog 225=some (.agg #[.int .i64 0,.int .i64 0,.slice none 0 0]))∧(A04 Tryz.prog 225=some 40)∧(A14 Tryz.prog 225 0=some (0,3))∧(A14 Tryz.prog 225 1=some (1,3))∧(A14 Tryz.prog 225 2=some (2,223))∧(A2n Tryz.prog 225=some (.agg #[.int .i64 0,.int .i64 0,.slice none 0 0],fun i=>(#[(0,1),(1,1),(2,1)]:Array (Nat×Nat))[i]?))∧(A1O Tryz.prog 229=some true))∧
 ((A01 Tryz.prog 229=some 12)∧(A09 Tryz.prog 229=some (.agg #[.int .i64 0,.int .i64 0,.int .i64 0,.int .i64 0,.int .i64 0,.int .i64 0,.int .i64 0,.int .i64 0,.int .i64 0,.int .i64 0,.int .i64 0,.int .i64 0]))∧(A04 Tryz.prog 229=some 96)∧(A0C Tryz.prog 229=some (some 12,3))∧(A2n Tryz.prog 229=some (.agg #[.int .i64 0,.int .i64 0,.int .i64 0,.int .i64 0,.int .i64 0,.int .i64 0,.int .i64 0,.int .i64 0,.int .i64 0,.int .i64 0,.int .i64 0,.int .i64 0],fun i=>some (i*1,1)))∧(A1O Tryz.prog 232=some false)∧(A01 Tryz.prog 232=some 1)∧(A09 Tryz.prog 232=some (.pointer none))∧(A04 Tryz.prog 232=some 8)∧(A1O Tryz.prog 247=some false)∧(A01 Tryz.prog 247=some 1)∧(A09 Tryz.prog 247=some (.pointer none))∧(A04 Tryz.prog 247=some 8)∧(A1O Tryz.prog 265=some false)∧(A01 Tryz.prog 265=some 1)∧(A09 Tryz.prog 265=some (.slice none 0 0)))∧
 ((A04 Tryz.prog 265=some 24)∧(A0C Tryz.prog 265=some (none,5))∧(A1O Tryz.prog 277=some false)∧(A01 Tryz.prog 277=some 1)∧(A09 Tryz.prog 277=some (.pointer none))∧(A04 Tryz.prog 277=some 8)):=by
 (repeat' refine Qv5 ?_ ?_)<;>kernel_rfl
attribute [go_sem] ty
def A0n (n:Int):TVal:= .t (.int .i64 n)
def A0x (b:Bool):TVal:= .t (.bool b)
def A3v (a b:Int):TVal:= .agg [.int .i64 a,.int .i64 b]
attribute [go_sem] A0n A0x A3v
def C1K (n:Int):ACall Tryz.prog 143 [A0n n] (A0x false):=by
 refine ACall.of_body Tryz.func143 rfl (by kernel_rfl) ?_;simp only [entry,Tryz.ntmps143,A0n];refine zU ?_;refine zR Qv6 Qv6 Qv6 ?_;simp [A00,A0z,Blk.cells,ty,Tryz.results143,A0v,A0w,toT,A0d,A0b,A0c,A0a,A0x]
def A8W (n v:Int):ACall Tryz.prog 146 [A0n n,A0n v] (A0x (decide (0≤v∧v<n))):=by
 refine ACall.of_body Tryz.func146 rfl (by kernel_rfl) ?_;simp only [entry,Tryz.ntmps146,A0n];refine zU ?_;refine zM Qv6 Qv6 Qv6 Qv6 Qv6 (zc (ed fun hp hpc=>?_) (ed fun hp hpc=>?_))
 all_goals
  simp [A00,A0z,Blk.cells,ty,Tryz.results146,A0v,A0w,toT,A0d,A0b,A0c,A0a,A0x]
 all_goals omega
def A6e (a b:Int):Int:=if a<b then -1 else if b<a then 1 else 0
def B0p (a b:Int):ACall Tryz.prog 83 [A0n a,A0n b] (A0n (A6e a b)):=by
 refine ACall.of_body Tryz.func83 rfl (by kernel_rfl) ?_;simp only [entry,Tryz.ntmps83,A0n];refine zU ?_;refine zM Qv6 Qv6 (zc C1K Qv6) Qv6 Qv6 (zc (ed fun hp hpc=>?_) (zc (ed fun hp hpc=>?_) (ed fun hp hpc=>?_)))
 all_goals
  simp [A00,A0z,Blk.cells,ty,Tryz.results83,A0v,A0w,toT,A0d,A0b,A0c,A0a,A0n,A6e]
 all_goals omega
def ints (xs:List Int):Tree:= .slice (xs.map fun x=>[.int .i64 x])
def orI:List Int->Int
 | []=>0
 | x::xs=>if x≠0 then x else orI xs
def C7f (xs:List Int) (hl:xs.length<2^40):ACall Tryz.prog 179 [.t (ints xs)] (A0n (orI xs)):=by
 refine ACall.of_body Tryz.func179 rfl (by kernel_rfl) ?_;simp only [entry,Tryz.ntmps179,ints];refine zU ?_;refine zM Qv6 (zc @XW.{0,0} Qv6) Qv6 Qv6 Qv6 (ed fun hp hpc=>?_);refine AWp.loopS (α:=Nat) 18 (fun k=>[(3,.c (.int .i64 0)),(6,.c (.slice (xs.map fun x=>[.int .i64 x]) .none)),(7,.c (.int .i64 xs.length)),(8,.c (.int .i64 (k:Int)))]) (fun k=>[]) (fun k=>k≤xs.length∧orI xs=orI (xs.drop k)) (fun k=>xs.length-k) (0) (hk:=Weak.headL 0 18 [3,6,7,8] zW) (h0:=?_) (round:=fun k hI=>?_)
 ·exact ⟨Xw _,rfl⟩
 ·obtain ⟨hk,hx⟩:=hI;by_cases hlt:k<xs.length
  ·have e1:xs[k]? =some xs[k]:=Qq hlt;refine zM Qv6 (zc @QW.{0,0} (zc @e1 Qv6)) Qv6 Qv6 Qv6 (zc (ed fun hp hpc=>?_) (ed fun hp hpc=>?_))
   ·have hxk:orI xs=xs[k]:=by rw [hx,Zz hlt,orI]; simp_all
    simp [A00,A0z,Blk.cells,ty,Tryz.results179,A0v,A0w,toT,A0d,A0b,A0c,A0a,A0n,hxk]
   ·refine ⟨k+1,Weak.headN 0 18 [3,6,7,8] zW,?_,?_⟩
    ·exact ⟨hlt,by rw [hx,Zz hlt,orI]; simp_all⟩
    ·omega
  ·have ek:k=xs.length:=by omega
   have h0:orI xs=0:=by rw [hx,ek,Qq2,orI]
   refine zR (zc @ZJ Qv6) Qv6 Qv6 ?_;simp [A00,A0z,Blk.cells,ty,Tryz.results179,A0v,A0w,toT,A0d,A0b,A0c,A0a,A0n,h0]
def B0q (a b c d:Int):ACall Tryz.prog 149 [A3v a b,A3v c d] (A0n (orI [A6e a c,A6e b d])):=by
 refine ACall.of_body Tryz.func149 rfl (by kernel_rfl) ?_;simp only [entry,Tryz.ntmps149,A3v];refine zU ?_
 repeat' (first|((first|(refine zT ?_;intro K' hK')|(refine zG ?_ ?_<;>(try refine zH ?_)<;>intro hguard<;>(try exact zX)<;>try intro K' hK'))<;>((try simp+contextual only [go_sem,ints,chunks,List.range,List.range.loop]);(repeat' first|(with_reducible refine hK' _ _ ?_;clear hK' K')|((with_reducible first|refine zK (B0p _ _) ?_|refine zL (c:=C7f [_,_] (by simp)) (q:=?_));try simp+contextual only [go_sem,ints,chunks,List.range,List.range.loop])|exact zY|with_reducible refine Qv5 ?_ ?_|(with_reducible intro hpath;try exact zP)|(refine hK' _ _ ?_;clear hK' K')|fail);try refine zS ?_))|(refine zE ?_;refine hK _ _ ?_;clear hK K)|(refine zN ?_;try refine zS ?_)|refine zA ?_|(refine zB ?_;intro K hK)|(refine zC ?_ ?_<;>(try refine zH ?_)<;>intro hcond<;>try exact zX)|fail)
 simp [A00,A0z,Blk.cells,ty,Tryz.results149,A0v,A0w,toT,A0d,A0b,A0c,A0a,A0n]
def B87 (a b:Int):ACall Tryz.prog 147 [A0n a,A0n b] (A3v (min a b) (max a b)):=by
 refine ACall.of_body Tryz.func147 rfl (by kernel_rfl) ?_;simp only [entry,Tryz.ntmps147,A0n];refine zU ?_;refine zM trivial trivial trivial trivial trivial (ed fun hp hpc=>?_)
 all_goals
  simp [A00,A0z,Blk.cells,ty,Tryz.results147,A0v,A0w,toT,A0d,A0b,A0c,A0a,A3v]
structure E where
 (a b m:Int)
structure G where
 (n:Int) (es:List E)
def C1L (e:E):List Tree:=[.int .i64 e.a,.int .i64 e.b,.int .i64 e.m]
def A0f (es:List E):List (List Tree):=es.map C1L
def tG (g:G):TVal:= .agg [.int .i64 g.n,.slice (A0f g.es)]
attribute [go_sem] tG
def C6S (p:Int×Int):List Tree:=[.int .i64 p.1,.int .i64 p.2]
def A1g (l:List (Int×Int)):List (List Tree):=l.map C6S
def endsL (es:List E):List (Int×Int):=es.flatMap fun e=>List.replicate e.m.toNat (e.a,e.b)
def A07 (es:List E):(A0f es).length=es.length:=by simp [A0f]
def A08 (es:List (Int×Int)):(A1g es).length=es.length:=by simp [A1g]
variable {i:Nat}
def A27 {l:List (Int×Int)} {p:Int×Int} (h:l[i]? =some p):(A1g l)[i]? =some [.int .i64 p.1,.int .i64 p.2]:=by simp [A1g,C6S,h]
def B0r (l:List (Int×Int)) (a b:Int):A1g l++[[.int .i64 a,.int .i64 b]]=A1g (l++[(a,b)]):=by simp [A1g,C6S]
def A6v {l:List (Int×Int)} {r:List Tree} (h:r∈A1g l):r.length=2:=by
 obtain ⟨x,_,rfl⟩:=QJ.1 h;rfl
def A39 (a b:List E):endsL (a++b)=endsL a++endsL b:=by unfold endsL; exact List.flatMap_append
def B2A (e:E):endsL [e]=List.replicate e.m.toNat (e.a,e.b):=by simp [endsL]
variable {es:List E}
def A1z (h:i<es.length):endsL (es.take (i+1))=endsL (es.take i)++List.replicate es[i].m.toNat (es[i].a,es[i].b):=by
 rw [XZ h,A39,B2A]
def A6w (es:List E) (i:Nat):(endsL (es.take i)).length≤(endsL es).length:=by
 have:endsL es=endsL (es.take i)++endsL (es.drop i):=by rw [<-A39,Jv]
 rw [this,Xv]; omega
def A2g {e:E} (h:es[i]? =some e):(A0f es)[i]? =some [.int .i64 e.a,.int .i64 e.b,.int .i64 e.m]:=by
 simp [A0f,h,C1L]
def B5s (g:G) (hs:(endsL g.es).length<2^40) (hl:g.es.length<2^40) (hm: ∀e,e∈g.es->e.m<2^40):ACall Tryz.prog 86 [tG g] (.t (.slice (A1g (endsL g.es)))):=by
 refine ACall.of_body Tryz.func86 rfl (by kernel_rfl) ?_;simp only [entry,Tryz.ntmps86,tG];refine zU ?_;refine zR Qv6 Qv6 Qv6 ?_;refine AWp.weak (Weak.opens ((fun t f=>[f,f,f,t,f,f,f,f,f,f,f,f,f,f,f,f,f,f,f,f,f,f,f,f,f,f,f,f,f,f,f,f,f,f,f,f,f,f,f,f]) true false) 2 (by first | omega | simp)) ?_;simp only [A2F,A8H,List.length_cons,List.length_nil,Xv,Nat.reduceAdd,List.cons_append,List.nil_append];refine AWp.loopS (α:=Nat) 40 (fun i=>[(1,.c (.ptr 0 0)),(3,.c (.slice (A1g (endsL (g.es.take i))) (.chain 1))),(4,.c (.int .i64 (i:Int)))]) (fun i=>[.box [.int .i64 g.n,.slice (A0f g.es) .none],.chain (endsL (g.es.take i)).length 2]) (fun i=>i≤g.es.length) (fun i=>g.es.length-i) (0) (hk:=Weak.headL 2 40 [1,3,4] zW) (h0:=?_) (round:=fun i hI=>?_)
 ·exact Xw _
 ·by_cases hlt:i<g.es.length
  ·have e1:g.es[i]? =some g.es[i]:=Qq hlt;have e2:=A2g e1;have hle:=A6w g.es (i+1);rw [A1z hlt,Xv,Yz] at hle;have hmi:=hm g.es[i] (Xk hlt);refine zM Qv6 (zc @A07 (zc @ZJ Qv6)) Qv6 Qv6 Qv6 (ed fun hp hpc=>?_)
   ·
    refine AWp.loopS (α:=Nat) 40 (fun k=>[(1,.c (.ptr 0 0)),(3,.c (.slice (A1g (endsL (g.es.take i)++List.replicate k (g.es[i].a,g.es[i].b))) (.chain 1))),(4,.c (.int .i64 (i:Int))),(5,.c (.int .i64 (k:Int)))]) (fun k=>[.box [.int .i64 g.n,.slice (A0f g.es) .none],.chain ((endsL (g.es.take i)).length+k) 2]) (fun k=>k≤g.es[i].m.toNat) (fun k=>g.es[i].m.toNat-k) (0) (hk:=Weak.headL 2 40 [1,3,4,5] zW) (h0:=?_) (round:=fun k hI=>?_)
    ·exact Xw _
    ·by_cases hk:(k:Int)<g.es[i].m
     ·
      have hk2:k<g.es[i].m.toNat:=by omega
      repeat' (first|((first|(refine zT ?_;intro K' hK')|(refine zG ?_ ?_<;>(try refine zH ?_)<;>intro hguard<;>(try exact zX)<;>try intro K' hK'))<;>((try simp+contextual only [go_sem,e2,Int.toNat_natCast,Xv,Yz,A08,chunks,List.range,List.range.loop,B0r,Zk,<-List.replicate_succ']);(repeat' first|(with_reducible refine hK' _ _ ?_;clear hK' K')|(with_reducible exact A6v (by assumption))|exact zY|with_reducible refine Qv5 ?_ ?_|(with_reducible intro hpath;try exact zP)|(refine hK' _ _ ?_;clear hK' K')|fail);try refine zS ?_))|(refine zE ?_;refine hK _ _ ?_;clear hK K)|(refine zN ?_;try refine zS ?_)|refine zA ?_|(refine zB ?_;intro K hK)|(refine zC ?_ ?_<;>(try refine zH ?_)<;>intro hcond<;>try exact zX)|fail)
      refine ⟨k+1,Weak.headN 2 40 [1,3,4,5] zW (e1:=by first|rfl|(simp [mask,A1D,Wv,List.replicate_succ];done)|(simp [mask,A1D,Wv,List.replicate_succ]<;>simp_all<;>omega)) (e2:=by first|rfl|(simp [mask,A1D,Wv,List.replicate_succ];done)|(simp [mask,A1D,Wv,List.replicate_succ]<;>simp_all<;>omega)),?_,?_⟩
      ·exact hk2
      ·omega
     ·
      have ek:k=g.es[i].m.toNat:=by omega
      refine zR (zc @e2 Qv6) Qv6 Qv6 ?_;refine ⟨i+1,Weak.headN 2 40 [1,3,4] zW (e1:=by first|rfl|(simp [mask,A1D,A1z hlt,ek];done)|(simp [mask,A1D,A1z hlt,ek]<;>simp_all<;>omega)) (e2:=by first|rfl|(simp [mask,A1D,A1z hlt,ek];done)|(simp [mask,A1D,A1z hlt,ek]<;>simp_all<;>omega)),?_,?_⟩
      ·exact hlt
      ·omega
  ·have ei:i=g.es.length:=by omega
   refine zR (zc @A07 (zc @ZJ Qv6)) Qv6 Qv6 ?_;simp [A00,A0z,Blk.cells,ty,Tryz.results86,A0v,A0w,toT,A0d,A0b,A0c,A0a,ei]
def B2B (g:G) (v:Int):ACall Tryz.prog 151 [tG g,A0n v] (A0x (decide (0≤v∧v<g.n))):=by
 refine ACall.of_body Tryz.func151 rfl (by kernel_rfl) ?_;simp only [entry,Tryz.ntmps151,tG,A0n];refine zU ?_;refine zM Qv6 Qv6 Qv6 Qv6 Qv6 (zc (ed fun hp hpc=>?_) (ed fun hp hpc=>?_))
 all_goals
  simp [A00,A0z,Blk.cells,ty,Tryz.results151,A0v,A0w,toT,A0d,A0b,A0c,A0a,A0x]
 all_goals omega
def A4V (n:Int) (es:List E) (i:Nat):Int:=
 match es[i]? with
 | none=>0
 | some x=>
  if ¬(0≤x.a∧x.a<n)∨ ¬(0≤x.b∧x.b<n)∨x.m<1∨50<x.m then 2
  else if x.b<x.a then 9
  else match i with
   | 0=>0
   | j+1=>match es[j]? with
    | none=>0
    | some y=>if x.a<y.a∨(x.a=y.a∧x.b≤y.b) then 9 else 0
def C4j (g:G) (i:Nat) (hi:i<g.es.length) (hl:g.es.length<2^40):ACall Tryz.prog 96 [tG g,A0n i] (A0n (A4V g.n g.es i)):=by
 have e1:g.es[i]? =some g.es[i]:=Qq hi;have e2:=A2g e1;cases i with
 | zero=>
  refine ACall.of_body Tryz.func96 rfl (by kernel_rfl) ?_;simp only [entry,Tryz.ntmps96,tG,A0n];refine zU ?_;refine zM Qv6 (zc @e2 (zc @Int.natCast_zero Qv6)) (zc (B2B g) Qv6) Qv6 Qv6 (zc (ed fun hp hpc=>?_) (zc (ed fun hp hpc=>?_) (zc (ed fun hp hpc=>?_) (zc (ed fun hp hpc=>?_) (zc (ed fun hp hpc=>?_) (ed fun hp hpc=>?_))))))
  all_goals
   simp [A00,A0z,Blk.cells,ty,Tryz.results96,A0v,A0w,toT,A0d,A0b,A0c,A0a,A0n,A4V,e1]
  all_goals omega
 | succ j=>
  have hj:j<g.es.length:=by omega
  have f1:g.es[j]? =some g.es[j]:=Qq hj;have f2:=A2g f1;have e4:((j+1:Nat):Int)-1=j:=by omega
  have e5:((j+1:Nat):Int).toNat=j+1:=by omega
  have e6:((j:Nat):Int).toNat=j:=by omega
  refine ACall.of_body Tryz.func96 rfl (by kernel_rfl) ?_;simp only [entry,Tryz.ntmps96,tG,A0n];refine zU ?_
  repeat' (first|((first|(refine zT ?_;intro K' hK')|(refine zG ?_ ?_<;>(try refine zH ?_)<;>intro hguard<;>(try exact zX)<;>try intro K' hK'))<;>((try simp+contextual only [go_sem,e2,e4,e5,e6,f2]);(repeat' first|(with_reducible refine hK' _ _ ?_;clear hK' K')|(with_reducible refine zK (B2B g _) ?_;try simp+contextual only [go_sem,e2,e4,e5,e6,f2])|exact zY|with_reducible refine Qv5 ?_ ?_|(with_reducible intro hpath;try exact zP)|(refine hK' _ _ ?_;clear hK' K')|fail);try refine zS ?_))|(refine zE ?_;refine hK _ _ ?_;clear hK K)|(refine zN ?_;try refine zS ?_)|refine zA ?_|(refine zB ?_;intro K hK)|(refine zC ?_ ?_<;>(try refine zH ?_)<;>intro hcond<;>try exact zX)|fail)
  all_goals
   simp [A00,A0z,Blk.cells,ty,Tryz.results96,A0v,A0w,toT,A0d,A0b,A0c,A0a,A0n,A4V,e1,f1]
  all_goals omega
def A4W (n:Int) (es:List E):Nat->Int
 | 0=>0
 | k+1=>if A4V n es (es.length-(k+1))≠0 then A4V n es (es.length-(k+1)) else A4W n es k
def checkG (g:G):Int:=if g.n<1∨12<g.n then 2 else A4W g.n g.es g.es.length
def A6x (g:G) (hl:g.es.length<2^40):ACall Tryz.prog 47 [tG g] (A0n (checkG g)):=by
 refine ACall.of_body Tryz.func47 rfl (by kernel_rfl) ?_;simp only [entry,Tryz.ntmps47,tG];refine zU ?_;refine zM Qv6 Qv6 Qv6 Qv6 Qv6 (zc (ed fun hp hpc=>?_) (zc (ed fun hp hpc=>?_) (ed fun hp hpc=>?_)))
 ·
  simp [A00,A0z,Blk.cells,ty,Tryz.results47,A0v,A0w,toT,A0d,A0b,A0c,A0a,A0n,checkG]
  all_goals omega
 ·
  refine AWp.loopS (α:=Nat) 26 (fun i=>[(1,.c (.ptr 0 0)),(3,.c (.int .i64 (i:Int)))]) (fun i=>[.box [.int .i64 g.n,.slice (A0f g.es) .none]]) (fun i=>i≤g.es.length∧checkG g=A4W g.n g.es (g.es.length-i)) (fun i=>g.es.length-i) (0) (hk:=Weak.headL 1 26 [1,3] zW) (h0:=?_) (round:=fun i hI=>?_)
  ·exact ⟨Xw _,by simp only [checkG,Nat.sub_zero]; rw [if_neg (by omega)]⟩
  ·obtain ⟨hi,hx⟩:=hI;by_cases hlt:i<g.es.length
   ·have es:g.es.length-i=(g.es.length-(i+1))+1:=by omega
    have ei:g.es.length-(g.es.length-(i+1)+1)=i:=by omega
    rw [es,A4W,ei] at hx;refine zM Qv6 (zc @A07 (zc @ZJ Qv6)) (zc (C4j g i hlt hl) Qv6) Qv6 Qv6 (zc (ed fun hp hpc=>?_) (ed fun hp hpc=>?_))
    ·have hx2:checkG g=A4V g.n g.es i:=by rw [hx,if_pos hpc]
     simp [A00,A0z,Blk.cells,ty,Tryz.results47,A0v,A0w,toT,A0d,A0b,A0c,A0a,A0n,hx2]
    ·refine ⟨i+1,Weak.headN 1 26 [1,3] zW,?_,?_⟩
     ·exact ⟨hlt,by rw [hx,if_neg (by omega)]⟩
     ·omega
   ·have ei:i=g.es.length:=by omega
    have h0:checkG g=0:=by rw [hx,ei,Jz,A4W]
    refine zR (zc @A07 (zc @ZJ Qv6)) Qv6 Qv6 ?_;simp [A00,A0z,Blk.cells,ty,Tryz.results47,A0v,A0w,toT,A0d,A0b,A0c,A0a,A0n,h0]
 ·
  simp [A00,A0z,Blk.cells,ty,Tryz.results47,A0v,A0w,toT,A0d,A0b,A0c,A0a,A0n,checkG]
  all_goals omega
def A8g (g:G) (hs:(endsL g.es).length<2^40) (hl:g.es.length<2^40) (hm: ∀e,e∈g.es->e.m<2^40):ACall Tryz.prog 38 [tG g] (A0n (endsL g.es).length):=by
 refine ACall.of_body Tryz.func38 rfl (by kernel_rfl) ?_;simp only [entry,Tryz.ntmps38,tG];refine zU ?_;refine zM Qv6 (zc @A08 Qv6) (zc (B5s g hs hl hm) Qv6) Qv6 Qv6 (ed fun hp hpc=>?_)
 all_goals
  simp [A00,A0z,Blk.cells,ty,Tryz.results38,A0v,A0w,toT,A0d,A0b,A0c,A0a,A0n]
def A7k (es:List E):Nat->Int×Int
 | 0=>(-1,-1)
 | j+1=>match es[j]? with
  | some y=>(y.a,y.b)
  | none=>(-1,-1)
def B7N (n:Int) (x:E):Prop:= ¬(0≤x.a∧x.a<n)∨ ¬(0≤x.b∧x.b<n)∨x.m<1∨50<x.m
def A6y {n:Int} (hi:i<es.length) (h:B7N n es[i]):A4V n es i=2:=by
 unfold A4V; rw [Qq hi]; exact if_pos h
def B0s {n:Int} (hi:i<es.length) (h: ¬B7N n es[i]) (h2:es[i].b<es[i].a∨0≤orI [A6e (A7k es i).1 es[i].a,A6e (A7k es i).2 es[i].b]):A4V n es i=9:=by
 unfold A4V; rw [Qq hi];simp only;unfold B7N at h;rw [if_neg h];by_cases hb:es[i].b<es[i].a
 ·rw [if_pos hb]
 ·rw [if_neg hb];rcases h2 with h2 | h2
  ·exact absurd h2 hb
  ·cases i with
   | zero=>exfalso; simp only [A7k,orI,A6e] at h2; (repeat' split at h2)<;>omega
   | succ j=>
    have hj:j<es.length:=by omega
    simp only [A7k,Qq hj,orI,A6e] at h2 ⊢;rw [if_pos]
    (repeat' split at h2)<;>omega
def B6E {n:Int} (hi:i<es.length) (h: ¬B7N n es[i]) (h1: ¬es[i].b<es[i].a) (h2: ¬0≤orI [A6e (A7k es i).1 es[i].a,A6e (A7k es i).2 es[i].b]):A4V n es i=0:=by
 unfold A4V; rw [Qq hi];simp only;unfold B7N at h;rw [if_neg h,if_neg h1];cases i with
 | zero=>rfl
 | succ j=>
  have hj:j<es.length:=by omega
  simp only [A7k,Qq hj,orI,A6e] at h2 ⊢;rw [if_neg]
  (repeat' split at h2)<;>omega
def A8h (g:G) (hl:g.es.length<2^40):ACall Tryz.prog 93 [tG g] (A0n (checkG g)):=by
 refine ACall.of_body Tryz.func93 rfl (by kernel_rfl) ?_;simp only [entry,Tryz.ntmps93,tG];refine zU ?_;refine zM Qv6 (zc @A07 Qv6) Qv6 Qv6 Qv6 (zc (ed fun hp hpc=>?_) (zc (ed fun hp hpc=>?_) (ed fun hp hpc=>?_)))
 ·
  simp [A00,A0z,Blk.cells,ty,Tryz.results93,A0v,A0w,toT,A0d,A0b,A0c,A0a,A0n,checkG]
  all_goals omega
 ·
  refine AWp.loopS (α:=Nat) 67 (fun i=>[(1,.c (.ptr 0 0)),(3,.c (.ptr 1 0)),(17,.c (.slice (A0f g.es) .none)),(18,.c (.int .i64 g.es.length)),(19,.c (.int .i64 (i:Int)))]) (fun i=>[.box [.int .i64 g.n,.slice (A0f g.es) .none],.box [.int .i64 (A7k g.es i).1,.int .i64 (A7k g.es i).2]]) (fun i=>i≤g.es.length∧checkG g=A4W g.n g.es (g.es.length-i)) (fun i=>g.es.length-i) (0) (hk:=Weak.headL 2 67 [1,3,17,18,19] zW) (h0:=?_) (round:=fun i hI=>?_)
  ·exact ⟨Xw _,by simp only [checkG,Nat.sub_zero]; rw [if_neg (by omega)]⟩
  ·obtain ⟨hi,hx⟩:=hI;by_cases hlt:i<g.es.length
   ·have es:g.es.length-i=(g.es.length-(i+1))+1:=by omega
    have ei:g.es.length-(g.es.length-(i+1)+1)=i:=by omega
    rw [es,A4W,ei] at hx;have e1:g.es[i]? =some g.es[i]:=Qq hlt;have e2:=A2g e1
    repeat' (first|((first|(refine zT ?_;intro K' hK')|(refine zG ?_ ?_<;>(try refine zH ?_)<;>intro hguard<;>(try exact zX)<;>try intro K' hK'))<;>((try simp+contextual only [go_sem,e2,Int.toNat_natCast]);(repeat' first|(with_reducible refine hK' _ _ ?_;clear hK' K')|((with_reducible first|refine zK (A8W _ _) ?_|refine zK (B0q _ _ _ _) ?_);try simp+contextual only [go_sem,e2,Int.toNat_natCast])|exact zY|with_reducible refine Qv5 ?_ ?_|(with_reducible intro hpath;try exact zP)|(refine hK' _ _ ?_;clear hK' K')|fail);try refine zS ?_))|(refine zE ?_;refine hK _ _ ?_;clear hK K)|(refine zN ?_;try refine zS ?_)|refine zA ?_|(refine zB ?_;intro K hK)|(refine zC ?_ ?_<;>(try refine zH ?_)<;>intro hcond<;>try exact zX)|fail)
    ·have h2:checkG g=2:=by rw [hx,A6y hlt (by unfold B7N; omega),if_pos (by decide)]
     simp [A00,A0z,Blk.cells,ty,Tryz.results93,A0v,A0w,toT,A0d,A0b,A0c,A0a,A0n,h2]
    ·have h9:checkG g=9:=by rw [hx,B0s hlt (by unfold B7N; omega) (by first | exact .inl (by assumption) | exact .inr (by assumption)),if_pos (by decide)]
     simp [A00,A0z,Blk.cells,ty,Tryz.results93,A0v,A0w,toT,A0d,A0b,A0c,A0a,A0n,h9]
    ·have h0:A4V g.n g.es i=0:=B6E hlt (by unfold B7N; omega) (by omega) (by omega);refine ⟨i+1,Weak.headN 2 67 [1,3,17,18,19] zW (e1:=by first|rfl|(simp [mask,A1D,A7k,e1];done)|(simp [mask,A1D,A7k,e1]<;>simp_all<;>omega)) (e2:=by first|rfl|(simp [mask,A1D,A7k,e1];done)|(simp [mask,A1D,A7k,e1]<;>simp_all<;>omega)),?_,?_⟩
     ·exact ⟨hlt,by rw [hx,if_neg (by omega)]⟩
     ·omega
    ·have h9:checkG g=9:=by rw [hx,B0s hlt (by unfold B7N; omega) (by first | exact .inl (by assumption) | exact .inr (by assumption)),if_pos (by decide)]
     simp [A00,A0z,Blk.cells,ty,Tryz.results93,A0v,A0w,toT,A0d,A0b,A0c,A0a,A0n,h9]
    ·have h2:checkG g=2:=by rw [hx,A6y hlt (by unfold B7N; omega),if_pos (by decide)]
     simp [A00,A0z,Blk.cells,ty,Tryz.results93,A0v,A0w,toT,A0d,A0b,A0c,A0a,A0n,h2]
    ·have h2:checkG g=2:=by rw [hx,A6y hlt (by unfold B7N; omega),if_pos (by decide)]
     simp [A00,A0z,Blk.cells,ty,Tryz.results93,A0v,A0w,toT,A0d,A0b,A0c,A0a,A0n,h2]
    ·have h2:checkG g=2:=by rw [hx,A6y hlt (by unfold B7N; omega),if_pos (by decide)]
     simp [A00,A0z,Blk.cells,ty,Tryz.results93,A0v,A0w,toT,A0d,A0b,A0c,A0a,A0n,h2]
   ·have ei:i=g.es.length:=by omega
    have h0:checkG g=0:=by rw [hx,ei,Jz,A4W]
    refine zR (zc @A07 (zc @ZJ Qv6)) Qv6 Qv6 ?_;simp [A00,A0z,Blk.cells,ty,Tryz.results93,A0v,A0w,toT,A0d,A0b,A0c,A0a,A0n,h0]
 ·
  simp [A00,A0z,Blk.cells,ty,Tryz.results93,A0v,A0w,toT,A0d,A0b,A0c,A0a,A0n,checkG]
  all_goals omega
def A7G (l:List (Int×Int)):List (List TVal):=l.zipIdx.map fun p=>[A0n (p.2:Int),A3v p.1.1 p.1.2]
def A7l (l:List (Int×Int)):(A7G l).length=l.length:=by simp [A7G]
def B6F {l:List (Int×Int)} {p:Int×Int} (h:l[i]? =some p):(A7G l)[i]? =some [A0n (i:Int),A3v p.1 p.2]:=by
 simp [A7G,h]
def A7m {l:List (Int×Int)} {ts:List TVal} (h:(A7G l)[i]? =some ts): ∃p,l[i]? =some p∧ts=[A0n (i:Int),A3v p.1 p.2]:=by
 simp only [A7G,QW,Qz9] at h;cases hl:l[i]? with
 | none=>simp [hl] at h
 | some p=>simp [hl] at h; exact ⟨p,rfl,h.symm⟩
def B88 {i k:Nat} (h:i<es.length) (hk:k<(es[i]'h).m.toNat):(endsL es)[(endsL (es.take i)).length+k]? =some (es[i].a,es[i].b):=by
 have e:endsL es=endsL (es.take i)++(List.replicate es[i].m.toNat (es[i].a,es[i].b)++endsL (es.drop (i+1))):=by
  rw [<-Zk,<-A1z h,<-A39,Jv]
 rw [e,QV (by omega),Nat.add_sub_cancel_left,Qk (by rw [Yz]; exact hk)];rw [Qx5,if_pos hk]
def A8X (g:G) (hs:(endsL g.es).length<2^40) (hl:g.es.length<2^40) (hm: ∀e,e∈g.es->e.m<2^40):AIter Tryz.prog 150 [.rptr [.int .i64 g.n,.slice (A0f g.es)]] (A7G (endsL g.es)):=by
 refine AIter.of_body Tryz.func150 rfl (by kernel_rfl) rfl (fun l J Jx hJ hJx hY=> ?_);simp only [entry,Tryz.ntmps150,ofT,A3u,A02,XQ,ZX,List.length_cons,List.length_nil,Nat.reduceAdd,Nat.reduceSub,List.replicate_succ,List.replicate_zero,List.cons_append,List.nil_append];refine zR (zc @A07 Qv6) Qv6 Qv6 ?_;refine AWp.loopS (α:=Nat) 30 (fun i=>[(0,.c (.yld l)),(1,.c (.rptr [.int .i64 g.n,.slice (A0f g.es)])),(3,.c (.int .i64 ((endsL (g.es.take i)).length:Int))),(7,.c (.slice (A0f g.es) .none)),(8,.c (.int .i64 (g.es.length:Int))),(9,.c (.int .i64 (i:Int)))]) (fun i=>[.ghost (J (endsL (g.es.take i)).length)]) (fun i=>i≤g.es.length) (fun i=>g.es.length-i) (0) (hk:=Weak.headL 1 30 [0,1,3,7,8,9] zW) (h0:=?_) (round:=fun i hI=>?_)
 ·exact Xw _
 ·by_cases hlt:i<g.es.length
  ·have e1:g.es[i]? =some g.es[i]:=Qq hlt;have e2:=A2g e1;have hle:=A6w g.es (i+1);rw [A1z hlt,Xv,Yz] at hle;have hmi:=hm g.es[i] (Xk hlt);refine zM Qv6 (zc @A07 (zc @ZJ (zc @e2 Qv6))) Qv6 Qv6 Qv6 (ed fun hp hpc=>?_)
   ·
    refine AWp.loopS (α:=Nat) 30 (fun k=>[(0,.c (.yld l)),(1,.c (.rptr [.int .i64 g.n,.slice (A0f g.es)])),(3,.c (.int .i64 (((endsL (g.es.take i)).length+k:Nat):Int))),(5,.c (.ptr 1 0)),(7,.c (.slice (A0f g.es) .none)),(8,.c (.int .i64 (g.es.length:Int))),(9,.c (.int .i64 (i:Int))),(14,.c (.int .i64 g.es[i].m)),(15,.c (.int .i64 (k:Int)))]) (fun k=>[.ghost (J ((endsL (g.es.take i)).length+k)),.box [.int .i64 g.es[i].a,.int .i64 g.es[i].b,.int .i64 g.es[i].m]]) (fun k=>k≤g.es[i].m.toNat) (fun k=>g.es[i].m.toNat-k) (0) (hk:=Weak.headL 2 30 [0,1,3,5,7,8,9,14,15] zW) (h0:=?_) (round:=fun k hI=>?_)
    ·exact Xw _
    ·by_cases hk:(k:Int)<g.es[i].m
     ·
      have hk2:k<g.es[i].m.toNat:=by omega
      have hget:=B6F (B88 hlt hk2);refine zM (zc Qv6 (prt 6 7)) Qv6 Qv6 Qv6 Qv6 (ed fun hp hpc=>?_);simp only [Zw,ZY];refine AReg.yield rfl rfl rfl (by rfl) (by with_unfolding_all rfl) (by simp [okBlk]) (hY _ _ hget) (hJ _) hJx ?_ ?_<;>(try refine zS ?_)<;>refine AReg.rest (fun K hK=> ?_)
      ·
       refine zM trivial trivial trivial trivial trivial (ed fun hp hpc=>?_);refine ⟨k+1,Weak.headF 2 30 [0,1,3,5,7,8,9,14,15] (zc @Wv Qv6) zW,?_,?_⟩
       ·exact hk2
       ·omega
      ·
       refine zM trivial trivial trivial trivial trivial (ed fun hp hpc=>?_);exact ⟨Qv4,_,.inr rfl⟩
     ·
      have ek:k=g.es[i].m.toNat:=by omega
      refine zR (zc @e2 Qv6) Qv6 Qv6 ?_;refine ⟨i+1,Weak.headN 1 30 [0,1,3,7,8,9] zW (e1:=by first|rfl|(simp [mask,A1D,A1z hlt,ek];done)|(simp [mask,A1D,A1z hlt,ek]<;>simp_all<;>omega)) (e2:=by first|rfl|(simp [mask,A1D,A1z hlt,ek];done)|(simp [mask,A1D,A1z hlt,ek]<;>simp_all<;>omega)),?_,?_⟩
      ·exact hlt
      ·omega
  ·have ei:i=g.es.length:=by omega
   refine zR (zc @A07 (zc @ZJ Qv6)) Qv6 Qv6 ?_;exact ⟨Qv4,_,.inl (by rw [A7l,ei,Zy])⟩
def B0t (g:G):ACall Tryz.prog 94 [tG g] (.t (.fn 150 [.rptr [.int .i64 g.n,.slice (A0f g.es)]])):=by
 refine ACall.of_body Tryz.func94 rfl (by kernel_rfl) ?_;simp only [entry,Tryz.ntmps94,tG];refine zU ?_;refine zR Qv6 Qv6 Qv6 ?_;simp [A00,A0z,Blk.cells,ty,Tryz.results94,A0v,A0w,toT,A0d,A0b,A0c,A0a]
def B2C {l:List (Int×Int)} {n:Nat} (hn:n=2) (k:Nat) (ts:List TVal) (h:(A7G l)[k]? =some ts):ts.length=n:=by
 obtain ⟨p,_,rfl⟩:=A7m h; exact hn.symm
def take_snoc {α:Type} {l:List α} {k:Nat} {p:α} (h:l[k]? =some p):l.take (k+1)=l.take k++[p]:=by
 obtain ⟨hk,rfl⟩:=Qx.1 h;exact XZ hk
def B4a {n:Int}: ∀{k:Nat},k≤es.length->(A4W n es k=0↔ ∀i,es.length-k≤i->i<es.length->A4V n es i=0):=by
 intro k
 induction k with
 | zero=>intro _; simp only [A4W,true_iff]; intro i h1 h2; omega
 | succ k ih=>
  intro hk;simp only [A4W];by_cases h:A4V n es (es.length-(k+1))=0
  ·rw [if_neg (by simp [h]),ih (by omega)];constructor
   ·intro hx i h1 h2;by_cases e:i=es.length-(k+1)
    ·subst e; exact h
    ·exact hx i (by omega) h2
   ·intro hx i h1 h2; exact hx i (by omega) h2
  ·rw [if_pos h];constructor
   ·intro hx; exact absurd hx h
   ·intro hx; exact absurd (hx _ (QQ _) (by omega)) h
def ltE (x y:E):Prop:=x.a<y.a∨(x.a=y.a∧x.b<y.b)
def okE (n:Int) (x:E):Prop:=0≤x.a∧x.a≤x.b∧x.b<n∧1≤x.m∧x.m≤50
def A6z {n:Int} (hi:i<es.length):A4V n es i=0↔okE n es[i]∧ ∀j (hj:j+1=i),ltE (es[j]'(by omega)) es[i]:=by
 unfold A4V okE ltE;rw [Qq hi];simp only;by_cases h1: ¬(0≤es[i].a∧es[i].a<n)∨ ¬(0≤es[i].b∧es[i].b<n)∨es[i].m<1∨50<es[i].m
 ·rw [if_pos h1]; constructor
  ·intro h; omega
  ·rintro ⟨h,_⟩; omega
 ·rw [if_neg h1];by_cases h2:es[i].b<es[i].a
  ·rw [if_pos h2]; constructor
   ·intro h; omega
   ·rintro ⟨h,_⟩; omega
  ·rw [if_neg h2];cases i with
   | zero=>simp only [true_iff]; exact ⟨by omega,fun j hj=>by omega⟩
   | succ j=>
    have hj:j<es.length:=by omega
    simp only [Qq hj];constructor
    ·intro h;split at h
     ·omega
     ·refine ⟨by omega,fun j' e=> ?_⟩;have:j'=j:=by omega
      subst this; omega
    ·rintro ⟨h,h3⟩;have:=h3 j rfl;rw [if_neg (by omega)]
def A0j {g:G}:checkG g=0↔(1≤g.n∧g.n≤12)∧(∀e,e∈g.es->okE g.n e)∧g.es.Pairwise ltE:=by
 unfold checkG;by_cases h1:g.n<1∨12<g.n
 ·rw [if_pos h1]; constructor
  ·intro h; omega
  ·rintro ⟨h,_⟩; omega
 ·rw [if_neg h1,B4a (QQ _),Jz];constructor
  ·intro h;refine ⟨by omega,fun e he=> ?_,?_⟩
   ·obtain ⟨i,hi,rfl⟩:=YJ.1 he;exact ((A6z hi).1 (h i (Xw _) hi)).1
   ·rw [ZV];intro i j hi hj hij;have step: ∀d (hd:i+1+d<g.es.length),ltE g.es[i] g.es[i+1+d]:=by
     intro d
     induction d with
     | zero=>intro hd; exact ((A6z hd).1 (h _ (Xw _) hd)).2 i (by omega)
     | succ d ih=>
      intro hd;have h2:=ih (by omega);have h3:=((A6z hd).1 (h _ (Xw _) hd)).2 (i+1+d) (by omega);unfold ltE at*; omega
    have:=step (j-(i+1)) (by omega);have e:i+1+(j-(i+1))=j:=by omega
    simp only [e] at this;exact this
  ·rintro ⟨_,h2,h3⟩ i _ hi;rw [ZV] at h3;exact (A6z hi).2 ⟨h2 _ (Xk hi),fun j hj=>h3 j i (by omega) hi (by omega)⟩
def A60 {es:List E} (h: ∀e,e∈es->e.m≤50):(endsL es).length≤50*es.length:=by
 induction es with
 | nil=>simp [endsL]
 | cons x xs ih=>
  have h1:=h x (by simp);have h2:=ih fun e he=>h e (by simp [he]);have e:endsL (x::xs)=endsL [x]++endsL xs:=by rw [<-A39]; rfl
  rw [e,Xv,B2A,Yz,List.length_cons]; omega
structure Sm (g:G):Prop where
 es:g.es.length<2^40
 m: ∀e,e∈g.es->e.m<2^40
 s:(endsL g.es).length<2^40
def B6G {g:G} (hl:g.es.length<2^30) (h:checkG g=0):Sm g:=by
 obtain ⟨_,h2,_⟩:=A0j.1 h;refine ⟨by omega,fun e he=> ?_,?_⟩
 ·have:=h2 e he; unfold okE at this; omega
 ·have:=A60 (es:=g.es) fun e he=>by have:=h2 e he; unfold okE at this; omega
  omega
def A0E (l:List (Int×Int)):TVal:= .t (.slice (A1g l))
attribute [go_sem] A0E
def B4b (g:G) (hl:g.es.length<2^30):ACall Tryz.prog 122 [tG g] (if checkG g≠0 then .tup [.t (.slice []),A0n (checkG g)] else .tup [A0E (endsL g.es),A0n 0]):=by
 refine ACall.of_body Tryz.func122 rfl (by kernel_rfl) ?_;simp only [entry,Tryz.ntmps122,tG];refine zU ?_;refine zM Qv6 Qv6 (zc (A8h g (by omega)) (zc (B0t g) Qv6)) Qv6 Qv6 (zc (ed fun hp hpc=>?_) (ed fun hp hpc=>?_))
 ·rw [if_pos (by assumption)];simp [A00,A0z,Blk.cells,ty,Tryz.results122,A0v,A0w,toT,A0d,A0b,A0c,A0a,A0n]
 ·
  rw [if_neg (by omega)];have hs:=B6G hl (by omega);refine AWp.weak (Weak.openB 1 0 2 rfl rfl (by omega)) ?_;simp only [List.set_cons_succ,List.set_cons_zero,List.length_cons,List.length_nil,Xv,Nat.reduceAdd,List.cons_append,List.nil_append];refine AWp.weak (Weak.head (m:=3) (by omega) ((fun t f=>[f,t,f,f,f,t,f,f,f,f,f,f,f,f,t,f,f,f,f,f,f,f,f,f,f,f]) true false) (by first | rfl | simp [mask]) (by first | rfl | simp) (by (repeat' (first | exact A0m _ | refine A0k ?_ ?_ | refine A0h ?_ ?_ | exact A0i _ | exact Qv4 | (show _<_; omega) | (intro c hc; cases hc; done) | (intro c hc; simp only [Qw,Qv,or_false] at hc; subst hc; first | exact Qv4 | (show _<_; omega)) | (intro c hc; simp only [Qw,Qv,or_false] at hc; rcases hc with rfl | rfl<;>first | exact Qv4 | (show _<_; omega))))) (by (repeat' (first | exact A0m _ | exact A0s _ | exact A0i _ | refine Qv5 ?_ ?_ | refine A0k ?_ ?_ | refine A0l ?_ ?_ | refine A0h ?_ ?_ | exact Qv4 | (show _<_; omega) | exact A0r (fun _=>Qv4) | (intro c hc; cases hc; done) | (intro c hc; simp only [Qw,Qv,or_false] at hc; subst hc; first | exact Qv4 | (show _<_; omega)) | (intro c hc; simp only [Qw,Qv,or_false] at hc; rcases hc with rfl | rfl<;>first | exact Qv4 | (show _<_; omega)))))) (AWp.rangeFunc (fun k H=>H=[.box [.int .i64 g.n,.slice (A0f g.es) .none],.box [.slice (A1g ((endsL g.es).take k)) (.chain 2)],.chain ((endsL g.es).take k).length 2]∧(True)) (fun _ _=>False) 3 rfl (A8X g hs.s hs.es hs.m) (B2C rfl) (by omega) (by (repeat' (first | exact A0m _ | refine A0k ?_ ?_ | refine A0h ?_ ?_ | exact A0i _ | exact Qv4 | (show _<_; omega) | (intro c hc; cases hc; done) | (intro c hc; simp only [Qw,Qv,or_false] at hc; subst hc; first | exact Qv4 | (show _<_; omega)) | (intro c hc; simp only [Qw,Qv,or_false] at hc; rcases hc with rfl | rfl<;>first | exact Qv4 | (show _<_; omega))))) (by rintro _ _ ⟨rfl,-⟩; simp) (fun _ _ h=>h.elim) ?_ (fun l k ts H hts hI=> ?_) (fun H hI=> ?_) (fun e H h=>h.elim))
  ·exact ⟨rfl,trivial⟩
  ·obtain ⟨rfl,-⟩:=hI;obtain ⟨p,hp,rfl⟩:=A7m hts;simp only [mask,A43,List.zip_cons_cons,Jk,List.zip_nil_left,List.foldl_cons,List.foldl_nil,List.set_cons_succ,List.set_cons_zero,ofT,A3u,A02,XQ,ZX,ofT,A3u,toT,A0w,A0a,A0n,A0x,A3v,tG];have hk:k<(endsL g.es).length:=(Qx.1 hp).1;have hkl:((endsL g.es).take k).length=k:=by rw [YV]; omega
   have:=hs.s;refine zRc (zc @A08 (zc @B0r (zc @hkl Qv6))) Qv6 @A6v ?_;refine ⟨⟨_,_⟩,Weak.head2 (m:=3) (by decide) ((fun t f=>[f,f,f,f,f,f,f,f,f,f,f,f,f,f,f,f,f,f,f,f,f,f,f,f,f,f]) true false) rfl rfl zW,?_,?_⟩
   ·simp [take_snoc hp,hkl]
   ·trivial
  ·obtain ⟨rfl,-⟩:=hI;simp only [mask];refine zR Qv6 Qv6 Qv6 ?_;simp [A00,A0z,Blk.cells,ty,Tryz.results122,A0v,A0w,toT,A0d,A0b,A0c,A0a,A0n,A0E,A7l]
end Go.Proofs.YtdbdfkohpjefjaaGreat
