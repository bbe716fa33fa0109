/- A part of the proof. -/
import Derived.Test.YtdbdfkohpjefjaaGreatLayerC
import Derived.Test.YtdbdfkohpjefjaaGreatProg
set_option linter.all false
set_option maxHeartbeats 4000000
set_option maxRecDepth 100000
namespace Go.Proofs.YtdbdfkohpjefjaaGreat
open Go.Sp
def ty:
 ((A1O Tryz.prog 2=some false)∧(A0u Tryz.prog 2=some 1)∧(A01 Tryz.prog 2=some (.int .i64 0))∧(A0x Tryz.prog 2=some 8)∧(Tryz.prog.underlying 2=some (.int .i64))∧(A1O Tryz.prog 3=some false)∧(A0u Tryz.prog 3=some 1)∧(A01 Tryz.prog 3=some (.int .i64 0))∧(A0x Tryz.prog 3=some 8)∧(Tryz.prog.underlying 3=some (.int .i64))∧(A1O Tryz.prog 4=some false)∧(A0u Tryz.prog 4=some 1)∧(A01 Tryz.prog 4=some (.bool false))∧(A0x Tryz.prog 4=some 1)∧(Tryz.prog.underlying 4=some .bool)∧(A1O Tryz.prog 5=some false))∧
 ((A0u Tryz.prog 5=some 1)∧(A01 Tryz.prog 5=some (.int .u8 0))∧(A0x Tryz.prog 5=some 1)∧(Tryz.prog.underlying 5=some (.int .u8))∧(A1O Tryz.prog 9=some false)∧(A0u Tryz.prog 9=some 1)∧(A01 Tryz.prog 9=some (.string ByteArray.empty))∧(A0x Tryz.prog 9=some 16)∧(A1O Tryz.prog 21=some false)∧(A0u Tryz.prog 21=some 1)∧(A01 Tryz.prog 21=some (.int .i32 0))∧(A0x Tryz.prog 21=some 4)∧(Tryz.prog.underlying 21=some (.int .i32))∧(A1O Tryz.prog 22=some false)∧(A0u Tryz.prog 22=some 1)∧(A01 Tryz.prog 22=some (.slice none 0 0)))∧
 ((A0x Tryz.prog 22=some 24)∧(A03 Tryz.prog 22=some (none,132))∧(A1O Tryz.prog 24=some true)∧(A0u Tryz.prog 24=some 2)∧(A01 Tryz.prog 24=some (.agg #[.int .i64 0,.slice none 0 0]))∧(A0x Tryz.prog 24=some 32)∧(A1z Tryz.prog 24 0=some (0,3))∧(A1z Tryz.prog 24 1=some (1,22))∧(A2l Tryz.prog 24=some (.agg #[.int .i64 0,.slice none 0 0],fun i=>(#[(0,1),(1,1)]:Array (Nat×Nat))[i]?))∧(A1O Tryz.prog 25=some false)∧(A0u Tryz.prog 25=some 1)∧(A01 Tryz.prog 25=some (.slice none 0 0))∧(A0x Tryz.prog 25=some 24)∧(A03 Tryz.prog 25=some (none,28))∧(A1O Tryz.prog 27=some true)∧(A0u Tryz.prog 27=some 3))∧
 ((A01 Tryz.prog 27=some (.agg #[.int .i64 0,.slice none 0 0,.slice none 0 0]))∧(A0x Tryz.prog 27=some 56)∧(A1z Tryz.prog 27 0=some (0,24))∧(A1z Tryz.prog 27 1=some (2,25))∧(A2l Tryz.prog 27=some (.agg #[.int .i64 0,.slice none 0 0,.slice none 0 0],fun i=>(#[(0,2),(2,1)]:Array (Nat×Nat))[i]?))∧(A1O Tryz.prog 28=some false)∧(A0u Tryz.prog 28=some 1)∧(A01 Tryz.prog 28=some (.slice none 0 0))∧(A0x Tryz.prog 28=some 24)∧(A03 Tryz.prog 28=some (none,3))∧(A1O Tryz.prog 31=some false)∧(A0u Tryz.prog 31=some 1)∧(A01 Tryz.prog 31=some (.int .i64 0))∧(A0x Tryz.prog 31=some 8)∧(Tryz.prog.underlying 31=some (.int .i64))∧(A1O Tryz.prog 36=some false))∧
 ((A0u Tryz.prog 36=some 1)∧(A01 Tryz.prog 36=some (.slice none 0 0))∧(A0x Tryz.prog 36=some 24)∧(A03 Tryz.prog 36=some (none,3))∧(A1O Tryz.prog 53=some false)∧(A0u Tryz.prog 53=some 1)∧(A01 Tryz.prog 53=some (.slice none 0 0))∧(A0x Tryz.prog 53=some 24)∧(A03 Tryz.prog 53=some (none,36))∧(A1O Tryz.prog 59=some true)∧(A0u Tryz.prog 59=some 2)∧(A01 Tryz.prog 59=some (.agg #[.int .u8 0,.int .u8 0]))∧(A0x Tryz.prog 59=some 2)∧(A03 Tryz.prog 59=some (some 2,5))∧(A2l Tryz.prog 59=some (.agg #[.int .u8 0,.int .u8 0],fun i=>some (i*1,1)))∧(A1O Tryz.prog 60=some true))∧
 ((A0u Tryz.prog 60=some 2)∧(A01 Tryz.prog 60=some (.agg #[.slice none 0 0,.slice none 0 0]))∧(A0x Tryz.prog 60=some 48)∧(A03 Tryz.prog 60=some (some 2,36))∧(A2l Tryz.prog 60=some (.agg #[.slice none 0 0,.slice none 0 0],fun i=>some (i*1,1)))∧(A1O Tryz.prog 99=some false)∧(A0u Tryz.prog 99=some 1)∧(A01 Tryz.prog 99=some (.slice none 0 0))∧(A0x Tryz.prog 99=some 24)∧(A03 Tryz.prog 99=some (none,3))∧(A1O Tryz.prog 103=some false)∧(A0u Tryz.prog 103=some 1)∧(A01 Tryz.prog 103=some (.slice none 0 0))∧(A0x Tryz.prog 103=some 24)∧(A03 Tryz.prog 103=some (none,119))∧(A1O Tryz.prog 114=some false))∧
 ((A0u Tryz.prog 114=some 1)∧(A01 Tryz.prog 114=some (.int .u64 0))∧(A0x Tryz.prog 114=some 8)∧(Tryz.prog.underlying 114=some (.int .u64))∧(A1O Tryz.prog 119=some true)∧(A0u Tryz.prog 119=some 2)∧(A01 Tryz.prog 119=some (.agg #[.int .i64 0,.int .i64 0]))∧(A0x Tryz.prog 119=some 16)∧(A03 Tryz.prog 119=some (some 2,3))∧(A2l Tryz.prog 119=some (.agg #[.int .i64 0,.int .i64 0],fun i=>some (i*1,1)))∧(A1O Tryz.prog 123=some true)∧(A0u Tryz.prog 123=some 12)∧(A01 Tryz.prog 123=some (.agg #[.int .i64 0,.int .i64 0,.int .i64 0,.int .i64 0,.int .i64 0,.int .i64 0,.int .i64 0,.int .i64 0,.int .i64 0,.int .i64 0,.int .i64 0,.int .i64 0]))∧(A0x Tryz.prog 123=some 96)∧(A03 Tryz.prog 123=some (some 12,3))∧(A2l Tryz.prog 123=some (.agg #[.int .i64 0,.int .i64 0,.int .i64 0,.int .i64 0,.int .i64 0,.int .i64 0,.int .i64 0,.int .i64 0,.int .i64 0,.int .i64 0,.int .i64 0,.int .i64 0],fun i=>some (i*1,1))))∧
 ((A1O Tryz.prog 124=some true)∧(A0u Tryz.prog 124=some 12)∧(A01 Tryz.prog 124=some (.agg #[.int .i64 0,.int .i64 0,.int .i64 0,.int .i64 0,.int .i64 0,.int .i64 0,.int .i64 0,.int .i64 0,.int .i64 0,.int .i64 0,.int .i64 0,.int .i64 0]))∧(A0x Tryz.prog 124=some 96)∧(A03 Tryz.prog 124=some (some 12,3))∧(A2l Tryz.prog 124=some (.agg #[.int .i64 0,.int .i64 0,.int .i64 0,.int .i64 0,.int .i64 0,.int .i64 0,.int .i64 0,.int .i64 0,.int .i64 0,.int .i64 0,.int .i64 0,.int .i64 0],fun i=>some (i*1,1)))∧(A1O Tryz.prog 129=some true)∧(A0u Tryz.prog 129=some 2)∧(A01 Tryz.prog 129=some (.agg #[.int .i64 0,.int .i64 0]))∧(A0x Tryz.prog 129=some 16)∧(A1z Tryz.prog 129 0=some (0,3))∧(A1z Tryz.prog 129 1=some (1,3))∧(A2l Tryz.prog 129=some (.agg #[.int .i64 0,.int .i64 0],fun i=>(#[(0,1),(1,1)]:Array (Nat×Nat))[i]?))∧(A1O Tryz.prog 132=some true)∧(A0u Tryz.prog 132=some 3)∧(A01 Tryz.prog 132=some (.agg #[.int .i64 0,.int .i64 0,.int .i64 0])))∧
 ((A0x Tryz.prog 132=some 24)∧(A1z Tryz.prog 132 0=some (0,3))∧(A1z Tryz.prog 132 1=some (1,3))∧(A1z Tryz.prog 132 2=some (2,3))∧(A2l Tryz.prog 132=some (.agg #[.int .i64 0,.int .i64 0,.int .i64 0],fun i=>(#[(0,1),(1,1),(2,1)]:Array (Nat×Nat))[i]?))∧(A1O Tryz.prog 134=some false)∧(A0u Tryz.prog 134=some 1)∧(A01 Tryz.prog 134=some (.map none))∧(A0x Tryz.prog 134=some 8)∧(B2k Tryz.prog 134=some (3,3))∧(A1O Tryz.prog 136=some false)∧(A0u Tryz.prog 136=some 1)∧(A01 Tryz.prog 136=some (.map none))∧(A0x Tryz.prog 136=some 8)∧(B2k Tryz.prog 136=some (3,4))∧(A1O Tryz.prog 149=some false))∧
 ((A0u Tryz.prog 149=some 1)∧(A01 Tryz.prog 149=some (.pointer none))∧(A0x Tryz.prog 149=some 8)∧(A1O Tryz.prog 155=some true)∧(A0u Tryz.prog 155=some 12)∧(A01 Tryz.prog 155=some (.agg #[.int .i64 0,.int .i64 0,.int .i64 0,.int .i64 0,.int .i64 0,.int .i64 0,.int .i64 0,.int .i64 0,.int .i64 0,.int .i64 0,.int .i64 0,.int .i64 0]))∧(A0x Tryz.prog 155=some 96)∧(A03 Tryz.prog 155=some (some 12,3))∧(A2l Tryz.prog 155=some (.agg #[.int .i64 0,.int .i64 0,.int .i64 0,.int .i64 0,.int .i64 0,.int .i64 0,.int .i64 0,.int .i64 0,.int .i64 0,.int .i64 0,.int .i64 0,.int .i64 0],fun i=>some (i*1,1)))∧(A1O Tryz.prog 166=some false)∧(A0u Tryz.prog 166=some 1)∧(A01 Tryz.prog 166=some (.int .i64 0))∧(A0x Tryz.prog 166=some 8)∧(Tryz.prog.underlying 166=some (.int .i64))∧(A1O Tryz.prog 174=some false)∧(A0u Tryz.prog 174=some 1))∧
 ((A01 Tryz.prog 174=some (.int .u32 0))∧(A0x Tryz.prog 174=some 4)∧(Tryz.prog.underlying 174=some (.int .u32))∧(A1O Tryz.prog 176=some false)∧(A0u Tryz.prog 176=some 1)∧(A01 Tryz.prog 176=some (.int .u64 0))∧(A0x Tryz.prog 176=some 8)∧(Tryz.prog.underlying 176=some (.int .u64))∧(A1O Tryz.prog 178=some false)∧(A0u Tryz.prog 178=some 1)∧(A01 Tryz.prog 178=some (.slice none 0 0))∧(A0x Tryz.prog 178=some 24)∧(A03 Tryz.prog 178=some (none,4))∧(A1O Tryz.prog 180=some false)∧(A0u Tryz.prog 180=some 1)∧(A01 Tryz.prog 180=some (.map none)))∧
 ((A0x Tryz.prog 180=some 8)∧(B2k Tryz.prog 180=some (129,3))∧(A1O Tryz.prog 181=some false)∧(A0u Tryz.prog 181=some 1)∧(A01 Tryz.prog 181=some (.map none))∧(A0x Tryz.prog 181=some 8)∧(B2k Tryz.prog 181=some (129,3))∧(A1O Tryz.prog 186=some false)∧(A0u Tryz.prog 186=some 1)∧(A01 Tryz.prog 186=some (.pointer none))∧(A0x Tryz.prog 186=some 8)∧(A1O Tryz.prog 192=some true)∧(A0u Tryz.prog 192=some 6)∧(A01 Tryz.prog 192=some (.agg #[.int .i64 0,.slice none 0 0,.int .i64 0,.slice none 0 0,.slice none 0 0,.int .i64 0]))∧(A0x Tryz.prog 192=some 96)∧(A1z Tryz.prog 192 0=some (0,24)))∧
 ((A1z Tryz.prog 192 1=some (2,3))∧(A1z Tryz.prog 192 2=some (3,36))∧(A1z Tryz.prog 192 3=some (4,99))∧(A1z Tryz.prog 192 4=some (5,31))∧(A2l Tryz.prog 192=some (.agg #[.int .i64 0,.slice none 0 0,.int .i64 0,.slice none 0 0,.slice none 0 0,.int .i64 0],fun i=>(#[(0,2),(2,1),(3,1),(4,1),(5,1)]:Array (Nat×Nat))[i]?))∧(A1O Tryz.prog 198=some false)∧(A0u Tryz.prog 198=some 1)∧(A01 Tryz.prog 198=some (.slice none 0 0))∧(A0x Tryz.prog 198=some 24)∧(A03 Tryz.prog 198=some (none,202))∧(A1O Tryz.prog 200=some false)∧(A0u Tryz.prog 200=some 1)∧(A01 Tryz.prog 200=some (.string ByteArray.empty))∧(A0x Tryz.prog 200=some 16)∧(A1O Tryz.prog 202=some true)∧(A0u Tryz.prog 202=some 2))∧
 ((A01 Tryz.prog 202=some (.agg #[.string ByteArray.empty,.string ByteArray.empty]))∧(A0x Tryz.prog 202=some 32)∧(A1z Tryz.prog 202 0=some (0,200))∧(A1z Tryz.prog 202 1=some (1,200))∧(A2l Tryz.prog 202=some (.agg #[.string ByteArray.empty,.string ByteArray.empty],fun i=>(#[(0,1),(1,1)]:Array (Nat×Nat))[i]?))∧(A1O Tryz.prog 203=some false)∧(A0u Tryz.prog 203=some 1)∧(A01 Tryz.prog 203=some (.pointer none))∧(A0x Tryz.prog 203=some 8)∧(A1O Tryz.prog 206=some false)∧(A0u Tryz.prog 206=some 1)∧(A01 Tryz.prog 206=some (.int .u64 0))∧(A0x Tryz.prog 206=some 8)∧(Tryz.prog.underlying 206=some (.int .u64))∧(A1O Tryz.prog 210=some false)∧(A0u Tryz.prog 210=some 1))∧
 ((A01 Tryz.prog 210=some (.pointer none))∧(A0x Tryz.prog 210=some 8)∧(A1O Tryz.prog 223=some false)∧(A0u Tryz.prog 223=some 1)∧(A01 Tryz.prog 223=some (.slice none 0 0))∧(A0x Tryz.prog 223=some 24)∧(A03 Tryz.prog 223=some (none,200))∧(A1O Tryz.prog 225=some true)∧(A0u Tryz.prog 225=some 3)∧(A01 Tryz.prog 225=some (.agg #[.int .i64 0,.int .i64 0,.slice none 0 0]))∧(A0x Tryz.prog 225=some 40)∧(A1z Tryz.prog 225 0=some (0,3))∧(A1z Tryz.prog 225 1=some (1,3))∧(A1z Tryz.prog 225 2=some (2,223))∧(A2l Tryz.prog 225=some (.agg #[.int .i64 0,.int .i64 0,.slice none 0 0],fun i=>(#[(0,1),(1,1),(2,1)]:Array (Nat×Nat))[i]?))∧(A1O Tryz.prog 229=some true))∧
 ((A0u Tryz.prog 229=some 12)∧(A01 Tryz.prog 229=some (.agg #[.int .i64 0,.int .i64 0,.int .i64 0,.int .i64 0,.int .i64 0,.int .i64 0,.int .i64 0,.int .i64 0,.int .i64 0,.int .i64 0,.int .i64 0,.int .i64 0]))∧(A0x Tryz.prog 229=some 96)∧(A03 Tryz.prog 229=some (some 12,3))∧(A2l Tryz.prog 229=some (.agg #[.int .i64 0,.int .i64 0,.int .i64 0,.int .i64 0,.int .i64 0,.int .i64 0,.int .i64 0,.int .i64 0,.int .i64 0,.int .i64 0,.int .i64 0,.int .i64 0],fun i=>some (i*1,1)))∧(A1O Tryz.prog 232=some false)∧(A0u Tryz.prog 232=some 1)∧(A01 Tryz.prog 232=some (.pointer none))∧(A0x Tryz.prog 232=some 8)∧(A1O Tryz.prog 247=some false)∧(A0u Tryz.prog 247=some 1)∧(A01 Tryz.prog 247=some (.pointer none))∧(A0x Tryz.prog 247=some 8)∧(A1O Tryz.prog 265=some false)∧(A0u Tryz.prog 265=some 1)∧(A01 Tryz.prog 265=some (.slice none 0 0)))∧
 ((A0x Tryz.prog 265=some 24)∧(A03 Tryz.prog 265=some (none,5))∧(A1O Tryz.prog 277=some false)∧(A0u Tryz.prog 277=some 1)∧(A01 Tryz.prog 277=some (.pointer none))∧(A0x Tryz.prog 277=some 8)):=by
 (repeat' refine Qv4 ?_ ?_)<;>kernel_rfl
attribute [go_sem] ty
def A0j (n:Int):TVal:= .t (.int .i64 n)
def A0q (b:Bool):TVal:= .t (.bool b)
def A3w (a b:Int):TVal:= .agg [.int .i64 a,.int .i64 b]
attribute [go_sem] A0j A0q A3w
def C2t (n:Int):ACall Tryz.prog 143 [A0j n] (A0q false):=by
 refine ACall.of_body Tryz.func143 rfl (by kernel_rfl) ?_;simp only [entry,Tryz.ntmps143,A0j];refine zU ?_;refine zR Qv5 Qv5 Qv5 ?_;simp [A0s,A0r,Blk.cells,ty,Tryz.results143,A0o,A0p,toT,A0d,A0b,A0c,A0a,A0q]
def A9e (n v:Int):ACall Tryz.prog 146 [A0j n,A0j v] (A0q (decide (0≤v∧v<n))):=by
 refine ACall.of_body Tryz.func146 rfl (by kernel_rfl) ?_;simp only [entry,Tryz.ntmps146,A0j];refine zU ?_;refine zM Qv5 Qv5 Qv5 Qv5 Qv5 (zc (ed fun hp hpc=>?_) (ed fun hp hpc=>?_))
 all_goals
  simp [A0s,A0r,Blk.cells,ty,Tryz.results146,A0o,A0p,toT,A0d,A0b,A0c,A0a,A0q]
 all_goals omega
def A6f (a b:Int):Int:=if a<b then -1 else if b<a then 1 else 0
def B0x (a b:Int):ACall Tryz.prog 83 [A0j a,A0j b] (A0j (A6f a b)):=by
 refine ACall.of_body Tryz.func83 rfl (by kernel_rfl) ?_;simp only [entry,Tryz.ntmps83,A0j];refine zU ?_;refine zM Qv5 Qv5 (zc C2t Qv5) Qv5 Qv5 (zc (ed fun hp hpc=>?_) (zc (ed fun hp hpc=>?_) (ed fun hp hpc=>?_)))
 all_goals
  simp [A0s,A0r,Blk.cells,ty,Tryz.results83,A0o,A0p,toT,A0d,A0b,A0c,A0a,A0j,A6f]
 all_goals omega
def ints (xs:List Int):Tree:= .slice (xs.map fun x=>[.int .i64 x])
def orI:List Int->Int
 | []=>0
 | x::xs=>if x≠0 then x else orI xs
def C79 (xs:List Int) (hl:xs.length<2^40):ACall Tryz.prog 179 [.t (ints xs)] (A0j (orI xs)):=by
 refine ACall.of_body Tryz.func179 rfl (by kernel_rfl) ?_;simp only [entry,Tryz.ntmps179,ints];refine zU ?_;refine zM Qv5 (zc @XW.{0,0} Qv5) Qv5 Qv5 Qv5 (ed fun hp hpc=>?_);refine AWp.loopS (α:=Nat) 18 (fun k=>[(3,.c (.int .i64 0)),(6,.c (.slice (xs.map fun x=>[.int .i64 x]) .none)),(7,.c (.int .i64 xs.length)),(8,.c (.int .i64 (k:Int)))]) (fun k=>[]) (fun k=>k≤xs.length∧orI xs=orI (xs.drop k)) (fun k=>xs.length-k) (0) (hk:=Weak.headL 0 18 [3,6,7,8] zW) (h0:=?_) (round:=fun k hI=>?_)
 ·exact ⟨Xj _,rfl⟩
 ·obtain ⟨hk,hx⟩:=hI;by_cases hlt:k<xs.length
  ·have e1:xs[k]? =some xs[k]:=Qq hlt;refine zM Qv5 (zc @QQ.{0,0} (zc @e1 Qv5)) Qv5 Qv5 Qv5 (zc (ed fun hp hpc=>?_) (ed fun hp hpc=>?_))
   ·have hxk:orI xs=xs[k]:=by rw [hx,Zk hlt,orI]; simp_all
    simp [A0s,A0r,Blk.cells,ty,Tryz.results179,A0o,A0p,toT,A0d,A0b,A0c,A0a,A0j,hxk]
   ·refine ⟨k+1,Weak.headN 0 18 [3,6,7,8] zW,?_,?_⟩
    ·exact ⟨hlt,by rw [hx,Zk hlt,orI]; simp_all⟩
    ·omega
  ·have ek:k=xs.length:=by omega
   have h0:orI xs=0:=by rw [hx,ek,Qq9,orI]
   refine zR (zc @Yx Qv5) Qv5 Qv5 ?_;simp [A0s,A0r,Blk.cells,ty,Tryz.results179,A0o,A0p,toT,A0d,A0b,A0c,A0a,A0j,h0]
def B0y (a b c d:Int):ACall Tryz.prog 149 [A3w a b,A3w c d] (A0j (orI [A6f a c,A6f b d])):=by
 refine ACall.of_body Tryz.func149 rfl (by kernel_rfl) ?_;simp only [entry,Tryz.ntmps149,A3w];refine zU ?_
 repeat' (first|((first|(refine zT ?_;intro K' hK')|(refine zG ?_ ?_<;>(try refine zH ?_)<;>intro hguard<;>(try exact zX)<;>try intro K' hK'))<;>((try simp+contextual only [go_sem,ints,chunks,List.range,List.range.loop]);(repeat' first|(with_reducible refine hK' _ _ ?_;clear hK' K')|((with_reducible first|refine zK (B0x _ _) ?_|refine zL (c:=C79 [_,_] (by simp)) (q:=?_));try simp+contextual only [go_sem,ints,chunks,List.range,List.range.loop])|exact zY|with_reducible refine Qv4 ?_ ?_|(with_reducible intro hpath;try exact zP)|(refine hK' _ _ ?_;clear hK' K')|fail);try refine zS ?_))|(refine zE ?_;refine hK _ _ ?_;clear hK K)|(refine zN ?_;try refine zS ?_)|refine zA ?_|(refine zB ?_;intro K hK)|(refine zC ?_ ?_<;>(try refine zH ?_)<;>intro hcond<;>try exact zX)|fail)
 simp [A0s,A0r,Blk.cells,ty,Tryz.results149,A0o,A0p,toT,A0d,A0b,A0c,A0a,A0j]
def B8S (a b:Int):ACall Tryz.prog 147 [A0j a,A0j b] (A3w (min a b) (max a b)):=by
 refine ACall.of_body Tryz.func147 rfl (by kernel_rfl) ?_;simp only [entry,Tryz.ntmps147,A0j];refine zU ?_;refine zM trivial trivial trivial trivial trivial (ed fun hp hpc=>?_)
 all_goals
  simp [A0s,A0r,Blk.cells,ty,Tryz.results147,A0o,A0p,toT,A0d,A0b,A0c,A0a,A3w]
structure E where
 (a b m:Int)
structure G where
 (n:Int) (es:List E)
def C2u (e:E):List Tree:=[.int .i64 e.a,.int .i64 e.b,.int .i64 e.m]
def A0f (es:List E):List (List Tree):=es.map C2u
def tG (g:G):TVal:= .agg [.int .i64 g.n,.slice (A0f g.es)]
attribute [go_sem] tG
def C7w (p:Int×Int):List Tree:=[.int .i64 p.1,.int .i64 p.2]
def A0U (l:List (Int×Int)):List (List Tree):=l.map C7w
def endsL (es:List E):List (Int×Int):=es.flatMap fun e=>List.replicate e.m.toNat (e.a,e.b)
def A00 (es:List E):(A0f es).length=es.length:=by simp [A0f]
def A0z (es:List (Int×Int)):(A0U es).length=es.length:=by simp [A0U]
variable {i:Nat}
def A28 {l:List (Int×Int)} {p:Int×Int} (h:l[i]? =some p):(A0U l)[i]? =some [.int .i64 p.1,.int .i64 p.2]:=by simp [A0U,C7w,h]
def B0z (l:List (Int×Int)) (a b:Int):A0U l++[[.int .i64 a,.int .i64 b]]=A0U (l++[(a,b)]):=by simp [A0U,C7w]
def A6w {l:List (Int×Int)} {r:List Tree} (h:r∈A0U l):r.length=2:=by
 obtain ⟨x,_,rfl⟩:=QY.1 h;rfl
def A39 (a b:List E):endsL (a++b)=endsL a++endsL b:=by unfold endsL; exact List.flatMap_append
def B2Q (e:E):endsL [e]=List.replicate e.m.toNat (e.a,e.b):=by simp [endsL]
variable {es:List E}
def A1u (h:i<es.length):endsL (es.take (i+1))=endsL (es.take i)++List.replicate es[i].m.toNat (es[i].a,es[i].b):=by
 rw [Xy h,A39,B2Q]
def A6x (es:List E) (i:Nat):(endsL (es.take i)).length≤(endsL es).length:=by
 have:endsL es=endsL (es.take i)++endsL (es.drop i):=by rw [<-A39,WJ]
 rw [this,Xv]; omega
def A2j {e:E} (h:es[i]? =some e):(A0f es)[i]? =some [.int .i64 e.a,.int .i64 e.b,.int .i64 e.m]:=by
 simp [A0f,h,C2u]
def B5E (g:G) (hs:(endsL g.es).length<2^40) (hl:g.es.length<2^40) (hm: ∀e,e∈g.es->e.m<2^40):ACall Tryz.prog 86 [tG g] (.t (.slice (A0U (endsL g.es)))):=by
 refine ACall.of_body Tryz.func86 rfl (by kernel_rfl) ?_;simp only [entry,Tryz.ntmps86,tG];refine zU ?_;refine zR Qv5 Qv5 Qv5 ?_;refine AWp.weak (Weak.opens ((fun t f=>[f,f,f,t,f,f,f,f,f,f,f,f,f,f,f,f,f,f,f,f,f,f,f,f,f,f,f,f,f,f,f,f,f,f,f,f,f,f,f,f]) true false) 2 (by first | omega | simp)) ?_;simp only [A2t,A7l,List.length_cons,List.length_nil,Xv,Nat.reduceAdd,List.cons_append,List.nil_append];refine AWp.loopS (α:=Nat) 40 (fun i=>[(1,.c (.ptr 0 0)),(3,.c (.slice (A0U (endsL (g.es.take i))) (.chain 1))),(4,.c (.int .i64 (i:Int)))]) (fun i=>[.box [.int .i64 g.n,.slice (A0f g.es) .none],.chain (endsL (g.es.take i)).length 2]) (fun i=>i≤g.es.length) (fun i=>g.es.length-i) (0) (hk:=Weak.headL 2 40 [1,3,4] zW) (h0:=?_) (round:=fun i hI=>?_)
 ·exact Xj _
 ·by_cases hlt:i<g.es.length
  ·have e1:g.es[i]? =some g.es[i]:=Qq hlt;have e2:=A2j e1;have hle:=A6x g.es (i+1);rw [A1u hlt,Xv,Yj] at hle;have hmi:=hm g.es[i] (Xw hlt);refine zM Qv5 (zc @A00 (zc @Yx Qv5)) Qv5 Qv5 Qv5 (ed fun hp hpc=>?_)
   ·
    refine AWp.loopS (α:=Nat) 40 (fun k=>[(1,.c (.ptr 0 0)),(3,.c (.slice (A0U (endsL (g.es.take i)++List.replicate k (g.es[i].a,g.es[i].b))) (.chain 1))),(4,.c (.int .i64 (i:Int))),(5,.c (.int .i64 (k:Int)))]) (fun k=>[.box [.int .i64 g.n,.slice (A0f g.es) .none],.chain ((endsL (g.es.take i)).length+k) 2]) (fun k=>k≤g.es[i].m.toNat) (fun k=>g.es[i].m.toNat-k) (0) (hk:=Weak.headL 2 40 [1,3,4,5] zW) (h0:=?_) (round:=fun k hI=>?_)
    ·exact Xj _
    ·by_cases hk:(k:Int)<g.es[i].m
     ·
      have hk2:k<g.es[i].m.toNat:=by omega
      repeat' (first|((first|(refine zT ?_;intro K' hK')|(refine zG ?_ ?_<;>(try refine zH ?_)<;>intro hguard<;>(try exact zX)<;>try intro K' hK'))<;>((try simp+contextual only [go_sem,e2,Int.toNat_natCast,Xv,Yj,A0z,chunks,List.range,List.range.loop,B0z,Zv,<-List.replicate_succ']);(repeat' first|(with_reducible refine hK' _ _ ?_;clear hK' K')|(with_reducible exact A6w (by assumption))|exact zY|with_reducible refine Qv4 ?_ ?_|(with_reducible intro hpath;try exact zP)|(refine hK' _ _ ?_;clear hK' K')|fail);try refine zS ?_))|(refine zE ?_;refine hK _ _ ?_;clear hK K)|(refine zN ?_;try refine zS ?_)|refine zA ?_|(refine zB ?_;intro K hK)|(refine zC ?_ ?_<;>(try refine zH ?_)<;>intro hcond<;>try exact zX)|fail)
      refine ⟨k+1,Weak.headN 2 40 [1,3,4,5] zW (e1:=by first|rfl|(simp [mask,A1B,Wx,List.replicate_succ];done)|(simp [mask,A1B,Wx,List.replicate_succ]<;>simp_all<;>omega)) (e2:=by first|rfl|(simp [mask,A1B,Wx,List.replicate_succ];done)|(simp [mask,A1B,Wx,List.replicate_succ]<;>simp_all<;>omega)),?_,?_⟩
      ·exact hk2
      ·omega
     ·
      have ek:k=g.es[i].m.toNat:=by omega
      refine zR (zc @e2 Qv5) Qv5 Qv5 ?_;refine ⟨i+1,Weak.headN 2 40 [1,3,4] zW (e1:=by first|rfl|(simp [mask,A1B,A1u hlt,ek];done)|(simp [mask,A1B,A1u hlt,ek]<;>simp_all<;>omega)) (e2:=by first|rfl|(simp [mask,A1B,A1u hlt,ek];done)|(simp [mask,A1B,A1u hlt,ek]<;>simp_all<;>omega)),?_,?_⟩
      ·exact hlt
      ·omega
  ·have ei:i=g.es.length:=by omega
   refine zR (zc @A00 (zc @Yx Qv5)) Qv5 Qv5 ?_;simp [A0s,A0r,Blk.cells,ty,Tryz.results86,A0o,A0p,toT,A0d,A0b,A0c,A0a,ei]
def B2R (g:G) (v:Int):ACall Tryz.prog 151 [tG g,A0j v] (A0q (decide (0≤v∧v<g.n))):=by
 refine ACall.of_body Tryz.func151 rfl (by kernel_rfl) ?_;simp only [entry,Tryz.ntmps151,tG,A0j];refine zU ?_;refine zM Qv5 Qv5 Qv5 Qv5 Qv5 (zc (ed fun hp hpc=>?_) (ed fun hp hpc=>?_))
 all_goals
  simp [A0s,A0r,Blk.cells,ty,Tryz.results151,A0o,A0p,toT,A0d,A0b,A0c,A0a,A0q]
 all_goals omega
def A4W (n:Int) (es:List E) (i:Nat):Int:=
 match es[i]? with
 | none=>0
 | some x=>
  if ¬(0≤x.a∧x.a<n)∨ ¬(0≤x.b∧x.b<n)∨x.m<1∨50<x.m then 2
  else if x.b<x.a then 9
  else match i with
   | 0=>0
   | j+1=>match es[j]? with
    | none=>0
    | some y=>if x.a<y.a∨(x.a=y.a∧x.b≤y.b) then 9 else 0
def C4F (g:G) (i:Nat) (hi:i<g.es.length) (hl:g.es.length<2^40):ACall Tryz.prog 96 [tG g,A0j i] (A0j (A4W g.n g.es i)):=by
 have e1:g.es[i]? =some g.es[i]:=Qq hi;have e2:=A2j e1;cases i with
 | zero=>
  refine ACall.of_body Tryz.func96 rfl (by kernel_rfl) ?_;simp only [entry,Tryz.ntmps96,tG,A0j];refine zU ?_;refine zM Qv5 (zc @e2 (zc @Int.natCast_zero Qv5)) (zc (B2R g) Qv5) Qv5 Qv5 (zc (ed fun hp hpc=>?_) (zc (ed fun hp hpc=>?_) (zc (ed fun hp hpc=>?_) (zc (ed fun hp hpc=>?_) (zc (ed fun hp hpc=>?_) (ed fun hp hpc=>?_))))))
  all_goals
   simp [A0s,A0r,Blk.cells,ty,Tryz.results96,A0o,A0p,toT,A0d,A0b,A0c,A0a,A0j,A4W,e1]
  all_goals omega
 | succ j=>
  have hj:j<g.es.length:=by omega
  have f1:g.es[j]? =some g.es[j]:=Qq hj;have f2:=A2j f1;have e4:((j+1:Nat):Int)-1=j:=by omega
  have e5:((j+1:Nat):Int).toNat=j+1:=by omega
  have e6:((j:Nat):Int).toNat=j:=by omega
  refine ACall.of_body Tryz.func96 rfl (by kernel_rfl) ?_;simp only [entry,Tryz.ntmps96,tG,A0j];refine zU ?_
  repeat' (first|((first|(refine zT ?_;intro K' hK')|(refine zG ?_ ?_<;>(try refine zH ?_)<;>intro hguard<;>(try exact zX)<;>try intro K' hK'))<;>((try simp+contextual only [go_sem,e2,e4,e5,e6,f2]);(repeat' first|(with_reducible refine hK' _ _ ?_;clear hK' K')|(with_reducible refine zK (B2R g _) ?_;try simp+contextual only [go_sem,e2,e4,e5,e6,f2])|exact zY|with_reducible refine Qv4 ?_ ?_|(with_reducible intro hpath;try exact zP)|(refine hK' _ _ ?_;clear hK' K')|fail);try refine zS ?_))|(refine zE ?_;refine hK _ _ ?_;clear hK K)|(refine zN ?_;try refine zS ?_)|refine zA ?_|(refine zB ?_;intro K hK)|(refine zC ?_ ?_<;>(try refine zH ?_)<;>intro hcond<;>try exact zX)|fail)
  all_goals
   simp [A0s,A0r,Blk.cells,ty,Tryz.results96,A0o,A0p,toT,A0d,A0b,A0c,A0a,A0j,A4W,e1,f1]
  all_goals omega
def A4X (n:Int) (es:List E):Nat->Int
 | 0=>0
 | k+1=>if A4W n es (es.length-(k+1))≠0 then A4W n es (es.length-(k+1)) else A4X n es k
def checkG (g:G):Int:=if g.n<1∨12<g.n then 2 else A4X g.n g.es g.es.length
def A6y (g:G) (hl:g.es.length<2^40):ACall Tryz.prog 47 [tG g] (A0j (checkG g)):=by
 refine ACall.of_body Tryz.func47 rfl (by kernel_rfl) ?_;simp only [entry,Tryz.ntmps47,tG];refine zU ?_;refine zM Qv5 Qv5 Qv5 Qv5 Qv5 (zc (ed fun hp hpc=>?_) (zc (ed fun hp hpc=>?_) (ed fun hp hpc=>?_)))
 ·
  simp [A0s,A0r,Blk.cells,ty,Tryz.results47,A0o,A0p,toT,A0d,A0b,A0c,A0a,A0j,checkG]
  all_goals omega
 ·
  refine AWp.loopS (α:=Nat) 26 (fun i=>[(1,.c (.ptr 0 0)),(3,.c (.int .i64 (i:Int)))]) (fun i=>[.box [.int .i64 g.n,.slice (A0f g.es) .none]]) (fun i=>i≤g.es.length∧checkG g=A4X g.n g.es (g.es.length-i)) (fun i=>g.es.length-i) (0) (hk:=Weak.headL 1 26 [1,3] zW) (h0:=?_) (round:=fun i hI=>?_)
  ·exact ⟨Xj _,by simp only [checkG,Nat.sub_zero]; rw [if_neg (by omega)]⟩
  ·obtain ⟨hi,hx⟩:=hI;by_cases hlt:i<g.es.length
   ·have es:g.es.length-i=(g.es.length-(i+1))+1:=by omega
    have ei:g.es.length-(g.es.length-(i+1)+1)=i:=by omega
    rw [es,A4X,ei] at hx;refine zM Qv5 (zc @A00 (zc @Yx Qv5)) (zc (C4F g i hlt hl) Qv5) Qv5 Qv5 (zc (ed fun hp hpc=>?_) (ed fun hp hpc=>?_))
    ·have hx2:checkG g=A4W g.n g.es i:=by rw [hx,if_pos hpc]
     simp [A0s,A0r,Blk.cells,ty,Tryz.results47,A0o,A0p,toT,A0d,A0b,A0c,A0a,A0j,hx2]
    ·refine ⟨i+1,Weak.headN 1 26 [1,3] zW,?_,?_⟩
     ·exact ⟨hlt,by rw [hx,if_neg (by omega)]⟩
     ·omega
   ·have ei:i=g.es.length:=by omega
    have h0:checkG g=0:=by rw [hx,ei,Jv,A4X]
    refine zR (zc @A00 (zc @Yx Qv5)) Qv5 Qv5 ?_;simp [A0s,A0r,Blk.cells,ty,Tryz.results47,A0o,A0p,toT,A0d,A0b,A0c,A0a,A0j,h0]
 ·
  simp [A0s,A0r,Blk.cells,ty,Tryz.results47,A0o,A0p,toT,A0d,A0b,A0c,A0a,A0j,checkG]
  all_goals omega
def B18 (g:G) (hs:(endsL g.es).length<2^40) (hl:g.es.length<2^40) (hm: ∀e,e∈g.es->e.m<2^40):ACall Tryz.prog 38 [tG g] (A0j (endsL g.es).length):=by
 refine ACall.of_body Tryz.func38 rfl (by kernel_rfl) ?_;simp only [entry,Tryz.ntmps38,tG];refine zU ?_;refine zM Qv5 (zc @A0z Qv5) (zc (B5E g hs hl hm) Qv5) Qv5 Qv5 (ed fun hp hpc=>?_)
 all_goals
  simp [A0s,A0r,Blk.cells,ty,Tryz.results38,A0o,A0p,toT,A0d,A0b,A0c,A0a,A0j]
def A7r (es:List E):Nat->Int×Int
 | 0=>(-1,-1)
 | j+1=>match es[j]? with
  | some y=>(y.a,y.b)
  | none=>(-1,-1)
def B8h (n:Int) (x:E):Prop:= ¬(0≤x.a∧x.a<n)∨ ¬(0≤x.b∧x.b<n)∨x.m<1∨50<x.m
def A6z {n:Int} (hi:i<es.length) (h:B8h n es[i]):A4W n es i=2:=by
 unfold A4W; rw [Qq hi]; exact if_pos h
def B00 {n:Int} (hi:i<es.length) (h: ¬B8h n es[i]) (h2:es[i].b<es[i].a∨0≤orI [A6f (A7r es i).1 es[i].a,A6f (A7r es i).2 es[i].b]):A4W n es i=9:=by
 unfold A4W; rw [Qq hi];simp only;unfold B8h at h;rw [if_neg h];by_cases hb:es[i].b<es[i].a
 ·rw [if_pos hb]
 ·rw [if_neg hb];rcases h2 with h2 | h2
  ·exact absurd h2 hb
  ·cases i with
   | zero=>exfalso; simp only [A7r,orI,A6f] at h2; (repeat' split at h2)<;>omega
   | succ j=>
    have hj:j<es.length:=by omega
    simp only [A7r,Qq hj,orI,A6f] at h2 ⊢;rw [if_pos]
    (repeat' split at h2)<;>omega
def B7f {n:Int} (hi:i<es.length) (h: ¬B8h n es[i]) (h1: ¬es[i].b<es[i].a) (h2: ¬0≤orI [A6f (A7r es i).1 es[i].a,A6f (A7r es i).2 es[i].b]):A4W n es i=0:=by
 unfold A4W; rw [Qq hi];simp only;unfold B8h at h;rw [if_neg h,if_neg h1];cases i with
 | zero=>rfl
 | succ j=>
  have hj:j<es.length:=by omega
  simp only [A7r,Qq hj,orI,A6f] at h2 ⊢;rw [if_neg]
  (repeat' split at h2)<;>omega
def A8m (g:G) (hl:g.es.length<2^40):ACall Tryz.prog 93 [tG g] (A0j (checkG g)):=by
 refine ACall.of_body Tryz.func93 rfl (by kernel_rfl) ?_;simp only [entry,Tryz.ntmps93,tG];refine zU ?_;refine zM Qv5 (zc @A00 Qv5) Qv5 Qv5 Qv5 (zc (ed fun hp hpc=>?_) (zc (ed fun hp hpc=>?_) (ed fun hp hpc=>?_)))
 ·
  simp [A0s,A0r,Blk.cells,ty,Tryz.results93,A0o,A0p,toT,A0d,A0b,A0c,A0a,A0j,checkG]
  all_goals omega
 ·
  refine AWp.loopS (α:=Nat) 67 (fun i=>[(1,.c (.ptr 0 0)),(3,.c (.ptr 1 0)),(17,.c (.slice (A0f g.es) .none)),(18,.c (.int .i64 g.es.length)),(19,.c (.int .i64 (i:Int)))]) (fun i=>[.box [.int .i64 g.n,.slice (A0f g.es) .none],.box [.int .i64 (A7r g.es i).1,.int .i64 (A7r g.es i).2]]) (fun i=>i≤g.es.length∧checkG g=A4X g.n g.es (g.es.length-i)) (fun i=>g.es.length-i) (0) (hk:=Weak.headL 2 67 [1,3,17,18,19] zW) (h0:=?_) (round:=fun i hI=>?_)
  ·exact ⟨Xj _,by simp only [checkG,Nat.sub_zero]; rw [if_neg (by omega)]⟩
  ·obtain ⟨hi,hx⟩:=hI;by_cases hlt:i<g.es.length
   ·have es:g.es.length-i=(g.es.length-(i+1))+1:=by omega
    have ei:g.es.length-(g.es.length-(i+1)+1)=i:=by omega
    rw [es,A4X,ei] at hx;have e1:g.es[i]? =some g.es[i]:=Qq hlt;have e2:=A2j e1
    repeat' (first|((first|(refine zT ?_;intro K' hK')|(refine zG ?_ ?_<;>(try refine zH ?_)<;>intro hguard<;>(try exact zX)<;>try intro K' hK'))<;>((try simp+contextual only [go_sem,e2,Int.toNat_natCast]);(repeat' first|(with_reducible refine hK' _ _ ?_;clear hK' K')|((with_reducible first|refine zK (A9e _ _) ?_|refine zK (B0y _ _ _ _) ?_);try simp+contextual only [go_sem,e2,Int.toNat_natCast])|exact zY|with_reducible refine Qv4 ?_ ?_|(with_reducible intro hpath;try exact zP)|(refine hK' _ _ ?_;clear hK' K')|fail);try refine zS ?_))|(refine zE ?_;refine hK _ _ ?_;clear hK K)|(refine zN ?_;try refine zS ?_)|refine zA ?_|(refine zB ?_;intro K hK)|(refine zC ?_ ?_<;>(try refine zH ?_)<;>intro hcond<;>try exact zX)|fail)
    ·have h2:checkG g=2:=by rw [hx,A6z hlt (by unfold B8h; omega),if_pos (by decide)]
     simp [A0s,A0r,Blk.cells,ty,Tryz.results93,A0o,A0p,toT,A0d,A0b,A0c,A0a,A0j,h2]
    ·have h9:checkG g=9:=by rw [hx,B00 hlt (by unfold B8h; omega) (by first | exact .inl (by assumption) | exact .inr (by assumption)),if_pos (by decide)]
     simp [A0s,A0r,Blk.cells,ty,Tryz.results93,A0o,A0p,toT,A0d,A0b,A0c,A0a,A0j,h9]
    ·have h0:A4W g.n g.es i=0:=B7f hlt (by unfold B8h; omega) (by omega) (by omega);refine ⟨i+1,Weak.headN 2 67 [1,3,17,18,19] zW (e1:=by first|rfl|(simp [mask,A1B,A7r,e1];done)|(simp [mask,A1B,A7r,e1]<;>simp_all<;>omega)) (e2:=by first|rfl|(simp [mask,A1B,A7r,e1];done)|(simp [mask,A1B,A7r,e1]<;>simp_all<;>omega)),?_,?_⟩
     ·exact ⟨hlt,by rw [hx,if_neg (by omega)]⟩
     ·omega
    ·have h9:checkG g=9:=by rw [hx,B00 hlt (by unfold B8h; omega) (by first | exact .inl (by assumption) | exact .inr (by assumption)),if_pos (by decide)]
     simp [A0s,A0r,Blk.cells,ty,Tryz.results93,A0o,A0p,toT,A0d,A0b,A0c,A0a,A0j,h9]
    ·have h2:checkG g=2:=by rw [hx,A6z hlt (by unfold B8h; omega),if_pos (by decide)]
     simp [A0s,A0r,Blk.cells,ty,Tryz.results93,A0o,A0p,toT,A0d,A0b,A0c,A0a,A0j,h2]
    ·have h2:checkG g=2:=by rw [hx,A6z hlt (by unfold B8h; omega),if_pos (by decide)]
     simp [A0s,A0r,Blk.cells,ty,Tryz.results93,A0o,A0p,toT,A0d,A0b,A0c,A0a,A0j,h2]
    ·have h2:checkG g=2:=by rw [hx,A6z hlt (by unfold B8h; omega),if_pos (by decide)]
     simp [A0s,A0r,Blk.cells,ty,Tryz.results93,A0o,A0p,toT,A0d,A0b,A0c,A0a,A0j,h2]
   ·have ei:i=g.es.length:=by omega
    have h0:checkG g=0:=by rw [hx,ei,Jv,A4X]
    refine zR (zc @A00 (zc @Yx Qv5)) Qv5 Qv5 ?_;simp [A0s,A0r,Blk.cells,ty,Tryz.results93,A0o,A0p,toT,A0d,A0b,A0c,A0a,A0j,h0]
 ·
  simp [A0s,A0r,Blk.cells,ty,Tryz.results93,A0o,A0p,toT,A0d,A0b,A0c,A0a,A0j,checkG]
  all_goals omega
def A7O (l:List (Int×Int)):List (List TVal):=l.zipIdx.map fun p=>[A0j (p.2:Int),A3w p.1.1 p.1.2]
def A7s (l:List (Int×Int)):(A7O l).length=l.length:=by simp [A7O]
def B7g {l:List (Int×Int)} {p:Int×Int} (h:l[i]? =some p):(A7O l)[i]? =some [A0j (i:Int),A3w p.1 p.2]:=by
 simp [A7O,h]
def A7t {l:List (Int×Int)} {ts:List TVal} (h:(A7O l)[i]? =some ts): ∃p,l[i]? =some p∧ts=[A0j (i:Int),A3w p.1 p.2]:=by
 simp only [A7O,QQ,Qj3] at h;cases hl:l[i]? with
 | none=>simp [hl] at h
 | some p=>simp [hl] at h; exact ⟨p,rfl,h.symm⟩
def B8T {i k:Nat} (h:i<es.length) (hk:k<(es[i]'h).m.toNat):(endsL es)[(endsL (es.take i)).length+k]? =some (es[i].a,es[i].b):=by
 have e:endsL es=endsL (es.take i)++(List.replicate es[i].m.toNat (es[i].a,es[i].b)++endsL (es.drop (i+1))):=by
  rw [<-Zv,<-A1u h,<-A39,WJ]
 rw [e,QW (by omega),Nat.add_sub_cancel_left,Qw (by rw [Yj]; exact hk)];rw [Qq2,if_pos hk]
def A9f (g:G) (hs:(endsL g.es).length<2^40) (hl:g.es.length<2^40) (hm: ∀e,e∈g.es->e.m<2^40):AIter Tryz.prog 150 [.rptr [.int .i64 g.n,.slice (A0f g.es)]] (A7O (endsL g.es)):=by
 refine AIter.of_body Tryz.func150 rfl (by kernel_rfl) rfl (fun l J Jx hJ hJx hY=> ?_);simp only [entry,Tryz.ntmps150,ofT,A3v,A0v,XY,ZQ,List.length_cons,List.length_nil,Nat.reduceAdd,Nat.reduceSub,List.replicate_succ,List.replicate_zero,List.cons_append,List.nil_append];refine zR (zc @A00 Qv5) Qv5 Qv5 ?_;refine AWp.loopS (α:=Nat) 30 (fun i=>[(0,.c (.yld l)),(1,.c (.rptr [.int .i64 g.n,.slice (A0f g.es)])),(3,.c (.int .i64 ((endsL (g.es.take i)).length:Int))),(7,.c (.slice (A0f g.es) .none)),(8,.c (.int .i64 (g.es.length:Int))),(9,.c (.int .i64 (i:Int)))]) (fun i=>[.ghost (J (endsL (g.es.take i)).length)]) (fun i=>i≤g.es.length) (fun i=>g.es.length-i) (0) (hk:=Weak.headL 1 30 [0,1,3,7,8,9] zW) (h0:=?_) (round:=fun i hI=>?_)
 ·exact Xj _
 ·by_cases hlt:i<g.es.length
  ·have e1:g.es[i]? =some g.es[i]:=Qq hlt;have e2:=A2j e1;have hle:=A6x g.es (i+1);rw [A1u hlt,Xv,Yj] at hle;have hmi:=hm g.es[i] (Xw hlt);refine zM Qv5 (zc @A00 (zc @Yx (zc @e2 Qv5))) Qv5 Qv5 Qv5 (ed fun hp hpc=>?_)
   ·
    refine AWp.loopS (α:=Nat) 30 (fun k=>[(0,.c (.yld l)),(1,.c (.rptr [.int .i64 g.n,.slice (A0f g.es)])),(3,.c (.int .i64 (((endsL (g.es.take i)).length+k:Nat):Int))),(5,.c (.ptr 1 0)),(7,.c (.slice (A0f g.es) .none)),(8,.c (.int .i64 (g.es.length:Int))),(9,.c (.int .i64 (i:Int))),(14,.c (.int .i64 g.es[i].m)),(15,.c (.int .i64 (k:Int)))]) (fun k=>[.ghost (J ((endsL (g.es.take i)).length+k)),.box [.int .i64 g.es[i].a,.int .i64 g.es[i].b,.int .i64 g.es[i].m]]) (fun k=>k≤g.es[i].m.toNat) (fun k=>g.es[i].m.toNat-k) (0) (hk:=Weak.headL 2 30 [0,1,3,5,7,8,9,14,15] zW) (h0:=?_) (round:=fun k hI=>?_)
    ·exact Xj _
    ·by_cases hk:(k:Int)<g.es[i].m
     ·
      have hk2:k<g.es[i].m.toNat:=by omega
      have hget:=B7g (B8T hlt hk2);refine zM (zc Qv5 (prt 6 7)) Qv5 Qv5 Qv5 Qv5 (ed fun hp hpc=>?_);simp only [Zy,Yq];refine AReg.yield rfl rfl rfl (by rfl) (by with_unfolding_all rfl) (by simp [okBlk]) (hY _ _ hget) (hJ _) hJx ?_ ?_<;>(try refine zS ?_)<;>refine AReg.rest (fun K hK=> ?_)
      ·
       refine zM trivial trivial trivial trivial trivial (ed fun hp hpc=>?_);refine ⟨k+1,Weak.headF 2 30 [0,1,3,5,7,8,9,14,15] (zc @Wx Qv5) zW,?_,?_⟩
       ·exact hk2
       ·omega
      ·
       refine zM trivial trivial trivial trivial trivial (ed fun hp hpc=>?_);exact ⟨Qv3,_,.inr rfl⟩
     ·
      have ek:k=g.es[i].m.toNat:=by omega
      refine zR (zc @e2 Qv5) Qv5 Qv5 ?_;refine ⟨i+1,Weak.headN 1 30 [0,1,3,7,8,9] zW (e1:=by first|rfl|(simp [mask,A1B,A1u hlt,ek];done)|(simp [mask,A1B,A1u hlt,ek]<;>simp_all<;>omega)) (e2:=by first|rfl|(simp [mask,A1B,A1u hlt,ek];done)|(simp [mask,A1B,A1u hlt,ek]<;>simp_all<;>omega)),?_,?_⟩
      ·exact hlt
      ·omega
  ·have ei:i=g.es.length:=by omega
   refine zR (zc @A00 (zc @Yx Qv5)) Qv5 Qv5 ?_;exact ⟨Qv3,_,.inl (by rw [A7s,ei,Zz])⟩
def B01 (g:G):ACall Tryz.prog 94 [tG g] (.t (.fn 150 [.rptr [.int .i64 g.n,.slice (A0f g.es)]])):=by
 refine ACall.of_body Tryz.func94 rfl (by kernel_rfl) ?_;simp only [entry,Tryz.ntmps94,tG];refine zU ?_;refine zR Qv5 Qv5 Qv5 ?_;simp [A0s,A0r,Blk.cells,ty,Tryz.results94,A0o,A0p,toT,A0d,A0b,A0c,A0a]
def B2S {l:List (Int×Int)} {n:Nat} (hn:n=2) (k:Nat) (ts:List TVal) (h:(A7O l)[k]? =some ts):ts.length=n:=by
 obtain ⟨p,_,rfl⟩:=A7t h; exact hn.symm
def take_snoc {α:Type} {l:List α} {k:Nat} {p:α} (h:l[k]? =some p):l.take (k+1)=l.take k++[p]:=by
 obtain ⟨hk,rfl⟩:=Qx.1 h;exact Xy hk
def B4q {n:Int}: ∀{k:Nat},k≤es.length->(A4X n es k=0↔ ∀i,es.length-k≤i->i<es.length->A4W n es i=0):=by
 intro k
 induction k with
 | zero=>intro _; simp only [A4X,true_iff]; intro i h1 h2; omega
 | succ k ih=>
  intro hk;simp only [A4X];by_cases h:A4W n es (es.length-(k+1))=0
  ·rw [if_neg (by simp [h]),ih (by omega)];constructor
   ·intro hx i h1 h2;by_cases e:i=es.length-(k+1)
    ·subst e; exact h
    ·exact hx i (by omega) h2
   ·intro hx i h1 h2; exact hx i (by omega) h2
  ·rw [if_pos h];constructor
   ·intro hx; exact absurd hx h
   ·intro hx; exact absurd (hx _ (Qk _) (by omega)) h
def ltE (x y:E):Prop:=x.a<y.a∨(x.a=y.a∧x.b<y.b)
def okE (n:Int) (x:E):Prop:=0≤x.a∧x.a≤x.b∧x.b<n∧1≤x.m∧x.m≤50
def A60 {n:Int} (hi:i<es.length):A4W n es i=0↔okE n es[i]∧ ∀j (hj:j+1=i),ltE (es[j]'(by omega)) es[i]:=by
 unfold A4W okE ltE;rw [Qq hi];simp only;by_cases h1: ¬(0≤es[i].a∧es[i].a<n)∨ ¬(0≤es[i].b∧es[i].b<n)∨es[i].m<1∨50<es[i].m
 ·rw [if_pos h1]; constructor
  ·intro h; omega
  ·rintro ⟨h,_⟩; omega
 ·rw [if_neg h1];by_cases h2:es[i].b<es[i].a
  ·rw [if_pos h2]; constructor
   ·intro h; omega
   ·rintro ⟨h,_⟩; omega
  ·rw [if_neg h2];cases i with
   | zero=>simp only [true_iff]; exact ⟨by omega,fun j hj=>by omega⟩
   | succ j=>
    have hj:j<es.length:=by omega
    simp only [Qq hj];constructor
    ·intro h;split at h
     ·omega
     ·refine ⟨by omega,fun j' e=> ?_⟩;have:j'=j:=by omega
      subst this; omega
    ·rintro ⟨h,h3⟩;have:=h3 j rfl;rw [if_neg (by omega)]
def A0h {g:G}:checkG g=0↔(1≤g.n∧g.n≤12)∧(∀e,e∈g.es->okE g.n e)∧g.es.Pairwise ltE:=by
 unfold checkG;by_cases h1:g.n<1∨12<g.n
 ·rw [if_pos h1]; constructor
  ·intro h; omega
  ·rintro ⟨h,_⟩; omega
 ·rw [if_neg h1,B4q (Qk _),Jv];constructor
  ·intro h;refine ⟨by omega,fun e he=> ?_,?_⟩
   ·obtain ⟨i,hi,rfl⟩:=Jk.1 he;exact ((A60 hi).1 (h i (Xj _) hi)).1
   ·rw [ZJ];intro i j hi hj hij;have step: ∀d (hd:i+1+d<g.es.length),ltE g.es[i] g.es[i+1+d]:=by
     intro d
     induction d with
     | zero=>intro hd; exact ((A60 hd).1 (h _ (Xj _) hd)).2 i (by omega)
     | succ d ih=>
      intro hd;have h2:=ih (by omega);have h3:=((A60 hd).1 (h _ (Xj _) hd)).2 (i+1+d) (by omega);unfold ltE at*; omega
    have:=step (j-(i+1)) (by omega);have e:i+1+(j-(i+1))=j:=by omega
    simp only [e] at this;exact this
  ·rintro ⟨_,h2,h3⟩ i _ hi;rw [ZJ] at h3;exact (A60 hi).2 ⟨h2 _ (Xw hi),fun j hj=>h3 j i (by omega) hi (by omega)⟩
def A61 {es:List E} (h: ∀e,e∈es->e.m≤50):(endsL es).length≤50*es.length:=by
 induction es with
 | nil=>simp [endsL]
 | cons x xs ih=>
  have h1:=h x (by simp);have h2:=ih fun e he=>h e (by simp [he]);have e:endsL (x::xs)=endsL [x]++endsL xs:=by rw [<-A39]; rfl
  rw [e,Xv,B2Q,Yj,List.length_cons]; omega
structure Sm (g:G):Prop where
 es:g.es.length<2^40
 m: ∀e,e∈g.es->e.m<2^40
 s:(endsL g.es).length<2^40
def B8U {g:G} (hl:g.es.length<2^30) (h:checkG g=0):Sm g:=by
 obtain ⟨_,h2,_⟩:=A0h.1 h;refine ⟨by omega,fun e he=> ?_,?_⟩
 ·have:=h2 e he; unfold okE at this; omega
 ·have:=A61 (es:=g.es) fun e he=>by have:=h2 e he; unfold okE at this; omega
  omega
def A06 (l:List (Int×Int)):TVal:= .t (.slice (A0U l))
attribute [go_sem] A06
def B4r (g:G) (hl:g.es.length<2^30):ACall Tryz.prog 122 [tG g] (if checkG g≠0 then .tup [.t (.slice []),A0j (checkG g)] else .tup [A06 (endsL g.es),A0j 0]):=by
 refine ACall.of_body Tryz.func122 rfl (by kernel_rfl) ?_;simp only [entry,Tryz.ntmps122,tG];refine zU ?_;refine zM Qv5 Qv5 (zc (A8m g (by omega)) (zc (B01 g) Qv5)) Qv5 Qv5 (zc (ed fun hp hpc=>?_) (ed fun hp hpc=>?_))
 ·rw [if_pos (by assumption)];simp [A0s,A0r,Blk.cells,ty,Tryz.results122,A0o,A0p,toT,A0d,A0b,A0c,A0a,A0j]
 ·
  rw [if_neg (by omega)];have hs:=B8U hl (by omega);refine AWp.weak (Weak.openB 1 0 2 rfl rfl (by omega)) ?_;simp only [List.set_cons_succ,List.set_cons_zero,List.length_cons,List.length_nil,Xv,Nat.reduceAdd,List.cons_append,List.nil_append];refine AWp.weak (Weak.head (m:=3) (by omega) ((fun t f=>[f,t,f,f,f,t,f,f,f,f,f,f,f,f,t,f,f,f,f,f,f,f,f,f,f,f]) true false) (by first | rfl | simp [mask]) (by first | rfl | simp) (zWs trivial) (zWs trivial)) (AWp.rangeFunc (fun k H=>H=[.box [.int .i64 g.n,.slice (A0f g.es) .none],.box [.slice (A0U ((endsL g.es).take k)) (.chain 2)],.chain ((endsL g.es).take k).length 2]∧(True)) (fun _ _=>False) 3 rfl (A9f g hs.s hs.es hs.m) (B2S rfl) (by omega) (zWs trivial) (by rintro _ _ ⟨rfl,-⟩; simp) (fun _ _ h=>h.elim) ?_ (fun l k ts H hts hI=> ?_) (fun H hI=> ?_) (fun e H h=>h.elim))
  ·exact ⟨rfl,trivial⟩
  ·obtain ⟨rfl,-⟩:=hI;obtain ⟨p,hp,rfl⟩:=A7t hts;simp only [mask,A45,List.zip_cons_cons,WV,List.zip_nil_left,List.foldl_cons,List.foldl_nil,List.set_cons_succ,List.set_cons_zero,ofT,A3v,A0v,XY,ZQ,ofT,A3v,toT,A0p,A0a,A0j,A0q,A3w,tG];have hk:k<(endsL g.es).length:=(Qx.1 hp).1;have hkl:((endsL g.es).take k).length=k:=by rw [Wk]; omega
   have:=hs.s;refine zRc (zc @A0z (zc @B0z (zc @hkl Qv5))) Qv5 @A6w ?_;refine ⟨⟨_,_⟩,Weak.head2 (m:=3) (by decide) ((fun t f=>[f,f,f,f,f,f,f,f,f,f,f,f,f,f,f,f,f,f,f,f,f,f,f,f,f,f]) true false) rfl rfl zW,?_,?_⟩
   ·simp [take_snoc hp,hkl]
   ·trivial
  ·obtain ⟨rfl,-⟩:=hI;simp only [mask];refine zR Qv5 Qv5 Qv5 ?_;simp [A0s,A0r,Blk.cells,ty,Tryz.results122,A0o,A0p,toT,A0d,A0b,A0c,A0a,A0j,A06,A7s]
def C6y:Tryz.prog.keyTypeAt 3 129=true:=by kernel_rfl
def C6z:Tryz.prog.tiled 3 129=true:=by kernel_rfl
def C2v:(match Tryz.prog.underlying 129 with | some (.array _ _) | some (.struct _)=>true | _=>false)=true:=by kernel_rfl
noncomputable def C8h:Field:=(Tryz.prog.fieldsOf 129)[0]!
noncomputable def C8i:Field:=(Tryz.prog.fieldsOf 129)[1]!
set_option maxRecDepth 100000 in
def C60:KeyLaw Tryz.prog 129 (.ints 2):=
 B4g (m:=3) (by decide) C6y C6z C2v (C2g (f0:=C8h) (f1:=C8i) (it:=3) (by kernel_rfl) (by kernel_rfl) (by kernel_rfl) (by kernel_rfl) (by kernel_rfl) (by kernel_rfl) (by kernel_rfl) (by kernel_rfl) (by kernel_rfl) (by kernel_rfl) (by kernel_rfl) (of_decide_eq_true (by kernel_rfl:decide (0<Tryz.prog.types.size)=true)))
def A8c:KeyLaw Tryz.prog 3 .int:=B7a Tryz.underlying3
end Go.Proofs.YtdbdfkohpjefjaaGreat
