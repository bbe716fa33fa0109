/- A part of the proof. -/
import Derived.Test.YtdhfgihnoimoaaaLayerC
import Derived.Test.YtdhfgihnoimoaaaProg
import Derived.KernelRfl
set_option linter.all false
set_option maxHeartbeats 4000000
set_option maxRecDepth 100000
namespace Go.Proofs.Ytdhfgihnoimoaaa
open Go.Sp
theorem ty:
 ((A23 Try.prog 2=some false)∧(A0w Try.prog 2=some 1)∧(A0J Try.prog 2=some (.int .i64 0))∧(A0G Try.prog 2=some 8)∧(Try.prog.underlying 2=some (.int .i64))∧(A23 Try.prog 3=some false)∧(A0w Try.prog 3=some 1)∧(A0J Try.prog 3=some (.int .i64 0))∧(A0G Try.prog 3=some 8)∧(Try.prog.underlying 3=some (.int .i64))∧(A23 Try.prog 4=some false)∧(A0w Try.prog 4=some 1)∧(A0J Try.prog 4=some (.bool false))∧(A0G Try.prog 4=some 1)∧(Try.prog.underlying 4=some .bool)∧(A23 Try.prog 5=some false))∧
 ((A0w Try.prog 5=some 1)∧(A0J Try.prog 5=some (.int .u8 0))∧(A0G Try.prog 5=some 1)∧(Try.prog.underlying 5=some (.int .u8))∧(A23 Try.prog 9=some false)∧(A0w Try.prog 9=some 1)∧(A0J Try.prog 9=some (.string ByteArray.empty))∧(A0G Try.prog 9=some 16)∧(A23 Try.prog 21=some false)∧(A0w Try.prog 21=some 1)∧(A0J Try.prog 21=some (.int .i32 0))∧(A0G Try.prog 21=some 4)∧(Try.prog.underlying 21=some (.int .i32))∧(A23 Try.prog 22=some false)∧(A0w Try.prog 22=some 1)∧(A0J Try.prog 22=some (.slice none 0 0)))∧
 ((A0G Try.prog 22=some 24)∧(A0H Try.prog 22=some (none,55))∧(A23 Try.prog 24=some true)∧(A0w Try.prog 24=some 2)∧(A0J Try.prog 24=some (.agg #[.int .i64 0,.slice none 0 0]))∧(A0G Try.prog 24=some 32)∧(A1N Try.prog 24 0=some (0,3))∧(A1N Try.prog 24 1=some (1,22))∧(A3h Try.prog 24=some (.agg #[.int .i64 0,.slice none 0 0],fun i=>(#[(0,1),(1,1)]:Array (Nat×Nat))[i]?))∧(A23 Try.prog 27=some false)∧(A0w Try.prog 27=some 1)∧(A0J Try.prog 27=some (.slice none 0 0))∧(A0G Try.prog 27=some 24)∧(A0H Try.prog 27=some (none,3))∧(A23 Try.prog 28=some false)∧(A0w Try.prog 28=some 1))∧
 ((A0J Try.prog 28=some (.int .i64 0))∧(A0G Try.prog 28=some 8)∧(Try.prog.underlying 28=some (.int .i64))∧(A23 Try.prog 46=some false)∧(A0w Try.prog 46=some 1)∧(A0J Try.prog 46=some (.slice none 0 0))∧(A0G Try.prog 46=some 24)∧(A0H Try.prog 46=some (none,3))∧(A23 Try.prog 55=some true)∧(A0w Try.prog 55=some 3)∧(A0J Try.prog 55=some (.agg #[.int .i64 0,.int .i64 0,.int .i64 0]))∧(A0G Try.prog 55=some 24)∧(A1N Try.prog 55 0=some (0,3))∧(A1N Try.prog 55 1=some (1,3))∧(A1N Try.prog 55 2=some (2,3))∧(A3h Try.prog 55=some (.agg #[.int .i64 0,.int .i64 0,.int .i64 0],fun i=>(#[(0,1),(1,1),(2,1)]:Array (Nat×Nat))[i]?)))∧
 ((A23 Try.prog 70=some false)∧(A0w Try.prog 70=some 1)∧(A0J Try.prog 70=some (.slice none 0 0))∧(A0G Try.prog 70=some 24)∧(A0H Try.prog 70=some (none,3))∧(A23 Try.prog 84=some false)∧(A0w Try.prog 84=some 1)∧(A0J Try.prog 84=some (.pointer none))∧(A0G Try.prog 84=some 8)∧(A23 Try.prog 101=some true)∧(A0w Try.prog 101=some 12)∧(A0J Try.prog 101=some (.agg #[.int .i64 0,.int .i64 0,.int .i64 0,.int .i64 0,.int .i64 0,.int .i64 0,.int .i64 0,.int .i64 0,.int .i64 0,.int .i64 0,.int .i64 0,.int .i64 0]))∧(A0G Try.prog 101=some 96)∧(A0H Try.prog 101=some (some 12,3))∧(A3h Try.prog 101=some (.agg #[.int .i64 0,.int .i64 0,.int .i64 0,.int .i64 0,.int .i64 0,.int .i64 0,.int .i64 0,.int .i64 0,.int .i64 0,.int .i64 0,.int .i64 0,.int .i64 0],fun i=>some (i*1,1)))∧(A23 Try.prog 102=some true))∧
 ((A0w Try.prog 102=some 12)∧(A0J Try.prog 102=some (.agg #[.int .i64 0,.int .i64 0,.int .i64 0,.int .i64 0,.int .i64 0,.int .i64 0,.int .i64 0,.int .i64 0,.int .i64 0,.int .i64 0,.int .i64 0,.int .i64 0]))∧(A0G Try.prog 102=some 96)∧(A0H Try.prog 102=some (some 12,3))∧(A3h Try.prog 102=some (.agg #[.int .i64 0,.int .i64 0,.int .i64 0,.int .i64 0,.int .i64 0,.int .i64 0,.int .i64 0,.int .i64 0,.int .i64 0,.int .i64 0,.int .i64 0,.int .i64 0],fun i=>some (i*1,1)))∧(A23 Try.prog 107=some true)∧(A0w Try.prog 107=some 2)∧(A0J Try.prog 107=some (.agg #[.int .i64 0,.int .i64 0]))∧(A0G Try.prog 107=some 16)∧(A1N Try.prog 107 0=some (0,3))∧(A1N Try.prog 107 1=some (1,3))∧(A3h Try.prog 107=some (.agg #[.int .i64 0,.int .i64 0],fun i=>(#[(0,1),(1,1)]:Array (Nat×Nat))[i]?))∧(A23 Try.prog 109=some false)∧(A0w Try.prog 109=some 1)∧(A0J Try.prog 109=some (.slice none 0 0))∧(A0G Try.prog 109=some 24))∧
 ((A0H Try.prog 109=some (none,27))∧(A23 Try.prog 112=some false)∧(A0w Try.prog 112=some 1)∧(A0J Try.prog 112=some (.slice none 0 0))∧(A0G Try.prog 112=some 24)∧(A0H Try.prog 112=some (none,46))∧(A23 Try.prog 114=some false)∧(A0w Try.prog 114=some 1)∧(A0J Try.prog 114=some (.map none))∧(A0G Try.prog 114=some 8)∧(A9f Try.prog 114=some (117,3))∧(A23 Try.prog 116=some true)∧(A0w Try.prog 116=some 4)∧(A0J Try.prog 116=some (.agg #[.int .i64 0,.slice none 0 0,.int .i64 0,.map none]))∧(A0G Try.prog 116=some 48)∧(A1N Try.prog 116 0=some (0,24)))∧
 ((A1N Try.prog 116 1=some (2,3))∧(A1N Try.prog 116 2=some (3,114))∧(A3h Try.prog 116=some (.agg #[.int .i64 0,.slice none 0 0,.int .i64 0,.map none],fun i=>(#[(0,2),(2,1),(3,1)]:Array (Nat×Nat))[i]?))∧(A23 Try.prog 117=some true)∧(A0w Try.prog 117=some 12)∧(A0J Try.prog 117=some (.agg #[.int .i64 0,.int .i64 0,.int .i64 0,.int .i64 0,.int .i64 0,.int .i64 0,.int .i64 0,.int .i64 0,.int .i64 0,.int .i64 0,.int .i64 0,.int .i64 0]))∧(A0G Try.prog 117=some 96)∧(A0H Try.prog 117=some (some 12,3))∧(A3h Try.prog 117=some (.agg #[.int .i64 0,.int .i64 0,.int .i64 0,.int .i64 0,.int .i64 0,.int .i64 0,.int .i64 0,.int .i64 0,.int .i64 0,.int .i64 0,.int .i64 0,.int .i64 0],fun i=>some (i*1,1)))∧(A23 Try.prog 122=some false)∧(A0w Try.prog 122=some 1)∧(A0J Try.prog 122=some (.pointer none))∧(A0G Try.prog 122=some 8)∧(A23 Try.prog 128=some false)∧(A0w Try.prog 128=some 1)∧(A0J Try.prog 128=some (.slice none 0 0)))∧
 ((A0G Try.prog 128=some 24)∧(A0H Try.prog 128=some (none,150))∧(A23 Try.prog 132=some false)∧(A0w Try.prog 132=some 1)∧(A0J Try.prog 132=some (.pointer none))∧(A0G Try.prog 132=some 8)∧(A23 Try.prog 133=some true)∧(A0w Try.prog 133=some 12)∧(A0J Try.prog 133=some (.agg #[.int .i64 0,.int .i64 0,.int .i64 0,.int .i64 0,.int .i64 0,.int .i64 0,.int .i64 0,.int .i64 0,.int .i64 0,.int .i64 0,.int .i64 0,.int .i64 0]))∧(A0G Try.prog 133=some 96)∧(A0H Try.prog 133=some (some 12,3))∧(A3h Try.prog 133=some (.agg #[.int .i64 0,.int .i64 0,.int .i64 0,.int .i64 0,.int .i64 0,.int .i64 0,.int .i64 0,.int .i64 0,.int .i64 0,.int .i64 0,.int .i64 0,.int .i64 0],fun i=>some (i*1,1)))∧(A23 Try.prog 136=some false)∧(A0w Try.prog 136=some 1)∧(A0J Try.prog 136=some (.slice none 0 0))∧(A0G Try.prog 136=some 24))∧
 ((A0H Try.prog 136=some (none,4))∧(A23 Try.prog 140=some true)∧(A0w Try.prog 140=some 6)∧(A0J Try.prog 140=some (.agg #[.int .i64 0,.slice none 0 0,.int .i64 0,.slice none 0 0,.slice none 0 0,.int .i64 0]))∧(A0G Try.prog 140=some 96)∧(A1N Try.prog 140 0=some (0,24))∧(A1N Try.prog 140 1=some (2,3))∧(A1N Try.prog 140 2=some (3,46))∧(A1N Try.prog 140 3=some (4,70))∧(A1N Try.prog 140 4=some (5,28))∧(A3h Try.prog 140=some (.agg #[.int .i64 0,.slice none 0 0,.int .i64 0,.slice none 0 0,.slice none 0 0,.int .i64 0],fun i=>(#[(0,2),(2,1),(3,1),(4,1),(5,1)]:Array (Nat×Nat))[i]?))∧(A23 Try.prog 150=some true)∧(A0w Try.prog 150=some 2)∧(A0J Try.prog 150=some (.agg #[.int .i64 0,.int .i64 0]))∧(A0G Try.prog 150=some 16)∧(A0H Try.prog 150=some (some 2,3)))∧
 ((A3h Try.prog 150=some (.agg #[.int .i64 0,.int .i64 0],fun i=>some (i*1,1)))∧(A23 Try.prog 154=some false)∧(A0w Try.prog 154=some 1)∧(A0J Try.prog 154=some (.pointer none))∧(A0G Try.prog 154=some 8)∧(A23 Try.prog 155=some false)∧(A0w Try.prog 155=some 1)∧(A0J Try.prog 155=some (.map none))∧(A0G Try.prog 155=some 8)∧(A9f Try.prog 155=some (3,3))∧(A23 Try.prog 158=some false)∧(A0w Try.prog 158=some 1)∧(A0J Try.prog 158=some (.int .u64 0))∧(A0G Try.prog 158=some 8)∧(Try.prog.underlying 158=some (.int .u64))∧(A23 Try.prog 161=some false))∧
 ((A0w Try.prog 161=some 1)∧(A0J Try.prog 161=some (.int .u32 0))∧(A0G Try.prog 161=some 4)∧(Try.prog.underlying 161=some (.int .u32))∧(A23 Try.prog 164=some false)∧(A0w Try.prog 164=some 1)∧(A0J Try.prog 164=some (.int .u64 0))∧(A0G Try.prog 164=some 8)∧(Try.prog.underlying 164=some (.int .u64))∧(A23 Try.prog 177=some false)∧(A0w Try.prog 177=some 1)∧(A0J Try.prog 177=some (.pointer none))∧(A0G Try.prog 177=some 8)):=by
 (repeat' refine And.intro ?_ ?_)<;>kernel_rfl
attribute [go_sem] ty
def A0g (n:Int):TVal:= .t (.int .i64 n)
def A09 (b:Bool):TVal:= .t (.bool b)
def A5l (a b:Int):TVal:= .agg [.int .i64 a,.int .i64 b]
attribute [go_sem] A0g A09 A5l
theorem B6u (n:Int):ACall Try.prog 124 [A0g n] (A09 false):=by
 refine ACall.of_body Try.func124 rfl (by kernel_rfl) ?_
 simp only [entry,Try.ntmps124,A0g]
 refine zU ?_
 refine zR trivial trivial trivial ?_
 simp [A0E,A0C,Blk.cells,ty,Try.results124,A0y,A05,toT,A0e,A0c,A0d,A0a,A09]
theorem B4D (n v:Int):ACall Try.prog 98 [A0g n,A0g v] (A09 (decide (0≤v∧v<n))):=by
 refine ACall.of_body Try.func98 rfl (by kernel_rfl) ?_
 simp only [entry,Try.ntmps98,A0g]
 refine zU ?_
 repeat' (first|((first|(refine zT ?_;intro K' hK')|(refine zG ?_ ?_<;>(try refine zH ?_)<;>intro hguard<;>(try exact zX)<;>try intro K' hK'))<;>((try simp+contextual only [go_sem]);(repeat' first|(with_reducible refine hK' _ _ ?_;clear hK' K')|exact zY|with_reducible refine And.intro ?_ ?_|(with_reducible intro hpath;try exact zP)|(refine hK' _ _ ?_;clear hK' K')|fail);try refine zS ?_))|(refine zE ?_;refine hK _ _ ?_;clear hK K)|(refine zN ?_;try refine zS ?_)|refine zA ?_|(refine zB ?_;intro K hK)|(refine zC ?_ ?_<;>(try refine zH ?_)<;>intro hcond<;>try exact zX)|fail)
 all_goals
  simp [A0E,A0C,Blk.cells,ty,Try.results98,A0y,A05,toT,A0e,A0c,A0d,A0a,A09]
 all_goals omega
def B4E (a b:Int):Int:=if a<b then -1 else if b<a then 1 else 0
theorem B3q (a b:Int):ACall Try.prog 117 [A0g a,A0g b] (A0g (B4E a b)):=by
 refine ACall.of_body Try.func117 rfl (by kernel_rfl) ?_
 simp only [entry,Try.ntmps117,A0g]
 refine zU ?_
 repeat' (first|((first|(refine zT ?_;intro K' hK')|(refine zG ?_ ?_<;>(try refine zH ?_)<;>intro hguard<;>(try exact zX)<;>try intro K' hK'))<;>((try simp+contextual only [go_sem]);(repeat' first|(with_reducible refine hK' _ _ ?_;clear hK' K')|(with_reducible refine zK (B6u _) ?_;try simp+contextual only [go_sem])|exact zY|with_reducible refine And.intro ?_ ?_|(with_reducible intro hpath;try exact zP)|(refine hK' _ _ ?_;clear hK' K')|fail);try refine zS ?_))|(refine zE ?_;refine hK _ _ ?_;clear hK K)|(refine zN ?_;try refine zS ?_)|refine zA ?_|(refine zB ?_;intro K hK)|(refine zC ?_ ?_<;>(try refine zH ?_)<;>intro hcond<;>try exact zX)|fail)
 all_goals
  simp [A0E,A0C,Blk.cells,ty,Try.results117,A0y,A05,toT,A0e,A0c,A0d,A0a,A0g,B4E]
 all_goals omega
def ints (xs:List Int):Tree:= .slice (xs.map fun x=>[.int .i64 x])
def orI:List Int→Int
 | []=>0
 | x::xs=>if x≠0 then x else orI xs
theorem B9A (xs:List Int) (hl:xs.length<2^40):ACall Try.prog 116 [.t (ints xs)] (A0g (orI xs)):=by
 refine ACall.of_body Try.func116 rfl (by kernel_rfl) ?_
 simp only [entry,Try.ntmps116,ints]
 refine zU ?_
 repeat' (first|((first|(refine zT ?_;intro K' hK')|(refine zG ?_ ?_<;>(try refine zH ?_)<;>intro hguard<;>(try exact zX)<;>try intro K' hK'))<;>((try simp+contextual only [go_sem,List.length_map]);(repeat' first|(with_reducible refine hK' _ _ ?_;clear hK' K')|exact zY|with_reducible refine And.intro ?_ ?_|(with_reducible intro hpath;try exact zP)|(refine hK' _ _ ?_;clear hK' K')|fail);try refine zS ?_))|(refine zE ?_;refine hK _ _ ?_;clear hK K)|(refine zN ?_;try refine zS ?_)|refine zA ?_|(refine zB ?_;intro K hK)|(refine zC ?_ ?_<;>(try refine zH ?_)<;>intro hcond<;>try exact zX)|fail)
 refine AWp.loopS (α:=Nat) 18 (fun k=>[(3,.c (.int .i64 0)),(6,.c (.slice (xs.map fun x=>[.int .i64 x]) .none)),(7,.c (.int .i64 xs.length)),(8,.c (.int .i64 (k:Int)))]) (fun k=>[]) (fun k=>k≤xs.length∧orI xs=orI (xs.drop k)) (fun k=>xs.length-k) (0) (hk:=A0s.headL 0 18 [3,6,7,8] zW) (h0:=?_) (round:=fun k hI=>?_)
 ·exact ⟨Nat.zero_le _,rfl⟩
 ·obtain ⟨hk,hx⟩:=hI
  by_cases hlt:k<xs.length
  ·have e1:xs[k]? =some xs[k]:=List.getElem?_eq_getElem hlt
   repeat' (first|((first|(refine zT ?_;intro K' hK')|(refine zG ?_ ?_<;>(try refine zH ?_)<;>intro hguard<;>(try exact zX)<;>try intro K' hK'))<;>((try simp+contextual only [go_sem,List.getElem?_map,Int.toNat_natCast,e1]);(repeat' first|(with_reducible refine hK' _ _ ?_;clear hK' K')|exact zY|with_reducible refine And.intro ?_ ?_|(with_reducible intro hpath;try exact zP)|(refine hK' _ _ ?_;clear hK' K')|fail);try refine zS ?_))|(refine zE ?_;refine hK _ _ ?_;clear hK K)|(refine zN ?_;try refine zS ?_)|refine zA ?_|(refine zB ?_;intro K hK)|(refine zC ?_ ?_<;>(try refine zH ?_)<;>intro hcond<;>try exact zX)|fail)
   ·have hxk:orI xs=xs[k]:=by rw [hx,List.drop_eq_getElem_cons hlt,orI]; simp_all
    simp [A0E,A0C,Blk.cells,ty,Try.results116,A0y,A05,toT,A0e,A0c,A0d,A0a,A0g,hxk]
   ·refine ⟨k+1,A0s.headN 0 18 [3,6,7,8] zW,?_,?_⟩
    ·exact ⟨hlt,by rw [hx,List.drop_eq_getElem_cons hlt,orI]; simp_all⟩
    ·omega
  ·have ek:k=xs.length:=by omega
   have h0:orI xs=0:=by rw [hx,ek,List.drop_length,orI]
   refine zR (zc @Int.ofNat_lt trivial) trivial trivial ?_
   simp [A0E,A0C,Blk.cells,ty,Try.results116,A0y,A05,toT,A0e,A0c,A0d,A0a,A0g,h0]
theorem B3r (a b c d:Int):ACall Try.prog 99 [A5l a b,A5l c d] (A0g (orI [B4E a c,B4E b d])):=by
 refine ACall.of_body Try.func99 rfl (by kernel_rfl) ?_
 simp only [entry,Try.ntmps99,A5l]
 refine zU ?_
 repeat' (first|((first|(refine zT ?_;intro K' hK')|(refine zG ?_ ?_<;>(try refine zH ?_)<;>intro hguard<;>(try exact zX)<;>try intro K' hK'))<;>((try simp+contextual only [go_sem,ints,chunks,List.range,List.range.loop]);(repeat' first|(with_reducible refine hK' _ _ ?_;clear hK' K')|((with_reducible first|refine zK (B3q _ _) ?_|refine zL (c:=B9A [_,_] (by simp)) (q:=?_));try simp+contextual only [go_sem,ints,chunks,List.range,List.range.loop])|exact zY|with_reducible refine And.intro ?_ ?_|(with_reducible intro hpath;try exact zP)|(refine hK' _ _ ?_;clear hK' K')|fail);try refine zS ?_))|(refine zE ?_;refine hK _ _ ?_;clear hK K)|(refine zN ?_;try refine zS ?_)|refine zA ?_|(refine zB ?_;intro K hK)|(refine zC ?_ ?_<;>(try refine zH ?_)<;>intro hcond<;>try exact zX)|fail)
 simp [A0E,A0C,Blk.cells,ty,Try.results99,A0y,A05,toT,A0e,A0c,A0d,A0a,A0g]
structure E where
 (a b m:Int)
structure G where
 (n:Int) (es:List E)
def B8T (e:E):List Tree:=[.int .i64 e.a,.int .i64 e.b,.int .i64 e.m]
def A0b (es:List E):List (List Tree):=es.map B8T
def tG (g:G):TVal:= .agg [.int .i64 g.n,.slice (A0b g.es)]
attribute [go_sem] tG
def B9H (p:Int×Int):List Tree:=[.int .i64 p.1,.int .i64 p.2]
def A8v (l:List (Int×Int)):List (List Tree):=l.map B9H
def endsL (es:List E):List (Int×Int):=es.flatMap fun e=>List.replicate e.m.toNat (e.a,e.b)
theorem A06 (es:List E):(A0b es).length=es.length:=by simp [A0b]
theorem A7J (es:List (Int×Int)):(A8v es).length=es.length:=by simp [A8v]
theorem B3s (l:List (Int×Int)) (a b:Int):A8v l++[[.int .i64 a,.int .i64 b]]=A8v (l++[(a,b)]):=by simp [A8v,B9H]
theorem B6v {l:List (Int×Int)} {r:List Tree} (h:r∈A8v l):r.length=2:=by
 obtain ⟨x,_,rfl⟩:=List.mem_map.1 h
 rfl
theorem A3l (a b:List E):endsL (a++b)=endsL a++endsL b:=by unfold endsL; exact List.flatMap_append
theorem B0w (e:E):endsL [e]=List.replicate e.m.toNat (e.a,e.b):=by simp [endsL]
theorem A1y {es:List E} {i:Nat} (h:i<es.length):endsL (es.take (i+1))=endsL (es.take i)++List.replicate es[i].m.toNat (es[i].a,es[i].b):=by
 rw [List.take_succ_eq_append_getElem h,A3l,B0w]
theorem A5A (es:List E) (i:Nat):(endsL (es.take i)).length≤(endsL es).length:=by
 have:endsL es=endsL (es.take i)++endsL (es.drop i):=by rw [←A3l,List.take_append_drop]
 rw [this,List.length_append]; omega
theorem A2l {es:List E} {i:Nat} {e:E} (h:es[i]? =some e):(A0b es)[i]? =some [.int .i64 e.a,.int .i64 e.b,.int .i64 e.m]:=by
 simp [A0b,h,B8T]
theorem B6w (g:G) (hs:(endsL g.es).length<2^40) (hl:g.es.length<2^40) (hm: ∀e,e∈g.es→e.m<2^40):ACall Try.prog 97 [tG g] (.t (.slice (A8v (endsL g.es)))):=by
 refine ACall.of_body Try.func97 rfl (by kernel_rfl) ?_
 simp only [entry,Try.ntmps97,tG]
 refine zU ?_
 refine zR trivial trivial trivial ?_
 refine AWp.weak (A0s.opens ((fun t f=>[f,f,f,t,f,f,f,f,f,f,f,f,f,f,f,f,f,f,f,f,f,f,f,f,f,f,f,f,f,f,f,f,f,f,f,f,f,f,f,f]) true false) 2 (by first | omega | simp)) ?_
 simp only [A2U,A9k,List.length_cons,List.length_nil,List.length_append,Nat.reduceAdd,List.cons_append,List.nil_append]
 refine AWp.loopS (α:=Nat) 40 (fun i=>[(1,.c (.ptr 0 0)),(3,.c (.slice (A8v (endsL (g.es.take i))) (.chain 1))),(4,.c (.int .i64 (i:Int)))]) (fun i=>[.box [.int .i64 g.n,.slice (A0b g.es) .none],.chain (endsL (g.es.take i)).length 2]) (fun i=>i≤g.es.length) (fun i=>g.es.length-i) (0) (hk:=A0s.headL 2 40 [1,3,4] zW) (h0:=?_) (round:=fun i hI=>?_)
 ·exact Nat.zero_le _
 ·by_cases hlt:i<g.es.length
  ·have e1:g.es[i]? =some g.es[i]:=List.getElem?_eq_getElem hlt
   have e2:=A2l e1
   have hle:=A5A g.es (i+1)
   rw [A1y hlt,List.length_append,List.length_replicate] at hle
   have hmi:=hm g.es[i] (List.getElem_mem hlt)
   repeat' (first|((first|(refine zT ?_;intro K' hK')|(refine zG ?_ ?_<;>(try refine zH ?_)<;>intro hguard<;>(try exact zX)<;>try intro K' hK'))<;>((try simp+contextual only [go_sem,A06,Int.ofNat_lt]);(repeat' first|(with_reducible refine hK' _ _ ?_;clear hK' K')|exact zY|with_reducible refine And.intro ?_ ?_|(with_reducible intro hpath;try exact zP)|(refine hK' _ _ ?_;clear hK' K')|fail);try refine zS ?_))|(refine zE ?_;refine hK _ _ ?_;clear hK K)|(refine zN ?_;try refine zS ?_)|refine zA ?_|(refine zB ?_;intro K hK)|(refine zC ?_ ?_<;>(try refine zH ?_)<;>intro hcond<;>try exact zX)|fail)
   ·
    refine AWp.loopS (α:=Nat) 40 (fun k=>[(1,.c (.ptr 0 0)),(3,.c (.slice (A8v (endsL (g.es.take i)++List.replicate k (g.es[i].a,g.es[i].b))) (.chain 1))),(4,.c (.int .i64 (i:Int))),(5,.c (.int .i64 (k:Int)))]) (fun k=>[.box [.int .i64 g.n,.slice (A0b g.es) .none],.chain ((endsL (g.es.take i)).length+k) 2]) (fun k=>k≤g.es[i].m.toNat) (fun k=>g.es[i].m.toNat-k) (0) (hk:=A0s.headL 2 40 [1,3,4,5] zW) (h0:=?_) (round:=fun k hI=>?_)
    ·exact Nat.zero_le _
    ·by_cases hk:(k:Int)<g.es[i].m
     ·
      have hk2:k<g.es[i].m.toNat:=by omega
      repeat' (first|((first|(refine zT ?_;intro K' hK')|(refine zG ?_ ?_<;>(try refine zH ?_)<;>intro hguard<;>(try exact zX)<;>try intro K' hK'))<;>((try simp+contextual only [go_sem,e2,Int.toNat_natCast,List.length_append,List.length_replicate,A7J,chunks,List.range,List.range.loop,B3s,List.append_assoc,←List.replicate_succ']);(repeat' first|(with_reducible refine hK' _ _ ?_;clear hK' K')|(with_reducible exact B6v (by assumption))|exact zY|with_reducible refine And.intro ?_ ?_|(with_reducible intro hpath;try exact zP)|(refine hK' _ _ ?_;clear hK' K')|fail);try refine zS ?_))|(refine zE ?_;refine hK _ _ ?_;clear hK K)|(refine zN ?_;try refine zS ?_)|refine zA ?_|(refine zB ?_;intro K hK)|(refine zC ?_ ?_<;>(try refine zH ?_)<;>intro hcond<;>try exact zX)|fail)
      refine ⟨k+1,A0s.headN 2 40 [1,3,4,5] zW (e1:=by first|rfl|(simp [mask,A1Q,Nat.add_assoc,List.replicate_succ];done)|(simp [mask,A1Q,Nat.add_assoc,List.replicate_succ]<;>simp_all<;>omega)) (e2:=by first|rfl|(simp [mask,A1Q,Nat.add_assoc,List.replicate_succ];done)|(simp [mask,A1Q,Nat.add_assoc,List.replicate_succ]<;>simp_all<;>omega)),?_,?_⟩
      ·exact hk2
      ·omega
     ·
      have ek:k=g.es[i].m.toNat:=by omega
      refine zR (zc @e2 trivial) trivial trivial ?_
      refine ⟨i+1,A0s.headN 2 40 [1,3,4] zW (e1:=by first|rfl|(simp [mask,A1Q,A1y hlt,ek];done)|(simp [mask,A1Q,A1y hlt,ek]<;>simp_all<;>omega)) (e2:=by first|rfl|(simp [mask,A1Q,A1y hlt,ek];done)|(simp [mask,A1Q,A1y hlt,ek]<;>simp_all<;>omega)),?_,?_⟩
      ·exact hlt
      ·omega
  ·have ei:i=g.es.length:=by omega
   refine zR (zc @A06 (zc @Int.ofNat_lt trivial)) trivial trivial ?_
   simp [A0E,A0C,Blk.cells,ty,Try.results97,A0y,A05,toT,A0e,A0c,A0d,A0a,ei]
theorem B0x (g:G) (v:Int):ACall Try.prog 55 [tG g,A0g v] (A09 (decide (0≤v∧v<g.n))):=by
 refine ACall.of_body Try.func55 rfl (by kernel_rfl) ?_
 simp only [entry,Try.ntmps55,tG,A0g]
 refine zU ?_
 repeat' (first|((first|(refine zT ?_;intro K' hK')|(refine zG ?_ ?_<;>(try refine zH ?_)<;>intro hguard<;>(try exact zX)<;>try intro K' hK'))<;>((try simp+contextual only [go_sem]);(repeat' first|(with_reducible refine hK' _ _ ?_;clear hK' K')|exact zY|with_reducible refine And.intro ?_ ?_|(with_reducible intro hpath;try exact zP)|(refine hK' _ _ ?_;clear hK' K')|fail);try refine zS ?_))|(refine zE ?_;refine hK _ _ ?_;clear hK K)|(refine zN ?_;try refine zS ?_)|refine zA ?_|(refine zB ?_;intro K hK)|(refine zC ?_ ?_<;>(try refine zH ?_)<;>intro hcond<;>try exact zX)|fail)
 all_goals
  simp [A0E,A0C,Blk.cells,ty,Try.results55,A0y,A05,toT,A0e,A0c,A0d,A0a,A09]
 all_goals omega
def A4w (n:Int) (es:List E) (i:Nat):Int:=
 match es[i]? with
 | none=>0
 | some x=>
  if ¬(0≤x.a∧x.a<n)∨ ¬(0≤x.b∧x.b<n)∨x.m<1∨50<x.m then 2
  else if x.b<x.a then 9
  else match i with
   | 0=>0
   | j+1=>match es[j]? with
    | none=>0
    | some y=>if x.a<y.a∨(x.a=y.a∧x.b≤y.b) then 9 else 0
theorem B7Z (g:G) (i:Nat) (hi:i<g.es.length) (hl:g.es.length<2^40):ACall Try.prog 57 [tG g,A0g i] (A0g (A4w g.n g.es i)):=by
 have e1:g.es[i]? =some g.es[i]:=List.getElem?_eq_getElem hi
 have e2:=A2l e1
 cases i with
 | zero=>
  refine ACall.of_body Try.func57 rfl (by kernel_rfl) ?_
  simp only [entry,Try.ntmps57,tG,A0g]
  refine zU ?_
  repeat' (first|((first|(refine zT ?_;intro K' hK')|(refine zG ?_ ?_<;>(try refine zH ?_)<;>intro hguard<;>(try exact zX)<;>try intro K' hK'))<;>((try simp+contextual only [go_sem,e2,Int.toNat_natCast,Int.toNat_zero,Int.natCast_zero]);(repeat' first|(with_reducible refine hK' _ _ ?_;clear hK' K')|(with_reducible refine zK (B0x g _) ?_;try simp+contextual only [go_sem,e2,Int.toNat_natCast,Int.toNat_zero,Int.natCast_zero])|exact zY|with_reducible refine And.intro ?_ ?_|(with_reducible intro hpath;try exact zP)|(refine hK' _ _ ?_;clear hK' K')|fail);try refine zS ?_))|(refine zE ?_;refine hK _ _ ?_;clear hK K)|(refine zN ?_;try refine zS ?_)|refine zA ?_|(refine zB ?_;intro K hK)|(refine zC ?_ ?_<;>(try refine zH ?_)<;>intro hcond<;>try exact zX)|fail)
  all_goals
   simp [A0E,A0C,Blk.cells,ty,Try.results57,A0y,A05,toT,A0e,A0c,A0d,A0a,A0g,A4w,e1]
  all_goals omega
 | succ j=>
  have hj:j<g.es.length:=by omega
  have f1:g.es[j]? =some g.es[j]:=List.getElem?_eq_getElem hj
  have f2:=A2l f1
  have e4:((j+1:Nat):Int)-1=j:=by omega
  have e5:((j+1:Nat):Int).toNat=j+1:=by omega
  have e6:((j:Nat):Int).toNat=j:=by omega
  refine ACall.of_body Try.func57 rfl (by kernel_rfl) ?_
  simp only [entry,Try.ntmps57,tG,A0g]
  refine zU ?_
  repeat' (first|((first|(refine zT ?_;intro K' hK')|(refine zG ?_ ?_<;>(try refine zH ?_)<;>intro hguard<;>(try exact zX)<;>try intro K' hK'))<;>((try simp+contextual only [go_sem,e2,e4,e5,e6,f2]);(repeat' first|(with_reducible refine hK' _ _ ?_;clear hK' K')|(with_reducible refine zK (B0x g _) ?_;try simp+contextual only [go_sem,e2,e4,e5,e6,f2])|exact zY|with_reducible refine And.intro ?_ ?_|(with_reducible intro hpath;try exact zP)|(refine hK' _ _ ?_;clear hK' K')|fail);try refine zS ?_))|(refine zE ?_;refine hK _ _ ?_;clear hK K)|(refine zN ?_;try refine zS ?_)|refine zA ?_|(refine zB ?_;intro K hK)|(refine zC ?_ ?_<;>(try refine zH ?_)<;>intro hcond<;>try exact zX)|fail)
  all_goals
   simp [A0E,A0C,Blk.cells,ty,Try.results57,A0y,A05,toT,A0e,A0c,A0d,A0a,A0g,A4w,e1,f1]
  all_goals omega
def A4x (n:Int) (es:List E):Nat→Int
 | 0=>0
 | k+1=>if A4w n es (es.length-(k+1))≠0 then A4w n es (es.length-(k+1)) else A4x n es k
def checkG (g:G):Int:=if g.n<1∨12<g.n then 2 else A4x g.n g.es g.es.length
theorem A5B (g:G) (hl:g.es.length<2^40):ACall Try.prog 34 [tG g] (A0g (checkG g)):=by
 refine ACall.of_body Try.func34 rfl (by kernel_rfl) ?_
 simp only [entry,Try.ntmps34,tG]
 refine zU ?_
 repeat' (first|((first|(refine zT ?_;intro K' hK')|(refine zG ?_ ?_<;>(try refine zH ?_)<;>intro hguard<;>(try exact zX)<;>try intro K' hK'))<;>((try simp+contextual only [go_sem]);(repeat' first|(with_reducible refine hK' _ _ ?_;clear hK' K')|exact zY|with_reducible refine And.intro ?_ ?_|(with_reducible intro hpath;try exact zP)|(refine hK' _ _ ?_;clear hK' K')|fail);try refine zS ?_))|(refine zE ?_;refine hK _ _ ?_;clear hK K)|(refine zN ?_;try refine zS ?_)|refine zA ?_|(refine zB ?_;intro K hK)|(refine zC ?_ ?_<;>(try refine zH ?_)<;>intro hcond<;>try exact zX)|fail)
 ·
  simp [A0E,A0C,Blk.cells,ty,Try.results34,A0y,A05,toT,A0e,A0c,A0d,A0a,A0g,checkG]
  all_goals omega
 ·
  refine AWp.loopS (α:=Nat) 26 (fun i=>[(1,.c (.ptr 0 0)),(3,.c (.int .i64 (i:Int)))]) (fun i=>[.box [.int .i64 g.n,.slice (A0b g.es) .none]]) (fun i=>i≤g.es.length∧checkG g=A4x g.n g.es (g.es.length-i)) (fun i=>g.es.length-i) (0) (hk:=A0s.headL 1 26 [1,3] zW) (h0:=?_) (round:=fun i hI=>?_)
  ·exact ⟨Nat.zero_le _,by simp only [checkG,Nat.sub_zero]; rw [if_neg (by omega)]⟩
  ·obtain ⟨hi,hx⟩:=hI
   by_cases hlt:i<g.es.length
   ·have es:g.es.length-i=(g.es.length-(i+1))+1:=by omega
    have ei:g.es.length-(g.es.length-(i+1)+1)=i:=by omega
    rw [es,A4x,ei] at hx
    repeat' (first|((first|(refine zT ?_;intro K' hK')|(refine zG ?_ ?_<;>(try refine zH ?_)<;>intro hguard<;>(try exact zX)<;>try intro K' hK'))<;>((try simp+contextual only [go_sem,A06,Int.ofNat_lt]);(repeat' first|(with_reducible refine hK' _ _ ?_;clear hK' K')|(with_reducible refine zK (B7Z g i hlt hl) ?_;try simp+contextual only [go_sem,A06,Int.ofNat_lt])|exact zY|with_reducible refine And.intro ?_ ?_|(with_reducible intro hpath;try exact zP)|(refine hK' _ _ ?_;clear hK' K')|fail);try refine zS ?_))|(refine zE ?_;refine hK _ _ ?_;clear hK K)|(refine zN ?_;try refine zS ?_)|refine zA ?_|(refine zB ?_;intro K hK)|(refine zC ?_ ?_<;>(try refine zH ?_)<;>intro hcond<;>try exact zX)|fail)
    ·have hx2:checkG g=A4w g.n g.es i:=by rw [hx,if_pos (by assumption)]
     simp [A0E,A0C,Blk.cells,ty,Try.results34,A0y,A05,toT,A0e,A0c,A0d,A0a,A0g,hx2]
    ·refine ⟨i+1,A0s.headN 1 26 [1,3] zW,?_,?_⟩
     ·exact ⟨hlt,by rw [hx,if_neg (by omega)]⟩
     ·omega
   ·have ei:i=g.es.length:=by omega
    have h0:checkG g=0:=by rw [hx,ei,Nat.sub_self,A4x]
    refine zR (zc @A06 (zc @Int.ofNat_lt trivial)) trivial trivial ?_
    simp [A0E,A0C,Blk.cells,ty,Try.results34,A0y,A05,toT,A0e,A0c,A0d,A0a,A0g,h0]
 ·
  simp [A0E,A0C,Blk.cells,ty,Try.results34,A0y,A05,toT,A0e,A0c,A0d,A0a,A0g,checkG]
  all_goals omega
end Go.Proofs.Ytdhfgihnoimoaaa
