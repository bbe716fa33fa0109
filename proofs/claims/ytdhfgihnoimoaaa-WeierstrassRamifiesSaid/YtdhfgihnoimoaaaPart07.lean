/- A part of the proof. -/
import Derived.Test.YtdhfgihnoimoaaaPart04
import Derived.Test.YtdhfgihnoimoaaaPart05
import Derived.Test.YtdhfgihnoimoaaaLayerC
import Derived.Test.YtdhfgihnoimoaaaPart02
import Derived.Shelf.SlSortCmp.NoneTotal
import Derived.Test.YtdhfgihnoimoaaaLayerB
set_option linter.all false
set_option maxHeartbeats 4000000
set_option maxRecDepth 100000
namespace Go.Proofs.Ytdhfgihnoimoaaa
open Go.Sp
open Go.Sort (SWO)
instance:Inhabited E:=⟨⟨0,0,0⟩⟩
def neE (x y:E):Prop:= ¬(x.a=y.a∧x.b=y.b)
def distinctE (es:List E):Prop:=es.Pairwise neE
end Go.Proofs.Ytdhfgihnoimoaaa
namespace Go.Proofs.Ytdhfgihnoimoaaa
open Go.Sp Go.RowKit
end Go.Proofs.Ytdhfgihnoimoaaa
namespace Go.Proofs.Ytdhfgihnoimoaaa
open Go.Sp
theorem B3w (l:List E) (x:E):A0b l++[[.int .i64 x.a,.int .i64 x.b,.int .i64 x.m]]=A0b (l++[x]):=by simp [A0b,B8T]
theorem B6y {l:List E} {r:List Tree} (h:r∈A0b l):r.length=3:=by
 obtain ⟨x,_,rfl⟩:=List.mem_map.1 h; rfl
def A6U:List E→Int→Int→Int
 | [],_,_=>0
 | x::xs,a,b=>if x.a=a∧x.b=b then x.m else A6U xs a b
structure BagOk (n:Int) (k:Nat) (es:List E):Prop where
 d:distinctE es
 len:es.length≤k
 m: ∀e,e∈es→1≤e.m∧e.m≤k
 r: ∀e,e∈es→0≤e.a∧e.a≤e.b∧e.b<n
end Go.Proofs.Ytdhfgihnoimoaaa
