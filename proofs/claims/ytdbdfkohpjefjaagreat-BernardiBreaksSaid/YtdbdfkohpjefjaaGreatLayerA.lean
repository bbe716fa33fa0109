/- Our layer over the machine: values of a running function as plain data, and the rules by which they step; part 1. -/
import Derived.WalkKit
import Derived.CallsIn
import Derived.OwnWalkIn
import Derived.TacticsInMore
import Derived.Deep.MidRow
import Derived.Deep.AppendSrc
import Derived.Laws.MakeOwn
import Derived.Laws.Tables
import Derived.Laws.StructEq
import Derived.RangeFuncCalls
import Derived.RangeFuncLeaves
import Derived.RangeFuncRecord
import Derived.Laws.Slices
set_option linter.all false
namespace Go.Sp
open Go.RowKit
abbrev Qq:=@List.getElem?_eq_getElem
abbrev Qx:=@List.getElem?_eq_some_iff
abbrev Qz:=@List.getD_eq_getElem?_getD
abbrev Qw:=@List.getElem?_append_left
abbrev Qv:=@List.mem_of_getElem?
abbrev Qk:=@Nat.le_refl
abbrev Qy:=@List.getElem?_set_ne
abbrev QQ:=@List.getElem?_map
abbrev QX:=@List.getElem?_set_self
abbrev QZ:=@Array.getElem?_eq_getElem
abbrev QY:=@List.mem_map
abbrev QW:=@List.getElem?_append_right
abbrev QJ:=@Classical.byContradiction
abbrev QV:=@List.mem_cons
abbrev Xq:=@List.getElem?_eq_none
abbrev Xx:=@List.getElem?_take_of_lt
abbrev Xz:=@Array.getElem?_eq_some_iff
abbrev Xj:=@Nat.zero_le
abbrev Xw:=@List.getElem_mem
abbrev Xv:=@List.length_append
abbrev Xk:=@List.mem_range
abbrev Xy:=@List.take_succ_eq_append_getElem
abbrev XQ:=@List.mem_singleton
abbrev XX:=@Nat.zero_add
abbrev XZ:=@List.mem_append
abbrev XY:=@List.map_cons
abbrev XW:=@List.length_map
abbrev XJ:=@List.not_mem_nil
abbrev XV:=@Bool.and_eq_true
abbrev Zq:=@List.ext_getElem?
abbrev Zx:=@Int.eq_ofNat_of_zero_le
abbrev Zz:=@List.take_length
abbrev Zj:=@List.mem_iff_getElem?
abbrev Zw:=@List.take_of_length_le
abbrev Zv:=@List.append_assoc
abbrev Zk:=@List.drop_eq_getElem_cons
abbrev Zy:=@List.drop_succ_cons
abbrev ZQ:=@List.map_nil
abbrev ZX:=@List.all_eq_true
abbrev ZZ:=@List.take_append_of_le_length
abbrev ZY:=@List.length_eq_zero_iff
abbrev ZW:=@Nat.lt_of_lt_of_le
abbrev ZJ:=@List.pairwise_iff_getElem
abbrev ZV:=@List.mem_filter
abbrev Yq:=@List.drop_zero
abbrev Yx:=@Int.ofNat_lt
abbrev Yz:=@List.length_set
abbrev Yj:=@List.length_replicate
abbrev Yw:=@Nat.le_trans
abbrev Yv:=@List.getElem?_range
abbrev Yk:=@Bool.false_eq_true
abbrev Yy:=@List.getD_cons_zero
abbrev YQ:=@List.getD_cons_succ
abbrev YX:=@List.getElem?_drop
abbrev YZ:=@List.Nodup.length_le_of_subset
abbrev YY:=@List.mem_cons_of_mem
abbrev YW:=@List.nodup_append
abbrev YJ:=@Nat.mul_le_mul_right
abbrev YV:=@Bool.or_eq_true
abbrev Wq:=@List.mem_replicate
abbrev Wx:=@Nat.add_assoc
abbrev Wz:=@List.getElem?_toArray
abbrev Wj:=@Nat.mul_one
abbrev Ww:=@Bool.not_eq_true'
abbrev Wv:=@Array.getElem?_append_left
abbrev Wk:=@List.length_take
abbrev Wy:=@List.length_pos_iff
abbrev WQ:=@List.range_succ
abbrev WX:=@List.append_nil
abbrev WZ:=@List.perm_ext_iff_of_nodup
abbrev WY:=@Array.getElem?_toList
abbrev WW:=@List.length_filter_le
abbrev WJ:=@List.take_append_drop
abbrev WV:=@List.zip_nil_right
abbrev Jq:=@List.pairwise_cons
abbrev Jz:=@List.map_append
abbrev Jj:=@Int.le_refl
abbrev Jw:=@List.map_congr_left
abbrev Jv:=@Nat.sub_self
abbrev Jk:=@List.mem_iff_getElem
abbrev Jy:=@List.mem_flatMap
abbrev JQ:=@List.pairwise_map
abbrev JX:=@Option.some.inj
abbrev JZ:=@List.mem_of_mem_take
abbrev JY:=@List.mapM_cons
abbrev JW:=@Array.ext'
abbrev JJ:=@List.findIdx?_cons
abbrev JV:=@List.filter_append
abbrev Vq:=@List.set_append_right
abbrev Vx:=@Nat.add_mul
abbrev Vz:=@Nat.lt_or_ge
abbrev Vj:=@Nat.mod_two_eq_zero_or_one
abbrev Vw:=@Nat.mod_eq_of_lt
abbrev Vv:=@Option.some.injEq
abbrev Vk:=@List.size_toArray
abbrev Vy:=@List.length_range
abbrev VQ:=@Bool.true_and
abbrev VZ:=@Nat.mod_lt
abbrev VY:=@List.drop_eq_nil_of_le
abbrev VW:=@Bool.false_and
abbrev VJ:=@List.ext_getElem
abbrev VV:=@Nat.le_succ
abbrev Qq0:=@List.getElem?_set
abbrev Qq1:=@List.map_map
abbrev Qq2:=@List.getElem?_replicate
abbrev Qq3:=@Nat.pow_le_pow_right
abbrev Qq4:=@Bool.not_true
abbrev Qq5:=@Nat.add_comm
abbrev Qq6:=@Nat.min_eq_left
abbrev Qq7:=@Bool.false_or
abbrev Qq8:=@List.nodup_cons
abbrev Qq9:=@List.drop_length
abbrev Qx0:=@Nat.not_lt
abbrev Qx1:=@List.nodup_range
abbrev Qx2:=@List.countP_cons
abbrev Qx3:=@Bool.not_eq_true
abbrev Qx4:=@Array.getElem?_setIfInBounds_self_of_lt
abbrev Qx5:=@Nat.ne_of_lt
abbrev Qx6:=@List.set_append_left
abbrev Qx7:=@List.mem_append_left
abbrev Qx8:=@Bool.not_false
abbrev Qx9:=@List.pairwise_append
abbrev Qz0:=@List.filter_cons_of_pos
abbrev Qz1:=@List.filter_cons_of_neg
abbrev Qz2:=@List.take_set_of_le
abbrev Qz3:=@Nat.testBit_lt_two_pow
abbrev Qz4:=@List.Perm.pairwise_iff
abbrev Qz5:=@List.getElem_set
abbrev Qz6:=@Nat.eq_zero_or_pos
abbrev Qz7:=@List.contains_iff_mem
abbrev Qz8:=@List.filterMap_append
abbrev Qz9:=@Array.getElem?_modify
abbrev Qj0:=@List.findIdx?_eq_some_iff_getElem
abbrev Qj1:=@Array.mapM_eq_mapM_toList
abbrev Qj2:=@Bool.eq_iff_iff
abbrev Qj3:=@List.getElem?_zipIdx
abbrev Qj4:=@List.map_set
abbrev Qj5:=@List.Perm.eq_of_pairwise
abbrev Qj6:=@Array.getElem?_setIfInBounds_ne
abbrev Qj7:=@Int.mul_nonneg
abbrev Qj8:=@Array.getElem?_eq_none
abbrev Qj9:=@List.range_succ_eq_map
abbrev Qw0:=@Nat.le_of_eq
abbrev Qw1:=@Classical.choose_spec
abbrev Qw2:=@List.foldl_append
abbrev Qw3:=@Nat.lt_trichotomy
abbrev Qw4:=@List.filter_congr
abbrev Qw5:=@List.filter_cons
abbrev Qw6:=@Nat.mul_comm
abbrev Qw7:=@List.eq_of_mem_replicate
abbrev Qw8:=@Bool.or_false
abbrev Qw9:=@Int.le_trans
abbrev Qv0:=@Int.mul_comm
abbrev Qv1:=@Int.mul_le_mul_of_nonneg_left
abbrev Qv2:=@Int.mul_zero
def Qv3:True:=True.intro
def Qv4 {a b:Prop} (h:a) (k:b):a∧b:=⟨h,k⟩
def Qv5:True:=trivial
inductive Tree where
 | int (k:IntKind) (n:Int)
 | bool (b:Bool)
 | str (s:ByteArray)
 | slice (rows:List (List Tree))
 | rptr (cells:List Tree)
 | fn (f:FuncId) (caps:List Tree)
 | nilf
 | raw (v:Value)
inductive TRel (S:Nat->Nat->Prop) (w:World):Tree->Value->Prop where
 | int (k:IntKind) (n:Int):TRel S w (.int k n) (.int k n)
 | bool (b:Bool):TRel S w (.bool b) (.bool b)
 | str (s:ByteArray):TRel S w (.str s) (.string s)
 | nil (a:Option Addr) (c:Nat):TRel S w (.slice []) (.slice a 0 c)
 | slice (b off k c:Nat) (rows:List (List Tree)) (cell:Nat->Nat->Value) (hn:rows.length≤c)
   (hk: ∀r,r∈rows->r.length=k)
   (hc: ∀i r j t,rows[i]? =some r->r[j]? =some t->S b (off+(i*k+j))∧w.cell? ⟨b,off+(i*k+j),none⟩=some (cell i j))
   (hr: ∀i r j t,rows[i]? =some r->r[j]? =some t->TRel S w t (cell i j)):
   TRel S w (.slice rows) (.slice (some ⟨b,off,none⟩) rows.length c)
 | rptr (b off:Nat) (cells:List Tree) (cell:Nat->Value)
   (hc: ∀j t,cells[j]? =some t->S b (off+j)∧w.cell? ⟨b,off+j,none⟩=some (cell j))
   (hr: ∀j t,cells[j]? =some t->TRel S w t (cell j)):
   TRel S w (.rptr cells) (.pointer (some ⟨b,off,none⟩))
 | fn (f:FuncId) (caps:List Tree) (vs:Nat->Value) (hr: ∀j t,caps[j]? =some t->TRel S w t (vs j)):
   TRel S w (.fn f caps) (.func (.func f) #[] ((List.range caps.length).map vs).toArray)
 | nilf:TRel S w .nilf .nilFunc
 | raw (v:Value) (h:v.oneCell'=true):TRel S w (.raw v) v
variable {w w':World}
def TRel.mono {S S':Nat->Nat->Prop} {t:Tree} {v:Value} (h:TRel S w t v)
  (hS: ∀b o u,S b o->w.cell? ⟨b,o,none⟩=some u->S' b o∧w'.cell? ⟨b,o,none⟩=some u):TRel S' w' t v:=by
 induction h with
 | int k n=>exact .int k n
 | bool b=>exact .bool b
 | str s=>exact .str s
 | nil a c=>exact .nil a c
 | slice b off k c rows cell hn hk hc hr ih=>
  exact .slice b off k c rows cell hn hk (fun i r j t h1 h2=>hS _ _ _ (hc i r j t h1 h2).1 (hc i r j t h1 h2).2) ih
 | rptr b off cells cell hc hr ih=>
  exact .rptr b off cells cell (fun j t h=>hS _ _ _ (hc j t h).1 (hc j t h).2) ih
 | fn f caps vs hr ih=>exact .fn f caps vs ih
 | nilf=>exact .nilf
 | raw v h=>exact .raw v h
def Tree.flat:Tree->Bool
 | .int .. | .bool .. | .str .. | .nilf=>true
 | _=>false
def TRel.of_flat {S S':Nat->Nat->Prop} {t:Tree} {v:Value} (hf:t.flat=true) (h:TRel S w t v):TRel S' w' t v:=by
 cases h<;>simp [Tree.flat] at hf
 ·exact .int _ _
 ·exact .bool _
 ·exact .str _
 ·exact .nilf
inductive ACap where
 | ptr (id off:Nat)
 | tree (t:Tree)
 | ref (id k off len cap:Nat)
inductive MKey where
 | int (n:Int)
 | ints (l:List Int)
 | str (s:ByteArray)
deriving DecidableEq
def MKey.kv:MKey->Value
 | .int n=> .int .i64 n
 | .ints l=> .agg (l.map (Value.int .i64)).toArray
 | .str s=> .string s
inductive MV where
 | c (t:Tree)
 | agg (ts:List Tree)
inductive Tok where
 | none
 | exact
 | chain (i:Nat)
 | tail (i p:Nat)
inductive ACell where
 | any
 | int (k:IntKind) (n:Int)
 | bool (b:Bool)
 | str (s:ByteArray)
 | slice (rows:List (List Tree)) (tok:Tok)
 | nils
 | rptr (cells:List Tree)
 | ptr (id off:Nat)
 | ref (id k off len cap:Nat)
 | fn (f:FuncId) (caps:List ACap)
 | bfn (f:FuncId) (caps:List ACap)
 | yld (l:Nat)
 | nilf
 | nilp
 | map (id:Nat)
 | iter (id:Nat)
 | rows (rs:List (List ACap)) (tok:Tok)
 | rptrC (cells:List ACap)
 | raw (v:Value)
 | vec (id len cap:Nat)
inductive AVal where
 | c (x:ACell)
 | agg (cs:List ACell)
 | tup (vs:List AVal)
inductive Own where
 | stable
 | foreign
 | mine (id:Nat)
inductive Blk where
 | box (cs:List ACell)
 | ro (ts:List Tree)
 | roC (cs:List ACap)
 | chain (tip k:Nat)
 | dead
 | map (es:List (MKey×MV))
 | iter (m n:Nat) (seen:List Nat)
 | ghost (G:(Nat->Nat->Own)->World->Prop)
structure St where
 tmps:List AVal
 heap:List Blk
abbrev Sig:=Nat->Nat->Own
def Stab (σ:Sig) (b o:Nat):Prop:=σ b o= .stable
def A0v:Tree->ACell
 | .int k n=> .int k n
 | .bool b=> .bool b
 | .str s=> .str s
 | .slice rows=> .slice rows .none
 | .rptr cells=> .rptr cells
 | .fn f caps=> .fn f (caps.map .tree)
 | .nilf=> .nilf
 | .raw v=> .raw v
def A85 (σ:Sig) (w:World) (id k:Nat):Value->Prop
 | .slice a n c=>c=n∨(0<k∧ ∃b off,a=some ⟨b,off,none⟩∧ ∀j,n*k≤j->j<c*k->
   σ b (off+j)= .mine id∧(∃u,w.cell? ⟨b,off+j,none⟩=some u)∧w.frozen? ⟨b,off+j,none⟩=false)
 | _=>False
def KRel (ι:List Nat) (σ:Sig) (w:World):ACap->Value->Prop
 | .ptr id off,v=> ∃b,ι[id]? =some b∧v= .pointer (some ⟨b,off,none⟩)
 | .tree t,v=>TRel (Stab σ) w t v
 | .ref id _ off len cap,v=> ∃b,ι[id]? =some b∧ ∃cap',cap≤cap'∧v= .slice (some ⟨b,off,none⟩) len cap'
def A7c (ι:List Nat) (σ:Sig) (w:World) (rs:List (List ACap)) (v:Value):Prop:=
 ∃a c,v= .slice a rs.length c∧rs.length≤c∧(rs≠[]-> ∃b off k,a=some ⟨b,off,none⟩∧(∀r,r∈rs->r.length=k)∧
  ∀(i:Nat) r (j:Nat) t,rs[i]? =some r->r[j]? =some t-> ∃u,σ b (off+(i*k+j))= .stable∧w.cell? ⟨b,off+(i*k+j),none⟩=some u∧KRel ι σ w t u)
def A3G (σ:Sig) (w:World):MV->Value->Prop
 | .c t,v=>TRel (Stab σ) w t v
 | .agg ts,v=> ∃vs:Array Value,v= .agg vs∧vs.size=ts.length∧ ∀(j:Nat) t u,ts[j]? =some t->vs[j]? =some u->TRel (Stab σ) w t u
def A86 (σ:Sig) (w:World) (i:Nat):Value->Prop
 | .slice (some a) _ c=>0<c->a.off=0∧ ∃arr e o,w.heap[a.block]? =some (.cells arr e (0,0))∧arr.size≤o∧σ a.block o= .mine i
 | _=>True
def MarkUp (id:Nat) (σ:Sig) (w:World) (σ':Sig) (w':World):Prop:= ∀(b o:Nat) arr e,w.heap[b]? =some (Obj.cells arr e (0,0))->arr.size≤o->σ b o= .mine id->
 σ' b o= .mine id∧ ∃arr',w'.heap[b]? =some (Obj.cells arr' e (0,0))∧arr'.size=arr.size
def MarkUp.refl (id:Nat) (σ:Sig) (w:World):MarkUp id σ w σ w:=fun _ _ arr _ h _ h'=>⟨h',arr,h,rfl⟩
def MarkUp.trans {id:Nat} {σ σ' σ'':Sig} {w w' w'':World} (h:MarkUp id σ w σ' w') (h':MarkUp id σ' w' σ'' w''):MarkUp id σ w σ'' w'':=fun b o arr e q1 q2 q3=>
 let ⟨r1,arr',r2,r3⟩:=h b o arr e q1 q2 q3; let ⟨s1,arr'',s2,s3⟩:=h' b o arr' e r2 (by omega) r1; ⟨s1,arr'',s2,by omega⟩
variable {σ σ':Sig}
def MarkUp.of {id:Nat} (hs: ∀b o,b<w.heap.size->σ b o= .mine id->(∃arr e,w.heap[b]? =some (Obj.cells arr e (0,0)))->σ' b o= .mine id∧w'.heap[b]? =w.heap[b]?):MarkUp id σ w σ' w':=fun b o arr e q1 q2 q3=>by
 obtain ⟨r1,r2⟩:=hs b o (Xz.1 q1).1 q3 ⟨arr,e,q1⟩;exact ⟨r1,arr,by rw [r2]; exact q1,rfl⟩
def A4A (σ:Sig) (w:World) (H:List Blk) (rows:List (List Tree)) (v:Value):Tok->Prop
 | .none=>True
 | .exact=> ∃a n,v= .slice a n n
 | .chain i=> ∃tip k,H[i]? =some (.chain tip k)∧rows.length≤tip∧A86 σ w i v∧(rows.length=tip->A85 σ w i k v)
 | .tail i p=> ∃tip k,H[i]? =some (.chain tip k)∧p≤tip∧(p=tip->A85 σ w i k v)
def CRel (ι:List Nat) (σ:Sig) (w:World) (H:List Blk):ACell->Value->Prop
 | .any,_=>True
 | .int k n,v=>v= .int k n
 | .bool b,v=>v= .bool b
 | .str s,v=>v= .string s
 | .slice rows tok,v=>TRel (Stab σ) w (.slice rows) v∧A4A σ w H rows v tok
 | .nils,v=>v= .slice none 0 0
 | .rptr cells,v=>TRel (Stab σ) w (.rptr cells) v
 | .ptr id off,v=> ∃b,ι[id]? =some b∧v= .pointer (some ⟨b,off,none⟩)
 | .ref id _ off len cap,v=> ∃b,ι[id]? =some b∧ ∃cap',cap≤cap'∧v= .slice (some ⟨b,off,none⟩) len cap'
 | .fn f caps,v=> ∃vs:List Value,v= .func (.func f) #[] vs.toArray∧vs.length=caps.length∧ ∀(i:Nat) c u,caps[i]? =some c->vs[i]? =some u->KRel ι σ w c u
 | .bfn f caps,v=> ∃vs:List Value,v= .func (.func f) vs.toArray #[]∧vs.length=caps.length∧ ∀(i:Nat) c u,caps[i]? =some c->vs[i]? =some u->KRel ι σ w c u
 | .yld l,v=>v= .func (.yield l) #[] #[]
 | .nilf,v=>v= .nilFunc
 | .nilp,v=>v= .pointer none
 | .map id,v=> ∃b,ι[id]? =some b∧v= .map (some b)
 | .iter id,v=> ∃b,ι[id]? =some b∧v= .pointer (some ⟨b,0,none⟩)
 | .raw u,v=>v=u∧u.oneCell'=true
 | .rows rs tok,v=>A7c ι σ w rs v∧A4A σ w H (rs.map fun _=>[]) v tok
 | .vec id len cap,v=> ∃b,ι[id]? =some b∧(v= .slice (some ⟨b,0,none⟩) len cap∨(len=0∧cap=0∧v= .slice none 0 0))
 | .rptrC cells,v=> ∃b off,v= .pointer (some ⟨b,off,none⟩)∧ ∀(j:Nat) t,cells[j]? =some t-> ∃u,σ b (off+j)= .stable∧w.cell? ⟨b,off+j,none⟩=some u∧KRel ι σ w t u
def A0I (ι:List Nat) (σ:Sig) (w:World) (H:List Blk) (cs:List ACell) (vs:Array Value):Prop:=
 vs.size=cs.length∧ ∀(j:Nat) c u,cs[j]? =some c->vs[j]? =some u->CRel ι σ w H c u
def A2F (ι:List Nat) (σ:Sig) (w:World) (H:List Blk):AVal->Value->Prop
 | .c x,v=>CRel ι σ w H x v
 | .agg cs,v=> ∃vs,v= .agg vs∧A0I ι σ w H cs vs
 | .tup _,_=>False
def VRel (ι:List Nat) (σ:Sig) (w:World) (H:List Blk):AVal->Value->Prop
 | .c x,v=>CRel ι σ w H x v
 | .agg cs,v=> ∃vs,v= .agg vs∧A0I ι σ w H cs vs
 | .tup xs,v=> ∃vs:Array Value,v= .tuple vs∧vs.size=xs.length∧ ∀(j:Nat) x u,xs[j]? =some x->vs[j]? =some u->A2F ι σ w H x u
structure Calm (g:Nat) (σ:Sig) (w:World) (σ':Sig) (w':World):Prop where
 os:w'.os=w.os
 tape:w'.tape=w.tape
 output:w'.output=w.output
 size:w.heap.size≤w'.heap.size
 keep: ∀b o u,σ b o= .stable->w.cell? ⟨b,o,none⟩=some u->σ' b o= .stable∧w'.cell? ⟨b,o,none⟩=some u
 blk: ∀b,b<w.heap.size->(∃o,σ b o= .mine g)->(∀o,σ b o= .mine g∨σ b o= .stable)->w'.heap[b]? =w.heap[b]? ∧ ∀o,σ' b o=σ b o
 drawn:w.drawn≤w'.drawn
def Calm.refl (g:Nat) (σ:Sig) (w:World):Calm g σ w σ w:=⟨rfl,rfl,rfl,Qk _,fun _ _ _ h h'=>⟨h,h'⟩,fun _ _ _ _=>⟨rfl,fun _=>rfl⟩,Qk _⟩
def A3N (ι:List Nat) (σ:Sig) (w:World) (H:List Blk) (id b:Nat):Blk->Prop
 | .box cs=>(∃arr e fz,w.heap[b]? =some (.cells arr e fz))∧ ∀j c,cs[j]? =some c->σ b j= .mine id∧w.frozen? ⟨b,j,none⟩=false∧ ∃v,w.cell? ⟨b,j,none⟩=some v∧CRel ι σ w H c v
 | .ro ts=> ∀j t,ts[j]? =some t->σ b j= .stable∧ ∃v,w.cell? ⟨b,j,none⟩=some v∧TRel (Stab σ) w t v
 | .roC cs=> ∀j c,cs[j]? =some c->σ b j= .stable∧ ∃v,w.cell? ⟨b,j,none⟩=some v∧KRel ι σ w c v
 | .chain _ _=>True
 | .dead=>True
 | .map es=>(∀o,σ b o= .mine id)∧ ∃arr:Array MapEntry,w.heap[b]? =some (.map arr es.length)∧arr.size=es.length∧
   ∀(j:Nat) e x,es[j]? =some e->arr[j]? =some x->x.born=j∧x.key=e.1.kv∧A3G σ w e.2 x.val
 | .iter m n seen=>(∀o,σ b o= .mine id)∧ ∃bm,ι[m]? =some bm∧w.heap[b]? =some (.mapIter (some bm) n seen.toArray n)
 | .ghost G=>G σ w∧ ∀σ1 w1 σ2 w2,Calm id σ1 w1 σ2 w2->G σ1 w1->G σ2 w2
def HRel (ι:List Nat) (σ:Sig) (w:World) (H:List Blk):Prop:=
 ι.length=H.length∧ ∀id blk b,H[id]? =some blk->ι[id]? =some b->A3N ι σ w H id b blk
structure Ext (σ:Sig) (w:World) (σ':Sig) (w':World):Prop where
 os:w'.os=w.os
 tape:w'.tape=w.tape
 output:w'.output=w.output
 size:w.heap.size≤w'.heap.size
 keep: ∀b o v,σ b o= .stable->w.cell? ⟨b,o,none⟩=some v->σ' b o= .stable∧w'.cell? ⟨b,o,none⟩=some v
 obj: ∀b,b<w.heap.size->(∀o id,σ b o≠ .mine id)->w'.heap[b]? =w.heap[b]? ∧ ∀o id,σ' b o≠ .mine id
 back: ∀b o,b<w.heap.size->σ b o= .foreign->σ' b o= .foreign
 drawn:w.drawn≤w'.drawn
def Ext.refl (σ:Sig) (w:World):Ext σ w σ w:=⟨rfl,rfl,rfl,Qk _,fun _ _ _ h h'=>⟨h,h'⟩,fun _ _ h=>⟨rfl,h⟩,fun _ _ _ h=>h,Qk _⟩
def Ext.trans {σ σ' σ'':Sig} {w w' w'':World} (h:Ext σ w σ' w') (h':Ext σ' w' σ'' w''):Ext σ w σ'' w'' where
 os:=h'.os.trans h.os
 tape:=h'.tape.trans h.tape
 output:=h'.output.trans h.output
 size:=Yw h.size h'.size
 drawn:=Yw h.drawn h'.drawn
 keep b o v hs hc:=let ⟨a,c⟩:=h.keep b o v hs hc; h'.keep b o v a c
 back b o hb hs:=h'.back b o (ZW hb h.size) (h.back b o hb hs)
 obj b hb hn:=let ⟨e,hn'⟩:=h.obj b hb hn; let ⟨e',hn''⟩:=h'.obj b (ZW hb h.size) hn'; ⟨e'.trans e,hn''⟩
structure Mono (ι:List Nat) (σ:Sig) (w:World) (H:List Blk) (ι':List Nat) (σ':Sig) (w':World) (H':List Blk):Prop where
 stab: ∀b o u,σ b o= .stable->w.cell? ⟨b,o,none⟩=some u->σ' b o= .stable∧w'.cell? ⟨b,o,none⟩=some u
 iota: ∀(id b:Nat),ι[id]? =some b->ι'[id]? =some b
 chain: ∀(id tip k:Nat),H[id]? =some (.chain tip k)-> ∃tip' k',H'[id]? =some (.chain tip' k')∧MarkUp id σ w σ' w'∧(tip<tip'∨(tip'=tip∧k'=k∧
  ∀b o u,σ b o= .mine id->w.cell? ⟨b,o,none⟩=some u->σ' b o= .mine id∧(∃u',w'.cell? ⟨b,o,none⟩=some u')∧(w.frozen? ⟨b,o,none⟩=false->w'.frozen? ⟨b,o,none⟩=false)))
def Mono.refl (ι:List Nat) (σ:Sig) (w:World) (H:List Blk):Mono ι σ w H ι σ w H:=
 ⟨fun _ _ _ h h'=>⟨h,h'⟩,fun _ _ h=>h,fun _ tip k h=>⟨tip,k,h,MarkUp.refl _ _ _,.inr ⟨rfl,rfl,fun _ _ u h h'=>⟨h,⟨u,h'⟩,id⟩⟩⟩⟩
def Mono.trans {ι ι' ι'':List Nat} {σ σ' σ'':Sig} {w w' w'':World} {H H' H'':List Blk} (m:Mono ι σ w H ι' σ' w' H') (m':Mono ι' σ' w' H' ι'' σ'' w'' H''):Mono ι σ w H ι'' σ'' w'' H'' where
 stab b o u h1 h2:=let ⟨a,c⟩:=m.stab b o u h1 h2; m'.stab b o u a c
 iota id b h:=m'.iota id b (m.iota id b h)
 chain id tip k h:=by
  obtain ⟨t1,k1,h1,y1,x1⟩:=m.chain id tip k h;obtain ⟨t2,k2,h2,y2,x2⟩:=m'.chain id t1 k1 h1;refine ⟨t2,k2,h2,y1.trans y2,?_⟩;rcases x1 with x1 | ⟨rfl,rfl,x1⟩
  ·rcases x2 with x2 | ⟨rfl,_,_⟩
   ·exact .inl (by omega)
   ·exact .inl x1
  ·rcases x2 with x2 | ⟨rfl,rfl,x2⟩
   ·exact .inl x2
   ·refine .inr ⟨rfl,rfl,fun b o u q1 q2=> ?_⟩;obtain ⟨r1,⟨u',r2⟩,r3⟩:=x1 b o u q1 q2;obtain ⟨s1,s2,s3⟩:=x2 b o u' r1 r2;exact ⟨s1,s2,fun hf=>s3 (r3 hf)⟩
section
variable {ι ι':List Nat} {σ σ':Sig} {w w':World} {H H':List Blk}
def Mono.t (m:Mono ι σ w H ι' σ' w' H') {t:Tree} {v:Value} (h:TRel (Stab σ) w t v):TRel (Stab σ') w' t v:=h.mono m.stab
def Mono.k (m:Mono ι σ w H ι' σ' w' H') {c:ACap} {v:Value} (h:KRel ι σ w c v):KRel ι' σ' w' c v:=by
 cases c with
 | ptr id off=>obtain ⟨b,hb,e⟩:=h; exact ⟨b,m.iota _ _ hb,e⟩
 | tree t=>exact m.t h
 | ref id k off len cap=>obtain ⟨b,hb,e⟩:=h; exact ⟨b,m.iota _ _ hb,e⟩
def Mono.mv (m:Mono ι σ w H ι' σ' w' H') {c:MV} {v:Value} (h:A3G σ w c v):A3G σ' w' c v:=by
 cases c with
 | c t=>exact m.t h
 | agg ts=>obtain ⟨vs,e,hl,h⟩:=h; exact ⟨vs,e,hl,fun j t u h1 h2=>m.t (h j t u h1 h2)⟩
def Mono.tok (m:Mono ι σ w H ι' σ' w' H') {rows:List (List Tree)} {v:Value} {tok:Tok} (hi:A4A σ w H rows v tok):A4A σ' w' H' rows v tok:=by
 cases tok with
 | none=>trivial
 | exact=>exact hi
 | chain i=>
  obtain ⟨tip,k,hH,hle,hmk,hs⟩:=hi;obtain ⟨tip',k',hH',hmu,hx⟩:=m.chain i tip k hH;have hmk':A86 σ' w' i v:=by
   cases v with
   | slice a n c=>cases a with
    | none=>trivial
    | some a=>exact fun hc=>let ⟨q0,arr,e,o,q1,q2,q3⟩:=hmk hc; let ⟨r1,arr',r2,r3⟩:=hmu _ o arr e q1 q2 q3; ⟨q0,arr',e,o,r2,by omega,r1⟩
   | _=>trivial
  rcases hx with hlt | ⟨rfl,rfl,hm⟩
  ·exact ⟨tip',k',hH',by omega,hmk',fun e=>by omega⟩
  ·refine ⟨tip',k',hH',hle,hmk',fun e=> ?_⟩;have h1:=hs e;cases v<;>try exact h1
   rename_i a n c;rcases h1 with h1 | ⟨hk,b,off,ha,hj⟩
   ·exact .inl h1
   ·refine .inr ⟨hk,b,off,ha,fun j h1 h2=> ?_⟩;obtain ⟨q1,⟨u,q2⟩,q3⟩:=hj j h1 h2;obtain ⟨r1,r2,r3⟩:=hm _ _ _ q1 q2;exact ⟨r1,r2,r3 q3⟩
 | tail i p=>
  obtain ⟨tip,k,hH,hle,hs⟩:=hi;obtain ⟨tip',k',hH',hmu,hx⟩:=m.chain i tip k hH;rcases hx with hlt | ⟨rfl,rfl,hm⟩
  ·exact ⟨tip',k',hH',by omega,fun e=>by omega⟩
  ·refine ⟨tip',k',hH',hle,fun e=> ?_⟩;have h1:=hs e;cases v<;>try exact h1
   rename_i a n c;rcases h1 with h1 | ⟨hk,b,off,ha,hj⟩
   ·exact .inl h1
   ·refine .inr ⟨hk,b,off,ha,fun j h1 h2=> ?_⟩;obtain ⟨q1,⟨u,q2⟩,q3⟩:=hj j h1 h2;obtain ⟨r1,r2,r3⟩:=hm _ _ _ q1 q2;exact ⟨r1,r2,r3 q3⟩
def Mono.rows (m:Mono ι σ w H ι' σ' w' H') {rs:List (List ACap)} {v:Value} (h:A7c ι σ w rs v):A7c ι' σ' w' rs v:=by
 obtain ⟨a,c,e,hl,h⟩:=h;refine ⟨a,c,e,hl,fun hne=> ?_⟩;obtain ⟨b,off,k,h1,h2,h3⟩:=h hne;refine ⟨b,off,k,h1,h2,fun i r j t q1 q2=> ?_⟩;obtain ⟨u,p1,p2,p3⟩:=h3 i r j t q1 q2;obtain ⟨s1,s2⟩:=m.stab _ _ _ p1 p2;exact ⟨u,s1,s2,m.k p3⟩
def Mono.cell (m:Mono ι σ w H ι' σ' w' H') {c:ACell} {v:Value} (h:CRel ι σ w H c v):CRel ι' σ' w' H' c v:=by
 cases c with
 | any=>trivial
 | int k n=>exact h
 | bool b=>exact h
 | str s=>exact h
 | nils=>exact h
 | nilf=>exact h
 | nilp=>exact h
 | yld l=>exact h
 | rptr cells=>exact m.t h
 | ptr id off=>obtain ⟨b,hb,e⟩:=h; exact ⟨b,m.iota _ _ hb,e⟩
 | ref id k off len cap=>obtain ⟨b,hb,e⟩:=h; exact ⟨b,m.iota _ _ hb,e⟩
 | fn f caps=>obtain ⟨vs,e,hl,hv⟩:=h; exact ⟨vs,e,hl,fun i c u h1 h2=>m.k (hv i c u h1 h2)⟩
 | bfn f caps=>obtain ⟨vs,e,hl,hv⟩:=h; exact ⟨vs,e,hl,fun i c u h1 h2=>m.k (hv i c u h1 h2)⟩
 | slice rows tok=>exact ⟨m.t h.1,m.tok h.2⟩
 | map id=>obtain ⟨b,hb,e⟩:=h; exact ⟨b,m.iota _ _ hb,e⟩
 | iter id=>obtain ⟨b,hb,e⟩:=h; exact ⟨b,m.iota _ _ hb,e⟩
 | raw u=>exact h
 | vec id len cap=>obtain ⟨b,hb,e⟩:=h; exact ⟨b,m.iota _ _ hb,e⟩
 | rows rs tok=>exact ⟨m.rows h.1,m.tok h.2⟩
 | rptrC cells=>
  obtain ⟨b,off,e,h⟩:=h;refine ⟨b,off,e,fun j t hj=> ?_⟩;obtain ⟨u,p1,p2,p3⟩:=h j t hj;obtain ⟨s1,s2⟩:=m.stab _ _ _ p1 p2;exact ⟨u,s1,s2,m.k p3⟩
def Mono.cells (m:Mono ι σ w H ι' σ' w' H') {cs:List ACell} {vs:Array Value} (h:A0I ι σ w H cs vs):A0I ι' σ' w' H' cs vs:=
 ⟨h.1,fun j c u h1 h2=>m.cell (h.2 j c u h1 h2)⟩
def Mono.v1 (m:Mono ι σ w H ι' σ' w' H') {x:AVal} {v:Value} (h:A2F ι σ w H x v):A2F ι' σ' w' H' x v:=by
 cases x with
 | c x=>exact m.cell h
 | agg cs=>obtain ⟨vs,e,h⟩:=h; exact ⟨vs,e,m.cells h⟩
 | tup=>exact h
def Mono.v (m:Mono ι σ w H ι' σ' w' H') {x:AVal} {v:Value} (h:VRel ι σ w H x v):VRel ι' σ' w' H' x v:=by
 cases x with
 | c x=>exact m.cell h
 | agg cs=>obtain ⟨vs,e,h⟩:=h; exact ⟨vs,e,m.cells h⟩
 | tup xs=>obtain ⟨vs,e,hl,h⟩:=h; exact ⟨vs,e,hl,fun j x u h1 h2=>m.v1 (h j x u h1 h2)⟩
end
def Fr (r:Option Nat):Fence:={ fn:=fun _=>True,depth:=none,alive:=false,round:=r }
def A1O (P:Program) (t:TypeId):Option Bool:=(P.underlying t).map TypeDesc.isRow
def A0u (P:Program) (t:TypeId):Option Nat:=(P.info? t).map (·.size)
def A01 (P:Program) (t:TypeId):Option Value:=(P.info? t).bind (·.zero)
def A0x (P:Program) (t:TypeId):Option Nat:=(P.info? t).map (·.bytes)
def A1z (P:Program) (s:TypeId) (f:Nat):Option (Nat×TypeId):=
 match P.underlying s with
 | some (.struct fs)=>(fs[f]?).map fun x=>(x.offset,x.type)
 | _=>none
def A03 (P:Program) (t:TypeId):Option (Option Nat×TypeId):=
 match P.underlying t with
 | some (.slice e)=>some (none,e)
 | some (.array n e)=>some (some n,e)
 | _=>none
def A4B:Value->ACell
 | .int k n=> .int k n
 | .bool b=> .bool b
 | .string s=> .str s
 | .slice none 0 0=> .nils
 | .nilFunc=> .nilf
 | .pointer none=> .nilp
 | _=> .any
def A0N:Value->AVal
 | .agg cs=> .agg (cs.toList.map A4B)
 | v=> .c (A4B v)
def aeval (tm:List AVal):Operand->AVal
 | .tmp t=>tm.getD t (.c .any)
 | .const v=>A0N v
 | .global _=> .c .any
 | .func f=> .c (.fn f [])
variable {tm:List AVal} {a:Act}
section
variable {ι:List Nat} {σ:Sig} {w:World} {H:List Blk}
def A6h (v:Value):CRel ι σ w H (A4B v) v:=by
 unfold A4B;split<;>first | rfl | trivial
def A1n (v:Value):VRel ι σ w H (A0N v) v:=by
 unfold A0N;split
 ·rename_i cs;refine ⟨cs,rfl,by simp,fun j c u h1 h2=> ?_⟩;simp only [QQ,WY] at h1;rw [h2] at h1;simp only [Option.map_some,Vv] at h1;subst h1;exact A6h u
 ·exact A6h v
def TmpsRel (ι:List Nat) (σ:Sig) (w:World) (H:List Blk) (tm:List AVal) (ts:Array Value):Prop:=
 ts.size=tm.length∧ ∀(t:Nat) x v,tm[t]? =some x->ts[t]? =some v->VRel ι σ w H x v
def A0J (h:TmpsRel ι σ w H tm a.tmps) (x:Operand):VRel ι σ w H (aeval tm x) (a.eval x):=by
 cases x with
 | tmp t=>
  simp only [aeval,Act.eval];cases ht:tm[t]? with
  | none=>simp [List.getD,ht]; trivial
  | some y=>
   have hl:t<a.tmps.size:=by rw [h.1]; exact (Qx.1 ht).1
   have hv:a.tmps[t]? =some a.tmps[t]:=QZ hl;simp only [List.getD,ht,Array.getD,hl,dif_pos,Option.getD_some];exact h.2 t y _ ht hv
 | const v=>exact A1n v
 | global g=>trivial
 | func f=>exact ⟨[],by simp [Act.eval],rfl,by simp⟩
end
def RdOK (rd:Option Nat) (σ:Sig) (w:World):Prop:= ∀l,rd=some l->l<w.heap.size∧(∀o,σ l o= .foreign)∧ ∃r,w.heap[l]? =some (.loop r)
def AStep (P:Program) (rd:Option Nat) (o:Oper) (ρ:Operand->AVal) (H:List Blk) (rv:AVal) (H':List Blk):Prop:=
 ∀ι σ (a:Act) w,(∀x,x∈o.op.operands->VRel ι σ w H (ρ x) (a.eval x))->HRel ι σ w H->RdOK rd σ w-> ∀next Q,
  (∀v w' ι' σ',VRel ι' σ' w' H' rv v->HRel ι' σ' w' H'->Mono ι σ w H ι' σ' w' H'->Ext σ w σ' w'->next (a.put o.dst v) w')->
  o.wpIn (Fr rd) 9 P a w next Q
variable {P:Program} {rd:Option Nat} {ρ:Operand->AVal} {H:List Blk}
def AStep.value {o:Oper} {rv:AVal} (hd: ∀c,o.op≠ .defer c)
  (h: ∀ι σ (a:Act) w,(∀x,x∈o.op.operands->VRel ι σ w H (ρ x) (a.eval x))->HRel ι σ w H->
   ∃v,(execOp a.eval o).run P w= .ok (.value v) w∧VRel ι σ w H rv v):AStep P rd o ρ H rv H:=by
 intro ι σ a w hx hH _ next Q hn;obtain ⟨v,hr,hv⟩:=h ι σ a w hx hH;refine ⟨fun _ _=>trivial,?_⟩;rw [Oper.semAt_eq _ _ _ hd,hr];exact hn v w ι σ hv hH (Mono.refl ..) (Ext.refl ..)
variable {H':List Blk}
def AStep.turn {o:Oper} {rv:AVal} (hd: ∀c,o.op≠ .defer c)
  (h: ∀ι σ (a:Act) w,(∀x,x∈o.op.operands->VRel ι σ w H (ρ x) (a.eval x))->HRel ι σ w H->
   ∃v w' ι' σ',((execOp a.eval o).run P w= .ok (.value v) w'∨((execOp a.eval o).run P w= .ok .skip w'∧v=undef))∧VRel ι' σ' w' H' rv v∧HRel ι' σ' w' H'∧Mono ι σ w H ι' σ' w' H'∧Ext σ w σ' w'):
  AStep P rd o ρ H rv H':=by
 intro ι σ a w hx hH _ next Q hn;obtain ⟨v,w',ι',σ',hr,hv,hH',hm,he⟩:=h ι σ a w hx hH;refine ⟨fun _ _=>trivial,?_⟩;rw [Oper.semAt_eq _ _ _ hd];rcases hr with hr | ⟨hr,rfl⟩
 ·rw [hr]; exact hn v w' ι' σ' hv hH' hm he
 ·rw [hr]; exact hn undef w' ι' σ' hv hH' hm he
section ops
variable {P:Program} {rd:Option Nat} {o:Oper} {ρ:Operand->AVal} {H:List Blk}
def A4C (x:Operand) (ho:o.op= .move x∨o.op= .assign x):AStep P rd o ρ H (ρ x) H:=by
 refine AStep.value (by rcases ho with h | h<;>simp [h]) fun ι σ a w hx hH=>⟨a.eval x,?_,hx x ?_⟩
 ·rcases ho with h | h<;>simp [execOp,h]
 ·rcases ho with h | h<;>simp [Op.operands,h]
def B2s (c x y:Operand) (ho:o.op= .pick c x y) (b:Bool) (hc:ρ c= .c (.bool b)):AStep P rd o ρ H (if b then ρ x else ρ y) H:=by
 refine AStep.value (by simp [ho]) fun ι σ a w hx hH=>⟨if b then a.eval x else a.eval y,?_,?_⟩
 ·have:a.eval c= .bool b:=by have:=hx c (by simp [Op.operands,ho]); rw [hc] at this; exact this
  simp only [execOp,ho,this,asBool,Sem.run_bind,Sem.run_pure,Result.andThen_ok]
 ·cases b
  ·exact hx y (by simp [Op.operands,ho])
  ·exact hx x (by simp [Op.operands,ho])
def B5q (t:TypeId) (x:Operand) (ho:o.op= .unOp .not t x) (b:Bool) (hc:ρ x= .c (.bool b)):AStep P rd o ρ H (.c (.bool !b)) H:=by
 refine AStep.value (by simp [ho]) fun ι σ a w hx hH=>⟨.bool !b,?_,rfl⟩;have:a.eval x= .bool b:=by have:=hx x (by simp [Op.operands,ho]); rw [hc] at this; exact this
 simp [execOp,ho,this,Op.unary]
def InK:IntKind->Int->Prop
 | .i8,n=> -128≤n∧n≤127
 | .i16,n=> -32768≤n∧n≤32767
 | .i32,n=> -2147483648≤n∧n≤2147483647
 | .i64,n=> -9223372036854775808≤n∧n≤9223372036854775807
 | .u8,n=>0≤n∧n≤255
 | .u16,n=>0≤n∧n≤65535
 | .u32,n=>0≤n∧n≤4294967295
 | .u64,n=>0≤n∧n≤18446744073709551615
def B5r (M H n:Int) (h0:M=2*H) (h1: -H≤n) (h2:n<H):(if n%M≥H then n%M-M else n%M)=n:=by
 by_cases hn:0≤n
 ·have:n%M=n:=Int.emod_eq_of_lt hn (by omega);rw [this,if_neg (by omega)]
 ·have:n%M=n+M:=by
   rw [<-Int.add_emod_right]; exact Int.emod_eq_of_lt (by omega) (by omega)
  rw [this,if_pos (by omega)]; omega
def B5s (M n:Int) (h1:0≤n) (h2:n<M):n%M=n:=Int.emod_eq_of_lt h1 h2
def wrap_in {k:IntKind} {n:Int} (h:InK k n):k.wrap n=n:=by
 cases k<;>simp only [InK] at h<;>unfold IntKind.wrap<;>simp only [IntKind.bits,IntKind.signed,VQ,VW,Yk,if_false]
 ·have e:=B5r (2^8) (2^(8-1)) n (by decide) (by simpa using h.1) (by have:=h.2; show n<128; omega);simpa using e
 ·have e:=B5r (2^16) (2^(16-1)) n (by decide) (by simpa using h.1) (by have:=h.2; show n<32768; omega);simpa using e
 ·have e:=B5r (2^32) (2^(32-1)) n (by decide) (by simpa using h.1) (by have:=h.2; show n<2147483648; omega);simpa using e
 ·have e:=B5r (2^64) (2^(64-1)) n (by decide) (by simpa using h.1) (by have:=h.2; show n<9223372036854775808; omega);simpa using e
 ·exact B5s _ n h.1 (by have:=h.2; show n<256; omega)
 ·exact B5s _ n h.1 (by have:=h.2; show n<65536; omega)
 ·exact B5s _ n h.1 (by have:=h.2; show n<4294967296; omega)
 ·exact B5s _ n h.1 (by have:=h.2; show n<18446744073709551616; omega)
def B6I (op:BinOp) (k:IntKind) (x y:Int):Int:=
 match op with
 | .and=>k.wrap ((BitVec.ofInt k.bits x&&&BitVec.ofInt k.bits y).toNat:Int)
 | .or=>k.wrap ((BitVec.ofInt k.bits x|||BitVec.ofInt k.bits y).toNat:Int)
 | .xor=>k.wrap ((BitVec.ofInt k.bits x ^^^ BitVec.ofInt k.bits y).toNat:Int)
 | _=>k.wrap ((BitVec.ofInt k.bits x&&& ~~~ (BitVec.ofInt k.bits y)).toNat:Int)
def C6l (op:BinOp) (k:IntKind) (a b:Int) (K:ACell->Prop):Prop:=
 match op with
 | .and=>K (.int k (B6I .and k a b))
 | .or=>K (.int k (B6I .or k a b))
 | .xor=>K (.int k (B6I .xor k a b))
 | .andNot=>K (.int k (B6I .andNot k a b))
 | .add=>InK k (a+b)∧K (.int k (a+b))
 | .sub=>InK k (a-b)∧K (.int k (a-b))
 | .mul=>InK k (a*b)∧K (.int k (a*b))
 | .quo=>b≠0∧InK k (a.tdiv b)∧K (.int k (a.tdiv b))
 | .rem=>b≠0∧K (.int k (a.tmod b))
 | .eql=>K (.bool (decide (a=b)))
 | .neq=>K (.bool (!decide (a=b)))
 | .lss=>K (.bool (decide (a<b)))
 | .leq=>K (.bool (decide (a≤b)))
 | .gtr=>K (.bool (decide (b<a)))
 | .geq=>K (.bool (decide (b≤a)))
 | _=>False
def A1P (op:BinOp) (t:TypeId) (k:IntKind) (a b:Int) (h1:op≠ .shl) (h2:op≠ .shr):binOp op t (.int k a) (.int k b)=
  (match op with
  | .add | .sub | .mul=>Op.intArith op k a b
  | .quo | .rem=>Op.intDiv op k a b
  | .and | .or | .xor | .andNot=>Op.intBits op k a b
  | _=>Op.intCmp op a b):=by
 cases op<;>first | exact absurd rfl h1 | exact absurd rfl h2 | (unfold binOp; simp only [ne_eq,not_true_eq_false,if_false])
def B0e {op:BinOp} {k:IntKind} {a b:Int} {K:ACell->Prop} (h:C6l op k a b K):
  ∃c v,K c∧(∀t P (w:World),(binOp op t (.int k a) (.int k b)).run P w= .ok v w)∧ ∀ι σ w H,CRel ι σ w H c v:=by
 cases op<;>simp only [C6l] at h
 case add=>exact ⟨_,.int k (a+b),h.2,fun t P w=>by rw [A1P _ _ _ _ _ (by simp) (by simp)]; simp only [Op.intArith,wrap_in h.1]; rfl,fun _ _ _ _=>rfl⟩
 case sub=>exact ⟨_,.int k (a-b),h.2,fun t P w=>by rw [A1P _ _ _ _ _ (by simp) (by simp)]; simp only [Op.intArith,wrap_in h.1]; rfl,fun _ _ _ _=>rfl⟩
 case mul=>exact ⟨_,.int k (a*b),h.2,fun t P w=>by rw [A1P _ _ _ _ _ (by simp) (by simp)]; simp only [Op.intArith,wrap_in h.1]; rfl,fun _ _ _ _=>rfl⟩
 case quo=>exact ⟨_,.int k (a.tdiv b),h.2.2,fun t P w=>by rw [A1P _ _ _ _ _ (by simp) (by simp)]; simp only [Op.intDiv,if_neg h.1,wrap_in h.2.1]; rfl,fun _ _ _ _=>rfl⟩
 case rem=>exact ⟨_,.int k (a.tmod b),h.2,fun t P w=>by rw [A1P _ _ _ _ _ (by simp) (by simp)]; simp only [Op.intDiv,if_neg h.1]; rfl,fun _ _ _ _=>rfl⟩
 case and=>exact ⟨_,.int k (B6I .and k a b),h,fun t P w=>by rw [A1P _ _ _ _ _ (by simp) (by simp)]; rfl,fun _ _ _ _=>rfl⟩
 case or=>exact ⟨_,.int k (B6I .or k a b),h,fun t P w=>by rw [A1P _ _ _ _ _ (by simp) (by simp)]; rfl,fun _ _ _ _=>rfl⟩
 case xor=>exact ⟨_,.int k (B6I .xor k a b),h,fun t P w=>by rw [A1P _ _ _ _ _ (by simp) (by simp)]; rfl,fun _ _ _ _=>rfl⟩
 case andNot=>exact ⟨_,.int k (B6I .andNot k a b),h,fun t P w=>by rw [A1P _ _ _ _ _ (by simp) (by simp)]; rfl,fun _ _ _ _=>rfl⟩
 all_goals exact ⟨_,.bool _,h,fun t P w=>by rw [A1P _ _ _ _ _ (by simp) (by simp)]; rfl,fun _ _ _ _=>rfl⟩
def B2t (op:BinOp) (k:IntKind) (a b:Int) (K:ACell->Prop):Prop:=
 match op with
 | .shl=>InK k (a*2^min b.toNat k.bits)∧K (.int k (a*2^min b.toNat k.bits))
 | .shr=>K (.int k (a.fdiv (2^min b.toNat k.bits)))
 | _=>False
def A7E {op:BinOp} {k:IntKind} {a b:Int} {K:ACell->Prop} (h0:0≤b) (h:B2t op k a b K):
  ∃c v,K c∧(∀t P (w:World) k',(binOp op t (.int k a) (.int k' b)).run P w= .ok v w)∧ ∀ι σ w H,CRel ι σ w H c v:=by
 cases op<;>simp only [B2t] at h
 case shl=>exact ⟨_,.int k (a*2^min b.toNat k.bits),h.2,fun t P w k'=>by
  have e:binOp .shl t (.int k a) (.int k' b)=Op.shift .shl k a k' b:=rfl
  rw [e]; unfold Op.shift; rw [if_neg (by omega)]; simp only [wrap_in h.1]; rfl,fun _ _ _ _=>rfl⟩
 case shr=>exact ⟨_,.int k (a.fdiv (2^min b.toNat k.bits)),h,fun t P w k'=>by
  have e:binOp .shr t (.int k a) (.int k' b)=Op.shift .shr k a k' b:=rfl
  rw [e]; unfold Op.shift; rw [if_neg (by omega)]; rfl,fun _ _ _ _=>rfl⟩
def B1m:BinOp->Bool
 | .shl | .shr=>true
 | _=>false
def B6J (op:BinOp) (t t':TypeId) (x y:Operand) (ho:o.op= .binOp op t x y t') (k k':IntKind) (n m:Int) (hx:ρ x= .c (.int k n)) (hy:ρ y= .c (.int k' m))
  {K:AVal->Prop} (h0:0≤m) (h:B2t op k n m (fun c=>K (.c c))): ∃rv,AStep P rd o ρ H rv H∧K rv:=by
 obtain ⟨c,v,hK,hr,hv⟩:=A7E h0 h;refine ⟨.c c,AStep.value (by simp [ho]) fun ι σ a w hx' hH=>⟨v,?_,hv ι σ w H⟩,hK⟩;have e1:a.eval x= .int k n:=by have:=hx' x (by simp [Op.operands,ho]); rw [hx] at this; exact this
 have e2:a.eval y= .int k' m:=by have:=hx' y (by simp [Op.operands,ho]); rw [hy] at this; exact this
 have hg:(eqGuard op t x y (.int k n) (.int k' m)).run P w= .ok () w:=by
  unfold eqGuard; cases op<;>simp
 simp only [execOp,ho,e1,e2,Sem.run_bind,hg,hr,Result.andThen_ok,Sem.run_pure]
def B8s (op:BinOp) (t t':TypeId) (x y:Operand) (ho:o.op= .binOp op t x y t') (k:IntKind) (n m:Int) (hx:ρ x= .c (.int k n)) (hy:ρ y= .c (.int k m))
  {K:AVal->Prop} (h:C6l op k n m (fun c=>K (.c c))): ∃rv,AStep P rd o ρ H rv H∧K rv:=by
 obtain ⟨c,v,hK,hr,hv⟩:=B0e h;refine ⟨.c c,AStep.value (by simp [ho]) fun ι σ a w hx' hH=>⟨v,?_,hv ι σ w H⟩,hK⟩;have e1:a.eval x= .int k n:=by have:=hx' x (by simp [Op.operands,ho]); rw [hx] at this; exact this
 have e2:a.eval y= .int k m:=by have:=hx' y (by simp [Op.operands,ho]); rw [hy] at this; exact this
 have hg:(eqGuard op t x y (.int k n) (.int k m)).run P w= .ok () w:=by
  unfold eqGuard; cases op<;>simp
 simp only [execOp,ho,e1,e2,Sem.run_bind,hg,hr,Result.andThen_ok,Sem.run_pure]
end ops
variable {S:Nat->Nat->Prop} {ι:List Nat}
section ops
variable {P:Program} {rd:Option Nat} {o:Oper} {ρ:Operand->AVal} {H:List Blk}
def A3y (x:Operand) (i:Nat) (ho:o.op= .extract x i) (xs:List AVal) (y:AVal) (hx:ρ x= .tup xs) (hi:xs[i]? =some y) (hy: ∀zs,y≠ .tup zs):
  AStep P rd o ρ H y H:=by
 refine AStep.value (by simp [ho]) fun ι σ a w hx' hH=> ?_;have h:=hx' x (by simp [Op.operands,ho]);rw [hx] at h;obtain ⟨vs,e,hl,hv⟩:=h;have hlt:i<vs.size:=by rw [hl]; exact (Qx.1 hi).1
 refine ⟨vs[i],?_,?_⟩
 ·simp only [execOp,ho,e,Instr.extract,QZ hlt,Sem.run_bind,Sem.run_pure,Result.andThen_ok]
 ·have:=hv i y vs[i] hi (QZ hlt);cases y with
  | c c=>exact this
  | agg cs=>exact this
  | tup zs=>exact absurd rfl (hy zs)
def A1Q {t:TypeId} {n:Nat} (h:A0u P t=some n) (w:World):(sizeOf t).run P w= .ok n w:=by
 unfold A0u at h;cases hi:P.info? t with
 | none=>simp [hi] at h
 | some i=>simp [hi] at h; simp [sizeOf,typeInfo,hi,h]
def B1n {t:TypeId} {b:Bool} (h:A1O P t=some b) (w:World):(isAgg t).run P w= .ok b w:=by
 unfold A1O at h;cases hi:P.underlying t with
 | none=>simp [hi] at h
 | some d=>
  simp [hi] at h;unfold isAgg;rw [Sem.run_bind,run_underlying hi w];cases d<;>simp_all
def B3S {s:TypeId} {f off:Nat} {ft:TypeId} (h:A1z P s f=some (off,ft)): ∃fs fd,P.underlying s=some (.struct fs)∧fs[f]? =some fd∧fd.offset=off∧fd.type=ft:=by
 unfold A1z at h;split at h
 ·rename_i fs hu;cases hf:fs[f]? with
  | none=>simp [hf] at h
  | some fd=>simp [hf] at h; exact ⟨fs,fd,hu,hf,h.1,h.2⟩
 ·cases h
def A0w {t e:TypeId} (h:A03 P t=some (none,e)):P.underlying t=some (.slice e):=by
 unfold A03 at h;split at h<;>simp_all
def A5L {t e:TypeId} {n:Nat} (h:A03 P t=some (some n,e)):P.underlying t=some (.array n e):=by
 unfold A03 at h;split at h<;>simp_all
def A87 {s:TypeId} {f off:Nat} {ft:TypeId} {n:Nat} (h:A1z P s f=some (off,ft)) (hn:A0u P ft=some (n+1)) (b o':Nat) (w:World):
  (Instr.fieldAt s (.pointer (some ⟨b,o',none⟩)) f).run P w= .ok (.pointer (some ⟨b,o'+off,none⟩)) w:=by
 obtain ⟨fs,fd,hu,hf,rfl,rfl⟩:=B3S h;unfold Instr.fieldAt;rw [Sem.run_bind,run_underlying hu w];simp only [Result.andThen_ok,hf,Sem.run_bind,Instr.sureAddr,Sem.run_pure,fieldPlace,A1Q hn];simp [Addr.add_mid]
def A3z (s:TypeId) (x:Operand) (f:Nat) (ho:o.op= .fieldAddr s x f) (off n:Nat) (ft:TypeId) (h:A1z P s f=some (off,ft)) (hn:A0u P ft=some (n+1))
  (id i:Nat) (hx:ρ x= .c (.ptr id i)):AStep P rd o ρ H (.c (.ptr id (i+off))) H:=by
 refine AStep.value (by simp [ho]) fun ι σ a w hx' hH=> ?_;have h':=hx' x (by simp [Op.operands,ho]);rw [hx] at h';obtain ⟨b,hb,e⟩:=h';exact ⟨.pointer (some ⟨b,i+off,none⟩),by simp only [execOp,ho,e,Sem.run_bind,A87 h hn,Result.andThen_ok,Sem.run_pure],b,hb,rfl⟩
def TRel.drop {cells:List Tree} {b i:Nat} (h:TRel S w (.rptr cells) (.pointer (some ⟨b,i,none⟩))) (off:Nat):
  TRel S w (.rptr (cells.drop off)) (.pointer (some ⟨b,i+off,none⟩)):=by
 cases h with
 | rptr _ _ _ cell hc hr=>
  refine .rptr b (i+off) _ (fun j=>cell (off+j)) (fun j t hj=> ?_) (fun j t hj=> ?_)
  ·rw [YX] at hj; have:=hc _ _ hj; rwa [show i+(off+j)=i+off+j by omega] at this
  ·rw [YX] at hj; exact hr _ _ hj
def TRel.rptr_form {cells:List Tree} {v:Value} (h:TRel S w (.rptr cells) v): ∃b i,v= .pointer (some ⟨b,i,none⟩):=by
 cases h with
 | rptr b i=>exact ⟨b,i,rfl⟩
def A2Y (s:TypeId) (x:Operand) (f:Nat) (ho:o.op= .fieldAddr s x f) (off n:Nat) (ft:TypeId) (h:A1z P s f=some (off,ft)) (hn:A0u P ft=some (n+1))
  (cells:List Tree) (hx:ρ x= .c (.rptr cells)):AStep P rd o ρ H (.c (.rptr (cells.drop off))) H:=by
 refine AStep.value (by simp [ho]) fun ι σ a w hx' hH=> ?_;have h':=hx' x (by simp [Op.operands,ho]);rw [hx] at h';obtain ⟨b,i,e⟩:=TRel.rptr_form h';simp only [VRel,CRel] at h';rw [e] at h';exact ⟨.pointer (some ⟨b,i+off,none⟩),by simp only [execOp,ho,e,Sem.run_bind,A87 h hn,Result.andThen_ok,Sem.run_pure],h'.drop off⟩
def run_indexAt_array {t e:TypeId} {n s:Nat} (h:A03 P t=some (some n,e)) (hs:A0u P e=some s) (b o':Nat) (k:IntKind) (i:Int) (h0:0≤i) (h1:i<n) (w:World):
  (Instr.indexAt t (.pointer (some ⟨b,o',none⟩)) (.int k i)).run P w= .ok (.pointer (some ⟨b,o'+i.toNat*s,none⟩)) w:=by
 have hu:=A5L h;unfold Instr.indexAt;simp only [Sem.run_bind,asIntOf,Sem.run_pure,Result.andThen_ok,run_underlying hu w,Instr.sureAddr];simp [h0,h1,A1Q hs,Addr.add_mid]
def run_indexAt_slice {t e:TypeId} {s:Nat} (h:A03 P t=some (none,e)) (hs:A0u P e=some s) (b o' n c:Nat) (k:IntKind) (i:Int) (h0:0≤i) (h1:i<n) (w:World):
  (Instr.indexAt t (.slice (some ⟨b,o',none⟩) n c) (.int k i)).run P w= .ok (.pointer (some ⟨b,o'+i.toNat*s,none⟩)) w:=by
 have hu:=A0w h;unfold Instr.indexAt;simp only [Sem.run_bind,asIntOf,Sem.run_pure,Result.andThen_ok,run_underlying hu w];simp [h0,h1,A1Q hs,Addr.add_mid]
def A30 (t:TypeId) (x y:Operand) (ho:o.op= .indexAddr t x y) (n s:Nat) (e:TypeId) (h:A03 P t=some (some n,e)) (hs:A0u P e=some s)
  (id j:Nat) (hx:ρ x= .c (.ptr id j)) (k:IntKind) (i:Int) (hy:ρ y= .c (.int k i)) (h0:0≤i) (h1:i<n):AStep P rd o ρ H (.c (.ptr id (j+i.toNat*s))) H:=by
 refine AStep.value (by simp [ho]) fun ι σ a w hx' hH=> ?_;have h':=hx' x (by simp [Op.operands,ho]);have e2:a.eval y= .int k i:=by have:=hx' y (by simp [Op.operands,ho]); rw [hy] at this; exact this
 rw [hx] at h';obtain ⟨b,hb,e1⟩:=h';exact ⟨.pointer (some ⟨b,j+i.toNat*s,none⟩),by simp only [execOp,ho,e1,e2,Sem.run_bind,run_indexAt_array h hs _ _ _ _ h0 h1,Result.andThen_ok,Sem.run_pure],b,hb,rfl⟩
def A2Z (t:TypeId) (x y:Operand) (ho:o.op= .indexAddr t x y) (n s:Nat) (e:TypeId) (h:A03 P t=some (some n,e)) (hs:A0u P e=some s)
  (cells:List Tree) (hx:ρ x= .c (.rptr cells)) (k:IntKind) (i:Int) (hy:ρ y= .c (.int k i)) (h0:0≤i) (h1:i<n):AStep P rd o ρ H (.c (.rptr (cells.drop (i.toNat*s)))) H:=by
 refine AStep.value (by simp [ho]) fun ι σ a w hx' hH=> ?_;have h':=hx' x (by simp [Op.operands,ho]);have e2:a.eval y= .int k i:=by have:=hx' y (by simp [Op.operands,ho]); rw [hy] at this; exact this
 rw [hx] at h';obtain ⟨b,j,e1⟩:=TRel.rptr_form h';simp only [VRel,CRel] at h';rw [e1] at h';exact ⟨.pointer (some ⟨b,j+i.toNat*s,none⟩),by simp only [execOp,ho,e1,e2,Sem.run_bind,run_indexAt_array h hs _ _ _ _ h0 h1,Result.andThen_ok,Sem.run_pure],h'.drop _⟩
def TRel.row {rows:List (List Tree)} {v:Value} (h:TRel S w (.slice rows) v) {i:Nat} {r:List Tree} (hi:rows[i]? =some r):
  ∃b off c,v= .slice (some ⟨b,off,none⟩) rows.length c∧TRel S w (.rptr r) (.pointer (some ⟨b,off+i*r.length,none⟩)):=by
 cases h with
 | nil=>simp at hi
 | slice b off k c _ cell hn hk hc hr=>
  refine ⟨b,off,c,rfl,?_⟩;have hl:r.length=k:=hk r (Qv hi);rw [hl];refine .rptr b _ r (fun j=>cell i j) (fun j t hj=> ?_) (fun j t hj=>hr i r j t hi hj);have:=hc i r j t hi hj;rwa [show off+(i*k+j)=off+i*k+j by omega] at this
def A2K (t:TypeId) (x y:Operand) (ho:o.op= .indexAddr t x y) (s:Nat) (e:TypeId) (h:A03 P t=some (none,e)) (hs:A0u P e=some s)
  (rows:List (List Tree)) (tok:Tok) (hx:ρ x= .c (.slice rows tok)) (k:IntKind) (i:Int) (hy:ρ y= .c (.int k i)) (h0:0≤i) (r:List Tree) (hr:rows[i.toNat]? =some r) (hl:r.length=s):
  AStep P rd o ρ H (.c (.rptr r)) H:=by
 refine AStep.value (by simp [ho]) fun ι σ a w hx' hH=> ?_;have h':=hx' x (by simp [Op.operands,ho]);have e2:a.eval y= .int k i:=by have:=hx' y (by simp [Op.operands,ho]); rw [hy] at this; exact this
 rw [hx] at h';obtain ⟨b,off,c,e1,ht⟩:=TRel.row h'.1 hr;have hlt:i<rows.length:=by have:=(Qx.1 hr).1; omega
 rw [hl] at ht;exact ⟨.pointer (some ⟨b,off+i.toNat*s,none⟩),by simp only [execOp,ho,e1,e2,Sem.run_bind,run_indexAt_slice h hs _ _ _ _ _ _ h0 hlt,Result.andThen_ok,Sem.run_pure],ht⟩
def A31 (t:TypeId) (x y:Operand) (ho:o.op= .indexAddr t x y) (s:Nat) (e:TypeId) (h:A03 P t=some (none,e)) (hs:A0u P e=some s)
  (id off len cap:Nat) (hx:ρ x= .c (.ref id s off len cap)) (k:IntKind) (i:Int) (hy:ρ y= .c (.int k i)) (h0:0≤i) (h1:i<len):
  AStep P rd o ρ H (.c (.ptr id (off+i.toNat*s))) H:=by
 refine AStep.value (by simp [ho]) fun ι σ a w hx' hH=> ?_;have h':=hx' x (by simp [Op.operands,ho]);have e2:a.eval y= .int k i:=by have:=hx' y (by simp [Op.operands,ho]); rw [hy] at this; exact this
 rw [hx] at h';obtain ⟨b,hb,cap',hcap',e1⟩:=h';exact ⟨.pointer (some ⟨b,off+i.toNat*s,none⟩),by simp only [execOp,ho,e1,e2,Sem.run_bind,run_indexAt_slice h hs _ _ _ _ _ _ h0 h1,Result.andThen_ok,Sem.run_pure],b,hb,rfl⟩
def A32 (t:TypeId) (x y:Operand) (ho:o.op= .indexAddr t x y) (e:TypeId) (h:A03 P t=some (none,e)) (hs:A0u P e=some 1)
  (id len cap:Nat) (hx:ρ x= .c (.vec id len cap)) (k:IntKind) (i:Int) (hy:ρ y= .c (.int k i)) (h0:0≤i) (h1:i<len):
  AStep P rd o ρ H (.c (.ptr id i.toNat)) H:=by
 refine AStep.value (by simp [ho]) fun ι σ a w hx' hH=> ?_;have h':=hx' x (by simp [Op.operands,ho]);have e2:a.eval y= .int k i:=by have:=hx' y (by simp [Op.operands,ho]); rw [hy] at this; exact this
 rw [hx] at h';obtain ⟨b,hb,e1 | ⟨rfl,_,_⟩⟩:=h'
 ·have e3:0+i.toNat*1=i.toNat:=by omega
  exact ⟨.pointer (some ⟨b,0+i.toNat*1,none⟩),by simp only [execOp,ho,e1,e2,Sem.run_bind,run_indexAt_slice h hs _ _ _ _ _ _ h0 h1,Result.andThen_ok,Sem.run_pure],b,hb,by rw [e3]⟩
 ·omega
def A0C {t:Tree} {v:Value} (h:TRel (Stab σ) w t v):CRel ι σ w H (A0v t) v:=by
 cases t with
 | int k n=>cases h; rfl
 | bool b=>cases h; rfl
 | str s=>cases h; rfl
 | slice rows=>exact ⟨h,trivial⟩
 | rptr cells=>exact h
 | nilf=>cases h; rfl
 | raw u=>cases h with | raw _ h=>exact ⟨rfl,h⟩
 | fn f caps=>
  cases h with
  | fn _ _ vs hr=>
   refine ⟨(List.range caps.length).map vs,rfl,by simp,fun i c u h1 h2=> ?_⟩;simp only [QQ] at h1 h2;cases hc:caps[i]? with
   | none=>simp [hc] at h1
   | some t=>
    simp [hc] at h1; subst h1;have hlt:=(Qx.1 hc).1;rw [Yv hlt] at h2;simp at h2; subst h2;exact hr i t hc
def A0c:ACap->ACell
 | .ptr id off=> .ptr id off
 | .tree t=>A0v t
 | .ref id k off len cap=> .ref id k off len cap
def A5M {c:ACap} {v:Value} (h:KRel ι σ w c v):CRel ι σ w H (A0c c) v:=by
 cases c with
 | ptr id off=>exact h
 | tree t=>exact A0C h
 | ref id k off len cap=>exact h
def Blk.cells:Blk->Option (List ACell)
 | .box cs=>some cs
 | .ro ts=>some (ts.map A0v)
 | .roC cs=>some (cs.map A0c)
 | _=>none
def A8h {id b:Nat} {blk:Blk} (hH:HRel ι σ w H) (hb:H[id]? =some blk) (hi:ι[id]? =some b) {cs:List ACell} (hcs:blk.cells=some cs) {j:Nat} {c:ACell} (hj:cs[j]? =some c):
  ∃v,w.cell? ⟨b,j,none⟩=some v∧CRel ι σ w H c v:=by
 have:=hH.2 id blk b hb hi;cases blk with
 | box cs'=>simp [Blk.cells] at hcs; subst hcs; exact (this.2 j c hj).2.2
 | ro ts=>
  simp [Blk.cells] at hcs; subst hcs;simp only [QQ] at hj;cases ht:ts[j]? with
  | none=>simp [ht] at hj
  | some t=>simp [ht] at hj; subst hj; obtain ⟨_,v,hv,hr⟩:=this j t ht; exact ⟨v,hv,A0C hr⟩
 | roC ts=>
  simp [Blk.cells] at hcs; subst hcs;simp only [QQ] at hj;cases ht:ts[j]? with
  | none=>simp [ht] at hj
  | some t=>simp [ht] at hj; subst hj; obtain ⟨_,v,hv,hr⟩:=this j t ht; exact ⟨v,hv,A5M hr⟩
 | chain _ _=>simp [Blk.cells] at hcs
 | dead=>simp [Blk.cells] at hcs
 | map _=>simp [Blk.cells] at hcs
 | iter _ _ _=>simp [Blk.cells] at hcs
 | ghost _=>simp [Blk.cells] at hcs
def A2M {t:TypeId} (h:A1O P t=some false) {b j:Nat} {v:Value} {w:World} (hv:w.cell? ⟨b,j,none⟩=some v):
  (Instr.loadAt t (.pointer (some ⟨b,j,none⟩))).run P w= .ok v w:=by
 simp only [Instr.loadAt,Instr.sureAddr,Sem.run_bind,Sem.run_pure,Result.andThen_ok,loadVar,B1n h];simp [load,Sem.run,hv]
def B1o (t:TypeId) (x:Operand) (ho:o.op= .load t x) (h:A1O P t=some false) (id j:Nat) (hx:ρ x= .c (.ptr id j)) (blk:Blk) (hb:H[id]? =some blk) (cs:List ACell) (hcs:blk.cells=some cs)
  (c:ACell) (hj:cs[j]? =some c):AStep P rd o ρ H (.c c) H:=by
 refine AStep.value (by simp [ho]) fun ι σ a w hx' hH=> ?_;have h':=hx' x (by simp [Op.operands,ho]);rw [hx] at h';obtain ⟨b,hi,e⟩:=h';obtain ⟨v,hv,hr⟩:=A8h hH hb hi hcs hj;exact ⟨v,by simp only [execOp,ho,e,Sem.run_bind,A2M h hv,Result.andThen_ok,Sem.run_pure],hr⟩
def A5E (t:TypeId) (x:Operand) (ho:o.op= .load t x) (h:A1O P t=some false) (c:Tree) (cells:List Tree) (hx:ρ x= .c (.rptr (c::cells))):AStep P rd o ρ H (.c (A0v c)) H:=by
 refine AStep.value (by simp [ho]) fun ι σ a w hx' hH=> ?_;have h':=hx' x (by simp [Op.operands,ho]);rw [hx] at h';simp only [VRel,CRel] at h';generalize hv:a.eval x=vx at h';cases h' with
 | rptr b i _ cell hc hr=>
  have:=(hc 0 c rfl).2;exact ⟨cell 0,by simp only [execOp,ho,hv,Sem.run_bind,A2M h (by simpa using this),Result.andThen_ok,Sem.run_pure],A0C (hr 0 c rfl)⟩
def A4D {t:TypeId} {n:Nat} (h:A1O P t=some true) (hn:A0u P t=some n) {b j:Nat} {vs:List Value} {w:World} (hl:vs.length=n) (hv:w.rangeAt b j vs):
  (Instr.loadAt t (.pointer (some ⟨b,j,none⟩))).run P w= .ok (.agg vs.toArray) w:=by
 unfold A1O at h;cases hu:P.underlying t with
 | none=>simp [hu] at h
 | some d=>simp [hu] at h; exact run_loadAt_mid w b j t vs d hv hu h (by rw [hl]; exact hn)
def A5N {α β:Type} (R:Nat->α->β->Prop): ∀(l:List α),(∀(j:Nat) x,l[j]? =some x-> ∃y,R j x y)-> ∃l':List β,l'.length=l.length∧ ∀(j:Nat) x y,l[j]? =some x->l'[j]? =some y->R j x y:=by
 intro l
 induction l generalizing R with
 | nil=>intro _; exact ⟨[],rfl,by simp⟩
 | cons x l ih=>
  intro h;obtain ⟨y,hy⟩:=h 0 x rfl;obtain ⟨l',hl,hr⟩:=ih (fun j=>R (j+1)) (fun j x hj=>h (j+1) x hj);refine ⟨y::l',by simp [hl],fun j x' y' h1 h2=> ?_⟩;cases j with
  | zero=>simp at h1 h2; subst h1; subst h2; exact hy
  | succ j=>exact hr j x' y' h1 h2
def A7d (t:TypeId) (x:Operand) (ho:o.op= .load t x) (h:A1O P t=some true) (n:Nat) (hn:A0u P t=some n) (id j:Nat) (hx:ρ x= .c (.ptr id j)) (blk:Blk) (hb:H[id]? =some blk)
  (cs:List ACell) (hcs:blk.cells=some cs) (hl:((cs.drop j).take n).length=n):AStep P rd o ρ H (.agg ((cs.drop j).take n)) H:=by
 refine AStep.value (by simp [ho]) fun ι σ a w hx' hH=> ?_;have h':=hx' x (by simp [Op.operands,ho]);rw [hx] at h';obtain ⟨b,hi,e⟩:=h'
 obtain ⟨vs,hvl,hvs⟩:=A5N (fun i c v=>w.cell? ⟨b,j+i,none⟩=some v∧CRel ι σ w H c v) ((cs.drop j).take n) (fun i c hc=>by
  have hlt:=(Qx.1 hc).1;rw [Xx (by omega),YX] at hc
  exact A8h hH hb hi hcs hc)
 refine ⟨.agg vs.toArray,?_,vs.toArray,rfl,by simp [hvl],fun i c u h1 h2=>(hvs i c u h1 (by simpa using h2)).2⟩;have hra:w.rangeAt b j vs:=fun i v hv=>by
  have hlt:i<((cs.drop j).take n).length:=by rw [<-hvl]; exact (Qx.1 hv).1
  exact (hvs i _ v (Qq hlt) hv).1
 simp only [execOp,ho,e,Sem.run_bind,A4D h hn (by omega) hra,Result.andThen_ok,Sem.run_pure]
def A33 (t:TypeId) (x:Operand) (ho:o.op= .load t x) (h:A1O P t=some true) (n:Nat) (hn:A0u P t=some n) (cells:List Tree) (hx:ρ x= .c (.rptr cells))
  (hl:(cells.take n).length=n):AStep P rd o ρ H (.agg ((cells.take n).map A0v)) H:=by
 refine AStep.value (by simp [ho]) fun ι σ a w hx' hH=> ?_;have h':=hx' x (by simp [Op.operands,ho]);rw [hx] at h';simp only [VRel,CRel] at h';generalize hv:a.eval x=vx at h';cases h' with
 | rptr b j _ cell hc hr=>
  have hra:w.rangeAt b j ((List.range n).map cell):=fun i v hv=>by
   have hlt:i<n:=by have:=(Qx.1 hv).1; simpa using this
   rw [QQ,Yv hlt] at hv;simp at hv; subst hv;have hlt':i<cells.length:=by simp at hl; omega
   exact (hc i _ (Qq hlt')).2
  refine ⟨.agg ((List.range n).map cell).toArray,by simp only [execOp,ho,hv,Sem.run_bind,A4D h hn (by simp) hra,Result.andThen_ok,Sem.run_pure],_,rfl,by simp at hl ⊢; omega,fun i c u h1 h2=> ?_⟩;simp only [QQ,Wz] at h1 h2;cases ht:(cells.take n)[i]? with
  | none=>simp [ht] at h1
  | some tr=>
   simp [ht] at h1; subst h1;have hlt:i<n:=by have:=(Qx.1 ht).1; omega
   rw [Yv hlt] at h2;simp at h2; subst h2;rw [Xx hlt] at ht;exact A0C (hr i tr ht)
end ops
def A5o (w:World) (o:Obj):(w.alloc o).heap[w.heap.size]? =some o:=by show (w.heap.push o)[w.heap.size]? =some o; simp
def cell_lt {b o:Nat} {v:Value} (h:w.cell? ⟨b,o,none⟩=some v):b<w.heap.size:=by
 unfold World.cell? at h;cases hb:w.heap[b]? with
 | none=>simp [hb] at h
 | some x=>exact (Xz.1 hb).1
variable {b:Nat}
def cell_of_heap (h:w'.heap[b]? =w.heap[b]?) (o:Nat):w'.cell? ⟨b,o,none⟩=w.cell? ⟨b,o,none⟩:=by
 unfold World.cell?; rw [h]
def frozen_of_heap (h:w'.heap[b]? =w.heap[b]?) (o:Nat):w'.frozen? ⟨b,o,none⟩=w.frozen? ⟨b,o,none⟩:=by
 unfold World.frozen?; rw [h]
variable {x:AVal}
section
variable {ι:List Nat} {σ σ':Sig} {w w':World} {H:List Blk}
def Mono.grow (hw: ∀b,b<w.heap.size->w'.heap[b]? =w.heap[b]?) (hs: ∀b o,b<w.heap.size->σ' b o=σ b o) (l:List Nat) (m:List Blk):
  Mono ι σ w H (ι++l) σ' w' (H++m) where
 stab b o u h1 h2:=by
  have hb:=cell_lt h2;exact ⟨by rw [hs b o hb]; exact h1,by rw [cell_of_heap (hw b hb)]; exact h2⟩
 iota id b h:=by rw [Qw (Qx.1 h).1]; exact h
 chain id tip k h:=by
  refine ⟨tip,k,by rw [Qw (Qx.1 h).1]; exact h,MarkUp.of fun b o q1 q2 _=>⟨by rw [hs b o q1]; exact q2,hw b q1⟩,.inr ⟨rfl,rfl,fun b o u h1 h2=> ?_⟩⟩;have hb:=cell_lt h2;exact ⟨by rw [hs b o hb]; exact h1,⟨u,by rw [cell_of_heap (hw b hb)]; exact h2⟩,fun h3=>by rw [frozen_of_heap (hw b hb)]; exact h3⟩
def Calm.grow {g:Nat} (hq:w'.os=w.os∧w'.tape=w.tape∧w'.output=w.output∧w.heap.size≤w'.heap.size∧w.drawn≤w'.drawn) (hw: ∀b,b<w.heap.size->w'.heap[b]? =w.heap[b]?) (hs: ∀b o,b<w.heap.size->σ' b o=σ b o):Calm g σ w σ' w' where
 os:=hq.1
 tape:=hq.2.1
 output:=hq.2.2.1
 size:=hq.2.2.2.1
 drawn:=hq.2.2.2.2
 keep b o u h1 h2:=by
  have hb:=cell_lt h2;exact ⟨by rw [hs b o hb]; exact h1,by rw [cell_of_heap (hw b hb)]; exact h2⟩
 blk b hb _ _:=⟨hw b hb,fun o=>hs b o hb⟩
def HRel.grow (hH:HRel ι σ w H) (hw: ∀b,b<w.heap.size->w'.heap[b]? =w.heap[b]?) (hs: ∀b o,b<w.heap.size->σ' b o=σ b o) (hq:w'.os=w.os∧w'.tape=w.tape∧w'.output=w.output∧w.heap.size≤w'.heap.size∧w.drawn≤w'.drawn) (l:List Nat) (m:List Blk) (hl:l.length=m.length)
  (hn: ∀j blk b,m[j]? =some blk->l[j]? =some b->A3N (ι++l) σ' w' (H++m) (H.length+j) b blk):HRel (ι++l) σ' w' (H++m):=by
 have M:Mono ι σ w H (ι++l) σ' w' (H++m):=Mono.grow hw hs l m;refine ⟨by simp [hH.1,hl],fun id blk b h1 h2=> ?_⟩;by_cases hid:id<H.length
 ·rw [Qw hid] at h1;rw [Qw (by rw [hH.1]; exact hid)] at h2;have:=hH.2 id blk b h1 h2;cases blk with
  | box cs=>
   obtain ⟨⟨arr,e,fz,ha⟩,hc⟩:=this;have hb:b<w.heap.size:=(Xz.1 ha).1;refine ⟨⟨arr,e,fz,by rw [hw b hb]; exact ha⟩,fun j c hj=> ?_⟩;obtain ⟨q1,q2,v,q3,q4⟩:=hc j c hj;exact ⟨by rw [hs b j hb]; exact q1,by rw [frozen_of_heap (hw b hb)]; exact q2,v,by rw [cell_of_heap (hw b hb)]; exact q3,M.cell q4⟩
  | ro ts=>
   intro j t hj;obtain ⟨q1,v,q2,q3⟩:=this j t hj;have hb:=cell_lt q2;exact ⟨by rw [hs b j hb]; exact q1,v,by rw [cell_of_heap (hw b hb)]; exact q2,M.t q3⟩
  | roC ts=>
   intro j t hj;obtain ⟨q1,v,q2,q3⟩:=this j t hj;have hb:=cell_lt q2;exact ⟨by rw [hs b j hb]; exact q1,v,by rw [cell_of_heap (hw b hb)]; exact q2,M.k q3⟩
  | chain _ _=>trivial
  | dead=>trivial
  | map es=>
   obtain ⟨q1,arr,q2,q3,q4⟩:=this;have hb:b<w.heap.size:=(Xz.1 q2).1;exact ⟨fun o=>by rw [hs b o hb]; exact q1 o,arr,by rw [hw b hb]; exact q2,q3,fun j e x p1 p2=>⟨(q4 j e x p1 p2).1,(q4 j e x p1 p2).2.1,M.mv (q4 j e x p1 p2).2.2⟩⟩
  | iter i n seen=>
   obtain ⟨q1,bm,q2,q3⟩:=this;have hb:b<w.heap.size:=(Xz.1 q3).1;exact ⟨fun o=>by rw [hs b o hb]; exact q1 o,bm,M.iota _ _ q2,by rw [hw b hb]; exact q3⟩
  | ghost G=>exact ⟨this.2 _ _ _ _ (Calm.grow hq hw hs) this.1,this.2⟩
 ·have hid':H.length≤id:=by omega
  rw [QW hid'] at h1;rw [QW (by rw [hH.1]; exact hid')] at h2;rw [hH.1] at h2;have:=hn (id-H.length) blk b h1 h2;rwa [show H.length+(id-H.length)=id by omega] at this
def Ext.grow (hos:w'.os=w.os) (ht:w'.tape=w.tape) (ho:w'.output=w.output) (hsz:w.heap.size≤w'.heap.size) (hw: ∀b,b<w.heap.size->w'.heap[b]? =w.heap[b]?) (hs: ∀b o,b<w.heap.size->σ' b o=σ b o) (hd:w.drawn≤w'.drawn):Ext σ w σ' w' where
 drawn:=hd
 os:=hos
 tape:=ht
 output:=ho
 size:=hsz
 keep b o v h1 h2:=by
  have hb:=cell_lt h2;exact ⟨by rw [hs b o hb]; exact h1,by rw [cell_of_heap (hw b hb)]; exact h2⟩
 obj b hb h:=⟨hw b hb,fun o id=>by rw [hs b o hb]; exact h o id⟩
 back b o hb h:=by rw [hs b o hb]; exact h
def CRel.one {c:ACell} {v:Value} (hc:CRel ι σ w H c v) (h:c≠ .any):v.oneCell'=true:=by
 cases c with
 | any=>exact absurd rfl h
 | int k n=>cases hc; rfl
 | bool b=>cases hc; rfl
 | str s=>cases hc; rfl
 | slice rows id=>have:=hc.1; cases this<;>rfl
 | nils=>cases hc; rfl
 | rptr cells=>cases hc; rfl
 | ptr id off=>obtain ⟨b,_,rfl⟩:=hc; rfl
 | ref id k off len cap=>obtain ⟨b,_,c',_,rfl⟩:=hc; rfl
 | map id=>obtain ⟨b,_,rfl⟩:=hc; rfl
 | iter id=>obtain ⟨b,_,rfl⟩:=hc; rfl
 | rows rs tok=>obtain ⟨⟨a,c,rfl,_⟩,_⟩:=hc; rfl
 | rptrC cells=>obtain ⟨b,off,rfl,_⟩:=hc; rfl
 | vec id len cap=>obtain ⟨b,_,rfl | ⟨_,_,rfl⟩⟩:=hc<;>rfl
 | fn f caps=>obtain ⟨vs,rfl,_⟩:=hc; rfl
 | bfn f caps=>obtain ⟨vs,rfl,_⟩:=hc; rfl
 | yld l=>cases hc; rfl
 | raw u=>obtain ⟨rfl,h⟩:=hc; exact h
 | nilf=>cases hc; rfl
 | nilp=>cases hc; rfl
def AVal.stored:AVal->Option (List ACell)
 | .c .any=>none
 | .c x=>some [x]
 | .agg cs=>some cs
 | .tup _=>none
def C6m:List ACell->Prop:=fun cs=> ∀c,c∈cs->c≠ .any
def A14 {v:Value} (h:VRel ι σ w H x v) {cs:List ACell} (hs:x.stored=some cs):A0I ι σ w H cs v.cells:=by
 cases x with
 | c c=>
  have h':CRel ι σ w H c v:=h;have hne:c≠ .any:=by rintro rfl; simp [AVal.stored] at hs
  have e:cs=[c]:=by cases c<;>simp [AVal.stored] at hs<;>exact hs.symm
  subst e;have h1:=h'.one hne;have hv:v.cells= #[v]:=by cases v<;>first | rfl | simp [Value.oneCell'] at h1
  rw [hv];refine ⟨rfl,fun j c' u h2 h3=> ?_⟩;cases j with
  | zero=>simp at h2 h3; subst h2; subst h3; exact h'
  | succ j=>simp at h2
 | agg cs'=>
  simp [AVal.stored] at hs; subst hs;obtain ⟨vs,rfl,h⟩:=h;exact h
 | tup xs=>simp [AVal.stored] at hs
def Sig.new (σ:Sig) (b:Nat) (o:Own):Sig:=fun b' o'=>if b'=b then o else σ b' o'
def B2u (hH:HRel ι σ w H) (e:TypeId) (arr:Array Value) (cs:List ACell) (hc:A0I ι σ w H cs arr):
  ∃ι' σ',VRel ι' σ' (w.alloc (.cells arr e)) (H++[.box cs]) (.c (.ptr H.length 0)) (.pointer (some ⟨w.heap.size,0,none⟩))∧HRel ι' σ' (w.alloc (.cells arr e)) (H++[.box cs])∧
   Mono ι σ w H ι' σ' (w.alloc (.cells arr e)) (H++[.box cs])∧Ext σ w σ' (w.alloc (.cells arr e)):=by
 have hw: ∀b,b<w.heap.size->(w.alloc (.cells arr e)).heap[b]? =w.heap[b]? :=fun b hb=>Below.heap_alloc w _ b hb;have hs: ∀b o,b<w.heap.size->(σ.new w.heap.size (.mine H.length)) b o=σ b o:=fun b o hb=>by simp [Sig.new,Qx5 hb]
 have hsz:w.heap.size≤(w.alloc (.cells arr e)).heap.size:=by simp
 have M:Mono ι σ w H (ι++[w.heap.size]) (σ.new w.heap.size (.mine H.length)) (w.alloc (.cells arr e)) (H++[.box cs]):=Mono.grow hw hs _ _;have hnew:(w.alloc (.cells arr e)).heap[w.heap.size]? =some (.cells arr e):=A5o w _;refine ⟨ι++[w.heap.size],σ.new w.heap.size (.mine H.length),⟨w.heap.size,by simp [<-hH.1],rfl⟩,hH.grow hw hs ⟨rfl,rfl,rfl,hsz,Qk _⟩ _ _ rfl (fun j blk b h1 h2=> ?_),M,Ext.grow rfl rfl rfl hsz hw hs (Qk _)⟩;cases j with
 | succ j=>simp at h1
 | zero=>
  simp at h1 h2;subst h1; subst h2;refine ⟨⟨arr,e,_,hnew⟩,fun j c hj=> ?_⟩;have hlt:j<arr.size:=by rw [hc.1]; exact (Qx.1 hj).1
  exact ⟨by simp [Sig.new],by unfold World.frozen?; rw [hnew]; simp,arr[j],by unfold World.cell?; rw [hnew]; simp [QZ hlt],M.cell (hc.2 j c _ hj (QZ hlt))⟩
end
section ops
variable {P:Program} {rd:Option Nat} {o:Oper} {ρ:Operand->AVal} {H:List Blk}
def B6K (t:TypeId) (ho:o.op= .alloc t) (z:Value) (hz:A01 P t=some z) (cs:List ACell) (hcs:(A0N z).stored=some cs):AStep P rd o ρ H (.c (.ptr H.length 0)) (H++[.box cs]):=by
 refine AStep.turn (by simp [ho]) fun ι σ a w hx' hH=> ?_;have hc:=A14 (A1n (ι:=ι) (σ:=σ) (w:=w) (H:=H) z) hcs;obtain ⟨ι',σ',h⟩:=B2u hH t z.cells cs hc;refine ⟨_,_,ι',σ',.inl ?_,h⟩;unfold A01 at hz;cases hi:P.info? t with
 | none=>simp [hi] at hz
 | some i=>
  simp [hi] at hz;simp [execOp,ho,Instr.alloc,zeroValue,typeInfo,hi,hz,newVar,newRow,newObj];rfl
def C1O (t:TypeId) (x:Operand) (ho:o.op= .box t x) (cs:List ACell) (hcs:(ρ x).stored=some cs):AStep P rd o ρ H (.c (.ptr H.length 0)) (H++[.box cs]):=by
 refine AStep.turn (by simp [ho]) fun ι σ a w hx' hH=> ?_;have hc:=A14 (hx' x (by simp [Op.operands,ho])) hcs;obtain ⟨ι',σ',h⟩:=B2u hH t (a.eval x).cells cs hc;refine ⟨_,_,ι',σ',.inl ?_,h⟩;simp [execOp,ho,Instr.box,newVar,newRow,newObj];rfl
def setMany (cs:List ACell) (j:Nat):List ACell->List ACell
 | []=>cs
 | c::l=>setMany (cs.set j c) (j+1) l
def A9P (l:List ACell): ∀(cs:List ACell) (j:Nat),(setMany cs j l).length=cs.length:=by
 induction l with
 | nil=>intro cs j; rfl
 | cons c l ih=>intro cs j; simp [setMany,ih]
def A2q (l:List ACell): ∀(cs:List ACell) (j i:Nat),j+l.length≤cs.length->
  (setMany cs j l)[i]? =if j≤i∧i<j+l.length then l[i-j]? else cs[i]? :=by
 induction l with
 | nil=>intro cs j i _; simp [setMany]; omega
 | cons c l ih=>
  intro cs j i h;simp only [setMany,List.length_cons] at*;rw [ih (cs.set j c) (j+1) i (by simp; omega)];by_cases h1:j+1≤i∧i<j+1+l.length
  ·rw [if_pos h1,if_pos (by omega),show i-j=(i-(j+1))+1 by omega]; rfl
  ·rw [if_neg h1];by_cases h2:i=j
   ·subst h2; rw [if_pos (by omega)]; simp [QX (show i<cs.length by omega)]
   ·rw [if_neg (by omega),Qy (by omega)]
def A2g (b:Nat): ∀(vs:List Value) (o:Nat) (w:World) (k:Nat),k≠b->(w.setCells b o vs).heap[k]? =w.heap[k]? :=by
 intro vs
 induction vs with
 | nil=>intro o w k _; rfl
 | cons v vs ih=>intro o w k hk; rw [World.setCells,ih _ _ _ hk,Below.heap_setCell _ _ _ _ hk]
def A21 (b:Nat): ∀(vs:List Value) (o:Nat) (w:World),(w.setCells b o vs).drawn=w.drawn:=by
 intro vs
 induction vs with
 | nil=>intro o w; rfl
 | cons v vs ih=>intro o w; rw [World.setCells,ih]; rfl
def B2v (b:Nat): ∀(vs:List Value) (o:Nat) (w:World),(w.setCells b o vs).os=w.os∧(w.setCells b o vs).tape=w.tape∧(w.setCells b o vs).output=w.output∧(w.setCells b o vs).heap.size=w.heap.size:=by
 intro vs
 induction vs with
 | nil=>intro o w; exact ⟨rfl,rfl,rfl,rfl⟩
 | cons v vs ih=>
  intro o w;obtain ⟨h1,h2,h3,h4⟩:=ih (o+1) (w.setCell ⟨b,o,none⟩ v);exact ⟨h1,h2,h3,by rw [World.setCells,h4]; simp [World.setCell]⟩
def A5F (b:Nat): ∀(vs:List Value) (o:Nat) (w:World) {arr:Array Value} {e:TypeId} {fz:Nat×Nat},w.heap[b]? =some (.cells arr e fz)-> ∃arr',(w.setCells b o vs).heap[b]? =some (.cells arr' e fz):=by
 intro vs
 induction vs with
 | nil=>intro o w arr e fz h; exact ⟨arr,h⟩
 | cons v vs ih=>
  intro o w arr e fz h;have hb:=(Xz.1 h).1;have:(w.setCell ⟨b,o,none⟩ v).heap[b]? =some (.cells (arr.setIfInBounds o v) e fz):=by
   simp [World.setCell,Qz9,h]
  exact ih (o+1) _ this
def A6i (b:Nat) (vs:List Value) (o:Nat) (w:World) (b' o':Nat) {v:Value} (h:w.cell? ⟨b',o',none⟩=some v) (hin: ∀j,j<vs.length->(w.cell? ⟨b,o+j,none⟩).isSome=true):
  ∃u,(w.setCells b o vs).cell? ⟨b',o',none⟩=some u:=by
 by_cases hr:b'=b∧o≤o'∧o'<o+vs.length
 ·obtain ⟨rfl,h1,h2⟩:=hr;have:=World.cell?_setCells_in b' vs o w hin (o'-o) (by omega);rw [show o+(o'-o)=o' by omega] at this;exact ⟨_,this⟩
 ·refine ⟨v,?_⟩;rw [World.cell?_setCells_out b vs o w _ (fun hb _=> ?_)]
  ·exact h
  ·simp at hb ⊢; subst hb; simp at hr; omega
def A3a (b:Nat): ∀(vs:List Value) (o:Nat) (w:World) {b':Nat} {arr:Array Value} {e:TypeId} {fz:Nat×Nat},w.heap[b']? =some (Obj.cells arr e fz)->
  ∃arr',(w.setCells b o vs).heap[b']? =some (Obj.cells arr' e fz)∧arr'.size=arr.size:=by
 intro vs
 induction vs with
 | nil=>intro o w b' arr e fz h; exact ⟨arr,h,rfl⟩
 | cons v vs ih=>
  intro o w b' arr e fz h;have h1: ∃arr',(w.setCell ⟨b,o,none⟩ v).heap[b']? =some (Obj.cells arr' e fz)∧arr'.size=arr.size:=by
   unfold World.setCell;simp only [Qz9];by_cases hb:b=b'
   ·subst hb;rw [if_pos rfl,h];exact ⟨_,rfl,by simp⟩
   ·rw [if_neg hb]; exact ⟨arr,h,rfl⟩
  obtain ⟨arr',h2,h3⟩:=h1;obtain ⟨arr2,h4,h5⟩:=ih (o+1) _ h2;exact ⟨arr2,h4,by omega⟩
def A4g {ι:List Nat} {σ:Sig} {w:World} (hH:HRel ι σ w H) {id b j:Nat} {cs l:List ACell} (hb:H[id]? =some (.box cs)) (hi:ι[id]? =some b) (vs:Array Value) (hv:A0I ι σ w H l vs) (hj:j+l.length≤cs.length):
  (∀i,i<vs.toList.length->(w.cell? ⟨b,j+i,none⟩).isSome=true∧w.frozen? ⟨b,j+i,none⟩=false)∧
  HRel ι σ (w.setCells b j vs.toList) (H.set id (.box (setMany cs j l)))∧Mono ι σ w H ι σ (w.setCells b j vs.toList) (H.set id (.box (setMany cs j l)))∧Ext σ w σ (w.setCells b j vs.toList):=by
 have hlen:vs.toList.length=l.length:=by simpa using hv.1
 obtain ⟨⟨arr,e,fz,ha⟩,hcells⟩:=hH.2 id (.box cs) b hb hi;have hin: ∀i,i<vs.toList.length->(w.cell? ⟨b,j+i,none⟩).isSome=true∧w.frozen? ⟨b,j+i,none⟩=false∧σ b (j+i)= .mine id:=fun i hi'=>by
  have hlt:j+i<cs.length:=by omega
  obtain ⟨q1,q2,v,q3,_⟩:=hcells (j+i) _ (Qq hlt);exact ⟨by rw [q3]; rfl,q2,q1⟩
 have hin': ∀i,i<vs.toList.length->(w.cell? ⟨b,j+i,none⟩).isSome=true:=fun i hi'=>(hin i hi').1;have hout: ∀b' o',(b'=b->j≤o'->o'<j+vs.toList.length->False)->(w.setCells b j vs.toList).cell? ⟨b',o',none⟩=w.cell? ⟨b',o',none⟩:=fun b' o' h=>
  World.cell?_setCells_out b _ _ _ _ (fun h1 _=>by
   by_cases q:o'<j
   ·exact .inl q
   ·by_cases q2:o'<j+vs.toList.length
    ·exact (h h1 (by omega) q2).elim
    ·exact .inr (by show j+_≤o'; omega))
 have hstab: ∀b' o' u,σ b' o'= .stable->w.cell? ⟨b',o',none⟩=some u->σ b' o'= .stable∧(w.setCells b j vs.toList).cell? ⟨b',o',none⟩=some u:=fun b' o' u h1 h2=>by
  refine ⟨h1,?_⟩;rw [hout b' o' (fun e1 e2 e3=> ?_)]
  ·exact h2
  ·subst e1;have:=(hin (o'-j) (by omega)).2.2;rw [show j+(o'-j)=o' by omega,h1] at this;cases this
 have M:Mono ι σ w H ι σ (w.setCells b j vs.toList) (H.set id (.box (setMany cs j l))):=by
  refine ⟨hstab,fun _ _ h=>h,fun id' tip k h=>⟨tip,k,?_,fun b2 o2 arr2 e2 q1 q2 q3=>⟨q3,A3a b vs.toList j w q1⟩,.inr ⟨rfl,rfl,fun b' o' u h1 h2=>⟨h1,A6i b _ j w b' o' h2 hin',fun h3=>by rw [World.frozen?_setCells]; exact h3⟩⟩⟩⟩;by_cases hid:id=id'
  ·subst hid; rw [hb] at h; cases h
  ·rw [Qy hid]; exact h
 obtain ⟨f1,f2,f3,f4⟩:=B2v b vs.toList j w;refine ⟨fun i hi'=>⟨(hin i hi').1,(hin i hi').2.1⟩,⟨by simp [hH.1],fun id' blk b' h1 h2=> ?_⟩,M,⟨f1,f2,f3,by omega,hstab,fun b' hb' hn=>⟨?_,hn⟩,fun _ _ _ h=>h,by rw [A21]; exact Qk _⟩⟩
 ·by_cases hid:id=id'
  ·subst hid;rw [hi] at h2; cases h2;have hlt:id<H.length:=(Qx.1 hb).1;rw [QX hlt] at h1;cases h1;obtain ⟨arr',ha'⟩:=A5F b vs.toList j w ha;refine ⟨⟨arr',e,fz,ha'⟩,fun i c hc=> ?_⟩;rw [A2q l cs j i hj] at hc;by_cases hr:j≤i∧i<j+l.length
   ·rw [if_pos hr] at hc;have hlt':i<cs.length:=by omega
    obtain ⟨q1,q2,_⟩:=hcells i _ (Qq hlt');have hiv:i-j<vs.toList.length:=by omega
    have hcell:=World.cell?_setCells_in b vs.toList j w hin' (i-j) hiv;rw [show j+(i-j)=i by omega] at hcell;refine ⟨q1,by rw [World.frozen?_setCells]; exact q2,_,hcell,M.cell (hv.2 (i-j) c _ hc ?_)⟩;simp at hiv ⊢
   ·rw [if_neg hr] at hc;obtain ⟨q1,q2,v,q3,q4⟩:=hcells i c hc;refine ⟨q1,by rw [World.frozen?_setCells]; exact q2,v,?_,M.cell q4⟩;rw [hout b i (fun _ h1 h2=>hr ⟨h1,by omega⟩)]; exact q3
  ·rw [Qy hid] at h1;have:=hH.2 id' blk b' h1 h2;cases blk with
   | box cs'=>
    obtain ⟨⟨arr2,e2,fz2,ha2⟩,hc2⟩:=this;refine ⟨?_,fun i c hc=> ?_⟩
    ·by_cases hbb:b'=b
     ·subst hbb; obtain ⟨arr',ha'⟩:=A5F b' vs.toList j w ha2; exact ⟨arr',e2,fz2,ha'⟩
     ·exact ⟨arr2,e2,fz2,by rw [A2g b _ _ _ _ hbb]; exact ha2⟩
    ·obtain ⟨q1,q2,v,q3,q4⟩:=hc2 i c hc;refine ⟨q1,by rw [World.frozen?_setCells]; exact q2,v,?_,M.cell q4⟩;rw [hout b' i (fun e1 e2 e3=> ?_)]
     ·exact q3
     ·subst e1;have:=(hin (i-j) (by omega)).2.2;rw [show j+(i-j)=i by omega,q1] at this;cases this; exact hid rfl
   | ro ts=>
    intro i t ht;obtain ⟨q1,v,q2,q3⟩:=this i t ht;exact ⟨q1,v,(hstab b' i v q1 q2).2,M.t q3⟩
   | roC ts=>
    intro i t ht;obtain ⟨q1,v,q2,q3⟩:=this i t ht;exact ⟨q1,v,(hstab b' i v q1 q2).2,M.k q3⟩
   | chain _ _=>trivial
   | dead=>trivial
   | map es=>
    obtain ⟨q1,arr,q2,q3,q4⟩:=this;have hbb:b'≠b:=by rintro rfl; rw [ha] at q2; cases q2
    exact ⟨q1,arr,by rw [A2g b _ _ _ _ hbb]; exact q2,q3,fun j e x p1 p2=>⟨(q4 j e x p1 p2).1,(q4 j e x p1 p2).2.1,M.mv (q4 j e x p1 p2).2.2⟩⟩
   | iter i n seen=>
    obtain ⟨q1,bm,q2,q3⟩:=this;have hbb:b'≠b:=by rintro rfl; rw [ha] at q3; cases q3
    exact ⟨q1,bm,M.iota _ _ q2,by rw [A2g b _ _ _ _ hbb]; exact q3⟩
   | ghost G=>
    refine ⟨this.2 _ _ _ _ ⟨f1,f2,f3,by omega,hstab,fun b2 hb2 _ hg=>⟨?_,fun _=>rfl⟩,by rw [A21]; exact Qk _⟩ this.1,this.2⟩;by_cases hbb:b2=b
    ·subst hbb;by_cases hl0:vs.toList.length=0
     ·rw [ZY.1 hl0]; rfl
     ·have h3:=(hin 0 (by omega)).2.2;rcases hg (j+0) with h4 | h4
      ·rw [h3] at h4; cases h4; exact absurd rfl hid
      ·rw [h3] at h4; cases h4
    ·exact A2g b _ _ _ _ hbb
 ·by_cases hbb:b'=b
  ·subst hbb;by_cases hl0:vs.toList.length=0
   ·rw [ZY.1 hl0]; rfl
   ·exact absurd (hin 0 (by omega)).2.2 (hn _ _)
  ·exact A2g b _ _ _ _ hbb
def B6L (t:TypeId) (x y:Operand) (ho:o.op= .store t x y) (n:Nat) (hn:A0u P t=some n) (id j:Nat) (hx:ρ x= .c (.ptr id j)) (cs l:List ACell) (hb:H[id]? =some (.box cs))
  (hl:(ρ y).stored=some l) (hany:C6m l) (hln:l.length=n) (hj:j+n≤cs.length):AStep P rd o ρ H (.tup []) (H.set id (.box (setMany cs j l))):=by
 refine AStep.turn (by simp [ho]) fun ι σ a w hx' hH=> ?_;have h':=hx' x (by simp [Op.operands,ho]);rw [hx] at h';obtain ⟨b,hi,e⟩:=h';have hc:=A14 (hx' y (by simp [Op.operands,ho])) hl;obtain ⟨hin,h1,h2,h3⟩:=A4g (j:=j) hH hb hi _ hc (by omega);refine ⟨undef,_,ι,σ,.inr ⟨?_,rfl⟩,⟨#[],rfl,rfl,by simp⟩,h1,h2,h3⟩
 have hst:=run_storeCells_cells (P:=P) b j (a.eval y).cells.toList 0 w (fun i hi'=>by simpa using (hin i hi').1) (fun i hi'=>by simpa using (hin i hi').2) (fun v hv=>by
  obtain ⟨i,hi',e⟩:=Jk.1 hv;have hi2:i<(a.eval y).cells.size:=by simpa using hi'
  have hil:i<l.length:=by rw [<-hc.1]; exact hi2
  have e':(a.eval y).cells[i]? =some v:=by rw [<-e]; simp
  exact (hc.2 i _ v (Qq hil) e').one (hany _ (Xw hil)))
 simp only [Nat.add_zero] at hst;have hsz:(a.eval y).cells.size=n:=by rw [hc.1,hln]
 simp only [execOp,ho,e,Instr.storeAt,Instr.sureAddr,Sem.run_bind,Sem.run_pure,Result.andThen_ok,storeVar,A1Q hn,hsz,ne_eq,not_true_eq_false,if_false,hst]
end ops
def A2l (P:Program) (t:TypeId):Option (Value×(Nat->Option (Nat×Nat))):=
 match P.info? t,P.underlying t with
 | some it,some (.array _ e)=>
  match it.zero,P.info? e with
  | some z,some ie=>some (z,fun i=>some (i*ie.size,ie.size))
  | _,_=>none
 | some it,some (.struct fields)=>
  match it.zero,fields.toList.mapM (fun f=>(P.info? f.type).map fun i=>(f.offset,i.size)) with
  | some z,some places=>some (z,(places.toArray[·]?))
  | _,_=>none
 | _,_=>none
def A88 {t:TypeId} {z:Value} {p:Nat->Option (Nat×Nat)} (h:A2l P t=some (z,p)) (parts:List (Nat×Value)):
  P.built t parts=Instr.fill p z.cells parts:=by
 unfold A2l at h;unfold Program.built;split at h<;>rename_i h1 h2
 ·split at h<;>rename_i h3 h4
  ·cases h; simp only [h1,h2,h3,h4]
  ·cases h
 ·split at h<;>rename_i h3 h4
  ·cases h; simp only [h1,h2,h3,h4]
  ·cases h
 ·cases h
def A89 (p:Nat->Option (Nat×Nat)) (cells:List ACell):List (Nat×List ACell)->Option (List ACell)
 | []=>some cells
 | (i,l)::rest=>
  match p i with
  | some (off,size)=>if l.length=size∧off+size≤cells.length then A89 p (setMany cells off l) rest else none
  | none=>none
def A5G (vs:List Value): ∀(k off:Nat) (arr:Array Value),((vs.zipIdx k).foldl (fun cs (x:Value×Nat)=>cs.setIfInBounds (off+x.2) x.1) arr).size=arr.size:=by
 induction vs with
 | nil=>intro k off arr; rfl
 | cons v vs ih=>intro k off arr; simp [List.zipIdx_cons,ih]
def B1p (vs:List Value): ∀(k off:Nat) (arr:Array Value) (i:Nat),off+k+vs.length≤arr.size->
  ((vs.zipIdx k).foldl (fun cs (x:Value×Nat)=>cs.setIfInBounds (off+x.2) x.1) arr)[i]? =if off+k≤i∧i<off+k+vs.length then vs[i-(off+k)]? else arr[i]? :=by
 induction vs with
 | nil=>intro k off arr i _; simp; omega
 | cons v vs ih=>
  intro k off arr i h;simp only [List.zipIdx_cons,List.foldl_cons,List.length_cons] at*;rw [ih (k+1) off _ i (by simp; omega)];by_cases h1:off+(k+1)≤i∧i<off+(k+1)+vs.length
  ·rw [if_pos h1,if_pos (by omega),show i-(off+k)=(i-(off+(k+1)))+1 by omega]; rfl
  ·rw [if_neg h1];by_cases h2:i=off+k
   ·subst h2; rw [if_pos (by omega)]; simp [Qx4 (show off+k<arr.size by omega)]
   ·rw [if_neg (by omega),Qj6 (by omega)]
section
variable {ι:List Nat} {σ:Sig} {w:World} {H:List Blk}
def B5t (p:Nat->Option (Nat×Nat)): ∀(parts:List (Nat×List ACell)) (vparts:List (Nat×Value)) (cells cs:List ACell) (arr:Array Value),
  A0I ι σ w H cells arr->vparts.length=parts.length->
  (∀(j:Nat) i l i' v,parts[j]? =some (i,l)->vparts[j]? =some (i',v)->i'=i∧A0I ι σ w H l v.cells)->
  A89 p cells parts=some cs-> ∃arr',Instr.fill p arr vparts=some arr'∧A0I ι σ w H cs arr':=by
 intro parts
 induction parts with
 | nil=>
  intro vparts cells cs arr hc hl _ hf;have:vparts=[]:=ZY.1 hl;subst this;simp [A89] at hf; subst hf;exact ⟨arr,rfl,hc⟩
 | cons q parts ih=>
  intro vparts cells cs arr hc hl hp hf;obtain ⟨i,l⟩:=q;cases vparts with
  | nil=>simp at hl
  | cons q' vparts=>
   obtain ⟨i',v⟩:=q';obtain ⟨rfl,hv⟩:=hp 0 i l i' v rfl rfl;simp only [A89] at hf;cases hpi:p i' with
   | none=>simp [hpi] at hf
   | some x=>
    obtain ⟨off,size⟩:=x;simp only [hpi] at hf;by_cases hcond:l.length=size∧off+size≤cells.length
    ·rw [if_pos hcond] at hf;have hvs:v.cells.size=size:=by rw [hv.1]; exact hcond.1
     have harr: ¬(off+v.cells.size>arr.size):=by rw [hc.1,hvs]; omega
     simp only [Instr.fill,hpi,hvs,ne_eq,not_true_eq_false];rw [hvs] at harr;rw [if_neg (by simpa using harr)];refine ih vparts _ cs _ ?_ (by simpa using hl) (fun j i l i' v h1 h2=>hp (j+1) i l i' v h1 h2) hf;rw [<-Array.foldl_toList,Array.toList_zipIdx];refine ⟨by rw [A5G]; rw [hc.1,A9P],fun j c u h1 h2=> ?_⟩;rw [B1p _ _ _ _ _ (by simp; omega)] at h2;rw [A2q _ _ _ _ (by omega)] at h1;have e:v.cells.toList.length=l.length:=by simp [hvs,hcond.1]
     simp only [Nat.add_zero] at h2;by_cases hr:off≤j∧j<off+l.length
     ·rw [if_pos hr] at h1;rw [if_pos (by omega)] at h2;exact hv.2 (j-off) c u h1 (by simpa using h2)
     ·rw [if_neg hr] at h1;rw [if_neg (by omega)] at h2;exact hc.2 j c u h1 h2
    ·rw [if_neg hcond] at hf; cases hf
end
section ops
variable {P:Program} {rd:Option Nat} {o:Oper} {ρ:Operand->AVal} {H:List Blk}
def partsOf (ρ:Operand->AVal):List (Nat×Operand)->Option (List (Nat×List ACell))
 | []=>some []
 | (i,x)::rest=>
  match (ρ x).stored,partsOf ρ rest with
  | some l,some r=>some ((i,l)::r)
  | _,_=>none
def A7F: ∀{ps:List (Nat×Operand)} {parts:List (Nat×List ACell)},partsOf ρ ps=some parts->
  parts.length=ps.length∧ ∀(j:Nat) i l i' x,parts[j]? =some (i,l)->ps[j]? =some (i',x)->i'=i∧(ρ x).stored=some l:=by
 intro ps
 induction ps with
 | nil=>intro parts h; simp [partsOf] at h; subst h; simp
 | cons q ps ih=>
  intro parts h;obtain ⟨i,x⟩:=q;simp only [partsOf] at h;split at h
  ·rename_i l r h1 h2;cases h;obtain ⟨hl,hp⟩:=ih h2;refine ⟨by simp [hl],fun j i1 l1 i2 x2 e1 e2=> ?_⟩;cases j with
   | zero=>simp at e1 e2; obtain ⟨rfl,rfl⟩:=e1; obtain ⟨rfl,rfl⟩:=e2; exact ⟨rfl,h1⟩
   | succ j=>exact hp j i1 l1 i2 x2 e1 e2
  ·cases h
def B0f (t:TypeId) (ps:Array (Nat×Operand)) (ho:o.op= .build t ps) (z:Value) (p:Nat->Option (Nat×Nat)) (hb:A2l P t=some (z,p)) (zs:List ACell) (hz:(A0N z).stored=some zs)
  (parts:List (Nat×List ACell)) (hp:partsOf ρ ps.toList=some parts) (cs:List ACell) (hf:A89 p zs parts=some cs):AStep P rd o ρ H (.agg cs) H:=by
 refine AStep.value (by simp [ho]) fun ι σ a w hx' hH=> ?_;obtain ⟨hl,hpp⟩:=A7F hp
 obtain ⟨arr',h1,h2⟩:=B5t (ι:=ι) (σ:=σ) (w:=w) (H:=H) p parts (ps.toList.map fun (i,x)=>(i,a.eval x)) zs cs z.cells (A14 (A1n z) hz) (by simp [hl]) (fun j i l i' v e1 e2=>by
  simp only [QQ] at e2;cases hj:ps.toList[j]? with
  | none=>simp [hj] at e2
  | some q=>
   obtain ⟨i2,x⟩:=q;simp [hj] at e2;obtain ⟨rfl,rfl⟩:=e2;obtain ⟨e3,e4⟩:=hpp j i l i2 x e1 hj;refine ⟨e3,A14 (hx' x ?_) e4⟩;simp only [Op.operands,ho];simp only [List.mem_toArray,QY]
   exact ⟨(i2,x),Qv hj,rfl⟩) hf
 refine ⟨.agg arr',?_,arr',rfl,h2⟩;have hbt:P.built t (ps.map fun (i,x)=>(i,a.eval x)).toList=some arr':=by
  rw [A88 hb]; rw [Array.toList_map]; exact h1
 simp only [execOp,ho,Sem.run_bind,run_build w t _ arr' hbt,Result.andThen_ok,Sem.run_pure]
def A4z (x:Operand) (ho:o.op= .nilCheck x) (f:FuncId) (caps:List ACap) (hx:ρ x= .c (.fn f caps)):AStep P rd o ρ H (ρ x) H:=by
 refine AStep.value (by simp [ho]) fun ι σ a w hx' hH=>⟨a.eval x,?_,hx' x (by simp [Op.operands,ho])⟩;have h:=hx' x (by simp [Op.operands,ho]);rw [hx] at h;obtain ⟨vs,e,_⟩:=h;simp [execOp,ho,e]
def A3O (x:Operand) (ho:o.op= .nilCheck x) (id j:Nat) (hx:ρ x= .c (.ptr id j)):AStep P rd o ρ H (ρ x) H:=by
 refine AStep.value (by simp [ho]) fun ι σ a w hx' hH=>⟨a.eval x,?_,hx' x (by simp [Op.operands,ho])⟩;have h:=hx' x (by simp [Op.operands,ho]);rw [hx] at h;obtain ⟨b,_,e⟩:=h;simp [execOp,ho,e]
def A34 (x:Operand) (ho:o.op= .nilCheck x) (cells:List Tree) (hx:ρ x= .c (.rptr cells)):AStep P rd o ρ H (ρ x) H:=by
 refine AStep.value (by simp [ho]) fun ι σ a w hx' hH=>⟨a.eval x,?_,hx' x (by simp [Op.operands,ho])⟩;have h:=hx' x (by simp [Op.operands,ho]);rw [hx] at h;obtain ⟨b,i,e⟩:=TRel.rptr_form h;simp [execOp,ho,e]
def A3P (x:Operand) (ho:o.op= .nilCheck x) (l:Nat) (hx:ρ x= .c (.yld l)):AStep P rd o ρ H (ρ x) H:=by
 refine AStep.value (by simp [ho]) fun ι σ a w hx' hH=>⟨a.eval x,?_,hx' x (by simp [Op.operands,ho])⟩;have h:=hx' x (by simp [Op.operands,ho]);rw [hx] at h;have e:a.eval x= .func (.yield l) #[] #[]:=h;simp [execOp,ho,e]
def A40 (src dst:TypeId) (x:Operand) (ho:o.op= .convert src dst x) (d:TypeDesc) (hs:P.underlying src=some d) (k:IntKind) (hd:P.underlying dst=some (.int k)) (k':IntKind) (n:Int) (hx:ρ x= .c (.int k' n)) (hn:InK k n):
  AStep P rd o ρ H (.c (.int k n)) H:=by
 refine AStep.value (by simp [ho]) fun ι σ a w hx' hH=>⟨.int k n,?_,rfl⟩;have e:a.eval x= .int k' n:=by have:=hx' x (by simp [Op.operands,ho]); rw [hx] at this; exact this
 have:(convert src dst (.int k' n)).run P w= .ok (.int k n) w:=by
  unfold convert;rw [Sem.run_bind,run_underlying hs w];simp only [Result.andThen_ok];rw [Sem.run_bind,run_underlying hd w];simp only [Result.andThen_ok];cases d<;>simp [Conv.intToInt,wrap_in hn]
 simp only [execOp,ho,e,Sem.run_bind,this,Result.andThen_ok,Sem.run_pure]
def B5u (t:TypeId) (x:Operand) (ho:o.op= .unOp .neg t x) (k:IntKind) (n:Int) (hx:ρ x= .c (.int k n)) (hn:InK k (-n)):AStep P rd o ρ H (.c (.int k (-n))) H:=by
 refine AStep.value (by simp [ho]) fun ι σ a w hx' hH=>⟨.int k (-n),?_,rfl⟩;have e:a.eval x= .int k n:=by have:=hx' x (by simp [Op.operands,ho]); rw [hx] at this; exact this
 simp [execOp,ho,e,Op.unary,Op.intArith,wrap_in hn]
def lenOf:ACell->Option Nat
 | .slice rows _=>some rows.length
 | .nils=>some 0
 | .ref _ _ _ len _=>some len
 | .vec _ len _=>some len
 | _=>none
def B6M {c:ACell} {n:Nat} (h:lenOf c=some n) {v:Value} (hv:CRel ι σ w H c v): ∃a k,v= .slice a n k:=by
 cases c<;>simp [lenOf] at h
 ·subst h; have:=hv.1; cases this<;>exact ⟨_,_,rfl⟩
 ·subst h; exact ⟨_,_,hv⟩
 ·subst h; obtain ⟨b,_,c',_,e⟩:=hv; exact ⟨_,_,e⟩
 ·subst h; obtain ⟨b,_,e | ⟨rfl,_,e⟩⟩:=hv<;>exact ⟨_,_,e⟩
def B5v (x:Operand) (ty:TypeId) (ts:Array TypeId) (ho:o.op= .call { callee:= .builtin .len,args:= #[x],argTypes:=ts }) (hty:ts[0]? =some ty) (e:TypeId) (he:A03 P ty=some (none,e)) (c:ACell) (hx:ρ x= .c c) (n:Nat) (hn:lenOf c=some n):
  AStep P rd o ρ H (.c (.int .i64 n)) H:=by
 refine AStep.value (by simp [ho]) fun ι σ a w hx' hH=>⟨.int .i64 n,?_,rfl⟩;have h:=hx' x (by simp [Op.operands,Call.operands,ho]);rw [hx] at h;obtain ⟨ad,k,e1⟩:=B6M hn h;have hu:=A0w he;simp [execOp,ho,resolve,invoke,builtin,e1,Builtin.len_,hty,run_underlying hu,goInt]
def A5H (x:Operand) (ty:TypeId) (ts:Array TypeId) (ho:o.op= .call { callee:= .builtin .len,args:= #[x],argTypes:=ts }) (hty:ts[0]? =some ty) (e:TypeId) (n:Nat) (he:A03 P ty=some (some n,e)):
  AStep P rd o ρ H (.c (.int .i64 n)) H:=by
 refine AStep.value (by simp [ho]) fun ι σ a w hx' hH=>⟨.int .i64 n,?_,rfl⟩;have hu:=A5L he;simp only [execOp,ho,resolve,invoke,builtin,Builtin.len_,Sem.run_bind,Sem.run_pure,Result.andThen_ok];simp [hty,run_underlying hu,goInt]
def B5w (x y:Operand) (ts:Array TypeId) (ho:o.op= .call { callee:= .builtin .max,args:= #[x,y],argTypes:=ts }) (k:IntKind) (n m:Int) (hx:ρ x= .c (.int k n)) (hy:ρ y= .c (.int k m)):AStep P rd o ρ H (.c (.int k (max n m))) H:=by
 refine AStep.value (by simp [ho]) fun ι σ a w hx' hH=>⟨.int k (max n m),?_,rfl⟩;have e1:a.eval x= .int k n:=by have:=hx' x (by simp [Op.operands,Call.operands,ho]); rw [hx] at this; exact this
 have e2:a.eval y= .int k m:=by have:=hx' y (by simp [Op.operands,Call.operands,ho]); rw [hy] at this; exact this
 have:(if m>n then m else n)=max n m:=by rw [Int.max_def]; split<;>split<;>omega
 simp [execOp,ho,resolve,invoke,builtin,e1,e2,Builtin.max_,Builtin.max2,this]
def B2w (x y z u:Operand) (ts:Array TypeId) (ho:o.op= .call { callee:= .builtin .max,args:= #[x,y,z,u],argTypes:=ts }) (k:IntKind) (n m p q:Int) (hx:ρ x= .c (.int k n)) (hy:ρ y= .c (.int k m)) (hz:ρ z= .c (.int k p)) (hu:ρ u= .c (.int k q)):AStep P rd o ρ H (.c (.int k (max (max (max n m) p) q))) H:=by
 refine AStep.value (by simp [ho]) fun ι σ a w hx' hH=>⟨.int k (max (max (max n m) p) q),?_,rfl⟩;have e1:a.eval x= .int k n:=by have:=hx' x (by simp [Op.operands,Call.operands,ho]); rw [hx] at this; exact this
 have e2:a.eval y= .int k m:=by have:=hx' y (by simp [Op.operands,Call.operands,ho]); rw [hy] at this; exact this
 have e3:a.eval z= .int k p:=by have:=hx' z (by simp [Op.operands,Call.operands,ho]); rw [hz] at this; exact this
 have e4:a.eval u= .int k q:=by have:=hx' u (by simp [Op.operands,Call.operands,ho]); rw [hu] at this; exact this
 have h: ∀n m:Int,(if m>n then m else n)=max n m:=fun n m=>by rw [Int.max_def]; split<;>split<;>omega
 simp [execOp,ho,resolve,invoke,builtin,e1,e2,e3,e4,Builtin.max_,Builtin.max2,h,List.foldlM]
def B5x (x y:Operand) (ts:Array TypeId) (ho:o.op= .call { callee:= .builtin .min,args:= #[x,y],argTypes:=ts }) (k:IntKind) (n m:Int) (hx:ρ x= .c (.int k n)) (hy:ρ y= .c (.int k m)):AStep P rd o ρ H (.c (.int k (min n m))) H:=by
 refine AStep.value (by simp [ho]) fun ι σ a w hx' hH=>⟨.int k (min n m),?_,rfl⟩;have e1:a.eval x= .int k n:=by have:=hx' x (by simp [Op.operands,Call.operands,ho]); rw [hx] at this; exact this
 have e2:a.eval y= .int k m:=by have:=hx' y (by simp [Op.operands,Call.operands,ho]); rw [hy] at this; exact this
 have:(if m<n then m else n)=min n m:=by rw [Int.min_def]; split<;>split<;>omega
 simp [execOp,ho,resolve,invoke,builtin,e1,e2,Builtin.min_,Builtin.min2,this]
def A35 (t t':TypeId) (neg:Bool) (x y:Operand) (ho:o.op= .binOp (if neg then .neq else .eql) t x y t') (ht:P.underlying t=some .bool) (n m:Bool) (hx:ρ x= .c (.bool n)) (hy:ρ y= .c (.bool m)):
  AStep P rd o ρ H (.c (.bool (neg ^^ decide (n=m)))) H:=by
 refine AStep.value (by simp [ho]) fun ι σ a w hx' hH=>⟨.bool (neg ^^ decide (n=m)),?_,rfl⟩;have e1:a.eval x= .bool n:=by have:=hx' x (by simp [Op.operands,ho]); rw [hx] at this; exact this
 have e2:a.eval y= .bool m:=by have:=hx' y (by simp [Op.operands,ho]); rw [hy] at this; exact this
 have h0:(Op.equal t (.bool n) (.bool m)).run P w= .ok (n==m) w:=by
  unfold Op.equal Op.maxDepth Op.equalIn;simp [run_underlying ht]
 have h1: ∀op,(eqGuard op t x y (.bool n) (.bool m)).run P w= .ok () w:=by intro op; unfold eqGuard; cases op<;>simp
 cases neg
 ·have h2:(binOp .eql t (.bool n) (.bool m)).run P w= .ok (.bool (n==m)) w:=by
   unfold binOp; simp [h0]
  simp only [execOp,ho,e1,e2,Sem.run_bind,Yk,if_false,h1,h2,Result.andThen_ok,Sem.run_pure];cases n<;>cases m<;>rfl
 ·have h2:(binOp .neq t (.bool n) (.bool m)).run P w= .ok (.bool (!(n==m))) w:=by
   unfold binOp; simp [h0]
  simp only [execOp,ho,e1,e2,Sem.run_bind,if_true,h1,h2,Result.andThen_ok,Sem.run_pure];cases n<;>cases m<;>rfl
end ops
def TRel.one {t:Tree} {v:Value} (h:TRel S w t v):v.oneCell'=true:=by cases h<;>first | rfl | assumption
def B8t:ACap->Option Tree
 | .tree t=>some t
 | _=>none
def A0a:ACell->Option Tree
 | .int k n=>some (.int k n)
 | .bool b=>some (.bool b)
 | .str s=>some (.str s)
 | .slice rows _=>some (.slice rows)
 | .nils=>some (.slice [])
 | .rptr cells=>some (.rptr cells)
 | .nilf=>some .nilf
 | .raw v=>some (.raw v)
 | .fn f caps=>(caps.mapM B8t).map (.fn f)
 | _=>none
def A08 {α β:Type} {f:α->Option β}: ∀{l:List α} {r:List β},l.mapM f=some r->r.length=l.length∧ ∀(j:Nat) x y,l[j]? =some x->r[j]? =some y->f x=some y:=by
 intro l
 induction l with
 | nil=>intro r h; simp at h; subst h; simp
 | cons a l ih=>
  intro r h;simp only [JY,Option.bind_eq_bind,Option.pure_def] at h;cases ha:f a with
  | none=>simp [ha] at h
  | some b=>
   cases hl:l.mapM f with
   | none=>simp [ha,hl] at h
   | some r'=>
    simp [ha,hl] at h;subst h;obtain ⟨h1,h2⟩:=ih hl;refine ⟨by simp [h1],fun j x y e1 e2=> ?_⟩;cases j with
    | zero=>simp at e1 e2; subst e1; subst e2; exact ha
    | succ j=>exact h2 j x y e1 e2
section
variable {ι:List Nat} {σ:Sig} {w:World} {H:List Blk}
def A0y {c:ACell} {t:Tree} {v:Value} (h:CRel ι σ w H c v) (ht:A0a c=some t):TRel (Stab σ) w t v:=by
 cases c with
 | int k n=>simp [A0a] at ht; subst ht; cases h; exact .int _ _
 | bool b=>simp [A0a] at ht; subst ht; cases h; exact .bool _
 | str s=>simp [A0a] at ht; subst ht; cases h; exact .str _
 | slice rows tok=>simp [A0a] at ht; subst ht; exact h.1
 | nils=>simp [A0a] at ht; subst ht; cases h; exact .nil _ _
 | rptr cells=>simp [A0a] at ht; subst ht; exact h
 | nilf=>simp [A0a] at ht; subst ht; cases h; exact .nilf
 | bfn f caps=>simp [A0a] at ht
 | raw u=>simp [A0a] at ht; subst ht; obtain ⟨rfl,h⟩:=h; exact .raw _ h
 | fn f caps=>
  simp only [A0a] at ht;cases hm:caps.mapM B8t with
  | none=>simp [hm] at ht
  | some ts=>
   simp [hm] at ht; subst ht;obtain ⟨hl,hg⟩:=A08 hm;obtain ⟨vs,rfl,hvl,hv⟩:=h;have e:vs=(List.range ts.length).map (fun j=>vs.getD j undef):=by
    apply Zq;intro j;simp only [QQ];by_cases hj:j<vs.length
    ·rw [Yv (by omega)]; simp [Qq hj]
    ·rw [Xq (by omega),Xq (by simp; omega)]; rfl
   rw [e];refine .fn f ts _ (fun j t hj=> ?_);have hjl:j<caps.length:=by have:=(Qx.1 hj).1; omega
   have h1:=hg j _ t (Qq hjl) hj;have h2:=hv j _ vs[j] (Qq hjl) (Qq (by omega));have h3:vs.getD j undef=vs[j]:=by simp [Qq (show j<vs.length by omega)]
   rw [h3];cases hc:caps[j] with
   | ptr id off=>rw [hc] at h1; simp [B8t] at h1
   | ref id k off len cap=>rw [hc] at h1; simp [B8t] at h1
   | tree t'=>rw [hc] at h1 h2; simp [B8t] at h1; subst h1; exact h2
 | any=>simp [A0a] at ht
 | ptr _ _=>simp [A0a] at ht
 | ref _ _ _ _ _=>simp [A0a] at ht
 | yld _=>simp [A0a] at ht
 | nilp=>simp [A0a] at ht
 | map _=>simp [A0a] at ht
 | iter _=>simp [A0a] at ht
 | rows _ _=>simp [A0a] at ht
 | rptrC _=>simp [A0a] at ht
 | vec _ _ _=>simp [A0a] at ht
end
variable {α:Type}
def chunks (size n:Nat) (l:List α):List (List α):=(List.range n).map fun i=>(l.drop (i*size)).take size
def A2T {size n:Nat} {l:List α} {i:Nat} {r:List α} (h:(chunks size n l)[i]? =some r):i<n∧r=(l.drop (i*size)).take size:=by
 unfold chunks at h;simp only [QQ] at h;by_cases hi:i<n
 ·rw [Yv hi] at h; simp at h; exact ⟨hi,h.symm⟩
 ·rw [Xq (by simp; omega)] at h; cases h
def TRel.ofCells {S:Nat->Nat->Prop} {w:World} (b off k c:Nat) (rows:List (List Tree)) (hn:rows.length≤c) (hk: ∀r,r∈rows->r.length=k)
  (h: ∀i r j t,rows[i]? =some r->r[j]? =some t-> ∃u,S b (off+(i*k+j))∧w.cell? ⟨b,off+(i*k+j),none⟩=some u∧TRel S w t u):
  TRel S w (.slice rows) (.slice (some ⟨b,off,none⟩) rows.length c):=by
 refine .slice b off k c rows (fun i j=>(w.cell? ⟨b,off+(i*k+j),none⟩).getD undef) hn hk (fun i r j t h1 h2=> ?_) (fun i r j t h1 h2=> ?_)
 ·obtain ⟨u,hS,hu,_⟩:=h i r j t h1 h2;exact ⟨hS,by rw [hu]; rfl⟩
 ·obtain ⟨u,_,hu,ht⟩:=h i r j t h1 h2;rw [hu]; exact ht
def B8u (p:Nat->Option (Nat×Nat)): ∀(vp:List (Nat×Value)) (arr arr':Array Value),Instr.fill p arr vp=some arr'->arr'.size=arr.size:=by
 intro vp
 induction vp with
 | nil=>intro arr arr' h; simp [Instr.fill] at h; rw [h]
 | cons q vp ih=>
  intro arr arr' h;obtain ⟨i,v⟩:=q;unfold Instr.fill at h;split at h
  ·cases h
  ·split at h
   ·cases h
   ·rw [ih _ _ h,<-Array.foldl_toList,Array.toList_zipIdx,A5G]
section ops
variable {P:Program} {rd:Option Nat} {o:Oper} {ρ:Operand->AVal} {H:List Blk}
def A2h (t:TypeId) (len:Nat) (ps:Array (Nat×Operand)) (ho:o.op= .buildSlice t len ps) (e:TypeId) (he:A03 P t=some (none,e)) (size:Nat) (hs:A0u P e=some size) (z:Value) (hz:A01 P e=some z)
  (parts:List (Nat×List ACell)) (hp:partsOf ρ ps.toList=some parts) (cs:List ACell) (hf:A89 (fun i=>some (i*size,size)) (List.replicate (len*size) .any) parts=some cs)
  (ts:List Tree) (hts:cs.mapM A0a=some ts) (hmax:len*size≤16777216):AStep P rd o ρ H (.c (.slice (chunks size len ts) .exact)) H:=by
 refine AStep.turn (by simp [ho]) fun ι σ a w hx' hH=> ?_;have hu:=A0w he;obtain ⟨i,hi,hsz⟩: ∃i,P.info? e=some i∧i.size=size:=by
  unfold A0u at hs;cases hi:P.info? e with
  | none=>simp [hi] at hs
  | some i=>simp [hi] at hs; exact ⟨i,rfl,hs⟩
 have hz':i.zero=some z:=by unfold A01 at hz; simpa [hi] using hz
 obtain ⟨hl,hpp⟩:=A7F hp;let zc:Array Value:=if len*size=0 then #[] else z.cells
 let arr0:Array Value:=(Array.range (len*size)).map (zc[·%zc.size]!);obtain ⟨arr',h1,h2⟩:=B5t (ι:=ι) (σ:=σ) (w:=w) (H:=H) (fun i=>some (i*size,size)) parts (ps.toList.map fun (i,x)=>(i,a.eval x)) (List.replicate (len*size) .any) cs arr0
  ⟨by simp [arr0],fun j c u e1 e2=>by
   have:c= .any:=by
    have:=Qv e1;exact (Wq.1 this).2
   subst this; trivial⟩ (by simp [hl]) (fun j i l i' v e1 e2=>by
  simp only [QQ] at e2;cases hj:ps.toList[j]? with
  | none=>simp [hj] at e2
  | some q=>
   obtain ⟨i2,x⟩:=q;simp [hj] at e2;obtain ⟨rfl,rfl⟩:=e2;obtain ⟨e3,e4⟩:=hpp j i l i2 x e1 hj;refine ⟨e3,A14 (hx' x ?_) e4⟩;simp only [Op.operands,ho];simp only [List.mem_toArray,QY]
   exact ⟨(i2,x),Qv hj,rfl⟩) hf
 have hw: ∀b,b<w.heap.size->(w.alloc (.cells arr' e)).heap[b]? =w.heap[b]? :=fun b hb=>Below.heap_alloc w _ b hb;have hsg: ∀b o,b<w.heap.size->(σ.new w.heap.size .stable) b o=σ b o:=fun b o hb=>by simp [Sig.new,Qx5 hb]
 have hszw:w.heap.size≤(w.alloc (.cells arr' e)).heap.size:=by simp
 have M:Mono ι σ w H (ι++[]) (σ.new w.heap.size .stable) (w.alloc (.cells arr' e)) (H++[]):=Mono.grow hw hsg [] [];have hH':=hH.grow hw hsg ⟨rfl,rfl,rfl,hszw,Qk _⟩ [] [] rfl (fun j blk b h1 _=>by simp at h1);simp only [WX] at M hH';have hnew:(w.alloc (.cells arr' e)).heap[w.heap.size]? =some (.cells arr' e):=A5o w _;have hfull:cs.length=len*size:=by
  have:arr'.size=arr0.size:=B8u _ _ _ _ h1;rw [<-h2.1,this]; simp [arr0]
 obtain ⟨htl,htg⟩:=A08 hts;refine ⟨.slice (some ⟨w.heap.size,0,none⟩) len len,_,ι,σ.new w.heap.size .stable,.inl ?_,⟨?_,⟨_,_,rfl⟩⟩,hH',M,Ext.grow rfl rfl rfl hszw hw hsg (Qk _)⟩
 ·have hn: ¬(16777216<len*size):=by omega
  have h1':Instr.fill (fun i=>some (i*size,size)) arr0 (ps.map fun (i,x)=>(i,a.eval x)).toList=some arr':=by rw [Array.toList_map]; exact h1
  simp only [execOp,ho,Instr.buildSlice,Sem.run_bind,run_underlying hu,Result.andThen_ok,A1Q hs];have h1'':Instr.fill (fun i=>some (i*size,size)) ((Array.range (len*size)).map (zc[·%zc.size]!)) (ps.map fun (i,x)=>(i,a.eval x)).toList=some arr':=h1';rw [if_neg (by omega)];by_cases hq:len*size=0
  ·have ez:zc= #[]:=by simp [zc,hq]
   rw [ez] at h1'';rw [if_pos hq];simp only [Sem.run_bind,Sem.run_pure,Result.andThen_ok,h1''];rfl
  ·have ez:zc=z.cells:=by simp [zc,hq]
   have hzv:(zeroValue e).run P w= .ok z w:=by simp [zeroValue,typeInfo,hi,hz']
   rw [ez] at h1'';rw [if_neg hq];simp only [Sem.run_bind,Sem.run_pure,hzv,Result.andThen_ok,h1''];rfl
 ·have e1:(chunks size len ts).length=len:=by simp [chunks]
  have:=TRel.ofCells (S:=Stab (σ.new w.heap.size .stable)) (w:=w.alloc (.cells arr' e)) w.heap.size 0 size len (chunks size len ts) (by omega) (fun r hr=>by
   obtain ⟨i,hri⟩:=Zj.1 hr;obtain ⟨hlt,rfl⟩:=A2T hri;have:(i+1)*size≤len*size:=YJ _ hlt;rw [Vx] at this
   simp; omega) (fun i r j t h3 h4=>by
   obtain ⟨hlt,rfl⟩:=A2T h3;have hj:j<size:=by have:=(Qx.1 h4).1; simp at this; omega
   rw [Xx hj,YX] at h4;have hq:i*size+j<arr'.size:=by have:=(Qx.1 h4).1; rw [h2.1]; omega
   have hqc:i*size+j<cs.length:=by rw [<-h2.1]; exact hq
   refine ⟨arr'[i*size+j],by simp [Stab,Sig.new],by unfold World.cell?; rw [hnew]; simp [QZ hq],?_⟩
   exact M.t (A0y (h2.2 _ _ _ (Qq hqc) (QZ hq)) (htg _ _ _ (Qq hqc) h4)))
  rw [e1] at this;exact this
end ops
inductive TVal where
 | t (x:Tree)
 | agg (cs:List Tree)
 | tup (vs:List TVal)
def A41 (S:Nat->Nat->Prop) (w:World):TVal->Value->Prop
 | .t x,v=>TRel S w x v
 | .agg cs,v=> ∃vs:Array Value,v= .agg vs∧vs.size=cs.length∧ ∀(j:Nat) c u,cs[j]? =some c->vs[j]? =some u->TRel S w c u
 | .tup _,_=>False
def TVRel (S:Nat->Nat->Prop) (w:World):TVal->Value->Prop
 | .t x,v=>TRel S w x v
 | .agg cs,v=> ∃vs:Array Value,v= .agg vs∧vs.size=cs.length∧ ∀(j:Nat) c u,cs[j]? =some c->vs[j]? =some u->TRel S w c u
 | .tup xs,v=> ∃vs:Array Value,v= .tuple vs∧vs.size=xs.length∧ ∀(j:Nat) x u,xs[j]? =some x->vs[j]? =some u->A41 S w x u
def A3v:TVal->AVal
 | .t x=> .c (A0v x)
 | .agg cs=> .agg (cs.map A0v)
 | .tup _=> .c .any
def ofT:TVal->AVal
 | .t x=> .c (A0v x)
 | .agg cs=> .agg (cs.map A0v)
 | .tup xs=> .tup (xs.map A3v)
def TVal.flat1:TVal->Bool
 | .t x=>x.flat
 | .agg cs=>cs.all Tree.flat
 | .tup _=>false
def TVal.flat:TVal->Bool
 | .t x=>x.flat
 | .agg cs=>cs.all Tree.flat
 | .tup xs=>xs.all TVal.flat1
section
variable {S S':Nat->Nat->Prop} {w w':World}
def A41.mono {x:TVal} {v:Value} (h:A41 S w x v) (hS: ∀b o u,S b o->w.cell? ⟨b,o,none⟩=some u->S' b o∧w'.cell? ⟨b,o,none⟩=some u):A41 S' w' x v:=by
 cases x with
 | t x=>exact TRel.mono h hS
 | agg cs=>obtain ⟨vs,e,hl,h⟩:=h; exact ⟨vs,e,hl,fun j c u h1 h2=>(h j c u h1 h2).mono hS⟩
 | tup xs=>exact h
def TVRel.mono {x:TVal} {v:Value} (h:TVRel S w x v) (hS: ∀b o u,S b o->w.cell? ⟨b,o,none⟩=some u->S' b o∧w'.cell? ⟨b,o,none⟩=some u):TVRel S' w' x v:=by
 cases x with
 | t x=>exact TRel.mono h hS
 | agg cs=>obtain ⟨vs,e,hl,h⟩:=h; exact ⟨vs,e,hl,fun j c u h1 h2=>(h j c u h1 h2).mono hS⟩
 | tup xs=>obtain ⟨vs,e,hl,h⟩:=h; exact ⟨vs,e,hl,fun j c u h1 h2=>(h j c u h1 h2).mono hS⟩
def A41.of_flat {x:TVal} {v:Value} (hf:x.flat1=true) (h:A41 S w x v):A41 S' w' x v:=by
 cases x with
 | t x=>exact TRel.of_flat hf h
 | agg cs=>
  obtain ⟨vs,e,hl,h⟩:=h;exact ⟨vs,e,hl,fun j c u h1 h2=>TRel.of_flat (by simp only [TVal.flat1,ZX] at hf; exact hf c (Qv h1)) (h j c u h1 h2)⟩
 | tup xs=>exact h
def TVRel.of_flat {x:TVal} {v:Value} (hf:x.flat=true) (h:TVRel S w x v):TVRel S' w' x v:=by
 cases x with
 | t x=>exact TRel.of_flat hf h
 | agg cs=>
  obtain ⟨vs,e,hl,h⟩:=h;exact ⟨vs,e,hl,fun j c u h1 h2=>TRel.of_flat (by simp only [TVal.flat,ZX] at hf; exact hf c (Qv h1)) (h j c u h1 h2)⟩
 | tup xs=>
  obtain ⟨vs,e,hl,h⟩:=h;exact ⟨vs,e,hl,fun j c u h1 h2=>A41.of_flat (by simp only [TVal.flat,ZX] at hf; exact hf c (Qv h1)) (h j c u h1 h2)⟩
end
section
variable {ι:List Nat} {σ:Sig} {w:World} {H:List Blk}
def A5O {cs:List Tree} {vs:Array Value} (hl:vs.size=cs.length) (h: ∀(j:Nat) c u,cs[j]? =some c->vs[j]? =some u->TRel (Stab σ) w c u):A0I ι σ w H (cs.map A0v) vs:=by
 refine ⟨by simp [hl],fun j c u h1 h2=> ?_⟩;simp only [QQ] at h1;cases hc:cs[j]? with
 | none=>simp [hc] at h1
 | some t=>simp [hc] at h1; subst h1; exact A0C (h j t u hc h2)
def C1P {x:TVal} {v:Value} (h:A41 (Stab σ) w x v):A2F ι σ w H (A3v x) v:=by
 cases x with
 | t x=>exact A0C h
 | agg cs=>obtain ⟨vs,e,hl,h⟩:=h; exact ⟨vs,e,A5O hl h⟩
 | tup xs=>exact h.elim
def A3b {x:TVal} {v:Value} (h:TVRel (Stab σ) w x v):VRel ι σ w H (ofT x) v:=by
 cases x with
 | t x=>exact A0C h
 | agg cs=>obtain ⟨vs,e,hl,h⟩:=h; exact ⟨vs,e,A5O hl h⟩
 | tup xs=>
  obtain ⟨vs,e,hl,h⟩:=h;refine ⟨vs,e,by simp [hl],fun j x u h1 h2=> ?_⟩;simp only [QQ] at h1;cases hc:xs[j]? with
  | none=>simp [hc] at h1
  | some t=>simp [hc] at h1; subst h1; exact C1P (h j t u hc h2)
end
def A0b (H:List Blk):ACell->Option Tree
 | .ptr id off=>match H[id]? with
  | some blk=>blk.cells.bind fun cs=>((cs.drop off).mapM A0a).map .rptr
  | none=>none
 | .ref id k off len cap=>match H[id]? with
  | some blk=>blk.cells.bind fun cs=>if len≤cap∧off+len*k≤cs.length then (((cs.drop off).take (len*k)).mapM A0a).map fun ts=> .slice (chunks k len ts) else none
  | none=>none
 | c=>A0a c
def Open (σ:Sig) (b o:Nat):Prop:=σ b o≠ .foreign
section
variable {ι:List Nat} {σ:Sig} {w:World} {H:List Blk}
def TRel.opened {t:Tree} {v:Value} (h:TRel (Stab σ) w t v):TRel (Open σ) w t v:=h.mono fun b o u h1 h2=>⟨by simp [Open,show σ b o= .stable from h1],h2⟩
def B2x {id b:Nat} {blk:Blk} (hH:HRel ι σ w H) (hb:H[id]? =some blk) (hi:ι[id]? =some b) {cs:List ACell} (hcs:blk.cells=some cs) {j:Nat} {c:ACell} (hj:cs[j]? =some c):
  ∃v,w.cell? ⟨b,j,none⟩=some v∧CRel ι σ w H c v∧Open σ b j:=by
 have:=hH.2 id blk b hb hi;cases blk with
 | box cs'=>simp [Blk.cells] at hcs; subst hcs; obtain ⟨q1,_,v,q2,q3⟩:=this.2 j c hj; exact ⟨v,q2,q3,by simp [Open,q1]⟩
 | ro ts=>
  simp [Blk.cells] at hcs; subst hcs;simp only [QQ] at hj;cases ht:ts[j]? with
  | none=>simp [ht] at hj
  | some t=>simp [ht] at hj; subst hj; obtain ⟨q1,v,hv,hr⟩:=this j t ht; exact ⟨v,hv,A0C hr,by simp [Open,q1]⟩
 | roC ts=>
  simp [Blk.cells] at hcs; subst hcs;simp only [QQ] at hj;cases ht:ts[j]? with
  | none=>simp [ht] at hj
  | some t=>simp [ht] at hj; subst hj; obtain ⟨q1,v,hv,hr⟩:=this j t ht; exact ⟨v,hv,A5M hr,by simp [Open,q1]⟩
 | chain _ _=>simp [Blk.cells] at hcs
 | dead=>simp [Blk.cells] at hcs
 | map _=>simp [Blk.cells] at hcs
 | iter _ _ _=>simp [Blk.cells] at hcs
 | ghost _=>simp [Blk.cells] at hcs
def A8A (hH:HRel ι σ w H) {c:ACell} {t:Tree} {v:Value} (h:CRel ι σ w H c v) (ht:A0b H c=some t):TRel (Open σ) w t v:=by
 cases c with
 | ptr id off=>
  obtain ⟨b,hi,rfl⟩:=h;simp only [A0b] at ht;cases hb:H[id]? with
  | none=>simp [hb] at ht
  | some blk=>
   simp only [hb] at ht;cases hcs:blk.cells with
   | none=>simp [hcs] at ht
   | some cs=>
    simp only [hcs,Option.bind_some] at ht;cases hm:(cs.drop off).mapM A0a with
    | none=>simp [hm] at ht
    | some ts=>
     simp [hm] at ht; subst ht;obtain ⟨hl,hg⟩:=A08 hm;have key: ∀j t,ts[j]? =some t-> ∃u,Open σ b (off+j)∧w.cell? ⟨b,off+j,none⟩=some u∧TRel (Open σ) w t u:=fun j t hj=>by
      have hlt:j<(cs.drop off).length:=by have:=(Qx.1 hj).1; omega
      have hc:=Qq hlt;have hc':=hc;rw [YX] at hc';obtain ⟨u,q1,q2,q3⟩:=B2x hH hb hi hcs hc';exact ⟨u,q3,q1,(A0y q2 (hg j _ t hc hj)).opened⟩
     exact .rptr b off ts (fun j=>(w.cell? ⟨b,off+j,none⟩).getD undef) (fun j t hj=>by obtain ⟨u,q1,q2,_⟩:=key j t hj; exact ⟨q1,by rw [q2]; rfl⟩)
      (fun j t hj=>by obtain ⟨u,q1,q2,q3⟩:=key j t hj; rw [q2]; exact q3)
 | ref id k off len cap=>
  obtain ⟨b,hi,cap',hcap',rfl⟩:=h;simp only [A0b] at ht;cases hb:H[id]? with
  | none=>simp [hb] at ht
  | some blk=>
   simp only [hb] at ht;cases hcs:blk.cells with
   | none=>simp [hcs] at ht
   | some cs=>
    simp only [hcs,Option.bind_some] at ht;by_cases hcond:len≤cap∧off+len*k≤cs.length
    ·rw [if_pos hcond] at ht;cases hm:((cs.drop off).take (len*k)).mapM A0a with
     | none=>simp [hm] at ht
     | some ts=>
      simp [hm] at ht; subst ht;obtain ⟨hl,hg⟩:=A08 hm;have e1:(chunks k len ts).length=len:=by simp [chunks]
      have hl':ts.length=len*k:=by rw [hl]; simp; omega
      have:=TRel.ofCells (S:=Open σ) (w:=w) b off k cap' (chunks k len ts) (by omega) (fun r hr=>by
       obtain ⟨i,hri⟩:=Zj.1 hr;obtain ⟨hlt,rfl⟩:=A2T hri;have:(i+1)*k≤len*k:=YJ _ hlt;rw [Vx] at this
       simp; omega) (fun i r j t h3 h4=>by
       obtain ⟨hlt,rfl⟩:=A2T h3;have hj:j<k:=by have:=(Qx.1 h4).1; simp at this; omega
       rw [Xx hj,YX] at h4;have hq:i*k+j<len*k:=by have:=(Qx.1 h4).1; omega
       have hlt2:i*k+j<((cs.drop off).take (len*k)).length:=by rw [<-hl]; omega
       have hc:=Qq hlt2;have hc':=hc;rw [Xx hq,YX] at hc';obtain ⟨u,q1,q2,q3⟩:=B2x hH hb hi hcs hc'
       exact ⟨u,q3,q1,(A0y q2 (hg _ _ t hc h4)).opened⟩)
      rw [e1] at this;exact this
    ·rw [if_neg hcond] at ht; cases ht
 | any=>simp [A0b,A0a] at ht
 | int k n=>exact (A0y h ht).opened
 | bool b=>exact (A0y h ht).opened
 | str s=>exact (A0y h ht).opened
 | slice rows tok=>exact (A0y h ht).opened
 | nils=>exact (A0y h ht).opened
 | rptr cells=>exact (A0y h ht).opened
 | fn f caps=>exact (A0y h ht).opened
 | bfn _ _=>simp [A0b,A0a] at ht
 | yld l=>simp [A0b,A0a] at ht
 | nilf=>exact (A0y h ht).opened
 | raw u=>exact (A0y h ht).opened
 | nilp=>simp [A0b,A0a] at ht
 | map _=>simp [A0b,A0a] at ht
 | iter _=>simp [A0b,A0a] at ht
 | rows _ _=>simp [A0b,A0a] at ht
 | rptrC _=>simp [A0b,A0a] at ht
 | vec _ _ _=>simp [A0b,A0a] at ht
end
def A0d (H:List Blk):ACell->Option Tree
 | .fn f caps=>(caps.mapM fun c=>A0b H (A0c c)).map (.fn f)
 | c=>A0b H c
def A5p (hH:HRel ι σ w H) {c:ACell} {t:Tree} {v:Value} (h:CRel ι σ w H c v) (ht:A0d H c=some t):TRel (Open σ) w t v:=by
 unfold A0d at ht;split at ht
 ·rename_i f caps;cases hm:caps.mapM fun c=>A0b H (A0c c) with
  | none=>simp [hm] at ht
  | some ts=>
   simp [hm] at ht; subst ht;obtain ⟨vs,rfl,hl,hv⟩:=h;obtain ⟨m1,m2⟩:=A08 hm;have e:vs.toArray=((List.range ts.length).map fun i=>vs[i]?.getD undef).toArray:=by
    congr 1;apply Zq;intro i;simp only [QQ,List.getElem?_range'];by_cases hi:i<vs.length
    ·have:i<ts.length:=by omega
     simp [this,hi]
    ·have: ¬i<ts.length:=by omega
     simp [this,hi]
   rw [e];refine .fn f ts _ fun j t hj=> ?_;have hlt:j<caps.length:=by have:=(Qx.1 hj).1; omega
   have hc:=Qq hlt;have hvl:j<vs.length:=by omega
   have hq:=hv j _ _ hc (Qq hvl);simp only [Qq hvl,Option.getD_some];refine A8A hH (c:=A0c caps[j]) ?_ (m2 j _ t hc hj);cases hcap:caps[j] with
   | ptr id off=>rw [hcap] at hq; exact hq
   | tree t=>rw [hcap] at hq; exact A0C hq
   | ref id k off len cap=>rw [hcap] at hq; exact hq
 ·exact A8A hH h ht
def A0p (f:ACell->Option Tree):AVal->Option TVal
 | .c x=>(f x).map .t
 | .agg cs=>(cs.mapM f).map .agg
 | .tup _=>none
def toT (f:ACell->Option Tree):AVal->Option TVal
 | .c x=>(f x).map .t
 | .agg cs=>(cs.mapM f).map .agg
 | .tup xs=>(xs.mapM (A0p f)).map .tup
section
variable {ι:List Nat} {σ:Sig} {w:World} {H:List Blk} {f:ACell->Option Tree} {S:Nat->Nat->Prop}
def A5q (hf: ∀c t v,CRel ι σ w H c v->f c=some t->TRel S w t v) {x:AVal} {y:TVal} {v:Value} (h:A2F ι σ w H x v) (hy:A0p f x=some y):A41 S w y v:=by
 cases x with
 | c x=>
  simp only [A0p] at hy;cases hx:f x with
  | none=>simp [hx] at hy
  | some t=>simp [hx] at hy; subst hy; exact hf _ _ _ h hx
 | agg cs=>
  simp only [A0p] at hy;cases hx:cs.mapM f with
  | none=>simp [hx] at hy
  | some ts=>
   simp [hx] at hy; subst hy;obtain ⟨vs,e,hl,h⟩:=h;obtain ⟨h1,h2⟩:=A08 hx;refine ⟨vs,e,by rw [hl,h1],fun j c u q1 q2=> ?_⟩;have hlt:j<cs.length:=by have:=(Qx.1 q1).1; omega
   have hc:=Qq hlt;exact hf _ _ _ (h j _ u hc q2) (h2 j _ c hc q1)
 | tup xs=>exact h.elim
def A4E (hf: ∀c t v,CRel ι σ w H c v->f c=some t->TRel S w t v) {x:AVal} {y:TVal} {v:Value} (h:VRel ι σ w H x v) (hy:toT f x=some y):TVRel S w y v:=by
 cases x with
 | c x=>
  simp only [toT] at hy;cases hx:f x with
  | none=>simp [hx] at hy
  | some t=>simp [hx] at hy; subst hy; exact hf _ _ _ h hx
 | agg cs=>
  have:=A5q (x:= .agg cs) (y:=y) hf h hy;cases y with
  | t x=>exact this
  | agg cs=>exact this
  | tup xs=>exact this.elim
 | tup xs=>
  simp only [toT] at hy;cases hx:xs.mapM (A0p f) with
  | none=>simp [hx] at hy
  | some ts=>
   simp [hx] at hy; subst hy;obtain ⟨vs,e,hl,h⟩:=h;obtain ⟨h1,h2⟩:=A08 hx;refine ⟨vs,e,by rw [hl,h1],fun j c u q1 q2=> ?_⟩;have hlt:j<xs.length:=by have:=(Qx.1 q1).1; omega
   have hc:=Qq hlt;exact A5q hf (h j _ u hc q2) (h2 j _ c hc q1)
end
structure ACall (P:Program) (f:FuncId) (args:List TVal) (r:TVal):Prop where
 enters: ∀args w,(callFunc f args).run P w= .ok (.enter f args) w
 runs: ∀(S:Nat->Nat->Prop) (w:World) (vs:List Value),vs.length=args.length->(∀(j:Nat) x u,args[j]? =some x->vs[j]? =some u->TVRel S w x u)->
  Calls P f vs.toArray w fun e w'=> ∃v,e= .returned v∧TVRel (fun b o=>S b o∨w.heap.size≤b) w' r v∧Below w.heap.size w w'∧w.drawn≤w'.drawn
structure ACallH (P:Program) (f:FuncId) (H:List Blk) (args:List AVal) (H':List Blk) (r:AVal):Prop where
 enters: ∀args w,(callFunc f args).run P w= .ok (.enter f args) w
 runs: ∀ι σ (w:World) (vs:List Value),HRel ι σ w H->vs.length=args.length->(∀(j:Nat) x u,args[j]? =some x->vs[j]? =some u->VRel ι σ w H x u)->
  Calls P f vs.toArray w fun e w'=> ∃v ι' σ',e= .returned v∧VRel ι' σ' w' H' r v∧HRel ι' σ' w' H'∧Mono ι σ w H ι' σ' w' H'∧Ext σ w σ' w'
def A4h (hH:HRel ι σ w H) (hb:Below w.heap.size w w') (hd:w.drawn≤w'.drawn):
  ∃σ',(∀b o,b<w.heap.size->σ' b o=σ b o)∧(∀b o,w.heap.size≤b->σ' b o= .stable)∧HRel ι σ' w' H∧Mono ι σ w H ι σ' w' H∧Ext σ w σ' w':=by
 have hs: ∀b o,b<w.heap.size->(fun b o=>if b<w.heap.size then σ b o else Own.stable) b o=σ b o:=fun b o h=>by simp [h]
 have hw: ∀b,b<w.heap.size->w'.heap[b]? =w.heap[b]? :=fun b h=>hb.block b h;have M:=Mono.grow (ι:=ι) (H:=H) hw hs [] [];have hH':=hH.grow hw hs ⟨hb.os,hb.tape,hb.output,hb.size,hd⟩ [] [] rfl (fun j blk b h1 _=>by simp at h1);simp only [WX] at M hH';exact ⟨_,hs,fun b o h=>by simp [Qx0.2 h],hH',M,Ext.grow hb.os hb.tape hb.output hb.size hw hs hd⟩
def ACall.h {P:Program} {f:FuncId} {ts:List TVal} {r:TVal} (h:ACall P f ts r) {H:List Blk} {args:List AVal} (ha:args.mapM (toT A0a)=some ts):ACallH P f H args H (ofT r):=by
 refine ⟨h.enters,fun ι σ w vs hH hl hv=> ?_⟩;obtain ⟨e1,e2⟩:=A08 ha;refine (h.runs (Stab σ) w vs (by omega) (fun j x u h1 h2=> ?_)).mono ?_
 ·have hlt:j<args.length:=by have:=(Qx.1 h1).1; omega
  have hc:=Qq hlt;exact A4E (fun c t v h3 h4=>A0y h3 h4) (hv j _ u hc h2) (e2 j _ x hc h1)
 ·rintro e w' ⟨v,rfl,hr,hb,hd⟩;obtain ⟨σ',hs,hn,hH',M,hE⟩:=A4h hH hb hd;refine ⟨v,ι,σ',rfl,A3b (hr.mono fun b o u h1 h2=>⟨?_,h2⟩),hH',M,hE⟩;by_cases hlt:b<w.heap.size
  ·rcases h1 with h1 | h1
   ·exact (hs b o hlt).trans h1
   ·omega
  ·exact hn b o (by omega)
def ACall.hb {P:Program} {f:FuncId} {ts:List TVal} {r:TVal} (h:ACall P f ts r) {H:List Blk} {args:List AVal} (ha:args.mapM (toT (A0d H))=some ts) (hf:r.flat=true):ACallH P f H args H (ofT r):=by
 refine ⟨h.enters,fun ι σ w vs hH hl hv=> ?_⟩;obtain ⟨e1,e2⟩:=A08 ha;refine (h.runs (Open σ) w vs (by omega) (fun j x u h1 h2=> ?_)).mono ?_
 ·have hlt:j<args.length:=by have:=(Qx.1 h1).1; omega
  have hc:=Qq hlt;exact A4E (fun c t v h3 h4=>A5p hH h3 h4) (hv j _ u hc h2) (e2 j _ x hc h1)
 ·rintro e w' ⟨v,rfl,hr,hb,hd⟩;obtain ⟨σ',hs,hn,hH',M,hE⟩:=A4h hH hb hd;exact ⟨v,ι,σ',rfl,A3b (hr.of_flat hf),hH',M,hE⟩
section ops
variable {P:Program} {rd:Option Nat} {o:Oper} {ρ:Operand->AVal} {H H':List Blk}
def A4F:ACap->AVal
 | .ptr id off=> .c (.ptr id off)
 | .tree t=> .c (A0v t)
 | .ref id k off len cap=> .c (.ref id k off len cap)
def B0g {c:ACap} {v:Value} (h:KRel ι σ w c v):VRel ι σ w H (A4F c) v:=by
 cases c with
 | ptr id off=>exact h
 | tree t=>exact A0C h
 | ref id k off len cap=>exact h
def A3c (fo:Operand) (xs:Array Operand) (ts:Array TypeId) (ho:o.op= .call { callee:= .value fo,args:=xs,argTypes:=ts }) (f:FuncId) (caps:List ACap) (hf:ρ fo= .c (.fn f caps)) (r:AVal)
  (h:ACallH P f H (xs.toList.map ρ++caps.map A4F) H' r):AStep P rd o ρ H r H':=by
 intro ι σ a w hx hH _ next Q hn;have hfv:=hx fo (by simp [Op.operands,Call.operands,ho]);rw [hf] at hfv;obtain ⟨vs,e,hl,hv⟩:=hfv;refine ⟨fun _ _=>trivial,?_⟩;rw [Oper.semAt_eq _ _ _ (by simp [ho])];have hrun:(execOp a.eval o).run P w= .ok (.enter f (xs.map a.eval++vs.toArray)) w:=by
  simp [execOp,ho,resolve,e,Deferred.ofValue,invoke,h.enters]
 rw [hrun];refine ⟨fun h=>by simp [Fr] at h,?_⟩;have hc:Calls P f (xs.map a.eval++vs.toArray) w fun e w'=> ∃v ι' σ',e= .returned v∧VRel ι' σ' w' H' r v∧HRel ι' σ' w' H'∧Mono ι σ w H ι' σ' w' H'∧Ext σ w σ' w':=by
  have:=h.runs ι σ w (xs.toList.map a.eval++vs) hH (by simp [hl]) (fun j x u h1 h2=>by
   by_cases hj:j<xs.size
   ·rw [Qw (by simpa using hj)] at h1 h2;simp only [QQ] at h1 h2;have hq:=QZ hj;rw [<-WY] at hq;rw [hq] at h1 h2;simp at h1 h2;subst h1; subst h2;refine hx _ ?_;simp [Op.operands,Call.operands,ho]
   ·rw [QW (by simp; omega)] at h1 h2;simp only [QQ,XW,Array.length_toList] at h1 h2;cases hc:caps[j-xs.size]? with
    | none=>simp [hc] at h1
    | some c=>simp [hc] at h1; subst h1; exact B0g (hv _ c u hc h2))
  rw [show (xs.toList.map a.eval++vs).toArray=xs.map a.eval++vs.toArray by apply JW; simp] at this;exact this
 have hc2:CallsIn (Fr rd) (9-1) P f (xs.map a.eval++vs.toArray) w _:=(callsIn_wide (n:=9-1)).2 hc;refine hc2.mono ?_;rintro e w' ⟨v,ι',σ',rfl,h1,h2,h3,h4⟩;exact hn v w' ι' σ' h1 h2 h3 h4
end ops
def MarksOK (N:Nat) (ds:List Deferred) (σ:Sig) (w:World):Prop:=
 ∃Ds:List Nat,ds=Ds.map (fun D=>{ target:= .collected D,args:= #[] })∧Ds.Nodup∧
  ∀D,D∈Ds->N≤D∧D<w.heap.size∧w.heap[D]? =some (.deferred (some []))∧ ∀o,σ D o= .foreign
def MarksOK.nil (N:Nat) (σ:Sig) (w:World):MarksOK N [] σ w:=⟨[],rfl,by simp,by simp⟩
def MarksOK.ext {N:Nat} {ds:List Deferred} (h:MarksOK N ds σ w) (e:Ext σ w σ' w'):MarksOK N ds σ' w':=by
 obtain ⟨Ds,h1,h2,h3⟩:=h;refine ⟨Ds,h1,h2,fun D hD=> ?_⟩;obtain ⟨q1,q2,q3,q4⟩:=h3 D hD;obtain ⟨e1,_⟩:=e.obj D q2 (fun o id=>by rw [q4 o]; simp);exact ⟨q1,ZW q2 e.size,e1.trans q3,fun o=>e.back D o q2 (q4 o)⟩
def RdOK.ext (h:RdOK rd σ w) (e:Ext σ w σ' w'):RdOK rd σ' w':=fun l hl=>
 let ⟨q1,q2,r,q3⟩:=h l hl
 ⟨ZW q1 e.size,fun o=>e.back l o q1 (q2 o),r,(e.obj l q1 (fun o id=>by rw [q2 o]; simp)).1.trans q3⟩
structure SRel (ι:List Nat) (σ:Sig) (st:St) (a:Act) (w:World):Prop where
 tmps:TmpsRel ι σ w st.heap st.tmps a.tmps
 heap:HRel ι σ w st.heap
def APost (N h:Nat) (ι:List Nat) (σ:Sig) (w:World) (H:List Blk) (Q:Exit->St->Prop):Exit->Act->World->Prop:=fun e a' w'=>
 ∃ι' σ' st',Q e st'∧SRel ι' σ' st' a' w'∧Ext σ w σ' w'∧Mono (ι.take h) σ w (H.take h) ι' σ' w' st'.heap∧MarksOK N a'.defers σ' w'
structure AWp (P:Program) (rd:Option Nat) (h:Nat) (c:Code) (Q:Exit->St->Prop) (st:St):Prop where
 out: ∀N ι σ a w,SRel ι σ st a w->RdOK rd σ w->N≤w.heap.size->MarksOK N a.defers σ w->c.wpIn (Fr rd) 9 P (APost N h ι σ w st.heap Q) a w
variable {c:Code}
section
variable {P:Program} {rd:Option Nat} {h:Nat} {Q:Exit->St->Prop} {st:St}
def Mono.take {ι ι':List Nat} (h:Nat) (m:Mono ι σ w H ι' σ' w' H'):Mono (ι.take h) σ w (H.take h) ι' σ' w' H':=by
 refine ⟨m.stab,fun id b hi=>m.iota id b ?_,fun id tip k hi=>m.chain id tip k ?_⟩
 ·by_cases hlt:id<h
  ·rwa [Xx hlt] at hi
  ·rw [Xq (by simp; omega)] at hi; cases hi
 ·by_cases hlt:id<h
  ·rwa [Xx hlt] at hi
  ·rw [Xq (by simp; omega)] at hi; cases hi
def A1T {l:List α} {h id:Nat} {b:α} (hi:(l.take h)[id]? =some b):id<h∧l[id]? =some b:=by
 by_cases hlt:id<h
 ·rw [Xx hlt] at hi; exact ⟨hlt,hi⟩
 ·rw [Xq (by simp; omega)] at hi; cases hi
def Mono.take2 {ι ι' ι'':List Nat} {σ σ' σ'':Sig} {w w' w'':World} {H H' H'':List Blk} {h:Nat} (m:Mono (ι.take h) σ w (H.take h) ι' σ' w' H') (m':Mono (ι'.take h) σ' w' (H'.take h) ι'' σ'' w'' H''):
  Mono (ι.take h) σ w (H.take h) ι'' σ'' w'' H'':=by
 refine Mono.trans (H':=H'.take h) (ι':=ι'.take h) ⟨m.stab,fun id b hi=> ?_,fun id tip k hi=> ?_⟩ m'
 ·have:=(A1T hi).1; rw [Xx this]; exact m.iota id b hi
 ·have:=(A1T hi).1;obtain ⟨t,k',q1,q2⟩:=m.chain id tip k hi;exact ⟨t,k',by rw [Xx this]; exact q1,q2⟩
def APost.trans {N:Nat} {ι ι':List Nat} {e:Exit} {w'':World} (hE:Ext σ w σ' w') (hM:Mono (ι.take h) σ w (H.take h) ι' σ' w' H')
  (hp:APost N h ι' σ' w' H' Q e a w''):APost N h ι σ w H Q e a w'':=by
 obtain ⟨ι2,σ2,st2,q1,q2,q3,q4,q5⟩:=hp;exact ⟨ι2,σ2,st2,q1,q2,hE.trans q3,hM.take2 q4,q5⟩
def AWp.mono {Q':Exit->St->Prop} (hw:AWp P rd h c Q st) (hq: ∀e s,Q e s->Q' e s):AWp P rd h c Q' st:=⟨fun N ι σ a w h1 h2 h3 h4=>
 wpIn_mono (hw.out N ι σ a w h1 h2 h3 h4) fun _ _ _ ⟨ι',σ',st',q,r⟩=>⟨ι',σ',st',hq _ _ q,r⟩⟩
def A2G (next:St->Prop) (Q:Exit->St->Prop):Exit->St->Prop
 | .normal,s=>next s
 | e,s=>Q e s
def AWp.seq {x y:Code} (hx:AWp P rd h x (A2G (AWp P rd h y Q) Q) st):AWp P rd h (.seq x y) Q st:=by
 refine ⟨fun N ι σ a w h1 h2 h3 h4=> ?_⟩;refine wpIn_seq (wpIn_mono (hx.out N ι σ a w h1 h2 h3 h4) ?_);rintro e a' w' ⟨ι',σ',st',q,r1,r2,r3,r4⟩;cases e with
 | normal=>exact wpIn_mono (q.out N ι' σ' a' w' r1 (h2.ext r2) (Yw h3 r2.size) r4) fun _ _ _ hp=>hp.trans r2 r3
 | exit id=>exact ⟨ι',σ',st',q,r1,r2,r3,r4⟩
 | goto l=>exact ⟨ι',σ',st',q,r1,r2,r3,r4⟩
 | ret=>exact ⟨ι',σ',st',q,r1,r2,r3,r4⟩
 | panic ch=>exact ⟨ι',σ',st',q,r1,r2,r3,r4⟩
 | outgrown=>exact ⟨ι',σ',st',q,r1,r2,r3,r4⟩
def APost.refl {N:Nat} {e:Exit} (hQ:Q e st) (h1:SRel ι σ st a w) (h4:MarksOK N a.defers σ w):APost N h ι σ w st.heap Q e a w:=
 ⟨ι,σ,st,hQ,h1,Ext.refl ..,(Mono.refl ..).take h,h4⟩
def AWp.skip (hq:Q .normal st):AWp P rd h .skip Q st:=⟨fun _ _ _ _ _ h1 _ _ h4=>wpIn_skip (.refl hq h1 h4)⟩
def AWp.ret (hq:Q .ret st):AWp P rd h .ret Q st:=⟨fun _ _ _ _ _ h1 _ _ h4=>wpIn_ret (.refl hq h1 h4)⟩
def AWp.exit {id:Nat} (hq:Q (.exit id) st):AWp P rd h (.exit id) Q st:=⟨fun _ _ _ _ _ h1 _ _ h4=>wpIn_exit (.refl hq h1 h4)⟩
def A1x (id:Nat) (Q:Exit->St->Prop):Exit->St->Prop
 | .exit id',s=>if id'=id then Q .normal s else Q (.exit id') s
 | e,s=>Q e s
def AWp.block {id:Nat} (hc:AWp P rd h c (A1x id Q) st):AWp P rd h (.block id c) Q st:=by
 refine ⟨fun N ι σ a w h1 h2 h3 h4=> ?_⟩;refine wpIn_block (wpIn_mono (hc.out N ι σ a w h1 h2 h3 h4) ?_);rintro e a' w' ⟨ι',σ',st',q,r⟩;cases e with
 | exit id'=>
  simp only [Exit.inBlock,A1x] at q ⊢;by_cases e:id'=id
  ·rw [if_pos e] at q ⊢; exact ⟨ι',σ',st',q,r⟩
  ·rw [if_neg e] at q ⊢; exact ⟨ι',σ',st',q,r⟩
 | normal=>exact ⟨ι',σ',st',q,r⟩
 | goto l=>exact ⟨ι',σ',st',q,r⟩
 | ret=>exact ⟨ι',σ',st',q,r⟩
 | panic ch=>exact ⟨ι',σ',st',q,r⟩
 | outgrown=>exact ⟨ι',σ',st',q,r⟩
def AWp.cond {c:Operand} {x y:Code} (b:Bool) (hc:aeval st.tmps c= .c (.bool b)) (ht:b=true->AWp P rd h x Q st) (hf:b=false->AWp P rd h y Q st):AWp P rd h (.cond c x y) Q st:=by
 refine ⟨fun N ι σ a w h1 h2 h3 h4=> ?_⟩;have e:a.eval c= .bool b:=by have:=A0J h1.tmps c; rw [hc] at this; exact this
 cases b
 ·exact wpIn_cond_false e ((hf rfl).out N ι σ a w h1 h2 h3 h4)
 ·exact wpIn_cond_true e ((ht rfl).out N ι σ a w h1 h2 h3 h4)
def Weak (h:Nat) (st st':St):Prop:= ∀ι σ a w,SRel ι σ st a w-> ∃ι',SRel ι' σ st' a w∧ι'.take h=ι.take h∧st'.heap.take h=st.heap.take h
def Weak.refl (h:Nat) (st:St):Weak h st st:=fun ι _ _ _ hr=>⟨ι,hr,rfl,rfl⟩
def A6j {ι ι':List Nat} (e1:ι'.take h=ι.take h) (e2:H'.take h=H.take h):Mono (ι.take h) σ w (H.take h) ι' σ w H':=by
 rw [<-e1,<-e2]; exact (Mono.refl ..).take h
def AWp.weak {st':St} (hk:Weak h st st') (hw:AWp P rd h c Q st'):AWp P rd h c Q st:=by
 refine ⟨fun N ι σ a w h1 h2 h3 h4=> ?_⟩;obtain ⟨ι',r1,e1,e2⟩:=hk ι σ a w h1;exact wpIn_mono (hw.out N ι' σ a w r1 h2 h3 h4) fun _ _ _ hp=>hp.trans (Ext.refl ..) (A6j e1 e2)
def A1m (p:Nat->Prop) (hx: ∃n,p n): ∃n,p n∧ ∀m,p m->n≤m:=by
 obtain ⟨n,hn⟩:=hx
 induction n using Nat.strongRecOn with
 | _ n ih=>
  by_cases hm: ∃m,m<n∧p m
  ·obtain ⟨m,hlt,hp⟩:=hm; exact ih m hlt hp
  ·exact ⟨n,hn,fun m hp=>by
    by_cases hlt:m<n
    ·exact (hm ⟨m,hlt,hp⟩).elim
    ·omega⟩
def AWp.loop (I:St->Prop) (μ:St->Nat) {st0:St} (hk:Weak h st st0) (h0:I st0)
  (round: ∀s,I s->AWp P rd h c (A2G (fun s'=> ∃s'',Weak h s' s''∧I s''∧μ s''<μ s) Q) s):AWp P rd h (.loop c) Q st:=by
 refine AWp.weak hk ⟨fun N ι σ a w h1 h2 h3 h4=> ?_⟩;let In (n:Nat) (a':Act) (w':World):Prop:= ∃ι' σ' s,μ s=n∧I s∧SRel ι' σ' s a' w'∧Ext σ w σ' w'∧Mono (ι.take h) σ w (st0.heap.take h) ι' σ' w' s.heap∧MarksOK N a'.defers σ' w';have key: ∀n a' w',In n a' w'->(Code.loop c).wpIn (Fr rd) 9 P (APost N h ι σ w st0.heap Q) a' w':=by
  intro n a' w' hn
  classical
  let J (a:Act) (w:World):Prop:= ∃n,In n a w;let ν (a:Act) (w:World):Nat:=if hx: ∃n,In n a w then Classical.choose (A1m _ hx) else 0
  refine wpIn_loop J ν ⟨n,hn⟩ ?_;intro a1 w1 hJ;have hmin:In (ν a1 w1) a1 w1:=by
   have hJ': ∃n,In n a1 w1:=hJ;show In (if hx: ∃n,In n a1 w1 then Classical.choose (A1m _ hx) else 0) a1 w1;rw [dif_pos hJ'];exact (Qw1 (A1m _ hJ')).1
  obtain ⟨ι1,σ1,s,hμ,hI,q1,q2,q3,q4⟩:=hmin;refine wpIn_mono ((round s hI).out N ι1 σ1 a1 w1 q1 (h2.ext q2) (Yw h3 q2.size) q4) ?_;rintro e a2 w2 ⟨ι2,σ2,s2,hQ,r1,r2,r3,r4⟩;cases e with
  | normal=>
   obtain ⟨s3,hk3,hI3,hlt⟩:=hQ;obtain ⟨ι3,t1,t2,t3⟩:=hk3 _ _ _ _ r1;have hin:In (μ s3) a2 w2:=⟨ι3,σ2,s3,rfl,hI3,t1,q2.trans r2,(q3.take2 r3).take2 (A6j t2 t3),r4⟩;refine ⟨⟨_,hin⟩,?_⟩;have hx: ∃n,In n a2 w2:=⟨_,hin⟩;have hle:ν a2 w2≤μ s3:=by
    show (if hx: ∃n,In n a2 w2 then Classical.choose (A1m _ hx) else 0)≤μ s3;rw [dif_pos hx];exact (Qw1 (A1m _ hx)).2 _ hin
   omega
  | exit id=>exact ⟨ι2,σ2,s2,hQ,r1,q2.trans r2,q3.take2 r3,r4⟩
  | goto l=>exact ⟨ι2,σ2,s2,hQ,r1,q2.trans r2,q3.take2 r3,r4⟩
  | ret=>exact ⟨ι2,σ2,s2,hQ,r1,q2.trans r2,q3.take2 r3,r4⟩
  | panic ch=>exact ⟨ι2,σ2,s2,hQ,r1,q2.trans r2,q3.take2 r3,r4⟩
  | outgrown=>exact ⟨ι2,σ2,s2,hQ,r1,q2.trans r2,q3.take2 r3,r4⟩
 exact key (μ st0) a w ⟨ι,σ,st0,rfl,h0,h1,Ext.refl ..,(Mono.refl ..).take h,h4⟩
end
def A1a (tm:List AVal):Option Tmp->AVal->List AVal
 | some d,v=>tm.set d v
 | none,_=>tm
inductive GV where
 | yes (b:Bool)
 | no
 | unknown
def B3T (all:Array Oper) (tm:List AVal) (j:Nat):GV:=
 match (all[j]?).bind (·.dst) with
 | none=> .no
 | some d=>
  match tm[d]? with
  | some (.c (.bool b))=> .yes b
  | some (.tup [])=> .no
  | none=> .no
  | _=> .unknown
def gwant (all:Array Oper) (tm:List AVal) (o:Oper):Option Bool:=
 match o.guard with
 | none=>some true
 | some (j,b)=>
  match B3T all tm j with
  | .yes b'=>some (b'==b)
  | .no=>some false
  | .unknown=>none
def A07 {all:Array Oper} (h:TmpsRel ι σ w H tm a.tmps) {o:Oper} {b:Bool} (hg:gwant all tm o=some b):
  Region.wanted o (yielded all a.tmps)=b:=by
 unfold gwant at hg;unfold Region.wanted;cases hgd:o.guard with
 | none=>simp [hgd] at hg; subst hg; rfl
 | some q=>
  obtain ⟨j,b'⟩:=q;simp only [hgd] at hg ⊢;unfold B3T at hg;unfold yielded;cases hd:(all[j]?).bind (·.dst) with
  | none=>simp [hd] at hg; subst hg; simp
  | some d=>
   simp only [hd,Option.bind_some] at hg ⊢;cases ht:tm[d]? with
   | none=>
    simp [ht] at hg; subst hg;have:a.tmps[d]? =none:=by rw [Qj8]; rw [h.1]; exact List.getElem?_eq_none_iff.1 ht
    rw [this]; simp
   | some x=>
    have hlt:d<a.tmps.size:=by rw [h.1]; exact (Qx.1 ht).1
    have hv:=h.2 d x _ ht (QZ hlt);rw [QZ hlt];simp only [ht] at hg;cases x with
    | c c=>
     cases c with
     | bool b2=>
      have e:a.tmps[d]= .bool b2:=hv;rw [e]; simp at hg; subst hg; simp
     | _=>simp at hg
    | agg cs=>simp at hg
    | tup xs=>
     cases xs with
     | nil=>
      obtain ⟨vs,e,_⟩:=hv;rw [e]; simp at hg; subst hg; simp
     | cons _ _=>simp at hg
inductive Run (P:Program) (rd:Option Nat) (all:Array Oper):List Oper->List AVal->List Blk->List AVal->List Blk->Prop
 | nil (tm:List AVal) (H:List Blk):Run P rd all [] tm H tm H
 | exec {o:Oper} {rest:List Oper} {tm tm':List AVal} {H H' H'':List Blk} {rv:AVal} (hg:gwant all tm o=some true) (hs:AStep P rd o (aeval tm) H rv H') (hr:Run P rd all rest (A1a tm o.dst rv) H' tm' H''):
   Run P rd all (o::rest) tm H tm' H''
 | skip {o:Oper} {rest:List Oper} {tm tm':List AVal} {H H'':List Blk} (hg:gwant all tm o=some false) (hr:Run P rd all rest (A1a tm o.dst (.tup [])) H tm' H''):
   Run P rd all (o::rest) tm H tm' H''
def A0K {ι:List Nat} {σ:Sig} {w:World} {H:List Blk} {tm:List AVal} {a:Act} (h:TmpsRel ι σ w H tm a.tmps) {d:Option Tmp} {x:AVal} {v:Value} (hv:VRel ι σ w H x v):
  TmpsRel ι σ w H (A1a tm d x) (a.put d v).tmps:=by
 cases d with
 | none=>exact h
 | some d=>
  refine ⟨by simp [A1a,Act.put,h.1],fun t y u h1 h2=> ?_⟩;simp only [A1a,Act.put] at h1 h2;by_cases e:d=t
  ·subst e;have hlt:d<tm.length:=by have:=(Qx.1 h1).1; simpa using this
   rw [QX hlt] at h1;rw [Qx4 (by rw [h.1]; exact hlt)] at h2;cases h1; cases h2; exact hv
  ·rw [Qy e] at h1;rw [Qj6 e] at h2;exact h.2 t y u h1 h2
def TmpsRel.mono {ι ι':List Nat} {ts:Array Value} (h:TmpsRel ι σ w H tm ts) (m:Mono ι σ w H ι' σ' w' H'):TmpsRel ι' σ' w' H' tm ts:=
 ⟨h.1,fun t x v h1 h2=>m.v (h.2 t x v h1 h2)⟩
def A25:VRel ι σ w H (.tup []) undef:=⟨#[],rfl,rfl,by simp⟩
def Act.put_defers (a:Act) (d:Option Tmp) (v:Value):(a.put d v).defers=a.defers:=by cases d<;>rfl
def Run.sound {all:Array Oper} {rest:List Oper} {tm tm':List AVal} (hr:Run P rd all rest tm H tm' H'):
  ∀ι σ a w,TmpsRel ι σ w H tm a.tmps->HRel ι σ w H->RdOK rd σ w-> ∀Q:Exit->Act->World->Prop,
   (∀ι' σ' a' w',TmpsRel ι' σ' w' H' tm' a'.tmps->HRel ι' σ' w' H'->Mono ι σ w H ι' σ' w' H'->Ext σ w σ' w'->a'.defers=a.defers->Q .normal a' w')->
   wpListIn (Fr rd) 9 P all Q rest a w:=by
 induction hr with
 | nil tm H=>intro ι σ a w h1 h2 h3 Q hq; exact hq ι σ a w h1 h2 (Mono.refl ..) (Ext.refl ..) rfl
 | exec hg hs _ ih=>
  intro ι σ a w h1 h2 h3 Q hq;unfold wpListIn;rw [if_pos (A07 h1 hg)];refine hs ι σ a w (fun x _=>A0J h1 x) h2 h3 _ _ ?_;intro v w' ι' σ' r1 r2 r3 r4;refine ih ι' σ' _ w' (A0K (h1.mono r3) r1) r2 (h3.ext r4) Q ?_;intro ι2 σ2 a2 w2 s1 s2 s3 s4 s5;exact hq ι2 σ2 a2 w2 s1 s2 (r3.trans s3) (r4.trans s4) (by rw [s5,Act.put_defers])
 | skip hg _ ih=>
  intro ι σ a w h1 h2 h3 Q hq;unfold wpListIn;rw [if_neg (by rw [A07 h1 hg]; simp)];refine ⟨fun _ _=>trivial,ih ι σ _ w (A0K h1 A25) h2 h3 Q ?_⟩;intro ι2 σ2 a2 w2 s1 s2 s3 s4 s5;exact hq ι2 σ2 a2 w2 s1 s2 s3 s4 (by rw [s5,Act.put_defers])
def AWp.region {h:Nat} {Q:Exit->St->Prop} {st:St} {id:Nat} {ops:Array Oper} {tm':List AVal}
  (hr:Run P rd ops ops.toList st.tmps st.heap tm' H') (hq:Q .normal ⟨tm',H'⟩):AWp P rd h (.region id ops false) Q st:=by
 refine ⟨fun N ι σ a w h1 h2 h3 h4=> ?_⟩;refine wpIn_region_list (hr.sound ι σ a w h1.tmps h1.heap h2 _ ?_);intro ι' σ' a' w' r1 r2 r3 r4 r5;exact ⟨ι',σ',⟨tm',H'⟩,hq,⟨r1,r2⟩,r4,r3.take h,by rw [r5]; exact h4.ext r4⟩
def A0o (P:Program) (st:St):ResultVar->Option AVal
 | .tmp t=>some (st.tmps.getD t (.c .any))
 | .cell a t=>
  match st.tmps.getD a (.c .any) with
  | .c (.ptr id j)=>
   match (st.heap[id]?).bind Blk.cells with
   | some cs=>
    match A1O P t,A0u P t with
    | some false,_=>(cs[j]?).map .c
    | some true,some n=>if ((cs.drop j).take n).length=n then some (.agg ((cs.drop j).take n)) else none
    | _,_=>none
   | none=>none
  | _=>none
def A3Q (tmps:Array Value):ResultVar->Sem Value
 | .tmp t=>pure (tmps.getD t undef)
 | .cell a t=>do loadVar t (<-asAddr (tmps.getD a undef))
def A26 {t:TypeId} {b j:Nat} {v:Value} (h:(Instr.loadAt t (.pointer (some ⟨b,j,none⟩))).run P w= .ok v w):(loadVar t ⟨b,j,none⟩).run P w= .ok v w:=by
 simpa [Instr.loadAt,Instr.sureAddr] using h
def B8v {st:St} (h:SRel ι σ st a w) {rv:ResultVar} {x:AVal} (hx:A0o P st rv=some x):
  ∃v,(A3Q a.tmps rv).run P w= .ok v w∧VRel ι σ w st.heap x v:=by
 cases rv with
 | tmp t=>
  simp [A0o] at hx; subst hx;exact ⟨a.eval (.tmp t),by simp [A3Q,Act.eval],A0J h.tmps (.tmp t)⟩
 | cell q t=>
  simp only [A0o] at hx;have hq:=A0J h.tmps (.tmp q);simp only [aeval] at hq;split at hx
  ·rename_i id j e;rw [e] at hq;obtain ⟨b,hi,eq⟩:=hq;have eq':a.tmps.getD q undef= .pointer (some ⟨b,j,none⟩):=eq;split at hx
   ·rename_i cs hcs;cases hb:st.heap[id]? with
    | none=>simp [hb] at hcs
    | some blk=>
     simp [hb] at hcs;split at hx
     ·rename_i hag;cases hc:cs[j]? with
      | none=>simp [hc] at hx
      | some c=>
       simp [hc] at hx; subst hx;obtain ⟨v,hv,hr⟩:=A8h h.heap hb hi hcs hc;refine ⟨v,?_,hr⟩;simp only [A3Q,eq',asAddr,Sem.run_bind,Sem.run_pure,Result.andThen_ok];exact A26 (A2M hag hv)
     ·rename_i n hag hn;split at hx
      ·rename_i hl;cases hx
       obtain ⟨vs,hvl,hvs⟩:=A5N (fun i c v=>w.cell? ⟨b,j+i,none⟩=some v∧CRel ι σ w st.heap c v) ((cs.drop j).take n) (fun i c hc=>by
        have hlt:=(Qx.1 hc).1;rw [Xx (by omega),YX] at hc
        exact A8h h.heap hb hi hcs hc)
       have hra:w.rangeAt b j vs:=fun i v hv=>by
        have hlt:i<((cs.drop j).take n).length:=by rw [<-hvl]; exact (Qx.1 hv).1
        exact (hvs i _ v (Qq hlt) hv).1
       refine ⟨.agg vs.toArray,?_,vs.toArray,rfl,by simp [hvl],fun i c u h1 h2=>(hvs i c u h1 (by simpa using h2)).2⟩;simp only [A3Q,eq',asAddr,Sem.run_bind,Sem.run_pure,Result.andThen_ok];exact A26 (A4D hag hn (by omega) hra)
      ·cases hx
     ·cases hx
   ·cases hx
  ·cases hx
def A3R {st:St} (h:SRel ι σ st a w): ∀{rvs:List ResultVar} {xs:List AVal},rvs.mapM (A0o P st)=some xs->
  ∃vs:List Value,(rvs.mapM (A3Q a.tmps)).run P w= .ok vs w∧vs.length=xs.length∧ ∀(j:Nat) x v,xs[j]? =some x->vs[j]? =some v->VRel ι σ w st.heap x v:=by
 intro rvs
 induction rvs with
 | nil=>intro xs hx; simp at hx; subst hx; exact ⟨[],by simp,rfl,by simp⟩
 | cons rv rvs ih=>
  intro xs hx;simp only [JY,Option.bind_eq_bind,Option.pure_def] at hx;cases h1:A0o P st rv with
  | none=>simp [h1] at hx
  | some x=>
   cases h2:rvs.mapM (A0o P st) with
   | none=>simp [h1,h2] at hx
   | some xs'=>
    simp [h1,h2] at hx; subst hx;obtain ⟨v,r1,r2⟩:=B8v h h1;obtain ⟨vs,s1,s2,s3⟩:=ih h2;refine ⟨v::vs,by simp [JY,Sem.run_bind,r1,s1],by simp [s2],fun j y u q1 q2=> ?_⟩;cases j with
    | zero=>simp at q1 q2; subst q1; subst q2; exact r2
    | succ j=>exact s3 j y u q1 q2
def A0r (P:Program) (rvs:List ResultVar) (st:St):Option TVal:=
 match rvs.mapM (A0o P st) with
 | some [x]=>A0p (A0d st.heap) x
 | some xs=>(xs.mapM (A0p (A0d st.heap))).map .tup
 | none=>none
def A2F.of_toT1 {f:ACell->Option Tree} {y:TVal} {v:Value} (hy:A0p f x=some y) (h:VRel ι σ w H x v):A2F ι σ w H x v:=by
 cases x with
 | c x=>exact h
 | agg cs=>exact h
 | tup xs=>simp [A0p] at hy
def A41.up {x:TVal} {v:Value} (h:A41 S w x v):TVRel S w x v:=by
 cases x with
 | t x=>exact h
 | agg cs=>exact h
 | tup xs=>exact h.elim
def A8B {P:Program} {ι:List Nat} {σ:Sig} {st:St} {a:Act} {w:World} (h:SRel ι σ st a w) {fn:Func} {r:TVal} (hr:A0r P fn.results.toList st=some r):
  ∃v,(results fn a.tmps).run P w= .ok v w∧TVRel (Open σ) w r v:=by
 have hrun: ∀vs:List Value,(fn.results.toList.mapM (A3Q a.tmps)).run P w= .ok vs w->(results fn a.tmps).run P w= .ok (if h:vs.toArray.size=1 then vs.toArray[0] else .tuple vs.toArray) w:=by
  intro vs hv;have e:results fn a.tmps=(do let vs <-fn.results.mapM (A3Q a.tmps); pure (if h:vs.size=1 then vs[0] else .tuple vs)):=by
   unfold results;congr 1
  rw [e,Sem.run_bind,Qj1];simp [hv]
 unfold A0r at hr;split at hr
 ·rename_i x hx;obtain ⟨vs,h1,h2,h3⟩:=A3R h hx
  match vs,h2 with
  | [v],_=>
   refine ⟨v,by simpa using hrun [v] h1,?_⟩;exact (A5q (fun c t v h4 h5=>A5p h.heap h4 h5) (A2F.of_toT1 hr (h3 0 x v rfl rfl)) hr).up
 ·rename_i xs hne hx;obtain ⟨vs,h1,h2,h3⟩:=A3R h hx;cases hm:xs.mapM (A0p (A0d st.heap)) with
  | none=>simp [hm] at hr
  | some ys=>
   simp [hm] at hr; subst hr;obtain ⟨m1,m2⟩:=A08 hm;have hsz: ¬vs.length=1:=by
    intro e1;have hx1:xs.length=1:=by omega
    match xs,hx1 with
    | [y],_=>exact hne y rfl
   refine ⟨.tuple vs.toArray,?_,vs.toArray,rfl,by simp; omega,fun j y u q1 q2=> ?_⟩
   ·have:=hrun vs h1;rw [dif_neg (by simpa using hsz)] at this;exact this
   ·have hlt:j<xs.length:=by have:=(Qx.1 q1).1; omega
    have hc:=Qq hlt;have hy:=m2 j _ y hc q1;exact A5q (fun c t v h4 h5=>A5p h.heap h4 h5) (A2F.of_toT1 hy (h3 j _ u hc (by simpa using q2))) hy
 ·cases hr
def A1C {P:Program} {rd:Option Nat} {fn:Func} {tmps:Array Value} {R:Ending->World->Prop} {N:Nat}: ∀(Ds:List Nat) (w:World),Ds.Nodup->
  (∀D,D∈Ds->N≤D∧D<w.heap.size∧w.heap[D]? =some (.deferred (some [])))->
  (∀w',Below N w w'->(∀a:Addr,w'.cell? a=w.cell? a)->(∀(b:Nat) ob,w.heap[b]? =some ob->(∀c,ob≠ .deferred c)->w'.heap[b]? =some ob)->(∀b,b∉Ds->w'.heap[b]? =w.heap[b]?)->w'.drawn=w.drawn-> ∃v,(results fn tmps).run P w'= .ok v w'∧R (.returned v) w')->
  LeavesInM (Fr rd) 9 P fn tmps R (Ds.map fun D=>{ target:= .collected D,args:= #[] }) .returning w:=by
 intro Ds
 induction Ds with
 | nil=>intro w _ _ h; exact h w (Below.refl _ _) (fun _=>rfl) (fun _ _ h _=>h) (fun _ _=>rfl) rfl
 | cons D Ds ih=>
  intro w hnd hD h;obtain ⟨q1,q2,q3⟩:=hD D (by simp);refine ⟨by simp,.inl ⟨D,_,rfl,run_takeDeferred q3,?_⟩⟩;simp only [Qq8] at hnd;have hsz:(w.putObj D (.deferred none)).heap.size=w.heap.size:=by simp [World.putObj]
  have hcell: ∀a:Addr,(w.putObj D (.deferred none)).cell? a=w.cell? a:=fun a=>by
   unfold World.cell?;by_cases e:a.block=D
   ·rw [e,World.putObj_heap_same q2,q3]
   ·rw [World.putObj_heap_other e]
  have hbel:Below N w (w.putObj D (.deferred none)):=⟨rfl,rfl,rfl,by omega,fun k hk=>World.putObj_heap_other (by omega)⟩;refine ih _ hnd.2 (fun D' hD'=> ?_) (fun w' hb hc hx hd hdr=> ?_)
  ·obtain ⟨s1,s2,s3⟩:=hD D' (by simp [hD']);refine ⟨s1,by omega,?_⟩;rw [World.putObj_heap_other (by rintro rfl; exact hnd.1 hD')]; exact s3
  ·exact h w' (hbel.trans hb) (fun a=>(hc a).trans (hcell a)) (fun b ob hb' hnd'=>hx b ob (by rw [World.putObj_heap_other (by rintro rfl; rw [q3] at hb'; cases hb'; exact hnd' _ rfl)]; exact hb') hnd') (fun b hb'=>by
    simp only [QV,not_or] at hb'
    rw [hd b hb'.2,World.putObj_heap_other hb'.1]) hdr
def SRel.cells {ι:List Nat} {σ:Sig} {st:St} {a:Act} {w w':World} (h:SRel ι σ st a w) (hc: ∀a:Addr,w'.cell? a=w.cell? a) (hb: ∀(b:Nat) ob,w.heap[b]? =some ob->(∀c,ob≠ .deferred c)->(∀r,ob≠ .loop r)->w'.heap[b]? =some ob) (hg: ∀g,Calm g σ w σ w'):
  SRel ι σ st a w':=by
 have hfz: ∀b o u,w.cell? ⟨b,o,none⟩=some u->w'.frozen? ⟨b,o,none⟩=w.frozen? ⟨b,o,none⟩:=fun b o u hu=>by
  unfold World.cell? at hu;cases hb':w.heap[b]? with
  | none=>simp [hb'] at hu
  | some x=>
   cases x with
   | cells arr e fz=>unfold World.frozen?; simp only [hb',hb b _ hb' (by intro c; simp) (by intro c; simp)]
   | _=>simp [hb'] at hu
 have M:Mono ι σ w st.heap ι σ w' st.heap:=⟨fun b o u h1 h2=>⟨h1,by rw [hc]; exact h2⟩,fun _ _ h=>h,fun id tip k h=>⟨tip,k,h,MarkUp.of fun b o q1 q2 ⟨arr,e,q3⟩=>⟨q2,(hb b _ q3 (by intro c; simp) (by intro c; simp)).trans q3.symm⟩,.inr ⟨rfl,rfl,fun b o u h1 h2=>⟨h1,⟨u,by rw [hc]; exact h2⟩,fun h3=>by rw [hfz b o u h2]; exact h3⟩⟩⟩⟩;refine ⟨h.tmps.mono M,h.heap.1,fun id blk b h1 h2=> ?_⟩;have:=h.heap.2 id blk b h1 h2;cases blk with
 | box cs=>
  obtain ⟨⟨arr,e,fz,ha⟩,hcs⟩:=this;refine ⟨⟨arr,e,fz,hb b _ ha (by intro c; simp) (by intro c; simp)⟩,fun j c hj=> ?_⟩;obtain ⟨q1,q2,v,q3,q4⟩:=hcs j c hj;exact ⟨q1,by rw [hfz b j v q3]; exact q2,v,by rw [hc]; exact q3,M.cell q4⟩
 | ro ts=>
  intro j t hj;obtain ⟨q1,v,q2,q3⟩:=this j t hj;exact ⟨q1,v,by rw [hc]; exact q2,M.t q3⟩
 | roC ts=>
  intro j t hj;obtain ⟨q1,v,q2,q3⟩:=this j t hj;exact ⟨q1,v,by rw [hc]; exact q2,M.k q3⟩
 | chain _ _=>trivial
 | dead=>trivial
 | map es=>
  obtain ⟨q1,arr,q2,q3,q4⟩:=this;exact ⟨q1,arr,hb b _ q2 (by intro c; simp) (by intro c; simp),q3,fun j e x p1 p2=>⟨(q4 j e x p1 p2).1,(q4 j e x p1 p2).2.1,M.mv (q4 j e x p1 p2).2.2⟩⟩
 | iter i n seen=>
  obtain ⟨q1,bm,q2,q3⟩:=this;exact ⟨q1,bm,M.iota _ _ q2,hb b _ q3 (by intro c; simp) (by intro c; simp)⟩
 | ghost G=>exact ⟨this.2 _ _ _ _ (hg _) this.1,this.2⟩
def B1q (s:String):Bool:=s != "runtime.NumGoroutine"
def enters_of {f:FuncId} {fn:Func} (hf:P.funcs[f]? =some fn) (hb:fn.body=some c) (hn:B1q fn.name=true) (args:Array Value) (w:World):(callFunc f args).run P w= .ok (.enter f args) w:=by
 have h1: ¬fn.name="runtime.NumGoroutine":=by simpa [B1q] using hn
 simp [callFunc,Sem.run_bind,program,Sem.run,hf,h1,hb]
def entry (fn:Func) (args:List AVal):List AVal:=args++List.replicate (fn.ntmps-args.length) (.tup [])
def A3d {ι:List Nat} {σ:Sig} {w:World} {H:List Blk} {fn:Func} {args:List AVal} {vs:List Value} (hl:vs.length=args.length) (h: ∀(j:Nat) x u,args[j]? =some x->vs[j]? =some u->VRel ι σ w H x u):
  TmpsRel ι σ w H (entry fn args) (vs.toArray++Array.replicate (fn.ntmps-vs.toArray.size) undef):=by
 refine ⟨by simp [entry,hl],fun t x v h1 h2=> ?_⟩;rw [<-WY] at h2;simp only [Array.toList_append,Array.toList_replicate,Vk] at h2;unfold entry at h1;by_cases ht:t<args.length
 ·rw [Qw ht] at h1;rw [Qw (by omega)] at h2;exact h t x v h1 h2
 ·rw [QW (by omega)] at h1;rw [QW (by omega)] at h2;have e1:=(Wq.1 (Qv h1)).2;have e2:=(Wq.1 (Qv h2)).2;subst e1; subst e2;exact A25
def A0s (P:Program) (fn:Func) (r:TVal):Exit->St->Prop:=fun e st=>(match e with | .normal | .ret=>True | _=>False)∧A0r P fn.results.toList st=some r
def ACall.of_body {f:FuncId} {fn:Func} (hf:P.funcs[f]? =some fn) (hb:fn.body=some c) (hn:B1q fn.name=true) {args:List TVal} {r:TVal}
  (hw:AWp P none 0 c (A0s P fn r) ⟨entry fn (args.map ofT),[]⟩):ACall P f args r:=by
 refine ⟨enters_of hf hb hn,fun S w vs hl hv=> ?_⟩;refine callsIn_wide.1 (callsIn_of_wp_marks (F:=Fence.wide) (n:=9) hf hb trivial ?_)
 classical
 let σ0:Sig:=fun b o=>if S b o then .stable else .foreign
 have hst: ∀b o,S b o->σ0 b o= .stable:=fun b o h=>by simp [σ0,h]
 have hmine: ∀b o id,σ0 b o≠ .mine id:=fun b o id=>by simp only [σ0]; split<;>simp
 have hrel:SRel [] σ0 ⟨entry fn (args.map ofT),[]⟩ { tmps:=vs.toArray++Array.replicate (fn.ntmps-vs.toArray.size) undef,defers:=[] } w:=by
  refine ⟨A3d (by simp [hl]) (fun j x u h1 h2=> ?_),rfl,by simp⟩;simp only [QQ] at h1;cases hc:args[j]? with
  | none=>simp [hc] at h1
  | some y=>simp [hc] at h1; subst h1; exact A3b ((hv j y u hc h2).mono fun b o u h3 h4=>⟨hst b o h3,h4⟩)
 refine wpIn_mono (hw.out w.heap.size [] σ0 _ w hrel (fun l h=>by cases h) (Qk _) (MarksOK.nil ..)) ?_;rintro e a' w' ⟨ι',σ',st',⟨he,hres⟩,h1,h2,h3,Ds,h4,h5,h6⟩;have fin:LeavesInM (Fr none) 9 P fn a'.tmps (fun e w'=> ∃v,e= .returned v∧TVRel (fun b o=>S b o∨w.heap.size≤b) w' r v∧Below w.heap.size w w'∧w.drawn≤w'.drawn) a'.defers .returning w':=by
  rw [h4];refine A1C (N:=w.heap.size) Ds w' h5 (fun D hD=>let ⟨q1,q2,q3,_⟩:=h6 D hD; ⟨q1,q2,q3⟩) ?_;intro w2 hb2 hc2 hx2 hd2 hdr2
  obtain ⟨v,r1,r2⟩:=A8B (h1.cells hc2 (fun b ob h h' _=>hx2 b ob h h') (fun g=>⟨hb2.os,hb2.tape,hb2.output,hb2.size,fun b o u h h'=>⟨h,by rw [hc2]; exact h'⟩,fun b hbl _ hgb=>⟨hd2 b (fun hD=>by
   have h7:=(h6 b hD).2.2.2 0
   rcases hgb 0 with h8 | h8<;>(rw [h7] at h8; cases h8)),fun _=>rfl⟩,Qw0 hdr2.symm⟩)) hres
  refine ⟨v,r1,v,rfl,r2.mono fun b o u h7 h8=>⟨?_,h8⟩,?_⟩
  ·by_cases hlt:b<w.heap.size
   ·left;by_cases hS:S b o
    ·exact hS
    ·exact (h7 (h2.back b o hlt (by simp [σ0,hS]))).elim
   ·right; omega
  ·refine ⟨?_,by rw [hdr2]; exact h2.drawn⟩;exact Below.trans ⟨h2.os,h2.tape,h2.output,h2.size,fun b hb=>(h2.obj b hb (fun o id=>hmine b o id)).1⟩ hb2
 cases e with
 | normal=>exact fin
 | ret=>exact fin
 | exit id=>exact he.elim
 | goto l=>exact he.elim
 | panic ch=>exact he.elim
 | outgrown=>exact he.elim
def rowsOf:AVal->Option (List (List Tree))
 | .c (.slice rows _)=>some rows
 | .c .nils=>some []
 | _=>none
def TRel.rowv {rows:List (List Tree)} {v:Value} (h:TRel S w (.slice rows) v) {k:Nat} (hk: ∀r,r∈rows->r.length=k) (h0:0<k):
  ∃(a:Option Addr) (c:Nat) (vs:List Value),v= .slice a rows.length c∧rows.length≤c∧vs.length=rows.length*k∧(a=none->rows=[]∧c=c)∧(∀ad,a=some ad-> ∀j u,vs[j]? =some u->w.cell? (ad.add j)=some u)∧
   (∀ad,a=some ad->rows≠[]-> ∃b off,ad=⟨b,off,none⟩)∧
   ∀i r j t,rows[i]? =some r->r[j]? =some t-> ∃u,vs[i*k+j]? =some u∧TRel S w t u:=by
 cases h with
 | nil a c=>exact ⟨a,c,[],rfl,Xj _,by simp,fun _=>⟨rfl,rfl⟩,fun _ _ j u h=>by simp at h,fun _ _ h=>absurd rfl h,fun i r j t h=>by simp at h⟩
 | slice b off k' c rows cell hn hk' hc hr=>
  have ek: ∀{i:Nat},i<rows.length->k'=k:=fun {i} hi=>by rw [<-hk _ (Xw hi),hk' _ (Xw hi)]
  refine ⟨some ⟨b,off,none⟩,c,(List.range (rows.length*k)).map (fun m=>cell (m / k) (m%k)),rfl,hn,by simp,fun h=>(by cases h),fun ad e j u hj=> ?_,fun ad e _=>⟨b,off,by cases e; rfl⟩,fun i r j t h1 h2=> ?_⟩
  ·cases e;simp only [QQ] at hj;by_cases hlt:j<rows.length*k
   ·rw [Yv hlt] at hj;simp at hj; subst hj;have hi:j / k<rows.length:=Nat.div_lt_of_lt_mul (by rw [Qw6]; exact hlt);have hjk:j%k<k:=VZ _ h0;have e:=ek hi;subst e;have hl:(rows[j / k'][j%k']?)=some (rows[j / k'][j%k']'(by rw [hk _ (Xw hi)]; exact hjk)):=Qq _;have:=(hc (j / k') _ (j%k') _ (Qq hi) hl).2;rw [Addr.add_lit];have em:j / k'*k'+j%k'=j:=by rw [Qw6]; exact Nat.div_add_mod j k'
    rwa [em] at this
   ·rw [Xq (by simp; omega)] at hj; cases hj
  ·have hi:=(Qx.1 h1).1;have e:=ek hi;subst e;have hj:j<k':=by have:=(Qx.1 h2).1; rwa [hk' _ (Qv h1)] at this
   have hlt:i*k'+j<rows.length*k':=by
    have:(i+1)*k'≤rows.length*k':=YJ _ hi;rw [Vx] at this; omega
   refine ⟨cell i j,?_,hr i r j t h1 h2⟩;simp only [QQ,Yv hlt,Option.map_some];have e1:(i*k'+j) / k'=i:=by rw [Qw6,Nat.mul_add_div h0,Nat.div_eq_of_lt hj,Nat.add_zero]
   have e2:(i*k'+j)%k'=j:=by rw [Qw6,Nat.mul_add_mod,Vw hj]
   rw [e1,e2]
def A1X {v:Value} {rows:List (List Tree)} (h:VRel ι σ w H x v) (hr:rowsOf x=some rows):TRel (Stab σ) w (.slice rows) v:=by
 unfold rowsOf at hr;split at hr
 ·cases hr; exact h.1
 ·cases hr; cases h; exact .nil _ _
 ·cases hr
def row_one {rows:List (List Tree)} {k:Nat} {vs:List Value} (h0:0<k) (hl:vs.length=rows.length*k) (hk: ∀r,r∈rows->r.length=k)
  (h: ∀i r j t,rows[i]? =some r->r[j]? =some t-> ∃u,vs[i*k+j]? =some u∧TRel S w t u): ∀u∈vs,u.oneCell'=true:=by
 intro u hu;obtain ⟨m,hm,e⟩:=Jk.1 hu;have hi:m / k<rows.length:=Nat.div_lt_of_lt_mul (by rw [Qw6,<-hl]; exact hm);have hj:m%k<(rows[m / k]).length:=by rw [hk _ (Xw hi)]; exact VZ _ h0
 obtain ⟨u',h1,h2⟩:=h _ _ _ _ (Qq hi) (Qq hj);have em:m / k*k+m%k=m:=by rw [Qw6]; exact Nat.div_add_mod m k
 rw [em,Qq hm] at h1;cases h1;rw [<-e]; exact h2.one
def TRel.src {rows:List (List Tree)} {v:Value} (h:TRel S w (.slice rows) v) {k:Nat} (hk: ∀r,r∈rows->r.length=k) (h0:0<k) {tx e:TypeId} (hu:P.underlying tx=some (.slice e)):
  ∃vs,Src P k tx v rows.length vs w∧ ∀i r j t,rows[i]? =some r->r[j]? =some t-> ∃u,vs[i*k+j]? =some u∧TRel S w t u:=by
 obtain ⟨a,c,vs,rfl,hc,hl,hn,hs,_,hg⟩:=h.rowv hk h0;have h1:=row_one h0 hl hk hg;cases a with
 | none=>
  have e:=(hn rfl).1;subst e;have:vs=[]:=by simpa using hl
  subst this;exact ⟨[],Src.ofNil w hu c,hg⟩
 | some ad=>exact ⟨vs,Src.ofSlice w hu ad _ c vs hl (hs ad rfl) h1,hg⟩
def A6k (b:Nat) {g:Nat}: ∀(vs:List Value) (o:Nat) (w:World),(∃arr e fz,w.heap[b]? =some (.cells arr e fz))-> ∃arr e fz,(w.setCells g o vs).heap[b]? =some (.cells arr e fz):=by
 intro vs
 induction vs with
 | nil=>intro o w h; exact h
 | cons v vs ih=>
  intro o w h;refine ih (o+1) _ ?_;obtain ⟨arr,e,fz,h⟩:=h;simp only [World.setCell,Qz9];by_cases hb:g=b
  ·subst hb;rw [if_pos rfl,h];exact ⟨_,_,_,rfl⟩
  ·rw [if_neg hb];exact ⟨arr,e,fz,h⟩
def A0Q (g:Nat): ∀(vs:List Value) (o:Nat) (w:World),(w.setCells g o vs).os=w.os∧(w.setCells g o vs).tape=w.tape∧(w.setCells g o vs).output=w.output∧(w.setCells g o vs).heap.size=w.heap.size∧
  ∀b:Nat,b≠g->(w.setCells g o vs).heap[b]? =w.heap[b]? :=by
 intro vs
 induction vs with
 | nil=>intro o w; exact ⟨rfl,rfl,rfl,rfl,fun _ _=>rfl⟩
 | cons v vs ih=>
  intro o w;obtain ⟨h1,h2,h3,h4,h5⟩:=ih (o+1) (w.setCell ⟨g,o,none⟩ v);refine ⟨h1,h2,h3,by rw [World.setCells,h4]; simp [World.setCell],fun b hb=> ?_⟩;rw [World.setCells,h5 b hb];simp only [World.setCell,Qz9];rw [if_neg (Ne.symm hb)]
section
variable {ι:List Nat} {σ σ':Sig} {w w':World} {H:List Blk}
def B1r (hH:HRel ι σ w H) (i tip' k:Nat) (H':List Blk) (ι':List Nat)
  (hst: ∀b o u,σ b o= .stable->w.cell? ⟨b,o,none⟩=some u->σ' b o= .stable∧w'.cell? ⟨b,o,none⟩=some u)
  (hmi: ∀b o u id,id≠i->σ b o= .mine id->w.cell? ⟨b,o,none⟩=some u->σ' b o= .mine id∧w'.cell? ⟨b,o,none⟩=some u∧w'.frozen? ⟨b,o,none⟩=w.frozen? ⟨b,o,none⟩)
  (hfm: ∀b:Nat,(∃arr e fz,w.heap[b]? =some (Obj.cells arr e fz))-> ∃arr e fz,w'.heap[b]? =some (Obj.cells arr e fz))
  (hno: ∀(b:Nat) ob,w.heap[b]? =some ob->(∀arr e fz,ob≠Obj.cells arr e fz)->w'.heap[b]? =some ob∧ ∀o,σ' b o=σ b o)
  (hcalm: ∀g,g≠i->Calm g σ w σ' w') (hmk: ∀id,MarkUp id σ w σ' w')
  (hlen:ι'.length=H'.length) (hι: ∀(id b:Nat),ι[id]? =some b->ι'[id]? =some b)
  (hH': ∀id,id≠i->H'[id]? =H[id]?) (hi:H'[i]? =some (.chain tip' k)) (hup: ∀blk,H[i]? =some blk-> ∃tip k0,blk= .chain tip k0∧tip<tip'):
  HRel ι' σ' w' H'∧Mono ι σ w H ι' σ' w' H':=by
 have M:Mono ι σ w H ι' σ' w' H':=by
  refine ⟨hst,hι,fun id tip k0 h=> ?_⟩;by_cases e:id=i
  ·subst e;obtain ⟨tip1,k1,e1,hlt⟩:=hup _ h;cases e1;exact ⟨tip',k,hi,hmk _,.inl hlt⟩
  ·refine ⟨tip,k0,by rw [hH' id e]; exact h,hmk _,.inr ⟨rfl,rfl,fun b o u h1 h2=> ?_⟩⟩;obtain ⟨q1,q2,q3⟩:=hmi b o u id e h1 h2;exact ⟨q1,⟨u,q2⟩,fun hf=>by rw [q3]; exact hf⟩
 refine ⟨⟨hlen,fun id blk b h1 h2=> ?_⟩,M⟩;by_cases e:id=i
 ·subst e; rw [hi] at h1; cases h1; trivial
 ·rw [hH' id e] at h1;have hid:id<H.length:=(Qx.1 h1).1;have h2':ι[id]? =some b:=by
   have hl:id<ι.length:=by rw [hH.1]; exact hid
   have:=hι id _ (Qq hl);rw [h2] at this; rw [Qq hl,this]
  have:=hH.2 id blk b h1 h2';cases blk with
  | box cs=>
   obtain ⟨hf,hc⟩:=this;refine ⟨hfm b hf,fun j c hj=> ?_⟩;obtain ⟨q1,q2,v,q3,q4⟩:=hc j c hj;obtain ⟨r1,r2,r3⟩:=hmi b j v id e q1 q3;exact ⟨r1,by rw [r3]; exact q2,v,r2,M.cell q4⟩
  | ro ts=>
   intro j t hj;obtain ⟨q1,v,q2,q3⟩:=this j t hj;obtain ⟨r1,r2⟩:=hst b j v q1 q2;exact ⟨r1,v,r2,M.t q3⟩
  | roC ts=>
   intro j t hj;obtain ⟨q1,v,q2,q3⟩:=this j t hj;obtain ⟨r1,r2⟩:=hst b j v q1 q2;exact ⟨r1,v,r2,M.k q3⟩
  | chain _ _=>trivial
  | dead=>trivial
  | map es=>
   obtain ⟨q1,arr,q2,q3,q4⟩:=this;obtain ⟨r1,r2⟩:=hno b _ q2 (by intro _ _ _; simp);exact ⟨fun o=>by rw [r2]; exact q1 o,arr,r1,q3,fun j e x p1 p2=>⟨(q4 j e x p1 p2).1,(q4 j e x p1 p2).2.1,M.mv (q4 j e x p1 p2).2.2⟩⟩
  | iter m n seen=>
   obtain ⟨q1,bm,q2,q3⟩:=this;obtain ⟨r1,r2⟩:=hno b _ q3 (by intro _ _ _; simp);exact ⟨fun o=>by rw [r2]; exact q1 o,bm,M.iota _ _ q2,r1⟩
  | ghost G=>exact ⟨this.2 _ _ _ _ (hcalm _ e) this.1,this.2⟩
variable {P:Program}
def B2y {t e:TypeId} {k:Nat} (hE:A03 P t=some (none,e)) (hk:A0u P e=some k) (h0:0<k) (z:Value) (hz:A01 P e=some z) (hzs:z.cells.size=k) (by':Nat) (hby:A0x P e=some by')
  (tx:TypeId) (e2:TypeId) (hE2:A03 P tx=some (none,e2)) (ty:TypeId) (rows rows2:List (List Tree)) (hr1: ∀r,r∈rows->r.length=k) (hr2: ∀r,r∈rows2->r.length=k)
  (x y:Value) (hx:TRel (Stab σ) w (.slice rows) x) (hy:TRel (Stab σ) w (.slice rows2) y) (a:Option Addr) (c:Nat) (ex:x= .slice a rows.length c) (hc:c<rows.length+rows2.length)
  (hfit:(rows.length+rows2.length)*by'≤140737488355328) (h63:rows.length+rows2.length≤4611686018427387904) (i:Nat):
  ∃ c' w',(Builtin.append_ #[t,tx] ty #[x,y]).run P w= .ok (.slice (some ⟨w.heap.size,0,none⟩) (rows.length+rows2.length) c') w'∧
   w'.os=w.os∧w'.tape=w.tape∧w'.output=w.output∧(w.heap.size≤w'.heap.size∧w.drawn≤w'.drawn)∧(∀b,b<w.heap.size->w'.heap[b]? =w.heap[b]?)∧
   (let σ':Sig:=fun b o=>if b=w.heap.size then (if o<(rows.length+rows2.length)*k then .stable else .mine i) else σ b o
    TRel (Stab σ') w' (.slice (rows++rows2)) (.slice (some ⟨w.heap.size,0,none⟩) (rows.length+rows2.length) c')∧A85 σ' w' i k (.slice (some ⟨w.heap.size,0,none⟩) (rows.length+rows2.length) c')∧A86 σ' w' i (.slice (some ⟨w.heap.size,0,none⟩) (rows.length+rows2.length) c')):=by
 have hu:=A0w hE;have hu2:=A0w hE2;obtain ⟨inf,hi,hsz,hbb,hzz⟩: ∃inf,P.info? e=some inf∧inf.size=k∧inf.bytes=by'∧inf.zero=some z:=by
  unfold A0u at hk; unfold A0x at hby; unfold A01 at hz;cases hi:P.info? e with
  | none=>simp [hi] at hk
  | some inf=>simp [hi] at hk hby hz; exact ⟨inf,rfl,hk,hby,hz⟩
 subst hsz;obtain ⟨a',c1,vs,e1,_,hl,hn,hs,_,hg⟩:=hx.rowv hr1 h0;rw [ex] at e1;obtain ⟨rfl,_,rfl⟩:a=a'∧True∧c=c1:=by cases e1; exact ⟨rfl,trivial,rfl⟩
 obtain ⟨news,hsrc,hg2⟩:=hy.src hr2 h0 hu2;have hold:(Builtin.firstCells inf.size rows.length (.slice a rows.length c)).run P w.drew= .ok vs.toArray w.drew:=by
  cases a with
  | none=>
   have e:=(hn rfl).1;subst e;have:vs=[]:=by simpa using hl
   subst this;exact run_firstCells_none w.drew _ _ _ _
  | some ad=>exact run_firstCells_some w.drew _ _ ad _ _ vs hl (fun j u h=>by simpa using hs ad rfl j u h)
 have hrun:=run_append_grow_src w t tx ty e inf z hu hi hzz a rows.length c vs hold y rows2.length news hsrc hc (by omega) (by
  have h2:=nextslicecap_le hc;refine Yw (YJ _ h2) ?_
  rw [hbb,Nat.mul_assoc]; omega)
 have hge:=grownCap_ge w (rows.length+rows2.length) c e;generalize grownCap w (rows.length+rows2.length) c e=c' at hrun hge;have hnl:=hsrc.newsLen;generalize harr:((vs++news).toArray++Builtin.zeroCells z.cells (c'-(rows.length+rows2.length)))=arr at hrun;have hw: ∀b,b<w.heap.size->(w.drew.alloc (.cells arr e)).heap[b]? =w.heap[b]? :=fun b hb=>Below.heap_alloc w.drew _ b hb;have hnew:(w.drew.alloc (.cells arr e)).heap[w.heap.size]? =some (.cells arr e):=A5o w.drew _;have hcell: ∀o,(w.drew.alloc (.cells arr e)).cell? ⟨w.heap.size,o,none⟩=arr[o]? :=fun o=>by unfold World.cell?; rw [hnew]; rfl
 have hasz:arr.size=c'*inf.size:=by
  rw [<-harr];simp only [Array.size_append,Vk,size_zeroCells,hzs,Xv,hl,hnl,<-Vx];congr 1; omega
 have harrL: ∀m,m<rows.length*inf.size->arr[m]? =vs[m]? :=fun m hm=>by
  rw [<-harr,Wv (by simp [hl]; omega)];simp only [Wz];rw [Qw (by omega)]
 have harrR: ∀m,m<rows2.length*inf.size->arr[rows.length*inf.size+m]? =news[m]? :=fun m hm=>by
  rw [<-harr,Wv (by simp [hl,hnl]; omega)];simp only [Wz];rw [QW (by omega)];congr 1; omega
 refine ⟨c',w.drew.alloc (.cells arr e),by rw [ex]; exact hrun,rfl,rfl,rfl,⟨by simp,VV _⟩,hw,?_,?_,?_⟩
 ·have hmn: ∀S',TRel (Stab σ) w S'=TRel (Stab σ) w S':=fun _=>rfl
  have hup: ∀{t' v'},TRel (Stab σ) w t' v'->TRel (Stab fun b o=>if b=w.heap.size then (if o<(rows.length+rows2.length)*inf.size then .stable else .mine i) else σ b o) (w.drew.alloc (.cells arr e)) t' v':=fun h=>h.mono (fun b o u h1 h2=>by
   have hb:=cell_lt h2
   exact ⟨by simp only [Stab,Qx5 hb,if_false]; exact h1,by rw [cell_of_heap (hw b hb)]; exact h2⟩)
  have e3:(rows++rows2).length=rows.length+rows2.length:=Xv
  have:=TRel.ofCells (S:=Stab fun b o=>if b=w.heap.size then (if o<(rows.length+rows2.length)*inf.size then .stable else .mine i) else σ b o) (w:=w.drew.alloc (.cells arr e)) w.heap.size 0 inf.size c' (rows++rows2) (by rw [e3]; exact hge) (fun r hr=>by
    rcases XZ.1 hr with h | h
    ·exact hr1 r h
    ·exact hr2 r h) (fun p r j t' h3 h4=>by
   have hj:j<inf.size:=by
    have h5:=(Qx.1 h4).1;have h6:r.length=inf.size:=by
     rcases XZ.1 (Qv h3) with h | h
     ·exact hr1 r h
     ·exact hr2 r h
    omega
   have hp:p<rows.length+rows2.length:=by have:=(Qx.1 h3).1; omega
   have hpj:p*inf.size+j<(rows.length+rows2.length)*inf.size:=by
    have:(p+1)*inf.size≤(rows.length+rows2.length)*inf.size:=YJ _ hp;rw [Vx] at this; omega
   rw [XX];by_cases hpl:p<rows.length
   ·rw [Qw hpl] at h3;obtain ⟨u,q1,q2⟩:=hg p r j t' h3 h4;refine ⟨u,by simp [Stab,hpj],?_,hup q2⟩
    rw [hcell,harrL _ (by
     have:(p+1)*inf.size≤rows.length*inf.size:=YJ _ hpl
     rw [Vx] at this; omega)]
    exact q1
   ·rw [QW (by omega)] at h3;obtain ⟨u,q1,q2⟩:=hg2 (p-rows.length) r j t' h3 h4;refine ⟨u,by simp [Stab,hpj],?_,hup q2⟩;have e5:p*inf.size+j=rows.length*inf.size+((p-rows.length)*inf.size+j):=by
     rw [<-Wx,<-Vx]; congr 2; omega
    rw [hcell,e5,harrR _ (by
     have:(p-rows.length+1)*inf.size≤rows2.length*inf.size:=YJ _ (by omega)
     rw [Vx] at this; omega)]
    exact q1)
  rw [e3] at this;exact this
 ·refine .inr ⟨h0,w.heap.size,0,rfl,fun j h1 h2=>⟨by simp; omega,?_,?_⟩⟩
  ·rw [XX,hcell];exact ⟨_,QZ (by omega)⟩
  ·unfold World.frozen?; rw [hnew]; simp
 ·refine fun _=>⟨rfl,arr,e,arr.size,hnew,Qk _,?_⟩;have:(rows.length+rows2.length)*inf.size≤arr.size:=by rw [hasz]; exact YJ _ hge
  simp; omega
def B3U {t e:TypeId} {k:Nat} (hE:A03 P t=some (none,e)) (hk:A0u P e=some k) (h0:0<k)
  (tx:TypeId) (e2:TypeId) (hE2:A03 P tx=some (none,e2)) (ty:TypeId) (rows rows2:List (List Tree)) (hr1: ∀r,r∈rows->r.length=k) (hr2: ∀r,r∈rows2->r.length=k)
  (x y:Value) (hx:TRel (Stab σ) w (.slice rows) x) (hy:TRel (Stab σ) w (.slice rows2) y) (a:Option Addr) (c:Nat) (ex:x= .slice a rows.length c) (hc:rows.length+rows2.length≤c)
  (h2:0<rows2.length) (i:Nat) (hs:A85 σ w i k x):
  ∃w' σ',(Builtin.append_ #[t,tx] ty #[x,y]).run P w= .ok (.slice a (rows.length+rows2.length) c) w'∧Ext σ w σ' w'∧
   (∀b o u,σ b o= .stable->w.cell? ⟨b,o,none⟩=some u->σ' b o= .stable∧w'.cell? ⟨b,o,none⟩=some u)∧
   (∀b o u id,id≠i->σ b o= .mine id->w.cell? ⟨b,o,none⟩=some u->σ' b o= .mine id∧w'.cell? ⟨b,o,none⟩=some u∧w'.frozen? ⟨b,o,none⟩=w.frozen? ⟨b,o,none⟩)∧
   (∀b:Nat,(∃arr e fz,w.heap[b]? =some (Obj.cells arr e fz))-> ∃arr e fz,w'.heap[b]? =some (Obj.cells arr e fz))∧
   (∀(b:Nat) ob,w.heap[b]? =some ob->(∀arr e fz,ob≠Obj.cells arr e fz)->w'.heap[b]? =some ob∧ ∀o,σ' b o=σ b o)∧
   (∀g,g≠i->Calm g σ w σ' w')∧(∀id,MarkUp id σ w σ' w')∧(A86 σ w i x->A86 σ' w' i (.slice a (rows.length+rows2.length) c))∧
   TRel (Stab σ') w' (.slice (rows++rows2)) (.slice a (rows.length+rows2.length) c)∧A85 σ' w' i k (.slice a (rows.length+rows2.length) c):=by
 have hu:=A0w hE;have hu2:=A0w hE2;obtain ⟨inf,hi,hsz⟩: ∃inf,P.info? e=some inf∧inf.size=k:=by
  unfold A0u at hk;cases hi:P.info? e with
  | none=>simp [hi] at hk
  | some inf=>simp [hi] at hk; exact ⟨inf,rfl,hk⟩
 subst hsz;obtain ⟨news,hsrc,hg2⟩:=hy.src hr2 h0 hu2;have hnl:=hsrc.newsLen;rw [ex] at hs;obtain ⟨_,b,off,rfl,hj⟩:0<inf.size∧ ∃b off,a=some ⟨b,off,none⟩∧ ∀j,rows.length*inf.size≤j->j<c*inf.size->
   σ b (off+j)= .mine i∧(∃u,w.cell? ⟨b,off+j,none⟩=some u)∧w.frozen? ⟨b,off+j,none⟩=false:=by
  rcases hs with h | h
  ·omega
  ·exact h
 have hnm:(rows.length+rows2.length)*inf.size≤c*inf.size:=YJ _ hc;have hsp:(rows.length+rows2.length)*inf.size=rows.length*inf.size+rows2.length*inf.size:=Vx ..;have hpos:0<rows2.length*inf.size:=Nat.mul_pos h2 h0;have hin: ∀j,j<news.length->σ b (off+rows.length*inf.size+j)= .mine i∧(∃u,w.cell? ⟨b,off+rows.length*inf.size+j,none⟩=some u)∧w.frozen? ⟨b,off+rows.length*inf.size+j,none⟩=false:=fun j hjl=>by
  rw [Wx];exact hj _ (by omega) (by omega)
 have hrun:=run_append_room_src w t tx ty e inf hu hi b off rows.length c y rows2.length news hsrc hc (fun j h=>by obtain ⟨_,⟨u,q⟩,_⟩:=hin j h; simp [q]) (fun j h=>(hin j h).2.2);let σ':Sig:=fun b' o=>if b'=b∧off+rows.length*inf.size≤o∧o<off+rows.length*inf.size+news.length then .stable else σ b' o
 have hnot: ∀{b' o:Nat},σ b' o≠ .mine i-> ¬(b'=b∧off+rows.length*inf.size≤o∧o<off+rows.length*inf.size+news.length):=fun {b' o} hne ⟨e1,e2,e3⟩=>by
  subst e1;have:=(hin (o-(off+rows.length*inf.size)) (by omega)).1;rw [show off+rows.length*inf.size+(o-(off+rows.length*inf.size))=o by omega] at this;exact hne this
 have hcell: ∀{b' o:Nat},¬(b'=b∧off+rows.length*inf.size≤o∧o<off+rows.length*inf.size+news.length)->(w.setCells b (off+rows.length*inf.size) news).cell? ⟨b',o,none⟩=w.cell? ⟨b',o,none⟩:=fun {b' o} hne=>
  World.cell?_setCells_out b news _ w ⟨b',o,none⟩ (fun e1 _=>by
   simp only at e1 ⊢;rcases Vz o (off+rows.length*inf.size) with h | h
   ·exact .inl h
   ·exact .inr (by rcases Vz o (off+rows.length*inf.size+news.length) with h' | h'; exact absurd ⟨e1,h,h'⟩ hne; exact h'))
 have hst: ∀b' o u,σ b' o= .stable->w.cell? ⟨b',o,none⟩=some u->σ' b' o= .stable∧(w.setCells b (off+rows.length*inf.size) news).cell? ⟨b',o,none⟩=some u:=fun b' o u h1 h2=>by
  have hne:=hnot (b':=b') (o:=o) (by rw [h1]; simp);exact ⟨by simp only [σ',if_neg hne]; exact h1,by rw [hcell hne]; exact h2⟩
 have hmu: ∀id,MarkUp id σ w σ' (w.setCells b (off+rows.length*inf.size) news):=fun id b2 o2 arr2 e2 q1 q2 q3=>by
  have hne: ¬(b2=b∧off+rows.length*inf.size≤o2∧o2<off+rows.length*inf.size+news.length):=fun ⟨e1,e2,e3⟩=>by
   subst e1;obtain ⟨_,⟨u,hu⟩,_⟩:=hin (o2-(off+rows.length*inf.size)) (by omega);rw [show off+rows.length*inf.size+(o2-(off+rows.length*inf.size))=o2 by omega] at hu;unfold World.cell? at hu;simp only [q1] at hu;simp at hu;have:=(Xz.1 hu).1;omega
  exact ⟨by simp only [σ',if_neg hne]; exact q3,A3a b news _ w q1⟩
 refine ⟨_,σ',by rw [ex]; exact hrun,⟨?_,?_,?_,by rw [(A0Q b news _ w).2.2.2.1]; exact Qk _,hst,fun b' hb' hno=> ?_,fun b' o _ h1=> ?_,by rw [A21]; exact Qk _⟩,hst,fun b' o u id hid h1 h2=> ?_,fun b' h=>A6k b' _ _ _ h,fun b' ob h1 h2=> ?_,fun g hgi=> ?_,hmu,fun hx=> ?_,?_,?_⟩
 ·exact (A0Q b news _ w).1
 ·exact (A0Q b news _ w).2.1
 ·exact (A0Q b news _ w).2.2.1
 ·have hne:b'≠b:=fun e1=>by
   subst e1;exact hno _ i (hin 0 (by omega)).1
  exact ⟨(A0Q b news _ w).2.2.2.2 b' hne,fun o id=>by
   simp only [σ',hne,false_and,if_false]; exact hno o id⟩
 ·have hne:=hnot (b':=b') (o:=o) (by rw [h1]; simp);simp only [σ',if_neg hne]; exact h1
 ·have hne:=hnot (b':=b') (o:=o) (by rw [h1]; simp [hid]);exact ⟨by simp only [σ',if_neg hne]; exact h1,by rw [hcell hne]; exact h2,World.frozen?_setCells ..⟩
 ·have hne:b'≠b:=fun e1=>by
   subst e1;obtain ⟨_,⟨u,q⟩,_⟩:=hin 0 (by omega);unfold World.cell? at q;simp only [h1] at q;cases ob with
   | cells arr e fz=>exact h2 _ _ _ rfl
   | _=>simp at q
  exact ⟨by rw [(A0Q b news _ w).2.2.2.2 b' hne]; exact h1,fun o=>by simp only [σ',hne,false_and,if_false]⟩
 ·refine ⟨(A0Q b news _ w).1,(A0Q b news _ w).2.1,(A0Q b news _ w).2.2.1,by rw [(A0Q b news _ w).2.2.2.1]; exact Qk _,hst,fun b' hb' _ hg=> ?_,by rw [A21]; exact Qk _⟩;have hne:b'≠b:=fun e1=>by
   subst e1;have h9:=(hin 0 (by omega)).1;rcases hg (off+rows.length*inf.size+0) with h4 | h4
   ·rw [h9] at h4; cases h4; exact hgi rfl
   ·rw [h9] at h4; cases h4
  exact ⟨(A0Q b news _ w).2.2.2.2 b' hne,fun o=>by simp only [σ',hne,false_and,if_false]⟩
 ·rw [ex] at hx;exact fun hc=>let ⟨q0,arr,e,o,q1,q2,q3⟩:=hx hc; let ⟨r1,arr',r2,r3⟩:=hmu _ _ o arr e q1 q2 q3; ⟨q0,arr',e,o,r2,by omega,r1⟩
 ·have e3:(rows++rows2).length=rows.length+rows2.length:=Xv;have hup: ∀{t' v'},TRel (Stab σ) w t' v'->TRel (Stab σ') (w.setCells b (off+rows.length*inf.size) news) t' v':=fun h=>h.mono hst;have hold: ∀p r j t',rows[p]? =some r->r[j]? =some t'-> ∃u,σ b (off+(p*inf.size+j))= .stable∧w.cell? ⟨b,off+(p*inf.size+j),none⟩=some u∧TRel (Stab σ) w t' u:=by
   intro p r j t' h3 h4;rw [ex] at hx;cases hx with
   | nil=>simp at h3
   | slice b0 off0 k' c0 rows0 cell hn hk' hc' hr'=>
    have ek:k'=inf.size:=by rw [<-hr1 r (Qv h3),hk' r (Qv h3)]
    subst ek;exact ⟨_,(hc' p r j t' h3 h4).1,(hc' p r j t' h3 h4).2,hr' p r j t' h3 h4⟩
  have:=TRel.ofCells (S:=Stab σ') (w:=w.setCells b (off+rows.length*inf.size) news) b off inf.size c (rows++rows2) (by rw [e3]; exact hc) (fun r hr=>by
    rcases XZ.1 hr with h | h
    ·exact hr1 r h
    ·exact hr2 r h) (fun p r j t' h3 h4=>by
   by_cases hpl:p<rows.length
   ·rw [Qw hpl] at h3;obtain ⟨u,q1,q2,q3⟩:=hold p r j t' h3 h4;exact ⟨u,(hst _ _ _ q1 q2).1,(hst _ _ _ q1 q2).2,hup q3⟩
   ·rw [QW (by omega)] at h3;obtain ⟨u,q1,q2⟩:=hg2 (p-rows.length) r j t' h3 h4;have e5:off+(p*inf.size+j)=off+rows.length*inf.size+((p-rows.length)*inf.size+j):=by
     have:p*inf.size=rows.length*inf.size+(p-rows.length)*inf.size:=by rw [<-Vx]; congr 1; omega
     omega
    have hlt:(p-rows.length)*inf.size+j<news.length:=(Qx.1 q1).1;refine ⟨u,?_,?_,hup q2⟩
    ·rw [e5]; simp only [Stab,σ']; rw [if_pos ⟨by trivial,Nat.le_add_right _ _,Nat.add_lt_add_left hlt _⟩]
    ·rw [e5,World.cell?_setCells_in b news _ w (fun j h=>by obtain ⟨_,⟨u,q⟩,_⟩:=hin j h; simp [q]) _ hlt]
     rw [Qq hlt] at q1; exact q1)
  rw [e3] at this;exact this
 ·refine .inr ⟨h0,b,off,rfl,fun j h1 h2'=> ?_⟩;obtain ⟨q1,⟨u,q2⟩,q3⟩:=hj j (by omega) h2';have hne: ¬(b=b∧off+rows.length*inf.size≤off+j∧off+j<off+rows.length*inf.size+news.length):=fun ⟨_,e2,e3⟩=>by omega
  exact ⟨by simp only [σ',if_neg hne]; exact q1,⟨u,by rw [hcell hne]; exact q2⟩,by rw [World.frozen?_setCells]; exact q3⟩
end
section
variable {ι:List Nat} {σ σ':Sig} {w w':World} {H:List Blk} {P:Program}
def B3V {t e:TypeId} {k:Nat} (hE:A03 P t=some (none,e)) (hk:A0u P e=some k) (h0:0<k)
  (tx:TypeId) (e2:TypeId) (hE2:A03 P tx=some (none,e2)) (ty:TypeId) (y:Value) (hy:TRel (Stab σ) w (.slice []) y) (a:Option Addr) (n c:Nat) (hc:n≤c):
  (Builtin.append_ #[t,tx] ty #[.slice a n c,y]).run P w= .ok (.slice a n c) w:=by
 have hu:=A0w hE;have hu2:=A0w hE2;obtain ⟨inf,hi,hsz⟩: ∃inf,P.info? e=some inf∧inf.size=k:=by
  unfold A0u at hk;cases hi:P.info? e with
  | none=>simp [hi] at hk
  | some inf=>simp [hi] at hk; exact ⟨inf,rfl,hk⟩
 subst hsz;obtain ⟨news,hs,_⟩:=hy.src (k:=inf.size) (by simp) h0 hu2;have hnl:news=[]:=by have:=hs.newsLen; simpa using this
 subst hnl;have h1:=hs.len w;have h2:=hs.cells;simp only [List.length_nil] at h1 h2;cases a<;>simp [Builtin.append_,run_underlying hu,run_underlying hu2,sizeOf,typeInfo,hi,h1,h2,hc,storeCells]
def A5P {t e:TypeId} {k:Nat} (hE:A03 P t=some (none,e)) (hk:A0u P e=some k) (h0:0<k) (z:Value) (hz:A01 P e=some z) (hzs:z.cells.size=k) (by':Nat) (hby:A0x P e=some by')
  (tx:TypeId) (e2:TypeId) (hE2:A03 P tx=some (none,e2)) (ty:TypeId) (rows rows2:List (List Tree)) (hr1: ∀r,r∈rows->r.length=k) (hr2: ∀r,r∈rows2->r.length=k)
  (x y:Value) (hx:TRel (Stab σ) w (.slice rows) x) (hy:TRel (Stab σ) w (.slice rows2) y) (i:Nat) (hs:A85 σ w i k x)
  (hfit:(rows.length+rows2.length)*by'≤140737488355328) (h63:rows.length+rows2.length≤4611686018427387904):
  ∃v w' σ',(Builtin.append_ #[t,tx] ty #[x,y]).run P w= .ok v w'∧Ext σ w σ' w'∧
   (∀b o u,σ b o= .stable->w.cell? ⟨b,o,none⟩=some u->σ' b o= .stable∧w'.cell? ⟨b,o,none⟩=some u)∧
   (∀b o u id,(id≠i∨rows2.length=0)->σ b o= .mine id->w.cell? ⟨b,o,none⟩=some u->σ' b o= .mine id∧w'.cell? ⟨b,o,none⟩=some u∧w'.frozen? ⟨b,o,none⟩=w.frozen? ⟨b,o,none⟩)∧
   (∀b:Nat,(∃arr e fz,w.heap[b]? =some (Obj.cells arr e fz))-> ∃arr e fz,w'.heap[b]? =some (Obj.cells arr e fz))∧
   (∀(b:Nat) ob,w.heap[b]? =some ob->(∀arr e fz,ob≠Obj.cells arr e fz)->w'.heap[b]? =some ob∧ ∀o,σ' b o=σ b o)∧
   (∀g,(g≠i∨rows2.length=0)->Calm g σ w σ' w')∧(∀id,MarkUp id σ w σ' w')∧((A86 σ w i x∨ ∃a n,x= .slice a n n∧(0<rows2.length∨n=0))->A86 σ' w' i v)∧
   TRel (Stab σ') w' (.slice (rows++rows2)) v∧A85 σ' w' i k v:=by
 obtain ⟨a,c,vs,ex,hc,_⟩:=hx.rowv hr1 h0;rcases Qz6 rows2.length with hm | hm
 ·have e2':rows2=[]:=ZY.1 hm;subst e2';have:=B3V (σ:=σ) (w:=w) hE hk h0 tx e2 hE2 ty y hy a rows.length c hc;rw [<-ex] at this
  exact ⟨x,w,σ,this,Ext.refl ..,fun _ _ _ h h'=>⟨h,h'⟩,fun _ _ _ _ _ h h'=>⟨h,h',rfl⟩,fun _ h=>h,fun _ _ h _=>⟨h,fun _=>rfl⟩,fun _ _=>Calm.refl ..,fun _=>MarkUp.refl _ _ _,fun h=>by
   rcases h with h | ⟨a,n,e,h | h⟩
   ·exact h
   ·omega
   ·rw [e]; cases a with
    | none=>trivial
    | some a=>intro hc; omega,by simpa using hx,hs⟩
 ·rcases Vz c (rows.length+rows2.length) with hg | hg
  ·obtain ⟨c',w',h1,h2,h3,h4,h5,h6,h7,h8,h9⟩:=B2y hE hk h0 z hz hzs by' hby tx e2 hE2 ty rows rows2 hr1 hr2 x y hx hy a c ex hg hfit h63 i;have hsg: ∀b o,b<w.heap.size->(fun b o=>if b=w.heap.size then (if o<(rows.length+rows2.length)*k then Own.stable else .mine i) else σ b o) b o=σ b o:=fun b o hb=>by simp [Qx5 hb]
   refine ⟨_,w',_,h1,Ext.grow h2 h3 h4 h5.1 h6 hsg h5.2,fun b o u q1 q2=> ?_,fun b o u id _ q1 q2=> ?_,fun b q=> ?_,fun b ob q _=> ?_,fun g _=>Calm.grow ⟨h2,h3,h4,h5.1,h5.2⟩ h6 hsg,fun id=>MarkUp.of fun b o q1 q2 _=>⟨(hsg b o q1).trans q2,h6 b q1⟩,fun _=>h9,h7,h8⟩
   ·have hb:=cell_lt q2;exact ⟨(hsg b o hb).trans q1,by rw [cell_of_heap (h6 b hb)]; exact q2⟩
   ·have hb:=cell_lt q2;exact ⟨(hsg b o hb).trans q1,by rw [cell_of_heap (h6 b hb)]; exact q2,frozen_of_heap (h6 b hb) o⟩
   ·obtain ⟨arr,e',fz,q⟩:=q;exact ⟨arr,e',fz,by rw [h6 b (Xz.1 q).1]; exact q⟩
   ·have hb:=(Xz.1 q).1;exact ⟨by rw [h6 b hb]; exact q,fun o=>hsg b o hb⟩
  ·obtain ⟨w',σ',h1,h2,h3,h4,h5,h5',hcm,hmu,hmk,h6,h7⟩:=B3U hE hk h0 tx e2 hE2 ty rows rows2 hr1 hr2 x y hx hy a c ex hg hm i hs
   exact ⟨_,w',σ',h1,h2,h3,fun b o u id hid=>h4 b o u id (by rcases hid with h | h; exact h; omega),h5,h5',fun g hg=>hcm g (by rcases hg with h | h; exact h; omega),hmu,fun h=>by
    rcases h with h | ⟨a',n',e',_⟩
    ·exact hmk h
    ·rw [ex] at e'; cases e'; omega,h6,h7⟩
end
section ops
variable {P:Program} {rd:Option Nat} {o:Oper} {ρ:Operand->AVal} {H:List Blk}
def A4G (x y:Operand) (t tx:TypeId) (ho:o.op= .call { callee:= .builtin .append,args:= #[x,y],argTypes:= #[t,tx] }) (e:TypeId) (hE:A03 P t=some (none,e)) (e2:TypeId) (hE2:A03 P tx=some (none,e2))
  (k:Nat) (hk:A0u P e=some k) (h0:0<k) (z:Value) (hz:A01 P e=some z) (zs:List ACell) (hzz:(A0N z).stored=some zs) (hzs:zs.length=k) (by':Nat) (hby:A0x P e=some by')
  (rows rows2:List (List Tree)) (hr1: ∀r,r∈rows->r.length=k) (hr2: ∀r,r∈rows2->r.length=k) (hx:rowsOf (ρ x)=some rows) (hy:rowsOf (ρ y)=some rows2)
  (hex: ∀ι σ w v,VRel ι σ w H (ρ x) v-> ∃a n,v= .slice a n n∧(0<rows2.length∨n=0))
  (hfit:(rows.length+rows2.length)*by'≤140737488355328) (h63:rows.length+rows2.length≤4611686018427387904):
  AStep P rd o ρ H (.c (.slice (rows++rows2) (.chain H.length))) (H++[.chain (rows.length+rows2.length) k]):=by
 refine AStep.turn (by simp [ho]) fun ι σ a w hx' hH=> ?_;have vx:=hx' x (by simp [Op.operands,Call.operands,ho]);have vy:=hx' y (by simp [Op.operands,Call.operands,ho]);have tX:=A1X vx hx;have hzc:z.cells.size=k:=by
  have:=(A14 (A1n (ι:=ι) (σ:=σ) (w:=w) (H:=H) z) hzz).1;rw [this,hzs]
 have hsp:A85 σ w H.length k (a.eval x):=by
  obtain ⟨ad,n,e1,_⟩:=hex ι σ w _ vx;rw [e1]; exact .inl rfl
 obtain ⟨v,w',σ',h1,h2,h3,h4,h5,h5',hcm,hmu,hmk,h6,h7⟩:=A5P hE hk h0 z hz hzc by' hby tx e2 hE2 o.type rows rows2 hr1 hr2 _ _ tX (A1X vy hy) H.length hsp hfit h63;obtain ⟨hH',M⟩:=B1r (σ':=σ') (w':=w') hH H.length (rows.length+rows2.length) k (H++[.chain (rows.length+rows2.length) k]) (ι++[0]) h3 (fun b o u id hid=>h4 b o u id (.inl hid)) h5 h5' (fun g hg=>hcm g (.inl hg)) hmu (by simp [hH.1])
  (fun id b h=>by rw [Qw (Qx.1 h).1]; exact h) (fun id hid=>by
   by_cases hl:id<H.length
   ·rw [Qw hl]
   ·rw [Xq (by simp; omega),Xq (by omega)]) (by simp) (fun blk hb=>by simp at hb)
 refine ⟨v,w',ι++[0],σ',.inl ?_,⟨h6,rows.length+rows2.length,k,by simp,by simp,hmk (.inr (hex ι σ w _ vx)),fun _=>h7⟩,hH',M,h2⟩;simp [execOp,ho,resolve,invoke,builtin,h1]
def A3S (x y:Operand) (t tx:TypeId) (ho:o.op= .call { callee:= .builtin .append,args:= #[x,y],argTypes:= #[t,tx] }) (e:TypeId) (hE:A03 P t=some (none,e)) (e2:TypeId) (hE2:A03 P tx=some (none,e2))
  (k:Nat) (hk:A0u P e=some k) (h0:0<k) (z:Value) (hz:A01 P e=some z) (zs:List ACell) (hzz:(A0N z).stored=some zs) (hzs:zs.length=k) (by':Nat) (hby:A0x P e=some by')
  (rows rows2:List (List Tree)) (hr1: ∀r,r∈rows->r.length=k) (hr2: ∀r,r∈rows2->r.length=k) (i:Nat) (hx:ρ x= .c (.slice rows (.chain i))) (hy:rowsOf (ρ y)=some rows2)
  (hi:H[i]? =some (.chain rows.length k))
  (hfit:(rows.length+rows2.length)*by'≤140737488355328) (h63:rows.length+rows2.length≤4611686018427387904):
  AStep P rd o ρ H (.c (.slice (rows++rows2) (.chain i))) (H.set i (.chain (rows.length+rows2.length) k)):=by
 refine AStep.turn (by simp [ho]) fun ι σ a w hx' hH=> ?_;have vx:=hx' x (by simp [Op.operands,Call.operands,ho]);have vy:=hx' y (by simp [Op.operands,Call.operands,ho]);rw [hx] at vx;have tX:=vx.1;have hzc:z.cells.size=k:=by
  have:=(A14 (A1n (ι:=ι) (σ:=σ) (w:=w) (H:=H) z) hzz).1;rw [this,hzs]
 have hsp:A85 σ w i k (a.eval x):=by
  obtain ⟨tip,k',q1,_,_,q2⟩:=vx.2;rw [hi] at q1;cases q1;exact q2 rfl
 have hil:i<H.length:=(Qx.1 hi).1;obtain ⟨v,w',σ',h1,h2,h3,h4,h5,h5',hcm,hmu,hmk,h6,h7⟩:=A5P hE hk h0 z hz hzc by' hby tx e2 hE2 o.type rows rows2 hr1 hr2 _ _ tX (A1X vy hy) i hsp hfit h63;have hget:(H.set i (.chain (rows.length+rows2.length) k))[i]? =some (.chain (rows.length+rows2.length) k):=by simp [hil]
 have key:HRel ι σ' w' (H.set i (.chain (rows.length+rows2.length) k))∧Mono ι σ w H ι σ' w' (H.set i (.chain (rows.length+rows2.length) k)):=by
  rcases Qz6 rows2.length with hm | hm
  ·have e3:H.set i (.chain (rows.length+rows2.length) k)=H:=by
    apply Zq;intro j;by_cases hj:i=j
    ·subst hj; rw [hget,hi,hm]; rfl
    ·rw [Qy hj]
   rw [e3]
   have M:Mono ι σ w H ι σ' w' H:=⟨h3,fun _ _ h=>h,fun id tip k0 h=>⟨tip,k0,h,hmu _,.inr ⟨rfl,rfl,fun b o u q1 q2=>by
    obtain ⟨r1,r2,r3⟩:=h4 b o u id (.inr hm) q1 q2
    exact ⟨r1,⟨u,r2⟩,fun hf=>by rw [r3]; exact hf⟩⟩⟩⟩
   refine ⟨⟨hH.1,fun id blk b q1 q2=> ?_⟩,M⟩;have:=hH.2 id blk b q1 q2;cases blk with
   | box cs=>
    obtain ⟨hf,hc⟩:=this;refine ⟨h5 b hf,fun j c hj=> ?_⟩;obtain ⟨p1,p2,v,p3,p4⟩:=hc j c hj;obtain ⟨r1,r2,r3⟩:=h4 b j v id (.inr hm) p1 p3;exact ⟨r1,by rw [r3]; exact p2,v,r2,M.cell p4⟩
   | ro ts=>
    intro j t hj;obtain ⟨p1,v,p2,p3⟩:=this j t hj;obtain ⟨r1,r2⟩:=h3 b j v p1 p2;exact ⟨r1,v,r2,M.t p3⟩
   | roC ts=>
    intro j t hj;obtain ⟨p1,v,p2,p3⟩:=this j t hj;obtain ⟨r1,r2⟩:=h3 b j v p1 p2;exact ⟨r1,v,r2,M.k p3⟩
   | chain _ _=>trivial
   | dead=>trivial
   | map es=>
    obtain ⟨q1,arr,q2,q3,q4⟩:=this;obtain ⟨r1,r2⟩:=h5' b _ q2 (by intro _ _ _; simp);exact ⟨fun o=>by rw [r2]; exact q1 o,arr,r1,q3,fun j e x p1 p2=>⟨(q4 j e x p1 p2).1,(q4 j e x p1 p2).2.1,M.mv (q4 j e x p1 p2).2.2⟩⟩
   | iter m n seen=>
    obtain ⟨q1,bm,q2,q3⟩:=this;obtain ⟨r1,r2⟩:=h5' b _ q3 (by intro _ _ _; simp);exact ⟨fun o=>by rw [r2]; exact q1 o,bm,M.iota _ _ q2,r1⟩
   | ghost G=>exact ⟨this.2 _ _ _ _ (hcm _ (.inr hm)) this.1,this.2⟩
  ·exact B1r (σ':=σ') (w':=w') hH i (rows.length+rows2.length) k _ ι h3 (fun b o u id hid=>h4 b o u id (.inl hid)) h5 h5' (fun g hg=>hcm g (.inl hg)) hmu (by simp [hH.1]) (fun _ _ h=>h)
    (fun id hid=>Qy (Ne.symm hid)) hget (fun blk hb=>by rw [hi] at hb; cases hb; exact ⟨_,_,rfl,by omega⟩)
 refine ⟨v,w',ι,σ',.inl ?_,⟨h6,_,_,hget,by simp,hmk (.inl (let ⟨_,_,_,_,q,_⟩:=vx.2; q)),fun _=>h7⟩,key.1,key.2,h2⟩;simp [execOp,ho,resolve,invoke,builtin,h1]
def A7W (x y:Operand) (t tx:TypeId) (ho:o.op= .call { callee:= .builtin .append,args:= #[x,y],argTypes:= #[t,tx] }) (e:TypeId) (hE:A03 P t=some (none,e)) (e2:TypeId) (hE2:A03 P tx=some (none,e2))
  (k:Nat) (hk:A0u P e=some k) (h0:0<k) (z:Value) (hz:A01 P e=some z) (zs:List ACell) (hzz:(A0N z).stored=some zs) (hzs:zs.length=k) (by':Nat) (hby:A0x P e=some by')
  (rows rows2:List (List Tree)) (hr1: ∀r,r∈rows->r.length=k) (hr2: ∀r,r∈rows2->r.length=k) (i p:Nat) (hx:ρ x= .c (.slice rows (.tail i p))) (hy:rowsOf (ρ y)=some rows2)
  (hi:H[i]? =some (.chain p k))
  (hfit:(rows.length+rows2.length)*by'≤140737488355328) (h63:rows.length+rows2.length≤4611686018427387904):
  AStep P rd o ρ H (.c (.slice (rows++rows2) (.tail i (p+rows2.length)))) (H.set i (.chain (p+rows2.length) k)):=by
 refine AStep.turn (by simp [ho]) fun ι σ a w hx' hH=> ?_;have vx:=hx' x (by simp [Op.operands,Call.operands,ho]);have vy:=hx' y (by simp [Op.operands,Call.operands,ho]);rw [hx] at vx;have tX:=vx.1;have hzc:z.cells.size=k:=by
  have:=(A14 (A1n (ι:=ι) (σ:=σ) (w:=w) (H:=H) z) hzz).1;rw [this,hzs]
 have hsp:A85 σ w i k (a.eval x):=by
  obtain ⟨tip,k',q1,_,q2⟩:=vx.2;rw [hi] at q1;cases q1;exact q2 rfl
 have hil:i<H.length:=(Qx.1 hi).1;obtain ⟨v,w',σ',h1,h2,h3,h4,h5,h5',hcm,hmu,hmk,h6,h7⟩:=A5P hE hk h0 z hz hzc by' hby tx e2 hE2 o.type rows rows2 hr1 hr2 _ _ tX (A1X vy hy) i hsp hfit h63;have hget:(H.set i (.chain (p+rows2.length) k))[i]? =some (.chain (p+rows2.length) k):=by simp [hil]
 have key:HRel ι σ' w' (H.set i (.chain (p+rows2.length) k))∧Mono ι σ w H ι σ' w' (H.set i (.chain (p+rows2.length) k)):=by
  rcases Qz6 rows2.length with hm | hm
  ·have e3:H.set i (.chain (p+rows2.length) k)=H:=by
    apply Zq;intro j;by_cases hj:i=j
    ·subst hj; rw [hget,hi,hm]; rfl
    ·rw [Qy hj]
   rw [e3]
   have M:Mono ι σ w H ι σ' w' H:=⟨h3,fun _ _ h=>h,fun id tip k0 h=>⟨tip,k0,h,hmu _,.inr ⟨rfl,rfl,fun b o u q1 q2=>by
    obtain ⟨r1,r2,r3⟩:=h4 b o u id (.inr hm) q1 q2
    exact ⟨r1,⟨u,r2⟩,fun hf=>by rw [r3]; exact hf⟩⟩⟩⟩
   refine ⟨⟨hH.1,fun id blk b q1 q2=> ?_⟩,M⟩;have:=hH.2 id blk b q1 q2;cases blk with
   | box cs=>
    obtain ⟨hf,hc⟩:=this;refine ⟨h5 b hf,fun j c hj=> ?_⟩;obtain ⟨p1,p2,v,p3,p4⟩:=hc j c hj;obtain ⟨r1,r2,r3⟩:=h4 b j v id (.inr hm) p1 p3;exact ⟨r1,by rw [r3]; exact p2,v,r2,M.cell p4⟩
   | ro ts=>
    intro j t hj;obtain ⟨p1,v,p2,p3⟩:=this j t hj;obtain ⟨r1,r2⟩:=h3 b j v p1 p2;exact ⟨r1,v,r2,M.t p3⟩
   | roC ts=>
    intro j t hj;obtain ⟨p1,v,p2,p3⟩:=this j t hj;obtain ⟨r1,r2⟩:=h3 b j v p1 p2;exact ⟨r1,v,r2,M.k p3⟩
   | chain _ _=>trivial
   | dead=>trivial
   | map es=>
    obtain ⟨q1,arr,q2,q3,q4⟩:=this;obtain ⟨r1,r2⟩:=h5' b _ q2 (by intro _ _ _; simp);exact ⟨fun o=>by rw [r2]; exact q1 o,arr,r1,q3,fun j e x p1 p2=>⟨(q4 j e x p1 p2).1,(q4 j e x p1 p2).2.1,M.mv (q4 j e x p1 p2).2.2⟩⟩
   | iter m n seen=>
    obtain ⟨q1,bm,q2,q3⟩:=this;obtain ⟨r1,r2⟩:=h5' b _ q3 (by intro _ _ _; simp);exact ⟨fun o=>by rw [r2]; exact q1 o,bm,M.iota _ _ q2,r1⟩
   | ghost G=>exact ⟨this.2 _ _ _ _ (hcm _ (.inr hm)) this.1,this.2⟩
  ·exact B1r (σ':=σ') (w':=w') hH i (p+rows2.length) k _ ι h3 (fun b o u id hid=>h4 b o u id (.inl hid)) h5 h5' (fun g hg=>hcm g (.inl hg)) hmu (by simp [hH.1]) (fun _ _ h=>h)
    (fun id hid=>Qy (Ne.symm hid)) hget (fun blk hb=>by rw [hi] at hb; cases hb; exact ⟨_,_,rfl,by omega⟩)
 refine ⟨v,w',ι,σ',.inl ?_,⟨h6,_,_,hget,Qk _,fun _=>h7⟩,key.1,key.2,h2⟩;simp [execOp,ho,resolve,invoke,builtin,h1]
def A5Q (P:Program) (ρ:Operand->AVal) (H:List Blk) (x y:Operand) (t tx:TypeId) (K:AVal->List Blk->Prop):Prop:=
 match A03 P t,A03 P tx with
 | some (none,e),some (none,_)=>
  match A0u P e,A01 P e,A0x P e,rowsOf (ρ y) with
  | some k,some z,some by',some rows2=>
   match (A0N z).stored with
   | some zs=>0<k∧zs.length=k∧(∀r,r∈rows2->r.length=k)∧
    match ρ x with
    | .c .nils=>rows2.length*by'≤140737488355328∧rows2.length≤4611686018427387904∧K (.c (.slice rows2 (.chain H.length))) (H++[.chain rows2.length k])
    | .c (.slice rows .exact)=>(0<rows2.length∨rows=[])∧(∀r,r∈rows->r.length=k)∧(rows.length+rows2.length)*by'≤140737488355328∧rows.length+rows2.length≤4611686018427387904∧K (.c (.slice (rows++rows2) (.chain H.length))) (H++[.chain (rows.length+rows2.length) k])
    | .c (.slice rows (.chain i))=>(∀r,r∈rows->r.length=k)∧(rows.length+rows2.length)*by'≤140737488355328∧rows.length+rows2.length≤4611686018427387904∧
     match H[i]? with
     | some (.chain tip k')=>tip=rows.length∧k'=k∧K (.c (.slice (rows++rows2) (.chain i))) (H.set i (.chain (rows.length+rows2.length) k))
     | _=>False
    | .c (.slice rows (.tail i p))=>(∀r,r∈rows->r.length=k)∧(rows.length+rows2.length)*by'≤140737488355328∧rows.length+rows2.length≤4611686018427387904∧
     match H[i]? with
     | some (.chain tip k')=>tip=p∧k'=k∧K (.c (.slice (rows++rows2) (.tail i (p+rows2.length)))) (H.set i (.chain (p+rows2.length) k))
     | _=>False
    | _=>False
   | none=>False
  | _,_,_,_=>False
 | _,_=>False
def B1s {x y:Operand} {t tx:TypeId} {K:AVal->List Blk->Prop} (ho:o.op= .call { callee:= .builtin .append,args:= #[x,y],argTypes:= #[t,tx] }) (h:A5Q P ρ H x y t tx K): ∃rv H',AStep P rd o ρ H rv H'∧K rv H':=by
 unfold A5Q at h;split at h
 ·rename_i e e2 hE hE2;split at h
  ·rename_i k z by' rows2 hk hz hby hy;split at h
   ·rename_i zs hzz;obtain ⟨h0,h1,h2,h⟩:=h;split at h
    ·rename_i hx;have:=A4G (P:=P) (rd:=rd) (H:=H) x y t tx ho e hE e2 hE2 k hk h0 z hz zs hzz h1 by' hby [] rows2 (by simp) h2 (by rw [hx]; rfl) hy (fun ι σ w v hv=>by rw [hx] at hv; cases hv; exact ⟨_,_,rfl,.inr rfl⟩) (by simpa using h.1) (by simpa using h.2.1);exact ⟨_,_,this,by simpa using h.2.2⟩
    ·rename_i rows hx;obtain ⟨q0,q1,q2,q3,q4⟩:=h
     exact ⟨_,_,A4G (P:=P) (rd:=rd) (H:=H) x y t tx ho e hE e2 hE2 k hk h0 z hz zs hzz h1 by' hby rows rows2 q1 h2 (by rw [hx]; rfl) hy (fun ι σ w v hv=>by
      rw [hx] at hv;obtain ⟨a,n,e⟩:=hv.2;refine ⟨a,n,e,q0.imp id fun h=> ?_⟩;have h1:=hv.1;rw [e,h] at h1
      cases h1<;>rfl) q2 q3,q4⟩
    ·rename_i rows i hx;obtain ⟨q1,q2,q3,q4⟩:=h;split at q4
     ·rename_i tip k' hi;obtain ⟨rfl,rfl,q4⟩:=q4;exact ⟨_,_,A3S (P:=P) (rd:=rd) (H:=H) x y t tx ho e hE e2 hE2 k' hk h0 z hz zs hzz h1 by' hby rows rows2 q1 h2 i hx hy hi q2 q3,q4⟩
     ·exact q4.elim
    ·rename_i rows i p hx;obtain ⟨q1,q2,q3,q4⟩:=h;split at q4
     ·rename_i tip k' hi;obtain ⟨rfl,rfl,q4⟩:=q4;exact ⟨_,_,A7W (P:=P) (rd:=rd) (H:=H) x y t tx ho e hE e2 hE2 k' hk h0 z hz zs hzz h1 by' hby rows rows2 q1 h2 i _ hx hy hi q2 q3,q4⟩
     ·exact q4.elim
    ·exact h.elim
   ·exact h.elim
  ·exact h.elim
 ·exact h.elim
end ops
def B0h:AVal->Option ACap
 | .c (.ptr id off)=>some (.ptr id off)
 | .c (.ref id k off len cap)=>some (.ref id k off len cap)
 | .c x=>(A0a x).map .tree
 | _=>none
def B0i {c:ACap} {v:Value} (h:VRel ι σ w H x v) (hc:B0h x=some c):KRel ι σ w c v:=by
 unfold B0h at hc;split at hc
 ·cases hc; exact h
 ·cases hc; exact h
 ·rename_i x _ _;cases ht:A0a x with
  | none=>simp [ht] at hc
  | some t=>simp [ht] at hc; subst hc; exact A0y h ht
 ·cases hc
def bnd (ρ:Operand->AVal) (d:Int):Option Operand->Option Int
 | none=>some d
 | some x=>match ρ x with
  | .c (.int _ n)=>some n
  | _=>none
def A5r {ι:List Nat} {σ:Sig} {w:World} {H:List Blk} {ρ:Operand->AVal} {a:Act} {d n:Int} {x:Option Operand} (hx: ∀y,x=some y->VRel ι σ w H (ρ y) (a.eval y)) (h:bnd ρ d x=some n):
  (x=none∧n=d)∨ ∃k,x.map a.eval=some (.int k n):=by
 cases x with
 | none=>simp [bnd] at h; exact .inl ⟨rfl,h.symm⟩
 | some y=>
  have h1:=hx y rfl;simp only [bnd] at h;split at h
  ·rename_i k m e;cases h;rw [e] at h1;exact .inr ⟨k,by rw [Option.map_some,show a.eval y=_ from h1]⟩
  ·cases h
def A7e {P:Program} {w:World} (isS:Bool) (len cap:Nat) {lo hi mx:Option Value} {l h m:Int}
  (hl:(lo=none∧l=0)∨ ∃k,lo=some (.int k l)) (hh:(hi=none∧mx=none∧h=len)∨ ∃k,hi=some (.int k h)) (hm:(mx=none∧m=cap)∨ ∃k,mx=some (.int k m)) (h0:0≤l) (h1:l≤h) (h2:h≤m) (h3:m≤cap):
  (Instr.sliceBounds isS len cap lo hi mx).run P w= .ok (l.toNat,h.toNat,m.toNat) w:=by
 have e1:((h.toNat:Nat):Int)=h:=Int.toNat_of_nonneg (by omega);have e2:((m.toNat:Nat):Int)=m:=Int.toNat_of_nonneg (by omega);have b1: ∀k code,(Instr.sliceBound (.int k m) cap code).run P w= .ok m.toNat w:=fun k code=>run_sliceBound w k m cap code (by omega) h3;have b2: ∀k code,(Instr.sliceBound (.int k h) m.toNat code).run P w= .ok h.toNat w:=fun k code=>run_sliceBound w k h m.toNat code (by omega) (by omega);have b3: ∀k code,(Instr.sliceBound (.int k l) h.toNat code).run P w= .ok l.toNat w:=fun k code=>run_sliceBound w k l h.toNat code (by omega) (by omega);rcases hm with ⟨rfl,rfl⟩ | ⟨km,rfl⟩
 ·simp only [Int.toNat_natCast] at b2;rcases hh with ⟨rfl,_,rfl⟩ | ⟨kh,rfl⟩
  ·simp only [Int.toNat_natCast] at b3;rcases hl with ⟨rfl,rfl⟩ | ⟨kl,rfl⟩
   ·simp [Instr.sliceBounds]
   ·simp [Instr.sliceBounds,b3]
  ·rcases hl with ⟨rfl,rfl⟩ | ⟨kl,rfl⟩
   ·simp [Instr.sliceBounds,b2]
   ·simp [Instr.sliceBounds,b2,b3]
 ·rcases hh with ⟨_,e,_⟩ | ⟨kh,rfl⟩
  ·cases e
  ·rcases hl with ⟨rfl,rfl⟩ | ⟨kl,rfl⟩
   ·simp [Instr.sliceBounds,b1,b2]
   ·simp [Instr.sliceBounds,b1,b2,b3]
def TRel.part {rows:List (List Tree)} {a:Option Addr} {c:Nat} (h:TRel S w (.slice rows) (.slice a rows.length c)) {k:Nat} (hk: ∀r,r∈rows->r.length=k) (l n m:Nat) (h1:l≤n) (h2:n≤rows.length) (h3:n≤m):
  TRel S w (.slice ((rows.take n).drop l)) (sliced a l n m k):=by
 have hlen:((rows.take n).drop l).length=n-l:=by simp; omega
 unfold sliced;rcases Nat.eq_or_lt_of_le h1 with e | hlt
 ·subst e;have e2:(rows.take l).drop l=[]:=by apply ZY.1; rw [hlen]; omega
  rw [e2,Jv];exact .nil _ _
 ·have hne:rows≠[]:=by rintro rfl; simp at h2; omega
  rw [if_neg (by omega)];generalize hv:Value.slice a rows.length c=v at h;cases h with
  | nil=>exact absurd rfl hne
  | slice b off k' c' rows cell hn hk' hc hr=>
   cases hv;have ek:k'=k:=by
    have hm:=Xw (show 0<rows.length by omega);rw [<-hk _ hm,hk' _ hm]
   subst ek
   have:=TRel.ofCells (S:=S) (w:=w) b (off+l*k') k' (m-l) ((rows.take n).drop l) (by omega) (fun r hr'=>hk r (JZ (List.mem_of_mem_drop hr'))) (fun i r j t q1 q2=>by
    rw [YX] at q1;have hi:l+i<n:=by have:=(Qx.1 q1).1; simp at this; omega
    rw [Xx hi] at q1;have e5:off+l*k'+(i*k'+j)=off+((l+i)*k'+j):=by rw [Vx]; omega
    rw [e5]
    exact ⟨_,(hc _ r j t q1 q2).1,(hc _ r j t q1 q2).2,hr _ r j t q1 q2⟩)
   rw [hlen] at this;simp only [Option.map_some,Addr.add_lit];exact this
section ops
variable {P:Program} {rd:Option Nat} {o:Oper} {ρ:Operand->AVal} {H:List Blk}
def B1t (f:FuncId) (xs:Array Operand) (ho:o.op= .makeFunc (.func f) #[] xs) (caps:List ACap) (hc:(xs.toList.map ρ).mapM B0h=some caps):AStep P rd o ρ H (.c (.fn f caps)) H:=by
 refine AStep.value (by simp [ho]) fun ι σ a w hx' hH=>⟨.func (.func f) #[] (xs.map a.eval),by simp [execOp,ho,Instr.makeFunc],(xs.map a.eval).toList,rfl,?_,fun i c u h1 h2=> ?_⟩
 ·have:=(A08 hc).1;simp at this ⊢; omega
 ·obtain ⟨hl,hg⟩:=A08 hc;simp only [Array.toList_map,QQ] at h2;cases hi:xs.toList[i]? with
  | none=>simp [hi] at h2
  | some y=>
   simp [hi] at h2; subst h2;exact B0i (hx' y (by simp [Op.operands,ho]; exact Array.mem_of_getElem? (by simpa using hi))) (hg i (ρ y) c (by simp [hi]) h1)
def A7f (zs:List ACell) (n:Nat):List ACell:=(List.replicate n zs).flatten
def B8w {zs:List ACell}: ∀{n j:Nat},0<zs.length->j<n*zs.length->(A7f zs n)[j]? =zs[j%zs.length]? :=by
 intro n
 induction n with
 | zero=>intro j _ h; omega
 | succ n ih=>
  intro j h0 h;unfold A7f at ih ⊢;rw [List.replicate_succ,List.flatten_cons];by_cases hj:j<zs.length
  ·rw [Qw hj,Vw hj]
  ·rw [QW (by omega),ih h0 (by rw [Vx] at h; omega),<-Nat.mod_eq_sub_mod (by omega)]
def A7G (zs:List ACell) (n:Nat):(A7f zs n).length=n*zs.length:=by simp [A7f]
def C1Q {z:Value} {zs:List ACell} (h:A0I ι σ w H zs z.cells) (h0:0<zs.length) (n:Nat):A0I ι σ w H (A7f zs n) (madeCells z.cells (n*zs.length)):=by
 refine ⟨by rw [size_madeCells,A7G],fun j c u h1 h2=> ?_⟩;have hj:j<n*zs.length:=by have:=(Qx.1 h1).1; rwa [A7G] at this
 rw [B8w h0 hj] at h1;have hm:j%zs.length<z.cells.size:=by rw [h.1]; exact VZ _ h0
 simp only [madeCells,Array.getElem?_map,Array.getElem?_range] at h2;rw [if_pos hj] at h2;simp at h2; subst h2;rw [h.1];refine h.2 _ c _ h1 ?_;rw [QZ hm,getElem!_pos z.cells (j%zs.length) hm]
def A9Q (t:TypeId) (x y:Operand) (ho:o.op= .makeSlice t x y) (e:TypeId) (hE:A03 P t=some (none,e)) (k:Nat) (hk:A0u P e=some k) (h0:0<k) (z:Value) (hz:A01 P e=some z) (zs:List ACell) (hzz:(A0N z).stored=some zs) (hzs:zs.length=k)
  (by':Nat) (hby:A0x P e=some by') (k1 k2:IntKind) (l c:Int) (hx:ρ x= .c (.int k1 l)) (hy:ρ y= .c (.int k2 c)) (hl:0≤l) (hlc:l≤c) (hfit:(by':Int)*c≤281474976710656) (h63:c≤9223372036854775807):
  AStep P rd o ρ H (.c (.ref H.length k 0 l.toNat c.toNat)) (H++[.box (A7f zs c.toNat)]):=by
 refine AStep.turn (by simp [ho]) fun ι σ a w hx' hH=> ?_;have e1:a.eval x= .int k1 l:=by have:=hx' x (by simp [Op.operands,ho]); rw [hx] at this; exact this
 have e2:a.eval y= .int k2 c:=by have:=hx' y (by simp [Op.operands,ho]); rw [hy] at this; exact this
 obtain ⟨inf,hi,hsz,hbb,hzz'⟩: ∃inf,P.info? e=some inf∧inf.size=k∧inf.bytes=by'∧inf.zero=some z:=by
  unfold A0u at hk; unfold A0x at hby; unfold A01 at hz;cases hi:P.info? e with
  | none=>simp [hi] at hk
  | some inf=>simp [hi] at hk hby hz; exact ⟨inf,rfl,hk,hby,hz⟩
 have hcr:=A14 (A1n (ι:=ι) (σ:=σ) (w:=w) (H:=H) z) hzz;have hmr:=C1Q hcr (by omega) c.toNat;obtain ⟨ι',σ',⟨b,hb1,hb2⟩,h2,h3,h4⟩:=B2u hH e _ _ hmr;have hrun:=run_make (P:=P) w t e inf z (A0w hE) hi hzz' k1 k2 l c hl hlc (by rw [hbb]; exact hfit) h63;rw [hsz,<-hzs] at hrun;refine ⟨.slice (some ⟨w.heap.size,0,none⟩) l.toNat c.toNat,_,ι',σ',.inl ?_,⟨b,hb1,c.toNat,Qk _,?_⟩,h2,h3,h4⟩
 ·simp only [execOp,ho,e1,e2,Sem.run_bind,hrun,Result.andThen_ok,Sem.run_pure]
 ·cases hb2; rfl
def B3W {t e:TypeId} (h:A03 P t=some (none,e)):P.elem t=e:=by
 have:=A0w h;simp [Program.elem,this]
def A8C (t:TypeId) (x:Operand) (lo hi mx:Option Operand) (ho:o.op= .slice t x lo hi mx) (e:TypeId) (hE:A03 P t=some (none,e)) (k:Nat) (hk:A0u P e=some k) (rows:List (List Tree)) (hx:rowsOf (ρ x)=some rows) (hr: ∀r,r∈rows->r.length=k)
  (l h m:Int) (hl:bnd ρ 0 lo=some l) (hh:bnd ρ rows.length hi=some h) (hm:bnd ρ h mx=some m) (hhm:hi=none->mx=none) (h0:0≤l) (h1:l≤h) (h2:h≤m) (h3:m≤rows.length):
  AStep P rd o ρ H (.c (.slice ((rows.take h.toNat).drop l.toNat) (if mx.isSome∧m=h then .exact else .none))) H:=by
 refine AStep.value (by simp [ho]) fun ι σ a w hx' hH=> ?_;have vx:=A1X (hx' x (by simp [Op.operands,ho])) hx;obtain ⟨ad,c,ev,hc⟩: ∃ad c,a.eval x= .slice ad rows.length c∧rows.length≤c:=by
  generalize a.eval x=v at vx;cases vx with
  | nil ad c=>exact ⟨ad,c,rfl,Xj _⟩
  | slice b off k' c rows cell hn=>exact ⟨_,c,rfl,hn⟩
 rw [ev] at vx;have hu:=A0w hE;have hel:P.elem t=e:=B3W hE;have hu':P.underlying t=some (.slice (P.elem t)):=by rw [hel]; exact hu
 have hin: ∀{q:Option Operand},(q=lo∨q=hi∨q=mx)-> ∀y,q=some y->VRel ι σ w H (ρ y) (a.eval y):=fun {q} hq y hy=>hx' y (by subst hy; rcases hq with h | h | h<;>simp [Op.operands,ho,<-h]);have q1:=A5r (hin (q:=lo) (.inl rfl)) hl;have q2:=A5r (hin (q:=hi) (.inr (.inl rfl))) hh;have q3:=A5r (hin (q:=mx) (.inr (.inr rfl))) hm;let m':Int:=if mx.isSome then m else c
 have hb:=A7e (P:=P) (w:=w) true rows.length c (lo:=lo.map a.eval) (hi:=hi.map a.eval) (mx:=mx.map a.eval) (l:=l) (h:=h) (m:=m')
  (by rcases q1 with ⟨rfl,e⟩ | ⟨k,e⟩; exact .inl ⟨rfl,e⟩; exact .inr ⟨k,e⟩)
  (by rcases q2 with ⟨e1,e⟩ | ⟨k,e⟩; exact .inl ⟨by rw [e1]; rfl,by rw [hhm e1]; rfl,e⟩; exact .inr ⟨k,e⟩)
  (by
   rcases q3 with ⟨e1,e⟩ | ⟨k,e⟩
   ·exact .inl ⟨by rw [e1]; rfl,by simp [m',e1]⟩
   ·refine .inr ⟨k,?_⟩;have:mx.isSome=true:=by cases mx; simp at e; rfl
    simp only [m',this,if_true]; exact e) h0 h1 (by simp only [m']; split<;>omega) (by simp only [m']; split<;>omega)
 have hs:(Instr.sliceAt t (a.eval x) (lo.map a.eval) (hi.map a.eval) (mx.map a.eval)).run P w= .ok (sliced ad l.toNat h.toNat m'.toNat k) w:=by
  rw [ev,run_sliceAt_slice w t _ _ _ _ hu',run_slice_any w t ad _ _ hu',hb,hel];simp only [Result.andThen_ok,A1Q hk]
 refine ⟨_,by simp only [execOp,ho,Sem.run_bind,hs,Result.andThen_ok,Sem.run_pure],vx.part hr l.toNat h.toNat m'.toNat (by omega) (by omega) (by simp only [m']; split<;>omega),?_⟩;by_cases hcond:mx.isSome=true∧m=h
 ·rw [if_pos hcond];have:m'=h:=by simp only [m',hcond.1,if_true]; exact hcond.2
  rw [this];exact ⟨_,_,rfl⟩
 ·rw [if_neg hcond]; trivial
def A9R (t:TypeId) (x:Operand) (lo hi:Option Operand) (ho:o.op= .slice t x lo hi none) {e:TypeId} (hE:A03 P t=some (none,e)) (hk:A0u P e=some 1) {j off len cap:Nat} (hx:ρ x= .c (.ref j 1 off len cap))
  {l h:Nat} (hl:bnd ρ 0 lo=some (l:Int)) (hh:bnd ρ len hi=some (h:Int)) (h1:l≤h) (h2:h≤cap) (hlen:len≤cap) (h0:l=0∨l<cap):
  AStep P rd o ρ H (.c (.ref j 1 (off+l) (h-l) (cap-l))) H:=by
 refine AStep.value (by simp [ho]) fun ι σ a w hx' hH=> ?_;have vx:=hx' x (by simp [Op.operands,ho]);rw [hx] at vx;obtain ⟨b,hb,cap',hcap,ev⟩:=vx;have hu:=A0w hE;have hel:P.elem t=e:=B3W hE;have hu':P.underlying t=some (.slice (P.elem t)):=by rw [hel]; exact hu
 have hin: ∀{q:Option Operand},(q=lo∨q=hi)-> ∀y,q=some y->VRel ι σ w H (ρ y) (a.eval y):=fun {q} hq y hy=>hx' y (by subst hy; rcases hq with h | h<;>simp [Op.operands,ho,<-h]);have q1:=A5r (hin (q:=lo) (.inl rfl)) hl;have q2:=A5r (hin (q:=hi) (.inr rfl)) hh;have hbd:=A7e (P:=P) (w:=w) true len cap' (lo:=lo.map a.eval) (hi:=hi.map a.eval) (mx:=none) (l:=l) (h:=h) (m:=cap')
  (by rcases q1 with ⟨rfl,e⟩ | ⟨k,e⟩; exact .inl ⟨rfl,e⟩; exact .inr ⟨k,e⟩)
  (by rcases q2 with ⟨e1,e⟩ | ⟨k,e⟩; exact .inl ⟨by rw [e1]; rfl,rfl,e⟩; exact .inr ⟨k,e⟩) (.inl ⟨rfl,rfl⟩) (by omega) (by omega) (by omega) (Jj _)
 have hs:(Instr.sliceAt t (a.eval x) (lo.map a.eval) (hi.map a.eval) none).run P w= .ok (sliced (some ⟨b,off,none⟩) l h cap' 1) w:=by
  rw [ev,run_sliceAt_slice w t _ _ _ _ hu',run_slice_any w t _ _ _ hu',hbd,hel];simp only [Result.andThen_ok,A1Q hk,Int.toNat_natCast]
 have hv:sliced (some ⟨b,off,none⟩) l h cap' 1= .slice (some ⟨b,off+l,none⟩) (h-l) (cap'-l):=by
  unfold sliced;split
  ·have:l=0:=by omega
   subst this; rfl
  ·rw [Option.map_some,Wj];have:(⟨b,off,none⟩:Addr).add l=⟨b,off+l,none⟩:=by unfold Addr.add; split<;>simp_all
   rw [this]
 exact ⟨_,by simp only [execOp,ho,Option.map_none,Sem.run_bind,hs,Result.andThen_ok,Sem.run_pure],b,hb,cap'-l,by omega,hv⟩
end ops
def mIdx (es:List (MKey×MV)) (k:MKey):Option Nat:=es.findIdx? (fun e=>e.1==k)
def A8D (es:List (MKey×MV)) (k:MKey):Nat:=(mIdx es k).getD es.length
def A7g (es:List (MKey×MV)) (k:MKey) (z:MV):MV:=((mIdx es k).bind fun i=>(es[i]?).map (·.2)).getD z
def C1R (es:List (MKey×MV)) (k:MKey):Bool:=(mIdx es k).isSome
def C1S (es:List (MKey×MV)) (k:MKey) (z:MV):List (MKey×MV):=if C1R es k then es else es++[(k,z)]
def B3X (es:List (MKey×MV)) (k:MKey) (v:MV):List (MKey×MV):=match mIdx es k with
 | some i=>es.set i (k,v)
 | none=>es++[(k,v)]
def C7u (es:List (MKey×MV)) (j:Nat) (v:MV):List (MKey×MV):=match es[j]? with
 | some e=>es.set j (e.1,v)
 | none=>es
def B2z {es:List (MKey×MV)} {k:MKey} {i:Nat} (h:mIdx es k=some i): ∃v,es[i]? =some (k,v):=by
 unfold mIdx at h;obtain ⟨hi,h1,_⟩:=Qj0.1 h;refine ⟨es[i].2,?_⟩;rw [Qq hi];have:es[i].1=k:=by simpa using h1
 rw [<-this]
inductive KShape where
 | int
 | ints (n:Nat)
 | str
def KShape.ok:KShape->MKey->Bool
 | .int,.int _=>true
 | .ints n,.ints l=>l.length==n&&l.all (fun x=>decide (-9223372036854775808≤x)&&decide (x≤9223372036854775807))
 | .str,.str _=>true
 | _,_=>false
structure KeyLaw (P:Program) (kt:TypeId) (s:KShape):Prop where
 check: ∀em w k,s.ok k=true->(Instr.checkKey em 10000 kt k.kv).run P w= .ok () w
 find: ∀w k (es:List MapEntry) (l:List (MKey×MV)),s.ok k=true->(∀e,e∈l->s.ok e.1=true)->es.length=l.length->(∀(j:Nat) e x,l[j]? =some e->es[j]? =some x->x.key=e.1.kv)->
  (Instr.findKey kt k.kv es).run P w= .ok ((mIdx l k).bind fun i=>(es[i]?).map fun e=>(i,e.val)) w
 stays: ∀w k,s.ok k=true->(Instr.keyThatStays k.kv k.kv).run P w= .ok k.kv w
def A5B:MV->AVal
 | .c t=> .c (A0v t)
 | .agg ts=> .agg (ts.map A0v)
def B20:AVal->Option MV
 | .c x=>(A0a x).map .c
 | .agg cs=>(cs.mapM A0a).map .agg
 | .tup _=>none
def intOf:ACell->Option Int
 | .int .i64 n=>some n
 | _=>none
def A2N:AVal->Option MKey
 | .c (.int .i64 n)=>some (.int n)
 | .c (.str s)=>some (.str s)
 | .agg cs=>(cs.mapM intOf).map .ints
 | _=>none
section
variable {ι:List Nat} {σ σ':Sig} {w w':World} {H:List Blk}
def A4H {m:MV} {v:Value} (h:A3G σ w m v):A2F ι σ w H (A5B m) v:=by
 cases m with
 | c t=>exact A0C h
 | agg ts=>obtain ⟨vs,e,hl,h⟩:=h; exact ⟨vs,e,A5O hl h⟩
def C1T {v:Value} (h:A2F ι σ w H x v):VRel ι σ w H x v:=by
 cases x with
 | c x=>exact h
 | agg cs=>exact h
 | tup xs=>exact h.elim
def A8i {m:MV} {v:Value} (h:VRel ι σ w H x v) (hm:B20 x=some m):A3G σ w m v:=by
 cases x with
 | c x=>
  simp only [B20] at hm;cases ht:A0a x with
  | none=>simp [ht] at hm
  | some t=>simp [ht] at hm; subst hm; exact A0y h ht
 | agg cs=>
  simp only [B20] at hm;cases ht:cs.mapM A0a with
  | none=>simp [ht] at hm
  | some ts=>
   simp [ht] at hm; subst hm;obtain ⟨hl,hg⟩:=A08 ht;obtain ⟨vs,e,hsz,hc⟩:=h;refine ⟨vs,e,by omega,fun j t u h1 h2=> ?_⟩;have hj:j<cs.length:=by have:=(Qx.1 h1).1; omega
   have hcj:=Qq hj;exact A0y (hc j _ u hcj h2) (hg j _ t hcj h1)
 | tup xs=>simp [B20] at hm
def A8E {k:MKey} {v:Value} (h:VRel ι σ w H x v) (hk:A2N x=some k):v=k.kv:=by
 unfold A2N at hk;split at hk
 ·cases hk; exact h
 ·cases hk; exact h
 ·rename_i cs;cases ht:cs.mapM intOf with
  | none=>simp [ht] at hk
  | some l=>
   simp [ht] at hk; subst hk;obtain ⟨hl,hg⟩:=A08 ht;obtain ⟨vs,rfl,hsz,hc⟩:=h;simp only [MKey.kv];congr 1;apply Array.ext
   ·simp; omega
   ·intro i h1 h2;have hi:i<cs.length:=by omega
    have hil:i<l.length:=by omega
    have e1:=hc i _ _ (Qq hi) (QZ h1);have e2:=hg i _ _ (Qq hi) (Qq hil);unfold intOf at e2;split at e2
    ·rename_i n e; cases e2; rw [e] at e1;rw [show vs[i]=_ from e1]; simp
    ·cases e2
 ·cases hk
def B0j (hH:HRel ι σ w H) {id b:Nat} {blk0 blk':Blk} (hid:H[id]? =some blk0) (hi:ι[id]? =some b) (hmine: ∀o,σ b o= .mine id) {ob ob':Obj} (hob:w.heap[b]? =some ob) (hnc: ∀arr e fz,ob≠Obj.cells arr e fz) (hnc': ∀arr e fz,ob'≠Obj.cells arr e fz)
  (hch: ∀tip k,blk0≠ .chain tip k) (hnew:Mono ι σ w H ι σ (w.putObj b ob') (H.set id blk')->(w.putObj b ob').heap[b]? =some ob'->A3N ι σ (w.putObj b ob') (H.set id blk') id b blk'):
  HRel ι σ (w.putObj b ob') (H.set id blk')∧Mono ι σ w H ι σ (w.putObj b ob') (H.set id blk')∧Ext σ w σ (w.putObj b ob'):=by
 have hlt:b<w.heap.size:=(Xz.1 hob).1;have hsame:(w.putObj b ob').heap[b]? =some ob':=World.putObj_heap_same hlt;have hoth: ∀{b':Nat},b'≠b->(w.putObj b ob').heap[b']? =w.heap[b']? :=fun h=>World.putObj_heap_other h;have hcell: ∀b' o,(w.putObj b ob').cell? ⟨b',o,none⟩=w.cell? ⟨b',o,none⟩:=fun b' o=>by
  by_cases e:b'=b
  ·subst e;unfold World.cell?;rw [hsame,hob];cases ob with
   | cells arr e fz=>exact (hnc _ _ _ rfl).elim
   | _=>cases ob' with
    | cells arr e fz=>exact (hnc' _ _ _ rfl).elim
    | _=>rfl
  ·exact cell_of_heap (hoth e) o
 have hfz: ∀b' o,(w.putObj b ob').frozen? ⟨b',o,none⟩=w.frozen? ⟨b',o,none⟩:=fun b' o=>by
  by_cases e:b'=b
  ·subst e;unfold World.frozen?;rw [hsame,hob];cases ob with
   | cells arr e fz=>exact (hnc _ _ _ rfl).elim
   | _=>cases ob' with
    | cells arr e fz=>exact (hnc' _ _ _ rfl).elim
    | _=>rfl
  ·exact frozen_of_heap (hoth e) o
 have hidl:id<H.length:=(Qx.1 hid).1;have M:Mono ι σ w H ι σ (w.putObj b ob') (H.set id blk'):=by
  refine ⟨fun b' o u h1 h2=>⟨h1,by rw [hcell]; exact h2⟩,fun _ _ h=>h,fun id' tip k h=>⟨tip,k,?_,MarkUp.of fun b' o q1 q2 ⟨arr,e,q3⟩=>⟨q2,hoth (by rintro rfl; rw [hob] at q3; cases q3; exact hnc _ _ _ rfl)⟩,.inr ⟨rfl,rfl,fun b' o u h1 h2=>⟨h1,⟨u,by rw [hcell]; exact h2⟩,fun h3=>by rw [hfz]; exact h3⟩⟩⟩⟩;by_cases e:id=id'
  ·subst e; rw [hid] at h; cases h; exact (hch _ _ rfl).elim
  ·rw [Qy e]; exact h
 refine ⟨⟨by simp [hH.1],fun id' blk b' h1 h2=> ?_⟩,M,rfl,rfl,rfl,by simp,fun b' o v h1 h2=>⟨h1,by rw [hcell]; exact h2⟩,fun b' hb' hn=>⟨hoth ?_,hn⟩,fun _ _ _ h=>h,Qk _⟩
 ·by_cases e:id=id'
  ·subst e;rw [hi] at h2; cases h2;rw [QX hidl] at h1;cases h1;exact hnew M hsame
  ·rw [Qy e] at h1;have:=hH.2 id' blk b' h1 h2;cases blk with
   | box cs=>
    obtain ⟨⟨arr,e',fz,ha⟩,hc⟩:=this;have hbb:b'≠b:=by rintro rfl; rw [hob] at ha; cases ha; exact hnc _ _ _ rfl
    refine ⟨⟨arr,e',fz,by rw [hoth hbb]; exact ha⟩,fun j c hj=> ?_⟩;obtain ⟨q1,q2,v,q3,q4⟩:=hc j c hj;exact ⟨q1,by rw [hfz]; exact q2,v,by rw [hcell]; exact q3,M.cell q4⟩
   | ro ts=>
    intro j t hj;obtain ⟨q1,v,q2,q3⟩:=this j t hj;exact ⟨q1,v,by rw [hcell]; exact q2,M.t q3⟩
   | roC ts=>
    intro j t hj;obtain ⟨q1,v,q2,q3⟩:=this j t hj;exact ⟨q1,v,by rw [hcell]; exact q2,M.k q3⟩
   | chain _ _=>trivial
   | dead=>trivial
   | map es=>
    obtain ⟨q1,arr,q2,q3,q4⟩:=this;have hbb:b'≠b:=by rintro rfl; have:=q1 0; rw [hmine] at this; cases this; exact e rfl
    exact ⟨q1,arr,by rw [hoth hbb]; exact q2,q3,fun j e x p1 p2=>⟨(q4 j e x p1 p2).1,(q4 j e x p1 p2).2.1,M.mv (q4 j e x p1 p2).2.2⟩⟩
   | iter m n seen=>
    obtain ⟨q1,bm,q2,q3⟩:=this;have hbb:b'≠b:=by rintro rfl; have:=q1 0; rw [hmine] at this; cases this; exact e rfl
    exact ⟨q1,bm,q2,by rw [hoth hbb]; exact q3⟩
   | ghost G=>
    refine ⟨this.2 σ w _ _ (show Calm id' σ w σ (w.putObj b ob') from ⟨rfl,rfl,rfl,by simp,M.stab,fun b2 hb2 _ hg=>⟨hoth ?_,fun _=>rfl⟩,Qk _⟩) this.1,this.2⟩;rintro rfl;rcases hg 0 with h4 | h4
    ·rw [hmine] at h4; cases h4; exact e rfl
    ·rw [hmine] at h4; cases h4
 ·rintro rfl; exact hn 0 id (hmine 0)
def C3L (hH:HRel ι σ w H) (ob:Obj) (blk:Blk) (hnew: ∀ι' σ',Mono ι σ w H ι' σ' (w.alloc ob) (H++[blk])->(∀o,σ' w.heap.size o= .mine H.length)->(w.alloc ob).heap[w.heap.size]? =some ob->ι'[H.length]? =some w.heap.size->A3N ι' σ' (w.alloc ob) (H++[blk]) H.length w.heap.size blk):
  ∃ι' σ',ι'[H.length]? =some w.heap.size∧HRel ι' σ' (w.alloc ob) (H++[blk])∧Mono ι σ w H ι' σ' (w.alloc ob) (H++[blk])∧Ext σ w σ' (w.alloc ob):=by
 have hw: ∀b,b<w.heap.size->(w.alloc ob).heap[b]? =w.heap[b]? :=fun b hb=>Below.heap_alloc w _ b hb;have hs: ∀b o,b<w.heap.size->(σ.new w.heap.size (.mine H.length)) b o=σ b o:=fun b o hb=>by simp [Sig.new,Qx5 hb]
 have hsz:w.heap.size≤(w.alloc ob).heap.size:=by simp
 have M:Mono ι σ w H (ι++[w.heap.size]) (σ.new w.heap.size (.mine H.length)) (w.alloc ob) (H++[blk]):=Mono.grow hw hs _ _;have hi:(ι++[w.heap.size])[H.length]? =some w.heap.size:=by simp [<-hH.1]
 refine ⟨ι++[w.heap.size],σ.new w.heap.size (.mine H.length),hi,hH.grow hw hs ⟨rfl,rfl,rfl,hsz,Qk _⟩ _ _ rfl (fun j blk' b h1 h2=> ?_),M,Ext.grow rfl rfl rfl hsz hw hs (Qk _)⟩;cases j with
 | succ j=>simp at h1
 | zero=>
  simp at h1 h2;subst h1; subst h2;exact hnew _ _ M (fun o=>by simp [Sig.new]) (A5o w _) hi
end
