/- Our layer over the machine: values of a running function as plain data, and the rules by which they step; part 3. -/
import Derived.Test.YtdbdfkohpjefjaaGreatLayerB
import Derived.KernelRfl
import Derived.DeepKeys3
import Derived.MapKept
import Derived.Shelf.SlSortCmp.WholeK
import Derived.Shelf.Sort.Plain
import Derived.Shelf.Slices.In.SortNone
import Derived.Shelf.SlSortCmp.Whole1
set_option linter.all false
namespace Go.Sp
open Go.RowKit
def B29 {P:Program} {rd:Option Nat} {σ:Sig} {w:World} (h2:RdOK rd σ w) (fn:FuncId) (tmps:Array Value) (ps:Array Tmp) (assign body:Code):
  ∃l mark W1 d,∃Ds:List Nat,(Instr.enterLoop fn tmps ps assign body rd).run P w= .ok (l,mark) W1∧mark=Ds.map (fun D=>({ target:= .collected D,args:= #[] }:Deferred))∧Ds.Nodup∧
   (∀D,D∈Ds->w.heap.size≤D∧D<l∧W1.heap[D]? =some (.deferred (some [])))∧w.heap.size≤l∧W1.heap.size=l+1∧
   W1.heap[l]? =some (.loop { state:= .ready,pending:=none,fn,tmps,params:=ps,assign,body,defers:=d })∧
   (∀b,b<w.heap.size->W1.heap[b]? =w.heap[b]?)∧W1.os=w.os∧W1.tape=w.tape∧W1.output=w.output∧W1.drawn=w.drawn:=by
 cases rd with
 | none=>
  refine ⟨_,_,_,w.heap.size,[w.heap.size],run_enterLoop_outer _ _ _ _ _,rfl,by simp,fun D hD=> ?_,by omega,by simp,?_,fun b hb=> ?_,rfl,rfl,rfl,rfl⟩
  ·simp at hD; subst hD;refine ⟨Qk _,by omega,?_⟩;rw [Below.heap_alloc _ _ _ (by simp)]; exact World.alloc_heap_new w _
  ·have:=World.alloc_heap_new (w.alloc (.deferred (some []))) (.loop { state:= .ready,pending:=none,fn,tmps,params:=ps,assign,body,defers:=w.heap.size });rwa [World.size_alloc] at this
  ·rw [Below.heap_alloc _ _ _ (by simp; omega),Below.heap_alloc _ _ _ hb]
 | some l0=>
  obtain ⟨_,_,r0,hr⟩:=h2 l0 rfl;refine ⟨_,_,_,r0.defers,[],run_enterLoop_inner hr _ _ _ _ _,rfl,by simp,by simp,Qk _,by simp,World.alloc_heap_new w _,fun b hb=>Below.heap_alloc _ _ _ hb,rfl,rfl,rfl,rfl⟩
def Kb (σ:Sig) (b:Nat):Prop:=(∃o,σ b o= .mine 0)∧ ∀o,σ b o= .mine 0∨σ b o= .stable
def A45 (tm:List AVal) (ps:List Tmp) (ts:List TVal):List AVal:=(ps.zip ts).foldl (fun tm p=>tm.set p.1 (ofT p.2)) tm
variable {ι:List Nat} {σ:Sig} {w:World} {H:List Blk}
def B8A: ∀(ps:List Tmp) (ts:List TVal) (vs:List Value) (tm:List AVal) (tmps:Array Value),vs.length=ts.length->
  (∀(j:Nat) x u,ts[j]? =some x->vs[j]? =some u->TVRel (Stab σ) w x u)->TmpsRel ι σ w H tm tmps->
  TmpsRel ι σ w H (A45 tm ps ts) ((ps.zip vs).foldl (fun t p=>t.setIfInBounds p.1 p.2) tmps):=by
 intro ps
 induction ps with
 | nil=>intro ts vs tm tmps _ _ h; exact h
 | cons p ps ih=>
  intro ts vs tm tmps hl hv h;cases ts with
  | nil=>cases vs with
   | nil=>exact h
   | cons v vs=>simp at hl
  | cons t ts=>cases vs with
   | nil=>simp at hl
   | cons v vs=>
    simp only [A45,List.zip_cons_cons,List.foldl_cons];refine ih ts vs _ _ (by simpa using hl) (fun j x u h1 h2=>hv (j+1) x u (by simpa using h1) (by simpa using h2)) ?_;exact A0K (a:={ tmps:=tmps,defers:=[] }) (d:=some p) h (A3b (hv 0 t v rfl rfl))
section held
variable {ι:List Nat} {σ:Sig} {w w':World} {H:List Blk}
def Mono.held (hb: ∀b,b<w.heap.size->(∃o j,σ b o= .mine j)->w'.heap[b]? =w.heap[b]?) (hs: ∀b o u,σ b o= .stable->w.cell? ⟨b,o,none⟩=some u->w'.cell? ⟨b,o,none⟩=some u):
  Mono ι σ w H ι σ w' H:=
 ⟨fun b o u h1 h2=>⟨h1,hs b o u h1 h2⟩,fun _ _ h=>h,fun id tip k h=>⟨tip,k,h,MarkUp.of fun b o q1 q2 _=>⟨q2,hb b q1 ⟨o,id,q2⟩⟩,.inr ⟨rfl,rfl,fun b o u h1 h2=>by
  have e:=hb b (cell_lt h2) ⟨o,id,h1⟩
  exact ⟨h1,⟨u,by rw [cell_of_heap e]; exact h2⟩,fun h3=>by rw [frozen_of_heap e]; exact h3⟩⟩⟩⟩
def HRel.held (hH:HRel ι σ w H) (hok: ∀blk,blk∈H->blk≠ .box []) (hq:w'.os=w.os∧w'.tape=w.tape∧w'.output=w.output∧w.heap.size≤w'.heap.size∧w.drawn≤w'.drawn)
  (hb: ∀b,b<w.heap.size->(∃o j,σ b o= .mine j)->w'.heap[b]? =w.heap[b]?) (hs: ∀b o u,σ b o= .stable->w.cell? ⟨b,o,none⟩=some u->w'.cell? ⟨b,o,none⟩=some u):HRel ι σ w' H:=by
 have M:Mono ι σ w H ι σ w' H:=Mono.held hb hs;refine ⟨hH.1,fun id blk b h1 h2=> ?_⟩;have:=hH.2 id blk b h1 h2;have hokb:=hok blk (Qv h1);cases blk with
 | box cs=>
  obtain ⟨⟨arr,e,fz,ha⟩,hc⟩:=this;have hbl:b<w.heap.size:=(Xz.1 ha).1;cases cs with
  | nil=>exact absurd rfl hokb
  | cons c0 cs=>
   have eh:=hb b hbl ⟨0,id,(hc 0 c0 rfl).1⟩;refine ⟨⟨arr,e,fz,by rw [eh]; exact ha⟩,fun j c hj=> ?_⟩;obtain ⟨q1,q2,v,q3,q4⟩:=hc j c hj;exact ⟨q1,by rw [frozen_of_heap eh]; exact q2,v,by rw [cell_of_heap eh]; exact q3,M.cell q4⟩
 | ro ts=>
  intro j t hj;obtain ⟨q1,v,q2,q3⟩:=this j t hj;exact ⟨q1,v,hs b j v q1 q2,M.t q3⟩
 | roC ts=>
  intro j t hj;obtain ⟨q1,v,q2,q3⟩:=this j t hj;exact ⟨q1,v,hs b j v q1 q2,M.k q3⟩
 | chain _ _=>trivial
 | dead=>trivial
 | map es=>
  obtain ⟨q1,arr,q2,q3,q4⟩:=this;have eh:=hb b (Xz.1 q2).1 ⟨0,id,q1 0⟩;exact ⟨q1,arr,by rw [eh]; exact q2,q3,fun j e x p1 p2=>⟨(q4 j e x p1 p2).1,(q4 j e x p1 p2).2.1,M.mv (q4 j e x p1 p2).2.2⟩⟩
 | iter i n seen=>
  obtain ⟨q1,bm,q2,q3⟩:=this;have eh:=hb b (Xz.1 q3).1 ⟨0,id,q1 0⟩;exact ⟨q1,bm,q2,by rw [eh]; exact q3⟩
 | ghost G=>exact ⟨this.2 _ _ _ _ (show Calm id σ w σ w' from ⟨hq.1,hq.2.1,hq.2.2.1,hq.2.2.2.1,M.stab,fun b hbl ⟨o,ho⟩ _=>⟨hb b hbl ⟨o,id,ho⟩,fun _=>rfl⟩,hq.2.2.2.2⟩) this.1,this.2⟩
end held
noncomputable def nrm (σ:Sig) (w:World):Sig:=fun b o=>if w.heap.size≤b then .foreign else σ b o
section nrm
variable {ι:List Nat} {σ:Sig} {w:World} {H:List Blk}
def A43 {b o:Nat} (h:b<w.heap.size):nrm σ w b o=σ b o:=by simp [nrm,Nat.not_le.2 h]
def B8B {b o:Nat} (h:w.heap.size≤b):nrm σ w b o= .foreign:=by simp [nrm,h]
def Mono.nrm:Mono ι σ w H ι (nrm σ w) w H:=
 ⟨fun b o u h1 h2=>⟨by rw [A43 (cell_lt h2)]; exact h1,h2⟩,fun _ _ h=>h,fun id tip k h=>⟨tip,k,h,MarkUp.of fun b o q1 q2 _=>⟨by rw [A43 q1]; exact q2,rfl⟩,.inr ⟨rfl,rfl,fun b o u h1 h2=>⟨by rw [A43 (cell_lt h2)]; exact h1,⟨u,h2⟩,fun h3=>h3⟩⟩⟩⟩
def HRel.nrm (hH:HRel ι σ w H):HRel ι (nrm σ w) w H:=by
 have:=hH.grow (σ':=Sp.nrm σ w) (w':=w) (fun _ _=>rfl) (fun b o hb=>A43 hb) ⟨rfl,rfl,rfl,Qk _,Qk _⟩ [] [] rfl (fun j blk b h1 _=>by simp at h1);simpa using this
end nrm
structure ExtL (l:Nat) (σ:Sig) (w:World) (σ':Sig) (w':World):Prop where
 os:w'.os=w.os
 tape:w'.tape=w.tape
 output:w'.output=w.output
 size:w.heap.size≤w'.heap.size
 keep: ∀b o v,σ b o= .stable->w.cell? ⟨b,o,none⟩=some v->σ' b o= .stable∧w'.cell? ⟨b,o,none⟩=some v
 obj: ∀b,b<w.heap.size->b≠l->(∀o id,σ b o≠ .mine id)->w'.heap[b]? =w.heap[b]? ∧ ∀o id,σ' b o≠ .mine id
 back: ∀b o,b<w.heap.size->σ b o= .foreign->σ' b o= .foreign
 drawn:w.drawn≤w'.drawn
def Ext.l {l:Nat} {σ σ':Sig} {w w':World} (h:Ext σ w σ' w'):ExtL l σ w σ' w':=⟨h.os,h.tape,h.output,h.size,h.keep,fun b hb _ hn=>h.obj b hb hn,h.back,h.drawn⟩
def ExtL.trans {l:Nat} {σ σ' σ'':Sig} {w w' w'':World} (h:ExtL l σ w σ' w') (h':ExtL l σ' w' σ'' w''):ExtL l σ w σ'' w'' where
 os:=h'.os.trans h.os
 tape:=h'.tape.trans h.tape
 output:=h'.output.trans h.output
 size:=Yw h.size h'.size
 drawn:=Yw h.drawn h'.drawn
 keep b o v hs hc:=let ⟨a,c⟩:=h.keep b o v hs hc; h'.keep b o v a c
 back b o hb hs:=h'.back b o (ZW hb h.size) (h.back b o hb hs)
 obj b hb hl hn:=let ⟨e,hn'⟩:=h.obj b hb hl hn; let ⟨e',hn''⟩:=h'.obj b (ZW hb h.size) hl hn'; ⟨e'.trans e,hn''⟩
variable {st:St}
section put
variable {ι:List Nat} {σ:Sig} {w:World} {H:List Blk} {l:Nat} {r:Loop} (r':Loop)
def A37 (hl:w.heap[l]? =some (.loop r)) (a:Addr):(w.putObj l (.loop r')).cell? a=w.cell? a:=by
 have hlt:l<w.heap.size:=(Xz.1 hl).1;unfold World.cell?;by_cases e:a.block=l
 ·rw [e,World.putObj_heap_same hlt,hl]
 ·rw [World.putObj_heap_other e]
def B6U (hl:w.heap[l]? =some (.loop r)) (a:Addr):(w.putObj l (.loop r')).frozen? a=w.frozen? a:=by
 have hlt:l<w.heap.size:=(Xz.1 hl).1;unfold World.frozen?;by_cases e:a.block=l
 ·rw [e,World.putObj_heap_same hlt,hl]
 ·rw [World.putObj_heap_other e]
def Mono.put (hl:w.heap[l]? =some (.loop r)):Mono ι σ w H ι σ (w.putObj l (.loop r')) H:=
 ⟨fun b o u h1 h2=>⟨h1,by rw [A37 r' hl]; exact h2⟩,fun _ _ h=>h,fun id tip k h=>⟨tip,k,h,MarkUp.of fun b o q1 q2 ⟨arr,e,q3⟩=>⟨q2,World.putObj_heap_other (by rintro rfl; rw [hl] at q3; cases q3)⟩,.inr ⟨rfl,rfl,fun b o u h1 h2=>⟨h1,⟨u,by rw [A37 r' hl]; exact h2⟩,fun h3=>by rw [B6U r' hl]; exact h3⟩⟩⟩⟩
def ExtL.put (hl:w.heap[l]? =some (.loop r)):ExtL l σ w σ (w.putObj l (.loop r')):=
 ⟨rfl,rfl,rfl,by simp,fun b o v h1 h2=>⟨h1,by rw [A37 r' hl]; exact h2⟩,fun b _ hb hn=>⟨World.putObj_heap_other hb,hn⟩,fun _ _ _ h=>h,Qk _⟩
def Calm.put (hl:w.heap[l]? =some (.loop r)) (hf: ∀o,σ l o= .foreign) (g:Nat):Calm g σ w σ (w.putObj l (.loop r')):=
 ⟨rfl,rfl,rfl,by simp,fun b o v h1 h2=>⟨h1,by rw [A37 r' hl]; exact h2⟩,fun b _ ⟨o,ho⟩ _=>⟨World.putObj_heap_other (by rintro rfl; rw [hf] at ho; cases ho),fun _=>rfl⟩,Qk _⟩
def SRel.put {a:Act} (h:SRel ι σ st a w) (hl:w.heap[l]? =some (.loop r)) (hf: ∀o,σ l o= .foreign):SRel ι σ st a (w.putObj l (.loop r')):=
 h.cells (A37 r' hl) (fun b ob h1 _ h3=>by rw [World.putObj_heap_other (by rintro rfl; rw [hl] at h1; cases h1; exact h3 _ rfl)]; exact h1) (Calm.put r' hl hf)
def MarksOK.put {N:Nat} {ds:List Deferred} (h:MarksOK N ds σ w) (hl:w.heap[l]? =some (.loop r)):MarksOK N ds σ (w.putObj l (.loop r')):=by
 obtain ⟨Ds,h1,h2,h3⟩:=h;refine ⟨Ds,h1,h2,fun D hD=> ?_⟩;obtain ⟨q1,q2,q3,q4⟩:=h3 D hD;exact ⟨q1,by simpa using q2,by rw [World.putObj_heap_other (by rintro rfl; rw [hl] at q3; cases q3)]; exact q3,q4⟩
end put
def Mono.le {ι ι':List Nat} {σ σ':Sig} {w w':World} {H H':List Blk} {h m:Nat} (hm:h≤m) (M:Mono (ι.take m) σ w (H.take m) ι' σ' w' H'):Mono (ι.take h) σ w (H.take h) ι' σ' w' H':=by
 have:=M.take h;rwa [List.take_take,List.take_take,Qq6 hm] at this
def C45 (w:World) (b:Nat): ∃o,w.cell? ⟨b,o,none⟩=none:=by
 cases hb:w.heap[b]? with
 | none=>exact ⟨0,by simp [World.cell?,hb]⟩
 | some ob=>
  cases ob with
  | cells arr e fz=>exact ⟨arr.size,by simp [World.cell?,hb]⟩
  | _=>exact ⟨0,by simp [World.cell?,hb]⟩
structure Base (ι0:List Nat) (σ0:Sig) (w0:World) (H0:List Blk) (hb:Nat) (tm0:List AVal) (a0:Act) (l:Nat) (Ds:List Nat) (r:Loop) (σ:Sig) (w:World) (ιc:List Nat) (σc:Sig) (H:List Blk):Prop where
 tmps:TmpsRel ιc σc w H tm0 a0.tmps
 heap:HRel ιc σc w H
 ok: ∀blk,blk∈H->blk≠ .box []
 ext:Ext σ0 w0 σc w
 mono:Mono (ι0.take hb) σ0 w0 (H0.take hb) ιc σc w H
 rcd:w.heap[l]? =some (.loop r)
 lfor: ∀o,σc l o= .foreign
 dfr: ∀D,D∈Ds->w.heap[D]? =some (.deferred (some []))∧ ∀o,σc D o= .foreign
 cC: ∀b,b<w.heap.size->(∃o j,σc b o= .mine j)->Kb σ b∧ ∀o,σ b o= .stable->σc b o= .stable∧ ∃u,w.cell? ⟨b,o,none⟩=some u
 cD: ∀b o,σc b o= .stable->Kb σ b∨(σ b o= .stable∧ ∃u,w.cell? ⟨b,o,none⟩=some u)
 cE: ∀b,b≤l->Kb σ b
 cF: ∀b o,b<w0.heap.size->σ b o= .stable->σ0 b o≠ .foreign
 cN: ∀b o,w.heap.size≤b->σc b o= .foreign
section base
variable {ι0:List Nat} {σ0:Sig} {w0:World} {H0:List Blk} {hb:Nat} {tm0:List AVal} {a0:Act} {l:Nat} {Ds:List Nat} {r:Loop} {σ σ':Sig} {w w':World} {ιc:List Nat} {σc:Sig} {H:List Blk}
def Base.calm (hl:w0.heap.size≤l) (hDs: ∀D,D∈Ds->D<l) (B:Base ι0 σ0 w0 H0 hb tm0 a0 l Ds r σ w ιc σc H) (c:Calm 0 σ w σ' w'):Base ι0 σ0 w0 H0 hb tm0 a0 l Ds r σ' w' ιc σc H:=by
 have hlw:l<w.heap.size:=(Xz.1 B.rcd).1;have K: ∀{b},Kb σ b->b<w.heap.size->w'.heap[b]? =w.heap[b]? ∧ ∀o,σ' b o=σ b o:=fun h h'=>c.blk _ h' h.1 h.2;have K': ∀{b},Kb σ b->b<w.heap.size->Kb σ' b:=fun {b} h h'=>by
  obtain ⟨_,e⟩:=K h h';obtain ⟨⟨o,ho⟩,ha⟩:=h;exact ⟨⟨o,by rw [e]; exact ho⟩,fun o=>by rw [e]; exact ha o⟩
 have ltN: ∀{b o},σc b o≠ .foreign->b<w.heap.size:=fun {b o} h=>by
  rcases Vz b w.heap.size with h' | h'
  ·exact h'
  ·exact absurd (B.cN b o h') h
 have hbk: ∀b,b<w.heap.size->(∃o j,σc b o= .mine j)->w'.heap[b]? =w.heap[b]? :=fun b hb hm=>(K (B.cC b hb hm).1 hb).1;have hst: ∀b o u,σc b o= .stable->w.cell? ⟨b,o,none⟩=some u->w'.cell? ⟨b,o,none⟩=some u:=fun b o u h1 h2=>by
  rcases B.cD b o h1 with h | ⟨h,_⟩
  ·rw [cell_of_heap (K h (cell_lt h2)).1]; exact h2
  ·exact (c.keep b o u h h2).2
 have M:Mono ιc σc w H ιc σc w' H:=Mono.held hbk hst;refine ⟨B.tmps.mono M,B.heap.held B.ok ⟨c.os,c.tape,c.output,c.size,c.drawn⟩ hbk hst,B.ok,?_,B.mono.trans M,?_,B.lfor,fun D hD=> ?_,fun b hb hm=> ?_,fun b o hs=> ?_,fun b hb=>K' (B.cE b hb) (by omega),fun b o hb hs=> ?_,fun b o hb=>B.cN b o (Yw c.size hb)⟩
 ·exact ⟨c.os.trans B.ext.os,c.tape.trans B.ext.tape,c.output.trans B.ext.output,Yw B.ext.size c.size,fun b o v h1 h2=>let ⟨q1,q2⟩:=B.ext.keep b o v h1 h2; ⟨q1,hst b o v q1 q2⟩,
   fun b hb hn=>let ⟨q1,q2⟩:=B.ext.obj b hb hn; ⟨(K (B.cE b (by omega)) (by have:=B.ext.size; omega)).1.trans q1,q2⟩,B.ext.back,Yw B.ext.drawn c.drawn⟩
 ·exact (K (B.cE l (Qk _)) hlw).1.trans B.rcd
 ·obtain ⟨q1,q2⟩:=B.dfr D hD;have:=hDs D hD;exact ⟨(K (B.cE D (by omega)) (by omega)).1.trans q1,q2⟩
 ·have hbw:b<w.heap.size:=by obtain ⟨o,j,h⟩:=hm; exact ltN (o:=o) (by rw [h]; simp)
  obtain ⟨q1,q2⟩:=B.cC b hbw hm;obtain ⟨e1,e2⟩:=K q1 hbw;refine ⟨K' q1 hbw,fun o ho=> ?_⟩;rw [e2] at ho;obtain ⟨s1,u,s2⟩:=q2 o ho;exact ⟨s1,u,by rw [cell_of_heap e1]; exact s2⟩
 ·have hbw:b<w.heap.size:=ltN (o:=o) (by rw [hs]; simp);rcases B.cD b o hs with h | ⟨h,u,hu⟩
  ·exact .inl (K' h hbw)
  ·obtain ⟨q1,q2⟩:=c.keep b o u h hu;exact .inr ⟨q1,u,q2⟩
 ·rw [(K (B.cE b (by omega)) (by have:=B.ext.size; omega)).2] at hs;exact B.cF b o hb hs
def Base.put (r':Loop) (hl:w0.heap.size≤l) (B:Base ι0 σ0 w0 H0 hb tm0 a0 l Ds r σ w ιc σc H):Base ι0 σ0 w0 H0 hb tm0 a0 l Ds r' σ (w.putObj l (.loop r')) ιc σc H:=by
 have hlw:l<w.heap.size:=(Xz.1 B.rcd).1;have S:SRel ιc σc ⟨tm0,H⟩ a0 w:=⟨B.tmps,B.heap⟩;have S':=S.put r' B.rcd B.lfor;have M:Mono ιc σc w H ιc σc (w.putObj l (.loop r')) H:=Mono.put r' B.rcd;refine ⟨S'.tmps,S'.heap,B.ok,?_,B.mono.trans M,World.putObj_heap_same hlw,B.lfor,fun D hD=> ?_,fun b hb hm=> ?_,fun b o hs=> ?_,B.cE,B.cF,fun b o hb=>B.cN b o (by simpa using hb)⟩
 ·have e:=B.ext
  exact ⟨e.os,e.tape,e.output,by simpa using e.size,fun b o v h1 h2=>let ⟨q1,q2⟩:=e.keep b o v h1 h2; ⟨q1,by rw [A37 r' B.rcd]; exact q2⟩,
   fun b hb hn=>let ⟨q1,q2⟩:=e.obj b hb hn; ⟨(World.putObj_heap_other (by omega)).trans q1,q2⟩,e.back,e.drawn⟩
 ·obtain ⟨q1,q2⟩:=B.dfr D hD;exact ⟨by rw [World.putObj_heap_other (by rintro rfl; rw [B.rcd] at q1; cases q1)]; exact q1,q2⟩
 ·obtain ⟨q1,q2⟩:=B.cC b (by simpa using hb) hm;exact ⟨q1,fun o ho=>let ⟨s1,u,s2⟩:=q2 o ho; ⟨s1,u,by rw [A37 r' B.rcd]; exact s2⟩⟩
 ·rcases B.cD b o hs with h | ⟨h,u,hu⟩
  ·exact .inl h
  ·exact .inr ⟨h,u,by rw [A37 r' B.rcd]; exact hu⟩
end base
def RQ (h:Nat) (I:Nat->List Blk->Prop) (Ix:Exit->List Blk->Prop) (k:Nat):Exit->St->Prop
 | .normal,s=> ∃s',Weak h s s'∧I (k+1) s'.heap
 | .ret,s=> ∃s',Weak h s s'∧Ix .ret s'.heap
 | .exit id,s=> ∃s',Weak h s s'∧Ix (.exit id) s'.heap
 | _,_=>False
def codeOf:Exit->Option Code
 | .ret=>some .ret
 | .exit id=>some (.exit id)
 | _=>none
section step
variable {P:Program} {ι0:List Nat} {σ0:Sig} {w0:World} {H0:List Blk} {hb:Nat} {tm0:List AVal} {a0:Act} {l:Nat} {Ds:List Nat}
def C73 {assign body:Code} {ps:Array Tmp} {fn:FuncId} {d:Nat} {I:Nat->List Blk->Prop} {Ix:Exit->List Blk->Prop} {ts:List TVal} {k:Nat}
  (hl:w0.heap.size≤l) (hDs: ∀D,D∈Ds->w0.heap.size≤D∧D<l) (hin:A3T hb tm0) (hps:ts.length=ps.size)
  (hokI: ∀H,I (k+1) H-> ∀blk,blk∈H->blk≠ .box []) (hokX: ∀e H,Ix e H-> ∀blk,blk∈H->blk≠ .box [])
  (hround: ∀H,I k H->AWp P (some l) hb assign (A2G (AWp P (some l) hb body (RQ hb I Ix k)) (fun _ _=>False)) ⟨A45 tm0 ps.toList ts,H⟩):
  YStep P l (fun σ w=> ∃ιc σc H,I k H∧Base ι0 σ0 w0 H0 hb tm0 a0 l Ds { state:= .ready,pending:=none,fn,tmps:=a0.tmps,params:=ps,assign,body,defers:=d } σ w ιc σc H) ts
   (fun σ w=> ∃ιc σc H,I (k+1) H∧Base ι0 σ0 w0 H0 hb tm0 a0 l Ds { state:= .ready,pending:=none,fn,tmps:=a0.tmps,params:=ps,assign,body,defers:=d } σ w ιc σc H)
   (fun σ w=> ∃ιc σc H e c,codeOf e=some c∧Ix e H∧Base ι0 σ0 w0 H0 hb tm0 a0 l Ds { state:= .done,pending:=some c,fn,tmps:=a0.tmps,params:=ps,assign,body,defers:=d } σ w ιc σc H):=by
 classical
 rintro σ w vs ⟨ιc,σc,H,hI,B⟩ hvl hv;have hlw:l<w.heap.size:=(Xz.1 B.rcd).1;refine ⟨fn,_,assign,body,run_yield B.rcd (by simp [hvl,hps]),roundIn_of_wpIn trivial ?_⟩;let σ1:Sig:=fun b o=>if σc b o= .foreign∧σ b o= .stable∧(∃u,w.cell? ⟨b,o,none⟩=some u) then .stable else σc b o
 have s1nf: ∀{b o},σc b o≠ .foreign->σ1 b o=σc b o:=fun {b o} h=>by simp [σ1,h]
 have s1mine: ∀{b o j},σ1 b o= .mine j->σc b o= .mine j:=fun {b o j} h=>by
  simp only [σ1] at h; split at h
  ·cases h
  ·exact h
 have s1for: ∀{b o},σ1 b o= .foreign->σc b o= .foreign:=fun {b o} h=>by
  simp only [σ1] at h; split at h
  ·cases h
  ·exact h
 have nocell: ∀{b o:Nat} {ob:Obj},w.heap[b]? =some ob->(∀arr e fz,ob≠ .cells arr e fz)->w.cell? ⟨b,o,none⟩=none:=fun {b o ob} h hn=>by
  unfold World.cell?;simp only [h];cases ob with
  | cells arr e fz=>exact absurd rfl (hn _ _ _)
  | _=>rfl
 have M1:Mono ιc σc w H ιc σ1 w H:=⟨fun b o u h1 h2=>⟨by rw [s1nf (by rw [h1]; simp)]; exact h1,h2⟩,fun _ _ h=>h,fun id tip k h=>⟨tip,k,h,MarkUp.of fun b o q1 q2 _=>⟨by rw [s1nf (by rw [q2]; simp)]; exact q2,rfl⟩,.inr ⟨rfl,rfl,fun b o u h1 h2=>⟨by rw [s1nf (by rw [h1]; simp)]; exact h1,⟨u,h2⟩,fun h3=>h3⟩⟩⟩⟩;have H1:HRel ιc σ1 w H:=by
  refine ⟨B.heap.1,fun id blk b h1 h2=> ?_⟩;have:=B.heap.2 id blk b h1 h2;cases blk with
  | box cs=>
   obtain ⟨ha,hc⟩:=this;exact ⟨ha,fun j c hj=>let ⟨q1,q2,v,q3,q4⟩:=hc j c hj; ⟨by rw [s1nf (by rw [q1]; simp)]; exact q1,q2,v,q3,M1.cell q4⟩⟩
  | ro ts=>exact fun j t hj=>let ⟨q1,v,q2,q3⟩:=this j t hj; ⟨by rw [s1nf (by rw [q1]; simp)]; exact q1,v,q2,M1.t q3⟩
  | roC ts=>exact fun j t hj=>let ⟨q1,v,q2,q3⟩:=this j t hj; ⟨by rw [s1nf (by rw [q1]; simp)]; exact q1,v,q2,M1.k q3⟩
  | chain _ _=>trivial
  | dead=>trivial
  | map es=>
   obtain ⟨q1,arr,q2,q3,q4⟩:=this;exact ⟨fun o=>by rw [s1nf (by rw [q1]; simp)]; exact q1 o,arr,q2,q3,fun j e x p1 p2=>⟨(q4 j e x p1 p2).1,(q4 j e x p1 p2).2.1,M1.mv (q4 j e x p1 p2).2.2⟩⟩
  | iter i n seen=>
   obtain ⟨q1,bm,q2,q3⟩:=this;exact ⟨fun o=>by rw [s1nf (by rw [q1]; simp)]; exact q1 o,bm,q2,q3⟩
  | ghost G=>
   refine ⟨this.2 _ _ _ _ (show Calm id σc w σ1 w from ⟨rfl,rfl,rfl,Qk _,M1.stab,fun b _ _ ha=>⟨rfl,fun o=>s1nf (by rcases ha o with h | h<;>simp [h])⟩,Qk _⟩) this.1,this.2⟩
 have lfor1: ∀o,σ1 l o= .foreign:=fun o=>by simp [σ1,nocell (o:=o) B.rcd (by intro _ _ _; simp),B.lfor o]
 have dfor1: ∀D,D∈Ds-> ∀o,σ1 D o= .foreign:=fun D hD o=>by
  obtain ⟨q1,q2⟩:=B.dfr D hD;simp [σ1,nocell (o:=o) q1 (by intro _ _ _; simp),q2 o]
 have T1:TmpsRel ιc σ1 w H tm0 a0.tmps:=B.tmps.mono M1;have S1:SRel ιc σ1 ⟨A45 tm0 ps.toList ts,H⟩ { tmps:=(ps.zip vs.toArray).foldl (fun t (p,v)=>t.setIfInBounds p v) a0.tmps,defers:=[] } w:=by
  refine ⟨?_,H1⟩;have:=B8A ps.toList ts vs tm0 a0.tmps hvl (fun j x u h1 h2=>(hv j x u h1 h2).mono fun b o u h3 h4=>⟨?_,h4⟩) T1
  ·rw [<-Array.foldl_toList,Array.toList_zip];exact this
  ·show σ1 b o= .stable;have h3':σ b o= .stable:=h3;by_cases hf:σc b o= .foreign
   ·simp only [σ1]; rw [if_pos ⟨hf,h3',u,h4⟩]
   ·rw [s1nf hf];cases hc:σc b o with
    | stable=>rfl
    | foreign=>exact absurd hc hf
    | mine j=>have:=((B.cC b (cell_lt h4) ⟨o,j,hc⟩).2 o h3').1; rw [hc] at this; cases this
 have R1:RdOK (some l) σ1 w:=fun l' e=>by cases e; exact ⟨hlw,lfor1,_,B.rcd⟩
 refine B54 (n:=9) (wpIn_mono ((hround H hI).out 0 ιc σ1 _ w S1 R1 (Xj _) (MarksOK.nil ..)) ?_);rintro e a1 w1 ⟨ι1,σ2,st1,q,r1,r2,r3,r4⟩;cases e with
 | exit id=>exact q.elim
 | goto l=>exact q.elim
 | ret=>exact q.elim
 | panic ch=>exact q.elim
 | outgrown=>exact q.elim
 | normal=>
 have q:AWp P (some l) hb body (RQ hb I Ix k) st1:=q;have rc1:w1.heap[l]? =some (.loop { state:= .ready,pending:=none,fn,tmps:=a0.tmps,params:=ps,assign,body,defers:=d }):=(r2.obj l hlw (fun o id=>by rw [lfor1]; simp)).1.trans B.rcd;have lfor2: ∀o,σ2 l o= .foreign:=fun o=>r2.back l o hlw (lfor1 o);refine ⟨_,run_beginRound rc1 rfl,?_⟩;have hlw1:l<w1.heap.size:=ZW hlw r2.size;have R2:RdOK (some l) σ2 (w1.putObj l (.loop { state:= .busy,pending:=none,fn,tmps:=a0.tmps,params:=ps,assign,body,defers:=d })):=fun l' e=>by
  cases e; exact ⟨by simpa using hlw1,lfor2,_,World.putObj_heap_same hlw1⟩
 refine B54 (n:=9) (wpIn_mono (q.out 0 ι1 σ2 a1 _ (r1.put _ rc1 lfor2) R2 (Xj _) (r4.put _ rc1)) ?_);rintro e a3 w3 ⟨ι3,σ3,st3,q3,s1,s2,s3,s4⟩;have hlw2:l<(w1.putObj l (.loop { state:= .busy,pending:=none,fn,tmps:=a0.tmps,params:=ps,assign,body,defers:=d })).heap.size:=by simpa using hlw1
 have rc3:w3.heap[l]? =some (.loop { state:= .busy,pending:=none,fn,tmps:=a0.tmps,params:=ps,assign,body,defers:=d }):=
  (s2.obj l hlw2 (fun o id=>by rw [lfor2]; simp)).1.trans (World.putObj_heap_same hlw1)
 have lfor3: ∀o,σ3 l o= .foreign:=fun o=>s2.back l o hlw2 (lfor2 o);have X3:ExtL l σ1 w σ3 w3:=((r2.l (l:=l)).trans (ExtL.put _ rc1)).trans s2.l;have M3:Mono (ιc.take hb) σ1 w (H.take hb) ι3 σ3 w3 st3.heap:=(r3.trans (Mono.put _ rc1)).take2 s3;have fin: ∀(r':Loop) (st4:St) (w4:World),w4=w3.putObj l (.loop r')->Weak hb st3 st4->(∀blk,blk∈st4.heap->blk≠ .box [])->
   ∃ι4 σ4,Gave σ w (fun b o=>if w.heap.size≤b then .mine 0 else σ b o) w4∧Base ι0 σ0 w0 H0 hb tm0 a0 l Ds r' (fun b o=>if w.heap.size≤b then .mine 0 else σ b o) w4 ι4 σ4 st4.heap:=by
  intro r' st4 w4 hw4 hk4 hok4;obtain ⟨ι4,t1,t2,t3⟩:=hk4 _ _ _ _ s1;have X:ExtL l σ1 w σ3 w4:=by rw [hw4]; exact X3.trans (ExtL.put _ rc3)
  have S4:SRel ι4 σ3 st4 a3 w4:=by rw [hw4]; exact t1.put r' rc3 lfor3
  have M4:Mono (ιc.take hb) σ1 w (H.take hb) ι4 σ3 w4 st4.heap:=by rw [hw4]; exact (M3.take2 (A6j t2 t3)).trans (Mono.put r' rc3)
  have M5:Mono (ιc.take hb) σ1 w (H.take hb) ι4 (nrm σ3 w4) w4 st4.heap:=M4.trans Mono.nrm;have sg: ∀{b o},b<w.heap.size->(fun b o=>if w.heap.size≤b then Own.mine 0 else σ b o) b o=σ b o:=fun {b o} h=>by simp [Nat.not_le.2 h]
  have sgn: ∀{b o},w.heap.size≤b->(fun b o=>if w.heap.size≤b then Own.mine 0 else σ b o) b o= .mine 0:=fun {b o} h=>by simp [h]
  have Kn: ∀{b},w.heap.size≤b->Kb (fun b o=>if w.heap.size≤b then Own.mine 0 else σ b o) b:=fun {b} h=>⟨⟨0,sgn h⟩,fun o=> .inl (sgn h)⟩;have Ko: ∀{b},b<w.heap.size->Kb σ b->Kb (fun b o=>if w.heap.size≤b then Own.mine 0 else σ b o) b:=fun {b} h hk=>⟨hk.1.imp fun o ho=>(sg h).trans ho,fun o=>(hk.2 o).imp (fun h1=>(sg h).trans h1) (fun h1=>(sg h).trans h1)⟩;have notmine: ∀{b},¬Kb σ b->b<w.heap.size-> ∀o id,σ1 b o≠ .mine id:=fun {b} hk hbw o id h=>hk (B.cC b hbw ⟨o,id,s1mine h⟩).1;have same: ∀{b},¬Kb σ b->b<w.heap.size->w4.heap[b]? =w.heap[b]? :=fun {b} hk hbw=>(X.obj b hbw (by rintro rfl; exact hk (B.cE b (Qk _))) (notmine hk hbw)).1;have stab: ∀b o u,σ b o= .stable->w.cell? ⟨b,o,none⟩=some u->w4.cell? ⟨b,o,none⟩=some u:=fun b o u h1 h2=>by
   have hbw:=cell_lt h2;by_cases hm: ∃o j,σc b o= .mine j
   ·have:=((B.cC b hbw hm).2 o h1).1;exact (X.keep b o u (by rw [s1nf (by rw [this]; simp)]; exact this) h2).2
   ·have hne:b≠l:=by rintro rfl; rw [nocell B.rcd (by intro _ _ _; simp)] at h2; cases h2
    rw [cell_of_heap (X.obj b hbw hne (fun o id h=>hm ⟨o,id,s1mine h⟩)).1]; exact h2
  refine ⟨ι4,nrm σ3 w4,⟨X.os,X.tape,X.output,X.size,fun b o h=>sg h,stab,?_,?_,X.drawn⟩,?_⟩
  ·rintro b hbw ⟨o,j,h1,h2⟩;refine same (fun hk=> ?_) hbw;rcases hk.2 o with h | h
   ·rw [h1] at h; cases h; exact h2 rfl
   ·rw [h1] at h; cases h
  ·intro b hbw hn;exact same (fun hk=>let ⟨o,ho⟩:=hk.1; hn o 0 ho) hbw
  ·refine ⟨?_,S4.heap.nrm,hok4,?_,?_,by rw [hw4]; exact World.putObj_heap_same (Xz.1 rc3).1,fun o=> ?_,fun D hD=> ?_,fun b hbw hm=> ?_,fun b o hs=> ?_,fun b hbl=>Ko (by omega) (B.cE b hbl),fun b o hbw hs=> ?_,fun b o hbw=>B8B hbw⟩
   ·refine ⟨T1.1,fun t x v h1 h2=>M5.v (B24 (hin x (Qv h1)) (T1.2 t x v h1 h2))⟩
   ·refine ⟨X.os.trans B.ext.os,X.tape.trans B.ext.tape,X.output.trans B.ext.output,Yw B.ext.size X.size,fun b o v h1 h2=> ?_,fun b hbw hn=> ?_,fun b o hbw h1=> ?_,Yw B.ext.drawn X.drawn⟩
    ·obtain ⟨p1,p2⟩:=B.ext.keep b o v h1 h2;obtain ⟨p3,p4⟩:=X.keep b o v (by rw [s1nf (by rw [p1]; simp)]; exact p1) p2;exact ⟨by rw [A43 (cell_lt p4)]; exact p3,p4⟩
    ·obtain ⟨p1,p2⟩:=B.ext.obj b hbw hn;have hbw':b<w.heap.size:=ZW hbw B.ext.size;obtain ⟨p3,p4⟩:=X.obj b hbw' (by omega) (fun o id h=>p2 o id (s1mine h));exact ⟨p3.trans p1,fun o id=>by rw [A43 (ZW hbw' X.size)]; exact p4 o id⟩
    ·have hbw':b<w.heap.size:=ZW hbw B.ext.size;have p1:=B.ext.back b o hbw h1;have p2:σ1 b o= .foreign:=by
      simp only [σ1]; rw [if_neg (fun hx=>B.cF b o hbw hx.2.1 h1)]; exact p1
     rw [A43 (ZW hbw' X.size)];exact X.back b o hbw' p2
   ·exact (B.mono.trans M1).take2 M5
   ·rcases Vz l w4.heap.size with h | h
    ·rw [A43 h]; exact lfor3 o
    ·exact B8B h
   ·obtain ⟨p1,p2⟩:=B.dfr D hD;have hDw:D<w.heap.size:=(Xz.1 p1).1;obtain ⟨p3,p4⟩:=X.obj D hDw (by have:=(hDs D hD).2; omega) (fun o id=>by rw [dfor1 D hD]; simp);exact ⟨p3.trans p1,fun o=>by rw [A43 (ZW hDw X.size)]; exact X.back D o hDw (dfor1 D hD o)⟩
   ·rcases Vz b w.heap.size with hb' | hb'
    ·have hm1: ∃o j,σc b o= .mine j:=QJ fun hno=>by
      obtain ⟨o,j,h⟩:=hm;rw [A43 hbw] at h;by_cases e:b=l
      ·subst e; rw [lfor3] at h; cases h
      ·exact (X.obj b hb' e (fun o id h=>hno ⟨o,id,s1mine h⟩)).2 o j h
     obtain ⟨p1,p2⟩:=B.cC b hb' hm1;refine ⟨Ko hb' p1,fun o ho=> ?_⟩;have ho':σ b o= .stable:=(sg (o:=o) hb').symm.trans ho;obtain ⟨p3,u,p4⟩:=p2 o ho';obtain ⟨p5,p6⟩:=X.keep b o u (by rw [s1nf (by rw [p3]; simp)]; exact p3) p4;exact ⟨by rw [A43 hbw]; exact p5,u,p6⟩
    ·exact ⟨Kn hb',fun o ho=>by have:=(sgn (o:=o) hb').symm.trans ho; cases this⟩
   ·rcases Vz b w4.heap.size with hbw | hbw
    ·rw [A43 hbw] at hs;rcases Vz b w.heap.size with hb' | hb'
     ·cases h1:σ1 b o with
      | foreign=>have:=X.back b o hb' h1; rw [hs] at this; cases this
      | mine j=>exact .inl (Ko hb' (B.cC b hb' ⟨o,j,s1mine h1⟩).1)
      | stable=>
       by_cases hf:σc b o= .foreign
       ·simp only [σ1] at h1;split at h1
        ·rename_i hx;obtain ⟨_,p1,u,p2⟩:=hx;exact .inr ⟨(sg hb').trans p1,u,stab b o u p1 p2⟩
        ·rw [hf] at h1; cases h1
       ·rw [s1nf hf] at h1;rcases B.cD b o h1 with hk | ⟨p1,u,p2⟩
        ·exact .inl (Ko hb' hk)
        ·exact .inr ⟨(sg hb').trans p1,u,stab b o u p1 p2⟩
     ·exact .inl (Kn hb')
    ·rw [B8B hbw] at hs; cases hs
   ·have hb':b<w.heap.size:=ZW hbw B.ext.size;exact B.cF b o hbw ((sg (o:=o) hb').symm.trans hs)
 have out: ∀(jump:Option Code),(Instr.endRound l jump).run P w3= .ok (.bool jump.isNone) (w3.putObj l (.loop { state:=if jump.isNone then .ready else .done,pending:=jump,fn,tmps:=a0.tmps,params:=ps,assign,body,defers:=d })):=fun jump=>run_endRound jump rc3;cases e with
 | normal=>
  obtain ⟨st4,hk4,hI4⟩:=q3;obtain ⟨ι4,σ4,g,b4⟩:=fin _ st4 _ rfl hk4 (hokI _ hI4);exact ⟨_,_,out none,_,g,.inl ⟨rfl,ι4,σ4,_,hI4,b4⟩⟩
 | ret=>
  obtain ⟨st4,hk4,hI4⟩:=q3;obtain ⟨ι4,σ4,g,b4⟩:=fin _ st4 _ rfl hk4 (hokX _ _ hI4);exact ⟨_,_,out (some .ret),_,g,.inr ⟨rfl,ι4,σ4,_,.ret,_,rfl,hI4,b4⟩⟩
 | exit id=>
  obtain ⟨st4,hk4,hI4⟩:=q3;obtain ⟨ι4,σ4,g,b4⟩:=fin _ st4 _ rfl hk4 (hokX _ _ hI4);exact ⟨_,_,out (some (.exit id)),_,g,.inr ⟨rfl,ι4,σ4,_,.exit id,_,rfl,hI4,b4⟩⟩
 | goto l=>exact q3.elim
 | panic ch=>exact q3.elim
 | outgrown=>exact q3.elim
end step
variable {P:Program} {rd:Option Nat} {Q:Exit->St->Prop}
def AWp.rangeFunc {h:Nat} {g:Operand} {ps:Array Tmp} {assign body:Code} {tm0:List AVal} {H0:List Blk} {gf:FuncId} {caps:List Tree} {xs:List (List TVal)}
  (I:Nat->List Blk->Prop) (Ix:Exit->List Blk->Prop) (hb:Nat) (hg:aeval tm0 g= .c (.fn gf (caps.map .tree))) (hit:AIter P gf caps xs) (hps: ∀(k:Nat) (ts:List TVal),xs[k]? =some ts->ts.length=ps.size) (hh:h≤hb) (hin:A3T hb tm0)
  (hokI: ∀k H,I k H-> ∀blk,blk∈H->blk≠ .box []) (hokX: ∀e H,Ix e H-> ∀blk,blk∈H->blk≠ .box []) (h0:I 0 H0)
  (hround: ∀(l k:Nat) (ts:List TVal) (H:List Blk),xs[k]? =some ts->I k H->AWp P (some l) hb assign (A2G (AWp P (some l) hb body (RQ hb I Ix k)) (fun _ _=>False)) ⟨A45 tm0 ps.toList ts,H⟩)
  (hdone: ∀H,I xs.length H->Q .normal ⟨tm0,H⟩) (hstop: ∀e H,Ix e H->Q e ⟨tm0,H⟩):AWp P rd h (.rangeFunc g ps assign body) Q ⟨tm0,H0⟩:=by
 classical
 refine ⟨fun N ι σ a w h1 h2 h3 h4=>wpIn_rangeFunc fun fn _=> ?_⟩;obtain ⟨l,mark,W1,d,Ds,he,hmark,hnd,hDs,hl,hsz,hrec,hsame,hos,htape,hout,hdr⟩:=B29 (P:=P) h2 fn a.tmps ps assign body;have hgv:=A0J h1.tmps g;rw [hg] at hgv;obtain ⟨vs,ev,hvl,hvr⟩:=hgv;have ev':a.eval g= .func (.func gf) #[] vs.toArray:=ev;refine ⟨l,mark,W1,{ target:= .fn (.func gf) vs.toArray,args:= #[.func (.yield l) #[] #[]] },W1,gf,#[.func (.yield l) #[] #[]]++vs.toArray,W1,he,?_,fun _ _=>trivial,?_,fun h=>by simp [Fr] at h,?_⟩
 ·simp only [resolve,ev'];simp [go_sem]
 ·simp [invoke,go_sem,hit.enters]
 let σc:Sig:=fun b o=>if w.heap.size≤b then .foreign else σ b o
 let σi:Sig:=fun b o=>if σ b o= .stable∧(∃u,w.cell? ⟨b,o,none⟩=some u) then .stable else .mine 0
 have sc: ∀b o,b<w.heap.size->σc b o=σ b o:=fun b o hb=>by simp [σc,Nat.not_le.2 hb]
 have scf: ∀b o,w.heap.size≤b->σc b o= .foreign:=fun b o hb=>by simp [σc,hb]
 have si: ∀{b o},σi b o= .stable->σ b o= .stable∧ ∃u,w.cell? ⟨b,o,none⟩=some u:=fun {b o} h=>by
  simp only [σi] at h; split at h
  ·assumption
  ·cases h
 have KB: ∀b,Kb σi b:=fun b=>by
  obtain ⟨o,ho⟩:=C45 w b;refine ⟨⟨o,by simp [σi,ho]⟩,fun o=> ?_⟩;simp only [σi]; split
  ·exact .inr rfl
  ·exact .inl rfl
 have hq:W1.os=w.os∧W1.tape=w.tape∧W1.output=w.output∧w.heap.size≤W1.heap.size∧w.drawn≤W1.drawn:=⟨hos,htape,hout,by omega,by omega⟩;have M0:Mono ι σ w H0 ι σc W1 H0:=by simpa using Mono.grow (ι:=ι) (H:=H0) hsame sc [] []
 have HH:HRel ι σc W1 H0:=by simpa using h1.heap.grow hsame sc hq [] [] rfl (fun j blk b h1 _=>by simp at h1)
 have E0:Ext σ w σc W1:=Ext.grow hos htape hout (by omega) hsame sc (by omega);have B0:Base ι σ w H0 hb tm0 a l Ds { state:= .ready,pending:=none,fn,tmps:=a.tmps,params:=ps,assign,body,defers:=d } σi W1 ι σc H0:=by
  refine ⟨h1.tmps.mono M0,HH,hokI 0 H0 h0,E0,M0.take hb,hrec,fun o=>scf l o hl,fun D hD=>⟨(hDs D hD).2.2,fun o=>scf D o (hDs D hD).1⟩,fun b hbw hm=>⟨KB b,fun o ho=> ?_⟩,fun b o _=> .inl (KB b),fun b _=>KB b,fun b o _ ho=>by rw [(si ho).1]; simp,fun b o hb=>scf b o (by omega)⟩;obtain ⟨q1,u,q2⟩:=si ho;have:=cell_lt q2;exact ⟨by rw [sc b o this]; exact q1,u,by rw [cell_of_heap (hsame b this)]; exact q2⟩
 have hDs': ∀D,D∈Ds->w.heap.size≤D∧D<l:=fun D hD=>⟨(hDs D hD).1,(hDs D hD).2.1⟩;have run:=hit.runs l
  (fun k σ' w'=> ∃ιc σc H,I k H∧Base ι σ w H0 hb tm0 a l Ds { state:= .ready,pending:=none,fn,tmps:=a.tmps,params:=ps,assign,body,defers:=d } σ' w' ιc σc H)
  (fun σ' w'=> ∃ιc σc H e c,codeOf e=some c∧Ix e H∧Base ι σ w H0 hb tm0 a l Ds { state:= .done,pending:=some c,fn,tmps:=a.tmps,params:=ps,assign,body,defers:=d } σ' w' ιc σc H)
  (fun k σ1 w1 σ2 w2 c ⟨ιc,σc,H,q1,q2⟩=>⟨ιc,σc,H,q1,q2.calm hl (fun D hD=>(hDs' D hD).2) c⟩)
  (fun σ1 w1 σ2 w2 c ⟨ιc,σc,H,e,cd,q0,q1,q2⟩=>⟨ιc,σc,H,e,cd,q0,q1,q2.calm hl (fun D hD=>(hDs' D hD).2) c⟩)
  (fun k ts hk=>C73 hl hDs' hin (hps k ts hk) (hokI (k+1)) hokX (fun H hI=>hround l k ts H hk hI))
  σi W1 vs (by simpa using hvl) (fun j t u h5 h6=>by
   have:=hvr j (.tree t) u (by simp [h5]) h6;have this:TRel (Stab σ) w t u:=this
   exact this.mono fun b o u h7 h8=>⟨by show σi b o= .stable; simp only [σi]; rw [if_pos ⟨h7,u,h8⟩],by rw [cell_of_heap (hsame b (cell_lt h8))]; exact h8⟩)
  ⟨ι,σc,H0,h0,B0⟩
 refine (A8P (rd':=rd) (m:=9-1) run).mono ?_;rintro e w3 ⟨⟨v,rfl⟩,σ',hJ⟩;have post: ∀{r:Loop} {σ':Sig} {ιc:List Nat} {σc:Sig} {H:List Blk} (r':Loop) (e:Exit),Base ι σ w H0 hb tm0 a l Ds r σ' w3 ιc σc H->Q e ⟨tm0,H⟩->APost N h ι σ w H0 Q e { a with defers:=mark++a.defers } (w3.putObj l (.loop r')):=by
  intro r σ' ιc σc H r' e B hQ;have B':=B.put r' hl;refine ⟨ιc,σc,⟨tm0,H⟩,hQ,⟨B'.tmps,B'.heap⟩,B'.ext,B'.mono.le hh,?_⟩;obtain ⟨Ds0,e0,n0,hD0⟩:=h4;refine ⟨Ds++Ds0,by simp [hmark,e0],YW.2 ⟨hnd,n0,fun x hx y hy=> ?_⟩,fun D hD=> ?_⟩
  ·have:=(hDs x hx).1; have:=(hD0 y hy).2.1; omega
  ·rcases XZ.1 hD with hD | hD
   ·obtain ⟨p1,p2⟩:=B'.dfr D hD;have:=(hDs D hD).1;exact ⟨by omega,(Xz.1 p1).1,p1,p2⟩
   ·obtain ⟨p1,p2,p3,p4⟩:=hD0 D hD;have p5:=(B'.ext.obj D p2 (fun o id=>by rw [p4]; simp)).1.trans p3;exact ⟨p1,(Xz.1 p5).1,p5,fun o=>B'.ext.back D o p2 (p4 o)⟩
 rcases hJ with ⟨ιc,σc,H,hI,B⟩ | ⟨ιc,σc,H,e,c,hc,hI,B⟩
 ·exact ⟨none,_,run_endLoop B.rcd (by simp),post _ .normal B (hdone H hI)⟩
 ·refine ⟨some c,_,run_endLoop B.rcd (by simp),?_⟩;have hp:=post { state:= .exhausted,pending:=some c,fn,tmps:=a.tmps,params:=ps,assign,body,defers:=d } e B (hstop e H hI);cases e with
  | ret=>simp [codeOf] at hc; subst hc; exact wpIn_ret hp
  | exit id=>simp [codeOf] at hc; subst hc; exact wpIn_exit hp
  | _=>simp [codeOf] at hc
def A3N.same {ι ι':List Nat} {H H':List Blk} (M:Mono ι σ w H ι' σ w H') {id b:Nat} {blk:Blk} (h:A3N ι σ w H id b blk):A3N ι' σ w H' id b blk:=by
 cases blk with
 | box cs=>
  obtain ⟨ha,hc⟩:=h;exact ⟨ha,fun j c hj=>let ⟨q1,q2,v,q3,q4⟩:=hc j c hj; ⟨q1,q2,v,q3,M.cell q4⟩⟩
 | ro ts=>exact h
 | roC ts=>exact fun j c hj=>let ⟨q1,v,q2,q3⟩:=h j c hj; ⟨q1,v,q2,M.k q3⟩
 | chain _ _=>trivial
 | dead=>trivial
 | map es=>exact h
 | iter i n seen=>
  obtain ⟨q1,bm,q2,q3⟩:=h;exact ⟨q1,bm,M.iota _ _ q2,q3⟩
 | ghost G=>exact h
def Weak.openB {h:Nat} (i j k:Nat) {tm:List AVal} {H:List Blk} {cs:List ACell} (hi:H[i]? =some (.box cs)) (hj:cs[j]? =some .nils) (hh:h≤i):
  Weak h ⟨tm,H⟩ ⟨tm,H.set i (.box (cs.set j (.slice [] (.chain H.length))))++[.chain 0 k]⟩:=by
 intro ι σ a w hr;have hil:i<H.length:=(Qx.1 hi).1;have hl:ι.length=H.length:=hr.heap.1;have M:Mono ι σ w H (ι++[0]) σ w (H.set i (.box (cs.set j (.slice [] (.chain H.length))))++[.chain 0 k]):=by
  refine ⟨fun b o u h h'=>⟨h,h'⟩,fun id b hb=>by rw [Qw (Qx.1 hb).1]; exact hb,fun id tip k0 hc=> ?_⟩;refine ⟨tip,k0,?_,MarkUp.refl _ _ _,.inr ⟨rfl,rfl,fun b o u h h'=>⟨h,⟨u,h'⟩,fun h3=>h3⟩⟩⟩;have hid:id<H.length:=(Qx.1 hc).1;rw [Qw (by simpa using hid),Qy (by rintro rfl; rw [hi] at hc; cases hc)];exact hc
 refine ⟨ι++[0],⟨hr.tmps.mono M,by simp [hl],fun id blk b h1 h2=> ?_⟩,?_,?_⟩
 ·by_cases hid:id<H.length
  ·rw [Qw (by simpa using hid)] at h1;rw [Qw (by omega)] at h2;by_cases e:i=id
   ·subst e;rw [QX hil] at h1;cases h1;obtain ⟨ha,hc⟩:=hr.heap.2 i _ b hi h2;refine ⟨ha,fun j' c hj'=> ?_⟩;by_cases ej:j=j'
    ·subst ej;have hjl:j<cs.length:=(Qx.1 hj).1;rw [QX hjl] at hj';cases hj';obtain ⟨q1,q2,v,q3,q4⟩:=hc j _ hj;cases q4;exact ⟨q1,q2,_,q3,.nil _ _,0,k,by simp,by simp,trivial,fun _=> .inl rfl⟩
    ·rw [Qy ej] at hj';obtain ⟨q1,q2,v,q3,q4⟩:=hc j' c hj';exact ⟨q1,q2,v,q3,M.cell q4⟩
   ·rw [Qy e] at h1;exact (hr.heap.2 id blk b h1 h2).same M
  ·rw [QW (by simpa using Qx0.1 hid)] at h1;simp only [Yz] at h1;cases hk:id-H.length with
   | zero=>rw [hk] at h1; simp at h1; subst h1; trivial
   | succ n=>rw [hk] at h1; simp at h1
 ·rw [ZZ (by omega)]
 ·simp only;rw [ZZ (by simp; omega),Qz2 hh]
def Based (h:Nat) (ι0:List Nat) (σ0:Sig):Prop:= ∀b o id,σ0 b o= .mine id->id<h∧ι0[id]? =some b
structure FWp (P:Program) (h:Nat) (c:Code) (Q:Exit->St->Prop) (st:St):Prop where
 out: ∀N ι0 σ0 w0 H0 ι σ a w,SRel ι σ st a w->MarksOK N a.defers σ w->N≤w.heap.size->Ext σ0 w0 σ w->Mono (ι0.take h) σ0 w0 (H0.take h) ι σ w st.heap->Based h ι0 σ0->
  c.wpIn (Fr none) 9 P (APost N h ι0 σ0 w0 H0 Q) a w
variable {c:Code}
section
variable {P:Program} {h:Nat} {Q:Exit->St->Prop} {st:St}
def FWp.of_awp (hw:AWp P none h c Q st):FWp P h c Q st:=
 ⟨fun N _ _ _ _ ι σ a w h1 h2 h3 h4 h5 _=>wpIn_mono (hw.out N ι σ a w h1 (fun l h=>by cases h) h3 h2) fun _ _ _ hp=>hp.trans h4 h5⟩
def FWp.seq {x y:Code} (hx:AWp P none h x (A2G (FWp P h y Q) Q) st):FWp P h (.seq x y) Q st:=by
 refine ⟨fun N ι0 σ0 w0 H0 ι σ a w h1 h2 h3 h4 h5 h6=>wpIn_seq (wpIn_mono (hx.out N ι σ a w h1 (fun l h=>by cases h) h3 h2) ?_)⟩;rintro e a' w' ⟨ι',σ',st',q,r1,r2,r3,r4⟩;cases e with
 | normal=>exact q.out N ι0 σ0 w0 H0 ι' σ' a' w' r1 r4 (Yw h3 r2.size) (h4.trans r2) (h5.take2 r3) h6
 | exit id=>exact ⟨ι',σ',st',q,r1,h4.trans r2,h5.take2 r3,r4⟩
 | goto l=>exact ⟨ι',σ',st',q,r1,h4.trans r2,h5.take2 r3,r4⟩
 | ret=>exact ⟨ι',σ',st',q,r1,h4.trans r2,h5.take2 r3,r4⟩
 | panic ch=>exact ⟨ι',σ',st',q,r1,h4.trans r2,h5.take2 r3,r4⟩
 | outgrown=>exact ⟨ι',σ',st',q,r1,h4.trans r2,h5.take2 r3,r4⟩
def FWp.weak {st':St} (hk:Weak h st st') (hw:FWp P h c Q st'):FWp P h c Q st:=by
 refine ⟨fun N ι0 σ0 w0 H0 ι σ a w h1 h2 h3 h4 h5 h6=> ?_⟩;obtain ⟨ι',r1,e1,e2⟩:=hk ι σ a w h1;exact hw.out N ι0 σ0 w0 H0 ι' σ a w r1 h2 h3 h4 (h5.take2 (A6j e1 e2)) h6
end
def A7o {h:Nat} {ι0 ι:List Nat} {σ0 σ:Sig} {w0 w:World} {H0 H:List Blk} (hE:Ext σ0 w0 σ w) (hM:Mono (ι0.take h) σ0 w0 (H0.take h) ι σ w H) (hB:Based h ι0 σ0) (hH:HRel ι σ w H)
  (hmaps: ∀id,id<h-> ∃es,H[id]? =some (.map es)) {b o id:Nat} (hm:σ b o= .mine id) (hid: ∀es,H[id]? ≠some (.map es)):w0.heap.size≤b:=by
 rcases Vz b w0.heap.size with hb | hb
 ·exfalso;by_cases hx: ∃o' id',σ0 b o'= .mine id'
  ·obtain ⟨o',id',h1⟩:=hx;obtain ⟨h2,h3⟩:=hB b o' id' h1;have h4:=hM.iota id' b (by rw [Xx h2]; exact h3);obtain ⟨es,h5⟩:=hmaps id' h2;have h6:=(hH.2 id' _ b h5 h4).1 o;rw [hm] at h6;cases h6;exact hid es h5
  ·exact (hE.obj b hb (fun o' id' h1=>hx ⟨o',id',h1⟩)).2 o id hm
 ·exact hb
def A8Q:ACell->Prop
 | .any | .int .. | .bool _ | .str _ | .nils | .ptr .. | .ref .. | .yld _ | .nilf | .nilp | .map _ | .iter _=>True
 | _=>False
def B8C:AVal->Prop
 | .c x=>A8Q x
 | .agg cs=> ∀c,c∈cs->A8Q c
 | .tup _=>True
def C46:AVal->Prop
 | .c x=>A8Q x
 | .agg cs=> ∀c,c∈cs->A8Q c
 | .tup xs=> ∀x,x∈xs->B8C x
def B55:MV->Prop
 | .c t=>t.flat=true
 | .agg ts=> ∀t,t∈ts->t.flat=true
def B6V:Blk->Prop
 | .box cs=> ∀c,c∈cs->A8Q c
 | .ro _=>False
 | .roC _=>False
 | .map es=> ∀e,e∈es->B55 e.2
 | .ghost _=>False
 | _=>True
section safe
variable {ι ι':List Nat} {σ σ':Sig} {w:World} {H H':List Blk}
def A0G (hi: ∀(id b:Nat),ι[id]? =some b->ι'[id]? =some b) {c:ACell} {v:Value} (hs:A8Q c) (h:CRel ι σ w H c v):CRel ι' σ' w H' c v:=by
 cases c with
 | any=>trivial
 | int k n=>exact h
 | bool b=>exact h
 | str s=>exact h
 | nils=>exact h
 | nilf=>exact h
 | nilp=>exact h
 | yld l=>exact h
 | ptr id off=>obtain ⟨b,hb,e⟩:=h; exact ⟨b,hi _ _ hb,e⟩
 | ref id k off len cap=>obtain ⟨b,hb,e⟩:=h; exact ⟨b,hi _ _ hb,e⟩
 | map id=>obtain ⟨b,hb,e⟩:=h; exact ⟨b,hi _ _ hb,e⟩
 | iter id=>obtain ⟨b,hb,e⟩:=h; exact ⟨b,hi _ _ hb,e⟩
 | slice _ _=>exact hs.elim
 | rptr _=>exact hs.elim
 | fn _ _=>exact hs.elim
 | bfn _ _=>exact hs.elim
 | rows _ _=>exact hs.elim
 | rptrC _=>exact hs.elim
 | vec id len cap=>obtain ⟨b,hb,e⟩:=h; exact ⟨b,hi _ _ hb,e⟩
 | raw _=>exact hs.elim
def B6W (hi: ∀(id b:Nat),ι[id]? =some b->ι'[id]? =some b) {x:AVal} {v:Value} (hs:B8C x) (h:A2F ι σ w H x v):A2F ι' σ' w H' x v:=by
 cases x with
 | c x=>exact A0G hi hs h
 | agg cs=>obtain ⟨vs,e,hl,h⟩:=h; exact ⟨vs,e,hl,fun j c u h1 h2=>A0G hi (hs c (Qv h1)) (h j c u h1 h2)⟩
 | tup xs=>exact h
def B8D (hi: ∀(id b:Nat),ι[id]? =some b->ι'[id]? =some b) {x:AVal} {v:Value} (hs:C46 x) (h:VRel ι σ w H x v):VRel ι' σ' w H' x v:=by
 cases x with
 | c x=>exact A0G hi hs h
 | agg cs=>obtain ⟨vs,e,hl,h⟩:=h; exact ⟨vs,e,hl,fun j c u h1 h2=>A0G hi (hs c (Qv h1)) (h j c u h1 h2)⟩
 | tup xs=>obtain ⟨vs,e,hl,h⟩:=h; exact ⟨vs,e,hl,fun j x u h1 h2=>B6W hi (hs x (Qv h1)) (h j x u h1 h2)⟩
def B0n {c:MV} {v:Value} (hs:B55 c) (h:A3G σ w c v):A3G σ' w c v:=by
 cases c with
 | c t=>exact TRel.of_flat hs h
 | agg ts=>obtain ⟨vs,e,hl,h⟩:=h; exact ⟨vs,e,hl,fun j t u h1 h2=>TRel.of_flat (hs t (Qv h1)) (h j t u h1 h2)⟩
end safe
def A2u {α:Type} {k:Nat}: ∀{rows:List (List α)},(∀r,r∈rows->r.length=k)->rows.flatten.length=rows.length*k:=by
 intro rows
 induction rows with
 | nil=>intro _; simp
 | cons r rows ih=>
  intro h;rw [List.flatten_cons,Xv,h r (by simp),ih (fun r hr=>h r (by simp [hr])),List.length_cons,Vx]; omega
def HRel.get (hH:HRel ι σ w H) {id:Nat} {blk:Blk} (h:H[id]? =some blk): ∃b,ι[id]? =some b∧A3N ι σ w H id b blk:=by
 have hl:id<ι.length:=by rw [hH.1]; exact (Qx.1 h).1
 exact ⟨_,Qq hl,hH.2 id blk _ h (Qq hl)⟩
def B8E {rows:List (List Tree)} {i k:Nat} {tip:Nat} {v:Value} (hH:HRel ι σ w H) (hv:CRel ι σ w H (.slice rows (.chain i)) v) (hi:H[i]? =some (.chain tip k))
  (hrk: ∀r,r∈rows->r.length=k) (hk:0<k) (hflat: ∀r,r∈rows-> ∀t,t∈r->t.flat=true) (hne:rows≠[]) (hsafe: ∀(id:Nat) (blk:Blk),H[id]? =some blk->B6V blk):
  ∃ b cap,rows.length≤cap∧v= .slice (some ⟨b,0,none⟩) rows.length cap∧(∃o,σ b o= .mine i)∧σ b 0= .stable∧
   ∃σ':Sig,(∀b' o,b'≠b->σ' b' o=σ b' o)∧(∀o,σ b o= .foreign->σ' b o= .foreign)∧
    HRel (ι++[b]) σ' w (H++[.box (flatRows rows)]):=by
 obtain ⟨hT,tip',k',h1,h2,hmk,h3⟩:=hv;cases hT with
 | nil a c=>exact absurd rfl hne
 | slice b off k0 c rows cell hn hk0 hc hr=>
  have hl:0<rows.length:=Wy.2 hne;obtain ⟨hoff,arr,e,o,hb,hao,hmo⟩:=hmk (by omega);have hoff:off=0:=hoff;subst hoff;have hkk:k0=k:=by
   obtain ⟨r,hr'⟩:=List.exists_mem_of_ne_nil _ hne;rw [<-hk0 r hr',hrk r hr']
  subst hkk;have hcell: ∀p t,rows.flatten[p]? =some t->σ b p= .stable∧ ∃u,w.cell? ⟨b,p,none⟩=some u∧TRel (Stab σ) w t u∧t.flat=true:=fun p t hp=>by
   obtain ⟨i',j,r,e',q1,q2⟩:=A2r hrk hp;obtain ⟨s1,s2⟩:=hc i' r j t q1 q2;rw [XX,<-e'] at s1 s2;exact ⟨s1,_,s2,hr i' r j t q1 q2,hflat r (Qv q1) t (Qv q2)⟩
  have hfl:=A2u hrk;let σ':Sig:=fun b' o=>if b'=b∧o<rows.flatten.length then .mine H.length else σ b' o
  have hpos:0<rows.flatten.length:=by rw [hfl]; exact Nat.mul_pos hl hk
  have hst: ∀p,p<rows.flatten.length->σ b p= .stable:=fun p hp=>(hcell p _ (Qq hp)).1;have hmine: ∀{b' o id},σ b' o= .mine id->σ' b' o= .mine id:=fun {b' o id} h=>by
   simp only [σ'];rw [if_neg (fun ⟨e1,e2⟩=>by subst e1; rw [hst o e2] at h; cases h)];exact h
  have hext: ∀(id b':Nat),ι[id]? =some b'->(ι++[b])[id]? =some b':=fun id b' h=>by rw [Qw (Qx.1 h).1]; exact h
  refine ⟨b,c,hn,rfl,⟨o,hmo⟩,hst 0 hpos,σ',fun b' o hb'=>by simp [σ',hb'],fun o ho=> ?_,by simp [hH.1],fun id blk b' q1 q2=> ?_⟩
  ·simp only [σ'];rw [if_neg (fun ⟨_,e2⟩=>by rw [hst o e2] at ho; cases ho)];exact ho
  ·by_cases hid:id<H.length
   ·rw [Qw hid] at q1;rw [Qw (by rw [hH.1]; exact hid)] at q2;have:=hH.2 id blk b' q1 q2;have hsb:=hsafe id blk q1;cases blk with
    | box cs=>
     obtain ⟨ha,hcs⟩:=this;exact ⟨ha,fun j c hj=>let ⟨s1,s2,v,s3,s4⟩:=hcs j c hj; ⟨hmine s1,s2,v,s3,A0G hext (hsb c (Qv hj)) s4⟩⟩
    | ro ts=>exact hsb.elim
    | roC ts=>exact hsb.elim
    | chain _ _=>trivial
    | dead=>trivial
    | map es=>
     obtain ⟨s1,arr',s2,s3,s4⟩:=this;exact ⟨fun o=>hmine (s1 o),arr',s2,s3,fun j e x p1 p2=>⟨(s4 j e x p1 p2).1,(s4 j e x p1 p2).2.1,B0n (hsb e (Qv p1)) (s4 j e x p1 p2).2.2⟩⟩
    | iter m n seen=>
     obtain ⟨s1,bm,s2,s3⟩:=this;exact ⟨fun o=>hmine (s1 o),bm,hext _ _ s2,s3⟩
    | ghost G=>exact hsb.elim
   ·have hid':id=H.length:=by
     have:=(Qx.1 q1).1;simp at this; omega
    subst hid';simp at q1;rw [QW (by rw [hH.1]; exact Qk _),hH.1,Jv] at q2;simp at q2;subst q1; subst q2;refine ⟨⟨arr,e,_,hb⟩,fun p c hp=> ?_⟩;simp only [flatRows,QQ] at hp;cases ht:rows.flatten[p]? with
    | none=>simp [ht] at hp
    | some t=>
     simp [ht] at hp; subst hp;obtain ⟨s1,u,s2,s3,s4⟩:=hcell p t ht;refine ⟨if_pos ⟨rfl,(Qx.1 ht).1⟩,by unfold World.frozen?; rw [hb]; simp,u,s2,?_⟩;exact A0C (TRel.of_flat s4 s3)
variable {b:Nat}
section thaw
variable {P:Program} {h:Nat} {c:Code} {Q:Exit->St->Prop} {tm:List AVal} {H:List Blk} {rows:List (List Tree)} {i k tip:Nat}
def B2A {N:Nat} {ι0 ι:List Nat} {σ0 σ:Sig} {w0 w:World} {H0 H':List Blk} {ds:List Deferred} {σ':Sig} (h2:MarksOK N ds σ w) (h4:Ext σ0 w0 σ w) (h5:Mono (ι0.take h) σ0 w0 (H0.take h) ι σ w H) (h6:Based h ι0 σ0) (hH:HRel ι σ w H)
  (hmaps: ∀id,id<h-> ∃es,H[id]? =some (.map es)) (hi:H[i]? =some (.chain tip k)) (hm: ∃o,σ b o= .mine i) (h0:σ b 0= .stable) (s1: ∀b' o,b'≠b->σ' b' o=σ b' o) (s2: ∀o,σ b o= .foreign->σ' b o= .foreign):
  MarksOK N ds σ' w∧Ext σ0 w0 σ' w∧Mono (ι0.take h) σ0 w0 (H0.take h) (ι++[b]) σ' w H':=by
 obtain ⟨o,hm⟩:=hm;have hfr:w0.heap.size≤b:=A7o h4 h5 h6 hH hmaps hm (fun es hx=>by rw [hi] at hx; cases hx);have e: ∀b' o,b'<w0.heap.size->σ' b' o=σ b' o:=fun b' o hb=>s1 b' o (by omega);refine ⟨?_,?_,?_⟩
 ·obtain ⟨Ds,q1,q2,q3⟩:=h2;refine ⟨Ds,q1,q2,fun D hD=> ?_⟩;obtain ⟨r1,r2,r3,r4⟩:=q3 D hD;exact ⟨r1,r2,r3,fun o=>by rw [s1 D o (by rintro rfl; rw [r4] at h0; cases h0)]; exact r4 o⟩
 ·exact ⟨h4.os,h4.tape,h4.output,h4.size,fun b' o v q1 q2=>let ⟨r1,r2⟩:=h4.keep b' o v q1 q2; ⟨by rw [e b' o (cell_lt q2)]; exact r1,r2⟩,fun b' hb hn=>let ⟨r1,r2⟩:=h4.obj b' hb hn; ⟨r1,fun o id=>by rw [e b' o hb]; exact r2 o id⟩,
   fun b' o hb q=>by rw [e b' o hb]; exact h4.back b' o hb q,h4.drawn⟩
 ·refine ⟨fun b' o u q1 q2=>let ⟨r1,r2⟩:=h5.stab b' o u q1 q2; ⟨by rw [e b' o (cell_lt q2)]; exact r1,r2⟩,fun id b' q=> ?_,fun id tip' k' q=> ?_⟩
  ·have:=h5.iota id b' q;rw [Qw (Qx.1 this).1]; exact this
  ·obtain ⟨hlt,_⟩:=A1T q;obtain ⟨t2,k2,q2,_⟩:=h5.chain id tip' k' q;obtain ⟨es,q3⟩:=hmaps id hlt;rw [q3] at q2; cases q2
def FWp.thawB (j c0:Nat) {cs:List ACell} (hj:H[j]? =some (.box cs)) (hc0:cs[c0]? =some (.slice rows (.chain i))) (hi:H[i]? =some (.chain tip k)) (hrk: ∀r,r∈rows->r.length=k) (hk:0<k) (hflat: ∀r,r∈rows-> ∀t,t∈r->t.flat=true) (hne:rows≠[])
  (hsafe: ∀(id:Nat) (blk:Blk),(H.set j (.box (cs.set c0 .any)))[id]? =some blk->B6V blk) (hsv: ∀v,v∈tm->C46 v) (hmaps: ∀id,id<h-> ∃es,H[id]? =some (.map es))
  (hw: ∀cap,rows.length≤cap->FWp P h c Q ⟨tm,H.set j (.box (cs.set c0 (.ref H.length k 0 rows.length cap)))++[.box (flatRows rows)]⟩):FWp P h c Q ⟨tm,H⟩:=by
 refine ⟨fun N ι0 σ0 w0 H0 ι σ a w h1 h2 h3 h4 h5 h6=> ?_⟩;have hjl:j<H.length:=(Qx.1 hj).1;have hij:i≠j:=by rintro rfl; rw [hj] at hi; cases hi
 obtain ⟨bj,hbj,ha,hcs⟩:=h1.heap.get hj;obtain ⟨z1,z2,v,z3,hv⟩:=hcs c0 _ hc0;have hH1:HRel ι σ w (H.set j (.box (cs.set c0 .any))):=by
  have M:Mono ι σ w H ι σ w (H.set j (.box (cs.set c0 .any))):=⟨fun _ _ _ h h'=>⟨h,h'⟩,fun _ _ h=>h,fun id tip' k' h=>⟨tip',k',by rw [Qy (by rintro rfl; rw [hj] at h; cases h)]; exact h,MarkUp.refl _ _ _,.inr ⟨rfl,rfl,fun _ _ u h h'=>⟨h,⟨u,h'⟩,fun hf=>hf⟩⟩⟩⟩;refine ⟨by simp [h1.heap.1],fun id blk b p1 p2=> ?_⟩;by_cases e:j=id
  ·subst e;rw [QX hjl] at p1;cases p1;rw [hbj] at p2; cases p2;refine ⟨ha,fun q cc hq=> ?_⟩;by_cases e2:c0=q
   ·subst e2;rw [QX (Qx.1 hc0).1] at hq;cases hq;exact ⟨z1,z2,v,z3,trivial⟩
   ·rw [Qy e2] at hq;obtain ⟨y1,y2,u,y3,y4⟩:=hcs q cc hq;exact ⟨y1,y2,u,y3,M.cell y4⟩
  ·rw [Qy e] at p1;exact (h1.heap.2 id blk b p1 p2).same M
 have hi1:(H.set j (.box (cs.set c0 .any)))[i]? =some (.chain tip k):=by rw [Qy (Ne.symm hij)]; exact hi
 have hv1:CRel ι σ w (H.set j (.box (cs.set c0 .any))) (.slice rows (.chain i)) v:=by
  obtain ⟨t1,tip',k',t2,t3⟩:=hv;exact ⟨t1,tip',k',by rw [Qy (Ne.symm hij)]; exact t2,t3⟩
 obtain ⟨b,cap,q1,q2,q3,q4,σ',s1,s2,s3⟩:=B8E hH1 hv1 hi1 hrk hk hflat hne hsafe;obtain ⟨r1,r2,r3⟩:=B2A (H':=H.set j (.box (cs.set c0 (.ref H.length k 0 rows.length cap)))++[.box (flatRows rows)]) h2 h4 h5 h6 h1.heap hmaps hi q3 q4 s1 s2;have hext: ∀(id b':Nat),ι[id]? =some b'->(ι++[b])[id]? =some b':=fun id b' h=>by rw [Qw (Qx.1 h).1]; exact h
 refine (hw cap q1).out N ι0 σ0 w0 H0 (ι++[b]) σ' a w ⟨⟨h1.tmps.1,fun t' x v p1 p2=>B8D hext (hsv x (Qv p1)) (h1.tmps.2 t' x v p1 p2)⟩,?_⟩ r1 h3 r2 r3 h6;have M2:Mono (ι++[b]) σ' w (H.set j (.box (cs.set c0 .any))++[.box (flatRows rows)]) (ι++[b]) σ' w (H.set j (.box (cs.set c0 (.ref H.length k 0 rows.length cap)))++[.box (flatRows rows)]):=by
  refine ⟨fun _ _ _ h h'=>⟨h,h'⟩,fun _ _ h=>h,fun id tip' k' hx=>⟨tip',k',?_,MarkUp.refl _ _ _,.inr ⟨rfl,rfl,fun _ _ u h h'=>⟨h,⟨u,h'⟩,fun hf=>hf⟩⟩⟩⟩;by_cases hid:id<H.length
  ·rw [Qw (by simpa using hid)] at hx ⊢;have hne':j≠id:=by rintro rfl; rw [QX hjl] at hx; cases hx
   rw [Qy hne'] at hx ⊢;exact hx
  ·rw [QW (by simpa using Qx0.1 hid)] at hx ⊢;simpa using hx
 refine ⟨by have:=s3.1; simpa using this,fun id blk b' p1 p2=> ?_⟩;by_cases hid:id<H.length
 ·rw [Qw (by simpa using hid)] at p1;by_cases e:j=id
  ·subst e;rw [QX hjl] at p1;cases p1;have hold:=s3.2 j (.box (cs.set c0 .any)) b' (by rw [Qw (by simpa using hjl),QX hjl]) p2;refine ⟨hold.1,fun q cc hq=> ?_⟩;by_cases e2:c0=q
   ·subst e2;have hcl:=(Qx.1 hc0).1;rw [QX hcl] at hq;cases hq;obtain ⟨y1,y2,u,y3,_⟩:=hold.2 c0 .any (by rw [QX hcl]);refine ⟨y1,y2,u,y3,b,by rw [<-h1.heap.1]; simp,?_⟩;have hbb:b'=bj:=by
     have:=hext j bj hbj;rw [p2] at this; cases this; rfl
    subst hbb;rw [z3] at y3; cases y3;exact ⟨cap,Qk _,q2⟩
   ·rw [Qy e2] at hq;obtain ⟨y1,y2,u,y3,y4⟩:=hold.2 q cc (by rw [Qy e2]; exact hq);exact ⟨y1,y2,u,y3,M2.cell y4⟩
  ·rw [Qy e] at p1;exact (s3.2 id blk b' (by rw [Qw (by simpa using hid),Qy e]; exact p1) p2).same M2
 ·rw [QW (by simpa using Qx0.1 hid)] at p1;refine (s3.2 id blk b' (by rw [QW (by simpa using Qx0.1 hid)]; simpa using p1) p2).same M2
end thaw
def A1b (r:List Tree):Bool:=r.all Tree.flat
def A4O (cs:List ACell) (k off len cap:Nat):Option (List (List Tree)):=
 if len≤cap∧off+len*k≤cs.length then
  (((cs.drop off).take (len*k)).mapM A0a).bind fun ts=>if A1b ts then some (chunks k len ts) else none
 else none
def A1o {r:List Tree} (h:A1b r=true): ∀t,t∈r->t.flat=true:=by simpa [A1b] using h
def B4b: ∀{ts:List Tree},(∀t,t∈ts->t.flat=true)->(ts.map A0v).mapM A0a=some ts:=by
 intro ts
 induction ts with
 | nil=>intro _; rfl
 | cons t ts ih=>
  intro h;have h1:=h t (by simp);have h2:A0a (A0v t)=some t:=by cases t<;>simp [Tree.flat] at h1<;>rfl
  simp [JY,h2,ih (fun t ht=>h t (by simp [ht]))]
variable {α:Type}
def chunks_flatten {k:Nat}: ∀{rows:List (List α)},(∀r,r∈rows->r.length=k)->chunks k rows.length rows.flatten=rows:=by
 intro rows
 induction rows with
 | nil=>intro _; rfl
 | cons r rows ih=>
  intro h;have hr:=h r (by simp);unfold chunks;rw [List.length_cons,Qj9,XY,Qq1];congr 1
  ·simp [<-hr]
  ·have:=ih (fun r hr'=>h r (by simp [hr']));unfold chunks at this;conv=>rhs; rw [<-this]
   apply Jw;intro i _;simp only [Function.comp,List.flatten_cons,Nat.succ_mul];rw [Qq5 (i*k) k,<-List.drop_drop,<-hr,List.drop_left]
def A4P {rows:List (List Tree)} {k cap:Nat} (hk: ∀r,r∈rows->r.length=k) (hf: ∀r,r∈rows->A1b r=true) (hc:rows.length≤cap):A4O (flatRows rows) k 0 rows.length cap=some rows:=by
 have hl:=A2u hk;have hall: ∀t,t∈rows.flatten->t.flat=true:=fun t ht=>by
  obtain ⟨r,hr,ht⟩:=List.mem_flatten.1 ht;exact A1o (hf r hr) t ht
 unfold A4O;have hlen:(flatRows rows).length=rows.length*k:=by unfold flatRows; rw [XW,hl]
 rw [if_pos ⟨hc,by rw [hlen]; omega⟩];have e:((flatRows rows).drop 0).take (rows.length*k)=rows.flatten.map A0v:=by
  rw [Yq,Zw (by rw [hlen]; exact Qk _)];rfl
 rw [e,B4b hall];have:A1b rows.flatten=true:=by unfold A1b; rw [ZX]; exact hall
 simp [this,chunks_flatten hk]
def A6p (H:List Blk):ACell->Option Tree
 | .slice rows (.chain i)=>match H[i]? with
  | some (.chain _ _)=>if rows.all A1b then some (.slice rows) else none
  | _=>none
 | .slice [] _=>some (.slice [])
 | .nils=>some (.slice [])
 | .ref id k off len cap=>match H[id]? with
  | some (.box cs)=>(A4O cs k off len cap).map .slice
  | _=>none
 | c=>(A0a c).bind fun t=>if t.flat then some t else none
section fresh
variable {h:Nat} {ι0 ι:List Nat} {σ0 σ:Sig} {w0 w:World} {H0 H:List Blk}
def B6X (hE:Ext σ0 w0 σ w) (hM:Mono (ι0.take h) σ0 w0 (H0.take h) ι σ w H) (hB:Based h ι0 σ0) (hH:HRel ι σ w H) (hmaps: ∀id,id<h-> ∃es,H[id]? =some (.map es))
  {c:ACell} {t:Tree} {v:Value} (hc:CRel ι σ w H c v) (ht:A6p H c=some t):TRel (fun b _=>w0.heap.size≤b) w t v:=by
 have other:(A0a c).bind (fun t=>if t.flat then some t else none)=some t->TRel (fun b _=>w0.heap.size≤b) w t v:=fun hx=>by
  cases h1:A0a c with
  | none=>simp [h1] at hx
  | some t'=>
   simp only [h1,Option.bind_some] at hx;split at hx
   ·rename_i hf; cases hx; exact TRel.of_flat hf (A0y hc h1)
   ·cases hx
 unfold A6p at ht;split at ht
 ·rename_i rows i;split at ht
  ·rename_i tip k hi;split at ht
   ·rename_i hall;cases ht;obtain ⟨hT,tip',k',q1,q2,hmk,_⟩:=hc;have hflat: ∀r,r∈rows-> ∀t,t∈r->t.flat=true:=fun r hr=>A1o (ZX.1 hall r hr);cases hT with
    | nil a c=>exact .nil a c
    | slice b off k0 c rows cell hn hk0 hcl hr=>
     refine .slice b off k0 c rows cell hn hk0 (fun i' r j t p1 p2=>⟨?_,(hcl i' r j t p1 p2).2⟩) (fun i' r j t p1 p2=>TRel.of_flat (hflat r (Qv p1) t (Qv p2)) (hr i' r j t p1 p2));have hl:i'<rows.length:=(Qx.1 p1).1;obtain ⟨_,arr,e,o,_,_,hmo⟩:=hmk (by omega);exact A7o hE hM hB hH hmaps hmo (fun es hx=>by rw [hi] at hx; cases hx)
   ·cases ht
  ·cases ht
 ·cases ht;obtain ⟨hT,_⟩:=hc;cases hT with
  | nil a c=>exact .nil a c
  | slice b off k0 c rows cell hn hk0 hcl hr=>exact .nil _ _
 ·cases ht; cases hc; exact .nil _ _
 ·rename_i id k off len cap;split at ht
  ·rename_i cs hb;cases hr:A4O cs k off len cap with
   | none=>simp [hr] at ht
   | some rows=>
    simp [hr] at ht; subst ht;unfold A4O at hr;split at hr
    ·rename_i hcond;cases hm:((cs.drop off).take (len*k)).mapM A0a with
     | none=>simp [hm] at hr
     | some ts=>
      simp only [hm,Option.bind_some] at hr;split at hr
      ·rename_i hf;cases hr;obtain ⟨b,hib,cap',hcap',rfl⟩:=hc;obtain ⟨b',hb',ha,hcs⟩:=hH.get hb;rw [hib] at hb'; cases hb';obtain ⟨hl,hg⟩:=A08 hm;have hl':ts.length=len*k:=by rw [hl]; simp; omega
       have e1:(chunks k len ts).length=len:=by simp [chunks]
       have:=TRel.ofCells (S:=fun b _=>w0.heap.size≤b) (w:=w) b off k cap' (chunks k len ts) (by omega) (fun r hr=>by
        obtain ⟨i,hri⟩:=Zj.1 hr;obtain ⟨hlt,rfl⟩:=A2T hri;have:(i+1)*k≤len*k:=YJ _ hlt;rw [Vx] at this
        simp; omega) (fun i r j t h3 h4=>by
        obtain ⟨hlt,rfl⟩:=A2T h3;have hj:j<k:=by have:=(Qx.1 h4).1; simp at this; omega
        rw [Xx hj,YX] at h4;have hq:i*k+j<len*k:=by have:=(Qx.1 h4).1; omega
        have hlt2:i*k+j<((cs.drop off).take (len*k)).length:=by rw [<-hl]; omega
        have hc1:=Qq hlt2;have hc':=hc1;rw [Xx hq,YX] at hc';obtain ⟨z1,z2,u,z3,z4⟩:=hcs _ _ hc';refine ⟨u,A7o hE hM hB hH hmaps z1 (fun es hx=>by rw [hb] at hx; cases hx),z3,?_⟩
        exact TRel.of_flat (A1o hf t (Qv h4)) (A0y z4 (hg _ _ t hc1 h4)))
       rw [e1] at this;exact this
      ·cases hr
    ·cases hr
  ·cases ht
 ·exact other ht
end fresh
structure ACallX (P:Program) (f:FuncId) (B:List Blk) (args:List AVal) (r:TVal):Prop where
 enters: ∀args w,(callFunc f args).run P w= .ok (.enter f args) w
 runs: ∀ι σ (w:World) (vs:List Value),HRel ι σ w B->Based B.length ι σ->vs.length=args.length->(∀(j:Nat) x u,args[j]? =some x->vs[j]? =some u->VRel ι σ w B x u)->
  Calls P f vs.toArray w fun e w'=> ∃v ι' σ',e= .returned v∧TVRel (fun b _=>w.heap.size≤b) w' r v∧HRel ι' σ' w' B∧Ext σ w σ' w'∧ ∀(id b:Nat),ι[id]? =some b->ι'[id]? =some b
def B6Y (P:Program) (rvs:List ResultVar) (st:St):Option TVal:=
 match rvs.mapM (A0o P st) with
 | some [x]=>A0p (A6p st.heap) x
 | some xs=>(xs.mapM (A0p (A6p st.heap))).map .tup
 | none=>none
variable {S:Nat->Nat->Prop}
def B6Z {a:Act} (h:SRel ι σ st a w) (hf: ∀c t v,CRel ι σ w st.heap c v->A6p st.heap c=some t->TRel S w t v) {fn:Func} {r:TVal} (hr:B6Y P fn.results.toList st=some r):
  ∃v,(results fn a.tmps).run P w= .ok v w∧TVRel S w r v:=by
 have hrun: ∀vs:List Value,(fn.results.toList.mapM (A3Q a.tmps)).run P w= .ok vs w->(results fn a.tmps).run P w= .ok (if h:vs.toArray.size=1 then vs.toArray[0] else .tuple vs.toArray) w:=by
  intro vs hv;have e:results fn a.tmps=(do let vs <-fn.results.mapM (A3Q a.tmps); pure (if h:vs.size=1 then vs[0] else .tuple vs)):=by
   unfold results;congr 1
  rw [e,Sem.run_bind,Qj1];simp [hv]
 unfold B6Y at hr;split at hr
 ·rename_i x hx;obtain ⟨vs,h1,h2,h3⟩:=A3R h hx
  match vs,h2 with
  | [v],_=>
   refine ⟨v,by simpa using hrun [v] h1,?_⟩;exact (A5q hf (A2F.of_toT1 hr (h3 0 x v rfl rfl)) hr).up
 ·rename_i xs hne hx;obtain ⟨vs,h1,h2,h3⟩:=A3R h hx;cases hm:xs.mapM (A0p (A6p st.heap)) with
  | none=>simp [hm] at hr
  | some ys=>
   simp [hm] at hr; subst hr;obtain ⟨m1,m2⟩:=A08 hm;have hsz: ¬vs.length=1:=by
    intro e1;have hx1:xs.length=1:=by omega
    match xs,hx1 with
    | [y],_=>exact hne y rfl
   refine ⟨.tuple vs.toArray,?_,vs.toArray,rfl,by simp; omega,fun j y u q1 q2=> ?_⟩
   ·have:=hrun vs h1;rw [dif_neg (by simpa using hsz)] at this;exact this
   ·have hlt:j<xs.length:=by have:=(Qx.1 q1).1; omega
    have hc:=Qq hlt;have hy:=m2 j _ y hc q1;exact A5q hf (A2F.of_toT1 hy (h3 j _ u hc (by simpa using q2))) hy
 ·cases hr
def C2f (P:Program) (fn:Func) (B:List Blk) (r:TVal):Exit->St->Prop:=fun e st=>(match e with | .normal | .ret=>True | _=>False)∧B6Y P fn.results.toList st=some r∧st.heap.take B.length=B
def isMap:Blk->Prop
 | .map _=>True
 | _=>False
variable {fn:Func}
def ACallX.of_body {f:FuncId} {B:List Blk} (hf:P.funcs[f]? =some fn) (hb:fn.body=some c) (hn:B1q fn.name=true) (hmB: ∀blk,blk∈B->isMap blk) {args:List AVal} {r:TVal}
  (hw:FWp P B.length c (C2f P fn B r) ⟨entry fn args,B⟩):ACallX P f B args r:=by
 refine ⟨enters_of hf hb hn,fun ι σ w vs hH hBs hl hv=> ?_⟩;refine callsIn_wide.1 (callsIn_of_wp_marks (F:=Fence.wide) (n:=9) hf hb trivial ?_);have hrel:SRel ι σ ⟨entry fn args,B⟩ { tmps:=vs.toArray++Array.replicate (fn.ntmps-vs.toArray.size) undef,defers:=[] } w:=⟨A3d hl hv,hH⟩;refine wpIn_mono (hw.out w.heap.size ι σ w B ι σ _ w hrel (MarksOK.nil ..) (Qk _) (Ext.refl ..) ((Mono.refl ..).take _) hBs) ?_;rintro e a' w' ⟨ι',σ',st',⟨he,hres,htk⟩,h1,h2,h3,Ds,h4,h5,h6⟩;have hmaps: ∀id,id<B.length-> ∃es,st'.heap[id]? =some (.map es):=fun id hid=>by
  have e1:st'.heap[id]? =B[id]? :=by rw [<-htk,Xx hid]
  have:=hmB B[id] (Xw hid);rw [e1,Qq hid];cases hx:B[id] with
  | map es=>exact ⟨es,rfl⟩
  | _=>rw [hx] at this; exact this.elim
 have fin:LeavesInM (Fr none) 9 P fn a'.tmps (fun e w'=> ∃v ι' σ',e= .returned v∧TVRel (fun b _=>w.heap.size≤b) w' r v∧HRel ι' σ' w' B∧Ext σ w σ' w'∧ ∀(id b:Nat),ι[id]? =some b->ι'[id]? =some b) a'.defers .returning w':=by
  rw [h4];refine A1C (N:=w.heap.size) Ds w' h5 (fun D hD=>let ⟨q1,q2,q3,_⟩:=h6 D hD; ⟨q1,q2,q3⟩) ?_;intro w2 hb2 hc2 hx2 hd2 hdr2;have hD: ∀b,σ' b 0≠ .foreign->w2.heap[b]? =w'.heap[b]? :=fun b hne=>hd2 b (fun hD=>hne ((h6 b hD).2.2.2 0))
  have S2:SRel ι' σ' st' a' w2:=h1.cells hc2 (fun b ob h h' _=>hx2 b ob h h') (fun g=>⟨hb2.os,hb2.tape,hb2.output,hb2.size,fun b o u h h'=>⟨h,by rw [hc2]; exact h'⟩,fun b hbl _ hgb=>⟨hd2 b (fun hD=>by
   have h7:=(h6 b hD).2.2.2 0
   rcases hgb 0 with h8 | h8<;>(rw [h7] at h8; cases h8)),fun _=>rfl⟩,Qw0 hdr2.symm⟩)
  have E2:Ext σ w σ' w2:=⟨hb2.os.trans h2.os,hb2.tape.trans h2.tape,hb2.output.trans h2.output,Yw h2.size hb2.size,fun b o v q1 q2=>let ⟨r1,r2⟩:=h2.keep b o v q1 q2; ⟨r1,by rw [hc2]; exact r2⟩,
   fun b hbl hn=>let ⟨r1,r2⟩:=h2.obj b hbl hn; ⟨(hb2.block b hbl).trans r1,r2⟩,h2.back,by rw [hdr2]; exact h2.drawn⟩
  have M2:Mono (ι.take B.length) σ w (B.take B.length) ι' σ' w2 st'.heap:=by
   refine ⟨fun b o u q1 q2=>let ⟨r1,r2⟩:=h3.stab b o u q1 q2; ⟨r1,by rw [hc2]; exact r2⟩,h3.iota,fun id tip k q=> ?_⟩;obtain ⟨hlt,_⟩:=A1T q;obtain ⟨t2,k2,q2,_⟩:=h3.chain id tip k q;obtain ⟨es,q3⟩:=hmaps id hlt;rw [q3] at q2; cases q2
  obtain ⟨v,r1,r2⟩:=B6Z S2 (fun c t v hc ht=>B6X E2 M2 hBs S2.heap hmaps hc ht) hres;refine ⟨v,r1,v,ι'.take B.length,σ',rfl,r2,⟨?_,fun id blk b q1 q2=> ?_⟩,E2,fun id b q=> ?_⟩
  ·have:=congrArg List.length htk;rw [Wk] at this;rw [Wk,S2.heap.1]; exact this
  ·have hid:id<B.length:=(Qx.1 q1).1;rw [Xx hid] at q2;have e1:st'.heap[id]? =some blk:=by rw [<-q1,<-htk,Xx hid]
   have hmb:=hmB blk (Qv q1);have:=S2.heap.2 id blk b e1 q2;cases blk with
   | map es=>exact this
   | _=>exact hmb.elim
  ·have hid:id<B.length:=by rw [<-hH.1]; exact (Qx.1 q).1
   rw [Xx hid];exact h3.iota id b (by rw [Xx hid]; exact q)
 cases e with
 | normal=>exact fin
 | ret=>exact fin
 | exit id=>exact he.elim
 | goto l=>exact he.elim
 | panic ch=>exact he.elim
 | outgrown=>exact he.elim
def TVRel.fresh {n:Nat} {r:TVal} {v:Value} (hS: ∀b o,n≤b->S b o) (h:TVRel (fun b _=>n≤b) w r v):TVRel S w r v:=h.mono fun b o _ h1 h2=>⟨hS b o h1,h2⟩
def ACallX.h0 {P:Program} {f:FuncId} {ts:List TVal} {r:TVal} (h:ACallX P f [] (ts.map ofT) r) {H:List Blk} {args:List AVal} (ha:args.mapM (toT (A0d H))=some ts):ACallH P f H args H (ofT r):=by
 refine ⟨h.enters,fun ι σ w vs hH hl hv=> ?_⟩;obtain ⟨e1,e2⟩:=A08 ha;let σ0:Sig:=fun b o=>match σ b o with | .foreign=> .foreign | _=> .stable
 have hst: ∀b o,Open σ b o->Stab σ0 b o:=fun b o h=>by
  show σ0 b o= .stable;simp only [σ0]; split
  ·rename_i hx; exact absurd hx h
  ·rfl
 have hno: ∀b o id,σ0 b o≠ .mine id:=fun b o id=>by simp only [σ0]; split<;>simp
 refine (h.runs [] σ0 w vs ⟨rfl,fun id blk b h1 _=>by simp at h1⟩ (fun b o id hx=>absurd hx (hno b o id)) (by simp; omega) (fun j x u h1 h2=> ?_)).mono ?_
 ·simp only [QQ] at h1;cases hts:ts[j]? with
  | none=>simp [hts] at h1
  | some t=>
   simp [hts] at h1; subst h1;have hlt:j<args.length:=by have:=(Qx.1 hts).1; omega
   have hc:=Qq hlt;exact A3b ((A4E (fun c t v h3 h4=>A5p hH h3 h4) (hv j _ u hc h2) (e2 j _ t hc hts)).mono fun b o u h5 h6=>⟨hst b o h5,h6⟩)
 ·rintro e w' ⟨v,_,σ1,rfl,hr,_,hE,_⟩;have hb:Below w.heap.size w w':=⟨hE.os,hE.tape,hE.output,hE.size,fun b hb=>(hE.obj b hb (fun o id=>hno b o id)).1⟩;obtain ⟨σ',hs,hn,hH',M,hE'⟩:=A4h hH hb hE.drawn;exact ⟨v,ι,σ',rfl,A3b (hr.fresh fun b o hb=>hn b o hb),hH',M,hE'⟩
def ACallX.h1 {P:Program} {f:FuncId} {es:List (MKey×MV)} {ts:List TVal} {r:TVal} (h:ACallX P f [.map es] (.c (.map 0)::ts.map ofT) r) {H:List Blk} {id:Nat} (hid:H[id]? =some (.map es)) {args:List AVal}
  (ha:args.mapM (toT A0a)=some ts):ACallH P f H (.c (.map id)::args) H (ofT r):=by
 refine ⟨h.enters,fun ι σ w vs hH hl hv=> ?_⟩;obtain ⟨e1,e2⟩:=A08 ha;obtain ⟨bm,hbm,hmine,arr,hob,hasz,hent⟩:=hH.get hid;have hbl:bm<w.heap.size:=(Xz.1 hob).1;let σ0:Sig:=fun b o=>if b=bm then .mine 0 else match σ b o with | .stable=> .stable | _=> .foreign
 have h0m: ∀o,σ0 bm o= .mine 0:=fun o=>by simp [σ0]
 have h0n: ∀b o,b≠bm-> ∀id,σ0 b o≠ .mine id:=fun b o hb id=>by simp only [σ0,if_neg hb]; split<;>simp
 have nb: ∀{b o:Nat} {u:Value},w.cell? ⟨b,o,none⟩=some u->b≠bm:=fun {b o u} hu e=>by
  subst e; unfold World.cell? at hu; simp [hob] at hu
 have hst: ∀b o u,σ b o= .stable->w.cell? ⟨b,o,none⟩=some u->σ0 b o= .stable:=fun b o u h hu=>by simp [σ0,nb hu,h]
 have hts: ∀b o,b≠bm->σ0 b o= .stable->σ b o= .stable:=fun b o hb h=>by
  simp only [σ0,if_neg hb] at h; split at h
  ·rename_i hx; exact hx
  ·cases h
 have mvUp: ∀{c:MV} {x:Value},A3G σ w c x->A3G σ0 w c x:=fun {c x} hx=>by
  cases c with
  | c t=>exact TRel.mono hx fun b o u p1 p2=>⟨hst b o u p1 p2,p2⟩
  | agg ts=>obtain ⟨vs,e,hl,hx⟩:=hx; exact ⟨vs,e,hl,fun j t u q1 q2=>(hx j t u q1 q2).mono fun b o u p1 p2=>⟨hst b o u p1 p2,p2⟩⟩
 match vs,hl with
 | v0::vs,hl=>
 have hv0:CRel ι σ w H (.map id) v0:=hv 0 _ v0 rfl rfl;obtain ⟨b0,hb0,rfl⟩:=hv0;rw [hbm] at hb0; cases hb0;refine (h.runs [bm] σ0 w (.map (some bm)::vs) ⟨rfl,fun id' blk b h1 h2=> ?_⟩ (fun b o id' hx=> ?_) (by simp at hl ⊢; omega) (fun j x u h1 h2=> ?_)).mono ?_
 ·cases id' with
  | zero=>
   simp at h1 h2; subst h1; subst h2;exact ⟨h0m,arr,hob,hasz,fun j e x p1 p2=>⟨(hent j e x p1 p2).1,(hent j e x p1 p2).2.1,mvUp (hent j e x p1 p2).2.2⟩⟩
  | succ n=>simp at h1
 ·by_cases e:b=bm
  ·subst e; rw [h0m] at hx; cases hx; exact ⟨Nat.one_pos,rfl⟩
  ·exact absurd hx (h0n b o e id')
 ·cases j with
  | zero=>simp at h1 h2; subst h1; subst h2; exact ⟨bm,rfl,rfl⟩
  | succ j=>
   simp only [List.getElem?_cons_succ,QQ] at h1 h2;cases hts':ts[j]? with
   | none=>simp [hts'] at h1
   | some t=>
    simp [hts'] at h1; subst h1;have hlt:j<args.length:=by have:=(Qx.1 hts').1; omega
    have hc:=Qq hlt;exact A3b ((A4E (fun c t v h3 h4=>A0y h3 h4) (hv (j+1) _ u (by simpa using hc) (by simpa using h2)) (e2 j _ t hc hts')).mono fun b o u h5 h6=>⟨hst b o u h5 h6,h6⟩)
 ·rintro e w' ⟨v,ι1,σ1,rfl,hr,hB',hE,hi1⟩;have same: ∀{b},b<w.heap.size->b≠bm->w'.heap[b]? =w.heap[b]? :=fun {b} hb hne=>(hE.obj b hb (fun o id'=>h0n b o hne id')).1;let σ':Sig:=fun b o=>if w.heap.size≤b then .stable else σ b o
  have so: ∀{b o},b<w.heap.size->σ' b o=σ b o:=fun {b o} hb=>by simp [σ',Nat.not_le.2 hb]
  have stab: ∀b o u,σ b o= .stable->w.cell? ⟨b,o,none⟩=some u->σ' b o= .stable∧w'.cell? ⟨b,o,none⟩=some u:=fun b o u h1 h2=>
   ⟨(so (cell_lt h2)).trans h1,by rw [cell_of_heap (same (cell_lt h2) (nb h2))]; exact h2⟩
  have M:Mono ι σ w H ι σ' w' H:=⟨stab,fun _ _ h=>h,fun id' tip k hx=>⟨tip,k,hx,MarkUp.of fun b o q1 q2 ⟨arr2,e2,q3⟩=>⟨(so q1).trans q2,same q1 (by rintro rfl; rw [hob] at q3; cases q3)⟩,
   .inr ⟨rfl,rfl,fun b o u q1 q2=>⟨(so (cell_lt q2)).trans q1,⟨u,by rw [cell_of_heap (same (cell_lt q2) (nb q2))]; exact q2⟩,fun hf=>by rw [frozen_of_heap (same (cell_lt q2) (nb q2))]; exact hf⟩⟩⟩⟩
  have hE':Ext σ w σ' w':=⟨hE.os,hE.tape,hE.output,hE.size,stab,fun b hb hn=>⟨same hb (by rintro rfl; exact hn 0 id (hmine 0)),fun o id'=>by rw [so hb]; exact hn o id'⟩,fun b o hb hf=>by rw [so hb]; exact hf,hE.drawn⟩;refine ⟨v,ι,σ',rfl,A3b (hr.fresh fun b o hb=>by show σ' b o= .stable; simp [σ',hb]),⟨hH.1,fun id' blk b q1 q2=> ?_⟩,M,hE'⟩;have:=hH.2 id' blk b q1 q2;cases blk with
  | box cs=>
   obtain ⟨⟨arr2,e2,fz,ha⟩,hc⟩:=this;have hb:b<w.heap.size:=(Xz.1 ha).1;have hne:b≠bm:=by rintro rfl; rw [hob] at ha; cases ha
   refine ⟨⟨arr2,e2,fz,by rw [same hb hne]; exact ha⟩,fun j c hj=> ?_⟩;obtain ⟨r1,r2,u,r3,r4⟩:=hc j c hj;exact ⟨(so hb).trans r1,by rw [frozen_of_heap (same hb hne)]; exact r2,u,by rw [cell_of_heap (same hb hne)]; exact r3,M.cell r4⟩
  | ro ts=>
   intro j t hj;obtain ⟨r1,u,r2,r3⟩:=this j t hj;obtain ⟨s1,s2⟩:=stab b j u r1 r2;exact ⟨s1,u,s2,M.t r3⟩
  | roC ts=>
   intro j t hj;obtain ⟨r1,u,r2,r3⟩:=this j t hj;obtain ⟨s1,s2⟩:=stab b j u r1 r2;exact ⟨s1,u,s2,M.k r3⟩
  | chain _ _=>trivial
  | dead=>trivial
  | map es'=>
   obtain ⟨r1,arr2,r2,r3,r4⟩:=this;have hb:b<w.heap.size:=(Xz.1 r2).1;by_cases e:b=bm
   ·subst e;have hii:id'=id:=by have:=r1 0; rw [hmine] at this; cases this; rfl
    subst hii;rw [hid] at q1; cases q1;obtain ⟨b1,hb1,z1,arr3,z2,z3,z4⟩:=hB'.get (id:=0) rfl;have hb1':b1=b:=by have:=hi1 0 b rfl; rw [hb1] at this; cases this; rfl
    subst hb1';refine ⟨fun o=>(so hb).trans (r1 o),arr3,z2,z3,fun j e x p1 p2=>⟨(z4 j e x p1 p2).1,(z4 j e x p1 p2).2.1,?_⟩⟩;have down: ∀b o u,σ1 b o= .stable->w'.cell? ⟨b,o,none⟩=some u->σ' b o= .stable:=fun b o u p1 p2=>by
     rcases Vz b w.heap.size with hb | hb
     ·have hne:b≠b1:=by rintro rfl; unfold World.cell? at p2; simp [z2] at p2
      rw [so hb];refine hts b o hne ?_;cases hx:σ0 b o with
      | stable=>rfl
      | foreign=>have:=hE.back b o hb hx; rw [p1] at this; cases this
      | mine j=>exact absurd hx (h0n b o hne j)
     ·simp [σ',hb]
    have hmv:=(z4 j e x p1 p2).2.2;cases hc:e.2 with
    | c t=>rw [hc] at hmv; exact TRel.mono hmv fun b o u p1 p2=>⟨down b o u p1 p2,p2⟩
    | agg ts=>rw [hc] at hmv; obtain ⟨vs,e,hl,hx⟩:=hmv; exact ⟨vs,e,hl,fun j t u q1 q2=>(hx j t u q1 q2).mono fun b o u p1 p2=>⟨down b o u p1 p2,p2⟩⟩
   ·exact ⟨fun o=>(so hb).trans (r1 o),arr2,by rw [same hb e]; exact r2,r3,fun j e x p1 p2=>⟨(r4 j e x p1 p2).1,(r4 j e x p1 p2).2.1,M.mv (r4 j e x p1 p2).2.2⟩⟩
  | iter m n seen=>
   obtain ⟨r1,b2,r2,r3⟩:=this;have hb:b<w.heap.size:=(Xz.1 r3).1;have hne:b≠bm:=by rintro rfl; rw [hob] at r3; cases r3
   exact ⟨fun o=>(so hb).trans (r1 o),b2,r2,by rw [same hb hne]; exact r3⟩
  | ghost G=>
   refine ⟨this.2 σ w _ _ (show Calm id' σ w σ' w' from ⟨hE.os,hE.tape,hE.output,hE.size,stab,fun b hb ⟨o,ho⟩ _=>⟨same hb ?_,fun o=>so hb⟩,hE.drawn⟩) this.1,this.2⟩;rintro rfl;rw [hmine] at ho; cases ho;rw [hid] at q1; cases q1
def Weak.dead {h:Nat} (j:Nat) {tm:List AVal} {H:List Blk} {cs:List ACell} (hj:H[j]? =some (.box cs)) (hh:h≤j):
  Weak h ⟨tm,H⟩ ⟨tm,H.set j .dead⟩:=by
 intro ι σ a w hr;have hl:ι.length=H.length:=hr.heap.1;have M:Mono ι σ w H ι σ w (H.set j .dead):=⟨fun _ _ _ h h'=>⟨h,h'⟩,fun _ _ h=>h,fun id tip' k' h=>⟨tip',k',by rw [Qy (by rintro rfl; rw [hj] at h; cases h)]; exact h,MarkUp.refl _ _ _,.inr ⟨rfl,rfl,fun _ _ u h h'=>⟨h,⟨u,h'⟩,fun hf=>hf⟩⟩⟩⟩;have hjl:j<H.length:=(Qx.1 hj).1;refine ⟨ι,⟨hr.tmps.mono M,by simp [hl],fun id blk b h1 h2=> ?_⟩,rfl,?_⟩
 ·by_cases e:j=id
  ·subst e;rw [QX hjl] at h1;cases h1; trivial
  ·rw [Qy e] at h1;exact (hr.heap.2 id blk b h1 h2).same M
 ·simp only [Qz2 hh]
def frz (j:Nat) (σ:Sig):Sig:=fun b o=>match σ b o with
 | .mine id=>if id=j then .stable else .mine id
 | s=>s
section
variable {j:Nat} {σ:Sig} {b o:Nat}
def A16 (h:σ b o= .stable):frz j σ b o= .stable:=by simp [frz,h]
def B4c (h:σ b o= .foreign):frz j σ b o= .foreign:=by simp [frz,h]
def A23 {id:Nat} (hid:id≠j) (h:σ b o= .mine id):frz j σ b o= .mine id:=by simp [frz,h,hid]
def B56 (h:σ b o= .mine j):frz j σ b o= .stable:=by simp [frz,h]
def C47 {id:Nat} (h:frz j σ b o= .mine id):σ b o= .mine id∧id≠j:=by
 unfold frz at h;cases hs:σ b o with
 | mine i=>
  simp only [hs] at h;split at h
  ·cases h
  ·cases h; rename_i hx; exact ⟨rfl,hx⟩
 | stable=>simp [hs] at h
 | foreign=>simp [hs] at h
end
def B4d (j:Nat) (σ:Sig) (w:World):Ext σ w (frz j σ) w:=
 ⟨rfl,rfl,rfl,Qk _,fun _ _ _ h h'=>⟨A16 h,h'⟩,fun b hb h=>⟨rfl,fun o id hx=>h o id (C47 hx).1⟩,fun b o hb h=>B4c h,Qk _⟩
def A6q {ι:List Nat} {σ:Sig} {w:World} {H:List Blk} {j:Nat} {cs:List ACell} (hj:H[j]? =some (.box cs)) (blk:Blk):Mono ι σ w H ι (frz j σ) w (H.set j blk):=by
 refine ⟨fun _ _ _ h h'=>⟨A16 h,h'⟩,fun _ _ h=>h,fun id tip k h=> ?_⟩;have hne:id≠j:=by rintro rfl; rw [hj] at h; cases h
 refine ⟨tip,k,by rw [Qy (Ne.symm hne)]; exact h,fun b o arr e q1 q2 q3=>⟨A23 hne q3,arr,q1,rfl⟩,.inr ⟨rfl,rfl,fun b o u h h'=>⟨A23 hne h,⟨u,h'⟩,fun hf=>hf⟩⟩⟩
def B57 {j:Nat} {cs:List ACell} {ts:List Tree} (hH:HRel ι σ w H) (hj:H[j]? =some (.box cs)) (hts:cs.mapM A0a=some ts):HRel ι (frz j σ) w (H.set j (.ro ts)):=by
 have M:=A6q (ι:=ι) (σ:=σ) (w:=w) hj (.ro ts);have hjl:j<H.length:=(Qx.1 hj).1;refine ⟨by simp [hH.1],fun id blk b h1 h2=> ?_⟩;by_cases e:j=id
 ·subst e;rw [QX hjl] at h1;cases h1;obtain ⟨_,hcs⟩:=hH.2 j _ b hj h2;obtain ⟨m1,m2⟩:=A08 hts;intro i t hi;have hlt:i<cs.length:=by have:=(Qx.1 hi).1; omega
  have hc:=Qq hlt;obtain ⟨q1,_,v,q2,q3⟩:=hcs i _ hc;exact ⟨B56 q1,v,q2,M.t (A0y q3 (m2 i _ t hc hi))⟩
 ·rw [Qy e] at h1;have hne:id≠j:=fun h=>e h.symm;have:=hH.2 id blk b h1 h2;cases blk with
  | box cs'=>
   obtain ⟨ha,hc⟩:=this;exact ⟨ha,fun i c hi=>let ⟨q1,q2,v,q3,q4⟩:=hc i c hi; ⟨A23 hne q1,q2,v,q3,M.cell q4⟩⟩
  | ro ts'=>exact fun i t hi=>let ⟨q1,v,q2,q3⟩:=this i t hi; ⟨A16 q1,v,q2,M.t q3⟩
  | roC ts'=>exact fun i t hi=>let ⟨q1,v,q2,q3⟩:=this i t hi; ⟨A16 q1,v,q2,M.k q3⟩
  | chain _ _=>trivial
  | dead=>trivial
  | map es=>
   obtain ⟨s1,arr',s2,s3,s4⟩:=this;exact ⟨fun o=>A23 hne (s1 o),arr',s2,s3,fun i e x p1 p2=>⟨(s4 i e x p1 p2).1,(s4 i e x p1 p2).2.1,M.mv (s4 i e x p1 p2).2.2⟩⟩
  | iter m n seen=>
   obtain ⟨s1,bm,s2,s3⟩:=this;exact ⟨fun o=>A23 hne (s1 o),bm,s2,s3⟩
  | ghost G=>
   refine ⟨this.2 _ _ _ _ ⟨rfl,rfl,rfl,Qk _,fun _ _ _ h h'=>⟨A16 h,h'⟩,fun b hb hm ha=>⟨rfl,fun o=> ?_⟩,Qk _⟩ this.1,this.2⟩;rcases ha o with h | h
   ·rw [h,A23 hne h]
   ·rw [h,A16 h]
section
variable {P:Program} {rd:Option Nat} {h:Nat} {Q:Exit->St->Prop} {c:Code} {tm:List AVal} {H:List Blk} {cs:List ACell} {ts:List Tree}
def AWp.freeze0 (j:Nat) (hj:H[j]? =some (.box cs)) (hts:cs.mapM A0a=some ts) (tm':List AVal)
  (ht: ∀ι σ w (vs:Array Value),HRel ι σ w (H.set j (.ro ts))->TmpsRel ι σ w (H.set j (.ro ts)) tm vs->TmpsRel ι σ w (H.set j (.ro ts)) tm' vs)
  (hw:AWp P rd h c Q ⟨tm',H.set j (.ro ts)⟩):AWp P rd h c Q ⟨tm,H⟩:=by
 refine ⟨fun N ι σ a w h1 h2 h3 h4=> ?_⟩;have M:=A6q (ι:=ι) (σ:=σ) (w:=w) hj (.ro ts);have E:=B4d j σ w;have hh:=B57 h1.heap hj hts;exact wpIn_mono (hw.out N ι _ a w ⟨ht _ _ _ _ hh (h1.tmps.mono M),hh⟩ (h2.ext E) h3 (h4.ext E)) fun _ _ _ hp=>hp.trans E (M.take h)
def AWp.freezeP (t j:Nat) (ht:tm[t]? =some (.c (.ptr j 0))) (hj:H[j]? =some (.box cs)) (hts:cs.mapM A0a=some ts)
  (hw:AWp P rd h c Q ⟨tm.set t (.c (.rptr ts)),H.set j (.ro ts)⟩):AWp P rd h c Q ⟨tm,H⟩:=by
 refine AWp.freeze0 j hj hts _ (fun ι σ w vs hh htm=> ?_) hw;refine ⟨by simpa using htm.1,fun t' x v p1 p2=> ?_⟩;by_cases e:t=t'
 ·subst e;have htl:t<tm.length:=(Qx.1 ht).1;rw [QX htl] at p1;cases p1;obtain ⟨b,hb,rfl⟩:=htm.2 t _ v ht p2;have hjl:j<H.length:=(Qx.1 hj).1;have hro:=hh.2 j (.ro ts) b (by rw [QX hjl]) hb;exact .rptr b 0 ts (fun i=>(w.cell? ⟨b,0+i,none⟩).getD undef) (fun i t hi=>by obtain ⟨q1,u,q2,q3⟩:=hro i t hi; simp only [XX]; exact ⟨q1,by rw [q2]; rfl⟩)
   (fun i t hi=>by obtain ⟨q1,u,q2,q3⟩:=hro i t hi; simp only [XX]; rw [q2]; exact q3)
 ·rw [Qy e] at p1;exact htm.2 t' x v p1 p2
def AWp.freezeR (t j k len cap:Nat) (ht:tm[t]? =some (.c (.ref j k 0 len cap))) (hj:H[j]? =some (.box cs)) (hts:cs.mapM A0a=some ts) (rows:List (List Tree))
  (hrows:rows.length=len) (hcap:len≤cap) (hk: ∀r,r∈rows->r.length=k) (hpre: ∀i r m x,rows[i]? =some r->r[m]? =some x->ts[i*k+m]? =some x)
  (hw:AWp P rd h c Q ⟨tm.set t (.c (.slice rows .none)),H.set j (.ro ts)⟩):AWp P rd h c Q ⟨tm,H⟩:=by
 refine AWp.freeze0 j hj hts _ (fun ι σ w vs hh htm=> ?_) hw;refine ⟨by simpa using htm.1,fun t' x v p1 p2=> ?_⟩;by_cases e:t=t'
 ·subst e;have htl:t<tm.length:=(Qx.1 ht).1;rw [QX htl] at p1;cases p1;obtain ⟨b,hb,cap',hcap',rfl⟩:=htm.2 t _ v ht p2;have hjl:j<H.length:=(Qx.1 hj).1;have hro:=hh.2 j (.ro ts) b (by rw [QX hjl]) hb;subst hrows;refine ⟨.slice b 0 k cap' rows (fun i m=>(w.cell? ⟨b,0+(i*k+m),none⟩).getD undef) (by omega) hk (fun i r m t q1 q2=> ?_) (fun i r m t q1 q2=> ?_),trivial⟩
  ·obtain ⟨s1,u,s2,s3⟩:=hro _ t (hpre i r m t q1 q2);simp only [XX]; exact ⟨s1,by rw [s2]; rfl⟩
  ·obtain ⟨s1,u,s2,s3⟩:=hro _ t (hpre i r m t q1 q2);simp only [XX]; rw [s2]; exact s3
 ·rw [Qy e] at p1;exact htm.2 t' x v p1 p2
end
attribute [go_sem] B52 ofT A3v toT A0p A0a InK C3P isSoft isME C6q B6R fnD Wd.ld Wd.lc aop C7v C6l B1m B2t A4j A0c A5t A5u B8z B80 B51 A4l A7Z A5Q A5s B5y A7h bnd rowsOf A6m B0h A6n B20 A2N A5B A4i B8x B50 C4y B8y A4k aeval JY List.mapM_nil Option.pure_def Option.bind_eq_bind Go.Sp.intOf A0N A4B AVal.stored A1a B3T setMany lenOf partsOf A89 A0v A4F Blk.cells A2G List.set_cons_succ List.set_cons_zero YQ Yy Wz List.getElem?_cons_succ List.getElem?_cons_zero List.getElem?_nil Option.bind_some Option.bind_none Option.map_some Zy Yq List.drop_nil List.getLast?_concat List.getLast?_singleton A8I List.take_succ_cons List.take_zero List.take_nil List.length_cons List.length_nil Xv List.cons_append List.nil_append WX XY ZQ Jz List.replicate_succ List.replicate_zero QV XJ or_false forall_eq forall_eq_or_imp XX Nat.add_zero Nat.zero_mul Int.toNat_zero Int.toNat_one true_and and_true forall_const decide_eq_true_eq decide_eq_false_iff_not decide_true decide_false Qq4 Qx8 Ww Bool.not_eq_false' false_implies Bool.true_eq_false Yk eq_self if_true if_false exists_eq_left' exists_eq_left Vv Int.not_lt Int.not_le Classical.not_imp imp_self implies_true ite_true ite_false
attribute [go_sem] Nat.reduceAdd Nat.reduceSub Nat.reduceMul Nat.reduceLeDiff Nat.reduceLT Int.reduceToNat Int.reduceLT Int.reduceLE Int.reduceNeg reduceCtorEq Nat.reduceEqDiff
def Weak.head2 {h m:Nat} (hm:h≤m) (bs:List Bool) {tm tm':List AVal} {H H':List Blk} (e1:Sp.mask bs tm=tm') (e2:H.take m=H') (h1:A3T m tm'∧A1N m H'):Weak h ⟨tm,H⟩ ⟨tm',H'⟩:=
 Weak.head hm bs e1 e2 h1.1 h1.2
def A2e:AVal->Bool
 | .tup _=>false
 | _=>true
def A2f (P:Program) (rvs:List ResultVar) (st:St):Option AVal:=
 match rvs.mapM (A0o P st) with
 | some [x]=>if A2e x then some x else none
 | some xs=>if xs.all A2e then some (.tup xs) else none
 | none=>none
def A4Q (P:Program) (fn:Func) (H':List Blk) (r:AVal):Exit->St->Prop:=fun e st=>(match e with | .normal | .ret=>True | _=>False)∧st.heap=H'∧A2f P fn.results.toList st=some r
def A2F.of_noTup {x:AVal} {v:Value} (hx:A2e x=true) (h:VRel ι σ w H x v):A2F ι σ w H x v:=by
 cases x with
 | c x=>exact h
 | agg cs=>exact h
 | tup xs=>simp [A2e] at hx
def B0o {a:Act} (h:SRel ι σ st a w) {fn:Func} {r:AVal} (hr:A2f P fn.results.toList st=some r):
  ∃v,(results fn a.tmps).run P w= .ok v w∧VRel ι σ w st.heap r v:=by
 have hrun: ∀vs:List Value,(fn.results.toList.mapM (A3Q a.tmps)).run P w= .ok vs w->(results fn a.tmps).run P w= .ok (if h:vs.toArray.size=1 then vs.toArray[0] else .tuple vs.toArray) w:=by
  intro vs hv;have e:results fn a.tmps=(do let vs <-fn.results.mapM (A3Q a.tmps); pure (if h:vs.size=1 then vs[0] else .tuple vs)):=by
   unfold results;congr 1
  rw [e,Sem.run_bind,Qj1];simp [hv]
 unfold A2f at hr;split at hr
 ·rename_i x hx;obtain ⟨vs,h1,h2,h3⟩:=A3R h hx
  match vs,h2 with
  | [v],_=>
   split at hr
   ·cases hr;exact ⟨v,by simpa using hrun [v] h1,h3 0 _ v rfl rfl⟩
   ·cases hr
 ·rename_i xs hne hx;obtain ⟨vs,h1,h2,h3⟩:=A3R h hx;split at hr
  ·rename_i hall;cases hr;have hsz: ¬vs.length=1:=by
    intro e1;have hx1:xs.length=1:=by omega
    match xs,hx1 with
    | [y],_=>exact hne y rfl
   refine ⟨.tuple vs.toArray,?_,vs.toArray,rfl,by simp; omega,fun j y u q1 q2=> ?_⟩
   ·have:=hrun vs h1;rw [dif_neg (by simpa using hsz)] at this;exact this
   ·have hm:=ZX.1 hall y (Qv q1);exact A2F.of_noTup hm (h3 j y u q1 (by simpa using q2))
  ·cases hr
 ·cases hr
def ACallH.of_body {f:FuncId} (hf:P.funcs[f]? =some fn) (hb:fn.body=some c) (hn:B1q fn.name=true) {H:List Blk} {args:List AVal} {H':List Blk} {r:AVal}
  (hw:AWp P none H.length c (A4Q P fn H' r) ⟨entry fn args,H⟩):ACallH P f H args H' r:=by
 refine ⟨enters_of hf hb hn,fun ι σ w vs hH hl hv=> ?_⟩;refine callsIn_wide.1 (callsIn_of_wp_marks (F:=Fence.wide) (n:=9) hf hb trivial ?_);have hrel:SRel ι σ ⟨entry fn args,H⟩ { tmps:=vs.toArray++Array.replicate (fn.ntmps-vs.toArray.size) undef,defers:=[] } w:=⟨A3d hl hv,hH⟩;refine wpIn_mono (hw.out w.heap.size ι σ _ w hrel (fun l h=>by cases h) (Qk _) (MarksOK.nil ..)) ?_;rintro e a' w' ⟨ι',σ',st',⟨he,hheap,hres⟩,h1,h2,h3,Ds,h4,h5,h6⟩;rw [Zw (Qw0 hH.1),Zw (Qk _)] at h3;have fin:LeavesInM (Fr none) 9 P fn a'.tmps (fun e w'=> ∃v ι' σ',e= .returned v∧VRel ι' σ' w' H' r v∧HRel ι' σ' w' H'∧Mono ι σ w H ι' σ' w' H'∧Ext σ w σ' w') a'.defers .returning w':=by
  rw [h4];refine A1C (N:=w.heap.size) Ds w' h5 (fun D hD=>let ⟨q1,q2,q3,_⟩:=h6 D hD; ⟨q1,q2,q3⟩) ?_;intro w2 hb2 hc2 hx2 hd2 hdr2
  have S2:=h1.cells (w':=w2) hc2 (fun b ob h h' _=>hx2 b ob h h') (fun g=>⟨hb2.os,hb2.tape,hb2.output,hb2.size,fun b o u h h'=>⟨h,by rw [hc2]; exact h'⟩,fun b hbl _ hgb=>⟨hd2 b (fun hD=>by
   have h7:=(h6 b hD).2.2.2 0
   rcases hgb 0 with h8 | h8<;>(rw [h7] at h8; cases h8)),fun _=>rfl⟩,Qw0 hdr2.symm⟩)
  obtain ⟨v,r1,r2⟩:=B0o S2 hres;rw [hheap] at r2;have hfz: ∀b o u,w'.cell? ⟨b,o,none⟩=some u->w2.frozen? ⟨b,o,none⟩=w'.frozen? ⟨b,o,none⟩:=fun b o u hu=>by
   unfold World.cell? at hu;cases hb':w'.heap[b]? with
   | none=>simp [hb'] at hu
   | some x=>
    cases x with
    | cells arr e fz=>unfold World.frozen?; simp only [hb',hx2 b _ hb' (by intro c; simp)]
    | _=>simp [hb'] at hu
  have M:Mono ι' σ' w' st'.heap ι' σ' w2 st'.heap:=⟨fun b o u q1 q2=>⟨q1,by rw [hc2]; exact q2⟩,fun _ _ h=>h,fun id tip k h=>⟨tip,k,h,MarkUp.of fun b o q1 q2 ⟨arr,e,q3⟩=>⟨q2,(hx2 b _ q3 (by intro c; simp)).trans q3.symm⟩,.inr ⟨rfl,rfl,fun b o u q1 q2=>⟨q1,⟨u,by rw [hc2]; exact q2⟩,fun q3=>by rw [hfz b o u q2]; exact q3⟩⟩⟩⟩;have Mt:=h3.trans M;rw [hheap] at Mt;refine ⟨v,r1,v,ι',σ',rfl,r2,by rw [<-hheap]; exact S2.heap,Mt,?_⟩;refine ⟨hb2.os.trans h2.os,hb2.tape.trans h2.tape,hb2.output.trans h2.output,Yw h2.size hb2.size,fun b o v q1 q2=> ?_,fun b hbl q=> ?_,h2.back,by rw [hdr2]; exact h2.drawn⟩
  ·obtain ⟨s1,s2⟩:=h2.keep b o v q1 q2;exact ⟨s1,by rw [hc2]; exact s2⟩
  ·obtain ⟨s1,s2⟩:=h2.obj b hbl q;exact ⟨(hb2.block b hbl).trans s1,s2⟩
 cases e with
 | normal=>exact fin
 | ret=>exact fin
 | exit id=>exact he.elim
 | goto l=>exact he.elim
 | panic ch=>exact he.elim
 | outgrown=>exact he.elim
section
variable {P:Program} {rd:Option Nat} {h:Nat} {Q:Exit->St->Prop} {c:Code} {tm:List AVal} {H:List Blk}
def AWp.tmps (tm':List AVal) (ht: ∀ι σ w (vs:Array Value),HRel ι σ w H->TmpsRel ι σ w H tm vs->TmpsRel ι σ w H tm' vs) (hw:AWp P rd h c Q ⟨tm',H⟩):AWp P rd h c Q ⟨tm,H⟩:=
 ⟨fun N ι σ a w h1 h2 h3 h4=>hw.out N ι σ a w ⟨ht _ _ _ _ h1.heap h1.tmps,h1.heap⟩ h2 h3 h4⟩
def A5x {t:Nat} {x y:AVal} {vs:Array Value} (ht:tm[t]? =some x) (hxy: ∀v,VRel ι σ w H x v->VRel ι σ w H y v) (htm:TmpsRel ι σ w H tm vs):TmpsRel ι σ w H (tm.set t y) vs:=by
 refine ⟨by simpa using htm.1,fun t' z v p1 p2=> ?_⟩;by_cases e:t=t'
 ·subst e;have htl:t<tm.length:=(Qx.1 ht).1;rw [QX htl] at p1;cases p1;exact hxy v (htm.2 t x v ht p2)
 ·rw [Qy e] at p1;exact htm.2 t' z v p1 p2
def AWp.asRows (t i:Nat) (ht:tm[t]? =some (.c (.slice [] (.chain i)))) (hw:AWp P rd h c Q ⟨tm.set t (.c (.rows [] (.chain i))),H⟩):AWp P rd h c Q ⟨tm,H⟩:=by
 refine AWp.tmps _ (fun ι σ w vs hH htm=>A5x ht (fun v hv=> ?_) htm) hw;obtain ⟨h1,h2⟩:=hv;exact ⟨B1v h1 ⟨rfl,fun i r hr=>by simp at hr⟩,h2⟩
def AWp.freezeL: ∀(T:List (List ACell×List Tree)) (pre:List Blk),(∀p,p∈T->p.1.mapM A0a=some p.2)->
  AWp P rd h c Q ⟨tm,pre++T.map fun p=>Blk.ro p.2⟩->AWp P rd h c Q ⟨tm,pre++T.map fun p=>Blk.box p.1⟩
 | [],pre,_,hw=>hw
 | p::T,pre,hT,hw=>by
  refine AWp.freeze0 (H:=pre++(p::T).map fun p=>Blk.box p.1) pre.length (cs:=p.1) (ts:=p.2) (by simp) (hT p (by simp)) tm (fun _ _ _ _ _ h=>h) ?_;have e:(pre++(p::T).map fun p=>Blk.box p.1).set pre.length (.ro p.2)=(pre++[.ro p.2])++T.map fun p=>Blk.box p.1:=by
   rw [Vq _ _ (Qk _)]; simp
  rw [e];refine AWp.freezeL T (pre++[.ro p.2]) (fun q hq=>hT q (by simp [hq])) ?_;simpa using hw
def B58 {ι:List Nat} {σ:Sig} {w:World} {id k len cap:Nat} {ts:List Tree} {rows:List (List Tree)} {v:Value} (hH:HRel ι σ w H) (hid:H[id]? =some (.ro ts)) (hv:KRel ι σ w (.ref id k 0 len cap) v)
  (hrows:rows.length=len) (hcap:len≤cap) (hk: ∀r,r∈rows->r.length=k) (hpre: ∀i r m x,rows[i]? =some r->r[m]? =some x->ts[i*k+m]? =some x):TRel (Stab σ) w (.slice rows) v:=by
 obtain ⟨b,hb,cap',hcap',rfl⟩:=hv;have hro:=hH.2 id (.ro ts) b hid hb;subst hrows;refine .slice b 0 k cap' rows (fun i m=>(w.cell? ⟨b,0+(i*k+m),none⟩).getD undef) (by omega) hk (fun i r m t q1 q2=> ?_) (fun i r m t q1 q2=> ?_)
 ·obtain ⟨s1,u,s2,s3⟩:=hro _ t (hpre i r m t q1 q2);simp only [XX]; exact ⟨s1,by rw [s2]; rfl⟩
 ·obtain ⟨s1,u,s2,s3⟩:=hro _ t (hpre i r m t q1 q2);simp only [XX]; rw [s2]; exact s3
def rows_data {rs:List (List ACap)} {data:List Tree} {v:Value} (h:A7c ι σ w rs v) (hl:rs.length=data.length)
  (hd: ∀(i:Nat) r,rs[i]? =some r-> ∃c t,r=[c]∧data[i]? =some t∧ ∀u,KRel ι σ w c u->TRel (Stab σ) w t u):TRel (Stab σ) w (.slice (data.map fun t=>[t])) v:=by
 obtain ⟨a,cp,rfl,hlc,h⟩:=h;by_cases hne:rs=[]
 ·subst hne;have:data=[]:=ZY.1 hl.symm;subst this;exact .nil a cp
 obtain ⟨b,off,k,rfl,hk,hc⟩:=h hne;have e:rs.length=(data.map fun t=>[t]).length:=by simp [hl]
 have hk1:k=1:=by
  have hpos:0<rs.length:=Wy.2 hne;obtain ⟨c,t,e1,_⟩:=hd 0 rs[0] (Qq hpos);have:=hk rs[0] (Xw hpos);rw [e1] at this;simpa using this.symm
 subst hk1;have hget: ∀(i:Nat) r (j:Nat) t,(data.map fun t=>[t])[i]? =some r->r[j]? =some t-> ∃u,σ b (off+(i*1+j))= .stable∧w.cell? ⟨b,off+(i*1+j),none⟩=some u∧TRel (Stab σ) w t u:=fun i r j t h1 h2=>by
  simp only [QQ] at h1;cases hx:data[i]? with
  | none=>rw [hx] at h1; simp at h1
  | some t'=>
   rw [hx] at h1; simp at h1; subst h1;cases j with
   | succ j=>simp at h2
   | zero=>
    simp at h2; subst h2;have hil:i<rs.length:=by rw [hl]; exact (Qx.1 hx).1
    have e1:=Qq hil;obtain ⟨c,t2,e2,e3,e4⟩:=hd i _ e1;rw [hx] at e3; cases e3;rw [e2] at e1;obtain ⟨u,q1,q2,q3⟩:=hc i _ 0 c e1 rfl;exact ⟨u,q1,q2,e4 u q3⟩
 rw [e];refine .slice b off 1 cp _ (fun i j=>(w.cell? ⟨b,off+(i*1+j),none⟩).getD undef) (by rw [<-e]; exact hlc) (fun r hr=>by obtain ⟨t,_,rfl⟩:=QY.1 hr; rfl) (fun i r j t h1 h2=> ?_) (fun i r j t h1 h2=> ?_)
 ·obtain ⟨u,q1,q2,_⟩:=hget i r j t h1 h2;exact ⟨q1,by rw [q2]; rfl⟩
 ·obtain ⟨u,q1,q2,q3⟩:=hget i r j t h1 h2;rw [q2]; exact q3
def AWp.rowsData (t:Nat) (rs:List (List ACap)) (tok:Tok) (data:List Tree) (ht:tm[t]? =some (.c (.rows rs tok))) (hl:rs.length=data.length)
  (hd: ∀(i:Nat) r,rs[i]? =some r-> ∃c t,r=[c]∧data[i]? =some t∧ ∀ι σ w u,HRel ι σ w H->KRel ι σ w c u->TRel (Stab σ) w t u)
  (hw:AWp P rd h c Q ⟨tm.set t (.c (.slice (data.map fun t=>[t]) .none)),H⟩):AWp P rd h c Q ⟨tm,H⟩:=by
 refine AWp.tmps _ (fun ι σ w vs hH htm=>A5x ht (fun v hv=> ?_) htm) hw;exact ⟨rows_data hv.1 hl fun i r hr=>let ⟨c,t,q1,q2,q3⟩:=hd i r hr; ⟨c,t,q1,q2,fun u hu=>q3 _ _ _ u hH hu⟩,trivial⟩
end
def AReg.nilq {P:Program} {rd:Option Nat} {h:Nat} {Q:Exit->St->Prop} {all:Array Oper} {rest0 rest:List Oper} {tm:List AVal} {H:List Blk} {o:Oper} (neg:Bool) (he:rest0=o::rest)
  {t t':TypeId} {x y:Operand} (ho:o.op= .binOp (if neg then .neq else .eql) t x y t') (hgd:o.guard=none) {e:TypeId} (hE:A03 P t=some (none,e)) {tok:Tok} (hx:aeval tm x= .c (.slice [] tok)) (hy:aeval tm y= .c .nils)
  (hk: ∀b,AReg P rd h all rest Q (A1a tm o.dst (.c (.bool b))) H):AReg P rd h all rest0 Q tm H:=by
 subst he;refine ⟨fun N ι0 σ0 w0 H0 ι σ a w r1 r2 r3 r4 r5=> ?_⟩;unfold wpListIn;have hg:gwant all tm o=some true:=by simp [gwant,hgd]
 rw [if_pos (A07 r1.tmps hg)];refine ⟨fun _ _=>trivial,?_⟩;rw [Oper.semAt_eq _ _ _ (by simp [ho])];have vx:=A0J r1.tmps x;rw [hx] at vx;have vy:=A0J r1.tmps y;rw [hy] at vy;have e2:a.eval y= .slice none 0 0:=vy;have hu:=A0w hE;obtain ⟨ad,n,c,e1⟩: ∃ad n c,a.eval x= .slice ad n c:=by
  have hT:=vx.1;generalize a.eval x=v at hT;cases hT with
  | nil _ _=>exact ⟨_,_,_,rfl⟩
  | slice b off k c rows cell hn hk hc hrr=>exact ⟨_,_,_,rfl⟩
 have hrun:(execOp a.eval o).run P w= .ok (.value (.bool (if neg then !ad.isNone else ad.isNone))) w:=by
  cases neg with
  | false=>
   have hg:(eqGuard .eql t x y (.slice ad n c) (.slice none 0 0)).run P w= .ok () w:=by unfold eqGuard; simp
   simp only [execOp,ho,e1,e2,Sem.run_bind,Yk,if_false,hg,Go.run_eql_slice_nil w t e ad n c hu,Result.andThen_ok,Sem.run_pure]
  | true=>
   have hg:(eqGuard .neq t x y (.slice ad n c) (.slice none 0 0)).run P w= .ok () w:=by unfold eqGuard; simp
   simp only [execOp,ho,e1,e2,Sem.run_bind,if_true,hg,Go.run_neq_slice_nil w t e ad n c hu,Result.andThen_ok,Sem.run_pure]
 rw [hrun];exact (hk _).out N ι0 σ0 w0 H0 ι σ _ w ⟨A0K r1.tmps rfl,r1.heap⟩ r2 (by rw [Act.put_defers]; exact r3) r4 r5
def zA {P Q:Prop} (q:Q) (h:Q->P:=by
  intro q; with_reducible first
   | exact AWp.seq q | exact AWp.block q | exact AWp.skip q | exact AWp.ret q | exact AWp.exit q
   | exact A2G.n q | exact A2G.r q | exact A2G.e q | exact A1x.n q | exact A1x.r q | exact A1x.hit q | exact A1x.miss (by with_unfolding_all decide) q):P:=h q
def zB {P Q:Prop} (q:Q) (h:Q->P:=by
  intro q; with_reducible first
   | exact AWp.seq_region q | exact AWp.last_region q | exact AWp.seq_draw (wd:= .no) (by decide+kernel) q | exact AWp.last_draw (wd:= .no) (by decide+kernel) q | exact AWp.seq_draw (wd:= .yes) (by decide+kernel) q | exact AWp.last_draw (wd:= .yes) (by decide+kernel) q):P:=h q
def zE {P Q:Prop} (q:Q) (h:Q->P:=by intro q; with_reducible first | exact C71 q | exact C6p q | exact C6r q):P:=h q
def zN {P Q:Prop} (q:Q) (h:Q->P:=by
  intro q; with_reducible first
   | exact C43 (by rfl) (by with_unfolding_all rfl) q | exact C2b (by rfl) (by with_unfolding_all rfl) q | exact C2e (by rfl) (by with_unfolding_all rfl) q):P:=h q
def zT {P Q:Prop} (q:Q) (h:Q->P:=by intro q; with_reducible first | exact C6o (by rfl) q | exact C41 (by rfl) q | exact C44 (by rfl) q):P:=h q
def zG {P Q R:Prop} (q:Q) (r:R) (h:Q->R->P:=by
  intro q r; with_reducible first
   | exact C42 (by rfl) (by with_unfolding_all rfl) q r | exact C2a (by rfl) (by with_unfolding_all rfl) q r | exact C2d (by rfl) (by with_unfolding_all rfl) q r):P:=h q r
def zS {P Q:Prop} (q:Q) (h:P=Q:=by
  (simp only [A1a,List.set_cons_succ,List.set_cons_zero,List.length_cons,List.length_nil,Xv,List.cons_append,List.nil_append,Nat.reduceAdd,WX]); rfl):P:=h.mpr q
def zH {p q Q:Prop} (r:q->Q) (h:p=q:=by
  (simp only [decide_eq_true_eq,decide_eq_false_iff_not,Ww,Bool.not_eq_false',Qq4,Qx8,Int.not_lt,Int.not_le,reduceCtorEq,Bool.true_eq_false,Yk]); rfl):p->Q:=fun x=>r (h.mp x)
def zX {P:Prop} (h:P:=by exfalso; first | assumption | ((try clear hK'); (try clear hK); omega)):P:=h
def zY {P:Prop} (h:P:=by
  first
   | (with_reducible exact Qv3)
   | ((with_reducible first | refine gi1 ?_ | refine gi2 ?_ | refine gn1 ?_ | refine gn2 ?_ | refine gi3 ?_ | refine gn3 ?_ | refine C8d ?_); omega)):P:=h
def zP {P:Prop} (h:P:=by first | (exfalso; (try clear hK'); (try clear hK); omega) | exact absurd hpath (by assumption)):P:=h
def zC {P Q R:Prop} (q:Q) (r:R) (h:Q->R->P:=by intro q r; with_reducible exact AWp.cond _ (by with_unfolding_all rfl) q r):P:=h q r
def zK {P Q C:Prop} (c:C) (q:Q) (h:C->Q->P:=by
  intro c q; with_reducible first
   | exact ⟨_,_,ACall.h c (by with_unfolding_all rfl),q⟩
   | exact ⟨_,ACall.h c (by with_unfolding_all rfl),q⟩
   | exact ⟨_,_,ACall.hb c (by with_unfolding_all rfl) (by with_unfolding_all rfl),q⟩
   | exact ⟨_,ACall.hb c (by with_unfolding_all rfl) (by with_unfolding_all rfl),q⟩):P:=h c q
def zL {P Q C:Prop} (h:C->Q->P:=by
  intro c q; with_reducible first
   | exact ⟨_,_,ACall.h c (by with_unfolding_all rfl),q⟩
   | exact ⟨_,ACall.h c (by with_unfolding_all rfl),q⟩
   | exact ⟨_,_,ACall.hb c (by with_unfolding_all rfl) (by with_unfolding_all rfl),q⟩
   | exact ⟨_,ACall.hb c (by with_unfolding_all rfl) (by with_unfolding_all rfl),q⟩) (c:C) (q:Q):P:=h c q
def zU {P Q:Prop} (q:Q) (h:P=Q:=by
  (simp only [ofT,A3v,A0v,XY,ZQ,List.length_cons,List.length_nil,Nat.reduceAdd,Nat.reduceSub,List.replicate_succ,List.replicate_zero,List.cons_append,List.nil_append]); rfl):P:=h.mpr q
def zW {m:Nat} {tm:List AVal} {H:List Blk} (h:A3T m tm∧A1N m H:=by
  (repeat' (first | exact A1K _ | exact A15 _ | exact A1p _ | refine Qv4 ?_ ?_ | refine A1y ?_ ?_ | refine A04 ?_ ?_ | refine A1e ?_ ?_ | exact Qv3 | (show _<_; omega) | exact A1g (fun _=>Qv3) | (intro c hc; cases hc; done) | (intro c hc; simp only [QV,XJ,or_false] at hc; subst hc; exact Qv3) | (intro c hc; simp only [QV,XJ,or_false] at hc; rcases hc with rfl | rfl<;>exact Qv3)))):A3T m tm∧A1N m H:=h
def A1B:Nat->Nat->List Nat->List Bool
 | 0,_,_=>[]
 | n+1,i,[]=>false::A1B n (i+1) []
 | n+1,i,k::ks=>if k=i then true::A1B n (i+1) ks else false::A1B n (i+1) (k::ks)
def Weak.headL {h:Nat} (m n:Nat) (ks:List Nat) {tm tm':List AVal} {H H':List Blk} (hw:A3T m tm'∧A1N m H')
  (hm:h≤m:=by first | omega | simp) (e1:Sp.mask (A1B n 0 ks) tm=tm':=by first | rfl | (simp [mask,A1B]; done) | (simp [mask,A1B]<;>omega)) (e2:H.take m=H':=by first | rfl | (simp; done) | (simp<;>omega)):Weak h ⟨tm,H⟩ ⟨tm',H'⟩:=
 Weak.head2 hm _ e1 e2 hw
def Weak.headN {h:Nat} (m n:Nat) (ks:List Nat) {tm tm':List AVal} {H H':List Blk} (hw:A3T m tm'∧A1N m H')
  (hm:h≤m:=by omega) (e1:Sp.mask (A1B n 0 ks) tm=tm':=by first | rfl | (simp [mask,A1B]; done) | (simp [mask,A1B]<;>simp_all<;>omega)) (e2:H.take m=H':=by first | rfl | (simp [mask,A1B]; done) | (simp [mask,A1B]<;>simp_all<;>omega)):Weak h ⟨tm,H⟩ ⟨tm',H'⟩:=
 Weak.head2 hm _ e1 e2 hw
def zc {A B:Prop} (a:A) (b:B):A∧B:=⟨a,b⟩
structure Hd (Q:Prop):Prop where
 out:Q
def zEx {p:α->Prop} (h: ∃x,p x): ∃x,p x:=h
def zR {F C K P Q:Prop} (f:F) (c:C) (k:K) (q:Q) (h:F->C->K->Hd Q->P:=by
  intro f c k q
  (repeat' (first|((first|(refine zT ?_;intro K' hK')|(refine zG ?_ ?_<;>(try refine zH ?_)<;>intro hguard<;>(try exact zX)<;>try intro K' hK'))<;>((try simp+contextual only [go_sem,Int.toNat_natCast,Wj,Option.isSome_none,Option.isSome_some,false_and,not_false_eq_true,f]);(repeat' first|(with_reducible refine hK' _ _ ?_;clear hK' K')|((with_reducible refine zEx ?_);(with_reducible first|refine zK c.1 ?_|refine zK c.2.1 ?_|refine zK c.2.2.1 ?_|refine zK c.2.2.2.1 ?_|refine zK c.2.2.2.2.1 ?_|refine zK c.2.2.2.2.2.1 ?_|refine zK c.2.2.2.2.2.2.1 ?_|refine zK c.2.2.2.2.2.2.2.1 ?_);try simp+contextual only [go_sem,Int.toNat_natCast,Wj,Option.isSome_none,Option.isSome_some,false_and,not_false_eq_true,f])|(with_reducible exact k (by assumption))|exact zY|with_reducible refine Qv4 ?_ ?_|(with_reducible intro hpath;try exact zP)|(refine hK' _ _ ?_;clear hK' K')|fail);try refine zS ?_))|(refine zE ?_;refine hK _ _ ?_;clear hK K)|(refine zN ?_;try refine zS ?_)|refine zA ?_|(refine zB ?_;intro K hK)|(refine zC ?_ ?_<;>(try refine zH ?_)<;>intro hcond<;>try exact zX)|fail))
  exact q.out):P:=h f c k ⟨q⟩
def zR2 {F C K P Q R:Prop} (f:F) (c:C) (k:K) (q:Q) (r:R) (h:F->C->K->Hd Q->Hd R->P:=by
  intro f c k q r
  (repeat' (first|((first|(refine zT ?_;intro K' hK')|(refine zG ?_ ?_<;>(try refine zH ?_)<;>intro hguard<;>(try exact zX)<;>try intro K' hK'))<;>((try simp+contextual only [go_sem,Int.toNat_natCast,Wj,Option.isSome_none,Option.isSome_some,false_and,not_false_eq_true,f]);(repeat' first|(with_reducible refine hK' _ _ ?_;clear hK' K')|((with_reducible refine zEx ?_);(with_reducible first|refine zK c.1 ?_|refine zK c.2.1 ?_|refine zK c.2.2.1 ?_|refine zK c.2.2.2.1 ?_|refine zK c.2.2.2.2.1 ?_|refine zK c.2.2.2.2.2.1 ?_|refine zK c.2.2.2.2.2.2.1 ?_|refine zK c.2.2.2.2.2.2.2.1 ?_);try simp+contextual only [go_sem,Int.toNat_natCast,Wj,Option.isSome_none,Option.isSome_some,false_and,not_false_eq_true,f])|(with_reducible exact k (by assumption))|exact zY|with_reducible refine Qv4 ?_ ?_|(with_reducible intro hpath;try exact zP)|(refine hK' _ _ ?_;clear hK' K')|fail);try refine zS ?_))|(refine zE ?_;refine hK _ _ ?_;clear hK K)|(refine zN ?_;try refine zS ?_)|refine zA ?_|(refine zB ?_;intro K hK)|(refine zC ?_ ?_<;>(try refine zH ?_)<;>intro hcond<;>try exact zX)|fail))
  exact q.out
  exact r.out):P:=h f c k ⟨q⟩ ⟨r⟩
def zRc {F C K P Q:Prop} (f:F) (c:C) (k:K) (q:Q) (h:F->C->K->Hd Q->P:=by
  intro f c k q
  (repeat' (first|((first|(refine zT ?_;intro K' hK')|(refine zG ?_ ?_<;>(try refine zH ?_)<;>intro hguard<;>(try exact zX)<;>try intro K' hK'))<;>((try simp+contextual only [go_sem,Int.toNat_natCast,Wj,Option.isSome_none,Option.isSome_some,false_and,not_false_eq_true,f,chunks,List.range,List.range.loop]);(repeat' first|(with_reducible refine hK' _ _ ?_;clear hK' K')|((with_reducible refine zEx ?_);(with_reducible first|refine zK c.1 ?_|refine zK c.2.1 ?_|refine zK c.2.2.1 ?_|refine zK c.2.2.2.1 ?_|refine zK c.2.2.2.2.1 ?_|refine zK c.2.2.2.2.2.1 ?_|refine zK c.2.2.2.2.2.2.1 ?_|refine zK c.2.2.2.2.2.2.2.1 ?_);try simp+contextual only [go_sem,Int.toNat_natCast,Wj,Option.isSome_none,Option.isSome_some,false_and,not_false_eq_true,f,chunks,List.range,List.range.loop])|(with_reducible exact k (by assumption))|exact zY|with_reducible refine Qv4 ?_ ?_|(with_reducible intro hpath;try exact zP)|(refine hK' _ _ ?_;clear hK' K')|fail);try refine zS ?_))|(refine zE ?_;refine hK _ _ ?_;clear hK K)|(refine zN ?_;try refine zS ?_)|refine zA ?_|(refine zB ?_;intro K hK)|(refine zC ?_ ?_<;>(try refine zH ?_)<;>intro hcond<;>try exact zX)|fail))
  exact q.out):P:=h f c k ⟨q⟩
def Weak.headF {F:Prop} {h:Nat} (m n:Nat) (ks:List Nat) (f:F) {tm tm':List AVal} {H H':List Blk} (hw:A3T m tm'∧A1N m H')
  (hm:h≤m:=by omega) (e1:F->Sp.mask (A1B n 0 ks) tm=tm':=by intro f; first | rfl | (simp [mask,A1B,f]; done) | (simp [mask,A1B,f]<;>simp_all<;>omega)) (e2:F->H.take m=H':=by intro f; first | rfl | (simp [mask,A1B,f]; done) | (simp [mask,A1B,f]<;>simp_all<;>omega)):Weak h ⟨tm,H⟩ ⟨tm',H'⟩:=
 Weak.head2 hm _ (e1 f) (e2 f) hw
def sl:Nat->Nat->List (Nat×AVal)->List AVal
 | 0,_,_=>[]
 | n+1,i,[]=> .c .any::sl n (i+1) []
 | n+1,i,(k,v)::ks=>if k=i then v::sl n (i+1) ks else .c .any::sl n (i+1) ((k,v)::ks)
def AWp.loopS {P:Program} {rd:Option Nat} {h:Nat} {Q:Exit->St->Prop} {c:Code} {st:St} {α:Type} (n:Nat) (S:α->List (Nat×AVal)) (H:α->List Blk) (I:α->Prop) (μ:α->Nat) (x0:α) {tm:α->List AVal}
  (e: ∀x,sl n 0 (S x)=tm x:=by intro x; simp only [sl,Nat.reduceAdd,Nat.reduceEqDiff,reduceIte,reduceCtorEq]; exact rfl)
  (hk:Weak h st ⟨tm x0,H x0⟩) (h0:I x0) (round: ∀x,I x->AWp P rd h c (A2G (fun s'=> ∃x',Weak h s' ⟨tm x',H x'⟩∧I x'∧μ x'<μ x) Q) ⟨tm x,H x⟩):AWp P rd h (.loop c) Q st:=
 AWp.loopx (fun x=>⟨tm x,H x⟩) I μ x0 hk h0 round
def C74 (n:Nat):Prop:=n=n
def stop (n:Nat):C74 n:=rfl
def AWp.atSeqS {h:Nat} {n:Nat} (s:C74 n) {ops:Array Oper} {b:Bool} {c:Code} (hw:AWp P rd h (.seq (.region n ops b) c) Q st):AWp P rd h (.seq (.region n ops b) c) Q st:=hw
def AWp.atLastS {h:Nat} {n:Nat} (s:C74 n) {ops:Array Oper} {b:Bool} (hw:AWp P rd h (.region n ops b) Q st):AWp P rd h (.region n ops b) Q st:=hw
def zKa {P Q C:Prop} (c:C) (q:Q) (h:C->Q->P:=by
  intro c q; with_reducible first
   | exact ⟨_,_,c,q⟩ | exact ⟨_,c,q⟩ | exact ⟨_,_,c _,q⟩ | exact ⟨_,c _,q⟩):P:=h c q
def zJ {S F C A K P Q:Prop} (s:S) (f:F) (c:C) (a:A) (k:K) (q:Q) (h:S->F->C->A->K->Hd Q->P:=by
  intro s f c a k q
  (repeat' ((fail_if_success (with_reducible refine AWp.atSeqS s ?_));(fail_if_success (with_reducible refine AWp.atLastS s ?_));first|((first|(refine zT ?_;intro K' hK')|(refine zG ?_ ?_<;>(try refine zH ?_)<;>intro hguard<;>(try exact zX)<;>try intro K' hK'))<;>((try simp+contextual only [go_sem,Int.toNat_natCast,Wj,Option.isSome_none,Option.isSome_some,false_and,not_false_eq_true,f]);(repeat' first|(with_reducible refine hK' _ _ ?_;clear hK' K')|((with_reducible refine zEx ?_);(with_reducible first|refine zKa a.1 ?_|refine zKa a.2.1 ?_|refine zKa a.2.2.1 ?_|refine zKa a.2.2.2.1 ?_|refine zK c.1 ?_|refine zK c.2.1 ?_|refine zK c.2.2.1 ?_|refine zK c.2.2.2.1 ?_|refine zK c.2.2.2.2.1 ?_|refine zK c.2.2.2.2.2.1 ?_|refine zK c.2.2.2.2.2.2.1 ?_|refine zK c.2.2.2.2.2.2.2.1 ?_);try simp+contextual only [go_sem,Int.toNat_natCast,Wj,Option.isSome_none,Option.isSome_some,false_and,not_false_eq_true,f])|(with_reducible exact k (by assumption))|exact zY|with_reducible refine Qv4 ?_ ?_|(with_reducible intro hpath;try exact zP)|(refine hK' _ _ ?_;clear hK' K')|fail);try refine zS ?_))|(refine zE ?_;refine hK _ _ ?_;(try clear hK K))|(refine zN ?_;try refine zS ?_)|refine zA ?_|(refine zB ?_;intro K hK)|(refine zC ?_ ?_<;>(try refine zH ?_)<;>intro hcond<;>try exact zX)|fail))
  exact q.out):P:=h s f c a k ⟨q⟩
def zJc {S F C A K P Q:Prop} (s:S) (f:F) (c:C) (a:A) (k:K) (q:Q) (h:S->F->C->A->K->Hd Q->P:=by
  intro s f c a k q
  (repeat' ((fail_if_success (with_reducible refine AWp.atSeqS s ?_));(fail_if_success (with_reducible refine AWp.atLastS s ?_));first|((first|(refine zT ?_;intro K' hK')|(refine zG ?_ ?_<;>(try refine zH ?_)<;>intro hguard<;>(try exact zX)<;>try intro K' hK'))<;>((try simp+contextual only [go_sem,Int.toNat_natCast,Wj,Option.isSome_none,Option.isSome_some,false_and,not_false_eq_true,f,chunks,List.range,List.range.loop]);(repeat' first|(with_reducible refine hK' _ _ ?_;clear hK' K')|((with_reducible refine zEx ?_);(with_reducible first|refine zKa a.1 ?_|refine zKa a.2.1 ?_|refine zKa a.2.2.1 ?_|refine zKa a.2.2.2.1 ?_|refine zK c.1 ?_|refine zK c.2.1 ?_|refine zK c.2.2.1 ?_|refine zK c.2.2.2.1 ?_|refine zK c.2.2.2.2.1 ?_|refine zK c.2.2.2.2.2.1 ?_|refine zK c.2.2.2.2.2.2.1 ?_|refine zK c.2.2.2.2.2.2.2.1 ?_);try simp+contextual only [go_sem,Int.toNat_natCast,Wj,Option.isSome_none,Option.isSome_some,false_and,not_false_eq_true,f,chunks,List.range,List.range.loop])|(with_reducible exact k (by assumption))|exact zY|with_reducible refine Qv4 ?_ ?_|(with_reducible intro hpath;try exact zP)|(refine hK' _ _ ?_;clear hK' K')|fail);try refine zS ?_))|(refine zE ?_;refine hK _ _ ?_;(try clear hK K))|(refine zN ?_;try refine zS ?_)|refine zA ?_|(refine zB ?_;intro K hK)|(refine zC ?_ ?_<;>(try refine zH ?_)<;>intro hcond<;>try exact zX)|fail))
  exact q.out):P:=h s f c a k ⟨q⟩
structure Ed (B C Q:Prop):Prop where
 out:B->C->Q
def ed {B C Q:Prop} (h:B->C->Q):Ed B C Q:=⟨h⟩
def zo {B C Q:Prop} (q:Ed B C Q) (c:B∧C):Q:=q.out c.1 c.2
def Part (n k:Nat):Prop:=n=n∧k=k
def prt (n k:Nat):Part n k:=⟨rfl,rfl⟩
def AWp.partL {h:Nat} {n k:Nat} (_:Part n k) {ops:List Oper} {tm:List AVal} {H:List Blk}
  (q: ∀K:List AVal->List Blk->Prop,(∀tm' H',AReg P rd h ops.toArray (ops.drop k) Q tm' H'->K tm' H')->A1U P ops.toArray (ops.take k) tm H K):AWp P rd h (.region n ops.toArray false) Q ⟨tm,H⟩:=
 AWp.of_reg (AReg.pre k q)
def AWp.partS {h:Nat} {n k:Nat} (s:Part n k) {ops:List Oper} {c:Code} {tm:List AVal} {H:List Blk}
  (q: ∀K:List AVal->List Blk->Prop,(∀tm' H',AReg P rd h ops.toArray (ops.drop k) (A2G (AWp P rd h c Q) Q) tm' H'->K tm' H')->A1U P ops.toArray (ops.take k) tm H K):AWp P rd h (.seq (.region n ops.toArray false) c) Q ⟨tm,H⟩:=
 AWp.seq (AWp.partL s q)
def zPt {P Q S:Prop} (s:S) (q:Q) (h:S->Q->P:=by
  intro s q; with_reducible first
   | exact AWp.partS s q | exact AWp.partL s q | exact AWp.partS s.2 q | exact AWp.partL s.2 q):P:=h s q
def zAt {P Q S:Prop} (s:S) (q:Q) (h:S->Q->P:=by
  intro s q; with_reducible first
   | exact AWp.atSeqS s q | exact AWp.atLastS s q | exact AWp.atSeqS s.1 q | exact AWp.atLastS s.1 q):P:=h s q
def C8e:(∀x,ofT (.t x)= .c (A0v x))∧(∀cs,ofT (.agg cs)= .agg (cs.map A0v))∧(∀k n,A0v (.int k n)= .int k n)∧(∀b,A0v (.bool b)= .bool b)∧(∀r,A0v (.slice r)= .slice r .none)∧ ∀c,A0v (.rptr c)= .rptr c:=
 ⟨fun _=>by simp [ofT],fun _=>by simp [ofT],fun _ _=>rfl,fun _=>rfl,fun _=>rfl,fun _=>rfl⟩
def zKn {P Q C:Prop} (c:C) (q:Q) (h:C->Q->P:=by
  intro c q; with_reducible first
   | exact ⟨_,_,ACall.h c (by with_unfolding_all rfl),q⟩
   | exact ⟨_,ACall.h c (by with_unfolding_all rfl),q⟩
   | exact ⟨_,_,ACall.hb c (by with_unfolding_all rfl) (by with_unfolding_all rfl),q⟩
   | exact ⟨_,ACall.hb c (by with_unfolding_all rfl) (by with_unfolding_all rfl),q⟩
   | exact ⟨_,_,ACall.h (c _) (by with_unfolding_all rfl),q⟩ | exact ⟨_,ACall.h (c _) (by with_unfolding_all rfl),q⟩ | exact ⟨_,_,ACall.hb (c _) (by with_unfolding_all rfl) (by with_unfolding_all rfl),q⟩ | exact ⟨_,ACall.hb (c _) (by with_unfolding_all rfl) (by with_unfolding_all rfl),q⟩ | exact ⟨_,_,ACall.h (c _ _) (by with_unfolding_all rfl),q⟩ | exact ⟨_,ACall.h (c _ _) (by with_unfolding_all rfl),q⟩ | exact ⟨_,_,ACall.hb (c _ _) (by with_unfolding_all rfl) (by with_unfolding_all rfl),q⟩ | exact ⟨_,ACall.hb (c _ _) (by with_unfolding_all rfl) (by with_unfolding_all rfl),q⟩ | exact ⟨_,_,ACall.h (c _ _ _) (by with_unfolding_all rfl),q⟩ | exact ⟨_,ACall.h (c _ _ _) (by with_unfolding_all rfl),q⟩ | exact ⟨_,_,ACall.hb (c _ _ _) (by with_unfolding_all rfl) (by with_unfolding_all rfl),q⟩ | exact ⟨_,ACall.hb (c _ _ _) (by with_unfolding_all rfl) (by with_unfolding_all rfl),q⟩ | exact ⟨_,_,ACall.h (c _ _ _ _) (by with_unfolding_all rfl),q⟩ | exact ⟨_,ACall.h (c _ _ _ _) (by with_unfolding_all rfl),q⟩ | exact ⟨_,_,ACall.hb (c _ _ _ _) (by with_unfolding_all rfl) (by with_unfolding_all rfl),q⟩ | exact ⟨_,ACall.hb (c _ _ _ _) (by with_unfolding_all rfl) (by with_unfolding_all rfl),q⟩):P:=h c q
def zKm {P Q C:Prop} (c:C) (q:Q) (h:C->Q->P:=by
  intro c q; with_reducible first
   | exact ⟨_,_,c,q⟩ | exact ⟨_,c,q⟩ | exact ⟨_,_,c _,q⟩ | exact ⟨_,c _,q⟩ | exact ⟨_,_,c _ rfl,q⟩ | exact ⟨_,c _ rfl,q⟩ | exact ⟨_,_,c _ _ rfl,q⟩ | exact ⟨_,c _ _ rfl,q⟩ | exact ⟨_,_,c _ _,q⟩ | exact ⟨_,c _ _,q⟩ | exact ⟨_,c.1,rfl,c.2,q⟩):P:=h c q
def zM {S F C A K P Q:Prop} (s:S) (f:F) (c:C) (a:A) (k:K) (q:Q) (h:S->F->C->A->K->Q->P:=by
  intro s f c a k q;have hpc:=Qv4 Qv3 Qv3
  (repeat' ((fail_if_success (with_reducible refine zAt s ?_));first|(refine zPt s ?_;intro K hK;simp only [List.take_succ_cons,List.take_zero])|((first|(refine zT ?_;intro K' hK')|(refine zG ?_ ?_<;>(try refine zH ?_)<;>intro hguard<;>(try exact zX)<;>(replace hpc:=Qv4 hpc hguard)<;>try intro K' hK'))<;>((try simp+contextual only [go_sem,Int.toNat_natCast,Wj,Option.isSome_none,Option.isSome_some,false_and,not_false_eq_true,A2N,f]);(repeat' first|(with_reducible refine hK' _ _ ?_;clear hK' K')|((with_reducible refine zEx ?_);(with_reducible first|refine zKm a.1 ?_|refine zKm a.2.1 ?_|refine zKm a.2.2.1 ?_|refine zKm a.2.2.2.1 ?_|refine zKm a.2.2.2.2.1 ?_|refine zKn c.1 ?_|refine zKn c.2.1 ?_|refine zKn c.2.2.1 ?_|refine zKn c.2.2.2.1 ?_|refine zKn c.2.2.2.2.1 ?_|refine zKn c.2.2.2.2.2.1 ?_|refine zKn c.2.2.2.2.2.2.1 ?_|refine zKn c.2.2.2.2.2.2.2.1 ?_|refine zKn c.2.2.2.2.2.2.2.2.1 ?_|refine zKn c.2.2.2.2.2.2.2.2.2.1 ?_);try simp+contextual only [go_sem,Int.toNat_natCast,Wj,Option.isSome_none,Option.isSome_some,false_and,not_false_eq_true,A2N,f])|((with_reducible first|exact k (by assumption)|exact k.1 (by assumption)|exact k.2 (by assumption)|exact k.2.1 (by assumption)|exact k.2.2 (by assumption)|exact k.2.2.1 (by assumption)|exact k.2.2.2 (by assumption)|exact k _ (by assumption)|exact k.1 _ (by assumption)|exact k.2 _ (by assumption)|exact k.2.1 _ (by assumption)|exact k.2.2 _ (by assumption)|exact k.2.2.1 _ (by assumption)|exact k.2.2.2 _ (by assumption)|exact k|exact k.1|exact k.2|exact k.2.1|exact k.2.2|exact k.2.2.1|exact k.2.2.2))|exact zY|with_reducible refine Qv4 ?_ ?_|(with_reducible intro hpath;((try exact zP)<;>(try replace hpc:=Qv4 hpc hpath)))|(refine hK' _ _ ?_;clear hK' K')|exact k|exact k.1|exact k.2|exact k.2.1|exact k.2.2|exact k.2.2.1|exact k.2.2.2|exact .inr Qv3|exact absurd Qv3 (by assumption)|fail);try refine zS ?_))|(refine zE ?_;refine hK _ _ ?_;(try clear hK K))|(refine zN ?_;try refine zS ?_)|refine zA ?_|(refine zB ?_;intro K hK)|(refine zC ?_ ?_<;>(try refine zH ?_)<;>intro hcond<;>(try exact zX)<;>(replace hpc:=Qv4 hpc hcond))|fail))
  all_goals with_reducible first|exact zo q hpc|exact zo q.1 hpc|exact zo q.2 hpc|exact zo q.2.1 hpc|exact zo q.2.2 hpc|exact zo q.2.2.1 hpc|exact zo q.2.2.2 hpc|exact zo q.2.2.2.1 hpc|exact zo q.2.2.2.2 hpc|exact zo q.2.2.2.2.1 hpc|exact zo q.2.2.2.2.2 hpc):P:=h s f c a k q
def zMc {S F C A K P Q:Prop} (s:S) (f:F) (c:C) (a:A) (k:K) (q:Q) (h:S->F->C->A->K->Q->P:=by
  intro s f c a k q;have hpc:=Qv4 Qv3 Qv3
  (repeat' ((fail_if_success (with_reducible refine zAt s ?_));first|(refine zPt s ?_;intro K hK;simp only [List.take_succ_cons,List.take_zero])|((first|(refine zT ?_;intro K' hK')|(refine zG ?_ ?_<;>(try refine zH ?_)<;>intro hguard<;>(try exact zX)<;>(replace hpc:=Qv4 hpc hguard)<;>try intro K' hK'))<;>((try simp+contextual only [go_sem,Int.toNat_natCast,Wj,Option.isSome_none,Option.isSome_some,false_and,not_false_eq_true,A2N,f,chunks,List.range,List.range.loop]);(repeat' first|(with_reducible refine hK' _ _ ?_;clear hK' K')|((with_reducible refine zEx ?_);(with_reducible first|refine zKm a.1 ?_|refine zKm a.2.1 ?_|refine zKm a.2.2.1 ?_|refine zKm a.2.2.2.1 ?_|refine zKm a.2.2.2.2.1 ?_|refine zKn c.1 ?_|refine zKn c.2.1 ?_|refine zKn c.2.2.1 ?_|refine zKn c.2.2.2.1 ?_|refine zKn c.2.2.2.2.1 ?_|refine zKn c.2.2.2.2.2.1 ?_|refine zKn c.2.2.2.2.2.2.1 ?_|refine zKn c.2.2.2.2.2.2.2.1 ?_|refine zKn c.2.2.2.2.2.2.2.2.1 ?_|refine zKn c.2.2.2.2.2.2.2.2.2.1 ?_);try simp+contextual only [go_sem,Int.toNat_natCast,Wj,Option.isSome_none,Option.isSome_some,false_and,not_false_eq_true,A2N,f,chunks,List.range,List.range.loop])|((with_reducible first|exact k (by assumption)|exact k.1 (by assumption)|exact k.2 (by assumption)|exact k.2.1 (by assumption)|exact k.2.2 (by assumption)|exact k.2.2.1 (by assumption)|exact k.2.2.2 (by assumption)|exact k _ (by assumption)|exact k.1 _ (by assumption)|exact k.2 _ (by assumption)|exact k.2.1 _ (by assumption)|exact k.2.2 _ (by assumption)|exact k.2.2.1 _ (by assumption)|exact k.2.2.2 _ (by assumption)|exact k|exact k.1|exact k.2|exact k.2.1|exact k.2.2|exact k.2.2.1|exact k.2.2.2))|exact zY|with_reducible refine Qv4 ?_ ?_|(with_reducible intro hpath;((try exact zP)<;>(try replace hpc:=Qv4 hpc hpath)))|(refine hK' _ _ ?_;clear hK' K')|exact k|exact k.1|exact k.2|exact k.2.1|exact k.2.2|exact k.2.2.1|exact k.2.2.2|exact .inr Qv3|exact absurd Qv3 (by assumption)|fail);try refine zS ?_))|(refine zE ?_;refine hK _ _ ?_;(try clear hK K))|(refine zN ?_;try refine zS ?_)|refine zA ?_|(refine zB ?_;intro K hK)|(refine zC ?_ ?_<;>(try refine zH ?_)<;>intro hcond<;>(try exact zX)<;>(replace hpc:=Qv4 hpc hcond))|fail))
  all_goals with_reducible first|exact zo q hpc|exact zo q.1 hpc|exact zo q.2 hpc|exact zo q.2.1 hpc|exact zo q.2.2 hpc|exact zo q.2.2.1 hpc|exact zo q.2.2.2 hpc|exact zo q.2.2.2.1 hpc|exact zo q.2.2.2.2 hpc|exact zo q.2.2.2.2.1 hpc|exact zo q.2.2.2.2.2 hpc):P:=h s f c a k q
def C6s (n:Nat):Prop:=n=n
def C75 (n:Nat):C6s n:=rfl
def C6t (n:Nat):Prop:=n=n
def C76 (n:Nat):C6t n:=rfl
def FWp.atSeqS {h:Nat} {n:Nat} (_:C6s n) {ops:Array Oper} {b:Bool} {c:Code} (hw:FWp P h (.seq (.region n ops b) c) Q st):FWp P h (.seq (.region n ops b) c) Q st:=hw
def FWp.atSeqS2 {h:Nat} {n:Nat} (_:C6t n) {ops:Array Oper} {b:Bool} {c c2:Code} (hw:FWp P h (.seq (.seq (.region n ops b) c) c2) Q st):FWp P h (.seq (.seq (.region n ops b) c) c2) Q st:=hw
def zAf {P Q S:Prop} (s:S) (q:Q) (h:S->Q->P:=by
  intro s q; with_reducible first
   | exact AWp.atSeqS s q | exact AWp.atLastS s q | exact FWp.atSeqS s q | exact FWp.atSeqS2 s q):P:=h s q
def zF {S F C A K P Q:Prop} (s:S) (f:F) (c:C) (a:A) (k:K) (q:Q) (h:S->F->C->A->K->Q->P:=by
  intro s f c a k q;have hpc:=Qv4 Qv3 Qv3
  (repeat' ((fail_if_success (with_reducible refine zAf s ?_));first|((first|(refine zT ?_;intro K' hK')|(refine zG ?_ ?_<;>(try refine zH ?_)<;>intro hguard<;>(try exact zX)<;>(replace hpc:=Qv4 hpc hguard)<;>try intro K' hK'))<;>((try simp+contextual only [go_sem,Int.toNat_natCast,Wj,Option.isSome_none,Option.isSome_some,false_and,not_false_eq_true,A2N,f]);(repeat' first|(with_reducible refine hK' _ _ ?_;clear hK' K')|((with_reducible refine zEx ?_);(with_reducible first|refine zKm a.1 ?_|refine zKm a.2.1 ?_|refine zKm a.2.2.1 ?_|refine zKm a.2.2.2.1 ?_|refine zKm a.2.2.2.2.1 ?_|refine zKn c.1 ?_|refine zKn c.2.1 ?_|refine zKn c.2.2.1 ?_|refine zKn c.2.2.2.1 ?_|refine zKn c.2.2.2.2.1 ?_|refine zKn c.2.2.2.2.2.1 ?_|refine zKn c.2.2.2.2.2.2.1 ?_|refine zKn c.2.2.2.2.2.2.2.1 ?_|refine zKn c.2.2.2.2.2.2.2.2.1 ?_|refine zKn c.2.2.2.2.2.2.2.2.2.1 ?_);try simp+contextual only [go_sem,Int.toNat_natCast,Wj,Option.isSome_none,Option.isSome_some,false_and,not_false_eq_true,A2N,f])|((with_reducible first|exact k (by assumption)|exact k.1 (by assumption)|exact k.2 (by assumption)|exact k.2.1 (by assumption)|exact k.2.2 (by assumption)|exact k.2.2.1 (by assumption)|exact k.2.2.2 (by assumption)|exact k _ (by assumption)|exact k.1 _ (by assumption)|exact k.2 _ (by assumption)|exact k.2.1 _ (by assumption)|exact k.2.2 _ (by assumption)|exact k.2.2.1 _ (by assumption)|exact k.2.2.2 _ (by assumption)|exact k|exact k.1|exact k.2|exact k.2.1|exact k.2.2|exact k.2.2.1|exact k.2.2.2))|exact zY|with_reducible refine Qv4 ?_ ?_|(with_reducible intro hpath;((try exact zP)<;>(try replace hpc:=Qv4 hpc hpath)))|(refine hK' _ _ ?_;clear hK' K')|exact k|exact k.1|exact k.2|exact k.2.1|exact k.2.2|exact k.2.2.1|exact k.2.2.2|exact .inr Qv3|exact absurd Qv3 (by assumption)|fail);try refine zS ?_))|(refine zE ?_;refine hK _ _ ?_;(try clear hK K))|(refine zN ?_;try refine zS ?_)|refine zA ?_|(refine zB ?_;intro K hK)|(refine zC ?_ ?_<;>(try refine zH ?_)<;>intro hcond<;>(try exact zX)<;>(replace hpc:=Qv4 hpc hcond))|(with_reducible refine FWp.seq ?_)|fail))
  all_goals with_reducible first|exact zo q hpc|exact zo q.1 hpc|exact zo q.2 hpc|exact zo q.2.1 hpc|exact zo q.2.2 hpc|exact zo q.2.2.1 hpc|exact zo q.2.2.2 hpc|exact zo q.2.2.2.1 hpc|exact zo q.2.2.2.2 hpc|exact zo q.2.2.2.2.1 hpc|exact zo q.2.2.2.2.2 hpc):P:=h s f c a k q
def zWs {K P:Prop} (k:K) (h:K->P:=by
  intro k
  (repeat' (first | exact A1K _ | exact A15 _ | exact A1p _ | refine Qv4 ?_ ?_ | refine A1y ?_ ?_ | refine A04 ?_ ?_ | refine A1e ?_ ?_ | exact Qv3 | exact k | exact k (by omega) | exact k _ (by omega) | exact k (by assumption) | exact k (by assumption) _ | exact k.1 | exact k.1 (by omega) | exact k.1 _ (by omega) | exact k.1 (by assumption) | exact k.1 (by assumption) _ | exact k.2 | exact k.2 (by omega) | exact k.2 _ (by omega) | exact k.2 (by assumption) | exact k.2 (by assumption) _ | exact k.2.1 | exact k.2.1 (by omega) | exact k.2.1 _ (by omega) | exact k.2.1 (by assumption) | exact k.2.1 (by assumption) _ | exact k.2.2 | exact k.2.2 (by omega) | exact k.2.2 _ (by omega) | exact k.2.2 (by assumption) | exact k.2.2 (by assumption) _ | exact k.2.2.1 | exact k.2.2.1 (by omega) | exact k.2.2.1 _ (by omega) | exact k.2.2.1 (by assumption) | exact k.2.2.1 (by assumption) _ | exact k.2.2.2 | exact k.2.2.2 (by omega) | exact k.2.2.2 _ (by omega) | exact k.2.2.2 (by assumption) | exact k.2.2.2 (by assumption) _ | (show _<_; omega) | exact A1g (fun _=>Qv3) | (intro c hc; cases hc; done) | (intro c hc; simp only [QV,XJ,or_false] at hc; subst hc; first | exact Qv3 | exact k | exact k (by omega) | exact k _ (by omega) | exact k (by assumption) | exact k (by assumption) _ | exact k.1 | exact k.1 (by omega) | exact k.1 _ (by omega) | exact k.1 (by assumption) | exact k.1 (by assumption) _ | exact k.2 | exact k.2 (by omega) | exact k.2 _ (by omega) | exact k.2 (by assumption) | exact k.2 (by assumption) _ | exact k.2.1 | exact k.2.1 (by omega) | exact k.2.1 _ (by omega) | exact k.2.1 (by assumption) | exact k.2.1 (by assumption) _ | exact k.2.2 | exact k.2.2 (by omega) | exact k.2.2 _ (by omega) | exact k.2.2 (by assumption) | exact k.2.2 (by assumption) _ | exact k.2.2.1 | exact k.2.2.1 (by omega) | exact k.2.2.1 _ (by omega) | exact k.2.2.1 (by assumption) | exact k.2.2.1 (by assumption) _ | exact k.2.2.2 | exact k.2.2.2 (by omega) | exact k.2.2.2 _ (by omega) | exact k.2.2.2 (by assumption) | exact k.2.2.2 (by assumption) _ | (show _<_; omega)) | (intro c hc; simp only [QV,XJ,or_false] at hc; rcases hc with rfl | rfl<;>first | exact Qv3 | exact k | exact k (by omega) | exact k _ (by omega) | exact k (by assumption) | exact k (by assumption) _ | exact k.1 | exact k.1 (by omega) | exact k.1 _ (by omega) | exact k.1 (by assumption) | exact k.1 (by assumption) _ | exact k.2 | exact k.2 (by omega) | exact k.2 _ (by omega) | exact k.2 (by assumption) | exact k.2 (by assumption) _ | exact k.2.1 | exact k.2.1 (by omega) | exact k.2.1 _ (by omega) | exact k.2.1 (by assumption) | exact k.2.1 (by assumption) _ | exact k.2.2 | exact k.2.2 (by omega) | exact k.2.2 _ (by omega) | exact k.2.2 (by assumption) | exact k.2.2 (by assumption) _ | exact k.2.2.1 | exact k.2.2.1 (by omega) | exact k.2.2.1 _ (by omega) | exact k.2.2.1 (by assumption) | exact k.2.2.1 (by assumption) _ | exact k.2.2.2 | exact k.2.2.2 (by omega) | exact k.2.2.2 _ (by omega) | exact k.2.2.2 (by assumption) | exact k.2.2.2 (by assumption) _ | (show _<_; omega))))):P:=h k
section
def B4e (P:Program) (kt:TypeId) (n:Nat):Prop:= ∀l:List Int,(KShape.ints n).ok (.ints l)=true-> ∃x,keyOf P kt (MKey.ints l).kv=some x
def B4f {a b:List Int} (h:(MKey.ints a).kv=(MKey.ints b).kv):a=b:=by
 simp only [MKey.kv,Value.agg.injEq] at h;have h2:=congrArg Array.toList h;have:=congrArg (List.map fun v=>match v with | Value.int _ n=>n | _=>0) h2;simpa [Qq1,Function.comp_def] using this
variable {P:Program}
def A8a {kt:TypeId} {n m:Nat} (hm:m+1≤10000) (hk:P.keyTypeAt m kt=true) (ht:P.tiled m kt=true) (hwide:(match P.underlying kt with | some (.array _ _) | some (.struct _)=>true | _=>false)=true)
  (hi:B4e P kt n) (w:World) (k:List Int) (hkl:(KShape.ints n).ok (.ints k)=true): ∀(es:List MapEntry) (l:List (MKey×MV)) (i:Nat),(∀e,e∈l->(KShape.ints n).ok e.1=true)->es.length=l.length->(∀(j:Nat) e x,l[j]? =some e->es[j]? =some x->x.key=e.1.kv)->
  (Instr.findAsking kt (MKey.ints k).kv es i).run P w= .ok ((mIdx l (.ints k)).bind fun j=>(es[j]?).map fun e=>(i+j,e.val)) w:=by
 intro es
 induction es with
 | nil=>
  intro l i _ hl _;have:l=[]:=ZY.1 hl.symm;subst this;simp [Instr.findAsking,mIdx]
 | cons e es ih=>
  intro l i hok hl hkey;cases l with
  | nil=>simp at hl
  | cons p l=>
   obtain ⟨pk,pv⟩:=p;have hek:e.key=pk.kv:=hkey 0 _ _ rfl rfl;have hpk:=hok (pk,pv) (by simp);cases pk with
   | int a=>simp [KShape.ok] at hpk
   | str a=>simp [KShape.ok] at hpk
   | ints q=>
    obtain ⟨x1,hx1⟩:=hi k hkl;obtain ⟨x2,hx2⟩:=hi q hpk;obtain ⟨r,hr,hre⟩:=run_equal_deep w (by omega) hk hwide hx1 hx2;have ih':=ih l (i+1) (fun e he=>hok e (by simp [he])) (by simpa using hl) (fun j e x h1 h2=>hkey (j+1) e x (by simpa using h1) (by simpa using h2));simp only [Instr.findAsking,Sem.run_bind,hek,hr,Result.andThen_ok];cases r with
    | true=>
     have e1:x1=x2:=hre.1 rfl;have e2:k=q:=B4f (keyOf_inj_deep ht hwide (e1▸hx1) hx2);subst e2;simp [mIdx,JJ]
    | false=>
     have hne:q≠k:=by
      rintro rfl;rw [hx1] at hx2;have:=hre.2 (by simpa using hx2);cases this
     simp only [Yk,if_false,ih'];have:mIdx ((MKey.ints q,pv)::l) (.ints k)=(mIdx l (.ints k)).map (·+1):=by
      simp [mIdx,JJ,hne]
     rw [this];cases mIdx l (.ints k) with
     | none=>rfl
     | some j=>simp [Wx,Qq5 1 j]
def B4g {kt:TypeId} {n m:Nat} (hm:m+1≤10000) (hk:P.keyTypeAt m kt=true) (ht:P.tiled m kt=true) (hwide:(match P.underlying kt with | some (.array _ _) | some (.struct _)=>true | _=>false)=true)
  (hi:B4e P kt n):KeyLaw P kt (.ints n) where
 check em w k hok:=by
  cases k with
  | ints l=>obtain ⟨x,hx⟩:=hi l hok; exact (deep_law hm hk ht hwide).check w em hx
  | int a=>simp [KShape.ok] at hok
  | str a=>simp [KShape.ok] at hok
 stays w k hok:=by
  cases k with
  | ints l=>obtain ⟨x,hx⟩:=hi l hok; exact (deep_law hm hk ht hwide).stays w hx
  | int a=>simp [KShape.ok] at hok
  | str a=>simp [KShape.ok] at hok
 find w k es l hok hall hl hkey:=by
  cases k with
  | ints q=>
   have:=A8a hm hk ht hwide hi w q hok es l 0 hall hl hkey;rw [run_findKey_eq w hwide,this];simp
  | int a=>simp [KShape.ok] at hok
  | str a=>simp [KShape.ok] at hok
end
def wf_i64 {n:Int} (h1: -9223372036854775808≤n) (h2:n≤9223372036854775807):(Lit.int .i64 n).wf=true:=by
 simp only [Lit.wf,XV,decide_eq_true_eq,IntKind.min,IntKind.max,IntKind.signed,IntKind.bits];constructor<;>simp<;>omega
def C2g {P:Program} {kt it:TypeId} {f0 f1:Field} (hu:P.underlying kt=some (.struct #[f0,f1])) (hc:P.cellsOf kt=2) (h3:P.underlying it=some (.int .i64)) (hc3:P.cellsOf it=1)
  (t0:f0.type=it) (t1:f1.type=it) (o0:f0.offset=0) (o1:f1.offset=1) (n0:(f0.name != "_")=true) (n1:(f1.name != "_")=true) (hk:P.keyType kt=true) (hsz:0<P.types.size):B4e P kt 2:=by
 intro l hl;obtain ⟨m,hm⟩: ∃m,P.types.size=m+1:=⟨P.types.size-1,by omega⟩;simp only [KShape.ok,XV,beq_iff_eq,ZX,decide_eq_true_eq] at hl;obtain ⟨h1,h2⟩:=hl
 match l,h1 with
 | [a,b],_=>
 have ha:=h2 a (by simp);have hb:=h2 b (by simp);have e0:P.keyLits (m+1) it [.int .i64 a]=some [.int .i64 a]:=by
  unfold Program.keyLits;simp only [h3,wf_i64 ha.1 ha.2,and_self,if_true]
 have e1:P.keyLits (m+1) it [.int .i64 b]=some [.int .i64 b]:=by
  unfold Program.keyLits;simp only [h3,wf_i64 hb.1 hb.2,and_self,if_true]
 have e2:P.keyLits (m+1+1) kt [.int .i64 a,.int .i64 b]=some [.int .i64 a,.int .i64 b]:=by
  unfold Program.keyLits;simp only [hu];have n0': ¬f0.name="_":=by simpa using n0
  have n1': ¬f1.name="_":=by simpa using n1
  simp [hc,n0',n1',JY,t0,t1,o0,o1,hc3,e0,e1]
 refine ⟨.string (keyBytes [.int .i64 a,.int .i64 b]),?_⟩;unfold keyOf;simp only [hu,hk,MKey.kv,Value.formed];simp [hc,Value.cells,hm,e2]
section
variable {P:Program}
def B4h (a:Int): ∀(es:List MapEntry) (l:List (MKey×MV)) (i:Nat),(∀e,e∈l->KShape.int.ok e.1=true)->es.length=l.length->(∀(j:Nat) e x,l[j]? =some e->es[j]? =some x->x.key=e.1.kv)->
  Instr.findNow (.int .i64) (MKey.int a).kv es i=some ((mIdx l (.int a)).bind fun j=>(es[j]?).map fun e=>(i+j,e.val)):=by
 intro es
 induction es with
 | nil=>
  intro l i _ hl _;have:l=[]:=ZY.1 hl.symm;subst this;simp [Instr.findNow,mIdx]
 | cons e es ih=>
  intro l i hok hl hkey;cases l with
  | nil=>simp at hl
  | cons p l=>
   obtain ⟨pk,pv⟩:=p;have hek:e.key=pk.kv:=hkey 0 _ _ rfl rfl;have hpk:=hok (pk,pv) (by simp);cases pk with
   | ints a=>simp [KShape.ok] at hpk
   | str a=>simp [KShape.ok] at hpk
   | int q=>
    have ih':=ih l (i+1) (fun e he=>hok e (by simp [he])) (by simpa using hl) (fun j e x h1 h2=>hkey (j+1) e x (by simpa using h1) (by simpa using h2));by_cases hq:q=a
    ·subst hq;simp [Instr.findNow,hek,MKey.kv,Instr.sameNow,mIdx,JJ]
    ·have hne: ¬a=q:=fun h=>hq h.symm;have hm:mIdx ((MKey.int q,pv)::l) (.int a)=(mIdx l (.int a)).map (·+1):=by
      simp [mIdx,JJ,hq]
     rw [hm];have hs:Instr.sameNow (.int .i64) (MKey.int a).kv e.key=some false:=by
      simp [hek,MKey.kv,Instr.sameNow,hne]
     simp only [Instr.findNow,hs,ih'];cases mIdx l (.int a) with
     | none=>rfl
     | some j=>simp [Wx,Qq5 1 j]
def B7a {kt:TypeId} (hu:P.underlying kt=some (.int .i64)):KeyLaw P kt .int where
 check em w k hok:=by
  cases k with
  | int a=>exact Go.MapKept.run_checkKey hu (by simp [MKey.kv,Go.MapKept.IsKey]) em 9999
  | ints l=>simp [KShape.ok] at hok
  | str a=>simp [KShape.ok] at hok
 stays w k hok:=by
  cases k with
  | int a=>simp [Instr.keyThatStays,MKey.kv,Instr.sameBits]
  | ints l=>simp [KShape.ok] at hok
  | str a=>simp [KShape.ok] at hok
 find w k es l hok hall hl hkey:=by
  cases k with
  | int a=>
   have:=B4h a es l 0 hall hl hkey;rw [Go.MapKept.run_findKey hu this];simp
  | ints l=>simp [KShape.ok] at hok
  | str a=>simp [KShape.ok] at hok
end
section
open Go.RowKit Go.Sort
open Go.Proofs (ltOf)
def valOf:Tree->Value
 | .int k n=> .int k n
 | .bool b=> .bool b
 | .str s=> .string s
 | .nilf=> .nilFunc
 | _=> .int .i64 0
def B2B {t:Tree} (hf:t.flat=true):TRel S w t (valOf t):=by
 cases t<;>simp [Tree.flat] at hf
 ·exact .int _ _
 ·exact .bool _
 ·exact .str _
 ·exact .nilf
def B8F (t:Tree):(valOf t).oneCell'=true:=by cases t<;>rfl
def C2h {S:Nat->Nat->Prop} {w:World} {t:Tree} {v:Value} (hf:t.flat=true) (h:TRel S w t v):v=valOf t:=by
 cases h<;>simp [Tree.flat] at hf<;>rfl
def A0X (rows:List (List Tree)):Array Value:=(rows.flatten.map valOf).toArray
def A38 {F F':Array Value} (h:Holds id w b 0 F) (hs:F'.size=F.size):putRow id w b 0 F'=w.setCells b 0 F'.toList:=by
 have e1:=setCells_putRow w b 0 F'.toList 0 F (by simp [hs]);rw [putRow_self id w b 0 F h,Nat.add_zero] at e1;rw [e1];congr 1;refine ext_get! (by simp [hs]) fun t ht=> ?_;rw [get_setMany _ _ _ t (by omega)];rw [if_pos ⟨Xj _,by simpa using ht⟩,Nat.sub_zero];rw [getElem!_pos F' t ht,getElem!_pos F'.toList t (by simpa using ht)];simp
section
variable {ι:List Nat} {σ:Sig} {w:World} {H:List Blk} {id' b:Nat} {rows:List (List Tree)}
def box_holds (hH:HRel ι σ w H) (hid:H[id']? =some (.box (flatRows rows))) (hi:ι[id']? =some b) (hf: ∀r,r∈rows->A1b r=true):Holds id w b 0 (A0X rows):=by
 obtain ⟨_,hc⟩:=hH.2 id' _ b hid hi;intro j hj;have hj':j<rows.flatten.length:=by simpa only [A0X,Vk,XW] using hj
 have ht:=Qq hj';have hcj:(flatRows rows)[j]? =some (A0v rows.flatten[j]):=by simp only [flatRows,QQ,ht,Option.map_some]
 obtain ⟨q1,q2,v,q3,q4⟩:=hc j _ hcj;have hfl:rows.flatten[j].flat=true:=by
  obtain ⟨r,hr,htr⟩:=List.mem_flatten.1 (Xw hj');exact A1o (hf r hr) _ htr
 have hv:v=valOf rows.flatten[j]:=by
  refine C2h (S:=Stab σ) (w:=w) hfl ?_;cases hx:rows.flatten[j] with
  | int k n=>rw [hx] at q4; cases q4; exact .int _ _
  | bool b=>rw [hx] at q4; cases q4; exact .bool _
  | str s=>rw [hx] at q4; cases q4; exact .str _
  | nilf=>rw [hx] at q4; cases q4; exact .nilf
  | slice _=>rw [hx] at hfl; cases hfl
  | rptr _=>rw [hx] at hfl; cases hfl
  | fn _ _=>rw [hx] at hfl; cases hfl
  | raw _=>rw [hx] at hfl; cases hfl
 rw [XX];refine ⟨?_,q2⟩;rw [q3,hv,getElem!_pos (A0X rows) j hj];congr 1;simp only [A0X,id,List.getElem_toArray,List.getElem_map]
def B7b (hH:HRel ι σ w H) (hid:H[id']? =some (.box (flatRows rows))) (hi:ι[id']? =some b) (hf: ∀r,r∈rows->A1b r=true) {rows':List (List Tree)} (hf': ∀r,r∈rows'->A1b r=true)
  (hl:rows'.flatten.length=rows.flatten.length) (n:Nat) (os:Array Obj):
  ∃σ',HRel ι σ' (Sort.grow (putRow id (Sort.ahead w n) b 0 (A0X rows')) os) (H.set id' (.box (flatRows rows')))∧Mono ι σ w H ι σ' (Sort.grow (putRow id (Sort.ahead w n) b 0 (A0X rows')) os) (H.set id' (.box (flatRows rows')))∧
   Ext σ w σ' (Sort.grow (putRow id (Sort.ahead w n) b 0 (A0X rows')) os):=by
 have hh:=box_holds hH hid hi hf;have hsz:(A0X rows').size=(A0X rows).size:=by simp only [A0X,Vk,XW]; exact hl
 rw [putRow_ahead,A38 hh hsz];have hv:A0I ι σ w H (flatRows rows') (A0X rows'):=by
  refine ⟨by simp only [A0X,flatRows,Vk,XW],fun j c u h1 h2=> ?_⟩;simp only [flatRows,A0X,QQ,Wz] at h1 h2;cases ht:rows'.flatten[j]? with
  | none=>simp [ht] at h1
  | some t=>
   simp [ht] at h1 h2; subst h1; subst h2;have hfl:t.flat=true:=by
    obtain ⟨r,hr,htr⟩:=List.mem_flatten.1 (Qv ht);exact A1o (hf' r hr) _ htr
   exact A0C (B2B hfl)
 obtain ⟨_,g1,g2,g3⟩:=A4g (j:=0) hH hid hi (A0X rows') hv (by simp only [flatRows,XW]; omega);have e:setMany (flatRows rows) 0 (flatRows rows')=flatRows rows':=by
  apply Zq;intro j;rw [A2q _ _ _ _ (by simp only [flatRows,XW]; omega)];split
  ·simp
  ·rename_i hj;have h1:(flatRows rows').length≤j:=by simp at hj; exact hj
   rw [Xq h1,Xq (by simp only [flatRows,XW] at h1 ⊢; omega)]
 rw [e] at g1 g2;generalize w.setCells b 0 (A0X rows').toList=w1 at g1 g2 g3;have hw: ∀b,b<w1.heap.size->(Sort.grow (Sort.ahead w1 n) os).heap[b]? =w1.heap[b]? :=fun b hb=>by
  show (w1.heap++os)[b]? =_;rw [Wv hb]
 have hs: ∀b o,b<w1.heap.size->σ b o=σ b o:=fun _ _ _=>rfl;have hsize:w1.heap.size≤(Sort.grow (Sort.ahead w1 n) os).heap.size:=by show _≤(w1.heap++os).size; simp
 have hd:w1.drawn≤(Sort.grow (Sort.ahead w1 n) os).drawn:=by show _≤w1.drawn+n; omega
 have M:Mono ι σ w1 (H.set id' (.box (flatRows rows'))) ι σ (Sort.grow (Sort.ahead w1 n) os) (H.set id' (.box (flatRows rows'))):=by simpa using Mono.grow (ι:=ι) (H:=H.set id' (.box (flatRows rows'))) hw hs [] []
 have HH:HRel ι σ (Sort.grow (Sort.ahead w1 n) os) (H.set id' (.box (flatRows rows'))):=by simpa using g1.grow hw hs ⟨rfl,rfl,rfl,hsize,hd⟩ [] [] rfl (fun j blk b h1 _=>by simp at h1)
 exact ⟨σ,HH,g2.trans M,g3.trans (Ext.grow rfl rfl rfl hsize hw hs hd)⟩
end
noncomputable def A4R {α:Type} [Inhabited α] (cf:α->α->Int) (xs:List α):List α:=(pdq (ltOf cf) xs.toArray 0 xs.length (Lib.bitLen xs.length) true true).toList
def A3U {α:Type} [Inhabited α] {cf:α->α->Int} (hO:SWO (ltOf cf)) (xs:List α):(A4R cf xs).Perm xs∧ ∀(i j:Nat) x y,i<j->(A4R cf xs)[i]? =some x->(A4R cf xs)[j]? =some y->ltOf cf y x=false:=by
 obtain ⟨⟨h1,h2,h3⟩,h4⟩:=pdq_sorts (ltOf cf) hO xs.toArray 0 xs.length (Lib.bitLen xs.length) true true (Xj _) (by simp) (Or.inl rfl);have e1:(xs.toArray.extract 0 xs.length).toList=xs:=by simp
 have hsz:(pdq (ltOf cf) xs.toArray 0 xs.length (Lib.bitLen xs.length) true true).size=xs.length:=by rw [h1]; simp
 have e2:((pdq (ltOf cf) xs.toArray 0 xs.length (Lib.bitLen xs.length) true true).extract 0 xs.length).toList=A4R cf xs:=by
  unfold A4R;generalize pdq (ltOf cf) xs.toArray 0 xs.length (Lib.bitLen xs.length) true true=D at hsz;rw [<-hsz,Array.extract_size]
 rw [e1,e2] at h3;refine ⟨h3,fun i j x y hij hx hy=> ?_⟩;have hj:j<xs.length:=by have:=(Qx.1 hy).1; rw [h3.length_eq] at this; exact this
 have:=h4 i j (Xj _) hij hj;have gx:(pdq (ltOf cf) xs.toArray 0 xs.length (Lib.bitLen xs.length) true true)[i]! =x:=by
  rw [getElem!_pos _ i (by omega)];have:=(Qx.1 hx).2;simpa [A4R] using this
 have gy:(pdq (ltOf cf) xs.toArray 0 xs.length (Lib.bitLen xs.length) true true)[j]! =y:=by
  rw [getElem!_pos _ j (by omega)];have:=(Qx.1 hy).2;simpa [A4R] using this
 rw [gx,gy] at this;exact this
def A6r {w w':World} (h:Below w.heap.size w w') (hd:w.drawn≤w'.drawn): ∃q os',w'=Sort.grow (w.drewN q) os':=by
 refine ⟨w'.drawn-w.drawn,w'.heap.extract w.heap.size w'.heap.size,?_⟩;have hh:w'.heap=w.heap++w'.heap.extract w.heap.size w'.heap.size:=by
  apply Array.ext_getElem?;intro i;by_cases hi:i<w.heap.size
  ·rw [Wv hi,h.block i hi]
  ·rw [Array.getElem?_append_right (by omega),Array.getElem?_extract];by_cases hi2:i<w'.heap.size
   ·rw [if_pos (by omega)]; congr 1; omega
   ·rw [if_neg (by omega),Qj8 (by omega)]
 have h1:=h.os; have h2:=h.tape; have h3:=h.output;cases w';cases w;simp only [Sort.grow,World.drewN] at*;subst h1; subst h2; subst h3;congr 1;omega
def A5J [Inhabited α] (row:α->List Tree) (k:Nat) (hk: ∀x,(row x).length=k) (xs:List α):flatK (fun x=>(row x).map valOf) k xs.toArray=A0X (xs.map row):=by
 have hk': ∀r,r∈xs.map row->r.length=k:=fun r hr=>by obtain ⟨x,_,rfl⟩:=QY.1 hr; exact hk x
 have hl:=A2u hk';refine ext_get! (by simp only [size_flatK,Vk,A0X,XW] at hl ⊢; omega) fun t ht=> ?_;simp only [size_flatK,Vk] at ht;rw [get_flatK _ _ _ t (by simpa using ht)];have ht2:t<(xs.map row).flatten.length:=by rw [hl,XW]; exact ht
 obtain ⟨i,j,r,e,h1,h2⟩:=A2r hk' (Qq ht2);have hj:j<k:=by have:=(Qx.1 h2).1; rw [hk' r (Qv h1)] at this; exact this
 have hd:t / k=i:=by rw [e]; exact (blk_iff k i _ (by omega)).1 ⟨by omega,by omega⟩
 have hm:t%k=j:=by rw [Nat.mod_eq_sub_div_mul,hd,e]; omega
 have hi:i<xs.length:=by have:=(Qx.1 h1).1; simpa using this
 have hr:r=row xs[i]:=by simp only [QQ,Qq hi,Option.map_some,Vv] at h1; exact h1.symm
 rw [hd,hm,getElem!_pos xs.toArray i (by simpa using hi)];have hsz:t<(A0X (xs.map row)).size:=by simp only [A0X,Vk,XW]; exact ht2
 rw [getElem!_pos _ t hsz];simp only [A0X,List.getElem_toArray,List.getElem_map];have h3:(xs.map row).flatten[t]=r[j]'((Qx.1 h2).1):=by
  have:=(Qx.1 h2).2;exact this.symm
 rw [h3];have hjl:j<((row xs[i]).map valOf).length:=by rw [XW,hk]; exact hj
 rw [getElem!_pos _ j hjl,List.getElem_map];congr 1;subst hr;rfl
def B10 {ρ:Go.Shelf.Ren} [Inhabited α] (L:Go.Proofs.SlLaysF0.n6 P ρ) (row:α->List Tree) (k:Nat) (aE: ∀w,(isAgg (ρ.t 24)).run P w= .ok true w) (zE: ∀w,(Go.sizeOf (ρ.t 24)).run P w= .ok k w)
  (hk: ∀x,(row x).length=k) (hfl: ∀x,A1b (row x)=true) (cf:α->α->Int) (hO:SWO (ltOf cf)) (g:Nat) (hcmp: ∀x y,ACall P g [.agg (row x),.agg (row y)] (.t (.int .i64 (cf x y))))
  (hent: ∀args w,(callFunc (ρ.f 6) args).run P w= .ok (.enter (ρ.f 6) args) w) (xs:List α) (hlen:xs.length<4611686018427387904) {H:List Blk} {id' cap:Nat} (hid:H[id']? =some (.box (flatRows (xs.map row)))):
  ACallH P (ρ.f 6) H [.c (.ref id' k 0 xs.length cap),.c (.fn g [])] (H.set id' (.box (flatRows ((A4R cf xs).map row)))) (.tup []):=by
 refine ⟨hent,fun ι σ w vs hH hl hv=> ?_⟩
 match vs,hl with
 | [v0,v1],_=>
 have h0:CRel ι σ w H (.ref id' k 0 xs.length cap) v0:=hv 0 _ v0 rfl rfl;have h1:CRel ι σ w H (.fn g []) v1:=hv 1 _ v1 rfl rfl;obtain ⟨b,hi,cap',_,rfl⟩:=h0;obtain ⟨ws,rfl,hwl,_⟩:=h1;have:ws=[]:=by simpa using hwl
 subst this;have hf1: ∀r,r∈xs.map row->A1b r=true:=fun r hr=>by obtain ⟨x,_,rfl⟩:=QY.1 hr; exact hfl x
 have hf2: ∀r,r∈(A4R cf xs).map row->A1b r=true:=fun r hr=>by obtain ⟨x,_,rfl⟩:=QY.1 hr; exact hfl x
 have hh:=box_holds hH hid hi hf1;have hperm:=(A3U hO xs).1;obtain ⟨⟨arr,e,fz,ha⟩,_⟩:=hH.2 id' _ b hid hi;have hc:Go.Proofs.CmpLays P g #[] (fun x=>(row x).map valOf) k cf b 0 xs.toArray.size w:=by
  intro m os dk _ x y
  have:=(hcmp x y).runs (fun _ _=>True) (Go.Proofs.sortWorldK (fun x=>(row x).map valOf) k w b 0 m dk os) [.agg ((row x).map valOf).toArray,.agg ((row y).map valOf).toArray] rfl (fun j z u q1 q2=>by
   have ag: ∀z,TVRel (fun _ _=>True) (Go.Proofs.sortWorldK (fun x=>(row x).map valOf) k w b 0 m dk os) (.agg (row z)) (.agg ((row z).map valOf).toArray):=fun z=>by
    refine ⟨_,rfl,by simp,fun j c u p1 p2=> ?_⟩;simp only [Wz,QQ,p1,Option.map_some,Vv] at p2;subst p2;exact B2B (A1o (hfl z) c (Qv p1))
   match j with
   | 0=>simp at q1 q2; subst q1; subst q2; exact ag x
   | 1=>simp at q1 q2; subst q1; subst q2; exact ag y
   | j+2=>simp at q1)
  refine Calls.mono (R:=fun e w'=> ∃v,e= .returned v∧_) (by simpa using this) ?_;rintro e w' ⟨v,rfl,hr,hb,hd⟩;cases hr;obtain ⟨q,os',hw⟩:=A6r hb hd;exact ⟨rfl,q,os',hw⟩
 have hcell:HoldsK (fun x=>(row x).map valOf) k w b 0 xs.toArray:=by
  unfold HoldsK;rw [A5J row k hk];exact hh
 have run:=Go.Proofs.AnyQ.slices_SortFunc_eq L k aE zE (fun x=>(row x).map valOf) (fun x=>by rw [XW,hk]) (fun x v hv=>by obtain ⟨t,_,rfl⟩:=QY.1 hv; exact B8F t) cf hO g #[] b 0 cap' xs.toArray w
  (hcmp default default).enters hc hcell (Xz.1 ha).1 (by simpa using hlen)
 refine Calls.mono (by simpa using run) ?_;rintro e w' ⟨rfl,n,os,hw⟩;have hw2:w'=Sort.grow (putRow id (Sort.ahead w n) b 0 (A0X ((A4R cf xs).map row))) os:=by
  rw [hw];unfold Go.Proofs.sortWorldK putRowK;rw [<-A5J row k hk];rfl
 rw [hw2]
 obtain ⟨σ',r1,r2,r3⟩:=B7b hH hid hi hf1 hf2 (by
  rw [A2u (k:=k) (fun r hr=>by obtain ⟨x,_,rfl⟩:=QY.1 hr; exact hk x),A2u (k:=k) (fun r hr=>by obtain ⟨x,_,rfl⟩:=QY.1 hr; exact hk x),XW,XW,hperm.length_eq]) n os
 exact ⟨_,ι,σ',rfl,⟨#[],rfl,rfl,by simp⟩,r1,r2,r3⟩
end
section
open Go.RowKit Go.Sort

end
def noK (j:Nat):ACap->Bool
 | .ptr id _=>id != j
 | .tree _=>true
 | .ref id _ _ _ _=>id != j
def noJ (j:Nat):ACell->Bool
 | .ptr id _=>id != j
 | .ref id _ _ _ _=>id != j
 | .vec id _ _=>id != j
 | .fn _ caps=>caps.all (noK j)
 | .bfn _ caps=>caps.all (noK j)
 | .map id=>id != j
 | .iter id=>id != j
 | .rows rs _=>rs.all fun r=>r.all (noK j)
 | .rptrC cs=>cs.all (noK j)
 | _=>true
def C2i (j:Nat) (c:ACell):ACell:=if noJ j c then c else .any
def C77 (j:Nat):AVal->AVal
 | .c x=> .c (C2i j x)
 | .agg cs=> .agg (cs.map (C2i j))
 | .tup xs=> .tup xs
def fgt (j:Nat):AVal->AVal
 | .c x=> .c (C2i j x)
 | .agg cs=> .agg (cs.map (C2i j))
 | .tup xs=> .tup (xs.map (C77 j))
def noB (j:Nat):Blk->Prop
 | .box cs=> ∀c,c∈cs->noJ j c=true
 | .iter m _ _=>m≠j
 | .roC cs=> ∀c,c∈cs->noK j c=true
 | _=>True
section
variable {ι:List Nat} {σ:Sig} {w:World} {H:List Blk} {j b':Nat} {cs0:List ACell} {blk':Blk}
def A7L {id b:Nat} (hn:id≠j) (h:ι[id]? =some b):(ι.set j b')[id]? =some b:=by rw [Qy (Ne.symm hn)]; exact h
def A8R {c:ACap} {v:Value} (hn:noK j c=true) (h:KRel ι σ w c v):KRel (ι.set j b') σ w c v:=by
 cases c with
 | ptr id off=>obtain ⟨b,hb,e⟩:=h; exact ⟨b,A7L (by simpa [noK] using hn) hb,e⟩
 | tree t=>exact h
 | ref id k off len cap=>obtain ⟨b,hb,e⟩:=h; exact ⟨b,A7L (by simpa [noK] using hn) hb,e⟩
def B2C (hj:H[j]? =some (.box cs0)) {rows:List (List Tree)} {v:Value} {tok:Tok} (h:A4A σ w H rows v tok):A4A σ w (H.set j blk') rows v tok:=by
 cases tok with
 | none=>exact h
 | exact=>exact h
 | chain i=>
  obtain ⟨tip,k,h2,h3⟩:=h;have hn:i≠j:=by rintro rfl; rw [hj] at h2; cases h2
  exact ⟨tip,k,by rw [Qy (Ne.symm hn)]; exact h2,h3⟩
 | tail i p=>
  obtain ⟨tip,k,h2,h3⟩:=h;have hn:i≠j:=by rintro rfl; rw [hj] at h2; cases h2
  exact ⟨tip,k,by rw [Qy (Ne.symm hn)]; exact h2,h3⟩
def B4i (hj:H[j]? =some (.box cs0)) {c:ACell} {v:Value} (hn:noJ j c=true) (h:CRel ι σ w H c v):CRel (ι.set j b') σ w (H.set j blk') c v:=by
 cases c with
 | ptr id off=>obtain ⟨b,hb,e⟩:=h; exact ⟨b,A7L (by simpa [noJ] using hn) hb,e⟩
 | ref id k off len cap=>obtain ⟨b,hb,e⟩:=h; exact ⟨b,A7L (by simpa [noJ] using hn) hb,e⟩
 | vec id len cap=>obtain ⟨b,hb,e⟩:=h; exact ⟨b,A7L (by simpa [noJ] using hn) hb,e⟩
 | fn f caps=>
  obtain ⟨vs,e,hl,hv⟩:=h;exact ⟨vs,e,hl,fun i c u h1 h2=>A8R (ZX.1 (by simpa [noJ] using hn) c (Qv h1)) (hv i c u h1 h2)⟩
 | bfn f caps=>
  obtain ⟨vs,e,hl,hv⟩:=h;exact ⟨vs,e,hl,fun i c u h1 h2=>A8R (ZX.1 (by simpa [noJ] using hn) c (Qv h1)) (hv i c u h1 h2)⟩
 | slice rows tok=>exact ⟨h.1,B2C hj h.2⟩
 | any=>exact h
 | int k n=>exact h
 | bool b=>exact h
 | str s=>exact h
 | nils=>exact h
 | rptr cells=>exact h
 | yld l=>exact h
 | raw u=>exact h
 | nilf=>exact h
 | nilp=>exact h
 | map id=>obtain ⟨b,hb,e⟩:=h; exact ⟨b,A7L (by simpa [noJ] using hn) hb,e⟩
 | iter id=>obtain ⟨b,hb,e⟩:=h; exact ⟨b,A7L (by simpa [noJ] using hn) hb,e⟩
 | rows rs tok=>
  have hn': ∀r,r∈rs-> ∀c,c∈r->noK j c=true:=by simpa [noJ,ZX] using hn
  obtain ⟨⟨a,c,e,hl,h1⟩,h2⟩:=h;refine ⟨⟨a,c,e,hl,fun hne=> ?_⟩,B2C hj h2⟩;obtain ⟨b,off,k,q1,q2,q3⟩:=h1 hne;refine ⟨b,off,k,q1,q2,fun i r j t p1 p2=> ?_⟩;obtain ⟨u,s1,s2,s3⟩:=q3 i r j t p1 p2;exact ⟨u,s1,s2,A8R (hn' r (Qv p1) t (Qv p2)) s3⟩
 | rptrC cells=>
  have hn': ∀c,c∈cells->noK j c=true:=by simpa [noJ,ZX] using hn
  obtain ⟨b,off,e,h⟩:=h;refine ⟨b,off,e,fun j t hj=> ?_⟩;obtain ⟨u,s1,s2,s3⟩:=h j t hj;exact ⟨u,s1,s2,A8R (hn' t (Qv hj)) s3⟩
def B11 (hj:H[j]? =some (.box cs0)) {c:ACell} {v:Value} (h:CRel ι σ w H c v):CRel (ι.set j b') σ w (H.set j blk') (C2i j c) v:=by
 unfold C2i;split
 ·rename_i hn; exact B4i hj hn h
 ·trivial
def B2D (hj:H[j]? =some (.box cs0)) {cs:List ACell} {vs:Array Value} (h:A0I ι σ w H cs vs):A0I (ι.set j b') σ w (H.set j blk') (cs.map (C2i j)) vs:=
 ⟨by simpa using h.1,fun i c u h1 h2=>by
  simp only [QQ] at h1;cases hc:cs[i]? with
  | none=>simp [hc] at h1
  | some c0=>simp [hc] at h1; subst h1; exact B11 hj (h.2 i c0 u hc h2)⟩
def C2j (hj:H[j]? =some (.box cs0)) {x:AVal} {v:Value} (h:A2F ι σ w H x v):A2F (ι.set j b') σ w (H.set j blk') (C77 j x) v:=by
 cases x with
 | c x=>exact B11 hj h
 | agg cs=>obtain ⟨vs,e,h⟩:=h; exact ⟨vs,e,B2D hj h⟩
 | tup xs=>exact h
def C48 (hj:H[j]? =some (.box cs0)) {x:AVal} {v:Value} (h:VRel ι σ w H x v):VRel (ι.set j b') σ w (H.set j blk') (fgt j x) v:=by
 cases x with
 | c x=>exact B11 hj h
 | agg cs=>obtain ⟨vs,e,h⟩:=h; exact ⟨vs,e,B2D hj h⟩
 | tup xs=>
  obtain ⟨vs,e,hl,h⟩:=h;refine ⟨vs,e,by simpa using hl,fun i x u h1 h2=> ?_⟩;simp only [QQ] at h1;cases hc:xs[i]? with
  | none=>simp [hc] at h1
  | some c0=>simp [hc] at h1; subst h1; exact C2j hj (h i c0 u hc h2)
def B59 (hj:H[j]? =some (.box cs0)) {tm:List AVal} {vs:Array Value} (h:TmpsRel ι σ w H tm vs):TmpsRel (ι.set j b') σ w (H.set j blk') (tm.map (fgt j)) vs:=
 ⟨by simpa using h.1,fun t x v h1 h2=>by
  simp only [QQ] at h1;cases hc:tm[t]? with
  | none=>simp [hc] at h1
  | some c0=>simp [hc] at h1; subst h1; exact C48 hj (h.2 t c0 v hc h2)⟩
def B4j (hH:HRel ι σ w H) (hj:H[j]? =some (.box cs0)) (hno: ∀i blk,H[i]? =some blk->i≠j->noB j blk):HRel (ι.set j b') σ w (H.set j .dead):=by
 have hjl:j<H.length:=(Qx.1 hj).1;refine ⟨by simp [hH.1],fun id blk b h1 h2=> ?_⟩;by_cases e:id=j
 ·subst e;rw [QX hjl] at h1;cases h1;trivial
 ·rw [Qy (Ne.symm e)] at h1;rw [Qy (Ne.symm e)] at h2;have:=hH.2 id blk b h1 h2;have hn:=hno id blk h1 e;cases blk with
  | box cs=>
   obtain ⟨ha,hc⟩:=this;exact ⟨ha,fun i c hi=>let ⟨q1,q2,v,q3,q4⟩:=hc i c hi; ⟨q1,q2,v,q3,B4i hj (hn c (Qv hi)) q4⟩⟩
  | ro ts=>exact this
  | roC ts=>exact fun i c hi=>let ⟨q1,v,q2,q3⟩:=this i c hi; ⟨q1,v,q2,A8R (hn c (Qv hi)) q3⟩
  | chain _ _=>trivial
  | dead=>trivial
  | map es=>exact this
  | iter m n seen=>
   obtain ⟨p1,bm,p2,p3⟩:=this;exact ⟨p1,bm,A7L hn p2,p3⟩
  | ghost G=>exact this
def B2E (hj:H[j]? =some .dead) (blk:Blk):Mono ι σ w H ι σ w (H.set j blk):=by
 refine ⟨fun _ _ _ h h'=>⟨h,h'⟩,fun _ _ h=>h,fun id tip k h=> ?_⟩;have hne:id≠j:=by rintro rfl; rw [hj] at h; cases h
 exact ⟨tip,k,by rw [Qy (Ne.symm hne)]; exact h,MarkUp.refl _ _ _,.inr ⟨rfl,rfl,fun b o u h h'=>⟨h,⟨u,h'⟩,fun hf=>hf⟩⟩⟩
def B8G (hH:HRel ι σ w H) (hj:H[j]? =some .dead) {blk:Blk} (hb: ∀b,ι[j]? =some b->A3N ι σ w (H.set j blk) j b blk):HRel ι σ w (H.set j blk):=by
 have M:=B2E (ι:=ι) (σ:=σ) (w:=w) hj blk;have hjl:j<H.length:=(Qx.1 hj).1;refine ⟨by simp [hH.1],fun id blk1 b h1 h2=> ?_⟩;by_cases e:id=j
 ·subst e;rw [QX hjl] at h1;cases h1;exact hb b h2
 ·rw [Qy (Ne.symm e)] at h1;exact A3N.same M (hH.2 id blk1 b h1 h2)
end
def cellOf:Tree->ACell
 | .raw (.slice none 0 0)=> .nils
 | t=>A0v t
def A5y {t:Tree} {v:Value} (h:TRel (Stab σ) w t v):CRel ι σ w H (cellOf t) v:=by
 unfold cellOf;split
 ·cases h; rfl
 ·exact A0C h
def A7M (used:List ACell) (m:Nat) (c:ACell) (hm:0<m):setMany (used++List.replicate m .any) used.length [c]=used++[c]++List.replicate (m-1) .any:=by
 obtain ⟨m,rfl⟩: ∃n,m=n+1:=⟨m-1,by omega⟩;simp [setMany,List.replicate_succ]
def AReg.grow {P:Program} {rd:Option Nat} {h:Nat} {Q:Exit->St->Prop} {all:Array Oper} {rest0 rest:List Oper} {tm:List AVal} {H:List Blk} {o:Oper} (he:rest0=o::rest)
  {x y:Operand} {t tx:TypeId} (ho:o.op= .call { callee:= .builtin .append,args:= #[x,y],argTypes:= #[t,tx] }) (hgd:o.guard=none) {e e2:TypeId} (hE:A03 P t=some (none,e)) (hE2:A03 P tx=some (none,e2))
  (hk:A0u P e=some 1) {z:Value} (hz:A01 P e=some z) (hzs:z.cells.size=1) {by':Nat} (hby:A0x P e=some by') {j len cap:Nat} (hx:aeval tm x= .c (.vec j len cap)) {used:List ACell}
  (hj:H[j]? =some (.box (used++List.replicate (cap-len) .any))) (hlen:used.length=len) (hcap:len≤cap) (hh:h≤j) {tr:Tree} {tok:Tok} (hy:aeval tm y= .c (.slice [[tr]] tok))
  (hfit:(len+1)*by'≤140737488355328) (h63:len+1≤4611686018427387904) (hno: ∀i blk,H[i]? =some blk->i≠j->noB j blk) (hused: ∀c,c∈used->noJ j c=true)
  (hK: ∀cap',len+1≤cap'->AReg P rd h all rest Q (A1a (tm.map (fgt j)) o.dst (.c (.vec j (len+1) cap'))) (H.set j (.box (used++[cellOf tr]++List.replicate (cap'-(len+1)) .any)))):AReg P rd h all rest0 Q tm H:=by
 subst he;refine ⟨fun N ι0 σ0 w0 H0 ι σ a w r1 r2 r3 r4 r5=> ?_⟩;unfold wpListIn;have hg:gwant all tm o=some true:=by simp [gwant,hgd]
 rw [if_pos (A07 r1.tmps hg)];refine ⟨fun _ _=>trivial,?_⟩;rw [Oper.semAt_eq _ _ _ (by simp [ho])];have vx:=A0J r1.tmps x;rw [hx] at vx;have vy:=A0J r1.tmps y;rw [hy] at vy;have hjl:j<H.length:=(Qx.1 hj).1;obtain ⟨b,hb,vx⟩:=vx;have hu:=A0w hE;have hu2:=A0w hE2;obtain ⟨inf,hi,hsz,hbb,hzz⟩: ∃inf,P.info? e=some inf∧inf.size=1∧inf.bytes=by'∧inf.zero=some z:=by
  unfold A0u at hk; unfold A0x at hby; unfold A01 at hz;cases hi:P.info? e with
  | none=>simp [hi] at hk
  | some inf=>simp [hi] at hk hby hz; exact ⟨inf,rfl,hk,hby,hz⟩
 obtain ⟨news,hsrc,hg2⟩:=vy.1.src (P:=P) (k:=inf.size) (fun r hr=>by simp at hr; subst hr; rw [hsz]; rfl) (by omega) hu2;obtain ⟨u,hu0,hur⟩:=hg2 0 [tr] 0 tr rfl rfl;have hnl:news=[u]:=by
  have h1:=hsrc.newsLen;rw [hsz] at h1
  match news,h1,hu0 with
  | [u'],_,h2=>simp at h2; rw [h2]
 subst hnl;have hblk:=r1.heap.2 j _ b hj hb;have hfin: ∀v w',(Builtin.append_ #[t,tx] o.type #[a.eval x,a.eval y]).run P w= .ok v w'->(execOp a.eval o).run P w= .ok (.value v) w':=fun v w' h1=>by
  simp [execOp,ho,resolve,invoke,builtin,h1]
 rcases Vz len cap with hroom | hfull
 ·-- in its place
  have ev:a.eval x= .slice (some ⟨b,0,none⟩) len cap:=by
   rcases vx with h1 | ⟨_,h2,_⟩
   ·exact h1
   ·omega
  obtain ⟨h1,h2,M,E⟩:=A4g r1.heap hj hb (l:=[cellOf tr]) (j:=len) #[u] ⟨rfl,fun i c u' q1 q2=>by
   cases i with
   | zero=>simp at q1 q2; subst q1; subst q2; exact A5y hur
   | succ i=>simp at q1⟩ (by simp [hlen]; omega)
  have hrun:=run_append_room_src w t tx o.type e inf hu hi b 0 len cap (a.eval y) 1 [u] (by simpa using hsrc) (by omega) (fun i hi'=>by
   have:=(h1 i (by simpa using hi')).1
   simpa [hsz] using this) (fun i hi'=>by
   have:=(h1 i (by simpa using hi')).2
   simpa [hsz] using this)
  rw [<-ev] at hrun;rw [hfin _ _ hrun];have esm:setMany (used++List.replicate (cap-len) .any) len [cellOf tr]=used++[cellOf tr]++List.replicate (cap-(len+1)) .any:=by
   rw [<-hlen,A7M _ _ _ (by omega),Nat.sub_sub]
  rw [esm] at h2 M;have e0:(0:Nat)+len*inf.size=len:=by rw [hsz]; omega
  simp only [e0] at*;have T:TmpsRel ι σ (w.setCells b len [u]) (H.set j (.box (used++[cellOf tr]++List.replicate (cap-(len+1)) .any))) (tm.map (fgt j)) a.tmps:=by
   have T1:=B59 (b':=b) (blk':=(.box (used++[cellOf tr]++List.replicate (cap-(len+1)) .any))) (by rw [QX hjl]) (r1.tmps.mono M);rw [List.set_set] at T1;have eι:ι.set j b=ι:=by
    apply Zq;intro i;by_cases hij:j=i
    ·subst hij; rw [QX (Qx.1 hb).1,hb]
    ·rw [Qy hij]
   rw [eι] at T1;exact T1
  exact (hK cap hroom).out N ι0 σ0 w0 H0 ι σ _ _ ⟨A0K T ⟨b,hb,.inl rfl⟩,h2⟩ (r2.ext E) (by rw [Act.put_defers]; exact r3.ext E) (r4.trans E) (r5.take2 (M.take h))
 ·-- in a new place
  have ec:cap=len:=by omega
  subst ec;have hcells: ∀i,i<used.length-> ∃v,w.cell? ⟨b,i,none⟩=some v∧CRel ι σ w H (used.getD i .any) v:=fun i hi'=>by
   obtain ⟨_,_,v,q3,q4⟩:=hblk.2 i (used.getD i .any) (by rw [Qw hi',Qz,Qq hi']; rfl);exact ⟨v,q3,q4⟩
  let olds:List Value:=(List.range used.length).map fun i=>(w.cell? ⟨b,i,none⟩).getD undef;have hol:olds.length=used.length:=by simp [olds]
  have hog: ∀i,i<used.length->olds[i]? =w.cell? ⟨b,i,none⟩:=fun i hi'=>by
   obtain ⟨v,q,_⟩:=hcells i hi';simp only [olds,QQ,Yv hi',Option.map_some,q,Option.getD_some]
  obtain ⟨base,hbase,hold⟩: ∃base,a.eval x= .slice base cap cap∧(Builtin.firstCells inf.size cap (.slice base cap cap)).run P w.drew= .ok olds.toArray w.drew:=by
   rcases vx with h1 | ⟨h0,_,h1⟩
   ·refine ⟨_,h1,?_⟩
    exact run_firstCells_some w.drew _ _ ⟨b,0,none⟩ _ _ olds (by rw [hol,hsz]; omega) (fun i u' hu'=>by
     have hi':i<used.length:=by have:=(Qx.1 hu').1; omega
     rw [hog i hi'] at hu'
     simpa [Addr.add_lit] using hu')
   ·refine ⟨none,by rw [h1,h0],?_⟩;have:olds=[]:=ZY.1 (by omega);rw [this,h0];exact run_firstCells_none w.drew _ _ _ _
  have hrun:=run_append_grow_src w t tx o.type e inf z hu hi hzz base cap cap olds hold (a.eval y) 1 [u] (by simpa using hsrc) (by omega) (by omega) (by
   have h2:=nextslicecap_le (need:=cap+1) (old:=cap) (by omega);refine Yw (YJ _ h2) ?_
   rw [hbb,Nat.mul_assoc]; omega)
  have hge:=grownCap_ge w (cap+1) cap e;rw [<-hbase] at hrun;generalize grownCap w (cap+1) cap e=c' at hrun hge;rw [hfin _ _ hrun];generalize harr:((olds++[u]).toArray++Builtin.zeroCells z.cells (c'-(cap+1)))=arr;have hasz:arr.size=c':=by
   rw [<-harr];simp only [Array.size_append,Vk,size_zeroCells,hzs,Xv,hol,hlen,List.length_cons,List.length_nil];omega
  have hnd:w.drew.heap.size=w.heap.size:=rfl;have hw: ∀b,b<w.heap.size->(w.drew.alloc (.cells arr e)).heap[b]? =w.heap[b]? :=fun b hb=>Below.heap_alloc w.drew _ b hb;have hnew:(w.drew.alloc (.cells arr e)).heap[w.heap.size]? =some (.cells arr e):=A5o w.drew _;have hs: ∀b o,b<w.heap.size->(σ.new w.heap.size (.mine j)) b o=σ b o:=fun b o hb=>by simp [Sig.new,Qx5 hb]
  have hsz':w.heap.size≤(w.drew.alloc (.cells arr e)).heap.size:=by simp
  have E:Ext σ w (σ.new w.heap.size (.mine j)) (w.drew.alloc (.cells arr e)):=Ext.grow rfl rfl rfl hsz' hw hs (VV _);have F:=B4j (b':=w.heap.size) r1.heap hj hno;have Mg:Mono (ι.set j w.heap.size) σ w (H.set j .dead) (ι.set j w.heap.size) (σ.new w.heap.size (.mine j)) (w.drew.alloc (.cells arr e)) (H.set j .dead):=by
   have:=Mono.grow (ι:=ι.set j w.heap.size) (H:=H.set j .dead) hw hs [] [];simpa using this
  have G:HRel (ι.set j w.heap.size) (σ.new w.heap.size (.mine j)) (w.drew.alloc (.cells arr e)) (H.set j .dead):=by
   have:=F.grow hw hs ⟨rfl,rfl,rfl,hsz',VV _⟩ [] [] rfl (fun j blk b h1 _=>by simp at h1);simpa using this
  have hjd:(H.set j .dead)[j]? =some .dead:=QX hjl;have Md:=B2E (ι:=ι.set j w.heap.size) (σ:=σ.new w.heap.size (.mine j)) (w:=w.drew.alloc (.cells arr e)) hjd (.box (used++[cellOf tr]++List.replicate (c'-(cap+1)) .any))
  have D:=B8G (blk:= .box (used++[cellOf tr]++List.replicate (c'-(cap+1)) .any)) G hjd (fun b1 hb1=>by
   have hb1':b1=w.heap.size:=by
    rw [QX (by rw [r1.heap.1]; exact hjl)] at hb1;cases hb1; rfl
   subst hb1';refine ⟨⟨arr,e,_,hnew⟩,fun i c hi'=> ?_⟩;have hil:i<c':=by
    have:=(Qx.1 hi').1;simp only [Xv,List.length_cons,List.length_nil,Yj,hlen] at this;omega
   refine ⟨by simp [Sig.new],by unfold World.frozen?; rw [hnew]; simp,arr[i],by unfold World.cell?; rw [hnew]; simp [QZ (show i<arr.size by omega)],?_⟩;have hget:arr[i]? =some arr[i]:=QZ _;by_cases h1:i<used.length
   ·rw [Zv,Qw h1] at hi';obtain ⟨v,q1,q2⟩:=hcells i h1;have e1:arr[i]? =some v:=by
     rw [<-harr,Wv (by simp [hol]; omega)];simp only [Wz];rw [Qw (by omega),hog i h1,q1]
    rw [e1] at hget;cases hget;have ec:used.getD i .any=c:=by rw [Qz,hi']; rfl
    rw [ec] at q2;exact Md.cell (Mg.cell (B4i hj (hused c (Qv hi')) q2))
   ·by_cases h2:i=used.length
    ·subst h2;have ec:c=cellOf tr:=by simpa using hi'.symm
     subst ec;have e1:arr[used.length]? =some u:=by
      rw [<-harr,Wv (by simp [hol])];simp only [Wz];rw [QW (by omega)];simp [hol]
     rw [e1] at hget;cases hget;exact Md.cell (Mg.cell (A5y hur))
    ·have ec:c= .any:=by
      rw [QW (by simp; omega)] at hi';exact (Wq.1 (Qv hi')).2
     subst ec
     trivial)
  rw [List.set_set] at D Md;have T:TmpsRel (ι.set j w.heap.size) (σ.new w.heap.size (.mine j)) (w.drew.alloc (.cells arr e)) (H.set j (.box (used++[cellOf tr]++List.replicate (c'-(cap+1)) .any))) (tm.map (fgt j)) a.tmps:=
   ((B59 (b':=w.heap.size) (blk':= .dead) hj r1.tmps).mono Mg).mono Md
  have hιj:(ι.set j w.heap.size)[j]? =some w.heap.size:=QX (by rw [r1.heap.1]; exact hjl);have M':Mono (ι.take h) σ w (H.take h) (ι.set j w.heap.size) (σ.new w.heap.size (.mine j)) (w.drew.alloc (.cells arr e)) (H.set j (.box (used++[cellOf tr]++List.replicate (c'-(cap+1)) .any))):=by
   have:=(Mg.trans Md).take h;rwa [Qz2 hh,Qz2 hh] at this
  exact (hK c' hge).out N ι0 σ0 w0 H0 _ _ _ _ ⟨A0K T ⟨_,hιj,.inl rfl⟩,D⟩ (r2.ext E) (by rw [Act.put_defers]; exact r3.ext E) (r4.trans E) (r5.take2 M')
def Weak.asVec {h:Nat} (t id0:Nat) {tm:List AVal} {H:List Blk} {cs0:List ACell} (ht:tm[t]? =some (.c .nils)) (h0:H[id0]? =some (.box cs0)) (hh:h≤H.length):
  Weak h ⟨tm,H⟩ ⟨tm.set t (.c (.vec H.length 0 0)),H++[.box []]⟩:=by
 intro ι σ a w hr;have hl:ι.length=H.length:=hr.heap.1;obtain ⟨b0,hb0⟩: ∃b,ι[id0]? =some b:=⟨_,Qq (by rw [hl]; exact (Qx.1 h0).1)⟩;have M:Mono ι σ w H (ι++[b0]) σ w (H++[.box []]):=by
  refine ⟨fun b o u h h'=>⟨h,h'⟩,fun id b hb=>by rw [Qw (Qx.1 hb).1]; exact hb,fun id tip k0 hc=> ?_⟩;exact ⟨tip,k0,by rw [Qw (Qx.1 hc).1]; exact hc,MarkUp.refl _ _ _,.inr ⟨rfl,rfl,fun b o u h h'=>⟨h,⟨u,h'⟩,fun h3=>h3⟩⟩⟩
 refine ⟨ι++[b0],⟨A5x ht (fun v hv=>⟨b0,by simp [<-hl],.inr ⟨rfl,rfl,hv⟩⟩) (hr.tmps.mono M),by simp [hl],fun id blk b h1 h2=> ?_⟩,?_,?_⟩
 ·by_cases hid:id<H.length
  ·rw [Qw hid] at h1;rw [Qw (by omega)] at h2;exact A3N.same M (hr.heap.2 id blk b h1 h2)
  ·have e:id=H.length:=by
    have:=(Qx.1 h1).1;simp at this; omega
   subst e;simp at h1;rw [<-hl] at h2;simp at h2;subst h1; subst h2;exact ⟨(hr.heap.2 id0 _ b0 h0 hb0).1,fun j c hj=>by simp at hj⟩
 ·rw [ZZ (by omega)]
 ·rw [ZZ hh]
def Weak.vecRef {h:Nat} (t j len cap:Nat) {tm:List AVal} {H:List Blk} {used rest:List ACell} (ht:tm[t]? =some (.c (.vec j len cap))) (hj:H[j]? =some (.box (used++rest))) (h0:0<len) (hc:len≤cap) (hh:h≤j):
  Weak h ⟨tm,H⟩ ⟨tm.set t (.c (.ref j 1 0 len len)),H.set j (.box used)⟩:=by
 intro ι σ a w hr;have hjl:j<H.length:=(Qx.1 hj).1;have M:Mono ι σ w H ι σ w (H.set j (.box used)):=by
  refine ⟨fun b o u h h'=>⟨h,h'⟩,fun _ _ h=>h,fun id tip k0 hc=> ?_⟩;have hne:id≠j:=by rintro rfl; rw [hj] at hc; cases hc
  exact ⟨tip,k0,by rw [Qy (Ne.symm hne)]; exact hc,MarkUp.refl _ _ _,.inr ⟨rfl,rfl,fun b o u h h'=>⟨h,⟨u,h'⟩,fun h3=>h3⟩⟩⟩
 refine ⟨ι,⟨A5x ht (fun v hv=> ?_) (hr.tmps.mono M),by simpa using hr.heap.1,fun id blk b h1 h2=> ?_⟩,rfl,by rw [Qz2 hh]⟩
 ·obtain ⟨b,hb,e | ⟨e,_,_⟩⟩:=hv
  ·exact ⟨b,hb,cap,hc,e⟩
  ·omega
 ·by_cases e:id=j
  ·subst e;rw [QX hjl] at h1;cases h1;obtain ⟨ha,hcs⟩:=hr.heap.2 id _ b hj h2;refine ⟨ha,fun i c hi=> ?_⟩;obtain ⟨q1,q2,v,q3,q4⟩:=hcs i c (by rw [Qw (Qx.1 hi).1]; exact hi);exact ⟨q1,q2,v,q3,M.cell q4⟩
  ·rw [Qy (Ne.symm e)] at h1;exact A3N.same M (hr.heap.2 id blk b h1 h2)
def AReg.step {P:Program} {rd:Option Nat} {h:Nat} {Q:Exit->St->Prop} {all:Array Oper} {rest0 rest:List Oper} {tm:List AVal} {H H':List Blk} {o:Oper} {rv:AVal} (he:rest0=o::rest) (hgd:o.guard=none)
  (hs:AStep P rd o (aeval tm) H rv H') (hk:AReg P rd h all rest Q (A1a tm o.dst rv) H'):AReg P rd h all rest0 Q tm H:=by
 subst he;refine ⟨fun N ι0 σ0 w0 H0 ι σ a w r1 r2 r3 r4 r5=> ?_⟩;unfold wpListIn;have hg:gwant all tm o=some true:=by simp [gwant,hgd]
 rw [if_pos (A07 r1.tmps hg)];refine hs ι σ a w (fun x _=>A0J r1.tmps x) r1.heap r2 _ _ fun v w' ι' σ' q1 q2 q3 q4=> ?_;exact hk.out N ι0 σ0 w0 H0 ι' σ' _ _ ⟨A0K (r1.tmps.mono q3) q1,q2⟩ (r2.ext q4) (by rw [Act.put_defers]; exact r3.ext q4) (r4.trans q4) (r5.take2 (q3.take h))
open Classical in
def AReg.nilRow {P:Program} {rd:Option Nat} {h:Nat} {Q:Exit->St->Prop} {all:Array Oper} {rest0 rest:List Oper} {tm:List AVal} {H:List Blk} {o:Oper} (he:rest0=o::rest) (hgd:o.guard=none)
  {t:TypeId} {x:Operand} (ho:o.op= .buildSlice t 1 #[(0,x)]) {e:TypeId} (hE:A03 P t=some (none,e)) (hs:A0u P e=some 1) {z:Value} (hz:A01 P e=some z) (hx:aeval tm x= .c .nils)
  (hk:AReg P rd h all rest Q (A1a tm o.dst (.c (.slice [[.raw (.slice none 0 0)]] .exact))) H):AReg P rd h all rest0 Q tm H:=by
 refine AReg.step he hgd (rv:= .c (.slice [[.raw (.slice none 0 0)]] .exact)) (H':=H) ?_ hk;refine AStep.bridge fun ι σ a w hv hH=> ?_;have vx:=hv x (by simp [Op.operands,ho]);rw [hx] at vx;have e0:a.eval x= .slice none 0 0:=vx;refine ⟨fun q=>if q=x then .c (.raw (.slice none 0 0)) else aeval tm q,.c (.slice [[.raw (.slice none 0 0)]] .exact),fun q hq=> ?_,?_,fun _ _ _ _ _ h=>h⟩
 ·dsimp only;by_cases e1:q=x
  ·subst e1; rw [if_pos rfl,e0]; exact ⟨rfl,rfl⟩
  ·rw [if_neg e1]; exact hv q hq
 ·exact A2h (P:=P) (rd:=rd) (o:=o) (ρ:=fun q=>if q=x then .c (.raw (.slice none 0 0)) else aeval tm q) (H:=H) t 1 #[(0,x)] ho e hE 1 hs z hz [(0,[.raw (.slice none 0 0)])] (by simp [partsOf,AVal.stored]) [.raw (.slice none 0 0)] (by simp [A89,setMany]) [.raw (.slice none 0 0)] (by simp [A0a]) (by decide)
attribute [go_sem] fgt C77 C2i noJ noK
def chC:Nat->List (List (List Tree))->List ACell
 | _,[]=>[]
 | b,r::f=> .slice r (.chain b)::chC (b+1) f
def chB (f:List (List (List Tree))):List Blk:=f.map fun r=> .chain r.length 1
def B8H: ∀(b:Nat) (f:List (List (List Tree))),(chC b f).length=f.length
 | _,[]=>rfl
 | b,_::f=>by simp [chC,B8H (b+1) f]
def C49 (f:List (List (List Tree))):(chB f).length=f.length:=by simp [chB]
def B4k: ∀{b:Nat} {f:List (List (List Tree))} {i:Nat} {r:List (List Tree)},f[i]? =some r->(chC b f)[i]? =some (.slice r (.chain (i+b)))
 | b,[],i,r,h=>by simp at h
 | b,x::f,0,r,h=>by simp at h; subst h; simp [chC]
 | b,x::f,i+1,r,h=>by
  have:=B4k (b:=b+1) (f:=f) (i:=i) (r:=r) (by simpa using h);simp only [chC,List.getElem?_cons_succ,this];rw [show i+(b+1)=i+1+b by omega]
def C4A {f:List (List (List Tree))} {i:Nat} {r:List (List Tree)} (h:f[i]? =some r):(chB f)[i]? =some (.chain r.length 1):=by simp [chB,h]
variable {f:List (List (List Tree))}
def C2k {i:Nat} {r:List (List Tree)} (h:f[i]? =some r):(chC b f).drop i= .slice r (.chain (i+b))::(chC b f).drop (i+1):=by
 have e:=B4k (b:=b) h;obtain ⟨hl,e1⟩:=Qx.1 e;rw [Zk hl,e1]
def B8I: ∀(b:Nat) (f:List (List (List Tree))) (i:Nat) (r:List (List Tree)),(chC b f).set i (.slice r (.chain (i+b)))=chC b (f.set i r)
 | b,[],i,r=>rfl
 | b,x::f,0,r=>by simp [chC]
 | b,x::f,i+1,r=>by
  have:=B8I (b+1) f i r;rw [show i+(b+1)=i+1+b by omega] at this;simp only [chC,List.set_cons_succ,this]
def C4B (f:List (List (List Tree))) (i:Nat) (r:List (List Tree)) {n:Nat} (hn:n=r.length):(chB f).set i (.chain n 1)=chB (f.set i r):=by subst hn; simp [chB,Qj4]
def B5A: ∀(b:Nat) (f:List (List (List Tree))) (r:List (List Tree)),chC b (f++[r])=chC b f++[.slice r (.chain (f.length+b))]
 | b,[],r=>by simp [chC]
 | b,x::f,r=>by
  have:=B5A (b+1) f r;simp only [chC,List.cons_append,this,List.length_cons];rw [show f.length+(b+1)=f.length+1+b by omega]
def C2l (f:List (List (List Tree))) (r:List (List Tree)):chB (f++[r])=chB f++[.chain r.length 1]:=by simp [chB]
def B2F: ∀(b:Nat) (f:List (List (List Tree))),(chC b f).mapM A0a=some (f.map Tree.slice)
 | b,[]=>rfl
 | b,r::f=>by simp [chC,JY,A0a,B2F (b+1) f]
def B8J: ∀{m b:Nat} {f:List (List (List Tree))},b+f.length≤m->cellsIn m (chC b f)
 | m,b,[],_=>A1p m
 | m,b,r::f,h=>A1e (by simp at h; show _<_; omega) (B8J (by simp at h; omega))
def C4C {m b:Nat} {n:Nat} (h:b+f.length≤m):blkIn m (.box (chC b f++List.replicate n .any)):=by
 intro c hc;rcases XZ.1 hc with hc | hc
 ·exact B8J h c hc
 ·obtain rfl:=(Wq.1 hc).2;exact Qv3
def C6u {m:Nat}:A1N m (chB f):=by
 intro b hb;obtain ⟨r,_,rfl⟩:=QY.1 hb;exact Qv3
def C3R {j:Nat}: ∀{b:Nat} {f:List (List (List Tree))},∀c,c∈chC b f->noJ j c=true
 | b,[],c,h=>by simp [chC] at h
 | b,r::f,c,h=>by
  rcases QV.1 h with rfl | h
  ·rfl
  ·exact C3R c h
def Weak.openBs {h:Nat} (i:Nat) {tm:List AVal}: ∀(n:Nat) {H:List Blk} {pre:List ACell},H[i]? =some (.box (pre++List.replicate n .nils))->h≤i->
  Weak h ⟨tm,H⟩ ⟨tm,H.set i (.box (pre++chC H.length (List.replicate n [])))++chB (List.replicate n [])⟩:=by
 intro n
 induction n with
 | zero=>
  intro H pre hi hh;have e:H.set i (.box (pre++chC H.length (List.replicate 0 [])))++chB (List.replicate 0 [])=H:=by
   simp only [List.replicate_zero,chC,chB,ZQ,WX] at hi ⊢;apply Zq;intro k;by_cases e:i=k
   ·subst e; rw [QX (Qx.1 hi).1,hi]
   ·rw [Qy e]
  rw [e];exact Weak.refl h _
 | succ n ih=>
  intro H pre hi hh;have hil:i<H.length:=(Qx.1 hi).1;have h1:=Weak.openB (h:=h) i pre.length 1 (tm:=tm) hi (by rw [QW (Qk _),Jv]; rfl) hh;have e0:(pre++List.replicate (n+1) ACell.nils).set pre.length (.slice [] (.chain H.length))=(pre++[.slice [] (.chain H.length)])++List.replicate n .nils:=by
   rw [Vq _ _ (Qk _),Jv,List.replicate_succ,List.set_cons_zero,Zv]; rfl
  rw [e0] at h1;have h2:=ih (H:=H.set i (.box ((pre++[.slice [] (.chain H.length)])++List.replicate n .nils))++[.chain 0 1]) (pre:=pre++[.slice [] (.chain H.length)]) (by rw [Qw (by simpa using hil),QX hil]) hh;have e1:(H.set i (.box ((pre++[.slice [] (.chain H.length)])++List.replicate n .nils))++[Blk.chain 0 1]).length=H.length+1:=by simp
  rw [e1,Qx6 _ _ (by simpa using hil),List.set_set] at h2;have e2:pre++[ACell.slice [] (.chain H.length)]++chC (H.length+1) (List.replicate n [])=pre++chC H.length (List.replicate (n+1) []):=by
   rw [List.replicate_succ,Zv]; rfl
  have e3: ∀X:List Blk,X++[Blk.chain 0 1]++chB (List.replicate n [])=X++chB (List.replicate (n+1) []):=fun X=>by
   rw [List.replicate_succ,Zv]; rfl
  rw [e2,e3] at h2;exact h1.trans h2
section
variable {P:Program} {rd:Option Nat} {h:Nat} {Q:Exit->St->Prop} {c:Code} {tm:List AVal} {H:List Blk}
def AWp.boxData (t j b:Nat) (f:List (List (List Tree))) {len cap:Nat} (ht:tm[t]? =some (.c (.ref j 1 0 len cap))) (hj:H[j]? =some (.box (chC b f))) (hl:f.length=len) (hc:len≤cap)
  (hw:AWp P rd h c Q ⟨tm.set t (.c (.slice (f.map fun r=>[.slice r]) .none)),H.set j (.ro (f.map Tree.slice))⟩):AWp P rd h c Q ⟨tm,H⟩:=
 AWp.freezeR t j 1 len cap ht hj (B2F b f) (f.map fun r=>[.slice r]) (by rw [XW,hl]) hc (fun r hr=>by obtain ⟨x,_,rfl⟩:=QY.1 hr; rfl) (fun i r m x h1 h2=>by
  rw [QQ] at h1;cases hx:f[i]? with
  | none=>rw [hx] at h1; simp at h1
  | some y=>
   rw [hx] at h1;simp at h1;subst h1;cases m with
   | zero=>simp at h2; subst h2; rw [Wj,Nat.add_zero,QQ,hx]; rfl
   | succ m=>simp at h2) hw
def AWp.vecData (t j b:Nat) (f:List (List (List Tree))) {len cap n:Nat} (ht:tm[t]? =some (.c (.vec j len cap))) (hj:H[j]? =some (.box (chC b f++List.replicate n .any))) (h0:0<len) (hc:len≤cap) (hl:f.length=len) (hh:h≤j)
  (hw:AWp P rd h c Q ⟨tm.set t (.c (.slice (f.map fun r=>[.slice r]) .none)),H.set j (.ro (f.map Tree.slice))⟩):AWp P rd h c Q ⟨tm,H⟩:=by
 have htl:t<tm.length:=(Qx.1 ht).1;have hjl:j<H.length:=(Qx.1 hj).1;refine AWp.weak (Weak.vecRef t j len cap ht hj h0 hc hh) ?_;refine AWp.boxData (len:=len) (cap:=len) t j b f (by rw [QX htl]) (by rw [QX hjl]) hl (Qk _) ?_;rw [List.set_set,List.set_set];exact hw
end
section
variable {P:Program} {rd:Option Nat} {o:Oper} {ρ:Operand->AVal} {H:List Blk}
end
section
open Go.RowKit Go.Sort
open Go.Proofs (ltOf)
section
variable {α:Type} [Inhabited α] (cell:α->Tree)
end
end
structure ACallN (P:Program) (f:FuncId) (args:List TVal) (k:Nat) (rows:List (List Tree)):Prop where
 enters: ∀args w,(callFunc f args).run P w= .ok (.enter f args) w
 runs: ∀(S:Nat->Nat->Prop) (w:World) (vs:List Value),vs.length=args.length->(∀(j:Nat) x u,args[j]? =some x->vs[j]? =some u->TVRel S w x u)->
  Calls P f vs.toArray w fun e w'=> ∃b cap,e= .returned (.slice (some ⟨b,0,none⟩) rows.length cap)∧rows.length≤cap∧w.heap.size≤b∧(∃arr e fz,w'.heap[b]? =some (.cells arr e fz))∧
   (∀(j:Nat) c,(flatRows rows)[j]? =some c->w'.frozen? ⟨b,j,none⟩=false∧ ∃v,w'.cell? ⟨b,j,none⟩=some v∧ ∀ι σ H,CRel ι σ w' H c v)∧Below w.heap.size w w'∧w.drawn≤w'.drawn
def ACallN.h {P:Program} {f:FuncId} {ts:List TVal} {k:Nat} {rows:List (List Tree)} (h:ACallN P f ts k rows) {H:List Blk} {args:List AVal} (ha:args.mapM (toT A0a)=some ts):
  ACallH P f H args (H++[.box (flatRows rows)]) (.c (.ref H.length k 0 rows.length rows.length)):=by
 refine ⟨h.enters,fun ι σ w vs hH hl hv=> ?_⟩;obtain ⟨e1,e2⟩:=A08 ha;refine (h.runs (Stab σ) w vs (by omega) (fun j x u h1 h2=> ?_)).mono ?_
 ·have hlt:j<args.length:=by have:=(Qx.1 h1).1; omega
  have hc:=Qq hlt;exact A4E (fun c t v h3 h4=>A0y h3 h4) (hv j _ u hc h2) (e2 j _ x hc h1)
 ·rintro e w' ⟨b,cap,rfl,hcap,hbn,hform,hcells,hb,hd⟩;have hs: ∀b' o,b'<w.heap.size->(fun b' o=>if b'<w.heap.size then σ b' o else if b'=b then Own.mine H.length else .stable) b' o=σ b' o:=fun b' o h=>by simp [h]
  have hw: ∀b,b<w.heap.size->w'.heap[b]? =w.heap[b]? :=fun b h=>hb.block b h;have M:=Mono.grow (ι:=ι) (H:=H) hw hs [b] [.box (flatRows rows)]
  have hH':=hH.grow hw hs ⟨hb.os,hb.tape,hb.output,hb.size,hd⟩ [b] [.box (flatRows rows)] rfl (fun j blk b' h1 h2=>by
   cases j with
   | succ j=>simp at h1
   | zero=>
    simp at h1 h2;subst h1; subst h2;refine ⟨hform,fun j c hj=> ?_⟩;obtain ⟨q1,v,q2,q3⟩:=hcells j c hj
    exact ⟨by simp [Qx0.2 hbn],q1,v,q2,q3 _ _ _⟩)
  exact ⟨_,_,_,rfl,⟨b,by simp [<-hH.1],cap,hcap,rfl⟩,hH',M,Ext.grow hb.os hb.tape hb.output hb.size hw hs hd⟩
def C6v (fn:Func) (rows:List (List Tree)):Exit->St->Prop:=fun e st=>(match e with | .normal | .ret=>True | _=>False)∧
 ∃t i,fn.results= #[.tmp t]∧st.tmps[t]? =some (.c (.slice rows (.chain i)))
def ACallN.of_body {f:FuncId} (hf:P.funcs[f]? =some fn) (hb:fn.body=some c) (hn:B1q fn.name=true) {args:List TVal} {k:Nat} {rows:List (List Tree)}
  (hk: ∀r,r∈rows->r.length=k) (h0:0<k) (hne:rows≠[]) (hflat: ∀r,r∈rows->A1b r=true)
  (hw:AWp P none 0 c (C6v fn rows) ⟨entry fn (args.map ofT),[]⟩):ACallN P f args k rows:=by
 refine ⟨enters_of hf hb hn,fun S w vs hl hv=> ?_⟩;refine callsIn_wide.1 (callsIn_of_wp_marks (F:=Fence.wide) (n:=9) hf hb trivial ?_)
 classical
 let σ0:Sig:=fun b o=>if S b o then .stable else .foreign
 have hst: ∀b o,S b o->σ0 b o= .stable:=fun b o h=>by simp [σ0,h]
 have hmine: ∀b o id,σ0 b o≠ .mine id:=fun b o id=>by simp only [σ0]; split<;>simp
 have hrel:SRel [] σ0 ⟨entry fn (args.map ofT),[]⟩ { tmps:=vs.toArray++Array.replicate (fn.ntmps-vs.toArray.size) undef,defers:=[] } w:=by
  refine ⟨A3d (by simp [hl]) (fun j x u h1 h2=> ?_),rfl,by simp⟩;simp only [QQ] at h1;cases hc:args[j]? with
  | none=>simp [hc] at h1
  | some y=>simp [hc] at h1; subst h1; exact A3b ((hv j y u hc h2).mono fun b o u h3 h4=>⟨hst b o h3,h4⟩)
 refine wpIn_mono (hw.out w.heap.size [] σ0 _ w hrel (fun l h=>by cases h) (Qk _) (MarksOK.nil ..)) ?_;rintro e a' w' ⟨ι',σ',st',⟨he,t,i,hres,htm⟩,h1,h2,h3,Ds,h4,h5,h6⟩
 have fin:LeavesInM (Fr none) 9 P fn a'.tmps (fun e w'=> ∃b cap,e= .returned (.slice (some ⟨b,0,none⟩) rows.length cap)∧rows.length≤cap∧w.heap.size≤b∧(∃arr e fz,w'.heap[b]? =some (.cells arr e fz))∧
   (∀(j:Nat) c,(flatRows rows)[j]? =some c->w'.frozen? ⟨b,j,none⟩=false∧ ∃v,w'.cell? ⟨b,j,none⟩=some v∧ ∀ι σ H,CRel ι σ w' H c v)∧Below w.heap.size w w'∧w.drawn≤w'.drawn) a'.defers .returning w':=by
  rw [h4];refine A1C (N:=w.heap.size) Ds w' h5 (fun D hD=>let ⟨q1,q2,q3,_⟩:=h6 D hD; ⟨q1,q2,q3⟩) ?_;intro w2 hb2 hc2 hx2 hd2 hdr2;have hr:=A0J h1.tmps (.tmp t);have hae:aeval st'.tmps (.tmp t)= .c (.slice rows (.chain i)):=by
   simp only [aeval,Qz,htm]; rfl
  rw [hae] at hr;obtain ⟨hT,tip,kk,hch,htip,hmk,_⟩:=hr;have hlen:0<rows.length:=Wy.2 hne;have hev:a'.eval (.tmp t)=a'.tmps.getD t undef:=rfl;generalize hval:a'.eval (.tmp t)=v at hT hmk;cases hT with
  | nil a c=>exact absurd rfl hne
  | slice b off k0 cp _ cell hnc hk0 hcl hrr=>
   have hkk:k0=k:=by
    have hm:rows[0]∈rows:=Xw hlen;rw [<-hk0 _ hm]; exact hk _ hm
   subst hkk;obtain ⟨hoff,arr,e',o,ha,ho,hmo⟩:=hmk (by omega);simp only at hoff ha hmo;subst hoff;have hnew:w.heap.size≤b:=by
    rcases Vz b w.heap.size with hlt | hge
    ·exact absurd hmo ((h2.obj b hlt (fun o id=>hmine b o id)).2 o i)
    ·exact hge
   have hform:w2.heap[b]? =some (.cells arr e' (0,0)):=hx2 b _ ha (by intro c; simp);refine ⟨.slice (some ⟨b,0,none⟩) rows.length cp,?_,b,cp,rfl,hnc,hnew,⟨arr,e',(0,0),hform⟩,fun j c hj=> ?_,?_,by rw [hdr2]; exact h2.drawn⟩
   ·have e:results fn a'.tmps=(do let vs <-fn.results.mapM (A3Q a'.tmps); pure (if h:vs.size=1 then vs[0] else .tuple vs)):=by
     unfold results;congr 1
    rw [e,hres,Sem.run_bind,Qj1];simp [A3Q,<-hev,hval]
   ·simp only [flatRows,QQ] at hj;cases hx:rows.flatten[j]? with
    | none=>rw [hx] at hj; simp at hj
    | some tr=>
     rw [hx] at hj; simp at hj; subst hj;obtain ⟨i',j',r,rfl,hri,hrj⟩:=A2r hk0 hx;obtain ⟨_,s2⟩:=hcl i' r j' tr hri hrj;have s3:=hrr i' r j' tr hri hrj;rw [XX] at s2;have hfl:=A1o (hflat r (Qv hri)) tr (Qv hrj);exact ⟨by unfold World.frozen?; rw [hform]; simp,_,by rw [hc2]; exact s2,fun ι σ H=>A0C (TRel.of_flat hfl s3)⟩
   ·exact Below.trans ⟨h2.os,h2.tape,h2.output,h2.size,fun b hb=>(h2.obj b hb (fun o id=>hmine b o id)).1⟩ hb2
 cases e with
 | normal=>exact fin
 | ret=>exact fin
 | exit id=>exact he.elim
 | goto l=>exact he.elim
 | panic ch=>exact he.elim
 | outgrown=>exact he.elim
structure ACallB (P:Program) (f:FuncId) (args:List TVal) (rows:List (List Tree)):Prop where
 enters: ∀args w,(callFunc f args).run P w= .ok (.enter f args) w
 runs: ∀(S:Nat->Nat->Prop) (w:World) (vs:List Value),vs.length=args.length->(∀(j:Nat) x u,args[j]? =some x->vs[j]? =some u->TVRel S w x u)->
  Calls P f vs.toArray w fun e w'=> ∃b cap,e= .returned (.slice (some ⟨b,0,none⟩) rows.length cap)∧rows.length≤cap∧(flatRows rows≠[]->w.heap.size≤b)∧(∃arr e fz,w'.heap[b]? =some (.cells arr e fz))∧
   (∀(j:Nat) c,(flatRows rows)[j]? =some c->w'.frozen? ⟨b,j,none⟩=false∧ ∃v,w'.cell? ⟨b,j,none⟩=some v∧ ∀ι σ H,CRel ι σ w' H c v)∧Below w.heap.size w w'∧w.drawn≤w'.drawn
