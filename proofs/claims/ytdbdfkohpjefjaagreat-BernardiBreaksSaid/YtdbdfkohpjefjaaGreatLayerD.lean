/- Our layer over the machine: values of a running function as plain data, and the rules by which they step; part 4. -/
import Derived.Test.YtdbdfkohpjefjaaGreatLayerC
import Derived.Shelf.SlSortCmp.NoneTotal
import Derived.WideLaws
import Derived.Test.YtdbdfkohpjefjaaGreatSpOpen
set_option linter.all false
namespace Go.Sp
open Go.RowKit
structure ACallE (P:Program) (f:FuncId) (H:List Blk) (args:List AVal) (R:List Blk->AVal->Prop):Prop where
 enters: ∀args w,(callFunc f args).run P w= .ok (.enter f args) w
 runs: ∀ι σ (w:World) (vs:List Value),HRel ι σ w H->vs.length=args.length->(∀(j:Nat) x u,args[j]? =some x->vs[j]? =some u->VRel ι σ w H x u)->
  Calls P f vs.toArray w fun e w'=> ∃v ι' σ' H' r,R H' r∧e= .returned v∧VRel ι' σ' w' H' r v∧HRel ι' σ' w' H'∧Mono ι σ w H ι' σ' w' H'∧Ext σ w σ' w'
def C4D (P:Program) (fn:Func) (R:List Blk->AVal->Prop):Exit->St->Prop:=fun e st=>(match e with | .normal | .ret=>True | _=>False)∧ ∃r,R st.heap r∧A2f P fn.results.toList st=some r
variable {P:Program} {f:FuncId} {H:List Blk} {args:List AVal}
def ACallE.mono {R R':List Blk->AVal->Prop} (h:ACallE P f H args R) (hR: ∀H' r,R H' r->R' H' r):ACallE P f H args R':=
 ⟨h.enters,fun ι σ w vs h1 h2 h3=>(h.runs ι σ w vs h1 h2 h3).mono fun _ _ ⟨v,ι',σ',H',r,q,rest⟩=>⟨v,ι',σ',H',r,hR _ _ q,rest⟩⟩
def ACallE.of_body {fn:Func} {c:Code} (hf:P.funcs[f]? =some fn) (hb:fn.body=some c) (hn:B1q fn.name=true) {H:List Blk} {args:List AVal} {R:List Blk->AVal->Prop}
  (hw:AWp P none H.length c (C4D P fn R) ⟨entry fn args,H⟩):ACallE P f H args R:=by
 refine ⟨enters_of hf hb hn,fun ι σ w vs hH hl hv=> ?_⟩;refine callsIn_wide.1 (callsIn_of_wp_marks (F:=Fence.wide) (n:=9) hf hb trivial ?_);have hrel:SRel ι σ ⟨entry fn args,H⟩ { tmps:=vs.toArray++Array.replicate (fn.ntmps-vs.toArray.size) undef,defers:=[] } w:=⟨A3d hl hv,hH⟩;refine wpIn_mono (hw.out w.heap.size ι σ _ w hrel (fun l h=>by cases h) (Qk _) (MarksOK.nil ..)) ?_;rintro e a' w' ⟨ι',σ',st',⟨he,r,hR,hres⟩,h1,h2,h3,Ds,h4,h5,h6⟩;rw [Zw (Qw0 hH.1),Zw (Qk _)] at h3;have fin:LeavesInM (Fr none) 9 P fn a'.tmps (fun e w'=> ∃v ι' σ' H' r,R H' r∧e= .returned v∧VRel ι' σ' w' H' r v∧HRel ι' σ' w' H'∧Mono ι σ w H ι' σ' w' H'∧Ext σ w σ' w') a'.defers .returning w':=by
  rw [h4];refine A1C (N:=w.heap.size) Ds w' h5 (fun D hD=>let ⟨q1,q2,q3,_⟩:=h6 D hD; ⟨q1,q2,q3⟩) ?_;intro w2 hb2 hc2 hx2 hd2 hdr2
  have S2:=h1.cells (w':=w2) hc2 (fun b ob h h' _=>hx2 b ob h h') (fun g=>⟨hb2.os,hb2.tape,hb2.output,hb2.size,fun b o u h h'=>⟨h,by rw [hc2]; exact h'⟩,fun b hbl _ hgb=>⟨hd2 b (fun hD=>by
   have h7:=(h6 b hD).2.2.2 0
   rcases hgb 0 with h8 | h8<;>(rw [h7] at h8; cases h8)),fun _=>rfl⟩,Qw0 hdr2.symm⟩)
  obtain ⟨v,r1,r2⟩:=B0o S2 hres;have hfz: ∀b o u,w'.cell? ⟨b,o,none⟩=some u->w2.frozen? ⟨b,o,none⟩=w'.frozen? ⟨b,o,none⟩:=fun b o u hu=>by
   unfold World.cell? at hu;cases hb':w'.heap[b]? with
   | none=>simp [hb'] at hu
   | some x=>
    cases x with
    | cells arr e fz=>unfold World.frozen?; simp only [hb',hx2 b _ hb' (by intro c; simp)]
    | _=>simp [hb'] at hu
  have M:Mono ι' σ' w' st'.heap ι' σ' w2 st'.heap:=⟨fun b o u q1 q2=>⟨q1,by rw [hc2]; exact q2⟩,fun _ _ h=>h,fun id tip k h=>⟨tip,k,h,MarkUp.of fun b o q1 q2 ⟨arr,e,q3⟩=>⟨q2,(hx2 b _ q3 (by intro c; simp)).trans q3.symm⟩,.inr ⟨rfl,rfl,fun b o u q1 q2=>⟨q1,⟨u,by rw [hc2]; exact q2⟩,fun q3=>by rw [hfz b o u q2]; exact q3⟩⟩⟩⟩;have Mt:=h3.trans M;refine ⟨v,r1,v,ι',σ',st'.heap,r,hR,rfl,r2,S2.heap,Mt,?_⟩;refine ⟨hb2.os.trans h2.os,hb2.tape.trans h2.tape,hb2.output.trans h2.output,Yw h2.size hb2.size,fun b o v q1 q2=> ?_,fun b hbl q=> ?_,h2.back,by rw [hdr2]; exact h2.drawn⟩
  ·obtain ⟨s1,s2⟩:=h2.keep b o v q1 q2;exact ⟨s1,by rw [hc2]; exact s2⟩
  ·obtain ⟨s1,s2⟩:=h2.obj b hbl q;exact ⟨(hb2.block b hbl).trans s1,s2⟩
 cases e with
 | normal=>exact fin
 | ret=>exact fin
 | exit id=>exact he.elim
 | goto l=>exact he.elim
 | panic ch=>exact he.elim
 | outgrown=>exact he.elim
def B2G (P:Program) (rd:Option Nat) (o:Oper) (ρ:Operand->AVal) (H:List Blk) (R:AVal->List Blk->Prop):Prop:=
 ∀ι σ (a:Act) w,(∀x,x∈o.op.operands->VRel ι σ w H (ρ x) (a.eval x))->HRel ι σ w H->RdOK rd σ w-> ∀next Q,
  (∀rv H' v w' ι' σ',R rv H'->VRel ι' σ' w' H' rv v->HRel ι' σ' w' H'->Mono ι σ w H ι' σ' w' H'->Ext σ w σ' w'->next (a.put o.dst v) w')->
  o.wpIn (Fr rd) 9 P a w next Q
variable {i j:Nat} {W:Nat->Bool} {tm tmA:List AVal}
section
variable {P:Program} {rd:Option Nat} {h:Nat} {Q:Exit->St->Prop} {all:Array Oper} {tm:List AVal} {H:List Blk} {o:Oper} {ρ:Operand->AVal}
def AStep.n {rv:AVal} {H':List Blk} (hs:AStep P rd o ρ H rv H'):B2G P rd o ρ H (fun r1 H1=>r1=rv∧H1=H'):=fun ι σ a w h1 h2 h3 next Q hn=>
 hs ι σ a w h1 h2 h3 next Q fun v w' ι' σ'=>hn rv H' v w' ι' σ' ⟨rfl,rfl⟩
def A7p {fo:Operand} {xs:Array Operand} {ts:Array TypeId} (ho:o.op= .call { callee:= .value fo,args:=xs,argTypes:=ts }) {f:FuncId} {caps:List ACap} (hf:ρ fo= .c (.fn f caps)) {R:List Blk->AVal->Prop}
  (hc:ACallE P f H (xs.toList.map ρ++caps.map A4F) R):B2G P rd o ρ H (fun r H'=>R H' r):=by
 intro ι σ a w hx hH _ next Q hn;have hfv:=hx fo (by simp [Op.operands,Call.operands,ho]);rw [hf] at hfv;obtain ⟨vs,e,hl,hv⟩:=hfv;refine ⟨fun _ _=>trivial,?_⟩;rw [Oper.semAt_eq _ _ _ (by simp [ho])];have hrun:(execOp a.eval o).run P w= .ok (.enter f (xs.map a.eval++vs.toArray)) w:=by
  simp [execOp,ho,resolve,e,Deferred.ofValue,invoke,hc.enters]
 rw [hrun];refine ⟨fun h=>by simp [Fr] at h,?_⟩;have hcl:Calls P f (xs.map a.eval++vs.toArray) w fun e w'=> ∃v ι' σ' H' r,R H' r∧e= .returned v∧VRel ι' σ' w' H' r v∧HRel ι' σ' w' H'∧Mono ι σ w H ι' σ' w' H'∧Ext σ w σ' w':=by
  have:=hc.runs ι σ w (xs.toList.map a.eval++vs) hH (by simp [hl]) (fun j x u h1 h2=>by
   by_cases hj:j<xs.size
   ·rw [Qw (by simpa using hj)] at h1 h2;simp only [QQ] at h1 h2;have hq:=QZ hj;rw [<-WY] at hq;rw [hq] at h1 h2;simp at h1 h2;subst h1; subst h2;refine hx _ ?_;simp [Op.operands,Call.operands,ho]
   ·rw [QW (by simp; omega)] at h1 h2;simp only [QQ,XW,Array.length_toList] at h1 h2;cases hc:caps[j-xs.size]? with
    | none=>simp [hc] at h1
    | some c=>simp [hc] at h1; subst h1; exact B0g (hv _ c u hc h2))
  rw [show (xs.toList.map a.eval++vs).toArray=xs.map a.eval++vs.toArray by apply JW; simp] at this;exact this
 have hc2:CallsIn (Fr rd) (9-1) P f (xs.map a.eval++vs.toArray) w _:=(callsIn_wide (n:=9-1)).2 hcl;refine hc2.mono ?_;rintro e w' ⟨v,ι',σ',H',r,hR,rfl,q1,q2,q3,q4⟩;exact hn r H' v w' ι' σ' hR q1 q2 q3 q4
structure ADr (P:Program) (rd:Option Nat) (h:Nat) (all:Array Oper) (k:Nat) (Q:Exit->St->Prop) (tm:List AVal) (H:List Blk):Prop where
 out: ∀s X,(∀j,j∈X↔j<k)->Sched all X s->Down all X->(∀i,i<all.size->i∈X∨i∈s)-> ∀N ι0 σ0 w0 H0 ι σ a w,SRel ι σ ⟨tm,H⟩ a w->RdOK rd σ w->MarksOK N a.defers σ w->Ext σ0 w0 σ w->
  Mono (ι0.take h) σ0 w0 (H0.take h) ι σ w H->wpOpsIn (Fr rd) 9 P all (APost N h ι0 σ0 w0 H0 Q) s a w
def B8K (ops:Array Oper):Bool:=A2i .any ops (A42 .any ops)&&A2i .text ops (A42 .text ops)&&A2i .gc ops (A42 .gc ops)
def AWp.of_adr {id:Nat} (hd:B8K all=true) (hr:ADr P rd h all 0 Q tm H):AWp P rd h (.region id all true) Q ⟨tm,H⟩:=by
 refine ⟨fun N ι σ a w h1 h2 h3 h4=> ?_⟩;simp only [B8K,XV] at hd;obtain ⟨⟨g1,g2⟩,g3⟩:=hd;refine wpIn_region_draw fun t=> ?_;obtain ⟨c1,c2⟩:=A8j g1 g2 g3 (P.follows .mixedOrders) t;have hw:Mono ι σ w H ι σ { w with drawn:=w.drawn+1 } H:=⟨fun _ _ _ h h'=>⟨h,h'⟩,fun _ _ h=>h,fun _ tip k h=>⟨tip,k,h,MarkUp.refl _ _ _,.inr ⟨rfl,rfl,fun _ _ u h h'=>⟨h,⟨u,h'⟩,fun hf=>hf⟩⟩⟩⟩;have hE:Ext σ w σ { w with drawn:=w.drawn+1 }:=⟨rfl,rfl,rfl,Qk _,fun _ _ _ h h'=>⟨h,h'⟩,fun _ _ h=>⟨rfl,h⟩,fun _ _ _ h=>h,VV _⟩;have hH:HRel ι σ { w with drawn:=w.drawn+1 } H:=by
  have:=(SRel.cells (w':={ w with drawn:=w.drawn+1 }) h1 (fun _=>rfl) (fun _ _ h _ _=>h) (fun g=>⟨rfl,rfl,rfl,Qk _,fun _ _ _ h h'=>⟨h,h'⟩,fun _ _ _ _=>⟨rfl,fun _=>rfl⟩,VV _⟩)).heap;exact this
 exact hr.out _ [] (fun j=>by simp) c1 (fun j o hj=>by cases hj) (fun i hi=> .inr (c2 i hi)) N ι σ w H ι σ a _ ⟨h1.tmps.mono hw,hH⟩ (h2.ext hE) (h4.ext hE) hE (hw.take h)
def ADr.done {k:Nat} (hk:all.size≤k) (hq:Q .normal ⟨tm,H⟩):ADr P rd h all k Q tm H:=by
 refine ⟨fun s X hX hs hD hcov N ι0 σ0 w0 H0 ι σ a w h1 h2 h3 h4 h5=> ?_⟩;cases hs with
 | nil=>exact ⟨ι,σ,⟨tm,H⟩,hq,h1,h4,h5,h3⟩
 | cons ho hi _ _=>
  have hin:=(Xz.1 ho).1;exact absurd ((hX _).2 (by omega)) hi
def bef (all:Array Oper) (j i:Nat):Bool:=((A1L all.toList []).getD j 0).testBit i
def B8L {y:Oper} (hb:bef all j i=true) (hy:all[j]? =some y) {X:List Nat} (hX:Down all X) (he: ∀e,e∈y.after->Region.binds .any e=true->e.on∈X):i∈X:=by
 have hacc:B84 all (A1L all.toList []):=A8M all all.toList [] [] (by simp) rfl (by intro j m hj; simp at hj);unfold bef at hb;cases hg:(A1L all.toList [])[j]? with
 | none=>simp [List.getD,hg] at hb
 | some m=>
  simp [List.getD,hg] at hb;exact hacc j m hg X hX (fun o ho e h2 h3=>by rw [hy] at ho; cases ho; exact he e h2 h3) i hb
def cutAt (all:Array Oper) (k:Nat):Bool:=(List.range all.size).all fun j=> !decide (k<j)||bef all j k
def A3V {X:List Nat} (hD:Down all X) (ho:all[i]? =some o) (hd: ∀e,e∈o.after->Region.binds .any e=true->e.on∈X):Down all (i::X):=by
 intro j o' hj hoj e he hb;rcases QV.1 hj with rfl | hj
 ·rw [ho] at hoj; cases hoj; exact YY _ (hd e he hb)
 ·exact YY _ (hD j o' hj hoj e he hb)
def A5z {X s:List Nat} (hcov: ∀j,j<all.size->j∈X∨j∈i::s): ∀j,j<all.size->j∈i::X∨j∈s:=fun j hj=>by
 rcases hcov j hj with h | h
 ·exact .inl (YY _ h)
 ·rcases QV.1 h with rfl | h
  ·exact .inl (by simp)
  ·exact .inr h
def OpN (P:Program) (rd:Option Nat) (all:Array Oper) (tm:List AVal) (H:List Blk) (o:Oper) (R:AVal->List Blk->Prop):Prop:=
 (gwant all tm o=some true∧B2G P rd o (aeval tm) H R)∨(gwant all tm o=some false∧R (.tup []) H)
def ADr.one {k:Nat} (hc:cutAt all k=true) (ho:all[k]? =some o) {R:AVal->List Blk->Prop} (hs:OpN P rd all tm H o R) (hK: ∀r H',R r H'->ADr P rd h all (k+1) Q (A1a tm o.dst r) H'):
  ADr P rd h all k Q tm H:=by
 refine ⟨fun s X hX hs' hD hcov N ι0 σ0 w0 H0 ι σ a w h1 h2 h3 h4 h5=> ?_⟩;have hkl:=(Xz.1 ho).1;have hkX: ¬k∈X:=fun h=>by have:=(hX k).1 h; omega
 cases hs' with
 | nil=>rcases hcov k hkl with h | h; exact absurd h hkX; cases h
 | cons hoi hi hd hs''=>
  rename_i s i o';have hik:i=k:=by
   have hil:=(Xz.1 hoi).1;have h6: ¬i<k:=fun h=>hi ((hX i).2 h);rcases Vz k i with h7 | h7
   ·have hb:bef all i k=true:=by
     have:=ZX.1 hc i (Xk.2 hil);simpa [h7] using this
    exact absurd (B8L hb hoi hD hd) hkX
   ·omega
  subst hik;rw [ho] at hoi;cases hoi;have hX': ∀j,j∈i::X↔j<i+1:=fun j=>by rw [QV,hX]; omega
  unfold wpOpsIn;simp only [ho];rcases hs with ⟨hg,hs⟩ | ⟨hg,hR⟩
  ·rw [if_pos (A07 h1.tmps hg)];refine hs ι σ a w (fun x _=>A0J h1.tmps x) h1.heap h2 _ _ fun rv H' v w' ι' σ' hR q1 q2 q3 q4=> ?_;exact (hK rv H' hR).out s (i::X) hX' hs'' (A3V hD ho hd) (A5z hcov) N ι0 σ0 w0 H0 ι' σ' _ _ ⟨A0K (h1.tmps.mono q3) q1,q2⟩ (h2.ext q4) (by rw [Act.put_defers]; exact h3.ext q4) (h4.trans q4) (h5.take2 (q3.take h))
  ·rw [if_neg (by rw [A07 h1.tmps hg]; simp)];refine ⟨fun _ _=>trivial,?_⟩;exact (hK _ _ hR).out s (i::X) hX' hs'' (A3V hD ho hd) (A5z hcov) N ι0 σ0 w0 H0 ι σ _ _ ⟨A0K h1.tmps A25,h1.heap⟩ h2 (by rw [Act.put_defers]; exact h3) h4 h5
def B2l (W:Nat->Bool) (tm tmA:List AVal):List AVal:=(List.range tm.length).map fun t=>if W t then tmA.getD t (.c .any) else tm.getD t (.c .any)
def B12:(B2l W tm tmA).length=tm.length:=by simp [B2l]
def A50 {t:Nat} (h:t<tm.length):(B2l W tm tmA)[t]? =some (if W t then tmA.getD t (.c .any) else tm.getD t (.c .any)):=by simp [B2l,h]
def A4S {t:Nat} (h: ¬t<tm.length):(B2l W tm tmA)[t]? =none:=Xq (by rw [B12]; omega)
def B8M {W W':Nat->Bool} {tm tmS tmS':List AVal} {d:Option Tmp} {v:AVal} (hW: ∀t,W' t=(W t||(d==some t))) (h1: ∀t,d=some t->t<tm.length->tmS'[t]? =some v)
  (h2: ∀t,d≠some t->W t=true->tmS'[t]? =tmS[t]?):A1a (B2l W tm tmS) d v=B2l W' tm tmS':=by
 apply Zq;intro t;by_cases ht:t<tm.length
 ·rw [A50 ht,hW];by_cases e:d=some t
  ·subst e;rw [A5S (by rw [B12]; exact ht),if_pos (by simp),Qz,h1 t rfl ht]; rfl
  ·rw [A3H e,A50 ht];have e':(d==some t)=false:=by simpa using e
   rw [e',Qw8];by_cases hw:W t=true
   ·rw [if_pos hw,if_pos hw,Qz,Qz,h2 t e hw]
   ·rw [if_neg hw,if_neg hw]
 ·rw [A4S ht,Xq (by rw [A1r,B12]; omega)]
def readsOf (all:Array Oper) (o:Oper):List Tmp:=o.op.operands.toList.flatMap C1W++C1X all o
def C2m (all:Array Oper) (k m p:Nat):Bool:=
 decide (k≤p)&&decide (p<m)&&decide (m≤all.size)&&all.toList.zipIdx.all fun (x,i)=> !(decide (k≤i)&&decide (i<m))||
  (decide (i=p)||x.dst.isSome)&&
  all.toList.zipIdx.all fun (y,j)=>(!decide (m≤j)||bef all j i)&&(!(decide (k≤j)&&decide (j<m))||
   ((decide (j=i)|| !(x.dst.toList.any fun t=>y.dst==some t))&&
    (!(x.dst.toList.any fun t=>(readsOf all y).contains t)||(decide (i<j)&&bef all j i&& !decide (i=p)))))
structure SegOk (all:Array Oper) (k m p:Nat):Prop where
 kp:k≤p
 pm:p<m
 ms:m≤all.size
 dst: ∀(i:Nat) x,all[i]? =some x->k≤i->i<m->i≠p-> ∃t,x.dst=some t
 cut: ∀(i j:Nat) x y,all[i]? =some x->all[j]? =some y->k≤i->i<m->m≤j->bef all j i=true
 ne: ∀(i j:Nat) x y t,all[i]? =some x->all[j]? =some y->k≤i->i<m->k≤j->j<m->i≠j->x.dst=some t->y.dst≠some t
 rd: ∀(i j:Nat) x y t,all[i]? =some x->all[j]? =some y->k≤i->i<m->k≤j->j<m->x.dst=some t->t∈readsOf all y->i<j∧bef all j i=true∧i≠p
def B0p {k m p:Nat} (hs:C2m all k m p=true):SegOk all k m p:=by
 unfold C2m at hs;simp only [XV,decide_eq_true_eq] at hs;obtain ⟨⟨⟨h1,h2⟩,h3⟩,h4⟩:=hs;have mem: ∀(k:Nat) z,all[k]? =some z->(z,k)∈all.toList.zipIdx:=fun k z hz=>by
  rw [Zj];refine ⟨k,?_⟩;rw [Qj3];simp [hz]
 have row: ∀(i:Nat) x,all[i]? =some x->k≤i->i<m->_:=fun i x hx ha hb=>by
  have:=ZX.1 h4 (x,i) (mem i x hx);simp only [ha,hb,decide_true,Bool.and_true,Qq4,Qq7,XV] at this;exact this
 have cell: ∀(i j:Nat) x y,all[i]? =some x->all[j]? =some y->k≤i->i<m->_:=fun i j x y hx hy ha hb=>by
  have:=ZX.1 (row i x hx ha hb).2 (y,j) (mem j y hy);simp only [XV] at this;exact this
 refine ⟨h1,h2,h3,fun i x hx ha hb hne=> ?_,fun i j x y hx hy ha hb hj=> ?_,fun i j x y t hx hy ha hb hc hd hne hxt hyt=> ?_,fun i j x y t hx hy ha hb hc hd hxt hyt=> ?_⟩
 ·have:=(row i x hx ha hb).1;simp only [hne,decide_false,Qq7] at this;exact Option.isSome_iff_exists.1 this
 ·have:=(cell i j x y hx hy ha hb).1;simpa [hj] using this
 ·have:=(cell i j x y hx hy ha hb).2;simp only [hc,hd,decide_true,Bool.and_true,Qq4,Qq7,XV,YV,decide_eq_true_eq] at this;have h5:=this.1;rcases h5 with h5 | h5
  ·exact hne h5.symm
  ·rw [hxt,hyt] at h5; simp at h5
 ·have:=(cell i j x y hx hy ha hb).2;simp only [hc,hd,decide_true,Bool.and_true,Qq4,Qq7,XV,YV,decide_eq_true_eq] at this;have h5:=this.2;rcases h5 with h5 | h5
  ·rw [hxt] at h5;simp only [Option.toList_some,List.any_cons,List.any_nil,Qw8,Ww] at h5;rw [<-Qx3] at h5;exact absurd (Qz7.2 hyt) h5
  ·exact ⟨h5.1.1,h5.1.2,by simpa using h5.2⟩
def B13 (P:Program) (rd:Option Nat) (all:Array Oper) (tmA:List AVal) (H:List Blk) (o:Oper):Prop:=
 (gwant all tmA o=some true∧ ∀d,o.dst=some d->AStep P rd o (aeval tmA) H (tmA.getD d (.c .any)) H)∨(gwant all tmA o=some false∧ ∀d,o.dst=some d->tmA.getD d (.c .any)= .tup [])
def wrote (all:Array Oper) (k:Nat) (X:List Nat) (t:Nat):Bool:=X.any fun i=>decide (k≤i)&&(A0P all i==some t)
def A4T {k:Nat} {X:List Nat} {t:Nat}:wrote all k X t=true↔ ∃i,i∈X∧k≤i∧A0P all i=some t:=by
 unfold wrote;rw [List.any_eq_true];constructor
 ·rintro ⟨i,h1,h2⟩;simp only [XV,decide_eq_true_eq,beq_iff_eq] at h2;exact ⟨i,h1,h2.1,h2.2⟩
 ·rintro ⟨i,h1,h2,h3⟩;exact ⟨i,h1,by simp [h2,h3]⟩
def ADr.seg {k m p:Nat} (hs:C2m all k m p=true) {op:Oper} (hop:all[p]? =some op) {tmA:List AVal} (hl:tmA.length=tm.length)
  (hA: ∀t,(∀i,k≤i->i<m->i≠p->A0P all i≠some t)->tmA[t]? =tm[t]?) {R:AVal->List Blk->Prop} (hp:OpN P rd all tmA H op R)
  (hq: ∀(i:Nat) x,k≤i->i<m->i≠p->all[i]? =some x->B13 P rd all tmA H x)
  (hq': ∀r H',R r H'-> ∀(i:Nat) x,k≤i->i<m->i≠p->all[i]? =some x->B13 P rd all tmA H' x)
  (hK: ∀r H',R r H'->ADr P rd h all m Q (A1a tmA op.dst r) H'):ADr P rd h all k Q tm H:=by
 have S:=B0p hs;have hdi: ∀(i:Nat) x,all[i]? =some x->A0P all i=x.dst:=fun i x hx=>by simp [A0P,hx]
 suffices key: ∀s (X:List Nat) (tmS:List AVal) (HS:List Blk),Sched all X s->Down all X->(∀i,i<all.size->i∈X∨i∈s)->(∀j,j∈X->j<m)->(∀j,j<k->j∈X)->
   ((p∉X∧tmS=tmA∧HS=H)∨(p∈X∧ ∃r,R r HS∧tmS=A1a tmA op.dst r))->
   ∀N ι0 σ0 w0 H0 ι σ a w,SRel ι σ ⟨B2l (wrote all k X) tm tmS,HS⟩ a w->RdOK rd σ w->MarksOK N a.defers σ w->Ext σ0 w0 σ w->Mono (ι0.take h) σ0 w0 (H0.take h) ι σ w HS->wpOpsIn (Fr rd) 9 P all (APost N h ι0 σ0 w0 H0 Q) s a w by
  refine ⟨fun s X hX hs' hD hcov N ι0 σ0 w0 H0 ι σ a w h1 h2 h3 h4 h5=> ?_⟩;have e:B2l (wrote all k X) tm tmA=tm:=by
   apply Zq;intro t;by_cases ht:t<tm.length
   ·rw [A50 ht,if_neg (fun hw=>by
     obtain ⟨i,q1,q2,_⟩:=A4T.1 hw
     have:=(hX i).1 q1; omega),Qz,Qq ht]; rfl
   ·rw [A4S ht,Xq (by omega)]
  exact key s X tmA H hs' hD hcov (fun j hj=>by have q1:=(hX j).1 hj; have q2:=S.kp; have q3:=S.pm; exact ZW q1 (Nat.le_of_lt (Nat.lt_of_le_of_lt q2 q3))) (fun j hj=>(hX j).2 hj) (.inl ⟨fun hp'=>by have:=(hX p).1 hp'; have:=S.kp; omega,rfl,rfl⟩)
   N ι0 σ0 w0 H0 ι σ a w (by rw [e]; exact h1) h2 h3 h4 h5
 intro s
 induction s with
 | nil=>
  intro X tmS HS hs' hD hcov hm hk hst N ι0 σ0 w0 H0 ι σ a w h1 h2 h3 h4 h5;have hall: ∀i,i<all.size->i∈X:=fun i hi=>by rcases hcov i hi with h | h; exact h; cases h
  rcases hst with ⟨q1,_⟩ | ⟨q1,r,q2,rfl⟩
  ·exact absurd (hall p (by have:=S.pm; have:=S.ms; omega)) q1
  ·have hX: ∀j,j∈X↔j<m:=fun j=>⟨hm j,fun hj=>hall j (by have:=S.ms; omega)⟩;have e:B2l (wrote all k X) tm (A1a tmA op.dst r)=A1a tmA op.dst r:=by
    apply Zq;intro t;by_cases ht:t<tm.length
    ·rw [A50 ht];have ht':t<(A1a tmA op.dst r).length:=by rw [A1r,hl]; exact ht
     by_cases hw:wrote all k X t=true
     ·rw [if_pos hw,Qz,Qq ht']; rfl
     ·rw [if_neg hw];have hn: ∀i,k≤i->i<m->A0P all i≠some t:=fun i q3 q4 q5=>hw (A4T.2 ⟨i,(hX i).2 q4,q3,q5⟩);have hpt:op.dst≠some t:=by rw [<-hdi p op hop]; exact hn p S.kp S.pm
      rw [A3H hpt,hA t (fun i q3 q4 _=>hn i q3 q4),Qz,Qq ht]; rfl
    ·rw [A4S ht,Xq (by rw [A1r,hl]; omega)]
   rw [e] at h1;exact (hK r HS q2).out [] X hX hs' hD hcov N ι0 σ0 w0 H0 ι σ a w h1 h2 h3 h4 h5
 | cons i s ih=>
  intro X tmS HS hs' hD hcov hm hk hst N ι0 σ0 w0 H0 ι σ a w h1 h2 h3 h4 h5;by_cases hfull: ∀j,k≤j->j<m->j∈X
  ·rcases hst with ⟨q1,_⟩ | ⟨q1,r,q2,rfl⟩
   ·exact absurd (hfull p S.kp S.pm) q1
   ·have hX: ∀j,j∈X↔j<m:=fun j=>⟨hm j,fun hj=>by
     rcases Vz j k with h7 | h7
     ·exact hk j h7
     ·exact hfull j h7 hj⟩
    have e:B2l (wrote all k X) tm (A1a tmA op.dst r)=A1a tmA op.dst r:=by
     apply Zq;intro t;by_cases ht:t<tm.length
     ·rw [A50 ht];have ht':t<(A1a tmA op.dst r).length:=by rw [A1r,hl]; exact ht
      by_cases hw:wrote all k X t=true
      ·rw [if_pos hw,Qz,Qq ht']; rfl
      ·rw [if_neg hw];have hn: ∀i,k≤i->i<m->A0P all i≠some t:=fun i q3 q4 q5=>hw (A4T.2 ⟨i,(hX i).2 q4,q3,q5⟩);have hpt:op.dst≠some t:=by rw [<-hdi p op hop]; exact hn p S.kp S.pm
       rw [A3H hpt,hA t (fun i q3 q4 _=>hn i q3 q4),Qz,Qq ht]; rfl
     ·rw [A4S ht,Xq (by rw [A1r,hl]; omega)]
    rw [e] at h1;exact (hK r HS q2).out (i::s) X hX hs' hD hcov N ι0 σ0 w0 H0 ι σ a w h1 h2 h3 h4 h5
  ·cases hs' with
   | cons ho hi hd hs''=>
   rename_i o;have hin:=(Xz.1 ho).1;have hki:k≤i:=by
    rcases Vz i k with h7 | h7
    ·exact absurd (hk i h7) hi
    ·exact h7
   have him:i<m:=by
    rcases Vz i m with h7 | h7
    ·exact h7
    ·exfalso;refine hfull fun j q1 q2=> ?_;have hjl:j<all.size:=by have:=S.ms; omega
     exact B8L (S.cut j i _ o (QZ hjl) ho q1 q2 h7) ho hD hd
   have hm': ∀j,j∈i::X->j<m:=fun j hj=>by
    rcases QV.1 hj with rfl | hj
    ·exact him
    ·exact hm j hj
   have hk': ∀j,j<k->j∈i::X:=fun j hj=>YY _ (hk j hj);have rdEq: ∀t,t∈readsOf all o->(B2l (wrote all k X) tm tmS)[t]? =tmA[t]? :=by
    intro t ht;by_cases htl:t<tm.length
    ·rw [A50 htl];by_cases hw:wrote all k X t=true
     ·rw [if_pos hw];obtain ⟨j,q1,q2,q3⟩:=A4T.1 hw;have hjl:j<all.size:=by have:=hm j q1; have:=S.ms; omega
      have hoj:all[j]? =some all[j]:=QZ hjl;have hjt:all[j].dst=some t:=by rw [<-hdi j _ hoj]; exact q3
      obtain ⟨r1,r2,r3⟩:=S.rd j i _ o t hoj ho q2 (hm j q1) hki him hjt ht;have e:tmS[t]? =tmA[t]? :=by
       rcases hst with ⟨_,rfl,_⟩ | ⟨_,r,_,rfl⟩
       ·rfl
       ·exact A3H (S.ne j p _ op t hoj hop q2 (hm j q1) S.kp S.pm r3 hjt)
      rw [Qz,e,Qq (by rw [hl]; exact htl)]; rfl
     ·rw [if_neg hw]
      rw [hA t (fun j q1 q2 q3 q4=>hw (A4T.2 ⟨j,by
       have hjl:j<all.size:=by have:=S.ms; omega
       have hoj:all[j]? =some all[j]:=QZ hjl;obtain ⟨r1,r2,r3⟩:=S.rd j i _ o t hoj ho q1 q2 hki him (by rw [<-hdi j _ hoj]; exact q4) ht
       exact B8L r2 ho hD hd,q1,q4⟩)),Qz,Qq htl]; rfl
    ·rw [A4S htl]; exact (Xq (by rw [hl]; exact Nat.le_of_not_lt htl)).symm
   have evEq: ∀x,x∈o.op.operands->aeval (B2l (wrote all k X) tm tmS) x=aeval tmA x:=fun x hx=>
    A5T fun t ht=>rdEq t (by
     simp only [readsOf,XZ];left
     exact Jy.2 ⟨x,by simpa using hx,ht⟩)
   have gEq:gwant all (B2l (wrote all k X) tm tmS) o=gwant all tmA o:=
    A5U fun t ht=>rdEq t (by simp only [readsOf,XZ]; right; exact ht)
   have hwr: ∀t,wrote all k (i::X) t=(wrote all k X t||(o.dst==some t)):=fun t=>by
    unfold wrote;rw [List.any_cons,Bool.or_comm];simp only [hki,decide_true,VQ,hdi i o ho]
   unfold wpOpsIn;simp only [ho];by_cases hip:i=p
   ·subst hip;rw [hop] at ho;cases ho;rcases hst with ⟨_,rfl,rfl⟩ | ⟨q1,_⟩
    ·have fin: ∀r,A1a (B2l (wrote all k X) tm tmS) op.dst r=B2l (wrote all k (i::X)) tm (A1a tmS op.dst r):=fun r=>
      B8M hwr (fun t ht hlt=>by rw [ht]; exact A5S (by rw [hl]; exact hlt)) (fun t ht _=>A3H ht)
     rcases hp with ⟨hg,hp⟩ | ⟨hg,hR⟩
     ·rw [if_pos (A07 h1.tmps (gEq.trans hg))];refine hp ι σ a w (fun x hx=>by rw [<-evEq x hx]; exact A0J h1.tmps x) h1.heap h2 _ _ fun rv H' v w' ι' σ' hR q1 q2 q3 q4=> ?_;refine ih (i::X) _ H' hs'' (A3V hD hop hd) (A5z hcov) hm' hk' (.inr ⟨by simp,rv,hR,rfl⟩) N ι0 σ0 w0 H0 ι' σ' _ _ ⟨?_,q2⟩ (h2.ext q4) (by rw [Act.put_defers]; exact h3.ext q4) (h4.trans q4) (h5.take2 (q3.take h));rw [<-fin];exact A0K (h1.tmps.mono q3) q1
     ·rw [if_neg (by rw [A07 h1.tmps (gEq.trans hg)]; simp)];refine ⟨fun _ _=>trivial,?_⟩;refine ih (i::X) _ HS hs'' (A3V hD hop hd) (A5z hcov) hm' hk' (.inr ⟨by simp,_,hR,rfl⟩) N ι0 σ0 w0 H0 ι σ _ _ ⟨?_,h1.heap⟩ h2 (by rw [Act.put_defers]; exact h3) h4 h5;rw [<-fin];exact A0K h1.tmps A25
    ·exact absurd q1 hi
   ·obtain ⟨d,hdt⟩:=S.dst i o ho hki him hip;have hqt:B13 P rd all tmA HS o:=by
     rcases hst with ⟨_,_,rfl⟩ | ⟨_,r,q2,_⟩
     ·exact hq i o hki him hip ho
     ·exact hq' r HS q2 i o hki him hip ho
    have hst':(p∉i::X∧tmS=tmA∧HS=H)∨(p∈i::X∧ ∃r,R r HS∧tmS=A1a tmA op.dst r):=by
     rcases hst with ⟨q1,q2⟩ | ⟨q1,q2⟩
     ·exact .inl ⟨by simp [q1,Ne.symm hip],q2⟩
     ·exact .inr ⟨YY _ q1,q2⟩
    have hSd: ∀t,o.dst=some t->t<tm.length->tmS[t]? =some (tmA.getD d (.c .any)):=fun t ht hlt=>by
     rw [hdt] at ht;cases ht;have e:tmS[d]? =tmA[d]? :=by
      rcases hst with ⟨_,rfl,_⟩ | ⟨_,r,_,rfl⟩
      ·rfl
      ·exact A3H (S.ne i p o op d ho hop hki him S.kp S.pm hip hdt)
     rw [e,Qz,Qq (by rw [hl]; exact hlt)]; rfl
    have fin:A1a (B2l (wrote all k X) tm tmS) o.dst (tmA.getD d (.c .any))=B2l (wrote all k (i::X)) tm tmS:=B8M hwr hSd (fun _ _ _=>rfl);rcases hqt with ⟨hg,hp⟩ | ⟨hg,hR⟩
    ·rw [if_pos (A07 h1.tmps (gEq.trans hg))];refine hp d hdt ι σ a w (fun x hx=>by rw [<-evEq x hx]; exact A0J h1.tmps x) h1.heap h2 _ _ fun v w' ι' σ' q1 q2 q3 q4=> ?_;refine ih (i::X) tmS HS hs'' (A3V hD ho hd) (A5z hcov) hm' hk' hst' N ι0 σ0 w0 H0 ι' σ' _ _ ⟨?_,q2⟩ (h2.ext q4) (by rw [Act.put_defers]; exact h3.ext q4) (h4.trans q4) (h5.take2 (q3.take h));rw [<-fin];exact A0K (h1.tmps.mono q3) q1
    ·rw [if_neg (by rw [A07 h1.tmps (gEq.trans hg)]; simp)];refine ⟨fun _ _=>trivial,?_⟩;refine ih (i::X) tmS HS hs'' (A3V hD ho hd) (A5z hcov) hm' hk' hst' N ι0 σ0 w0 H0 ι σ _ _ ⟨?_,h1.heap⟩ h2 (by rw [Act.put_defers]; exact h3) h4 h5;rw [<-fin,hR d hdt];exact A0K h1.tmps A25
end
variable {ι:List Nat} {σ:Sig} {w:World}
section
variable {P:Program} {rd:Option Nat} {h:Nat} {Q:Exit->St->Prop} {all:Array Oper} {tm:List AVal} {H:List Blk} {o:Oper} {ρ:Operand->AVal}
def C2n (hH:HRel ι σ w H):HRel ι σ w.drew H∧Mono ι σ w H ι σ w.drew H∧Ext σ w σ w.drew:=by
 refine ⟨?_,⟨fun _ _ _ h h'=>⟨h,h'⟩,fun _ _ h=>h,fun _ tip k h=>⟨tip,k,h,MarkUp.refl _ _ _,.inr ⟨rfl,rfl,fun _ _ u h h'=>⟨h,⟨u,h'⟩,fun hf=>hf⟩⟩⟩⟩,⟨rfl,rfl,rfl,Qk _,fun _ _ _ h h'=>⟨h,h'⟩,fun _ _ h=>⟨rfl,h⟩,fun _ _ _ h=>h,VV _⟩⟩;exact (SRel.cells (st:=⟨[],H⟩) (a:={ tmps:= #[],defers:=[] }) (w':=w.drew) ⟨⟨rfl,by simp⟩,hH⟩ (fun _=>rfl) (fun _ _ h _ _=>h) (fun g=>⟨rfl,rfl,rfl,Qk _,fun _ _ _ h h'=>⟨h,h'⟩,fun _ _ _ _=>⟨rfl,fun _=>rfl⟩,VV _⟩)).heap
def C8f (H:List Blk) (j len cap:Nat) (used:List ACell) (c:ACell) (r:AVal) (H':List Blk):Prop:=
 (len<cap∧r= .c (.vec j (len+1) cap)∧H'=H.set j (.box (used++[c]++List.replicate (cap-(len+1)) .any)))∨
 (∃cap',len+1≤cap'∧r= .c (.vec H.length (len+1) cap')∧H'=H++[.box (used++[c]++List.replicate (cap'-(len+1)) .any)])
def A8S {x y:Operand} {t tx:TypeId} (ho:o.op= .call { callee:= .builtin .append,args:= #[x,y],argTypes:= #[t,tx] }) {e e2:TypeId} (hE:A03 P t=some (none,e)) (hE2:A03 P tx=some (none,e2))
  (hk:A0u P e=some 1) {z:Value} (hz:A01 P e=some z) (hzs:z.cells.size=1) {by':Nat} (hby:A0x P e=some by') {j len cap:Nat} (hx:ρ x= .c (.vec j len cap)) {used:List ACell}
  (hj:(cap=0∧used=[])∨H[j]? =some (.box (used++List.replicate (cap-len) .any))) (hlen:used.length=len) (hcap:len≤cap) {tr:Tree} {tok:Tok} (hy:ρ y= .c (.slice [[tr]] tok))
  (hfit:(len+1)*by'≤140737488355328) (h63:len+1≤4611686018427387904):B2G P rd o ρ H (C8f H j len cap used (cellOf tr)):=by
 intro ι σ a w hxx hH _ next Q hn;refine ⟨fun _ _=>trivial,?_⟩;rw [Oper.semAt_eq _ _ _ (by simp [ho])];have vx:=hxx x (by simp [Op.operands,Call.operands,ho]);rw [hx] at vx;have vy:=hxx y (by simp [Op.operands,Call.operands,ho]);rw [hy] at vy;obtain ⟨b,hb,vx⟩:=vx;have hu:=A0w hE;have hu2:=A0w hE2;obtain ⟨inf,hi,hsz,hbb,hzz⟩: ∃inf,P.info? e=some inf∧inf.size=1∧inf.bytes=by'∧inf.zero=some z:=by
  unfold A0u at hk; unfold A0x at hby; unfold A01 at hz;cases hi:P.info? e with
  | none=>simp [hi] at hk
  | some inf=>simp [hi] at hk hby hz; exact ⟨inf,rfl,hk,hby,hz⟩
 obtain ⟨news,hsrc,hg2⟩:=vy.1.src (P:=P) (k:=inf.size) (fun r hr=>by simp at hr; subst hr; rw [hsz]; rfl) (by omega) hu2;obtain ⟨u,hu0,hur⟩:=hg2 0 [tr] 0 tr rfl rfl;have hnl:news=[u]:=by
  have h1:=hsrc.newsLen;rw [hsz] at h1
  match news,h1,hu0 with
  | [u'],_,h2=>simp at h2; rw [h2]
 subst hnl;have hfin: ∀v w',(Builtin.append_ #[t,tx] o.type #[a.eval x,a.eval y]).run P w= .ok v w'->(execOp a.eval o).run P w= .ok (.value v) w':=fun v w' h1=>by
  simp [execOp,ho,resolve,invoke,builtin,h1]
 rcases Vz len cap with hroom | hfull
 ·replace hj:=hj.resolve_left (fun q=>by omega);have ev:a.eval x= .slice (some ⟨b,0,none⟩) len cap:=by
   rcases vx with h1 | ⟨_,h2,_⟩
   ·exact h1
   ·omega
  obtain ⟨h1,h2,M,E⟩:=A4g hH hj hb (l:=[cellOf tr]) (j:=len) #[u] ⟨rfl,fun i c u' q1 q2=>by
   cases i with
   | zero=>simp at q1 q2; subst q1; subst q2; exact A5y hur
   | succ i=>simp at q1⟩ (by simp [hlen]; omega)
  have hrun:=run_append_room_src w t tx o.type e inf hu hi b 0 len cap (a.eval y) 1 [u] (by simpa using hsrc) (by omega) (fun i hi'=>by
   have:=(h1 i (by simpa using hi')).1
   simpa [hsz] using this) (fun i hi'=>by
   have:=(h1 i (by simpa using hi')).2
   simpa [hsz] using this)
  rw [<-ev] at hrun;rw [hfin _ _ hrun];have esm:setMany (used++List.replicate (cap-len) .any) len [cellOf tr]=used++[cellOf tr]++List.replicate (cap-(len+1)) .any:=by
   rw [<-hlen,A7M _ _ _ (by omega),Nat.sub_sub]
  rw [esm] at h2 M;have e0:(0:Nat)+len*inf.size=len:=by rw [hsz]; omega
  simp only [e0] at*;exact hn _ _ _ _ ι σ (.inl ⟨hroom,rfl,rfl⟩) ⟨b,hb,.inl rfl⟩ h2 M E
 ·have ec:cap=len:=by omega
  subst ec;have hcells: ∀i,i<used.length-> ∃v,w.cell? ⟨b,i,none⟩=some v∧CRel ι σ w H (used.getD i .any) v:=fun i hi'=>by
   have hj:=hj.resolve_left (fun q=>by rw [q.2] at hi'; simp at hi');obtain ⟨_,_,v,q3,q4⟩:=(hH.2 j _ b hj hb).2 i (used.getD i .any) (by rw [Qw hi',Qz,Qq hi']; rfl);exact ⟨v,q3,q4⟩
  let olds:List Value:=(List.range used.length).map fun i=>(w.cell? ⟨b,i,none⟩).getD undef;have hol:olds.length=used.length:=by simp [olds]
  have hog: ∀i,i<used.length->olds[i]? =w.cell? ⟨b,i,none⟩:=fun i hi'=>by
   obtain ⟨v,q,_⟩:=hcells i hi';simp only [olds,QQ,Yv hi',Option.map_some,q,Option.getD_some]
  obtain ⟨base,hbase,hold⟩: ∃base,a.eval x= .slice base cap cap∧(Builtin.firstCells inf.size cap (.slice base cap cap)).run P w.drew= .ok olds.toArray w.drew:=by
   rcases vx with h1 | ⟨h0,_,h1⟩
   ·refine ⟨_,h1,?_⟩
    exact run_firstCells_some w.drew _ _ ⟨b,0,none⟩ _ _ olds (by rw [hol,hsz]; omega) (fun i u' hu'=>by
     have hi':i<used.length:=by have:=(Qx.1 hu').1; omega
     rw [hog i hi'] at hu'
     simpa [Addr.add_lit] using hu')
   ·refine ⟨none,by rw [h1,h0],?_⟩;have:olds=[]:=ZY.1 (by omega);rw [this,h0];exact run_firstCells_none w.drew _ _ _ _
  have hrun:=run_append_grow_src w t tx o.type e inf z hu hi hzz base cap cap olds hold (a.eval y) 1 [u] (by simpa using hsrc) (by omega) (by omega) (by
   have h2:=nextslicecap_le (need:=cap+1) (old:=cap) (by omega);refine Yw (YJ _ h2) ?_
   rw [hbb,Nat.mul_assoc]; omega)
  have hge:=grownCap_ge w (cap+1) cap e;rw [<-hbase] at hrun;generalize grownCap w (cap+1) cap e=c' at hrun hge;rw [hfin _ _ hrun];generalize harr:((olds++[u]).toArray++Builtin.zeroCells z.cells (c'-(cap+1)))=arr;have hasz:arr.size=c':=by
   rw [<-harr];simp only [Array.size_append,Vk,size_zeroCells,hzs,Xv,hol,hlen,List.length_cons,List.length_nil];omega
  obtain ⟨D1,D2,D3⟩:=C2n hH;have hcs:A0I ι σ w.drew H (used++[cellOf tr]++List.replicate (c'-(cap+1)) .any) arr:=by
   refine ⟨by rw [hasz]; simp [hlen]; omega,fun i c v hi' hv=> ?_⟩;by_cases h1:i<used.length
   ·rw [Zv,Qw h1] at hi';obtain ⟨v',q1,q2⟩:=hcells i h1;have e1:arr[i]? =some v':=by
     rw [<-harr,Wv (by simp [hol]; omega)];simp only [Wz];rw [Qw (by omega),hog i h1,q1]
    rw [e1] at hv;cases hv;have ec:used.getD i .any=c:=by rw [Qz,hi']; rfl
    rw [ec] at q2;exact D2.cell q2
   ·by_cases h2:i=used.length
    ·subst h2;have ec:c=cellOf tr:=by simpa using hi'.symm
     subst ec;have e1:arr[used.length]? =some u:=by
      rw [<-harr,Wv (by simp [hol])];simp only [Wz];rw [QW (by omega)];simp [hol]
     rw [e1] at hv;cases hv;exact D2.cell (A5y hur)
    ·have ec:c= .any:=by
      rw [QW (by simp; omega)] at hi';exact (Wq.1 (Qv hi')).2
     subst ec;trivial
  obtain ⟨ι',σ',q1,q2,q3,q4⟩:=B2u D1 e arr _ hcs;obtain ⟨b',hb',hpb⟩:=q1;cases hpb;exact hn _ _ _ _ ι' σ' (.inr ⟨c',hge,rfl,rfl⟩) ⟨_,hb',.inl rfl⟩ q2 (D2.trans q3) (D3.trans q4)
def Weak.vecSee {h:Nat} (t j len cap:Nat) {tm:List AVal} {H:List Blk} (ht:tm[t]? =some (.c (.vec j len cap))) (h0:0<len) (hc:len≤cap):Weak h ⟨tm,H⟩ ⟨tm.set t (.c (.ref j 1 0 len len)),H⟩:=by
 intro ι σ a w hr;refine ⟨ι,⟨A5x ht (fun v hv=> ?_) hr.tmps,hr.heap⟩,rfl,rfl⟩;obtain ⟨b,hb,e | ⟨e,_,_⟩⟩:=hv
 ·exact ⟨b,hb,cap,hc,e⟩
 ·omega
def Mono.unbox {cs cs':List ACell} (hj:H[j]? =some (.box cs)) (h:Nat):
  Mono (ι.take h) σ w (H.take h) (ι.take h) σ w ((H.set j (.box cs')).take h):=by
 refine ⟨fun _ _ _ h h'=>⟨h,h'⟩,fun _ _ h=>h,fun id tip k hid=> ?_⟩;obtain ⟨q1,q2⟩:=A1T hid;have hne:j≠id:=by rintro rfl; rw [hj] at q2; cases q2
 refine ⟨tip,k,by rw [Xx q1,Qy hne]; exact q2,MarkUp.refl _ _ _,.inr ⟨rfl,rfl,fun _ _ u h h'=>⟨h,⟨u,h'⟩,fun hf=>hf⟩⟩⟩
def AWp.cellAny {c:Code} (j p:Nat) {cs:List ACell} (hj:H[j]? =some (.box cs)) (hw:AWp P rd h c Q ⟨tm,H.set j (.box (cs.set p .any))⟩):AWp P rd h c Q ⟨tm,H⟩:=by
 refine ⟨fun N ι σ a w h1 h2 h3 h4=> ?_⟩;have hil:j<H.length:=(Qx.1 hj).1;have M:Mono ι σ w H ι σ w (H.set j (.box (cs.set p .any))):=by
  refine ⟨fun b o u h h'=>⟨h,h'⟩,fun _ _ h=>h,fun id tip k0 hc=> ?_⟩;have hne:id≠j:=by rintro rfl; rw [hj] at hc; cases hc
  exact ⟨tip,k0,by rw [Qy (Ne.symm hne)]; exact hc,MarkUp.refl _ _ _,.inr ⟨rfl,rfl,fun b o u h h'=>⟨h,⟨u,h'⟩,fun h3=>h3⟩⟩⟩
 have hr:SRel ι σ ⟨tm,H.set j (.box (cs.set p .any))⟩ a w:=by
  refine ⟨h1.tmps.mono M,by simpa using h1.heap.1,fun id blk b q1 q2=> ?_⟩;by_cases e:j=id
  ·subst e;rw [QX hil] at q1;cases q1;obtain ⟨ha,hcs⟩:=h1.heap.2 j _ b hj q2;refine ⟨ha,fun i c0 hp=> ?_⟩;by_cases ej:p=i
   ·subst ej;have hpl:=(Qx.1 hp).1;rw [Yz] at hpl;rw [QX hpl] at hp;cases hp;obtain ⟨s1,s2,v,s3,_⟩:=hcs p _ (Qq hpl);exact ⟨s1,s2,v,s3,trivial⟩
   ·rw [Qy ej] at hp;obtain ⟨s1,s2,v,s3,s4⟩:=hcs i c0 hp;exact ⟨s1,s2,v,s3,M.cell s4⟩
  ·rw [Qy e] at q1;exact A3N.same M (h1.heap.2 id blk b q1 q2)
 refine wpIn_mono (hw.out N ι σ a w hr h2 h3 h4) ?_;rintro e a' w' ⟨ι',σ',st',q,r1,r2,r3,r4⟩;exact ⟨ι',σ',st',q,r1,r2,(Mono.unbox hj h).trans r3,r4⟩
end
variable {rd:Option Nat} {os:List Oper}
section
variable {P:Program} {h:Nat} {Q:Exit->St->Prop} {all:Array Oper} {tm:List AVal} {H:List Blk} {o:Oper} {ρ:Operand->AVal}
def C8g (H1:List Blk) (G' Gx:Sig->World->Prop) (r:AVal) (H':List Blk):Prop:=
 (r= .c (.bool true)∧H'= .ghost G'::H1)∨(r= .c (.bool false)∧H'= .ghost Gx::H1)
def B0q {H1:List Blk} {G G' Gx:Sig->World->Prop} {x:Operand} {xs:Array Operand} {ats:Array TypeId} (ho:o.op= .call { callee:= .value x,args:=xs,argTypes:=ats }) {l:Nat} (hx:ρ x= .c (.yld l))
  {ts:List TVal} (ha:(xs.toList.map ρ).mapM (toT A0a)=some ts) (hok: ∀blk,blk∈H1->okBlk blk) (hY:YStep P l G ts G' Gx) (hc:Clo G') (hcx:Clo Gx):B2G P none o ρ (.ghost G::H1) (C8g H1 G' Gx):=by
 intro ι σ a w hxx hH _ next Q hn;refine ⟨fun _ _=>trivial,?_⟩;rw [Oper.semAt_eq _ _ _ (by simp [ho])];have ev:=hxx x (by simp [Op.operands,Call.operands,ho]);rw [hx] at ev;have ev':a.eval x= .func (.yield l) #[] #[]:=ev;obtain ⟨m1,m2⟩:=A08 ha;have hG:G σ w:=by
  have h0: ∃b,ι[0]? =some b:=⟨ι[0]'(by rw [hH.1]; simp),Qq _⟩;obtain ⟨b,hb⟩:=h0;exact (hH.2 0 _ b rfl hb).1
 obtain ⟨fn,tmps,assign,body,hy,hR⟩:=hY σ w (xs.toList.map a.eval) hG (by simpa using m1.symm) (fun j t u h1 h2=>by
  have hlt:j<xs.toList.length:=by have:=(Qx.1 h2).1; simpa using this
  have hq:=Qq hlt;simp only [QQ,hq,Option.map_some,Vv] at h2;subst h2
  exact A4E (fun c t v h3 h4=>A0y h3 h4) (hxx _ (by simp [Op.operands,Call.operands,ho])) (m2 j _ t (by simp [hq]) h1))
 have hrun:(execOp a.eval o).run P w= .ok (.round l fn tmps assign body) w:=by
  have e1:(xs.toList.map a.eval).toArray=xs.map a.eval:=by apply JW; simp
  rw [e1] at hy;simp [execOp,ho,resolve,ev',Deferred.ofValue,invoke,hy]
 rw [hrun];refine ⟨fun h=>by simp [Fr] at h,hR.mono ?_⟩;rintro e w' ⟨σ',g,hcase⟩;rcases hcase with ⟨rfl,h1⟩ | ⟨rfl,h1⟩
 ·exact hn _ _ _ w' ι σ' (.inl ⟨rfl,rfl⟩) rfl (g.heap hH hok h1 hc) g.mono g.ext
 ·exact hn _ _ _ w' ι σ' (.inr ⟨rfl,rfl⟩) rfl (g.heap hH hok h1 hcx) g.mono g.ext
def ADr.run {k:Nat} (n:Nat) (hc:((List.range n).all fun i=>cutAt all (k+i))=true) (hn:k+n≤all.size)
  (hv: ∀K:List AVal->List Blk->Prop,(∀tm' H',ADr P rd h all (k+n) Q tm' H'->K tm' H')->A1U P all ((all.toList.drop k).take n) tm H K):ADr P rd h all k Q tm H:=by
 obtain ⟨tm',H',h1,h2⟩:=A2s (rd:=rd) (hv (fun tm' H'=>ADr P rd h all (k+n) Q tm' H') (fun _ _ h=>h));have key: ∀(l:List Oper) (k0:Nat) (tm:List AVal) (H:List Blk) (tm':List AVal) (H':List Blk),Run P rd all l tm H tm' H'->ADr P rd h all (k+n) Q tm' H'->(∀j,j<l.length->all[k0+j]? =l[j]?)->k0+l.length=k+n->(∀j,j<l.length->cutAt all (k0+j)=true)->ADr P rd h all k0 Q tm H:=by
  clear h1 h2 hv;intro l k0 tm H tm' H' hr h2
  induction hr generalizing k0 with
  | nil tm H=>intro _ e _; simp at e; subst e; exact h2
  | exec hg hs hr ih=>
   rename_i o rest _ _ _ _ _ rv;intro q1 q2 q3;refine ADr.one (by simpa using q3 0 (by simp)) (o:=o) (by simpa using q1 0 (by simp)) (.inl ⟨hg,hs.n⟩) ?_;rintro r H1 ⟨rfl,rfl⟩;exact ih (k0+1) h2 (fun j hj=>by have:=q1 (j+1) (by simp; omega); simpa [Wx,Qq5 1 j] using this) (by simp at q2; omega) (fun j hj=>by have:=q3 (j+1) (by simp; omega); rwa [show k0+(j+1)=k0+1+j by omega] at this)
  | skip hg hr ih=>
   rename_i o rest _ _ _ _;intro q1 q2 q3;refine ADr.one (R:=fun r H1=>r= .tup []∧H1=_) (by simpa using q3 0 (by simp)) (o:=o) (by simpa using q1 0 (by simp)) (.inr ⟨hg,rfl,rfl⟩) ?_;rintro r H1 ⟨rfl,rfl⟩;exact ih (k0+1) h2 (fun j hj=>by have:=q1 (j+1) (by simp; omega); simpa [Wx,Qq5 1 j] using this) (by simp at q2; omega) (fun j hj=>by have:=q3 (j+1) (by simp; omega); rwa [show k0+(j+1)=k0+1+j by omega] at this)
 have hl:((all.toList.drop k).take n).length=n:=by simp; omega
 refine key _ k tm H tm' H' h1 h2 (fun j hj=> ?_) (by rw [hl]) (fun j hj=> ?_)
 ·rw [hl] at hj;rw [Xx hj,YX]; simp
 ·rw [hl] at hj;exact ZX.1 hc j (Xk.2 hj)
def A4U (P:Program) (all:Array Oper) (tmA:List AVal) (H:List Blk) (p:Nat):Nat->List Oper->Prop
 | _,[]=>True
 | i,o::os=>(i=p∨((gwant all tmA o=some true∧aop P (aeval tmA) H o.op (fun rv H1=>(∀d,o.dst=some d->rv=tmA.getD d (.c .any))∧H1=H))∨
   (gwant all tmA o=some false∧ ∀d,o.dst=some d->tmA.getD d (.c .any)= .tup [])))∧A4U P all tmA H p (i+1) os
def A5V {p:Nat}: ∀(os:List Oper) (i:Nat),A4U P all tmA H p i os-> ∀(j:Nat) x,os[j]? =some x->i+j≠p->B13 P rd all tmA H x
 | [],i,_,j,x,hx,_=>by simp at hx
 | o::os,i,hq,j,x,hx,hp=>by
  obtain ⟨h1,h2⟩:=hq;cases j with
  | zero=>
   simp at hx; subst hx;rcases h1 with h1 | ⟨hg,h1⟩ | ⟨hg,h1⟩
   ·exact absurd h1 (by simpa using hp)
   ·refine .inl ⟨hg,fun d hd=> ?_⟩;obtain ⟨rv,H1,s1,s2,rfl⟩:=A0Y (rd:=rd) h1;rw [<-s2 d hd]; exact s1
   ·exact .inr ⟨hg,h1⟩
  | succ j=>
   exact A5V os (i+1) h2 j x (by simpa using hx) (by omega)
def A0Z (tm:List AVal):List (Nat×AVal)->List AVal
 | []=>tm
 | (t,v)::l=>A0Z (tm.set t v) l
def A8T: ∀(l:List (Nat×AVal)) (tm:List AVal),(A0Z tm l).length=tm.length
 | [],tm=>rfl
 | (t,v)::l,tm=>by rw [A0Z,A8T l]; simp
def B0r {t:Nat}: ∀(l:List (Nat×AVal)) (tm:List AVal),(∀x,x∈l->x.1≠t)->(A0Z tm l)[t]? =tm[t]?
 | [],tm,_=>rfl
 | (s,v)::l,tm,hh=>by
  rw [A0Z,B0r l _ (fun x hx=>hh x (by simp [hx]))];rw [Qy (hh (s,v) (by simp))]
def ADr.seg' {k:Nat} (m p:Nat) (vals:List (Nat×AVal)) (hs:C2m all k m p=true) (hvs:(vals.map (·.1)).all (fun t=>(List.range all.size).any fun i=>decide (k≤i)&&decide (i<m)&&decide (i≠p)&&(A0P all i==some t))=true)
  {op:Oper} {rest:List Oper} (hop0:all.toList.drop p=op::rest) {R:AVal->List Blk->Prop} (hp:OpN P rd all (A0Z tm vals) H op R) (hq:A4U P all (A0Z tm vals) H p k ((all.toList.drop k).take (m-k)))
  (hq': ∀r H',R r H'->A4U P all (A0Z tm vals) H' p k ((all.toList.drop k).take (m-k))) (hK: ∀r H',R r H'->ADr P rd h all m Q (A1a (A0Z tm vals) op.dst r) H'):ADr P rd h all k Q tm H:=by
 have S:=B0p hs;have hop:all[p]? =some op:=by
  rw [<-WY];have:=congrArg (·[0]?) hop0;simpa using this
 have get: ∀(i:Nat) x,k≤i->i<m->all[i]? =some x->((all.toList.drop k).take (m-k))[i-k]? =some x:=fun i x h1 h2 h3=>by
  rw [Xx (by omega),YX,show k+(i-k)=i by omega]; simpa using h3
 refine ADr.seg hs hop (A8T _ _) (fun t ht=>B0r vals tm fun x hx e=> ?_) hp (fun i x h1 h2 h3 h4=>A5V _ k hq (i-k) x (get i x h1 h2 h4) (by omega)) (fun r H' hr i x h1 h2 h3 h4=>A5V _ k (hq' r H' hr) (i-k) x (get i x h1 h2 h4) (by omega)) hK;have h6:=ZX.1 hvs x.1 (QY.2 ⟨x,hx,rfl⟩);obtain ⟨i,_,h7⟩:=List.any_eq_true.1 h6;simp only [XV,decide_eq_true_eq,beq_iff_eq] at h7;exact ht i h7.1.1.1 h7.1.1.2 h7.1.2 (by rw [h7.2,e])
def ACallE.trim {R:List Blk->AVal->Prop} (m:Nat) (hc:ACallE P f H args R) (hm:H.length≤m) (hR: ∀H2 r,R H2 r->A1N m (H2.take m)∧B6P m r):
  ACallE P f H args (fun H' r=> ∃H2,R H2 r∧H'=H2.take m):=by
 refine ⟨hc.enters,fun ι σ w vs h1 h2 h3=>(hc.runs ι σ w vs h1 h2 h3).mono ?_⟩;rintro e w' ⟨v,ι',σ',H2,r,q,rfl,q1,q2,q3,q4⟩;obtain ⟨hb,hv⟩:=hR _ _ q;have hW:=Weak.head2 (h:=H.length) (m:=m) hm [true] (tm:=[r]) (H:=H2) rfl rfl ⟨(by intro x hx; simp [mask] at hx; subst hx; exact hv),hb⟩
 obtain ⟨ι2,s1,s2,s3⟩:=hW ι' σ' { tmps:= #[v],defers:=[] } w' ⟨⟨rfl,fun t x u p1 p2=>by
  cases t with
  | zero=>simp at p1 p2; subst p1; subst p2; exact q1
  | succ t=>simp at p1⟩,q2⟩
 refine ⟨v,ι2,σ',H2.take m,r,⟨H2,q,rfl⟩,rfl,s1.tmps.2 0 r v rfl rfl,s1.heap,⟨q3.stab,fun id b hi=> ?_,fun id tip k hi=> ?_⟩,q4⟩
 ·have hl:id<H.length:=by rw [<-h1.1]; exact (Qx.1 hi).1
  have:=congrArg (·[id]?) s2;simp only [Xx hl] at this;rw [this]; exact q3.iota id b hi
 ·have hl:id<H.length:=(Qx.1 hi).1;obtain ⟨t,k',p1,p2⟩:=q3.chain id tip k hi;exact ⟨t,k',by rw [Xx (by omega)]; exact p1,p2⟩
def ACallE.nil0 {R:List Blk->AVal->Prop} (j:Nat) (hc:ACallE P f H (.c (.vec j 0 0)::args) R) (hj:j<H.length):ACallE P f H (.c .nils::args) R:=by
 refine ⟨hc.enters,fun ι σ w vs h1 h2 h3=>hc.runs ι σ w vs h1 h2 fun i x u q1 q2=> ?_⟩;cases i with
 | zero=>
  simp at q1; subst q1;have h4:=h3 0 (.c .nils) u rfl q2;exact ⟨_,Qq (by rw [h1.1]; exact hj),.inr ⟨rfl,rfl,h4⟩⟩
 | succ i=>exact h3 (i+1) x u (by simpa using q1) q2
def drop_at {k:Nat} {rest:List Oper} (he:all.toList.drop k=o::rest):all[k]? =some o:=by
 rw [<-WY];have:=congrArg (·[0]?) he;simpa using this
def ADr.one' {k:Nat} {rest:List Oper} (hc:cutAt all k=true) (he:all.toList.drop k=o::rest) {R:AVal->List Blk->Prop} (hs:OpN P rd all tm H o R) (hK: ∀r H',R r H'->ADr P rd h all (k+1) Q (A1a tm o.dst r) H'):
  ADr P rd h all k Q tm H:=ADr.one hc (drop_at he) hs hK
def B2H {p i:Nat}:A4U P all tmA H p i []:=trivial
def B0s {p i:Nat} (hi:i=p) (hr:A4U P all tmA H p (i+1) os):A4U P all tmA H p i (o::os):=⟨.inl hi,hr⟩
def B8N {p i:Nat} {d:Tmp} (hg:gwant all tmA o=some true) (hd:o.dst=some d) (ha:aop P (aeval tmA) H o.op (fun rv H1=>rv=tmA.getD d (.c .any)∧H1=H)) (hr:A4U P all tmA H p (i+1) os):A4U P all tmA H p i (o::os):=by
 refine ⟨.inr (.inl ⟨hg,?_⟩),hr⟩;have e:(fun (rv:AVal) (H1:List Blk)=>(∀d,o.dst=some d->rv=tmA.getD d (.c .any))∧H1=H)=(fun rv H1=>rv=tmA.getD d (.c .any)∧H1=H):=by
  funext rv H1;rw [hd];simp
 rw [e]; exact ha
def B0t {p i:Nat} {d:Tmp} (hg:gwant all tmA o=some false) (hd:o.dst=some d) (ha:tmA.getD d (.c .any)= .tup []) (hr:A4U P all tmA H p (i+1) os):A4U P all tmA H p i (o::os):=
 ⟨.inr (.inr ⟨hg,fun d' hd'=>by rw [hd] at hd'; cases hd'; exact ha⟩),hr⟩
def zQ {F P:Prop} (f:F) (h:F->P:=by
  intro f
  (repeat' first | exact B2H | refine B0s rfl ?_ | refine B8N rfl rfl ?_ ?_ | refine B0t rfl rfl rfl ?_)
  all_goals (simp only [go_sem,YQ,Yy,List.getElem?_cons_succ,List.getElem?_cons_zero,Option.getD_some,and_self,f])):P:=h f
def AWp.seqMid {x y:Code} {st:St} (tm1:List AVal) (H1:List Blk) (hx:AWp P rd h x (A2G (fun s'=>Weak h s' ⟨tm1,H1⟩) Q) st) (hy:AWp P rd h y Q ⟨tm1,H1⟩):AWp P rd h (.seq x y) Q st:=by
 refine AWp.seq (hx.mono fun e s hq=> ?_);cases e with
 | normal=>exact AWp.weak hq hy
 | _=>exact hq
def zQs {P:Prop} (h:P:=by
  (repeat' first | exact B2H | refine B0s rfl ?_ | refine B0t (by kernel_rfl) rfl (by kernel_rfl) ?_)):P:=h
end
attribute [go_sem] A0Z
section
variable {P:Program} {rd:Option Nat} {h:Nat} {Q:Exit->St->Prop} {all:Array Oper} {tm:List AVal} {H:List Blk}
structure SegOkS (all:Array Oper) (k m:Nat) (ps:List Nat):Prop where
 ms:m≤all.size
 pin: ∀p,p∈ps->k≤p∧p<m
 dst: ∀(i:Nat) x,all[i]? =some x->k≤i->i<m-> ¬i∈ps-> ∃t,x.dst=some t
 cut: ∀(i j:Nat) x y,all[i]? =some x->all[j]? =some y->k≤i->i<m->m≤j->bef all j i=true
 ne: ∀(i j:Nat) x y t,all[i]? =some x->all[j]? =some y->k≤i->i<m->k≤j->j<m->i≠j->x.dst=some t->y.dst≠some t
 rd: ∀(i j:Nat) x y t,all[i]? =some x->all[j]? =some y->k≤i->i<m->k≤j->j<m->x.dst=some t->t∈readsOf all y->i<j∧bef all j i=true∧(i∈ps->j∈ps)
 ord: ∀(i j:Nat) x y,all[i]? =some x->all[j]? =some y->i∈ps->j∈ps->i<j->bef all j i=true
end
section
variable {P:Program} {rd:Option Nat} {h:Nat} {Q:Exit->St->Prop} {all:Array Oper} {tm:List AVal} {H:List Blk} {o:Oper} {ρ:Operand->AVal}
end
section
variable {P:Program} {rd:Option Nat} {h:Nat} {Q:Exit->St->Prop} {all:Array Oper} {tm:List AVal} {H:List Blk}
end
def ACall.of_bodyF {fn:Func} {c:Code} (hf:P.funcs[f]? =some fn) (hb:fn.body=some c) (hn:B1q fn.name=true) {args:List TVal} {r:TVal}
  (hw:FWp P 0 c (A0s P fn r) ⟨entry fn (args.map ofT),[]⟩):ACall P f args r:=by
 refine ⟨enters_of hf hb hn,fun S w vs hl hv=> ?_⟩;refine callsIn_wide.1 (callsIn_of_wp_marks (F:=Fence.wide) (n:=9) hf hb trivial ?_)
 classical
 let σ0:Sig:=fun b o=>if S b o then .stable else .foreign
 have hst: ∀b o,S b o->σ0 b o= .stable:=fun b o h=>by simp [σ0,h]
 have hmine: ∀b o id,σ0 b o≠ .mine id:=fun b o id=>by simp only [σ0]; split<;>simp
 have hrel:SRel [] σ0 ⟨entry fn (args.map ofT),[]⟩ { tmps:=vs.toArray++Array.replicate (fn.ntmps-vs.toArray.size) undef,defers:=[] } w:=by
  refine ⟨A3d (by simp [hl]) (fun j x u h1 h2=> ?_),rfl,by simp⟩;simp only [QQ] at h1;cases hc:args[j]? with
  | none=>simp [hc] at h1
  | some y=>simp [hc] at h1; subst h1; exact A3b ((hv j y u hc h2).mono fun b o u h3 h4=>⟨hst b o h3,h4⟩)
 refine wpIn_mono (hw.out w.heap.size [] σ0 w [] [] σ0 _ w hrel (MarksOK.nil ..) (Qk _) (Ext.refl ..) ((Mono.refl ..).take 0) (fun b o id h=>(hmine b o id h).elim)) ?_;rintro e a' w' ⟨ι',σ',st',⟨he,hres⟩,h1,h2,h3,Ds,h4,h5,h6⟩;have fin:LeavesInM (Fr none) 9 P fn a'.tmps (fun e w'=> ∃v,e= .returned v∧TVRel (fun b o=>S b o∨w.heap.size≤b) w' r v∧Below w.heap.size w w'∧w.drawn≤w'.drawn) a'.defers .returning w':=by
  rw [h4];refine A1C (N:=w.heap.size) Ds w' h5 (fun D hD=>let ⟨q1,q2,q3,_⟩:=h6 D hD; ⟨q1,q2,q3⟩) ?_;intro w2 hb2 hc2 hx2 hd2 hdr2
  obtain ⟨v,r1,r2⟩:=A8B (h1.cells hc2 (fun b ob h h' _=>hx2 b ob h h') (fun g=>⟨hb2.os,hb2.tape,hb2.output,hb2.size,fun b o u h h'=>⟨h,by rw [hc2]; exact h'⟩,fun b hbl _ hgb=>⟨hd2 b (fun hD=>by
   have h7:=(h6 b hD).2.2.2 0
   rcases hgb 0 with h8 | h8<;>(rw [h7] at h8; cases h8)),fun _=>rfl⟩,Qw0 hdr2.symm⟩)) hres
  refine ⟨v,r1,v,rfl,r2.mono fun b o u h7 h8=>⟨?_,h8⟩,?_⟩
  ·by_cases hlt:b<w.heap.size
   ·left;by_cases hS:S b o
    ·exact hS
    ·exact (h7 (h2.back b o hlt (by simp [σ0,hS]))).elim
   ·right; omega
  ·refine ⟨?_,by rw [hdr2]; exact h2.drawn⟩;exact Below.trans ⟨h2.os,h2.tape,h2.output,h2.size,fun b hb=>(h2.obj b hb (fun o id=>hmine b o id)).1⟩ hb2
 cases e with
 | normal=>exact fin
 | ret=>exact fin
 | exit id=>exact he.elim
 | goto l=>exact he.elim
 | panic ch=>exact he.elim
 | outgrown=>exact he.elim
def Tree.leafy:Tree->Bool
 | .slice rows=>rows.all A1b
 | .rptr cells=>cells.all Tree.flat
 | .fn _ caps=>caps.all Tree.flat
 | _=>true
def B14 (u:Value):Prop:= ∀a n c,u≠ .slice a n c
variable {S:Nat->Nat->Prop} {u:Value}
def A2H {t:Tree} (hf:t.flat=true) (h:TRel S w t u):B14 u:=by
 cases h<;>simp [Tree.flat] at hf<;>(intro a n c e; cases e)
section
variable {ι ι':List Nat} {σ σ':Sig} {w:World} {H H':List Blk}
def B0u (σ σ':Sig) (w:World):Prop:= ∀b o u,σ b o= .stable->w.cell? ⟨b,o,none⟩=some u->B14 u->σ' b o= .stable
def A6s (hk:B0u σ σ' w) {t:Tree} {v:Value} (hl:t.leafy=true) (h:TRel (Stab σ) w t v):TRel (Stab σ') w t v:=by
 cases h with
 | int k n=>exact .int k n
 | bool b=>exact .bool b
 | str s=>exact .str s
 | nil a c=>exact .nil a c
 | slice b off k c rows cell hn hk' hc hr=>
  simp only [Tree.leafy,ZX] at hl;have hf: ∀i r j (t:Tree),rows[i]? =some r->r[j]? =some t->t.flat=true:=fun i r j t h1 h2=>A1o (hl r (Qv h1)) t (Qv h2);exact .slice b off k c rows cell hn hk' (fun i r j t h1 h2=>⟨hk _ _ _ (hc i r j t h1 h2).1 (hc i r j t h1 h2).2 (A2H (hf i r j t h1 h2) (hr i r j t h1 h2)),(hc i r j t h1 h2).2⟩)
   (fun i r j t h1 h2=>TRel.of_flat (hf i r j t h1 h2) (hr i r j t h1 h2))
 | rptr b off cells cell hc hr=>
  simp only [Tree.leafy,ZX] at hl;have hf: ∀j (t:Tree),cells[j]? =some t->t.flat=true:=fun j t h=>hl t (Qv h);exact .rptr b off cells cell (fun j t h=>⟨hk _ _ _ (hc j t h).1 (hc j t h).2 (A2H (hf j t h) (hr j t h)),(hc j t h).2⟩) (fun j t h=>TRel.of_flat (hf j t h) (hr j t h))
 | fn f caps vs hr=>
  simp only [Tree.leafy,ZX] at hl;exact .fn f caps vs fun j t h=>TRel.of_flat (hl t (Qv h)) (hr j t h)
 | nilf=>exact .nilf
 | raw v h=>exact .raw v h
def C78:ACap->Prop
 | .tree t=>t.leafy=true
 | _=>True
def B2I:ACell->Prop
 | .slice rows .none=>rows.all A1b=true
 | .rptr cells=>cells.all Tree.flat=true
 | .fn _ caps=> ∀c,c∈caps->C78 c
 | c=>A8Q c
def C3S:AVal->Prop
 | .c x=>B2I x
 | .agg cs=> ∀c,c∈cs->B2I c
 | .tup _=>True
def C2o:AVal->Prop
 | .c x=>B2I x
 | .agg cs=> ∀c,c∈cs->B2I c
 | .tup xs=> ∀x,x∈xs->C3S x
def B7c:Blk->Prop
 | .box cs=> ∀c,c∈cs->B2I c
 | .ro ts=> ∀t,t∈ts->t.flat=true
 | .roC _=>False
 | .map es=> ∀e,e∈es->B55 e.2
 | .ghost _=>False
 | _=>True
def A4V (hk:B0u σ σ' w) (hi: ∀(id b:Nat),ι[id]? =some b->ι'[id]? =some b) {c:ACell} {v:Value} (hs:B2I c) (h:CRel ι σ w H c v):CRel ι' σ' w H' c v:=by
 cases c with
 | slice rows tok=>
  cases tok with
  | none=>exact ⟨A6s hk hs h.1,trivial⟩
  | exact=>exact hs.elim
  | chain _=>exact hs.elim
  | tail _ _=>exact hs.elim
 | rptr cells=>exact A6s hk hs h
 | fn f caps=>
  obtain ⟨vs,e,hl,hv⟩:=h;refine ⟨vs,e,hl,fun i c u h1 h2=> ?_⟩;have h3:=hv i c u h1 h2;have h4:=hs c (Qv h1);cases c with
  | ptr id off=>obtain ⟨b,hb,e⟩:=h3; exact ⟨b,hi _ _ hb,e⟩
  | tree t=>exact A6s hk h4 h3
  | ref id k off len cap=>obtain ⟨b,hb,e⟩:=h3; exact ⟨b,hi _ _ hb,e⟩
 | bfn f caps=>exact (show False from hs).elim
 | any=>exact A0G hi hs h
 | int k n=>exact A0G hi hs h
 | bool b=>exact A0G hi hs h
 | str s=>exact A0G hi hs h
 | nils=>exact A0G hi hs h
 | nilf=>exact A0G hi hs h
 | nilp=>exact A0G hi hs h
 | yld l=>exact A0G hi hs h
 | ptr id off=>exact A0G hi hs h
 | ref id k off len cap=>exact A0G hi hs h
 | map id=>exact A0G hi hs h
 | iter id=>exact A0G hi hs h
 | rows _ _=>exact A0G hi hs h
 | rptrC _=>exact A0G hi hs h
 | vec id len cap=>exact A0G hi hs h
 | raw _=>exact A0G hi hs h
def B7d (hk:B0u σ σ' w) (hi: ∀(id b:Nat),ι[id]? =some b->ι'[id]? =some b) {x:AVal} {v:Value} (hs:C3S x) (h:A2F ι σ w H x v):A2F ι' σ' w H' x v:=by
 cases x with
 | c x=>exact A4V hk hi hs h
 | agg cs=>obtain ⟨vs,e,hl,h⟩:=h; exact ⟨vs,e,hl,fun j c u h1 h2=>A4V hk hi (hs c (Qv h1)) (h j c u h1 h2)⟩
 | tup xs=>exact h
def B8O (hk:B0u σ σ' w) (hi: ∀(id b:Nat),ι[id]? =some b->ι'[id]? =some b) {x:AVal} {v:Value} (hs:C2o x) (h:VRel ι σ w H x v):VRel ι' σ' w H' x v:=by
 cases x with
 | c x=>exact A4V hk hi hs h
 | agg cs=>obtain ⟨vs,e,hl,h⟩:=h; exact ⟨vs,e,hl,fun j c u h1 h2=>A4V hk hi (hs c (Qv h1)) (h j c u h1 h2)⟩
 | tup xs=>obtain ⟨vs,e,hl,h⟩:=h; exact ⟨vs,e,hl,fun j x u h1 h2=>B7d hk hi (hs x (Qv h1)) (h j x u h1 h2)⟩
end
def B15 (r:List Tree):Prop:= ∀t,t∈r-> ∃rs:List (List Tree),t= .slice rs∧rs.all A1b=true
def B16 {rs:List (List Tree)} (h:TRel S w (.slice rs) u): ¬B14 u:=by
 intro hn;cases h with
 | nil a c=>exact hn _ _ _ rfl
 | slice b off k c rows cell hn' hk hc hr=>exact hn _ _ _ rfl
def B7e {rows:List (List Tree)} {i k:Nat} {tip:Nat} {v:Value} (hH:HRel ι σ w H) (hv:CRel ι σ w H (.slice rows (.chain i)) v) (hi:H[i]? =some (.chain tip k))
  (hrk: ∀r,r∈rows->r.length=k) (hk:0<k) (hsl: ∀r,r∈rows->B15 r) (hne:rows≠[]) (hsafe: ∀(id:Nat) (blk:Blk),H[id]? =some blk->B7c blk):
  ∃ b cap,rows.length≤cap∧v= .slice (some ⟨b,0,none⟩) rows.length cap∧(∃o,σ b o= .mine i)∧σ b 0= .stable∧
   ∃σ':Sig,B0u σ σ' w∧(∀b' o,b'≠b->σ' b' o=σ b' o)∧(∀o,σ b o= .foreign->σ' b o= .foreign)∧
    HRel (ι++[b]) σ' w (H++[.box (flatRows rows)]):=by
 obtain ⟨hT,tip',k',h1,h2,hmk,h3⟩:=hv;cases hT with
 | nil a c=>exact absurd rfl hne
 | slice b off k0 c rows cell hn hk0 hc hr=>
  have hl:0<rows.length:=Wy.2 hne;obtain ⟨hoff,arr,e,o,hb,hao,hmo⟩:=hmk (by omega);have hoff:off=0:=hoff;subst hoff;have hkk:k0=k:=by
   obtain ⟨r,hr'⟩:=List.exists_mem_of_ne_nil _ hne;rw [<-hk0 r hr',hrk r hr']
  subst hkk;have hcell: ∀p t,rows.flatten[p]? =some t->σ b p= .stable∧ ∃u,w.cell? ⟨b,p,none⟩=some u∧TRel (Stab σ) w t u∧ ∃rs:List (List Tree),t= .slice rs∧rs.all A1b=true:=fun p t hp=>by
   obtain ⟨i',j,r,e',q1,q2⟩:=A2r hrk hp;obtain ⟨s1,s2⟩:=hc i' r j t q1 q2;rw [XX,<-e'] at s1 s2;exact ⟨s1,_,s2,hr i' r j t q1 q2,hsl r (Qv q1) t (Qv q2)⟩
  have hfl:=A2u hrk;let σ':Sig:=fun b' o=>if b'=b∧o<rows.flatten.length then .mine H.length else σ b' o
  have hpos:0<rows.flatten.length:=by rw [hfl]; exact Nat.mul_pos hl hk
  have hst: ∀p,p<rows.flatten.length->σ b p= .stable:=fun p hp=>(hcell p _ (Qq hp)).1;have hkeep:B0u σ σ' w:=fun b' o u q1 q2 q3=>by
   simp only [σ'];rw [if_neg]
   ·exact q1
   ·rintro ⟨rfl,e2⟩;obtain ⟨_,u',s2,s3,rs,e0,_⟩:=hcell o _ (Qq e2);rw [q2] at s2; cases s2;rw [e0] at s3;exact B16 s3 q3
  have hmine: ∀{b' o id},σ b' o= .mine id->σ' b' o= .mine id:=fun {b' o id} h=>by
   simp only [σ'];rw [if_neg (fun ⟨e1,e2⟩=>by subst e1; rw [hst o e2] at h; cases h)];exact h
  have hext: ∀(id b':Nat),ι[id]? =some b'->(ι++[b])[id]? =some b':=fun id b' h=>by rw [Qw (Qx.1 h).1]; exact h
  refine ⟨b,c,hn,rfl,⟨o,hmo⟩,hst 0 hpos,σ',hkeep,fun b' o hb'=>by simp [σ',hb'],fun o ho=> ?_,by simp [hH.1],fun id blk b' q1 q2=> ?_⟩
  ·simp only [σ'];rw [if_neg (fun ⟨_,e2⟩=>by rw [hst o e2] at ho; cases ho)];exact ho
  ·by_cases hid:id<H.length
   ·rw [Qw hid] at q1;rw [Qw (by rw [hH.1]; exact hid)] at q2;have:=hH.2 id blk b' q1 q2;have hsb:=hsafe id blk q1;cases blk with
    | box cs=>
     obtain ⟨ha,hcs⟩:=this;exact ⟨ha,fun j c hj=>let ⟨s1,s2,v,s3,s4⟩:=hcs j c hj; ⟨hmine s1,s2,v,s3,A4V hkeep hext (hsb c (Qv hj)) s4⟩⟩
    | ro ts=>
     intro j t hj;obtain ⟨s1,v,s2,s3⟩:=this j t hj;have hf:=hsb t (Qv hj);exact ⟨hkeep _ _ _ s1 s2 (A2H hf s3),v,s2,TRel.of_flat hf s3⟩
    | roC ts=>exact hsb.elim
    | chain _ _=>trivial
    | dead=>trivial
    | map es=>
     obtain ⟨s1,arr',s2,s3,s4⟩:=this;exact ⟨fun o=>hmine (s1 o),arr',s2,s3,fun j e x p1 p2=>⟨(s4 j e x p1 p2).1,(s4 j e x p1 p2).2.1,B0n (hsb e (Qv p1)) (s4 j e x p1 p2).2.2⟩⟩
    | iter m n seen=>
     obtain ⟨s1,bm,s2,s3⟩:=this;exact ⟨fun o=>hmine (s1 o),bm,hext _ _ s2,s3⟩
    | ghost G=>exact hsb.elim
   ·have hid':id=H.length:=by
     have:=(Qx.1 q1).1;simp at this; omega
    subst hid';simp at q1;rw [QW (by rw [hH.1]; exact Qk _),hH.1,Jv] at q2;simp at q2;subst q1; subst q2;refine ⟨⟨arr,e,_,hb⟩,fun p c hp=> ?_⟩;simp only [flatRows,QQ] at hp;cases ht:rows.flatten[p]? with
    | none=>simp [ht] at hp
    | some t=>
     simp [ht] at hp; subst hp;obtain ⟨s1,u,s2,s3,rs,rfl,s5⟩:=hcell p t ht;refine ⟨if_pos ⟨rfl,(Qx.1 ht).1⟩,by unfold World.frozen?; rw [hb]; simp,u,s2,?_⟩;exact ⟨A6s hkeep s5 s3,trivial⟩
section thaw
variable {P:Program} {h:Nat} {c:Code} {Q:Exit->St->Prop} {tm:List AVal} {H:List Blk} {rows:List (List Tree)} {i k tip:Nat}
end thaw
section
open Go.RowKit Go.Sort
open Go.Proofs (ltOf)
section
variable {ι:List Nat} {σ:Sig} {w:World} {H:List Blk} {id' b:Nat} {cs:List ACell}
def B5B (hH:HRel ι σ w H) (hid:H[id']? =some (.box cs)) (hi:ι[id']? =some b): ∃F:List Value,F.length=cs.length∧Holds id w b 0 F.toArray∧A0I ι σ w H cs F.toArray:=by
 obtain ⟨_,hc⟩:=hH.2 id' _ b hid hi;obtain ⟨F,hl,hF⟩:=A5N (fun j c v=>w.frozen? ⟨b,j,none⟩=false∧w.cell? ⟨b,j,none⟩=some v∧CRel ι σ w H c v) cs (fun j c hj=>by obtain ⟨_,q2,v,q3,q4⟩:=hc j c hj; exact ⟨v,q2,q3,q4⟩);refine ⟨F,hl,fun j hj=> ?_,by simpa using hl,fun j c u h1 h2=>(hF j c u h1 (by simpa using h2)).2.2⟩;have hj':j<F.length:=by simpa using hj
 have hjc:j<cs.length:=by omega
 obtain ⟨q1,q2,_⟩:=hF j _ _ (Qq hjc) (Qq hj');rw [XX];refine ⟨?_,q1⟩;rw [q2,getElem!_pos F.toArray j hj];simp
def A8U (hH:HRel ι σ w H) (hid:H[id']? =some (.box cs)) (hi:ι[id']? =some b) {cs':List ACell} {F':List Value} (hv:A0I ι σ w H cs' F'.toArray) (hl:cs'.length=cs.length) (n:Nat) (os:Array Obj):
  ∃σ',HRel ι σ' (Sort.grow (putRow id (Sort.ahead w n) b 0 F'.toArray) os) (H.set id' (.box cs'))∧Mono ι σ w H ι σ' (Sort.grow (putRow id (Sort.ahead w n) b 0 F'.toArray) os) (H.set id' (.box cs'))∧
   Ext σ w σ' (Sort.grow (putRow id (Sort.ahead w n) b 0 F'.toArray) os):=by
 obtain ⟨F,hFl,hh,_⟩:=B5B hH hid hi;have hsz:F'.toArray.size=F.toArray.size:=by have:=hv.1; simp at this ⊢; omega
 rw [putRow_ahead,A38 hh hsz];obtain ⟨_,g1,g2,g3⟩:=A4g (j:=0) hH hid hi F'.toArray hv (by omega);have e:setMany cs 0 cs'=cs':=by
  apply Zq;intro j;rw [A2q _ _ _ _ (by omega)];split
  ·simp
  ·rename_i hj;have h1:cs'.length≤j:=by simp at hj; exact hj
   rw [Xq h1,Xq (by omega)]
 rw [e] at g1 g2;generalize w.setCells b 0 F'.toArray.toList=w1 at g1 g2 g3;have hw: ∀b,b<w1.heap.size->(Sort.grow (Sort.ahead w1 n) os).heap[b]? =w1.heap[b]? :=fun b hb=>by
  show (w1.heap++os)[b]? =_;rw [Wv hb]
 have hs: ∀b o,b<w1.heap.size->σ b o=σ b o:=fun _ _ _=>rfl;have hsize:w1.heap.size≤(Sort.grow (Sort.ahead w1 n) os).heap.size:=by show _≤(w1.heap++os).size; simp
 have hd:w1.drawn≤(Sort.grow (Sort.ahead w1 n) os).drawn:=by show _≤w1.drawn+n; omega
 have M:Mono ι σ w1 (H.set id' (.box cs')) ι σ (Sort.grow (Sort.ahead w1 n) os) (H.set id' (.box cs')):=by simpa using Mono.grow (ι:=ι) (H:=H.set id' (.box cs')) hw hs [] []
 have HH:HRel ι σ (Sort.grow (Sort.ahead w1 n) os) (H.set id' (.box cs')):=by simpa using g1.grow hw hs ⟨rfl,rfl,rfl,hsize,hd⟩ [] [] rfl (fun j blk b h1 _=>by simp at h1)
 exact ⟨σ,HH,g2.trans M,g3.trans (Ext.grow rfl rfl rfl hsize hw hs hd)⟩
end
def B8P {rs:List (List Tree)} (h:TRel S w (.slice rs) u):u.oneCell'=true:=by cases h<;>rfl
def A8V {m:Nat} (val:Fin m->Value) (w:World) (b:Nat) (ys:Array (Fin m)) [Inhabited (Fin m)]:putRow val w b 0 ys=putRow id w b 0 (ys.toList.map val).toArray:=by
 unfold putRow;congr 1;funext c;unfold putCells;congr 1;funext k x;by_cases h:0≤k∧k<0+ys.size
 ·have hk:k-0<ys.size:=by omega
  rw [if_pos h,if_pos (by simpa using h)];rw [getElem!_pos ys (k-0) (by simpa using hk),getElem!_pos _ (k-0) (by simpa using hk)];simp
 ·rw [if_neg h,if_neg (by simpa using h)]
noncomputable def A6t {β:Type} (cf:β->β->Int) (xs:List β):List β:=
 if h:0<xs.length then (@A4R (Fin xs.length) ⟨⟨0,h⟩⟩ (fun i j=>cf xs[i] xs[j]) (List.finRange xs.length)).map fun i=>xs[i] else []
def B4l {β:Type} {cf:β->β->Int} (hO:SWO (ltOf cf)) (xs:List β):(A6t cf xs).Perm xs∧ ∀(i j:Nat) x y,i<j->(A6t cf xs)[i]? =some x->(A6t cf xs)[j]? =some y->ltOf cf y x=false:=by
 unfold A6t;split
 ·rename_i h;have hO':SWO (ltOf fun i j:Fin xs.length=>cf xs[i] xs[j]):=⟨fun x=>hO.irrefl _,fun x y z=>hO.trans _ _ _,fun x y z=>hO.ntrans _ _ _⟩;obtain ⟨h1,h2⟩:= @A3U (Fin xs.length) ⟨⟨0,h⟩⟩ _ hO' (List.finRange xs.length);refine ⟨?_,fun i j x y hij hx hy=> ?_⟩
  ·have:=h1.map fun i=>xs[i];refine this.trans (List.Perm.of_eq ?_);apply VJ
   ·simp
   ·intro i p q; simp
  ·simp only [QQ,Option.map_eq_some_iff] at hx hy;obtain ⟨a,ha,rfl⟩:=hx;obtain ⟨b,hb,rfl⟩:=hy;exact h2 i j a b hij ha hb
 ·rename_i h;have:xs=[]:=by cases xs with
   | nil=>rfl
   | cons=>simp at h
  subst this;exact ⟨List.Perm.refl _,by simp⟩
def A9W {P:Program} {ρ:Go.Shelf.Ren} {β:Type} (L:Go.Proofs.SlLaysF.n6 P ρ) (rw':β->List (List Tree)) (cf:β->β->Int) (hO:SWO (ltOf cf)) (g:Nat)
  (hcmp: ∀x y,ACall P g [.t (.slice (rw' x)),.t (.slice (rw' y))] (.t (.int .i64 (cf x y)))) (hent: ∀args w,(callFunc (ρ.f 6) args).run P w= .ok (.enter (ρ.f 6) args) w) (xs:List β) (hpos:0<xs.length) (hlen:xs.length<4611686018427387904)
  {H:List Blk} {id' cap:Nat} (hid:H[id']? =some (.box (xs.map fun x=> .slice (rw' x) .none))):
  ACallH P (ρ.f 6) H [.c (.ref id' 1 0 xs.length cap),.c (.fn g [])] (H.set id' (.box ((A6t cf xs).map fun x=> .slice (rw' x) .none))) (.tup []):=by
 refine ⟨hent,fun ι σ w vs hH hl hv=> ?_⟩
 match vs,hl with
 | [v0,v1],_=>
 have h0:CRel ι σ w H (.ref id' 1 0 xs.length cap) v0:=hv 0 _ v0 rfl rfl;have h1:CRel ι σ w H (.fn g []) v1:=hv 1 _ v1 rfl rfl;obtain ⟨b,hi,cap',_,rfl⟩:=h0;obtain ⟨ws,rfl,hwl,_⟩:=h1;have:ws=[]:=by simpa using hwl
 subst this;obtain ⟨F,hFl,hh,hF⟩:=B5B hH hid hi;have hFl':F.length=xs.length:=by simpa using hFl
 obtain ⟨⟨arr,e,fz,ha⟩,_⟩:=hH.2 id' _ b hid hi
 letI:Inhabited (Fin xs.length):=⟨⟨0,hpos⟩⟩
 let val:Fin xs.length->Value:=fun i=>F[i.val]'(by have:=i.isLt; omega);have hval: ∀i:Fin xs.length,TRel (Stab σ) w (.slice (rw' xs[i])) (val i):=fun i=>by
  have h1:(xs.map fun x=>ACell.slice (rw' x) .none)[i.val]? =some (.slice (rw' xs[i]) .none):=by simp
  have h2:F.toArray[i.val]? =some (val i):=by
   have:=i.isLt;simp only [Wz];exact Qq (by omega)
  exact (hF.2 _ _ _ h1 h2).1
 have hone: ∀i,(val i).oneCell'=true:=fun i=>B8P (hval i);have hcells: ∀ys:List (Fin xs.length),A0I ι σ w H (ys.map fun i=>ACell.slice (rw' xs[i]) .none) (ys.map val).toArray:=fun ys=>by
  refine ⟨by simp,fun j c u h1 h2=> ?_⟩;simp only [QQ,Wz] at h1 h2;cases hy:ys[j]? with
  | none=>simp [hy] at h1
  | some i=>simp [hy] at h1 h2; subst h1; subst h2; exact ⟨hval i,trivial⟩
 have hfin:((List.finRange xs.length).map val)=F:=by
  apply VJ
  ·simp [hFl']
  ·intro i p q; simp [val]
 have hholds:Holds val w b 0 (List.finRange xs.length).toArray:=by
  intro j hj;have hj':j<xs.length:=by simpa using hj
  have:=hh j (by simp; omega);rw [getElem!_pos F.toArray j (by simp; omega)] at this;rw [getElem!_pos _ j hj];simpa [val] using this
 have hO':SWO (ltOf fun i j:Fin xs.length=>cf xs[i] xs[j]):=⟨fun x=>hO.irrefl _,fun x y z=>hO.trans _ _ _,fun x y z=>hO.ntrans _ _ _⟩;have hc:Go.Proofs.CmpLays1 P g #[] val (fun i j=>cf xs[i] xs[j]) b 0 (List.finRange xs.length).toArray.size w:=by
  intro m os dk hdk x y;have hdk':dk.toList.length=xs.length:=by simpa using hdk
  obtain ⟨σ',r1,r2,r3⟩:=A8U hH hid hi (hcells dk.toList) (by simp only [XW]; exact hdk') m os;have hW:Go.Proofs.sortWorld val w b 0 m dk os=Sort.grow (putRow id (Sort.ahead w m) b 0 (dk.toList.map val).toArray) os:=by
   unfold Go.Proofs.sortWorld;rw [<-A8V val]
  rw [hW];generalize Sort.grow (putRow id (Sort.ahead w m) b 0 (dk.toList.map val).toArray) os=W at*
  have:=(hcmp xs[x] xs[y]).runs (Stab σ') W [val x,val y] rfl (fun j z u q1 q2=>by
   match j with
   | 0=>simp at q1 q2; subst q1; subst q2; exact r2.t (hval x)
   | 1=>simp at q1 q2; subst q1; subst q2; exact r2.t (hval y)
   | j+2=>simp at q1)
  refine Calls.mono (R:=fun e w'=> ∃v,e= .returned v∧_) (by simpa using this) ?_;rintro e w' ⟨v,rfl,hr,hb,hd⟩;cases hr;obtain ⟨q,os',hw⟩:=A6r hb hd;exact ⟨rfl,q,os',hw⟩
 have run:=Go.Proofs.Any.slices_SortFunc_eq L val hone (fun i j=>cf xs[i] xs[j]) hO' g #[] b 0 cap' (List.finRange xs.length).toArray w (hcmp xs[(⟨0,hpos⟩:Fin xs.length)] xs[(⟨0,hpos⟩:Fin xs.length)]).enters hc hholds (Xz.1 ha).1 (by simpa using hlen);refine Calls.mono (by simpa using run) ?_;rintro e w' ⟨rfl,n,os,hw⟩;have hs:A6t cf xs=(A4R (fun i j:Fin xs.length=>cf xs[i] xs[j]) (List.finRange xs.length)).map fun i=>xs[i]:=by
  unfold A6t; rw [dif_pos hpos]
 have hsl:(A4R (fun i j:Fin xs.length=>cf xs[i] xs[j]) (List.finRange xs.length)).length=xs.length:=by
  rw [(A3U hO' _).1.length_eq]; simp
 have hw2:w'=Sort.grow (putRow id (Sort.ahead w n) b 0 ((A4R (fun i j:Fin xs.length=>cf xs[i] xs[j]) (List.finRange xs.length)).map val).toArray) os:=by
  rw [hw];unfold Go.Proofs.sortWorld;rw [A8V val];unfold A4R;rw [List.length_finRange];rfl
 rw [hw2,hs,Qq1];obtain ⟨σ',r1,r2,r3⟩:=A8U hH hid hi (hcells (A4R (fun i j:Fin xs.length=>cf xs[i] xs[j]) (List.finRange xs.length))) (by rw [XW,XW]; exact hsl) n os;exact ⟨_,ι,σ',rfl,⟨#[],rfl,rfl,by simp⟩,r1,r2,r3⟩
end
section
def C6e (pos:Nat->Nat) (a b i:Nat) (o:Oper):Oper:=
 { o with after:=(o.after.toList.map (fun e=>Edge.mk (pos e.on) e.ground)++if i=b then [Edge.mk (pos a) .data] else []).toArray,guard:=none }
def A8W (pos:Nat->Nat) (a b:Nat) (ops:Array Oper):Array Oper:=
 ((List.range ops.size).map fun k=>C6e pos a b (pos k) (ops[pos k]?.getD ⟨none,.move (.tmp 0),0,"",#[],none⟩)).toArray
structure Pos (pos:Nat->Nat) (n:Nat):Prop where
 two: ∀i,pos (pos i)=i
 lt: ∀i,i<n->pos i<n
def Pos.id (n:Nat):Pos (fun i=>i) n:=⟨fun _=>rfl,fun _ h=>h⟩
variable {pos:Nat->Nat} {a b:Nat} {ops:Array Oper}
def A51:(A8W pos a b ops).size=ops.size:=by simp [A8W]
def A8X (hp:Pos pos ops.size) (i:Nat):(A8W pos a b ops)[pos i]? =(ops[i]?).map (C6e pos a b i):=by
 by_cases hi:i<ops.size
 ·have h1:=hp.lt i hi;have e:ops[i]? =some ops[i]:=QZ hi;rw [e];simp [A8W,h1,hp.two i,e]
 ·have h1: ¬pos i<ops.size:=fun h=>hi (by have:=hp.lt _ h; rwa [hp.two] at this);rw [Qj8 (xs:=A8W pos a b ops) (by rw [A51]; omega),Qj8 (xs:=ops) (by omega)]; rfl
def C6w (F:Fence) (n:Nat) (P:Program) (o:Oper) (pos:Nat->Nat) (a b i:Nat):(C6e pos a b i o).wpIn F n P=o.wpIn F n P:=by
 cases o; rfl
def A8Y (F:Fence) (n:Nat) (P:Program) (Q:Exit->Act->World->Prop) (hp:Pos pos ops.size) (hg: ∀(i:Nat) o,ops[i]? =some o->o.guard=none):
  ∀s:List Nat,wpOpsIn F n P (A8W pos a b ops) Q (s.map pos)=wpOpsIn F n P ops Q s:=by
 intro s
 induction s with
 | nil=>rfl
 | cons i s ih=>
  funext x w;simp only [XY,wpOpsIn,A8X hp];cases ho:ops[i]? with
  | none=>simp only [Option.map_none,ih]
  | some o=>
   have hgo:=hg i o ho;have e1:Region.wanted (C6e pos a b i o) (yielded (A8W pos a b ops) x.tmps)=true:=rfl;have e2:Region.wanted o (yielded ops x.tmps)=true:=by simp [Region.wanted,hgo]
   simp only [Option.map_some,e1,e2,if_true,ih,C6w]
def Before (a b:Nat):List Nat->List Nat->Prop
 | _,[]=>True
 | X,i::s=>(i=b->a∈X)∧Before a b (i::X) s
def A8Z {a b:Nat}: ∀(s X:List Nat),a∈X->Before a b X s
 | [],_,_=>Qv3
 | i::s,X,h=>⟨fun _=>h,A8Z s (i::X) (YY _ h)⟩
def B2J {a b:Nat} (hab:a≠b): ∀(s X:List Nat),Before a b X s∨Before b a X s
 | [],_=> .inl Qv3
 | i::s,X=>by
  by_cases h1:i=a
  ·subst h1;exact .inl ⟨fun h=>absurd h hab,A8Z s _ (by simp)⟩
  ·by_cases h2:i=b
   ·subst h2;exact .inr ⟨fun h=>absurd h h1,A8Z s _ (by simp)⟩
   ·rcases B2J hab s (i::X) with h | h
    ·exact .inl ⟨fun h'=>absurd h' h2,h⟩
    ·exact .inr ⟨fun h'=>absurd h' h1,h⟩
def A9a (hp:Pos pos ops.size): ∀(s X:List Nat),Sched ops X s->Before a b X s->Sched (A8W pos a b ops) (X.map pos) (s.map pos):=by
 intro s
 induction s with
 | nil=>intro X _ _; exact .nil _
 | cons i s ih=>
  intro X hs hb;cases hs with
  | cons ho hi hd hs=>
  refine .cons (o:=C6e pos a b i _) (by rw [A8X hp,ho]; rfl) ?_ ?_ (by have:=ih _ hs hb.2; simpa using this)
  ·intro h;obtain ⟨j,hj,e⟩:=QY.1 h;have:j=i:=by rw [<-hp.two j,e,hp.two]
   exact hi (this▸hj)
  ·intro e he hbd;simp only [C6e,List.mem_toArray,XZ,QY] at he;rcases he with ⟨e',he',rfl⟩ | he
   ·have:Region.binds .any e'=true:=by simpa [Region.binds] using hbd
    exact List.mem_map_of_mem (hd e' (by simpa using he') this)
   ·split at he
    ·rename_i hib;simp only [XQ] at he;subst he;exact List.mem_map_of_mem (hb.1 hib)
    ·cases he
variable {wd:Wd} {P:Program} {rd:Option Nat}
def Sim (l l':List Oper):Prop:=l.length=l'.length∧ ∀(k:Nat) o,l[k]? =some o-> ∃aft,l'[k]? =some { o with after:=aft,guard:=none }
def B2K {o:Oper} {aft:Array Edge} {ρ:Operand->AVal} {H H':List Blk} {rv:AVal} (h:AStep P rd o ρ H rv H'):AStep P rd { o with after:=aft,guard:=none } ρ H rv H':=by
 cases o; exact h
def RunD.fix {all all':Array Oper} {l:List Oper} {tm tm':List AVal} {H H':List Blk} {r:List (AVal×List Blk)} (h:RunD wd P rd all l tm H r tm' H'):
  ∀l',Sim l l'->(∀o,o∈l->o.guard=none)->RunD wd P rd all' l' tm H r tm' H':=by
 induction h with
 | nil tm H=>
  intro l' hs _;have:l'=[]:=ZY.1 hs.1.symm;rw [this]; exact .nil _ _
 | cons hs hr ih=>
  rename_i o rest tm tm' H H' H'' rv l;intro l' hsim hg;cases l' with
  | nil=>exact absurd hsim.1 (by simp)
  | cons o' l'=>
   obtain ⟨aft,he⟩:=hsim.2 0 o rfl;simp at he;subst he;have hgo:=hg o (by simp);have g1:gwant all tm o=some true:=by unfold gwant; rw [hgo]
   have hs':B85 wd P rd all' { o with after:=aft,guard:=none } tm H rv H':=by
    rcases hs with ⟨h1,_⟩ | ⟨_,h2⟩
    ·rw [g1] at h1; cases h1
    ·refine .inr ⟨rfl,?_⟩;rcases h2 with ⟨a1,a2,a3,a4⟩ | ⟨a1,a2,a3⟩
     ·exact .inl ⟨a1,a2,fun H=>B2K (a3 H),a4⟩
     ·exact .inr ⟨a1,B2K a2,a3⟩
   exact .cons hs' (ih l' ⟨by simpa using hsim.1,fun k o hk=>by have:=hsim.2 (k+1) o (by simpa using hk); simpa using this⟩ (fun x hx=>hg x (YY _ hx)))
def B2L (hp:Pos pos ops.size) (l:List Oper) (hl:l.length=ops.size) (hk: ∀k:Nat,k<ops.size->l[k]? =ops[pos k]?):Sim l (A8W pos a b ops).toList:=by
 refine ⟨by rw [hl]; simp [A51],fun k o ho=> ?_⟩;have hlt:k<ops.size:=by have:=(Qx.1 ho).1; omega
 rw [hk k hlt] at ho;have h1:=A8X (a:=a) (b:=b) hp (pos k);rw [hp.two,ho] at h1;exact ⟨_,by rw [WY,h1]; rfl⟩
def B5C (hok:A8L wd ops=true) {l:List (AVal×List Blk)} {tm':List AVal} {H':List Blk} (hr:RunD wd P rd ops ops.toList tm H l tm' H') {s:List Nat} (hs:Sched ops [] s) (hcov: ∀i,i<ops.size->i∈s)
  {Q:Exit->Act->World->Prop} {ι:List Nat} {σ:Sig} {a:Act} {w:World} (h1:TmpsRel ι σ w H tm a.tmps) (h2:HRel ι σ w H) (h3:RdOK rd σ w) {σ0:Sig} {w0:World} (hm:Mono ι σ0 w0 H ι σ w H) (he:Ext σ0 w0 σ w)
  (hq: ∀ι' σ' a' w',TmpsRel ι' σ' w' H' tm' a'.tmps->HRel ι' σ' w' H'->Mono ι σ0 w0 H ι' σ' w' H'->Ext σ0 w0 σ' w'->a'.defers=a.defers->Q .normal a' w'):wpOpsIn (Fr rd) 9 P ops Q s a w:=by
 let rv:Nat->AVal:=fun i=>((l[i]?).map (·.1)).getD (.c .any);let Hs:Nat->List Blk:=fun i=>match i with | 0=>H | i+1=>((l[i]?).map (·.2)).getD H
 obtain ⟨s1,s2,s3⟩:=hr.all (rv:=rv) (Hs:=Hs) (tm0:=tm) 0 (fun j=>by simp) (fun j x hj=>by simp [rv,Hs,hj]) rfl rfl
 let T:Trace wd P rd ops tm H:=⟨fun _=>true,rv,Hs,rfl,fun i o ho=>by
  have:=s1 i o (by simpa using ho);simp only [XX] at this
  exact this⟩
 have hn:ops.toList.length=ops.size:=by simp
 rw [hn] at s2 s3;simp only [XX] at s2 s3;have e0:replay (A0P ops) T.rv (mem []) ops.size tm=tm:=by
  have: ∀m,replay (A0P ops) T.rv (mem []) m tm=tm:=by
   intro m
   induction m with
   | zero=>rfl
   | succ m ih=>simp only [replay,mem,XJ,decide_false,Yk,if_false]; exact ih
  exact this _
 refine T.sound hok Q a.defers ι σ0 w0 ?_ s [] hs (fun j o hj=>by cases hj) (fun i hi=> .inr (hcov i hi)) (by simp) ι σ a w 0 (Xj _) (fun j hj hl=>by simp) ?_ h2 h3 hm he rfl
 ·intro ι' σ' a' w' q1 q2 q3 q4 q5;have e3:T.Hs ops.size=H':=s3.symm;have e2:replay (A0P ops) T.rv (fun _=>true) ops.size tm=tm':=s2.symm;rw [e3] at q1 q2 q3;rw [e2] at q1;exact hq ι' σ' a' w' q1 q2 q3 q4 q5
 ·rw [e0]; exact h1
end
section
def bsw (k i:Nat):Nat:=if i<k then i+k else if i<2*k then i-k else i
def C6f (k:Nat) (l:List Oper):List Oper:=(l.drop k).take k++(l.take k++l.drop (2*k))
def C2p (k:Nat) (l:List Oper) (i:Nat) (h:2*k≤l.length):(C6f k l)[i]? =l[bsw k i]? :=by
 have e1:((l.drop k).take k).length=k:=by simp; omega
 have e2:(l.take k).length=k:=by simp; omega
 unfold C6f Sp.bsw;by_cases h1:i<k
 ·rw [if_pos h1,Qw (by omega),Xx h1,YX,Qq5]
 ·rw [if_neg h1,QW (by omega),e1];by_cases h2:i<2*k
  ·rw [if_pos h2,Qw (by omega),Xx (by omega)]
  ·rw [if_neg h2,QW (by omega),e2,YX]; congr 1; omega
def B4m (k:Nat) (l:List Oper) (h:2*k≤l.length):(C6f k l).length=l.length:=by
 unfold C6f; simp; omega
variable {P:Program} {rd:Option Nat} {wd:Wd}
end
section
variable {P:Program} {rd:Option Nat} {o:Oper} {ρ:Operand->AVal} {H:List Blk}
def A7N {k:Nat}: ∀{rows:List (List Tree)},(∀r,r∈rows->r.length=k)->(flatRows rows).length=rows.length*k
 | [],_=>by simp [flatRows]
 | r::rows,h=>by
  have ih:=A7N (rows:=rows) fun r hr=>h r (by simp [hr]);have h1:=h r (by simp);unfold flatRows at ih ⊢;rw [XW] at ih ⊢;rw [List.flatten_cons,Xv,ih,h1,List.length_cons,Vx];omega
def A7q (x y:Operand) (t tx:TypeId) (ho:o.op= .call { callee:= .builtin .append,args:= #[x,y],argTypes:= #[t,tx] }) {e e2:TypeId} (hE:A03 P t=some (none,e)) (hE2:A03 P tx=some (none,e2)) {k:Nat} (hk:A0u P e=some k) (hk0:0<k)
  {z:Value} (hz:A01 P e=some z) (hzc:z.cells.size=k) {by':Nat} (hby:A0x P e=some by') (hx:ρ x= .c (.slice [] .exact)) {rows:List (List Tree)} (hy:rowsOf (ρ y)=some rows) (hr: ∀r,r∈rows->r.length=k) (hn0:0<rows.length)
  (hfit:rows.length*by'≤140737488355328) (h63:rows.length≤4611686018427387904):
  AStep P rd o ρ H (.c (.ref H.length k 0 rows.length rows.length)) (H++[.box (flatRows rows)]):=by
 refine AStep.turn (by simp [ho]) fun ι σ a w hx' hH=> ?_;have vx:=hx' x (by simp [Op.operands,ho,Call.operands]);rw [hx] at vx;obtain ⟨v1,ax,nx,e0⟩:=vx;obtain ⟨ax',ev⟩: ∃a',a.eval x= .slice a' 0 0:=by
  rw [e0] at v1 ⊢;cases v1 with
  | nil a c=>exact ⟨_,rfl⟩
  | slice b off k c rows cell hn=>exact ⟨_,rfl⟩
 have vy:=A1X (hx' y (by simp [Op.operands,ho,Call.operands])) hy;have hu:=A0w hE;obtain ⟨inf,hi,hsz,hbb,hzz⟩: ∃inf,P.info? e=some inf∧inf.size=k∧inf.bytes=by'∧inf.zero=some z:=by
  unfold A0u at hk; unfold A0x at hby; unfold A01 at hz;cases hi:P.info? e with
  | none=>simp [hi] at hk
  | some inf=>simp [hi] at hk hby hz; exact ⟨inf,rfl,hk,hby,hz⟩
 subst hsz;obtain ⟨news,hsrc,hg⟩:=vy.src (P:=P) (k:=inf.size) hr hk0 (A0w hE2);have hfl:=A7N hr;have hnl:=hsrc.newsLen
 have hrun:=run_append_grow_src w t tx o.type e inf z hu hi hzz ax' 0 0 [] (by cases ax' with
  | none=>exact run_firstCells_none w.drew _ _ _ _
  | some ad=>exact run_firstCells_some w.drew _ _ ad _ _ [] (by simp) (fun j u h=>by simp at h)) (a.eval y) rows.length news hsrc (by omega) (by omega) (by
  have h2:=nextslicecap_le (need:=rows.length) (old:=0) (by omega);rw [XX];refine Yw (YJ _ h2) ?_
  rw [hbb,Nat.mul_assoc]; omega)
 rw [XX] at hrun;have hge:=grownCap_ge w rows.length 0 e;generalize grownCap w rows.length 0 e=c' at hrun hge;generalize harr:(([]++news).toArray++Builtin.zeroCells z.cells (c'-rows.length))=arr at hrun;have hcellA: ∀m,m<rows.length*inf.size->arr[m]? =news[m]? :=fun m hm=>by
  rw [<-harr,Wv (by simp [hnl]; omega)];simp
 have hw: ∀b,b<w.heap.size->(w.drew.alloc (.cells arr e)).heap[b]? =w.heap[b]? :=fun b hb=>Below.heap_alloc w.drew _ b hb;have hnew:(w.drew.alloc (.cells arr e)).heap[w.heap.size]? =some (.cells arr e):=A5o w.drew _;have hs: ∀b o,b<w.heap.size->(σ.new w.heap.size (.mine H.length)) b o=σ b o:=fun b o hb=>by simp [Sig.new,Qx5 hb]
 have hsz':w.heap.size≤(w.drew.alloc (.cells arr e)).heap.size:=by simp
 have E:Ext σ w (σ.new w.heap.size (.mine H.length)) (w.drew.alloc (.cells arr e)):=Ext.grow rfl rfl rfl hsz' hw hs (VV _);have M:=Mono.grow (ι:=ι) (H:=H) (σ':=σ.new w.heap.size (.mine H.length)) hw hs [w.heap.size] [.box (flatRows rows)]
 have hH':=hH.grow (σ':=σ.new w.heap.size (.mine H.length)) hw hs ⟨rfl,rfl,rfl,hsz',VV _⟩ [w.heap.size] [.box (flatRows rows)] rfl (fun j blk b' h1 h2=>by
  cases j with
  | succ j=>simp at h1
  | zero=>
   simp at h1 h2;subst h1; subst h2;refine ⟨⟨arr,e,_,hnew⟩,fun j c hj=> ?_⟩;have hjn:j<rows.length*inf.size:=by have:=(Qx.1 hj).1; rw [hfl] at this; exact this
   simp only [flatRows,QQ] at hj;cases hx2:rows.flatten[j]? with
   | none=>rw [hx2] at hj; simp at hj
   | some tr=>
    rw [hx2] at hj; simp at hj; subst hj;obtain ⟨i',j',r,rfl,hri,hrj⟩:=A2r hr hx2;obtain ⟨u',hu',hur⟩:=hg i' r j' tr hri hrj;refine ⟨by simp [Sig.new],by unfold World.frozen?; rw [hnew]; simp,u',by unfold World.cell?; rw [hnew]; simp [hcellA _ hjn,hu'],?_⟩
    exact M.cell (A0C hur))
 refine ⟨_,_,_,_,.inl ?_,⟨w.heap.size,by simp [<-hH.1],c',hge,rfl⟩,hH',M,E⟩;rw [<-ev] at hrun;simp [execOp,ho,resolve,invoke,builtin,hrun]
end
section thaw
variable {P:Program} {h:Nat} {c:Code} {Q:Exit->St->Prop} {tm:List AVal} {H:List Blk} {rows:List (List Tree)} {i k tip:Nat}
def FWp.thawLT (t:Nat) (ht:tm[t]? =some (.c (.slice rows (.chain i)))) (hi:H[i]? =some (.chain tip k)) (hrk: ∀r,r∈rows->r.length=k) (hk:0<k) (hsl: ∀r,r∈rows->B15 r) (hne:rows≠[])
  (hsafe: ∀(id:Nat) (blk:Blk),H[id]? =some blk->B7c blk) (hsv: ∀v,v∈tm.set t (.c .any)->C2o v) (hmaps: ∀id,id<h-> ∃es,H[id]? =some (.map es))
  (hw: ∀cap,rows.length≤cap->FWp P h c Q ⟨tm.set t (.c (.ref H.length k 0 rows.length cap)),H++[.box (flatRows rows)]⟩):FWp P h c Q ⟨tm,H⟩:=by
 refine ⟨fun N ι0 σ0 w0 H0 ι σ a w h1 h2 h3 h4 h5 h6=> ?_⟩;have htl:t<tm.length:=(Qx.1 ht).1;have htl':t<a.tmps.size:=by rw [h1.tmps.1]; exact htl
 obtain ⟨b,cap,q1,q2,q3,q4,σ',s0,s1,s2,s3⟩:=B7e h1.heap (h1.tmps.2 t _ _ ht (QZ htl')) hi hrk hk hsl hne hsafe;obtain ⟨r1,r2,r3⟩:=B2A (H':=H++[.box (flatRows rows)]) h2 h4 h5 h6 h1.heap hmaps hi q3 q4 s1 s2;refine (hw cap q1).out N ι0 σ0 w0 H0 (ι++[b]) σ' a w ⟨⟨by simpa using h1.tmps.1,fun t' x v p1 p2=> ?_⟩,s3⟩ r1 h3 r2 r3 h6;have hext: ∀(id b':Nat),ι[id]? =some b'->(ι++[b])[id]? =some b':=fun id b' h=>by rw [Qw (Qx.1 h).1]; exact h
 by_cases e:t=t'
 ·subst e;rw [QX htl] at p1;rw [QZ htl'] at p2;cases p1; cases p2;exact ⟨b,by rw [<-h1.heap.1]; simp,cap,Qk _,q2⟩
 ·rw [Qy e] at p1;have hs:=hsv x (Qv (i:=t') (by rw [Qy e]; exact p1));exact B8O s0 hext hs (h1.tmps.2 t' x v p1 p2)
end thaw
def AReg.yieldG {h:Nat} {Q:Exit->St->Prop} {all:Array Oper} {rest0 rest:List Oper} {H1:List Blk} {G G' Gx:Sig->World->Prop} {o:Oper} (he:rest0=o::rest)
  {x:Operand} {xs:Array Operand} {ats:Array TypeId} (ho:o.op= .call { callee:= .value x,args:=xs,argTypes:=ats }) (hg:gwant all tm o=some true) {l:Nat} (hx:aeval tm x= .c (.yld l))
  {ts:List TVal} (ha:(xs.toList.map (aeval tm)).mapM (toT A0a)=some ts) (hok: ∀blk,blk∈H1->okBlk blk) (hY:YStep P l G ts G' Gx) (hc:Clo G') (hcx:Clo Gx)
  (ht:AReg P none h all rest Q (A1a tm o.dst (.c (.bool true))) (.ghost G'::H1)) (hf:AReg P none h all rest Q (A1a tm o.dst (.c (.bool false))) (.ghost Gx::H1)):
  AReg P none h all rest0 Q tm (.ghost G::H1):=by
 subst he;refine ⟨fun N ι0 σ0 w0 H0 ι σ a w r1 r2 r3 r4 r5=> ?_⟩;unfold wpListIn;rw [if_pos (A07 r1.tmps hg)];refine ⟨fun _ _=>trivial,?_⟩;rw [Oper.semAt_eq _ _ _ (by simp [ho])];have ev:=A0J r1.tmps x;rw [hx] at ev;have ev':a.eval x= .func (.yield l) #[] #[]:=ev;obtain ⟨m1,m2⟩:=A08 ha;have hG:G σ w:=by
  have h0: ∃b,ι[0]? =some b:=⟨ι[0]'(by rw [r1.heap.1]; simp),Qq _⟩;obtain ⟨b,hb⟩:=h0;exact (r1.heap.2 0 _ b rfl hb).1
 obtain ⟨fn,tmps,assign,body,hy,hR⟩:=hY σ w (xs.toList.map a.eval) hG (by simpa using m1.symm) (fun j t u h1 h2=>by
  have hlt:j<xs.toList.length:=by have:=(Qx.1 h2).1; simpa using this
  have hq:=Qq hlt;simp only [QQ,hq,Option.map_some,Vv] at h2;subst h2
  exact A4E (fun c t v h3 h4=>A0y h3 h4) (A0J r1.tmps _) (m2 j _ t (by simp [hq]) h1))
 have hrun:(execOp a.eval o).run P w= .ok (.round l fn tmps assign body) w:=by
  have e1:(xs.toList.map a.eval).toArray=xs.map a.eval:=by apply JW; simp
  rw [e1] at hy;simp [execOp,ho,resolve,ev',Deferred.ofValue,invoke,hy]
 rw [hrun];refine ⟨fun h=>by simp [Fr] at h,hR.mono ?_⟩;rintro e w' ⟨σ',g,hcase⟩;have key: ∀{G2:Sig->World->Prop} {bv:Bool},Clo G2->G2 σ' w'->AReg P none h all rest Q (A1a tm o.dst (.c (.bool bv))) (.ghost G2::H1)->wpListIn (Fr none) 9 P all (APost N h ι0 σ0 w0 H0 Q) rest (a.put o.dst (.bool bv)) w':=by
  intro G2 bv hc2 hG2 hA;have M:Mono ι σ w (.ghost G::H1) ι σ' w' (.ghost G2::H1):=g.mono;refine hA.out N ι0 σ0 w0 H0 ι σ' _ w' ⟨A0K (r1.tmps.mono M) rfl,g.heap r1.heap hok hG2 hc2⟩ (r2.ext g.ext) ?_ (r4.trans g.ext) (r5.take2 (M.take h));rw [Act.put_defers]; exact r3.ext g.ext
 rcases hcase with ⟨rfl,h1⟩ | ⟨rfl,h1⟩
 ·exact key hc h1 ht
 ·exact key hcx h1 hf
def capOf:ACell->Option ACap
 | .ptr id off=>some (.ptr id off)
 | .ref id k off len cap=>some (.ref id k off len cap)
 | c=>(A0a c).map .tree
def B8Q {c:ACell} {k:ACap} {v:Value} (h:CRel ι σ w H c v) (hk:capOf c=some k):KRel ι σ w k v:=by
 unfold capOf at hk;split at hk
 ·cases hk; exact h
 ·cases hk; exact h
 ·cases ht:A0a c with
  | none=>rw [ht] at hk; cases hk
  | some t=>rw [ht] at hk; cases hk; exact A0y h ht
def B8R {cs:List ACell} {ks:List ACap} (hH:HRel ι σ w H) (hj:H[j]? =some (.box cs)) (hks:cs.mapM capOf=some ks):HRel ι (frz j σ) w (H.set j (.roC ks)):=by
 have M:=A6q (ι:=ι) (σ:=σ) (w:=w) hj (.roC ks);have hjl:j<H.length:=(Qx.1 hj).1;refine ⟨by simp [hH.1],fun id blk b h1 h2=> ?_⟩;by_cases e:j=id
 ·subst e;rw [QX hjl] at h1;cases h1;obtain ⟨_,hcs⟩:=hH.2 j _ b hj h2;obtain ⟨m1,m2⟩:=A08 hks;intro i t hi;have hlt:i<cs.length:=by have:=(Qx.1 hi).1; omega
  have hc:=Qq hlt;obtain ⟨q1,_,v,q2,q3⟩:=hcs i _ hc;exact ⟨B56 q1,v,q2,M.k (B8Q q3 (m2 i _ t hc hi))⟩
 ·rw [Qy e] at h1;have hne:id≠j:=fun h=>e h.symm;have:=hH.2 id blk b h1 h2;cases blk with
  | box cs'=>
   obtain ⟨ha,hc⟩:=this;exact ⟨ha,fun i c hi=>let ⟨q1,q2,v,q3,q4⟩:=hc i c hi; ⟨A23 hne q1,q2,v,q3,M.cell q4⟩⟩
  | ro ts'=>exact fun i t hi=>let ⟨q1,v,q2,q3⟩:=this i t hi; ⟨A16 q1,v,q2,M.t q3⟩
  | roC ts'=>exact fun i t hi=>let ⟨q1,v,q2,q3⟩:=this i t hi; ⟨A16 q1,v,q2,M.k q3⟩
  | chain _ _=>trivial
  | dead=>trivial
  | map es=>
   obtain ⟨s1,arr',s2,s3,s4⟩:=this;exact ⟨fun o=>A23 hne (s1 o),arr',s2,s3,fun i e x p1 p2=>⟨(s4 i e x p1 p2).1,(s4 i e x p1 p2).2.1,M.mv (s4 i e x p1 p2).2.2⟩⟩
  | iter m n seen=>
   obtain ⟨s1,bm,s2,s3⟩:=this;exact ⟨fun o=>A23 hne (s1 o),bm,s2,s3⟩
  | ghost G=>
   refine ⟨this.2 _ _ _ _ ⟨rfl,rfl,rfl,Qk _,fun _ _ _ h h'=>⟨A16 h,h'⟩,fun b hb hm ha=>⟨rfl,fun o=> ?_⟩,Qk _⟩ this.1,this.2⟩;rcases ha o with h | h
   ·rw [h,A23 hne h]
   ·rw [h,A16 h]
def AWp.freezeC {P:Program} {rd:Option Nat} {h:Nat} {Q:Exit->St->Prop} {c:Code} {tm:List AVal} {H:List Blk} {cs:List ACell} {ks:List ACap} (j:Nat) (hj:H[j]? =some (.box cs)) (hks:cs.mapM capOf=some ks)
  (hw:AWp P rd h c Q ⟨tm,H.set j (.roC ks)⟩):AWp P rd h c Q ⟨tm,H⟩:=by
 refine ⟨fun N ι σ a w h1 h2 h3 h4=> ?_⟩;have M:=A6q (ι:=ι) (σ:=σ) (w:=w) hj (.roC ks);have E:=B4d j σ w;exact wpIn_mono (hw.out N ι _ a w ⟨h1.tmps.mono M,B8R h1.heap hj hks⟩ (h2.ext E) h3 (h4.ext E)) fun _ _ _ hp=>hp.trans E (M.take h)
def C2q {ks:List ACap} {ts:List Tree} {v:Value} (hH:HRel ι σ w H) (hj:H[j]? =some (.roC ks)) (hp:ks.take ts.length=ts.map .tree) (h:CRel ι σ w H (.ptr j 0) v):TRel (Stab σ) w (.rptr ts) v:=by
 obtain ⟨b,hb,rfl⟩:=h;have hro:=hH.2 j _ b hj hb;have key: ∀(i:Nat) t,ts[i]? =some t->ks[i]? =some (.tree t):=fun i t hi=>by
  have hlt:=(Qx.1 hi).1;have:(ks.take ts.length)[i]? =some (.tree t):=by rw [hp,QQ,hi]; rfl
  rwa [Xx hlt] at this
 exact .rptr b 0 ts (fun i=>(w.cell? ⟨b,0+i,none⟩).getD undef) (fun i t hi=>by obtain ⟨q1,u,q2,q3⟩:=hro i _ (key i t hi); simp only [XX]; exact ⟨q1,by rw [q2]; rfl⟩)
  (fun i t hi=>by obtain ⟨q1,u,q2,q3⟩:=hro i _ (key i t hi); simp only [XX]; rw [q2]; exact q3)
def ACall.hC {ts:List TVal} {r:TVal} (h:ACall P f ts r) {H:List Blk} {args:List AVal} (hl:args.length=ts.length)
  (ha: ∀ι σ (w:World),HRel ι σ w H-> ∀(j:Nat) x t v,args[j]? =some x->ts[j]? =some t->VRel ι σ w H x v->TVRel (Stab σ) w t v):ACallH P f H args H (ofT r):=by
 refine ⟨h.enters,fun ι σ w vs hH hl2 hv=> ?_⟩;refine (h.runs (Stab σ) w vs (by omega) (fun j x u h1 h2=> ?_)).mono ?_
 ·have hlt:j<args.length:=by have:=(Qx.1 h1).1; omega
  have hc:=Qq hlt;exact ha ι σ w hH j _ x u hc h1 (hv j _ u hc h2)
 ·rintro e w' ⟨v,rfl,hr,hb,hd⟩;obtain ⟨σ',hs,hn,hH',M,hE⟩:=A4h hH hb hd;refine ⟨v,ι,σ',rfl,A3b (hr.mono fun b o u h1 h2=>⟨?_,h2⟩),hH',M,hE⟩;by_cases hlt:b<w.heap.size
  ·rcases h1 with h1 | h1
   ·exact (hs b o hlt).trans h1
   ·omega
  ·exact hn b o (by omega)
def ACallH.trim {H H' X:List Blk} {r:AVal} (h:ACallH P f H args (H'++X) r) (hl:H.length≤H'.length) (hv:B6P H'.length r) (hb:A1N H'.length H'):ACallH P f H args H' r:=by
 refine ⟨h.enters,fun ι σ w vs h1 h2 h3=>(h.runs ι σ w vs h1 h2 h3).mono ?_⟩;rintro e w' ⟨v,ι',σ',he,hr,hH,M,E⟩
 have hsr:SRel ι' σ' ⟨[r],H'++X⟩ { tmps:= #[v],defers:=[] } w':=⟨⟨rfl,fun t x u q1 q2=>by
  cases t with
  | zero=>simp at q1 q2; subst q1; subst q2; exact hr
  | succ t=>simp at q1⟩,hH⟩
 have htk:(H'++X).take H'.length=H':=by simp
 obtain ⟨ι2,s,t1,t2⟩:=Weak.drop (h:=H'.length) (m:=H'.length) (Qk _) (tm:=[r]) (H:=H'++X) (A1y hv (A1K _)) (by rw [htk]; exact hb) ι' σ' _ w' hsr;rw [htk] at s t2;have hi2:ι2=ι'.take H'.length:=by
  have h5:ι2.length=H'.length:=s.heap.1;rw [<-t1,<-h5,Zz]
 refine ⟨v,ι2,σ',he,s.tmps.2 0 r v rfl rfl,s.heap,⟨M.stab,fun id b q=> ?_,fun id tip k q=> ?_⟩,E⟩
 ·have hlt:id<H'.length:=by have:=(Qx.1 q).1; rw [h1.1] at this; omega
  rw [hi2,Xx hlt]; exact M.iota id b q
 ·have hlt:id<H'.length:=by have:=(Qx.1 q).1; omega
  obtain ⟨tip',k',q1,q2⟩:=M.chain id tip k q;exact ⟨tip',k',by rwa [Qw hlt] at q1,q2⟩
def ACallH.data {H H':List Blk} {cs:List ACell} {ts:List Tree} {rows:List (List Tree)} {k len cap:Nat} (h:ACallH P f H args (H'++[.box cs]) (.c (.ref H'.length k 0 len cap))) (hl:H.length≤H'.length) (hb:A1N H'.length H')
  (hts:cs.mapM A0a=some ts) (hrows:rows.length=len) (hcap:len≤cap) (hk: ∀r,r∈rows->r.length=k) (hpre: ∀i r m x,rows[i]? =some r->r[m]? =some x->ts[i*k+m]? =some x):ACallH P f H args H' (.c (.slice rows .none)):=by
 have key:ACallH P f H args (H'++[.ro ts]) (.c (.slice rows .none)):=by
  refine ⟨h.enters,fun ι σ w vs h1 h2 h3=>(h.runs ι σ w vs h1 h2 h3).mono ?_⟩;rintro e w' ⟨v,ι',σ',he,hr,hH,M,E⟩;have hj:(H'++[Blk.box cs])[H'.length]? =some (.box cs):=by simp
  have hh:=B57 hH hj hts;have M2:=A6q (ι:=ι') (σ:=σ') (w:=w') hj (.ro ts);have hset:(H'++[Blk.box cs]).set H'.length (Blk.ro ts)=H'++[Blk.ro ts]:=by rw [Vq _ _ (Qk _),Jv]; rfl
  rw [hset] at hh M2;refine ⟨v,ι',frz H'.length σ',he,?_,hh,M.trans M2,E.trans (B4d _ _ _)⟩;obtain ⟨b,hb2,cap',hcap',rfl⟩:=M2.v hr;have hro:=hh.2 H'.length (.ro ts) b (by simp) hb2;subst hrows;refine ⟨.slice b 0 k cap' rows (fun i m=>(w'.cell? ⟨b,0+(i*k+m),none⟩).getD undef) (by omega) hk (fun i r m t q1 q2=> ?_) (fun i r m t q1 q2=> ?_),trivial⟩
  ·obtain ⟨s1,u,s2,s3⟩:=hro _ t (hpre i r m t q1 q2);simp only [XX]; exact ⟨s1,by rw [s2]; rfl⟩
  ·obtain ⟨s1,u,s2,s3⟩:=hro _ t (hpre i r m t q1 q2);simp only [XX]; rw [s2]; exact s3
 exact key.trim hl Qv3 hb
section
variable {P:Program} {rd:Option Nat} {o:Oper} {ρ:Operand->AVal} {H:List Blk}
def B4n (t:TypeId) (ho:o.op= .alloc t) (z:Value) (hz:A01 P t=some z) (h1:z.oneCell'=true):AStep P rd o ρ H (.c (.ptr H.length 0)) (H++[.box [.raw z]]):=by
 refine AStep.turn (by simp [ho]) fun ι σ a w hx' hH=> ?_;have hv:z.cells= #[z]:=by cases z<;>first | rfl | simp [Value.oneCell'] at h1
 have hc:A0I ι σ w H [.raw z] z.cells:=by
  rw [hv];refine ⟨rfl,fun j c' u h2 h3=> ?_⟩;cases j with
  | zero=>simp at h2 h3; subst h2; subst h3; exact ⟨rfl,h1⟩
  | succ j=>simp at h2
 obtain ⟨ι',σ',h⟩:=B2u hH t z.cells [.raw z] hc;refine ⟨_,_,ι',σ',.inl ?_,h⟩;unfold A01 at hz;cases hi:P.info? t with
 | none=>simp [hi] at hz
 | some i=>
  simp [hi] at hz;simp [execOp,ho,Instr.alloc,zeroValue,typeInfo,hi,hz,newVar,newRow,newObj];rfl
end
def AReg.allocR {P:Program} {rd:Option Nat} {h:Nat} {Q:Exit->St->Prop} {all:Array Oper} {rest0 rest:List Oper} {tm:List AVal} {H:List Blk} {o:Oper} {t:TypeId} {z:Value} (he:rest0=o::rest) (hgd:o.guard=none) (ho:o.op= .alloc t) (hz:A01 P t=some z) (h1:z.oneCell'=true)
  (hk:AReg P rd h all rest Q (A1a tm o.dst (.c (.ptr H.length 0))) (H++[.box [.raw z]])):AReg P rd h all rest0 Q tm H:=
 AReg.step he hgd (B4n t ho z hz h1) hk
def Weak.tailB {h:Nat} (i j k:Nat) {tm:List AVal} {H:List Blk} {cs:List ACell} (hi:H[i]? =some (.box cs)) {rows:List (List Tree)} (hj:cs[j]? =some (.slice rows .exact)) (hh:h≤i):
  Weak h ⟨tm,H⟩ ⟨tm,H.set i (.box (cs.set j (.slice rows (.tail H.length 0))))++[.chain 0 k]⟩:=by
 intro ι σ a w hr;have hil:i<H.length:=(Qx.1 hi).1;have hl:ι.length=H.length:=hr.heap.1;have M:Mono ι σ w H (ι++[0]) σ w (H.set i (.box (cs.set j (.slice rows (.tail H.length 0))))++[.chain 0 k]):=by
  refine ⟨fun b o u h h'=>⟨h,h'⟩,fun id b hb=>by rw [Qw (Qx.1 hb).1]; exact hb,fun id tip k0 hc=> ?_⟩;refine ⟨tip,k0,?_,MarkUp.refl _ _ _,.inr ⟨rfl,rfl,fun b o u h h'=>⟨h,⟨u,h'⟩,fun h3=>h3⟩⟩⟩;have hid:id<H.length:=(Qx.1 hc).1;rw [Qw (by simpa using hid),Qy (by rintro rfl; rw [hi] at hc; cases hc)];exact hc
 refine ⟨ι++[0],⟨hr.tmps.mono M,by simp [hl],fun id blk b h1 h2=> ?_⟩,?_,?_⟩
 ·by_cases hid:id<H.length
  ·rw [Qw (by simpa using hid)] at h1;rw [Qw (by omega)] at h2;by_cases e:i=id
   ·subst e;rw [QX hil] at h1;cases h1;obtain ⟨ha,hc⟩:=hr.heap.2 i _ b hi h2;refine ⟨ha,fun j' c hj'=> ?_⟩;by_cases ej:j=j'
    ·subst ej;have hjl:j<cs.length:=(Qx.1 hj).1;rw [QX hjl] at hj';cases hj';obtain ⟨q1,q2,v,q3,q4⟩:=hc j _ hj;obtain ⟨p1,a0,n0,rfl⟩:=q4;exact ⟨q1,q2,_,q3,M.t p1,0,k,by simp,Qk _,fun _=> .inl rfl⟩
    ·rw [Qy ej] at hj';obtain ⟨q1,q2,v,q3,q4⟩:=hc j' c hj';exact ⟨q1,q2,v,q3,M.cell q4⟩
   ·rw [Qy e] at h1;exact (hr.heap.2 id blk b h1 h2).same M
  ·rw [QW (by simpa using Qx0.1 hid)] at h1;simp only [Yz] at h1;cases hk:id-H.length with
   | zero=>rw [hk] at h1; simp at h1; subst h1; trivial
   | succ n=>rw [hk] at h1; simp at h1
 ·rw [ZZ (by omega)]
 ·simp only;rw [ZZ (by simp; omega),Qz2 hh]
section ops
variable {P:Program} {rd:Option Nat} {o:Oper} {ρ:Operand->AVal} {H H':List Blk}
def B2M (f:FuncId) (xs:Array Operand) (ho:o.op= .makeFunc (.func f) xs #[]) (caps:List ACap) (hc:(xs.toList.map ρ).mapM B0h=some caps):AStep P rd o ρ H (.c (.bfn f caps)) H:=by
 refine AStep.value (by simp [ho]) fun ι σ a w hx' hH=>⟨.func (.func f) (xs.map a.eval) #[],by simp [execOp,ho,Instr.makeFunc],(xs.map a.eval).toList,rfl,?_,fun i c u h1 h2=> ?_⟩
 ·have:=(A08 hc).1;simp at this ⊢; omega
 ·obtain ⟨hl,hg⟩:=A08 hc;simp only [Array.toList_map,QQ] at h2;cases hi:xs.toList[i]? with
  | none=>simp [hi] at h2
  | some y=>
   simp [hi] at h2; subst h2;exact B0i (hx' y (by simp [Op.operands,ho]; exact Array.mem_of_getElem? (by simpa using hi))) (hg i (ρ y) c (by simp [hi]) h1)
def A8b (t:TypeId) (x y:Operand) (ho:o.op= .slice t x (some y) none none) (e:TypeId) (hE:A03 P t=some (none,e)) (k:Nat) (hk:A0u P e=some k) (rows:List (List Tree)) (i p:Nat)
  (hx:(ρ x= .c (.slice rows (.chain i))∧p=rows.length)∨ρ x= .c (.slice rows (.tail i p))) (hi:H[i]? =some (.chain p k)) (hr: ∀r,r∈rows->r.length=k) (l:Int) (hl:bnd ρ 0 (some y)=some l) (h0:0≤l) (h1:l≤rows.length):
  AStep P rd o ρ H (.c (.slice (rows.drop l.toNat) (.tail i p))) H:=by
 refine AStep.value (by simp [ho]) fun ι σ a w hx' hH=> ?_;have hv:=hx' x (by simp [Op.operands,ho]);have vx:TRel (Stab σ) w (.slice rows) (a.eval x):=by
  rcases hx with ⟨hx,_⟩ | hx<;>(rw [hx] at hv; exact hv.1)
 have hsp:A85 σ w i k (a.eval x):=by
  rcases hx with ⟨hx,hp⟩ | hx
  ·rw [hx] at hv;obtain ⟨tip,k',q1,_,_,q2⟩:=hv.2;rw [hi] at q1; cases q1;exact q2 hp.symm
  ·rw [hx] at hv;obtain ⟨tip,k',q1,_,q2⟩:=hv.2;rw [hi] at q1; cases q1;exact q2 rfl
 obtain ⟨ad,c,ev,hc⟩: ∃ad c,a.eval x= .slice ad rows.length c∧rows.length≤c:=by
  generalize a.eval x=v at vx;cases vx with
  | nil ad c=>exact ⟨ad,c,rfl,Xj _⟩
  | slice b off k' c rows cell hn=>exact ⟨_,c,rfl,hn⟩
 rw [ev] at vx hsp;have hu:=A0w hE;have hel:P.elem t=e:=B3W hE;have hu':P.underlying t=some (.slice (P.elem t)):=by rw [hel]; exact hu
 have q1:=A5r (ι:=ι) (σ:=σ) (w:=w) (H:=H) (a:=a) (x:=some y) (fun y' hy=>by cases hy; exact hx' y (by simp [Op.operands,ho])) hl;have hb:=A7e (P:=P) (w:=w) true rows.length c (lo:=some (a.eval y)) (hi:=none) (mx:=none) (l:=l) (h:=rows.length) (m:=c)
  (by rcases q1 with ⟨q,_⟩ | ⟨k,e⟩; cases q; exact .inr ⟨k,e⟩) (.inl ⟨rfl,rfl,rfl⟩) (.inl ⟨rfl,rfl⟩) h0 h1 (by omega) (by omega)
 have hs:(Instr.sliceAt t (a.eval x) (some (a.eval y)) none none).run P w= .ok (sliced ad l.toNat rows.length c k) w:=by
  rw [ev,run_sliceAt_slice w t _ _ _ _ hu',run_slice_any w t ad _ _ hu',hb,hel];simp only [Result.andThen_ok,A1Q hk,Int.toNat_natCast]
 refine ⟨sliced ad l.toNat rows.length c k,by simp only [execOp,ho,Sem.run_bind,Option.map_some,Option.map_none,hs,Result.andThen_ok,Sem.run_pure],?_,p,k,hi,Qk _,fun _=> ?_⟩
 ·have:=vx.part hr l.toNat rows.length c (by omega) (Qk _) hc;rwa [Zz] at this
 ·unfold sliced;have hle:l.toNat≤rows.length:=by omega
  rcases hsp with hsp | ⟨hk0,b,off,rfl,hj⟩
  ·exact .inl (by rw [hsp])
  ·by_cases hcl:c=l.toNat
   ·exact .inl (by omega)
   ·rw [if_neg hcl];refine .inr ⟨hk0,b,off+l.toNat*k,by simp [Addr.add_mid],fun j h2 h3=> ?_⟩;rw [Nat.sub_mul] at h2 h3;have h4:l.toNat*k≤rows.length*k:=YJ _ hle;have:=hj (j+l.toNat*k) (by omega) (by omega);rwa [show off+(j+l.toNat*k)=off+l.toNat*k+j by omega] at this
end ops
section
def csw (m k i:Nat):Nat:=if i<m then i else if i<m+k then i+k else if i<m+2*k then i-k else i
def Pos.csw {m k n:Nat} (h:m+2*k≤n):Pos (csw m k) n:=by
 refine ⟨fun i=> ?_,fun i hi=> ?_⟩
 ·unfold Sp.csw;by_cases h0:i<m
  ·rw [if_pos h0,if_pos h0]
  ·rw [if_neg h0];by_cases h1:i<m+k
   ·rw [if_pos h1,if_neg (by omega),if_neg (by omega),if_pos (by omega)]; omega
   ·rw [if_neg h1];by_cases h2:i<m+2*k
    ·rw [if_pos h2,if_neg (by omega),if_pos (by omega)]; omega
    ·rw [if_neg h2,if_neg h0,if_neg h1,if_neg h2]
 ·unfold Sp.csw; split
  ·omega
  ·split
   ·omega
   ·split<;>omega
def C4E (m k:Nat) (l:List Oper):List Oper:=l.take m++C6f k (l.drop m)
def B5D (m k:Nat) (l:List Oper) (i:Nat) (h:m+2*k≤l.length):(C4E m k l)[i]? =l[csw m k i]? :=by
 have e1:(l.take m).length=m:=by simp; omega
 unfold C4E;by_cases h0:i<m
 ·rw [Qw (by omega),Xx h0];unfold csw; rw [if_pos h0]
 ·rw [QW (by omega),e1,C2p _ _ _ (by simp; omega),YX];congr 1;unfold csw bsw;rw [if_neg h0];by_cases h1:i<m+k
  ·rw [if_pos h1,if_pos (by omega)]; omega
  ·rw [if_neg h1,if_neg (by omega)];by_cases h2:i<m+2*k
   ·rw [if_pos h2,if_pos (by omega)]; omega
   ·rw [if_neg h2,if_neg (by omega)]; omega
def B4o (m k:Nat) (l:List Oper) (h:m+2*k≤l.length):(C4E m k l).length=l.length:=by
 unfold C4E; rw [Xv,B4m _ _ (by simp; omega)]; simp; omega
variable {P:Program} {rd:Option Nat} {wd:Wd}
def B17 (wd:Wd) (m k a b:Nat) (ops:Array Oper):Bool:=
 decide (m+2*k≤ops.size)&&decide (a<b)&&ops.toList.all (fun o=>o.guard.isNone)&&A8L wd (A8W (fun i=>i) a b ops)&&A8L wd (A8W (csw m k) b a ops)&&A2i .any ops (A42 .any ops)&&A2i .text ops (A42 .text ops)&&A2i .gc ops (A42 .gc ops)
def AWp.draw2c {h:Nat} {Q:Exit->St->Prop} {id m k a b:Nat} {ops:List Oper} (hd:B17 wd m k a b ops.toArray=true)
  {l1 l2:List (AVal×List Blk)} {tm1 tm2:List AVal} {H1 H2:List Blk}
  (hr1:RunD wd P rd ops.toArray ops tm H l1 tm1 H1) (hq1:Q .normal ⟨tm1,H1⟩)
  (hr2:RunD wd P rd ops.toArray (C4E m k ops) tm H l2 tm2 H2) (hq2:Q .normal ⟨tm2,H2⟩):AWp P rd h (.region id ops.toArray true) Q ⟨tm,H⟩:=by
 refine ⟨fun N ι σ a' w h1 h2 h3 h4=> ?_⟩;simp only [B17,XV,decide_eq_true_eq,ZX] at hd;obtain ⟨⟨⟨⟨⟨⟨⟨hp,hab⟩,hg⟩,k1⟩,k2⟩,g1⟩,g2⟩,g3⟩:=hd;have hp':m+2*k≤ops.length:=by simpa using hp
 have hg1: ∀o,o∈ops->o.guard=none:=fun o ho=>by have:=hg o (by simpa using ho); simpa using this
 have hg2: ∀(i:Nat) o,ops.toArray[i]? =some o->o.guard=none:=fun i o ho=>hg1 o (Qv (by simpa using ho));refine wpIn_region_draw fun t=> ?_;obtain ⟨c1,c2⟩:=A8j g1 g2 g3 (P.follows .mixedOrders) t;generalize Region.schedule (P.follows .mixedOrders) ops.toArray t=s at*;have hw:Mono ι σ w H ι σ { w with drawn:=w.drawn+1 } H:=⟨fun _ _ _ h h'=>⟨h,h'⟩,fun _ _ h=>h,fun _ tip k h=>⟨tip,k,h,MarkUp.refl _ _ _,.inr ⟨rfl,rfl,fun _ _ u h h'=>⟨h,⟨u,h'⟩,fun hf=>hf⟩⟩⟩⟩;have hE:Ext σ w σ { w with drawn:=w.drawn+1 }:=⟨rfl,rfl,rfl,Qk _,fun _ _ _ h h'=>⟨h,h'⟩,fun _ _ h=>⟨rfl,h⟩,fun _ _ _ h=>h,VV _⟩;have hH:HRel ι σ { w with drawn:=w.drawn+1 } H:=by
  have:=(SRel.cells (w':={ w with drawn:=w.drawn+1 }) h1 (fun _=>rfl) (fun _ _ h _ _=>h) (fun g=>⟨rfl,rfl,rfl,Qk _,fun _ _ _ h h'=>⟨h,h'⟩,fun _ _ _ _=>⟨rfl,fun _=>rfl⟩,VV _⟩)).heap;exact this
 have hT:=h1.tmps.mono hw;rcases B2J (a:=a) (b:=b) (by omega) s [] with hb | hb
 ·have hP:=Pos.id ops.toArray.size;rw [<-A8Y (a:=a) (b:=b) _ _ _ _ hP hg2];refine B5C k1 (hr1.fix _ (B2L hP ops (by simp) (fun k _=>by simp)) hg1) (by have:=A9a hP _ _ c1 hb; simpa using this) (fun i hi=>QY.2 ⟨i,c2 i (by rwa [A51] at hi),rfl⟩) hT hH (h2.ext hE) hw hE ?_;intro ι' σ' a' w' q1 q2 q3 q4 q5;exact ⟨ι',σ',⟨tm1,H1⟩,hq1,⟨q1,q2⟩,q4,q3.take h,by rw [q5]; exact h4.ext q4⟩
 ·have hP:=Pos.csw (m:=m) (k:=k) (n:=ops.toArray.size) hp;rw [<-A8Y (a:=b) (b:=a) _ _ _ _ hP hg2];refine B5C k2 (hr2.fix _ (B2L hP _ (by rw [B4o _ _ _ hp']; simp) (fun k _=>by rw [B5D _ _ _ _ hp']; simp)) (fun o ho=> ?_)) (by have:=A9a hP _ _ c1 hb; simpa using this) (fun i hi=>QY.2 ⟨csw m k i,c2 _ (hP.lt i (by rwa [A51] at hi)),hP.two i⟩) hT hH (h2.ext hE) hw hE ?_
  ·obtain ⟨j,hk⟩:=Zj.1 ho;rw [B5D _ _ _ _ hp'] at hk;exact hg1 o (Qv hk)
  ·intro ι' σ' a' w' q1 q2 q3 q4 q5;exact ⟨ι',σ',⟨tm2,H2⟩,hq2,⟨q1,q2⟩,q4,q3.take h,by rw [q5]; exact h4.ext q4⟩
def AWp.seq_draw2c {h:Nat} {Q:Exit->St->Prop} {id:Nat} {ops:List Oper} {y:Code} {tm:List AVal} {H:List Blk} (m k a b:Nat) (hd:B17 wd m k a b ops.toArray=true)
  (hv1: ∀K:List AVal->List Blk->Prop,(∀tm' H',AWp P rd h y Q ⟨tm',H'⟩->K tm' H')->A10 wd P ops.toArray ops tm H K)
  (hv2: ∀K:List AVal->List Blk->Prop,(∀tm' H',AWp P rd h y Q ⟨tm',H'⟩->K tm' H')->A10 wd P ops.toArray (C4E m k ops) tm H K):AWp P rd h (.seq (.region id ops.toArray true) y) Q ⟨tm,H⟩:=by
 obtain ⟨l,tm',H',h1,h2⟩:=A36 (rd:=rd) (hv1 (fun tm' H'=>AWp P rd h y Q ⟨tm',H'⟩) (fun _ _ h=>h));obtain ⟨l2,tm2,H2,h3,h4⟩:=A36 (rd:=rd) (hv2 (fun tm' H'=>AWp P rd h y Q ⟨tm',H'⟩) (fun _ _ h=>h));exact AWp.seq (AWp.draw2c hd h1 h2 h3 h4)
end
def B2N (i j id:Nat):Nat:=if id=i then j else if id=j then i else id
def A6u (i j id:Nat):B2N i j (B2N i j id)=id:=by
 unfold B2N;by_cases h1:id=i
 ·subst h1;rw [if_pos rfl];by_cases h2:j=id
  ·rw [if_pos h2]; exact h2
  ·rw [if_neg h2,if_pos rfl]
 ·rw [if_neg h1];by_cases h2:id=j
  ·rw [if_pos h2,if_pos rfl]; exact h2.symm
  ·rw [if_neg h2,if_neg h1,if_neg h2]
def C2r (i j:Nat):Own->Own
 | .mine id=> .mine (B2N i j id)
 | x=>x
def A9X (i j:Nat) (σ:Sig):Sig:=fun b o=>C2r i j (σ b o)
def B0v (i j:Nat) (σ:Sig):Stab (A9X i j σ)=Stab σ:=by
 funext b o;unfold Stab A9X;cases h:σ b o<;>simp [C2r]
def C6x (i j:Nat) (ι:List Nat):List Nat:=(List.range ι.length).map fun id=>ι.getD (B2N i j id) 0
def A8l (hi:i<ι.length) (hj:j<ι.length) (id:Nat):(C6x i j ι)[id]? =ι[B2N i j id]? :=by
 unfold C6x;rw [QQ];have hlt:B2N i j id<ι.length↔id<ι.length:=by unfold B2N; split<;>(try split)<;>omega
 by_cases h:id<ι.length
 ·rw [Yv h,Qq (hlt.2 h),Option.map_some,Qz,Qq (hlt.2 h)]; rfl
 ·rw [Xq (by simpa using h),Xq (by rw [Qx0] at h; exact Nat.le_of_not_lt fun q=>by have:=hlt.1 q; omega)]; rfl
def A9b (i j:Nat):ACell->Option ACell
 | .int k n=>some (.int k n)
 | .bool b=>some (.bool b)
 | .slice rows .none=>some (.slice rows .none)
 | .ref id k o l c=>some (.ref (B2N i j id) k o l c)
 | .ptr id o=>some (.ptr (B2N i j id) o)
 | _=>none
def B0w {H H2:List Blk} {c c':ACell} {v:Value} (hi:i<ι.length) (hj:j<ι.length) (hc:A9b i j c=some c') (h:CRel ι σ w H c v):CRel (C6x i j ι) (A9X i j σ) w H2 c' v:=by
 unfold A9b at hc;split at hc
 ·cases hc; exact h
 ·cases hc; exact h
 ·cases hc;refine ⟨?_,trivial⟩;rw [B0v]; exact h.1
 ·cases hc;obtain ⟨b,q1,q2⟩:=h;exact ⟨b,by rw [A8l hi hj,A6u]; exact q1,q2⟩
 ·cases hc;obtain ⟨b,q1,q2⟩:=h;exact ⟨b,by rw [A8l hi hj,A6u]; exact q1,q2⟩
 ·cases hc
def C2s {ι ι':List Nat} {σ σ':Sig} {w w':World} {H H' H2:List Blk} {c c':ACell} {v:Value} (i j:Nat) (hι:ι.length=H.length) (hr:CRel ι' σ' w' H' c v) (hH:HRel ι' σ' w' H') (M:Mono ι σ w H ι' σ' w' H') (E:Ext σ w σ' w') (hi:H.length≤i) (hj:H.length≤j) (hi':i<H'.length) (hj':j<H'.length) (hl:H2.length=H'.length)
  (hb: ∀id,id<H'.length->(∃cs cs',H'[id]? =some (.box cs)∧cs.mapM (A9b i j)=some cs'∧H2[B2N i j id]? =some (.box cs'))∨ ∃ts,H'[id]? =some (.ro ts)∧H2[B2N i j id]? =some (.ro ts)) (hc:A9b i j c=some c'):
  ∃ι2 σ2,CRel ι2 σ2 w' H2 c' v∧HRel ι2 σ2 w' H2∧Mono ι σ w H ι2 σ2 w' H2∧Ext σ w σ2 w':=by
 have hil:i<ι'.length:=by rw [hH.1]; exact hi'
 have hjl:j<ι'.length:=by rw [hH.1]; exact hj'
 refine ⟨C6x i j ι',A9X i j σ',B0w hil hjl hc hr,⟨by unfold C6x; simp [hH.1,hl],fun id2 blk b q1 q2=> ?_⟩,⟨fun b o u q1 q2=> ?_,fun id b q=> ?_,fun id tip k q=> ?_⟩,⟨E.os,E.tape,E.output,E.size,fun b o u q1 q2=> ?_,fun b q1 q2=> ?_,fun b o q1 q2=> ?_,E.drawn⟩⟩
 ·rw [A8l hil hjl] at q2;have hlt:B2N i j id2<H'.length:=by rw [<-hH.1]; exact (Qx.1 q2).1
  rcases hb _ hlt with ⟨cs,cs',p1,p2,p3⟩ | ⟨ts,p1,p3⟩
  rotate_left
  ·rw [A6u] at p3;rw [q1] at p3;cases p3;have hk:=hH.2 _ _ b p1 q2;intro x t hx;obtain ⟨s1,u,s2,s3⟩:=hk x t hx;exact ⟨by unfold A9X; rw [s1]; rfl,u,s2,by rw [B0v]; exact s3⟩
  rw [A6u] at p3;rw [q1] at p3;cases p3;obtain ⟨ha,hk⟩:=hH.2 _ _ b p1 q2;refine ⟨ha,fun x y hy=> ?_⟩;obtain ⟨m1,m2⟩:=A08 p2;have hx:x<cs.length:=by have:=(Qx.1 hy).1; omega
  have hcx:=m2 x cs[x] y (Qq hx) hy;obtain ⟨s1,s2,u,s3,s4⟩:=hk x cs[x] (Qq hx);refine ⟨?_,s2,u,s3,B0w hil hjl hcx s4⟩;unfold A9X;rw [s1];show Own.mine _=_;rw [A6u]
 ·obtain ⟨s1,s2⟩:=M.stab b o u q1 q2;exact ⟨by unfold A9X; rw [s1]; rfl,s2⟩
 ·have hlt:id<H.length:=by rw [<-hι]; exact (Qx.1 q).1
  have e:B2N i j id=id:=by unfold B2N; rw [if_neg (by omega),if_neg (by omega)]
  rw [A8l hil hjl,e];exact M.iota id b q
 ·have hlt:id<H.length:=(Qx.1 q).1;obtain ⟨tip',k',q1,q2⟩:=M.chain id tip k q;have hlt':id<H'.length:=(Qx.1 q1).1;rcases hb id hlt' with ⟨cs,cs',p1,p2,p3⟩ | ⟨ts,p1,p3⟩<;>(rw [q1] at p1; cases p1)
 ·obtain ⟨s1,s2⟩:=E.keep b o u q1 q2;exact ⟨by unfold A9X; rw [s1]; rfl,s2⟩
 ·obtain ⟨s1,s2⟩:=E.obj b q1 q2;refine ⟨s1,fun o id=> ?_⟩;unfold A9X;have:=s2 o;cases hq:σ' b o with
  | mine x=>exact absurd hq (this x)
  | stable=>simp [C2r]
  | foreign=>simp [C2r]
 ·have:=E.back b o q1 q2;unfold A9X; rw [this]; rfl
def ACallE.swapTo {P:Program} {f:FuncId} {H H1 H2:List Blk} {args:List AVal} {c c2:ACell} (h:ACallE P f H args (fun H' r=>(H'=H1∧r= .c c)∨(H'=H2∧r= .c c2))) (i j:Nat) (hi:H.length≤i) (hj:H.length≤j) (hi':i<H2.length) (hj':j<H2.length) (hl:H1.length=H2.length)
  (hb: ∀id,id<H2.length->(∃cs cs',H2[id]? =some (.box cs)∧cs.mapM (A9b i j)=some cs'∧H1[B2N i j id]? =some (.box cs'))∨ ∃ts,H2[id]? =some (.ro ts)∧H1[B2N i j id]? =some (.ro ts)) (hc:A9b i j c2=some c):ACallH P f H args H1 (.c c):=by
 refine ⟨h.enters,fun ι σ w vs h1 h2 h3=>(h.runs ι σ w vs h1 h2 h3).mono ?_⟩;rintro e w' ⟨v,ι',σ',H',r,hR,he,hr,hH,M,E⟩;rcases hR with ⟨rfl,rfl⟩ | ⟨rfl,rfl⟩
 ·exact ⟨v,ι',σ',he,hr,hH,M,E⟩
 ·obtain ⟨ι2,σ2,q1,q2,q3,q4⟩:=C2s i j h1.1 hr hH M E hi hj hi' hj' hl hb hc;exact ⟨v,ι2,σ2,he,q1,q2,q3,q4⟩
section
open Go.ChangeShapes Go.WideShapes Go.ChangeAt Go.RowKit Go.Joins Go.Deep Go.WideElems

end
