/- A part of the proof. -/
import Derived.Test.YtdbdfkohpjefjaaGreatPart04
import Derived.Test.YtdbdfkohpjefjaaGreatPart05
import Derived.Test.YtdbdfkohpjefjaaGreatPart02
import Derived.Shelf.SlSortCmp.NoneTotal
set_option linter.all false
set_option maxHeartbeats 4000000
set_option maxRecDepth 100000
namespace Go.Proofs.YtdbdfkohpjefjaaGreat
open Go.Sp
section
section
open Go.Sort (SWO)
instance:Inhabited E:=⟨⟨0,0,0⟩⟩
def C6d (a b c d:Int):Int:=orI [A5T a c,A5T b d]
def cfE (x y:E):Int:=C6d x.a x.b y.a y.b
theorem C1b (x y:E):ACall Tryz.prog 178 [.agg (C0V x),.agg (C0V y)] (.t (.int .i64 (cfE x y))):=by
 refine ACall.of_body Tryz.func178 rfl (by kernel_rfl) ?_;simp only [entry,Tryz.ntmps178,C0V];refine zU ?_
 repeat' (first|((first|(refine zT ?_;intro K' hK')|(refine zG ?_ ?_<;>(try refine zH ?_)<;>intro hguard<;>(try exact zX)<;>try intro K' hK'))<;>((try simp+contextual only [go_sem]);(repeat' first|(with_reducible refine hK' _ _ ?_;clear hK' K')|(with_reducible refine zK (A9M _ _ _ _) ?_;try simp+contextual only [go_sem])|exact zY|with_reducible refine Qw8 ?_ ?_|(with_reducible intro hpath;try exact zP)|(refine hK' _ _ ?_;clear hK' K')|fail);try refine zS ?_))|(refine zE ?_;refine hK _ _ ?_;clear hK K)|(refine zN ?_;try refine zS ?_)|refine zA ?_|(refine zB ?_;intro K hK)|(refine zC ?_ ?_<;>(try refine zH ?_)<;>intro hcond<;>try exact zX)|fail)
 simp [A0y,A0x,Blk.cells,ty,Tryz.results178,A0s,A0t,toT,A0d,A0b,A0c,A0a,cfE,C6d,A0k]
theorem A7L (x y:E):Go.Proofs.ltOf cfE x y=true↔ltE x y:=by
 unfold Go.Proofs.ltOf cfE C6d orI orI A5T ltE;simp only [decide_eq_true_eq]
 (repeat' split)<;>simp_all [orI]<;>omega
theorem C6e:SWO (Go.Proofs.ltOf cfE) where
 irrefl x:=by
  rw [<-Qq5,A7L]; unfold ltE; omega
 trans x y z h1 h2:=by
  rw [A7L] at*; unfold ltE at*; omega
 ntrans x y z h1 h2:=by
  rw [<-Qq5,A7L] at*; unfold ltE at*; omega
noncomputable def A3c (es:List E):List E:=A4E cfE es
def neE (x y:E):Prop:= ¬(x.a=y.a∧x.b=y.b)
theorem neE.symm {x y:E} (h:neE x y):neE y x:=by unfold neE at*; omega
def distinctE (es:List E):Prop:=es.Pairwise neE
theorem A1v (es:List E):(A3c es).Perm es:=(A3J C6e es).1
theorem A21 {es:List E} (h:distinctE es):(A3c es).Pairwise ltE:=by
 have h1:distinctE (A3c es):=(Qx5 neE.symm (A1v es)).2 h;unfold distinctE at h1;rw [Yz] at h1 ⊢;intro i j hi hj hij;have h2:=(A3J C6e es).2 i j _ _ hij (Qq hi) (Qq hj);rw [<-Qq5,A7L] at h2;have h3:=h1 i j hi hj hij;unfold ltE neE at*;simp only [A3c] at*;omega
theorem A4b {l l':List E} (h:l.Pairwise ltE) (h':l'.Pairwise ltE) (hp:l.Perm l'):l=l':=
 Qw3 (le:=ltE) (fun a b _ _ h1 h2=>by unfold ltE at*; omega) h h' hp
theorem C1c {l es:List E} (h:l.Pairwise ltE) (hp:l.Perm es):A3c es=l:=by
 have hd:distinctE es:=by
  refine (Qx5 neE.symm hp).1 ?_;exact h.imp fun {x y} h=>by unfold ltE at h; unfold neE; omega
 exact A4b (A21 hd) h ((A1v es).trans hp.symm)
theorem B3q {l es:List E} (hd:distinctE es) (hp:l.Perm es):A3c l=A3c es:=by
 have hd':distinctE l:=(Qx5 neE.symm hp.symm).1 hd;exact A4b (A21 hd') (A21 hd) ((A1v l).trans (hp.trans (A1v es).symm))
end
open Go.Sp Go.RowKit
theorem C6f: ∀w,(isAgg 132).run Tryz.prog w= .ok true w:=fun w=>by
 have h:A1L Tryz.prog 132=some true:=by simp only [ty]
 simp [B04 h]
theorem C4W: ∀w,(Go.sizeOf 132).run Tryz.prog w= .ok 3 w:=fun w=>by
 have h:A01 Tryz.prog 132=some 3:=by simp only [ty]
 exact A1N h w
theorem B7Y: ∀args w,(callFunc 177 args).run Tryz.prog w= .ok (.enter 177 args) w:=Go.Proofs.enters_of Tryz.func177 (by kernel_rfl) rfl
theorem B7Z (e:E):A1g (C0V e)=true:=rfl
theorem B4A (es:List E) (hl:es.length<2^60) {H:List Blk} {id cap:Nat} (hid:H[id]? =some (.box (flatRows (A0f es)))):
  ACallH Tryz.prog 177 H [.c (.ref id 3 0 es.length cap),.c (.fn 178 [])] (H.set id (.box (flatRows (A0f (A3c es))))) (.tup []):=
 B0H laySortE C0V 3 C6f C4W (fun _=>rfl) B7Z cfE C6e 178 C1b B7Y es (by omega) hid
theorem B6c:ACall Tryz.prog 177 [.t (.slice []),.t (.fn 178 [])] (.tup []):=by
 refine ⟨B7Y,fun S w vs hl hv=> ?_⟩
 match vs,hl with
 | [v0,v1],_=>
 have h0:TRel S w (.slice []) v0:=hv 0 _ v0 rfl rfl;have key: ∀a c,Calls Tryz.prog 177 #[.slice a 0 c,v1] w fun e w'=> ∃v,e= .returned v∧TVRel (fun b o=>S b o∨w.heap.size≤b) w' (.tup []) v∧Below w.heap.size w w'∧w.drawn≤w'.drawn:=fun a c=>by
  refine (Go.Proofs.AnyF.slices_SortFunc_none laySortE a c v1 w).mono ?_;rintro e w' ⟨rfl,rfl⟩;exact ⟨_,rfl,⟨#[],rfl,rfl,by simp⟩,Below.refl _ _,QQ _⟩
 cases h0 with
 | nil a c=>exact key a c
 | slice b off k c rows cell hn hk hc hr=>exact key _ c
end
def kvE (e:E):MKey×MV:=(.ints [e.a,e.b],.c (.int .i64 e.m))
def mE (es:List E):List (MKey×MV):=es.map kvE
theorem B8a (es:List E):(mE es).length=es.length:=by simp [mE]
theorem C4X {es:List E} {j:Nat} {e:MKey×MV} (h:(mE es)[j]? =some e): ∃x,es[j]? =some x∧e=kvE x:=by
 simp only [mE,QY] at h;cases hx:es[j]? with
 | none=>simp [hx] at h
 | some x=>simp [hx] at h; exact ⟨x,rfl,h.symm⟩
theorem C6g {es:List E} {j:Nat} {x:E} (h:es[j]? =some x):(mE es)[j]? =some (kvE x):=by simp [mE,h]
def A50 {α:Type} (l:List α) (seen:List Nat):List α:=seen.filterMap (l[·]?)
theorem B6d {α:Type} {l:List α} {seen:List Nat} {j:Nat} {x:α} (h:l[j]? =some x):A50 l (seen++[j])=A50 l seen++[x]:=by
 simp [A50,Qx9,h]
theorem A89 {α:Type} {l:List α}: ∀{seen:List Nat},(∀j,j∈seen->j<l.length)->(A50 l seen).length=seen.length:=by
 intro seen
 induction seen with
 | nil=>intro _; rfl
 | cons j s ih=>
  intro h;have hj:=h j (by simp);have:=ih fun i hi=>h i (by simp [hi]);simp only [A50] at this ⊢;rw [List.filterMap_cons,Qq hj];simp [this]
theorem B3r {α:Type} (l:List α):A50 l (List.range l.length)=l:=by
 apply Zx;intro i;have hlen:(A50 l (List.range l.length)).length=l.length:=by rw [A89 (fun j hj=>by simpa using hj)]; simp
 by_cases hi:i<l.length
 ·have e:List.range l.length=List.range i++(i::(List.range l.length).drop (i+1)):=by
   conv=>lhs; rw [<-WJ i (List.range l.length)]
   rw [List.take_range,Qq1 (by omega),XV (by simpa using hi)];simp
  rw [e];simp only [A50,Qx9,List.filterMap_cons,Qq hi];have h1:(List.filterMap (fun x=>l[x]?) (List.range i)).length=i:=by
   have:=A89 (l:=l) (seen:=List.range i) (fun j hj=>by simp at hj; omega);simpa [A50] using this
  rw [QV (by omega),h1];simp
 ·rw [Xq (by omega),Xq (by omega)]
theorem B6e {α:Type} {l:List α} {seen:List Nat} (h1:seen.Nodup) (h2: ∀j,j∈seen->j<l.length) (h3: ∀j,j<l.length->j∈seen):(A50 l seen).Perm l:=by
 have hp:seen.Perm (List.range l.length):=(Vy h1 Qq4).2 fun j=>by simp only [XQ]; exact ⟨h2 j,h3 j⟩
 have:=List.Perm.filterMap (l[·]?) hp;have e:=B3r l;unfold A50 at e ⊢;rw [e] at this; exact this
theorem A8A {n:Nat} {seen:List Nat} (h1:seen.Nodup) (h2: ∀j,j∈seen->j<n):seen.length≤n:=by
 have:=Wx h1 (l₂:=List.range n) (fun j hj=>by simp; exact h2 j hj);simpa using this
theorem A9S (l:List E) (x:E):A0f l++[[.int .i64 x.a,.int .i64 x.b,.int .i64 x.m]]=A0f (l++[x]):=by simp [A0f,C0V]
theorem A6r {l:List E} {r:List Tree} (h:r∈A0f l):r.length=3:=by
 obtain ⟨x,_,rfl⟩:=QJ.1 h; rfl
theorem C3n (es:List E):B5O (.map (mE es)):=fun e he=>by
 obtain ⟨x,_,rfl⟩:=QJ.1 he; exact rfl
theorem C1d (es:List E): ∀(a:MKey) (b:MV),(a,b)∈mE es->B41 b:=fun a b h=>C3n es (a,b) h
theorem C1e {l:List Blk} (h: ∀b,b∈l->B5O b) (id:Nat) (blk:Blk) (hb:l[id]? =some blk):B5O blk:=h blk (Qy hb)
theorem C6h (es:List (MKey×MV)) (l:List Blk): ∀id,id<1-> ∃es',(Blk.map es::l)[id]? =some (.map es'):=fun id h=>by
 have:id=0:=by omega
 subst this;exact ⟨es,rfl⟩
theorem A9T {l:List E} {r:List Tree} (h:r∈A0f l):A1g r=true:=by
 obtain ⟨x,_,rfl⟩:=QJ.1 h; rfl
theorem B8b {l:List E} {n cap:Nat} (hn:l.length=n) (hc:n≤cap):A4B (flatRows (A0f l)) 3 0 n cap=some (A0f l):=by
 have:=A4C (rows:=A0f l) (k:=3) (cap:=cap) (fun r hr=>A6r hr) (fun r hr=>A9T hr) (by rw [A06]; omega);rwa [A06,hn] at this
theorem B4B (n:Int) (es:List E) (hdis:distinctE es) (hl:es.length<2^20):ACallX Tryz.prog 148 [.map (mE es)] [.c (.map 0),.c (.int .i64 n)] (tG ⟨n,A3c es⟩):=by
 refine ACallX.of_body Tryz.func148 rfl (by kernel_rfl) (by simp [isMap]) ?_;simp only [entry,Tryz.ntmps148,ofT,A2T,A04,Xk,Zj,List.length_cons,List.length_nil,Nat.reduceAdd,Nat.reduceSub,List.replicate_succ,List.replicate_zero,List.cons_append,List.nil_append];refine FWp.seq ?_;refine zR Qw9 Qw9 Qw9 ?_;refine FWp.seq ?_;refine zR Qw9 Qw9 Qw9 ?_;refine FWp.seq ?_;refine AWp.seq ?_;refine zR Qw9 Qw9 Qw9 ?_;refine AWp.weak (Weak.openB 2 1 3 rfl rfl (by omega)) ?_;simp only [List.set_cons_succ,List.set_cons_zero,List.length_cons,List.length_nil,Xv,Nat.reduceAdd,List.cons_append,List.nil_append];refine AWp.loopS (α:=List Nat) 32 (fun seen=>[(0,.c (.map 0)),(1,.c (.int .i64 n)),(4,.c (.ptr 1 0)),(5,.c (.ptr 2 0)),(11,.c (.iter 3))]) (fun seen=>[.map (mE es),.box [.int .i64 0,.nils],.box [.int .i64 n,.slice (A0f (A50 es seen)) (.chain 4)],.iter 0 (mE es).length seen,.chain (A50 es seen).length 3]) (fun seen=>seen.Nodup∧ ∀j,j∈seen->j<es.length) (fun seen=>es.length-seen.length) ([]) (hk:=Weak.headL 5 32 [0,1,4,5,11] zW) (h0:=?_) (round:=fun seen hI=>?_)
 ·exact ⟨List.nodup_nil,fun j hj=>by cases hj⟩
 ·obtain ⟨hn,hlt⟩:=hI;have hsl:=A8A hn hlt;have hpl:=A89 hlt;refine AWp.seq_next rfl rfl rfl rfl rfl (fun hd K hK=> ?_) (fun j e hj he K hK=> ?_)<;>(try refine zS ?_)
  ·have hperm:(A50 es seen).Perm es:=B6e hn hlt (fun j hj=>hd j (by rw [B8a]; exact hj));have hsort:=B3q hdis hperm
   repeat' (first|((first|(refine zT ?_;intro K' hK')|(refine zG ?_ ?_<;>(try refine zH ?_)<;>intro hguard<;>(try exact zX)<;>try intro K' hK'))<;>((try simp+contextual only [go_sem]);(repeat' first|(with_reducible refine hK' _ _ ?_;clear hK' K')|exact zY|with_reducible refine Qw8 ?_ ?_|(with_reducible intro hpath;try exact zP)|(refine hK' _ _ ?_;clear hK' K')|fail);try refine zS ?_))|(refine zE ?_;refine hK _ _ ?_;clear hK K)|(refine zN ?_;try refine zS ?_)|refine zA ?_|(refine zB ?_;intro K hK)|(refine zC ?_ ?_<;>(try refine zH ?_)<;>intro hcond<;>try exact zX)|fail)
   by_cases hL0:A50 es seen=[]
   ·rw [hL0] at hsort ⊢;refine FWp.seq ?_
    repeat' (first|((first|(refine zT ?_;intro K' hK')|(refine zG ?_ ?_<;>(try refine zH ?_)<;>intro hguard<;>(try exact zX)<;>try intro K' hK'))<;>((try simp+contextual only [go_sem,A0f,Zj]);(repeat' first|(with_reducible refine hK' _ _ ?_;clear hK' K')|(with_reducible refine zK B6c ?_;try simp+contextual only [go_sem,A0f,Zj])|exact zY|with_reducible refine Qw8 ?_ ?_|(with_reducible intro hpath;try exact zP)|(refine hK' _ _ ?_;clear hK' K')|fail);try refine zS ?_))|(refine zE ?_;refine hK _ _ ?_;clear hK K)|(refine zN ?_;try refine zS ?_)|refine zA ?_|(refine zB ?_;intro K hK)|(refine zC ?_ ?_<;>(try refine zH ?_)<;>intro hcond<;>try exact zX)|fail)
    refine FWp.of_awp ?_
    repeat' (first|((first|(refine zT ?_;intro K' hK')|(refine zG ?_ ?_<;>(try refine zH ?_)<;>intro hguard<;>(try exact zX)<;>try intro K' hK'))<;>((try simp+contextual only [go_sem]);(repeat' first|(with_reducible refine hK' _ _ ?_;clear hK' K')|exact zY|with_reducible refine Qw8 ?_ ?_|(with_reducible intro hpath;try exact zP)|(refine hK' _ _ ?_;clear hK' K')|fail);try refine zS ?_))|(refine zE ?_;refine hK _ _ ?_;clear hK K)|(refine zN ?_;try refine zS ?_)|refine zA ?_|(refine zB ?_;intro K hK)|(refine zC ?_ ?_<;>(try refine zH ?_)<;>intro hcond<;>try exact zX)|fail)
    rw [<-hsort];have hz:A3c []=[]:=List.Perm.eq_nil (A1v []);simp [C0G,B5R,Blk.cells,ty,Tryz.results148,A0s,A0t,toT,A6e,A0a,Tree.flat,hz,A0f,tG]
   ·generalize A50 es seen=L at*;have hLl:L.length<2^20:=by omega
    refine FWp.thawB 2 1 rfl rfl rfl (fun r hr=>A6r hr) (by decide) (fun r hr=>A1o (A9T hr)) (by simp [A0f,hL0]) (C1e (by simp [B5O,A9v]; exact C1d es)) (by simp [C3c,A9v,B78]) (C6h _ _) (fun cap hcap=> ?_);rw [A06] at hcap;have hsl2:(A3c L).length=L.length:=(A1v L).length_eq;refine FWp.seq ?_
    repeat' (first|((first|(refine zT ?_;intro K' hK')|(refine zG ?_ ?_<;>(try refine zH ?_)<;>intro hguard<;>(try exact zX)<;>try intro K' hK'))<;>((try simp+contextual only [go_sem,A06]);(repeat' first|(with_reducible refine hK' _ _ ?_;clear hK' K')|((with_reducible first|refine ⟨_,_,B4A L (by omega) rfl,?_⟩|refine ⟨_,B4A L (by omega) rfl,?_⟩);try simp+contextual only [go_sem,A06])|exact zY|with_reducible refine Qw8 ?_ ?_|(with_reducible intro hpath;try exact zP)|(refine hK' _ _ ?_;clear hK' K')|fail);try refine zS ?_))|(refine zE ?_;refine hK _ _ ?_;clear hK K)|(refine zN ?_;try refine zS ?_)|refine zA ?_|(refine zB ?_;intro K hK)|(refine zC ?_ ?_<;>(try refine zH ?_)<;>intro hcond<;>try exact zX)|fail)
    refine FWp.of_awp ?_
    repeat' (first|((first|(refine zT ?_;intro K' hK')|(refine zG ?_ ?_<;>(try refine zH ?_)<;>intro hguard<;>(try exact zX)<;>try intro K' hK'))<;>((try simp+contextual only [go_sem]);(repeat' first|(with_reducible refine hK' _ _ ?_;clear hK' K')|exact zY|with_reducible refine Qw8 ?_ ?_|(with_reducible intro hpath;try exact zP)|(refine hK' _ _ ?_;clear hK' K')|fail);try refine zS ?_))|(refine zE ?_;refine hK _ _ ?_;clear hK K)|(refine zN ?_;try refine zS ?_)|refine zA ?_|(refine zB ?_;intro K hK)|(refine zC ?_ ?_<;>(try refine zH ?_)<;>intro hcond<;>try exact zX)|fail)
    rw [<-hsort];have hr:=B8b hsl2 hcap;simp [C0G,B5R,Blk.cells,ty,Tryz.results148,A0s,A0t,toT,A6e,A0a,Tree.flat,hr,tG]
  ·obtain ⟨x,hx,rfl⟩:=C4X he;have hje:j<es.length:=(Qx.1 hx).1;have hsnoc:=B6d (seen:=seen) hx;simp only [kvE,A8k,A5z]
   repeat' (first|((first|(refine zT ?_;intro K' hK')|(refine zG ?_ ?_<;>(try refine zH ?_)<;>intro hguard<;>(try exact zX)<;>try intro K' hK'))<;>((try simp+contextual only [go_sem,C6g hx,kvE,B8a,A06,chunks,List.range,List.range.loop,A9S,hpl]);(repeat' first|(with_reducible refine hK' _ _ ?_;clear hK' K')|(with_reducible exact A6r (by assumption))|exact zY|with_reducible refine Qw8 ?_ ?_|(with_reducible intro hpath;try exact zP)|(refine hK' _ _ ?_;clear hK' K')|fail);try refine zS ?_))|(refine zE ?_;refine hK _ _ ?_;clear hK K)|(refine zN ?_;try refine zS ?_)|refine zA ?_|(refine zB ?_;intro K hK)|(refine zC ?_ ?_<;>(try refine zH ?_)<;>intro hcond<;>try exact zX)|fail)
   refine ⟨seen++[j],Weak.headF 5 32 [0,1,4,5,11] (zc @hsnoc (zc @B8a (zc @hpl Qw9))) zW,?_,?_⟩
   ·refine ⟨WX.2 ⟨hn,by simp,fun a ha b hb=>by simp at hb; subst hb; rintro rfl; exact hj ha⟩,fun i hi=> ?_⟩;rcases XJ.1 hi with hi | hi
    ·exact hlt i hi
    ·simp at hi; subst hi; exact hje
   ·have:=A8A (n:=es.length) (seen:=seen++[j]) (WX.2 ⟨hn,by simp,fun a ha b hb=>by simp at hb; subst hb; rintro rfl; exact hj ha⟩) (fun i hi=>by
     rcases XJ.1 hi with hi | hi
     ·exact hlt i hi
     ·simp at hi; subst hi; exact hje)
    simp at this ⊢;omega
def A1G:List E->Int->Int->Int
 | [],_,_=>0
 | x::xs,a,b=>if x.a=a∧x.b=b then x.m else A1G xs a b
def A18:List E->Int->Int->Int->List E
 | [],a,b,m=>[⟨a,b,m⟩]
 | x::xs,a,b,m=>if x.a=a∧x.b=b then ⟨a,b,m⟩::xs else x::A18 xs a b m
theorem C4Y (x:E) (a b:Int):((kvE x).1==MKey.ints [a,b])=decide (x.a=a∧x.b=b):=by
 rw [Qj6]; simp [kvE]
theorem B8c (x:E) (xs:List E) (a b:Int):mIdx (mE (x::xs)) (.ints [a,b])=if x.a=a∧x.b=b then some 0 else (mIdx (mE xs) (.ints [a,b])).map (·+1):=by
 simp only [mIdx,mE,Xk,JW,C4Y];by_cases h:x.a=a∧x.b=b<;>simp [h]
theorem B0P (es:List E) (a b m:Int):B2U (mE es) (.ints [a,b]) (.c (.int .i64 m))=mE (A18 es a b m):=by
 induction es with
 | nil=>simp [B2U,mIdx,mE,A18,kvE]
 | cons x xs ih=>
  unfold B2U at ih ⊢;rw [B8c];by_cases h:x.a=a∧x.b=b
  ·simp [h,A18,mE,kvE]
  ·rw [if_neg h];simp only [A18,if_neg h];have e:mE (x::A18 xs a b m)=kvE x::mE (A18 xs a b m):=rfl;rw [e,<-ih];cases hx:mIdx (mE xs) (.ints [a,b]) with
   | none=>simp [mE]
   | some j=>simp [mE]
def A8B (es:List E) (p:Int×Int):List E:=A18 es (min p.1 p.2) (max p.1 p.2) (A1G es (min p.1 p.2) (max p.1 p.2)+1)
def A51 (l:List (Int×Int)):List E:=l.foldl A8B []
theorem A6s (l:List (Int×Int)) (p:Int×Int):A51 (l++[p])=A8B (A51 l) p:=by simp [A51]
theorem A5m {es:List E} {a b m:Int} {e:E} (h:e∈A18 es a b m):e∈es∨e=⟨a,b,m⟩:=by
 induction es with
 | nil=>simp [A18] at h; exact .inr h
 | cons x xs ih=>
  simp only [A18] at h;split at h
  ·rcases Qw.1 h with h | h
   ·exact .inr h
   ·exact .inl (by simp [h])
  ·rcases Qw.1 h with h | h
   ·exact .inl (by simp [h])
   ·rcases ih h with h | h
    ·exact .inl (by simp [h])
    ·exact .inr h
theorem A4L {es:List E} {a b m:Int} (h:distinctE es):distinctE (A18 es a b m):=by
 induction es with
 | nil=>simp [A18,distinctE]
 | cons x xs ih=>
  unfold distinctE at*;rw [YY] at h;simp only [A18];split
  ·rename_i hx;refine YY.2 ⟨fun y hy=> ?_,h.2⟩;have:=h.1 y hy;unfold neE at*; simp only; omega
  ·rename_i hx;refine YY.2 ⟨fun y hy=> ?_,ih h.2⟩;rcases A5m hy with hy | hy
   ·exact h.1 y hy
   ·subst hy; unfold neE; simp only; omega
theorem A9U (es:List E) (a b m:Int):(A18 es a b m).length≤es.length+1:=by
 induction es with
 | nil=>simp [A18]
 | cons x xs ih=>simp only [A18]; split<;>simp<;>omega
theorem B3s {es:List E} {a b k:Int} (h: ∀e,e∈es->e.m≤k) (hk:0≤k):A1G es a b≤k:=by
 induction es with
 | nil=>simpa [A1G] using hk
 | cons x xs ih=>simp only [A1G]; split; exact h x (by simp); exact ih fun e he=>h e (by simp [he])
theorem B3t {es:List E} {a b:Int} (h: ∀e,e∈es->1≤e.m):0≤A1G es a b:=by
 induction es with
 | nil=>simp [A1G]
 | cons x xs ih=>simp only [A1G]; split; have:=h x (by simp); omega; exact ih fun e he=>h e (by simp [he])
structure BagOk (n:Int) (k:Nat) (es:List E):Prop where
 d:distinctE es
 len:es.length≤k
 m: ∀e,e∈es->1≤e.m∧e.m≤k
 r: ∀e,e∈es->0≤e.a∧e.a≤e.b∧e.b<n
theorem B4C {n:Int} {k:Nat} {es:List E} (h:BagOk n k es) {p:Int×Int} (h1:0≤p.1∧p.1<n) (h2:0≤p.2∧p.2<n):BagOk n (k+1) (A8B es p):=by
 have c1:=B3s (a:=min p.1 p.2) (b:=max p.1 p.2) (k:=k) (fun e he=>(h.m e he).2) (by omega);have c2:=B3t (a:=min p.1 p.2) (b:=max p.1 p.2) (fun e he=>(h.m e he).1);refine ⟨A4L h.d,Yk (A9U ..) (by have:=h.len; omega),fun e he=> ?_,fun e he=> ?_⟩
 ·rcases A5m he with he | rfl
  ·have:=h.m e he; omega
  ·simp only; omega
 ·rcases A5m he with he | rfl
  ·exact h.r e he
  ·simp only; omega
theorem key_ok {a b:Int} (h1:0≤a∧a<12) (h2:0≤b∧b<12):(KShape.ints 2).ok (.ints [a,b])=true:=by
 simp only [KShape.ok,List.length_cons,List.length_nil,XY,beq_iff_eq,Zv,Qw,Qk,or_false,decide_eq_true_eq];exact ⟨trivial,fun y hy=>by rcases hy with rfl | rfl<;>omega⟩
open Classical in
noncomputable def A5L (n:Int) (l:List (Int×Int)):G×Int:=
 if n<1∨12<n then (⟨0,[]⟩,2) else if 4096<l.length then (⟨0,[]⟩,5)
 else if ∃p,p∈l∧ ¬((0≤p.1∧p.1<n)∧(0≤p.2∧p.2<n)) then (⟨0,[]⟩,2)
 else if ∃e,e∈A51 l∧50<e.m then (⟨0,[]⟩,5) else (⟨n,A3c (A51 l)⟩,0)
end Go.Proofs.YtdbdfkohpjefjaaGreat
