/- A part of the proof. -/
import Derived.Test.YtdbdfkohpjefjaaGreatPart01
import Derived.Test.YtdbdfkohpjefjaaGreatPart02
import Derived.Shelf.SlSortCmp.NoneTotal
set_option linter.all false
set_option maxHeartbeats 4000000
set_option maxRecDepth 100000
namespace Go.Proofs.YtdbdfkohpjefjaaGreat
open Go.Sp
variable {es:List E}
section
section
def C6a:Tryz.prog.keyTypeAt 3 129=true:=by kernel_rfl
def C6b:Tryz.prog.tiled 3 129=true:=by kernel_rfl
def C1O:(match Tryz.prog.underlying 129 with | some (.array _ _) | some (.struct _)=>true | _=>false)=true:=by kernel_rfl
noncomputable def C7B:Field:=(Tryz.prog.fieldsOf 129)[0]!
noncomputable def C7C:Field:=(Tryz.prog.fieldsOf 129)[1]!
set_option maxRecDepth 100000 in
def C6c:KeyLaw Tryz.prog 129 (.ints 2):=
 B3P (m:=3) (by decide) C6a C6b C1O (C18 (f0:=C7B) (f1:=C7C) (it:=3) (by kernel_rfl) (by kernel_rfl) (by kernel_rfl) (by kernel_rfl) (by kernel_rfl) (by kernel_rfl) (by kernel_rfl) (by kernel_rfl) (by kernel_rfl) (by kernel_rfl) (by kernel_rfl) (of_decide_eq_true (by kernel_rfl:decide (0<Tryz.prog.types.size)=true)))
def A7W:KeyLaw Tryz.prog 3 .int:=B69 Tryz.underlying3
open Go.Sort (SWO)
instance:Inhabited E:=⟨⟨0,0,0⟩⟩
def C7h (a b c d:Int):Int:=orI [A6e a c,A6e b d]
def cfE (x y:E):Int:=C7h x.a x.b y.a y.b
def C1P (x y:E):ACall Tryz.prog 178 [.agg (C1L x),.agg (C1L y)] (.t (.int .i64 (cfE x y))):=by
 refine ACall.of_body Tryz.func178 rfl (by kernel_rfl) ?_;simp only [entry,Tryz.ntmps178,C1L];refine zU ?_;refine zM Qv6 Qv6 (zc B0q Qv6) Qv6 Qv6 (ed fun hp hpc=>?_);simp [A00,A0z,Blk.cells,ty,Tryz.results178,A0v,A0w,toT,A0d,A0b,A0c,A0a,cfE,C7h,A0n]
def A8j (x y:E):Go.Proofs.ltOf cfE x y=true↔ltE x y:=by
 unfold Go.Proofs.ltOf cfE C7h orI orI A6e ltE;simp only [decide_eq_true_eq]
 (repeat' split)<;>simp_all [orI]<;>omega
def C7i:SWO (Go.Proofs.ltOf cfE) where
 irrefl x:=by
  rw [<-Qx0,A8j]; unfold ltE; omega
 trans x y z h1 h2:=by
  rw [A8j] at*; unfold ltE at*; omega
 ntrans x y z h1 h2:=by
  rw [<-Qx0,A8j] at*; unfold ltE at*; omega
noncomputable def A3k (es:List E):List E:=A4P cfE es
def neE (x y:E):Prop:= ¬(x.a=y.a∧x.b=y.b)
def neE.symm {x y:E} (h:neE x y):neE y x:=by unfold neE at*; omega
def distinctE (es:List E):Prop:=es.Pairwise neE
def A10 (es:List E):(A3k es).Perm es:=(A3R C7i es).1
def A28 (h:distinctE es):(A3k es).Pairwise ltE:=by
 have h1:distinctE (A3k es):=(Qz0 neE.symm (A10 es)).2 h;unfold distinctE at h1;rw [ZV] at h1 ⊢;intro i j hi hj hij;have h2:=(A3R C7i es).2 i j _ _ hij (Qq hi) (Qq hj);rw [<-Qx0,A8j] at h2;have h3:=h1 i j hi hj hij;unfold ltE neE at*;simp only [A3k] at*;omega
def A4m {l l':List E} (h:l.Pairwise ltE) (h':l'.Pairwise ltE) (hp:l.Perm l'):l=l':=
 Qj2 (le:=ltE) (fun a b _ _ h1 h2=>by unfold ltE at*; omega) h h' hp
def C1Q {l es:List E} (h:l.Pairwise ltE) (hp:l.Perm es):A3k es=l:=by
 have hd:distinctE es:=by
  refine (Qz0 neE.symm hp).1 ?_;exact h.imp fun {x y} h=>by unfold ltE at h; unfold neE; omega
 exact A4m (A28 hd) h ((A10 es).trans hp.symm)
def B4c {l es:List E} (hd:distinctE es) (hp:l.Perm es):A3k l=A3k es:=by
 have hd':distinctE l:=(Qz0 neE.symm hp.symm).1 hd;exact A4m (A28 hd') (A28 hd) ((A10 l).trans (hp.trans (A10 es).symm))
end
open Go.Sp Go.RowKit
def C7j: ∀w,(isAgg 132).run Tryz.prog w= .ok true w:=fun w=>by
 have h:A1O Tryz.prog 132=some true:=by simp only [ty]
 simp [B1b h]
def C6d: ∀w,(Go.sizeOf 132).run Tryz.prog w= .ok 3 w:=fun w=>by
 have h:A01 Tryz.prog 132=some 3:=by simp only [ty]
 exact A1Q h w
def B8F: ∀args w,(callFunc 177 args).run Tryz.prog w= .ok (.enter 177 args) w:=Go.Proofs.enters_of Tryz.func177 (by kernel_rfl) rfl
def B8G (e:E):A1j (C1L e)=true:=rfl
def C1R (es:List E) (hl:es.length<2^60) {H:List Blk} {id cap:Nat} (hid:H[id]? =some (.box (flatRows (A0f es)))):
  ACallH Tryz.prog 177 H [.c (.ref id 3 0 es.length cap),.c (.fn 178 [])] (H.set id (.box (flatRows (A0f (A3k es))))) (.tup []):=
 B1o laySortE C1L 3 C7j C6d (fun _=>rfl) B8G cfE C7i 178 C1P B8F es (by omega) hid
def B6H:ACall Tryz.prog 177 [.t (.slice []),.t (.fn 178 [])] (.tup []):=by
 refine ⟨B8F,fun S w vs hl hv=> ?_⟩
 match vs,hl with
 | [v0,v1],_=>
 have h0:TRel S w (.slice []) v0:=hv 0 _ v0 rfl rfl;have key: ∀a c,Calls Tryz.prog 177 #[.slice a 0 c,v1] w fun e w'=> ∃v,e= .returned v∧TVRel (fun b o=>S b o∨w.heap.size≤b) w' (.tup []) v∧Below w.heap.size w w'∧w.drawn≤w'.drawn:=fun a c=>by
  refine (Go.Proofs.AnyF.slices_SortFunc_none laySortE a c v1 w).mono ?_;rintro e w' ⟨rfl,rfl⟩;exact ⟨_,rfl,⟨#[],rfl,rfl,by simp⟩,Below.refl _ _,QQ _⟩
 cases h0 with
 | nil a c=>exact key a c
 | slice b off k c rows cell hn hk hc hr=>exact key _ c
end
def kvE (e:E):MKey×MV:=(.ints [e.a,e.b],.c (.int .i64 e.m))
def mE (es:List E):List (MKey×MV):=es.map kvE
def B8H (es:List E):(mE es).length=es.length:=by simp [mE]
def C6e {j:Nat} {e:MKey×MV} (h:(mE es)[j]? =some e): ∃x,es[j]? =some x∧e=kvE x:=by
 simp only [mE,QW] at h;cases hx:es[j]? with
 | none=>simp [hx] at h
 | some x=>simp [hx] at h; exact ⟨x,rfl,h.symm⟩
def C7k {j:Nat} {x:E} (h:es[j]? =some x):(mE es)[j]? =some (kvE x):=by simp [mE,h]
variable {α:Type}
def A58 (l:List α) (seen:List Nat):List α:=seen.filterMap (l[·]?)
def B6I {α:Type} {l:List α} {seen:List Nat} {j:Nat} {x:α} (h:l[j]? =some x):A58 l (seen++[j])=A58 l seen++[x]:=by
 simp [A58,Qz5,h]
def A8Z {α:Type} {l:List α}: ∀{seen:List Nat},(∀j,j∈seen->j<l.length)->(A58 l seen).length=seen.length:=by
 intro seen
 induction seen with
 | nil=>intro _; rfl
 | cons j s ih=>
  intro h;have hj:=h j (by simp);have:=ih fun i hi=>h i (by simp [hi]);simp only [A58] at this ⊢;rw [List.filterMap_cons,Qq hj];simp [this]
def B4d (l:List α):A58 l (List.range l.length)=l:=by
 apply Zx;intro i;have hlen:(A58 l (List.range l.length)).length=l.length:=by rw [A8Z (fun j hj=>by simpa using hj)]; simp
 by_cases hi:i<l.length
 ·have e:List.range l.length=List.range i++(i::(List.range l.length).drop (i+1)):=by
   conv=>lhs; rw [<-Jv i (List.range l.length)]
   rw [List.take_range,Qq1 (by omega),Zz (by simpa using hi)];simp
  rw [e];simp only [A58,Qz5,List.filterMap_cons,Qq hi];have h1:(List.filterMap (fun x=>l[x]?) (List.range i)).length=i:=by
   have:=A8Z (l:=l) (seen:=List.range i) (fun j hj=>by simp at hj; omega);simpa [A58] using this
  rw [QV (by omega),h1];simp
 ·rw [Xx (by omega),Xx (by omega)]
def B6J {l:List α} {seen:List Nat} (h1:seen.Nodup) (h2: ∀j,j∈seen->j<l.length) (h3: ∀j,j<l.length->j∈seen):(A58 l seen).Perm l:=by
 have hp:seen.Perm (List.range l.length):=(WJ h1 Qq8).2 fun j=>by simp only [Xy]; exact ⟨h2 j,h3 j⟩
 have:=List.Perm.filterMap (l[·]?) hp;have e:=B4d l;unfold A58 at e ⊢;rw [e] at this; exact this
def A61 {n:Nat} {seen:List Nat} (h1:seen.Nodup) (h2: ∀j,j∈seen->j<n):seen.length≤n:=by
 have:=YZ h1 (l₂:=List.range n) (fun j hj=>by simp; exact h2 j hj);simpa using this
def B0w (l:List E) (x:E):A0f l++[[.int .i64 x.a,.int .i64 x.b,.int .i64 x.m]]=A0f (l++[x]):=by simp [A0f,C1L]
def A62 {l:List E} {r:List Tree} (h:r∈A0f l):r.length=3:=by
 obtain ⟨x,_,rfl⟩:=QJ.1 h; rfl
def C4k (es:List E):B64 (.map (mE es)):=fun e he=>by
 obtain ⟨x,_,rfl⟩:=QJ.1 he; exact rfl
def C1S (es:List E): ∀(a:MKey) (b:MV),(a,b)∈mE es->B5k b:=fun a b h=>C4k es (a,b) h
def C1T {l:List Blk} (h: ∀b,b∈l->B64 b) (id:Nat) (blk:Blk) (hb:l[id]? =some blk):B64 blk:=h blk (Qy hb)
def C7l (es:List (MKey×MV)) (l:List Blk): ∀id,id<1-> ∃es',(Blk.map es::l)[id]? =some (.map es'):=fun id h=>by
 have:id=0:=by omega
 subst this;exact ⟨es,rfl⟩
def B0x {l:List E} {r:List Tree} (h:r∈A0f l):A1j r=true:=by
 obtain ⟨x,_,rfl⟩:=QJ.1 h; rfl
def B8I {l:List E} {n cap:Nat} (hn:l.length=n) (hc:n≤cap):A4M (flatRows (A0f l)) 3 0 n cap=some (A0f l):=by
 have:=A4N (rows:=A0f l) (k:=3) (cap:=cap) (fun r hr=>A62 hr) (fun r hr=>B0x hr) (by rw [A07]; omega);rwa [A07,hn] at this
def B5t (n:Int) (es:List E) (hdis:distinctE es) (hl:es.length<2^20):ACallX Tryz.prog 148 [.map (mE es)] [.c (.map 0),.c (.int .i64 n)] (tG ⟨n,A3k es⟩):=by
 refine ACallX.of_body Tryz.func148 rfl (by kernel_rfl) (by simp [isMap]) ?_;simp only [entry,Tryz.ntmps148,ofT,A3u,A02,XQ,ZX,List.length_cons,List.length_nil,Nat.reduceAdd,Nat.reduceSub,List.replicate_succ,List.replicate_zero,List.cons_append,List.nil_append];refine FWp.seq ?_;refine zR Qv6 Qv6 Qv6 ?_;refine FWp.seq ?_;refine zR Qv6 Qv6 Qv6 ?_;refine FWp.seq ?_;refine AWp.seq ?_;refine zR Qv6 Qv6 Qv6 ?_;refine AWp.weak (Weak.openB 2 1 3 rfl rfl (by omega)) ?_;simp only [List.set_cons_succ,List.set_cons_zero,List.length_cons,List.length_nil,Xv,Nat.reduceAdd,List.cons_append,List.nil_append];refine AWp.loopS (α:=List Nat) 32 (fun seen=>[(0,.c (.map 0)),(1,.c (.int .i64 n)),(4,.c (.ptr 1 0)),(5,.c (.ptr 2 0)),(11,.c (.iter 3))]) (fun seen=>[.map (mE es),.box [.int .i64 0,.nils],.box [.int .i64 n,.slice (A0f (A58 es seen)) (.chain 4)],.iter 0 (mE es).length seen,.chain (A58 es seen).length 3]) (fun seen=>seen.Nodup∧ ∀j,j∈seen->j<es.length) (fun seen=>es.length-seen.length) ([]) (hk:=Weak.headL 5 32 [0,1,4,5,11] zW) (h0:=?_) (round:=fun seen hI=>?_)
 ·exact ⟨List.nodup_nil,fun j hj=>by cases hj⟩
 ·obtain ⟨hn,hlt⟩:=hI;have hsl:=A61 hn hlt;have hpl:=A8Z hlt;refine AWp.seq_next rfl rfl rfl rfl rfl (fun hd K hK=> ?_) (fun j e hj he K hK=> ?_)<;>(try refine zS ?_)
  ·have hperm:(A58 es seen).Perm es:=B6J hn hlt (fun j hj=>hd j (by rw [B8H]; exact hj));have hsort:=B4c hdis hperm;refine zM trivial trivial trivial trivial trivial (ed fun hp hpc=>?_);by_cases hL0:A58 es seen=[]
   ·rw [hL0] at hsort ⊢;refine FWp.seq ?_
    repeat' (first|((first|(refine zT ?_;intro K' hK')|(refine zG ?_ ?_<;>(try refine zH ?_)<;>intro hguard<;>(try exact zX)<;>try intro K' hK'))<;>((try simp+contextual only [go_sem,A0f,ZX]);(repeat' first|(with_reducible refine hK' _ _ ?_;clear hK' K')|(with_reducible refine zK B6H ?_;try simp+contextual only [go_sem,A0f,ZX])|exact zY|with_reducible refine Qv5 ?_ ?_|(with_reducible intro hpath;try exact zP)|(refine hK' _ _ ?_;clear hK' K')|fail);try refine zS ?_))|(refine zE ?_;refine hK _ _ ?_;clear hK K)|(refine zN ?_;try refine zS ?_)|refine zA ?_|(refine zB ?_;intro K hK)|(refine zC ?_ ?_<;>(try refine zH ?_)<;>intro hcond<;>try exact zX)|fail)
    refine FWp.of_awp ?_;refine zM trivial trivial trivial trivial trivial (ed fun hp hpc=>?_);rw [<-hsort];have hz:A3k []=[]:=List.Perm.eq_nil (A10 []);simp [C16,B67,Blk.cells,ty,Tryz.results148,A0v,A0w,toT,A6p,A0a,Tree.flat,hz,A0f,tG]
   ·generalize A58 es seen=L at*;have hLl:L.length<2^20:=by omega
    refine FWp.thawB 2 1 rfl rfl rfl (fun r hr=>A62 hr) (by decide) (fun r hr=>A1u (B0x hr)) (by simp [A0f,hL0]) (C1T (by simp [B64,A9P]; exact C1S es)) (by simp [C3Z,A9P,B8q]) (C7l _ _) (fun cap hcap=> ?_);rw [A07] at hcap;have hsl2:(A3k L).length=L.length:=(A10 L).length_eq;refine FWp.seq ?_;refine zM Qv6 (zc @A07 Qv6) Qv6 (zc (C1R L (by omega) rfl) Qv6) Qv6 (ed fun hp hpc=>?_);refine FWp.of_awp ?_;refine zM trivial trivial trivial trivial trivial (ed fun hp hpc=>?_);rw [<-hsort];have hr:=B8I hsl2 hcap;simp [C16,B67,Blk.cells,ty,Tryz.results148,A0v,A0w,toT,A6p,A0a,Tree.flat,hr,tG]
  ·obtain ⟨x,hx,rfl⟩:=C6e he;have hje:j<es.length:=(Qx.1 hx).1;have hsnoc:=B6I (seen:=seen) hx;simp only [kvE,A8B,A57]
   repeat' (first|((first|(refine zT ?_;intro K' hK')|(refine zG ?_ ?_<;>(try refine zH ?_)<;>intro hguard<;>(try exact zX)<;>try intro K' hK'))<;>((try simp+contextual only [go_sem,C7k hx,kvE,B8H,A07,chunks,List.range,List.range.loop,B0w,hpl]);(repeat' first|(with_reducible refine hK' _ _ ?_;clear hK' K')|(with_reducible exact A62 (by assumption))|exact zY|with_reducible refine Qv5 ?_ ?_|(with_reducible intro hpath;try exact zP)|(refine hK' _ _ ?_;clear hK' K')|fail);try refine zS ?_))|(refine zE ?_;refine hK _ _ ?_;clear hK K)|(refine zN ?_;try refine zS ?_)|refine zA ?_|(refine zB ?_;intro K hK)|(refine zC ?_ ?_<;>(try refine zH ?_)<;>intro hcond<;>try exact zX)|fail)
   refine ⟨seen++[j],Weak.headF 5 32 [0,1,4,5,11] (zc @hsnoc (zc @B8H (zc @hpl Qv6))) zW,?_,?_⟩
   ·refine ⟨Wj.2 ⟨hn,by simp,fun a ha b hb=>by simp at hb; subst hb; rintro rfl; exact hj ha⟩,fun i hi=> ?_⟩;rcases XY.1 hi with hi | hi
    ·exact hlt i hi
    ·simp at hi; subst hi; exact hje
   ·have:=A61 (n:=es.length) (seen:=seen++[j]) (Wj.2 ⟨hn,by simp,fun a ha b hb=>by simp at hb; subst hb; rintro rfl; exact hj ha⟩) (fun i hi=>by
     rcases XY.1 hi with hi | hi
     ·exact hlt i hi
     ·simp at hi; subst hi; exact hje)
    simp at this ⊢;omega
def A1H:List E->Int->Int->Int
 | [],_,_=>0
 | x::xs,a,b=>if x.a=a∧x.b=b then x.m else A1H xs a b
def A1B:List E->Int->Int->Int->List E
 | [],a,b,m=>[⟨a,b,m⟩]
 | x::xs,a,b,m=>if x.a=a∧x.b=b then ⟨a,b,m⟩::xs else x::A1B xs a b m
def C6f (x:E) (a b:Int):((kvE x).1==MKey.ints [a,b])=decide (x.a=a∧x.b=b):=by
 rw [Qj9]; simp [kvE]
def B8J (x:E) (xs:List E) (a b:Int):mIdx (mE (x::xs)) (.ints [a,b])=if x.a=a∧x.b=b then some 0 else (mIdx (mE xs) (.ints [a,b])).map (·+1):=by
 simp only [mIdx,mE,XQ,JJ,C6f];by_cases h:x.a=a∧x.b=b<;>simp [h]
def B1w (es:List E) (a b m:Int):B3F (mE es) (.ints [a,b]) (.c (.int .i64 m))=mE (A1B es a b m):=by
 induction es with
 | nil=>simp [B3F,mIdx,mE,A1B,kvE]
 | cons x xs ih=>
  unfold B3F at ih ⊢;rw [B8J];by_cases h:x.a=a∧x.b=b
  ·simp [h,A1B,mE,kvE]
  ·rw [if_neg h];simp only [A1B,if_neg h];have e:mE (x::A1B xs a b m)=kvE x::mE (A1B xs a b m):=rfl;rw [e,<-ih];cases hx:mIdx (mE xs) (.ints [a,b]) with
   | none=>simp [mE]
   | some j=>simp [mE]
def A9a (es:List E) (p:Int×Int):List E:=A1B es (min p.1 p.2) (max p.1 p.2) (A1H es (min p.1 p.2) (max p.1 p.2)+1)
def A59 (l:List (Int×Int)):List E:=l.foldl A9a []
def A63 (l:List (Int×Int)) (p:Int×Int):A59 (l++[p])=A9a (A59 l) p:=by simp [A59]
def A5y {a b m:Int} {e:E} (h:e∈A1B es a b m):e∈es∨e=⟨a,b,m⟩:=by
 induction es with
 | nil=>simp [A1B] at h; exact .inr h
 | cons x xs ih=>
  simp only [A1B] at h;split at h
  ·rcases Qw.1 h with h | h
   ·exact .inr h
   ·exact .inl (by simp [h])
  ·rcases Qw.1 h with h | h
   ·exact .inl (by simp [h])
   ·rcases ih h with h | h
    ·exact .inl (by simp [h])
    ·exact .inr h
def A4X {a b m:Int} (h:distinctE es):distinctE (A1B es a b m):=by
 induction es with
 | nil=>simp [A1B,distinctE]
 | cons x xs ih=>
  unfold distinctE at*;rw [Wz] at h;simp only [A1B];split
  ·rename_i hx;refine Wz.2 ⟨fun y hy=> ?_,h.2⟩;have:=h.1 y hy;unfold neE at*; simp only; omega
  ·rename_i hx;refine Wz.2 ⟨fun y hy=> ?_,ih h.2⟩;rcases A5y hy with hy | hy
   ·exact h.1 y hy
   ·subst hy; unfold neE; simp only; omega
def B0y (es:List E) (a b m:Int):(A1B es a b m).length≤es.length+1:=by
 induction es with
 | nil=>simp [A1B]
 | cons x xs ih=>simp only [A1B]; split<;>simp<;>omega
def B4e {es:List E} {a b k:Int} (h: ∀e,e∈es->e.m≤k) (hk:0≤k):A1H es a b≤k:=by
 induction es with
 | nil=>simpa [A1H] using hk
 | cons x xs ih=>simp only [A1H]; split; exact h x (by simp); exact ih fun e he=>h e (by simp [he])
def B4f {es:List E} {a b:Int} (h: ∀e,e∈es->1≤e.m):0≤A1H es a b:=by
 induction es with
 | nil=>simp [A1H]
 | cons x xs ih=>simp only [A1H]; split; have:=h x (by simp); omega; exact ih fun e he=>h e (by simp [he])
structure BagOk (n:Int) (k:Nat) (es:List E):Prop where
 d:distinctE es
 len:es.length≤k
 m: ∀e,e∈es->1≤e.m∧e.m≤k
 r: ∀e,e∈es->0≤e.a∧e.a≤e.b∧e.b<n
def B5u {n:Int} {k:Nat} (h:BagOk n k es) {p:Int×Int} (h1:0≤p.1∧p.1<n) (h2:0≤p.2∧p.2<n):BagOk n (k+1) (A9a es p):=by
 have c1:=B4e (a:=min p.1 p.2) (b:=max p.1 p.2) (k:=k) (fun e he=>(h.m e he).2) (by omega);have c2:=B4f (a:=min p.1 p.2) (b:=max p.1 p.2) (fun e he=>(h.m e he).1);refine ⟨A4X h.d,Yj (B0y ..) (by have:=h.len; omega),fun e he=> ?_,fun e he=> ?_⟩
 ·rcases A5y he with he | rfl
  ·have:=h.m e he; omega
  ·simp only; omega
 ·rcases A5y he with he | rfl
  ·exact h.r e he
  ·simp only; omega
def key_ok {a b:Int} (h1:0≤a∧a<12) (h2:0≤b∧b<12):(KShape.ints 2).ok (.ints [a,b])=true:=by
 simp only [KShape.ok,List.length_cons,List.length_nil,XJ,beq_iff_eq,Zv,Qw,Qv,or_false,decide_eq_true_eq];exact ⟨trivial,fun y hy=>by rcases hy with rfl | rfl<;>omega⟩
open Classical in
noncomputable def A5T (n:Int) (l:List (Int×Int)):G×Int:=
 if n<1∨12<n then (⟨0,[]⟩,2) else if 4096<l.length then (⟨0,[]⟩,5)
 else if ∃p,p∈l∧ ¬((0≤p.1∧p.1<n)∧(0≤p.2∧p.2<n)) then (⟨0,[]⟩,2)
 else if ∃e,e∈A59 l∧50<e.m then (⟨0,[]⟩,5) else (⟨n,A3k (A59 l)⟩,0)
end Go.Proofs.YtdbdfkohpjefjaaGreat
