/- A part of the proof. -/
import Derived.Test.YtdbdfkohpjefjaaGreatPart01
import Derived.Test.YtdbdfkohpjefjaaGreatPart02
import Derived.Shelf.SlSortCmp.NoneTotal
set_option linter.all false
set_option maxHeartbeats 4000000
set_option maxRecDepth 100000
namespace Go.Proofs.YtdbdfkohpjefjaaGreat
open Go.Sp
variable {es:List E}
section
section
open Go.Sort (SWO)
instance:Inhabited E:=⟨⟨0,0,0⟩⟩
def C7B (a b c d:Int):Int:=orI [A6f a c,A6f b d]
def cfE (x y:E):Int:=C7B x.a x.b y.a y.b
def C2y (x y:E):ACall Tryz.prog 178 [.agg (C2u x),.agg (C2u y)] (.t (.int .i64 (cfE x y))):=by
 refine ACall.of_body Tryz.func178 rfl (by kernel_rfl) ?_;simp only [entry,Tryz.ntmps178,C2u];refine zU ?_;refine zM Qv5 Qv5 (zc B0y Qv5) Qv5 Qv5 (ed fun hp hpc=>?_);simp [A0s,A0r,Blk.cells,ty,Tryz.results178,A0o,A0p,toT,A0d,A0b,A0c,A0a,cfE,C7B,A0j]
def A8o (x y:E):Go.Proofs.ltOf cfE x y=true↔ltE x y:=by
 unfold Go.Proofs.ltOf cfE C7B orI orI A6f ltE;simp only [decide_eq_true_eq]
 (repeat' split)<;>simp_all [orI]<;>omega
def C7C:SWO (Go.Proofs.ltOf cfE) where
 irrefl x:=by
  rw [<-Qx3,A8o]; unfold ltE; omega
 trans x y z h1 h2:=by
  rw [A8o] at*; unfold ltE at*; omega
 ntrans x y z h1 h2:=by
  rw [<-Qx3,A8o] at*; unfold ltE at*; omega
noncomputable def A3i (es:List E):List E:=A4R cfE es
def neE (x y:E):Prop:= ¬(x.a=y.a∧x.b=y.b)
def neE.symm {x y:E} (h:neE x y):neE y x:=by unfold neE at*; omega
def distinctE (es:List E):Prop:=es.Pairwise neE
def A1v (es:List E):(A3i es).Perm es:=(A3U C7C es).1
def A29 (h:distinctE es):(A3i es).Pairwise ltE:=by
 have h1:distinctE (A3i es):=(Qz4 neE.symm (A1v es)).2 h;unfold distinctE at h1;rw [ZJ] at h1 ⊢;intro i j hi hj hij;have h2:=(A3U C7C es).2 i j _ _ hij (Qq hi) (Qq hj);rw [<-Qx3,A8o] at h2;have h3:=h1 i j hi hj hij;unfold ltE neE at*;simp only [A3i] at*;omega
def A4o {l l':List E} (h:l.Pairwise ltE) (h':l'.Pairwise ltE) (hp:l.Perm l'):l=l':=
 Qj5 (le:=ltE) (fun a b _ _ h1 h2=>by unfold ltE at*; omega) h h' hp
def C2z {l es:List E} (h:l.Pairwise ltE) (hp:l.Perm es):A3i es=l:=by
 have hd:distinctE es:=by
  refine (Qz4 neE.symm hp).1 ?_;exact h.imp fun {x y} h=>by unfold ltE at h; unfold neE; omega
 exact A4o (A29 hd) h ((A1v es).trans hp.symm)
def B4s {l es:List E} (hd:distinctE es) (hp:l.Perm es):A3i l=A3i es:=by
 have hd':distinctE l:=(Qz4 neE.symm hp.symm).1 hd;exact A4o (A29 hd') (A29 hd) ((A1v l).trans (hp.trans (A1v es).symm))
end
open Go.Sp Go.RowKit
def C7D: ∀w,(isAgg 132).run Tryz.prog w= .ok true w:=fun w=>by
 have h:A1O Tryz.prog 132=some true:=by simp only [ty]
 simp [B1n h]
def C62: ∀w,(Go.sizeOf 132).run Tryz.prog w= .ok 3 w:=fun w=>by
 have h:A0u Tryz.prog 132=some 3:=by simp only [ty]
 exact A1Q h w
def B9b: ∀args w,(callFunc 177 args).run Tryz.prog w= .ok (.enter 177 args) w:=Go.Proofs.enters_of Tryz.func177 (by kernel_rfl) rfl
def B9c (e:E):A1b (C2u e)=true:=rfl
def C20 (es:List E) (hl:es.length<2^60) {H:List Blk} {id cap:Nat} (hid:H[id]? =some (.box (flatRows (A0f es)))):
  ACallH Tryz.prog 177 H [.c (.ref id 3 0 es.length cap),.c (.fn 178 [])] (H.set id (.box (flatRows (A0f (A3i es))))) (.tup []):=
 B10 laySortE C2u 3 C7D C62 (fun _=>rfl) B9c cfE C7C 178 C2y B9b es (by omega) hid
def B7h:ACall Tryz.prog 177 [.t (.slice []),.t (.fn 178 [])] (.tup []):=by
 refine ⟨B9b,fun S w vs hl hv=> ?_⟩
 match vs,hl with
 | [v0,v1],_=>
 have h0:TRel S w (.slice []) v0:=hv 0 _ v0 rfl rfl;have key: ∀a c,Calls Tryz.prog 177 #[.slice a 0 c,v1] w fun e w'=> ∃v,e= .returned v∧TVRel (fun b o=>S b o∨w.heap.size≤b) w' (.tup []) v∧Below w.heap.size w w'∧w.drawn≤w'.drawn:=fun a c=>by
  refine (Go.Proofs.AnyF.slices_SortFunc_none laySortE a c v1 w).mono ?_;rintro e w' ⟨rfl,rfl⟩;exact ⟨_,rfl,⟨#[],rfl,rfl,by simp⟩,Below.refl _ _,Qk _⟩
 cases h0 with
 | nil a c=>exact key a c
 | slice b off k c rows cell hn hk hc hr=>exact key _ c
end
def kvE (e:E):MKey×MV:=(.ints [e.a,e.b],.c (.int .i64 e.m))
def mE (es:List E):List (MKey×MV):=es.map kvE
def B9d (es:List E):(mE es).length=es.length:=by simp [mE]
def C63 {j:Nat} {e:MKey×MV} (h:(mE es)[j]? =some e): ∃x,es[j]? =some x∧e=kvE x:=by
 simp only [mE,QQ] at h;cases hx:es[j]? with
 | none=>simp [hx] at h
 | some x=>simp [hx] at h; exact ⟨x,rfl,h.symm⟩
def C7E {j:Nat} {x:E} (h:es[j]? =some x):(mE es)[j]? =some (kvE x):=by simp [mE,h]
variable {α:Type}
def A5C (l:List α) (seen:List Nat):List α:=seen.filterMap (l[·]?)
def B7i {α:Type} {l:List α} {seen:List Nat} {j:Nat} {x:α} (h:l[j]? =some x):A5C l (seen++[j])=A5C l seen++[x]:=by
 simp [A5C,Qz8,h]
def A9h {α:Type} {l:List α}: ∀{seen:List Nat},(∀j,j∈seen->j<l.length)->(A5C l seen).length=seen.length:=by
 intro seen
 induction seen with
 | nil=>intro _; rfl
 | cons j s ih=>
  intro h;have hj:=h j (by simp);have:=ih fun i hi=>h i (by simp [hi]);simp only [A5C] at this ⊢;rw [List.filterMap_cons,Qq hj];simp [this]
def B4t (l:List α):A5C l (List.range l.length)=l:=by
 apply Zq;intro i;have hlen:(A5C l (List.range l.length)).length=l.length:=by rw [A9h (fun j hj=>by simpa using hj)]; simp
 by_cases hi:i<l.length
 ·have e:List.range l.length=List.range i++(i::(List.range l.length).drop (i+1)):=by
   conv=>lhs; rw [<-WJ i (List.range l.length)]
   rw [List.take_range,Qq6 (by omega),Zk (by simpa using hi)];simp
  rw [e];simp only [A5C,Qz8,List.filterMap_cons,Qq hi];have h1:(List.filterMap (fun x=>l[x]?) (List.range i)).length=i:=by
   have:=A9h (l:=l) (seen:=List.range i) (fun j hj=>by simp at hj; omega);simpa [A5C] using this
  rw [QW (by omega),h1];simp
 ·rw [Xq (by omega),Xq (by omega)]
def B7j {l:List α} {seen:List Nat} (h1:seen.Nodup) (h2: ∀j,j∈seen->j<l.length) (h3: ∀j,j<l.length->j∈seen):(A5C l seen).Perm l:=by
 have hp:seen.Perm (List.range l.length):=(WZ h1 Qx1).2 fun j=>by simp only [Xk]; exact ⟨h2 j,h3 j⟩
 have:=List.Perm.filterMap (l[·]?) hp;have e:=B4t l;unfold A5C at e ⊢;rw [e] at this; exact this
def A62 {n:Nat} {seen:List Nat} (h1:seen.Nodup) (h2: ∀j,j∈seen->j<n):seen.length≤n:=by
 have:=YZ h1 (l₂:=List.range n) (fun j hj=>by simp; exact h2 j hj);simpa using this
def B04 (l:List E) (x:E):A0f l++[[.int .i64 x.a,.int .i64 x.b,.int .i64 x.m]]=A0f (l++[x]):=by simp [A0f,C2u]
def A63 {l:List E} {r:List Tree} (h:r∈A0f l):r.length=3:=by
 obtain ⟨x,_,rfl⟩:=QY.1 h; rfl
def C4G (es:List E):B6V (.map (mE es)):=fun e he=>by
 obtain ⟨x,_,rfl⟩:=QY.1 he; exact rfl
def C21 (es:List E): ∀(a:MKey) (b:MV),(a,b)∈mE es->B55 b:=fun a b h=>C4G es (a,b) h
def C22 {l:List Blk} (h: ∀b,b∈l->B6V b) (id:Nat) (blk:Blk) (hb:l[id]? =some blk):B6V blk:=h blk (Qv hb)
def C7F (es:List (MKey×MV)) (l:List Blk): ∀id,id<1-> ∃es',(Blk.map es::l)[id]? =some (.map es'):=fun id h=>by
 have:id=0:=by omega
 subst this;exact ⟨es,rfl⟩
def B05 {l:List E} {r:List Tree} (h:r∈A0f l):A1b r=true:=by
 obtain ⟨x,_,rfl⟩:=QY.1 h; rfl
def B9e {l:List E} {n cap:Nat} (hn:l.length=n) (hc:n≤cap):A4O (flatRows (A0f l)) 3 0 n cap=some (A0f l):=by
 have:=A4P (rows:=A0f l) (k:=3) (cap:=cap) (fun r hr=>A63 hr) (fun r hr=>B05 hr) (by rw [A00]; omega);rwa [A00,hn] at this
def B5F (n:Int) (es:List E) (hdis:distinctE es) (hl:es.length<2^20):ACallX Tryz.prog 148 [.map (mE es)] [.c (.map 0),.c (.int .i64 n)] (tG ⟨n,A3i es⟩):=by
 refine ACallX.of_body Tryz.func148 rfl (by kernel_rfl) (by simp [isMap]) ?_;simp only [entry,Tryz.ntmps148,ofT,A3v,A0v,XY,ZQ,List.length_cons,List.length_nil,Nat.reduceAdd,Nat.reduceSub,List.replicate_succ,List.replicate_zero,List.cons_append,List.nil_append];refine FWp.seq ?_;refine zR Qv5 Qv5 Qv5 ?_;refine FWp.seq ?_;refine zR Qv5 Qv5 Qv5 ?_;refine FWp.seq ?_;refine AWp.seq ?_;refine zR Qv5 Qv5 Qv5 ?_;refine AWp.weak (Weak.openB 2 1 3 rfl rfl (by omega)) ?_;simp only [List.set_cons_succ,List.set_cons_zero,List.length_cons,List.length_nil,Xv,Nat.reduceAdd,List.cons_append,List.nil_append];refine AWp.loopS (α:=List Nat) 32 (fun seen=>[(0,.c (.map 0)),(1,.c (.int .i64 n)),(4,.c (.ptr 1 0)),(5,.c (.ptr 2 0)),(11,.c (.iter 3))]) (fun seen=>[.map (mE es),.box [.int .i64 0,.nils],.box [.int .i64 n,.slice (A0f (A5C es seen)) (.chain 4)],.iter 0 (mE es).length seen,.chain (A5C es seen).length 3]) (fun seen=>seen.Nodup∧ ∀j,j∈seen->j<es.length) (fun seen=>es.length-seen.length) ([]) (hk:=Weak.headL 5 32 [0,1,4,5,11] zW) (h0:=?_) (round:=fun seen hI=>?_)
 ·exact ⟨List.nodup_nil,fun j hj=>by cases hj⟩
 ·obtain ⟨hn,hlt⟩:=hI;have hsl:=A62 hn hlt;have hpl:=A9h hlt;refine AWp.seq_next rfl rfl rfl rfl rfl (fun hd K hK=> ?_) (fun j e hj he K hK=> ?_)<;>(try refine zS ?_)
  ·have hperm:(A5C es seen).Perm es:=B7j hn hlt (fun j hj=>hd j (by rw [B9d]; exact hj));have hsort:=B4s hdis hperm;refine zM trivial trivial trivial trivial trivial (ed fun hp hpc=>?_);by_cases hL0:A5C es seen=[]
   ·rw [hL0] at hsort ⊢;refine FWp.seq ?_
    repeat' (first|((first|(refine zT ?_;intro K' hK')|(refine zG ?_ ?_<;>(try refine zH ?_)<;>intro hguard<;>(try exact zX)<;>try intro K' hK'))<;>((try simp+contextual only [go_sem,A0f,ZQ]);(repeat' first|(with_reducible refine hK' _ _ ?_;clear hK' K')|(with_reducible refine zK B7h ?_;try simp+contextual only [go_sem,A0f,ZQ])|exact zY|with_reducible refine Qv4 ?_ ?_|(with_reducible intro hpath;try exact zP)|(refine hK' _ _ ?_;clear hK' K')|fail);try refine zS ?_))|(refine zE ?_;refine hK _ _ ?_;clear hK K)|(refine zN ?_;try refine zS ?_)|refine zA ?_|(refine zB ?_;intro K hK)|(refine zC ?_ ?_<;>(try refine zH ?_)<;>intro hcond<;>try exact zX)|fail)
    refine FWp.of_awp ?_;refine zM trivial trivial trivial trivial trivial (ed fun hp hpc=>?_);rw [<-hsort];have hz:A3i []=[]:=List.Perm.eq_nil (A1v []);simp [C2f,B6Y,Blk.cells,ty,Tryz.results148,A0o,A0p,toT,A6p,A0a,Tree.flat,hz,A0f,tG]
   ·generalize A5C es seen=L at*;have hLl:L.length<2^20:=by omega
    refine FWp.thawB 2 1 rfl rfl rfl (fun r hr=>A63 hr) (by decide) (fun r hr=>A1o (B05 hr)) (by simp [A0f,hL0]) (C22 (by simp [B6V,A8Q]; exact C21 es)) (by simp [C46,A8Q,B8C]) (C7F _ _) (fun cap hcap=> ?_);rw [A00] at hcap;have hsl2:(A3i L).length=L.length:=(A1v L).length_eq;refine FWp.seq ?_;refine zM Qv5 (zc @A00 Qv5) Qv5 (zc (C20 L (by omega) rfl) Qv5) Qv5 (ed fun hp hpc=>?_);refine FWp.of_awp ?_;refine zM trivial trivial trivial trivial trivial (ed fun hp hpc=>?_);rw [<-hsort];have hr:=B9e hsl2 hcap;simp [C2f,B6Y,Blk.cells,ty,Tryz.results148,A0o,A0p,toT,A6p,A0a,Tree.flat,hr,tG]
  ·obtain ⟨x,hx,rfl⟩:=C63 he;have hje:j<es.length:=(Qx.1 hx).1;have hsnoc:=B7i (seen:=seen) hx;simp only [kvE,A8I,A5B]
   repeat' (first|((first|(refine zT ?_;intro K' hK')|(refine zG ?_ ?_<;>(try refine zH ?_)<;>intro hguard<;>(try exact zX)<;>try intro K' hK'))<;>((try simp+contextual only [go_sem,C7E hx,kvE,B9d,A00,chunks,List.range,List.range.loop,B04,hpl]);(repeat' first|(with_reducible refine hK' _ _ ?_;clear hK' K')|(with_reducible exact A63 (by assumption))|exact zY|with_reducible refine Qv4 ?_ ?_|(with_reducible intro hpath;try exact zP)|(refine hK' _ _ ?_;clear hK' K')|fail);try refine zS ?_))|(refine zE ?_;refine hK _ _ ?_;clear hK K)|(refine zN ?_;try refine zS ?_)|refine zA ?_|(refine zB ?_;intro K hK)|(refine zC ?_ ?_<;>(try refine zH ?_)<;>intro hcond<;>try exact zX)|fail)
   refine ⟨seen++[j],Weak.headF 5 32 [0,1,4,5,11] (zc @hsnoc (zc @B9d (zc @hpl Qv5))) zW,?_,?_⟩
   ·refine ⟨YW.2 ⟨hn,by simp,fun a ha b hb=>by simp at hb; subst hb; rintro rfl; exact hj ha⟩,fun i hi=> ?_⟩;rcases XZ.1 hi with hi | hi
    ·exact hlt i hi
    ·simp at hi; subst hi; exact hje
   ·have:=A62 (n:=es.length) (seen:=seen++[j]) (YW.2 ⟨hn,by simp,fun a ha b hb=>by simp at hb; subst hb; rintro rfl; exact hj ha⟩) (fun i hi=>by
     rcases XZ.1 hi with hi | hi
     ·exact hlt i hi
     ·simp at hi; subst hi; exact hje)
    simp at this ⊢;omega
def A3I:List E->Int->Int->Int
 | [],_,_=>0
 | x::xs,a,b=>if x.a=a∧x.b=b then x.m else A3I xs a b
def A19:List E->Int->Int->Int->List E
 | [],a,b,m=>[⟨a,b,m⟩]
 | x::xs,a,b,m=>if x.a=a∧x.b=b then ⟨a,b,m⟩::xs else x::A19 xs a b m
def C64 (x:E) (a b:Int):((kvE x).1==MKey.ints [a,b])=decide (x.a=a∧x.b=b):=by
 rw [Qj2]; simp [kvE]
def B9f (x:E) (xs:List E) (a b:Int):mIdx (mE (x::xs)) (.ints [a,b])=if x.a=a∧x.b=b then some 0 else (mIdx (mE xs) (.ints [a,b])).map (·+1):=by
 simp only [mIdx,mE,XY,JJ,C64];by_cases h:x.a=a∧x.b=b<;>simp [h]
def B19 (es:List E) (a b m:Int):B3X (mE es) (.ints [a,b]) (.c (.int .i64 m))=mE (A19 es a b m):=by
 induction es with
 | nil=>simp [B3X,mIdx,mE,A19,kvE]
 | cons x xs ih=>
  unfold B3X at ih ⊢;rw [B9f];by_cases h:x.a=a∧x.b=b
  ·simp [h,A19,mE,kvE]
  ·rw [if_neg h];simp only [A19,if_neg h];have e:mE (x::A19 xs a b m)=kvE x::mE (A19 xs a b m):=rfl;rw [e,<-ih];cases hx:mIdx (mE xs) (.ints [a,b]) with
   | none=>simp [mE]
   | some j=>simp [mE]
def A9i (es:List E) (p:Int×Int):List E:=A19 es (min p.1 p.2) (max p.1 p.2) (A3I es (min p.1 p.2) (max p.1 p.2)+1)
def A5D (l:List (Int×Int)):List E:=l.foldl A9i []
def A64 (l:List (Int×Int)) (p:Int×Int):A5D (l++[p])=A9i (A5D l) p:=by simp [A5D]
def A52 {a b m:Int} {e:E} (h:e∈A19 es a b m):e∈es∨e=⟨a,b,m⟩:=by
 induction es with
 | nil=>simp [A19] at h; exact .inr h
 | cons x xs ih=>
  simp only [A19] at h;split at h
  ·rcases QV.1 h with h | h
   ·exact .inr h
   ·exact .inl (by simp [h])
  ·rcases QV.1 h with h | h
   ·exact .inl (by simp [h])
   ·rcases ih h with h | h
    ·exact .inl (by simp [h])
    ·exact .inr h
def A4Y {a b m:Int} (h:distinctE es):distinctE (A19 es a b m):=by
 induction es with
 | nil=>simp [A19,distinctE]
 | cons x xs ih=>
  unfold distinctE at*;rw [Jq] at h;simp only [A19];split
  ·rename_i hx;refine Jq.2 ⟨fun y hy=> ?_,h.2⟩;have:=h.1 y hy;unfold neE at*; simp only; omega
  ·rename_i hx;refine Jq.2 ⟨fun y hy=> ?_,ih h.2⟩;rcases A52 hy with hy | hy
   ·exact h.1 y hy
   ·subst hy; unfold neE; simp only; omega
def B06 (es:List E) (a b m:Int):(A19 es a b m).length≤es.length+1:=by
 induction es with
 | nil=>simp [A19]
 | cons x xs ih=>simp only [A19]; split<;>simp<;>omega
def B9g {es:List E} {a b k:Int} (h: ∀e,e∈es->e.m≤k) (hk:0≤k):A3I es a b≤k:=by
 induction es with
 | nil=>simpa [A3I] using hk
 | cons x xs ih=>simp only [A3I]; split; exact h x (by simp); exact ih fun e he=>h e (by simp [he])
def B9h {es:List E} {a b:Int} (h: ∀e,e∈es->1≤e.m):0≤A3I es a b:=by
 induction es with
 | nil=>simp [A3I]
 | cons x xs ih=>simp only [A3I]; split; have:=h x (by simp); omega; exact ih fun e he=>h e (by simp [he])
structure BagOk (n:Int) (k:Nat) (es:List E):Prop where
 d:distinctE es
 len:es.length≤k
 m: ∀e,e∈es->1≤e.m∧e.m≤k
 r: ∀e,e∈es->0≤e.a∧e.a≤e.b∧e.b<n
def B5G {n:Int} {k:Nat} (h:BagOk n k es) {p:Int×Int} (h1:0≤p.1∧p.1<n) (h2:0≤p.2∧p.2<n):BagOk n (k+1) (A9i es p):=by
 have c1:=B9g (a:=min p.1 p.2) (b:=max p.1 p.2) (k:=k) (fun e he=>(h.m e he).2) (by omega);have c2:=B9h (a:=min p.1 p.2) (b:=max p.1 p.2) (fun e he=>(h.m e he).1);refine ⟨A4Y h.d,Yw (B06 ..) (by have:=h.len; omega),fun e he=> ?_,fun e he=> ?_⟩
 ·rcases A52 he with he | rfl
  ·have:=h.m e he; omega
  ·simp only; omega
 ·rcases A52 he with he | rfl
  ·exact h.r e he
  ·simp only; omega
def key_ok {a b:Int} (h1:0≤a∧a<12) (h2:0≤b∧b<12):(KShape.ints 2).ok (.ints [a,b])=true:=by
 simp only [KShape.ok,List.length_cons,List.length_nil,XV,beq_iff_eq,ZX,QV,XJ,or_false,decide_eq_true_eq];exact ⟨trivial,fun y hy=>by rcases hy with rfl | rfl<;>omega⟩
open Classical in
noncomputable def A5W (n:Int) (l:List (Int×Int)):G×Int:=
 if n<1∨12<n then (⟨0,[]⟩,2) else if 4096<l.length then (⟨0,[]⟩,5)
 else if ∃p,p∈l∧ ¬((0≤p.1∧p.1<n)∧(0≤p.2∧p.2<n)) then (⟨0,[]⟩,2)
 else if ∃e,e∈A5D l∧50<e.m then (⟨0,[]⟩,5) else (⟨n,A3i (A5D l)⟩,0)
end Go.Proofs.YtdbdfkohpjefjaaGreat
