/- A part of the proof. -/
import Derived.Test.YtdbdfkohpjefjaaGreatPart04
set_option linter.all false
set_option maxHeartbeats 4000000
set_option maxRecDepth 100000
namespace Go.Proofs.YtdbdfkohpjefjaaGreat
open Go.Sp
def kvE (e:E):MKey×MV:=(.ints [e.a,e.b],.c (.int .i64 e.m))
def mE (es:List E):List (MKey×MV):=es.map kvE
theorem B7j (es:List E):(mE es).length=es.length:=by simp [mE]
theorem C3H {es:List E} {j:Nat} {e:MKey×MV} (h:(mE es)[j]? =some e): ∃x,es[j]? =some x∧e=kvE x:=by
 simp only [mE,QY] at h;cases hx:es[j]? with
 | none=>simp [hx] at h
 | some x=>simp [hx] at h; exact ⟨x,rfl,h.symm⟩
theorem C4R {es:List E} {j:Nat} {x:E} (h:es[j]? =some x):(mE es)[j]? =some (kvE x):=by simp [mE,h]
def A5g {α:Type} (l:List α) (seen:List Nat):List α:=seen.filterMap (l[·]?)
theorem B5r {α:Type} {l:List α} {seen:List Nat} {j:Nat} {x:α} (h:l[j]? =some x):A5g l (seen++[j])=A5g l seen++[x]:=by
 simp [A5g,Qx7,h]
theorem A8n {α:Type} {l:List α}: ∀{seen:List Nat},(∀j,j∈seen->j<l.length)->(A5g l seen).length=seen.length:=by
 intro seen
 induction seen with
 | nil=>intro _; rfl
 | cons j s ih=>
  intro h;have hj:=h j (by simp);have:=ih fun i hi=>h i (by simp [hi]);simp only [A5g] at this ⊢;rw [List.filterMap_cons,Qq hj];simp [this]
theorem B2P {α:Type} (l:List α):A5g l (List.range l.length)=l:=by
 apply XY;intro i;have hlen:(A5g l (List.range l.length)).length=l.length:=by rw [A8n (fun j hj=>by simpa using hj)]; simp
 by_cases hi:i<l.length
 ·have e:List.range l.length=List.range i++(i::(List.range l.length).drop (i+1)):=by
   conv=>lhs; rw [<-Wy i (List.range l.length)]
   rw [List.take_range,VJ (by omega),Zy (by simpa using hi)];simp
  rw [e];simp only [A5g,Qx7,List.filterMap_cons,Qq hi];have h1:(List.filterMap (fun x=>l[x]?) (List.range i)).length=i:=by
   have:=A8n (l:=l) (seen:=List.range i) (fun j hj=>by simp at hj; omega);simpa [A5g] using this
  rw [QJ (by omega),h1];simp
 ·rw [QV (by omega),QV (by omega)]
theorem B5s {α:Type} {l:List α} {seen:List Nat} (h1:seen.Nodup) (h2: ∀j,j∈seen->j<l.length) (h3: ∀j,j<l.length->j∈seen):(A5g l seen).Perm l:=by
 have hp:seen.Perm (List.range l.length):=(Vw h1 Qx4).2 fun j=>by simp only [XQ]; exact ⟨h2 j,h3 j⟩
 have:=List.Perm.filterMap (l[·]?) hp;have e:=B2P l;unfold A5g at e ⊢;rw [e] at this; exact this
theorem A8o {n:Nat} {seen:List Nat} (h1:seen.Nodup) (h2: ∀j,j∈seen->j<n):seen.length≤n:=by
 have:=WJ h1 (l₂:=List.range n) (fun j hj=>by simp; exact h2 j hj);simpa using this
theorem A91 (l:List E) (x:E):A0f l++[[.int .i64 x.a,.int .i64 x.b,.int .i64 x.m]]=A0f (l++[x]):=by simp [A0f,C0a]
theorem A5W {l:List E} {r:List Tree} (h:r∈A0f l):r.length=3:=by
 obtain ⟨x,_,rfl⟩:=Xq.1 h; rfl
theorem C2h (es:List E):B5e (.map (mE es)):=fun e he=>by
 obtain ⟨x,_,rfl⟩:=Xq.1 he; exact rfl
theorem C0g (es:List E): ∀(a:MKey) (b:MV),(a,b)∈mE es->B3N b:=fun a b h=>C2h es (a,b) h
theorem C0h {l:List Blk} (h: ∀b,b∈l->B5e b) (id:Nat) (blk:Blk) (hb:l[id]? =some blk):B5e blk:=h blk (Qy hb)
theorem C4S (es:List (MKey×MV)) (l:List Blk): ∀id,id<1-> ∃es',(Blk.map es::l)[id]? =some (.map es'):=fun id h=>by
 have:id=0:=by omega
 subst this;exact ⟨es,rfl⟩
theorem A92 {l:List E} {r:List Tree} (h:r∈A0f l):A1f r=true:=by
 obtain ⟨x,_,rfl⟩:=Xq.1 h; rfl
theorem B7k {l:List E} {n cap:Nat} (hn:l.length=n) (hc:n≤cap):A4w (flatRows (A0f l)) 3 0 n cap=some (A0f l):=by
 have:=A4x (rows:=A0f l) (k:=3) (cap:=cap) (fun r hr=>A5W hr) (fun r hr=>A92 hr) (by rw [A01]; omega);rwa [A01,hn] at this
theorem B3X (n:Int) (es:List E) (hdis:distinctE es) (hl:es.length<2^20):ACallX Tryz.prog 148 [.map (mE es)] [.c (.map 0),.c (.int .i64 n)] (tG ⟨n,A2Q es⟩):=by
 refine ACallX.of_body Tryz.func148 rfl (by kernel_rfl) (by simp [isMap]) ?_;simp only [entry,Tryz.ntmps148,ofT,A2G,A03,Xy,Zx,List.length_cons,List.length_nil,Nat.reduceAdd,Nat.reduceSub,List.replicate_succ,List.replicate_zero,List.cons_append,List.nil_append];refine FWp.seq ?_;refine zR Qw8 Qw8 Qw8 ?_;refine FWp.seq ?_;refine zR Qw8 Qw8 Qw8 ?_;refine FWp.seq ?_;refine AWp.seq ?_;refine zR Qw8 Qw8 Qw8 ?_;refine AWp.weak (Weak.openB 2 1 3 rfl rfl (by omega)) ?_;simp only [List.set_cons_succ,List.set_cons_zero,List.length_cons,List.length_nil,Xw,Nat.reduceAdd,List.cons_append,List.nil_append];refine AWp.loopS (α:=List Nat) 32 (fun seen=>[(0,.c (.map 0)),(1,.c (.int .i64 n)),(4,.c (.ptr 1 0)),(5,.c (.ptr 2 0)),(11,.c (.iter 3))]) (fun seen=>[.map (mE es),.box [.int .i64 0,.nils],.box [.int .i64 n,.slice (A0f (A5g es seen)) (.chain 4)],.iter 0 (mE es).length seen,.chain (A5g es seen).length 3]) (fun seen=>seen.Nodup∧ ∀j,j∈seen->j<es.length) (fun seen=>es.length-seen.length) ([]) (hk:=Weak.headL 5 32 [0,1,4,5,11] zW) (h0:=?_) (round:=fun seen hI=>?_)
 ·exact ⟨List.nodup_nil,fun j hj=>by cases hj⟩
 ·obtain ⟨hn,hlt⟩:=hI;have hsl:=A8o hn hlt;have hpl:=A8n hlt;refine AWp.seq_next rfl rfl rfl rfl rfl (fun hd K hK=> ?_) (fun j e hj he K hK=> ?_)<;>(try refine zS ?_)
  ·have hperm:(A5g es seen).Perm es:=B5s hn hlt (fun j hj=>hd j (by rw [B7j]; exact hj));have hsort:=B2O hdis hperm
   repeat' (first|((first|(refine zT ?_;intro K' hK')|(refine zG ?_ ?_<;>(try refine zH ?_)<;>intro hguard<;>(try exact zX)<;>try intro K' hK'))<;>((try simp+contextual only [go_sem]);(repeat' first|(with_reducible refine hK' _ _ ?_;clear hK' K')|exact zY|with_reducible refine Qw7 ?_ ?_|(with_reducible intro hpath;try exact zP)|(refine hK' _ _ ?_;clear hK' K')|fail);try refine zS ?_))|(refine zE ?_;refine hK _ _ ?_;clear hK K)|(refine zN ?_;try refine zS ?_)|refine zA ?_|(refine zB ?_;intro K hK)|(refine zC ?_ ?_<;>(try refine zH ?_)<;>intro hcond<;>try exact zX)|fail)
   by_cases hL0:A5g es seen=[]
   ·rw [hL0] at hsort ⊢;refine FWp.seq ?_
    repeat' (first|((first|(refine zT ?_;intro K' hK')|(refine zG ?_ ?_<;>(try refine zH ?_)<;>intro hguard<;>(try exact zX)<;>try intro K' hK'))<;>((try simp+contextual only [go_sem,A0f,Zx]);(repeat' first|(with_reducible refine hK' _ _ ?_;clear hK' K')|(with_reducible refine zK B5q ?_;try simp+contextual only [go_sem,A0f,Zx])|exact zY|with_reducible refine Qw7 ?_ ?_|(with_reducible intro hpath;try exact zP)|(refine hK' _ _ ?_;clear hK' K')|fail);try refine zS ?_))|(refine zE ?_;refine hK _ _ ?_;clear hK K)|(refine zN ?_;try refine zS ?_)|refine zA ?_|(refine zB ?_;intro K hK)|(refine zC ?_ ?_<;>(try refine zH ?_)<;>intro hcond<;>try exact zX)|fail)
    refine FWp.of_awp ?_
    repeat' (first|((first|(refine zT ?_;intro K' hK')|(refine zG ?_ ?_<;>(try refine zH ?_)<;>intro hguard<;>(try exact zX)<;>try intro K' hK'))<;>((try simp+contextual only [go_sem]);(repeat' first|(with_reducible refine hK' _ _ ?_;clear hK' K')|exact zY|with_reducible refine Qw7 ?_ ?_|(with_reducible intro hpath;try exact zP)|(refine hK' _ _ ?_;clear hK' K')|fail);try refine zS ?_))|(refine zE ?_;refine hK _ _ ?_;clear hK K)|(refine zN ?_;try refine zS ?_)|refine zA ?_|(refine zB ?_;intro K hK)|(refine zC ?_ ?_<;>(try refine zH ?_)<;>intro hcond<;>try exact zX)|fail)
    rw [<-hsort];have hz:A2Q []=[]:=List.Perm.eq_nil (A1u []);simp [B9L,B5h,Blk.cells,ty,Tryz.results148,A0t,A0u,toT,A5K,A0a,Tree.flat,hz,A0f,tG]
   ·generalize A5g es seen=L at*;have hLl:L.length<2^20:=by omega
    refine FWp.thawB 2 1 rfl rfl rfl (fun r hr=>A5W hr) (by decide) (fun r hr=>A1o (A92 hr)) (by simp [A0f,hL0]) (C0h (by simp [B5e,A8V]; exact C0g es)) (by simp [C1W,A8V,B6I]) (C4S _ _) (fun cap hcap=> ?_);rw [A01] at hcap;have hsl2:(A2Q L).length=L.length:=(A1u L).length_eq;refine FWp.seq ?_
    repeat' (first|((first|(refine zT ?_;intro K' hK')|(refine zG ?_ ?_<;>(try refine zH ?_)<;>intro hguard<;>(try exact zX)<;>try intro K' hK'))<;>((try simp+contextual only [go_sem,A01]);(repeat' first|(with_reducible refine hK' _ _ ?_;clear hK' K')|((with_reducible first|refine ⟨_,_,B3W L (by omega) rfl,?_⟩|refine ⟨_,B3W L (by omega) rfl,?_⟩);try simp+contextual only [go_sem,A01])|exact zY|with_reducible refine Qw7 ?_ ?_|(with_reducible intro hpath;try exact zP)|(refine hK' _ _ ?_;clear hK' K')|fail);try refine zS ?_))|(refine zE ?_;refine hK _ _ ?_;clear hK K)|(refine zN ?_;try refine zS ?_)|refine zA ?_|(refine zB ?_;intro K hK)|(refine zC ?_ ?_<;>(try refine zH ?_)<;>intro hcond<;>try exact zX)|fail)
    refine FWp.of_awp ?_
    repeat' (first|((first|(refine zT ?_;intro K' hK')|(refine zG ?_ ?_<;>(try refine zH ?_)<;>intro hguard<;>(try exact zX)<;>try intro K' hK'))<;>((try simp+contextual only [go_sem]);(repeat' first|(with_reducible refine hK' _ _ ?_;clear hK' K')|exact zY|with_reducible refine Qw7 ?_ ?_|(with_reducible intro hpath;try exact zP)|(refine hK' _ _ ?_;clear hK' K')|fail);try refine zS ?_))|(refine zE ?_;refine hK _ _ ?_;clear hK K)|(refine zN ?_;try refine zS ?_)|refine zA ?_|(refine zB ?_;intro K hK)|(refine zC ?_ ?_<;>(try refine zH ?_)<;>intro hcond<;>try exact zX)|fail)
    rw [<-hsort];have hr:=B7k hsl2 hcap;simp [B9L,B5h,Blk.cells,ty,Tryz.results148,A0t,A0u,toT,A5K,A0a,Tree.flat,hr,tG]
  ·obtain ⟨x,hx,rfl⟩:=C3H he;have hje:j<es.length:=(Qx.1 hx).1;have hsnoc:=B5r (seen:=seen) hx;simp only [kvE,A7P,A5f]
   repeat' (first|((first|(refine zT ?_;intro K' hK')|(refine zG ?_ ?_<;>(try refine zH ?_)<;>intro hguard<;>(try exact zX)<;>try intro K' hK'))<;>((try simp+contextual only [go_sem,C4R hx,kvE,B7j,A01,chunks,List.range,List.range.loop,A91,hpl]);(repeat' first|(with_reducible refine hK' _ _ ?_;clear hK' K')|(with_reducible exact A5W (by assumption))|exact zY|with_reducible refine Qw7 ?_ ?_|(with_reducible intro hpath;try exact zP)|(refine hK' _ _ ?_;clear hK' K')|fail);try refine zS ?_))|(refine zE ?_;refine hK _ _ ?_;clear hK K)|(refine zN ?_;try refine zS ?_)|refine zA ?_|(refine zB ?_;intro K hK)|(refine zC ?_ ?_<;>(try refine zH ?_)<;>intro hcond<;>try exact zX)|fail)
   refine ⟨seen++[j],Weak.headF 5 32 [0,1,4,5,11] (zc @hsnoc (zc @B7j (zc @hpl Qw8))) zW,?_,?_⟩
   ·refine ⟨JZ.2 ⟨hn,by simp,fun a ha b hb=>by simp at hb; subst hb; rintro rfl; exact hj ha⟩,fun i hi=> ?_⟩;rcases XZ.1 hi with hi | hi
    ·exact hlt i hi
    ·simp at hi; subst hi; exact hje
   ·have:=A8o (n:=es.length) (seen:=seen++[j]) (JZ.2 ⟨hn,by simp,fun a ha b hb=>by simp at hb; subst hb; rintro rfl; exact hj ha⟩) (fun i hi=>by
     rcases XZ.1 hi with hi | hi
     ·exact hlt i hi
     ·simp at hi; subst hi; exact hje)
    simp at this ⊢;omega
def A3v:List E->Int->Int->Int
 | [],_,_=>0
 | x::xs,a,b=>if x.a=a∧x.b=b then x.m else A3v xs a b
def A17:List E->Int->Int->Int->List E
 | [],a,b,m=>[⟨a,b,m⟩]
 | x::xs,a,b,m=>if x.a=a∧x.b=b then ⟨a,b,m⟩::xs else x::A17 xs a b m
theorem C3I (x:E) (a b:Int):((kvE x).1==MKey.ints [a,b])=decide (x.a=a∧x.b=b):=by
 rw [Qz1]; simp [kvE]
theorem B7l (x:E) (xs:List E) (a b:Int):mIdx (mE (x::xs)) (.ints [a,b])=if x.a=a∧x.b=b then some 0 else (mIdx (mE xs) (.ints [a,b])).map (·+1):=by
 simp only [mIdx,mE,Xy,Jk,C3I];by_cases h:x.a=a∧x.b=b<;>simp [h]
theorem B0y (es:List E) (a b m:Int):B22 (mE es) (.ints [a,b]) (.c (.int .i64 m))=mE (A17 es a b m):=by
 induction es with
 | nil=>simp [B22,mIdx,mE,A17,kvE]
 | cons x xs ih=>
  unfold B22 at ih ⊢;rw [B7l];by_cases h:x.a=a∧x.b=b
  ·simp [h,A17,mE,kvE]
  ·rw [if_neg h];simp only [A17,if_neg h];have e:mE (x::A17 xs a b m)=kvE x::mE (A17 xs a b m):=rfl;rw [e,<-ih];cases hx:mIdx (mE xs) (.ints [a,b]) with
   | none=>simp [mE]
   | some j=>simp [mE]
def A8p (es:List E) (p:Int×Int):List E:=A17 es (min p.1 p.2) (max p.1 p.2) (A3v es (min p.1 p.2) (max p.1 p.2)+1)
def A5h (l:List (Int×Int)):List E:=l.foldl A8p []
theorem A5X (l:List (Int×Int)) (p:Int×Int):A5h (l++[p])=A8p (A5h l) p:=by simp [A5h]
theorem A4Y {es:List E} {a b m:Int} {e:E} (h:e∈A17 es a b m):e∈es∨e=⟨a,b,m⟩:=by
 induction es with
 | nil=>simp [A17] at h; exact .inr h
 | cons x xs ih=>
  simp only [A17] at h;split at h
  ·rcases Qw.1 h with h | h
   ·exact .inr h
   ·exact .inl (by simp [h])
  ·rcases Qw.1 h with h | h
   ·exact .inl (by simp [h])
   ·rcases ih h with h | h
    ·exact .inl (by simp [h])
    ·exact .inr h
theorem A47 {es:List E} {a b m:Int} (h:distinctE es):distinctE (A17 es a b m):=by
 induction es with
 | nil=>simp [A17,distinctE]
 | cons x xs ih=>
  unfold distinctE at*;rw [WX] at h;simp only [A17];split
  ·rename_i hx;refine WX.2 ⟨fun y hy=> ?_,h.2⟩;have:=h.1 y hy;unfold neE at*; simp only; omega
  ·rename_i hx;refine WX.2 ⟨fun y hy=> ?_,ih h.2⟩;rcases A4Y hy with hy | hy
   ·exact h.1 y hy
   ·subst hy; unfold neE; simp only; omega
theorem A93 (es:List E) (a b m:Int):(A17 es a b m).length≤es.length+1:=by
 induction es with
 | nil=>simp [A17]
 | cons x xs ih=>simp only [A17]; split<;>simp<;>omega
theorem B7m {es:List E} {a b k:Int} (h: ∀e,e∈es->e.m≤k) (hk:0≤k):A3v es a b≤k:=by
 induction es with
 | nil=>simpa [A3v] using hk
 | cons x xs ih=>simp only [A3v]; split; exact h x (by simp); exact ih fun e he=>h e (by simp [he])
theorem B7n {es:List E} {a b:Int} (h: ∀e,e∈es->1≤e.m):0≤A3v es a b:=by
 induction es with
 | nil=>simp [A3v]
 | cons x xs ih=>simp only [A3v]; split; have:=h x (by simp); omega; exact ih fun e he=>h e (by simp [he])
structure BagOk (n:Int) (k:Nat) (es:List E):Prop where
 d:distinctE es
 len:es.length≤k
 m: ∀e,e∈es->1≤e.m∧e.m≤k
 r: ∀e,e∈es->0≤e.a∧e.a≤e.b∧e.b<n
theorem B3Y {n:Int} {k:Nat} {es:List E} (h:BagOk n k es) {p:Int×Int} (h1:0≤p.1∧p.1<n) (h2:0≤p.2∧p.2<n):BagOk n (k+1) (A8p es p):=by
 have c1:=B7m (a:=min p.1 p.2) (b:=max p.1 p.2) (k:=k) (fun e he=>(h.m e he).2) (by omega);have c2:=B7n (a:=min p.1 p.2) (b:=max p.1 p.2) (fun e he=>(h.m e he).1);refine ⟨A47 h.d,Yj (A93 ..) (by have:=h.len; omega),fun e he=> ?_,fun e he=> ?_⟩
 ·rcases A4Y he with he | rfl
  ·have:=h.m e he; omega
  ·simp only; omega
 ·rcases A4Y he with he | rfl
  ·exact h.r e he
  ·simp only; omega
theorem key_ok {a b:Int} (h1:0≤a∧a<12) (h2:0≤b∧b<12):(KShape.ints 2).ok (.ints [a,b])=true:=by
 simp only [KShape.ok,List.length_cons,List.length_nil,Zq,beq_iff_eq,Zv,Qw,Qv,or_false,decide_eq_true_eq];exact ⟨trivial,fun y hy=>by rcases hy with rfl | rfl<;>omega⟩
open Classical in
noncomputable def A52 (n:Int) (l:List (Int×Int)):G×Int:=
 if n<1∨12<n then (⟨0,[]⟩,2) else if 4096<l.length then (⟨0,[]⟩,5)
 else if ∃p,p∈l∧ ¬((0≤p.1∧p.1<n)∧(0≤p.2∧p.2<n)) then (⟨0,[]⟩,2)
 else if ∃e,e∈A5h l∧50<e.m then (⟨0,[]⟩,5) else (⟨n,A2Q (A5h l)⟩,0)
end Go.Proofs.YtdbdfkohpjefjaaGreat
