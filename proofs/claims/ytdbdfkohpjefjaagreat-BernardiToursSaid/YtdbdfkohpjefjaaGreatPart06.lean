/- A part of the proof. -/
import Derived.Test.YtdbdfkohpjefjaaGreatPart04
set_option linter.all false
set_option maxHeartbeats 4000000
set_option maxRecDepth 100000
namespace Go.Proofs.YtdbdfkohpjefjaaGreat
open Go.Sp
def kvE (e:E):MKey×MV:=(.ints [e.a,e.b],.c (.int .i64 e.m))
def mE (es:List E):List (MKey×MV):=es.map kvE
theorem B6Y (es:List E):(mE es).length=es.length:=by simp [mE]
theorem C3v {es:List E} {j:Nat} {e:MKey×MV} (h:(mE es)[j]? =some e): ∃x,es[j]? =some x∧e=kvE x:=by
 simp only [mE,QY] at h;cases hx:es[j]? with
 | none=>simp [hx] at h
 | some x=>simp [hx] at h; exact ⟨x,rfl,h.symm⟩
theorem C40 {es:List E} {j:Nat} {x:E} (h:es[j]? =some x):(mE es)[j]? =some (kvE x):=by simp [mE,h]
def A5a {α:Type} (l:List α) (seen:List Nat):List α:=seen.filterMap (l[·]?)
theorem B5k {α:Type} {l:List α} {seen:List Nat} {j:Nat} {x:α} (h:l[j]? =some x):A5a l (seen++[j])=A5a l seen++[x]:=by
 simp [A5a,Qx3,h]
theorem A8p {α:Type} {l:List α}: ∀{seen:List Nat},(∀j,j∈seen->j<l.length)->(A5a l seen).length=seen.length:=by
 intro seen
 induction seen with
 | nil=>intro _; rfl
 | cons j s ih=>
  intro h;have hj:=h j (by simp);have:=ih fun i hi=>h i (by simp [hi]);simp only [A5a] at this ⊢;rw [List.filterMap_cons,Qq hj];simp [this]
theorem B2M {α:Type} (l:List α):A5a l (List.range l.length)=l:=by
 apply XZ;intro i;have hlen:(A5a l (List.range l.length)).length=l.length:=by rw [A8p (fun j hj=>by simpa using hj)]; simp
 by_cases hi:i<l.length
 ·have e:List.range l.length=List.range i++(i::(List.range l.length).drop (i+1)):=by
   conv=>lhs; rw [<-Jk i (List.range l.length)]
   rw [List.take_range,Vj (by omega),Zq (by simpa using hi)];simp
  rw [e];simp only [A5a,Qx3,List.filterMap_cons,Qq hi];have h1:(List.filterMap (fun x=>l[x]?) (List.range i)).length=i:=by
   have:=A8p (l:=l) (seen:=List.range i) (fun j hj=>by simp at hj; omega);simpa [A5a] using this
  rw [QJ (by omega),h1];simp
 ·rw [QV (by omega),QV (by omega)]
theorem B5l {α:Type} {l:List α} {seen:List Nat} (h1:seen.Nodup) (h2: ∀j,j∈seen->j<l.length) (h3: ∀j,j<l.length->j∈seen):(A5a l seen).Perm l:=by
 have hp:seen.Perm (List.range l.length):=(Qx1 h1 Qq9).2 fun j=>by simp only [XJ]; exact ⟨h2 j,h3 j⟩
 have:=List.Perm.filterMap (l[·]?) hp;have e:=B2M l;unfold A5a at e ⊢;rw [e] at this; exact this
theorem A8q {n:Nat} {seen:List Nat} (h1:seen.Nodup) (h2: ∀j,j∈seen->j<n):seen.length≤n:=by
 have:=WQ h1 (l₂:=List.range n) (fun j hj=>by simp; exact h2 j hj);simpa using this
theorem A93 (l:List E) (x:E):A0f l++[[.int .i64 x.a,.int .i64 x.b,.int .i64 x.m]]=A0f (l++[x]):=by simp [A0f,B9G]
theorem A5U {l:List E} {r:List Tree} (h:r∈A0f l):r.length=3:=by
 obtain ⟨x,_,rfl⟩:=Xq.1 h; rfl
theorem C1I (es:List E):B4W (.map (mE es)):=fun e he=>by
 obtain ⟨x,_,rfl⟩:=Xq.1 he; exact rfl
theorem B9M (es:List E): ∀(a:MKey) (b:MV),(a,b)∈mE es->B3K b:=fun a b h=>C1I es (a,b) h
theorem B9N {l:List Blk} (h: ∀b,b∈l->B4W b) (id:Nat) (blk:Blk) (hb:l[id]? =some blk):B4W blk:=h blk (Qy hb)
theorem C41 (es:List (MKey×MV)) (l:List Blk): ∀id,id<1-> ∃es',(Blk.map es::l)[id]? =some (.map es'):=fun id h=>by
 have:id=0:=by omega
 subst this;exact ⟨es,rfl⟩
theorem A94 {l:List E} {r:List Tree} (h:r∈A0f l):A1f r=true:=by
 obtain ⟨x,_,rfl⟩:=Xq.1 h; rfl
theorem B6Z {l:List E} {n cap:Nat} (hn:l.length=n) (hc:n≤cap):A4p (flatRows (A0f l)) 3 0 n cap=some (A0f l):=by
 have:=A4q (rows:=A0f l) (k:=3) (cap:=cap) (fun r hr=>A5U hr) (fun r hr=>A94 hr) (by rw [A00]; omega);rwa [A00,hn] at this
theorem B3U (n:Int) (es:List E) (hdis:distinctE es) (hl:es.length<2^20):ACallX Tryz.prog 148 [.map (mE es)] [.c (.map 0),.c (.int .i64 n)] (tG ⟨n,A2K es⟩):=by
 refine ACallX.of_body Tryz.func148 rfl (by kernel_rfl) (by simp [isMap]) ?_;simp only [entry,Tryz.ntmps148,ofT,A2A,A04,Xy,XV,List.length_cons,List.length_nil,Nat.reduceAdd,Nat.reduceSub,List.replicate_succ,List.replicate_zero,List.cons_append,List.nil_append];refine FWp.seq ?_;refine zR Qw6 Qw6 Qw6 ?_;refine FWp.seq ?_;refine zR Qw6 Qw6 Qw6 ?_;refine FWp.seq ?_;refine AWp.seq ?_;refine zR Qw6 Qw6 Qw6 ?_;refine AWp.weak (A0r.openB 2 1 3 rfl rfl (by omega)) ?_;simp only [List.set_cons_succ,List.set_cons_zero,List.length_cons,List.length_nil,Xv,Nat.reduceAdd,List.cons_append,List.nil_append];refine AWp.loopS (α:=List Nat) 32 (fun seen=>[(0,.c (.map 0)),(1,.c (.int .i64 n)),(4,.c (.ptr 1 0)),(5,.c (.ptr 2 0)),(11,.c (.iter 3))]) (fun seen=>[.map (mE es),.box [.int .i64 0,.nils],.box [.int .i64 n,.slice (A0f (A5a es seen)) (.chain 4)],.iter 0 (mE es).length seen,.chain (A5a es seen).length 3]) (fun seen=>seen.Nodup∧ ∀j,j∈seen->j<es.length) (fun seen=>es.length-seen.length) ([]) (hk:=A0r.headL 5 32 [0,1,4,5,11] zW) (h0:=?_) (round:=fun seen hI=>?_)
 ·exact ⟨List.nodup_nil,fun j hj=>by cases hj⟩
 ·obtain ⟨hn,hlt⟩:=hI;have hsl:=A8q hn hlt;have hpl:=A8p hlt;refine AWp.seq_next rfl rfl rfl rfl rfl (fun hd K hK=> ?_) (fun j e hj he K hK=> ?_)<;>(try refine zS ?_)
  ·have hperm:(A5a es seen).Perm es:=B5l hn hlt (fun j hj=>hd j (by rw [B6Y]; exact hj));have hsort:=B2L hdis hperm
   repeat' (first|((first|(refine zT ?_;intro K' hK')|(refine zG ?_ ?_<;>(try refine zH ?_)<;>intro hguard<;>(try exact zX)<;>try intro K' hK'))<;>((try simp+contextual only [go_sem]);(repeat' first|(with_reducible refine hK' _ _ ?_;clear hK' K')|exact zY|with_reducible refine Qw5 ?_ ?_|(with_reducible intro hpath;try exact zP)|(refine hK' _ _ ?_;clear hK' K')|fail);try refine zS ?_))|(refine zE ?_;refine hK _ _ ?_;clear hK K)|(refine zN ?_;try refine zS ?_)|refine zA ?_|(refine zB ?_;intro K hK)|(refine zC ?_ ?_<;>(try refine zH ?_)<;>intro hcond<;>try exact zX)|fail)
   by_cases hL0:A5a es seen=[]
   ·rw [hL0] at hsort ⊢;refine FWp.seq ?_
    repeat' (first|((first|(refine zT ?_;intro K' hK')|(refine zG ?_ ?_<;>(try refine zH ?_)<;>intro hguard<;>(try exact zX)<;>try intro K' hK'))<;>((try simp+contextual only [go_sem,A0f,XV]);(repeat' first|(with_reducible refine hK' _ _ ?_;clear hK' K')|(with_reducible refine zK B5j ?_;try simp+contextual only [go_sem,A0f,XV])|exact zY|with_reducible refine Qw5 ?_ ?_|(with_reducible intro hpath;try exact zP)|(refine hK' _ _ ?_;clear hK' K')|fail);try refine zS ?_))|(refine zE ?_;refine hK _ _ ?_;clear hK K)|(refine zN ?_;try refine zS ?_)|refine zA ?_|(refine zB ?_;intro K hK)|(refine zC ?_ ?_<;>(try refine zH ?_)<;>intro hcond<;>try exact zX)|fail)
    refine FWp.of_awp ?_
    repeat' (first|((first|(refine zT ?_;intro K' hK')|(refine zG ?_ ?_<;>(try refine zH ?_)<;>intro hguard<;>(try exact zX)<;>try intro K' hK'))<;>((try simp+contextual only [go_sem]);(repeat' first|(with_reducible refine hK' _ _ ?_;clear hK' K')|exact zY|with_reducible refine Qw5 ?_ ?_|(with_reducible intro hpath;try exact zP)|(refine hK' _ _ ?_;clear hK' K')|fail);try refine zS ?_))|(refine zE ?_;refine hK _ _ ?_;clear hK K)|(refine zN ?_;try refine zS ?_)|refine zA ?_|(refine zB ?_;intro K hK)|(refine zC ?_ ?_<;>(try refine zH ?_)<;>intro hcond<;>try exact zX)|fail)
    rw [<-hsort];have hz:A2K []=[]:=List.Perm.eq_nil (A1v []);simp [B91,B4Z,Blk.cells,ty,Tryz.results148,A0s,A0u,toT,A5H,A0a,Tree.flat,hz,A0f,tG]
   ·generalize A5a es seen=L at*;have hLl:L.length<2^20:=by omega
    refine FWp.thawB 2 1 rfl rfl rfl (fun r hr=>A5U hr) (by decide) (fun r hr=>A1p (A94 hr)) (by simp [A0f,hL0]) (B9N (by simp [B4W,A8Y]; exact B9M es)) (by simp [C17,A8Y,B67]) (C41 _ _) (fun cap hcap=> ?_);rw [A00] at hcap;have hsl2:(A2K L).length=L.length:=(A1v L).length_eq;refine FWp.seq ?_
    repeat' (first|((first|(refine zT ?_;intro K' hK')|(refine zG ?_ ?_<;>(try refine zH ?_)<;>intro hguard<;>(try exact zX)<;>try intro K' hK'))<;>((try simp+contextual only [go_sem,A00]);(repeat' first|(with_reducible refine hK' _ _ ?_;clear hK' K')|((with_reducible first|refine ⟨_,_,B3T L (by omega) rfl,?_⟩|refine ⟨_,B3T L (by omega) rfl,?_⟩);try simp+contextual only [go_sem,A00])|exact zY|with_reducible refine Qw5 ?_ ?_|(with_reducible intro hpath;try exact zP)|(refine hK' _ _ ?_;clear hK' K')|fail);try refine zS ?_))|(refine zE ?_;refine hK _ _ ?_;clear hK K)|(refine zN ?_;try refine zS ?_)|refine zA ?_|(refine zB ?_;intro K hK)|(refine zC ?_ ?_<;>(try refine zH ?_)<;>intro hcond<;>try exact zX)|fail)
    refine FWp.of_awp ?_
    repeat' (first|((first|(refine zT ?_;intro K' hK')|(refine zG ?_ ?_<;>(try refine zH ?_)<;>intro hguard<;>(try exact zX)<;>try intro K' hK'))<;>((try simp+contextual only [go_sem]);(repeat' first|(with_reducible refine hK' _ _ ?_;clear hK' K')|exact zY|with_reducible refine Qw5 ?_ ?_|(with_reducible intro hpath;try exact zP)|(refine hK' _ _ ?_;clear hK' K')|fail);try refine zS ?_))|(refine zE ?_;refine hK _ _ ?_;clear hK K)|(refine zN ?_;try refine zS ?_)|refine zA ?_|(refine zB ?_;intro K hK)|(refine zC ?_ ?_<;>(try refine zH ?_)<;>intro hcond<;>try exact zX)|fail)
    rw [<-hsort];have hr:=B6Z hsl2 hcap;simp [B91,B4Z,Blk.cells,ty,Tryz.results148,A0s,A0u,toT,A5H,A0a,Tree.flat,hr,tG]
  ·obtain ⟨x,hx,rfl⟩:=C3v he;have hje:j<es.length:=(Qx.1 hx).1;have hsnoc:=B5k (seen:=seen) hx;simp only [kvE,A7R,A4Z]
   repeat' (first|((first|(refine zT ?_;intro K' hK')|(refine zG ?_ ?_<;>(try refine zH ?_)<;>intro hguard<;>(try exact zX)<;>try intro K' hK'))<;>((try simp+contextual only [go_sem,C40 hx,kvE,B6Y,A00,chunks,List.range,List.range.loop,A93,hpl]);(repeat' first|(with_reducible refine hK' _ _ ?_;clear hK' K')|(with_reducible exact A5U (by assumption))|exact zY|with_reducible refine Qw5 ?_ ?_|(with_reducible intro hpath;try exact zP)|(refine hK' _ _ ?_;clear hK' K')|fail);try refine zS ?_))|(refine zE ?_;refine hK _ _ ?_;clear hK K)|(refine zN ?_;try refine zS ?_)|refine zA ?_|(refine zB ?_;intro K hK)|(refine zC ?_ ?_<;>(try refine zH ?_)<;>intro hcond<;>try exact zX)|fail)
   refine ⟨seen++[j],A0r.headF 5 32 [0,1,4,5,11] (zc @hsnoc (zc @B6Y (zc @hpl Qw6))) zW,?_,?_⟩
   ·refine ⟨JW.2 ⟨hn,by simp,fun a ha b hb=>by simp at hb; subst hb; rintro rfl; exact hj ha⟩,fun i hi=> ?_⟩;rcases XW.1 hi with hi | hi
    ·exact hlt i hi
    ·simp at hi; subst hi; exact hje
   ·have:=A8q (n:=es.length) (seen:=seen++[j]) (JW.2 ⟨hn,by simp,fun a ha b hb=>by simp at hb; subst hb; rintro rfl; exact hj ha⟩) (fun i hi=>by
     rcases XW.1 hi with hi | hi
     ·exact hlt i hi
     ·simp at hi; subst hi; exact hje)
    simp at this ⊢;omega
def A1E:List E->Int->Int->Int
 | [],_,_=>0
 | x::xs,a,b=>if x.a=a∧x.b=b then x.m else A1E xs a b
def A19:List E->Int->Int->Int->List E
 | [],a,b,m=>[⟨a,b,m⟩]
 | x::xs,a,b,m=>if x.a=a∧x.b=b then ⟨a,b,m⟩::xs else x::A19 xs a b m
theorem C3w (x:E) (a b:Int):((kvE x).1==MKey.ints [a,b])=decide (x.a=a∧x.b=b):=by
 rw [Qj1]; simp [kvE]
theorem B7a (x:E) (xs:List E) (a b:Int):mIdx (mE (x::xs)) (.ints [a,b])=if x.a=a∧x.b=b then some 0 else (mIdx (mE xs) (.ints [a,b])).map (·+1):=by
 simp only [mIdx,mE,Xy,Jv,C3w];by_cases h:x.a=a∧x.b=b<;>simp [h]
theorem B0w (es:List E) (a b m:Int):B2z (mE es) (.ints [a,b]) (.c (.int .i64 m))=mE (A19 es a b m):=by
 induction es with
 | nil=>simp [B2z,mIdx,mE,A19,kvE]
 | cons x xs ih=>
  unfold B2z at ih ⊢;rw [B7a];by_cases h:x.a=a∧x.b=b
  ·simp [h,A19,mE,kvE]
  ·rw [if_neg h];simp only [A19,if_neg h];have e:mE (x::A19 xs a b m)=kvE x::mE (A19 xs a b m):=rfl;rw [e,<-ih];cases hx:mIdx (mE xs) (.ints [a,b]) with
   | none=>simp [mE]
   | some j=>simp [mE]
def A8r (es:List E) (p:Int×Int):List E:=A19 es (min p.1 p.2) (max p.1 p.2) (A1E es (min p.1 p.2) (max p.1 p.2)+1)
def A5b (l:List (Int×Int)):List E:=l.foldl A8r []
theorem A5V (l:List (Int×Int)) (p:Int×Int):A5b (l++[p])=A8r (A5b l) p:=by simp [A5b]
theorem A4P {es:List E} {a b m:Int} {e:E} (h:e∈A19 es a b m):e∈es∨e=⟨a,b,m⟩:=by
 induction es with
 | nil=>simp [A19] at h; exact .inr h
 | cons x xs ih=>
  simp only [A19] at h;split at h
  ·rcases Qw.1 h with h | h
   ·exact .inr h
   ·exact .inl (by simp [h])
  ·rcases Qw.1 h with h | h
   ·exact .inl (by simp [h])
   ·rcases ih h with h | h
    ·exact .inl (by simp [h])
    ·exact .inr h
theorem A4z {es:List E} {a b m:Int} (h:distinctE es):distinctE (A19 es a b m):=by
 induction es with
 | nil=>simp [A19,distinctE]
 | cons x xs ih=>
  unfold distinctE at*;rw [YV] at h;simp only [A19];split
  ·rename_i hx;refine YV.2 ⟨fun y hy=> ?_,h.2⟩;have:=h.1 y hy;unfold neE at*; simp only; omega
  ·rename_i hx;refine YV.2 ⟨fun y hy=> ?_,ih h.2⟩;rcases A4P hy with hy | hy
   ·exact h.1 y hy
   ·subst hy; unfold neE; simp only; omega
theorem A95 (es:List E) (a b m:Int):(A19 es a b m).length≤es.length+1:=by
 induction es with
 | nil=>simp [A19]
 | cons x xs ih=>simp only [A19]; split<;>simp<;>omega
theorem B2N {es:List E} {a b k:Int} (h: ∀e,e∈es->e.m≤k) (hk:0≤k):A1E es a b≤k:=by
 induction es with
 | nil=>simpa [A1E] using hk
 | cons x xs ih=>simp only [A1E]; split; exact h x (by simp); exact ih fun e he=>h e (by simp [he])
theorem B2O {es:List E} {a b:Int} (h: ∀e,e∈es->1≤e.m):0≤A1E es a b:=by
 induction es with
 | nil=>simp [A1E]
 | cons x xs ih=>simp only [A1E]; split; have:=h x (by simp); omega; exact ih fun e he=>h e (by simp [he])
structure BagOk (n:Int) (k:Nat) (es:List E):Prop where
 d:distinctE es
 len:es.length≤k
 m: ∀e,e∈es->1≤e.m∧e.m≤k
 r: ∀e,e∈es->0≤e.a∧e.a≤e.b∧e.b<n
theorem B3V {n:Int} {k:Nat} {es:List E} (h:BagOk n k es) {p:Int×Int} (h1:0≤p.1∧p.1<n) (h2:0≤p.2∧p.2<n):BagOk n (k+1) (A8r es p):=by
 have c1:=B2N (a:=min p.1 p.2) (b:=max p.1 p.2) (k:=k) (fun e he=>(h.m e he).2) (by omega);have c2:=B2O (a:=min p.1 p.2) (b:=max p.1 p.2) (fun e he=>(h.m e he).1);refine ⟨A4z h.d,Yj (A95 ..) (by have:=h.len; omega),fun e he=> ?_,fun e he=> ?_⟩
 ·rcases A4P he with he | rfl
  ·have:=h.m e he; omega
  ·simp only; omega
 ·rcases A4P he with he | rfl
  ·exact h.r e he
  ·simp only; omega
theorem key_ok {a b:Int} (h1:0≤a∧a<12) (h2:0≤b∧b<12):(KShape.ints 2).ok (.ints [a,b])=true:=by
 simp only [KShape.ok,List.length_cons,List.length_nil,Zj,beq_iff_eq,Zw,Qw,Qk,or_false,decide_eq_true_eq];exact ⟨trivial,fun y hy=>by rcases hy with rfl | rfl<;>omega⟩
open Classical in
noncomputable def A5x (n:Int) (l:List (Int×Int)):G×Int:=
 if n<1∨12<n then (⟨0,[]⟩,2) else if 4096<l.length then (⟨0,[]⟩,5)
 else if ∃p,p∈l∧ ¬((0≤p.1∧p.1<n)∧(0≤p.2∧p.2<n)) then (⟨0,[]⟩,2)
 else if ∃e,e∈A5b l∧50<e.m then (⟨0,[]⟩,5) else (⟨n,A2K (A5b l)⟩,0)
end Go.Proofs.YtdbdfkohpjefjaaGreat
