/- A part of the proof. -/
import Derived.Test.YtdhfgihnoimoaaaPart38
import Derived.Test.YtdhfgihnoimoaaaPart39
import Derived.Test.YtdhfgihnoimoaaaLayerC
set_option linter.all false
set_option maxHeartbeats 4000000
set_option maxRecDepth 100000
namespace Go.Proofs.Ytdhfgihnoimoaaa
open Go.Sp
theorem B1Y {es:List E} (hm: ∀e,e∈es→e.m≤50):B21 50 es=es.filter fun e=>decide (e.a≠e.b):=by
 induction es with
 | nil=>rfl
 | cons e es ih=>
  have ih':=ih fun x hx=>hm x (by simp [hx])
  have h1:=hm e (by simp)
  unfold B21 at ih' ⊢
  rw [List.flatMap_cons,ih']
  unfold B8l
  by_cases h:e.a=e.b
  ·rw [if_pos h,List.filter_cons,if_neg (by simpa using h)]; rfl
  ·rw [if_neg h,List.filter_cons,if_pos (by simpa using h),show min e.m 50=e.m by omega]; rfl
theorem A6I: ∀{es:List E},(∀e,e∈es→0≤e.m)→((endsL (es.filter fun e=>decide (e.a≠e.b))).length:Int)=sizeE es
 | [],_=>rfl
 | e::es,h=>by
  have ih:=A6I (es:=es) fun x hx=>h x (by simp [hx])
  have h1:=h e (by simp)
  simp only [sizeE]
  rw [List.filter_cons]
  by_cases hab:e.a=e.b
  ·rw [if_neg (by simpa using hab),if_neg (by simpa using hab),ih]; omega
  ·rw [if_pos (by simpa using hab),if_pos hab,A8E,List.length_append,List.length_replicate,Int.natCast_add,ih]; omega
theorem B1Z {es:List E} {u v:Nat} (h:Conn (endsL es) u v):Conn (endsL (es.filter fun e=>decide (e.a≠e.b))) u v:=by
 have hin: ∀{p:Int×Int},p∈endsL es→p.1≠p.2→p∈endsL (es.filter fun e=>decide (e.a≠e.b)):=fun {p} hp hne=>by
  unfold endsL at hp ⊢
  obtain ⟨e,he,hr⟩:=List.mem_flatMap.1 hp
  have:=List.eq_of_mem_replicate hr
  subst this
  exact List.mem_flatMap.2 ⟨e,List.mem_filter.2 ⟨he,by simpa using hne⟩,hr⟩
 induction h with
 | refl=>exact .refl
 | step hp hs ih=>
  rename_i y z
  by_cases e:y=z
  ·rw [←e]; exact ih
  ·refine .step ih ?_
   rcases hs with hs | hs
   ·exact .inl (hin hs (by simp only; omega))
   ·exact .inr (hin hs (by simp only; omega))
theorem A9M {es:List E} {u v:Nat} (h:Conn (endsL (es.filter fun e=>decide (e.a≠e.b))) u v):Conn (endsL es) u v:=by
 induction h with
 | refl=>exact .refl
 | step hp hs ih=>
  have hin: ∀{p:Int×Int},p∈endsL (es.filter fun e=>decide (e.a≠e.b))→p∈endsL es:=fun {p} hp=>by
   unfold endsL at hp ⊢
   obtain ⟨e,he,hr⟩:=List.mem_flatMap.1 hp
   exact List.mem_flatMap.2 ⟨e,(List.mem_filter.1 he).1,hr⟩
  exact .step ih (hs.imp hin hin)
theorem B2H {n:Nat} {es:List E} (hl:es.length≤40) (hc:checkG ⟨(n:Int),es⟩=0) (hcn:connB ⟨(n:Int),es⟩=true):Gok n es:=by
 have h:=A0w.1 hc
 obtain ⟨h1,h2⟩:=B8y (g:=⟨(n:Int),es⟩) hc rfl hcn
 have h3:=h.1
 simp only at h3
 exact ⟨by omega,by omega,hl,h1,fun e he=>by have:=h.2.1 e he; unfold okE at this; exact this.2.2.2.1,h2,hc,hcn⟩
theorem B5I {n:Nat} {es:List E} (g:Gok n es): ∃es2:List E,es2.length≤es.length∧B8m ⟨(n:Int),es⟩ 50=⟨(n:Int),es2⟩∧checkG ⟨(n:Int),es2⟩=0∧B8i (endsL es2)=sizeE es-n+1∧connB ⟨(n:Int),es2⟩=true:=by
 have h:=A0w.1 g.hc
 have hm: ∀e,e∈es→e.m≤50:=fun e he=>by have:=h.2.1 e he; unfold okE at this; exact this.2.2.2.2
 refine ⟨es.filter fun e=>decide (e.a≠e.b),List.length_filter_le _ _,?_,?_⟩
 ·unfold B8m
  rw [if_neg (by have:=g.hc; omega)]
  show (⟨(n:Int),B21 50 es⟩:G)=_
  rw [B1Y hm]
 ·have hc2:checkG ⟨(n:Int),es.filter fun e=>decide (e.a≠e.b)⟩=0:=A0w.2 ⟨h.1,fun e he=>h.2.1 e (List.mem_filter.1 he).1,h.2.2.sublist List.filter_sublist⟩
  have hconn:Conn (endsL (es.filter fun e=>decide (e.a≠e.b)))=Conn (endsL es):=by
   funext u v
   exact propext ⟨A9M,B1Z⟩
  have h1:=A6x (g:=⟨(n:Int),es⟩) g.hc rfl
  have h2:=A6x (g:=⟨(n:Int),es.filter fun e=>decide (e.a≠e.b)⟩) hc2 rfl
  simp only [hconn] at h2
  have hcb:connB ⟨(n:Int),es.filter fun e=>decide (e.a≠e.b)⟩=true:=by rw [h2,←h1]; exact g.hcc
  refine ⟨hc2,?_,hcb⟩
  have hg:=B6C (g:=⟨(n:Int),es.filter fun e=>decide (e.a≠e.b)⟩) (n:=n) hc2 rfl
  have hp:A2k (es.filter fun e=>decide (e.a≠e.b)) n n=1:=by
   unfold connB at hcb
   rw [decide_eq_true_eq] at hcb
   simpa using hcb
  simp only [hp] at hg
  rw [hg,A6I fun e he=>by have:=h.2.1 e he; unfold okE at this; omega]
  omega
theorem A60: ∀{es:List E},(∀e,e∈es→0≤e.m)→0≤sizeE es∧sizeE es≤(endsL es).length
 | [],_=>⟨Int.le_refl _,Int.le_refl _⟩
 | e::es,h=>by
  have ih:=A60 (es:=es) fun x hx=>h x (by simp [hx])
  have h1:=h e (by simp)
  simp only [sizeE]
  rw [A8E,List.length_append,List.length_replicate,Int.natCast_add]
  split<;>omega
theorem A5r {n:Nat} {es:List E} (g:Gok n es):0≤sizeE es-n+1:=by
 obtain ⟨es2,_,_,hc2,hg,_⟩:=B5I g
 have h:=A0w.1 hc2
 have h12:=g.h12
 have:=(B19 (l:=endsL es2) fun p hp=>by
  obtain ⟨e,he,q⟩:=A33 hp
  have hr:=h.2.1 e he
  unfold okE at hr
  simp only at hr
  subst q
  simp only
  omega).2.1
 unfold B8i at hg
 omega
theorem B5J {es:List E} (h:EsOk 1 es):sizeE es=0:=by
 induction es with
 | nil=>rfl
 | cons e es ih=>
  have:=h.rng e (by simp)
  simp only [sizeE]
  rw [if_neg (by omega),ih h.tail]; rfl
theorem B94 {n:Nat} {es:List E} (g:Gok n es) (hn:n≤5) (hs:(endsL es).length≤7):RkC n es (sizeE es-n+1) 110 (2*(sizeE es-n+1)-2).toNat:=by
 have h1:=g.h1
 have hg:=A5r g
 have hz:=A60 (es:=es) fun e he=>by have:=g.hm1 e he; omega
 have hz1:n=1→sizeE es=0:=fun e=>by subst e; exact B5J g.hE
 refine ⟨g,by rw [A5Q g.hE]; omega,by omega,by decide,by omega,by omega,by omega,?_,7,by decide,by omega,?_⟩
 ·generalize hN:(2*(sizeE es-n+1)-2).toNat=N
  have h5:n=1∨n=2∨n=3∨n=4∨n=5:=by omega
  rcases h5 with rfl | rfl | rfl | rfl | rfl
  ·have hN2:N+1≤13:=by omega
   exact Nat.le_trans (Nat.pow_le_pow_left hN2 1) (by decide)
  ·have hN2:N+1≤11:=by omega
   exact Nat.le_trans (Nat.pow_le_pow_left hN2 2) (by decide)
  ·have hN2:N+1≤9:=by omega
   exact Nat.le_trans (Nat.pow_le_pow_left hN2 3) (by decide)
  ·have hN2:N+1≤7:=by omega
   exact Nat.le_trans (Nat.pow_le_pow_left hN2 4) (by decide)
  ·have hN2:N+1≤5:=by omega
   exact Nat.le_trans (Nat.pow_le_pow_left hN2 5) (by decide)
 ·have h5:n=1∨n=2∨n=3∨n=4∨n=5:=by omega
  rcases h5 with rfl | rfl | rfl | rfl | rfl<;>decide
end Go.Proofs.Ytdhfgihnoimoaaa
