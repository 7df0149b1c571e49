/- TopSafe, a part of its proof; no conditions. -/
import Derived.StillTailTactics
import Derived.Deep.RegionHeld3
import Derived.Deep.MidRow
import Derived.Test.YtadgbhjpgnlmoaaGreatPk02
set_option linter.all false
namespace Go.Rp.Skp
open Go.RowKit
abbrev Tw:=Nat×Int×Nat
def nxt (k:Nat) (T:List Tw):Option Nat:=(T.find? fun t=>decide (k<t.2.2)).map fun t=>t.1
def lastT (k:Nat) (s:Nat):List Tw→Nat
 | []=>s
 | t::R=>lastT k (if k<t.2.2 then t.1 else s) R
theorem nxt_nil (k:Nat):nxt k []=none:=rfl
theorem nxt_cons (k:Nat) (t:Tw) (R:List Tw):nxt k (t::R)=if k<t.2.2 then some t.1 else nxt k R:=by
 unfold nxt;rw [List.find?_cons]
 by_cases h:k<t.2.2
 ·simp [h]
 ·rw [if_neg h,decide_eq_false h]
theorem nxt_off {k:Nat} {C:List Tw} (h:∀ t∈C,¬ k<t.2.2) (R:List Tw):nxt k (C++R)=nxt k R:=by
 induction C with
 | nil=>rfl
 | cons t C ih=>
  rw [List.cons_append,nxt_cons,if_neg (h t (by simp)),ih fun x hx=>h x (by simp [hx])]
theorem lastT_append (k s:Nat) (A B:List Tw):lastT k s (A++B)=lastT k (lastT k s A) B:=by
 induction A generalizing s with
 | nil=>rfl
 | cons t A ih=>rw [List.cons_append];exact ih _
theorem lastT_off {k s:Nat} {C:List Tw} (h:∀ t∈C,¬ k<t.2.2):lastT k s C=s:=by
 induction C with
 | nil=>rfl
 | cons t C ih=>
  show lastT k (if k<t.2.2 then t.1 else s) C=s;rw [if_neg (h t (by simp))];exact ih fun x hx=>h x (by simp [hx])
theorem lastT_snoc_on {k s:Nat} {A:List Tw} {t:Tw} (h:k<t.2.2):lastT k s (A++[t])=t.1:=by
 rw [lastT_append];show(if k<t.2.2 then t.1 else _)=_;rw [if_pos h]
theorem lastT_snoc_off {k s:Nat} {A:List Tw} {t:Tw} (h:¬ k<t.2.2):lastT k s (A++[t])=lastT k s A:=by
 rw [lastT_append];show(if k<t.2.2 then t.1 else _)=_;rw [if_neg h]
theorem lastT_cases (k s:Nat) (A:List Tw):(lastT k s A=s∧∀ t∈A,¬ k<t.2.2)∨∃ B y C,A=B++y::C∧k<y.2.2∧lastT k s A=y.1∧∀ t∈C,¬ k<t.2.2:=by
 induction A generalizing s with
 | nil=>exact .inl ⟨rfl,by simp⟩
 | cons t A ih=>
  rcases ih (if k<t.2.2 then t.1 else s) with ⟨h1,h2⟩ | ⟨B,y,C,e,h1,h2,h3⟩
  ·by_cases ht:k<t.2.2
   ·rw [if_pos ht] at h1;exact .inr ⟨[],t,A,rfl,ht,by show lastT k (if k<t.2.2 then t.1 else s) A=_;rw [if_pos ht];exact h1,h2⟩
   ·rw [if_neg ht] at h1;refine .inl ⟨by show lastT k (if k<t.2.2 then t.1 else s) A=_;rw [if_neg ht];exact h1,fun x hx=>?_⟩
    rcases List.mem_cons.1 hx with rfl | hx
    ·exact ht
    ·exact h2 x hx
  ·exact .inr ⟨t::B,y,C,by rw [e];rfl,h1,h2,h3⟩
theorem nxt_cases (k:Nat) (R:List Tw):(nxt k R=none∧∀ t∈R,¬ k<t.2.2)∨∃ C y D,R=C++y::D∧k<y.2.2∧nxt k R=some y.1∧∀ t∈C,¬ k<t.2.2:=by
 induction R with
 | nil=>exact .inl ⟨rfl,by simp⟩
 | cons t R ih=>
  rw [nxt_cons]
  by_cases ht:k<t.2.2
  ·rw [if_pos ht];exact .inr ⟨[],t,R,rfl,ht,rfl,by simp⟩
  ·rw [if_neg ht]
   rcases ih with ⟨h1,h2⟩ | ⟨C,y,D,e,h1,h2,h3⟩
   ·refine .inl ⟨h1,fun x hx=>?_⟩
    rcases List.mem_cons.1 hx with rfl | hx
    ·exact ht
    ·exact h2 x hx
   ·refine .inr ⟨t::C,y,D,by rw [e];rfl,h1,h2,fun x hx=>?_⟩
    rcases List.mem_cons.1 hx with rfl | hx
    ·exact ht
    ·exact h3 x hx
def linkT (x k:Nat):List Tw→Option Nat
 | []=>none
 | t::R=>if t.1=x then(if k<t.2.2 then nxt k R else none) else linkT x k R
def linkOf (s:Nat) (T:List Tw) (x k:Nat):Option Nat:=if x=s then nxt k T else linkT x k T
theorem linkT_not {x k:Nat} {T:List Tw} (h:∀ t∈T,t.1≠x):linkT x k T=none:=by
 induction T with
 | nil=>rfl
 | cons t R ih=>
  unfold linkT;rw [if_neg (h t (by simp)),ih fun y hy=>h y (by simp [hy])]
theorem linkT_skip {x k:Nat} {A T:List Tw} (h:∀ t∈A,t.1≠x):linkT x k (A++T)=linkT x k T:=by
 induction A with
 | nil=>rfl
 | cons t R ih=>
  rw [List.cons_append];show(if t.1=x then _ else linkT x k (R++T))=_;rw [if_neg (h t (by simp)),ih fun y hy=>h y (by simp [hy])]
theorem linkT_at {k:Nat} {A R:List Tw} {t:Tw} (h:∀ u∈A,u.1≠t.1):linkT t.1 k (A++t::R)=if k<t.2.2 then nxt k R else none:=by
 rw [linkT_skip h];show(if t.1=t.1 then _ else _)=_;rw [if_pos rfl]
def Apart (s:Nat) (T:List Tw):Prop:=(s::T.map fun t=>t.1).Nodup
theorem Apart.ne {s:Nat} {T:List Tw} (h:Apart s T) {t:Tw} (ht:t∈T):t.1≠s:=by
 intro e;have:=(List.nodup_cons.1 h).1;exact this (List.mem_map.2 ⟨t,ht,e⟩)
theorem Apart.ahead {s:Nat} {A R:List Tw} {t:Tw} (h:Apart s (A++t::R)):∀ u∈A,u.1≠t.1:=by
 intro u hu e;have h2:=(List.nodup_cons.1 h).2;rw [List.map_append,List.map_cons,List.nodup_append] at h2;exact h2.2.2 u.1 (List.mem_map.2 ⟨u,hu,rfl⟩) t.1 (by simp) e
theorem Apart.behind {s:Nat} {A R:List Tw} {t:Tw} (h:Apart s (A++t::R)):∀ u∈R,u.1≠t.1:=by
 intro u hu e;have h2:=(List.nodup_cons.1 h).2;rw [List.map_append,List.map_cons,List.nodup_append] at h2;exact(List.nodup_cons.1 h2.2.1).1 (List.mem_map.2 ⟨u,hu,e⟩)
theorem Apart.drop {s:Nat} {A R:List Tw} {t:Tw} (h:Apart s (A++t::R)):Apart s (A++R):=by
 unfold Apart at*;refine List.Nodup.sublist ?_ h;refine List.Sublist.cons_cons _ (List.Sublist.map _ ?_);exact List.Sublist.append_left (List.sublist_cons_self t R) A
theorem Apart.add {s:Nat} {A R:List Tw} {t:Tw} (h:Apart s (A++R)) (hs:t.1≠s) (ht:∀ u∈A++R,u.1≠t.1):Apart s (A++t::R):=by
 unfold Apart at*
 have hp:(s::(A++t::R).map fun t=>t.1).Perm (t.1::s::(A++R).map fun t=>t.1):=by
  rw [List.map_append,List.map_cons,List.map_append];exact(List.Perm.cons s List.perm_middle).trans (List.Perm.swap t.1 s _)
 rw [hp.nodup_iff,List.nodup_cons];refine⟨fun hm=>?_,h⟩
 rcases List.mem_cons.1 hm with e | hm
 ·exact hs e
 ·obtain⟨u,hu,e⟩:=List.mem_map.1 hm;exact ht u hu e
theorem linkOf_head (s:Nat) (T:List Tw) (k:Nat):linkOf s T s k=nxt k T:=if_pos rfl
theorem linkOf_at {s k:Nat} {A R:List Tw} {t:Tw} (h:Apart s (A++t::R)):linkOf s (A++t::R) t.1 k=if k<t.2.2 then nxt k R else none:=by
 unfold linkOf;rw [if_neg (h.ne (by simp)),linkT_at h.ahead]
theorem linkOf_last {s k:Nat} {A R:List Tw} (h:Apart s (A++R)):linkOf s (A++R) (lastT k s A) k=nxt k R:=by
 rcases lastT_cases k s A with ⟨e,h2⟩ | ⟨B,y,C,e,h1,h2,h3⟩
 ·rw [e,linkOf_head,nxt_off h2]
 ·rw [h2];subst e;have hA:B++y::C++R=B++y::(C++R):=by simp
  rw [hA] at h ⊢;rw [linkOf_at h,if_pos h1,nxt_off h3]
theorem link_put {s k:Nat} {A R:List Tw} {t:Tw} (h:Apart s (A++t::R)) (hk:k<t.2.2) (x:Nat):
  linkOf s (A++t::R) x k=if x=lastT k s A then some t.1 else if x=t.1 then nxt k R else linkOf s (A++R) x k:=by
 have hd:=h.drop
 have hlt:lastT k s A≠t.1:=by
  rcases lastT_cases k s A with ⟨e,_⟩ | ⟨B,y,C,e,_,h2,_⟩
  ·rw [e];exact fun e=>h.ne (t:=t) (by simp) e.symm
  ·rw [h2];exact h.ahead y (by rw [e];simp)
 by_cases hx:x=lastT k s A
 ·rw [if_pos hx,hx];have h2:=linkOf_last (k:=k) h;rw [h2,nxt_cons,if_pos hk]
 ·rw [if_neg hx]
  by_cases hxt:x=t.1
  ·rw [if_pos hxt,hxt,linkOf_at h,if_pos hk]
  ·rw [if_neg hxt]
   by_cases hxs:x=s
   ·subst hxs;rw [linkOf_head,linkOf_head]
    rcases nxt_cases k A with ⟨e,h2⟩ | ⟨C,y,D,e,h1,h2,h3⟩
    ·exact absurd (lastT_off h2).symm hx
    ·subst e;have e1:C++y::D++t::R=C++y::(D++t::R):=by simp
     have e2:C++y::D++R=C++y::(D++R):=by simp
     rw [e1,e2,nxt_off h3,nxt_off h3,nxt_cons,nxt_cons,if_pos h1,if_pos h1]
   ·unfold linkOf;rw [if_neg hxs,if_neg hxs]
    by_cases hA:∃ u∈A,u.1=x
    ·obtain⟨u,hu,rfl⟩:=hA;obtain⟨B,C,e⟩:=List.append_of_mem hu;subst e;have e1:B++u::C++t::R=B++u::(C++t::R):=by simp
     have e2:B++u::C++R=B++u::(C++R):=by simp
     rw [e1] at h ⊢;rw [e2] at hd ⊢;rw [linkT_at h.ahead,linkT_at hd.ahead]
     by_cases hu2:k<u.2.2
     ·rw [if_pos hu2,if_pos hu2]
      rcases nxt_cases k C with ⟨e,h2⟩ | ⟨C1,y,D,e,h1,h2,h3⟩
      ·exfalso
       apply hx;have e3:B++u::C=(B++[u])++C:=by simp
       rw [e3,lastT_append,lastT_off h2,lastT_snoc_on hu2]
      ·subst e;have e3:C1++y::D++t::R=C1++y::(D++t::R):=by simp
       have e4:C1++y::D++R=C1++y::(D++R):=by simp
       rw [e3,e4,nxt_off h3,nxt_off h3,nxt_cons,nxt_cons,if_pos h1,if_pos h1]
     ·rw [if_neg hu2,if_neg hu2]
    ·have hA2:∀ u∈A,u.1≠x:=fun u hu e=>hA ⟨u,hu,e⟩;rw [linkT_skip hA2,linkT_skip hA2];show(if t.1=x then _ else linkT x k R)=_;rw [if_neg (fun e=>hxt e.symm)]
theorem link_put_above {s k:Nat} {A R:List Tw} {t:Tw} (h:Apart s (A++t::R)) (hk:¬ k<t.2.2) (x:Nat):linkOf s (A++t::R) x k=linkOf s (A++R) x k:=by
 have hd:=h.drop
 have hnx:∀ C:List Tw,nxt k (C++t::R)=nxt k (C++R):=fun C=>by
  induction C with
  | nil=>show nxt k (t::R)=nxt k R;rw [nxt_cons,if_neg hk]
  | cons y C ih=>rw [List.cons_append,List.cons_append,nxt_cons,nxt_cons,ih]
 unfold linkOf
 by_cases hxs:x=s
 ·rw [if_pos hxs,if_pos hxs,hnx]
 ·rw [if_neg hxs,if_neg hxs]
  by_cases hA:∃ u∈A,u.1=x
  ·obtain⟨u,hu,rfl⟩:=hA;obtain⟨B,C,e⟩:=List.append_of_mem hu;subst e;have e1:B++u::C++t::R=B++u::(C++t::R):=by simp
   have e2:B++u::C++R=B++u::(C++R):=by simp
   rw [e1] at h ⊢;rw [e2] at hd ⊢;rw [linkT_at h.ahead,linkT_at hd.ahead,hnx]
  ·have hA2:∀ u∈A,u.1≠x:=fun u hu e=>hA ⟨u,hu,e⟩;rw [linkT_skip hA2,linkT_skip hA2];show(if t.1=x then _ else linkT x k R)=_
   by_cases hxt:t.1=x
   ·subst hxt;rw [if_pos rfl,if_neg hk,linkT_not h.behind]
   ·rw [if_neg hxt]
theorem link_min {s k:Nat} {R:List Tw} {t:Tw} (h:Apart s (t::R)) (x:Nat) (hx:x≠t.1):linkOf s R x k=if x=s then(if k<t.2.2 then linkOf s (t::R) t.1 k else linkOf s (t::R) s k) else linkOf s (t::R) x k:=by
 by_cases hs:x=s
 ·rw [if_pos hs,hs,linkOf_head,linkOf_head];have:=linkOf_at (A:=[]) (k:=k) h;rw [List.nil_append] at this;rw [this,nxt_cons]
  split<;>rfl
 ·rw [if_neg hs];unfold linkOf;rw [if_neg hs,if_neg hs];show _=(if t.1=x then _ else linkT x k R);rw [if_neg (fun e=>hx e.symm)]
end Go.Rp.Skp
namespace Go.Proofs.YtadgbhjpgnlmoaaGreat.Skp
set_option maxRecDepth 100000
open Go.RowKit Go.Rp Go.Rp.Skp
def np:Option Nat→Value
 | none=>.pointer none
 | some b=>.pointer (some ⟨b,0,none⟩)
theorem np_none:np none=.pointer none:=rfl
theorem np_some (b:Nat):np (some b)=Pz b:=rfl
def towC (v:Int) (h:Nat) (f:Nat→Option Nat):Array Value:=#[Iw v,Iv (h:Int),np (f 0),np (f 1),np (f 2),np (f 3),np (f 4),np (f 5),np (f 6),np (f 7)]
def skC (f:Nat→Option Nat) (many most:Nat):Array Value:=#[Iw 0,Iv 0,np (f 0),np (f 1),np (f 2),np (f 3),np (f 4),np (f 5),np (f 6),np (f 7),Iv (many:Int),Iv (most:Int)]
def linkC (f:Nat→Option Nat):Array Value:=#[np (f 0),np (f 1),np (f 2),np (f 3),np (f 4),np (f 5),np (f 6),np (f 7)]
def pathC (p:Nat→Nat):Array Value:=linkC fun k=>some (p k)
def upd (g:Nat→Nat→Option Nat) (x k:Nat) (y:Option Nat):Nat→Nat→Option Nat:=fun a j=>if a=x∧j=k then y else g a j
theorem towC_at (v:Int) (h:Nat) (f:Nat→Option Nat) {k:Nat} (hk:k<8):(towC v h f)[2+k]? =some (np (f k)):=by
 match k,hk with
 | 0,_ | 1,_ | 2,_ | 3,_ | 4,_ | 5,_ | 6,_ | 7,_=>rfl
theorem skC_at (f:Nat→Option Nat) (many most:Nat) {k:Nat} (hk:k<8):(skC f many most)[2+k]? =some (np (f k)):=by
 match k,hk with
 | 0,_ | 1,_ | 2,_ | 3,_ | 4,_ | 5,_ | 6,_ | 7,_=>rfl
theorem towC_set (v:Int) (h:Nat) (f:Nat→Option Nat) {k:Nat} (hk:k<8) (y:Option Nat):(towC v h f).setIfInBounds (2+k) (np y)=towC v h fun j=>if j=k then y else f j:=by
 match k,hk with
 | 0,_ | 1,_ | 2,_ | 3,_ | 4,_ | 5,_ | 6,_ | 7,_=>rfl
theorem skC_set (f:Nat→Option Nat) (many most:Nat) {k:Nat} (hk:k<8) (y:Option Nat):(skC f many most).setIfInBounds (2+k) (np y)=skC (fun j=>if j=k then y else f j) many most:=by
 match k,hk with
 | 0,_ | 1,_ | 2,_ | 3,_ | 4,_ | 5,_ | 6,_ | 7,_=>rfl
theorem linkC_set (f:Nat→Option Nat) {k:Nat} (hk:k<8) (y:Option Nat):(linkC f).setIfInBounds k (np y)=linkC fun j=>if j=k then y else f j:=by
 match k,hk with
 | 0,_ | 1,_ | 2,_ | 3,_ | 4,_ | 5,_ | 6,_ | 7,_=>rfl
theorem linkC_congr {f g:Nat→Option Nat} (h:∀ k,k<8→f k=g k):linkC f=linkC g:=by
 unfold linkC;rw [h 0 (by omega),h 1 (by omega),h 2 (by omega),h 3 (by omega),h 4 (by omega),h 5 (by omega),h 6 (by omega),h 7 (by omega)]
theorem linkC_at (f:Nat→Option Nat) {k:Nat} (hk:k<8):(linkC f)[k]? =some (np (f k)):=by
 match k,hk with
 | 0,_ | 1,_ | 2,_ | 3,_ | 4,_ | 5,_ | 6,_ | 7,_=>rfl
theorem towC_congr {v:Int} {h:Nat} {f g:Nat→Option Nat} (e:∀ k,k<8→f k=g k):towC v h f=towC v h g:=by
 unfold towC;rw [e 0 (by omega),e 1 (by omega),e 2 (by omega),e 3 (by omega),e 4 (by omega),e 5 (by omega),e 6 (by omega),e 7 (by omega)]
theorem skC_congr {m n:Nat} {f g:Nat→Option Nat} (e:∀ k,k<8→f k=g k):skC f m n=skC g m n:=by
 unfold skC;rw [e 0 (by omega),e 1 (by omega),e 2 (by omega),e 3 (by omega),e 4 (by omega),e 5 (by omega),e 6 (by omega),e 7 (by omega)]
structure Links (w:World) (s many most:Nat) (T:List Tw) (g:Nat→Nat→Option Nat) (S:Nat→Prop):Prop where
 hd:Blk w s 183 (skC (g s) many most)
 hs:S s
 tw:∀ t∈T,Blk w t.1 181 (towC t.2.1 t.2.2 (g t.1))∧S t.1
def Node (s:Nat) (T:List Tw) (x:Nat):Prop:=x=s∨∃ t∈T,t.1=x
section
variable {w w':World} {s many most:Nat} {T:List Tw} {g g':Nat→Nat→Option Nat} {S U:Nat→Prop}
theorem Links.mono (h:Links w s many most T g S) (hS:∀ b,S b→U b):Links w s many most T g U:=⟨h.hd,hS _ h.hs,fun t ht=>⟨(h.tw t ht).1,hS _ (h.tw t ht).2⟩⟩
theorem Links.mod (h:Links w s many most T g S) (hm:Mod U w w') (hd:∀ b,S b→¬ U b):Links w' s many most T g S:=⟨h.hd.mod hm (hd _ h.hs),h.hs,fun t ht=>⟨(h.tw t ht).1.mod hm (hd _ (h.tw t ht).2),(h.tw t ht).2⟩⟩
theorem Links.lt (h:Links w s many most T g S):Links w s many most T g (fun b=>S b∧b<w.heap.size):=⟨h.hd,⟨h.hs,h.hd.lt⟩,fun t ht=>⟨(h.tw t ht).1,(h.tw t ht).2,(h.tw t ht).1.lt⟩⟩
theorem Links.keep (h:Links w s many most T g S) (hb:Below w.heap.size w w'):Links w' s many most T g S:=
 ⟨h.hd.below hb h.hd.lt,h.hs,fun t ht=>⟨(h.tw t ht).1.below hb (h.tw t ht).1.lt,(h.tw t ht).2⟩⟩
theorem Links.alloc (h:Links w s many most T g S) (o:Obj):Links (w.alloc o) s many most T g S:=h.keep ((Below.refl _ w).alloc (Nat.le_refl _) _)
theorem Links.drewN (h:Links w s many most T g S) (n:Nat):Links (w.drewN n) s many most T g S:=⟨h.hd,h.hs,h.tw⟩
theorem Links.drew (h:Links w s many most T g S):Links w.drew s many most T g S:=⟨h.hd,h.hs,h.tw⟩
theorem Links.congr (h:Links w s many most T g S) (e:∀ x k,k<8→g x k=g' x k):Links w s many most T g' S:=
 ⟨by rw [← skC_congr (e s)];exact h.hd,h.hs,fun t ht=>⟨by rw [← towC_congr (e t.1)];exact(h.tw t ht).1,(h.tw t ht).2⟩⟩
theorem Links.node (h:Links w s many most T g S) {x k:Nat} (hx:Node s T x) (hk:k<8):w.cell? ⟨x,2+k,none⟩=some (np (g x k))∧w.frozen? ⟨x,2+k,none⟩=false:=by
 rcases hx with rfl | ⟨t,ht,rfl⟩
 ·exact⟨(h.hd.cell _).trans (skC_at _ _ _ hk),h.hd.frozen _⟩
 ·exact⟨((h.tw t ht).1.cell _).trans (towC_at _ _ _ hk),(h.tw t ht).1.frozen _⟩
theorem Links.val (h:Links w s many most T g S) {t:Tw} (ht:t∈T):w.cell? ⟨t.1,0,none⟩=some (Iw t.2.1)∧w.cell? ⟨t.1,1,none⟩=some (Iv (t.2.2:Int)):=⟨(h.tw t ht).1.cell 0,(h.tw t ht).1.cell 1⟩
theorem Links.sizes (h:Links w s many most T g S):w.cell? ⟨s,10,none⟩=some (Iv (many:Int))∧w.cell? ⟨s,11,none⟩=some (Iv (most:Int))∧w.frozen? ⟨s,10,none⟩=false:=⟨h.hd.cell 10,h.hd.cell 11,h.hd.frozen 10⟩
theorem Links.any (h:Links w s many most T g S) {x:Nat} (hx:Node s T x):∃ (v:Int) (n:Nat),w.cell? ⟨x,0,none⟩=some (Iw v)∧w.cell? ⟨x,1,none⟩=some (Iv (n:Int)):=by
 rcases hx with rfl | ⟨t,ht,rfl⟩
 ·exact⟨0,0,h.hd.cell 0,h.hd.cell 1⟩
 ·exact⟨_,_,h.val ht⟩
theorem Links.setMany (h:Links w s many most T g S) (m:Nat):Links (w.setCell ⟨s,10,none⟩ (Iv (m:Int))) s m most T g S:=
 ⟨h.hd.set 10 _,h.hs,fun t ht=>⟨(h.tw t ht).1.far ((h.tw t ht).1.ne h.hd (by decide)) _,(h.tw t ht).2⟩⟩
theorem Links.set (h:Links w s many most T g S) {x k:Nat} (hx:Node s T x) (hk:k<8) (y:Option Nat):Links (w.setCell ⟨x,2+k,none⟩ (np y)) s many most T (upd g x k y) S:=by
 have hsame:(fun j=>if j=k then y else g x j)=upd g x k y x:=by funext j;simp [upd]
 have hoth:∀ z,z≠x→g z=upd g x k y z:=fun z hz=>by funext j;simp [upd,hz]
 refine⟨?_,h.hs,fun t ht=>⟨?_,(h.tw t ht).2⟩⟩
 ·by_cases e:s=x
  ·subst e;have:=h.hd.set (2+k) (np y)
   rwa [skC_set _ _ _ hk,hsame] at this
  ·rw [← hoth s e];exact h.hd.far e _
 ·by_cases e:t.1=x
  ·subst e;have:=(h.tw t ht).1.set (2+k) (np y)
   rwa [towC_set _ _ _ hk,hsame] at this
  ·rw [← hoth t.1 e];exact(h.tw t ht).1.far e _
theorem Links.nodeS (h:Links w s many most T g S) {x:Nat} (hx:Node s T x):S x:=by
 rcases hx with rfl | ⟨t,ht,rfl⟩
 ·exact h.hs
 ·exact(h.tw t ht).2
end
theorem node_last (k s:Nat) (A R:List Tw):Node s (A++R) (lastT k s A):=by
 rcases lastT_cases k s A with ⟨e,_⟩ | ⟨B,y,C,e,_,h,_⟩
 ·exact .inl e
 ·exact .inr ⟨y,by rw [e];simp,h.symm⟩
def mixed (s:Nat) (A R:List Tw) (t:Tw) (k:Nat):Nat→Nat→Option Nat:=fun x j=>if j<k then linkOf s (A++t::R) x j else linkOf s (A++R) x j
theorem lastT_ne {s:Nat} {A R:List Tw} {t:Tw} (h:Apart s (A++t::R)) (k:Nat):lastT k s A≠t.1:=by
 rcases lastT_cases k s A with ⟨e,_⟩ | ⟨B,y,C,e,_,h2,_⟩
 ·rw [e];exact fun e=>h.ne (t:=t) (by simp) e.symm
 ·rw [h2];exact h.ahead y (by rw [e];simp)
theorem mixed_at {s:Nat} {A R:List Tw} {t:Tw} (h:Apart s (A++t::R)) (k:Nat):mixed s A R t k (lastT k s A) k=nxt k R:=by
 unfold mixed;rw [if_neg (by omega),linkOf_last h.drop]
theorem mixed_step {s:Nat} {A R:List Tw} {t:Tw} (h:Apart s (A++t::R)) {k:Nat} (hk:k<t.2.2):
  upd (upd (mixed s A R t k) t.1 k (nxt k R)) (lastT k s A) k (some t.1)=mixed s A R t (k+1):=by
 funext x j
 unfold upd mixed
 by_cases hj:j=k
 ·subst hj;rw [if_neg (by omega:¬ j<j),if_pos (by omega:j<j+1),link_put h hk x];simp only [and_true]
 ·simp only [hj,and_false,if_false]
  by_cases hlt:j<k
  ·rw [if_pos hlt,if_pos (by omega)]
  ·rw [if_neg hlt,if_neg (by omega)]
theorem mixed_zero (s:Nat) (A R:List Tw) (t:Tw):mixed s A R t 0=linkOf s (A++R):=by
 funext x j
 unfold mixed;rw [if_neg (by omega)]
theorem mixed_full {s:Nat} {A R:List Tw} {t:Tw} (h:Apart s (A++t::R)) (x j:Nat):mixed s A R t t.2.2 x j=linkOf s (A++t::R) x j:=by
 unfold mixed
 by_cases hj:j<t.2.2
 ·rw [if_pos hj]
 ·rw [if_neg hj,link_put_above h hj]
theorem linkOf_new {s:Nat} {T:List Tw} {b:Nat} (hs:b≠s) (h:∀ u∈T,u.1≠b) (k:Nat):linkOf s T b k=none:=by
 unfold linkOf;rw [if_neg hs,linkT_not h]
theorem on_step (k s:Nat) (U V D:List Tw):
  (nxt k (V++D)=none∧lastT k s (U++V)=lastT k s U)∨(∃ y∈D,nxt k (V++D)=some y.1∧lastT k s (U++V)=lastT k s U)∨
  (∃ C y V2,V=C++y::V2∧k<y.2.2∧nxt k (V++D)=some y.1∧lastT k s (U++C++[y])=y.1):=by
 rcases nxt_cases k V with ⟨_,h2⟩ | ⟨C,y,V2,e,h1,h2,h3⟩
 ·rw [nxt_off h2,lastT_append,lastT_off h2]
  rcases nxt_cases k D with ⟨e,_⟩ | ⟨C,y,D2,e,h1,h3,_⟩
  ·exact .inl ⟨e,rfl⟩
  ·exact .inr (.inl ⟨y,by rw [e];simp,h3,rfl⟩)
 ·refine .inr (.inr ⟨C,y,V2,e,h1,?_,lastT_snoc_on h1⟩);rw [e,List.append_assoc,List.cons_append,nxt_off h3,nxt_cons,if_pos h1]
theorem on_begin {k s:Nat} {A:List Tw}:∃ U V,A=U++V∧lastT (k+1) s A=lastT k s U:=by
 rcases lastT_cases (k+1) s A with ⟨e,_⟩ | ⟨B,y,C,e,h1,h2,_⟩
 ·exact⟨[],A,rfl,by rw [e];rfl⟩
 ·exact⟨B++[y],C,by rw [e];simp,by rw [h2,lastT_snoc_on (by omega)]⟩
theorem min_ii {k:IntKind} {x y z:Int} (h:min x y=z) (ats:Array TypeId) (ty:TypeId):Go.Builtin.min_ ats ty #[.int k x,.int k y]=(pure (.int k z):Sem Value):=by
 have e:(if y<x then y else x)=z:=by rw [← h,Int.min_def];split<;>split<;>omega
 show([Value.int k y].foldlM Go.Builtin.min2 (.int k x):Sem Value)=_;simp only [List.foldlM,Go.Builtin.min2,e]
 rfl
theorem max_ii {k:IntKind} {x y z:Int} (h:max x y=z) (ats:Array TypeId) (ty:TypeId):Go.Builtin.max_ ats ty #[.int k x,.int k y]=(pure (.int k z):Sem Value):=by
 have e:(if x<y then y else x)=z:=by rw [← h,Int.max_def];split<;>split<;>omega
 show([Value.int k y].foldlM Go.Builtin.max2 (.int k x):Sem Value)=_;simp only [List.foldlM,Go.Builtin.max2,e]
 rfl
theorem path_info:(Tryz.prog.info? 343).map (·.size)=some 8:=by kernel_rfl
theorem linkC_size (f:Nat→Option Nat):(linkC f).size=8:=rfl
theorem linkC_one (f:Nat→Option Nat):(linkC f).all (·.oneCell')=true:=by
 have h:∀ x,(np x).oneCell'=true:=fun x=>by cases x<;>rfl
 unfold linkC;simp [h]
theorem load_path {w:World} {b:Nat} {t:TypeId} {f:Nat→Option Nat} (h:Blk w b t (linkC f)):(loadVar 343 ⟨b,0,none⟩).run Tryz.prog w=.ok (.agg (linkC f)) w:=
 run_loadVar_row w b t 343 (linkC f) (0,0) _ h Tryz.underlying343 rfl (by rw [path_info,linkC_size])
theorem setRow_blk {w:World} {b:Nat} {t:TypeId} {cs:Array Value} (h:Blk w b t cs) (cs':Array Value):Blk (w.setRow b cs') b t cs'∧Mod (fun x=>x=b) w (w.setRow b cs'):=
 ⟨setRow_heap w b cs cs' t (0,0) h,rfl,rfl,rfl,by simp,fun k _ hk=>setRow_other w b k cs' hk⟩
theorem store_path {w:World} {b:Nat} {t:TypeId} {cs:Array Value} (h:Blk w b t cs) (hcs:cs.size=8) (f:Nat→Option Nat):(storeVar 343 ⟨b,0,none⟩ (.agg (linkC f))).run Tryz.prog w=.ok () (w.setRow b (linkC f)):=
 run_storeVar_row w b t 343 cs (linkC f) h (by rw [path_info,linkC_size]) (by rw [hcs,linkC_size]) (linkC_one f)
section
variable {ops:Array Oper} {rest:List Oper} {o:Oper} {a:Act} {w:World} {Q:Exit→Act→World→Prop} {b:Nat} {t:TypeId} {cs:Array Value} {f:Nat→Option Nat}
theorem wpList_load_path (hg:o.guard=none) (x:Operand) (ho:o.op=.load 343 x) (hx:a.eval x=Pz b) (h:Blk w b t (linkC f))
  (hK:wpList Tryz.prog ops Q rest (a.put o.dst (.agg (linkC f))) w):wpList Tryz.prog ops Q (o::rest) a w:=wpList_plain hg fun _ hK'=>by
 unfold Oper.wp execOp;simp only [ho,hx,Instr.loadAt,Instr.sureAddr,Sem.run_bind,Sem.run_pure,Result.andThen_ok,load_path h];exact hK' _ _ hK
theorem wpList_store_path (hg:o.guard=none) (x y:Operand) (ho:o.op=.store 343 x y) (hx:a.eval x=Pz b) (hy:a.eval y=.agg (linkC f)) (h:Blk w b t cs) (hcs:cs.size=8)
  (hK:∀ w',Blk w' b t (linkC f)→Mod (fun x=>x=b) w w'→wpList Tryz.prog ops Q rest (a.put o.dst undef) w'):wpList Tryz.prog ops Q (o::rest) a w:=wpList_plain hg fun _ hK'=>by
 unfold Oper.wp execOp;simp only [ho,hx,hy,Instr.storeAt,Instr.sureAddr,Sem.run_bind,Sem.run_pure,Result.andThen_ok,store_path h hcs f];obtain⟨h1,h2⟩:=setRow_blk h (linkC f);exact hK' _ _ (hK _ h1 h2)
end
theorem results_path {fn:Func} {tmps:Array Value} {i:Nat} {w:World} {b:Nat} {t:TypeId} {f:Nat→Option Nat} (hf:fn.results=#[.cell i 343]) (ht:tmps.getD i undef=Pz b) (h:Blk w b t (linkC f)):
  (results fn tmps).run Tryz.prog w=.ok (.agg (linkC f)) w:=by
 unfold results;rw [hf];rw [Array.getD_eq_getD_getElem?] at ht;simp [Sem.run_bind,Sem.run_pure,ht,asAddr,load_path h]
def clamp (lo hi n:Int):Nat:=(max lo (min n hi)).toNat
def mostI (n:Int):Nat:=clamp 0 1000 n
def tallI (n:Int):Nat:=clamp 1 8 n
theorem clamp_eq {lo hi:Int} (h:0≤lo) (n:Int):max lo (min n hi)=(clamp lo hi n:Int):=by
 unfold clamp;have:lo≤max lo (min n hi):=Int.le_max_left ..;omega
theorem tallI_le (n:Int):1≤tallI n∧tallI n≤8:=by
 unfold tallI clamp;omega
theorem new_any (n:Int) (w:World):Calls Tryz.prog 62 #[Iv n] w fun e w'=>e=.returned (Pz w.heap.size)∧w'=w.alloc (.cells (skC (fun _=>none) 0 (mostI n)) 183):=by
 obtain⟨a,ha⟩:∃ a,min n 1000=a:=⟨_,rfl⟩;obtain⟨m,hm⟩:∃ m:Nat,mostI n=m:=⟨_,rfl⟩;have hb:max 0 a=(m:Int):=by rw [← ha,←hm];exact clamp_eq (by omega) n
 have h1:=min_ii (k:=.i64) ha;have h2:=max_ii (k:=.i64) hb;rw [hm];clear ha hb hm;go_enter Tryz.func62,Tryz.ntmps62;go_wp2;go_ret;exact⟨rfl,rfl⟩
theorem len_any {w:World} {s many most:Nat} {T:List Tw} {g:Nat→Nat→Option Nat} {S:Nat→Prop} (h:Links w s many most T g S):Calls Tryz.prog 255 #[Pz s] w fun e w'=>e=.returned (Iv (many:Int))∧w'=w:=by
 obtain⟨h1,h2,_⟩:=h.sizes;go_enter Tryz.func255,Tryz.ntmps255;go_wp2;go_ret;exact⟨rfl,rfl⟩
theorem most_any {w:World} {s many most:Nat} {T:List Tw} {g:Nat→Nat→Option Nat} {S:Nat→Prop} (h:Links w s many most T g S):Calls Tryz.prog 265 #[Pz s] w fun e w'=>e=.returned (Iv (most:Int))∧w'=w:=by
 obtain⟨h1,h2,_⟩:=h.sizes;go_enter Tryz.func265,Tryz.ntmps265;go_wp2;go_ret;exact⟨rfl,rfl⟩
theorem tall_any (v n:Int) (w:World):Calls Tryz.prog 277 #[Iw v,Iv n] w fun e w'=>e=.returned (Pz w.heap.size)∧w'=w.alloc (.cells (towC v (tallI n) fun _=>none) 181):=by
 obtain⟨a,ha⟩:∃ a,min n 8=a:=⟨_,rfl⟩;obtain⟨m,hm⟩:∃ m:Nat,tallI n=m:=⟨_,rfl⟩;have hb:max 1 a=(m:Int):=by rw [← ha,←hm];exact clamp_eq (by omega) n
 have h1:=min_ii (k:=.i64) ha;have h2:=max_ii (k:=.i64) hb;rw [hm];clear ha hb hm;go_enter Tryz.func277,Tryz.ntmps277;go_wp2;go_ret;exact⟨rfl,rfl⟩
theorem begin_any {w:World} {s many most:Nat} {T:List Tw} {g:Nat→Nat→Option Nat} {S:Nat→Prop} (h:Links w s many most T g S):Calls Tryz.prog 274 #[Pz s] w fun e w'=>e=.returned (.agg (pathC fun _=>s))∧Below w.heap.size w w':=by
 go_enter Tryz.func274,Tryz.ntmps274;go_wp2
 go_loopg [5] 8 (fun g k wr=>∃ m:Nat,m+g=8∧k=Iv (m:Int)∧Blk wr w.heap.size 343 (linkC fun _=>none)∧Blk wr (w.heap.size+1) 343 (linkC fun j=>if j<m then some s else none)∧Below w.heap.size w wr)
 case atStart=>
  exact⟨0,rfl,rfl,(Blk.new w _ _).alloc _,by have:=Blk.new (w.alloc (.cells (linkC fun _=>none) 343)) 343 (linkC fun _=>none);rw [World.size_alloc] at this;exact this,((Below.refl _ w).alloc (Nat.le_refl _) _).alloc (by simp) _⟩
 case round=>
  obtain⟨m,hm,rfl,h1,h2,hb⟩:=hrel
  by_cases hlt:m<8
  ·have hc:=(h2.cell m).trans (linkC_at _ hlt);have hf:=h2.frozen m;go_wp2;go_roundg (7-m)
   case measure=>omega
   case rel=>
    have h3:=h2.set m (np (some s));rw [linkC_set _ hlt] at h3;refine⟨m+1,by omega,by go_num,h1.far (by simp) _,?_,hb.setCell (by simp) _⟩
    rw [linkC_congr (g:=fun j=>if j<m+1 then some s else none) fun j hj=>by
     by_cases e:j=m
     ·subst e;simp
     ·by_cases h:j<m
      ·simp [h,e];omega
      ·rw [if_neg e,if_neg h,if_neg (by omega)]] at h3
    exact h3
  ·obtain rfl:m=8:=by omega
   rw [linkC_congr (g:=fun _=>some s) fun j hj=>if_pos hj] at h2;go_wp2_with (first | (refine wpList_load_path rfl _ rfl rfl h2 ?_) | (refine wpList_store_path rfl _ _ rfl rfl rfl h1 rfl ?_;intro w2 h3 hm2));exact bodyPost_ret (results_path rfl rfl h3) rfl ⟨rfl,hb.trans (hm2.below (by have:=hb.size;omega) fun x hx=>by omega)⟩
end Go.Proofs.YtadgbhjpgnlmoaaGreat.Skp
