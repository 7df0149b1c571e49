/- TopSafe, a part of its proof; no conditions. -/
import Derived.WalkKit
import Derived.Maps.AppendAt
import Derived.Deep.AppendLies
import Derived.Deep.AppendSrc
import Derived.Deep.Upon
import Derived.Deep.Draws
import Derived.Deep.RegionLaw
import Derived.Deep.Slices
import Derived.SizedLaws
import Derived.Test.YtadgbhjpgnlmoaaGreatProg
import Derived.WalkLawsBesides
import Derived.WalkSpells
import Derived.Lib.Hide
import Derived.Deep.LoopGhost
import Derived.Deep.DeepCutAuto
import Derived.Deep.Light
import Derived.Laws.BitsAllLaws
set_option linter.all false
namespace Go.Rp
open Go.RowKit
structure Mod (S:Nat→Prop) (w w':World):Prop where
 os:w'.os=w.os
 tape:w'.tape=w.tape
 output:w'.output=w.output
 size:w.heap.size≤w'.heap.size
 block:∀ k,k<w.heap.size→¬ S k→w'.heap[k]? =w.heap[k]?
section
variable {S T:Nat→Prop} {w w' w1 w2:World}
theorem Mod.refl (S:Nat→Prop) (w:World):Mod S w w:=⟨rfl,rfl,rfl,Nat.le_refl _,fun _ _ _=>rfl⟩
theorem Mod.trans (h:Mod S w w1) (k:Mod T w1 w2) (hT:∀ b,T b→S b∨w.heap.size≤b):Mod S w w2:=
 ⟨k.os.trans h.os,k.tape.trans h.tape,k.output.trans h.output,Nat.le_trans h.size k.size,fun b hb hn=>
  (k.block b (Nat.lt_of_lt_of_le hb h.size) (fun ht=>by rcases hT b ht with h1 | h1;exact hn h1;omega)).trans (h.block b hb hn)⟩
theorem Mod.mono (h:Mod S w w') (hS:∀ b,S b→T b):Mod T w w':=⟨h.os,h.tape,h.output,h.size,fun b hb hn=>h.block b hb (fun hs=>hn (hS b hs))⟩
theorem Mod.drew (h:Mod S w w'):Mod S w w'.drew:=⟨h.os,h.tape,h.output,h.size,h.block⟩
theorem Mod.drewN (h:Mod S w w') (n:Nat):Mod S w (w'.drewN n):=⟨h.os,h.tape,h.output,h.size,h.block⟩
theorem Mod.alloc (h:Mod S w w') (o:Obj):Mod S w (w'.alloc o):=
 ⟨h.os,h.tape,h.output,Nat.le_trans h.size (by simp),fun b hb hn=>(Below.heap_alloc w' o b (Nat.lt_of_lt_of_le hb h.size)).trans (h.block b hb hn)⟩
theorem Mod.setCell (h:Mod S w w') {p:Addr} (hp:S p.block∨w.heap.size≤p.block) (u:Value):Mod S w (w'.setCell p u):=
 ⟨h.os,h.tape,h.output,by simpa [World.setCell] using h.size,fun b hb hn=>(Below.heap_setCell w' p u b (by
  rintro rfl
  rcases hp with hp | hp
  ·exact hn hp
  ·omega)).trans (h.block b hb hn)⟩
theorem Mod.below {B:Nat} (h:Mod S w w') (hB:B≤w.heap.size) (hS:∀ b,S b→B≤b):Below B w w':=
 ⟨h.os,h.tape,h.output,h.size,fun b hb=>h.block b (by omega) (fun hs=>by have:=hS b hs;omega)⟩
theorem Mod.of_below (h:Below w.heap.size w w'):Mod S w w':=⟨h.os,h.tape,h.output,h.size,fun b hb _=>h.block b hb⟩
theorem Mod.cell (h:Mod S w w') {p:Addr} (hp:p.block<w.heap.size) (hn:¬ S p.block):w'.cell? p=w.cell? p:=World.cell?_of_block (w:=w) (h.block p.block hp hn)
end
def grow (S:Nat→Prop) (w w':World):Nat→Prop:=fun b=>S b∨(w.heap.size≤b∧b<w'.heap.size)
theorem grow_left {S:Nat→Prop} {w w':World}:∀ b,S b→grow S w w' b:=fun _ h=>.inl h
theorem grow_mono {S:Nat→Prop} {w w1 w2:World} (h:w1.heap.size≤w2.heap.size):∀ b,grow S w w1 b→grow S w w2 b:=fun b hb=>by
 rcases hb with hb | hb
 ·exact .inl hb
 ·exact .inr ⟨hb.1,by omega⟩
theorem below_drewN {B:Nat} {a w:World} (h:Below B a w) (n:Nat):Below B a (w.drewN n):=⟨h.os,h.tape,h.output,h.size,h.block⟩
def Blk (w:World) (g:Nat) (t:TypeId) (cs:Array Value):Prop:=w.heap[g]? =some (.cells cs t (0,0))
section
variable {S:Nat→Prop} {w w':World} {g:Nat} {t:TypeId} {cs:Array Value}
theorem Blk.lt (h:Blk w g t cs):g<w.heap.size:=by
 rcases Nat.lt_or_ge g w.heap.size with hlt | hge
 ·exact hlt
 ·unfold Blk at h;rw [Array.getElem?_eq_none hge] at h;cases h
theorem Blk.cell (h:Blk w g t cs) (i:Nat):w.cell? ⟨g,i,none⟩=cs[i]? :=cell_of_row w g i cs t (0,0) h
theorem Blk.frozen (h:Blk w g t cs) (i:Nat):w.frozen? ⟨g,i,none⟩=false:=by
 unfold Blk at h;simp [World.frozen?,h]
theorem Blk.new (w:World) (t:TypeId) (cs:Array Value):Blk (w.alloc (.cells cs t)) w.heap.size t cs:=heap_alloc_new w _
theorem Blk.drew (h:Blk w g t cs):Blk w.drew g t cs:=h
theorem Blk.drewN (h:Blk w g t cs) (n:Nat):Blk (w.drewN n) g t cs:=h
theorem Blk.alloc (h:Blk w g t cs) (o:Obj):Blk (w.alloc o) g t cs:=(Below.heap_alloc w o g h.lt).trans h
theorem Blk.set (h:Blk w g t cs) (i:Nat) (u:Value):Blk (w.setCell ⟨g,i,none⟩ u) g t (cs.setIfInBounds i u):=by
 unfold Blk at h ⊢;simp [World.setCell,Array.getElem?_modify,h]
theorem Blk.far (h:Blk w g t cs) {p:Addr} (hp:g≠p.block) (u:Value):Blk (w.setCell p u) g t cs:=(Below.heap_setCell w p u g hp).trans h
theorem Blk.mod (h:Blk w g t cs) (hm:Mod S w w') (hg:¬ S g):Blk w' g t cs:=(hm.block g h.lt hg).trans h
theorem Blk.below {B:Nat} (h:Blk w g t cs) (hb:Below B w w') (hg:g<B):Blk w' g t cs:=(hb.block g hg).trans h
theorem Blk.ne {g':Nat} {t':TypeId} {cs':Array Value} (h:Blk w g t cs) (h':Blk w g' t' cs') (hne:t≠t'):g≠g':=by
 rintro rfl;unfold Blk at h h';rw [h] at h'
 injection h' with h'
 injection h' with _ ht
 exact hne ht
end
def Rd (w:World) (R:Nat→Prop) (sz:Nat) (A:Option Addr) (n:Nat) (xs:List Value):Prop:=
 xs.length=n*sz∧(0<n→∃ b off,A=some ⟨b,off,none⟩∧R b∧∀ j u,xs[j]? =some u→w.cell? ⟨b,off+j,none⟩=some u)
section
variable {S R R':Nat→Prop} {w w':World} {B sz n:Nat} {A:Option Addr} {xs:List Value}
theorem Rd.at (h:Rd w R sz A n xs) (hn:0<n):∃ b off,A=some ⟨b,off,none⟩∧R b∧∀ j u,xs[j]? =some u→w.cell? ⟨b,off+j,none⟩=some u:=h.2 hn
theorem Rd.keep (h:Rd w R sz A n xs) (hk:∀ p:Addr,R p.block→p.block<w.heap.size→w'.cell? p=w.cell? p):Rd w' R sz A n xs:=
 ⟨h.1,fun hn=>by
  obtain⟨b,off,e,hb,hc⟩:=h.2 hn;exact⟨b,off,e,hb,fun j u hu=>(hk ⟨b,off+j,none⟩ hb (World.block_lt_of_cell? w _ (hc j u hu))).trans (hc j u hu)⟩⟩
theorem Rd.more (h:Rd w R sz A n xs) (hR:∀ b,R b→R' b):Rd w R' sz A n xs:=
 ⟨h.1,fun hn=>by
  obtain⟨b,off,e,hb,hc⟩:=h.2 hn;exact⟨b,off,e,hR b hb,hc⟩⟩
theorem Rd.below (h:Rd w R sz A n xs) (hb:Below B w w') (hR:∀ b,R b→b<B):Rd w' R sz A n xs:=h.keep fun p hp _=>hb.cell (hR _ hp)
theorem Rd.mod (h:Rd w R sz A n xs) (hm:Mod S w w') (hR:∀ b,R b→¬ S b):Rd w' R sz A n xs:=h.keep fun p hp hlt=>hm.cell hlt (hR _ hp)
theorem Rd.drew (h:Rd w R sz A n xs):Rd w.drew R sz A n xs:=h
theorem Rd.drewN (h:Rd w R sz A n xs) (k:Nat):Rd (w.drewN k) R sz A n xs:=h
theorem Rd.alloc (h:Rd w R sz A n xs) (o:Obj):Rd (w.alloc o) R sz A n xs:=h.keep fun p _ hlt=>World.cell?_alloc_lt w o p hlt
theorem Rd.of_blk {g:Nat} {t:TypeId} {cs:Array Value} (h:Blk w g t cs) (hg:R g) (m:Nat) (hm:cs.size=m*sz):Rd w R sz (some ⟨g,0,none⟩) m cs.toList:=
 ⟨by simpa using hm,fun _=>⟨g,0,rfl,hg,fun j u hu=>by rw [h.cell,Nat.zero_add];simpa using hu⟩⟩
theorem Rd.lit (w:World) (t:TypeId) (cs:Array Value) (m:Nat) (hm:cs.size=m*sz):Rd (w.alloc (.cells cs t)) (· =w.heap.size) sz (some ⟨w.heap.size,0,none⟩) m cs.toList:=
 Rd.of_blk (R:=(· =w.heap.size)) (Blk.new w t cs) rfl m hm
end
def Sl (w:World) (e sz:Nat) (A:Option Addr) (n c:Nat) (xs:List Value) (S:Nat→Prop):Prop:=
 xs.length=n*sz∧n≤c∧c≤maxLen∧
 ((A=none∧n=0∧c=0)∨∃ g off cur,A=some ⟨g,off,none⟩∧S g∧Blk w g e cur∧off+c*sz≤cur.size∧∀ j,j<n*sz→cur[off+j]? =xs[j]?)
section
variable {S T:Nat→Prop} {w w':World} {e sz n c:Nat} {A:Option Addr} {xs:List Value}
theorem Sl.nil (w:World) (e sz:Nat) (S:Nat→Prop):Sl w e sz none 0 0 [] S:=⟨by simp,Nat.le_refl _,by simp [maxLen],.inl ⟨rfl,rfl,rfl⟩⟩
theorem Sl.le (h:Sl w e sz A n c xs S):n≤c:=h.2.1
theorem Sl.cap_le (h:Sl w e sz A n c xs S):c≤maxLen:=h.2.2.1
theorem Sl.mono (h:Sl w e sz A n c xs S) (hS:∀ b,S b→T b):Sl w e sz A n c xs T:=by
 obtain⟨h1,h2,h3,h4⟩:=h;refine⟨h1,h2,h3,?_⟩
 rcases h4 with h4 | ⟨g,off,cur,hA,hg,r⟩
 ·exact .inl h4
 ·exact .inr ⟨g,off,cur,hA,hS _ hg,r⟩
theorem Sl.lt (h:Sl w e sz A n c xs S):Sl w e sz A n c xs (fun b=>S b∧b<w.heap.size):=by
 obtain⟨h1,h2,h3,h4⟩:=h;refine⟨h1,h2,h3,?_⟩
 rcases h4 with h4 | ⟨g,off,cur,hA,hg,hb,r⟩
 ·exact .inl h4
 ·exact .inr ⟨g,off,cur,hA,⟨hg,hb.lt⟩,hb,r⟩
theorem Sl.map (h:Sl w e sz A n c xs S) (hk:∀ g,S g→∀ cur,Blk w g e cur→Blk w' g e cur):Sl w' e sz A n c xs S:=by
 obtain⟨h1,h2,h3,h4⟩:=h;refine⟨h1,h2,h3,?_⟩
 rcases h4 with h4 | ⟨g,off,cur,hA,hg,hb,r⟩
 ·exact .inl h4
 ·exact .inr ⟨g,off,cur,hA,hg,hk g hg cur hb,r⟩
theorem Sl.mod (h:Sl w e sz A n c xs S) (hm:Mod T w w') (hd:∀ b,S b→¬ T b):Sl w' e sz A n c xs S:=h.map fun g hg _ hb=>hb.mod hm (hd g hg)
theorem Sl.drew (h:Sl w e sz A n c xs S):Sl w.drew e sz A n c xs S:=h
theorem Sl.drewN (h:Sl w e sz A n c xs S) (k:Nat):Sl (w.drewN k) e sz A n c xs S:=h
theorem Sl.alloc (h:Sl w e sz A n c xs S) (o:Obj):Sl (w.alloc o) e sz A n c xs S:=h.map fun _ _ _ hb=>hb.alloc o
theorem Sl.farT (h:Sl w e sz A n c xs S) {p:Addr} {t:TypeId} {cs:Array Value} (hp:Blk w p.block t cs) (hne:e≠t) (u:Value):Sl (w.setCell p u) e sz A n c xs S:=
 h.map fun _ _ _ hb=>hb.far (hb.ne hp hne) u
theorem Sl.off (h:Sl w e sz A n c xs S) {p:Nat} {t:TypeId} {cs:Array Value} (hp:Blk w p t cs) (hne:e≠t):Sl w e sz A n c xs (fun b=>S b∧b≠p):=by
 obtain⟨h1,h2,h3,h4⟩:=h;refine⟨h1,h2,h3,?_⟩
 rcases h4 with h4 | ⟨g,off,cur,hA,hg,hb,r⟩
 ·exact .inl h4
 ·exact .inr ⟨g,off,cur,hA,⟨hg,hb.ne hp hne⟩,hb,r⟩
theorem Sl.rd (h:Sl w e sz A n c xs S):Rd w S sz A n xs:=by
 obtain⟨h1,h2,h3,h4⟩:=h;refine⟨h1,fun hn=>?_⟩
 rcases h4 with ⟨_,h4,_⟩ | ⟨g,off,cur,hA,hg,hb,_,hc⟩
 ·omega
 ·refine⟨g,off,hA,hg,fun j u hu=>?_⟩;have hj:j<n*sz:=by rw [← h1];exact(List.getElem?_eq_some_iff.1 hu).1
  rw [hb.cell,hc j hj,hu]
theorem Sl.at (h:Sl w e sz A n c xs S) (hn:0<n):∃ g off,A=some ⟨g,off,none⟩∧S g∧g<w.heap.size∧(∀ i,w.frozen? ⟨g,i,none⟩=false)∧∀ j u,xs[j]? =some u→w.cell? ⟨g,off+j,none⟩=some u:=by
 obtain⟨h1,h2,h3,h4⟩:=h
 rcases h4 with ⟨_,h4,_⟩ | ⟨g,off,cur,hA,hg,hb,_,hc⟩
 ·omega
 ·refine⟨g,off,hA,hg,hb.lt,hb.frozen,fun j u hu=>?_⟩;have hj:j<n*sz:=by rw [← h1];exact(List.getElem?_eq_some_iff.1 hu).1
  rw [hb.cell,hc j hj,hu]
theorem Sl.drop (h:Sl w e sz A n c xs S) {k:Nat} (hk:k≤n):Sl w e sz (if c=k then A else A.map (·.add (k*sz))) (n-k) (c-k) (xs.drop (k*sz)) S:=by
 obtain⟨h1,h2,h3,h4⟩:=h;refine⟨by rw [List.length_drop,h1,Nat.sub_mul],by omega,by omega,?_⟩
 rcases h4 with ⟨rfl,rfl,rfl⟩ | ⟨g,off,cur,rfl,hg,hb,hsz,hc⟩
 ·exact .inl ⟨by simp,by omega,by omega⟩
 ·right
  by_cases hck:c=k
  ·rw [if_pos hck];refine⟨g,off,cur,rfl,hg,hb,?_,fun j hj=>?_⟩
   ·subst hck;simp at hsz ⊢;omega
   ·have:n-k=0:=by omega
    simp [this] at hj
  ·rw [if_neg hck];refine⟨g,off+k*sz,cur,?_,hg,hb,?_,fun j hj=>?_⟩
   ·by_cases h0:k*sz=0<;>simp [Addr.add,h0]
   ·rw [Nat.sub_mul];have:k*sz≤c*sz:=Nat.mul_le_mul_right _ (by omega);omega
   ·rw [List.getElem?_drop,←hc _ (by rw [Nat.sub_mul] at hj;omega),Nat.add_assoc]
theorem Sl.take (h:Sl w e sz A n c xs S) {k:Nat} (hk:k≤n):Sl w e sz A k c (xs.take (k*sz)) S:=by
 obtain⟨h1,h2,h3,h4⟩:=h;have hkn:k*sz≤n*sz:=Nat.mul_le_mul_right _ hk;refine⟨by rw [List.length_take,h1];omega,by omega,h3,?_⟩
 rcases h4 with ⟨rfl,rfl,rfl⟩ | ⟨g,off,cur,rfl,hg,hb,hsz,hc⟩
 ·exact .inl ⟨rfl,by omega,rfl⟩
 ·refine .inr ⟨g,off,cur,rfl,hg,hb,hsz,fun j hj=>?_⟩;rw [List.getElem?_take,if_pos hj,hc j (by omega)]
theorem Sl.set (h:Sl w e sz A n c xs S) {g off:Nat} (hA:A=some ⟨g,off,none⟩) (k:Nat) (hk:k<n*sz) (u:Value):Sl (w.setCell ⟨g,off+k,none⟩ u) e sz A n c (xs.set k u) S:=by
 obtain⟨h1,h2,h3,h4⟩:=h;refine⟨by simpa using h1,h2,h3,?_⟩
 rcases h4 with ⟨rfl,_⟩ | ⟨g',off',cur,rfl,hg,hb,hsz,hc⟩
 ·cases hA
 ·obtain⟨rfl,rfl⟩:g'=g∧off'=off:=by simpa using hA
  refine .inr ⟨g',off',_,rfl,hg,hb.set _ _,by simpa using hsz,fun j hj=>?_⟩;have hcn:n*sz≤c*sz:=Nat.mul_le_mul_right _ h2
  by_cases hjk:j=k
  ·subst hjk;rw [Array.getElem?_setIfInBounds_self_of_lt (by omega),List.getElem?_set_self (by omega)]
  ·rw [Array.getElem?_setIfInBounds_ne (by omega),List.getElem?_set_ne (by omega),hc j hj]
theorem Sl.of_blk {g:Nat} {cs:Array Value} (h:Blk w g e cs) (hg:S g) (m c:Nat) (hm:m≤c) (hc:c≤maxLen) (hz:cs.size=c*sz):Sl w e sz (some ⟨g,0,none⟩) m c (cs.toList.take (m*sz)) S:=by
 have hmc:m*sz≤c*sz:=Nat.mul_le_mul_right _ hm;refine⟨by rw [List.length_take,Array.length_toList];omega,hm,hc,.inr ⟨g,0,cs,rfl,hg,h,by omega,fun j hj=>?_⟩⟩;rw [List.getElem?_take,if_pos hj];simp
end
section
variable {P:Program} (w:World)
theorem setCells_blk {g:Nat} {t:TypeId} (vs:List Value):∀ (o:Nat) (w:World) (cs:Array Value),Blk w g t cs→o+vs.length≤cs.size→
  ∃ cs',Blk (w.setCells g o vs) g t cs'∧cs'.size=cs.size∧(∀ j,j<o→cs'[j]? =cs[j]?)∧(∀ j,j<vs.length→cs'[o+j]? =vs[j]?)∧(w.setCells g o vs).os=w.os∧(w.setCells g o vs).tape=w.tape∧(w.setCells g o vs).output=w.output∧
   (w.setCells g o vs).heap.size=w.heap.size∧∀ k,k≠g→(w.setCells g o vs).heap[k]? =w.heap[k]? :=by
 induction vs with
 | nil=>intro o w cs h _;exact⟨cs,h,rfl,fun _ _=>rfl,fun j hj=>by simp at hj,rfl,rfl,rfl,rfl,fun _ _=>rfl⟩
 | cons v vs ih=>
  intro o w cs h ho;simp only [List.length_cons] at ho;obtain⟨cs',h1,h2,h3,h4,h5,h6,h7,h8,h9⟩:=ih (o+1) (w.setCell ⟨g,o,none⟩ v) _ (h.set o v) (by simp;omega);refine⟨cs',h1,by simpa using h2,fun j hj=>?_,fun j hj=>?_,h5,h6,h7,h8.trans (by simp [World.setCell]),fun k hk=>(h9 k hk).trans (Below.heap_setCell w _ v k hk)⟩
  ·rw [h3 j (by omega),Array.getElem?_setIfInBounds_ne (by omega)]
  ·rcases j with _ | j
   ·rw [Nat.add_zero,h3 o (by omega),Array.getElem?_setIfInBounds_self_of_lt (by omega)]
    rfl
   ·have:=h4 j (by simpa using hj);rw [show o+(j+1)=o+1+j by omega,this]
    rfl
theorem run_append_sl (t ty e:TypeId) (i:TypeInfo) (z:Value) (sz bytes:Nat) (ht:P.underlying t=some (.slice e)) (hi:P.info? e=some i) (hz:i.zero=some z)
  (hsize:i.size=sz) (hby:i.bytes=bytes) (hzs:z.cells.size=sz) (hsz:0<sz)
  (A:Option Addr) (n c:Nat) (xs:List Value) (S:Nat→Prop) (hown:Sl w e sz A n c xs S)
  (R:Nat→Prop) (A2:Option Addr) (m c2:Nat) (news:List Value) (hr:Rd w R sz A2 m news) (h1:∀ u∈news,u.oneCell'=true)
  (h63:n+m≤maxLen) (hbytes:(n+m)*bytes≤140737488355328):
  ∃ A' c' w',(Builtin.append_ #[t,t] ty #[.slice A n c,.slice A2 m c2]).run P w=.ok (.slice A' (n+m) c') w'∧
   Sl w' e sz A' (n+m) c' (xs++news) (grow S w w')∧Mod S w w':=by
 subst hsize;subst hby
 have hsrc:Src P i.size t (.slice A2 m c2) m news w:=by
  refine⟨.inl ⟨e,ht⟩,fun _=>rfl,?_,?_,hr.1,h1⟩
  all_goals
   rcases Nat.eq_zero_or_pos m with h0 | h0
   ·subst h0;have hn:news=[]:=List.eq_nil_of_length_eq_zero (by simpa using hr.1);subst hn
    rcases A2 with _ | a
    ·exact run_firstCells_none _ _ 0 0 c2
    ·exact run_firstCells_some _ _ 0 a 0 c2 [] (by simp) (by simp)
   ·obtain⟨b,off,rfl,_,hc⟩:=hr.2 h0;refine run_firstCells_some _ _ m _ m c2 news hr.1 fun j u hu=>?_;have:=hc j u hu;simp only [Addr.add]
    split
    ·rename_i hj;subst hj;simpa using this
    ·simpa using this
 obtain⟨hl,hnc,hcm,hA⟩:=hown;have hlen:(xs++news).length=(n+m)*i.size:=by rw [List.length_append,hl,hr.1,Nat.add_mul]
 by_cases hroom:n+m≤c
 ·rcases hA with ⟨rfl,rfl,rfl⟩ | ⟨g,off,cur,rfl,hg,hb,hcs,hcur⟩
  ·obtain rfl:m=0:=by omega
   have hn:news=[]:=List.eq_nil_of_length_eq_zero (by simpa using hr.1);have hx:xs=[]:=List.eq_nil_of_length_eq_zero (by simpa using hl);subst hn hx;refine⟨none,0,w,?_,Sl.nil _ _ _ _,Mod.refl _ _⟩;simp [Builtin.append_,run_underlying ht,sizeOf,typeInfo,hi,hsrc.len,hsrc.cells]
  ·have hfit:off+n*i.size+news.length≤cur.size:=by
    rw [hr.1];have:(n+m)*i.size≤c*i.size:=Nat.mul_le_mul_right _ hroom;rw [Nat.add_mul] at this;omega
   have hrun:=run_append_room_src (P:=P) w t t ty e i ht hi g off n c (.slice A2 m c2) m news hsrc hroom
    (fun j hj=>by rw [hb.cell,Array.getElem?_eq_getElem (by omega)];rfl) (fun j _=>hb.frozen _)
   obtain⟨cs',k1,k2,k3,k4,k5,k6,k7,k8,k9⟩:=setCells_blk (g:=g) (t:=e) news (off+n*i.size) w cur hb hfit;refine⟨_,c,_,hrun,⟨hlen,hroom,hcm,.inr ⟨g,off,cs',rfl,.inl hg,k1,by omega,fun j hj=>?_⟩⟩,⟨k5,k6,k7,by omega,fun k _ hk=>k9 k (fun he=>hk (he▸hg))⟩⟩
   rcases Nat.lt_or_ge j (n*i.size) with hjn | hjn
   ·rw [k3 _ (by omega),hcur j hjn,List.getElem?_append_left (by omega)]
   ·rw [Nat.add_mul] at hj;rw [List.getElem?_append_right (by omega),hl,←k4 (j-n*i.size) (by rw [hr.1];omega)]
    congr 1
    omega
 ·have hold:(Builtin.firstCells i.size n (.slice A n c)).run P w.drew=.ok xs.toArray w.drew:=by
   rcases hA with ⟨rfl,rfl,rfl⟩ | ⟨g,off,cur,rfl,hg,hb,hcs,hcur⟩
   ·have hx:xs=[]:=List.eq_nil_of_length_eq_zero (by simpa using hl);subst hx;exact run_firstCells_none _ _ 0 0 0
   ·refine run_firstCells_some _ _ n _ n c xs hl fun j u hu=>?_;have hj:j<n*i.size:=by rw [← hl];exact(List.getElem?_eq_some_iff.1 hu).1
    have hcell:w.drew.cell? ⟨g,off+j,none⟩=some u:=by rw [hb.drew.cell,hcur j hj,hu]
    simp only [Addr.add]
    split
    ·rename_i h0;subst h0;simpa using hcell
    ·simpa using hcell
  have hge:=grownCap_ge w (n+m) c e;have hcapm:grownCap w (n+m) c e≤maxLen:=grownCap_le_maxLen w (n+m) c e h63;have hrun:=run_append_grow_src (P:=P) w t t ty e i z ht hi hz A n c xs hold (.slice A2 m c2) m news hsrc (by omega) (by simp only [maxLen] at h63;omega) (growslice_fits (by omega) hbytes);have hblk:Blk (w.drew.alloc (.cells ((xs++news).toArray++Builtin.zeroCells z.cells (grownCap w (n+m) c e-(n+m))) e)) w.heap.size e ((xs++news).toArray++Builtin.zeroCells z.cells (grownCap w (n+m) c e-(n+m))):=Blk.new w.drew _ _;refine⟨_,_,_,hrun,?_,⟨rfl,rfl,rfl,by simp,fun k hk _=>Below.heap_alloc w.drew _ k hk⟩⟩
  have hs:=Sl.of_blk (S:=grow S w (w.drew.alloc (.cells ((xs++news).toArray++Builtin.zeroCells z.cells (grownCap w (n+m) c e-(n+m))) e))) (sz:=i.size) hblk (.inr ⟨Nat.le_refl _,by simp⟩) (n+m) (grownCap w (n+m) c e) hge hcapm (by
   rw [Array.size_append,size_zeroCells,hzs,List.size_toArray,hlen,←Nat.add_mul]
   congr 1
   omega)
  have htake:((xs++news).toArray++Builtin.zeroCells z.cells (grownCap w (n+m) c e-(n+m))).toList.take ((n+m)*i.size)=xs++news:=by
   rw [Array.toList_append,←hlen];exact List.take_left
  rw [htake] at hs;exact hs
theorem wp_append_sl {o:Oper} {a:Act} {K:Act→World→Prop} {Q:Exit→Act→World→Prop} (s x:Operand) (t:TypeId)
  (ho:o.op=.call { callee:=.builtin .append,args:=#[s,x],argTypes:=#[t,t]})
  (e:TypeId) (i:TypeInfo) (z:Value) (sz bytes:Nat) (ht:P.underlying t=some (.slice e)) (hi:P.info? e=some i) (hz:i.zero=some z)
  (hsize:i.size=sz) (hby:i.bytes=bytes) (hzs:z.cells.size=sz) (hsz:0<sz)
  (A:Option Addr) (n c:Nat) (xs:List Value) (S:Nat→Prop) (hs:a.eval s=.slice A n c) (hown:Sl w e sz A n c xs S)
  (R:Nat→Prop) (A2:Option Addr) (m c2:Nat) (news:List Value) (hx:a.eval x=.slice A2 m c2) (hr:Rd w R sz A2 m news) (h1:∀ u∈news,u.oneCell'=true)
  (h63:n+m≤maxLen) (hbytes:(n+m)*bytes≤140737488355328)
  (h:∀ A' c' w',Sl w' e sz A' (n+m) c' (xs++news) (grow S w w')→Mod S w w'→K (a.put o.dst (.slice A' (n+m) c')) w'):o.wp P a w K Q:=by
 obtain⟨A',c',w',hrun,h2,h3⟩:=run_append_sl (P:=P) w t o.type e i z sz bytes ht hi hz hsize hby hzs hsz A n c xs S hown R A2 m c2 news hr h1 h63 hbytes;unfold Oper.wp execOp;simp only [ho,resolve,invoke,builtin,Sem.run_bind,Sem.run_pure,Result.andThen_ok,List.map_toArray,List.map_cons,List.map_nil,hs,hx,hrun];exact h A' c' w' h2 h3
theorem wpList_append_sl {ops:Array Oper} {rest:List Oper} {o:Oper} {a:Act} {Q:Exit→Act→World→Prop} (hgd:o.guard=none) (s x:Operand) (t:TypeId)
  (ho:o.op=.call { callee:=.builtin .append,args:=#[s,x],argTypes:=#[t,t]})
  (e:TypeId) (i:TypeInfo) (z:Value) (sz bytes:Nat) (ht:P.underlying t=some (.slice e)) (hi:P.info? e=some i) (hz:i.zero=some z)
  (hsize:i.size=sz) (hby:i.bytes=bytes) (hzs:z.cells.size=sz) (hsz:0<sz)
  (A:Option Addr) (n c:Nat) (xs:List Value) (S:Nat→Prop) (hs:a.eval s=.slice A n c) (hown:Sl w e sz A n c xs S)
  (R:Nat→Prop) (A2:Option Addr) (m c2:Nat) (news:List Value) (hx:a.eval x=.slice A2 m c2) (hr:Rd w R sz A2 m news) (h1:∀ u∈news,u.oneCell'=true)
  (h63:n+m≤maxLen) (hbytes:(n+m)*bytes≤140737488355328)
  (h:∀ A' c' w',Sl w' e sz A' (n+m) c' (xs++news) (grow S w w')→Mod S w w'→wpList P ops Q rest (a.put o.dst (.slice A' (n+m) c')) w'):wpList P ops Q (o::rest) a w:=
 wpList_plain hgd fun _ hK=>wp_append_sl w s x t ho e i z sz bytes ht hi hz hsize hby hzs hsz A n c xs S hs hown R A2 m c2 news hx hr h1 h63 hbytes fun A' c' w' h2 h3=>hK _ _ (h A' c' w' h2 h3)
theorem step_append_sl {ops:Array Oper} {o:Oper} {a:Act} {K:Act→World→Prop} {Q:Exit→Act→World→Prop} {E:Prop} (hgd:o.guard=none) (s x:Operand) (t:TypeId)
  (ho:o.op=.call { callee:=.builtin .append,args:=#[s,x],argTypes:=#[t,t]})
  (e:TypeId) (i:TypeInfo) (z:Value) (sz bytes:Nat) (ht:P.underlying t=some (.slice e)) (hi:P.info? e=some i) (hz:i.zero=some z)
  (hsize:i.size=sz) (hby:i.bytes=bytes) (hzs:z.cells.size=sz) (hsz:0<sz)
  (A:Option Addr) (n c:Nat) (xs:List Value) (S:Nat→Prop) (hs:a.eval s=.slice A n c) (hown:Sl w e sz A n c xs S)
  (R:Nat→Prop) (A2:Option Addr) (m c2:Nat) (news:List Value) (hx:a.eval x=.slice A2 m c2) (hr:Rd w R sz A2 m news) (h1:∀ u∈news,u.oneCell'=true)
  (h63:n+m≤maxLen) (hbytes:(n+m)*bytes≤140737488355328)
  (h:∀ A' c' w',Sl w' e sz A' (n+m) c' (xs++news) (grow S w w')→Mod S w w'→K (a.put o.dst (.slice A' (n+m) c')) w'):
  if Region.wanted o (yielded ops a.tmps)=true then Oper.wp P o a w K Q else E:=by
 have hw:Region.wanted o (yielded ops a.tmps)=true:=by simp [Region.wanted,hgd]
 rw [if_pos hw];exact wp_append_sl w s x t ho e i z sz bytes ht hi hz hsize hby hzs hsz A n c xs S hs hown R A2 m c2 news hx hr h1 h63 hbytes h
end
theorem field_append {w wx w1:World} {p:Nat} {S:Nat→Prop} {t e sz m c':Nat} {cs:Array Value} {A':Option Addr} {xs:List Value} (k:Nat) (hS:S p) (hx:Mod S w wx) (hblk1:Blk w1 p t cs) (hne:e≠t)
  (hown1:Sl w1 e sz A' m c' xs (grow (fun b=>S b∧b≠p) wx w1)) (hmod1:Mod (fun b=>S b∧b≠p) wx w1):
  Blk (w1.setCell ⟨p,k,none⟩ (.slice A' m c')) p t (cs.setIfInBounds k (.slice A' m c'))∧
  Sl (w1.setCell ⟨p,k,none⟩ (.slice A' m c')) e sz A' m c' xs (grow S w (w1.setCell ⟨p,k,none⟩ (.slice A' m c')))∧
  Mod S w (w1.setCell ⟨p,k,none⟩ (.slice A' m c')):=by
 have hz2:(w1.setCell ⟨p,k,none⟩ (.slice A' m c')).heap.size=w1.heap.size:=by simp [World.setCell]
 refine⟨hblk1.set k _,(hown1.farT (p:=⟨p,k,none⟩) hblk1 hne _).mono fun b hb=>?_,(hx.trans hmod1 fun b hb=>.inl hb.1).setCell (.inl hS) _⟩
 rcases hb with hb | hb
 ·exact .inl hb.1
 ·have:=hx.size;exact .inr ⟨by omega,by rw [hz2];exact hb.2⟩
theorem Sl.lit0 (w:World) (e sz:Nat) {S:Nat→Prop} (hS:S w.heap.size):Sl (w.alloc (.cells #[] e)) e sz (some ⟨w.heap.size,0,none⟩) 0 0 [] S:=
 ⟨by simp,Nat.le_refl _,by simp [maxLen],.inr ⟨w.heap.size,0,#[],rfl,hS,Blk.new _ _ _,by simp,fun j hj=>by simp at hj⟩⟩
def NewSl (w:World) (e sz n:Nat) (xs:List Value) (en:Ending) (w':World):Prop:=
 ∃ A' c',en=.returned (.slice A' n c')∧Sl w' e sz A' n c' xs (fun b=>w.heap.size≤b∧b<w'.heap.size)∧Below w.heap.size w w'
structure Stable (Q:World→(Nat→Prop)→Prop):Prop where
 mono:∀ {w:World} {S T:Nat→Prop},Q w S→(∀ b,S b→T b)→Q w T
 mod:∀ {w w':World} {S T:Nat→Prop},Q w S→Mod T w w'→(∀ b,S b→¬ T b)→Q w' S
 lt:∀ {w:World} {S:Nat→Prop},Q w S→Q w (fun b=>S b∧b<w.heap.size)
section
variable {Q Q' Q2 Q2':World→(Nat→Prop)→Prop} {w w' w1 w2:World} {S T:Nat→Prop} {B:Nat}
theorem Stable.keep (st:Stable Q) (h:Q w S) (hb:Below w.heap.size w w'):Q w' S:=
 st.mono (st.mod (T:=fun b=>w.heap.size≤b) (st.lt h) (Mod.of_below hb) (fun b hb=>by omega)) fun _ hb=>hb.1
theorem Stable.wrap (st:Stable Q) {wx:World} (hx:Below w.heap.size w wx) (h:Q w1 (grow (fun b=>S b∧b<w.heap.size) wx w1)) (m:Mod (fun b=>S b∧b<w.heap.size) wx w1) (m2:Mod (fun b=>w.heap.size≤b∧b<wx.heap.size) w1 w2):
  Q w2 (grow S w w2)∧Mod S w w2:=by
 have hz:=m.size;have hz1:=hx.size;have hz2:=m2.size;refine⟨st.mono (st.mod h m2 ?_) ?_,?_⟩
 ·rintro b (hb | hb) hc
  ·omega
  ·omega
 ·rintro b (hb | hb)
  ·exact .inl hb.1
  ·exact .inr ⟨by omega,by omega⟩
 ·refine(((Mod.of_below hx).trans m fun b hb=>.inl hb.1).trans m2 fun b hb=>.inr (by omega))
end
theorem stable_rd (sz:Nat) (hsz:0<sz) (A:Option Addr) (n:Nat) (xs:List Value):Stable (fun w R=>Rd w R sz A n xs):=
 ⟨fun h hS=>h.more hS,fun h hm hd=>h.mod hm hd,fun {w S} h=>⟨h.1,fun hn=>by
  obtain⟨b,off,e,hb,hc⟩:=h.2 hn;have hl:0<xs.length:=by rw [h.1];exact Nat.mul_pos hn hsz
  exact⟨b,off,e,⟨hb,World.block_lt_of_cell? w _ (hc 0 _ (List.getElem?_eq_getElem hl))⟩,hc⟩⟩⟩
theorem two_cells {w:World} {R:Nat} {t:TypeId} {v0 v1:Value} (a b:Value) (h:Blk w R t #[v0,v1]):
  ((w.setCell ⟨R,0,none⟩ a).setCell ⟨R,1,none⟩ b).cell? ⟨R,0,none⟩=some a∧((w.setCell ⟨R,0,none⟩ a).setCell ⟨R,1,none⟩ b).cell? ⟨R,1,none⟩=some b∧
  Mod (fun x=>x=R) w ((w.setCell ⟨R,0,none⟩ a).setCell ⟨R,1,none⟩ b):=
 ⟨((h.set 0 a).set 1 b).cell 0,((h.set 0 a).set 1 b).cell 1,((Mod.refl (fun x=>x=R) w).setCell (p:=⟨R,0,none⟩) (.inl rfl) _).setCell (p:=⟨R,1,none⟩) (.inl rfl) _⟩
theorem Sl.none_ {w:World} {e sz n c:Nat} {A:Option Addr} {xs:List Value} {S:Nat→Prop} (h:Sl w e sz A n c xs S):A=none→n=0∧c=0:=by
 rintro rfl
 rcases h.2.2.2 with h | ⟨_,_,_,h,_⟩
 ·exact h.2
 ·cases h
theorem NewSl.cloned {w w1:World} {e sz n c':Nat} {A':Option Addr} {xs:List Value} {o:Obj}
  (hown1:Sl w1 e sz A' n c' xs (grow (fun b=>b=w.heap.size) (w.alloc o) w1)) (hmod1:Mod (fun b=>b=w.heap.size) (w.alloc o) w1):NewSl w e sz n xs (.returned (.slice A' n c')) w1:=by
 have hz:=hmod1.size;simp at hz;refine⟨A',c',rfl,?_,?_⟩
 ·refine hown1.mono fun b hb=>?_
  rcases hb with hb | hb
  ·exact⟨by omega,by omega⟩
  ·simp at hb;exact⟨by omega,hb.2⟩
 ·exact((Below.refl _ w).alloc (Nat.le_refl _) _).trans (hmod1.below (by simp) (fun b hb=>by omega))
structure Res where
 Q:World→(Nat→Prop)→Prop
 st:Stable Q
def Sep (w:World):(Nat→Prop)→List Res→Prop
 | _,[]=>True
 | U,a::l=>∃ S:Nat→Prop,(∀ b,S b→U b)∧a.Q w S∧Sep w (fun b=>U b∧¬ S b) l
section
variable {w w':World} {U V S:Nat→Prop} {a b c d:Res} {l:List Res} {B:Nat}
theorem Sep.mono (h:Sep w U l) (hU:∀ x,U x→V x):Sep w V l:=by
 induction l generalizing U V with
 | nil=>trivial
 | cons a l ih=>
  obtain⟨S,h1,h2,h3⟩:=h;exact⟨S,fun x hx=>hU x (h1 x hx),h2,ih h3 fun x hx=>⟨hU x hx.1,hx.2⟩⟩
theorem Sep.lt (h:Sep w U l):Sep w (fun x=>U x∧x<w.heap.size) l:=by
 induction l generalizing U with
 | nil=>trivial
 | cons a l ih=>
  obtain⟨S,h1,h2,h3⟩:=h;exact⟨_,fun x hx=>⟨h1 x hx.1,hx.2⟩,a.st.lt h2,(ih h3).mono fun x hx=>⟨⟨hx.1.1,hx.2⟩,fun hs=>hx.1.2 hs.1⟩⟩
theorem Sep.mod {T:Nat→Prop} (h:Sep w U l) (hm:Mod T w w') (hd:∀ x,U x→¬ T x):Sep w' U l:=by
 induction l generalizing U with
 | nil=>trivial
 | cons a l ih=>
  obtain⟨S,h1,h2,h3⟩:=h;exact⟨S,h1,a.st.mod h2 hm fun x hx=>hd x (h1 x hx),ih h3 fun x hx=>hd x hx.1⟩
theorem Sep.keep (h:Sep w U l) (hb:Below w.heap.size w w'):Sep w' U l:=
 (h.lt.mod (T:=fun b=>w.heap.size≤b) (Mod.of_below hb) fun x hx=>by omega).mono fun x hx=>hx.1
theorem Sep.rot2 (h:Sep w U (a::b::l)):Sep w U (b::a::l):=by
 obtain⟨S,h1,h2,T,h3,h4,h5⟩:=h;exact⟨T,fun x hx=>(h3 x hx).1,h4,S,fun x hx=>⟨h1 x hx,fun ht=>(h3 x ht).2 hx⟩,h2,h5.mono fun x hx=>⟨⟨hx.1.1,hx.2⟩,hx.1.2⟩⟩
theorem Sep.cons {l':List Res} (hl:∀ V,Sep w V l→Sep w V l') (h':Sep w U (a::l)):Sep w U (a::l'):=by
 obtain⟨S,h1,h2,h3⟩:=h';exact⟨S,h1,h2,hl _ h3⟩
theorem Sep.rot3 (h:Sep w U (a::b::c::l)):Sep w U (c::a::b::l):=(h.cons fun _=>Sep.rot2).rot2
theorem Sep.rot4 (h:Sep w U (a::b::c::d::l)):Sep w U (d::a::b::c::l):=(h.cons fun _=>Sep.rot3).rot2
theorem Sep.rot5 {e:Res} (h:Sep w U (a::b::c::d::e::l)):Sep w U (e::a::b::c::d::l):=(h.cons fun _=>Sep.rot4).rot2
theorem Sep.drop (h:Sep w U (a::l)):Sep w U l:=by
 obtain⟨S,h1,h2,h3⟩:=h;exact h3.mono fun x hx=>hx.1
theorem Sep.get (h:Sep w U (a::l)):a.Q w U:=by
 obtain⟨S,h1,h2,h3⟩:=h;exact a.st.mono h2 h1
theorem Sep.made (h:Sep w U l) (hU:∀ x,w.heap.size≤x→U x) (hb:Below w.heap.size w w') (hq:a.Q w' (fun x=>w.heap.size≤x∧x<w'.heap.size)):Sep w' U (a::l):=
 ⟨_,fun x hx=>hU x hx.1,hq,(h.lt.mod (T:=fun b=>w.heap.size≤b) (Mod.of_below hb) fun x hx=>by omega).mono fun x hx=>⟨hx.1,fun hs=>by omega⟩⟩
theorem Sep.front {a':Res} (h:Sep w U (a::l)) (hU:∀ x,w.heap.size≤x→U x):
  ∃ S:Nat→Prop,a.Q w S∧(∀ x,S x→U x∧x<w.heap.size)∧∀ w',a'.Q w' (grow S w w')→Mod S w w'→Sep w' U (a'::l):=by
 obtain⟨S,h1,h2,h3⟩:=h;refine⟨_,a.st.lt h2,fun x hx=>⟨h1 x hx.1,hx.2⟩,fun w' hq hm=>⟨_,?_,hq,(h3.lt.mod hm fun x hx hs=>hx.1.2 hs.1).mono fun x hx=>⟨hx.1.1,?_⟩⟩⟩
 ·rintro x (hx | hx)
  ·exact h1 x hx.1
  ·exact hU x hx.1
 ·rintro (hs | hs)
  ·exact hx.1.2 hs.1
  ·omega
theorem Sep.step {P:Program} {f:FuncId} {args:Array Value} {r:Ending} {a':Res} (h:Sep w (fun x=>B≤x) (a::l)) (hB:B≤w.heap.size)
  (hc:∀ S:Nat→Prop,(∀ x,S x→x<w.heap.size)→a.Q w S→Calls P f args w fun e w'=>e=r∧a'.Q w' (grow S w w')∧Mod S w w'):
  Calls P f args w fun e w'=>e=r∧Sep w' (fun x=>B≤x) (a'::l)∧Below B w w':=by
 obtain⟨S,h1,h2,h3⟩:=h.front (a':=a') fun x hx=>Nat.le_trans hB hx;exact(hc S (fun x hx=>(h2 x hx).2) h1).mono fun e w' ⟨he,hq,hm⟩=>⟨he,h3 w' hq hm,hm.below hB fun x hx=>(h2 x hx).1⟩
theorem Sep.step2 {P:Program} {f:FuncId} {args:Array Value} {r:Ending} {a':Res} (h:Sep w (fun x=>B≤x) (a::b::l)) (hB:B≤w.heap.size)
  (hc:∀ S R:Nat→Prop,(∀ x,R x→¬ S x)→a.Q w S→b.Q w R→Calls P f args w fun e w'=>e=r∧a'.Q w' (grow S w w')∧Mod S w w'):
  Calls P f args w fun e w'=>e=r∧Sep w' (fun x=>B≤x) (a'::b::l)∧Below B w w':=by
 obtain⟨S,h1,h2,R,h4,h5,h6⟩:=h;refine(hc _ _ ?_ (a.st.lt h2) (b.st.lt h5)).mono fun e w' ⟨he,hq,hm⟩=>⟨he,⟨_,?_,hq,_,?_,b.st.mod (b.st.lt h5) hm ?_,(h6.lt.mod hm ?_).mono ?_⟩,hm.below hB fun x hx=>h1 x hx.1⟩
 ·exact fun x hx hs=>(h4 x hx.1).2 hs.1
 ·rintro x (hx | hx)
  ·exact h1 x hx.1
  ·exact Nat.le_trans hB hx.1
 ·rintro x hx;refine⟨(h4 x hx.1).1,?_⟩;rintro (hs | hs)
  ·exact(h4 x hx.1).2 hs.1
  ·omega
 ·exact fun x hx hs=>(h4 x hx.1).2 hs.1
 ·exact fun x hx hs=>hx.1.1.2 hs.1
 ·intro x hx;refine⟨⟨hx.1.1.1,?_⟩,fun hs=>hx.1.2 hs.1⟩;rintro (hs | hs)
  ·exact hx.1.1.2 hs.1
  ·omega
end
def rdRes (sz:Nat) (hsz:0<sz) (A:Option Addr) (n:Nat) (xs:List Value):Res:=⟨fun w R=>Rd w R sz A n xs,stable_rd sz hsz A n xs⟩
theorem stable_sl (e sz:Nat) (A:Option Addr) (n c:Nat) (xs:List Value):Stable (fun w R=>Sl w e sz A n c xs R):=
 ⟨fun h hS=>h.mono hS,fun h hm hd=>h.mod hm hd,fun h=>h.lt⟩
def slRes (e sz:Nat) (A:Option Addr) (n c:Nat) (xs:List Value):Res:=⟨fun w R=>Sl w e sz A n c xs R,stable_sl e sz A n c xs⟩
theorem stable_blk (p:Nat) (t:TypeId) (cs:Array Value):Stable (fun w R=>Blk w p t cs∧R p):=
 ⟨fun h hS=>⟨h.1,hS _ h.2⟩,fun h hm hd=>⟨h.1.mod hm (hd _ h.2),h.2⟩,fun h=>⟨h.1,h.2,h.1.lt⟩⟩
def blkR (p:Nat) (t:TypeId) (cs:Array Value):Res:=⟨fun w R=>Blk w p t cs∧R p,stable_blk p t cs⟩
section
variable {w:World} {l:List Res} {B:Nat}
theorem Sep.alloc (h:Sep w (fun x=>B≤x) l) (hB:B≤w.heap.size) (cs:Array Value) (t:TypeId):Sep (w.alloc (.cells cs t)) (fun x=>B≤x) (blkR w.heap.size t cs::l):=
 h.made (fun x hx=>Nat.le_trans hB hx) ((Below.refl _ w).alloc (Nat.le_refl _) _) ⟨Blk.new _ _ _,Nat.le_refl _,by simp⟩
theorem Sep.drewN (h:Sep w (fun x=>B≤x) l) (n:Nat):Sep (w.drewN n) (fun x=>B≤x) l:=h.keep (below_drewN (Below.refl _ w) n)
theorem Sep.drew (h:Sep w (fun x=>B≤x) l):Sep w.drew (fun x=>B≤x) l:=h.keep (Below.refl _ w).drew
theorem Sep.blk {p:Nat} {t:TypeId} {cs:Array Value} (h:Sep w (fun x=>B≤x) (blkR p t cs::l)):Blk w p t cs:=h.get.1
end
end Go.Rp
namespace Go
abbrev Iv (x:Int):Value:=.int .i64 x
abbrev Iw (x:Int):Value:=.int .i32 x
abbrev Ub (x:Int):Value:=.int .u8 x
abbrev Pz (b:Nat):Value:=.pointer (some ⟨b,0,none⟩)
theorem Rp.Sep.cv {w:World} {B p:Nat} {t:TypeId} {cs:Array Value} {l:List Rp.Res} (h:Rp.Sep w (fun x=>B≤x) (Rp.blkR p t cs::l)) (i:Nat) (v:Value) (hv:cs[i]? =some v:=by rfl):w.cell? ⟨p,i,none⟩=some v:=(Rp.Blk.cell h.blk i).trans hv
end Go
namespace Go.Rp
open Go.RowKit
structure InInts (k:IntKind) (w:World) (a:Option Addr) (n c:Nat) (zs:List Int):Prop where
 nil:a=none→n=0∧c=0
 le:n≤c
 cap:c≤maxLen
 len:zs.length=n
 rd:Rd w (· <w.heap.size) 1 a n (zs.map fun x=>Value.int k x)
 wf:∀ z∈zs,(Lit.int k z).wf=true
 reach:n≤140737488351232
theorem InInts.none_ (k:IntKind) (w:World):InInts k w none 0 0 []:=
 ⟨fun _=>⟨rfl,rfl⟩,Nat.le_refl _,by simp [maxLen],rfl,⟨by simp,fun h=>absurd h (by omega)⟩,by simp,by omega⟩
theorem InInts.of_row {k:IntKind} {w:World} {a:Option Addr} {len cap:Nat} {zs:List Int}
  (h:∃ x,a=some x∧len≤cap∧cap≤maxLen∧zs.length=cap∧(∀ i,i<zs.length→w.cell? (x.add i)=some (.int k (zs.getD i 0)))∧∀ n∈zs,(Lit.int k n).wf=true) (hreach:len≤140737488351232):InInts k w a len cap (zs.take len):=by
 obtain⟨x,rfl,hl,hm,hz,hc,hw⟩:=h;refine⟨by simp,hl,hm,by simp;omega,⟨by simp;omega,fun hn=>?_⟩,fun z hz=>hw z (List.mem_of_mem_take hz),hreach⟩;obtain⟨b,off,spot⟩:=x;have h0:=hc 0 (by omega);have hspot:spot=none:=by simpa [Addr.add] using World.cell?_spot h0
 subst hspot;refine⟨b,off,rfl,?_,fun j u hu=>?_⟩
 ·have:=World.block_lt_of_cell? w _ h0
  simpa [Addr.add] using this
 ·rw [List.getElem?_map] at hu;obtain⟨z,hz1,rfl⟩:=Option.map_eq_some_iff.1 hu;rw [List.getElem?_take] at hz1
  split at hz1
  ·have h1:=hc j (by omega);rw [List.getD_eq_getElem?_getD,hz1] at h1;simp only [Option.getD_some] at h1;rw [← h1]
   by_cases h0:j=0<;>simp [Addr.add,h0]
  ·cases hz1
theorem wf_u8 {z:Int} (h:(Lit.int .u8 z).wf=true):0≤z∧z≤255:=by
 simp [Lit.wf,IntKind.min,IntKind.max,IntKind.signed,IntKind.bits] at h;omega
open Go.RowKit Go.Deep
structure InRows {α:Type} (sz:Nat) (f:α→List Value) (ok:α→Prop) (w:World) (a:Option Addr) (n c:Nat) (xs:List α):Prop where
 nil:a=none→n=0∧c=0
 le:n≤c
 cap:c≤maxLen
 len:xs.length=n
 rd:Rd w (· <w.heap.size) sz a n (xs.flatMap f)
 ok:∀ x∈xs,ok x
 reach:n≤140737488351232
section
variable {α:Type} {sz:Nat} {f:α→List Value} {ok:α→Prop} {w:World}
theorem InRows.none_:InRows sz f ok w none 0 0 []:=⟨fun _=>⟨rfl,rfl⟩,Nat.le_refl _,by simp [maxLen],rfl,⟨by simp,fun h=>absurd h (by omega)⟩,by simp,by omega⟩
theorem rows_of {H:Type} {enc:TypeId×Value→H} {P:Program} {base:Nat} {spare:Nat→Bool} {held:Bool} {e:TypeId} {a:Addr} {m n:Nat} {D:Nat→DataW H} {Pl:Nat→List MemPlace} (hC:P.cellsOf e=sz)
  (hdec:∀ fuel cs x,DataW.trod enc P w base spare held fuel e cs=some x→∃ r,cs=f r∧ok r)
  (hi:∀ i,i<m→∃ cs',w.cells? base (a.add (i*P.cellsOf e)) (P.cellsOf e)=some cs'∧DataW.trod enc P w base spare held n e cs'=some (D i,Pl i)):
  ∀ len,len≤m→∃ xs:List α,xs.length=len∧(∀ x∈xs,ok x)∧(xs.flatMap f).length=len*sz∧∀ j u,(xs.flatMap f)[j]? =some u→w.cell? (a.add j)=some u:=by
 intro len
 induction len with
 | zero=>exact fun _=>⟨[],rfl,by simp,by simp,by simp⟩
 | succ len ih=>
  intro hm;obtain⟨xs,h1,h2,h3,h4⟩:=ih (by omega);obtain⟨cs',hc,ht⟩:=hi len (by omega);obtain⟨r,rfl,hr⟩:=hdec _ _ _ ht;rw [hC] at hc;obtain⟨_,hcl,hat⟩:=World.cells?_some hc;refine⟨xs++[r],by simp [h1],?_,?_,?_⟩
  ·intro x hx
   rcases List.mem_append.1 hx with hx | hx
   ·exact h2 x hx
   ·rw [List.mem_singleton.1 hx];exact hr
  ·rw [List.flatMap_append,List.length_append,h3];simp [hcl,Nat.succ_mul]
  ·intro j u hu;rw [List.flatMap_append,List.getElem?_append] at hu
   split at hu
   ·exact h4 j u hu
   ·rename_i hj;rw [h3] at hu hj;simp only [List.flatMap_cons,List.flatMap_nil,List.append_nil] at hu
    have hlt:j-len*sz<sz:=by
     have:=(List.getElem?_eq_some_iff.1 hu).1;omega
    have h5:=hat (j-len*sz) hlt;rw [hu,add_add,show len*sz+(j-len*sz)=j by omega] at h5;exact h5
theorem InRows.of_row (hsz:0<sz) {len cap:Nat} {x:Addr} (hl:len≤cap) (hm:cap≤maxLen) (hreach:len≤140737488351232)
  (h:∃ xs:List α,xs.length=len∧(∀ x∈xs,ok x)∧(xs.flatMap f).length=len*sz∧∀ j u,(xs.flatMap f)[j]? =some u→w.cell? (x.add j)=some u):
  ∃ xs,InRows sz f ok w (some x) len cap xs:=by
 obtain⟨xs,h1,h2,h3,h4⟩:=h;refine⟨xs,by simp,hl,hm,h1,⟨h3,fun hn=>?_⟩,h2,hreach⟩;obtain⟨b,off,spot⟩:=x;have hpos:0<(xs.flatMap f).length:=by rw [h3];exact Nat.mul_pos hn hsz
 have h0:=h4 0 _ (List.getElem?_eq_getElem hpos);have hspot:spot=none:=by simpa [Addr.add] using World.cell?_spot h0
 subst hspot;refine⟨b,off,rfl,?_,fun j u hu=>?_⟩
 ·have:=World.block_lt_of_cell? w _ h0
  simpa [Addr.add] using this
 ·have h1:=h4 j u hu;rw [← h1]
  by_cases h0:j=0<;>simp [Addr.add,h0]
end
def opIn (o:Int×Int):List Value:=[.int .u8 o.1,.int .i32 o.2]
end Go.Rp
namespace Go.Proofs.YtadgbhjpgnlmoaaGreat.Con
set_option maxRecDepth 100000
open Go.RowKit Go.Rp
def hgt:Nat→List Bool→Nat×List Bool
 | 0,l=>(1,l)
 | _+1,[]=>(1,[])
 | _+1,false::l=>(1,l)
 | k+1,true::l=>((hgt k l).1+1,(hgt k l).2)
theorem ret_int {k:IntKind} {a b:Int} (h:a=b):Ending.returned (.int k a)=.returned (.int k b):=by rw [h]
def CoinAt (w:World) (p:Nat) (S:Nat→Prop) (bits:List Bool):Prop:=
 ∃ A c,Blk w p 186 #[.slice A bits.length c]∧Sl w 4 1 A bits.length c (bits.map .bool) S∧S p∧bits.length≤20000
theorem left_any (w:World) (p:Nat) (S:Nat→Prop) (bits:List Bool) (h:CoinAt w p S bits):
  Calls Tryz.prog 280 #[Pz p] w fun e w'=>e=.returned (Iv bits.length)∧w=w':=by
 obtain⟨A,c,hb,hs,hp,h20⟩:=h;have hc:w.cell? ⟨p,0,none⟩=some (.slice A bits.length c):=hb.cell 0;clear hb hs;go_enter Tryz.func280,Tryz.ntmps280;go_wp2;go_ret;exact⟨rfl,rfl⟩
theorem new_any (w:World):
  Calls Tryz.prog 63 #[] w fun e w'=>e=.returned (Pz w.heap.size)∧w'=w.alloc (.cells #[.slice none 0 0] 186):=by
 go_enter Tryz.func63,Tryz.ntmps63;go_wp2;go_ret;exact⟨rfl,rfl⟩
theorem toss_any (w:World) (p:Nat) (S:Nat→Prop) (bits:List Bool) (h:CoinAt w p S bits):
  Calls Tryz.prog 272 #[Pz p] w fun e w'=>e=.returned (.bool (bits.headD false))∧CoinAt w' p S bits.tail∧Mod S w w':=by
 have hleft:=left_any w p S bits h;have hcoin:=h;obtain⟨A,c,hb,hs,hp,h20⟩:=h;have hc:w.cell? ⟨p,0,none⟩=some (.slice A bits.length c):=hb.cell 0;have hf:=hb.frozen 0
 cases bits with
 | nil=>
  go_enter Tryz.func272,Tryz.ntmps272;go_wp2_with (go_at_call 280;refine hleft.mono ?_;rintro e w' ⟨rfl,rfl⟩);go_ret;exact⟨rfl,hcoin,Mod.refl _ _⟩
 | cons x bits=>
  have hle:=hs.le;have hcm:=hs.cap_le;obtain⟨g,off,rfl,hg,hlt,hfz,hx⟩:=hs.at (by simp);have hx0:w.cell? ⟨g,off,none⟩=some (.bool x):=hx 0 _ rfl;have hd:=hs.drop (k:=1) (by simp);have hd2:=hd.farT (p:=⟨p,0,none⟩) hb (by decide) (.slice (if c=1 then some ⟨g,off,none⟩ else some ⟨g,off+1,none⟩) bits.length (c-1));simp only [List.length_cons] at hle hc hleft;unfold maxLen at hcm;have HD:=Lib.hid hd2;clear hx hd hd2 hfz;go_enter Tryz.func272,Tryz.ntmps272;go_wp2_with (go_at_call 280;refine hleft.mono ?_;rintro e w' ⟨rfl,rfl⟩)
  all_goals
   go_ret;refine⟨rfl,⟨_,_,hb.set 0 _,?_,hp,by simp at h20 ⊢;omega⟩,(Mod.refl _ _).setCell (.inl hp) _⟩;have:=HD.out
   simpa [Addr.add, *] using this
theorem height_any (w:World) (p:Nat) (S:Nat→Prop) (bits:List Bool) (h:CoinAt w p S bits):
  Calls Tryz.prog 266 #[Pz p] w fun e w'=>e=.returned (Iv (hgt 7 bits).1)∧CoinAt w' p S (hgt 7 bits).2∧Mod S w w':=by
 go_enter Tryz.func266,Tryz.ntmps266;go_wp2
 go_step3
 go_wp2
 go_step3
 go_wp2
 go_loopw [3] (fun n wr=>∃ (m:Nat) (l:List Bool),m≤7∧n=Iv ((m:Int)+1)∧CoinAt wr p S l∧Mod S w wr∧Hid (hgt 7 bits=((hgt (7-m) l).1+m,(hgt (7-m) l).2))) (fun n _=>8-(intOf n).toNat)
 case atStart=>exact⟨0,bits,by omega,rfl,h,Mod.refl _ _,Lib.hid rfl⟩
 case round=>
  obtain⟨m,l,hm,rfl,hl,hmod,hh⟩:=hrel;have ht:=toss_any wr p S l hl
  by_cases h7:m=7
  ·subst h7;have h8:(((7:Nat):Int)+1==8)=true:=by decide
   go_wp2;rw [Exit.noGoto_ret];go_ret;have e:=hh.out;simp only [Nat.sub_self,hgt] at e;rw [e];exact⟨rfl,hl,hmod⟩
  ·have h8:((m:Int)+1==8)=false:=by simp;omega
   obtain⟨k,hk⟩:∃ k,7-m=k+1:=⟨6-m,by omega⟩;have hk2:7-(m+1)=k:=by omega
   have e:=hh.out;rw [hk] at e;have HK:=Lib.hid hk2;clear hh hk hk2
   cases l with
   | nil=>
    simp only [hgt] at e;have HE:=Lib.hid e;clear e;go_wp2_with (go_at_call 272;refine ht.mono ?_;rintro e w' ⟨rfl,hc',hm'⟩);rw [Exit.noGoto_ret];go_ret;rw [HE.out];exact⟨ret_int (by simp;omega),hc',hmod.trans hm' (fun _ hb=>.inl hb)⟩
   | cons x l=>
    cases x
    ·simp only [hgt] at e;have HE:=Lib.hid e;clear e;go_wp2_with (go_at_call 272;refine ht.mono ?_;rintro e w' ⟨rfl,hc',hm'⟩);rw [Exit.noGoto_ret];go_ret;rw [HE.out];exact⟨ret_int (by simp;omega),hc',hmod.trans hm' (fun _ hb=>.inl hb)⟩
    ·simp only [hgt] at e;have HE:=Lib.hid e;clear e;go_wp2_with (go_at_call 272;refine ht.mono ?_;rintro e w' ⟨rfl,hc',hm'⟩)
     go_roundw
     case rel=>exact⟨m+1,l,by omega,by go_num,hc',hmod.trans hm' (fun _ hb=>.inl hb),Lib.hid (by rw [HE.out,HK.out];simp;omega)⟩
     case measure=>simp [intOf];omega
def bitAt (b i:Nat):Bool:=b/2^i%2==1
def bitsOf (b:Nat):List Bool:=(List.range 8).map (bitAt b)
def feed (bits:List Bool) (bs:List Nat):List Bool:=(bits++bs.flatMap bitsOf).take 20000
theorem info_bool:(Tryz.prog.info? 4).map (fun i=>(i.zero,i.size,i.bytes))=some (some (.bool false),1,1):=by kernel_rfl
theorem bit_eq (b j:Nat) (hb:b<256):(Go.bits BinOp.and IntKind.u8 ((b:Int)/2^j) 1==1)=bitAt b j:=by
 have h1:((b:Int)/2^j)=((b/2^j:Nat):Int):=by simp
 have h2:b/2^j≤b:=Nat.div_le_self _ _;rw [h1,show(1:Int)=((1:Nat):Int) from rfl,u8_and_nat _ _ (by omega) (by omega),nat_mask1];unfold bitAt;rw [Bool.eq_iff_iff];simp;omega
theorem bitsOf_length (b:Nat):(bitsOf b).length=8:=by simp [bitsOf]
theorem bitsOf_snoc (b j:Nat) (hj:j<8):(bitsOf b).take (j+1)=(bitsOf b).take j++[bitAt b j]:=by
 rw [List.take_succ_eq_append_getElem (by rw [bitsOf_length];exact hj)];simp [bitsOf]
theorem fed_snoc (bits:List Bool) (bs:List Nat) (m:Nat) (hm:m<bs.length):bits++(bs.take (m+1)).flatMap bitsOf=bits++(bs.take m).flatMap bitsOf++bitsOf bs[m]:=by
 rw [List.take_succ_eq_append_getElem hm,List.flatMap_append];simp
theorem feed_full (bits:List Bool) (bs:List Nat) (m:Nat) (hm:m<bs.length) (j:Nat) (h:(bits++(bs.take m).flatMap bitsOf++(bitsOf bs[m]).take j).length=20000):
  feed bits bs=bits++(bs.take m).flatMap bitsOf++(bitsOf bs[m]).take j:=by
 have e:bits++bs.flatMap bitsOf=(bits++(bs.take m).flatMap bitsOf++(bitsOf bs[m]).take j)++((bitsOf bs[m]).drop j++(bs.drop (m+1)).flatMap bitsOf):=by
  have h1:bs=bs.take m++(bs[m]::bs.drop (m+1)):=by simp
  conv=>lhs;rw [h1,List.flatMap_append,List.flatMap_cons]
  simp only [List.append_assoc];rw [← List.append_assoc (List.take j _) (List.drop j _),List.take_append_drop]
 unfold feed;rw [e,←h];exact List.take_left
theorem feed_done (bits:List Bool) (bs:List Nat) (h:(bits++bs.flatMap bitsOf).length≤20000):feed bits bs=bits++bs.flatMap bitsOf:=List.take_of_length_le h
theorem coin_put {w wr w1:World} {p:Nat} {S:Nat→Prop} {cur:List Bool} {x:Bool} {A':Option Addr} {c':Nat} {cs:Array Value} {v:Value} (hmod:Mod S w wr) (hp2:grow S w wr p) (hne:cur.length<20000) (hblk1:Blk w1 p 186 #[v])
  (hown1:Sl w1 4 1 A' (cur.length+1) c' (cur.map .bool++[.bool x]) (grow (fun b=>grow S w wr b∧b≠p) (wr.alloc (.cells cs 4)).drew w1))
  (hmod1:Mod (fun b=>grow S w wr b∧b≠p) (wr.alloc (.cells cs 4)).drew w1):
  CoinAt (w1.setCell ⟨p,0,none⟩ (.slice A' (cur.length+1) c')) p (grow S w (w1.setCell ⟨p,0,none⟩ (.slice A' (cur.length+1) c'))) (cur++[x])∧Mod S w (w1.setCell ⟨p,0,none⟩ (.slice A' (cur.length+1) c')):=by
 have hsz:wr.heap.size+1≤w1.heap.size:=by have:=hmod1.size;simpa using this
 have hz2:(w1.setCell ⟨p,0,none⟩ (.slice A' (cur.length+1) c')).heap.size=w1.heap.size:=by simp [World.setCell]
 have hm2:Mod S w (w1.setCell ⟨p,0,none⟩ (.slice A' (cur.length+1) c')):=by
  refine Mod.setCell ?_ ?_ _
  ·refine(hmod.alloc _).drew.trans hmod1 fun b hb=>?_
   rcases hb.1 with hb | hb
   ·exact .inl hb
   ·exact .inr hb.1
  ·rcases hp2 with hb | hb
   ·exact .inl hb
   ·exact .inr hb.1
 have hlast:=hblk1.set 0 (.slice A' (cur.length+1) c');have hs3:=hown1.farT (p:=⟨p,0,none⟩) hblk1 (by decide) (.slice A' (cur.length+1) c')
 have hs4:Sl (w1.setCell ⟨p,0,none⟩ (.slice A' (cur.length+1) c')) 4 1 A' (cur.length+1) c' (cur.map .bool++[.bool x]) (grow S w (w1.setCell ⟨p,0,none⟩ (.slice A' (cur.length+1) c'))):=hs3.mono fun b hb=>by
  rcases hb with hb | hb
  ·exact grow_mono (by omega) b hb.1
  ·have:=hmod.size;exact .inr ⟨by simp at hb;omega,by rw [hz2];exact hb.2⟩
 exact⟨⟨A',c',by simpa using hlast,by simpa using hs4,grow_mono (by omega) p hp2,by simp;omega⟩,hm2⟩
theorem feed_any (w:World) (p:Nat) (S:Nat→Prop) (bits:List Bool) (h:CoinAt w p S bits) (A:Option Addr) (c:Nat) (bs:List Nat) (R:Nat→Prop) (hr:Rd w R 1 A bs.length (bs.map fun(x:Nat)=>Ub (x:Int))) (hR:∀ b,R b→¬ S b) (h8:∀ x∈bs,x<256) (hlen:bs.length≤100000):
  Calls Tryz.prog 88 #[Pz p,.slice A bs.length c] w fun e w'=>e=.returned (.tuple #[])∧CoinAt w' p (grow S w w') (feed bits bs)∧Mod S w w':=by
 obtain⟨i0,hi0,hz0,hz1,hz2⟩:=info_parts info_bool;have hplt:p<w.heap.size:=by obtain⟨_,_,hb,_⟩:=h;exact hb.lt
 go_enter Tryz.func88,Tryz.ntmps88;go_wp2
 go_loopw [5,6,11,15] (fun b i k i2 wr=>∃ (m:Nat),m≤bs.length∧k=Iv (m:Int)∧CoinAt wr p (grow S w wr) (bits++(bs.take m).flatMap bitsOf)∧Mod S w wr) (fun _ _ k _ _=>bs.length-(intOf k).toNat)
 case atStart=>
  refine⟨0,by omega,rfl,?_,Mod.refl _ _⟩;obtain⟨A,c,hb,hs,hp,h20⟩:=h;exact⟨A,c,by simpa using hb,by simpa using hs.mono fun _ hb=>.inl hb,.inl hp,by simpa using h20⟩
 case round=>
  obtain⟨m,hm,rfl,hl,hmod⟩:=hrel
  by_cases hlt:m<bs.length
  ·obtain⟨b,off,rfl,hbB,hcells⟩:=(hr.mod hmod hR).at (by omega);have hx:wr.cell? ⟨b,off+m,none⟩=some (Ub ((bs[m]:Nat):Int)):=hcells m _ (by simp [hlt]);have h256:bs[m]<256:=h8 _ (List.getElem_mem hlt);clear hcells;go_wp2;obtain⟨wo,rfl⟩:∃ wo:World,wo=wr:=⟨_,rfl⟩
   go_loopw [6,15] (fun i i2 wq=>∃ (j:Nat),j≤8∧i2=Iv (j:Int)∧CoinAt wq p (grow S w wq) (bits++(bs.take m).flatMap bitsOf++(bitsOf bs[m]).take j)∧Mod S w wq) (fun _ i _=>8-(intOf i).toNat)
   case atStart=>exact⟨0,by omega,rfl,by simpa using hl,hmod⟩
   case round=>
    clear hl hmod hx;obtain⟨j,hj,rfl,hl,hmod⟩:=hrel
    by_cases hj8:j<8
    ·have hsn:=bitsOf_snoc bs[m] j hj8;have hfull:=feed_full bits bs m hlt j;have hb:=bit_eq bs[m] j h256;obtain⟨A2,c2,hb2,hs2,hp2,h202⟩:=hl;have HS:=Lib.hid hsn;clear hsn;generalize hcur:bits++(bs.take m).flatMap bitsOf++(bitsOf bs[m]).take j=cur at*;have HC:=Lib.hid hcur;clear hcur;have hc2:wr.cell? ⟨p,0,none⟩=some (.slice A2 cur.length c2):=hb2.cell 0;have hf2:=hb2.frozen 0;have hplt2:=hb2.lt
     by_cases hful:cur.length=20000
     ·have HF:=Lib.hid (hfull hful);clear hfull;have e2:((cur.length:Int)==20000)=true:=by simp;omega
      have hful':=Lib.hid hful;clear hful;go_wp2;refine bodyPost_ret (results_none rfl _ _ _) rfl ?_;rw [HF.out];exact⟨rfl,⟨A2,c2,hb2,hs2,hp2,h202⟩,hmod⟩
     ·have e2:((cur.length:Int)==20000)=false:=by simp;omega
      have hne:cur.length<20000:=by omega
      clear hfull hful;have hown:=hs2.off hb2 (by decide);go_wp2
      go_region_law (refine step_append_sl _ rfl (.tmp 28) (.tmp 34) _ rfl 4 i0 _ 1 1 Tryz.underlying184 hi0 hz0 hz1 hz2 rfl (by omega) A2 cur.length c2 _ _ (by rfl) (by exact(hown.alloc _).drew) (· =wr.heap.size) (some ⟨wr.heap.size,0,none⟩) 1 1 [.bool (bitAt bs[m] j)] (by rfl) (by exact(Rd.lit (sz:=1) wr _ #[.bool (bitAt bs[m] j)] 1 rfl).drew) (by simp [Value.oneCell']) (by simp only [maxLen];omega) (by omega) ?_;intro A' c' w1 hown1 hmod1;have hblk1:=((hb2.alloc _).drew).mod hmod1 (by simp);have hc1:w1.cell? ⟨p,0,none⟩=some (.slice A2 cur.length c2):=hblk1.cell 0;have hf1:=hblk1.frozen 0)
      all_goals
       go_wp2
       go_roundw
       case rel=>
        refine⟨j+1,by omega,by go_num,?_⟩;rw [HS.out,←List.append_assoc,HC.out];exact coin_put hmod hp2 hne hblk1 hown1 hmod1
       case measure=>simp [intOf];omega
    ·have hj9:j=8:=by omega
     subst hj9;clear hj hj8;go_wp2
     go_roundw
     case rel=>
      refine⟨m+1,by omega,by go_num,?_,hmod⟩;rw [fed_snoc _ _ _ hlt]
      simpa [List.take_of_length_le (show (bitsOf bs[m]).length≤8 by simp [bitsOf_length])] using hl
     case measure=>simp [intOf];omega
  ·have:m=bs.length:=by omega
   subst this;rw [List.take_of_length_le (Nat.le_refl _)] at hl;go_wp2
   go_end0
   rw [feed_done _ _ (by obtain⟨_,_,_,_,_,h⟩:=hl;exact h)];exact⟨rfl,hl,hmod⟩
end Go.Proofs.YtadgbhjpgnlmoaaGreat.Con
namespace Go.Rp.Rng
open Go.RowKit
structure Rg (cs:List Int) (N f:Nat) (l:List Int):Prop where
 len:cs.length=N
 le:l.length≤N
 first:f<N∨(N=0∧f=0)
 at_:∀ i,i<l.length→cs[(f+i)%N]? =l[i]?
section
variable {cs l:List Int} {N f:Nat} {v:Int}
theorem mod_ne {N f a b:Nat} (ha:a<N) (hb:b<N) (h:a≠b):(f+a)%N≠(f+b)%N:=by
 intro e;have hN:0<N:=by omega
 have h1:=Nat.div_add_mod (f+a) N;have h2:=Nat.div_add_mod (f+b) N;rw [e] at h1;have:N*((f+a)/N)=N*((f+b)/N)+(f+a)-(f+b)∨N*((f+b)/N)=N*((f+a)/N)+(f+b)-(f+a):=by omega
 rcases Nat.lt_trichotomy ((f+a)/N) ((f+b)/N) with hl | he | hg
 ·have:=Nat.mul_le_mul_left N (show (f+a)/N+1≤(f+b)/N by omega);rw [Nat.mul_add,Nat.mul_one] at this;omega
 ·rw [he] at h1;omega
 ·have:=Nat.mul_le_mul_left N (show (f+b)/N+1≤(f+a)/N by omega);rw [Nat.mul_add,Nat.mul_one] at this;omega
theorem Rg.pushR (h:Rg cs N f l) (hl:l.length<N):Rg (cs.set ((f+l.length)%N) v) N f (l++[v]):=by
 refine⟨by rw [List.length_set,h.len],by simp;omega,h.first,fun i hi=>?_⟩;have hm:(f+l.length)%N<cs.length:=by rw [h.len];exact Nat.mod_lt _ (by omega)
 by_cases he:i=l.length
 ·subst he;rw [List.getElem?_set_self hm];simp
 ·have hi':i<l.length:=by simp at hi;omega
  rw [List.getElem?_set_ne (mod_ne hl (by omega) (by omega)),h.at_ i hi',List.getElem?_append_left hi']
theorem Rg.pushL (h:Rg cs N f l) (hl:l.length<N):Rg (cs.set ((f+(N-1))%N) v) N ((f+(N-1))%N) (v::l):=by
 have hN:0<N:=by omega
 have hm:(f+(N-1))%N<N:=Nat.mod_lt _ hN;refine⟨by rw [List.length_set,h.len],by simp;omega,.inl hm,fun i hi=>?_⟩
 rcases i with _ | i
 ·rw [Nat.add_zero,Nat.mod_eq_of_lt hm,List.getElem?_set_self (by rw [h.len];exact hm)];simp
 ·have hi':i<l.length:=by simpa using hi
  have e:((f+(N-1))%N+(i+1))%N=(f+i)%N:=by
   rw [Nat.mod_add_mod,show f+(N-1)+(i+1)=f+i+N by omega,Nat.add_mod_right]
  rw [e,List.getElem?_set_ne (mod_ne (by omega) (by omega) (by omega)),h.at_ i hi'];simp
theorem Rg.popL (h:Rg cs N f (v::l)):cs[f]? =some v∧Rg cs N ((f+1)%N) l:=by
 have hle:=h.le;simp at hle;have hN:0<N:=by omega
 have hf:f<N:=by rcases h.first with h | h<;>omega
 refine⟨?_,h.len,by omega,.inl (Nat.mod_lt _ hN),fun i hi=>?_⟩
 ·have:=h.at_ 0 (by simp);rw [Nat.add_zero,Nat.mod_eq_of_lt hf] at this
  simpa using this
 ·rw [Nat.mod_add_mod,show f+1+i=f+(i+1) by omega,h.at_ (i+1) (by simpa using hi)];simp
theorem Rg.popR (h:Rg cs N f (l++[v])):cs[(f+l.length)%N]? =some v∧Rg cs N f l:=by
 have hle:=h.le;simp at hle;refine⟨?_,h.len,by omega,h.first,fun i hi=>?_⟩
 ·have:=h.at_ l.length (by simp)
  simpa using this
 ·rw [h.at_ i (by simp;omega),List.getElem?_append_left hi]
theorem Rg.nil (N:Nat):Rg (List.replicate N 0) N 0 []:=⟨by simp,by simp,by omega,fun i hi=>by simp at hi⟩
end
def rDo (most:Nat) (l:List Int) (k v:Int):List Int×Int×Int:=
 if k=1 then(if most≤l.length then(l,3,0) else(v::l,1,0))
 else if k=2 then(if most≤l.length then(l,3,0) else(l++[v],1,0))
 else if k=3 then(match l with | []=>([],4,0) | x::t=>(t,2,x))
 else if k=4 then(match l.getLast? with | none=>(l,4,0) | some x=>(l.dropLast,2,x))
 else(l,5,0)
theorem rDo_popR (most:Nat) (l:List Int) (x v:Int):rDo most (l++[x]) 4 v=(l,2,x):=by simp [rDo]
abbrev ES:=List Nat×Nat×List Nat
def sizeE (st:ES):Nat:=st.2.1+st.1.length+st.2.2.length
def flip (st:ES):ES:=(st.2.2,st.2.1,st.1)
theorem sizeE_flip (st:ES):sizeE (flip st)=sizeE st:=by unfold sizeE flip;simp only;omega
def pushE (most k:Nat) (st:ES):ES×Int×Int:=if sizeE st<most then((st.1++[k],st.2),-1,1) else(st,-1,3)
def popE (st:ES):ES×Int×Int:=
 match st.1.getLast? with
 | some j=>((st.1.dropLast,st.2),(j:Int),2)
 | none=>if 0<st.2.1 then((st.1,st.2.1-1,st.2.2),-1,2)
  else match st.2.2 with
  | j::t=>((st.1,st.2.1,t),(j:Int),2)
  | []=>(st,-1,4)
def back (r:ES×Int×Int):ES×Int×Int:=(flip r.1,r.2)
def mStep (most k:Nat) (o:Int) (st:ES):ES×Int×Int:=
 if o=1 then pushE most k st
 else if o=2 then back (pushE most k (flip st))
 else if o=3 then popE st
 else if o=4 then back (popE (flip st))
 else(st,-1,5)
def mAt (most below:Nat) (ops:List (Int×Int)):Nat→ES
 | 0=>([],below,[])
 | k+1=>match ops[k]? with
  | some o=>(mStep most k o.1 (mAt most below ops k)).1
  | none=>mAt most below ops k
def kindAt (ops:List (Int×Int)) (k:Nat):Int:=(ops[k]?.map Prod.fst).getD 0
def mPair (most below:Nat) (ops:List (Int×Int)) (k:Nat):Int:=(mStep most k (kindAt ops k) (mAt most below ops k)).2.1
def mCode (most below:Nat) (ops:List (Int×Int)) (k:Nat):Int:=(mStep most k (kindAt ops k) (mAt most below ops k)).2.2
theorem kindAt_lt {ops:List (Int×Int)} {k:Nat} (h:k<ops.length):kindAt ops k=ops[k].1:=by simp [kindAt,h]
theorem mAt_succ {most below:Nat} {ops:List (Int×Int)} {k:Nat} (h:k<ops.length):mAt most below ops (k+1)=(mStep most k (kindAt ops k) (mAt most below ops k)).1:=by
 rw [kindAt_lt h];simp [mAt,h]
theorem pushE_len (most k:Nat) (st:ES) (h:sizeE st≤most):sizeE (pushE most k st).1≤most:=by
 unfold pushE
 split
 ·rename_i h';unfold sizeE at h' ⊢;simp;omega
 ·exact h
theorem popE_len (most:Nat) (st:ES) (h:sizeE st≤most):sizeE (popE st).1≤most:=by
 unfold popE sizeE at*
 split
 ·simp;omega
 ·split
  ·simp only;omega
  ·split
   ·rename_i hj;rw [hj] at h;simp at h;simp only;omega
   ·exact h
theorem mStep_len (most k:Nat) (o:Int) (st:ES) (h:sizeE st≤most):sizeE (mStep most k o st).1≤most:=by
 unfold mStep
 split
 ·exact pushE_len _ _ _ h
 ·split
  ·unfold back;rw [sizeE_flip];exact pushE_len _ _ _ (by rw [sizeE_flip];exact h)
  ·split
   ·exact popE_len _ _ h
   ·split
    ·unfold back;rw [sizeE_flip];exact popE_len _ _ (by rw [sizeE_flip];exact h)
    ·exact h
theorem mAt_len (most below:Nat) (ops:List (Int×Int)) (h:below≤most) (k:Nat):sizeE (mAt most below ops k)≤most:=by
 induction k with
 | zero=>simpa [mAt,sizeE] using h
 | succ k ih=>
  simp only [mAt]
  split
  ·exact mStep_len _ _ _ _ ih
  ·exact ih
theorem popE_code (st:ES):(popE st).2.2=2∨(popE st)=(st,-1,4):=by
 unfold popE
 split
 ·exact .inl rfl
 ·split
  ·exact .inl rfl
  ·split
   ·exact .inl rfl
   ·exact .inr rfl
theorem pushE_pair (most k:Nat) (st:ES):(pushE most k st).2.1= -1:=by unfold pushE;split<;>rfl
theorem step_code {most k:Nat} {o:Int} {st:ES} (h:(mStep most k o st).2.2≠2):(mStep most k o st).2.1= -1:=by
 by_cases h1:o=1
 ·subst h1;exact pushE_pair most k st
 ·by_cases h2:o=2
  ·subst h2;exact pushE_pair most k (flip st)
  ·by_cases h3:o=3
   ·subst h3;have e:mStep most k 3 st=popE st:=rfl;rw [e] at h ⊢
    rcases popE_code st with e | e
    ·exact absurd e h
    ·rw [e]
   ·by_cases h4:o=4
    ·subst h4;have e:mStep most k 4 st=back (popE (flip st)):=rfl;rw [e] at h ⊢
     rcases popE_code (flip st) with e | e
     ·exact absurd e h
     ·unfold back;rw [e]
    ·simp [mStep,h1,h2,h3,h4]
theorem pair_code {most below:Nat} {ops:List (Int×Int)} {k:Nat} (h:mCode most below ops k≠2):mPair most below ops k= -1:=step_code h
end Go.Rp.Rng
