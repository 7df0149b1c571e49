/- TopSafe, a part of its proof; no conditions. -/
import Derived.Handy
import Derived.Deep.OwnRows
import Derived.RegionTactic
import Derived.ChangeAlike
import Derived.Test.YtadgbhjpgnlmoaaGreatPk05
import Derived.Test.YtadgbhjpgnlmoaaGreatPk06
set_option linter.all false
namespace Go.Proofs.YtadgbhjpgnlmoaaGreat
open Go.RowKit Go.Rp
abbrev At (B:Nat) (w:World) (L:List Res):Prop:=Sep w (fun x=>B≤x) L
end Go.Proofs.YtadgbhjpgnlmoaaGreat
namespace Go.Proofs.YtadgbhjpgnlmoaaGreat.Skp
set_option maxRecDepth 100000
open Go.RowKit Go.Rp Go.Rp.Skp
abbrev ownI (A:Option Addr) (n c:Nat) (l:List Int):Res:=slRes 21 1 A n c (iv l)
theorem mostI_le (n:Int):mostI n≤1000:=by unfold mostI clamp;omega
section
variable {B:Nat} {w w':World} {p q m:Nat} {l:List It} {L:List Res}
theorem Sl.read {e sz n c:Nat} {A:Option Addr} {xs:List Value} {S:Nat→Prop} (h:(slRes e sz A n c xs).Q w S):Rd w S sz A n xs:=Sl.rd h
theorem new_s (hB:B≤w.heap.size) (h:At B w L) (n:Int):Calls Tryz.prog 62 #[Iv n] w fun e w'=>∃ p,e=.returned (Pz p)∧At B w' (skR p (mostI n) []::L)∧Below B w w':=
 (new_any n w).mono fun e w' ⟨he,hw⟩=>by
  have hb:Below w.heap.size w w':=by rw [hw];exact(Below.refl _ w).alloc (Nat.le_refl _) _
  exact⟨_,he,h.made (a:=skR w.heap.size (mostI n) []) (fun x hx=>Nat.le_trans hB hx) hb (by rw [hw];exact skAt_new w (mostI_le n)),hb.mono hB⟩
theorem insert_s (hB:B≤w.heap.size) (h:At B w (skR p m l::L)) (v n:Int):Calls Tryz.prog 269 #[Pz p,Iw v,Iv n] w fun e w'=>e=.returned (.bool (decide (l.length<m)))∧At B w' (skR p m (if l.length<m then insL l v (tallI n) else l)::L)∧Below B w w':=
 h.step hB fun S _ hS=>by
  by_cases hl:l.length<m
  ·simp only [hl,decide_true,if_true];exact insert_any hS hl v n
  ·simp only [hl,decide_false,if_false];refine(insert_full hS hl v n).mono fun e w' ⟨he,nq,hw⟩=>⟨he,?_,?_⟩
   ·subst hw;exact(stable_sk p m l).mono ((stable_sk p m l).keep hS (below_drewN (Below.refl _ w) nq)) grow_left
   ·subst hw;exact(Mod.refl _ w).drewN nq
theorem min_s (hB:B≤w.heap.size) (h:At B w (skR p m l::L)):Calls Tryz.prog 278 #[Pz p] w fun e w'=>e=.returned (.tuple #[Iw ((l.head?.map (·.1)).getD 0),.bool (!l.isEmpty)])∧At B w' (skR p m l.tail::L)∧Below B w w':=
 h.step hB fun S _ hS=>by
  rcases l with _ | ⟨⟨v,hh⟩,l⟩
  ·refine(min_empty hS).mono fun e w' ⟨he,hw⟩=>⟨he,?_,?_⟩
   ·subst hw;exact(stable_sk p m []).mono hS grow_left
   ·subst hw;exact Mod.refl _ _
  ·exact(min_any hS).mono fun e w' ⟨he,hs,hm⟩=>⟨he,(stable_sk p m l).mono hs grow_left,hm⟩
theorem sk_len (h:At B w (skR p m l::L)):l.length≤m∧m≤1000:=by
 obtain⟨T,e,hT⟩:=h.get;rw [← e,List.length_map];exact⟨hT.room,hT.most⟩
theorem len_s (h:At B w (skR p m l::L)) {n:Nat} (hn:l.length=n):Calls Tryz.prog 255 #[Pz p] w fun e w'=>e=.returned (Iv (n:Int))∧w=w':=by
 obtain⟨T,e,hT⟩:=h.get;subst hn;rw [← e,List.length_map];exact(len_any hT.links).mono fun _ _ ⟨he,hw⟩=>⟨he,hw.symm⟩
theorem most_s (h:At B w (skR p m l::L)):Calls Tryz.prog 265 #[Pz p] w fun e w'=>e=.returned (Iv (m:Int))∧w=w':=by
 obtain⟨T,e,hT⟩:=h.get;exact(most_any hT.links).mono fun _ _ ⟨he,hw⟩=>⟨he,hw.symm⟩
theorem items_s (hB:B≤w.heap.size) (h:At B w (skR p m l::L)) {n:Nat} {l':List Int} (hl:levL 0 l=l') (hn:l'.length=n):
  Calls Tryz.prog 254 #[Pz p] w fun e w'=>∃ A c,e=.returned (.slice A n c)∧At B w' (ownI A n c l'::skR p m l::L)∧Below B w w':=by
 subst hn hl;exact(items_any w p m _ l h.get).mono fun e w' ⟨A,c,he,hs,hb⟩=>⟨A,c,he,h.made (fun x hx=>Nat.le_trans hB hx) hb hs,hb.mono hB⟩
end
def upB:List Int→Bool
 | a::b::l=>decide (a≤b)&&upB (b::l)
 | _=>true
theorem upB_iff:∀ xs:List Int,upB xs=true↔∀ i,(h:i+1<xs.length)→xs[i]≤xs[i+1]
 | []=>by simp [upB]
 | [a]=>by simp [upB]
 | a::b::l=>by
  rw [upB,Bool.and_eq_true,decide_eq_true_iff,upB_iff (b::l)]
  constructor
  ·rintro ⟨h1,h2⟩ i h
   rcases i with _ | i
   ·exact h1
   ·exact h2 i (by simpa using h)
  ·intro h;exact⟨h 0 (by simp),fun i hi=>h (i+1) (by simpa using hi)⟩
theorem upB_false {xs:List Int} {i:Nat} (h:i+1<xs.length) (hlt:xs[i+1]<xs[i]):upB xs=false:=by
 rw [Bool.eq_false_iff];intro e;have:=(upB_iff xs).1 e i h;omega
theorem upB_le {xs:List Int} (h:upB xs=true) {i j:Nat} (hij:i≤j) (hj:j<xs.length):xs[i]≤xs[j]:=by
 induction j with
 | zero=>
      obtain rfl:i=0:=by omega
      exact Int.le_refl _
 | succ j ih=>
  rcases Nat.lt_or_ge i (j+1) with hlt | hge
  ·have h1:=ih (by omega) (by omega);have h2:=(upB_iff xs).1 h j hj;omega
  ·obtain rfl:i=j+1:=by omega
   exact Int.le_refl _
theorem nan_any (w:World) (a:Int):Calls Tryz.prog 184 #[Iw a] w fun e w'=>e=.returned (.bool false)∧∃ nq,w'=w.drewN nq:=by
 go_enter Tryz.func184,Tryz.ntmps184;go_wp2;go_ret;exact⟨by simp,0,rfl⟩
theorem less_any (w:World) (a b:Int):Calls Tryz.prog 281 #[Iw a,Iw b] w fun e w'=>e=.returned (.bool (decide (a<b)))∧∃ nq,w'=w.drewN nq:=by
 go_enter Tryz.func281,Tryz.ntmps281;go_wp2_with fail;refine(nan_any w a).mono ?_;rintro e w1 ⟨rfl,nq,rfl⟩;go_wp2_with fail;go_ret;exact⟨rfl,nq,rfl⟩
theorem sorted_any (w:World) (A:Option Addr) (n c:Nat) (R:Nat→Prop) (xs:List Int) (hr:Rd w R 1 A n (iv xs)) (hn:n≤100000):
  Calls Tryz.prog 273 #[.slice A n c] w fun e w'=>e=.returned (.bool (upB xs))∧∃ nq,w'=w.drewN nq:=by
 have hl:xs.length=n:=by simpa using hr.1
 have HL:=Lib.hid hl;clear hl;have hwn:IntKind.i64.wrap ((n:Int)-1)=(n:Int)-1:=IntWalk.i64_in _ (by omega);go_enter Tryz.func273,Tryz.ntmps273;go_wp2_with fail
 go_loopg [3] n (fun g k wr=>∃ (z:Int) (nq:Nat),g≤n∧z=(g:Int)-1∧k=Iv z∧wr=w.drewN nq∧Hid (∀ j,g-1≤j→(h:j+1<xs.length)→xs[j]≤xs[j+1]))
 case atStart=>exact⟨(n:Int)-1,0,Nat.le_refl _,rfl,rfl,rfl,Lib.hid fun j hj h=>by have:=HL.out;omega⟩
 case round=>
  obtain⟨z,nq,hg,hz,rfl,rfl,hup⟩:=hrel
  rcases gk with _ | _ | m
  ·obtain rfl:z= -1:=by omega
   have hup2:upB xs=true:=(upB_iff xs).2 fun i h=>hup.out i (by omega) h;have HU:=Lib.hid hup2;clear hz hup2;go_wp2_with fail;go_ret;rw [HU.out];exact⟨rfl,nq,rfl⟩
  ·obtain rfl:z=0:=by omega
   have hup2:upB xs=true:=(upB_iff xs).2 fun i h=>hup.out i (by omega) h;have HU:=Lib.hid hup2;clear hz hup2;go_wp2_with fail;go_ret;rw [HU.out];exact⟨rfl,nq,rfl⟩
  ·obtain rfl:z=(m:Int)+1:=by omega
   clear hz;obtain⟨b,off,rfl,_,hcells⟩:=hr.at (by omega);have hm1:m+1<xs.length:=by rw [HL.out];omega
   have g1:(w.drewN nq).cell? ⟨b,off+(m+1),none⟩=some (Iw xs[m+1]):=hcells (m+1) _ (by simp [hm1]);have g0:(w.drewN nq).cell? ⟨b,off+m,none⟩=some (Iw xs[m]):=hcells m _ (by simp [show m<xs.length by omega]);obtain⟨x1,hx1⟩:∃ x,xs[m+1]=x:=⟨_,rfl⟩;obtain⟨x0,hx0⟩:∃ x,xs[m]=x:=⟨_,rfl⟩;rw [hx1] at g1;rw [hx0] at g0;have HX1:=Lib.hid hx1;have HX0:=Lib.hid hx0;have HM:=Lib.hid hm1;clear hx1 hx0 hcells;obtain⟨wr,hwr⟩:∃ wr,w.drewN nq=wr:=⟨_,rfl⟩;rw [hwr] at g1 g0 ⊢;have HWR:=Lib.hid hwr;clear hwr;have hw1:IntKind.i64.wrap ((m:Int)+1-1)=(m:Int):=by rw [Int.add_sub_cancel];exact IntWalk.i64_in _ (by omega)
   have hmi:(m:Int)<(n:Int):=by omega
   have hw2:IntKind.i64.wrap (m:Int)=(m:Int):=IntWalk.i64_in _ (by omega);have hmn:m<n:=by omega
   have hm00:(0:Int)≤(m:Int):=by omega
   have hm01:(0:Int)≤(m:Int)+1:=by omega
   have hmi1:(m:Int)+1<(n:Int):=by omega
   go_wp2_with fail
   go_region_held3 (fun w'=>w'.cell? ⟨b,off+(m+1),none⟩=some (Iw x1)∧w'.cell? ⟨b,off+m,none⟩=some (Iw x0)) (first | (refine ⟨?_,?_⟩<;>assumption) | go_keep) ((go_at_call 281;refine(less_any _ x1 x0).mono ?_;rintro e w5 ⟨rfl,n5,rfl⟩))
   have hwn2:∃ n6,wr.drewN (1+n5)=w.drewN n6:=⟨nq+(1+n5),by rw [← HWR.out,World.drewN_drewN]⟩;have HWN:=Lib.hid hwn2;clear hwn2
   by_cases hx:x1<x0
   ·have hub:upB xs=false:=upB_false HM.out (by rw [HX1.out,HX0.out];exact hx);have HU:=Lib.hid hub;clear hub;go_wp2_with fail;go_ret;rw [HU.out];exact⟨rfl,HWN.out⟩
   ·have hge:x0≤x1:=by omega
    go_wp2_with fail;go_roundg (m+1)
    case measure=>omega
    case rel=>
     obtain⟨n6,e6⟩:=HWN.out;refine⟨(m:Int),n6,by omega,by omega,by go_num,e6,Lib.hid fun j hj h=>?_⟩
     by_cases hjm:j=m
     ·subst hjm;rw [HX1.out,HX0.out];exact hge
     ·exact hup.out j (by omega) h
theorem made_one (z:Value) (n:Nat):(madeCells #[z] n).toList=List.replicate n z:=by
 have:=made_flat #[z] (by simp) n;rw [show n*(#[z]:Array Value).size=n by simp] at this;rw [this];simp
theorem row_new {B:Nat} {w:World} {n:Nat} {L:List Res} (hB:B≤w.heap.size) (hn:n≤100000) {z:Value} (e:TypeId) (h:At B w L):At B (w.alloc (.cells (madeCells #[z] n) e)) (slRes e 1 (some ⟨w.heap.size,0,none⟩) n n (List.replicate n z)::L):=
 h.made (fun x hx=>Nat.le_trans hB hx) ((Below.refl _ w).alloc (Nat.le_refl _) _) (Sl.of_made w e 1 n _ _ (made_one z n) (by simp) (by unfold maxLen;omega) ⟨Nat.le_refl _,by simp⟩)
theorem stable_lk (s many m:Nat) (T:List Tw):Stable (fun w S=>Links w s many m T (linkOf s T) S):=
 ⟨fun h hS=>h.mono hS,fun h hm hd=>h.mod hm hd,fun h=>h.lt⟩
def lkR (s many m:Nat) (T:List Tw):Res:=⟨fun w S=>Links w s many m T (linkOf s T) S,stable_lk s many m T⟩
structure Good (s m:Nat) (T:List Tw):Prop where
 apart:Apart s T
 high:∀ t∈T,1≤t.2.2∧t.2.2≤8
 room:T.length≤m
 most:m≤1000
 sorted:T.Pairwise fun a b=>a.2.1≤b.2.1
section
variable {B:Nat} {w w':World} {s m N:Nat} {T:List Tw} {l:List It} {L:List Res}
theorem sk_open (h:At B w (skR s m l::L)):∃ T:List Tw,T.map (·.2)=l∧Good s m T∧At B w (lkR s T.length m T::L):=by
 obtain⟨S,h1,⟨T,e,hT⟩,h3⟩:=h;exact⟨T,e,⟨hT.apart,hT.high,hT.room,hT.most,hT.sorted⟩,S,h1,hT.links,h3⟩
theorem sk_shut_any {U:Nat→Prop} (hg:Good s m T) (h:Sep w U (lkR s T.length m T::L)):Sep w U (skR s m (T.map (·.2))::L):=by
 obtain⟨S,h1,h2,h3⟩:=h;exact⟨S,h1,⟨T,rfl,h2,hg.apart,hg.high,hg.room,hg.most,hg.sorted⟩,h3⟩
theorem Good.put {C D:List Tw} {v:Int} {h b:Nat} (hk:Good s m (C++D)) (hC:∀ t∈C,t.2.1≤v) (hD:∀ t∈D,v<t.2.1) (hf:(C++D).length<m) (h1:1≤h) (h8:h≤8)
  (ha:Apart s (C++(b,v,h)::D)):Good s m (C++(b,v,h)::D):=by
 have hlen:(C++(b,v,h)::D).length=(C++D).length+1:=by simp;omega
 refine⟨ha,fun t ht=>?_,by omega,hk.most,?_⟩
 ·rcases List.mem_append.1 ht with ht | ht
  ·exact hk.high t (List.mem_append_left _ ht)
  ·rcases List.mem_cons.1 ht with rfl | ht
   ·exact⟨h1,h8⟩
   ·exact hk.high t (List.mem_append_right _ ht)
 ·obtain⟨p1,p2,p3⟩:=List.pairwise_append.1 hk.sorted;refine List.pairwise_append.2 ⟨p1,List.pairwise_cons.2 ⟨fun t ht=>Int.le_of_lt (hD t ht),p2⟩,fun x hx y hy=>?_⟩
  rcases List.mem_cons.1 hy with rfl | hy
  ·exact hC x hx
  ·exact p3 x hx y hy
theorem split_from {P Q:List Tw} (hs:(P++Q).Pairwise fun a b=>a.2.1≤b.2.1) {v:Int} (hP:∀ t∈P,t.2.1≤v):∃ C D:List Tw,Q=C++D∧(∀ t∈P++C,t.2.1≤v)∧(∀ t∈D,v<t.2.1)∧∀ b h:Nat,(P++C++(b,v,h)::D).map (·.2)=insL ((P++Q).map (·.2)) v h:=by
 have hq:=(List.pairwise_append.1 hs).2.1;refine⟨_,_,(List.takeWhile_append_dropWhile (p:=fun t=>decide (t.2.1≤v)) (l:=Q)).symm,fun t ht=>?_,drop_gt hq,fun b h=>?_⟩
 ·rcases List.mem_append.1 ht with ht | ht
  ·exact hP t ht
  ·exact take_le t ht
 ·have:=ins_map (P++Q) v b h;rw [← this];have hall:∀ t∈P,decide (t.2.1≤v)=true:=fun t ht=>decide_eq_true (hP t ht);rw [List.takeWhile_append_of_pos hall,List.dropWhile_append_of_pos hall]
theorem begin_s (h:At B w (lkR s N m T::L)) (hB:B≤w.heap.size):Calls Tryz.prog 274 #[Pz s] w fun e w'=>e=.returned (.agg (linkC fun j=>some (lastT j s [])))∧At B w' (lkR s N m T::L)∧Below B w w':=
 (begin_any (show Links w s N m T (linkOf s T) _ from h.get)).mono fun _ _ ⟨he,hb⟩=>⟨he,h.keep hb,hb.mono hB⟩
theorem on_s {P C D:List Tw} (v:Int) (h:At B w (lkR s N m (P++C++D)::L)) (hB:B≤w.heap.size) (ha:Apart s (P++C++D)) (hC:∀ t∈P++C,t.2.1≤v) (hD:∀ t∈D,v<t.2.1):
  Calls Tryz.prog 275 #[.agg (linkC fun k=>some (lastT k s P)),Iw v] w fun e w'=>e=.returned (.agg (linkC fun k=>some (lastT k s (P++C))))∧At B w' (lkR s N m (P++C++D)::L)∧Below B w w':=
 (on_any v (show Links w s N m (P++C++D) (linkOf s (P++C++D)) _ from h.get) ha hC hD).mono fun _ _ ⟨he,hb⟩=>⟨he,h.keep hb,hb.mono hB⟩
theorem put_s {A R:List Tw} (v:Int) (hh:Nat) (h:At B w (lkR s N m (A++R)::L)) (hB:B≤w.heap.size) (ha:Apart s (A++R)) (h8:hh≤8):
  Calls Tryz.prog 276 #[.agg (linkC fun k=>some (lastT k s A)),Pz w.heap.size] (w.alloc (.cells (towC v hh fun _=>none) 181)) fun e w'=>e=.returned (.agg (linkC fun k=>some (lastT k s (A++[(w.heap.size,v,hh)]))))∧
   At B w' (lkR s N m (A++(w.heap.size,v,hh)::R)::L)∧Apart s (A++(w.heap.size,v,hh)::R)∧Below B w w':=by
 obtain⟨S,h1,h2,h3⟩:=h.front (a':=lkR s N m (A++(w.heap.size,v,hh)::R)) fun x hx=>Nat.le_trans hB hx;exact(put_new v hh h1 ha h8).mono fun e w' ⟨he,hl,ha2,hm⟩=>⟨he,h3 w' hl hm,ha2,hm.below hB fun x hx=>(h2 x hx).1⟩
theorem lk_many (h:At B w (lkR s N m T::L)) (hB:B≤w.heap.size):w.cell? ⟨s,10,none⟩=some (Iv (N:Int))∧w.cell? ⟨s,11,none⟩=some (Iv (m:Int))∧w.frozen? ⟨s,10,none⟩=false∧
  ∀ k:Nat,At B (w.setCell ⟨s,10,none⟩ (Iv (k:Int))) (lkR s k m T::L)∧Below B w (w.setCell ⟨s,10,none⟩ (Iv (k:Int))):=by
 have hg:Links w s N m T (linkOf s T) _:=h.get;obtain⟨g1,g2,g3⟩:=hg.sizes;refine⟨g1,g2,g3,fun k=>?_⟩;obtain⟨S,h1,h2,h3⟩:=h.front (a':=lkR s k m T) fun x hx=>Nat.le_trans hB hx;have h1':Links w s N m T (linkOf s T) S:=h1;have hm:=(Mod.refl S w).setCell (p:=⟨s,10,none⟩) (.inl h1'.hs) (Iv (k:Int));exact⟨h3 _ ((h1'.setMany k).mono grow_left) hm,hm.below hB fun x hx=>(h2 x hx).1⟩
theorem blk_put {b:Nat} {t:TypeId} {cs cs':Array Value} (h:At B w (blkR b t cs::L)) (hB:B≤w.heap.size) (hb:Blk w' b t cs') (hm:Mod (fun x=>x=b) w w'):At B w' (blkR b t cs'::L)∧Below B w w':=by
 obtain⟨S,h1,h2,h3⟩:=h.front (a':=blkR b t cs') fun x hx=>Nat.le_trans hB hx;have hm':=hm.mono (T:=S) (fun x hx=>hx▸h1.2);exact⟨h3 w' ⟨hb,.inl h1.2⟩ hm',hm'.below hB fun x hx=>(h2 x hx).1⟩
end
def insB (m:Nat) (L:List It) (v:Int) (h:Nat):List It:=if L.length<m then insL L v h else L
def batN (m:Nat) (vs hs:List Int) (L:List It):Nat→List It
 | 0=>L
 | k+1=>insB m (batN m vs hs L k) (vs.getD k 0) (tallI (hs.getD k 1))
theorem insB_length (m:Nat) (L:List It) (v:Int) (h:Nat) (hL:L.length≤m):(insB m L v h).length=min m (L.length+1):=by
 unfold insB
 split
 ·rw [insL_length];omega
 ·omega
theorem batN_length (m:Nat) (vs hs:List Int) (L:List It) (hL:L.length≤m) (k:Nat):(batN m vs hs L k).length=min m (L.length+k):=by
 induction k with
 | zero=>simp [batN];omega
 | succ k ih=>rw [batN,insB_length _ _ _ _ (by omega),ih];omega
theorem batN_full (m:Nat) (vs hs:List Int) (L:List It) (k:Nat) (hf:¬ (batN m vs hs L k).length<m) (j:Nat):batN m vs hs L (k+j)=batN m vs hs L k:=by
 induction j with
 | zero=>rfl
 | succ j ih=>rw [← Nat.add_assoc,batN,ih];unfold insB;rw [if_neg hf]
def toldB (m n0:Nat) (i:Nat):Value:=.bool (decide (n0+i<m))
def batL (m:Nat) (vs hs:List Int) (L:List It):List It:=if upB vs then batN m vs hs L vs.length else L
def batT (m:Nat) (vs:List Int) (L:List It):List Value:=(List.range vs.length).map fun i=>.bool (upB vs&&decide (L.length+i<m))
theorem batT_up {m:Nat} {vs:List Int} {L:List It} {n:Nat} (hn:vs.length=n) (h:upB vs=true):batT m vs L=fillL n n (toldB m L.length) (.bool false):=by
 rw [fillL_full,←hn];unfold batT toldB;simp [h]
theorem batT_no {m:Nat} {vs:List Int} {L:List It} {n:Nat} (hn:vs.length=n) (h:upB vs=false):batT m vs L=List.replicate n (.bool false):=by
 rw [← hn];unfold batT;simp only [h,Bool.false_and];rw [List.map_const',List.length_range]
theorem fillL_stop {α:Type} (n k:Nat) (f:Nat→α) (d:α) (h:∀ j,k≤j→f j=d):fillL n n f d=fillL n k f d:=by
 apply List.ext_getElem
 ·simp [fillL]
 ·intro i h1 h2;simp only [fillL_length] at h1;rw [fillL_get _ _ _ _ _ h1,fillL_get _ _ _ _ _ h1,if_pos h1]
  by_cases hk:i<k
  ·rw [if_pos hk]
  ·rw [if_neg hk,h i (by omega)]
theorem sep_dropL {w:World} {U:Nat→Prop} {a l:List Res} (h:Sep w U (a++l)):Sep w U l:=by
 induction a generalizing U with
 | nil=>exact h
 | cons x a ih=>
  have h':Sep w U (x::(a++l)):=h;exact ih h'.drop
def Reads (B:Nat) (w:World) (L:List Res) (sz:Nat) (A:Option Addr) (n:Nat) (xs:List Value):Prop:=∀ (w':World) (a:List Res),At B w' (a++L)→Below B w w'→∃ R:Nat→Prop,Rd w' R sz A n xs
theorem Reads.own {B:Nat} {w:World} {L:List Res} {e sz n c:Nat} {A:Option Addr} {xs:List Value} (a:List Res):Reads B w (a++slRes e sz A n c xs::L) sz A n xs:=fun w' b h _=>by
 have h1:At B w' ((b++a)++slRes e sz A n c xs::L):=by simpa using h
 exact⟨_,Sl.read (sep_dropL h1).get⟩
section
variable {B:Nat} {w w':World} {s m N:Nat} {T:List Tw} {l:List It} {L:List Res}
set_option maxRecDepth 100000 in
set_option maxHeartbeats 2000000 in
theorem batch_s (hB:B≤w.heap.size) (h:At B w (skR s m l::L)) {A1 A2:Option Addr} {n1 c1 n2 c2:Nat} {vs hs:List Int} (hv:Reads B w L 1 A1 n1 (iv vs)) (hh:Reads B w L 1 A2 n2 (hs.map (Value.int .i64))) (hl1:vs.length=n1) (hl2:hs.length=n2) (hn1:n1≤100000) (hn2:n2≤100000):
  Calls Tryz.prog 267 #[Pz s,.slice A1 n1 c1,.slice A2 n2 c2] w fun e w'=>∃ g,e=.returned (.slice (some ⟨g,0,none⟩) n1 n1)∧At B w' (slRes 4 1 (some ⟨g,0,none⟩) n1 n1 (batT m vs l)::skR s m (batL m vs hs l)::L)∧Below B w w':=by
 have hmk:=run_make_row' (P:=Tryz.prog) 184 4 (.bool false) 1 Tryz.underlying184 (by kernel_rfl) rfl .i64 .i64 n1 (by omega) (by omega);have s1:=row_new hB hn1 (z:=.bool false) 4 h;have b1:Below B w (w.alloc (.cells (madeCells #[.bool false] n1) 4)):=(Below.refl _ w).alloc hB _;have hz1:(w.alloc (.cells (madeCells #[.bool false] n1) 4)).heap.size=w.heap.size+1:=by simp
 obtain⟨g,hg⟩:∃ g,w.heap.size=g:=⟨_,rfl⟩;obtain⟨w1,hw1⟩:∃ w1,w.alloc (.cells (madeCells #[.bool false] n1) 4)=w1:=⟨_,rfl⟩;rw [hw1] at s1 b1;rw [hg] at s1;obtain⟨R1,hv1⟩:=hv w1 [_,_] s1 b1;have HG:=Lib.hid hg;have HW1:=Lib.hid hw1;have HL1:=Lib.hid hl1;have HL2:=Lib.hid hl2;clear hl1 hl2;go_enter Tryz.func267,Tryz.ntmps267;go_wp2_with fail;clear hmk hw1 hg;refine(sorted_any w1 A1 n1 c1 R1 vs hv1 hn1).mono ?_;rintro e w2 ⟨rfl,nq,rfl⟩;have s2:=s1.drewN nq;have b2:=below_drewN b1 nq;obtain⟨w2,hw2⟩:∃ w2,w1.drewN nq=w2:=⟨_,rfl⟩;rw [hw2] at s2 b2 ⊢;clear hw2 s1 b1 hv1
 rcases hup:upB vs with _ | _
 ·have HU:=Lib.hid hup;clear hup;go_wp2_with fail;go_ret;refine⟨g,rfl,?_,b2⟩;rw [batT_no HL1.out HU.out,show batL m vs hs l=l by unfold batL;rw [HU.out];rfl];exact s2
 ·have HU:=Lib.hid hup;clear hup;obtain⟨T,hT,hgood,s2⟩:=sk_open s2.rot2;go_wp2_with fail;refine(begin_s s2 (Nat.le_trans hB b2.size)).mono ?_;rintro e w3 ⟨rfl,s3,b3⟩;have b3:=b2.trans b3;clear s2 b2;have s4:=s3.alloc (Nat.le_trans hB b3.size) (linkC fun _=>none) 343;have b4:=b3.alloc (Nat.le_trans hB b3.size) (.cells (linkC fun _=>none) 343);go_wp2_with (refine wpList_store_path rfl _ _ rfl rfl rfl s4.blk rfl ?_;intro w5 h5 hm5;obtain⟨s5,b5⟩:=blk_put s4 (Nat.le_trans hB b4.size) h5 hm5;have b5:=b4.trans b5);obtain⟨pb,hpb⟩:∃ pb,w3.heap.size=pb:=⟨_,rfl⟩;rw [hpb] at s5 ⊢;clear hpb s3 b3 s4 b4 h5 hm5
  go_loopg [27] n1 (fun gg k wr=>∃ (i:Nat) (P Q:List Tw),i+gg=n1∧k=Iv (i:Int)∧Hid ((P++Q).map (·.2)=batN m vs hs l i)∧Good s m (P++Q)∧Hid (∀ t∈P,∀ j,i≤j→(hj:j<vs.length)→t.2.1≤vs[j])∧At B wr (lkR s (P++Q).length m (P++Q)::slRes 4 1 (some ⟨g,0,none⟩) n1 n1 (fillL n1 i (toldB m l.length) (.bool false))::blkR pb 343 (linkC fun j=>some (lastT j s P))::L)∧Below B w wr)
  case atStart=>exact⟨0,[],T,by omega,rfl,Lib.hid (by simpa [batN] using hT),by simpa using hgood,Lib.hid (by simp),by rw [fillL_zero];exact s5.rot2.cons fun _=>Sep.rot2,b5⟩
  case round=>
   clear s5 b5 hgood hT;obtain⟨i,P,Q,hi,rfl,hT,hgood,hle,sr,br⟩:=hrel;have hlen:=congrArg List.length hT.out;have hl0:l.length≤m:=(sk_len h).1;rw [List.length_map,batN_length m vs hs l hl0] at hlen;obtain⟨N,hN⟩:∃ N,(P++Q).length=N:=⟨_,rfl⟩;obtain⟨l0,hl0'⟩:∃ l0,l.length=l0:=⟨_,rfl⟩;rw [hN] at hlen sr;rw [hl0'] at hlen sr hl0;have HN:=Lib.hid hN;have HL0:=Lib.hid hl0';clear hN hl0';have HLEN:=Lib.hid hlen;have HM:=Lib.hid hgood.most;have HHL:=Lib.hid hl0;clear hlen hl0
   by_cases hlt:i<n1
   ·obtain⟨R1,hv1⟩:=hv wr [_,_,_] sr br;obtain⟨b,off,rfl,_,hcells⟩:=hv1.at (by omega);have hix:i<vs.length:=by rw [HL1.out];exact hlt
    have hx:wr.cell? ⟨b,off+i,none⟩=some (Iw vs[i]):=hcells i _ (by simp [hix]);obtain⟨x,hxi⟩:∃ x,vs[i]=x:=⟨_,rfl⟩;rw [hxi] at hx;have HX:=Lib.hid hxi;have HIX:=Lib.hid hix;clear hcells hxi hv1;obtain⟨g1,g2,g3,_⟩:=lk_many sr (Nat.le_trans hB br.size);have g1':wr.drew.cell? ⟨s,10,none⟩=_:=g1;have g2':wr.drew.cell? ⟨s,11,none⟩=_:=g2
    by_cases hroom:N<m
    ·have hd:decide (m≤N)=false:=decide_eq_false (by omega);have HROOM:=Lib.hid hroom;clear hroom;obtain⟨C,D,hQ,hC,hD,hI⟩:=split_from hgood.sorted (v:=x) fun t ht=>by have:=hle.out t ht i (Nat.le_refl _) HIX.out;rw [HX.out] at this;exact this
     subst hQ;rw [← List.append_assoc] at sr hgood;have s2:=sr.drew;have b2:=br.drew;have HC:=Lib.hid hC;have HD:=Lib.hid hD;have HI:=Lib.hid hI;clear sr br hC hD hI
     by_cases hi2:i<n2
     ·obtain⟨R2,hh1⟩:=hh wr.drew [_,_,_] s2 b2;obtain⟨b',off',rfl,_,hcells⟩:=hh1.at (by omega);have hiy:i<hs.length:=by rw [HL2.out];exact hi2
      have hy:wr.drew.cell? ⟨b',off'+i,none⟩=some (Iv hs[i]):=hcells i _ (by simp [hiy]);have hgd:hs.getD i 1=hs[i]:=by rw [List.getD_eq_getElem?_getD,List.getElem?_eq_getElem hiy];rfl
      obtain⟨y,hyi⟩:∃ y,hs[i]=y:=⟨_,rfl⟩;rw [hyi] at hy hgd;have hy':wr.cell? ⟨b',off'+i,none⟩=some (Iv y):=hy;have HGD:=Lib.hid hgd;clear hcells hyi hh1 hgd;have hlo:=tallI_le (y);obtain⟨th,hth⟩:∃ th,tallI (y)=th:=⟨_,rfl⟩;rw [hth] at hlo;have HTH:=Lib.hid hth;have HLO:=Lib.hid hlo;clear hth hlo;go_wp2_with fail
      go_region
      go_wp2_with (refine wpList_load_path rfl _ rfl rfl s2.rot3.blk ?_);refine(on_s x s2 (Nat.le_trans hB b2.size) hgood.apart HC.out HD.out).mono ?_;rintro e w3 ⟨rfl,s3,b3⟩;have b3:=b2.trans b3;clear s2 b2 g1 g2 g1' g2' hx;go_wp2_with fail;refine(tall_any x _ w3).mono ?_;rintro e w4 ⟨rfl,rfl⟩;go_wp2_with fail;rw [HTH.out];refine(put_s x th s3 (Nat.le_trans hB b3.size) hgood.apart HLO.out.2).mono ?_;rintro e w5 ⟨rfl,s5,ha5,b5⟩;have b5:=b3.trans b5;clear s3 b3;obtain⟨tb,htb⟩:∃ tb,w3.heap.size=tb:=⟨_,rfl⟩;rw [htb] at s5 ha5 ⊢;clear htb;have s6:=s5.rot3;go_wp2_with (refine wpList_store_path rfl _ _ rfl rfl rfl s6.blk rfl ?_;intro w7 h7 hm7;obtain⟨s7,b7⟩:=blk_put s6 (Nat.le_trans hB b5.size) h7 hm7;have b7:=b5.trans b7;have s7:=s7.rot2;obtain⟨g1,g2,g3,hmany⟩:=lk_many s7 (Nat.le_trans hB b7.size);have hN1:N+1≤1000:=(by have:=HROOM.out;have:=HM.out;omega);obtain⟨s8,b8⟩:=hmany (N+1);have b8:=b7.trans b8;rw [show ((N+1:Nat):Int)=(N:Int)+1 by omega] at s8 b8;have s8:=s8.rot3;obtain⟨t1,t2,t3⟩:=s8.slat (Nat.le_trans hB b8.size) i (.bool false) (by rw [List.getElem?_eq_getElem (by rw [fillL_length];exact hlt),fillL_get _ _ _ _ _ hlt,if_neg (by omega)]);obtain⟨s9,b9⟩:=t3 (.bool true);have b9:=b8.trans b9;rw [fillL_succ n1 i (toldB m l0) (.bool false) (.bool true) (by unfold toldB;rw [decide_eq_true (by have:=HROOM.out;have:=HLEN.out;omega)])] at s9;have S9:=Lib.hid s9;have B9:=Lib.hid b9;clear s9 b9 t3 s8 b8 hmany s7 s6 s5 b7 b5)
      go_roundg (n1-i-1)
      case measure=>omega
      case rel=>
       have hT2:P++C++[(tb,x,th)]++D=P++C++(tb,x,th)::D:=by simp
       have hgood2:Good s m (P++C++(tb,x,th)::D):=hgood.put HC.out HD.out (by have:=HN.out;rw [← List.append_assoc] at this;rw [this];exact HROOM.out) HLO.out.1 HLO.out.2 ha5;have hlen2:(P++C++[(tb,x,th)]++D).length=N+1:=by have:=HN.out;simp at this ⊢;omega
       refine⟨i+1,P++C++[(tb,x,th)],D,by omega,by go_num,Lib.hid ?_,by rw [hT2];exact hgood2,Lib.hid ?_,?_,B9.out⟩
       ·rw [hT2,HI.out,batN,←hT.out];unfold insB;rw [if_pos (by rw [List.length_map,HN.out];exact HROOM.out),HGD.out,HTH.out,List.getD_eq_getElem?_getD,List.getElem?_eq_getElem HIX.out,HX.out]
        rfl
       ·intro t ht j hj hjl;have hxj:x≤vs[j]:=by rw [← HX.out];exact upB_le HU.out (by omega) hjl
        rcases List.mem_append.1 ht with ht | ht
        ·have:=HC.out t ht;omega
        ·rw [List.mem_singleton.1 ht];exact hxj
       ·rw [hlen2,hT2,HL0.out,List.append_assoc P C [(tb,x,th)]];exact S9.out.rot2
     ·have hgd:hs.getD i 1=1:=by rw [List.getD_eq_getElem?_getD,List.getElem?_eq_none (by rw [HL2.out];omega)];rfl
      have HGD:=Lib.hid hgd;clear hgd;have hlo:=tallI_le (1);obtain⟨th,hth⟩:∃ th,tallI (1)=th:=⟨_,rfl⟩;rw [hth] at hlo;have HTH:=Lib.hid hth;have HLO:=Lib.hid hlo;clear hth hlo;go_wp2_with fail
      go_region
      go_wp2_with (refine wpList_load_path rfl _ rfl rfl s2.rot3.blk ?_);refine(on_s x s2 (Nat.le_trans hB b2.size) hgood.apart HC.out HD.out).mono ?_;rintro e w3 ⟨rfl,s3,b3⟩;have b3:=b2.trans b3;clear s2 b2 g1 g2 g1' g2' hx;go_wp2_with fail;refine(tall_any x _ w3).mono ?_;rintro e w4 ⟨rfl,rfl⟩;go_wp2_with fail;rw [HTH.out];refine(put_s x th s3 (Nat.le_trans hB b3.size) hgood.apart HLO.out.2).mono ?_;rintro e w5 ⟨rfl,s5,ha5,b5⟩;have b5:=b3.trans b5;clear s3 b3;obtain⟨tb,htb⟩:∃ tb,w3.heap.size=tb:=⟨_,rfl⟩;rw [htb] at s5 ha5 ⊢;clear htb;have s6:=s5.rot3;go_wp2_with (refine wpList_store_path rfl _ _ rfl rfl rfl s6.blk rfl ?_;intro w7 h7 hm7;obtain⟨s7,b7⟩:=blk_put s6 (Nat.le_trans hB b5.size) h7 hm7;have b7:=b5.trans b7;have s7:=s7.rot2;obtain⟨g1,g2,g3,hmany⟩:=lk_many s7 (Nat.le_trans hB b7.size);have hN1:N+1≤1000:=(by have:=HROOM.out;have:=HM.out;omega);obtain⟨s8,b8⟩:=hmany (N+1);have b8:=b7.trans b8;rw [show ((N+1:Nat):Int)=(N:Int)+1 by omega] at s8 b8;have s8:=s8.rot3;obtain⟨t1,t2,t3⟩:=s8.slat (Nat.le_trans hB b8.size) i (.bool false) (by rw [List.getElem?_eq_getElem (by rw [fillL_length];exact hlt),fillL_get _ _ _ _ _ hlt,if_neg (by omega)]);obtain⟨s9,b9⟩:=t3 (.bool true);have b9:=b8.trans b9;rw [fillL_succ n1 i (toldB m l0) (.bool false) (.bool true) (by unfold toldB;rw [decide_eq_true (by have:=HROOM.out;have:=HLEN.out;omega)])] at s9;have S9:=Lib.hid s9;have B9:=Lib.hid b9;clear s9 b9 t3 s8 b8 hmany s7 s6 s5 b7 b5)
      go_roundg (n1-i-1)
      case measure=>omega
      case rel=>
       have hT2:P++C++[(tb,x,th)]++D=P++C++(tb,x,th)::D:=by simp
       have hgood2:Good s m (P++C++(tb,x,th)::D):=hgood.put HC.out HD.out (by have:=HN.out;rw [← List.append_assoc] at this;rw [this];exact HROOM.out) HLO.out.1 HLO.out.2 ha5;have hlen2:(P++C++[(tb,x,th)]++D).length=N+1:=by have:=HN.out;simp at this ⊢;omega
       refine⟨i+1,P++C++[(tb,x,th)],D,by omega,by go_num,Lib.hid ?_,by rw [hT2];exact hgood2,Lib.hid ?_,?_,B9.out⟩
       ·rw [hT2,HI.out,batN,←hT.out];unfold insB;rw [if_pos (by rw [List.length_map,HN.out];exact HROOM.out),HGD.out,HTH.out,List.getD_eq_getElem?_getD,List.getElem?_eq_getElem HIX.out,HX.out]
        rfl
       ·intro t ht j hj hjl;have hxj:x≤vs[j]:=by rw [← HX.out];exact upB_le HU.out (by omega) hjl
        rcases List.mem_append.1 ht with ht | ht
        ·have:=HC.out t ht;omega
        ·rw [List.mem_singleton.1 ht];exact hxj
       ·rw [hlen2,hT2,HL0.out,List.append_assoc P C [(tb,x,th)]];exact S9.out.rot2
    ·have hd:decide (m≤N)=true:=decide_eq_true (by omega);have HROOM:=Lib.hid hroom;clear hroom;have s2:=sr.drew;have b2:=br.drew;clear sr br;go_wp2_with fail
     go_region
     go_wp2_with fail;go_ret;refine⟨g,rfl,?_,b2⟩;have hfull:¬ (batN m vs hs l i).length<m:=by rw [← hT.out,List.length_map,HN.out];exact HROOM.out
     have hle0:m≤l0+i:=by have:=HROOM.out;have:=HLEN.out;omega
     obtain⟨d,hd2⟩:∃ d,vs.length=i+d:=⟨vs.length-i,by have:=HIX.out;omega⟩
     have hbl:batL m vs hs l=(P++Q).map (·.2):=by
      unfold batL;rw [HU.out,if_pos rfl,hd2,batN_full m vs hs l i hfull d,←hT.out]
     rw [batT_up HL1.out HU.out,HL0.out,fillL_stop n1 i _ _ fun j hj=>by unfold toldB;rw [decide_eq_false (by omega)],hbl];have s3:=s2.rot2.cons fun _ h=>h.cons fun _ h=>Sep.drop h;rw [← HN.out] at s3;exact s3.cons fun _ h=>sk_shut_any hgood h
   ·obtain rfl:i=n1:=by omega
    go_wp2_with fail;go_ret;refine⟨g,rfl,?_,br⟩
    have hbl:batL m vs hs l=(P++Q).map (·.2):=by
     unfold batL;rw [HU.out,if_pos rfl,HL1.out,←hT.out]
    rw [batT_up HL1.out HU.out,HL0.out,hbl];have s3:=sr.rot2.cons fun _ h=>h.cons fun _ h=>Sep.drop h;rw [← HN.out] at s3;exact s3.cons fun _ h=>sk_shut_any hgood h
end
end Go.Proofs.YtadgbhjpgnlmoaaGreat.Skp
namespace Go.Proofs.YtadgbhjpgnlmoaaGreat.Con
set_option maxRecDepth 100000
open Go.RowKit Go.Rp
theorem CoinAt.mono {w:World} {p:Nat} {S T:Nat→Prop} {bits:List Bool} (h:CoinAt w p S bits) (hS:∀ b,S b→T b):CoinAt w p T bits:=by
 obtain⟨A,c,hb,hs,hp,h20⟩:=h;exact⟨A,c,hb,hs.mono hS,hS p hp,h20⟩
theorem CoinAt.mod {w w':World} {p:Nat} {S T:Nat→Prop} {bits:List Bool} (h:CoinAt w p S bits) (hm:Mod T w w') (hd:∀ b,S b→¬ T b):CoinAt w' p S bits:=by
 obtain⟨A,c,hb,hs,hp,h20⟩:=h;exact⟨A,c,hb.mod hm (hd p hp),hs.mod hm hd,hp,h20⟩
theorem CoinAt.lt {w:World} {p:Nat} {S:Nat→Prop} {bits:List Bool} (h:CoinAt w p S bits):CoinAt w p (fun b=>S b∧b<w.heap.size) bits:=by
 obtain⟨A,c,hb,hs,hp,h20⟩:=h;exact⟨A,c,hb,hs.lt,⟨hp,hb.lt⟩,h20⟩
section
variable {B:Nat} {w:World} {p:Nat} {bits:List Bool}
end
theorem stable_coin (p:Nat) (bits:List Bool):Stable (fun w S=>CoinAt w p S bits):=⟨fun h=>h.mono,fun h=>h.mod,fun h=>h.lt⟩
def coinR (p:Nat) (bits:List Bool):Res:=⟨fun w S=>CoinAt w p S bits,stable_coin p bits⟩
abbrev bytesR (A:Option Addr) (n:Nat) (bs:List Nat):Res:=rdRes 1 (by omega) A n (bs.map fun(x:Nat)=>Ub (x:Int))
section
variable {B:Nat} {w w':World} {p:Nat} {bits:List Bool} {L:List Res}
theorem new_s (hB:B≤w.heap.size) (h:At B w L):Calls Tryz.prog 63 #[] w fun e w'=>e=.returned (Pz w.heap.size)∧At B w' (coinR w.heap.size []::L)∧Below B w w':=
 (new_any w).mono fun e w' ⟨he,hw⟩=>by
  subst hw;have hb:Below w.heap.size w (w.alloc (.cells #[.slice none 0 0] 186)):=(Below.refl _ w).alloc (Nat.le_refl _) _;exact⟨he,h.made (fun x hx=>Nat.le_trans hB hx) hb ⟨none,0,Blk.new _ _ _,Sl.nil _ _ _ _,⟨Nat.le_refl _,by simp⟩,by simp⟩,hb.mono hB⟩
theorem height_s (hB:B≤w.heap.size) (h:At B w (coinR p bits::L)) {n:Nat} {l:List Bool} (hn:hgt 7 bits=(n,l)):Calls Tryz.prog 266 #[Pz p] w fun e w'=>e=.returned (Iv (n:Int))∧At B w' (coinR p l::L)∧Below B w w':=
 h.step (a':=coinR p l) hB fun S _ hS=>(height_any w p S bits hS).mono fun e w' ⟨he,hc,hm⟩=>by rw [hn] at he hc;exact⟨he,CoinAt.mono hc grow_left,hm⟩
theorem feed_s (hB:B≤w.heap.size) {A:Option Addr} {n c:Nat} {bs:List Nat} (h:At B w (coinR p bits::bytesR A n bs::L)) (hn:bs.length=n) (h8:∀ x∈bs,x<256) (hlen:n≤100000):
  Calls Tryz.prog 88 #[Pz p,.slice A n c] w fun e w'=>e=.returned (.tuple #[])∧At B w' (coinR p (feed bits bs)::bytesR A n bs::L)∧Below B w w':=by
 subst hn;exact h.step2 (a':=coinR p (feed bits bs)) hB fun S R hR hS hr=>feed_any w p S bits hS A c bs R hr hR h8 hlen
theorem lit_s (hB:B≤w.heap.size) (h:At B w L) (b:Nat):At B (w.alloc (.cells #[Ub (b:Int)] 5)) (bytesR (some ⟨w.heap.size,0,none⟩) 1 [b]::L):=
 h.made (fun x hx=>Nat.le_trans hB hx) ((Below.refl _ w).alloc (Nat.le_refl _) _) ((Rd.lit (sz:=1) w _ #[Ub (b:Int)] 1 rfl).more fun x hx=>⟨by omega,by simp;omega⟩)
end
end Go.Proofs.YtadgbhjpgnlmoaaGreat.Con
namespace Go.Proofs.YtadgbhjpgnlmoaaGreat.Stk
set_option maxRecDepth 100000
open Go.RowKit Go.Rp Go.Rp.Stk
def stk (p most:Nat) (l:List Int):Res:=⟨fun w S=>StackAt w p S most l,stable_stack p most l⟩
section
variable {B:Nat} {w w':World} {p most:Nat} {l:List Int} {L:List Res}
theorem new_s (hB:B≤w.heap.size) (h:At B w L) (m:Int):Calls Tryz.prog 58 #[Iv m] w fun e w'=>e=.returned (Pz w.heap.size)∧At B w' (stk w.heap.size (cut m) []::L)∧Below B w w':=
 (new_any w m).mono fun e w' ⟨he,hw⟩=>by
  subst hw;have hb:Below w.heap.size w (w.alloc (.cells #[.slice none 0 0,Iv (cut m:Int)] 173)):=(Below.refl _ w).alloc (Nat.le_refl _) _;refine⟨he,h.made (fun x hx=>Nat.le_trans hB hx) hb ⟨none,0,Blk.new _ _ _,Sl.nil _ _ _ _,⟨Nat.le_refl _,by simp⟩,by simp,by unfold cut;omega⟩,hb.mono hB⟩
theorem push_s (hB:B≤w.heap.size) (h:At B w (stk p most l::L)) (x:Int):Calls Tryz.prog 218 #[Pz p,Iw x] w fun e w'=>e=.returned (.bool (decide (l.length<most)))∧At B w' (stk p most (if l.length<most then l++[x] else l)::L)∧Below B w w':=
 h.step hB fun S _ hS=>by
  by_cases hl:l.length<most
  ·simp only [hl,decide_true,if_true];exact push_some w p S most l x hS hl
  ·simp only [hl,decide_false,if_false];exact step_same (stable_stack p most l) hS (push_full w p S most l x hS (by have:=StackAt.len hS;omega))
theorem push_ok (hB:B≤w.heap.size) (h:At B w (stk p most l::L)) (x:Int) (hl:l.length<most):Calls Tryz.prog 218 #[Pz p,Iw x] w fun e w'=>e=.returned (.bool true)∧At B w' (stk p most (l++[x])::L)∧Below B w w':=by
 have:=push_s hB h x
 simpa only [hl,decide_true,if_true] using this
theorem pop_s (hB:B≤w.heap.size) (x:Int) (h:At B w (stk p most (l++[x])::L)):Calls Tryz.prog 222 #[Pz p] w fun e w'=>e=.returned (.tuple #[Iw x,.bool true])∧At B w' (stk p most l::L)∧Below B w w':=
 h.step (a':=stk p most l) hB fun S _ hS=>(pop_some w p S most l x hS).mono fun _ _ ⟨he,hs,hm⟩=>⟨he,hs.mono grow_left,hm⟩
theorem len_s (h:At B w (stk p most l::L)) {n:Nat} (hn:l.length=n):Calls Tryz.prog 209 #[Pz p] w fun e w'=>e=.returned (Iv (n:Int))∧w=w':=by subst hn;exact len_any w p _ most l h.get
theorem most_s (h:At B w (stk p most l::L)):Calls Tryz.prog 216 #[Pz p] w fun e w'=>e=.returned (Iv (most:Int))∧w=w':=most_any w p _ most l h.get
theorem do_s (hB:B≤w.heap.size) (h:At B w (stk p most l::L)) (k v:Int) (h0:0≤k) (h1:k≤255) {l':List Int} {c x:Int} (hd:sDo most l k v=(l',c,x)):
  Calls Tryz.prog 215 #[Pz p,.agg #[Ub k,Iw v]] w fun e w'=>e=.returned (res c x)∧At B w' (stk p most l'::L)∧Below B w w':=
 h.step hB fun S _ hS=>by
  have:=do_any w p S most l k v h0 h1 hS;rw [hd] at this;exact this
abbrev ownI (A:Option Addr) (n c:Nat) (l:List Int):Res:=slRes 21 1 A n c (l.map fun x=>Iw x)
theorem items_s (hB:B≤w.heap.size) (h:At B w (stk p most l::L)) {n:Nat} (hn:l.length=n):Calls Tryz.prog 208 #[Pz p] w fun e w'=>∃ A c,e=.returned (.slice A n c)∧At B w' (ownI A n c l::stk p most l::L)∧Below B w w':=by
 subst hn;exact(items_any w p _ most l h.get).mono fun e w' ⟨A,c,he,hs,hb⟩=>⟨A,c,he,h.made (fun x hx=>Nat.le_trans hB hx) hb hs,hb.mono hB⟩
theorem stk_len (h:At B w (stk p most l::L)):l.length≤most∧most≤1000:=StackAt.len h.get
end
theorem info_int:(Tryz.prog.info? 3).map (fun i=>(i.zero,i.size,i.bytes))=some (some (Iv 0),1,8):=by kernel_rfl
abbrev il (l:List Nat):List Value:=l.map fun(x:Nat)=>Iv (x:Int)
def MeetAt (w:World) (p:Nat) (S:Nat→Prop) (most:Nat) (st:List Nat×Nat):Prop:=
 ∃ A c,Blk w p 293 #[.slice A st.1.length c,Iv (st.2:Int),Iv (most:Int)]∧Sl w 3 1 A st.1.length c (il st.1) S∧S p∧st.2+st.1.length≤most∧most≤1000
section
variable {w w':World} {p most:Nat} {S T:Nat→Prop} {st:List Nat×Nat}
theorem MeetAt.mono (h:MeetAt w p S most st) (hS:∀ b,S b→T b):MeetAt w p T most st:=by
 obtain⟨A,c,hb,hs,hp,hl⟩:=h;exact⟨A,c,hb,hs.mono hS,hS p hp,hl⟩
theorem MeetAt.mod (h:MeetAt w p S most st) (hm:Mod T w w') (hd:∀ b,S b→¬ T b):MeetAt w' p S most st:=by
 obtain⟨A,c,hb,hs,hp,hl⟩:=h;exact⟨A,c,hb.mod hm (hd p hp),hs.mod hm hd,hp,hl⟩
theorem MeetAt.lt (h:MeetAt w p S most st):MeetAt w p (fun b=>S b∧b<w.heap.size) most st:=by
 obtain⟨A,c,hb,hs,hp,hl⟩:=h;exact⟨A,c,hb,hs.lt,⟨hp,hb.lt⟩,hl⟩
end
theorem stable_meet (p most:Nat) (st:List Nat×Nat):Stable (fun w S=>MeetAt w p S most st):=⟨fun h=>h.mono,fun h=>h.mod,fun h=>h.lt⟩
def meetR (p most:Nat) (st:List Nat×Nat):Res:=⟨fun w S=>MeetAt w p S most st,stable_meet p most st⟩
theorem under_any (w:World) (p:Nat) (S:Nat→Prop) (most:Nat) (l:List Nat) (below:Nat) (h:MeetAt w p S most (l,below)):
  Calls Tryz.prog 226 #[Pz p] w fun e w'=>e=.returned (.bool (decide (0<below)))∧MeetAt w' p S most (l,below-1)∧Mod S w w':=by
 obtain⟨A,c,hb,hs,hp,h1,h2⟩:=h;dsimp only at hb hs h1;have c1:w.cell? ⟨p,1,none⟩=some (Iv (below:Int)):=hb.cell 1;have f1:=hb.frozen 1
 by_cases hz:below=0
 ·subst hz;go_enter Tryz.func226,Tryz.ntmps226;go_wp2;go_ret;exact⟨rfl,⟨A,c,hb,hs,hp,h1,h2⟩,Mod.refl _ _⟩
 ·have hz':((below:Int)==0)=false:=by simpa using hz
  have hpos:decide (0<below)=true:=by simp;omega
  rw [hpos];have hset:=hb.set 1 (Iv ((below:Int)-1));have hfar:=hs.farT (p:=⟨p,1,none⟩) hb (by decide) (Iv ((below:Int)-1));have he:(below:Int)-1=((below-1:Nat):Int):=by omega
  have HE:=Lib.hid he;clear he hpos;go_enter Tryz.func226,Tryz.ntmps226;go_wp2;go_ret;refine⟨rfl,⟨A,c,?_,hfar,hp,by simp only;omega,h2⟩,(Mod.refl _ _).setCell (.inl hp) _⟩;simp only;rw [← HE.out]
  simpa using hset
theorem mpop_none (w:World) (p:Nat) (S:Nat→Prop) (most:Nat) (below:Nat) (h:MeetAt w p S most ([],below)):
  Calls Tryz.prog 225 #[Pz p] w fun e w'=>e=.returned (.tuple #[Iv (-1),.bool false])∧w=w':=by
 obtain⟨A,c,hb,hs,hp,h1,h2⟩:=h;have c0:w.cell? ⟨p,0,none⟩=some (.slice A 0 c):=hb.cell 0;go_enter Tryz.func225,Tryz.ntmps225;go_wp2
 go_ret2
 exact⟨rfl,rfl⟩
theorem mpop_some (w:World) (p:Nat) (S:Nat→Prop) (most:Nat) (l:List Nat) (j below:Nat) (h:MeetAt w p S most (l++[j],below)):
  Calls Tryz.prog 225 #[Pz p] w fun e w'=>e=.returned (.tuple #[Iv (j:Int),.bool true])∧MeetAt w' p S most (l,below)∧Mod S w w':=by
 obtain⟨A,c,hb,hs,hp,h1,h2⟩:=h;obtain⟨n,hn⟩:∃ n,l.length=n:=⟨_,rfl⟩;simp only [List.length_append,List.length_cons,List.length_nil,hn,Nat.zero_add] at hb hs h1;have hle:=hs.le;have hcm:=hs.cap_le;unfold maxLen at hcm;obtain⟨g,off,rfl,hg,hlt,hfz,hx⟩:=hs.at (by omega);have hx0:w.cell? ⟨g,off+n,none⟩=some (Iv (j:Int)):=hx n _ (by simp [← hn]);have hc:w.cell? ⟨p,0,none⟩=some (.slice (some ⟨g,off,none⟩) (n+1) c):=hb.cell 0;have hf:=hb.frozen 0;have hd:=(hs.take (k:=n) (by omega)).farT (p:=⟨p,0,none⟩) hb (by decide) (.slice (some ⟨g,off,none⟩) n c);have HN:=Lib.hid hn;clear hx hfz hn;go_enter Tryz.func225,Tryz.ntmps225;go_wp2_with fail
 go_ret2
 refine⟨rfl,⟨some ⟨g,off,none⟩,c,?_,?_,hp,by simp only;rw [HN.out];omega,h2⟩,(Mod.refl _ _).setCell (.inl hp) _⟩
 ·simp only;rw [HN.out];exact hb.set 0 _
 ·simp only;rw [HN.out]
  have e:(il (l++[j])).take (n*1)=il l:=by
   rw [Nat.mul_one,←HN.out,il,List.map_append];exact List.take_left' (by simp)
  rw [e] at hd;exact hd
theorem mpush_full (w:World) (p:Nat) (S:Nat→Prop) (most:Nat) (l:List Nat) (below k:Nat) (h:MeetAt w p S most (l,below)) (hf:below+l.length=most):
  Calls Tryz.prog 224 #[Pz p,Iv (k:Int)] w fun e w'=>e=.returned (.bool false)∧Below w.heap.size w w':=by
 obtain⟨A,c,hb,hs,hp,h1,h2⟩:=h;dsimp only at hb hs h1;have c0:w.cell? ⟨p,0,none⟩=some (.slice A l.length c):=hb.cell 0;have c1:w.cell? ⟨p,1,none⟩=some (Iv (below:Int)):=hb.cell 1;have c2:w.cell? ⟨p,2,none⟩=some (Iv (most:Int)):=hb.cell 2;have hge:(most:Int)≤(below:Int)+(l.length:Int):=by omega
 have hbd:(below:Int)≤1000:=by omega
 have hln:(l.length:Int)≤1000:=by omega
 clear hf;go_enter Tryz.func224,Tryz.ntmps224;go_wp2;have hw:IntKind.i64.wrap ((below:Int)+(l.length:Int))=(below:Int)+(l.length:Int):=IntWalk.i64_in _ (by omega);go_quiet (fail);go_wp2;go_ret;exact⟨rfl,(Mod.refl (fun _=>False) w).drewN _ |>.below (Nat.le_refl _) (fun _ h=>h.elim)⟩
theorem mpush_some (w:World) (p:Nat) (S:Nat→Prop) (most:Nat) (l:List Nat) (below k:Nat) (h:MeetAt w p S most (l,below)) (hf:below+l.length<most):
  Calls Tryz.prog 224 #[Pz p,Iv (k:Int)] w fun e w'=>e=.returned (.bool true)∧MeetAt w' p (grow S w w') most (l++[k],below)∧Mod S w w':=by
 obtain⟨i0,hi0,hz0,hz1,hz2⟩:=info_parts info_int;obtain⟨A,c,hb,hs,hp,h1,h2⟩:=h;dsimp only at hb hs h1;obtain⟨n,hn⟩:∃ n,l.length=n:=⟨_,rfl⟩;rw [hn] at hb hs h1 hf;have c0:w.cell? ⟨p,0,none⟩=some (.slice A n c):=hb.cell 0;have c1:w.cell? ⟨p,1,none⟩=some (Iv (below:Int)):=hb.cell 1;have c2:w.cell? ⟨p,2,none⟩=some (Iv (most:Int)):=hb.cell 2;have hlt:¬ (most:Int)≤(below:Int)+(n:Int):=by omega
 have hbd:(below:Int)≤1000:=by omega
 have hln:(n:Int)≤1000:=by omega
 have hfz:=hb.frozen 0;have hplt:=hb.lt;have HN:=Lib.hid hn;have hown:=hs.off hb (by decide);clear hn;go_enter Tryz.func224,Tryz.ntmps224;go_wp2;have hw:IntKind.i64.wrap ((below:Int)+(n:Int))=(below:Int)+(n:Int):=IntWalk.i64_in _ (by omega);go_quiet (fail);go_wp2_with (at_builtin;refine wpList_append_sl _ rfl (.tmp 24) (.tmp 26) _ rfl 3 i0 _ 1 8 Tryz.underlying37 hi0 hz0 hz1 hz2 rfl (by omega) A n c _ _ rfl (by exact(hown.alloc _).drewN _) (· =w.heap.size) (some ⟨w.heap.size,0,none⟩) 1 1 [Iv (k:Int)] rfl (by exact(Rd.lit (sz:=1) w _ #[Iv (k:Int)] 1 rfl).drewN _) (by simp [Value.oneCell']) (by simp only [maxLen];omega) (by omega) ?_;intro A' c' w1 hown1 hmod1;have hblk1:=(((hb.alloc _).drewN _)).mod hmod1 (by simp);have hc1:w1.cell? ⟨p,0,none⟩=some (.slice A n c):=hblk1.cell 0;have hf1:=hblk1.frozen 0);go_ret;obtain⟨k1,k2,k3⟩:=field_append (w:=w) 0 hp ((Mod.refl _ _).drewN _ |>.alloc _) hblk1 (by decide) hown1 hmod1
 refine⟨rfl,⟨A',c',?_,?_,.inl hp,by simp [HN.out];omega,h2⟩,k3⟩
 ·simpa [HN.out] using k1
 ·simpa [HN.out] using k2
section
variable {B:Nat} {w w':World} {p most:Nat} {l:List Nat} {below:Nat} {L:List Res}
theorem mpush_s (hB:B≤w.heap.size) (h:At B w (meetR p most (l,below)::L)) (k:Nat) {v:Bool} {st:List Nat×Nat} (hv:decide (below+l.length<most)=v) (hst:(if below+l.length<most then(l++[k],below) else(l,below))=st):
  Calls Tryz.prog 224 #[Pz p,Iv (k:Int)] w fun e w'=>e=.returned (.bool v)∧At B w' (meetR p most st::L)∧Below B w w':=
 h.step (a':=meetR p most st) hB fun S _ hS=>by
  subst hv hst
  by_cases hl:below+l.length<most
  ·simp only [hl,decide_true,if_true];exact mpush_some w p S most l below k hS hl
  ·simp only [hl,decide_false,if_false];have hle:below+l.length=most:=by obtain⟨_,_,_,_,_,h1,_⟩:=hS;simp only at h1;omega
   exact(mpush_full w p S most l below k hS hle).mono fun e w' ⟨he,hb⟩=>⟨he,(stable_meet p most (l,below)).mono ((stable_meet p most (l,below)).keep hS hb) grow_left,Mod.of_below hb⟩
theorem mpop_s (hB:B≤w.heap.size) (j:Nat) (h:At B w (meetR p most (l++[j],below)::L)):Calls Tryz.prog 225 #[Pz p] w fun e w'=>e=.returned (.tuple #[Iv (j:Int),.bool true])∧At B w' (meetR p most (l,below)::L)∧Below B w w':=
 h.step (a':=meetR p most (l,below)) hB fun S _ hS=>(mpop_some w p S most l j below hS).mono fun _ _ ⟨he,hs,hm⟩=>⟨he,hs.mono grow_left,hm⟩
theorem mpop0_s (h:At B w (meetR p most ([],below)::L)):Calls Tryz.prog 225 #[Pz p] w fun e w'=>e=.returned (.tuple #[Iv (-1),.bool false])∧w=w':=mpop_none w p _ most below h.get
theorem under_s (hB:B≤w.heap.size) (h:At B w (meetR p most (l,below)::L)) {v:Bool} (hv:decide (0<below)=v):Calls Tryz.prog 226 #[Pz p] w fun e w'=>e=.returned (.bool v)∧At B w' (meetR p most (l,below-1)::L)∧Below B w w':=
 h.step (a':=meetR p most (l,below-1)) hB fun S _ hS=>(under_any w p S most l below hS).mono fun _ _ ⟨he,hs,hm⟩=>⟨hv▸he,hs.mono grow_left,hm⟩
end
theorem info_res:(Tryz.prog.info? 47).map (fun i=>(i.zero,i.size,i.bytes))=some (some (.agg #[Ub 0,Iw 0]),2,8):=by kernel_rfl
theorem rep_res (n:Nat):(List.replicate n ((#[Ub 0,Iw 0]:Array Value).toList)).flatten=(List.replicate n ((0,0):Int×Int)).flatMap resIn:=by
 induction n with
 | zero=>rfl
 | succ n ih=>rw [List.replicate_succ,List.replicate_succ,List.flatten_cons,List.flatMap_cons,ih];rfl
theorem op_at (ops:List (Int×Int)) (k:Nat) (hk:k<ops.length):(ops.flatMap opIn)[k*2]? =some (Ub ops[k].1)∧(ops.flatMap opIn)[k*2+1]? =some (Iw ops[k].2):=by
 induction ops generalizing k with
 | nil=>simp at hk
 | cons o l ih=>
  rcases k with _ | k
  ·simp [opIn]
  ·have:=ih k (by simpa using hk);simp only [List.flatMap_cons,opIn,List.cons_append,List.nil_append,List.getElem_cons_succ];rw [show (k+1)*2=k*2+2 by omega]
   simpa [opIn] using this
theorem made_one (z:Value) (n:Nat):(madeCells #[z] n).toList=List.replicate n z:=by
 have:=made_flat #[z] (by simp) n;rw [show n*(#[z]:Array Value).size=n by simp] at this;rw [this];simp
theorem row_new {B:Nat} {w:World} {n:Nat} {L:List Res} (hB:B≤w.heap.size) (hn:n≤100000) {z:Value} (e:TypeId) (h:At B w L):At B (w.alloc (.cells (madeCells #[z] n) e)) (slRes e 1 (some ⟨w.heap.size,0,none⟩) n n (List.replicate n z)::L):=
 h.made (fun x hx=>Nat.le_trans hB hx) ((Below.refl _ w).alloc (Nat.le_refl _) _) (Sl.of_made w e 1 n _ _ (made_one z n) (by simp) (by unfold maxLen;omega) ⟨Nat.le_refl _,by simp⟩)
theorem meet_new {B:Nat} {w:World} {be mo:Nat} {L:List Res} (hB:B≤w.heap.size) (hbm:be≤mo) (hm:mo≤1000) (h:At B w L):At B (w.alloc (.cells #[.slice none 0 0,Iv (be:Int),Iv (mo:Int)] 293)) (meetR w.heap.size mo ([],be)::L):=
 h.made (fun x hx=>Nat.le_trans hB hx) ((Below.refl _ w).alloc (Nat.le_refl _) _) ⟨none,0,Blk.new _ _ _,Sl.nil _ _ _ _,⟨Nat.le_refl _,by simp⟩,by simpa using hbm,hm⟩
theorem mStep_code {most k:Nat} {o:Int} {st:List Nat×Nat} (h:(mStep most k o st).2.2≠2):(mStep most k o st).2.1= -1:=by
 rcases mStep_neg (most:=most) (k:=k) (o:=o) (st:=st) with e | ⟨j,e⟩
 ·exact e
 ·obtain⟨h2,l,hl⟩:=mStep_met e;subst h2;obtain⟨a,b⟩:=st;simp only at hl;subst hl;rw [mStep_pop_some] at h;exact absurd rfl h
theorem pair_code {mo be:Nat} {ops:List (Int×Int)} {k:Nat} (h:mCode mo be ops k≠2):mPair mo be ops k= -1:=mStep_code h
end Go.Proofs.YtadgbhjpgnlmoaaGreat.Stk
