/- TopSafe, a part of its proof; no conditions. -/
import Derived.Test.YtadgbhjpgnlmoaaGreatPk11
import Derived.Test.YtadgbhjpgnlmoaaGreatPk23
set_option linter.all false
namespace Go.Proofs.YtadgbhjpgnlmoaaGreat
open Go.RowKit Go.Rp Go.Sf
def Only (fr:Act) (R:World→Prop):Exit→Act→World→Prop
 | .normal,a,w=>a=fr∧R w
 | _,_,_=>False
theorem cut_normal {P:Program} {c:Code} {Q:Exit→Act→World→Prop} {a:Act} {w:World} {fr:Act} {R:World→Prop} (h:c.wp P (Only fr R) a w) (k:∀ w',R w'→Q .normal fr w'):c.wp P Q a w:=
 Code.wp_mono (fun e a' w' h=>by
  cases e<;>first | exact False.elim h | (obtain ⟨h1,h2⟩:=h;rw [h1];exact k w' h2)) h
theorem mapII:Tryz.prog.underlying 87=some (.map 3 3):=by kernel_rfl
theorem intI:Tryz.prog.underlying 3=some (.int .i64):=by kernel_rfl
def atS (t:Th):Int:=if t.pc=40 then 1 else if t.pc=41 then t.prev+3 else if t.pc=42 then t.cur+1 else t.cur+2
structure FitS (t:Th):Prop where
 p3:IntKind.i64.wrap (t.prev+3)=t.prev+3
 c0:IntKind.i64.wrap t.cur=t.cur
 c1:IntKind.i64.wrap (t.cur+1)=t.cur+1
 c2:IntKind.i64.wrap (t.cur+2)=t.cur+2
 c3:IntKind.i64.wrap (t.cur+3)=t.cur+3
section
variable {B X p n c:Nat} {w:World} {size id age:Int} {m:List Int} {L:List Res} {t:Th} {A:Option Addr}
set_option maxRecDepth 100000 in
set_option maxHeartbeats 4000000 in
theorem seek_s (hB:B≤w.heap.size) (hpc:t.pc=40∨t.pc=41∨t.pc=42∨t.pc=43) (hz:FitS t) (h:At B w (blkR X 234 (st' id t A n c p age)::memR p size m::L)):Calls Tryz.prog 121 #[Pz X] w fun e w'=>e=.returned (.tuple #[])∧At B w' (blkR X 234 (st' id (sweeps age m t).2 A n c p age)::memR p size m::L)∧Below B w w':=by
 obtain⟨u,hu'⟩:∃ u,u=(sweeps age m t).2:=⟨_,rfl⟩;rw [← hu'];obtain⟨h1,-,h2,h3,-⟩:=hz;have k1:=h.cv 1 (Iv t.pc);have k6:=h.cv 6 (Iv t.cur);have k7:=h.cv 7 (Iv t.prev);have hmm:=@run_makeMap Tryz.prog;go_enter Tryz.func121,Tryz.ntmps121;go_wp2_with fail
 refine' cut_normal (R:=fun w'=>At B w' (blkR X 234 (st' id t A n c p age)::memR p size m::L)∧Below B w w') _ _
 rotate_left;refine wp_region_held_drew (S:=fun w'=>w'.cell? ⟨X,1,none⟩=some (Iv t.pc)∧w'.cell? ⟨X,6,none⟩=some (Iv t.cur)∧w'.cell? ⟨X,7,none⟩=some (Iv t.prev)) (by kernel_rfl) ⟨k1,k6,k7⟩ fun hHeld=>?_;refine Rp.tk 2 hHeld ?_;refine Rp.tk 3 hHeld ?_;refine Rp.tk 4 hHeld ?_;refine Rp.tk 5 hHeld ?_;refine Rp.tk 6 hHeld ?_;refine Rp.tk 7 hHeld ?_;refine Rp.tk 9 hHeld ?_;refine Rp.tk 10 hHeld ?_;refine Rp.tk 11 hHeld ?_;refine Rp.tk 12 hHeld ?_;refine Rp.tk 13 hHeld ?_;refine Rp.tk 14 hHeld ?_;refine Rp.tk 16 hHeld ?_;refine Rp.tk 17 hHeld ?_;refine Rp.tk 18 hHeld ?_;refine Rp.tk 19 hHeld ?_;refine Rp.tk 20 hHeld ?_;refine Rp.tk 21 hHeld ?_;refine Rp.tk 24 hHeld ?_;refine Rp.tk 25 hHeld ?_;refine Rp.tk 26 hHeld ?_;refine Rp.tk 27 hHeld ?_;refine Rp.tk 28 hHeld ?_;refine Rp.rd 0 fun K hK=>?_;go_simp;have s0:At B (w.alloc (.map #[] 0)).drew (mapR .i64 w.heap.size []::blkR X 234 (st' id t A n c p age)::memR p size m::L):=Sep.drew (Sep.allocMap h hB .i64)
 have b0:Below B w (w.alloc (.map #[] 0)).drew:=((Below.refl B w).alloc hB _).drew;have hB0:=Nat.le_trans hB b0.size;refine hK.out _ _ ⟨s0.rot2.blk.cell 1,s0.rot2.blk.cell 6,s0.rot2.blk.cell 7⟩ (fun hHeld=>?_);clear hK K;generalize (w.alloc (.map #[] 0)).drew=w0 at*
 try simp only [Act.put,List.setIfInBounds_toArray,List.set_cons_zero,List.set_cons_succ]
 focus
  refine wpAnyH_ready (rs:=[1,8,15,22]) (by kernel_rfl) (by simp) (AllReadyH.cons rfl (fun K hK=>?_) (AllReadyH.cons rfl (fun K hK=>?_) (AllReadyH.cons rfl (fun K hK=>?_) (AllReadyH.cons rfl (fun K hK=>?_) AllReadyH.nil))));obtain⟨w1,hu,s1,c⟩:=mapPut mapII intI hB0 s0 40 (Iv 1);go_simp;refine gon hK ⟨s1.rot2.blk.cell 1,s1.rot2.blk.cell 6,s1.rot2.blk.cell 7⟩ fun hHeld=>?_;clear hK K hu;rotate_left;obtain⟨w1,hu,s1,c⟩:=mapPut mapII intI hB0 s0 41 (Iv (t.prev+3));go_simp;refine gon hK ⟨s1.rot2.blk.cell 1,s1.rot2.blk.cell 6,s1.rot2.blk.cell 7⟩ fun hHeld=>?_;clear hK K hu;rotate_left;obtain⟨w1,hu,s1,c⟩:=mapPut mapII intI hB0 s0 42 (Iv (t.cur+1));go_simp;refine gon hK ⟨s1.rot2.blk.cell 1,s1.rot2.blk.cell 6,s1.rot2.blk.cell 7⟩ fun hHeld=>?_;clear hK K hu;rotate_left;obtain⟨w1,hu,s1,c⟩:=mapPut mapII intI hB0 s0 43 (Iv (t.cur+2));go_simp;refine gon hK ⟨s1.rot2.blk.cell 1,s1.rot2.blk.cell 6,s1.rot2.blk.cell 7⟩ fun hHeld=>?_;clear hK K hu
  rotate_left
  all_goals
   have b1:=b0.trans c;have hB1:=Nat.le_trans hB0 c.size;clear c s0 b0 hB0
  refine wpAnyH_ready (rs:=[8,15,22]) (by kernel_rfl) (by simp) (AllReadyH.cons rfl (fun K hK=>?_) (AllReadyH.cons rfl (fun K hK=>?_) (AllReadyH.cons rfl (fun K hK=>?_) AllReadyH.nil)));obtain⟨w2,hu,s2,c⟩:=mapPut mapII intI hB1 s1 41 (Iv (t.prev+3));go_simp;refine gon hK ⟨s2.rot2.blk.cell 1,s2.rot2.blk.cell 6,s2.rot2.blk.cell 7⟩ fun hHeld=>?_;clear hK K hu;rotate_left;obtain⟨w2,hu,s2,c⟩:=mapPut mapII intI hB1 s1 42 (Iv (t.cur+1));go_simp;refine gon hK ⟨s2.rot2.blk.cell 1,s2.rot2.blk.cell 6,s2.rot2.blk.cell 7⟩ fun hHeld=>?_;clear hK K hu;rotate_left;obtain⟨w2,hu,s2,c⟩:=mapPut mapII intI hB1 s1 43 (Iv (t.cur+2));go_simp;refine gon hK ⟨s2.rot2.blk.cell 1,s2.rot2.blk.cell 6,s2.rot2.blk.cell 7⟩ fun hHeld=>?_;clear hK K hu;rotate_left;refine wpAnyH_ready (rs:=[1,15,22]) (by kernel_rfl) (by simp) (AllReadyH.cons rfl (fun K hK=>?_) (AllReadyH.cons rfl (fun K hK=>?_) (AllReadyH.cons rfl (fun K hK=>?_) AllReadyH.nil)))
  obtain⟨w2,hu,s2,c⟩:=mapPut mapII intI hB1 s1 40 (Iv 1);go_simp;refine gon hK ⟨s2.rot2.blk.cell 1,s2.rot2.blk.cell 6,s2.rot2.blk.cell 7⟩ fun hHeld=>?_;clear hK K hu;rotate_left;obtain⟨w2,hu,s2,c⟩:=mapPut mapII intI hB1 s1 42 (Iv (t.cur+1));go_simp;refine gon hK ⟨s2.rot2.blk.cell 1,s2.rot2.blk.cell 6,s2.rot2.blk.cell 7⟩ fun hHeld=>?_;clear hK K hu;rotate_left;obtain⟨w2,hu,s2,c⟩:=mapPut mapII intI hB1 s1 43 (Iv (t.cur+2));go_simp;refine gon hK ⟨s2.rot2.blk.cell 1,s2.rot2.blk.cell 6,s2.rot2.blk.cell 7⟩ fun hHeld=>?_;clear hK K hu;rotate_left;refine wpAnyH_ready (rs:=[1,8,22]) (by kernel_rfl) (by simp) (AllReadyH.cons rfl (fun K hK=>?_) (AllReadyH.cons rfl (fun K hK=>?_) (AllReadyH.cons rfl (fun K hK=>?_) AllReadyH.nil)));obtain⟨w2,hu,s2,c⟩:=mapPut mapII intI hB1 s1 40 (Iv 1);go_simp;refine gon hK ⟨s2.rot2.blk.cell 1,s2.rot2.blk.cell 6,s2.rot2.blk.cell 7⟩ fun hHeld=>?_;clear hK K hu;rotate_left
  obtain⟨w2,hu,s2,c⟩:=mapPut mapII intI hB1 s1 41 (Iv (t.prev+3));go_simp;refine gon hK ⟨s2.rot2.blk.cell 1,s2.rot2.blk.cell 6,s2.rot2.blk.cell 7⟩ fun hHeld=>?_;clear hK K hu;rotate_left;obtain⟨w2,hu,s2,c⟩:=mapPut mapII intI hB1 s1 43 (Iv (t.cur+2));go_simp;refine gon hK ⟨s2.rot2.blk.cell 1,s2.rot2.blk.cell 6,s2.rot2.blk.cell 7⟩ fun hHeld=>?_;clear hK K hu;rotate_left;refine wpAnyH_ready (rs:=[1,8,15]) (by kernel_rfl) (by simp) (AllReadyH.cons rfl (fun K hK=>?_) (AllReadyH.cons rfl (fun K hK=>?_) (AllReadyH.cons rfl (fun K hK=>?_) AllReadyH.nil)));obtain⟨w2,hu,s2,c⟩:=mapPut mapII intI hB1 s1 40 (Iv 1);go_simp;refine gon hK ⟨s2.rot2.blk.cell 1,s2.rot2.blk.cell 6,s2.rot2.blk.cell 7⟩ fun hHeld=>?_;clear hK K hu;rotate_left;obtain⟨w2,hu,s2,c⟩:=mapPut mapII intI hB1 s1 41 (Iv (t.prev+3));go_simp;refine gon hK ⟨s2.rot2.blk.cell 1,s2.rot2.blk.cell 6,s2.rot2.blk.cell 7⟩ fun hHeld=>?_;clear hK K hu
  rotate_left;obtain⟨w2,hu,s2,c⟩:=mapPut mapII intI hB1 s1 42 (Iv (t.cur+1));go_simp;refine gon hK ⟨s2.rot2.blk.cell 1,s2.rot2.blk.cell 6,s2.rot2.blk.cell 7⟩ fun hHeld=>?_;clear hK K hu;rotate_left
  all_goals
   have b2:=b1.trans c;have hB2:=Nat.le_trans hB1 c.size;clear c s1 b1 hB1
  refine wpAnyH_ready (rs:=[15,22]) (by kernel_rfl) (by simp) (AllReadyH.cons rfl (fun K hK=>?_) (AllReadyH.cons rfl (fun K hK=>?_) AllReadyH.nil));obtain⟨w3,hu,s3,c⟩:=mapPut mapII intI hB2 s2 42 (Iv (t.cur+1));go_simp;refine gon hK ⟨s3.rot2.blk.cell 1,s3.rot2.blk.cell 6,s3.rot2.blk.cell 7⟩ fun hHeld=>?_;clear hK K hu;rotate_left;obtain⟨w3,hu,s3,c⟩:=mapPut mapII intI hB2 s2 43 (Iv (t.cur+2));go_simp;refine gon hK ⟨s3.rot2.blk.cell 1,s3.rot2.blk.cell 6,s3.rot2.blk.cell 7⟩ fun hHeld=>?_;clear hK K hu;rotate_left;refine wpAnyH_ready (rs:=[8,22]) (by kernel_rfl) (by simp) (AllReadyH.cons rfl (fun K hK=>?_) (AllReadyH.cons rfl (fun K hK=>?_) AllReadyH.nil));obtain⟨w3,hu,s3,c⟩:=mapPut mapII intI hB2 s2 41 (Iv (t.prev+3));go_simp;refine gon hK ⟨s3.rot2.blk.cell 1,s3.rot2.blk.cell 6,s3.rot2.blk.cell 7⟩ fun hHeld=>?_;clear hK K hu;rotate_left;obtain⟨w3,hu,s3,c⟩:=mapPut mapII intI hB2 s2 43 (Iv (t.cur+2));go_simp;refine gon hK ⟨s3.rot2.blk.cell 1,s3.rot2.blk.cell 6,s3.rot2.blk.cell 7⟩ fun hHeld=>?_;clear hK K hu
  rotate_left;refine wpAnyH_ready (rs:=[8,15]) (by kernel_rfl) (by simp) (AllReadyH.cons rfl (fun K hK=>?_) (AllReadyH.cons rfl (fun K hK=>?_) AllReadyH.nil));obtain⟨w3,hu,s3,c⟩:=mapPut mapII intI hB2 s2 41 (Iv (t.prev+3));go_simp;refine gon hK ⟨s3.rot2.blk.cell 1,s3.rot2.blk.cell 6,s3.rot2.blk.cell 7⟩ fun hHeld=>?_;clear hK K hu;rotate_left;obtain⟨w3,hu,s3,c⟩:=mapPut mapII intI hB2 s2 42 (Iv (t.cur+1));go_simp;refine gon hK ⟨s3.rot2.blk.cell 1,s3.rot2.blk.cell 6,s3.rot2.blk.cell 7⟩ fun hHeld=>?_;clear hK K hu;rotate_left;refine wpAnyH_ready (rs:=[15,22]) (by kernel_rfl) (by simp) (AllReadyH.cons rfl (fun K hK=>?_) (AllReadyH.cons rfl (fun K hK=>?_) AllReadyH.nil));obtain⟨w3,hu,s3,c⟩:=mapPut mapII intI hB2 s2 42 (Iv (t.cur+1));go_simp;refine gon hK ⟨s3.rot2.blk.cell 1,s3.rot2.blk.cell 6,s3.rot2.blk.cell 7⟩ fun hHeld=>?_;clear hK K hu;rotate_left;obtain⟨w3,hu,s3,c⟩:=mapPut mapII intI hB2 s2 43 (Iv (t.cur+2));go_simp;refine gon hK ⟨s3.rot2.blk.cell 1,s3.rot2.blk.cell 6,s3.rot2.blk.cell 7⟩ fun hHeld=>?_;clear hK K hu
  rotate_left;refine wpAnyH_ready (rs:=[1,22]) (by kernel_rfl) (by simp) (AllReadyH.cons rfl (fun K hK=>?_) (AllReadyH.cons rfl (fun K hK=>?_) AllReadyH.nil));obtain⟨w3,hu,s3,c⟩:=mapPut mapII intI hB2 s2 40 (Iv 1);go_simp;refine gon hK ⟨s3.rot2.blk.cell 1,s3.rot2.blk.cell 6,s3.rot2.blk.cell 7⟩ fun hHeld=>?_;clear hK K hu;rotate_left;obtain⟨w3,hu,s3,c⟩:=mapPut mapII intI hB2 s2 43 (Iv (t.cur+2));go_simp;refine gon hK ⟨s3.rot2.blk.cell 1,s3.rot2.blk.cell 6,s3.rot2.blk.cell 7⟩ fun hHeld=>?_;clear hK K hu;rotate_left;refine wpAnyH_ready (rs:=[1,15]) (by kernel_rfl) (by simp) (AllReadyH.cons rfl (fun K hK=>?_) (AllReadyH.cons rfl (fun K hK=>?_) AllReadyH.nil));obtain⟨w3,hu,s3,c⟩:=mapPut mapII intI hB2 s2 40 (Iv 1);go_simp;refine gon hK ⟨s3.rot2.blk.cell 1,s3.rot2.blk.cell 6,s3.rot2.blk.cell 7⟩ fun hHeld=>?_;clear hK K hu;rotate_left;obtain⟨w3,hu,s3,c⟩:=mapPut mapII intI hB2 s2 42 (Iv (t.cur+1));go_simp;refine gon hK ⟨s3.rot2.blk.cell 1,s3.rot2.blk.cell 6,s3.rot2.blk.cell 7⟩ fun hHeld=>?_;clear hK K hu
  rotate_left;refine wpAnyH_ready (rs:=[8,22]) (by kernel_rfl) (by simp) (AllReadyH.cons rfl (fun K hK=>?_) (AllReadyH.cons rfl (fun K hK=>?_) AllReadyH.nil));obtain⟨w3,hu,s3,c⟩:=mapPut mapII intI hB2 s2 41 (Iv (t.prev+3));go_simp;refine gon hK ⟨s3.rot2.blk.cell 1,s3.rot2.blk.cell 6,s3.rot2.blk.cell 7⟩ fun hHeld=>?_;clear hK K hu;rotate_left;obtain⟨w3,hu,s3,c⟩:=mapPut mapII intI hB2 s2 43 (Iv (t.cur+2));go_simp;refine gon hK ⟨s3.rot2.blk.cell 1,s3.rot2.blk.cell 6,s3.rot2.blk.cell 7⟩ fun hHeld=>?_;clear hK K hu;rotate_left;refine wpAnyH_ready (rs:=[1,22]) (by kernel_rfl) (by simp) (AllReadyH.cons rfl (fun K hK=>?_) (AllReadyH.cons rfl (fun K hK=>?_) AllReadyH.nil));obtain⟨w3,hu,s3,c⟩:=mapPut mapII intI hB2 s2 40 (Iv 1);go_simp;refine gon hK ⟨s3.rot2.blk.cell 1,s3.rot2.blk.cell 6,s3.rot2.blk.cell 7⟩ fun hHeld=>?_;clear hK K hu;rotate_left;obtain⟨w3,hu,s3,c⟩:=mapPut mapII intI hB2 s2 43 (Iv (t.cur+2));go_simp;refine gon hK ⟨s3.rot2.blk.cell 1,s3.rot2.blk.cell 6,s3.rot2.blk.cell 7⟩ fun hHeld=>?_;clear hK K hu
  rotate_left;refine wpAnyH_ready (rs:=[1,8]) (by kernel_rfl) (by simp) (AllReadyH.cons rfl (fun K hK=>?_) (AllReadyH.cons rfl (fun K hK=>?_) AllReadyH.nil));obtain⟨w3,hu,s3,c⟩:=mapPut mapII intI hB2 s2 40 (Iv 1);go_simp;refine gon hK ⟨s3.rot2.blk.cell 1,s3.rot2.blk.cell 6,s3.rot2.blk.cell 7⟩ fun hHeld=>?_;clear hK K hu;rotate_left;obtain⟨w3,hu,s3,c⟩:=mapPut mapII intI hB2 s2 41 (Iv (t.prev+3));go_simp;refine gon hK ⟨s3.rot2.blk.cell 1,s3.rot2.blk.cell 6,s3.rot2.blk.cell 7⟩ fun hHeld=>?_;clear hK K hu;rotate_left;refine wpAnyH_ready (rs:=[8,15]) (by kernel_rfl) (by simp) (AllReadyH.cons rfl (fun K hK=>?_) (AllReadyH.cons rfl (fun K hK=>?_) AllReadyH.nil));obtain⟨w3,hu,s3,c⟩:=mapPut mapII intI hB2 s2 41 (Iv (t.prev+3));go_simp;refine gon hK ⟨s3.rot2.blk.cell 1,s3.rot2.blk.cell 6,s3.rot2.blk.cell 7⟩ fun hHeld=>?_;clear hK K hu;rotate_left;obtain⟨w3,hu,s3,c⟩:=mapPut mapII intI hB2 s2 42 (Iv (t.cur+1));go_simp;refine gon hK ⟨s3.rot2.blk.cell 1,s3.rot2.blk.cell 6,s3.rot2.blk.cell 7⟩ fun hHeld=>?_;clear hK K hu
  rotate_left;refine wpAnyH_ready (rs:=[1,15]) (by kernel_rfl) (by simp) (AllReadyH.cons rfl (fun K hK=>?_) (AllReadyH.cons rfl (fun K hK=>?_) AllReadyH.nil));obtain⟨w3,hu,s3,c⟩:=mapPut mapII intI hB2 s2 40 (Iv 1);go_simp;refine gon hK ⟨s3.rot2.blk.cell 1,s3.rot2.blk.cell 6,s3.rot2.blk.cell 7⟩ fun hHeld=>?_;clear hK K hu;rotate_left;obtain⟨w3,hu,s3,c⟩:=mapPut mapII intI hB2 s2 42 (Iv (t.cur+1));go_simp;refine gon hK ⟨s3.rot2.blk.cell 1,s3.rot2.blk.cell 6,s3.rot2.blk.cell 7⟩ fun hHeld=>?_;clear hK K hu;rotate_left;refine wpAnyH_ready (rs:=[1,8]) (by kernel_rfl) (by simp) (AllReadyH.cons rfl (fun K hK=>?_) (AllReadyH.cons rfl (fun K hK=>?_) AllReadyH.nil));obtain⟨w3,hu,s3,c⟩:=mapPut mapII intI hB2 s2 40 (Iv 1);go_simp;refine gon hK ⟨s3.rot2.blk.cell 1,s3.rot2.blk.cell 6,s3.rot2.blk.cell 7⟩ fun hHeld=>?_;clear hK K hu;rotate_left;obtain⟨w3,hu,s3,c⟩:=mapPut mapII intI hB2 s2 41 (Iv (t.prev+3));go_simp;refine gon hK ⟨s3.rot2.blk.cell 1,s3.rot2.blk.cell 6,s3.rot2.blk.cell 7⟩ fun hHeld=>?_;clear hK K hu
  rotate_left
  all_goals
   have b3:=b2.trans c;have hB3:=Nat.le_trans hB2 c.size;clear c s2 b2 hB2
  refine Rp.rd 22 fun K hK=>?_;obtain⟨w4,hu,s4,c⟩:=mapPut mapII intI hB3 s3 43 (Iv (t.cur+2));go_simp;refine gon hK ⟨s4.rot2.blk.cell 1,s4.rot2.blk.cell 6,s4.rot2.blk.cell 7⟩ fun hHeld=>?_;clear hK K hu;rotate_left;refine Rp.rd 15 fun K hK=>?_;obtain⟨w4,hu,s4,c⟩:=mapPut mapII intI hB3 s3 42 (Iv (t.cur+1));go_simp;refine gon hK ⟨s4.rot2.blk.cell 1,s4.rot2.blk.cell 6,s4.rot2.blk.cell 7⟩ fun hHeld=>?_;clear hK K hu;rotate_left;refine Rp.rd 22 fun K hK=>?_;obtain⟨w4,hu,s4,c⟩:=mapPut mapII intI hB3 s3 43 (Iv (t.cur+2));go_simp;refine gon hK ⟨s4.rot2.blk.cell 1,s4.rot2.blk.cell 6,s4.rot2.blk.cell 7⟩ fun hHeld=>?_;clear hK K hu;rotate_left;refine Rp.rd 8 fun K hK=>?_;obtain⟨w4,hu,s4,c⟩:=mapPut mapII intI hB3 s3 41 (Iv (t.prev+3));go_simp;refine gon hK ⟨s4.rot2.blk.cell 1,s4.rot2.blk.cell 6,s4.rot2.blk.cell 7⟩ fun hHeld=>?_;clear hK K hu;rotate_left;refine Rp.rd 15 fun K hK=>?_;obtain⟨w4,hu,s4,c⟩:=mapPut mapII intI hB3 s3 42 (Iv (t.cur+1));go_simp;refine gon hK ⟨s4.rot2.blk.cell 1,s4.rot2.blk.cell 6,s4.rot2.blk.cell 7⟩ fun hHeld=>?_;clear hK K hu
  rotate_left;refine Rp.rd 8 fun K hK=>?_;obtain⟨w4,hu,s4,c⟩:=mapPut mapII intI hB3 s3 41 (Iv (t.prev+3));go_simp;refine gon hK ⟨s4.rot2.blk.cell 1,s4.rot2.blk.cell 6,s4.rot2.blk.cell 7⟩ fun hHeld=>?_;clear hK K hu;rotate_left;refine Rp.rd 22 fun K hK=>?_;obtain⟨w4,hu,s4,c⟩:=mapPut mapII intI hB3 s3 43 (Iv (t.cur+2));go_simp;refine gon hK ⟨s4.rot2.blk.cell 1,s4.rot2.blk.cell 6,s4.rot2.blk.cell 7⟩ fun hHeld=>?_;clear hK K hu;rotate_left;refine Rp.rd 15 fun K hK=>?_;obtain⟨w4,hu,s4,c⟩:=mapPut mapII intI hB3 s3 42 (Iv (t.cur+1));go_simp;refine gon hK ⟨s4.rot2.blk.cell 1,s4.rot2.blk.cell 6,s4.rot2.blk.cell 7⟩ fun hHeld=>?_;clear hK K hu;rotate_left;refine Rp.rd 22 fun K hK=>?_;obtain⟨w4,hu,s4,c⟩:=mapPut mapII intI hB3 s3 43 (Iv (t.cur+2));go_simp;refine gon hK ⟨s4.rot2.blk.cell 1,s4.rot2.blk.cell 6,s4.rot2.blk.cell 7⟩ fun hHeld=>?_;clear hK K hu;rotate_left;refine Rp.rd 1 fun K hK=>?_;obtain⟨w4,hu,s4,c⟩:=mapPut mapII intI hB3 s3 40 (Iv 1);go_simp;refine gon hK ⟨s4.rot2.blk.cell 1,s4.rot2.blk.cell 6,s4.rot2.blk.cell 7⟩ fun hHeld=>?_;clear hK K hu
  rotate_left;refine Rp.rd 15 fun K hK=>?_;obtain⟨w4,hu,s4,c⟩:=mapPut mapII intI hB3 s3 42 (Iv (t.cur+1));go_simp;refine gon hK ⟨s4.rot2.blk.cell 1,s4.rot2.blk.cell 6,s4.rot2.blk.cell 7⟩ fun hHeld=>?_;clear hK K hu;rotate_left;refine Rp.rd 1 fun K hK=>?_;obtain⟨w4,hu,s4,c⟩:=mapPut mapII intI hB3 s3 40 (Iv 1);go_simp;refine gon hK ⟨s4.rot2.blk.cell 1,s4.rot2.blk.cell 6,s4.rot2.blk.cell 7⟩ fun hHeld=>?_;clear hK K hu;rotate_left;refine Rp.rd 22 fun K hK=>?_;obtain⟨w4,hu,s4,c⟩:=mapPut mapII intI hB3 s3 43 (Iv (t.cur+2));go_simp;refine gon hK ⟨s4.rot2.blk.cell 1,s4.rot2.blk.cell 6,s4.rot2.blk.cell 7⟩ fun hHeld=>?_;clear hK K hu;rotate_left;refine Rp.rd 8 fun K hK=>?_;obtain⟨w4,hu,s4,c⟩:=mapPut mapII intI hB3 s3 41 (Iv (t.prev+3));go_simp;refine gon hK ⟨s4.rot2.blk.cell 1,s4.rot2.blk.cell 6,s4.rot2.blk.cell 7⟩ fun hHeld=>?_;clear hK K hu;rotate_left;refine Rp.rd 22 fun K hK=>?_;obtain⟨w4,hu,s4,c⟩:=mapPut mapII intI hB3 s3 43 (Iv (t.cur+2));go_simp;refine gon hK ⟨s4.rot2.blk.cell 1,s4.rot2.blk.cell 6,s4.rot2.blk.cell 7⟩ fun hHeld=>?_;clear hK K hu
  rotate_left;refine Rp.rd 1 fun K hK=>?_;obtain⟨w4,hu,s4,c⟩:=mapPut mapII intI hB3 s3 40 (Iv 1);go_simp;refine gon hK ⟨s4.rot2.blk.cell 1,s4.rot2.blk.cell 6,s4.rot2.blk.cell 7⟩ fun hHeld=>?_;clear hK K hu;rotate_left;refine Rp.rd 8 fun K hK=>?_;obtain⟨w4,hu,s4,c⟩:=mapPut mapII intI hB3 s3 41 (Iv (t.prev+3));go_simp;refine gon hK ⟨s4.rot2.blk.cell 1,s4.rot2.blk.cell 6,s4.rot2.blk.cell 7⟩ fun hHeld=>?_;clear hK K hu;rotate_left;refine Rp.rd 1 fun K hK=>?_;obtain⟨w4,hu,s4,c⟩:=mapPut mapII intI hB3 s3 40 (Iv 1);go_simp;refine gon hK ⟨s4.rot2.blk.cell 1,s4.rot2.blk.cell 6,s4.rot2.blk.cell 7⟩ fun hHeld=>?_;clear hK K hu;rotate_left;refine Rp.rd 15 fun K hK=>?_;obtain⟨w4,hu,s4,c⟩:=mapPut mapII intI hB3 s3 42 (Iv (t.cur+1));go_simp;refine gon hK ⟨s4.rot2.blk.cell 1,s4.rot2.blk.cell 6,s4.rot2.blk.cell 7⟩ fun hHeld=>?_;clear hK K hu;rotate_left;refine Rp.rd 8 fun K hK=>?_;obtain⟨w4,hu,s4,c⟩:=mapPut mapII intI hB3 s3 41 (Iv (t.prev+3));go_simp;refine gon hK ⟨s4.rot2.blk.cell 1,s4.rot2.blk.cell 6,s4.rot2.blk.cell 7⟩ fun hHeld=>?_;clear hK K hu
  rotate_left;refine Rp.rd 15 fun K hK=>?_;obtain⟨w4,hu,s4,c⟩:=mapPut mapII intI hB3 s3 42 (Iv (t.cur+1));go_simp;refine gon hK ⟨s4.rot2.blk.cell 1,s4.rot2.blk.cell 6,s4.rot2.blk.cell 7⟩ fun hHeld=>?_;clear hK K hu;rotate_left;refine Rp.rd 1 fun K hK=>?_;obtain⟨w4,hu,s4,c⟩:=mapPut mapII intI hB3 s3 40 (Iv 1);go_simp;refine gon hK ⟨s4.rot2.blk.cell 1,s4.rot2.blk.cell 6,s4.rot2.blk.cell 7⟩ fun hHeld=>?_;clear hK K hu;rotate_left;refine Rp.rd 8 fun K hK=>?_;obtain⟨w4,hu,s4,c⟩:=mapPut mapII intI hB3 s3 41 (Iv (t.prev+3));go_simp;refine gon hK ⟨s4.rot2.blk.cell 1,s4.rot2.blk.cell 6,s4.rot2.blk.cell 7⟩ fun hHeld=>?_;clear hK K hu;rotate_left;refine Rp.rd 1 fun K hK=>?_;obtain⟨w4,hu,s4,c⟩:=mapPut mapII intI hB3 s3 40 (Iv 1);go_simp;refine gon hK ⟨s4.rot2.blk.cell 1,s4.rot2.blk.cell 6,s4.rot2.blk.cell 7⟩ fun hHeld=>?_;clear hK K hu;rotate_left
  all_goals
   have b4:=b3.trans c;have hB4:=Nat.le_trans hB3 c.size;clear c s3 b3 hB3
  all_goals
   refine Rp.tk 23 hHeld ?_;have hlk:=run_map_find (P:=Tryz.prog) mapII intI s4.map t.pc (z:=Iv 0) (by kernel_rfl) false;simp only [getL_setL,getL] at hlk;replace hlk:=hlk.trans (congrArg (fun v=>Result.ok v w4) (show _=Iv (atS t) by(rcases hpc with e | e | e | e<;>simp [e,atS])));refine Rp.rd 29 fun K hK=>?_;go_simp;refine gon hK ⟨s4.rot2.blk.cell 1,s4.rot2.blk.cell 6,s4.rot2.blk.cell 7⟩ fun hHeld=>?_;clear hK K;refine Rp.tk 30 hHeld ?_;refine wpAnyH_done (by kernel_rfl) ?_ _;exact⟨rfl,s4.drop,b4⟩
 rintro w1 ⟨s1,b1⟩;have hB1:=Nat.le_trans hB b1.size;have hl:=sload_s hB1 s1 (atS t);clear k1 k6 k7 hmm h s1;go_wp2_with fail;refine hl.mono ?_;rintro e w2 ⟨rfl,s2,b2⟩;have b3:=b1.trans b2;have hB2:=Nat.le_trans hB1 b2.size;clear b1 b2 hl;have k1:=s2.cv 1 (Iv t.pc);have k6:=s2.cv 6 (Iv t.cur);have k7:=s2.cv 7 (Iv t.prev);have k10:=s2.cv 10 (Iv t.pass);have k14:=s2.cv 14 (Iv age);have f1:=s2.blk.frozen 1;have f6:=s2.blk.frozen 6;have f7:=s2.blk.frozen 7
 rcases hpc with e | e | e | e
 ·have ha:atS t=1:=by simp [atS,e]
  have hu:(sweeps age m t).2=if ld m (atS t)=0 then { t with look:=0,pc:=48} else { t with look:=ld m (atS t),prev:=ld m (atS t),pc:=41}:=by
   rw [ha];simp only [sweeps,e,if_true]
  rw [hu] at hu';rw [e] at k1;clear ha hu;generalize ld m (atS t)=v at*
  by_cases h0:v=0
  ·subst h0;obtain⟨s4,b4⟩:=bset hB2 s2 1 (Iv 48);go_wp2_with fail
   (try simp only [Exit.inBlock,Exit.then])
   first
   | (
     refine bodyPost_end (v:=.tuple #[]) ?_ ?_ ?_
     ·exact results_none (by kernel_rfl) _ _ _
     ·rfl)
   | (
     refine bodyPost_ret (v:=.tuple #[]) ?_ ?_ ?_
     ·exact results_none (by kernel_rfl) _ _ _
     ·rfl)
   rw [hu'];exact⟨rfl,s4,b3.trans b4⟩
  ·rw [if_neg h0] at hu';obtain⟨s4,b4⟩:=bset hB2 s2 7 (Iv v);have k1':(w2.setCell ⟨X,7,none⟩ (Iv v)).cell? ⟨X,1,none⟩=some (Iv 40):=by have:=s4.blk.cell 1;rw [this,←e];rfl
   have f1':=s4.blk.frozen 1;obtain⟨s5,b5⟩:=bset (Nat.le_trans hB2 b4.size) s4 1 (Iv 41);go_wp2_with fail
   (try simp only [Exit.inBlock,Exit.then])
   first
   | (
     refine bodyPost_end (v:=.tuple #[]) ?_ ?_ ?_
     ·exact results_none (by kernel_rfl) _ _ _
     ·rfl)
   | (
     refine bodyPost_ret (v:=.tuple #[]) ?_ ?_ ?_
     ·exact results_none (by kernel_rfl) _ _ _
     ·rfl)
   rw [hu'];exact⟨rfl,s5,(b3.trans b4).trans b5⟩
 ·have ha:atS t=t.prev+3:=by simp [atS,e]
  have hu:(sweeps age m t).2=if ld m (atS t)=0 then { t with look:=0,pc:=48} else { t with look:=ld m (atS t),cur:=ld m (atS t),pc:=42}:=by
   rw [ha];simp [sweeps,e]
  rw [hu] at hu';rw [e] at k1;clear ha hu;generalize ld m (atS t)=v at*
  by_cases h0:v=0
  ·subst h0;obtain⟨s4,b4⟩:=bset hB2 s2 1 (Iv 48);go_wp2_with fail
   (try simp only [Exit.inBlock,Exit.then])
   first
   | (
     refine bodyPost_end (v:=.tuple #[]) ?_ ?_ ?_
     ·exact results_none (by kernel_rfl) _ _ _
     ·rfl)
   | (
     refine bodyPost_ret (v:=.tuple #[]) ?_ ?_ ?_
     ·exact results_none (by kernel_rfl) _ _ _
     ·rfl)
   rw [hu'];exact⟨rfl,s4,b3.trans b4⟩
  ·rw [if_neg h0] at hu';obtain⟨s4,b4⟩:=bset hB2 s2 6 (Iv v);have k1':(w2.setCell ⟨X,6,none⟩ (Iv v)).cell? ⟨X,1,none⟩=some (Iv 41):=by have:=s4.blk.cell 1;rw [this,←e];rfl
   have f1':=s4.blk.frozen 1;obtain⟨s5,b5⟩:=bset (Nat.le_trans hB2 b4.size) s4 1 (Iv 42);go_wp2_with fail
   (try simp only [Exit.inBlock,Exit.then])
   first
   | (
     refine bodyPost_end (v:=.tuple #[]) ?_ ?_ ?_
     ·exact results_none (by kernel_rfl) _ _ _
     ·rfl)
   | (
     refine bodyPost_ret (v:=.tuple #[]) ?_ ?_ ?_
     ·exact results_none (by kernel_rfl) _ _ _
     ·rfl)
   rw [hu'];exact⟨rfl,s5,(b3.trans b4).trans b5⟩
 ·have ha:atS t=t.cur+1:=by simp [atS,e]
  have hu:(sweeps age m t).2=if ld m (atS t)=1 then { t with look:=1,pc:=43} else { t with look:=ld m (atS t),prev:=t.cur,pc:=41}:=by
   rw [ha];simp [sweeps,e]
  rw [hu] at hu';rw [e] at k1;clear ha hu;generalize ld m (atS t)=v at*
  by_cases h0:v=1
  ·subst h0;obtain⟨s4,b4⟩:=bset hB2 s2 1 (Iv 43);go_wp2_with fail
   (try simp only [Exit.inBlock,Exit.then])
   first
   | (
     refine bodyPost_end (v:=.tuple #[]) ?_ ?_ ?_
     ·exact results_none (by kernel_rfl) _ _ _
     ·rfl)
   | (
     refine bodyPost_ret (v:=.tuple #[]) ?_ ?_ ?_
     ·exact results_none (by kernel_rfl) _ _ _
     ·rfl)
   rw [hu'];exact⟨rfl,s4,b3.trans b4⟩
  ·rw [if_neg h0] at hu';have hb:=by_s hB2 s2;go_wp2_with fail;refine hb.mono ?_;rintro e w3 ⟨rfl,s4,b4⟩;go_wp2_with fail
   (try simp only [Exit.inBlock,Exit.then])
   first
   | (
     refine bodyPost_end (v:=.tuple #[]) ?_ ?_ ?_
     ·exact results_none (by kernel_rfl) _ _ _
     ·rfl)
   | (
     refine bodyPost_ret (v:=.tuple #[]) ?_ ?_ ?_
     ·exact results_none (by kernel_rfl) _ _ _
     ·rfl)
   rw [hu'];exact⟨rfl,s4,b3.trans b4⟩
 ·have ha:atS t=t.cur+2:=by simp [atS,e]
  have hu:(sweeps age m t).2=if IntKind.i64.wrap (t.pass-ld m (atS t))≤age then { t with look:=ld m (atS t),prev:=t.cur,pc:=41} else { t with look:=ld m (atS t),pc:=44}:=by
   have hw:∀ x,w64 x=IntKind.i64.wrap x:=fun x=>by rw [IntKind.wrap_i64];rfl
   rw [ha,←hw];simp [sweeps,e]
  rw [hu] at hu';rw [e] at k1;clear ha hu;generalize ld m (atS t)=v at*
  by_cases h0:IntKind.i64.wrap (t.pass-v)≤age
  ·rw [if_pos h0] at hu';have hb:=by_s (w:=w2.drew) hB2 (Sep.drew s2);go_wp2_with fail
   go_region_held3 (fun w'=>w'.cell? ⟨X,10,none⟩=some (Iv t.pass)∧w'.cell? ⟨X,14,none⟩=some (Iv age)) (first | (refine ⟨?_,?_⟩<;>assumption) | go_keep) (fail)
   go_wp2_with fail;refine hb.mono ?_;rintro e w3 ⟨rfl,s4,b4⟩;go_wp2_with fail
   (try simp only [Exit.inBlock,Exit.then])
   first
   | (
     refine bodyPost_end (v:=.tuple #[]) ?_ ?_ ?_
     ·exact results_none (by kernel_rfl) _ _ _
     ·rfl)
   | (
     refine bodyPost_ret (v:=.tuple #[]) ?_ ?_ ?_
     ·exact results_none (by kernel_rfl) _ _ _
     ·rfl)
   rw [hu'];exact⟨rfl,s4,(b3.drew).trans b4⟩
  ·rw [if_neg h0] at hu';obtain⟨s4,b4⟩:=bset hB2 s2 1 (Iv 44);go_wp2_with fail
   go_region_held3 (fun w'=>w'.cell? ⟨X,10,none⟩=some (Iv t.pass)∧w'.cell? ⟨X,14,none⟩=some (Iv age)) (first | (refine ⟨?_,?_⟩<;>assumption) | go_keep) (fail)
   go_wp2_with fail
   (try simp only [Exit.inBlock,Exit.then])
   first
   | (
     refine bodyPost_end (v:=.tuple #[]) ?_ ?_ ?_
     ·exact results_none (by kernel_rfl) _ _ _
     ·rfl)
   | (
     refine bodyPost_ret (v:=.tuple #[]) ?_ ?_ ?_
     ·exact results_none (by kernel_rfl) _ _ _
     ·rfl)
   rw [hu'];exact⟨rfl,Sep.drew s4,(b3.trans b4).drew⟩
end
end Go.Proofs.YtadgbhjpgnlmoaaGreat
