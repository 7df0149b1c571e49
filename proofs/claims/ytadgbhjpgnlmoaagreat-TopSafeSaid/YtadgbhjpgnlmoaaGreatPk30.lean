/- TopSafe, a part of its proof; no conditions. -/
import Derived.Test.YtadgbhjpgnlmoaaGreatPk24
import Derived.Test.YtadgbhjpgnlmoaaGreatPk29
set_option linter.all false
namespace Go.Proofs.YtadgbhjpgnlmoaaGreat
open Go.RowKit Go.Rp Go.Sf
theorem sweeps_t (w:World) (id:Int) (t:Th) (A:Option Addr) (n c:Nat):Calls Tryz.prog 86 #[thv id t A n c] w fun e w'=>e=.returned (.bool (decide (40≤t.pc∧t.pc≤48)))∧Below w.heap.size w w':=by
 unfold thv
 by_cases h1:40≤t.pc
 ·by_cases h2:t.pc≤48
  ·have e:decide (40≤t.pc∧t.pc≤48)=true:=by simp [h1,h2]
   rw [e];go_enter Tryz.func86,Tryz.ntmps86;go_wp2;go_ret;exact⟨rfl,(Below.refl _ _).alloc (Nat.le_refl _) _⟩
  ·have e:decide (40≤t.pc∧t.pc≤48)=false:=by simp [h2]
   rw [e];go_enter Tryz.func86,Tryz.ntmps86;go_wp2;go_ret;exact⟨rfl,(Below.refl _ _).alloc (Nat.le_refl _) _⟩
 ·have e:decide (40≤t.pc∧t.pc≤48)=false:=by simp [h1]
  rw [e];go_enter Tryz.func86,Tryz.ntmps86;go_wp2;go_ret;exact⟨rfl,(Below.refl _ _).alloc (Nat.le_refl _) _⟩
theorem toS {id age size:Int} {A:Option Addr} {n c p q X B:Nat} {w:World} {T:List Res} {u u':Th} {m m':List Int} (hu:u=u') (hm:m=m') (h:At B w (blkR X 234 (st' id u' A n c p age)::memR q size m'::T)):At B w (blkR X 234 (st' id u A n c p age)::memR q size m::T):=by subst hu hm;exact h
section
variable {B p n c:Nat} {w:World} {size id age:Int} {m:List Int} {L:List Res} {t:Th} {A:Option Addr}
set_option maxRecDepth 100000 in
set_option maxHeartbeats 4000000 in
theorem sstep_1 (hB:B≤w.heap.size) (hp:t.pc=40∨t.pc=41∨t.pc=42∨t.pc=43) (hn:n≤1000) (hz:FitS t) (h:At B w (itR A n c t.batch::memR p size m::L)):
  Calls Tryz.prog 111 #[Pz p,Iv age,thv id t A n c] w fun e w'=>∃ A' c',e=.returned (thv id (sweeps age m t).2 A' n c')∧At B w' (itR A' n c' t.batch::itR A n c t.batch::memR p size (sweeps age m t).1::L)∧Below B w w':=by
 obtain⟨u,hu'⟩:∃ u,u=(sweeps age m t).2:=⟨_,rfl⟩;obtain⟨m2,hm'⟩:∃ m2,m2=(sweeps age m t).1:=⟨_,rfl⟩;rw [← hu',←hm'];have hn':=Lib.hid (show n≤1000000 by omega);have hz':=hz;obtain⟨p3,c0,c1,c2,c3⟩:=hz;have hpc:=Lib.hid hp;clear hn hp;unfold thv;go_enter Tryz.func111,Tryz.ntmps111;go_wp2_with fail;have s1:=(h.alloc hB #[Iv id,Iv t.pc,Iv t.rc,Iv t.seq,Iv t.word,Iv t.look,Iv t.cur,Iv t.prev,Iv t.nth,Iv t.many,Iv t.pass,Iv t.runs,.slice A n c] 93).alloc (by simp;omega) #[Iv 0,Iv 0,Iv 0,Iv 0,Iv 0,Iv 0,Iv 0,Iv 0,Iv 0,Iv 0,Iv 0,Iv 0,.slice none 0 0] 93;simp only [World.size_alloc] at s1;have b1:=((Below.refl B w).alloc hB (.cells #[Iv id,Iv t.pc,Iv t.rc,Iv t.seq,Iv t.word,Iv t.look,Iv t.cur,Iv t.prev,Iv t.nth,Iv t.many,Iv t.pass,Iv t.runs,.slice A n c] 93)).alloc (by simp;omega) (.cells #[Iv 0,Iv 0,Iv 0,Iv 0,Iv 0,Iv 0,Iv 0,Iv 0,Iv 0,Iv 0,Iv 0,Iv 0,.slice none 0 0] 93);have hB3:=Nat.le_trans hB b1.size
 generalize (w.alloc _).alloc _=w3 at*;generalize w.heap.size+1=x1 at*;generalize w.heap.size=x0 at*;refine(cloneItem_s hB3 s1.rot3 (one_itC _) hn'.out).mono ?_;rintro e w4 ⟨A4,c4,rfl,s4,b4⟩;have s5:=s4.rot4;have hB4:=Nat.le_trans hB3 b4.size;have b5:=b1.trans b4;clear s1 b1 b4 s4;have k0:=s5.cv 0 (Iv id);have k1:=s5.cv 1 (Iv t.pc);have k2:=s5.cv 2 (Iv t.rc);have k3:=s5.cv 3 (Iv t.seq);have k4:=s5.cv 4 (Iv t.word);have k5:=s5.cv 5 (Iv t.look);have k6:=s5.cv 6 (Iv t.cur);have k7:=s5.cv 7 (Iv t.prev);have k8:=s5.cv 8 (Iv t.nth);have k9:=s5.cv 9 (Iv t.many);have k10:=s5.cv 10 (Iv t.pass);have k11:=s5.cv 11 (Iv t.runs);have k12:=s5.cv 12 (.slice A n c);have hf:=s5.blk.frozen 12;obtain⟨s6,b6⟩:=bset hB4 s5 12 (.slice A4 n c4);have hB6:=Nat.le_trans hB4 b6.size
 have s7g:∀ cs,At B ((w4.setCell ⟨x0,12,none⟩ (.slice A4 n c4)).alloc (.cells cs 234)) (blkR w4.heap.size 234 cs::memR p size m::blkR x0 93 #[Iv id,Iv t.pc,Iv t.rc,Iv t.seq,Iv t.word,Iv t.look,Iv t.cur,Iv t.prev,Iv t.nth,Iv t.many,Iv t.pass,Iv t.runs,.slice A4 n c4]::blkR x1 93 #[Iv 0,Iv 0,Iv 0,Iv 0,Iv 0,Iv 0,Iv 0,Iv 0,Iv 0,Iv 0,Iv 0,Iv 0,.slice none 0 0]::itR A4 n c4 t.batch::itR A n c t.batch::L):=by
  intro cs;have h1:=s6.alloc hB6 cs 234;rw [show (w4.setCell ⟨x0,12,none⟩ (.slice A4 n c4)).heap.size=w4.heap.size by simp [World.setCell]] at h1;exact Sep.cons (fun _ h=>Sep.cons (fun _ h=>Sep.cons (fun _ h=>Sep.rot3 h) h) (Sep.rot5 h)) h1
 have b7:∀ cs,Below B w ((w4.setCell ⟨x0,12,none⟩ (.slice A4 n c4)).alloc (.cells cs 234)):=fun cs=>b5.trans (b6.alloc hB6 (.cells cs 234));have hB7:∀ cs,B≤((w4.setCell ⟨x0,12,none⟩ (.slice A4 n c4)).alloc (.cells cs 234)).heap.size:=fun cs=>Nat.le_trans hB6 (by simp);have s7:=s7g (st' id t A4 n c4 p age);have a1:((w4.setCell ⟨x0,12,none⟩ (.slice A4 n c4)).alloc (.cells (st' id t A4 n c4 p age) 234)).cell? ⟨x0,1,none⟩=some (Iv t.pc):=s7.rot3.blk.cell 1;unfold st' at a1;have hu2:=hu';have hm2:m2=m:=by rw [hm'];rcases hpc.out with e | e | e | e<;>simp [sweeps,e]
 rcases hpc.out with e | e | e | e
 all_goals
  rw [e] at a1 k1;have hs:=seek_s (hB7 _) (by simp [e]) hz' s7;rw [show st' id t A4 n c4 p age=#[Iv id,Iv t.pc,Iv t.rc,Iv t.seq,Iv t.word,Iv t.look,Iv t.cur,Iv t.prev,Iv t.nth,Iv t.many,Iv t.pass,Iv t.runs,.slice A4 n c4,Pz p,Iv age] from rfl,e] at hs;go_wp2_with fail;refine hs.mono ?_;rintro e w9 ⟨rfl,s9,b9⟩;clear a1 hs k0 k1 k2 k3 k4 k5 k6 k7 k8 k9 k10 k11 k12;have s11:=toS hu2 hm2 s9
  clear hu2 hm2;clear hu' hm'
  (try clear hu2')
  have b11:=((b7 _).trans b9);have hB11:B≤w9.heap.size:=Nat.le_trans (hB7 _) b9.size
  clear e;have q0:=s11.blk.cell 0;have q1:=s11.blk.cell 1;have q2:=s11.blk.cell 2;have q3:=s11.blk.cell 3;have q4:=s11.blk.cell 4;have q5:=s11.blk.cell 5;have q6:=s11.blk.cell 6;have q7:=s11.blk.cell 7;have q8:=s11.blk.cell 8;have q9:=s11.blk.cell 9;have q10:=s11.blk.cell 10;have q11:=s11.blk.cell 11;have q12:=s11.blk.cell 12;unfold st' at q0 q1 q2 q3 q4 q5 q6 q7 q8 q9 q10 q11 q12;have s12:=Sep.rot4 s11;have y0:=s12.blk.cell 0;have g0:=s12.blk.frozen 0;have y1:=s12.blk.cell 1;have g1:=s12.blk.frozen 1;have y2:=s12.blk.cell 2;have g2:=s12.blk.frozen 2;have y3:=s12.blk.cell 3;have g3:=s12.blk.frozen 3;have y4:=s12.blk.cell 4;have g4:=s12.blk.frozen 4;have y5:=s12.blk.cell 5;have g5:=s12.blk.frozen 5;have y6:=s12.blk.cell 6;have g6:=s12.blk.frozen 6;have y7:=s12.blk.cell 7;have g7:=s12.blk.frozen 7;have y8:=s12.blk.cell 8;have g8:=s12.blk.frozen 8;have y9:=s12.blk.cell 9;have g9:=s12.blk.frozen 9
  have y10:=s12.blk.cell 10;have g10:=s12.blk.frozen 10;have y11:=s12.blk.cell 11;have g11:=s12.blk.frozen 11;have y12:=s12.blk.cell 12;have g12:=s12.blk.frozen 12;obtain⟨s13,b13⟩:=bset13 hB11 s12 rfl (Iv id) (Iv u.pc) (Iv u.rc) (Iv u.seq) (Iv u.word) (Iv u.look) (Iv u.cur) (Iv u.prev) (Iv u.nth) (Iv u.many) (Iv u.pass) (Iv u.runs) (.slice A4 n c4);go_wp2_with fail;clear q0 q1 q2 q3 q4 q5 q6 q7 q8 q9 q10 q11 q12 y0 y1 y2 y3 y4 y5 y6 y7 y8 y9 y10 y11 y12 g0 g1 g2 g3 g4 g5 g6 g7 g8 g9 g10 g11 g12;generalize (World.setCell _ ⟨x1,12,none⟩ _)=wA at*;have r0:=s13.blk.cell 0;have r1:=s13.blk.cell 1;have r2:=s13.blk.cell 2;have r3:=s13.blk.cell 3;have r4:=s13.blk.cell 4;have r5:=s13.blk.cell 5;have r6:=s13.blk.cell 6;have r7:=s13.blk.cell 7;have r8:=s13.blk.cell 8;have r9:=s13.blk.cell 9;have r10:=s13.blk.cell 10;have r11:=s13.blk.cell 11;have r12:=s13.blk.cell 12;refine bodyPost_ret (v:=thv id u A4 n c4) (by simp [results,Tryz.results111,go_sem,r0,r1,r2,r3,r4,r5,r6,r7,r8,r9,r10,r11,r12,thv]) rfl ?_
  have s14:=Sep.drop (Sep.drop s13);have s15:At B wA (itR A4 n c4 t.batch::itR A n c t.batch::memR p size m2::L):=Sep.cons (fun _ h=>Sep.rot2 h) (Sep.rot2 (Sep.cons (fun _ h=>h.drop) s14));exact⟨A4,c4,rfl,s15,b11.trans b13⟩
set_option maxRecDepth 100000 in
set_option maxHeartbeats 4000000 in
theorem sstep_2 (hB:B≤w.heap.size) (hp:t.pc=44∨t.pc=45∨t.pc=46∨t.pc=47∨t.pc=48) (hn:n≤1000) (hz:FitS t) (h:At B w (itR A n c t.batch::memR p size m::L)):
  Calls Tryz.prog 111 #[Pz p,Iv age,thv id t A n c] w fun e w'=>∃ A' c',e=.returned (thv id (sweeps age m t).2 A' n c')∧At B w' (itR A' n c' t.batch::itR A n c t.batch::memR p size (sweeps age m t).1::L)∧Below B w w':=by
 obtain⟨u,hu'⟩:∃ u,u=(sweeps age m t).2:=⟨_,rfl⟩;obtain⟨m2,hm'⟩:∃ m2,m2=(sweeps age m t).1:=⟨_,rfl⟩;rw [← hu',←hm'];have hn':=Lib.hid (show n≤1000000 by omega);have hz':=hz;obtain⟨p3,c0,c1,c2,c3⟩:=hz;have hpc:=Lib.hid hp;clear hn hp;unfold thv;go_enter Tryz.func111,Tryz.ntmps111;go_wp2_with fail;have s1:=(h.alloc hB #[Iv id,Iv t.pc,Iv t.rc,Iv t.seq,Iv t.word,Iv t.look,Iv t.cur,Iv t.prev,Iv t.nth,Iv t.many,Iv t.pass,Iv t.runs,.slice A n c] 93).alloc (by simp;omega) #[Iv 0,Iv 0,Iv 0,Iv 0,Iv 0,Iv 0,Iv 0,Iv 0,Iv 0,Iv 0,Iv 0,Iv 0,.slice none 0 0] 93;simp only [World.size_alloc] at s1;have b1:=((Below.refl B w).alloc hB (.cells #[Iv id,Iv t.pc,Iv t.rc,Iv t.seq,Iv t.word,Iv t.look,Iv t.cur,Iv t.prev,Iv t.nth,Iv t.many,Iv t.pass,Iv t.runs,.slice A n c] 93)).alloc (by simp;omega) (.cells #[Iv 0,Iv 0,Iv 0,Iv 0,Iv 0,Iv 0,Iv 0,Iv 0,Iv 0,Iv 0,Iv 0,Iv 0,.slice none 0 0] 93);have hB3:=Nat.le_trans hB b1.size
 generalize (w.alloc _).alloc _=w3 at*;generalize w.heap.size+1=x1 at*;generalize w.heap.size=x0 at*;refine(cloneItem_s hB3 s1.rot3 (one_itC _) hn'.out).mono ?_;rintro e w4 ⟨A4,c4,rfl,s4,b4⟩;have s5:=s4.rot4;have hB4:=Nat.le_trans hB3 b4.size;have b5:=b1.trans b4;clear s1 b1 b4 s4;have k0:=s5.cv 0 (Iv id);have k1:=s5.cv 1 (Iv t.pc);have k2:=s5.cv 2 (Iv t.rc);have k3:=s5.cv 3 (Iv t.seq);have k4:=s5.cv 4 (Iv t.word);have k5:=s5.cv 5 (Iv t.look);have k6:=s5.cv 6 (Iv t.cur);have k7:=s5.cv 7 (Iv t.prev);have k8:=s5.cv 8 (Iv t.nth);have k9:=s5.cv 9 (Iv t.many);have k10:=s5.cv 10 (Iv t.pass);have k11:=s5.cv 11 (Iv t.runs);have k12:=s5.cv 12 (.slice A n c);have hf:=s5.blk.frozen 12;obtain⟨s6,b6⟩:=bset hB4 s5 12 (.slice A4 n c4);have hB6:=Nat.le_trans hB4 b6.size
 have s7g:∀ cs,At B ((w4.setCell ⟨x0,12,none⟩ (.slice A4 n c4)).alloc (.cells cs 234)) (blkR w4.heap.size 234 cs::memR p size m::blkR x0 93 #[Iv id,Iv t.pc,Iv t.rc,Iv t.seq,Iv t.word,Iv t.look,Iv t.cur,Iv t.prev,Iv t.nth,Iv t.many,Iv t.pass,Iv t.runs,.slice A4 n c4]::blkR x1 93 #[Iv 0,Iv 0,Iv 0,Iv 0,Iv 0,Iv 0,Iv 0,Iv 0,Iv 0,Iv 0,Iv 0,Iv 0,.slice none 0 0]::itR A4 n c4 t.batch::itR A n c t.batch::L):=by
  intro cs;have h1:=s6.alloc hB6 cs 234;rw [show (w4.setCell ⟨x0,12,none⟩ (.slice A4 n c4)).heap.size=w4.heap.size by simp [World.setCell]] at h1;exact Sep.cons (fun _ h=>Sep.cons (fun _ h=>Sep.cons (fun _ h=>Sep.rot3 h) h) (Sep.rot5 h)) h1
 have b7:∀ cs,Below B w ((w4.setCell ⟨x0,12,none⟩ (.slice A4 n c4)).alloc (.cells cs 234)):=fun cs=>b5.trans (b6.alloc hB6 (.cells cs 234));have hB7:∀ cs,B≤((w4.setCell ⟨x0,12,none⟩ (.slice A4 n c4)).alloc (.cells cs 234)).heap.size:=fun cs=>Nat.le_trans hB6 (by simp);have s7:=s7g (st' id t A4 n c4 p age);have a1:((w4.setCell ⟨x0,12,none⟩ (.slice A4 n c4)).alloc (.cells (st' id t A4 n c4 p age) 234)).cell? ⟨x0,1,none⟩=some (Iv t.pc):=s7.rot3.blk.cell 1;have a5:((w4.setCell ⟨x0,12,none⟩ (.slice A4 n c4)).alloc (.cells (st' id t A4 n c4 p age) 234)).cell? ⟨x0,5,none⟩=some (Iv t.look):=s7.rot3.blk.cell 5;have a6:((w4.setCell ⟨x0,12,none⟩ (.slice A4 n c4)).alloc (.cells (st' id t A4 n c4 p age) 234)).cell? ⟨x0,6,none⟩=some (Iv t.cur):=s7.rot3.blk.cell 6;have a7:((w4.setCell ⟨x0,12,none⟩ (.slice A4 n c4)).alloc (.cells (st' id t A4 n c4 p age) 234)).cell? ⟨x0,7,none⟩=some (Iv t.prev):=s7.rot3.blk.cell 7;unfold st' at a1 a5 a6 a7
 rcases hpc.out with e | e | e | e | e
 case' inl=>
  have hu2':u=if sw m t.cur 0 then { t with pc:=45} else { t with prev:=t.cur,pc:=41}:=by rw [hu'];simp [sweeps,e]
  have hm2:m2=sm m t.cur 0 (-1):=by rw [hm'];simp [sweeps,e]
  rw [e] at a1 a5 a6 a7 k1;have s8:=s7g (st' id { t with pc:=45} A4 n c4 p age);have a6':=s8.rot3.blk.cell 6;unfold st' at a6';have hs:=swap_s (hB7 _) s8.rot2 t.cur 0 (-1);unfold st' at hs;generalize (if inb m t.cur then(0:Int) else 10)=er at hs
  rcases hb:sw m t.cur 0 with _ | _
  case' inl.false=>
   rw [hb] at hs hu2';rw [if_neg (by simp)] at hu2';go_wp2_with fail;refine hs.mono ?_;rintro e w9 ⟨rfl,s9,b9⟩;clear a1 a5 a6 a7 a6' hs k0 k1 k2 k3 k4 k5 k6 k7 k8 k9 k10 k11 k12;have hy:=by_s (t:= { t with pc:=45}) (A:=A4) (n:=n) (c:=c4) (p:=p) (id:=id) (age:=age) (X:=w4.heap.size) (Nat.le_trans (hB7 _) b9.size) s9.rot2;go_wp2_with fail;refine hy.mono ?_;rintro e w10 ⟨rfl,s10,b10⟩;have hu2:=hu2';clear hu2';have s11:=toS hu2 hm2 s10
   clear hu2 hm2;clear hu' hm'
   (try clear hu2')
   have b11:=(((b7 _).trans b9).trans b10);have hB11:B≤w10.heap.size:=Nat.le_trans (hB7 _) (b9.trans b10).size
  case' inl.true=>
   rw [hb] at hs hu2';rw [if_pos rfl] at hu2';go_wp2_with fail;refine hs.mono ?_;rintro e w9 ⟨rfl,s9,b9⟩;clear a1 a5 a6 a7 a6' hs k0 k1 k2 k3 k4 k5 k6 k7 k8 k9 k10 k11 k12;have hu2:=hu2';clear hu2';have s11:=toS hu2 hm2 s9.rot2
   clear hu2 hm2;clear hu' hm'
   (try clear hu2')
   have b11:=((b7 _).trans b9);have hB11:B≤w9.heap.size:=Nat.le_trans (hB7 _) b9.size
 case' inr.inl=>
  have hu2:u= { t with look:=ld m (t.cur+3),pc:=46}:=by rw [hu'];simp [sweeps,e]
  have hm2:m2=m:=by rw [hm'];simp [sweeps,e]
  rw [e] at a1 a5 a6 a7 k1;have hs:=sload_s (hB7 _) s7 (t.cur+3);rw [show st' id t A4 n c4 p age=#[Iv id,Iv 45,Iv t.rc,Iv t.seq,Iv t.word,Iv t.look,Iv t.cur,Iv t.prev,Iv t.nth,Iv t.many,Iv t.pass,Iv t.runs,.slice A4 n c4,Pz p,Iv age] from by simp only [st',e]] at hs
  skip
  go_wp2_with fail;refine hs.mono ?_;rintro e w9 ⟨rfl,s9,b9⟩;clear a1 a5 a6 a7 hs k0 k1 k2 k3 k4 k5 k6 k7 k8 k9 k10 k11 k12;have s9':=s9;have d1:=s9'.blk.cell 1
  try unfold st' at d1
  have f1:=s9'.blk.frozen 1;have hB9:=Nat.le_trans (hB7 _) b9.size;obtain⟨s10,b10⟩:=bset hB9 s9' 1 (Iv 46);have s11:=toS hu2 hm2 s10
  clear hu2 hm2;clear hu' hm'
  (try clear hu2')
  have b11:=(((b7 _).trans b9).trans b10);have hB11:B≤(w9.setCell ⟨w4.heap.size,1,none⟩ (Iv 46)).heap.size:=Nat.le_trans (hB7 _) (b9.trans b10).size
 case' inr.inr.inl=>
  have hu2:u= { t with pc:=47}:=by rw [hu'];simp [sweeps,e]
  have hm2:m2=st m (t.prev+3) t.look:=by rw [hm'];simp [sweeps,e]
  rw [e] at a1 a5 a6 a7 k1;have hs:=store_s (hB7 _) s7.rot2 (t.prev+3) t.look;rw [show st' id t A4 n c4 p age=#[Iv id,Iv 46,Iv t.rc,Iv t.seq,Iv t.word,Iv t.look,Iv t.cur,Iv t.prev,Iv t.nth,Iv t.many,Iv t.pass,Iv t.runs,.slice A4 n c4,Pz p,Iv age] from by simp only [st',e]] at hs;generalize (if inb _ _ then(0:Int) else 10)=er at hs;go_wp2_with fail;refine hs.mono ?_;rintro e w9 ⟨rfl,s9,b9⟩;clear a1 a5 a6 a7 hs k0 k1 k2 k3 k4 k5 k6 k7 k8 k9 k10 k11 k12;have s9':=s9.rot2;have d1:=s9'.blk.cell 1
  try unfold st' at d1
  have f1:=s9'.blk.frozen 1;have hB9:=Nat.le_trans (hB7 _) b9.size;obtain⟨s10,b10⟩:=bset hB9 s9' 1 (Iv 47);have s11:=toS hu2 hm2 s10
  clear hu2 hm2;clear hu' hm'
  (try clear hu2')
  have b11:=(((b7 _).trans b9).trans b10);have hB11:B≤(w9.setCell ⟨w4.heap.size,1,none⟩ (Iv 47)).heap.size:=Nat.le_trans (hB7 _) (b9.trans b10).size
 case' inr.inr.inr.inl=>
  have hu2:u= { t with pc:=41}:=by rw [hu'];simp [sweeps,e]
  have hm2:m2=st m (t.cur+1) 0:=by rw [hm'];simp [sweeps,e]
  rw [e] at a1 a5 a6 a7 k1;have hs:=store_s (hB7 _) s7.rot2 (t.cur+1) 0;rw [show st' id t A4 n c4 p age=#[Iv id,Iv 47,Iv t.rc,Iv t.seq,Iv t.word,Iv t.look,Iv t.cur,Iv t.prev,Iv t.nth,Iv t.many,Iv t.pass,Iv t.runs,.slice A4 n c4,Pz p,Iv age] from by simp only [st',e]] at hs;generalize (if inb _ _ then(0:Int) else 10)=er at hs;go_wp2_with fail;refine hs.mono ?_;rintro e w9 ⟨rfl,s9,b9⟩;clear a1 a5 a6 a7 hs k0 k1 k2 k3 k4 k5 k6 k7 k8 k9 k10 k11 k12;have s9':=s9.rot2;have d1:=s9'.blk.cell 1
  try unfold st' at d1
  have f1:=s9'.blk.frozen 1;have hB9:=Nat.le_trans (hB7 _) b9.size;obtain⟨s10,b10⟩:=bset hB9 s9' 1 (Iv 41);have s11:=toS hu2 hm2 s10
  clear hu2 hm2;clear hu' hm'
  (try clear hu2')
  have b11:=(((b7 _).trans b9).trans b10);have hB11:B≤(w9.setCell ⟨w4.heap.size,1,none⟩ (Iv 41)).heap.size:=Nat.le_trans (hB7 _) (b9.trans b10).size
 case' inr.inr.inr.inr=>
  have hu2:u= { t with pc:=11}:=by rw [hu'];simp [sweeps,e]
  have hm2:m2=st m 0 0:=by rw [hm'];simp [sweeps,e]
  rw [e] at a1 a5 a6 a7 k1;have hs:=store_s (hB7 _) s7.rot2 0 0;rw [show st' id t A4 n c4 p age=#[Iv id,Iv 48,Iv t.rc,Iv t.seq,Iv t.word,Iv t.look,Iv t.cur,Iv t.prev,Iv t.nth,Iv t.many,Iv t.pass,Iv t.runs,.slice A4 n c4,Pz p,Iv age] from by simp only [st',e]] at hs;generalize (if inb _ _ then(0:Int) else 10)=er at hs;go_wp2_with fail;refine hs.mono ?_;rintro e w9 ⟨rfl,s9,b9⟩;clear a1 a5 a6 a7 hs k0 k1 k2 k3 k4 k5 k6 k7 k8 k9 k10 k11 k12;have s9':=s9.rot2;have d1:=s9'.blk.cell 1
  try unfold st' at d1
  have f1:=s9'.blk.frozen 1;have hB9:=Nat.le_trans (hB7 _) b9.size;obtain⟨s10,b10⟩:=bset hB9 s9' 1 (Iv 11);have s11:=toS hu2 hm2 s10
  clear hu2 hm2;clear hu' hm'
  (try clear hu2')
  have b11:=(((b7 _).trans b9).trans b10);have hB11:B≤(w9.setCell ⟨w4.heap.size,1,none⟩ (Iv 11)).heap.size:=Nat.le_trans (hB7 _) (b9.trans b10).size
 all_goals
  clear e;have q0:=s11.blk.cell 0;have q1:=s11.blk.cell 1;have q2:=s11.blk.cell 2;have q3:=s11.blk.cell 3;have q4:=s11.blk.cell 4;have q5:=s11.blk.cell 5;have q6:=s11.blk.cell 6;have q7:=s11.blk.cell 7;have q8:=s11.blk.cell 8;have q9:=s11.blk.cell 9;have q10:=s11.blk.cell 10;have q11:=s11.blk.cell 11;have q12:=s11.blk.cell 12;unfold st' at q0 q1 q2 q3 q4 q5 q6 q7 q8 q9 q10 q11 q12;have s12:=Sep.rot4 s11;have y0:=s12.blk.cell 0;have g0:=s12.blk.frozen 0;have y1:=s12.blk.cell 1;have g1:=s12.blk.frozen 1;have y2:=s12.blk.cell 2;have g2:=s12.blk.frozen 2;have y3:=s12.blk.cell 3;have g3:=s12.blk.frozen 3;have y4:=s12.blk.cell 4;have g4:=s12.blk.frozen 4;have y5:=s12.blk.cell 5;have g5:=s12.blk.frozen 5;have y6:=s12.blk.cell 6;have g6:=s12.blk.frozen 6;have y7:=s12.blk.cell 7;have g7:=s12.blk.frozen 7;have y8:=s12.blk.cell 8;have g8:=s12.blk.frozen 8;have y9:=s12.blk.cell 9;have g9:=s12.blk.frozen 9
  have y10:=s12.blk.cell 10;have g10:=s12.blk.frozen 10;have y11:=s12.blk.cell 11;have g11:=s12.blk.frozen 11;have y12:=s12.blk.cell 12;have g12:=s12.blk.frozen 12;obtain⟨s13,b13⟩:=bset13 hB11 s12 rfl (Iv id) (Iv u.pc) (Iv u.rc) (Iv u.seq) (Iv u.word) (Iv u.look) (Iv u.cur) (Iv u.prev) (Iv u.nth) (Iv u.many) (Iv u.pass) (Iv u.runs) (.slice A4 n c4);go_wp2_with fail;clear q0 q1 q2 q3 q4 q5 q6 q7 q8 q9 q10 q11 q12 y0 y1 y2 y3 y4 y5 y6 y7 y8 y9 y10 y11 y12 g0 g1 g2 g3 g4 g5 g6 g7 g8 g9 g10 g11 g12;generalize (World.setCell _ ⟨x1,12,none⟩ _)=wA at*;have r0:=s13.blk.cell 0;have r1:=s13.blk.cell 1;have r2:=s13.blk.cell 2;have r3:=s13.blk.cell 3;have r4:=s13.blk.cell 4;have r5:=s13.blk.cell 5;have r6:=s13.blk.cell 6;have r7:=s13.blk.cell 7;have r8:=s13.blk.cell 8;have r9:=s13.blk.cell 9;have r10:=s13.blk.cell 10;have r11:=s13.blk.cell 11;have r12:=s13.blk.cell 12;refine bodyPost_ret (v:=thv id u A4 n c4) (by simp [results,Tryz.results111,go_sem,r0,r1,r2,r3,r4,r5,r6,r7,r8,r9,r10,r11,r12,thv]) rfl ?_
  have s14:=Sep.drop (Sep.drop s13);have s15:At B wA (itR A4 n c4 t.batch::itR A n c t.batch::memR p size m2::L):=Sep.cons (fun _ h=>Sep.rot2 h) (Sep.rot2 (Sep.cons (fun _ h=>h.drop) s14));exact⟨A4,c4,rfl,s15,b11.trans b13⟩
theorem sstep_s (hB:B≤w.heap.size) (h1:40≤t.pc) (h2:t.pc≤48) (hn:n≤1000) (hz:FitS t) (h:At B w (itR A n c t.batch::memR p size m::L)):
  Calls Tryz.prog 111 #[Pz p,Iv age,thv id t A n c] w fun e w'=>∃ A' c',e=.returned (thv id (sweeps age m t).2 A' n c')∧At B w' (itR A' n c' t.batch::itR A n c t.batch::memR p size (sweeps age m t).1::L)∧Below B w w':=by
 by_cases hp:t.pc=40∨t.pc=41∨t.pc=42∨t.pc=43
 ·exact sstep_1 hB hp hn hz h
 ·exact sstep_2 hB (by omega) hn hz h
end
end Go.Proofs.YtadgbhjpgnlmoaaGreat
