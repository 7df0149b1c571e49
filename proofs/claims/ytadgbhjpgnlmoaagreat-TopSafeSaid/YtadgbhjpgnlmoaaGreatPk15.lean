/- TopSafe, a part of its proof; no conditions. -/
import Derived.Test.YtadgbhjpgnlmoaaGreatPk14
set_option linter.all false
namespace Go.Proofs.YtadgbhjpgnlmoaaGreat.Stk
set_option maxRecDepth 100000
open Go.RowKit Go.Rp Go.Rp.Stk
theorem apply_o1 {B be mo:Nat} {w w2:World} {L:List Res} (hlm:be≤mo) (hmo:mo≤1000) (hB2:B≤w2.heap.size) (b2:Below B w w2) (s2:At B w2 L):
  At B ((w2.alloc (.cells #[.slice none 0 0,Iv (be:Int),Iv (mo:Int)] 293)).alloc (.cells #[Pz w2.heap.size] 291)).drew (meetR w2.heap.size mo ([],be)::blkR (w2.heap.size+1) 291 #[Pz w2.heap.size]::L)∧Below B w ((w2.alloc (.cells #[.slice none 0 0,Iv (be:Int),Iv (mo:Int)] 293)).alloc (.cells #[Pz w2.heap.size] 291)).drew:=by
 have s3:=(meet_new hB2 hlm hmo s2).alloc (by simp;omega) #[Pz w2.heap.size] 291;simp only [World.size_alloc] at s3;exact⟨s3.drew.rot2,((b2.alloc hB2 _).alloc (by simp;omega) _).drew⟩
theorem apply_o2 {B be mo:Nat} {w w2:World} {L:List Res} (hlm:be≤mo) (hmo:mo≤1000) (hB2:B≤w2.heap.size) (b2:Below B w w2) (s2:At B w2 L):
  At B ((w2.alloc (.cells #[Pz (w2.heap.size+1)] 291)).alloc (.cells #[.slice none 0 0,Iv (be:Int),Iv (mo:Int)] 293)).drew (meetR (w2.heap.size+1) mo ([],be)::blkR w2.heap.size 291 #[Pz (w2.heap.size+1)]::L)∧Below B w ((w2.alloc (.cells #[Pz (w2.heap.size+1)] 291)).alloc (.cells #[.slice none 0 0,Iv (be:Int),Iv (mo:Int)] 293)).drew:=by
 have s3:=meet_new (B:=B) (by simp;omega) hlm hmo (s2.alloc hB2 #[Pz (w2.heap.size+1)] 291);simp only [World.size_alloc] at s3;exact⟨s3.drew,((b2.alloc hB2 _).alloc (by simp;omega) _).drew⟩
section
variable {B:Nat} {w W:World} {L:List Res} {A:Option Addr} {n c bv bo bs gv k:Nat} {ops:List (Int×Int)}
theorem take_last {l0:List Int} {b:Nat} (h0:0<b) (h:b≤l0.length):l0.take b=l0.take (b-1)++[l0[b-1]?.getD 0]:=by
 obtain⟨b,rfl⟩:∃ b',b=b'+1:=⟨b-1,by omega⟩;rw [List.take_succ_eq_append_getElem (by omega)];simp [show b<l0.length by omega]
theorem met_y {j be p mo:Nat} {l0:List Int} (hle:B≤w.heap.size) (hb:Below B w W) (hbe:l0.length=be) (hn:ops.length=n) (hlen:n≤100000) {R:Nat→Prop} (hr:Rd W R 2 A n (ops.flatMap opIn)) (hk:k<n) (hj:(mStep mo k (kindAt ops k) (mAt mo be ops k)).2=((j:Int),2))
  (hW:At B W (valsR gv n (fillL n k (vV l0 mo ops) (Iw 0))::vboxR bv gv n::oboxR bo A n c::sboxR bs (some ⟨p,0,none⟩)::stk p mo (l0.take (mAt mo be ops k).2)::L)):
  Calls Tryz.prog 220 #[Iv (k:Int),Iv (j:Int),Pz bo,Pz bv] W fun e w'=>e=.returned (.tuple #[])∧At B w' (valsR gv n (fillL n (k+1) (vV l0 mo ops) (Iw 0))::vboxR bv gv n::oboxR bo A n c::sboxR bs (some ⟨p,0,none⟩)::stk p mo (l0.take (mAt mo be ops (k+1)).2)::L)∧Below B W w':=by
 subst hbe;have hj1:mPair mo l0.length ops k=(j:Int):=by unfold mPair;rw [hj]
 have hjk:j<k:=by
  obtain⟨_,l,hl⟩:=mPair_met hj1;exact mAt_lt _ _ _ _ _ (by rw [hl];simp)
 have hb2:(mAt mo l0.length ops (k+1)).2=(mAt mo l0.length ops k).2:=by
  rw [mAt_succ (by omega)]
  rcases below_step mo k (kindAt ops k) (mAt mo l0.length ops k) with ⟨e,_⟩ | ⟨e,_⟩
  ·exact e
  ·rw [hj] at e;simp only [Prod.mk.injEq] at e;omega
 rw [hb2];have:=met2_s (Nat.le_trans hle hb.size) hW hr hn hk (show j<n by omega) hlen (u:=Iw 0) (by rw [List.getElem?_eq_getElem (by rw [fillL_length];exact hk),fillL_get _ _ _ _ _ hk,if_neg (by omega)])
 rwa [fillL_succ n k (vV l0 mo ops) _ _ (by unfold vV;rw [mVal_met hj1])] at this
theorem taken_y {be p mo:Nat} {l0:List Int} (hle:B≤w.heap.size) (hb:Below B w W) (hbe:l0.length=be) (hn:ops.length=n) (hlen:n≤100000) (hk:k<n) (hj:(mStep mo k (kindAt ops k) (mAt mo be ops k)).2=(-1,2))
  (hW:At B W (valsR gv n (fillL n k (vV l0 mo ops) (Iw 0))::vboxR bv gv n::oboxR bo A n c::sboxR bs (some ⟨p,0,none⟩)::stk p mo (l0.take (mAt mo be ops k).2)::L)):
  Calls Tryz.prog 221 #[Iv (k:Int),Pz bs,Pz bv] W fun e w'=>e=.returned (.tuple #[])∧At B w' (valsR gv n (fillL n (k+1) (vV l0 mo ops) (Iw 0))::vboxR bv gv n::oboxR bo A n c::sboxR bs (some ⟨p,0,none⟩)::stk p mo (l0.take (mAt mo be ops (k+1)).2)::L)∧Below B W w':=by
 subst hbe;have hj1:mPair mo l0.length ops k= -1:=by unfold mPair;rw [hj]
 have hj2:mCode mo l0.length ops k=2:=by unfold mCode;rw [hj]
 obtain⟨hpos,hb2⟩:0<(mAt mo l0.length ops k).2∧(mAt mo l0.length ops (k+1)).2=(mAt mo l0.length ops k).2-1:=by
  rw [mAt_succ (by omega)]
  rcases below_step mo k (kindAt ops k) (mAt mo l0.length ops k) with ⟨_,e⟩ | ⟨_,e1,e2,_⟩
  ·exact absurd hj e
  ·exact⟨e2,e1⟩
 have hle2:=mAt_below_le mo l0.length ops k;have hv:=mVal_taken hj1 hj2;rw [hb2];rw [take_last hpos hle2] at hW;have:=taken2_s (Nat.le_trans hle hb.size) (Sep.cons (fun _ h=>Sep.cons (fun _ h=>h.rot3.rot3) h) hW) hk hlen (u:=Iw 0) (by rw [List.getElem?_eq_getElem (by rw [fillL_length];exact hk),fillL_get _ _ _ _ _ hk,if_neg (by omega)]);rw [fillL_succ n k (vV l0 mo ops) _ _ (by unfold vV;rw [hv])] at this;exact this.mono fun e w' ⟨he,hs,hb⟩=>⟨he,Sep.cons (fun _ h=>Sep.cons (fun _ h=>h.rot3) h) hs,hb⟩
end
set_option maxRecDepth 100000 in
set_option maxHeartbeats 4000000 in
theorem Apply_y {B:Nat} {w:World} {L:List Res} {p mo:Nat} {l0:List Int} {A:Option Addr} {n c:Nat} {ops:List (Int×Int)} (hB:B≤w.heap.size) (h:At B w (stk p mo l0::L)) (hn:ops.length=n) (h8:∀ o∈ops,0≤o.1∧o.1≤255) (hlen:n≤100000) (hrd:∀ W L',Below B w W→At B W (L++L')→∃ R,Rd W R 2 A n (ops.flatMap opIn)):
  Calls Tryz.prog 213 #[Pz p,.slice A n c] w fun e w'=>
   ∃ g,e=.returned (.slice (some ⟨g,0,none⟩) n n)∧At B w' (slRes 47 2 (some ⟨g,0,none⟩) n n ((toldK n (mCode mo l0.length ops) (mVal l0 mo ops) n).flatMap resIn)::stk p mo (mEnd l0 ops (mAt mo l0.length ops n))::L)∧Below B w w':=by
 have hmf:∀ (fn:Fn) (first cap:Array Value) (w:World),(Instr.makeFunc fn first cap).run Tryz.prog w=.ok (.func fn first cap) w:=fun _ _ _ _=>rfl;obtain⟨hlm,hmo⟩:=stk_len h;obtain⟨i0,hi0,hz0,hz1,hz2⟩:=info_parts info_i32;have hz3:i0.bytes*n≤281474976710656:=by rw [hz2];omega
 obtain⟨be,hbe⟩:∃ be,l0.length=be:=⟨_,rfl⟩;rw [hbe] at hlm;have HBE:=Lib.hid hbe;have HN:=Lib.hid hn;have s1:At B (w.alloc (.cells #[Pz p] 123)) (sboxR w.heap.size (some ⟨p,0,none⟩)::stk p mo l0::L):=h.alloc hB _ _
 have s2:At B ((w.alloc (.cells #[Pz p] 123)).alloc (.cells #[.slice A n c] 81)) (oboxR (w.heap.size+1) A n c::sboxR w.heap.size (some ⟨p,0,none⟩)::stk p mo l0::L):=by
  have:=s1.alloc (by simp;omega) #[.slice A n c] 81
  rwa [World.size_alloc] at this
 have b2:Below B w ((w.alloc (.cells #[Pz p] 123)).alloc (.cells #[.slice A n c] 81)):=((Below.refl B w).alloc hB _).alloc (by simp;omega) _;clear s1 hn hbe
 go_enter_defers Tryz.func213,Tryz.ntmps213
 go_wp2_with fail;generalize (w.alloc (.cells #[Pz p] 123)).alloc (.cells #[.slice A n c] 81)=w2 at*;generalize hbo:w.heap.size+1=bo at*;obtain⟨bs,hbs⟩:∃ bs,w.heap.size=bs:=⟨_,rfl⟩;rw [hbs] at s2 ⊢;have hB':B≤w.heap.size:=by omega
 have hB2:B≤w2.heap.size:=Nat.le_trans hB' b2.size;clear hbo;have ks:=s2.rot2.cv 0 (Pz p);have hl1:=fun W (h:At B W (stk p mo l0::L))=>len_s h HBE.out;have hm1:=fun W (h:At B W (stk p mo l0::L))=>most_s h
 go_region_held3 (fun w'=>w'.cell? ⟨bs,0,none⟩=some (Pz p)) (first | assumption | go_keep) (first
  | (go_at_call 209;((with_reducible refine(hl1 _ ?_).mono ?_));(first | exact s2.drew.drop.drop | exact(s2.alloc hB2 #[.pointer none] 291).drew.drop.drop.drop);rintro e w5 ⟨rfl,rfl⟩)
  | (go_at_call 216;((with_reducible refine(hm1 _ ?_).mono ?_));(first | exact s2.drew.drop.drop | exact(s2.alloc hB2 #[.pointer none] 291).drew.drop.drop.drop);rintro e w5 ⟨rfl,rfl⟩))
 ·obtain⟨s3,b3⟩:=apply_o1 hlm hmo hB2 b2 s2;have hle3:=Nat.le_trans hB' b3.size;generalize ((w2.alloc (.cells #[.slice none 0 0,Iv (be:Int),Iv (mo:Int)] 293)).alloc (.cells #[Pz w2.heap.size] 291)).drew=W at*;generalize w2.heap.size+1=g2 at*;generalize w2.heap.size=g1 at*;have km:W.cell? ⟨g2,0,none⟩=some (Pz g1):=s3.rot2.blk.cell 0;have ko:W.cell? ⟨bo,0,none⟩=some (.slice A n c):=s3.rot3.blk.cell 0;have s4:=row_new hle3 hlen (z:=Iw 0) 21 s3;have b4:=b3.alloc hle3 (.cells (madeCells #[Iw 0] n) 21);have s5:=s4.alloc (by simp;omega) #[.slice (some ⟨W.heap.size,0,none⟩) n n] 35;have b5:=b4.alloc (by simp;omega) (.cells #[.slice (some ⟨W.heap.size,0,none⟩) n n] 35);simp only [World.size_alloc] at s5;have hle5:B≤((W.alloc (.cells (madeCells #[Iw 0] n) 21)).alloc (.cells #[.slice (some ⟨W.heap.size,0,none⟩) n n] 35)).heap.size:=by simp;omega
  have km:((W.alloc (.cells (madeCells #[Iw 0] n) 21)).alloc (.cells #[.slice (some ⟨W.heap.size,0,none⟩) n n] 35)).cell? ⟨g2,0,none⟩=some (Pz g1):=s5.rot4.blk.cell 0;have ko5:((W.alloc (.cells (madeCells #[Iw 0] n) 21)).alloc (.cells #[.slice (some ⟨W.heap.size,0,none⟩) n n] 35)).cell? ⟨bo,0,none⟩=some (.slice A n c):=s5.rot5.blk.cell 0;have s6:At B _ _:=s5.rot2.cons fun _ h=>h;clear s3 s4 b3 b4 s2 b2 ks hl1 hm1;go_wp2_with (refine wpList_make_row _ rfl (.tmp 18) (.tmp 18) 35 rfl 21 i0 _ Tryz.underlying35 hi0 hz0 hz1 rfl .i64 .i64 n rfl rfl hz3 (by omega) ?_);generalize (W.alloc (.cells (madeCells #[Iw 0] n) 21)).alloc (.cells #[.slice (some ⟨W.heap.size,0,none⟩) n n] 35)=W5 at*;generalize W.heap.size+1=bv at*;generalize W.heap.size=gv at*;rw [show List.replicate n (Iw 0)=fillL n 0 (vV l0 mo ops) (Iw 0) from(fillL_zero _ _ _).symm] at s6
  have hall:=all_apply bo bs bv B W5 hle5 g1 mo be hlm hmo A n c ops HN.out h8 hlen (fun k=>valsR gv n (fillL n k (vV l0 mo ops) (Iw 0))::vboxR bv gv n::oboxR bo A n c::sboxR bs (some ⟨p,0,none⟩)::stk p mo (l0.take (mAt mo be ops k).2)::blkR g2 291 #[Pz g1]::L)
   (fun k W L' hb hW=>hrd W L' (b5.trans hb) (Sep.drop (Sep.drop (Sep.drop (Sep.drop (Sep.drop (Sep.drop hW)))))))
   (fun k j W L' hk hj hb hW=>by
    obtain⟨R,hr⟩:=hrd W L' (b5.trans hb) (Sep.drop (Sep.drop (Sep.drop (Sep.drop (Sep.drop (Sep.drop hW))))));exact met_y hle5 hb HBE.out HN.out hlen hr hk hj hW)
   (fun k W L' hk hj hb hW=>taken_y hle5 hb HBE.out HN.out hlen hk hj hW)
   (fun k hk hc=>by
    have hb2:(mAt mo be ops (k+1)).2=(mAt mo be ops k).2:=by
     rw [mAt_succ (by rw [HN.out];omega)]
     rcases below_step mo k (kindAt ops k) (mAt mo be ops k) with ⟨e,_⟩ | ⟨e,_⟩
     ·exact e
     ·exact absurd (by unfold mCode;rw [e]) hc
    rw [fillL_keep _ _ _ _ (by unfold vV;rw [mVal_none (by rw [HBE.out];exact hc) (by rw [HBE.out];exact pair_code hc)]),hb2])
   (by
    have e:l0.take (mAt mo be ops 0).2=l0:=List.take_of_length_le (by rw [HBE.out];exact Nat.le_refl _);rw [e];exact(Sep.rot3 s6).cons fun _ h=>h.cons fun _ h=>h.cons fun _ h=>(Sep.rot4 (Sep.rot4 (Sep.rot4 h))))
  go_wp2_with fail;refine hall.mono ?_;rintro e w6 ⟨g,rfl,s7,b7⟩;have hle7:=Nat.le_trans hle5 b7.size;have b7:=b5.trans b7;clear hall s6 s5 b5 km ko5 ko;rw [← toldK_zero n (mCode mo be ops) (mVal l0 mo ops)] at s7;have kv:=s7.rot4.cv 0 (.slice (some ⟨gv,0,none⟩) n n);go_wp2_with fail
  go_loopg [27] n (fun g' k wr=>∃ k':Nat,k'+g'=n∧k=Iv (k':Int)∧At B wr (slRes 47 2 (some ⟨g,0,none⟩) n n ((toldK n (mCode mo be ops) (mVal l0 mo ops) k').flatMap resIn)::meetR g1 mo (mAt mo be ops n)::valsR gv n (fillL n n (vV l0 mo ops) (Iw 0))::vboxR bv gv n::oboxR bo A n c::sboxR bs (some ⟨p,0,none⟩)::stk p mo (l0.take (mAt mo be ops n).2)::blkR g2 291 #[Pz g1]::L)∧Below B w wr∧B≤wr.heap.size)
  case atStart=>exact⟨0,by omega,rfl,s7,b7,hle7⟩
  case round=>
   clear s7 b7 kv hle7;obtain⟨k,hk,rfl,s8,b8,hle8⟩:=hrel
   by_cases hlt:k<n
   ·have hfl:k<(toldK n (mCode mo be ops) (mVal l0 mo ops) k).length:=by rw [toldK_len];exact hlt
    obtain⟨t0,t1⟩:=res_at _ k hfl;have hst:=res_set2 _ k hfl (mVal l0 mo ops k);rw [toldK_get _ _ _ _ _ hlt,if_neg (by omega)] at t0 t1 hst;dsimp only at t0 t1 hst;rw [toldK_set n (mCode mo be ops) (mVal l0 mo ops) k] at hst;have gvv:wr.cell? ⟨gv,k,none⟩=some (Iw (mVal l0 mo ops k)):=(s8.rot3.slat hle8 k (vV l0 mo ops k) (by rw [List.getElem?_eq_getElem (by rw [fillL_length];exact hlt),fillL_get _ _ _ _ _ hlt,if_pos hlt])).1;obtain⟨k1,k2,k3⟩:=s8.slat hle8 (k*2+1) _ t1;obtain⟨k4,k5⟩:=k3 (Iw (mVal l0 mo ops k));rw [hst] at k4;have b9:=b8.trans k5;have hle9:=Nat.le_trans hle8 k5.size;clear k3 k5 t0 t1 hst hfl s8 b8;generalize mVal l0 mo ops k=vl at*;go_wp2_with fail;go_roundg (gk-1)
    case measure=>omega
    case rel=>exact⟨k+1,by omega,by go_num,k4,b9,hle9⟩
   ·obtain rfl:k=n:=by omega
    have hst:At B wr (stk p mo (l0.take (mAt mo be ops k).2)::meetR g1 mo ((mAt mo be ops k).1,(mAt mo be ops k).2)::blkR g2 291 #[Pz g1]::sboxR bs (some ⟨p,0,none⟩)::oboxR bo A k c::slRes 47 2 (some ⟨g,0,none⟩) k k ((toldK k (mCode mo be ops) (mVal l0 mo ops) k).flatMap resIn)::L):=by
     exact Sep.cons (fun _ h=>Sep.cons (fun _ h=>Sep.cons (fun _ h=>Sep.cons (fun _ h=>h.rot2) h.rot3) h.rot4) h.rot2) (s8.rot3.drop.rot3.drop).rot5
    have hd:=defer_s hle8 (by rw [HBE.out];exact mAt_below_le mo be ops k) (mAt_lt mo be ops k) HN.out hlen hst (fun W L' hb hW=>hrd W L' (b8.trans hb) (Sep.drop hW)) .returning;clear hst s8;go_wp2_with fail;refine leaves_cons (f:=217) (args:=#[Pz g2,Pz bs,Pz bo]) (by simp) (by simp [go_sem]) ?_;refine hd.mono ?_;rintro e u' w9 ⟨rfl,rfl,s9,b9⟩;exact⟨_,results_tmp rfl _ _ _,⟨g,rfl,by rw [HBE.out];exact s9.rot2,b8.trans b9⟩⟩
 ·obtain⟨s3,b3⟩:=apply_o2 hlm hmo hB2 b2 s2;have hle3:=Nat.le_trans hB' b3.size;generalize ((w2.alloc (.cells #[Pz (w2.heap.size+1)] 291)).alloc (.cells #[.slice none 0 0,Iv (be:Int),Iv (mo:Int)] 293)).drew=W at*;generalize w2.heap.size+1=g2 at*;generalize w2.heap.size=g1 at*;have km:W.cell? ⟨g1,0,none⟩=some (Pz g2):=s3.rot2.blk.cell 0;have ko:W.cell? ⟨bo,0,none⟩=some (.slice A n c):=s3.rot3.blk.cell 0;have s4:=row_new hle3 hlen (z:=Iw 0) 21 s3;have b4:=b3.alloc hle3 (.cells (madeCells #[Iw 0] n) 21);have s5:=s4.alloc (by simp;omega) #[.slice (some ⟨W.heap.size,0,none⟩) n n] 35;have b5:=b4.alloc (by simp;omega) (.cells #[.slice (some ⟨W.heap.size,0,none⟩) n n] 35);simp only [World.size_alloc] at s5;have hle5:B≤((W.alloc (.cells (madeCells #[Iw 0] n) 21)).alloc (.cells #[.slice (some ⟨W.heap.size,0,none⟩) n n] 35)).heap.size:=by simp;omega
  have km:((W.alloc (.cells (madeCells #[Iw 0] n) 21)).alloc (.cells #[.slice (some ⟨W.heap.size,0,none⟩) n n] 35)).cell? ⟨g1,0,none⟩=some (Pz g2):=s5.rot4.blk.cell 0;have ko5:((W.alloc (.cells (madeCells #[Iw 0] n) 21)).alloc (.cells #[.slice (some ⟨W.heap.size,0,none⟩) n n] 35)).cell? ⟨bo,0,none⟩=some (.slice A n c):=s5.rot5.blk.cell 0;have s6:At B _ _:=s5.rot2.cons fun _ h=>h;clear s3 s4 b3 b4 s2 b2 ks hl1 hm1;go_wp2_with (refine wpList_make_row _ rfl (.tmp 18) (.tmp 18) 35 rfl 21 i0 _ Tryz.underlying35 hi0 hz0 hz1 rfl .i64 .i64 n rfl rfl hz3 (by omega) ?_);generalize (W.alloc (.cells (madeCells #[Iw 0] n) 21)).alloc (.cells #[.slice (some ⟨W.heap.size,0,none⟩) n n] 35)=W5 at*;generalize W.heap.size+1=bv at*;generalize W.heap.size=gv at*;rw [show List.replicate n (Iw 0)=fillL n 0 (vV l0 mo ops) (Iw 0) from(fillL_zero _ _ _).symm] at s6
  have hall:=all_apply bo bs bv B W5 hle5 g2 mo be hlm hmo A n c ops HN.out h8 hlen (fun k=>valsR gv n (fillL n k (vV l0 mo ops) (Iw 0))::vboxR bv gv n::oboxR bo A n c::sboxR bs (some ⟨p,0,none⟩)::stk p mo (l0.take (mAt mo be ops k).2)::blkR g1 291 #[Pz g2]::L)
   (fun k W L' hb hW=>hrd W L' (b5.trans hb) (Sep.drop (Sep.drop (Sep.drop (Sep.drop (Sep.drop (Sep.drop hW)))))))
   (fun k j W L' hk hj hb hW=>by
    obtain⟨R,hr⟩:=hrd W L' (b5.trans hb) (Sep.drop (Sep.drop (Sep.drop (Sep.drop (Sep.drop (Sep.drop hW))))));exact met_y hle5 hb HBE.out HN.out hlen hr hk hj hW)
   (fun k W L' hk hj hb hW=>taken_y hle5 hb HBE.out HN.out hlen hk hj hW)
   (fun k hk hc=>by
    have hb2:(mAt mo be ops (k+1)).2=(mAt mo be ops k).2:=by
     rw [mAt_succ (by rw [HN.out];omega)]
     rcases below_step mo k (kindAt ops k) (mAt mo be ops k) with ⟨e,_⟩ | ⟨e,_⟩
     ·exact e
     ·exact absurd (by unfold mCode;rw [e]) hc
    rw [fillL_keep _ _ _ _ (by unfold vV;rw [mVal_none (by rw [HBE.out];exact hc) (by rw [HBE.out];exact pair_code hc)]),hb2])
   (by
    have e:l0.take (mAt mo be ops 0).2=l0:=List.take_of_length_le (by rw [HBE.out];exact Nat.le_refl _);rw [e];exact(Sep.rot3 s6).cons fun _ h=>h.cons fun _ h=>h.cons fun _ h=>(Sep.rot4 (Sep.rot4 (Sep.rot4 h))))
  go_wp2_with fail;refine hall.mono ?_;rintro e w6 ⟨g,rfl,s7,b7⟩;have hle7:=Nat.le_trans hle5 b7.size;have b7:=b5.trans b7;clear hall s6 s5 b5 km ko5 ko;rw [← toldK_zero n (mCode mo be ops) (mVal l0 mo ops)] at s7;have kv:=s7.rot4.cv 0 (.slice (some ⟨gv,0,none⟩) n n);go_wp2_with fail
  go_loopg [27] n (fun g' k wr=>∃ k':Nat,k'+g'=n∧k=Iv (k':Int)∧At B wr (slRes 47 2 (some ⟨g,0,none⟩) n n ((toldK n (mCode mo be ops) (mVal l0 mo ops) k').flatMap resIn)::meetR g2 mo (mAt mo be ops n)::valsR gv n (fillL n n (vV l0 mo ops) (Iw 0))::vboxR bv gv n::oboxR bo A n c::sboxR bs (some ⟨p,0,none⟩)::stk p mo (l0.take (mAt mo be ops n).2)::blkR g1 291 #[Pz g2]::L)∧Below B w wr∧B≤wr.heap.size)
  case atStart=>exact⟨0,by omega,rfl,s7,b7,hle7⟩
  case round=>
   clear s7 b7 kv hle7;obtain⟨k,hk,rfl,s8,b8,hle8⟩:=hrel
   by_cases hlt:k<n
   ·have hfl:k<(toldK n (mCode mo be ops) (mVal l0 mo ops) k).length:=by rw [toldK_len];exact hlt
    obtain⟨t0,t1⟩:=res_at _ k hfl;have hst:=res_set2 _ k hfl (mVal l0 mo ops k);rw [toldK_get _ _ _ _ _ hlt,if_neg (by omega)] at t0 t1 hst;dsimp only at t0 t1 hst;rw [toldK_set n (mCode mo be ops) (mVal l0 mo ops) k] at hst;have gvv:wr.cell? ⟨gv,k,none⟩=some (Iw (mVal l0 mo ops k)):=(s8.rot3.slat hle8 k (vV l0 mo ops k) (by rw [List.getElem?_eq_getElem (by rw [fillL_length];exact hlt),fillL_get _ _ _ _ _ hlt,if_pos hlt])).1;obtain⟨k1,k2,k3⟩:=s8.slat hle8 (k*2+1) _ t1;obtain⟨k4,k5⟩:=k3 (Iw (mVal l0 mo ops k));rw [hst] at k4;have b9:=b8.trans k5;have hle9:=Nat.le_trans hle8 k5.size;clear k3 k5 t0 t1 hst hfl s8 b8;generalize mVal l0 mo ops k=vl at*;go_wp2_with fail;go_roundg (gk-1)
    case measure=>omega
    case rel=>exact⟨k+1,by omega,by go_num,k4,b9,hle9⟩
   ·obtain rfl:k=n:=by omega
    have hst:At B wr (stk p mo (l0.take (mAt mo be ops k).2)::meetR g2 mo ((mAt mo be ops k).1,(mAt mo be ops k).2)::blkR g1 291 #[Pz g2]::sboxR bs (some ⟨p,0,none⟩)::oboxR bo A k c::slRes 47 2 (some ⟨g,0,none⟩) k k ((toldK k (mCode mo be ops) (mVal l0 mo ops) k).flatMap resIn)::L):=by
     exact Sep.cons (fun _ h=>Sep.cons (fun _ h=>Sep.cons (fun _ h=>Sep.cons (fun _ h=>h.rot2) h.rot3) h.rot4) h.rot2) (s8.rot3.drop.rot3.drop).rot5
    have hd:=defer_s hle8 (by rw [HBE.out];exact mAt_below_le mo be ops k) (mAt_lt mo be ops k) HN.out hlen hst (fun W L' hb hW=>hrd W L' (b8.trans hb) (Sep.drop hW)) .returning;clear hst s8;go_wp2_with fail;refine leaves_cons (f:=217) (args:=#[Pz g1,Pz bs,Pz bo]) (by simp) (by simp [go_sem]) ?_;refine hd.mono ?_;rintro e u' w9 ⟨rfl,rfl,s9,b9⟩;exact⟨_,results_tmp rfl _ _ _,⟨g,rfl,by rw [HBE.out];exact s9.rot2,b8.trans b9⟩⟩
 ·obtain⟨s3,b3⟩:=apply_o2 hlm hmo hB2 b2 s2;have hle3:=Nat.le_trans hB' b3.size;generalize ((w2.alloc (.cells #[Pz (w2.heap.size+1)] 291)).alloc (.cells #[.slice none 0 0,Iv (be:Int),Iv (mo:Int)] 293)).drew=W at*;generalize w2.heap.size+1=g2 at*;generalize w2.heap.size=g1 at*;have km:W.cell? ⟨g1,0,none⟩=some (Pz g2):=s3.rot2.blk.cell 0;have ko:W.cell? ⟨bo,0,none⟩=some (.slice A n c):=s3.rot3.blk.cell 0;have s4:=row_new hle3 hlen (z:=Iw 0) 21 s3;have b4:=b3.alloc hle3 (.cells (madeCells #[Iw 0] n) 21);have s5:=s4.alloc (by simp;omega) #[.slice (some ⟨W.heap.size,0,none⟩) n n] 35;have b5:=b4.alloc (by simp;omega) (.cells #[.slice (some ⟨W.heap.size,0,none⟩) n n] 35);simp only [World.size_alloc] at s5;have hle5:B≤((W.alloc (.cells (madeCells #[Iw 0] n) 21)).alloc (.cells #[.slice (some ⟨W.heap.size,0,none⟩) n n] 35)).heap.size:=by simp;omega
  have km:((W.alloc (.cells (madeCells #[Iw 0] n) 21)).alloc (.cells #[.slice (some ⟨W.heap.size,0,none⟩) n n] 35)).cell? ⟨g1,0,none⟩=some (Pz g2):=s5.rot4.blk.cell 0;have ko5:((W.alloc (.cells (madeCells #[Iw 0] n) 21)).alloc (.cells #[.slice (some ⟨W.heap.size,0,none⟩) n n] 35)).cell? ⟨bo,0,none⟩=some (.slice A n c):=s5.rot5.blk.cell 0;have s6:At B _ _:=s5.rot2.cons fun _ h=>h;clear s3 s4 b3 b4 s2 b2 ks hl1 hm1;go_wp2_with (refine wpList_make_row _ rfl (.tmp 18) (.tmp 18) 35 rfl 21 i0 _ Tryz.underlying35 hi0 hz0 hz1 rfl .i64 .i64 n rfl rfl hz3 (by omega) ?_);generalize (W.alloc (.cells (madeCells #[Iw 0] n) 21)).alloc (.cells #[.slice (some ⟨W.heap.size,0,none⟩) n n] 35)=W5 at*;generalize W.heap.size+1=bv at*;generalize W.heap.size=gv at*;rw [show List.replicate n (Iw 0)=fillL n 0 (vV l0 mo ops) (Iw 0) from(fillL_zero _ _ _).symm] at s6
  have hall:=all_apply bo bs bv B W5 hle5 g2 mo be hlm hmo A n c ops HN.out h8 hlen (fun k=>valsR gv n (fillL n k (vV l0 mo ops) (Iw 0))::vboxR bv gv n::oboxR bo A n c::sboxR bs (some ⟨p,0,none⟩)::stk p mo (l0.take (mAt mo be ops k).2)::blkR g1 291 #[Pz g2]::L)
   (fun k W L' hb hW=>hrd W L' (b5.trans hb) (Sep.drop (Sep.drop (Sep.drop (Sep.drop (Sep.drop (Sep.drop hW)))))))
   (fun k j W L' hk hj hb hW=>by
    obtain⟨R,hr⟩:=hrd W L' (b5.trans hb) (Sep.drop (Sep.drop (Sep.drop (Sep.drop (Sep.drop (Sep.drop hW))))));exact met_y hle5 hb HBE.out HN.out hlen hr hk hj hW)
   (fun k W L' hk hj hb hW=>taken_y hle5 hb HBE.out HN.out hlen hk hj hW)
   (fun k hk hc=>by
    have hb2:(mAt mo be ops (k+1)).2=(mAt mo be ops k).2:=by
     rw [mAt_succ (by rw [HN.out];omega)]
     rcases below_step mo k (kindAt ops k) (mAt mo be ops k) with ⟨e,_⟩ | ⟨e,_⟩
     ·exact e
     ·exact absurd (by unfold mCode;rw [e]) hc
    rw [fillL_keep _ _ _ _ (by unfold vV;rw [mVal_none (by rw [HBE.out];exact hc) (by rw [HBE.out];exact pair_code hc)]),hb2])
   (by
    have e:l0.take (mAt mo be ops 0).2=l0:=List.take_of_length_le (by rw [HBE.out];exact Nat.le_refl _);rw [e];exact(Sep.rot3 s6).cons fun _ h=>h.cons fun _ h=>h.cons fun _ h=>(Sep.rot4 (Sep.rot4 (Sep.rot4 h))))
  go_wp2_with fail;refine hall.mono ?_;rintro e w6 ⟨g,rfl,s7,b7⟩;have hle7:=Nat.le_trans hle5 b7.size;have b7:=b5.trans b7;clear hall s6 s5 b5 km ko5 ko;rw [← toldK_zero n (mCode mo be ops) (mVal l0 mo ops)] at s7;have kv:=s7.rot4.cv 0 (.slice (some ⟨gv,0,none⟩) n n);go_wp2_with fail
  go_loopg [27] n (fun g' k wr=>∃ k':Nat,k'+g'=n∧k=Iv (k':Int)∧At B wr (slRes 47 2 (some ⟨g,0,none⟩) n n ((toldK n (mCode mo be ops) (mVal l0 mo ops) k').flatMap resIn)::meetR g2 mo (mAt mo be ops n)::valsR gv n (fillL n n (vV l0 mo ops) (Iw 0))::vboxR bv gv n::oboxR bo A n c::sboxR bs (some ⟨p,0,none⟩)::stk p mo (l0.take (mAt mo be ops n).2)::blkR g1 291 #[Pz g2]::L)∧Below B w wr∧B≤wr.heap.size)
  case atStart=>exact⟨0,by omega,rfl,s7,b7,hle7⟩
  case round=>
   clear s7 b7 kv hle7;obtain⟨k,hk,rfl,s8,b8,hle8⟩:=hrel
   by_cases hlt:k<n
   ·have hfl:k<(toldK n (mCode mo be ops) (mVal l0 mo ops) k).length:=by rw [toldK_len];exact hlt
    obtain⟨t0,t1⟩:=res_at _ k hfl;have hst:=res_set2 _ k hfl (mVal l0 mo ops k);rw [toldK_get _ _ _ _ _ hlt,if_neg (by omega)] at t0 t1 hst;dsimp only at t0 t1 hst;rw [toldK_set n (mCode mo be ops) (mVal l0 mo ops) k] at hst;have gvv:wr.cell? ⟨gv,k,none⟩=some (Iw (mVal l0 mo ops k)):=(s8.rot3.slat hle8 k (vV l0 mo ops k) (by rw [List.getElem?_eq_getElem (by rw [fillL_length];exact hlt),fillL_get _ _ _ _ _ hlt,if_pos hlt])).1;obtain⟨k1,k2,k3⟩:=s8.slat hle8 (k*2+1) _ t1;obtain⟨k4,k5⟩:=k3 (Iw (mVal l0 mo ops k));rw [hst] at k4;have b9:=b8.trans k5;have hle9:=Nat.le_trans hle8 k5.size;clear k3 k5 t0 t1 hst hfl s8 b8;generalize mVal l0 mo ops k=vl at*;go_wp2_with fail;go_roundg (gk-1)
    case measure=>omega
    case rel=>exact⟨k+1,by omega,by go_num,k4,b9,hle9⟩
   ·obtain rfl:k=n:=by omega
    have hst:At B wr (stk p mo (l0.take (mAt mo be ops k).2)::meetR g2 mo ((mAt mo be ops k).1,(mAt mo be ops k).2)::blkR g1 291 #[Pz g2]::sboxR bs (some ⟨p,0,none⟩)::oboxR bo A k c::slRes 47 2 (some ⟨g,0,none⟩) k k ((toldK k (mCode mo be ops) (mVal l0 mo ops) k).flatMap resIn)::L):=by
     exact Sep.cons (fun _ h=>Sep.cons (fun _ h=>Sep.cons (fun _ h=>Sep.cons (fun _ h=>h.rot2) h.rot3) h.rot4) h.rot2) (s8.rot3.drop.rot3.drop).rot5
    have hd:=defer_s hle8 (by rw [HBE.out];exact mAt_below_le mo be ops k) (mAt_lt mo be ops k) HN.out hlen hst (fun W L' hb hW=>hrd W L' (b8.trans hb) (Sep.drop hW)) .returning;clear hst s8;go_wp2_with fail;refine leaves_cons (f:=217) (args:=#[Pz g1,Pz bs,Pz bo]) (by simp) (by simp [go_sem]) ?_;refine hd.mono ?_;rintro e u' w9 ⟨rfl,rfl,s9,b9⟩;exact⟨_,results_tmp rfl _ _ _,⟨g,rfl,by rw [HBE.out];exact s9.rot2,b8.trans b9⟩⟩
 ·obtain⟨s3,b3⟩:=apply_o2 hlm hmo hB2 b2 s2;have hle3:=Nat.le_trans hB' b3.size;generalize ((w2.alloc (.cells #[Pz (w2.heap.size+1)] 291)).alloc (.cells #[.slice none 0 0,Iv (be:Int),Iv (mo:Int)] 293)).drew=W at*;generalize w2.heap.size+1=g2 at*;generalize w2.heap.size=g1 at*;have km:W.cell? ⟨g1,0,none⟩=some (Pz g2):=s3.rot2.blk.cell 0;have ko:W.cell? ⟨bo,0,none⟩=some (.slice A n c):=s3.rot3.blk.cell 0;have s4:=row_new hle3 hlen (z:=Iw 0) 21 s3;have b4:=b3.alloc hle3 (.cells (madeCells #[Iw 0] n) 21);have s5:=s4.alloc (by simp;omega) #[.slice (some ⟨W.heap.size,0,none⟩) n n] 35;have b5:=b4.alloc (by simp;omega) (.cells #[.slice (some ⟨W.heap.size,0,none⟩) n n] 35);simp only [World.size_alloc] at s5;have hle5:B≤((W.alloc (.cells (madeCells #[Iw 0] n) 21)).alloc (.cells #[.slice (some ⟨W.heap.size,0,none⟩) n n] 35)).heap.size:=by simp;omega
  have km:((W.alloc (.cells (madeCells #[Iw 0] n) 21)).alloc (.cells #[.slice (some ⟨W.heap.size,0,none⟩) n n] 35)).cell? ⟨g1,0,none⟩=some (Pz g2):=s5.rot4.blk.cell 0;have ko5:((W.alloc (.cells (madeCells #[Iw 0] n) 21)).alloc (.cells #[.slice (some ⟨W.heap.size,0,none⟩) n n] 35)).cell? ⟨bo,0,none⟩=some (.slice A n c):=s5.rot5.blk.cell 0;have s6:At B _ _:=s5.rot2.cons fun _ h=>h;clear s3 s4 b3 b4 s2 b2 ks hl1 hm1;go_wp2_with (refine wpList_make_row _ rfl (.tmp 18) (.tmp 18) 35 rfl 21 i0 _ Tryz.underlying35 hi0 hz0 hz1 rfl .i64 .i64 n rfl rfl hz3 (by omega) ?_);generalize (W.alloc (.cells (madeCells #[Iw 0] n) 21)).alloc (.cells #[.slice (some ⟨W.heap.size,0,none⟩) n n] 35)=W5 at*;generalize W.heap.size+1=bv at*;generalize W.heap.size=gv at*;rw [show List.replicate n (Iw 0)=fillL n 0 (vV l0 mo ops) (Iw 0) from(fillL_zero _ _ _).symm] at s6
  have hall:=all_apply bo bs bv B W5 hle5 g2 mo be hlm hmo A n c ops HN.out h8 hlen (fun k=>valsR gv n (fillL n k (vV l0 mo ops) (Iw 0))::vboxR bv gv n::oboxR bo A n c::sboxR bs (some ⟨p,0,none⟩)::stk p mo (l0.take (mAt mo be ops k).2)::blkR g1 291 #[Pz g2]::L)
   (fun k W L' hb hW=>hrd W L' (b5.trans hb) (Sep.drop (Sep.drop (Sep.drop (Sep.drop (Sep.drop (Sep.drop hW)))))))
   (fun k j W L' hk hj hb hW=>by
    obtain⟨R,hr⟩:=hrd W L' (b5.trans hb) (Sep.drop (Sep.drop (Sep.drop (Sep.drop (Sep.drop (Sep.drop hW))))));exact met_y hle5 hb HBE.out HN.out hlen hr hk hj hW)
   (fun k W L' hk hj hb hW=>taken_y hle5 hb HBE.out HN.out hlen hk hj hW)
   (fun k hk hc=>by
    have hb2:(mAt mo be ops (k+1)).2=(mAt mo be ops k).2:=by
     rw [mAt_succ (by rw [HN.out];omega)]
     rcases below_step mo k (kindAt ops k) (mAt mo be ops k) with ⟨e,_⟩ | ⟨e,_⟩
     ·exact e
     ·exact absurd (by unfold mCode;rw [e]) hc
    rw [fillL_keep _ _ _ _ (by unfold vV;rw [mVal_none (by rw [HBE.out];exact hc) (by rw [HBE.out];exact pair_code hc)]),hb2])
   (by
    have e:l0.take (mAt mo be ops 0).2=l0:=List.take_of_length_le (by rw [HBE.out];exact Nat.le_refl _);rw [e];exact(Sep.rot3 s6).cons fun _ h=>h.cons fun _ h=>h.cons fun _ h=>(Sep.rot4 (Sep.rot4 (Sep.rot4 h))))
  go_wp2_with fail;refine hall.mono ?_;rintro e w6 ⟨g,rfl,s7,b7⟩;have hle7:=Nat.le_trans hle5 b7.size;have b7:=b5.trans b7;clear hall s6 s5 b5 km ko5 ko;rw [← toldK_zero n (mCode mo be ops) (mVal l0 mo ops)] at s7;have kv:=s7.rot4.cv 0 (.slice (some ⟨gv,0,none⟩) n n);go_wp2_with fail
  go_loopg [27] n (fun g' k wr=>∃ k':Nat,k'+g'=n∧k=Iv (k':Int)∧At B wr (slRes 47 2 (some ⟨g,0,none⟩) n n ((toldK n (mCode mo be ops) (mVal l0 mo ops) k').flatMap resIn)::meetR g2 mo (mAt mo be ops n)::valsR gv n (fillL n n (vV l0 mo ops) (Iw 0))::vboxR bv gv n::oboxR bo A n c::sboxR bs (some ⟨p,0,none⟩)::stk p mo (l0.take (mAt mo be ops n).2)::blkR g1 291 #[Pz g2]::L)∧Below B w wr∧B≤wr.heap.size)
  case atStart=>exact⟨0,by omega,rfl,s7,b7,hle7⟩
  case round=>
   clear s7 b7 kv hle7;obtain⟨k,hk,rfl,s8,b8,hle8⟩:=hrel
   by_cases hlt:k<n
   ·have hfl:k<(toldK n (mCode mo be ops) (mVal l0 mo ops) k).length:=by rw [toldK_len];exact hlt
    obtain⟨t0,t1⟩:=res_at _ k hfl;have hst:=res_set2 _ k hfl (mVal l0 mo ops k);rw [toldK_get _ _ _ _ _ hlt,if_neg (by omega)] at t0 t1 hst;dsimp only at t0 t1 hst;rw [toldK_set n (mCode mo be ops) (mVal l0 mo ops) k] at hst;have gvv:wr.cell? ⟨gv,k,none⟩=some (Iw (mVal l0 mo ops k)):=(s8.rot3.slat hle8 k (vV l0 mo ops k) (by rw [List.getElem?_eq_getElem (by rw [fillL_length];exact hlt),fillL_get _ _ _ _ _ hlt,if_pos hlt])).1;obtain⟨k1,k2,k3⟩:=s8.slat hle8 (k*2+1) _ t1;obtain⟨k4,k5⟩:=k3 (Iw (mVal l0 mo ops k));rw [hst] at k4;have b9:=b8.trans k5;have hle9:=Nat.le_trans hle8 k5.size;clear k3 k5 t0 t1 hst hfl s8 b8;generalize mVal l0 mo ops k=vl at*;go_wp2_with fail;go_roundg (gk-1)
    case measure=>omega
    case rel=>exact⟨k+1,by omega,by go_num,k4,b9,hle9⟩
   ·obtain rfl:k=n:=by omega
    have hst:At B wr (stk p mo (l0.take (mAt mo be ops k).2)::meetR g2 mo ((mAt mo be ops k).1,(mAt mo be ops k).2)::blkR g1 291 #[Pz g2]::sboxR bs (some ⟨p,0,none⟩)::oboxR bo A k c::slRes 47 2 (some ⟨g,0,none⟩) k k ((toldK k (mCode mo be ops) (mVal l0 mo ops) k).flatMap resIn)::L):=by
     exact Sep.cons (fun _ h=>Sep.cons (fun _ h=>Sep.cons (fun _ h=>Sep.cons (fun _ h=>h.rot2) h.rot3) h.rot4) h.rot2) (s8.rot3.drop.rot3.drop).rot5
    have hd:=defer_s hle8 (by rw [HBE.out];exact mAt_below_le mo be ops k) (mAt_lt mo be ops k) HN.out hlen hst (fun W L' hb hW=>hrd W L' (b8.trans hb) (Sep.drop hW)) .returning;clear hst s8;go_wp2_with fail;refine leaves_cons (f:=217) (args:=#[Pz g1,Pz bs,Pz bo]) (by simp) (by simp [go_sem]) ?_;refine hd.mono ?_;rintro e u' w9 ⟨rfl,rfl,s9,b9⟩;exact⟨_,results_tmp rfl _ _ _,⟨g,rfl,by rw [HBE.out];exact s9.rot2,b8.trans b9⟩⟩
end Go.Proofs.YtadgbhjpgnlmoaaGreat.Stk
