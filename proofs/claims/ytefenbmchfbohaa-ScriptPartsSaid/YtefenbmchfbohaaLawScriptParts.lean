/-
  ScriptParts: a script is read in parts of four bytes, each for itself: the walk.
-/
import Derived.Test.YtefenbmchfbohaaLawScriptBack
namespace Go.Proofs.Ytefenbmchfbohaa
open Go.RowKit Go.Rp

theorem picks_r {w : World} {A : Option Addr} {n c : Nat} {R : Nat → Prop} {l : List Ent} (hn : l.length = n) (hr : Rd w R 5 A n (l.flatMap entIn)) (hlen : n ≤ 100000) {q : Nat} (hq : pickN l l.length = q) :
    Calls Try.prog 12 #[.slice A n c] w fun e w' => e = .returned (.int .i64 (q : Int)) ∧ Below w.heap.size w w' := by
  subst hq hn
  exact Picks_any w A _ c R l rfl hr hlen
/-- 's[:k]' of bytes. -/
theorem bytes_to (A : Option Addr) (n c k : Nat) (hk : k ≤ n) (hc : n ≤ c) : ∃ A', (∀ W, (Instr.slice 24 (.slice A n c) none (some (.int .i64 (k : Int))) none).run Try.prog W = .ok (.slice A' k c) W) ∧ ∀ (W : World) (R : Nat → Prop) (xs : List Value), Rd W R 1 A n xs → Rd W R 1 A' k (xs.take k) := by
  refine ⟨if c = 0 then A else A.map (·.add 0), fun W => ?_, fun W R xs h => ?_⟩
  · rw [run_slice_h W 24 A n c (by kernel_rfl) .i64 (k : Int) (by omega) (by omega)]
    rw [show Try.prog.elem 24 = 5 by kernel_rfl, size_byte W]
    simp [Result.andThen, sliced]
  · refine ⟨by rw [List.length_take, h.1]; omega, fun hm => ?_⟩
    obtain ⟨b, off, rfl, hb, hx⟩ := h.at (by omega)
    refine ⟨b, off, by simp [Addr.add], hb, fun j u hu => ?_⟩
    rw [List.getElem?_take] at hu
    split at hu
    · exact hx _ _ hu
    · cases hu

set_option maxRecDepth 100000 in
set_option maxHeartbeats 4000000 in
theorem ScriptParts_walk (w : World) (a : Option Addr) (n c : Nat) (zs : List Int) (h0 : InInts .u8 w a n c zs) (a' : Option Addr) (n' c' : Nat) (ys : List Int) (h1 : InInts .u8 w a' n' c' ys) :
    Calls Try.prog 4 #[.slice a n c, .slice a' n' c'] w fun e w' => e = .returned (.bool true) ∧ Below w.heap.size w w' := by
  obtain ⟨i0, hi0, hz0, hz1, hz2⟩ := info_parts info_byte
  obtain ⟨j0, hj0, hy0, hy1, hy2⟩ := info_parts info_ent
  have hr1 : Rd w (· < w.heap.size) 1 a n (zs.map fun x => Value.int .u8 x) := h0.rd
  have hr2 : Rd w (· < w.heap.size) 1 a' n' (ys.map fun x => Value.int .u8 x) := h1.rd
  have hby := byts_of h0.wf
  have hby2 := byts_of h1.wf
  have l1 := h0.len
  have l2 := h1.len
  have hnc := h0.le
  have hnc2 := h1.le
  have hreach := h0.reach
  have hreach' := h1.reach
  clear h0 h1
  have hw0 : IntKind.i64.wrap ((n : Int) + (n' : Int)) = (n : Int) + (n' : Int) := IntWalk.i64_in _ (by omega)
  by_cases hbig : 400 < n + n'
  · have hL : (400 : Int) < (n : Int) + (n' : Int) := by omega
    have hk := known_any w
    clear l1 l2
    go_enter Try.func4, Try.ntmps4
    go_wp2_with fail
    refine (hk).mono ?_
    rintro e w1 ⟨rfl, b1⟩
    go_wp2_with fail
    go_ret
    exact ⟨rfl, b1⟩
  have hL : ¬ (400 : Int) < (n : Int) + (n' : Int) := by omega
  obtain ⟨q, hq⟩ : ∃ q, n / 4 = q := ⟨_, rfl⟩
  obtain ⟨m, hm⟩ : ∃ m, 4 * q = m := ⟨_, rfl⟩
  have hmn : m ≤ n := by omega
  obtain ⟨q2, hq2⟩ : ∃ q2, n' / 4 = q2 := ⟨_, rfl⟩
  have hdv : (n : Int) / 4 = (q : Int) := by omega
  have hdv2 : Int.tdiv (n : Int) 4 = (q : Int) := by rw [← hq]; rfl
  have hqw : IntKind.i64.wrap (q : Int) = (q : Int) := IntWalk.i64_in _ (by omega)
  have hmw : IntKind.i64.wrap ((q : Int) * 4) = (m : Int) := by rw [← hm, show (q : Int) * 4 = ((4 * q : Nat) : Int) by omega]; exact IntWalk.i64_in _ (by omega)
  obtain ⟨A0, hsl, hrd0⟩ := bytes_to a n c m hmn hnc
  have hr0 : Rd w (· < w.heap.size) 1 A0 m ((zs.take m).map fun x => Value.int .u8 x) := by rw [List.map_take]; exact hrd0 w _ _ hr1
  have hfl : (zs.take m).length = m := by rw [List.length_take]; omega
  have hfb : Byt (zs.take m) := fun x hx => hby x (List.mem_of_mem_take hx)
  have hdf : (decL (zs.take m)).length = q := by rw [decL_length, hfl]; omega
  have hdy : (decL ys).length = q2 := by rw [decL_length, l2, hq2]
  have happ := decL_append (zs.take m) ys q (by rw [hfl, hm])
  have hbl : (zs.take m ++ ys).length = m + n' := by rw [List.length_append, hfl, l2]
  have hbb : Byt (zs.take m ++ ys) := fun x hx => by
    rcases List.mem_append.1 hx with h | h
    · exact hfb x h
    · exact hby2 x h
  have hpk := pickN_append (decL (zs.take m)) (decL ys)
  generalize zs.take m = F at *
  obtain ⟨P1, hP1⟩ : ∃ P1, pickN (decL F) (decL F).length = P1 := ⟨_, rfl⟩
  obtain ⟨P2, hP2⟩ : ∃ P2, pickN (decL ys) (decL ys).length = P2 := ⟨_, rfl⟩
  have hp1 : P1 ≤ q := by rw [← hP1, ← hdf]; exact pickN_le _ _
  have hp2 : P2 ≤ q2 := by rw [← hP2, ← hdy]; exact pickN_le _ _
  rw [hP1, hP2, ← List.length_append] at hpk
  have hqq : q ≤ 400 ∧ q2 ≤ 400 ∧ m ≤ 400 ∧ n' ≤ 400 := by omega
  have hpw : IntKind.i64.wrap ((P1 : Int) + (P2 : Int)) = ((P1 + P2 : Nat) : Int) := by rw [show (P1 : Int) + (P2 : Int) = ((P1 + P2 : Nat) : Int) by omega]; exact IntWalk.i64_in _ (by omega)
  obtain ⟨PP, hPP⟩ : ∃ PP, P1 + P2 = PP := ⟨_, rfl⟩
  rw [hPP] at hpw hpk
  have hwl : (decL F ++ decL ys).length = q + q2 := by rw [List.length_append, hdf, hdy]
  generalize hDF : decL F = DF at *
  generalize hDY : decL ys = DY at *
  have HDF := Lib.hid hDF
  have HDY := Lib.hid hDY
  have HFL := Lib.hid hfl
  have HFB := Lib.hid hfb
  have HLF := Lib.hid hdf
  have HLY := Lib.hid hdy
  have HAP := Lib.hid happ
  have HBL := Lib.hid hbl
  have HBB := Lib.hid hbb
  have HPK := Lib.hid hpk
  have HP1 := Lib.hid hP1
  have HP2 := Lib.hid hP2
  have HWL := Lib.hid hwl
  have H2 := Lib.hid l2
  have HY := Lib.hid hby2
  clear hDF hDY hfl hfb hdf hdy happ hbl hbb hpk hP1 hP2 hwl l1 l2 hby hby2 hq hm hq2 hPP hrd0 hr1
  have one : ∀ (ws : List Int), ∀ u ∈ ws.map (fun x => Value.int .u8 x), u.oneCell' = true := fun ws u hu => by obtain ⟨x, _, rfl⟩ := List.mem_map.1 hu; rfl
  have z1 : 0 + m ≤ maxLen := by simp only [maxLen]; omega
  have z2 : (0 + m) * 1 ≤ 140737488355328 := by omega
  have z3 : m + n' ≤ maxLen := by simp only [maxLen]; omega
  have z4 : (m + n') * 1 ≤ 140737488355328 := by omega
  go_enter Try.func4, Try.ntmps4
  go_wp2_with (first
    | (at_builtin; refine wpList_append_sl _ rfl (.tmp 21) (.tmp 22) _ rfl 5 i0 _ 1 1 Try.underlying24 hi0 hz0 hz1 hz2 rfl (by omega) none 0 0 [] (fun _ => False) rfl (Sl.nil _ _ _ _) _ A0 m c _ rfl hr0 (one _) z1 z2 ?_; intro A1 c1 w1 hown1 hmod1; rw [Nat.zero_add] at hown1)
    | (at_builtin; refine wpList_append_sl _ rfl (.tmp 24) (.tmp 25) _ rfl 5 i0 _ 1 1 Try.underlying24 hi0 hz0 hz1 hz2 rfl (by omega) A1 m c1 _ _ rfl hown1 _ a' n' c' _ rfl (hr2.mod hmod1 (fun _ _ h => h)) (one _) z3 z4 ?_; intro A2 c2 w2 hown2 hmod2))
  have rb := ((stable_rd 1 (by omega) A2 (m + n') _).lt (hown2.rd)).more (R' := fun b => b < w2.heap.size) fun _ h => h.2
  have le2 := hown2.le
  rw [List.nil_append, ← List.map_append] at rb
  have b1 : Below w.heap.size w w1 := hmod1.below (Nat.le_refl _) fun _ h => h.elim
  have b2 : Below w.heap.size w w2 := b1.trans (hmod2.below b1.size fun b hb => by
    rcases hb with hb | hb
    · exact hb.elim
    · exact hb.1)
  have r0 : Rd w2 (· < w.heap.size) 1 A0 m _ := hr0.kept b2
  have r1 : Rd w2 (· < w.heap.size) 1 a' n' _ := hr2.kept b2
  clear hown1 hown2 hmod1 hmod2 hr0 hr2 one
  refine (dec_r HFL.out (Nat.le_trans hmn hnc) r0 (by omega) HFB.out HDF.out HLF.out).mono ?_
  rintro e w3 ⟨A3, c3, rfl, r3, b3⟩
  have rb := rb.kept b3
  have r0 := r0.kept b3
  have r1 := r1.kept b3
  have hz23 := b3.size
  have b3 := b2.trans (b3.mono b2.size)
  have hle3 := b3.size
  have z5 : 0 + q ≤ maxLen := by simp only [maxLen]; omega
  have z6 : (0 + q) * 32 ≤ 140737488355328 := by omega
  have z7 : q + q2 ≤ maxLen := by simp only [maxLen]; omega
  have z8 : (q + q2) * 32 ≤ 140737488355328 := by omega
  go_wp2_with (at_builtin; refine wpList_append_sl _ rfl (.tmp 27) (.tmp 29) _ rfl 30 j0 _ 5 32 Try.underlying22 hj0 hy0 hy1 hy2 rfl (by omega) none 0 0 [] (fun _ => False) rfl (Sl.nil _ _ _ _) _ A3 q c3 _ rfl r3 (ent_one _) z5 z6 ?_; intro A4 c4 w4 hown4 hmod4; rw [Nat.zero_add, List.nil_append] at hown4; have b4 : Below w3.heap.size w3 w4 := hmod4.below (Nat.le_refl _) fun _ h => h.elim; have hz34 := b4.size; have rb := rb.kept b4; have r0 := r0.kept b4; have r1 := r1.kept b4; have b4 := b3.trans (b4.mono b3.size))
  refine (dec_r H2.out hnc2 r1 (by omega) HY.out HDY.out HLY.out).mono ?_
  rintro e w5 ⟨A5, c5, rfl, r5, b5⟩
  have hz45 := b5.size
  have rb := rb.kept b5
  have r0 := r0.kept b5
  have r1 := r1.kept b5
  have hs4 := (Sl.map (w' := w5) hown4.lt fun g hg cur hc => hc.below b5 hg.2).mono (T := fun b => w3.heap.size ≤ b) fun b hb => by
    rcases hb.1 with h | h
    · exact h.elim
    · exact h.1
  have b5 := b4.trans (b5.mono b4.size)
  clear hown4 hmod4
  go_wp2_with (at_builtin; refine wpList_append_sl _ rfl (.tmp 31) (.tmp 33) _ rfl 30 j0 _ 5 32 Try.underlying22 hj0 hy0 hy1 hy2 rfl (by omega) A4 q c4 _ _ rfl hs4 _ A5 q2 c5 _ rfl r5 (ent_one _) z7 z8 ?_; intro A6 c6 w6 hown6 hmod6; have b6 : Below w3.heap.size w5 w6 := hmod6.below (Nat.le_trans hz34 hz45) fun _ h => h; have rb := rb.below b6 fun _ h => Nat.lt_of_lt_of_le h hz23; have r0 := r0.below b6 fun _ h => Nat.lt_of_lt_of_le h (Nat.le_trans b2.size hz23); have r1 := r1.below b6 fun _ h => Nat.lt_of_lt_of_le h (Nat.le_trans b2.size hz23); have b6 := b5.trans (b6.mono (Nat.le_trans b2.size hz23)); have rw6 := (hown6.rd).more (R' := fun _ => True) fun _ _ => trivial; rw [← List.flatMap_append] at rw6)
  clear hown6 hmod6 hs4
  refine (known_any w6).mono ?_
  rintro e w7 ⟨rfl, b7⟩
  have rb := rb.kept b7
  have r0 := r0.kept b7
  have r1 := r1.kept b7
  have rw7 := rw6.kept b7
  have b7 := b6.trans (b7.mono b6.size)
  go_wp2_with fail
  refine (dec_r HBL.out le2 rb (by omega) HBB.out HAP.out HWL.out).mono ?_
  rintro e w8 ⟨A8, c8, rfl, r8, b8⟩
  have r0 := r0.kept b8
  have r1 := r1.kept b8
  have rw8 := rw7.kept b8
  have b8 := b7.trans (b8.mono b7.size)
  go_wp2_with fail
  refine (same_r r8 rw8 HWL.out HWL.out (by omega)).mono ?_
  rintro e w9 ⟨rfl, b9⟩
  have r0 := r0.kept b9
  have r1 := r1.kept b9
  have rw9 := rw8.kept b9
  have b9 := b8.trans (b9.mono b8.size)
  go_wp2_with fail
  refine (picks_r HWL.out rw9 (by omega) HPK.out).mono ?_
  rintro e w10 ⟨rfl, b10⟩
  have r0 := r0.kept b10
  have r1 := r1.kept b10
  have b10 := b9.trans (b10.mono b9.size)
  go_wp2_with fail
  refine (dec_r HFL.out (Nat.le_trans hmn hnc) r0 (by omega) HFB.out HDF.out HLF.out).mono ?_
  rintro e w11 ⟨A11, c11, rfl, r11, b11⟩
  have r1 := r1.kept b11
  have b11 := b10.trans (b11.mono b10.size)
  go_wp2_with fail
  refine (picks_r HLF.out r11 (by omega) HP1.out).mono ?_
  rintro e w12 ⟨rfl, b12⟩
  have r1 := r1.kept b12
  have b12 := b11.trans (b12.mono b11.size)
  go_wp2_with fail
  refine (dec_r H2.out hnc2 r1 (by omega) HY.out HDY.out HLY.out).mono ?_
  rintro e w13 ⟨A13, c13, rfl, r13, b13⟩
  have b13 := b12.trans (b13.mono b12.size)
  go_wp2_with fail
  refine (picks_r HLY.out r13 (by omega) HP2.out).mono ?_
  rintro e w14 ⟨rfl, b14⟩
  have b14 := b13.trans (b14.mono b13.size)
  go_wp2_with fail
  go_ret
  exact ⟨rfl, b14⟩
end Go.Proofs.Ytefenbmchfbohaa
