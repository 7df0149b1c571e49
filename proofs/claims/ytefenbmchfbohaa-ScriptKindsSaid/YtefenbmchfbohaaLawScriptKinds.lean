/-
  ScriptKinds: of each four bytes just what their kind looks at counts: the walk.
-/
import Derived.Laws.BitsAllLaws
import Derived.Test.YtefenbmchfbohaaScrE
namespace Go.Proofs.Ytefenbmchfbohaa
open Go.RowKit Go.Rp

/-- Four bytes read. -/
theorem dec4 (w : World) (k a b c : Int) (hk : 0 ≤ k ∧ k ≤ 255) (ha : 0 ≤ a ∧ a ≤ 255) (hb : 0 ≤ b ∧ b ≤ 255) (hc : 0 ≤ c ∧ c ≤ 255) :
    Calls Try.prog 9 #[.slice (some ⟨w.heap.size, 0, none⟩) 4 4] (w.alloc (.cells #[.int .u8 k, .int .u8 a, .int .u8 b, .int .u8 c] 5)) fun e w' =>
      ∃ A' c', e = .returned (.slice A' 1 c') ∧ Rd w' (fun _ => True) 5 A' 1 ([entryOf k a b c].flatMap entIn) ∧ Below w.heap.size w w' := by
  have h1 := Rd.lit (sz := 1) w 5 #[.int .u8 k, .int .u8 a, .int .u8 b, .int .u8 c] 4 rfl
  have hd := decode_any (w.alloc (.cells #[.int .u8 k, .int .u8 a, .int .u8 b, .int .u8 c] 5)) (some ⟨w.heap.size, 0, none⟩) 4 4 _ [k, a, b, c] rfl (by omega) h1 (by omega) (by intro x hx; simp at hx; omega)
  have hdl : decL [k, a, b, c] = [entryOf k a b c] := by
    unfold decL
    rw [show [k, a, b, c].length / 4 = 1 by simp]
    rfl
  rw [hdl] at hd
  exact hd.mono fun e w' ⟨A', c', he, hs, hb⟩ => ⟨A', c', he, hs.rd.more fun _ _ => trivial, ((Below.refl _ w).alloc (Nat.le_refl _) _).trans (hb.mono (by simp))⟩
theorem same1 {w : World} {A A' : Option Addr} {c c' : Nat} {x y : Ent} {v : Bool} (h1 : Rd w (fun _ => True) 5 A 1 ([x].flatMap entIn)) (h2 : Rd w (fun _ => True) 5 A' 1 ([y].flatMap entIn)) (hv : decide (x = y) = v) :
    Calls Try.prog 11 #[.slice A 1 c, .slice A' 1 c'] w fun e w' => e = .returned (.bool v) ∧ Below w.heap.size w w' := by
  have := Same_any w A A' 1 1 c c' _ _ [x] [y] h1 h2 rfl rfl (by omega) (by omega)
  rwa [show decide ([x] = [y]) = v by rw [← hv]; simp] at this
theorem xor_byte (a x : Int) (ha : 0 ≤ a ∧ a ≤ 255) (hx : 0 ≤ x ∧ x ≤ 255) : ∃ a1, bits .xor .u8 a x = a1 ∧ (0 ≤ a1 ∧ a1 ≤ 255) ∧ (a = a1 ↔ x = 0) := by
  refine ⟨_, u8_xor a x (by omega) (by omega) (by omega) (by omega), ?_, ?_⟩
  · have h : a.toNat ^^^ x.toNat < 2 ^ 8 := Nat.xor_lt_two_pow (by omega) (by omega)
    omega
  · constructor
    · intro h
      have h2 : a.toNat ^^^ x.toNat = a.toNat ^^^ 0 := by rw [Nat.xor_zero]; omega
      have h3 := congrArg (a.toNat ^^^ ·) h2
      simp only [← Nat.xor_assoc, Nat.xor_self, Nat.zero_xor] at h3
      omega
    · intro h
      rw [h, show (0 : Int).toNat = 0 from rfl, Nat.xor_zero]
      omega

/-- Who looks at what. -/
theorem look_a (k a b c a1 x : Int) (h : a = a1 ↔ x = 0) : decide (entryOf k a b c = entryOf k a1 b c) = (decide (x = 0) || (!decide (k = 1) && !decide (k = 2))) := by
  unfold entryOf
  by_cases h1 : k = 1
  · simp [h1, h]
  · by_cases h2 : k = 2
    · simp [h2, h]
    · simp [h1, h2]
theorem look_b (k a b c b1 x : Int) (h : b = b1 ↔ x = 0) : decide (entryOf k a b c = entryOf k a b1 c) = (decide (x = 0) || !decide (k = 1)) := by
  unfold entryOf
  by_cases h1 : k = 1
  · simp [h1, h]
  · simp [h1]
theorem look_c (k a b c c1 x : Int) (h : c = c1 ↔ x = 0) : decide (entryOf k a b c = entryOf k a b c1) = (decide (x = 0) || (!decide (k = 1) && !decide (k = 3))) := by
  unfold entryOf
  by_cases h1 : k = 1
  · simp [h1, h]
  · by_cases h3 : k = 3
    · simp [h3, h]
    · simp [h1, h3]

set_option maxRecDepth 100000 in
set_option maxHeartbeats 2000000 in
theorem kinds_any (w : World) (k a b c x : Int) (hk : 0 ≤ k ∧ k ≤ 255) (ha : 0 ≤ a ∧ a ≤ 255) (hb : 0 ≤ b ∧ b ≤ 255) (hc : 0 ≤ c ∧ c ≤ 255) (hx : 0 ≤ x ∧ x ≤ 255)
    (x0 k1 k2 k3 va vb vc : Bool) (hx0 : (x == 0) = x0) (hk1 : (k == 1) = k1) (hk2 : (k == 2) = k2) (hk3 : (k == 3) = k3)
    (hva : (x0 || (!k1 && !k2)) = va) (hvb : (x0 || !k1) = vb) (hvc : (x0 || (!k1 && !k3)) = vc) (hr : (k1 || k2 || k3) = true ∨ entryOf k a b c = (0, 0, 0, 0, 0)) :
    Calls Try.prog 3 #[.int .u8 k, .int .u8 a, .int .u8 b, .int .u8 c, .int .u8 x] w fun e w' => e = .returned (.bool true) ∧ Below w.heap.size w w' := by
  obtain ⟨a1, ea, ba, ia⟩ := xor_byte a x ha hx
  obtain ⟨b1, eb, bb, ib⟩ := xor_byte b x hb hx
  obtain ⟨c1, ec, bc, ic⟩ := xor_byte c x hc hx
  have dx : decide (x = 0) = x0 := hx0
  have dk1 : decide (k = 1) = k1 := hk1
  have dk2 : decide (k = 2) = k2 := hk2
  have dk3 : decide (k = 3) = k3 := hk3
  have la := look_a k a b c a1 x ia
  have lb := look_b k a b c b1 x ib
  have lc := look_c k a b c c1 x ic
  rw [dx, dk1, dk2, hva] at la
  rw [dx, dk1, hvb] at lb
  rw [dx, dk1, dk3, hvc] at lc
  clear dx dk1 dk2 dk3 ia ib ic
  have LA := Lib.hid la
  have LB := Lib.hid lb
  have LC := Lib.hid lc
  have HR := Lib.hid hr
  have h1 := fun w => dec4 w k a b c hk ha hb hc
  have h2 := fun w => dec4 w k a1 b c hk ba hb hc
  have h3 := fun w => dec4 w k a b1 c hk ha bb hc
  have h4 := fun w => dec4 w k a b c1 hk ha hb bc
  clear la lb lc hr
  generalize entryOf k a b c = E at *
  generalize entryOf k a1 b c = E1 at *
  generalize entryOf k a b1 c = E2 at *
  generalize entryOf k a b c1 = E3 at *
  go_enter Try.func3, Try.ntmps3
  go_wp2_with fail
  refine (h1 w).mono ?_
  rintro e w1 ⟨A1, c1', rfl, r1, q1⟩
  go_wp2_with fail
  refine (h2 w1).mono ?_
  rintro e w2 ⟨A2, c2', rfl, r2, q2⟩
  have r1 := r1.kept q2
  have q2 := q1.trans (q2.mono q1.size)
  go_wp2_with fail
  refine (h3 w2).mono ?_
  rintro e w3 ⟨A3, c3', rfl, r3, q3⟩
  have r1 := r1.kept q3
  have r2 := r2.kept q3
  have q3 := q2.trans (q3.mono q2.size)
  go_wp2_with fail
  refine (h4 w3).mono ?_
  rintro e w4 ⟨A4, c4', rfl, r4, q4⟩
  have r1 := r1.kept q4
  have r2 := r2.kept q4
  have r3 := r3.kept q4
  have q4 := q3.trans (q4.mono q3.size)
  clear h1 h2 h3 h4 q1 q2 q3
  go_wp2_with fail
  refine (known_any w4).mono ?_
  rintro e w5 ⟨rfl, q5⟩
  have r1 := r1.kept q5
  have r2 := r2.kept q5
  have r3 := r3.kept q5
  have r4 := r4.kept q5
  have q5 := q4.trans (q5.mono q4.size)
  have hcell : ∀ W, Below w5.heap.size w5 W → (k1 || k2 || k3) = false → ∃ bb off, A1 = some ⟨bb, off, none⟩ ∧ W.cell? ⟨bb, off, none⟩ = some (.int .u8 0) ∧ W.cell? ⟨bb, off + 1, none⟩ = some (.int .i64 0) ∧ W.cell? ⟨bb, off + 2, none⟩ = some (.int .u8 0) ∧ W.cell? ⟨bb, off + 3, none⟩ = some (.int .i32 0) ∧ W.cell? ⟨bb, off + 4, none⟩ = some (.int .u8 0) := by
    intro W hW hf
    rcases HR.out with h | h
    · rw [hf] at h; cases h
    · have hr := r1.kept hW
      rw [h] at hr
      obtain ⟨bb, off, e, _, hx⟩ := hr.at (by omega)
      exact ⟨bb, off, e, hx 0 _ rfl, hx 1 _ rfl, hx 2 _ rfl, hx 3 _ rfl, hx 4 _ rfl⟩
  have HC := Lib.hid hcell
  clear hcell HR
  cases x0 <;> cases k1 <;> cases k2 <;> cases k3
  all_goals
    simp only [Bool.or_true, Bool.or_false, Bool.true_or, Bool.false_or, Bool.not_true, Bool.not_false, Bool.and_true, Bool.and_false, Bool.true_and, Bool.false_and] at hva hvb hvc
    subst hva hvb hvc
    have s2 := same1 (c := c1') (c' := c2') r1 r2 LA.out
    go_wp2_with fail
    refine s2.mono ?_
    rintro e w6 ⟨rfl, q6⟩
    have s3 := same1 (c := c1') (c' := c3') (r1.kept q6) (r3.kept q6) LB.out
    go_wp2_with fail
    refine s3.mono ?_
    rintro e w7 ⟨rfl, q7⟩
    have q7 := q6.trans (q7.mono q6.size)
    have s4 := same1 (c := c1') (c' := c4') (r1.kept q7) (r4.kept q7) LC.out
    go_wp2_with fail
    refine s4.mono ?_
    rintro e w8 ⟨rfl, q8⟩
    have q8 := q7.trans (q8.mono q7.size)
    clear s2 s3 s4
  all_goals first
    | (go_wp2; go_ret; exact ⟨rfl, q5.trans (q8.mono q5.size)⟩)
    | (obtain ⟨bb, off, rfl, g0, g1, g2, g3, g4⟩ := HC.out w8 q8 rfl; go_wp2; go_ret; exact ⟨rfl, q5.trans (q8.mono q5.size)⟩)
theorem ScriptKinds_walk (w : World) (k : Int) (hk : (Lit.int .u8 k).wf = true) (a : Int) (ha : (Lit.int .u8 a).wf = true) (b : Int) (hb : (Lit.int .u8 b).wf = true) (c : Int) (hc : (Lit.int .u8 c).wf = true) (x : Int) (hx : (Lit.int .u8 x).wf = true) :
    Calls Try.prog 3 #[.int .u8 k, .int .u8 a, .int .u8 b, .int .u8 c, .int .u8 x] w fun e w' => e = .returned (.bool true) ∧ Below w.heap.size w w' := by
  have byte : ∀ y : Int, (Lit.int .u8 y).wf = true → 0 ≤ y ∧ y ≤ 255 := fun y hy => by
    simp [Lit.wf, IntKind.min, IntKind.max, IntKind.signed, IntKind.bits] at hy
    omega
  refine kinds_any w k a b c x (byte k hk) (byte a ha) (byte b hb) (byte c hc) (byte x hx) _ _ _ _ _ _ _ rfl rfl rfl rfl rfl rfl rfl ?_
  unfold entryOf
  by_cases h1 : k = 1
  · left; simp [h1]
  · by_cases h2 : k = 2
    · left; simp [h2]
    · by_cases h3 : k = 3
      · left; simp [h3]
      · right; rw [if_neg h1, if_neg h2, if_neg h3]
end Go.Proofs.Ytefenbmchfbohaa
