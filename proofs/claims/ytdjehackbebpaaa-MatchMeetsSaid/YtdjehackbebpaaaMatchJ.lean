/-
  A batch at a stack is as its operations one by one, in plain Lean; Filled; comparisons.
-/
import Derived.Test.YtdjehackbebpaaaMatchI
namespace Go.Proofs.Ytdjehackbebpaaa
open Go.RowKit Go.Rp

theorem Same_any (w : World) (A A' : Option Addr) (n n' c c' : Nat) (R R' : Nat → Prop) (xs ys : List Int) (hx : Rd w R 1 A n (xs.map fun x => Value.int .i32 x)) (hy : Rd w R' 1 A' n' (ys.map fun x => Value.int .i32 x)) (hn : n ≤ 1000000) (hn' : n' ≤ 1000000) :
    Calls Try.prog 37 #[.slice A n c, .slice A' n' c'] w fun e w' => e = .returned (.bool (decide (xs = ys))) ∧ Below w.heap.size w w' := by
  have l1 : xs.length = n := by simpa using hx.1
  have l2 : ys.length = n' := by simpa using hy.1
  by_cases hnn : n = n'
  · subst hnn
    have hne : ((n : Int) != (n : Int)) = false := by simp
    have H1 := Lib.hid l1
    have H2 := Lib.hid l2
    clear l1 l2
    go_enter Try.func37, Try.ntmps37
    go_wp2
    clear hne
    go_loopw [5] (fun k wr => ∃ m : Nat, m ≤ n ∧ k = .int .i64 (m : Int) ∧ Below w.heap.size w wr ∧ Hid (xs.take m = ys.take m)) (fun k _ => n - (intOf k).toNat)
    case atStart => exact ⟨0, by omega, rfl, Below.refl _ _, Lib.hid rfl⟩
    case round =>
      obtain ⟨m, hm, rfl, hb, heq⟩ := hrel
      by_cases hlt : m < n
      · obtain ⟨b1, o1, rfl, _, h1⟩ := (hx.kept hb).at (by omega)
        obtain ⟨b2, o2, rfl, _, h2⟩ := (hy.kept hb).at (by omega)
        have hm1 : m < xs.length := by rw [H1.out]; exact hlt
        have hm2 : m < ys.length := by rw [H2.out]; exact hlt
        have g1 : wr.cell? ⟨b1, o1 + m, none⟩ = some (.int .i32 xs[m]) := h1 m _ (by simp [hm1])
        have g2 : wr.cell? ⟨b2, o2 + m, none⟩ = some (.int .i32 ys[m]) := h2 m _ (by simp [hm2])
        have t1 := Lib.hid (List.take_succ_eq_append_getElem hm1)
        have t2 := Lib.hid (List.take_succ_eq_append_getElem hm2)
        generalize xs[m] = x at *
        generalize ys[m] = y at *
        clear h1 h2 hm1 hm2
        by_cases hxy : x = y
        · subst hxy
          go_wp2
          go_quiet (fail)
          go_wp2
          go_roundw
          case rel => exact ⟨m + 1, by omega, by go_num, below_drewN hb _, Lib.hid (by rw [t1.out, t2.out, heq.out])⟩
          case measure => simp [intOf]; omega
        · have hxy' : (x != y) = true := by simpa using hxy
          have hd : decide (xs = ys) = false := by
            simp only [decide_eq_false_iff_not]
            intro he
            have e1 := t1.out
            have e2 := t2.out
            rw [he, e2] at e1
            simp at e1
            exact hxy e1.symm
          have HD := Lib.hid hd
          clear hd hxy
          go_wp2
          go_quiet (fail)
          go_wp2
          go_ret
          rw [HD.out]
          exact ⟨rfl, below_drewN hb _⟩
      · have : m = n := by omega
        subst this
        have hd : decide (xs = ys) = true := by
          have := heq.out
          rw [List.take_of_length_le (by rw [H1.out]; omega), List.take_of_length_le (by rw [H2.out]; omega)] at this
          simpa using this
        go_wp2
        go_ret
        rw [hd]
        exact ⟨rfl, hb⟩
  · have hne : ((n : Int) != (n' : Int)) = true := by simp; omega
    have hd : decide (xs = ys) = false := by
      simp
      rintro rfl
      omega
    rw [hd]
    have H1 := Lib.hid l1
    have H2 := Lib.hid l2
    clear l1 l2 hd
    go_enter Try.func37, Try.ntmps37
    go_wp2
    go_ret
    exact ⟨rfl, Below.refl _ _⟩
theorem Same_s {B : Nat} {w : World} {L : List Res} (hB : B ≤ w.heap.size) (h : At B w L) {A A' : Option Addr} {n n' c c' : Nat} {R R' : Nat → Prop} {xs ys : List Int} (hx : Rd w R 1 A n (xs.map fun x => Value.int .i32 x)) (hy : Rd w R' 1 A' n' (ys.map fun x => Value.int .i32 x)) (hn : n ≤ 1000000) (hn' : n' ≤ 1000000) {v : Bool} (hv : decide (xs = ys) = v) :
    Calls Try.prog 37 #[.slice A n c, .slice A' n' c'] w fun e w' => e = .returned (.bool v) ∧ At B w' L ∧ Below B w w' := by
  subst hv
  exact (Same_any w A A' n n' c c' R R' xs ys hx hy hn hn').mono fun _ _ ⟨he, hb⟩ => ⟨he, h.keep hb, hb.mono hB⟩

theorem mEnd_len {l0 : List Int} {ops : List (Int × Int)} {st : List Nat × Nat} (h : st.2 ≤ l0.length) : (mEnd l0 ops st).length = st.2 + st.1.length := by simp [mEnd]; omega
/-- One by one: what operation k is told, and what stays. -/
theorem same_told {mo : Nat} {l0 : List Int} {ops : List (Int × Int)} {k : Nat} (hk : k < ops.length) :
    sDo mo (mEnd l0 ops (mAt mo l0.length ops k)) ops[k].1 ops[k].2 = (mEnd l0 ops (mAt mo l0.length ops (k + 1)), mCode mo l0.length ops k, mVal l0 mo ops k) := by
  have hle := mAt_below_le mo l0.length ops k
  have hln := mEnd_len (ops := ops) hle
  have hsu := mAt_succ (most := mo) (below := l0.length) hk
  have hp : mPair mo l0.length ops k = (mStep mo k (kindAt ops k) (mAt mo l0.length ops k)).2.1 := rfl
  have hc : mCode mo l0.length ops k = (mStep mo k (kindAt ops k) (mAt mo l0.length ops k)).2.2 := rfl
  have hmet := fun (j : Nat) (h : mPair mo l0.length ops k = (j : Int)) => mVal_met (l0 := l0) h
  have htk := fun (h : mPair mo l0.length ops k = -1) (h2 : mCode mo l0.length ops k = 2) => mVal_taken (l0 := l0) h h2
  have hno := fun (h2 : mCode mo l0.length ops k ≠ 2) (h : mPair mo l0.length ops k = -1) => mVal_none (l0 := l0) h2 h
  rw [hsu, ← valAt_lt hk, ← kindAt_lt hk]
  rw [kindAt_lt hk] at *
  obtain ⟨⟨wt, b⟩, hst⟩ : ∃ st, mAt mo l0.length ops k = st := ⟨_, rfl⟩
  rw [hst] at hle hln hp hc htk ⊢
  dsimp only at hle hln htk
  generalize ops[k].1 = kd at *
  by_cases h1 : kd = 1
  · subst h1
    rw [mStep_push] at hp hc ⊢
    dsimp only at hp hc ⊢
    by_cases hr : b + wt.length < mo
    · rw [if_pos hr] at hp hc ⊢
      rw [hc, hno (by rw [hc]; dsimp only; decide) hp]
      unfold sDo
      rw [if_pos rfl, if_pos (by rw [hln]; exact hr)]
      simp [mEnd]
    · rw [if_neg hr] at hp hc ⊢
      rw [hc, hno (by rw [hc]; dsimp only; decide) hp]
      unfold sDo
      rw [if_pos rfl, if_neg (by rw [hln]; exact hr)]
  · by_cases h2 : kd = 2
    · subst h2
      rcases List.eq_nil_or_concat wt with rfl | ⟨l, j, hlj⟩
      · by_cases hb : 0 < b
        · have e : mStep mo k 2 ([], b) = (([], b - 1), -1, 2) := by simp [mStep, hb]
          rw [e] at hp hc ⊢
          rw [hc, htk hp hc]
          have e2 : mEnd l0 ops ([], b) = l0.take (b - 1) ++ [l0[b - 1]?.getD 0] := by unfold mEnd; rw [take_last hb hle]; simp
          rw [e2]
          simp [sDo, mEnd]
        · have e : mStep mo k 2 ([], b) = (([], b), -1, 4) := by simp [mStep, hb]
          rw [e] at hp hc ⊢
          rw [hc, hno (by rw [hc]; dsimp only; decide) hp]
          have e2 : mEnd l0 ops ([], b) = [] := by unfold mEnd; simp; omega
          rw [e2]
          simp [sDo]
      · rw [List.concat_eq_append] at hlj
        subst hlj
        rw [mStep_pop_some] at hp hc ⊢
        rw [hc, hmet j hp]
        have e2 : mEnd l0 ops (l ++ [j], b) = mEnd l0 ops (l, b) ++ [valAt ops j] := by simp [mEnd]
        rw [e2]
        simp [sDo]
    · rw [mStep_other h1 h2] at hp hc ⊢
      rw [hc, hno (by rw [hc]; dsimp only; decide) hp]
      unfold sDo
      rw [if_neg h1, if_neg h2]

/-- What Filled puts. -/
def put3 (b : Nat) : Int := (b : Int) * 3
def filled (mo : Nat) (bs : List Nat) : List Int := (bs.map put3).take mo
theorem take_snoc (X : List Int) (y : Int) (mo : Nat) : (X ++ [y]).take mo = if (X.take mo).length < mo then X.take mo ++ [y] else X.take mo := by
  by_cases h : X.length < mo
  · rw [if_pos (by simp; omega), List.take_of_length_le (by simp; omega), List.take_of_length_le (by omega)]
  · rw [if_neg (by simp; omega), List.take_append_of_le_length (by omega)]
theorem filled_snoc (mo : Nat) (bs : List Nat) (m : Nat) (hm : m < bs.length) : filled mo (bs.take (m + 1)) = if (filled mo (bs.take m)).length < mo then filled mo (bs.take m) ++ [put3 bs[m]] else filled mo (bs.take m) := by
  unfold filled
  rw [List.take_succ_eq_append_getElem hm, List.map_append]
  exact take_snoc _ _ _
theorem filled_len (mo : Nat) (bs : List Nat) : (filled mo bs).length ≤ mo := by simp [filled]; omega

set_option maxHeartbeats 1000000 in
theorem Filled_s {B : Nat} {w : World} {L : List Res} (hB : B ≤ w.heap.size) (h : At B w L) (ms : Int) {A : Option Addr} {n c : Nat} {R : Nat → Prop} {bs : List Nat} (hn : bs.length = n) (hr : Rd w R 1 A n (bs.map fun (x : Nat) => Value.int .u8 (x : Int))) (hR : ∀ b, R b → b < B) (h8 : ∀ x ∈ bs, x < 256) (hlen : n ≤ 100000) :
    Calls Try.prog 18 #[.int .i64 ms, .slice A n c] w fun e w' => ∃ p, e = .returned (.pointer (some ⟨p, 0, none⟩)) ∧ At B w' (stk p (cut ms) (filled (cut ms) bs) :: L) ∧ Below B w w' := by
  have hnew := new_s hB h ms
  have HN := Lib.hid hn
  clear hn
  go_enter Try.func18, Try.ntmps18
  go_wp2_with fail
  refine hnew.mono ?_
  rintro e w1 ⟨rfl, s1, b1⟩
  have hle1 := Nat.le_trans hB b1.size
  clear hnew h
  generalize w.heap.size = p at *
  go_wp2_with fail
  go_loopg [6] n (fun g k wr => ∃ m : Nat, m + g = n ∧ k = .int .i64 (m : Int) ∧ At B wr (stk p (cut ms) (filled (cut ms) (bs.take m)) :: L) ∧ Below B w wr ∧ B ≤ wr.heap.size)
  case atStart => exact ⟨0, by omega, rfl, by simpa [filled] using s1, b1, hle1⟩
  case round =>
    clear s1 b1
    obtain ⟨m, hm, rfl, s2, b2, hle⟩ := hrel
    by_cases hlt : m < n
    · have hml : m < bs.length := by rw [HN.out]; exact hlt
      obtain ⟨b, off, rfl, _, hcells⟩ := (hr.below b2 hR).at (by omega)
      have g0 : wr.cell? ⟨b, off + m, none⟩ = some (.int .u8 ((bs[m] : Nat) : Int)) := hcells m _ (by simp [hml])
      have h256 := h8 _ (List.getElem_mem hml)
      have hsn := Lib.hid (filled_snoc (cut ms) bs m hml)
      have hpu := push_s hle s2 (put3 bs[m])
      have e1 : IntKind.i32.wrap ((bs[m] : Nat) : Int) = ((bs[m] : Nat) : Int) := IntWalk.i32_in _ (by omega)
      have e2 : IntKind.i32.wrap (((bs[m] : Nat) : Int) * 3) = put3 bs[m] := IntWalk.i32_in _ (by omega)
      have e3 : wrap32 (((bs[m] : Nat) : Int) * 3) = put3 bs[m] := by rw [← e2]; simp [wrap32, IntKind.wrap_i32]
      generalize filled (cut ms) (bs.take m) = fl at *
      generalize put3 bs[m] = pv at *
      generalize bs[m] = x at *
      clear hcells
      go_wp2_with fail
      refine hpu.mono ?_
      rintro e w3 ⟨rfl, s3, b3'⟩
      have b3 := b2.trans b3'
      have hle3 := Nat.le_trans hle b3'.size
      clear hpu
      go_wp2_with fail
      go_roundg (gk - 1)
      case measure => omega
      case rel => exact ⟨m + 1, by omega, by go_num, by rw [hsn.out]; exact s3, b3, hle3⟩
    · obtain rfl : m = n := by omega
      rw [List.take_of_length_le (by rw [HN.out]; omega)] at s2
      go_wp2_with fail
      go_ret
      exact ⟨p, rfl, s2, b2⟩
end Go.Proofs.Ytdjehackbebpaaa
