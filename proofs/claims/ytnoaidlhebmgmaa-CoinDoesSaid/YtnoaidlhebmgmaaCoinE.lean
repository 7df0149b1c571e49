/-
  The document's own coin: a slice of bits.
-/
import Derived.Test.YtnoaidlhebmgmaaCoinD
import Derived.Deep.RegionHeld3
import Derived.Deep.RegionWith
import Derived.BigQuiet
import Derived.Deep.QuietTactic
namespace Go.Proofs.Ytnoaidlhebmgmaa
open Go.RowKit Go.Rp

abbrev bl (l : List Bool) : List Value := l.map .bool
/-- What is told: a slice of bits, some of which may lie where the elder one lay, and something more. -/
def RTold (w : World) (A : Option Addr) (n : Nat) (bits bits' : List Bool) (v : Value) (e : Ending) (w' : World) : Prop :=
  ∃ A' c', e = .returned (.tuple #[.slice A' bits'.length c', v]) ∧ bits'.length ≤ c' ∧ c' ≤ maxLen ∧ (∀ T : Nat → Prop, Rd w T 1 A n (bl bits) → Rd w' (grow T w w') 1 A' bits'.length (bl bits')) ∧ Below w.heap.size w w'

theorem rtold_mk {w w' : World} {A A' : Option Addr} {n m c' : Nat} {bits bits' : List Bool} {v : Value} (hm : bits'.length = m) (h1 : m ≤ c') (h2 : c' ≤ maxLen) (hT : ∀ T : Nat → Prop, Rd w T 1 A n (bl bits) → Rd w' (grow T w w') 1 A' m (bl bits')) (hb : Below w.heap.size w w') :
    RTold w A n bits bits' v (.returned (.tuple #[.slice A' m c', v])) w' := by
  subst hm; exact ⟨A', c', rfl, h1, h2, hT, hb⟩
theorem rtold_int {w w' : World} {A A' : Option Addr} {n m c' : Nat} {bits bits' : List Bool} {x y : Int} (hm : bits'.length = m) (h1 : m ≤ c') (h2 : c' ≤ maxLen) (hT : ∀ T : Nat → Prop, Rd w T 1 A n (bl bits) → Rd w' (grow T w w') 1 A' m (bl bits')) (hb : Below w.heap.size w w') (hx : x = y) :
    RTold w A n bits bits' (.int .i64 y) (.returned (.tuple #[.slice A' m c', .int .i64 x])) w' := by
  subst hx; exact rtold_mk hm h1 h2 hT hb
theorem rd_tail {w : World} {T : Nat → Prop} {b off n : Nat} {x : Value} {xs : List Value} (h : Rd w T 1 (some ⟨b, off, none⟩) (n + 1) (x :: xs)) : Rd w T 1 (some ⟨b, off + 1, none⟩) n xs :=
  ⟨by simpa using h.1, fun _ => by
    obtain ⟨b', o', e, hT, hc⟩ := h.2 (by omega)
    simp at e
    obtain ⟨rfl, rfl⟩ := e
    refine ⟨b, off + 1, rfl, hT, fun j u hu => ?_⟩
    have := hc (j + 1) u (by simpa using hu)
    rwa [show off + 1 + j = off + (j + 1) by omega]⟩
theorem rd_none {w : World} {T : Nat → Prop} {A : Option Addr} {xs : List Value} (h : xs = []) : Rd w T 1 A 0 xs := by subst h; exact Rd.nil

theorem rToss_any (w : World) (A : Option Addr) (n c : Nat) (R : Nat → Prop) (bits : List Bool) (hn : bits.length = n) (hc : n ≤ c) (hcm : c ≤ maxLen) (hr : Rd w R 1 A n (bl bits)) :
    Calls Try.prog 16 #[.slice A n c] w (RTold w A n bits bits.tail (.bool (bits.headD false))) := by
  subst hn
  cases bits with
  | nil =>
    go_enter Try.func16, Try.ntmps16
    go_wp2_with fail
    go_ret2
    exact ⟨A, c, rfl, hc, hcm, fun T hT => hT.more grow_left, Below.refl _ _⟩
  | cons x l =>
    obtain ⟨b, off, rfl, hb, hx⟩ := hr.at (by simp)
    have hx0 : w.cell? ⟨b, off, none⟩ = some (.bool x) := hx 0 _ rfl
    clear hx
    obtain ⟨n, hn⟩ : ∃ n, l.length = n := ⟨_, rfl⟩
    simp only [List.length_cons, hn] at hc ⊢
    have HN := Lib.hid hn
    clear hn hr
    unfold maxLen at hcm
    have h1 : (1 : Int) ≤ (n : Int) + 1 := by omega
    go_enter Try.func16, Try.ntmps16
    go_wp2_with fail
    have hw : IntKind.i64.wrap ((n : Int) + 1 - 1) = (n : Int) := by rw [Int.add_sub_cancel]; exact IntWalk.i64_in _ (by omega)
    go_quiet (fail)
    all_goals go_wp2_with fail
    all_goals go_ret2
    all_goals refine rtold_mk HN.out (by omega) (by unfold maxLen; omega) (fun T hT => Rd.drewN (Rd.more ?_ grow_left) _) (below_drewN (Below.refl _ _) _)
    all_goals first
      | exact rd_tail hT
      | (have h0 : n = 0 := by omega
         subst h0
         exact rd_none (by rw [List.eq_nil_of_length_eq_zero HN.out]; rfl))

theorem rHeight_any (w : World) (A : Option Addr) (n c : Nat) (R : Nat → Prop) (bits : List Bool) (hn : bits.length = n) (hc : n ≤ c) (hcm : c ≤ maxLen) (hr : Rd w R 1 A n (bl bits)) :
    Calls Try.prog 17 #[.slice A n c] w (RTold w A n bits (hgt 7 bits).2 (.int .i64 (hgt 7 bits).1)) := by
  go_enter Try.func17, Try.ntmps17
  go_wp2_with fail
  go_loopw [0, 4, 5, 6, 9] (fun l k u5 u6 u9 wr => ∃ (m : Nat) (A' : Option Addr) (nl c' : Nat) (l' : List Bool), m ≤ 7 ∧ k = .int .i64 ((m : Int) + 1) ∧ l = .slice A' nl c' ∧ l'.length = nl ∧ nl ≤ c' ∧ c' ≤ maxLen ∧ (∀ T : Nat → Prop, Rd w T 1 A n (bl bits) → Rd wr (grow T w wr) 1 A' nl (bl l')) ∧ Below w.heap.size w wr ∧ Hid (hgt 7 bits = ((hgt (7 - m) l').1 + m, (hgt (7 - m) l').2))) (fun _ k _ _ _ _ => 8 - (intOf k).toNat)
  case atStart => exact ⟨0, A, n, c, bits, by omega, rfl, rfl, hn, hc, hcm, fun T hT => hT.more grow_left, Below.refl _ _, Lib.hid rfl⟩
  case round =>
    obtain ⟨m, A', nl, c', l', hm, rfl, rfl, hl, hle, hcm', hT, hb, hh⟩ := hrel
    by_cases h7 : m = 7
    · subst h7
      have h8 : ((7 : Nat) : Int) + 1 = 8 := by decide
      have HL := Lib.hid hl
      clear hl
      go_wp2_with fail
      go_ret2
      have e := hh.out
      simp only [Nat.sub_self, hgt] at e
      rw [e]
      exact rtold_mk HL.out hle hcm' hT hb
    · have h8 : (m : Int) + 1 < 8 := by omega
      have ht := rToss_any wr A' nl c' _ l' hl hle hcm' (hT R hr)
      obtain ⟨k, hk⟩ : ∃ k, 7 - m = k + 1 := ⟨6 - m, by omega⟩
      have hk2 : 7 - (m + 1) = k := by omega
      have e := hh.out
      rw [hk] at e
      have HK := Lib.hid hk2
      clear hh hk hk2 hl
      have hstep : ∀ (w1 : World) (A1 : Option Addr) (n1 : Nat) (l1 : List Bool), (∀ T : Nat → Prop, Rd wr T 1 A' nl (bl l') → Rd w1 (grow T wr w1) 1 A1 n1 (bl l1)) → Below wr.heap.size wr w1 →
          (∀ T : Nat → Prop, Rd w T 1 A n (bl bits) → Rd w1 (grow T w w1) 1 A1 n1 (bl l1)) ∧ Below w.heap.size w w1 := fun w1 A1 n1 l1 h1 h2 =>
        ⟨fun T hh => (h1 _ (hT T hh)).more (grow_grow hb.size h2.size (Nat.le_refl _)), hb.trans (h2.mono hb.size)⟩
      rcases l' with _ | ⟨x, l'⟩
      · simp only [hgt, List.tail_nil, List.headD_nil] at e ht
        have HE := Lib.hid e
        clear e
        go_wp2_with fail
        refine ht.mono ?_
        rintro e w1 ⟨A1, c1, rfl, q1, q2, q3, q4⟩
        obtain ⟨p1, p2⟩ := hstep w1 A1 _ _ q3 q4
        go_wp2_with fail
        go_ret2
        rw [HE.out]
        exact rtold_int rfl q1 q2 p1 p2 (by simp; omega)
      · rcases x
        · simp only [hgt, List.tail_cons, List.headD_cons] at e ht
          have HE := Lib.hid e
          clear e
          unfold RTold at ht
          obtain ⟨n1, hn1⟩ : ∃ n1, l'.length = n1 := ⟨_, rfl⟩
          rw [hn1] at ht
          have HN1 := Lib.hid hn1
          clear hn1
          go_wp2_with fail
          refine ht.mono ?_
          rintro e w1 ⟨A1, c1, rfl, q1, q2, q3, q4⟩
          obtain ⟨p1, p2⟩ := hstep w1 A1 _ _ q3 q4
          go_wp2_with fail
          go_ret2
          rw [HE.out]
          exact rtold_int HN1.out q1 q2 p1 p2 (by simp; omega)
        · simp only [hgt, List.tail_cons, List.headD_cons] at e ht
          have HE := Lib.hid e
          clear e
          unfold RTold at ht
          obtain ⟨n1, hn1⟩ : ∃ n1, l'.length = n1 := ⟨_, rfl⟩
          rw [hn1] at ht
          have HN1 := Lib.hid hn1
          clear hn1
          go_wp2_with fail
          refine ht.mono ?_
          rintro e w1 ⟨A1, c1, rfl, q1, q2, q3, q4⟩
          obtain ⟨p1, p2⟩ := hstep w1 A1 _ _ q3 q4
          go_wp2_with fail
          go_roundw
          case rel => exact ⟨m + 1, A1, n1, c1, l', by omega, by go_num, rfl, HN1.out, q1, q2, p1, p2, Lib.hid (by rw [HE.out, HK.out]; simp; omega)⟩
          case measure => simp [intOf]; omega

/-- No more than twenty thousand. -/
def capd (l : List Bool) : List Bool := l.take 20000
theorem capd_len (l : List Bool) (h : l.length ≤ 20000) : capd l = l := List.take_of_length_le h
theorem feed_capd (bits : List Bool) (bs : List Nat) : feed bits bs = capd (bits ++ bs.flatMap bitsOf) := rfl
theorem feed_step (P : List Bool) (b : Bool) : capd (P ++ [b]) = if (capd P).length < 20000 then capd P ++ [b] else capd P := by
  unfold capd
  generalize 20000 = K
  split
  · rename_i h
    have : P.length < K := by rw [List.length_take] at h; omega
    rw [List.take_of_length_le (by simp; omega), List.take_of_length_le (by omega)]
  · rename_i h
    have : K ≤ P.length := by rw [List.length_take] at h; omega
    rw [List.take_append_of_le_length this]

theorem rFeed_any (w : World) (A : Option Addr) (n c : Nat) (R : Nat → Prop) (bits : List Bool) (hn : bits.length = n) (h20 : n ≤ 20000) (hr : Rd w R 1 A n (bl bits)) (A2 : Option Addr) (n2 c2 : Nat) (R2 : Nat → Prop) (bs : List Nat) (hn2 : bs.length = n2) (hr2 : Rd w R2 1 A2 n2 (bs.map fun (x : Nat) => Value.int .u8 (x : Int))) (h8 : ∀ x ∈ bs, x < 256) (hlen : n2 ≤ 100000) :
    Calls Try.prog 15 #[.slice A n c, .slice A2 n2 c2] w (NewSl w 4 1 (feed bits bs).length (bl (feed bits bs))) := by
  obtain ⟨i0, hi0, hz0, hz1, hz2⟩ := info_parts info_bool
  have h1 : ∀ u ∈ bl bits, u.oneCell' = true := by intro u hu; obtain ⟨x, _, rfl⟩ := List.mem_map.1 hu; rfl
  have HN := Lib.hid hn
  have HN2 := Lib.hid hn2
  clear hn hn2
  go_enter Try.func15, Try.ntmps15
  go_wp2_with (at_builtin; refine wpList_append_sl _ rfl (.tmp 8) (.tmp 9) _ rfl 4 i0 _ 1 1 Try.underlying35 hi0 hz0 hz1 hz2 rfl (by omega) none 0 0 [] (fun _ => False) rfl (Sl.nil _ _ _ _) R A n c _ rfl hr h1 (by simp only [maxLen]; omega) (by omega) ?_; intro A1 c1 w1 hown1 hmod1)
  rw [Nat.zero_add, List.nil_append] at hown1
  have hb0 : capd bits = bits := capd_len _ (by rw [HN.out]; exact h20)
  have hl0 : (capd bits).length = n := by rw [hb0]; exact HN.out
  have hs1 : Sl w1 4 1 A1 n c1 (bl (capd bits)) (fun b => w.heap.size ≤ b ∧ b < w1.heap.size) := by
    rw [hb0]
    refine hown1.mono fun b hb => ?_
    rcases hb with hb | hb
    · exact hb.elim
    · exact hb
  have b1 : Below w.heap.size w w1 := hmod1.below (Nat.le_refl _) fun b hb => hb.elim
  go_loopw [5, 6, 7] (fun o k i wr => ∃ (m : Nat) (A' : Option Addr) (nl c' : Nat), m ≤ n2 ∧ k = .int .i64 (m : Int) ∧ o = .slice A' nl c' ∧ Hid ((capd (bits ++ (bs.take m).flatMap bitsOf)).length = nl) ∧ Sl wr 4 1 A' nl c' (bl (capd (bits ++ (bs.take m).flatMap bitsOf))) (fun b => w.heap.size ≤ b ∧ b < wr.heap.size) ∧ Below w.heap.size w wr) (fun _ k _ _ => n2 - (intOf k).toNat)
  case atStart => exact ⟨0, A1, n, c1, by omega, rfl, rfl, Lib.hid (by simpa using hl0), by simpa using hs1, b1⟩
  case round =>
    clear hown1 hmod1 hl0 hb0 hs1 b1
    obtain ⟨m, A', nl, c', hm, rfl, rfl, HL, hs, hb⟩ := hrel
    by_cases hlt : m < n2
    · obtain ⟨b, off, rfl, hbR, hcells⟩ := hr2.at (by omega)
      have hlt' : m < bs.length := by rw [HN2.out]; exact hlt
      have hx : w.cell? ⟨b, off + m, none⟩ = some (.int .u8 ((bs[m] : Nat) : Int)) := hcells m _ (by simp [hlt'])
      have hbw := World.block_lt_of_cell? w _ hx
      simp only at hbw
      have h256 : bs[m] < 256 := h8 _ (List.getElem_mem hlt')
      have hfs := Lib.hid (fed_snoc bits bs m hlt')
      have hsn := Lib.hid (bitsOf_snoc bs[m])
      have hbl := Lib.hid (bitsOf_length bs[m])
      clear hcells
      generalize bits ++ (bs.take m).flatMap bitsOf = P at *
      generalize bs[m] = y at *
      go_wp2_with fail
      obtain ⟨wo, rfl⟩ : ∃ wo : World, wo = wr := ⟨_, rfl⟩
      go_loopw [5, 7] (fun o i wq => ∃ (j : Nat) (A' : Option Addr) (nl c' : Nat), j ≤ 8 ∧ i = .int .i64 (j : Int) ∧ o = .slice A' nl c' ∧ Hid ((capd (P ++ (bitsOf y).take j)).length = nl) ∧ Sl wq 4 1 A' nl c' (bl (capd (P ++ (bitsOf y).take j))) (fun b => w.heap.size ≤ b ∧ b < wq.heap.size) ∧ Below w.heap.size w wq) (fun _ i _ => 8 - (intOf i).toNat)
      case atStart => exact ⟨0, A', nl, c', by omega, rfl, rfl, Lib.hid (by simpa using HL.out), by simpa using hs, hb⟩
      case round =>
        clear hs hb HL
        obtain ⟨j, A', nl, c', hj, rfl, rfl, HL, hs, hb⟩ := hrel
        by_cases hj8 : j < 8
        · iterate 33 go_step
          by_cases hf : nl < 20000
          · have HF := Lib.hid hf
            have HFI : Hid (((nl : Int) < 20000)) := Lib.hid (by omega)
            clear hf
            rw [decide_eq_true HFI.out]
            have hstep := feed_step (P ++ (bitsOf y).take j) (bitAt y j)
            rw [List.append_assoc, ← hsn.out j hj8, HL.out] at hstep
            have hx1 := (hb.cell (p := ⟨b, off + m, none⟩) hbw).trans hx
            have hw64 : IntKind.u64.wrap ((j : Nat) : Int) = (j : Int) := IntWalk.u64_in _ (by omega)
            have hmin : min j 8 = j := by omega
            have hbit := bit_eq2 y j
            obtain ⟨cur, hcur⟩ : ∃ cur, capd (P ++ (bitsOf y).take j) = cur := ⟨_, rfl⟩
            rw [hcur] at hstep HL hs
            clear hcur
            rw [if_pos HF.out] at hstep
            have HS := Lib.hid hstep
            have hnl : nl ≤ 100000 := by have := HF.out; omega
            clear hstep HF HFI
            go_wp2_with (at_builtin; refine wpList_append_sl _ rfl (.tmp 24) (.tmp 34) _ rfl 4 i0 _ 1 1 Try.underlying35 hi0 hz0 hz1 hz2 rfl (by omega) A' nl c' _ _ rfl (by exact hs.alloc _) (· = wr.heap.size) (some ⟨wr.heap.size, 0, none⟩) 1 1 [.bool (bitAt y j)] rfl (by exact Rd.lit (sz := 1) wr _ #[.bool (bitAt y j)] 1 rfl) (by simp [Value.oneCell']) (by simp only [maxLen]; omega) (by omega) ?_; intro A3 c3 w3 hown3 hmod3)
            go_roundw
            case rel =>
              have hz := hmod3.size
              simp only [World.size_alloc] at hz
              refine ⟨j + 1, A3, nl + 1, c3, by omega, by go_num, rfl, Lib.hid (by rw [HS.out, List.length_append, HL.out]; rfl), ?_, (hb.alloc hb.size _).trans (hmod3.below (by simp; have := hb.size; omega) fun b hb => hb.1)⟩
              rw [HS.out]
              unfold bl
              rw [List.map_append]
              refine hown3.mono fun b hb' => ?_
              have := hb.size
              rcases hb' with hb' | hb'
              · exact ⟨hb'.1, by omega⟩
              · simp only [World.size_alloc] at hb'
                exact ⟨by omega, hb'.2⟩
            case measure => simp [intOf]; omega
          · have HF := Lib.hid hf
            have HFI : Hid (¬ ((nl : Int) < 20000)) := Lib.hid (by omega)
            clear hf
            rw [decide_eq_false HFI.out]
            have hstep := feed_step (P ++ (bitsOf y).take j) (bitAt y j)
            rw [List.append_assoc, ← hsn.out j hj8, HL.out] at hstep
            have hx1 := (hb.cell (p := ⟨b, off + m, none⟩) hbw).trans hx
            have hw64 : IntKind.u64.wrap ((j : Nat) : Int) = (j : Int) := IntWalk.u64_in _ (by omega)
            have hmin : min j 8 = j := by omega
            have hbit := bit_eq2 y j
            obtain ⟨cur, hcur⟩ : ∃ cur, capd (P ++ (bitsOf y).take j) = cur := ⟨_, rfl⟩
            rw [hcur] at hstep HL hs
            clear hcur
            rw [if_neg HF.out] at hstep
            have HS := Lib.hid hstep
            clear hstep
            go_wp2_with fail
            go_roundw
            case rel => exact ⟨j + 1, A', nl, c', by omega, by go_num, rfl, Lib.hid (by rw [HS.out]; exact HL.out), by rw [HS.out]; exact hs, hb⟩
            case measure => simp [intOf]; omega
        · obtain rfl : j = 8 := by omega
          go_wp2_with fail
          go_roundw
          case rel =>
            have e : P ++ (bitsOf y).take 8 = P ++ bitsOf y := by rw [List.take_of_length_le (by rw [hbl.out]; omega)]
            rw [e] at HL hs
            exact ⟨m + 1, A', nl, c', by omega, by go_num, rfl, by rw [hfs.out]; exact HL, by rw [hfs.out]; exact hs, hb⟩
          case measure => simp [intOf]; omega
    · obtain rfl : m = n2 := by omega
      go_wp2_with fail
      go_ret
      rw [List.take_of_length_le (l := bs) (by rw [HN2.out]; omega)] at HL hs
      rw [feed_capd, HL.out]
      exact ⟨A', c', rfl, hs, hb⟩
end Go.Proofs.Ytnoaidlhebmgmaa
