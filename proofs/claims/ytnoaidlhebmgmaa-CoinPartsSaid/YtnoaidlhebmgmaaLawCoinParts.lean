/-
  Two coins that know nothing of one another; the walk of CoinParts.
-/
import Derived.Test.YtnoaidlhebmgmaaCoinC
import Derived.Test.YtnoaidlhebmgmaaIn
namespace Go.Proofs.Ytnoaidlhebmgmaa
open Go.RowKit Go.Rp

/-- Two coins, no block of the one among the other's. -/
def Two (B : Nat) (w : World) (p : Nat) (x : List Bool) (q : Nat) (y : List Bool) : Prop :=
  ∃ S T : Nat → Prop, CoinAt w p S x ∧ CoinAt w q T y ∧ (∀ b, S b → ¬ T b) ∧ (∀ b, S b → B ≤ b) ∧ ∀ b, T b → B ≤ b

section
variable {B : Nat} {w w' : World} {p q : Nat} {x y x' y' : List Bool}
theorem Two.symm (h : Two B w p x q y) : Two B w q y p x := by
  obtain ⟨S, T, h1, h2, h3, h4, h5⟩ := h
  exact ⟨T, S, h2, h1, fun b ht hs => h3 b hs ht, h5, h4⟩
theorem Two.keep (h : Two B w p x q y) (hb : Below w.heap.size w w') : Two B w' p x q y := by
  obtain ⟨S, T, h1, h2, h3⟩ := h
  exact ⟨S, T, h1.keep hb, h2.keep hb, h3⟩
theorem Two.fst (h : Two B w p x q y) : CoinB B w p x := by
  obtain ⟨S, T, h1, _, _, h4, _⟩ := h
  exact h1.mono h4
theorem Two.snd (h : Two B w p x q y) : CoinB B w q y := h.symm.fst
theorem Two.left {f : FuncId} {args : Array Value} {r : Ending} (h : Two B w p x q y) (hB : B ≤ w.heap.size)
    (hc : ∀ S : Nat → Prop, (∀ b, S b → B ≤ b) → CoinAt w p S x → Calls Try.prog f args w fun e w' => e = r ∧ CoinAt w' p (grow S w w') x' ∧ Mod S w w') :
    Calls Try.prog f args w fun e w' => e = r ∧ Two B w' p x' q y ∧ Below B w w' := by
  obtain ⟨S, T, h1, h2, h3, h4, h5⟩ := h
  refine (hc S h4 h1).mono fun e w' ⟨he, hp, hm⟩ => ⟨he, ⟨_, fun b => T b ∧ b < w.heap.size, hp, h2.lt.mod hm (fun b hb hs => h3 b hs hb.1), ?_, ?_, fun b hb => h5 b hb.1⟩, hm.below hB h4⟩
  · rintro b (hb | hb) ht
    · exact h3 b hb ht.1
    · omega
  · rintro b (hb | hb)
    · exact h4 b hb
    · exact Nat.le_trans hB hb.1
theorem Two.right {f : FuncId} {args : Array Value} {r : Ending} (h : Two B w p x q y) (hB : B ≤ w.heap.size)
    (hc : ∀ S : Nat → Prop, (∀ b, S b → B ≤ b) → CoinAt w q S y → Calls Try.prog f args w fun e w' => e = r ∧ CoinAt w' q (grow S w w') y' ∧ Mod S w w') :
    Calls Try.prog f args w fun e w' => e = r ∧ Two B w' p x q y' ∧ Below B w w' :=
  (h.symm.left hB hc).mono fun _ _ ⟨he, h1, h2⟩ => ⟨he, h1.symm, h2⟩

theorem toss_g (S : Nat → Prop) (h : CoinAt w p S x) : Calls Try.prog 12 #[.pointer (some ⟨p, 0, none⟩)] w fun e w' => e = .returned (.bool (x.headD false)) ∧ CoinAt w' p (grow S w w') x.tail ∧ Mod S w w' :=
  (toss_any w p S x h).mono fun _ _ ⟨he, hc, hm⟩ => ⟨he, hc.mono grow_left, hm⟩
theorem height_g (S : Nat → Prop) (h : CoinAt w p S x) {n : Nat} {l : List Bool} (hn : hgt 7 x = (n, l)) : Calls Try.prog 14 #[.pointer (some ⟨p, 0, none⟩)] w fun e w' => e = .returned (.int .i64 (n : Int)) ∧ CoinAt w' p (grow S w w') l ∧ Mod S w w' :=
  (height_any w p S x h).mono fun _ _ ⟨he, hc, hm⟩ => by rw [hn] at he hc; exact ⟨he, hc.mono grow_left, hm⟩
/-- A second coin made beside a first one. -/
theorem new_two (hB : B ≤ w.heap.size) (h : CoinB B w p x) : Calls Try.prog 9 #[] w fun e w' => e = .returned (.pointer (some ⟨w.heap.size, 0, none⟩)) ∧ Two B w' p x w.heap.size [] ∧ Below B w w' :=
  (new_any w).mono fun e w' ⟨he, hw⟩ => by
    subst hw
    have hl := CoinAt.lt h
    exact ⟨he, ⟨_, fun b => b = w.heap.size, hl.alloc _, ⟨none, 0, Blk.new _ _ _, Sl.nil _ _ _ _, rfl, by simp⟩, fun b hb he => by omega, fun b hb => hb.1, fun b hb => by omega⟩, (Below.refl _ w).alloc hB _⟩
end

theorem drop_head (X Y : List Bool) (k : Nat) (hk : k < X.length) : ((X ++ Y).drop k).headD false = (X.drop k).headD false ∧ ((X ++ Y).drop k).tail = (X ++ Y).drop (k + 1) ∧ (X.drop k).tail = X.drop (k + 1) := by
  refine ⟨?_, by simp, by simp⟩
  rw [List.drop_append_of_le_length (by omega), List.drop_eq_getElem_cons hk]
  rfl
theorem feed_small2 (bs cs : List Nat) (h : bs.length + cs.length ≤ 2500) : feed (bs.flatMap bitsOf) cs = bs.flatMap bitsOf ++ cs.flatMap bitsOf := by
  have := fed_len bs
  have := fed_len cs
  exact feed_done _ _ (by rw [List.length_append]; omega)
theorem feed_drop2 (X Y : List Bool) (cs : List Nat) (k : Nat) {n : Nat} (h : n + cs.length ≤ 2500) (hX : X.length = 8 * n) (hY : Y.length = 8 * cs.length) (hk : k ≤ 8 * n) (hYe : cs.flatMap bitsOf = Y) : feed (X.drop k) cs = (X ++ Y).drop k := by
  rw [feed_done _ _ (by rw [List.length_append, List.length_drop, hYe]; omega), hYe, List.drop_append_of_le_length (by omega)]
theorem feed_drop (bs cs : List Nat) (k : Nat) (h : bs.length + cs.length ≤ 2500) (hk : k ≤ 8 * bs.length) : feed ((bs.flatMap bitsOf).drop k) cs = (bs.flatMap bitsOf ++ cs.flatMap bitsOf).drop k := by
  have h1 := fed_len bs
  have h2 := fed_len cs
  rw [feed_done _ _ (by rw [List.length_append, List.length_drop]; omega), List.drop_append_of_le_length (by omega)]

theorem CoinParts_walk (w : World) (a : Option Addr) (n c : Nat) (zs : List Int) (h0 : InInts .u8 w a n c zs) (a' : Option Addr) (n' c' : Nat) (zs' : List Int) (h0' : InInts .u8 w a' n' c' zs') (x : Int) (hx : (Lit.int .u8 x).wf = true) :
    Calls Try.prog 5 #[.slice a n c, .slice a' n' c', .int .u8 x] w fun e w' => e = .returned (.bool true) ∧ Below w.heap.size w w' := by
  obtain ⟨bs, rfl, h8, hr⟩ := h0.bytes
  obtain ⟨cs, rfl, h8', hr'⟩ := h0'.bytes
  obtain ⟨hx0, hx1⟩ := wf_u8 hx
  have m1 : (bs.length : Int) ≤ 9223372036854775807 := by have := h0.le; have := h0.cap; unfold maxLen at this; omega
  have m2 : (cs.length : Int) ≤ 9223372036854775807 := by have := h0'.le; have := h0'.cap; unfold maxLen at this; omega
  have h1 := new_b (B := w.heap.size) (w := w) (Nat.le_refl _)
  obtain ⟨t, rfl⟩ : ∃ t : Nat, x = (t : Int) := ⟨x.toNat, by omega⟩
  by_cases hlen : 100 < bs.length + cs.length
  · have hL : (100 : Int) < (bs.length : Int) + (cs.length : Int) := by omega
    have m3 : (bs.length : Int) + (cs.length : Int) ≤ 9223372036854775807 := by have := h0.reach; have := h0'.reach; omega
    go_enter Try.func5, Try.ntmps5
    go_wp2_with fail
    refine (h1).mono ?_
    rintro e w1 ⟨rfl, c1, b1⟩
    go_wp2_with fail
    refine (new_two b1.size c1).mono ?_
    rintro e w2 ⟨rfl, c2, b2⟩
    have b2 := b1.trans b2
    go_wp2_with fail
    refine (known_any _).mono ?_
    rintro e w3 ⟨rfl, b3⟩
    go_wp2_with fail
    go_ret
    exact ⟨rfl, b2.trans (b3.mono b2.size)⟩
  · have hL : ¬ (100 : Int) < (bs.length : Int) + (cs.length : Int) := by omega
    go_enter Try.func5, Try.ntmps5
    go_wp2_with fail
    refine (h1).mono ?_
    rintro e w1 ⟨rfl, c1, b1⟩
    go_wp2_with fail
    refine (new_two b1.size c1).mono ?_
    rintro e w2 ⟨rfl, c2, b2⟩
    have b2 := b1.trans b2
    go_wp2_with fail
    refine (c2.left b2.size fun S hS hc => feed_any w2 _ S [] hc a c bs _ (hr.below b2 fun _ h => h) (fun b hb hs => by have := hS b hs; omega) h8 (by omega)).mono ?_
    rintro e w3 ⟨rfl, c3, b3⟩
    have b3 := b2.trans b3
    rw [feed_small bs (by omega)] at c3
    go_wp2_with fail
    refine (c3.left b3.size fun S hS hc => feed_any w3 _ S _ hc a' c' cs _ (hr'.below b3 fun _ h => h) (fun b hb hs => by have := hS b hs; omega) h8' (by omega)).mono ?_
    rintro e w4 ⟨rfl, c4, b4⟩
    have b4 := b3.trans b4
    rw [feed_small2 bs cs (by omega)] at c4
    go_wp2_with fail
    refine (c4.right b4.size fun S hS hc => feed_any w4 _ S _ hc a c bs _ (hr.below b4 fun _ h => h) (fun b hb hs => by have := hS b hs; omega) h8 (by omega)).mono ?_
    rintro e w5 ⟨rfl, c5, b5⟩
    have b5 := b4.trans b5
    rw [feed_small bs (by omega)] at c5
    have hA := fed_len bs
    have hY := fed_len cs
    generalize bs.flatMap bitsOf = X at *
    obtain ⟨Y, hYn⟩ : ∃ Y, cs.flatMap bitsOf = Y := ⟨_, rfl⟩
    rw [hYn] at c4 c5 hY
    have hYe := Lib.hid hYn
    clear hYn
    obtain ⟨N8, hN8⟩ : ∃ N8 : Nat, (8 * (bs.length : Int)) = (N8 : Int) := ⟨8 * bs.length, by simp⟩
    by_cases hmin : t ≤ N8
    · have hle : t ≤ 8 * bs.length := by omega
      have hmin' : (t : Int) ≤ (N8 : Int) := by omega
      go_wp2_with fail
      go_loopw [10] (fun k wr => ∃ m : Nat, m ≤ t ∧ k = .int .i64 (m : Int) ∧ Two w.heap.size wr w.heap.size ((X ++ Y).drop m) w1.heap.size (X.drop m) ∧ Below w.heap.size w wr) (fun k _ => t - (intOf k).toNat)
      case atStart => exact ⟨0, by omega, rfl, by simpa using c5, b5⟩
      case round =>
        clear c5 c3 c4 b5
        obtain ⟨m, hm, rfl, c5, b5⟩ := hrel
        by_cases hlt : m < t
        · obtain ⟨e1, e2, e3⟩ := drop_head X Y m (by omega)
          have ht1 := c5.left b5.size fun S hS hc => toss_g S hc
          rw [e1, e2] at ht1
          have ht2 := fun (W : World) (hb : w.heap.size ≤ W.heap.size) (h : Two w.heap.size W w.heap.size ((X ++ Y).drop (m + 1)) w1.heap.size (X.drop m)) => h.right hb fun S hS hc => toss_g S hc
          rw [e3] at ht2
          clear e1 e2 e3
          generalize (X.drop m).headD false = hd at *
          go_wp2_with fail
          refine ht1.mono ?_
          rintro e w6 ⟨rfl, c6, b6⟩
          have b6 := b5.trans b6
          go_wp2_with fail
          refine (ht2 _ b6.size c6).mono ?_
          rintro e w7 ⟨rfl, c7, b7⟩
          have b7 := b6.trans b7
          clear ht1 ht2
          go_wp2_with fail
          go_roundw
          case rel => exact ⟨m + 1, by omega, by go_num, c7, b7⟩
          case measure => simp [intOf]; omega
        · have : m = t := by omega
          subst this
          go_wp2_with fail
          refine (c5.right b5.size fun S hS hc => feed_any wr _ S _ hc a' c' cs _ (hr'.below b5 fun _ h => h) (fun b hb hs => by have := hS b hs; omega) h8' (by omega)).mono ?_
          rintro e w6 ⟨rfl, c6, b6⟩
          have b6 := b5.trans b6
          rw [feed_drop2 X Y cs _ (by omega) hA hY (by omega) hYe.out] at c6
          generalize (X ++ Y).drop _ = Z at c6
          go_wp2_with fail
          go_loopw [11] (fun k wr => ∃ (m : Nat) (l : List Bool), m ≤ 20 ∧ k = .int .i64 (m : Int) ∧ Two w.heap.size wr w.heap.size l w1.heap.size l ∧ Below w.heap.size w wr) (fun k _ => 20 - (intOf k).toNat)
          case atStart => exact ⟨0, _, by omega, rfl, c6, b6⟩
          case round =>
            clear c5 b5 c6 b6
            obtain ⟨m, l, hm, rfl, c5, b5⟩ := hrel
            by_cases hlt2 : m < 20
            · obtain ⟨h, l', hh⟩ : ∃ h l', hgt 7 l = (h, l') := ⟨_, _, rfl⟩
              have HH := Lib.hid hh
              clear hh
              go_wp2_with fail
              refine (c5.left b5.size fun S hS hc => height_g S hc HH.out).mono ?_
              rintro e w7 ⟨rfl, c7, b7⟩
              have b7 := b5.trans b7
              go_wp2_with fail
              refine (c7.right b7.size fun S hS hc => height_g S hc HH.out).mono ?_
              rintro e w8 ⟨rfl, c8, b8⟩
              have b8 := b7.trans b8
              go_wp2_with fail
              refine (left_b c8.fst).mono ?_
              rintro e w9 ⟨rfl, rfl⟩
              go_wp2_with fail
              refine (left_b c8.snd).mono ?_
              rintro e w9 ⟨rfl, rfl⟩
              go_wp2_with fail
              go_roundw
              case rel => exact ⟨m + 1, l', by omega, by go_num, c8, b8⟩
              case measure => simp [intOf]; omega
            · have : m = 20 := by omega
              subst this
              go_wp2_with fail
              refine (known_any _).mono ?_
              rintro e w9 ⟨rfl, b9⟩
              go_wp2_with fail
              go_ret
              exact ⟨rfl, b5.trans (b9.mono b5.size)⟩
    · have hle : N8 ≤ 8 * bs.length := by omega
      have hmin' : ¬ (t : Int) ≤ (N8 : Int) := by omega
      go_wp2_with fail
      go_loopw [10] (fun k wr => ∃ m : Nat, m ≤ N8 ∧ k = .int .i64 (m : Int) ∧ Two w.heap.size wr w.heap.size ((X ++ Y).drop m) w1.heap.size (X.drop m) ∧ Below w.heap.size w wr) (fun k _ => N8 - (intOf k).toNat)
      case atStart => exact ⟨0, by omega, rfl, by simpa using c5, b5⟩
      case round =>
        clear c5 c3 c4 b5
        obtain ⟨m, hm, rfl, c5, b5⟩ := hrel
        by_cases hlt : m < N8
        · obtain ⟨e1, e2, e3⟩ := drop_head X Y m (by omega)
          have ht1 := c5.left b5.size fun S hS hc => toss_g S hc
          rw [e1, e2] at ht1
          have ht2 := fun (W : World) (hb : w.heap.size ≤ W.heap.size) (h : Two w.heap.size W w.heap.size ((X ++ Y).drop (m + 1)) w1.heap.size (X.drop m)) => h.right hb fun S hS hc => toss_g S hc
          rw [e3] at ht2
          clear e1 e2 e3
          generalize (X.drop m).headD false = hd at *
          go_wp2_with fail
          refine ht1.mono ?_
          rintro e w6 ⟨rfl, c6, b6⟩
          have b6 := b5.trans b6
          go_wp2_with fail
          refine (ht2 _ b6.size c6).mono ?_
          rintro e w7 ⟨rfl, c7, b7⟩
          have b7 := b6.trans b7
          clear ht1 ht2
          go_wp2_with fail
          go_roundw
          case rel => exact ⟨m + 1, by omega, by go_num, c7, b7⟩
          case measure => simp [intOf]; omega
        · have : m = N8 := by omega
          subst this
          go_wp2_with fail
          refine (c5.right b5.size fun S hS hc => feed_any wr _ S _ hc a' c' cs _ (hr'.below b5 fun _ h => h) (fun b hb hs => by have := hS b hs; omega) h8' (by omega)).mono ?_
          rintro e w6 ⟨rfl, c6, b6⟩
          have b6 := b5.trans b6
          rw [feed_drop2 X Y cs _ (by omega) hA hY (by omega) hYe.out] at c6
          generalize (X ++ Y).drop _ = Z at c6
          go_wp2_with fail
          go_loopw [11] (fun k wr => ∃ (m : Nat) (l : List Bool), m ≤ 20 ∧ k = .int .i64 (m : Int) ∧ Two w.heap.size wr w.heap.size l w1.heap.size l ∧ Below w.heap.size w wr) (fun k _ => 20 - (intOf k).toNat)
          case atStart => exact ⟨0, _, by omega, rfl, c6, b6⟩
          case round =>
            clear c5 b5 c6 b6
            obtain ⟨m, l, hm, rfl, c5, b5⟩ := hrel
            by_cases hlt2 : m < 20
            · obtain ⟨h, l', hh⟩ : ∃ h l', hgt 7 l = (h, l') := ⟨_, _, rfl⟩
              have HH := Lib.hid hh
              clear hh
              go_wp2_with fail
              refine (c5.left b5.size fun S hS hc => height_g S hc HH.out).mono ?_
              rintro e w7 ⟨rfl, c7, b7⟩
              have b7 := b5.trans b7
              go_wp2_with fail
              refine (c7.right b7.size fun S hS hc => height_g S hc HH.out).mono ?_
              rintro e w8 ⟨rfl, c8, b8⟩
              have b8 := b7.trans b8
              go_wp2_with fail
              refine (left_b c8.fst).mono ?_
              rintro e w9 ⟨rfl, rfl⟩
              go_wp2_with fail
              refine (left_b c8.snd).mono ?_
              rintro e w9 ⟨rfl, rfl⟩
              go_wp2_with fail
              go_roundw
              case rel => exact ⟨m + 1, l', by omega, by go_num, c8, b8⟩
              case measure => simp [intOf]; omega
            · have : m = 20 := by omega
              subst this
              go_wp2_with fail
              refine (known_any _).mono ?_
              rintro e w9 ⟨rfl, b9⟩
              go_wp2_with fail
              go_ret
              exact ⟨rfl, b5.trans (b9.mono b5.size)⟩
end Go.Proofs.Ytnoaidlhebmgmaa
