/-
  The coin: one coin of the law's own; the chapter's example.
-/
import Derived.Test.YtnoaidlhebmgmaaCoinB
namespace Go.Proofs.Ytnoaidlhebmgmaa
open Go.RowKit Go.Rp

/-- A coin in blocks from B on. -/
def CoinB (B : Nat) (w : World) (p : Nat) (bits : List Bool) : Prop := CoinAt w p (fun b => B ≤ b) bits

theorem CoinAt.mono {w : World} {p : Nat} {S T : Nat → Prop} {bits : List Bool} (h : CoinAt w p S bits) (hS : ∀ b, S b → T b) : CoinAt w p T bits := by
  obtain ⟨A, c, hb, hs, hp, h20⟩ := h
  exact ⟨A, c, hb, hs.mono hS, hS p hp, h20⟩
theorem CoinAt.mod {w w' : World} {p : Nat} {S T : Nat → Prop} {bits : List Bool} (h : CoinAt w p S bits) (hm : Mod T w w') (hd : ∀ b, S b → ¬ T b) : CoinAt w' p S bits := by
  obtain ⟨A, c, hb, hs, hp, h20⟩ := h
  exact ⟨A, c, hb.mod hm (hd p hp), hs.mod hm hd, hp, h20⟩
theorem CoinAt.alloc {w : World} {p : Nat} {S : Nat → Prop} {bits : List Bool} (h : CoinAt w p S bits) (o : Obj) : CoinAt (w.alloc o) p S bits := by
  obtain ⟨A, c, hb, hs, hp, h20⟩ := h
  exact ⟨A, c, hb.alloc o, hs.alloc o, hp, h20⟩
theorem CoinAt.drew {w : World} {p : Nat} {S : Nat → Prop} {bits : List Bool} (h : CoinAt w p S bits) : CoinAt w.drew p S bits := h
theorem CoinAt.lt {w : World} {p : Nat} {S : Nat → Prop} {bits : List Bool} (h : CoinAt w p S bits) : CoinAt w p (fun b => S b ∧ b < w.heap.size) bits := by
  obtain ⟨A, c, hb, hs, hp, h20⟩ := h
  exact ⟨A, c, hb, hs.lt, ⟨hp, hb.lt⟩, h20⟩
theorem CoinAt.keep {w w' : World} {p : Nat} {S : Nat → Prop} {bits : List Bool} (h : CoinAt w p S bits) (hb : Below w.heap.size w w') : CoinAt w' p S bits :=
  (h.lt.mod (T := fun b => w.heap.size ≤ b) (Mod.of_below hb) (fun b hb => by omega)).mono fun _ hb => hb.1
theorem CoinB.keep {w w' : World} {p B : Nat} {bits : List Bool} (h : CoinB B w p bits) (hb : Below w.heap.size w w') : CoinB B w' p bits := CoinAt.keep h hb

section
variable {B : Nat} {w : World} {p : Nat} {bits : List Bool}
theorem new_b (hB : B ≤ w.heap.size) : Calls Try.prog 9 #[] w fun e w' => e = .returned (.pointer (some ⟨w.heap.size, 0, none⟩)) ∧ CoinB B w' w.heap.size [] ∧ Below B w w' :=
  (new_any w).mono fun e w' ⟨he, hw⟩ => by
    subst hw
    exact ⟨he, ⟨none, 0, Blk.new _ _ _, Sl.nil _ _ _ _, hB, by simp⟩, (Below.refl _ w).alloc hB _⟩
theorem left_b (h : CoinB B w p bits) : Calls Try.prog 13 #[.pointer (some ⟨p, 0, none⟩)] w fun e w' => e = .returned (.int .i64 bits.length) ∧ w = w' := left_any w p _ bits h
theorem left_n (h : CoinB B w p bits) {n : Nat} (hn : bits.length = n) : Calls Try.prog 13 #[.pointer (some ⟨p, 0, none⟩)] w fun e w' => e = .returned (.int .i64 (n : Int)) ∧ w = w' := by
  subst hn; exact left_any w p _ bits h
theorem toss_b (hB : B ≤ w.heap.size) (h : CoinB B w p bits) : Calls Try.prog 12 #[.pointer (some ⟨p, 0, none⟩)] w fun e w' => e = .returned (.bool (bits.headD false)) ∧ CoinB B w' p bits.tail ∧ Below B w w' :=
  (toss_any w p _ bits h).mono fun e w' ⟨he, hc, hm⟩ => ⟨he, hc, hm.below hB fun _ hb => hb⟩
theorem height_b (hB : B ≤ w.heap.size) (h : CoinB B w p bits) : Calls Try.prog 14 #[.pointer (some ⟨p, 0, none⟩)] w fun e w' => e = .returned (.int .i64 (hgt 7 bits).1) ∧ CoinB B w' p (hgt 7 bits).2 ∧ Below B w w' :=
  (height_any w p _ bits h).mono fun e w' ⟨he, hc, hm⟩ => ⟨he, hc, hm.below hB fun _ hb => hb⟩
theorem height_n (hB : B ≤ w.heap.size) (h : CoinB B w p bits) {n : Nat} {l : List Bool} (hn : hgt 7 bits = (n, l)) : Calls Try.prog 14 #[.pointer (some ⟨p, 0, none⟩)] w fun e w' => e = .returned (.int .i64 (n : Int)) ∧ CoinB B w' p l ∧ Below B w w' := by
  have := height_b hB h
  rw [hn] at this
  exact this
theorem feed_b (hB : B ≤ w.heap.size) (h : CoinB B w p bits) {A : Option Addr} {c : Nat} {bs : List Nat} (hr : Rd w (· < B) 1 A bs.length (bs.map fun (x : Nat) => Value.int .u8 (x : Int))) (h8 : ∀ x ∈ bs, x < 256) (hlen : bs.length ≤ 100000) :
    Calls Try.prog 11 #[.pointer (some ⟨p, 0, none⟩), .slice A bs.length c] w fun e w' => e = .returned (.tuple #[]) ∧ CoinB B w' p (feed bits bs) ∧ Below B w w' :=
  (feed_any w p _ bits h A c bs _ hr (fun b hb hs => by omega) h8 hlen).mono fun e w' ⟨he, hc, hm⟩ => ⟨he, hc.mono fun b hb => by
    rcases hb with hb | hb
    · exact hb
    · exact Nat.le_trans hB hb.1, hm.below hB fun _ hb => hb⟩
/-- Fed with a slice that lies in the block L, which is no part of the coin. -/
theorem feed_l (hB : B ≤ w.heap.size) {L : Nat} (h : CoinAt w p (fun b => B ≤ b ∧ b ≠ L) bits) {A : Option Addr} {c : Nat} {bs : List Nat} (hr : Rd w (· = L) 1 A bs.length (bs.map fun (x : Nat) => Value.int .u8 (x : Int))) (h8 : ∀ x ∈ bs, x < 256) (hlen : bs.length ≤ 100000) :
    Calls Try.prog 11 #[.pointer (some ⟨p, 0, none⟩), .slice A bs.length c] w fun e w' => e = .returned (.tuple #[]) ∧ CoinB B w' p (feed bits bs) ∧ Below B w w' :=
  (feed_any w p _ bits h A c bs _ hr (fun b hb hs => hs.2 hb) h8 hlen).mono fun e w' ⟨he, hc, hm⟩ => ⟨he, hc.mono fun b hb => by
    rcases hb with hb | hb
    · exact hb.1
    · exact Nat.le_trans hB hb.1, hm.below hB fun _ hb => hb.1⟩
/-- Fed with a literal. -/
theorem feed_lit (hB : B ≤ w.heap.size) (h : CoinB B w p bits) (b : Nat) (h8 : b < 256) :
    Calls Try.prog 11 #[.pointer (some ⟨p, 0, none⟩), .slice (some ⟨w.heap.size, 0, none⟩) 1 1] (w.alloc (.cells #[.int .u8 (b : Int)] 5)) fun e w' => e = .returned (.tuple #[]) ∧ CoinB B w' p (feed bits [b]) ∧ Below B w w' :=
  (feed_l (B := B) (w := w.alloc (.cells #[.int .u8 (b : Int)] 5)) (L := w.heap.size) (by simp; omega) ((h.lt.alloc _).mono fun x hx => ⟨hx.1, by have := hx.2; omega⟩) (bs := [b]) (Rd.lit (sz := 1) w _ #[.int .u8 (b : Int)] 1 rfl) (by simpa using h8) (by simp)).mono
    fun e w' ⟨he, hc, hm⟩ => ⟨he, hc, ((Below.refl B w).alloc hB _).trans hm⟩
end

theorem fed_len (bs : List Nat) : (bs.flatMap bitsOf).length = 8 * bs.length := by
  induction bs with
  | nil => rfl
  | cons b bs ih => simp [bitsOf_length, ih]; omega
theorem bitsOf_drop (b j : Nat) (hj : j < 8) : (bitsOf b).drop j = bitAt b j :: (bitsOf b).drop (j + 1) := by
  rw [List.drop_eq_getElem_cons (by rw [bitsOf_length]; exact hj)]
  simp [bitsOf]
theorem drop_bits (bs : List Nat) (m : Nat) (hlt : m < bs.length) : (bs.drop m).flatMap bitsOf = bitsOf bs[m] ++ (bs.drop (m + 1)).flatMap bitsOf := by
  rw [List.drop_eq_getElem_cons hlt, List.flatMap_cons]
theorem feed_small (bs : List Nat) (h : bs.length ≤ 2500) : feed [] bs = bs.flatMap bitsOf := by
  have := fed_len bs
  rw [feed_done _ _ (by rw [List.nil_append]; omega), List.nil_append]
theorem bit_eq2 (b j : Nat) : (((b : Int) / 2 ^ j).tmod 2 == 1) = bitAt b j := by
  have h1 : ((b : Int) / 2 ^ j) = ((b / 2 ^ j : Nat) : Int) := by simp
  rw [h1, Int.tmod_eq_emod_of_nonneg (Int.natCast_nonneg _)]
  unfold bitAt
  rw [Bool.eq_iff_iff]
  simp
  omega

theorem ex0 : feed [] [5] = [true, false, true, false, false, false, false, false] := by decide +kernel
theorem ex1 : hgt 7 [true, false, true, false, false, false, false, false] = (2, [true, false, false, false, false, false]) := by decide +kernel
theorem ex2 : hgt 7 [true, false, false, false, false, false] = (2, [false, false, false, false]) := by decide +kernel

theorem known_any (w : World) : Calls Try.prog 10 #[] w fun e w' => e = .returned (.bool true) ∧ Below w.heap.size w w' := by
  have h1 := new_b (B := w.heap.size) (w := w) (Nat.le_refl _)
  go_enter Try.func10, Try.ntmps10
  go_wp2_with fail
  refine h1.mono ?_
  rintro e w1 ⟨rfl, c1, b1⟩
  have h2 := feed_lit b1.size c1 5 (by omega)
  rw [ex0] at h2
  go_wp2_with fail
  refine h2.mono ?_
  rintro e w2 ⟨rfl, c2, b2⟩
  have b3 := b1.trans b2
  have h3 := height_b b3.size c2
  rw [ex1] at h3
  go_wp2_with fail
  refine h3.mono ?_
  rintro e w3 ⟨rfl, c3, b4⟩
  have b5 := b3.trans b4
  have h4 := height_b b5.size c3
  rw [ex2] at h4
  go_wp2_with fail
  refine h4.mono ?_
  rintro e w4 ⟨rfl, c4, b6⟩
  have b7 := b5.trans b6
  go_wp2_with fail
  refine (left_b c4).mono ?_
  rintro e w5 ⟨rfl, rfl⟩
  go_wp2_with fail
  refine (toss_b b7.size c4).mono ?_
  rintro e w5 ⟨rfl, c5, b8⟩
  go_wp2_with fail
  refine (left_b c5).mono ?_
  rintro e w6 ⟨rfl, rfl⟩
  go_wp2_with fail
  go_ret
  exact ⟨rfl, b7.trans b8⟩
end Go.Proofs.Ytnoaidlhebmgmaa
