/-
  The coin's functions at things that lie apart.
-/
import Derived.Test.YtnoaidlhebmgmaaCoinC
import Derived.Test.YtnoaidlhebmgmaaSep
namespace Go.Proofs.Ytnoaidlhebmgmaa
open Go.RowKit Go.Rp

theorem stable_coin (p : Nat) (bits : List Bool) : Stable (fun w S => CoinAt w p S bits) := ⟨fun h => h.mono, fun h => h.mod, fun h => h.lt⟩
/-- A coin. -/
def coinR (p : Nat) (bits : List Bool) : Res := ⟨fun w S => CoinAt w p S bits, stable_coin p bits⟩
/-- Bytes, read. -/
abbrev bytesR (A : Option Addr) (n : Nat) (bs : List Nat) : Res := rdRes 1 (by omega) A n (bs.map fun (x : Nat) => Value.int .u8 (x : Int))
theorem feed_len (bits : List Bool) (bs : List Nat) : (feed bits bs).length = min (bits.length + 8 * bs.length) 20000 := by
  unfold feed
  rw [List.length_take, List.length_append, fed_len]
  omega

section
variable {B : Nat} {w w' : World} {p : Nat} {bits : List Bool} {L : List Res}
abbrev At (B : Nat) (w : World) (L : List Res) : Prop := Sep w (fun x => B ≤ x) L
theorem new_s (hB : B ≤ w.heap.size) (h : At B w L) : Calls Try.prog 9 #[] w fun e w' => e = .returned (.pointer (some ⟨w.heap.size, 0, none⟩)) ∧ At B w' (coinR w.heap.size [] :: L) ∧ Below B w w' :=
  (new_any w).mono fun e w' ⟨he, hw⟩ => by
    subst hw
    have hb : Below w.heap.size w (w.alloc (.cells #[.slice none 0 0] 45)) := (Below.refl _ w).alloc (Nat.le_refl _) _
    exact ⟨he, h.made (fun x hx => Nat.le_trans hB hx) hb ⟨none, 0, Blk.new _ _ _, Sl.nil _ _ _ _, ⟨Nat.le_refl _, by simp⟩, by simp⟩, hb.mono hB⟩
theorem left_s (h : At B w (coinR p bits :: L)) {n : Nat} (hn : bits.length = n) : Calls Try.prog 13 #[.pointer (some ⟨p, 0, none⟩)] w fun e w' => e = .returned (.int .i64 (n : Int)) ∧ w = w' := by
  subst hn; exact left_any w p _ bits h.get
theorem toss_s (hB : B ≤ w.heap.size) (h : At B w (coinR p bits :: L)) : Calls Try.prog 12 #[.pointer (some ⟨p, 0, none⟩)] w fun e w' => e = .returned (.bool (bits.headD false)) ∧ At B w' (coinR p bits.tail :: L) ∧ Below B w w' :=
  h.step (a' := coinR p bits.tail) hB fun S _ hS => (toss_any w p S bits hS).mono fun e w' ⟨he, hc, hm⟩ => ⟨he, CoinAt.mono hc grow_left, hm⟩
theorem height_s (hB : B ≤ w.heap.size) (h : At B w (coinR p bits :: L)) {n : Nat} {l : List Bool} (hn : hgt 7 bits = (n, l)) : Calls Try.prog 14 #[.pointer (some ⟨p, 0, none⟩)] w fun e w' => e = .returned (.int .i64 (n : Int)) ∧ At B w' (coinR p l :: L) ∧ Below B w w' :=
  h.step (a' := coinR p l) hB fun S _ hS => (height_any w p S bits hS).mono fun e w' ⟨he, hc, hm⟩ => by rw [hn] at he hc; exact ⟨he, CoinAt.mono hc grow_left, hm⟩
theorem feed_s (hB : B ≤ w.heap.size) {A : Option Addr} {n c : Nat} {bs : List Nat} (h : At B w (coinR p bits :: bytesR A n bs :: L)) (hn : bs.length = n) (h8 : ∀ x ∈ bs, x < 256) (hlen : n ≤ 100000) :
    Calls Try.prog 11 #[.pointer (some ⟨p, 0, none⟩), .slice A n c] w fun e w' => e = .returned (.tuple #[]) ∧ At B w' (coinR p (feed bits bs) :: bytesR A n bs :: L) ∧ Below B w w' := by
  subst hn
  exact h.step2 (a' := coinR p (feed bits bs)) hB fun S R hR hS hr => feed_any w p S bits hS A c bs R hr hR h8 hlen
/-- Fed with bytes from outside. -/
theorem feed_o (hB : B ≤ w.heap.size) {A : Option Addr} {n c : Nat} {bs : List Nat} (h : At B w (coinR p bits :: L)) (hr : Rd w (· < B) 1 A n (bs.map fun (x : Nat) => Value.int .u8 (x : Int))) (hn : bs.length = n) (h8 : ∀ x ∈ bs, x < 256) (hlen : n ≤ 100000) :
    Calls Try.prog 11 #[.pointer (some ⟨p, 0, none⟩), .slice A n c] w fun e w' => e = .returned (.tuple #[]) ∧ At B w' (coinR p (feed bits bs) :: L) ∧ Below B w w' := by
  subst hn
  obtain ⟨S, h1, h2, h3⟩ := h.front (a' := coinR p (feed bits bs)) fun x hx => Nat.le_trans hB hx
  exact (feed_any w p S bits h1 A c bs _ hr (fun b hb hs => by have := (h2 b hs).1; omega) h8 hlen).mono fun e w' ⟨he, hc, hm⟩ => ⟨he, h3 w' hc hm, hm.below hB fun x hx => (h2 x hx).1⟩
theorem copy_s (hB : B ≤ w.heap.size) (h : At B w (coinR p bits :: L)) : Calls Try.prog 18 #[.pointer (some ⟨p, 0, none⟩)] w fun e w' => ∃ q, e = .returned (.pointer (some ⟨q, 0, none⟩)) ∧ At B w' (coinR q bits :: coinR p bits :: L) ∧ Below B w w' :=
  (copy_any w p _ bits h.get).mono fun e w' ⟨q, he, hs, hb⟩ => ⟨q, he, h.made (fun x hx => Nat.le_trans hB hx) hb hs, hb.mono hB⟩
theorem known_s (hB : B ≤ w.heap.size) (h : At B w L) : Calls Try.prog 10 #[] w fun e w' => e = .returned (.bool true) ∧ At B w' L ∧ Below B w w' :=
  (known_any w).mono fun _ _ ⟨he, hb⟩ => ⟨he, h.keep hb, hb.mono hB⟩
/-- A literal of one byte. -/
theorem lit_s (hB : B ≤ w.heap.size) (h : At B w L) (b : Nat) : At B (w.alloc (.cells #[.int .u8 (b : Int)] 5)) (bytesR (some ⟨w.heap.size, 0, none⟩) 1 [b] :: L) :=
  h.made (fun x hx => Nat.le_trans hB hx) ((Below.refl _ w).alloc (Nat.le_refl _) _) ((Rd.lit (sz := 1) w _ #[.int .u8 (b : Int)] 1 rfl).more fun x hx => ⟨by omega, by simp; omega⟩)
end
end Go.Proofs.Ytnoaidlhebmgmaa
