/-
  What a law's arguments read as: slices of integers that came in.
-/
import Derived.Test.YtmcnccfbligeaaaMem
namespace Go.Rp
open Go.RowKit

/-- A slice of integers that came in: the numbers zs, each fitting its kind; nil let in. -/
structure InInts (k : IntKind) (w : World) (a : Option Addr) (n c : Nat) (zs : List Int) : Prop where
  nil : a = none → n = 0 ∧ c = 0
  le : n ≤ c
  cap : c ≤ maxLen
  len : zs.length = n
  rd : Rd w (· < w.heap.size) 1 a n (zs.map fun x => Value.int k x)
  wf : ∀ z ∈ zs, (Lit.int k z).wf = true
  reach : n ≤ 140737488351232

theorem InInts.none_ (k : IntKind) (w : World) : InInts k w none 0 0 [] :=
  ⟨fun _ => ⟨rfl, rfl⟩, Nat.le_refl _, by simp [maxLen], rfl, ⟨by simp, fun h => absurd h (by omega)⟩, by simp, by omega⟩
theorem InInts.of_row {k : IntKind} {w : World} {a : Option Addr} {len cap : Nat} {zs : List Int}
    (h : ∃ x, a = some x ∧ len ≤ cap ∧ cap ≤ maxLen ∧ zs.length = cap ∧ (∀ i, i < zs.length → w.cell? (x.add i) = some (.int k (zs.getD i 0))) ∧ ∀ n ∈ zs, (Lit.int k n).wf = true) (hreach : len ≤ 140737488351232) : InInts k w a len cap (zs.take len) := by
  obtain ⟨x, rfl, hl, hm, hz, hc, hw⟩ := h
  refine ⟨by simp, hl, hm, by simp; omega, ⟨by simp; omega, fun hn => ?_⟩, fun z hz => hw z (List.mem_of_mem_take hz), hreach⟩
  obtain ⟨b, off, spot⟩ := x
  have h0 := hc 0 (by omega)
  have hspot : spot = none := by simpa [Addr.add] using World.cell?_spot h0
  subst hspot
  refine ⟨b, off, rfl, ?_, fun j u hu => ?_⟩
  · have := World.block_lt_of_cell? w _ h0
    simpa [Addr.add] using this
  · rw [List.getElem?_map] at hu
    obtain ⟨z, hz1, rfl⟩ := Option.map_eq_some_iff.1 hu
    rw [List.getElem?_take] at hz1
    split at hz1
    · have h1 := hc j (by omega)
      rw [List.getD_eq_getElem?_getD, hz1] at h1
      simp only [Option.getD_some] at h1
      rw [← h1]
      by_cases h0 : j = 0 <;> simp [Addr.add, h0]
    · cases hz1

theorem wf_u8 {z : Int} (h : (Lit.int .u8 z).wf = true) : 0 ≤ z ∧ z ≤ 255 := by
  simp [Lit.wf, IntKind.min, IntKind.max, IntKind.signed, IntKind.bits] at h
  omega
/-- Bytes that came in. -/
theorem InInts.bytes {w : World} {a : Option Addr} {n c : Nat} {zs : List Int} (h : InInts .u8 w a n c zs) :
    ∃ bs : List Nat, bs.length = n ∧ (∀ x ∈ bs, x < 256) ∧ Rd w (· < w.heap.size) 1 a n (bs.map fun (x : Nat) => Value.int .u8 (x : Int)) := by
  refine ⟨zs.map Int.toNat, by simpa using h.len, fun x hx => ?_, ?_⟩
  · obtain ⟨z, hz, rfl⟩ := List.mem_map.1 hx
    have := wf_u8 (h.wf z hz)
    omega
  · have e : ((zs.map Int.toNat).map fun (x : Nat) => Value.int .u8 (x : Int)) = zs.map fun x => Value.int .u8 x := by
      rw [List.map_map]
      refine List.map_congr_left fun z hz => ?_
      have := wf_u8 (h.wf z hz)
      simp
      omega
    rw [e]
    exact h.rd
end Go.Rp
