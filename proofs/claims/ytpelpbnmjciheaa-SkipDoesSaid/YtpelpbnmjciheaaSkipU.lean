/-
  Deeds of one's own: what they read, joined; parts of slices of bytes and of values.
-/
import Derived.Test.YtpelpbnmjciheaaSkipT
namespace Go.Proofs.Ytpelpbnmjciheaa
open Go.RowKit Go.Rp

theorem info_deed : (Try.prog.info? 31).map (fun i => (i.zero, i.size, i.bytes)) = some (some (.agg #[.int .u8 0, .int .i32 0, .int .i64 0, .slice none 0 0, .slice none 0 0]), 5, 64) := by kernel_rfl
/-- Three things as one. -/
theorem sep_three {w : World} {U : Nat → Prop} {a b c d : Res} {L : List Res} (h : Sep w U (a :: b :: c :: L)) (f : ∀ S T V, a.Q w S → b.Q w T → c.Q w V → d.Q w (fun x => S x ∨ T x ∨ V x)) : Sep w U (d :: L) := by
  obtain ⟨S, h1, h2, T, h3, h4, V, h5, h6, h7⟩ := h
  refine ⟨fun x => S x ∨ T x ∨ V x, fun x hx => ?_, f S T V h2 h4 h6, h7.mono fun x hx => ⟨hx.1.1.1, fun h => ?_⟩⟩
  · rcases hx with hx | hx | hx
    · exact h1 x hx
    · exact (h3 x hx).1
    · exact (h5 x hx).1.1
  · rcases h with h | h | h
    · exact hx.1.1.2 h
    · exact hx.1.2 h
    · exact hx.2 h
/-- The values and heights of deeds, read. -/
def dsQ (es : List Deed) (w : World) (S : Nat → Prop) : Prop := ∀ d ∈ es, Rd w S 1 d.a d.n (iv d.vs) ∧ Rd w S 1 d.b d.m (il d.hs)
def dsR (es : List Deed) : Res :=
  ⟨dsQ es, fun h hS d hd => ⟨(h d hd).1.more hS, (h d hd).2.more hS⟩, fun h hm hx d hd => ⟨(h d hd).1.mod hm hx, (h d hd).2.mod hm hx⟩, fun h d hd => ⟨(stable_rd 1 (by omega) _ _ _).lt (h d hd).1, (stable_rd 1 (by omega) _ _ _).lt (h d hd).2⟩⟩
def okD (es : List Deed) : Prop := ∀ d ∈ es, 0 ≤ d.k ∧ d.k ≤ 255 ∧ d.vs.length = d.n ∧ d.hs.length = d.m ∧ d.n ≤ 100000 ∧ d.m ≤ 100000
theorem ds_nil {w : World} {U : Nat → Prop} {L : List Res} (h : Sep w U L) : Sep w U (dsR [] :: L) := ⟨fun _ => False, fun _ h => h.elim, fun _ h => (by cases h), h.mono fun _ h => ⟨h, fun h => h⟩⟩
theorem ds_own {B : Nat} {w : World} {es : List Deed} {a : List Res} {L : List Res} (ho : okD es) {d : Deed} (hd : d ∈ es) : DeedR B w (a ++ dsR es :: L) d :=
  ⟨(ho d hd).1, (ho d hd).2.1, (ho d hd).2.2.1, (ho d hd).2.2.2.1, (ho d hd).2.2.2.2.1, (ho d hd).2.2.2.2.2,
    fun w' b h _ => by
      have h1 : At B w' ((b ++ a) ++ dsR es :: L) := by simpa using h
      exact ⟨_, ((show dsQ es w' _ from (sep_dropL h1).get) d hd).1⟩,
    fun w' b h _ => by
      have h1 : At B w' ((b ++ a) ++ dsR es :: L) := by simpa using h
      exact ⟨_, ((show dsQ es w' _ from (sep_dropL h1).get) d hd).2⟩⟩
theorem ds_join {w : World} {U : Nat → Prop} {A1 A2 : Option Addr} {k1 d1 k2 d2 t : Nat} {vs hs : List Int} {es : List Deed} {L : List Res} (h : Sep w U (ownI A1 k1 d1 vs :: ownJ A2 k2 d2 hs :: dsR es :: L)) (ht : t ≤ k1) (k v g : Int) :
    Sep w U (dsR (es ++ [⟨k, v, g, A1, t, d1, A2, k2, d2, vs.take t, hs⟩]) :: L) := by
  refine sep_three h fun S T V h1 h2 h3 d hd => ?_
  rw [List.mem_append] at hd
  rcases hd with hd | hd
  · exact ⟨((h3 : dsQ es w V) d hd).1.more fun x hx => .inr (.inr hx), ((h3 : dsQ es w V) d hd).2.more fun x hx => .inr (.inr hx)⟩
  · obtain rfl : d = _ := by simpa using hd
    refine ⟨?_, (Sl.rd h2).more fun x hx => .inr (.inl hx)⟩
    have := rd_take (Sl.rd h1) ht
    rw [Nat.mul_one] at this
    unfold iv at this ⊢
    rw [List.map_take]
    exact this.more fun x hx => .inl hx
theorem size_u8 (W : World) : (sizeOf 5).run Try.prog W = .ok 1 W := by kernel_rfl
theorem size_i32 (W : World) : (sizeOf 21).run Try.prog W = .ok 1 W := by kernel_rfl
/-- 's[k:]' of bytes. -/
theorem bytes_tail (A : Option Addr) (n c k m : Nat) (hk : n = k + m) (hc : n ≤ c) : ∃ (A' : Option Addr) (c' : Nat), (∀ W, (Instr.slice 23 (.slice A n c) (some (.int .i64 (k : Int))) none none).run Try.prog W = .ok (.slice A' m c') W) ∧ ∀ (w : World) (R : Nat → Prop) (xs : List Value), Rd w R 1 A n xs → Rd w R 1 A' m (xs.drop k) := by
  refine ⟨if c = k then A else A.map (·.add k), c - k, fun W => ?_, fun w R xs h => ?_⟩
  · rw [run_slice_l W 23 A n c (by kernel_rfl) .i64 (k : Int) (by omega) (by omega)]
    rw [show Try.prog.elem 23 = 5 by kernel_rfl, size_u8 W]
    simp only [Result.andThen, sliced, Int.toNat_natCast, Nat.mul_one]
    rw [show n - k = m by omega]
  · refine ⟨by rw [List.length_drop, h.1]; omega, fun h0 => ?_⟩
    obtain ⟨b, off, rfl, hR, hx⟩ := h.2 (by omega)
    rw [if_neg (by omega)]
    refine ⟨b, off + k, by simp [Addr.add], hR, fun j u hu => ?_⟩
    rw [List.getElem?_drop] at hu
    have := hx _ u hu
    rwa [← Nat.add_assoc] at this
/-- 's[:k]' of values. -/
theorem ints_take (A : Option Addr) (n c k : Nat) (hk : k ≤ c) : ∀ W, (Instr.slice 26 (.slice A n c) none (some (.int .i64 (k : Int))) none).run Try.prog W = .ok (.slice A k c) W := by
  intro W
  rw [run_slice_h W 26 A n c (by kernel_rfl) .i64 (k : Int) (by omega) (by omega)]
  rw [show Try.prog.elem 26 = 21 by kernel_rfl, size_i32 W]
  simp only [Result.andThen, sliced, Int.toNat_natCast, Int.toNat_zero, Nat.zero_mul, Nat.sub_zero]
  cases A with
  | none => simp
  | some a => simp [Addr.add]
theorem tmod_nat {x : Int} (h0 : 0 ≤ x) (h1 : x ≤ 255) {k : Nat} (hk : 0 < k) : ∃ r : Nat, x.tmod (k : Int) = (r : Int) ∧ r < k ∧ r ≤ 255 := by
  obtain ⟨y, rfl⟩ : ∃ y : Nat, x = (y : Int) := ⟨x.toNat, by omega⟩
  refine ⟨y % k, by rw [Int.tmod_eq_emod_of_nonneg h0]; omega, Nat.mod_lt _ hk, ?_⟩
  have := Nat.mod_le y k
  omega
end Go.Proofs.Ytpelpbnmjciheaa
