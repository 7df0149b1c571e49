/-
  The walk of CoinMost.
-/
import Derived.Test.YtnoaidlhebmgmaaCoinD
import Derived.Test.YtnoaidlhebmgmaaFields
import Derived.Deep.OwnRows
namespace Go.Proofs.Ytnoaidlhebmgmaa
open Go.RowKit Go.Rp

theorem made_toList (z : Value) (n : Nat) : (madeCells #[z] n).toList = List.replicate n z := by
  apply List.ext_getElem?
  intro i
  by_cases hi : i < n <;> simp [madeCells, Nat.mod_one, hi]
theorem info_u8 : (Try.prog.info? 5).map (fun i => (i.zero, i.size, i.bytes)) = some (some (.int .u8 0), 1, 1) := by kernel_rfl

/-- A row of noughts, made. -/
theorem made_s {B : Nat} {w : World} {L : List Res} (hB : B ≤ w.heap.size) (h : At B w L) (n : Nat) : At B (w.alloc (.cells (madeCells #[.int .u8 0] n) 5)) (bytesR (some ⟨w.heap.size, 0, none⟩) n (List.replicate n 0) :: L) :=
  h.made (fun x hx => Nat.le_trans hB hx) ((Below.refl _ w).alloc (Nat.le_refl _) _) (by
    have := (Rd.lit (sz := 1) w 5 (madeCells #[.int .u8 0] n) n (by rw [← Array.length_toList, made_toList]; simp)).more (R' := fun x => w.heap.size ≤ x ∧ x < (w.alloc (.cells (madeCells #[.int .u8 0] n) 5)).heap.size) fun x hx => ⟨by omega, by simp; omega⟩
    rw [made_toList] at this
    have e : (List.replicate n 0).map (fun (x : Nat) => Value.int .u8 (x : Int)) = List.replicate n (Value.int .u8 0) := by simp
    show Rd _ _ 1 _ n ((List.replicate n 0).map (fun (x : Nat) => Value.int .u8 (x : Int)))
    rw [e]
    exact this)

theorem CoinMost_walk (w : World) (x : Int) (hx : (Lit.int .u16 x).wf = true) (b : Int) (hb : (Lit.int .u8 b).wf = true) :
    Calls Try.prog 8 #[.int .u16 x, .int .u8 b] w fun e w' => e = .returned (.bool true) ∧ Below w.heap.size w w' := by
  have hx1 : 0 ≤ x ∧ x ≤ 65535 := by
    simp [Lit.wf, IntKind.min, IntKind.max, IntKind.signed, IntKind.bits] at hx
    omega
  obtain ⟨k, hk, hmod⟩ : ∃ k : Nat, k < 20 ∧ x % 20 = (k : Int) := ⟨(x % 20).toNat, by omega, by omega⟩
  obtain ⟨y, rfl⟩ : ∃ y : Nat, b = (y : Int) := ⟨b.toNat, by have := wf_u8 hb; omega⟩
  have hy : y < 256 := by have := wf_u8 hb; omega
  clear hb hx
  have h1 := new_s (B := w.heap.size) (w := w) (L := []) (Nat.le_refl _) trivial
  obtain ⟨M, hM⟩ : ∃ M : Nat, M = 2490 + k := ⟨_, rfl⟩
  have hMi : (2490 : Int) + (k : Int) = (M : Int) := by omega
  have hM1 : 2490 ≤ M := by omega
  have hM2 : M < 2510 := by omega
  clear hM
  obtain ⟨i0, hi0, hz0, hz1, hz2⟩ := info_parts info_u8
  have hz3 : i0.bytes * M ≤ 281474976710656 := by rw [hz2]; omega
  have hl0 : (feed [] (List.replicate M 0)).length = min (8 * M) 20000 := by rw [feed_len]; simp
  have hl9 : ∀ F : List Bool, (feed F.tail [y]).length = min (F.length - 1 + 8) 20000 := fun F => by rw [feed_len, List.length_tail]; rfl
  obtain ⟨n1, n2, hn1, hn2, hcase⟩ : ∃ n1 n2 : Nat, min (8 * M) 20000 = n1 ∧ min (n1 - 1 + 8) 20000 = n2 ∧ ((8 * (M : Int) = n1 ∧ 8 * (M : Int) - 1 + 8 = n2 ∧ n2 ≤ 20000 ∧ n1 ≤ 20000) ∨ (¬ 8 * (M : Int) ≤ 20000 ∧ ¬ 8 * (M : Int) - 1 + 8 ≤ 20000 ∧ n1 = 20000 ∧ n2 = 20000) ∨ (M = 2500 ∧ n1 = 20000 ∧ n2 = 20000)) := by
    rcases (show M < 2500 ∨ 2500 < M ∨ M = 2500 by omega) with h | h | h
    · have e1 : min (8 * M) 20000 = 8 * M := Nat.min_eq_left (by omega)
      refine ⟨8 * M, 8 * M - 1 + 8, e1, Nat.min_eq_left (by omega), .inl ⟨by omega, by omega, by omega, by omega⟩⟩
    · have e1 : min (8 * M) 20000 = 20000 := Nat.min_eq_right (by omega)
      refine ⟨20000, 20000, e1, Nat.min_eq_right (by omega), .inr (.inl ⟨by omega, by omega, rfl, rfl⟩)⟩
    · have e1 : min (8 * M) 20000 = 20000 := Nat.min_eq_right (by omega)
      refine ⟨20000, 20000, e1, Nat.min_eq_right (by omega), .inr (.inr ⟨h, rfl, rfl⟩)⟩
  have hl := Lib.hid (hl0.trans hn1)
  have hl8 : Hid (∀ F : List Bool, F.length = n1 → (feed F.tail [y]).length = n2) := Lib.hid fun F hF => by rw [hl9, hF]; exact hn2
  clear hl0 hl9 hn1 hn2
  go_enter Try.func8, Try.ntmps8
  go_wp2_with fail
  refine (h1).mono ?_
  rintro e w1 ⟨rfl, s1, b1⟩
  go_wp2_with (refine wpList_make_row _ rfl (.tmp 17) (.tmp 17) 22 rfl 5 i0 _ Try.underlying22 hi0 hz0 hz1 rfl .i64 .i64 M rfl rfl hz3 (by omega) ?_)
  have s2 := made_s b1.size s1 M
  have b2 : Below w.heap.size w (w1.alloc (.cells (madeCells #[.int .u8 0] M) 5)) := b1.alloc b1.size _
  refine (feed_s b2.size s2.rot2 (by simp) (by simp) (by omega)).mono ?_
  rintro e w3 ⟨rfl, s3, b3⟩
  have b3 := b2.trans b3
  have s3 := s3.rot2.drop
  obtain ⟨F, hF⟩ : ∃ F, feed [] (List.replicate M 0) = F := ⟨_, rfl⟩
  rw [hF] at s3 hl
  have hl := hl.out
  clear hF h1
  go_wp2_with fail
  refine (copy_s b3.size s3).mono ?_
  rintro e w4 ⟨q, rfl, s4, b4⟩
  have b4 := b3.trans b4
  go_wp2_with fail
  refine (toss_s b4.size s4.rot2).mono ?_
  rintro e w5 ⟨rfl, s5, b5⟩
  have b5 := b4.trans b5
  go_wp2_with fail
  have s6 := lit_s b5.size s5 y
  have b6 : Below w.heap.size w (w5.alloc (.cells #[.int .u8 (y : Int)] 5)) := b5.alloc b5.size _
  refine (feed_s b6.size s6.rot2 (by simp) (by simpa using hy) (by omega)).mono ?_
  rintro e w7 ⟨rfl, s7, b7⟩
  have b7 := b6.trans b7
  have hl2 := hl8.out F hl
  generalize feed F.tail [y] = G at *
  go_wp2_with fail
  refine (feed_nil _ _ _ _).mono ?_
  rintro e w8 ⟨rfl, rfl⟩
  have s8 := s7.alloc b7.size #[.int .u8 (y : Int)] 5
  have b8 : Below w.heap.size w (w7.alloc (.cells #[.int .u8 (y : Int)] 5)) := b7.alloc b7.size _
  go_wp2_with fail
  refine (known_s b8.size s8).mono ?_
  rintro e w9 ⟨rfl, s9, b9⟩
  have b9 := b8.trans b9
  have hq := left_s s9.rot4 hl
  have hc := left_s s9.rot2 hl2
  clear hl hl2 hl8
  rcases hcase with ⟨c1, c2, c3, c4⟩ | ⟨c1, c2, rfl, rfl⟩ | ⟨rfl, rfl, rfl⟩
  all_goals
    go_wp2_with fail
    refine (hq).mono ?_
    rintro e w10 ⟨rfl, rfl⟩
    go_wp2_with fail
    refine (hc).mono ?_
    rintro e w10 ⟨rfl, rfl⟩
    go_wp2_with fail
    refine (left_nil _).mono ?_
    rintro e w10 ⟨rfl, rfl⟩
    go_wp2_with fail
    refine (toss_nil _).mono ?_
    rintro e w10 ⟨rfl, rfl⟩
    go_wp2_with fail
    refine (height_nil _).mono ?_
    rintro e w10 ⟨rfl, rfl⟩
    go_wp2_with fail
    refine (copy_nil _).mono ?_
    rintro e w11 ⟨r, rfl, s11, b11⟩
    have b11 := b9.trans (b11.mono b9.size)
    go_wp2_with fail
    refine (left_any _ r _ [] s11).mono ?_
    rintro e w12 ⟨rfl, rfl⟩
    go_wp2_with fail
    go_ret
    exact ⟨rfl, b11⟩
end Go.Proofs.Ytnoaidlhebmgmaa
