/-
  Values of choices that rise: the law's Rising.
-/
import Derived.Test.YtpelpbnmjciheaaApp
import Derived.Test.YtpelpbnmjciheaaSkipK
namespace Go.Proofs.Ytpelpbnmjciheaa
open Go.RowKit Go.Rp

theorem info_int : (Try.prog.info? 3).map (fun i => (i.zero, i.size, i.bytes)) = some (some (.int .i64 0), 1, 8) := by kernel_rfl
abbrev il (l : List Int) : List Value := l.map (Value.int .i64)
abbrev ownJ (A : Option Addr) (n c : Nat) (l : List Int) : Res := slRes 3 1 A n c (il l)
theorem own_snoc (A : Option Addr) (n c : Nat) (l : List Int) (x : Int) : ownI A n c (l ++ [x]) = slRes 21 1 A n c (iv l ++ [.int .i32 x]) := by unfold ownI iv; rw [List.map_append]; rfl
theorem ownJ_snoc (A : Option Addr) (n c : Nat) (l : List Int) (x : Int) : ownJ A n c (l ++ [x]) = slRes 3 1 A n c (il l ++ [.int .i64 x]) := by unfold ownJ il; rw [List.map_append]; rfl
/-- What Rising tells: rows of values and heights, of new memory. -/
def Rose (B : Nat) (w : World) (L : List Res) (n : Nat) (e : Ending) (w' : World) : Prop :=
  ∃ (A1 A2 : Option Addr) (c1 c2 n1 n2 : Nat) (vs hs : List Int), e = .returned (.tuple #[.slice A1 n1 c1, .slice A2 n2 c2]) ∧ vs.length = n1 ∧ hs.length = n2 ∧ n1 = Nat.min n 20 ∧ n2 ≤ 15 ∧ n1 ≤ c1 ∧
    At B w' (ownI A1 n1 c1 vs :: ownJ A2 n2 c2 hs :: L) ∧ Below B w w'
theorem sl_le {B : Nat} {w : World} {L : List Res} {e sz n c : Nat} {A : Option Addr} {xs : List Value} (h : At B w (slRes e sz A n c xs :: L)) : n ≤ c := Sl.le (show Sl w e sz A n c xs _ from h.get)
theorem rd_cell {w : World} {R : Nat → Prop} {b off n k : Nat} {xs : List Value} {u : Value} (h : Rd w R 1 (some ⟨b, off, none⟩) n xs) (hu : xs[k]? = some u) : w.cell? ⟨b, off + k, none⟩ = some u := by
  have hk := (List.getElem?_eq_some_iff.1 hu).1
  obtain ⟨b', o', e, _, hc⟩ := h.at (by have := h.1; omega)
  simp at e
  obtain ⟨rfl, rfl⟩ := e
  exact hc k u hu
set_option maxRecDepth 100000 in
set_option maxHeartbeats 2000000 in
theorem rising_any {B : Nat} {w : World} {L : List Res} (hB : B ≤ w.heap.size) (h : At B w L) {A : Option Addr} {n c : Nat} {bs : List Nat} (hl : bs.length = n) (hn : n ≤ 100000) (h8 : ∀ x ∈ bs, x < 256) (hr : Reads B w L 1 A n (bs.map fun (x : Nat) => Value.int .u8 (x : Int))) :
    Calls Try.prog 6 #[.slice A n c] w (Rose B w L n) := by
  obtain ⟨i0, hi0, hz0, hz1, hz2⟩ := info_parts info_i32
  obtain ⟨j0, hj0, hy0, hy1, hy2⟩ := info_parts info_int
  have HL := Lib.hid hl
  have H8 := Lib.hid h8
  clear hl h8
  go_enter Try.func6, Try.ntmps6
  go_wp2_with fail
  go_loopg [4, 5, 6, 7] (Nat.min n 20) (fun g v u z k wr => ∃ (i i2 : Nat) (A1 A2 : Option Addr) (c1 c2 : Nat) (vs hs : List Int) (x : Int), i + g = Nat.min n 20 ∧ k = .int .i64 (i : Int) ∧ v = .slice A1 i c1 ∧ u = .slice A2 i2 c2 ∧ z = .int .i32 x ∧ -20 ≤ x ∧ x ≤ 4 * (i : Int) ∧ i2 ≤ 15 ∧ i2 ≤ i ∧ (i < 15 → i2 = i) ∧ Hid (vs.length = i) ∧ Hid (hs.length = i2) ∧ At B wr (ownI A1 i c1 vs :: ownJ A2 i2 c2 hs :: L) ∧ Below B w wr)
  case atStart => exact ⟨0, 0, none, none, 0, 0, [], [], -20, by omega, rfl, rfl, rfl, rfl, by omega, by omega, by omega, by omega, by omega, Lib.hid rfl, Lib.hid rfl, (h.nilSl _ _).nilSl _ _, Below.refl _ _⟩
  case round =>
    obtain ⟨i, i2, A1, A2, c1, c2, vs, hs, x, hi, rfl, rfl, rfl, rfl, hx1, hx2, hi2, hi3, hi4, hvl, hhl, sr, br⟩ := hrel
    have hmin : Nat.min n 20 ≤ 20 ∧ Nat.min n 20 ≤ n := ⟨Nat.min_le_right _ _, Nat.min_le_left _ _⟩
    by_cases hlt : i < Nat.min n 20
    · have hin : (i : Int) < (n : Int) := by omega
      have hi20 : (i : Int) < 20 := by omega
      obtain ⟨R1, hc1⟩ := hr wr [_, _] sr br
      obtain ⟨b, off, rfl, _, hcells⟩ := hc1.at (by omega)
      have hib : i < bs.length := by rw [HL.out]; omega
      have hy : wr.cell? ⟨b, off + i, none⟩ = some (.int .u8 ((bs[i] : Nat) : Int)) := hcells i _ (by simp [hib])
      have h256 := H8.out _ (List.getElem_mem hib)
      obtain ⟨y, hyi⟩ : ∃ y, bs[i] = y := ⟨_, rfl⟩
      rw [hyi] at hy h256
      have hlow := World.block_lt_of_cell? wr _ hy
      simp only at hlow
      have HMIN := Lib.hid hmin
      have HI := Lib.hid hi
      have HI4 := Lib.hid hi4
      have HLT := Lib.hid hlt
      have HIB := Lib.hid hib
      have HY := Lib.hid hyi
      clear hcells hc1 hmin hi hi4 hlt
      have hw : IntKind.i32.wrap (x + ((y : Int) % 5)) = x + (y : Int) % 5 := by simp [IntKind.wrap, IntKind.min, IntKind.max, IntKind.bits, IntKind.signed]; omega
      have hle := Nat.le_trans hB br.size
      have s5 := (sr.alloc hle #[.int .i32 (x + (y : Int) % 5)] 21).drop
      have b5 := br.alloc hle (.cells #[.int .i32 (x + (y : Int) % 5)] 21)
      have hle5 := Nat.le_trans hB b5.size
      have hyb : (bs.map fun (x : Nat) => Value.int .u8 (x : Int))[i]? = some (.int .u8 (y : Int)) := by rw [List.getElem?_map, List.getElem?_eq_getElem HIB.out, HY.out]; rfl
      have HYB := Lib.hid hyb
      clear hyb
      by_cases h15 : i < 15
      · have h15i : (i : Int) < 15 := by omega
        obtain rfl : i2 = i := HI4.out h15
        go_wp2_with (first
          | (at_builtin; refine wpList_append_at rfl (.tmp 26) (.tmp 28) _ rfl 21 i0 _ 1 4 Try.underlying26 hi0 hz0 hz1 hz2 rfl (by omega) rfl s5 hle5 (· = wr.heap.size) (some ⟨wr.heap.size, 0, none⟩) 1 1 [.int .i32 (x + (y : Int) % 5)] rfl (by exact Rd.lit (sz := 1) wr 21 #[.int .i32 (x + (y : Int) % 5)] 1 rfl) (by simp [Value.oneCell']) (by simp only [maxLen]; omega) (by omega) ?_; intro A6 c6 w6 s6 b6; have b6 := b5.trans b6; have hle6 := Nat.le_trans hB b6.size; obtain ⟨R6, hc6⟩ := hr w6 [_, _] s6 b6; have hy6 := rd_cell hc6 HYB.out; clear hc6; have s7 := (s6.rot2.alloc hle6 #[.int .i64 ((y : Int) / 5 % 10)] 3).drop; have b7 := b6.alloc hle6 (.cells #[.int .i64 ((y : Int) / 5 % 10)] 3); have hle7 := Nat.le_trans hB b7.size)
          | (at_builtin; refine wpList_append_at rfl (.tmp 32) (.tmp 40) _ rfl 3 j0 _ 1 8 Try.underlying27 hj0 hy0 hy1 hy2 rfl (by omega) rfl s7 hle7 (· = w6.heap.size) (some ⟨w6.heap.size, 0, none⟩) 1 1 [.int .i64 ((y : Int) / 5 % 10)] rfl (by exact Rd.lit (sz := 1) w6 3 #[.int .i64 ((y : Int) / 5 % 10)] 1 rfl) (by simp [Value.oneCell']) (by simp only [maxLen]; omega) (by omega) ?_; intro A8 c8 w8 s8 b8; have b8 := b7.trans b8; have s8 := s8.rot2))
        go_roundg (Nat.min n 20 - i2 - 1)
        case measure => have := HI.out; have := HLT.out; omega
        case rel => exact ⟨i2 + 1, i2 + 1, A6, A8, c6, c8, vs ++ [x + (y : Int) % 5], hs ++ [(y : Int) / 5 % 10], x + (y : Int) % 5, by have := HI.out; have := HLT.out; omega, by go_num, rfl, rfl, rfl, by omega, by omega, by omega, by omega, by omega, Lib.hid (by simp [hvl.out]), Lib.hid (by simp [hhl.out]), by rw [own_snoc, ownJ_snoc]; exact s8, b8⟩
      · have h15i : ¬ (i : Int) < 15 := by omega
        go_wp2_with (at_builtin; refine wpList_append_at rfl (.tmp 26) (.tmp 28) _ rfl 21 i0 _ 1 4 Try.underlying26 hi0 hz0 hz1 hz2 rfl (by omega) rfl s5 hle5 (· = wr.heap.size) (some ⟨wr.heap.size, 0, none⟩) 1 1 [.int .i32 (x + (y : Int) % 5)] rfl (by exact Rd.lit (sz := 1) wr 21 #[.int .i32 (x + (y : Int) % 5)] 1 rfl) (by simp [Value.oneCell']) (by simp only [maxLen]; omega) (by omega) ?_; intro A6 c6 w6 s6 b6; have b6 := b5.trans b6)
        go_roundg (Nat.min n 20 - i - 1)
        case measure => have := HI.out; have := HLT.out; omega
        case rel => exact ⟨i + 1, i2, A6, A2, c6, c2, vs ++ [x + (y : Int) % 5], hs, x + (y : Int) % 5, by have := HI.out; have := HLT.out; omega, by go_num, rfl, rfl, rfl, by omega, by omega, hi2, by omega, by omega, Lib.hid (by simp [hvl.out]), hhl, by rw [own_snoc]; exact s6, b6⟩
    · obtain ⟨mn, hmn⟩ : ∃ mn, Nat.min n 20 = mn := ⟨_, rfl⟩
      have hend : i = mn := by omega
      have HMN := Lib.hid hmn
      have HE := Lib.hid hend
      have hcond : ¬ ((i : Int) < (n : Int) ∧ (i : Int) < 20) := by
        rintro ⟨q1, q2⟩
        have := Nat.lt_min.2 ⟨(by omega : i < n), (by omega : i < 20)⟩
        rw [show min n 20 = Nat.min n 20 from rfl] at this
        omega
      have hcle := sl_le sr
      clear hmn hend hi
      by_cases hin : (i : Int) < (n : Int)
      · have hi20 : ¬ (i : Int) < 20 := fun q => hcond ⟨hin, q⟩
        clear hcond hlt hmin hi4
        go_wp2_with fail
        go_ret2
        exact ⟨A1, A2, c1, c2, i, i2, vs, hs, rfl, hvl.out, hhl.out, by rw [HE.out, HMN.out], hi2, hcle, sr, br⟩
      · clear hcond hlt hmin hi4
        go_wp2_with fail
        go_ret2
        exact ⟨A1, A2, c1, c2, i, i2, vs, hs, rfl, hvl.out, hhl.out, by rw [HE.out, HMN.out], hi2, hcle, sr, br⟩
end Go.Proofs.Ytpelpbnmjciheaa
