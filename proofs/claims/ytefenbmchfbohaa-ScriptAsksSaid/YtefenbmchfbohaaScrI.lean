/-
  What bytes say, by the document: the walk.
-/
import Derived.Test.YtefenbmchfbohaaScrH
namespace Go.Rp
open Go.RowKit
theorem decL_succ (bs : List Int) (j : Nat) (h : j < bs.length / 4) : (decL bs).take (j + 1) = (decL bs).take j ++ [chunkE bs j] := by
  have h2 : j < (decL bs).length := by rw [decL_length]; exact h
  rw [List.take_succ_eq_append_getElem h2]
  congr 2
  have := decL_get bs j h
  rw [List.getElem?_eq_getElem h2] at this
  exact Option.some.inj this
theorem entryOf_1 (b c d : Int) : entryOf 1 b c d = (1, b, c, d, 0) := rfl
theorem entryOf_2 (b c d : Int) : entryOf 2 b c d = (2, b, 0, 0, 0) := rfl
theorem entryOf_3 (b c d : Int) : entryOf 3 b c d = (3, 0, 0, 0, d) := rfl
theorem entryOf_0 {a : Int} (b c d : Int) (h1 : ¬ a = 1) (h2 : ¬ a = 2) (h3 : ¬ a = 3) : entryOf a b c d = (0, 0, 0, 0, 0) := by unfold entryOf; rw [if_neg h1, if_neg h2, if_neg h3]
end Go.Rp
namespace Go.Proofs.Ytefenbmchfbohaa
open Go.RowKit Go.Rp

set_option maxRecDepth 100000 in
set_option maxHeartbeats 4000000 in
theorem rDecode_any (w : World) (A : Option Addr) (n c : Nat) (R : Nat → Prop) (bs : List Int) (hbl : bs.length = n) (hr : Rd w R 1 A n (bs.map fun x => Value.int .u8 x)) (hn : n ≤ 100000) (hby : Byt bs) :
    Calls Try.prog 17 #[.slice A n c] w (NewSl w 30 5 (n / 4) ((decL bs).flatMap entIn)) := by
  obtain ⟨i0, hi0, hz0, hz1, hz2⟩ := info_parts info_ent
  obtain ⟨K, hK⟩ : ∃ K, n / 4 = K := ⟨_, rfl⟩
  rw [hK]
  have hK1 : 4 * K ≤ n ∧ n < 4 * K + 4 := by omega
  have HN := Lib.hid hbl
  have HB := Lib.hid hby
  clear hbl hby hK
  go_enter Try.func17, Try.ntmps17
  go_wp2_with fail
  go_loopg [3, 4] K (fun gk v k wr => ∃ (j i4 : Nat) (A' : Option Addr) (c' : Nat), j + gk = K ∧ k = .int .i64 (i4 : Int) ∧ 4 * j = i4 ∧ v = .slice A' j c' ∧ Sl wr 30 5 A' j c' (((decL bs).take j).flatMap entIn) (fun b => w.heap.size ≤ b) ∧ Below w.heap.size w wr)
  case atStart => exact ⟨0, 0, none, 0, by omega, rfl, rfl, rfl, Sl.nil _ _ _ _, Below.refl _ _⟩
  case round =>
    obtain ⟨j, i4, A', c', hj, rfl, hi4, rfl, hs, hb⟩ := hrel
    by_cases hlt : j < K
    · have hle := hb.size
      obtain ⟨b, off, rfl, _, hcells⟩ := (hr.kept hb).at (by omega)
      have hg : ∀ i, i < 4 → wr.cell? ⟨b, off + (i4 + i), none⟩ = some (.int .u8 (bAt bs (i4 + i))) := fun i hi => hcells _ _ (by
        have hl : i4 + i < bs.length := by rw [HN.out]; omega
        unfold bAt
        rw [List.getElem?_map, List.getElem?_eq_getElem hl]; rfl)
      have g0 := hg 0 (by omega)
      have g1 := hg 1 (by omega)
      have g2 := hg 2 (by omega)
      have g3 := hg 3 (by omega)
      have hblt := World.block_lt_of_cell? wr _ g0
      simp only at hblt
      have k1 := HB.out.at (i4 + 1)
      have k3 := HB.out.at (i4 + 3)
      have hsn := Lib.hid (decL_succ bs j (by rw [HN.out]; omega))
      have hch := Lib.hid (show chunkE bs j = entryOf (bAt bs (i4 + 0)) (bAt bs (i4 + 1)) (bAt bs (i4 + 2)) (bAt bs (i4 + 3)) by subst hi4; rfl)
      simp only [Nat.add_zero] at g0 hch
      generalize bAt bs i4 = x0 at *
      generalize bAt bs (i4 + 1) = x1 at *
      generalize bAt bs (i4 + 2) = x2 at *
      generalize bAt bs (i4 + 3) = x3 at *
      clear hg hcells
      have e1 : IntKind.i64.wrap x1 = x1 := IntWalk.i64_in _ (by omega)
      have e3 : IntKind.i32.wrap x3 = x3 := IntWalk.i32_in _ (by omega)
      have q1 : j + 1 ≤ maxLen := by simp only [maxLen]; omega
      have q2 : (j + 1) * 32 ≤ 140737488355328 := by omega
      have hA := fun (o : Obj) => World.cell?_alloc_lt wr o ⟨b, off + i4, none⟩ hblt
      by_cases hx1 : x0 = 1
      · subst hx1
        rw [entryOf_1] at hch
        go_wp2_with fail
        go_region
        all_goals
          have hrd : Rd ((wr.alloc (.cells #[.int .u8 1, .int .i64 x1, .int .u8 x2, .int .i32 x3, .int .u8 0] 30)).alloc (.cells #[.int .u8 1, .int .i64 x1, .int .u8 x2, .int .i32 x3, .int .u8 0] 30)) (fun b => b = wr.heap.size + 1) 5 (some ⟨wr.heap.size + 1, 0, none⟩) 1 (entIn (1, x1, x2, x3, 0)) := by
            have h := Rd.lit (sz := 5) (wr.alloc (.cells #[.int .u8 1, .int .i64 x1, .int .u8 x2, .int .i32 x3, .int .u8 0] 30)) 30 #[.int .u8 1, .int .i64 x1, .int .u8 x2, .int .i32 x3, .int .u8 0] 1 rfl
            rw [World.size_alloc] at h
            exact h
          go_wp2_with (at_builtin; refine wpList_append_sl _ rfl (.tmp 56) (.tmp 58) _ rfl 30 i0 _ 5 32 Try.underlying22 hi0 hz0 hz1 hz2 rfl (by omega) A' j c' _ _ rfl (by exact ((hs.alloc (.cells #[.int .u8 1, .int .i64 x1, .int .u8 x2, .int .i32 x3, .int .u8 0] 30)).alloc (.cells #[.int .u8 1, .int .i64 x1, .int .u8 x2, .int .i32 x3, .int .u8 0] 30)).drew) (fun b => b = wr.heap.size + 1) (some ⟨wr.heap.size + 1, 0, none⟩) 1 1 (entIn (1, x1, x2, x3, 0)) rfl (by exact hrd.drew) (ent1_one _) q1 q2 ?_; intro A3 c3 w3 hown3 hmod3)
          go_roundg (gk - 1)
          case measure => omega
          case rel =>
            have hz := hmod3.size
            simp at hz
            refine ⟨j + 1, i4 + 4, A3, c3, by omega, by go_num, by omega, rfl, ?_, hb.trans ((((((Below.refl _ wr).alloc (Nat.le_refl _) _).alloc (by simp) _).drew).mono hb.size).trans (hmod3.below (by simp; omega) fun b hb => hb))⟩
            rw [hsn.out, hch.out, List.flatMap_append]
            refine Sl.mono (by simpa [entIn] using hown3) fun b hb => ?_
            rcases hb with hb | hb
            · exact hb
            · simp at hb; omega
      · have hx1' : (x0 == 1) = false := by simpa using hx1
        by_cases hx2 : x0 = 2
        · subst hx2
          rw [entryOf_2] at hch
          have hrd : Rd ((wr.alloc (.cells #[.int .u8 2, .int .i64 x1, .int .u8 0, .int .i32 0, .int .u8 0] 30)).alloc (.cells #[.int .u8 2, .int .i64 x1, .int .u8 0, .int .i32 0, .int .u8 0] 30)) (fun b => b = wr.heap.size + 1) 5 (some ⟨wr.heap.size + 1, 0, none⟩) 1 (entIn (2, x1, 0, 0, 0)) := by
            have h := Rd.lit (sz := 5) (wr.alloc (.cells #[.int .u8 2, .int .i64 x1, .int .u8 0, .int .i32 0, .int .u8 0] 30)) 30 #[.int .u8 2, .int .i64 x1, .int .u8 0, .int .i32 0, .int .u8 0] 1 rfl
            rw [World.size_alloc] at h
            exact h
          go_wp2_with (at_builtin; refine wpList_append_sl _ rfl (.tmp 56) (.tmp 58) _ rfl 30 i0 _ 5 32 Try.underlying22 hi0 hz0 hz1 hz2 rfl (by omega) A' j c' _ _ rfl (by exact ((hs.alloc (.cells #[.int .u8 2, .int .i64 x1, .int .u8 0, .int .i32 0, .int .u8 0] 30)).alloc (.cells #[.int .u8 2, .int .i64 x1, .int .u8 0, .int .i32 0, .int .u8 0] 30))) (fun b => b = wr.heap.size + 1) (some ⟨wr.heap.size + 1, 0, none⟩) 1 1 (entIn (2, x1, 0, 0, 0)) rfl (by exact hrd) (ent1_one _) q1 q2 ?_; intro A3 c3 w3 hown3 hmod3)
          go_roundg (gk - 1)
          case measure => omega
          case rel =>
            have hz := hmod3.size
            simp at hz
            refine ⟨j + 1, i4 + 4, A3, c3, by omega, by go_num, by omega, rfl, ?_, hb.trans ((((((Below.refl _ wr).alloc (Nat.le_refl _) _).alloc (by simp) _)).mono hb.size).trans (hmod3.below (by simp; omega) fun b hb => hb))⟩
            rw [hsn.out, hch.out, List.flatMap_append]
            refine Sl.mono (by simpa [entIn] using hown3) fun b hb => ?_
            rcases hb with hb | hb
            · exact hb
            · simp at hb; omega
        · have hx2' : (x0 == 2) = false := by simpa using hx2
          by_cases hx3 : x0 = 3
          · subst hx3
            rw [entryOf_3] at hch
            have hrd : Rd ((wr.alloc (.cells #[.int .u8 3, .int .i64 0, .int .u8 0, .int .i32 0, .int .u8 x3] 30)).alloc (.cells #[.int .u8 3, .int .i64 0, .int .u8 0, .int .i32 0, .int .u8 x3] 30)) (fun b => b = wr.heap.size + 1) 5 (some ⟨wr.heap.size + 1, 0, none⟩) 1 (entIn (3, 0, 0, 0, x3)) := by
              have h := Rd.lit (sz := 5) (wr.alloc (.cells #[.int .u8 3, .int .i64 0, .int .u8 0, .int .i32 0, .int .u8 x3] 30)) 30 #[.int .u8 3, .int .i64 0, .int .u8 0, .int .i32 0, .int .u8 x3] 1 rfl
              rw [World.size_alloc] at h
              exact h
            go_wp2_with (at_builtin; refine wpList_append_sl _ rfl (.tmp 56) (.tmp 58) _ rfl 30 i0 _ 5 32 Try.underlying22 hi0 hz0 hz1 hz2 rfl (by omega) A' j c' _ _ rfl (by exact ((hs.alloc (.cells #[.int .u8 3, .int .i64 0, .int .u8 0, .int .i32 0, .int .u8 x3] 30)).alloc (.cells #[.int .u8 3, .int .i64 0, .int .u8 0, .int .i32 0, .int .u8 x3] 30))) (fun b => b = wr.heap.size + 1) (some ⟨wr.heap.size + 1, 0, none⟩) 1 1 (entIn (3, 0, 0, 0, x3)) rfl (by exact hrd) (ent1_one _) q1 q2 ?_; intro A3 c3 w3 hown3 hmod3)
            go_roundg (gk - 1)
            case measure => omega
            case rel =>
              have hz := hmod3.size
              simp at hz
              refine ⟨j + 1, i4 + 4, A3, c3, by omega, by go_num, by omega, rfl, ?_, hb.trans ((((((Below.refl _ wr).alloc (Nat.le_refl _) _).alloc (by simp) _)).mono hb.size).trans (hmod3.below (by simp; omega) fun b hb => hb))⟩
              rw [hsn.out, hch.out, List.flatMap_append]
              refine Sl.mono (by simpa [entIn] using hown3) fun b hb => ?_
              rcases hb with hb | hb
              · exact hb
              · simp at hb; omega
          · have hx3' : (x0 == 3) = false := by simpa using hx3
            rw [entryOf_0 _ _ _ hx1 hx2 hx3] at hch
            clear hx1 hx2 hx3
            have hrd : Rd ((wr.alloc (.cells #[.int .u8 0, .int .i64 0, .int .u8 0, .int .i32 0, .int .u8 0] 30)).alloc (.cells #[.int .u8 0, .int .i64 0, .int .u8 0, .int .i32 0, .int .u8 0] 30)) (fun b => b = wr.heap.size + 1) 5 (some ⟨wr.heap.size + 1, 0, none⟩) 1 (entIn (0, 0, 0, 0, 0)) := by
              have h := Rd.lit (sz := 5) (wr.alloc (.cells #[.int .u8 0, .int .i64 0, .int .u8 0, .int .i32 0, .int .u8 0] 30)) 30 #[.int .u8 0, .int .i64 0, .int .u8 0, .int .i32 0, .int .u8 0] 1 rfl
              rw [World.size_alloc] at h
              exact h
            go_wp2_with (at_builtin; refine wpList_append_sl _ rfl (.tmp 56) (.tmp 58) _ rfl 30 i0 _ 5 32 Try.underlying22 hi0 hz0 hz1 hz2 rfl (by omega) A' j c' _ _ rfl (by exact ((hs.alloc (.cells #[.int .u8 0, .int .i64 0, .int .u8 0, .int .i32 0, .int .u8 0] 30)).alloc (.cells #[.int .u8 0, .int .i64 0, .int .u8 0, .int .i32 0, .int .u8 0] 30))) (fun b => b = wr.heap.size + 1) (some ⟨wr.heap.size + 1, 0, none⟩) 1 1 (entIn (0, 0, 0, 0, 0)) rfl (by exact hrd) (ent1_one _) q1 q2 ?_; intro A3 c3 w3 hown3 hmod3)
            go_roundg (gk - 1)
            case measure => omega
            case rel =>
              have hz := hmod3.size
              simp at hz
              refine ⟨j + 1, i4 + 4, A3, c3, by omega, by go_num, by omega, rfl, ?_, hb.trans ((((((Below.refl _ wr).alloc (Nat.le_refl _) _).alloc (by simp) _)).mono hb.size).trans (hmod3.below (by simp; omega) fun b hb => hb))⟩
              rw [hsn.out, hch.out, List.flatMap_append]
              refine Sl.mono (by simpa [entIn] using hown3) fun b hb => ?_
              rcases hb with hb | hb
              · exact hb
              · simp at hb; omega
    · obtain rfl : j = K := by omega
      have hrd := hs.lt
      rw [List.take_of_length_le (by rw [decL_length, HN.out]; omega)] at hrd
      clear hs
      go_wp2_with fail
      go_ret
      exact ⟨A', c', rfl, hrd, hb⟩
end Go.Proofs.Ytefenbmchfbohaa
