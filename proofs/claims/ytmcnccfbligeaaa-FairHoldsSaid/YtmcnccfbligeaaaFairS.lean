/-
  The document's own Fair and Held.
-/
import Derived.Test.YtmcnccfbligeaaaFairR
namespace Go.Proofs.Ytmcnccfbligeaaa
open Go.RowKit Go.Rp Go.Maps

set_option maxRecDepth 100000 in
set_option maxHeartbeats 8000000 in
theorem rfair_in (w : World) (A : Option Addr) (n c : Nat) (picks : List Int) (hp : Picks w A n picks) (hc : n ≤ c) (hcm : c ≤ maxLen) (A2 : Option Addr) (n2 c2 : Nat) (spans : List Span) (hs : Spans w A2 n2 spans) (fr to b : Nat) (h1 : to ≤ n) (h2 : fr ≤ to) (h3 : 1 ≤ b) (hb9 : (b : Int) ≤ 9223372036854775807) :
    Calls Try.prog 25 #[.slice A n c, .slice A2 n2 c2, .int .i64 (fr : Int), .int .i64 (to : Int), .int .i64 (b : Int)] w fun e w' => e = .returned (.bool (fairN picks spans fr to b)) ∧ Below w.heap.size w w' := by
  have hreach := hp.reach
  have hreach2 := hs.reach
  have HN := Lib.hid hp.len
  have HN2 := Lib.hid hs.len
  unfold maxLen at hcm
  have d1 : decide ((fr : Int) < 0) = false := decide_eq_false (by omega)
  have d2 : decide (n < to) = false := decide_eq_false (by omega)
  have d3 : decide (to < fr) = false := decide_eq_false (by omega)
  have d4 : decide ((b : Int) < 1) = false := decide_eq_false (by omega)
  have d5 : decide ((n : Int) < (to : Int)) = false := decide_eq_false (by omega)
  have d6 : decide ((to : Int) < (fr : Int)) = false := decide_eq_false (by omega)
  go_enter Try.func25, Try.ntmps25
  go_wp2_with fail
  clear d1 d2 d3 d4 d5 d6
  go_loopg [11] (to + 1) (fun g k wr => ∃ m : Nat, fr ≤ m ∧ m + g = to + 1 + fr ∧ k = .int .i64 (m : Int) ∧ Below w.heap.size w wr ∧ m ≤ to + 1 ∧ Hid (∀ k, fr ≤ k → k < m → k + b ≤ to → winB picks spans k b = true))
  case atStart => exact ⟨fr, by omega, by omega, rfl, Below.refl _ _, by omega, Lib.hid fun k _ _ => by omega⟩
  case round =>
    obtain ⟨m, hm0, hm, rfl, b1, hm9, HF⟩ := hrel
    by_cases hin : m + b ≤ to
    · have hle : (m : Int) ≤ (to : Int) - (b : Int) := by omega
      obtain ⟨wo, rfl⟩ : ∃ wo : World, wo = wr := ⟨_, rfl⟩
      go_wp2_with fail
      go_loopg [12] n2 (fun g k wq => ∃ j : Nat, j + g = n2 ∧ k = .int .i64 (j : Int) ∧ Below w.heap.size w wq ∧ Hid (∀ i, (h : i < spans.length) → i < j → missB picks m b spans[i] = false)) 
      case atStart => exact ⟨0, by omega, rfl, b1, Lib.hid fun i _ hi => by omega⟩
      case round =>
        obtain ⟨j, hj, rfl, b2, HJ⟩ := hrel
        by_cases hlt : j < n2
        · have hlt' : j < spans.length := by rw [HN2.out]; exact hlt
          obtain ⟨b', off, rfl, hc'⟩ := (hs.keep b2).at hlt'
          have HJ2 := Lib.hid (fun h : missB picks m b spans[j] = true => winB_false (k := m) hlt' h)
          have HJ3 : Hid (missB picks m b spans[j] = false → ∀ i, (h : i < spans.length) → i < j + 1 → missB picks m b spans[i] = false) := Lib.hid fun h i hi hij => by
            by_cases e : i = j
            · subst e; exact h
            · exact HJ.out i hi (by omega)
          clear HJ
          generalize spans[j] = s at *
          have hwt := fun W => waits_any W s (m : Int) ((m : Int) + (b : Int))
          obtain ⟨wt, hwte⟩ : ∃ wt, (decide (s.fr ≤ (m : Int)) && (decide (s.to < 0) || decide ((m : Int) + (b : Int) ≤ s.to))) = wt := ⟨_, rfl⟩
          obtain ⟨cn, hcn⟩ : ∃ cn, ((picks.drop m).take b).contains s.th = cn := ⟨_, rfl⟩
          have hmis : missB picks m b s = (wt && !cn) := by unfold missB; rw [hcn, ← hwte]; simp
          rw [hmis] at HJ2 HJ3
          rw [hwte] at hwt
          obtain ⟨pb, poff, rfl, _, hpc⟩ := hp.old.at (by omega)
          have hpl := fun W (hW : Below w.heap.size w W) => place_any W (some ⟨pb, poff + m, none⟩) b (c - m) ((picks.drop m).take b) (fun _ => True) (by
            refine ⟨by simp [HN.out]; omega, fun _ => ⟨pb, poff + m, rfl, trivial, fun i u hu => ?_⟩⟩
            have hib : i < b := by
              have := (List.getElem?_eq_some_iff.1 hu).1
              simp at this
              omega
            have hpi := hpc (m + i) u (by rw [← hu, List.map_take, List.map_drop, List.getElem?_take, if_pos hib, List.getElem?_drop])
            have hblk := World.block_lt_of_cell? w _ hpi
            rw [Nat.add_assoc]
            exact (hW.cell (p := ⟨pb, poff + (m + i), none⟩) hblk).trans hpi) (by simp [HN.out]; omega) (by omega) s.th hcn
          clear hpc hmis hwte hcn
          have k0 : wr.cell? ⟨b', off + j * 8, none⟩ = some (.int .i64 s.th) := by simpa using hc' 0 _ rfl
          have k1 := hc' 1 _ rfl
          have k2 := hc' 2 _ rfl
          have k3 := hc' 3 _ rfl
          have k4 := hc' 4 _ rfl
          have k5 := hc' 5 _ rfl
          have k6 := hc' 6 _ rfl
          have k7 := hc' 7 _ rfl
          clear hc'
          have hw1 : IntKind.i64.wrap ((m : Int) + (b : Int)) = (m : Int) + (b : Int) := IntWalk.i64_in _ (by omega)
          have hw2 : (0 : Int) ≤ (m : Int) + (b : Int) := by omega
          have hw3 : ((m : Int) + (b : Int)).toNat = m + b := by omega
          have blt : b' < wr.heap.size := World.block_lt_of_cell? wr _ k0
          have keep8 : ∀ W, Below wr.heap.size wr W → (W.cell? ⟨b', off + j * 8, none⟩ = some (.int .i64 s.th) ∧ W.cell? ⟨b', off + j * 8 + 1, none⟩ = some (.int .i64 s.sq) ∧ W.cell? ⟨b', off + j * 8 + 2, none⟩ = some (.int .u8 s.ok) ∧ W.cell? ⟨b', off + j * 8 + 3, none⟩ = some (.int .i32 s.ov) ∧ W.cell? ⟨b', off + j * 8 + 4, none⟩ = some (.int .u8 s.rc) ∧ W.cell? ⟨b', off + j * 8 + 5, none⟩ = some (.int .i32 s.rv) ∧ W.cell? ⟨b', off + j * 8 + 6, none⟩ = some (.int .i64 s.fr) ∧ W.cell? ⟨b', off + j * 8 + 7, none⟩ = some (.int .i64 s.to)) := fun W hW =>
            ⟨(hW.cell (p := ⟨b', off + j * 8, none⟩) blt).trans k0, (hW.cell (p := ⟨b', off + j * 8 + 1, none⟩) blt).trans k1, (hW.cell (p := ⟨b', off + j * 8 + 2, none⟩) blt).trans k2, (hW.cell (p := ⟨b', off + j * 8 + 3, none⟩) blt).trans k3, (hW.cell (p := ⟨b', off + j * 8 + 4, none⟩) blt).trans k4, (hW.cell (p := ⟨b', off + j * 8 + 5, none⟩) blt).trans k5, (hW.cell (p := ⟨b', off + j * 8 + 6, none⟩) blt).trans k6, (hW.cell (p := ⟨b', off + j * 8 + 7, none⟩) blt).trans k7⟩
          have KEEP := Lib.hid keep8
          clear keep8
          cases wt
          · have HJ4 := Lib.hid (HJ3.out rfl)
            clear HJ2 HJ3 hpl
            go_wp2_with fail
            refine wp_region_held_drew (S := (fun w' => w'.cell? ⟨b', off + j * 8, none⟩ = some (.int .i64 s.th) ∧ w'.cell? ⟨b', off + j * 8 + 1, none⟩ = some (.int .i64 s.sq) ∧ w'.cell? ⟨b', off + j * 8 + 2, none⟩ = some (.int .u8 s.ok) ∧ w'.cell? ⟨b', off + j * 8 + 3, none⟩ = some (.int .i32 s.ov) ∧ w'.cell? ⟨b', off + j * 8 + 4, none⟩ = some (.int .u8 s.rc) ∧ w'.cell? ⟨b', off + j * 8 + 5, none⟩ = some (.int .i32 s.rv) ∧ w'.cell? ⟨b', off + j * 8 + 6, none⟩ = some (.int .i64 s.fr) ∧ w'.cell? ⟨b', off + j * 8 + 7, none⟩ = some (.int .i64 s.to))) (by kernel_rfl) ⟨k0, k1, k2, k3, k4, k5, k6, k7⟩ (fun hHeld => ?_)
            refine wpAnyH_take (i := 0) (v := ?_) rfl (by kernel_rfl) (by kernel_rfl) (by kernel_rfl) (fun _ _ _ h => h) (Or.inl ⟨by kernel_rfl, ?_⟩) hHeld ?_
            rotate_left
            · (intro w hSw; (try dsimp only at hSw); go_simp; (try with_reducible rfl))
            try simp only [Act.put, List.getElem_toArray, List.getElem_cons_succ, List.getElem_cons_zero, List.setIfInBounds_toArray, List.set_cons_zero, List.set_cons_succ]
            refine wpAnyH_take (i := 1) (v := ?_) rfl (by kernel_rfl) (by kernel_rfl) (by kernel_rfl) (fun _ _ _ h => h) (Or.inl ⟨by kernel_rfl, ?_⟩) hHeld ?_
            rotate_left
            · (intro w hSw; (try dsimp only at hSw); go_simp; (try with_reducible rfl))
            try simp only [Act.put, List.getElem_toArray, List.getElem_cons_succ, List.getElem_cons_zero, List.setIfInBounds_toArray, List.set_cons_zero, List.set_cons_succ]
            refine wpAnyH_take (i := 2) (v := ?_) rfl (by kernel_rfl) (by kernel_rfl) (by kernel_rfl) (fun _ _ _ h => h) (Or.inl ⟨by kernel_rfl, ?_⟩) hHeld ?_
            rotate_left
            · (intro w hSw; (try dsimp only at hSw); go_simp; (try with_reducible rfl))
            try simp only [Act.put, List.getElem_toArray, List.getElem_cons_succ, List.getElem_cons_zero, List.setIfInBounds_toArray, List.set_cons_zero, List.set_cons_succ]
            refine wpAnyH_take (i := 3) (v := ?_) rfl (by kernel_rfl) (by kernel_rfl) (by kernel_rfl) (fun _ _ _ h => h) (Or.inl ⟨by kernel_rfl, ?_⟩) hHeld ?_
            rotate_left
            · (intro w hSw; (try dsimp only at hSw); go_simp; (try with_reducible rfl))
            try simp only [Act.put, List.getElem_toArray, List.getElem_cons_succ, List.getElem_cons_zero, List.setIfInBounds_toArray, List.set_cons_zero, List.set_cons_succ]
            refine wpAnyH_take (i := 4) (v := ?_) rfl (by kernel_rfl) (by kernel_rfl) (by kernel_rfl) (fun _ _ _ h => h) (Or.inl ⟨by kernel_rfl, ?_⟩) hHeld ?_
            rotate_left
            · (intro w hSw; (try dsimp only at hSw); go_simp; (try with_reducible rfl))
            try simp only [Act.put, List.getElem_toArray, List.getElem_cons_succ, List.getElem_cons_zero, List.setIfInBounds_toArray, List.set_cons_zero, List.set_cons_succ]
            refine wpAnyH_take (i := 5) (v := ?_) rfl (by kernel_rfl) (by kernel_rfl) (by kernel_rfl) (fun _ _ _ h => h) (Or.inl ⟨by kernel_rfl, ?_⟩) hHeld ?_
            rotate_left
            · (intro w hSw; (try dsimp only at hSw); go_simp; (try with_reducible rfl))
            try simp only [Act.put, List.getElem_toArray, List.getElem_cons_succ, List.getElem_cons_zero, List.setIfInBounds_toArray, List.set_cons_zero, List.set_cons_succ]
            refine wpAnyH_take (i := 6) (v := ?_) rfl (by kernel_rfl) (by kernel_rfl) (by kernel_rfl) (fun _ _ _ h => h) (Or.inl ⟨by kernel_rfl, ?_⟩) hHeld ?_
            rotate_left
            · (intro w hSw; (try dsimp only at hSw); go_simp; (try with_reducible rfl))
            try simp only [Act.put, List.getElem_toArray, List.getElem_cons_succ, List.getElem_cons_zero, List.setIfInBounds_toArray, List.set_cons_zero, List.set_cons_succ]
            refine wpAnyH_take (i := 7) (v := ?_) rfl (by kernel_rfl) (by kernel_rfl) (by kernel_rfl) (fun _ _ _ h => h) (Or.inl ⟨by kernel_rfl, ?_⟩) hHeld ?_
            rotate_left
            · (intro w hSw; (try dsimp only at hSw); go_simp; (try with_reducible rfl))
            try simp only [Act.put, List.getElem_toArray, List.getElem_cons_succ, List.getElem_cons_zero, List.setIfInBounds_toArray, List.set_cons_zero, List.set_cons_succ]
            refine wpAnyH_ready (rs := [8]) (by kernel_rfl) (by simp) (AllReadyH.cons rfl (fun K hK => ?_) AllReadyH.nil)
            go_simp
            with_reducible refine (hwt (World.drew wr)).mono ?_
            rintro e w5 ⟨rfl, b5⟩
            have b5 : Below wr.heap.size wr w5 := (Below.refl _ wr).drew.trans b5
            obtain ⟨k0, k1, k2, k3, k4, k5, k6, k7⟩ := KEEP.out w5 b5
            refine hK.out _ _ ⟨k0, k1, k2, k3, k4, k5, k6, k7⟩ (fun hHeld => ?_)
            try simp only [Act.put, List.getElem_toArray, List.getElem_cons_succ, List.getElem_cons_zero, List.setIfInBounds_toArray, List.set_cons_zero, List.set_cons_succ]
            refine wpAnyH_take (i := 9) (v := ?_) rfl (by kernel_rfl) (by kernel_rfl) (by kernel_rfl) (fun _ _ _ h => h) (Or.inl ⟨by kernel_rfl, ?_⟩) hHeld ?_
            rotate_left
            · (intro w hSw; (try dsimp only at hSw); go_simp; (try with_reducible rfl))
            try simp only [Act.put, List.getElem_toArray, List.getElem_cons_succ, List.getElem_cons_zero, List.setIfInBounds_toArray, List.set_cons_zero, List.set_cons_succ]
            refine wpAnyH_take (i := 10) (v := undef) rfl (by kernel_rfl) (by kernel_rfl) (by kernel_rfl) (fun _ _ _ h => h) (Or.inr ⟨by kernel_rfl, rfl⟩) hHeld ?_
            try simp only [Act.put, List.getElem_toArray, List.getElem_cons_succ, List.getElem_cons_zero, List.setIfInBounds_toArray, List.set_cons_zero, List.set_cons_succ]
            refine wpAnyH_take (i := 11) (v := undef) rfl (by kernel_rfl) (by kernel_rfl) (by kernel_rfl) (fun _ _ _ h => h) (Or.inr ⟨by kernel_rfl, rfl⟩) hHeld ?_
            try simp only [Act.put, List.getElem_toArray, List.getElem_cons_succ, List.getElem_cons_zero, List.setIfInBounds_toArray, List.set_cons_zero, List.set_cons_succ]
            refine wpAnyH_take (i := 12) (v := undef) rfl (by kernel_rfl) (by kernel_rfl) (by kernel_rfl) (fun _ _ _ h => h) (Or.inr ⟨by kernel_rfl, rfl⟩) hHeld ?_
            try simp only [Act.put, List.getElem_toArray, List.getElem_cons_succ, List.getElem_cons_zero, List.setIfInBounds_toArray, List.set_cons_zero, List.set_cons_succ]
            refine wpAnyH_take (i := 13) (v := undef) rfl (by kernel_rfl) (by kernel_rfl) (by kernel_rfl) (fun _ _ _ h => h) (Or.inr ⟨by kernel_rfl, rfl⟩) hHeld ?_
            try simp only [Act.put, List.getElem_toArray, List.getElem_cons_succ, List.getElem_cons_zero, List.setIfInBounds_toArray, List.set_cons_zero, List.set_cons_succ]
            refine wpAnyH_take (i := 14) (v := undef) rfl (by kernel_rfl) (by kernel_rfl) (by kernel_rfl) (fun _ _ _ h => h) (Or.inr ⟨by kernel_rfl, rfl⟩) hHeld ?_
            try simp only [Act.put, List.getElem_toArray, List.getElem_cons_succ, List.getElem_cons_zero, List.setIfInBounds_toArray, List.set_cons_zero, List.set_cons_succ]
            refine wpAnyH_take (i := 15) (v := undef) rfl (by kernel_rfl) (by kernel_rfl) (by kernel_rfl) (fun _ _ _ h => h) (Or.inr ⟨by kernel_rfl, rfl⟩) hHeld ?_
            try simp only [Act.put, List.getElem_toArray, List.getElem_cons_succ, List.getElem_cons_zero, List.setIfInBounds_toArray, List.set_cons_zero, List.set_cons_succ]
            refine wpAnyH_take (i := 16) (v := undef) rfl (by kernel_rfl) (by kernel_rfl) (by kernel_rfl) (fun _ _ _ h => h) (Or.inr ⟨by kernel_rfl, rfl⟩) hHeld ?_
            try simp only [Act.put, List.getElem_toArray, List.getElem_cons_succ, List.getElem_cons_zero, List.setIfInBounds_toArray, List.set_cons_zero, List.set_cons_succ]
            refine wpAnyH_take (i := 17) (v := undef) rfl (by kernel_rfl) (by kernel_rfl) (by kernel_rfl) (fun _ _ _ h => h) (Or.inr ⟨by kernel_rfl, rfl⟩) hHeld ?_
            try simp only [Act.put, List.getElem_toArray, List.getElem_cons_succ, List.getElem_cons_zero, List.setIfInBounds_toArray, List.set_cons_zero, List.set_cons_succ]
            refine wpAnyH_take (i := 18) (v := undef) rfl (by kernel_rfl) (by kernel_rfl) (by kernel_rfl) (fun _ _ _ h => h) (Or.inr ⟨by kernel_rfl, rfl⟩) hHeld ?_
            try simp only [Act.put, List.getElem_toArray, List.getElem_cons_succ, List.getElem_cons_zero, List.setIfInBounds_toArray, List.set_cons_zero, List.set_cons_succ]
            refine wpAnyH_take (i := 19) (v := undef) rfl (by kernel_rfl) (by kernel_rfl) (by kernel_rfl) (fun _ _ _ h => h) (Or.inr ⟨by kernel_rfl, rfl⟩) hHeld ?_
            try simp only [Act.put, List.getElem_toArray, List.getElem_cons_succ, List.getElem_cons_zero, List.setIfInBounds_toArray, List.set_cons_zero, List.set_cons_succ]
            refine wpAnyH_take (i := 20) (v := undef) rfl (by kernel_rfl) (by kernel_rfl) (by kernel_rfl) (fun _ _ _ h => h) (Or.inr ⟨by kernel_rfl, rfl⟩) hHeld ?_
            try simp only [Act.put, List.getElem_toArray, List.getElem_cons_succ, List.getElem_cons_zero, List.setIfInBounds_toArray, List.set_cons_zero, List.set_cons_succ]
            refine wpAnyH_take (i := 21) (v := undef) rfl (by kernel_rfl) (by kernel_rfl) (by kernel_rfl) (fun _ _ _ h => h) (Or.inr ⟨by kernel_rfl, rfl⟩) hHeld ?_
            try simp only [Act.put, List.getElem_toArray, List.getElem_cons_succ, List.getElem_cons_zero, List.setIfInBounds_toArray, List.set_cons_zero, List.set_cons_succ]
            refine wpAnyH_take (i := 22) (v := undef) rfl (by kernel_rfl) (by kernel_rfl) (by kernel_rfl) (fun _ _ _ h => h) (Or.inr ⟨by kernel_rfl, rfl⟩) hHeld ?_
            try simp only [Act.put, List.getElem_toArray, List.getElem_cons_succ, List.getElem_cons_zero, List.setIfInBounds_toArray, List.set_cons_zero, List.set_cons_succ]
            refine wpAnyH_take (i := 23) (v := ?_) rfl (by kernel_rfl) (by kernel_rfl) (by kernel_rfl) (fun _ _ _ h => h) (Or.inl ⟨by kernel_rfl, ?_⟩) hHeld ?_
            rotate_left
            · (intro w hSw; (try dsimp only at hSw); go_simp; (try with_reducible rfl))
            try simp only [Act.put, List.getElem_toArray, List.getElem_cons_succ, List.getElem_cons_zero, List.setIfInBounds_toArray, List.set_cons_zero, List.set_cons_succ]
            refine wpAnyH_done (by kernel_rfl) ?_ _
            go_wp2_with fail
            go_roundg (gk - 1)
            case measure => omega
            case rel => exact ⟨j + 1, by omega, by go_num, b2.trans (b5.mono b2.size), HJ4⟩
          · have hm2 : (m : Int) ≤ (c : Int) := by omega
            have hm3 : (m : Int) + (b : Int) ≤ (c : Int) := by omega
            have hm4 : ¬ c = m := by omega
            have hm5 : (m : Int) ≤ (m : Int) + (b : Int) := by omega
            have hm6 : (0 : Int) ≤ (m : Int) := by omega
            cases cn
            · have HF2 : Hid (fairN picks spans fr to b = false) := Lib.hid (fairN_false (k := m) hm0 hin (HJ2.out rfl))
              clear HJ2 HJ3
              go_wp2_with fail
              refine wp_region_held_drew (S := (fun w' => w'.cell? ⟨b', off + j * 8, none⟩ = some (.int .i64 s.th) ∧ w'.cell? ⟨b', off + j * 8 + 1, none⟩ = some (.int .i64 s.sq) ∧ w'.cell? ⟨b', off + j * 8 + 2, none⟩ = some (.int .u8 s.ok) ∧ w'.cell? ⟨b', off + j * 8 + 3, none⟩ = some (.int .i32 s.ov) ∧ w'.cell? ⟨b', off + j * 8 + 4, none⟩ = some (.int .u8 s.rc) ∧ w'.cell? ⟨b', off + j * 8 + 5, none⟩ = some (.int .i32 s.rv) ∧ w'.cell? ⟨b', off + j * 8 + 6, none⟩ = some (.int .i64 s.fr) ∧ w'.cell? ⟨b', off + j * 8 + 7, none⟩ = some (.int .i64 s.to))) (by kernel_rfl) ⟨k0, k1, k2, k3, k4, k5, k6, k7⟩ (fun hHeld => ?_)
              refine wpAnyH_take (i := 0) (v := ?_) rfl (by kernel_rfl) (by kernel_rfl) (by kernel_rfl) (fun _ _ _ h => h) (Or.inl ⟨by kernel_rfl, ?_⟩) hHeld ?_
              rotate_left
              · (intro w hSw; (try dsimp only at hSw); go_simp; (try with_reducible rfl))
              try simp only [Act.put, List.getElem_toArray, List.getElem_cons_succ, List.getElem_cons_zero, List.setIfInBounds_toArray, List.set_cons_zero, List.set_cons_succ]
              refine wpAnyH_take (i := 1) (v := ?_) rfl (by kernel_rfl) (by kernel_rfl) (by kernel_rfl) (fun _ _ _ h => h) (Or.inl ⟨by kernel_rfl, ?_⟩) hHeld ?_
              rotate_left
              · (intro w hSw; (try dsimp only at hSw); go_simp; (try with_reducible rfl))
              try simp only [Act.put, List.getElem_toArray, List.getElem_cons_succ, List.getElem_cons_zero, List.setIfInBounds_toArray, List.set_cons_zero, List.set_cons_succ]
              refine wpAnyH_take (i := 2) (v := ?_) rfl (by kernel_rfl) (by kernel_rfl) (by kernel_rfl) (fun _ _ _ h => h) (Or.inl ⟨by kernel_rfl, ?_⟩) hHeld ?_
              rotate_left
              · (intro w hSw; (try dsimp only at hSw); go_simp; (try with_reducible rfl))
              try simp only [Act.put, List.getElem_toArray, List.getElem_cons_succ, List.getElem_cons_zero, List.setIfInBounds_toArray, List.set_cons_zero, List.set_cons_succ]
              refine wpAnyH_take (i := 3) (v := ?_) rfl (by kernel_rfl) (by kernel_rfl) (by kernel_rfl) (fun _ _ _ h => h) (Or.inl ⟨by kernel_rfl, ?_⟩) hHeld ?_
              rotate_left
              · (intro w hSw; (try dsimp only at hSw); go_simp; (try with_reducible rfl))
              try simp only [Act.put, List.getElem_toArray, List.getElem_cons_succ, List.getElem_cons_zero, List.setIfInBounds_toArray, List.set_cons_zero, List.set_cons_succ]
              refine wpAnyH_take (i := 4) (v := ?_) rfl (by kernel_rfl) (by kernel_rfl) (by kernel_rfl) (fun _ _ _ h => h) (Or.inl ⟨by kernel_rfl, ?_⟩) hHeld ?_
              rotate_left
              · (intro w hSw; (try dsimp only at hSw); go_simp; (try with_reducible rfl))
              try simp only [Act.put, List.getElem_toArray, List.getElem_cons_succ, List.getElem_cons_zero, List.setIfInBounds_toArray, List.set_cons_zero, List.set_cons_succ]
              refine wpAnyH_take (i := 5) (v := ?_) rfl (by kernel_rfl) (by kernel_rfl) (by kernel_rfl) (fun _ _ _ h => h) (Or.inl ⟨by kernel_rfl, ?_⟩) hHeld ?_
              rotate_left
              · (intro w hSw; (try dsimp only at hSw); go_simp; (try with_reducible rfl))
              try simp only [Act.put, List.getElem_toArray, List.getElem_cons_succ, List.getElem_cons_zero, List.setIfInBounds_toArray, List.set_cons_zero, List.set_cons_succ]
              refine wpAnyH_take (i := 6) (v := ?_) rfl (by kernel_rfl) (by kernel_rfl) (by kernel_rfl) (fun _ _ _ h => h) (Or.inl ⟨by kernel_rfl, ?_⟩) hHeld ?_
              rotate_left
              · (intro w hSw; (try dsimp only at hSw); go_simp; (try with_reducible rfl))
              try simp only [Act.put, List.getElem_toArray, List.getElem_cons_succ, List.getElem_cons_zero, List.setIfInBounds_toArray, List.set_cons_zero, List.set_cons_succ]
              refine wpAnyH_take (i := 7) (v := ?_) rfl (by kernel_rfl) (by kernel_rfl) (by kernel_rfl) (fun _ _ _ h => h) (Or.inl ⟨by kernel_rfl, ?_⟩) hHeld ?_
              rotate_left
              · (intro w hSw; (try dsimp only at hSw); go_simp; (try with_reducible rfl))
              try simp only [Act.put, List.getElem_toArray, List.getElem_cons_succ, List.getElem_cons_zero, List.setIfInBounds_toArray, List.set_cons_zero, List.set_cons_succ]
              refine wpAnyH_ready (rs := [8]) (by kernel_rfl) (by simp) (AllReadyH.cons rfl (fun K hK => ?_) AllReadyH.nil)
              go_simp
              with_reducible refine (hwt (World.drew wr)).mono ?_
              rintro e w5 ⟨rfl, b5⟩
              have b5 : Below wr.heap.size wr w5 := (Below.refl _ wr).drew.trans b5
              obtain ⟨k0, k1, k2, k3, k4, k5, k6, k7⟩ := KEEP.out w5 b5
              refine hK.out _ _ ⟨k0, k1, k2, k3, k4, k5, k6, k7⟩ (fun hHeld => ?_)
              clear hK K
              try simp only [Act.put, List.getElem_toArray, List.getElem_cons_succ, List.getElem_cons_zero, List.setIfInBounds_toArray, List.set_cons_zero, List.set_cons_succ]
              refine wpAnyH_take (i := 9) (v := ?_) rfl (by kernel_rfl) (by kernel_rfl) (by kernel_rfl) (fun _ _ _ h => h) (Or.inl ⟨by kernel_rfl, ?_⟩) hHeld ?_
              rotate_left
              · (intro w hSw; (try dsimp only at hSw); go_simp; (try with_reducible rfl))
              try simp only [Act.put, List.getElem_toArray, List.getElem_cons_succ, List.getElem_cons_zero, List.setIfInBounds_toArray, List.set_cons_zero, List.set_cons_succ]
              refine wpAnyH_take (i := 10) (v := ?_) rfl (by kernel_rfl) (by kernel_rfl) (by kernel_rfl) (fun _ _ _ h => h) (Or.inl ⟨by kernel_rfl, ?_⟩) hHeld ?_
              rotate_left
              · (intro w hSw; (try dsimp only at hSw); go_simp; (try with_reducible rfl))
              try simp only [Act.put, List.getElem_toArray, List.getElem_cons_succ, List.getElem_cons_zero, List.setIfInBounds_toArray, List.set_cons_zero, List.set_cons_succ]
              refine wpAnyH_take (i := 11) (v := ?_) rfl (by kernel_rfl) (by kernel_rfl) (by kernel_rfl) (fun _ _ _ h => h) (Or.inl ⟨by kernel_rfl, ?_⟩) hHeld ?_
              rotate_left
              · (intro w hSw; (try dsimp only at hSw); go_simp; (try with_reducible rfl))
              try simp only [Act.put, List.getElem_toArray, List.getElem_cons_succ, List.getElem_cons_zero, List.setIfInBounds_toArray, List.set_cons_zero, List.set_cons_succ]
              refine wpAnyH_take (i := 12) (v := ?_) rfl (by kernel_rfl) (by kernel_rfl) (by kernel_rfl) (fun _ _ _ h => h) (Or.inl ⟨by kernel_rfl, ?_⟩) hHeld ?_
              rotate_left
              · (intro w hSw; (try dsimp only at hSw); go_simp; (try with_reducible rfl))
              try simp only [Act.put, List.getElem_toArray, List.getElem_cons_succ, List.getElem_cons_zero, List.setIfInBounds_toArray, List.set_cons_zero, List.set_cons_succ]
              refine wpAnyH_take (i := 13) (v := ?_) rfl (by kernel_rfl) (by kernel_rfl) (by kernel_rfl) (fun _ _ _ h => h) (Or.inl ⟨by kernel_rfl, ?_⟩) hHeld ?_
              rotate_left
              · (intro w hSw; (try dsimp only at hSw); go_simp; (try with_reducible rfl))
              try simp only [Act.put, List.getElem_toArray, List.getElem_cons_succ, List.getElem_cons_zero, List.setIfInBounds_toArray, List.set_cons_zero, List.set_cons_succ]
              refine wpAnyH_take (i := 14) (v := ?_) rfl (by kernel_rfl) (by kernel_rfl) (by kernel_rfl) (fun _ _ _ h => h) (Or.inl ⟨by kernel_rfl, ?_⟩) hHeld ?_
              rotate_left
              · (intro w hSw; (try dsimp only at hSw); go_simp; (try with_reducible rfl))
              try simp only [Act.put, List.getElem_toArray, List.getElem_cons_succ, List.getElem_cons_zero, List.setIfInBounds_toArray, List.set_cons_zero, List.set_cons_succ]
              refine wpAnyH_take (i := 15) (v := ?_) rfl (by kernel_rfl) (by kernel_rfl) (by kernel_rfl) (fun _ _ _ h => h) (Or.inl ⟨by kernel_rfl, ?_⟩) hHeld ?_
              rotate_left
              · (intro w hSw; (try dsimp only at hSw); go_simp; (try with_reducible rfl))
              try simp only [Act.put, List.getElem_toArray, List.getElem_cons_succ, List.getElem_cons_zero, List.setIfInBounds_toArray, List.set_cons_zero, List.set_cons_succ]
              refine wpAnyH_take (i := 16) (v := ?_) rfl (by kernel_rfl) (by kernel_rfl) (by kernel_rfl) (fun _ _ _ h => h) (Or.inl ⟨by kernel_rfl, ?_⟩) hHeld ?_
              rotate_left
              · (intro w hSw; (try dsimp only at hSw); go_simp; (try with_reducible rfl))
              try simp only [Act.put, List.getElem_toArray, List.getElem_cons_succ, List.getElem_cons_zero, List.setIfInBounds_toArray, List.set_cons_zero, List.set_cons_succ]
              refine wpAnyH_take (i := 17) (v := ?_) rfl (by kernel_rfl) (by kernel_rfl) (by kernel_rfl) (fun _ _ _ h => h) (Or.inl ⟨by kernel_rfl, ?_⟩) hHeld ?_
              rotate_left
              · (intro w hSw; (try dsimp only at hSw); go_simp; (try with_reducible rfl))
              try simp only [Act.put, List.getElem_toArray, List.getElem_cons_succ, List.getElem_cons_zero, List.setIfInBounds_toArray, List.set_cons_zero, List.set_cons_succ]
              refine wpAnyH_take (i := 18) (v := ?_) rfl (by kernel_rfl) (by kernel_rfl) (by kernel_rfl) (fun _ _ _ h => h) (Or.inl ⟨by kernel_rfl, ?_⟩) hHeld ?_
              rotate_left
              · (intro w hSw; (try dsimp only at hSw); go_simp; (try with_reducible rfl))
              try simp only [Act.put, List.getElem_toArray, List.getElem_cons_succ, List.getElem_cons_zero, List.setIfInBounds_toArray, List.set_cons_zero, List.set_cons_succ]
              refine wpAnyH_take (i := 19) (v := ?_) rfl (by kernel_rfl) (by kernel_rfl) (by kernel_rfl) (fun _ _ _ h => h) (Or.inl ⟨by kernel_rfl, ?_⟩) hHeld ?_
              rotate_left
              · (intro w hSw; (try dsimp only at hSw); go_simp; (try with_reducible rfl))
              try simp only [Act.put, List.getElem_toArray, List.getElem_cons_succ, List.getElem_cons_zero, List.setIfInBounds_toArray, List.set_cons_zero, List.set_cons_succ]
              refine wpAnyH_take (i := 20) (v := ?_) rfl (by kernel_rfl) (by kernel_rfl) (by kernel_rfl) (fun _ _ _ h => h) (Or.inl ⟨by kernel_rfl, ?_⟩) hHeld ?_
              rotate_left
              · (intro w hSw; (try dsimp only at hSw); go_simp; (try with_reducible rfl))
              try simp only [Act.put, List.getElem_toArray, List.getElem_cons_succ, List.getElem_cons_zero, List.setIfInBounds_toArray, List.set_cons_zero, List.set_cons_succ]
              refine wpAnyH_ready (rs := [21]) (by kernel_rfl) (by simp) (AllReadyH.cons rfl (fun K hK => ?_) AllReadyH.nil)
              go_simp
              with_reducible refine (hpl w5 (b2.trans (b5.mono b2.size))).mono ?_
              rintro e w6 ⟨r, rfl, hrr, rfl⟩
              have hrr : decide (r < 0) = true := hrr
              refine hK.out _ _ ⟨k0, k1, k2, k3, k4, k5, k6, k7⟩ (fun hHeld => ?_)
              clear hK K
              try simp only [Act.put, List.getElem_toArray, List.getElem_cons_succ, List.getElem_cons_zero, List.setIfInBounds_toArray, List.set_cons_zero, List.set_cons_succ]
              refine wpAnyH_take (i := 22) (v := ?_) rfl (by kernel_rfl) (by kernel_rfl) (by kernel_rfl) (fun _ _ _ h => h) (Or.inl ⟨by kernel_rfl, ?_⟩) hHeld ?_
              rotate_left
              · (intro w hSw; (try dsimp only at hSw); go_simp; (try with_reducible rfl))
              try simp only [Act.put, List.getElem_toArray, List.getElem_cons_succ, List.getElem_cons_zero, List.setIfInBounds_toArray, List.set_cons_zero, List.set_cons_succ]
              refine wpAnyH_take (i := 23) (v := ?_) rfl (by kernel_rfl) (by kernel_rfl) (by kernel_rfl) (fun _ _ _ h => h) (Or.inl ⟨by kernel_rfl, ?_⟩) hHeld ?_
              rotate_left
              · (intro w hSw; (try dsimp only at hSw); go_simp; (try with_reducible rfl))
              try simp only [Act.put, List.getElem_toArray, List.getElem_cons_succ, List.getElem_cons_zero, List.setIfInBounds_toArray, List.set_cons_zero, List.set_cons_succ]
              refine wpAnyH_done (by kernel_rfl) ?_ _
              go_wp2_with fail
              go_ret
              exact ⟨by first | (rw [HF2.out]; done) | (rw [HF2.out]; rfl) | simp [HF2.out], b2.trans (b5.mono b2.size)⟩
            · have HJ4 := Lib.hid (HJ3.out rfl)
              clear HJ2 HJ3
              go_wp2_with fail
              refine wp_region_held_drew (S := (fun w' => w'.cell? ⟨b', off + j * 8, none⟩ = some (.int .i64 s.th) ∧ w'.cell? ⟨b', off + j * 8 + 1, none⟩ = some (.int .i64 s.sq) ∧ w'.cell? ⟨b', off + j * 8 + 2, none⟩ = some (.int .u8 s.ok) ∧ w'.cell? ⟨b', off + j * 8 + 3, none⟩ = some (.int .i32 s.ov) ∧ w'.cell? ⟨b', off + j * 8 + 4, none⟩ = some (.int .u8 s.rc) ∧ w'.cell? ⟨b', off + j * 8 + 5, none⟩ = some (.int .i32 s.rv) ∧ w'.cell? ⟨b', off + j * 8 + 6, none⟩ = some (.int .i64 s.fr) ∧ w'.cell? ⟨b', off + j * 8 + 7, none⟩ = some (.int .i64 s.to))) (by kernel_rfl) ⟨k0, k1, k2, k3, k4, k5, k6, k7⟩ (fun hHeld => ?_)
              refine wpAnyH_take (i := 0) (v := ?_) rfl (by kernel_rfl) (by kernel_rfl) (by kernel_rfl) (fun _ _ _ h => h) (Or.inl ⟨by kernel_rfl, ?_⟩) hHeld ?_
              rotate_left
              · (intro w hSw; (try dsimp only at hSw); go_simp; (try with_reducible rfl))
              try simp only [Act.put, List.getElem_toArray, List.getElem_cons_succ, List.getElem_cons_zero, List.setIfInBounds_toArray, List.set_cons_zero, List.set_cons_succ]
              refine wpAnyH_take (i := 1) (v := ?_) rfl (by kernel_rfl) (by kernel_rfl) (by kernel_rfl) (fun _ _ _ h => h) (Or.inl ⟨by kernel_rfl, ?_⟩) hHeld ?_
              rotate_left
              · (intro w hSw; (try dsimp only at hSw); go_simp; (try with_reducible rfl))
              try simp only [Act.put, List.getElem_toArray, List.getElem_cons_succ, List.getElem_cons_zero, List.setIfInBounds_toArray, List.set_cons_zero, List.set_cons_succ]
              refine wpAnyH_take (i := 2) (v := ?_) rfl (by kernel_rfl) (by kernel_rfl) (by kernel_rfl) (fun _ _ _ h => h) (Or.inl ⟨by kernel_rfl, ?_⟩) hHeld ?_
              rotate_left
              · (intro w hSw; (try dsimp only at hSw); go_simp; (try with_reducible rfl))
              try simp only [Act.put, List.getElem_toArray, List.getElem_cons_succ, List.getElem_cons_zero, List.setIfInBounds_toArray, List.set_cons_zero, List.set_cons_succ]
              refine wpAnyH_take (i := 3) (v := ?_) rfl (by kernel_rfl) (by kernel_rfl) (by kernel_rfl) (fun _ _ _ h => h) (Or.inl ⟨by kernel_rfl, ?_⟩) hHeld ?_
              rotate_left
              · (intro w hSw; (try dsimp only at hSw); go_simp; (try with_reducible rfl))
              try simp only [Act.put, List.getElem_toArray, List.getElem_cons_succ, List.getElem_cons_zero, List.setIfInBounds_toArray, List.set_cons_zero, List.set_cons_succ]
              refine wpAnyH_take (i := 4) (v := ?_) rfl (by kernel_rfl) (by kernel_rfl) (by kernel_rfl) (fun _ _ _ h => h) (Or.inl ⟨by kernel_rfl, ?_⟩) hHeld ?_
              rotate_left
              · (intro w hSw; (try dsimp only at hSw); go_simp; (try with_reducible rfl))
              try simp only [Act.put, List.getElem_toArray, List.getElem_cons_succ, List.getElem_cons_zero, List.setIfInBounds_toArray, List.set_cons_zero, List.set_cons_succ]
              refine wpAnyH_take (i := 5) (v := ?_) rfl (by kernel_rfl) (by kernel_rfl) (by kernel_rfl) (fun _ _ _ h => h) (Or.inl ⟨by kernel_rfl, ?_⟩) hHeld ?_
              rotate_left
              · (intro w hSw; (try dsimp only at hSw); go_simp; (try with_reducible rfl))
              try simp only [Act.put, List.getElem_toArray, List.getElem_cons_succ, List.getElem_cons_zero, List.setIfInBounds_toArray, List.set_cons_zero, List.set_cons_succ]
              refine wpAnyH_take (i := 6) (v := ?_) rfl (by kernel_rfl) (by kernel_rfl) (by kernel_rfl) (fun _ _ _ h => h) (Or.inl ⟨by kernel_rfl, ?_⟩) hHeld ?_
              rotate_left
              · (intro w hSw; (try dsimp only at hSw); go_simp; (try with_reducible rfl))
              try simp only [Act.put, List.getElem_toArray, List.getElem_cons_succ, List.getElem_cons_zero, List.setIfInBounds_toArray, List.set_cons_zero, List.set_cons_succ]
              refine wpAnyH_take (i := 7) (v := ?_) rfl (by kernel_rfl) (by kernel_rfl) (by kernel_rfl) (fun _ _ _ h => h) (Or.inl ⟨by kernel_rfl, ?_⟩) hHeld ?_
              rotate_left
              · (intro w hSw; (try dsimp only at hSw); go_simp; (try with_reducible rfl))
              try simp only [Act.put, List.getElem_toArray, List.getElem_cons_succ, List.getElem_cons_zero, List.setIfInBounds_toArray, List.set_cons_zero, List.set_cons_succ]
              refine wpAnyH_ready (rs := [8]) (by kernel_rfl) (by simp) (AllReadyH.cons rfl (fun K hK => ?_) AllReadyH.nil)
              go_simp
              with_reducible refine (hwt (World.drew wr)).mono ?_
              rintro e w5 ⟨rfl, b5⟩
              have b5 : Below wr.heap.size wr w5 := (Below.refl _ wr).drew.trans b5
              obtain ⟨k0, k1, k2, k3, k4, k5, k6, k7⟩ := KEEP.out w5 b5
              refine hK.out _ _ ⟨k0, k1, k2, k3, k4, k5, k6, k7⟩ (fun hHeld => ?_)
              clear hK K
              try simp only [Act.put, List.getElem_toArray, List.getElem_cons_succ, List.getElem_cons_zero, List.setIfInBounds_toArray, List.set_cons_zero, List.set_cons_succ]
              refine wpAnyH_take (i := 9) (v := ?_) rfl (by kernel_rfl) (by kernel_rfl) (by kernel_rfl) (fun _ _ _ h => h) (Or.inl ⟨by kernel_rfl, ?_⟩) hHeld ?_
              rotate_left
              · (intro w hSw; (try dsimp only at hSw); go_simp; (try with_reducible rfl))
              try simp only [Act.put, List.getElem_toArray, List.getElem_cons_succ, List.getElem_cons_zero, List.setIfInBounds_toArray, List.set_cons_zero, List.set_cons_succ]
              refine wpAnyH_take (i := 10) (v := ?_) rfl (by kernel_rfl) (by kernel_rfl) (by kernel_rfl) (fun _ _ _ h => h) (Or.inl ⟨by kernel_rfl, ?_⟩) hHeld ?_
              rotate_left
              · (intro w hSw; (try dsimp only at hSw); go_simp; (try with_reducible rfl))
              try simp only [Act.put, List.getElem_toArray, List.getElem_cons_succ, List.getElem_cons_zero, List.setIfInBounds_toArray, List.set_cons_zero, List.set_cons_succ]
              refine wpAnyH_take (i := 11) (v := ?_) rfl (by kernel_rfl) (by kernel_rfl) (by kernel_rfl) (fun _ _ _ h => h) (Or.inl ⟨by kernel_rfl, ?_⟩) hHeld ?_
              rotate_left
              · (intro w hSw; (try dsimp only at hSw); go_simp; (try with_reducible rfl))
              try simp only [Act.put, List.getElem_toArray, List.getElem_cons_succ, List.getElem_cons_zero, List.setIfInBounds_toArray, List.set_cons_zero, List.set_cons_succ]
              refine wpAnyH_take (i := 12) (v := ?_) rfl (by kernel_rfl) (by kernel_rfl) (by kernel_rfl) (fun _ _ _ h => h) (Or.inl ⟨by kernel_rfl, ?_⟩) hHeld ?_
              rotate_left
              · (intro w hSw; (try dsimp only at hSw); go_simp; (try with_reducible rfl))
              try simp only [Act.put, List.getElem_toArray, List.getElem_cons_succ, List.getElem_cons_zero, List.setIfInBounds_toArray, List.set_cons_zero, List.set_cons_succ]
              refine wpAnyH_take (i := 13) (v := ?_) rfl (by kernel_rfl) (by kernel_rfl) (by kernel_rfl) (fun _ _ _ h => h) (Or.inl ⟨by kernel_rfl, ?_⟩) hHeld ?_
              rotate_left
              · (intro w hSw; (try dsimp only at hSw); go_simp; (try with_reducible rfl))
              try simp only [Act.put, List.getElem_toArray, List.getElem_cons_succ, List.getElem_cons_zero, List.setIfInBounds_toArray, List.set_cons_zero, List.set_cons_succ]
              refine wpAnyH_take (i := 14) (v := ?_) rfl (by kernel_rfl) (by kernel_rfl) (by kernel_rfl) (fun _ _ _ h => h) (Or.inl ⟨by kernel_rfl, ?_⟩) hHeld ?_
              rotate_left
              · (intro w hSw; (try dsimp only at hSw); go_simp; (try with_reducible rfl))
              try simp only [Act.put, List.getElem_toArray, List.getElem_cons_succ, List.getElem_cons_zero, List.setIfInBounds_toArray, List.set_cons_zero, List.set_cons_succ]
              refine wpAnyH_take (i := 15) (v := ?_) rfl (by kernel_rfl) (by kernel_rfl) (by kernel_rfl) (fun _ _ _ h => h) (Or.inl ⟨by kernel_rfl, ?_⟩) hHeld ?_
              rotate_left
              · (intro w hSw; (try dsimp only at hSw); go_simp; (try with_reducible rfl))
              try simp only [Act.put, List.getElem_toArray, List.getElem_cons_succ, List.getElem_cons_zero, List.setIfInBounds_toArray, List.set_cons_zero, List.set_cons_succ]
              refine wpAnyH_take (i := 16) (v := ?_) rfl (by kernel_rfl) (by kernel_rfl) (by kernel_rfl) (fun _ _ _ h => h) (Or.inl ⟨by kernel_rfl, ?_⟩) hHeld ?_
              rotate_left
              · (intro w hSw; (try dsimp only at hSw); go_simp; (try with_reducible rfl))
              try simp only [Act.put, List.getElem_toArray, List.getElem_cons_succ, List.getElem_cons_zero, List.setIfInBounds_toArray, List.set_cons_zero, List.set_cons_succ]
              refine wpAnyH_take (i := 17) (v := ?_) rfl (by kernel_rfl) (by kernel_rfl) (by kernel_rfl) (fun _ _ _ h => h) (Or.inl ⟨by kernel_rfl, ?_⟩) hHeld ?_
              rotate_left
              · (intro w hSw; (try dsimp only at hSw); go_simp; (try with_reducible rfl))
              try simp only [Act.put, List.getElem_toArray, List.getElem_cons_succ, List.getElem_cons_zero, List.setIfInBounds_toArray, List.set_cons_zero, List.set_cons_succ]
              refine wpAnyH_take (i := 18) (v := ?_) rfl (by kernel_rfl) (by kernel_rfl) (by kernel_rfl) (fun _ _ _ h => h) (Or.inl ⟨by kernel_rfl, ?_⟩) hHeld ?_
              rotate_left
              · (intro w hSw; (try dsimp only at hSw); go_simp; (try with_reducible rfl))
              try simp only [Act.put, List.getElem_toArray, List.getElem_cons_succ, List.getElem_cons_zero, List.setIfInBounds_toArray, List.set_cons_zero, List.set_cons_succ]
              refine wpAnyH_take (i := 19) (v := ?_) rfl (by kernel_rfl) (by kernel_rfl) (by kernel_rfl) (fun _ _ _ h => h) (Or.inl ⟨by kernel_rfl, ?_⟩) hHeld ?_
              rotate_left
              · (intro w hSw; (try dsimp only at hSw); go_simp; (try with_reducible rfl))
              try simp only [Act.put, List.getElem_toArray, List.getElem_cons_succ, List.getElem_cons_zero, List.setIfInBounds_toArray, List.set_cons_zero, List.set_cons_succ]
              refine wpAnyH_take (i := 20) (v := ?_) rfl (by kernel_rfl) (by kernel_rfl) (by kernel_rfl) (fun _ _ _ h => h) (Or.inl ⟨by kernel_rfl, ?_⟩) hHeld ?_
              rotate_left
              · (intro w hSw; (try dsimp only at hSw); go_simp; (try with_reducible rfl))
              try simp only [Act.put, List.getElem_toArray, List.getElem_cons_succ, List.getElem_cons_zero, List.setIfInBounds_toArray, List.set_cons_zero, List.set_cons_succ]
              refine wpAnyH_ready (rs := [21]) (by kernel_rfl) (by simp) (AllReadyH.cons rfl (fun K hK => ?_) AllReadyH.nil)
              go_simp
              with_reducible refine (hpl w5 (b2.trans (b5.mono b2.size))).mono ?_
              rintro e w6 ⟨r, rfl, hrr, rfl⟩
              have hrr : decide (r < 0) = false := hrr
              refine hK.out _ _ ⟨k0, k1, k2, k3, k4, k5, k6, k7⟩ (fun hHeld => ?_)
              clear hK K
              try simp only [Act.put, List.getElem_toArray, List.getElem_cons_succ, List.getElem_cons_zero, List.setIfInBounds_toArray, List.set_cons_zero, List.set_cons_succ]
              refine wpAnyH_take (i := 22) (v := ?_) rfl (by kernel_rfl) (by kernel_rfl) (by kernel_rfl) (fun _ _ _ h => h) (Or.inl ⟨by kernel_rfl, ?_⟩) hHeld ?_
              rotate_left
              · (intro w hSw; (try dsimp only at hSw); go_simp; (try with_reducible rfl))
              try simp only [Act.put, List.getElem_toArray, List.getElem_cons_succ, List.getElem_cons_zero, List.setIfInBounds_toArray, List.set_cons_zero, List.set_cons_succ]
              refine wpAnyH_take (i := 23) (v := ?_) rfl (by kernel_rfl) (by kernel_rfl) (by kernel_rfl) (fun _ _ _ h => h) (Or.inl ⟨by kernel_rfl, ?_⟩) hHeld ?_
              rotate_left
              · (intro w hSw; (try dsimp only at hSw); go_simp; (try with_reducible rfl))
              try simp only [Act.put, List.getElem_toArray, List.getElem_cons_succ, List.getElem_cons_zero, List.setIfInBounds_toArray, List.set_cons_zero, List.set_cons_succ]
              refine wpAnyH_done (by kernel_rfl) ?_ _
              go_wp2_with fail
              go_roundg (gk - 1)
              case measure => omega
              case rel => exact ⟨j + 1, by omega, by go_num, b2.trans (b5.mono b2.size), HJ4⟩
        · obtain rfl : j = n2 := by omega
          have HW : Hid (∀ k, fr ≤ k → k < m + 1 → k + b ≤ to → winB picks spans k b = true) := Lib.hid fun k hk1 hk2 hk3 => by
            by_cases e : k = m
            · subst e
              refine winB_iff.2 fun s hs' => ?_
              obtain ⟨i, hi, rfl⟩ := List.getElem_of_mem hs'
              exact HJ.out i hi (by have := HN2.out; omega)
            · exact HF.out k hk1 (by omega) hk3
          clear HJ HF
          go_wp2_with fail
          rename_i gk0 _ _
          go_roundg (to + 1 + fr - (m + 1))
          case measure => omega
          case rel => exact ⟨m + 1, by omega, by omega, by go_num, b2, by omega, HW⟩
    · have hle : ¬ (m : Int) ≤ (to : Int) - (b : Int) := by omega
      have HT : Hid (fairN picks spans fr to b = true) := Lib.hid (fairN_iff.2 fun k hk1 hk2 => HF.out k hk1 (by omega) hk2)
      clear HF
      go_wp2_with fail
      go_ret
      exact ⟨by first | (rw [HT.out]; done) | (rw [HT.out]; rfl) | simp [HT.out], b1⟩

set_option maxRecDepth 100000 in
set_option maxHeartbeats 1000000 in
theorem rfair_any (w : World) (A : Option Addr) (n c : Nat) (picks : List Int) (hp : Picks w A n picks) (hc : n ≤ c) (hcm : c ≤ maxLen) (A2 : Option Addr) (n2 c2 : Nat) (spans : List Span) (hs : Spans w A2 n2 spans) (fr to b : Int) (hf : -9223372036854775808 ≤ fr ∧ fr ≤ 9223372036854775807) (ht : -9223372036854775808 ≤ to ∧ to ≤ 9223372036854775807) (hb : -9223372036854775808 ≤ b ∧ b ≤ 9223372036854775807) :
    Calls Try.prog 25 #[.slice A n c, .slice A2 n2 c2, .int .i64 fr, .int .i64 to, .int .i64 b] w fun e w' => e = .returned (.bool (fairI picks spans fr to b)) ∧ Below w.heap.size w w' := by
  have hreach := hp.reach
  have HN := Lib.hid hp.len
  by_cases h1 : fr < 0
  · rw [fairI_out (by omega)]
    go_enter Try.func25, Try.ntmps25; go_wp2_with fail; go_ret; exact ⟨rfl, Below.refl _ _⟩
  by_cases h2 : (n : Int) < to
  · rw [fairI_out (by rw [HN.out]; omega)]
    go_enter Try.func25, Try.ntmps25; go_wp2_with fail; go_ret; exact ⟨rfl, Below.refl _ _⟩
  by_cases h3 : to < fr
  · rw [fairI_out (by omega)]
    go_enter Try.func25, Try.ntmps25; go_wp2_with fail; go_ret; exact ⟨rfl, Below.refl _ _⟩
  by_cases h4 : b < 1
  · rw [fairI_out (by omega)]
    go_enter Try.func25, Try.ntmps25; go_wp2_with fail; go_ret; exact ⟨rfl, Below.refl _ _⟩
  obtain ⟨fr, rfl⟩ := Int.eq_ofNat_of_zero_le (show 0 ≤ fr by omega)
  obtain ⟨to, rfl⟩ := Int.eq_ofNat_of_zero_le (show 0 ≤ to by omega)
  obtain ⟨b, rfl⟩ := Int.eq_ofNat_of_zero_le (show 0 ≤ b by omega)
  rw [fairI_in (by rw [HN.out]; omega) (by omega) (by omega)]
  exact rfair_in w A n c picks hp hc hcm A2 n2 c2 spans hs fr to b (by omega) (by omega) (by omega) (by omega)
theorem rfair_v {w : World} {A : Option Addr} {n c : Nat} {picks : List Int} (hp : Picks w A n picks) (hc : n ≤ c) (hcm : c ≤ maxLen) {A2 : Option Addr} {n2 c2 : Nat} {spans : List Span} (hs : Spans w A2 n2 spans) {fr to b : Int} (hf : -9223372036854775808 ≤ fr ∧ fr ≤ 9223372036854775807) (ht : -9223372036854775808 ≤ to ∧ to ≤ 9223372036854775807) (hb : -9223372036854775808 ≤ b ∧ b ≤ 9223372036854775807) {v : Bool} (hv : fairI picks spans fr to b = v) :
    Calls Try.prog 25 #[.slice A n c, .slice A2 n2 c2, .int .i64 fr, .int .i64 to, .int .i64 b] w fun e w' => e = .returned (.bool v) ∧ Below w.heap.size w w' := by
  subst hv
  exact rfair_any w A n c picks hp hc hcm A2 n2 c2 spans hs fr to b hf ht hb
end Go.Proofs.Ytmcnccfbligeaaa
