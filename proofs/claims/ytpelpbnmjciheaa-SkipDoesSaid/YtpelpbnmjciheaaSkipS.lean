/-
  The law's does: deeds at a list and at the document's; and how much there is of deeds.
-/
import Derived.Test.YtpelpbnmjciheaaSkipR
namespace Go.Proofs.Ytpelpbnmjciheaa
open Go.RowKit Go.Rp

theorem deed_at (ds : List Deed) (k : Nat) (hk : k < ds.length) : (ds.flatMap deedIn)[k * 5]? = some (.int .u8 ds[k].k) ∧ (ds.flatMap deedIn)[k * 5 + 1]? = some (.int .i32 ds[k].v) ∧ (ds.flatMap deedIn)[k * 5 + 2]? = some (.int .i64 ds[k].h) ∧ (ds.flatMap deedIn)[k * 5 + 3]? = some (.slice ds[k].a ds[k].n ds[k].c) ∧ (ds.flatMap deedIn)[k * 5 + 4]? = some (.slice ds[k].b ds[k].m ds[k].d) := by
  induction ds generalizing k with
  | nil => simp at hk
  | cons o l ih =>
    rcases k with _ | k
    · simp [deedIn]
    · have := ih k (by simpa using hk)
      simp only [List.flatMap_cons, deedIn, List.cons_append, List.nil_append, List.getElem_cons_succ]
      rw [show (k + 1) * 5 = k * 5 + 5 by omega]
      simpa [deedIn] using this
section
variable {B : Nat} {w w' : World} {L : List Res}
set_option maxRecDepth 100000 in
set_option maxHeartbeats 2000000 in
theorem heavy_s (hB : B ≤ w.heap.size) (h : At B w L) {A : Option Addr} {n c : Nat} {ds : List Deed} (hn : ds.length = n) (hr : Reads B w L 5 A n (ds.flatMap deedIn)) (hd : ∀ d ∈ ds, d.n ≤ 140737488351232 ∧ d.m ≤ 140737488351232) (hlen : n ≤ 140737488351232) :
    Calls Try.prog 4 #[.slice A n c] w fun e w' => ∃ T : Nat, e = .returned (.int .i64 (T : Int)) ∧ (T ≤ 1000 → ∀ d ∈ ds, d.n ≤ T ∧ d.m ≤ T) ∧ At B w' L ∧ Below B w w' := by
  have HN := Lib.hid hn
  have HD := Lib.hid hd
  clear hn hd
  go_enter Try.func4, Try.ntmps4
  go_wp2_with fail
  go_loopg [3, 4] n (fun g t k wr => ∃ m T : Nat, m + g = n ∧ k = .int .i64 (m : Int) ∧ t = .int .i64 (T : Int) ∧ T ≤ 300000000000000 ∧ Hid (∀ d ∈ ds.take m, d.n ≤ T ∧ d.m ≤ T) ∧ At B wr L ∧ Below B w wr)
  case atStart => exact ⟨0, 0, by omega, rfl, rfl, by omega, Lib.hid (by simp), h, Below.refl _ _⟩
  case round =>
    obtain ⟨m, T, hm, rfl, rfl, hT, HT, sr, br⟩ := hrel
    by_cases hlt : m < n
    · by_cases hTl : T ≤ 1000
      · obtain ⟨R, hR⟩ := hr wr [] sr br
        obtain ⟨b, off, rfl, _, hcells⟩ := hR.at (by omega)
        have hlt' : m < ds.length := by rw [HN.out]; exact hlt
        obtain ⟨_, _, _, c3, c4⟩ := deed_at ds m hlt'
        have g3 : wr.cell? ⟨b, off + m * 5 + 3, none⟩ = some (.slice ds[m].a ds[m].n ds[m].c) := hcells _ _ c3
        have g4 : wr.cell? ⟨b, off + m * 5 + 4, none⟩ = some (.slice ds[m].b ds[m].m ds[m].d) := hcells _ _ c4
        obtain ⟨q1, q2⟩ := HD.out _ (List.getElem_mem hlt')
        have hnext : Hid (∀ d ∈ ds.take (m + 1), d.n ≤ T + (2 + ds[m].n + ds[m].m) ∧ d.m ≤ T + (2 + ds[m].n + ds[m].m)) := Lib.hid fun d hd => by
          rw [List.take_succ_eq_append_getElem hlt', List.mem_append] at hd
          rcases hd with hd | hd
          · have := HT.out d hd
            omega
          · obtain rfl : d = ds[m] := by simpa using hd
            omega
        obtain ⟨d, hd⟩ : ∃ d, ds[m] = d := ⟨_, rfl⟩
        rw [hd] at g3 g4 q1 q2 hnext
        obtain ⟨dk, dv, dh, da, dn, dc, db, dm, dd, dvs, dhs⟩ := d
        simp only at g3 g4 q1 q2 hnext
        have hT1 : (T : Int) ≤ 1000 := by omega
        have hmi : (m : Int) < (n : Int) := by omega
        have hm0 : (0 : Int) ≤ (m : Int) := by omega
        clear hcells c3 c4 hd hR
        go_wp2_with fail
        go_quiet (fail)
        go_wp2_with fail
        go_roundg (n - m - 1)
        case measure => omega
        case rel => exact ⟨m + 1, T + (2 + dn + dm), by omega, by go_num, by go_num, by omega, hnext, sr.drewN _, below_drewN br _⟩
      · have hTi : ¬ (T : Int) ≤ 1000 := by omega
        have hmi : (m : Int) < (n : Int) := by omega
        go_wp2_with fail
        go_ret
        exact ⟨T, rfl, fun h => absurd h hTl, sr, br⟩
    · obtain rfl : m = n := by omega
      have HX := Lib.hid (show ∀ d ∈ ds, d.n ≤ T ∧ d.m ≤ T by
        have := HT.out
        rwa [List.take_of_length_le (by rw [HN.out]; omega)] at this)
      go_wp2_with fail
      go_ret
      exact ⟨T, rfl, fun _ => HX.out, sr, br⟩
set_option maxRecDepth 100000 in
set_option maxHeartbeats 4000000 in
theorem does_s (hB : B ≤ w.heap.size) (h : At B w L) (mo : Int) {A : Option Addr} {n c : Nat} {ds : List Deed} (hn : ds.length = n) (hr : Reads B w L 5 A n (ds.flatMap deedIn)) (hd : ∀ d ∈ ds, DeedR B w L d) (hlen : n ≤ 1000) :
    Calls Try.prog 7 #[.int .i64 mo, .slice A n c] w fun e w' => e = .returned (.bool true) ∧ At B w' L ∧ Below B w w' := by
  have HN := Lib.hid hn
  have HD := Lib.hid hd
  clear hn hd
  go_enter Try.func7, Try.ntmps7
  go_wp2_with fail
  refine (new_s hB h mo).mono ?_
  rintro e w1 ⟨p, rfl, s1, b1⟩
  go_wp2_with fail
  have s2 : At B w1 (skR p (mostI mo) [] :: itR none 0 [] :: L) := ⟨_, s1.choose_spec.1, s1.choose_spec.2.1, ⟨fun _ => False, fun _ h => h.elim, Rd.nil, s1.choose_spec.2.2.mono fun x hx => ⟨hx, fun h => h⟩⟩⟩
  go_loopg [5, 6, 7, 8, 9] n (fun g s r k u8 u9 wr => ∃ (m q : Nat) (A' : Option Addr) (c' nl : Nat) (l : List It), m + g = n ∧ k = .int .i64 (m : Int) ∧ s = .pointer (some ⟨q, 0, none⟩) ∧ r = .slice A' nl c' ∧ l.length = nl ∧ nl ≤ c' ∧ c' ≤ maxLen ∧ At B wr (skR q (mostI mo) l :: itR A' nl l :: L) ∧ Below B w wr)
  case atStart => exact ⟨0, p, none, 0, 0, [], by omega, rfl, rfl, rfl, rfl, by omega, by simp [maxLen], s2, b1⟩
  case round =>
    clear s1 s2 b1
    obtain ⟨m, q, A', c', nl, l, hm, rfl, rfl, rfl, hl, hc, hcm, s2, b2⟩ := hrel
    by_cases hlt : m < n
    · obtain ⟨R, hR⟩ := hr wr [_, _] s2 b2
      obtain ⟨b, off, rfl, _, hcells⟩ := hR.at (by omega)
      have hlt' : m < ds.length := by rw [HN.out]; exact hlt
      obtain ⟨c0, c1, c2, c3, c4⟩ := deed_at ds m hlt'
      have g0 : wr.cell? ⟨b, off + m * 5, none⟩ = some (.int .u8 ds[m].k) := hcells _ _ c0
      have g1 : wr.cell? ⟨b, off + m * 5 + 1, none⟩ = some (.int .i32 ds[m].v) := hcells _ _ c1
      have g2 : wr.cell? ⟨b, off + m * 5 + 2, none⟩ = some (.int .i64 ds[m].h) := hcells _ _ c2
      have g3 : wr.cell? ⟨b, off + m * 5 + 3, none⟩ = some (.slice ds[m].a ds[m].n ds[m].c) := hcells _ _ c3
      have g4 : wr.cell? ⟨b, off + m * 5 + 4, none⟩ = some (.slice ds[m].b ds[m].m ds[m].d) := hcells _ _ c4
      have hdm := (HD.out _ (List.getElem_mem hlt')).later b2
      obtain ⟨d, hd⟩ : ∃ d, ds[m] = d := ⟨_, rfl⟩
      rw [hd] at g0 g1 g2 g3 g4 hdm c0
      have hst := step_s (Nat.le_trans hB b2.size) mo s2 hl hc hcm d hdm
      have k0 := hdm.k0
      obtain ⟨l2, hl2⟩ : ∃ l2, dStep (mostI mo) l d = l2 := ⟨_, rfl⟩
      rw [hl2] at hst
      obtain ⟨dk, dv, dh, da, dn, dc, db, dm, dd, dvs, dhs⟩ := d
      simp only at g0 g1 g2 g3 g4 k0 c0 hst
      obtain ⟨r, hr4⟩ : ∃ r, dk.tmod 4 = r := ⟨_, rfl⟩
      have hmi : (m : Int) < (n : Int) := by omega
      have hm0 : (0 : Int) ≤ (m : Int) := by omega
      have HC0 := Lib.hid c0
      clear hcells c0 c1 c2 c3 c4 hd hR hl2 hdm
      go_wp2_with fail
      refine hst.mono ?_
      rintro e w3 ⟨A2, c2, rfl, hc2, hm2, s3, b3⟩
      have b3 := b2.trans b3
      obtain ⟨R3, hR3⟩ := hr w3 [_, _] s3 b3
      obtain ⟨b', off', e3, _, hcells⟩ := hR3.at (by omega)
      simp at e3
      obtain ⟨rfl, rfl⟩ := e3
      have g0 : w3.cell? ⟨b, off + m * 5, none⟩ = some (.int .u8 dk) := hcells _ _ HC0.out
      obtain ⟨n2, hn2⟩ : ∃ n2, l2.length = n2 := ⟨_, rfl⟩
      rw [hn2] at s3 hc2 ⊢
      have HN2 := Lib.hid hn2
      clear hcells hst g1 g2 g3 g4 hR3 s2 b2 hn2 hl hc hcm
      by_cases h3 : r = 3
      · subst h3
        go_wp2_with fail
        refine (copy_s (Nat.le_trans hB b3.size) s3).mono ?_
        rintro e w4 ⟨q4, rfl, s4, b4⟩
        have b4 := b3.trans b4
        have s4 := s4.rot2.drop
        clear hr4 g0
        go_wp2_with fail
        refine (alike_s (Nat.le_trans hB b4.size) s4 HN2.out).mono ?_
        rintro e w5 ⟨rfl, s5, b5⟩
        have b5 := b4.trans b5
        go_wp2_with fail
        refine (most_s s5).mono ?_
        rintro e w6 ⟨rfl, rfl⟩
        go_wp2_with fail
        refine (rMost_any w5 mo).mono ?_
        rintro e w7 ⟨rfl, rfl⟩
        have hee : ((mostI mo : Int) == (mostI mo : Int)) = true := by simp
        go_wp2_with fail
        go_roundg (n - m - 1)
        case measure => omega
        case rel => exact ⟨m + 1, q4, A2, c2, n2, l2, by omega, by go_num, rfl, rfl, HN2.out, hc2, hm2, s5, b5⟩
      · have HH3 := Lib.hid h3
        have h3b : (r == 3) = false := by simpa using h3
        go_wp2_with fail
        clear hr4 g0 h3b h3
        go_wp2_with fail
        refine (alike_s (Nat.le_trans hB b3.size) s3 HN2.out).mono ?_
        rintro e w5 ⟨rfl, s5, b5⟩
        have b5 := b3.trans b5
        go_wp2_with fail
        refine (most_s s5).mono ?_
        rintro e w6 ⟨rfl, rfl⟩
        go_wp2_with fail
        refine (rMost_any w5 mo).mono ?_
        rintro e w7 ⟨rfl, rfl⟩
        have hee : ((mostI mo : Int) == (mostI mo : Int)) = true := by simp
        go_wp2_with fail
        go_roundg (n - m - 1)
        case measure => omega
        case rel => exact ⟨m + 1, q, A2, c2, n2, l2, by omega, by go_num, rfl, rfl, HN2.out, hc2, hm2, s5, b5⟩
    · obtain rfl : m = n := by omega
      go_wp2_with fail
      go_ret
      exact ⟨rfl, s2.drop.drop, b2⟩
end
end Go.Proofs.Ytpelpbnmjciheaa
