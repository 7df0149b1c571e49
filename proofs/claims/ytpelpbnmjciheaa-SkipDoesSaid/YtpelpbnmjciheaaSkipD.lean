/-
  Lists that skip: a tower is put behind a path.
-/
import Derived.Test.YtpelpbnmjciheaaSkipC
namespace Go.Proofs.Ytpelpbnmjciheaa
open Go.RowKit Go.Rp

/-- Of a path that a tower has been put behind, on the levels below m. -/
def putP (s m : Nat) (A : List Tw) (t : Tw) : Nat → Nat := fun j => if j < m then t.1 else lastT j s A
theorem put_any {w : World} {s many most : Nat} {A R : List Tw} {S : Nat → Prop} (t : Tw) (h : Links w s many most (A ++ t :: R) (linkOf s (A ++ R)) S) (ha : Apart s (A ++ t :: R)) (h8 : t.2.2 ≤ 8) :
    Calls Try.prog 20 #[.agg (linkC fun k => some (lastT k s A)), .pointer (some ⟨t.1, 0, none⟩)] w fun e w' => e = .returned (.agg (linkC fun k => some (lastT k s (A ++ [t])))) ∧ Links w' s many most (A ++ t :: R) (linkOf s (A ++ t :: R)) S ∧ Mod S w w' := by
  obtain ⟨tb, tv, th⟩ := t
  have h0 := (h.val (t := (tb, tv, th)) (by simp)).2
  have hlt : tb < w.heap.size := (h.tw (tb, tv, th) (by simp)).1.lt
  simp only at h8 h0
  go_enter Try.func20, Try.ntmps20
  go_wp2
  go_loopg [10] th (fun g k wr => ∃ m : Nat, m + g = th ∧ k = .int .i64 (m : Int) ∧ Links wr s many most (A ++ (tb, tv, th) :: R) (mixed s A R (tb, tv, th) m) (fun b => S b ∧ b < w.heap.size) ∧ Blk wr w.heap.size 53 (linkC fun j => some (putP s m A (tb, tv, th) j)) ∧ Blk wr (w.heap.size + 1) 53 (linkC fun _ => none) ∧ Mod S w wr)
  case atStart =>
    refine ⟨0, by omega, rfl, ?_, ?_, ?_, ((Mod.refl _ w).alloc _).alloc _⟩
    · rw [mixed_zero]; exact (h.lt.alloc _).alloc _
    · exact blk_congr ((Blk.new w 53 (linkC fun k => some (lastT k s A))).alloc _) (linkC_congr fun k hk => by rw [show putP s 0 A (tb, tv, th) k = lastT k s A from if_neg (by omega)])
    · have := Blk.new (w.alloc (.cells (linkC fun k => some (lastT k s A)) 53)) 53 (linkC fun _ => none)
      rw [World.size_alloc] at this
      exact this
  case round =>
    obtain ⟨m, hm, rfl, hL, h1, h2, hmod⟩ := hrel
    by_cases hlt2 : m < th
    · have hm8 : m < 8 := by omega
      have hn1 : Node s (A ++ (tb, tv, th) :: R) (lastT m s A) := node_last m s A _
      have hn2 : Node s (A ++ (tb, tv, th) :: R) tb := .inr ⟨(tb, tv, th), by simp, rfl⟩
      have hxne : lastT m s A ≠ tb := lastT_ne ha m
      obtain ⟨x, hx⟩ : ∃ x, lastT m s A = x := ⟨_, rfl⟩
      obtain ⟨c1, f1⟩ := hL.node hn1 hm8
      obtain ⟨c2, f2⟩ := hL.node hn2 hm8
      rw [mixed_at ha m] at c1
      have hc := (h1.cell m).trans (linkC_at _ hm8)
      rw [show putP s m A (tb, tv, th) m = lastT m s A from if_neg (by omega), np_some] at hc
      have hf := h1.frozen m
      have hxl := (hL.nodeS hn1).2
      rw [hx] at c1 f1 hxne hc hxl
      have hxb : ¬ x = w.heap.size := by omega
      have htb : ¬ tb = w.heap.size := by omega
      have HX := Lib.hid hx
      have HM := Lib.hid hm
      have HL := Lib.hid hL
      clear hx hn1 hn2 hm hL
      go_wp2
      have c1' : wr.drew.cell? ⟨x, 2 + m, none⟩ = _ := c1
      have c2' : wr.drew.cell? ⟨tb, 2 + m, none⟩ = _ := c2
      have f1' : wr.drew.frozen? ⟨x, 2 + m, none⟩ = false := f1
      have f2' : wr.drew.frozen? ⟨tb, 2 + m, none⟩ = false := f2
      have hc' : wr.drew.cell? ⟨w.heap.size, m, none⟩ = _ := hc
      have hf' : wr.drew.frozen? ⟨w.heap.size, m, none⟩ = false := hf
      have hmi : (m : Int) < 8 := by omega
      obtain ⟨y, hy⟩ : ∃ y, nxt m R = y := ⟨_, rfl⟩
      rw [hy] at c1 c1'
      have HY := Lib.hid hy
      clear hy
      cases y with
      | none =>
        rw [np_none] at c1 c1'
        go_region
        go_wp2
        have hx := HX.out
        have hm := HM.out
        have hL := HL.out
        have hy := HY.out
        have hn1 : Node s (A ++ (tb, tv, th) :: R) (lastT m s A) := node_last m s A _
        have hn2 : Node s (A ++ (tb, tv, th) :: R) tb := .inr ⟨(tb, tv, th), by simp, rfl⟩
        rw [hx] at hn1
        have hs2 := mixed_step ha hlt2
        simp only [hx, hy] at hs2
        have hL2 := (hL.set hn2 hm8 (none)).set hn1 hm8 (some tb)
        rw [hs2] at hL2
        have hq1 := (hL.nodeS hn1).1
        have hq2 := (hL.nodeS hn2).1
        go_roundg (gk - 1)
        case measure => omega
        case rel =>
          have h3 := ((h1.far (p := ⟨tb, 2 + m, none⟩) (fun e => htb e.symm) ((Value.pointer none))).far (p := ⟨x, 2 + m, none⟩) (fun e => hxb e.symm) (.pointer (some ⟨tb, 0, none⟩))).set m (np (some tb))
          rw [linkC_set _ hm8] at h3
          refine ⟨m + 1, by omega, by go_num, (hL2.mod (U := fun b => b = w.heap.size) ((Mod.refl (fun b => b = w.heap.size) _).setCell (p := ⟨w.heap.size, m, none⟩) (.inl rfl) (.pointer (some ⟨tb, 0, none⟩))) fun b hb e => by omega).drew, (blk_congr h3 (linkC_congr fun j hj => ?_)).drew, (((h2.far (p := ⟨tb, 2 + m, none⟩) (fun e => by simp at e; omega) ((Value.pointer none))).far (p := ⟨x, 2 + m, none⟩) (fun e => by simp at e; omega) _).far (p := ⟨w.heap.size, m, none⟩) (fun e => by simp at e) _).drew,
            (((hmod.setCell (p := ⟨tb, 2 + m, none⟩) (.inl hq2) _).setCell (p := ⟨x, 2 + m, none⟩) (.inl hq1) _).setCell (p := ⟨w.heap.size, m, none⟩) (.inr (Nat.le_refl _)) _).drew⟩
          unfold putP
          by_cases e : j = m
          · subst e; simp
          · by_cases h : j < m
            · simp [h, e]; omega
            · rw [if_neg e, if_neg h, if_neg (by omega)]
      | some y =>
        rw [np_some] at c1 c1'
        go_region
        go_wp2
        have hx := HX.out
        have hm := HM.out
        have hL := HL.out
        have hy := HY.out
        have hn1 : Node s (A ++ (tb, tv, th) :: R) (lastT m s A) := node_last m s A _
        have hn2 : Node s (A ++ (tb, tv, th) :: R) tb := .inr ⟨(tb, tv, th), by simp, rfl⟩
        rw [hx] at hn1
        have hs2 := mixed_step ha hlt2
        simp only [hx, hy] at hs2
        have hL2 := (hL.set hn2 hm8 ((some y))).set hn1 hm8 (some tb)
        rw [hs2] at hL2
        have hq1 := (hL.nodeS hn1).1
        have hq2 := (hL.nodeS hn2).1
        go_roundg (gk - 1)
        case measure => omega
        case rel =>
          have h3 := ((h1.far (p := ⟨tb, 2 + m, none⟩) (fun e => htb e.symm) ((Value.pointer (some ⟨y, 0, none⟩)))).far (p := ⟨x, 2 + m, none⟩) (fun e => hxb e.symm) (.pointer (some ⟨tb, 0, none⟩))).set m (np (some tb))
          rw [linkC_set _ hm8] at h3
          refine ⟨m + 1, by omega, by go_num, (hL2.mod (U := fun b => b = w.heap.size) ((Mod.refl (fun b => b = w.heap.size) _).setCell (p := ⟨w.heap.size, m, none⟩) (.inl rfl) (.pointer (some ⟨tb, 0, none⟩))) fun b hb e => by omega).drew, (blk_congr h3 (linkC_congr fun j hj => ?_)).drew, (((h2.far (p := ⟨tb, 2 + m, none⟩) (fun e => by simp at e; omega) ((Value.pointer (some ⟨y, 0, none⟩)))).far (p := ⟨x, 2 + m, none⟩) (fun e => by simp at e; omega) _).far (p := ⟨w.heap.size, m, none⟩) (fun e => by simp at e) _).drew,
            (((hmod.setCell (p := ⟨tb, 2 + m, none⟩) (.inl hq2) _).setCell (p := ⟨x, 2 + m, none⟩) (.inl hq1) _).setCell (p := ⟨w.heap.size, m, none⟩) (.inr (Nat.le_refl _)) _).drew⟩
          unfold putP
          by_cases e : j = m
          · subst e; simp
          · by_cases h : j < m
            · simp [h, e]; omega
            · rw [if_neg e, if_neg h, if_neg (by omega)]
    · obtain rfl : m = th := by omega
      rw [linkC_congr (g := fun k => some (lastT k s (A ++ [(tb, tv, m)]))) fun k _ => by
        congr 1
        unfold putP
        by_cases e : k < m
        · rw [if_pos e, lastT_snoc_on e]
        · rw [if_neg e, lastT_snoc_off e]] at h1
      go_wp2_with (first | (refine wpList_load_path rfl _ rfl rfl h1 ?_) | (refine wpList_store_path rfl _ _ rfl rfl rfl h2 rfl ?_; intro w2 h3 hm2))
      refine bodyPost_ret (results_path rfl rfl h3) rfl ⟨rfl, ((hL.congr fun x j _ => mixed_full ha x j).mod hm2 fun b hb e => by omega).mono fun b hb => hb.1, hmod.trans hm2 fun b hb => .inr (by omega)⟩
end Go.Proofs.Ytpelpbnmjciheaa
