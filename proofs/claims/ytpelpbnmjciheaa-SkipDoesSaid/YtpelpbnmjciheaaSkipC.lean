/-
  Lists that skip: a path goes on behind all that are no greater.
-/
import Derived.LaidEqlPtr
import Derived.Test.YtpelpbnmjciheaaSkipB
namespace Go.Proofs.Ytpelpbnmjciheaa
open Go.RowKit Go.Rp

theorem ptr_same (w : World) (x : Nat) : (binOp .eql 47 (.pointer (some ⟨x, 0, none⟩)) (.pointer (some ⟨x, 0, none⟩))).run Try.prog w = .ok (.bool true) w := by
  obtain ⟨j, hj, _⟩ := Option.map_eq_some_iff.1 (show (Try.prog.info? 50).map (·.size) = some 10 by kernel_rfl)
  exact run_eql_ptr_same w _ Try.underlying47 hj
theorem ptr_other {w : World} {x y : Nat} (hne : x ≠ y) {t1 t2 : TypeId} {c1 c2 : Array Value} (hx : Blk w x t1 c1) (hy : Blk w y t2 c2) : (binOp .eql 47 (.pointer (some ⟨x, 0, none⟩)) (.pointer (some ⟨y, 0, none⟩))).run Try.prog w = .ok (.bool false) w := by
  obtain ⟨j, hj, hs⟩ := Option.map_eq_some_iff.1 (show (Try.prog.info? 50).map (·.size) = some 10 by kernel_rfl)
  exact run_eql_ptr_other w Try.underlying47 hj (by rw [hs]; decide) (fun e => hne (by injection e)) hx hy
theorem Links.blk {w : World} {s many most : Nat} {T : List Tw} {g : Nat → Nat → Option Nat} {S : Nat → Prop} (h : Links w s many most T g S) {x : Nat} (hx : Node s T x) : ∃ t cs, Blk w x t cs := by
  rcases hx with rfl | ⟨t, ht, rfl⟩
  · exact ⟨_, _, h.hd⟩
  · exact ⟨_, _, (h.tw t ht).1⟩
theorem bool_any (b : Bool) : (Ending.returned (.bool b) = .returned (.bool true)) ∨ (Ending.returned (.bool b) = .returned (.bool false)) := by cases b <;> simp
/-- Whatever it answers: it changes nothing. -/
theorem further_any {w : World} {s many most : Nat} {T : List Tw} {g : Nat → Nat → Option Nat} {S : Nat → Prop} (h : Links w s many most T g S) {x y : Nat} (hx : Node s T x) (hy : Node s T y) :
    Calls Try.prog 30 #[.pointer (some ⟨x, 0, none⟩), .pointer (some ⟨y, 0, none⟩)] w fun e w' => (e = .returned (.bool true) ∨ e = .returned (.bool false)) ∧ ∃ nq, w' = w.drewN nq := by
  obtain ⟨v1, n1, a1, a2⟩ := h.any hx
  obtain ⟨v2, n2, b1, b2⟩ := h.any hy
  obtain ⟨t1, k1, hb1⟩ := h.blk hx
  obtain ⟨t2, k2, hb2⟩ := h.blk hy
  by_cases e : x = y
  · subst e
    have hq := ptr_same w x
    go_enter Try.func30, Try.ntmps30
    go_wp2
    go_ret
    exact ⟨.inr rfl, 0, rfl⟩
  · have hq := ptr_other e hb1 hb2
    clear hb1 hb2 hx hy
    by_cases e1 : n1 = 0
    · subst e1
      go_enter Try.func30, Try.ntmps30
      go_wp2
      go_ret
      exact ⟨.inr rfl, 0, rfl⟩
    · by_cases e2 : n2 = 0
      · subst e2
        go_enter Try.func30, Try.ntmps30
        go_wp2
        go_region
        go_wp2
        go_ret
        exact ⟨.inl rfl, _, rfl⟩
      · have hd : decide ((n2 : Int) = 0) = false := decide_eq_false (by omega)
        have hn : ¬ (n2 : Int) = 0 := by omega
        go_enter Try.func30, Try.ntmps30
        go_wp2
        go_quiet (fail)
        go_wp2
        go_ret
        exact ⟨bool_any _, _, rfl⟩

/-- Of a path that has gone on from level 7 down to m. -/
def onP (s m : Nat) (P A : List Tw) : Nat → Nat := fun j => if j < m then lastT j s P else lastT j s A
theorem node_any {s : Nat} {A D : List Tw} (k : Nat) {U V : List Tw} (e : A = U ++ V) : Node s (A ++ D) (lastT k s U) := by
  rw [e, List.append_assoc]; exact node_last k s U (V ++ D)
theorem blk_congr {w : World} {g : Nat} {t : TypeId} {cs cs' : Array Value} (h : Blk w g t cs) (e : cs = cs') : Blk w g t cs' := e ▸ h
/-- Behind the inner walk: the path's place is written, and the level below is next. -/
theorem on_any {w : World} {s many most : Nat} {P C D : List Tw} {S : Nat → Prop} (v : Int) (h : Links w s many most (P ++ C ++ D) (linkOf s (P ++ C ++ D)) S) (ha : Apart s (P ++ C ++ D))
    (hC : ∀ t ∈ P ++ C, t.2.1 ≤ v) (hD : ∀ t ∈ D, v < t.2.1) :
    Calls Try.prog 19 #[.agg (linkC fun k => some (lastT k s P)), .int .i32 v] w fun e w' => e = .returned (.agg (linkC fun k => some (lastT k s (P ++ C)))) ∧ Below w.heap.size w w' := by
  obtain ⟨A, hA⟩ : ∃ A, P ++ C = A := ⟨_, rfl⟩
  rw [hA] at h ha hC ⊢
  have hlink : ∀ (k : Nat) (U V : List Tw), A = U ++ V → linkOf s (A ++ D) (lastT k s U) k = nxt k (V ++ D) := fun k U V e => by
    subst e
    rw [List.append_assoc]
    exact linkOf_last (by rw [← List.append_assoc]; exact ha)
  have HA := Lib.hid hA
  have HK := Lib.hid hlink
  have HC := Lib.hid hC
  have HD := Lib.hid hD
  clear hA ha hlink hC hD
  go_enter Try.func19, Try.ntmps19
  go_wp2
  go_loopg [5, 6] 8 (fun g lv k wr => ∃ z : Int, g ≤ 8 ∧ z = (g : Int) - 1 ∧ k = .int .i64 z ∧ (g = 8 ∧ lv = .pointer none ∨ g < 8 ∧ lv = .pointer (some ⟨lastT g s A, 0, none⟩)) ∧ Blk wr w.heap.size 53 (linkC fun j => some (onP s g P A j)) ∧ Blk wr (w.heap.size + 1) 53 (linkC fun _ => none) ∧ Below w.heap.size w wr)
  case atStart =>
    refine ⟨7, by omega, rfl, rfl, .inl ⟨rfl, rfl⟩, ?_, ?_, ((Below.refl _ w).alloc (Nat.le_refl _) _).alloc (by simp) _⟩
    · exact blk_congr ((Blk.new w 53 (linkC fun k => some (lastT k s P))).alloc _) (linkC_congr fun k hk => by rw [show onP s 8 P A k = lastT k s P from if_pos hk])
    · have := Blk.new (w.alloc (.cells (linkC fun k => some (lastT k s P)) 53)) 53 (linkC fun _ => none)
      rw [World.size_alloc] at this
      exact this
  case round =>
    obtain ⟨z, hg8, hz, rfl, hlv, h1, h2, hb⟩ := hrel
    rcases gk with _ | m
    · obtain rfl : z = -1 := by omega
      clear hz hlv
      rw [linkC_congr (g := fun j => some (lastT j s A)) fun j _ => by rw [show onP s 0 P A j = lastT j s A from if_neg (by omega)]] at h1
      go_wp2_with (first | (refine wpList_load_path rfl _ rfl rfl h1 ?_) | (refine wpList_store_path rfl _ _ rfl rfl rfl h2 rfl ?_; intro w2 h3 hm2))
      exact bodyPost_ret (results_path rfl rfl h3) rfl ⟨rfl, hb.trans (hm2.below (by have := hb.size; omega) fun x hx => by omega)⟩
    · obtain rfl : z = (m : Int) := by omega
      have hm8 : m < 8 := by omega
      clear hz
      have hL := h.keep hb
      have hf := h1.frozen m
      have hc := (h1.cell m).trans (linkC_at _ hm8)
      rw [show onP s (m + 1) P A m = lastT m s P from if_pos (by omega), np_some] at hc
      have hU1 : A = P ++ C := HA.out.symm
      rcases hlv with ⟨h8, rfl⟩ | ⟨h8, rfl⟩
      · obtain ⟨U, V, hU, hx⟩ : ∃ U V, A = U ++ V ∧ lastT m s P = lastT m s U := ⟨P, C, hU1, rfl⟩
        rw [hx] at hc
        clear hU1 hx h8
        have hs0 := (hL.node (node_any m hU) hm8).1
        rw [HK.out m U V hU] at hs0
        have HU := Lib.hid hU
        clear hU
        go_wp2
        go_loopg [5, 7] V.length (fun g2 lv nv wq => ∃ U' V' : List Tw, V'.length = g2 ∧ A = U' ++ V' ∧ lv = .pointer (some ⟨lastT m s U', 0, none⟩) ∧ nv = np (nxt m (V' ++ D)) ∧ wq = wr)
        case atStart => exact ⟨U, V, rfl, HU.out, rfl, rfl, rfl⟩
        case round =>
          obtain ⟨U', V', hV', hU', rfl, rfl, rfl⟩ := hrel
          have hst := on_step m s U' V' D
          have HU' := Lib.hid hU'
          have HV' := Lib.hid hV'
          clear hU' hV' hs0
          rcases hst with ⟨hx, hl⟩ | ⟨⟨yb, yv, yh⟩, hy, hx, hl⟩ | ⟨C', ⟨yb, yv, yh⟩, V2, e, hk, hx, hl⟩
          · rw [hx, np_none]
            rw [← HU'.out] at hl
            have HL := Lib.hid hl
            clear hx hl
            go_wp2
            have hl := HL.out
            go_roundg m
            case measure => omega
            case rel =>
              refine ⟨(m : Int) - 1, by omega, rfl, by go_num, .inr ⟨by omega, by rw [hl]⟩, ?_, h2.far (by simp) _, hb.setCell (by simp) _⟩
              have h3 := h1.set m (np (some (lastT m s U')))
              rw [linkC_set _ hm8] at h3
              refine blk_congr h3 (linkC_congr fun j hj => ?_)
              unfold onP
              by_cases e : j = m
              · subst e; simp [hl]
              · by_cases h : j < m
                · simp [h, e]; omega
                · rw [if_neg e, if_neg h, if_neg (by omega)]
          · rw [hx, np_some]
            rw [← HU'.out] at hl
            have HL := Lib.hid hl
            have hv := (hL.val (t := (yb, yv, yh)) (List.mem_append_right _ hy)).1
            have hgt : ¬ yv ≤ v := by have := HD.out _ hy; simp at this; omega
            clear hx hl hy
            go_wp2
            have hl := HL.out
            go_roundg m
            case measure => omega
            case rel =>
              refine ⟨(m : Int) - 1, by omega, rfl, by go_num, .inr ⟨by omega, by rw [hl]⟩, ?_, h2.far (by simp) _, hb.setCell (by simp) _⟩
              have h3 := h1.set m (np (some (lastT m s U')))
              rw [linkC_set _ hm8] at h3
              refine blk_congr h3 (linkC_congr fun j hj => ?_)
              unfold onP
              by_cases e : j = m
              · subst e; simp [hl]
              · by_cases h : j < m
                · simp [h, e]; omega
                · rw [if_neg e, if_neg h, if_neg (by omega)]
          · rw [hx, np_some]
            have hAe : A = (U' ++ C' ++ [(yb, yv, yh)]) ++ V2 := by rw [HU'.out, e]; simp
            have hin : (yb, yv, yh) ∈ A := by rw [hAe]; simp
            have hv := (hL.val (t := (yb, yv, yh)) (List.mem_append_left _ hin)).1
            have hle : yv ≤ v := HC.out _ hin
            have hs1 := (hL.node (node_any m hAe) hm8).1
            rw [HK.out m _ V2 hAe, hl] at hs1
            have HE := Lib.hid hAe
            have HL := Lib.hid hl
            have hlen : V2.length < gk := by rw [← HV'.out, e]; simp; omega
            simp only at hv hle
            clear hx hl hAe hin e hk
            go_wp2
            go_roundg V2.length
            case measure => omega
            case rel => exact ⟨_, V2, rfl, HE.out, by rw [HL.out], rfl, rfl⟩
      · have hn1 : Node s (A ++ D) (lastT m s P) := node_any m hU1
        have hn2 : Node s (A ++ D) (lastT (m + 1) s A) := node_last (m + 1) s A D
        have hfu := further_any hL hn1 hn2
        have HU1 := Lib.hid hU1
        clear hU1 hn1 hn2
        go_wp2_with fail
        refine hfu.mono ?_
        rintro e1 w1 ⟨he, nq, rfl⟩
        have hL := hL.drewN nq
        have h1 := h1.drewN nq
        have h2 := h2.drewN nq
        have hb := below_drewN hb nq
        rcases he with rfl | rfl
        · obtain ⟨U, V, hU, hx⟩ : ∃ U V, A = U ++ V ∧ lastT m s P = lastT m s U := ⟨P, C, HU1.out, rfl⟩
          simp only [hx] at hc ⊢
          clear hx
          have hc : (wr.drewN nq).cell? ⟨w.heap.size, m, none⟩ = some (.pointer (some ⟨lastT m s U, 0, none⟩)) := hc
          have hf : (wr.drewN nq).frozen? ⟨w.heap.size, m, none⟩ = false := hf
          have hs0 := (hL.node (node_any m hU) hm8).1
          rw [HK.out m U V hU] at hs0
          have HU := Lib.hid hU
          clear hU
          go_wp2
          go_loopg [5, 7] V.length (fun g2 lv nv wq => ∃ U' V' : List Tw, V'.length = g2 ∧ A = U' ++ V' ∧ lv = .pointer (some ⟨lastT m s U', 0, none⟩) ∧ nv = np (nxt m (V' ++ D)) ∧ wq = (wr.drewN nq))
          case atStart => exact ⟨U, V, rfl, HU.out, rfl, rfl, rfl⟩
          case round =>
            obtain ⟨U', V', hV', hU', rfl, rfl, rfl⟩ := hrel
            have hst := on_step m s U' V' D
            have HU' := Lib.hid hU'
            have HV' := Lib.hid hV'
            clear hU' hV' hs0
            rcases hst with ⟨hx, hl⟩ | ⟨⟨yb, yv, yh⟩, hy, hx, hl⟩ | ⟨C', ⟨yb, yv, yh⟩, V2, e, hk, hx, hl⟩
            · rw [hx, np_none]
              rw [← HU'.out] at hl
              have HL := Lib.hid hl
              clear hx hl
              go_wp2
              have hl := HL.out
              go_roundg m
              case measure => omega
              case rel =>
                refine ⟨(m : Int) - 1, by omega, rfl, by go_num, .inr ⟨by omega, by rw [hl]⟩, ?_, h2.far (by simp) _, hb.setCell (by simp) _⟩
                have h3 := h1.set m (np (some (lastT m s U')))
                rw [linkC_set _ hm8] at h3
                refine blk_congr h3 (linkC_congr fun j hj => ?_)
                unfold onP
                by_cases e : j = m
                · subst e; simp [hl]
                · by_cases h : j < m
                  · simp [h, e]; omega
                  · rw [if_neg e, if_neg h, if_neg (by omega)]
            · rw [hx, np_some]
              rw [← HU'.out] at hl
              have HL := Lib.hid hl
              have hv := (hL.val (t := (yb, yv, yh)) (List.mem_append_right _ hy)).1
              have hgt : ¬ yv ≤ v := by have := HD.out _ hy; simp at this; omega
              clear hx hl hy
              go_wp2
              have hl := HL.out
              go_roundg m
              case measure => omega
              case rel =>
                refine ⟨(m : Int) - 1, by omega, rfl, by go_num, .inr ⟨by omega, by rw [hl]⟩, ?_, h2.far (by simp) _, hb.setCell (by simp) _⟩
                have h3 := h1.set m (np (some (lastT m s U')))
                rw [linkC_set _ hm8] at h3
                refine blk_congr h3 (linkC_congr fun j hj => ?_)
                unfold onP
                by_cases e : j = m
                · subst e; simp [hl]
                · by_cases h : j < m
                  · simp [h, e]; omega
                  · rw [if_neg e, if_neg h, if_neg (by omega)]
            · rw [hx, np_some]
              have hAe : A = (U' ++ C' ++ [(yb, yv, yh)]) ++ V2 := by rw [HU'.out, e]; simp
              have hin : (yb, yv, yh) ∈ A := by rw [hAe]; simp
              have hv := (hL.val (t := (yb, yv, yh)) (List.mem_append_left _ hin)).1
              have hle : yv ≤ v := HC.out _ hin
              have hs1 := (hL.node (node_any m hAe) hm8).1
              rw [HK.out m _ V2 hAe, hl] at hs1
              have HE := Lib.hid hAe
              have HL := Lib.hid hl
              have hlen : V2.length < gk := by rw [← HV'.out, e]; simp; omega
              simp only at hv hle
              clear hx hl hAe hin e hk
              go_wp2
              go_roundg V2.length
              case measure => omega
              case rel => exact ⟨_, V2, rfl, HE.out, by rw [HL.out], rfl, rfl⟩
        · obtain ⟨U, V, hU, hx⟩ := on_begin (k := m) (s := s) (A := A)
          simp only [hx]
          clear hx
          have hf : (wr.drewN nq).frozen? ⟨w.heap.size, m, none⟩ = false := hf
          have hs0 := (hL.node (node_any m hU) hm8).1
          rw [HK.out m U V hU] at hs0
          have HU := Lib.hid hU
          clear hU
          go_wp2
          go_loopg [5, 7] V.length (fun g2 lv nv wq => ∃ U' V' : List Tw, V'.length = g2 ∧ A = U' ++ V' ∧ lv = .pointer (some ⟨lastT m s U', 0, none⟩) ∧ nv = np (nxt m (V' ++ D)) ∧ wq = (wr.drewN nq))
          case atStart => exact ⟨U, V, rfl, HU.out, rfl, rfl, rfl⟩
          case round =>
            obtain ⟨U', V', hV', hU', rfl, rfl, rfl⟩ := hrel
            have hst := on_step m s U' V' D
            have HU' := Lib.hid hU'
            have HV' := Lib.hid hV'
            clear hU' hV' hs0
            rcases hst with ⟨hx, hl⟩ | ⟨⟨yb, yv, yh⟩, hy, hx, hl⟩ | ⟨C', ⟨yb, yv, yh⟩, V2, e, hk, hx, hl⟩
            · rw [hx, np_none]
              rw [← HU'.out] at hl
              have HL := Lib.hid hl
              clear hx hl
              go_wp2
              have hl := HL.out
              go_roundg m
              case measure => omega
              case rel =>
                refine ⟨(m : Int) - 1, by omega, rfl, by go_num, .inr ⟨by omega, by rw [hl]⟩, ?_, h2.far (by simp) _, hb.setCell (by simp) _⟩
                have h3 := h1.set m (np (some (lastT m s U')))
                rw [linkC_set _ hm8] at h3
                refine blk_congr h3 (linkC_congr fun j hj => ?_)
                unfold onP
                by_cases e : j = m
                · subst e; simp [hl]
                · by_cases h : j < m
                  · simp [h, e]; omega
                  · rw [if_neg e, if_neg h, if_neg (by omega)]
            · rw [hx, np_some]
              rw [← HU'.out] at hl
              have HL := Lib.hid hl
              have hv := (hL.val (t := (yb, yv, yh)) (List.mem_append_right _ hy)).1
              have hgt : ¬ yv ≤ v := by have := HD.out _ hy; simp at this; omega
              clear hx hl hy
              go_wp2
              have hl := HL.out
              go_roundg m
              case measure => omega
              case rel =>
                refine ⟨(m : Int) - 1, by omega, rfl, by go_num, .inr ⟨by omega, by rw [hl]⟩, ?_, h2.far (by simp) _, hb.setCell (by simp) _⟩
                have h3 := h1.set m (np (some (lastT m s U')))
                rw [linkC_set _ hm8] at h3
                refine blk_congr h3 (linkC_congr fun j hj => ?_)
                unfold onP
                by_cases e : j = m
                · subst e; simp [hl]
                · by_cases h : j < m
                  · simp [h, e]; omega
                  · rw [if_neg e, if_neg h, if_neg (by omega)]
            · rw [hx, np_some]
              have hAe : A = (U' ++ C' ++ [(yb, yv, yh)]) ++ V2 := by rw [HU'.out, e]; simp
              have hin : (yb, yv, yh) ∈ A := by rw [hAe]; simp
              have hv := (hL.val (t := (yb, yv, yh)) (List.mem_append_left _ hin)).1
              have hle : yv ≤ v := HC.out _ hin
              have hs1 := (hL.node (node_any m hAe) hm8).1
              rw [HK.out m _ V2 hAe, hl] at hs1
              have HE := Lib.hid hAe
              have HL := Lib.hid hl
              have hlen : V2.length < gk := by rw [← HV'.out, e]; simp; omega
              simp only at hv hle
              clear hx hl hAe hin e hk
              go_wp2
              go_roundg V2.length
              case measure => omega
              case rel => exact ⟨_, V2, rfl, HE.out, by rw [HL.out], rfl, rfl⟩
end Go.Proofs.Ytpelpbnmjciheaa
