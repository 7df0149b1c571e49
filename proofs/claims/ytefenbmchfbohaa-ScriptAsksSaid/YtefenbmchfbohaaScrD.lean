/-
  What bytes say: the walk of Decode.
-/
import Derived.Test.YtefenbmchfbohaaScrC
namespace Go.Proofs.Ytefenbmchfbohaa
open Go.RowKit Go.Rp Go.Shelf

attribute [local go_sem] Oper.semAt_some

theorem stepIn_append_own {F : Fence} {n : Nat} {P : Program} {w : World} {ops : Array Oper} {o : Oper} {a : Act} {K : Act → World → Prop} {Q : Exit → Act → World → Prop} {E : Prop}
    (hg : o.guard = none) (s x : Operand) (t : TypeId) (hop : o.op = Op.call { callee := Callee.builtin Builtin.append, args := #[s, x], argTypes := #[t, t] })
    (base : Nat) (e : TypeId) (i : TypeInfo) (z : Value) (size bytes : Nat) (h1 : P.underlying t = some (.slice e)) (h2 : P.info? e = some i) (h3 : i.zero = some z) (h4 : i.size = size) (h5 : i.bytes = bytes) (h6 : z.cells.size = size) (h7 : 0 < size)
    (v : Value) (k : Nat) (xs : List Value) (hs : a.eval s = v) (hown : w.ownsRow base e size v k xs) (ad : Addr) (m c : Nat) (news : List Value) (hx : a.eval x = .slice (some ad) m c) (hn : news.length = m * size)
    (hc : ∀ j u, news[j]? = some u → w.cell? (ad.add j) = some u) (h1c : ∀ u ∈ news, u.oneCell' = true) (b1 : k + m ≤ maxLen) (b2 : (k + m) * bytes ≤ 140737488355328) (b3 : base ≤ w.heap.size)
    (hK : ∀ v' w', w'.ownsRow base e size v' (k + m) (xs ++ news) → w.grownBy w' v.ownBlock → (v' = .slice none 0 0 ↔ v = .slice none 0 0 ∧ m = 0) → K (a.put o.dst v') w') :
    if Region.wanted o (yielded ops a.tmps) = true then Oper.wpIn F n P o a w K Q else E := by
  have hw : Region.wanted o (yielded ops a.tmps) = true := by simp [Region.wanted, hg]
  rw [if_pos hw]
  obtain ⟨v', w', hrun, r1, r2, r3⟩ := run_append_own (P := P) w base t o.type e i z size bytes h1 h2 h3 h4 h5 h6 h7 v k xs hown ad m c news hn hc h1c b1 b2 b3
  unfold Oper.wpIn
  refine ⟨?_, ?_⟩
  · simp [Oper.about, hop, resolve, Target.leads, Sem.run_pure]
  · rw [Oper.semAt_plain F _ _ (by rw [hop]; intro c hc'; cases hc')]
    simp [execOp, hop, resolve, invoke, builtin, hs, hx, hrun, Result.andThen]
    exact hK v' w' r1 r2 r3
theorem ownsRow_below {W W' : World} {base : Nat} {e : TypeId} {size k : Nat} {v : Value} {xs : List Value} (h : W.ownsRow base e size v k xs) (hb : Below W.heap.size W W') : W'.ownsRow base e size v k xs := by
  refine h.kept (grown_below hb) ?_
  rcases h.2 with ⟨rfl, _⟩ | ⟨g, cap, cur, rfl, _⟩
  · exact .inl rfl
  · exact .inr (by simp [Value.ownBlock])
theorem ent1_one (e : Ent) : ∀ v ∈ entIn e, v.oneCell' = true := by
  intro v he
  simp only [entIn, List.mem_cons, List.not_mem_nil, or_false] at he
  rcases he with rfl | rfl | rfl | rfl | rfl <;> rfl

set_option maxRecDepth 100000 in
set_option maxHeartbeats 4000000 in
theorem decode_any (w : World) (A : Option Addr) (n c : Nat) (R : Nat → Prop) (bs : List Int) (hbl : bs.length = n) (hnc : n ≤ c) (hr : Rd w R 1 A n (bs.map fun x => Value.int .u8 x)) (hn : n ≤ 100000) (hby : Byt bs) :
    Calls Try.prog 9 #[.slice A n c] w (NewSl w 30 5 (decL bs).length ((decL bs).flatMap entIn)) := by
  obtain ⟨i0, hi0, hz0, hz1, hz2⟩ := info_parts info_ent
  obtain ⟨b, off, hA, hcells⟩ : ∃ b off, (0 < n → A = some ⟨b, off, none⟩) ∧ ∀ j u, (bs.map fun x => Value.int .u8 x)[j]? = some u → w.cell? ⟨b, off + j, none⟩ = some u := by
    rcases Nat.eq_zero_or_pos n with h0 | h0
    · exact ⟨0, 0, fun h => by omega, fun j u hu => by rw [List.getElem?_eq_none (by simp; omega)] at hu; cases hu⟩
    · obtain ⟨b, off, rfl, _, hx⟩ := hr.at h0
      exact ⟨b, off, fun _ => rfl, hx⟩
  have hcell4 : ∀ k, 4 * k + 4 ≤ bs.length → ∀ W, Below w.heap.size w W → ∀ j, j < 4 → W.cell? ⟨b, off + (4 * k + j), none⟩ = some (.int .u8 (bAt bs (4 * k + j))) ∧ b < W.heap.size := fun k hk W hB j hj => by
    have h1 := hcells (4 * k + j) (.int .u8 (bAt bs (4 * k + j))) (by
      have hlt : 4 * k + j < bs.length := by omega
      unfold bAt
      rw [List.getElem?_map, List.getElem?_eq_getElem hlt]
      rfl)
    have hlt := World.block_lt_of_cell? w _ h1
    exact ⟨(hB.cell hlt).trans h1, Nat.lt_of_lt_of_le hlt hB.size⟩
  clear hcells hr
  refine (callsIn_wide (n := 3)).1 (callsIn_of_wp_marks Try.func9 rfl trivial ?_ rfl)
  simp only [Try.ntmps9, List.size_toArray, List.length_cons, List.length_nil, Nat.reduceAdd, Nat.reduceSub, Array.replicate_succ, Array.replicate_zero, List.push_toArray, List.append_toArray, List.nil_append, List.cons_append]
  gi_wp2_with (refine ⟨trivial, ?_⟩; gi_at_call 21; refine (chunk_in _ _ _ _ _).mono ?_; rintro e w' ⟨rfl, rfl⟩)
  have bO := Boxed.new w 22 (.slice none 0 0)
  have bS := Boxed.new (w.alloc (.cells #[.slice none 0 0] 22)) 24 (.slice A n c)
  have bN := Boxed.new ((w.alloc (.cells #[.slice none 0 0] 22)).alloc (.cells #[.slice A n c] 24)) 3 (.int .i64 4)
  rw [World.size_alloc] at bS bN
  rw [World.size_alloc] at bN
  have bO0 := (bO.alloc (.cells #[.slice A n c] 24)).alloc (.cells #[.int .i64 4] 3)
  have bS0 := bS.alloc (.cells #[.int .i64 4] 3)
  have hB0 : Below w.heap.size w (((w.alloc (.cells #[.slice none 0 0] 22)).alloc (.cells #[.slice A n c] 24)).alloc (.cells #[.int .i64 4] 3)) := (((Below.refl _ w).alloc (Nat.le_refl _) _).alloc (by simp) _).alloc (by simp; omega) _
  obtain ⟨W0, hW0⟩ : ∃ W0, (((w.alloc (.cells #[.slice none 0 0] 22)).alloc (.cells #[.slice A n c] 24)).alloc (.cells #[.int .i64 4] 3)) = W0 := ⟨_, rfl⟩
  have hsz : W0.heap.size = w.heap.size + 3 := by rw [← hW0]; simp
  have hrow0 : W0.ownsRow w.heap.size 30 5 (.slice none 0 0) 0 [] := ⟨rfl, .inl ⟨rfl, rfl⟩⟩
  rw [hW0] at bN hB0 bO0 bS0 ⊢
  clear hW0 bO bS
  refine wpIn_rangeFunc_ownG rfl (by omega) (gf := 25) (lb := #[.pointer (some ⟨w.heap.size + 1, 0, none⟩), .pointer (some ⟨w.heap.size + 1 + 1, 0, none⟩)]) rfl trivial (enters_of Try.func25 (by kernel_rfl) rfl)
    (chunk_stops 2 (by omega) (w.heap.size + 1) (w.heap.size + 1 + 1) w.heap.size b off n c A hA hnc hn W0 (by omega) bS0 bN) KeepsC.t (KeepsC.b (by omega)) (Below.refl _ _) (fun _ => rfl)
    (fun pre W => ((∃ v, Boxed W w.heap.size 22 v ∧ W.ownsRow w.heap.size 30 5 v (saidE bs pre).length ((saidE bs pre).flatMap entIn) ∧ True) ∧ Boxed W (w.heap.size + 1) 24 (.slice A n c) ∧ Boxed W (w.heap.size + 1 + 1) 3 (.int .i64 4)) ∧ Below w.heap.size w W)
    (fun _ _ _ => False)
    (OwnFrom.and (Own.from (fun s A' B row hs hg hr => ⟨holdsRow_own w.heap.size w.heap.size 22 30 5 (fun pre : List Nat => (saidE bs pre).length) (fun pre => (saidE bs pre).flatMap entIn) (fun _ _ => True) s A' B row hs.1 hg hr, boxed_own _ _ (fun _ : List Nat => .slice A n c) s A' B row hs.2.1 hg hr, boxed_own _ _ (fun _ : List Nat => .int .i64 4) s A' B row hs.2.2 hg hr⟩) _) (ownFrom_below (Nat.le_refl _) (by omega)))
    (fun _ _ _ _ _ hs _ _ => hs)
    ⟨⟨⟨_, bO0, hrow0, trivial⟩, bS0, bN⟩, hB0⟩
    (fun k => { tmps := #[.slice A n c, undef, .slice none 0 0, .pointer (some ⟨w.heap.size, 0, none⟩), .slice (some ⟨b, off + 4 * k, none⟩) (Nat.min 4 (n - 4 * k)) (Nat.min 4 (n - 4 * k)), .slice A n c, .func (.func 25) #[] #[.pointer (some ⟨w.heap.size + 1, 0, none⟩), .pointer (some ⟨w.heap.size + 1 + 1, 0, none⟩)], .slice (some ⟨b, off + 4 * k, none⟩) (Nat.min 4 (n - 4 * k)) (Nat.min 4 (n - 4 * k)), undef, undef, undef, undef, undef, undef, undef, undef, undef], defers := [] }) ?assign ?body ?done ?stop
  case assign =>
    intro l x W K hK
    gi_wp2
    exact hK
  case body =>
    rintro l pre k W ⟨⟨⟨v, hv, hrow, _⟩, hbs, hbn⟩, hB⟩ hlt
    have hc := hv.cell
    have hple := saidE_le bs pre
    obtain ⟨pn, hpn⟩ : ∃ pn, (saidE bs pre).length = pn := ⟨_, rfl⟩
    rw [hpn] at hrow hple
    have HPN := Lib.hid hpn
    clear hpn
    obtain ⟨e4, he4⟩ : ∃ e4, Nat.min 4 (n - 4 * k) = e4 := ⟨_, rfl⟩
    rw [he4]
    by_cases hfull : 4 * k + 4 ≤ bs.length
    · obtain rfl : e4 = 4 := by rw [← he4]; exact Nat.min_eq_left (by omega)
      have hBd : Below w.heap.size w W.drew := hB.drew
      have bD0 : w.heap.size ≤ W.drew.heap.size := hB.size
      obtain ⟨E, hE⟩ : ∃ E, chunkE bs k = E := ⟨_, rfl⟩
      have hent := entry_raw W.drew b (off + 4 * k) 4 _ _ _ _ (by have := (hcell4 k hfull _ hBd 0 (by omega)).1; exact this) (by have := (hcell4 k hfull _ hBd 1 (by omega)).1; rw [← Nat.add_assoc] at this; exact this) (by have := (hcell4 k hfull _ hBd 2 (by omega)).1; rw [← Nat.add_assoc] at this; exact this) (by have := (hcell4 k hfull _ hBd 3 (by omega)).1; rw [← Nat.add_assoc] at this; exact this) (hcell4 k hfull _ hBd 0 (by omega)).2 (hby.at _) (hby.at _)
      rw [show entryOf (bAt bs (4 * k + 0)) (bAt bs (4 * k + 1)) (bAt bs (4 * k + 2)) (bAt bs (4 * k + 3)) = E from hE] at hent
      have hEc := Lib.hid hE
      have hv0 : Boxed W.drew w.heap.size 22 v := hv
      have hrow0 : W.drew.ownsRow w.heap.size 30 5 v pn ((saidE bs pre).flatMap entIn) := hrow
      have HF := Lib.hid hfull
      clear hcell4 hE he4 hfull
      gi_wp2
      refine wpIn_region_any (by kernel_rfl) ?_
      change wpAnyIn _ _ _ _ _ _ _ _ _ (World.drew _)
      refine wpAnyIn_ready (rs := [0, 1]) (by kernel_rfl) (by simp) ?_
      refine AllReadyIn.cons rfl (fun K hK => ?_) (AllReadyIn.cons rfl (fun K hK => ?_) AllReadyIn.nil)
      · skip
        go_simp
        refine hK _ _ ?_
        clear hK K
        refine wpAnyIn_ready (rs := [1]) (by kernel_rfl) (by simp) ?_
        refine AllReadyIn.cons rfl (fun K hK => ?_) AllReadyIn.nil
        go_simp
        refine hK _ _ ?_
        clear hK K
        refine wpAnyIn_ready (rs := [2]) (by kernel_rfl) (by simp) ?_
        refine AllReadyIn.cons rfl (fun K hK => ?_) AllReadyIn.nil
        go_simp
        refine ⟨trivial, (CallsIn.inRound l (callsIn_wide.2 hent)).mono ?_⟩
        rintro e w5 ⟨rfl, b5⟩
        have hv5 := hv0.kept (grown_below b5) (by simp)
        have hrow5 := ownsRow_below hrow0 b5
        have hcl := hv5.cell
        have hcl2 := fun o => (hv5.alloc o).cell
        refine hK _ _ ?_
        clear hK K
        refine wpAnyIn_ready (rs := [3]) (by kernel_rfl) (by simp) ?_
        refine AllReadyIn.cons rfl (fun K hK => ?_) AllReadyIn.nil
        go_simp
        refine hK _ _ ?_
        clear hK K
        refine wpAnyIn_ready (rs := [4]) (by kernel_rfl) (by simp) ?_
        refine AllReadyIn.cons rfl (fun K hK => ?_) AllReadyIn.nil
        refine stepIn_append_own rfl _ _ 22 rfl w.heap.size 30 i0 _ 5 32 Try.underlying22 hi0 hz0 hz1 hz2 rfl (by decide) v _ _ rfl (hrow5.alloc _) ⟨w5.heap.size, 0, none⟩ 1 1 (entIn E) rfl (by simp [entIn]) (fun j u hu => cells_lit w5 30 _ j u hu) (ent1_one E) (by simp only [maxLen]; omega) (by omega) (by have := b5.size; have := hB.size; simp at this ⊢; omega) ?_
        intro v' w1 hown' hgrow _
        obtain ⟨g', cap', rfl⟩ := ownsRow_succ hown'
        obtain ⟨hv1, hv2, hr2, hk2, hb2⟩ := hv5.appended (by decide) hrow5 (by have := b5.size; have := hB.size; simp at *; omega) (Nat.le_refl _) hown' hgrow
        have hc1 := hv1.cell
        have hf1 := hv1.frozen
        refine hK _ _ ?_
        clear hK K
        refine wpAnyIn_ready (rs := [5]) (by kernel_rfl) (by simp) ?_
        refine AllReadyIn.cons rfl (fun K hK => ?_) AllReadyIn.nil
        go_simp
        refine hK _ _ ?_
        clear hK K
        refine wpAnyIn_done (by kernel_rfl) ?_ _
        have hk : ∀ (Bx : Nat) (tx : TypeId) (u : Value), tx ≠ 30 → w.heap.size ≠ Bx → Boxed W Bx tx u → Boxed (w1.setCell ⟨w.heap.size, 0, none⟩ (.slice (some ⟨g', 0, none⟩) (pn + 1) cap')) Bx tx u := fun Bx tx u h1 h2 hu => by
          have hu0 : Boxed W.drew Bx tx u := hu
          have hu5 := hu0.kept (grown_below b5) (by simp)
          exact ((hu5.alloc _).kept hgrow (hu5.not_row h1 hrow5)).other (fun e => h2 e.symm) _
        have hbb : Below w.heap.size W (w1.setCell ⟨w.heap.size, 0, none⟩ (.slice (some ⟨g', 0, none⟩) (pn + 1) cap')) := ((Below.refl _ W).drew.trans (b5.mono bD0)).trans hb2
        refine ⟨((KeepsOthers.drew W).trans ((keepsOthers_below b5).trans hk2)).from _, ⟨hbb, fun u hu => hk _ _ u (by decide) (by omega) hu, fun u hu => hk _ _ u (by decide) (by omega) hu⟩, ⟨⟨_, hv2, ?_, trivial⟩, hk _ _ _ (by decide) (by omega) hbs, hk _ _ _ (by decide) (by omega) hbn⟩, hB.trans hbb⟩
        rw [saidE_yes _ _ _ HF.out, List.length_append, List.flatMap_append, HPN.out, hEc.out]
        simpa using hr2
      · skip
        go_simp
        refine hK _ _ ?_
        clear hK K
        refine wpAnyIn_ready (rs := [0, 2]) (by kernel_rfl) (by simp) ?_
        refine AllReadyIn.cons rfl (fun K hK => ?_) (AllReadyIn.cons rfl (fun K hK => ?_) AllReadyIn.nil)
        · skip
          go_simp
          refine hK _ _ ?_
          clear hK K
          refine wpAnyIn_ready (rs := [2]) (by kernel_rfl) (by simp) ?_
          refine AllReadyIn.cons rfl (fun K hK => ?_) AllReadyIn.nil
          go_simp
          refine ⟨trivial, (CallsIn.inRound l (callsIn_wide.2 hent)).mono ?_⟩
          rintro e w5 ⟨rfl, b5⟩
          have hv5 := hv0.kept (grown_below b5) (by simp)
          have hrow5 := ownsRow_below hrow0 b5
          have hcl := hv5.cell
          have hcl2 := fun o => (hv5.alloc o).cell
          refine hK _ _ ?_
          clear hK K
          refine wpAnyIn_ready (rs := [3]) (by kernel_rfl) (by simp) ?_
          refine AllReadyIn.cons rfl (fun K hK => ?_) AllReadyIn.nil
          go_simp
          refine hK _ _ ?_
          clear hK K
          refine wpAnyIn_ready (rs := [4]) (by kernel_rfl) (by simp) ?_
          refine AllReadyIn.cons rfl (fun K hK => ?_) AllReadyIn.nil
          refine stepIn_append_own rfl _ _ 22 rfl w.heap.size 30 i0 _ 5 32 Try.underlying22 hi0 hz0 hz1 hz2 rfl (by decide) v _ _ rfl (hrow5.alloc _) ⟨w5.heap.size, 0, none⟩ 1 1 (entIn E) rfl (by simp [entIn]) (fun j u hu => cells_lit w5 30 _ j u hu) (ent1_one E) (by simp only [maxLen]; omega) (by omega) (by have := b5.size; have := hB.size; simp at this ⊢; omega) ?_
          intro v' w1 hown' hgrow _
          obtain ⟨g', cap', rfl⟩ := ownsRow_succ hown'
          obtain ⟨hv1, hv2, hr2, hk2, hb2⟩ := hv5.appended (by decide) hrow5 (by have := b5.size; have := hB.size; simp at *; omega) (Nat.le_refl _) hown' hgrow
          have hc1 := hv1.cell
          have hf1 := hv1.frozen
          refine hK _ _ ?_
          clear hK K
          refine wpAnyIn_ready (rs := [5]) (by kernel_rfl) (by simp) ?_
          refine AllReadyIn.cons rfl (fun K hK => ?_) AllReadyIn.nil
          go_simp
          refine hK _ _ ?_
          clear hK K
          refine wpAnyIn_done (by kernel_rfl) ?_ _
          have hk : ∀ (Bx : Nat) (tx : TypeId) (u : Value), tx ≠ 30 → w.heap.size ≠ Bx → Boxed W Bx tx u → Boxed (w1.setCell ⟨w.heap.size, 0, none⟩ (.slice (some ⟨g', 0, none⟩) (pn + 1) cap')) Bx tx u := fun Bx tx u h1 h2 hu => by
            have hu0 : Boxed W.drew Bx tx u := hu
            have hu5 := hu0.kept (grown_below b5) (by simp)
            exact ((hu5.alloc _).kept hgrow (hu5.not_row h1 hrow5)).other (fun e => h2 e.symm) _
          have hbb : Below w.heap.size W (w1.setCell ⟨w.heap.size, 0, none⟩ (.slice (some ⟨g', 0, none⟩) (pn + 1) cap')) := ((Below.refl _ W).drew.trans (b5.mono bD0)).trans hb2
          refine ⟨((KeepsOthers.drew W).trans ((keepsOthers_below b5).trans hk2)).from _, ⟨hbb, fun u hu => hk _ _ u (by decide) (by omega) hu, fun u hu => hk _ _ u (by decide) (by omega) hu⟩, ⟨⟨_, hv2, ?_, trivial⟩, hk _ _ _ (by decide) (by omega) hbs, hk _ _ _ (by decide) (by omega) hbn⟩, hB.trans hbb⟩
          rw [saidE_yes _ _ _ HF.out, List.length_append, List.flatMap_append, HPN.out, hEc.out]
          simpa using hr2
        · skip
          go_simp
          refine ⟨trivial, (CallsIn.inRound l (callsIn_wide.2 hent)).mono ?_⟩
          rintro e w5 ⟨rfl, b5⟩
          have hv5 := hv0.kept (grown_below b5) (by simp)
          have hrow5 := ownsRow_below hrow0 b5
          have hcl := hv5.cell
          have hcl2 := fun o => (hv5.alloc o).cell
          refine hK _ _ ?_
          clear hK K
          refine wpAnyIn_ready (rs := [0, 3]) (by kernel_rfl) (by simp) ?_
          refine AllReadyIn.cons rfl (fun K hK => ?_) (AllReadyIn.cons rfl (fun K hK => ?_) AllReadyIn.nil)
          · skip
            go_simp
            refine hK _ _ ?_
            clear hK K
            refine wpAnyIn_ready (rs := [3]) (by kernel_rfl) (by simp) ?_
            refine AllReadyIn.cons rfl (fun K hK => ?_) AllReadyIn.nil
            go_simp
            refine hK _ _ ?_
            clear hK K
            refine wpAnyIn_ready (rs := [4]) (by kernel_rfl) (by simp) ?_
            refine AllReadyIn.cons rfl (fun K hK => ?_) AllReadyIn.nil
            refine stepIn_append_own rfl _ _ 22 rfl w.heap.size 30 i0 _ 5 32 Try.underlying22 hi0 hz0 hz1 hz2 rfl (by decide) v _ _ rfl (hrow5.alloc _) ⟨w5.heap.size, 0, none⟩ 1 1 (entIn E) rfl (by simp [entIn]) (fun j u hu => cells_lit w5 30 _ j u hu) (ent1_one E) (by simp only [maxLen]; omega) (by omega) (by have := b5.size; have := hB.size; simp at this ⊢; omega) ?_
            intro v' w1 hown' hgrow _
            obtain ⟨g', cap', rfl⟩ := ownsRow_succ hown'
            obtain ⟨hv1, hv2, hr2, hk2, hb2⟩ := hv5.appended (by decide) hrow5 (by have := b5.size; have := hB.size; simp at *; omega) (Nat.le_refl _) hown' hgrow
            have hc1 := hv1.cell
            have hf1 := hv1.frozen
            refine hK _ _ ?_
            clear hK K
            refine wpAnyIn_ready (rs := [5]) (by kernel_rfl) (by simp) ?_
            refine AllReadyIn.cons rfl (fun K hK => ?_) AllReadyIn.nil
            go_simp
            refine hK _ _ ?_
            clear hK K
            refine wpAnyIn_done (by kernel_rfl) ?_ _
            have hk : ∀ (Bx : Nat) (tx : TypeId) (u : Value), tx ≠ 30 → w.heap.size ≠ Bx → Boxed W Bx tx u → Boxed (w1.setCell ⟨w.heap.size, 0, none⟩ (.slice (some ⟨g', 0, none⟩) (pn + 1) cap')) Bx tx u := fun Bx tx u h1 h2 hu => by
              have hu0 : Boxed W.drew Bx tx u := hu
              have hu5 := hu0.kept (grown_below b5) (by simp)
              exact ((hu5.alloc _).kept hgrow (hu5.not_row h1 hrow5)).other (fun e => h2 e.symm) _
            have hbb : Below w.heap.size W (w1.setCell ⟨w.heap.size, 0, none⟩ (.slice (some ⟨g', 0, none⟩) (pn + 1) cap')) := ((Below.refl _ W).drew.trans (b5.mono bD0)).trans hb2
            refine ⟨((KeepsOthers.drew W).trans ((keepsOthers_below b5).trans hk2)).from _, ⟨hbb, fun u hu => hk _ _ u (by decide) (by omega) hu, fun u hu => hk _ _ u (by decide) (by omega) hu⟩, ⟨⟨_, hv2, ?_, trivial⟩, hk _ _ _ (by decide) (by omega) hbs, hk _ _ _ (by decide) (by omega) hbn⟩, hB.trans hbb⟩
            rw [saidE_yes _ _ _ HF.out, List.length_append, List.flatMap_append, HPN.out, hEc.out]
            simpa using hr2
          · skip
            go_simp
            refine hK _ _ ?_
            clear hK K
            refine wpAnyIn_ready (rs := [0]) (by kernel_rfl) (by simp) ?_
            refine AllReadyIn.cons rfl (fun K hK => ?_) AllReadyIn.nil
            go_simp
            refine hK _ _ ?_
            clear hK K
            refine wpAnyIn_ready (rs := [4]) (by kernel_rfl) (by simp) ?_
            refine AllReadyIn.cons rfl (fun K hK => ?_) AllReadyIn.nil
            refine stepIn_append_own rfl _ _ 22 rfl w.heap.size 30 i0 _ 5 32 Try.underlying22 hi0 hz0 hz1 hz2 rfl (by decide) v _ _ rfl (hrow5.alloc _) ⟨w5.heap.size, 0, none⟩ 1 1 (entIn E) rfl (by simp [entIn]) (fun j u hu => cells_lit w5 30 _ j u hu) (ent1_one E) (by simp only [maxLen]; omega) (by omega) (by have := b5.size; have := hB.size; simp at this ⊢; omega) ?_
            intro v' w1 hown' hgrow _
            obtain ⟨g', cap', rfl⟩ := ownsRow_succ hown'
            obtain ⟨hv1, hv2, hr2, hk2, hb2⟩ := hv5.appended (by decide) hrow5 (by have := b5.size; have := hB.size; simp at *; omega) (Nat.le_refl _) hown' hgrow
            have hc1 := hv1.cell
            have hf1 := hv1.frozen
            refine hK _ _ ?_
            clear hK K
            refine wpAnyIn_ready (rs := [5]) (by kernel_rfl) (by simp) ?_
            refine AllReadyIn.cons rfl (fun K hK => ?_) AllReadyIn.nil
            go_simp
            refine hK _ _ ?_
            clear hK K
            refine wpAnyIn_done (by kernel_rfl) ?_ _
            have hk : ∀ (Bx : Nat) (tx : TypeId) (u : Value), tx ≠ 30 → w.heap.size ≠ Bx → Boxed W Bx tx u → Boxed (w1.setCell ⟨w.heap.size, 0, none⟩ (.slice (some ⟨g', 0, none⟩) (pn + 1) cap')) Bx tx u := fun Bx tx u h1 h2 hu => by
              have hu0 : Boxed W.drew Bx tx u := hu
              have hu5 := hu0.kept (grown_below b5) (by simp)
              exact ((hu5.alloc _).kept hgrow (hu5.not_row h1 hrow5)).other (fun e => h2 e.symm) _
            have hbb : Below w.heap.size W (w1.setCell ⟨w.heap.size, 0, none⟩ (.slice (some ⟨g', 0, none⟩) (pn + 1) cap')) := ((Below.refl _ W).drew.trans (b5.mono bD0)).trans hb2
            refine ⟨((KeepsOthers.drew W).trans ((keepsOthers_below b5).trans hk2)).from _, ⟨hbb, fun u hu => hk _ _ u (by decide) (by omega) hu, fun u hu => hk _ _ u (by decide) (by omega) hu⟩, ⟨⟨_, hv2, ?_, trivial⟩, hk _ _ _ (by decide) (by omega) hbs, hk _ _ _ (by decide) (by omega) hbn⟩, hB.trans hbb⟩
            rw [saidE_yes _ _ _ HF.out, List.length_append, List.flatMap_append, HPN.out, hEc.out]
            simpa using hr2
    · have hne : ¬ e4 = 4 := by
        rw [← he4, show Nat.min 4 (n - 4 * k) = min 4 (n - 4 * k) from rfl, Nat.min_def]
        split <;> omega
      have hne2 : ((e4 : Int) == 4) = false := by simp; omega
      have HF := Lib.hid hfull
      clear hcell4 he4 hfull hne
      gi_wp2
      exact ⟨(KeepsOthers.refl W).from _, ⟨Below.refl _ W, fun _ h => h, fun _ h => h⟩, ⟨⟨_, hv, by rw [saidE_no _ _ _ HF.out, HPN.out]; exact hrow, trivial⟩, hbs, hbn⟩, hB⟩
  case done =>
    rintro D ys W hD rfl ⟨⟨⟨v, hv, hrow, _⟩, _⟩, hB⟩ hK
    rw [← hbl, saidE_all] at hrow
    have hc := hv.cell
    gi_wp2
    refine ⟨by simp, .inl ⟨_, _, rfl, run_takeDeferred hK, ?_⟩⟩
    obtain ⟨A, c, rfl, hs⟩ := Sl.of_owns (ownsRow_putObj hrow (.deferred none) hK rfl)
    exact ⟨_, results_tmp rfl _ _ _, A, c, rfl, hs, hB.trans (belowK_b (w := w) (Nat.le_refl _) W D _ _ (by omega) hK rfl rfl)⟩
  case stop =>
    rintro D c pre W _ _ h _
    exact h.elim
end Go.Proofs.Ytefenbmchfbohaa
