/-
  Lists that skip: the values of a level; all of them.
-/
import Derived.Test.YtpelpbnmjciheaaSkipG
namespace Go.Proofs.Ytpelpbnmjciheaa
open Go.RowKit Go.Rp Go.Shelf

attribute [local go_sem] Oper.semAt_some

/-- What a slice owns in new memory it has as its own. -/
theorem Sl.of_owns {w w' : World} {e sz n : Nat} {v : Value} {xs : List Value} (h : w'.ownsRow w.heap.size e sz v n xs) : ∃ A c, v = .slice A n c ∧ Sl w' e sz A n c xs (fun b => w.heap.size ≤ b ∧ b < w'.heap.size) := by
  obtain ⟨hl, ⟨rfl, rfl⟩ | ⟨g, cap, cur, rfl, hg, hb, hn, hc, hz, hx⟩⟩ := h
  · have : xs = [] := List.eq_nil_of_length_eq_zero (by simpa using hl)
    subst this
    exact ⟨none, 0, rfl, Sl.nil _ _ _ _⟩
  · have hb' : Blk w' g e cur := hb
    refine ⟨_, cap, rfl, ?_⟩
    have := Sl.of_blk hb' (S := fun b => w.heap.size ≤ b ∧ b < w'.heap.size) ⟨hg, hb'.lt⟩ n cap hn hc hz
    rwa [hx] at this
theorem cells_lit (W : World) (t : TypeId) (cs : Array Value) (j : Nat) (u : Value) (h : cs.toList[j]? = some u) : (W.alloc (.cells cs t)).cell? ((⟨W.heap.size, 0, none⟩ : Addr).add j) = some u := by
  have h2 : (⟨W.heap.size, 0, none⟩ : Addr).add j = ⟨W.heap.size, j, none⟩ := by unfold Addr.add; split <;> simp_all
  rw [h2, (Blk.new W t cs).cell j]
  simpa using h
theorem keepsOthers_below {W W' : World} (h : Below W.heap.size W W') : KeepsOthers W W' := ⟨h.size, fun k o hk _ => (h.block k (Array.getElem?_eq_some_iff.1 hk).1).trans hk⟩
theorem grown_below {W W' : World} (h : Below W.heap.size W W') : W.grownBy W' none := ⟨h.os, h.tape, h.output, h.size, fun k hk _ => h.block k hk⟩

theorem stepIn_append_own {F : Fence} {n : Nat} {P : Program} {w : World} {ops : Array Oper} {o : Oper} {a : Act} {K : Act → World → Prop} {Q : Exit → Act → World → Prop} {E : Prop}
    (hg : o.guard = none) (s x : Operand) (t : TypeId) (hop : o.op = Op.call { callee := Callee.builtin Builtin.append, args := #[s, x], argTypes := #[t, t] })
    (base : Nat) (e : TypeId) (i : TypeInfo) (z : Value) (size bytes : Nat) (h1 : P.underlying t = some (.slice e)) (h2 : P.info? e = some i) (h3 : i.zero = some z) (h4 : i.size = size) (h5 : i.bytes = bytes) (h6 : z.cells.size = size) (h7 : 0 < size)
    (v : Value) (k : Nat) (xs : List Value) (hs : a.eval s = v) (hown : w.ownsRow base e size v k xs) (ad : Addr) (m c : Nat) (news : List Value) (hx : a.eval x = .slice (some ad) m c) (hn : news.length = m * size)
    (hc : ∀ j u, news[j]? = some u → w.cell? (ad.add j) = some u) (h1c : ∀ u ∈ news, u.oneCell' = true) (b1 : k + m ≤ maxLen) (b2 : (k + m) * bytes ≤ 140737488355328) (b3 : base ≤ w.heap.size)
    (hK : ∀ v' w', w'.ownsRow base e size v' (k + m) (xs ++ news) → w.grownBy w' v.ownBlock → (v' = .slice none 0 0 ↔ v = .slice none 0 0 ∧ m = 0) → K (a.put o.dst v') w') :
    if Region.wanted o (yielded ops a.tmps) = true then Oper.wpIn F n P o a w K Q else E := by
  have hw : Region.wanted o (yielded ops a.tmps) = true := by simp [Region.wanted, hg]
  rw [if_pos hw]
  obtain ⟨v', w', hrun, r1, r2, r3⟩ := run_append_own (P := P) w base t o.type e i z size bytes h1 h2 h3 h4 h5 h6 h7 v k xs hown ad m c news hn hc h1c b1 b2 b3
  unfold Oper.wpIn
  refine ⟨?_, ?_⟩
  · simp [Oper.about, hop, resolve, Target.leads, Sem.run_pure]
  · rw [Oper.semAt_plain F _ _ (by rw [hop]; intro c hc'; cases hc')]
    simp [execOp, hop, resolve, invoke, builtin, hs, hx, hrun, Result.andThen]
    exact hK v' w' r1 r2 r3
theorem ownsRow_below {W W' : World} {base : Nat} {e : TypeId} {size k : Nat} {v : Value} {xs : List Value} (h : W.ownsRow base e size v k xs) (hb : Below W.heap.size W W') : W'.ownsRow base e size v k xs := by
  refine h.kept (grown_below hb) ?_
  rcases h.2 with ⟨rfl, _⟩ | ⟨g, cap, cur, rfl, _⟩
  · exact .inl rfl
  · exact .inr (by simp [Value.ownBlock])
theorem info_i32 : (Try.prog.info? 21).map (fun i => (i.zero, i.size, i.bytes)) = some (some (.int .i32 0), 1, 4) := by kernel_rfl
/-- The values of a level (from 0). -/
def levL (q : Nat) (L : List It) : List Int := (L.filter fun a => decide (q < a.2)).map (·.1)
theorem levL_map (q : Nat) (T : List Tw) : levL q (T.map (·.2)) = (lev q T).map (·.2.1) := by
  unfold levL lev
  rw [List.filter_map, List.map_map]
  rfl
/-- Values as cells. -/
abbrev iv (l : List Int) : List Value := l.map (Value.int .i32)
/-- The values of the first ones of a level. -/
def levV (q s : Nat) (T : List Tw) (pre : List Nat) : List Value := pre.map fun i => .int .i32 (levAt q s T i).2.1
theorem levV_snoc (q s : Nat) (T : List Tw) (pre : List Nat) (i : Nat) : levV q s T (pre ++ [i]) = levV q s T pre ++ [.int .i32 (levAt q s T i).2.1] := by simp [levV]
theorem levV_all (q s : Nat) (T : List Tw) : levV q s T (List.range (lev q T).length) = iv (levL q (T.map (·.2))) := by
  rw [levL_map]
  unfold levV iv
  rw [List.map_map]
  apply List.ext_getElem
  · simp
  · intro i h1 h2
    simp at h1
    simp [levAt_lt h1]
theorem lev_le (q : Nat) (T : List Tw) : (lev q T).length ≤ T.length := List.length_filter_le _ _

set_option maxRecDepth 100000 in
set_option maxHeartbeats 2000000 in
theorem level_any (w : World) (s m q : Nat) (hq : q < 8) (S : Nat → Prop) (L : List It) (h : SkAt w s S m L) :
    Calls Try.prog 12 #[.pointer (some ⟨s, 0, none⟩), .int .i64 ((q : Int) + 1)] w (NewSl w 21 1 (levL q L).length (iv (levL q L))) := by
  obtain ⟨T, rfl, hT⟩ := h
  obtain ⟨S', hT, hS⟩ : ∃ S' : Nat → Prop, SkT w s S' m T ∧ ∀ b, S' b → b < w.heap.size := ⟨fun b => S b ∧ b < w.heap.size, ⟨hT.links.lt, hT.apart, hT.high, hT.room, hT.most, hT.sorted⟩, fun b hb => hb.2⟩
  have hq8 : ¬ (8 : Int) < (q : Int) + 1 := by omega
  have hq1 : ¬ (q : Int) + 1 < 1 := by omega
  have hqq : ¬ (8 : Int) ≤ (q : Int) := by omega
  obtain ⟨i0, hi, hz0, hz1, hz2⟩ := info_parts info_i32
  have hN : (lev q T).length ≤ 1000 := by have := lev_le q T; have := hT.room; have := hT.most; omega
  refine (callsIn_wide (n := 3)).1 (callsIn_of_wp_marks Try.func12 rfl trivial ?_ rfl)
  simp only [Try.ntmps12, List.size_toArray, List.length_cons, List.length_nil, Nat.reduceAdd, Nat.reduceSub, Array.replicate_succ, Array.replicate_zero, List.push_toArray, List.append_toArray, List.nil_append, List.cons_append]
  gi_wp2_with (refine ⟨trivial, ?_⟩; gi_at_call 22; refine (level_in _ _ _ _).mono ?_; rintro e w' ⟨rfl, rfl⟩)
  have bO := Boxed.new w 26 (.slice none 0 0)
  have bS := Boxed.new (w.alloc (.cells #[.slice none 0 0] 26)) 34 (.pointer (some ⟨s, 0, none⟩))
  have bN := Boxed.new ((w.alloc (.cells #[.slice none 0 0] 26)).alloc (.cells #[.pointer (some ⟨s, 0, none⟩)] 34)) 3 (.int .i64 ((q : Int) + 1))
  rw [World.size_alloc] at bS bN
  rw [World.size_alloc] at bN
  have bO0 := (bO.alloc (.cells #[.pointer (some ⟨s, 0, none⟩)] 34)).alloc (.cells #[.int .i64 ((q : Int) + 1)] 3)
  have bS0 := bS.alloc (.cells #[.int .i64 ((q : Int) + 1)] 3)
  have hB0 : Below w.heap.size w (((w.alloc (.cells #[.slice none 0 0] 26)).alloc (.cells #[.pointer (some ⟨s, 0, none⟩)] 34)).alloc (.cells #[.int .i64 ((q : Int) + 1)] 3)) := (((Below.refl _ w).alloc (Nat.le_refl _) _).alloc (by simp) _).alloc (by simp; omega) _
  obtain ⟨W0, hW0⟩ : ∃ W0, (((w.alloc (.cells #[.slice none 0 0] 26)).alloc (.cells #[.pointer (some ⟨s, 0, none⟩)] 34)).alloc (.cells #[.int .i64 ((q : Int) + 1)] 3)) = W0 := ⟨_, rfl⟩
  have hsz : W0.heap.size = w.heap.size + 3 := by rw [← hW0]; simp
  have hrow0 : W0.ownsRow w.heap.size 21 1 (.slice none 0 0) 0 [] := ⟨rfl, .inl ⟨rfl, rfl⟩⟩
  rw [hW0] at bN hB0 bO0 bS0 ⊢
  clear hW0 bO bS
  have hT0 := hT.belowN hS hB0
  refine wpIn_rangeFunc_ownG rfl (by omega) (gf := 31) (lb := #[.pointer (some ⟨w.heap.size + 1, 0, none⟩), .pointer (some ⟨w.heap.size + 1 + 1, 0, none⟩)]) rfl trivial (enters_of Try.func31 (by kernel_rfl) rfl)
    (level_stops 2 (by omega) (w.heap.size + 1) (w.heap.size + 1 + 1) w.heap.size s m q hq S' hS T W0 (by omega) bS0 bN hT0) KeepsC.t (KeepsC.b (by omega)) (Below.refl _ _) (fun _ => rfl)
    (fun pre W => ((∃ v, Boxed W w.heap.size 26 v ∧ W.ownsRow w.heap.size 21 1 v pre.length (levV q s T pre) ∧ True) ∧ Boxed W (w.heap.size + 1) 34 (.pointer (some ⟨s, 0, none⟩)) ∧ Boxed W (w.heap.size + 1 + 1) 3 (.int .i64 ((q : Int) + 1))) ∧ Below w.heap.size w W)
    (fun _ _ _ => False)
    (OwnFrom.and (Own.from (fun s' A' B row hs hg hr => ⟨holdsRow_own w.heap.size w.heap.size 26 21 1 (fun pre : List Nat => pre.length) (fun pre => levV q s T pre) (fun _ _ => True) s' A' B row hs.1 hg hr, boxed_own _ _ (fun _ : List Nat => .pointer (some ⟨s, 0, none⟩)) s' A' B row hs.2.1 hg hr, boxed_own _ _ (fun _ : List Nat => .int .i64 ((q : Int) + 1)) s' A' B row hs.2.2 hg hr⟩) _) (ownFrom_below (Nat.le_refl _) (by omega)))
    (fun _ _ _ _ _ hs _ _ => hs)
    ⟨⟨⟨_, bO0, hrow0, trivial⟩, bS0, bN⟩, hB0⟩
    (fun i => { tmps := #[.pointer (some ⟨s, 0, none⟩), .int .i64 ((q : Int) + 1), undef, undef, .slice none 0 0, .pointer (some ⟨w.heap.size, 0, none⟩), .pointer (some ⟨(levAt q s T i).1, 0, none⟩), .pointer (some ⟨s, 0, none⟩), .bool false, .bool false, .int .i64 ((q : Int) + 1), .bool false, .bool false, .bool false, .int .i64 ((q : Int) + 1), .bool false, .bool false, .pointer (some ⟨s, 0, none⟩), .int .i64 ((q : Int) + 1), .func (.func 31) #[] #[.pointer (some ⟨w.heap.size + 1, 0, none⟩), .pointer (some ⟨w.heap.size + 1 + 1, 0, none⟩)], .pointer (some ⟨(levAt q s T i).1, 0, none⟩), undef, undef, undef, undef, undef, undef, undef, undef], defers := [] }) ?assign ?body ?done ?stop
  case assign =>
    intro l x W K hK
    gi_wp2
    exact hK
  case body =>
    rintro l pre i W ⟨⟨⟨v, hv, hrow, _⟩, hbs, hbn⟩, hB⟩ hlt
    have hcell := (levAt_cells (hT.belowN hS hB).links (q := q) i).1
    obtain ⟨bx, hbx⟩ : ∃ bx, (levAt q s T i).1 = bx := ⟨_, rfl⟩
    obtain ⟨vx, hvx⟩ : ∃ vx, (levAt q s T i).2.1 = vx := ⟨_, rfl⟩
    have HVX := Lib.hid hvx
    rw [hbx, hvx] at hcell
    rw [hbx]
    clear hbx hvx
    have hcell' : W.drew.cell? ⟨bx, 0, none⟩ = some (.int .i32 vx) := hcell
    have hv5 : Boxed W.drew w.heap.size 26 v := hv
    have hrow5 : W.drew.ownsRow w.heap.size 21 1 v pre.length (levV q s T pre) := hrow
    have hc := hv5.cell
    have hco := fun o => (hv5.alloc o).cell
    have hco2 : ∀ o, (W.alloc o).cell? ⟨w.heap.size, 0, none⟩ = some v := fun o => (hv.alloc o).cell
    have hco3 : ∀ o, (W.alloc o).drew.cell? ⟨w.heap.size, 0, none⟩ = some v := fun o => (hv.alloc o).cell
    gi_wp2
    refine wpIn_region_any (by kernel_rfl) ?_
    change wpAnyIn _ _ _ _ _ _ _ _ _ (World.drew _)
    refine wpAnyIn_ready (rs := [0, 1]) (by kernel_rfl) (by simp) ?_
    refine AllReadyIn.cons rfl (fun K hK => ?_) (AllReadyIn.cons rfl (fun K hK => ?_) AllReadyIn.nil)
    · skip
      go_simp
      refine hK _ _ ?_
      clear hK K
      refine wpAnyIn_ready (rs := [1]) (by kernel_rfl) (by simp) ?_
      refine AllReadyIn.cons rfl (fun K hK => ?_) AllReadyIn.nil
      go_simp
      refine hK _ _ ?_
      clear hK K
      refine wpAnyIn_ready (rs := [2]) (by kernel_rfl) (by simp) ?_
      refine AllReadyIn.cons rfl (fun K hK => ?_) AllReadyIn.nil
      go_simp
      refine hK _ _ ?_
      clear hK K
      refine wpAnyIn_ready (rs := [3]) (by kernel_rfl) (by simp) ?_
      refine AllReadyIn.cons rfl (fun K hK => ?_) AllReadyIn.nil
      go_simp
      refine hK _ _ ?_
      clear hK K
      refine wpAnyIn_ready (rs := [4]) (by kernel_rfl) (by simp) ?_
      refine AllReadyIn.cons rfl (fun K hK => ?_) AllReadyIn.nil
      go_simp
      refine hK _ _ ?_
      clear hK K
      refine wpAnyIn_ready (rs := [5]) (by kernel_rfl) (by simp) ?_
      refine AllReadyIn.cons rfl (fun K hK => ?_) AllReadyIn.nil
      go_simp
      refine hK _ _ ?_
      clear hK K
      refine wpAnyIn_ready (rs := [6]) (by kernel_rfl) (by simp) ?_
      refine AllReadyIn.cons rfl (fun K hK => ?_) AllReadyIn.nil
      refine stepIn_append_own rfl _ _ 26 rfl w.heap.size 21 i0 _ 1 4 Try.underlying26 hi hz0 hz1 hz2 rfl (by decide) v _ _ rfl (hrow5.alloc _) ⟨W.heap.size, 0, none⟩ 1 1 [.int .i32 vx] rfl rfl (fun j u hu => cells_lit W.drew 21 _ j u hu) (by simp [Value.oneCell']) (by simp only [maxLen]; omega) (by omega) (by have := hB.size; simp at this ⊢; omega) ?_
      intro v' w1 hown' hgrow _
      obtain ⟨g', cap', rfl⟩ := ownsRow_succ hown'
      obtain ⟨hv1, hv2, hr2, hk2, hb2⟩ := hv5.appended (by decide) hrow5 (by have := hB.size; simp at *; omega) (Nat.le_refl _) hown' hgrow
      have hc1 := hv1.cell
      have hf1 := hv1.frozen
      refine hK _ _ ?_
      clear hK K
      refine wpAnyIn_ready (rs := [7]) (by kernel_rfl) (by simp) ?_
      refine AllReadyIn.cons rfl (fun K hK => ?_) AllReadyIn.nil
      go_simp
      refine hK _ _ ?_
      clear hK K
      refine wpAnyIn_done (by kernel_rfl) ?_ _
      have hk : ∀ (Bx : Nat) (tx : TypeId) (u : Value), tx ≠ 21 → w.heap.size ≠ Bx → Boxed W Bx tx u → Boxed (w1.setCell ⟨w.heap.size, 0, none⟩ (.slice (some ⟨g', 0, none⟩) (pre.length + 1) cap')) Bx tx u := fun Bx tx u h1 h2 hu => by
        have hu0 : Boxed W.drew Bx tx u := hu
        exact ((hu0.alloc _).kept hgrow (hu0.not_row h1 hrow5)).other (fun e => h2 e.symm) _
      have hbb : Below w.heap.size W (w1.setCell ⟨w.heap.size, 0, none⟩ (.slice (some ⟨g', 0, none⟩) (pre.length + 1) cap')) := (Below.refl _ W).drew.trans hb2
      refine ⟨((KeepsOthers.drew W).trans hk2).from _, ⟨hbb, fun u hu => hk _ _ u (by decide) (by omega) hu, fun u hu => hk _ _ u (by decide) (by omega) hu⟩, ⟨⟨_, hv2, ?_, trivial⟩, hk _ _ _ (by decide) (by omega) hbs, hk _ _ _ (by decide) (by omega) hbn⟩, hB.trans hbb⟩
      rw [List.length_append, levV_snoc, HVX.out]
      exact hr2
    · skip
      go_simp
      refine hK _ _ ?_
      clear hK K
      refine wpAnyIn_ready (rs := [0, 2]) (by kernel_rfl) (by simp) ?_
      refine AllReadyIn.cons rfl (fun K hK => ?_) (AllReadyIn.cons rfl (fun K hK => ?_) AllReadyIn.nil)
      · skip
        go_simp
        refine hK _ _ ?_
        clear hK K
        refine wpAnyIn_ready (rs := [2]) (by kernel_rfl) (by simp) ?_
        refine AllReadyIn.cons rfl (fun K hK => ?_) AllReadyIn.nil
        go_simp
        refine hK _ _ ?_
        clear hK K
        refine wpAnyIn_ready (rs := [3]) (by kernel_rfl) (by simp) ?_
        refine AllReadyIn.cons rfl (fun K hK => ?_) AllReadyIn.nil
        go_simp
        refine hK _ _ ?_
        clear hK K
        refine wpAnyIn_ready (rs := [4]) (by kernel_rfl) (by simp) ?_
        refine AllReadyIn.cons rfl (fun K hK => ?_) AllReadyIn.nil
        go_simp
        refine hK _ _ ?_
        clear hK K
        refine wpAnyIn_ready (rs := [5]) (by kernel_rfl) (by simp) ?_
        refine AllReadyIn.cons rfl (fun K hK => ?_) AllReadyIn.nil
        go_simp
        refine hK _ _ ?_
        clear hK K
        refine wpAnyIn_ready (rs := [6]) (by kernel_rfl) (by simp) ?_
        refine AllReadyIn.cons rfl (fun K hK => ?_) AllReadyIn.nil
        refine stepIn_append_own rfl _ _ 26 rfl w.heap.size 21 i0 _ 1 4 Try.underlying26 hi hz0 hz1 hz2 rfl (by decide) v _ _ rfl (hrow5.alloc _) ⟨W.heap.size, 0, none⟩ 1 1 [.int .i32 vx] rfl rfl (fun j u hu => cells_lit W.drew 21 _ j u hu) (by simp [Value.oneCell']) (by simp only [maxLen]; omega) (by omega) (by have := hB.size; simp at this ⊢; omega) ?_
        intro v' w1 hown' hgrow _
        obtain ⟨g', cap', rfl⟩ := ownsRow_succ hown'
        obtain ⟨hv1, hv2, hr2, hk2, hb2⟩ := hv5.appended (by decide) hrow5 (by have := hB.size; simp at *; omega) (Nat.le_refl _) hown' hgrow
        have hc1 := hv1.cell
        have hf1 := hv1.frozen
        refine hK _ _ ?_
        clear hK K
        refine wpAnyIn_ready (rs := [7]) (by kernel_rfl) (by simp) ?_
        refine AllReadyIn.cons rfl (fun K hK => ?_) AllReadyIn.nil
        go_simp
        refine hK _ _ ?_
        clear hK K
        refine wpAnyIn_done (by kernel_rfl) ?_ _
        have hk : ∀ (Bx : Nat) (tx : TypeId) (u : Value), tx ≠ 21 → w.heap.size ≠ Bx → Boxed W Bx tx u → Boxed (w1.setCell ⟨w.heap.size, 0, none⟩ (.slice (some ⟨g', 0, none⟩) (pre.length + 1) cap')) Bx tx u := fun Bx tx u h1 h2 hu => by
          have hu0 : Boxed W.drew Bx tx u := hu
          exact ((hu0.alloc _).kept hgrow (hu0.not_row h1 hrow5)).other (fun e => h2 e.symm) _
        have hbb : Below w.heap.size W (w1.setCell ⟨w.heap.size, 0, none⟩ (.slice (some ⟨g', 0, none⟩) (pre.length + 1) cap')) := (Below.refl _ W).drew.trans hb2
        refine ⟨((KeepsOthers.drew W).trans hk2).from _, ⟨hbb, fun u hu => hk _ _ u (by decide) (by omega) hu, fun u hu => hk _ _ u (by decide) (by omega) hu⟩, ⟨⟨_, hv2, ?_, trivial⟩, hk _ _ _ (by decide) (by omega) hbs, hk _ _ _ (by decide) (by omega) hbn⟩, hB.trans hbb⟩
        rw [List.length_append, levV_snoc, HVX.out]
        exact hr2
      · skip
        go_simp
        refine hK _ _ ?_
        clear hK K
        refine wpAnyIn_ready (rs := [0, 3]) (by kernel_rfl) (by simp) ?_
        refine AllReadyIn.cons rfl (fun K hK => ?_) (AllReadyIn.cons rfl (fun K hK => ?_) AllReadyIn.nil)
        · skip
          go_simp
          refine hK _ _ ?_
          clear hK K
          refine wpAnyIn_ready (rs := [3]) (by kernel_rfl) (by simp) ?_
          refine AllReadyIn.cons rfl (fun K hK => ?_) AllReadyIn.nil
          go_simp
          refine hK _ _ ?_
          clear hK K
          refine wpAnyIn_ready (rs := [4]) (by kernel_rfl) (by simp) ?_
          refine AllReadyIn.cons rfl (fun K hK => ?_) AllReadyIn.nil
          go_simp
          refine hK _ _ ?_
          clear hK K
          refine wpAnyIn_ready (rs := [5]) (by kernel_rfl) (by simp) ?_
          refine AllReadyIn.cons rfl (fun K hK => ?_) AllReadyIn.nil
          go_simp
          refine hK _ _ ?_
          clear hK K
          refine wpAnyIn_ready (rs := [6]) (by kernel_rfl) (by simp) ?_
          refine AllReadyIn.cons rfl (fun K hK => ?_) AllReadyIn.nil
          refine stepIn_append_own rfl _ _ 26 rfl w.heap.size 21 i0 _ 1 4 Try.underlying26 hi hz0 hz1 hz2 rfl (by decide) v _ _ rfl (hrow5.alloc _) ⟨W.heap.size, 0, none⟩ 1 1 [.int .i32 vx] rfl rfl (fun j u hu => cells_lit W.drew 21 _ j u hu) (by simp [Value.oneCell']) (by simp only [maxLen]; omega) (by omega) (by have := hB.size; simp at this ⊢; omega) ?_
          intro v' w1 hown' hgrow _
          obtain ⟨g', cap', rfl⟩ := ownsRow_succ hown'
          obtain ⟨hv1, hv2, hr2, hk2, hb2⟩ := hv5.appended (by decide) hrow5 (by have := hB.size; simp at *; omega) (Nat.le_refl _) hown' hgrow
          have hc1 := hv1.cell
          have hf1 := hv1.frozen
          refine hK _ _ ?_
          clear hK K
          refine wpAnyIn_ready (rs := [7]) (by kernel_rfl) (by simp) ?_
          refine AllReadyIn.cons rfl (fun K hK => ?_) AllReadyIn.nil
          go_simp
          refine hK _ _ ?_
          clear hK K
          refine wpAnyIn_done (by kernel_rfl) ?_ _
          have hk : ∀ (Bx : Nat) (tx : TypeId) (u : Value), tx ≠ 21 → w.heap.size ≠ Bx → Boxed W Bx tx u → Boxed (w1.setCell ⟨w.heap.size, 0, none⟩ (.slice (some ⟨g', 0, none⟩) (pre.length + 1) cap')) Bx tx u := fun Bx tx u h1 h2 hu => by
            have hu0 : Boxed W.drew Bx tx u := hu
            exact ((hu0.alloc _).kept hgrow (hu0.not_row h1 hrow5)).other (fun e => h2 e.symm) _
          have hbb : Below w.heap.size W (w1.setCell ⟨w.heap.size, 0, none⟩ (.slice (some ⟨g', 0, none⟩) (pre.length + 1) cap')) := (Below.refl _ W).drew.trans hb2
          refine ⟨((KeepsOthers.drew W).trans hk2).from _, ⟨hbb, fun u hu => hk _ _ u (by decide) (by omega) hu, fun u hu => hk _ _ u (by decide) (by omega) hu⟩, ⟨⟨_, hv2, ?_, trivial⟩, hk _ _ _ (by decide) (by omega) hbs, hk _ _ _ (by decide) (by omega) hbn⟩, hB.trans hbb⟩
          rw [List.length_append, levV_snoc, HVX.out]
          exact hr2
        · skip
          go_simp
          refine hK _ _ ?_
          clear hK K
          refine wpAnyIn_ready (rs := [0, 4]) (by kernel_rfl) (by simp) ?_
          refine AllReadyIn.cons rfl (fun K hK => ?_) (AllReadyIn.cons rfl (fun K hK => ?_) AllReadyIn.nil)
          · skip
            go_simp
            refine hK _ _ ?_
            clear hK K
            refine wpAnyIn_ready (rs := [4]) (by kernel_rfl) (by simp) ?_
            refine AllReadyIn.cons rfl (fun K hK => ?_) AllReadyIn.nil
            go_simp
            refine hK _ _ ?_
            clear hK K
            refine wpAnyIn_ready (rs := [5]) (by kernel_rfl) (by simp) ?_
            refine AllReadyIn.cons rfl (fun K hK => ?_) AllReadyIn.nil
            go_simp
            refine hK _ _ ?_
            clear hK K
            refine wpAnyIn_ready (rs := [6]) (by kernel_rfl) (by simp) ?_
            refine AllReadyIn.cons rfl (fun K hK => ?_) AllReadyIn.nil
            refine stepIn_append_own rfl _ _ 26 rfl w.heap.size 21 i0 _ 1 4 Try.underlying26 hi hz0 hz1 hz2 rfl (by decide) v _ _ rfl (hrow5.alloc _) ⟨W.heap.size, 0, none⟩ 1 1 [.int .i32 vx] rfl rfl (fun j u hu => cells_lit W.drew 21 _ j u hu) (by simp [Value.oneCell']) (by simp only [maxLen]; omega) (by omega) (by have := hB.size; simp at this ⊢; omega) ?_
            intro v' w1 hown' hgrow _
            obtain ⟨g', cap', rfl⟩ := ownsRow_succ hown'
            obtain ⟨hv1, hv2, hr2, hk2, hb2⟩ := hv5.appended (by decide) hrow5 (by have := hB.size; simp at *; omega) (Nat.le_refl _) hown' hgrow
            have hc1 := hv1.cell
            have hf1 := hv1.frozen
            refine hK _ _ ?_
            clear hK K
            refine wpAnyIn_ready (rs := [7]) (by kernel_rfl) (by simp) ?_
            refine AllReadyIn.cons rfl (fun K hK => ?_) AllReadyIn.nil
            go_simp
            refine hK _ _ ?_
            clear hK K
            refine wpAnyIn_done (by kernel_rfl) ?_ _
            have hk : ∀ (Bx : Nat) (tx : TypeId) (u : Value), tx ≠ 21 → w.heap.size ≠ Bx → Boxed W Bx tx u → Boxed (w1.setCell ⟨w.heap.size, 0, none⟩ (.slice (some ⟨g', 0, none⟩) (pre.length + 1) cap')) Bx tx u := fun Bx tx u h1 h2 hu => by
              have hu0 : Boxed W.drew Bx tx u := hu
              exact ((hu0.alloc _).kept hgrow (hu0.not_row h1 hrow5)).other (fun e => h2 e.symm) _
            have hbb : Below w.heap.size W (w1.setCell ⟨w.heap.size, 0, none⟩ (.slice (some ⟨g', 0, none⟩) (pre.length + 1) cap')) := (Below.refl _ W).drew.trans hb2
            refine ⟨((KeepsOthers.drew W).trans hk2).from _, ⟨hbb, fun u hu => hk _ _ u (by decide) (by omega) hu, fun u hu => hk _ _ u (by decide) (by omega) hu⟩, ⟨⟨_, hv2, ?_, trivial⟩, hk _ _ _ (by decide) (by omega) hbs, hk _ _ _ (by decide) (by omega) hbn⟩, hB.trans hbb⟩
            rw [List.length_append, levV_snoc, HVX.out]
            exact hr2
          · skip
            go_simp
            refine hK _ _ ?_
            clear hK K
            refine wpAnyIn_ready (rs := [0, 5]) (by kernel_rfl) (by simp) ?_
            refine AllReadyIn.cons rfl (fun K hK => ?_) (AllReadyIn.cons rfl (fun K hK => ?_) AllReadyIn.nil)
            · skip
              go_simp
              refine hK _ _ ?_
              clear hK K
              refine wpAnyIn_ready (rs := [5]) (by kernel_rfl) (by simp) ?_
              refine AllReadyIn.cons rfl (fun K hK => ?_) AllReadyIn.nil
              go_simp
              refine hK _ _ ?_
              clear hK K
              refine wpAnyIn_ready (rs := [6]) (by kernel_rfl) (by simp) ?_
              refine AllReadyIn.cons rfl (fun K hK => ?_) AllReadyIn.nil
              refine stepIn_append_own rfl _ _ 26 rfl w.heap.size 21 i0 _ 1 4 Try.underlying26 hi hz0 hz1 hz2 rfl (by decide) v _ _ rfl (hrow5.alloc _) ⟨W.heap.size, 0, none⟩ 1 1 [.int .i32 vx] rfl rfl (fun j u hu => cells_lit W.drew 21 _ j u hu) (by simp [Value.oneCell']) (by simp only [maxLen]; omega) (by omega) (by have := hB.size; simp at this ⊢; omega) ?_
              intro v' w1 hown' hgrow _
              obtain ⟨g', cap', rfl⟩ := ownsRow_succ hown'
              obtain ⟨hv1, hv2, hr2, hk2, hb2⟩ := hv5.appended (by decide) hrow5 (by have := hB.size; simp at *; omega) (Nat.le_refl _) hown' hgrow
              have hc1 := hv1.cell
              have hf1 := hv1.frozen
              refine hK _ _ ?_
              clear hK K
              refine wpAnyIn_ready (rs := [7]) (by kernel_rfl) (by simp) ?_
              refine AllReadyIn.cons rfl (fun K hK => ?_) AllReadyIn.nil
              go_simp
              refine hK _ _ ?_
              clear hK K
              refine wpAnyIn_done (by kernel_rfl) ?_ _
              have hk : ∀ (Bx : Nat) (tx : TypeId) (u : Value), tx ≠ 21 → w.heap.size ≠ Bx → Boxed W Bx tx u → Boxed (w1.setCell ⟨w.heap.size, 0, none⟩ (.slice (some ⟨g', 0, none⟩) (pre.length + 1) cap')) Bx tx u := fun Bx tx u h1 h2 hu => by
                have hu0 : Boxed W.drew Bx tx u := hu
                exact ((hu0.alloc _).kept hgrow (hu0.not_row h1 hrow5)).other (fun e => h2 e.symm) _
              have hbb : Below w.heap.size W (w1.setCell ⟨w.heap.size, 0, none⟩ (.slice (some ⟨g', 0, none⟩) (pre.length + 1) cap')) := (Below.refl _ W).drew.trans hb2
              refine ⟨((KeepsOthers.drew W).trans hk2).from _, ⟨hbb, fun u hu => hk _ _ u (by decide) (by omega) hu, fun u hu => hk _ _ u (by decide) (by omega) hu⟩, ⟨⟨_, hv2, ?_, trivial⟩, hk _ _ _ (by decide) (by omega) hbs, hk _ _ _ (by decide) (by omega) hbn⟩, hB.trans hbb⟩
              rw [List.length_append, levV_snoc, HVX.out]
              exact hr2
            · skip
              go_simp
              refine hK _ _ ?_
              clear hK K
              refine wpAnyIn_ready (rs := [0]) (by kernel_rfl) (by simp) ?_
              refine AllReadyIn.cons rfl (fun K hK => ?_) AllReadyIn.nil
              go_simp
              refine hK _ _ ?_
              clear hK K
              refine wpAnyIn_ready (rs := [6]) (by kernel_rfl) (by simp) ?_
              refine AllReadyIn.cons rfl (fun K hK => ?_) AllReadyIn.nil
              refine stepIn_append_own rfl _ _ 26 rfl w.heap.size 21 i0 _ 1 4 Try.underlying26 hi hz0 hz1 hz2 rfl (by decide) v _ _ rfl (hrow5.alloc _) ⟨W.heap.size, 0, none⟩ 1 1 [.int .i32 vx] rfl rfl (fun j u hu => cells_lit W.drew 21 _ j u hu) (by simp [Value.oneCell']) (by simp only [maxLen]; omega) (by omega) (by have := hB.size; simp at this ⊢; omega) ?_
              intro v' w1 hown' hgrow _
              obtain ⟨g', cap', rfl⟩ := ownsRow_succ hown'
              obtain ⟨hv1, hv2, hr2, hk2, hb2⟩ := hv5.appended (by decide) hrow5 (by have := hB.size; simp at *; omega) (Nat.le_refl _) hown' hgrow
              have hc1 := hv1.cell
              have hf1 := hv1.frozen
              refine hK _ _ ?_
              clear hK K
              refine wpAnyIn_ready (rs := [7]) (by kernel_rfl) (by simp) ?_
              refine AllReadyIn.cons rfl (fun K hK => ?_) AllReadyIn.nil
              go_simp
              refine hK _ _ ?_
              clear hK K
              refine wpAnyIn_done (by kernel_rfl) ?_ _
              have hk : ∀ (Bx : Nat) (tx : TypeId) (u : Value), tx ≠ 21 → w.heap.size ≠ Bx → Boxed W Bx tx u → Boxed (w1.setCell ⟨w.heap.size, 0, none⟩ (.slice (some ⟨g', 0, none⟩) (pre.length + 1) cap')) Bx tx u := fun Bx tx u h1 h2 hu => by
                have hu0 : Boxed W.drew Bx tx u := hu
                exact ((hu0.alloc _).kept hgrow (hu0.not_row h1 hrow5)).other (fun e => h2 e.symm) _
              have hbb : Below w.heap.size W (w1.setCell ⟨w.heap.size, 0, none⟩ (.slice (some ⟨g', 0, none⟩) (pre.length + 1) cap')) := (Below.refl _ W).drew.trans hb2
              refine ⟨((KeepsOthers.drew W).trans hk2).from _, ⟨hbb, fun u hu => hk _ _ u (by decide) (by omega) hu, fun u hu => hk _ _ u (by decide) (by omega) hu⟩, ⟨⟨_, hv2, ?_, trivial⟩, hk _ _ _ (by decide) (by omega) hbs, hk _ _ _ (by decide) (by omega) hbn⟩, hB.trans hbb⟩
              rw [List.length_append, levV_snoc, HVX.out]
              exact hr2
  case done =>
    rintro D ys W hD rfl ⟨⟨⟨v, hv, hrow, _⟩, _⟩, hB⟩ hK
    rw [levV_all, List.length_range] at hrow
    have hc := hv.cell
    gi_wp2
    refine ⟨by simp, .inl ⟨_, _, rfl, run_takeDeferred hK, ?_⟩⟩
    obtain ⟨A, c, rfl, hs⟩ := Sl.of_owns (ownsRow_putObj hrow (.deferred none) hK rfl)
    have hlen : (levL q (T.map (·.2))).length = (lev q T).length := by rw [levL_map, List.length_map]
    rw [hlen]
    exact ⟨_, results_tmp rfl _ _ _, A, c, rfl, hs, hB.trans (belowK_b (w := w) (Nat.le_refl _) W D _ _ (by omega) hK rfl rfl)⟩
  case stop =>
    rintro D c pre W _ _ h _
    exact h.elim
theorem level_none (w : World) (k : Int) : Calls Try.prog 12 #[.pointer none, .int .i64 k] w fun e w' => e = .returned (.slice none 0 0) ∧ w = w' := by
  go_enter Try.func12, Try.ntmps12
  go_wp2
  go_ret
  exact ⟨rfl, rfl⟩
theorem level_out (w : World) (s : Nat) {k : Int} (hk : k < 1 ∨ 8 < k) : Calls Try.prog 12 #[.pointer (some ⟨s, 0, none⟩), .int .i64 k] w fun e w' => e = .returned (.slice none 0 0) ∧ w = w' := by
  by_cases h : k < 1
  · clear hk
    go_enter Try.func12, Try.ntmps12
    go_wp2
    go_ret
    exact ⟨rfl, rfl⟩
  · have h8 : 8 < k := by omega
    clear hk
    go_enter Try.func12, Try.ntmps12
    go_wp2
    go_ret
    exact ⟨rfl, rfl⟩
theorem items_any (w : World) (s m : Nat) (S : Nat → Prop) (L : List It) (h : SkAt w s S m L) :
    Calls Try.prog 11 #[.pointer (some ⟨s, 0, none⟩)] w (NewSl w 21 1 (levL 0 L).length (iv (levL 0 L))) := by
  have hl := level_any w s m 0 (by omega) S L h
  simp only [Int.ofNat_eq_natCast, Int.natCast_zero, Int.zero_add] at hl
  go_enter Try.func11, Try.ntmps11
  go_wp2_with fail
  refine hl.mono ?_
  rintro e w1 ⟨A, c, rfl, hs, hb⟩
  go_wp2_with fail
  go_ret
  exact ⟨A, c, rfl, hs, hb⟩
theorem items_none (w : World) : Calls Try.prog 11 #[.pointer none] w fun e w' => e = .returned (.slice none 0 0) ∧ w = w' := by
  go_enter Try.func11, Try.ntmps11
  go_wp2_with fail
  refine (level_none w 1).mono ?_
  rintro e w1 ⟨rfl, rfl⟩
  go_wp2_with fail
  go_ret
  exact ⟨rfl, rfl⟩
end Go.Proofs.Ytpelpbnmjciheaa
