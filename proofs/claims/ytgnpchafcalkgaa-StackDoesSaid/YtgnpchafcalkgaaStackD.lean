/-
  The stack: operations of choices; the document's own answer to an operation; the chapter's example.
-/


import Derived.Test.YtgnpchafcalkgaaStackC
namespace Go.Proofs.Ytgnpchafcalkgaa
open Go.RowKit Go.Rp

/-- Operations of choices. -/
def opsOf (kinds : Nat) (cs : List Nat) : List (Int × Int) := (cs.take 80).map fun c => (1 + (c % kinds : Nat), (c / 8 : Nat) - 9)
theorem opsOf_ok (kinds : Nat) (hk : 0 < kinds) (hk2 : kinds ≤ 200) (cs : List Nat) : ∀ o ∈ opsOf kinds cs, 0 ≤ o.1 ∧ o.1 ≤ 255 := by
  intro o ho
  obtain ⟨c, _, rfl⟩ := List.mem_map.1 ho
  have := Nat.mod_lt c hk
  simp only
  omega

theorem opsOf_snoc (kinds : Nat) (cs : List Nat) (m : Nat) (hm : m < cs.length) (h8 : m < 80) : opsOf kinds (cs.take (m + 1)) = opsOf kinds (cs.take m) ++ [(1 + ((cs[m] % kinds : Nat) : Int), ((cs[m] / 8 : Nat) : Int) - 9)] := by
  unfold opsOf
  rw [List.take_of_length_le (l := cs.take (m + 1)) (by rw [List.length_take]; omega), List.take_of_length_le (l := cs.take m) (by rw [List.length_take]; omega), List.take_succ_eq_append_getElem hm, List.map_append]
  rfl

theorem info_op : (Try.prog.info? 37).map (fun i => (i.zero, i.size, i.bytes)) = some (some (.agg #[.int .u8 0, .int .i32 0]), 2, 8) := by kernel_rfl

theorem Ops_any (w : World) (A : Option Addr) (n c : Nat) (R : Nat → Prop) (cs : List Nat) (hn : cs.length = n) (hr : Rd w R 1 A n (cs.map fun (x : Nat) => Value.int .u8 (x : Int))) (h8 : ∀ x ∈ cs, x < 256) (hlen : n ≤ 140737488351232) (kinds : Nat) (hk : 0 < kinds) (hk2 : kinds ≤ 200) :
    Calls Try.prog 19 #[.slice A n c, .int .u8 (kinds : Int)] w (NewSl w 37 2 (opsOf kinds cs).length ((opsOf kinds cs).flatMap opCells)) := by
  obtain ⟨i0, hi0, hz0, hz1, hz2⟩ := info_parts info_op
  have HN := Lib.hid hn
  clear hn
  go_enter Try.func19, Try.ntmps19
  go_wp2_with fail
  go_loopw [5, 6] (fun v k wr => ∃ (m : Nat) (A' : Option Addr) (c' : Nat), m ≤ n ∧ m ≤ 80 ∧ k = .int .i64 (m : Int) ∧ v = .slice A' m c' ∧ Sl wr 37 2 A' m c' ((opsOf kinds (cs.take m)).flatMap opCells) (fun b => w.heap.size ≤ b ∧ b < wr.heap.size) ∧ Below w.heap.size w wr) (fun _ k _ => 80 - (intOf k).toNat)
  case atStart => exact ⟨0, none, 0, by omega, by omega, rfl, rfl, Sl.nil _ _ _ _, Below.refl _ _⟩
  case round =>
    obtain ⟨m, A', c', hm, hm8, rfl, rfl, hs, hb⟩ := hrel
    by_cases hlt : m < n ∧ m < 80
    · obtain ⟨h1, h2⟩ := hlt
      obtain ⟨b, off, rfl, hbR, hcells⟩ := (hr.kept hb).at (by omega)
      have hx1 : m < cs.length := by rw [HN.out]; exact h1
      have hx : wr.cell? ⟨b, off + m, none⟩ = some (.int .u8 ((cs[m] : Nat) : Int)) := hcells m _ (by simp [hx1])
      have h256 := h8 _ (List.getElem_mem hx1)
      clear hcells
      have hsn := Lib.hid (opsOf_snoc kinds cs m hx1 h2)
      generalize hxx : cs[m] = x at *
      clear hxx
      obtain ⟨r, hr1⟩ : ∃ r, x % kinds = r := ⟨_, rfl⟩
      obtain ⟨q, hq1⟩ : ∃ q, x / 8 = q := ⟨_, rfl⟩
      have hr2 : r < kinds := by rw [← hr1]; exact Nat.mod_lt _ hk
      have hq2 : q ≤ 31 := by omega
      rw [hr1, hq1] at hsn
      have ht : (x : Int).tmod (kinds : Int) = (r : Int) := by rw [← hr1]; rfl
      have hq : (x : Int).tdiv 8 = (q : Int) := by rw [← hq1]; rfl
      have e1 : IntKind.u8.wrap (1 + (r : Int)) = 1 + (r : Int) := IntWalk.u8_in _ (by omega)
      have e2 : IntKind.u8.wrap (q : Int) = (q : Int) := IntWalk.u8_in _ (by omega)
      have e3 : IntKind.i32.wrap (q : Int) = (q : Int) := IntWalk.i32_in _ (by omega)
      have e4 : IntKind.i32.wrap ((q : Int) - 9) = (q : Int) - 9 := IntWalk.i32_in _ (by omega)
      have hk0 : ¬ kinds = 0 := by omega
      have hbl := hb.size
      have b1 : m + 1 ≤ maxLen := by simp only [maxLen]; omega
      have b2 : (m + 1) * 8 ≤ 140737488355328 := by omega
      clear hr1 hq1
      go_wp2
      go_region_law (refine step_append_sl _ rfl (.tmp 17) (.tmp 33) _ rfl 37 i0 _ 2 8 Try.underlying41 hi0 hz0 hz1 hz2 rfl (by decide) A' m c' _ _ (by rfl) (by exact (hs.alloc _).drew) (· = wr.heap.size) (some ⟨wr.heap.size, 0, none⟩) 1 1 [.int .u8 (1 + (r : Int)), .int .i32 ((q : Int) - 9)] (by rfl) (by exact (Rd.lit (sz := 2) wr _ #[.int .u8 (1 + (r : Int)), .int .i32 ((q : Int) - 9)] 1 rfl).drew) (by simp [Value.oneCell']) b1 b2 ?_; intro A2 c2 w1 hown1 hmod1)
      all_goals
        clear ht hq e1 e2 e3 e4
        go_wp2
        go_roundw
        case rel =>
          have hz := hmod1.size
          simp at hz
          refine ⟨m + 1, A2, c2, by omega, by omega, by go_num, rfl, ?_, hb.trans ((((Below.refl _ wr).alloc hb.size _).drew).trans (hmod1.below (by simp; omega) fun b hb => hb.1))⟩
          rw [hsn.out, List.flatMap_append]
          refine Sl.mono (by simpa [opCells] using hown1) fun b hb => ?_
          rcases hb with hb | hb
          · exact ⟨hb.1, by omega⟩
          · simp at hb; exact ⟨by omega, hb.2⟩
        case measure => simp [intOf]; omega
    · have hmin : m = min n 80 := by omega
      have e : opsOf kinds (cs.take m) = opsOf kinds cs := by
        unfold opsOf
        rw [List.take_take]
        congr 1
        rw [hmin, ← HN.out]
        rw [show min 80 (min cs.length 80) = min cs.length 80 by omega]
        rcases Nat.le_total cs.length 80 with h | h
        · rw [Nat.min_eq_left h, List.take_of_length_le (Nat.le_refl _), List.take_of_length_le h]
        · rw [Nat.min_eq_right h]
      rw [e] at hs
      have hL : (opsOf kinds cs).length = m := by
        rw [← e]
        simp [opsOf, HN.out]
        omega
      have HL := Lib.hid hL
      have HE := Lib.hid hmin
      clear e hL hmin
      have hge : ¬ ((m : Int) < (n : Int) ∧ (m : Int) < 80) := by omega
      go_wp2
      all_goals
        go_ret
        rw [HL.out]
        exact ⟨A', c', rfl, hs, hb⟩

theorem rMost_any (w : World) (m : Int) : Calls Try.prog 24 #[.int .i64 m] w fun e w' => e = .returned (.int .i64 (cut m : Int)) ∧ w = w' := by
  by_cases h1 : m ≤ 0
  · have e : ((cut m : Nat) : Int) = 0 := by unfold cut; omega
    rw [e]
    have H := Lib.hid e
    clear e
    go_enter Try.func24, Try.ntmps24
    go_wp2
    go_ret
    exact ⟨rfl, rfl⟩
  · by_cases h2 : 1000 < m
    · have e : ((cut m : Nat) : Int) = 1000 := by unfold cut; omega
      rw [e]
      have H := Lib.hid e
      clear e
      go_enter Try.func24, Try.ntmps24
      go_wp2
      go_ret
      exact ⟨rfl, rfl⟩
    · have e : ((cut m : Nat) : Int) = m := by unfold cut; omega
      rw [e]
      have H := Lib.hid e
      clear e
      go_enter Try.func24, Try.ntmps24
      go_wp2
      go_ret
      exact ⟨rfl, rfl⟩

/-- What the document's operation tells: a slice of the items behind it, and what is told. -/
def RDone (w : World) (A : Option Addr) (n : Nat) (xs l' : List Int) (code x : Int) (e : Ending) (w' : World) : Prop :=
  ∃ A' c', e = .returned (.tuple #[.slice A' l'.length c', res code x]) ∧ l'.length ≤ c' ∧ (∀ T : Nat → Prop, Rd w T 1 A n (xs.map fun x => Value.int .i32 x) → Rd w' (grow T w w') 1 A' l'.length (l'.map fun x => Value.int .i32 x)) ∧ Below w.heap.size w w'

theorem rdone_same {w w' : World} {A : Option Addr} {n c : Nat} {xs : List Int} {code : Int} (hx : xs.length = n) (hc : n ≤ c) (hb : Below w.heap.size w w') : RDone w A n xs xs code 0 (.returned (.tuple #[.slice A n c, res code 0])) w' := by
  subst hx
  exact ⟨A, c, rfl, hc, fun T hT => (hT.kept hb).more grow_left, hb⟩
theorem rdone_new {w w' : World} {A A' : Option Addr} {n m c' : Nat} {xs l' : List Int} {code x : Int} {S : Nat → Prop} (hl : l'.length = m) (hs : Sl w' 21 1 A' m c' (l'.map fun x => Value.int .i32 x) S) (hS : ∀ b, S b → w.heap.size ≤ b) (hb : Below w.heap.size w w') :
    RDone w A n xs l' code x (.returned (.tuple #[.slice A' m c', res code x])) w' := by
  subst hl
  exact ⟨A', c', rfl, hs.le, fun T _ => hs.lt.rd.more fun b hb => .inr ⟨hS b hb.1, hb.2⟩, hb⟩

theorem rDo_same (w : World) (most : Int) (A : Option Addr) (n c : Nat) (xs : List Int) (hx : xs.length = n) (hc : n ≤ c) (k v code : Int) (h : (k = 1 ∧ cut most ≤ n ∧ code = 3) ∨ (k = 2 ∧ n = 0 ∧ code = 4) ∨ (k ≠ 1 ∧ k ≠ 2 ∧ code = 5)) :
    Calls Try.prog 25 #[.int .i64 most, .slice A n c, .agg #[.int .u8 k, .int .i32 v]] w (RDone w A n xs xs code 0) := by
  have HX := Lib.hid hx
  clear hx
  rcases h with ⟨rfl, hm, rfl⟩ | ⟨rfl, rfl, rfl⟩ | ⟨h1, h2, rfl⟩
  · have hge : ((cut most : Nat) : Int) ≤ (n : Int) := by omega
    go_enter Try.func25, Try.ntmps25
    go_wp2_with fail
    refine (rMost_any _ _).mono ?_
    rintro e w1 ⟨rfl, rfl⟩
    go_wp2_with fail
    refine bodyPost_ret (v := .tuple #[.slice A n c, res 3 0]) (by simp [results, Try.results25, go_sem]) rfl ?_
    exact rdone_same HX.out hc (((Below.refl _ w).alloc (Nat.le_refl _) _).alloc (by simp) _)
  · go_enter Try.func25, Try.ntmps25
    go_wp2_with fail
    refine bodyPost_ret (v := .tuple #[.slice A 0 c, res 4 0]) (by simp [results, Try.results25, go_sem]) rfl ?_
    exact rdone_same HX.out hc (((Below.refl _ w).alloc (Nat.le_refl _) _).alloc (by simp) _)
  · have e1 : (k == 1) = false := by simpa using h1
    have e2 : (k == 2) = false := by simpa using h2
    go_enter Try.func25, Try.ntmps25
    go_wp2_with fail
    refine bodyPost_ret (v := .tuple #[.slice A n c, res 5 0]) (by simp [results, Try.results25, go_sem]) rfl ?_
    exact rdone_same HX.out hc (((Below.refl _ w).alloc (Nat.le_refl _) _).alloc (by simp) _)

theorem rDo_push (w : World) (most : Int) (A : Option Addr) (n c : Nat) (R : Nat → Prop) (xs : List Int) (hr : Rd w R 1 A n (xs.map fun x => Value.int .i32 x)) (v : Int) (h : n < cut most) :
    Calls Try.prog 25 #[.int .i64 most, .slice A n c, .agg #[.int .u8 1, .int .i32 v]] w (RDone w A n xs (xs ++ [v]) 1 0) := by
  obtain ⟨i0, hi0, hz0, hz1, hz2⟩ := info_parts info_i32
  have hx : xs.length = n := by simpa using hr.1
  have HX := Lib.hid hx
  clear hx
  have hc1000 : cut most ≤ 1000 := by unfold cut; omega
  have hge : ¬ ((cut most : Nat) : Int) ≤ (n : Int) := by omega
  have h1 : ∀ u ∈ xs.map fun x => Value.int .i32 x, u.oneCell' = true := by intro u hu; obtain ⟨x, _, rfl⟩ := List.mem_map.1 hu; rfl
  go_enter Try.func25, Try.ntmps25
  go_wp2_with fail
  refine (rMost_any _ _).mono ?_
  rintro e w1 ⟨rfl, rfl⟩
  go_wp2_with (first
    | (at_builtin; refine wpList_append_sl _ rfl (.tmp 26) (.tmp 27) _ rfl 21 i0 _ 1 4 Try.underlying22 hi0 hz0 hz1 hz2 rfl (by omega) none 0 0 [] (fun _ => False) rfl (Sl.nil _ _ _ _) R A n c _ rfl (by exact (hr.alloc _).alloc _) h1 (by simp only [maxLen]; omega) (by omega) ?_; intro A1 c1 w1 hown1 hmod1; rw [Nat.zero_add, List.nil_append] at hown1; have hO := ((Blk.new w 37 #[.int .u8 1, .int .i32 v]).alloc (.cells #[.int .u8 0, .int .i32 0] 34)).mod hmod1 (by simp); have o1 : w1.cell? ⟨w.heap.size, 1, none⟩ = some (.int .i32 v) := hO.cell 1; have z1 := hmod1.size; simp only [World.size_alloc] at z1)
    | (at_builtin; refine wpList_append_sl _ rfl (.tmp 29) (.tmp 32) _ rfl 21 i0 _ 1 4 Try.underlying22 hi0 hz0 hz1 hz2 rfl (by omega) A1 n c1 _ _ rfl (by exact hown1.alloc _) (· = w1.heap.size) (some ⟨w1.heap.size, 0, none⟩) 1 1 [.int .i32 v] rfl (by exact Rd.lit (sz := 1) w1 _ #[.int .i32 v] 1 rfl) (by simp [Value.oneCell']) (by simp only [maxLen]; omega) (by omega) ?_; intro A2 c2 w2 hown2 hmod2; have hR := (((Blk.new (w.alloc (.cells #[.int .u8 1, .int .i32 v] 37)) 34 #[.int .u8 0, .int .i32 0]).mod hmod1 (by simp)).alloc (.cells #[.int .i32 v] 21)).mod hmod2 (by simp [grow]; omega); rw [World.size_alloc] at hR; have r0 : w2.cell? ⟨w.heap.size + 1, 0, none⟩ = some (.int .u8 0) := hR.cell 0; have r1 : w2.cell? ⟨w.heap.size + 1, 1, none⟩ = some (.int .i32 0) := hR.cell 1; have f0 := hR.frozen 0; have f1 := hR.frozen 1))
  obtain ⟨q0, q1, m3⟩ := two_cells (.int .u8 1) (.int .i32 0) hR
  have z2 := hmod2.size
  simp only [World.size_alloc] at z2
  refine bodyPost_ret (v := .tuple #[.slice A2 (n + 1) c2, res 1 0]) (by simp [results, Try.results25, go_sem, q0, q1]) rfl ?_
  have hs3 := (hown2.farT (p := ⟨w.heap.size + 1, 0, none⟩) hR (by decide) (.int .u8 1)).farT (p := ⟨w.heap.size + 1, 1, none⟩) (hR.set 0 (.int .u8 1)) (by decide) (.int .i32 0)
  refine rdone_new (by simp [HX.out]) (by simpa using hs3) ?_ ?_
  · rintro b ((hb | hb) | hb)
    · exact hb.elim
    · simp at hb; omega
    · simp at hb; omega
  · refine ((((Below.refl _ w).alloc (Nat.le_refl _) _).alloc (by simp) _).trans (hmod1.below (by simp; omega) (fun b hb => hb.elim)) |>.alloc (by omega) _).trans (hmod2.below (by simp; omega) ?_) |>.trans (m3.below (by omega) fun b hb => by omega)
    rintro b (hb | hb)
    · exact hb.elim
    · simp at hb; omega

theorem rDo_pop (w : World) (most : Int) (A : Option Addr) (n c : Nat) (R : Nat → Prop) (xs : List Int) (x : Int) (hx : xs.length = n) (hc : n + 1 ≤ c) (hr : Rd w R 1 A (n + 1) ((xs ++ [x]).map fun x => Value.int .i32 x)) (v : Int) (hn : n ≤ 100000) :
    Calls Try.prog 25 #[.int .i64 most, .slice A (n + 1) c, .agg #[.int .u8 2, .int .i32 v]] w (RDone w A (n + 1) (xs ++ [x]) xs 2 x) := by
  obtain ⟨i0, hi0, hz0, hz1, hz2⟩ := info_parts info_i32
  have HX := Lib.hid hx
  obtain ⟨b, off, rfl, hbR, hcells⟩ := hr.at (by omega)
  have hx0 : w.cell? ⟨b, off + n, none⟩ = some (.int .i32 x) := hcells n _ (by simp [← hx])
  have hlt := World.block_lt_of_cell? w _ hx0
  simp only at hlt
  have hr2 : Rd w R 1 (some ⟨b, off, none⟩) n (xs.map fun x => Value.int .i32 x) := ⟨by simpa using hx, fun _ => ⟨b, off, rfl, hbR, fun j u hu => hcells j u (by
    have hj : j < xs.length := by simpa using (List.getElem?_eq_some_iff.1 hu).1
    rw [List.map_append, List.getElem?_append_left (by simpa using hj)]
    exact hu)⟩⟩
  clear hx hcells
  have h1 : ∀ u ∈ xs.map fun x => Value.int .i32 x, u.oneCell' = true := by intro u hu; obtain ⟨x, _, rfl⟩ := List.mem_map.1 hu; rfl
  go_enter Try.func25, Try.ntmps25
  go_wp2_with (at_builtin; refine wpList_append_sl _ rfl (.tmp 45) (.tmp 50) _ rfl 21 i0 _ 1 4 Try.underlying22 hi0 hz0 hz1 hz2 rfl (by omega) none 0 0 [] (fun _ => False) rfl (Sl.nil _ _ _ _) R (some ⟨b, off, none⟩) n c _ rfl (by exact (hr2.alloc _).alloc _) h1 (by simp only [maxLen]; omega) (by omega) ?_; intro A1 c1 w1 hown1 hmod1; rw [Nat.zero_add, List.nil_append] at hown1; have hx1 := ((hmod1.cell (p := ⟨b, off + n, none⟩) (by simp; omega) (fun h => h)).trans (((World.cell?_alloc_lt _ _ _ (by simp; omega)).trans (World.cell?_alloc_lt _ _ _ hlt)).trans hx0)); have hR := (Blk.new (w.alloc (.cells #[.int .u8 2, .int .i32 v] 37)) 34 #[.int .u8 0, .int .i32 0]).mod hmod1 (by simp); rw [World.size_alloc] at hR; have r0 : w1.cell? ⟨w.heap.size + 1, 0, none⟩ = some (.int .u8 0) := hR.cell 0; have r1 : w1.cell? ⟨w.heap.size + 1, 1, none⟩ = some (.int .i32 0) := hR.cell 1; have f0 := hR.frozen 0; have f1 := hR.frozen 1)
  have hw : IntKind.i64.wrap ((n : Int) + 1 - 1) = (n : Int) := by rw [Int.add_sub_cancel]; exact IntWalk.i64_in _ (by omega)
  have hw1 : (0 : Int) ≤ (n : Int) := by omega
  have hw2 : (n : Int) < (n : Int) + 1 := by omega
  go_region
  all_goals go_wp2
  all_goals
    obtain ⟨q0, q1, m3⟩ := two_cells (.int .u8 2) (.int .i32 x) hR
    refine bodyPost_ret (v := .tuple #[.slice A1 n c1, res 2 x]) (by simp [results, Try.results25, go_sem, q0, q1]) rfl ?_
    have hs3 := (hown1.farT (p := ⟨w.heap.size + 1, 0, none⟩) hR (by decide) (.int .u8 2)).farT (p := ⟨w.heap.size + 1, 1, none⟩) (hR.set 0 (.int .u8 2)) (by decide) (.int .i32 x)
    have z1 := hmod1.size
    simp only [World.size_alloc] at z1
    refine rdone_new HX.out hs3.drew ?_ ?_
    · rintro b (hb | hb)
      · exact hb.elim
      · simp at hb; omega
    · exact ((((Below.refl _ w).alloc (Nat.le_refl _) _).alloc (by simp) _).trans (hmod1.below (by simp; omega) (fun b hb => hb.elim)) |>.trans (m3.below (by omega) fun b hb => by omega)).drew

/-- The document's operation and the program's tell the same. -/
theorem rDo_any (w : World) (most : Int) (A : Option Addr) (n c : Nat) (R : Nat → Prop) (xs : List Int) (hx : xs.length = n) (hc : n ≤ c) (hr : Rd w R 1 A n (xs.map fun x => Value.int .i32 x)) (hn : n ≤ cut most) (k v : Int) :
    Calls Try.prog 25 #[.int .i64 most, .slice A n c, .agg #[.int .u8 k, .int .i32 v]] w (RDone w A n xs (sDo (cut most) xs k v).1 (sDo (cut most) xs k v).2.1 (sDo (cut most) xs k v).2.2) := by
  have hc1000 : cut most ≤ 1000 := by unfold cut; omega
  by_cases h1 : k = 1
  · subst h1
    by_cases h : n < cut most
    · have e : sDo (cut most) xs 1 v = (xs ++ [v], 1, 0) := by simp only [sDo, if_true]; rw [if_pos (by omega)]
      rw [e]
      exact rDo_push w most A n c R xs hr v h
    · have e : sDo (cut most) xs 1 v = (xs, 3, 0) := by simp only [sDo, if_true]; rw [if_neg (by omega)]
      rw [e]
      exact rDo_same w most A n c xs hx hc 1 v 3 (.inl ⟨rfl, by omega, rfl⟩)
  · by_cases h2 : k = 2
    · subst h2
      rcases List.eq_nil_or_concat xs with rfl | ⟨xs, x, rfl⟩
      · exact rDo_same w most A n c [] hx hc 2 v 4 (.inr (.inl ⟨rfl, by simpa using hx.symm, rfl⟩))
      · rw [List.concat_eq_append] at hx hr ⊢
        have e : sDo (cut most) (xs ++ [x]) 2 v = (xs, 2, x) := by simp [sDo]
        rw [e]
        obtain ⟨n, rfl⟩ : ∃ m, n = m + 1 := ⟨n - 1, by simp at hx; omega⟩
        exact rDo_pop w most A n c R xs x (by simpa using hx) hc hr v (by omega)
    · have e : sDo (cut most) xs k v = (xs, 5, 0) := by simp [sDo, h1, h2]
      rw [e]
      exact rDo_same w most A n c xs hx hc k v 5 (.inr (.inr ⟨h1, h2, rfl⟩))
end Go.Proofs.Ytgnpchafcalkgaa
