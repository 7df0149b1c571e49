/-
  The document's stack: an operation; what it tells.
-/
import Derived.Test.YtehmnhdmkjdghaaRingC
import Derived.ChangeAlike
import Derived.RegionTactic
namespace Go.Proofs.Ytehmnhdmkjdghaa
open Go.RowKit Go.Rp

theorem info_i32 : (Try.prog.info? 21).map (fun i => (i.zero, i.size, i.bytes)) = some (some (.int .i32 0), 1, 4) := by kernel_rfl
/-- What an operation of a stack is told, and the items behind it. -/
def sDo (most : Nat) (l : List Int) (k v : Int) : List Int × Int × Int :=
  if k = 1 then (if l.length < most then (l ++ [v], 1, 0) else (l, 3, 0))
  else if k = 2 then (match l.getLast? with | some x => (l.dropLast, 2, x) | none => (l, 4, 0))
  else (l, 5, 0)
theorem rMost_any (w : World) (m : Int) : Calls Try.prog 27 #[.int .i64 m] w fun e w' => e = .returned (.int .i64 (cut m : Int)) ∧ w = w' := by
  by_cases h1 : m ≤ 0
  · have e : ((cut m : Nat) : Int) = 0 := by unfold cut; omega
    rw [e]
    have H := Lib.hid e
    clear e
    go_enter Try.func27, Try.ntmps27
    go_wp2
    go_ret
    exact ⟨rfl, rfl⟩
  · by_cases h2 : 1000 < m
    · have e : ((cut m : Nat) : Int) = 1000 := by unfold cut; omega
      rw [e]
      have H := Lib.hid e
      clear e
      go_enter Try.func27, Try.ntmps27
      go_wp2
      go_ret
      exact ⟨rfl, rfl⟩
    · have e : ((cut m : Nat) : Int) = m := by unfold cut; omega
      rw [e]
      have H := Lib.hid e
      clear e
      go_enter Try.func27, Try.ntmps27
      go_wp2
      go_ret
      exact ⟨rfl, rfl⟩

/-- What the document's operation tells: a slice of the items behind it, and what is told. -/
def RDone (w : World) (A : Option Addr) (n : Nat) (xs l' : List Int) (code x : Int) (e : Ending) (w' : World) : Prop :=
  ∃ A' c', e = .returned (.tuple #[.slice A' l'.length c', res code x]) ∧ l'.length ≤ c' ∧ (∀ T : Nat → Prop, Rd w T 1 A n (xs.map fun x => Value.int .i32 x) → Rd w' (grow T w w') 1 A' l'.length (l'.map fun x => Value.int .i32 x)) ∧ Below w.heap.size w w'

theorem rdone_same {w w' : World} {A : Option Addr} {n c : Nat} {xs : List Int} {code : Int} (hx : xs.length = n) (hc : n ≤ c) (hb : Below w.heap.size w w') : RDone w A n xs xs code 0 (.returned (.tuple #[.slice A n c, res code 0])) w' := by
  subst hx
  exact ⟨A, c, rfl, hc, fun T hT => (hT.kept hb).more grow_left, hb⟩
theorem rdone_new {w w' : World} {A A' : Option Addr} {n m c' : Nat} {xs l' : List Int} {code x : Int} {S : Nat → Prop} (hl : l'.length = m) (hs : Sl w' 21 1 A' m c' (l'.map fun x => Value.int .i32 x) S) (hS : ∀ b, S b → w.heap.size ≤ b) (hb : Below w.heap.size w w') :
    RDone w A n xs l' code x (.returned (.tuple #[.slice A' m c', res code x])) w' := by
  subst hl
  exact ⟨A', c', rfl, hs.le, fun T _ => hs.lt.rd.more fun b hb => .inr ⟨hS b hb.1, hb.2⟩, hb⟩

theorem rDo_same (w : World) (most : Int) (A : Option Addr) (n c : Nat) (xs : List Int) (hx : xs.length = n) (hc : n ≤ c) (k v code : Int) (h : (k = 1 ∧ cut most ≤ n ∧ code = 3) ∨ (k = 2 ∧ n = 0 ∧ code = 4) ∨ (k ≠ 1 ∧ k ≠ 2 ∧ code = 5)) :
    Calls Try.prog 12 #[.int .i64 most, .slice A n c, .agg #[.int .u8 k, .int .i32 v]] w (RDone w A n xs xs code 0) := by
  have HX := Lib.hid hx
  clear hx
  rcases h with ⟨rfl, hm, rfl⟩ | ⟨rfl, rfl, rfl⟩ | ⟨h1, h2, rfl⟩
  · have hge : ((cut most : Nat) : Int) ≤ (n : Int) := by omega
    go_enter Try.func12, Try.ntmps12
    go_wp2_with fail
    refine (rMost_any _ _).mono ?_
    rintro e w1 ⟨rfl, rfl⟩
    go_wp2_with fail
    refine bodyPost_ret (v := .tuple #[.slice A n c, res 3 0]) (by simp [results, Try.results12, go_sem]) rfl ?_
    exact rdone_same HX.out hc (((Below.refl _ w).alloc (Nat.le_refl _) _).alloc (by simp) _)
  · go_enter Try.func12, Try.ntmps12
    go_wp2_with fail
    refine bodyPost_ret (v := .tuple #[.slice A 0 c, res 4 0]) (by simp [results, Try.results12, go_sem]) rfl ?_
    exact rdone_same HX.out hc (((Below.refl _ w).alloc (Nat.le_refl _) _).alloc (by simp) _)
  · have e1 : (k == 1) = false := by simpa using h1
    have e2 : (k == 2) = false := by simpa using h2
    go_enter Try.func12, Try.ntmps12
    go_wp2_with fail
    refine bodyPost_ret (v := .tuple #[.slice A n c, res 5 0]) (by simp [results, Try.results12, go_sem]) rfl ?_
    exact rdone_same HX.out hc (((Below.refl _ w).alloc (Nat.le_refl _) _).alloc (by simp) _)

theorem rDo_push (w : World) (most : Int) (A : Option Addr) (n c : Nat) (R : Nat → Prop) (xs : List Int) (hr : Rd w R 1 A n (xs.map fun x => Value.int .i32 x)) (v : Int) (h : n < cut most) :
    Calls Try.prog 12 #[.int .i64 most, .slice A n c, .agg #[.int .u8 1, .int .i32 v]] w (RDone w A n xs (xs ++ [v]) 1 0) := by
  obtain ⟨i0, hi0, hz0, hz1, hz2⟩ := info_parts info_i32
  have hx : xs.length = n := by simpa using hr.1
  have HX := Lib.hid hx
  clear hx
  have hc1000 : cut most ≤ 1000 := by unfold cut; omega
  have hge : ¬ ((cut most : Nat) : Int) ≤ (n : Int) := by omega
  have h1 : ∀ u ∈ xs.map fun x => Value.int .i32 x, u.oneCell' = true := by intro u hu; obtain ⟨x, _, rfl⟩ := List.mem_map.1 hu; rfl
  go_enter Try.func12, Try.ntmps12
  go_wp2_with fail
  refine (rMost_any _ _).mono ?_
  rintro e w1 ⟨rfl, rfl⟩
  go_wp2_with (first
    | (at_builtin; refine wpList_append_sl _ rfl (.tmp 26) (.tmp 27) _ rfl 21 i0 _ 1 4 Try.underlying27 hi0 hz0 hz1 hz2 rfl (by omega) none 0 0 [] (fun _ => False) rfl (Sl.nil _ _ _ _) R A n c _ rfl (by exact (hr.alloc _).alloc _) h1 (by simp only [maxLen]; omega) (by omega) ?_; intro A1 c1 w1 hown1 hmod1; rw [Nat.zero_add, List.nil_append] at hown1; have hO := ((Blk.new w 29 #[.int .u8 1, .int .i32 v]).alloc (.cells #[.int .u8 0, .int .i32 0] 31)).mod hmod1 (by simp); have o1 : w1.cell? ⟨w.heap.size, 1, none⟩ = some (.int .i32 v) := hO.cell 1; have z1 := hmod1.size; simp only [World.size_alloc] at z1)
    | (at_builtin; refine wpList_append_sl _ rfl (.tmp 29) (.tmp 32) _ rfl 21 i0 _ 1 4 Try.underlying27 hi0 hz0 hz1 hz2 rfl (by omega) A1 n c1 _ _ rfl (by exact hown1.alloc _) (· = w1.heap.size) (some ⟨w1.heap.size, 0, none⟩) 1 1 [.int .i32 v] rfl (by exact Rd.lit (sz := 1) w1 _ #[.int .i32 v] 1 rfl) (by simp [Value.oneCell']) (by simp only [maxLen]; omega) (by omega) ?_; intro A2 c2 w2 hown2 hmod2; have hR := (((Blk.new (w.alloc (.cells #[.int .u8 1, .int .i32 v] 29)) 31 #[.int .u8 0, .int .i32 0]).mod hmod1 (by simp)).alloc (.cells #[.int .i32 v] 21)).mod hmod2 (by simp [grow]; omega); rw [World.size_alloc] at hR; have r0 : w2.cell? ⟨w.heap.size + 1, 0, none⟩ = some (.int .u8 0) := hR.cell 0; have r1 : w2.cell? ⟨w.heap.size + 1, 1, none⟩ = some (.int .i32 0) := hR.cell 1; have f0 := hR.frozen 0; have f1 := hR.frozen 1))
  obtain ⟨q0, q1, m3⟩ := two_cells (.int .u8 1) (.int .i32 0) hR
  have z2 := hmod2.size
  simp only [World.size_alloc] at z2
  refine bodyPost_ret (v := .tuple #[.slice A2 (n + 1) c2, res 1 0]) (by simp [results, Try.results12, go_sem, q0, q1]) rfl ?_
  have hs3 := (hown2.farT (p := ⟨w.heap.size + 1, 0, none⟩) hR (by decide) (.int .u8 1)).farT (p := ⟨w.heap.size + 1, 1, none⟩) (hR.set 0 (.int .u8 1)) (by decide) (.int .i32 0)
  refine rdone_new (by simp [HX.out]) (by simpa using hs3) ?_ ?_
  · rintro b ((hb | hb) | hb)
    · exact hb.elim
    · simp at hb; omega
    · simp at hb; omega
  · refine ((((Below.refl _ w).alloc (Nat.le_refl _) _).alloc (by simp) _).trans (hmod1.below (by simp; omega) (fun b hb => hb.elim)) |>.alloc (by omega) _).trans (hmod2.below (by simp; omega) ?_) |>.trans (m3.below (by omega) fun b hb => by omega)
    rintro b (hb | hb)
    · exact hb.elim
    · simp at hb; omega

theorem rDo_pop (w : World) (most : Int) (A : Option Addr) (n c : Nat) (R : Nat → Prop) (xs : List Int) (x : Int) (hx : xs.length = n) (hc : n + 1 ≤ c) (hr : Rd w R 1 A (n + 1) ((xs ++ [x]).map fun x => Value.int .i32 x)) (v : Int) (hn : n ≤ 100000) :
    Calls Try.prog 12 #[.int .i64 most, .slice A (n + 1) c, .agg #[.int .u8 2, .int .i32 v]] w (RDone w A (n + 1) (xs ++ [x]) xs 2 x) := by
  obtain ⟨i0, hi0, hz0, hz1, hz2⟩ := info_parts info_i32
  have HX := Lib.hid hx
  obtain ⟨b, off, rfl, hbR, hcells⟩ := hr.at (by omega)
  have hx0 : w.cell? ⟨b, off + n, none⟩ = some (.int .i32 x) := hcells n _ (by simp [← hx])
  have hlt := World.block_lt_of_cell? w _ hx0
  simp only at hlt
  have hr2 : Rd w R 1 (some ⟨b, off, none⟩) n (xs.map fun x => Value.int .i32 x) := ⟨by simpa using hx, fun _ => ⟨b, off, rfl, hbR, fun j u hu => hcells j u (by
    have hj : j < xs.length := by simpa using (List.getElem?_eq_some_iff.1 hu).1
    rw [List.map_append, List.getElem?_append_left (by simpa using hj)]
    exact hu)⟩⟩
  clear hx hcells
  have h1 : ∀ u ∈ xs.map fun x => Value.int .i32 x, u.oneCell' = true := by intro u hu; obtain ⟨x, _, rfl⟩ := List.mem_map.1 hu; rfl
  go_enter Try.func12, Try.ntmps12
  go_wp2_with (at_builtin; refine wpList_append_sl _ rfl (.tmp 45) (.tmp 50) _ rfl 21 i0 _ 1 4 Try.underlying27 hi0 hz0 hz1 hz2 rfl (by omega) none 0 0 [] (fun _ => False) rfl (Sl.nil _ _ _ _) R (some ⟨b, off, none⟩) n c _ rfl (by exact (hr2.alloc _).alloc _) h1 (by simp only [maxLen]; omega) (by omega) ?_; intro A1 c1 w1 hown1 hmod1; rw [Nat.zero_add, List.nil_append] at hown1; have hx1 := ((hmod1.cell (p := ⟨b, off + n, none⟩) (by simp; omega) (fun h => h)).trans (((World.cell?_alloc_lt _ _ _ (by simp; omega)).trans (World.cell?_alloc_lt _ _ _ hlt)).trans hx0)); have hR := (Blk.new (w.alloc (.cells #[.int .u8 2, .int .i32 v] 29)) 31 #[.int .u8 0, .int .i32 0]).mod hmod1 (by simp); rw [World.size_alloc] at hR; have r0 : w1.cell? ⟨w.heap.size + 1, 0, none⟩ = some (.int .u8 0) := hR.cell 0; have r1 : w1.cell? ⟨w.heap.size + 1, 1, none⟩ = some (.int .i32 0) := hR.cell 1; have f0 := hR.frozen 0; have f1 := hR.frozen 1)
  have hw : IntKind.i64.wrap ((n : Int) + 1 - 1) = (n : Int) := by rw [Int.add_sub_cancel]; exact IntWalk.i64_in _ (by omega)
  have hw1 : (0 : Int) ≤ (n : Int) := by omega
  have hw2 : (n : Int) < (n : Int) + 1 := by omega
  go_region
  all_goals go_wp2
  all_goals
    obtain ⟨q0, q1, m3⟩ := two_cells (.int .u8 2) (.int .i32 x) hR
    refine bodyPost_ret (v := .tuple #[.slice A1 n c1, res 2 x]) (by simp [results, Try.results12, go_sem, q0, q1]) rfl ?_
    have hs3 := (hown1.farT (p := ⟨w.heap.size + 1, 0, none⟩) hR (by decide) (.int .u8 2)).farT (p := ⟨w.heap.size + 1, 1, none⟩) (hR.set 0 (.int .u8 2)) (by decide) (.int .i32 x)
    have z1 := hmod1.size
    simp only [World.size_alloc] at z1
    refine rdone_new HX.out hs3.drew ?_ ?_
    · rintro b (hb | hb)
      · exact hb.elim
      · simp at hb; omega
    · exact ((((Below.refl _ w).alloc (Nat.le_refl _) _).alloc (by simp) _).trans (hmod1.below (by simp; omega) (fun b hb => hb.elim)) |>.trans (m3.below (by omega) fun b hb => by omega)).drew

/-- The document's operation and the program's tell the same. -/
theorem rDo_any (w : World) (most : Int) (A : Option Addr) (n c : Nat) (R : Nat → Prop) (xs : List Int) (hx : xs.length = n) (hc : n ≤ c) (hr : Rd w R 1 A n (xs.map fun x => Value.int .i32 x)) (hn : n ≤ cut most) (k v : Int) :
    Calls Try.prog 12 #[.int .i64 most, .slice A n c, .agg #[.int .u8 k, .int .i32 v]] w (RDone w A n xs (sDo (cut most) xs k v).1 (sDo (cut most) xs k v).2.1 (sDo (cut most) xs k v).2.2) := by
  have hc1000 : cut most ≤ 1000 := by unfold cut; omega
  by_cases h1 : k = 1
  · subst h1
    by_cases h : n < cut most
    · have e : sDo (cut most) xs 1 v = (xs ++ [v], 1, 0) := by simp only [sDo, if_true]; rw [if_pos (by omega)]
      rw [e]
      exact rDo_push w most A n c R xs hr v h
    · have e : sDo (cut most) xs 1 v = (xs, 3, 0) := by simp only [sDo, if_true]; rw [if_neg (by omega)]
      rw [e]
      exact rDo_same w most A n c xs hx hc 1 v 3 (.inl ⟨rfl, by omega, rfl⟩)
  · by_cases h2 : k = 2
    · subst h2
      rcases List.eq_nil_or_concat xs with rfl | ⟨xs, x, rfl⟩
      · exact rDo_same w most A n c [] hx hc 2 v 4 (.inr (.inl ⟨rfl, by simpa using hx.symm, rfl⟩))
      · rw [List.concat_eq_append] at hx hr ⊢
        have e : sDo (cut most) (xs ++ [x]) 2 v = (xs, 2, x) := by simp [sDo]
        rw [e]
        obtain ⟨n, rfl⟩ : ∃ m, n = m + 1 := ⟨n - 1, by simp at hx; omega⟩
        exact rDo_pop w most A n c R xs x (by simpa using hx) hc hr v (by omega)
    · have e : sDo (cut most) xs k v = (xs, 5, 0) := by simp [sDo, h1, h2]
      rw [e]
      exact rDo_same w most A n c xs hx hc k v 5 (.inr (.inr ⟨h1, h2, rfl⟩))
end Go.Proofs.Ytehmnhdmkjdghaa
