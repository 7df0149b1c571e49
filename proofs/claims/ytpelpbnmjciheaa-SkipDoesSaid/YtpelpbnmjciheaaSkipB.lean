/-
  Lists that skip: New, Len, Most, a tower, the path ahead of all.
-/
import Derived.Test.YtpelpbnmjciheaaProg
import Derived.Test.YtpelpbnmjciheaaSkipA
import Derived.WalkKit
import Derived.WalkLawsBesides
import Derived.WalkSpells
import Derived.Lib.Hide
import Derived.Deep.QuietTactic
import Derived.BigQuiet
import Derived.StillTailTactics
import Derived.Deep.RegionHeld3
import Derived.Deep.LoopGhost
import Derived.Deep.MidRow
namespace Go.Proofs.Ytpelpbnmjciheaa
open Go.RowKit Go.Rp

theorem min_ii {k : IntKind} {x y z : Int} (h : min x y = z) (ats : Array TypeId) (ty : TypeId) : Go.Builtin.min_ ats ty #[.int k x, .int k y] = (pure (.int k z) : Sem Value) := by
  have e : (if y < x then y else x) = z := by rw [← h, Int.min_def]; split <;> split <;> omega
  show ([Value.int k y].foldlM Go.Builtin.min2 (.int k x) : Sem Value) = _
  simp only [List.foldlM, Go.Builtin.min2, e]
  rfl
theorem max_ii {k : IntKind} {x y z : Int} (h : max x y = z) (ats : Array TypeId) (ty : TypeId) : Go.Builtin.max_ ats ty #[.int k x, .int k y] = (pure (.int k z) : Sem Value) := by
  have e : (if x < y then y else x) = z := by rw [← h, Int.max_def]; split <;> split <;> omega
  show ([Value.int k y].foldlM Go.Builtin.max2 (.int k x) : Sem Value) = _
  simp only [List.foldlM, Go.Builtin.max2, e]
  rfl

theorem path_info : (Try.prog.info? 53).map (·.size) = some 8 := by kernel_rfl
theorem linkC_size (f : Nat → Option Nat) : (linkC f).size = 8 := rfl
theorem linkC_one (f : Nat → Option Nat) : (linkC f).all (·.oneCell') = true := by
  have h : ∀ x, (np x).oneCell' = true := fun x => by cases x <;> rfl
  unfold linkC
  simp [h]
/-- A path's block as a whole: read .. -/
theorem load_path {w : World} {b : Nat} {t : TypeId} {f : Nat → Option Nat} (h : Blk w b t (linkC f)) : (loadVar 53 ⟨b, 0, none⟩).run Try.prog w = .ok (.agg (linkC f)) w :=
  run_loadVar_row w b t 53 (linkC f) (0, 0) _ h Try.underlying53 rfl (by rw [path_info, linkC_size])
theorem setRow_blk {w : World} {b : Nat} {t : TypeId} {cs : Array Value} (h : Blk w b t cs) (cs' : Array Value) : Blk (w.setRow b cs') b t cs' ∧ Mod (fun x => x = b) w (w.setRow b cs') :=
  ⟨setRow_heap w b cs cs' t (0, 0) h, rfl, rfl, rfl, by simp, fun k _ hk => setRow_other w b k cs' hk⟩
/-- .. and written. -/
theorem store_path {w : World} {b : Nat} {t : TypeId} {cs : Array Value} (h : Blk w b t cs) (hcs : cs.size = 8) (f : Nat → Option Nat) : (storeVar 53 ⟨b, 0, none⟩ (.agg (linkC f))).run Try.prog w = .ok () (w.setRow b (linkC f)) :=
  run_storeVar_row w b t 53 cs (linkC f) h (by rw [path_info, linkC_size]) (by rw [hcs, linkC_size]) (linkC_one f)
section
variable {ops : Array Oper} {rest : List Oper} {o : Oper} {a : Act} {w : World} {Q : Exit → Act → World → Prop} {b : Nat} {t : TypeId} {cs : Array Value} {f : Nat → Option Nat}
theorem wpList_load_path (hg : o.guard = none) (x : Operand) (ho : o.op = .load 53 x) (hx : a.eval x = .pointer (some ⟨b, 0, none⟩)) (h : Blk w b t (linkC f))
    (hK : wpList Try.prog ops Q rest (a.put o.dst (.agg (linkC f))) w) : wpList Try.prog ops Q (o :: rest) a w := wpList_plain hg fun _ hK' => by
  unfold Oper.wp execOp
  simp only [ho, hx, Instr.loadAt, Instr.sureAddr, Sem.run_bind, Sem.run_pure, Result.andThen_ok, load_path h]
  exact hK' _ _ hK
theorem wpList_store_path (hg : o.guard = none) (x y : Operand) (ho : o.op = .store 53 x y) (hx : a.eval x = .pointer (some ⟨b, 0, none⟩)) (hy : a.eval y = .agg (linkC f)) (h : Blk w b t cs) (hcs : cs.size = 8)
    (hK : ∀ w', Blk w' b t (linkC f) → Mod (fun x => x = b) w w' → wpList Try.prog ops Q rest (a.put o.dst undef) w') : wpList Try.prog ops Q (o :: rest) a w := wpList_plain hg fun _ hK' => by
  unfold Oper.wp execOp
  simp only [ho, hx, hy, Instr.storeAt, Instr.sureAddr, Sem.run_bind, Sem.run_pure, Result.andThen_ok, store_path h hcs f]
  obtain ⟨h1, h2⟩ := setRow_blk h (linkC f)
  exact hK' _ _ (hK _ h1 h2)
end
theorem results_path {fn : Func} {tmps : Array Value} {i : Nat} {w : World} {b : Nat} {t : TypeId} {f : Nat → Option Nat} (hf : fn.results = #[.cell i 53]) (ht : tmps.getD i undef = .pointer (some ⟨b, 0, none⟩)) (h : Blk w b t (linkC f)) :
    (results fn tmps).run Try.prog w = .ok (.agg (linkC f)) w := by
  unfold results
  rw [hf]
  rw [Array.getD_eq_getD_getElem?] at ht
  simp [Sem.run_bind, Sem.run_pure, ht, asAddr, load_path h]
/-- A number brought between bounds. -/
def clamp (lo hi n : Int) : Nat := (max lo (min n hi)).toNat
def mostI (n : Int) : Nat := clamp 0 1000 n
def tallI (n : Int) : Nat := clamp 1 8 n
theorem clamp_eq {lo hi : Int} (h : 0 ≤ lo) (n : Int) : max lo (min n hi) = (clamp lo hi n : Int) := by
  unfold clamp
  have : lo ≤ max lo (min n hi) := Int.le_max_left ..
  omega
theorem tallI_le (n : Int) : 1 ≤ tallI n ∧ tallI n ≤ 8 := by
  unfold tallI clamp
  omega

theorem new_any (n : Int) (w : World) : Calls Try.prog 8 #[.int .i64 n] w fun e w' => e = .returned (.pointer (some ⟨w.heap.size, 0, none⟩)) ∧ w' = w.alloc (.cells (skC (fun _ => none) 0 (mostI n)) 52) := by
  obtain ⟨a, ha⟩ : ∃ a, min n 1000 = a := ⟨_, rfl⟩
  obtain ⟨m, hm⟩ : ∃ m : Nat, mostI n = m := ⟨_, rfl⟩
  have hb : max 0 a = (m : Int) := by rw [← ha, ← hm]; exact clamp_eq (by omega) n
  have h1 := min_ii (k := .i64) ha
  have h2 := max_ii (k := .i64) hb
  rw [hm]
  clear ha hb hm
  go_enter Try.func8, Try.ntmps8
  go_wp2
  go_ret
  exact ⟨rfl, rfl⟩
theorem len_any {w : World} {s many most : Nat} {T : List Tw} {g : Nat → Nat → Option Nat} {S : Nat → Prop} (h : Links w s many most T g S) : Calls Try.prog 28 #[.pointer (some ⟨s, 0, none⟩)] w fun e w' => e = .returned (.int .i64 (many : Int)) ∧ w' = w := by
  obtain ⟨h1, h2, _⟩ := h.sizes
  go_enter Try.func28, Try.ntmps28
  go_wp2
  go_ret
  exact ⟨rfl, rfl⟩
theorem most_any {w : World} {s many most : Nat} {T : List Tw} {g : Nat → Nat → Option Nat} {S : Nat → Prop} (h : Links w s many most T g S) : Calls Try.prog 13 #[.pointer (some ⟨s, 0, none⟩)] w fun e w' => e = .returned (.int .i64 (most : Int)) ∧ w' = w := by
  obtain ⟨h1, h2, _⟩ := h.sizes
  go_enter Try.func13, Try.ntmps13
  go_wp2
  go_ret
  exact ⟨rfl, rfl⟩
theorem len_none (w : World) : Calls Try.prog 28 #[.pointer none] w fun e w' => e = .returned (.int .i64 0) ∧ w' = w := by
  go_enter Try.func28, Try.ntmps28
  go_wp2
  go_ret
  exact ⟨rfl, rfl⟩
theorem most_none (w : World) : Calls Try.prog 13 #[.pointer none] w fun e w' => e = .returned (.int .i64 0) ∧ w' = w := by
  go_enter Try.func13, Try.ntmps13
  go_wp2
  go_ret
  exact ⟨rfl, rfl⟩
theorem tall_any (v n : Int) (w : World) : Calls Try.prog 21 #[.int .i32 v, .int .i64 n] w fun e w' => e = .returned (.pointer (some ⟨w.heap.size, 0, none⟩)) ∧ w' = w.alloc (.cells (towC v (tallI n) fun _ => none) 50) := by
  obtain ⟨a, ha⟩ : ∃ a, min n 8 = a := ⟨_, rfl⟩
  obtain ⟨m, hm⟩ : ∃ m : Nat, tallI n = m := ⟨_, rfl⟩
  have hb : max 1 a = (m : Int) := by rw [← ha, ← hm]; exact clamp_eq (by omega) n
  have h1 := min_ii (k := .i64) ha
  have h2 := max_ii (k := .i64) hb
  rw [hm]
  clear ha hb hm
  go_enter Try.func21, Try.ntmps21
  go_wp2
  go_ret
  exact ⟨rfl, rfl⟩
theorem begin_any {w : World} {s many most : Nat} {T : List Tw} {g : Nat → Nat → Option Nat} {S : Nat → Prop} (h : Links w s many most T g S) : Calls Try.prog 18 #[.pointer (some ⟨s, 0, none⟩)] w fun e w' => e = .returned (.agg (pathC fun _ => s)) ∧ Below w.heap.size w w' := by
  go_enter Try.func18, Try.ntmps18
  go_wp2
  go_loopg [5] 8 (fun g k wr => ∃ m : Nat, m + g = 8 ∧ k = .int .i64 (m : Int) ∧ Blk wr w.heap.size 53 (linkC fun _ => none) ∧ Blk wr (w.heap.size + 1) 53 (linkC fun j => if j < m then some s else none) ∧ Below w.heap.size w wr)
  case atStart =>
    exact ⟨0, rfl, rfl, (Blk.new w _ _).alloc _, by have := Blk.new (w.alloc (.cells (linkC fun _ => none) 53)) 53 (linkC fun _ => none); rw [World.size_alloc] at this; exact this, ((Below.refl _ w).alloc (Nat.le_refl _) _).alloc (by simp) _⟩
  case round =>
    obtain ⟨m, hm, rfl, h1, h2, hb⟩ := hrel
    by_cases hlt : m < 8
    · have hc := (h2.cell m).trans (linkC_at _ hlt)
      have hf := h2.frozen m
      go_wp2
      go_roundg (7 - m)
      case measure => omega
      case rel =>
        have h3 := h2.set m (np (some s))
        rw [linkC_set _ hlt] at h3
        refine ⟨m + 1, by omega, by go_num, h1.far (by simp) _, ?_, hb.setCell (by simp) _⟩
        rw [linkC_congr (g := fun j => if j < m + 1 then some s else none) fun j hj => by
          by_cases e : j = m
          · subst e; simp
          · by_cases h : j < m
            · simp [h, e]; omega
            · rw [if_neg e, if_neg h, if_neg (by omega)]] at h3
        exact h3
    · obtain rfl : m = 8 := by omega
      rw [linkC_congr (g := fun _ => some s) fun j hj => if_pos hj] at h2
      go_wp2_with (first | (refine wpList_load_path rfl _ rfl rfl h2 ?_) | (refine wpList_store_path rfl _ _ rfl rfl rfl h1 rfl ?_; intro w2 h3 hm2))
      exact bodyPost_ret (results_path rfl rfl h3) rfl ⟨rfl, hb.trans (hm2.below (by have := hb.size; omega) fun x hx => by omega)⟩
end Go.Proofs.Ytpelpbnmjciheaa
