/-
  Apply at a deque: its closure.
-/
import Derived.Test.YtgaomaaloaglpaaEndsR4
import Derived.Test.YtgaomaaloaglpaaEndsS
import Derived.Test.YtgaomaaloaglpaaEndsT
namespace Go.Proofs.Ytgaomaaloaglpaa
open Go.RowKit Go.Rp

/-- What the first k are told, as cells. -/
def vV (l0 : List Int) (mo : Nat) (ops : List (Int × Int)) (k : Nat) : Value := .int .i32 (mVal l0 mo ops k)
abbrev valsR (gv n : Nat) (xs : List Value) : Res := slRes 21 1 (some ⟨gv, 0, none⟩) n n xs
abbrev vboxR (q gv n : Nat) : Res := blkR q 65 #[.slice (some ⟨gv, 0, none⟩) n n]
abbrev oboxR (q : Nat) (A : Option Addr) (n c : Nat) : Res := blkR q 22 #[.slice A n c]
abbrev bound (f : Nat) (p : Option Addr) : Value := .func (.func f) #[.pointer p] #[]
abbrev takeR (q : Nat) (p : Option Addr) : Res := blkR q 62 #[bound 28 p, bound 29 p]
abbrev putR (q : Nat) (p : Option Addr) : Res := blkR q 64 #[bound 30 p, bound 31 p]

section
variable {B : Nat} {w : World} {L : List Res} {A : Option Addr} {n c bv bo bt gv k j : Nat} {ops : List (Int × Int)} {xs : List Value} {p : Option Addr}
theorem met2_s (hB : B ≤ w.heap.size) (h : At B w (valsR gv n xs :: vboxR bv gv n :: oboxR bo A n c :: L)) {R : Nat → Prop} (hr : Rd w R 2 A n (ops.flatMap opIn)) (hn : ops.length = n) (hk : k < n) (hj : j < n) (hlen : n ≤ 100000) {u : Value} (hu : xs[k]? = some u) (e : Int) :
    Calls Try.prog 32 #[.int .i64 (k : Int), .int .i64 e, .int .i64 (j : Int), .pointer (some ⟨bt, 0, none⟩), .pointer (some ⟨bv, 0, none⟩), .pointer (some ⟨bo, 0, none⟩)] w fun e w' => e = .returned (.tuple #[]) ∧ At B w' (valsR gv n (xs.set k (.int .i32 (valAt ops j))) :: vboxR bv gv n :: oboxR bo A n c :: L) ∧ Below B w w' := by
  have kb : w.cell? ⟨bv, 0, none⟩ = some (.slice (some ⟨gv, 0, none⟩) n n) := h.rot2.blk.cell 0
  have kc : w.cell? ⟨bo, 0, none⟩ = some (.slice A n c) := h.rot3.blk.cell 0
  have hjl : j < ops.length := by omega
  obtain ⟨b, off, rfl, _, hcells⟩ := hr.at (by omega)
  obtain ⟨c0, c1⟩ := op_at ops j hjl
  have g1 : w.cell? ⟨b, off + j * 2 + 1, none⟩ = some (.int .i32 (valAt ops j)) := by rw [valAt_lt hjl]; exact hcells _ _ c1
  obtain ⟨k1, k2, k3⟩ := h.slat hB k u hu
  obtain ⟨k4, k5⟩ := k3 (.int .i32 (valAt ops j))
  have k4 := k4.drew
  have k5 : Below B w ((w.setCell ⟨gv, k, none⟩ (.int .i32 (valAt ops j))).drew) := k5.drew
  have hkn : (k : Int) < (n : Int) := by omega
  have hjn : (j : Int) < (n : Int) := by omega
  have hj0 : ¬ (j : Int) < 0 := by omega
  generalize valAt ops j = vl at *
  clear k3 h hu hcells c0 c1 hr hn
  go_enter Try.func32, Try.ntmps32
  go_wp2_with fail
  go_region
  all_goals
    go_wp2_with fail
    go_end0
    exact ⟨rfl, k4, k5⟩
theorem taken0_s {pp mo : Nat} {T : List Int} {x : Int} (hB : B ≤ w.heap.size) (h : At B w (valsR gv n xs :: vboxR bv gv n :: takeR bt (some ⟨pp, 0, none⟩) :: ringR pp mo (x :: T) :: L)) (hk : k < n) (hlen : n ≤ 100000) {u : Value} (hu : xs[k]? = some u) :
    Calls Try.prog 32 #[.int .i64 (k : Int), .int .i64 0, .int .i64 (-1), .pointer (some ⟨bt, 0, none⟩), .pointer (some ⟨bv, 0, none⟩), .pointer (some ⟨bo, 0, none⟩)] w fun e w' => e = .returned (.tuple #[]) ∧ At B w' (valsR gv n (xs.set k (.int .i32 x)) :: vboxR bv gv n :: takeR bt (some ⟨pp, 0, none⟩) :: ringR pp mo T :: L) ∧ Below B w w' := by
  have kb : w.cell? ⟨bv, 0, none⟩ = some (.slice (some ⟨gv, 0, none⟩) n n) := h.rot2.blk.cell 0
  have kc0 : w.cell? ⟨bt, 0, none⟩ = some (bound 28 (some ⟨pp, 0, none⟩)) := h.rot3.blk.cell 0
  have kc1 : w.cell? ⟨bt, 1, none⟩ = some (bound 29 (some ⟨pp, 0, none⟩)) := h.rot3.blk.cell 1
  have hkn : (k : Int) < (n : Int) := by omega
  have hpop := popL_s (w := World.drew w) hB (x := x) (Sep.drew h).rot4
  have hst := fun (w5 : World) (h5 : At B w5 (ringR pp mo T :: valsR gv n xs :: vboxR bv gv n :: takeR bt (some ⟨pp, 0, none⟩) :: L)) (hB5 : B ≤ w5.heap.size) => (Sep.rot2 h5).slat hB5 k u hu
  go_enter Try.func32, Try.ntmps32
  go_wp2_with fail
  go_region_held3 (fun w' => w'.cell? ⟨bv, 0, none⟩ = some (.slice (some ⟨gv, 0, none⟩) n n) ∧ w'.cell? ⟨bt, 0, none⟩ = some (bound 28 (some ⟨pp, 0, none⟩)) ∧ w'.cell? ⟨bt, 1, none⟩ = some (bound 29 (some ⟨pp, 0, none⟩))) (first | (refine ⟨?_, ?_, ?_⟩ <;> assumption) | go_keep) (first
    | (go_at_call 28; ((with_reducible refine hpop.mono ?_); rintro e w5 ⟨rfl, s5, b5⟩; obtain ⟨k1, k2, k3⟩ := hst w5 s5 (Nat.le_trans hB b5.size); obtain ⟨k4, k5⟩ := k3 (.int .i32 x); have kb : w5.cell? ⟨bv, 0, none⟩ = some (.slice (some ⟨gv, 0, none⟩) n n) := s5.rot3.blk.cell 0; have kc0 : w5.cell? ⟨bt, 0, none⟩ = some (bound 28 (some ⟨pp, 0, none⟩)) := s5.rot4.blk.cell 0; have kc1 : w5.cell? ⟨bt, 1, none⟩ = some (bound 29 (some ⟨pp, 0, none⟩)) := s5.rot4.blk.cell 1; have kb2 : (w5.setCell ⟨gv, k, none⟩ (.int .i32 x)).cell? ⟨bv, 0, none⟩ = some (.slice (some ⟨gv, 0, none⟩) n n) := (Sep.rot3 k4).blk.cell 0; have kc2 : (w5.setCell ⟨gv, k, none⟩ (.int .i32 x)).cell? ⟨bt, 0, none⟩ = some (bound 28 (some ⟨pp, 0, none⟩)) := (Sep.rot4 k4).blk.cell 0; have kc3 : (w5.setCell ⟨gv, k, none⟩ (.int .i32 x)).cell? ⟨bt, 1, none⟩ = some (bound 29 (some ⟨pp, 0, none⟩)) := (Sep.rot4 k4).blk.cell 1)))
  go_wp2_with fail
  go_end0
  exact ⟨rfl, Sep.cons (fun _ h => Sep.rot3 (Sep.rot3 h)) k4, ((Below.refl _ w).drew.trans b5).trans k5⟩
theorem taken1_s {pp mo : Nat} {T : List Int} {x : Int} (hB : B ≤ w.heap.size) (h : At B w (valsR gv n xs :: vboxR bv gv n :: takeR bt (some ⟨pp, 0, none⟩) :: ringR pp mo (T ++ [x]) :: L)) (hk : k < n) (hlen : n ≤ 100000) {u : Value} (hu : xs[k]? = some u) :
    Calls Try.prog 32 #[.int .i64 (k : Int), .int .i64 1, .int .i64 (-1), .pointer (some ⟨bt, 0, none⟩), .pointer (some ⟨bv, 0, none⟩), .pointer (some ⟨bo, 0, none⟩)] w fun e w' => e = .returned (.tuple #[]) ∧ At B w' (valsR gv n (xs.set k (.int .i32 x)) :: vboxR bv gv n :: takeR bt (some ⟨pp, 0, none⟩) :: ringR pp mo T :: L) ∧ Below B w w' := by
  have kb : w.cell? ⟨bv, 0, none⟩ = some (.slice (some ⟨gv, 0, none⟩) n n) := h.rot2.blk.cell 0
  have kc0 : w.cell? ⟨bt, 0, none⟩ = some (bound 28 (some ⟨pp, 0, none⟩)) := h.rot3.blk.cell 0
  have kc1 : w.cell? ⟨bt, 1, none⟩ = some (bound 29 (some ⟨pp, 0, none⟩)) := h.rot3.blk.cell 1
  have hkn : (k : Int) < (n : Int) := by omega
  have hpop := popR_s (w := World.drew w) hB (x := x) (Sep.drew h).rot4
  have hst := fun (w5 : World) (h5 : At B w5 (ringR pp mo T :: valsR gv n xs :: vboxR bv gv n :: takeR bt (some ⟨pp, 0, none⟩) :: L)) (hB5 : B ≤ w5.heap.size) => (Sep.rot2 h5).slat hB5 k u hu
  go_enter Try.func32, Try.ntmps32
  go_wp2_with fail
  go_region_held3 (fun w' => w'.cell? ⟨bv, 0, none⟩ = some (.slice (some ⟨gv, 0, none⟩) n n) ∧ w'.cell? ⟨bt, 0, none⟩ = some (bound 28 (some ⟨pp, 0, none⟩)) ∧ w'.cell? ⟨bt, 1, none⟩ = some (bound 29 (some ⟨pp, 0, none⟩))) (first | (refine ⟨?_, ?_, ?_⟩ <;> assumption) | go_keep) (first
    | (go_at_call 29; ((with_reducible refine hpop.mono ?_); rintro e w5 ⟨rfl, s5, b5⟩; obtain ⟨k1, k2, k3⟩ := hst w5 s5 (Nat.le_trans hB b5.size); obtain ⟨k4, k5⟩ := k3 (.int .i32 x); have kb : w5.cell? ⟨bv, 0, none⟩ = some (.slice (some ⟨gv, 0, none⟩) n n) := s5.rot3.blk.cell 0; have kc0 : w5.cell? ⟨bt, 0, none⟩ = some (bound 28 (some ⟨pp, 0, none⟩)) := s5.rot4.blk.cell 0; have kc1 : w5.cell? ⟨bt, 1, none⟩ = some (bound 29 (some ⟨pp, 0, none⟩)) := s5.rot4.blk.cell 1; have kb2 : (w5.setCell ⟨gv, k, none⟩ (.int .i32 x)).cell? ⟨bv, 0, none⟩ = some (.slice (some ⟨gv, 0, none⟩) n n) := (Sep.rot3 k4).blk.cell 0; have kc2 : (w5.setCell ⟨gv, k, none⟩ (.int .i32 x)).cell? ⟨bt, 0, none⟩ = some (bound 28 (some ⟨pp, 0, none⟩)) := (Sep.rot4 k4).blk.cell 0; have kc3 : (w5.setCell ⟨gv, k, none⟩ (.int .i32 x)).cell? ⟨bt, 1, none⟩ = some (bound 29 (some ⟨pp, 0, none⟩)) := (Sep.rot4 k4).blk.cell 1)))
  go_wp2_with fail
  go_end0
  exact ⟨rfl, Sep.cons (fun _ h => Sep.rot3 (Sep.rot3 h)) k4, ((Below.refl _ w).drew.trans b5).trans k5⟩
end
end Go.Proofs.Ytgaomaaloaglpaa
