/-
  The cells of the types of the document's world; what is needed of elements' types.
-/
import Derived.Test.YtmcnccfbligeaaaTzZ
import Derived.Test.YtmcnccfbligeaaaProg
import Derived.WalkSpells
namespace Go.Tz
abbrev i64T : CT := .int .i64 (-9223372036854775808) 9223372036854775807
abbrev i32T : CT := .int .i32 (-2147483648) 2147483647
abbrev u8T : CT := .int .u8 0 255
end Go.Tz
namespace Go.Proofs.Ytmcnccfbligeaaa
open Go.RowKit Go.Rp Go.Tz

def layF : TypeId → List CT := fun t =>
  if t = 45 then [.int .i64 0 1000, .slb 2 1000, i64T] else
  if t = 85 then [i64T, i64T, i64T, i64T, i64T, i64T, i64T, i64T, i64T, i64T, i64T, i64T, .sl 122] else
  if t = 3 then [i64T] else
  if t = 2 then [i64T] else
  if t = 4 then [.bool] else
  if t = 5 then [u8T] else
  if t = 21 then [i32T] else
  if t = 26 then [u8T, i32T] else
  if t = 28 then [u8T, i32T] else
  if t = 49 then [u8T, i64T, .slb 144 1000, .slb 4 20000] else
  if t = 54 then [u8T, i64T, i64T, i64T, i64T, .bool, .int .i64 0 1000, .slb 2 1000, i64T, u8T, i64T, .slb 144 1000, .slb 4 20000, .sl 85, .sl 76, .sl 125, .sl 3, i64T] else
  if t = 38 then [u8T, .int .i64 0 4, i64T, i64T, i64T, .bool] else
  if t = 30 then [i64T, i64T, u8T, i32T, u8T, i32T, i64T, i64T] else
  if t = 74 then [u8T, i64T, u8T, i32T, u8T] else
  if t = 76 then [u8T, i64T, i64T, u8T, i32T, u8T, i32T, i64T] else
  if t = 125 then [i64T, i64T, u8T, i32T, u8T, i32T, i64T] else
  if t = 122 then [i64T, i64T, i64T] else
  if t = 144 then [i32T, i64T] else
  []
def lay (ω : World) : Lay := ⟨layF, ω⟩
variable {ω : World}
/-- Cells of their kinds. -/
def Of (ω : World) (B : Nat) (K : Bounds) (w : World) : List CT → List Value → Prop
  | [], [] => True
  | c :: cs, v :: vs => CellOK (lay ω) B K w (some c) v ∧ Of ω B K w cs vs
  | _, _ => False
theorem Of.at {B : Nat} {K : Bounds} {w : World} : ∀ {cs : List CT} {vs : List Value}, Of ω B K w cs vs → vs.length = cs.length ∧ ∀ (j : Nat) (u : Value), vs[j]? = some u → CellOK (lay ω) B K w (cs[j]?) u
  | [], [], _ => ⟨rfl, fun _ _ h => by cases h⟩
  | c :: cs, v :: vs, h => by
    obtain ⟨h1, h2⟩ := Of.at h.2
    refine ⟨by simp [h1], fun j u hu => ?_⟩
    rcases j with _ | j
    · obtain rfl : v = u := by simpa using hu
      exact h.1
    · exact h2 j u (by simpa using hu)
theorem Of.keeps {B : Nat} {K : Bounds} {w w' : World} (k : Keeps w w') : ∀ {cs : List CT} {vs : List Value}, Of ω B K w cs vs → Of ω B K w' cs vs
  | [], [], _ => trivial
  | _ :: _, _ :: _, h => ⟨h.1.keeps k, Of.keeps k h.2⟩
theorem Of.le {B : Nat} {K K' : Bounds} {w : World} (k : ∀ e, K e ≤ K' e) : ∀ {cs : List CT} {vs : List Value}, Of ω B K w cs vs → Of ω B K' w cs vs
  | [], [], _ => trivial
  | _ :: _, _ :: _, h => ⟨h.1.le k, Of.le k h.2⟩
theorem of_nil {B : Nat} {K : Bounds} {w : World} : Of ω B K w [] [] := trivial
theorem of_cons {B : Nat} {K : Bounds} {w : World} {c : CT} {cs : List CT} {v : Value} {vs : List Value} (h : CellOK (lay ω) B K w (some c) v) (hs : Of ω B K w cs vs) : Of ω B K w (c :: cs) (v :: vs) := ⟨h, hs⟩
theorem Of.row {B : Nat} {K : Bounds} {w : World} {t : TypeId} {arr : Array Value} (h : Of ω B K w ((lay ω) t) arr.toList) : RowOK (lay ω) B K w t arr := fun j u hu => by
  obtain ⟨h1, h2⟩ := h.at
  have hj := (Array.getElem?_eq_some_iff.1 hu).1
  rw [Nat.mod_eq_of_lt (by rw [← h1]; simpa using hj)]
  exact h2 j u (by simpa using hu)
theorem wf_i {k : IntKind} {lo hi x : Int} (h : lo ≤ x) (h' : x ≤ hi) {B : Nat} {K : Bounds} {w : World} : CellOK (lay ω) B K w (some (.int k lo hi)) (.int k x) := ⟨x, rfl, h, h'⟩
theorem wf_b (b : Bool) {B : Nat} {K : Bounds} {w : World} : CellOK (lay ω) B K w (some .bool) (.bool b) := ⟨b, rfl⟩
theorem wf_s {B : Nat} {K : Bounds} {w : World} {e : TypeId} {A : Option Addr} {n c : Nat} (hn : n ≤ K e) (h : SlOK (lay ω) B w e A n c) : CellOK (lay ω) B K w (some (.sl e)) (.slice A n c) := ⟨A, n, c, rfl, hn, h⟩
theorem el_of {t e : TypeId} {bytes n : Nat} {z : Value} (hu : Try.prog.underlying t = some (.slice e)) (hi : (Try.prog.info? e).map (fun i => (i.zero, i.size, i.bytes)) = some (some z, n, bytes)) (hn : ((lay ω) e).length = n) (hp : 0 < n) (hz : z.cells.size = n) (ho : ∀ (B : Nat) (K : Bounds) (w : World), Of ω B K w ((lay ω) e) z.cells.toList) : Elem (lay ω) Try.prog t e bytes := by
  refine ⟨hu, by omega, ?_⟩
  obtain ⟨i, h1, h2, h3, h4⟩ := info_parts hi
  exact ⟨i, z, h1, h2, by omega, h4, by omega, fun B K w j u hu => (ho B K w).at.2 j u (by simpa using hu)⟩
theorem el_int : Elem (lay ω) Try.prog 23 3 8 := el_of (n := 1) (z := .int .i64 0) Try.underlying23 (by kernel_rfl) rfl (by omega) rfl fun _ _ _ => ⟨wf_i (by decide) (by decide), trivial⟩
theorem el_i64 : Elem (lay ω) Try.prog 43 2 8 := el_of (n := 1) (z := .int .i64 0) Try.underlying43 (by kernel_rfl) rfl (by omega) rfl fun _ _ _ => ⟨wf_i (by decide) (by decide), trivial⟩
theorem el_bool : Elem (lay ω) Try.prog 47 4 1 := el_of (n := 1) (z := .bool false) Try.underlying47 (by kernel_rfl) rfl (by omega) rfl fun _ _ _ => ⟨wf_b _, trivial⟩
theorem el_i32 : Elem (lay ω) Try.prog 139 21 4 := el_of (n := 1) (z := .int .i32 0) Try.underlying139 (by kernel_rfl) rfl (by omega) rfl fun _ _ _ => ⟨wf_i (by decide) (by decide), trivial⟩
theorem el_op : Elem (lay ω) Try.prog 118 26 8 := el_of (n := 2) (z := .agg #[.int .u8 0, .int .i32 0]) Try.underlying118 (by kernel_rfl) rfl (by omega) rfl fun _ _ _ => ⟨wf_i (by decide) (by decide), wf_i (by decide) (by decide), trivial⟩
theorem el_res : Elem (lay ω) Try.prog 130 28 8 := el_of (n := 2) (z := .agg #[.int .u8 0, .int .i32 0]) Try.underlying130 (by kernel_rfl) rfl (by omega) rfl fun _ _ _ => ⟨wf_i (by decide) (by decide), wf_i (by decide) (by decide), trivial⟩
theorem el_span : Elem (lay ω) Try.prog 22 30 48 := el_of (n := 8) (z := .agg #[.int .i64 0, .int .i64 0, .int .u8 0, .int .i32 0, .int .u8 0, .int .i32 0, .int .i64 0, .int .i64 0]) Try.underlying22 (by kernel_rfl) rfl (by omega) rfl fun _ _ _ => ⟨wf_i (by decide) (by decide), wf_i (by decide) (by decide), wf_i (by decide) (by decide), wf_i (by decide) (by decide), wf_i (by decide) (by decide), wf_i (by decide) (by decide), wf_i (by decide) (by decide), wf_i (by decide) (by decide), trivial⟩
theorem el_ent : Elem (lay ω) Try.prog 69 74 32 := el_of (n := 5) (z := .agg #[.int .u8 0, .int .i64 0, .int .u8 0, .int .i32 0, .int .u8 0]) Try.underlying69 (by kernel_rfl) rfl (by omega) rfl fun _ _ _ => ⟨wf_i (by decide) (by decide), wf_i (by decide) (by decide), wf_i (by decide) (by decide), wf_i (by decide) (by decide), wf_i (by decide) (by decide), trivial⟩
theorem el_ev : Elem (lay ω) Try.prog 51 76 48 := el_of (n := 8) (z := .agg #[.int .u8 0, .int .i64 0, .int .i64 0, .int .u8 0, .int .i32 0, .int .u8 0, .int .i32 0, .int .i64 0]) Try.underlying51 (by kernel_rfl) rfl (by omega) rfl fun _ _ _ => ⟨wf_i (by decide) (by decide), wf_i (by decide) (by decide), wf_i (by decide) (by decide), wf_i (by decide) (by decide), wf_i (by decide) (by decide), wf_i (by decide) (by decide), wf_i (by decide) (by decide), wf_i (by decide) (by decide), trivial⟩
theorem el_app : Elem (lay ω) Try.prog 52 125 40 := el_of (n := 7) (z := .agg #[.int .i64 0, .int .i64 0, .int .u8 0, .int .i32 0, .int .u8 0, .int .i32 0, .int .i64 0]) Try.underlying52 (by kernel_rfl) rfl (by omega) rfl fun _ _ _ => ⟨wf_i (by decide) (by decide), wf_i (by decide) (by decide), wf_i (by decide) (by decide), wf_i (by decide) (by decide), wf_i (by decide) (by decide), wf_i (by decide) (by decide), wf_i (by decide) (by decide), trivial⟩
theorem el_it3 : Elem (lay ω) Try.prog 83 122 24 := el_of (n := 3) (z := .agg #[.int .i64 0, .int .i64 0, .int .i64 0]) Try.underlying83 (by kernel_rfl) rfl (by omega) rfl fun _ _ _ => ⟨wf_i (by decide) (by decide), wf_i (by decide) (by decide), wf_i (by decide) (by decide), trivial⟩
theorem el_item : Elem (lay ω) Try.prog 46 144 16 := el_of (n := 2) (z := .agg #[.int .i32 0, .int .i64 0]) Try.underlying46 (by kernel_rfl) rfl (by omega) rfl fun _ _ _ => ⟨wf_i (by decide) (by decide), wf_i (by decide) (by decide), trivial⟩
theorem el_th : Elem (lay ω) Try.prog 50 85 120 := el_of (n := 13) (z := .agg #[.int .i64 0, .int .i64 0, .int .i64 0, .int .i64 0, .int .i64 0, .int .i64 0, .int .i64 0, .int .i64 0, .int .i64 0, .int .i64 0, .int .i64 0, .int .i64 0, .slice none 0 0]) Try.underlying50 (by kernel_rfl) rfl (by omega) rfl fun _ _ _ => ⟨wf_i (by decide) (by decide), wf_i (by decide) (by decide), wf_i (by decide) (by decide), wf_i (by decide) (by decide), wf_i (by decide) (by decide), wf_i (by decide) (by decide), wf_i (by decide) (by decide), wf_i (by decide) (by decide), wf_i (by decide) (by decide), wf_i (by decide) (by decide), wf_i (by decide) (by decide), wf_i (by decide) (by decide), wf_s (Nat.zero_le _) (SlOK.nil _ _), trivial⟩
end Go.Proofs.Ytmcnccfbligeaaa
