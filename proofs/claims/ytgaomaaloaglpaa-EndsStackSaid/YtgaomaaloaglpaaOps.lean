/-
  Operations of choices: the walk of the law's Ops.
-/
import Derived.Test.YtgaomaaloaglpaaProg
import Derived.Test.YtgaomaaloaglpaaFields
import Derived.Test.YtgaomaaloaglpaaMore
import Derived.WalkKit
import Derived.WalkLawsBesides
import Derived.WalkSpells
import Derived.Lib.Hide
import Derived.Deep.QuietTactic
import Derived.BigQuiet
import Derived.Deep.RegionLaw
namespace Go.Proofs.Ytgaomaaloaglpaa
open Go.RowKit Go.Rp

/-- Operations of choices. -/
def opsOf (kinds : Nat) (cs : List Nat) : List (Int × Int) := (cs.take 80).map fun c => (1 + (c % kinds : Nat), (c / 8 : Nat) - 9)
theorem opsOf_ok (kinds : Nat) (hk : 0 < kinds) (hk2 : kinds ≤ 200) (cs : List Nat) : ∀ o ∈ opsOf kinds cs, 0 ≤ o.1 ∧ o.1 ≤ 255 := by
  intro o ho
  obtain ⟨c, _, rfl⟩ := List.mem_map.1 ho
  have := Nat.mod_lt c hk
  simp only
  omega

theorem opsOf_snoc (kinds : Nat) (cs : List Nat) (m : Nat) (hm : m < cs.length) (h8 : m < 80) : opsOf kinds (cs.take (m + 1)) = opsOf kinds (cs.take m) ++ [(1 + ((cs[m] % kinds : Nat) : Int), ((cs[m] / 8 : Nat) : Int) - 9)] := by
  unfold opsOf
  rw [List.take_of_length_le (l := cs.take (m + 1)) (by rw [List.length_take]; omega), List.take_of_length_le (l := cs.take m) (by rw [List.length_take]; omega), List.take_succ_eq_append_getElem hm, List.map_append]
  rfl

theorem info_op : (Try.prog.info? 29).map (fun i => (i.zero, i.size, i.bytes)) = some (some (.agg #[.int .u8 0, .int .i32 0]), 2, 8) := by kernel_rfl

theorem Ops_any (w : World) (A : Option Addr) (n c : Nat) (R : Nat → Prop) (cs : List Nat) (hn : cs.length = n) (hr : Rd w R 1 A n (cs.map fun (x : Nat) => Value.int .u8 (x : Int))) (h8 : ∀ x ∈ cs, x < 256) (hlen : n ≤ 140737488351232) (kinds : Nat) (hk : 0 < kinds) (hk2 : kinds ≤ 200) :
    Calls Try.prog 12 #[.slice A n c, .int .u8 (kinds : Int)] w (NewSl w 29 2 (opsOf kinds cs).length ((opsOf kinds cs).flatMap opIn)) := by
  obtain ⟨i0, hi0, hz0, hz1, hz2⟩ := info_parts info_op
  have HN := Lib.hid hn
  clear hn
  go_enter Try.func12, Try.ntmps12
  go_wp2_with fail
  go_loopw [5, 6] (fun v k wr => ∃ (m : Nat) (A' : Option Addr) (c' : Nat), m ≤ n ∧ m ≤ 80 ∧ k = .int .i64 (m : Int) ∧ v = .slice A' m c' ∧ Sl wr 29 2 A' m c' ((opsOf kinds (cs.take m)).flatMap opIn) (fun b => w.heap.size ≤ b ∧ b < wr.heap.size) ∧ Below w.heap.size w wr) (fun _ k _ => 80 - (intOf k).toNat)
  case atStart => exact ⟨0, none, 0, by omega, by omega, rfl, rfl, Sl.nil _ _ _ _, Below.refl _ _⟩
  case round =>
    obtain ⟨m, A', c', hm, hm8, rfl, rfl, hs, hb⟩ := hrel
    by_cases hlt : m < n ∧ m < 80
    · obtain ⟨h1, h2⟩ := hlt
      obtain ⟨b, off, rfl, hbR, hcells⟩ := (hr.kept hb).at (by omega)
      have hx1 : m < cs.length := by rw [HN.out]; exact h1
      have hx : wr.cell? ⟨b, off + m, none⟩ = some (.int .u8 ((cs[m] : Nat) : Int)) := hcells m _ (by simp [hx1])
      have h256 := h8 _ (List.getElem_mem hx1)
      clear hcells
      have hsn := Lib.hid (opsOf_snoc kinds cs m hx1 h2)
      generalize hxx : cs[m] = x at *
      clear hxx
      obtain ⟨r, hr1⟩ : ∃ r, x % kinds = r := ⟨_, rfl⟩
      obtain ⟨q, hq1⟩ : ∃ q, x / 8 = q := ⟨_, rfl⟩
      have hr2 : r < kinds := by rw [← hr1]; exact Nat.mod_lt _ hk
      have hq2 : q ≤ 31 := by omega
      rw [hr1, hq1] at hsn
      have ht : (x : Int).tmod (kinds : Int) = (r : Int) := by rw [← hr1]; rfl
      have hq : (x : Int).tdiv 8 = (q : Int) := by rw [← hq1]; rfl
      have e1 : IntKind.u8.wrap (1 + (r : Int)) = 1 + (r : Int) := IntWalk.u8_in _ (by omega)
      have e2 : IntKind.u8.wrap (q : Int) = (q : Int) := IntWalk.u8_in _ (by omega)
      have e3 : IntKind.i32.wrap (q : Int) = (q : Int) := IntWalk.i32_in _ (by omega)
      have e4 : IntKind.i32.wrap ((q : Int) - 9) = (q : Int) - 9 := IntWalk.i32_in _ (by omega)
      have hk0 : ¬ kinds = 0 := by omega
      have hbl := hb.size
      have b1 : m + 1 ≤ maxLen := by simp only [maxLen]; omega
      have b2 : (m + 1) * 8 ≤ 140737488355328 := by omega
      clear hr1 hq1
      go_wp2
      go_region_law (refine step_append_sl _ rfl (.tmp 17) (.tmp 33) _ rfl 29 i0 _ 2 8 Try.underlying22 hi0 hz0 hz1 hz2 rfl (by decide) A' m c' _ _ (by rfl) (by exact (hs.alloc _).drew) (· = wr.heap.size) (some ⟨wr.heap.size, 0, none⟩) 1 1 [.int .u8 (1 + (r : Int)), .int .i32 ((q : Int) - 9)] (by rfl) (by exact (Rd.lit (sz := 2) wr _ #[.int .u8 (1 + (r : Int)), .int .i32 ((q : Int) - 9)] 1 rfl).drew) (by simp [Value.oneCell']) b1 b2 ?_; intro A2 c2 w1 hown1 hmod1)
      all_goals
        clear ht hq e1 e2 e3 e4
        go_wp2
        go_roundw
        case rel =>
          have hz := hmod1.size
          simp at hz
          refine ⟨m + 1, A2, c2, by omega, by omega, by go_num, rfl, ?_, hb.trans ((((Below.refl _ wr).alloc hb.size _).drew).trans (hmod1.below (by simp; omega) fun b hb => hb.1))⟩
          rw [hsn.out, List.flatMap_append]
          refine Sl.mono (by simpa [opIn] using hown1) fun b hb => ?_
          rcases hb with hb | hb
          · exact ⟨hb.1, by omega⟩
          · simp at hb; exact ⟨by omega, hb.2⟩
        case measure => simp [intOf]; omega
    · have hmin : m = min n 80 := by omega
      have e : opsOf kinds (cs.take m) = opsOf kinds cs := by
        unfold opsOf
        rw [List.take_take]
        congr 1
        rw [hmin, ← HN.out]
        rw [show min 80 (min cs.length 80) = min cs.length 80 by omega]
        rcases Nat.le_total cs.length 80 with h | h
        · rw [Nat.min_eq_left h, List.take_of_length_le (Nat.le_refl _), List.take_of_length_le h]
        · rw [Nat.min_eq_right h]
      rw [e] at hs
      have hL : (opsOf kinds cs).length = m := by
        rw [← e]
        simp [opsOf, HN.out]
        omega
      have HL := Lib.hid hL
      have HE := Lib.hid hmin
      clear e hL hmin
      have hge : ¬ ((m : Int) < (n : Int) ∧ (m : Int) < 80) := by omega
      go_wp2
      all_goals
        go_ret
        rw [HL.out]
        exact ⟨A', c', rfl, hs, hb⟩

/-- Operations, read. -/
abbrev opsR (A : Option Addr) (n : Nat) (ops : List (Int × Int)) : Res := rdRes 2 (by omega) A n (ops.flatMap opIn)
abbrev At (B : Nat) (w : World) (L : List Res) : Prop := Sep w (fun x => B ≤ x) L
theorem Ops_s {B : Nat} {w : World} {L : List Res} (hB : B ≤ w.heap.size) (h : At B w L) {A : Option Addr} {n c : Nat} {R : Nat → Prop} {cs : List Nat} (hn : cs.length = n) (hr : Rd w R 1 A n (cs.map fun (x : Nat) => Value.int .u8 (x : Int))) (h8 : ∀ x ∈ cs, x < 256) (hlen : n ≤ 140737488351232) (kinds : Nat) (hk : 0 < kinds) (hk2 : kinds ≤ 200) :
    Calls Try.prog 12 #[.slice A n c, .int .u8 (kinds : Int)] w fun e w' => ∃ A' m c', e = .returned (.slice A' m c') ∧ (opsOf kinds cs).length = m ∧ m ≤ 80 ∧ At B w' (opsR A' m (opsOf kinds cs) :: L) ∧ Below B w w' :=
  (Ops_any w A n c R cs hn hr h8 hlen kinds hk hk2).mono fun e w' ⟨A', c', he, hs, hb⟩ => ⟨A', _, c', he, rfl, by unfold opsOf; simp; omega, h.made (fun x hx => Nat.le_trans hB hx) hb hs.rd, hb.mono hB⟩
end Go.Proofs.Ytgaomaaloaglpaa
