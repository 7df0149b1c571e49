/-
  Apply of the program: its closures.
-/
import Derived.Test.YtdjehackbebpaaaMatchG
import Derived.Test.YtdjehackbebpaaaApp
import Derived.Deep.RegionHeld3
import Derived.StillTailTactics
import Derived.Defers
namespace Go.Proofs.Ytdjehackbebpaaa
open Go.RowKit Go.Rp

/-- What the first k are told, as cells. -/
def vV (l0 : List Int) (mo : Nat) (ops : List (Int × Int)) (k : Nat) : Value := .int .i32 (mVal l0 mo ops k)
abbrev valsR (gv n : Nat) (xs : List Value) : Res := slRes 21 1 (some ⟨gv, 0, none⟩) n n xs
abbrev vboxR (q gv n : Nat) : Res := blkR q 46 #[.slice (some ⟨gv, 0, none⟩) n n]
abbrev oboxR (q : Nat) (A : Option Addr) (n c : Nat) : Res := blkR q 22 #[.slice A n c]
abbrev sboxR (q : Nat) (p : Option Addr) : Res := blkR q 44 #[.pointer p]

section
variable {B : Nat} {w : World} {L : List Res} {A : Option Addr} {n c bv bo bs gv k j : Nat} {ops : List (Int × Int)} {xs : List Value}
theorem met2_s (hB : B ≤ w.heap.size) (h : At B w (valsR gv n xs :: vboxR bv gv n :: oboxR bo A n c :: L)) {R : Nat → Prop} (hr : Rd w R 2 A n (ops.flatMap opIn)) (hn : ops.length = n) (hk : k < n) (hj : j < n) (hlen : n ≤ 100000) {u : Value} (hu : xs[k]? = some u) :
    Calls Try.prog 31 #[.int .i64 (k : Int), .int .i64 (j : Int), .pointer (some ⟨bo, 0, none⟩), .pointer (some ⟨bv, 0, none⟩)] w fun e w' => e = .returned (.tuple #[]) ∧ At B w' (valsR gv n (xs.set k (.int .i32 (valAt ops j))) :: vboxR bv gv n :: oboxR bo A n c :: L) ∧ Below B w w' := by
  have kb : w.cell? ⟨bv, 0, none⟩ = some (.slice (some ⟨gv, 0, none⟩) n n) := h.rot2.blk.cell 0
  have kc : w.cell? ⟨bo, 0, none⟩ = some (.slice A n c) := h.rot3.blk.cell 0
  have hjl : j < ops.length := by omega
  obtain ⟨b, off, rfl, _, hcells⟩ := hr.at (by omega)
  obtain ⟨c0, c1⟩ := op_at ops j hjl
  have g1 : w.cell? ⟨b, off + j * 2 + 1, none⟩ = some (.int .i32 (valAt ops j)) := by rw [valAt_lt hjl]; exact hcells _ _ c1
  obtain ⟨k1, k2, k3⟩ := h.slat hB k u hu
  obtain ⟨k4, k5⟩ := k3 (.int .i32 (valAt ops j))
  have k4 := k4.drew
  have k5 : Below B w ((w.setCell ⟨gv, k, none⟩ (.int .i32 (valAt ops j))).drew) := k5.drew
  have hkn : (k : Int) < (n : Int) := by omega
  have hjn : (j : Int) < (n : Int) := by omega
  generalize valAt ops j = vl at *
  clear k3 h hu hcells c0 c1 hr hn
  go_enter Try.func31, Try.ntmps31
  go_wp2_with fail
  go_region
  all_goals
    go_wp2_with fail
    go_end0
    exact ⟨rfl, k4, k5⟩

theorem taken2_s (hB : B ≤ w.heap.size) {p mo : Nat} {T : List Int} {x : Int} (h : At B w (valsR gv n xs :: vboxR bv gv n :: sboxR bs (some ⟨p, 0, none⟩) :: stk p mo (T ++ [x]) :: L)) (hk : k < n) (hlen : n ≤ 100000) {u : Value} (hu : xs[k]? = some u) :
    Calls Try.prog 32 #[.int .i64 (k : Int), .pointer (some ⟨bs, 0, none⟩), .pointer (some ⟨bv, 0, none⟩)] w fun e w' => e = .returned (.tuple #[]) ∧ At B w' (valsR gv n (xs.set k (.int .i32 x)) :: vboxR bv gv n :: sboxR bs (some ⟨p, 0, none⟩) :: stk p mo T :: L) ∧ Below B w w' := by
  have kb : w.cell? ⟨bv, 0, none⟩ = some (.slice (some ⟨gv, 0, none⟩) n n) := h.rot2.blk.cell 0
  have kc : w.cell? ⟨bs, 0, none⟩ = some (.pointer (some ⟨p, 0, none⟩)) := h.rot3.blk.cell 0
  have hkn : (k : Int) < (n : Int) := by omega
  have hpop := pop_s (w := World.drew w) hB x (Sep.drew h).rot4
  have hst := fun (w5 : World) (h5 : At B w5 (stk p mo T :: valsR gv n xs :: vboxR bv gv n :: sboxR bs (some ⟨p, 0, none⟩) :: L)) (hB5 : B ≤ w5.heap.size) => (Sep.rot2 h5).slat hB5 k u hu
  go_enter Try.func32, Try.ntmps32
  go_wp2_with fail
  go_region_held3 (fun w' => w'.cell? ⟨bv, 0, none⟩ = some (.slice (some ⟨gv, 0, none⟩) n n) ∧ w'.cell? ⟨bs, 0, none⟩ = some (.pointer (some ⟨p, 0, none⟩))) (first | (refine ⟨?_, ?_⟩ <;> assumption) | go_keep) (first
    | (go_at_call 33; ((with_reducible refine hpop.mono ?_); rintro e w5 ⟨rfl, s5, b5⟩; obtain ⟨k1, k2, k3⟩ := hst w5 s5 (Nat.le_trans hB b5.size); obtain ⟨k4, k5⟩ := k3 (.int .i32 x); have kb : w5.cell? ⟨bv, 0, none⟩ = some (.slice (some ⟨gv, 0, none⟩) n n) := s5.rot3.blk.cell 0; have kc : w5.cell? ⟨bs, 0, none⟩ = some (.pointer (some ⟨p, 0, none⟩)) := s5.rot4.blk.cell 0; have kb2 : (w5.setCell ⟨gv, k, none⟩ (.int .i32 x)).cell? ⟨bv, 0, none⟩ = some (.slice (some ⟨gv, 0, none⟩) n n) := (Sep.rot3 k4).blk.cell 0; have kc2 : (w5.setCell ⟨gv, k, none⟩ (.int .i32 x)).cell? ⟨bs, 0, none⟩ = some (.pointer (some ⟨p, 0, none⟩)) := (Sep.rot4 k4).blk.cell 0)))
  go_wp2_with fail
  go_end0
  exact ⟨rfl, Sep.cons (fun _ h => Sep.rot3 (Sep.rot3 h)) k4, ((Below.refl _ w).drew.trans b5).trans k5⟩

/-- The meeting, its slice by name. -/
def MeetX (w : World) (p : Nat) (S : Nat → Prop) (most : Nat) (A : Option Addr) (c : Nat) (st : List Nat × Nat) : Prop :=
  Blk w p 56 #[.slice A st.1.length c, .int .i64 (st.2 : Int), .int .i64 (most : Int)] ∧ Sl w 3 1 A st.1.length c (il st.1) S ∧ S p
theorem stable_meetX (p most : Nat) (A : Option Addr) (c : Nat) (st : List Nat × Nat) : Stable (fun w S => MeetX w p S most A c st) :=
  ⟨fun h hS => ⟨h.1, h.2.1.mono hS, hS p h.2.2⟩, fun h hm hd => ⟨h.1.mod hm (hd p h.2.2), h.2.1.mod hm hd, h.2.2⟩, fun h => ⟨h.1, h.2.1.lt, h.2.2, h.1.lt⟩⟩
def meetXR (p most : Nat) (A : Option Addr) (c : Nat) (st : List Nat × Nat) : Res := ⟨fun w S => MeetX w p S most A c st, stable_meetX p most A c st⟩
theorem meet_open {p most : Nat} {st : List Nat × Nat} (h : At B w (meetR p most st :: L)) : st.2 + st.1.length ≤ most ∧ most ≤ 1000 ∧ ∃ A c, At B w (meetXR p most A c st :: L) := by
  obtain ⟨S, h1, ⟨A, c, hb, hs, hp, hl, hm⟩, h3⟩ := h
  exact ⟨hl, hm, A, c, S, h1, ⟨hb, hs, hp⟩, h3⟩

theorem mEnd_snoc {l0 : List Int} {wt : List Nat} {b i : Nat} (hi : i < wt.length) : l0.take b ++ (wt.take (i + 1)).map (valAt ops) = (l0.take b ++ (wt.take i).map (valAt ops)) ++ [valAt ops wt[i]] := by
  rw [List.take_succ_eq_append_getElem hi, List.map_append, ← List.append_assoc]; rfl

set_option maxRecDepth 100000 in
theorem defer_s {p pm mo bm b : Nat} {l0 : List Int} {wt : List Nat} (hB : B ≤ w.heap.size) (hb : b ≤ l0.length) (hwt : ∀ j ∈ wt, j < n) (hn : ops.length = n) (hlen : n ≤ 100000)
    (h : At B w (stk p mo (l0.take b) :: meetR pm mo (wt, b) :: blkR bm 54 #[.pointer (some ⟨pm, 0, none⟩)] :: sboxR bs (some ⟨p, 0, none⟩) :: oboxR bo A n c :: L)) (hrd : ∀ W L', Below B w W → At B W (L ++ L') → ∃ R, Rd W R 2 A n (ops.flatMap opIn)) (u : FrameMode) :
    CallsD Try.prog 29 #[.pointer (some ⟨bm, 0, none⟩), .pointer (some ⟨bs, 0, none⟩), .pointer (some ⟨bo, 0, none⟩)] u w fun e u' w' => u' = u ∧ (e = .returned (.tuple #[]) ∧ At B w' (stk p mo (mEnd l0 ops (wt, b)) :: L) ∧ Below B w w') := by
  obtain ⟨hle, hmo, Am, cm, hx⟩ := meet_open h.rot2
  dsimp only at hle
  have hx := hx.rot2
  have kb : w.cell? ⟨bm, 0, none⟩ = some (.pointer (some ⟨pm, 0, none⟩)) := hx.rot3.blk.cell 0
  obtain ⟨q, hq⟩ : ∃ q, wt.length = q := ⟨_, rfl⟩
  have kc : w.cell? ⟨pm, 0, none⟩ = some (.slice Am q cm) := by rw [← hq]; exact hx.rot2.get.1.cell 0
  have HQ := Lib.hid hq
  have HN := Lib.hid hn
  have HB := Lib.hid hb
  rw [hq] at hle
  clear h hn hb hq
  go_enter_d Try.func29, Try.ntmps29
  go_wp2_with fail
  go_loopg [10] q (fun g k wr => ∃ i : Nat, i + g = q ∧ k = .int .i64 (i : Int) ∧ At B wr (stk p mo (l0.take b ++ (wt.take i).map (valAt ops)) :: meetXR pm mo Am cm (wt, b) :: blkR bm 54 #[.pointer (some ⟨pm, 0, none⟩)] :: sboxR bs (some ⟨p, 0, none⟩) :: oboxR bo A n c :: L) ∧ Below B w wr ∧ B ≤ wr.heap.size)
  case atStart => exact ⟨0, by omega, rfl, by simpa using hx, Below.refl _ _, hB⟩
  case round =>
    clear hx kb kc
    obtain ⟨i, hi, rfl, s2, b2, hle2⟩ := hrel
    by_cases hlt : i < q
    · have hil : i < wt.length := by rw [HQ.out]; exact hlt
      have hj := hwt _ (List.getElem_mem hil)
      have hsn := mEnd_snoc (ops := ops) (l0 := l0) (b := b) hil
      have hsl : Sl wr 3 1 Am wt.length cm (il wt) (fun x => B ≤ x) := s2.rot2.get.2.1
      obtain ⟨g, off, rfl, _, _, _, hcx⟩ := hsl.at (by omega)
      have g0 : wr.cell? ⟨g, off + i, none⟩ = some (.int .i64 ((wt[i] : Nat) : Int)) := hcx i _ (by simp [hil])
      have ks : wr.cell? ⟨bs, 0, none⟩ = some (.pointer (some ⟨p, 0, none⟩)) := s2.rot4.blk.cell 0
      have ko : wr.cell? ⟨bo, 0, none⟩ = some (.slice A n c) := s2.rot5.blk.cell 0
      have hjl : wt[i] < ops.length := by rw [HN.out]; exact hj
      obtain ⟨R, hr⟩ := hrd wr _ b2 (show At B wr (L ++ _) from s2.back5)
      obtain ⟨b', off', rfl, _, hcells⟩ := hr.at (by omega)
      obtain ⟨-, c1⟩ := op_at ops _ hjl
      have hkeep : ∀ (W : World) (l : List Int), Below B w W → At B W (stk p mo l :: meetXR pm mo (some ⟨g, off, none⟩) cm (wt, b) :: blkR bm 54 #[.pointer (some ⟨pm, 0, none⟩)] :: sboxR bs (some ⟨p, 0, none⟩) :: oboxR bo (some ⟨b', off', none⟩) n c :: L) → W.cell? ⟨b', off' + wt[i] * 2 + 1, none⟩ = some (.int .i32 (valAt ops wt[i])) := fun W l hb hs => by
        obtain ⟨R, hr⟩ := hrd W _ hb (show At B W (L ++ _) from hs.back5)
        obtain ⟨b2, o2, hA, _, hc⟩ := hr.at (by omega)
        simp at hA
        obtain ⟨rfl, rfl⟩ := hA
        rw [valAt_lt hjl]
        exact hc _ _ c1
      have g1 := hkeep wr _ b2 s2
      have hroom : (l0.take b ++ (wt.take i).map (valAt ops)).length < mo := by
        have := HB.out
        simp
        omega
      have hps := fun (v : Int) => push_ok (w := World.drew wr) hle2 (Sep.drew s2) v hroom
      have HS := Lib.hid hsn
      have hjn : ((wt[i] : Nat) : Int) < (n : Int) := by omega
      have hz : (0 : Int) ≤ ((wt[i] : Nat) : Int) := by omega
      have HJ : Hid (wt[i] < n) := Lib.hid hj
      generalize valAt ops wt[i] = vl at *
      generalize wt[i] = jj at *
      clear hsn hcx hcells hr hsl c1 hil hjl
      go_wp2_with fail
      go_region_held3 (fun w' => w'.cell? ⟨bs, 0, none⟩ = some (.pointer (some ⟨p, 0, none⟩)) ∧ w'.cell? ⟨bo, 0, none⟩ = some (.slice (some ⟨b', off', none⟩) n c) ∧ w'.cell? ⟨b', off' + jj * 2 + 1, none⟩ = some (.int .i32 vl)) (first | (refine ⟨?_, ?_, ?_⟩ <;> assumption) | go_keep) (first
        | (go_at_call 30; ((with_reducible refine (hps _).mono ?_); rintro e w5 ⟨rfl, s5, b5⟩; have ks : w5.cell? ⟨bs, 0, none⟩ = some (.pointer (some ⟨p, 0, none⟩)) := s5.rot4.blk.cell 0; have ko := s5.rot5.blk.cell 0; have b5 := b2.drew.trans b5; have g1 := hkeep w5 _ b5 s5)))
      go_wp2_with fail
      go_roundg (gk - 1)
      case measure => omega
      case rel => exact ⟨i + 1, by omega, by go_num, by rw [HS.out]; exact s5, b5, Nat.le_trans hB b5.size⟩
    · obtain rfl : i = q := by omega
      have hE : l0.take b ++ (wt.take i).map (valAt ops) = mEnd l0 ops (wt, b) := by unfold mEnd; rw [show wt.take i = wt from List.take_of_length_le (by rw [HQ.out]; omega)]
      rw [hE] at s2
      go_wp2_with fail
      go_end0
      exact ⟨rfl, Sep.cons (fun _ h => Sep.drop (Sep.drop (Sep.drop (Sep.drop h)))) s2, b2⟩
end
end Go.Proofs.Ytdjehackbebpaaa
