/-
  The walk of RingStack.
-/
import Derived.Test.YtehmnhdmkjdghaaRefDo
namespace Go.Rp
theorem rDo_pushL {N : Nat} {l : List Int} {v : Int} : rDo N l 1 v = if N ≤ l.length then (l, 3, 0) else (v :: l, 1, 0) := rfl
end Go.Rp
namespace Go.Proofs.Ytehmnhdmkjdghaa
open Go.RowKit Go.Rp

theorem ops_at {B : Nat} {w : World} {L : List Res} {b off n k : Nat} {ops : List (Int × Int)} (h : At B w (opsR (some ⟨b, off, none⟩) n ops :: L)) (hk : k < ops.length) :
    w.cell? ⟨b, off + k * 2, none⟩ = some (.int .u8 ops[k].1) ∧ w.cell? ⟨b, off + k * 2 + 1, none⟩ = some (.int .i32 ops[k].2) := by
  have hr : Rd w _ 2 (some ⟨b, off, none⟩) n (ops.flatMap opIn) := h.get
  have hl : (ops.flatMap opIn).length = ops.length * 2 := by
    clear hk hr h
    induction ops with
    | nil => rfl
    | cons o l ih => simp only [List.flatMap_cons, List.length_append, ih, List.length_cons]; simp [opIn]; omega
  have hln := hr.1
  rw [hl] at hln
  obtain ⟨b', o', e, _, hc⟩ := hr.at (by omega)
  simp at e
  obtain ⟨rfl, rfl⟩ := e
  clear hr h hl hln
  have : (ops.flatMap opIn)[k * 2]? = some (.int .u8 ops[k].1) ∧ (ops.flatMap opIn)[k * 2 + 1]? = some (.int .i32 ops[k].2) := by
    clear hc
    induction ops generalizing k with
    | nil => simp at hk
    | cons o l ih =>
      rcases k with _ | k
      · simp [opIn]
      · have := ih (by simpa using hk)
        simp only [List.flatMap_cons, opIn, List.cons_append, List.nil_append, List.getElem_cons_succ]
        rw [show (k + 1) * 2 = k * 2 + 2 by omega]
        simpa [opIn] using this
  exact ⟨hc _ _ this.1, hc _ _ this.2⟩

theorem sDo_len {most : Nat} {l : List Int} (k v : Int) (h : l.length ≤ most) : (sDo most l k v).1.length ≤ most := by
  unfold sDo
  split
  · split
    · simp; omega
    · exact h
  · split
    · split
      · simp; omega
      · exact h
    · exact h
/-- A deque at one end alone is a stack. -/
def turn (right : Bool) (l : List Int) : List Int := if right then l else l.reverse
def kindOf (right : Bool) (k : Int) : Int := if right then 2 * k else 2 * k - 1
theorem turn_do (right : Bool) {N : Nat} {l l2 : List Int} {k v c x : Int} (hd : sDo N l k v = (l2, c, x)) : k = 1 ∨ k = 2 → rDo N (turn right l) (kindOf right k) v = (turn right l2, c, x) := by
  rintro (rfl | rfl)
  · unfold sDo at hd
    rw [if_pos rfl] at hd
    cases right
    · have hk : kindOf false 1 = 1 := rfl
      rw [hk, rDo_pushL]
      simp only [turn, Bool.false_eq_true, if_false, List.length_reverse]
      split at hd
      · rw [if_neg (by omega)]
        simp only [Prod.mk.injEq] at hd
        obtain ⟨rfl, rfl, rfl⟩ := hd
        simp
      · rw [if_pos (by omega)]
        simp only [Prod.mk.injEq] at hd
        obtain ⟨rfl, rfl, rfl⟩ := hd
        rfl
    · have hk : kindOf true 1 = 2 := rfl
      rw [hk]
      simp only [turn, if_true]
      unfold rDo
      rw [if_neg (by omega), if_pos rfl]
      split at hd
      · rw [if_neg (by omega)]
        exact hd
      · rw [if_pos (by omega)]
        exact hd
  · rcases List.eq_nil_or_concat l with rfl | ⟨t, y, hty⟩
    · have e : sDo N [] 2 v = ([], 4, 0) := rfl
      rw [e] at hd
      simp only [Prod.mk.injEq] at hd
      obtain ⟨rfl, rfl, rfl⟩ := hd
      cases right <;> rfl
    · rw [List.concat_eq_append] at hty
      subst hty
      have e : sDo N (t ++ [y]) 2 v = (t, 2, y) := by simp [sDo]
      rw [e] at hd
      simp only [Prod.mk.injEq] at hd
      obtain ⟨rfl, rfl, rfl⟩ := hd
      cases right
      · simp [turn, kindOf, rDo]
      · have hk : kindOf true 2 = 4 := rfl
        rw [hk]
        simp only [turn, if_true]
        exact rDo_popR _ _ _ _

theorem turn_len (right : Bool) (l : List Int) : (turn right l).length = l.length := by cases right <;> simp [turn]
theorem blk_set {B : Nat} {w : World} {L : List Res} {p : Nat} {t : TypeId} {cs : Array Value} (hB : B ≤ w.heap.size) (h : At B w (blkR p t cs :: L)) (i : Nat) (v : Value) : At B (w.setCell ⟨p, i, none⟩ v) (blkR p t (cs.setIfInBounds i v) :: L) ∧ Below B w (w.setCell ⟨p, i, none⟩ v) := by
  obtain ⟨S, hS, hSU, hnext⟩ := h.frontAny (fun x hx => Nat.le_trans hB hx)
  obtain ⟨hb, hp⟩ := hS
  have m : Mod S w (w.setCell ⟨p, i, none⟩ v) := (Mod.refl S w).setCell (.inl hp) v
  exact ⟨hnext (blkR p t (cs.setIfInBounds i v)) _ ⟨hb.set i v, .inl hp⟩ m, m.below hB fun b hb => (hSU b hb).1⟩

theorem opsOf_kinds (bs : List Nat) : ∀ o ∈ opsOf 2 bs, o.1 = 1 ∨ o.1 = 2 := by
  intro o ho
  unfold opsOf at ho
  obtain ⟨c, _, rfl⟩ := List.mem_map.1 ho
  simp only
  omega

set_option maxRecDepth 100000 in
set_option maxHeartbeats 4000000 in
theorem RingStack_walk (w : World) (ms : Int) (hms : (Lit.int .u8 ms).wf = true) (a' : Option Addr) (n' c' : Nat) (zs : List Int) (h1 : InInts .u8 w a' n' c' zs) (right : Bool) :
    Calls Try.prog 3 #[.int .u8 ms, .slice a' n' c', .bool right] w fun e w' => e = .returned (.bool true) ∧ Below w.heap.size w w' := by
  obtain ⟨bs, hbn, h256, hrb⟩ := h1.bytes
  have hreach' := h1.reach
  have hlt : ∀ b, (fun x => x < w.heap.size) b → b < w.heap.size := fun _ h => h
  have s0 : At w.heap.size w [] := trivial
  obtain ⟨N, hN, hmod, hx0, hx1⟩ := u8_mod hms 9 (by omega)
  have hcut := cut_nat N (by omega)
  have HCUT := Lib.hid hcut
  clear h1 hms
  go_enter Try.func3, Try.ntmps3
  go_wp2_with fail
  refine (new_s (Nat.le_refl _) s0 (N : Int)).mono ?_
  rintro e w1 ⟨p, rfl, s1, b1⟩
  rw [HCUT.out] at s1
  go_wp2_with fail
  refine (Ops_s b1.size s1 hbn (hrb.below b1 hlt) h256 (by omega) 2 (by omega) (by omega)).mono ?_
  rintro e w2 ⟨A1, n, c, rfl, hn, h80, s2, b2⟩
  have b2 := b1.trans b2
  have hle2 := b2.size
  have hkinds := opsOf_kinds bs
  generalize opsOf 2 bs = ops at *
  have HN := Lib.hid hn
  have HK := Lib.hid hkinds
  clear s1 b1 hrb h256 hbn hn hkinds hcut
  have s3 : At w.heap.size w2 (ringR p N (turn right []) :: intsR .i32 none 0 [] :: opsR A1 n ops :: []) := by
    have e : turn right [] = [] := by cases right <;> rfl
    rw [e]
    have q : At w.heap.size w2 (intsR .i32 none 0 [] :: opsR A1 n ops :: ringR p N [] :: []) := ⟨fun _ => False, fun _ h => h.elim, Rd.nil, s2.mono fun _ h => ⟨h, fun h => h⟩⟩
    exact q.rot3
  clear s2
  go_wp2_with fail
  go_loopg [9, 10] n (fun g lv k wr => ∃ (m : Nat) (A3 : Option Addr) (n3 c3 : Nat) (l : List Int), m + g = n ∧ k = .int .i64 (m : Int) ∧ lv = .slice A3 n3 c3 ∧ l.length = n3 ∧ n3 ≤ c3 ∧ n3 ≤ N ∧ At w.heap.size wr (ringR p N (turn right l) :: intsR .i32 A3 n3 l :: opsR A1 n ops :: []) ∧ Below w.heap.size w wr ∧ w.heap.size ≤ wr.heap.size)
  case atStart => exact ⟨0, none, 0, 0, [], by omega, rfl, rfl, rfl, by omega, by omega, s3, b2, hle2⟩
  case round =>
    clear s3 b2 hle2
    obtain ⟨m, A3, n3, c3, l, hm, rfl, rfl, hln, hc3, hnN, s2, b2, hle2⟩ := hrel
    by_cases hltm : m < n
    · have hml : m < ops.length := by rw [HN.out]; exact hltm
      have hmn : (m : Int) < (n : Int) := by omega
      have hkk := HK.out _ (List.getElem_mem hml)
      obtain ⟨b, off, rfl, _, _⟩ := (s2.rot3.get).at (by omega)
      obtain ⟨g0, g1⟩ := ops_at s2.rot3 hml
      obtain ⟨v, hvd⟩ : ∃ v, ops[m].2 = v := ⟨_, rfl⟩
      rw [hvd] at g1
      rcases hkk with hkd | hkd
      · rw [hkd] at g0
        cases right
        · skip
          obtain ⟨g4, g5⟩ := ops_at (Sep.rot4 (s2.alloc hle2 #[.int .u8 0, .int .i32 0] 29)) hml
          rw [hkd] at g4
          rw [hvd] at g5
          go_wp2_with fail
          go_region
          have s3 := Sep.drew (s2.alloc hle2 #[.int .u8 1, .int .i32 v] 29)
          have b3 := Below.drew (b2.alloc hle2 (.cells #[.int .u8 1, .int .i32 v] 29))
          have hle3 : w.heap.size ≤ ((wr.alloc (.cells #[.int .u8 1, .int .i32 v] 29)).drew).heap.size := Nat.le_trans hle2 (by simp)
          obtain ⟨g2, g3⟩ := ops_at (Sep.rot4 s3) hml
          rw [hkd] at g2
          rw [hvd] at g3
          obtain ⟨o0, o1⟩ : _ ∧ _ := ⟨s3.blk.cell 0, s3.blk.cell 1⟩
          clear g0 g1 g4 g5
          go_wp2_with fail
          generalize (wr.alloc (.cells #[.int .u8 1, .int .i32 v] 29)).drew = w1 at *
          generalize wr.heap.size = O at *
          have h2 := rDo_any w1 (N : Int) A3 n3 c3 _ l hln hc3 (Sep.rot3 s3).get (by rw [HCUT.out]; exact hnN) 1 v
          rw [HCUT.out] at h2
          obtain ⟨⟨l2, code, x⟩, hd⟩ : ∃ r, sDo N l 1 v = r := ⟨_, rfl⟩
          rw [hd] at h2
          have hturn : rDo N (turn false l) 1 v = (turn false l2, code, x) := turn_do false hd (by decide)
          simp only at h2
          obtain ⟨n2, hn2⟩ : ∃ n2, l2.length = n2 := ⟨_, rfl⟩
          unfold RDone at h2
          rw [hn2] at h2
          have hn2N : n2 ≤ N := by rw [← hn2]; have := sDo_len (most := N) (l := l) 1 v (by omega); rw [hd] at this; exact this
          have HD := Lib.hid hturn
          have HN2 := Lib.hid hn2
          clear hd hn2 hturn
          refine h2.mono ?_
          rintro e w3 ⟨A4, c4, rfl, hle4, hT, hb3⟩
          clear h2
          obtain ⟨S, hS1, hS2, hS3⟩ := (Sep.rot3 s3).front (a' := intsR .i32 A4 n2 l2) fun x hx => Nat.le_trans hle3 hx
          have s4 := hS3 w3 (hT S hS1) (Mod.of_below hb3)
          have hlew3 := Nat.le_trans hle3 hb3.size
          have b4 := b3.trans (hb3.mono hle3)
          clear hS1 hS2 hS3 hT s3 b3 s2 b2 g2 g3 o0 o1
          have s5 := s4.alloc hlew3 #[.int .u8 code, .int .i32 x] 31
          have b5 := b4.alloc hlew3 (.cells #[.int .u8 code, .int .i32 x] 31)
          have hle5 : w.heap.size ≤ (w3.alloc (.cells #[.int .u8 code, .int .i32 x] 31)).heap.size := Nat.le_trans hlew3 (by simp)
          clear s4 b4
          go_wp2_with fail
          generalize w3.alloc (.cells #[.int .u8 code, .int .i32 x] 31) = w5 at *
          generalize w3.heap.size = T at *
          have t0 : w5.cell? ⟨T, 0, none⟩ = some (.int .u8 code) := s5.blk.cell 0
          have t1 : w5.cell? ⟨T, 1, none⟩ = some (.int .i32 x) := s5.blk.cell 1
          have o0 : w5.cell? ⟨O, 0, none⟩ = some (.int .u8 1) := s5.rot3.blk.cell 0
          have o1 : w5.cell? ⟨O, 1, none⟩ = some (.int .i32 v) := s5.rot3.blk.cell 1
          have hdo := do_s (w := World.drew w5) hle5 (Sep.drew s5).rot4 1 v (by decide) (by decide) HD.out
          go_region_held3 (fun w' => w'.cell? ⟨T, 0, none⟩ = some (.int .u8 code) ∧ w'.cell? ⟨T, 1, none⟩ = some (.int .i32 x) ∧ w'.cell? ⟨O, 0, none⟩ = some (.int .u8 1) ∧ w'.cell? ⟨O, 1, none⟩ = some (.int .i32 v)) (first | (refine ⟨?_, ?_, ?_, ?_⟩ <;> assumption) | go_keep) (first
            | (go_at_call 13; ((with_reducible refine hdo.mono ?_); rintro e w6 ⟨rfl, s6, b6⟩; have t0 : w6.cell? ⟨T, 0, none⟩ = some (.int .u8 code) := s6.rot2.blk.cell 0; have t1 : w6.cell? ⟨T, 1, none⟩ = some (.int .i32 x) := s6.rot2.blk.cell 1; have o0 : w6.cell? ⟨O, 0, none⟩ = some (.int .u8 1) := s6.rot4.blk.cell 0; have o1 : w6.cell? ⟨O, 1, none⟩ = some (.int .i32 v) := s6.rot4.blk.cell 1)))
          have hle6 := Nat.le_trans hle5 b6.size
          have b6 := b5.drew.trans b6
          go_wp2_with fail
          go_roundg (gk - 1)
          case measure => omega
          case rel => exact ⟨m + 1, A4, n2, c4, l2, by omega, by go_num, rfl, HN2.out, by have := HN2.out; omega, hn2N, (s6.rot2.drop.rot3.drop), b6, hle6⟩
        · skip
          obtain ⟨g4, g5⟩ := ops_at (Sep.rot4 (s2.alloc hle2 #[.int .u8 0, .int .i32 0] 29)) hml
          rw [hkd] at g4
          rw [hvd] at g5
          go_wp2_with fail
          go_region
          have s3 := Sep.drew (s2.alloc hle2 #[.int .u8 2, .int .i32 v] 29)
          have b3 := Below.drew (b2.alloc hle2 (.cells #[.int .u8 2, .int .i32 v] 29))
          have hle3 : w.heap.size ≤ ((wr.alloc (.cells #[.int .u8 2, .int .i32 v] 29)).drew).heap.size := Nat.le_trans hle2 (by simp)
          obtain ⟨g2, g3⟩ := ops_at (Sep.rot4 s3) hml
          rw [hkd] at g2
          rw [hvd] at g3
          obtain ⟨o0, o1⟩ : _ ∧ _ := ⟨s3.blk.cell 0, s3.blk.cell 1⟩
          clear g0 g1 g4 g5
          go_wp2_with fail
          generalize (wr.alloc (.cells #[.int .u8 2, .int .i32 v] 29)).drew = w1 at *
          generalize wr.heap.size = O at *
          have h2 := rDo_any w1 (N : Int) A3 n3 c3 _ l hln hc3 (Sep.rot3 s3).get (by rw [HCUT.out]; exact hnN) 1 v
          rw [HCUT.out] at h2
          obtain ⟨⟨l2, code, x⟩, hd⟩ : ∃ r, sDo N l 1 v = r := ⟨_, rfl⟩
          rw [hd] at h2
          have hturn : rDo N (turn true l) 2 v = (turn true l2, code, x) := turn_do true hd (by decide)
          simp only at h2
          obtain ⟨n2, hn2⟩ : ∃ n2, l2.length = n2 := ⟨_, rfl⟩
          unfold RDone at h2
          rw [hn2] at h2
          have hn2N : n2 ≤ N := by rw [← hn2]; have := sDo_len (most := N) (l := l) 1 v (by omega); rw [hd] at this; exact this
          have HD := Lib.hid hturn
          have HN2 := Lib.hid hn2
          clear hd hn2 hturn
          refine h2.mono ?_
          rintro e w3 ⟨A4, c4, rfl, hle4, hT, hb3⟩
          clear h2
          obtain ⟨S, hS1, hS2, hS3⟩ := (Sep.rot3 s3).front (a' := intsR .i32 A4 n2 l2) fun x hx => Nat.le_trans hle3 hx
          have s4 := hS3 w3 (hT S hS1) (Mod.of_below hb3)
          have hlew3 := Nat.le_trans hle3 hb3.size
          have b4 := b3.trans (hb3.mono hle3)
          clear hS1 hS2 hS3 hT s3 b3 s2 b2 g2 g3 o0 o1
          have s5 := s4.alloc hlew3 #[.int .u8 code, .int .i32 x] 31
          have b5 := b4.alloc hlew3 (.cells #[.int .u8 code, .int .i32 x] 31)
          have hle5 : w.heap.size ≤ (w3.alloc (.cells #[.int .u8 code, .int .i32 x] 31)).heap.size := Nat.le_trans hlew3 (by simp)
          clear s4 b4
          go_wp2_with fail
          generalize w3.alloc (.cells #[.int .u8 code, .int .i32 x] 31) = w5 at *
          generalize w3.heap.size = T at *
          have t0 : w5.cell? ⟨T, 0, none⟩ = some (.int .u8 code) := s5.blk.cell 0
          have t1 : w5.cell? ⟨T, 1, none⟩ = some (.int .i32 x) := s5.blk.cell 1
          have o0 : w5.cell? ⟨O, 0, none⟩ = some (.int .u8 2) := s5.rot3.blk.cell 0
          have o1 : w5.cell? ⟨O, 1, none⟩ = some (.int .i32 v) := s5.rot3.blk.cell 1
          have hdo := do_s (w := World.drew w5) hle5 (Sep.drew s5).rot4 2 v (by decide) (by decide) HD.out
          go_region_held3 (fun w' => w'.cell? ⟨T, 0, none⟩ = some (.int .u8 code) ∧ w'.cell? ⟨T, 1, none⟩ = some (.int .i32 x) ∧ w'.cell? ⟨O, 0, none⟩ = some (.int .u8 2) ∧ w'.cell? ⟨O, 1, none⟩ = some (.int .i32 v)) (first | (refine ⟨?_, ?_, ?_, ?_⟩ <;> assumption) | go_keep) (first
            | (go_at_call 13; ((with_reducible refine hdo.mono ?_); rintro e w6 ⟨rfl, s6, b6⟩; have t0 : w6.cell? ⟨T, 0, none⟩ = some (.int .u8 code) := s6.rot2.blk.cell 0; have t1 : w6.cell? ⟨T, 1, none⟩ = some (.int .i32 x) := s6.rot2.blk.cell 1; have o0 : w6.cell? ⟨O, 0, none⟩ = some (.int .u8 2) := s6.rot4.blk.cell 0; have o1 : w6.cell? ⟨O, 1, none⟩ = some (.int .i32 v) := s6.rot4.blk.cell 1)))
          have hle6 := Nat.le_trans hle5 b6.size
          have b6 := b5.drew.trans b6
          go_wp2_with fail
          go_roundg (gk - 1)
          case measure => omega
          case rel => exact ⟨m + 1, A4, n2, c4, l2, by omega, by go_num, rfl, HN2.out, by have := HN2.out; omega, hn2N, (s6.rot2.drop.rot3.drop), b6, hle6⟩
      · rw [hkd] at g0
        cases right
        · skip
          obtain ⟨g4, g5⟩ := ops_at (Sep.rot4 (s2.alloc hle2 #[.int .u8 0, .int .i32 0] 29)) hml
          rw [hkd] at g4
          rw [hvd] at g5
          go_wp2_with fail
          go_region
          have s3 := Sep.drew (s2.alloc hle2 #[.int .u8 3, .int .i32 v] 29)
          have b3 := Below.drew (b2.alloc hle2 (.cells #[.int .u8 3, .int .i32 v] 29))
          have hle3 : w.heap.size ≤ ((wr.alloc (.cells #[.int .u8 3, .int .i32 v] 29)).drew).heap.size := Nat.le_trans hle2 (by simp)
          obtain ⟨g2, g3⟩ := ops_at (Sep.rot4 s3) hml
          rw [hkd] at g2
          rw [hvd] at g3
          obtain ⟨o0, o1⟩ : _ ∧ _ := ⟨s3.blk.cell 0, s3.blk.cell 1⟩
          clear g0 g1 g4 g5
          go_wp2_with fail
          generalize (wr.alloc (.cells #[.int .u8 3, .int .i32 v] 29)).drew = w1 at *
          generalize wr.heap.size = O at *
          have h2 := rDo_any w1 (N : Int) A3 n3 c3 _ l hln hc3 (Sep.rot3 s3).get (by rw [HCUT.out]; exact hnN) 2 v
          rw [HCUT.out] at h2
          obtain ⟨⟨l2, code, x⟩, hd⟩ : ∃ r, sDo N l 2 v = r := ⟨_, rfl⟩
          rw [hd] at h2
          have hturn : rDo N (turn false l) 3 v = (turn false l2, code, x) := turn_do false hd (by decide)
          simp only at h2
          obtain ⟨n2, hn2⟩ : ∃ n2, l2.length = n2 := ⟨_, rfl⟩
          unfold RDone at h2
          rw [hn2] at h2
          have hn2N : n2 ≤ N := by rw [← hn2]; have := sDo_len (most := N) (l := l) 2 v (by omega); rw [hd] at this; exact this
          have HD := Lib.hid hturn
          have HN2 := Lib.hid hn2
          clear hd hn2 hturn
          refine h2.mono ?_
          rintro e w3 ⟨A4, c4, rfl, hle4, hT, hb3⟩
          clear h2
          obtain ⟨S, hS1, hS2, hS3⟩ := (Sep.rot3 s3).front (a' := intsR .i32 A4 n2 l2) fun x hx => Nat.le_trans hle3 hx
          have s4 := hS3 w3 (hT S hS1) (Mod.of_below hb3)
          have hlew3 := Nat.le_trans hle3 hb3.size
          have b4 := b3.trans (hb3.mono hle3)
          clear hS1 hS2 hS3 hT s3 b3 s2 b2 g2 g3 o0 o1
          have s5 := s4.alloc hlew3 #[.int .u8 code, .int .i32 x] 31
          have b5 := b4.alloc hlew3 (.cells #[.int .u8 code, .int .i32 x] 31)
          have hle5 : w.heap.size ≤ (w3.alloc (.cells #[.int .u8 code, .int .i32 x] 31)).heap.size := Nat.le_trans hlew3 (by simp)
          clear s4 b4
          go_wp2_with fail
          generalize w3.alloc (.cells #[.int .u8 code, .int .i32 x] 31) = w5 at *
          generalize w3.heap.size = T at *
          have t0 : w5.cell? ⟨T, 0, none⟩ = some (.int .u8 code) := s5.blk.cell 0
          have t1 : w5.cell? ⟨T, 1, none⟩ = some (.int .i32 x) := s5.blk.cell 1
          have o0 : w5.cell? ⟨O, 0, none⟩ = some (.int .u8 3) := s5.rot3.blk.cell 0
          have o1 : w5.cell? ⟨O, 1, none⟩ = some (.int .i32 v) := s5.rot3.blk.cell 1
          have hdo := do_s (w := World.drew w5) hle5 (Sep.drew s5).rot4 3 v (by decide) (by decide) HD.out
          go_region_held3 (fun w' => w'.cell? ⟨T, 0, none⟩ = some (.int .u8 code) ∧ w'.cell? ⟨T, 1, none⟩ = some (.int .i32 x) ∧ w'.cell? ⟨O, 0, none⟩ = some (.int .u8 3) ∧ w'.cell? ⟨O, 1, none⟩ = some (.int .i32 v)) (first | (refine ⟨?_, ?_, ?_, ?_⟩ <;> assumption) | go_keep) (first
            | (go_at_call 13; ((with_reducible refine hdo.mono ?_); rintro e w6 ⟨rfl, s6, b6⟩; have t0 : w6.cell? ⟨T, 0, none⟩ = some (.int .u8 code) := s6.rot2.blk.cell 0; have t1 : w6.cell? ⟨T, 1, none⟩ = some (.int .i32 x) := s6.rot2.blk.cell 1; have o0 : w6.cell? ⟨O, 0, none⟩ = some (.int .u8 3) := s6.rot4.blk.cell 0; have o1 : w6.cell? ⟨O, 1, none⟩ = some (.int .i32 v) := s6.rot4.blk.cell 1)))
          have hle6 := Nat.le_trans hle5 b6.size
          have b6 := b5.drew.trans b6
          go_wp2_with fail
          go_roundg (gk - 1)
          case measure => omega
          case rel => exact ⟨m + 1, A4, n2, c4, l2, by omega, by go_num, rfl, HN2.out, by have := HN2.out; omega, hn2N, (s6.rot2.drop.rot3.drop), b6, hle6⟩
        · skip
          obtain ⟨g4, g5⟩ := ops_at (Sep.rot4 (s2.alloc hle2 #[.int .u8 0, .int .i32 0] 29)) hml
          rw [hkd] at g4
          rw [hvd] at g5
          go_wp2_with fail
          go_region
          have s3 := Sep.drew (s2.alloc hle2 #[.int .u8 4, .int .i32 v] 29)
          have b3 := Below.drew (b2.alloc hle2 (.cells #[.int .u8 4, .int .i32 v] 29))
          have hle3 : w.heap.size ≤ ((wr.alloc (.cells #[.int .u8 4, .int .i32 v] 29)).drew).heap.size := Nat.le_trans hle2 (by simp)
          obtain ⟨g2, g3⟩ := ops_at (Sep.rot4 s3) hml
          rw [hkd] at g2
          rw [hvd] at g3
          obtain ⟨o0, o1⟩ : _ ∧ _ := ⟨s3.blk.cell 0, s3.blk.cell 1⟩
          clear g0 g1 g4 g5
          go_wp2_with fail
          generalize (wr.alloc (.cells #[.int .u8 4, .int .i32 v] 29)).drew = w1 at *
          generalize wr.heap.size = O at *
          have h2 := rDo_any w1 (N : Int) A3 n3 c3 _ l hln hc3 (Sep.rot3 s3).get (by rw [HCUT.out]; exact hnN) 2 v
          rw [HCUT.out] at h2
          obtain ⟨⟨l2, code, x⟩, hd⟩ : ∃ r, sDo N l 2 v = r := ⟨_, rfl⟩
          rw [hd] at h2
          have hturn : rDo N (turn true l) 4 v = (turn true l2, code, x) := turn_do true hd (by decide)
          simp only at h2
          obtain ⟨n2, hn2⟩ : ∃ n2, l2.length = n2 := ⟨_, rfl⟩
          unfold RDone at h2
          rw [hn2] at h2
          have hn2N : n2 ≤ N := by rw [← hn2]; have := sDo_len (most := N) (l := l) 2 v (by omega); rw [hd] at this; exact this
          have HD := Lib.hid hturn
          have HN2 := Lib.hid hn2
          clear hd hn2 hturn
          refine h2.mono ?_
          rintro e w3 ⟨A4, c4, rfl, hle4, hT, hb3⟩
          clear h2
          obtain ⟨S, hS1, hS2, hS3⟩ := (Sep.rot3 s3).front (a' := intsR .i32 A4 n2 l2) fun x hx => Nat.le_trans hle3 hx
          have s4 := hS3 w3 (hT S hS1) (Mod.of_below hb3)
          have hlew3 := Nat.le_trans hle3 hb3.size
          have b4 := b3.trans (hb3.mono hle3)
          clear hS1 hS2 hS3 hT s3 b3 s2 b2 g2 g3 o0 o1
          have s5 := s4.alloc hlew3 #[.int .u8 code, .int .i32 x] 31
          have b5 := b4.alloc hlew3 (.cells #[.int .u8 code, .int .i32 x] 31)
          have hle5 : w.heap.size ≤ (w3.alloc (.cells #[.int .u8 code, .int .i32 x] 31)).heap.size := Nat.le_trans hlew3 (by simp)
          clear s4 b4
          go_wp2_with fail
          generalize w3.alloc (.cells #[.int .u8 code, .int .i32 x] 31) = w5 at *
          generalize w3.heap.size = T at *
          have t0 : w5.cell? ⟨T, 0, none⟩ = some (.int .u8 code) := s5.blk.cell 0
          have t1 : w5.cell? ⟨T, 1, none⟩ = some (.int .i32 x) := s5.blk.cell 1
          have o0 : w5.cell? ⟨O, 0, none⟩ = some (.int .u8 4) := s5.rot3.blk.cell 0
          have o1 : w5.cell? ⟨O, 1, none⟩ = some (.int .i32 v) := s5.rot3.blk.cell 1
          have hdo := do_s (w := World.drew w5) hle5 (Sep.drew s5).rot4 4 v (by decide) (by decide) HD.out
          go_region_held3 (fun w' => w'.cell? ⟨T, 0, none⟩ = some (.int .u8 code) ∧ w'.cell? ⟨T, 1, none⟩ = some (.int .i32 x) ∧ w'.cell? ⟨O, 0, none⟩ = some (.int .u8 4) ∧ w'.cell? ⟨O, 1, none⟩ = some (.int .i32 v)) (first | (refine ⟨?_, ?_, ?_, ?_⟩ <;> assumption) | go_keep) (first
            | (go_at_call 13; ((with_reducible refine hdo.mono ?_); rintro e w6 ⟨rfl, s6, b6⟩; have t0 : w6.cell? ⟨T, 0, none⟩ = some (.int .u8 code) := s6.rot2.blk.cell 0; have t1 : w6.cell? ⟨T, 1, none⟩ = some (.int .i32 x) := s6.rot2.blk.cell 1; have o0 : w6.cell? ⟨O, 0, none⟩ = some (.int .u8 4) := s6.rot4.blk.cell 0; have o1 : w6.cell? ⟨O, 1, none⟩ = some (.int .i32 v) := s6.rot4.blk.cell 1)))
          have hle6 := Nat.le_trans hle5 b6.size
          have b6 := b5.drew.trans b6
          go_wp2_with fail
          go_roundg (gk - 1)
          case measure => omega
          case rel => exact ⟨m + 1, A4, n2, c4, l2, by omega, by go_num, rfl, HN2.out, by have := HN2.out; omega, hn2N, (s6.rot2.drop.rot3.drop), b6, hle6⟩
    · obtain rfl : m = n := by omega
      have hk := known_s hle2 s2
      go_wp2_with fail
      refine hk.mono ?_
      rintro e w4 ⟨rfl, s4, b4⟩
      have b4 := b2.trans b4
      have hl := rlen_s s4 (n := n3) (by rw [turn_len]; exact hln)
      go_wp2_with fail
      refine hl.mono ?_
      rintro e w5 ⟨rfl, rfl⟩
      go_wp2_with fail
      go_ret
      exact ⟨by simp, b4⟩
end Go.Proofs.Ytehmnhdmkjdghaa
