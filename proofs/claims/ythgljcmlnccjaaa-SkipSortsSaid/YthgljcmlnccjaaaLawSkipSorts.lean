/-
  The walk of SkipSorts.
-/
import Derived.Test.YthgljcmlnccjaaaSkipI
import Derived.Test.YthgljcmlnccjaaaIn
namespace Go.Proofs.Ythgljcmlnccjaaa
open Go.RowKit Go.Rp

theorem insL_perm (L : List It) (v : Int) (h : Nat) : ((insL L v h).map (·.1)).Perm (v :: L.map (·.1)) := by
  have h1 : (insL L v h).Perm ((v, h) :: L) := by
    unfold insL
    have := List.takeWhile_append_dropWhile (p := fun a : It => decide (a.1 ≤ v)) (l := L)
    exact List.perm_middle.trans (by rw [this])
  exact h1.map (·.1)
theorem wf_i32' {x : Int} (h : (Lit.int .i32 x).wf = true) : -2147483648 ≤ x ∧ x ≤ 2147483647 := by
  simpa [Lit.wf, IntKind.min, IntKind.max, IntKind.bits, IntKind.signed] using h

set_option maxRecDepth 100000 in
set_option maxHeartbeats 1000000 in
theorem SkipSorts_walk (w : World) (a1 : Option Addr) (n1 c1 : Nat) (xs : List Int) (h1 : InInts .i32 w a1 n1 c1 xs) (a2 : Option Addr) (n2 c2 : Nat) (hs : List Int) (h2 : InInts .u8 w a2 n2 c2 hs) :
    Calls Try.prog 4 #[.slice a1 n1 c1, .slice a2 n2 c2] w fun e w' => e = .returned (.bool true) ∧ Below w.heap.size w w' := by
  have hle : w.heap.size ≤ w.heap.size := Nat.le_refl _
  have s0 : At w.heap.size w [] := trivial
  have hx1 := h1.rd
  have hl1 := h1.len
  have hwf := fun z hz => wf_i32' (h1.wf z hz)
  obtain ⟨bs, hlb, hb8, hx2⟩ := h2.bytes
  have H1 := Lib.hid hl1
  have H2 := Lib.hid hlb
  have HW := Lib.hid hwf
  have HB := Lib.hid hb8
  have hr1 := h1.reach
  have hr2 := h2.reach
  clear h1 h2 hl1 hwf hlb hb8
  by_cases hbig : 100 < n1
  · go_enter Try.func4, Try.ntmps4
    go_wp2_with fail
    refine (new_s hle s0 1000).mono ?_
    rintro e w1 ⟨p, rfl, s1, b1⟩
    go_wp2_with fail
    refine (known_s b1.size s1).mono ?_
    rintro e w2 ⟨rfl, s2, b2⟩
    go_wp2_with fail
    go_ret
    exact ⟨rfl, b1.trans b2⟩
  · have hd : decide ((100 : Int) < (n1 : Int)) = false := decide_eq_false (by omega)
    go_enter Try.func4, Try.ntmps4
    go_wp2_with fail
    refine (new_s hle s0 1000).mono ?_
    rintro e w1 ⟨p, rfl, s1, b1⟩
    rw [show mostI 1000 = 1000 by decide] at s1
    have h100 : n1 ≤ 100 := by omega
    clear hbig
    go_wp2_with fail
    clear hd
    go_loopg [6, 7] n1 (fun g k u wr => ∃ (m : Nat) (L : List It), m + g = n1 ∧ k = .int .i64 (m : Int) ∧ L.length = m ∧ Hid ((L.map (·.1)).Perm (xs.take m)) ∧ At w.heap.size wr (skR p 1000 L :: []) ∧ Below w.heap.size w wr)
    case atStart => exact ⟨0, [], by omega, rfl, rfl, Lib.hid (by simp), s1, b1⟩
    case round =>
      clear s1 b1
      obtain ⟨m, L, hm, rfl, hL, hp, sr, br⟩ := hrel
      by_cases hlt : m < n1
      · obtain ⟨b, off, rfl, hbB, hcells⟩ := (hx1.below br fun _ h => h).at (by omega)
        have hmx : m < xs.length := by rw [H1.out]; exact hlt
        have hx : wr.cell? ⟨b, off + m, none⟩ = some (.int .i32 xs[m]) := hcells m _ (by simp [hmx])
        obtain ⟨x, hxm⟩ : ∃ x, xs[m] = x := ⟨_, rfl⟩
        rw [hxm] at hx
        have HXM := Lib.hid hxm
        clear hcells hxm
        have hin := fun ht => insert_s br.size sr x ht
        have hroom : L.length < 1000 := by omega
        simp only [hroom, decide_true, if_true] at hin
        have HIN := Lib.hid hin
        have HL := Lib.hid hL
        have HMX := Lib.hid hmx
        clear hin hroom hL
        have hstep : ∀ ht, ((insL L x ht).map (·.1)).Perm (xs.take (m + 1)) := fun ht => by
          rw [List.take_succ_eq_append_getElem HMX.out, HXM.out]
          exact (insL_perm L x ht).trans ((hp.out.cons x).trans (List.perm_append_singleton x _).symm)
        have HST := Lib.hid hstep
        clear hstep
        by_cases hm2 : m < n2
        · obtain ⟨b', off', rfl, hbB', hcells⟩ := (hx2.below br fun _ h => h).at (by omega)
          have hmb : m < bs.length := by rw [H2.out]; exact hm2
          have hy : wr.cell? ⟨b', off' + m, none⟩ = some (.int .u8 ((bs[m] : Nat) : Int)) := hcells m _ (by simp [hmb])
          have h256 := HB.out _ (List.getElem_mem hmb)
          obtain ⟨y, hym⟩ : ∃ y, bs[m] = y := ⟨_, rfl⟩
          rw [hym] at hy h256
          clear hcells hym
          go_wp2_with fail
          refine (HIN.out _).mono ?_
          rintro e w3 ⟨rfl, s3, b3⟩
          have b3 := br.trans b3
          go_wp2_with fail
          go_roundg (n1 - m - 1)
          case measure => omega
          case rel => exact ⟨m + 1, _, by omega, by go_num, by rw [insL_length, HL.out], Lib.hid (HST.out _), s3, b3⟩
        · go_wp2_with fail
          refine (HIN.out _).mono ?_
          rintro e w3 ⟨rfl, s3, b3⟩
          have b3 := br.trans b3
          go_wp2_with fail
          go_roundg (n1 - m - 1)
          case measure => omega
          case rel => exact ⟨m + 1, _, by omega, by go_num, by rw [insL_length, HL.out], Lib.hid (HST.out _), s3, b3⟩
      · obtain rfl : m = n1 := by omega
        have HL := Lib.hid hL
        clear hL
        go_wp2_with fail
        go_loopg [8, 9] m (fun g last k wr => ∃ (i : Nat) (R : List It) (lz : Int), i + g = m ∧ k = .int .i64 (i : Int) ∧ last = .int .i32 lz ∧ Hid (R.length + i = m) ∧ Hid (∀ a ∈ R, a.1 ∈ xs) ∧ Hid (∀ a ∈ R, lz ≤ a.1) ∧ At w.heap.size wr (skR p 1000 R :: []) ∧ Below w.heap.size w wr)
        case atStart =>
          have hin : ∀ a ∈ L, a.1 ∈ xs := fun a ha => List.mem_of_mem_take ((hp.out.mem_iff).1 (List.mem_map.2 ⟨a, ha, rfl⟩))
          exact ⟨0, L, -2147483648, by omega, rfl, rfl, Lib.hid (by have := HL.out; omega), Lib.hid hin, Lib.hid fun a ha => (HW.out _ (hin a ha)).1, sr, br⟩
        case round =>
          clear sr br hp HL L
          obtain ⟨i, R, lz, hi, rfl, rfl, hR, hin, hlz, sr, br⟩ := hrel
          by_cases hlt : i < m
          · obtain ⟨⟨v, hh⟩, R', rfl⟩ : ∃ a R', R = a :: R' := by
              rcases R with _ | ⟨a, R'⟩
              · have := hR.out; simp at this; omega
              · exact ⟨a, R', rfl⟩
            have hge : lz ≤ v := hlz.out (v, hh) (by simp)
            have hvin : v ∈ xs := hin.out (v, hh) (by simp)
            have hsorted := (sk_high sr).2
            have HS := Lib.hid hsorted
            have HV := Lib.hid hvin
            clear hsorted hvin
            have hmin := min_s br.size sr
            simp only [List.head?_cons, Option.map_some, Option.getD_some, List.isEmpty_cons, Bool.not_false, List.tail_cons] at hmin
            go_wp2_with fail
            refine hmin.mono ?_
            rintro e w5 ⟨rfl, s5, b5⟩
            have b5 := br.trans b5
            clear hmin sr br
            go_wp2_with fail
            go_loopg [12, 13] m (fun g f j wq => ∃ q : Nat, q + g = m ∧ j = .int .i64 (q : Int) ∧ f = .int .i64 (((xs.take q).count v : Nat) : Int) ∧ wq = w5)
            case atStart => exact ⟨0, by omega, rfl, by simp, rfl⟩
            case round =>
              obtain ⟨q, hq, rfl, rfl, rfl⟩ := hrel
              obtain ⟨cn, hcn⟩ : ∃ cn, (xs.take q).count v = cn := ⟨_, rfl⟩
              have hcn2 : cn ≤ q := by rw [← hcn]; exact Nat.le_trans List.count_le_length (by simp; omega)
              rw [hcn]
              have HCN := Lib.hid hcn
              clear hcn
              by_cases hqlt : q < m
              · obtain ⟨b, off, rfl, hbB, hcells⟩ := (hx1.below b5 fun _ h => h).at (by omega)
                have hmx : q < xs.length := by rw [H1.out]; exact hqlt
                have hx : wr.cell? ⟨b, off + q, none⟩ = some (.int .i32 xs[q]) := hcells q _ (by simp [hmx])
                have htk := List.take_succ_eq_append_getElem hmx
                obtain ⟨x, hxm⟩ : ∃ x, xs[q] = x := ⟨_, rfl⟩
                rw [hxm] at hx htk
                have HTK := Lib.hid htk
                clear hcells hxm htk
                by_cases hxv : x = v
                · subst hxv
                  go_wp2_with fail
                  go_roundg (m - q - 1)
                  case measure => omega
                  case rel => exact ⟨q + 1, by omega, by go_num, by rw [HTK.out, List.count_append, HCN.out]; simp, rfl⟩
                · have hxv2 : (x == v) = false := by simpa using hxv
                  go_wp2_with fail
                  go_roundg (m - q - 1)
                  case measure => omega
                  case rel => exact ⟨q + 1, by omega, by go_num, by rw [HTK.out, List.count_append, HCN.out]; simp [List.count_singleton, hxv2], rfl⟩
              · obtain rfl : q = m := by omega
                have hpos : 0 < cn := by
                  rw [← HCN.out, List.take_of_length_le (by rw [H1.out]; omega)]
                  exact List.count_pos_iff.2 HV.out
                have hne : ¬ ((cn : Int) = 0) := by omega
                have hne2 : ((cn : Int) == 0) = false := by simpa using hne
                go_wp2_with fail
                go_roundg (q - i - 1)
                case measure => omega
                case rel => exact ⟨i + 1, R', v, by omega, by go_num, rfl, Lib.hid (by have := hR.out; simp at this; omega), Lib.hid fun a ha => hin.out a (by simp [ha]), Lib.hid fun a ha => (List.pairwise_cons.1 HS.out).1 a ha, s5, b5⟩
          · obtain rfl : i = m := by omega
            obtain rfl : R = [] := List.eq_nil_of_length_eq_zero (by have := hR.out; omega)
            have hmin := min_s br.size sr
            simp only [List.head?_nil, Option.map_none, Option.getD_none, List.isEmpty_nil, Bool.not_true, List.tail_nil] at hmin
            go_wp2_with fail
            refine hmin.mono ?_
            rintro e w5 ⟨rfl, s5, b5⟩
            have b5 := br.trans b5
            clear hmin sr br
            go_wp2_with fail
            refine (known_s b5.size s5).mono ?_
            rintro e w6 ⟨rfl, s6, b6⟩
            go_wp2_with fail
            go_ret
            exact ⟨rfl, b5.trans b6⟩
end Go.Proofs.Ythgljcmlnccjaaa
