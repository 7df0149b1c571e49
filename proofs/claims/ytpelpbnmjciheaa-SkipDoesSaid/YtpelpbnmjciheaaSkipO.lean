/-
  The document's list: Insert.
-/
import Derived.ChangeAlike
import Derived.RegionTactic
import Derived.Test.YtpelpbnmjciheaaSkipN
namespace Go.Proofs.Ytpelpbnmjciheaa
open Go.RowKit Go.Rp

theorem info_item : (Try.prog.info? 69).map (fun i => (i.zero, i.size, i.bytes)) = some (some (.agg #[.int .i32 0, .int .i64 0]), 2, 16) := by kernel_rfl
def itIn (a : It) : List Value := [.int .i32 a.1, .int .i64 (a.2 : Int)]
/-- Items as cells. -/
def itC (l : List It) : List Value := l.flatMap itIn
theorem itC_len (l : List It) : (itC l).length = l.length * 2 := by
  unfold itC
  induction l with
  | nil => rfl
  | cons a l ih => simp only [List.flatMap_cons, List.length_append, ih, List.length_cons]; simp [itIn]; omega
theorem itC_at (l : List It) (k : Nat) (hk : k < l.length) : (itC l)[k * 2]? = some (.int .i32 l[k].1) ∧ (itC l)[k * 2 + 1]? = some (.int .i64 (l[k].2 : Int)) := by
  unfold itC
  induction l generalizing k with
  | nil => simp at hk
  | cons o l ih =>
    rcases k with _ | k
    · simp [itIn]
    · have := ih k (by simpa using hk)
      simp only [List.flatMap_cons, itIn, List.cons_append, List.nil_append, List.getElem_cons_succ]
      rw [show (k + 1) * 2 = k * 2 + 2 by omega]
      simpa [itIn] using this
theorem itC_append (a b : List It) : itC (a ++ b) = itC a ++ itC b := List.flatMap_append
theorem itC_take (l : List It) (k : Nat) (hk : k ≤ l.length) : itC (l.take k) = (itC l).take (k * 2) := by
  have e : itC l = itC (l.take k) ++ itC (l.drop k) := by rw [← itC_append, List.take_append_drop]
  rw [e]
  exact (List.take_left' (by rw [itC_len, List.length_take]; omega)).symm
theorem itC_drop (l : List It) (k : Nat) (hk : k ≤ l.length) : itC (l.drop k) = (itC l).drop (k * 2) := by
  have e : itC l = itC (l.take k) ++ itC (l.drop k) := by rw [← itC_append, List.take_append_drop]
  rw [e]
  exact (List.drop_left' (by rw [itC_len, List.length_take]; omega)).symm
theorem itC_one (l : List It) : ∀ u ∈ itC l, u.oneCell' = true := by
  intro u hu
  obtain ⟨a, _, ha⟩ := List.mem_flatMap.1 hu
  simp only [itIn, List.mem_cons, List.not_mem_nil, or_false] at ha
  rcases ha with rfl | rfl <;> rfl
theorem rd_take {w : World} {R : Nat → Prop} {sz n m : Nat} {A : Option Addr} {xs : List Value} (h : Rd w R sz A n xs) (hm : m ≤ n) : Rd w R sz A m (xs.take (m * sz)) := by
  refine ⟨by rw [List.length_take, h.1]; exact Nat.min_eq_left (Nat.mul_le_mul_right sz hm), fun h0 => ?_⟩
  obtain ⟨b, off, e, hR, hc⟩ := h.2 (by omega)
  exact ⟨b, off, e, hR, fun j u hu => hc j u (by rw [List.getElem?_take] at hu; split at hu; exact hu; cases hu)⟩
theorem size_item (W : World) : (sizeOf 69).run Try.prog W = .ok 2 W := by kernel_rfl
/-- 's[:k]'. -/
theorem items_take (A : Option Addr) (n c k : Nat) (hk : k ≤ c) : ∀ W, (Instr.slice 41 (.slice A n c) none (some (.int .i64 (k : Int))) none).run Try.prog W = .ok (.slice A k c) W := by
  intro W
  rw [run_slice_h W 41 A n c (by kernel_rfl) .i64 (k : Int) (by omega) (by omega)]
  rw [show Try.prog.elem 41 = 69 by kernel_rfl, size_item W]
  simp only [Result.andThen, sliced, Int.toNat_natCast, Int.toNat_zero, Nat.zero_mul, Nat.sub_zero]
  cases A with
  | none => simp
  | some a => simp [Addr.add]
/-- 's[k:]'. -/
theorem items_from (A : Option Addr) (n c k : Nat) (hk : k ≤ n) (hc : n ≤ c) : ∃ (A' : Option Addr) (c' : Nat), (∀ W, (Instr.slice 41 (.slice A n c) (some (.int .i64 (k : Int))) none none).run Try.prog W = .ok (.slice A' (n - k) c') W) ∧ n - k ≤ c' ∧ c' ≤ c ∧ ∀ (w : World) (R : Nat → Prop) (xs : List Value), Rd w R 2 A n xs → Rd w R 2 A' (n - k) (xs.drop (k * 2)) := by
  refine ⟨if c = k then A else A.map (·.add (k * 2)), c - k, fun W => ?_, by omega, by omega, fun w R xs h => ?_⟩
  · rw [run_slice_l W 41 A n c (by kernel_rfl) .i64 (k : Int) (by omega) (by omega)]
    rw [show Try.prog.elem 41 = 69 by kernel_rfl, size_item W]
    simp only [Result.andThen, sliced, Int.toNat_natCast]
  · refine ⟨by rw [List.length_drop, h.1, Nat.sub_mul], fun h0 => ?_⟩
    obtain ⟨b, off, rfl, hR, hx⟩ := h.2 (by omega)
    rw [if_neg (by omega)]
    refine ⟨b, off + k * 2, by simp [Addr.add], hR, fun j u hu => ?_⟩
    rw [List.getElem?_drop] at hu
    have := hx _ u hu
    rwa [← Nat.add_assoc] at this
theorem take_drop_at {l : List It} {v : Int} {m : Nat} (hm : m ≤ l.length) (h1 : ∀ i, i < m → (h : i < l.length) → l[i].1 ≤ v) (h2 : ∀ h : m < l.length, ¬ l[m].1 ≤ v) :
    l.takeWhile (fun a => decide (a.1 ≤ v)) = l.take m ∧ l.dropWhile (fun a => decide (a.1 ≤ v)) = l.drop m := by
  induction l generalizing m with
  | nil => obtain rfl : m = 0 := by simpa using hm
           exact ⟨rfl, rfl⟩
  | cons a l ih =>
    rcases m with _ | m
    · have := h2 (by simp)
      simp only [List.getElem_cons_zero] at this
      rw [List.takeWhile_cons_of_neg (by simpa using this), List.dropWhile_cons_of_neg (by simpa using this)]
      exact ⟨rfl, rfl⟩
    · have h0 := h1 0 (by omega) (by simp)
      simp only [List.getElem_cons_zero] at h0
      obtain ⟨e1, e2⟩ := ih (m := m) (by simpa using hm) (fun i hi h => by have := h1 (i + 1) (by omega) (by simpa using h); simpa using this) (fun h => by have := h2 (by simpa using h); simpa using this)
      rw [List.takeWhile_cons_of_pos (by simpa using h0), List.dropWhile_cons_of_pos (by simpa using h0), e1, e2]
      exact ⟨rfl, rfl⟩
theorem rMost_any (w : World) (m : Int) : Calls Try.prog 17 #[.int .i64 m] w fun e w' => e = .returned (.int .i64 (mostI m : Int)) ∧ w = w' := by
  by_cases h1 : m ≤ 0
  · have e : ((mostI m : Nat) : Int) = 0 := by unfold mostI clamp; omega
    rw [e]
    have H := Lib.hid e
    clear e
    go_enter Try.func17, Try.ntmps17
    go_wp2
    go_ret
    exact ⟨rfl, rfl⟩
  · by_cases h2 : 1000 < m
    · have e : ((mostI m : Nat) : Int) = 1000 := by unfold mostI clamp; omega
      rw [e]
      have H := Lib.hid e
      clear e
      go_enter Try.func17, Try.ntmps17
      go_wp2
      go_ret
      exact ⟨rfl, rfl⟩
    · have e : ((mostI m : Nat) : Int) = m := by unfold mostI clamp; omega
      rw [e]
      have H := Lib.hid e
      clear e
      go_enter Try.func17, Try.ntmps17
      go_wp2
      go_ret
      exact ⟨rfl, rfl⟩

/-- What the document's Insert tells. -/
def RIns (w : World) (A : Option Addr) (n : Nat) (l l' : List It) (b : Bool) (e : Ending) (w' : World) : Prop :=
  ∃ A' c', e = .returned (.tuple #[.slice A' l'.length c', .bool b]) ∧ l'.length ≤ c' ∧ c' ≤ maxLen ∧ (∀ T : Nat → Prop, Rd w T 2 A n (itC l) → Rd w' (grow T w w') 2 A' l'.length (itC l')) ∧ Below w.heap.size w w'
set_option maxRecDepth 100000 in
set_option maxHeartbeats 2000000 in
theorem rInsert_any (w : World) (mo : Int) (A : Option Addr) (n c : Nat) (R : Nat → Prop) (l : List It) (hr : Rd w R 2 A n (itC l)) (hl : l.length = n) (hc : n ≤ c) (hcm : c ≤ maxLen) (v ht : Int) :
    Calls Try.prog 23 #[.int .i64 mo, .slice A n c, .int .i32 v, .int .i64 ht] w (RIns w A n l (insB (mostI mo) l v (tallI ht)) (decide (l.length < mostI mo))) := by
  have hM := mostI_le mo
  obtain ⟨i0, hi0, hz0, hz1, hz2⟩ := info_parts info_item
  have hmst := rMost_any w mo
  obtain ⟨M, hMe⟩ : ∃ M, mostI mo = M := ⟨_, rfl⟩
  rw [hMe] at hmst hM ⊢
  have HL := Lib.hid hl
  clear hMe
  by_cases hroom : n < M
  · have hd : decide (M ≤ n) = false := decide_eq_false (by omega)
    have hlt : ¬ (M : Int) ≤ (n : Int) := by omega
    have hR : decide (l.length < M) = true := decide_eq_true (by rw [hl]; exact hroom)
    have hI : insB M l v (tallI ht) = insL l v (tallI ht) := by unfold insB; rw [if_pos (by omega)]
    rw [hR, hI]
    obtain ⟨a, ha⟩ : ∃ a, min ht 8 = a := ⟨_, rfl⟩
    obtain ⟨th, hth⟩ : ∃ th : Nat, tallI ht = th := ⟨_, rfl⟩
    have hb : max 1 a = (th : Int) := by rw [← ha, ← hth]; exact clamp_eq (by omega) ht
    have e1 := min_ii (k := .i64) ha
    have e2 := max_ii (k := .i64) hb
    rw [hth]
    have HR := Lib.hid hroom
    have hn : n < 1000 := by omega
    clear ha hb hth hR hI hl hroom
    go_enter Try.func23, Try.ntmps23
    go_wp2_with fail
    refine (hmst).mono ?_
    rintro e w1 ⟨rfl, rfl⟩
    go_wp2_with fail
    clear hd hlt
    go_loopg [10] n (fun gg k wr => ∃ m : Nat, m + gg = n ∧ k = .int .i64 (m : Int) ∧ wr = w ∧ Hid (∀ i, i < m → (h : i < l.length) → l[i].1 ≤ v))
    case atStart => exact ⟨0, by omega, rfl, rfl, Lib.hid fun i hi => by omega⟩
    case round =>
      obtain ⟨m, hm, rfl, rfl, hle⟩ := hrel
      by_cases hlt : m < n
      · obtain ⟨b, off, rfl, hRb, hcells⟩ := hr.at (by omega)
        have hml : m < l.length := by rw [HL.out]; exact hlt
        obtain ⟨c0, c1⟩ := itC_at l m hml
        have hx : wr.cell? ⟨b, off + m * 2, none⟩ = some (.int .i32 l[m].1) := hcells _ _ c0
        obtain ⟨x, hxm⟩ : ∃ x, l[m].1 = x := ⟨_, rfl⟩
        rw [hxm] at hx
        have HXM := Lib.hid hxm
        have HML := Lib.hid hml
        clear hcells c0 c1 hxm
        by_cases hxv : x ≤ v
        · go_wp2_with fail
          go_roundg (n - m - 1)
          case measure => omega
          case rel =>
            refine ⟨m + 1, by omega, by go_num, rfl, Lib.hid fun i hi h => ?_⟩
            by_cases e : i = m
            · subst e; rw [HXM.out]; exact hxv
            · exact hle.out i (by omega) h
        · have htd := take_drop_at (by have := HML.out; omega) hle.out fun h => by rw [HXM.out]; exact hxv
          have HTD := Lib.hid htd
          clear htd hle
          have htk : Rd wr R 2 (some ⟨b, off, none⟩) m (itC (l.take m)) := by rw [itC_take l m (by have := HL.out; omega)]; exact rd_take hr (by omega)
          obtain ⟨A3, c3, hfr, hfr1, hfr2, hdr⟩ := items_from (some ⟨b, off, none⟩) n c m (by omega) hc
          have hst := items_take (some ⟨b, off, none⟩) n c m (by omega)
          have hdr2 : Rd wr R 2 A3 (n - m) (itC (l.drop m)) := by rw [itC_drop l m (by have := HL.out; omega)]; exact hdr wr R _ hr
          obtain ⟨rr, hrr⟩ : ∃ rr, n - m = rr := ⟨_, rfl⟩
          rw [hrr] at hfr hfr1 hdr2
          have hrb : rr ≤ 1000 := by omega
          have hsum : m + rr = n := by omega
          have HSUM := Lib.hid hsum
          clear hrr hsum hdr
          go_wp2_with (first
            | (at_builtin; refine wpList_append_sl _ rfl (.tmp 33) (.tmp 36) _ rfl 69 i0 _ 2 16 Try.underlying41 hi0 hz0 hz1 hz2 rfl (by omega) none 0 0 [] (fun _ => False) rfl (Sl.nil _ _ _ _) R (some ⟨b, off, none⟩) m c _ rfl htk (itC_one _) (by simp only [maxLen]; omega) (by omega) ?_; intro A5 d5 w5 hown5 hmod5; rw [Nat.zero_add, List.nil_append] at hown5; have hb5 := hmod5.below (Nat.le_refl _) (fun b h => h.elim))
            | (at_builtin; refine wpList_append_sl _ rfl (.tmp 38) (.tmp 44) _ rfl 69 i0 _ 2 16 Try.underlying41 hi0 hz0 hz1 hz2 rfl (by omega) A5 m d5 _ _ rfl (by exact hown5.alloc _) (· = w5.heap.size) (some ⟨w5.heap.size, 0, none⟩) 1 1 [.int .i32 v, .int .i64 (th : Int)] rfl (by exact Rd.lit (sz := 2) w5 69 #[.int .i32 v, .int .i64 (th : Int)] 1 rfl) (by simp [Value.oneCell']) (by simp only [maxLen]; omega) (by omega) ?_; intro A6 d6 w6 hown6 hmod6; have hz5 := hmod5.size; have hb6 := (hb5.alloc hz5 (.cells #[.int .i32 v, .int .i64 (th : Int)] 69)).trans (hmod6.below (by simp; omega) (by rintro b (hb | hb); exact hb.elim; exact hb.1)); have hdr6 := hdr2.kept hb6)
            | (at_builtin; refine wpList_append_sl _ rfl (.tmp 46) (.tmp 49) _ rfl 69 i0 _ 2 16 Try.underlying41 hi0 hz0 hz1 hz2 rfl (by omega) A6 (m + 1) d6 _ _ rfl hown6 R A3 rr c3 _ rfl hdr6 (itC_one _) (by simp only [maxLen]; omega) (by omega) ?_; intro A7 d7 w7 hown7 hmod7))
          go_ret2
          have hI : insL l v th = l.take m ++ (v, th) :: l.drop m := by unfold insL; rw [HTD.out.1, HTD.out.2]
          have hln : (insL l v th).length = m + 1 + rr := by have := HSUM.out; rw [insL_length, HL.out]; omega
          have hz6 := hmod6.size
          simp only [World.size_alloc] at hz6
          have hge : ∀ b, grow (grow (fun _ => False) wr w5) (w5.alloc (.cells #[.int .i32 v, .int .i64 (th : Int)] 69)) w6 b → wr.heap.size ≤ b := by
            rintro b (hb | hb)
            · rcases hb with hb | hb
              · exact hb.elim
              · exact hb.1
            · have := hb.1; simp at this; omega
          refine ⟨A7, d7, by rw [hln]; rfl, by rw [hln]; exact hown7.le, hown7.cap_le, fun T _ => ?_, hb6.trans (hmod7.below (by omega) hge)⟩
          rw [hln, hI, itC_append, show itC ((v, th) :: l.drop m) = [Value.int .i32 v, .int .i64 (th : Int)] ++ itC (l.drop m) from rfl, ← List.append_assoc]
          refine hown7.lt.rd.more fun b hb => .inr ⟨?_, hb.2⟩
          rcases hb.1 with hb | hb
          · exact hge b hb
          · omega
      · obtain rfl : n = m := by omega
        have htd := take_drop_at (by rw [HL.out]; omega) hle.out fun h => absurd h (by rw [HL.out]; omega)
        have HTD := Lib.hid htd
        clear htd hle
        have htk : Rd wr R 2 (A) n (itC (l.take n)) := by rw [itC_take l n (by have := HL.out; omega)]; exact rd_take hr (by omega)
        obtain ⟨A3, c3, hfr, hfr1, hfr2, hdr⟩ := items_from (A) n c n (by omega) hc
        have hst := items_take (A) n c n (by omega)
        have hdr2 : Rd wr R 2 A3 (n - n) (itC (l.drop n)) := by rw [itC_drop l n (by have := HL.out; omega)]; exact hdr wr R _ hr
        obtain ⟨rr, hrr⟩ : ∃ rr, n - n = rr := ⟨_, rfl⟩
        rw [hrr] at hfr hfr1 hdr2
        have hrb : rr ≤ 1000 := by omega
        have hsum : n + rr = n := by omega
        have HSUM := Lib.hid hsum
        clear hrr hsum hdr
        go_wp2_with (first
          | (at_builtin; refine wpList_append_sl _ rfl (.tmp 33) (.tmp 36) _ rfl 69 i0 _ 2 16 Try.underlying41 hi0 hz0 hz1 hz2 rfl (by omega) none 0 0 [] (fun _ => False) rfl (Sl.nil _ _ _ _) R (A) n c _ rfl htk (itC_one _) (by simp only [maxLen]; omega) (by omega) ?_; intro A5 d5 w5 hown5 hmod5; rw [Nat.zero_add, List.nil_append] at hown5; have hb5 := hmod5.below (Nat.le_refl _) (fun b h => h.elim))
          | (at_builtin; refine wpList_append_sl _ rfl (.tmp 38) (.tmp 44) _ rfl 69 i0 _ 2 16 Try.underlying41 hi0 hz0 hz1 hz2 rfl (by omega) A5 n d5 _ _ rfl (by exact hown5.alloc _) (· = w5.heap.size) (some ⟨w5.heap.size, 0, none⟩) 1 1 [.int .i32 v, .int .i64 (th : Int)] rfl (by exact Rd.lit (sz := 2) w5 69 #[.int .i32 v, .int .i64 (th : Int)] 1 rfl) (by simp [Value.oneCell']) (by simp only [maxLen]; omega) (by omega) ?_; intro A6 d6 w6 hown6 hmod6; have hz5 := hmod5.size; have hb6 := (hb5.alloc hz5 (.cells #[.int .i32 v, .int .i64 (th : Int)] 69)).trans (hmod6.below (by simp; omega) (by rintro b (hb | hb); exact hb.elim; exact hb.1)); have hdr6 := hdr2.kept hb6)
          | (at_builtin; refine wpList_append_sl _ rfl (.tmp 46) (.tmp 49) _ rfl 69 i0 _ 2 16 Try.underlying41 hi0 hz0 hz1 hz2 rfl (by omega) A6 (n + 1) d6 _ _ rfl hown6 R A3 rr c3 _ rfl hdr6 (itC_one _) (by simp only [maxLen]; omega) (by omega) ?_; intro A7 d7 w7 hown7 hmod7))
        go_ret2
        have hI : insL l v th = l.take n ++ (v, th) :: l.drop n := by unfold insL; rw [HTD.out.1, HTD.out.2]
        have hln : (insL l v th).length = n + 1 + rr := by have := HSUM.out; rw [insL_length, HL.out]; omega
        have hz6 := hmod6.size
        simp only [World.size_alloc] at hz6
        have hge : ∀ b, grow (grow (fun _ => False) wr w5) (w5.alloc (.cells #[.int .i32 v, .int .i64 (th : Int)] 69)) w6 b → wr.heap.size ≤ b := by
          rintro b (hb | hb)
          · rcases hb with hb | hb
            · exact hb.elim
            · exact hb.1
          · have := hb.1; simp at this; omega
        refine ⟨A7, d7, by rw [hln]; rfl, by rw [hln]; exact hown7.le, hown7.cap_le, fun T _ => ?_, hb6.trans (hmod7.below (by omega) hge)⟩
        rw [hln, hI, itC_append, show itC ((v, th) :: l.drop n) = [Value.int .i32 v, .int .i64 (th : Int)] ++ itC (l.drop n) from rfl, ← List.append_assoc]
        refine hown7.lt.rd.more fun b hb => .inr ⟨?_, hb.2⟩
        rcases hb.1 with hb | hb
        · exact hge b hb
        · omega
  · have hd : decide (M ≤ n) = true := decide_eq_true (by omega)
    have hge : (M : Int) ≤ (n : Int) := by omega
    have hR : decide (l.length < M) = false := decide_eq_false (by omega)
    have hI : insB M l v (tallI ht) = l := by unfold insB; rw [if_neg (by omega)]
    rw [hR, hI]
    clear hR hI hl hroom
    go_enter Try.func23, Try.ntmps23
    go_wp2_with fail
    refine (hmst).mono ?_
    rintro e w1 ⟨rfl, rfl⟩
    go_wp2_with fail
    go_ret2
    exact ⟨A, c, by rw [HL.out]; rfl, by rw [HL.out]; exact hc, hcm, fun T hT => by rw [HL.out]; exact hT.more grow_left, Below.refl _ _⟩
end Go.Proofs.Ytpelpbnmjciheaa
