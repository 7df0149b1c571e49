/-
  The walk of CoinDoes.
-/
import Derived.Test.YtnoaidlhebmgmaaCoinF
namespace Go.Proofs.Ytnoaidlhebmgmaa
open Go.RowKit Go.Rp

/-- How many bytes the first k deeds have. -/
def total (ds : List Deed) (k : Nat) : Nat := ((ds.take k).map fun d => d.2.2.1).sum
theorem total_succ (ds : List Deed) (k : Nat) (hk : k < ds.length) : total ds (k + 1) = total ds k + ds[k].2.2.1 := by
  unfold total
  rw [List.take_succ_eq_append_getElem hk, List.map_append, List.sum_append]
  simp

theorem deed_at (ds : List Deed) (k : Nat) (hk : k < ds.length) : (ds.flatMap deedIn)[k * 2]? = some (.int .u8 ds[k].1) ∧ (ds.flatMap deedIn)[k * 2 + 1]? = some (.slice ds[k].2.1 ds[k].2.2.1 ds[k].2.2.2.1) := by
  induction ds generalizing k with
  | nil => simp at hk
  | cons o l ih =>
    rcases k with _ | k
    · simp [deedIn]
    · have := ih k (by simpa using hk)
      simp only [List.flatMap_cons, deedIn, List.cons_append, List.nil_append, List.getElem_cons_succ]
      rw [show (k + 1) * 2 = k * 2 + 2 by omega]
      simpa [deedIn] using this

/-- No more than twenty thousand, behind a name. -/
def Short (n : Nat) : Prop := n ≤ 20000
def CapOk (n : Nat) : Prop := n ≤ maxLen
theorem short_tail {l l2 : List Bool} {n m : Nat} (h : l.tail = l2) (h2 : l2.length = m) (hn : l.length = n) (hs : Short n) : Short m := by
  unfold Short at hs ⊢; subst h h2 hn; simp; omega
theorem hgt_short (k : Nat) (l : List Bool) : (hgt k l).2.length ≤ l.length := by
  induction k generalizing l with
  | zero => simp [hgt]
  | succ k ih =>
    rcases l with _ | ⟨_ | _, l⟩
    · simp [hgt]
    · simp [hgt]
    · simp only [hgt, List.length_cons]; have := ih l; omega
theorem short_hgt {l l2 : List Bool} {n m h2 : Nat} (h : hgt 7 l = (h2, l2)) (h2 : l2.length = m) (hn : l.length = n) (hs : Short n) : Short m := by
  have := hgt_short 7 l
  rw [h] at this
  unfold Short at hs ⊢; simp only at this; omega
/-- Bits, read. -/
abbrev bitsR (A : Option Addr) (n : Nat) (l : List Bool) : Res := rdRes 1 (by omega) A n (bl l)
theorem total_le (ds : List Deed) (k : Nat) (hk : k < ds.length) : ds[k].2.2.1 ≤ total ds ds.length := by
  have h1 := total_succ ds k hk
  have h2 : ∀ j, total ds j ≤ total ds ds.length := fun j => by
    unfold total
    rw [List.take_length]
    have := List.take_append_drop j (ds.map fun d => d.2.2.1)
    rw [List.map_take]
    calc _ ≤ ((ds.map fun d => d.2.2.1).take j).sum + ((ds.map fun d => d.2.2.1).drop j).sum := by omega
      _ = _ := by rw [← List.sum_append, this]
  have := h2 (k + 1)
  omega

set_option maxRecDepth 100000 in
set_option maxHeartbeats 1000000 in
theorem CoinDoes_walk (w : World) (a : Option Addr) (n c : Nat) (ds : List Deed) (h0 : InRows 2 deedIn (deedOk w) w a n c ds) :
    Calls Try.prog 7 #[.slice a n c] w fun e w' => e = .returned (.bool true) ∧ Below w.heap.size w w' := by
  have HN := Lib.hid h0.len
  have hreach := h0.reach
  go_enter Try.func7, Try.ntmps7
  go_wp2_with fail
  go_loopw [3, 4] (fun t k wr => ∃ m T : Nat, m ≤ n ∧ k = .int .i64 (m : Int) ∧ t = .int .i64 (T : Int) ∧ T ≤ 140737488351832 ∧ Hid (T = n + total ds m) ∧ Below w.heap.size w wr) (fun _ k _ => n - (intOf k).toNat)
  case atStart => exact ⟨0, n, by omega, rfl, rfl, by omega, Lib.hid (by simp [total]), Below.refl _ _⟩
  case round =>
    obtain ⟨m, T, hm, rfl, rfl, hT1, HT, hb⟩ := hrel
    by_cases hT : T ≤ 300
    · have hTi : (T : Int) ≤ 300 := by omega
      by_cases hlt : m < n
      · obtain ⟨b, off, rfl, hbR, hcells⟩ := (h0.rd.below hb fun _ h => h).at (by omega)
        have hlt' : m < ds.length := by rw [HN.out]; exact hlt
        obtain ⟨c0, c1⟩ := deed_at ds m hlt'
        have g1 : wr.cell? ⟨b, off + m * 2 + 1, none⟩ = some (.slice ds[m].2.1 ds[m].2.2.1 ds[m].2.2.2.1) := hcells _ _ c1
        have hok := (h0.ok _ (List.getElem_mem hlt')).2.reach
        have hts := Lib.hid (total_succ ds m hlt')
        clear hcells c0 c1
        generalize ds[m].2.2.1 = q at *
        go_wp2_with fail
        go_roundw
        case rel => exact ⟨m + 1, T + q, by omega, by go_num, by go_num, by omega, Lib.hid (by rw [hts.out]; have := HT.out; omega), hb⟩
        case measure => simp [intOf]; omega
      · obtain rfl : m = n := by omega
        go_wp2_with fail
        refine (known_any _).mono ?_
        rintro e w1 ⟨rfl, b1⟩
        have b1 := hb.trans (b1.mono hb.size)
        go_wp2_with fail
        refine (new_s b1.size (L := []) trivial).mono ?_
        rintro e w2 ⟨rfl, s2, b2⟩
        have b2 := b1.trans b2
        have s3 : At w.heap.size w2 [coinR w1.heap.size [], bitsR none 0 []] := (s2.made (fun x hx => by have := b2.size; omega) (Below.refl _ w2) (a := bitsR none 0 []) Rd.nil).rot2
        go_wp2_with fail
        go_loopw [5, 6, 7, 8, 9, 10, 11] (fun cp r k u8 u9 u10 u11 wr => ∃ (i p : Nat) (A' : Option Addr) (nl c' : Nat) (l : List Bool), i ≤ m ∧ k = .int .i64 (i : Int) ∧ cp = .pointer (some ⟨p, 0, none⟩) ∧ r = .slice A' nl c' ∧ Hid (l.length = nl) ∧ nl ≤ c' ∧ CapOk c' ∧ Short nl ∧ At w.heap.size wr [coinR p l, bitsR A' nl l] ∧ Below w.heap.size w wr) (fun _ _ k _ _ _ _ _ => m - (intOf k).toNat)
        case atStart => exact ⟨0, _, none, 0, 0, [], by omega, rfl, rfl, rfl, Lib.hid rfl, by omega, (by unfold CapOk; simp [maxLen]), (by unfold Short; omega), s3, b2⟩
        case round =>
          clear s2 s3 b1 b2
          obtain ⟨i, p, A', nl, c', l, hi, rfl, rfl, rfl, HL, hle, HC, H20, s4, b4⟩ := hrel
          by_cases hlt : i < m
          · obtain ⟨b, off, rfl, hbR, hcells⟩ := h0.rd.at (by omega)
            have hlt' : i < ds.length := by rw [HN.out]; exact hlt
            obtain ⟨c0, c1⟩ := deed_at ds i hlt'
            have g0 : w.cell? ⟨b, off + i * 2, none⟩ = some (.int .u8 ds[i].1) := hcells _ _ c0
            have g1 : w.cell? ⟨b, off + i * 2 + 1, none⟩ = some (.slice ds[i].2.1 ds[i].2.2.1 ds[i].2.2.2.1) := hcells _ _ c1
            have hok := h0.ok _ (List.getElem_mem hlt')
            have hq : ds[i].2.2.1 ≤ 300 := by
              have h1 := total_le ds i hlt'
              have h2 := HT.out
              rw [HN.out] at h1
              omega
            obtain ⟨d, hd⟩ : ∃ d, ds[i] = d := ⟨_, rfl⟩
            rw [hd] at g0 g1 hok hq
            obtain ⟨kd, sa, sn, sc, zs⟩ := d
            simp only at g0 g1 hq
            obtain ⟨hk, hin⟩ := hok
            obtain ⟨k0, k1⟩ := wf_u8 hk
            obtain ⟨bs, hbn, h8, hrb⟩ := InInts.bytes hin
            simp only at hbn hrb
            clear hcells c0 c1 hd hin hk
            have hbw := World.block_lt_of_cell? w _ g0
            simp only at hbw
            have g0 := (b4.cell (p := ⟨b, off + i * 2, none⟩) hbw).trans g0
            have g1' := (b4.cell (p := ⟨b, off + i * 2 + 1, none⟩) hbw).trans g1
            rcases (show kd % 4 = 0 ∨ kd % 4 = 1 ∨ kd % 4 = 2 ∨ kd % 4 = 3 by omega) with hkd | hkd | hkd | hkd
            · skip
              go_wp2_with fail
              refine (feed_o b4.size s4 (hrb.below b4 fun _ h => h) hbn h8 (by omega)).mono ?_
              rintro e w5 ⟨rfl, s5, b5⟩
              have b5 := b4.trans b5
              have g1'' := (b5.cell (p := ⟨b, off + i * 2 + 1, none⟩) hbw).trans g1
              have hf := rFeed_any w5 A' nl c' _ l HL.out H20 s5.rot2.get sa sn sc _ bs hbn (hrb.below b5 fun _ h => h) h8 (by omega)
              obtain ⟨F, hF⟩ : ∃ F, feed l bs = F := ⟨_, rfl⟩
              have hFl := feed_len l bs
              rw [hF] at hf s5 hFl
              clear hF
              obtain ⟨n6, hn6⟩ : ∃ n6, F.length = n6 := ⟨_, rfl⟩
              have H26 : Short n6 := by unfold Short; rw [← hn6, hFl]; exact Nat.min_le_right _ _
              clear hFl
              rw [hn6] at hf
              have HN6 := Lib.hid hn6
              clear hn6
              go_wp2_with fail
              refine hf.mono ?_
              rintro e w6 ⟨A6, c6, rfl, hs6, hb6⟩
              have s6 : At w.heap.size w6 [coinR p F, bitsR A6 n6 F] := (s5.made (fun x hx => Nat.le_trans b5.size hx) hb6 (a := bitsR A6 n6 F) hs6.rd).rot3.drop.rot2
              have b6 := b5.trans (hb6.mono b5.size)
              go_wp2_with fail
              refine (left_s s6 HN6.out).mono ?_
              rintro e w7 ⟨rfl, rfl⟩
              go_wp2_with fail
              go_roundw
              case rel => exact ⟨i + 1, p, A6, n6, c6, _, by omega, by go_num, rfl, rfl, HN6, hs6.le, hs6.cap_le, H26, s6, b6⟩
              case measure => simp [intOf]; omega
            · obtain ⟨l2, hl2⟩ : ∃ l2, l.tail = l2 := ⟨_, rfl⟩
              obtain ⟨h2, hh2⟩ : ∃ h2, l.headD false = h2 := ⟨_, rfl⟩
              have ht := rToss_any wr A' nl c' _ l HL.out hle HC s4.rot2.get
              simp only [hh2, hl2] at ht
              obtain ⟨n6, hn6⟩ : ∃ n6, l2.length = n6 := ⟨_, rfl⟩
              have H26 : Short n6 := by
                first
                  | (have := congrArg (fun x => x.2) hh2; exact short_hgt hh2 hn6 HL.out H20)
                  | exact short_tail hl2 hn6 HL.out H20
              unfold RTold at ht
              rw [hn6] at ht
              have HN6 := Lib.hid hn6
              clear hn6
              go_wp2_with fail
              refine ht.mono ?_
              rintro e w5 ⟨A5, c5, rfl, q1, q2, q3, q4⟩
              have b5 := b4.trans (q4.mono b4.size)
              obtain ⟨S5, p1, p2, p3⟩ := s4.rot2.front (a' := bitsR A5 n6 l2) fun x hx => Nat.le_trans b4.size hx
              have s5 := p3 w5 (q3 S5 p1) (Mod.of_below q4)
              clear p1 p2 p3 q3 ht
              have ht2 := toss_s b5.size s5.rot2
              rw [hl2, hh2] at ht2
              clear hl2 hh2
              go_wp2_with fail
              refine ht2.mono ?_
              rintro e w6 ⟨rfl, s6, b6⟩
              have b6 := b5.trans b6
              clear ht2
              go_wp2_with fail
              refine (left_s s6 HN6.out).mono ?_
              rintro e w7 ⟨rfl, rfl⟩
              go_wp2_with fail
              go_roundw
              case rel => exact ⟨i + 1, p, A5, n6, c5, _, by omega, by go_num, rfl, rfl, HN6, q1, q2, H26, s6.rot2.rot2, b6⟩
              case measure => simp [intOf]; omega
            · obtain ⟨h2, l2, hh2⟩ : ∃ h2 l2, hgt 7 l = (h2, l2) := ⟨_, _, rfl⟩
              have hl2 := hh2
              have ht := rHeight_any wr A' nl c' _ l HL.out hle HC s4.rot2.get
              simp only [hh2, hl2] at ht
              obtain ⟨n6, hn6⟩ : ∃ n6, l2.length = n6 := ⟨_, rfl⟩
              have H26 : Short n6 := by
                first
                  | (have := congrArg (fun x => x.2) hh2; exact short_hgt hh2 hn6 HL.out H20)
                  | exact short_tail hl2 hn6 HL.out H20
              unfold RTold at ht
              rw [hn6] at ht
              have HN6 := Lib.hid hn6
              clear hn6
              go_wp2_with fail
              refine ht.mono ?_
              rintro e w5 ⟨A5, c5, rfl, q1, q2, q3, q4⟩
              have b5 := b4.trans (q4.mono b4.size)
              obtain ⟨S5, p1, p2, p3⟩ := s4.rot2.front (a' := bitsR A5 n6 l2) fun x hx => Nat.le_trans b4.size hx
              have s5 := p3 w5 (q3 S5 p1) (Mod.of_below q4)
              clear p1 p2 p3 q3 ht
              have ht2 := height_s b5.size s5.rot2 hh2
              clear hl2 hh2
              go_wp2_with fail
              refine ht2.mono ?_
              rintro e w6 ⟨rfl, s6, b6⟩
              have b6 := b5.trans b6
              clear ht2
              go_wp2_with fail
              refine (left_s s6 HN6.out).mono ?_
              rintro e w7 ⟨rfl, rfl⟩
              go_wp2_with fail
              go_roundw
              case rel => exact ⟨i + 1, p, A5, n6, c5, _, by omega, by go_num, rfl, rfl, HN6, q1, q2, H26, s6.rot2.rot2, b6⟩
              case measure => simp [intOf]; omega
            · skip
              go_wp2_with fail
              refine (copy_s b4.size s4).mono ?_
              rintro e w5 ⟨q, rfl, s5, b5⟩
              have b5 := b4.trans b5
              have s5 := s5.rot2.drop
              go_wp2_with fail
              refine (left_s s5 HL.out).mono ?_
              rintro e w7 ⟨rfl, rfl⟩
              go_wp2_with fail
              go_roundw
              case rel => exact ⟨i + 1, q, A', nl, c', l, by omega, by go_num, rfl, rfl, HL, hle, HC, H20, s5, b5⟩
              case measure => simp [intOf]; omega
          · obtain rfl : i = m := by omega
            go_wp2_with fail
            go_ret
            exact ⟨rfl, b4⟩
    · have hTi : ¬ (T : Int) ≤ 300 := by omega
      by_cases hlt : m < n
      · go_wp2_with fail
        refine (known_any _).mono ?_
        rintro e w1 ⟨rfl, b1⟩
        go_wp2_with fail
        go_ret
        exact ⟨rfl, hb.trans (b1.mono hb.size)⟩
      · obtain rfl : m = n := by omega
        go_wp2_with fail
        refine (known_any _).mono ?_
        rintro e w1 ⟨rfl, b1⟩
        go_wp2_with fail
        go_ret
        exact ⟨rfl, hb.trans (b1.mono hb.size)⟩
end Go.Proofs.Ytnoaidlhebmgmaa
