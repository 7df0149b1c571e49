/-
  The coin: what its calls come to (plain), and the walks of New, Left, Toss, Height, Feed, Copy.
-/
import Derived.Test.YtnoaidlhebmgmaaProg
import Derived.Test.YtnoaidlhebmgmaaMem
import Derived.WalkKit
import Derived.WalkLawsBesides
import Derived.WalkSpells
import Derived.Lib.Hide
import Derived.Deep.LoopGhost
import Derived.Deep.DeepCutAuto
import Derived.Deep.Light
import Derived.Laws.BitsAllLaws
namespace Go.Proofs.Ytnoaidlhebmgmaa
open Go.RowKit Go.Rp

/-- A height of at most k tosses more, and the bits that are left. -/
def hgt : Nat → List Bool → Nat × List Bool
  | 0, l => (1, l)
  | _ + 1, [] => (1, [])
  | _ + 1, false :: l => (1, l)
  | k + 1, true :: l => ((hgt k l).1 + 1, (hgt k l).2)

theorem ret_int {k : IntKind} {a b : Int} (h : a = b) : Ending.returned (.int k a) = .returned (.int k b) := by rw [h]

/-- The coin at block p holds the bits; its blocks are among S. -/
def CoinAt (w : World) (p : Nat) (S : Nat → Prop) (bits : List Bool) : Prop :=
  ∃ A c, Blk w p 45 #[.slice A bits.length c] ∧ Sl w 4 1 A bits.length c (bits.map .bool) S ∧ S p ∧ bits.length ≤ 20000

theorem left_any (w : World) (p : Nat) (S : Nat → Prop) (bits : List Bool) (h : CoinAt w p S bits) :
    Calls Try.prog 13 #[.pointer (some ⟨p, 0, none⟩)] w fun e w' => e = .returned (.int .i64 bits.length) ∧ w = w' := by
  obtain ⟨A, c, hb, hs, hp, h20⟩ := h
  have hc : w.cell? ⟨p, 0, none⟩ = some (.slice A bits.length c) := hb.cell 0
  clear hb hs
  go_enter Try.func13, Try.ntmps13
  go_wp2
  go_ret
  exact ⟨rfl, rfl⟩
theorem left_nil (w : World) :
    Calls Try.prog 13 #[.pointer none] w fun e w' => e = .returned (.int .i64 0) ∧ w = w' := by
  go_enter Try.func13, Try.ntmps13
  go_wp2
  go_ret
  exact ⟨rfl, rfl⟩
theorem new_any (w : World) :
    Calls Try.prog 9 #[] w fun e w' => e = .returned (.pointer (some ⟨w.heap.size, 0, none⟩)) ∧ w' = w.alloc (.cells #[.slice none 0 0] 45) := by
  go_enter Try.func9, Try.ntmps9
  go_wp2
  go_ret
  exact ⟨rfl, rfl⟩
theorem toss_any (w : World) (p : Nat) (S : Nat → Prop) (bits : List Bool) (h : CoinAt w p S bits) :
    Calls Try.prog 12 #[.pointer (some ⟨p, 0, none⟩)] w fun e w' => e = .returned (.bool (bits.headD false)) ∧ CoinAt w' p S bits.tail ∧ Mod S w w' := by
  have hleft := left_any w p S bits h
  have hcoin := h
  obtain ⟨A, c, hb, hs, hp, h20⟩ := h
  have hc : w.cell? ⟨p, 0, none⟩ = some (.slice A bits.length c) := hb.cell 0
  have hf := hb.frozen 0
  cases bits with
  | nil =>
    go_enter Try.func12, Try.ntmps12
    go_wp2_with (go_at_call 13; refine hleft.mono ?_; rintro e w' ⟨rfl, rfl⟩)
    go_ret
    exact ⟨rfl, hcoin, Mod.refl _ _⟩
  | cons x bits =>
    have hle := hs.le
    have hcm := hs.cap_le
    obtain ⟨g, off, rfl, hg, hlt, hfz, hx⟩ := hs.at (by simp)
    have hx0 : w.cell? ⟨g, off, none⟩ = some (.bool x) := hx 0 _ rfl
    have hd := hs.drop (k := 1) (by simp)
    have hd2 := hd.farT (p := ⟨p, 0, none⟩) hb (by decide) (.slice (if c = 1 then some ⟨g, off, none⟩ else some ⟨g, off + 1, none⟩) bits.length (c - 1))
    simp only [List.length_cons] at hle hc hleft
    unfold maxLen at hcm
    have HD := Lib.hid hd2
    clear hx hd hd2 hfz
    go_enter Try.func12, Try.ntmps12
    go_wp2_with (go_at_call 13; refine hleft.mono ?_; rintro e w' ⟨rfl, rfl⟩)
    all_goals
      go_ret
      refine ⟨rfl, ⟨_, _, hb.set 0 _, ?_, hp, by simp at h20 ⊢; omega⟩, (Mod.refl _ _).setCell (.inl hp) _⟩
      have := HD.out
      simpa [Addr.add, *] using this

theorem height_any (w : World) (p : Nat) (S : Nat → Prop) (bits : List Bool) (h : CoinAt w p S bits) :
    Calls Try.prog 14 #[.pointer (some ⟨p, 0, none⟩)] w fun e w' => e = .returned (.int .i64 (hgt 7 bits).1) ∧ CoinAt w' p S (hgt 7 bits).2 ∧ Mod S w w' := by
  go_enter Try.func14, Try.ntmps14
  go_wp2
  go_step3
  go_wp2
  go_step3
  go_wp2
  go_loopw [3] (fun n wr => ∃ (m : Nat) (l : List Bool), m ≤ 7 ∧ n = .int .i64 ((m : Int) + 1) ∧ CoinAt wr p S l ∧ Mod S w wr ∧ Hid (hgt 7 bits = ((hgt (7 - m) l).1 + m, (hgt (7 - m) l).2))) (fun n _ => 8 - (intOf n).toNat)
  case atStart => exact ⟨0, bits, by omega, rfl, h, Mod.refl _ _, Lib.hid rfl⟩
  case round =>
    obtain ⟨m, l, hm, rfl, hl, hmod, hh⟩ := hrel
    have ht := toss_any wr p S l hl
    by_cases h7 : m = 7
    · subst h7
      have h8 : (((7 : Nat) : Int) + 1 == 8) = true := by decide
      go_wp2
      rw [Exit.noGoto_ret]
      go_ret
      have e := hh.out
      simp only [Nat.sub_self, hgt] at e
      rw [e]
      exact ⟨rfl, hl, hmod⟩
    · have h8 : ((m : Int) + 1 == 8) = false := by simp; omega
      obtain ⟨k, hk⟩ : ∃ k, 7 - m = k + 1 := ⟨6 - m, by omega⟩
      have hk2 : 7 - (m + 1) = k := by omega
      have e := hh.out
      rw [hk] at e
      have HK := Lib.hid hk2
      clear hh hk hk2
      cases l with
      | nil =>
        simp only [hgt] at e
        have HE := Lib.hid e
        clear e
        go_wp2_with (go_at_call 12; refine ht.mono ?_; rintro e w' ⟨rfl, hc', hm'⟩)
        rw [Exit.noGoto_ret]
        go_ret
        rw [HE.out]
        exact ⟨ret_int (by simp; omega), hc', hmod.trans hm' (fun _ hb => .inl hb)⟩
      | cons x l =>
        cases x
        · simp only [hgt] at e
          have HE := Lib.hid e
          clear e
          go_wp2_with (go_at_call 12; refine ht.mono ?_; rintro e w' ⟨rfl, hc', hm'⟩)
          rw [Exit.noGoto_ret]
          go_ret
          rw [HE.out]
          exact ⟨ret_int (by simp; omega), hc', hmod.trans hm' (fun _ hb => .inl hb)⟩
        · simp only [hgt] at e
          have HE := Lib.hid e
          clear e
          go_wp2_with (go_at_call 12; refine ht.mono ?_; rintro e w' ⟨rfl, hc', hm'⟩)
          go_roundw
          case rel => exact ⟨m + 1, l, by omega, by go_num, hc', hmod.trans hm' (fun _ hb => .inl hb), Lib.hid (by rw [HE.out, HK.out]; simp; omega)⟩
          case measure => simp [intOf]; omega

def bitAt (b i : Nat) : Bool := b / 2 ^ i % 2 == 1
def bitsOf (b : Nat) : List Bool := (List.range 8).map (bitAt b)
/-- Bits behind others, no more than may be. -/
def feed (bits : List Bool) (bs : List Nat) : List Bool := (bits ++ bs.flatMap bitsOf).take 20000
theorem info_bool : (Try.prog.info? 4).map (fun i => (i.zero, i.size, i.bytes)) = some (some (.bool false), 1, 1) := by kernel_rfl

theorem bit_eq (b j : Nat) (hb : b < 256) : (Go.bits BinOp.and IntKind.u8 ((b : Int) / 2 ^ j) 1 == 1) = bitAt b j := by
  have h1 : ((b : Int) / 2 ^ j) = ((b / 2 ^ j : Nat) : Int) := by simp
  have h2 : b / 2 ^ j ≤ b := Nat.div_le_self _ _
  rw [h1, show (1 : Int) = ((1 : Nat) : Int) from rfl, u8_and_nat _ _ (by omega) (by omega), nat_mask1]
  unfold bitAt
  rw [Bool.eq_iff_iff]
  simp
  omega
theorem bitsOf_length (b : Nat) : (bitsOf b).length = 8 := by simp [bitsOf]
theorem bitsOf_snoc (b j : Nat) (hj : j < 8) : (bitsOf b).take (j + 1) = (bitsOf b).take j ++ [bitAt b j] := by
  rw [List.take_succ_eq_append_getElem (by rw [bitsOf_length]; exact hj)]
  simp [bitsOf]
theorem fed_snoc (bits : List Bool) (bs : List Nat) (m : Nat) (hm : m < bs.length) : bits ++ (bs.take (m + 1)).flatMap bitsOf = bits ++ (bs.take m).flatMap bitsOf ++ bitsOf bs[m] := by
  rw [List.take_succ_eq_append_getElem hm, List.flatMap_append]
  simp
theorem feed_full (bits : List Bool) (bs : List Nat) (m : Nat) (hm : m < bs.length) (j : Nat) (h : (bits ++ (bs.take m).flatMap bitsOf ++ (bitsOf bs[m]).take j).length = 20000) :
    feed bits bs = bits ++ (bs.take m).flatMap bitsOf ++ (bitsOf bs[m]).take j := by
  have e : bits ++ bs.flatMap bitsOf = (bits ++ (bs.take m).flatMap bitsOf ++ (bitsOf bs[m]).take j) ++ ((bitsOf bs[m]).drop j ++ (bs.drop (m + 1)).flatMap bitsOf) := by
    have h1 : bs = bs.take m ++ (bs[m] :: bs.drop (m + 1)) := by simp
    conv => lhs; rw [h1, List.flatMap_append, List.flatMap_cons]
    simp only [List.append_assoc]
    rw [← List.append_assoc (List.take j _) (List.drop j _), List.take_append_drop]
  unfold feed
  rw [e, ← h]
  exact List.take_left
theorem feed_done (bits : List Bool) (bs : List Nat) (h : (bits ++ bs.flatMap bitsOf).length ≤ 20000) : feed bits bs = bits ++ bs.flatMap bitsOf := List.take_of_length_le h
theorem coin_put {w wr w1 : World} {p : Nat} {S : Nat → Prop} {cur : List Bool} {x : Bool} {A' : Option Addr} {c' : Nat} {cs : Array Value} {v : Value} (hmod : Mod S w wr) (hp2 : grow S w wr p) (hne : cur.length < 20000) (hblk1 : Blk w1 p 45 #[v])
    (hown1 : Sl w1 4 1 A' (cur.length + 1) c' (cur.map .bool ++ [.bool x]) (grow (fun b => grow S w wr b ∧ b ≠ p) (wr.alloc (.cells cs 4)).drew w1))
    (hmod1 : Mod (fun b => grow S w wr b ∧ b ≠ p) (wr.alloc (.cells cs 4)).drew w1) :
    CoinAt (w1.setCell ⟨p, 0, none⟩ (.slice A' (cur.length + 1) c')) p (grow S w (w1.setCell ⟨p, 0, none⟩ (.slice A' (cur.length + 1) c'))) (cur ++ [x]) ∧ Mod S w (w1.setCell ⟨p, 0, none⟩ (.slice A' (cur.length + 1) c')) := by
  have hsz : wr.heap.size + 1 ≤ w1.heap.size := by have := hmod1.size; simpa using this
  have hz2 : (w1.setCell ⟨p, 0, none⟩ (.slice A' (cur.length + 1) c')).heap.size = w1.heap.size := by simp [World.setCell]
  have hm2 : Mod S w (w1.setCell ⟨p, 0, none⟩ (.slice A' (cur.length + 1) c')) := by
    refine Mod.setCell ?_ ?_ _
    · refine (hmod.alloc _).drew.trans hmod1 fun b hb => ?_
      rcases hb.1 with hb | hb
      · exact .inl hb
      · exact .inr hb.1
    · rcases hp2 with hb | hb
      · exact .inl hb
      · exact .inr hb.1
  have hlast := hblk1.set 0 (.slice A' (cur.length + 1) c')
  have hs3 := hown1.farT (p := ⟨p, 0, none⟩) hblk1 (by decide) (.slice A' (cur.length + 1) c')
  have hs4 : Sl (w1.setCell ⟨p, 0, none⟩ (.slice A' (cur.length + 1) c')) 4 1 A' (cur.length + 1) c' (cur.map .bool ++ [.bool x]) (grow S w (w1.setCell ⟨p, 0, none⟩ (.slice A' (cur.length + 1) c'))) := hs3.mono fun b hb => by
    rcases hb with hb | hb
    · exact grow_mono (by omega) b hb.1
    · have := hmod.size
      exact .inr ⟨by simp at hb; omega, by rw [hz2]; exact hb.2⟩
  exact ⟨⟨A', c', by simpa using hlast, by simpa using hs4, grow_mono (by omega) p hp2, by simp; omega⟩, hm2⟩

theorem feed_any (w : World) (p : Nat) (S : Nat → Prop) (bits : List Bool) (h : CoinAt w p S bits) (A : Option Addr) (c : Nat) (bs : List Nat) (R : Nat → Prop) (hr : Rd w R 1 A bs.length (bs.map fun (x : Nat) => Value.int .u8 (x : Int))) (hR : ∀ b, R b → ¬ S b) (h8 : ∀ x ∈ bs, x < 256) (hlen : bs.length ≤ 100000) :
    Calls Try.prog 11 #[.pointer (some ⟨p, 0, none⟩), .slice A bs.length c] w fun e w' => e = .returned (.tuple #[]) ∧ CoinAt w' p (grow S w w') (feed bits bs) ∧ Mod S w w' := by
  obtain ⟨i0, hi0, hz0, hz1, hz2⟩ := info_parts info_bool
  have hplt : p < w.heap.size := by obtain ⟨_, _, hb, _⟩ := h; exact hb.lt
  go_enter Try.func11, Try.ntmps11
  go_wp2
  go_loopw [5, 6, 11, 15] (fun b i k i2 wr => ∃ (m : Nat), m ≤ bs.length ∧ k = .int .i64 (m : Int) ∧ CoinAt wr p (grow S w wr) (bits ++ (bs.take m).flatMap bitsOf) ∧ Mod S w wr) (fun _ _ k _ _ => bs.length - (intOf k).toNat)
  case atStart =>
    refine ⟨0, by omega, rfl, ?_, Mod.refl _ _⟩
    obtain ⟨A, c, hb, hs, hp, h20⟩ := h
    exact ⟨A, c, by simpa using hb, by simpa using hs.mono fun _ hb => .inl hb, .inl hp, by simpa using h20⟩
  case round =>
    obtain ⟨m, hm, rfl, hl, hmod⟩ := hrel
    by_cases hlt : m < bs.length
    · obtain ⟨b, off, rfl, hbB, hcells⟩ := (hr.mod hmod hR).at (by omega)
      have hx : wr.cell? ⟨b, off + m, none⟩ = some (.int .u8 ((bs[m] : Nat) : Int)) := hcells m _ (by simp [hlt])
      have h256 : bs[m] < 256 := h8 _ (List.getElem_mem hlt)
      clear hcells
      go_wp2
      obtain ⟨wo, rfl⟩ : ∃ wo : World, wo = wr := ⟨_, rfl⟩
      go_loopw [6, 15] (fun i i2 wq => ∃ (j : Nat), j ≤ 8 ∧ i2 = .int .i64 (j : Int) ∧ CoinAt wq p (grow S w wq) (bits ++ (bs.take m).flatMap bitsOf ++ (bitsOf bs[m]).take j) ∧ Mod S w wq) (fun _ i _ => 8 - (intOf i).toNat)
      case atStart => exact ⟨0, by omega, rfl, by simpa using hl, hmod⟩
      case round =>
        clear hl hmod hx
        obtain ⟨j, hj, rfl, hl, hmod⟩ := hrel
        by_cases hj8 : j < 8
        · have hsn := bitsOf_snoc bs[m] j hj8
          have hfull := feed_full bits bs m hlt j
          have hb := bit_eq bs[m] j h256
          obtain ⟨A2, c2, hb2, hs2, hp2, h202⟩ := hl
          have HS := Lib.hid hsn
          clear hsn
          generalize hcur : bits ++ (bs.take m).flatMap bitsOf ++ (bitsOf bs[m]).take j = cur at *
          have HC := Lib.hid hcur
          clear hcur
          have hc2 : wr.cell? ⟨p, 0, none⟩ = some (.slice A2 cur.length c2) := hb2.cell 0
          have hf2 := hb2.frozen 0
          have hplt2 := hb2.lt
          by_cases hful : cur.length = 20000
          · have HF := Lib.hid (hfull hful)
            clear hfull
            have e2 : ((cur.length : Int) == 20000) = true := by simp; omega
            have hful' := Lib.hid hful
            clear hful
            go_wp2
            refine bodyPost_ret (results_none rfl _ _ _) rfl ?_
            rw [HF.out]
            exact ⟨rfl, ⟨A2, c2, hb2, hs2, hp2, h202⟩, hmod⟩
          · have e2 : ((cur.length : Int) == 20000) = false := by simp; omega
            have hne : cur.length < 20000 := by omega
            clear hfull hful
            have hown := hs2.off hb2 (by decide)
            go_wp2
            go_region_law (refine step_append_sl _ rfl (.tmp 28) (.tmp 34) _ rfl 4 i0 _ 1 1 Try.underlying35 hi0 hz0 hz1 hz2 rfl (by omega) A2 cur.length c2 _ _ (by rfl) (by exact (hown.alloc _).drew) (· = wr.heap.size) (some ⟨wr.heap.size, 0, none⟩) 1 1 [.bool (bitAt bs[m] j)] (by rfl) (by exact (Rd.lit (sz := 1) wr _ #[.bool (bitAt bs[m] j)] 1 rfl).drew) (by simp [Value.oneCell']) (by simp only [maxLen]; omega) (by omega) ?_; intro A' c' w1 hown1 hmod1; have hblk1 := ((hb2.alloc _).drew).mod hmod1 (by simp); have hc1 : w1.cell? ⟨p, 0, none⟩ = some (.slice A2 cur.length c2) := hblk1.cell 0; have hf1 := hblk1.frozen 0)
            all_goals
              go_wp2
              go_roundw
              case rel =>
                refine ⟨j + 1, by omega, by go_num, ?_⟩
                rw [HS.out, ← List.append_assoc, HC.out]
                exact coin_put hmod hp2 hne hblk1 hown1 hmod1
              case measure => simp [intOf]; omega
        · have hj9 : j = 8 := by omega
          subst hj9
          clear hj hj8
          go_wp2
          go_roundw
          case rel =>
            refine ⟨m + 1, by omega, by go_num, ?_, hmod⟩
            rw [fed_snoc _ _ _ hlt]
            simpa [List.take_of_length_le (show (bitsOf bs[m]).length ≤ 8 by simp [bitsOf_length])] using hl
          case measure => simp [intOf]; omega
    · have : m = bs.length := by omega
      subst this
      rw [List.take_of_length_le (Nat.le_refl _)] at hl
      go_wp2
      go_end0
      rw [feed_done _ _ (by obtain ⟨_, _, _, _, _, h⟩ := hl; exact h)]
      exact ⟨rfl, hl, hmod⟩

end Go.Proofs.Ytnoaidlhebmgmaa
