/-
  The way back to bytes: the walk of Encode.
-/
import Derived.Deep.RegionHeld3
import Derived.Test.YtefenbmchfbohaaScrF
namespace Go.Rp
open Go.RowKit
/-- What is encoded, and the error. -/
def encR (l : List Ent) : List Int × Int := if l.all encOk = true then (l.flatMap encB, 0) else ([], 1)
theorem encOk_of {e : Ent} (h3 : ¬ 3 < e.1) (h : encE e = e) : encOk e = true := by simp [encOk, h]; omega
theorem enc_succ (l : List Ent) (j : Nat) (hj : j < l.length) {e : Ent} (he : l[j] = e) (hall : (l.take j).all encOk = true) (h3 : ¬ 3 < e.1) (h : encE e = e) :
    (l.take (j + 1)).flatMap encB = (l.take j).flatMap encB ++ encB e ∧ (l.take (j + 1)).all encOk = true := by
  subst he
  rw [List.take_succ_eq_append_getElem hj]
  refine ⟨by rw [List.flatMap_append]; simp only [List.flatMap_cons, List.flatMap_nil, List.append_nil], ?_⟩
  rw [List.all_append, hall]
  simp [encOk_of h3 h]
theorem enc_bad (l : List Ent) (j : Nat) (hj : j < l.length) {e : Ent} (he : l[j] = e) (h : 3 < e.1 ∨ ¬ encE e = e) : encR l = ([], 1) := by
  unfold encR
  rw [if_neg]
  intro hall
  have := List.all_eq_true.1 hall e (by rw [← he]; exact List.getElem_mem hj)
  simp only [encOk, Bool.and_eq_true, Bool.not_eq_true', decide_eq_false_iff_not, decide_eq_true_eq] at this
  rcases h with h | h
  · exact this.1 h
  · exact h this.2
theorem wrap_byte (x : Int) : 0 ≤ x % 256 ∧ x % 256 ≤ 255 := by omega
theorem encR_length (l : List Ent) : (encR l).1.length ≤ 4 * l.length := by
  unfold encR
  split
  · rw [flat_encB_length]; exact Nat.le_refl _
  · simp
/-- The kinds and bits of entries are bytes. -/
def Ebyt (l : List Ent) : Prop := ∀ e ∈ l, (0 ≤ e.1 ∧ e.1 ≤ 255) ∧ (0 ≤ e.2.2.1 ∧ e.2.2.1 ≤ 255) ∧ 0 ≤ e.2.2.2.2 ∧ e.2.2.2.2 ≤ 255
end Go.Rp
namespace Go.Proofs.Ytefenbmchfbohaa
open Go.RowKit Go.Rp

theorem ent_neq (W : World) (x : Ent) : (binOp .neq 30 (entV x) (entV x)).run Try.prog W = .ok (.bool false) W := by
  rw [run_neq_struct, ent_eq, decide_eq_true rfl]
  rfl
theorem info_byte : (Try.prog.info? 5).map (fun i => (i.zero, i.size, i.bytes)) = some (some (.int .u8 0), 1, 1) := by kernel_rfl
/-- What Encode tells. -/
def EncDone (w : World) (e : TypeId) (k : IntKind) (l : List Ent) (en : Ending) (w' : World) : Prop :=
  ∃ A' c', en = .returned (.tuple #[.slice A' (encR l).1.length c', .int k (encR l).2]) ∧ Sl w' e 1 A' (encR l).1.length c' ((encR l).1.map fun x => Value.int .u8 x) (fun b => w.heap.size ≤ b ∧ b < w'.heap.size) ∧ Below w.heap.size w w'

set_option maxRecDepth 100000 in
set_option maxHeartbeats 4000000 in
theorem encode_any (w : World) (A : Option Addr) (n c : Nat) (R : Nat → Prop) (l : List Ent) (hn : l.length = n) (hr : Rd w R 5 A n (l.flatMap entIn)) (hb8 : Ebyt l) (hlen : n ≤ 100000) :
    Calls Try.prog 14 #[.slice A n c] w (EncDone w 5 .u16 l) := by
  obtain ⟨i0, hi0, hz0, hz1, hz2⟩ := info_parts info_byte
  have HN := Lib.hid hn
  have H8 := Lib.hid hb8
  clear hn hb8
  go_enter Try.func14, Try.ntmps14
  go_wp2_with fail
  go_loopg [4, 11] n (fun gk v k wr => ∃ (j : Nat) (A' : Option Addr) (c' : Nat), j + gk = n ∧ k = .int .i64 (j : Int) ∧ v = .slice A' (4 * j) c' ∧ Hid ((l.take j).all encOk = true) ∧ Sl wr 5 1 A' (4 * j) c' (((l.take j).flatMap encB).map fun x => Value.int .u8 x) (fun b => w.heap.size ≤ b) ∧ Below w.heap.size w wr)
  case atStart => exact ⟨0, none, 0, by omega, rfl, rfl, Lib.hid rfl, Sl.nil _ _ _ _, Below.refl _ _⟩
  case round =>
    obtain ⟨j, A', c', hj, rfl, rfl, hall, hs, hb⟩ := hrel
    have hz0' := hb.size
    by_cases hlt : j < n
    · have hjl : j < l.length := by rw [HN.out]; exact hlt
      obtain ⟨b, off, rfl, _, hcells⟩ := (hr.kept hb).at (by omega)
      obtain ⟨e0, e1, e2, e3, e4⟩ := ent_at l j hjl
      have g0 := hcells _ _ e0
      have g1 := hcells _ _ e1
      have g2 := hcells _ _ e2
      have g3 := hcells _ _ e3
      have g4 := hcells _ _ e4
      simp only [← Nat.add_assoc] at g0 g1 g2 g3 g4
      obtain ⟨k0, k2, k4⟩ := H8.out _ (List.getElem_mem hjl)
      obtain ⟨e, hle⟩ : ∃ e, l[j] = e := ⟨_, rfl⟩
      rw [hle] at g0 g1 g2 g3 g4 k0 k2 k4
      clear hcells e0 e1 e2 e3 e4
      by_cases hk3 : e.1 = 3
      · have hok3 : ¬ 3 < e.1 := by omega
        have hok3' : ¬ e.1 > 3 := by omega
        have hk3' : (e.1 == 3) = true := by simpa using hk3
        have HK3 := Lib.hid hk3
        clear hk3
        have hlast : lastB e = e.2.2.2.2 := if_pos HK3.out
        have hd3 : decide (3 < e.1) = false := decide_eq_false hok3
        have hlit2 : ∀ W', Below ((wr.alloc (.cells #[.int .u8 e.1, .int .i64 e.2.1, .int .u8 e.2.2.1, .int .i32 e.2.2.2.1, .int .u8 e.2.2.2.2] 30)).alloc (.cells #[.int .u8 e.1, .int .u8 (e.2.1 % 256), .int .u8 e.2.2.1, .int .u8 (e.2.2.2.2)] 5)).heap.size ((wr.alloc (.cells #[.int .u8 e.1, .int .i64 e.2.1, .int .u8 e.2.2.1, .int .i32 e.2.2.2.1, .int .u8 e.2.2.2.2] 30)).alloc (.cells #[.int .u8 e.1, .int .u8 (e.2.1 % 256), .int .u8 e.2.2.1, .int .u8 (e.2.2.2.2)] 5)).drew W' → Rd W' (fun b => b = wr.heap.size + 1) 1 (some ⟨wr.heap.size + 1, 0, none⟩) 4 ((encB e).map fun x => Value.int .u8 x) := fun W' hW' => by
          have h := Rd.lit (sz := 1) (wr.alloc (.cells #[.int .u8 e.1, .int .i64 e.2.1, .int .u8 e.2.2.1, .int .i32 e.2.2.2.1, .int .u8 e.2.2.2.2] 30)) 5 #[.int .u8 e.1, .int .u8 (e.2.1 % 256), .int .u8 e.2.2.1, .int .u8 (e.2.2.2.2)] 4 rfl
          rw [World.size_alloc] at h
          have h2 := (h.drew).kept hW'
          rw [encB_eq, hlast]
          exact h2
        have hbox2 : ∀ W', Below ((wr.alloc (.cells #[.int .u8 e.1, .int .i64 e.2.1, .int .u8 e.2.2.1, .int .i32 e.2.2.2.1, .int .u8 e.2.2.2.2] 30)).alloc (.cells #[.int .u8 e.1, .int .u8 (e.2.1 % 256), .int .u8 e.2.2.1, .int .u8 (e.2.2.2.2)] 5)).heap.size ((wr.alloc (.cells #[.int .u8 e.1, .int .i64 e.2.1, .int .u8 e.2.2.1, .int .i32 e.2.2.2.1, .int .u8 e.2.2.2.2] 30)).alloc (.cells #[.int .u8 e.1, .int .u8 (e.2.1 % 256), .int .u8 e.2.2.1, .int .u8 (e.2.2.2.2)] 5)).drew W' → W'.cell? ⟨wr.heap.size, 0, none⟩ = some (.int .u8 e.1) ∧ W'.cell? ⟨wr.heap.size, 1, none⟩ = some (.int .i64 e.2.1) ∧ W'.cell? ⟨wr.heap.size, 2, none⟩ = some (.int .u8 e.2.2.1) ∧ W'.cell? ⟨wr.heap.size, 3, none⟩ = some (.int .i32 e.2.2.2.1) ∧ W'.cell? ⟨wr.heap.size, 4, none⟩ = some (.int .u8 e.2.2.2.2) := fun W' hW' => by
          have h := (((Blk.new wr 30 #[.int .u8 e.1, .int .i64 e.2.1, .int .u8 e.2.2.1, .int .i32 e.2.2.2.1, .int .u8 e.2.2.2.2]).alloc (.cells #[.int .u8 e.1, .int .u8 (e.2.1 % 256), .int .u8 e.2.2.1, .int .u8 (e.2.2.2.2)] 5)).drew).below hW' (by simp only [World.size_alloc]; omega)
          exact ⟨h.cell 0, h.cell 1, h.cell 2, h.cell 3, h.cell 4⟩
        have hent := entry_raw ((wr.alloc (.cells #[.int .u8 e.1, .int .i64 e.2.1, .int .u8 e.2.2.1, .int .i32 e.2.2.2.1, .int .u8 e.2.2.2.2] 30)).alloc (.cells #[.int .u8 e.1, .int .u8 (e.2.1 % 256), .int .u8 e.2.2.1, .int .u8 (e.2.2.2.2)] 5)).drew (wr.heap.size + 1) 0 4 e.1 (e.2.1 % 256) e.2.2.1 (e.2.2.2.2)
          (by have h := (Blk.new (wr.alloc (.cells #[.int .u8 e.1, .int .i64 e.2.1, .int .u8 e.2.2.1, .int .i32 e.2.2.2.1, .int .u8 e.2.2.2.2] 30)) 5 #[.int .u8 e.1, .int .u8 (e.2.1 % 256), .int .u8 e.2.2.1, .int .u8 (e.2.2.2.2)]).cell 0; rw [World.size_alloc] at h; exact h)
          (by have h := (Blk.new (wr.alloc (.cells #[.int .u8 e.1, .int .i64 e.2.1, .int .u8 e.2.2.1, .int .i32 e.2.2.2.1, .int .u8 e.2.2.2.2] 30)) 5 #[.int .u8 e.1, .int .u8 (e.2.1 % 256), .int .u8 e.2.2.1, .int .u8 (e.2.2.2.2)]).cell 1; rw [World.size_alloc] at h; exact h)
          (by have h := (Blk.new (wr.alloc (.cells #[.int .u8 e.1, .int .i64 e.2.1, .int .u8 e.2.2.1, .int .i32 e.2.2.2.1, .int .u8 e.2.2.2.2] 30)) 5 #[.int .u8 e.1, .int .u8 (e.2.1 % 256), .int .u8 e.2.2.1, .int .u8 (e.2.2.2.2)]).cell 2; rw [World.size_alloc] at h; exact h)
          (by have h := (Blk.new (wr.alloc (.cells #[.int .u8 e.1, .int .i64 e.2.1, .int .u8 e.2.2.1, .int .i32 e.2.2.2.1, .int .u8 e.2.2.2.2] 30)) 5 #[.int .u8 e.1, .int .u8 (e.2.1 % 256), .int .u8 e.2.2.1, .int .u8 (e.2.2.2.2)]).cell 3; rw [World.size_alloc] at h; exact h)
          (by simp [World.drew]) (wrap_byte _) k4
        rw [show entryOf e.1 (e.2.1 % 256) e.2.2.1 (e.2.2.2.2) = encE e by unfold encE; rw [hlast]] at hent
        have hlit := Lib.hid hlit2
        have hbox := Lib.hid hbox2
        clear hlit2 hbox2 hlast
        by_cases hok : encE e = e
        · skip
          have hq : ∀ W, (binOp .neq 30 (entV (encE e)) (entV e)).run Try.prog W = .ok (.bool false) W := fun W => by rw [hok]; exact ent_neq W e
          have hs2 := Lib.hid (enc_succ l j hjl hle hall.out hok3 hok)
          clear hjl hle
          go_wp2_with fail
          clear g0 g1 g2 g3 g4
          go_region_held3 (fun w' => w'.cell? ⟨wr.heap.size, 0, none⟩ = some (.int .u8 e.1) ∧ w'.cell? ⟨wr.heap.size, 1, none⟩ = some (.int .i64 e.2.1) ∧ w'.cell? ⟨wr.heap.size, 2, none⟩ = some (.int .u8 e.2.2.1) ∧ w'.cell? ⟨wr.heap.size, 3, none⟩ = some (.int .i32 e.2.2.2.1) ∧ w'.cell? ⟨wr.heap.size, 4, none⟩ = some (.int .u8 e.2.2.2.2)) (first | (refine ⟨?_, ?_, ?_, ?_, ?_⟩ <;> assumption) | go_keep) (first
            | (go_at_call 22; (refine hent.mono ?_); rintro ee w5 ⟨rfl, b5⟩; obtain ⟨c0, c1, c2, c3, c4⟩ := hbox.out w5 b5))
          have hz5 := b5.size
          simp at hz5
          have hr5 : Rd w5 (fun b => b = wr.heap.size + 1) 1 (some ⟨wr.heap.size + 1, 0, none⟩) 4 ((encB e).map fun x => Value.int .u8 x) := hlit.out w5 b5
          have hs5 : Sl w5 5 1 A' (4 * j) c' _ (fun b => w.heap.size ≤ b ∧ b < wr.heap.size) := Sl.map hs.lt fun g hg cur hc => (((hc.alloc _).alloc _).drew).below b5 (by simp; omega)
          have q1 : 4 * j + 4 ≤ maxLen := by simp only [maxLen]; omega
          have q2 : (4 * j + 4) * 1 ≤ 140737488355328 := by omega
          go_wp2_with (at_builtin; refine wpList_append_sl _ rfl (.tmp 43) (.tmp 44) _ rfl 5 i0 _ 1 1 Try.underlying24 hi0 hz0 hz1 hz2 rfl (by omega) A' (4 * j) c' _ _ rfl hs5 _ (some ⟨wr.heap.size + 1, 0, none⟩) 4 4 _ rfl hr5 (by intro u hu; obtain ⟨x, _, rfl⟩ := List.mem_map.1 hu; rfl) q1 q2 ?_; intro A2 c2 w6 hown hmod)
          have hz6 := hmod.size
          go_roundg (gk - 1)
          case measure => omega
          case rel =>
            refine ⟨j + 1, A2, c2, by omega, by go_num, by go_num, ?_, ?_, ?_⟩
            · exact Lib.hid (hs2.out).2
            · rw [(hs2.out).1, List.map_append, show 4 * (j + 1) = 4 * j + 4 by omega]
              refine Sl.mono hown fun b hb => ?_
              rcases hb with hb | hb
              · exact hb.1
              · omega
            · exact hb.trans (((((Below.refl _ wr).alloc (Nat.le_refl _) _).alloc (by simp) _).drew.trans (b5.mono (by simp; omega)) |>.mono hb.size).trans (hmod.below (by omega) fun b hb => by omega))
        · skip
          have hq : ∀ W, (binOp .neq 30 (entV (encE e)) (entV e)).run Try.prog W = .ok (.bool true) W := fun W => by rw [run_neq_struct, ent_eq, decide_eq_false hok]; rfl
          have hs2 := Lib.hid (enc_bad l j hjl hle (.inr hok))
          clear hjl hle
          go_wp2_with fail
          clear g0 g1 g2 g3 g4
          go_region_held3 (fun w' => w'.cell? ⟨wr.heap.size, 0, none⟩ = some (.int .u8 e.1) ∧ w'.cell? ⟨wr.heap.size, 1, none⟩ = some (.int .i64 e.2.1) ∧ w'.cell? ⟨wr.heap.size, 2, none⟩ = some (.int .u8 e.2.2.1) ∧ w'.cell? ⟨wr.heap.size, 3, none⟩ = some (.int .i32 e.2.2.2.1) ∧ w'.cell? ⟨wr.heap.size, 4, none⟩ = some (.int .u8 e.2.2.2.2)) (first | (refine ⟨?_, ?_, ?_, ?_, ?_⟩ <;> assumption) | go_keep) (first
            | (go_at_call 22; (refine hent.mono ?_); rintro ee w5 ⟨rfl, b5⟩; obtain ⟨c0, c1, c2, c3, c4⟩ := hbox.out w5 b5))
          go_wp2_with fail
          go_ret2
          unfold EncDone
          rw [hs2.out]
          exact ⟨none, 0, rfl, Sl.nil _ _ _ _, hb.trans (((((Below.refl _ wr).alloc (Nat.le_refl _) _).alloc (by simp) _).drew.trans (b5.mono (by simp; omega))).mono hb.size)⟩
      · have hk3' : (e.1 == 3) = false := by simpa using hk3
        by_cases hk4 : 3 < e.1
        · have hs2 := Lib.hid (enc_bad l j hjl hle (.inl hk4))
          clear hjl hle
          go_wp2_with fail
          go_quiet (fail)
          go_wp2_with fail
          go_ret2
          unfold EncDone
          rw [hs2.out]
          exact ⟨none, 0, rfl, Sl.nil _ _ _ _, below_drewN (hb.trans ((((Below.refl _ wr).alloc (Nat.le_refl _) _).alloc (by simp) _).mono hb.size)) _⟩
        · have hok3 : ¬ 3 < e.1 := hk4
          have hlast : lastB e = e.2.2.2.1 % 256 := if_neg hk3
          have hd3 : decide (3 < e.1) = false := decide_eq_false hok3
          have hlit2 : ∀ W', Below ((wr.alloc (.cells #[.int .u8 e.1, .int .i64 e.2.1, .int .u8 e.2.2.1, .int .i32 e.2.2.2.1, .int .u8 e.2.2.2.2] 30)).alloc (.cells #[.int .u8 e.1, .int .u8 (e.2.1 % 256), .int .u8 e.2.2.1, .int .u8 (e.2.2.2.1 % 256)] 5)).heap.size ((wr.alloc (.cells #[.int .u8 e.1, .int .i64 e.2.1, .int .u8 e.2.2.1, .int .i32 e.2.2.2.1, .int .u8 e.2.2.2.2] 30)).alloc (.cells #[.int .u8 e.1, .int .u8 (e.2.1 % 256), .int .u8 e.2.2.1, .int .u8 (e.2.2.2.1 % 256)] 5)).drew W' → Rd W' (fun b => b = wr.heap.size + 1) 1 (some ⟨wr.heap.size + 1, 0, none⟩) 4 ((encB e).map fun x => Value.int .u8 x) := fun W' hW' => by
            have h := Rd.lit (sz := 1) (wr.alloc (.cells #[.int .u8 e.1, .int .i64 e.2.1, .int .u8 e.2.2.1, .int .i32 e.2.2.2.1, .int .u8 e.2.2.2.2] 30)) 5 #[.int .u8 e.1, .int .u8 (e.2.1 % 256), .int .u8 e.2.2.1, .int .u8 (e.2.2.2.1 % 256)] 4 rfl
            rw [World.size_alloc] at h
            have h2 := (h.drew).kept hW'
            rw [encB_eq, hlast]
            exact h2
          have hbox2 : ∀ W', Below ((wr.alloc (.cells #[.int .u8 e.1, .int .i64 e.2.1, .int .u8 e.2.2.1, .int .i32 e.2.2.2.1, .int .u8 e.2.2.2.2] 30)).alloc (.cells #[.int .u8 e.1, .int .u8 (e.2.1 % 256), .int .u8 e.2.2.1, .int .u8 (e.2.2.2.1 % 256)] 5)).heap.size ((wr.alloc (.cells #[.int .u8 e.1, .int .i64 e.2.1, .int .u8 e.2.2.1, .int .i32 e.2.2.2.1, .int .u8 e.2.2.2.2] 30)).alloc (.cells #[.int .u8 e.1, .int .u8 (e.2.1 % 256), .int .u8 e.2.2.1, .int .u8 (e.2.2.2.1 % 256)] 5)).drew W' → W'.cell? ⟨wr.heap.size, 0, none⟩ = some (.int .u8 e.1) ∧ W'.cell? ⟨wr.heap.size, 1, none⟩ = some (.int .i64 e.2.1) ∧ W'.cell? ⟨wr.heap.size, 2, none⟩ = some (.int .u8 e.2.2.1) ∧ W'.cell? ⟨wr.heap.size, 3, none⟩ = some (.int .i32 e.2.2.2.1) ∧ W'.cell? ⟨wr.heap.size, 4, none⟩ = some (.int .u8 e.2.2.2.2) := fun W' hW' => by
            have h := (((Blk.new wr 30 #[.int .u8 e.1, .int .i64 e.2.1, .int .u8 e.2.2.1, .int .i32 e.2.2.2.1, .int .u8 e.2.2.2.2]).alloc (.cells #[.int .u8 e.1, .int .u8 (e.2.1 % 256), .int .u8 e.2.2.1, .int .u8 (e.2.2.2.1 % 256)] 5)).drew).below hW' (by simp only [World.size_alloc]; omega)
            exact ⟨h.cell 0, h.cell 1, h.cell 2, h.cell 3, h.cell 4⟩
          have hent := entry_raw ((wr.alloc (.cells #[.int .u8 e.1, .int .i64 e.2.1, .int .u8 e.2.2.1, .int .i32 e.2.2.2.1, .int .u8 e.2.2.2.2] 30)).alloc (.cells #[.int .u8 e.1, .int .u8 (e.2.1 % 256), .int .u8 e.2.2.1, .int .u8 (e.2.2.2.1 % 256)] 5)).drew (wr.heap.size + 1) 0 4 e.1 (e.2.1 % 256) e.2.2.1 (e.2.2.2.1 % 256)
            (by have h := (Blk.new (wr.alloc (.cells #[.int .u8 e.1, .int .i64 e.2.1, .int .u8 e.2.2.1, .int .i32 e.2.2.2.1, .int .u8 e.2.2.2.2] 30)) 5 #[.int .u8 e.1, .int .u8 (e.2.1 % 256), .int .u8 e.2.2.1, .int .u8 (e.2.2.2.1 % 256)]).cell 0; rw [World.size_alloc] at h; exact h)
            (by have h := (Blk.new (wr.alloc (.cells #[.int .u8 e.1, .int .i64 e.2.1, .int .u8 e.2.2.1, .int .i32 e.2.2.2.1, .int .u8 e.2.2.2.2] 30)) 5 #[.int .u8 e.1, .int .u8 (e.2.1 % 256), .int .u8 e.2.2.1, .int .u8 (e.2.2.2.1 % 256)]).cell 1; rw [World.size_alloc] at h; exact h)
            (by have h := (Blk.new (wr.alloc (.cells #[.int .u8 e.1, .int .i64 e.2.1, .int .u8 e.2.2.1, .int .i32 e.2.2.2.1, .int .u8 e.2.2.2.2] 30)) 5 #[.int .u8 e.1, .int .u8 (e.2.1 % 256), .int .u8 e.2.2.1, .int .u8 (e.2.2.2.1 % 256)]).cell 2; rw [World.size_alloc] at h; exact h)
            (by have h := (Blk.new (wr.alloc (.cells #[.int .u8 e.1, .int .i64 e.2.1, .int .u8 e.2.2.1, .int .i32 e.2.2.2.1, .int .u8 e.2.2.2.2] 30)) 5 #[.int .u8 e.1, .int .u8 (e.2.1 % 256), .int .u8 e.2.2.1, .int .u8 (e.2.2.2.1 % 256)]).cell 3; rw [World.size_alloc] at h; exact h)
            (by simp [World.drew]) (wrap_byte _) (wrap_byte _)
          rw [show entryOf e.1 (e.2.1 % 256) e.2.2.1 (e.2.2.2.1 % 256) = encE e by unfold encE; rw [hlast]] at hent
          have hlit := Lib.hid hlit2
          have hbox := Lib.hid hbox2
          clear hlit2 hbox2 hlast
          by_cases hok : encE e = e
          · skip
            have hq : ∀ W, (binOp .neq 30 (entV (encE e)) (entV e)).run Try.prog W = .ok (.bool false) W := fun W => by rw [hok]; exact ent_neq W e
            have hs2 := Lib.hid (enc_succ l j hjl hle hall.out hok3 hok)
            clear hjl hle
            go_wp2_with fail
            clear g0 g1 g2 g3 g4
            go_region_held3 (fun w' => w'.cell? ⟨wr.heap.size, 0, none⟩ = some (.int .u8 e.1) ∧ w'.cell? ⟨wr.heap.size, 1, none⟩ = some (.int .i64 e.2.1) ∧ w'.cell? ⟨wr.heap.size, 2, none⟩ = some (.int .u8 e.2.2.1) ∧ w'.cell? ⟨wr.heap.size, 3, none⟩ = some (.int .i32 e.2.2.2.1) ∧ w'.cell? ⟨wr.heap.size, 4, none⟩ = some (.int .u8 e.2.2.2.2)) (first | (refine ⟨?_, ?_, ?_, ?_, ?_⟩ <;> assumption) | go_keep) (first
              | (go_at_call 22; (refine hent.mono ?_); rintro ee w5 ⟨rfl, b5⟩; obtain ⟨c0, c1, c2, c3, c4⟩ := hbox.out w5 b5))
            have hz5 := b5.size
            simp at hz5
            have hr5 : Rd w5 (fun b => b = wr.heap.size + 1) 1 (some ⟨wr.heap.size + 1, 0, none⟩) 4 ((encB e).map fun x => Value.int .u8 x) := hlit.out w5 b5
            have hs5 : Sl w5 5 1 A' (4 * j) c' _ (fun b => w.heap.size ≤ b ∧ b < wr.heap.size) := Sl.map hs.lt fun g hg cur hc => (((hc.alloc _).alloc _).drew).below b5 (by simp; omega)
            have q1 : 4 * j + 4 ≤ maxLen := by simp only [maxLen]; omega
            have q2 : (4 * j + 4) * 1 ≤ 140737488355328 := by omega
            go_wp2_with (at_builtin; refine wpList_append_sl _ rfl (.tmp 43) (.tmp 44) _ rfl 5 i0 _ 1 1 Try.underlying24 hi0 hz0 hz1 hz2 rfl (by omega) A' (4 * j) c' _ _ rfl hs5 _ (some ⟨wr.heap.size + 1, 0, none⟩) 4 4 _ rfl hr5 (by intro u hu; obtain ⟨x, _, rfl⟩ := List.mem_map.1 hu; rfl) q1 q2 ?_; intro A2 c2 w6 hown hmod)
            have hz6 := hmod.size
            go_roundg (gk - 1)
            case measure => omega
            case rel =>
              refine ⟨j + 1, A2, c2, by omega, by go_num, by go_num, ?_, ?_, ?_⟩
              · exact Lib.hid (hs2.out).2
              · rw [(hs2.out).1, List.map_append, show 4 * (j + 1) = 4 * j + 4 by omega]
                refine Sl.mono hown fun b hb => ?_
                rcases hb with hb | hb
                · exact hb.1
                · omega
              · exact hb.trans (((((Below.refl _ wr).alloc (Nat.le_refl _) _).alloc (by simp) _).drew.trans (b5.mono (by simp; omega)) |>.mono hb.size).trans (hmod.below (by omega) fun b hb => by omega))
          · skip
            have hq : ∀ W, (binOp .neq 30 (entV (encE e)) (entV e)).run Try.prog W = .ok (.bool true) W := fun W => by rw [run_neq_struct, ent_eq, decide_eq_false hok]; rfl
            have hs2 := Lib.hid (enc_bad l j hjl hle (.inr hok))
            clear hjl hle
            go_wp2_with fail
            clear g0 g1 g2 g3 g4
            go_region_held3 (fun w' => w'.cell? ⟨wr.heap.size, 0, none⟩ = some (.int .u8 e.1) ∧ w'.cell? ⟨wr.heap.size, 1, none⟩ = some (.int .i64 e.2.1) ∧ w'.cell? ⟨wr.heap.size, 2, none⟩ = some (.int .u8 e.2.2.1) ∧ w'.cell? ⟨wr.heap.size, 3, none⟩ = some (.int .i32 e.2.2.2.1) ∧ w'.cell? ⟨wr.heap.size, 4, none⟩ = some (.int .u8 e.2.2.2.2)) (first | (refine ⟨?_, ?_, ?_, ?_, ?_⟩ <;> assumption) | go_keep) (first
              | (go_at_call 22; (refine hent.mono ?_); rintro ee w5 ⟨rfl, b5⟩; obtain ⟨c0, c1, c2, c3, c4⟩ := hbox.out w5 b5))
            go_wp2_with fail
            go_ret2
            unfold EncDone
            rw [hs2.out]
            exact ⟨none, 0, rfl, Sl.nil _ _ _ _, hb.trans (((((Below.refl _ wr).alloc (Nat.le_refl _) _).alloc (by simp) _).drew.trans (b5.mono (by simp; omega))).mono hb.size)⟩
    · obtain rfl : j = n := by omega
      have hrd := hs.lt
      have hall2 := hall.out
      rw [List.take_of_length_le (by rw [HN.out]; exact Nat.le_refl _)] at hrd hall2
      have hR : encR l = (l.flatMap encB, 0) := if_pos hall2
      have hL : (l.flatMap encB).length = 4 * j := by rw [flat_encB_length, HN.out]
      clear hs hall hall2
      go_wp2_with fail
      go_ret2
      unfold EncDone
      rw [hR, hL]
      exact ⟨A', c', rfl, hrd, hb⟩
end Go.Proofs.Ytefenbmchfbohaa
