/-
  The way back to bytes, by the document: the walk.
-/
import Derived.Test.YtefenbmchfbohaaScrI
namespace Go.Proofs.Ytefenbmchfbohaa
open Go.RowKit Go.Rp

theorem rdec4 (w : World) (g : Nat) (cc : Nat) (k a b c : Int) (hX : Blk w g 5 #[.int .u8 k, .int .u8 a, .int .u8 b, .int .u8 c]) (hk : 0 ≤ k ∧ k ≤ 255) (ha : 0 ≤ a ∧ a ≤ 255) (hb : 0 ≤ b ∧ b ≤ 255) (hc : 0 ≤ c ∧ c ≤ 255) :
    Calls Try.prog 17 #[.slice (some ⟨g, 0, none⟩) 4 cc] w fun e w' =>
      ∃ A' c', e = .returned (.slice A' 1 c') ∧ Rd w' (fun _ => True) 5 A' 1 ([entryOf k a b c].flatMap entIn) ∧ Below w.heap.size w w' := by
  have h1 := Rd.of_blk (R := fun _ => True) (sz := 1) hX trivial 4 rfl
  have hd := rDecode_any w (some ⟨g, 0, none⟩) 4 cc _ [k, a, b, c] rfl h1 (by omega) (by intro x hx; simp at hx; omega)
  have hdl : decL [k, a, b, c] = [entryOf k a b c] := by
    unfold decL
    rw [show [k, a, b, c].length / 4 = 1 by simp]
    rfl
  rw [hdl] at hd
  exact hd.mono fun e w' ⟨A', c', he, hs, hb⟩ => ⟨A', c', he, hs.rd.more fun _ _ => trivial, hb⟩

set_option maxRecDepth 100000 in
set_option maxHeartbeats 4000000 in
theorem rEncode_any (w : World) (A : Option Addr) (n c : Nat) (R : Nat → Prop) (l : List Ent) (hn : l.length = n) (hr : Rd w R 5 A n (l.flatMap entIn)) (hb8 : Ebyt l) (hlen : n ≤ 100000) :
    Calls Try.prog 16 #[.slice A n c] w (EncDone w 5 .i64 l) := by
  obtain ⟨i0, hi0, hz0, hz1, hz2⟩ := info_parts info_byte
  have HN := Lib.hid hn
  have H8 := Lib.hid hb8
  clear hn hb8
  go_enter Try.func16, Try.ntmps16
  go_wp2_with fail
  go_loopg [4, 5] n (fun gk v k wr => ∃ (j : Nat) (A' : Option Addr) (c' : Nat), j + gk = n ∧ k = .int .i64 (j : Int) ∧ v = .slice A' (4 * j) c' ∧ Hid ((l.take j).all encOk = true) ∧ Sl wr 5 1 A' (4 * j) c' (((l.take j).flatMap encB).map fun x => Value.int .u8 x) (fun b => w.heap.size ≤ b) ∧ Below w.heap.size w wr)
  case atStart => exact ⟨0, none, 0, by omega, rfl, rfl, Lib.hid rfl, Sl.nil _ _ _ _, Below.refl _ _⟩
  case round =>
    obtain ⟨j, A', c', hj, rfl, rfl, hall, hs, hb⟩ := hrel
    have hz0' := hb.size
    by_cases hlt : j < n
    · have hjl : j < l.length := by rw [HN.out]; exact hlt
      obtain ⟨b, off, rfl, _, hcells⟩ := (hr.kept hb).at (by omega)
      obtain ⟨e0, e1, e2, e3, e4⟩ := ent_at l j hjl
      have g0 := hcells _ _ e0
      have g1 := hcells _ _ e1
      have g2 := hcells _ _ e2
      have g3 := hcells _ _ e3
      have g4 := hcells _ _ e4
      simp only [← Nat.add_assoc] at g0 g1 g2 g3 g4
      obtain ⟨k0, k2, k4⟩ := H8.out _ (List.getElem_mem hjl)
      obtain ⟨e, hle⟩ : ∃ e, l[j] = e := ⟨_, rfl⟩
      rw [hle] at g0 g1 g2 g3 g4 k0 k2 k4
      clear hcells e0 e1 e2 e3 e4
      by_cases hk3 : e.1 = 3
      · have hok3 : ¬ 3 < e.1 := by omega
        have hk3' : (e.1 == 3) = true := by simpa using hk3
        have HK3 := Lib.hid hk3
        have HOK3 := Lib.hid hok3
        clear hok3 hk3
        have hE1 := Blk.new wr 30 #[.int .u8 e.1, .int .i64 e.2.1, .int .u8 e.2.2.1, .int .i32 e.2.2.2.1, .int .u8 e.2.2.2.2]
        have hE := hE1.alloc (.cells #[.int .u8 e.1, .int .u8 (e.2.1 % 256), .int .u8 e.2.2.1, .int .u8 (e.2.2.2.2)] 5)
        have hX := Blk.new (wr.alloc (.cells #[.int .u8 e.1, .int .i64 e.2.1, .int .u8 e.2.2.1, .int .i32 e.2.2.2.1, .int .u8 e.2.2.2.2] 30)) 5 #[.int .u8 e.1, .int .u8 (e.2.1 % 256), .int .u8 e.2.2.1, .int .u8 (e.2.2.2.2)]
        rw [World.size_alloc] at hX
        have hB2 : Below wr.heap.size wr ((wr.alloc (.cells #[.int .u8 e.1, .int .i64 e.2.1, .int .u8 e.2.2.1, .int .i32 e.2.2.2.1, .int .u8 e.2.2.2.2] 30)).alloc (.cells #[.int .u8 e.1, .int .u8 (e.2.1 % 256), .int .u8 e.2.2.1, .int .u8 (e.2.2.2.2)] 5)) := ((Below.refl _ wr).alloc (Nat.le_refl _) _).alloc (by simp) _
        clear hE1
        go_wp2_with fail
        clear g0 g1 g2 g3 g4
        have hsz2 : wr.heap.size ≤ ((wr.alloc (.cells #[.int .u8 e.1, .int .i64 e.2.1, .int .u8 e.2.2.1, .int .i32 e.2.2.2.1, .int .u8 e.2.2.2.2] 30)).alloc (.cells #[.int .u8 e.1, .int .u8 (e.2.1 % 256), .int .u8 e.2.2.1, .int .u8 (e.2.2.2.2)] 5)).heap.size := hB2.size
        generalize ((wr.alloc (.cells #[.int .u8 e.1, .int .i64 e.2.1, .int .u8 e.2.2.1, .int .i32 e.2.2.2.1, .int .u8 e.2.2.2.2] 30)).alloc (.cells #[.int .u8 e.1, .int .u8 (e.2.1 % 256), .int .u8 e.2.2.1, .int .u8 (e.2.2.2.2)] 5)) = W2 at *
        have hlast : lastB e = e.2.2.2.2 := if_pos HK3.out
        have hlit2 : ∀ W', Below W2.heap.size W2.drew W' → Rd W' (fun b => b = wr.heap.size + 1) 1 (some ⟨wr.heap.size + 1, 0, none⟩) 4 ((encB e).map fun x => Value.int .u8 x) := fun W' hW' => by
          have h := Rd.of_blk (R := fun b => b = wr.heap.size + 1) (sz := 1) ((hX.drew).below hW' hX.lt) rfl 4 rfl
          rw [encB_eq, hlast]
          exact h
        have hbox2 : ∀ W', Below W2.heap.size W2.drew W' → W'.cell? ⟨wr.heap.size, 0, none⟩ = some (.int .u8 e.1) ∧ W'.cell? ⟨wr.heap.size, 1, none⟩ = some (.int .i64 e.2.1) ∧ W'.cell? ⟨wr.heap.size, 2, none⟩ = some (.int .u8 e.2.2.1) ∧ W'.cell? ⟨wr.heap.size, 3, none⟩ = some (.int .i32 e.2.2.2.1) ∧ W'.cell? ⟨wr.heap.size, 4, none⟩ = some (.int .u8 e.2.2.2.2) := fun W' hW' => by
          have h := (hE.drew).below hW' hE.lt
          exact ⟨h.cell 0, h.cell 1, h.cell 2, h.cell 3, h.cell 4⟩
        have hent := rdec4 W2.drew (wr.heap.size + 1) 4 e.1 (e.2.1 % 256) e.2.2.1 (e.2.2.2.2) hX.drew k0 (wrap_byte _) k2 k4
        rw [show entryOf e.1 (e.2.1 % 256) e.2.2.1 (e.2.2.2.2) = encE e by unfold encE; rw [hlast]] at hent
        have hlit := Lib.hid hlit2
        have hbox := Lib.hid hbox2
        have hd3 : decide (3 < e.1) = false := decide_eq_false (by have := HOK3.out; omega)
        obtain ⟨c0, c1, c2, c3, c4⟩ : W2.cell? ⟨wr.heap.size, 0, none⟩ = some (.int .u8 e.1) ∧ W2.cell? ⟨wr.heap.size, 1, none⟩ = some (.int .i64 e.2.1) ∧ W2.cell? ⟨wr.heap.size, 2, none⟩ = some (.int .u8 e.2.2.1) ∧ W2.cell? ⟨wr.heap.size, 3, none⟩ = some (.int .i32 e.2.2.2.1) ∧ W2.cell? ⟨wr.heap.size, 4, none⟩ = some (.int .u8 e.2.2.2.2) := ⟨hE.cell 0, hE.cell 1, hE.cell 2, hE.cell 3, hE.cell 4⟩
        clear hlit2 hbox2 hlast hX hE
        by_cases hok : encE e = e
        · have hq : ∀ W, (binOp .neq 30 (entV (encE e)) (entV e)).run Try.prog W = .ok (.bool false) W := fun W => by rw [hok]; exact ent_neq W e
          have hs2 := Lib.hid (enc_succ l j hjl hle hall.out (by have := HOK3.out; omega) hok)
          clear hjl hle
          go_region_with (go_at_call 17; (refine hent.mono ?_); rintro ee w5 ⟨A5, c5, rfl, r5, b5⟩; obtain ⟨c0, c1, c2, c3, c4⟩ := hbox.out w5 b5; obtain ⟨bb, oo, rfl, _, hx5⟩ := r5.at (by omega); have d0 : w5.cell? ⟨bb, oo, none⟩ = some (.int .u8 (encE e).1) := hx5 0 _ rfl; have d1 : w5.cell? ⟨bb, oo + 1, none⟩ = some (.int .i64 (encE e).2.1) := hx5 1 _ rfl; have d2 : w5.cell? ⟨bb, oo + 2, none⟩ = some (.int .u8 (encE e).2.2.1) := hx5 2 _ rfl; have d3 : w5.cell? ⟨bb, oo + 3, none⟩ = some (.int .i32 (encE e).2.2.2.1) := hx5 3 _ rfl; have d4 : w5.cell? ⟨bb, oo + 4, none⟩ = some (.int .u8 (encE e).2.2.2.2) := hx5 4 _ rfl)
          all_goals
            have hz5 := b5.size
            simp at hz5
            have hr5 : Rd w5 (fun b => b = wr.heap.size + 1) 1 (some ⟨wr.heap.size + 1, 0, none⟩) 4 ((encB e).map fun x => Value.int .u8 x) := hlit.out w5 b5
            have b25 : Below wr.heap.size wr w5 := hB2.trans ((b5.mono (by simp; omega) : Below wr.heap.size W2.drew w5) |> fun h => ⟨h.os, h.tape, h.output, h.size, h.block⟩)
            have hs5 : Sl w5 5 1 A' (4 * j) c' _ (fun b => w.heap.size ≤ b ∧ b < wr.heap.size) := Sl.map hs.lt fun g hg cur hc => hc.below b25 hg.2
            have q1 : 4 * j + 4 ≤ maxLen := by simp only [maxLen]; omega
            have q2 : (4 * j + 4) * 1 ≤ 140737488355328 := by omega
            go_wp2_with (at_builtin; refine wpList_append_sl _ rfl (.tmp 49) (.tmp 50) _ rfl 5 i0 _ 1 1 Try.underlying24 hi0 hz0 hz1 hz2 rfl (by omega) A' (4 * j) c' _ _ rfl hs5 _ (some ⟨wr.heap.size + 1, 0, none⟩) 4 4 _ rfl hr5 (by intro u hu; obtain ⟨x, _, rfl⟩ := List.mem_map.1 hu; rfl) q1 q2 ?_; intro A2 c2 w6 hown hmod)
            have hz6 := hmod.size
            go_roundg (gk - 1)
            case measure => omega
            case rel =>
              refine ⟨j + 1, A2, c2, by omega, by go_num, by go_num, ?_, ?_, ?_⟩
              · exact Lib.hid (hs2.out).2
              · rw [(hs2.out).1, List.map_append, show 4 * (j + 1) = 4 * j + 4 by omega]
                refine Sl.mono hown fun b hb => ?_
                rcases hb with hb | hb
                · exact hb.1
                · omega
              · exact (hb.trans (b25.mono hb.size)).trans (hmod.below (by omega) fun b hb => by omega)
        · have hq : ∀ W, (binOp .neq 30 (entV (encE e)) (entV e)).run Try.prog W = .ok (.bool true) W := fun W => by rw [run_neq_struct, ent_eq, decide_eq_false hok]; rfl
          have hs2 := Lib.hid (enc_bad l j hjl hle (.inr hok))
          clear hjl hle
          go_region_with (go_at_call 17; (refine hent.mono ?_); rintro ee w5 ⟨A5, c5, rfl, r5, b5⟩; obtain ⟨c0, c1, c2, c3, c4⟩ := hbox.out w5 b5; obtain ⟨bb, oo, rfl, _, hx5⟩ := r5.at (by omega); have d0 : w5.cell? ⟨bb, oo, none⟩ = some (.int .u8 (encE e).1) := hx5 0 _ rfl; have d1 : w5.cell? ⟨bb, oo + 1, none⟩ = some (.int .i64 (encE e).2.1) := hx5 1 _ rfl; have d2 : w5.cell? ⟨bb, oo + 2, none⟩ = some (.int .u8 (encE e).2.2.1) := hx5 2 _ rfl; have d3 : w5.cell? ⟨bb, oo + 3, none⟩ = some (.int .i32 (encE e).2.2.2.1) := hx5 3 _ rfl; have d4 : w5.cell? ⟨bb, oo + 4, none⟩ = some (.int .u8 (encE e).2.2.2.2) := hx5 4 _ rfl)
          all_goals
            have hz5 := b5.size
            simp at hz5
            have b25 : Below wr.heap.size wr w5 := hB2.trans ((b5.mono (by simp; omega) : Below wr.heap.size W2.drew w5) |> fun h => ⟨h.os, h.tape, h.output, h.size, h.block⟩)
            go_wp2_with fail
            go_ret2
            unfold EncDone
            rw [hs2.out]
            exact ⟨none, 0, rfl, Sl.nil _ _ _ _, hb.trans (b25.mono hb.size)⟩
      · have hk3' : (e.1 == 3) = false := by simpa using hk3
        have HK3 := Lib.hid hk3
        clear hk3
        by_cases hk4 : 3 < e.1
        · have hs2 := Lib.hid (enc_bad l j hjl hle (.inl hk4))
          have hB0 : Below wr.heap.size wr ((wr.alloc (.cells #[.int .u8 e.1, .int .i64 e.2.1, .int .u8 e.2.2.1, .int .i32 e.2.2.2.1, .int .u8 e.2.2.2.2] 30)).alloc (.cells #[.int .u8 e.1, .int .u8 (e.2.1 % 256), .int .u8 e.2.2.1, .int .u8 (e.2.2.2.1 % 256)] 5)) := ((Below.refl _ wr).alloc (Nat.le_refl _) _).alloc (by simp) _
          clear hjl hle
          go_wp2_with fail
          go_quiet (fail)
          go_wp2_with fail
          go_ret2
          unfold EncDone
          rw [hs2.out]
          exact ⟨none, 0, rfl, Sl.nil _ _ _ _, below_drewN (hb.trans (hB0.mono hb.size)) _⟩
        · have HOK3 := Lib.hid hk4
          clear hk4
          have hE1 := Blk.new wr 30 #[.int .u8 e.1, .int .i64 e.2.1, .int .u8 e.2.2.1, .int .i32 e.2.2.2.1, .int .u8 e.2.2.2.2]
          have hE := hE1.alloc (.cells #[.int .u8 e.1, .int .u8 (e.2.1 % 256), .int .u8 e.2.2.1, .int .u8 (e.2.2.2.1 % 256)] 5)
          have hX := Blk.new (wr.alloc (.cells #[.int .u8 e.1, .int .i64 e.2.1, .int .u8 e.2.2.1, .int .i32 e.2.2.2.1, .int .u8 e.2.2.2.2] 30)) 5 #[.int .u8 e.1, .int .u8 (e.2.1 % 256), .int .u8 e.2.2.1, .int .u8 (e.2.2.2.1 % 256)]
          rw [World.size_alloc] at hX
          have hB2 : Below wr.heap.size wr ((wr.alloc (.cells #[.int .u8 e.1, .int .i64 e.2.1, .int .u8 e.2.2.1, .int .i32 e.2.2.2.1, .int .u8 e.2.2.2.2] 30)).alloc (.cells #[.int .u8 e.1, .int .u8 (e.2.1 % 256), .int .u8 e.2.2.1, .int .u8 (e.2.2.2.1 % 256)] 5)) := ((Below.refl _ wr).alloc (Nat.le_refl _) _).alloc (by simp) _
          clear hE1
          go_wp2_with fail
          clear g0 g1 g2 g3 g4
          have hsz2 : wr.heap.size ≤ ((wr.alloc (.cells #[.int .u8 e.1, .int .i64 e.2.1, .int .u8 e.2.2.1, .int .i32 e.2.2.2.1, .int .u8 e.2.2.2.2] 30)).alloc (.cells #[.int .u8 e.1, .int .u8 (e.2.1 % 256), .int .u8 e.2.2.1, .int .u8 (e.2.2.2.1 % 256)] 5)).heap.size := hB2.size
          generalize ((wr.alloc (.cells #[.int .u8 e.1, .int .i64 e.2.1, .int .u8 e.2.2.1, .int .i32 e.2.2.2.1, .int .u8 e.2.2.2.2] 30)).alloc (.cells #[.int .u8 e.1, .int .u8 (e.2.1 % 256), .int .u8 e.2.2.1, .int .u8 (e.2.2.2.1 % 256)] 5)) = W2 at *
          have hlast : lastB e = e.2.2.2.1 % 256 := if_neg HK3.out
          have hlit2 : ∀ W', Below W2.heap.size W2.drew W' → Rd W' (fun b => b = wr.heap.size + 1) 1 (some ⟨wr.heap.size + 1, 0, none⟩) 4 ((encB e).map fun x => Value.int .u8 x) := fun W' hW' => by
            have h := Rd.of_blk (R := fun b => b = wr.heap.size + 1) (sz := 1) ((hX.drew).below hW' hX.lt) rfl 4 rfl
            rw [encB_eq, hlast]
            exact h
          have hbox2 : ∀ W', Below W2.heap.size W2.drew W' → W'.cell? ⟨wr.heap.size, 0, none⟩ = some (.int .u8 e.1) ∧ W'.cell? ⟨wr.heap.size, 1, none⟩ = some (.int .i64 e.2.1) ∧ W'.cell? ⟨wr.heap.size, 2, none⟩ = some (.int .u8 e.2.2.1) ∧ W'.cell? ⟨wr.heap.size, 3, none⟩ = some (.int .i32 e.2.2.2.1) ∧ W'.cell? ⟨wr.heap.size, 4, none⟩ = some (.int .u8 e.2.2.2.2) := fun W' hW' => by
            have h := (hE.drew).below hW' hE.lt
            exact ⟨h.cell 0, h.cell 1, h.cell 2, h.cell 3, h.cell 4⟩
          have hent := rdec4 W2.drew (wr.heap.size + 1) 4 e.1 (e.2.1 % 256) e.2.2.1 (e.2.2.2.1 % 256) hX.drew k0 (wrap_byte _) k2 (wrap_byte _)
          rw [show entryOf e.1 (e.2.1 % 256) e.2.2.1 (e.2.2.2.1 % 256) = encE e by unfold encE; rw [hlast]] at hent
          have hlit := Lib.hid hlit2
          have hbox := Lib.hid hbox2
          have hd3 : decide (3 < e.1) = false := decide_eq_false (by have := HOK3.out; omega)
          obtain ⟨c0, c1, c2, c3, c4⟩ : W2.cell? ⟨wr.heap.size, 0, none⟩ = some (.int .u8 e.1) ∧ W2.cell? ⟨wr.heap.size, 1, none⟩ = some (.int .i64 e.2.1) ∧ W2.cell? ⟨wr.heap.size, 2, none⟩ = some (.int .u8 e.2.2.1) ∧ W2.cell? ⟨wr.heap.size, 3, none⟩ = some (.int .i32 e.2.2.2.1) ∧ W2.cell? ⟨wr.heap.size, 4, none⟩ = some (.int .u8 e.2.2.2.2) := ⟨hE.cell 0, hE.cell 1, hE.cell 2, hE.cell 3, hE.cell 4⟩
          clear hlit2 hbox2 hlast hX hE
          by_cases hok : encE e = e
          · have hq : ∀ W, (binOp .neq 30 (entV (encE e)) (entV e)).run Try.prog W = .ok (.bool false) W := fun W => by rw [hok]; exact ent_neq W e
            have hs2 := Lib.hid (enc_succ l j hjl hle hall.out (by have := HOK3.out; omega) hok)
            clear hjl hle
            go_region_with (go_at_call 17; (refine hent.mono ?_); rintro ee w5 ⟨A5, c5, rfl, r5, b5⟩; obtain ⟨c0, c1, c2, c3, c4⟩ := hbox.out w5 b5; obtain ⟨bb, oo, rfl, _, hx5⟩ := r5.at (by omega); have d0 : w5.cell? ⟨bb, oo, none⟩ = some (.int .u8 (encE e).1) := hx5 0 _ rfl; have d1 : w5.cell? ⟨bb, oo + 1, none⟩ = some (.int .i64 (encE e).2.1) := hx5 1 _ rfl; have d2 : w5.cell? ⟨bb, oo + 2, none⟩ = some (.int .u8 (encE e).2.2.1) := hx5 2 _ rfl; have d3 : w5.cell? ⟨bb, oo + 3, none⟩ = some (.int .i32 (encE e).2.2.2.1) := hx5 3 _ rfl; have d4 : w5.cell? ⟨bb, oo + 4, none⟩ = some (.int .u8 (encE e).2.2.2.2) := hx5 4 _ rfl)
            all_goals
              have hz5 := b5.size
              simp at hz5
              have hr5 : Rd w5 (fun b => b = wr.heap.size + 1) 1 (some ⟨wr.heap.size + 1, 0, none⟩) 4 ((encB e).map fun x => Value.int .u8 x) := hlit.out w5 b5
              have b25 : Below wr.heap.size wr w5 := hB2.trans ((b5.mono (by simp; omega) : Below wr.heap.size W2.drew w5) |> fun h => ⟨h.os, h.tape, h.output, h.size, h.block⟩)
              have hs5 : Sl w5 5 1 A' (4 * j) c' _ (fun b => w.heap.size ≤ b ∧ b < wr.heap.size) := Sl.map hs.lt fun g hg cur hc => hc.below b25 hg.2
              have q1 : 4 * j + 4 ≤ maxLen := by simp only [maxLen]; omega
              have q2 : (4 * j + 4) * 1 ≤ 140737488355328 := by omega
              go_wp2_with (at_builtin; refine wpList_append_sl _ rfl (.tmp 49) (.tmp 50) _ rfl 5 i0 _ 1 1 Try.underlying24 hi0 hz0 hz1 hz2 rfl (by omega) A' (4 * j) c' _ _ rfl hs5 _ (some ⟨wr.heap.size + 1, 0, none⟩) 4 4 _ rfl hr5 (by intro u hu; obtain ⟨x, _, rfl⟩ := List.mem_map.1 hu; rfl) q1 q2 ?_; intro A2 c2 w6 hown hmod)
              have hz6 := hmod.size
              go_roundg (gk - 1)
              case measure => omega
              case rel =>
                refine ⟨j + 1, A2, c2, by omega, by go_num, by go_num, ?_, ?_, ?_⟩
                · exact Lib.hid (hs2.out).2
                · rw [(hs2.out).1, List.map_append, show 4 * (j + 1) = 4 * j + 4 by omega]
                  refine Sl.mono hown fun b hb => ?_
                  rcases hb with hb | hb
                  · exact hb.1
                  · omega
                · exact (hb.trans (b25.mono hb.size)).trans (hmod.below (by omega) fun b hb => by omega)
          · have hq : ∀ W, (binOp .neq 30 (entV (encE e)) (entV e)).run Try.prog W = .ok (.bool true) W := fun W => by rw [run_neq_struct, ent_eq, decide_eq_false hok]; rfl
            have hs2 := Lib.hid (enc_bad l j hjl hle (.inr hok))
            clear hjl hle
            go_region_with (go_at_call 17; (refine hent.mono ?_); rintro ee w5 ⟨A5, c5, rfl, r5, b5⟩; obtain ⟨c0, c1, c2, c3, c4⟩ := hbox.out w5 b5; obtain ⟨bb, oo, rfl, _, hx5⟩ := r5.at (by omega); have d0 : w5.cell? ⟨bb, oo, none⟩ = some (.int .u8 (encE e).1) := hx5 0 _ rfl; have d1 : w5.cell? ⟨bb, oo + 1, none⟩ = some (.int .i64 (encE e).2.1) := hx5 1 _ rfl; have d2 : w5.cell? ⟨bb, oo + 2, none⟩ = some (.int .u8 (encE e).2.2.1) := hx5 2 _ rfl; have d3 : w5.cell? ⟨bb, oo + 3, none⟩ = some (.int .i32 (encE e).2.2.2.1) := hx5 3 _ rfl; have d4 : w5.cell? ⟨bb, oo + 4, none⟩ = some (.int .u8 (encE e).2.2.2.2) := hx5 4 _ rfl)
            all_goals
              have hz5 := b5.size
              simp at hz5
              have b25 : Below wr.heap.size wr w5 := hB2.trans ((b5.mono (by simp; omega) : Below wr.heap.size W2.drew w5) |> fun h => ⟨h.os, h.tape, h.output, h.size, h.block⟩)
              go_wp2_with fail
              go_ret2
              unfold EncDone
              rw [hs2.out]
              exact ⟨none, 0, rfl, Sl.nil _ _ _ _, hb.trans (b25.mono hb.size)⟩
    · obtain rfl : j = n := by omega
      have hrd := hs.lt
      have hall2 := hall.out
      rw [List.take_of_length_le (by rw [HN.out]; exact Nat.le_refl _)] at hrd hall2
      have hR : encR l = (l.flatMap encB, 0) := if_pos hall2
      have hL : (l.flatMap encB).length = 4 * j := by rw [flat_encB_length, HN.out]
      clear hs hall hall2
      go_wp2_with fail
      go_ret2
      unfold EncDone
      rw [hR, hL]
      exact ⟨A', c', rfl, hrd, hb⟩
end Go.Proofs.Ytefenbmchfbohaa
