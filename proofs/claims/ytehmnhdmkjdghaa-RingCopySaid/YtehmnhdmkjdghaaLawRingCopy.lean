/-
  The walk of RingCopy.
-/
import Derived.Test.YtehmnhdmkjdghaaRingJ
namespace Go.Proofs.Ytehmnhdmkjdghaa
open Go.RowKit Go.Rp

set_option maxHeartbeats 4000000 in
theorem RingCopy_walk (w : World) (x : Int) (hx : (Lit.int .u8 x).wf = true) (a : Option Addr) (n c : Nat) (zs : List Int) (h0 : InInts .u8 w a n c zs) (a' : Option Addr) (n' c' : Nat) (zs' : List Int) (h0' : InInts .u8 w a' n' c' zs') (a'' : Option Addr) (n'' c'' : Nat) (zs'' : List Int) (h0'' : InInts .u8 w a'' n'' c'' zs'') :
    Calls Try.prog 9 #[.int .u8 x, .slice a n c, .slice a' n' c', .slice a'' n'' c''] w fun e w' => e = .returned (.bool true) ∧ Below w.heap.size w w' := by
  obtain ⟨bs, hbn, h8, hr⟩ := h0.bytes
  obtain ⟨bs', hbn', h8', hr'⟩ := h0'.bytes
  obtain ⟨bs'', hbn'', h8'', hr''⟩ := h0''.bytes
  have e1 := h0.reach
  have e2 := h0'.reach
  have e3 := h0''.reach
  clear h0 h0' h0''
  obtain ⟨N, hN, hmod, hx0, hx1⟩ := u8_mod hx 9 (by omega)
  have h1 := new_s (B := w.heap.size) (w := w) (L := []) (Nat.le_refl _) trivial (N : Int)
  rw [cut_nat N (by omega)] at h1
  by_cases hlen : 150 < n + n' + n''
  · have hL : (150 : Int) < (n : Int) + (n' : Int) + (n'' : Int) := by omega
    go_enter Try.func9, Try.ntmps9
    go_wp2_with fail
    refine (h1).mono ?_
    rintro e w1 ⟨p, rfl, s1, b1⟩
    go_wp2_with fail
    refine (known_s b1.size s1).mono ?_
    rintro e w2 ⟨rfl, s2, b2⟩
    go_wp2_with fail
    go_ret
    exact ⟨rfl, b1.trans b2⟩
  · have hL : ¬ (150 : Int) < (n : Int) + (n' : Int) + (n'' : Int) := by omega
    go_enter Try.func9, Try.ntmps9
    go_wp2_with fail
    refine (h1).mono ?_
    rintro e w1 ⟨p, rfl, s1, b1⟩
    clear h1
    go_wp2_with fail
    refine (Ops_s b1.size s1 hbn (hr.below b1 fun _ h => h) h8 (by omega) 4 (by omega) (by omega)).mono ?_
    rintro e w2 ⟨A2, m, c2, rfl, hm, hm80, s2, b2⟩
    have b2 := b1.trans b2
    go_wp2_with fail
    refine (run_s b2.size s2.rot2 hm (opsOf_ok 4 (by omega) (by omega) bs) (by omega)).mono ?_
    rintro e w3 ⟨rfl, s3, b3⟩
    have b3 := b2.trans b3
    have s3 := s3.rot2.drop
    have hll := RingAt.len s3.get
    generalize rRuns N [] (opsOf 4 bs) = l at *
    obtain ⟨ln, hln⟩ : ∃ ln, l.length = ln := ⟨_, rfl⟩
    have hln1 : ln ≤ N := by omega
    go_wp2_with fail
    refine (copy_s b3.size s3).mono ?_
    rintro e w4 ⟨t, rfl, s4, b4⟩
    have b4 := b3.trans b4
    go_wp2_with fail
    refine (copy_s b4.size s4.rot2).mono ?_
    rintro e w5 ⟨u, rfl, s5, b5⟩
    have b5 := b4.trans b5
    go_wp2_with fail
    refine (items_s b5.size s5.rot3 hln).mono ?_
    rintro e w6 ⟨A6, c6, rfl, s6, b6⟩
    have b6 := b5.trans b6
    -- kept, t, u, s
    go_wp2_with fail
    refine (items_s b6.size s6.rot4 hln).mono ?_
    rintro e w7 ⟨A7, c7, rfl, s7, b7⟩
    have b7 := b6.trans b7
    -- the items told, s, kept, t, u
    go_wp2_with fail
    go_loopw [14] (fun k wr => ∃ (m : Nat) (l' : List Int), m ≤ ln ∧ l'.length = ln ∧ k = .int .i64 (m : Int) ∧ At w.heap.size wr [ownI A7 ln c7 l', ringR p N l, ownI A6 ln c6 l, ringR t N l, ringR u N l] ∧ Below w.heap.size w wr) (fun k _ => ln - (intOf k).toNat)
    case atStart => exact ⟨0, l, by omega, hln, rfl, s7, b7⟩
    case round =>
      clear s1 s2 s3 s4 s5 s6 s7 b1 b2 b3 b4 b5 b6 b7
      obtain ⟨k, l', hk, hl', rfl, s8, b8⟩ := hrel
      by_cases hlt : k < ln
      · obtain ⟨S, h1, h2, h3⟩ := s8.front (a' := ownI A7 ln c7 (l'.set k (wrap32 (l'[k] + 1)))) fun x hx => Nat.le_trans b8.size hx
        obtain ⟨g, off, rfl, hg, hgl, hfr, hcells⟩ := Sl.at h1 (by omega)
        have hc0 : wr.cell? ⟨g, off + k, none⟩ = some (.int .i32 l'[k]) := hcells k _ (by simp [hl', hlt])
        have hf0 : wr.frozen? ⟨g, off + k, none⟩ = false := hfr _
        have h4 := h3 (wr.setCell ⟨g, off + k, none⟩ (.int .i32 (wrap32 (l'[k] + 1)))) (by
          have := (Sl.set h1 rfl k (by omega) (.int .i32 (wrap32 (l'[k] + 1)))).mono (T := grow S wr (wr.setCell ⟨g, off + k, none⟩ (.int .i32 (wrap32 (l'[k] + 1))))) grow_left
          rw [← List.map_set] at this
          exact this) ((Mod.refl S wr).setCell (p := ⟨g, off + k, none⟩) (.inl hg) _)
        have hb4 := b8.setCell (p := ⟨g, off + k, none⟩) (h2 g hg).1 (.int .i32 (wrap32 (l'[k] + 1)))
        clear hcells h3 hfr
        generalize l'[k] = z at *
        go_wp2_with fail
        go_roundw
        case rel => exact ⟨k + 1, _, by omega, by simp [hl'], by go_num, h4, hb4⟩
        case measure => simp [intOf]; omega
      · obtain rfl : k = ln := by omega
        have s8 := s8.drop
        go_wp2_with fail
        refine (Ops_s b8.size s8 hbn' (hr'.below b8 fun _ h => h) h8' (by omega) 4 (by omega) (by omega)).mono ?_
        rintro e w2 ⟨A2, m, c2, rfl, hm, hm80, s2, b2⟩
        have b2 := b8.trans b2
        go_wp2_with fail
        refine (run_s b2.size s2.rot2 hm (opsOf_ok 4 (by omega) (by omega) bs') (by omega)).mono ?_
        rintro e w3 ⟨rfl, s3, b3⟩
        have b3 := b2.trans b3
        have s3 := s3.rot2.drop
        generalize rRuns N l (opsOf 4 bs') = y at *
        -- s, kept, t, u
        go_wp2_with fail
        refine (items_s b3.size s3.rot3 hln).mono ?_
        rintro e w4 ⟨A4, c4, rfl, s4, b4⟩
        have b4 := b3.trans b4
        -- told, t, s, kept, u
        go_wp2_with fail
        refine (Same_s b4.size s4 (Sl.read s4.get) (Sl.read s4.rot4.get) (by omega) (by omega)).mono ?_
        rintro e w5 ⟨rfl, s5, b5⟩
        have b5 := b4.trans b5
        rw [decide_eq_true rfl]
        have s5 := s5.drop
        go_wp2_with fail
        refine (rmost_s s5).mono ?_
        rintro e w6 ⟨rfl, rfl⟩
        go_wp2_with fail
        refine (rmost_s s5.rot2).mono ?_
        rintro e w6 ⟨rfl, rfl⟩
        go_wp2_with fail
        refine (Ops_s b5.size s5 hbn'' (hr''.below b5 fun _ h => h) h8'' (by omega) 4 (by omega) (by omega)).mono ?_
        rintro e w7 ⟨A7, m7, c7, rfl, hm7, hm780, s7, b7⟩
        have b7 := b5.trans b7
        go_wp2_with fail
        refine (run_s b7.size s7.rot2 hm7 (opsOf_ok 4 (by omega) (by omega) bs'') (by omega)).mono ?_
        rintro e w9 ⟨rfl, s9, b9⟩
        have b9 := b7.trans b9
        have s9 := s9.rot2.drop
        -- t, s, kept, u
        go_wp2_with fail
        refine (Ops_s b9.size s9 hbn'' (hr''.below b9 fun _ h => h) h8'' (by omega) 4 (by omega) (by omega)).mono ?_
        rintro e w10 ⟨A10, m10, c10, rfl, hm10, hm10', s10, b10⟩
        have b10 := b9.trans b10
        -- ops, t, s, kept, u
        go_wp2_with fail
        refine (run_s b10.size s10.rot5.rot2.rot2 hm10 (opsOf_ok 4 (by omega) (by omega) bs'') (by omega)).mono ?_
        rintro e w11 ⟨rfl, s11, b11⟩
        have b11 := b10.trans b11
        have hll := RingAt.len s11.get
        generalize rRuns N l (opsOf 4 bs'') = r at *
        obtain ⟨rn, hrn⟩ : ∃ rn, r.length = rn := ⟨_, rfl⟩
        go_wp2_with fail
        refine (popL_nil _).mono ?_
        rintro e w12 ⟨rfl, rfl⟩
        go_wp2_with fail
        refine (popR_nil _).mono ?_
        rintro e w12 ⟨rfl, rfl⟩
        go_wp2_with fail
        refine (known_s b11.size s11).mono ?_
        rintro e w13 ⟨rfl, s13, b13⟩
        have b13 := b11.trans b13
        -- u, ops, t, s, kept
        go_wp2_with fail
        refine (items_s b13.size s13.rot3 hrn).mono ?_
        rintro e w14 ⟨A14, c14, rfl, s14, b14⟩
        have b14 := b13.trans b14
        -- told, t, u, ops, s, kept
        go_wp2_with fail
        refine (items_s b14.size s14.rot3 hrn).mono ?_
        rintro e w15 ⟨A15, c15, rfl, s15, b15⟩
        have b15 := b14.trans b15
        -- told u, u, told, t
        go_wp2_with fail
        refine (Same_t b15.size s15 (Sl.read s15.rot3.get) (Sl.read s15.get) (by omega) (by omega)).mono ?_
        rintro e w16 ⟨rfl, s16, b16⟩
        have b16 := b15.trans b16
        clear s15 s14 s13 s11 b15 b14 b13
        go_wp2_with fail
        refine (pushL_nil _ 1).mono ?_
        rintro e w17 ⟨rfl, rfl⟩
        go_wp2_with fail
        refine (pushR_nil _ 1).mono ?_
        rintro e w17 ⟨rfl, rfl⟩
        go_wp2_with fail
        refine (rlen_nil _).mono ?_
        rintro e w18 ⟨rfl, rfl⟩
        go_wp2_with fail
        refine (rmost_nil _).mono ?_
        rintro e w18 ⟨rfl, rfl⟩
        go_wp2_with fail
        refine (items_nil _).mono ?_
        rintro e w19 ⟨A19, c19, rfl, s19, b19⟩
        have b19 := b16.trans (b19.mono b16.size)
        go_wp2_with fail
        refine (copy_nil _).mono ?_
        rintro e w20 ⟨q, rfl, s20, b20⟩
        have b20 := b19.trans (b20.mono b19.size)
        go_wp2_with fail
        refine (rmost_any _ q _ 0 [] s20).mono ?_
        rintro e w21 ⟨rfl, rfl⟩
        go_wp2_with fail
        go_ret
        exact ⟨rfl, b20⟩
end Go.Proofs.Ytehmnhdmkjdghaa
