/-
  ScriptBack: what is decoded is encoded to bytes that are decoded to the same, four for each; what can't be is told: the walk.
-/
import Derived.Test.YtefenbmchfbohaaScrG
namespace Go.Proofs.Ytefenbmchfbohaa
open Go.RowKit Go.Rp

theorem byts_of {zs : List Int} (h : ∀ z ∈ zs, (Lit.int .u8 z).wf = true) : Byt zs := fun z hz => wf_u8 (h z hz)
theorem ebyt_of {l : List Ent} (h : ∀ e ∈ l, entOk e) : Ebyt l := fun e he => ⟨wf_u8 (h e he).1, wf_u8 (h e he).2.2.1, wf_u8 (h e he).2.2.2.2⟩
theorem entryOf_byt (a b c d : Int) (hc : 0 ≤ c ∧ c ≤ 255) (hd : 0 ≤ d ∧ d ≤ 255) : (0 ≤ (entryOf a b c d).1 ∧ (entryOf a b c d).1 ≤ 255) ∧ (0 ≤ (entryOf a b c d).2.2.1 ∧ (entryOf a b c d).2.2.1 ≤ 255) ∧ 0 ≤ (entryOf a b c d).2.2.2.2 ∧ (entryOf a b c d).2.2.2.2 ≤ 255 := by
  unfold entryOf
  split
  · simpa using hc
  · split
    · simp
    · split
      · simpa using hd
      · simp
theorem decL_byt {bs : List Int} (h : Byt bs) : Ebyt (decL bs) := by
  intro e he
  obtain ⟨k, _, rfl⟩ := List.mem_map.1 he
  exact entryOf_byt _ _ _ _ (h.at _) (h.at _)
theorem encB_byt (e : Ent) (h : (0 ≤ e.1 ∧ e.1 ≤ 255) ∧ (0 ≤ e.2.2.1 ∧ e.2.2.1 ≤ 255) ∧ 0 ≤ e.2.2.2.2 ∧ e.2.2.2.2 ≤ 255) : Byt (encB e) := by
  intro x hx
  obtain ⟨h1, h2, h3⟩ := h
  simp only [encB, List.mem_cons, List.not_mem_nil, or_false] at hx
  rcases hx with rfl | rfl | rfl | rfl
  · exact h1
  · omega
  · exact h2
  · split
    · exact h3
    · omega
theorem flat_byt {l : List Ent} (h : Ebyt l) : Byt (l.flatMap encB) := by
  intro x hx
  obtain ⟨e, he, hx⟩ := List.mem_flatMap.1 hx
  exact encB_byt e (h e he) x hx
theorem encR_ok {l : List Ent} (h : ∀ e ∈ l, encOk e = true) : encR l = (l.flatMap encB, 0) := if_pos (List.all_eq_true.2 h)
/-- Bytes read, by what is read alone. -/
theorem dec_r {w : World} {A : Option Addr} {n c : Nat} {R : Nat → Prop} {bs : List Int} (hbl : bs.length = n) (hnc : n ≤ c) (hr : Rd w R 1 A n (bs.map fun x => Value.int .u8 x)) (hn : n ≤ 100000) (hby : Byt bs) {m : Nat} {l : List Ent} (hl : decL bs = l) (hm : l.length = m) :
    Calls Try.prog 9 #[.slice A n c] w fun e w' => ∃ A' c', e = .returned (.slice A' m c') ∧ Rd w' (fun b => w.heap.size ≤ b) 5 A' m (l.flatMap entIn) ∧ Below w.heap.size w w' := by
  subst hl hm
  exact (decode_any w A n c R bs hbl hnc hr hn hby).mono fun e w' ⟨A', c', he, hs, hb⟩ => ⟨A', c', he, hs.rd.more fun _ h => h.1, hb⟩
theorem enc_r {w : World} {A : Option Addr} {n c : Nat} {R : Nat → Prop} {l : List Ent} (hn : l.length = n) (hr : Rd w R 5 A n (l.flatMap entIn)) (hb8 : Ebyt l) (hlen : n ≤ 100000) {bs : List Int} {f : Int} (he : encR l = (bs, f)) {m : Nat} (hm : bs.length = m) :
    Calls Try.prog 14 #[.slice A n c] w fun e w' => ∃ A' c', e = .returned (.tuple #[.slice A' m c', .int .u16 f]) ∧ m ≤ c' ∧ Rd w' (fun b => w.heap.size ≤ b) 1 A' m (bs.map fun x => Value.int .u8 x) ∧ Below w.heap.size w w' := by
  subst hm
  refine (encode_any w A n c R l hn hr hb8 hlen).mono fun e w' h => ?_
  unfold EncDone at h
  rw [he] at h
  obtain ⟨A', c', he, hs, hb⟩ := h
  exact ⟨A', c', he, hs.le, hs.rd.more fun _ h => h.1, hb⟩
theorem same_r {w : World} {A A' : Option Addr} {n n' c c' : Nat} {R R' : Nat → Prop} {xs : List Ent} (hx : Rd w R 5 A n (xs.flatMap entIn)) (hy : Rd w R' 5 A' n' (xs.flatMap entIn)) (l1 : xs.length = n) (l2 : xs.length = n') (hn : n ≤ 1000000) :
    Calls Try.prog 11 #[.slice A n c, .slice A' n' c'] w fun e w' => e = .returned (.bool true) ∧ Below w.heap.size w w' := by
  have := Same_any w A A' n n' c c' R R' xs xs hx hy l1 l2 hn (by omega)
  rwa [decide_eq_true rfl] at this

set_option maxRecDepth 100000 in
set_option maxHeartbeats 2000000 in
theorem ScriptBack_walk (w : World) (a : Option Addr) (n c : Nat) (zs : List Int) (h0 : InInts .u8 w a n c zs) (a' : Option Addr) (n' c' : Nat) (l : List Ent) (h1 : InRows 5 entIn entOk w a' n' c' l) :
    Calls Try.prog 6 #[.slice a n c, .slice a' n' c'] w fun e w' => e = .returned (.bool true) ∧ Below w.heap.size w w' := by
  have hr1 : Rd w (· < w.heap.size) 1 a n (zs.map fun x => Value.int .u8 x) := h0.rd
  have hr2 : Rd w (· < w.heap.size) 5 a' n' (l.flatMap entIn) := h1.rd
  have hby := byts_of h0.wf
  have hey := ebyt_of h1.ok
  have l1 := h0.len
  have l2 := h1.len
  have hnc := h0.le
  have hreach := h0.reach
  have hreach' := h1.reach
  clear h0 h1
  have hw0 : IntKind.i64.wrap ((n : Int) + (n' : Int)) = (n : Int) + (n' : Int) := IntWalk.i64_in _ (by omega)
  by_cases hbig : 400 < n + n'
  · have hL : (400 : Int) < (n : Int) + (n' : Int) := by omega
    have hk := known_any w
    clear l1 l2
    go_enter Try.func6, Try.ntmps6
    go_wp2_with fail
    refine (hk).mono ?_
    rintro e w1 ⟨rfl, b1⟩
    go_wp2_with fail
    go_ret
    exact ⟨rfl, b1⟩
  have hL : ¬ (400 : Int) < (n : Int) + (n' : Int) := by omega
  obtain ⟨q, hq⟩ : ∃ q, n / 4 = q := ⟨_, rfl⟩
  obtain ⟨M, hM⟩ : ∃ M, 4 * q = M := ⟨_, rfl⟩
  have hq4 : q ≤ 400 ∧ M ≤ 400 := by omega
  have hxl : (decL zs).length = q := by rw [decL_length, l1, hq]
  have hxok := decL_ok zs hby
  have hxe := encR_ok hxok
  have hxb := decL_byt hby
  have hfl : ((decL zs).flatMap encB).length = M := by rw [flat_encB_length, hxl, hM]
  have hfd := decL_enc _ hxok
  have hfb := flat_byt hxb
  have hmul : IntKind.i64.wrap (4 * (q : Int)) = (M : Int) := by rw [← hM]; rw [show (4 * (q : Int)) = ((4 * q : Nat) : Int) by omega]; exact IntWalk.i64_in _ (by omega)
  have hdv : (n : Int) / 4 = (q : Int) := by omega
  have hdv2 : Int.tdiv (n : Int) 4 = (q : Int) := by rw [← hq]; rfl
  have hqw : IntKind.i64.wrap (q : Int) = (q : Int) := IntWalk.i64_in _ (by omega)
  have c1 := dec_r l1 hnc hr1 (by omega) hby rfl hxl
  generalize decL zs = X at *
  have HXL := Lib.hid hxl
  have HXE := Lib.hid hxe
  have HXB := Lib.hid hxb
  have HFL := Lib.hid hfl
  have HFD := Lib.hid hfd
  have HFB := Lib.hid hfb
  have HEY := Lib.hid hey
  have H1 := Lib.hid l1
  have H2 := Lib.hid l2
  clear hxl hxe hxb hfl hfd hfb hey l1 l2 hxok hby hq hM hr1
  by_cases hall : ∀ e ∈ l, encOk e = true
  · have HEL := Lib.hid (encR_ok hall)
    have HDL := Lib.hid (decL_enc l hall)
    have HLL := Lib.hid (flat_encB_length l)
    obtain ⟨D, hD⟩ : ∃ D, 4 * n' = D := ⟨_, rfl⟩
    have HLD := Lib.hid (show (l.flatMap encB).length = D by rw [HLL.out, H2.out, hD])
    clear hall
    go_enter Try.func6, Try.ntmps6
    go_wp2_with fail
    refine (c1).mono ?_
    rintro e w1 ⟨A1, c1', rfl, r1, b1⟩
    have r2 := hr2.kept b1
    go_wp2_with fail
    refine (enc_r HXL.out r1 HXB.out (by omega) HXE.out HFL.out).mono ?_
    rintro e w2 ⟨A2, c2', rfl, le2, r3, b2⟩
    have r1 := r1.kept b2
    have r2 := r2.kept b2
    have b2 := b1.trans (b2.mono b1.size)
    go_wp2_with fail
    refine (enc_r H2.out r2 HEY.out (by omega) HEL.out HLD.out).mono ?_
    rintro e w3 ⟨A3, c3', rfl, le3, r4, b3⟩
    have r1 := r1.kept b3
    have r2 := r2.kept b3
    have r3 := r3.kept b3
    have b3 := b2.trans (b3.mono b2.size)
    go_wp2_with fail
    refine (known_any w3).mono ?_
    rintro e w4 ⟨rfl, b4⟩
    have r1 := r1.kept b4
    have r2 := r2.kept b4
    have r3 := r3.kept b4
    have r4 := r4.kept b4
    have b4 := b3.trans (b4.mono b3.size)
    go_wp2_with fail
    refine (dec_r HFL.out le2 r3 (by omega) HFB.out HFD.out HXL.out).mono ?_
    rintro e w5 ⟨A5, c5', rfl, r5, b5⟩
    have r1 := r1.kept b5
    have r2 := r2.kept b5
    have r4 := r4.kept b5
    have b5 := b4.trans (b5.mono b4.size)
    go_wp2_with fail
    refine (same_r r5 r1 HXL.out HXL.out (by omega)).mono ?_
    rintro e w6 ⟨rfl, b6⟩
    have r2 := r2.kept b6
    have r4 := r4.kept b6
    have b6 := b5.trans (b6.mono b5.size)
    go_wp2_with fail
    refine (dec_r HLD.out le3 r4 (by omega) (flat_byt HEY.out) HDL.out H2.out).mono ?_
    rintro e w7 ⟨A7, c7', rfl, r7, b7⟩
    have r2 := r2.kept b7
    have b7 := b6.trans (b7.mono b6.size)
    go_wp2_with fail
    refine (same_r r7 r2 H2.out H2.out (by omega)).mono ?_
    rintro e w8 ⟨rfl, b8⟩
    have b8 := b7.trans (b8.mono b7.size)
    go_wp2_with fail
    go_ret
    exact ⟨rfl, b8⟩
  · have HEL : Hid (encR l = ([], 1)) := Lib.hid (if_neg fun h => hall (List.all_eq_true.1 h))
    clear hall
    go_enter Try.func6, Try.ntmps6
    go_wp2_with fail
    refine (c1).mono ?_
    rintro e w1 ⟨A1, c1', rfl, r1, b1⟩
    have r2 := hr2.kept b1
    go_wp2_with fail
    refine (enc_r HXL.out r1 HXB.out (by omega) HXE.out HFL.out).mono ?_
    rintro e w2 ⟨A2, c2', rfl, le2, r3, b2⟩
    have r1 := r1.kept b2
    have r2 := r2.kept b2
    have b2 := b1.trans (b2.mono b1.size)
    go_wp2_with fail
    refine (enc_r H2.out r2 HEY.out (by omega) HEL.out (m := 0) rfl).mono ?_
    rintro e w3 ⟨A3, c3', rfl, le3, r4, b3⟩
    have r1 := r1.kept b3
    have r3 := r3.kept b3
    have b3 := b2.trans (b3.mono b2.size)
    go_wp2_with fail
    refine (known_any w3).mono ?_
    rintro e w4 ⟨rfl, b4⟩
    have r1 := r1.kept b4
    have r3 := r3.kept b4
    have b4 := b3.trans (b4.mono b3.size)
    go_wp2_with fail
    refine (dec_r HFL.out le2 r3 (by omega) HFB.out HFD.out HXL.out).mono ?_
    rintro e w5 ⟨A5, c5', rfl, r5, b5⟩
    have r1 := r1.kept b5
    have b5 := b4.trans (b5.mono b4.size)
    go_wp2_with fail
    refine (same_r r5 r1 HXL.out HXL.out (by omega)).mono ?_
    rintro e w6 ⟨rfl, b6⟩
    have b6 := b5.trans (b6.mono b5.size)
    go_wp2_with fail
    go_ret
    exact ⟨rfl, b6⟩
end Go.Proofs.Ytefenbmchfbohaa
