/-
  ScriptAsks: all calls of any bytes, entries and numbers are what the chapter says: the walk.
-/
import Derived.Laws.BytesArg
import Derived.Test.YtefenbmchfbohaaScrJ
namespace Go.Proofs.Ytefenbmchfbohaa
open Go.RowKit Go.Rp

theorem Sl.shape {w : World} {e sz n c : Nat} {A : Option Addr} {xs : List Value} {S : Nat → Prop} (h : Sl w e sz A n c xs S) : A = none ∨ ∃ g off, A = some ⟨g, off, none⟩ := by
  obtain ⟨_, _, _, h | ⟨g, off, cur, h, _⟩⟩ := h
  · exact .inl h.1
  · exact .inr ⟨g, off, h⟩
/-- Bytes as a string. -/
theorem conv_r {w : World} {A : Option Addr} {n c : Nat} {R : Nat → Prop} {bs : List Int} (hA : A = none ∨ ∃ g off, A = some ⟨g, off, none⟩) (hn : bs.length = n) (hr : Rd w R 1 A n (bs.map fun x => Value.int .u8 x)) :
    (convert 24 9 (.slice A n c)).run Try.prog w = .ok (.string (strOfNums bs)) w := by
  rcases hA with rfl | ⟨g, off, rfl⟩
  · rcases Nat.eq_zero_or_pos n with h0 | h0
    · have : bs = [] := List.eq_nil_of_length_eq_zero (by omega)
      subst this
      exact run_convert_bytes_nil w 24 5 Try.underlying24 Try.underlying5 n c 9 Try.underlying9
    · obtain ⟨b, off, h, _⟩ := hr.at h0
      cases h
  · refine run_convert_bytes_arg w 24 5 Try.underlying24 Try.underlying5 g off n c bs hn (fun i hi => ?_) 9 Try.underlying9
    obtain ⟨b', off', h, _, hx⟩ := hr.at (by omega)
    obtain ⟨rfl, rfl⟩ : g = b' ∧ off = off' := by simpa using h
    exact hx i _ (by rw [List.getElem?_map, List.getElem?_eq_getElem (by omega), List.getD_eq_getElem?_getD, List.getElem?_eq_getElem (by omega)]; rfl)
theorem encq {w : World} {f : FuncId} {k : IntKind} {l : List Ent} {args : Array Value} (h : Calls Try.prog f args w (EncDone w 5 k l)) {bs : List Int} {x : Int} (he : encR l = (bs, x)) {m : Nat} (hm : bs.length = m) :
    Calls Try.prog f args w fun e w' => ∃ A' c', e = .returned (.tuple #[.slice A' m c', .int k x]) ∧ (A' = none ∨ ∃ g off, A' = some ⟨g, off, none⟩) ∧ Rd w' (fun b => w.heap.size ≤ b) 1 A' m (bs.map fun x => Value.int .u8 x) ∧ Below w.heap.size w w' := by
  subst hm
  refine h.mono fun e w' h => ?_
  unfold EncDone at h
  rw [he] at h
  obtain ⟨A', c', he, hs, hb⟩ := h
  exact ⟨A', c', he, Sl.shape hs, hs.rd.more fun _ h => h.1, hb⟩

set_option maxRecDepth 100000 in
set_option maxHeartbeats 4000000 in
theorem ScriptAsks_walk (w : World) (a : Option Addr) (n c : Nat) (zs : List Int) (h0 : InInts .u8 w a n c zs) (a' : Option Addr) (n' c' : Nat) (l : List Ent) (h1 : InRows 5 entIn entOk w a' n' c' l)
    (x : Int) (hx : (Lit.int .i64 x).wf = true) (y : Int) (hy : (Lit.int .i64 y).wf = true) (k : Int) (hk : (Lit.int .u8 k).wf = true) (j : Int) (hj : (Lit.int .u8 j).wf = true)
    (a2 : Option Addr) (n2 c2 : Nat) (ts : List Int) (h2 : InInts .i64 w a2 n2 c2 ts) (a3 : Option Addr) (n3 c3 : Nat) (os : List (Int × Int)) (h3 : InRows 2 opIn opOk w a3 n3 c3 os) :
    Calls Try.prog 8 #[.slice a n c, .slice a' n' c', .int .i64 x, .int .i64 y, .int .u8 k, .int .u8 j, .slice a2 n2 c2, .slice a3 n3 c3] w fun e w' => e = .returned (.bool true) ∧ Below w.heap.size w w' := by
  have hr1 : Rd w (· < w.heap.size) 1 a n (zs.map fun x => Value.int .u8 x) := h0.rd
  have hr2 : Rd w (· < w.heap.size) 5 a' n' (l.flatMap entIn) := h1.rd
  have hr3 : Rd w (· < w.heap.size) 1 a2 n2 (ts.map fun x => Value.int .i64 x) := h2.rd
  have hr4 : Rd w (· < w.heap.size) 2 a3 n3 (os.flatMap opIn) := h3.rd
  have hby := byts_of h0.wf
  have hey := ebyt_of h1.ok
  have l1 := h0.len
  have l2 := h1.len
  have l3 := h2.len
  have l4 := h3.len
  have hnc := h0.le
  have v1 := h0.reach
  have v2 := h1.reach
  have v3 := h2.reach
  have v4 := h3.reach
  have bk := wf_u8 hk
  have bj := wf_u8 hj
  clear h0 h1 h2 h3 hk hj
  have hw1 : IntKind.i64.wrap ((n : Int) + (n' : Int)) = (n : Int) + (n' : Int) := IntWalk.i64_in _ (by omega)
  have hw2 : IntKind.i64.wrap ((n : Int) + (n' : Int) + (n2 : Int)) = (n : Int) + (n' : Int) + (n2 : Int) := IntWalk.i64_in _ (by omega)
  have hw3 : IntKind.i64.wrap ((n : Int) + (n' : Int) + (n2 : Int) + (n3 : Int)) = (n : Int) + (n' : Int) + (n2 : Int) + (n3 : Int) := IntWalk.i64_in _ (by omega)
  by_cases hbig : 400 < n + n' + n2 + n3
  · have hL : (400 : Int) < (n : Int) + (n' : Int) + (n2 : Int) + (n3 : Int) := by omega
    have hkn := known_any w
    clear l1 l2 l3 l4
    go_enter Try.func8, Try.ntmps8
    go_wp2_with fail
    refine (hkn).mono ?_
    rintro e w1 ⟨rfl, b1⟩
    go_wp2_with fail
    go_ret
    exact ⟨rfl, b1⟩
  have hL : ¬ (400 : Int) < (n : Int) + (n' : Int) + (n2 : Int) + (n3 : Int) := by omega
  obtain ⟨K, hK⟩ : ∃ K : Nat, k % 70 = (K : Int) := ⟨(k % 70).toNat, by omega⟩
  have hK70 : K < 70 := by omega
  obtain ⟨q, hq⟩ : ∃ q, n / 4 = q := ⟨_, rfl⟩
  have hql : (decL zs).length = q := by rw [decL_length, l1, hq]
  have hq4 : q ≤ 400 := by omega
  obtain ⟨N, hN⟩ : ∃ N, min n2 n3 = N := ⟨_, rfl⟩
  have hNl : (callsL ts os).length = N := by rw [callsL_length, l3, l4, hN]
  have hN4 : N ≤ 400 := by omega
  obtain ⟨bs, f, hbf⟩ : ∃ bs f, encR l = (bs, f) := ⟨_, _, rfl⟩
  have hf : f = 0 ∨ f = 1 := by
    unfold encR at hbf
    split at hbf
    · left; injection hbf with _ h; exact h.symm
    · right; injection hbf with _ h; exact h.symm
  have hfw : IntKind.i64.wrap f = f := IntWalk.i64_in _ (by omega)
  obtain ⟨m, hm⟩ : ∃ m, bs.length = m := ⟨_, rfl⟩
  obtain ⟨P, hP⟩ : ∃ P, pickN l n' = P := ⟨_, rfl⟩
  have i70 : (Lit.int .i64 (K : Int)).wf = true := by simp [Lit.wf, IntKind.min, IntKind.max, IntKind.signed, IntKind.bits]; omega
  have ik : (Lit.int .i64 k).wf = true := by simp [Lit.wf, IntKind.min, IntKind.max, IntKind.signed, IntKind.bits]; omega
  have H1 := Lib.hid l1
  have H2 := Lib.hid l2
  have H3 := Lib.hid l3
  have H4 := Lib.hid l4
  have HB := Lib.hid hby
  have HE := Lib.hid hey
  have HQ := Lib.hid hq
  have HQL := Lib.hid hql
  have HN := Lib.hid hN
  have HNL := Lib.hid hNl
  have HBF := Lib.hid hbf
  have HM := Lib.hid hm
  have HP := Lib.hid hP
  clear l1 l2 l3 l4 hby hey hq hql hN hNl hbf hm hP hf hbig
  go_enter Try.func8, Try.ntmps8
  go_wp2_with fail
  refine (known_any w).mono ?_
  rintro e w1 ⟨rfl, b1⟩
  have r1 := hr1.kept b1
  have r2 := hr2.kept b1
  have r3 := hr3.kept b1
  have r4 := hr4.kept b1
  go_wp2_with fail
  refine (encq (encode_any w1 a' n' c' _ l H2.out r2 HE.out (by omega)) HBF.out HM.out).mono ?_
  rintro e w2 ⟨A2, d2, rfl, sh2, s2, b2⟩
  have r1 := r1.kept b2
  have r2 := r2.kept b2
  have r3 := r3.kept b2
  have r4 := r4.kept b2
  have b2 := b1.trans (b2.mono b1.size)
  go_wp2_with fail
  refine (encq (rEncode_any w2 a' n' c' _ l H2.out r2 HE.out (by omega)) HBF.out HM.out).mono ?_
  rintro e w3 ⟨A3, d3, rfl, sh3, s3, b3⟩
  have r1 := r1.kept b3
  have r2 := r2.kept b3
  have r3 := r3.kept b3
  have r4 := r4.kept b3
  have s2 := s2.kept b3
  have b3 := b2.trans (b3.mono b2.size)
  have hv2 := conv_r (c := d2) sh2 HM.out s2
  have hv3 := conv_r (c := d3) sh3 HM.out s3
  generalize strOfNums bs = str at *
  clear sh2 sh3 s2 s3
  go_wp2_with fail
  refine (dec_r H1.out hnc r1 (by omega) HB.out rfl HQL.out).mono ?_
  rintro e w4 ⟨A4, d4, rfl, s4, b4⟩
  have r1 := r1.kept b4
  have r2 := r2.kept b4
  have r3 := r3.kept b4
  have r4 := r4.kept b4
  have b4 := b3.trans (b4.mono b3.size)
  clear hv2 hv3
  have hrd := rDecode_any w4 a n c _ zs H1.out r1 (by omega) HB.out
  rw [HQ.out] at hrd
  go_wp2_with fail
  refine (hrd).mono ?_
  rintro e w5 ⟨A5, d5, rfl, hs5, b5⟩
  have s4 := s4.kept b5
  have s5 := hs5.rd
  have r2 := r2.kept b5
  have r3 := r3.kept b5
  have r4 := r4.kept b5
  have b5 := b4.trans (b5.mono b4.size)
  clear hs5 hrd
  go_wp2_with fail
  refine (same_r s4 s5 HQL.out HQL.out (by omega)).mono ?_
  rintro e w6 ⟨rfl, b6⟩
  have r2 := r2.kept b6
  have r3 := r3.kept b6
  have r4 := r4.kept b6
  have b6 := b5.trans (b6.mono b5.size)
  go_wp2_with fail
  refine (rounds_same w6 x y hx).mono ?_
  rintro e w7 ⟨rfl, b7⟩
  have r2 := r2.kept b7
  have r3 := r3.kept b7
  have r4 := r4.kept b7
  have b7 := b6.trans (b7.mono b6.size)
  go_wp2_with fail
  simp only [hK]
  refine (rounds_same w7 (K : Int) j i70).mono ?_
  rintro e w8 ⟨rfl, b8⟩
  have r2 := r2.kept b8
  have r3 := r3.kept b8
  have r4 := r4.kept b8
  have b8 := b7.trans (b8.mono b7.size)
  go_wp2_with fail
  refine (rounds_same w8 k y ik).mono ?_
  rintro e w9 ⟨rfl, b9⟩
  have r2 := r2.kept b9
  have r3 := r3.kept b9
  have r4 := r4.kept b9
  have b9 := b8.trans (b9.mono b8.size)
  have hp1 := Picks_any w9 a' n' c' _ l H2.out r2 (by omega)
  rw [HP.out] at hp1
  go_wp2_with fail
  refine (hp1).mono ?_
  rintro e w10 ⟨rfl, b10⟩
  have r2 := r2.kept b10
  have r3 := r3.kept b10
  have r4 := r4.kept b10
  have b10 := b9.trans (b10.mono b9.size)
  have hp2 := rPicks_any w10 a' n' c' _ l H2.out r2 (by omega)
  rw [HP.out] at hp2
  go_wp2_with fail
  refine (hp2).mono ?_
  rintro e w11 ⟨rfl, b11⟩
  have r3 := r3.kept b11
  have r4 := r4.kept b11
  have b11 := b10.trans (b11.mono b10.size)
  have hc1 := calls_any w11 a2 n2 c2 _ ts a3 n3 c3 _ os H3.out H4.out r3 r4 (by omega) (by omega)
  rw [HN.out] at hc1
  clear hp1 hp2
  go_wp2_with fail
  refine (hc1).mono ?_
  rintro e w12 ⟨A12, d12, rfl, hs12, b12⟩
  have r3 := r3.kept b12
  have r4 := r4.kept b12
  have s12 := hs12.rd
  have b12 := b11.trans (b12.mono b11.size)
  have hc2 := rCalls_any w12 a2 n2 c2 _ ts a3 n3 c3 _ os H3.out H4.out r3 r4 (by omega) (by omega)
  rw [HN.out] at hc2
  clear hc1 hs12
  go_wp2_with fail
  refine (hc2).mono ?_
  rintro e w13 ⟨A13, d13, rfl, hs13, b13⟩
  have s12 := s12.kept b13
  have s13 := hs13.rd
  have b13 := b12.trans (b13.mono b12.size)
  clear hc2 hs13
  go_wp2_with fail
  refine (same_r s12 s13 HNL.out HNL.out (by omega)).mono ?_
  rintro e w14 ⟨rfl, b14⟩
  have b14 := b13.trans (b14.mono b13.size)
  go_wp2_with fail
  go_ret
  exact ⟨rfl, b14⟩
end Go.Proofs.Ytefenbmchfbohaa
