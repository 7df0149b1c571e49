/-
  The walk of EndsSame.
-/
import Derived.Test.YtgaomaaloaglpaaEndsW
namespace Go.Proofs.Ytgaomaaloaglpaa
open Go.RowKit Go.Rp


set_option maxRecDepth 100000 in
set_option maxHeartbeats 2000000 in
theorem EndsSame_walk (w : World) (ms : Int) (hms : (Lit.int .i64 ms).wf = true) (k : Int) (hk : (Lit.int .u8 k).wf = true) (a0 : Option Addr) (n0 c0 : Nat) (zs0 : List Int) (h00 : InInts .u8 w a0 n0 c0 zs0) (a : Option Addr) (n c : Nat) (ops : List (Int × Int)) (h0 : InRows 2 opIn opOk w a n c ops) (a' : Option Addr) (n' c' : Nat) (zs : List Int) (h1 : InInts .u8 w a' n' c' zs) :
    Calls Try.prog 9 #[.int .i64 ms, .int .u8 k, .slice a0 n0 c0, .slice a n c, .slice a' n' c'] w fun e w' => e = .returned (.bool true) ∧ Below w.heap.size w w' := by
  obtain ⟨bs, hbn, h256, hrb⟩ := h1.bytes
  obtain ⟨bs0, hbn0, h2560, hrb0⟩ := h00.bytes
  have hr : Rd w (· < w.heap.size) 2 a n (ops.flatMap opIn) := h0.rd
  have h8 : ∀ o ∈ ops, 0 ≤ o.1 ∧ o.1 ≤ 255 := fun o ho => wf_u8 (h0.ok o ho).1
  have hreach := h0.reach
  have hreach' := h1.reach
  have hreach0 := h00.reach
  have HN := Lib.hid h0.len
  have HNB := Lib.hid hbn
  have HN0 := Lib.hid hbn0
  have hlt : ∀ b, (fun x => x < w.heap.size) b → b < w.heap.size := fun _ h => h
  have s0 : At w.heap.size w [] := trivial
  obtain ⟨k0, k1⟩ := wf_u8 hk
  clear h0 h1 h00 hbn hbn0 hms
  have hw0 : IntKind.i64.wrap ((n0 : Int) + (n : Int)) = (n0 : Int) + (n : Int) := IntWalk.i64_in _ (by omega)
  have hw1 : IntKind.i64.wrap ((n0 : Int) + (n : Int) + (n' : Int)) = (n0 : Int) + (n : Int) + (n' : Int) := IntWalk.i64_in _ (by omega)
  by_cases hbig : 150 < n0 + n + n'
  · have hL : (150 : Int) < (n0 : Int) + (n : Int) + (n' : Int) := by omega
    go_enter Try.func9, Try.ntmps9
    go_wp2_with fail
    refine (known_any _).mono ?_
    rintro e w1 ⟨rfl, b1⟩
    go_wp2_with fail
    go_ret
    exact ⟨rfl, b1⟩
  have hL : ¬ (150 : Int) < (n0 : Int) + (n : Int) + (n' : Int) := by omega
  obtain ⟨K, hK, kmod, _, _⟩ := u8_mod hk 7 (by omega)
  obtain ⟨K3, hK3, kmod3, _, _⟩ := u8_mod hk 20 (by omega)
  clear hk
  go_enter Try.func9, Try.ntmps9
  go_wp2_with fail
  refine (known_s (Nat.le_refl _) s0).mono ?_
  rintro e w1 ⟨rfl, s1, b1⟩
  go_wp2_with fail
  refine (same_y b1.size ms HN0.out (hrb0.below b1 hlt) hlt h2560 (by omega) HN.out h8 (by omega) s1 (fun W L' hb _ => ⟨_, (hr.below b1 hlt).below hb hlt⟩)).mono ?_
  rintro e w2 ⟨rfl, s2, b2⟩
  have b2 := b1.trans b2
  go_wp2_with fail
  refine (Ops_s b2.size s2 HNB.out (hrb.below b2 hlt) h256 (by omega) 5 (by omega) (by omega)).mono ?_
  rintro e w3 ⟨A3, m3, c3, rfl, hm3, hm8, s3, b3⟩
  have b3 := b2.trans b3
  go_wp2_with fail
  refine (same_y b3.size (K : Int) HN0.out (hrb0.below b3 hlt) hlt h2560 (by omega) hm3 (opsOf_ok 5 (by omega) (by omega) bs) (by omega) s3 (fun W L' hb hW => ⟨_, hW.get⟩)).mono ?_
  rintro e w4 ⟨rfl, s4, b4⟩
  have b4 := b3.trans b4
  go_wp2_with fail
  refine (same_y b4.size (K3 : Int) HN0.out (hrb0.below b4 hlt) hlt h2560 (by omega) HN.out h8 (by omega) s4 (fun W L' hb _ => ⟨_, (hr.below b4 hlt).below hb hlt⟩)).mono ?_
  rintro e w5 ⟨rfl, s5, b5⟩
  have b5 := b4.trans b5
  go_wp2_with fail
  go_ret
  exact ⟨by simp, b5⟩
end Go.Proofs.Ytgaomaaloaglpaa
