/-
  An entry.
-/
import Derived.Test.YtmcnccfbligeaaaTgY
import Derived.Test.YtmcnccfbligeaaaTgQ
import Derived.Test.YtmcnccfbligeaaaTg8
import Derived.Test.YtmcnccfbligeaaaTg5
import Derived.Test.YtmcnccfbligeaaaTg6
namespace Go.Proofs.Ytmcnccfbligeaaa
open Go.RowKit Go.Rp Go.Tz

def s_do18 : Sg := ⟨[aWorld, aEnt], [aWorld, aBool], false⟩
def x_do18 : Sx := ⟨s_do18, [], [], [], []⟩
theorem c_do18 {ω : World} : FnOK Try.prog (lay ω) G 30 s_do18 :=
  @func_ok Try.prog (lay ω) els (tab [(36, s_call), (37, s_pick), (38, s_feed12)]) G mix gok (tab_ok (all_cons c_call (all_cons c_pick (all_cons c_feed12 all_nil)))) els_ok 30 _ _ s_do18 Try.func30 rfl rfl [.fn 36, .fn 37] (by kernel_rfl) (fun _ _ => Nat.le_refl _) (fun h => by cases h)
end Go.Proofs.Ytmcnccfbligeaaa
/-
  A long run.
-/
namespace Go.Proofs.Ytmcnccfbligeaaa
open Go.RowKit Go.Rp Go.Tz

theorem den_rep (f : FuncId) : ∀ (n : Nat) (K : Bounds), den G (List.replicate n [Gr.fn f]).flatten K = itG (G f) n K
  | 0, K => rfl
  | n + 1, K => by
    show den G ([Gr.fn f] ++ (List.replicate n [Gr.fn f]).flatten) K = itG (G f) n (G f K)
    rw [den_append]
    exact den_rep f n _
theorem G_long (K : Bounds) : G 18 K = gLong K := by with_reducible_and_instances (unfold G; simp only [show 18 ≠ 62 by decide, show 18 ≠ 43 by decide, show 18 ≠ 36 by decide, show 18 ≠ 45 by decide, show 18 ≠ 46 by decide, show 18 ≠ 37 by decide, show 18 ≠ 30 by decide, show 18 ≠ 27 by decide, if_false, if_true])
theorem long_gr (K : Bounds) (e : TypeId) : den G (([.fn 27] : List Gr) ++ (List.replicate 1001 [Gr.fn 30]).flatten) K e ≤ G 18 K e := by
  have h1 : G 18 K = itG gWDo 1001 (gAdd 85 8 K) := (G_long K).trans (by with_reducible (unfold gLong; rfl))
  have h2 : G 30 = gWDo := rfl
  have h3 : den G [.fn 27] K = gAdd 85 8 K := rfl
  rw [den_append, den_rep, h3, h2, h1]
  exact Nat.le_refl _
def s_long : Sg := ⟨[.inp, .inp, aInt], [aConf, aWorld], false⟩
def x_long : Sx := ⟨s_long, [(.av 2, .k 250, 0)], [], [], []⟩
theorem d_long {ω : World} : FnX Try.prog (lay ω) G 18 x_long :=
  @funcX_ok Try.prog (lay ω) els (tab [(26, s_config), (27, s_new18), (30, s_do18)]) (tabX [(28, x_script), (29, x_roundsB)]) (invs [(9, ⟨[(12, aInt)], [.le (.c 0) (.val (.t 12)) 0, .le (.val (.t 12)) (.len (.t 11)) 0], .val (.t 12), .len (.t 11)⟩), (7009, ⟨[], [], .c 0, .c 1000⟩), (5009, ⟨[], [.le (.c 0) (.val (.t 12)) 0, .le (.val (.t 12)) (.c 0) 0, .le (.len (.t 11)) (.c 1000) 0], .c 1, .c 0⟩)]) G mix gok (tab_ok (all_cons c_config (all_cons c_new18 (all_cons c_do18 all_nil)))) (tabX_ok (all_cons d_script (all_cons d_roundsB all_nil))) els_ok 18 _ _ x_long Try.func18 rfl rfl (([.fn 27] : List Gr) ++ (List.replicate 1001 [Gr.fn 30]).flatten) (by kernel_rfl) long_gr (fun h => by cases h) (by decide)
end Go.Proofs.Ytmcnccfbligeaaa
