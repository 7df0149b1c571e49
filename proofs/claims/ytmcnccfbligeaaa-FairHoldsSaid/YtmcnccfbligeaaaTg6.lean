/-
  A world.
-/
import Derived.Test.YtmcnccfbligeaaaTgB
import Derived.Test.YtmcnccfbligeaaaTgF
namespace Go.Proofs.Ytmcnccfbligeaaa
open Go.RowKit Go.Rp Go.Tz

def s_new18 : Sg := ⟨[aConf], [aWorld, aBool], false⟩
def x_new18 : Sx := ⟨s_new18, [], [], [], []⟩
theorem d_new18 {ω : World} : FnX Try.prog (lay ω) G 27 x_new18 :=
  @funcX_ok Try.prog (lay ω) els (tab [(34, s_right), (35, s_open)]) (tabX []) (invs [(8006, ⟨[], [], .c 0, .c 6⟩)]) G mix gok (tab_ok (all_cons c_right (all_cons c_open all_nil))) (tabX_ok all_nil) els_ok 27 _ _ x_new18 Try.func27 rfl rfl [.add 85 1, .add 85 1, .add 85 1, .add 85 1] (by kernel_rfl) (fun K e => by show den G [.add 85 1, .add 85 1, .add 85 1, .add 85 1] K e ≤ gAdd 85 8 K e; by_cases he : e = 85 <;> simp only [den, Gr.den, gAdd, he, if_true, if_false] <;> omega) (fun h => by cases h) (by decide)
theorem c_new18 {ω : World} : FnOK Try.prog (lay ω) G 27 s_new18 := d_new18.plain rfl
end Go.Proofs.Ytmcnccfbligeaaa
