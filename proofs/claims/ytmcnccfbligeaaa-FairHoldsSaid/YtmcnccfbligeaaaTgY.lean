/-
  A pick.
-/
import Derived.Test.YtmcnccfbligeaaaTgX
import Derived.Test.YtmcnccfbligeaaaTgW
import Derived.Test.YtmcnccfbligeaaaTgF
import Derived.Test.YtmcnccfbligeaaaTgQ
namespace Go.Proofs.Ytmcnccfbligeaaa
open Go.RowKit Go.Rp Go.Tz

def s_pick : Sg := ⟨[aWorld, aInt], [aWorld, aBool], false⟩
def x_pick : Sx := ⟨s_pick, [], [], [], []⟩
theorem d_pick {ω : World} : FnX Try.prog (lay ω) G 37 x_pick :=
  @funcX_ok Try.prog (lay ω) els (tab [(44, s_step15), (43, s_event), (45, s_step16), (46, s_applied), (47, s_step17)]) (tabX [(42, x_with)]) (invs [(5009, ⟨[], [.aps 8 2, .root 2 2 0, .cell (.f 0 13) 2 13, .le (.c 0) (.val (.t 1)) 0, .le (.val (.t 1)) (.len (.f 0 13)) (-1), .le (.len (.t 8)) (.len (.f 0 16)) 0, .le (.len (.f 0 16)) (.len (.t 8)) 0], .c 1, .c 0⟩), (5015, ⟨[], [.root 2 2 0, .cell (.f 0 13) 2 13, .le (.c 0) (.val (.t 1)) 0, .le (.val (.t 1)) (.len (.f 0 13)) (-1)], .c 1, .c 0⟩), (5017, ⟨[], [.root 2 2 0, .cell (.f 0 13) 2 13, .le (.c 0) (.val (.t 1)) 0, .le (.val (.t 1)) (.len (.f 0 13)) (-1)], .c 1, .c 0⟩), (5018, ⟨[], [.root 2 2 0, .cell (.f 0 13) 2 13, .le (.c 0) (.val (.t 1)) 0, .le (.val (.t 1)) (.len (.f 0 13)) (-1)], .c 1, .c 0⟩), (5019, ⟨[], [], .c 1, .c 0⟩), (5023, ⟨[], [.root 2 2 0, .cell (.f 0 13) 2 13, .le (.c 0) (.val (.t 1)) 0, .le (.val (.t 1)) (.len (.f 0 13)) (-1)], .c 1, .c 0⟩), (5024, ⟨[], [.root 2 2 0, .cell (.f 0 13) 2 13, .le (.c 0) (.val (.t 1)) 0, .le (.val (.t 1)) (.len (.f 0 13)) (-1)], .c 1, .c 0⟩), (5025, ⟨[], [.root 2 2 0, .cell (.f 0 13) 2 13, .le (.c 0) (.val (.t 1)) 0, .le (.val (.t 1)) (.len (.f 0 13)) (-1)], .c 1, .c 0⟩), (5026, ⟨[], [], .c 1, .c 0⟩), (5013, ⟨[], [.root 2 2 0, .cell (.f 0 13) 2 13, .le (.c 0) (.val (.t 1)) 0, .le (.val (.t 1)) (.len (.f 0 13)) (-1)], .c 1, .c 0⟩), (5014, ⟨[], [.root 2 2 0, .cell (.f 0 13) 2 13, .le (.c 0) (.val (.t 1)) 0, .le (.val (.t 1)) (.len (.f 0 13)) (-1)], .c 1, .c 0⟩), (5028, ⟨[], [], .c 1, .c 0⟩)]) G mix gok (tab_ok (all_cons c_step15 (all_cons c_event (all_cons c_step16 (all_cons c_applied (all_cons c_step17 all_nil)))))) (tabX_ok (all_cons d_with all_nil)) els_ok 37 _ _ x_pick Try.func37 rfl rfl [.add 3 1, .add 3 1, .fn 43, .fn 45, .fn 46] (by kernel_rfl) (fun _ _ => Nat.le_refl _) (fun h => by cases h) (by decide)
theorem c_pick {ω : World} : FnOK Try.prog (lay ω) G 37 s_pick := d_pick.plain rfl
end Go.Proofs.Ytmcnccfbligeaaa
