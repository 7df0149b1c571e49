/-
  With facts.
-/
import Derived.Test.YtmcnccfbligeaaaTgB
import Derived.Test.YtmcnccfbligeaaaTgE
import Derived.Test.YtmcnccfbligeaaaTgQ
import Derived.Test.YtmcnccfbligeaaaTgU
namespace Go.Proofs.Ytmcnccfbligeaaa
open Go.RowKit Go.Rp Go.Tz

def s_call : Sg := ⟨[aWorld, aInt, aOp], [aWorld, aBool], false⟩
def x_call : Sx := ⟨s_call, [], [], [], []⟩
theorem d_call {ω : World} : FnX Try.prog (lay ω) G 36 x_call :=
  @funcX_ok Try.prog (lay ω) els (tab [(41, s_begin15), (43, s_event)]) (tabX [(42, x_with)]) (invs []) G mix gok (tab_ok (all_cons c_begin15 (all_cons c_event all_nil))) (tabX_ok (all_cons d_with all_nil)) els_ok 36 _ _ x_call Try.func36 rfl rfl [.fn 43] (by kernel_rfl) (fun _ _ => Nat.le_refl _) (fun h => by cases h) (by decide)
theorem c_call {ω : World} : FnOK Try.prog (lay ω) G 36 s_call := d_call.plain rfl
end Go.Proofs.Ytmcnccfbligeaaa
/-
  What was done.
-/
namespace Go.Proofs.Ytmcnccfbligeaaa
open Go.RowKit Go.Rp Go.Tz

def s_applied : Sg := ⟨[aWorld, aSl 122], [aWorld], false⟩
def x_applied : Sx := ⟨s_applied, [], [], [], []⟩
theorem d_applied {ω : World} : FnX Try.prog (lay ω) G 46 x_applied :=
  @funcX_ok Try.prog (lay ω) els (tab [(64, s_ofop), (57, s_ofres)]) (tabX [(65, x_order)]) (invs [(3, ⟨[(5, .slf 26), (6, aInt)], [.le (.c 0) (.val (.t 6)) 0, .le (.val (.t 6)) (.len (.t 1)) 0, .le (.len (.t 5)) (.val (.t 6)) 0, .le (.val (.t 6)) (.len (.t 5)) 0, .aps 5 2, .cell (.f 0 13) 2 13], .val (.t 6), .len (.t 1)⟩), (12, ⟨[(10, .sli 125 false 0), (11, aInt)], [.le (.c 0) (.val (.t 11)) 0, .le (.val (.t 11)) (.len (.t 9)) 0, .elts (.t 9) (.len (.t 1)) (-1), .aps 10 2, .apx 10 9, .cell (.f 0 13) 2 13], .val (.t 11), .len (.t 9)⟩), (17, ⟨[(10, .sli 125 false 0), (15, aInt)], [.le (.c 0) (.val (.t 15)) 0, .le (.val (.t 15)) (.len (.f 0 13)) 0, .elts (.t 9) (.len (.t 1)) (-1), .aps 10 2, .apx 10 9, .cell (.f 0 13) 2 13], .val (.t 15), .len (.f 0 13)⟩), (7012, ⟨[], [], .c 0, .len (.t 1)⟩), (7017, ⟨[(125, .sli 125 false 1)], [], .c 0, .len (.f 0 13)⟩), (5003, ⟨[], [.root 2 2 0, .cell (.f 0 13) 2 13, .aps 5 2, .le (.val (.t 6)) (.c 0) 0, .le (.c 0) (.val (.t 6)) 0, .le (.len (.t 5)) (.c 0) 0], .c 1, .c 0⟩), (5012, ⟨[], [.root 2 2 0, .cell (.f 0 13) 2 13, .le (.len (.t 1)) (.c 68719476736) 0, .le (.len (.t 5)) (.len (.t 1)) 0, .le (.len (.t 1)) (.len (.t 5)) 0, .elts (.t 9) (.len (.t 1)) (-1), .le (.len (.t 9)) (.len (.t 1)) 0, .aps 10 2, .apx 10 9, .le (.val (.t 11)) (.c 0) 0, .le (.c 0) (.val (.t 11)) 0], .c 1, .c 0⟩), (5017, ⟨[], [.root 2 2 0, .cell (.f 0 13) 2 13, .le (.len (.t 1)) (.c 68719476736) 0, .le (.len (.t 5)) (.len (.t 1)) 0, .le (.len (.t 1)) (.len (.t 5)) 0, .elts (.t 9) (.len (.t 1)) (-1), .le (.len (.t 9)) (.len (.t 1)) 0, .aps 10 2, .apx 10 9, .le (.c 0) (.val (.t 11)) 0, .le (.val (.t 11)) (.len (.t 9)) (-1), .le (.gh 25) (.val (.t 11)) 0, .le (.val (.t 11)) (.gh 25) 0, .le (.len (.t 9)) (.gh 24) 0, .le (.gh 24) (.len (.t 9)) 0, .le (.val (.t 15)) (.c 0) 0, .le (.c 0) (.val (.t 15)) 0], .c 1, .c 0⟩), (5013, ⟨[], [.root 2 2 0, .cell (.f 0 13) 2 13, .le (.len (.t 1)) (.c 68719476736) 0, .le (.len (.t 5)) (.len (.t 1)) 0, .le (.len (.t 1)) (.len (.t 5)) 0, .elts (.t 9) (.len (.t 1)) (-1), .le (.len (.t 9)) (.len (.t 1)) 0, .aps 10 2, .apx 10 9, .le (.c 0) (.val (.t 11)) 0, .le (.val (.t 11)) (.len (.t 9)) (-1), .le (.gh 25) (.val (.t 11)) 0, .le (.val (.t 11)) (.gh 25) 0, .le (.len (.t 9)) (.gh 24) 0, .le (.gh 24) (.len (.t 9)) 0], .c 1, .c 0⟩), (5021, ⟨[], [.root 2 2 0], .c 1, .c 0⟩)]) G mix gok (tab_ok (all_cons c_ofop (all_cons c_ofres all_nil))) (tabX_ok (all_cons d_order all_nil)) els_ok 46 _ _ x_applied Try.func46 rfl rfl [.mul 125 1 [122, 85]] (by kernel_rfl) (fun _ _ => Nat.le_refl _) (fun h => by cases h) (by decide)
theorem c_applied {ω : World} : FnOK Try.prog (lay ω) G 46 s_applied := d_applied.plain rfl
end Go.Proofs.Ytmcnccfbligeaaa
