/-
  Functions that call nothing.
-/
import Derived.Test.YtmcnccfbligeaaaTgA
namespace Go.Proofs.Ytmcnccfbligeaaa
open Go.RowKit Go.Rp Go.Tz

def s_op : Sg := ⟨[aOp], [aInt], true⟩
def x_op : Sx := ⟨s_op, [], [], [], []⟩
def s_res : Sg := ⟨[aOp], [aInt], true⟩
def x_res : Sx := ⟨s_res, [], [], [], []⟩
def s_ofop : Sg := ⟨[aInt], [aOp, aBool], true⟩
def x_ofop : Sx := ⟨s_ofop, [], [], [], []⟩
def s_most : Sg := ⟨[aInt], [.val false [.int .i64 0 1000]], true⟩
def x_most : Sx := ⟨s_most, [], [], [], []⟩
def s_base : Sg := ⟨[aInt], [aInt], true⟩
def x_base : Sx := ⟨s_base, [], [], [], []⟩
def s_many : Sg := ⟨[aMem], [aInt], true⟩
def x_many : Sx := ⟨s_many, [], [], [], []⟩
def s_first : Sg := ⟨[aBool, aInt, aInt], [aInt], true⟩
def x_first : Sx := ⟨s_first, [], [], [], []⟩
def s_on : Sg := ⟨[aTh], [aTh], true⟩
def x_on : Sx := ⟨s_on, [], [], [], []⟩
def s_by : Sg := ⟨[aTh], [aTh], true⟩
def x_by : Sx := ⟨s_by, [], [], [], []⟩
def s_less : Sg := ⟨[aOp, aOp], [aBool], true⟩
def x_less : Sx := ⟨s_less, [], [], [], []⟩
def s_right : Sg := ⟨[aConf], [aInt], true⟩
def x_right : Sx := ⟨s_right, [], [], [], []⟩
theorem c_op {ω : World} : FnOK Try.prog (lay ω) G 50 s_op :=
  @func_ok Try.prog (lay ω) els (tab []) G mix gok (tab_ok all_nil) els_ok 50 _ _ s_op Try.func50 rfl rfl [] (by kernel_rfl) (fun _ _ => Nat.le_refl _) (fun _ _ => rfl)
theorem c_res {ω : World} : FnOK Try.prog (lay ω) G 71 s_res :=
  @func_ok Try.prog (lay ω) els (tab []) G mix gok (tab_ok all_nil) els_ok 71 _ _ s_res Try.func71 rfl rfl [] (by kernel_rfl) (fun _ _ => Nat.le_refl _) (fun _ _ => rfl)
theorem c_ofop {ω : World} : FnOK Try.prog (lay ω) G 64 s_ofop :=
  @func_ok Try.prog (lay ω) els (tab []) G mix gok (tab_ok all_nil) els_ok 64 _ _ s_ofop Try.func64 rfl rfl [] (by kernel_rfl) (fun _ _ => Nat.le_refl _) (fun _ _ => rfl)
theorem c_most {ω : World} : FnOK Try.prog (lay ω) G 80 s_most :=
  @func_ok Try.prog (lay ω) els (tab []) G mix gok (tab_ok all_nil) els_ok 80 _ _ s_most Try.func80 rfl rfl [] (by kernel_rfl) (fun _ _ => Nat.le_refl _) (fun _ _ => rfl)
theorem c_base {ω : World} : FnOK Try.prog (lay ω) G 75 s_base :=
  @func_ok Try.prog (lay ω) els (tab []) G mix gok (tab_ok all_nil) els_ok 75 _ _ s_base Try.func75 rfl rfl [] (by kernel_rfl) (fun _ _ => Nat.le_refl _) (fun _ _ => rfl)
theorem c_many {ω : World} : FnOK Try.prog (lay ω) G 73 s_many :=
  @func_ok Try.prog (lay ω) els (tab []) G mix gok (tab_ok all_nil) els_ok 73 _ _ s_many Try.func73 rfl rfl [] (by kernel_rfl) (fun _ _ => Nat.le_refl _) (fun _ _ => rfl)
theorem c_first {ω : World} : FnOK Try.prog (lay ω) G 54 s_first :=
  @func_ok Try.prog (lay ω) els (tab []) G mix gok (tab_ok all_nil) els_ok 54 _ _ s_first Try.func54 rfl rfl [] (by kernel_rfl) (fun _ _ => Nat.le_refl _) (fun _ _ => rfl)
theorem c_on {ω : World} : FnOK Try.prog (lay ω) G 74 s_on :=
  @func_ok Try.prog (lay ω) els (tab []) G mix gok (tab_ok all_nil) els_ok 74 _ _ s_on Try.func74 rfl rfl [] (by kernel_rfl) (fun _ _ => Nat.le_refl _) (fun _ _ => rfl)
theorem c_by {ω : World} : FnOK Try.prog (lay ω) G 67 s_by :=
  @func_ok Try.prog (lay ω) els (tab []) G mix gok (tab_ok all_nil) els_ok 67 _ _ s_by Try.func67 rfl rfl [] (by kernel_rfl) (fun _ _ => Nat.le_refl _) (fun _ _ => rfl)
theorem c_less {ω : World} : FnOK Try.prog (lay ω) G 76 s_less :=
  @func_ok Try.prog (lay ω) els (tab []) G mix gok (tab_ok all_nil) els_ok 76 _ _ s_less Try.func76 rfl rfl [] (by kernel_rfl) (fun _ _ => Nat.le_refl _) (fun _ _ => rfl)
theorem c_right {ω : World} : FnOK Try.prog (lay ω) G 34 s_right :=
  @func_ok Try.prog (lay ω) els (tab []) G mix gok (tab_ok all_nil) els_ok 34 _ _ s_right Try.func34 rfl rfl [] (by kernel_rfl) (fun _ _ => Nat.le_refl _) (fun _ _ => rfl)
end Go.Proofs.Ytmcnccfbligeaaa
