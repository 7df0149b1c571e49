/-
  Who asks.
-/
import Derived.Test.YtmcnccfbligeaaaTgE
namespace Go.Proofs.Ytmcnccfbligeaaa
open Go.RowKit Go.Rp Go.Tz

def s_publish : Sg := ⟨[aMem, aTh], [aMem, aTh], true⟩
def x_publish : Sx := ⟨s_publish, [], [], [], []⟩
def s_open : Sg := ⟨[aInt], [aMem, aBool], true⟩
def x_open : Sx := ⟨s_open, [], [], [], []⟩
def s_step15 : Sg := ⟨[aMem, aTh], [aMem, aTh, aOp, aBool], true⟩
def x_step15 : Sx := ⟨s_step15, [], [], [], []⟩
theorem d_publish {ω : World} : FnX Try.prog (lay ω) G 51 x_publish :=
  @funcX_ok Try.prog (lay ω) els (tab [(56, s_swap), (54, s_first), (53, s_load02), (55, s_store)]) (tabX [(40, x_alloc)]) (invs []) G mix gok (tab_ok (all_cons c_swap (all_cons c_first (all_cons c_load02 (all_cons c_store all_nil))))) (tabX_ok (all_cons d_alloc all_nil)) els_ok 51 _ _ x_publish Try.func51 rfl rfl [] (by kernel_rfl) (fun _ _ => Nat.le_refl _) (fun _ _ => rfl) (by decide)
theorem c_publish {ω : World} : FnOK Try.prog (lay ω) G 51 s_publish := d_publish.plain rfl
theorem d_open {ω : World} : FnX Try.prog (lay ω) G 35 x_open :=
  @funcX_ok Try.prog (lay ω) els (tab [(39, s_new02)]) (tabX [(40, x_alloc)]) (invs []) G mix gok (tab_ok (all_cons c_new02 all_nil)) (tabX_ok (all_cons d_alloc all_nil)) els_ok 35 _ _ x_open Try.func35 rfl rfl [] (by kernel_rfl) (fun _ _ => Nat.le_refl _) (fun _ _ => rfl) (by decide)
theorem c_open {ω : World} : FnOK Try.prog (lay ω) G 35 s_open := d_open.plain rfl
theorem c_step15 {ω : World} : FnOK Try.prog (lay ω) G 44 s_step15 :=
  @func_ok Try.prog (lay ω) els (tab [(51, s_publish), (52, s_link), (53, s_load02), (54, s_first), (55, s_store), (56, s_swap), (57, s_ofres)]) G mix gok (tab_ok (all_cons c_publish (all_cons c_link (all_cons c_load02 (all_cons c_first (all_cons c_store (all_cons c_swap (all_cons c_ofres all_nil)))))))) els_ok 44 _ _ s_step15 Try.func44 rfl rfl [] (by kernel_rfl) (fun _ _ => Nat.le_refl _) (fun _ _ => rfl)
end Go.Proofs.Ytmcnccfbligeaaa
