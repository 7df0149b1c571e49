/-
  The memory.
-/
import Derived.Test.YtmcnccfbligeaaaTgA
import Derived.Test.YtmcnccfbligeaaaTgB
namespace Go.Proofs.Ytmcnccfbligeaaa
open Go.RowKit Go.Rp Go.Tz

def s_has : Sg := ⟨[aMem, aInt], [aBool], true⟩
def x_has : Sx := ⟨s_has, [], [(some true, .k 0, .av 1, 0), (some true, .av 1, .af 0 1, -1)], [], []⟩
def s_fresh : Sg := ⟨[aMem], [aMem], true⟩
def x_fresh : Sx := ⟨s_fresh, [], [(none, .of_ 0 1, .af 0 1, 0), (none, .af 0 1, .of_ 0 1, 0)], [(0, 1)], []⟩
def s_new02 : Sg := ⟨[aInt], [aMem], true⟩
def x_new02 : Sx := ⟨s_new02, [], [], [], []⟩
def s_load02 : Sg := ⟨[aMem, aInt], [aMem, aInt, aInt], true⟩
def x_load02 : Sx := ⟨s_load02, [], [], [], []⟩
def s_store : Sg := ⟨[aMem, aInt, aInt], [aMem, aInt], true⟩
def x_store : Sx := ⟨s_store, [], [], [], []⟩
def s_swap : Sg := ⟨[aMem, aInt, aInt, aInt], [aMem, aBool, aInt], true⟩
def x_swap : Sx := ⟨s_swap, [], [], [], []⟩
theorem d_has {ω : World} : FnX Try.prog (lay ω) G 69 x_has :=
  @funcX_ok Try.prog (lay ω) els (tab []) (tabX []) (invs []) G mix gok (tab_ok all_nil) (tabX_ok all_nil) els_ok 69 _ _ x_has Try.func69 rfl rfl [] (by kernel_rfl) (fun _ _ => Nat.le_refl _) (fun _ _ => rfl) (by decide)
theorem c_has {ω : World} : FnOK Try.prog (lay ω) G 69 s_has := d_has.plain rfl
theorem d_fresh {ω : World} : FnX Try.prog (lay ω) G 49 x_fresh :=
  @funcX_ok Try.prog (lay ω) els (tab []) (tabX []) (invs []) G mix gok (tab_ok all_nil) (tabX_ok all_nil) els_ok 49 _ _ x_fresh Try.func49 rfl rfl [] (by kernel_rfl) (fun _ _ => Nat.le_refl _) (fun _ _ => rfl) (by decide)
theorem c_fresh {ω : World} : FnOK Try.prog (lay ω) G 49 s_fresh := d_fresh.plain rfl
theorem d_new02 {ω : World} : FnX Try.prog (lay ω) G 39 x_new02 :=
  @funcX_ok Try.prog (lay ω) els (tab []) (tabX []) (invs []) G mix gok (tab_ok all_nil) (tabX_ok all_nil) els_ok 39 _ _ x_new02 Try.func39 rfl rfl [] (by kernel_rfl) (fun _ _ => Nat.le_refl _) (fun _ _ => rfl) (by decide)
theorem c_new02 {ω : World} : FnOK Try.prog (lay ω) G 39 s_new02 := d_new02.plain rfl
theorem d_load02 {ω : World} : FnX Try.prog (lay ω) G 53 x_load02 :=
  @funcX_ok Try.prog (lay ω) els (tab []) (tabX [(69, x_has)]) (invs []) G mix gok (tab_ok all_nil) (tabX_ok (all_cons d_has all_nil)) els_ok 53 _ _ x_load02 Try.func53 rfl rfl [] (by kernel_rfl) (fun _ _ => Nat.le_refl _) (fun _ _ => rfl) (by decide)
theorem c_load02 {ω : World} : FnOK Try.prog (lay ω) G 53 s_load02 := d_load02.plain rfl
theorem d_store {ω : World} : FnX Try.prog (lay ω) G 55 x_store :=
  @funcX_ok Try.prog (lay ω) els (tab []) (tabX [(69, x_has), (49, x_fresh)]) (invs []) G mix gok (tab_ok all_nil) (tabX_ok (all_cons d_has (all_cons d_fresh all_nil))) els_ok 55 _ _ x_store Try.func55 rfl rfl [] (by kernel_rfl) (fun _ _ => Nat.le_refl _) (fun _ _ => rfl) (by decide)
theorem c_store {ω : World} : FnOK Try.prog (lay ω) G 55 s_store := d_store.plain rfl
theorem d_swap {ω : World} : FnX Try.prog (lay ω) G 56 x_swap :=
  @funcX_ok Try.prog (lay ω) els (tab []) (tabX [(69, x_has), (49, x_fresh)]) (invs []) G mix gok (tab_ok all_nil) (tabX_ok (all_cons d_has (all_cons d_fresh all_nil))) els_ok 56 _ _ x_swap Try.func56 rfl rfl [] (by kernel_rfl) (fun _ _ => Nat.le_refl _) (fun _ _ => rfl) (by decide)
theorem c_swap {ω : World} : FnOK Try.prog (lay ω) G 56 s_swap := d_swap.plain rfl
end Go.Proofs.Ytmcnccfbligeaaa
/-
  New cells.
-/
namespace Go.Proofs.Ytmcnccfbligeaaa
open Go.RowKit Go.Rp Go.Tz

def s_alloc : Sg := ⟨[aMem, aInt], [aMem, aInt, aInt], true⟩
def x_alloc : Sx := ⟨s_alloc, [(.k 1, .av 1, 0), (.av 1, .k 1000, 0)], [], [], []⟩
theorem d_alloc {ω : World} : FnX Try.prog (lay ω) G 40 x_alloc :=
  @funcX_ok Try.prog (lay ω) els (tab []) (tabX [(49, x_fresh)]) (invs []) G mix gok (tab_ok all_nil) (tabX_ok (all_cons d_fresh all_nil)) els_ok 40 _ _ x_alloc Try.func40 rfl rfl [] (by kernel_rfl) (fun _ _ => Nat.le_refl _) (fun _ _ => rfl) (by decide)
end Go.Proofs.Ytmcnccfbligeaaa
/-
  Functions that the checker takes.
-/
namespace Go.Proofs.Ytmcnccfbligeaaa
open Go.RowKit Go.Rp Go.Tz

def s_ofres : Sg := ⟨[aInt], [aOp, aBool], true⟩
def x_ofres : Sx := ⟨s_ofres, [], [], [], []⟩
def s_link : Sg := ⟨[aMem, aTh], [aMem, aTh], true⟩
def x_link : Sx := ⟨s_link, [], [], [], []⟩
def s_load16 : Sg := ⟨[aMem, aTh, aInt], [aMem, aTh], true⟩
def x_load16 : Sx := ⟨s_load16, [], [], [], []⟩
def s_begin16 : Sg := ⟨[aMem, aTh], [aMem, aTh], true⟩
def x_begin16 : Sx := ⟨s_begin16, [], [], [], []⟩
def s_find : Sg := ⟨[aMem, aTh], [aMem, aTh], true⟩
def x_find : Sx := ⟨s_find, [], [], [], []⟩
def s_tie : Sg := ⟨[aMem, aTh], [aMem, aTh], true⟩
def x_tie : Sx := ⟨s_tie, [], [], [], []⟩
def s_load17 : Sg := ⟨[aMem, aTh, aInt], [aMem, aTh], true⟩
def x_load17 : Sx := ⟨s_load17, [], [], [], []⟩
def s_seek : Sg := ⟨[aMem, aInt, aTh], [aMem, aTh], true⟩
def x_seek : Sx := ⟨s_seek, [], [], [], []⟩
def s_step17 : Sg := ⟨[aMem, aInt, aTh], [aMem, aTh], true⟩
def x_step17 : Sx := ⟨s_step17, [], [], [], []⟩
def s_begin15 : Sg := ⟨[aTh, aOp], [aTh, aBool], true⟩
def x_begin15 : Sx := ⟨s_begin15, [], [], [], []⟩
def s_scan : Sg := ⟨[aMem, aTh], [aMem, aTh], false⟩
def x_scan : Sx := ⟨s_scan, [], [], [], []⟩
theorem c_ofres {ω : World} : FnOK Try.prog (lay ω) G 57 s_ofres :=
  @func_ok Try.prog (lay ω) els (tab [(64, s_ofop)]) G mix gok (tab_ok (all_cons c_ofop all_nil)) els_ok 57 _ _ s_ofres Try.func57 rfl rfl [] (by kernel_rfl) (fun _ _ => Nat.le_refl _) (fun _ _ => rfl)
theorem c_link {ω : World} : FnOK Try.prog (lay ω) G 52 s_link :=
  @func_ok Try.prog (lay ω) els (tab [(56, s_swap), (54, s_first), (53, s_load02), (55, s_store)]) G mix gok (tab_ok (all_cons c_swap (all_cons c_first (all_cons c_load02 (all_cons c_store all_nil))))) els_ok 52 _ _ s_link Try.func52 rfl rfl [] (by kernel_rfl) (fun _ _ => Nat.le_refl _) (fun _ _ => rfl)
theorem c_load16 {ω : World} : FnOK Try.prog (lay ω) G 72 s_load16 :=
  @func_ok Try.prog (lay ω) els (tab [(53, s_load02)]) G mix gok (tab_ok (all_cons c_load02 all_nil)) els_ok 72 _ _ s_load16 Try.func72 rfl rfl [] (by kernel_rfl) (fun _ _ => Nat.le_refl _) (fun _ _ => rfl)
theorem c_begin16 {ω : World} : FnOK Try.prog (lay ω) G 59 s_begin16 :=
  @func_ok Try.prog (lay ω) els (tab [(72, s_load16), (55, s_store), (73, s_many), (74, s_on)]) G mix gok (tab_ok (all_cons c_load16 (all_cons c_store (all_cons c_many (all_cons c_on all_nil))))) els_ok 59 _ _ s_begin16 Try.func59 rfl rfl [] (by kernel_rfl) (fun _ _ => Nat.le_refl _) (fun _ _ => rfl)
theorem c_find {ω : World} : FnOK Try.prog (lay ω) G 60 s_find :=
  @func_ok Try.prog (lay ω) els (tab [(75, s_base), (72, s_load16), (74, s_on), (56, s_swap)]) G mix gok (tab_ok (all_cons c_base (all_cons c_load16 (all_cons c_on (all_cons c_swap all_nil))))) els_ok 60 _ _ s_find Try.func60 rfl rfl [] (by kernel_rfl) (fun _ _ => Nat.le_refl _) (fun _ _ => rfl)
theorem c_tie {ω : World} : FnOK Try.prog (lay ω) G 61 s_tie :=
  @func_ok Try.prog (lay ω) els (tab [(72, s_load16), (55, s_store), (56, s_swap), (74, s_on)]) G mix gok (tab_ok (all_cons c_load16 (all_cons c_store (all_cons c_swap (all_cons c_on all_nil))))) els_ok 61 _ _ s_tie Try.func61 rfl rfl [] (by kernel_rfl) (fun _ _ => Nat.le_refl _) (fun _ _ => rfl)
theorem c_load17 {ω : World} : FnOK Try.prog (lay ω) G 68 s_load17 :=
  @func_ok Try.prog (lay ω) els (tab [(53, s_load02)]) G mix gok (tab_ok (all_cons c_load02 all_nil)) els_ok 68 _ _ s_load17 Try.func68 rfl rfl [] (by kernel_rfl) (fun _ _ => Nat.le_refl _) (fun _ _ => rfl)
theorem c_seek {ω : World} : FnOK Try.prog (lay ω) G 66 s_seek :=
  @func_ok Try.prog (lay ω) els (tab [(68, s_load17), (67, s_by)]) G mix gok (tab_ok (all_cons c_load17 (all_cons c_by all_nil))) els_ok 66 _ _ s_seek Try.func66 rfl rfl [] (by kernel_rfl) (fun _ _ => Nat.le_refl _) (fun _ _ => rfl)
theorem c_step17 {ω : World} : FnOK Try.prog (lay ω) G 47 s_step17 :=
  @func_ok Try.prog (lay ω) els (tab [(66, s_seek), (56, s_swap), (67, s_by), (68, s_load17), (55, s_store)]) G mix gok (tab_ok (all_cons c_seek (all_cons c_swap (all_cons c_by (all_cons c_load17 (all_cons c_store all_nil)))))) els_ok 47 _ _ s_step17 Try.func47 rfl rfl [] (by kernel_rfl) (fun _ _ => Nat.le_refl _) (fun _ _ => rfl)
theorem c_begin15 {ω : World} : FnOK Try.prog (lay ω) G 41 s_begin15 :=
  @func_ok Try.prog (lay ω) els (tab [(50, s_op)]) G mix gok (tab_ok (all_cons c_op all_nil)) els_ok 41 _ _ s_begin15 Try.func41 rfl rfl [] (by kernel_rfl) (fun _ _ => Nat.le_refl _) (fun _ _ => rfl)
theorem c_scan {ω : World} : FnOK Try.prog (lay ω) G 62 s_scan :=
  @func_ok Try.prog (lay ω) els (tab [(72, s_load16)]) G mix gok (tab_ok (all_cons c_load16 all_nil)) els_ok 62 _ _ s_scan Try.func62 rfl rfl [.add 122 1] (by kernel_rfl) (fun _ _ => Nat.le_refl _) (fun h => by cases h)
end Go.Proofs.Ytmcnccfbligeaaa
