/-
  With facts.
-/
import Derived.Test.YtmcnccfbligeaaaTgB
import Derived.Test.YtmcnccfbligeaaaTgE
import Derived.Test.YtmcnccfbligeaaaTgU
namespace Go.Proofs.Ytmcnccfbligeaaa
open Go.RowKit Go.Rp Go.Tz

def s_tell : Sg := ⟨[aMem, aInt, aTh], [aMem, aTh], true⟩
def x_tell : Sx := ⟨s_tell, [], [], [], []⟩
theorem d_tell {ω : World} : FnX Try.prog (lay ω) G 63 x_tell :=
  @funcX_ok Try.prog (lay ω) els (tab [(55, s_store)]) (tabX []) (invs [(5005, ⟨[], [], .c 1, .c 0⟩), (5012, ⟨[], [], .c 0, .c 0⟩), (5015, ⟨[], [], .c 0, .c 0⟩)]) G mix gok (tab_ok (all_cons c_store all_nil)) (tabX_ok all_nil) els_ok 63 _ _ x_tell Try.func63 rfl rfl [] (by kernel_rfl) (fun _ _ => Nat.le_refl _) (fun _ _ => rfl) (by decide)
theorem c_tell {ω : World} : FnOK Try.prog (lay ω) G 63 s_tell := d_tell.plain rfl
end Go.Proofs.Ytmcnccfbligeaaa
/-
  A batch.
-/
namespace Go.Proofs.Ytmcnccfbligeaaa
open Go.RowKit Go.Rp Go.Tz

def s_do16 : Sg := ⟨[aObj, aTh], [aObj, aTh], true⟩
def x_do16 : Sx := ⟨s_do16, [], [], [], []⟩
theorem d_do16 {ω : World} : FnX Try.prog (lay ω) G 58 x_do16 :=
  @funcX_ok Try.prog (lay ω) els (tab [(64, s_ofop), (71, s_res)]) (tabX [(70, x_do12)]) (invs [(3, ⟨[(6, .slf 26), (7, aInt)], [.le (.c 0) (.val (.t 7)) 0, .le (.val (.t 7)) (.len (.f 1 12)) 0, .le (.len (.t 6)) (.val (.t 7)) 0, .le (.val (.t 7)) (.len (.t 6)) 0, .aps 6 3, .cell (.f 1 12) 3 12], .val (.t 7), .len (.f 1 12)⟩), (10, ⟨[(12, .slf 122), (13, aInt)], [.le (.c 0) (.val (.t 13)) 0, .le (.val (.t 13)) (.len (.f 1 12)) 0, .le (.len (.t 12)) (.val (.t 13)) 0, .aps 12 3, .cell (.f 1 12) 3 12], .val (.t 13), .len (.f 1 12)⟩), (5003, ⟨[], [.aps 6 3, .le (.val (.t 7)) (.c 0) 0, .le (.c 0) (.val (.t 7)) 0, .le (.len (.t 6)) (.c 0) 0, .root 3 3 0, .cell (.f 1 12) 3 12], .c 1, .c 0⟩), (5010, ⟨[], [.aps 12 3, .le (.val (.t 13)) (.c 0) 0, .le (.c 0) (.val (.t 13)) 0, .le (.len (.t 12)) (.c 0) 0, .le (.len (.t 11)) (.len (.f 1 12)) 0, .le (.len (.f 1 12)) (.len (.t 11)) 0, .root 3 3 0, .cell (.f 1 12) 3 12], .c 1, .c 0⟩)]) G mix gok (tab_ok (all_cons c_ofop (all_cons c_res all_nil))) (tabX_ok (all_cons d_do12 all_nil)) els_ok 58 _ _ x_do16 Try.func58 rfl rfl [] (by kernel_rfl) (fun _ _ => Nat.le_refl _) (fun _ _ => rfl) (by decide)
theorem c_do16 {ω : World} : FnOK Try.prog (lay ω) G 58 s_do16 := d_do16.plain rfl
end Go.Proofs.Ytmcnccfbligeaaa
/-
  A step of who serves.
-/
namespace Go.Proofs.Ytmcnccfbligeaaa
open Go.RowKit Go.Rp Go.Tz

def s_step16 : Sg := ⟨[aMem, aObj, aInt, aTh], [aMem, aObj, aTh, aSl 122], false⟩
def x_step16 : Sx := ⟨s_step16, [], [], [], []⟩
theorem c_step16 {ω : World} : FnOK Try.prog (lay ω) G 45 s_step16 :=
  @func_ok Try.prog (lay ω) els (tab [(58, s_do16), (59, s_begin16), (60, s_find), (61, s_tie), (62, s_scan), (63, s_tell)]) G mix gok (tab_ok (all_cons c_do16 (all_cons c_begin16 (all_cons c_find (all_cons c_tie (all_cons c_scan (all_cons c_tell all_nil))))))) els_ok 45 _ _ s_step16 Try.func45 rfl rfl [.fn 62] (by kernel_rfl) (fun _ _ => Nat.le_refl _) (fun h => by cases h)
end Go.Proofs.Ytmcnccfbligeaaa
