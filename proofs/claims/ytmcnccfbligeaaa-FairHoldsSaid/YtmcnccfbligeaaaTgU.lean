/-
  Loops.
-/
import Derived.Test.YtmcnccfbligeaaaTgB
import Derived.Test.YtmcnccfbligeaaaTgQ
namespace Go.Proofs.Ytmcnccfbligeaaa
open Go.RowKit Go.Rp Go.Tz

def s_insert : Sg := ⟨[aInt, aSb 144 1000, .val false [i32T], aInt], [aSb 144 1000, aBool], true⟩
def x_insert : Sx := ⟨s_insert, [], [], [], []⟩
theorem d_insert {ω : World} : FnX Try.prog (lay ω) G 82 x_insert :=
  @funcX_ok Try.prog (lay ω) els (tab [(80, s_most)]) (tabX []) (invs [(4, ⟨[(10, aInt)], [.le (.c 0) (.val (.t 10)) 0, .le (.val (.t 10)) (.len (.t 1)) 0], .val (.t 10), .len (.t 1)⟩)]) G mix gok (tab_ok (all_cons c_most all_nil)) (tabX_ok all_nil) els_ok 82 _ _ x_insert Try.func82 rfl rfl [] (by kernel_rfl) (fun _ _ => Nat.le_refl _) (fun _ _ => rfl) (by decide)
theorem c_insert {ω : World} : FnOK Try.prog (lay ω) G 82 s_insert := d_insert.plain rfl
end Go.Proofs.Ytmcnccfbligeaaa
/-
  The order.
-/
namespace Go.Proofs.Ytmcnccfbligeaaa
open Go.RowKit Go.Rp Go.Tz

def s_order : Sg := ⟨[aU8, aSb 26 68719476736], [.slf 3], true⟩
def x_order : Sx := ⟨s_order, [], [(none, .ol 0, .al 1, 0), (none, .al 1, .ol 0, 0)], [], [(.al 1, -1)]⟩
theorem d_order {ω : World} : FnX Try.prog (lay ω) G 65 x_order :=
  @funcX_ok Try.prog (lay ω) els (tab [(76, s_less)]) (tabX []) (invs [(3, ⟨[(5, .slf 3), (6, aInt)], [.le (.c 0) (.val (.t 6)) 0, .le (.val (.t 6)) (.len (.t 1)) 0, .le (.len (.t 5)) (.val (.t 6)) 0, .le (.val (.t 6)) (.len (.t 5)) 0, .elts (.t 5) (.gh 2001) (-1)], .val (.t 6), .len (.t 1)⟩), (6, ⟨[(7, aInt)], [.le (.c 0) (.val (.t 7)) 0, .le (.val (.t 7)) (.len (.t 5)) 0, .elts (.t 5) (.gh 2001) (-1)], .c 0, .val (.t 7)⟩), (5003, ⟨[], [.le (.val (.t 6)) (.c 0) 0, .le (.c 0) (.val (.t 6)) 0, .le (.len (.t 5)) (.c 0) 0, .le (.len (.t 1)) (.c 68719476736) 0, .le (.len (.t 1)) (.gh 2001) 0, .le (.gh 2001) (.len (.t 1)) 0], .c 1, .c 0⟩), (5006, ⟨[], [.le (.c 0) (.val (.t 6)) 0, .le (.val (.t 6)) (.len (.t 1)) (-1), .le (.val (.t 7)) (.len (.t 5)) 0, .le (.len (.t 5)) (.val (.t 7)) 0, .le (.len (.t 5)) (.val (.t 6)) 0, .le (.val (.t 6)) (.len (.t 5)) 0, .elts (.t 5) (.gh 2001) (-1), .le (.len (.t 1)) (.c 68719476736) 0, .le (.len (.t 1)) (.gh 2001) 0, .le (.gh 2001) (.len (.t 1)) 0, .le (.gh 7) (.val (.t 6)) 0, .le (.val (.t 6)) (.gh 7) 0, .le (.len (.t 1)) (.gh 6) 0, .le (.gh 6) (.len (.t 1)) 0], .c 1, .c 0⟩), (5008, ⟨[], [.le (.c 0) (.val (.t 6)) 0, .le (.val (.t 6)) (.len (.t 1)) (-1), .le (.c 0) (.val (.t 7)) 0, .le (.val (.t 7)) (.len (.t 5)) 0, .le (.len (.t 5)) (.val (.t 6)) 0, .le (.val (.t 6)) (.len (.t 5)) 0, .elts (.t 5) (.gh 2001) (-1), .le (.len (.t 1)) (.c 68719476736) 0, .le (.len (.t 1)) (.gh 2001) 0, .le (.gh 2001) (.len (.t 1)) 0, .le (.gh 7) (.val (.t 6)) 0, .le (.val (.t 6)) (.gh 7) 0, .le (.len (.t 1)) (.gh 6) 0, .le (.gh 6) (.len (.t 1)) 0], .c 1, .c 0⟩)]) G mix gok (tab_ok (all_cons c_less all_nil)) (tabX_ok all_nil) els_ok 65 _ _ x_order Try.func65 rfl rfl [] (by kernel_rfl) (fun _ _ => Nat.le_refl _) (fun _ _ => rfl) (by decide)
theorem c_order {ω : World} : FnOK Try.prog (lay ω) G 65 s_order := d_order.plain rfl
end Go.Proofs.Ytmcnccfbligeaaa
/-
  A batch.
-/
namespace Go.Proofs.Ytmcnccfbligeaaa
open Go.RowKit Go.Rp Go.Tz

def s_batch : Sg := ⟨[aU8, aInt, aSb 21 1000, aSb 26 68719476736], [aSb 21 1000, .slf 28], true⟩
def x_batch : Sx := ⟨s_batch, [], [(none, .ol 1, .al 3, 0), (none, .al 3, .ol 1, 0)], [], []⟩
theorem d_batch {ω : World} : FnX Try.prog (lay ω) G 78 x_batch :=
  @funcX_ok Try.prog (lay ω) els (tab [(83, s_apply08)]) (tabX [(65, x_order)]) (invs [(4, ⟨[(2, aSb 21 1000), (12, aInt)], [.le (.c 0) (.val (.t 12)) 0, .le (.val (.t 12)) (.len (.t 11)) 0, .elts (.t 11) (.len (.t 3)) (-1)], .val (.t 12), .len (.t 11)⟩), (5004, ⟨[], [.le (.val (.t 12)) (.c 0) 0, .le (.c 0) (.val (.t 12)) 0, .elts (.t 11) (.len (.t 3)) (-1), .le (.len (.t 3)) (.c 68719476736) 0, .le (.len (.t 3)) (.gh 2003) 0, .le (.gh 2003) (.len (.t 3)) 0, .le (.len (.t 10)) (.len (.t 3)) 0, .le (.len (.t 3)) (.len (.t 10)) 0, .le (.len (.t 11)) (.len (.t 3)) 0, .apx 10 11], .c 1, .c 0⟩)]) G mix gok (tab_ok (all_cons c_apply08 all_nil)) (tabX_ok (all_cons d_order all_nil)) els_ok 78 _ _ x_batch Try.func78 rfl rfl [] (by kernel_rfl) (fun _ _ => Nat.le_refl _) (fun _ _ => rfl) (by decide)
theorem c_batch {ω : World} : FnOK Try.prog (lay ω) G 78 s_batch := d_batch.plain rfl
end Go.Proofs.Ytmcnccfbligeaaa
/-
  A batch of a heap.
-/
namespace Go.Proofs.Ytmcnccfbligeaaa
open Go.RowKit Go.Rp Go.Tz

def s_apply11 : Sg := ⟨[aInt, aSb 144 1000, aSb 4 20000, aSb 26 68719476736], [aSb 144 1000, aSb 4 20000, .slf 28], true⟩
def x_apply11 : Sx := ⟨s_apply11, [], [(none, .ol 2, .al 3, 0), (none, .al 3, .ol 2, 0)], [], []⟩
theorem d_apply11 {ω : World} : FnX Try.prog (lay ω) G 77 x_apply11 :=
  @funcX_ok Try.prog (lay ω) els (tab [(80, s_most), (81, s_height), (82, s_insert)]) (tabX [(65, x_order)]) (invs [(4, ⟨[(1, aSb 144 1000), (2, aSb 4 20000), (13, aInt)], [.le (.c 0) (.val (.t 13)) 0, .le (.val (.t 13)) (.len (.t 12)) 0, .elts (.t 12) (.len (.t 3)) (-1)], .val (.t 13), .len (.t 12)⟩), (5004, ⟨[], [.le (.val (.t 13)) (.c 0) 0, .le (.c 0) (.val (.t 13)) 0, .elts (.t 12) (.len (.t 3)) (-1), .le (.len (.t 3)) (.c 68719476736) 0, .le (.len (.t 3)) (.gh 2003) 0, .le (.gh 2003) (.len (.t 3)) 0, .le (.len (.t 11)) (.len (.t 3)) 0, .le (.len (.t 3)) (.len (.t 11)) 0, .le (.len (.t 12)) (.len (.t 3)) 0, .apx 11 12], .c 1, .c 0⟩), (5008, ⟨[], [.root 14 14 0, .root 15 15 0, .aps 12 15, .apart 15 14, .elts (.t 12) (.len (.t 3)) (-1), .le (.len (.t 3)) (.c 68719476736) 0, .le (.len (.t 3)) (.gh 2003) 0, .le (.gh 2003) (.len (.t 3)) 0, .le (.len (.t 11)) (.len (.t 3)) 0, .le (.len (.t 3)) (.len (.t 11)) 0, .le (.len (.t 12)) (.len (.t 3)) 0, .apx 11 12, .le (.gh 9) (.val (.t 13)) 0, .le (.val (.t 13)) (.gh 9) 0, .le (.len (.t 12)) (.gh 8) 0, .le (.gh 8) (.len (.t 12)) 0, .le (.c 0) (.val (.t 13)) 0, .le (.val (.t 13)) (.len (.t 12)) (-1)], .c 1, .c 0⟩), (5021, ⟨[], [.elts (.t 12) (.len (.t 3)) (-1), .le (.len (.t 3)) (.c 68719476736) 0, .le (.len (.t 3)) (.gh 2003) 0, .le (.gh 2003) (.len (.t 3)) 0, .le (.len (.t 11)) (.len (.t 3)) 0, .le (.len (.t 3)) (.len (.t 11)) 0, .le (.len (.t 12)) (.len (.t 3)) 0, .apx 11 12, .le (.gh 9) (.val (.t 13)) 0, .le (.val (.t 13)) (.gh 9) 0, .le (.len (.t 12)) (.gh 8) 0, .le (.gh 8) (.len (.t 12)) 0, .le (.c 0) (.val (.t 13)) 0, .le (.val (.t 13)) (.len (.t 12)) (-1)], .c 1, .c 0⟩)]) G mix gok (tab_ok (all_cons c_most (all_cons c_height (all_cons c_insert all_nil)))) (tabX_ok (all_cons d_order all_nil)) els_ok 77 _ _ x_apply11 Try.func77 rfl rfl [] (by kernel_rfl) (fun _ _ => Nat.le_refl _) (fun _ _ => rfl) (by decide)
theorem c_apply11 {ω : World} : FnOK Try.prog (lay ω) G 77 s_apply11 := d_apply11.plain rfl
end Go.Proofs.Ytmcnccfbligeaaa
/-
  An object.
-/
namespace Go.Proofs.Ytmcnccfbligeaaa
open Go.RowKit Go.Rp Go.Tz

def s_do12 : Sg := ⟨[aObj, aSb 26 68719476736], [aObj, .slf 28], true⟩
def x_do12 : Sx := ⟨s_do12, [], [(none, .ol 1, .al 1, 0), (none, .al 1, .ol 1, 0)], [], []⟩
theorem d_do12 {ω : World} : FnX Try.prog (lay ω) G 70 x_do12 :=
  @funcX_ok Try.prog (lay ω) els (tab [(79, s_vals)]) (tabX [(78, x_batch), (77, x_apply11)]) (invs [(9, ⟨[(11, .slf 144), (12, aInt)], [.le (.c 0) (.val (.t 12)) 0, .le (.val (.t 12)) (.len (.t 9)) 0, .le (.len (.t 11)) (.val (.t 12)) 0], .val (.t 12), .len (.t 9)⟩), (5001, ⟨[], [.le (.len (.t 1)) (.gh 2001) 0, .le (.gh 2001) (.len (.t 1)) 0], .c 1, .c 0⟩), (5009, ⟨[], [.le (.c 0) (.val (.t 12)) 0, .le (.val (.t 12)) (.c 0) 0, .le (.len (.t 11)) (.c 0) 0, .le (.len (.t 9)) (.c 1000) 0, .le (.len (.t 10)) (.gh 2001) 0, .le (.gh 2001) (.len (.t 10)) 0], .c 1, .c 0⟩), (5012, ⟨[], [.le (.len (.t 11)) (.c 1000) 0, .le (.len (.t 10)) (.gh 2001) 0, .le (.gh 2001) (.len (.t 10)) 0], .c 1, .c 0⟩)]) G mix gok (tab_ok (all_cons c_vals all_nil)) (tabX_ok (all_cons d_batch (all_cons d_apply11 all_nil))) els_ok 70 _ _ x_do12 Try.func70 rfl rfl [] (by kernel_rfl) (fun _ _ => Nat.le_refl _) (fun _ _ => rfl) (by decide)
theorem c_do12 {ω : World} : FnOK Try.prog (lay ω) G 70 s_do12 := d_do12.plain rfl
end Go.Proofs.Ytmcnccfbligeaaa
