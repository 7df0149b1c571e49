/-
  With facts.
-/
import Derived.Test.YtmcnccfbligeaaaTgB
namespace Go.Proofs.Ytmcnccfbligeaaa
open Go.RowKit Go.Rp Go.Tz

def s_event : Sg := ⟨[aWorld, aEv], [aWorld], false⟩
def x_event : Sx := ⟨s_event, [], [], [], []⟩
def s_with : Sg := ⟨[aWorld, aInt, aTh], [aWorld], true⟩
def x_with : Sx := ⟨s_with, [(.k 0, .av 1, 0), (.av 1, .af 0 13, -1)], [(none, .of_ 0 13, .af 0 13, 0), (none, .af 0 13, .of_ 0 13, 0)], [], []⟩
def s_toss : Sg := ⟨[aSb 4 20000], [aSb 4 20000, aBool], true⟩
def x_toss : Sx := ⟨s_toss, [], [], [], []⟩
theorem d_event {ω : World} : FnX Try.prog (lay ω) G 43 x_event :=
  @funcX_ok Try.prog (lay ω) els (tab []) (tabX []) (invs []) G mix gok (tab_ok all_nil) (tabX_ok all_nil) els_ok 43 _ _ x_event Try.func43 rfl rfl [.add 76 1] (by kernel_rfl) (fun _ _ => Nat.le_refl _) (fun h => by cases h) (by decide)
theorem c_event {ω : World} : FnOK Try.prog (lay ω) G 43 s_event := d_event.plain rfl
theorem d_with {ω : World} : FnX Try.prog (lay ω) G 42 x_with :=
  @funcX_ok Try.prog (lay ω) els (tab []) (tabX []) (invs []) G mix gok (tab_ok all_nil) (tabX_ok all_nil) els_ok 42 _ _ x_with Try.func42 rfl rfl [] (by kernel_rfl) (fun _ _ => Nat.le_refl _) (fun _ _ => rfl) (by decide)
theorem d_toss {ω : World} : FnX Try.prog (lay ω) G 84 x_toss :=
  @funcX_ok Try.prog (lay ω) els (tab []) (tabX []) (invs []) G mix gok (tab_ok all_nil) (tabX_ok all_nil) els_ok 84 _ _ x_toss Try.func84 rfl rfl [] (by kernel_rfl) (fun _ _ => Nat.le_refl _) (fun _ _ => rfl) (by decide)
theorem c_toss {ω : World} : FnOK Try.prog (lay ω) G 84 s_toss := d_toss.plain rfl
end Go.Proofs.Ytmcnccfbligeaaa
/-
  Loops.
-/
namespace Go.Proofs.Ytmcnccfbligeaaa
open Go.RowKit Go.Rp Go.Tz

def s_height : Sg := ⟨[aSb 4 20000], [aSb 4 20000, aInt], true⟩
def x_height : Sx := ⟨s_height, [], [], [], []⟩
theorem d_height {ω : World} : FnX Try.prog (lay ω) G 81 x_height :=
  @funcX_ok Try.prog (lay ω) els (tab [(84, s_toss)]) (tabX []) (invs [(2, ⟨[(0, aSb 4 20000), (4, aInt)], [.le (.c 0) (.val (.t 4)) 0, .le (.val (.t 4)) (.c 8) 0], .val (.t 4), .c 8⟩)]) G mix gok (tab_ok (all_cons c_toss all_nil)) (tabX_ok all_nil) els_ok 81 _ _ x_height Try.func81 rfl rfl [] (by kernel_rfl) (fun _ _ => Nat.le_refl _) (fun _ _ => rfl) (by decide)
theorem c_height {ω : World} : FnOK Try.prog (lay ω) G 81 s_height := d_height.plain rfl
end Go.Proofs.Ytmcnccfbligeaaa
/-
  With facts.
-/
namespace Go.Proofs.Ytmcnccfbligeaaa
open Go.RowKit Go.Rp Go.Tz

def s_do04 : Sg := ⟨[aInt, aSb 21 1000, aOp], [aSb 21 1000, aOp], true⟩
def x_do04 : Sx := ⟨s_do04, [], [], [], []⟩
theorem d_do04 {ω : World} : FnX Try.prog (lay ω) G 85 x_do04 :=
  @funcX_ok Try.prog (lay ω) els (tab [(80, s_most)]) (tabX []) (invs []) G mix gok (tab_ok (all_cons c_most all_nil)) (tabX_ok all_nil) els_ok 85 _ _ x_do04 Try.func85 rfl rfl [] (by kernel_rfl) (fun _ _ => Nat.le_refl _) (fun _ _ => rfl) (by decide)
theorem c_do04 {ω : World} : FnOK Try.prog (lay ω) G 85 s_do04 := d_do04.plain rfl
end Go.Proofs.Ytmcnccfbligeaaa
/-
  With facts.
-/
namespace Go.Proofs.Ytmcnccfbligeaaa
open Go.RowKit Go.Rp Go.Tz

def s_do05 : Sg := ⟨[aInt, aSb 21 1000, aOp], [aSb 21 1000, aOp], true⟩
def x_do05 : Sx := ⟨s_do05, [], [], [], []⟩
theorem d_do05 {ω : World} : FnX Try.prog (lay ω) G 86 x_do05 :=
  @funcX_ok Try.prog (lay ω) els (tab [(80, s_most)]) (tabX []) (invs []) G mix gok (tab_ok (all_cons c_most all_nil)) (tabX_ok all_nil) els_ok 86 _ _ x_do05 Try.func86 rfl rfl [] (by kernel_rfl) (fun _ _ => Nat.le_refl _) (fun _ _ => rfl) (by decide)
theorem c_do05 {ω : World} : FnOK Try.prog (lay ω) G 86 s_do05 := d_do05.plain rfl
end Go.Proofs.Ytmcnccfbligeaaa
/-
  Loops.
-/
namespace Go.Proofs.Ytmcnccfbligeaaa
open Go.RowKit Go.Rp Go.Tz

def s_heap : Sg := ⟨[aInt, aSb 21 1000, aOp], [aSb 21 1000, aOp], true⟩
def x_heap : Sx := ⟨s_heap, [], [], [], []⟩
theorem d_heap {ω : World} : FnX Try.prog (lay ω) G 87 x_heap :=
  @funcX_ok Try.prog (lay ω) els (tab [(80, s_most)]) (tabX []) (invs [(5, ⟨[(8, aInt)], [.le (.c 0) (.val (.t 8)) 0, .le (.val (.t 8)) (.len (.t 1)) 0], .val (.t 8), .len (.t 1)⟩), (5005, ⟨[], [.le (.val (.t 8)) (.c 0) 0, .le (.c 0) (.val (.t 8)) 0, .le (.len (.t 1)) (.c 999) 0], .c 1, .c 0⟩), (5007, ⟨[], [.le (.c 0) (.val (.t 8)) 0, .le (.val (.t 8)) (.len (.t 1)) 0, .le (.len (.t 1)) (.c 999) 0], .c 1, .c 0⟩)]) G mix gok (tab_ok (all_cons c_most all_nil)) (tabX_ok all_nil) els_ok 87 _ _ x_heap Try.func87 rfl rfl [] (by kernel_rfl) (fun _ _ => Nat.le_refl _) (fun _ _ => rfl) (by decide)
theorem c_heap {ω : World} : FnOK Try.prog (lay ω) G 87 s_heap := d_heap.plain rfl
end Go.Proofs.Ytmcnccfbligeaaa
/-
  Loops.
-/
namespace Go.Proofs.Ytmcnccfbligeaaa
open Go.RowKit Go.Rp Go.Tz

def s_feed06 : Sg := ⟨[aSb 4 20000, aSb 5 1], [aSb 4 20000], true⟩
def x_feed06 : Sx := ⟨s_feed06, [], [], [], []⟩
theorem d_feed06 {ω : World} : FnX Try.prog (lay ω) G 48 x_feed06 :=
  @funcX_ok Try.prog (lay ω) els (tab []) (tabX []) (invs [(4, ⟨[(5, .slf 4), (6, aInt)], [.le (.c 0) (.val (.t 6)) 0, .le (.val (.t 6)) (.len (.t 1)) 0, .le (.len (.t 5)) (.c 20000) 0], .val (.t 6), .len (.t 1)⟩), (7, ⟨[(5, .slf 4), (7, aInt)], [.le (.c 0) (.val (.t 7)) 0, .le (.val (.t 7)) (.c 8) 0, .le (.len (.t 5)) (.c 20000) 0], .val (.t 7), .c 8⟩)]) G mix gok (tab_ok all_nil) (tabX_ok all_nil) els_ok 48 _ _ x_feed06 Try.func48 rfl rfl [] (by kernel_rfl) (fun _ _ => Nat.le_refl _) (fun _ _ => rfl) (by decide)
theorem c_feed06 {ω : World} : FnOK Try.prog (lay ω) G 48 s_feed06 := d_feed06.plain rfl
end Go.Proofs.Ytmcnccfbligeaaa
/-
  Loops.
-/
namespace Go.Proofs.Ytmcnccfbligeaaa
open Go.RowKit Go.Rp Go.Tz

def s_vals : Sg := ⟨[aSb 144 1000], [aSb 21 1000], true⟩
def x_vals : Sx := ⟨s_vals, [], [], [], []⟩
theorem d_vals {ω : World} : FnX Try.prog (lay ω) G 79 x_vals :=
  @funcX_ok Try.prog (lay ω) els (tab []) (tabX []) (invs [(3, ⟨[(3, .slf 21), (4, aInt)], [.le (.c 0) (.val (.t 4)) 0, .le (.len (.t 3)) (.val (.t 4)) 0, .le (.val (.t 4)) (.len (.t 0)) 0], .val (.t 4), .len (.t 0)⟩)]) G mix gok (tab_ok all_nil) (tabX_ok all_nil) els_ok 79 _ _ x_vals Try.func79 rfl rfl [] (by kernel_rfl) (fun _ _ => Nat.le_refl _) (fun _ _ => rfl) (by decide)
theorem c_vals {ω : World} : FnOK Try.prog (lay ω) G 79 s_vals := d_vals.plain rfl
end Go.Proofs.Ytmcnccfbligeaaa
/-
  Calls.
-/
namespace Go.Proofs.Ytmcnccfbligeaaa
open Go.RowKit Go.Rp Go.Tz

def s_apply08 : Sg := ⟨[aU8, aInt, aSb 21 1000, aOp], [aSb 21 1000, aOp], true⟩
def x_apply08 : Sx := ⟨s_apply08, [], [], [], []⟩
def s_feed12 : Sg := ⟨[aObj, aSb 5 1], [aObj], true⟩
def x_feed12 : Sx := ⟨s_feed12, [], [], [], []⟩
theorem c_apply08 {ω : World} : FnOK Try.prog (lay ω) G 83 s_apply08 :=
  @func_ok Try.prog (lay ω) els (tab [(85, s_do04), (86, s_do05), (87, s_heap)]) G mix gok (tab_ok (all_cons c_do04 (all_cons c_do05 (all_cons c_heap all_nil)))) els_ok 83 _ _ s_apply08 Try.func83 rfl rfl [] (by kernel_rfl) (fun _ _ => Nat.le_refl _) (fun _ _ => rfl)
theorem c_feed12 {ω : World} : FnOK Try.prog (lay ω) G 38 s_feed12 :=
  @func_ok Try.prog (lay ω) els (tab [(48, s_feed06)]) G mix gok (tab_ok (all_cons c_feed06 all_nil)) els_ok 38 _ _ s_feed12 Try.func38 rfl rfl [] (by kernel_rfl) (fun _ _ => Nat.le_refl _) (fun _ _ => rfl)
end Go.Proofs.Ytmcnccfbligeaaa
