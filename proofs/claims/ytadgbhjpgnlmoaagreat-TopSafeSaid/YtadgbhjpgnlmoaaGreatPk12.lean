/- TopSafe, a part of its proof; no conditions. -/
import Derived.Test.YtadgbhjpgnlmoaaGreatPk10
set_option linter.all false
namespace Go.Proofs.YtadgbhjpgnlmoaaGreat
open Go.RowKit Go.Rp Go.Sf
def thv (id:Int) (t:Th) (A:Option Addr) (n c:Nat):Value:=
 .agg #[Iv id,Iv t.pc,Iv t.rc,Iv t.seq,Iv t.word,Iv t.look,Iv t.cur,Iv t.prev,Iv t.nth,Iv t.many,Iv t.pass,Iv t.runs,.slice A n c]
theorem asks_t (w:World) (id:Int) (t:Th) (A:Option Addr) (n c:Nat):Calls Tryz.prog 82 #[thv id t A n c] w fun e w'=>e=.returned (.bool (decide (1≤t.pc∧t.pc≤16)))∧Below w.heap.size w w':=by
 unfold thv
 by_cases h1:1≤t.pc
 ·by_cases h2:t.pc≤16
  ·have e:decide (1≤t.pc∧t.pc≤16)=true:=by simp [h1,h2]
   rw [e];go_enter Tryz.func82,Tryz.ntmps82;go_wp2;go_ret;exact⟨rfl,(Below.refl _ _).alloc (Nat.le_refl _) _⟩
  ·have e:decide (1≤t.pc∧t.pc≤16)=false:=by simp [h2]
   rw [e];go_enter Tryz.func82,Tryz.ntmps82;go_wp2;go_ret;exact⟨rfl,(Below.refl _ _).alloc (Nat.le_refl _) _⟩
 ·have e:decide (1≤t.pc∧t.pc≤16)=false:=by simp [h1]
  rw [e];go_enter Tryz.func82,Tryz.ntmps82;go_wp2;go_ret;exact⟨rfl,(Below.refl _ _).alloc (Nat.le_refl _) _⟩
abbrev mth (X:Nat) (f:FuncId):Value:=.func (.func f) #[Pz X] #[]
def pl (X:Nat):Value:=.agg #[.nilFunc,mth X 128,mth X 129,mth X 130,mth X 131,mth X 132,mth X 133,mth X 134,mth X 135,mth X 136,mth X 137,mth X 138,mth X 139,mth X 140,mth X 141,mth X 142,mth X 143]
theorem places_any (w:World) (X:Nat):Calls Tryz.prog 116 #[Pz X] w fun e w'=>e=.returned (pl X)∧Below w.heap.size w w':=by
 go_enter Tryz.func116,Tryz.ntmps116;go_wp2
 go_returns
 exact⟨rfl,(Below.refl _ _).alloc (Nat.le_refl _) _⟩
end Go.Proofs.YtadgbhjpgnlmoaaGreat
