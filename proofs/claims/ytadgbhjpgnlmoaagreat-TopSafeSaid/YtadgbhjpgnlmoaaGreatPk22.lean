/- TopSafe, a part of its proof; no conditions. -/
import Derived.Test.YtadgbhjpgnlmoaaGreatPk13
set_option linter.all false
namespace Go.Proofs.YtadgbhjpgnlmoaaGreat
open Go.RowKit Go.Rp
set_option maxRecDepth 100000
def lateI (k:Int):Int:=if k=1 then 0 else 1
theorem late_any (w:World) (k v:Int):Calls Tryz.prog 166 #[.agg #[Ub k,Iw v]] w fun e w'=>e=.returned (Iv (lateI k))∧Below w.heap.size w w':=by
 by_cases hk:k=1
 ·subst hk;go_enter Tryz.func166,Tryz.ntmps166;go_wp2;go_ret;exact⟨rfl,(Below.refl _ _).alloc (Nat.le_refl _) _⟩
 ·have hd:(k==1)=false:=by simp [hk]
  have HK:=Lib.hid (show lateI k=1 by unfold lateI;rw [if_neg hk]);clear hk;go_enter Tryz.func166,Tryz.ntmps166;go_wp2;go_ret;exact⟨by rw [HK.out];rfl,(Below.refl _ _).alloc (Nat.le_refl _) _⟩
theorem cmp2_cf (args:Array Value) (w:World):(callFunc 168 args).run Tryz.prog w=.ok (.enter 168 args) w:=by kernel_rfl
def kOf (ops:List (Int×Int)) (k:Nat):Int:=(ops[k]?.map Prod.fst).getD 0
theorem keep5 {w w':World} {a b d e f:Addr} {u v x y z:Value} (h:w.cell? a=some u∧w.cell? b=some v∧w.cell? d=some x∧w.cell? e=some y∧w.cell? f=some z) (hb:Below w.heap.size w w'):
  w'.cell? a=some u∧w'.cell? b=some v∧w'.cell? d=some x∧w'.cell? e=some y∧w'.cell? f=some z:=by
 have k:∀ {a:Addr} {u:Value},w.cell? a=some u→w'.cell? a=some u:=fun {a u} h=>(hb.cell (World.block_lt_of_cell? w _ h)).trans h;exact⟨k h.1,k h.2.1,k h.2.2.1,k h.2.2.2.1,k h.2.2.2.2⟩
theorem _root_.Go.RowKit.Below.next {w W w2:World} (h:Below w.heap.size w W) (h2:Below W.drew.heap.size W.drew w2):Below w.heap.size w w2:=(h.drew).trans (h2.mono h.drew.size)
theorem _root_.Go.RowKit.Below.then {w W w2:World} (h:Below w.heap.size w W) (h2:Below W.heap.size W w2):Below w.heap.size w w2:=h.trans (h2.mono h.size)
section
variable {B n c:Nat} {w:World} {L:List Res} {ops:List (Int×Int)} {A:Option Addr}
set_option maxHeartbeats 2000000 in
theorem cmp2_s {pb fb i j:Nat} (hB:B≤w.heap.size) (hn:ops.length=n) (hi:i<n) (hj:j<n) (hk:w.cell? ⟨pb,0,none⟩=some (.slice A n c)) (hl:w.cell? ⟨fb,0,none⟩=some (.func (.func 166) #[] #[])) (h:At B w (opsO A n c ops::L)):
  Calls Tryz.prog 168 #[Iv (i:Int),Iv (j:Int),Pz pb,Pz fb] w fun e w'=>e=.returned (Iv (if lateI (kOf ops i)+lateI (kOf ops j)=0 then cmpI (vOf ops i) (vOf ops j) else lateI (kOf ops i)-lateI (kOf ops j)))∧Below w.heap.size w w':=by
 have hs:Sl w 45 2 A n c (ops.flatMap opIn) (fun x=>B≤x):=h.get;obtain⟨g,off,rfl,hg,-,-,hc⟩:=hs.at (by omega);obtain⟨k1,p1,p2,p3,-⟩:=op_cells ops i (by omega);obtain⟨k2,q1,q2,q3,-⟩:=op_cells ops j (by omega);have e1:kOf ops i=k1:=by rw [p3];simp [kOf,show i<ops.length by omega]
 have e2:kOf ops j=k2:=by rw [q3];simp [kOf,show j<ops.length by omega]
 rw [e1,e2];have i1:=hc _ _ p1;have i2:=hc _ _ p2;have j1:=hc _ _ q1;have j2:=hc _ _ q2;rw [← Nat.add_assoc] at i2 j2;have a1:(0:Int)≤(i:Int):=by omega
 have a2:(i:Int)<(n:Int):=by omega
 have a3:(0:Int)≤(j:Int):=by omega
 have a4:(j:Int)<(n:Int):=by omega
 generalize vOf ops i=x at*;generalize vOf ops j=y at*;have hcx:=fun w=>compare_any w x y;have hlx:=fun w=>late_any w k1 x;have hly:=fun w=>late_any w k2 y;generalize hcr:cmpI x y=r at*;have hl1:lateI k1=0∨lateI k1=1:=by unfold lateI;split<;>simp
 have hl2:lateI k2=0∨lateI k2=1:=by unfold lateI;split<;>simp
 generalize lateI k1=r1 at*;generalize lateI k2=r2 at*;clear hcr e1 e2 p3 q3 hn hc hs h hi hj p1 p2 q1 q2;have bk:∀ {a:Addr} {u:Value},w.cell? a=some u→a.block<w.heap.size:=fun h=>World.block_lt_of_cell? w _ h;have l1:=bk hk;have l2:=bk i1;have l3:=bk hl;go_enter Tryz.func168,Tryz.ntmps168;go_wp2_with fail
 go_region_held3 (fun w'=>w'.cell? ⟨pb,0,none⟩=some (.slice (some ⟨g,off,none⟩) n c)∧w'.cell? ⟨g,off+i*2,none⟩=some (Ub k1)∧w'.cell? ⟨g,off+i*2+1,none⟩=some (Iw x)∧w'.cell? ⟨g,off+j*2,none⟩=some (Ub k2)∧w'.cell? ⟨g,off+j*2+1,none⟩=some (Iw y)) (first | assumption | go_keep) (first
  | (fail "no arm"))
 ·clear l1 l2 hk i1 i2 j1 j2;rename_i hh;clear hh;have z1:(((w.alloc (.cells #[Ub k1,Iw x] 45)).alloc (.cells #[Ub k2,Iw y] 45)).drew).cell? ⟨w.heap.size,0,none⟩=some (Ub k1):=by simp
  have z2:(((w.alloc (.cells #[Ub k1,Iw x] 45)).alloc (.cells #[Ub k2,Iw y] 45)).drew).cell? ⟨w.heap.size,1,none⟩=some (Iw x):=by simp
  have z3:(((w.alloc (.cells #[Ub k1,Iw x] 45)).alloc (.cells #[Ub k2,Iw y] 45)).drew).cell? ⟨(w.heap.size+1),0,none⟩=some (Ub k2):=by simp
  have z4:(((w.alloc (.cells #[Ub k1,Iw x] 45)).alloc (.cells #[Ub k2,Iw y] 45)).drew).cell? ⟨(w.heap.size+1),1,none⟩=some (Iw y):=by simp
  have b0:Below w.heap.size w (((w.alloc (.cells #[Ub k1,Iw x] 45)).alloc (.cells #[Ub k2,Iw y] 45)).drew):=(((Below.refl _ w).alloc (Nat.le_refl _) _).alloc (by simp) _).drew;have z0:=(b0.cell l3).trans hl;generalize ((w.alloc (.cells #[Ub k1,Iw x] 45)).alloc (.cells #[Ub k2,Iw y] 45)).drew=W at*;generalize w.heap.size+1=q2 at z1 z2 z3 z4 ⊢;generalize hg0:w.heap.size=q1 at z1 z2 z3 z4 ⊢;clear hg0;have hw1:IntKind.i64.wrap (r1+r2)=r1+r2:=by rcases hl1 with h | h<;>rcases hl2 with h' | h'<;>subst h<;>subst h'<;>decide
  have hw2:IntKind.i64.wrap (r1-r2)=r1-r2:=by rcases hl1 with h | h<;>rcases hl2 with h' | h'<;>subst h<;>subst h'<;>decide
  clear hl1 hl2
  by_cases hz:r1+r2=0
  ·have hd:(r1+r2==0)=true:=by simp [hz]
   replace hz:=Lib.hid hz;go_wp2_with fail
   go_region_held3 (fun w'=>w'.cell? ⟨fb,0,none⟩=some (.func (.func 166) #[] #[])∧w'.cell? ⟨q1,0,none⟩=some (Ub k1)∧w'.cell? ⟨q1,1,none⟩=some (Iw x)∧w'.cell? ⟨q2,0,none⟩=some (Ub k2)∧w'.cell? ⟨q2,1,none⟩=some (Iw y)) (first | assumption | exact keep5 (by assumption) (by assumption) | go_keep) (first
    | (go_at_call 166;((with_reducible refine(hlx _).mono ?_);rintro e w4 ⟨rfl,b4⟩))
    | (go_at_call 166;((with_reducible refine(hly _).mono ?_);rintro e w4 ⟨rfl,b4⟩))
    | (fail "no arm"))
   all_goals rename_i hHeld
   all_goals obtain⟨y0,y1,y2,y3,y4⟩:=hHeld
   all_goals clear z0 z1 z2 z3 z4
   all_goals go_wp2_with fail
   all_goals go_at_call 169
   all_goals refine(hcx _).mono ?_
   all_goals rintro e w6 ⟨rfl,rfl⟩
   all_goals go_wp2_with fail
   all_goals go_ret
   all_goals exact⟨by first | rfl | (rw [if_pos hz.out];rfl),by first | exact(b0.next (by assumption)).then b4 | exact((b0.next (by assumption)).then b4).drew⟩
  ·have hd:(r1+r2==0)=false:=by simp [hz]
   replace hz:=Lib.hid hz;go_wp2_with fail
   go_region_held3 (fun w'=>w'.cell? ⟨fb,0,none⟩=some (.func (.func 166) #[] #[])∧w'.cell? ⟨q1,0,none⟩=some (Ub k1)∧w'.cell? ⟨q1,1,none⟩=some (Iw x)∧w'.cell? ⟨q2,0,none⟩=some (Ub k2)∧w'.cell? ⟨q2,1,none⟩=some (Iw y)) (first | assumption | exact keep5 (by assumption) (by assumption) | go_keep) (first
    | (go_at_call 166;((with_reducible refine(hlx _).mono ?_);rintro e w4 ⟨rfl,b4⟩))
    | (go_at_call 166;((with_reducible refine(hly _).mono ?_);rintro e w4 ⟨rfl,b4⟩))
    | (fail "no arm"))
   all_goals rename_i hHeld
   all_goals replace b0:=(b0.next (by assumption)).then b4
   all_goals clear z0 z1 z2 z3 z4
   all_goals go_wp2_with fail
   go_region_held3 (fun w'=>w'.cell? ⟨fb,0,none⟩=some (.func (.func 166) #[] #[])∧w'.cell? ⟨q1,0,none⟩=some (Ub k1)∧w'.cell? ⟨q1,1,none⟩=some (Iw x)∧w'.cell? ⟨q2,0,none⟩=some (Ub k2)∧w'.cell? ⟨q2,1,none⟩=some (Iw y)) (first | assumption | exact keep5 (by assumption) (by assumption) | go_keep) (first
    | (go_at_call 166;((with_reducible refine(hlx _).mono ?_);rintro e w4 ⟨rfl,b4⟩))
    | (go_at_call 166;((with_reducible refine(hly _).mono ?_);rintro e w4 ⟨rfl,b4⟩))
    | (fail "no arm"))
   all_goals go_wp2_with fail
   all_goals go_ret
   all_goals exact⟨by first | rfl | (rw [if_neg hz.out];rfl),by first | exact(b0.next (by assumption)).then b4 | exact((b0.next (by assumption)).then b4).drew⟩
 ·clear l1 l2 hk i1 i2 j1 j2;rename_i hh;clear hh;have z1:(((w.alloc (.cells #[Ub k2,Iw y] 45)).alloc (.cells #[Ub k1,Iw x] 45)).drew).cell? ⟨(w.heap.size+1),0,none⟩=some (Ub k1):=by simp
  have z2:(((w.alloc (.cells #[Ub k2,Iw y] 45)).alloc (.cells #[Ub k1,Iw x] 45)).drew).cell? ⟨(w.heap.size+1),1,none⟩=some (Iw x):=by simp
  have z3:(((w.alloc (.cells #[Ub k2,Iw y] 45)).alloc (.cells #[Ub k1,Iw x] 45)).drew).cell? ⟨w.heap.size,0,none⟩=some (Ub k2):=by simp
  have z4:(((w.alloc (.cells #[Ub k2,Iw y] 45)).alloc (.cells #[Ub k1,Iw x] 45)).drew).cell? ⟨w.heap.size,1,none⟩=some (Iw y):=by simp
  have b0:Below w.heap.size w (((w.alloc (.cells #[Ub k2,Iw y] 45)).alloc (.cells #[Ub k1,Iw x] 45)).drew):=(((Below.refl _ w).alloc (Nat.le_refl _) _).alloc (by simp) _).drew;have z0:=(b0.cell l3).trans hl;generalize ((w.alloc (.cells #[Ub k2,Iw y] 45)).alloc (.cells #[Ub k1,Iw x] 45)).drew=W at*;generalize w.heap.size+1=q1 at z1 z2 z3 z4 ⊢;generalize hg0:w.heap.size=q2 at z1 z2 z3 z4 ⊢;clear hg0;have hw1:IntKind.i64.wrap (r1+r2)=r1+r2:=by rcases hl1 with h | h<;>rcases hl2 with h' | h'<;>subst h<;>subst h'<;>decide
  have hw2:IntKind.i64.wrap (r1-r2)=r1-r2:=by rcases hl1 with h | h<;>rcases hl2 with h' | h'<;>subst h<;>subst h'<;>decide
  clear hl1 hl2
  by_cases hz:r1+r2=0
  ·have hd:(r1+r2==0)=true:=by simp [hz]
   replace hz:=Lib.hid hz;go_wp2_with fail
   go_region_held3 (fun w'=>w'.cell? ⟨fb,0,none⟩=some (.func (.func 166) #[] #[])∧w'.cell? ⟨q1,0,none⟩=some (Ub k1)∧w'.cell? ⟨q1,1,none⟩=some (Iw x)∧w'.cell? ⟨q2,0,none⟩=some (Ub k2)∧w'.cell? ⟨q2,1,none⟩=some (Iw y)) (first | assumption | exact keep5 (by assumption) (by assumption) | go_keep) (first
    | (go_at_call 166;((with_reducible refine(hlx _).mono ?_);rintro e w4 ⟨rfl,b4⟩))
    | (go_at_call 166;((with_reducible refine(hly _).mono ?_);rintro e w4 ⟨rfl,b4⟩))
    | (fail "no arm"))
   all_goals rename_i hHeld
   all_goals obtain⟨y0,y1,y2,y3,y4⟩:=hHeld
   all_goals clear z0 z1 z2 z3 z4
   all_goals go_wp2_with fail
   all_goals go_at_call 169
   all_goals refine(hcx _).mono ?_
   all_goals rintro e w6 ⟨rfl,rfl⟩
   all_goals go_wp2_with fail
   all_goals go_ret
   all_goals exact⟨by first | rfl | (rw [if_pos hz.out];rfl),by first | exact(b0.next (by assumption)).then b4 | exact((b0.next (by assumption)).then b4).drew⟩
  ·have hd:(r1+r2==0)=false:=by simp [hz]
   replace hz:=Lib.hid hz;go_wp2_with fail
   go_region_held3 (fun w'=>w'.cell? ⟨fb,0,none⟩=some (.func (.func 166) #[] #[])∧w'.cell? ⟨q1,0,none⟩=some (Ub k1)∧w'.cell? ⟨q1,1,none⟩=some (Iw x)∧w'.cell? ⟨q2,0,none⟩=some (Ub k2)∧w'.cell? ⟨q2,1,none⟩=some (Iw y)) (first | assumption | exact keep5 (by assumption) (by assumption) | go_keep) (first
    | (go_at_call 166;((with_reducible refine(hlx _).mono ?_);rintro e w4 ⟨rfl,b4⟩))
    | (go_at_call 166;((with_reducible refine(hly _).mono ?_);rintro e w4 ⟨rfl,b4⟩))
    | (fail "no arm"))
   all_goals rename_i hHeld
   all_goals replace b0:=(b0.next (by assumption)).then b4
   all_goals clear z0 z1 z2 z3 z4
   all_goals go_wp2_with fail
   go_region_held3 (fun w'=>w'.cell? ⟨fb,0,none⟩=some (.func (.func 166) #[] #[])∧w'.cell? ⟨q1,0,none⟩=some (Ub k1)∧w'.cell? ⟨q1,1,none⟩=some (Iw x)∧w'.cell? ⟨q2,0,none⟩=some (Ub k2)∧w'.cell? ⟨q2,1,none⟩=some (Iw y)) (first | assumption | exact keep5 (by assumption) (by assumption) | go_keep) (first
    | (go_at_call 166;((with_reducible refine(hlx _).mono ?_);rintro e w4 ⟨rfl,b4⟩))
    | (go_at_call 166;((with_reducible refine(hly _).mono ?_);rintro e w4 ⟨rfl,b4⟩))
    | (fail "no arm"))
   all_goals go_wp2_with fail
   all_goals go_ret
   all_goals exact⟨by first | rfl | (rw [if_neg hz.out];rfl),by first | exact(b0.next (by assumption)).then b4 | exact((b0.next (by assumption)).then b4).drew⟩
end
end Go.Proofs.YtadgbhjpgnlmoaaGreat
