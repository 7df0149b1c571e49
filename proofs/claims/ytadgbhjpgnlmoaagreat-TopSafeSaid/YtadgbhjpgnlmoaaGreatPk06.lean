/- TopSafe, a part of its proof; no conditions. -/
import Derived.Laws.EntriesVeiled
import Derived.Deep.RegionWith
import Derived.Deep.RegionHeld3
import Derived.Test.YtadgbhjpgnlmoaaGreatPk02
set_option linter.all false
namespace Go.Proofs.YtadgbhjpgnlmoaaGreat.Stk
set_option maxRecDepth 100000
open Go.RowKit Go.Rp Go.Rp.Stk
theorem clone_any (w:World) (A:Option Addr) (n c:Nat) (R:Nat→Prop) (xs:List Value) (hr:Rd w R 1 A n xs) (hA:A=none→n=0∧c=0) (h1:∀ u∈xs,u.oneCell'=true) (hn:n≤100000000):
  Calls Tryz.prog 91 #[.slice A n c] w (NewSl w 21 1 n xs):=by
 obtain⟨i0,hi0,hz0,hz1,hz2⟩:=info_parts info_i32;have hnil:=fun(W:World) (A:Option Addr) (n c:Nat)=>Lib.run_eql_slice_nil (P:=Tryz.prog) W 35 21 A n c 0 0 Tryz.underlying35
 rcases A with _ | a
 ·obtain⟨rfl,rfl⟩:=hA rfl;have hx:xs=[]:=List.eq_nil_of_length_eq_zero (by simpa using hr.1);subst hx;go_enter Tryz.func91,Tryz.ntmps91;go_wp2;go_ret;exact⟨none,0,rfl,Sl.nil _ _ _ _,Below.refl _ _⟩
 ·go_enter Tryz.func91,Tryz.ntmps91;go_wp2_with (at_builtin;refine wpList_append_sl _ rfl (.tmp 5) (.tmp 6) _ rfl 21 i0 _ 1 4 Tryz.underlying35 hi0 hz0 hz1 hz2 rfl (by omega) (some ⟨w.heap.size,0,none⟩) 0 0 [] (fun b=>b=w.heap.size) rfl (Sl.lit0 _ _ _ rfl) R (some a) n c xs rfl (hr.alloc _) h1 (by simp only [maxLen];omega) (by omega) ?_;intro A' c' w1 hown1 hmod1);go_ret;rw [Nat.zero_add,List.nil_append] at hown1
  simpa using NewSl.cloned hown1 hmod1
theorem items_any (w:World) (p:Nat) (S:Nat→Prop) (most:Nat) (l:List Int) (h:StackAt w p S most l):
  Calls Tryz.prog 208 #[Pz p] w (NewSl w 21 1 l.length (l.map fun x=>Iw x)):=by
 obtain⟨A,c,hb,hs,hp,hl1,hl2⟩:=h;have hc:w.cell? ⟨p,0,none⟩=some (.slice A l.length c):=hb.cell 0;have hcl:=clone_any w A l.length c _ (l.map fun x=>Iw x) hs.rd hs.none_ (by intro u hu;obtain⟨x,_,rfl⟩:=List.mem_map.1 hu;rfl) (by omega);go_enter Tryz.func208,Tryz.ntmps208;go_wp2_with (go_at_call 91;refine hcl.mono ?_;rintro e w1 ⟨A1,c1,rfl,hs1,hb1⟩);go_ret;exact⟨A1,c1,rfl,hs1,hb1⟩
theorem below_wrap {w w1 w2:World} {o:Obj} (b1:Below (w.alloc o).heap.size (w.alloc o) w1) (m2:Mod (fun x=>x=w.heap.size) w1 w2):Below w.heap.size w w2:=by
 have hz:=b1.size;simp at hz;exact(((Below.refl _ w).alloc (Nat.le_refl _) o).trans (b1.mono (by simp))).trans (m2.below (by omega) fun b hb=>by omega)
theorem below_of_same {P:Program} {f:FuncId} {args:Array Value} {w:World} {r:Ending} (hc:Calls P f args w fun e w'=>e=r∧w=w'):Calls P f args w fun e w'=>e=r∧Below w.heap.size w w':=
 hc.mono fun _ _ ⟨he,hw⟩=>⟨he,by rw [← hw];exact Below.refl _ _⟩
abbrev res (c v:Int):Value:=.agg #[Ub c,Iw v]
theorem push_op (w:World) (p:Nat) (S:Nat→Prop) (most:Nat) (l:List Int) (x:Int) (h:StackAt w p S most l) (hf:l.length<most):
  Calls Tryz.prog 227 #[Pz p,Iw x] w fun e w'=>e=.returned (res 1 0)∧StackAt w' p (grow S w w') most (l++[x])∧Mod S w w':=by
 have h:=h.lt;go_enter Tryz.func227,Tryz.ntmps227;go_wp2_with fail;refine(push_some _ p _ most l x (h.alloc _) hf).mono ?_;rintro e w1 ⟨rfl,h1,m1⟩;have hR:=(Blk.new w 47 #[Ub 0,Iw 0]).mod m1 (by omega);have r0:w1.cell? ⟨w.heap.size,0,none⟩=some (Ub 0):=hR.cell 0;have r1:w1.cell? ⟨w.heap.size,1,none⟩=some (Iw 0):=hR.cell 1;have f0:=hR.frozen 0;have f1:=hR.frozen 1;go_wp2_with fail;obtain⟨q0,q1,m2⟩:=two_cells (Ub 1) (Iw 0) hR;refine bodyPost_ret (v:=res 1 0) (by simp [results,Tryz.results227,go_sem,q0,q1,res]) rfl ⟨rfl,?_⟩;exact(stable_stack p most _).wrap ((Below.refl _ w).alloc (Nat.le_refl _) _) h1 m1 (m2.mono fun b hb=>by simp;omega)
theorem push_op_full (w:World) (p:Nat) (S:Nat→Prop) (most:Nat) (l:List Int) (x:Int) (h:StackAt w p S most l) (hf:l.length=most):
  Calls Tryz.prog 227 #[Pz p,Iw x] w fun e w'=>e=.returned (res 3 0)∧Below w.heap.size w w':=by
 go_enter Tryz.func227,Tryz.ntmps227;go_wp2_with fail;refine(push_full _ p S most l x (h.alloc _) hf).mono ?_;rintro e w1 ⟨rfl,b1⟩;have hR:=(Blk.new w 47 #[Ub 0,Iw 0]).below b1 (by simp);have r0:w1.cell? ⟨w.heap.size,0,none⟩=some (Ub 0):=hR.cell 0;have r1:w1.cell? ⟨w.heap.size,1,none⟩=some (Iw 0):=hR.cell 1;have f0:=hR.frozen 0;have f1:=hR.frozen 1;go_wp2_with fail;obtain⟨q0,q1,m2⟩:=two_cells (Ub 3) (Iw 0) hR;refine bodyPost_ret (v:=res 3 0) (by simp [results,Tryz.results227,go_sem,q0,q1,res]) rfl ⟨rfl,?_⟩;exact below_wrap b1 m2
theorem push_op_nil (w:World) (x:Int):
  Calls Tryz.prog 227 #[.pointer none,Iw x] w fun e w'=>e=.returned (res 3 0)∧Below w.heap.size w w':=by
 go_enter Tryz.func227,Tryz.ntmps227;go_wp2_with fail;refine(push_nil _ x).mono ?_;rintro e w1 ⟨rfl,b1⟩;have hR:=(Blk.new w 47 #[Ub 0,Iw 0]).below b1 (by simp);have r0:w1.cell? ⟨w.heap.size,0,none⟩=some (Ub 0):=hR.cell 0;have r1:w1.cell? ⟨w.heap.size,1,none⟩=some (Iw 0):=hR.cell 1;have f0:=hR.frozen 0;have f1:=hR.frozen 1;go_wp2_with fail;obtain⟨q0,q1,m2⟩:=two_cells (Ub 3) (Iw 0) hR;refine bodyPost_ret (v:=res 3 0) (by simp [results,Tryz.results227,go_sem,q0,q1,res]) rfl ⟨rfl,?_⟩;exact below_wrap b1 m2
theorem pop_op (w:World) (p:Nat) (S:Nat→Prop) (most:Nat) (l:List Int) (x y:Int) (h:StackAt w p S most (l++[x])):
  Calls Tryz.prog 228 #[Pz p,Iw y] w fun e w'=>e=.returned (res 2 x)∧StackAt w' p (grow S w w') most l∧Mod S w w':=by
 have h:=h.lt;go_enter Tryz.func228,Tryz.ntmps228;go_wp2_with fail;refine(pop_some _ p _ most l x (h.alloc _)).mono ?_;rintro e w1 ⟨rfl,h1,m1⟩;have hR:=(Blk.new w 47 #[Ub 0,Iw 0]).mod m1 (by omega);have r0:w1.cell? ⟨w.heap.size,0,none⟩=some (Ub 0):=hR.cell 0;have r1:w1.cell? ⟨w.heap.size,1,none⟩=some (Iw 0):=hR.cell 1;have f0:=hR.frozen 0;have f1:=hR.frozen 1;go_wp2_with fail;obtain⟨q0,q1,m2⟩:=two_cells (Ub 2) (Iw x) hR;refine bodyPost_ret (v:=res 2 x) (by simp [results,Tryz.results228,go_sem,q0,q1,res]) rfl ⟨rfl,?_⟩;exact(stable_stack p most _).wrap ((Below.refl _ w).alloc (Nat.le_refl _) _) (h1.mono grow_left) m1 (m2.mono fun b hb=>by simp;omega)
theorem pop_op_none (w:World) (p:Nat) (S:Nat→Prop) (most:Nat) (y:Int) (h:StackAt w p S most []):
  Calls Tryz.prog 228 #[Pz p,Iw y] w fun e w'=>e=.returned (res 4 0)∧Below w.heap.size w w':=by
 go_enter Tryz.func228,Tryz.ntmps228;go_wp2_with fail;refine(below_of_same (pop_none _ p _ most (h.alloc _))).mono ?_;rintro e w1 ⟨rfl,b1⟩;have hR:=(Blk.new w 47 #[Ub 0,Iw 0]).below b1 (by simp);have r0:w1.cell? ⟨w.heap.size,0,none⟩=some (Ub 0):=hR.cell 0;have r1:w1.cell? ⟨w.heap.size,1,none⟩=some (Iw 0):=hR.cell 1;have f0:=hR.frozen 0;have f1:=hR.frozen 1;go_wp2_with fail;obtain⟨q0,q1,m2⟩:=two_cells (Ub 4) (Iw 0) hR;refine bodyPost_ret (v:=res 4 0) (by simp [results,Tryz.results228,go_sem,q0,q1,res]) rfl ⟨rfl,?_⟩;exact below_wrap b1 m2
def sDo (most:Nat) (l:List Int) (k v:Int):List Int×Int×Int:=
 if k=1 then(if l.length<most then(l++[v],1,0) else(l,3,0))
 else if k=2 then(match l.getLast? with | some x=>(l.dropLast,2,x) | none=>(l,4,0))
 else(l,5,0)
theorem step_same {P:Program} {f:FuncId} {args:Array Value} {w:World} {r:Ending} {Q:World→(Nat→Prop)→Prop} {S:Nat→Prop} (st:Stable Q) (h:Q w S) (hc:Calls P f args w fun e w'=>e=r∧Below w.heap.size w w'):
  Calls P f args w fun e w'=>e=r∧Q w' (grow S w w')∧Mod S w w':=
 hc.mono fun _ _ ⟨he,hb⟩=>⟨he,st.mono (st.keep h hb) grow_left,Mod.of_below hb⟩
theorem push_do (w:World) (p:Nat) (S:Nat→Prop) (most:Nat) (l:List Int) (v:Int) (h:StackAt w p S most l):
  Calls Tryz.prog 227 #[Pz p,Iw v] w fun e w'=>e=.returned (res (sDo most l 1 v).2.1 (sDo most l 1 v).2.2)∧StackAt w' p (grow S w w') most (sDo most l 1 v).1∧Mod S w w':=by
 by_cases hf:l.length<most
 ·simp only [sDo,if_pos hf,if_true];exact push_op w p S most l v h hf
 ·simp only [sDo,if_neg hf,if_true];exact step_same (stable_stack p most l) h (push_op_full w p S most l v h (by have:=h.len;omega))
theorem pop_do (w:World) (p:Nat) (S:Nat→Prop) (most:Nat) (l:List Int) (v:Int) (h:StackAt w p S most l):
  Calls Tryz.prog 228 #[Pz p,Iw v] w fun e w'=>e=.returned (res (sDo most l 2 v).2.1 (sDo most l 2 v).2.2)∧StackAt w' p (grow S w w') most (sDo most l 2 v).1∧Mod S w w':=by
 rcases List.eq_nil_or_concat l with rfl | ⟨l,x,rfl⟩
 ·exact step_same (stable_stack p most []) h (pop_op_none w p S most v h)
 ·rw [List.concat_eq_append] at h ⊢
  simpa [sDo] using pop_op w p S most l x v h
theorem acts_any (w:World):Calls Tryz.prog 223 #[] w fun e w'=>e=.returned (.agg #[.nilFunc,.func (.func 227) #[] #[],.func (.func 228) #[] #[]])∧Below w.heap.size w w':=by
 go_enter Tryz.func223,Tryz.ntmps223;go_wp2_with fail;refine bodyPost_ret (v:=.agg #[.nilFunc,.func (.func 227) #[] #[],.func (.func 228) #[] #[]]) (by simp [results,Tryz.results223,go_sem]) rfl ⟨rfl,?_⟩;exact(Below.refl _ w).alloc (Nat.le_refl _) _
theorem fn_nil (f:FuncId) (W:World):(binOp .eql 297 (.func (.func f) #[] #[]) .nilFunc).run Tryz.prog W=.ok (.bool false) W:=by kernel_rfl
theorem nil_nil (W:World):(binOp .eql 297 .nilFunc .nilFunc).run Tryz.prog W=.ok (.bool true) W:=by kernel_rfl
theorem do_push (w:World) (p:Nat) (S:Nat→Prop) (most:Nat) (l:List Int) (v:Int) (h:StackAt w p S most l):
  Calls Tryz.prog 215 #[Pz p,.agg #[Ub 1,Iw v]] w fun e w'=>e=.returned (res (sDo most l 1 v).2.1 (sDo most l 1 v).2.2)∧StackAt w' p (grow S w w') most (sDo most l 1 v).1∧Mod S w w':=by
 have h:=h.lt;have hop:=fun(W:World) (hW:StackAt W p (fun b=>S b∧b<w.heap.size) most l)=>push_do W p _ most l v hW;generalize sDo most l 1 v=r at*;obtain⟨l',c,x⟩:=r;have hfn:=fn_nil;go_enter Tryz.func215,Tryz.ntmps215;go_wp2_with fail;refine(acts_any _).mono ?_;rintro e w1 ⟨rfl,b1⟩;have hO:=((Blk.new w 45 #[Ub 1,Iw v]).alloc (.cells #[Ub 0,Iw 0] 47)).below b1 (by simp;omega);have hR:=(Blk.new (w.alloc (.cells #[Ub 1,Iw v] 45)) 47 #[Ub 0,Iw 0]).below b1 (by simp);rw [World.size_alloc] at hR;have o0:w1.cell? ⟨w.heap.size,0,none⟩=some (Ub 1):=hO.cell 0;have o1:w1.cell? ⟨w.heap.size,1,none⟩=some (Iw v):=hO.cell 1;have z0:=hO.lt;have z1:=hR.lt;have hst:=((h.alloc (.cells #[Ub 1,Iw v] 45)).alloc (.cells #[Ub 0,Iw 0] 47)).keep b1;go_wp2_with fail
 go_region_with (go_at_call 227;refine(hop _ (by exact(hst.alloc _).drew)).mono ?_;rintro e w2 ⟨rfl,h2,m2⟩;have hR2:=((hR.alloc _).drew).mod m2 (by omega);have r0:w2.cell? ⟨w.heap.size+1,0,none⟩=some (Ub 0):=hR2.cell 0;have r1:w2.cell? ⟨w.heap.size+1,1,none⟩=some (Iw 0):=hR2.cell 1;have f0:=hR2.frozen 0;have f1:=hR2.frozen 1)
 all_goals
  go_wp2_with fail;obtain⟨q0,q1,m3⟩:=two_cells (Ub c) (Iw x) hR2;refine bodyPost_ret (v:=res c x) (by simp [results,Tryz.results215,go_sem,q0,q1]) rfl ⟨rfl,?_⟩;exact(stable_stack p most _).wrap (((((Below.refl _ w).alloc (Nat.le_refl _) _).alloc (by simp) _).trans (b1.mono (by simp;omega)) |>.alloc (by omega) _).drew) h2 m2 (m3.mono fun b hb=>by subst hb;simp;omega)
theorem do_pop (w:World) (p:Nat) (S:Nat→Prop) (most:Nat) (l:List Int) (v:Int) (h:StackAt w p S most l):
  Calls Tryz.prog 215 #[Pz p,.agg #[Ub 2,Iw v]] w fun e w'=>e=.returned (res (sDo most l 2 v).2.1 (sDo most l 2 v).2.2)∧StackAt w' p (grow S w w') most (sDo most l 2 v).1∧Mod S w w':=by
 have h:=h.lt;have hop:=fun(W:World) (hW:StackAt W p (fun b=>S b∧b<w.heap.size) most l)=>pop_do W p _ most l v hW;generalize sDo most l 2 v=r at*;obtain⟨l',c,x⟩:=r;have hfn:=fn_nil;go_enter Tryz.func215,Tryz.ntmps215;go_wp2_with fail;refine(acts_any _).mono ?_;rintro e w1 ⟨rfl,b1⟩;have hO:=((Blk.new w 45 #[Ub 2,Iw v]).alloc (.cells #[Ub 0,Iw 0] 47)).below b1 (by simp;omega);have hR:=(Blk.new (w.alloc (.cells #[Ub 2,Iw v] 45)) 47 #[Ub 0,Iw 0]).below b1 (by simp);rw [World.size_alloc] at hR;have o0:w1.cell? ⟨w.heap.size,0,none⟩=some (Ub 2):=hO.cell 0;have o1:w1.cell? ⟨w.heap.size,1,none⟩=some (Iw v):=hO.cell 1;have z0:=hO.lt;have z1:=hR.lt;have hst:=((h.alloc (.cells #[Ub 2,Iw v] 45)).alloc (.cells #[Ub 0,Iw 0] 47)).keep b1;go_wp2_with fail
 go_region_with (go_at_call 228;refine(hop _ (by exact(hst.alloc _).drew)).mono ?_;rintro e w2 ⟨rfl,h2,m2⟩;have hR2:=((hR.alloc _).drew).mod m2 (by omega);have r0:w2.cell? ⟨w.heap.size+1,0,none⟩=some (Ub 0):=hR2.cell 0;have r1:w2.cell? ⟨w.heap.size+1,1,none⟩=some (Iw 0):=hR2.cell 1;have f0:=hR2.frozen 0;have f1:=hR2.frozen 1)
 all_goals
  go_wp2_with fail;obtain⟨q0,q1,m3⟩:=two_cells (Ub c) (Iw x) hR2;refine bodyPost_ret (v:=res c x) (by simp [results,Tryz.results215,go_sem,q0,q1]) rfl ⟨rfl,?_⟩;exact(stable_stack p most _).wrap (((((Below.refl _ w).alloc (Nat.le_refl _) _).alloc (by simp) _).trans (b1.mono (by simp;omega)) |>.alloc (by omega) _).drew) h2 m2 (m3.mono fun b hb=>by subst hb;simp;omega)
theorem do_bad (w:World) (p:Option Addr) (k v:Int) (h0:0≤k) (h1:k≤255) (h2:k≠1) (h3:k≠2):
  Calls Tryz.prog 215 #[.pointer p,.agg #[Ub k,Iw v]] w fun e w'=>e=.returned (res 5 0)∧Below w.heap.size w w':=by
 have hfn:=nil_nil
 rcases(show k=0∨3≤k by omega) with rfl | h4
 ·go_enter Tryz.func215,Tryz.ntmps215;go_wp2_with fail;refine(acts_any _).mono ?_;rintro e w1 ⟨rfl,b1⟩;have hO:=((Blk.new w 45 #[Ub 0,Iw v]).alloc (.cells #[Ub 0,Iw 0] 47)).below b1 (by simp;omega);have hR:=(Blk.new (w.alloc (.cells #[Ub 0,Iw v] 45)) 47 #[Ub 0,Iw 0]).below b1 (by simp);rw [World.size_alloc] at hR;have o0:w1.cell? ⟨w.heap.size,0,none⟩=some (Ub 0):=hO.cell 0;have r0:w1.cell? ⟨w.heap.size+1,0,none⟩=some (Ub 0):=hR.cell 0;have r1:w1.cell? ⟨w.heap.size+1,1,none⟩=some (Iw 0):=hR.cell 1;have f0:=hR.frozen 0;have f1:=hR.frozen 1;have z0:=hO.lt;have z1:=hR.lt;go_wp2_with fail;obtain⟨q0,q1,m3⟩:=two_cells (Ub 5) (Iw 0) hR;have zz:=m3.size;have b2:Below w.heap.size w w1:=((((Below.refl _ w).alloc (Nat.le_refl _) _).alloc (by simp) _).trans (b1.mono (by simp;omega)));refine bodyPost_ret (v:=res 5 0) (by simp [results,Tryz.results215,go_sem,q0,q1,z1]) rfl ⟨rfl,?_⟩;exact(b2.trans (m3.below (by omega) fun b hb=>by omega)).alloc (by omega) _
 ·clear hfn h2 h3;go_enter Tryz.func215,Tryz.ntmps215;go_wp2_with fail;refine(acts_any _).mono ?_;rintro e w1 ⟨rfl,b1⟩;have hO:=((Blk.new w 45 #[Ub k,Iw v]).alloc (.cells #[Ub 0,Iw 0] 47)).below b1 (by simp;omega);have hR:=(Blk.new (w.alloc (.cells #[Ub k,Iw v] 45)) 47 #[Ub 0,Iw 0]).below b1 (by simp);rw [World.size_alloc] at hR;have o0:w1.cell? ⟨w.heap.size,0,none⟩=some (Ub k):=hO.cell 0;have r0:w1.cell? ⟨w.heap.size+1,0,none⟩=some (Ub 0):=hR.cell 0;have r1:w1.cell? ⟨w.heap.size+1,1,none⟩=some (Iw 0):=hR.cell 1;have f0:=hR.frozen 0;have f1:=hR.frozen 1;have z0:=hO.lt;have z1:=hR.lt;go_wp2_with fail;obtain⟨q0,q1,m3⟩:=two_cells (Ub 5) (Iw 0) hR;have zz:=m3.size;have b2:Below w.heap.size w w1:=((((Below.refl _ w).alloc (Nat.le_refl _) _).alloc (by simp) _).trans (b1.mono (by simp;omega)));refine bodyPost_ret (v:=res 5 0) (by simp [results,Tryz.results215,go_sem,q0,q1,z1]) rfl ⟨rfl,?_⟩;exact(b2.trans (m3.below (by omega) fun b hb=>by omega)).alloc (by omega) _
theorem do_any (w:World) (p:Nat) (S:Nat→Prop) (most:Nat) (l:List Int) (k v:Int) (h0:0≤k) (h1:k≤255) (h:StackAt w p S most l):
  Calls Tryz.prog 215 #[Pz p,.agg #[Ub k,Iw v]] w fun e w'=>e=.returned (res (sDo most l k v).2.1 (sDo most l k v).2.2)∧StackAt w' p (grow S w w') most (sDo most l k v).1∧Mod S w w':=by
 by_cases h2:k=1
 ·subst h2;exact do_push w p S most l v h
 ·by_cases h3:k=2
  ·subst h3;exact do_pop w p S most l v h
  ·have e:sDo most l k v=(l,5,0):=by simp [sDo,h2,h3]
   rw [e];exact step_same (stable_stack p most l) h (do_bad w _ k v h0 h1 h2 h3)
end Go.Proofs.YtadgbhjpgnlmoaaGreat.Stk
