/- TopSafe, a part of its proof; no conditions. -/
import Derived.Maps.OwnIn
import Derived.Test.YtadgbhjpgnlmoaaGreatPk07
set_option linter.all false
namespace Go.Rp.Rng
open Go.RowKit
section
variable {w:World} {S U:Nat→Prop} {l1 l2:List Res}
theorem Sep.split (h:Sep w U (l1++l2)):∃ S:Nat→Prop,(∀ x,S x→U x)∧Sep w S l1∧Sep w (fun x=>U x∧¬ S x) l2:=by
 induction l1 generalizing U with
 | nil=>exact⟨fun _=>False,fun _ h=>h.elim,trivial,Sep.mono h fun x hx=>⟨hx,fun h=>h⟩⟩
 | cons a l ih=>
  obtain⟨S1,h1,h2,h3⟩:=h;obtain⟨S2,h4,h5,h6⟩:=ih h3;refine⟨fun x=>S1 x∨S2 x,?_,⟨S1,fun x hx=>.inl hx,h2,h5.mono fun x hx=>⟨.inr hx,(h4 x hx).2⟩⟩,h6.mono fun x hx=>⟨hx.1.1,?_⟩⟩
  ·rintro x (hx | hx)
   ·exact h1 x hx
   ·exact(h4 x hx).1
  ·rintro (hs | hs)
   ·exact hx.1.2 hs
   ·exact hx.2 hs
theorem Sep.join (hS:∀ x,S x→U x) (h1:Sep w S l1) (h2:Sep w (fun x=>U x∧¬ S x) l2):Sep w U (l1++l2):=by
 induction l1 generalizing S U with
 | nil=>exact h2.mono fun x hx=>hx.1
 | cons a l ih=>
  obtain⟨S1,h3,h4,h5⟩:=h1;exact⟨S1,fun x hx=>hS x (h3 x hx),h4,ih (S:=fun x=>S x∧¬ S1 x) (fun x hx=>⟨hS x hx.1,hx.2⟩) h5 (h2.mono fun x hx=>⟨⟨hx.1,fun hs=>hx.2 (h3 x hs)⟩,fun hs=>hx.2 hs.1⟩)⟩
end
end Go.Rp.Rng
namespace Go.Proofs.YtadgbhjpgnlmoaaGreat.Rng
set_option maxRecDepth 100000
open Go.RowKit Go.Rp Go.Rp.Rng
def askE (k:Int) (puts:Bool) (e:Int) (b:Nat):MapEntry:= { key:=Ub k,val:=.agg #[.bool puts,Iv e],born:=b}
abbrev askMap:Obj:=.map #[askE 1 true 0 0,askE 2 true 1 1,askE 3 false 0 2,askE 4 false 1 3] 4
theorem put_new (w:World) (o o':Obj):({ w.alloc o with heap:=(w.alloc o).heap.setIfInBounds w.heap.size o'}:World)=w.alloc o':=by
 have e:(w.heap.push o).setIfInBounds w.heap.size o'=w.heap.push o':=by
  apply Array.ext_getElem?;intro i;rw [Array.getElem?_setIfInBounds]
  by_cases h:w.heap.size=i
  ·subst h;simp
  ·rw [if_neg h,Array.getElem?_push,Array.getElem?_push,if_neg (fun e=>h e.symm),if_neg (fun e=>h e.symm)]
 have e1:w.alloc o= { w with heap:=w.heap.push o}:=rfl;have e2:w.alloc o'= { w with heap:=w.heap.push o'}:=rfl;rw [e1,e2,←e]
theorem ask_put (w:World) (es:Array MapEntry) (c:Nat) (k:Int) (v:Value) (hf:Instr.findNow (.int .u8) (Ub k) es.toList 0=some none):
  (Instr.mapUpdate 322 (.map (some w.heap.size)) (Ub k) v).run Tryz.prog (w.alloc (.map es c))=.ok () (w.alloc (.map (es.push { key:=Ub k,val:=v,born:=c}) (c+1))):=by
 have hb:(w.alloc (.map es c)).heap[w.heap.size]? =some (.map es c):=heap_alloc_new w _;have hc:(Instr.checkKey false 10000 5 (Ub k)).run Tryz.prog (w.alloc (.map es c))=.ok () (w.alloc (.map es c)):=MapKept.run_checkKey (k:=Ub k) Tryz.underlying5 (by simp [MapKept.IsKey]) false 9999;simp [Instr.mapUpdate,run_underlying Tryz.underlying322,MapKept.run_getObj_map hb,hc,MapKept.run_findKey Tryz.underlying5 hf,MapKept.run_setObj_map _ hb,Result.andThen];exact put_new w _ _
theorem ask_some (w:World) (b:Nat) (k:Int) (hb:w.heap[b]? =some askMap) (i:Nat) (v:Value) (hf:Instr.findNow (.int .u8) (Ub k) [askE 1 true 0 0,askE 2 true 1 1,askE 3 false 0 2,askE 4 false 1 3] 0=some (some (i,v))):
  (Instr.lookup 322 (.map (some b)) (Ub k) true).run Tryz.prog w=.ok (.tuple #[v,.bool true]) w:=by
 have hc:∀ e,(Instr.checkKey e 10000 5 (Ub k)).run Tryz.prog w=.ok () w:=fun e=>MapKept.run_checkKey (k:=Ub k) Tryz.underlying5 (by simp [MapKept.IsKey]) e 9999;simp [Instr.lookup,run_underlying Tryz.underlying322,MapKept.run_getObj_map hb,hc,MapKept.run_findKey Tryz.underlying5 hf,Result.andThen]
theorem ask_none (w:World) (b:Nat) (k:Int) (hb:w.heap[b]? =some askMap) (hk:k<1∨4<k):
  (Instr.lookup 322 (.map (some b)) (Ub k) true).run Tryz.prog w=.ok (.tuple #[.agg #[.bool false,Iv 0],.bool false]) w:=by
 have hc:∀ e,(Instr.checkKey e 10000 5 (Ub k)).run Tryz.prog w=.ok () w:=fun e=>MapKept.run_checkKey (k:=Ub k) Tryz.underlying5 (by simp [MapKept.IsKey]) e 9999;have hz:(zeroValue 325).run Tryz.prog w=.ok (.agg #[.bool false,Iv 0]) w:=by kernel_rfl
 have hf:Instr.findNow (.int .u8) (Ub k) (#[askE 1 true 0 0,askE 2 true 1 1,askE 3 false 0 2,askE 4 false 1 3]:Array MapEntry).toList 0=some none:=by
  have a1:(k==1)=false:=by simp;omega
  have a2:(k==2)=false:=by simp;omega
  have a3:(k==3)=false:=by simp;omega
  have a4:(k==4)=false:=by simp;omega
  simp [Instr.findNow,Instr.sameNow,askE,a1,a2,a3,a4]
 simp [Instr.lookup,run_underlying Tryz.underlying322,MapKept.run_getObj_map hb,hc,MapKept.run_findKey Tryz.underlying5 hf,Result.andThen,hz]
theorem asks_any (w:World):Calls Tryz.prog 249 #[] w fun e w'=>e=.returned (.map (some w.heap.size))∧w'=w.alloc askMap:=by
 have hmm:=@run_makeMap Tryz.prog;have u1:=ask_put w #[] 0 1 (.agg #[.bool true,Iv 0]) rfl;have u2:=ask_put w #[askE 1 true 0 0] 1 2 (.agg #[.bool true,Iv 1]) rfl;have u3:=ask_put w #[askE 1 true 0 0,askE 2 true 1 1] 2 3 (.agg #[.bool false,Iv 0]) rfl;have u4:=ask_put w #[askE 1 true 0 0,askE 2 true 1 1,askE 3 false 0 2] 3 4 (.agg #[.bool false,Iv 1]) rfl;simp only [List.push_toArray,List.nil_append,List.cons_append,askE,Nat.reduceAdd] at u1 u2 u3 u4;go_enter Tryz.func249,Tryz.ntmps249;go_wp2;go_ret;exact⟨rfl,rfl⟩
theorem info_int:(Tryz.prog.info? 3).map (fun i=>(i.zero,i.size,i.bytes))=some (some (Iv 0),1,8):=by kernel_rfl
abbrev il (l:List Nat):List Value:=l.map fun(x:Nat)=>Iv (x:Int)
abbrev sideR (A:Option Addr) (c:Nat) (l:List Nat):Res:=slRes 3 1 A l.length c (il l)
abbrev headR (p most:Nat) (A1:Option Addr) (n1 c1:Nat) (A2:Option Addr) (n2 c2:Nat) (b:Nat):Res:=blkR p 315 #[.slice A1 n1 c1,.slice A2 n2 c2,Iv (b:Int),Iv (most:Int)]
def MeetAt (w:World) (p:Nat) (S:Nat→Prop) (most:Nat) (st:ES):Prop:=
 ∃ A1 c1 A2 c2,Sep w S [headR p most A1 st.1.length c1 A2 st.2.2.length c2 st.2.1,sideR A1 c1 st.1,sideR A2 c2 st.2.2]∧sizeE st≤most∧most≤1000
theorem stable_meet (p most:Nat) (st:ES):Stable (fun w S=>MeetAt w p S most st):=
 ⟨fun ⟨A1,c1,A2,c2,h,r⟩ hS=>⟨A1,c1,A2,c2,h.mono hS,r⟩,fun⟨A1,c1,A2,c2,h,r⟩ hm hd=>⟨A1,c1,A2,c2,h.mod hm hd,r⟩,fun⟨A1,c1,A2,c2,h,r⟩=>⟨A1,c1,A2,c2,h.lt,r⟩⟩
def meetR (p most:Nat) (st:ES):Res:=⟨fun w S=>MeetAt w p S most st,stable_meet p most st⟩
section
variable {B:Nat} {w w':World} {p most:Nat} {st:ES} {L:List Res}
theorem meet_open (h:At B w (meetR p most st::L)):∃ A1 c1 A2 c2,At B w (headR p most A1 st.1.length c1 A2 st.2.2.length c2 st.2.1::sideR A1 c1 st.1::sideR A2 c2 st.2.2::L)∧sizeE st≤most∧most≤1000:=by
 obtain⟨S,h1,⟨A1,c1,A2,c2,h2,r⟩,h3⟩:=h;exact⟨A1,c1,A2,c2,Sep.join h1 h2 h3,r⟩
theorem meet_close {A1 A2:Option Addr} {c1 c2:Nat} (h:At B w (headR p most A1 st.1.length c1 A2 st.2.2.length c2 st.2.1::sideR A1 c1 st.1::sideR A2 c2 st.2.2::L)) (h1:sizeE st≤most) (h2:most≤1000):At B w (meetR p most st::L):=by
 obtain⟨S,h3,h4,h5⟩:=Sep.split (l1:=[headR p most A1 st.1.length c1 A2 st.2.2.length c2 st.2.1,sideR A1 c1 st.1,sideR A2 c2 st.2.2]) h;exact⟨S,h3,⟨A1,c1,A2,c2,h4,h1,h2⟩,h5⟩
theorem blk_set {t:TypeId} {cs:Array Value} (hB:B≤w.heap.size) (h:At B w (blkR p t cs::L)) (i:Nat) (v:Value):At B (w.setCell ⟨p,i,none⟩ v) (blkR p t (cs.setIfInBounds i v)::L)∧Below B w (w.setCell ⟨p,i,none⟩ v):=by
 obtain⟨S,hS,hSU,hnext⟩:=h.frontAny (fun x hx=>Nat.le_trans hB hx);obtain⟨hb,hp⟩:=hS;have m:Mod S w (w.setCell ⟨p,i,none⟩ v):=(Mod.refl S w).setCell (.inl hp) v;exact⟨hnext (blkR p t (cs.setIfInBounds i v)) _ ⟨hb.set i v,.inl hp⟩ m,m.below hB fun b hb=>(hSU b hb).1⟩
theorem mpush_full (hB:B≤w.heap.size) (h:At B w (meetR p most st::L)) (e k:Int) (hf:¬ sizeE st<most):
  Calls Tryz.prog 250 #[Pz p,Iv e,Iv k] w fun e w'=>e=.returned (.bool false)∧At B w' (meetR p most st::L)∧Below B w w':=by
 have h0:=h;obtain⟨A1,c1,A2,c2,h,h1,h2⟩:=meet_open h;obtain⟨l,b,r⟩:=st;simp only [sizeE] at hf h1 h;obtain⟨n1,hn1⟩:∃ n,l.length=n:=⟨_,rfl⟩;obtain⟨n2,hn2⟩:∃ n,r.length=n:=⟨_,rfl⟩;rw [hn1,hn2] at h hf h1;have k0:=h.cv 0 (.slice A1 n1 c1);have k1:=h.cv 1 (.slice A2 n2 c2);have k2:=h.cv 2 (Iv (b:Int));have k3:=h.cv 3 (Iv (most:Int));have hge:(most:Int)≤(b:Int)+(n1:Int)+(n2:Int):=by omega
 have hw1:IntKind.i64.wrap ((b:Int)+(n1:Int))=(b:Int)+(n1:Int):=IntWalk.i64_in _ (by omega);have hw2:IntKind.i64.wrap ((b:Int)+(n1:Int)+(n2:Int))=(b:Int)+(n1:Int)+(n2:Int):=IntWalk.i64_in _ (by omega);clear hf h1 hn1 hn2 h;go_enter Tryz.func250,Tryz.ntmps250;go_wp2;go_quiet (fail);go_wp2;go_ret;exact⟨rfl,h0.drewN _,below_drewN (Below.refl _ _) _⟩
theorem push_close0 {A1 A2 A':Option Addr} {n1 n2 c1 c2 c' b k:Nat} {l r:List Nat} (hB:B≤w.heap.size) (s:At B w (slRes 3 1 A' (n1+1) c' (il l++[Iv (k:Int)])::headR p most A1 n1 c1 A2 n2 c2 b::slRes 3 1 A2 n2 c2 (il r)::L)) (hn1:l.length=n1) (hn2:r.length=n2) (hf:b+n1+n2<most) (h2:most≤1000):
  At B (w.setCell ⟨p,0,none⟩ (.slice A' (n1+1) c')) (meetR p most (l++[k],b,r)::L)∧Below B w (w.setCell ⟨p,0,none⟩ (.slice A' (n1+1) c')):=by
 subst hn1 hn2;obtain⟨s2,b2⟩:=blk_set hB s.rot2 0 (.slice A' (l.length+1) c');refine⟨meet_close (A1:=A') (c1:=c') (A2:=A2) (c2:=c2) ?_ (by simp only [sizeE,List.length_append,List.length_cons,List.length_nil];omega) h2,b2⟩;have e1:il (l++[k])=il l++[Iv (k:Int)]:=by simp [il]
 have e2:(l++[k]).length=l.length+1:=by simp
 simp only [sideR,e1,e2];exact s2
theorem push_close1 {A1 A2 A':Option Addr} {n1 n2 c1 c2 c' b k:Nat} {l r:List Nat} (hB:B≤w.heap.size) (s:At B w (slRes 3 1 A' (n2+1) c' (il r++[Iv (k:Int)])::headR p most A1 n1 c1 A2 n2 c2 b::slRes 3 1 A1 n1 c1 (il l)::L)) (hn1:l.length=n1) (hn2:r.length=n2) (hf:b+n1+n2<most) (h2:most≤1000):
  At B (w.setCell ⟨p,1,none⟩ (.slice A' (n2+1) c')) (meetR p most (l,b,r++[k])::L)∧Below B w (w.setCell ⟨p,1,none⟩ (.slice A' (n2+1) c')):=by
 subst hn1 hn2;obtain⟨s2,b2⟩:=blk_set hB s.rot2 1 (.slice A' (r.length+1) c');refine⟨meet_close (A1:=A1) (c1:=c1) (A2:=A') (c2:=c') ?_ (by simp only [sizeE,List.length_append,List.length_cons,List.length_nil];omega) h2,b2⟩;have e1:il (r++[k])=il r++[Iv (k:Int)]:=by simp [il]
 have e2:(r++[k]).length=r.length+1:=by simp
 simp only [sideR,e1,e2];exact Sep.cons (fun _ h=>Sep.rot2 h) s2
set_option maxHeartbeats 1000000 in
theorem mpush_0 (hB:B≤w.heap.size) (h:At B w (meetR p most st::L)) (k:Nat) (hf:sizeE st<most):
  Calls Tryz.prog 250 #[Pz p,Iv 0,Iv (k:Int)] w fun e w'=>e=.returned (.bool true)∧At B w' (meetR p most (st.1++[k],st.2)::L)∧Below B w w':=by
 obtain⟨i0,hi0,hz0,hz1,hz2⟩:=info_parts info_int;obtain⟨A1,c1,A2,c2,h,h1,h2⟩:=meet_open h;obtain⟨l,b,r⟩:=st;simp only [sizeE] at hf h1 h;obtain⟨n1,hn1⟩:∃ n,l.length=n:=⟨_,rfl⟩;obtain⟨n2,hn2⟩:∃ n,r.length=n:=⟨_,rfl⟩;unfold sideR at h;rw [hn1,hn2] at h hf h1;have k0:=h.cv 0 (.slice A1 n1 c1);have k1:=h.cv 1 (.slice A2 n2 c2);have k2:=h.cv 2 (Iv (b:Int));have k3:=h.cv 3 (Iv (most:Int));have hge:¬ (most:Int)≤(b:Int)+(n1:Int)+(n2:Int):=by omega
 have hw1:IntKind.i64.wrap ((b:Int)+(n1:Int))=(b:Int)+(n1:Int):=IntWalk.i64_in _ (by omega);have hw2:IntKind.i64.wrap ((b:Int)+(n1:Int)+(n2:Int))=(b:Int)+(n1:Int)+(n2:Int):=IntWalk.i64_in _ (by omega);have hplt:p<w.heap.size:=h.blk.lt;have HN1:=Lib.hid hn1;have HN2:=Lib.hid hn2;have HF:=Lib.hid hf;clear hf h1 hn1 hn2;go_enter Tryz.func250,Tryz.ntmps250;have hb1:n1+1≤maxLen:=by have:=HF.out;simp only [maxLen];omega
 have hb2:(n1+1)*8≤140737488355328:=by have:=HF.out;omega
 have hle:B≤(w.alloc (.cells #[Iv (k:Int)] 3)).heap.size:=by simp;omega
 go_wp2;go_quiet (fail);go_wp2_with fail;have kx:((w.drewN (nq+1)).alloc (.cells #[Iv (k:Int)] 3)).cell? ⟨p,0,none⟩=some (.slice A1 n1 c1):=(World.cell?_alloc_lt (w.drewN (nq+1)) _ ⟨p,0,none⟩ hplt).trans k0;obtain⟨S,hS,hSU,hnext⟩:=(((h.drewN (nq+1)).rot2).keep ((Below.refl _ (w.drewN (nq+1))).alloc (Nat.le_refl _) (.cells #[Iv (k:Int)] 3))).frontAny (fun x hx=>Nat.le_trans hle hx)
 go_region_law (refine step_append_sl _ rfl (.tmp 40) (.tmp 42) _ rfl 3 i0 _ 1 8 Tryz.underlying37 hi0 hz0 hz1 hz2 rfl (by decide) A1 n1 c1 _ S (by rfl) (by exact hS) (· =w.heap.size) (some ⟨w.heap.size,0,none⟩) 1 1 [Iv (k:Int)] (by rfl) (by exact(Rd.lit (sz:=1) (w.drewN (nq+1)) _ #[Iv (k:Int)] 1 rfl)) (by simp [Value.oneCell']) hb1 hb2 ?_;intro A' c' w1 hown1 hmod1;have s1:=hnext (slRes 3 1 A' (n1+1) c' (il l++[Iv (k:Int)])) w1 (by exact hown1) (by exact hmod1);have f1:=s1.rot2.blk.frozen 0;have e1:w1.cell? ⟨p,0,none⟩=some (.slice A1 n1 c1):=s1.rot2.blk.cell 0)
 all_goals
  obtain⟨q1,q2⟩:=push_close0 (Nat.le_trans (Nat.le_trans hB (by simp)) hmod1.size) s1 HN1.out HN2.out HF.out h2;go_wp2_with fail;go_ret;exact⟨rfl,q1,((below_drewN (Below.refl B w) (nq+1)).alloc hB _ |>.trans (hmod1.below (Nat.le_trans hB (by simp)) (fun x hx=>(hSU x hx).1))).trans q2⟩
set_option maxHeartbeats 1000000 in
theorem mpush_1 (hB:B≤w.heap.size) (h:At B w (meetR p most st::L)) (k:Nat) (hf:sizeE st<most):
  Calls Tryz.prog 250 #[Pz p,Iv 1,Iv (k:Int)] w fun e w'=>e=.returned (.bool true)∧At B w' (meetR p most (st.1,st.2.1,st.2.2++[k])::L)∧Below B w w':=by
 obtain⟨i0,hi0,hz0,hz1,hz2⟩:=info_parts info_int;obtain⟨A1,c1,A2,c2,h,h1,h2⟩:=meet_open h;obtain⟨l,b,r⟩:=st;simp only [sizeE] at hf h1 h;obtain⟨n1,hn1⟩:∃ n,l.length=n:=⟨_,rfl⟩;obtain⟨n2,hn2⟩:∃ n,r.length=n:=⟨_,rfl⟩;unfold sideR at h;rw [hn1,hn2] at h hf h1;have k0:=h.cv 0 (.slice A1 n1 c1);have k1:=h.cv 1 (.slice A2 n2 c2);have k2:=h.cv 2 (Iv (b:Int));have k3:=h.cv 3 (Iv (most:Int));have hge:¬ (most:Int)≤(b:Int)+(n1:Int)+(n2:Int):=by omega
 have hw1:IntKind.i64.wrap ((b:Int)+(n1:Int))=(b:Int)+(n1:Int):=IntWalk.i64_in _ (by omega);have hw2:IntKind.i64.wrap ((b:Int)+(n1:Int)+(n2:Int))=(b:Int)+(n1:Int)+(n2:Int):=IntWalk.i64_in _ (by omega);have hplt:p<w.heap.size:=h.blk.lt;have HN1:=Lib.hid hn1;have HN2:=Lib.hid hn2;have HF:=Lib.hid hf;clear hf h1 hn1 hn2;go_enter Tryz.func250,Tryz.ntmps250;have hb1:n2+1≤maxLen:=by have:=HF.out;simp only [maxLen];omega
 have hb2:(n2+1)*8≤140737488355328:=by have:=HF.out;omega
 have hle:B≤(w.alloc (.cells #[Iv (k:Int)] 3)).heap.size:=by simp;omega
 go_wp2;go_quiet (fail);go_wp2_with fail;have kx:((w.drewN (nq+1)).alloc (.cells #[Iv (k:Int)] 3)).cell? ⟨p,1,none⟩=some (.slice A2 n2 c2):=(World.cell?_alloc_lt (w.drewN (nq+1)) _ ⟨p,1,none⟩ hplt).trans k1;obtain⟨S,hS,hSU,hnext⟩:=(((h.drewN (nq+1)).rot3).keep ((Below.refl _ (w.drewN (nq+1))).alloc (Nat.le_refl _) (.cells #[Iv (k:Int)] 3))).frontAny (fun x hx=>Nat.le_trans hle hx)
 go_region_law (refine step_append_sl _ rfl (.tmp 40) (.tmp 42) _ rfl 3 i0 _ 1 8 Tryz.underlying37 hi0 hz0 hz1 hz2 rfl (by decide) A2 n2 c2 _ S (by rfl) (by exact hS) (· =w.heap.size) (some ⟨w.heap.size,0,none⟩) 1 1 [Iv (k:Int)] (by rfl) (by exact(Rd.lit (sz:=1) (w.drewN (nq+1)) _ #[Iv (k:Int)] 1 rfl)) (by simp [Value.oneCell']) hb1 hb2 ?_;intro A' c' w1 hown1 hmod1;have s1:=hnext (slRes 3 1 A' (n2+1) c' (il r++[Iv (k:Int)])) w1 (by exact hown1) (by exact hmod1);have f1:=s1.rot2.blk.frozen 1;have e1:w1.cell? ⟨p,1,none⟩=some (.slice A2 n2 c2):=s1.rot2.blk.cell 1)
 all_goals
  obtain⟨q1,q2⟩:=push_close1 (Nat.le_trans (Nat.le_trans hB (by simp)) hmod1.size) s1 HN1.out HN2.out HF.out h2;go_wp2_with fail;go_ret;exact⟨rfl,q1,((below_drewN (Below.refl B w) (nq+1)).alloc hB _ |>.trans (hmod1.below (Nat.le_trans hB (by simp)) (fun x hx=>(hSU x hx).1))).trans q2⟩
end
end Go.Proofs.YtadgbhjpgnlmoaaGreat.Rng
