/- TopSafe, a part of its proof; no conditions. -/
import Derived.Maps.RangeRun
import Derived.Test.YtadgbhjpgnlmoaaGreatPk44
set_option linter.all false
namespace Go.Proofs.YtadgbhjpgnlmoaaGreat
open Go.RowKit Go.Rp Go.Sf
set_option maxRecDepth 100000
def stB (m:List Int) (age x:Int):Bool:=(ld m (x+1)!=1)||(ld m x !=0)||decide (IntKind.i64.wrap (ld m 2-ld m (x+2))≤age)
theorem stale1_cf (args:Array Value) (w:World):(callFunc 105 args).run Tryz.prog w=.ok (.enter 105 args) w:=by kernel_rfl
section
variable {B p n:Nat} {w:World} {size:Int} {m:List Int} {R:List Res} {k:Nat} {L:List Int} {A:Option Addr} {c r:Nat}
theorem rec_cells {b v q:Nat} {x age:Int} (h:At B w (blkR b 195 #[Iv (ld m x),Iv (ld m (x+1)),Iv (ld m (x+2)),Iv (ld m (x+3)),Iv (ld m (x+4))]::blkR v 191 #[.slice A n c,.map (some r)]::blkR q 3 #[Iv age]::R)):w.cell? ⟨b,0,none⟩=some (Iv (ld m x))∧w.cell? ⟨b,1,none⟩=some (Iv (ld m (x+1)))∧w.cell? ⟨b,2,none⟩=some (Iv (ld m (x+2)))∧w.cell? ⟨v,0,none⟩=some (.slice A n c)∧w.cell? ⟨v,1,none⟩=some (.map (some r))∧w.cell? ⟨q,0,none⟩=some (Iv age):=by
 have h1:=h.drop;have h2:=h1.drop;exact⟨h.blk.cell 0,h.blk.cell 1,h.blk.cell 2,h1.blk.cell 0,h1.blk.cell 1,h2.blk.cell 0⟩
set_option maxHeartbeats 2000000 in
theorem stale1_s {v q:Nat} {x age:Int} (hx:isRec k x) (hm:(m.length:Int)=3+5*(k:Int)) (hn:m.length=n) (hB:B≤w.heap.size) (h:At B w (blkR v 191 #[.slice A n c,.map (some r)]::blkR q 3 #[Iv age]::celR A n c m::mapR .i64 r (recsOf m k)::R)):
  Calls Tryz.prog 105 #[Iv x,Pz v,Pz q] w fun e w'=>e=.returned (.bool (stB m age x))∧At B w' (blkR v 191 #[.slice A n c,.map (some r)]::blkR q 3 #[Iv age]::celR A n c m::mapR .i64 r (recsOf m k)::R)∧Below B w w':=by
 have hlk:=run_map_find mapIR intI (h.ord [3]).map x (z:=.agg #[Iv 0,Iv 0,Iv 0,Iv 0,Iv 0]) (by kernel_rfl) false;rw [getL_recsOf hx] at hlk;simp only [Option.getD_some,Bool.false_eq_true,if_false] at hlk;unfold recV at hlk;have c1:=h.blk.cell 1;have s1:=h.alloc hB #[Iv (ld m x),Iv (ld m (x+1)),Iv (ld m (x+2)),Iv (ld m (x+3)),Iv (ld m (x+4))] 195;have b1:=(Below.refl B w).alloc hB (.cells #[Iv (ld m x),Iv (ld m (x+1)),Iv (ld m (x+2)),Iv (ld m (x+3)),Iv (ld m (x+4))] 195);have hB1:=Nat.le_trans hB b1.size;have s2:=s1.drew;have b2:=b1.drew;have hat:=fun(W:World) (hW:B≤W.heap.size) (hs:At B W (celR A n c m::R))=>True;clear h hat;go_enter Tryz.func105,Tryz.ntmps105;go_wp2_with fail;generalize w.alloc (.cells #[Iv (ld m x),Iv (ld m (x+1)),Iv (ld m (x+2)),Iv (ld m (x+3)),Iv (ld m (x+4))] 195)=W at*;generalize w.heap.size=b at*;clear hlk c1;have hHeld0:=rec_cells s2
 by_cases h1:ld m (x+1)=1
 ·have d1:(ld m (x+1)!=1)=false:=by simp [h1]
  replace h1:=Lib.hid h1
  by_cases h2:ld m x=0
  ·have d2:(ld m x !=0)=false:=by simp [h2]
   replace h2:=Lib.hid h2;have hml:2<m.length:=by omega
   have hsl:Sl W.drew 2 1 A n c (i64s m) (fun x=>B≤x):=(s2.ord [3]).get;obtain⟨g,off,rfl,-,-,-,hcc⟩:=hsl.at (by omega);have hat:=at_any W.drew (n:=n) (c:=c) (M:=.map (some r)) (a:=2) (by omega) (hcc 2 (Iv (ld m 2)) (by simp [i64s,ld,Sf.inb,hml];omega));rw [show ((2:Nat):Int)=2 from rfl] at hat;clear hcc hsl;refine wp_region_held_drew (S:=fun w'=>w'.cell? ⟨b,0,none⟩=some (Iv (ld m x))∧w'.cell? ⟨b,1,none⟩=some (Iv (ld m (x+1)))∧w'.cell? ⟨b,2,none⟩=some (Iv (ld m (x+2)))∧w'.cell? ⟨v,0,none⟩=some (.slice (some ⟨g,off,none⟩) n c)∧w'.cell? ⟨v,1,none⟩=some (.map (some r))∧w'.cell? ⟨q,0,none⟩=some (Iv age)) (by kernel_rfl) hHeld0 fun hHeld=>?_;refine Rp.tk 0 hHeld ?_;refine Rp.tk 1 hHeld ?_;refine Rp.tk 2 hHeld ?_;refine Rp.tk 3 hHeld ?_;refine Rp.tk 4 hHeld ?_;refine Rp.tk 5 hHeld ?_;refine Rp.tk 6 hHeld ?_;refine Rp.tk 7 hHeld ?_;refine Rp.tk 8 hHeld ?_;refine Rp.tk 9 hHeld ?_;refine Rp.tk 11 hHeld ?_
   refine Rp.tk 12 hHeld ?_;refine Rp.tk 14 hHeld ?_;refine Rp.rd 10 fun K hK=>?_;go_simp;refine hat.mono ?_;rintro e w5 ⟨rfl,b5⟩;have s5:=s2.keep b5;have hH5:=rec_cells s5;have b6:=b2.trans (b5.mono hB1);refine gon hK hH5 fun hHeld=>?_;clear hK K;refine Rp.tk 13 hHeld ?_;refine Rp.tk 15 hHeld ?_;refine Rp.tk 16 hHeld ?_;refine Rp.tk 17 hHeld ?_;refine wpAnyH_done (by kernel_rfl) ?_ _;clear hHeld hHeld0 hH5 hat;go_wp2_with fail;go_ret;refine⟨?_,s5.drop,b6⟩;simp [stB,d1,d2]
  ·have d2:(ld m x !=0)=true:=by simp [h2]
   replace h2:=Lib.hid h2;refine wp_region_held_drew (S:=fun w'=>w'.cell? ⟨b,0,none⟩=some (Iv (ld m x))∧w'.cell? ⟨b,1,none⟩=some (Iv (ld m (x+1)))∧w'.cell? ⟨b,2,none⟩=some (Iv (ld m (x+2)))∧w'.cell? ⟨v,0,none⟩=some (.slice A n c)∧w'.cell? ⟨v,1,none⟩=some (.map (some r))∧w'.cell? ⟨q,0,none⟩=some (Iv age)) (by kernel_rfl) hHeld0 fun hHeld=>?_;refine Rp.tk 0 hHeld ?_;refine Rp.tk 1 hHeld ?_;refine Rp.tk 2 hHeld ?_;refine Rp.tk 3 hHeld ?_;refine Rp.tk 4 hHeld ?_;refine Rp.tk 5 hHeld ?_;refine Rp.tk 6 hHeld ?_;refine Rp.tk 7 hHeld ?_;refine Rp.tk 8 hHeld ?_;refine Rp.sk 9 hHeld ?_;refine Rp.sk 10 hHeld ?_;refine Rp.sk 11 hHeld ?_;refine Rp.sk 12 hHeld ?_;refine Rp.sk 13 hHeld ?_;refine Rp.sk 14 hHeld ?_;refine Rp.sk 15 hHeld ?_;refine Rp.tk 16 hHeld ?_;refine Rp.tk 17 hHeld ?_;refine wpAnyH_done (by kernel_rfl) ?_ _;clear hHeld hHeld0;go_wp2_with fail;go_ret;refine⟨?_,s2.drop,b2⟩;simp [stB,d1,d2]
 ·have d1:(ld m (x+1)!=1)=true:=by simp [h1]
  replace h1:=Lib.hid h1;refine wp_region_held_drew (S:=fun w'=>w'.cell? ⟨b,0,none⟩=some (Iv (ld m x))∧w'.cell? ⟨b,1,none⟩=some (Iv (ld m (x+1)))∧w'.cell? ⟨b,2,none⟩=some (Iv (ld m (x+2)))∧w'.cell? ⟨v,0,none⟩=some (.slice A n c)∧w'.cell? ⟨v,1,none⟩=some (.map (some r))∧w'.cell? ⟨q,0,none⟩=some (Iv age)) (by kernel_rfl) hHeld0 fun hHeld=>?_;refine Rp.tk 0 hHeld ?_;refine Rp.tk 1 hHeld ?_;refine Rp.tk 2 hHeld ?_;refine Rp.tk 3 hHeld ?_;refine Rp.sk 4 hHeld ?_;refine Rp.sk 5 hHeld ?_;refine Rp.sk 6 hHeld ?_;refine Rp.tk 7 hHeld ?_;refine Rp.tk 8 hHeld ?_;refine Rp.sk 9 hHeld ?_;refine Rp.sk 10 hHeld ?_;refine Rp.sk 11 hHeld ?_;refine Rp.sk 12 hHeld ?_;refine Rp.sk 13 hHeld ?_;refine Rp.sk 14 hHeld ?_;refine Rp.sk 15 hHeld ?_;refine Rp.tk 16 hHeld ?_;refine Rp.tk 17 hHeld ?_;refine wpAnyH_done (by kernel_rfl) ?_ _;clear hHeld hHeld0;go_wp2_with fail;go_ret;refine⟨?_,s2.drop,b2⟩;simp [stB,d1]
theorem min_ii {k:IntKind} {x y z:Int} (h:min x y=z) (ats:Array TypeId) (ty:TypeId):Go.Builtin.min_ ats ty #[.int k x,.int k y]=(pure (.int k z):Sem Value):=by
 have e:(if y<x then y else x)=z:=by rw [← h,Int.min_def];split<;>split<;>omega
 show([Value.int k y].foldlM Go.Builtin.min2 (.int k x):Sem Value)=_;simp [List.foldlM,Go.Builtin.min2,e]
theorem Sep.dropS {e sz n c:Nat} {A:Option Addr} {xs:List Value} {R:List Res} {w:World} {U:Nat→Prop} (h:Sep w U (slRes e sz A n c xs::R)) {k:Nat} (hk:k≤n):Sep w U (slRes e sz (if c=k then A else A.map (·.add (k*sz))) (n-k) (c-k) (xs.drop (k*sz))::R):=by
 obtain⟨S,h1,h2,h3⟩:=h;exact⟨S,h1,Sl.drop h2 hk,h3⟩
set_option maxHeartbeats 1000000 in
theorem Stale_s {age:Int} (hB:B≤w.heap.size) (hL:ChL m k L) (hk:k≤1000) (hN:L.length≤1000) (h:At B w (memR p size m::R)):
  Calls Tryz.prog 78 #[Pz p,Iv age] w fun e w'=>∃ A' n' c' ys,e=.returned (.slice A' n' c')∧n'≤1000∧(∀ y∈ys,y∈L.tail∧stB m age y=false)∧At B w' (intO A' n' c' ys::memR p size m::R)∧Below B w w':=by
 have s0:=(h.alloc hB #[Iv age] 3).ox [1];have b0:=(Below.refl B w).alloc hB (.cells #[Iv age] 3);have HB:=Lib.hid (show ∀ W,Below B w W→B≤W.heap.size from fun _ b=>Nat.le_trans hB b.size);have hl:=look_s (HB.out _ b0) hL.len hk s0;have HM:=Lib.hid (And.intro hL (And.intro hk hN));clear h hk hN hL s0;go_enter Tryz.func78,Tryz.ntmps78;go_wp2_with fail;generalize w.alloc (.cells #[Iv age] 3)=w0 at*;generalize w.heap.size=q at*;refine hl.mono ?_;rintro e w1 ⟨A,c,r,rfl,s1,b1⟩;clear hl;replace b1:=b0.trans b1;have hB1:=HB.out _ b1;have s2:=(s1.alloc hB1 #[.slice A m.length c,.map (some r)] 191).ox [1,1];have b2:=b1.alloc hB1 (.cells #[.slice A m.length c,.map (some r)] 191);have hr:=reach_s (HB.out _ b2) HM.out.1 HM.out.2.2 s2;have k0:=(s2.ord [2]).blk.cell 0;have k1:=(s2.ord [2]).blk.cell 1;clear s1 s2 b0;go_wp2_with fail;generalize w1.alloc (.cells #[.slice A m.length c,.map (some r)] 191)=w2 at*
 generalize w1.heap.size=v at*;refine hr.mono ?_;rintro e w3 ⟨A3,c3,rfl,s3,b3⟩;clear hr k0 k1;have b4:=b2.trans b3;have hB4:=HB.out _ b4
 have hdel:∀ (A5:Option Addr) (n5 c5:Nat) (xs:List Int),n5≤1000→(∀ x∈xs,x∈L.tail)→At B w3 (intO A5 n5 c5 xs::celR A m.length c m::mapR .i64 r (recsOf m k)::blkR v 191 #[.slice A m.length c,.map (some r)]::memR p size m::blkR q 3 #[Iv age]::R)→_:=fun A5 n5 c5 xs h5 hx hs=>
  deleteF_s (Y:=fun x=>x∈L.tail) (p:=stB m age) (f:=105) (cb:=#[Pz v,Pz q]) hB4 h5 stale1_cf hx (fun W ys x hW hx hs=>by
   have hs2:=hs.ox [3,4,1,1];exact(stale1_s (HM.out.1.recs x (List.mem_of_mem_tail hx)) HM.out.1.len rfl hW hs2).mono fun e w' ⟨he,hs',hb⟩=>⟨he,hs'.ord [4,2,2,0,1,0],hb⟩) hs
 have HD:=Lib.hid hdel;clear hdel
 rcases L with _ | ⟨x0,L2⟩
 ·have hmin:=fun ats ty=>min_ii (k:=.i64) (x:=1) (y:=0) (z:=0) (by omega) ats ty;have hd:=HD.out A3 0 c3 [] (by omega) (fun x hx=>by simp at hx) s3;simp only [List.length_nil] at s3;go_wp2_with fail;refine hd.mono ?_;rintro e w5 ⟨i,ys,rfl,hi,hy,s5,b5⟩;clear hd;have HY:=Lib.hid (And.intro hi hy);clear hi hy s3;go_wp2_with fail;go_ret;have v:=s5.ox [0,3];exact⟨_,i,_,ys,rfl,by have:=HY.out.1;have:=HM.out.2.2;omega,HY.out.2,v.cons fun _ h=>h.cons fun _ h=>h.drop.drop.drop.drop,b4.trans b5⟩
 ·have hll:(x0::L2).length=L2.length+1:=rfl;rw [hll] at s3;generalize hn2:L2.length=n2 at*;have hmin:=fun ats ty=>min_ii (k:=.i64) (x:=1) (y:=(n2:Int)+1) (z:=1) (by omega) ats ty;have hc3:n2+1≤c3:=by have hs:Sl w3 3 1 A3 (n2+1) c3 (ivs (x0::L2)) (fun x=>B≤x):=s3.get;exact hs.le
  have a1:(1:Int)≤(n2:Int)+1:=by omega
  have a2:(1:Int)≤(c3:Int):=by omega
  have hs:Sl w3 3 1 A3 (n2+1) c3 (ivs (x0::L2)) (fun x=>B≤x):=s3.get;obtain⟨g,off,rfl,-⟩:=hs.at (by omega);clear hs;have s4:=Sep.dropS s3 (k:=1) (by omega);rw [Nat.one_mul,show n2+1-1=n2 by omega,show(ivs (x0::L2)).drop 1=ivs L2 from rfl] at s4
  by_cases h1:c3=1
  ·subst h1;obtain rfl:n2=0:=by omega
   rw [if_pos rfl] at s4;have hd:=HD.out (some ⟨g,off,none⟩) 0 0 L2 (by have:=HM.out.2.2;simp at this;omega) (fun x hx=>hx) s4;clear s4;go_wp2_with fail;refine hd.mono ?_;rintro e w5 ⟨i,ys,rfl,hi,hy,s5,b5⟩;clear hd;have HY:=Lib.hid (And.intro hi hy);clear hi hy s3;go_wp2_with fail;go_ret;have v:=s5.ox [0,3];exact⟨_,i,_,ys,rfl,by have:=HY.out.1;have:=HM.out.2.2;simp at this;omega,HY.out.2,v.cons fun _ h=>h.cons fun _ h=>h.drop.drop.drop.drop,b4.trans b5⟩
  ·rw [if_neg h1,show(some (⟨g,off,none⟩:Addr)).map (·.add 1)=some ⟨g,off+1,none⟩ from rfl] at s4;have hd:=HD.out (some ⟨g,off+1,none⟩) n2 (c3-1) L2 (by have:=HM.out.2.2;simp at this;omega) (fun x hx=>hx) s4;clear s4;go_wp2_with fail;refine hd.mono ?_;rintro e w5 ⟨i,ys,rfl,hi,hy,s5,b5⟩;clear hd;have HY:=Lib.hid (And.intro hi hy);clear hi hy s3;go_wp2_with fail;go_ret;have v:=s5.ox [0,3];exact⟨_,i,_,ys,rfl,by have:=HY.out.1;have:=HM.out.2.2;simp at this;omega,HY.out.2,v.cons fun _ h=>h.cons fun _ h=>h.drop.drop.drop.drop,b4.trans b5⟩
end
theorem stable_hob (r:Nat) (o:Obj):Stable (fun w R=>(w.heap[r]? =some o∧r<w.heap.size)∧R r):=
 ⟨fun h hS=>⟨h.1,hS _ h.2⟩,fun h hm hd=>⟨⟨(hm.block r h.1.2 (hd _ h.2)).trans h.1.1,Nat.lt_of_lt_of_le h.1.2 hm.size⟩,h.2⟩,fun h=>⟨h.1,h.2,h.1.2⟩⟩
def hobR (r:Nat) (o:Obj):Res:=⟨fun w R=>(w.heap[r]? =some o∧r<w.heap.size)∧R r,stable_hob r o⟩
section
variable {B r:Nat} {w:World} {R:List Res} {o o':Obj}
theorem hob_get (h:At B w (hobR r o::R)):w.heap[r]? =some o:=h.get.1.1
theorem hob_alloc (h:At B w R) (hB:B≤w.heap.size) (o:Obj):At B (w.alloc o) (hobR w.heap.size o::R):=
 h.made (fun x hx=>Nat.le_trans hB hx) ((Below.refl _ w).alloc (Nat.le_refl _) _) ⟨⟨heap_alloc_new w o,by simp⟩,Nat.le_refl _,by simp⟩
theorem hob_set (hB:B≤w.heap.size) (h:At B w (hobR r o::R)):At B (ChangeMaps.setBlock w r o') (hobR r o'::R)∧Below B w (ChangeMaps.setBlock w r o'):=by
 obtain⟨S,⟨⟨h1,h1'⟩,h2⟩,h3,h4⟩:=h.frontAny fun x hx=>Nat.le_trans hB hx;have hm:Mod S w (ChangeMaps.setBlock w r o'):=(mod_setObj (r:=r) w o').mono fun b hb=>hb▸h2;exact⟨h4 (hobR r o') _ ⟨⟨by simp [ChangeMaps.setBlock,h1'],by simpa [ChangeMaps.setBlock] using h1'⟩,grow_left _ h2⟩ hm,hm.below hB fun b hb=>(h3 b hb).1⟩
theorem map_hob {l:List (Int×Value)} (h:At B w (mapR .i64 r l::R)):∃ es c,MapKept.Stamped es c∧IsL .i64 es.toList l∧At B w (hobR r (.map es c)::R):=by
 obtain⟨S,h1,⟨⟨es,c,hb,hs,hl⟩,h2⟩,h3⟩:=h;have hlt:r<w.heap.size:=IsMap.lt ⟨es,c,hb,hs,hl⟩;exact⟨es,c,hs,hl,S,h1,⟨⟨hb,hlt⟩,h2⟩,h3⟩
end
theorem rec_entry {m:List Int} {k:Nat} {es:Array MapEntry} {e:MapEntry} (hl:IsL .i64 es.toList (recsOf m k)) (he:e∈es.toList):∃ a,isRec k a∧e.key=Iv a∧e.val=recV m a:=by
 have h:(e.key,e.val)∈(recsOf m k).map fun x=>(Iv x.1,x.2):=by
  rw [← show es.toList.map (fun e=>(e.key,e.val))=_ from hl];exact List.mem_map.2 ⟨e,he,rfl⟩
 obtain⟨x,hx,hx'⟩:=List.mem_map.1 h;unfold recsOf at hx;obtain⟨i,hi,rfl⟩:=List.mem_map.1 hx;simp only [Prod.mk.injEq] at hx';have:=List.mem_range.1 hi;exact⟨3+5*(i:Int),by unfold isRec;omega,hx'.1.symm,hx'.2.symm⟩
def SndOk (m:List Int) (k:Nat) (L:List Int):Prop:=∀ a,isRec k a→(a∈L→ld m (a+1)≠0)∧(a∉L→ld m (a+1)=1→ld m a= -1)
section
variable {B p:Nat} {w:World} {size:Int} {m:List Int} {R:List Res} {k:Nat} {L:List Int}
set_option maxHeartbeats 4000000 in
theorem Sound_s (hB:B≤w.heap.size) (hL:ChL m k L) (hk:k≤1000) (hN:L.length≤1000) (hS:SndOk m k L) (h:At B w (memR p size m::R)):
  Calls Tryz.prog 71 #[Pz p] w fun e w'=>e=.returned (.int .u16 0)∧At B w' (memR p size m::R)∧Below B w w':=by
 have HB:=Lib.hid (show ∀ W,Below B w W→B≤W.heap.size from fun _ b=>Nat.le_trans hB b.size);have hl:=look_s hB hL.len hk h;have HM:=Lib.hid (And.intro hL (And.intro hk (And.intro hN hS)));clear h hk hN hL hS;go_enter Tryz.func71,Tryz.ntmps71;go_wp2_with fail;refine hl.mono ?_;rintro e w1 ⟨A,c,r,rfl,s1,b1⟩;clear hl;have hB1:=HB.out _ b1;have s2:=(s1.alloc hB1 #[.slice A m.length c,.map (some r)] 191).ox [1,1];have b2:=b1.alloc hB1 (.cells #[.slice A m.length c,.map (some r)] 191);have hr:=reach_s (HB.out _ b2) HM.out.1 HM.out.2.2.1 s2;have k0:=(s2.ord [2]).blk.cell 0;have k1:=(s2.ord [2]).blk.cell 1;clear s1 s2 b1;go_wp2_with fail;generalize w1.alloc (.cells #[.slice A m.length c,.map (some r)] 191)=w2 at*;generalize w1.heap.size=v at*;refine hr.mono ?_;rintro e w3 ⟨A3,c3,rfl,s3,b3⟩;clear hr k0 k1;have b4:=b2.trans b3;have hB4:=HB.out _ b4;have s3':=s3.ord [2,0,1];simp only [ordL,List.getElem?_cons_zero,List.getElem?_cons_succ,List.eraseIdx_cons_succ,List.eraseIdx_cons_zero] at s3'
 obtain⟨es,clk,hst,hil,s4⟩:=map_hob s3';have k1:=(s4.ord [2]).blk.cell 1;have hrg:=run_range_map (P:=Tryz.prog) w3 189 3 195 r es clk mapIR (hob_get s4);have s5:=hob_alloc s4 hB4 (.mapIter (some r) clk #[] clk);have b5:=b4.alloc hB4 (.mapIter (some r) clk #[] clk);have HST:=Lib.hid (And.intro hst hil);clear s3 s3' s4 b2 b3 b4 hst hil hB4;go_wp2_with fail;generalize w3.alloc (.mapIter (some r) clk #[] clk)=w4 at*;generalize w3.heap.size=it at*;clear k1 hrg
 go_loopg [6] (es.size+1) (fun gk vw wr=>∃ (seen:Array Nat) (c0:Nat),vw=.int .u16 0∧clk≤c0∧(leftOf es seen).size≤gk∧At B wr (hobR it (.mapIter (some r) clk seen c0)::hobR r (.map es clk)::intO A3 L.length c3 L::blkR v 191 #[.slice A m.length c,.map (some r)]::celR A m.length c m::memR p size m::R)∧Below B w wr)
 case atStart=>exact⟨#[],clk,rfl,Nat.le_refl _,Nat.le_trans (Array.size_filter_le ..) (Nat.le_succ _),s5,b5⟩
 case round=>
  clear s5 b5;obtain⟨seen,c0,rfl,hc0,hgk,s1,b1⟩:=hrel;have hBr:=HB.out _ b1;have HG:=Lib.hid hgk;clear hgk
  rcases run_next_at (P:=Tryz.prog) wr 0 it r clk c0 seen es clk (hob_get s1) (hob_get s1.drop) HST.out.1.1 hc0 with ⟨h0,hrun⟩ | ⟨en,hen,w5,hw5,hrun⟩
  ·clear h0;go_wp2_with fail;go_ret;have vv:=s1.ox [5];exact⟨rfl,vv.cons fun _ h=>h.drop.drop.drop.drop.drop,b1⟩
  ·have s5:At B w5 (hobR it (.mapIter (some r) clk seen c0)::hobR r (.map es clk)::intO A3 L.length c3 L::blkR v 191 #[.slice A m.length c,.map (some r)]::celR A m.length c m::memR p size m::R):=by
    rcases hw5 with rfl | rfl
    ·exact s1
    ·exact s1.drew
   have b5:Below B w w5:=by
    rcases hw5 with rfl | rfl
    ·exact b1
    ·exact b1.drew
   obtain⟨s6,e6⟩:=hob_set (o':=.mapIter (some r) clk (seen.push en.born) clk) (HB.out _ b5) s5;have b6:=b5.trans e6;have hl:=mem_left hen;have hent:=run_entry_at (P:=Tryz.prog) _ it r clk seen es clk en (hob_get s6) (hob_get s6.drop) hl.1 HST.out.1.2.1;obtain⟨a,ha,hk,hv⟩:=rec_entry HST.out.2 hl.1;rw [hk,hv] at hrun hent;unfold recV at hrun hent;have HSH:=Lib.hid (left_shrinks es seen en hen);generalize ChangeMaps.setBlock w5 it (.mapIter (some r) clk (seen.push en.born) clk)=w6 at*;have hB6:=HB.out _ b6;have s7:=(s6.alloc hB6 #[Iv (ld m a),Iv (ld m (a+1)),Iv (ld m (a+2)),Iv (ld m (a+3)),Iv (ld m (a+4))] 195);have b7:=b6.alloc hB6 (.cells #[Iv (ld m a),Iv (ld m (a+1)),Iv (ld m (a+2)),Iv (ld m (a+3)),Iv (ld m (a+4))] 195);have hs:Sl (w6.alloc (.cells #[Iv (ld m a),Iv (ld m (a+1)),Iv (ld m (a+2)),Iv (ld m (a+3)),Iv (ld m (a+4))] 195)) 3 1 A3 L.length c3 (ivs L) (fun x=>B≤x):=(s7.ord [3]).get
   have hct:=contains_any (c:=c3) (v:=a) _ hs.rd HM.out.2.2.1;obtain⟨hsa,hsb⟩:=HM.out.2.2.2 a ha;have x0:=s7.blk.cell 0;have x1:=s7.blk.cell 1;have S7:=Lib.hid (And.intro s7.drop b7);clear s1 b1 s5 b5 s6 e6 b6 s7 b7 hs hl hk hv ha hw5 hen hB6 hBr
   by_cases hin:a∈L
   ·have d1:(ld m (a+1)==0)=false:=by rw [beq_eq_false_iff_ne];exact hsa hin
    have hin':decide (a∈L)=true:=decide_eq_true hin;rw [hin'] at hct;clear hsa hsb hin hin';go_wp2_with fail;refine hct.mono ?_;rintro e w8 ⟨rfl,rfl⟩;clear hct;go_wp2_with fail;go_roundg (gk-1)
    case measure=>have:=HSH.out;have:=HG.out;omega
    case rel=>exact⟨_,clk,rfl,Nat.le_refl _,by have:=HSH.out;have:=HG.out;omega,S7.out⟩
   ·have hin':decide (a∈L)=false:=decide_eq_false hin;rw [hin'] at hct;have hb:=hsb hin;clear hsa hsb hin hin'
    by_cases h1:ld m (a+1)=1
    ·have d1:(ld m (a+1)==1)=true:=by rw [h1];rfl
     have d2:(ld m a != -1)=false:=by rw [hb h1];rfl
     clear hb h1;go_wp2_with fail;refine hct.mono ?_;rintro e w8 ⟨rfl,rfl⟩;clear hct;go_wp2_with fail;go_roundg (gk-1)
     case measure=>have:=HSH.out;have:=HG.out;omega
     case rel=>exact⟨_,clk,rfl,Nat.le_refl _,by have:=HSH.out;have:=HG.out;omega,S7.out⟩
    ·have d1:(ld m (a+1)==1)=false:=by rw [beq_eq_false_iff_ne];exact h1
     clear hb h1;go_wp2_with fail;refine hct.mono ?_;rintro e w8 ⟨rfl,rfl⟩;clear hct;go_wp2_with fail;go_roundg (gk-1)
     case measure=>have:=HSH.out;have:=HG.out;omega
     case rel=>exact⟨_,clk,rfl,Nat.le_refl _,by have:=HSH.out;have:=HG.out;omega,S7.out⟩
end
theorem chain_cong {f g:Int→Int}:∀ {L:List Int} {h:Int},Chain f h L→(∀ a,a∈L→g a=f a)→Chain g h L
 | [],_,c,_=>c
 | a::l,_,c,h=>⟨c.1,c.2.1,by rw [h a List.mem_cons_self];exact chain_cong c.2.2 fun x hx=>h x (List.mem_cons_of_mem _ hx)⟩
structure Mo where
 p:Nat
 z:Int
 m:List Int
abbrev moR (x:Mo):Res:=memR x.p x.z x.m
def Bg (age:Int) (N:Nat) (ab:Abs) (l:List (Int×Value)) (Ms:List Mo):Prop:=
 ∀ (i:Nat),i<N→41≤(ab.T i).pc→(ab.T i).pc≤48→∃ x,x∈Ms∧getL (i:Int) l=some (Pz x.p)∧∃ k0 L0,ChL x.m k0 L0∧k0≤1000∧L0.length≤1000∧∀ y,y∈L0.tail→stB x.m age y=false→ab.S i y
def SwOk (age:Int) (m m':List Int) (th:Int) (l:List (Int×Value)) (Ms:List Mo) (L':List Int):Prop:=
 ld m 0=0∨ld m' 0≠0∨∃ x,x∈Ms∧getL th l=some (Pz x.p)∧∃ k0 L0,ChL x.m k0 L0∧k0≤1000∧L0.length≤1000∧∀ y,y∈L0.tail→stB x.m age y=false→y∈L'.tail→stB m' age y=false→False
section
variable {cf:Cf} {N b k:Nat} {T T':List Th} {s s':Wst} {ab ab':Abs} {L L':List Int} {e:Et} {l:List (Int×Value)} {Ms:List Mo}
theorem Jn.chl (j:Jn cf N b T s ab L):ChL s.m ab.M.k L:=by
 have hm:=j.inv.inv.mem;refine⟨j.view.len,?_,hm.c2,hm.c3⟩;rw [j.view.head];exact chain_cong hm.c1 fun a ha=>j.view.nxt a (hm.c2 a ha)
theorem Jn.cnt (j:Jn cf N b T s ab L):ab.M.k≤N∧L.length≤N:=by
 have hm:=j.inv.inv.mem;have h1:=recs_le j.inv.inv;have h2:=nodup_le (l:=L) (l':=recL ab.M.k) hm.c3 fun x hx=>recL_rec.2 (hm.c2 x hx);rw [recL_len] at h2;exact⟨h1,by omega⟩
theorem Jn.snd (j:Jn cf N b T s ab L):SndOk s.m ab.M.k L:=by
 intro a ha;rw [j.view.act a ha,j.view.req a ha];refine⟨fun h=>j.inv.inv.mem.a5 a h,fun h h1=>?_⟩
 rcases j.inv.inv.glob.a6 a h1 with h2 | ⟨i,hi,hp,rfl⟩
 ·exact absurd h2 h
 ·exact((j.inv.inv.loc i hi).a7 hp).2.2
theorem Jn.stale (j:Jn cf N b T s ab L) (hb:b≤100000) {y:Int} (hy:y∈L.tail) (h:stB s.m cf.age y=false):Stale ab.M L cf.age y:=by
 have hr:=j.inv.inv.mem.c2 y (List.mem_of_mem_tail hy);unfold stB at h;rw [j.view.act y hr,j.view.req y hr,j.view.pass,j.view.age y hr] at h;have b1:=j.inv.bd.pass;have b2:=j.inv.bd.age y;rw [wrap_small (by omega) (by omega)] at h;simp only [Bool.or_eq_false_iff,bne_eq_false_iff_eq,decide_eq_false_iff_not] at h;exact⟨hy,h.1.1,h.1.2,h.2⟩
theorem Jn.kept (j:Jn cf N b T s ab L) (n:Nx N cf.age e ab L ab' L'):∀ y,y∈L→0<ld s.m y→y∈L':=by
 intro y hy h;rw [j.view.req y (j.inv.inv.mem.c2 y hy)] at h;exact n.kept y hy h
theorem Bg.stay (g:Bg cf.age N ab l Ms) (n:Nx N cf.age e ab L ab' L') (h:∀ (i:Nat),e.kind=2→e.th=(i:Int)→i<N→(ab.T i).pc≠40):Bg cf.age N ab' l Ms:=by
 intro i hi h1 h2;have hs:ab'.S i=ab.S i:=n.s0 i fun⟨a,b,c⟩=>h i a b hi c;rw [hs]
 rcases n.sw i hi h1 h2 with h3 | ⟨h3,h4,h5,h6⟩
 ·exact g i hi (by omega) (by omega)
 ·exact g i hi (by have:=h i h3 h4 hi;omega) h6
theorem Bg.put (g:Bg cf.age N ab l Ms) (j':Jn cf N (b+1) T' s' ab' L') (hN:N≤1000) (hb:b<100000) (n:Nx N cf.age e ab L ab' L') {i0:Nat} (hi0:i0<N) (h2:e.kind=2) (h3:e.th=(i0:Int)) (h4:(ab.T i0).pc=40) (q:Nat) (z:Int):
  Bg cf.age N ab' (setL (i0:Int) (Pz q) l) (⟨q,z,s'.m⟩::Ms):=by
 intro i hi h5 h6
 by_cases e1:i=i0
 ·subst e1;have hc:=j'.cnt;refine⟨_,List.mem_cons_self,by rw [getL_setL,if_pos rfl],ab'.M.k,L',j'.chl,by omega,by omega,fun y hy hst=>?_⟩;exact n.s1 i hi h2 h3 h4 y (j'.stale (by omega) hy hst)
 ·have hs:ab'.S i=ab.S i:=n.s0 i fun⟨_,b,_⟩=>by omega
  rw [hs,getL_setL,if_neg (by omega)]
  have hg:41≤(ab.T i).pc∧(ab.T i).pc≤48:=by
   rcases n.sw i hi h5 h6 with h7 | ⟨_,h8,_⟩
   ·omega
   ·omega
  obtain⟨x,hx,hr⟩:=g i hi hg.1 hg.2;exact⟨x,List.mem_cons_of_mem _ hx,hr⟩
theorem Bg.swept (g:Bg cf.age N ab l Ms) (j:Jn cf N b T s ab L) (j':Jn cf N (b+1) T' s' ab' L') (hb:b<100000) (n:Nx N cf.age e ab L ab' L'):SwOk cf.age s.m s'.m e.th l Ms L':=by
 unfold SwOk;rw [j.view.lock,j'.view.lock]
 by_cases h0:ab.M.lock=0
 ·exact .inl h0
 ·by_cases h1:ab'.M.lock=0
  ·right;right
   obtain⟨k,hk,h2,h3,h4,h5⟩:=n.un h0 h1;obtain⟨x,hx,hl,k0,L0,hc,hk0,hL0,hst⟩:=g k hk (by omega) (by omega);refine⟨x,hx,by rw [h3];exact hl,k0,L0,hc,hk0,hL0,fun y hy hs hy' hs'=>?_⟩;have h6:=j.inv.swept hk h4 y (hst y hy hs);have h7:=(j'.stale (by omega) hy' hs').2.2.1;rw [h5] at h7;exact h6 h7
  ·exact .inr (.inl h1)
theorem Nx.held (n:Nx N cf.age e ab L ab' L') (j:Jn cf N b T s ab L) (j':Jn cf N (b+1) T' s' ab' L') {i0:Nat} (h3:e.th=(i0:Int)) (h4:(ab.T i0).pc=40):ld s.m 0=0∨ld s'.m 0≠0:=by
 rw [j.view.lock,j'.view.lock]
 by_cases h0:ab.M.lock=0
 ·exact .inl h0
 ·by_cases h1:ab'.M.lock=0
  ·obtain⟨k,hk,h2,h5,h6,-⟩:=n.un h0 h1;have:k=i0:=by omega
   subst this;omega
  ·exact .inr h1
end
theorem Sep.perm {w:World} {l l':List Res} (p:l.Perm l'):∀ {U:Nat→Prop},Sep w U l→Sep w U l':=by
 induction p with
 | nil=>exact fun h=>h
 | cons x p ih=>exact fun h=>h.cons fun _ h=>ih h
 | swap x y l=>exact fun h=>h.rot2
 | trans p q ih1 ih2=>exact fun h=>ih2 (ih1 h)
theorem Sep.toE {w:World} {U:Nat→Prop} {W T E:List Res} (h:Sep w U (W++(T++E))):Sep w U (E++(W++T)):=
 Sep.perm (by rw [← List.append_assoc];exact List.perm_append_comm) h
theorem Sep.toW {w:World} {U:Nat→Prop} {W T E:List Res} (h:Sep w U (E++(W++T))):Sep w U (W++(T++E)):=
 Sep.perm (by rw [← List.append_assoc W T E];exact List.perm_append_comm) h
end Go.Proofs.YtadgbhjpgnlmoaaGreat
