/- TopSafe, a part of its proof; no conditions. -/
import Derived.Lib.SliceRun
import Derived.Test.YtadgbhjpgnlmoaaGreatPk42
set_option linter.all false
namespace Go.Proofs.YtadgbhjpgnlmoaaGreat
open Go.RowKit Go.Rp Go.Sf
set_option maxRecDepth 100000
theorem arr_at (w:World) (g o:Nat):(Instr.arrayAt 240 (.slice (some ⟨g,o,none⟩) 5 5)).run Tryz.prog w=.ok (.pointer (some ⟨g,o,none⟩)) w:=by kernel_rfl
set_option maxHeartbeats 2000000 in
theorem see_in {B p:Nat} {w:World} {size:Int} {m:List Int} {L:List Res} (hB:B≤w.heap.size) {k:Nat} (hk:(k:Int)<manyOf m) (hb:k≤100000) (hl:3+5*k+5≤m.length) (h:At B w (memR p size m::L)):
  Calls Tryz.prog 112 #[Pz p,Iv (3+5*(k:Int))] w fun e w'=>e=.returned (.tuple #[.agg #[Iv (ld m (3+5*(k:Int))),Iv (ld m (3+5*(k:Int)+1)),Iv (ld m (3+5*(k:Int)+2)),Iv (ld m (3+5*(k:Int)+3)),Iv (ld m (3+5*(k:Int)+4))],.bool true])∧At B w' (memR p size m::L)∧Below B w w':=by
 have s0:=(h.alloc hB #[Iv 0,Iv 0,Iv 0,Iv 0,Iv 0] 195).ox [1];have b0:=(Below.refl B w).alloc hB (.cells #[Iv 0,Iv 0,Iv 0,Iv 0,Iv 0] 195);have hB0:=Nat.le_trans hB b0.size;have hn:=nth_in hB0 hk hb s0;clear h;obtain⟨q,hq⟩:∃ q:Nat,q=3+5*k:=⟨_,rfl⟩;have hqi:3+5*(k:Int)=(q:Int):=by omega
 rw [hqi] at hn ⊢;have hl':q+5≤m.length:=by omega
 have HL:=Lib.hid hl'
 have Y0:=Lib.hid (show ∀ j:Nat,j<5→(i64s m)[q+j]? =some (Iv (ld m ((q:Int)+(j:Int)))) from fun j hj=>by
  have h1:q+j<m.length:=by omega
  have h2:inb m ((q:Int)+(j:Int)):=⟨by omega,by omega⟩;have h3:((q:Int)+(j:Int)).toNat=q+j:=by omega
  simp [i64s,ld,h2,h3,h1])
 clear hl hl' hk hb hq hqi;go_enter Tryz.func112,Tryz.ntmps112;go_wp2_with fail;refine hn.mono ?_;rintro e w1 ⟨rfl,s1,b1⟩;go_wp2_with fail;have hB1:=Nat.le_trans hB0 b1.size;refine(cells_s hB1 s1).mono ?_;rintro e w2 ⟨A,c,rfl,s2,b2⟩;have hs:Sl w2 _ 1 A m.length c _ (fun x=>B≤x):=s2.get;obtain⟨g,off,rfl,hg,hlt,hz,hc⟩:=hs.at (by have:=HL.out;omega);have hcl:m.length≤c:=hs.2.1;have r0:w2.cell? ⟨g,off+q,none⟩=some (Iv (ld m (q:Int))):=hc q _ (by have:=Y0.out 0 (by omega);simpa using this);have r1:w2.cell? ⟨g,off+q+1,none⟩=some (Iv (ld m ((q:Int)+1))):=by rw [Nat.add_assoc];exact hc _ _ (Y0.out 1 (by omega))
 have r2:w2.cell? ⟨g,off+q+2,none⟩=some (Iv (ld m ((q:Int)+2))):=by rw [Nat.add_assoc];exact hc _ _ (Y0.out 2 (by omega))
 have r3:w2.cell? ⟨g,off+q+3,none⟩=some (Iv (ld m ((q:Int)+3))):=by rw [Nat.add_assoc];exact hc _ _ (Y0.out 3 (by omega))
 have r4:w2.cell? ⟨g,off+q+4,none⟩=some (Iv (ld m ((q:Int)+4))):=by rw [Nat.add_assoc];exact hc _ _ (Y0.out 4 (by omega))
 have a1:(0:Int)≤(q:Int):=by omega
 have a2:(q:Int)+5≤(m.length:Int):=by have:=HL.out;omega
 have a3:(q:Int)+5≤(c:Int):=by omega
 have a4:IntKind.i64.wrap ((q:Int)+5)=(q:Int)+5:=by rw [IntKind.wrap_i64];have:=hs.2.2.1;simp only [maxLen] at this;omega
 have a5:((q:Int)+5).toNat=q+5:=by omega
 clear hc hs;have ha:=arr_at w2 g (off+q);have o2:=s2.ox [2];have hB2:=Nat.le_trans hB1 b2.size;have y0:w2.cell? ⟨w.heap.size,0,none⟩=some (Iv 0):=o2.blk.cell 0;have y1:w2.cell? ⟨w.heap.size,1,none⟩=some (Iv 0):=o2.blk.cell 1;have y2:w2.cell? ⟨w.heap.size,2,none⟩=some (Iv 0):=o2.blk.cell 2;have y3:w2.cell? ⟨w.heap.size,3,none⟩=some (Iv 0):=o2.blk.cell 3;have y4:w2.cell? ⟨w.heap.size,4,none⟩=some (Iv 0):=o2.blk.cell 4;have fr:=fun i=>o2.blk.frozen i;have lt2:=World.block_lt_of_cell? w2 _ y0;have ne2:w2.heap.size≠w.heap.size:=by simp only at lt2;omega
 have ne3:=ne2.symm;obtain⟨t0,e0⟩:=bset hB2 o2 0 (Iv (ld m (q:Int)));obtain⟨t1,e1⟩:=bset (Nat.le_trans hB2 e0.size) t0 1 (Iv (ld m ((q:Int)+1)));obtain⟨t2,e2⟩:=bset (Nat.le_trans hB2 (e0.trans e1).size) t1 2 (Iv (ld m ((q:Int)+2)));obtain⟨t3,e3⟩:=bset (Nat.le_trans hB2 ((e0.trans e1).trans e2).size) t2 3 (Iv (ld m ((q:Int)+3)));obtain⟨t4,e4⟩:=bset (Nat.le_trans hB2 (((e0.trans e1).trans e2).trans e3).size) t3 4 (Iv (ld m ((q:Int)+4)));have b4:=((b0.trans b1).trans b2).trans ((((e0.trans e1).trans e2).trans e3).trans e4);have hB4:=Nat.le_trans hB b4.size;have t5:=Sep.drop (t4.alloc hB4 #[Iv (ld m (q:Int)),Iv (ld m ((q:Int)+1)),Iv (ld m ((q:Int)+2)),Iv (ld m ((q:Int)+3)),Iv (ld m ((q:Int)+4))] 240);have b5:=b4.alloc hB4 (.cells #[Iv (ld m (q:Int)),Iv (ld m ((q:Int)+1)),Iv (ld m ((q:Int)+2)),Iv (ld m ((q:Int)+3)),Iv (ld m ((q:Int)+4))] 240);have x0:=t5.blk.cell 0;have x1:=t5.blk.cell 1;have x2:=t5.blk.cell 2
 have x3:=t5.blk.cell 3;have x4:=t5.blk.cell 4;have T5:=Lib.hid (And.intro t5 (And.intro b5 (And.intro x0 (And.intro x1 (And.intro x2 (And.intro x3 x4))))));clear t0 t1 t2 t3 t4 t5 e0 e1 e2 e3 e4 o2 b4 b5 x0 x1 x2 x3 x4 hB4;go_wp2_with fail;obtain⟨t5,b5,x0,x1,x2,x3,x4⟩:=T5.out;refine bodyPost_ret (v:=.tuple #[.agg #[Iv (ld m (q:Int)),Iv (ld m ((q:Int)+1)),Iv (ld m ((q:Int)+2)),Iv (ld m ((q:Int)+3)),Iv (ld m ((q:Int)+4))],.bool true]) (by simp [results,Tryz.results112,go_sem,x0,x1,x2,x3,x4]) rfl ?_;exact⟨rfl,Sep.drop (Sep.drop t5),b5⟩
def recV (m:List Int) (a:Int):Value:=.agg #[Iv (ld m a),Iv (ld m (a+1)),Iv (ld m (a+2)),Iv (ld m (a+3)),Iv (ld m (a+4))]
def recsOf (m:List Int) (k:Nat):List (Int×Value):=(List.range k).map fun(i:Nat)=>(3+5*(i:Int),recV m (3+5*(i:Int)))
theorem recsOf_succ (m:List Int) (k:Nat):recsOf m (k+1)=setL (3+5*(k:Int)) (recV m (3+5*(k:Int))) (recsOf m k):=by
 have h:∀ (x:Int) (v:Value) (l:List (Int×Value)),(∀ y∈l,y.1≠x)→setL x v l=l++[(x,v)]:=by
  intro x v l
  induction l with
  | nil=>intro _;rfl
  | cons a l ih=>
   intro h;rw [setL,if_neg (h a List.mem_cons_self),ih fun y hy=>h y (List.mem_cons_of_mem _ hy)]
   rfl
 rw [h]
 ·unfold recsOf;rw [List.range_succ,List.map_append];rfl
 ·intro y hy;unfold recsOf at hy;obtain⟨i,hi,rfl⟩:=List.mem_map.1 hy;have:=List.mem_range.1 hi;simp only;omega
theorem mapIR:Tryz.prog.underlying 189=some (.map 3 195):=by kernel_rfl
theorem mk_recs (w:World):(Instr.makeMap 189 none).run Tryz.prog w=.ok (.map (some w.heap.size)) (w.alloc (.map #[] 0)):=by kernel_rfl
section
variable {B p:Nat} {w:World} {size:Int} {m:List Int} {L:List Res} {k:Nat}
theorem many_of (hm:(m.length:Int)=3+5*(k:Int)):manyOf m=(k:Int):=by unfold manyOf;rw [hm];omega
set_option maxHeartbeats 2000000 in
theorem look_s (hB:B≤w.heap.size) (hm:(m.length:Int)=3+5*(k:Int)) (hk:k≤1000) (h:At B w (memR p size m::L)):
  Calls Tryz.prog 96 #[Pz p] w fun e w'=>∃ A c r,e=.returned (.agg #[.slice A m.length c,.map (some r)])∧At B w' (celR A m.length c m::mapR .i64 r (recsOf m k)::memR p size m::L)∧Below B w w':=by
 have s1:=(h.alloc hB #[.slice none 0 0,.map none] 191).ox [1];have b1:=(Below.refl B w).alloc hB (.cells #[.slice none 0 0,.map none] 191);have hB1:=Nat.le_trans hB b1.size;have hc:=cells_s hB1 s1;have HB:=Lib.hid (show ∀ W,Below B w W→B≤W.heap.size from fun _ b=>Nat.le_trans hB b.size);have HM:=Lib.hid hm;have HK:=Lib.hid hk;clear h hm hk;generalize hnn:m.length=n at*;go_enter Tryz.func96,Tryz.ntmps96;go_wp2_with fail;generalize w.alloc (.cells #[.slice none 0 0,.map none] 191)=w1 at*;generalize w.heap.size=q at*;refine hc.mono ?_;rintro e w2 ⟨A,c,rfl,s2,b2⟩;have b3:=b1.trans b2;have hB2:=HB.out _ b3;have s3:=Sep.allocMap s2 hB2 .i64;have b4:=b3.alloc hB2 (.map #[] 0);have hB4:=HB.out _ b4;have s5:=s3.alloc hB4 #[.slice A n c,.map (some w2.heap.size)] 191;have b5:=b4.alloc hB4 (.cells #[.slice A n c,.map (some w2.heap.size)] 191);have hB5:=HB.out _ b5;rw [World.size_alloc] at s5;have hmk:=mk_recs w2
 clear hc s1 s2 s3 b1 b2 b3 b4 hB2 hB4 hB1;go_wp2_with fail;clear hmk;generalize (w2.alloc (.map #[] 0)).alloc (.cells #[.slice A n c,.map (some w2.heap.size)] 191)=w3 at*;generalize w2.heap.size+1=v at*;generalize w2.heap.size=r at*;have s6:=s5.ox [3];have hmn:=many_s hB5 s6;rw [many_of (k:=k) (by rw [hnn];exact HM.out)] at hmn;clear s5;refine hmn.mono ?_;rintro e w4 ⟨rfl,s7,b7⟩;have b8:=b5.trans b7;clear hmn s6 b5 b7 hB5;go_wp2_with fail
 go_loopg [12] k (fun gk vi wr=>∃ (i:Nat),i≤k∧vi=Iv (i:Int)∧k-i≤gk∧At B wr (memR p size m::blkR v 191 #[.slice A n c,.map (some r)]::mapR .i64 r (recsOf m i)::celR A n c m::blkR q 191 #[.slice none 0 0,.map none]::L)∧Below B w wr)
 case atStart=>exact⟨0,by omega,rfl,by omega,s7,b8⟩
 case round=>
  clear s7 b8;obtain⟨i,hi,rfl,hgk,s7,b8⟩:=hrel;have hBr:=HB.out _ b8
  by_cases hlt:i<k
  ·have hltz:(i:Int)<(k:Int):=by omega
   have hw:IntKind.i64.wrap ((i:Int)+1)=(i:Int)+1:=by have:=HK.out;rw [IntKind.wrap_i64];omega
   have hb:=base_any wr (i:Int);rw [show Sf.base (i:Int)=3+5*(i:Int) by unfold Sf.base;rw [if_neg (by have:=HK.out;omega)]] at hb;have HG:=Lib.hid hgk;clear hgk;go_wp2_with fail;refine hb.mono ?_;rintro e w5 ⟨rfl,rfl⟩;clear hb;go_wp2_with fail;have s8:=s7.drew;have b9:=b8.drew;have hBd:B≤wr.drew.heap.size:=hBr;have n1:wr.drew.cell? ⟨v,1,none⟩=some (.map (some r)):=(s8.ord [1]).blk.cell 1;have hse:=see_in hBd (k:=i) (by rw [many_of (k:=k) (by rw [hnn];exact HM.out)];omega) (by have:=HK.out;omega) (by have:=HM.out;omega) s8;generalize ha:3+5*(i:Int)=a at*;refine wp_region_held_drew (S:=fun w'=>w'.cell? ⟨v,1,none⟩=some (.map (some r))) (by kernel_rfl) n1 fun hHeld=>?_;refine Rp.tk 0 hHeld ?_;refine Rp.tk 1 hHeld ?_;refine Rp.tk 2 hHeld ?_;refine Rp.tk 3 hHeld ?_;refine Rp.tk 4 hHeld ?_;refine Rp.rd 5 fun K hK=>?_;go_simp;refine hse.mono ?_;rintro e w6 ⟨rfl,s9,b10⟩;have b11:=b9.trans b10;have n1:=(s9.ord [1]).cv 1 (.map (some r))
   refine gon hK n1 fun hHeld=>?_;clear hK K;refine Rp.tk 6 hHeld ?_;refine Rp.tk 7 hHeld ?_;refine Rp.tk 8 hHeld ?_;refine Rp.rd 9 fun K hK=>?_;have s10:=s9.ox [2];obtain⟨w7,hu,s11,e11⟩:=mapPut mapIR intI (HB.out _ b11) s10 a (recV m a);unfold recV at hu;go_simp;have s12:=s11.ox [1,1,0];have n2:=(s12.ord [1]).cv 1 (.map (some r));refine gon hK n2 fun hHeld=>?_;clear hK K;refine wpAnyH_done (by kernel_rfl) ?_ _;clear hHeld n1 n2 hu s7 s8 s9 s10 s11 hse;go_wp2_with fail;go_roundg (gk-1)
   case measure=>have:=HG.out;omega
   case rel=>
    refine⟨i+1,by omega,by go_num,by have:=HG.out;omega,?_,b11.trans e11⟩;rw [recsOf_succ,ha];exact s12
  ·have hltz:¬ (i:Int)<(k:Int):=by omega
   obtain rfl:i=k:=by omega
   clear hgk;have v0:=(s7.ord [1]).blk.cell 0;have v1:=(s7.ord [1]).blk.cell 1;have y:=s7.ox [4];have y0:=y.blk.cell 0;have y1:=y.blk.cell 1;have f0:=y.blk.frozen 0;have f1:=y.blk.frozen 1;obtain⟨t0,e0⟩:=bset hBr y 0 (.slice A n c);obtain⟨t1,e1⟩:=bset (HB.out _ (b8.trans e0)) t0 1 (.map (some r));have x0:=t1.blk.cell 0;have x1:=t1.blk.cell 1;have T1:=Lib.hid (And.intro t1 (And.intro x0 x1));clear t0 t1 x0 x1 y;go_wp2_with fail;obtain⟨t1,x0,x1⟩:=T1.out;refine bodyPost_ret (v:=.agg #[.slice A n c,.map (some r)]) (by simp [results,Tryz.results96,go_sem,x0,x1]) rfl ?_;have z:=(Sep.drop t1).ox [3,2,0];exact⟨A,c,r,rfl,z.cons fun _ h=>h.cons fun _ h=>h.cons fun _ h=>h.drop,b8.trans (e0.trans e1)⟩
theorem at_any (w:World) {g off n c a:Nat} {v:Int} {M:Value} (ha:a<n) (hc:w.cell? ⟨g,off+a,none⟩=some (Iv v)):
  Calls Tryz.prog 106 #[.agg #[.slice (some ⟨g,off,none⟩) n c,M],Iv (a:Int)] w fun e w'=>e=.returned (Iv v)∧Below w.heap.size w w':=by
 have d1:¬ ((n:Int)≤(a:Int)):=by omega
 have d2:(a:Int)<(n:Int):=by omega
 have hlt:=World.block_lt_of_cell? w _ hc;have h1:(w.alloc (.cells #[.slice (some ⟨g,off,none⟩) n c,M] 191)).cell? ⟨g,off+a,none⟩=some (Iv v):=(World.cell?_alloc_lt _ _ _ hlt).trans hc;clear hc hlt ha;go_enter Tryz.func106,Tryz.ntmps106;go_wp2_with fail;go_ret;exact⟨rfl,(Below.refl _ _).alloc (Nat.le_refl _) _⟩
theorem info_intA:(Tryz.prog.info? 3).map (fun i=>(i.zero,i.size,i.bytes))=some (some (Iv 0),1,8):=by kernel_rfl
abbrev intO (A:Option Addr) (n c:Nat) (l:List Int):Res:=slRes 3 1 A n c (l.map (.int .i64 ·))
theorem recL_succ (k:Nat):recL (k+1)=recL k++[3+5*(k:Int)]:=by unfold recL;rw [List.range_succ,List.map_append];rfl
theorem recL_len (k:Nat):(recL k).length=k:=by simp [recL]
theorem records_s (hB:B≤w.heap.size) (hm:(m.length:Int)=3+5*(k:Int)) (hk:k≤1000) (h:At B w (memR p size m::L)):
  Calls Tryz.prog 99 #[Pz p] w fun e w'=>∃ A c,e=.returned (.slice A k c)∧At B w' (intO A k c (recL k)::memR p size m::L)∧Below B w w':=by
 obtain⟨i0,hi0,hz0,hz1,hz2⟩:=info_parts info_intA;have hmn:=many_s hB h;rw [many_of hm] at hmn;have HK:=Lib.hid hk;have HB:=Lib.hid (show ∀ W,Below B w W→B≤W.heap.size from fun _ b=>Nat.le_trans hB b.size);clear h hm hk;go_enter Tryz.func99,Tryz.ntmps99;go_wp2_with fail;refine hmn.mono ?_;rintro e w1 ⟨rfl,s1,b1⟩;clear hmn;go_wp2_with fail
 go_loopg [3,7] k (fun gk vl vi wr=>∃ (i:Nat) (A:Option Addr) (c:Nat),i≤k∧vi=Iv (i:Int)∧vl=.slice A i c∧k-i≤gk∧At B wr (intO A i c (recL i)::memR p size m::L)∧Below B w wr)
 case atStart=>exact⟨0,none,0,by omega,rfl,rfl,by omega,Sep.nilSl s1 3 1,b1⟩
 case round=>
  clear s1 b1;obtain⟨i,A,c,hi,rfl,rfl,hgk,s1,b1⟩:=hrel;have hBr:=HB.out _ b1
  by_cases hlt:i<k
  ·have hltz:(i:Int)<(k:Int):=by omega
   have hw:IntKind.i64.wrap ((i:Int)+1)=(i:Int)+1:=by have:=HK.out;rw [IntKind.wrap_i64];omega
   have hb:=base_any wr (i:Int);rw [show Sf.base (i:Int)=3+5*(i:Int) by unfold Sf.base;rw [if_neg (by have:=HK.out;omega)]] at hb;have HG:=Lib.hid hgk;have H63:=Lib.hid (show i+1≤maxLen by have:=HK.out;simp only [maxLen];omega);have HBY:=Lib.hid (show (i+1)*8≤140737488355328 by have:=HK.out;omega);clear hgk;generalize ha:3+5*(i:Int)=a at hb;go_wp2_with fail;refine hb.mono ?_;rintro e w5 ⟨rfl,rfl⟩;clear hb;have s5:=(s1.alloc hBr #[Iv a] 3).ox [1];have b5:=b1.alloc hBr (.cells #[Iv a] 3);have hle5:=HB.out _ b5;go_wp2_with (at_builtin;refine wpList_append_at rfl (.tmp 10) (.tmp 13) _ rfl 3 i0 _ 1 8 Tryz.underlying37 hi0 hz0 hz1 hz2 rfl (by omega) rfl s5 hle5 (· =wr.heap.size) (some ⟨wr.heap.size,0,none⟩) 1 1 [Iv a] rfl (by exact Rd.lit (sz:=1) wr 3 #[Iv a] 1 rfl) (by simp [Value.oneCell']) H63.out HBY.out ?_;intro A6 c6 w6 s6 b7;replace b7:=b5.trans b7;clear s5 b5);go_roundg (gk-1)
   case measure=>have:=HG.out;omega
   case rel=>
    refine⟨i+1,A6,c6,by omega,by go_num,rfl,by have:=HG.out;omega,?_,b7⟩;have v:=s6.ox [0,1];have hl:(recL (i+1)).map (fun x=>Iv x)=(recL i).map (fun x=>Iv x)++[Iv a]:=by rw [recL_succ,List.map_append,ha];rfl
    unfold intO;rw [hl];exact v.cons fun _ h=>h.cons fun _ h=>h.drop
  ·have hltz:¬ (i:Int)<(k:Int):=by omega
   obtain rfl:i=k:=by omega
   clear hgk;go_wp2_with fail;go_ret;exact⟨A,c,rfl,s1,b1⟩
end
abbrev ivs (l:List Int):List Value:=l.map (.int .i64 ·)
theorem ivs_at {l:List Int} {k:Nat} {x:Int} (h:l[k]? =some x):(ivs l)[k]? =some (Iv x):=by simp [h]
section
variable {A:Option Addr} {n c:Nat} {xs:List Int} {R:Nat→Prop} {v:Int}
theorem index_any (w:World) (hr:Rd w R 1 A n (ivs xs)) (hn:n≤1000):Calls Tryz.prog 102 #[.slice A n c,Iv v] w fun e w'=>(∃ r:Int,e=.returned (Iv r)∧(0≤r↔v∈xs))∧w=w':=by
 have hl:xs.length=n:=by simpa using hr.1
 have HL:=Lib.hid hl;have HN:=Lib.hid hn;clear hl hn;go_enter Tryz.func102,Tryz.ntmps102;go_wp2_with fail
 go_loopg [8] n (fun gk vi wr=>∃ (m:Nat),vi=Iv (m:Int)∧m≤n∧n-m≤gk∧Hid (∀ (j:Nat) (x:Int),j<m→xs[j]? =some x→x≠v)∧w=wr)
 case atStart=>exact⟨0,rfl,by omega,by omega,Lib.hid (fun j x h=>by omega),rfl⟩
 case round=>
  obtain⟨m,rfl,hm,hgk,HE,rfl⟩:=hrel;have HG:=Lib.hid hgk;clear hgk
  by_cases hlt:m<n
  ·have hltz:(m:Int)<(n:Int):=by omega
   have hw:IntKind.i64.wrap ((m:Int)+1)=(m:Int)+1:=by have:=HN.out;rw [IntKind.wrap_i64];omega
   obtain⟨g,off,rfl,-,hc⟩:=hr.at (by omega);obtain⟨x,hx⟩:∃ x,xs[m]? =some x:=⟨_,List.getElem?_eq_getElem (by rw [HL.out];exact hlt)⟩;have hcell:=hc _ _ (ivs_at hx);have HX:=Lib.hid hx
   by_cases hv:v=x
   ·have hd:(v==x)=true:=by simp [hv]
    have HV:=Lib.hid hv;clear hv hc hx;go_wp2_with fail;go_ret;exact⟨⟨_,rfl,fun _=>HV.out▸List.mem_of_getElem? HX.out,fun _=>by omega⟩,rfl⟩
   ·have hd:(v==x)=false:=by simp [hv]
    have HV:=Lib.hid hv;clear hv hc hx;go_wp2_with fail;go_roundg (gk-1)
    case measure=>have:=HG.out;omega
    case rel=>exact⟨m+1,by go_num,by omega,by have:=HG.out;omega,Lib.hid (fun j y hj hy=>by
      by_cases e:j=m
      ·subst e;rw [HX.out] at hy;cases hy;exact fun h=>HV.out h.symm
      ·exact HE.out j y (by omega) hy),rfl⟩
  ·have hltz:¬ (m:Int)<(n:Int):=by omega
   go_wp2_with fail;go_ret;refine⟨?_,rfl⟩
   have:¬ v∈xs:=fun h=>by
    obtain⟨j,hj,e⟩:=List.getElem_of_mem h;exact HE.out j v (by have:=HL.out;omega) (by rw [List.getElem?_eq_getElem hj,e]) rfl
   simpa using this
theorem contains_any (w:World) (hr:Rd w R 1 A n (ivs xs)) (hn:n≤1000):Calls Tryz.prog 75 #[.slice A n c,Iv v] w fun e w'=>e=.returned (.bool (decide (v∈xs)))∧w=w':=by
 have hi:=index_any (c:=c) (v:=v) w hr hn;clear hr hn;go_enter Tryz.func75,Tryz.ntmps75;go_wp2_with fail;refine hi.mono ?_;rintro e w1 ⟨⟨r,rfl,hr⟩,rfl⟩;clear hi;go_wp2_with fail;go_ret;simp [hr]
end
section
variable {B n c:Nat} {w:World} {L:List Res} {xs:List Int} {f:FuncId} {cb:Array Value} {p:Int→Bool} {A:Option Addr}
def IdxOk (p:Int→Bool) (xs:List Int) (r:Int):Prop:=(r= -1∧∀ x∈xs,p x=false)∨(∃ k:Nat,r=(k:Int)∧∃ x,xs[k]? =some x∧p x=true∧∀ (j:Nat) (y:Int),j<k→xs[j]? =some y→p y=false)
theorem indexF_s (hB:B≤w.heap.size) (hn:n≤1000) (eg:∀ args w,(callFunc f args).run Tryz.prog w=.ok (.enter f args) w)
  (hf:∀ (W:World) (x:Int),B≤W.heap.size→x∈xs→At B W (intO A n c xs::L)→Calls Tryz.prog f (#[Iv x]++cb) W fun e W'=>e=.returned (.bool (p x))∧At B W' (intO A n c xs::L)∧Below B W W')
  (h:At B w (intO A n c xs::L)):
  Calls Tryz.prog 103 #[.slice A n c,.func (.func f) #[] cb] w fun e w'=>∃ r:Int,e=.returned (Iv r)∧IdxOk p xs r∧At B w' (intO A n c xs::L)∧Below B w w':=by
 have hl:xs.length=n:=by have hs:Sl w 3 1 A n c (ivs xs) (fun x=>B≤x):=h.get;simpa using hs.1
 have HL:=Lib.hid hl;have HN:=Lib.hid hn;have HF:=Lib.hid hf;clear hl hn hf;go_enter Tryz.func103,Tryz.ntmps103;go_wp2_with fail
 go_loopg [8] n (fun gk vi wr=>∃ (m:Nat),vi=Iv (m:Int)∧m≤n∧n-m≤gk∧Hid (∀ (j:Nat) (x:Int),j<m→xs[j]? =some x→p x=false)∧At B wr (intO A n c xs::L)∧Below B w wr)
 case atStart=>exact⟨0,rfl,by omega,by omega,Lib.hid (fun j x h=>by omega),h,Below.refl _ _⟩
 case round=>
  clear h;obtain⟨m,rfl,hm,hgk,HE,s1,b1⟩:=hrel;have HG:=Lib.hid hgk;have hBr:=Nat.le_trans hB b1.size;clear hgk
  by_cases hlt:m<n
  ·have hltz:(m:Int)<(n:Int):=by omega
   have hw:IntKind.i64.wrap ((m:Int)+1)=(m:Int)+1:=by have:=HN.out;rw [IntKind.wrap_i64];omega
   have hs:Sl wr 3 1 A n c (ivs xs) (fun x=>B≤x):=s1.get;obtain⟨g,off,rfl,-,-,-,hc⟩:=hs.at (by omega);obtain⟨x,hx⟩:∃ x,xs[m]? =some x:=⟨_,List.getElem?_eq_getElem (by rw [HL.out];exact hlt)⟩;have hcell:=hc _ _ (ivs_at hx);have HX:=Lib.hid hx;have hcall:=HF.out wr x hBr (List.mem_of_getElem? hx) s1;clear hs hc hx;go_wp2_with fail;refine hcall.mono ?_;rintro e w3 ⟨rfl,s3,b3⟩;clear hcall hcell;have b4:=b1.trans b3
   cases hp:p x with
   | true=>
    have HP:=Lib.hid hp;clear hp;go_wp2_with fail;go_ret;exact⟨_,rfl,.inr ⟨m,rfl,x,HX.out,HP.out,HE.out⟩,s3,b4⟩
   | false=>
    have HP:=Lib.hid hp;clear hp;go_wp2_with fail;go_roundg (gk-1)
    case measure=>have:=HG.out;omega
    case rel=>exact⟨m+1,by go_num,by omega,by have:=HG.out;omega,Lib.hid (fun j y hj hy=>by
      by_cases e:j=m
      ·subst e;rw [HX.out] at hy;cases hy;exact HP.out
      ·exact HE.out j y (by omega) hy),s3,b4⟩
  ·have hltz:¬ (m:Int)<(n:Int):=by omega
   go_wp2_with fail;go_ret;refine⟨_,rfl,.inl ⟨rfl,fun x hx=>?_⟩,s1,b1⟩;obtain⟨j,hj,e⟩:=List.getElem_of_mem hx;exact HE.out j x (by have:=HL.out;omega) (by rw [List.getElem?_eq_getElem hj,e])
theorem containsF_s (hB:B≤w.heap.size) (hn:n≤1000) (eg:∀ args w,(callFunc f args).run Tryz.prog w=.ok (.enter f args) w)
  (hf:∀ (W:World) (x:Int),B≤W.heap.size→x∈xs→At B W (intO A n c xs::L)→Calls Tryz.prog f (#[Iv x]++cb) W fun e W'=>e=.returned (.bool (p x))∧At B W' (intO A n c xs::L)∧Below B W W')
  (h:At B w (intO A n c xs::L)):
  Calls Tryz.prog 76 #[.slice A n c,.func (.func f) #[] cb] w fun e w'=>e=.returned (.bool (xs.any p))∧At B w' (intO A n c xs::L)∧Below B w w':=by
 have hi:=indexF_s hB hn eg hf h;clear h hf hn;go_enter Tryz.func76,Tryz.ntmps76;go_wp2_with fail;refine hi.mono ?_;rintro e w1 ⟨r,rfl,hr,s1,b1⟩;clear hi
 have hd:decide (0≤r)=xs.any p:=by
  rcases hr with ⟨rfl,h⟩ | ⟨k,rfl,x,h1,h2,h3⟩
  ·rw [show decide ((0:Int)≤ -1)=false from rfl]
   symm;rw [List.any_eq_false];intro x hx;simp [h x hx]
  ·rw [decide_eq_true (by omega)]
   symm;rw [List.any_eq_true];exact⟨x,List.mem_of_getElem? h1,h2⟩
 clear hr;go_wp2_with fail;go_ret;exact⟨rfl,s1,b1⟩
theorem Sl.setTail {w:World} {e n c g off:Nat} {xs:List Value} {S:Nat→Prop} (h:Sl w e 1 (some ⟨g,off,none⟩) n c xs S) {i:Nat} (hi:i≤n) (z:Value):
  Sl (w.setCells g (off+i) (List.replicate (n-i) z)) e 1 (some ⟨g,off,none⟩) i c (xs.take i) S∧(S g→Mod S w (w.setCells g (off+i) (List.replicate (n-i) z))):=by
 obtain⟨h1,h2,h3,h4⟩:=h
 rcases h4 with ⟨h4,_⟩ | ⟨g',off',cur,hA,hg,hb,hsz,hc⟩
 ·cases h4
 ·simp only [Option.some.injEq,Addr.mk.injEq,and_true] at hA;obtain⟨rfl,rfl⟩:=hA;obtain⟨cs',k1,k2,k3,k4,k5,k6,k7,k8,k9⟩:=setCells_blk (g:=g) (t:=e) (List.replicate (n-i) z) (off+i) w cur hb (by simp;omega);refine⟨⟨by rw [List.length_take];omega,by omega,h3,.inr ⟨g,off,cs',rfl,hg,k1,by omega,fun j hj=>?_⟩⟩,fun hS=>⟨k5,k6,k7,by omega,fun b _ hn=>k9 b fun e=>hn (e▸hS)⟩⟩;rw [k3 _ (by omega),hc j (by omega),List.getElem?_take,if_pos (by omega)]
theorem Sep.setTail {B:Nat} {w:World} {e n c g off:Nat} {xs:List Value} {L:List Res} (hB:B≤w.heap.size) (h:At B w (slRes e 1 (some ⟨g,off,none⟩) n c xs::L)) {i:Nat} (hi:i<n) (z:Value):
  At B (w.setCells g (off+i) (List.replicate (n-i) z)) (slRes e 1 (some ⟨g,off,none⟩) i c (xs.take i)::L)∧Below B w (w.setCells g (off+i) (List.replicate (n-i) z)):=by
 obtain⟨S,h1,h2,h3⟩:=h.frontAny fun x hx=>Nat.le_trans hB hx;have h1':Sl w e 1 (some ⟨g,off,none⟩) n c xs S:=h1;obtain⟨g',off',hA,hg,_⟩:=h1'.at (by omega);simp only [Option.some.injEq,Addr.mk.injEq,and_true] at hA;obtain⟨rfl,rfl⟩:=hA;obtain⟨h4,h5⟩:=Sl.setTail h1' (i:=i) (by omega) z;exact⟨h3 (slRes e 1 (some ⟨g,off,none⟩) i c (xs.take i)) _ (Sl.mono h4 grow_left) (h5 hg),(h5 hg).below hB fun b hb=>(h2 b hb).1⟩
theorem slI:Tryz.prog.underlying 37=some (.slice 3):=by kernel_rfl
structure DelOk (p:Int→Bool) (xs zs:List Int) (i j:Nat):Prop where
 len:zs.length=xs.length
 old:∀ q,j≤q→zs[q]? =xs[q]?
 new:∀ (q:Nat) (x:Int),q<i→zs[q]? =some x→x∈xs∧p x=false
theorem DelOk.keep {p:Int→Bool} {xs zs:List Int} {i j:Nat} {x:Int} (h:DelOk p xs zs i j) (hx:xs[j]? =some x) (hp:p x=false) (hij:i<j):DelOk p xs (zs.set i x) (i+1) (j+1):=by
 obtain⟨h1,h2,h3⟩:=h;have hj:=(List.getElem?_eq_some_iff.1 hx).1;refine⟨by simp [h1],fun q hq=>by rw [List.getElem?_set_ne (by omega)];exact h2 q (by omega),fun q y hq hy=>?_⟩
 by_cases e:q=i
 ·subst e;rw [List.getElem?_set_self (by omega)] at hy
  cases hy
  exact⟨List.mem_of_getElem? hx,hp⟩
 ·rw [List.getElem?_set_ne (by omega)] at hy;exact h3 q y (by omega) hy
theorem deleteF_s {Y:Int→Prop} (hB:B≤w.heap.size) (hn:n≤1000) (eg:∀ args w,(callFunc f args).run Tryz.prog w=.ok (.enter f args) w) (hY:∀ x∈xs,Y x)
  (hf:∀ (W:World) (ys:List Int) (x:Int),B≤W.heap.size→Y x→At B W (intO A n c ys::L)→Calls Tryz.prog f (#[Iv x]++cb) W fun e W'=>e=.returned (.bool (p x))∧At B W' (intO A n c ys::L)∧Below B W W')
  (h:At B w (intO A n c xs::L)):
  Calls Tryz.prog 98 #[.slice A n c,.func (.func f) #[] cb] w fun e w'=>∃ (i:Nat) (ys:List Int),e=.returned (.slice A i c)∧i≤n∧(∀ y∈ys,y∈xs∧p y=false)∧At B w' (intO A i c ys::L)∧Below B w w':=by
 have hi:=indexF_s hB hn eg (fun W x hW hx hs=>hf W xs x hW (hY x hx) hs) h;have hl:xs.length=n:=by have hs:Sl w 3 1 A n c (ivs xs) (fun x=>B≤x):=h.get;simpa using hs.1
 have HL:=Lib.hid hl;have HN:=Lib.hid hn;have HF:=Lib.hid hf;have HY:=Lib.hid hY;clear hl hn hf hY h;go_enter Tryz.func98,Tryz.ntmps98;go_wp2_with fail;refine hi.mono ?_;rintro e w1 ⟨r,rfl,hr,s1,b1⟩;clear hi
 rcases hr with ⟨rfl,hall⟩ | ⟨k,rfl,x0,hx0,hp0,hbef⟩
 ·have HA:=Lib.hid hall;clear hall;go_wp2_with fail;go_ret;exact⟨n,xs,rfl,Nat.le_refl _,fun y hy=>⟨hy,HA.out y hy⟩,s1,b1⟩
 ·have hkn:k<n:=by have:=(List.getElem?_eq_some_iff.1 hx0).1;have:=HL.out;omega
  have hd0:((k:Int)== -1)=false:=by rw [beq_eq_false_iff_ne];omega
  have hw0:IntKind.i64.wrap ((k:Int)+1)=(k:Int)+1:=by have:=HN.out;rw [IntKind.wrap_i64];omega
  have HD0:=Lib.hid (show DelOk p xs xs k (k+1) from⟨rfl,fun _ _=>rfl,fun q x hq hx=>⟨List.mem_of_getElem? hx,hbef q x hq hx⟩⟩);clear hx0 hp0 hbef;go_wp2_with fail
  go_loopg [5,6] n (fun gk vi vj wr=>∃ (i j:Nat) (zs:List Int),vi=Iv (i:Int)∧vj=Iv (j:Int)∧i<j∧j≤n∧n-j≤gk∧Hid (DelOk p xs zs i j)∧At B wr (intO A n c zs::L)∧Below B w wr)
  case atStart=>exact⟨k,k+1,xs,rfl,by go_num,by omega,by omega,by omega,HD0,s1,b1⟩
  case round=>
   clear s1 b1 hw0 hd0 hkn;obtain⟨i,j,zs,rfl,rfl,hij,hj,hgk,HE,s1,b1⟩:=hrel;have HG:=Lib.hid hgk;have hBr:=Nat.le_trans hB b1.size;clear hgk
   by_cases hlt:j<n
   ·have hltz:(j:Int)<(n:Int):=by omega
    have hiz:(i:Int)<(n:Int):=by omega
    have hw:IntKind.i64.wrap ((j:Int)+1)=(j:Int)+1:=by have:=HN.out;rw [IntKind.wrap_i64];omega
    have hw2:IntKind.i64.wrap ((i:Int)+1)=(i:Int)+1:=by have:=HN.out;rw [IntKind.wrap_i64];omega
    have hs:Sl wr 3 1 A n c (ivs zs) (fun x=>B≤x):=s1.get;obtain⟨g,off,rfl,-,-,-,hc⟩:=hs.at (by omega);obtain⟨x,hx⟩:∃ x,xs[j]? =some x:=⟨_,List.getElem?_eq_getElem (by rw [HL.out];exact hlt)⟩;have hcell:=hc _ _ (ivs_at (show zs[j]? =some x by rw [HE.out.old j (Nat.le_refl _)];exact hx));have HX:=Lib.hid hx;have hcall:=HF.out wr zs x hBr (HY.out x (List.mem_of_getElem? hx)) s1;clear hs hc hx;go_wp2_with fail;refine hcall.mono ?_;rintro e w3 ⟨rfl,s3,b3⟩;clear hcall hcell;have b4:=b1.trans b3;have hB4:=Nat.le_trans hB b4.size
    cases hp:p x with
    | true=>
     have HP:=Lib.hid hp;clear hp;go_wp2_with fail;go_roundg (gk-1)
     case measure=>have:=HG.out;omega
     case rel=>exact⟨i,j+1,zs,rfl,by go_num,by omega,by omega,by have:=HG.out;omega,Lib.hid ⟨HE.out.len,fun q hq=>HE.out.old q (by omega),HE.out.new⟩,s3,b4⟩
    | false=>
     have HP:=Lib.hid hp;clear hp;obtain⟨u,hu⟩:∃ u,zs[i]? =some u:=⟨_,List.getElem?_eq_getElem (by rw [HE.out.len,HL.out];omega)⟩;obtain⟨ci,fi,ti⟩:=own_cell hB4 (by decide) s3 (ivs_at hu);obtain⟨s5,b5⟩:=ti (Iv x);have ci':w3.cell? ⟨g,off+i,none⟩≠none:=by rw [ci];simp
     rw [show (ivs zs).set i (Iv x)=ivs (zs.set i x) by simp [ivs,List.map_set]] at s5;clear ti ci hu;go_wp2_with fail;go_roundg (gk-1)
     case measure=>have:=HG.out;omega
     case rel=>exact⟨i+1,j+1,zs.set i x,by go_num,by go_num,by omega,by omega,by have:=HG.out;omega,Lib.hid (HE.out.keep HX.out HP.out hij),s5,b4.trans b5⟩
   ·have hltz:¬ (j:Int)<(n:Int):=by omega
    obtain rfl:j=n:=by omega
    have hs:Sl wr 3 1 A j c (ivs zs) (fun x=>B≤x):=s1.get;have hjc:=hs.le;obtain⟨g,off,rfl,-,-,hz,hc⟩:=hs.at (by omega)
    have hcl:=Lib.run_clear_slice (P:=Tryz.prog) wr 37 3 0 (Iv 0) slI (fun w=>by kernel_rfl) rfl rfl g (off+i) (j-i) (c-i) (by omega) (fun q hq=>by
     obtain⟨u,hu⟩:∃ u,zs[i+q]? =some u:=⟨_,List.getElem?_eq_getElem (by rw [HE.out.len,HL.out];omega)⟩;rw [Nat.add_assoc,hc _ _ (ivs_at hu)];rfl) (fun q hq=>hz _)
    obtain⟨s5,b5⟩:=Sep.setTail hBr s1 hij (Iv 0);have a1:(i:Int)≤(j:Int):=by omega
    have a2:(i:Int)≤(c:Int):=by omega
    have a3:((j:Int)-(i:Int)).toNat=j-i:=by omega
    have a4:((c:Int)-(i:Int)).toNat=c-i:=by omega
    clear hs hc;go_wp2_with fail;go_ret
    first | refine⟨i,rfl,by omega,zs.take i,?_,?_,b1.trans b5⟩ | refine⟨i,rfl,by omega,⟨zs.take i,?_,?_⟩,b1.trans b5⟩
    ·intro y hy;obtain⟨q,hq,e⟩:=List.getElem_of_mem hy;rw [List.length_take] at hq;exact HE.out.new q y (by omega) (by rw [← e,List.getElem_take];exact List.getElem?_eq_getElem _)
    ·unfold intO;rw [List.map_take];exact s5
end
end Go.Proofs.YtadgbhjpgnlmoaaGreat
