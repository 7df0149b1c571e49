/- TopSafe, a part of its proof; no conditions. -/
import Derived.Test.YtadgbhjpgnlmoaaGreatPk45
set_option linter.all false
namespace Go.Proofs.YtadgbhjpgnlmoaaGreat
open Go.RowKit Go.Rp Go.Sf
set_option maxRecDepth 100000
theorem first_any {Q:World→Prop} {g n:Nat} {fs:List (FuncId×Array Value)} (hl:fs.length=n) (hn:n≤10)
  (hc:∀ (W:World) (i:Nat) (f:FuncId) (cb:Array Value),Q W→fs[i]? =some (f,cb)→W.cell? ⟨g,i,none⟩=some (.func (.func f) #[] cb))
  (hf:∀ (f:FuncId) (cb:Array Value),(f,cb)∈fs→(∀ args w,(callFunc f args).run Tryz.prog w=.ok (.enter f args) w)∧∀ W,Q W→Calls Tryz.prog f cb W fun e W'=>e=.returned (.int .u16 0)∧Q W')
  {w:World} (h:Q w):Calls Tryz.prog 30 #[.slice (some ⟨g,0,none⟩) n n] w fun e w'=>e=.returned (.int .u16 0)∧Q w':=by
 have HL:=Lib.hid hl;have HN:=Lib.hid hn;have HC:=Lib.hid hc;have HF:=Lib.hid hf;clear hl hn hc hf;go_enter Tryz.func30,Tryz.ntmps30;go_wp2_with fail
 go_loopg [8] n (fun gk vi wr=>∃ (m:Nat),vi=Iv (m:Int)∧m≤n∧n-m≤gk∧Q wr)
 case atStart=>exact⟨0,rfl,by omega,by omega,h⟩
 case round=>
  clear h;obtain⟨m,rfl,hm,hgk,h⟩:=hrel;have HG:=Lib.hid hgk;clear hgk
  by_cases hlt:m<n
  ·have hltz:(m:Int)<(n:Int):=by omega
   have hw:IntKind.i64.wrap ((m:Int)+1)=(m:Int)+1:=by have:=HN.out;rw [IntKind.wrap_i64];omega
   obtain⟨⟨f,cb⟩,hx⟩:∃ x,fs[m]? =some x:=⟨_,List.getElem?_eq_getElem (by rw [HL.out];exact hlt)⟩;have hcell:=HC.out _ _ _ _ h hx;obtain⟨eg,hcall⟩:=HF.out f cb (List.mem_of_getElem? hx);replace hcall:=hcall _ h;clear hx;go_wp2_with fail;refine hcall.mono ?_;rintro e w3 ⟨rfl,s3⟩;clear hcall hcell;go_wp2_with fail;go_roundg (gk-1)
   case measure=>have:=HG.out;omega
   case rel=>exact⟨m+1,by go_num,by omega,by have:=HG.out;omega,s3⟩
  ·have hltz:¬ (m:Int)<(n:Int):=by omega
   go_wp2_with fail;go_ret;exact⟨rfl,h⟩
theorem whole1_cf (args:Array Value) (w:World):(callFunc 67 args).run Tryz.prog w=.ok (.enter 67 args) w:=by kernel_rfl
theorem whole2_cf (args:Array Value) (w:World):(callFunc 70 args).run Tryz.prog w=.ok (.enter 70 args) w:=by kernel_rfl
section
variable {B p:Nat} {w:World} {size:Int} {m:List Int} {R:List Res} {k:Nat} {L:List Int} {q b:Nat} {x:Int}
theorem whole1_s (hB:B≤w.heap.size) (hm:(m.length:Int)=3+5*(k:Int)) (hk:k≤1000) (hx:(k:Int)≤x) (h:At B w (memR p size m::blkR q 73 #[Pz p]::blkR b 3 #[Iv x]::R)):
  Calls Tryz.prog 67 #[Pz q,Pz b] w fun e w'=>e=.returned (.int .u16 0)∧At B w' (memR p size m::blkR q 73 #[Pz p]::blkR b 3 #[Iv x]::R)∧Below B w w':=by
 have s1:=h.drew;have b1:=(Below.refl B w).drew;have hmn:=many_s (w:=w.drew) hB s1;rw [many_of hm] at hmn;have hd:decide ((k:Int)>x)=false:=by simp;omega
 have hH0:w.drew.cell? ⟨q,0,none⟩=some (Pz p)∧w.drew.cell? ⟨b,0,none⟩=some (Iv x):=⟨s1.drop.blk.cell 0,s1.drop.drop.blk.cell 0⟩;have hwn:=fun W=>when_any W false 32;clear h hm hx;go_enter Tryz.func67,Tryz.ntmps67;go_wp2_with fail;refine wp_region_held_drew (S:=fun w'=>w'.cell? ⟨q,0,none⟩=some (Pz p)∧w'.cell? ⟨b,0,none⟩=some (Iv x)) (by kernel_rfl) hH0 fun hHeld=>?_;refine Rp.tk 0 hHeld ?_;refine Rp.tk 2 hHeld ?_;refine Rp.rd 1 fun K hK=>?_;go_simp;refine hmn.mono ?_;rintro e w5 ⟨rfl,s5,b5⟩;have hH5:w5.cell? ⟨q,0,none⟩=some (Pz p)∧w5.cell? ⟨b,0,none⟩=some (Iv x):=⟨s5.drop.blk.cell 0,s5.drop.drop.blk.cell 0⟩;refine gon hK hH5 fun hHeld=>?_;clear hK K;refine Rp.tk 3 hHeld ?_;refine Rp.rd 4 fun K hK=>?_;go_simp;refine(hwn w5).mono ?_;rintro e w6 ⟨rfl,rfl⟩;refine gon hK hH5 fun hHeld=>?_;clear hK K;refine Rp.tk 5 hHeld ?_;refine wpAnyH_done (by kernel_rfl) ?_ _;clear hHeld hH0 hH5 hmn hwn;go_wp2_with fail
 go_ret;exact⟨rfl,s5,b1.trans b5⟩
theorem whole2_s (hB:B≤w.heap.size) (hL:ChL m k L) (hk:k≤1000) (hN:L.length≤1000) (hS:SndOk m k L) (h:At B w (memR p size m::blkR q 73 #[Pz p]::R)):
  Calls Tryz.prog 70 #[Pz q] w fun e w'=>e=.returned (.int .u16 0)∧At B w' (memR p size m::blkR q 73 #[Pz p]::R)∧Below B w w':=by
 have hs:=Sound_s hB hL hk hN hS h;have c0:=h.drop.blk.cell 0;clear h hL hk hN hS;go_enter Tryz.func70,Tryz.ntmps70;go_wp2_with fail;refine hs.mono ?_;rintro e w1 ⟨rfl,s1,b1⟩;clear hs c0;go_wp2_with fail;go_ret;exact⟨rfl,s1,b1⟩
theorem Whole_s (hB:B≤w.heap.size) (hL:ChL m k L) (hk:k≤1000) (hN:L.length≤1000) (hS:SndOk m k L) (hx:(k:Int)≤x) (h:At B w (memR p size m::R)):
  Calls Tryz.prog 32 #[Pz p,Iv x] w fun e w'=>e=.returned (.int .u16 0)∧At B w' (memR p size m::R)∧Below B w w':=by
 have s1:=h.alloc hB #[Pz p] 73;have b1:=(Below.refl B w).alloc hB (.cells #[Pz p] 73);have hB1:=Nat.le_trans hB b1.size;have s2:=s1.alloc hB1 #[Iv x] 3;have b2:=b1.alloc hB1 (.cells #[Iv x] 3);have hB2:=Nat.le_trans hB b2.size;rw [World.size_alloc] at s2;have s3:=s2.alloc hB2 #[.func (.func 67) #[] #[Pz w.heap.size,Pz (w.heap.size+1)],.func (.func 70) #[] #[Pz w.heap.size]] 97;have b3:=b2.alloc hB2 (.cells #[.func (.func 67) #[] #[Pz w.heap.size,Pz (w.heap.size+1)],.func (.func 70) #[] #[Pz w.heap.size]] 97);rw [World.size_alloc,World.size_alloc] at s3;have HM:=Lib.hid (And.intro hL (And.intro hk (And.intro hN (And.intro hS hx))));have HB:=Lib.hid (show ∀ W,Below B w W→B≤W.heap.size from fun _ b=>Nat.le_trans hB b.size);clear h s1 b1 hB1 hL hk hN hS hx s2 b2;go_enter Tryz.func32,Tryz.ntmps32;go_wp2_with fail;generalize ((w.alloc (.cells #[Pz p] 73)).alloc (.cells #[Iv x] 3)).alloc _=w3 at*
 generalize w.heap.size+1+1=g at*;generalize w.heap.size+1=b at*;generalize w.heap.size=q at*
 have hf:=first_any (Q:=fun W=>At B W (blkR g 97 #[.func (.func 67) #[] #[Pz q,Pz b],.func (.func 70) #[] #[Pz q]]::blkR b 3 #[Iv x]::blkR q 73 #[Pz p]::memR p size m::R)∧Below B w W) (g:=g) (n:=2)
  (fs:=[(67,#[Pz q,Pz b]),(70,#[Pz q])]) rfl (by omega)
  (by
   intro W i f cb hQ hx
   rcases i with _ | _ | i
   ·simp only [List.getElem?_cons_zero,Option.some.injEq,Prod.mk.injEq] at hx;obtain⟨rfl,rfl⟩:=hx;exact hQ.1.blk.cell 0
   ·simp only [List.getElem?_cons_succ,List.getElem?_cons_zero,Option.some.injEq,Prod.mk.injEq] at hx;obtain⟨rfl,rfl⟩:=hx;exact hQ.1.blk.cell 1
   ·simp at hx)
  (by
   intro f cb hx
   rcases List.mem_cons.1 hx with hx | hx
   ·obtain⟨rfl,rfl⟩:=Prod.mk.inj hx;refine⟨whole1_cf,fun W hQ=>?_⟩;have v:=hQ.1.ox [3,2,1];refine(whole1_s (HB.out _ hQ.2) HM.out.1.len HM.out.2.1 HM.out.2.2.2.2 v).mono ?_;rintro e W' ⟨rfl,s,e⟩;have y:=s.ox [3,2,1];exact⟨rfl,y,hQ.2.trans e⟩
   ·obtain⟨rfl,rfl⟩:=Prod.mk.inj (List.mem_singleton.1 hx);refine⟨whole2_cf,fun W hQ=>?_⟩;have v:=hQ.1.ox [3,2];refine(whole2_s (HB.out _ hQ.2) HM.out.1 HM.out.2.1 HM.out.2.2.1 HM.out.2.2.2.1 v).mono ?_;rintro e W' ⟨rfl,s,e⟩;have y:=s.ox [2,2,1];exact⟨rfl,y,hQ.2.trans e⟩)
  ⟨s3,b3⟩
 refine hf.mono ?_;rintro e w4 ⟨rfl,s4,b4⟩;clear hf s3 b3;go_wp2_with fail;go_ret;exact⟨rfl,s4.drop.drop.drop,b4⟩
end
theorem kept1_cf (args:Array Value) (w:World):(callFunc 74 args).run Tryz.prog w=.ok (.enter 74 args) w:=by kernel_rfl
theorem swept1_cf (args:Array Value) (w:World):(callFunc 79 args).run Tryz.prog w=.ok (.enter 79 args) w:=by kernel_rfl
section
variable {B:Nat} {w:World} {R:List Res} {A0 A1:Option Addr} {n0 c0 n1 c1:Nat} {X Y:List Int} {q b:Nat} {x:Int}
theorem rd_int (h:At B w (intO A0 n0 c0 X::R)):Rd w (fun x=>B≤x) 1 A0 n0 (ivs X):=by
 have hs:Sl w 3 1 A0 n0 c0 (ivs X) (fun x=>B≤x):=h.get;exact hs.rd
theorem kept1_s (hB:B≤w.heap.size) (h0:n0≤1000) (h1:n1≤1000) (h:At B w (blkR q 37 #[.slice A0 n0 c0]::blkR b 37 #[.slice A1 n1 c1]::intO A0 n0 c0 X::intO A1 n1 c1 Y::R)):
  Calls Tryz.prog 74 #[Iv x,Pz q,Pz b] w fun e w'=>e=.returned (.bool (decide (x∈X)&& !decide (x∈Y)))∧w=w':=by
 have k0:=contains_any (c:=c0) (v:=x) w (rd_int h.drop.drop) h0;have k1:=contains_any (c:=c1) (v:=x) w (rd_int h.drop.drop.drop) h1;have x0:=h.blk.cell 0;have x1:=h.drop.blk.cell 0;clear h h0 h1;generalize decide (x∈X)=u at*;generalize decide (x∈Y)=v at*
 cases u
 ·go_enter Tryz.func74,Tryz.ntmps74;go_wp2_with fail;refine k0.mono ?_;rintro e w1 ⟨rfl,rfl⟩;go_wp2_with fail;go_ret;exact⟨rfl,rfl⟩
 ·go_enter Tryz.func74,Tryz.ntmps74;go_wp2_with fail;refine k0.mono ?_;rintro e w1 ⟨rfl,rfl⟩;go_wp2_with fail;refine k1.mono ?_;rintro e w1 ⟨rfl,rfl⟩;go_wp2_with fail;go_ret;exact⟨rfl,rfl⟩
theorem swept1_s (hB:B≤w.heap.size) (h0:n0≤1000) (h:At B w (blkR q 37 #[.slice A0 n0 c0]::intO A0 n0 c0 X::R)):
  Calls Tryz.prog 79 #[Iv x,Pz q] w fun e w'=>e=.returned (.bool (decide (x∈X)))∧w=w':=by
 have k0:=contains_any (c:=c0) (v:=x) w (rd_int h.drop) h0;have x0:=h.blk.cell 0;clear h h0;go_enter Tryz.func79,Tryz.ntmps79;go_wp2_with fail;refine k0.mono ?_;rintro e w1 ⟨rfl,rfl⟩;go_wp2_with fail;go_ret;exact⟨rfl,rfl⟩
end
section
variable {B p0 p1 k0 k1:Nat} {w:World} {R:List Res} {z0 z1:Int} {m0 m1:List Int} {L0 L1:List Int}
set_option maxHeartbeats 1000000 in
theorem Kept_s (hB:B≤w.heap.size) (hL0:ChL m0 k0 L0) (hk0:k0≤1000) (hN0:L0.length≤1000) (hL1:ChL m1 k1 L1) (hk1:k1≤1000) (hN1:L1.length≤1000)
  (hK:∀ y∈L0,0<ld m0 y→y∈L1) (h:At B w (memR p0 z0 m0::memR p1 z1 m1::R)):
  Calls Tryz.prog 34 #[Pz p0,Pz p1] w fun e w'=>e=.returned (.int .u16 0)∧At B w' (memR p0 z0 m0::memR p1 z1 m1::R)∧Below B w w':=by
 have HB:=Lib.hid (show ∀ W,Below B w W→B≤W.heap.size from fun _ b=>Nat.le_trans hB b.size);have hr:=Reach_s hB hL0 hk0 hN0 h;have HM:=Lib.hid (And.intro hL0 (And.intro hk0 (And.intro hN0 (And.intro hL1 (And.intro hk1 (And.intro hN1 hK))))));clear h hL0 hk0 hN0 hL1 hk1 hN1 hK;generalize hn0:L0.length=n0 at*;generalize hn1:L1.length=n1 at*;go_enter Tryz.func34,Tryz.ntmps34;go_wp2_with fail;refine hr.mono ?_;rintro e w1 ⟨A0,c0,rfl,s1,b1⟩;clear hr;have s2:=s1.ox [2];have hr:=Reach_s (HB.out _ b1) HM.out.2.2.2.1 HM.out.2.2.2.2.1 (by rw [hn1];exact HM.out.2.2.2.2.2.1) s2;rw [hn1] at hr;clear s1 s2;go_wp2_with fail;refine hr.mono ?_;rintro e w2 ⟨A1,c1,rfl,s2,b2⟩;clear hr;replace b2:=b1.trans b2;have s3:=(s2.alloc (HB.out _ b2) #[.slice A1 n1 c1] 37).ox [4];have b3:=b2.alloc (HB.out _ b2) (.cells #[.slice A1 n1 c1] 37);have hr:=Waiting_s (HB.out _ b3) HM.out.1.len HM.out.2.1 s3;clear s2 s3 b1;go_wp2_with fail
 refine hr.mono ?_;rintro e w4 ⟨A2,n2,c2,ys,rfl,hn2,hy,s4,b4⟩;clear hr;replace b4:=b3.trans b4;have hB4:=HB.out _ b4;generalize w2.heap.size=b at*;have s5:=(s4.alloc hB4 #[.slice A2 n2 c2] 37).ox [6];have b5:=b4.alloc hB4 (.cells #[.slice A2 n2 c2] 37);have HY:=Lib.hid (And.intro hn2 hy);generalize hw5:w4.alloc (.cells #[.slice A2 n2 c2] 37)=w5 at*;generalize hq:w4.heap.size=q at*;clear s4 hn2 hy
 have hc:=containsF_s (p:=fun x=>decide (x∈ys)&& !decide (x∈L1)) (f:=74) (cb:=#[Pz q,Pz b]) (HB.out _ b5) HM.out.2.2.1 kept1_cf (fun W x hW hx hs=>by
  have hs2:=hs.ox [1,3,1,2];exact(kept1_s hW HY.out.1 HM.out.2.2.2.2.2.1 hs2).mono fun e w' ⟨he,hw⟩=>⟨he,hw▸hs,hw▸Below.refl _ _⟩) s5
 have hany:(L0.any fun x=>decide (x∈ys)&& !decide (x∈L1))=false:=by
  rw [List.any_eq_false];intro x hx
  by_cases hxy:x∈ys
  ·simp [hxy,HM.out.2.2.2.2.2.2 x hx (HY.out.2 x hxy).2]
  ·simp [hxy]
 rw [hany] at hc;clear hany s5;subst hw5;go_wp2_with fail;refine hc.mono ?_;rintro e w6 ⟨rfl,s6,b6⟩;clear hc;have hwn:=when_any w6 false 31;go_wp2_with fail;refine hwn.mono ?_;rintro e w7 ⟨rfl,rfl⟩;clear hwn;go_wp2_with fail;go_ret;have v:=s6.ox [3,5];exact⟨rfl,v.cons fun _ h=>h.cons fun _ h=>h.drop.drop.drop.drop.drop,b5.trans b6⟩
theorem Swept_s {age:Int} (hB:B≤w.heap.size) (hL0:ChL m0 k0 L0) (hk0:k0≤1000) (hN0:L0.length≤1000) (hL1:ChL m1 k1 L1) (hk1:k1≤1000) (hN1:L1.length≤1000)
  (hK:∀ y∈L0.tail,stB m0 age y=false→y∈L1.tail→stB m1 age y=false→False) (h:At B w (memR p0 z0 m0::memR p1 z1 m1::R)):
  Calls Tryz.prog 37 #[Pz p0,Pz p1,Iv age] w fun e w'=>e=.returned (.int .u16 0)∧At B w' (memR p0 z0 m0::memR p1 z1 m1::R)∧Below B w w':=by
 have HB:=Lib.hid (show ∀ W,Below B w W→B≤W.heap.size from fun _ b=>Nat.le_trans hB b.size);have hr:=Stale_s (age:=age) hB hL0 hk0 hN0 h;have HM:=Lib.hid (And.intro hL0 (And.intro hk0 (And.intro hN0 (And.intro hL1 (And.intro hk1 (And.intro hN1 hK))))));clear h hL0 hk0 hN0 hL1 hk1 hN1 hK;go_enter Tryz.func37,Tryz.ntmps37;go_wp2_with fail;refine hr.mono ?_;rintro e w1 ⟨A0,n0,c0,xs,rfl,hn0,hx0,s1,b1⟩;clear hr;have s2:=(s1.alloc (HB.out _ b1) #[.slice A0 n0 c0] 37).ox [3];have b2:=b1.alloc (HB.out _ b1) (.cells #[.slice A0 n0 c0] 37);have hr:=Stale_s (age:=age) (HB.out _ b2) HM.out.2.2.2.1 HM.out.2.2.2.2.1 HM.out.2.2.2.2.2.1 s2;have HX:=Lib.hid (And.intro hn0 hx0);clear s1 s2 hn0 hx0;go_wp2_with fail;refine hr.mono ?_;rintro e w2 ⟨A1,n1,c1,ys,rfl,hn1,hy,s3,b3⟩;clear hr;replace b3:=b2.trans b3;have HY:=Lib.hid (And.intro hn1 hy);generalize w1.heap.size=q at*;clear hn1 hy
 have hc:=containsF_s (p:=fun x=>decide (x∈xs)) (f:=79) (cb:=#[Pz q]) (HB.out _ b3) HY.out.1 swept1_cf (fun W x hW hx hs=>by
  have hs2:=hs.ox [2,2];exact(swept1_s hW HX.out.1 hs2).mono fun e w' ⟨he,hw⟩=>⟨he,hw▸hs,hw▸Below.refl _ _⟩) s3
 have hany:(ys.any fun x=>decide (x∈xs))=false:=by
  rw [List.any_eq_false];intro x hx
  by_cases hxy:x∈xs
  ·obtain⟨h1,h2⟩:=HX.out.2 x hxy;obtain⟨h3,h4⟩:=HY.out.2 x hx;exact absurd (HM.out.2.2.2.2.2.2 x h1 h2 h3 h4) id
  ·simp [hxy]
 rw [hany] at hc;clear hany s3;go_wp2_with fail;refine hc.mono ?_;rintro e w6 ⟨rfl,s6,b6⟩;clear hc;have hwn:=when_any w6 false 33;go_wp2_with fail;refine hwn.mono ?_;rintro e w7 ⟨rfl,rfl⟩;clear hwn;go_wp2_with fail;go_ret;have v:=s6.ox [4,1];exact⟨rfl,v.cons fun _ h=>h.cons fun _ h=>h.drop.drop.drop,b3.trans b6⟩
end
theorem see1_cf (args:Array Value) (w:World):(callFunc 31 args).run Tryz.prog w=.ok (.enter 31 args) w:=by kernel_rfl
theorem see2_cf (args:Array Value) (w:World):(callFunc 33 args).run Tryz.prog w=.ok (.enter 33 args) w:=by kernel_rfl
theorem see3_cf (args:Array Value) (w:World):(callFunc 35 args).run Tryz.prog w=.ok (.enter 35 args) w:=by kernel_rfl
theorem mapIP:Tryz.prog.underlying 65=some (.map 3 73):=by kernel_rfl
abbrev wtC (X:Nat) (cf:Cf) (r:Nat):Array Value:=#[Pz X,Ub cf.ob,Iv cf.th,Iv cf.cap,Iv cf.age,Iv cf.ps,.bool cf.plain,.map (some r)]
abbrev wtR (wb X:Nat) (cf:Cf) (r:Nat):Res:=blkR wb 67 (wtC X cf r)
abbrev mbR (b q:Nat):Res:=blkR b 73 #[Pz q]
abbrev wbR (b wb:Nat):Res:=blkR b 62 #[Pz wb]
abbrev enR (b:Nat) (e:Et):Res:=blkR b 60 #[Ub e.kind,Iv e.th,Ub e.ok,Iw e.ov,Ub e.bits]
section
variable {B X r wb q0 q1 k0 k1 b2 b3 b5 b7:Nat} {w:World} {R:List Res} {z0 z1:Int} {m0 m1:List Int} {L0 L1:List Int} {cf:Cf} {e:Et} {l:List (Int×Value)} {Ms:List Mo}
theorem see1_s (hB:B≤w.heap.size) (hL:ChL m1 k1 L1) (hk:k1≤1000) (hN:L1.length≤1000) (hS:SndOk m1 k1 L1) (hx:(k1:Int)≤cf.th) (h:At B w (memR q1 z1 m1::mbR b7 q1::wbR b2 wb::wtR wb X cf r::R)):
  Calls Tryz.prog 31 #[Pz b7,Pz b2] w fun e w'=>e=.returned (.int .u16 0)∧At B w' (memR q1 z1 m1::mbR b7 q1::wbR b2 wb::wtR wb X cf r::R)∧Below B w w':=by
 have s1:=h.drew;have b1:=(Below.refl B w).drew;have hH0:w.drew.cell? ⟨b7,0,none⟩=some (Pz q1)∧w.drew.cell? ⟨b2,0,none⟩=some (Pz wb)∧w.drew.cell? ⟨wb,2,none⟩=some (Iv cf.th):=⟨s1.drop.blk.cell 0,s1.drop.drop.blk.cell 0,s1.drop.drop.drop.blk.cell 2⟩;have hw:=Whole_s (w:=w.drew) hB hL hk hN hS hx s1;clear h hL hk hN hS hx s1;go_enter Tryz.func31,Tryz.ntmps31;go_wp2_with fail;refine wp_region_held_drew (S:=fun w'=>w'.cell? ⟨b7,0,none⟩=some (Pz q1)∧w'.cell? ⟨b2,0,none⟩=some (Pz wb)∧w'.cell? ⟨wb,2,none⟩=some (Iv cf.th)) (by kernel_rfl) hH0 fun hHeld=>?_;refine Rp.tk 0 hHeld ?_;refine Rp.tk 1 hHeld ?_;refine Rp.tk 2 hHeld ?_;refine Rp.tk 3 hHeld ?_;refine Rp.tk 4 hHeld ?_;refine Rp.tk 5 hHeld ?_;refine Rp.rd 6 fun K hK=>?_;go_simp;refine hw.mono ?_;rintro e w5 ⟨rfl,s5,b5⟩;have hH5:w5.cell? ⟨b7,0,none⟩=some (Pz q1)∧w5.cell? ⟨b2,0,none⟩=some (Pz wb)∧w5.cell? ⟨wb,2,none⟩=some (Iv cf.th):=⟨s5.drop.blk.cell 0,s5.drop.drop.blk.cell 0,s5.drop.drop.drop.blk.cell 2⟩
 refine gon hK hH5 fun hHeld=>?_;clear hK K;refine Rp.tk 7 hHeld ?_;refine wpAnyH_done (by kernel_rfl) ?_ _;clear hHeld hH0 hH5 hw;go_wp2_with fail;go_ret;exact⟨rfl,s5,b1.trans b5⟩
theorem see2_s (hB:B≤w.heap.size) (hL0:ChL m0 k0 L0) (hk0:k0≤1000) (hN0:L0.length≤1000) (hL1:ChL m1 k1 L1) (hk1:k1≤1000) (hN1:L1.length≤1000)
  (hK:∀ y∈L0,0<ld m0 y→y∈L1) (h:At B w (memR q0 z0 m0::memR q1 z1 m1::mbR b5 q0::mbR b7 q1::R)):
  Calls Tryz.prog 33 #[Pz b5,Pz b7] w fun e w'=>e=.returned (.int .u16 0)∧At B w' (memR q0 z0 m0::memR q1 z1 m1::mbR b5 q0::mbR b7 q1::R)∧Below B w w':=by
 have hw:=Kept_s hB hL0 hk0 hN0 hL1 hk1 hN1 hK h;have x0:=h.drop.drop.cv 0 (Pz q0);have x1:=h.drop.drop.drop.cv 0 (Pz q1);clear hL0 hk0 hN0 hL1 hk1 hN1 hK h;go_enter Tryz.func33,Tryz.ntmps33;go_wp2_with fail;refine hw.mono ?_;rintro e w5 ⟨rfl,s5,b5⟩;clear hw x0 x1;go_wp2_with fail;go_ret;exact⟨rfl,s5,b5⟩
set_option maxHeartbeats 1000000 in
theorem see3_s (hB:B≤w.heap.size) (hL1:ChL m1 k1 L1) (hk1:k1≤1000) (hN1:L1.length≤1000) (hsw:SwOk cf.age m0 m1 e.th l Ms L1)
  (h:At B w (memR q0 z0 m0::memR q1 z1 m1::mbR b5 q0::mbR b7 q1::wbR b2 wb::enR b3 e::wtR wb X cf r::mapR .i64 r l::(Ms.map moR++R))):
  Calls Tryz.prog 35 #[Pz b5,Pz b7,Pz b2,Pz b3] w fun e' w'=>e'=.returned (.int .u16 0)∧At B w' (memR q0 z0 m0::memR q1 z1 m1::mbR b5 q0::mbR b7 q1::wbR b2 wb::enR b3 e::wtR wb X cf r::mapR .i64 r l::(Ms.map moR++R))∧Below B w w':=by
 have HB:=Lib.hid (show ∀ W,Below B w W→B≤W.heap.size from fun _ b=>Nat.le_trans hB b.size);have x0:=(h.ord [2]).cv 0 (Pz q0);have x1:=(h.ord [3]).cv 0 (Pz q1);have hl0:=lock_s hB h;have H:=Lib.hid (And.intro h (And.intro hL1 (And.intro hk1 (And.intro hN1 hsw))));clear h hL1 hk1 hN1 hsw
 by_cases h0:ld m0 0=0
 ·have d0:(ld m0 0==0)=true:=by simp [h0]
  clear h0;go_enter Tryz.func35,Tryz.ntmps35;go_wp2_with fail;refine hl0.mono ?_;rintro e w1 ⟨rfl,s1,b1⟩;clear hl0 x0 x1;go_wp2_with fail;go_ret;exact⟨rfl,s1,b1⟩
 ·have d0:(ld m0 0==0)=false:=by simp [h0]
  have HZ:=Lib.hid h0;clear h0;go_enter Tryz.func35,Tryz.ntmps35;go_wp2_with fail;refine hl0.mono ?_;rintro e1 w1 ⟨rfl,s1,b1⟩;clear hl0 x0 x1;have x1:=(s1.ord [3]).cv 0 (Pz q1);have s2:=s1.ox [1];have hl1:=lock_s (HB.out _ b1) s2;clear s1 s2
  by_cases h1:ld m1 0=0
  ·have d1:(ld m1 0 !=0)=false:=by simp [h1]
   have HY:=Lib.hid h1;clear h1;go_wp2_with fail;refine hl1.mono ?_;rintro e2 w2 ⟨rfl,s2,b2'⟩;replace b2':=b1.trans b2';clear hl1 x1 b1;go_wp2_with fail
   obtain⟨x,hx,hg,k0,L0,hc,hk0,hN0,hno⟩:∃ x,x∈Ms∧getL e.th l=some (Pz x.p)∧∃ k0 L0,ChL x.m k0 L0∧k0≤1000∧L0.length≤1000∧∀ y,y∈L0.tail→stB x.m cf.age y=false→y∈L1.tail→stB m1 cf.age y=false→False:=by
    rcases H.out.2.2.2.2 with h | h | h
    ·exact absurd h HZ.out
    ·exact absurd HY.out h
    ·exact h
   obtain⟨pre,post,rfl⟩:=List.append_of_mem hx
   have p1:(memR q1 z1 m1::memR q0 z0 m0::mbR b5 q0::mbR b7 q1::wbR b2 wb::enR b3 e::wtR wb X cf r::mapR .i64 r l::((pre++x::post).map moR++R)).Perm
     (moR x::memR q1 z1 m1::memR q0 z0 m0::mbR b5 q0::mbR b7 q1::wbR b2 wb::enR b3 e::wtR wb X cf r::mapR .i64 r l::((pre++post).map moR++R)):=by
    have:((pre++x::post).map moR++R).Perm (moR x::((pre++post).map moR++R)):=by
     rw [List.map_append,List.map_append,List.map_cons,List.append_assoc,List.append_assoc,List.cons_append];exact List.perm_middle
    exact(((((((((this.cons _).cons _).cons _).cons _).cons _).cons _).cons _).cons _)).trans (List.perm_middle (l₁:=[memR q1 z1 m1,memR q0 z0 m0,mbR b5 q0,mbR b7 q1,wbR b2 wb,enR b3 e,wtR wb X cf r,mapR .i64 r l]))
   have P1:=Lib.hid p1;have s3:At B w2.drew _:=Sep.drew (Sep.perm p1 s2);clear p1 s2 hx;have b3':=b2'.drew;have hsp:=Swept_s (age:=cf.age) (HB.out _ b3') hc hk0 hN0 H.out.2.1 H.out.2.2.1 H.out.2.2.2.1 hno s3;have hlk:=run_map_find mapIP intI (s3.ord [8]).map e.th (z:=.pointer none) (by kernel_rfl) false;rw [hg] at hlk;have HGT:=Lib.hid hg;simp only [Option.getD_some,Bool.false_eq_true,if_false] at hlk;have y2:w2.drew.cell? ⟨b2,0,none⟩=some (Pz wb):=(s3.ord [5]).blk.cell 0;have y3:w2.drew.cell? ⟨wb,7,none⟩=some (.map (some r)):=(s3.ord [7]).blk.cell 7;have y4:w2.drew.cell? ⟨wb,4,none⟩=some (Iv cf.age):=(s3.ord [7]).blk.cell 4;have y5:w2.drew.cell? ⟨b3,1,none⟩=some (Iv e.th):=(s3.ord [6]).blk.cell 1;have y6:w2.drew.cell? ⟨b7,0,none⟩=some (Pz q1):=(s3.ord [4]).blk.cell 0;have S3:=Lib.hid s3;clear s3 hc hk0 hN0 hno hg;refine wp_region_held_drew (S:=fun w'=>w'.cell? ⟨b2,0,none⟩=some (Pz wb)∧w'.cell? ⟨wb,7,none⟩=some (.map (some r))∧w'.cell? ⟨wb,4,none⟩=some (Iv cf.age)∧w'.cell? ⟨b3,1,none⟩=some (Iv e.th)∧w'.cell? ⟨b7,0,none⟩=some (Pz q1)∧(Instr.lookup 65 (.map (some r)) (Iv e.th) false).run Tryz.prog w'=.ok (Pz x.p) w') (by kernel_rfl) ⟨y2,y3,y4,y5,y6,hlk⟩ fun hHeld=>?_
   refine Rp.tk 0 hHeld ?_;refine Rp.tk 1 hHeld ?_;refine Rp.tk 2 hHeld ?_;refine Rp.tk 3 hHeld ?_;refine Rp.tk 4 hHeld ?_;refine Rp.tk 5 hHeld ?_;refine Rp.tk 6 hHeld ?_;refine Rp.tk 7 hHeld ?_;refine Rp.tk 8 hHeld ?_;refine Rp.tk 9 hHeld ?_;refine Rp.tk 10 hHeld ?_;refine Rp.tk 11 hHeld ?_;refine Rp.tk 12 hHeld ?_;refine Rp.rd 13 fun K hK=>?_;go_simp;refine hsp.mono ?_;rintro e3 w5 ⟨rfl,s5,b5'⟩;have hlk:=run_map_find mapIP intI (s5.ord [8]).map e.th (z:=.pointer none) (by kernel_rfl) false;rw [HGT.out] at hlk;simp only [Option.getD_some,Bool.false_eq_true,if_false] at hlk;have y2:=(s5.ord [5]).cv 0 (Pz wb);have y3:=(s5.ord [7]).cv 7 (.map (some r));have y4:=(s5.ord [7]).cv 4 (Iv cf.age);have y5:=(s5.ord [6]).cv 1 (Iv e.th);have y6:=(s5.ord [4]).cv 0 (Pz q1);refine gon hK ⟨y2,y3,y4,y5,y6,hlk⟩ fun hHeld=>?_;clear hK K;refine Rp.tk 14 hHeld ?_;refine wpAnyH_done (by kernel_rfl) ?_ _;have s6:=Sep.perm P1.out.symm s5
   have b6:=b3'.trans b5';clear hHeld y2 y3 y4 y5 y6 hlk hsp s5 S3;go_wp2_with fail;go_ret;have v:=s6.ox [1];exact⟨rfl,v,b6⟩
  ·have d1:(ld m1 0 !=0)=true:=by simp [h1]
   clear h1;go_wp2_with fail;refine hl1.mono ?_;rintro e2 w2 ⟨rfl,s2,b2'⟩;clear hl1 x1;go_wp2_with fail;go_ret;have v:=s2.ox [1];exact⟨rfl,v,b1.trans b2'⟩
end
structure AdN (N:Nat) (a:Ad):Prop where
 ids:a.T.map (·.id)=(List.range N).map (fun (i:Nat)=>(i:Int))
 at_:∃ g off,a.At=some ⟨g,off,none⟩
 size:a.size=3+5*(N:Int)
theorem AdN.next {N:Nat} {a a':Ad} (d:AdN N a) (h:AdOk a a'):AdN N a':=⟨h.ids.trans d.ids,by rw [h.At];exact d.at_,h.size.trans d.size⟩
theorem Jn.wok {cf:Cf} {N b:Nat} {s:Wst} {ab:Abs} {L:List Int} {a:Ad} (j:Jn cf N b (a.T.map (·.t)) s ab L) (d:AdN N a) (hN:N≤9) (hb:b≤1000):WOk a s:=by
 have hlen:a.T.length=N:=by have:=j.len;simpa using this
 have h1:=j.nev;have h2:=j.npk;have h3:=j.nlg;have h4:=j.nnb;have ht:∀ (k:Nat) (x:Tr),a.T[k]? =some x→(a.T.map (·.t))[k]? =some x.t:=fun k x h=>by rw [List.getElem?_map,h];rfl
 refine⟨fun k x h=>⟨?_,j.ok hN hb (ht k x h)⟩,fun k x h h36 y hy=>?_,d.at_,by omega,by omega,by omega,by omega,by omega⟩
 ·have hk:(a.T.map (·.id))[k]? =some x.id:=by rw [List.getElem?_map,h];rfl
  have hkl:=(List.getElem?_eq_some_iff.1 h).1;rw [d.ids,List.getElem?_map,List.getElem?_range (by omega)] at hk
  simpa using hk.symm
 ·obtain⟨i,hi,hg⟩:=j.asked36 (ht k x h) h36 hy;exact⟨i,by omega,hg⟩
section
variable {B X r wb q0 q1 k0 k1 b2 b3 b5 b7:Nat} {w:World} {R:List Res} {z0 z1:Int} {m0 m1:List Int} {L0 L1:List Int} {cf:Cf} {e:Et} {l:List (Int×Value)} {Ms:List Mo}
abbrev fn3 (b2 b3 b5 b7:Nat):Array Value:=#[.func (.func 31) #[] #[Pz b7,Pz b2],.func (.func 33) #[] #[Pz b5,Pz b7],.func (.func 35) #[] #[Pz b5,Pz b7,Pz b2,Pz b3]]
abbrev seL (q0 q1 b2 b3 b5 b7 wb X r:Nat) (z0 z1:Int) (m0 m1:List Int) (cf:Cf) (e:Et) (l:List (Int×Value)) (E:List Res):List Res:=
 memR q0 z0 m0::memR q1 z1 m1::mbR b5 q0::mbR b7 q1::wbR b2 wb::enR b3 e::wtR wb X cf r::mapR .i64 r l::E
theorem first3_s (hB:B≤w.heap.size) (hL0:ChL m0 k0 L0) (hk0:k0≤1000) (hN0:L0.length≤1000) (hL1:ChL m1 k1 L1) (hk1:k1≤1000) (hN1:L1.length≤1000)
  (hS:SndOk m1 k1 L1) (hx:(k1:Int)≤cf.th) (hK:∀ y∈L0,0<ld m0 y→y∈L1) (hsw:SwOk cf.age m0 m1 e.th l Ms L1)
  (h:At B w (seL q0 q1 b2 b3 b5 b7 wb X r z0 z1 m0 m1 cf e l (Ms.map moR++R))):
  Calls Tryz.prog 30 #[.slice (some ⟨w.heap.size,0,none⟩) 3 3] (w.alloc (.cells (fn3 b2 b3 b5 b7) 97)) fun e' w'=>e'=.returned (.int .u16 0)∧At B w' (seL q0 q1 b2 b3 b5 b7 wb X r z0 z1 m0 m1 cf e l (Ms.map moR++R))∧Below B w w':=by
 have HB:=Lib.hid (show ∀ W,Below B w W→B≤W.heap.size from fun _ b=>Nat.le_trans hB b.size);have s1:=h.alloc hB (fn3 b2 b3 b5 b7) 97;have b1:=(Below.refl B w).alloc hB (.cells (fn3 b2 b3 b5 b7) 97);generalize w.alloc (.cells (fn3 b2 b3 b5 b7) 97)=w1 at*;generalize w.heap.size=g at*
 have hf:=first_any (Q:=fun W=>At B W (blkR g 97 (fn3 b2 b3 b5 b7)::seL q0 q1 b2 b3 b5 b7 wb X r z0 z1 m0 m1 cf e l (Ms.map moR++R))∧Below B w W) (g:=g) (n:=3)
  (fs:=[(31,#[Pz b7,Pz b2]),(33,#[Pz b5,Pz b7]),(35,#[Pz b5,Pz b7,Pz b2,Pz b3])]) rfl (by omega)
  (by
   intro W i f cb hQ hx
   rcases i with _ | _ | _ | i
   ·simp only [List.getElem?_cons_zero,Option.some.injEq,Prod.mk.injEq] at hx;obtain⟨rfl,rfl⟩:=hx;exact hQ.1.blk.cell 0
   ·simp only [List.getElem?_cons_succ,List.getElem?_cons_zero,Option.some.injEq,Prod.mk.injEq] at hx;obtain⟨rfl,rfl⟩:=hx;exact hQ.1.blk.cell 1
   ·simp only [List.getElem?_cons_succ,List.getElem?_cons_zero,Option.some.injEq,Prod.mk.injEq] at hx;obtain⟨rfl,rfl⟩:=hx;exact hQ.1.blk.cell 2
   ·simp at hx)
  (by
   intro f cb hx
   rcases List.mem_cons.1 hx with hx | hx
   ·obtain⟨rfl,rfl⟩:=Prod.mk.inj hx;refine⟨see1_cf,fun W hQ=>?_⟩;have v:=hQ.1.ox [2,3,3,4];refine(see1_s (HB.out _ hQ.2) hL1 hk1 hN1 hS (by assumption) v).mono ?_;rintro e W' ⟨rfl,s,e⟩;have y:=s.ox [4,4,0,3,0,0,1,0];exact⟨rfl,y,hQ.2.trans e⟩
   rcases List.mem_cons.1 hx with hx | hx
   ·obtain⟨rfl,rfl⟩:=Prod.mk.inj hx;refine⟨see2_cf,fun W hQ=>?_⟩;have v:=hQ.1.ox [1,1,1,1];refine(see2_s (HB.out _ hQ.2) hL0 hk0 hN0 hL1 hk1 hN1 hK v).mono ?_;rintro e W' ⟨rfl,s,e⟩;have y:=s.ox [4];exact⟨rfl,y,hQ.2.trans e⟩
   ·obtain⟨rfl,rfl⟩:=Prod.mk.inj (List.mem_singleton.1 hx);refine⟨see3_cf,fun W hQ=>?_⟩;have v0:=hQ.1.ox [1,1,1,1,1,1,1,1]
    have v:At B W (memR q0 z0 m0::memR q1 z1 m1::mbR b5 q0::mbR b7 q1::wbR b2 wb::enR b3 e::wtR wb X cf r::mapR .i64 r l::(Ms.map moR++(blkR g 97 (fn3 b2 b3 b5 b7)::R))):=
     Sep.perm ((((((((List.perm_middle (l₁:=Ms.map moR) (l₂:=R)).symm.cons _).cons _).cons _).cons _).cons _).cons _).cons _ |>.cons _) v0
    refine(see3_s (HB.out _ hQ.2) hL1 hk1 hN1 hsw v).mono ?_;rintro e' W' ⟨rfl,s,e3⟩;have s0:=Sep.perm ((((((((List.perm_middle (l₁:=Ms.map moR) (l₂:=R)).cons _).cons _).cons _).cons _).cons _).cons _).cons _ |>.cons _) s;have y:=Sep.ord [8] s0;simp only [ordL,List.getElem?_cons_zero,List.getElem?_cons_succ,List.eraseIdx_cons_succ,List.eraseIdx_cons_zero] at y;exact⟨rfl,y,hQ.2.trans e3⟩)
  ⟨s1,b1⟩
 exact hf.mono fun e' w' ⟨he,hQ⟩=>⟨he,hQ.1.drop,hQ.2⟩
theorem toE {cf:Cf} {a:Ad} {s:Wst} {U:Nat→Prop} {E:List Res} (h:Sep w U (wTop X cf a s (a.T.map itO++E))):Sep w U (E++wTop X cf a s (a.T.map itO)):=Sep.toE (W:=wTop X cf a s []) h
theorem toW {cf:Cf} {a:Ad} {s:Wst} {U:Nat→Prop} {E:List Res} (h:Sep w U (E++wTop X cf a s (a.T.map itO))):Sep w U (wTop X cf a s (a.T.map itO++E)):=Sep.toW (W:=wTop X cf a s []) h
end
end Go.Proofs.YtadgbhjpgnlmoaaGreat
