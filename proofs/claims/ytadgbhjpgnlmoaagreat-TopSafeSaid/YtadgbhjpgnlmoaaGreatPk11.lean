/- TopSafe, a part of its proof; no conditions. -/
import Derived.Test.YtadgbhjpgnlmoaaGreatPk10
set_option linter.all false
namespace Go.Proofs.YtadgbhjpgnlmoaaGreat
open Go.RowKit Go.Rp Go.Sf
def ct (id:Int) (t:Th) (A:Option Addr) (n c p:Nat) (o:Option Addr) (ps:Int) (D:Option Addr) (dn dc:Nat):Array Value:=
 #[Iv id,Iv t.pc,Iv t.rc,Iv t.seq,Iv t.word,Iv t.look,Iv t.cur,Iv t.prev,Iv t.nth,Iv t.many,Iv t.pass,Iv t.runs,.slice A n c,Pz p,.pointer o,Iv ps,.slice D dn dc]
theorem w64_is (x:Int):w64 x=wrap64 x:=by unfold w64 wrap64;rfl
section
variable {B X p n c dn dc:Nat} {w:World} {size id ps:Int} {m:List Int} {L:List Res} {t:Th} {A D o:Option Addr}
theorem load_c (hB:B≤w.heap.size) (h:At B w (blkR X 224 (ct id t A n c p o ps D dn dc)::memR p size m::L)) (a z:Int):Calls Tryz.prog 175 #[Pz X,Iv a,Iv z] w fun e w'=>e=.returned (.tuple #[])∧At B w' (blkR X 224 (ct id { t with look:=ld m a,pc:=z} A n c p o ps D dn dc)::memR p size m::L)∧Below B w w':=by
 have k13:=h.cv 13 (Pz p);have hl:=load_s hB h.rot2 a;generalize (if inb m a then(0:Int) else 10)=er at hl;go_enter Tryz.func175,Tryz.ntmps175;go_wp2_with fail;refine(hl).mono ?_;rintro e w1 ⟨rfl,s1,b1⟩;have s1:=s1.rot2;have f5:=s1.blk.frozen 5;have f1:=s1.blk.frozen 1;have k5:=s1.cv 5 (Iv t.look);have k1:=s1.cv 1 (Iv t.pc);obtain⟨s2,b2⟩:=bset (Nat.le_trans hB b1.size) s1 5 (Iv (ld m a));obtain⟨s3,b3⟩:=bset (Nat.le_trans hB (b1.trans b2).size) s2 1 (Iv z);go_wp2_with fail
 go_end0
 exact⟨rfl,s3,(b1.trans b2).trans b3⟩
theorem store_c (hB:B≤w.heap.size) (h:At B w (blkR X 224 (ct id t A n c p o ps D dn dc)::memR p size m::L)) (a v z:Int):Calls Tryz.prog 176 #[Pz X,Iv a,Iv v,Iv z] w fun e w'=>e=.returned (.tuple #[])∧At B w' (blkR X 224 (ct id { t with pc:=z} A n c p o ps D dn dc)::memR p size (st m a v)::L)∧Below B w w':=by
 have k13:=h.cv 13 (Pz p);have hl:=store_s hB h.rot2 a v;generalize (if inb m a then(0:Int) else 10)=er at hl;go_enter Tryz.func176,Tryz.ntmps176;go_wp2_with fail;refine(hl).mono ?_;rintro e w1 ⟨rfl,s1,b1⟩;have s1:=s1.rot2;have f1:=s1.blk.frozen 1;have k1:=s1.cv 1 (Iv t.pc);obtain⟨s2,b2⟩:=bset (Nat.le_trans hB b1.size) s1 1 (Iv z);go_wp2_with fail
 go_end0
 exact⟨rfl,s2,b1.trans b2⟩
theorem swap_c (hB:B≤w.heap.size) (h:At B w (blkR X 224 (ct id t A n c p o ps D dn dc)::memR p size m::L)) (a v v' y z:Int) {q:Int} (hq:q=if sw m a v then y else z):Calls Tryz.prog 179 #[Pz X,Iv a,Iv v,Iv v',Iv y,Iv z] w fun e w'=>e=.returned (.tuple #[])∧At B w' (blkR X 224 (ct id { t with pc:=q} A n c p o ps D dn dc)::memR p size (sm m a v v')::L)∧Below B w w':=by
 have k13:=h.cv 13 (Pz p);have k1:=h.cv 1 (Iv t.pc);have f1:=h.blk.frozen 1;obtain⟨s0,b0⟩:=bset hB h 1 (Iv z);have hl:=swap_s (Nat.le_trans hB b0.size) s0.rot2 a v v';generalize (if inb m a then(0:Int) else 10)=er at hl;generalize sw m a v=bb at*;generalize sm m a v v'=m2 at*
 cases bb
 ·simp only [Bool.false_eq_true,if_false] at hq;subst hq;go_enter Tryz.func179,Tryz.ntmps179;go_wp2_with fail;refine(hl).mono ?_;rintro e w1 ⟨rfl,s1,b1⟩;go_wp2_with fail
  go_end0
  exact⟨rfl,s1.rot2,b0.trans b1⟩
 ·simp only [if_true] at hq;subst hq;go_enter Tryz.func179,Tryz.ntmps179;go_wp2_with fail;refine(hl).mono ?_;rintro e w1 ⟨rfl,s1,b1⟩;have s1:=s1.rot2;have f1:=s1.blk.frozen 1;have k1:=s1.cv 1 (Iv z);obtain⟨s2,b2⟩:=bset (Nat.le_trans hB (b0.trans b1).size) s1 1 (Iv q);go_wp2_with fail
  go_end0
  exact⟨rfl,s2,(b0.trans b1).trans b2⟩
theorem on_c (hB:B≤w.heap.size) (h:At B w (blkR X 224 (ct id t A n c p o ps D dn dc)::L)):Calls Tryz.prog 177 #[Pz X] w fun e w'=>e=.returned (.tuple #[])∧At B w' (blkR X 224 (ct id t.on' A n c p o ps D dn dc)::L)∧Below B w w':=by
 have k8:=h.cv 8 (Iv t.nth);have k1:=h.cv 1 (Iv t.pc);have k9:=h.cv 9 (Iv t.many);have f1:=h.blk.frozen 1;have f8:=h.blk.frozen 8;obtain⟨s1,b1⟩:=bset hB h 8 (Iv (wrap64 (t.nth+1)));obtain⟨s2,b2⟩:=bset (Nat.le_trans hB b1.size) s1 1 (Iv 33);unfold Th.on';rw [w64_is]
 by_cases hlt:wrap64 (t.nth+1)<t.many
 ·simp only [if_pos hlt];go_enter Tryz.func177,Tryz.ntmps177;go_wp2_with fail;go_quiet (fail);go_wp2_with fail
  go_end0
  obtain⟨s3,b3⟩:=bset (Nat.le_trans hB (below_drewN (b1.trans b2) nq).size) (s2.drewN nq) 1 (Iv 23);exact⟨rfl,s3,(below_drewN (b1.trans b2) nq).trans b3⟩
 ·simp only [if_neg hlt];go_enter Tryz.func177,Tryz.ntmps177;go_wp2_with fail;go_quiet (fail);go_wp2_with fail
  go_end0
  exact⟨rfl,s2.drewN nq,below_drewN (b1.trans b2) nq⟩
theorem unless_c (hB:B≤w.heap.size) (h:At B w (blkR X 224 (ct id t A n c p o ps D dn dc)::L)) (b:Bool) {u:Th} (hu:u=if b then t else t.on'):Calls Tryz.prog 178 #[Pz X,.bool b] w fun e w'=>e=.returned (.tuple #[])∧At B w' (blkR X 224 (ct id u A n c p o ps D dn dc)::L)∧Below B w w':=by
 cases b
 ·simp only [Bool.false_eq_true,if_false] at hu;subst hu;have ho:=on_c hB h;go_enter Tryz.func178,Tryz.ntmps178;go_wp2_with fail;refine(ho).mono ?_;rintro e w1 ⟨rfl,s1,b1⟩;go_wp2_with fail
  go_end0
  exact⟨rfl,s1,b1⟩
 ·simp only [if_true] at hu;subst hu;go_enter Tryz.func178,Tryz.ntmps178;go_wp2_with fail
  go_end0
  exact⟨rfl,h,Below.refl _ _⟩
end
structure FitC (t:Th):Prop where
 c0:IntKind.i64.wrap t.cur=t.cur
 c1:IntKind.i64.wrap (t.cur+1)=t.cur+1
 c3:IntKind.i64.wrap (t.cur+3)=t.cur+3
 p3:IntKind.i64.wrap (t.prev+3)=t.prev+3
section
variable {B X p n c dn dc:Nat} {w:World} {size id ps:Int} {m:List Int} {L:List Res} {t:Th} {A D o:Option Addr}
theorem pass_c (hB:B≤w.heap.size) (hz:FitC t) (h:At B w (blkR X 224 (ct id t A n c p o ps D dn dc)::memR p size m::L)):Calls Tryz.prog 144 #[Pz X] w fun e w'=>e=.returned (.tuple #[])∧At B w' (blkR X 224 (ct id { t with look:=ld m 2,pc:=21} A n c p o ps D dn dc)::memR p size m::L)∧Below B w w':=by
 obtain⟨c0,c1,c3,p3⟩:=hz;have hl:=load_c hB h 2 21;go_enter Tryz.func144,Tryz.ntmps144;go_wp2_with fail;refine(hl).mono ?_;rintro e w1 ⟨rfl,s1,b1⟩;go_wp2_with fail
 go_end0
 exact⟨rfl,s1,b1⟩
theorem stamp_c (hB:B≤w.heap.size) (hz:FitC t) (h:At B w (blkR X 224 (ct id t A n c p o ps D dn dc)::memR p size m::L)):Calls Tryz.prog 145 #[Pz X] w fun e w'=>e=.returned (.tuple #[])∧At B w' (blkR X 224 (ct id { t with pass:=w64 (t.look+1),runs:=w64 (t.runs+1),pc:=22} A n c p o ps D dn dc)::memR p size (st m 2 (w64 (t.look+1)))::L)∧Below B w w':=by
 obtain⟨c0,c1,c3,p3⟩:=hz;rw [w64_is,w64_is];have k5:=h.cv 5 (Iv t.look);have k10:=h.cv 10 (Iv t.pass);have k11:=h.cv 11 (Iv t.runs);have f10:=h.blk.frozen 10;have f11:=h.blk.frozen 11;obtain⟨s1,b1⟩:=bset hB h 10 (Iv (wrap64 (t.look+1)));obtain⟨s2,b2⟩:=bset (Nat.le_trans hB b1.size) s1 11 (Iv (wrap64 (t.runs+1)));have hl:=store_c (t:= { t with pass:=wrap64 (t.look+1),runs:=wrap64 (t.runs+1)}) (Nat.le_trans hB (b1.trans b2).size) s2 2 (wrap64 (t.look+1)) 22;go_enter Tryz.func145,Tryz.ntmps145;go_wp2_with fail;refine(hl).mono ?_;rintro e w1 ⟨rfl,s3,b3⟩;go_wp2_with fail
 go_end0
 exact⟨rfl,s3,(b1.trans b2).trans b3⟩
theorem bare_c (hB:B≤w.heap.size) (hz:FitC t) (h:At B w (blkR X 224 (ct id t A n c p o ps D dn dc)::memR p size m::L)):Calls Tryz.prog 151 #[Pz X] w fun e w'=>e=.returned (.tuple #[])∧At B w' (blkR X 224 (ct id { t with pc:=28} A n c p o ps D dn dc)::memR p size (st m (t.cur+3) 0)::L)∧Below B w w':=by
 obtain⟨c0,c1,c3,p3⟩:=hz;have k6:=h.cv 6 (Iv t.cur);have hl:=store_c hB h (t.cur+3) 0 28;go_enter Tryz.func151,Tryz.ntmps151;go_wp2_with fail;refine(hl).mono ?_;rintro e w1 ⟨rfl,s1,b1⟩;go_wp2_with fail
 go_end0
 exact⟨rfl,s1,b1⟩
theorem after_c (hB:B≤w.heap.size) (hz:FitC t) (h:At B w (blkR X 224 (ct id t A n c p o ps D dn dc)::memR p size m::L)):Calls Tryz.prog 153 #[Pz X] w fun e w'=>e=.returned (.tuple #[])∧At B w' (blkR X 224 (ct id { t with look:=ld m (t.prev+3),pc:=30} A n c p o ps D dn dc)::memR p size m::L)∧Below B w w':=by
 obtain⟨c0,c1,c3,p3⟩:=hz;have k7:=h.cv 7 (Iv t.prev);have hl:=load_c hB h (t.prev+3) 30;go_enter Tryz.func153,Tryz.ntmps153;go_wp2_with fail;refine(hl).mono ?_;rintro e w1 ⟨rfl,s1,b1⟩;go_wp2_with fail
 go_end0
 exact⟨rfl,s1,b1⟩
theorem solo_c (hB:B≤w.heap.size) (hz:FitC t) {q:Int} (hq:q=if sw m 1 0 then 32 else 26) (h:At B w (blkR X 224 (ct id t A n c p o ps D dn dc)::memR p size m::L)):Calls Tryz.prog 152 #[Pz X] w fun e w'=>e=.returned (.tuple #[])∧At B w' (blkR X 224 (ct id { t with pc:=q} A n c p o ps D dn dc)::memR p size (sm m 1 0 t.cur)::L)∧Below B w w':=by
 obtain⟨c0,c1,c3,p3⟩:=hz;have k6:=h.cv 6 (Iv t.cur);have hl:=swap_c hB h 1 0 t.cur 32 26 hq;clear hq;go_enter Tryz.func152,Tryz.ntmps152;go_wp2_with fail;refine(hl).mono ?_;rintro e w1 ⟨rfl,s1,b1⟩;go_wp2_with fail
 go_end0
 exact⟨rfl,s1,b1⟩
theorem seen_c (hB:B≤w.heap.size) (hz:FitC t) (h:At B w (blkR X 224 (ct id t A n c p o ps D dn dc)::memR p size m::L)):Calls Tryz.prog 156 #[Pz X] w fun e w'=>e=.returned (.tuple #[])∧At B w' (blkR X 224 (ct id (Th.on' t) A n c p o ps D dn dc)::memR p size (st m (t.cur+1) 1)::L)∧Below B w w':=by
 obtain⟨c0,c1,c3,p3⟩:=hz;have k6:=h.cv 6 (Iv t.cur);have hl:=store_c hB h (t.cur+1) 1 23;go_enter Tryz.func156,Tryz.ntmps156;go_wp2_with fail;refine(hl).mono ?_;rintro e w1 ⟨rfl,s1,b1⟩;have ho:=on_c (Nat.le_trans hB b1.size) s1;go_wp2_with fail;refine(ho).mono ?_;rintro e w2 ⟨rfl,s2,b2⟩;go_wp2_with fail
 go_end0
 exact⟨rfl,s2,b1.trans b2⟩
end
section
variable {B X p n c dn dc:Nat} {w:World} {size id ps:Int} {m:List Int} {L:List Res} {t:Th} {A D o:Option Addr}
theorem tie_c (hB:B≤w.heap.size) (hz:FitC t) (h:At B w (blkR X 224 (ct id t A n c p o ps D dn dc)::memR p size m::L)):Calls Tryz.prog 154 #[Pz X] w fun e w'=>e=.returned (.tuple #[])∧At B w' (blkR X 224 (ct id { t with pc:=31} A n c p o ps D dn dc)::memR p size (st m (t.cur+3) t.look)::L)∧Below B w w':=by
 obtain⟨c0,c1,c3,p3⟩:=hz;have k5:=h.cv 5 (Iv t.look);have k6:=h.cv 6 (Iv t.cur);have hl:=store_c (w:=w.drew) hB (Sep.drew h) (t.cur+3) t.look 31;go_enter Tryz.func154,Tryz.ntmps154;go_wp2_with fail
 go_region_held3 (fun w'=>w'.cell? ⟨X,5,none⟩=some (Iv t.look)∧w'.cell? ⟨X,6,none⟩=some (Iv t.cur)) (first | (refine ⟨?_,?_⟩<;>assumption) | go_keep) (first
  | (go_at_call 176;((with_reducible refine hl.mono ?_);rintro e w1 ⟨rfl,s1,b1⟩;have k5:=s1.cv 5 (Iv t.look);have k6:w1.cell? ⟨X,6,none⟩=some (Iv t.cur):=s1.blk.cell 6)))
 go_wp2_with fail
 go_end0
 exact⟨rfl,s1,(Below.refl _ w).drew.trans b1⟩
theorem set_c (hB:B≤w.heap.size) (hz:FitC t) (h:At B w (blkR X 224 (ct id t A n c p o ps D dn dc)::memR p size m::L)):Calls Tryz.prog 155 #[Pz X] w fun e w'=>e=.returned (.tuple #[])∧At B w' (blkR X 224 (ct id { t with pc:=32} A n c p o ps D dn dc)::memR p size (st m (t.prev+3) t.cur)::L)∧Below B w w':=by
 obtain⟨c0,c1,c3,p3⟩:=hz;have k6:=h.cv 6 (Iv t.cur);have k7:=h.cv 7 (Iv t.prev);have hl:=store_c (w:=w.drew) hB (Sep.drew h) (t.prev+3) t.cur 32;go_enter Tryz.func155,Tryz.ntmps155;go_wp2_with fail
 go_region_held3 (fun w'=>w'.cell? ⟨X,6,none⟩=some (Iv t.cur)∧w'.cell? ⟨X,7,none⟩=some (Iv t.prev)) (first | (refine ⟨?_,?_⟩<;>assumption) | go_keep) (first
  | (go_at_call 176;((with_reducible refine hl.mono ?_);rintro e w1 ⟨rfl,s1,b1⟩;have k6:=s1.cv 6 (Iv t.cur);have k7:w1.cell? ⟨X,7,none⟩=some (Iv t.prev):=s1.blk.cell 7)))
 go_wp2_with fail
 go_end0
 exact⟨rfl,s1,(Below.refl _ w).drew.trans b1⟩
theorem many_c (hB:B≤w.heap.size) (hz:FitC t) (h:At B w (blkR X 224 (ct id t A n c p o ps D dn dc)::memR p size m::L)):Calls Tryz.prog 146 #[Pz X] w fun e w'=>e=.returned (.tuple #[])∧At B w' (blkR X 224 (ct id (Th.on' { t with many:=manyOf m,nth:= -1,batch:=[]}) none 0 0 p o ps D dn dc)::memR p size m::L)∧Below B w w':=by
 obtain⟨c0,c1,c3,p3⟩:=hz;have k13:=h.cv 13 (Pz p);have hl:=many_s hB h.rot2;go_enter Tryz.func146,Tryz.ntmps146;go_wp2_with fail;refine(hl).mono ?_;rintro e w1 ⟨rfl,s1,b1⟩;have s1:=s1.rot2;have k8:=s1.cv 8 (Iv t.nth);have k9:=s1.cv 9 (Iv t.many);have k12:=s1.cv 12 (.slice A n c);have f8:=s1.blk.frozen 8;have f9:=s1.blk.frozen 9;have f12:=s1.blk.frozen 12;have b1':=b1;obtain⟨s2,b2⟩:=bset (Nat.le_trans hB b1.size) s1 9 (Iv (manyOf m));have b12:=b1.trans b2;obtain⟨s3,b3⟩:=bset (Nat.le_trans hB b12.size) s2 8 (Iv (-1));have b13:=b12.trans b3;obtain⟨s4,b4⟩:=bset (Nat.le_trans hB b13.size) s3 12 (.slice none 0 0);have b14:=b13.trans b4;have ho:=on_c (t:= { t with many:=manyOf m,nth:= -1,batch:=[]}) (A:=none) (n:=0) (c:=0) (Nat.le_trans hB b14.size) s4;go_wp2_with fail;refine(ho).mono ?_;rintro e w5 ⟨rfl,s5,b5⟩;go_wp2_with fail
 go_end0
 exact⟨rfl,s5,b14.trans b5⟩
theorem look_c (hB:B≤w.heap.size) (hz:FitC t) (hbs:IntKind.i64.wrap (base t.nth+1)=base t.nth+1) {u:Th} (hu:u=if ld m (base t.nth+1)=0 then { t with cur:=base t.nth,look:=ld m (base t.nth+1),pc:=24} else Th.on' { t with cur:=base t.nth,look:=ld m (base t.nth+1),pc:=24}) (h:At B w (blkR X 224 (ct id t A n c p o ps D dn dc)::memR p size m::L)):Calls Tryz.prog 147 #[Pz X] w fun e w'=>e=.returned (.tuple #[])∧At B w' (blkR X 224 (ct id u A n c p o ps D dn dc)::memR p size m::L)∧Below B w w':=by
 obtain⟨c0,c1,c3,p3⟩:=hz;have k8:=h.cv 8 (Iv t.nth);have hb:=fun w1=>base_any w1 t.nth;have f6:=h.blk.frozen 6;have k6:=h.cv 6 (Iv t.cur);obtain⟨s1,b1⟩:=bset hB h 6 (Iv (base t.nth));have hl:=load_c (t:= { t with cur:=base t.nth}) (Nat.le_trans hB b1.size) s1 (base t.nth+1) 24;have HU:=Lib.hid hu;clear hu;go_enter Tryz.func147,Tryz.ntmps147;go_wp2_with fail;refine(hb _).mono ?_;rintro e w0 ⟨rfl,rfl⟩;go_wp2_with fail;refine(hl).mono ?_;rintro e w2 ⟨rfl,s2,b2⟩;have k5:=s2.cv 5 (Iv (ld m (base t.nth+1)));have he:=fun(b:Bool)=>unless_c (Nat.le_trans hB (b1.trans b2).size) s2 b rfl;go_wp2_with fail;refine(he _).mono ?_;rintro e w3 ⟨rfl,s3,b3⟩;go_wp2_with fail
 go_end0
 rw [HU.out];exact⟨rfl,by simpa using s3,(b1.trans b2).trans b3⟩
theorem pend_c (hB:B≤w.heap.size) (hz:FitC t) {u:Th} (hu:u=if 0<ld m t.cur then { t with look:=ld m t.cur,pc:=25} else Th.on' { t with look:=ld m t.cur,pc:=25}) (h:At B w (blkR X 224 (ct id t A n c p o ps D dn dc)::memR p size m::L)):Calls Tryz.prog 148 #[Pz X] w fun e w'=>e=.returned (.tuple #[])∧At B w' (blkR X 224 (ct id u A n c p o ps D dn dc)::memR p size m::L)∧Below B w w':=by
 obtain⟨c0,c1,c3,p3⟩:=hz;have k6:=h.cv 6 (Iv t.cur);have hl:=load_c hB h t.cur 25;have hk:=fun w1=>asks_any w1 (ld m t.cur);have HU:=Lib.hid hu;clear hu;go_enter Tryz.func148,Tryz.ntmps148;go_wp2_with fail;refine(hl).mono ?_;rintro e w1 ⟨rfl,s1,b1⟩;have k5:=s1.cv 5 (Iv (ld m t.cur));go_wp2_with fail;refine(hk _).mono ?_;rintro e w2 ⟨rfl,rfl⟩;have he:=fun(b:Bool)=>unless_c (Nat.le_trans hB b1.size) s1 b rfl;go_wp2_with fail;refine(he _).mono ?_;rintro e w3 ⟨rfl,s3,b3⟩;go_wp2_with fail
 go_end0
 rw [HU.out];exact⟨rfl,by simpa using s3,b1.trans b3⟩
theorem help_c (hB:B≤w.heap.size) (hz:FitC t) {u:Th} (hu:u=if sw m (t.cur+1) 0 then { t with pc:=26} else Th.on' { t with pc:=23}) (h:At B w (blkR X 224 (ct id t A n c p o ps D dn dc)::memR p size m::L)):Calls Tryz.prog 149 #[Pz X] w fun e w'=>e=.returned (.tuple #[])∧At B w' (blkR X 224 (ct id u A n c p o ps D dn dc)::memR p size (sm m (t.cur+1) 0 2)::L)∧Below B w w':=by
 obtain⟨c0,c1,c3,p3⟩:=hz;have k6:=h.cv 6 (Iv t.cur);obtain⟨q,hq⟩:∃ q:Int,q=if sw m (t.cur+1) 0 then 26 else 23:=⟨_,rfl⟩
 have hl:=swap_c hB h (t.cur+1) 0 2 26 23 hq;have hqd:(q==26)=sw m (t.cur+1) 0:=by rw [hq];cases sw m (t.cur+1) 0<;>rfl
 have HQ:=Lib.hid hq;have HD:=Lib.hid hqd;have HU:=Lib.hid hu;clear hu hq hqd;go_enter Tryz.func149,Tryz.ntmps149;go_wp2_with fail;refine(hl).mono ?_;rintro e w1 ⟨rfl,s1,b1⟩;have k1:=s1.cv 1 (Iv q);have he:=fun(b:Bool)=>unless_c (Nat.le_trans hB b1.size) s1 b rfl;go_wp2_with fail;refine(he _).mono ?_;rintro e w3 ⟨rfl,s3,b3⟩;go_wp2_with fail
 go_end0
 rw [HU.out];rw [HD.out,HQ.out] at s3;refine⟨rfl,?_,b1.trans b3⟩
 cases hs:sw m (t.cur+1) 0<;>simpa [hs] using s3
theorem first_c (hB:B≤w.heap.size) (hz:FitC t) {u:Th} (hu:u=if ld m 1=0 then { t with look:=0,pc:=27} else { t with look:=ld m 1,prev:=ld m 1,pc:=29}) (h:At B w (blkR X 224 (ct id t A n c p o ps D dn dc)::memR p size m::L)):Calls Tryz.prog 150 #[Pz X] w fun e w'=>e=.returned (.tuple #[])∧At B w' (blkR X 224 (ct id u A n c p o ps D dn dc)::memR p size m::L)∧Below B w w':=by
 obtain⟨c0,c1,c3,p3⟩:=hz;have hl:=load_c hB h 1 27
 by_cases h0:ld m 1=0
 ·rw [if_pos h0] at hu;subst hu;rw [h0] at hl;go_enter Tryz.func150,Tryz.ntmps150;go_wp2_with fail;refine(hl).mono ?_;rintro e w1 ⟨rfl,s1,b1⟩;have k5:=s1.cv 5 (Iv 0);go_wp2_with fail
  go_end0
  exact⟨rfl,s1,b1⟩
 ·rw [if_neg h0] at hu;subst hu;generalize ld m 1=x at*;go_enter Tryz.func150,Tryz.ntmps150;go_wp2_with fail;refine(hl).mono ?_;rintro e w1 ⟨rfl,s1,b1⟩;have k5:=s1.cv 5 (Iv x);have k1:=s1.cv 1 (Iv 27);have k7:=s1.cv 7 (Iv t.prev);have f1:=s1.blk.frozen 1;have f7:=s1.blk.frozen 7;obtain⟨s2,b2⟩:=bset (Nat.le_trans hB b1.size) s1 7 (Iv x);obtain⟨s3,b3⟩:=bset (Nat.le_trans hB (b1.trans b2).size) s2 1 (Iv 29);go_wp2_with fail
  go_end0
  exact⟨rfl,s3,(b1.trans b2).trans b3⟩
theorem scan_c (hB:B≤w.heap.size) (hz:FitC t) {u:Th} (hu:u=if ld m 1=0 then { t with look:=0,pc:=40} else { t with look:=ld m 1,cur:=ld m 1,pc:=34}) (h:At B w (blkR X 224 (ct id t A n c p o ps D dn dc)::memR p size m::L)):Calls Tryz.prog 157 #[Pz X] w fun e w'=>e=.returned (.tuple #[])∧At B w' (blkR X 224 (ct id u A n c p o ps D dn dc)::memR p size m::L)∧Below B w w':=by
 obtain⟨c0,c1,c3,p3⟩:=hz;have hl:=load_c hB h 1 40
 by_cases h0:ld m 1=0
 ·rw [if_pos h0] at hu;subst hu;rw [h0] at hl;go_enter Tryz.func157,Tryz.ntmps157;go_wp2_with fail;refine(hl).mono ?_;rintro e w1 ⟨rfl,s1,b1⟩;have k5:=s1.cv 5 (Iv 0);go_wp2_with fail
  go_end0
  exact⟨rfl,s1,b1⟩
 ·rw [if_neg h0] at hu;subst hu;generalize ld m 1=x at*;go_enter Tryz.func157,Tryz.ntmps157;go_wp2_with fail;refine(hl).mono ?_;rintro e w1 ⟨rfl,s1,b1⟩;have k5:=s1.cv 5 (Iv x);have k1:=s1.cv 1 (Iv 40);have k6:=s1.cv 6 (Iv t.cur);have f1:=s1.blk.frozen 1;have f6:=s1.blk.frozen 6;obtain⟨s2,b2⟩:=bset (Nat.le_trans hB b1.size) s1 6 (Iv x);obtain⟨s3,b3⟩:=bset (Nat.le_trans hB (b1.trans b2).size) s2 1 (Iv 34);go_wp2_with fail
  go_end0
  exact⟨rfl,s3,(b1.trans b2).trans b3⟩
end
end Go.Proofs.YtadgbhjpgnlmoaaGreat
