/- TopSafe, a part of its proof; no conditions. -/
import Derived.Test.YtadgbhjpgnlmoaaGreatPk09
set_option linter.all false
namespace Go.Proofs.YtadgbhjpgnlmoaaGreat
open Go.RowKit Go.Rp Go.Sf
theorem bset {B p:Nat} {w:World} {L:List Res} {t:TypeId} {cs:Array Value} (hB:B≤w.heap.size) (h:At B w (blkR p t cs::L)) (i:Nat) (v:Value):At B (w.setCell ⟨p,i,none⟩ v) (blkR p t (cs.setIfInBounds i v)::L)∧Below B w (w.setCell ⟨p,i,none⟩ v):=by
 obtain⟨S,h1,h2,h3⟩:=h.front (a':=blkR p t (cs.setIfInBounds i v)) fun x hx=>Nat.le_trans hB hx;exact⟨h3 _ ⟨h1.1.set i v,.inl h1.2⟩ ((Mod.refl _ _).setCell (.inl h1.2) _),((Mod.refl S _).setCell (.inl h1.2) _).below hB fun b hb=>(h2 b hb).1⟩
def ot (id:Int) (t:Th) (A:Option Addr) (n c p:Nat) (rk rv:Int) (told:Bool):Array Value:=
 #[Iv id,Iv t.pc,Iv t.rc,Iv t.seq,Iv t.word,Iv t.look,Iv t.cur,Iv t.prev,Iv t.nth,Iv t.many,Iv t.pass,Iv t.runs,.slice A n c,Pz p,Ub rk,Iw rv,.bool told]
theorem putB_any (w:World) (b:Bool) (e:Int):Calls Tryz.prog 173 #[.bool b,.int .u16 e] w fun e w'=>e=.returned (.bool b)∧w=w':=by
 go_enter Tryz.func173,Tryz.ntmps173;go_wp2;go_ret;exact⟨rfl,rfl⟩
theorem putI_any (w:World) (b:Int) (e:Int):Calls Tryz.prog 185 #[Iv b,.int .u16 e] w fun e w'=>e=.returned (Iv b)∧w=w':=by
 go_enter Tryz.func185,Tryz.ntmps185;go_wp2;go_ret;exact⟨rfl,rfl⟩
section
variable {B X p n c:Nat} {w:World} {size id rk rv:Int} {m:List Int} {L:List Res} {t:Th} {A:Option Addr} {told:Bool}
theorem either_s (hB:B≤w.heap.size) (h:At B w (blkR X 219 (ot id t A n c p rk rv told)::L)) (b:Bool) (y z:Int):Calls Tryz.prog 172 #[Pz X,.bool b,Iv y,Iv z] w fun e w'=>e=.returned (.tuple #[])∧At B w' (blkR X 219 (ot id { t with pc:=if b then y else z} A n c p rk rv told)::L)∧Below B w w':=by
 have k1:=h.cv 1 (Iv t.pc);have hf:=h.blk.frozen 1;obtain⟨s1,b1⟩:=bset hB h 1 (Iv z)
 cases b
 ·go_enter Tryz.func172,Tryz.ntmps172;go_wp2
  go_end0
  exact⟨rfl,s1,b1⟩
 ·obtain⟨s2,b2⟩:=bset (Nat.le_trans hB b1.size) s1 1 (Iv y);go_enter Tryz.func172,Tryz.ntmps172;go_wp2
  go_end0
  exact⟨rfl,s2,b1.trans b2⟩
theorem load_o (hB:B≤w.heap.size) (h:At B w (blkR X 219 (ot id t A n c p rk rv told)::memR p size m::L)) (a:Int):Calls Tryz.prog 174 #[Pz X,Iv a] w fun e w'=>e=.returned (.tuple #[])∧At B w' (blkR X 219 (ot id { t with look:=ld m a} A n c p rk rv told)::memR p size m::L)∧Below B w w':=by
 have k13:=h.cv 13 (Pz p);have hl:=load_s hB h.rot2 a;generalize (if inb m a then(0:Int) else 10)=er at hl;have hp:=fun w1 x y=>putI_any w1 x y;go_enter Tryz.func174,Tryz.ntmps174;go_wp2_with fail;refine(hl).mono ?_;rintro e w1 ⟨rfl,s1,b1⟩;go_wp2_with fail;refine(hp _ _ _).mono ?_;rintro e w2 ⟨rfl,rfl⟩;have s1:=s1.rot2;have hf:=s1.blk.frozen 5;have k5:=s1.cv 5 (Iv t.look);obtain⟨s2,b2⟩:=bset (Nat.le_trans hB b1.size) s1 5 (Iv (ld m a));go_wp2_with fail
 go_end0
 exact⟨rfl,s2,b1.trans b2⟩
structure Fit (t:Th):Prop where
 e0:IntKind.i64.wrap t.rc=t.rc
 e1:IntKind.i64.wrap (t.rc+1)=t.rc+1
 e3:IntKind.i64.wrap (t.rc+3)=t.rc+3
 e4:IntKind.i64.wrap (t.rc+4)=t.rc+4
theorem closed_o (hB:B≤w.heap.size) (hz:Fit t) {q:Int} (hq:q=if ld m (t.rc+1)=0 then 4 else 3) (h:At B w (blkR X 219 (ot id t A n c p rk rv told)::memR p size m::L)):Calls Tryz.prog 130 #[Pz X] w fun e w'=>e=.returned (.tuple #[])∧At B w' (blkR X 219 (ot id { t with look:=ld m (t.rc+1),pc:=q} A n c p rk rv told)::memR p size (m)::L)∧Below B w w':=by
 obtain⟨e0,e1,e3,e4⟩:=hz;have HQ:=Lib.hid hq;clear hq;have k2:=h.cv 2 (Iv t.rc);have hl:=load_o hB h (t.rc+1);go_enter Tryz.func130,Tryz.ntmps130;go_wp2_with fail;refine(hl).mono ?_;rintro e w1 ⟨rfl,s1,b1⟩;have k5:=s1.cv 5 (Iv (ld m (t.rc+1)));have k4:=s1.cv 4 (Iv t.word);have he:=fun(b:Bool)=>either_s (Nat.le_trans hB b1.size) s1 b 4 3;go_wp2_with fail;refine(he _).mono ?_;rintro e w2 ⟨rfl,s2,b2⟩;go_wp2_with fail
 go_end0
 exact⟨rfl,by rw [HQ.out];simpa using s2,b1.trans b2⟩
theorem check_o (hB:B≤w.heap.size) (hz:Fit t) {q:Int} (hq:q=if ld m (t.rc+1)=0 then 6 else 11) (h:At B w (blkR X 219 (ot id t A n c p rk rv told)::memR p size m::L)):Calls Tryz.prog 132 #[Pz X] w fun e w'=>e=.returned (.tuple #[])∧At B w' (blkR X 219 (ot id { t with look:=ld m (t.rc+1),pc:=q} A n c p rk rv told)::memR p size (m)::L)∧Below B w w':=by
 obtain⟨e0,e1,e3,e4⟩:=hz;have HQ:=Lib.hid hq;clear hq;have k2:=h.cv 2 (Iv t.rc);have hl:=load_o hB h (t.rc+1);go_enter Tryz.func132,Tryz.ntmps132;go_wp2_with fail;refine(hl).mono ?_;rintro e w1 ⟨rfl,s1,b1⟩;have k5:=s1.cv 5 (Iv (ld m (t.rc+1)));have k4:=s1.cv 4 (Iv t.word);have he:=fun(b:Bool)=>either_s (Nat.le_trans hB b1.size) s1 b 6 11;go_wp2_with fail;refine(he _).mono ?_;rintro e w2 ⟨rfl,s2,b2⟩;go_wp2_with fail
 go_end0
 exact⟨rfl,by rw [HQ.out];simpa using s2,b1.trans b2⟩
theorem wait_o (hB:B≤w.heap.size) (hz:Fit t) {q:Int} (hq:q=if ld m (t.rc)=t.word then 12 else 14) (h:At B w (blkR X 219 (ot id t A n c p rk rv told)::memR p size m::L)):Calls Tryz.prog 138 #[Pz X] w fun e w'=>e=.returned (.tuple #[])∧At B w' (blkR X 219 (ot id { t with look:=ld m (t.rc),pc:=q} A n c p rk rv told)::memR p size (m)::L)∧Below B w w':=by
 obtain⟨e0,e1,e3,e4⟩:=hz;have HQ:=Lib.hid hq;clear hq;have k2:=h.cv 2 (Iv t.rc);have hl:=load_o hB h (t.rc);go_enter Tryz.func138,Tryz.ntmps138;go_wp2_with fail;refine(hl).mono ?_;rintro e w1 ⟨rfl,s1,b1⟩;have k5:=s1.cv 5 (Iv (ld m (t.rc)));have k4:=s1.cv 4 (Iv t.word);have he:=fun(b:Bool)=>either_s (w:=w1.drew) (Nat.le_trans hB b1.size) s1.drew b 12 14;go_wp2_with fail
 go_region_held3 (fun w'=>w'.cell? ⟨X,5,none⟩=some (Iv (ld m (t.rc)))∧w'.cell? ⟨X,4,none⟩=some (Iv t.word)) (first | (refine ⟨?_,?_⟩<;>assumption) | go_keep) (first
  | (go_at_call 172;((with_reducible refine(he _).mono ?_);rintro e w2 ⟨rfl,s2,b2⟩;have k5:=s2.cv 5 (Iv (ld m (t.rc)));have k4:w2.cell? ⟨X,4,none⟩=some (Iv t.word):=s2.blk.cell 4)))
 go_wp2_with fail
 go_end0
 exact⟨rfl,by rw [HQ.out];simpa using s2,b1.drew.trans b2⟩
theorem sure_o (hB:B≤w.heap.size) (hz:Fit t) {q:Int} (hq:q=if ld m (t.rc)=t.word then 7 else 16) (h:At B w (blkR X 219 (ot id t A n c p rk rv told)::memR p size m::L)):Calls Tryz.prog 142 #[Pz X] w fun e w'=>e=.returned (.tuple #[])∧At B w' (blkR X 219 (ot id { t with look:=ld m (t.rc),pc:=q} A n c p rk rv told)::memR p size (m)::L)∧Below B w w':=by
 obtain⟨e0,e1,e3,e4⟩:=hz;have HQ:=Lib.hid hq;clear hq;have k2:=h.cv 2 (Iv t.rc);have hl:=load_o hB h (t.rc);go_enter Tryz.func142,Tryz.ntmps142;go_wp2_with fail;refine(hl).mono ?_;rintro e w1 ⟨rfl,s1,b1⟩;have k5:=s1.cv 5 (Iv (ld m (t.rc)));have k4:=s1.cv 4 (Iv t.word);have he:=fun(b:Bool)=>either_s (w:=w1.drew) (Nat.le_trans hB b1.size) s1.drew b 7 16;go_wp2_with fail
 go_region_held3 (fun w'=>w'.cell? ⟨X,5,none⟩=some (Iv (ld m (t.rc)))∧w'.cell? ⟨X,4,none⟩=some (Iv t.word)) (first | (refine ⟨?_,?_⟩<;>assumption) | go_keep) (first
  | (go_at_call 172;((with_reducible refine(he _).mono ?_);rintro e w2 ⟨rfl,s2,b2⟩;have k5:=s2.cv 5 (Iv (ld m (t.rc)));have k4:w2.cell? ⟨X,4,none⟩=some (Iv t.word):=s2.blk.cell 4)))
 go_wp2_with fail
 go_end0
 exact⟨rfl,by rw [HQ.out];simpa using s2,b1.drew.trans b2⟩
theorem lock_o (hB:B≤w.heap.size) (hz:Fit t) {q:Int} (hq:q=if ld m (0)=0 then 13 else 11) (h:At B w (blkR X 219 (ot id t A n c p rk rv told)::memR p size m::L)):Calls Tryz.prog 139 #[Pz X] w fun e w'=>e=.returned (.tuple #[])∧At B w' (blkR X 219 (ot id { t with look:=ld m (0),pc:=q} A n c p rk rv told)::memR p size (m)::L)∧Below B w w':=by
 obtain⟨e0,e1,e3,e4⟩:=hz;have HQ:=Lib.hid hq;clear hq;have hl:=load_o hB h (0);go_enter Tryz.func139,Tryz.ntmps139;go_wp2_with fail;refine(hl).mono ?_;rintro e w1 ⟨rfl,s1,b1⟩;have k5:=s1.cv 5 (Iv (ld m (0)));have k4:=s1.cv 4 (Iv t.word);have he:=fun(b:Bool)=>either_s (Nat.le_trans hB b1.size) s1 b 13 11;go_wp2_with fail;refine(he _).mono ?_;rintro e w2 ⟨rfl,s2,b2⟩;go_wp2_with fail
 go_end0
 exact⟨rfl,by rw [HQ.out];simpa using s2,b1.trans b2⟩
theorem open_o (hB:B≤w.heap.size) (hz:Fit t) (h:At B w (blkR X 219 (ot id t A n c p rk rv told)::memR p size m::L)):Calls Tryz.prog 131 #[Pz X] w fun e w'=>e=.returned (.tuple #[])∧At B w' (blkR X 219 (ot id { t with pc:=5} A n c p rk rv told)::memR p size (st m (t.rc) t.word)::L)∧Below B w w':=by
 obtain⟨e0,e1,e3,e4⟩:=hz;have k2:=h.cv 2 (Iv t.rc);have k13:=h.cv 13 (Pz p);have k4:=h.cv 4 (Iv t.word);have hl:=store_s (w:=w.drew) hB (Sep.drew h.rot2) (t.rc) (t.word);generalize (if inb m (t.rc) then(0:Int) else 10)=er at hl;go_enter Tryz.func131,Tryz.ntmps131;go_wp2_with fail
 go_region_held3 (fun w'=>w'.cell? ⟨X,2,none⟩=some (Iv t.rc)∧w'.cell? ⟨X,4,none⟩=some (Iv t.word)∧w'.cell? ⟨X,13,none⟩=some (Pz p)) (first | (refine ⟨?_,?_,?_⟩<;>assumption) | go_keep) (first
  | (go_at_call 125;((with_reducible refine hl.mono ?_);rintro e w1 ⟨rfl,s1,b1⟩;have s1:=s1.rot2;have k2:=s1.cv 2 (Iv t.rc);have k4:=s1.cv 4 (Iv t.word);have k13:w1.cell? ⟨X,13,none⟩=some (Pz p):=s1.blk.cell 13)))
 have k1:=s1.cv 1 (Iv t.pc);have hf:=s1.blk.frozen 1;obtain⟨s2,b2⟩:=bset (Nat.le_trans hB b1.size) s1 1 (Iv 5);go_wp2_with fail
 go_end0
 exact⟨rfl,s2,((Below.refl _ w).drew.trans b1).trans b2⟩
theorem drop_o (hB:B≤w.heap.size) (hz:Fit t) (h:At B w (blkR X 219 (ot id t A n c p rk rv told)::memR p size m::L)):Calls Tryz.prog 143 #[Pz X] w fun e w'=>e=.returned (.tuple #[])∧At B w' (blkR X 219 (ot id { t with pc:=11} A n c p rk rv told)::memR p size (st m (t.rc+1) 0)::L)∧Below B w w':=by
 obtain⟨e0,e1,e3,e4⟩:=hz;have k2:=h.cv 2 (Iv t.rc);have k13:=h.cv 13 (Pz p);have hl:=store_s (w:=w.drew) hB (Sep.drew h.rot2) (t.rc+1) (0);generalize (if inb m (t.rc+1) then(0:Int) else 10)=er at hl;go_enter Tryz.func143,Tryz.ntmps143;go_wp2_with fail
 go_region_held3 (fun w'=>w'.cell? ⟨X,2,none⟩=some (Iv t.rc)∧w'.cell? ⟨X,13,none⟩=some (Pz p)) (first | (refine ⟨?_,?_⟩<;>assumption) | go_keep) (first
  | (go_at_call 125;((with_reducible refine hl.mono ?_);rintro e w1 ⟨rfl,s1,b1⟩;have s1:=s1.rot2;have k2:=s1.cv 2 (Iv t.rc);have k13:w1.cell? ⟨X,13,none⟩=some (Pz p):=s1.blk.cell 13)))
 have k1:=s1.cv 1 (Iv t.pc);have hf:=s1.blk.frozen 1;obtain⟨s2,b2⟩:=bset (Nat.le_trans hB b1.size) s1 1 (Iv 11);go_wp2_with fail
 go_end0
 exact⟨rfl,s2,((Below.refl _ w).drew.trans b1).trans b2⟩
theorem next_o (hB:B≤w.heap.size) (hz:Fit t) (h:At B w (blkR X 219 (ot id t A n c p rk rv told)::memR p size m::L)):Calls Tryz.prog 135 #[Pz X] w fun e w'=>e=.returned (.tuple #[])∧At B w' (blkR X 219 (ot id { t with pc:=9} A n c p rk rv told)::memR p size (st m (t.rc+3) t.look)::L)∧Below B w w':=by
 obtain⟨e0,e1,e3,e4⟩:=hz;have k2:=h.cv 2 (Iv t.rc);have k13:=h.cv 13 (Pz p);have k5:=h.cv 5 (Iv t.look);have hl:=store_s (w:=w.drew) hB (Sep.drew h.rot2) (t.rc+3) (t.look);generalize (if inb m (t.rc+3) then(0:Int) else 10)=er at hl;go_enter Tryz.func135,Tryz.ntmps135;go_wp2_with fail
 go_region_held3 (fun w'=>w'.cell? ⟨X,2,none⟩=some (Iv t.rc)∧w'.cell? ⟨X,5,none⟩=some (Iv t.look)∧w'.cell? ⟨X,13,none⟩=some (Pz p)) (first | (refine ⟨?_,?_,?_⟩<;>assumption) | go_keep) (first
  | (go_at_call 125;((with_reducible refine hl.mono ?_);rintro e w1 ⟨rfl,s1,b1⟩;have s1:=s1.rot2;have k2:=s1.cv 2 (Iv t.rc);have k5:=s1.cv 5 (Iv t.look);have k13:w1.cell? ⟨X,13,none⟩=some (Pz p):=s1.blk.cell 13)))
 have k1:=s1.cv 1 (Iv t.pc);have hf:=s1.blk.frozen 1;obtain⟨s2,b2⟩:=bset (Nat.le_trans hB b1.size) s1 1 (Iv 9);go_wp2_with fail
 go_end0
 exact⟨rfl,s2,((Below.refl _ w).drew.trans b1).trans b2⟩
theorem mark_o (hB:B≤w.heap.size) (hz:Fit t) (h:At B w (blkR X 219 (ot id t A n c p rk rv told)::memR p size m::L)):Calls Tryz.prog 137 #[Pz X] w fun e w'=>e=.returned (.tuple #[])∧At B w' (blkR X 219 (ot id { t with pc:=11} A n c p rk rv told)::memR p size (st m (t.rc+1) t.look)::L)∧Below B w w':=by
 obtain⟨e0,e1,e3,e4⟩:=hz;have k2:=h.cv 2 (Iv t.rc);have k13:=h.cv 13 (Pz p);have k5:=h.cv 5 (Iv t.look);have hl:=store_s (w:=w.drew) hB (Sep.drew h.rot2) (t.rc+1) (t.look);generalize (if inb m (t.rc+1) then(0:Int) else 10)=er at hl;go_enter Tryz.func137,Tryz.ntmps137;go_wp2_with fail
 go_region_held3 (fun w'=>w'.cell? ⟨X,2,none⟩=some (Iv t.rc)∧w'.cell? ⟨X,5,none⟩=some (Iv t.look)∧w'.cell? ⟨X,13,none⟩=some (Pz p)) (first | (refine ⟨?_,?_,?_⟩<;>assumption) | go_keep) (first
  | (go_at_call 125;((with_reducible refine hl.mono ?_);rintro e w1 ⟨rfl,s1,b1⟩;have s1:=s1.rot2;have k2:=s1.cv 2 (Iv t.rc);have k5:=s1.cv 5 (Iv t.look);have k13:w1.cell? ⟨X,13,none⟩=some (Pz p):=s1.blk.cell 13)))
 have k1:=s1.cv 1 (Iv t.pc);have hf:=s1.blk.frozen 1;obtain⟨s2,b2⟩:=bset (Nat.le_trans hB b1.size) s1 1 (Iv 11);go_wp2_with fail
 go_end0
 exact⟨rfl,s2,((Below.refl _ w).drew.trans b1).trans b2⟩
theorem front_o (hB:B≤w.heap.size) (hz:Fit t) (h:At B w (blkR X 219 (ot id t A n c p rk rv told)::memR p size m::L)):Calls Tryz.prog 134 #[Pz X] w fun e w'=>e=.returned (.tuple #[])∧At B w' (blkR X 219 (ot id { t with look:=ld m 1,pc:=8} A n c p rk rv told)::memR p size (m)::L)∧Below B w w':=by
 obtain⟨e0,e1,e3,e4⟩:=hz;have hl:=load_o hB h 1;go_enter Tryz.func134,Tryz.ntmps134;go_wp2_with fail;refine(hl).mono ?_;rintro e w1 ⟨rfl,s1,b1⟩;have k1:=s1.cv 1 (Iv t.pc);have hf:=s1.blk.frozen 1;obtain⟨s2,b2⟩:=bset (Nat.le_trans hB b1.size) s1 1 (Iv 8);go_wp2_with fail
 go_end0
 exact⟨rfl,s2,b1.trans b2⟩
theorem publish_o (hB:B≤w.heap.size) (hz:Fit t) {q:Int} (hq:q=if sw m (t.rc) 0 then 5 else 3) (h:At B w (blkR X 219 (ot id t A n c p rk rv told)::memR p size m::L)):Calls Tryz.prog 129 #[Pz X] w fun e w'=>e=.returned (.tuple #[])∧At B w' (blkR X 219 (ot id { t with pc:=q} A n c p rk rv told)::memR p size (sm m (t.rc) 0 t.word)::L)∧Below B w w':=by
 have hBd:B≤w.drew.heap.size:=hB;obtain⟨e0,e1,e3,e4⟩:=hz;have HQ:=Lib.hid hq;clear hq;have k2:=h.cv 2 (Iv t.rc);have k13:=h.cv 13 (Pz p);have k4:=h.cv 4 (Iv t.word);have hl:=swap_s (w:=w.drew) hB (Sep.drew h.rot2) (t.rc) (0) (t.word);generalize (if inb m (t.rc) then(0:Int) else 10)=er at hl;have hp:=fun w1 x y=>putB_any w1 x y;go_enter Tryz.func129,Tryz.ntmps129;go_wp2_with fail
 go_region_held3 (fun w'=>w'.cell? ⟨X,2,none⟩=some (Iv t.rc)∧w'.cell? ⟨X,4,none⟩=some (Iv t.word)∧w'.cell? ⟨X,13,none⟩=some (Pz p)) (first | (refine ⟨?_,?_,?_⟩<;>assumption) | go_keep) (first
  | (go_at_call 122;((with_reducible refine hl.mono ?_);rintro e w1 ⟨rfl,s1,b1⟩;have s1:=s1.rot2;have k2:=s1.cv 2 (Iv t.rc);have k4:=s1.cv 4 (Iv t.word);have k13:w1.cell? ⟨X,13,none⟩=some (Pz p):=s1.blk.cell 13))
  | (go_at_call 173;((with_reducible refine(hp _ _ _).mono ?_);rintro e w3 ⟨rfl,rfl⟩))
  | (go_at_call 172;((with_reducible refine(either_s (w:=w1) (Nat.le_trans hBd b1.size) s1 _ 5 3).mono ?_);rintro e w2 ⟨rfl,s2,b2⟩;have k2:=s2.cv 2 (Iv t.rc);have k4:=s2.cv 4 (Iv t.word);have k13:w2.cell? ⟨X,13,none⟩=some (Pz p):=s2.blk.cell 13)))
 go_wp2_with fail
 go_end0
 exact⟨rfl,by rw [HQ.out];simpa using s2,((Below.refl _ w).drew.trans b1).trans b2⟩
theorem claim_o (hB:B≤w.heap.size) (hz:Fit t) {q:Int} (hq:q=if sw m (t.rc+1) 0 then 15 else 11) (h:At B w (blkR X 219 (ot id t A n c p rk rv told)::memR p size m::L)):Calls Tryz.prog 133 #[Pz X] w fun e w'=>e=.returned (.tuple #[])∧At B w' (blkR X 219 (ot id { t with pc:=q} A n c p rk rv told)::memR p size (sm m (t.rc+1) 0 2)::L)∧Below B w w':=by
 have hBd:B≤w.drew.heap.size:=hB;obtain⟨e0,e1,e3,e4⟩:=hz;have HQ:=Lib.hid hq;clear hq;have k2:=h.cv 2 (Iv t.rc);have k13:=h.cv 13 (Pz p);have hl:=swap_s (w:=w.drew) hB (Sep.drew h.rot2) (t.rc+1) (0) (2);generalize (if inb m (t.rc+1) then(0:Int) else 10)=er at hl;have hp:=fun w1 x y=>putB_any w1 x y;go_enter Tryz.func133,Tryz.ntmps133;go_wp2_with fail
 go_region_held3 (fun w'=>w'.cell? ⟨X,2,none⟩=some (Iv t.rc)∧w'.cell? ⟨X,13,none⟩=some (Pz p)) (first | (refine ⟨?_,?_⟩<;>assumption) | go_keep) (first
  | (go_at_call 122;((with_reducible refine hl.mono ?_);rintro e w1 ⟨rfl,s1,b1⟩;have s1:=s1.rot2;have k2:=s1.cv 2 (Iv t.rc);have k13:w1.cell? ⟨X,13,none⟩=some (Pz p):=s1.blk.cell 13))
  | (go_at_call 173;((with_reducible refine(hp _ _ _).mono ?_);rintro e w3 ⟨rfl,rfl⟩))
  | (go_at_call 172;((with_reducible refine(either_s (w:=w1) (Nat.le_trans hBd b1.size) s1 _ 15 11).mono ?_);rintro e w2 ⟨rfl,s2,b2⟩;have k2:=s2.cv 2 (Iv t.rc);have k13:w2.cell? ⟨X,13,none⟩=some (Pz p):=s2.blk.cell 13)))
 go_wp2_with fail
 go_end0
 exact⟨rfl,by rw [HQ.out];simpa using s2,((Below.refl _ w).drew.trans b1).trans b2⟩
end
section
variable {B X p n c:Nat} {w:World} {size id rk rv:Int} {m:List Int} {L:List Res} {t:Th} {A:Option Addr} {told:Bool}
theorem alloc_o (hB:B≤w.heap.size) (h:At B w (blkR X 219 (ot id t A n c p rk rv told)::memR p size m::L)):Calls Tryz.prog 128 #[Pz X] w fun e w'=>e=.returned (.tuple #[])∧At B w' (blkR X 219 (ot id (if 5≤size-(m.length:Int) then { t with rc:=(m.length:Int),pc:=2} else t) A n c p rk rv told)::memR p size (if 5≤size-(m.length:Int) then m++[0,0,0,0,0] else m)::L)∧Below B w w':=by
 have k13:=h.cv 13 (Pz p);have hl:=alloc_s hB h.rot2 5 (by decide);unfold more at hl
 by_cases hc:(m.length:Int)+(5:Nat)≤size
 ·have hc':5≤size-(m.length:Int):=by omega
  simp only [if_pos hc] at hl;simp only [if_pos hc'];clear hc hc';generalize (m.length:Int)=ln at*;go_enter Tryz.func128,Tryz.ntmps128;go_wp2_with fail;refine(hl).mono ?_;rintro e w1 ⟨rfl,s1,b1⟩;have s1:=s1.rot2;have k1:=s1.cv 1 (Iv t.pc);have k2:=s1.cv 2 (Iv t.rc);have hf1:=s1.blk.frozen 1;have hf2:=s1.blk.frozen 2;obtain⟨s2,b2⟩:=bset (Nat.le_trans hB b1.size) s1 2 (Iv ln);obtain⟨s3,b3⟩:=bset (Nat.le_trans hB (b1.trans b2).size) s2 1 (Iv 2);go_wp2_with fail
  go_end0
  exact⟨rfl,s3,(b1.trans b2).trans b3⟩
 ·have hc':¬ 5≤size-(m.length:Int):=by omega
  simp only [if_neg hc] at hl;simp only [if_neg hc'];clear hc hc';go_enter Tryz.func128,Tryz.ntmps128;go_wp2_with fail;refine(hl).mono ?_;rintro e w1 ⟨rfl,s1,b1⟩;go_wp2_with fail
  go_end0
  exact⟨rfl,s1.rot2,b1⟩
theorem take_o (hB:B≤w.heap.size) (hz:IntKind.i64.wrap (id+1)=id+1) {q q2:Int} (hq:q=if sw m 0 0 then 20 else 11) (hq2:q2=if sw m 0 0 then 0 else t.runs) (h:At B w (blkR X 219 (ot id t A n c p rk rv told)::memR p size m::L)):Calls Tryz.prog 140 #[Pz X] w fun e w'=>e=.returned (.tuple #[])∧At B w' (blkR X 219 (ot id { t with pc:=q,runs:=q2} A n c p rk rv told)::memR p size (sm m 0 0 (id+1))::L)∧Below B w w':=by
 have k13:=h.cv 13 (Pz p);have k0:=h.cv 0 (Iv id);have hl:=swap_s (w:=w.drew) hB (Sep.drew h.rot2) 0 0 (id+1);generalize (if inb m 0 then(0:Int) else 10)=er at hl;have hp:=fun w1 x y=>putB_any w1 x y;generalize sw m 0 0=bb at*;generalize sm m 0 0 (id+1)=m2 at*
 cases bb
 ·simp only [Bool.false_eq_true,if_false] at hq hq2;subst hq hq2;go_enter Tryz.func140,Tryz.ntmps140;go_wp2_with fail
  go_region_held3 (fun w'=>w'.cell? ⟨X,0,none⟩=some (Iv id)∧w'.cell? ⟨X,13,none⟩=some (Pz p)) (first | (refine ⟨?_,?_⟩<;>assumption) | go_keep) (first
   | (go_at_call 122;((with_reducible refine hl.mono ?_);rintro e w1 ⟨rfl,s1,b1⟩;have s1:=s1.rot2;have k0:=s1.cv 0 (Iv id);have k13:w1.cell? ⟨X,13,none⟩=some (Pz p):=s1.blk.cell 13))
   | (go_at_call 173;((with_reducible refine(hp _ _ _).mono ?_);rintro e w3 ⟨rfl,rfl⟩)))
  have b1:Below B w w1:=(Below.refl _ w).drew.trans b1;have he:=either_s (Nat.le_trans hB b1.size) s1 false 20 11;go_wp2_with fail;refine he.mono ?_;rintro e w2 ⟨rfl,s2,b2⟩;go_wp2_with fail
  go_end0
  exact⟨rfl,s2,b1.trans b2⟩
 ·simp only [if_true] at hq hq2;subst hq hq2;go_enter Tryz.func140,Tryz.ntmps140;go_wp2_with fail
  go_region_held3 (fun w'=>w'.cell? ⟨X,0,none⟩=some (Iv id)∧w'.cell? ⟨X,13,none⟩=some (Pz p)) (first | (refine ⟨?_,?_⟩<;>assumption) | go_keep) (first
   | (go_at_call 122;((with_reducible refine hl.mono ?_);rintro e w1 ⟨rfl,s1,b1⟩;have s1:=s1.rot2;have k0:=s1.cv 0 (Iv id);have k13:w1.cell? ⟨X,13,none⟩=some (Pz p):=s1.blk.cell 13))
   | (go_at_call 173;((with_reducible refine(hp _ _ _).mono ?_);rintro e w3 ⟨rfl,rfl⟩)))
  have b1:Below B w w1:=(Below.refl _ w).drew.trans b1;have he:=either_s (Nat.le_trans hB b1.size) s1 true 20 11;go_wp2_with fail;refine he.mono ?_;rintro e w2 ⟨rfl,s2,b2⟩;have k11:=s2.cv 11 (Iv t.runs);have hf:=s2.blk.frozen 11;obtain⟨s3,b3⟩:=bset (Nat.le_trans hB (b1.trans b2).size) s2 11 (Iv 0);go_wp2_with fail
  go_end0
  exact⟨rfl,s3,(b1.trans b2).trans b3⟩
theorem link_o (hB:B≤w.heap.size) {q:Int} (hq:q=if sw m 1 t.look then 1 else 0) (h:At B w (blkR X 219 (ot id t A n c p rk rv told)::memR p size m::L)):Calls Tryz.prog 136 #[Pz X] w fun e w'=>e=.returned (.tuple #[])∧At B w' (blkR X 219 (ot id { t with look:=q,pc:=10} A n c p rk rv told)::memR p size (sm m 1 t.look t.rc)::L)∧Below B w w':=by
 have k13:=h.cv 13 (Pz p);have k5:=h.cv 5 (Iv t.look);have k2:=h.cv 2 (Iv t.rc);have hl:=swap_s (w:=w.drew) hB (Sep.drew h.rot2) 1 t.look t.rc;generalize (if inb m 1 then(0:Int) else 10)=er at hl;have hp:=fun w1 x y=>putB_any w1 x y;generalize sw m 1 t.look=bb at*;generalize sm m 1 t.look t.rc=m2 at*
 cases bb
 ·simp only [Bool.false_eq_true,if_false] at hq;subst hq;go_enter Tryz.func136,Tryz.ntmps136;go_wp2_with fail
  go_region_held3 (fun w'=>w'.cell? ⟨X,2,none⟩=some (Iv t.rc)∧w'.cell? ⟨X,5,none⟩=some (Iv t.look)∧w'.cell? ⟨X,13,none⟩=some (Pz p)) (first | (refine ⟨?_,?_,?_⟩<;>assumption) | go_keep) (first
   | (go_at_call 122;((with_reducible refine hl.mono ?_);rintro e w1 ⟨rfl,s1,b1⟩;have s1:=s1.rot2;have k2:=s1.cv 2 (Iv t.rc);have k5:=s1.cv 5 (Iv t.look);have k13:w1.cell? ⟨X,13,none⟩=some (Pz p):=s1.blk.cell 13))
   | (go_at_call 173;((with_reducible refine(hp _ _ _).mono ?_);rintro e w3 ⟨rfl,rfl⟩)))
  have b1:Below B w w1:=(Below.refl _ w).drew.trans b1;have k1:=s1.cv 1 (Iv t.pc);have hf:=s1.blk.frozen 5;have hf1:=s1.blk.frozen 1;obtain⟨s2,b2⟩:=bset (Nat.le_trans hB b1.size) s1 5 (Iv 0);obtain⟨s3,b3⟩:=bset (Nat.le_trans hB (b1.trans b2).size) s2 1 (Iv 10);go_wp2_with fail
  go_end0
  exact⟨rfl,s3,(b1.trans b2).trans b3⟩
 ·simp only [if_true] at hq;subst hq;go_enter Tryz.func136,Tryz.ntmps136;go_wp2_with fail
  go_region_held3 (fun w'=>w'.cell? ⟨X,2,none⟩=some (Iv t.rc)∧w'.cell? ⟨X,5,none⟩=some (Iv t.look)∧w'.cell? ⟨X,13,none⟩=some (Pz p)) (first | (refine ⟨?_,?_,?_⟩<;>assumption) | go_keep) (first
   | (go_at_call 122;((with_reducible refine hl.mono ?_);rintro e w1 ⟨rfl,s1,b1⟩;have s1:=s1.rot2;have k2:=s1.cv 2 (Iv t.rc);have k5:=s1.cv 5 (Iv t.look);have k13:w1.cell? ⟨X,13,none⟩=some (Pz p):=s1.blk.cell 13))
   | (go_at_call 173;((with_reducible refine(hp _ _ _).mono ?_);rintro e w3 ⟨rfl,rfl⟩)))
  have b1:Below B w w1:=(Below.refl _ w).drew.trans b1;have k1:=s1.cv 1 (Iv t.pc);have hf:=s1.blk.frozen 5;have hf1:=s1.blk.frozen 1;obtain⟨s2,b2⟩:=bset (Nat.le_trans hB b1.size) s1 5 (Iv 0);obtain⟨s3,b3⟩:=bset (Nat.le_trans hB (b1.trans b2).size) s2 5 (Iv 1);obtain⟨s4,b4⟩:=bset (Nat.le_trans hB ((b1.trans b2).trans b3).size) s3 1 (Iv 10);go_wp2_with fail
  go_end0
  exact⟨rfl,s4,((b1.trans b2).trans b3).trans b4⟩
theorem read_o (hB:B≤w.heap.size) (hz:IntKind.i64.wrap (t.rc+4)=t.rc+4) (h:At B w (blkR X 219 (ot id t A n c p rk rv told)::memR p size m::L)):Calls Tryz.prog 141 #[Pz X] w fun e w'=>e=.returned (.tuple #[])∧At B w' (blkR X 219 (ot id { t with look:=ld m (t.rc+4),word:=0,pc:=0} A n c p (unK (ld m (t.rc+4))) (unV (ld m (t.rc+4))) true)::memR p size m::L)∧Below B w w':=by
 have k2:=h.cv 2 (Iv t.rc);have hl:=load_o hB h (t.rc+4);generalize ld m (t.rc+4)=x at*;go_enter Tryz.func141,Tryz.ntmps141;go_wp2_with fail;refine(hl).mono ?_;rintro e w1 ⟨rfl,s1,b1⟩;have k5:=s1.cv 5 (Iv x);have ho:=ofRes_any w1 x;generalize decide (1≤x∧x≤1099511627776)=bb at*;obtain⟨kk,hkk⟩:∃ kk,unK x=kk:=⟨_,rfl⟩;obtain⟨vv,hvv⟩:∃ vv,unV x=vv:=⟨_,rfl⟩;rw [hkk,hvv] at ho;have HK:=Lib.hid hkk;have HV:=Lib.hid hvv;clear hkk hvv;go_wp2_with fail;refine ho.mono ?_;rintro e w2 ⟨rfl,b2⟩;have s2:=s1.keep b2;have b2:=b2.mono (Nat.le_trans hB b1.size);have k14:=s2.cv 14 (Ub rk);have k15:=s2.cv 15 (Iw rv);have k16:=s2.cv 16 (.bool told);have k4:=s2.cv 4 (Iv t.word);have k1:=s2.cv 1 (Iv t.pc);have hf:=fun i=>s2.blk.frozen i;have f14:=hf 14;have f15:=hf 15;have f16:=hf 16;have f4:=hf 4;have f1:=hf 1;have b12:=b1.trans b2;obtain⟨s3,b3⟩:=bset (Nat.le_trans hB b12.size) s2 14 (Ub kk);have b13:=b12.trans b3
 obtain⟨s4,b4⟩:=bset (Nat.le_trans hB b13.size) s3 15 (Iw vv);have b14:=b13.trans b4;obtain⟨s5,b5⟩:=bset (Nat.le_trans hB b14.size) s4 16 (.bool true);have b15:=b14.trans b5;obtain⟨s6,b6⟩:=bset (Nat.le_trans hB b15.size) s5 4 (Iv 0);have b16:=b15.trans b6;obtain⟨s7,b7⟩:=bset (Nat.le_trans hB b16.size) s6 1 (Iv 0);go_wp2_with fail
 go_end0
 rw [HK.out,HV.out];exact⟨rfl,s7,b16.trans b7⟩
end
def st' (id:Int) (t:Th) (A:Option Addr) (n c p:Nat) (age:Int):Array Value:=
 #[Iv id,Iv t.pc,Iv t.rc,Iv t.seq,Iv t.word,Iv t.look,Iv t.cur,Iv t.prev,Iv t.nth,Iv t.many,Iv t.pass,Iv t.runs,.slice A n c,Pz p,Iv age]
section
variable {B X p n c:Nat} {w:World} {size id age:Int} {m:List Int} {L:List Res} {t:Th} {A:Option Addr}
theorem by_s (hB:B≤w.heap.size) (h:At B w (blkR X 234 (st' id t A n c p age)::L)):Calls Tryz.prog 123 #[Pz X] w fun e w'=>e=.returned (.tuple #[])∧At B w' (blkR X 234 (st' id { t with prev:=t.cur,pc:=41} A n c p age)::L)∧Below B w w':=by
 have k6:=h.cv 6 (Iv t.cur);have k7:=h.cv 7 (Iv t.prev);have k1:=h.cv 1 (Iv t.pc);have f7:=h.blk.frozen 7;have f1:=h.blk.frozen 1;obtain⟨s1,b1⟩:=bset hB h 7 (Iv t.cur);obtain⟨s2,b2⟩:=bset (Nat.le_trans hB b1.size) s1 1 (Iv 41);go_enter Tryz.func123,Tryz.ntmps123;go_wp2_with fail
 go_end0
 exact⟨rfl,s2,b1.trans b2⟩
theorem sload_s (hB:B≤w.heap.size) (h:At B w (blkR X 234 (st' id t A n c p age)::memR p size m::L)) (a:Int):Calls Tryz.prog 124 #[Pz X,Iv a] w fun e w'=>e=.returned (Iv (ld m a))∧At B w' (blkR X 234 (st' id { t with look:=ld m a} A n c p age)::memR p size m::L)∧Below B w w':=by
 have k13:=h.cv 13 (Pz p);have hl:=load_s hB h.rot2 a;generalize (if inb m a then(0:Int) else 10)=er at hl;go_enter Tryz.func124,Tryz.ntmps124;go_wp2_with fail;refine(hl).mono ?_;rintro e w1 ⟨rfl,s1,b1⟩;have s1:=s1.rot2;have hf:=s1.blk.frozen 5;have k5:=s1.cv 5 (Iv t.look);obtain⟨s2,b2⟩:=bset (Nat.le_trans hB b1.size) s1 5 (Iv (ld m a));go_wp2_with fail;go_ret;exact⟨rfl,s2,b1.trans b2⟩
end
end Go.Proofs.YtadgbhjpgnlmoaaGreat
