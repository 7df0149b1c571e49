/- TopSafe, a part of its proof; no conditions. -/
import Derived.Test.YtadgbhjpgnlmoaaGreatPk11
import Derived.Test.YtadgbhjpgnlmoaaGreatPk12
import Derived.Test.YtadgbhjpgnlmoaaGreatPk23
set_option linter.all false
namespace Go.Proofs.YtadgbhjpgnlmoaaGreat
open Go.RowKit Go.Rp Go.Sf
abbrev itC (l:List Sf.Item):List Value:=l.flatMap fun x=>[Iv x.rc,Iv x.word,Iv x.res]
theorem one_itC (l:List Sf.Item):∀ u∈itC l,u.oneCell'=true:=by
 intro u hu;obtain⟨x,_,hx⟩:=List.mem_flatMap.1 hu;simp only [List.mem_cons,List.not_mem_nil,or_false] at hx
 rcases hx with rfl | rfl | rfl<;>rfl
abbrev itR (A:Option Addr) (n c:Nat) (l:List Sf.Item):Res:=slRes 144 3 A n c (itC l)
theorem bset13 {B b:Nat} {w:World} {L:List Res} {t:TypeId} {cs:Array Value} (hB:B≤w.heap.size) (h:At B w (blkR b t cs::L)) (hc:cs.size=13) (v0 v1 v2 v3 v4 v5 v6 v7 v8 v9 v10 v11 v12:Value):
  At B (((((((((((((((((((((((((w.setCell ⟨b,0,none⟩ v0)).setCell ⟨b,1,none⟩ v1)).setCell ⟨b,2,none⟩ v2)).setCell ⟨b,3,none⟩ v3)).setCell ⟨b,4,none⟩ v4)).setCell ⟨b,5,none⟩ v5)).setCell ⟨b,6,none⟩ v6)).setCell ⟨b,7,none⟩ v7)).setCell ⟨b,8,none⟩ v8)).setCell ⟨b,9,none⟩ v9)).setCell ⟨b,10,none⟩ v10)).setCell ⟨b,11,none⟩ v11)).setCell ⟨b,12,none⟩ v12) (blkR b t #[v0,v1,v2,v3,v4,v5,v6,v7,v8,v9,v10,v11,v12]::L)∧Below B w (((((((((((((((((((((((((w.setCell ⟨b,0,none⟩ v0)).setCell ⟨b,1,none⟩ v1)).setCell ⟨b,2,none⟩ v2)).setCell ⟨b,3,none⟩ v3)).setCell ⟨b,4,none⟩ v4)).setCell ⟨b,5,none⟩ v5)).setCell ⟨b,6,none⟩ v6)).setCell ⟨b,7,none⟩ v7)).setCell ⟨b,8,none⟩ v8)).setCell ⟨b,9,none⟩ v9)).setCell ⟨b,10,none⟩ v10)).setCell ⟨b,11,none⟩ v11)).setCell ⟨b,12,none⟩ v12):=by
 obtain⟨s0,b0⟩:=bset hB h 0 v0;obtain⟨s1,c1⟩:=bset (Nat.le_trans hB b0.size) s0 1 v1;have b1:=b0.trans c1;obtain⟨s2,c2⟩:=bset (Nat.le_trans hB b1.size) s1 2 v2;have b2:=b1.trans c2;obtain⟨s3,c3⟩:=bset (Nat.le_trans hB b2.size) s2 3 v3;have b3:=b2.trans c3;obtain⟨s4,c4⟩:=bset (Nat.le_trans hB b3.size) s3 4 v4;have b4:=b3.trans c4;obtain⟨s5,c5⟩:=bset (Nat.le_trans hB b4.size) s4 5 v5;have b5:=b4.trans c5;obtain⟨s6,c6⟩:=bset (Nat.le_trans hB b5.size) s5 6 v6;have b6:=b5.trans c6;obtain⟨s7,c7⟩:=bset (Nat.le_trans hB b6.size) s6 7 v7;have b7:=b6.trans c7;obtain⟨s8,c8⟩:=bset (Nat.le_trans hB b7.size) s7 8 v8;have b8:=b7.trans c8;obtain⟨s9,c9⟩:=bset (Nat.le_trans hB b8.size) s8 9 v9;have b9:=b8.trans c9;obtain⟨s10,c10⟩:=bset (Nat.le_trans hB b9.size) s9 10 v10;have b10:=b9.trans c10;obtain⟨s11,c11⟩:=bset (Nat.le_trans hB b10.size) s10 11 v11;have b11:=b10.trans c11;obtain⟨s12,c12⟩:=bset (Nat.le_trans hB b11.size) s11 12 v12
 have b12:=b11.trans c12
 have e:(((((((((((((cs.setIfInBounds 0 v0).setIfInBounds 1 v1).setIfInBounds 2 v2).setIfInBounds 3 v3).setIfInBounds 4 v4).setIfInBounds 5 v5).setIfInBounds 6 v6).setIfInBounds 7 v7).setIfInBounds 8 v8).setIfInBounds 9 v9).setIfInBounds 10 v10).setIfInBounds 11 v11).setIfInBounds 12 v12)=#[v0,v1,v2,v3,v4,v5,v6,v7,v8,v9,v10,v11,v12]:=by
  apply Array.ext
  ·simp [hc]
  ·intro j h1 h2;simp only [List.size_toArray,List.length_cons,List.length_nil] at h2
   rcases j with _ | _ | _ | _ | _ | _ | _ | _ | _ | _ | _ | _ | _ | j<;>first | (simp [Array.getElem_setIfInBounds,hc];done) | omega
 rw [e] at s12;exact⟨s12,b12⟩
theorem rot6 {w:World} {U:Nat→Prop} {a b c d e f:Res} {l:List Res} (h:Sep w U (a::b::c::d::e::f::l)):Sep w U (f::a::b::c::d::e::l):=(h.cons fun _=>Sep.rot5).rot2
section
variable {B X p n c:Nat} {w:World} {size id rk rv:Int} {m:List Int} {L:List Res} {t:Th} {A:Option Addr} {told:Bool}
set_option maxRecDepth 100000 in
theorem step_any {f:FuncId} {t2:Th} {m2:List Int} {rk rv:Int} {td:Bool} (hB:B≤w.heap.size) (h1:1≤t.pc) (h2:t.pc≤16) (hn:n≤1000)
  (hidx:∀ w X,(Instr.index 220 (pl X) (Iv t.pc)).run Tryz.prog w=.ok (mth X f) w)
  (hcf:∀ (args:Array Value) (w:World),(callFunc f args).run Tryz.prog w=.ok (.enter f args) w)
  (hpc:∀ (W:World) (A4:Option Addr) (c4 X:Nat) (L':List Res),B≤W.heap.size→At B W (blkR X 219 (ot id t A4 n c4 p 0 0 false)::memR p size m::L')→Calls Tryz.prog f #[Pz X] W fun e w'=>e=.returned (.tuple #[])∧At B w' (blkR X 219 (ot id t2 A4 n c4 p rk rv td)::memR p size m2::L')∧Below B W w')
  (h:At B w (itR A n c t.batch::memR p size m::L)):Calls Tryz.prog 108 #[Pz p,thv id t A n c] w fun e w'=>∃ A' c',e=.returned (.tuple #[thv id t2 A' n c',two8 rk rv,.bool td])∧At B w' (itR A' n c' t.batch::itR A n c t.batch::memR p size m2::L)∧Below B w w':=by
 have ha:=fun(w1:World) (A1:Option Addr) (c1:Nat)=>asks_t w1 id t A1 n c1;rw [show decide (1≤t.pc∧t.pc≤16)=true by simp [h1,h2]] at ha;have hpl:=fun w1 X=>places_any w1 X;have hn':=Lib.hid (show n≤1000000 by omega);clear hn h1 h2;unfold thv at ha ⊢;go_enter Tryz.func108,Tryz.ntmps108;go_wp2_with fail
 have s1:=((h.alloc hB #[Iv id,Iv t.pc,Iv t.rc,Iv t.seq,Iv t.word,Iv t.look,Iv t.cur,Iv t.prev,Iv t.nth,Iv t.many,Iv t.pass,Iv t.runs,.slice A n c] 93).alloc (by simp;omega)
  #[Iv 0,Iv 0,Iv 0,Iv 0,Iv 0,Iv 0,Iv 0,Iv 0,Iv 0,Iv 0,Iv 0,Iv 0,.slice none 0 0] 93).alloc (by simp;omega) #[Ub 0,Iw 0] 47
 simp only [World.size_alloc] at s1
 have b1:=(((Below.refl B w).alloc hB (.cells #[Iv id,Iv t.pc,Iv t.rc,Iv t.seq,Iv t.word,Iv t.look,Iv t.cur,Iv t.prev,Iv t.nth,Iv t.many,Iv t.pass,Iv t.runs,.slice A n c] 93)).alloc (by simp;omega)
  (.cells #[Iv 0,Iv 0,Iv 0,Iv 0,Iv 0,Iv 0,Iv 0,Iv 0,Iv 0,Iv 0,Iv 0,Iv 0,.slice none 0 0] 93)).alloc (by simp;omega) (.cells #[Ub 0,Iw 0] 47)
 have hB3:B≤(((w.alloc (.cells #[Iv id,Iv t.pc,Iv t.rc,Iv t.seq,Iv t.word,Iv t.look,Iv t.cur,Iv t.prev,Iv t.nth,Iv t.many,Iv t.pass,Iv t.runs,.slice A n c] 93)).alloc
  (.cells #[Iv 0,Iv 0,Iv 0,Iv 0,Iv 0,Iv 0,Iv 0,Iv 0,Iv 0,Iv 0,Iv 0,Iv 0,.slice none 0 0] 93)).alloc (.cells #[Ub 0,Iw 0] 47)).heap.size:=Nat.le_trans hB b1.size
 generalize ((w.alloc _).alloc _).alloc _=w3 at*;generalize w.heap.size+1+1=x2 at*;generalize w.heap.size+1=x1 at*;generalize w.heap.size=x0 at*;refine(cloneItem_s hB3 s1.rot4 (one_itC _) hn'.out).mono ?_;rintro e w4 ⟨A4,c4,rfl,s4,b4⟩;have s5:=s4.rot5;have hB4:=Nat.le_trans hB3 b4.size;have b5:=b1.trans b4;clear s1 b1 b4 s4;have k0:=s5.cv 0 (Iv id);have k1:=s5.cv 1 (Iv t.pc);have k2:=s5.cv 2 (Iv t.rc);have k3:=s5.cv 3 (Iv t.seq);have k4:=s5.cv 4 (Iv t.word);have k5:=s5.cv 5 (Iv t.look);have k6:=s5.cv 6 (Iv t.cur);have k7:=s5.cv 7 (Iv t.prev);have k8:=s5.cv 8 (Iv t.nth);have k9:=s5.cv 9 (Iv t.many);have k10:=s5.cv 10 (Iv t.pass);have k11:=s5.cv 11 (Iv t.runs);have k12:=s5.cv 12 (.slice A n c);have hf:=s5.blk.frozen 12;obtain⟨s6,b6⟩:=bset hB4 s5 12 (.slice A4 n c4);go_wp2_with fail;generalize w4.setCell ⟨x0,12,none⟩ (.slice A4 n c4)=w5 at*;have hB5:=Nat.le_trans hB4 b6.size;have b6:=b5.trans b6
 refine(ha w5 A4 c4).mono ?_;rintro e w6 ⟨rfl,b7⟩;have s7:=s6.keep b7;have hB6:=Nat.le_trans hB5 b7.size;have b7:=b6.trans (b7.mono hB5);clear k0 k1 k2 k3 k4 k5 k6 k7 k8 k9 k10 k11 k12 s5 s6 b5 b6;have k0:=s7.cv 0 (Iv id);have k1:=s7.cv 1 (Iv t.pc);have k2:=s7.cv 2 (Iv t.rc);have k3:=s7.cv 3 (Iv t.seq);have k4:=s7.cv 4 (Iv t.word);have k5:=s7.cv 5 (Iv t.look);have k6:=s7.cv 6 (Iv t.cur);have k7:=s7.cv 7 (Iv t.prev);have k8:=s7.cv 8 (Iv t.nth);have k9:=s7.cv 9 (Iv t.many);have k10:=s7.cv 10 (Iv t.pass);have k11:=s7.cv 11 (Iv t.runs);have k12:=s7.cv 12 (.slice A4 n c4);go_wp2_with fail
 have s8:At B (w6.alloc (.cells (ot id t A4 n c4 p 0 0 false) 219)) (blkR w6.heap.size 219 (ot id t A4 n c4 p 0 0 false)::memR p size m::blkR x0 93 #[Iv id,Iv t.pc,Iv t.rc,Iv t.seq,Iv t.word,Iv t.look,Iv t.cur,Iv t.prev,Iv t.nth,Iv t.many,Iv t.pass,Iv t.runs,.slice A4 n c4]::itR A4 n c4 t.batch::itR A n c t.batch::blkR x2 47 #[Ub 0,Iw 0]::blkR x1 93 #[Iv 0,Iv 0,Iv 0,Iv 0,Iv 0,Iv 0,Iv 0,Iv 0,Iv 0,Iv 0,Iv 0,Iv 0,.slice none 0 0]::L):=
  Sep.cons (fun _ h=>rot6 h) (s7.alloc hB6 (ot id t A4 n c4 p 0 0 false) 219)
 have b8:=b7.alloc hB6 (.cells (ot id t A4 n c4 p 0 0 false) 219);have hB8:B≤(w6.alloc (.cells (ot id t A4 n c4 p 0 0 false) 219)).drew.heap.size:=Nat.le_trans hB6 (by simp);have k1:(w6.alloc (.cells (ot id t A4 n c4 p 0 0 false) 219)).cell? ⟨x0,1,none⟩=some (Iv t.pc):=s8.rot3.blk.cell 1;clear k0 k2 k3 k4 k5 k6 k7 k8 k9 k10 k11 k12 s7 b7;unfold ot at s8 b8 k1 hB8;generalize w6.alloc (.cells _ 219)=w7 at*;generalize w6.heap.size=X at*;have s8:At B w7 (blkR X 219 (ot id t A4 n c4 p 0 0 false)::memR p size m::blkR x0 93 #[Iv id,Iv t.pc,Iv t.rc,Iv t.seq,Iv t.word,Iv t.look,Iv t.cur,Iv t.prev,Iv t.nth,Iv t.many,Iv t.pass,Iv t.runs,.slice A4 n c4]::itR A4 n c4 t.batch::itR A n c t.batch::blkR x2 47 #[Ub 0,Iw 0]::blkR x1 93 #[Iv 0,Iv 0,Iv 0,Iv 0,Iv 0,Iv 0,Iv 0,Iv 0,Iv 0,Iv 0,Iv 0,Iv 0,.slice none 0 0]::L):=s8
 go_region_held3 (fun w'=>w'.cell? ⟨x0,1,none⟩=some (Iv t.pc)) (first | assumption | go_keep) (first
  | (go_at_call 116;((with_reducible refine(hpl _ _).mono ?_);rintro e w8 ⟨rfl,b9⟩;have s9:=(Sep.drew s8).keep b9;have k1:=s9.rot3.cv 1 (Iv t.pc);have hB9:=Nat.le_trans hB8 b9.size))
  | ((with_reducible refine(hpc _ _ _ _ _ hB9 s9).mono ?_);rintro e w9 ⟨rfl,s10,b10⟩;have k1:w9.cell? ⟨x0,1,none⟩=some (Iv t.pc):=s10.rot3.blk.cell 1))
 have hB10:=Nat.le_trans hB9 b10.size;have b10:=(b8.trans ((Below.refl B w7).drew)).trans ((b9.mono (by have:=hB8;simpa using this)).trans b10);clear s8 s9 b8 b9 hpc hpl ha hidx hcf k1;clear s8;have q0:=s10.cv 0 (Iv id);have q1:=s10.cv 1 (Iv t2.pc);have q2:=s10.cv 2 (Iv t2.rc);have q3:=s10.cv 3 (Iv t2.seq);have q4:=s10.cv 4 (Iv t2.word);have q5:=s10.cv 5 (Iv t2.look);have q6:=s10.cv 6 (Iv t2.cur);have q7:=s10.cv 7 (Iv t2.prev);have q8:=s10.cv 8 (Iv t2.nth);have q9:=s10.cv 9 (Iv t2.many);have q10:=s10.cv 10 (Iv t2.pass);have q11:=s10.cv 11 (Iv t2.runs);have q12:=s10.cv 12 (.slice A4 n c4);have q14:=s10.cv 14 (Ub rk);have q15:=s10.cv 15 (Iw rv);have q16:=s10.cv 16 (.bool td);go_wp2_with fail
 have s11:At B w9 (blkR x1 93 #[Iv 0,Iv 0,Iv 0,Iv 0,Iv 0,Iv 0,Iv 0,Iv 0,Iv 0,Iv 0,Iv 0,Iv 0,.slice none 0 0]::blkR x2 47 #[Ub 0,Iw 0]::blkR X 219 (ot id t2 A4 n c4 p rk rv td)::memR p size m2::itR A4 n c4 t.batch::itR A n c t.batch::L):=by
  exact Sep.cons (fun _ h=>Sep.rot5 h) (rot6 s10.rot3.drop)
 have s12:=s11.rot2;have y0:=s11.cv 0 (Iv 0);have g0:w9.frozen? ⟨x1,0,none⟩=false:=s11.blk.frozen 0;have y1:=s11.cv 1 (Iv 0);have g1:w9.frozen? ⟨x1,1,none⟩=false:=s11.blk.frozen 1;have y2:=s11.cv 2 (Iv 0);have g2:w9.frozen? ⟨x1,2,none⟩=false:=s11.blk.frozen 2;have y3:=s11.cv 3 (Iv 0);have g3:w9.frozen? ⟨x1,3,none⟩=false:=s11.blk.frozen 3;have y4:=s11.cv 4 (Iv 0);have g4:w9.frozen? ⟨x1,4,none⟩=false:=s11.blk.frozen 4;have y5:=s11.cv 5 (Iv 0);have g5:w9.frozen? ⟨x1,5,none⟩=false:=s11.blk.frozen 5;have y6:=s11.cv 6 (Iv 0);have g6:w9.frozen? ⟨x1,6,none⟩=false:=s11.blk.frozen 6;have y7:=s11.cv 7 (Iv 0);have g7:w9.frozen? ⟨x1,7,none⟩=false:=s11.blk.frozen 7;have y8:=s11.cv 8 (Iv 0);have g8:w9.frozen? ⟨x1,8,none⟩=false:=s11.blk.frozen 8;have y9:=s11.cv 9 (Iv 0);have g9:w9.frozen? ⟨x1,9,none⟩=false:=s11.blk.frozen 9;have y10:=s11.cv 10 (Iv 0);have g10:w9.frozen? ⟨x1,10,none⟩=false:=s11.blk.frozen 10
 have y11:=s11.cv 11 (Iv 0);have g11:w9.frozen? ⟨x1,11,none⟩=false:=s11.blk.frozen 11;have y12:=s11.cv 12 (.slice none 0 0);have g12:w9.frozen? ⟨x1,12,none⟩=false:=s11.blk.frozen 12;have z0:=s12.cv 0 (Ub 0);have g20:w9.frozen? ⟨x2,0,none⟩=false:=s12.blk.frozen 0;have z1:=s12.cv 1 (Iw 0);have g21:w9.frozen? ⟨x2,1,none⟩=false:=s12.blk.frozen 1;clear s10;refine wp_region_held_drew (S:=fun w'=>w'.cell? ⟨X,0,none⟩=some (Iv id)∧w'.cell? ⟨X,1,none⟩=some (Iv t2.pc)∧w'.cell? ⟨X,2,none⟩=some (Iv t2.rc)∧w'.cell? ⟨X,3,none⟩=some (Iv t2.seq)∧w'.cell? ⟨X,4,none⟩=some (Iv t2.word)∧w'.cell? ⟨X,5,none⟩=some (Iv t2.look)∧w'.cell? ⟨X,6,none⟩=some (Iv t2.cur)∧w'.cell? ⟨X,7,none⟩=some (Iv t2.prev)∧w'.cell? ⟨X,8,none⟩=some (Iv t2.nth)∧w'.cell? ⟨X,9,none⟩=some (Iv t2.many)∧w'.cell? ⟨X,10,none⟩=some (Iv t2.pass)∧w'.cell? ⟨X,11,none⟩=some (Iv t2.runs)∧w'.cell? ⟨X,12,none⟩=some (.slice A4 n c4)∧w'.cell? ⟨X,14,none⟩=some (Ub rk)∧w'.cell? ⟨X,15,none⟩=some (Iw rv)∧w'.cell? ⟨X,16,none⟩=some (.bool td)) (by kernel_rfl) ⟨q0,q1,q2,q3,q4,q5,q6,q7,q8,q9,q10,q11,q12,q14,q15,q16⟩ fun hHeld=>?_
 refine Rp.tk 0 hHeld ?_;refine Rp.tk 1 hHeld ?_;refine Rp.tk 2 hHeld ?_;refine Rp.tk 3 hHeld ?_;refine Rp.tk 4 hHeld ?_;refine Rp.tk 5 hHeld ?_;refine Rp.tk 6 hHeld ?_;refine Rp.tk 7 hHeld ?_;refine Rp.tk 8 hHeld ?_;refine Rp.tk 9 hHeld ?_;refine Rp.tk 10 hHeld ?_;refine Rp.tk 11 hHeld ?_;refine Rp.rd 12 fun K hK=>?_;go_simp;obtain⟨s13,b13⟩:=bset13 hB10 s11 rfl (Iv id) (Iv t2.pc) (Iv t2.rc) (Iv t2.seq) (Iv t2.word) (Iv t2.look) (Iv t2.cur) (Iv t2.prev) (Iv t2.nth) (Iv t2.many) (Iv t2.pass) (Iv t2.runs) (.slice A4 n c4);clear y0 y1 y2 y3 y4 y5 y6 y7 y8 y9 y10 y11 y12 g0 g1 g2 g3 g4 g5 g6 g7 g8 g9 g10 g11 g12 z0 z1 g20 g21 q0 q1 q2 q3 q4 q5 q6 q7 q8 q9 q10 q11 q12 q14 q15 q16 s11 s12;generalize (World.setCell _ ⟨x1,12,none⟩ _)=wA at*;have hBA:=Nat.le_trans hB10 b13.size;have z0:=s13.rot2.cv 0 (Ub 0);have z1:=s13.rot2.cv 1 (Iw 0);have g20:wA.frozen? ⟨x2,0,none⟩=false:=s13.rot2.blk.frozen 0
 have g21:wA.frozen? ⟨x2,1,none⟩=false:=s13.rot2.blk.frozen 1;refine gon hK ⟨s13.rot3.blk.cell 0,s13.rot3.blk.cell 1,s13.rot3.blk.cell 2,s13.rot3.blk.cell 3,s13.rot3.blk.cell 4,s13.rot3.blk.cell 5,s13.rot3.blk.cell 6,s13.rot3.blk.cell 7,s13.rot3.blk.cell 8,s13.rot3.blk.cell 9,s13.rot3.blk.cell 10,s13.rot3.blk.cell 11,s13.rot3.blk.cell 12,s13.rot3.blk.cell 14,s13.rot3.blk.cell 15,s13.rot3.blk.cell 16⟩ fun hHeld=>?_;clear hK K;refine Rp.rd 13 fun K hK=>?_;go_simp;obtain⟨s14,b14⟩:=bset hBA s13.rot2 0 (Ub rk);obtain⟨s15,b15⟩:=bset (Nat.le_trans hBA b14.size) s14 1 (Iw rv);clear z0 z1 g20 g21 s14 s13;have b16:=b10.trans (b13.trans (b14.trans b15));clear b10 b13 b14 b15;generalize (World.setCell _ ⟨x2,1,none⟩ _)=wB at*;refine gon hK ⟨s15.rot3.blk.cell 0,s15.rot3.blk.cell 1,s15.rot3.blk.cell 2,s15.rot3.blk.cell 3,s15.rot3.blk.cell 4,s15.rot3.blk.cell 5,s15.rot3.blk.cell 6,s15.rot3.blk.cell 7,s15.rot3.blk.cell 8,s15.rot3.blk.cell 9,s15.rot3.blk.cell 10,s15.rot3.blk.cell 11,s15.rot3.blk.cell 12,s15.rot3.blk.cell 14,s15.rot3.blk.cell 15,s15.rot3.blk.cell 16⟩ fun hHeld=>?_
 clear hK K;refine Rp.tk 14 hHeld ?_;refine wpAnyH_done (by kernel_rfl) ?_ _;clear hHeld;have r0:wB.drew.cell? ⟨x1,0,none⟩=some (Iv id):=s15.rot2.blk.cell 0;have r1:wB.drew.cell? ⟨x1,1,none⟩=some (Iv t2.pc):=s15.rot2.blk.cell 1;have r2:wB.drew.cell? ⟨x1,2,none⟩=some (Iv t2.rc):=s15.rot2.blk.cell 2;have r3:wB.drew.cell? ⟨x1,3,none⟩=some (Iv t2.seq):=s15.rot2.blk.cell 3;have r4:wB.drew.cell? ⟨x1,4,none⟩=some (Iv t2.word):=s15.rot2.blk.cell 4;have r5:wB.drew.cell? ⟨x1,5,none⟩=some (Iv t2.look):=s15.rot2.blk.cell 5;have r6:wB.drew.cell? ⟨x1,6,none⟩=some (Iv t2.cur):=s15.rot2.blk.cell 6;have r7:wB.drew.cell? ⟨x1,7,none⟩=some (Iv t2.prev):=s15.rot2.blk.cell 7;have r8:wB.drew.cell? ⟨x1,8,none⟩=some (Iv t2.nth):=s15.rot2.blk.cell 8;have r9:wB.drew.cell? ⟨x1,9,none⟩=some (Iv t2.many):=s15.rot2.blk.cell 9;have r10:wB.drew.cell? ⟨x1,10,none⟩=some (Iv t2.pass):=s15.rot2.blk.cell 10;have r11:wB.drew.cell? ⟨x1,11,none⟩=some (Iv t2.runs):=s15.rot2.blk.cell 11
 have r12:wB.drew.cell? ⟨x1,12,none⟩=some (.slice A4 n c4):=s15.rot2.blk.cell 12;have u0:wB.drew.cell? ⟨x2,0,none⟩=some (Ub rk):=s15.blk.cell 0;have u1:wB.drew.cell? ⟨x2,1,none⟩=some (Iw rv):=s15.blk.cell 1
 have s16:At B wB.drew (itR A4 n c4 t.batch::itR A n c t.batch::memR p size m2::L):=by
  have:=Sep.drop (Sep.drop (Sep.drop s15));exact Sep.drew (Sep.cons (fun _ h=>Sep.rot2 h) (Sep.rot2 this))
 have b17:=b16.drew;clear s15 b16;generalize wB.drew=wC at*;go_wp2_with fail;refine bodyPost_ret (v:=.tuple #[thv id t2 A4 n c4,two8 rk rv,.bool td]) (by simp [results,Tryz.results108,go_sem,r0,r1,r2,r3,r4,r5,r6,r7,r8,r9,r10,r11,r12,u0,u1,thv]) rfl ?_;exact⟨A4,c4,rfl,s16,b17⟩
end
section
variable {B X p n c dn dc:Nat} {w:World} {size id ps:Int} {m:List Int} {L:List Res} {t:Th} {A D o:Option Addr}
theorem next_c (hB:B≤w.heap.size) (hz:FitC t) (hn:n=t.batch.length) {u:Th} (hu:u=if ld m (t.cur+3)≠0 then { t with look:=ld m (t.cur+3),cur:=ld m (t.cur+3),pc:=34} else { t with look:=0,pc:=if t.batch=[] then 40 else 36})
  (h:At B w (blkR X 224 (ct id t A n c p o ps D dn dc)::memR p size m::L)):Calls Tryz.prog 159 #[Pz X] w fun e w'=>e=.returned (.tuple #[])∧At B w' (blkR X 224 (ct id u A n c p o ps D dn dc)::memR p size m::L)∧Below B w w':=by
 obtain⟨c0,c1,c3,p3⟩:=hz;have k6:=h.cv 6 (Iv t.cur);have hl:=load_c hB h (t.cur+3) 36
 by_cases h0:ld m (t.cur+3)=0
 ·rw [if_neg (by simp [h0])] at hu;rw [h0] at hl;have hb:(t.batch=[])↔n=0:=by rw [hn];exact List.length_eq_zero_iff.symm
  by_cases hn0:n=0
  ·rw [if_pos (hb.2 hn0)] at hu;subst hu;clear hb hn;subst hn0;go_enter Tryz.func159,Tryz.ntmps159;go_wp2_with fail;refine(hl).mono ?_;rintro e w1 ⟨rfl,s1,b1⟩;have k5:=s1.cv 5 (Iv 0);have k1:=s1.cv 1 (Iv 36);have k12:=s1.cv 12 (.slice A 0 c);have f1:=s1.blk.frozen 1;obtain⟨s2,b2⟩:=bset (Nat.le_trans hB b1.size) s1 1 (Iv 40);go_wp2_with fail
   go_end0
   exact⟨rfl,s2,b1.trans b2⟩
  ·rw [if_neg (fun h=>hn0 (hb.1 h))] at hu;subst hu;clear hb hn;have hn1:¬ (n:Int)=0:=by omega
   go_enter Tryz.func159,Tryz.ntmps159;go_wp2_with fail;refine(hl).mono ?_;rintro e w1 ⟨rfl,s1,b1⟩;have k5:=s1.cv 5 (Iv 0);have k1:=s1.cv 1 (Iv 36);have k12:=s1.cv 12 (.slice A n c);go_wp2_with fail
   go_end0
   exact⟨rfl,s1,b1⟩
 ·rw [if_pos h0] at hu;subst hu;generalize ld m (t.cur+3)=x at*;go_enter Tryz.func159,Tryz.ntmps159;go_wp2_with fail;refine(hl).mono ?_;rintro e w1 ⟨rfl,s1,b1⟩;have k5:=s1.cv 5 (Iv x);have k1:=s1.cv 1 (Iv 36);have k6:=s1.cv 6 (Iv t.cur);have f1:=s1.blk.frozen 1;have f6:=s1.blk.frozen 6;obtain⟨s2,b2⟩:=bset (Nat.le_trans hB b1.size) s1 6 (Iv x);obtain⟨s3,b3⟩:=bset (Nat.le_trans hB (b1.trans b2).size) s2 1 (Iv 34);go_wp2_with fail
  go_end0
  exact⟨rfl,s3,(b1.trans b2).trans b3⟩
def itA (A:Option Addr) (n:Nat) (nth:Int):Option Addr:=if 0≤nth∧nth<(n:Int) then A.map fun a=>⟨a.block,a.off+nth.toNat*3,none⟩ else none
theorem item_c (hB:B≤w.heap.size) (hn:n≤100000) (h:At B w (blkR X 224 (ct id t A n c p o ps D dn dc)::itR A n c t.batch::L)):Calls Tryz.prog 182 #[Pz X] w fun e w'=>e=.returned (.pointer (itA A n t.nth))∧Below w.heap.size w w':=by
 have k8:=h.cv 8 (Iv t.nth);have k12:=h.cv 12 (.slice A n c);have hs:Sl w 144 3 A n c (itC t.batch) (fun x=>B≤x):=h.rot2.get
 by_cases h0:t.nth<0
 ·have e:itA A n t.nth=none:=by unfold itA;rw [if_neg (by omega)]
  rw [e];have d0:decide (t.nth<0)=true:=decide_eq_true h0;go_enter Tryz.func182,Tryz.ntmps182;go_wp2_with fail;go_quiet (fail);go_wp2_with fail;go_ret;exact⟨rfl,below_drewN (Below.refl _ w) nq⟩
 ·by_cases h1:(n:Int)≤t.nth
  ·have e:itA A n t.nth=none:=by unfold itA;rw [if_neg (by omega)]
   rw [e];have d0:decide (t.nth<0)=false:=decide_eq_false h0;go_enter Tryz.func182,Tryz.ntmps182;go_wp2_with fail;go_quiet (fail);go_wp2_with fail;go_ret;exact⟨rfl,below_drewN (Below.refl _ w) nq⟩
  ·obtain⟨j,hj⟩:∃ j:Nat,t.nth=(j:Int):=⟨t.nth.toNat,by omega⟩;have hjn:j<n:=by omega
   obtain⟨g,off,rfl,hg,hlt,hfz,hx⟩:=hs.at (by omega);have e:itA (some ⟨g,off,none⟩) n t.nth=some ⟨g,off+j*3,none⟩:=by unfold itA;rw [if_pos (by omega),hj];rfl
   rw [e];rw [hj] at k8;have hjn':¬ (n:Int)≤(j:Int):=by omega
   have d0:decide ((j:Int)<0)=false:=decide_eq_false (by omega);clear hs hx e h0 h1;go_enter Tryz.func182,Tryz.ntmps182;go_wp2_with fail;go_quiet (fail);go_wp2_with fail;go_quiet (fail);go_wp2_with fail;go_ret;exact⟨rfl,below_drewN (below_drewN (Below.refl _ w) _) _⟩
theorem itC_at {l:List Sf.Item} {j:Nat} {x:Sf.Item} (h:l[j]? =some x):(itC l)[j*3]? =some (Iv x.rc)∧(itC l)[j*3+1]? =some (Iv x.word)∧(itC l)[j*3+2]? =some (Iv x.res):=by
 induction l generalizing j with
 | nil=>simp at h
 | cons y l ih=>
  rcases j with _ | j
  ·simp at h;subst h;exact⟨rfl,rfl,rfl⟩
  ·have:=ih (j:=j) (by simpa using h);have e:(j+1)*3=j*3+3:=by omega
   rw [e]
   simpa [itC] using this
theorem item_cells {x:Sf.Item} (hn:n=t.batch.length) (h:At B w (itR A n c t.batch::L)) (hx:t.item=some x):∃ g off j,A=some ⟨g,off,none⟩∧t.nth=((j:Nat):Int)∧j<n∧B≤g∧w.cell? ⟨g,off+j*3,none⟩=some (Iv x.rc)∧w.cell? ⟨g,off+j*3+1,none⟩=some (Iv x.word)∧w.cell? ⟨g,off+j*3+2,none⟩=some (Iv x.res):=by
 unfold Th.item at hx
 split at hx
 ·rename_i h0;obtain⟨j,hj⟩:∃ j:Nat,t.nth=(j:Int):=⟨t.nth.toNat,by omega⟩;rw [hj,Int.toNat_natCast] at hx;have hlt:j<n:=by rw [hn];exact(List.getElem?_eq_some_iff.1 hx).1
  have hs:Sl w 144 3 A n c (itC t.batch) (fun x=>B≤x):=h.get;obtain⟨g,off,rfl,hg,_,_,hc⟩:=hs.at (by omega);obtain⟨x0,x1,x2⟩:=itC_at hx;exact⟨g,off,j,rfl,hj,hlt,hg,hc _ _ x0,by rw [Nat.add_assoc];exact hc _ _ x1,by rw [Nat.add_assoc];exact hc _ _ x2⟩
 ·cases hx
theorem tell_c {x:Sf.Item} (hB:B≤w.heap.size) (hn:n=t.batch.length) (hn2:n≤100000) (hx:t.item=some x) (hw:IntKind.i64.wrap (x.rc+4)=x.rc+4) (h:At B w (blkR X 224 (ct id t A n c p o ps D dn dc)::itR A n c t.batch::memR p size m::L)):Calls Tryz.prog 161 #[Pz X] w fun e w'=>e=.returned (.tuple #[])∧At B w' (blkR X 224 (ct id { t with pc:=38} A n c p o ps D dn dc)::itR A n c t.batch::memR p size (st m (x.rc+4) x.res)::L)∧Below B w w':=by
 have hi:=item_c hB hn2 h;obtain⟨g,off,j,rfl,hj,hjn,hg,y0,y1,y2⟩:=item_cells hn h.rot2 hx;rw [show itA (some ⟨g,off,none⟩) n t.nth=some ⟨g,off+j*3,none⟩ by unfold itA;rw [if_pos (by omega),hj];rfl] at hi;clear y0 y1 y2;go_enter Tryz.func161,Tryz.ntmps161;go_wp2_with fail;refine(hi).mono ?_;rintro e w1 ⟨rfl,b1⟩;have s1:=h.keep b1;have b1:=b1.mono hB
 have hkeep:∀ (w2:World) (m2:List Int),At B w2 (blkR X 224 (ct id t (some ⟨g,off,none⟩) n c p o ps D dn dc)::itR (some ⟨g,off,none⟩) n c t.batch::memR p size m2::L)→w2.cell? ⟨g,off+j*3,none⟩=some (Iv x.rc)∧w2.cell? ⟨g,off+j*3+2,none⟩=some (Iv x.res):=fun w2 m2 s2=>by
  obtain⟨g',off',j',hA,hj',_,_,y0,_,y2⟩:=item_cells hn s2.rot2 hx;obtain⟨rfl,rfl⟩:g=g'∧off=off':=by simpa using hA
  obtain rfl:j=j':=by omega
  exact⟨y0,y2⟩
 obtain⟨y0,y2⟩:=hkeep w1 m s1;have k13:=s1.cv 13 (Pz p);have hB1:=Nat.le_trans hB b1.size;have hl:=store_s (w:=w1.drew) hB1 (Sep.drew s1.rot3) (x.rc+4) x.res;generalize (if inb m (x.rc+4) then(0:Int) else 10)=er at hl;have HKEEP:=Lib.hid hkeep;clear hj hx hkeep;go_wp2_with fail
 go_region_held3 (fun w'=>w'.cell? ⟨X,13,none⟩=some (Pz p)∧w'.cell? ⟨g,off+j*3,none⟩=some (Iv x.rc)∧w'.cell? ⟨g,off+j*3+2,none⟩=some (Iv x.res)) (first | (refine ⟨?_,?_,?_⟩<;>assumption) | go_keep) (first
  | (go_at_call 125;((with_reducible refine hl.mono ?_);rintro e w2 ⟨rfl,s2,b2⟩;have s2:=s2.rot2.cons (fun _ h=>h.rot2);obtain⟨y0,y2⟩:=HKEEP.out w2 _ s2;have k13:w2.cell? ⟨X,13,none⟩=some (Pz p):=s2.blk.cell 13)))
 have b2:=b1.drew.trans b2;have k1:=s2.cv 1 (Iv t.pc);have f1:=s2.blk.frozen 1;obtain⟨s3,b3⟩:=bset (Nat.le_trans hB b2.size) s2 1 (Iv 38);go_wp2_with fail
 go_end0
 exact⟨rfl,s3,b2.trans b3⟩
theorem age_c {x:Sf.Item} (hB:B≤w.heap.size) (hn:n=t.batch.length) (hn2:n≤100000) (hx:t.item=some x) (hw:IntKind.i64.wrap (x.rc+2)=x.rc+2) (h:At B w (blkR X 224 (ct id t A n c p o ps D dn dc)::itR A n c t.batch::memR p size m::L)):Calls Tryz.prog 162 #[Pz X] w fun e w'=>e=.returned (.tuple #[])∧At B w' (blkR X 224 (ct id { t with pc:=39} A n c p o ps D dn dc)::itR A n c t.batch::memR p size (st m (x.rc+2) t.pass)::L)∧Below B w w':=by
 have hi:=item_c hB hn2 h;obtain⟨g,off,j,rfl,hj,hjn,hg,y0,y1,y2⟩:=item_cells hn h.rot2 hx;rw [show itA (some ⟨g,off,none⟩) n t.nth=some ⟨g,off+j*3,none⟩ by unfold itA;rw [if_pos (by omega),hj];rfl] at hi;clear y0 y1 y2;go_enter Tryz.func162,Tryz.ntmps162;go_wp2_with fail;refine(hi).mono ?_;rintro e w1 ⟨rfl,b1⟩;have s1:=h.keep b1;have b1:=b1.mono hB
 have hkeep:∀ (w2:World) (m2:List Int),At B w2 (blkR X 224 (ct id t (some ⟨g,off,none⟩) n c p o ps D dn dc)::itR (some ⟨g,off,none⟩) n c t.batch::memR p size m2::L)→w2.cell? ⟨g,off+j*3,none⟩=some (Iv x.rc)∧w2.cell? ⟨g,off+j*3+2,none⟩=some (Iv x.res):=fun w2 m2 s2=>by
  obtain⟨g',off',j',hA,hj',_,_,y0,_,y2⟩:=item_cells hn s2.rot2 hx;obtain⟨rfl,rfl⟩:g=g'∧off=off':=by simpa using hA
  obtain rfl:j=j':=by omega
  exact⟨y0,y2⟩
 obtain⟨y0,y2⟩:=hkeep w1 m s1;have k13:=s1.cv 13 (Pz p);have k10:=s1.cv 10 (Iv t.pass);have hB1:=Nat.le_trans hB b1.size;have hl:=store_s (w:=w1.drew) hB1 (Sep.drew s1.rot3) (x.rc+2) t.pass;generalize (if inb m (x.rc+2) then(0:Int) else 10)=er at hl;have HKEEP:=Lib.hid hkeep;clear hj hx hkeep;go_wp2_with fail
 go_region_held3 (fun w'=>w'.cell? ⟨X,13,none⟩=some (Pz p)∧w'.cell? ⟨g,off+j*3,none⟩=some (Iv x.rc)∧w'.cell? ⟨X,10,none⟩=some (Iv t.pass)) (first | (refine ⟨?_,?_,?_⟩<;>assumption) | go_keep) (first
  | (go_at_call 125;((with_reducible refine hl.mono ?_);rintro e w2 ⟨rfl,s2,b2⟩;have s2:=s2.rot2.cons (fun _ h=>h.rot2);obtain⟨y0,y2⟩:=HKEEP.out w2 _ s2;have k13:=s2.cv 13 (Pz p);have k10:w2.cell? ⟨X,10,none⟩=some (Iv t.pass):=s2.blk.cell 10)))
 have b2:=b1.drew.trans b2;have k1:=s2.cv 1 (Iv t.pc);have f1:=s2.blk.frozen 1;obtain⟨s3,b3⟩:=bset (Nat.le_trans hB b2.size) s2 1 (Iv 39);go_wp2_with fail
 go_end0
 exact⟨rfl,s3,b2.trans b3⟩
end
end Go.Proofs.YtadgbhjpgnlmoaaGreat
