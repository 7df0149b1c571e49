/- TopSafe, a part of its proof; no conditions. -/
import Derived.Test.YtadgbhjpgnlmoaaGreatPk33
set_option linter.all false
namespace Go.Proofs.YtadgbhjpgnlmoaaGreat
open Go.RowKit Go.Rp Go.Sf
set_option maxRecDepth 100000
section
variable {B X k g off:Nat} {w:World} {L:List Res} {cf:Cf} {a:Ad} {s:Wst} {x:Tr}
theorem set_self_tr (T:List Tr) (k:Nat) (x:Tr) (h:T[k]? =some x):T.set k x=T:=by
 apply List.ext_getElem?;intro j;rw [List.getElem?_set]
 by_cases e:k=j
 ·subst e;rw [if_pos rfl,h,if_pos (List.getElem?_eq_some_iff.1 h).1]
 ·rw [if_neg e]
set_option maxHeartbeats 8000000 in
theorem call_1 {kd v:Int} (hB:B≤w.heap.size) (hk:a.T[k]? =some x) (hA:a.At=some ⟨g,off,none⟩) (hT:a.T.length≤1000) (h0:¬ x.t.pc=0) (h8:In8 kd v) (hn:x.t.batch.length≤1000) (hq:IntKind.i64.wrap (x.t.seq+1)=x.t.seq+1)
  (h:At B w (wTop X cf a s (a.T.map itO++L))):
  Calls Tryz.prog 38 #[Pz X,Iv (k:Int),two8 kd v] w fun e w'=>e=.returned (.bool false)∧At B w' (wTop X cf a s (a.T.map itO++L))∧Below B w w':=by
 have hkl:k<a.T.length:=(List.getElem?_eq_some_iff.1 hk).1;have hth:=fun(W:World) (hX:W.cell? ⟨X,8,none⟩=some (.slice a.At a.T.length a.ct))=>thread_s (k:=(k:Int)) hT hA hX;rw [if_pos (show (0:Int)≤(k:Int)∧(k:Int)<(a.T.length:Int) by omega),Int.toNat_natCast] at hth;have st:=fun(W:World) (L':List Res) (hW:B≤W.heap.size) (h:At B W (itO x::L'))=>begin_s (id:=x.id) hW hn hq h8 h;rw [if_neg h0,show decide (x.t.pc=0)=false from decide_eq_false h0] at st;have s1:=(open8 hk h).alloc hB #[Ub kd,Iw v] 45;have b1:=(Below.refl B w).alloc hB (.cells #[Ub kd,Iw v] 45);have hw1:w.heap.size<(w.alloc (.cells #[Ub kd,Iw v] 45)).heap.size:=by simp
 have k8:(w.alloc (.cells #[Ub kd,Iw v] 45)).cell? ⟨X,8,none⟩=some (.slice a.At a.T.length a.ct):=(s1.ord [1]).blk.cell 8;have hB':=Nat.le_trans hB b1.size;obtain⟨u,hu⟩:∃ u,u=x.t:=⟨_,rfl⟩;have hub:u.batch=x.t.batch:=by rw [hu]
 generalize hgk:off+k*13=o at*;unfold thv at st;have st:∀ (W:World) (L':List Res),B≤W.heap.size→At B W (itO x::L')→Calls Tryz.prog 81 #[.agg #[Iv x.id,Iv x.t.pc,Iv x.t.rc,Iv x.t.seq,Iv x.t.word,Iv x.t.look,Iv x.t.cur,Iv x.t.prev,Iv x.t.nth,Iv x.t.many,Iv x.t.pass,Iv x.t.runs,.slice x.A x.t.batch.length x.c],two8 kd v] W fun e w'=>∃ A' c',e=.returned (.tuple #[.agg #[Iv x.id,Iv u.pc,Iv u.rc,Iv u.seq,Iv u.word,Iv u.look,Iv u.cur,Iv u.prev,Iv u.nth,Iv u.many,Iv u.pass,Iv u.runs,.slice A' x.t.batch.length c'],.bool false])∧At B w' (itR A' x.t.batch.length c' x.t.batch::itR x.A x.t.batch.length x.c x.t.batch::L')∧Below B W w':=by rw [hu];exact st
 clear hu;go_enter Tryz.func38,Tryz.ntmps38;go_wp2_with fail;clear h;generalize (w.alloc (.cells #[Ub kd,Iw v] 45))=w1 at*;have hwY:w.heap.size<w1.heap.size:=hw1;clear hw1;have sA:At B w1 (itO x::blkR w.heap.size 45 #[Ub kd,Iw v]::trR (some ⟨g,off,none⟩) a.T.length a.ct a.T::blkR X 90 (wc cf a s)::memR a.p a.size s.m::objR a.o cf.plain::mapR .i64 a.r s.ow::evR a.Ae s.ev.length a.ce s.ev::apR a.Al s.lg.length a.cl s.lg::pkR a.Ap s.pk.length a.cp s.pk::(rst a.T k++L)):=by rw [← hA];have z:=s1.ord [9,0,1,0];exact z
 have HC:=Lib.hid (show ∀ wz,Below B w wz→B≤wz.heap.size from fun _ b=>Nat.le_trans hB b.size);have B1:=Lib.hid b1;generalize w.heap.size=Y at*;refine(hth _ k8).mono ?_;rintro e w2 ⟨rfl,rfl⟩;clear hth k8 s1;obtain⟨q0,q1,q2,q3,q4,q5,q6,q7,q8,q9,q10,q11,q12⟩:=tr_at hk hgk (sA.ord [2]);have t0:=(sA.ord [1]).cv 0 (Ub kd);have t1:=(sA.ord [1]).cv 1 (Iw v);have sA4:=((sA.alloc hB' #[Iv 0,Iv 0,Iv 0,Iv 0,Iv 0,Iv 0,Iv 0,Iv 0,Iv 0,Iv 0,Iv 0,Iv 0,.slice none 0 0] 93).ord [1,1,1,0]);simp only [ordL,List.getElem?_cons_zero,List.getElem?_cons_succ,List.eraseIdx_cons_succ,List.eraseIdx_cons_zero] at sA4;have bA:=(Below.refl B w1).drew;have bA4:=((Below.refl B w1).alloc hB' (.cells #[Iv 0,Iv 0,Iv 0,Iv 0,Iv 0,Iv 0,Iv 0,Iv 0,Iv 0,Iv 0,Iv 0,Iv 0,.slice none 0 0] 93)).drew;have hg:=World.block_lt_of_cell? w1 _ q0;simp only at hg;have hY:Y<w1.heap.size:=hwY;have nY:w1.heap.size≠Y:=by omega
 have ng:w1.heap.size≠g:=by omega
 have HB:=Lib.hid hB';have ST:=Lib.hid st;have SA:=Lib.hid (And.intro (Nat.le_trans hB' bA.size) (And.intro (Sep.drew sA) bA));have SA4:=Lib.hid (And.intro (Nat.le_trans hB' bA4.size) (And.intro (Sep.drew sA4) bA4));have HK:=Lib.hid (And.intro hk hgk);have HA:=Lib.hid hA;have HUB:=Lib.hid hub;have hS0:=And.intro t0 (And.intro t1 (And.intro q0 (And.intro q1 (And.intro q2 (And.intro q3 (And.intro q4 (And.intro q5 (And.intro q6 (And.intro q7 (And.intro q8 (And.intro q9 (And.intro q10 (And.intro q11 (And.intro q12 (And.intro hY hg)))))))))))))));clear st sA sA4 bA bA4 hB hB' hk hA h0 h8 hn hq hub hgk t0 t1 q0 q1 q2 q3 q4 q5 q6 q7 q8 q9 q10 q11 q12 b1 hkl hT;go_wp2_with fail;rename_i K0 hK0
 refine cut_any (ι:=Nat×Option Addr×Nat) (fr:=fun i=>⟨#[Pz X,Iv (k:Int),.agg #[Ub kd,Iw v],undef,undef,Pz Y,.bool false,.pointer (some ⟨g,o,none⟩),Pz i.1,.bool false,Pz X,Iv (k:Int),.pointer (some ⟨g,o,none⟩),.pointer (some ⟨g,o,none⟩),.bool false,.tuple #[.agg #[Iv x.id,Iv u.pc,Iv u.rc,Iv u.seq,Iv u.word,Iv u.look,Iv u.cur,Iv u.prev,Iv u.nth,Iv u.many,Iv u.pass,Iv u.runs,.slice i.2.1 x.t.batch.length i.2.2],.bool false],.pointer (some ⟨g,o,none⟩),.pointer (some ⟨g,o,none⟩),.agg #[Iv x.id,Iv x.t.pc,Iv x.t.rc,Iv x.t.seq,Iv x.t.word,Iv x.t.look,Iv x.t.cur,Iv x.t.prev,Iv x.t.nth,Iv x.t.many,Iv x.t.pass,Iv x.t.runs,.slice x.A x.t.batch.length x.c],.agg #[Ub kd,Iw v],.tuple #[.agg #[Iv x.id,Iv u.pc,Iv u.rc,Iv u.seq,Iv u.word,Iv u.look,Iv u.cur,Iv u.prev,Iv u.nth,Iv u.many,Iv u.pass,Iv u.runs,.slice i.2.1 x.t.batch.length i.2.2],.bool false],.agg #[Iv x.id,Iv u.pc,Iv u.rc,Iv u.seq,Iv u.word,Iv u.look,Iv u.cur,Iv u.prev,Iv u.nth,Iv u.many,Iv u.pass,Iv u.runs,.slice i.2.1 x.t.batch.length i.2.2],.bool false,undef,undef,undef,undef,undef,undef,undef,undef,undef,undef,undef,undef,undef,undef,undef,undef,undef,undef,undef,undef,undef,undef,undef,undef,undef,undef],[]⟩)
  (R:=fun i w'=>At B w' (itO x::trR (some ⟨g,off,none⟩) a.T.length a.ct a.T::blkR X 90 (wc cf a s)::memR a.p a.size s.m::objR a.o cf.plain::mapR .i64 a.r s.ow::evR a.Ae s.ev.length a.ce s.ev::apR a.Al s.lg.length a.cl s.lg::pkR a.Ap s.pk.length a.cp s.pk::(rst a.T k++L))∧Below B w w') ?_ ?_
 ·go_region_held3 (fun w'=>w'.cell? ⟨Y,0,none⟩=some (Ub kd)∧w'.cell? ⟨Y,1,none⟩=some (Iw v)∧w'.cell? ⟨g,o,none⟩=some (Iv x.id)∧w'.cell? ⟨g,o+1,none⟩=some (Iv x.t.pc)∧w'.cell? ⟨g,o+2,none⟩=some (Iv x.t.rc)∧w'.cell? ⟨g,o+3,none⟩=some (Iv x.t.seq)∧w'.cell? ⟨g,o+4,none⟩=some (Iv x.t.word)∧w'.cell? ⟨g,o+5,none⟩=some (Iv x.t.look)∧w'.cell? ⟨g,o+6,none⟩=some (Iv x.t.cur)∧w'.cell? ⟨g,o+7,none⟩=some (Iv x.t.prev)∧w'.cell? ⟨g,o+8,none⟩=some (Iv x.t.nth)∧w'.cell? ⟨g,o+9,none⟩=some (Iv x.t.many)∧w'.cell? ⟨g,o+10,none⟩=some (Iv x.t.pass)∧w'.cell? ⟨g,o+11,none⟩=some (Iv x.t.runs)∧w'.cell? ⟨g,o+12,none⟩=some (.slice x.A x.t.batch.length x.c)∧Y<w'.heap.size∧g<w'.heap.size) (repeat' (with_reducible (first | (exact hS5) | (exact hS0) | (refine tE_drew ?_) | (refine tE_alloc ?_) | (refine tE_set (by first | assumption | omega) (by first | assumption | omega) ?_)))) (first
  | (go_at_call 81;(first
   | ((with_reducible refine(ST.out _ _ SA.out.1 SA.out.2.1).mono ?_);rintro e w5 ⟨A',c',rfl,s5,b5⟩;have hS5:=tE_of HB.out (SA.out.2.2.trans b5) hY hg ((s5.ord [2]).blk.cell 0) ((s5.ord [2]).blk.cell 1) (tr_at HK.out.1 HK.out.2 (s5.ord [3]));have S5:=Lib.hid (And.intro s5 (And.intro (SA.out.2.2.trans b5) b5.size));clear s5 b5)
   | ((with_reducible refine(ST.out _ _ SA4.out.1 SA4.out.2.1).mono ?_);rintro e w5 ⟨A',c',rfl,s5,b5⟩;have hS5:=tE_of HB.out (SA4.out.2.2.trans b5) hY hg ((s5.ord [2]).blk.cell 0) ((s5.ord [2]).blk.cell 1) (tr_at HK.out.1 HK.out.2 (s5.ord [3]));have S5:=Lib.hid (And.intro s5 (And.intro (SA4.out.2.2.trans b5) b5.size));have y0:=(s5.ord [4]).cv 0 (Iv 0);have y1:=(s5.ord [4]).cv 1 (Iv 0);have y2:=(s5.ord [4]).cv 2 (Iv 0);have y3:=(s5.ord [4]).cv 3 (Iv 0);have y4:=(s5.ord [4]).cv 4 (Iv 0);have y5:=(s5.ord [4]).cv 5 (Iv 0);have y6:=(s5.ord [4]).cv 6 (Iv 0);have y7:=(s5.ord [4]).cv 7 (Iv 0);have y8:=(s5.ord [4]).cv 8 (Iv 0);have y9:=(s5.ord [4]).cv 9 (Iv 0);have y10:=(s5.ord [4]).cv 10 (Iv 0);have y11:=(s5.ord [4]).cv 11 (Iv 0);have y12:=(s5.ord [4]).cv 12 (.slice none 0 0);have fr4:=fun i=>(s5.ord [4]).blk.frozen i;have lt4:=World.block_lt_of_cell? w5 _ y0;clear s5 b5)))
  | (fail "no arm"))
  all_goals (obtain ⟨s5,b5,_⟩:=S5.out;have hB5:=Nat.le_trans HB.out b5.size)
  ·have t1:=s5.alloc hB5 #[Iv x.id,Iv u.pc,Iv u.rc,Iv u.seq,Iv u.word,Iv u.look,Iv u.cur,Iv u.prev,Iv u.nth,Iv u.many,Iv u.pass,Iv u.runs,.slice A' x.t.batch.length c'] 93;have d1:=b5.alloc hB5 (.cells #[Iv x.id,Iv u.pc,Iv u.rc,Iv u.seq,Iv u.word,Iv u.look,Iv u.cur,Iv u.prev,Iv u.nth,Iv u.many,Iv u.pass,Iv u.runs,.slice A' x.t.batch.length c'] 93);have v2:=Sep.drop (Sep.ord [1] (Sep.drop (Sep.drop t1)));simp only [ordL,List.getElem?_cons_zero,List.getElem?_cons_succ,List.eraseIdx_cons_succ,List.eraseIdx_cons_zero] at v2;exact⟨(_,A',c'),rfl,v2,B1.out.trans d1⟩
  ·have u1:=s5.ord [4];simp only [ordL,List.getElem?_cons_zero,List.getElem?_cons_succ,List.eraseIdx_cons_succ,List.eraseIdx_cons_zero] at u1;obtain⟨t1,e1⟩:=bset13 hB5 u1 rfl (Iv x.id) (Iv u.pc) (Iv u.rc) (Iv u.seq) (Iv u.word) (Iv u.look) (Iv u.cur) (Iv u.prev) (Iv u.nth) (Iv u.many) (Iv u.pass) (Iv u.runs) (.slice A' x.t.batch.length c');have v2:=Sep.drop (Sep.ord [1] (Sep.drop (Sep.drop t1)));simp only [ordL,List.getElem?_cons_zero,List.getElem?_cons_succ,List.eraseIdx_cons_succ,List.eraseIdx_cons_zero] at v2;exact⟨(_,A',c'),rfl,v2,B1.out.trans (b5.trans e1)⟩
 ·rintro ⟨b4,A5,c5⟩ w6 ⟨s6,b6⟩;simp only at s6 ⊢;refine hK0 _ _ ?_;clear SA SA4 ST hS0 nY ng hY hg hwY hK0 K0 HB B1;have S6:=Lib.hid (And.intro s6 b6);clear s6 b6;go_wp2_with fail;go_ret;obtain⟨s6,b6⟩:=S6.out;have v1:=s6.ox [2,1,1,1,1,1,1,1];replace v1:=shut8 (x:=x) (List.getElem?_eq_some_iff.1 HK.out.1).1 v1;rw [set_self_tr _ _ _ HK.out.1,←HA.out] at v1;exact⟨rfl,v1,b6⟩
theorem call_n {kz kd v:Int} (hB:B≤w.heap.size) (hA:a.At=some ⟨g,off,none⟩) (hT:a.T.length≤1000) (hz:¬ (0≤kz∧kz<(a.T.length:Int)))
  (h:At B w (wTop X cf a s (a.T.map itO++L))):
  Calls Tryz.prog 38 #[Pz X,Iv kz,two8 kd v] w fun e w'=>e=.returned (.bool false)∧At B w' (wTop X cf a s (a.T.map itO++L))∧Below B w w':=by
 have hth:=fun(W:World) (hX:W.cell? ⟨X,8,none⟩=some (.slice a.At a.T.length a.ct))=>thread_s (k:=kz) hT hA hX;rw [if_neg hz] at hth;have s1:=h.alloc hB #[Ub kd,Iw v] 45;have b1:=(Below.refl B w).alloc hB (.cells #[Ub kd,Iw v] 45);have k8:(w.alloc (.cells #[Ub kd,Iw v] 45)).cell? ⟨X,8,none⟩=some (.slice a.At a.T.length a.ct):=(s1.ord [1]).blk.cell 8;have s2:=Sep.drop s1;have S2:=Lib.hid (And.intro s2 b1);clear s1 s2 b1 h hz;go_enter Tryz.func38,Tryz.ntmps38;go_wp2_with fail;refine(hth _ k8).mono ?_;rintro e w2 ⟨rfl,rfl⟩;go_wp2_with fail;go_ret;exact⟨rfl,S2.out.1,S2.out.2⟩
end
abbrev cfv (c:Cf):Value:=.agg #[Ub c.ob,Iv c.th,Iv c.cap,Iv c.age,Iv c.ps,.bool c.plain]
structure CfOk (c:Cf):Prop where
 hob:1≤c.ob∧c.ob≤3
 hth:1≤c.th∧c.th≤9
 hcap:1≤c.cap∧c.cap≤6
 hage:1≤c.age∧c.age≤3
 hps:1≤c.ps∧c.ps≤3
theorem within8_any (w:World) (n m:Int) (h1:1≤n) (h2:n≤m):Calls Tryz.prog 25 #[Ub n,Ub m] w fun e w'=>e=.returned (.bool true)∧w=w':=by
 have d1:decide (1≤n)=true:=decide_eq_true h1;have d2:decide (n≤m)=true:=decide_eq_true h2;go_enter Tryz.func25,Tryz.ntmps25;go_wp2;go_ret;exact⟨rfl,rfl⟩
theorem withinI_any (w:World) (n m:Int) (h1:1≤n) (h2:n≤m):Calls Tryz.prog 26 #[Iv n,Iv m] w fun e w'=>e=.returned (.bool true)∧w=w':=by
 have d1:decide (1≤n)=true:=decide_eq_true h1;have d2:decide (n≤m)=true:=decide_eq_true h2;go_enter Tryz.func26,Tryz.ntmps26;go_wp2;go_ret;exact⟨rfl,rfl⟩
theorem right_any (w:World) (c:Cf) (h:CfOk c):Calls Tryz.prog 14 #[cfv c] w fun e w'=>e=.returned (.int .u16 0)∧Below w.heap.size w w':=by
 obtain⟨⟨a1,a2⟩,⟨b1,b2⟩,⟨c1,c2⟩,⟨d1,d2⟩,⟨e1,e2⟩⟩:=h;have h1:=fun w=>within8_any w c.ob 3 a1 a2;have h2:=fun w=>withinI_any w c.th 64 b1 (by omega);have h3:=fun w=>withinI_any w c.cap 1000 c1 (by omega);have h4:=fun w=>withinI_any w c.age 1000 d1 (by omega);have h5:=fun w=>withinI_any w c.ps 1000 e1 (by omega);clear a1 a2 b1 b2 c1 c2 d1 d2 e1 e2;go_enter Tryz.func14,Tryz.ntmps14;go_wp2_with fail;refine(h1 _).mono ?_;rintro e w1 ⟨rfl,rfl⟩;go_wp2_with fail;refine(h2 _).mono ?_;rintro e w1 ⟨rfl,rfl⟩;go_wp2_with fail;refine(h3 _).mono ?_;rintro e w1 ⟨rfl,rfl⟩;go_wp2_with fail;refine(h4 _).mono ?_;rintro e w1 ⟨rfl,rfl⟩;go_wp2_with fail;refine(h5 _).mono ?_;rintro e w1 ⟨rfl,rfl⟩;go_wp2_with fail;go_ret;exact⟨rfl,(Below.refl _ _).alloc (Nat.le_refl _) _⟩
section
variable {B X:Nat} {w:World} {L:List Res} {cf:Cf} {a:Ad} {s:Wst}
theorem memory_s (hB:B≤w.heap.size) (h:At B w (wTop X cf a s L)):
  Calls Tryz.prog 21 #[Pz X] w fun e w'=>∃ q,e=.returned (Pz q)∧At B w' (memR q a.size s.m::wTop X cf a s L)∧Below B w w':=by
 have k6:=h.cv 6 (Pz a.p);have hc:=copy_s hB (h.ord [2]);go_enter Tryz.func21,Tryz.ntmps21;go_wp2_with fail;refine hc.mono ?_;rintro e w1 ⟨q,rfl,s1,b1⟩;go_wp2_with fail;go_ret;have v:=s1.ox [0,1,1]
 first | exact⟨q,rfl,v,b1⟩ | exact⟨rfl,v,b1⟩
end
theorem one_events (l:List Ev):∀ u∈l.flatMap evIn,u.oneCell'=true:=by
 intro u hu;obtain⟨x,_,hx⟩:=List.mem_flatMap.1 hu;simp only [evIn,List.mem_cons,List.not_mem_nil,or_false] at hx
 rcases hx with rfl | rfl | rfl | rfl | rfl | rfl | rfl | rfl<;>rfl
theorem one_log (l:List Ap):∀ u∈l.flatMap apIn,u.oneCell'=true:=by
 intro u hu;obtain⟨x,_,hx⟩:=List.mem_flatMap.1 hu;simp only [apIn,List.mem_cons,List.not_mem_nil,or_false] at hx
 rcases hx with rfl | rfl | rfl | rfl | rfl | rfl | rfl<;>rfl
theorem one_picks (l:List Int):∀ u∈l.map (Value.int .i64 ·),u.oneCell'=true:=by
 intro u hu;obtain⟨x,_,rfl⟩:=List.mem_map.1 hu
 rfl
section
variable {B X:Nat} {w:World} {L:List Res} {cf:Cf} {a:Ad} {s:Wst}
theorem events_g (h:At B w (wTop X cf a s L)):Calls Tryz.prog 42 #[Pz X] w fun e w'=>e=.returned (.slice a.Ae s.ev.length a.ce)∧w=w':=by
 have k:=h.cv 10 (.slice a.Ae s.ev.length a.ce);go_enter Tryz.func42,Tryz.ntmps42;go_wp2;go_ret;exact⟨rfl,rfl⟩
theorem events_t (hB:B≤w.heap.size) (hn:s.ev.length≤1000000) (h:At B w (wTop X cf a s L)):Calls Tryz.prog 41 #[Pz X,.func (.func 42) #[] #[]] w fun e w'=>∃ A' c',e=.returned (.slice A' s.ev.length c')∧At B w' (evR A' s.ev.length c' s.ev::wTop X cf a s L)∧Below B w w':=by
 have hg:=events_g h;have v0:=h.ord [10-5];simp only [ordL,Nat.reduceSub,List.getElem?_cons_zero,List.getElem?_cons_succ,List.eraseIdx_cons_succ,List.eraseIdx_cons_zero] at v0;have hc:=cloneEvt_s hB v0 (one_events _) hn;clear h v0;go_enter Tryz.func41,Tryz.ntmps41;go_wp2_with fail;refine hg.mono ?_;rintro e w1 ⟨rfl,rfl⟩;go_wp2_with fail;refine hc.mono ?_;rintro e w2 ⟨A',c',rfl,s1,b1⟩;go_wp2_with fail;go_ret;have v:=s1.ox [0,1,1,1,1,1,0];exact⟨A',c',rfl,v,b1⟩
theorem events_s (hB:B≤w.heap.size) (hn:s.ev.length≤1000000) (h:At B w (wTop X cf a s L)):Calls Tryz.prog 18 #[Pz X] w fun e w'=>∃ A' c',e=.returned (.slice A' s.ev.length c')∧At B w' (evR A' s.ev.length c' s.ev::wTop X cf a s L)∧Below B w w':=by
 have hc:=events_t hB hn h;clear h;go_enter Tryz.func18,Tryz.ntmps18;go_wp2_with fail;refine hc.mono ?_;rintro e w2 ⟨A',c',rfl,s1,b1⟩;go_wp2_with fail;go_ret;exact⟨A',c',rfl,s1,b1⟩
theorem log_g (h:At B w (wTop X cf a s L)):Calls Tryz.prog 44 #[Pz X] w fun e w'=>e=.returned (.slice a.Al s.lg.length a.cl)∧w=w':=by
 have k:=h.cv 11 (.slice a.Al s.lg.length a.cl);go_enter Tryz.func44,Tryz.ntmps44;go_wp2;go_ret;exact⟨rfl,rfl⟩
theorem log_t (hB:B≤w.heap.size) (hn:s.lg.length≤1000000) (h:At B w (wTop X cf a s L)):Calls Tryz.prog 43 #[Pz X,.func (.func 44) #[] #[]] w fun e w'=>∃ A' c',e=.returned (.slice A' s.lg.length c')∧At B w' (apR A' s.lg.length c' s.lg::wTop X cf a s L)∧Below B w w':=by
 have hg:=log_g h;have v0:=h.ord [11-5];simp only [ordL,Nat.reduceSub,List.getElem?_cons_zero,List.getElem?_cons_succ,List.eraseIdx_cons_succ,List.eraseIdx_cons_zero] at v0;have hc:=cloneApp_s hB v0 (one_log _) hn;clear h v0;go_enter Tryz.func43,Tryz.ntmps43;go_wp2_with fail;refine hg.mono ?_;rintro e w1 ⟨rfl,rfl⟩;go_wp2_with fail;refine hc.mono ?_;rintro e w2 ⟨A',c',rfl,s1,b1⟩;go_wp2_with fail;go_ret;have v:=s1.ox [0,1,1,1,1,1,1,0];exact⟨A',c',rfl,v,b1⟩
theorem log_s (hB:B≤w.heap.size) (hn:s.lg.length≤1000000) (h:At B w (wTop X cf a s L)):Calls Tryz.prog 19 #[Pz X] w fun e w'=>∃ A' c',e=.returned (.slice A' s.lg.length c')∧At B w' (apR A' s.lg.length c' s.lg::wTop X cf a s L)∧Below B w w':=by
 have hc:=log_t hB hn h;clear h;go_enter Tryz.func19,Tryz.ntmps19;go_wp2_with fail;refine hc.mono ?_;rintro e w2 ⟨A',c',rfl,s1,b1⟩;go_wp2_with fail;go_ret;exact⟨A',c',rfl,s1,b1⟩
theorem picks_g (h:At B w (wTop X cf a s L)):Calls Tryz.prog 51 #[Pz X] w fun e w'=>e=.returned (.slice a.Ap s.pk.length a.cp)∧w=w':=by
 have k:=h.cv 12 (.slice a.Ap s.pk.length a.cp);go_enter Tryz.func51,Tryz.ntmps51;go_wp2;go_ret;exact⟨rfl,rfl⟩
theorem picks_t (hB:B≤w.heap.size) (hn:s.pk.length≤1000000) (h:At B w (wTop X cf a s L)):Calls Tryz.prog 50 #[Pz X,.func (.func 51) #[] #[]] w fun e w'=>∃ A' c',e=.returned (.slice A' s.pk.length c')∧At B w' (pkR A' s.pk.length c' s.pk::wTop X cf a s L)∧Below B w w':=by
 have hg:=picks_g h;have v0:=h.ord [12-5];simp only [ordL,Nat.reduceSub,List.getElem?_cons_zero,List.getElem?_cons_succ,List.eraseIdx_cons_succ,List.eraseIdx_cons_zero] at v0;have hc:=cloneInt_s hB v0 (one_picks _) hn;clear h v0;go_enter Tryz.func50,Tryz.ntmps50;go_wp2_with fail;refine hg.mono ?_;rintro e w1 ⟨rfl,rfl⟩;go_wp2_with fail;refine hc.mono ?_;rintro e w2 ⟨A',c',rfl,s1,b1⟩;go_wp2_with fail;go_ret;have v:=s1.ox [0,1,1,1,1,1,1,1,0];exact⟨A',c',rfl,v,b1⟩
theorem picks_s (hB:B≤w.heap.size) (hn:s.pk.length≤1000000) (h:At B w (wTop X cf a s L)):Calls Tryz.prog 23 #[Pz X] w fun e w'=>∃ A' c',e=.returned (.slice A' s.pk.length c')∧At B w' (pkR A' s.pk.length c' s.pk::wTop X cf a s L)∧Below B w w':=by
 have hc:=picks_t hB hn h;clear h;go_enter Tryz.func23,Tryz.ntmps23;go_wp2_with fail;refine hc.mono ?_;rintro e w2 ⟨A',c',rfl,s1,b1⟩;go_wp2_with fail;go_ret;exact⟨A',c',rfl,s1,b1⟩
end
section
variable {B X:Nat} {w:World} {L:List Res} {cf:Cf} {a:Ad} {s:Wst}
theorem items_g (hB:B≤w.heap.size) (h:At B w (wTop X cf a s L)):Calls Tryz.prog 46 #[Pz X] w fun e w'=>∃ A n c l,e=.returned (.slice A n c)∧n≤1000∧At B w' (i32O A n c l::wTop X cf a s L)∧Below B w w':=by
 have k:=h.cv 7 (Pz a.o);have v0:=h.ox [3];have hi:=items_o hB v0;clear h v0;go_enter Tryz.func46,Tryz.ntmps46;go_wp2_with fail;refine hi.mono ?_;rintro e w1 ⟨A,n,c,l,rfl,hn,s1,b1⟩;go_wp2_with fail;go_ret;have v:=s1.ox [0,1,1,1,0];exact⟨A,n,c,l,rfl,hn,v,b1⟩
theorem one_i32 (l:List Int):∀ u∈l.map (Value.int .i32 ·),u.oneCell'=true:=by
 intro u hu;obtain⟨x,_,rfl⟩:=List.mem_map.1 hu
 rfl
theorem items_t (hB:B≤w.heap.size) (h:At B w (wTop X cf a s L)):Calls Tryz.prog 45 #[Pz X,.func (.func 46) #[] #[]] w fun e w'=>∃ A n c l,e=.returned (.slice A n c)∧At B w' (i32O A n c l::wTop X cf a s L)∧Below B w w':=by
 have hg:=items_g hB h;clear h;go_enter Tryz.func45,Tryz.ntmps45;go_wp2_with fail;refine hg.mono ?_;rintro e w1 ⟨A,n,c,l,rfl,hn,s1,b1⟩;have hB1:=Nat.le_trans hB b1.size;have hc:=cloneI32_s hB1 s1 (one_i32 _) (by omega);go_wp2_with fail;refine hc.mono ?_;rintro e w2 ⟨A',c',rfl,s2,b2⟩;go_wp2_with fail;go_ret;have v:=Sep.drop (s2.ord [1]);exact⟨A',n,c',l,rfl,v,b1.trans b2⟩
theorem items_w (hB:B≤w.heap.size) (h:At B w (wTop X cf a s L)):Calls Tryz.prog 20 #[Pz X] w fun e w'=>∃ A n c l,e=.returned (.slice A n c)∧At B w' (i32O A n c l::wTop X cf a s L)∧Below B w w':=by
 have hc:=items_t hB h;clear h;go_enter Tryz.func20,Tryz.ntmps20;go_wp2_with fail;refine hc.mono ?_;rintro e w2 ⟨A,n,c,l,rfl,s1,b1⟩;go_wp2_with fail;go_ret;exact⟨A,n,c,l,rfl,s1,b1⟩
end
end Go.Proofs.YtadgbhjpgnlmoaaGreat
