/- TopSafe, a part of its proof; no conditions. -/
import Derived.Defers
import Derived.Test.YtadgbhjpgnlmoaaGreatPk07
set_option linter.all false
namespace Go.Proofs.YtadgbhjpgnlmoaaGreat.Stk
set_option maxRecDepth 100000
open Go.RowKit Go.Rp Go.Rp.Stk
set_option maxRecDepth 100000 in
set_option maxHeartbeats 4000000 in
theorem all_apply (bo bs bv:Nat) (B:Nat) (w:World) (hB:B≤w.heap.size) (p most below:Nat) (hbm:below≤most) (hm:most≤1000) (A:Option Addr) (n c:Nat) (ops:List (Int×Int)) (hn:ops.length=n) (h8:∀ o∈ops,0≤o.1∧o.1≤255) (hlen:n≤100000)
  (X:Nat→List Res)
  (hrd:∀ k W L,Below B w W→At B W (X k++L)→∃ R,Rd W R 2 A n (ops.flatMap opIn))
  (hmet:∀ (k j:Nat) W L,k<n→(mStep most k (kindAt ops k) (mAt most below ops k)).2=((j:Int),2)→Below B w W→At B W (X k++L)→Calls Tryz.prog 220 #[Iv (k:Int),Iv (j:Int),Pz bo,Pz bv] W fun e W'=>e=.returned (.tuple #[])∧At B W' (X (k+1)++L)∧Below B W W')
  (htaken:∀ k W L,k<n→(mStep most k (kindAt ops k) (mAt most below ops k)).2=(-1,2)→Below B w W→At B W (X k++L)→Calls Tryz.prog 221 #[Iv (k:Int),Pz bs,Pz bv] W fun e W'=>e=.returned (.tuple #[])∧At B W' (X (k+1)++L)∧Below B W W')
  (hsame:∀ k,k<n→mCode most below ops k≠2→X (k+1)=X k)
  (h:At B w (meetR p most ([],below)::X 0)):
  Calls Tryz.prog 219 #[Pz p,.slice A n c,.func (.func 220) #[] #[Pz bo,Pz bv],.func (.func 221) #[] #[Pz bs,Pz bv]] w fun e w'=>
   ∃ g,e=.returned (.slice (some ⟨g,0,none⟩) n n)∧At B w' (slRes 47 2 (some ⟨g,0,none⟩) n n ((fillL n n (fun i=>(mCode most below ops i,0)) (0,0)).flatMap resIn)::meetR p most (mAt most below ops n)::X n)∧Below B w w':=by
 obtain⟨i0,hi0,hz0,hz1,hz2⟩:=info_parts info_res;have HN:=Lib.hid hn;clear hn;go_enter Tryz.func219,Tryz.ntmps219;go_wp2_with (refine wpList_make_any _ rfl (.tmp 16) (.tmp 16) 260 rfl 47 i0 _ 2 8 Tryz.underlying260 hi0 hz0 hz1 hz2 rfl (by omega) .i64 .i64 n rfl rfl (by omega) (by omega) ?_;intro arr harr)
 have hrep:(List.replicate n ((#[Ub 0,Iw 0]:Array Value).toList)).flatten=(fillL n 0 (fun i=>(mCode most below ops i,0)) ((0,0):Int×Int)).flatMap resIn:=by
  rw [fillL_zero];exact rep_res n
 have s1:At B (w.alloc (.cells arr 47)) (slRes 47 2 (some ⟨w.heap.size,0,none⟩) n n ((fillL n 0 (fun i=>(mCode most below ops i,0)) ((0,0):Int×Int)).flatMap resIn)::meetR p most ([],below)::X 0):=
  h.made (fun x hx=>Nat.le_trans hB hx) ((Below.refl _ w).alloc (Nat.le_refl _) _) (Sl.of_made w 47 2 n arr _ (harr.trans hrep) (by rw [res_len,fillL_length]) (by unfold maxLen;omega) ⟨Nat.le_refl _,by simp⟩)
 have b1:Below B w (w.alloc (.cells arr 47)):=(Below.refl B w).alloc hB _;clear hrep harr h;go_wp2_with fail
 go_loopg [20] n (fun g k wr=>∃ m:Nat,m+g=n∧k=Iv (m:Int)∧At B wr (slRes 47 2 (some ⟨w.heap.size,0,none⟩) n n ((fillL n m (fun i=>(mCode most below ops i,0)) ((0,0):Int×Int)).flatMap resIn)::meetR p most (mAt most below ops m)::X m)∧Below B w wr)
 case atStart=>exact⟨0,by omega,rfl,s1,b1⟩
 case round=>
  clear s1 b1;obtain⟨m,hmg,rfl,s1,b1⟩:=hrel
  by_cases hlt:m<n
  ·have hlt':m<ops.length:=by rw [HN.out];exact hlt
   obtain⟨R,hr⟩:=hrd m wr _ b1 s1.back2;obtain⟨b,off,rfl,hbR,hcells⟩:=hr.at (by omega);obtain⟨c0,c1⟩:=op_at ops m hlt';obtain⟨k0,k1⟩:=h8 _ (List.getElem_mem hlt');have g0:wr.cell? ⟨b,off+m*2,none⟩=some (Ub ops[m].1):=hcells _ _ c0;have g1:wr.cell? ⟨b,off+m*2+1,none⟩=some (Iw ops[m].2):=hcells _ _ c1;have hkd:=kindAt_lt hlt';rw [← hkd] at g0 k0 k1;have hbs:=b1.size;have hle:=Nat.le_trans hB hbs;have hmm:=hmet m;have htk:=htaken m;have hsm:=hsame m hlt;have hsu:=mAt_succ (most:=most) (below:=below) hlt';have hfl:m<(fillL n m (fun i=>(mCode most below ops i,0)) ((0,0):Int×Int)).length:=by rw [fillL_length];exact hlt
   have hfg:(fillL n m (fun i=>(mCode most below ops i,0)) ((0,0):Int×Int))[m]=(0,0):=by rw [fillL_get _ _ _ _ _ hlt,if_neg (by omega)]
   obtain⟨t0,t1⟩:=res_at _ m hfl
   have hall:∀ (W:World) (C:Int) (L:List Res) (cc:Int),At B W (slRes 47 2 (some ⟨w.heap.size,0,none⟩) n n (((fillL n m (fun i=>(mCode most below ops i,0)) ((0,0):Int×Int)).set m (C,0)).flatMap resIn)::L)→B≤W.heap.size→
     W.cell? ⟨w.heap.size,m*2,none⟩=some (Ub C)∧W.frozen? ⟨w.heap.size,m*2,none⟩=false∧
     At B (W.setCell ⟨w.heap.size,m*2,none⟩ (Ub cc)) (slRes 47 2 (some ⟨w.heap.size,0,none⟩) n n (((fillL n m (fun i=>(mCode most below ops i,0)) ((0,0):Int×Int)).set m (cc,0)).flatMap resIn)::L)∧Below B W (W.setCell ⟨w.heap.size,m*2,none⟩ (Ub cc)):=by
    intro W C L cc hW hBW;have hfl2:m<((fillL n m (fun i=>(mCode most below ops i,0)) ((0,0):Int×Int)).set m (C,0)).length:=by rw [List.length_set];exact hfl
    obtain⟨u0,_⟩:=res_at _ m hfl2;rw [List.getElem_set_self] at u0;obtain⟨a1,a2,a3⟩:=hW.slat hBW (m*2) _ u0;obtain⟨a4,a5⟩:=a3 (Ub cc);rw [res_set1 _ m hfl2,List.getElem_set_self,List.set_set] at a4;exact⟨a1,a2,a4,a5⟩
   have hset0:(fillL n m (fun i=>(mCode most below ops i,0)) ((0,0):Int×Int)).set m (0,0)=fillL n m (fun i=>(mCode most below ops i,0)) ((0,0):Int×Int):=by
    have:=List.set_getElem_self hfl
    rwa [hfg] at this
   have hdone:∀ cc:Int,mCode most below ops m=cc→(fillL n m (fun i=>(mCode most below ops i,0)) ((0,0):Int×Int)).set m (cc,0)=fillL n (m+1) (fun i=>(mCode most below ops i,0)) ((0,0):Int×Int):=fun cc hcc=>fillL_succ _ _ _ _ _ (by rw [hcc]);have hmc:mCode most below ops m=(mStep most m (kindAt ops m) (mAt most below ops m)).2.2:=rfl;rw [← hset0] at s1;have hml:=mAt_len most below ops hbm m;obtain⟨⟨wt,bl⟩,hst⟩:∃ st,mAt most below ops m=st:=⟨_,rfl⟩;rw [hst] at s1 hsu hmc hml hmm htk;dsimp only at hml;generalize kindAt ops m=kd at*;generalize fillL n m (fun i=>(mCode most below ops i,0)) ((0,0):Int×Int)=F at*;clear hfg hset0 t0 t1 c0 c1 hcells hkd hfl hst;obtain⟨vv,hvv⟩:∃ vv,ops[m].2=vv:=⟨_,rfl⟩;rw [hvv] at g1;clear hvv;have s1:At B (wr.alloc (.cells #[Ub kd,Iw vv] 45)) _:=s1.keep ((Below.refl _ wr).alloc (Nat.le_refl _) _);have b1:=b1.alloc hle (.cells #[Ub kd,Iw vv] 45);have hle:B≤(wr.alloc (.cells #[Ub kd,Iw vv] 45)).heap.size:=by simp;omega
   by_cases hk1:kd=1
   ·subst hk1;have hk1':mStep most m 1 (wt,bl)=if bl+wt.length<most then((wt++[m],bl),-1,1) else((wt,bl),-1,3):=rfl
    obtain⟨a1,a2,a3,a4⟩:=hall (wr.alloc (.cells #[Ub 1,Iw vv] 45)) 0 _ 3 s1 hle;have b2:=b1.trans a4;clear hmm htk
    by_cases hroom:bl+wt.length<most
    ·rw [if_pos hroom] at hk1';rw [hk1'] at hsu hmc;have hX:=hsm (by rw [hmc];dsimp only;decide);have hD:=hdone 1 hmc;clear hk1' hsm hdone hmc;have hpu:=mpush_s (w:=(wr.alloc (.cells #[Ub 1,Iw vv] 45)).setCell ⟨w.heap.size,m*2,none⟩ (Ub 3)) (Nat.le_trans hB b2.size) a3.rot2 m (decide_eq_true hroom) (if_pos hroom);have HX:=Lib.hid hX;have HD:=Lib.hid hD;have HS:=Lib.hid hsu;clear hX hD hsu;go_wp2_with fail;refine hpu.mono ?_;rintro e w5 ⟨rfl,s5,b5⟩;have b5:=b2.trans (b5.mono (Nat.le_refl _));obtain⟨e1,e2,e3,e4⟩:=hall w5 3 _ 1 s5.rot2 (Nat.le_trans hB b5.size);have b6:=b5.trans e4;clear a1 a2 a3 a4 s1 s5 hall b2 b5 e4 hpu;go_wp2_with fail;go_roundg (gk-1)
     case measure=>omega
     case rel=>exact⟨m+1,by omega,by go_num,by rw [HX.out,HS.out,←HD.out];exact e3,b6⟩
    ·rw [if_neg hroom] at hk1';rw [hk1'] at hsu hmc;have hX:=hsm (by rw [hmc];dsimp only;decide);have hD:=hdone 3 hmc;clear hk1' hsm hdone hmc;have hpu:=mpush_s (w:=(wr.alloc (.cells #[Ub 1,Iw vv] 45)).setCell ⟨w.heap.size,m*2,none⟩ (Ub 3)) (Nat.le_trans hB b2.size) a3.rot2 m (decide_eq_false hroom) (if_neg hroom);have HX:=Lib.hid hX;have HD:=Lib.hid hD;have HS:=Lib.hid hsu;clear hX hD hsu;go_wp2_with fail;refine hpu.mono ?_;rintro e w5 ⟨rfl,s5,b5⟩;have b6:=b2.trans (b5.mono (Nat.le_refl _));have e3:=s5.rot2;clear a1 a2 a3 a4 s1 s5 hall b2 b5 hpu;go_wp2_with fail;go_roundg (gk-1)
     case measure=>omega
     case rel=>exact⟨m+1,by omega,by go_num,by rw [HX.out,HS.out,←HD.out];exact e3,b6⟩
   ·have hn1:(kd==1)=false:=by simpa using hk1
    by_cases hk2:kd=2
    ·subst hk2;obtain⟨a1,a2,a3,a4⟩:=hall (wr.alloc (.cells #[Ub 2,Iw vv] 45)) 0 _ 2 s1 hle;have b2:=b1.trans a4
     rcases List.eq_nil_or_concat wt with rfl | ⟨l,j,hlj⟩
     ·have hk2':mStep most m 2 ([],bl)=if 0<bl then(([],bl-1),-1,2) else(([],bl),-1,4):=by simp [mStep]
      have hun:=fun(W:World) (v:Bool) (hv:decide (0<bl)=v) (hBW:B≤W.heap.size) (L:List Res) (hW:At B W (meetR p most ([],bl)::L))=>under_s hBW hW hv;clear hmm
      by_cases hpos:0<bl
      ·rw [if_pos hpos] at hk2';rw [hk2'] at hsu hmc htk;have hD:=hdone 2 hmc;clear hk2' hsm hdone hmc;have hpo:=mpop0_s a3.rot2;have HD:=Lib.hid hD;have HS:=Lib.hid hsu;clear hD hsu;go_wp2_with fail;refine hpo.mono ?_;rintro e w5 ⟨rfl,rfl⟩;go_wp2_with fail;refine(hun _ true (decide_eq_true hpos) (Nat.le_trans hB b2.size) _ a3.rot2).mono ?_;rintro e w5 ⟨rfl,s5,b5⟩;have b5:=b2.trans (b5.mono (Nat.le_refl _));have htk2:=htk w5 _ hlt trivial b5 s5.rot2.back2;clear a1 a2 a3 a4 s1 s5 hall b2 htk hun hpo;go_wp2_with fail;refine htk2.mono ?_;rintro e w6 ⟨rfl,s6,b6⟩;have b6:=b5.trans (b6.mono (Nat.le_refl _));have e3:=s6.front2;clear htk2 s6 b5;go_wp2_with fail;go_roundg (gk-1)
       case measure=>omega
       case rel=>exact⟨m+1,by omega,by go_num,by rw [HS.out,←HD.out];exact e3,b6⟩
      ·rw [if_neg hpos] at hk2';rw [hk2'] at hsu hmc;have hX:=hsm (by rw [hmc];dsimp only;decide);have hD:=hdone 4 hmc;clear hk2' hsm hdone hmc htk;have hpo:=mpop0_s a3.rot2;have HX:=Lib.hid hX;have HD:=Lib.hid hD;have HS:=Lib.hid hsu;clear hX hD hsu;go_wp2_with fail;refine hpo.mono ?_;rintro e w5 ⟨rfl,rfl⟩;go_wp2_with fail;refine(hun _ false (decide_eq_false hpos) (Nat.le_trans hB b2.size) _ a3.rot2).mono ?_;rintro e w5 ⟨rfl,s5,b5⟩;have b5:=b2.trans (b5.mono (Nat.le_refl _));obtain⟨e1,e2,e3,e4⟩:=hall w5 2 _ 4 s5.rot2 (Nat.le_trans hB b5.size);have b6:=b5.trans e4;rw [show bl-1=bl by omega] at e3;clear a1 a2 a3 a4 s1 s5 hall b2 b5 e4 hun hpo;go_wp2_with fail;go_roundg (gk-1)
       case measure=>omega
       case rel=>exact⟨m+1,by omega,by go_num,by rw [HX.out,HS.out,←HD.out];exact e3,b6⟩
     ·rw [List.concat_eq_append] at hlj;subst hlj;have hk2':mStep most m 2 (l++[j],bl)=((l,bl),(j:Int),2):=by simp [mStep]
      rw [hk2'] at hsu hmc hmm;have hD:=hdone 2 hmc;clear hk2' hsm hdone hmc htk;have hpo:=mpop_s (w:=(wr.alloc (.cells #[Ub 2,Iw vv] 45)).setCell ⟨w.heap.size,m*2,none⟩ (Ub 2)) (Nat.le_trans hB b2.size) j a3.rot2;have HD:=Lib.hid hD;have HS:=Lib.hid hsu;clear hD hsu;go_wp2_with fail;refine hpo.mono ?_;rintro e w5 ⟨rfl,s5,b5⟩;have b5:=b2.trans (b5.mono (Nat.le_refl _));have hmm2:=hmm j w5 _ hlt rfl b5 s5.rot2.back2;clear a1 a2 a3 a4 s1 s5 hall b2 hmm hpo;go_wp2_with fail;refine hmm2.mono ?_;rintro e w6 ⟨rfl,s6,b6⟩;have b6:=b5.trans (b6.mono (Nat.le_refl _));have e3:=s6.front2;clear hmm2 s6 b5;go_wp2_with fail;go_roundg (gk-1)
      case measure=>omega
      case rel=>exact⟨m+1,by omega,by go_num,by rw [HS.out,←HD.out];exact e3,b6⟩
    ·have hn2:(kd==2)=false:=by simpa using hk2
     have hk2':mStep most m kd (wt,bl)=((wt,bl),-1,5):=by simp [mStep,hk1,hk2]
     rw [hk2'] at hsu hmc;have hX:=hsm (by rw [hmc];dsimp only;decide);have hD:=hdone 5 hmc;obtain⟨a1,a2,a3,a4⟩:=hall (wr.alloc (.cells #[Ub kd,Iw vv] 45)) 0 _ 5 s1 hle;have b6:=b1.trans a4;clear hk2' hsm hdone hmc htk hmm hk1 hk2;have HX:=Lib.hid hX;have HD:=Lib.hid hD;have HS:=Lib.hid hsu;clear hX hD hsu;clear s1 hall a4;go_wp2_with fail;go_roundg (gk-1)
     case measure=>omega
     case rel=>exact⟨m+1,by omega,by go_num,by rw [HX.out,HS.out,←HD.out];exact a3,b6⟩
  ·obtain rfl:m=n:=by omega
   go_wp2_with fail;go_ret;exact⟨_,rfl,s1,b1⟩
def vV (l0:List Int) (mo:Nat) (ops:List (Int×Int)) (k:Nat):Value:=Iw (mVal l0 mo ops k)
abbrev valsR (gv n:Nat) (xs:List Value):Res:=slRes 21 1 (some ⟨gv,0,none⟩) n n xs
abbrev vboxR (q gv n:Nat):Res:=blkR q 35 #[.slice (some ⟨gv,0,none⟩) n n]
abbrev oboxR (q:Nat) (A:Option Addr) (n c:Nat):Res:=blkR q 81 #[.slice A n c]
abbrev sboxR (q:Nat) (p:Option Addr):Res:=blkR q 123 #[.pointer p]
section
variable {B:Nat} {w:World} {L:List Res} {A:Option Addr} {n c bv bo bs gv k j:Nat} {ops:List (Int×Int)} {xs:List Value}
theorem met2_s (hB:B≤w.heap.size) (h:At B w (valsR gv n xs::vboxR bv gv n::oboxR bo A n c::L)) {R:Nat→Prop} (hr:Rd w R 2 A n (ops.flatMap opIn)) (hn:ops.length=n) (hk:k<n) (hj:j<n) (hlen:n≤100000) {u:Value} (hu:xs[k]? =some u):
  Calls Tryz.prog 220 #[Iv (k:Int),Iv (j:Int),Pz bo,Pz bv] w fun e w'=>e=.returned (.tuple #[])∧At B w' (valsR gv n (xs.set k (Iw (valAt ops j)))::vboxR bv gv n::oboxR bo A n c::L)∧Below B w w':=by
 have kb:=h.rot2.cv 0 (.slice (some ⟨gv,0,none⟩) n n);have kc:=h.rot3.cv 0 (.slice A n c);have hjl:j<ops.length:=by omega
 obtain⟨b,off,rfl,_,hcells⟩:=hr.at (by omega);obtain⟨c0,c1⟩:=op_at ops j hjl;have g1:w.cell? ⟨b,off+j*2+1,none⟩=some (Iw (valAt ops j)):=by rw [valAt_lt hjl];exact hcells _ _ c1
 obtain⟨k1,k2,k3⟩:=h.slat hB k u hu;obtain⟨k4,k5⟩:=k3 (Iw (valAt ops j));have k4:=k4.drew;have k5:Below B w ((w.setCell ⟨gv,k,none⟩ (Iw (valAt ops j))).drew):=k5.drew;have hkn:(k:Int)<(n:Int):=by omega
 have hjn:(j:Int)<(n:Int):=by omega
 generalize valAt ops j=vl at*;clear k3 h hu hcells c0 c1 hr hn;go_enter Tryz.func220,Tryz.ntmps220;go_wp2_with fail
 go_region
 all_goals
  go_wp2_with fail
  go_end0
  exact⟨rfl,k4,k5⟩
theorem taken2_s (hB:B≤w.heap.size) {p mo:Nat} {T:List Int} {x:Int} (h:At B w (valsR gv n xs::vboxR bv gv n::sboxR bs (some ⟨p,0,none⟩)::stk p mo (T++[x])::L)) (hk:k<n) (hlen:n≤100000) {u:Value} (hu:xs[k]? =some u):
  Calls Tryz.prog 221 #[Iv (k:Int),Pz bs,Pz bv] w fun e w'=>e=.returned (.tuple #[])∧At B w' (valsR gv n (xs.set k (Iw x))::vboxR bv gv n::sboxR bs (some ⟨p,0,none⟩)::stk p mo T::L)∧Below B w w':=by
 have kb:=h.rot2.cv 0 (.slice (some ⟨gv,0,none⟩) n n);have kc:=h.rot3.cv 0 (Pz p);have hkn:(k:Int)<(n:Int):=by omega
 have hpop:=pop_s (w:=World.drew w) hB x (Sep.drew h).rot4;have hst:=fun(w5:World) (h5:At B w5 (stk p mo T::valsR gv n xs::vboxR bv gv n::sboxR bs (some ⟨p,0,none⟩)::L)) (hB5:B≤w5.heap.size)=>(Sep.rot2 h5).slat hB5 k u hu;go_enter Tryz.func221,Tryz.ntmps221;go_wp2_with fail
 go_region_held3 (fun w'=>w'.cell? ⟨bv,0,none⟩=some (.slice (some ⟨gv,0,none⟩) n n)∧w'.cell? ⟨bs,0,none⟩=some (Pz p)) (first | (refine ⟨?_,?_⟩<;>assumption) | go_keep) (first
  | (go_at_call 222;((with_reducible refine hpop.mono ?_);rintro e w5 ⟨rfl,s5,b5⟩;obtain⟨k1,k2,k3⟩:=hst w5 s5 (Nat.le_trans hB b5.size);obtain⟨k4,k5⟩:=k3 (Iw x);have kb:=s5.rot3.cv 0 (.slice (some ⟨gv,0,none⟩) n n);have kc:=s5.rot4.cv 0 (Pz p);have kb2:(w5.setCell ⟨gv,k,none⟩ (Iw x)).cell? ⟨bv,0,none⟩=some (.slice (some ⟨gv,0,none⟩) n n):=(Sep.rot3 k4).blk.cell 0;have kc2:(w5.setCell ⟨gv,k,none⟩ (Iw x)).cell? ⟨bs,0,none⟩=some (Pz p):=(Sep.rot4 k4).blk.cell 0)))
 go_wp2_with fail
 go_end0
 exact⟨rfl,Sep.cons (fun _ h=>Sep.rot3 (Sep.rot3 h)) k4,((Below.refl _ w).drew.trans b5).trans k5⟩
def MeetX (w:World) (p:Nat) (S:Nat→Prop) (most:Nat) (A:Option Addr) (c:Nat) (st:List Nat×Nat):Prop:=
 Blk w p 293 #[.slice A st.1.length c,Iv (st.2:Int),Iv (most:Int)]∧Sl w 3 1 A st.1.length c (il st.1) S∧S p
theorem stable_meetX (p most:Nat) (A:Option Addr) (c:Nat) (st:List Nat×Nat):Stable (fun w S=>MeetX w p S most A c st):=
 ⟨fun h hS=>⟨h.1,h.2.1.mono hS,hS p h.2.2⟩,fun h hm hd=>⟨h.1.mod hm (hd p h.2.2),h.2.1.mod hm hd,h.2.2⟩,fun h=>⟨h.1,h.2.1.lt,h.2.2,h.1.lt⟩⟩
def meetXR (p most:Nat) (A:Option Addr) (c:Nat) (st:List Nat×Nat):Res:=⟨fun w S=>MeetX w p S most A c st,stable_meetX p most A c st⟩
theorem meet_open {p most:Nat} {st:List Nat×Nat} (h:At B w (meetR p most st::L)):st.2+st.1.length≤most∧most≤1000∧∃ A c,At B w (meetXR p most A c st::L):=by
 obtain⟨S,h1,⟨A,c,hb,hs,hp,hl,hm⟩,h3⟩:=h;exact⟨hl,hm,A,c,S,h1,⟨hb,hs,hp⟩,h3⟩
theorem mEnd_snoc {l0:List Int} {wt:List Nat} {b i:Nat} (hi:i<wt.length):l0.take b++(wt.take (i+1)).map (valAt ops)=(l0.take b++(wt.take i).map (valAt ops))++[valAt ops wt[i]]:=by
 rw [List.take_succ_eq_append_getElem hi,List.map_append,←List.append_assoc];rfl
set_option maxRecDepth 100000 in
theorem defer_s {p pm mo bm b:Nat} {l0:List Int} {wt:List Nat} (hB:B≤w.heap.size) (hb:b≤l0.length) (hwt:∀ j∈wt,j<n) (hn:ops.length=n) (hlen:n≤100000)
  (h:At B w (stk p mo (l0.take b)::meetR pm mo (wt,b)::blkR bm 291 #[Pz pm]::sboxR bs (some ⟨p,0,none⟩)::oboxR bo A n c::L)) (hrd:∀ W L',Below B w W→At B W (L++L')→∃ R,Rd W R 2 A n (ops.flatMap opIn)) (u:FrameMode):
  CallsD Tryz.prog 217 #[Pz bm,Pz bs,Pz bo] u w fun e u' w'=>u'=u∧(e=.returned (.tuple #[])∧At B w' (stk p mo (mEnd l0 ops (wt,b))::L)∧Below B w w'):=by
 obtain⟨hle,hmo,Am,cm,hx⟩:=meet_open h.rot2;dsimp only at hle;have hx:=hx.rot2;have kb:=hx.rot3.cv 0 (Pz pm);obtain⟨q,hq⟩:∃ q,wt.length=q:=⟨_,rfl⟩;have kc:w.cell? ⟨pm,0,none⟩=some (.slice Am q cm):=by rw [← hq];exact hx.rot2.get.1.cell 0
 have HQ:=Lib.hid hq;have HN:=Lib.hid hn;have HB:=Lib.hid hb;rw [hq] at hle;clear h hn hb hq
 go_enter_d Tryz.func217,Tryz.ntmps217
 go_wp2_with fail
 go_loopg [10] q (fun g k wr=>∃ i:Nat,i+g=q∧k=Iv (i:Int)∧At B wr (stk p mo (l0.take b++(wt.take i).map (valAt ops))::meetXR pm mo Am cm (wt,b)::blkR bm 291 #[Pz pm]::sboxR bs (some ⟨p,0,none⟩)::oboxR bo A n c::L)∧Below B w wr∧B≤wr.heap.size)
 case atStart=>exact⟨0,by omega,rfl,by simpa using hx,Below.refl _ _,hB⟩
 case round=>
  clear hx kb kc;obtain⟨i,hi,rfl,s2,b2,hle2⟩:=hrel
  by_cases hlt:i<q
  ·have hil:i<wt.length:=by rw [HQ.out];exact hlt
   have hj:=hwt _ (List.getElem_mem hil);have hsn:=mEnd_snoc (ops:=ops) (l0:=l0) (b:=b) hil;have hsl:Sl wr 3 1 Am wt.length cm (il wt) (fun x=>B≤x):=s2.rot2.get.2.1;obtain⟨g,off,rfl,_,_,_,hcx⟩:=hsl.at (by omega);have g0:wr.cell? ⟨g,off+i,none⟩=some (Iv ((wt[i]:Nat):Int)):=hcx i _ (by simp [hil]);have ks:=s2.rot4.cv 0 (Pz p);have ko:=s2.rot5.cv 0 (.slice A n c);have hjl:wt[i]<ops.length:=by rw [HN.out];exact hj
   obtain⟨R,hr⟩:=hrd wr _ b2 (show At B wr (L++_) from s2.back5);obtain⟨b',off',rfl,_,hcells⟩:=hr.at (by omega);obtain⟨-,c1⟩:=op_at ops _ hjl
   have hkeep:∀ (W:World) (l:List Int),Below B w W→At B W (stk p mo l::meetXR pm mo (some ⟨g,off,none⟩) cm (wt,b)::blkR bm 291 #[Pz pm]::sboxR bs (some ⟨p,0,none⟩)::oboxR bo (some ⟨b',off',none⟩) n c::L)→W.cell? ⟨b',off'+wt[i]*2+1,none⟩=some (Iw (valAt ops wt[i])):=fun W l hb hs=>by
    obtain⟨R,hr⟩:=hrd W _ hb (show At B W (L++_) from hs.back5);obtain⟨b2,o2,hA,_,hc⟩:=hr.at (by omega);simp at hA;obtain⟨rfl,rfl⟩:=hA;rw [valAt_lt hjl];exact hc _ _ c1
   have g1:=hkeep wr _ b2 s2
   have hroom:(l0.take b++(wt.take i).map (valAt ops)).length<mo:=by
    have:=HB.out;simp;omega
   have hps:=fun(v:Int)=>push_ok (w:=World.drew wr) hle2 (Sep.drew s2) v hroom;have HS:=Lib.hid hsn;have hjn:((wt[i]:Nat):Int)<(n:Int):=by omega
   have hz:(0:Int)≤((wt[i]:Nat):Int):=by omega
   have HJ:Hid (wt[i]<n):=Lib.hid hj;generalize valAt ops wt[i]=vl at*;generalize wt[i]=jj at*;clear hsn hcx hcells hr hsl c1 hil hjl;go_wp2_with fail
   go_region_held3 (fun w'=>w'.cell? ⟨bs,0,none⟩=some (Pz p)∧w'.cell? ⟨bo,0,none⟩=some (.slice (some ⟨b',off',none⟩) n c)∧w'.cell? ⟨b',off'+jj*2+1,none⟩=some (Iw vl)) (first | (refine ⟨?_,?_,?_⟩<;>assumption) | go_keep) (first
    | (go_at_call 218;((with_reducible refine(hps _).mono ?_);rintro e w5 ⟨rfl,s5,b5⟩;have ks:=s5.rot4.cv 0 (Pz p);have ko:=s5.rot5.blk.cell 0;have b5:=b2.drew.trans b5;have g1:=hkeep w5 _ b5 s5)))
   go_wp2_with fail;go_roundg (gk-1)
   case measure=>omega
   case rel=>exact⟨i+1,by omega,by go_num,by rw [HS.out];exact s5,b5,Nat.le_trans hB b5.size⟩
  ·obtain rfl:i=q:=by omega
   have hE:l0.take b++(wt.take i).map (valAt ops)=mEnd l0 ops (wt,b):=by unfold mEnd;rw [show wt.take i=wt from List.take_of_length_le (by rw [HQ.out];omega)]
   rw [hE] at s2;go_wp2_with fail
   go_end0
   exact⟨rfl,Sep.cons (fun _ h=>Sep.drop (Sep.drop (Sep.drop (Sep.drop h)))) s2,b2⟩
end
end Go.Proofs.YtadgbhjpgnlmoaaGreat.Stk
