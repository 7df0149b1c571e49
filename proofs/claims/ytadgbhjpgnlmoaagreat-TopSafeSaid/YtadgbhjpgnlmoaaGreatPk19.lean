/- TopSafe, a part of its proof; no conditions. -/
import Derived.Test.YtadgbhjpgnlmoaaGreatPk18
set_option linter.all false
namespace Go.Proofs.YtadgbhjpgnlmoaaGreat.Rng
set_option maxRecDepth 100000
open Go.RowKit Go.Rp Go.Rp.Rng
set_option maxRecDepth 100000 in
set_option maxHeartbeats 4000000 in
theorem all_apply (bt bv bo:Nat) (B:Nat) (w:World) (hB:B≤w.heap.size) (p most below:Nat) (hbm:below≤most) (hm:most≤1000) (A:Option Addr) (n c:Nat) (ops:List (Int×Int)) (hn:ops.length=n) (h8:∀ o∈ops,0≤o.1∧o.1≤255) (hlen:n≤100000)
  (X:Nat→List Res)
  (hrd:∀ k W L,Below B w W→At B W (X k++L)→∃ R,Rd W R 2 A n (ops.flatMap opIn))
  (hgot:∀ (k:Nat) (e pr:Int) W L,k<n→(mStep most k (kindAt ops k) (mAt most below ops k)).2=(pr,2)→kindAt ops k=3+e→Below B w W→At B W (X k++L)→Calls Tryz.prog 245 #[Iv (k:Int),Iv e,Iv pr,Pz bt,Pz bv,Pz bo] W fun e W'=>e=.returned (.tuple #[])∧At B W' (X (k+1)++L)∧Below B W W')
  (hsame:∀ k,k<n→mCode most below ops k≠2→X (k+1)=X k)
  (h:At B w (meetR p most ([],below,[])::X 0)):
  Calls Tryz.prog 244 #[Pz p,.slice A n c,.func (.func 245) #[] #[Pz bt,Pz bv,Pz bo]] w fun e w'=>
   ∃ g,e=.returned (.slice (some ⟨g,0,none⟩) n n)∧At B w' (slRes 47 2 (some ⟨g,0,none⟩) n n ((fillL n n (fun i=>(mCode most below ops i,0)) (0,0)).flatMap resIn)::meetR p most (mAt most below ops n)::X n)∧Below B w w':=by
 obtain⟨i0,hi0,hz0,hz1,hz2⟩:=info_parts info_res;have HN:=Lib.hid hn;clear hn;go_enter Tryz.func244,Tryz.ntmps244;go_wp2_with (refine wpList_make_any _ rfl (.tmp 16) (.tmp 16) 260 rfl 47 i0 _ 2 8 Tryz.underlying260 hi0 hz0 hz1 hz2 rfl (by omega) .i64 .i64 n rfl rfl (by omega) (by omega) ?_;intro arr harr)
 have hrep:(List.replicate n ((#[Ub 0,Iw 0]:Array Value).toList)).flatten=(fillL n 0 (fun i=>(mCode most below ops i,0)) ((0,0):Int×Int)).flatMap resIn:=by
  rw [fillL_zero];exact rep_res n
 have s1:At B (w.alloc (.cells arr 47)) (slRes 47 2 (some ⟨w.heap.size,0,none⟩) n n ((fillL n 0 (fun i=>(mCode most below ops i,0)) ((0,0):Int×Int)).flatMap resIn)::meetR p most ([],below,[])::X 0):=
  h.made (fun x hx=>Nat.le_trans hB hx) ((Below.refl _ w).alloc (Nat.le_refl _) _) (Sl.of_made w 47 2 n arr _ (harr.trans hrep) (by rw [res_len,fillL_length]) (by unfold maxLen;omega) ⟨Nat.le_refl _,by simp⟩)
 have b1:Below B w (w.alloc (.cells arr 47)):=(Below.refl B w).alloc hB _;have s1:=(objR_new (Nat.le_trans hB b1.size) s1 askMap).rot2.cons fun _ h=>Sep.rot2 h;have b1:=b1.alloc (Nat.le_trans hB b1.size) askMap;simp only [World.size_alloc] at s1;have hask:=asks_any (w.alloc (.cells arr 47));simp only [World.size_alloc] at hask;clear hrep harr h;go_wp2_with fail;refine hask.mono ?_;rintro e w1 ⟨rfl,rfl⟩;go_wp2_with fail
 go_loopg [21] n (fun g k wr=>∃ m:Nat,m+g=n∧k=Iv (m:Int)∧At B wr (slRes 47 2 (some ⟨w.heap.size,0,none⟩) n n ((fillL n m (fun i=>(mCode most below ops i,0)) ((0,0):Int×Int)).flatMap resIn)::meetR p most (mAt most below ops m)::objR (w.heap.size+1) askMap::X m)∧Below B w wr)
 case atStart=>exact⟨0,by omega,rfl,s1,b1⟩
 case round=>
  clear s1 b1 hask;obtain⟨m,hmg,rfl,s1,b1⟩:=hrel
  by_cases hlt:m<n
  ·have hlt':m<ops.length:=by rw [HN.out];exact hlt
   obtain⟨R,hr⟩:=hrd m wr _ b1 s1.back3;obtain⟨b,off,rfl,hbR,hcells⟩:=hr.at (by omega);obtain⟨c0,c1⟩:=op_at ops m hlt';obtain⟨k0,k1⟩:=h8 _ (List.getElem_mem hlt');have g0:wr.cell? ⟨b,off+m*2,none⟩=some (Ub ops[m].1):=hcells _ _ c0;have g1:wr.cell? ⟨b,off+m*2+1,none⟩=some (Iw ops[m].2):=hcells _ _ c1;have hkd:=kindAt_lt hlt';rw [← hkd] at g0 k0 k1;have hbs:=b1.size;have hle:=Nat.le_trans hB hbs;have hmm:=hgot m;have hsm:=hsame m hlt;have hsu:=mAt_succ (most:=most) (below:=below) hlt';have hfl:m<(fillL n m (fun i=>(mCode most below ops i,0)) ((0,0):Int×Int)).length:=by rw [fillL_length];exact hlt
   have hfg:(fillL n m (fun i=>(mCode most below ops i,0)) ((0,0):Int×Int))[m]=(0,0):=by rw [fillL_get _ _ _ _ _ hlt,if_neg (by omega)]
   obtain⟨t0,t1⟩:=res_at _ m hfl
   have hall:∀ (W:World) (C:Int) (L:List Res) (cc:Int),At B W (slRes 47 2 (some ⟨w.heap.size,0,none⟩) n n (((fillL n m (fun i=>(mCode most below ops i,0)) ((0,0):Int×Int)).set m (C,0)).flatMap resIn)::L)→B≤W.heap.size→
     W.cell? ⟨w.heap.size,m*2,none⟩=some (Ub C)∧W.frozen? ⟨w.heap.size,m*2,none⟩=false∧
     At B (W.setCell ⟨w.heap.size,m*2,none⟩ (Ub cc)) (slRes 47 2 (some ⟨w.heap.size,0,none⟩) n n (((fillL n m (fun i=>(mCode most below ops i,0)) ((0,0):Int×Int)).set m (cc,0)).flatMap resIn)::L)∧Below B W (W.setCell ⟨w.heap.size,m*2,none⟩ (Ub cc)):=by
    intro W C L cc hW hBW;have hfl2:m<((fillL n m (fun i=>(mCode most below ops i,0)) ((0,0):Int×Int)).set m (C,0)).length:=by rw [List.length_set];exact hfl
    obtain⟨u0,_⟩:=res_at _ m hfl2;rw [List.getElem_set_self] at u0;obtain⟨a1,a2,a3⟩:=hW.slat hBW (m*2) _ u0;obtain⟨a4,a5⟩:=a3 (Ub cc);rw [res_set1 _ m hfl2,List.getElem_set_self,List.set_set] at a4;exact⟨a1,a2,a4,a5⟩
   have hset0:(fillL n m (fun i=>(mCode most below ops i,0)) ((0,0):Int×Int)).set m (0,0)=fillL n m (fun i=>(mCode most below ops i,0)) ((0,0):Int×Int):=by
    have:=List.set_getElem_self hfl
    rwa [hfg] at this
   have hdone:∀ cc:Int,mCode most below ops m=cc→(fillL n m (fun i=>(mCode most below ops i,0)) ((0,0):Int×Int)).set m (cc,0)=fillL n (m+1) (fun i=>(mCode most below ops i,0)) ((0,0):Int×Int):=fun cc hcc=>fillL_succ _ _ _ _ _ (by rw [hcc]);have hmc:mCode most below ops m=(mStep most m (kindAt ops m) (mAt most below ops m)).2.2:=rfl;rw [← hset0] at s1;have hml:=mAt_len most below ops hbm m;generalize mAt most below ops m=st at*;generalize kindAt ops m=kd at*;generalize fillL n m (fun i=>(mCode most below ops i,0)) ((0,0):Int×Int)=F at*;clear hfg hset0 t0 t1 c0 c1 hcells hkd hfl;obtain⟨vv,hvv⟩:∃ vv,ops[m].2=vv:=⟨_,rfl⟩;rw [hvv] at g1;clear hvv;have s1:At B (wr.alloc (.cells #[Ub kd,Iw vv] 45)) _:=s1.keep ((Below.refl _ wr).alloc (Nat.le_refl _) _);have b1:=b1.alloc hle (.cells #[Ub kd,Iw vv] 45);have hle:B≤(wr.alloc (.cells #[Ub kd,Iw vv] 45)).heap.size:=by simp;omega
   by_cases hkk:kd=1
   ·
    subst hkk;have hl:=ask_some (wr.alloc (.cells #[Ub 1,Iw vv] 45)) (w.heap.size+1) 1 (s1.rot3.get).1 0 (.agg #[.bool true,Iv 0]) rfl;have s2:=s1.alloc hle #[.bool true,Iv 0] 325;have b2:=b1.alloc hle (.cells #[.bool true,Iv 0] 325);have hle2:B≤((wr.alloc (.cells #[Ub 1,Iw vv] 45)).alloc (.cells #[.bool true,Iv 0] 325)).heap.size:=Nat.le_trans hB b2.size;simp only [World.size_alloc] at s2;have k0:((wr.alloc (.cells #[Ub 1,Iw vv] 45)).alloc (.cells #[.bool true,Iv 0] 325)).cell? ⟨wr.heap.size+1,0,none⟩=some (.bool true):=s2.blk.cell 0;have k1:((wr.alloc (.cells #[Ub 1,Iw vv] 45)).alloc (.cells #[.bool true,Iv 0] 325)).cell? ⟨wr.heap.size+1,1,none⟩=some (Iv 0):=s2.blk.cell 1;clear s1 b1 hle;clear hmm
    by_cases hroom:sizeE st<most
    ·rw [step1_room hroom] at hsu hmc;have hX:=hsm (by rw [hmc];dsimp only;decide);have hD:=hdone 1 hmc;have hpu:=mpush_0 hle2 s2.rot3 m hroom;clear hsm hdone hmc;have HX:=Lib.hid hX;have HD:=Lib.hid hD;have HS:=Lib.hid hsu;clear hX hD hsu;go_wp2_with fail;refine hpu.mono ?_;rintro e w5 ⟨rfl,s5,b5⟩;have b5:=b2.trans (b5.mono (Nat.le_refl _));obtain⟨e1,e2,e3,e4⟩:=hall w5 0 _ 1 s5.rot3 (Nat.le_trans hB b5.size);have b6:=b5.trans e4;clear s2 s5 hall b2 b5 e4 hpu hl k0 k1;go_wp2_with fail;go_roundg (gk-1)
     case measure=>omega
     case rel=>exact⟨m+1,by omega,by go_num,by rw [HX.out,HS.out,←HD.out];exact Sep.cons (fun _ h=>Sep.cons (fun _ h=>Sep.drop h) h) e3,b6⟩
    ·rw [step1_full hroom] at hsu hmc;have hX:=hsm (by rw [hmc];dsimp only;decide);have hD:=hdone 3 hmc;have hpu:=mpush_full hle2 s2.rot3 0 (m:Int) hroom;clear hsm hdone hmc;have HX:=Lib.hid hX;have HD:=Lib.hid hD;have HS:=Lib.hid hsu;clear hX hD hsu;go_wp2_with fail;refine hpu.mono ?_;rintro e w5 ⟨rfl,s5,b5⟩;have b5:=b2.trans (b5.mono (Nat.le_refl _));have k0:w5.cell? ⟨wr.heap.size+1,0,none⟩=some (.bool true):=s5.rot2.blk.cell 0;obtain⟨e1,e2,e3,e4⟩:=hall w5 0 _ 3 s5.rot3 (Nat.le_trans hB b5.size);have b6:=b5.trans e4;clear s2 s5 hall b2 b5 e4 hpu hl k1;go_wp2_with fail;go_roundg (gk-1)
     case measure=>omega
     case rel=>exact⟨m+1,by omega,by go_num,by rw [HX.out,HS.out,←HD.out];exact Sep.cons (fun _ h=>Sep.cons (fun _ h=>Sep.drop h) h) e3,b6⟩
   by_cases hkk:kd=2
   ·
    subst hkk;have hl:=ask_some (wr.alloc (.cells #[Ub 2,Iw vv] 45)) (w.heap.size+1) 2 (s1.rot3.get).1 1 (.agg #[.bool true,Iv 1]) rfl;have s2:=s1.alloc hle #[.bool true,Iv 1] 325;have b2:=b1.alloc hle (.cells #[.bool true,Iv 1] 325);have hle2:B≤((wr.alloc (.cells #[Ub 2,Iw vv] 45)).alloc (.cells #[.bool true,Iv 1] 325)).heap.size:=Nat.le_trans hB b2.size;simp only [World.size_alloc] at s2;have k0:((wr.alloc (.cells #[Ub 2,Iw vv] 45)).alloc (.cells #[.bool true,Iv 1] 325)).cell? ⟨wr.heap.size+1,0,none⟩=some (.bool true):=s2.blk.cell 0;have k1:((wr.alloc (.cells #[Ub 2,Iw vv] 45)).alloc (.cells #[.bool true,Iv 1] 325)).cell? ⟨wr.heap.size+1,1,none⟩=some (Iv 1):=s2.blk.cell 1;clear s1 b1 hle;clear hmm
    by_cases hroom:sizeE st<most
    ·rw [step2_room hroom] at hsu hmc;have hX:=hsm (by rw [hmc];dsimp only;decide);have hD:=hdone 1 hmc;have hpu:=mpush_1 hle2 s2.rot3 m hroom;clear hsm hdone hmc;have HX:=Lib.hid hX;have HD:=Lib.hid hD;have HS:=Lib.hid hsu;clear hX hD hsu;go_wp2_with fail;refine hpu.mono ?_;rintro e w5 ⟨rfl,s5,b5⟩;have b5:=b2.trans (b5.mono (Nat.le_refl _));obtain⟨e1,e2,e3,e4⟩:=hall w5 0 _ 1 s5.rot3 (Nat.le_trans hB b5.size);have b6:=b5.trans e4;clear s2 s5 hall b2 b5 e4 hpu hl k0 k1;go_wp2_with fail;go_roundg (gk-1)
     case measure=>omega
     case rel=>exact⟨m+1,by omega,by go_num,by rw [HX.out,HS.out,←HD.out];exact Sep.cons (fun _ h=>Sep.cons (fun _ h=>Sep.drop h) h) e3,b6⟩
    ·rw [step2_full hroom] at hsu hmc;have hX:=hsm (by rw [hmc];dsimp only;decide);have hD:=hdone 3 hmc;have hpu:=mpush_full hle2 s2.rot3 1 (m:Int) hroom;clear hsm hdone hmc;have HX:=Lib.hid hX;have HD:=Lib.hid hD;have HS:=Lib.hid hsu;clear hX hD hsu;go_wp2_with fail;refine hpu.mono ?_;rintro e w5 ⟨rfl,s5,b5⟩;have b5:=b2.trans (b5.mono (Nat.le_refl _));have k0:w5.cell? ⟨wr.heap.size+1,0,none⟩=some (.bool true):=s5.rot2.blk.cell 0;obtain⟨e1,e2,e3,e4⟩:=hall w5 0 _ 3 s5.rot3 (Nat.le_trans hB b5.size);have b6:=b5.trans e4;clear s2 s5 hall b2 b5 e4 hpu hl k1;go_wp2_with fail;go_roundg (gk-1)
     case measure=>omega
     case rel=>exact⟨m+1,by omega,by go_num,by rw [HX.out,HS.out,←HD.out];exact Sep.cons (fun _ h=>Sep.cons (fun _ h=>Sep.drop h) h) e3,b6⟩
   by_cases hkk:kd=3
   ·
    subst hkk;have hl:=ask_some (wr.alloc (.cells #[Ub 3,Iw vv] 45)) (w.heap.size+1) 3 (s1.rot3.get).1 2 (.agg #[.bool false,Iv 0]) rfl;have s2:=s1.alloc hle #[.bool false,Iv 0] 325;have b2:=b1.alloc hle (.cells #[.bool false,Iv 0] 325);have hle2:B≤((wr.alloc (.cells #[Ub 3,Iw vv] 45)).alloc (.cells #[.bool false,Iv 0] 325)).heap.size:=Nat.le_trans hB b2.size;simp only [World.size_alloc] at s2;have k0:((wr.alloc (.cells #[Ub 3,Iw vv] 45)).alloc (.cells #[.bool false,Iv 0] 325)).cell? ⟨wr.heap.size+1,0,none⟩=some (.bool false):=s2.blk.cell 0;have k1:((wr.alloc (.cells #[Ub 3,Iw vv] 45)).alloc (.cells #[.bool false,Iv 0] 325)).cell? ⟨wr.heap.size+1,1,none⟩=some (Iv 0):=s2.blk.cell 1;clear s1 b1 hle;obtain⟨a1,a2,a3,a4⟩:=hall _ 0 _ 4 s2.rot2 hle2;have k1':=a3.rot2.blk.cell 1;have b3:=b2.trans a4;have hle3:=Nat.le_trans hB b3.size
    rcases step3_or most m st with ⟨st',pr,hst⟩ | hst
    ·rw [hst] at hsu hmc hmm;have hD:=hdone 2 hmc;have hpo:=pop3_some hle3 a3.rot3 hst;clear hsm hdone hmc;have HD:=Lib.hid hD;have HS:=Lib.hid hsu;clear hD hsu;clear s2 b2 a3 a4;go_wp2_with fail;refine hpo.mono ?_;rintro e w5 ⟨rfl,s5,b5⟩;have b5:=b3.trans (b5.mono (Nat.le_refl _));obtain⟨e1,e2,e3,e4⟩:=hall w5 4 _ 2 s5.rot2 (Nat.le_trans hB b5.size);have b6:=b5.trans e4;have k2:=e3.rot3.blk.cell 1;have hmm2:=hmm 0 pr _ _ hlt rfl rfl b6 e3.back4;clear hall hl hpo a1 a2 k0 k1 k1' b3 b5 s5 e3 e4 hmm;go_wp2_with fail;refine hmm2.mono ?_;rintro e w6 ⟨rfl,s6,b7⟩;have b6:=b6.trans (b7.mono (Nat.le_refl _));have e3:=s6.front4;clear hmm2 s6 b7;go_wp2_with fail;go_roundg (gk-1)
     case measure=>omega
     case rel=>exact⟨m+1,by omega,by go_num,by rw [HS.out,←HD.out];exact Sep.cons (fun _ h=>Sep.cons (fun _ h=>Sep.drop h) h) e3,b6⟩
    ·rw [hst] at hsu hmc;have hX:=hsm (by rw [hmc];dsimp only;decide);have hD:=hdone 4 hmc;have hpo:=pop3_none a3.rot3 hst;clear hsm hdone hmc hmm;have HX:=Lib.hid hX;have HD:=Lib.hid hD;have HS:=Lib.hid hsu;clear hX hD hsu;clear s2 b2 a3 a4;go_wp2_with fail;refine hpo.mono ?_;rintro e w5 ⟨rfl,s5,b5⟩;have b6:=b3.trans (b5.mono (Nat.le_refl _));have e3:=s5.rot2;clear hall hl hpo a1 a2 k0 k1 k1' b3 b5 s5;go_wp2_with fail;go_roundg (gk-1)
     case measure=>omega
     case rel=>exact⟨m+1,by omega,by go_num,by rw [HX.out,HS.out,←HD.out];exact Sep.cons (fun _ h=>Sep.cons (fun _ h=>Sep.drop h) h) e3,b6⟩
   by_cases hkk:kd=4
   ·
    subst hkk;have hl:=ask_some (wr.alloc (.cells #[Ub 4,Iw vv] 45)) (w.heap.size+1) 4 (s1.rot3.get).1 3 (.agg #[.bool false,Iv 1]) rfl;have s2:=s1.alloc hle #[.bool false,Iv 1] 325;have b2:=b1.alloc hle (.cells #[.bool false,Iv 1] 325);have hle2:B≤((wr.alloc (.cells #[Ub 4,Iw vv] 45)).alloc (.cells #[.bool false,Iv 1] 325)).heap.size:=Nat.le_trans hB b2.size;simp only [World.size_alloc] at s2;have k0:((wr.alloc (.cells #[Ub 4,Iw vv] 45)).alloc (.cells #[.bool false,Iv 1] 325)).cell? ⟨wr.heap.size+1,0,none⟩=some (.bool false):=s2.blk.cell 0;have k1:((wr.alloc (.cells #[Ub 4,Iw vv] 45)).alloc (.cells #[.bool false,Iv 1] 325)).cell? ⟨wr.heap.size+1,1,none⟩=some (Iv 1):=s2.blk.cell 1;clear s1 b1 hle;obtain⟨a1,a2,a3,a4⟩:=hall _ 0 _ 4 s2.rot2 hle2;have k1':=a3.rot2.blk.cell 1;have b3:=b2.trans a4;have hle3:=Nat.le_trans hB b3.size
    rcases step4_or most m st with ⟨st',pr,hst⟩ | hst
    ·rw [hst] at hsu hmc hmm;have hD:=hdone 2 hmc;have hpo:=pop4_some hle3 a3.rot3 hst;clear hsm hdone hmc;have HD:=Lib.hid hD;have HS:=Lib.hid hsu;clear hD hsu;clear s2 b2 a3 a4;go_wp2_with fail;refine hpo.mono ?_;rintro e w5 ⟨rfl,s5,b5⟩;have b5:=b3.trans (b5.mono (Nat.le_refl _));obtain⟨e1,e2,e3,e4⟩:=hall w5 4 _ 2 s5.rot2 (Nat.le_trans hB b5.size);have b6:=b5.trans e4;have k2:=e3.rot3.blk.cell 1;have hmm2:=hmm 1 pr _ _ hlt rfl rfl b6 e3.back4;clear hall hl hpo a1 a2 k0 k1 k1' b3 b5 s5 e3 e4 hmm;go_wp2_with fail;refine hmm2.mono ?_;rintro e w6 ⟨rfl,s6,b7⟩;have b6:=b6.trans (b7.mono (Nat.le_refl _));have e3:=s6.front4;clear hmm2 s6 b7;go_wp2_with fail;go_roundg (gk-1)
     case measure=>omega
     case rel=>exact⟨m+1,by omega,by go_num,by rw [HS.out,←HD.out];exact Sep.cons (fun _ h=>Sep.cons (fun _ h=>Sep.drop h) h) e3,b6⟩
    ·rw [hst] at hsu hmc;have hX:=hsm (by rw [hmc];dsimp only;decide);have hD:=hdone 4 hmc;have hpo:=pop4_none a3.rot3 hst;clear hsm hdone hmc hmm;have HX:=Lib.hid hX;have HD:=Lib.hid hD;have HS:=Lib.hid hsu;clear hX hD hsu;clear s2 b2 a3 a4;go_wp2_with fail;refine hpo.mono ?_;rintro e w5 ⟨rfl,s5,b5⟩;have b6:=b3.trans (b5.mono (Nat.le_refl _));have e3:=s5.rot2;clear hall hl hpo a1 a2 k0 k1 k1' b3 b5 s5;go_wp2_with fail;go_roundg (gk-1)
     case measure=>omega
     case rel=>exact⟨m+1,by omega,by go_num,by rw [HX.out,HS.out,←HD.out];exact Sep.cons (fun _ h=>Sep.cons (fun _ h=>Sep.drop h) h) e3,b6⟩
   have hout:kd<1∨4<kd:=by omega
   have hl:=ask_none (wr.alloc (.cells #[Ub kd,Iw vv] 45)) (w.heap.size+1) kd (s1.rot3.get).1 hout;have s2:=s1.alloc hle #[.bool false,Iv 0] 325;have b2:=b1.alloc hle (.cells #[.bool false,Iv 0] 325);have hle2:B≤((wr.alloc (.cells #[Ub kd,Iw vv] 45)).alloc (.cells #[.bool false,Iv 0] 325)).heap.size:=Nat.le_trans hB b2.size;rw [step_bad hout] at hsu hmc;have hX:=hsm (by rw [hmc];dsimp only;decide);have hD:=hdone 5 hmc;obtain⟨a1,a2,a3,a4⟩:=hall _ 0 _ 5 s2.rot2 hle2;have b6:=b2.trans a4;clear hsm hdone hmc hmm;have HX:=Lib.hid hX;have HD:=Lib.hid hD;have HS:=Lib.hid hsu;clear hX hD hsu;clear s1 s2 hall a4;go_wp2_with fail;go_roundg (gk-1)
   case measure=>omega
   case rel=>exact⟨m+1,by omega,by go_num,by rw [HX.out,HS.out,←HD.out];exact Sep.cons (fun _ h=>Sep.drop h) a3,b6⟩
  ·obtain rfl:m=n:=by omega
   go_wp2_with fail;go_ret;exact⟨_,rfl,Sep.cons (fun _ h=>Sep.cons (fun _ h=>Sep.drop h) h) s1,b1⟩
end Go.Proofs.YtadgbhjpgnlmoaaGreat.Rng
