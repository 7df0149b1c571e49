/- TopSafe, a part of its proof; no conditions. -/
import Derived.Test.YtadgbhjpgnlmoaaGreatPk50
import Derived.Test.YtadgbhjpgnlmoaaGreatPk51
set_option linter.all false
namespace Go.Proofs.YtadgbhjpgnlmoaaGreat
open Go.RowKit Go.Rp Go.Sf
set_option maxRecDepth 100000
abbrev Ent:=Int×Int×Int×Int×Int
def entIn (e:Ent):List Value:=[Ub e.1,Iv e.2.1,Ub e.2.2.1,Iw e.2.2.2.1,Ub e.2.2.2.2]
def entOk (e:Ent):Prop:=(Lit.int .u8 e.1).wf=true∧(Lit.int .i64 e.2.1).wf=true∧(Lit.int .u8 e.2.2.1).wf=true∧(Lit.int .i32 e.2.2.2.1).wf=true∧(Lit.int .u8 e.2.2.2.2).wf=true
def toEt (e:Ent):Et:=⟨e.1,e.2.1,e.2.2.1,e.2.2.2.1,e.2.2.2.2⟩
theorem toEt_in (l:List Ent):(l.map toEt).flatMap etIn=l.flatMap entIn:=by
 rw [List.flatMap_map];rfl
theorem wf_i32e {x:Int} (h:(Lit.int .i32 x).wf=true): -2147483648≤x∧x≤2147483647:=by
 simp [Lit.wf,IntKind.min,IntKind.max,IntKind.signed,IntKind.bits] at h;omega
theorem toEt_ok {e:Ent} (h:entOk e):EtOk (toEt e):=by
 obtain⟨-,-,h3,h4,h5⟩:=h;have a:=wf_u8 h3;have b:=wf_i32e h4;have c:=wf_u8 h5;exact⟨⟨a.1,a.2,b.1,b.2⟩,c⟩
def tells (v:Ev) (x:Ap):Bool:=x.th==v.th&&(x.seq==v.seq&&(x.rc==v.rc&&x.rv==v.rv))
def toldBy (lg:List Ap) (v:Ev) (m:Nat):Bool:=(lg.take m).any (tells v)
theorem toldBy_succ {lg:List Ap} {v:Ev} {m:Nat} {x:Ap} (hx:lg[m]? =some x):toldBy lg v (m+1)=(toldBy lg v m||tells v x):=by
 unfold toldBy;rw [List.take_add_one,hx];simp
theorem toldBy_all {lg:List Ap} {v:Ev} (h:∃ x∈lg,x.th=v.th∧x.seq=v.seq∧x.rc=v.rc∧x.rv=v.rv):toldBy lg v lg.length=true:=by
 unfold toldBy;rw [List.take_length,List.any_eq_true];obtain⟨x,hx,h1,h2,h3,h4⟩:=h;exact⟨x,hx,by simp [tells,h1,h2,h3,h4]⟩
set_option maxHeartbeats 2000000 in
theorem TopSafe_walk (w:World) (a1:Option Addr) (n1 c1:Nat) (zs1:List Int) (h1:InInts .u8 w a1 n1 c1 zs1) (a2:Option Addr) (n2 c2:Nat) (zs2:List Int) (h2:InInts .u8 w a2 n2 c2 zs2)
  (th:Int) (ht:(Lit.int .u8 th).wf=true) (a3:Option Addr) (n3 c3:Nat) (l:List Ent) (h3:InRows 5 entIn entOk w a3 n3 c3 l):
  Calls Tryz.prog 3 #[.slice a1 n1 c1,.slice a2 n2 c2,Ub th,.slice a3 n3 c3] w fun e w'=>e=.returned (.bool true)∧Below w.heap.size w w':=by
 obtain⟨i0,hi0,hz0,hz1,hz2⟩:=info_parts info_et;have v1:=h1.reach;have v2:=h2.reach;have v3:=h3.reach;have l3:=h3.len;have HB:=Lib.hid (show ∀ W,Below w.heap.size w W→w.heap.size≤W.heap.size from fun _ b=>b.size);have hr1:∀ W,Below w.heap.size w W→Rd W (· <w.heap.size) 1 a1 n1 (u8s zs1):=fun W b=>h1.rd.below b fun _ h=>h;have hr2:∀ W,Below w.heap.size w W→Rd W (· <w.heap.size) 1 a2 n2 (u8s zs2):=fun W b=>h2.rd.below b fun _ h=>h;have hr3:∀ W,Below w.heap.size w W→Rd W (· <w.heap.size) 5 a3 n3 ((l.map toEt).flatMap etIn):=fun W b=>by rw [toEt_in];exact h3.rd.below b fun _ h=>h
 have hx1:U8s zs1:=fun x hx=>wf_u8 (h1.wf x hx);have hx2:U8s zs2:=fun x hx=>wf_u8 (h2.wf x hx)
 have hx3:∀ e∈l.map toEt,EtOk e:=fun e he=>by
  obtain⟨x,hx,rfl⟩:=List.mem_map.1 he;exact toEt_ok (h3.ok x hx)
 have htb:=wf_u8 ht;have hl3:(l.map toEt).length=n3:=by rw [List.length_map];exact l3
 generalize l.map toEt=er at*;have h0:At w.heap.size w []:=trivial;have hw1:IntKind.i64.wrap ((n1:Int)+(n2:Int))=(n1:Int)+(n2:Int):=IntWalk.i64_in _ (by omega);have hkn:=fun W (hb:Below w.heap.size w W) {L:List Res} (hL:At w.heap.size W L)=>known_s (HB.out _ hb) hL;clear h1 h2 h3 l3 ht
 by_cases hb1:120<n1+n2
 ·have hL:(120:Int)<(n1:Int)+(n2:Int):=by omega
  have hk:=hkn w (Below.refl _ _) h0;clear hkn;go_enter Tryz.func3,Tryz.ntmps3;go_wp2_with fail;refine hk.mono ?_;rintro e w2 ⟨rfl,-,b2⟩;go_wp2_with fail;go_ret;exact⟨rfl,b2⟩
 have hL:decide ((120:Int)<(n1:Int)+(n2:Int))=false:=by simp;omega
 by_cases hb2:60<n3
 ·have hL2:decide ((60:Int)<(n3:Int))=true:=by simp;omega
  have hk:=hkn w (Below.refl _ _) h0;clear hkn;go_enter Tryz.func3,Tryz.ntmps3;go_wp2_with fail;refine hk.mono ?_;rintro e w2 ⟨rfl,-,b2⟩;go_wp2_with fail;go_ret;exact⟨rfl,b2⟩
 have hL2:decide ((60:Int)<(n3:Int))=false:=by simp;omega
 have hwide:=wide_s (c:=c1) w (Nat.le_refl _) h0 hr1 hx1 htb;have HN:=Lib.hid (And.intro hb1 (And.intro hb2 (And.intro hr2 (And.intro hx2 (And.intro hr3 (And.intro hx3 (And.intro hl3 hkn)))))));clear hb1 hb2 hr1 hx1 hr2 hx2 hr3 hx3 hl3 htb hkn v1 v2 v3;go_enter Tryz.func3,Tryz.ntmps3;go_wp2_with fail;refine hwide.mono ?_;rintro e w2 ⟨⟨cf,rfl,hcf⟩,s2,b2⟩;clear hwide hL hL2 hw1;obtain⟨t,hth⟩:∃ t:Nat,cf.th=(t:Int):=⟨cf.th.toNat,by have:=hcf.hth;omega⟩;have HC:=Lib.hid (And.intro hcf (And.intro hth (show 1≤t∧t≤9 by have:=hcf.hth;omega)));have s3:=s2.alloc (HB.out _ b2) #[Ub cf.ob,Iv cf.th,Iv cf.cap,Iv cf.age,Iv cf.ps,.bool cf.plain] 26;have b3:=b2.alloc (HB.out _ b2) (.cells #[Ub cf.ob,Iv cf.th,Iv cf.cap,Iv cf.age,Iv cf.ps,.bool cf.plain] 26);have hsc:=Script_s (c:=c2) _ t HC.out.2.2.1 HC.out.2.2.2 (by have:=HN.out.1;omega) (HB.out _ b3) s3 (fun W hW=>HN.out.2.2.1 W (b3.trans hW)) HN.out.2.2.2.1
 rw [← hth] at hsc;clear hcf s2 hth;go_wp2_with fail;generalize hwx:w2.alloc (.cells #[Ub cf.ob,Iv cf.th,Iv cf.cap,Iv cf.age,Iv cf.ps,.bool cf.plain] 26)=wx at*;generalize hx:w2.heap.size=x at*;clear hwx hx b2;refine hsc.mono ?_;rintro e w4 ⟨⟨A4,k,c4,es,rfl,hk,hes,s4⟩,b4⟩;replace b4:=b3.trans b4;clear hsc s3 b3;have HE:=Lib.hid (And.intro hk hes);have hB4:=HB.out _ b4
 have hone:∀ u∈er.flatMap etIn,u.oneCell'=true:=fun u hu=>by
  obtain⟨x,_,hx⟩:=List.mem_flatMap.1 hu;exact one_et x u hx
 have hrr:=HN.out.2.2.2.2.1 w4 b4;have H63:=Lib.hid (show k+n3≤maxLen by have:=HN.out.2.1;simp only [maxLen];omega);have HBY:=Lib.hid (show (k+n3)*32≤140737488355328 by have:=HN.out.2.1;omega);clear hk hes;go_wp2_with (at_builtin;refine wpList_append_at rfl (.tmp 38) (.tmp 39) _ rfl 60 i0 _ 5 32 Tryz.underlying23 hi0 hz0 hz1 hz2 rfl (by omega) rfl s4 hB4 _ a3 n3 c3 _ rfl hrr hone H63.out HBY.out ?_;intro A6 c6 w6 s6 b6;obtain⟨q0,q1,q2,q3,q4,q5⟩:=cfg_cells (Sep.drop s6))
 have s7:At w.heap.size w6 (entR A6 (k+n3) c6 (es++er)::blkR x 26 #[Ub cf.ob,Iv cf.th,Iv cf.cap,Iv cf.age,Iv cf.ps,.bool cf.plain]::[]):=by
  unfold entR;rw [List.flatMap_append];exact s6
 have b7:=b4.trans b6;have hM7:k+n3≤704:=by have:=HE.out.1;have:=HN.out.2.1;omega
 have heo:∀ e∈es++er,EtOk e:=fun e he=>by
  rcases List.mem_append.1 he with h | h
  ·exact HE.out.2.ok e h
  ·exact HN.out.2.2.2.2.2.1 e h
 generalize k+n3=M at*;have haud:=Run_s (HB.out _ b7) HC.out.1 HC.out.2.1 (by omega) heo s7;clear s4 s6 b4 b6 hB4 hone hrr q0 q1 q2 q3 q4 q5;refine haud.mono ?_;rintro e w8 ⟨rfl,s8,b8⟩;replace b8:=b7.trans b8;clear haud s7 b7;obtain⟨q0,q1,q2,q3,q4,q5⟩:=cfg_cells (Sep.drop s8);have hrun:=Run_f (HB.out _ b8) HC.out.1 HC.out.2.1 (by omega) heo s8;have HMM:=Lib.hid (And.intro hM7 heo);clear s8 hM7 heo;go_wp2_with fail;refine hrun.mono ?_;rintro e w9 ⟨r,a,s,ab,L,rfl,hm,hx1,hx2,hx3,s9,b9⟩;replace b9:=b8.trans b9;clear hrun q0 q1 q2 q3 q4 q5 b8;obtain⟨Ae,ne,ce,Al,nl,cl,Ai,ni,ci,Am,nm,cm,Ap,np,cp,As,ns,cs⟩:=r;unfold runW at s9;simp only at hx1 hx2 hx3 s9;have HX:=Lib.hid (And.intro hx1 (And.intro hx2 (And.intro hx3 hm)));have hB9:=HB.out _ b9;have s10:=s9.alloc hB9 #[.slice Ae ne ce,.slice Al nl cl,.slice Ai ni ci,.slice Am nm cm,.slice Ap np cp,.slice As ns cs] 40;have b10:=b9.alloc hB9 (.cells #[.slice Ae ne ce,.slice Al nl cl,.slice Ai ni ci,.slice Am nm cm,.slice Ap np cp,.slice As ns cs] 40)
 have x0:=s10.blk.cell 0;have x1:=s10.blk.cell 1;have x2:=s10.blk.cell 2;have x3:=s10.blk.cell 3;have x4:=s10.blk.cell 4;have x5:=s10.blk.cell 5;have s11:=s10.ox [3,1];have hnl:nl≤100000:=by have:=hm.j.nlg;have:=HMM.out.1;omega
 have hns:ns≤100000:=by have:=hm.j.nev;have:=HMM.out.1;have:=spansTo_len s.ev s.ev.length;omega
 have hon:=Once_s (x:=⟨Ae,ne,ce,Al,nl,cl,Ai,ni,ci,Am,nm,cm,Ap,np,cp,As,ns,cs⟩) (HB.out _ b10) hnl hns hm.j.once hm.j.spans s11;simp only at hon;clear s9 s10 s11 hm hx1 hx2 hx3 hnl hns;go_wp2_with fail;generalize w9.alloc (.cells #[.slice Ae ne ce,.slice Al nl cl,.slice Ai ni ci,.slice Am nm cm,.slice Ap np cp,.slice As ns cs] 40)=wy at*;generalize w9.heap.size=y at*;refine hon.mono ?_;rintro e w12 ⟨rfl,s12,b12⟩;replace b12:=b10.trans b12;clear hon x0 x1 x2 x3 x4 x5 b10 b9 hB9;have HT:=Lib.hid (show ∀ v∈s.ev,v.kind=2→toldBy s.lg v nl=true from fun v hv h2=>by rw [HX.out.2.1];exact toldBy_all (HX.out.2.2.2.j.told hv h2));have HL:=Lib.hid (show ne≤704∧nl≤100000∧s.ev.length=ne∧s.lg.length=nl from⟨by have:=HX.out.1;have:=HX.out.2.2.2.j.nev;have:=HMM.out.1;omega,by have:=HX.out.2.1;have:=HX.out.2.2.2.j.nlg;have:=HMM.out.1;omega,HX.out.1.symm,HX.out.2.1.symm⟩);generalize s.ev=evs at*;generalize s.lg=lg at*
 go_wp2_with fail
 go_loopg [15] ne (fun gk vi wr=>∃ (m:Nat),vi=Iv (m:Int)∧m≤ne∧ne-m≤gk∧At w.heap.size wr (blkR y 40 #[.slice Ae ne ce,.slice Al nl cl,.slice Ai ni ci,.slice Am nm cm,.slice Ap np cp,.slice As ns cs]::evR Ae ne ce evs::apR Al nl cl lg::[])∧Below w.heap.size w wr)
 case atStart=>
  have v:=s12.ox [2,2];exact⟨0,rfl,by omega,by omega,Sep.cons (fun _ h=>Sep.cons (fun _ h=>Sep.cons (fun _ _=>trivial) h) h) v,b12⟩
 case round=>
  clear s12 b12 HX;obtain⟨m,rfl,hm,hgk,s1,b1⟩:=hrel;have HG:=Lib.hid hgk;have hBr:=HB.out _ b1;have x0:=s1.blk.cell 0;clear hgk
  by_cases hlt:m<ne
  ·have hltz:(m:Int)<(ne:Int):=by omega
   have hw:IntKind.i64.wrap ((m:Int)+1)=(m:Int)+1:=by have:=HL.out;rw [IntKind.wrap_i64];omega
   obtain⟨v,hv⟩:∃ v,evs[m]? =some v:=⟨_,List.getElem?_eq_getElem (by rw [HL.out.2.2.1];exact hlt)⟩;have hs:Sl wr 49 8 Ae ne ce (evs.flatMap evIn) (fun x=>w.heap.size≤x):=s1.drop.get;obtain⟨g,o,rfl,e0,e1,e2,e3,e4,e5,e6,e7⟩:=ev_cells hs.rd hv;have s2:=s1.alloc hBr (evc v) 49;have b2:=b1.alloc hBr (.cells (evc v) 49);have HV:=Lib.hid (HT.out v (List.mem_of_getElem? hv));clear hv hs
   by_cases hk2:v.kind=2
   ·have hkd:(v.kind !=2)=false:=by simp [hk2]
    have HV2:=Lib.hid (HV.out hk2);clear s1 HV hk2;go_wp2_with fail;generalize wr.alloc (.cells (evc v) 49)=wv at*;generalize wr.heap.size=p at*;clear e0 e1 e2 e3 e4 e5 e6 e7 x0
    go_loopg [17,18] nl (fun g2 vis vj wr=>∃ (j:Nat) (bl:Bool),vj=Iv (j:Int)∧j≤nl∧nl-j≤g2∧vis=.bool bl∧Hid (bl=toldBy lg v j)∧At w.heap.size wr (blkR p 49 (evc v)::blkR y 40 #[.slice (some ⟨g,o,none⟩) ne ce,.slice Al nl cl,.slice Ai ni ci,.slice Am nm cm,.slice Ap np cp,.slice As ns cs]::evR (some ⟨g,o,none⟩) ne ce evs::apR Al nl cl lg::[])∧Below w.heap.size w wr)
    case atStart=>exact⟨0,false,rfl,by omega,by omega,rfl,Lib.hid rfl,s2,b2⟩
    case round=>
     clear s2 b2;obtain⟨j,bl,rfl,hj,hg2,rfl,HE2,s3,b3⟩:=hrel;have HG2:=Lib.hid hg2;clear hg2;have x1:=s3.drop.blk.cell 1;have p1:=s3.blk.cell 1;have p2:=s3.blk.cell 2;have p5:=s3.blk.cell 5;have p6:=s3.blk.cell 6
     by_cases hlt2:j<nl
     ·have hltz2:(j:Int)<(nl:Int):=by omega
      have hw2:IntKind.i64.wrap ((j:Int)+1)=(j:Int)+1:=by have:=HL.out;rw [IntKind.wrap_i64];omega
      obtain⟨u,hu⟩:∃ u,lg[j]? =some u:=⟨_,List.getElem?_eq_getElem (by rw [HL.out.2.2.2];exact hlt2)⟩;have hs:Sl wr 51 7 Al nl cl (lg.flatMap apIn) (fun x=>w.heap.size≤x):=s3.drop.drop.drop.get;obtain⟨g3,o3,rfl,e0,e1,e2,e3,e4,e5,e6⟩:=ap_cells hs.rd hu;have HU:=Lib.hid (toldBy_succ (v:=v) hu);clear hu hs
      cases bl with
      | true=>
       have HB2:Hid (true=toldBy lg v (j+1)):=Lib.hid (by rw [HU.out,←HE2.out];rfl);go_wp2_with fail;go_quiet (fail);go_wp2_with fail;go_roundg (gk-1)
       case measure=>have:=HG2.out;omega
       case rel=>exact⟨j+1,true,by go_num,by omega,by have:=HG2.out;omega,rfl,HB2,Sep.drewN s3 _,below_drewN b3 _⟩
      | false=>
       rcases h1:(u.th==v.th) with _ | _
       ·have HB2:Hid (false=toldBy lg v (j+1)):=Lib.hid (by rw [HU.out,←HE2.out];simp [tells,h1]);go_wp2_with fail;go_quiet (fail);go_wp2_with fail;go_roundg (gk-1)
        case measure=>have:=HG2.out;omega
        case rel=>exact⟨j+1,false,by go_num,by omega,by have:=HG2.out;omega,rfl,HB2,Sep.drewN s3 _,below_drewN b3 _⟩
       ·rcases h2:(u.seq==v.seq) with _ | _
        ·have HB2:Hid (false=toldBy lg v (j+1)):=Lib.hid (by rw [HU.out,←HE2.out];simp [tells,h1,h2]);go_wp2_with fail;go_quiet (fail);go_wp2_with fail;go_roundg (gk-1)
         case measure=>have:=HG2.out;omega
         case rel=>exact⟨j+1,false,by go_num,by omega,by have:=HG2.out;omega,rfl,HB2,Sep.drewN s3 _,below_drewN b3 _⟩
        ·have HB2:Hid ((u.rc==v.rc&&u.rv==v.rv)=toldBy lg v (j+1)):=Lib.hid (by rw [HU.out,←HE2.out];simp only [tells,h1,h2];simp)
         rcases h3:(u.rc==v.rc) with _ | _
         ·rw [h3] at HB2;go_wp2_with fail;go_quiet (fail);go_wp2_with fail;go_roundg (gk-1)
          case measure=>have:=HG2.out;omega
          case rel=>exact⟨j+1,false,by go_num,by omega,by have:=HG2.out;omega,rfl,HB2,Sep.drewN s3 _,below_drewN b3 _⟩
         ·rcases h4:(u.rv==v.rv) with _ | _
          ·rw [h3,h4] at HB2;go_wp2_with fail;go_quiet (fail);go_wp2_with fail;go_roundg (gk-1)
           case measure=>have:=HG2.out;omega
           case rel=>exact⟨j+1,false,by go_num,by omega,by have:=HG2.out;omega,rfl,HB2,Sep.drewN s3 _,below_drewN b3 _⟩
          ·rw [h3,h4] at HB2;go_wp2_with fail;go_quiet (fail);go_wp2_with fail;go_roundg (gk-1)
           case measure=>have:=HG2.out;omega
           case rel=>exact⟨j+1,true,by go_num,by omega,by have:=HG2.out;omega,rfl,HB2,Sep.drewN s3 _,below_drewN b3 _⟩
     ·obtain rfl:nl=j:=by omega
      have hltz2:¬ (nl:Int)<(nl:Int):=by omega
      have hbl:=HE2.out.trans HV2.out;subst hbl;clear p1 p2 p5 p6;go_wp2_with fail;go_roundg (ne-m-1)
      case measure=>have:=HG.out;omega
      case rel=>exact⟨m+1,by go_num,by omega,by have:=HG.out;omega,s3.drop,b3⟩
   ·have hkd:(v.kind !=2)=true:=by simp [hk2]
    clear hk2 s1;go_wp2_with fail;go_roundg (gk-1)
    case measure=>have:=HG.out;omega
    case rel=>exact⟨m+1,by go_num,by omega,by have:=HG.out;omega,s2.drop,b2⟩
  ·have hltz:¬ (m:Int)<(ne:Int):=by omega
   have hk:=HN.out.2.2.2.2.2.2.2 wr b1 s1;go_wp2_with fail;refine hk.mono ?_;rintro e w20 ⟨rfl,-,b20⟩;go_wp2_with fail;go_ret;exact⟨rfl,b1.trans b20⟩
end Go.Proofs.YtadgbhjpgnlmoaaGreat
