/- TopSafe, a part of its proof; no conditions. -/
import Derived.Test.YtadgbhjpgnlmoaaGreatPk49
set_option linter.all false
namespace Go.Proofs.YtadgbhjpgnlmoaaGreat
open Go.RowKit Go.Rp Go.Sf
set_option maxRecDepth 100000
structure RunA where
 Ae:Option Addr
 ne:Nat
 ce:Nat
 Al:Option Addr
 nl:Nat
 cl:Nat
 Ai:Option Addr
 ni:Nat
 ci:Nat
 Am:Option Addr
 nm:Nat
 cm:Nat
 Ap:Option Addr
 np:Nat
 cp:Nat
 As:Option Addr
 ns:Nat
 cs:Nat
abbrev runc (x:RunA):Array Value:=#[.slice x.Ae x.ne x.ce,.slice x.Al x.nl x.cl,.slice x.Ai x.ni x.ci,.slice x.Am x.nm x.cm,.slice x.Ap x.np x.cp,.slice x.As x.ns x.cs]
abbrev runv (x:RunA):Value:=.agg (runc x)
def keyA (x:Ap):Nm:=(x.th,x.seq)
theorem ap_at:∀ (l:List Ap) (k:Nat) (x:Ap) (j:Nat),l[k]? =some x→j<7→(l.flatMap apIn)[k*7+j]? =(apIn x)[j]?
 | [],_,_,_,h,_=>by simp at h
 | y::l,0,x,j,h,hj=>by
  simp only [List.getElem?_cons_zero,Option.some.injEq] at h;subst h;rw [List.flatMap_cons,Nat.zero_mul,Nat.zero_add,List.getElem?_append_left (by simpa [apIn] using hj)]
 | y::l,k+1,x,j,h,hj=>by
  have hy:(apIn y).length=7:=rfl;rw [List.flatMap_cons,List.getElem?_append_right (by omega),show(k+1)*7+j-(apIn y).length=k*7+j by omega];exact ap_at l k x j (by simpa using h) hj
theorem ap_len (l:List Ap):(l.flatMap apIn).length=l.length*7:=by
 induction l with
 | nil=>rfl
 | cons a l ih=>rw [List.flatMap_cons,List.length_append,ih,show(apIn a).length=7 from rfl,List.length_cons];omega
theorem sp_at:∀ (l:List Spn) (k:Nat) (x:Spn) (j:Nat),l[k]? =some x→j<8→(l.flatMap spIn)[k*8+j]? =(spIn x)[j]?
 | [],_,_,_,h,_=>by simp at h
 | y::l,0,x,j,h,hj=>by
  simp only [List.getElem?_cons_zero,Option.some.injEq] at h;subst h;rw [List.flatMap_cons,Nat.zero_mul,Nat.zero_add,List.getElem?_append_left (by simpa using hj)]
 | y::l,k+1,x,j,h,hj=>by
  have hy:(spIn y).length=8:=rfl;rw [List.flatMap_cons,List.getElem?_append_right (by omega),show(k+1)*8+j-(spIn y).length=k*8+j by omega];exact sp_at l k x j (by simpa using h) hj
theorem sp_len (l:List Spn):(l.flatMap spIn).length=l.length*8:=by
 induction l with
 | nil=>rfl
 | cons a l ih=>rw [List.flatMap_cons,List.length_append,ih,show(spIn a).length=8 from rfl,List.length_cons];omega
theorem ap_cells {w:World} {R:Nat→Prop} {A:Option Addr} {n:Nat} {l:List Ap} (hr:Rd w R 7 A n (l.flatMap apIn)) {m:Nat} {x:Ap} (hx:l[m]? =some x):
  ∃ g o,A=some ⟨g,o,none⟩∧w.cell? ⟨g,o+m*7,none⟩=some (Iv x.th)∧w.cell? ⟨g,o+m*7+1,none⟩=some (Iv x.seq)∧w.cell? ⟨g,o+m*7+2,none⟩=some (Ub x.ok)∧w.cell? ⟨g,o+m*7+3,none⟩=some (Iw x.ov)∧
   w.cell? ⟨g,o+m*7+4,none⟩=some (Ub x.rc)∧w.cell? ⟨g,o+m*7+5,none⟩=some (Iw x.rv)∧w.cell? ⟨g,o+m*7+6,none⟩=some (Iv x.nb):=by
 have hl:=hr.1;rw [ap_len] at hl;have hm:=(List.getElem?_eq_some_iff.1 hx).1;obtain⟨g,o,hA,-,hc⟩:=hr.at (by omega);refine⟨g,o,hA,hc (m*7+0) _ (ap_at l m x 0 hx (by omega)),?_,?_,?_,?_,?_,?_⟩
 ·rw [Nat.add_assoc];exact hc (m*7+1) _ (ap_at l m x 1 hx (by omega))
 ·rw [Nat.add_assoc];exact hc (m*7+2) _ (ap_at l m x 2 hx (by omega))
 ·rw [Nat.add_assoc];exact hc (m*7+3) _ (ap_at l m x 3 hx (by omega))
 ·rw [Nat.add_assoc];exact hc (m*7+4) _ (ap_at l m x 4 hx (by omega))
 ·rw [Nat.add_assoc];exact hc (m*7+5) _ (ap_at l m x 5 hx (by omega))
 ·rw [Nat.add_assoc];exact hc (m*7+6) _ (ap_at l m x 6 hx (by omega))
theorem sp_cells {w:World} {R:Nat→Prop} {A:Option Addr} {n:Nat} {l:List Spn} (hr:Rd w R 8 A n (l.flatMap spIn)) {m:Nat} {x:Spn} (hx:l[m]? =some x):
  ∃ g o,A=some ⟨g,o,none⟩∧w.cell? ⟨g,o+m*8,none⟩=some (Iv x.th)∧w.cell? ⟨g,o+m*8+1,none⟩=some (Iv x.seq)∧w.cell? ⟨g,o+m*8+2,none⟩=some (Ub x.ok)∧w.cell? ⟨g,o+m*8+3,none⟩=some (Iw x.ov)∧
   w.cell? ⟨g,o+m*8+4,none⟩=some (Ub x.rc)∧w.cell? ⟨g,o+m*8+5,none⟩=some (Iw x.rv)∧w.cell? ⟨g,o+m*8+6,none⟩=some (Iv x.fr)∧w.cell? ⟨g,o+m*8+7,none⟩=some (Iv x.tw):=by
 have hl:=hr.1;rw [sp_len] at hl;have hm:=(List.getElem?_eq_some_iff.1 hx).1;obtain⟨g,o,hA,-,hc⟩:=hr.at (by omega);refine⟨g,o,hA,hc (m*8+0) _ (sp_at l m x 0 hx (by omega)),?_,?_,?_,?_,?_,?_,?_⟩
 ·rw [Nat.add_assoc];exact hc (m*8+1) _ (sp_at l m x 1 hx (by omega))
 ·rw [Nat.add_assoc];exact hc (m*8+2) _ (sp_at l m x 2 hx (by omega))
 ·rw [Nat.add_assoc];exact hc (m*8+3) _ (sp_at l m x 3 hx (by omega))
 ·rw [Nat.add_assoc];exact hc (m*8+4) _ (sp_at l m x 4 hx (by omega))
 ·rw [Nat.add_assoc];exact hc (m*8+5) _ (sp_at l m x 5 hx (by omega))
 ·rw [Nat.add_assoc];exact hc (m*8+6) _ (sp_at l m x 6 hx (by omega))
 ·rw [Nat.add_assoc];exact hc (m*8+7) _ (sp_at l m x 7 hx (by omega))
theorem mk_cnt (w:World):(Instr.makeMap 78 none).run Tryz.prog w=.ok (.map (some w.heap.size)) (w.alloc (.map #[] 0)):=by kernel_rfl
def cntOf (l:List Ap) (m:Nat) (k:Nm):Int:=(((l.take m).map keyA).count k:Nat)
theorem cntOf_succ {l:List Ap} {m:Nat} {x:Ap} (hx:l[m]? =some x) (k:Nm):cntOf l (m+1) k=if keyA x=k then cntOf l m k+1 else cntOf l m k:=by
 unfold cntOf;rw [List.take_add_one,hx];simp only [Option.toList_some,List.map_append,List.map_cons,List.map_nil,List.count_append,List.count_singleton,beq_iff_eq]
 split<;>simp
theorem cntOf_le (l:List Ap) (m:Nat) (k:Nm):0≤cntOf l m k∧cntOf l m k≤(l.length:Int):=by
 unfold cntOf;have h1:=List.count_le_length (a:=k) (l:=(l.take m).map keyA);have h2:((l.take m).map keyA).length≤l.length:=by simp;omega
 omega
theorem cntOf_all (l:List Ap) (k:Nm) (h:(l.map keyA).Nodup):cntOf l l.length k≤1:=by
 unfold cntOf;rw [List.take_length];have:=List.nodup_iff_count.1 h k;omega
theorem cntOf_pos (l:List Ap) (k:Nm) (h:k∈l.map keyA):0<cntOf l l.length k:=by
 unfold cntOf;rw [List.take_length];have:=List.count_pos_iff.2 h;omega
section
variable {B:Nat} {w:World} {L:List Res} {x:RunA} {lg:List Ap} {sp:List Spn}
set_option maxHeartbeats 4000000 in
theorem Once_s (hB:B≤w.heap.size) (hnl:x.nl≤100000) (hns:x.ns≤100000) (h1:(lg.map keyA).Nodup) (h2:∀ s∈sp,0≤s.tw→((s.th,s.seq):Nm)∈lg.map keyA)
  (h:At B w (apR x.Al x.nl x.cl lg::spR x.As x.ns x.cs sp::L)):
  Calls Tryz.prog 9 #[runv x] w fun e w'=>e=.returned (.bool true)∧At B w' (apR x.Al x.nl x.cl lg::spR x.As x.ns x.cs sp::L)∧Below B w w':=by
 obtain⟨Ae,ne,ce,Al,nl,cl,Ai,ni,ci,Am,nm,cm,Ap,np,cp,As,ns,cs⟩:=x;simp only [runv,runc] at*;have HB:=Lib.hid (show ∀ W,Below B w W→B≤W.heap.size from fun _ b=>Nat.le_trans hB b.size)
 have hll:lg.length=nl:=by
  have hs:Sl w 51 7 Al nl cl (lg.flatMap apIn) (fun x=>B≤x):=h.get;have:=hs.1;rw [ap_len] at this;omega
 have hsl:sp.length=ns:=by
  have hs:Sl w 56 8 As ns cs (sp.flatMap spIn) (fun x=>B≤x):=h.drop.get;have:=hs.1;rw [sp_len] at this;omega
 have HH:=Lib.hid (And.intro h1 (And.intro h2 (And.intro hll (And.intro hsl (And.intro hnl hns)))));have s1:=h.alloc hB (#[.slice Ae ne ce,.slice Al nl cl,.slice Ai ni ci,.slice Am nm cm,.slice Ap np cp,.slice As ns cs]) 40;have b1:=(Below.refl B w).alloc hB (.cells (#[.slice Ae ne ce,.slice Al nl cl,.slice Ai ni ci,.slice Am nm cm,.slice Ap np cp,.slice As ns cs]) 40);have s2:=Sep.allocC s1 (HB.out _ b1);have b2:=b1.alloc (HB.out _ b1) (.map #[] 0);rw [World.size_alloc] at s2;have k1:=(s2.ord [1]).blk.cell 1;have k5:=(s2.ord [1]).blk.cell 5;have hmk:=mk_cnt;clear h h1 h2 hll hsl hnl hns s1 b1;go_enter Tryz.func9,Tryz.ntmps9;go_wp2_with fail;generalize hw0:(w.alloc (.cells (#[.slice Ae ne ce,.slice Al nl cl,.slice Ai ni ci,.slice Am nm cm,.slice Ap np cp,.slice As ns cs]) 40)).alloc (.map #[] 0)=w0 at*;generalize w.heap.size+1=r at*;generalize w.heap.size=q at*;clear hw0 hmk
 go_loopg [13] nl (fun gk vi wr=>∃ (m:Nat) (l:List (Nm×Int)),vi=Iv (m:Int)∧m≤nl∧nl-m≤gk∧Hid (∀ k,getN k l=cntOf lg m k)∧At B wr (cntR r l::blkR q 40 (#[.slice Ae ne ce,.slice Al nl cl,.slice Ai ni ci,.slice Am nm cm,.slice Ap np cp,.slice As ns cs])::apR Al nl cl lg::spR As ns cs sp::L)∧Below B w wr)
 case atStart=>exact⟨0,[],rfl,by omega,by omega,Lib.hid (fun k=>by simp [getN,cntOf]),s2,b2⟩
 case round=>
  clear s2 b2 k1 k5;obtain⟨m,l,rfl,hm,hgk,HC,s1,b1⟩:=hrel;have HG:=Lib.hid hgk;have hBr:=HB.out _ b1;clear hgk
  by_cases hlt:m<nl
  ·have hltz:(m:Int)<(nl:Int):=by omega
   have hw:IntKind.i64.wrap ((m:Int)+1)=(m:Int)+1:=by have:=HH.out;rw [IntKind.wrap_i64];omega
   obtain⟨y,hy⟩:∃ y,lg[m]? =some y:=⟨_,List.getElem?_eq_getElem (by rw [HH.out.2.2.1];exact hlt)⟩;have hs:Sl wr 51 7 Al nl cl (lg.flatMap apIn) (fun x=>B≤x):=s1.drop.drop.get;obtain⟨g,o,rfl,e0,e1,e2,e3,e4,e5,e6⟩:=ap_cells hs.rd hy;have s2:=s1.alloc hBr #[Iv y.th,Iv y.seq,Ub y.ok,Iw y.ov,Ub y.rc,Iw y.rv,Iv y.nb] 51;have b2:=b1.alloc hBr (.cells #[Iv y.th,Iv y.seq,Ub y.ok,Iw y.ov,Ub y.rc,Iw y.rv,Iv y.nb] 51);have HY:=Lib.hid hy;clear hy hs s1;go_wp2_with fail;have s3:=s2.drew;have c3:=b2.drew;clear e0 e1 e2 e3 e4 e5 e6;refine wp_region_held_drew (S:=fun w'=>w'.cell? ⟨wr.heap.size,0,none⟩=some (Iv y.th)∧w'.cell? ⟨wr.heap.size,1,none⟩=some (Iv y.seq)) (by kernel_rfl) ⟨s3.blk.cell 0,s3.blk.cell 1⟩ fun hHeld=>?_;generalize (wr.alloc (.cells #[Iv y.th,Iv y.seq,Ub y.ok,Iw y.ov,Ub y.rc,Iw y.rv,Iv y.nb] 51)).drew=wd at*;generalize wr.heap.size=p at*;clear s2 b2;have hBd:=HB.out _ c3;have t2:=s3.ox [1]
   have hv:IntKind.i64.wrap (getN (y.th,y.seq) l+1)=getN (y.th,y.seq) l+1:=by
    rw [HC.out];have:=cntOf_le lg m (y.th,y.seq);have:=HH.out;rw [IntKind.wrap_i64];omega
   refine Rp.tk 0 hHeld ?_;refine Rp.tk 1 hHeld ?_;refine Rp.tk 2 hHeld ?_;refine Rp.tk 3 hHeld ?_;refine Rp.tk 4 hHeld ?_;refine Rp.tk 5 hHeld ?_;refine wpAnyH_ready (rs:=[6,8]) (by kernel_rfl) (by simp) (AllReadyH.cons rfl (fun K hK=>?_) (AllReadyH.cons rfl (fun K hK=>?_) AllReadyH.nil))
   ·have hlk:=cnt_find t2.get.1 (y.th,y.seq);go_simp;refine gon hK ⟨s3.blk.cell 0,s3.blk.cell 1⟩ fun hHeld=>?_;clear hK K;clear hlk;refine Rp.tk 7 hHeld ?_;refine Rp.rd 8 fun K hK=>?_;obtain⟨w3,v,st,hr3,t3,d3⟩:=cntEntry hBd t2 (y.th,y.seq);replace d3:=c3.trans d3;go_simp;refine gon hK ⟨t3.drop.blk.cell 0,t3.drop.blk.cell 1⟩ fun hHeld=>?_;clear hK K;clear hr3;refine Rp.tk 9 hHeld ?_;refine Rp.rd 10 fun K hK=>?_;obtain⟨w4,hr4,t4,d4⟩:=cntStore (HB.out _ d3) t3 (getN (y.th,y.seq) l+1);go_simp;refine gon hK ⟨t4.drop.blk.cell 0,t4.drop.blk.cell 1⟩ fun hHeld=>?_;clear hK K;refine wpAnyH_done (by kernel_rfl) ?_ _;replace d4:=d3.trans d4;clear hHeld hr4 t3 d3;go_wp2_with fail;go_roundg (gk-1)
    case measure=>have:=HG.out;omega
    case rel=>exact⟨m+1,_,by go_num,by omega,by have:=HG.out;omega,Lib.hid (fun k=>by rw [getN_setN,getN_setN,cntOf_succ HY.out];unfold keyA;split<;>rw [HC.out];rename_i e;rw [e]),t4.cons fun _ h=>h.drop,d4⟩
   ·obtain⟨w3,v,st,hr3,t3,d3⟩:=cntEntry hBd t2 (y.th,y.seq);replace d3:=c3.trans d3;go_simp;refine gon hK ⟨t3.drop.blk.cell 0,t3.drop.blk.cell 1⟩ fun hHeld=>?_;clear hK K;clear hr3;refine Rp.tk 9 hHeld ?_;refine Rp.rd 6 fun K hK=>?_;have hlk:=cnt_find t3.get.1.1 (y.th,y.seq);rw [getN_setN,if_pos rfl] at hlk;go_simp;refine gon hK ⟨t3.drop.blk.cell 0,t3.drop.blk.cell 1⟩ fun hHeld=>?_;clear hK K;clear hlk;refine Rp.tk 7 hHeld ?_;refine Rp.rd 10 fun K hK=>?_;obtain⟨w4,hr4,t4,d4⟩:=cntStore (HB.out _ d3) t3 (getN (y.th,y.seq) l+1);go_simp;refine gon hK ⟨t4.drop.blk.cell 0,t4.drop.blk.cell 1⟩ fun hHeld=>?_;clear hK K;refine wpAnyH_done (by kernel_rfl) ?_ _;replace d4:=d3.trans d4;clear hHeld hr4 t3 d3;go_wp2_with fail;go_roundg (gk-1)
    case measure=>have:=HG.out;omega
    case rel=>exact⟨m+1,_,by go_num,by omega,by have:=HG.out;omega,Lib.hid (fun k=>by rw [getN_setN,getN_setN,cntOf_succ HY.out];unfold keyA;split<;>rw [HC.out];rename_i e;rw [e]),t4.cons fun _ h=>h.drop,d4⟩
  ·obtain rfl:nl=m:=by omega
   have hltz:¬ (nl:Int)<(nl:Int):=by omega
   have k5:=(s1.ord [1]).blk.cell 5;have HC2:Hid (∀ k,getN k l=cntOf lg lg.length k):=Lib.hid (by rw [HH.out.2.2.1];exact HC.out);go_wp2_with fail
   go_loopg [31] ns (fun gk vi wr=>∃ (m:Nat),vi=Iv (m:Int)∧m≤ns∧ns-m≤gk∧At B wr (cntR r l::blkR q 40 #[.slice Ae ne ce,.slice Al nl cl,.slice Ai ni ci,.slice Am nm cm,.slice Ap np cp,.slice As ns cs]::apR Al nl cl lg::spR As ns cs sp::L)∧Below B w wr)
   case atStart=>exact⟨0,rfl,by omega,by omega,s1,b1⟩
   case round=>
    clear s1 b1 k5 hBr HC HG hlt hltz;obtain⟨m,rfl,hm,hgk,s1,b1⟩:=hrel;have HG:=Lib.hid hgk;have hBr:=HB.out _ b1;clear hgk
    by_cases hlt:m<ns
    ·have hltz:(m:Int)<(ns:Int):=by omega
     have hw:IntKind.i64.wrap ((m:Int)+1)=(m:Int)+1:=by have:=HH.out;rw [IntKind.wrap_i64];omega
     obtain⟨y,hy⟩:∃ y,sp[m]? =some y:=⟨_,List.getElem?_eq_getElem (by rw [HH.out.2.2.2.1];exact hlt)⟩;have hs:Sl wr 56 8 As ns cs (sp.flatMap spIn) (fun x=>B≤x):=s1.drop.drop.drop.get;obtain⟨g,o,rfl,e0,e1,e2,e3,e4,e5,e6,e7⟩:=sp_cells hs.rd hy;have s2:=s1.alloc hBr #[Iv y.th,Iv y.seq,Ub y.ok,Iw y.ov,Ub y.rc,Iw y.rv,Iv y.fr,Iv y.tw] 56;have b2:=b1.alloc hBr (.cells #[Iv y.th,Iv y.seq,Ub y.ok,Iw y.ov,Ub y.rc,Iw y.rv,Iv y.fr,Iv y.tw] 56);have t2:=s2.ox [1];have hlk:=cnt_find t2.get.1 (y.th,y.seq);have hle:getN (y.th,y.seq) l≤1:=by rw [HC2.out];exact cntOf_all lg _ HH.out.1
     have hnn:0≤getN (y.th,y.seq) l:=by rw [HC2.out];exact(cntOf_le lg _ _).1
     have hzz:getN (y.th,y.seq) l=0→y.tw<0:=fun h0=>by
      by_cases h:0≤y.tw
      ·have:=cntOf_pos lg _ (HH.out.2.1 y (List.mem_of_getElem? hy) h);rw [← HC2.out,h0] at this;omega
      ·omega
     clear hy hs s1 t2;generalize getN (y.th,y.seq) l=u at*;have hd1:decide ((1:Int)<u)=false:=by simp;omega
     by_cases hu:u=0
     ·have hd2:(u==0)=true:=by simp [hu]
      have hd3:decide ((0:Int)≤y.tw)=false:=by have:=hzz hu;simp;omega
      clear hu hzz hle hnn;go_wp2_with fail;go_roundg (gk-1)
      case measure=>have:=HG.out;omega
      case rel=>exact⟨m+1,by go_num,by omega,by have:=HG.out;omega,s2.drop,b2⟩
     ·have hd2:(u==0)=false:=by simp [hu]
      clear hu hzz hle hnn;go_wp2_with fail;go_roundg (gk-1)
      case measure=>have:=HG.out;omega
      case rel=>exact⟨m+1,by go_num,by omega,by have:=HG.out;omega,s2.drop,b2⟩
    ·have hltz:¬ (m:Int)<(ns:Int):=by omega
     go_wp2_with fail;go_ret;exact⟨rfl,s1.drop.drop,b1⟩
end
section
variable {B X q p n c:Nat} {w:World} {R:List Res} {cf:Cf} {a:Ad} {s:Wst} {N:Nat} {es:List Et} {A:Option Addr} {x y:Res}
theorem top_in (h:At B w (x::wTop X cf a s R)):At B w (wTop X cf a s (x::R)):=
 Sep.perm (List.perm_middle (a:=x) (l₁:=wTop X cf a s []) (l₂:=R)).symm h
theorem top_out (h:At B w (wTop X cf a s R)):At B w R:=Sep.dropL (l:=wTop X cf a s []) h
structure Mir (N m:Nat) (cf:Cf) (a:Ad) (s:Wst) (es:List Et) (ab:Abs) (L:List Int):Prop where
 j:Jn cf N m (a.T.map (·.t)) s ab L
 d:AdN N a
 r:Does cf (3+5*(N:Int)) (List.replicate N zeroT) zeroS (es.take m) (a.T.map (·.t)) s
def runW (x:RunA) (s:Wst) (R:List Res):List Res:=spR x.As x.ns x.cs (spansTo s.ev s.ev.length)::evR x.Ae x.ne x.ce s.ev::apR x.Al x.nl x.cl s.lg::R
set_option maxHeartbeats 4000000 in
theorem Run_f (hB:B≤w.heap.size) (hc:CfOk cf) (hN:cf.th=(N:Int)) (hn:n≤1000) (he:∀ e∈es,EtOk e) (h:At B w (entR A n c es::R)):
  Calls Tryz.prog 8 #[cfv cf,.slice A n c] w fun r' w'=>∃ (x:RunA) (a:Ad) (s:Wst) (ab:Abs) (L:List Int),r'=.returned (.tuple #[runv x,.int .u16 0])∧Mir N n cf a s es ab L∧x.ne=s.ev.length∧x.nl=s.lg.length∧x.ns=(spansTo s.ev s.ev.length).length∧At B w' (runW x s (entR A n c es::R))∧Below B w w':=by
 have HB:=Lib.hid (show ∀ W,Below B w W→B≤W.heap.size from fun _ b=>Nat.le_trans hB b.size);have s0:=h.alloc hB #[Ub cf.ob,Iv cf.th,Iv cf.cap,Iv cf.age,Iv cf.ps,.bool cf.plain] 26;have b0:=(Below.refl B w).alloc hB (.cells #[Ub cf.ob,Iv cf.th,Iv cf.cap,Iv cf.age,Iv cf.ps,.bool cf.plain] 26);have s1:=s0.alloc (HB.out _ b0) #[.slice none 0 0,.slice none 0 0,.slice none 0 0,.slice none 0 0,.slice none 0 0,.slice none 0 0] 40;have b1:=b0.alloc (HB.out _ b0) (.cells #[.slice none 0 0,.slice none 0 0,.slice none 0 0,.slice none 0 0,.slice none 0 0,.slice none 0 0] 40);clear s0 b0;have hr:=fun W=>right_any W cf hc
 have hel:es.length=n:=by
  have hs:Sl w 60 5 A n c (es.flatMap etIn) (fun x=>B≤x):=h.get;have:=hs.1;rw [et_len] at this;omega
 have HC:=Lib.hid (And.intro hc (And.intro hN (And.intro hn (And.intro he hel))));have hnd:decide ((20000:Int)<(n:Int))=false:=by simp;omega
 obtain⟨q0,q1,q2,q3,q4,q5⟩:=cfg_cells (Sep.ord [1] s1);clear h hc hN hn he hel;go_enter Tryz.func8,Tryz.ntmps8;go_wp2_with fail;generalize hw1:(w.alloc (.cells #[Ub cf.ob,Iv cf.th,Iv cf.cap,Iv cf.age,Iv cf.ps,.bool cf.plain] 26)).alloc (.cells #[.slice none 0 0,.slice none 0 0,.slice none 0 0,.slice none 0 0,.slice none 0 0,.slice none 0 0] 40)=w1 at*;have hB1:=HB.out _ b1;rw [World.size_alloc] at s1;generalize hp:w.heap.size+1=p at*;generalize hq:w.heap.size=q at*;clear hw1 hp;refine(hr _).mono ?_;rintro e w2 ⟨rfl,b2⟩;have s2:=s1.keep b2;have b3:=b1.trans (b2.mono hB1);clear hr s1 b1 b2 q0 q1 q2 q3 q4 q5 hB1;have hnew:=new_w (HB.out _ b3) HC.out.1 HC.out.2.1 s2;obtain⟨q0,q1,q2,q3,q4,q5⟩:=cfg_cells (Sep.ord [1] s2);go_wp2_with fail;refine hnew.mono ?_;rintro e w3 ⟨X,pm,o,ro,A',c',rfl,s3,b4⟩;replace b4:=b3.trans b4;clear hnew q0 q1 q2 q3 q4 q5 s2 b3 hnd
 have hmid:Mir N 0 cf (zeroA pm o ro (3+5*(N:Int)) A' c' (zeroTs N)) zeroS es ⟨⟨0,0,0,0,fun _=>0,fun _=>0,fun _=>0,fun _=>0,fun _=>0⟩,fun _=>⟨0,0,0,0,0,0,0,0,0,0,0,[]⟩,[],[],fun _ _=>False⟩ []:=by
  refine⟨?_,⟨zero_ids N,?_,rfl⟩,?_⟩
  ·rw [show ((zeroA pm o ro (3+5*(N:Int)) A' c' (zeroTs N)).T.map (·.t))=List.replicate N zeroT from zero_ts N];exact Jn.zero cf N
  ·have hs:Sl w3 93 13 A' (zeroTs N).length c' (trC (zeroTs N)) (fun x=>B≤x):=(s3.ord [1]).get;have h1:0<(zeroTs N).length:=by have:=HC.out.1.hth;have:=HC.out.2.1;simp [zeroTs];omega
   obtain⟨g,off,h,-⟩:=hs.at h1;exact⟨g,off,h⟩
  ·rw [show ((zeroA pm o ro (3+5*(N:Int)) A' c' (zeroTs N)).T.map (·.t))=List.replicate N zeroT from zero_ts N];exact Does.nil
 go_wp2_with fail
 go_loopg [25] n (fun gk vi wr=>∃ (m:Nat) (a:Ad) (s:Wst) (ab:Abs) (L:List Int),vi=Iv (m:Int)∧m≤n∧n-m≤gk∧Mir N m cf a s es ab L∧At B wr (wTop X cf a s (a.T.map itO++(blkR p 40 #[.slice none 0 0,.slice none 0 0,.slice none 0 0,.slice none 0 0,.slice none 0 0,.slice none 0 0]::blkR q 26 #[Ub cf.ob,Iv cf.th,Iv cf.cap,Iv cf.age,Iv cf.ps,.bool cf.plain]::entR A n c es::R)))∧Below B w wr)
 case atStart=>exact⟨0,_,_,_,_,rfl,by omega,by omega,hmid,s3,b4⟩
 case round=>
  clear s3 b4 hmid;obtain⟨m,a,s,ab,L,rfl,hm,hgk,hmid,s5,c5⟩:=hrel;have hBr:=HB.out _ c5;have HM:=Lib.hid hmid;have HG:=Lib.hid hgk;clear hmid hgk
  by_cases hlt:m<n
  ·have hltz:(m:Int)<(n:Int):=by omega
   have hw:IntKind.i64.wrap ((m:Int)+1)=(m:Int)+1:=by have:=HC.out.2.2.1;rw [IntKind.wrap_i64];omega
   obtain⟨e,hx⟩:∃ e,es[m]? =some e:=⟨_,List.getElem?_eq_getElem (by rw [HC.out.2.2.2.2];exact hlt)⟩;have hR:At B wr (entR A n c es::R):=Sep.drop (Sep.drop (Sep.dropL (top_out s5)));have hs:Sl wr 60 5 A n c (es.flatMap etIn) (fun x=>B≤x):=hR.get;obtain⟨g,o,rfl,-,-,-,hc⟩:=hs.at (by omega);have e0:wr.cell? ⟨g,o+m*5,none⟩=some (Ub e.kind):=hc (m*5+0) _ (et_at es m e 0 hx (by omega));have e1:wr.cell? ⟨g,o+m*5+1,none⟩=some (Iv e.th):=by rw [Nat.add_assoc];exact hc (m*5+1) _ (et_at es m e 1 hx (by omega))
   have e2:wr.cell? ⟨g,o+m*5+2,none⟩=some (Ub e.ok):=by rw [Nat.add_assoc];exact hc (m*5+2) _ (et_at es m e 2 hx (by omega))
   have e3:wr.cell? ⟨g,o+m*5+3,none⟩=some (Iw e.ov):=by rw [Nat.add_assoc];exact hc (m*5+3) _ (et_at es m e 3 hx (by omega))
   have e4:wr.cell? ⟨g,o+m*5+4,none⟩=some (Ub e.bits):=by rw [Nat.add_assoc];exact hc (m*5+4) _ (et_at es m e 4 hx (by omega))
   have hee:=HC.out.2.2.2.1 e (List.mem_of_getElem? hx);have s6:=s5.alloc hBr #[Ub e.kind,Iv e.th,Ub e.ok,Iw e.ov,Ub e.bits] 60;have c6:=c5.alloc hBr (.cells #[Ub e.kind,Iv e.th,Ub e.ok,Iw e.ov,Ub e.bits] 60);have x0:=s6.blk.cell 0;have x1:=s6.blk.cell 1;have x2:=s6.blk.cell 2;have x3:=s6.blk.cell 3;have x4:=s6.blk.cell 4;have hth:=HC.out.1.hth;have hcn:=HC.out.2.1;have hnn:=HC.out.2.2.1;have hdo:=do_w hee (HB.out _ c6) (HM.out.j.wok HM.out.d (by omega) (by omega)) s6.drop;have HX:=Lib.hid hx;clear s5 s6 hR hs hc hx hth hcn hnn;go_wp2_with fail;refine hdo.mono ?_;rintro e0 w6 ⟨⟨bl,rfl⟩,a',s',hd,hao,s7,c7⟩
   have hm':∃ ab' L',Mir N (m+1) cf a' s' es ab' L':=by
    have hth:=HC.out.1.hth;have hcn:=HC.out.2.1;have hnn:=HC.out.2.2.1;obtain⟨ab',L',j',-⟩:=HM.out.j.next (by omega) (by omega) HM.out.d.size hee.op hd;exact⟨ab',L',j',HM.out.d.next hao,HM.out.r.one HX.out (by rw [← HM.out.d.size];exact hd)⟩
   obtain⟨ab',L',hm'⟩:=hm';clear hdo x0 x1 x2 x3 x4 e1 e2 e3 e4;go_wp2_with fail;go_roundg (gk-1)
   case measure=>have:=HG.out;omega
   case rel=>exact⟨m+1,a',s',ab',L',by go_num,by omega,by have:=HG.out;omega,hm',s7,c6.trans c7⟩
  ·have hltz:¬ (m:Int)<(n:Int):=by omega
   obtain rfl:m=n:=by omega
   have hne:=HM.out.j.nev;have hnp:=HM.out.j.npk;have hnl:=HM.out.j.nlg;have hnn:=HC.out.2.2.1;have hev:=events_s hBr (by omega) s5;go_wp2_with fail;refine hev.mono ?_;rintro e w6 ⟨Ae,ce,rfl,s6,d6⟩;replace d6:=c5.trans d6;clear hev s5 c5;have s6:=top_in s6;have hlg:=log_s (HB.out _ d6) (by omega) s6;go_wp2_with fail;refine hlg.mono ?_;rintro e w7 ⟨Al,cl,rfl,s7,d7⟩;replace d7:=d6.trans d7;clear hlg s6 d6;have s7:=top_in s7;have hit:=items_w (HB.out _ d7) s7;go_wp2_with fail;refine hit.mono ?_;rintro e w8 ⟨Ai,ni,ci,il,rfl,s8,d8⟩;replace d8:=d7.trans d8;clear hit s7 d7;have s8:=s8.drop;have hme:=memory_s (HB.out _ d8) s8;go_wp2_with fail;refine hme.mono ?_;rintro e w9 ⟨pq,rfl,s9,d9⟩;replace d9:=d8.trans d9;clear hme s8 d8;have hce:=cells_s (HB.out _ d9) s9;go_wp2_with fail;refine hce.mono ?_;rintro e wA ⟨Am,cm,rfl,sA,dA⟩;replace dA:=d9.trans dA;clear hce s9 d9;have sA:=sA.drop.drop;have hpk:=picks_s (HB.out _ dA) (by omega) sA
   go_wp2_with fail;refine hpk.mono ?_;rintro e wB ⟨Ap,cp,rfl,sB,dB⟩;replace dB:=dA.trans dB;clear hpk sA dA;have sC:=top_out sB.drop
   have sD:At B wB (evR Ae s.ev.length ce s.ev::apR Al s.lg.length cl s.lg::blkR p 40 #[.slice none 0 0,.slice none 0 0,.slice none 0 0,.slice none 0 0,.slice none 0 0,.slice none 0 0]::blkR q 26 #[Ub cf.ob,Iv cf.th,Iv cf.cap,Iv cf.age,Iv cf.ps,.bool cf.plain]::entR A m c es::R):=
    Sep.rot2 (Sep.cons (fun _ h=>Sep.cons (fun _ h=>Sep.dropL h) h) sC)
   have hsp:=Spans_s (HB.out _ dB) (by omega) sD;clear sB sC sD;go_wp2_with fail;refine hsp.mono ?_;rintro e wE ⟨As,ns,cs,rfl,hns,sE,dE⟩;replace dE:=dB.trans dE;have HNS:=Lib.hid hns;clear hns hne hnp hnl hnn;clear hsp dB;have s3:=sE.ox [3];have y0:=s3.blk.cell 0;have f0:=s3.blk.frozen 0;have y1:=s3.blk.cell 1;have f1:=s3.blk.frozen 1;have y2:=s3.blk.cell 2;have f2:=s3.blk.frozen 2;have y3:=s3.blk.cell 3;have f3:=s3.blk.frozen 3;have y4:=s3.blk.cell 4;have f4:=s3.blk.frozen 4;have y5:=s3.blk.cell 5;have f5:=s3.blk.frozen 5;obtain⟨t0,e0⟩:=bset (HB.out _ dE) s3 0 (.slice Ae s.ev.length ce);have d0:=dE.trans e0;obtain⟨t1,e1⟩:=bset (HB.out _ d0) t0 1 (.slice Al s.lg.length cl);have d1:=d0.trans e1;obtain⟨t2,e2⟩:=bset (HB.out _ d1) t1 2 (.slice Ai ni ci);have d2:=d1.trans e2;obtain⟨t3,e3⟩:=bset (HB.out _ d2) t2 3 (.slice Am s.m.length cm);have d3:=d2.trans e3;obtain⟨t4,e4⟩:=bset (HB.out _ d3) t3 4 (.slice Ap s.pk.length cp)
   have d4:=d3.trans e4;obtain⟨t5,e5⟩:=bset (HB.out _ d4) t4 5 (.slice As ns cs);have d5:=d4.trans e5;have x0:=t5.blk.cell 0;have x1:=t5.blk.cell 1;have x2:=t5.blk.cell 2;have x3:=t5.blk.cell 3;have x4:=t5.blk.cell 4;have x5:=t5.blk.cell 5;have T:=Lib.hid (And.intro t5 (And.intro d5 (And.intro x0 (And.intro x1 (And.intro x2 (And.intro x3 (And.intro x4 x5)))))));clear t0 t1 t2 t3 t4 t5 e0 e1 e2 e3 e4 e5 d0 d1 d2 d3 d4 d5 x0 x1 x2 x3 x4 x5 s3 sE dE;go_wp2_with fail;obtain⟨t5,d5,x0,x1,x2,x3,x4,x5⟩:=T.out;generalize (World.setCell _ ⟨p,5,none⟩ _)=wz at*;refine bodyPost_ret (v:=.tuple #[runv ⟨Ae,s.ev.length,ce,Al,s.lg.length,cl,Ai,ni,ci,Am,s.m.length,cm,Ap,s.pk.length,cp,As,ns,cs⟩,.int .u16 0]) (by simp [results,Tryz.results8,go_sem,x0,x1,x2,x3,x4,x5]) rfl ?_;refine⟨⟨Ae,s.ev.length,ce,Al,s.lg.length,cl,Ai,ni,ci,Am,s.m.length,cm,Ap,s.pk.length,cp,As,ns,cs⟩,a,s,ab,L,rfl,HM.out,rfl,rfl,HNS.out,?_,d5⟩
   have u:=t5.drop;exact Sep.cons (fun _ h=>Sep.cons (fun _ h=>Sep.cons (fun _ h=>Sep.drop h) h) h) u
end
section
variable {cf:Cf} {N b k:Nat} {T:List Th} {s:Wst} {ab:Abs} {L:List Int}
theorem Jn.once (j:Jn cf N b T s ab L):(s.lg.map keyA).Nodup:=by
 have h:=congrArg (List.map fun(x:Int×Int×Int×Int)=>((x.1,x.2.1):Nm)) j.lg;rw [List.map_map,List.map_map] at h;have e:s.lg.map keyA=ab.log.map fun l=>((l.th,l.seq):Nm):=h;rw [e,List.Nodup,List.pairwise_map];exact j.inv.lv.l1.imp fun {a b} h e=>h (by simpa using e)
theorem Jn.told (j:Jn cf N b T s ab L) {v:Ev} (hv:v∈s.ev) (h2:v.kind=2):∃ x∈s.lg,x.th=v.th∧x.seq=v.seq∧x.rc=v.rc∧x.rv=v.rv:=by
 obtain⟨r,hr,e⟩:=j.ev v hv h2;have hm:lg4 r∈s.lg.map key4:=by rw [j.lg];exact List.mem_map.2 ⟨r,j.inv.rets r hr,rfl⟩
 obtain⟨x,hx,ex⟩:=List.mem_map.1 hm;rw [e] at ex;unfold key4 at ex;simp only [Prod.mk.injEq] at ex;exact⟨x,hx,ex.1,ex.2.1,ex.2.2.1,ex.2.2.2⟩
theorem Jn.spans (j:Jn cf N b T s ab L):∀ p∈spansTo s.ev k,0≤p.tw→((p.th,p.seq):Nm)∈s.lg.map keyA:=by
 intro p hp h0;obtain⟨v,hv,h2,h3,h4⟩:=spans_told hp h0;obtain⟨x,hx,e1,e2,-⟩:=j.told hv h2;exact List.mem_map.2 ⟨x,hx,by unfold keyA;rw [e1,e2,h3,h4]⟩
end
theorem callE_ok:∀ e∈knownEs,EtOk e:=by
 intro e he;unfold knownEs at he
 rcases List.mem_append.1 he with h | h
 ·simp only [List.mem_cons,List.not_mem_nil,or_false] at h
  rcases h with rfl | rfl
  ·exact⟨⟨by simp,by simp,by simp,by simp⟩,by simp⟩
  ·exact⟨⟨by simp,by simp,by simp,by simp⟩,by simp⟩
 ·exact rds_ok 2 120 e h
section
variable {B:Nat} {w:World} {L:List Res}
set_option maxHeartbeats 4000000 in
theorem known_s (hB:B≤w.heap.size) (h:At B w L):Calls Tryz.prog 4 #[] w fun e w'=>e=.returned (.bool true)∧At B w' L∧Below B w w':=by
 obtain⟨i0,hi0,hz0,hz1,hz2⟩:=info_parts info_et;have HB:=Lib.hid (show ∀ W,Below B w W→B≤W.heap.size from fun _ b=>Nat.le_trans hB b.size);have s1:=h.alloc hB #[Iv 0,Iv 1] 3;have b1:=(Below.refl B w).alloc hB (.cells #[Iv 0,Iv 1] 3);have s2:=s1.alloc (HB.out _ b1) #[Ub 1,Iw 7,Ub 2,Iw 0] 45;have b2:=b1.alloc (HB.out _ b1) (.cells #[Ub 1,Iw 7,Ub 2,Iw 0] 45);have s3:=s2.ox [1];rw [World.size_alloc] at s3;have hcal:=Calls_s (HB.out _ b2) s3;clear h s1 s2 s3 b1;go_enter Tryz.func4,Tryz.ntmps4;go_wp2_with fail;refine hcal.mono ?_;rintro e w3 ⟨A1,c1,rfl,s3,b3⟩;replace b3:=b2.trans b3;clear hcal b2;have hrd:=Rounds_s (HB.out _ b3) 2 120 (by omega) (by omega) (by omega) (by omega) s3;go_wp2_with fail;refine hrd.mono ?_;rintro e w4 ⟨A2,c2,rfl,s4,b4⟩;replace b4:=b3.trans b4;clear hrd b3 s3;have s5:=s4.ox [1];have hs:Sl w4 60 5 A2 (120*2) c2 ((rds 2 120).flatMap etIn) (fun x=>B≤x):=s4.get
 have hone:∀ u∈(rds 2 120).flatMap etIn,u.oneCell'=true:=fun u hu=>by
  obtain⟨x,_,hx⟩:=List.mem_flatMap.1 hu;exact one_et x u hx
 have hB4:=HB.out _ b4;clear s4;go_wp2_with (at_builtin;refine wpList_append_at rfl (.tmp 9) (.tmp 10) _ rfl 60 i0 _ 5 32 Tryz.underlying23 hi0 hz0 hz1 hz2 rfl (by omega) rfl s5 hB4 _ A2 (120*2) c2 _ rfl hs.rd hone (by simp [maxLen]) (by omega) ?_;intro A6 c6 w6 s6 b6)
 have s7:At B w6 (entR A6 242 c6 knownEs::entR A2 (120*2) c2 (rds 2 120)::L):=by
  unfold entR knownEs;rw [List.flatMap_append];exact s6
 have b7:=b4.trans b6;have hrun:=Run_f (cf:=⟨1,2,1,1,1,false⟩) (N:=2) (n:=242) (HB.out _ b7) ⟨by simp,by simp,by simp,by simp,by simp⟩ rfl (by omega) callE_ok s7;clear s5 s6 s7 hs hone b4 b6 hB4;refine hrun.mono ?_;rintro e w8 ⟨x,a,s,ab,L8,rfl,hm,hx1,hx2,hx3,s8,b8⟩;clear hrun;have b9:=b7.trans b8;have hkl:knownEs.length=242:=by unfold knownEs;rw [List.length_append,rds_len];rfl
 have hr:=hm.r;rw [← hkl,List.take_length] at hr;obtain⟨hev,hnl⟩:=known_end rfl rfl hr;obtain⟨h4,sa,sb,hsp,ha,hb⟩:=known_spans hev;rw [h4,hsp] at hx3;rw [hnl] at hx2;unfold runW at s8;rw [h4,hsp] at s8;obtain⟨Ae,ne,ce,Al,nl,cl,Ai,ni,ci,Am,nm,cm,Ap,np,cp,As,ns,cs⟩:=x;simp only [List.length_cons,List.length_nil] at hx1 hx2 hx3 s8;obtain rfl:ns=2:=hx3;subst hx2;clear hx1 hev hnl h4 hsp hr hm hkl b7;have hB9:=HB.out _ b9;have s9:=s8.alloc hB9 #[.slice Ae ne ce,.slice Al 2 cl,.slice Ai ni ci,.slice Am nm cm,.slice Ap np cp,.slice As 2 cs] 40;have b10:=b9.alloc hB9 (.cells #[.slice Ae ne ce,.slice Al 2 cl,.slice Ai ni ci,.slice Am nm cm,.slice Ap np cp,.slice As 2 cs] 40);have k1:=s9.blk.cell 1;have k5:=s9.blk.cell 5;have hs:Sl _ 56 8 As 2 cs ([sa,sb].flatMap spIn) (fun x=>B≤x):=s9.drop.get;obtain⟨g,o,rfl,-,-,-,-,-,-,-,e7⟩:=sp_cells (m:=0) hs.rd rfl;obtain⟨g',o',hA,-,-,-,-,-,-,-,f7⟩:=sp_cells (m:=1) hs.rd rfl
 simp only [Option.some.injEq,Addr.mk.injEq,and_true] at hA;obtain⟨rfl,rfl⟩:=hA;rw [ha,Nat.zero_mul,Nat.add_zero] at e7;rw [hb,Nat.one_mul] at f7;have S:=Lib.hid (And.intro s9 b10);clear hs s9 b10 s8 b9 ha hb;go_wp2_with fail;go_ret;obtain⟨s9,b10⟩:=S.out;exact⟨rfl,s9.drop.drop.drop.drop.drop.drop,b10⟩
end
end Go.Proofs.YtadgbhjpgnlmoaaGreat
