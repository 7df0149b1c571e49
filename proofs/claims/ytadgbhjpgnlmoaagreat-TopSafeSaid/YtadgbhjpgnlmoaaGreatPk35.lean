/- TopSafe, a part of its proof; no conditions. -/
import Derived.Test.YtadgbhjpgnlmoaaGreatPk34
set_option linter.all false
namespace Go.Proofs.YtadgbhjpgnlmoaaGreat
open Go.RowKit Go.Rp Go.Sf
set_option maxRecDepth 100000
def key4 (x:Ap):Int×Int×Int×Int:=(x.th,x.seq,x.rc,x.rv)
def ownerOf (ow:List (Int×Value)) (a:Int):Int:=match getL a ow with | some (.int _ i)=>i | _=>0
def seqOf (T:List Tr) (i:Int):Int:=match T[i.toNat]? with | some x=>x.t.seq | none=>0
def k4 (ow:List (Int×Value)) (T:List Tr) (x:Sf.Item):Int×Int×Int×Int:=(ownerOf ow x.rc,seqOf T (ownerOf ow x.rc),unK x.res,unV x.res)
theorem info_lg:(Tryz.prog.info? 51).map (fun i=>(i.zero,i.size,i.bytes))=some (some (.agg #[Iv 0,Iv 0,Ub 0,Iw 0,Ub 0,Iw 0,Iv 0]),7,40):=by kernel_rfl
section
variable {B X g off n dc:Nat} {w:World} {L:List Res} {cf:Cf} {a:Ad} {s:Wst} {D:Option Addr} {bs:List Sf.Item}
theorem at_addr {t:TypeId} {cs:Array Value} {R:List Res} {A:Option Addr} {m c j:Nat} (hA:A=some ⟨g,off,none⟩) (hc:cs[j]? =some (.slice A m c)) (h:At B w (blkR X t cs::R)):w.cell? ⟨X,j,none⟩=some (.slice (some ⟨g,off,none⟩) m c):=by
 rw [← hA,←hc];exact h.blk.cell j
theorem at_sl {t:TypeId} {cs:Array Value} {R:List Res} {A:Option Addr} {m m' c j:Nat} (hc:cs[j]? =some (.slice A m c)) (hm:m=m') (h:At B w (blkR X t cs::R)):w.cell? ⟨X,j,none⟩=some (.slice A m' c):=by
 rw [← hm,←hc];exact h.blk.cell j
set_option maxHeartbeats 8000000 in
theorem done_s (hB:B≤w.heap.size) (hn:bs.length=n) (hn2:n<20) (hA:a.At=some ⟨g,off,none⟩) (hT:a.T.length≤1000) (hlg:s.lg.length≤100000) (hnb:IntKind.i64.wrap (s.nb+1)=s.nb+1)
  (ho:∀ x∈bs,∃ (i:Nat) (y:Tr),getL x.rc s.ow=some (Iv (i:Int))∧a.T[i]? =some y) (h:At B w (itR D n dc bs::wTop X cf a s L)):
  Calls Tryz.prog 110 #[Pz X,.slice D n dc] w fun e w'=>∃ (p:List Sf.Item) (es:List Ap) (Al:Option Addr) (cl:Nat),e=.returned (.tuple #[])∧p.Perm bs∧es.map key4=p.map (k4 s.ow a.T)∧At B w' (wTop X cf { a with Al:=Al,cl:=cl} { s with nb:=s.nb+1,lg:=s.lg++es} L)∧Below B w w':=by
 obtain⟨i0,hi0,hz0,hz1,hz2⟩:=info_parts info_ops;have HN:=Lib.hid hn;have HO:=Lib.hid ho;have HA:=Lib.hid hA;have HT:=Lib.hid hT;have HLG:=Lib.hid hlg;clear hn ho hA hT hlg;have v0:=h.ox [1];have k13:=v0.cv 13 (Iv s.nb);have f13:=v0.blk.frozen 13;obtain⟨v1,b1⟩:=bset hB v0 13 (Iv (s.nb+1));have hB1:=Nat.le_trans hB b1.size;have hsz:(w.setCell ⟨X,13,none⟩ (Iv (s.nb+1))).heap.size=w.heap.size:=by simp [World.setCell]
 clear h v0;go_enter Tryz.func110,Tryz.ntmps110;go_wp2_with (refine wpList_make_any _ rfl (.tmp 20) (.tmp 20) 81 rfl 45 i0 _ 2 8 Tryz.underlying81 hi0 hz0 hz1 hz2 rfl (by omega) .i64 .i64 n rfl rfl (by omega) (by omega) ?_;intro arr harr);have s1:=ops_new hB1 (by omega) v1 harr;rw [hsz] at s1;have b2:=b1.alloc hB1 (.cells arr 45);clear harr v1 b1 k13 f13 hsz hB1;generalize (w.setCell ⟨X,13,none⟩ (Iv (s.nb+1))).alloc (.cells arr 45)=w1 at*;generalize w.heap.size=q at s1 ⊢;have hf0:=fits_rep n
 go_loopg [24] n (fun gk vi wr=>∃ (m:Nat) (os:List (Int×Int)),m≤n∧vi=Iv (m:Int)∧n-m≤gk∧Fits os∧At B wr (opsO (some ⟨q,0,none⟩) n n os::wTop X cf a { s with nb:=s.nb+1} (itR D n dc bs::L))∧Below B w wr)
 case atStart=>
  have s2:=s1.ox [0,0,1,1,1,1,1,1,1,0];exact⟨0,_,by omega,rfl,by omega,hf0,s2,b2⟩
 case round=>
  clear s1 b2 hf0;obtain⟨m,os,hm,rfl,hgk,hf2,s2,b2⟩:=hrel;have hBr:=Nat.le_trans hB b2.size
  by_cases hlt:m<n
  ·have hs:Sl wr 144 3 D n dc (itC bs) (fun x=>B≤x):=(s2.ord [9]).get;obtain⟨g2,off2,rfl,_,_,_,hc⟩:=hs.at (by omega);have hmo:m<bs.length:=by rw [HN.out];exact hlt
   obtain⟨y0,y1,y2⟩:=itC_at (List.getElem?_eq_getElem hmo);have y0:=hc _ _ y0;have y1:=hc _ _ y1;have y2:=hc _ _ y2;rw [← Nat.add_assoc] at y1 y2;generalize bs[m]=it at y0 y1 y2;clear hs hc;have hltz:(m:Int)<(n:Int):=by omega
   have s3:=(s2.alloc hBr #[Iv it.rc,Iv it.word,Iv it.res] 144).drop;have b3:=b2.alloc hBr (.cells #[Iv it.rc,Iv it.word,Iv it.res] 144);have hB3:=Nat.le_trans hB b3.size;go_wp2_with fail;refine(ofOp_any _ it.word).mono ?_;rintro e w3 ⟨rfl,b4⟩;have s4:=s3.keep b4;have hB4:=Nat.le_trans hB3 b4.size;obtain⟨⟨u5,z5⟩,f5,⟨u6,z6⟩,f6,ts5,hF5,s6,b6⟩:=op_both hB4 hlt hf2 s4 _ _ (un_in it.word);have b7:=(b3.trans (b4.mono hB3)).trans b6;generalize unK it.word=xk at*;generalize unV it.word=xv at*;generalize decide (1≤it.word∧it.word≤1099511627776)=bb at*;clear y0 y1 y2 s2 s3 s4 b2 b3 b4 b6;go_wp2;go_roundg (gk-1)
   case rel=>exact⟨m+1,ts5,by omega,by go_num,by omega,hF5,s6,b7⟩
   case measure=>omega
  ·have hltz:¬ (m:Int)<(n:Int):=by omega
   have hopl:os.length=n:=by
    have hs:Sl wr 45 2 (some ⟨q,0,none⟩) n n (os.flatMap resIn) (fun x=>B≤x):=s2.get;have:=hs.1;rw [res_len] at this;omega
   have k0:=(s2.ord [1]).cv 0 (Ub cf.ob);have hor:=order_s (g:=cf.ob) hBr hopl hn2 s2;have HOP:=Lib.hid hopl;clear hf2 hopl hgk hm hlt;go_wp2_with fail;refine hor.mono ?_;rintro e w4 ⟨l,ys,rfl,hp,s4,b4⟩;have HP:=Lib.hid hp;have b5:=b2.trans b4;clear hor k0 hltz s2 b2 b4 hp hBr;go_wp2_with fail
   go_loopg [47] n (fun gk vi wr=>∃ (m:Nat) (es:List Ap) (Al:Option Addr) (cl:Nat),m≤n∧vi=Iv (m:Int)∧n-m≤gk∧Hid (es.length=m∧es.map key4=(ys.take m).map (fun k=>k4 s.ow a.T (bs.getD k ⟨0,0,0⟩)))∧At B wr (plR (some ⟨l,0,none⟩) n n ys::opsO (some ⟨q,0,none⟩) n n os::wTop X cf { a with Al:=Al,cl:=cl} { s with nb:=s.nb+1,lg:=s.lg++es} (itR D n dc bs::L))∧Below B w wr)
   case atStart=>
    refine⟨0,[],a.Al,a.cl,by omega,rfl,by omega,Lib.hid (by simp),?_,b5⟩;simp only [List.append_nil];exact s4
   case round=>
    clear s4 b5;obtain⟨m,es,Al,cl,hm,rfl,hgk,HE,s2,b2⟩:=hrel;have hBr:=Nat.le_trans hB b2.size;have hyl:ys.length=n:=by rw [HP.out.length_eq,List.length_range]
    by_cases hlt:m<n
    ·obtain⟨y,hy⟩:∃ y,ys[m]? =some y:=⟨_,List.getElem?_eq_getElem (by omega)⟩;have hyn:y<n:=List.mem_range.1 (HP.out.mem_iff.1 (List.mem_of_getElem? hy));obtain⟨it,hit⟩:∃ it,bs[y]? =some it:=⟨_,List.getElem?_eq_getElem (by rw [HN.out];exact hyn)⟩;obtain⟨i,tr,hg1,hg2⟩:=HO.out it (List.mem_of_getElem? hit);have hil:(i:Int)<(a.T.length:Int):=by have:=(List.getElem?_eq_some_iff.1 hg2).1;omega
     have hs:Sl wr 144 3 D n dc (itC bs) (fun x=>B≤x):=(s2.ord [10]).get;obtain⟨g2,off2,rfl,_,_,_,hc⟩:=hs.at (by omega);obtain⟨y0,-,y2⟩:=itC_at hit;have y0:=hc _ _ y0;have y2:=hc _ _ y2;rw [← Nat.add_assoc] at y2
     have hpy:wr.cell? ⟨l,m,none⟩=some (Iv (y:Int)):=by
      have:=(own_cell hBr (by decide) s2 (show (pls ys)[m]? =some (Iv (y:Int)) by simp [pls,hy])).1
      simpa using this
     clear hs hc;have hltz:(m:Int)<(n:Int):=by omega
     have hynz:(y:Int)<(n:Int):=by omega
     obtain⟨p1,p2⟩:=res_at os y (by rw [HOP.out];exact hyn);obtain⟨ok,hok⟩:∃ x,x=(os[y]'(by rw [HOP.out];exact hyn)).1:=⟨_,rfl⟩;obtain⟨ov,hov⟩:∃ x,x=(os[y]'(by rw [HOP.out];exact hyn)).2:=⟨_,rfl⟩;rw [← hok] at p1;rw [← hov] at p2;have HP1:=Lib.hid p1;have HP2:=Lib.hid p2;clear hok hov p1 p2;have hor:=ofRes_any wr it.res;have hk4:Hid (k4 s.ow a.T (bs.getD y ⟨0,0,0⟩)=((i:Int),tr.t.seq,unK it.res,unV it.res)):=Lib.hid (by simp [k4,ownerOf,seqOf,hit,hg1,hg2]);generalize unK it.res=rk at*;generalize unV it.res=rv at*;generalize decide (1≤it.res∧it.res≤1099511627776)=bb at*;go_wp2_with fail;refine hor.mono ?_;rintro e w5 ⟨rfl,b5⟩;have s5:=s2.keep b5;have b6:=b2.trans (b5.mono hBr);have hB5:=Nat.le_trans hB b6.size;have s6:=s5.alloc hB5 #[Ub rk,Iw rv] 47;have b7:=b6.alloc hB5 (.cells #[Ub rk,Iw rv] 47);have HPY:=Lib.hid hpy;have HHK:=Lib.hid (And.intro hyl (And.intro hm (And.intro hgk (And.intro hit hg1))))
     clear s2 b2 s5 b5 b6 y0 y2 hor hpy hyl hm hgk;go_wp2_with fail;generalize w5.alloc (.cells #[Ub rk,Iw rv] 47)=W at*;generalize w5.heap.size=b9 at*;have s6:=s6.drew;have b7:=b7.drew;have hB7:=Nat.le_trans hB b7.size;have m9:W.drew.cell? ⟨X,9,none⟩=some (.map (some a.r)):=(s6.ord [3]).blk.cell 9;have hlk:=run_map_find mapII intI (s6.ord [7]).map it.rc (z:=Iv 0) (by kernel_rfl) false;rw [HHK.out.2.2.2.2] at hlk;simp only [Option.getD_some,Bool.false_eq_true,if_false] at hlk;have hs:Sl W.drew 144 3 (some ⟨g2,off2,none⟩) n dc (itC bs) (fun x=>B≤x):=(s6.ord [11]).get
     have y0:W.drew.cell? ⟨g2,off2+y*3,none⟩=some (Iv it.rc):=by
      obtain⟨g',off',e,-,-,-,hc⟩:=hs.at (by omega);simp only [Option.some.injEq,Addr.mk.injEq,and_true] at e;obtain⟨rfl,rfl⟩:=e;exact hc _ _ (itC_at hit).1
     clear hs;refine wp_region_held_drew (S:=fun w'=>w'.cell? ⟨X,9,none⟩=some (.map (some a.r))∧w'.cell? ⟨g2,off2+y*3,none⟩=some (Iv it.rc)) (by kernel_rfl) ⟨m9,y0⟩ fun hHeld=>?_;refine Rp.tk 0 hHeld ?_;refine Rp.tk 1 hHeld ?_;refine Rp.tk 2 hHeld ?_;refine Rp.tk 3 hHeld ?_;refine Rp.tk 4 hHeld ?_;refine Rp.tk 5 hHeld ?_;refine Rp.tk 6 hHeld ?_;refine Rp.tk 7 hHeld ?_;refine Rp.tk 8 hHeld ?_;refine Rp.rd 9 fun K hK=>?_;go_simp;refine gon hK ⟨m9,y0⟩ fun hHeld=>?_;clear hK K;refine Rp.tk 10 hHeld ?_;refine wpAnyH_done (by kernel_rfl) ?_ _;clear hHeld hlk m9 y0;go_wp2_with fail;generalize W.drew=W at*;obtain⟨i1,hi1,hy1,hy2,hy3⟩:=info_parts info_lg;have HLE:=Lib.hid (show s.lg.length+es.length+1≤200000 by have:=HLG.out;have:=HE.out.1;have:=HHK.out.2.1;omega);have n8:W.cell? ⟨X,8,none⟩=some (.slice (some ⟨g,off,none⟩) a.T.length a.ct):=by rw [← HA.out];exact(s6.ord [3]).blk.cell 8
     have s6:At B W (blkR b9 47 #[Ub rk,Iw rv]::plR (some ⟨l,0,none⟩) n n ys::opsO (some ⟨q,0,none⟩) n n os::blkR X 90 (wc cf { a with Al:=Al,cl:=cl} { s with nb:=s.nb+1,lg:=s.lg++es})::trR (some ⟨g,off,none⟩) a.T.length a.ct a.T::memR a.p a.size s.m::objR a.o cf.plain::mapR .i64 a.r s.ow::evR a.Ae s.ev.length a.ce s.ev::apR Al (s.lg++es).length cl (s.lg++es)::pkR a.Ap s.pk.length a.cp s.pk::itR (some ⟨g2,off2,none⟩) n dc bs::L):=by rw [← HA.out];exact s6
     rw [List.length_append] at s6;have n3:=(tr_at hg2 rfl (s6.ord [4])).2.2.2.1;have nk:=(own_cell hB7 (by decide) (s6.ord [2]) HP1.out).1;have nv:=(own_cell hB7 (by decide) (s6.ord [2]) HP2.out).1;simp only [Nat.zero_add] at nk nv;have n0:=s6.blk.cell 0;have n1:=s6.blk.cell 1;have n13:=(s6.ord [3]).blk.cell 13;have t1:=Sep.drew (Sep.alloc s6 hB7 #[Iv (i:Int),Iv tr.t.seq,Ub ok,Iw ov,Ub rk,Iw rv,Iv (s.nb+1)] 51);have d1:=(b7.alloc hB7 (.cells #[Iv (i:Int),Iv tr.t.seq,Ub ok,Iw ov,Ub rk,Iw rv,Iv (s.nb+1)] 51)).drew;have hBL:=Nat.le_trans hB d1.size;have t2:=t1.ox [10];have hS1:=And.intro (at_addr (j:=8) HA.out rfl (t1.ord [4])) (And.intro (tr_at hg2 rfl (t1.ord [5])).2.2.2.1 (And.intro (own_cell hBL (by decide) (t1.ord [3]) HP1.out).1 (And.intro (own_cell hBL (by decide) (t1.ord [3]) HP2.out).1 (And.intro ((t1.ord [1]).blk.cell 0) (And.intro ((t1.ord [1]).blk.cell 1) ((t1.ord [4]).blk.cell 13))))))
     simp only [Nat.zero_add] at hS1;have n7:W.drew.cell? ⟨X,11,none⟩=some (.slice Al (s.lg.length+es.length) cl):=by rw [← List.length_append];exact(s6.drew.ord [3]).blk.cell 11
     clear s6 b7;refine wp_region_held_drew (S:=fun w'=>w'.cell? ⟨X,8,none⟩=some (.slice (some ⟨g,off,none⟩) a.T.length a.ct)∧w'.cell? ⟨g,off+i*13+3,none⟩=some (Iv tr.t.seq)∧w'.cell? ⟨q,y*2,none⟩=some (Ub ok)∧w'.cell? ⟨q,y*2+1,none⟩=some (Iw ov)∧w'.cell? ⟨b9,0,none⟩=some (Ub rk)∧w'.cell? ⟨b9,1,none⟩=some (Iw rv)∧w'.cell? ⟨X,13,none⟩=some (Iv (s.nb+1))) (by kernel_rfl) ⟨n8,n3,nk,nv,n0,n1,n13⟩ fun hHeld=>?_;refine Rp.tk 0 hHeld ?_;refine Rp.tk 1 hHeld ?_;refine Rp.tk 2 hHeld ?_;refine Rp.tk 3 hHeld ?_;refine Rp.tk 5 hHeld ?_;refine Rp.tk 6 hHeld ?_;refine Rp.tk 7 hHeld ?_;refine Rp.tk 8 hHeld ?_;refine Rp.tk 9 hHeld ?_;refine Rp.tk 10 hHeld ?_;refine Rp.tk 11 hHeld ?_;refine Rp.tk 12 hHeld ?_;refine Rp.tk 13 hHeld ?_;refine Rp.tk 14 hHeld ?_;refine Rp.tk 15 hHeld ?_;refine Rp.tk 16 hHeld ?_;refine Rp.tk 17 hHeld ?_;refine Rp.tk 18 hHeld ?_;refine Rp.tk 19 hHeld ?_;refine Rp.tk 20 hHeld ?_;refine Rp.tk 21 hHeld ?_
     refine Rp.tk 22 hHeld ?_;refine Rp.tk 23 hHeld ?_;refine wpAnyH_ready (rs:=[4,24]) (by kernel_rfl) (by simp) (AllReadyH.cons rfl (fun K hK=>?_) (AllReadyH.cons rfl (fun K hK=>?_) AllReadyH.nil))
     ·go_simp;refine gon hK hHeld fun hHeld=>?_;clear hK K;refine Rp.rd 24 fun K hK=>?_;go_simp;refine gon hK hS1 fun hHeld=>?_;clear hK K;refine Rp.rd 25 fun K hK=>?_;refine step_append_at rfl (.tmp 74) (.tmp 94) _ rfl 51 i1 _ 7 40 Tryz.underlying34 hi1 hy1 hy2 hy3 rfl (by omega) rfl t2 hBL (· =W.heap.size) (some ⟨W.heap.size,0,none⟩) 1 1 (apIn ⟨(i:Int),tr.t.seq,ok,ov,rk,rv,s.nb+1⟩) rfl (Rd.of_blk (R:=(· =W.heap.size)) t1.blk rfl 1 rfl) (by simp [apIn,Value.oneCell']) (by have:=HLE.out;simp only [maxLen];omega) (by have:=HLE.out;omega) ?_;intro A9 c9 w9 s9 d9;replace d9:=d1.trans d9;have hB9:=Nat.le_trans hB d9.size;have o9:=s9.ox [5];have i8:=at_addr (j:=8) HA.out rfl o9;have i13:=o9.blk.cell 13;have i11:=o9.blk.cell 11;have f11:=o9.blk.frozen 11;have hS9:=And.intro i8 (And.intro (tr_at hg2 rfl (s9.ord [6])).2.2.2.1 (And.intro (own_cell hB9 (by decide) (s9.ord [4]) HP1.out).1 (And.intro (own_cell hB9 (by decide) (s9.ord [4]) HP2.out).1 (And.intro ((s9.ord [2]).blk.cell 0) (And.intro ((s9.ord [2]).blk.cell 1) i13)))))
      simp only [Nat.zero_add] at hS9;obtain⟨s10,e10⟩:=bset hB9 o9 11 (.slice A9 (s.lg.length+es.length+1) c9);have d10:=d9.trans e10;have hB10:=Nat.le_trans hB d10.size;have hS10:=And.intro (at_addr (j:=8) HA.out rfl s10) (And.intro (tr_at hg2 rfl (s10.ord [6])).2.2.2.1 (And.intro (own_cell hB10 (by decide) (s10.ord [5]) HP1.out).1 (And.intro (own_cell hB10 (by decide) (s10.ord [5]) HP2.out).1 (And.intro ((s10.ord [3]).blk.cell 0) (And.intro ((s10.ord [3]).blk.cell 1) (s10.blk.cell 13))))));simp only [Nat.zero_add] at hS10;refine gon hK hS9 fun hHeld=>?_;clear hK K;refine Rp.tk 26 hHeld ?_;refine Rp.tk 27 hHeld ?_;have FZ:=Lib.hid (And.intro s10 d10);clear s10 d10 o9 s9 d9 e10;refine Rp.rd 28 fun K hK=>?_;go_simp;refine gon hK hS10 fun hHeld=>?_;clear hK K;refine wpAnyH_done (by kernel_rfl) ?_ _;clear hHeld hS10 hS9;obtain⟨s10,d10⟩:=FZ.out;go_wp2_with fail;have z0:=Sep.drop (s10.ord [2])
      simp only [ordL,List.getElem?_cons_zero,List.getElem?_cons_succ,List.eraseIdx_cons_succ,List.eraseIdx_cons_zero] at z0;replace z0:=Sep.drop (z0.ord [2]);simp only [ordL,List.getElem?_cons_zero,List.getElem?_cons_succ,List.eraseIdx_cons_succ,List.eraseIdx_cons_zero] at z0;have z1:=z0.ox [2,2,0,1,1,1,1,1,0];go_roundg (gk-1)
      case measure=>have:=HHK.out.2.2.1;omega
      case rel=>
       refine⟨m+1,es++[⟨(i:Int),tr.t.seq,ok,ov,rk,rv,s.nb+1⟩],A9,c9,by omega,by go_num,by have:=HHK.out.2.2.1;omega,Lib.hid ⟨by simp [HE.out.1],?_⟩,?_,d10⟩
       ·rw [List.map_append,HE.out.2,List.take_add_one,hy,List.map_append];simp only [Option.toList_some,List.map_cons,List.map_nil,hk4.out,key4]
       ·rw [← HA.out] at z1;simp only [wTop,wc,apR,List.length_append,List.length_cons,List.length_nil,Nat.zero_add,←Nat.add_assoc,←List.append_assoc,List.flatMap_append,List.flatMap_cons,List.flatMap_nil,List.append_nil] at z1 ⊢;exact z1
     ·go_simp;refine gon hK hS1 fun hHeld=>?_;clear hK K;refine Rp.rd 4 fun K hK=>?_;have n7:=at_sl (j:=11) rfl List.length_append (t1.ord [4]);go_simp;refine gon hK hS1 fun hHeld=>?_;clear hK K;refine Rp.rd 25 fun K hK=>?_;refine step_append_at rfl (.tmp 74) (.tmp 94) _ rfl 51 i1 _ 7 40 Tryz.underlying34 hi1 hy1 hy2 hy3 rfl (by omega) rfl t2 hBL (· =W.heap.size) (some ⟨W.heap.size,0,none⟩) 1 1 (apIn ⟨(i:Int),tr.t.seq,ok,ov,rk,rv,s.nb+1⟩) rfl (Rd.of_blk (R:=(· =W.heap.size)) t1.blk rfl 1 rfl) (by simp [apIn,Value.oneCell']) (by have:=HLE.out;simp only [maxLen];omega) (by have:=HLE.out;omega) ?_;intro A9 c9 w9 s9 d9;replace d9:=d1.trans d9;have hB9:=Nat.le_trans hB d9.size;have o9:=s9.ox [5];have i8:=at_addr (j:=8) HA.out rfl o9;have i13:=o9.blk.cell 13;have i11:=o9.blk.cell 11;have f11:=o9.blk.frozen 11;have hS9:=And.intro i8 (And.intro (tr_at hg2 rfl (s9.ord [6])).2.2.2.1 (And.intro (own_cell hB9 (by decide) (s9.ord [4]) HP1.out).1 (And.intro (own_cell hB9 (by decide) (s9.ord [4]) HP2.out).1 (And.intro ((s9.ord [2]).blk.cell 0) (And.intro ((s9.ord [2]).blk.cell 1) i13)))))
      simp only [Nat.zero_add] at hS9;obtain⟨s10,e10⟩:=bset hB9 o9 11 (.slice A9 (s.lg.length+es.length+1) c9);have d10:=d9.trans e10;have hB10:=Nat.le_trans hB d10.size;have hS10:=And.intro (at_addr (j:=8) HA.out rfl s10) (And.intro (tr_at hg2 rfl (s10.ord [6])).2.2.2.1 (And.intro (own_cell hB10 (by decide) (s10.ord [5]) HP1.out).1 (And.intro (own_cell hB10 (by decide) (s10.ord [5]) HP2.out).1 (And.intro ((s10.ord [3]).blk.cell 0) (And.intro ((s10.ord [3]).blk.cell 1) (s10.blk.cell 13))))));simp only [Nat.zero_add] at hS10;refine gon hK hS9 fun hHeld=>?_;clear hK K;refine Rp.tk 26 hHeld ?_;refine Rp.tk 27 hHeld ?_;have FZ:=Lib.hid (And.intro s10 d10);clear s10 d10 o9 s9 d9 e10;refine Rp.rd 28 fun K hK=>?_;go_simp;refine gon hK hS10 fun hHeld=>?_;clear hK K;refine wpAnyH_done (by kernel_rfl) ?_ _;clear hHeld hS10 hS9;obtain⟨s10,d10⟩:=FZ.out;go_wp2_with fail;have z0:=Sep.drop (s10.ord [2])
      simp only [ordL,List.getElem?_cons_zero,List.getElem?_cons_succ,List.eraseIdx_cons_succ,List.eraseIdx_cons_zero] at z0;replace z0:=Sep.drop (z0.ord [2]);simp only [ordL,List.getElem?_cons_zero,List.getElem?_cons_succ,List.eraseIdx_cons_succ,List.eraseIdx_cons_zero] at z0;have z1:=z0.ox [2,2,0,1,1,1,1,1,0];go_roundg (gk-1)
      case measure=>have:=HHK.out.2.2.1;omega
      case rel=>
       refine⟨m+1,es++[⟨(i:Int),tr.t.seq,ok,ov,rk,rv,s.nb+1⟩],A9,c9,by omega,by go_num,by have:=HHK.out.2.2.1;omega,Lib.hid ⟨by simp [HE.out.1],?_⟩,?_,d10⟩
       ·rw [List.map_append,HE.out.2,List.take_add_one,hy,List.map_append];simp only [Option.toList_some,List.map_cons,List.map_nil,hk4.out,key4]
       ·rw [← HA.out] at z1;simp only [wTop,wc,apR,List.length_append,List.length_cons,List.length_nil,Nat.zero_add,←Nat.add_assoc,←List.append_assoc,List.flatMap_append,List.flatMap_cons,List.flatMap_nil,List.append_nil] at z1 ⊢;exact z1
    ·have hltz:¬ (m:Int)<(n:Int):=by omega
     obtain rfl:m=n:=by omega
     go_wp2_with fail
     go_end0
     have v:=Sep.drop (Sep.drop s2);have v:=v.ox [8];replace v:=Sep.drop v;refine⟨rfl,ys.map (fun k=>bs.getD k ⟨0,0,0⟩),?_,es,?_,⟨Al,cl,v⟩,b2⟩
     ·refine(HP.out.map _).trans ?_
      have:(List.range m).map (fun k=>bs.getD k ⟨0,0,0⟩)=bs:=by
       apply List.ext_getElem
       ·simp [HN.out]
       ·intro i h1 h2;simp [h2]
      rw [this]
     ·rw [HE.out.2,List.take_of_length_le (by omega),List.map_map]
      rfl
end
end Go.Proofs.YtadgbhjpgnlmoaaGreat
