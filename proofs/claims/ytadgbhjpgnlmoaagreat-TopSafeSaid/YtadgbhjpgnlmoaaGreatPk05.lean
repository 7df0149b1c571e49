/- TopSafe, a part of its proof; no conditions. -/
import Derived.RangeFuncNested
import Derived.RangeFuncBound
import Derived.RangeFuncCalls
import Derived.RangeFuncLeaves
import Derived.RangeFuncBox
import Derived.Shelf.Abstract
import Derived.Shelf.RegionOpen
import Derived.OwnWalkIn
import Derived.TacticsInMore
import Derived.LoopNIn
import Derived.LoopIn
import Derived.Stop.RegionWithIn
import Derived.Sort.QuietIn
import Derived.Sort.LoopGhostIn
import Derived.Test.YtadgbhjpgnlmoaaGreatPk04
set_option linter.all false
namespace Go.Proofs.YtadgbhjpgnlmoaaGreat.Skp
set_option maxRecDepth 100000
open Go.RowKit Go.Rp Go.Rp.Skp
def minG (s:Nat) (R:List Tw) (t:Tw) (m:Nat):Nat→Nat→Option Nat:=fun x j=>if x=s∧j<m then linkOf s (t::R) t.1 j else linkOf s (t::R) x j
theorem minG_step {s:Nat} {R:List Tw} {t:Tw} (h:Apart s (t::R)) {m:Nat} (hm:m<t.2.2):upd (minG s R t m) s m (nxt m R)=minG s R t (m+1):=by
 have e:=linkOf_at (A:=[]) (k:=m) h;rw [List.nil_append,if_pos hm] at e
 funext x j
 unfold upd minG
 by_cases hx:x=s
 ·by_cases hj:j=m
  ·rw [if_pos ⟨hx,hj⟩,if_pos ⟨hx,by omega⟩,hj,e]
  ·rw [if_neg (by simp [hj])]
   by_cases hlt:j<m
   ·rw [if_pos ⟨hx,hlt⟩,if_pos ⟨hx,by omega⟩]
   ·rw [if_neg (by simp [hlt]),if_neg (by simp;omega)]
 ·rw [if_neg (by simp [hx]),if_neg (by simp [hx]),if_neg (by simp [hx])]
theorem minG_full {s:Nat} {R:List Tw} {t:Tw} (h:Apart s (t::R)) {x k:Nat} (hx:x≠t.1):minG s R t t.2.2 x k=linkOf s R x k:=by
 rw [link_min h x hx];unfold minG
 by_cases e:x=s
 ·subst e;rw [if_pos rfl]
  by_cases hk:k<t.2.2
  ·rw [if_pos ⟨rfl,hk⟩,if_pos hk]
  ·rw [if_neg (by simp [hk]),if_neg hk]
 ·rw [if_neg (by simp [e]),if_neg e]
theorem Links.drop1 {w:World} {s many most:Nat} {t:Tw} {R:List Tw} {g g':Nat→Nat→Option Nat} {S:Nat→Prop} (h:Links w s many most (t::R) g S) (ha:Apart s (t::R)) (e:∀ x k,x≠t.1→g x k=g' x k):Links w s many most R g' S:=
 ⟨by rw [← skC_congr fun k _=>e s k fun e=>ha.ne (t:=t) (by simp) e.symm];exact h.hd,h.hs,fun u hu=>⟨by
  rw [← towC_congr fun k _=>e u.1 k (Apart.behind (A:=[]) ha u hu)];exact(h.tw u (by simp [hu])).1,(h.tw u (by simp [hu])).2⟩⟩
theorem SkT.tail {w w':World} {s m:Nat} {S U:Nat→Prop} {t:Tw} {R:List Tw} (h:SkT w s S m (t::R)) (hl:Links w' s R.length m R (linkOf s R) U):SkT w' s U m R:=
 ⟨hl,Apart.drop (A:=[]) h.apart,fun u hu=>h.high u (by simp [hu]),by have:=h.room;simp at this;omega,h.most,(List.pairwise_cons.1 h.sorted).2⟩
theorem min_empty {w:World} {s m:Nat} {S:Nat→Prop} (h:SkAt w s S m []):Calls Tryz.prog 278 #[Pz s] w fun e w'=>e=.returned (.tuple #[Iw 0,.bool false])∧w'=w:=by
 obtain⟨T,hT,h⟩:=h;obtain rfl:T=[]:=by simpa using hT
 have hlen:=len_any h.links;simp only [List.length_nil] at hlen;go_enter Tryz.func278,Tryz.ntmps278;go_wp2_with fail;refine hlen.mono ?_;rintro e w1 ⟨rfl,rfl⟩;go_wp2_with fail
 go_ret2
 exact⟨rfl,rfl⟩
theorem min_any {w:World} {s M:Nat} {S:Nat→Prop} {v:Int} {hh:Nat} {L:List It} (h:SkAt w s S M ((v,hh)::L)):Calls Tryz.prog 278 #[Pz s] w fun e w'=>e=.returned (.tuple #[Iw v,.bool true])∧SkAt w' s S M L∧Mod S w w':=by
 obtain⟨T,hT,h⟩:=h
 rcases T with _ | ⟨⟨tb,tv,th⟩,R⟩
 ·simp at hT
 ·simp only [List.map_cons,List.cons.injEq,Prod.mk.injEq] at hT;obtain⟨⟨rfl,rfl⟩,rfl⟩:=hT;have hlen:=len_any h.links;have hap:=h.apart;have h8:=h.high (tb,tv,th) (by simp);simp only at h8;have hn0:Node s ((tb,tv,th)::R) s:=.inl rfl;have c0:=(h.links.node hn0 (k:=0) (by omega)).1;rw [linkOf_head,nxt_cons,if_pos (by simp only;omega),np_some] at c0;have hv:=(h.links.val (t:=(tb,tv,th)) (by simp)).2;have hroom:R.length+1≤1000:=by have:=h.room;have:=h.most;simp at *;omega
  simp only at c0 hv;simp only [List.length_cons] at hlen;have H:=Lib.hid h;have HR:=Lib.hid hroom;obtain⟨N,hN⟩:∃ N,R.length=N:=⟨_,rfl⟩;rw [hN] at hlen;have HN:=Lib.hid hN;have h0:¬ ((N:Int)+1=0):=by omega
  clear hN h hroom;go_enter Tryz.func278,Tryz.ntmps278;go_wp2_with fail;refine hlen.mono ?_;rintro e w1 ⟨rfl,rfl⟩;go_wp2_with fail
  go_loopg [19] th (fun g k wr=>∃ m':Nat,m'+g=th∧k=Iv (m':Int)∧Links wr s (N+1) M ((tb,tv,th)::R) (minG s R (tb,tv,th) m') S∧Mod S w1 wr)
  case atStart=>
   refine⟨0,by omega,rfl,?_,Mod.refl _ _⟩;have:=H.out.links;rw [List.length_cons,HN.out] at this;exact this.congr fun x k _=>by unfold minG;rw [if_neg (by omega)]
  case round=>
   obtain⟨m,hm,rfl,hL,hmod⟩:=hrel
   by_cases hlt2:m<th
   ·have hm8:m<8:=by omega
    have hn1:Node s ((tb,tv,th)::R) s:=.inl rfl;have hn2:Node s ((tb,tv,th)::R) tb:=.inr ⟨(tb,tv,th),by simp,rfl⟩;have hne:tb≠s:=hap.ne (t:=(tb,tv,th)) (by simp);obtain⟨c1,f1⟩:=hL.node hn1 hm8;obtain⟨c2,f2⟩:=hL.node hn2 hm8
    have e2:minG s R (tb,tv,th) m tb m=nxt m R:=by
     have e:=linkOf_at (A:=[]) (k:=m) hap;rw [List.nil_append] at e;unfold minG;rw [if_neg (by simp [hne])]
     simpa [hlt2] using e
    rw [e2] at c2;obtain⟨y,hy⟩:∃ y,nxt m R=y:=⟨_,rfl⟩;rw [hy] at c2;have HY:=Lib.hid hy;have HL:=Lib.hid hL;have HM:=Lib.hid hm;have hmi:(m:Int)<8:=by omega
    clear hy hL hm hn1 hn2 e2;have c1':wr.drew.cell? ⟨s,2+m,none⟩=_:=c1;have f1':wr.drew.frozen? ⟨s,2+m,none⟩=false:=f1
    cases y with
    | none=>
     rw [np_none] at c2;have c2':wr.drew.cell? ⟨tb,2+m,none⟩=_:=c2;go_wp2_with fail
     go_region
     go_wp2_with fail;have hy:=HY.out;have hL:=HL.out;have hm:=HM.out;have hn1:Node s ((tb,tv,th)::R) s:=.inl rfl;have hs2:=minG_step (R:=R) hap hlt2;have hL2:=hL.set hn1 hm8 (none);rw [← hy,hs2] at hL2;have hq:=hL.nodeS hn1;go_roundg (gk-1)
     case measure=>omega
     case rel=>exact⟨m+1,by omega,by go_num,by rw [hy] at hL2;exact hL2.drew,(hmod.setCell (p:=⟨s,2+m,none⟩) (.inl hq) ((.pointer none))).drew⟩
    | some y=>
     rw [np_some] at c2;have c2':wr.drew.cell? ⟨tb,2+m,none⟩=_:=c2;go_wp2_with fail
     go_region
     go_wp2_with fail;have hy:=HY.out;have hL:=HL.out;have hm:=HM.out;have hn1:Node s ((tb,tv,th)::R) s:=.inl rfl;have hs2:=minG_step (R:=R) hap hlt2;have hL2:=hL.set hn1 hm8 ((some y));rw [← hy,hs2] at hL2;have hq:=hL.nodeS hn1;go_roundg (gk-1)
     case measure=>omega
     case rel=>exact⟨m+1,by omega,by go_num,by rw [hy] at hL2;exact hL2.drew,(hmod.setCell (p:=⟨s,2+m,none⟩) (.inl hq) ((Pz y))).drew⟩
   ·obtain rfl:m=th:=by omega
    obtain⟨g1,g2,g3⟩:=hL.sizes;have hv:=(hL.val (t:=(tb,tv,m)) (by simp)).1;have hne:tb≠s:=hap.ne (t:=(tb,tv,m)) (by simp);have hne2:¬ s=tb:=fun e=>hne e.symm;have hN1:N+1≤1000:=by have:=HR.out;rw [HN.out] at this;exact this
    have hL1:=(hL.drop1 (g':=linkOf s R) hap fun x k hx=>minG_full hap hx).setMany N;have hm2:=hmod.setCell (p:=⟨s,10,none⟩) (.inl hL.hs) (Iv (N:Int));have hw:IntKind.i64.wrap ((N:Int)+1-1)=(N:Int):=by rw [Int.add_sub_cancel];exact IntWalk.i64_in _ (by omega)
    simp only at hv;clear hL hm;go_wp2_with fail
    go_ret2
    have hl2:=H.out.tail (w':=wr.setCell ⟨s,10,none⟩ (Iv (N:Int))) (U:=S) (by rw [HN.out];exact hL1);exact⟨rfl,⟨R,rfl,hl2⟩,hm2⟩
open Go.RowKit Go.Rp Go.Rp.Skp Go.Shelf
attribute [local go_sem] Oper.semAt_some
def lev (q:Nat) (T:List Tw):List Tw:=T.filter fun t=>decide (q<t.2.2)
theorem lev_behind {q:Nat} {C:List Tw} (h:∀ t∈C,¬ q<t.2.2) (D:List Tw):lev q (D++C)=lev q D:=by
 unfold lev;rw [List.filter_append,(List.filter_eq_nil_iff (l:=C)).2 (by simpa using h),List.append_nil]
theorem lev_on {q:Nat} {t:Tw} (h:q<t.2.2) (R:List Tw):lev q (t::R)=t::lev q R:=by
 unfold lev;rw [List.filter_cons_of_pos (by simpa using h)]
def levAt (q s:Nat) (T:List Tw) (i:Nat):Tw:=(lev q T).getD i (s,0,0)
theorem levAt_lt {q s:Nat} {T:List Tw} {i:Nat} (h:i<(lev q T).length):levAt q s T i=(lev q T)[i]:=by
 unfold levAt;rw [List.getD_eq_getElem?_getD,List.getElem?_eq_getElem h]
 rfl
theorem levAt_cells {w:World} {s many m q:Nat} {T:List Tw} {g:Nat→Nat→Option Nat} {S:Nat→Prop} (h:Links w s many m T g S) (i:Nat):
  w.cell? ⟨(levAt q s T i).1,0,none⟩=some (Iw (levAt q s T i).2.1)∧w.cell? ⟨(levAt q s T i).1,1,none⟩=some (Iv ((levAt q s T i).2.2:Int)):=by
 unfold levAt;rw [List.getD_eq_getElem?_getD]
 rcases hx:(lev q T)[i]? with _ | t
 ·exact⟨h.hd.cell 0,h.hd.cell 1⟩
 ·exact h.val (List.mem_filter.1 (List.mem_of_getElem? hx)).1
theorem range_prefix {a b:Nat} (h:a≤b):List.range a <+: List.range b:=by
 obtain⟨d,rfl⟩:=Nat.le.dest h;rw [List.range_add];exact List.prefix_append _ _
def KeepsC (n₀ Bs Bn:Nat) (A B:World):Prop:=Below n₀ A B∧(∀ v,Boxed A Bs 131 v→Boxed B Bs 131 v)∧(∀ v,Boxed A Bn 3 v→Boxed B Bn 3 v)
theorem KeepsC.t {n₀ Bs Bn:Nat} {A B C:World} (h:KeepsC n₀ Bs Bn A B) (k:KeepsC n₀ Bs Bn B C):KeepsC n₀ Bs Bn A C:=⟨h.1.trans k.1,fun v hv=>k.2.1 v (h.2.1 v hv),fun v hv=>k.2.2 v (h.2.2 v hv)⟩
theorem boxed_put {B:Nat} {t:TypeId} {v:Value} {W:World} {l:Nat} {o:Obj} (o':Obj) (hv:Boxed W B t v) (h:W.heap[l]? =some o) (ho:o.isCells=false):Boxed (W.putObj l o') B t v:=
 hv.kept (grownBy_putObj' W l o') (fun e=>by
  obtain rfl:B=l:=by simpa using e
  rw [show W.heap[B]? =_ from hv] at h
  cases h;cases ho)
theorem KeepsC.b {n₀ Bs Bn:Nat} {w:World} (hn:n₀≤w.heap.size) (W:World) (l:Nat) (o o':Obj) (hl:w.heap.size≤l) (h:W.heap[l]? =some o) (ho:o.isCells=false) (hw:o.isWalk=false):KeepsC n₀ Bs Bn W (W.putObj l o'):=
 ⟨belowK_b hn W l o o' hl h ho hw,fun _ hv=>boxed_put o' hv h ho,fun _ hv=>boxed_put o' hv h ho⟩
theorem SkT.belowN {W W':World} {n₀ s m:Nat} {S:Nat→Prop} {T:List Tw} (h:SkT W s S m T) (hS:∀ b,S b→b<n₀) (hb:Below n₀ W W'):SkT W' s S m T:=
 ⟨h.links.mod (U:=fun b=>n₀≤b) ⟨hb.os,hb.tape,hb.output,hb.size,fun b _ hn=>hb.block b (by omega)⟩ (fun b hs=>by have:=hS b hs;omega),h.apart,h.high,h.room,h.most,h.sorted⟩
set_option maxRecDepth 100000 in
set_option maxHeartbeats 2000000 in
theorem level1_in (n:Nat) (hn:1≤n) (l Bs Bn n₀ s m q:Nat) (hq:q<8) (S:Nat→Prop) (hS:∀ b,S b→b<n₀) (T:List Tw) (J Jx:List Nat→World→Prop) (hJ:∀ s W nq,J s W→J s (W.drewN nq))
  (hY:∀ pre (i:Nat) W,J pre W→pre.length<(lev q T).length→YieldAt Fence.wide (n-1) Tryz.prog l #[Pz ((levAt q s T i).1)] W fun e W'=>
   (e=.returned (.bool true)∧J (pre++[i]) W'∧KeepsC n₀ Bs Bn W W')∨(e=.returned (.bool false)∧Jx (pre++[i]) W'))
  (W:World) (hBs:Boxed W Bs 131 (Pz s)) (hBn:Boxed W Bn 3 (Iv ((q:Int)+1))) (hT:SkT W s S m T) (h0:J [] W):
  CallsIn Fence.wide n Tryz.prog 258 #[.func (.yield l) #[] #[],Pz Bs,Pz Bn] W fun e W'=>(∃ v,e=.returned v)∧
   ((∃ ys,ys=List.range (lev q T).length∧J ys W')∨(∃ pre,pre <+: List.range (lev q T).length∧Jx pre W')):=by
 have hc1:=hBs.cell;have hc2:=hBn.cell;have hn0:Node s T s:=.inl rfl;have hcell:=(hT.links.node hn0 hq).1;rw [linkOf_head] at hcell;have hw:IntKind.i64.wrap ((q:Int)+1-1)=(q:Int):=by rw [Int.add_sub_cancel];exact IntWalk.i64_in _ (by omega)
 have hq8:(q:Int)<8:=by omega
 refine callsIn_of_wp Tryz.func258 rfl trivial ?_ rfl;simp only [Tryz.ntmps258,List.size_toArray,List.length_cons,List.length_nil,Nat.reduceAdd,Nat.reduceSub,Array.replicate_succ,Array.replicate_zero,List.push_toArray,List.append_toArray,List.nil_append,List.cons_append]
 gi_wp2
 gi_quiet (fail)
 gi_wp2
 gi_loopg [4] T.length (fun g v wr=>∃ D R:List Tw,T=D++R∧R.length=g∧v=np (nxt q R)∧J (List.range (lev q D).length) wr∧Boxed wr Bs 131 (Pz s)∧Boxed wr Bn 3 (Iv ((q:Int)+1))∧SkT wr s S m T)
 case atStart=>exact⟨[],T,rfl,rfl,rfl,hJ _ _ _ h0,hBs,hBn,hT.keep (below_drewN (Below.refl _ W) _)⟩
 case round=>
  clear hc1 hc2 hcell hBs hBn hT h0 hn0;obtain⟨D,R,hTe,hg,rfl,hJs,hBs,hBn,hT⟩:=hrel;have hc1:=hBs.cell;have hc2:=hBn.cell;have HT:=Lib.hid hTe;have HG:=Lib.hid hg
  rcases nxt_cases q R with ⟨hx,hoff⟩ | ⟨C,⟨yb,yv,yh⟩,R2,e,hk,hx,hoff⟩
  ·have hlev:lev q T=lev q D:=by
    rw [hTe];exact lev_behind hoff D
   have HLEV:=Lib.hid hlev;rw [hx,np_none];clear hTe hg hlev hx hT
   gi_wp2
   refine⟨fun _ h=>(by cases h),?_⟩
   gi_wp2
   go_end0
   rw [HLEV.out];exact⟨⟨_,rfl⟩,.inl ⟨_,rfl,hJs⟩⟩
  ·subst e;have hTe2:T=(D++C)++(yb,yv,yh)::R2:=by rw [hTe];simp
   have hDC:lev q (D++C)=lev q D:=lev_behind hoff D
   have hlev:lev q T=lev q D++(yb,yv,yh)::lev q R2:=by
    rw [hTe2,show lev q (D++C++(yb,yv,yh)::R2)=lev q (D++C)++lev q ((yb,yv,yh)::R2) from List.filter_append _ _,lev_on hk,hDC]
   have hlev1:lev q (D++C++[(yb,yv,yh)])=lev q D++[(yb,yv,yh)]:=by
    rw [show lev q (D++C++[(yb,yv,yh)])=lev q (D++C)++lev q [(yb,yv,yh)] from List.filter_append _ _,lev_on hk,hDC];rfl
   have hi:(lev q D).length<(lev q T).length:=by rw [hlev];simp
   have hat:(levAt q s T (lev q D).length).1=yb:=by
    rw [levAt_lt hi];simp [hlev]
   have hn2:Node s T yb:=.inr ⟨(yb,yv,yh),by rw [hTe2];simp,rfl⟩;obtain⟨fn,tmps,assign,body,hy,hR2⟩:=hY (List.range (lev q D).length) (lev q D).length wr hJs (by simpa using hi);rw [hat] at hy;rw [← List.range_succ] at hR2;have hrs:(lev q D).length+1=(lev q (D++C++[(yb,yv,yh)])).length:=by rw [hlev1];simp
   have hpre:List.range ((lev q D).length+1) <+: List.range (lev q T).length:=range_prefix (by omega);have HRS:=Lib.hid hrs;have HT2:=Lib.hid hTe2;have HPRE:=Lib.hid hpre;rw [hx,np_some];clear hTe hg hx hTe2 hDC hlev hlev1 hi hat hrs hpre hY
   gi_wp2
   refine hR2.mono ?_;rintro e5 W3 (⟨rfl,hJ3,hk3⟩ | ⟨rfl,hJx3⟩)
   ·have hBs3:=hk3.2.1 _ hBs;have hBn3:=hk3.2.2 _ hBn;have hT3:=hT.belowN hS hk3.1;have hc3:=hBn3.cell;have hcell:=(hT3.links.node hn2 hq).1;have hap:=hT3.apart
    have hlk:linkOf s T yb q=nxt q R2:=by
     have hap2:=hap;rw [HT2.out] at hap2 ⊢;have:=linkOf_at (k:=q) hap2
     rwa [if_pos hk] at this
    rw [hlk] at hcell;clear hlk hT hR2 hy
    gi_wp2
    gi_quiet (fail)
    gi_wp2
    gi_roundg R2.length
    case measure=>have:=HG.out;simp at this;omega
    case rel=>
     refine⟨D++C++[(yb,yv,yh)],R2,by rw [HT2.out];simp,rfl,rfl,?_,hBs3,hBn3,hT3.keep (below_drewN (Below.refl _ W3) _)⟩;rw [← HRS.out];exact hJ _ _ _ hJ3
   ·gi_wp2
    go_end0
    exact⟨⟨_,rfl⟩,.inr ⟨_,HPRE.out,hJx3⟩⟩
theorem level_in (q:Nat) (p:Option Addr) (k:Int) (w:World):
  CallsIn Fence.wide q Tryz.prog 257 #[.pointer p,Iv k] w fun e w'=>e=.returned (.func (.func 258) #[] #[Pz w.heap.size,Pz (w.heap.size+1)])∧w'=(w.alloc (.cells #[.pointer p] 131)).alloc (.cells #[Iv k] 3):=by
 refine callsIn_of_wp Tryz.func257 rfl trivial ?_ rfl;simp only [Tryz.ntmps257,List.size_toArray,List.length_cons,List.length_nil,Nat.reduceAdd,Nat.reduceSub,Array.replicate_succ,Array.replicate_zero,List.push_toArray,List.append_toArray,List.nil_append,List.cons_append]
 gi_wp2
 go_ret;exact⟨rfl,rfl⟩
theorem level_stops (n:Nat) (hn:1≤n) (Bs Bn n₀ s m q:Nat) (hq:q<8) (S:Nat→Prop) (hS:∀ b,S b→b<n₀) (T:List Tw) (w:World) (hn₀:n₀≤w.heap.size) (hBs:Boxed w Bs 131 (Pz s)) (hBn:Boxed w Bn 3 (Iv ((q:Int)+1))) (hT:SkT w s S m T):
  SeqStopsK Fence.wide n Tryz.prog 258 #[Pz Bs,Pz Bn] (fun i:Nat=>#[Pz ((levAt q s T i).1)]) (KeepsC n₀ Bs Bn) (fun ys=>ys=List.range (lev q T).length) (fun pre=>pre <+: List.range (lev q T).length) (lev q T).length w:=fun l J Jx W hW hJ _ hY h0=>
 level1_in n hn l Bs Bn n₀ s m q hq S hS T J Jx (fun s W nq h=>hJ s W _ none h ⟨rfl,rfl,rfl,Nat.le_refl _,fun _ _ _=>rfl⟩ (fun r e=>by cases e)) hY W ((hW.block Bs hBs.lt).trans hBs) ((hW.block Bn hBn.lt).trans hBn) (hT.belowN (fun b hb=>Nat.lt_of_lt_of_le (hS b hb) hn₀) hW) h0
end Go.Proofs.YtadgbhjpgnlmoaaGreat.Skp
namespace Go.Proofs.YtadgbhjpgnlmoaaGreat.Skp
set_option maxRecDepth 100000
open Go.RowKit Go.Rp Go.Rp.Skp Go.Shelf
attribute [local go_sem] Oper.semAt_some
theorem Sl.of_owns {w w':World} {e sz n:Nat} {v:Value} {xs:List Value} (h:w'.ownsRow w.heap.size e sz v n xs):∃ A c,v=.slice A n c∧Sl w' e sz A n c xs (fun b=>w.heap.size≤b∧b<w'.heap.size):=by
 obtain⟨hl,⟨rfl,rfl⟩ | ⟨g,cap,cur,rfl,hg,hb,hn,hc,hz,hx⟩⟩:=h
 ·have:xs=[]:=List.eq_nil_of_length_eq_zero (by simpa using hl);subst this;exact⟨none,0,rfl,Sl.nil _ _ _ _⟩
 ·have hb':Blk w' g e cur:=hb;refine⟨_,cap,rfl,?_⟩;have:=Sl.of_blk hb' (S:=fun b=>w.heap.size≤b∧b<w'.heap.size) ⟨hg,hb'.lt⟩ n cap hn hc hz
  rwa [hx] at this
theorem cells_lit (W:World) (t:TypeId) (cs:Array Value) (j:Nat) (u:Value) (h:cs.toList[j]? =some u):(W.alloc (.cells cs t)).cell? ((⟨W.heap.size,0,none⟩:Addr).add j)=some u:=by
 have h2:(⟨W.heap.size,0,none⟩:Addr).add j=⟨W.heap.size,j,none⟩:=by unfold Addr.add;split<;>simp_all
 rw [h2,(Blk.new W t cs).cell j]
 simpa using h
theorem stepIn_append_own {F:Fence} {n:Nat} {P:Program} {w:World} {ops:Array Oper} {o:Oper} {a:Act} {K:Act→World→Prop} {Q:Exit→Act→World→Prop} {E:Prop}
  (hg:o.guard=none) (s x:Operand) (t:TypeId) (hop:o.op=Op.call { callee:=Callee.builtin Builtin.append,args:=#[s,x],argTypes:=#[t,t]})
  (base:Nat) (e:TypeId) (i:TypeInfo) (z:Value) (size bytes:Nat) (h1:P.underlying t=some (.slice e)) (h2:P.info? e=some i) (h3:i.zero=some z) (h4:i.size=size) (h5:i.bytes=bytes) (h6:z.cells.size=size) (h7:0<size)
  (v:Value) (k:Nat) (xs:List Value) (hs:a.eval s=v) (hown:w.ownsRow base e size v k xs) (ad:Addr) (m c:Nat) (news:List Value) (hx:a.eval x=.slice (some ad) m c) (hn:news.length=m*size)
  (hc:∀ j u,news[j]? =some u→w.cell? (ad.add j)=some u) (h1c:∀ u∈news,u.oneCell'=true) (b1:k+m≤maxLen) (b2:(k+m)*bytes≤140737488355328) (b3:base≤w.heap.size)
  (hK:∀ v' w',w'.ownsRow base e size v' (k+m) (xs++news)→w.grownBy w' v.ownBlock→(v'=.slice none 0 0↔v=.slice none 0 0∧m=0)→K (a.put o.dst v') w'):
  if Region.wanted o (yielded ops a.tmps)=true then Oper.wpIn F n P o a w K Q else E:=by
 have hw:Region.wanted o (yielded ops a.tmps)=true:=by simp [Region.wanted,hg]
 rw [if_pos hw];obtain⟨v',w',hrun,r1,r2,r3⟩:=run_append_own (P:=P) w base t o.type e i z size bytes h1 h2 h3 h4 h5 h6 h7 v k xs hown ad m c news hn hc h1c b1 b2 b3;unfold Oper.wpIn;refine⟨?_,?_⟩
 ·simp [Oper.about,hop,resolve,Target.leads,Sem.run_pure]
 ·rw [Oper.semAt_plain F _ _ (by rw [hop];intro c hc';cases hc')];simp [execOp,hop,resolve,invoke,builtin,hs,hx,hrun,Result.andThen];exact hK v' w' r1 r2 r3
theorem info_i32:(Tryz.prog.info? 21).map (fun i=>(i.zero,i.size,i.bytes))=some (some (Iw 0),1,4):=by kernel_rfl
def levL (q:Nat) (L:List It):List Int:=(L.filter fun a=>decide (q<a.2)).map (·.1)
theorem levL_map (q:Nat) (T:List Tw):levL q (T.map (·.2))=(lev q T).map (·.2.1):=by
 unfold levL lev;rw [List.filter_map,List.map_map]
 rfl
abbrev iv (l:List Int):List Value:=l.map (Value.int .i32)
def levV (q s:Nat) (T:List Tw) (pre:List Nat):List Value:=pre.map fun i=>Iw (levAt q s T i).2.1
theorem levV_snoc (q s:Nat) (T:List Tw) (pre:List Nat) (i:Nat):levV q s T (pre++[i])=levV q s T pre++[Iw (levAt q s T i).2.1]:=by simp [levV]
theorem levV_all (q s:Nat) (T:List Tw):levV q s T (List.range (lev q T).length)=iv (levL q (T.map (·.2))):=by
 rw [levL_map];unfold levV iv;rw [List.map_map];apply List.ext_getElem
 ·simp
 ·intro i h1 h2;simp at h1;simp [levAt_lt h1]
theorem lev_le (q:Nat) (T:List Tw):(lev q T).length≤T.length:=List.length_filter_le _ _
set_option maxRecDepth 100000 in
set_option maxHeartbeats 2000000 in
theorem level_any (w:World) (s m q:Nat) (hq:q<8) (S:Nat→Prop) (L:List It) (h:SkAt w s S m L):
  Calls Tryz.prog 256 #[Pz s,Iv ((q:Int)+1)] w (NewSl w 21 1 (levL q L).length (iv (levL q L))):=by
 obtain⟨T,rfl,hT⟩:=h;obtain⟨S',hT,hS⟩:∃ S':Nat→Prop,SkT w s S' m T∧∀ b,S' b→b<w.heap.size:=⟨fun b=>S b∧b<w.heap.size,⟨hT.links.lt,hT.apart,hT.high,hT.room,hT.most,hT.sorted⟩,fun b hb=>hb.2⟩;have hq8:¬ (8:Int)<(q:Int)+1:=by omega
 have hq1:¬ (q:Int)+1<1:=by omega
 have hqq:¬ (8:Int)≤(q:Int):=by omega
 obtain⟨i0,hi,hz0,hz1,hz2⟩:=info_parts info_i32;have hN:(lev q T).length≤1000:=by have:=lev_le q T;have:=hT.room;have:=hT.most;omega
 refine(callsIn_wide (n:=3)).1 (callsIn_of_wp_marks Tryz.func256 rfl trivial ?_ rfl);simp only [Tryz.ntmps256,List.size_toArray,List.length_cons,List.length_nil,Nat.reduceAdd,Nat.reduceSub,Array.replicate_succ,Array.replicate_zero,List.push_toArray,List.append_toArray,List.nil_append,List.cons_append]
 gi_wp2_with (refine ⟨trivial,?_⟩;gi_at_call 257;refine(level_in _ _ _ _).mono ?_;rintro e w' ⟨rfl,rfl⟩)
 have bO:=Boxed.new w 35 (.slice none 0 0);have bS:=Boxed.new (w.alloc (.cells #[.slice none 0 0] 35)) 131 (Pz s);have bN:=Boxed.new ((w.alloc (.cells #[.slice none 0 0] 35)).alloc (.cells #[Pz s] 131)) 3 (Iv ((q:Int)+1));rw [World.size_alloc] at bS bN;rw [World.size_alloc] at bN;have bO0:=(bO.alloc (.cells #[Pz s] 131)).alloc (.cells #[Iv ((q:Int)+1)] 3);have bS0:=bS.alloc (.cells #[Iv ((q:Int)+1)] 3);have hB0:Below w.heap.size w (((w.alloc (.cells #[.slice none 0 0] 35)).alloc (.cells #[Pz s] 131)).alloc (.cells #[Iv ((q:Int)+1)] 3)):=(((Below.refl _ w).alloc (Nat.le_refl _) _).alloc (by simp) _).alloc (by simp;omega) _;obtain⟨W0,hW0⟩:∃ W0,(((w.alloc (.cells #[.slice none 0 0] 35)).alloc (.cells #[Pz s] 131)).alloc (.cells #[Iv ((q:Int)+1)] 3))=W0:=⟨_,rfl⟩;have hsz:W0.heap.size=w.heap.size+3:=by rw [← hW0];simp
 have hrow0:W0.ownsRow w.heap.size 21 1 (.slice none 0 0) 0 []:=⟨rfl,.inl ⟨rfl,rfl⟩⟩;rw [hW0] at bN hB0 bO0 bS0 ⊢;clear hW0 bO bS;have hT0:=hT.belowN hS hB0
 refine wpIn_rangeFunc_ownG rfl (by omega) (gf:=258) (lb:=#[Pz (w.heap.size+1),Pz (w.heap.size+1+1)]) rfl trivial (enters_of Tryz.func258 (by kernel_rfl) rfl)
  (level_stops 2 (by omega) (w.heap.size+1) (w.heap.size+1+1) w.heap.size s m q hq S' hS T W0 (by omega) bS0 bN hT0) KeepsC.t (KeepsC.b (by omega)) (Below.refl _ _) (fun _=>rfl)
  (fun pre W=>((∃ v,Boxed W w.heap.size 35 v∧W.ownsRow w.heap.size 21 1 v pre.length (levV q s T pre)∧True)∧Boxed W (w.heap.size+1) 131 (Pz s)∧Boxed W (w.heap.size+1+1) 3 (Iv ((q:Int)+1)))∧Below w.heap.size w W)
  (fun _ _ _=>False)
  (OwnFrom.and (Own.from (fun s' A' B row hs hg hr=>⟨holdsRow_own w.heap.size w.heap.size 35 21 1 (fun pre:List Nat=>pre.length) (fun pre=>levV q s T pre) (fun _ _=>True) s' A' B row hs.1 hg hr,boxed_own _ _ (fun _:List Nat=>Pz s) s' A' B row hs.2.1 hg hr,boxed_own _ _ (fun _:List Nat=>Iv ((q:Int)+1)) s' A' B row hs.2.2 hg hr⟩) _) (ownFrom_below (Nat.le_refl _) (by omega)))
  (fun _ _ _ _ _ hs _ _=>hs)
  ⟨⟨⟨_,bO0,hrow0,trivial⟩,bS0,bN⟩,hB0⟩
  (fun i=> { tmps:=#[Pz s,Iv ((q:Int)+1),undef,undef,.slice none 0 0,Pz w.heap.size,Pz ((levAt q s T i).1),Pz s,.bool false,.bool false,Iv ((q:Int)+1),.bool false,.bool false,.bool false,Iv ((q:Int)+1),.bool false,.bool false,Pz s,Iv ((q:Int)+1),.func (.func 258) #[] #[Pz (w.heap.size+1),Pz (w.heap.size+1+1)],Pz ((levAt q s T i).1),undef,undef,undef,undef,undef,undef,undef,undef],defers:=[]}) ?assign ?body ?done ?stop
 case assign=>
  intro l x W K hK
  gi_wp2
  exact hK
 case body=>
  rintro l pre i W ⟨⟨⟨v,hv,hrow,_⟩,hbs,hbn⟩,hB⟩ hlt;have hcell:=(levAt_cells (hT.belowN hS hB).links (q:=q) i).1;obtain⟨bx,hbx⟩:∃ bx,(levAt q s T i).1=bx:=⟨_,rfl⟩;obtain⟨vx,hvx⟩:∃ vx,(levAt q s T i).2.1=vx:=⟨_,rfl⟩;have HVX:=Lib.hid hvx;rw [hbx,hvx] at hcell;rw [hbx];clear hbx hvx;have hcell':W.drew.cell? ⟨bx,0,none⟩=some (Iw vx):=hcell;have hv5:Boxed W.drew w.heap.size 35 v:=hv;have hrow5:W.drew.ownsRow w.heap.size 21 1 v pre.length (levV q s T pre):=hrow;have hc:=hv5.cell;have hco:=fun o=>(hv5.alloc o).cell;have hco2:∀ o,(W.alloc o).cell? ⟨w.heap.size,0,none⟩=some v:=fun o=>(hv.alloc o).cell;have hco3:∀ o,(W.alloc o).drew.cell? ⟨w.heap.size,0,none⟩=some v:=fun o=>(hv.alloc o).cell
  gi_wp2
  refine wpIn_region_any (by kernel_rfl) ?_;change wpAnyIn _ _ _ _ _ _ _ _ _ (World.drew _);refine wpAnyIn_ready (rs:=[0,1]) (by kernel_rfl) (by simp) ?_;refine AllReadyIn.cons rfl (fun K hK=>?_) (AllReadyIn.cons rfl (fun K hK=>?_) AllReadyIn.nil)
  ·skip
   go_simp;refine hK _ _ ?_;clear hK K;refine wpAnyIn_ready (rs:=[1]) (by kernel_rfl) (by simp) ?_;refine AllReadyIn.cons rfl (fun K hK=>?_) AllReadyIn.nil;go_simp;refine hK _ _ ?_;clear hK K;refine wpAnyIn_ready (rs:=[2]) (by kernel_rfl) (by simp) ?_;refine AllReadyIn.cons rfl (fun K hK=>?_) AllReadyIn.nil;go_simp;refine hK _ _ ?_;clear hK K;refine wpAnyIn_ready (rs:=[3]) (by kernel_rfl) (by simp) ?_;refine AllReadyIn.cons rfl (fun K hK=>?_) AllReadyIn.nil;go_simp;refine hK _ _ ?_;clear hK K;refine wpAnyIn_ready (rs:=[4]) (by kernel_rfl) (by simp) ?_;refine AllReadyIn.cons rfl (fun K hK=>?_) AllReadyIn.nil;go_simp;refine hK _ _ ?_;clear hK K;refine wpAnyIn_ready (rs:=[5]) (by kernel_rfl) (by simp) ?_;refine AllReadyIn.cons rfl (fun K hK=>?_) AllReadyIn.nil;go_simp;refine hK _ _ ?_;clear hK K;refine wpAnyIn_ready (rs:=[6]) (by kernel_rfl) (by simp) ?_;refine AllReadyIn.cons rfl (fun K hK=>?_) AllReadyIn.nil
   refine stepIn_append_own rfl _ _ 35 rfl w.heap.size 21 i0 _ 1 4 Tryz.underlying35 hi hz0 hz1 hz2 rfl (by decide) v _ _ rfl (hrow5.alloc _) ⟨W.heap.size,0,none⟩ 1 1 [Iw vx] rfl rfl (fun j u hu=>cells_lit W.drew 21 _ j u hu) (by simp [Value.oneCell']) (by simp only [maxLen];omega) (by omega) (by have:=hB.size;simp at this ⊢;omega) ?_;intro v' w1 hown' hgrow _;obtain⟨g',cap',rfl⟩:=ownsRow_succ hown';obtain⟨hv1,hv2,hr2,hk2,hb2⟩:=hv5.appended (by decide) hrow5 (by have:=hB.size;simp at *;omega) (Nat.le_refl _) hown' hgrow;have hc1:=hv1.cell;have hf1:=hv1.frozen;refine hK _ _ ?_;clear hK K;refine wpAnyIn_ready (rs:=[7]) (by kernel_rfl) (by simp) ?_;refine AllReadyIn.cons rfl (fun K hK=>?_) AllReadyIn.nil;go_simp;refine hK _ _ ?_;clear hK K;refine wpAnyIn_done (by kernel_rfl) ?_ _
   have hk:∀ (Bx:Nat) (tx:TypeId) (u:Value),tx≠21→w.heap.size≠Bx→Boxed W Bx tx u→Boxed (w1.setCell ⟨w.heap.size,0,none⟩ (.slice (some ⟨g',0,none⟩) (pre.length+1) cap')) Bx tx u:=fun Bx tx u h1 h2 hu=>by
    have hu0:Boxed W.drew Bx tx u:=hu;exact((hu0.alloc _).kept hgrow (hu0.not_row h1 hrow5)).other (fun e=>h2 e.symm) _
   have hbb:Below w.heap.size W (w1.setCell ⟨w.heap.size,0,none⟩ (.slice (some ⟨g',0,none⟩) (pre.length+1) cap')):=(Below.refl _ W).drew.trans hb2;refine⟨((KeepsOthers.drew W).trans hk2).from _,⟨hbb,fun u hu=>hk _ _ u (by decide) (by omega) hu,fun u hu=>hk _ _ u (by decide) (by omega) hu⟩,⟨⟨_,hv2,?_,trivial⟩,hk _ _ _ (by decide) (by omega) hbs,hk _ _ _ (by decide) (by omega) hbn⟩,hB.trans hbb⟩;rw [List.length_append,levV_snoc,HVX.out];exact hr2
  ·skip
   go_simp;refine hK _ _ ?_;clear hK K;refine wpAnyIn_ready (rs:=[0,2]) (by kernel_rfl) (by simp) ?_;refine AllReadyIn.cons rfl (fun K hK=>?_) (AllReadyIn.cons rfl (fun K hK=>?_) AllReadyIn.nil)
   ·skip
    go_simp;refine hK _ _ ?_;clear hK K;refine wpAnyIn_ready (rs:=[2]) (by kernel_rfl) (by simp) ?_;refine AllReadyIn.cons rfl (fun K hK=>?_) AllReadyIn.nil;go_simp;refine hK _ _ ?_;clear hK K;refine wpAnyIn_ready (rs:=[3]) (by kernel_rfl) (by simp) ?_;refine AllReadyIn.cons rfl (fun K hK=>?_) AllReadyIn.nil;go_simp;refine hK _ _ ?_;clear hK K;refine wpAnyIn_ready (rs:=[4]) (by kernel_rfl) (by simp) ?_;refine AllReadyIn.cons rfl (fun K hK=>?_) AllReadyIn.nil;go_simp;refine hK _ _ ?_;clear hK K;refine wpAnyIn_ready (rs:=[5]) (by kernel_rfl) (by simp) ?_;refine AllReadyIn.cons rfl (fun K hK=>?_) AllReadyIn.nil;go_simp;refine hK _ _ ?_;clear hK K;refine wpAnyIn_ready (rs:=[6]) (by kernel_rfl) (by simp) ?_;refine AllReadyIn.cons rfl (fun K hK=>?_) AllReadyIn.nil;refine stepIn_append_own rfl _ _ 35 rfl w.heap.size 21 i0 _ 1 4 Tryz.underlying35 hi hz0 hz1 hz2 rfl (by decide) v _ _ rfl (hrow5.alloc _) ⟨W.heap.size,0,none⟩ 1 1 [Iw vx] rfl rfl (fun j u hu=>cells_lit W.drew 21 _ j u hu) (by simp [Value.oneCell']) (by simp only [maxLen];omega) (by omega) (by have:=hB.size;simp at this ⊢;omega) ?_
    intro v' w1 hown' hgrow _;obtain⟨g',cap',rfl⟩:=ownsRow_succ hown';obtain⟨hv1,hv2,hr2,hk2,hb2⟩:=hv5.appended (by decide) hrow5 (by have:=hB.size;simp at *;omega) (Nat.le_refl _) hown' hgrow;have hc1:=hv1.cell;have hf1:=hv1.frozen;refine hK _ _ ?_;clear hK K;refine wpAnyIn_ready (rs:=[7]) (by kernel_rfl) (by simp) ?_;refine AllReadyIn.cons rfl (fun K hK=>?_) AllReadyIn.nil;go_simp;refine hK _ _ ?_;clear hK K;refine wpAnyIn_done (by kernel_rfl) ?_ _
    have hk:∀ (Bx:Nat) (tx:TypeId) (u:Value),tx≠21→w.heap.size≠Bx→Boxed W Bx tx u→Boxed (w1.setCell ⟨w.heap.size,0,none⟩ (.slice (some ⟨g',0,none⟩) (pre.length+1) cap')) Bx tx u:=fun Bx tx u h1 h2 hu=>by
     have hu0:Boxed W.drew Bx tx u:=hu;exact((hu0.alloc _).kept hgrow (hu0.not_row h1 hrow5)).other (fun e=>h2 e.symm) _
    have hbb:Below w.heap.size W (w1.setCell ⟨w.heap.size,0,none⟩ (.slice (some ⟨g',0,none⟩) (pre.length+1) cap')):=(Below.refl _ W).drew.trans hb2;refine⟨((KeepsOthers.drew W).trans hk2).from _,⟨hbb,fun u hu=>hk _ _ u (by decide) (by omega) hu,fun u hu=>hk _ _ u (by decide) (by omega) hu⟩,⟨⟨_,hv2,?_,trivial⟩,hk _ _ _ (by decide) (by omega) hbs,hk _ _ _ (by decide) (by omega) hbn⟩,hB.trans hbb⟩;rw [List.length_append,levV_snoc,HVX.out];exact hr2
   ·skip
    go_simp;refine hK _ _ ?_;clear hK K;refine wpAnyIn_ready (rs:=[0,3]) (by kernel_rfl) (by simp) ?_;refine AllReadyIn.cons rfl (fun K hK=>?_) (AllReadyIn.cons rfl (fun K hK=>?_) AllReadyIn.nil)
    ·skip
     go_simp;refine hK _ _ ?_;clear hK K;refine wpAnyIn_ready (rs:=[3]) (by kernel_rfl) (by simp) ?_;refine AllReadyIn.cons rfl (fun K hK=>?_) AllReadyIn.nil;go_simp;refine hK _ _ ?_;clear hK K;refine wpAnyIn_ready (rs:=[4]) (by kernel_rfl) (by simp) ?_;refine AllReadyIn.cons rfl (fun K hK=>?_) AllReadyIn.nil;go_simp;refine hK _ _ ?_;clear hK K;refine wpAnyIn_ready (rs:=[5]) (by kernel_rfl) (by simp) ?_;refine AllReadyIn.cons rfl (fun K hK=>?_) AllReadyIn.nil;go_simp;refine hK _ _ ?_;clear hK K;refine wpAnyIn_ready (rs:=[6]) (by kernel_rfl) (by simp) ?_;refine AllReadyIn.cons rfl (fun K hK=>?_) AllReadyIn.nil;refine stepIn_append_own rfl _ _ 35 rfl w.heap.size 21 i0 _ 1 4 Tryz.underlying35 hi hz0 hz1 hz2 rfl (by decide) v _ _ rfl (hrow5.alloc _) ⟨W.heap.size,0,none⟩ 1 1 [Iw vx] rfl rfl (fun j u hu=>cells_lit W.drew 21 _ j u hu) (by simp [Value.oneCell']) (by simp only [maxLen];omega) (by omega) (by have:=hB.size;simp at this ⊢;omega) ?_
     intro v' w1 hown' hgrow _;obtain⟨g',cap',rfl⟩:=ownsRow_succ hown';obtain⟨hv1,hv2,hr2,hk2,hb2⟩:=hv5.appended (by decide) hrow5 (by have:=hB.size;simp at *;omega) (Nat.le_refl _) hown' hgrow;have hc1:=hv1.cell;have hf1:=hv1.frozen;refine hK _ _ ?_;clear hK K;refine wpAnyIn_ready (rs:=[7]) (by kernel_rfl) (by simp) ?_;refine AllReadyIn.cons rfl (fun K hK=>?_) AllReadyIn.nil;go_simp;refine hK _ _ ?_;clear hK K;refine wpAnyIn_done (by kernel_rfl) ?_ _
     have hk:∀ (Bx:Nat) (tx:TypeId) (u:Value),tx≠21→w.heap.size≠Bx→Boxed W Bx tx u→Boxed (w1.setCell ⟨w.heap.size,0,none⟩ (.slice (some ⟨g',0,none⟩) (pre.length+1) cap')) Bx tx u:=fun Bx tx u h1 h2 hu=>by
      have hu0:Boxed W.drew Bx tx u:=hu;exact((hu0.alloc _).kept hgrow (hu0.not_row h1 hrow5)).other (fun e=>h2 e.symm) _
     have hbb:Below w.heap.size W (w1.setCell ⟨w.heap.size,0,none⟩ (.slice (some ⟨g',0,none⟩) (pre.length+1) cap')):=(Below.refl _ W).drew.trans hb2;refine⟨((KeepsOthers.drew W).trans hk2).from _,⟨hbb,fun u hu=>hk _ _ u (by decide) (by omega) hu,fun u hu=>hk _ _ u (by decide) (by omega) hu⟩,⟨⟨_,hv2,?_,trivial⟩,hk _ _ _ (by decide) (by omega) hbs,hk _ _ _ (by decide) (by omega) hbn⟩,hB.trans hbb⟩;rw [List.length_append,levV_snoc,HVX.out];exact hr2
    ·skip
     go_simp;refine hK _ _ ?_;clear hK K;refine wpAnyIn_ready (rs:=[0,4]) (by kernel_rfl) (by simp) ?_;refine AllReadyIn.cons rfl (fun K hK=>?_) (AllReadyIn.cons rfl (fun K hK=>?_) AllReadyIn.nil)
     ·skip
      go_simp;refine hK _ _ ?_;clear hK K;refine wpAnyIn_ready (rs:=[4]) (by kernel_rfl) (by simp) ?_;refine AllReadyIn.cons rfl (fun K hK=>?_) AllReadyIn.nil;go_simp;refine hK _ _ ?_;clear hK K;refine wpAnyIn_ready (rs:=[5]) (by kernel_rfl) (by simp) ?_;refine AllReadyIn.cons rfl (fun K hK=>?_) AllReadyIn.nil;go_simp;refine hK _ _ ?_;clear hK K;refine wpAnyIn_ready (rs:=[6]) (by kernel_rfl) (by simp) ?_;refine AllReadyIn.cons rfl (fun K hK=>?_) AllReadyIn.nil;refine stepIn_append_own rfl _ _ 35 rfl w.heap.size 21 i0 _ 1 4 Tryz.underlying35 hi hz0 hz1 hz2 rfl (by decide) v _ _ rfl (hrow5.alloc _) ⟨W.heap.size,0,none⟩ 1 1 [Iw vx] rfl rfl (fun j u hu=>cells_lit W.drew 21 _ j u hu) (by simp [Value.oneCell']) (by simp only [maxLen];omega) (by omega) (by have:=hB.size;simp at this ⊢;omega) ?_;intro v' w1 hown' hgrow _;obtain⟨g',cap',rfl⟩:=ownsRow_succ hown';obtain⟨hv1,hv2,hr2,hk2,hb2⟩:=hv5.appended (by decide) hrow5 (by have:=hB.size;simp at *;omega) (Nat.le_refl _) hown' hgrow
      have hc1:=hv1.cell;have hf1:=hv1.frozen;refine hK _ _ ?_;clear hK K;refine wpAnyIn_ready (rs:=[7]) (by kernel_rfl) (by simp) ?_;refine AllReadyIn.cons rfl (fun K hK=>?_) AllReadyIn.nil;go_simp;refine hK _ _ ?_;clear hK K;refine wpAnyIn_done (by kernel_rfl) ?_ _
      have hk:∀ (Bx:Nat) (tx:TypeId) (u:Value),tx≠21→w.heap.size≠Bx→Boxed W Bx tx u→Boxed (w1.setCell ⟨w.heap.size,0,none⟩ (.slice (some ⟨g',0,none⟩) (pre.length+1) cap')) Bx tx u:=fun Bx tx u h1 h2 hu=>by
       have hu0:Boxed W.drew Bx tx u:=hu;exact((hu0.alloc _).kept hgrow (hu0.not_row h1 hrow5)).other (fun e=>h2 e.symm) _
      have hbb:Below w.heap.size W (w1.setCell ⟨w.heap.size,0,none⟩ (.slice (some ⟨g',0,none⟩) (pre.length+1) cap')):=(Below.refl _ W).drew.trans hb2;refine⟨((KeepsOthers.drew W).trans hk2).from _,⟨hbb,fun u hu=>hk _ _ u (by decide) (by omega) hu,fun u hu=>hk _ _ u (by decide) (by omega) hu⟩,⟨⟨_,hv2,?_,trivial⟩,hk _ _ _ (by decide) (by omega) hbs,hk _ _ _ (by decide) (by omega) hbn⟩,hB.trans hbb⟩;rw [List.length_append,levV_snoc,HVX.out];exact hr2
     ·skip
      go_simp;refine hK _ _ ?_;clear hK K;refine wpAnyIn_ready (rs:=[0,5]) (by kernel_rfl) (by simp) ?_;refine AllReadyIn.cons rfl (fun K hK=>?_) (AllReadyIn.cons rfl (fun K hK=>?_) AllReadyIn.nil)
      ·skip
       go_simp;refine hK _ _ ?_;clear hK K;refine wpAnyIn_ready (rs:=[5]) (by kernel_rfl) (by simp) ?_;refine AllReadyIn.cons rfl (fun K hK=>?_) AllReadyIn.nil;go_simp;refine hK _ _ ?_;clear hK K;refine wpAnyIn_ready (rs:=[6]) (by kernel_rfl) (by simp) ?_;refine AllReadyIn.cons rfl (fun K hK=>?_) AllReadyIn.nil;refine stepIn_append_own rfl _ _ 35 rfl w.heap.size 21 i0 _ 1 4 Tryz.underlying35 hi hz0 hz1 hz2 rfl (by decide) v _ _ rfl (hrow5.alloc _) ⟨W.heap.size,0,none⟩ 1 1 [Iw vx] rfl rfl (fun j u hu=>cells_lit W.drew 21 _ j u hu) (by simp [Value.oneCell']) (by simp only [maxLen];omega) (by omega) (by have:=hB.size;simp at this ⊢;omega) ?_;intro v' w1 hown' hgrow _;obtain⟨g',cap',rfl⟩:=ownsRow_succ hown';obtain⟨hv1,hv2,hr2,hk2,hb2⟩:=hv5.appended (by decide) hrow5 (by have:=hB.size;simp at *;omega) (Nat.le_refl _) hown' hgrow;have hc1:=hv1.cell;have hf1:=hv1.frozen;refine hK _ _ ?_;clear hK K
       refine wpAnyIn_ready (rs:=[7]) (by kernel_rfl) (by simp) ?_;refine AllReadyIn.cons rfl (fun K hK=>?_) AllReadyIn.nil;go_simp;refine hK _ _ ?_;clear hK K;refine wpAnyIn_done (by kernel_rfl) ?_ _
       have hk:∀ (Bx:Nat) (tx:TypeId) (u:Value),tx≠21→w.heap.size≠Bx→Boxed W Bx tx u→Boxed (w1.setCell ⟨w.heap.size,0,none⟩ (.slice (some ⟨g',0,none⟩) (pre.length+1) cap')) Bx tx u:=fun Bx tx u h1 h2 hu=>by
        have hu0:Boxed W.drew Bx tx u:=hu;exact((hu0.alloc _).kept hgrow (hu0.not_row h1 hrow5)).other (fun e=>h2 e.symm) _
       have hbb:Below w.heap.size W (w1.setCell ⟨w.heap.size,0,none⟩ (.slice (some ⟨g',0,none⟩) (pre.length+1) cap')):=(Below.refl _ W).drew.trans hb2;refine⟨((KeepsOthers.drew W).trans hk2).from _,⟨hbb,fun u hu=>hk _ _ u (by decide) (by omega) hu,fun u hu=>hk _ _ u (by decide) (by omega) hu⟩,⟨⟨_,hv2,?_,trivial⟩,hk _ _ _ (by decide) (by omega) hbs,hk _ _ _ (by decide) (by omega) hbn⟩,hB.trans hbb⟩;rw [List.length_append,levV_snoc,HVX.out];exact hr2
      ·skip
       go_simp;refine hK _ _ ?_;clear hK K;refine wpAnyIn_ready (rs:=[0]) (by kernel_rfl) (by simp) ?_;refine AllReadyIn.cons rfl (fun K hK=>?_) AllReadyIn.nil;go_simp;refine hK _ _ ?_;clear hK K;refine wpAnyIn_ready (rs:=[6]) (by kernel_rfl) (by simp) ?_;refine AllReadyIn.cons rfl (fun K hK=>?_) AllReadyIn.nil;refine stepIn_append_own rfl _ _ 35 rfl w.heap.size 21 i0 _ 1 4 Tryz.underlying35 hi hz0 hz1 hz2 rfl (by decide) v _ _ rfl (hrow5.alloc _) ⟨W.heap.size,0,none⟩ 1 1 [Iw vx] rfl rfl (fun j u hu=>cells_lit W.drew 21 _ j u hu) (by simp [Value.oneCell']) (by simp only [maxLen];omega) (by omega) (by have:=hB.size;simp at this ⊢;omega) ?_;intro v' w1 hown' hgrow _;obtain⟨g',cap',rfl⟩:=ownsRow_succ hown';obtain⟨hv1,hv2,hr2,hk2,hb2⟩:=hv5.appended (by decide) hrow5 (by have:=hB.size;simp at *;omega) (Nat.le_refl _) hown' hgrow;have hc1:=hv1.cell;have hf1:=hv1.frozen;refine hK _ _ ?_;clear hK K
       refine wpAnyIn_ready (rs:=[7]) (by kernel_rfl) (by simp) ?_;refine AllReadyIn.cons rfl (fun K hK=>?_) AllReadyIn.nil;go_simp;refine hK _ _ ?_;clear hK K;refine wpAnyIn_done (by kernel_rfl) ?_ _
       have hk:∀ (Bx:Nat) (tx:TypeId) (u:Value),tx≠21→w.heap.size≠Bx→Boxed W Bx tx u→Boxed (w1.setCell ⟨w.heap.size,0,none⟩ (.slice (some ⟨g',0,none⟩) (pre.length+1) cap')) Bx tx u:=fun Bx tx u h1 h2 hu=>by
        have hu0:Boxed W.drew Bx tx u:=hu;exact((hu0.alloc _).kept hgrow (hu0.not_row h1 hrow5)).other (fun e=>h2 e.symm) _
       have hbb:Below w.heap.size W (w1.setCell ⟨w.heap.size,0,none⟩ (.slice (some ⟨g',0,none⟩) (pre.length+1) cap')):=(Below.refl _ W).drew.trans hb2;refine⟨((KeepsOthers.drew W).trans hk2).from _,⟨hbb,fun u hu=>hk _ _ u (by decide) (by omega) hu,fun u hu=>hk _ _ u (by decide) (by omega) hu⟩,⟨⟨_,hv2,?_,trivial⟩,hk _ _ _ (by decide) (by omega) hbs,hk _ _ _ (by decide) (by omega) hbn⟩,hB.trans hbb⟩;rw [List.length_append,levV_snoc,HVX.out];exact hr2
 case done=>
  rintro D ys W hD rfl ⟨⟨⟨v,hv,hrow,_⟩,_⟩,hB⟩ hK;rw [levV_all,List.length_range] at hrow;have hc:=hv.cell
  gi_wp2
  refine⟨by simp,.inl ⟨_,_,rfl,run_takeDeferred hK,?_⟩⟩;obtain⟨A,c,rfl,hs⟩:=Sl.of_owns (ownsRow_putObj hrow (.deferred none) hK rfl);have hlen:(levL q (T.map (·.2))).length=(lev q T).length:=by rw [levL_map,List.length_map]
  rw [hlen];exact⟨_,results_tmp rfl _ _ _,A,c,rfl,hs,hB.trans (belowK_b (w:=w) (Nat.le_refl _) W D _ _ (by omega) hK rfl rfl)⟩
 case stop=>
  rintro D c pre W _ _ h _;exact h.elim
theorem items_any (w:World) (s m:Nat) (S:Nat→Prop) (L:List It) (h:SkAt w s S m L):
  Calls Tryz.prog 254 #[Pz s] w (NewSl w 21 1 (levL 0 L).length (iv (levL 0 L))):=by
 have hl:=level_any w s m 0 (by omega) S L h;simp only [Int.ofNat_eq_natCast,Int.natCast_zero,Int.zero_add] at hl;go_enter Tryz.func254,Tryz.ntmps254;go_wp2_with fail;refine hl.mono ?_;rintro e w1 ⟨A,c,rfl,hs,hb⟩;go_wp2_with fail;go_ret;exact⟨A,c,rfl,hs,hb⟩
end Go.Proofs.YtadgbhjpgnlmoaaGreat.Skp
