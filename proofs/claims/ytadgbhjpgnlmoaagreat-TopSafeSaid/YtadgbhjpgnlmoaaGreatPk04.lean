/- TopSafe, a part of its proof; no conditions. -/
import Derived.LaidEqlPtr
import Derived.Test.YtadgbhjpgnlmoaaGreatPk03
set_option linter.all false
namespace Go.Proofs.YtadgbhjpgnlmoaaGreat.Skp
set_option maxRecDepth 100000
open Go.RowKit Go.Rp Go.Rp.Skp
theorem ptr_same (w:World) (x:Nat):(binOp .eql 178 (Pz x) (Pz x)).run Tryz.prog w=.ok (.bool true) w:=by
 obtain⟨j,hj,_⟩:=Option.map_eq_some_iff.1 (show (Tryz.prog.info? 181).map (·.size)=some 10 by kernel_rfl);exact run_eql_ptr_same w _ Tryz.underlying178 hj
theorem ptr_other {w:World} {x y:Nat} (hne:x≠y) {t1 t2:TypeId} {c1 c2:Array Value} (hx:Blk w x t1 c1) (hy:Blk w y t2 c2):(binOp .eql 178 (Pz x) (Pz y)).run Tryz.prog w=.ok (.bool false) w:=by
 obtain⟨j,hj,hs⟩:=Option.map_eq_some_iff.1 (show (Tryz.prog.info? 181).map (·.size)=some 10 by kernel_rfl);exact run_eql_ptr_other w Tryz.underlying178 hj (by rw [hs];decide) (fun e=>hne (by injection e)) hx hy
theorem Links.blk {w:World} {s many most:Nat} {T:List Tw} {g:Nat→Nat→Option Nat} {S:Nat→Prop} (h:Links w s many most T g S) {x:Nat} (hx:Node s T x):∃ t cs,Blk w x t cs:=by
 rcases hx with rfl | ⟨t,ht,rfl⟩
 ·exact⟨_,_,h.hd⟩
 ·exact⟨_,_,(h.tw t ht).1⟩
theorem bool_any (b:Bool):(Ending.returned (.bool b)=.returned (.bool true))∨(Ending.returned (.bool b)=.returned (.bool false)):=by cases b<;>simp
theorem further_any {w:World} {s many most:Nat} {T:List Tw} {g:Nat→Nat→Option Nat} {S:Nat→Prop} (h:Links w s many most T g S) {x y:Nat} (hx:Node s T x) (hy:Node s T y):
  Calls Tryz.prog 282 #[Pz x,Pz y] w fun e w'=>(e=.returned (.bool true)∨e=.returned (.bool false))∧∃ nq,w'=w.drewN nq:=by
 obtain⟨v1,n1,a1,a2⟩:=h.any hx;obtain⟨v2,n2,b1,b2⟩:=h.any hy;obtain⟨t1,k1,hb1⟩:=h.blk hx;obtain⟨t2,k2,hb2⟩:=h.blk hy
 by_cases e:x=y
 ·subst e;have hq:=ptr_same w x;go_enter Tryz.func282,Tryz.ntmps282;go_wp2;go_ret;exact⟨.inr rfl,0,rfl⟩
 ·have hq:=ptr_other e hb1 hb2;clear hb1 hb2 hx hy
  by_cases e1:n1=0
  ·subst e1;go_enter Tryz.func282,Tryz.ntmps282;go_wp2;go_ret;exact⟨.inr rfl,0,rfl⟩
  ·by_cases e2:n2=0
   ·subst e2;go_enter Tryz.func282,Tryz.ntmps282;go_wp2
    go_region
    go_wp2;go_ret;exact⟨.inl rfl,_,rfl⟩
   ·have hd:decide ((n2:Int)=0)=false:=decide_eq_false (by omega);have hn:¬ (n2:Int)=0:=by omega
    go_enter Tryz.func282,Tryz.ntmps282;go_wp2;go_quiet (fail);go_wp2;go_ret;exact⟨bool_any _,_,rfl⟩
def onP (s m:Nat) (P A:List Tw):Nat→Nat:=fun j=>if j<m then lastT j s P else lastT j s A
theorem node_any {s:Nat} {A D:List Tw} (k:Nat) {U V:List Tw} (e:A=U++V):Node s (A++D) (lastT k s U):=by
 rw [e,List.append_assoc];exact node_last k s U (V++D)
theorem blk_congr {w:World} {g:Nat} {t:TypeId} {cs cs':Array Value} (h:Blk w g t cs) (e:cs=cs'):Blk w g t cs':=e▸h
theorem on_any {w:World} {s many most:Nat} {P C D:List Tw} {S:Nat→Prop} (v:Int) (h:Links w s many most (P++C++D) (linkOf s (P++C++D)) S) (ha:Apart s (P++C++D))
  (hC:∀ t∈P++C,t.2.1≤v) (hD:∀ t∈D,v<t.2.1):
  Calls Tryz.prog 275 #[.agg (linkC fun k=>some (lastT k s P)),Iw v] w fun e w'=>e=.returned (.agg (linkC fun k=>some (lastT k s (P++C))))∧Below w.heap.size w w':=by
 obtain⟨A,hA⟩:∃ A,P++C=A:=⟨_,rfl⟩;rw [hA] at h ha hC ⊢
 have hlink:∀ (k:Nat) (U V:List Tw),A=U++V→linkOf s (A++D) (lastT k s U) k=nxt k (V++D):=fun k U V e=>by
  subst e;rw [List.append_assoc];exact linkOf_last (by rw [← List.append_assoc];exact ha)
 have HA:=Lib.hid hA;have HK:=Lib.hid hlink;have HC:=Lib.hid hC;have HD:=Lib.hid hD;clear hA ha hlink hC hD;go_enter Tryz.func275,Tryz.ntmps275;go_wp2
 go_loopg [5,6] 8 (fun g lv k wr=>∃ z:Int,g≤8∧z=(g:Int)-1∧k=Iv z∧(g=8∧lv=.pointer none∨g<8∧lv=Pz (lastT g s A))∧Blk wr w.heap.size 343 (linkC fun j=>some (onP s g P A j))∧Blk wr (w.heap.size+1) 343 (linkC fun _=>none)∧Below w.heap.size w wr)
 case atStart=>
  refine⟨7,by omega,rfl,rfl,.inl ⟨rfl,rfl⟩,?_,?_,((Below.refl _ w).alloc (Nat.le_refl _) _).alloc (by simp) _⟩
  ·exact blk_congr ((Blk.new w 343 (linkC fun k=>some (lastT k s P))).alloc _) (linkC_congr fun k hk=>by rw [show onP s 8 P A k=lastT k s P from if_pos hk])
  ·have:=Blk.new (w.alloc (.cells (linkC fun k=>some (lastT k s P)) 343)) 343 (linkC fun _=>none);rw [World.size_alloc] at this;exact this
 case round=>
  obtain⟨z,hg8,hz,rfl,hlv,h1,h2,hb⟩:=hrel
  rcases gk with _ | m
  ·obtain rfl:z= -1:=by omega
   clear hz hlv;rw [linkC_congr (g:=fun j=>some (lastT j s A)) fun j _=>by rw [show onP s 0 P A j=lastT j s A from if_neg (by omega)]] at h1;go_wp2_with (first | (refine wpList_load_path rfl _ rfl rfl h1 ?_) | (refine wpList_store_path rfl _ _ rfl rfl rfl h2 rfl ?_;intro w2 h3 hm2));exact bodyPost_ret (results_path rfl rfl h3) rfl ⟨rfl,hb.trans (hm2.below (by have:=hb.size;omega) fun x hx=>by omega)⟩
  ·obtain rfl:z=(m:Int):=by omega
   have hm8:m<8:=by omega
   clear hz;have hL:=h.keep hb;have hf:=h1.frozen m;have hc:=(h1.cell m).trans (linkC_at _ hm8);rw [show onP s (m+1) P A m=lastT m s P from if_pos (by omega),np_some] at hc;have hU1:A=P++C:=HA.out.symm
   rcases hlv with ⟨h8,rfl⟩ | ⟨h8,rfl⟩
   ·obtain⟨U,V,hU,hx⟩:∃ U V,A=U++V∧lastT m s P=lastT m s U:=⟨P,C,hU1,rfl⟩;rw [hx] at hc;clear hU1 hx h8;have hs0:=(hL.node (node_any m hU) hm8).1;rw [HK.out m U V hU] at hs0;have HU:=Lib.hid hU;clear hU;go_wp2
    go_loopg [5,7] V.length (fun g2 lv nv wq=>∃ U' V':List Tw,V'.length=g2∧A=U'++V'∧lv=Pz (lastT m s U')∧nv=np (nxt m (V'++D))∧wq=wr)
    case atStart=>exact⟨U,V,rfl,HU.out,rfl,rfl,rfl⟩
    case round=>
     obtain⟨U',V',hV',hU',rfl,rfl,rfl⟩:=hrel;have hst:=on_step m s U' V' D;have HU':=Lib.hid hU';have HV':=Lib.hid hV';clear hU' hV' hs0
     rcases hst with ⟨hx,hl⟩ | ⟨⟨yb,yv,yh⟩,hy,hx,hl⟩ | ⟨C',⟨yb,yv,yh⟩,V2,e,hk,hx,hl⟩
     ·rw [hx,np_none];rw [← HU'.out] at hl;have HL:=Lib.hid hl;clear hx hl;go_wp2;have hl:=HL.out;go_roundg m
      case measure=>omega
      case rel=>
       refine⟨(m:Int)-1,by omega,rfl,by go_num,.inr ⟨by omega,by rw [hl]⟩,?_,h2.far (by simp) _,hb.setCell (by simp) _⟩;have h3:=h1.set m (np (some (lastT m s U')));rw [linkC_set _ hm8] at h3;refine blk_congr h3 (linkC_congr fun j hj=>?_);unfold onP
       by_cases e:j=m
       ·subst e;simp [hl]
       ·by_cases h:j<m
        ·simp [h,e];omega
        ·rw [if_neg e,if_neg h,if_neg (by omega)]
     ·rw [hx,np_some];rw [← HU'.out] at hl;have HL:=Lib.hid hl;have hv:=(hL.val (t:=(yb,yv,yh)) (List.mem_append_right _ hy)).1;have hgt:¬ yv≤v:=by have:=HD.out _ hy;simp at this;omega
      clear hx hl hy;go_wp2;have hl:=HL.out;go_roundg m
      case measure=>omega
      case rel=>
       refine⟨(m:Int)-1,by omega,rfl,by go_num,.inr ⟨by omega,by rw [hl]⟩,?_,h2.far (by simp) _,hb.setCell (by simp) _⟩;have h3:=h1.set m (np (some (lastT m s U')));rw [linkC_set _ hm8] at h3;refine blk_congr h3 (linkC_congr fun j hj=>?_);unfold onP
       by_cases e:j=m
       ·subst e;simp [hl]
       ·by_cases h:j<m
        ·simp [h,e];omega
        ·rw [if_neg e,if_neg h,if_neg (by omega)]
     ·rw [hx,np_some];have hAe:A=(U'++C'++[(yb,yv,yh)])++V2:=by rw [HU'.out,e];simp
      have hin:(yb,yv,yh)∈A:=by rw [hAe];simp
      have hv:=(hL.val (t:=(yb,yv,yh)) (List.mem_append_left _ hin)).1;have hle:yv≤v:=HC.out _ hin;have hs1:=(hL.node (node_any m hAe) hm8).1;rw [HK.out m _ V2 hAe,hl] at hs1;have HE:=Lib.hid hAe;have HL:=Lib.hid hl;have hlen:V2.length<gk:=by rw [← HV'.out,e];simp;omega
      simp only at hv hle;clear hx hl hAe hin e hk;go_wp2;go_roundg V2.length
      case measure=>omega
      case rel=>exact⟨_,V2,rfl,HE.out,by rw [HL.out],rfl,rfl⟩
   ·have hn1:Node s (A++D) (lastT m s P):=node_any m hU1;have hn2:Node s (A++D) (lastT (m+1) s A):=node_last (m+1) s A D;have hfu:=further_any hL hn1 hn2;have HU1:=Lib.hid hU1;clear hU1 hn1 hn2;go_wp2_with fail;refine hfu.mono ?_;rintro e1 w1 ⟨he,nq,rfl⟩;have hL:=hL.drewN nq;have h1:=h1.drewN nq;have h2:=h2.drewN nq;have hb:=below_drewN hb nq
    rcases he with rfl | rfl
    ·obtain⟨U,V,hU,hx⟩:∃ U V,A=U++V∧lastT m s P=lastT m s U:=⟨P,C,HU1.out,rfl⟩;simp only [hx] at hc ⊢;clear hx;have hc:(wr.drewN nq).cell? ⟨w.heap.size,m,none⟩=some (Pz (lastT m s U)):=hc;have hf:(wr.drewN nq).frozen? ⟨w.heap.size,m,none⟩=false:=hf;have hs0:=(hL.node (node_any m hU) hm8).1;rw [HK.out m U V hU] at hs0;have HU:=Lib.hid hU;clear hU;go_wp2
     go_loopg [5,7] V.length (fun g2 lv nv wq=>∃ U' V':List Tw,V'.length=g2∧A=U'++V'∧lv=Pz (lastT m s U')∧nv=np (nxt m (V'++D))∧wq=(wr.drewN nq))
     case atStart=>exact⟨U,V,rfl,HU.out,rfl,rfl,rfl⟩
     case round=>
      obtain⟨U',V',hV',hU',rfl,rfl,rfl⟩:=hrel;have hst:=on_step m s U' V' D;have HU':=Lib.hid hU';have HV':=Lib.hid hV';clear hU' hV' hs0
      rcases hst with ⟨hx,hl⟩ | ⟨⟨yb,yv,yh⟩,hy,hx,hl⟩ | ⟨C',⟨yb,yv,yh⟩,V2,e,hk,hx,hl⟩
      ·rw [hx,np_none];rw [← HU'.out] at hl;have HL:=Lib.hid hl;clear hx hl;go_wp2;have hl:=HL.out;go_roundg m
       case measure=>omega
       case rel=>
        refine⟨(m:Int)-1,by omega,rfl,by go_num,.inr ⟨by omega,by rw [hl]⟩,?_,h2.far (by simp) _,hb.setCell (by simp) _⟩;have h3:=h1.set m (np (some (lastT m s U')));rw [linkC_set _ hm8] at h3;refine blk_congr h3 (linkC_congr fun j hj=>?_);unfold onP
        by_cases e:j=m
        ·subst e;simp [hl]
        ·by_cases h:j<m
         ·simp [h,e];omega
         ·rw [if_neg e,if_neg h,if_neg (by omega)]
      ·rw [hx,np_some];rw [← HU'.out] at hl;have HL:=Lib.hid hl;have hv:=(hL.val (t:=(yb,yv,yh)) (List.mem_append_right _ hy)).1;have hgt:¬ yv≤v:=by have:=HD.out _ hy;simp at this;omega
       clear hx hl hy;go_wp2;have hl:=HL.out;go_roundg m
       case measure=>omega
       case rel=>
        refine⟨(m:Int)-1,by omega,rfl,by go_num,.inr ⟨by omega,by rw [hl]⟩,?_,h2.far (by simp) _,hb.setCell (by simp) _⟩;have h3:=h1.set m (np (some (lastT m s U')));rw [linkC_set _ hm8] at h3;refine blk_congr h3 (linkC_congr fun j hj=>?_);unfold onP
        by_cases e:j=m
        ·subst e;simp [hl]
        ·by_cases h:j<m
         ·simp [h,e];omega
         ·rw [if_neg e,if_neg h,if_neg (by omega)]
      ·rw [hx,np_some];have hAe:A=(U'++C'++[(yb,yv,yh)])++V2:=by rw [HU'.out,e];simp
       have hin:(yb,yv,yh)∈A:=by rw [hAe];simp
       have hv:=(hL.val (t:=(yb,yv,yh)) (List.mem_append_left _ hin)).1;have hle:yv≤v:=HC.out _ hin;have hs1:=(hL.node (node_any m hAe) hm8).1;rw [HK.out m _ V2 hAe,hl] at hs1;have HE:=Lib.hid hAe;have HL:=Lib.hid hl;have hlen:V2.length<gk:=by rw [← HV'.out,e];simp;omega
       simp only at hv hle;clear hx hl hAe hin e hk;go_wp2;go_roundg V2.length
       case measure=>omega
       case rel=>exact⟨_,V2,rfl,HE.out,by rw [HL.out],rfl,rfl⟩
    ·obtain⟨U,V,hU,hx⟩:=on_begin (k:=m) (s:=s) (A:=A);simp only [hx];clear hx;have hf:(wr.drewN nq).frozen? ⟨w.heap.size,m,none⟩=false:=hf;have hs0:=(hL.node (node_any m hU) hm8).1;rw [HK.out m U V hU] at hs0;have HU:=Lib.hid hU;clear hU;go_wp2
     go_loopg [5,7] V.length (fun g2 lv nv wq=>∃ U' V':List Tw,V'.length=g2∧A=U'++V'∧lv=Pz (lastT m s U')∧nv=np (nxt m (V'++D))∧wq=(wr.drewN nq))
     case atStart=>exact⟨U,V,rfl,HU.out,rfl,rfl,rfl⟩
     case round=>
      obtain⟨U',V',hV',hU',rfl,rfl,rfl⟩:=hrel;have hst:=on_step m s U' V' D;have HU':=Lib.hid hU';have HV':=Lib.hid hV';clear hU' hV' hs0
      rcases hst with ⟨hx,hl⟩ | ⟨⟨yb,yv,yh⟩,hy,hx,hl⟩ | ⟨C',⟨yb,yv,yh⟩,V2,e,hk,hx,hl⟩
      ·rw [hx,np_none];rw [← HU'.out] at hl;have HL:=Lib.hid hl;clear hx hl;go_wp2;have hl:=HL.out;go_roundg m
       case measure=>omega
       case rel=>
        refine⟨(m:Int)-1,by omega,rfl,by go_num,.inr ⟨by omega,by rw [hl]⟩,?_,h2.far (by simp) _,hb.setCell (by simp) _⟩;have h3:=h1.set m (np (some (lastT m s U')));rw [linkC_set _ hm8] at h3;refine blk_congr h3 (linkC_congr fun j hj=>?_);unfold onP
        by_cases e:j=m
        ·subst e;simp [hl]
        ·by_cases h:j<m
         ·simp [h,e];omega
         ·rw [if_neg e,if_neg h,if_neg (by omega)]
      ·rw [hx,np_some];rw [← HU'.out] at hl;have HL:=Lib.hid hl;have hv:=(hL.val (t:=(yb,yv,yh)) (List.mem_append_right _ hy)).1;have hgt:¬ yv≤v:=by have:=HD.out _ hy;simp at this;omega
       clear hx hl hy;go_wp2;have hl:=HL.out;go_roundg m
       case measure=>omega
       case rel=>
        refine⟨(m:Int)-1,by omega,rfl,by go_num,.inr ⟨by omega,by rw [hl]⟩,?_,h2.far (by simp) _,hb.setCell (by simp) _⟩;have h3:=h1.set m (np (some (lastT m s U')));rw [linkC_set _ hm8] at h3;refine blk_congr h3 (linkC_congr fun j hj=>?_);unfold onP
        by_cases e:j=m
        ·subst e;simp [hl]
        ·by_cases h:j<m
         ·simp [h,e];omega
         ·rw [if_neg e,if_neg h,if_neg (by omega)]
      ·rw [hx,np_some];have hAe:A=(U'++C'++[(yb,yv,yh)])++V2:=by rw [HU'.out,e];simp
       have hin:(yb,yv,yh)∈A:=by rw [hAe];simp
       have hv:=(hL.val (t:=(yb,yv,yh)) (List.mem_append_left _ hin)).1;have hle:yv≤v:=HC.out _ hin;have hs1:=(hL.node (node_any m hAe) hm8).1;rw [HK.out m _ V2 hAe,hl] at hs1;have HE:=Lib.hid hAe;have HL:=Lib.hid hl;have hlen:V2.length<gk:=by rw [← HV'.out,e];simp;omega
       simp only at hv hle;clear hx hl hAe hin e hk;go_wp2;go_roundg V2.length
       case measure=>omega
       case rel=>exact⟨_,V2,rfl,HE.out,by rw [HL.out],rfl,rfl⟩
def putP (s m:Nat) (A:List Tw) (t:Tw):Nat→Nat:=fun j=>if j<m then t.1 else lastT j s A
theorem put_any {w:World} {s many most:Nat} {A R:List Tw} {S:Nat→Prop} (t:Tw) (h:Links w s many most (A++t::R) (linkOf s (A++R)) S) (ha:Apart s (A++t::R)) (h8:t.2.2≤8):
  Calls Tryz.prog 276 #[.agg (linkC fun k=>some (lastT k s A)),Pz t.1] w fun e w'=>e=.returned (.agg (linkC fun k=>some (lastT k s (A++[t]))))∧Links w' s many most (A++t::R) (linkOf s (A++t::R)) S∧Mod S w w':=by
 obtain⟨tb,tv,th⟩:=t;have h0:=(h.val (t:=(tb,tv,th)) (by simp)).2;have hlt:tb<w.heap.size:=(h.tw (tb,tv,th) (by simp)).1.lt;simp only at h8 h0;go_enter Tryz.func276,Tryz.ntmps276;go_wp2
 go_loopg [10] th (fun g k wr=>∃ m:Nat,m+g=th∧k=Iv (m:Int)∧Links wr s many most (A++(tb,tv,th)::R) (mixed s A R (tb,tv,th) m) (fun b=>S b∧b<w.heap.size)∧Blk wr w.heap.size 343 (linkC fun j=>some (putP s m A (tb,tv,th) j))∧Blk wr (w.heap.size+1) 343 (linkC fun _=>none)∧Mod S w wr)
 case atStart=>
  refine⟨0,by omega,rfl,?_,?_,?_,((Mod.refl _ w).alloc _).alloc _⟩
  ·rw [mixed_zero];exact(h.lt.alloc _).alloc _
  ·exact blk_congr ((Blk.new w 343 (linkC fun k=>some (lastT k s A))).alloc _) (linkC_congr fun k hk=>by rw [show putP s 0 A (tb,tv,th) k=lastT k s A from if_neg (by omega)])
  ·have:=Blk.new (w.alloc (.cells (linkC fun k=>some (lastT k s A)) 343)) 343 (linkC fun _=>none);rw [World.size_alloc] at this;exact this
 case round=>
  obtain⟨m,hm,rfl,hL,h1,h2,hmod⟩:=hrel
  by_cases hlt2:m<th
  ·have hm8:m<8:=by omega
   have hn1:Node s (A++(tb,tv,th)::R) (lastT m s A):=node_last m s A _;have hn2:Node s (A++(tb,tv,th)::R) tb:=.inr ⟨(tb,tv,th),by simp,rfl⟩;have hxne:lastT m s A≠tb:=lastT_ne ha m;obtain⟨x,hx⟩:∃ x,lastT m s A=x:=⟨_,rfl⟩;obtain⟨c1,f1⟩:=hL.node hn1 hm8;obtain⟨c2,f2⟩:=hL.node hn2 hm8;rw [mixed_at ha m] at c1;have hc:=(h1.cell m).trans (linkC_at _ hm8);rw [show putP s m A (tb,tv,th) m=lastT m s A from if_neg (by omega),np_some] at hc;have hf:=h1.frozen m;have hxl:=(hL.nodeS hn1).2;rw [hx] at c1 f1 hxne hc hxl;have hxb:¬ x=w.heap.size:=by omega
   have htb:¬ tb=w.heap.size:=by omega
   have HX:=Lib.hid hx;have HM:=Lib.hid hm;have HL:=Lib.hid hL;clear hx hn1 hn2 hm hL;go_wp2;have c1':wr.drew.cell? ⟨x,2+m,none⟩=_:=c1;have c2':wr.drew.cell? ⟨tb,2+m,none⟩=_:=c2;have f1':wr.drew.frozen? ⟨x,2+m,none⟩=false:=f1;have f2':wr.drew.frozen? ⟨tb,2+m,none⟩=false:=f2;have hc':wr.drew.cell? ⟨w.heap.size,m,none⟩=_:=hc;have hf':wr.drew.frozen? ⟨w.heap.size,m,none⟩=false:=hf;have hmi:(m:Int)<8:=by omega
   obtain⟨y,hy⟩:∃ y,nxt m R=y:=⟨_,rfl⟩;rw [hy] at c1 c1';have HY:=Lib.hid hy;clear hy
   cases y with
   | none=>
    rw [np_none] at c1 c1'
    go_region
    go_wp2;have hx:=HX.out;have hm:=HM.out;have hL:=HL.out;have hy:=HY.out;have hn1:Node s (A++(tb,tv,th)::R) (lastT m s A):=node_last m s A _;have hn2:Node s (A++(tb,tv,th)::R) tb:=.inr ⟨(tb,tv,th),by simp,rfl⟩;rw [hx] at hn1;have hs2:=mixed_step ha hlt2;simp only [hx,hy] at hs2;have hL2:=(hL.set hn2 hm8 (none)).set hn1 hm8 (some tb);rw [hs2] at hL2;have hq1:=(hL.nodeS hn1).1;have hq2:=(hL.nodeS hn2).1;go_roundg (gk-1)
    case measure=>omega
    case rel=>
     have h3:=((h1.far (p:=⟨tb,2+m,none⟩) (fun e=>htb e.symm) ((Value.pointer none))).far (p:=⟨x,2+m,none⟩) (fun e=>hxb e.symm) (Pz tb)).set m (np (some tb));rw [linkC_set _ hm8] at h3
     refine⟨m+1,by omega,by go_num,(hL2.mod (U:=fun b=>b=w.heap.size) ((Mod.refl (fun b=>b=w.heap.size) _).setCell (p:=⟨w.heap.size,m,none⟩) (.inl rfl) (Pz tb)) fun b hb e=>by omega).drew,(blk_congr h3 (linkC_congr fun j hj=>?_)).drew,(((h2.far (p:=⟨tb,2+m,none⟩) (fun e=>by simp at e;omega) ((Value.pointer none))).far (p:=⟨x,2+m,none⟩) (fun e=>by simp at e;omega) _).far (p:=⟨w.heap.size,m,none⟩) (fun e=>by simp at e) _).drew,
      (((hmod.setCell (p:=⟨tb,2+m,none⟩) (.inl hq2) _).setCell (p:=⟨x,2+m,none⟩) (.inl hq1) _).setCell (p:=⟨w.heap.size,m,none⟩) (.inr (Nat.le_refl _)) _).drew⟩
     unfold putP
     by_cases e:j=m
     ·subst e;simp
     ·by_cases h:j<m
      ·simp [h,e];omega
      ·rw [if_neg e,if_neg h,if_neg (by omega)]
   | some y=>
    rw [np_some] at c1 c1'
    go_region
    go_wp2;have hx:=HX.out;have hm:=HM.out;have hL:=HL.out;have hy:=HY.out;have hn1:Node s (A++(tb,tv,th)::R) (lastT m s A):=node_last m s A _;have hn2:Node s (A++(tb,tv,th)::R) tb:=.inr ⟨(tb,tv,th),by simp,rfl⟩;rw [hx] at hn1;have hs2:=mixed_step ha hlt2;simp only [hx,hy] at hs2;have hL2:=(hL.set hn2 hm8 ((some y))).set hn1 hm8 (some tb);rw [hs2] at hL2;have hq1:=(hL.nodeS hn1).1;have hq2:=(hL.nodeS hn2).1;go_roundg (gk-1)
    case measure=>omega
    case rel=>
     have h3:=((h1.far (p:=⟨tb,2+m,none⟩) (fun e=>htb e.symm) ((Pz y))).far (p:=⟨x,2+m,none⟩) (fun e=>hxb e.symm) (Pz tb)).set m (np (some tb));rw [linkC_set _ hm8] at h3
     refine⟨m+1,by omega,by go_num,(hL2.mod (U:=fun b=>b=w.heap.size) ((Mod.refl (fun b=>b=w.heap.size) _).setCell (p:=⟨w.heap.size,m,none⟩) (.inl rfl) (Pz tb)) fun b hb e=>by omega).drew,(blk_congr h3 (linkC_congr fun j hj=>?_)).drew,(((h2.far (p:=⟨tb,2+m,none⟩) (fun e=>by simp at e;omega) ((Pz y))).far (p:=⟨x,2+m,none⟩) (fun e=>by simp at e;omega) _).far (p:=⟨w.heap.size,m,none⟩) (fun e=>by simp at e) _).drew,
      (((hmod.setCell (p:=⟨tb,2+m,none⟩) (.inl hq2) _).setCell (p:=⟨x,2+m,none⟩) (.inl hq1) _).setCell (p:=⟨w.heap.size,m,none⟩) (.inr (Nat.le_refl _)) _).drew⟩
     unfold putP
     by_cases e:j=m
     ·subst e;simp
     ·by_cases h:j<m
      ·simp [h,e];omega
      ·rw [if_neg e,if_neg h,if_neg (by omega)]
  ·obtain rfl:m=th:=by omega
   rw [linkC_congr (g:=fun k=>some (lastT k s (A++[(tb,tv,m)]))) fun k _=>by
    congr 1
    unfold putP
    by_cases e:k<m
    ·rw [if_pos e,lastT_snoc_on e]
    ·rw [if_neg e,lastT_snoc_off e]] at h1
   go_wp2_with (first | (refine wpList_load_path rfl _ rfl rfl h1 ?_) | (refine wpList_store_path rfl _ _ rfl rfl rfl h2 rfl ?_;intro w2 h3 hm2));refine bodyPost_ret (results_path rfl rfl h3) rfl ⟨rfl,((hL.congr fun x j _=>mixed_full ha x j).mod hm2 fun b hb e=>by omega).mono fun b hb=>hb.1,hmod.trans hm2 fun b hb=>.inr (by omega)⟩
abbrev It:=Int×Nat
structure SkT (w:World) (s:Nat) (S:Nat→Prop) (m:Nat) (T:List Tw):Prop where
 links:Links w s T.length m T (linkOf s T) S
 apart:Apart s T
 high:∀ t∈T,1≤t.2.2∧t.2.2≤8
 room:T.length≤m
 most:m≤1000
 sorted:T.Pairwise fun a b=>a.2.1≤b.2.1
def SkAt (w:World) (s:Nat) (S:Nat→Prop) (m:Nat) (L:List It):Prop:=∃ T:List Tw,T.map (·.2)=L∧SkT w s S m T
theorem SkT.mono {w:World} {s m:Nat} {S U:Nat→Prop} {T:List Tw} (h:SkT w s S m T) (hS:∀ b,S b→U b):SkT w s U m T:=⟨h.links.mono hS,h.apart,h.high,h.room,h.most,h.sorted⟩
theorem SkT.keep {w w':World} {s m:Nat} {S:Nat→Prop} {T:List Tw} (h:SkT w s S m T) (hb:Below w.heap.size w w'):SkT w' s S m T:=⟨h.links.keep hb,h.apart,h.high,h.room,h.most,h.sorted⟩
theorem stable_sk (s m:Nat) (L:List It):Stable (fun w S=>SkAt w s S m L):=
 ⟨fun ⟨T,e,h⟩ hS=>⟨T,e,h.mono hS⟩,fun⟨T,e,h⟩ hm hd=>⟨T,e,h.links.mod hm hd,h.apart,h.high,h.room,h.most,h.sorted⟩,fun⟨T,e,h⟩=>⟨T,e,h.links.lt,h.apart,h.high,h.room,h.most,h.sorted⟩⟩
def skR (s m:Nat) (L:List It):Res:=⟨fun w S=>SkAt w s S m L,stable_sk s m L⟩
theorem skAt_new (w:World) {m:Nat} (hm:m≤1000):SkAt (w.alloc (.cells (skC (fun _=>none) 0 m) 183)) w.heap.size (fun x=>w.heap.size≤x∧x<(w.alloc (.cells (skC (fun _=>none) 0 m) 183)).heap.size) m []:=
 ⟨[],rfl,⟨(skC_congr (g:=linkOf w.heap.size [] w.heap.size) fun k _=>by rw [linkOf_head,nxt_nil])▸Blk.new w _ _,⟨Nat.le_refl _,by simp⟩,nofun⟩,by simp [Apart],by simp,Nat.zero_le _,hm,List.Pairwise.nil⟩
def insL (L:List It) (v:Int) (h:Nat):List It:=L.takeWhile (fun a=>decide (a.1≤v))++(v,h)::L.dropWhile (fun a=>decide (a.1≤v))
theorem split_len {α:Type} (p:α→Bool) (L:List α):(L.takeWhile p).length+(L.dropWhile p).length=L.length:=by rw [← List.length_append,List.takeWhile_append_dropWhile]
theorem insL_length (L:List It) (v:Int) (h:Nat):(insL L v h).length=L.length+1:=by
 unfold insL;rw [List.length_append,List.length_cons,←split_len (fun a:It=>decide (a.1≤v)) L]
 rfl
theorem drop_gt {v:Int}:∀ {T:List Tw},T.Pairwise (fun a b=>a.2.1≤b.2.1)→∀ t∈T.dropWhile (fun t=>decide (t.2.1≤v)),v<t.2.1
 | [],_,t,ht=>by simp at ht
 | x::T,hp,t,ht=>by
  rw [List.dropWhile_cons] at ht
  split at ht
  ·exact drop_gt (List.pairwise_cons.1 hp).2 t ht
  ·rename_i hx;simp at hx
   rcases List.mem_cons.1 ht with rfl | ht
   ·exact hx
   ·have:=(List.pairwise_cons.1 hp).1 t ht;omega
theorem take_le {v:Int} {T:List Tw}:∀ t∈T.takeWhile (fun t=>decide (t.2.1≤v)),t.2.1≤v:=fun t ht=>by
 have:=List.all_takeWhile (l:=T) (p:=fun t=>decide (t.2.1≤v));rw [List.all_eq_true] at this
 simpa using this t ht
theorem ins_map (T:List Tw) (v:Int) (b h:Nat):(T.takeWhile (fun t=>decide (t.2.1≤v))++(b,v,h)::T.dropWhile (fun t=>decide (t.2.1≤v))).map (·.2)=insL (T.map (·.2)) v h:=by
 unfold insL;rw [List.map_append,List.map_cons,List.takeWhile_map,List.dropWhile_map]
 rfl
theorem split_it {T:List Tw} (hs:T.Pairwise fun a b=>a.2.1≤b.2.1) (v:Int):∃ C D:List Tw,T=C++D∧(∀ t∈C,t.2.1≤v)∧(∀ t∈D,v<t.2.1)∧∀ b h:Nat,(C++(b,v,h)::D).map (·.2)=insL (T.map (·.2)) v h:=
 ⟨_,_,(List.takeWhile_append_dropWhile).symm,take_le,drop_gt hs,ins_map T v⟩
theorem SkT.put {w w':World} {s m:Nat} {S U:Nat→Prop} {C D:List Tw} {v:Int} {h b:Nat} (hk:SkT w s S m (C++D)) (hC:∀ t∈C,t.2.1≤v) (hD:∀ t∈D,v<t.2.1) (hf:(C++D).length<m) (h1:1≤h) (h8:h≤8)
  (hl:Links w' s ((C++D).length+1) m (C++(b,v,h)::D) (linkOf s (C++(b,v,h)::D)) U) (ha:Apart s (C++(b,v,h)::D)):SkT w' s U m (C++(b,v,h)::D):=by
 have hlen:(C++(b,v,h)::D).length=(C++D).length+1:=by simp;omega
 refine⟨by rw [hlen];exact hl,ha,fun t ht=>?_,by omega,hk.most,?_⟩
 ·rcases List.mem_append.1 ht with ht | ht
  ·exact hk.high t (List.mem_append_left _ ht)
  ·rcases List.mem_cons.1 ht with rfl | ht
   ·exact⟨h1,h8⟩
   ·exact hk.high t (List.mem_append_right _ ht)
 ·obtain⟨p1,p2,p3⟩:=List.pairwise_append.1 hk.sorted;refine List.pairwise_append.2 ⟨p1,List.pairwise_cons.2 ⟨fun t ht=>?_,p2⟩,fun x hx y hy=>?_⟩
  ·exact Int.le_of_lt (hD t ht)
  ·rcases List.mem_cons.1 hy with rfl | hy
   ·exact hC x hx
   ·exact p3 x hx y hy
theorem put_new {w:World} {s many most:Nat} {A R:List Tw} {S:Nat→Prop} (v:Int) (h:Nat) (hl:Links w s many most (A++R) (linkOf s (A++R)) S) (ha:Apart s (A++R)) (h8:h≤8):
  Calls Tryz.prog 276 #[.agg (linkC fun k=>some (lastT k s A)),Pz w.heap.size] (w.alloc (.cells (towC v h fun _=>none) 181)) fun e w'=>e=.returned (.agg (linkC fun k=>some (lastT k s (A++[(w.heap.size,v,h)]))))∧
   Links w' s many most (A++(w.heap.size,v,h)::R) (linkOf s (A++(w.heap.size,v,h)::R)) (grow S w w')∧Apart s (A++(w.heap.size,v,h)::R)∧Mod S w w':=by
 have hs:w.heap.size≠s:=by have:=hl.hd.lt;omega
 have ht:∀ u∈A++R,u.1≠w.heap.size:=fun u hu=>by have:=(hl.tw u hu).1.lt;omega
 have ha2:Apart s (A++(w.heap.size,v,h)::R):=ha.add hs ht
 have h1:Links (w.alloc (.cells (towC v h fun _=>none) 181)) s many most (A++(w.heap.size,v,h)::R) (linkOf s (A++R)) (grow S w (w.alloc (.cells (towC v h fun _=>none) 181))):=by
  have hl1:=hl.alloc (.cells (towC v h fun _=>none) 181);refine⟨hl1.hd,.inl hl.hs,fun t hm=>?_⟩
  rcases List.mem_append.1 hm with hm | hm
  ·exact⟨(hl1.tw t (List.mem_append_left _ hm)).1,.inl (hl.tw t (List.mem_append_left _ hm)).2⟩
  ·rcases List.mem_cons.1 hm with rfl | hm
   ·refine⟨?_,.inr ⟨Nat.le_refl _,by simp⟩⟩;exact blk_congr (Blk.new w _ _) (towC_congr fun k _=>(linkOf_new hs ht k).symm)
   ·exact⟨(hl1.tw t (List.mem_append_right _ hm)).1,.inl (hl.tw t (List.mem_append_right _ hm)).2⟩
 refine(put_any (w.heap.size,v,h) h1 ha2 h8).mono fun e w' ⟨he,hl2,hm⟩=>⟨he,hl2.mono fun b hb=>grow_mono hm.size b hb,ha2,?_⟩
 exact((Mod.refl S w).alloc _).trans hm fun b hb=>by
  rcases hb with hb | hb
  ·exact .inl hb
  ·exact .inr hb.1
theorem insert_full {w:World} {s m:Nat} {S:Nat→Prop} {L:List It} (h:SkAt w s S m L) (hf:¬ L.length<m) (v n:Int):Calls Tryz.prog 269 #[Pz s,Iw v,Iv n] w fun e w'=>e=.returned (.bool false)∧∃ nq,w'=w.drewN nq:=by
 obtain⟨T,rfl,h⟩:=h;rw [List.length_map] at hf;obtain⟨h1,h2,_⟩:=h.links.sizes;have hge:(m:Int)≤(T.length:Int):=by omega
 generalize T.length=n1 at*;clear hf h;have h1':w.drew.cell? ⟨s,10,none⟩=_:=h1;have h2':w.drew.cell? ⟨s,11,none⟩=_:=h2;go_enter Tryz.func269,Tryz.ntmps269;go_wp2_with fail
 go_region
 go_wp2_with fail;go_ret;exact⟨rfl,_,rfl⟩
theorem insert_any {w:World} {s m:Nat} {S:Nat→Prop} {L:List It} (h:SkAt w s S m L) (hf:L.length<m) (v n:Int):Calls Tryz.prog 269 #[Pz s,Iw v,Iv n] w fun e w'=>e=.returned (.bool true)∧SkAt w' s (grow S w w') m (insL L v (tallI n))∧Mod S w w':=by
 obtain⟨T,rfl,h⟩:=h;rw [List.length_map] at hf;obtain⟨C,D,hT,hC,hD,hI⟩:=split_it h.sorted v;have hI2:=fun b=>hI b (tallI n);obtain⟨L',hL'⟩:∃ L',insL (T.map (·.2)) v (tallI n)=L':=⟨_,rfl⟩;simp only [hL'] at hI2 ⊢;clear hL' hI;subst hT;obtain⟨h1,h2,_⟩:=h.links.sizes;have hd:decide (m≤(C++D).length)=false:=decide_eq_false (by omega);have h1':w.drew.cell? ⟨s,10,none⟩=_:=h1;have h2':w.drew.cell? ⟨s,11,none⟩=_:=h2;have hlo:=tallI_le n;obtain⟨th,hth⟩:∃ th,tallI n=th:=⟨_,rfl⟩;rw [hth] at hI2 hlo;have hN1:(C++D).length≤1000:=by have:=h.most;omega
 have H:=Lib.hid h;have HF:=Lib.hid hf;have HI:=Lib.hid hI2;have HL:=Lib.hid hlo;have HC:=Lib.hid hC;have HD:=Lib.hid hD;have HH:=Lib.hid hth;clear h hf hI2 hlo hC hD hth;obtain⟨N,hN⟩:∃ N,(C++D).length=N:=⟨_,rfl⟩;rw [hN] at h1 hd h1' hN1;have HN:=Lib.hid hN;clear hN;go_enter Tryz.func269,Tryz.ntmps269;go_wp2_with fail
 go_region
 go_wp2_with fail;have hm0:=H.out.links.drew;refine(begin_any hm0).mono ?_;rintro e w1 ⟨rfl,b1⟩;have hm1:Links w1 s (C++D).length m ([]++C++D) (linkOf s ([]++C++D)) S:=hm0.keep b1;clear h1 h2 h1' h2';go_wp2_with fail;refine(on_any (P:=[]) v hm1 H.out.apart HC.out HD.out).mono ?_;rintro e w2 ⟨rfl,b2⟩;have hm2:Links w2 s (C++D).length m (C++D) (linkOf s (C++D)) S:=hm1.keep b2;have hmod2:Mod S w w2:=(Mod.of_below (Below.refl _ w).drew).trans ((Mod.of_below (S:=S) b1).trans (Mod.of_below (S:=S) b2) fun b hb=>.inl hb) fun b hb=>.inl hb;clear hm0 hm1;go_wp2_with fail;refine(tall_any v n w2).mono ?_;rintro e w3 ⟨rfl,rfl⟩;go_wp2_with fail;rw [HH.out];refine(put_new v th hm2 H.out.apart HL.out.2).mono ?_;rintro e w4 ⟨rfl,hm4,ha4,hmod4⟩;obtain⟨g1,g2,g3⟩:=hm4.sizes;rw [HN.out] at g1;have hm5:=hm4.setMany ((C++D).length+1);have hsk:=H.out.put HC.out HD.out HF.out HL.out.1 HL.out.2 hm5 ha4;have hmod5:=(hmod2.trans hmod4 fun b hb=>.inl hb).setCell (p:=⟨s,10,none⟩) (.inl H.out.links.hs) (Iv (((C++D).length+1:Nat):Int))
 have hmod6:=hmod2.size;rw [HN.out] at hsk hmod5;clear hm5 hm4 ha4 hm2 hmod2;go_wp2_with fail;go_ret;refine⟨rfl,⟨_,HI.out _,hsk.mono fun b hb=>?_⟩,hmod5⟩
 rcases hb with hb | hb
 ·exact .inl hb
 ·exact .inr ⟨by omega,by simp [World.setCell];omega⟩
end Go.Proofs.YtadgbhjpgnlmoaaGreat.Skp
