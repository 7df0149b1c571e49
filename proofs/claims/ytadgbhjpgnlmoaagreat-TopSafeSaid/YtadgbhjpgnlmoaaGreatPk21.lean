/- TopSafe, a part of its proof; no conditions. -/
import Derived.Test.YtadgbhjpgnlmoaaGreatPk20
set_option linter.all false
namespace Go.Rp.Rng
open Go.RowKit
theorem Sep.pick {w:World} {U:Nat→Prop} {x:Res}:∀ (l1:List Res) {l2:List Res},Sep w U (l1++x::l2)→Sep w U (x::(l1++l2))
 | [],_,h=>h
 | a::l1,l2,h=>by
  have h2:Sep w U (a::x::(l1++l2)):=Sep.cons (fun _ h=>Sep.pick l1 h) h;exact h2.rot2
theorem perm10 {w:World} {U:Nat→Prop} {a b c d e f g h i j:Res} {l:List Res} (s:Sep w U (a::b::c::d::e::f::g::h::i::j::l)):Sep w U (i::j::g::c::d::a::b::e::f::h::l):=
 Sep.pick [j,g,c,d,a,b,e,f,h] (Sep.pick [g,c,d,a,b,e,f,h,i] (Sep.pick [c,d,a,b,e,f,h] (Sep.pick [d,a,b,e,f,h] (Sep.pick [a,b,e,f,h,c] (Sep.pick [b,e,f,h] (Sep.pick [e,f,h,a] (Sep.pick [f,h,a,b,c,d] (Sep.pick [h,a,b,c,d,e] (Sep.pick [a,b,c,d,e,f,g] s)))))))))
theorem last4 {w:World} {U:Nat→Prop} {ring put ob s1 s2 told head vals vbox take:Res} {l:List Res} (s:Sep w U (ring::put::ob::s1::s2::told::head::vals::vbox::take::l)):Sep w U (told::vals::vbox::ring::l):=by
 have h1:=Sep.rot2 (Sep.cons (fun _ h=>h.drop.drop.drop.drop) s);have h2:=Sep.cons (fun _ h=>Sep.rot2 (Sep.cons (fun _ h=>h.drop) h)) h1;exact Sep.cons (fun _ h=>Sep.cons (fun _ h=>Sep.rot2 h) h) (Sep.cons (fun _ h=>Sep.cons (fun _ h=>Sep.cons (fun _ h=>Sep.cons (fun _ h=>h.drop) h) h) h) h2) |> fun h=>h
theorem popE_pr (st:ES):(popE st).2.1= -1∨∃ j:Nat,(popE st).2.1=(j:Int):=by
 obtain⟨wl,b,wr⟩:=st
 rcases List.eq_nil_or_concat wl with rfl | ⟨l,i,hli⟩
 ·rcases Nat.eq_zero_or_pos b with rfl | hb
  ·rcases wr with _ | ⟨i,r⟩
   ·rw [popE_no];exact .inl rfl
   ·rw [popE_far];exact .inr ⟨i,rfl⟩
  ·rw [popE_btw b wr hb];exact .inl rfl
 ·rw [List.concat_eq_append] at hli;subst hli;rw [popE_near];exact .inr ⟨i,rfl⟩
theorem step_pr (most k:Nat) (o:Int) (st:ES):(mStep most k o st).2.1= -1∨∃ j:Nat,(mStep most k o st).2.1=(j:Int):=by
 unfold mStep
 split
 ·left;unfold pushE;split<;>rfl
 ·split
  ·left;unfold pushE;split<;>rfl
  ·split
   ·exact popE_pr st
   ·split
    ·exact popE_pr (flip st)
    ·exact .inl rfl
end Go.Rp.Rng
namespace Go.Proofs.YtadgbhjpgnlmoaaGreat.Rng
set_option maxRecDepth 100000
open Go.RowKit Go.Rp Go.Rp.Rng
section
variable {B:Nat} {w W:World} {L:List Res} {A:Option Addr} {n c bv bo bt gv k:Nat} {ops:List (Int×Int)}
theorem got_y {be p mo:Nat} {l0:List Int} {e pr:Int} (hle:B≤w.heap.size) (hb:Below B w W) (hbe:l0.length=be) (hn:ops.length=n) (hlen:n≤100000) {R:Nat→Prop} (hr:Rd W R 2 A n (ops.flatMap opIn)) (hk:k<n) (hj:(mStep mo k (kindAt ops k) (mAt mo be ops k)).2=(pr,2)) (hkd:kindAt ops k=3+e)
  (hW:At B W (valsR gv n (fillL n k (vV l0 mo ops) (Iw 0))::vboxR bv gv n::oboxR bo A n c::takeR bt (some ⟨p,0,none⟩)::ringR p mo (rgAt l0 mo ops k)::L)):
  Calls Tryz.prog 245 #[Iv (k:Int),Iv e,Iv pr,Pz bt,Pz bv,Pz bo] W fun e w'=>e=.returned (.tuple #[])∧At B w' (valsR gv n (fillL n (k+1) (vV l0 mo ops) (Iw 0))::vboxR bv gv n::oboxR bo A n c::takeR bt (some ⟨p,0,none⟩)::ringR p mo (rgAt l0 mo ops (k+1))::L)∧Below B W w':=by
 subst hbe;have hlk:k<ops.length:=by omega
 have hq:(fillL n k (vV l0 mo ops) (Iw 0))[k]? =some (Iw 0):=by rw [List.getElem?_eq_getElem (by rw [fillL_length];exact hk),fillL_get _ _ _ _ _ hk,if_neg (by omega)]
 have hBW:=Nat.le_trans hle hb.size
 rcases step_pr mo k (kindAt ops k) (mAt mo l0.length ops k) with hp | ⟨j,hp⟩
 ·rw [hj] at hp;dsimp only at hp;subst hp;have hrg:=rgAt_succ (l0:=l0) (mo:=mo) hlk;have hv:mVal l0 mo ops k=mV (valAt ops) (kindAt ops k) (mStep mo k (kindAt ops k) (mAt mo l0.length ops k)) (rgAt l0 mo ops k):=rfl
  rcases step_btw hj (rgAt_len l0 mo ops k (by omega)) with ⟨h3,x,t,hx⟩ | ⟨h4,t,x,hx⟩
  ·obtain rfl:e=0:=by omega
   have e1:rgAt l0 mo ops (k+1)=t:=by rw [hrg,h3,hx];rw [h3] at hj;unfold rgStep;rw [if_pos hj,if_pos rfl];rfl
   have e2:mVal l0 mo ops k=x:=by rw [hv,h3,hx];rw [h3] at hj;unfold mV;rw [hj];rfl
   rw [e1];rw [hx] at hW;have:=taken0_s (bo:=bo) hBW (Sep.cons (fun _ h=>Sep.cons (fun _ h=>h.rot3.rot3) h) hW) hk hlen hq;rw [fillL_succ n k (vV l0 mo ops) _ _ (by unfold vV;rw [e2])] at this;exact this.mono fun e w' ⟨he,hs,hb⟩=>⟨he,Sep.cons (fun _ h=>Sep.cons (fun _ h=>h.rot3) h) hs,hb⟩
  ·obtain rfl:e=1:=by omega
   have e1:rgAt l0 mo ops (k+1)=t:=by rw [hrg,h4,hx];rw [h4] at hj;unfold rgStep;rw [if_pos hj,if_neg (by decide)];simp
   have e2:mVal l0 mo ops k=x:=by rw [hv,h4,hx];rw [h4] at hj;unfold mV;rw [hj];simp
   rw [e1];rw [hx] at hW;have:=taken1_s (bo:=bo) hBW (Sep.cons (fun _ h=>Sep.cons (fun _ h=>h.rot3.rot3) h) hW) hk hlen hq;rw [fillL_succ n k (vV l0 mo ops) _ _ (by unfold vV;rw [e2])] at this;exact this.mono fun e w' ⟨he,hs,hb⟩=>⟨he,Sep.cons (fun _ h=>Sep.cons (fun _ h=>h.rot3) h) hs,hb⟩
 ·rw [hj] at hp;dsimp only at hp;subst hp
  have hjk:j<k:=by
   rcases step_met hj with h | h
   ·exact(mAt_lt _ _ _ _).1 j h
   ·exact(mAt_lt _ _ _ _).2 j h
  rw [rgAt_same hlk (met_ne hj)];have hv:mVal l0 mo ops k=valAt ops j:=mV_met hj;have:=met2_s (bt:=bt) hBW hW hr hn hk (show j<n by omega) hlen hq e
  rwa [fillL_succ n k (vV l0 mo ops) _ _ (by unfold vV;rw [hv])] at this
end
section
variable {B:Nat} {w:World} {p N:Nat} {l:List Int} {L:List Res}
theorem pushL_ok (hB:B≤w.heap.size) (h:At B w (ringR p N l::L)) (hr:l.length<N) (x:Int):Calls Tryz.prog 242 #[Pz p,Iw x] w fun e w'=>e=.returned (.bool true)∧At B w' (ringR p N (x::l)::L)∧Below B w w':=by
 have:=pushL_s hB h x
 rwa [decide_eq_true hr,if_pos hr] at this
theorem pushR_ok (hB:B≤w.heap.size) (h:At B w (ringR p N l::L)) (hr:l.length<N) (x:Int):Calls Tryz.prog 243 #[Pz p,Iw x] w fun e w'=>e=.returned (.bool true)∧At B w' (ringR p N (l++[x])::L)∧Below B w w':=by
 have:=pushR_s hB h x
 rwa [decide_eq_true hr,if_pos hr] at this
end
theorem side0 (A1 A2:Option Addr) (n1 c1 n2 c2:Nat) (w:World):(Instr.index 313 (.agg #[.slice A1 n1 c1,.slice A2 n2 c2]) (Iv 0)).run Tryz.prog w=.ok (.agg #[.slice A1 n1 c1]) w:=by kernel_rfl
theorem side1 (A1 A2:Option Addr) (n1 c1 n2 c2:Nat) (w:World):(Instr.index 313 (.agg #[.slice A1 n1 c1,.slice A2 n2 c2]) (Iv 1)).run Tryz.prog w=.ok (.agg #[.slice A2 n2 c2]) w:=by kernel_rfl
theorem apply_start {B:Nat} {w:World} {L:List Res} {p mo be:Nat} {l0:List Int} {A:Option Addr} {n c:Nat} (hB:B≤w.heap.size) (hlm:be≤mo) (hmo:mo≤1000) (hn:n≤100000) (P:Option Addr) (hP:P=some ⟨p,0,none⟩) (h:At B w (ringR p mo l0::L)):
  At B ((((((w.alloc (.cells #[.slice A n c] 81)).alloc (.cells #[.slice none 0 0,.slice none 0 0,Iv (be:Int),Iv (mo:Int)] 315)).alloc (.cells #[bound 240 P,bound 241 P] 316)).alloc (.cells #[bound 242 P,bound 243 P] 317)).alloc (.cells (madeCells #[Iw 0] n) 21)).alloc (.cells #[.slice (some ⟨w.heap.size+1+1+1+1,0,none⟩) n n] 35))
   (meetR (w.heap.size+1) mo ([],be,[])::valsR (w.heap.size+1+1+1+1) n (List.replicate n (Iw 0))::vboxR (w.heap.size+1+1+1+1+1) (w.heap.size+1+1+1+1) n::oboxR w.heap.size A n c::takeR (w.heap.size+1+1) P::ringR p mo l0::putR (w.heap.size+1+1+1) P::L)∧
  Below B w ((((((w.alloc (.cells #[.slice A n c] 81)).alloc (.cells #[.slice none 0 0,.slice none 0 0,Iv (be:Int),Iv (mo:Int)] 315)).alloc (.cells #[bound 240 P,bound 241 P] 316)).alloc (.cells #[bound 242 P,bound 243 P] 317)).alloc (.cells (madeCells #[Iw 0] n) 21)).alloc (.cells #[.slice (some ⟨w.heap.size+1+1+1+1,0,none⟩) n n] 35)):=by
 have s1:=h.alloc hB #[.slice A n c] 81;have b1:=(Below.refl B w).alloc hB (.cells #[.slice A n c] 81);have s2:=meet_new (Nat.le_trans hB b1.size) hlm hmo s1;have b2:=b1.alloc (Nat.le_trans hB b1.size) (.cells #[.slice none 0 0,.slice none 0 0,Iv (be:Int),Iv (mo:Int)] 315);have s3:=s2.alloc (Nat.le_trans hB b2.size) #[bound 240 P,bound 241 P] 316;have b3:=b2.alloc (Nat.le_trans hB b2.size) (.cells #[bound 240 P,bound 241 P] 316);have s4:=s3.alloc (Nat.le_trans hB b3.size) #[bound 242 P,bound 243 P] 317;have b4:=b3.alloc (Nat.le_trans hB b3.size) (.cells #[bound 242 P,bound 243 P] 317);have s5:=row_new (Nat.le_trans hB b4.size) hn (z:=Iw 0) 21 s4;have b5:=b4.alloc (Nat.le_trans hB b4.size) (.cells (madeCells #[Iw 0] n) 21);have s6:=s5.alloc (Nat.le_trans hB b5.size) #[.slice (some ⟨w.heap.size+1+1+1+1,0,none⟩) n n] 35;have b6:=b5.alloc (Nat.le_trans hB b5.size) (.cells #[.slice (some ⟨w.heap.size+1+1+1+1,0,none⟩) n n] 35)
 simp only [World.size_alloc] at s6;refine⟨?_,b6⟩;exact Sep.pick [_,_,_,_,_,_] (Sep.pick [_,_,_,_,_] (Sep.pick [_,_,_,_] (Sep.pick [_,_,_,_,_,_] (Sep.pick [_,_,_,_] (Sep.pick [_,_,_,_,_,_] (Sep.pick [_,_] (s6)))))))
set_option maxRecDepth 100000 in
set_option maxHeartbeats 4000000 in
theorem Apply_y {B:Nat} {w:World} {L:List Res} {p mo:Nat} {l0:List Int} {A:Option Addr} {n c:Nat} {ops:List (Int×Int)} (hB:B≤w.heap.size) (h:At B w (ringR p mo l0::L)) (hn:ops.length=n) (h8:∀ o∈ops,0≤o.1∧o.1≤255) (hlen:n≤100000) (hrd:∀ W L',Below B w W→At B W (L++L')→∃ R,Rd W R 2 A n (ops.flatMap opIn)):
  Calls Tryz.prog 237 #[Pz p,.slice A n c] w fun e w'=>
   ∃ g,e=.returned (.slice (some ⟨g,0,none⟩) n n)∧At B w' (slRes 47 2 (some ⟨g,0,none⟩) n n ((toldK n (mCode mo l0.length ops) (mVal l0 mo ops) n).flatMap resIn)::ringR p mo (dqAt l0 mo ops n)::L)∧Below B w w':=by
 have hmf:∀ (fn:Fn) (first cap:Array Value) (w:World),(Instr.makeFunc fn first cap).run Tryz.prog w=.ok (.func fn first cap) w:=fun _ _ _ _=>rfl;obtain⟨hlm,hmo⟩:=ring_len h;obtain⟨i0,hi0,hz0,hz1,hz2⟩:=info_parts info_i32;have hz3:i0.bytes*n≤281474976710656:=by rw [hz2];omega
 obtain⟨be,hbe⟩:∃ be,l0.length=be:=⟨_,rfl⟩;rw [hbe] at hlm;have HBE:=Lib.hid hbe;have HN:=Lib.hid hn;have s1:At B (w.alloc (.cells #[.slice A n c] 81)) (oboxR w.heap.size A n c::ringR p mo l0::L):=h.alloc hB _ _;have hl1:=rlen_s s1.drop HBE.out;have hm1:=rmost_s s1.drop;have h0:=Lib.hid h;clear hn hbe h;go_enter Tryz.func237,Tryz.ntmps237;go_wp2_with fail;refine hl1.mono ?_;rintro e w1 ⟨rfl,rfl⟩;go_wp2_with fail;refine hm1.mono ?_;rintro e w1 ⟨rfl,rfl⟩;clear hl1 hm1;go_wp2_with (refine wpList_make_row _ rfl (.tmp 33) (.tmp 33) 35 rfl 21 i0 _ Tryz.underlying35 hi0 hz0 hz1 rfl .i64 .i64 n rfl rfl hz3 (by omega) ?_);obtain⟨s6,b5⟩:=apply_start (A:=A) (n:=n) (c:=c) hB hlm hmo hlen (some ⟨p,0,none⟩) rfl (show At B w (ringR p mo l0::L) from h0.out);generalize hW5:((((((w.alloc (.cells #[.slice A n c] 81)).alloc (.cells #[.slice none 0 0,.slice none 0 0,Iv (be:Int),Iv (mo:Int)] 315)).alloc (.cells #[bound 240 (some ⟨p,0,none⟩),bound 241 (some ⟨p,0,none⟩)] 316)).alloc (.cells #[bound 242 (some ⟨p,0,none⟩),bound 243 (some ⟨p,0,none⟩)] 317)).alloc (.cells (madeCells #[Iw 0] n) 21)).alloc (.cells #[.slice (some ⟨w.heap.size+1+1+1+1,0,none⟩) n n] 35))=W5 at*
 generalize w.heap.size+1+1+1+1+1=bv at*;generalize w.heap.size+1+1+1+1=gv at*;generalize w.heap.size+1+1+1=bp at*;generalize w.heap.size+1+1=bt at*;generalize w.heap.size+1=pm at*;obtain⟨bo,hbo⟩:∃ bo,w.heap.size=bo:=⟨_,rfl⟩;rw [hbo] at s6 ⊢;have hle5:B≤W5.heap.size:=Nat.le_trans hB b5.size;clear hW5 s1;rw [show List.replicate n (Iw 0)=fillL n 0 (vV l0 mo ops) (Iw 0) from(fillL_zero _ _ _).symm] at s6
 have hall:=all_apply bt bv bo B W5 hle5 pm mo be hlm hmo A n c ops HN.out h8 hlen (fun k=>valsR gv n (fillL n k (vV l0 mo ops) (Iw 0))::vboxR bv gv n::oboxR bo A n c::takeR bt (some ⟨p,0,none⟩)::ringR p mo (rgAt l0 mo ops k)::putR bp (some ⟨p,0,none⟩)::L)
  (fun k W L' hb hW=>hrd W L' (b5.trans hb) (Sep.drop (Sep.drop (Sep.drop (Sep.drop (Sep.drop (Sep.drop hW)))))))
  (fun k e pr W L' hk hj hkd hb hW=>by
   obtain⟨R,hr⟩:=hrd W L' (b5.trans hb) (Sep.drop (Sep.drop (Sep.drop (Sep.drop (Sep.drop (Sep.drop hW))))));exact got_y hle5 hb HBE.out HN.out hlen hr hk hj hkd hW)
  (fun k hk hc=>by
   have hlk:k<ops.length:=by rw [HN.out];exact hk
   have hne:(mStep mo k (kindAt ops k) (mAt mo l0.length ops k)).2≠(-1,2):=fun h=>hc (by rw [HBE.out] at h;unfold mCode;rw [h]);rw [rgAt_same hlk hne,fillL_keep _ _ _ _ (by unfold vV;rw [mVal_none (by rw [HBE.out];exact hc)])])
  s6
 refine hall.mono ?_;rintro e w6 ⟨g,rfl,s7,b7⟩;have hle7:=Nat.le_trans hle5 b7.size;have b7:=b5.trans b7;clear hall s6 b5;rw [← toldK_zero n (mCode mo be ops) (mVal l0 mo ops)] at s7;obtain⟨A1,c1,A2,c2,s8,hsz,_⟩:=meet_open s7.rot2;have s9:=perm10 (Sep.pick [_,_,_] s8);have hlR:=rgAt_len l0 mo ops n (by rw [HN.out];exact Nat.le_refl _);rw [HBE.out] at hlR;have hdq:dqAt l0 mo ops n=vS (valAt ops) (mAt mo be ops n) (rgAt l0 mo ops n):=by unfold dqAt;rw [HBE.out]
 have HDQ:=Lib.hid hdq;obtain⟨hw1,hw2⟩:=mAt_lt mo be ops n;unfold vS at HDQ;unfold sizeE at hsz;generalize rgAt l0 mo ops n=rg at*;generalize mAt mo be ops n=st at*;obtain⟨wl,b,wr0⟩:=st;dsimp only at hsz hw1 hw2 hlR s9 HDQ;have k0:=(Sep.pick [_,_,_,_,_,_] s9).cv 0 (.slice A1 wl.length c1);have k1:=(Sep.pick [_,_,_,_,_,_] s9).cv 1 (.slice A2 wr0.length c2);clear s7 s8 hdq;go_wp2_with fail
 have HR5:Hid (∀ (W:World) (cr:List Int),At B W (ringR p mo cr::putR bp (some ⟨p,0,none⟩)::oboxR bo A n c::sideR A1 c1 wl::sideR A2 c2 wr0::slRes 47 2 (some ⟨g,0,none⟩) n n ((toldK n (mCode mo be ops) (mVal l0 mo ops) 0).flatMap resIn)::headR pm mo A1 wl.length c1 A2 wr0.length c2 b::valsR gv n (fillL n n (vV l0 mo ops) (Iw 0))::vboxR bv gv n::takeR bt (some ⟨p,0,none⟩)::L)→At B W (L++[])):=Lib.hid fun W cr h=>by
  rw [List.append_nil];exact Sep.drop (Sep.drop (Sep.drop (Sep.drop (Sep.drop (Sep.drop (Sep.drop (Sep.drop (Sep.drop (Sep.drop h)))))))))
 generalize hR5:slRes 47 2 (some ⟨g,0,none⟩) n n ((toldK n (mCode mo be ops) (mVal l0 mo ops) 0).flatMap resIn)::headR pm mo A1 wl.length c1 A2 wr0.length c2 b::valsR gv n (fillL n n (vV l0 mo ops) (Iw 0))::vboxR bv gv n::takeR bt (some ⟨p,0,none⟩)::L=R5 at*;have HR:=Lib.hid hR5;clear hR5
 go_loopg [43] 2 (fun g v wr=>∃ (i:Nat) (cur:List Int),i+g=2∧v=Iv (i:Int)∧((i=0∧rg=cur)∨(i=1∧(wl.map (valAt ops)).reverse++rg=cur)∨(i=2∧(wl.map (valAt ops)).reverse++rg++wr0.map (valAt ops)=cur))∧At B wr (ringR p mo cur::putR bp (some ⟨p,0,none⟩)::oboxR bo A n c::sideR A1 c1 wl::sideR A2 c2 wr0::R5)∧Below B w wr∧B≤wr.heap.size)
 case atStart=>exact⟨0,rg,by omega,rfl,.inl ⟨rfl,rfl⟩,s9,b7,hle7⟩
 case round=>
  clear s9 b7 hle7 k0 k1;obtain⟨i,cur,hi,rfl,hcur,s2,b2,hle2⟩:=hrel
  rcases hcur with ⟨rfl,hcur⟩ | ⟨rfl,hcur⟩ | ⟨rfl,hcur⟩
  ·have hi2:(((0:Nat):Int)<2):=by decide
   have hsd:=side0 A1 A2 wl.length c1 wr0.length c2;have s3:=s2.keep ((Below.refl _ wr).alloc (Nat.le_refl _) (.cells #[.slice A1 wl.length c1] 312));have b3:=b2.alloc hle2 (.cells #[.slice A1 wl.length c1] 312);have hle3:B≤(wr.alloc (.cells #[.slice A1 wl.length c1] 312)).heap.size:=by simp;omega
   go_wp2_with fail
   go_loopg [50] wl.length (fun g2 v wr=>∃ jj:Nat,jj+g2=wl.length∧v=Iv (jj:Int)∧At B wr (ringR p mo ((fun jj=>((wl.take jj).map (valAt ops)).reverse++rg) jj)::putR bp (some ⟨p,0,none⟩)::oboxR bo A n c::sideR A1 c1 wl::sideR A2 c2 wr0::R5)∧Below B w wr∧B≤wr.heap.size)
   case atStart=>exact⟨0,by omega,rfl,by rw [show (fun jj=>((wl.take jj).map (valAt ops)).reverse++rg) 0=cur by simpa using hcur];exact s3,b3,hle3⟩
   case round=>
    clear s2 b2 s3 b3 hle2 hle3;obtain⟨jj,hjj,rfl,s2,b2,hle2⟩:=hrel
    by_cases hlt:jj<wl.length
    ·have hj:=hw1 _ (List.getElem_mem hlt);have hsl:Sl wr 3 1 A1 wl.length c1 (il wl) (fun x=>B≤x):=s2.rot4.get;obtain⟨gg,off,rfl,_,_,_,hcx⟩:=hsl.at (by omega);have g0:wr.cell? ⟨gg,off+jj,none⟩=some (Iv ((wl[jj]:Nat):Int)):=hcx jj _ (by simp [hlt]);have kp0:=s2.rot2.cv 0 (bound 242 (some ⟨p,0,none⟩));have kp1:=s2.rot2.cv 1 (bound 243 (some ⟨p,0,none⟩));have ko:=s2.rot3.cv 0 (.slice A n c);have hjl:wl[jj]<ops.length:=by rw [HN.out];exact hj
     obtain⟨R,hr⟩:=hrd wr [] b2 (HR5.out wr _ s2);obtain⟨b',off',rfl,_,hcells⟩:=hr.at (by omega);obtain⟨-,c1x⟩:=op_at ops _ hjl
     have hkeep:∀ (W:World) (l:List Int),Below B w W→At B W (ringR p mo l::putR bp (some ⟨p,0,none⟩)::oboxR bo (some ⟨b',off',none⟩) n c::sideR (some ⟨gg,off,none⟩) c1 wl::sideR A2 c2 wr0::R5)→W.cell? ⟨b',off'+wl[jj]*2+1,none⟩=some (Iw (valAt ops wl[jj])):=fun W l hb hs=>by
      obtain⟨R,hr⟩:=hrd W [] hb (HR5.out W _ hs);obtain⟨b2,o2,hA,_,hc⟩:=hr.at (by omega);simp at hA;obtain⟨rfl,rfl⟩:=hA;rw [valAt_lt hjl];exact hc _ _ c1x
     have g1:=hkeep wr _ b2 s2;have hroom:((fun jj=>((wl.take jj).map (valAt ops)).reverse++rg) jj).length<mo:=by simp;omega
     have hps:=fun(v:Int)=>pushL_ok (w:=World.drew wr) hle2 (Sep.drew s2) hroom v;have HS:Hid ((fun jj=>((wl.take jj).map (valAt ops)).reverse++rg) (jj+1)=valAt ops wl[jj]::(((wl.take jj).map (valAt ops)).reverse++rg)):=Lib.hid (by dsimp only;rw [List.take_succ_eq_append_getElem hlt,List.map_append];simp);have hjn:((wl[jj]:Nat):Int)<(n:Int):=by omega
     have hz:(0:Int)≤((wl[jj]:Nat):Int):=by omega
     generalize valAt ops wl[jj]=vl at*;generalize wl[jj]=jx at*;clear hcx hcells hr hsl c1x hjl hroom;go_wp2_with fail
     go_region_held3 (fun w'=>w'.cell? ⟨bp,0,none⟩=some (bound 242 (some ⟨p,0,none⟩))∧w'.cell? ⟨bp,1,none⟩=some (bound 243 (some ⟨p,0,none⟩))∧w'.cell? ⟨bo,0,none⟩=some (.slice (some ⟨b',off',none⟩) n c)∧w'.cell? ⟨b',off'+jx*2+1,none⟩=some (Iw vl)) (first | (refine ⟨?_,?_,?_,?_⟩<;>assumption) | go_keep) (first
      | (go_at_call 242;((with_reducible refine(hps _).mono ?_);rintro e w5 ⟨rfl,s5,b5⟩;have b5:=b2.drew.trans b5;have kp0:=s5.rot2.cv 0 (bound 242 (some ⟨p,0,none⟩));have kp1:=s5.rot2.cv 1 (bound 243 (some ⟨p,0,none⟩));have ko:=s5.rot3.blk.cell 0;have g1:=hkeep w5 _ b5 s5))
      | (go_at_call 243;((with_reducible refine(hps _).mono ?_);rintro e w5 ⟨rfl,s5,b5⟩;have b5:=b2.drew.trans b5;have kp0:=s5.rot2.cv 0 (bound 242 (some ⟨p,0,none⟩));have kp1:=s5.rot2.cv 1 (bound 243 (some ⟨p,0,none⟩));have ko:=s5.rot3.blk.cell 0;have g1:=hkeep w5 _ b5 s5)))
     go_wp2_with fail;go_roundg (wl.length-jj-1)
     case measure=>omega
     case rel=>exact⟨jj+1,by omega,by go_num,by rw [HS.out];exact s5,b5,Nat.le_trans hB b5.size⟩
    ·obtain rfl:jj=wl.length:=by omega
     dsimp only at s2;rw [List.take_length] at s2;go_wp2_with fail;go_roundg 1
     case measure=>omega
     case rel=>exact⟨1,_,by omega,rfl,.inr (.inl ⟨rfl,rfl⟩),s2,b2,hle2⟩
  ·have hi2:(((1:Nat):Int)<2):=by decide
   have hsd:=side1 A1 A2 wl.length c1 wr0.length c2;have s3:=s2.keep ((Below.refl _ wr).alloc (Nat.le_refl _) (.cells #[.slice A2 wr0.length c2] 312));have b3:=b2.alloc hle2 (.cells #[.slice A2 wr0.length c2] 312);have hle3:B≤(wr.alloc (.cells #[.slice A2 wr0.length c2] 312)).heap.size:=by simp;omega
   go_wp2_with fail
   go_loopg [50] wr0.length (fun g2 v wr=>∃ jj:Nat,jj+g2=wr0.length∧v=Iv (jj:Int)∧At B wr (ringR p mo ((fun jj=>(wl.map (valAt ops)).reverse++rg++(wr0.take jj).map (valAt ops)) jj)::putR bp (some ⟨p,0,none⟩)::oboxR bo A n c::sideR A1 c1 wl::sideR A2 c2 wr0::R5)∧Below B w wr∧B≤wr.heap.size)
   case atStart=>exact⟨0,by omega,rfl,by rw [show (fun jj=>(wl.map (valAt ops)).reverse++rg++(wr0.take jj).map (valAt ops)) 0=cur by simpa using hcur];exact s3,b3,hle3⟩
   case round=>
    clear s2 b2 s3 b3 hle2 hle3;obtain⟨jj,hjj,rfl,s2,b2,hle2⟩:=hrel
    by_cases hlt:jj<wr0.length
    ·have hj:=hw2 _ (List.getElem_mem hlt);have hsl:Sl wr 3 1 A2 wr0.length c2 (il wr0) (fun x=>B≤x):=s2.rot5.get;obtain⟨gg,off,rfl,_,_,_,hcx⟩:=hsl.at (by omega);have g0:wr.cell? ⟨gg,off+jj,none⟩=some (Iv ((wr0[jj]:Nat):Int)):=hcx jj _ (by simp [hlt]);have kp0:=s2.rot2.cv 0 (bound 242 (some ⟨p,0,none⟩));have kp1:=s2.rot2.cv 1 (bound 243 (some ⟨p,0,none⟩));have ko:=s2.rot3.cv 0 (.slice A n c);have hjl:wr0[jj]<ops.length:=by rw [HN.out];exact hj
     obtain⟨R,hr⟩:=hrd wr [] b2 (HR5.out wr _ s2);obtain⟨b',off',rfl,_,hcells⟩:=hr.at (by omega);obtain⟨-,c1x⟩:=op_at ops _ hjl
     have hkeep:∀ (W:World) (l:List Int),Below B w W→At B W (ringR p mo l::putR bp (some ⟨p,0,none⟩)::oboxR bo (some ⟨b',off',none⟩) n c::sideR A1 c1 wl::sideR (some ⟨gg,off,none⟩) c2 wr0::R5)→W.cell? ⟨b',off'+wr0[jj]*2+1,none⟩=some (Iw (valAt ops wr0[jj])):=fun W l hb hs=>by
      obtain⟨R,hr⟩:=hrd W [] hb (HR5.out W _ hs);obtain⟨b2,o2,hA,_,hc⟩:=hr.at (by omega);simp at hA;obtain⟨rfl,rfl⟩:=hA;rw [valAt_lt hjl];exact hc _ _ c1x
     have g1:=hkeep wr _ b2 s2;have hroom:((fun jj=>(wl.map (valAt ops)).reverse++rg++(wr0.take jj).map (valAt ops)) jj).length<mo:=by simp;omega
     have hps:=fun(v:Int)=>pushR_ok (w:=World.drew wr) hle2 (Sep.drew s2) hroom v;have HS:Hid ((fun jj=>(wl.map (valAt ops)).reverse++rg++(wr0.take jj).map (valAt ops)) (jj+1)=((wl.map (valAt ops)).reverse++rg++(wr0.take jj).map (valAt ops))++[valAt ops wr0[jj]]):=Lib.hid (by dsimp only;rw [List.take_succ_eq_append_getElem hlt,List.map_append];simp);have hjn:((wr0[jj]:Nat):Int)<(n:Int):=by omega
     have hz:(0:Int)≤((wr0[jj]:Nat):Int):=by omega
     generalize valAt ops wr0[jj]=vl at*;generalize wr0[jj]=jx at*;clear hcx hcells hr hsl c1x hjl hroom;go_wp2_with fail
     go_region_held3 (fun w'=>w'.cell? ⟨bp,0,none⟩=some (bound 242 (some ⟨p,0,none⟩))∧w'.cell? ⟨bp,1,none⟩=some (bound 243 (some ⟨p,0,none⟩))∧w'.cell? ⟨bo,0,none⟩=some (.slice (some ⟨b',off',none⟩) n c)∧w'.cell? ⟨b',off'+jx*2+1,none⟩=some (Iw vl)) (first | (refine ⟨?_,?_,?_,?_⟩<;>assumption) | go_keep) (first
      | (go_at_call 242;((with_reducible refine(hps _).mono ?_);rintro e w5 ⟨rfl,s5,b5⟩;have b5:=b2.drew.trans b5;have kp0:=s5.rot2.cv 0 (bound 242 (some ⟨p,0,none⟩));have kp1:=s5.rot2.cv 1 (bound 243 (some ⟨p,0,none⟩));have ko:=s5.rot3.blk.cell 0;have g1:=hkeep w5 _ b5 s5))
      | (go_at_call 243;((with_reducible refine(hps _).mono ?_);rintro e w5 ⟨rfl,s5,b5⟩;have b5:=b2.drew.trans b5;have kp0:=s5.rot2.cv 0 (bound 242 (some ⟨p,0,none⟩));have kp1:=s5.rot2.cv 1 (bound 243 (some ⟨p,0,none⟩));have ko:=s5.rot3.blk.cell 0;have g1:=hkeep w5 _ b5 s5)))
     go_wp2_with fail;go_roundg (wr0.length-jj-1)
     case measure=>omega
     case rel=>exact⟨jj+1,by omega,by go_num,by rw [HS.out];exact s5,b5,Nat.le_trans hB b5.size⟩
    ·obtain rfl:jj=wr0.length:=by omega
     dsimp only at s2;rw [List.take_length] at s2;go_wp2_with fail;go_roundg 0
     case measure=>omega
     case rel=>exact⟨2,_,by omega,rfl,.inr (.inr ⟨rfl,rfl⟩),s2,b2,hle2⟩
  ·have hi2:¬ (((2:Nat):Int)<2):=by decide
   rw [← HR.out] at s2;have s4:=last4 s2;rw [← hcur,←HDQ.out] at s4;have kv:=s4.rot3.cv 0 (.slice (some ⟨gv,0,none⟩) n n);clear s2 HR5 HR hcur;go_wp2_with fail
   go_loopg [67] n (fun g' k wr=>∃ k':Nat,k'+g'=n∧k=Iv (k':Int)∧At B wr (slRes 47 2 (some ⟨g,0,none⟩) n n ((toldK n (mCode mo be ops) (mVal l0 mo ops) k').flatMap resIn)::valsR gv n (fillL n n (vV l0 mo ops) (Iw 0))::vboxR bv gv n::ringR p mo (dqAt l0 mo ops n)::L)∧Below B w wr∧B≤wr.heap.size)
   case atStart=>exact⟨0,by omega,rfl,s4,b2,hle2⟩
   case round=>
    clear s4 b2 kv hle2;obtain⟨k,hk,rfl,s8,b8,hle8⟩:=hrel
    by_cases hlt:k<n
    ·have hfl:k<(toldK n (mCode mo be ops) (mVal l0 mo ops) k).length:=by rw [toldK_len];exact hlt
     obtain⟨t0,t1⟩:=res_at _ k hfl;have hst:=res_set2 _ k hfl (mVal l0 mo ops k);rw [toldK_get _ _ _ _ _ hlt,if_neg (by omega)] at t0 t1 hst;dsimp only at t0 t1 hst;rw [toldK_set n (mCode mo be ops) (mVal l0 mo ops) k] at hst;have gvv:wr.cell? ⟨gv,k,none⟩=some (Iw (mVal l0 mo ops k)):=(s8.rot2.slat hle8 k (vV l0 mo ops k) (by rw [List.getElem?_eq_getElem (by rw [fillL_length];exact hlt),fillL_get _ _ _ _ _ hlt,if_pos hlt])).1;obtain⟨k1,k2,k3⟩:=s8.slat hle8 (k*2+1) _ t1;obtain⟨k4,k5⟩:=k3 (Iw (mVal l0 mo ops k));rw [hst] at k4;have b9:=b8.trans k5;have hle9:=Nat.le_trans hle8 k5.size;clear k3 k5 t0 t1 hst hfl s8 b8;generalize mVal l0 mo ops k=vl at*;go_wp2_with fail;go_roundg (gk-1)
     case measure=>omega
     case rel=>exact⟨k+1,by omega,by go_num,k4,b9,hle9⟩
    ·obtain rfl:k=n:=by omega
     go_wp2_with fail;go_ret;exact⟨g,rfl,by rw [HBE.out];exact Sep.cons (fun _ h=>Sep.drop (Sep.drop h)) s8,b8⟩
end Go.Proofs.YtadgbhjpgnlmoaaGreat.Rng
