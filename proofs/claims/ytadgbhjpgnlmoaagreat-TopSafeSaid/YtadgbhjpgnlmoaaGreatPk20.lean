/- TopSafe, a part of its proof; no conditions. -/
import Derived.Test.YtadgbhjpgnlmoaaGreatPk16
import Derived.Test.YtadgbhjpgnlmoaaGreatPk19
set_option linter.all false
namespace Go.Proofs.YtadgbhjpgnlmoaaGreat.Rng
set_option maxRecDepth 100000
open Go.RowKit Go.Rp Go.Rp.Rng Go.Shelf
attribute [local go_sem] Oper.semAt_some
theorem info_i32:(Tryz.prog.info? 21).map (fun i=>(i.zero,i.size,i.bytes))=some (some (Iw 0),1,4):=by kernel_rfl
theorem Sl.of_owns {w w':World} {e sz n:Nat} {v:Value} {xs:List Value} (h:w'.ownsRow w.heap.size e sz v n xs):∃ A c,v=.slice A n c∧Sl w' e sz A n c xs (fun b=>w.heap.size≤b∧b<w'.heap.size):=by
 obtain⟨hl,⟨rfl,rfl⟩ | ⟨g,cap,cur,rfl,hg,hb,hn,hc,hz,hx⟩⟩:=h
 ·have:xs=[]:=List.eq_nil_of_length_eq_zero (by simpa using hl);subst this;exact⟨none,0,rfl,Sl.nil _ _ _ _⟩
 ·have hb':Blk w' g e cur:=hb;refine⟨_,cap,rfl,?_⟩;have:=Sl.of_blk hb' (S:=fun b=>w.heap.size≤b∧b<w'.heap.size) ⟨hg,hb'.lt⟩ n cap hn hc hz
  rwa [hx] at this
section
variable {w:World} {p N:Nat} {S:Nat→Prop} {l:List Int}
theorem RingAt.belowN {W W':World} {n₀:Nat} (h:RingAt W p S N l) (hS:∀ b,S b→b<n₀) (hb:Below n₀ W W'):RingAt W' p S N l:=
 h.mod (T:=fun b=>n₀≤b) ⟨hb.os,hb.tape,hb.output,hb.size,fun b _ hn=>hb.block b (by omega)⟩ (fun b hs=>by have:=hS b hs;omega)
theorem RingAt.drewN (h:RingAt w p S N l) (n:Nat):RingAt (w.drewN n) p S N l:=h
theorem ring_at (h:RingAt w p S N l) {k:Nat} (hk:k<l.length):∃ g i,(Calls Tryz.prog 233 #[Pz p,Iv (k:Int)] w fun e w'=>e=.returned (.pointer (some ⟨g,i,none⟩))∧∃ nq,w'=w.drewN nq)∧w.cell? ⟨g,i,none⟩=some (Iw l[k]):=by
 have hle:=h.len;obtain⟨g,off,c,cs,f,hSg,hgp,hp,hrg,hN,hfN,hb,hs⟩:=ring_open h (by omega);refine⟨g,off+(f+k)%N,at_raw w p g off N c f k (hb.cell 0) (hb.cell 1) hfN hN (by omega) rfl,(sl_cell hs (iv_q ?_)).1⟩;rw [hrg.at_ k hk,List.getElem?_eq_getElem hk]
end
def Keeps (n₀ Bn:Nat) (A B:World):Prop:=Below n₀ A B∧∀ v,Boxed A Bn 306 v→Boxed B Bn 306 v
theorem Keeps.t {n₀ Bn:Nat} {A B C:World} (h:Keeps n₀ Bn A B) (k:Keeps n₀ Bn B C):Keeps n₀ Bn A C:=⟨h.1.trans k.1,fun v hv=>k.2 v (h.2 v hv)⟩
theorem Keeps.b {n₀ Bn:Nat} {w:World} (hn:n₀≤w.heap.size) (W:World) (l:Nat) (o o':Obj) (hl:w.heap.size≤l) (h:W.heap[l]? =some o) (ho:o.isCells=false) (hw:o.isWalk=false):Keeps n₀ Bn W (W.putObj l o'):=
 ⟨belowK_b hn W l o o' hl h ho hw,fun v hv=>hv.kept (grownBy_putObj' W l o') (fun e=>by
  obtain rfl:Bn=l:=by simpa using e
  rw [show W.heap[Bn]? =_ from hv] at h
  cases h;cases ho)⟩
set_option maxRecDepth 100000 in
set_option maxHeartbeats 2000000 in
theorem all1_in (n:Nat) (hn:1≤n) (l Bn n₀ p N:Nat) (S:Nat→Prop) (hS:∀ b,S b→b<n₀) (xs:List Int) (J Jx:List Int→World→Prop) (hJ:∀ s W nq,J s W→J s (W.drewN nq))
  (hY:∀ pre x W,J pre W→pre.length<xs.length→YieldAt Fence.wide (n-1) Tryz.prog l #[Iw x] W fun e W'=>
   (e=.returned (.bool true)∧J (pre++[x]) W'∧Keeps n₀ Bn W W')∨(e=.returned (.bool false)∧Jx (pre++[x]) W'))
  (W:World) (hBn:Boxed W Bn 306 (Pz p)) (hR:RingAt W p S N xs) (h0:J [] W):
  CallsIn Fence.wide n Tryz.prog 232 #[.func (.yield l) #[] #[],Pz Bn] W fun e W'=>(∃ v,e=.returned v)∧
   ((∃ ys,ys=xs∧J ys W')∨(∃ pre,pre <+: xs∧Jx pre W')):=by
 have hxl:=hR.len;have hc0:=hBn.cell;have hc2:W.cell? ⟨p,2,none⟩=some (Iv (xs.length:Int)):=by obtain⟨A,c,cs,f,hb,_⟩:=hR;exact hb.cell 2
 refine callsIn_of_wp Tryz.func232 rfl trivial ?_ rfl;simp only [Tryz.ntmps232,List.size_toArray,List.length_cons,List.length_nil,Nat.reduceAdd,Nat.reduceSub,Array.replicate_succ,Array.replicate_zero,List.push_toArray,List.append_toArray,List.nil_append,List.cons_append]
 gi_wp2
 gi_loopw [8] (fun i wr=>∃ k:Nat,k≤xs.length∧i=Iv k∧J (xs.take k) wr∧Boxed wr Bn 306 (Pz p)∧RingAt wr p S N xs)
  (fun i _=>xs.length-(intOf i).toNat)
 case atStart=>exact⟨0,Nat.zero_le _,rfl,h0,hBn,hR⟩
 case round=>
  clear hc0 hc2 hBn hR h0;obtain⟨k,hk,rfl,hJs,hBn,hR⟩:=hrel
  by_cases hlt:k<xs.length
  ·have hc0:=hBn.cell;obtain⟨g,i,hat,hcell⟩:=ring_at hR hlt
   gi_wp2_with (refine ⟨trivial,?_⟩;gi_at_call 233;refine(callsIn_wide.2 hat).mono ?_;rintro e w5 ⟨rfl,nq,rfl⟩;have hcell:(wr.drewN nq).cell? ⟨g,i,none⟩=some (Iw xs[k]):=hcell;obtain⟨fn,tmps,assign,body,hy,hR2⟩:=hY _ xs[k] (wr.drewN nq) (hJ _ _ nq hJs) (by rw [List.length_take];omega))
   refine hR2.mono ?_;rintro e W3 (⟨rfl,hJ3,hk3⟩ | ⟨rfl,hJx3⟩)
   ·gi_wp2
    go_roundw
    case rel=>exact⟨k+1,by omega,by simp,by rw [List.take_succ_eq_append_getElem hlt];exact hJ3,hk3.2 _ hBn,(hR.drewN nq).belowN hS hk3.1⟩
    case measure=>simp [intOf];omega
   ·gi_wp2
    refine bodyPost_ret (results_none rfl _ _ _) rfl ?_;exact⟨⟨_,rfl⟩,.inr ⟨_,by rw [← List.take_succ_eq_append_getElem hlt];exact List.take_prefix _ _,hJx3⟩⟩
  ·obtain rfl:k=xs.length:=by omega
   gi_wp2
   go_end0
   exact⟨⟨_,rfl⟩,.inl ⟨_,rfl,by rwa [List.take_length] at hJs⟩⟩
theorem all_in (n:Nat) (p:Option Addr) (w:World):
  CallsIn Fence.wide n Tryz.prog 231 #[.pointer p] w fun e w'=>e=.returned (.func (.func 232) #[] #[Pz w.heap.size])∧w'=w.alloc (.cells #[.pointer p] 306):=by
 refine callsIn_of_wp Tryz.func231 rfl trivial ?_ rfl;simp only [Tryz.ntmps231,List.size_toArray,List.length_cons,List.length_nil,Nat.reduceAdd,Nat.reduceSub,Array.replicate_succ,Array.replicate_zero,List.push_toArray,List.append_toArray,List.nil_append,List.cons_append]
 gi_wp2
 go_ret;exact⟨rfl,rfl⟩
theorem all_stops (n:Nat) (hn:1≤n) (Bn n₀ p N:Nat) (S:Nat→Prop) (hS:∀ b,S b→b<n₀) (xs:List Int) (w:World) (hn₀:n₀≤w.heap.size) (hBn:Boxed w Bn 306 (Pz p)) (hR:RingAt w p S N xs):
  SeqStopsK Fence.wide n Tryz.prog 232 #[Pz Bn] (fun x:Int=>#[Iw x]) (Keeps n₀ Bn) (fun ys=>ys=xs) (fun pre=>pre <+: xs) xs.length w:=fun l J Jx W hW hJ _ hY h0=>
 all1_in n hn l Bn n₀ p N S hS xs J Jx (fun s W nq h=>hJ s W _ none h ⟨rfl,rfl,rfl,Nat.le_refl _,fun _ _ _=>rfl⟩ (fun r e=>by cases e)) hY W ((hW.block Bn hBn.lt).trans hBn) (hR.belowN (fun b hb=>Nat.lt_of_lt_of_le (hS b hb) hn₀) hW) h0
theorem run_make0 (W:World) (n:Nat) (hn:n≤100000):(Instr.makeSlice 35 (Iv 0) (Iv (n:Int))).run Tryz.prog W=.ok (.slice (some ⟨W.heap.size,0,none⟩) 0 n) (W.alloc (.cells (madeCells #[Iw 0] n) 21)):=by
 obtain⟨i,hi,hz0,hz1,hz2⟩:=info_parts info_i32;have:=run_make (P:=Tryz.prog) W 35 21 i (Iw 0) Tryz.underlying35 hi hz0 .i64 .i64 0 (n:Int) (by omega) (by omega) (by rw [hz2];omega) (by omega);rw [hz1] at this
 simpa [Value.cells] using this
set_option maxRecDepth 100000 in
set_option maxHeartbeats 2000000 in
theorem items_any (w:World) (p N:Nat) (S:Nat→Prop) (xs:List Int) (hR:RingAt w p S N xs):
  Calls Tryz.prog 229 #[Pz p] w (NewSl w 21 1 xs.length (iv xs)):=by
 obtain⟨S',hR,hS⟩:∃ S':Nat→Prop,RingAt w p S' N xs∧∀ b,S' b→b<w.heap.size:=⟨_,hR.lt,fun b h=>h.2⟩;have hxl:=hR.len;have hc2:w.cell? ⟨p,2,none⟩=some (Iv (xs.length:Int)):=by obtain⟨A,c,cs,f,hb,_⟩:=hR;exact hb.cell 2
 obtain⟨i0,hi,hz0,hz1,hz2⟩:=info_parts info_i32;have hmk:=fun W=>run_make0 W xs.length (by omega);refine(callsIn_wide (n:=3)).1 (callsIn_of_wp_marks Tryz.func229 rfl trivial ?_ rfl);simp only [Tryz.ntmps229,List.size_toArray,List.length_cons,List.length_nil,Nat.reduceAdd,Nat.reduceSub,Array.replicate_succ,Array.replicate_zero,List.push_toArray,List.append_toArray,List.nil_append,List.cons_append]
 gi_wp2_with (refine ⟨trivial,?_⟩;gi_at_call 231;refine(all_in _ _ _).mono ?_;rintro e w' ⟨rfl,rfl⟩)
 have bO:=Boxed.new (w.alloc (.cells (madeCells #[Iw 0] xs.length) 21)) 35 (.slice (some ⟨w.heap.size,0,none⟩) 0 xs.length);have bR:=Boxed.new ((w.alloc (.cells (madeCells #[Iw 0] xs.length) 21)).alloc (.cells #[.slice (some ⟨w.heap.size,0,none⟩) 0 xs.length] 35)) 306 (Pz p);rw [World.size_alloc] at bO bR;rw [World.size_alloc] at bR;have hB0:Below w.heap.size w (((w.alloc (.cells (madeCells #[Iw 0] xs.length) 21)).alloc (.cells #[.slice (some ⟨w.heap.size,0,none⟩) 0 xs.length] 35)).alloc (.cells #[Pz p] 306)):=(((Below.refl _ w).alloc (Nat.le_refl _) _).alloc (by simp) _).alloc (by simp;omega) _
 have hrow0:(((w.alloc (.cells (madeCells #[Iw 0] xs.length) 21)).alloc (.cells #[.slice (some ⟨w.heap.size,0,none⟩) 0 xs.length] 35)).alloc (.cells #[Pz p] 306)).ownsRow w.heap.size 21 1 (.slice (some ⟨w.heap.size,0,none⟩) 0 xs.length) 0 []:=
  ((World.ownsRow_made (e:=21) (size:=1) w (madeCells #[Iw 0] xs.length) xs.length (Nat.le_refl _) (by unfold maxLen;omega) (by simp [size_madeCells])).alloc _).alloc _
 have hR0:=hR.belowN hS hB0;have bO0:=bO.alloc (.cells #[Pz p] 306);obtain⟨W0,hW0⟩:∃ W0,((w.alloc (.cells (madeCells #[Iw 0] xs.length) 21)).alloc (.cells #[.slice (some ⟨w.heap.size,0,none⟩) 0 xs.length] 35)).alloc (.cells #[Pz p] 306)=W0:=⟨_,rfl⟩;have hsz:W0.heap.size=w.heap.size+3:=by rw [← hW0];simp
 rw [hW0] at bR hB0 hrow0 hR0 bO0 ⊢;clear hW0 bO hc2 hmk
 refine wpIn_rangeFunc_ownG rfl (by omega) (gf:=232) (lb:=#[Pz (w.heap.size+1+1)]) rfl trivial (enters_of Tryz.func232 (by kernel_rfl) rfl)
  (all_stops 2 (by omega) (w.heap.size+1+1) w.heap.size p N S' hS xs W0 (by omega) bR hR0) Keeps.t (Keeps.b (by omega)) (Below.refl _ _) (fun _=>rfl)
  (fun pre W=>((∃ v,Boxed W (w.heap.size+1) 35 v∧W.ownsRow w.heap.size 21 1 v pre.length (iv pre)∧True)∧Boxed W (w.heap.size+1+1) 306 (Pz p))∧Below w.heap.size w W)
  (fun _ _ _=>False)
  (OwnFrom.and (Own.from (fun s A B row hs hg hr=>⟨holdsRow_own w.heap.size (w.heap.size+1) 35 21 1 (fun pre:List Int=>pre.length) iv (fun _ _=>True) s A B row hs.1 hg hr,boxed_own _ _ (fun _:List Int=>Pz p) s A B row hs.2 hg hr⟩) _) (ownFrom_below (Nat.le_refl _) (by omega)))
  (fun _ _ _ _ _ hs _ _=>hs)
  ⟨⟨⟨_,bO0,hrow0,trivial⟩,bR⟩,hB0⟩
  (fun x=> { tmps:=#[Pz p,undef,.slice none 0 0,Pz (w.heap.size+1),Iw x,Pz p,.bool false,Pz p,Pz p,Pz p,.pointer (some ⟨p,2,none⟩),Iv xs.length,.slice (some ⟨w.heap.size,0,none⟩) 0 xs.length,Pz p,Pz p,Pz p,.func (.func 232) #[] #[Pz (w.heap.size+1+1)],Iw x,undef,undef,undef,undef,undef],defers:=[]}) ?assign ?body ?done ?stop
 case assign=>
  intro l x W K hK
  gi_wp2
  exact hK
 case body=>
  rintro l pre x W ⟨⟨⟨v,hv,hrow,_⟩,hbx⟩,hB⟩ hlt;have hc:=hv.cell
  gi_wp2_with (gi_at_builtin;refine wpListIn_append_own _ rfl _ _ 35 rfl w.heap.size 21 i0 (Iw 0) 1 4 Tryz.underlying35 hi hz0 hz1 hz2 rfl (by decide) _ _ _ rfl (hrow.alloc _) ⟨W.heap.size,0,none⟩ 1 1 [Iw x] rfl rfl (cell_one_new _ _ _) (by simp [Value.oneCell']) (by simp only [maxLen];omega) (by omega) (by have:=hB.size;simp;omega) ?_;intro v' w1 hown' hgrow _;obtain⟨g',cap',rfl⟩:=ownsRow_succ hown';obtain⟨hv1,hv2,hr2,hk2,hb2⟩:=hv.appended (by decide) hrow hB.size (Nat.le_succ _) hown' hgrow;have hc1:=hv1.cell;have hf1:=hv1.frozen)
  have hk:∀ u,Boxed W (w.heap.size+1+1) 306 u→Boxed (w1.setCell ⟨w.heap.size+1,0,none⟩ (.slice (some ⟨g',0,none⟩) (pre.length+1) cap')) (w.heap.size+1+1) 306 u:=fun u hu=>((hu.alloc _).kept hgrow (hu.not_row (by decide) hrow)).other (by omega) _;exact⟨hk2.from _,⟨hb2,hk⟩,⟨⟨_,hv2,by simpa [iv] using hr2,trivial⟩,hk _ hbx⟩,hB.trans hb2⟩
 case done=>
  rintro D ys W hD rfl ⟨⟨⟨v,hv,hrow,_⟩,hbx⟩,hB⟩ hK;have hc:=hv.cell
  gi_wp2
  refine⟨by simp,.inl ⟨_,_,rfl,run_takeDeferred hK,?_⟩⟩;obtain⟨A,c,rfl,hs⟩:=Sl.of_owns (ownsRow_putObj hrow (.deferred none) hK rfl);exact⟨_,results_tmp rfl _ _ _,A,c,rfl,hs,hB.trans (belowK_b (w:=w) (Nat.le_refl _) W D _ _ (by omega) hK rfl rfl)⟩
 case stop=>
  rintro D c pre W _ _ h _;exact h.elim
end Go.Proofs.YtadgbhjpgnlmoaaGreat.Rng
namespace Go.Rp.Rng
open Go.RowKit
def vS (val:Nat→Int) (st:ES) (rg:List Int):List Int:=(st.1.map val).reverse++rg++st.2.2.map val
def rgStep (o:Int) (r:ES×Int×Int) (rg:List Int):List Int:=if r.2=(-1,2) then(if o=3 then rg.tail else rg.dropLast) else rg
def mV (val:Nat→Int) (o:Int) (r:ES×Int×Int) (rg:List Int):Int:=if 0≤r.2.1 then val r.2.1.toNat else if r.2.2=2 then(if o=3 then rg.headD 0 else rg.getLastD 0) else 0
theorem vS_len (val:Nat→Int) (st:ES) (rg:List Int) (h:rg.length=st.2.1):(vS val st rg).length=sizeE st:=by unfold vS sizeE;simp;omega
theorem rgStep_keep {o:Int} {r:ES×Int×Int} {rg:List Int} (h:r.2≠(-1,2)):rgStep o r rg=rg:=if_neg h
theorem mV_met {val:Nat→Int} {o:Int} {r:ES×Int×Int} {rg:List Int} {j:Nat} {c:Int} (h:r.2=((j:Int),c)):mV val o r rg=val j:=by unfold mV;rw [h];simp
theorem met_ne {r:ES×Int×Int} {j:Nat} {c:Int} (h:r.2=((j:Int),c)):r.2≠(-1,2):=by rw [h];simp<;>omega
theorem mV_no {val:Nat→Int} {o:Int} {r:ES×Int×Int} {rg:List Int} {c:Int} (h:r.2=(-1,c)) (hc:c≠2):mV val o r rg=0:=by unfold mV;rw [h];simp [hc]
theorem no_ne {r:ES×Int×Int} {c:Int} (h:r.2=(-1,c)) (hc:c≠2):r.2≠(-1,2):=by rw [h];simp [hc]
theorem push1_same (val:Nat→Int) (most k:Nat) (v:Int) (st:ES) (rg:List Int) (hl:rg.length=st.2.1) (hv:val k=v):
  rDo most (vS val st rg) 1 v=(vS val (mStep most k 1 st).1 (rgStep 1 (mStep most k 1 st) rg),(mStep most k 1 st).2.2,mV val 1 (mStep most k 1 st) rg)∧(rgStep 1 (mStep most k 1 st) rg).length=(mStep most k 1 st).1.2.1:=by
 have hL:=vS_len val st rg hl
 by_cases h:sizeE st<most
 ·have e:mStep most k 1 st=((st.1++[k],st.2),-1,1):=by show pushE most k st=_;unfold pushE;rw [if_pos h]
  rw [e,rgStep_keep (no_ne rfl (by decide)),mV_no rfl (by decide)];refine⟨?_,hl⟩;unfold rDo;rw [if_pos rfl,if_neg (by rw [hL];omega)];simp [vS,hv]
 ·have e:mStep most k 1 st=(st,-1,3):=by show pushE most k st=_;unfold pushE;rw [if_neg h]
  rw [e,rgStep_keep (no_ne rfl (by decide)),mV_no rfl (by decide)];refine⟨?_,hl⟩;unfold rDo;rw [if_pos rfl,if_pos (by rw [hL];omega)]
theorem push2_same (val:Nat→Int) (most k:Nat) (v:Int) (st:ES) (rg:List Int) (hl:rg.length=st.2.1) (hv:val k=v):
  rDo most (vS val st rg) 2 v=(vS val (mStep most k 2 st).1 (rgStep 2 (mStep most k 2 st) rg),(mStep most k 2 st).2.2,mV val 2 (mStep most k 2 st) rg)∧(rgStep 2 (mStep most k 2 st) rg).length=(mStep most k 2 st).1.2.1:=by
 have hL:=vS_len val st rg hl
 by_cases h:sizeE st<most
 ·have e:mStep most k 2 st=((st.1,st.2.1,st.2.2++[k]),-1,1):=by show back (pushE most k (flip st))=_;unfold pushE;rw [sizeE_flip,if_pos h];rfl
  rw [e,rgStep_keep (no_ne rfl (by decide)),mV_no rfl (by decide)];refine⟨?_,hl⟩;unfold rDo;rw [if_neg (by decide),if_pos rfl,if_neg (by rw [hL];omega)];simp [vS,hv]
 ·have e:mStep most k 2 st=(st,-1,3):=by show back (pushE most k (flip st))=_;unfold pushE;rw [sizeE_flip,if_neg h];rfl
  rw [e,rgStep_keep (no_ne rfl (by decide)),mV_no rfl (by decide)];refine⟨?_,hl⟩;unfold rDo;rw [if_neg (by decide),if_pos rfl,if_pos (by rw [hL];omega)]
theorem rDo_pop3 (most:Nat) (x v:Int) (l:List Int):rDo most (x::l) 3 v=(l,2,x):=by simp [rDo]
theorem popE_near (l:List Nat) (j b:Nat) (r:List Nat):popE (l++[j],b,r)=((l,b,r),(j:Int),2):=by simp [popE]
theorem popE_btw (b:Nat) (r:List Nat) (hb:0<b):popE ([],b,r)=(([],b-1,r),-1,2):=by simp [popE,hb]
theorem popE_far (j:Nat) (r:List Nat):popE ([],0,j::r)=(([],0,r),(j:Int),2):=by simp [popE]
theorem popE_no:popE ([],0,[])=(([],0,[]),-1,4):=by simp [popE]
theorem pop3_same (val:Nat→Int) (most k:Nat) (v:Int) (st:ES) (rg:List Int) (hl:rg.length=st.2.1):
  rDo most (vS val st rg) 3 v=(vS val (mStep most k 3 st).1 (rgStep 3 (mStep most k 3 st) rg),(mStep most k 3 st).2.2,mV val 3 (mStep most k 3 st) rg)∧(rgStep 3 (mStep most k 3 st) rg).length=(mStep most k 3 st).1.2.1:=by
 have e0:mStep most k 3 st=popE st:=rfl;rw [e0];obtain⟨wl,b,wr⟩:=st;dsimp only at hl
 rcases List.eq_nil_or_concat wl with rfl | ⟨l,j,hlj⟩
 ·rcases rg with _ | ⟨x,t⟩
  ·obtain rfl:b=0:=by simpa using hl.symm
   rcases wr with _ | ⟨j,r⟩
   ·rw [popE_no,rgStep_keep (no_ne rfl (by decide)),mV_no rfl (by decide)];exact⟨by simp [vS,rDo],rfl⟩
   ·rw [popE_far,rgStep_keep (met_ne rfl),mV_met rfl];refine⟨?_,rfl⟩;show rDo most (val j::r.map val) 3 v=_;rw [rDo_pop3]
    rfl
  ·have hb:0<b:=by simp at hl;omega
   rw [popE_btw b wr hb];have e1:rgStep 3 ((([]:List Nat),b-1,wr),(-1:Int),(2:Int)) (x::t)=t:=rfl;have e2:mV val 3 ((([]:List Nat),b-1,wr),(-1:Int),(2:Int)) (x::t)=x:=rfl;rw [e1,e2];refine⟨?_,by simp at hl ⊢;omega⟩;show rDo most (x::(t++wr.map val)) 3 v=_;rw [rDo_pop3]
   rfl
 ·rw [List.concat_eq_append] at hlj;subst hlj;rw [popE_near,rgStep_keep (met_ne rfl),mV_met rfl];refine⟨?_,hl⟩;have e1:vS val (l++[j],b,wr) rg=val j::vS val (l,b,wr) rg:=by simp [vS]
  rw [e1,rDo_pop3]
theorem pop4_same (val:Nat→Int) (most k:Nat) (v:Int) (st:ES) (rg:List Int) (hl:rg.length=st.2.1):
  rDo most (vS val st rg) 4 v=(vS val (mStep most k 4 st).1 (rgStep 4 (mStep most k 4 st) rg),(mStep most k 4 st).2.2,mV val 4 (mStep most k 4 st) rg)∧(rgStep 4 (mStep most k 4 st) rg).length=(mStep most k 4 st).1.2.1:=by
 have e0:mStep most k 4 st=back (popE (flip st)):=rfl;rw [e0];obtain⟨wl,b,wr⟩:=st;dsimp only at hl;show _=(vS val (back (popE (wr,b,wl))).1 (rgStep 4 (back (popE (wr,b,wl))) rg),(back (popE (wr,b,wl))).2.2,mV val 4 (back (popE (wr,b,wl))) rg)∧(rgStep 4 (back (popE (wr,b,wl))) rg).length=(back (popE (wr,b,wl))).1.2.1
 rcases List.eq_nil_or_concat wr with rfl | ⟨l,j,hlj⟩
 ·rcases List.eq_nil_or_concat rg with rfl | ⟨t,x,hx⟩
  ·obtain rfl:b=0:=by simpa using hl.symm
   rcases wl with _ | ⟨j,r⟩
   ·rw [popE_no,rgStep_keep (no_ne rfl (by decide)),mV_no (c:=4) rfl (by decide)];exact⟨by simp [vS,rDo,back,flip],rfl⟩
   ·rw [popE_far,rgStep_keep (met_ne (j:=j) rfl),mV_met (j:=j) rfl];refine⟨?_,rfl⟩;have e1:vS val (j::r,0,[]) []=(r.map val).reverse++[val j]:=by simp [vS]
    rw [e1,rDo_popR];simp [vS,back,flip]
  ·rw [List.concat_eq_append] at hx;subst hx;have hb:0<b:=by simp at hl;omega
   rw [popE_btw b wl hb];have e1:rgStep 4 (back ((([]:List Nat),b-1,wl),(-1:Int),(2:Int))) (t++[x])=t:=by simp [rgStep,back]
   have e2:mV val 4 (back ((([]:List Nat),b-1,wl),(-1:Int),(2:Int))) (t++[x])=x:=by simp [mV,back]
   rw [e1,e2];refine⟨?_,by simp [back,flip] at hl ⊢;omega⟩;have e3:vS val (wl,b,[]) (t++[x])=((wl.map val).reverse++t)++[x]:=by simp [vS]
   rw [e3,rDo_popR];simp [vS,back,flip]
 ·rw [List.concat_eq_append] at hlj;subst hlj;rw [popE_near,rgStep_keep (met_ne (j:=j) rfl),mV_met (j:=j) rfl];refine⟨?_,hl⟩;have e1:vS val (wl,b,l++[j]) rg=((wl.map val).reverse++rg++l.map val)++[val j]:=by simp [vS]
  rw [e1,rDo_popR]
  rfl
theorem step_same' (val:Nat→Int) (most k:Nat) (o v:Int) (st:ES) (rg:List Int) (hl:rg.length=st.2.1) (hv:val k=v):
  rDo most (vS val st rg) o v=(vS val (mStep most k o st).1 (rgStep o (mStep most k o st) rg),(mStep most k o st).2.2,mV val o (mStep most k o st) rg)∧(rgStep o (mStep most k o st) rg).length=(mStep most k o st).1.2.1:=by
 by_cases h1:o=1
 ·subst h1;exact push1_same val most k v st rg hl hv
 ·by_cases h2:o=2
  ·subst h2;exact push2_same val most k v st rg hl hv
  ·by_cases h3:o=3
   ·subst h3;exact pop3_same val most k v st rg hl
   ·by_cases h4:o=4
    ·subst h4;exact pop4_same val most k v st rg hl
    ·have e:mStep most k o st=(st,-1,5):=by unfold mStep;rw [if_neg h1,if_neg h2,if_neg h3,if_neg h4]
     rw [e,rgStep_keep (no_ne rfl (by decide)),mV_no rfl (by decide)];refine⟨?_,hl⟩;unfold rDo;rw [if_neg h1,if_neg h2,if_neg h3,if_neg h4]
def valAt (ops:List (Int×Int)) (k:Nat):Int:=(ops[k]?.map Prod.snd).getD 0
theorem valAt_lt {ops:List (Int×Int)} {k:Nat} (h:k<ops.length):valAt ops k=ops[k].2:=by simp [valAt,h]
def rgAt (l0:List Int) (mo:Nat) (ops:List (Int×Int)):Nat→List Int
 | 0=>l0
 | k+1=>if k<ops.length then rgStep (kindAt ops k) (mStep mo k (kindAt ops k) (mAt mo l0.length ops k)) (rgAt l0 mo ops k) else rgAt l0 mo ops k
theorem rgAt_succ {l0:List Int} {mo:Nat} {ops:List (Int×Int)} {k:Nat} (h:k<ops.length):rgAt l0 mo ops (k+1)=rgStep (kindAt ops k) (mStep mo k (kindAt ops k) (mAt mo l0.length ops k)) (rgAt l0 mo ops k):=if_pos h
def mVal (l0:List Int) (mo:Nat) (ops:List (Int×Int)) (k:Nat):Int:=mV (valAt ops) (kindAt ops k) (mStep mo k (kindAt ops k) (mAt mo l0.length ops k)) (rgAt l0 mo ops k)
def dqAt (l0:List Int) (mo:Nat) (ops:List (Int×Int)) (k:Nat):List Int:=vS (valAt ops) (mAt mo l0.length ops k) (rgAt l0 mo ops k)
theorem rgAt_len (l0:List Int) (mo:Nat) (ops:List (Int×Int)) (k:Nat) (h:k≤ops.length):(rgAt l0 mo ops k).length=(mAt mo l0.length ops k).2.1:=by
 induction k with
 | zero=>rfl
 | succ k ih=>
  have hk:k<ops.length:=h;rw [rgAt_succ hk,mAt_succ hk];exact(step_same' (valAt ops) mo k (kindAt ops k) (valAt ops k) _ _ (ih (by omega)) rfl).2
theorem mVal_none {l0:List Int} {mo:Nat} {ops:List (Int×Int)} {k:Nat} (h:mCode mo l0.length ops k≠2):mVal l0 mo ops k=0:=by
 have hp:mPair mo l0.length ops k= -1:=pair_code h;unfold mVal mV;unfold mPair at hp;unfold mCode at h;rw [hp,if_neg (by omega),if_neg h]
theorem rgAt_same {l0:List Int} {mo:Nat} {ops:List (Int×Int)} {k:Nat} (hk:k<ops.length) (h:(mStep mo k (kindAt ops k) (mAt mo l0.length ops k)).2≠(-1,2)):rgAt l0 mo ops (k+1)=rgAt l0 mo ops k:=by rw [rgAt_succ hk,rgStep_keep h]
def toldK (n:Nat) (code val:Nat→Int) (k:Nat):List (Int×Int):=(List.range n).map fun i=>(code i,if i<k then val i else 0)
theorem toldK_len (n:Nat) (code val:Nat→Int) (k:Nat):(toldK n code val k).length=n:=by simp [toldK]
theorem toldK_get (n:Nat) (code val:Nat→Int) (k i:Nat) (h:i<n):(toldK n code val k)[i]'(by rw [toldK_len];exact h)=(code i,if i<k then val i else 0):=by simp [toldK]
theorem toldK_zero (n:Nat) (code val:Nat→Int):toldK n code val 0=fillL n n (fun i=>(code i,0)) (0,0):=by
 apply List.ext_getElem
 ·simp [toldK,fillL]
 ·intro i h1 h2;simp [toldK] at h1;simp [toldK,fillL,h1]
theorem toldK_set (n:Nat) (code val:Nat→Int) (k:Nat):(toldK n code val k).set k (code k,val k)=toldK n code val (k+1):=by
 apply List.ext_getElem
 ·simp [toldK]
 ·intro i h1 h2;simp only [toldK_len] at h2;rw [List.getElem_set]
  split
  ·rename_i h;subst h;rw [toldK_get _ _ _ _ _ h2,if_pos (by omega)]
  ·rename_i h;rw [toldK_get _ _ _ _ _ h2,toldK_get _ _ _ _ _ h2]
   by_cases hk:i<k
   ·rw [if_pos hk,if_pos (by omega)]
   ·rw [if_neg hk,if_neg (by omega)]
theorem popE_met {st:ES} {j:Nat} {c:Int} (h:(popE st).2=((j:Int),c)):j∈st.1∨j∈st.2.2:=by
 obtain⟨wl,b,wr⟩:=st
 rcases List.eq_nil_or_concat wl with rfl | ⟨l,i,hli⟩
 ·rcases Nat.eq_zero_or_pos b with rfl | hb
  ·rcases wr with _ | ⟨i,r⟩
   ·rw [popE_no] at h;simp at h<;>omega
   ·rw [popE_far] at h;simp at h;obtain⟨h,_⟩:=h;right;simp;left;omega
  ·rw [popE_btw b wr hb] at h;simp at h<;>omega
 ·rw [List.concat_eq_append] at hli;subst hli;rw [popE_near] at h;simp at h;obtain⟨h,_⟩:=h
  left;simp;right;omega
theorem popE_sub (st:ES):(∀ j∈(popE st).1.1,j∈st.1)∧∀ j∈(popE st).1.2.2,j∈st.2.2:=by
 obtain⟨wl,b,wr⟩:=st
 rcases List.eq_nil_or_concat wl with rfl | ⟨l,i,hli⟩
 ·rcases Nat.eq_zero_or_pos b with rfl | hb
  ·rcases wr with _ | ⟨i,r⟩
   ·rw [popE_no];exact⟨fun _ h=>h,fun _ h=>h⟩
   ·rw [popE_far];exact⟨fun _ h=>h,fun j h=>List.mem_cons_of_mem _ h⟩
  ·rw [popE_btw b wr hb];exact⟨fun _ h=>h,fun _ h=>h⟩
 ·rw [List.concat_eq_append] at hli;subst hli;rw [popE_near];exact⟨fun j h=>List.mem_append_left _ h,fun _ h=>h⟩
theorem mAt_lt (most below:Nat) (ops:List (Int×Int)) (k:Nat):(∀ j∈(mAt most below ops k).1,j<k)∧∀ j∈(mAt most below ops k).2.2,j<k:=by
 induction k with
 | zero=>simp [mAt]
 | succ k ih=>
  by_cases h:k<ops.length
  ·rw [mAt_succ h];generalize mAt most below ops k=st at*;generalize kindAt ops k=o at*;have up:∀ (l:List Nat),(∀ j∈l,j<k)→∀ j∈l,j<k+1:=fun l h j hj=>Nat.lt_succ_of_lt (h j hj);unfold mStep
   split
   ·unfold pushE
    split
    ·refine⟨fun j hj=>?_,up _ ih.2⟩
     rcases List.mem_append.1 hj with h | h
     ·exact up _ ih.1 j h
     ·simp at h;omega
    ·exact⟨up _ ih.1,up _ ih.2⟩
   ·split
    ·unfold pushE
     split
     ·refine⟨up _ ih.1,fun j hj=>?_⟩
      rcases List.mem_append.1 hj with h | h
      ·exact up _ ih.2 j h
      ·simp at h;omega
     ·exact⟨up _ ih.1,up _ ih.2⟩
    ·split
     ·exact⟨fun j hj=>up _ ih.1 j ((popE_sub st).1 j hj),fun j hj=>up _ ih.2 j ((popE_sub st).2 j hj)⟩
     ·split
      ·exact⟨fun j hj=>up _ ih.1 j ((popE_sub (flip st)).2 j hj),fun j hj=>up _ ih.2 j ((popE_sub (flip st)).1 j hj)⟩
      ·exact⟨up _ ih.1,up _ ih.2⟩
  ·have:ops[k]? =none:=List.getElem?_eq_none (by omega);have e:mAt most below ops (k+1)=mAt most below ops k:=by simp [mAt,this]
   rw [e];exact⟨fun j hj=>Nat.lt_succ_of_lt (ih.1 j hj),fun j hj=>Nat.lt_succ_of_lt (ih.2 j hj)⟩
theorem step_met {most k:Nat} {o:Int} {st:ES} {j:Nat} {c:Int} (h:(mStep most k o st).2=((j:Int),c)):j∈st.1∨j∈st.2.2:=by
 unfold mStep at h
 split at h
 ·unfold pushE at h;split at h<;> · simp at h<;>omega
 ·split at h
  ·unfold pushE at h;split at h<;> · simp [back] at h<;>omega
  ·split at h
   ·exact popE_met h
   ·split at h
    ·have:=popE_met (st:=flip st) (j:=j) (c:=c) h;exact this.symm
    ·simp at h<;>omega
theorem step_btw {most k:Nat} {o:Int} {st:ES} {rg:List Int} (h:(mStep most k o st).2=(-1,2)) (hl:rg.length=st.2.1):(o=3∧∃ x t,rg=x::t)∨(o=4∧∃ t x,rg=t++[x]):=by
 have key:∀ st':ES,(popE st').2=(-1,2)→0<st'.2.1:=fun st' hp=>by
  obtain⟨wl,b,wr⟩:=st'
  rcases List.eq_nil_or_concat wl with rfl | ⟨l,i,hli⟩
  ·rcases Nat.eq_zero_or_pos b with rfl | hb
   ·rcases wr with _ | ⟨i,r⟩
    ·rw [popE_no] at hp;simp at hp
    ·rw [popE_far] at hp;simp at hp<;>omega
   ·exact hb
  ·rw [List.concat_eq_append] at hli;subst hli;rw [popE_near] at hp;simp at hp<;>omega
 unfold mStep at h
 split at h
 ·unfold pushE at h;split at h<;> · simp at h
 ·split at h
  ·unfold pushE at h;split at h<;> · simp [back] at h
  ·split at h
   ·rename_i h3
    left
    refine⟨h3,?_⟩;have:=key st h
    rcases rg with _ | ⟨x,t⟩
    ·simp at hl;omega
    ·exact⟨x,t,rfl⟩
   ·split at h
    ·rename_i h4
     right
     refine⟨h4,?_⟩;have:0<st.2.1:=key (flip st) h
     rcases List.eq_nil_or_concat rg with rfl | ⟨t,x,hx⟩
     ·simp at hl;omega
     ·exact⟨t,x,by rw [hx,List.concat_eq_append]⟩
    ·simp at h
end Go.Rp.Rng
namespace Go.Proofs.YtadgbhjpgnlmoaaGreat.Rng
set_option maxRecDepth 100000
open Go.RowKit Go.Rp Go.Rp.Rng
def vV (l0:List Int) (mo:Nat) (ops:List (Int×Int)) (k:Nat):Value:=Iw (mVal l0 mo ops k)
abbrev valsR (gv n:Nat) (xs:List Value):Res:=slRes 21 1 (some ⟨gv,0,none⟩) n n xs
abbrev vboxR (q gv n:Nat):Res:=blkR q 35 #[.slice (some ⟨gv,0,none⟩) n n]
abbrev oboxR (q:Nat) (A:Option Addr) (n c:Nat):Res:=blkR q 81 #[.slice A n c]
abbrev bound (f:Nat) (p:Option Addr):Value:=.func (.func f) #[.pointer p] #[]
abbrev takeR (q:Nat) (p:Option Addr):Res:=blkR q 316 #[bound 240 p,bound 241 p]
abbrev putR (q:Nat) (p:Option Addr):Res:=blkR q 317 #[bound 242 p,bound 243 p]
section
variable {B:Nat} {w:World} {L:List Res} {A:Option Addr} {n c bv bo bt gv k j:Nat} {ops:List (Int×Int)} {xs:List Value} {p:Option Addr}
theorem met2_s (hB:B≤w.heap.size) (h:At B w (valsR gv n xs::vboxR bv gv n::oboxR bo A n c::L)) {R:Nat→Prop} (hr:Rd w R 2 A n (ops.flatMap opIn)) (hn:ops.length=n) (hk:k<n) (hj:j<n) (hlen:n≤100000) {u:Value} (hu:xs[k]? =some u) (e:Int):
  Calls Tryz.prog 245 #[Iv (k:Int),Iv e,Iv (j:Int),Pz bt,Pz bv,Pz bo] w fun e w'=>e=.returned (.tuple #[])∧At B w' (valsR gv n (xs.set k (Iw (valAt ops j)))::vboxR bv gv n::oboxR bo A n c::L)∧Below B w w':=by
 have kb:=h.rot2.cv 0 (.slice (some ⟨gv,0,none⟩) n n);have kc:=h.rot3.cv 0 (.slice A n c);have hjl:j<ops.length:=by omega
 obtain⟨b,off,rfl,_,hcells⟩:=hr.at (by omega);obtain⟨c0,c1⟩:=op_at ops j hjl;have g1:w.cell? ⟨b,off+j*2+1,none⟩=some (Iw (valAt ops j)):=by rw [valAt_lt hjl];exact hcells _ _ c1
 obtain⟨k1,k2,k3⟩:=h.slat hB k u hu;obtain⟨k4,k5⟩:=k3 (Iw (valAt ops j));have k4:=k4.drew;have k5:Below B w ((w.setCell ⟨gv,k,none⟩ (Iw (valAt ops j))).drew):=k5.drew;have hkn:(k:Int)<(n:Int):=by omega
 have hjn:(j:Int)<(n:Int):=by omega
 have hj0:¬ (j:Int)<0:=by omega
 generalize valAt ops j=vl at*;clear k3 h hu hcells c0 c1 hr hn;go_enter Tryz.func245,Tryz.ntmps245;go_wp2_with fail
 go_region
 all_goals
  go_wp2_with fail
  go_end0
  exact⟨rfl,k4,k5⟩
theorem taken0_s {pp mo:Nat} {T:List Int} {x:Int} (hB:B≤w.heap.size) (h:At B w (valsR gv n xs::vboxR bv gv n::takeR bt (some ⟨pp,0,none⟩)::ringR pp mo (x::T)::L)) (hk:k<n) (hlen:n≤100000) {u:Value} (hu:xs[k]? =some u):
  Calls Tryz.prog 245 #[Iv (k:Int),Iv 0,Iv (-1),Pz bt,Pz bv,Pz bo] w fun e w'=>e=.returned (.tuple #[])∧At B w' (valsR gv n (xs.set k (Iw x))::vboxR bv gv n::takeR bt (some ⟨pp,0,none⟩)::ringR pp mo T::L)∧Below B w w':=by
 have kb:=h.rot2.cv 0 (.slice (some ⟨gv,0,none⟩) n n);have kc0:=h.rot3.cv 0 (bound 240 (some ⟨pp,0,none⟩));have kc1:=h.rot3.cv 1 (bound 241 (some ⟨pp,0,none⟩));have hkn:(k:Int)<(n:Int):=by omega
 have hpop:=popL_s (w:=World.drew w) hB (x:=x) (Sep.drew h).rot4;have hst:=fun(w5:World) (h5:At B w5 (ringR pp mo T::valsR gv n xs::vboxR bv gv n::takeR bt (some ⟨pp,0,none⟩)::L)) (hB5:B≤w5.heap.size)=>(Sep.rot2 h5).slat hB5 k u hu;go_enter Tryz.func245,Tryz.ntmps245;go_wp2_with fail
 go_region_held3 (fun w'=>w'.cell? ⟨bv,0,none⟩=some (.slice (some ⟨gv,0,none⟩) n n)∧w'.cell? ⟨bt,0,none⟩=some (bound 240 (some ⟨pp,0,none⟩))∧w'.cell? ⟨bt,1,none⟩=some (bound 241 (some ⟨pp,0,none⟩))) (first | (refine ⟨?_,?_,?_⟩<;>assumption) | go_keep) (first
  | (go_at_call 240;((with_reducible refine hpop.mono ?_);rintro e w5 ⟨rfl,s5,b5⟩;obtain⟨k1,k2,k3⟩:=hst w5 s5 (Nat.le_trans hB b5.size);obtain⟨k4,k5⟩:=k3 (Iw x);have kb:=s5.rot3.cv 0 (.slice (some ⟨gv,0,none⟩) n n);have kc0:=s5.rot4.cv 0 (bound 240 (some ⟨pp,0,none⟩));have kc1:=s5.rot4.cv 1 (bound 241 (some ⟨pp,0,none⟩));have kb2:(w5.setCell ⟨gv,k,none⟩ (Iw x)).cell? ⟨bv,0,none⟩=some (.slice (some ⟨gv,0,none⟩) n n):=(Sep.rot3 k4).blk.cell 0;have kc2:(w5.setCell ⟨gv,k,none⟩ (Iw x)).cell? ⟨bt,0,none⟩=some (bound 240 (some ⟨pp,0,none⟩)):=(Sep.rot4 k4).blk.cell 0;have kc3:(w5.setCell ⟨gv,k,none⟩ (Iw x)).cell? ⟨bt,1,none⟩=some (bound 241 (some ⟨pp,0,none⟩)):=(Sep.rot4 k4).blk.cell 1)))
 go_wp2_with fail
 go_end0
 exact⟨rfl,Sep.cons (fun _ h=>Sep.rot3 (Sep.rot3 h)) k4,((Below.refl _ w).drew.trans b5).trans k5⟩
theorem taken1_s {pp mo:Nat} {T:List Int} {x:Int} (hB:B≤w.heap.size) (h:At B w (valsR gv n xs::vboxR bv gv n::takeR bt (some ⟨pp,0,none⟩)::ringR pp mo (T++[x])::L)) (hk:k<n) (hlen:n≤100000) {u:Value} (hu:xs[k]? =some u):
  Calls Tryz.prog 245 #[Iv (k:Int),Iv 1,Iv (-1),Pz bt,Pz bv,Pz bo] w fun e w'=>e=.returned (.tuple #[])∧At B w' (valsR gv n (xs.set k (Iw x))::vboxR bv gv n::takeR bt (some ⟨pp,0,none⟩)::ringR pp mo T::L)∧Below B w w':=by
 have kb:=h.rot2.cv 0 (.slice (some ⟨gv,0,none⟩) n n);have kc0:=h.rot3.cv 0 (bound 240 (some ⟨pp,0,none⟩));have kc1:=h.rot3.cv 1 (bound 241 (some ⟨pp,0,none⟩));have hkn:(k:Int)<(n:Int):=by omega
 have hpop:=popR_s (w:=World.drew w) hB (x:=x) (Sep.drew h).rot4;have hst:=fun(w5:World) (h5:At B w5 (ringR pp mo T::valsR gv n xs::vboxR bv gv n::takeR bt (some ⟨pp,0,none⟩)::L)) (hB5:B≤w5.heap.size)=>(Sep.rot2 h5).slat hB5 k u hu;go_enter Tryz.func245,Tryz.ntmps245;go_wp2_with fail
 go_region_held3 (fun w'=>w'.cell? ⟨bv,0,none⟩=some (.slice (some ⟨gv,0,none⟩) n n)∧w'.cell? ⟨bt,0,none⟩=some (bound 240 (some ⟨pp,0,none⟩))∧w'.cell? ⟨bt,1,none⟩=some (bound 241 (some ⟨pp,0,none⟩))) (first | (refine ⟨?_,?_,?_⟩<;>assumption) | go_keep) (first
  | (go_at_call 241;((with_reducible refine hpop.mono ?_);rintro e w5 ⟨rfl,s5,b5⟩;obtain⟨k1,k2,k3⟩:=hst w5 s5 (Nat.le_trans hB b5.size);obtain⟨k4,k5⟩:=k3 (Iw x);have kb:=s5.rot3.cv 0 (.slice (some ⟨gv,0,none⟩) n n);have kc0:=s5.rot4.cv 0 (bound 240 (some ⟨pp,0,none⟩));have kc1:=s5.rot4.cv 1 (bound 241 (some ⟨pp,0,none⟩));have kb2:(w5.setCell ⟨gv,k,none⟩ (Iw x)).cell? ⟨bv,0,none⟩=some (.slice (some ⟨gv,0,none⟩) n n):=(Sep.rot3 k4).blk.cell 0;have kc2:(w5.setCell ⟨gv,k,none⟩ (Iw x)).cell? ⟨bt,0,none⟩=some (bound 240 (some ⟨pp,0,none⟩)):=(Sep.rot4 k4).blk.cell 0;have kc3:(w5.setCell ⟨gv,k,none⟩ (Iw x)).cell? ⟨bt,1,none⟩=some (bound 241 (some ⟨pp,0,none⟩)):=(Sep.rot4 k4).blk.cell 1)))
 go_wp2_with fail
 go_end0
 exact⟨rfl,Sep.cons (fun _ h=>Sep.rot3 (Sep.rot3 h)) k4,((Below.refl _ w).drew.trans b5).trans k5⟩
end
end Go.Proofs.YtadgbhjpgnlmoaaGreat.Rng
