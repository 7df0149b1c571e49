/- TopSafe, a part of its proof; no conditions. -/
import Derived.Deep.RegionHeld
import Derived.Test.YtadgbhjpgnlmoaaGreatPk15
import Derived.Test.YtadgbhjpgnlmoaaGreatPk21
import Derived.Test.YtadgbhjpgnlmoaaGreatPk22
set_option linter.all false
namespace Go.Rp
def ordL:List Nat→List Res→List Res
 | [],l=>l
 | i::is,l=>match l[i]? with
  | some a=>a::ordL is (l.eraseIdx i)
  | none=>[]
theorem Sep.pickAt {w:World}:∀ {l:List Res} {U:Nat→Prop} {i:Nat} {a:Res},l[i]? =some a→Sep w U l→Sep w U (a::l.eraseIdx i)
 | [],_,_,_,h,_=>by simp at h
 | b::l,U,0,a,h,s=>by
  simp only [List.getElem?_cons_zero,Option.some.injEq] at h;subst h;simpa using s
 | b::l,U,i+1,a,h,s=>by
  simp only [List.getElem?_cons_succ] at h;rw [List.eraseIdx_cons_succ];exact(Sep.cons (fun V hV=>Sep.pickAt h hV) s).rot2
theorem Sep.ord {w:World}:∀ (is:List Nat) {l:List Res} {U:Nat→Prop},Sep w U l→Sep w U (ordL is l)
 | [],_,_,s=>s
 | i::is,l,U,s=>by
  unfold ordL
  split
  ·rename_i a h;exact Sep.cons (fun V hV=>Sep.ord is hV) (s.pickAt h)
  ·trivial
theorem Sep.openL {w:World}:∀ {l L:List Res} {U S:Nat→Prop},(∀ b,S b→U b)→Sep w S l→Sep w (fun b=>U b∧¬ S b) L→Sep w U (l++L)
 | [],_,_,_,_,_,h=>h.mono fun _ h=>h.1
 | a::l,L,U,S,hU,⟨T,h1,h2,h3⟩,h=>by
  refine⟨T,fun b hb=>hU b (h1 b hb),h2,Sep.openL (S:=fun b=>S b∧¬ T b) (fun b hb=>⟨hU b hb.1,hb.2⟩) h3 (h.mono fun b hb=>⟨⟨hb.1,fun ht=>hb.2 (h1 b ht)⟩,fun hs=>hb.2 hs.1⟩)⟩
theorem Sep.shutL {w:World}:∀ {l L:List Res} {U:Nat→Prop},Sep w U (l++L)→∃ S:Nat→Prop,(∀ b,S b→U b)∧Sep w S l∧Sep w (fun b=>U b∧¬ S b) L
 | [],_,_,h=>⟨fun _=>False,fun _ h=>h.elim,trivial,h.mono fun _ h=>⟨h,fun h=>h⟩⟩
 | a::l,L,U,⟨T,h1,h2,h3⟩=>by
  obtain⟨S,h4,h5,h6⟩:=Sep.shutL h3;refine⟨fun b=>T b∨S b,fun b hb=>hb.elim (h1 b) fun h=>(h4 b h).1,⟨T,fun b hb=>.inl hb,h2,h5.mono fun b hb=>⟨.inr hb,(h4 b hb).2⟩⟩,h6.mono fun b hb=>⟨hb.1.1,fun h=>h.elim hb.1.2 hb.2⟩⟩
theorem stable_ex {α:Type} (f:α→List Res) (ok:α→Prop):Stable (fun w S=>∃ a,ok a∧Sep w S (f a)):=
 ⟨fun ⟨a,h1,h2⟩ hS=>⟨a,h1,h2.mono hS⟩,fun⟨a,h1,h2⟩ hm hd=>⟨a,h1,h2.mod hm hd⟩,fun⟨a,h1,h2⟩=>⟨a,h1,h2.lt⟩⟩
def exR {α:Type} (f:α→List Res) (ok:α→Prop):Res:=⟨fun w S=>∃ a,ok a∧Sep w S (f a),stable_ex f ok⟩
theorem Sep.openX {α:Type} {f:α→List Res} {ok:α→Prop} {w:World} {U:Nat→Prop} {L:List Res} (h:Sep w U (exR f ok::L)):∃ a,ok a∧Sep w U (f a++L):=by
 obtain⟨S,h1,⟨a,h2,h3⟩,h4⟩:=h;exact⟨a,h2,Sep.openL h1 h3 h4⟩
theorem Sep.shutX {α:Type} {f:α→List Res} {ok:α→Prop} {w:World} {U:Nat→Prop} {L:List Res} (a:α) (ha:ok a) (h:Sep w U (f a++L)):Sep w U (exR f ok::L):=by
 obtain⟨S,h1,h2,h3⟩:=Sep.shutL h;exact⟨S,h1,⟨a,ha,h2⟩,h3⟩
open Go.RowKit
section
variable {P:Program} {md:Region.Mode} {ops:Array Oper} {Q:Exit→Act→World→Prop} {S:World→Prop} {fuel:Nat} {listed:Array Bool} {a a':Act} {w:World}
theorem tk (i:Nat) (hS:S w) {oi:Oper} {v:Value} (h:wpAnyH P md ops Q S fuel (listed.setIfInBounds i true) a' w) (hi:ops[i]? =some oi:=by rfl)
  (hs:Region.noSelect ops=true:=by kernel_rfl) (hf:Region.free md ops listed i=true:=by kernel_rfl) (hr:(Region.ready md ops listed).contains i=true:=by kernel_rfl)
  (hQ:∀ c a w,Q (.panic c) (a.put oi.dst v) w→Q (.panic c) a w:=by exact fun _ _ _ h=>h) (hw:Region.wanted oi (yielded ops a.tmps)=true:=by kernel_rfl)
  (hy:∀ w,S w→(execOp a.eval oi).run P w=.ok (.value v) w:=by(intro w hSw;(try dsimp only at hSw);go_simp;(try with_reducible rfl)))
  (ha:a.put oi.dst v=a':=by first | (simp only [Act.put,List.getElem_toArray,List.getElem_cons_succ,List.getElem_cons_zero,List.setIfInBounds_toArray,List.set_cons_zero,List.set_cons_succ];done) | (simp only [Act.put,List.getElem_toArray,List.getElem_cons_succ,List.getElem_cons_zero,List.setIfInBounds_toArray,List.set_cons_zero,List.set_cons_succ];rfl) | rfl):wpAnyH P md ops Q S (fuel+1) listed a w:=by
 subst ha;exact wpAnyH_take hi hs hf hr hQ (Or.inl ⟨hw,hy⟩) hS h
theorem sk (i:Nat) (hS:S w) {oi:Oper} (h:wpAnyH P md ops Q S fuel (listed.setIfInBounds i true) a' w) (hi:ops[i]? =some oi:=by rfl)
  (hs:Region.noSelect ops=true:=by kernel_rfl) (hf:Region.free md ops listed i=true:=by kernel_rfl) (hr:(Region.ready md ops listed).contains i=true:=by kernel_rfl)
  (hQ:∀ c a w,Q (.panic c) (a.put oi.dst undef) w→Q (.panic c) a w:=by exact fun _ _ _ h=>h) (hw:Region.wanted oi (yielded ops a.tmps)=false:=by kernel_rfl)
  (ha:a.put oi.dst undef=a':=by first | (simp only [Act.put,List.getElem_toArray,List.getElem_cons_succ,List.getElem_cons_zero,List.setIfInBounds_toArray,List.set_cons_zero,List.set_cons_succ];done) | (simp only [Act.put,List.getElem_toArray,List.getElem_cons_succ,List.getElem_cons_zero,List.setIfInBounds_toArray,List.set_cons_zero,List.set_cons_succ];rfl) | rfl):wpAnyH P md ops Q S (fuel+1) listed a w:=by
 subst ha;exact wpAnyH_take hi hs hf hr hQ (Or.inr ⟨hw,rfl⟩) hS h
theorem rd (i:Nat) {o:Oper} (h:∀ K':Act→World→Prop,Shut (∀ a w,S w→(S w→wpAnyH P md ops Q S fuel (listed.setIfInBounds i true) a w)→K' a w)→if Region.wanted o (yielded ops a.tmps)=true then Oper.wp P o a w K' Q else K' (a.put o.dst undef) w)
  (ho:ops[i]? =some o:=by rfl) (hr:Region.ready md ops listed=[i]:=by kernel_rfl):wpAnyH P md ops Q S (fuel+1) listed a w:=
 wpAnyH_ready hr (by simp) (AllReadyH.cons ho h AllReadyH.nil)
theorem gon {K:Act→World→Prop} (hK:Shut (∀ a w,S w→(S w→wpAnyH P md ops Q S fuel listed a w)→K a w)) (hS:S w) (h:S w→wpAnyH P md ops Q S fuel listed a' w)
  (ha:a=a':=by first | (simp only [Act.put,List.getElem_toArray,List.getElem_cons_succ,List.getElem_cons_zero,List.setIfInBounds_toArray,List.set_cons_zero,List.set_cons_succ];done) | (simp only [Act.put,List.getElem_toArray,List.getElem_cons_succ,List.getElem_cons_zero,List.setIfInBounds_toArray,List.set_cons_zero,List.set_cons_succ];rfl) | rfl):K a w:=by
 subst ha;exact hK.out _ _ hS h
theorem Sep.ox {w:World} {l l':List Res} {U:Nat→Prop} (h:Sep w U l) (is:List Nat) (e:ordL is l=l':=by first | (simp only [ordL,List.getElem?_cons_zero,List.getElem?_cons_succ,List.eraseIdx_cons_succ,List.eraseIdx_cons_zero];done) | (simp only [ordL,List.getElem?_cons_zero,List.getElem?_cons_succ,List.eraseIdx_cons_succ,List.eraseIdx_cons_zero];rfl)):Sep w U l':=by
 subst e;exact h.ord is
end
end Go.Rp
namespace Go.Proofs.YtadgbhjpgnlmoaaGreat
open Go.RowKit Go.Rp
def FitI (l:List Int):Prop:=∀ x∈l,Fit32 x
theorem fit0:Fit32 0:=⟨by decide,by decide⟩
theorem In8.mk' {c v:Int} (h:0≤c∧c≤255) (hv:Fit32 v):In8 c v:=⟨h.1,h.2,hv.1,hv.2⟩
theorem FitI.app {l m:List Int} (h:FitI l) (k:FitI m):FitI (l++m):=fun x hx=>(List.mem_append.1 hx).elim (h x) (k x)
theorem FitI.sub {l m:List Int} (h:FitI l) (k:∀ x∈m,x∈l):FitI m:=fun x hx=>h x (k x hx)
theorem FitI.one {x:Int} (h:Fit32 x):FitI [x]:=fun y hy=>by rw [List.mem_singleton.1 hy];exact h
theorem sDo_ok {mo:Nat} {l:List Int} {k v:Int} (h:FitI l) (hv:Fit32 v):FitI (Stk.sDo mo l k v).1∧In8 (Stk.sDo mo l k v).2.1 (Stk.sDo mo l k v).2.2:=by
 unfold Stk.sDo
 split
 ·split
  ·exact⟨h.app (.one hv),.mk' (by simp) fit0⟩
  ·exact⟨h,.mk' (by simp) fit0⟩
 ·split
  ·split
   ·rename_i x hx;exact⟨h.sub fun y hy=>(List.dropLast_sublist _).subset hy,.mk' (by simp) (h x (List.mem_of_getLast? hx))⟩
   ·exact⟨h,.mk' (by simp) fit0⟩
  ·exact⟨h,.mk' (by simp) fit0⟩
theorem rDo_ok {mo:Nat} {l:List Int} {k v:Int} (h:FitI l) (hv:Fit32 v):FitI (Rng.rDo mo l k v).1∧In8 (Rng.rDo mo l k v).2.1 (Rng.rDo mo l k v).2.2:=by
 unfold Rng.rDo
 split
 ·split
  ·exact⟨h,.mk' (by simp) fit0⟩
  ·exact⟨FitI.app (.one hv) h,.mk' (by simp) fit0⟩
 ·split
  ·split
   ·exact⟨h,.mk' (by simp) fit0⟩
   ·exact⟨h.app (.one hv),.mk' (by simp) fit0⟩
  ·split
   ·split
    ·exact⟨h,.mk' (by simp) fit0⟩
    ·exact⟨h.sub fun y hy=>List.mem_cons_of_mem _ hy,.mk' (by simp) (h _ (List.mem_cons_self ..))⟩
   ·split
    ·split
     ·exact⟨h,.mk' (by simp) fit0⟩
     ·rename_i x hx;exact⟨h.sub fun y hy=>(List.dropLast_sublist _).subset hy,.mk' (by simp) (h x (List.mem_of_getLast? hx))⟩
    ·exact⟨h,.mk' (by simp) fit0⟩
theorem getD_ok {l:List Int} (h:FitI l) (k:Nat):Fit32 (l[k]?.getD 0):=by
 rcases e:l[k]? with _ | x
 ·exact fit0
 ·exact h x (List.mem_of_getElem? e)
theorem ops_val {ops:List (Int×Int)} (h:Fits ops) (k:Nat):Fit32 ((ops[k]?.map Prod.snd).getD 0):=by
 rcases e:ops[k]? with _ | x
 ·exact fit0
 ·have:=h x (List.mem_of_getElem? e);exact⟨this.3,this.4⟩
theorem mStep_code (most k:Nat) (o:Int) (st:List Nat×Nat):0≤(Stk.mStep most k o st).2.2∧(Stk.mStep most k o st).2.2≤255:=by
 unfold Stk.mStep
 split
 ·split<;>simp
 ·split
  ·split
   ·simp
   ·split<;>simp
  ·simp
theorem match_ok {l0:List Int} {mo:Nat} {ops:List (Int×Int)} (hl:FitI l0) (hf:Fits ops) (n:Nat):Fits (Stk.toldK n (Stk.mCode mo l0.length ops) (Stk.mVal l0 mo ops) n)∧∀ st,FitI (Stk.mEnd l0 ops st):=by
 have hval:∀ k,Fit32 (Stk.valAt ops k):=fun k=>ops_val hf k;refine⟨?_,fun st=>?_⟩
 ·intro r hr;unfold Stk.toldK at hr;obtain⟨i,hi,rfl⟩:=List.mem_map.1 hr;rw [if_pos (List.mem_range.1 hi)];refine .mk' (mStep_code ..) ?_;unfold Stk.mVal
  split
  ·exact hval _
  ·split
   ·exact getD_ok hl _
   ·exact fit0
 ·unfold Stk.mEnd;refine FitI.app (hl.sub fun x hx=>List.mem_of_mem_take hx) ?_;intro x hx;obtain⟨k,_,rfl⟩:=List.mem_map.1 hx;exact hval k
theorem eStep_code (most k:Nat) (o:Int) (st:Rng.ES):0≤(Rng.mStep most k o st).2.2∧(Rng.mStep most k o st).2.2≤255:=by
 have h1:∀ st,0≤(Rng.pushE most k st).2.2∧(Rng.pushE most k st).2.2≤255:=by
  intro st;unfold Rng.pushE;split<;>simp
 have h2:∀ st,0≤(Rng.popE st).2.2∧(Rng.popE st).2.2≤255:=by
  intro st;unfold Rng.popE
  split
  ·simp
  ·split
   ·simp
   ·split<;>simp
 unfold Rng.mStep
 split
 ·exact h1 _
 ·split
  ·exact h1 _
  ·split
   ·exact h2 _
   ·split
    ·exact h2 _
    ·simp
theorem rgAt_ok {l0:List Int} {mo:Nat} {ops:List (Int×Int)} (hl:FitI l0) (k:Nat):FitI (Rng.rgAt l0 mo ops k):=by
 induction k with
 | zero=>exact hl
 | succ k ih=>
  unfold Rng.rgAt
  split
  ·unfold Rng.rgStep
   split
   ·split
    ·exact ih.sub fun x hx=>List.mem_of_mem_tail hx
    ·exact ih.sub fun x hx=>(List.dropLast_sublist _).subset hx
   ·exact ih
  ·exact ih
theorem ends_ok {l0:List Int} {mo:Nat} {ops:List (Int×Int)} (hl:FitI l0) (hf:Fits ops) (n:Nat):Fits (Rng.toldK n (Rng.mCode mo l0.length ops) (Rng.mVal l0 mo ops) n)∧∀ k,FitI (Rng.dqAt l0 mo ops k):=by
 have hval:∀ k,Fit32 (Rng.valAt ops k):=fun k=>ops_val hf k;refine⟨?_,fun k=>?_⟩
 ·intro r hr;unfold Rng.toldK at hr;obtain⟨i,hi,rfl⟩:=List.mem_map.1 hr;rw [if_pos (List.mem_range.1 hi)];refine .mk' (eStep_code ..) ?_;have hrg:=rgAt_ok (mo:=mo) (ops:=ops) hl i;unfold Rng.mVal Rng.mV;generalize Rng.rgAt l0 mo ops i=rg at hrg ⊢
  split
  ·exact hval _
  ·split
   ·split
    ·cases rg with
     | nil=>exact fit0
     | cons x l=>exact hrg x (List.mem_cons_self ..)
    ·cases e:rg.getLast? with
     | none=>rw [List.getLastD_eq_getLast?,e];exact fit0
     | some x=>rw [List.getLastD_eq_getLast?,e];exact hrg x (List.mem_of_getLast? e)
   ·exact fit0
 ·unfold Rng.dqAt Rng.vS;refine FitI.app (FitI.app ?_ (rgAt_ok hl k)) ?_
  ·intro x hx;obtain⟨j,_,rfl⟩:=List.mem_map.1 (List.mem_reverse.1 hx);exact hval j
  ·intro x hx;obtain⟨j,_,rfl⟩:=List.mem_map.1 hx;exact hval j
set_option maxRecDepth 100000
theorem info_rs:(Tryz.prog.info? 47).map (fun i=>(i.zero,i.size,i.bytes))=some (some (.agg #[Ub 0,Iw 0]),2,8):=by kernel_rfl
theorem rep_rs (n:Nat):(List.replicate n ((#[Ub 0,Iw 0]:Array Value).toList)).flatten=(List.replicate n ((0,0):Int×Int)).flatMap resIn:=by
 induction n with
 | zero=>rfl
 | succ n ih=>rw [List.replicate_succ,List.replicate_succ,List.flatten_cons,List.flatMap_cons,ih];rfl
theorem FitsL.ins {l:List Skp.It} (h:FitsL l) {v:Int} (hv:Fit32 v) (k:Nat):FitsL (Skp.insL l v k):=by
 intro a ha;unfold Skp.insL at ha
 rcases List.mem_append.1 ha with h1 | h1
 ·exact h a ((List.takeWhile_sublist _).subset h1)
 ·rcases List.mem_cons.1 h1 with h2 | h2
  ·subst h2;exact hv
  ·exact h a ((List.dropWhile_sublist _).subset h2)
theorem told_new {B n:Nat} {w:World} {L:List Res} {arr:Array Value} (hB:B≤w.heap.size) (hn:n≤1000) (h:At B w L) (harr:arr.toList=(List.replicate n ((#[Ub 0,Iw 0]:Array Value).toList)).flatten):At B (w.alloc (.cells arr 47)) (resO w.heap.size n (List.replicate n (0,0))::L):=
 h.made (fun x hx=>Nat.le_trans hB hx) ((Below.refl _ w).alloc (Nat.le_refl _) _) (Sl.of_made w 47 2 n arr _ (harr.trans (rep_rs n)) (by rw [res_len,List.length_replicate]) (by unfold maxLen;omega) ⟨Nat.le_refl _,by simp⟩)
theorem fits_rep (n:Nat):Fits (List.replicate n (0,0)):=by
 intro r hr;obtain⟨_,rfl⟩:=List.mem_replicate.1 hr;exact⟨by decide,by decide,by decide,by decide⟩
section
variable {B n c s M q:Nat} {w:World} {L:List Res} {ops:List (Int×Int)} {A:Option Addr} {l:List Skp.It} {bits:List Bool}
theorem fits_op {k:Nat} (hf:Fits ops) (hk:k<ops.length):Fit32 (vOf ops k):=by
 have:=hf ops[k] (List.getElem_mem hk);unfold vOf;simp only [List.getElem?_eq_getElem hk,Option.map_some,Option.getD_some];exact⟨this.3,this.4⟩
set_option maxHeartbeats 2000000 in
theorem plain_s (hB:B≤w.heap.size) (hn:ops.length=n) (hn2:n<20) (hf:Fits ops) (hl:FitsL l) (h:At B w (Skp.skR s M l::Con.coinR q bits::opsO A n c ops::L)):
  Calls Tryz.prog 263 #[Pz s,Pz q,.slice A n c] w fun e w'=>∃ g ts l' bits',e=.returned (.slice (some ⟨g,0,none⟩) n n)∧Fits ts∧FitsL l'∧At B w' (resO g n ts::Skp.skR s M l'::Con.coinR q bits'::opsO A n c ops::L)∧Below B w w':=by
 obtain⟨i0,hi0,hz0,hz1,hz2⟩:=info_parts info_rs;have HN:=Lib.hid hn;have HF:=Lib.hid hf;clear hn hf;go_enter Tryz.func263,Tryz.ntmps263;go_wp2_with (refine wpList_make_any _ rfl (.tmp 13) (.tmp 13) 260 rfl 47 i0 _ 2 8 Tryz.underlying260 hi0 hz0 hz1 hz2 rfl (by omega) .i64 .i64 n rfl rfl (by omega) (by omega) ?_;intro arr harr);have s1:=told_new hB (by omega) h harr;have b1:Below B w (w.alloc (.cells arr 47)):=(Below.refl B w).alloc hB _;clear harr;generalize w.alloc (.cells arr 47)=w1 at*;generalize w.heap.size=g at s1 ⊢;have hB1:=Nat.le_trans hB b1.size;refine(parted_s hB1 HN.out hn2 s1.rot4).mono ?_;rintro e w2 ⟨A1,n1,c1,A2,n2,c2,ps,os,rfl,hnn,hps,hos,s2,b2⟩
 have s3:At B w2 (resO g n (List.replicate n (0,0))::Skp.skR s M l::Con.coinR q bits::plR A1 n1 c1 ps::plR A2 n2 c2 os::opsO A n c ops::L):=by
  have h1:=Sep.rot4 s2;have h2:=Sep.cons (fun _ h=>Sep.rot4 h) h1;exact Sep.cons (fun _ h=>Sep.cons (fun _ h=>Sep.rot4 h) h) h2
 have b3:=b1.trans b2
 have hl1:ps.length=n1:=by
  have hs:Sl w2 3 1 A1 n1 c1 (pls ps) (fun x=>B≤x):=s2.get
  simpa using hs.1
 have HL:=Lib.hid hl1;have HP:=Lib.hid hps;have HO:=Lib.hid hos;have e1:n1<20:=by omega
 have e2:n2<20:=by omega
 have hf0:=fits_rep n;clear s1 s2 b1 b2 hl1 hps hos hnn h;go_wp2_with fail
 go_loopw [22] (fun k wr=>∃ (m:Nat) (ts:List (Int×Int)) (l:List Skp.It) (bits:List Bool),m≤n1∧k=Iv (m:Int)∧Fits ts∧FitsL l∧At B wr (resO g n ts::Skp.skR s M l::Con.coinR q bits::plR A1 n1 c1 ps::plR A2 n2 c2 os::opsO A n c ops::L)∧Below B w wr) (fun k _=>n1-(intOf k).toNat)
 case atStart=>exact⟨0,_,l,bits,by omega,rfl,hf0,hl,s3,b3⟩
 case round=>
  clear s3 b3 hf0 hl;obtain⟨m,us,l2,bits,hm,rfl,hf2,hl3,s1,b1⟩:=hrel;have hBr:=Nat.le_trans hB b1.size
  by_cases hlt:m<n1
  ·have hs:Sl wr 3 1 A1 n1 c1 (pls ps) (fun x=>B≤x):=s1.rot4.get;obtain⟨g2,off2,rfl,_,_,_,hc⟩:=hs.at (by omega);have hmo:m<ps.length:=by rw [HL.out];exact hlt
   have y0:=hc m (Iv ((ps[m]:Nat):Int)) (by simp [hmo]);have hkn:=HP.out _ (List.getElem_mem hmo);clear hs hc;generalize ps[m]=k at y0 hkn;have hltz:(m:Int)<(n1:Int):=by omega
   have hknz:(k:Int)<(n:Int):=by omega
   obtain⟨⟨u1,z1⟩,f1,ts2,hF2,s2,b2⟩:=told_code hBr hkn hf2 s1 3 (by decide);have hB2:=Nat.le_trans hBr b2.size;have b4:=b1.trans b2;obtain⟨ln,hln⟩:∃ k,l2.length=k:=⟨_,rfl⟩;have hlen:=Skp.len_s s2.rot2 hln;have hmost:=Skp.most_s s2.rot2
   by_cases hroom:ln<M
   ·have hd:decide ((ln:Int)<(M:Int))=true:=decide_eq_true (by omega);have hroomz:(ln:Int)<(M:Int):=by omega
    go_wp2_with fail;refine hlen.mono ?_;rintro e w3 ⟨rfl,rfl⟩;go_wp2_with fail;refine hmost.mono ?_;rintro e w3 ⟨rfl,rfl⟩;clear hlen hmost y0 z1 f1;generalize wr.setCell ⟨g,k*2,none⟩ (Ub 3)=w3 at*;go_wp2_with fail;obtain⟨go,offo,rfl,_,x2⟩:=opsO_cells HN.out hkn s2.drop.drop.drop.drop.drop;have hv:=fits_op HF.out (show k<ops.length by rw [HN.out];exact hkn);have hx2:=fun {w:World} (h:At B w (opsO (some ⟨go,offo,none⟩) n c ops::L))=>(opsO_cells HN.out hkn h);obtain⟨vv,hvv⟩:∃ v,v=vOf ops k:=⟨_,rfl⟩;rw [← hvv] at x2 hv;have HV:=Lib.hid hvv;clear hvv hx2;obtain⟨hh,bits2,hhg⟩:∃ a b,Con.hgt 7 bits=(a,b):=⟨_,_,rfl⟩;have s3:=Sep.drew s2;have hB3:B≤w3.drew.heap.size:=by simpa using hB2
    have hht:=Con.height_s hB3 s3.rot3 hhg;clear hhg
    go_region_held3 (fun w'=>w'.cell? ⟨go,offo+k*2+1,none⟩=some (Iw vv)) (first | assumption | go_keep) (first
     | (go_at_call 266;((with_reducible refine hht.mono ?_);rintro e w5 ⟨rfl,s5,b5⟩;have x5:w5.cell? ⟨go,offo+k*2+1,none⟩=some (Iw vv):=(by obtain⟨_,_,he,_,h2⟩:=opsO_cells HN.out hkn s5.drop.drop.drop.drop.drop;simp at he;rw [← HV.out] at h2;rw [he.1,he.2];exact h2);have hB5:=Nat.le_trans hB3 b5.size;have s6:=s5.rot3))
     | (go_at_call 269;((with_reducible refine(Skp.insert_s hB5 s6 vv hh).mono ?_);rintro e w6 ⟨rfl,s7,b7⟩;have hB6:=Nat.le_trans hB5 b7.size;have x7:w6.cell? ⟨go,offo+k*2+1,none⟩=some (Iw vv):=(by obtain⟨_,_,he,_,h2⟩:=opsO_cells HN.out hkn s7.drop.drop.drop.drop.drop;simp at he;rw [← HV.out] at h2;rw [he.1,he.2];exact h2)))
     | (fail "no arm"))
    rw [if_pos (by rw [hln];exact hroom)] at s7;obtain⟨⟨u8,z8⟩,f8,ts8,hF8,s8,b8⟩:=told_code hB6 hkn hF2 s7.rot3 1 (by decide);have b9:=((b4.trans (Below.drew (Below.refl B w3))).trans (b5.trans b7)).trans b8;clear s1 s2 s3 hht x2 x5 x7 s5 s6 s7 b1 b2 b4 b5 b7 b8;go_wp2
    go_roundw
    case rel=>exact⟨m+1,ts8,_,bits2,by omega,by go_num,hF8,hl3.ins hv _,s8,b9⟩
    case measure=>simp [intOf];omega
   ·have hd:decide ((ln:Int)<(M:Int))=false:=decide_eq_false (by omega);have hroomz:¬ (ln:Int)<(M:Int):=by omega
    go_wp2_with fail;refine hlen.mono ?_;rintro e w3 ⟨rfl,rfl⟩;go_wp2_with fail;refine hmost.mono ?_;rintro e w3 ⟨rfl,rfl⟩;clear hlen hmost y0 z1 f1;generalize wr.setCell ⟨g,k*2,none⟩ (Ub 3)=w3 at*;go_wp2
    go_roundw
    case rel=>exact⟨m+1,ts2,l2,bits,by omega,by go_num,hF2,hl3,s2,b4⟩
    case measure=>simp [intOf];omega
  ·have hltz:¬ (m:Int)<(n1:Int):=by omega
   have s2:At B wr (resO g n us::Skp.skR s M l2::plR A2 n2 c2 os::opsO A n c ops::Con.coinR q bits::plR A1 n1 c1 ps::L):=s1.ord [0,0,2,2];have hrest:=rest_s hBr HN.out hn2 HO.out hf2 hl3 s2 e2;clear s1 s2;go_wp2_with fail;refine hrest.mono ?_;rintro e w3 ⟨ts',l',rfl,hF,hL,s3,b3⟩;go_wp2_with fail;go_ret;exact⟨g,ts',l',bits,rfl,hF,hL,(s3.ord [2,4,0,0,1]).drop.drop,b1.trans b3⟩
end
theorem info_v32:(Tryz.prog.info? 21).map (fun i=>(i.zero,i.size,i.bytes))=some (some (Iw 0),1,4):=by kernel_rfl
theorem pl_from (A:Option Addr) (n c k m:Nat) (hn:n=k+m) (hc:n≤c):∃ A',(∀ W,(Instr.slice 37 (.slice A n c) (some (Iv (k:Int))) none none).run Tryz.prog W=.ok (.slice A' m (c-k)) W)∧∀ (W:World) (R:Nat→Prop) (xs:List Value),Rd W R 1 A n xs→Rd W R 1 A' m (xs.drop k):=by
 refine⟨if c=k then A else A.map (·.add k),fun W=>?_,fun W R xs h=>?_⟩
 ·rw [run_slice_l W 37 A n c (by kernel_rfl) .i64 (k:Int) (by omega) (by omega)];rw [show Tryz.prog.elem 37=3 by kernel_rfl,show(sizeOf 3).run Tryz.prog W=.ok 1 W by kernel_rfl];simp only [Result.andThen,sliced,Int.toNat_natCast,Nat.mul_one];rw [show n-k=m by omega]
 ·refine⟨by rw [List.length_drop,h.1];omega,fun hm=>?_⟩;obtain⟨b,off,rfl,hb,hx⟩:=h.at (by omega);rw [if_neg (by omega)];refine⟨b,off+k,by simp [Addr.add],hb,fun j u hu=>?_⟩;rw [List.getElem?_drop] at hu;have:=hx _ _ hu
  rwa [← Nat.add_assoc] at this
theorem pl_to (A:Option Addr) (n c k:Nat) (hk:k≤n) (hc:n≤c) (W:World):(Instr.slice 37 (.slice A n c) none (some (Iv (k:Int))) none).run Tryz.prog W=.ok (.slice A k c) W:=by
 rw [run_slice_h W 37 A n c (by kernel_rfl) .i64 (k:Int) (by omega) (by omega)];rw [show Tryz.prog.elem 37=3 by kernel_rfl,show(sizeOf 3).run Tryz.prog W=.ok 1 W by kernel_rfl];simp only [Result.andThen,sliced,Int.toNat_natCast,Int.toNat_zero,Nat.zero_mul,Nat.sub_zero]
 cases A with
 | none=>simp
 | some a=>simp [Addr.add]
theorem FitsL.bat {M:Nat} {vs hs:List Int} {l:List Skp.It} (hl:FitsL l) (hv:∀ x∈vs,Fit32 x):FitsL (Skp.batL M vs hs l):=by
 have h:∀ k,k≤vs.length→FitsL (Skp.batN M vs hs l k):=by
  intro k
  induction k with
  | zero=>intro _;exact hl
  | succ k ih=>
   intro hk;unfold Skp.batN Skp.insB
   split
   ·refine(ih (by omega)).ins ?_ _;rw [List.getD_eq_getElem?_getD,List.getElem?_eq_getElem (by omega)];exact hv _ (List.getElem_mem _)
   ·exact ih (by omega)
 unfold Skp.batL
 split
 ·exact h _ (Nat.le_refl _)
 ·exact hl
abbrev i32O (A:Option Addr) (n c:Nat) (l:List Int):Res:=slRes 21 1 A n c (l.map (Value.int .i32))
abbrev i64O (A:Option Addr) (n c:Nat) (l:List Int):Res:=slRes 3 1 A n c (l.map (Value.int .i64))
section
variable {B n c s M q:Nat} {w:World} {L:List Res} {ops:List (Int×Int)} {A:Option Addr} {l:List Skp.It} {bits:List Bool}
set_option maxHeartbeats 4000000 in
theorem apply_s (hB:B≤w.heap.size) (hn:ops.length=n) (hn2:n<20) (hf:Fits ops) (hl:FitsL l) (h:At B w (Skp.skR s M l::Con.coinR q bits::opsO A n c ops::L)):
  Calls Tryz.prog 262 #[Pz s,Pz q,.slice A n c] w fun e w'=>∃ g ts l' bits',e=.returned (.slice (some ⟨g,0,none⟩) n n)∧Fits ts∧FitsL l'∧At B w' (resO g n ts::Skp.skR s M l'::Con.coinR q bits'::opsO A n c ops::L)∧Below B w w':=by
 obtain⟨i0,hi0,hz0,hz1,hz2⟩:=info_parts info_rs;obtain⟨j0,hj0,hy0,hy1,hy2⟩:=info_parts info_v32;obtain⟨x0,hx0,hw0,hw1,hw2⟩:=info_parts info_pl;have HN:=Lib.hid hn;have HF:=Lib.hid hf;clear hn hf;obtain⟨hlM,hM⟩:=Skp.sk_len h;obtain⟨ln,hln⟩:∃ k,l.length=k:=⟨_,rfl⟩;rw [hln] at hlM;go_enter Tryz.func262,Tryz.ntmps262;go_wp2_with (refine wpList_make_any _ rfl (.tmp 18) (.tmp 18) 260 rfl 47 i0 _ 2 8 Tryz.underlying260 hi0 hz0 hz1 hz2 rfl (by omega) .i64 .i64 n rfl rfl (by omega) (by omega) ?_;intro arr harr);have s1:=told_new hB (by omega) h harr;have b1:Below B w (w.alloc (.cells arr 47)):=(Below.refl B w).alloc hB _;clear harr;generalize w.alloc (.cells arr 47)=w1 at*;generalize w.heap.size=g at s1 ⊢;have hB1:=Nat.le_trans hB b1.size;refine(parted_s hB1 HN.out hn2 s1.rot4).mono ?_;rintro e w2 ⟨A1,n1,c1,A2,n2,c2,ps,os,rfl,hnn,hps,hos,s2,b2⟩;have s3:At B w2 (Skp.skR s M l::resO g n (List.replicate n (0,0))::Con.coinR q bits::plR A1 n1 c1 ps::plR A2 n2 c2 os::opsO A n c ops::L):=s2.ord [4,3,3]
 have b3:=b1.trans b2;have hB3:=Nat.le_trans hB b3.size;have hs1:Sl w2 3 1 A1 n1 c1 (pls ps) (fun x=>B≤x):=s2.get;have hl1:ps.length=n1:=by simpa using hs1.1
 have hc1:=hs1.le;have HL:=Lib.hid hl1;have HP:=Lib.hid hps;have HO:=Lib.hid hos;have e1:n1<20:=by omega
 have e2:n2<20:=by omega
 have hf0:=fits_rep n;obtain⟨r,hr⟩:∃ r:Nat,min (n1:Int) ((M:Int)-(ln:Int))=(r:Int):=⟨(min (n1:Int) ((M:Int)-(ln:Int))).toNat,by omega⟩;have hrn:r≤n1:=by omega
 have hmin:=Skp.min_ii (k:=.i64) hr;have hto:=pl_to A1 n1 c1 r hrn hc1;obtain⟨d,hd⟩:∃ d,n1=r+d:=⟨n1-r,by omega⟩;obtain⟨A7,hfr,hrd⟩:=pl_from A1 n1 c1 r d hd hc1;have hd20:d<20:=by omega
 have HD:=Lib.hid hd;have hsub:IntKind.i64.wrap ((M:Int)-(ln:Int))=(M:Int)-(ln:Int):=by rw [IntKind.wrap_i64];omega
 have hlen:=Skp.len_s s3 hln;have hmost:=Skp.most_s s3;have HR:=Lib.hid hr;have HC1:=Lib.hid hc1;clear s1 s2 b1 b2 hl1 hps hos hnn h hs1 hr hc1 hd;go_wp2_with fail;refine hmost.mono ?_;rintro e w3 ⟨rfl,rfl⟩;go_wp2_with fail;refine hlen.mono ?_;rintro e w3 ⟨rfl,rfl⟩;clear hlen hmost;go_wp2_with fail;have HSL:=Lib.hid s3
 go_loopw [11,12,37] (fun vs hs k wr=>∃ (m:Nat) (A3:Option Addr) (c3:Nat) (A4:Option Addr) (c4:Nat) (vl hl:List Int) (ts:List (Int×Int)) (bits:List Bool),m≤r∧k=Iv (m:Int)∧vs=.slice A3 m c3∧hs=.slice A4 m c4∧(∀ x∈vl,Fit32 x)∧Fits ts∧At B wr (i32O A3 m c3 vl::i64O A4 m c4 hl::Con.coinR q bits::resO g n ts::Skp.skR s M l::plR A1 n1 c1 ps::plR A2 n2 c2 os::opsO A n c ops::L)∧Below B w wr) (fun _ _ k _=>r-(intOf k).toNat)
 case atStart=>exact⟨0,none,0,none,0,[],[],_,bits,by omega,rfl,rfl,rfl,by simp,hf0,((s3.ord [2,1,0]).nilSl _ _).nilSl _ _,b3⟩
 case round=>
  clear s3 b3 hf0 HSL;obtain⟨m,A3,c3,A4,c4,vl,hgl,us,bits,hm,rfl,rfl,rfl,hvl,hf2,s1,b1⟩:=hrel;have hBr:=Nat.le_trans hB b1.size
  by_cases hlt:m<r
  ·have hs:Sl wr 3 1 A1 n1 c1 (pls ps) (fun x=>B≤x):=(s1.ord [5]).get;obtain⟨g2,off2,rfl,_,_,_,hc⟩:=hs.at (by omega);have hmo:m<ps.length:=by rw [HL.out];omega
   have y0:=hc m (Iv ((ps[m]:Nat):Int)) (by simp [hmo]);have hkn:=HP.out _ (List.getElem_mem hmo);clear hs hc;generalize ps[m]=k at y0 hkn;have hltz:(m:Int)<(r:Int):=by omega
   have hknz:(k:Int)<(n:Int):=by omega
   obtain⟨go,offo,rfl,_,x2⟩:=opsO_cells HN.out hkn (s1.ord [7]);have hv:=fits_op HF.out (show k<ops.length by rw [HN.out];exact hkn);generalize vOf ops k=vv at x2 hv;obtain⟨hh,bits2,hhg⟩:∃ a b,Con.hgt 7 bits=(a,b):=⟨_,_,rfl⟩;have s2:=(s1.alloc hBr #[Iw vv] 21).drop;have b2:=b1.alloc hBr (.cells #[Iw vv] 21);have hB2:=Nat.le_trans hB b2.size;go_wp2_with (at_builtin;refine wpList_append_at rfl (.tmp 41) (.tmp 47) _ rfl 21 j0 _ 1 4 Tryz.underlying35 hj0 hy0 hy1 hy2 rfl (by omega) rfl s2 hB2 (· =wr.heap.size) (some ⟨wr.heap.size,0,none⟩) 1 1 [Iw vv] rfl (by exact Rd.lit (sz:=1) wr 21 #[Iw vv] 1 rfl) (by simp [Value.oneCell']) (by simp only [maxLen];omega) (by omega) ?_;intro A6 c6 w6 s6 b6);have hB6:=Nat.le_trans hB2 b6.size;have b7:=b2.trans b6;clear s1 s2 b1 b2 b6 y0 x2;refine(Con.height_s hB6 (s6.ord [2]) hhg).mono ?_;rintro e w7 ⟨rfl,s8,b8⟩;have hB7:=Nat.le_trans hB6 b8.size;have b9:=b7.trans b8
   have s9:At B w7 (i64O A4 m c4 hgl::slRes 21 1 A6 (m+1) c6 (vl.map (Value.int .i32)++[Iw vv])::Con.coinR q bits2::resO g n us::Skp.skR s M l::plR (some ⟨g2,off2,none⟩) n1 c1 ps::plR A2 n2 c2 os::opsO (some ⟨go,offo,none⟩) n c ops::L):=s8.ord [2,1];have s10:=(s9.alloc hB7 #[Iv (hh:Int)] 3).drop;have b10:=b9.alloc hB7 (.cells #[Iv (hh:Int)] 3);have hB10:=Nat.le_trans hB b10.size;clear s6 s8 s9 b7 b8 b9;go_wp2_with (at_builtin;refine wpList_append_at rfl (.tmp 49) (.tmp 52) _ rfl 3 x0 _ 1 8 Tryz.underlying37 hx0 hw0 hw1 hw2 rfl (by omega) rfl s10 hB10 (· =w7.heap.size) (some ⟨w7.heap.size,0,none⟩) 1 1 [Iv (hh:Int)] rfl (by exact Rd.lit (sz:=1) w7 3 #[Iv (hh:Int)] 1 rfl) (by simp [Value.oneCell']) (by simp only [maxLen];omega) (by omega) ?_;intro A8 c8 w11 s11 b11;have hB11:=Nat.le_trans hB10 b11.size;obtain⟨⟨u1,z1⟩,f1,ts2,hF2,s12,b12⟩:=told_code hB11 hkn hf2 (s11.ord [3]) 1 (by decide))
   go_roundw
   case rel=>exact⟨m+1,A6,c6,A8,c8,vl++[vv],hgl++[(hh:Int)],ts2,bits2,by omega,by go_num,rfl,rfl,(fun x hx=>by rcases List.mem_append.1 hx with h | h;exact hvl x h;rw [List.mem_singleton.1 h];exact hv),hF2,by
    have h1:=s12.ord [2,1,1,0]
    simpa [ordL,i32O,i64O] using h1,(b10.trans b11).trans b12⟩
   case measure=>simp [intOf];omega
  ·have hltz:¬ (m:Int)<(r:Int):=by omega
   obtain rfl:m=r:=by omega
   have s2:At B wr (Skp.skR s M l::i32O A3 m c3 vl::i64O A4 m c4 hgl::Con.coinR q bits::resO g n us::plR A1 n1 c1 ps::plR A2 n2 c2 os::opsO A n c ops::L):=s1.ord [4];have hbat:=Skp.batch_s hBr s2 (A1:=A3) (A2:=A4) (n1:=m) (n2:=m) (c1:=c3) (c2:=c4) (vs:=vl) (hs:=hgl) (Skp.Reads.own []) (Skp.Reads.own [_]) (by simpa using (show Sl wr 21 1 A3 m c3 (vl.map (Value.int .i32)) (fun x=>B≤x) from s1.get).1) (by simpa using (show Sl wr 3 1 A4 m c4 (hgl.map (Value.int .i64)) (fun x=>B≤x) from s1.rot2.get).1) (by omega) (by omega);have hlb:=hl.bat (M:=M) (hs:=hgl) hvl;generalize Skp.batL M vl hgl l=l5 at hbat hlb;clear s1 s2;go_wp2_with fail;refine hbat.mono ?_;rintro e w4 ⟨gb,rfl,s4,b4⟩;have hB4:=Nat.le_trans hBr b4.size;have s5:At B w4 (resO g n us::Skp.skR s M l5::plR A2 n2 c2 os::opsO A n c ops::plR A1 n1 c1 ps::Con.coinR q bits::L):=(s4.ord [0,1,1,2,0,2,2,1]).drop.drop.drop;clear s4;have b5:=b1.trans b4
   go_wp2_with fail
   go_loopw [67] (fun k wr=>∃ (j:Nat) (ts:List (Int×Int)),j≤d∧k=Iv (j:Int)∧Fits ts∧At B wr (resO g n ts::Skp.skR s M l5::plR A2 n2 c2 os::opsO A n c ops::plR A1 n1 c1 ps::Con.coinR q bits::L)∧Below B w wr) (fun k _=>d-(intOf k).toNat)
   case atStart=>exact⟨0,us,by omega,rfl,hf2,s5,b5⟩
   case round=>
    clear s5 b5 b4 hf2 b1 hbat;obtain⟨j,us,hj,rfl,hf2,s1,b1⟩:=hrel;have hBr:=Nat.le_trans hB b1.size
    by_cases hlt2:j<d
    ·have hs:Sl wr 3 1 A1 n1 c1 (pls ps) (fun x=>B≤x):=(s1.ord [4]).get;obtain⟨g2,off2,rfl,_,hc⟩:=(hrd _ _ _ hs.rd).at (by omega);have hd3:=HD.out;have hmo:m+j<ps.length:=by rw [HL.out];omega
     have y0:=hc j (Iv ((ps[m+j]:Nat):Int)) (by simp [hmo]);have hkn:=HP.out _ (List.getElem_mem hmo);clear hs hc hd3;generalize ps[m+j]=k at y0 hkn;have hltz:(j:Int)<(d:Int):=by omega
     have hknz:(k:Int)<(n:Int):=by omega
     obtain⟨⟨u1,z1⟩,f1,ts2,hF2,s2,b2⟩:=told_code hBr hkn hf2 s1 3 (by decide);go_wp2
     go_roundw
     case rel=>exact⟨j+1,ts2,by omega,by go_num,hF2,s2,b1.trans b2⟩
     case measure=>simp [intOf];omega
    ·have hltz:¬ (j:Int)<(d:Int):=by omega
     have hrest:=rest_s hBr HN.out hn2 HO.out hf2 hlb s1 e2;clear s1;go_wp2_with fail;refine hrest.mono ?_;rintro e w3 ⟨ts',l',rfl,hF,hL,s3,b3⟩;go_wp2_with fail;go_ret;exact⟨g,ts',l',bits,rfl,hF,hL,(s3.ord [2,3,0,0,1]).drop.drop,b1.trans b3⟩
end
section
variable {B n c:Nat} {w:World} {L:List Res} {ops:List (Int×Int)} {A:Option Addr}
theorem fits_kind {k:Nat} (hf:Fits ops) (hk:k<ops.length):In8 (ops[k]?.map Prod.fst |>.getD 0) (vOf ops k):=by
 have:=hf ops[k] (List.getElem_mem hk);unfold vOf
 simpa only [List.getElem?_eq_getElem hk,Option.map_some,Option.getD_some] using this
set_option maxHeartbeats 1000000 in
theorem one_s {σ:Type} {X:σ→Res} {ok:σ→Prop} {a:σ} {f:FuncId} {rv:Value} (hB:B≤w.heap.size) (hn:ops.length=n) (hn2:n<20) (hf:Fits ops) (ha:ok a)
  (hcf:∀ args w,(callFunc f args).run Tryz.prog w=.ok (.enter f args) w)
  (hdo:∀ (W:World) (a:σ) (k v:Int) (L':List Res),B≤W.heap.size→ok a→In8 k v→At B W (X a::L')→Calls Tryz.prog f #[rv,two8 k v] W fun e W'=>∃ a' c' x,e=.returned (two8 c' x)∧ok a'∧In8 c' x∧At B W' (X a'::L')∧Below B W W')
  (h:At B w (X a::opsO A n c ops::L)):
  Calls Tryz.prog 214 #[.func (.func f) #[rv] #[],.slice A n c] w fun e w'=>∃ g ts a',e=.returned (.slice (some ⟨g,0,none⟩) n n)∧Fits ts∧ok a'∧At B w' (resO g n ts::X a'::opsO A n c ops::L)∧Below B w w':=by
 obtain⟨i0,hi0,hz0,hz1,hz2⟩:=info_parts info_rs;have HN:=Lib.hid hn;have HF:=Lib.hid hf;have HD:=Lib.hid hdo;have HA:=Lib.hid ha;clear hn hf hdo ha;go_enter Tryz.func214,Tryz.ntmps214;go_wp2_with (refine wpList_make_any _ rfl (.tmp 9) (.tmp 9) 260 rfl 47 i0 _ 2 8 Tryz.underlying260 hi0 hz0 hz1 hz2 rfl (by omega) .i64 .i64 n rfl rfl (by omega) (by omega) ?_;intro arr harr);have s1:=told_new hB (by omega) h harr;have b1:Below B w (w.alloc (.cells arr 47)):=(Below.refl B w).alloc hB _;clear harr;generalize w.alloc (.cells arr 47)=w1 at*;generalize w.heap.size=g at s1 ⊢;have hf0:=fits_rep n
 go_loopw [13] (fun k wr=>∃ (m:Nat) (ts:List (Int×Int)) (a:σ),m≤n∧k=Iv (m:Int)∧Fits ts∧Hid (ok a)∧At B wr (resO g n ts::X a::opsO A n c ops::L)∧Below B w wr) (fun k _=>n-(intOf k).toNat)
 case atStart=>exact⟨0,_,a,by omega,rfl,hf0,HA,s1,b1⟩
 case round=>
  clear s1 b1 hf0;obtain⟨m,us,a1,hm,rfl,hf2,HA1,s1,b1⟩:=hrel;have hBr:=Nat.le_trans hB b1.size
  by_cases hlt:m<n
  ·obtain⟨go,offo,rfl,x1,x2⟩:=opsO_cells HN.out hlt (s1.ord [2]);have h8:=Lib.hid (fits_kind HF.out (show m<ops.length by rw [HN.out];exact hlt));generalize (ops[m]?.map Prod.fst |>.getD 0)=kd at x1 h8;generalize vOf ops m=vv at x2 h8;have hltz:(m:Int)<(n:Int):=by omega
   have s2:=(s1.alloc hBr #[Ub kd,Iw vv] 45).drop;have b2:=b1.alloc hBr (.cells #[Ub kd,Iw vv] 45);have hB2:=Nat.le_trans hB b2.size;have hd:=HD.out _ a1 kd vv _ hB2 HA1.out h8.out s2.rot2;go_wp2_with fail;refine hd.mono ?_;rintro e w4 ⟨a4,c4,x4,rfl,ha4,h84,s4,b4⟩;have hB4:=Nat.le_trans hB2 b4.size;have HA4:=Lib.hid ha4;obtain⟨⟨u5,z5⟩,f5,⟨u6,z6⟩,f6,ts5,hF5,s6,b6⟩:=told_both hB4 hlt hf2 s4.rot2 c4 x4 h84;clear ha4 h84 x1 x2 s1 s2 hd;go_wp2
   go_roundw
   case rel=>exact⟨m+1,ts5,a4,by omega,by go_num,hF5,HA4,s6,(b2.trans b4).trans b6⟩
   case measure=>simp [intOf];omega
  ·have hltz:¬ (m:Int)<(n:Int):=by omega
   go_wp2;go_ret;exact⟨g,rfl,us,hf2,a1,HA1.out,s1,b1⟩
end
end Go.Proofs.YtadgbhjpgnlmoaaGreat
namespace Go.Proofs.YtadgbhjpgnlmoaaGreat.Rng
set_option maxRecDepth 100000
open Go.RowKit Go.Rp Go.Rp.Rng
abbrev ownI (A:Option Addr) (n c:Nat) (l:List Int):Res:=slRes 21 1 A n c (iv l)
section
variable {B:Nat} {w w':World} {p N:Nat} {l:List Int} {L:List Res}
theorem items_s (hB:B≤w.heap.size) (h:At B w (ringR p N l::L)) {n:Nat} (hn:l.length=n):Calls Tryz.prog 229 #[Pz p] w fun e w'=>∃ A c,e=.returned (.slice A n c)∧At B w' (ownI A n c l::ringR p N l::L)∧Below B w w':=by
 subst hn;exact(items_any w p N _ l h.get).mono fun e w' ⟨A,c,he,hs,hb⟩=>⟨A,c,he,h.made (fun x hx=>Nat.le_trans hB hx) hb hs,hb.mono hB⟩
end
end Go.Proofs.YtadgbhjpgnlmoaaGreat.Rng
namespace Go.Proofs.YtadgbhjpgnlmoaaGreat
open Go.RowKit Go.Rp
set_option maxRecDepth 100000
structure Bod where
 tag:Nat
 p:Nat
 mo:Nat
 l:List Int
 s:List Skp.It
 q:Nat
 bits:List Bool
def Bod.val (b:Bod):Value:=if b.tag=1 then .iface 126 (.agg #[Pz b.p]) else if b.tag=2 then .iface 130 (.agg #[Pz b.p]) else .iface 134 (.agg #[Pz b.p])
def Bod.res (b:Bod):Res:=if b.tag=1 then Stk.stk b.p b.mo b.l else if b.tag=2 then Rng.ringR b.p b.mo b.l else Skp.skR b.p b.mo b.s
structure Bod.ok (b:Bod):Prop where
 l:FitI b.l
 s:FitsL b.s
section
variable {B n c p mo q:Nat} {w:World} {L:List Res} {ops:List (Int×Int)} {A:Option Addr} {l:List Int} {s:List Skp.It} {bits:List Bool} {v:Value}
theorem Fits.u8 (h:Fits ops):∀ o∈ops,0≤o.1∧o.1≤255:=fun o ho=>⟨(h o ho).1,(h o ho).2⟩
theorem sdo_cf (args:Array Value) (w:World):(callFunc 215 args).run Tryz.prog w=.ok (.enter 215 args) w:=by kernel_rfl
theorem rdo_cf (args:Array Value) (w:World):(callFunc 238 args).run Tryz.prog w=.ok (.enter 238 args) w:=by kernel_rfl
theorem sBatch_s (hB:B≤w.heap.size) (hn:ops.length=n) (hn2:n<20) (hf:Fits ops) (hl:FitI l) (h:At B w (Stk.stk p mo l::opsO A n c ops::L)):
  Calls Tryz.prog 210 #[.agg #[Pz p],v,.slice A n c] w fun e w'=>∃ g ts l',e=.returned (.slice (some ⟨g,0,none⟩) n n)∧Fits ts∧FitI l'∧At B w' (resO g n ts::Stk.stk p mo l'::opsO A n c ops::L)∧Below B w w':=by
 have s1:=(h.alloc hB #[Pz p] 126).drop;have b1:=(Below.refl B w).alloc hB (.cells #[Pz p] 126);have ha:=Stk.Apply_y (c:=c) (Nat.le_trans hB b1.size) s1 hn hf.u8 (by omega) (fun W L' _ h=>⟨_,Sl.rd (Sep.get h)⟩);obtain⟨o1,o2⟩:=match_ok (mo:=mo) hl hf n;have o2:=o2 (Stk.mAt mo l.length ops n);generalize Stk.toldK n (Stk.mCode mo l.length ops) (Stk.mVal l mo ops) n=ts at*;generalize Stk.mEnd l ops (Stk.mAt mo l.length ops n)=l' at*;clear hn hf h s1 hl;go_enter Tryz.func210,Tryz.ntmps210;go_wp2_with fail;refine ha.mono ?_;rintro e w1 ⟨g,rfl,s2,b2⟩;go_wp2_with fail;go_ret;exact⟨g,ts,l',rfl,o1,o2,s2,b1.trans b2⟩
theorem sPlain_s (hB:B≤w.heap.size) (hn:ops.length=n) (hn2:n<20) (hf:Fits ops) (hl:FitI l) (h:At B w (Stk.stk p mo l::opsO A n c ops::L)):
  Calls Tryz.prog 212 #[.agg #[Pz p],v,.slice A n c] w fun e w'=>∃ g ts l',e=.returned (.slice (some ⟨g,0,none⟩) n n)∧Fits ts∧FitI l'∧At B w' (resO g n ts::Stk.stk p mo l'::opsO A n c ops::L)∧Below B w w':=by
 have s1:=(h.alloc hB #[Pz p] 126).drop;have b1:=(Below.refl B w).alloc hB (.cells #[Pz p] 126)
 have ha:=one_s (X:=Stk.stk p mo) (ok:=FitI) (f:=215) (rv:=Pz p) (Nat.le_trans hB b1.size) hn hn2 hf hl sdo_cf (fun W a k v L' hBW ha h8 hW=>by
  obtain⟨o1,o2⟩:=sDo_ok (mo:=mo) (k:=k) ha (v:=v) ⟨h8.3,h8.4⟩;exact(Stk.do_s hBW hW k v h8.1 h8.2 rfl).mono fun e w' ⟨he,hs,hb⟩=>⟨_,_,_,he,o1,o2,hs,hb⟩) s1
 clear hn hf h s1 hl;go_enter Tryz.func212,Tryz.ntmps212;go_wp2_with fail;refine ha.mono ?_;rintro e w1 ⟨g,ts,l',rfl,o1,o2,s2,b2⟩;go_wp2_with fail;go_ret;exact⟨g,ts,l',rfl,o1,o2,s2,b1.trans b2⟩
theorem rBatch_s (hB:B≤w.heap.size) (hn:ops.length=n) (hn2:n<20) (hf:Fits ops) (hl:FitI l) (h:At B w (Rng.ringR p mo l::opsO A n c ops::L)):
  Calls Tryz.prog 234 #[.agg #[Pz p],v,.slice A n c] w fun e w'=>∃ g ts l',e=.returned (.slice (some ⟨g,0,none⟩) n n)∧Fits ts∧FitI l'∧At B w' (resO g n ts::Rng.ringR p mo l'::opsO A n c ops::L)∧Below B w w':=by
 have s1:=(h.alloc hB #[Pz p] 130).drop;have b1:=(Below.refl B w).alloc hB (.cells #[Pz p] 130);have ha:=Rng.Apply_y (c:=c) (Nat.le_trans hB b1.size) s1 hn hf.u8 (by omega) (fun W L' _ h=>⟨_,Sl.rd (Sep.get h)⟩);obtain⟨o1,o2⟩:=ends_ok (mo:=mo) hl hf n;have o2:=o2 n;generalize Rng.toldK n (Rng.mCode mo l.length ops) (Rng.mVal l mo ops) n=ts at*;generalize Rng.dqAt l mo ops n=l' at*;clear hn hf h s1 hl;go_enter Tryz.func234,Tryz.ntmps234;go_wp2_with fail;refine ha.mono ?_;rintro e w1 ⟨g,rfl,s2,b2⟩;go_wp2_with fail;go_ret;exact⟨g,ts,l',rfl,o1,o2,s2,b1.trans b2⟩
theorem rPlain_s (hB:B≤w.heap.size) (hn:ops.length=n) (hn2:n<20) (hf:Fits ops) (hl:FitI l) (h:At B w (Rng.ringR p mo l::opsO A n c ops::L)):
  Calls Tryz.prog 236 #[.agg #[Pz p],v,.slice A n c] w fun e w'=>∃ g ts l',e=.returned (.slice (some ⟨g,0,none⟩) n n)∧Fits ts∧FitI l'∧At B w' (resO g n ts::Rng.ringR p mo l'::opsO A n c ops::L)∧Below B w w':=by
 have s1:=(h.alloc hB #[Pz p] 130).drop;have b1:=(Below.refl B w).alloc hB (.cells #[Pz p] 130)
 have ha:=one_s (X:=Rng.ringR p mo) (ok:=FitI) (f:=238) (rv:=Pz p) (Nat.le_trans hB b1.size) hn hn2 hf hl rdo_cf (fun W a k v L' hBW ha h8 hW=>by
  obtain⟨o1,o2⟩:=rDo_ok (mo:=mo) (k:=k) ha (v:=v) ⟨h8.3,h8.4⟩;exact(Rng.do_s hBW hW k v h8.1 h8.2 rfl).mono fun e w' ⟨he,hs,hb⟩=>⟨_,_,_,he,o1,o2,hs,hb⟩) s1
 clear hn hf h s1 hl;go_enter Tryz.func236,Tryz.ntmps236;go_wp2_with fail;refine ha.mono ?_;rintro e w1 ⟨g,ts,l',rfl,o1,o2,s2,b2⟩;go_wp2_with fail;go_ret;exact⟨g,ts,l',rfl,o1,o2,s2,b1.trans b2⟩
theorem kBatch_s (hB:B≤w.heap.size) (hn:ops.length=n) (hn2:n<20) (hf:Fits ops) (hl:FitsL s) (h:At B w (Skp.skR p mo s::Con.coinR q bits::opsO A n c ops::L)):
  Calls Tryz.prog 259 #[.agg #[Pz p],Pz q,.slice A n c] w fun e w'=>∃ g ts l' bits',e=.returned (.slice (some ⟨g,0,none⟩) n n)∧Fits ts∧FitsL l'∧At B w' (resO g n ts::Skp.skR p mo l'::Con.coinR q bits'::opsO A n c ops::L)∧Below B w w':=by
 have s1:=(h.alloc hB #[Pz p] 134).drop;have b1:=(Below.refl B w).alloc hB (.cells #[Pz p] 134);have ha:=apply_s (Nat.le_trans hB b1.size) hn hn2 hf hl s1;clear hn hf h s1 hl;go_enter Tryz.func259,Tryz.ntmps259;go_wp2_with fail;refine ha.mono ?_;rintro e w1 ⟨g,ts,l',bits',rfl,o1,o2,s2,b2⟩;go_wp2_with fail;go_ret;exact⟨g,ts,l',bits',rfl,o1,o2,s2,b1.trans b2⟩
theorem kPlain_s (hB:B≤w.heap.size) (hn:ops.length=n) (hn2:n<20) (hf:Fits ops) (hl:FitsL s) (h:At B w (Skp.skR p mo s::Con.coinR q bits::opsO A n c ops::L)):
  Calls Tryz.prog 261 #[.agg #[Pz p],Pz q,.slice A n c] w fun e w'=>∃ g ts l' bits',e=.returned (.slice (some ⟨g,0,none⟩) n n)∧Fits ts∧FitsL l'∧At B w' (resO g n ts::Skp.skR p mo l'::Con.coinR q bits'::opsO A n c ops::L)∧Below B w w':=by
 have s1:=(h.alloc hB #[Pz p] 134).drop;have b1:=(Below.refl B w).alloc hB (.cells #[Pz p] 134);have ha:=plain_s (Nat.le_trans hB b1.size) hn hn2 hf hl s1;clear hn hf h s1 hl;go_enter Tryz.func261,Tryz.ntmps261;go_wp2_with fail;refine ha.mono ?_;rintro e w1 ⟨g,ts,l',bits',rfl,o1,o2,s2,b2⟩;go_wp2_with fail;go_ret;exact⟨g,ts,l',bits',rfl,o1,o2,s2,b1.trans b2⟩
end
theorem rep_pls (n:Nat):(List.replicate n ((#[Iv 0]:Array Value).toList)).flatten=pls (List.replicate n 0):=by
 induction n with
 | zero=>rfl
 | succ n ih=>simp only [List.replicate_succ,List.flatten_cons,ih];rfl
theorem pls_set (l:List Nat) (k v:Nat):(pls l).set k (Iv (v:Int))=pls (l.set k v):=by simp [pls,List.map_set]
def laid (n m:Nat):List Nat:=List.range m++List.replicate (n-m) 0
theorem laid_set (n m:Nat) (h:m<n):(laid n m).set m m=laid n (m+1):=by
 obtain⟨d,rfl⟩:∃ d,n=m+1+d:=⟨n-m-1,by omega⟩;rw [laid,laid,List.set_append_right _ _ (by simp)];simp only [List.length_range,Nat.sub_self,show m+1+d-m=d+1 by omega,show m+1+d-(m+1)=d by omega,List.replicate_succ,List.set_cons_zero,List.range_succ,List.append_assoc,List.singleton_append]
theorem laid_end (n:Nat):laid n n=List.range n:=by simp [laid]
theorem laid_len (n m:Nat) (h:m≤n):(laid n m).length=n:=by simp [laid];omega
theorem pl_new {B n:Nat} {w:World} {L:List Res} {arr:Array Value} (hB:B≤w.heap.size) (hn:n≤1000) (h:At B w L) (harr:arr.toList=(List.replicate n ((#[Iv 0]:Array Value).toList)).flatten):At B (w.alloc (.cells arr 3)) (plR (some ⟨w.heap.size,0,none⟩) n n (laid n 0)::L):=
 h.made (fun x hx=>Nat.le_trans hB hx) ((Below.refl _ w).alloc (Nat.le_refl _) _) (Sl.of_made w 3 1 n arr _ (harr.trans (by rw [rep_pls];simp [laid])) (by simp [laid]) (by unfold maxLen;omega) ⟨Nat.le_refl _,by simp⟩)
section
variable {B n c:Nat} {w:World} {L:List Res} {ops:List (Int×Int)} {A:Option Addr}
set_option maxHeartbeats 2000000 in
theorem order_s {g:Int} (hB:B≤w.heap.size) (hn:ops.length=n) (hn2:n<20) (h:At B w (opsO A n c ops::L)):
  Calls Tryz.prog 119 #[Ub g,.slice A n c] w fun e w'=>∃ l ys,e=.returned (.slice (some ⟨l,0,none⟩) n n)∧ys.Perm (List.range n)∧At B w' (plR (some ⟨l,0,none⟩) n n ys::opsO A n c ops::L)∧Below B w w':=by
 obtain⟨i0,hi0,hz0,hz1,hz2⟩:=info_parts info_pl;have HN:=Lib.hid hn;clear hn;have s0:=h.alloc hB #[.slice A n c] 81;have b0:=(Below.refl B w).alloc hB (.cells #[.slice A n c] 81);generalize hw1:w.alloc (.cells #[.slice A n c] 81)=w1 at s0 b0;have hsz:w1.heap.size=w.heap.size+1:=by rw [← hw1];simp
 have k0:w1.cell? ⟨w.heap.size,0,none⟩=some (.slice A n c):=s0.blk.cell 0;have hB1:=Nat.le_trans hB b0.size;go_enter Tryz.func119,Tryz.ntmps119;go_wp2_with (refine wpList_make_any _ rfl (.tmp 9) (.tmp 9) 37 rfl 3 i0 _ 1 8 Tryz.underlying37 hi0 hz0 hz1 hz2 rfl (by omega) .i64 .i64 n rfl rfl (by omega) (by omega) ?_;intro arr harr);have s1:=pl_new hB1 (by omega) s0 harr;have b1:=b0.alloc hB1 (.cells arr 3);clear harr;generalize w1.alloc (.cells arr 3)=w2 at s1 b1 ⊢;rw [hsz] at s1;generalize w.heap.size+1=l at s1 ⊢;generalize w.heap.size=X at s1 ⊢;clear s0 b0 k0 hw1 hsz hB1
 go_loopg [13] n (fun gk vi wr=>∃ (i:Nat),vi=Iv (i:Int)∧i≤n∧n-i≤gk∧At B wr (plR (some ⟨l,0,none⟩) n n (laid n i)::blkR X 81 #[.slice A n c]::opsO A n c ops::L)∧Below B w wr)
 case atStart=>exact⟨0,rfl,by omega,by omega,s1,b1⟩
 case round=>
  obtain⟨i,rfl,hin,hgk,s2,b2⟩:=hrel;have hBr:=Nat.le_trans hB b2.size
  by_cases hlt:i<n
  ·have hltz:(i:Int)<(n:Int):=by omega
   have i5:(0:Int)≤(i:Int):=by omega
   have hl:=laid_len n i hin;obtain⟨u,hu⟩:∃ u,(pls (laid n i))[i]? =some u:=⟨_,List.getElem?_eq_getElem (by simp [hl,hlt])⟩;obtain⟨c1,f1,t1⟩:=own_cell hBr (by decide) s2 hu;obtain⟨s3,b3⟩:=t1 (Iv (i:Int));rw [pls_set,laid_set n i hlt] at s3;have c2:wr.cell? ⟨l,0+i,none⟩≠none:=by rw [c1];simp
   simp only [Nat.zero_add] at c2 f1 s3 b3;clear c1 t1 hl hu;go_wp2_with fail;go_roundg (gk-1)
   case measure=>omega
   case rel=>exact⟨i+1,by go_num,by omega,by omega,s3,b2.trans b3⟩
  ·have hltz:¬ (i:Int)<(n:Int):=by omega
   have hmn:i=n:=by omega
   subst hmn;rw [laid_end] at s2;clear hltz hgk hin
   by_cases hg3:g=3
   ·have hd:(g !=3)=false:=by simp [hg3]
    have s4:=(s2.alloc hBr #[.func (.func 166) #[] #[]] 247);have b4:=b2.alloc hBr (.cells #[.func (.func 166) #[] #[]] 247);have hB4:=Nat.le_trans hB b4.size;have s5:=s4.ord [1,2,1,0]
    have hso:=sort_any (A:=some ⟨l,0,none⟩) (f:=168) (cb:=#[Pz X,Pz wr.heap.size]) hB4 hn2 (fun x hx=>List.mem_range.1 hx) cmp2_cf (fun W ys i' j hBW hi hj hW=>by
     have k1:W.cell? ⟨X,0,none⟩=some (.slice A i c):=(hW.ord [2]).blk.cell 0;have k2:W.cell? ⟨wr.heap.size,0,none⟩=some (.func (.func 166) #[] #[]):=(hW.ord [3]).blk.cell 0;exact(cmp2_s hBW HN.out hi hj k1 k2 (hW.ord [1])).mono fun e w' ⟨he,hb⟩=>⟨he,hW.keep hb,hb.mono hBW⟩) s5
    clear s2 s4 s5;go_wp2_with fail;refine hso.mono ?_;rintro e w3 ⟨ys,rfl,hp,s6,b6⟩;go_wp2_with fail;go_ret;exact⟨l,ys,rfl,hp,(s6.ord [2,2]).drop.drop,b4.trans b6⟩
   ·have hd:(g !=3)=true:=by simp [hg3]
    go_wp2_with fail;go_ret;exact⟨l,List.range i,rfl,List.Perm.refl _,(s2.ord [1]).drop,b2⟩
end
end Go.Proofs.YtadgbhjpgnlmoaaGreat
