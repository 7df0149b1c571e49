/- TopSafe, a part of its proof; no conditions. -/
import Derived.Test.YtadgbhjpgnlmoaaGreatRows
import Derived.ProofKit
import Derived.OpenShut
import Derived.ShutString
import Derived.ChangeOld
import Derived.Below
import Derived.Test.YtadgbhjpgnlmoaaGreatPk52
set_option linter.all false
namespace Go.Proofs.YtadgbhjpgnlmoaaGreat.lawTopSafe
open Go.ChangeShapes Go.WideShapes Go.ChangeAt Go.RowKit
open Go.ChangeMaps (open_string shut_string)
open Go.Rp
theorem own:ownKnob Tryz.prog.godebug=none:=by kernel_rfl
theorem laidOut:laidOutB Tryz.prog=true:=by kernel_rfl
set_option maxRecDepth 100000 in
theorem cells45 {H:Type} {enc:TypeId×Value→H} {w:World} {base:Nat} {spare:Nat→Bool} {held:Bool} {fuel:Nat} {cs:List Value} {x:DataW H×List MemPlace} (h:DataW.trod enc Tryz.prog w base spare held fuel 45 cs=some x):
  ∃ (v0:Int) (v1:Int),cs=[.int .u8 v0,.int .i32 v1]∧(Lit.int .u8 v0).wf=true∧(Lit.int .i32 v1).wf=true:=by
 obtain⟨xs,n,_,hx,hl,hlen,hf⟩:=DataW.trod_struct Tryz.underlying45 h;have hl2:cs.length=2:=hl.trans (by kernel_rfl);have hlen2:xs.length=2:=hlen;clear hl hlen
 match cs,hl2 with
 | [c0,c1],_=>
  have f0:DataW.trod enc Tryz.prog w base spare held n 5 [c0]=some (xs[0]'(by omega)):=(hf 0 _ rfl).trans (List.getElem?_eq_getElem (by omega));obtain⟨v0,e0,_,w0⟩:=DataW.trod_int Tryz.underlying5 f0;simp only [List.cons.injEq,and_true] at e0;obtain rfl:=e0;have f1:DataW.trod enc Tryz.prog w base spare held n 21 [c1]=some (xs[1]'(by omega)):=(hf 1 _ rfl).trans (List.getElem?_eq_getElem (by omega));obtain⟨v1,e1,_,w1⟩:=DataW.trod_int Tryz.underlying21 f1;simp only [List.cons.injEq,and_true] at e1;obtain rfl:=e1;exact⟨v0,v1,rfl,w0,w1⟩
set_option maxRecDepth 100000 in
theorem cells60 {H:Type} {enc:TypeId×Value→H} {w:World} {base:Nat} {spare:Nat→Bool} {held:Bool} {fuel:Nat} {cs:List Value} {x:DataW H×List MemPlace} (h:DataW.trod enc Tryz.prog w base spare held fuel 60 cs=some x):
  ∃ (v0:Int) (v1:Int) (v2:Int) (v3:Int) (v4:Int),cs=[.int .u8 v0,.int .i64 v1,.int .u8 v2,.int .i32 v3,.int .u8 v4]∧(Lit.int .u8 v0).wf=true∧(Lit.int .i64 v1).wf=true∧(Lit.int .u8 v2).wf=true∧(Lit.int .i32 v3).wf=true∧(Lit.int .u8 v4).wf=true:=by
 obtain⟨xs,n,_,hx,hl,hlen,hf⟩:=DataW.trod_struct Tryz.underlying60 h;have hl2:cs.length=5:=hl.trans (by kernel_rfl);have hlen2:xs.length=4:=hlen;clear hl hlen
 match cs,hl2 with
 | [c0,c1,c2,c3,c4],_=>
  have f0:DataW.trod enc Tryz.prog w base spare held n 5 [c0]=some (xs[0]'(by omega)):=(hf 0 _ rfl).trans (List.getElem?_eq_getElem (by omega));obtain⟨v0,e0,_,w0⟩:=DataW.trod_int Tryz.underlying5 f0;simp only [List.cons.injEq,and_true] at e0;obtain rfl:=e0;have f1:DataW.trod enc Tryz.prog w base spare held n 3 [c1]=some (xs[1]'(by omega)):=(hf 1 _ rfl).trans (List.getElem?_eq_getElem (by omega));obtain⟨v1,e1,_,w1⟩:=DataW.trod_int Tryz.underlying3 f1;simp only [List.cons.injEq,and_true] at e1;obtain rfl:=e1;have f2:DataW.trod enc Tryz.prog w base spare held n 45 [c2,c3]=some (xs[2]'(by omega)):=(hf 2 _ rfl).trans (List.getElem?_eq_getElem (by omega));obtain⟨v2,v3,e2,w2,w3⟩:=cells45 f2;simp only [List.cons.injEq,and_true] at e2;obtain⟨rfl,rfl⟩:=e2;have f3:DataW.trod enc Tryz.prog w base spare held n 5 [c4]=some (xs[3]'(by omega)):=(hf 3 _ rfl).trans (List.getElem?_eq_getElem (by omega));obtain⟨v4,e3,_,w4⟩:=DataW.trod_int Tryz.underlying5 f3
  simp only [List.cons.injEq,and_true] at e3;obtain rfl:=e3;exact⟨v0,v1,v2,v3,v4,rfl,w0,w1,w2,w3,w4⟩
set_option maxRecDepth 100000 in
theorem lifted (os:Os) (started:os.Started) (H:Type) (enc:TypeId×Value→H):
  ReturnsInHanded {} Tryz.checked os 3 .any (Rows.topSafeSpec.pre6 enc Tryz.prog Tryz.f3 Rows.topSafeRow.domain false) (Rows.topSafeSpec.post enc Tryz.prog Tryz.f3 false true false false):=by
 refine returnsInHanded_of_change_sized (C:=Tryz.checked) own started (by kernel_rfl) Tryz.func3
  (ChangeSpec.witness6 (enc:=enc) (C:=Tryz.checked) false ⟨#[],#[.slice none 0 0,.slice none 0 0,.int .u8 0,.slice none 0 0],[]⟩ 8 (by kernel_rfl) (by kernel_rfl) (by kernel_rfl) (by kernel_rfl)) ?_
 intro W base args ds gs before hval0 hW _ hsz0 _;have hval:∀ (j:Nat) t v,Tryz.f3.params[j]? =some t→args[j]? =some v→Value.okWide Tryz.prog W .any base t v:=hval0;have hW':=hW;obtain⟨p,q,hA0,hV,rfl,_,_⟩:=hW;have hA:DataW.TrodAll enc Tryz.prog W 0 (fun _=>true) true Tryz.f3.params.toList args.toList ds p:=hA0;have hsz:(DataW.weightsEach Tryz.prog (Tryz.f3.params.toList++Rows.topSafeSpec.plain.varTypes Tryz.prog) (ds++gs)).all (· ≤reachBytes)=true:=hsz0;rw [Tryz.params3] at hA hval hsz;obtain⟨v0,vs0,d0,ds0,p0,q0,hargs0,rfl,rfl,h0,r0⟩:=trodAll_cons hA;obtain⟨v1,vs1,d1,ds1,p1,q1,rfl,rfl,rfl,h1,r1⟩:=trodAll_cons r0;obtain⟨v2,vs2,d2,ds2,p2,q2,rfl,rfl,rfl,h2,r2⟩:=trodAll_cons r1;obtain⟨v3,vs3,d3,ds3,p3,q3,rfl,rfl,rfl,h3,r3⟩:=trodAll_cons r2;obtain⟨rfl,rfl,rfl⟩:=trodAll_nil r3;obtain rfl:args=#[v0,v1,v2,v3]:=by cases args;simp_all
 obtain⟨rfl,rfl⟩:=trodVars_none hV;have k0:=h0;have lt0:∀ x∈p0,x.block<W.heap.size:=by obtain⟨m,hm⟩:=k0;exact DataW.trod_lt m _ _ _ hm
 have k1:=h1;have lt1:∀ x∈p1,x.block<W.heap.size:=by obtain⟨m,hm⟩:=k1;exact DataW.trod_lt m _ _ _ hm
 have k2:=h2;have lt2:∀ x∈p2,x.block<W.heap.size:=by obtain⟨m,hm⟩:=k2;exact DataW.trod_lt m _ _ _ hm
 have k3:=h3;have lt3:∀ x∈p3,x.block<W.heap.size:=by obtain⟨m,hm⟩:=k3;exact DataW.trod_lt m _ _ _ hm
 obtain⟨a0,len0,cap0,rfl⟩:=okWide_slice Tryz.underlying22 (hval 0 22 v0 rfl rfl)
 obtain⟨z0,w0⟩:∃ zs,InInts .u8 W a0 len0 cap0 zs:=by
  obtain⟨fuel,hf⟩:=h0
  rcases open_ints Tryz.underlying22 Tryz.underlying5 (by kernel_rfl) hf with ⟨hcs,_⟩ | ⟨x,l,c,zs,hcs,_,hl,hm,hz,hx,hcell,hwz⟩
  ·simp [Value.cells] at hcs;obtain⟨rfl,rfl,rfl⟩:=hcs;exact⟨[],InInts.none_ _ _⟩
  ·simp [Value.cells] at hcs;obtain⟨rfl,rfl,rfl⟩:=hcs;have hx1:=congrArg Prod.fst hx;simp only at hx1;subst hx1;have hreach:=sized_slice hsz (j:=0) (t:=22) (e:=5) rfl rfl Tryz.underlying22;rw [show Tryz.prog.bytesOf 5=1 from by kernel_rfl] at hreach;exact⟨_,InInts.of_row ⟨_,rfl,hl,hm,by simpa using hz,hcell,hwz⟩ (by simp [lits] at hreach hz;unfold reachBytes at hreach;omega)⟩
 obtain⟨a1,len1,cap1,rfl⟩:=okWide_slice Tryz.underlying22 (hval 1 22 v1 rfl rfl)
 obtain⟨z1,w1⟩:∃ zs,InInts .u8 W a1 len1 cap1 zs:=by
  obtain⟨fuel,hf⟩:=h1
  rcases open_ints Tryz.underlying22 Tryz.underlying5 (by kernel_rfl) hf with ⟨hcs,_⟩ | ⟨x,l,c,zs,hcs,_,hl,hm,hz,hx,hcell,hwz⟩
  ·simp [Value.cells] at hcs;obtain⟨rfl,rfl,rfl⟩:=hcs;exact⟨[],InInts.none_ _ _⟩
  ·simp [Value.cells] at hcs;obtain⟨rfl,rfl,rfl⟩:=hcs;have hx1:=congrArg Prod.fst hx;simp only at hx1;subst hx1;have hreach:=sized_slice hsz (j:=1) (t:=22) (e:=5) rfl rfl Tryz.underlying22;rw [show Tryz.prog.bytesOf 5=1 from by kernel_rfl] at hreach;exact⟨_,InInts.of_row ⟨_,rfl,hl,hm,by simpa using hz,hcell,hwz⟩ (by simp [lits] at hreach hz;unfold reachBytes at hreach;omega)⟩
 obtain⟨x2,rfl,_,_,w2⟩:=open_int Tryz.underlying5 (hval 2 5 v2 rfl rfl) h2;obtain⟨a3,len3,cap3,rfl⟩:=okWide_slice Tryz.underlying23 (hval 3 23 v3 rfl rfl)
 obtain⟨z3,w3⟩:∃ xs,InRows 5 entIn entOk W a3 len3 cap3 xs:=by
  obtain⟨fuel,hf⟩:=h3
  have hdec:∀ fuel cs x,DataW.trod enc Tryz.prog W 0 (fun _=>true) true fuel 60 cs=some x→∃ r,cs=entIn r∧entOk r:=fun fuel cs x h=>by
   obtain⟨v0,v1,v2,v3,v4,rfl,w0,w1,w2,w3,w4⟩:=cells60 h;exact⟨(v0,v1,v2,v3,v4),rfl,⟨w0,w1,w2,w3,w4⟩⟩
  rcases Go.Deep.open_slice Tryz.underlying23 hf with ⟨hcs,_⟩ | ⟨x,l,c,m,n,D,Pl,hcs,_,hl,hm,hmm,hx,hi⟩
  ·simp [Value.cells] at hcs;obtain⟨rfl,rfl,rfl⟩:=hcs;exact⟨[],InRows.none_⟩
  ·simp [Value.cells] at hcs;obtain⟨rfl,rfl,rfl⟩:=hcs;have hx1:=congrArg Prod.fst hx;simp only at hx1;subst hx1;have hreach:=sized_slice hsz (j:=3) (t:=23) (e:=60) rfl rfl Tryz.underlying23;have hlm:len3≤m:=by rw [hmm];split<;>omega
   rw [show Tryz.prog.bytesOf 60=32 from by kernel_rfl] at hreach;exact InRows.of_row (by omega) hl hm (by simp only [List.length_map,List.length_range] at hreach;unfold reachBytes at hreach;omega) (rows_of (by kernel_rfl) hdec hi _ hlm)
 clear hA0 hval0;refine(TopSafe_walk W a0 len0 cap0 _ w0 a1 len1 cap1 _ w1 x2 w2 a3 len3 cap3 _ w3).mono fun e W' ⟨he,bel⟩=>?_;subst he;exact⟨_,rfl,_,_,_,[],_,[],hW',trodAll_mk1 (shut_bool Tryz.underlying4 _),(trodAll_cons_mk (Below.trod laidOut (by kernel_rfl) (of_decide_eq_true (by kernel_rfl)) k0 bel lt0) (trodAll_cons_mk (Below.trod laidOut (by kernel_rfl) (of_decide_eq_true (by kernel_rfl)) k1 bel lt1) (trodAll_cons_mk (Below.trod laidOut (by kernel_rfl) (of_decide_eq_true (by kernel_rfl)) k2 bel lt2) (trodAll_cons_mk (Below.trod laidOut (by kernel_rfl) (of_decide_eq_true (by kernel_rfl)) k3 bel lt3) trodAll_mk0)))),rfl,bel.frame _,fun h=>by cases h⟩
theorem over:Rows.topSafeRow.holds Tryz.pinned (OpenSpec.ofChange Rows.topSafeSpec):=
 OpenClaim.holds_of_wide 3 Tryz.f3 rfl rfl rfl rfl rfl rfl rfl ⟨rfl,rfl,rfl,rfl,rfl⟩ rfl rfl rfl rfl rfl (by kernel_rfl) Tryz.func3 (by kernel_rfl)
  (of_decide_eq_true (by kernel_rfl)) (by unfold Func.isWrapper;first | (rw [if_pos (by decide +kernel)];kernel_rfl) | (rw [if_neg (by decide +kernel)];exact⟨rfl,rfl⟩))
  (fun os started H enc _=>lifted os started H enc)
theorem proved:Rows.TopSafeSaid:=over
#print axioms proved
end Go.Proofs.YtadgbhjpgnlmoaaGreat.lawTopSafe
