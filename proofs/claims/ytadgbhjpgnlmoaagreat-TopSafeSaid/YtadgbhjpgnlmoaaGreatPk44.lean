/- TopSafe, a part of its proof; no conditions. -/
import Derived.Laws.ResultCell
import Derived.Test.YtadgbhjpgnlmoaaGreatPk43
set_option linter.all false
namespace Go.Proofs.YtadgbhjpgnlmoaaGreat
open Go.RowKit Go.Rp Go.Sf Go.Shelf
set_option maxRecDepth 100000
attribute [local go_sem] Oper.semAt_some
theorem map_put {P:Program} {w:World} {r:Nat} {k:IntKind} {l:List (Int×Value)} {T kt et:TypeId} (hT:P.underlying T=some (.map kt et)) (hk:P.underlying kt=some (.int k)) (h:IsMap w k r l) (x:Int) (v:Value):
  ∃ w',(Instr.mapUpdate T (.map (some r)) (.int k x) v).run P w=.ok () w'∧IsMap w' k r (setL x v l)∧w.grownBy w' (some r)∧∃ o,w.heap[r]? =some o∧o.isWalk=true:=by
 obtain⟨es,c,hb,hs,hl⟩:=h
 have hgr:∀ o:Obj,w.grownBy { w with heap:=w.heap.setIfInBounds r o} (some r):=fun o=>⟨rfl,rfl,rfl,by simp,fun b hb hn=>by
  simp only [Array.getElem?_setIfInBounds];rw [if_neg fun e=>hn (by rw [e])]⟩
 have hik:MapKept.IsKey (.int k) (.int k x):=rfl;have hl':es.toList.map (fun e=>(e.key,e.val))=l.map fun x=>(Value.int k x.1,x.2):=hl
 rcases findNow_isL k x es.toList l 0 hl with ⟨h4,h5,_,h6,h7⟩ | ⟨j,u,h4,h5,h6,h7⟩
 ·have hkey:∀ y∈es.toList,y.key≠ .int k x:=by
   intro y hy he;have hm:(y.key,y.val)∈es.toList.map (fun e=>(e.key,e.val)):=List.mem_map.2 ⟨y,hy,rfl⟩;rw [hl'] at hm;obtain⟨z,hz,hz'⟩:=List.mem_map.1 hm;simp only [Prod.mk.injEq] at hz';have:Value.int k z.1=Value.int k x:=hz'.1.trans he
   injection this with _ this
   exact h7 z hz this
  refine⟨{ w with heap:=w.heap.setIfInBounds r (.map (es.push ⟨.int k x,v,c⟩) (c+1))},?_,⟨_,_,(MapKept.heap_set hb).1,MapKept.stamped_push hs hkey,?_⟩,hgr _,_,hb,rfl⟩
  ·simp [Instr.mapUpdate,run_underlying hT,MapKept.run_getObj_map hb,MapKept.run_checkKey hk hik,MapKept.run_findKey hk h5,MapKept.run_setObj_map _ hb,Result.andThen]
  ·unfold IsL;rw [h6];simp [hl']
 ·have hj:∃ e,es[j]? =some e∧e.key=.int k x:=by
   have:=congrArg (fun z=>z[j]?) hl';simp only [List.getElem?_map,h6,Option.map_some] at this
   rcases he:es.toList[j]? with _ | e
   ·rw [he] at this;simp at this
   ·rw [he] at this;simp only [Option.map_some,Option.some.injEq,Prod.mk.injEq] at this;exact⟨e,by simpa using he,this.1⟩
  obtain⟨e,hj,he⟩:=hj;have hkeep:∀ e',es[j]? =some e'→({ e' with key:=.int k x,val:=v}:MapEntry).key=e'.key:=fun e' he'=>by rw [hj] at he';cases he';exact he.symm
  refine⟨{ w with heap:=w.heap.setIfInBounds r (.map (es.modify j fun e=> { e with key:=.int k x,val:=v}) c)},?_,⟨_,_,(MapKept.heap_set hb).1,MapKept.stamped_modify hs _ _ (fun _ _=>rfl) (fun e' _ he'=>hkeep e' he'),?_⟩,hgr _,_,hb,rfl⟩
  ·rw [Nat.zero_add] at h5;simp [Instr.mapUpdate,run_underlying hT,MapKept.run_getObj_map hb,MapKept.run_checkKey hk hik,MapKept.run_findKey hk h5,hj,he,MapKept.run_keyThatStays hik,MapKept.run_setObj_map _ hb,Result.andThen]
  ·unfold IsL;rw [h7];apply List.ext_getElem?;intro i;have hi:=congrArg (fun z=>z[i]?) hl';simp only [List.getElem?_map] at hi;simp only [List.getElem?_map,Array.toList_modify,List.getElem?_modify,List.getElem?_set]
   by_cases hij:j=i
   ·subst hij;have hlt:j<l.length:=(List.getElem?_eq_some_iff.1 h6).1;have hj':es.toList[j]? =some e:=by simpa using hj
    simp [hj',hlt]
   ·simp only [hij,if_false]
    simpa using hi
theorem blk_grown {w w':World} {r b:Nat} {t:TypeId} {cs:Array Value} (h:Blk w b t cs) (hg:w.grownBy w' (some r)) (hne:b≠r):Blk w' b t cs:=
 (hg.block b h.lt (by simpa using hne)).trans h
theorem blk_not_map {w:World} {r b:Nat} {t:TypeId} {cs:Array Value} {k:IntKind} {l:List (Int×Value)} (h:Blk w b t cs) (hm:IsMap w k r l):b≠r:=by
 rintro rfl;obtain⟨es,c,h1,_⟩:=hm;unfold Blk at h;rw [h] at h1
 cases h1
theorem IsMap.below {w w':World} {n₀ r:Nat} {k:IntKind} {l:List (Int×Value)} (h:IsMap w k r l) (hr:r<n₀) (hb:Below n₀ w w'):IsMap w' k r l:=by
 obtain⟨es,c,h1,h2,h3⟩:=h;exact⟨es,c,(hb.block r hr).trans h1,h2,h3⟩
structure Vw (W:World) (n₀:Nat) (A:Option Addr) (r:Nat) (m:List Int) (k:Nat):Prop where
 cel:Rd W (· <n₀) 1 A m.length (i64s m)
 rcs:IsMap W .i64 r (recsOf m k)
 rlt:r<n₀
theorem Vw.below {W W':World} {n₀:Nat} {A:Option Addr} {r:Nat} {m:List Int} {k:Nat} (h:Vw W n₀ A r m k) (hb:Below n₀ W W'):Vw W' n₀ A r m k:=
 ⟨h.cel.below hb fun _ h=>h,IsMap.below h.rcs h.rlt hb,h.rlt⟩
theorem getL_recsOf {m:List Int} {k:Nat} {a:Int} (h:isRec k a):getL a (recsOf m k)=some (recV m a):=by
 induction k with
 | zero=>unfold isRec at h;omega
 | succ k ih=>
  rw [recsOf_succ,getL_setL]
  split
  ·rename_i e;rw [e]
  ·rename_i e;exact ih (by unfold isRec at h ⊢;omega)
def KeepsM (n₀:Nat) (A B:World):Prop:=Below n₀ A B∧(∀ b t cs,t≠3→t≠37→Blk A b t cs→Blk B b t cs)∧(∀ (q:Nat) es c,A.heap[q]? =some (Obj.map es c)→B.heap[q]? =some (Obj.map es c))
theorem KeepsM.t {n₀:Nat} {A B C:World} (h:KeepsM n₀ A B) (k:KeepsM n₀ B C):KeepsM n₀ A C:=⟨h.1.trans k.1,fun b t cs h1 h2 hb=>k.2.1 b t cs h1 h2 (h.2.1 b t cs h1 h2 hb),fun q es c hq=>k.2.2 q es c (h.2.2 q es c hq)⟩
theorem KeepsM.map {n₀:Nat} {A B:World} (h:KeepsM n₀ A B) {k:IntKind} {r:Nat} {l:List (Int×Value)} (hm:IsMap A k r l):IsMap B k r l:=by
 obtain⟨es,c,h1,h2,h3⟩:=hm;exact⟨es,c,h.2.2 _ _ _ h1,h2,h3⟩
theorem mk_met (w:World):(Instr.makeMap 242 none).run Tryz.prog w=Result.ok (Value.map (some w.heap.size)) (w.alloc (Obj.map #[] 0)):=by kernel_rfl
theorem mapMet:Tryz.prog.underlying 242=some (.map 2 243):=by kernel_rfl
theorem i64U:Tryz.prog.underlying 2=some (.int .i64):=by kernel_rfl
def metL (l:List Int):List (Int×Value):=l.map fun a=>(a,.agg #[])
theorem metL_get {l:List Int} {a:Int}:getL a (metL l)=if a∈l then some (.agg #[]) else none:=by
 induction l with
 | nil=>simp [metL,getL]
 | cons b l ih=>
  unfold metL at ih ⊢;simp only [List.map_cons,getL,ih,List.mem_cons]
  by_cases h:b=a
  ·simp [h]
  ·have:¬ a=b:=fun e=>h e.symm;simp [h,this]
theorem metL_snoc {l:List Int} {a:Int} (h:a∉l):setL a (.agg #[]) (metL l)=metL (l++[a]):=by
 induction l with
 | nil=>rfl
 | cons b l ih=>
  simp only [List.mem_cons,not_or] at h;have h1:¬ b=a:=fun e=>h.1 e.symm;unfold metL at ih ⊢;simp only [List.map_cons,setL,h1,if_false,List.cons_append];rw [ih h.2]
structure ChL (m:List Int) (k:Nat) (L:List Int):Prop where
 len:(m.length:Int)=3+5*(k:Int)
 chain:Chain (fun a=>ld m (a+3)) (ld m 1) L
 recs:∀ a,a∈L→isRec k a
 nodup:L.Nodup
theorem ChL.nz {m:List Int} {k:Nat} {L:List Int} (h:ChL m k L) {a:Int} (ha:a∈L):a≠0:=by have:=h.recs a ha;unfold isRec at this;omega
theorem chain_split {f:Int→Int}:∀ {D R:List Int} {h:Int},Chain f h (D++R)→∃ h',Chain f h' R∧(D=[]→h'=h)∧(∀ D' d,D=D'++[d]→h'=f d)
 | [],R,h,c=>⟨h,c,fun _=>rfl,fun D' d e=>by simp at e⟩
 | a::l,R,h,c=>by
  obtain⟨h',c',e1,e2⟩:=chain_split (D:=l) (R:=R) c.2.2;refine⟨h',c',fun e=>by simp at e,fun D' d e=>?_⟩
  rcases D' with _ | ⟨x,D'⟩
  ·simp only [List.nil_append,List.cons.injEq] at e;obtain⟨rfl,rfl⟩:=e;exact e1 rfl
  ·simp only [List.cons_append,List.cons.injEq] at e;exact e2 D' d e.2
theorem chain_hd {f:Int→Int} {R:List Int} {h:Int} (c:Chain f h R):h=R.head?.getD 0:=by
 cases R with
 | nil=>exact c
 | cons a l=>exact c.1
theorem ChL.next {m:List Int} {k:Nat} {D R:List Int} {a:Int} (h:ChL m k (D++a::R)):ld m (a+3)=R.head?.getD 0:=by
 have h1:=h.chain;rw [show D++a::R=(D++[a])++R by simp] at h1;obtain⟨h',c',_,e⟩:=chain_split h1;rw [← chain_hd c',e D a rfl]
set_option maxHeartbeats 2000000 in
theorem chain1_in (n:Nat) (hn:1≤n) (l Bs n₀:Nat) (A:Option Addr) (r:Nat) (m:List Int) (k cA:Nat) (L:List Int) (hL:ChL m k L) (J Jx:List Int→World→Prop)
  (W:World) (hW:n₀≤W.heap.size) (hJ:AbidesFrom W.heap.size J)
  (hY:∀ pre (x:Int) W1,J pre W1→pre.length<L.length→YieldAt Fence.wide (n-1) Tryz.prog l #[Iv x,.bool true] W1 fun e W'=>
   (e=.returned (.bool true)∧J (pre++[x]) W'∧KeepsM n₀ W1 W')∨(e=.returned (.bool false)∧Jx (pre++[x]) W'))
  (hBs:Blk W Bs 191 #[.slice A m.length cA,.map (some r)]) (hV:Vw W n₀ A r m k) (h0:J [] W):
  CallsIn Fence.wide n Tryz.prog 127 #[.func (.yield l) #[] #[],Pz Bs] W fun e W'=>(∃ v,e=.returned v)∧
   ((∃ ys,ys=L∧J ys W')∨(∃ pre,pre <+: L∧Jx pre W')):=by
 have b1:Below W.heap.size W (W.alloc (.map #[] 0)):=(Below.refl _ W).alloc (Nat.le_refl _) _;have hmk:=mk_met W;have hB1:=hBs.alloc (.map #[] 0);have c0:=hB1.cell 0;have c1:=hB1.cell 1;have hV1:=hV.below (b1.mono hW);have hm1:IsMap (W.alloc (.map #[] 0)) .i64 W.heap.size (metL []):=⟨#[],0,heap_alloc_new W _,MapKept.stamped_empty 0,rfl⟩;have hJ1:J [] (W.alloc (.map #[] 0)):=hJ _ _ _ none h0 ⟨rfl,rfl,rfl,by simp,fun b hb _=>Below.heap_alloc W _ b hb⟩ (fun r e=>by cases e);have hml:1<m.length:=by have:=hL.len;omega
 obtain⟨g,off,rfl,hg,hc⟩:=hV1.cel.at (by omega)
 have hat:=at_any (W.alloc (.map #[] 0)) (n:=m.length) (c:=cA) (M:=.map (some r)) hml (hc 1 (Iv (ld m 1)) (by
  simp [i64s,ld,Sf.inb,hml];omega))
 rw [show ((1:Nat):Int)=1 from rfl] at hat;generalize hnn:m.length=N at*;refine callsIn_of_wp Tryz.func127 rfl trivial ?_ rfl;simp only [Tryz.ntmps127,List.size_toArray,List.length_cons,List.length_nil,Nat.reduceAdd,Nat.reduceSub,Array.replicate_succ,Array.replicate_zero,List.push_toArray,List.append_toArray,List.nil_append,List.cons_append]
 gi_wp2
 refine⟨trivial,callsIn_wide.2 (hat.mono ?_)⟩;rintro e W5 ⟨rfl,b5⟩;have b6:=b1.trans (b5.mono b1.size);have hV5:=hV1.below (b5.mono (Nat.le_trans hW b1.size));have hB5:Blk W5 Bs 191 #[.slice (some ⟨g,off,none⟩) N cA,.map (some r)]:=hB1.below b5 hB1.lt;have hm5:=IsMap.below hm1 hm1.lt b5;have hJ5:J [] W5:=hJ _ _ _ none hJ1 ⟨b5.os,b5.tape,b5.output,b5.size,fun b hb _=>b5.block b hb⟩ (fun r e=>by cases e);have hs0:=b6.size;have hch:=chain_hd hL.chain;rw [hch];obtain⟨q,hq⟩:∃ q,W.heap.size=q:=⟨_,rfl⟩;rw [hq] at hm5 hJ hs0 hW ⊢;clear hat hmk hB1 c0 c1 hV1 hm1 hJ1 hc b1 b5 b6 hV hBs h0 hch hq
 gi_wp2
 gi_loopg [4] L.length (fun gk v wr=>∃ D R:List Int,L=D++R∧R.length≤gk∧v=Iv (R.head?.getD 0)∧J D wr∧Blk wr Bs 191 #[.slice (some ⟨g,off,none⟩) N cA,.map (some r)]∧IsMap wr .i64 q (metL D)∧Vw wr n₀ (some ⟨g,off,none⟩) r m k∧q≤wr.heap.size)
 case atStart=>exact⟨[],L,rfl,Nat.le_refl _,rfl,hJ5,hB5,hm5,hV5,hs0⟩
 case round=>
  clear hB5 hJ5 hm5 hV5 hs0;obtain⟨D,R,hTe,hg,rfl,hJs,hBs,hm5,hV5,hs0⟩:=hrel;have HT:=Lib.hid hTe;have HG:=Lib.hid hg
  rcases R with _ | ⟨a,R2⟩
  ·clear hTe hg;simp only [List.head?_nil,Option.getD_none]
   gi_wp2
   go_end0
   refine⟨⟨_,rfl⟩,.inl ⟨_,rfl,?_⟩⟩;rw [HT.out,List.append_nil];exact hJs
  ·simp only [List.head?_cons,Option.getD_some];have haL:a∈L:=by rw [hTe];simp
   have ha0:(a !=0)=true:=by simp;exact hL.nz haL
   have hmet:=run_map_find mapMet i64U hm5 a (z:=.agg #[]) (by kernel_rfl) true
   have hnD:a∉D:=by
    have:=hL.nodup;rw [hTe,List.nodup_append] at this;intro h;exact this.2.2 a h a List.mem_cons_self rfl
   rw [metL_get,if_neg hnD] at hmet;simp only [if_true,Option.getD_none,Option.isSome_none] at hmet;have b6:Below n₀ wr (wr.alloc (.cells #[] 243)):=(Below.refl n₀ wr).alloc (Nat.le_trans hW hs0) _;have hB6:=hBs.alloc (.cells #[] 243);have hV6:=hV5.below b6;have c1:=hB6.cell 1;have hrec:=run_map_find mapIR intI hV6.rcs a (z:=.agg #[Iv 0,Iv 0,Iv 0,Iv 0,Iv 0]) (by kernel_rfl) true;rw [getL_recsOf (hL.recs a haL)] at hrec;simp only [if_true,Option.getD_some,Option.isSome_some] at hrec;unfold recV at hrec;have b7:=b6.alloc (Nat.le_trans (Nat.le_trans hW hs0) (show wr.heap.size≤(wr.alloc (.cells #[] 243)).heap.size by simp)) (.cells #[Iv (ld m a),Iv (ld m (a+1)),Iv (ld m (a+2)),Iv (ld m (a+3)),Iv (ld m (a+4))] 195);have hB7:=hB6.alloc (.cells #[Iv (ld m a),Iv (ld m (a+1)),Iv (ld m (a+2)),Iv (ld m (a+3)),Iv (ld m (a+4))] 195);have hR7:=Blk.new (wr.alloc (.cells #[] 243)) 195 #[Iv (ld m a),Iv (ld m (a+1)),Iv (ld m (a+2)),Iv (ld m (a+3)),Iv (ld m (a+4))]
   have hV7:=hV5.below b7
   have hm7:IsMap ((wr.alloc (.cells #[] 243)).alloc (.cells #[Iv (ld m a),Iv (ld m (a+1)),Iv (ld m (a+2)),Iv (ld m (a+3)),Iv (ld m (a+4))] 195)) .i64 q (metL D):=by
    obtain⟨es,c,h1,h2,h3⟩:=hm5;have hlt:=IsMap.lt ⟨es,c,h1,h2,h3⟩;exact⟨es,c,((Below.heap_alloc _ _ _ (by simp;omega)).trans (Below.heap_alloc _ _ _ hlt)).trans h1,h2,h3⟩
   have hJ7:J D ((wr.alloc (.cells #[] 243)).alloc (.cells #[Iv (ld m a),Iv (ld m (a+1)),Iv (ld m (a+2)),Iv (ld m (a+3)),Iv (ld m (a+4))] 195)):=hJ _ _ _ none hJs ⟨rfl,rfl,rfl,by simp;omega,fun b hb _=>(Below.heap_alloc _ _ _ (by simp;omega)).trans (Below.heap_alloc _ _ _ hb)⟩ (fun r e=>by cases e);rw [World.size_alloc] at hR7;have hDL:D.length<L.length:=by rw [HT.out];simp
   obtain⟨fn,tmps,assign,body,hy,hR2⟩:=hY D a _ hJ7 hDL;have hnx:=hL;rw [HT.out] at hnx;have HNX:=Lib.hid hnx.next;have HPRE:=Lib.hid (show D++[a] <+: L by rw [HT.out];exact⟨R2,by simp⟩);clear hTe hg;clear b6 hB6 hV6 b7 hJs hJ7 hV5 hm5 hBs hDL hnx hY
   gi_wp2
   refine hR2.mono ?_;rintro e5 W8 (⟨rfl,hJ8,hk8⟩ | ⟨rfl,hJx8⟩)
   ·have hB8:=hk8.2.1 _ _ _ (by decide) (by decide) hB7;have hR8:=hk8.2.1 _ _ _ (by decide) (by decide) hR7;have hV8:=hV7.below hk8.1;have hm8:=hk8.map hm7;obtain⟨W9,hu,hm9,hg9,ho9⟩:=map_put mapMet i64U hm8 a (.agg #[]);rw [metL_snoc hnD] at hm9;have hJ9:=hJ _ _ _ (some q) hJ8 hg9 (fun r e=>by cases e;exact⟨Nat.le_refl _,ho9⟩);have hR9:=blk_grown hR8 hg9 (blk_not_map hR8 hm8);have hB9:=blk_grown hB8 hg9 (blk_not_map hB8 hm8);have hV9:=hV8.below ((Below.refl n₀ W8).grown hg9 (Nat.le_trans hW (Nat.le_of_lt hm8.lt)) (fun b e=>by cases e;exact hW));have hs9:q≤W9.heap.size:=Nat.le_of_lt hm9.lt;have c3:=hR9.cell 3;clear hR2 hy hJ8 hk8 hB7 hR7 hV7 hm7 hmet hrec c1 hB8 hR8 hV8 hm8 hg9 ho9 hR9
    gi_wp2
    gi_roundg R2.length
    case measure=>have:=HG.out;simp at this;omega
    case rel=>
     exact⟨D++[a],R2,by rw [HT.out];simp,Nat.le_refl _,by rw [HNX.out],hJ9,hB9,hm9,hV9,hs9⟩
   ·gi_wp2
    first
     | refine bodyPost_ret (results_none rfl _ _ _) rfl ?_
     | refine bodyPost_ret (v:=.tuple #[]) (by simp [results,Tryz.results127,go_sem]) rfl ?_
    exact⟨⟨_,rfl⟩,.inr ⟨_,HPRE.out,hJx8⟩⟩
end Go.Proofs.YtadgbhjpgnlmoaaGreat
namespace Go.Proofs.YtadgbhjpgnlmoaaGreat
open Go.RowKit Go.Rp Go.Sf Go.Shelf
set_option maxRecDepth 100000
attribute [local go_sem] Oper.semAt_some
theorem KeepsM.b {n₀:Nat} {w:World} (hn:n₀≤w.heap.size) (W:World) (l:Nat) (o o':Obj) (hl:w.heap.size≤l) (h:W.heap[l]? =some o) (ho:o.isCells=false) (hw:o.isWalk=false):KeepsM n₀ W (W.putObj l o'):=
 ⟨belowK_b hn W l o o' hl h ho hw,(fun b t cs _ _ hb=>by
  refine((grownBy_putObj' W l o').block b (Blk.lt hb) fun e=>?_).trans hb
  cases e
  unfold Blk at hb;rw [h] at hb
  cases hb;cases ho),(fun q es c hq=>by
  refine((grownBy_putObj' W l o').block q (Array.getElem?_eq_some_iff.1 hq).1 fun e=>?_).trans hq
  cases e
  rw [h] at hq
  cases hq;cases hw)⟩
theorem chain_in (q:Nat) (v m:Value) (w:World):
  CallsIn Fence.wide q Tryz.prog 113 #[.agg #[v,m]] w fun e w'=>e=.returned (.func (.func 127) #[] #[Pz w.heap.size])∧w'=w.alloc (.cells #[v,m] 191):=by
 refine callsIn_of_wp Tryz.func113 rfl trivial ?_ rfl;simp only [Tryz.ntmps113,List.size_toArray,List.length_cons,List.length_nil,Nat.reduceAdd,Nat.reduceSub,Array.replicate_succ,Array.replicate_zero,List.push_toArray,List.append_toArray,List.nil_append,List.cons_append]
 gi_wp2
 go_ret;exact⟨rfl,rfl⟩
theorem chain_stops (n:Nat) (hn:1≤n) (Bs n₀:Nat) (A:Option Addr) (r:Nat) (m:List Int) (k cA:Nat) (L:List Int) (hL:ChL m k L) (w:World) (hn₀:n₀≤w.heap.size) (hBs:Blk w Bs 191 #[.slice A m.length cA,.map (some r)]) (hV:Vw w n₀ A r m k):
  SeqStopsK Fence.wide n Tryz.prog 127 #[Pz Bs] (fun x:Int=>#[Iv x,.bool true]) (KeepsM n₀) (fun ys=>ys=L) (fun pre=>pre <+: L) L.length w:=fun l J Jx W hW hJ _ hY h0=>
 chain1_in n hn l Bs n₀ A r m k cA L hL J Jx W (Nat.le_trans hn₀ hW.size) hJ hY (hBs.below hW hBs.lt) (hV.below (hW.mono hn₀)) h0
theorem Sl.of_owns {w w':World} {e sz n:Nat} {v:Value} {xs:List Value} (h:w'.ownsRow w.heap.size e sz v n xs):∃ A c,v=.slice A n c∧Sl w' e sz A n c xs (fun b=>w.heap.size≤b∧b<w'.heap.size):=by
 obtain⟨hl,⟨rfl,rfl⟩ | ⟨g,cap,cur,rfl,hg,hb,hn,hc,hz,hx⟩⟩:=h
 ·have:xs=[]:=List.eq_nil_of_length_eq_zero (by simpa using hl);subst this;exact⟨none,0,rfl,Sl.nil _ _ _ _⟩
 ·have hb':Blk w' g e cur:=hb;refine⟨_,cap,rfl,?_⟩;have:=Sl.of_blk hb' (S:=fun b=>w.heap.size≤b∧b<w'.heap.size) ⟨hg,hb'.lt⟩ n cap hn hc hz
  rwa [hx] at this
theorem cells_lit (W:World) (t:TypeId) (cs:Array Value) (j:Nat) (u:Value) (h:cs.toList[j]? =some u):(W.alloc (.cells cs t)).cell? ((⟨W.heap.size,0,none⟩:Addr).add j)=some u:=by
 have h2:(⟨W.heap.size,0,none⟩:Addr).add j=⟨W.heap.size,j,none⟩:=by unfold Addr.add;split<;>simp_all
 rw [h2,(Blk.new W t cs).cell j]
 simpa using h
theorem owns_slice {w:World} {base:Nat} {e:TypeId} {sz n:Nat} {v:Value} {xs:List Value} (h:w.ownsRow base e sz v n xs):∃ A c,v=.slice A n c:=by
 obtain⟨hl,⟨rfl,rfl⟩ | ⟨g,cap,cur,rfl,_⟩⟩:=h
 ·exact⟨none,0,rfl⟩
 ·exact⟨_,cap,rfl⟩
theorem keepsM_append {n₀ b0:Nat} {W W1:World} {v v':Value} {n:Nat} {xs:List Value} {o:Obj} (hrow:W.ownsRow n₀ 3 1 v n xs) (hbx:Blk W b0 37 #[v]) (hb:Below n₀ W (W1.setCell ⟨b0,0,none⟩ v')) (hgr:(W.alloc o).grownBy W1 v.ownBlock):KeepsM n₀ W (W1.setCell ⟨b0,0,none⟩ v'):=by
 have hro:∀ r,v.ownBlock=some r→∃ cur,Blk W r 3 cur:=by
  intro r hr
  rcases hrow.2 with ⟨rfl,_⟩ | ⟨g,cap,cur,rfl,_,hgb,_⟩
  ·simp [Value.ownBlock] at hr
  ·obtain rfl:g=r:=by simpa [Value.ownBlock] using hr
   exact⟨cur,hgb⟩
 have hb0:b0<W.heap.size:=hbx.lt;refine⟨hb,fun b t cs h1 h2 hc=>?_,fun q es c hq=>?_⟩
 ·have hc1:Blk W1 b t cs:=((hgr.block b (by simp;have:=hc.lt;omega) fun e=>by
   obtain⟨cur,hcur⟩:=hro b e.symm;exact hc.ne hcur h1 rfl).trans (Below.heap_alloc W o b hc.lt)).trans hc
  exact hc1.far (p:=⟨b0,0,none⟩) (hc.ne hbx h2) _
 ·have hql:=(Array.getElem?_eq_some_iff.1 hq).1;have hne:∀ {t:TypeId} {cs:Array Value},¬ Blk W q t cs:=fun h=>by unfold Blk at h;rw [h] at hq;cases hq
  refine(Below.heap_setCell W1 _ _ q (fun e=>hne (t:=37) (cs:=#[v]) (by have e':q=b0:=e;rw [e'];exact hbx))).trans (((hgr.block q (by simp;omega) fun e=>?_).trans (Below.heap_alloc W o q hql)).trans hq);obtain⟨cur,hcur⟩:=hro q e.symm;exact hne hcur
set_option maxHeartbeats 4000000 in
theorem reach_any (w:World) (A:Option Addr) (r:Nat) (m:List Int) (k cA:Nat) (L:List Int) (hL:ChL m k L) (hN:L.length≤1000) (hV:Vw w w.heap.size A r m k):
  Calls Tryz.prog 97 #[.agg #[.slice A m.length cA,.map (some r)]] w fun e w'=>∃ A' c',e=.returned (.tuple #[.slice A' L.length c',.bool true])∧Sl w' 3 1 A' L.length c' (ivs L) (fun b=>w.heap.size≤b∧b<w'.heap.size)∧Below w.heap.size w w':=by
 obtain⟨i0,hi,hz0,hz1,hz2⟩:=info_parts info_intA;refine(callsIn_wide (n:=3)).1 (callsIn_of_wp_marks Tryz.func97 rfl trivial ?_ rfl);simp only [Tryz.ntmps97,List.size_toArray,List.length_cons,List.length_nil,Nat.reduceAdd,Nat.reduceSub,Array.replicate_succ,Array.replicate_zero,List.push_toArray,List.append_toArray,List.nil_append,List.cons_append]
 gi_wp2_with (refine ⟨trivial,?_⟩;gi_at_call 113;refine(chain_in _ _ _ _).mono ?_;rintro e w' ⟨rfl,rfl⟩)
 have bO:=Boxed.new (((w.alloc (.cells #[.slice A m.length cA,.map (some r)] 191)).alloc (.cells #[.slice none 0 0] 37)).alloc (.cells #[.bool false] 4)) 37 (.slice none 0 0);have b2:=Boxed.new (w.alloc (.cells #[.slice A m.length cA,.map (some r)] 191)) 37 (.slice none 0 0);have b3:=Boxed.new ((w.alloc (.cells #[.slice A m.length cA,.map (some r)] 191)).alloc (.cells #[.slice none 0 0] 37)) 4 (.bool false);have bB:=Blk.new ((((w.alloc (.cells #[.slice A m.length cA,.map (some r)] 191)).alloc (.cells #[.slice none 0 0] 37)).alloc (.cells #[.bool false] 4)).alloc (.cells #[.slice none 0 0] 37)) 191 #[.slice A m.length cA,.map (some r)]
 have hB0:Below w.heap.size w (((((w.alloc (.cells #[.slice A m.length cA,.map (some r)] 191)).alloc (.cells #[.slice none 0 0] 37)).alloc (.cells #[.bool false] 4)).alloc (.cells #[.slice none 0 0] 37)).alloc (.cells #[.slice A m.length cA,.map (some r)] 191)):=
  (((((Below.refl _ w).alloc (Nat.le_refl _) _).alloc (by simp) _).alloc (by simp;omega) _).alloc (by simp;omega) _).alloc (by simp;omega) _
 replace b2:=((b2.alloc (.cells #[.bool false] 4)).alloc (.cells #[.slice none 0 0] 37)).alloc (.cells #[.slice A m.length cA,.map (some r)] 191);replace b3:=(b3.alloc (.cells #[.slice none 0 0] 37)).alloc (.cells #[.slice A m.length cA,.map (some r)] 191);replace bO:=bO.alloc (.cells #[.slice A m.length cA,.map (some r)] 191);simp only [World.size_alloc] at bO b2 b3 bB;have hsz:(((((w.alloc (.cells #[.slice A m.length cA,.map (some r)] 191)).alloc (.cells #[.slice none 0 0] 37)).alloc (.cells #[.bool false] 4)).alloc (.cells #[.slice none 0 0] 37)).alloc (.cells #[.slice A m.length cA,.map (some r)] 191)).heap.size=w.heap.size+5:=by simp
 generalize hW0:((((w.alloc (.cells #[.slice A m.length cA,.map (some r)] 191)).alloc (.cells #[.slice none 0 0] 37)).alloc (.cells #[.bool false] 4)).alloc (.cells #[.slice none 0 0] 37)).alloc (.cells #[.slice A m.length cA,.map (some r)] 191)=W0 at*;clear hW0;have hrow0:W0.ownsRow w.heap.size 3 1 (.slice none 0 0) 0 []:=⟨rfl,.inl ⟨rfl,rfl⟩⟩;have hV0:=hV.below hB0;have hs0:=hB0.size;generalize hpp:w.heap.size=p at*;have hAG:∃ ag,Value.agg #[.slice A m.length cA,.map (some r)]=ag:=⟨_,rfl⟩;obtain⟨ag,hag⟩:=hAG;rw [hag];clear hag
 refine wpIn_rangeFunc_ownG rfl (by omega) (gf:=127) (lb:=#[Pz (p+1+1+1+1)]) rfl trivial (enters_of Tryz.func127 (by kernel_rfl) rfl)
  (chain_stops 2 (by omega) (p+1+1+1+1) p A r m k cA L hL W0 hs0 bB hV0) KeepsM.t (KeepsM.b hs0) (Below.refl _ _) (fun _=>rfl)
  (fun pre W=>((∃ v,Boxed W (p+1+1+1) 37 v∧W.ownsRow p 3 1 v pre.length (ivs pre)∧True)∧Boxed W (p+1) 37 (.slice none 0 0)∧Boxed W (p+1+1) 4 (.bool false))∧Below p w W)
  (fun _ _ _=>False)
  (OwnFrom.and (Own.from (fun s' A' B row hs hg hr=>⟨holdsRow_own p (p+1+1+1) 37 3 1 (fun pre:List Int=>pre.length) (fun pre=>ivs pre) (fun _ _=>True) s' A' B row hs.1 hg hr,boxed_own _ _ (fun _:List Int=>.slice none 0 0) s' A' B row hs.2.1 hg hr,boxed_own _ _ (fun _:List Int=>.bool false) s' A' B row hs.2.2 hg hr⟩) _) (ownFrom_below (by omega) hs0))
  (fun _ _ _ _ _ hs _ _=>hs)
  ⟨⟨⟨_,bO,hrow0,trivial⟩,b2,b3⟩,hB0⟩
  (fun x=> { tmps:=#[ag,Pz p,Pz (p+1),Pz (p+1+1),Pz (p+1+1+1),Iv x,.bool true,ag,.func (.func 127) #[] #[Pz (p+1+1+1+1)],Iv x,.bool true,undef,undef,undef,undef,undef,undef,undef],defers:=[]}) ?assign ?body ?done ?stop
 case assign=>
  intro l x W K hK
  gi_wp2
  exact hK
 case body=>
  rintro l pre x W ⟨⟨⟨v,hv,hrow,_⟩,hbx,hbn⟩,hB⟩ hlt;obtain⟨Av,cv,rfl⟩:=owns_slice hrow;have hpl:pre.length+1≤1000:=by omega
  have H63:=Lib.hid (show pre.length+1≤maxLen by simp only [maxLen];omega);have HBY:=Lib.hid (show (pre.length+1)*8≤140737488355328 by omega);have hc:=hv.cell;have hco:=fun o=>(hv.alloc o).cell;have hle:p≤W.heap.size:=Nat.le_trans (by omega) hB.size;have hle2:p≤(W.alloc (.cells #[Iv x] 3)).heap.size:=by simp;omega
  clear hlt hpl
  gi_wp2_with (gi_at_builtin;refine wpListIn_append_own _ rfl (.tmp 13) (.tmp 15) _ rfl p 3 i0 _ 1 8 Tryz.underlying37 hi hz0 hz1 hz2 rfl (by decide) (.slice Av pre.length cv) _ _ rfl (hrow.alloc _) ⟨W.heap.size,0,none⟩ 1 1 [Iv x] rfl rfl (fun j u hu=>cells_lit W 3 _ j u hu) (by simp [Value.oneCell']) H63.out HBY.out hle2 ?_;intro v' w1 hown' hgrow _;obtain⟨g',cap',rfl⟩:=ownsRow_succ hown';obtain⟨hv1,hv2,hr2,hk2,hb2⟩:=hv.appended (by decide) hrow hle (by omega) hown' hgrow;have hc1:=hv1.cell;have hf1:=hv1.frozen)
  have hne1:p+1≠p+1+1+1:=by omega
  have hne2:p+1+1≠p+1+1+1:=by omega
  have hx1:=((hbx.alloc (.cells #[Iv x] 3)).kept hgrow (hbx.not_row (by decide) hrow)).other (fun e=>hne1 e) (.slice (some ⟨g',0,none⟩) (pre.length+1) cap');have hx2:=((hbn.alloc (.cells #[Iv x] 3)).kept hgrow (hbn.not_row (by decide) hrow)).other (fun e=>hne2 e) (.slice (some ⟨g',0,none⟩) (pre.length+1) cap');refine⟨hk2.from _,keepsM_append hrow hv hb2 hgrow,⟨⟨_,hv2,?_,trivial⟩,hx1,hx2⟩,hB.trans hb2⟩;rw [List.length_append,show ivs (pre++[x])=ivs pre++[Iv x] by simp [ivs]];exact hr2
 case done=>
  rintro D ys W hD rfl ⟨⟨⟨v,hv,hrow,_⟩,hb2,hb3⟩,hB⟩ hK;obtain⟨Av,cv,rfl⟩:=owns_slice hrow;have hc:=hv.cell;have hc2:=hb2.cell;have hc3:=hb3.cell;have hf2:=hb2.frozen;have hf3:=hb3.frozen;have hn12:p+1≠p+1+1:=by omega
  gi_wp2
  have hD1:((W.setCell ⟨p+1,0,none⟩ (.slice Av ys.length cv)).setCell ⟨p+1+1,0,none⟩ (.bool true)).heap[D]? =some (.deferred (some [])):=(Below.heap_setCell _ _ _ D (by simp only;omega)).trans ((Below.heap_setCell _ _ _ D (by simp only;omega)).trans hK);have hr1:=hrow.kept (grownBy_setCell' W (p+1) (.slice Av ys.length cv)) (.inr (hb2.not_row (by decide) hrow).symm);have hb3':=hb3.other (fun e=>hn12 e.symm) (.slice Av ys.length cv);have hr2:=hr1.kept (grownBy_setCell' _ (p+1+1) (.bool true)) (.inr (hb3'.not_row (by decide) hr1).symm);have hx2:=(hb2.set (.slice Av ys.length cv)).other (fun e=>hn12 e) (.bool true);have hx3:=hb3'.set (.bool true);have hB2:=(hB.setCell (p:=⟨p+1,0,none⟩) (by simp only;omega) (.slice Av ys.length cv)).setCell (p:=⟨p+1+1,0,none⟩) (by simp only;omega) (.bool true);refine⟨by simp,.inl ⟨_,_,rfl,run_takeDeferred hD1,?_⟩⟩;generalize (W.setCell ⟨p+1,0,none⟩ (.slice Av ys.length cv)).setCell ⟨p+1+1,0,none⟩ (.bool true)=W2 at*
  have y2:=(hx2.kept (grownBy_putObj' W2 D (.deferred none)) (fun e=>by cases e;rw [show W2.heap[p+1]? =_ from hx2] at hD1;cases hD1)).cell;have y3:=(hx3.kept (grownBy_putObj' W2 D (.deferred none)) (fun e=>by cases e;rw [show W2.heap[p+1+1]? =_ from hx3] at hD1;cases hD1)).cell;subst hpp;obtain⟨A',c',hA',hs⟩:=Sl.of_owns (ownsRow_putObj hr2 (.deferred none) hD1 rfl)
  cases hA'
  refine⟨.tuple #[.slice Av ys.length cv,.bool true],by simp [results,Tryz.results97,go_sem,y2,y3],Av,cv,rfl,hs,hB2.trans (belowK_b (w:=w) (Nat.le_refl _) W2 D _ _ (by omega) hD1 rfl rfl)⟩
 case stop=>
  rintro D c pre W _ _ h _;exact h.elim
end Go.Proofs.YtadgbhjpgnlmoaaGreat
namespace Go.Proofs.YtadgbhjpgnlmoaaGreat
open Go.RowKit Go.Rp Go.Sf
set_option maxRecDepth 100000
section
variable {B p:Nat} {w:World} {size:Int} {m:List Int} {R:List Res} {k:Nat} {L:List Int} {A:Option Addr} {c r:Nat}
theorem vw_of (h:At B w (celR A m.length c m::mapR .i64 r (recsOf m k)::R)):Vw w w.heap.size A r m k:=by
 have hs:Sl w 2 1 A m.length c (i64s m) (fun x=>B≤x):=h.get;exact⟨hs.lt.rd.more fun _ h=>h.2,h.drop.map,h.drop.map.lt⟩
theorem reach_s (hB:B≤w.heap.size) (hL:ChL m k L) (hN:L.length≤1000) (h:At B w (celR A m.length c m::mapR .i64 r (recsOf m k)::R)):
  Calls Tryz.prog 97 #[.agg #[.slice A m.length c,.map (some r)]] w fun e w'=>∃ A' c',e=.returned (.tuple #[.slice A' L.length c',.bool true])∧At B w' (intO A' L.length c' L::celR A m.length c m::mapR .i64 r (recsOf m k)::R)∧Below B w w':=
 (reach_any w A r m k c L hL hN (vw_of h)).mono fun e w' ⟨A',c',he,hs,hb⟩=>⟨A',c',he,h.made (fun x hx=>Nat.le_trans hB hx) hb hs,hb.mono hB⟩
theorem Reach_s (hB:B≤w.heap.size) (hL:ChL m k L) (hk:k≤1000) (hN:L.length≤1000) (h:At B w (memR p size m::R)):
  Calls Tryz.prog 72 #[Pz p] w fun e w'=>∃ A' c',e=.returned (.tuple #[.slice A' L.length c',.bool true])∧At B w' (intO A' L.length c' L::memR p size m::R)∧Below B w w':=by
 have hl:=look_s hB hL.len hk h;clear h;go_enter Tryz.func72,Tryz.ntmps72;go_wp2_with fail;refine hl.mono ?_;rintro e w1 ⟨A,c,r,rfl,s1,b1⟩;have hr:=reach_s (Nat.le_trans hB b1.size) hL hN s1;clear hl s1;go_wp2_with fail;refine hr.mono ?_;rintro e w2 ⟨A',c',rfl,s2,b2⟩;clear hr;go_wp2_with fail
 go_ret2
 have v:=s2.ox [1,1];exact⟨A',c',rfl,Sep.drop (Sep.drop v),b1.trans b2⟩
theorem waiting1_cf (args:Array Value) (w:World):(callFunc 100 args).run Tryz.prog w=.ok (.enter 100 args) w:=by kernel_rfl
theorem waiting1_s {v:Nat} {x:Int} {cel:Value} (hx:isRec k x) (hB:B≤w.heap.size) (h:At B w (blkR v 191 #[cel,.map (some r)]::mapR .i64 r (recsOf m k)::R)):
  Calls Tryz.prog 100 #[Iv x,Pz v] w fun e w'=>e=.returned (.bool (!decide (0<ld m x)))∧At B w' (blkR v 191 #[cel,.map (some r)]::mapR .i64 r (recsOf m k)::R)∧Below B w w':=by
 have hlk:=run_map_find mapIR intI h.drop.map x (z:=.agg #[Iv 0,Iv 0,Iv 0,Iv 0,Iv 0]) (by kernel_rfl) false;rw [getL_recsOf hx] at hlk;simp only [Option.getD_some,Bool.false_eq_true,if_false] at hlk;unfold recV at hlk;have c1:=h.blk.cell 1;have hw:=waits_any w (ld m x) (ld m (x+1)) (ld m (x+2)) (ld m (x+3)) (ld m (x+4));generalize decide (0<ld m x)=bl at*;have H:=Lib.hid h;clear h;go_enter Tryz.func100,Tryz.ntmps100;go_wp2_with fail;refine hw.mono ?_;rintro e w1 ⟨rfl,b1⟩;go_wp2_with fail;go_ret;exact⟨rfl,H.out.keep b1,b1.mono hB⟩
theorem Waiting_s (hB:B≤w.heap.size) (hm:(m.length:Int)=3+5*(k:Int)) (hk:k≤1000) (h:At B w (memR p size m::R)):
  Calls Tryz.prog 73 #[Pz p] w fun e w'=>∃ A' n' c' ys,e=.returned (.slice A' n' c')∧n'≤1000∧(∀ y∈ys,isRec k y∧0<ld m y)∧At B w' (intO A' n' c' ys::memR p size m::R)∧Below B w w':=by
 have hl:=look_s hB hm hk h;have HM:=Lib.hid (And.intro hm hk);clear h hm hk;go_enter Tryz.func73,Tryz.ntmps73;go_wp2_with fail;refine hl.mono ?_;rintro e w1 ⟨A,c,r,rfl,s1,b1⟩;clear hl;have hB1:=Nat.le_trans hB b1.size;generalize hnn:m.length=n at*;have s2:=(s1.alloc hB1 #[.slice A n c,.map (some r)] 191).ox [3];have b2:=b1.alloc hB1 (.cells #[.slice A n c,.map (some r)] 191);have hB2:=Nat.le_trans hB b2.size;have hr:=records_s hB2 (by rw [hnn];exact HM.out.1) HM.out.2 s2;clear s1 s2 b1;go_wp2_with fail;refine hr.mono ?_;rintro e w3 ⟨A3,c3,rfl,s3,b3⟩;clear hr;have b4:=b2.trans b3;have hB4:=Nat.le_trans hB b4.size;generalize w1.heap.size=v at*
 have hd:=deleteF_s (Y:=isRec k) (p:=fun x=> !decide (0<ld m x)) (f:=100) (cb:=#[Pz v]) hB4 HM.out.2 waiting1_cf (fun x hx=>recL_rec.1 hx) (fun W ys x hW hx hs=>by
  have hs2:=hs.ox [2,3];exact(waiting1_s hx hW hs2).mono fun e w' ⟨he,hs',hb⟩=>⟨he,hs'.ord [2,2,0,1],hb⟩) s3
 clear s3;go_wp2_with fail;refine hd.mono ?_;rintro e w5 ⟨i,ys,rfl,hi,hy,s5,b5⟩;clear hd;have HY:=Lib.hid (And.intro hi hy);clear hi hy;go_wp2_with fail;go_ret;refine⟨A3,i,c3,ys,rfl,by have:=HY.out.1;have:=HM.out.2;omega,fun y h=>?_,?_,b4.trans b5⟩
 ·obtain⟨h1,h2⟩:=HY.out.2 y h;exact⟨recL_rec.1 h1,by simpa using h2⟩
 ·have v:=s5.ord [0,0];simp only [ordL,List.getElem?_cons_zero,List.getElem?_cons_succ,List.eraseIdx_cons_succ,List.eraseIdx_cons_zero] at v;exact v.cons fun _ h=>h.cons fun _ h=>h.drop.drop.drop
end
end Go.Proofs.YtadgbhjpgnlmoaaGreat
