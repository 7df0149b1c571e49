/- TopSafe, a part of its proof; no conditions. -/
import Derived.Test.YtadgbhjpgnlmoaaGreatPk38
import Derived.Test.YtadgbhjpgnlmoaaGreatPk39
set_option linter.all false
namespace Go.Sf
section
variable {N:Nat} {old passes:Int} {M M':AM} {T:Nat→Th} {L L':List Int} {S:Nat→Int→Prop} {k i:Nat} {S0 S1:Int→Prop} {t t' u:Th}
theorem upT_same {α:Type} {T:Nat→α} {k:Nat} {t:α}:upT T k t k=t:=by simp [upT]
theorem upT_ne {α:Type} {T:Nat→α} {k i:Nat} {t:α} (h:i≠k):upT T k t i=T i:=by simp [upT,h]
theorem ex_up {P:Th→Prop} (hk:k<N) (h:∃ i,i<N∧P (T i)) (hp:P (T k)→P t'):∃ i,i<N∧P (upT T k t' i):=by
 obtain⟨i,hi,h⟩:=h
 by_cases e:i=k
 ·subst e;exact⟨i,hi,by rw [upT_same];exact hp h⟩
 ·exact⟨i,hi,by rw [upT_ne e];exact h⟩
theorem ex_k {P:Th→Prop} (hk:k<N) (hp:P t'):∃ i,i<N∧P (upT T k t' i):=⟨k,hk,by rw [upT_same];exact hp⟩
theorem Glob.turn (g:Glob N M L T) (hk:k<N) (hrc:t'.rc=(T k).rc) (hkk:M'.k=M.k)
  (hlock:M'.lock≠0→lk t'.pc∨M.lock≠0∧¬ lk (T k).pc)
  (hcc:cc t'.pc→cc (T k).pc∧t'.cur=(T k).cur∨∀ j,j<N→(T j).rc=t'.cur→¬ cl (T j).pc)
  (hcl:cl t'.pc→cl (T k).pc∨∀ i,i<N→cc (T i).pc→(T k).rc≠(T i).cur)
  (h4:∀ a,M'.act a=2→(cl t'.pc∧t'.rc=a)∨(cc t'.pc∧t'.cur=a)∨(M.act a=2∧¬ (cl (T k).pc∧(T k).rc=a)∧¬ (cc (T k).pc∧(T k).cur=a)))
  (h6:∀ a,M'.act a=1→a∈L'∨(t'.pc=47∧t'.cur=a)∨(M.act a=1∧a∉L∧¬ ((T k).pc=47∧(T k).cur=a)))
  (h3:∀ a,a∈L'→M'.req a= -1→((t'.pc=45∨t'.pc=46)∧t'.cur=a)∨(a∈L∧M.req a= -1∧¬ (((T k).pc=45∨(T k).pc=46)∧(T k).cur=a))):
  Glob N M' L' (upT T k t'):=by
 obtain⟨r2,r3,k2,a2,a4,a6,q3⟩:=g;have hR:∀ j,(upT T k t' j).rc=(T j).rc:=by intro j;unfold upT;split<;>simp_all
 refine⟨?_,?_,?_,?_,?_,?_,?_⟩
 ·intro i j;simp only [hR];exact r2 i j
 ·intro a;simp only [hR,hkk];exact r3 a
 ·intro hm
  rcases hlock hm with h | ⟨h,hn⟩
  ·exact ex_k (P:=fun t=>lk t.pc) hk h
  ·exact ex_up (P:=fun t=>lk t.pc) hk (k2 h) fun h=>absurd h hn
 ·intro i j hi hj hc hr hcl';rw [hR] at hr
  by_cases ei:i=k
  ·subst ei;rw [upT_same] at hc hr
   by_cases ej:j=i
   ·subst ej;rw [upT_same] at hcl';unfold cc at hc;unfold cl at hcl';omega
   ·rw [upT_ne ej] at hcl'
    rcases hcc hc with ⟨h1,h2⟩ | h
    ·exact a2 i j hi hj h1 (by rw [hr,h2]) hcl'
    ·exact h j hj hr hcl'
  ·rw [upT_ne ei] at hc hr
   by_cases ej:j=k
   ·subst ej;rw [upT_same] at hcl'
    rcases hcl hcl' with h | h
    ·exact a2 i j hi hj hc hr h
    ·exact h i hi hc hr
   ·rw [upT_ne ej] at hcl';exact a2 i j hi hj hc hr hcl'
 ·intro a ha
  rcases h4 a ha with ⟨h1,h2⟩ | ⟨h1,h2⟩ | ⟨h1,h2,h3⟩
  ·exact .inl (ex_k (P:=fun t=>t.rc=a∧cl t.pc) hk ⟨h2,h1⟩)
  ·exact .inr (ex_k (P:=fun t=>cc t.pc∧t.cur=a) hk ⟨h1,h2⟩)
  ·rcases a4 a h1 with h | h
   ·exact .inl (ex_up (P:=fun t=>t.rc=a∧cl t.pc) hk h fun h=>absurd ⟨h.2,h.1⟩ h2)
   ·exact .inr (ex_up (P:=fun t=>cc t.pc∧t.cur=a) hk h fun h=>absurd h h3)
 ·intro a ha
  rcases h6 a ha with h | ⟨h1,h2⟩ | ⟨h1,h2,h3⟩
  ·exact .inl h
  ·exact .inr (ex_k (P:=fun t=>t.pc=47∧t.cur=a) hk ⟨h1,h2⟩)
  ·rcases a6 a h1 with h | h
   ·exact absurd h h2
   ·exact .inr (ex_up (P:=fun t=>t.pc=47∧t.cur=a) hk h fun h=>absurd h h3)
 ·intro a ha hr
  rcases h3 a ha hr with h | ⟨h1,h2,h3⟩
  ·exact ex_k (P:=fun t=>(t.pc=45∨t.pc=46)∧t.cur=a) hk h
  ·exact ex_up (P:=fun t=>(t.pc=45∨t.pc=46)∧t.cur=a) hk (q3 a h1 h2) fun h=>absurd h h3
theorem Inv.turn (h:Inv N old M T L S) (hk:k<N) (hm:Mm M' L') (hg:Glob N M' L' (upT T k t')) (hl:Loc old M' L' k S1 t')
  (ho:∀ i u,Loc old M L i (S i) u→(u.rc=(T k).rc→u.rc=0)→i≠k→(cc u.pc→(T k).rc=u.cur→¬ cl (T k).pc)→(cc (T k).pc→u.rc=(T k).cur→¬ cl u.pc)→Loc old M' L' i (S i) u):
  Inv N old M' (upT T k t') L' (upT S k S1):=by
 refine⟨fun i hi=>?_,hm,hg⟩
 by_cases e:i=k
 ·subst e;rw [upT_same,upT_same];exact hl
 ·rw [upT_ne e,upT_ne e];refine ho i (T i) (h.loc i hi) (fun hr=>Classical.byContradiction fun hn=>e (h.glob.r2 i k hi hk hr hn)) e (fun hc hr=>h.glob.a2 i k hi hk hc hr) (fun hc hr=>h.glob.a2 k i hk hi hc hr)
end
section
variable {N:Nat} {old passes:Int} {M M':AM} {T:Nat→Th} {L L':List Int} {S:Nat→Int→Prop} {k i:Nat} {S0 S1:Int→Prop} {t t' u:Th}
theorem Inv.alloc (h:Inv N old M T L S) (hk:k<N) (e:(T k).pc=1):Inv N old { M with k:=M.k+1} (upT T k { T k with rc:=3+5*(M.k:Int),pc:=2}) L (upT S k (S k)):=by
 have l:=h.loc k hk
 have hrc:∀ i,i<N→(T i).rc≠3+5*(M.k:Int):=by
  intro i hi hr;have:=(h.loc i hi).r1 (by omega);unfold isRec at this;omega
 have hrec:∀ a,isRec (M.k+1) a↔(isRec M.k a∨a=3+5*(M.k:Int)):=by intro a;unfold isRec;omega
 have h0:=l.r5 e;have hlk:¬ lk (T k).pc:=by unfold lk;omega
 have hcl:¬ cl (T k).pc:=by unfold cl;omega
 have hcc:¬ cc (T k).pc:=by unfold cc;omega
 have hT:∀ i,i≠k→upT T k { T k with rc:=3+5*(M.k:Int),pc:=2} i=T i:=fun i hi=>upT_ne hi;obtain⟨r2,r3,k2,a2,a4,a6,q3⟩:=h.glob;refine h.turn hk (Mm.alloc l h.mem e) ⟨?_,?_,?_,?_,?_,?_,?_⟩ (l.alloc_k h.mem e) fun i u hu hr hi h1 h2=>hu.alloc_o l h.mem hr hi h1 h2 e
 ·intro i j hi hj
  by_cases ei:i=k
  ·subst ei
   by_cases ej:j=i
   ·intro _ _;exact ej.symm
   ·rw [upT_same,hT j ej];intro hr;exact absurd hr.symm (hrc j hj)
  ·rw [hT i ei]
   by_cases ej:j=k
   ·subst ej;rw [upT_same];intro hr;exact absurd hr (hrc i hi)
   ·rw [hT j ej];exact r2 i j hi hj
 ·intro a ha
  rcases(hrec a).1 ha with h | h
  ·obtain⟨i,hi,hr⟩:=r3 a h;refine⟨i,hi,?_⟩;have:i≠k:=by rintro rfl;rw [h0] at hr;subst hr;unfold isRec at h;omega
   rw [hT i this];exact hr
  ·exact⟨k,hk,by rw [upT_same];exact h.symm⟩
 ·intro hm;exact ex_up (P:=fun t=>lk t.pc) hk (k2 hm) fun h=>absurd h hlk
 ·intro i j hi hj hc hr hcl';have ei:i≠k:=by rintro rfl;rw [upT_same] at hc;simp only [cc] at hc;omega
  have ej:j≠k:=by rintro rfl;rw [upT_same] at hcl';simp only [cl] at hcl';omega
  rw [hT i ei] at hc hr;rw [hT j ej] at hr hcl';exact a2 i j hi hj hc hr hcl'
 ·intro a ha
  rcases a4 a ha with h | h
  ·exact .inl (ex_up (P:=fun t=>t.rc=a∧cl t.pc) hk h fun h=>absurd h.2 hcl)
  ·exact .inr (ex_up (P:=fun t=>cc t.pc∧t.cur=a) hk h fun h=>absurd h.1 hcc)
 ·intro a ha
  rcases a6 a ha with h | h
  ·exact .inl h
  ·exact .inr (ex_up (P:=fun t=>t.pc=47∧t.cur=a) hk h fun h=>absurd h.1 (by omega))
 ·intro a ha hr;exact ex_up (P:=fun t=>(t.pc=45∨t.pc=46)∧t.cur=a) hk (q3 a ha hr) fun h=>absurd h.1 (by omega)
theorem Inv.start (h:Inv N old M T L S) (hk:k<N) (e:(T k).pc=0) {v:Int} (hv:0<v):Inv N old M (upT T k { T k with word:=v,seq:=(T k).seq+1,pc:=if(T k).rc=0 then 1 else 2}) L (upT S k (S k)):=
 h.stay hk (by constructor<;>simp only [cl,cc,lk]<;>grind) ((h.loc k hk).start e hv)
theorem Inv.serve (h:Inv N old M T L S) (hk:k<N) (e:(T k).pc=36) {b:List Item} (hb:b.map (fun x=>(x.rc,x.word))=(T k).batch.map fun x=>(x.rc,x.word)):Inv N old M (upT T k { T k with batch:=b,nth:=0,pc:=37}) L (upT S k (S k)):=
 h.stay hk (by constructor<;>simp only [cl,cc,lk]<;>grind) ((h.loc k hk).serve e hb)
end
section
set_option maxHeartbeats 2000000
variable {N:Nat} {old passes:Int} {M M':AM} {T:Nat→Th} {L L':List Int} {S:Nat→Int→Prop} {k i:Nat} {S0 S1:Int→Prop} {t t' u:Th} {log:List Lg}
def Th.rest (t:Th):List Item:=if 37≤t.pc∧t.pc≤39 then t.batch.drop t.nth.toNat else []
def Un (N:Nat) (M:AM) (T:Nat→Th) (t:Th):Prop:=(1≤t.pc∧t.pc≤4)∨(t.pc≠0∧M.req t.rc=t.word∧∀ c,c<N→∀ x,x∈(T c).rest→x.rc≠t.rc)
structure Lv (N:Nat) (M:AM) (T:Nat→Th) (log:List Lg):Prop where
 l1:log.Pairwise fun a b=>¬ (a.th=b.th∧a.seq=b.seq)
 l2:∀ e,e∈log→∃ i,i<N∧e.th=(i:Int)∧e.seq≤(T i).seq
 un:∀ i,i<N→Un N M T (T i)→∀ e,e∈log→e.th=(i:Int)→e.seq≠(T i).seq
 sv:∀ i,i<N→5≤(T i).pc→M.req (T i).rc≠(T i).word→∃ e,e∈log∧e.th=(i:Int)∧e.seq=(T i).seq∧e.w=M.tld (T i).rc
 rs:∀ c i,c<N→i<N→∀ x,x∈(T c).rest→(T i).rc=x.rc→∃ e,e∈log∧e.th=(i:Int)∧e.seq=(T i).seq∧e.w=x.res
 tl:∀ c,c<N→38≤(T c).pc→(T c).pc≤39→∀ x l,(T c).batch.drop (T c).nth.toNat=x::l→M.tld x.rc=x.res
theorem rest_in (h:Inv N old M T L S) {c:Nat} (hc:c<N) {x:Item} (hx:x∈(T c).rest):lk (T c).pc∧isRec M.k x.rc∧M.req x.rc=x.word∧0<x.word:=by
 unfold Th.rest at hx
 split at hx
 ·rename_i e;have:=(h.loc c hc).s6 e.1 e.2 x hx;exact⟨by unfold lk;omega,this.1,this.2.1,this.2.2.1⟩
 ·simp at hx
theorem rest_waits (h:Inv N old M T L S) {c i:Nat} (hc:c<N) (hi:i<N) {x:Item} (hx:x∈(T c).rest) (e:(T i).rc=x.rc):M.req (T i).rc=(T i).word∧5≤(T i).pc∧(T i).pc≠14:=by
 obtain⟨_,h1,h2,h3⟩:=rest_in h hc hx;have l:=h.loc i hi;have h0:(T i).rc≠0:=by rw [e];unfold isRec at h1;omega
 have hq:=l.q1 h0;have hp:=l.p0;rw [e,h2] at hq;unfold lk at hp;rw [e,h2];omega
theorem Lv.stay (v:Lv N M T log) (hk:k<N) (hreq:M'.req=M.req) (htld:M'.tld=M.tld) (hrc:t'.rc=(T k).rc) (hseq:t'.seq=(T k).seq) (hw:t'.pc≠0→t'.word=(T k).word) (hr:t'.rest=(T k).rest)
  (hp:1≤t'.pc→t'.pc≤4→1≤(T k).pc∧(T k).pc≤4) (hp':5≤t'.pc→5≤(T k).pc) (hp'':t'.pc≠0→(T k).pc≠0)
  (ht:38≤t'.pc→t'.pc≤39→38≤(T k).pc∧(T k).pc≤39∧t'.batch=(T k).batch∧t'.nth=(T k).nth):Lv N M' (upT T k t') log:=by
 obtain⟨l1,l2,un,sv,rs,tl⟩:=v;have hR:∀ j,(upT T k t' j).rc=(T j).rc:=by intro j;unfold upT;split<;>simp_all
 have hQ:∀ j,(upT T k t' j).seq=(T j).seq:=by intro j;unfold upT;split<;>simp_all
 have hE:∀ j,(upT T k t' j).rest=(T j).rest:=by intro j;unfold upT;split<;>simp_all
 refine⟨l1,?_,?_,?_,?_,?_⟩
 ·intro e he;obtain⟨i,hi,h1,h2⟩:=l2 e he;exact⟨i,hi,h1,by rw [hQ];exact h2⟩
 ·intro i hi hu e he hth;rw [hQ];refine un i hi ?_ e he hth;unfold Un at hu ⊢;simp only [hE,hR,hreq] at hu
  by_cases ei:i=k
  ·subst ei;rw [upT_same] at hu
   rcases hu with h | ⟨h1,h2,h3⟩
   ·exact .inl (hp h.1 h.2)
   ·exact .inr ⟨hp'' h1,by rw [h2];exact hw h1,h3⟩
  ·rw [upT_ne ei] at hu;exact hu
 ·intro i hi h5 hn;rw [hR,hQ,htld];rw [hR,hreq] at hn;refine sv i hi ?_ ?_
  ·by_cases ei:i=k
   ·subst ei;rw [upT_same] at h5;exact hp' h5
   ·rw [upT_ne ei] at h5;exact h5
  ·by_cases ei:i=k
   ·subst ei;rw [upT_same] at h5 hn;rw [hw (by omega)] at hn;exact hn
   ·rw [upT_ne ei] at hn;exact hn
 ·intro c i hc hi x hx hr;rw [hE] at hx;rw [hR] at hr;rw [hQ];exact rs c i hc hi x hx hr
 ·intro c hc h1 h2 x l hd;rw [htld]
  by_cases ec:c=k
  ·subst ec;rw [upT_same] at h1 h2 hd;obtain⟨a1,a2,a3,a4⟩:=ht h1 h2;rw [a3,a4] at hd;exact tl c hc a1 a2 x l hd
  ·rw [upT_ne ec] at h1 h2 hd;exact tl c hc h1 h2 x l hd
theorem Lv.asks (h:Inv N old M T L S) (v:Lv N M T log) (hk:k<N) (e:(T k).pc=2∨(T k).pc=4) (hreq:M'.req=up M.req (T k).rc (T k).word) (htld:M'.tld=M.tld) (ht:t'= { T k with pc:=5}):Lv N M' (upT T k t') log:=by
 have l:=h.loc k hk;have h0:(T k).rc≠0:=fun h0=>by have:=l.r4 h0;omega
 have hle:∀ x,(∃ c,c<N∧x∈(T c).rest)→x.rc≠(T k).rc:=by
  rintro x ⟨c,hc,hx⟩ er;have:=rest_waits h hc hk hx er.symm;have hq:=l.q1 h0;have:=l.q7 (by omega);omega
 have hoth:∀ i,i<N→i≠k→M'.req (T i).rc=M.req (T i).rc∨(T i).rc=0:=by
  intro i hi ei
  by_cases e0:(T i).rc=0
  ·exact .inr e0
  ·refine .inl ?_;rw [hreq];unfold up;rw [if_neg];intro er;exact ei (h.glob.r2 i k hi hk er e0)
 obtain⟨l1,l2,un,sv,rs,tl⟩:=v;have hR:∀ j,(upT T k t' j).rc=(T j).rc:=by intro j;subst ht;unfold upT;split<;>simp_all
 have hQ:∀ j,(upT T k t' j).seq=(T j).seq:=by intro j;subst ht;unfold upT;split<;>simp_all
 have hE:∀ j,(upT T k t' j).rest=(T j).rest:=by
  intro j;subst ht;unfold upT;split
  ·rename_i ej;subst ej;unfold Th.rest;rw [if_neg (by simp),if_neg (by omega)]
  ·rfl
 refine⟨l1,?_,?_,?_,?_,?_⟩
 ·intro e' he;obtain⟨i,hi,h1,h2⟩:=l2 e' he;exact⟨i,hi,h1,by rw [hQ];exact h2⟩
 ·intro i hi hu e' he hth;rw [hQ];refine un i hi ?_ e' he hth
  by_cases ei:i=k
  ·subst ei;unfold Un;exact .inl (by omega)
  ·unfold Un at hu ⊢;simp only [hE,hR] at hu;rw [upT_ne ei] at hu
   rcases hu with h1 | ⟨h1,h2,h3⟩
   ·exact .inl h1
   ·rcases hoth i hi ei with h4 | h4
    ·exact .inr ⟨h1,by rw [← h4];exact h2,h3⟩
    ·have:=(h.loc i hi).r4 h4;exact .inl (by omega)
 ·intro i hi h5 hn;rw [hR,hQ,htld];rw [hR] at hn
  by_cases ei:i=k
  ·subst ei;subst ht;rw [upT_same,hreq] at hn;simp [up] at hn
  ·rw [upT_ne ei] at h5 hn
   rcases hoth i hi ei with h4 | h4
   ·exact sv i hi h5 (by rw [← h4];exact hn)
   ·have:=(h.loc i hi).r4 h4;omega
 ·intro c i hc hi x hx hr;rw [hE] at hx;rw [hR] at hr;rw [hQ];exact rs c i hc hi x hx hr
 ·intro c hc h1 h2 x l hd;rw [htld]
  by_cases ec:c=k
  ·subst ec;subst ht;rw [upT_same] at h1;simp at h1
  ·rw [upT_ne ec] at h1 h2 hd;exact tl c hc h1 h2 x l hd
theorem Lv.closes (h:Inv N old M T L S) (v:Lv N M T log) (hk:k<N) (e:(T k).pc=44) (c0:M.req (T k).cur=0) (hreq:M'.req=up M.req (T k).cur (-1)) (htld:M'.tld=M.tld) (ht:t'= { T k with pc:=45}):Lv N M' (upT T k t') log:=by
 have hw:∀ i,i<N→(T i).pc≠0→((M'.req (T i).rc=(T i).word)↔(M.req (T i).rc=(T i).word)):=by
  intro i hi hp;have:=(h.loc i hi).q7 hp;rw [hreq];unfold up;split
  ·rename_i er;rw [er,c0];omega
  ·rfl
 obtain⟨l1,l2,un,sv,rs,tl⟩:=v;have hR:∀ j,(upT T k t' j).rc=(T j).rc:=by intro j;subst ht;unfold upT;split<;>simp_all
 have hQ:∀ j,(upT T k t' j).seq=(T j).seq:=by intro j;subst ht;unfold upT;split<;>simp_all
 have hW:∀ j,(upT T k t' j).word=(T j).word:=by intro j;subst ht;unfold upT;split<;>simp_all
 have hP:∀ j,(upT T k t' j).pc=(T j).pc∨(upT T k t' j).pc=45∧(T j).pc=44:=by intro j;subst ht;unfold upT;split<;>simp_all
 have hE:∀ j,(upT T k t' j).rest=(T j).rest:=by
  intro j;subst ht;unfold upT;split
  ·rename_i ej;subst ej;unfold Th.rest;rw [if_neg (by simp),if_neg (by omega)]
  ·rfl
 refine⟨l1,?_,?_,?_,?_,?_⟩
 ·intro e' he;obtain⟨i,hi,h1,h2⟩:=l2 e' he;exact⟨i,hi,h1,by rw [hQ];exact h2⟩
 ·intro i hi hu e' he hth;rw [hQ];refine un i hi ?_ e' he hth;unfold Un at hu ⊢;simp only [hE,hR,hW] at hu;have:=hP i
  rcases hu with h1 | ⟨h1,h2,h3⟩
  ·exact .inl (by omega)
  ·have h0:(T i).pc≠0:=by omega
   exact .inr ⟨h0,(hw i hi h0).1 h2,h3⟩
 ·intro i hi h5 hn;rw [hR,hQ,htld];rw [hR,hW] at hn;have:=hP i;refine sv i hi (by omega) fun hh=>hn ((hw i hi (by omega)).2 hh)
 ·intro c i hc hi x hx hr;rw [hE] at hx;rw [hR] at hr;rw [hQ];exact rs c i hc hi x hx hr
 ·intro c hc h1 h2 x l hd;rw [htld]
  by_cases ec:c=k
  ·subst ec;subst ht;rw [upT_same] at h1 h2;simp at h2
  ·rw [upT_ne ec] at h1 h2 hd;exact tl c hc h1 h2 x l hd
theorem Lv.tells (h:Inv N old M T L S) (v:Lv N M T log) (hk:k<N) (e:(T k).pc=37) {x:Item} {l:List Item} (hd:(T k).batch.drop (T k).nth.toNat=x::l) (hreq:M'.req=M.req) (htld:M'.tld=up M.tld x.rc x.res) (ht:t'= { T k with pc:=38}):Lv N M' (upT T k t') log:=by
 have hxk:x∈(T k).rest:=by unfold Th.rest;rw [if_pos (by omega),hd];exact List.mem_cons_self
 obtain⟨l1,l2,un,sv,rs,tl⟩:=v;have hR:∀ j,(upT T k t' j).rc=(T j).rc:=by intro j;subst ht;unfold upT;split<;>simp_all
 have hQ:∀ j,(upT T k t' j).seq=(T j).seq:=by intro j;subst ht;unfold upT;split<;>simp_all
 have hW:∀ j,(upT T k t' j).word=(T j).word:=by intro j;subst ht;unfold upT;split<;>simp_all
 have hP:∀ j,(upT T k t' j).pc=(T j).pc∨(upT T k t' j).pc=38∧(T j).pc=37:=by intro j;subst ht;unfold upT;split<;>simp_all
 have hE:∀ j,(upT T k t' j).rest=(T j).rest:=by
  intro j;subst ht;unfold upT;split
  ·rename_i ej;subst ej;unfold Th.rest;rw [if_pos (by simp),if_pos (by omega)]
  ·rfl
 refine⟨l1,?_,?_,?_,?_,?_⟩
 ·intro e' he;obtain⟨i,hi,h1,h2⟩:=l2 e' he;exact⟨i,hi,h1,by rw [hQ];exact h2⟩
 ·intro i hi hu e' he hth;rw [hQ];refine un i hi ?_ e' he hth;unfold Un at hu ⊢;simp only [hE,hR,hW,hreq] at hu;have:=hP i
  rcases hu with h1 | ⟨h1,h2,h3⟩
  ·exact .inl (by omega)
  ·exact .inr ⟨by omega,h2,h3⟩
 ·intro i hi h5 hn;rw [hR,hQ,htld];rw [hR,hW,hreq] at hn;have:=hP i;have hne:(T i).rc≠x.rc:=fun er=>hn (rest_waits h hk hi hxk er).1;obtain⟨e',h1,h2,h3,h4⟩:=sv i hi (by omega) hn;exact⟨e',h1,h2,h3,by simp [up,hne,h4]⟩
 ·intro c i hc hi y hy hr;rw [hE] at hy;rw [hR] at hr;rw [hQ];exact rs c i hc hi y hy hr
 ·intro c hc h1 h2 y m hd';rw [htld]
  by_cases ec:c=k
  ·subst ec;subst ht;rw [upT_same] at hd';simp only at hd';rw [hd] at hd';simp only [List.cons.injEq] at hd';rw [← hd'.1];simp [up]
  ·rw [upT_ne ec] at h1 h2 hd'
   exfalso
   have k1:=(h.loc c hc).k1 (by unfold lk;omega);have k2:=(h.loc k hk).k1 (by unfold lk;omega);exact ec (by omega)
theorem Lv.frees (h:Inv N old M T L S) (v:Lv N M T log) (hk:k<N) (e:(T k).pc=39) {x:Item} {l:List Item} (hd:(T k).batch.drop (T k).nth.toNat=x::l) (hreq:M'.req=up M.req x.rc 0) (htld:M'.tld=M.tld) {p:Int} (hp:(l≠[]∧p=37)∨(l=[]∧20≤p∧¬ (37≤p∧p≤39))) (ht:t'= { T k with nth:=(T k).nth+1,pc:=p}):Lv N M' (upT T k t') log:=by
 have hxk:x∈(T k).rest:=by unfold Th.rest;rw [if_pos (by omega),hd];exact List.mem_cons_self
 have hrk:(T k).rest=x::l:=by unfold Th.rest;rw [if_pos (by omega),hd]
 have hn0:=(h.loc k hk).s7 (by omega) (by omega)
 have hdl:(T k).batch.drop ((T k).nth+1).toNat=l:=by
  have:((T k).nth+1).toNat=(T k).nth.toNat+1:=by omega
  rw [this,←List.drop_drop,hd];rfl
 have hrk':t'.rest=l:=by
  subst ht;unfold Th.rest
  rcases hp with ⟨h1,h2⟩ | ⟨h1,h2,h3⟩
  ·rw [if_pos (by simp [h2])];exact hdl
  ·rw [if_neg (by simpa using h3)];exact h1.symm
 have honly:∀ c,c<N→c≠k→(T c).rest=[]:=by
  intro c hc ec;unfold Th.rest;rw [if_neg];intro hh;have k1:=(h.loc c hc).k1 (by unfold lk;omega);have k2:=(h.loc k hk).k1 (by unfold lk;omega);exact ec (by omega)
 obtain⟨l1,l2,un,sv,rs,tl⟩:=v;have hxx:=rest_in h hk hxk;have htl:=tl k hk (by omega) (by omega) x l hd;have hR:∀ j,(upT T k t' j).rc=(T j).rc:=by intro j;subst ht;unfold upT;split<;>simp_all
 have hQ:∀ j,(upT T k t' j).seq=(T j).seq:=by intro j;subst ht;unfold upT;split<;>simp_all
 have hW:∀ j,(upT T k t' j).word=(T j).word:=by intro j;subst ht;unfold upT;split<;>simp_all
 have hP:∀ j,(upT T k t' j).pc=(T j).pc∨20≤(upT T k t' j).pc∧(T j).pc=39:=by
  intro j;subst ht;unfold upT;split
  ·rename_i ej;subst ej;right;simp only;omega
  ·left;rfl
 have hE:∀ c,c<N→∀ y,y∈(upT T k t' c).rest→y∈(T c).rest:=by
  intro c hc y hy
  by_cases ec:c=k
  ·subst ec;rw [upT_same,hrk'] at hy;rw [hrk];exact List.mem_cons_of_mem _ hy
  ·rw [upT_ne ec] at hy;exact hy
 refine⟨l1,?_,?_,?_,?_,?_⟩
 ·intro e' he;obtain⟨i,hi,h1,h2⟩:=l2 e' he;exact⟨i,hi,h1,by rw [hQ];exact h2⟩
 ·intro i hi hu e' he hth;rw [hQ];refine un i hi ?_ e' he hth;unfold Un at hu ⊢;simp only [hR,hW] at hu;have:=hP i
  rcases hu with h1 | ⟨h1,h2,h3⟩
  ·exact .inl (by omega)
  ·have h0:(T i).pc≠0:=by omega
   have hq:=(h.loc i hi).q7 h0
   have hne:(T i).rc≠x.rc:=by
    intro er;rw [hreq,er] at h2;simp [up] at h2;omega
   refine .inr ⟨h0,?_,?_⟩
   ·rw [hreq] at h2;simpa [up,hne] using h2
   ·intro c hc y hy
    by_cases ec:c=k
    ·subst ec;rw [hrk] at hy
     rcases List.mem_cons.1 hy with rfl | hy
     ·exact fun er=>hne er.symm
     ·exact h3 c hc y (by rw [upT_same,hrk'];exact hy)
    ·rw [honly c hc ec] at hy;simp at hy
 ·intro i hi h5 hn;rw [hR,hQ,htld];rw [hR,hW] at hn;have:=hP i
  by_cases er:(T i).rc=x.rc
  ·obtain⟨e',h1,h2,h3,h4⟩:=rs k i hk hi x hxk er;exact⟨e',h1,h2,h3,by rw [h4,er,htl]⟩
  ·rw [hreq] at hn;simp only [up,er,if_false] at hn;exact sv i hi (by omega) hn
 ·intro c i hc hi y hy hr;rw [hR] at hr;rw [hQ];exact rs c i hc hi y (hE c hc y hy) hr
 ·intro c hc h1 h2 y m hd';rw [htld]
  by_cases ec:c=k
  ·subst ec;rw [upT_same] at h1 h2;subst ht;simp only at h1 h2;omega
  ·rw [upT_ne ec] at h1 h2 hd';exact tl c hc h1 h2 y m hd'
end
section
set_option maxHeartbeats 2000000
variable {N:Nat} {old passes:Int} {M M':AM} {T:Nat→Th} {L L':List Int} {S:Nat→Int→Prop} {k i:Nat} {S0 S1:Int→Prop} {t t' u:Th}
def Stale (M:AM) (L:List Int) (old:Int) (a:Int):Prop:=a∈L.tail∧M.act a=1∧M.req a=0∧¬ M.pass-M.age a≤old
theorem Inv.step (h:Inv N old M T L S) (hk:k<N) (hs:Step passes old (k:Int) M (T k) M' t') (hS:(T k).pc≠40→S1=S k) (hS40:(T k).pc=40→∀ a,S1 a→Stale M L old a) (hp:(T k).pc≠1):∃ L',Inv N old M' (upT T k t') L' (upT S k S1)∧∀ a,a∈L→0<M.req a→a∈L':=by
 have l:=h.loc k hk
 cases hs
 case alloc e=>exact absurd e hp
 case publish' e c=>exact⟨L,h.stay hk (by constructor<;>simp only [cl,cc,lk,Th.on,Th.by]<;>grind) ((hS (by grind))▸l.publish2 h.mem e c),fun _ h _=>h⟩
 case closed e=>exact⟨L,h.stay hk (by constructor<;>simp only [cl,cc,lk,Th.on,Th.by]<;>grind) ((hS (by grind))▸l.closed h.mem e),fun _ h _=>h⟩
 case check e=>exact⟨L,h.stay hk (by constructor<;>simp only [cl,cc,lk,Th.on,Th.by]<;>grind) ((hS (by grind))▸l.check h.mem e),fun _ h _=>h⟩
 case claim' e c=>exact⟨L,h.stay hk (by constructor<;>simp only [cl,cc,lk,Th.on,Th.by]<;>grind) ((hS (by grind))▸l.claim2 h.mem e),fun _ h _=>h⟩
 case sure e=>exact⟨L,h.stay hk (by constructor<;>simp only [cl,cc,lk,Th.on,Th.by]<;>grind) ((hS (by grind))▸l.sure h.mem e),fun _ h _=>h⟩
 case front e=>exact⟨L,h.stay hk (by constructor<;>simp only [cl,cc,lk,Th.on,Th.by]<;>grind) ((hS (by grind))▸l.front h.mem e),fun _ h _=>h⟩
 case link' e c=>exact⟨L,h.stay hk (by constructor<;>simp only [cl,cc,lk,Th.on,Th.by]<;>grind) ((hS (by grind))▸l.link2 h.mem e),fun _ h _=>h⟩
 case wait e=>exact⟨L,h.stay hk (by constructor<;>simp only [cl,cc,lk,Th.on,Th.by]<;>grind) ((hS (by grind))▸l.wait h.mem e),fun _ h _=>h⟩
 case lock e=>exact⟨L,h.stay hk (by constructor<;>simp only [cl,cc,lk,Th.on,Th.by]<;>grind) ((hS (by grind))▸l.lock h.mem e),fun _ h _=>h⟩
 case take' e c=>exact⟨L,h.stay hk (by constructor<;>simp only [cl,cc,lk,Th.on,Th.by]<;>grind) ((hS (by grind))▸l.take2 h.mem e),fun _ h _=>h⟩
 case read e=>exact⟨L,h.stay hk (by constructor<;>simp only [cl,cc,lk,Th.on,Th.by]<;>grind) ((hS (by grind))▸l.read h.mem e),fun _ h _=>h⟩
 case pass e=>exact⟨L,h.stay hk (by constructor<;>simp only [cl,cc,lk,Th.on,Th.by]<;>grind) ((hS (by grind))▸l.pass h.mem e),fun _ h _=>h⟩
 case many e=>exact⟨L,h.stay hk (by constructor<;>simp only [cl,cc,lk,Th.on,Th.by]<;>grind) ((hS (by grind))▸l.many h.mem e),fun _ h _=>h⟩
 case look e c=>exact⟨L,h.stay hk (by constructor<;>simp only [cl,cc,lk,Th.on,Th.by]<;>grind) ((hS (by grind))▸l.look h.mem e),fun _ h _=>h⟩
 case look' e c=>exact⟨L,h.stay hk (by constructor<;>simp only [cl,cc,lk,Th.on,Th.by]<;>grind) ((hS (by grind))▸l.look2 h.mem e),fun _ h _=>h⟩
 case pend e c=>exact⟨L,h.stay hk (by constructor<;>simp only [cl,cc,lk,Th.on,Th.by]<;>grind) ((hS (by grind))▸l.pend h.mem e c),fun _ h _=>h⟩
 case pend' e c=>exact⟨L,h.stay hk (by constructor<;>simp only [cl,cc,lk,Th.on,Th.by]<;>grind) ((hS (by grind))▸l.pend2 h.mem e),fun _ h _=>h⟩
 case help' e c=>exact⟨L,h.stay hk (by constructor<;>simp only [cl,cc,lk,Th.on,Th.by]<;>grind) ((hS (by grind))▸l.help2 h.mem e),fun _ h _=>h⟩
 case first e c=>exact⟨L,h.stay hk (by constructor<;>simp only [cl,cc,lk,Th.on,Th.by]<;>grind) ((hS (by grind))▸l.first h.mem e),fun _ h _=>h⟩
 case first' e c=>exact⟨L,h.stay hk (by constructor<;>simp only [cl,cc,lk,Th.on,Th.by]<;>grind) ((hS (by grind))▸l.first2 h.mem e c),fun _ h _=>h⟩
 case solo' e c=>exact⟨L,h.stay hk (by constructor<;>simp only [cl,cc,lk,Th.on,Th.by]<;>grind) ((hS (by grind))▸l.solo2 h.mem e),fun _ h _=>h⟩
 case after e=>exact⟨L,h.stay hk (by constructor<;>simp only [cl,cc,lk,Th.on,Th.by]<;>grind) ((hS (by grind))▸l.after h.mem e),fun _ h _=>h⟩
 case scan e c=>exact⟨L,h.stay hk (by constructor<;>simp only [cl,cc,lk,Th.on,Th.by]<;>grind) ((hS (by grind))▸l.scan h.mem e),fun _ h _=>h⟩
 case scan' e c=>exact⟨L,h.stay hk (by constructor<;>simp only [cl,cc,lk,Th.on,Th.by]<;>grind) ((hS (by grind))▸l.scan2 h.mem e c),fun _ h _=>h⟩
 case pick e c=>exact⟨L,h.stay hk (by constructor<;>simp only [cl,cc,lk,Th.on,Th.by]<;>grind) ((hS (by grind))▸l.pick h.mem e c),fun _ h _=>h⟩
 case pick' e c=>exact⟨L,h.stay hk (by constructor<;>simp only [cl,cc,lk,Th.on,Th.by]<;>grind) ((hS (by grind))▸l.pick2 h.mem e),fun _ h _=>h⟩
 case goOn e c=>exact⟨L,h.stay hk (by constructor<;>simp only [cl,cc,lk,Th.on,Th.by]<;>grind) ((hS (by grind))▸l.goOn h.mem e c),fun _ h _=>h⟩
 case goOn' e c=>exact⟨L,h.stay hk (by constructor<;>simp only [cl,cc,lk,Th.on,Th.by]<;>grind) ((hS (by grind))▸l.goOn2 h.mem e),fun _ h _=>h⟩
 case step e c=>exact⟨L,h.stay hk (by constructor<;>simp only [cl,cc,lk,Th.on,Th.by]<;>grind) ((hS (by grind))▸l.step h.mem e c),fun _ h _=>h⟩
 case step' e c=>exact⟨L,h.stay hk (by constructor<;>simp only [cl,cc,lk,Th.on,Th.by]<;>grind) ((hS (by grind))▸l.step2 h.mem e c),fun _ h _=>h⟩
 case live e c=>exact⟨L,h.stay hk (by constructor<;>simp only [cl,cc,lk,Th.on,Th.by]<;>grind) ((hS (by grind))▸l.live h.mem e c),fun _ h _=>h⟩
 case live' e c=>exact⟨L,h.stay hk (by constructor<;>simp only [cl,cc,lk,Th.on,Th.by]<;>grind) ((hS (by grind))▸l.live2 h.mem e c),fun _ h _=>h⟩
 case old e c=>exact⟨L,h.stay hk (by constructor<;>simp only [cl,cc,lk,Th.on,Th.by]<;>grind) ((hS (by grind))▸l.older h.mem e),fun _ h _=>h⟩
 case old' e c=>exact⟨L,h.stay hk (by constructor<;>simp only [cl,cc,lk,Th.on,Th.by]<;>grind) ((hS (by grind))▸l.older2 h.mem e c),fun _ h _=>h⟩
 case close' e c=>exact⟨L,h.stay hk (by constructor<;>simp only [cl,cc,lk,Th.on,Th.by]<;>grind) ((hS (by grind))▸l.close2 h.mem e c),fun _ h _=>h⟩
 case past e=>exact⟨L,h.stay hk (by constructor<;>simp only [cl,cc,lk,Th.on,Th.by]<;>grind) ((hS (by grind))▸l.past h.mem e),fun _ h _=>h⟩
 case sweep e c=>exact⟨L,h.stay hk (by constructor<;>simp only [cl,cc,lk]<;>grind) (l.sweep h.mem e c fun a ha=>(hS40 e a ha).1),fun _ h _=>h⟩
 case sweep' e c=>exact⟨L,h.stay hk (by constructor<;>simp only [cl,cc,lk]<;>grind) (l.sweep2 h.mem e c fun a ha=>⟨(hS40 e a ha).1,(hS40 e a ha).2.1,(hS40 e a ha).2.2.2⟩),fun _ h _=>h⟩
 case publish e c=>
  refine⟨L,h.turn hk (Mm.publish l h.mem e c) (h.glob.turn hk rfl rfl ?_ ?_ ?_ ?_ ?_ ?_) ((hS (by rw [e];decide))▸l.publish_k h.mem e c) fun i u hu hr hi h1 h2=>hu.publish_o l h.mem hr hi h1 h2 e c,?_⟩
  all_goals (have hM:=h.mem;cases hM;cases l;simp [e,cl,cc,lk] at* <;>(try simp only [e,cl,cc,lk,Th.on] at *)<;>grind (splits:=20) [up])
 case opened e=>
  refine⟨L,h.turn hk (Mm.opened l h.mem e) (h.glob.turn hk rfl rfl ?_ ?_ ?_ ?_ ?_ ?_) ((hS (by rw [e];decide))▸l.opened_k h.mem e) fun i u hu hr hi h1 h2=>hu.opened_o l h.mem hr hi h1 h2 e,?_⟩
  all_goals (have hM:=h.mem;cases hM;cases l;simp [e,cl,cc,lk] at* <;>(try simp only [e,cl,cc,lk,Th.on] at *)<;>grind (splits:=20) [up])
 case claim e c=>
  have hx:∀ i,i<N→cc (T i).pc→(T k).rc≠(T i).cur:=fun i hi hc hr=>by have:=(h.loc i hi).a2 hc;rw [← hr,c] at this;exact absurd this (by decide)
  refine⟨L,h.turn hk (Mm.claim l h.mem e c) (h.glob.turn hk rfl rfl ?_ ?_ ?_ ?_ ?_ ?_) ((hS (by rw [e];decide))▸l.claim_k h.mem e c) fun i u hu hr hi h1 h2=>hu.claim_o l h.mem hr hi h1 h2 e c,?_⟩
  all_goals (have hM:=h.mem;cases hM;cases l;simp [e,cl,cc,lk] at* <;>(try simp only [e,cl,cc,lk,Th.on] at *)<;>grind (splits:=20) [up])
 case drop e=>
  refine⟨L,h.turn hk (Mm.drop l h.mem e) (h.glob.turn hk rfl rfl ?_ ?_ ?_ ?_ ?_ ?_) ((hS (by rw [e];decide))▸l.drop_k h.mem e) fun i u hu hr hi h1 h2=>hu.drop_o l h.mem hr hi h1 h2 e,?_⟩
  all_goals (have hM:=h.mem;cases hM;cases l;simp [e,cl,cc,lk] at* <;>(try simp only [e,cl,cc,lk,Th.on] at *)<;>grind (splits:=20) [up])
 case next e=>
  refine⟨L,h.turn hk (Mm.next l h.mem e) (h.glob.turn hk rfl rfl ?_ ?_ ?_ ?_ ?_ ?_) ((hS (by rw [e];decide))▸l.next_k h.mem e) fun i u hu hr hi h1 h2=>hu.next_o l h.mem hr hi h1 h2 e,?_⟩
  all_goals (have hM:=h.mem;cases hM;cases l;simp [e,cl,cc,lk] at* <;>(try simp only [e,cl,cc,lk,Th.on] at *)<;>grind (splits:=20) [up])
 case link e c=>
  refine⟨((T k).rc::L),h.turn hk (Mm.link l h.mem e c) (h.glob.turn hk rfl rfl ?_ ?_ ?_ ?_ ?_ ?_) ((hS (by rw [e];decide))▸l.link_k h.mem e c) fun i u hu hr hi h1 h2=>hu.link_o l h.mem hr hi h1 h2 e c,?_⟩
  all_goals (have hM:=h.mem;cases hM;cases l;simp [e,cl,cc,lk] at* <;>(try simp only [e,cl,cc,lk,Th.on] at *)<;>grind (splits:=20) [up])
 case mark e=>
  refine⟨L,h.turn hk (Mm.mark l h.mem e) (h.glob.turn hk rfl rfl ?_ ?_ ?_ ?_ ?_ ?_) ((hS (by rw [e];decide))▸l.mark_k h.mem e) fun i u hu hr hi h1 h2=>hu.mark_o l h.mem hr hi h1 h2 e,?_⟩
  all_goals (have hM:=h.mem;cases hM;cases l;simp [e,cl,cc,lk] at* <;>(try simp only [e,cl,cc,lk,Th.on] at *)<;>grind (splits:=20) [up])
 case take e c=>
  refine⟨L,h.turn hk (Mm.take l h.mem e c) (h.glob.turn hk rfl rfl ?_ ?_ ?_ ?_ ?_ ?_) ((hS (by rw [e];decide))▸l.take_k h.mem e c) fun i u hu hr hi h1 h2=>hu.take_o l h.mem hr hi h1 h2 e c,?_⟩
  all_goals (have hM:=h.mem;cases hM;cases l;simp [e,cl,cc,lk] at* <;>(try simp only [e,cl,cc,lk,Th.on] at *)<;>grind (splits:=20) [up])
 case stamp e=>
  refine⟨L,h.turn hk (Mm.stamp l h.mem e) (h.glob.turn hk rfl rfl ?_ ?_ ?_ ?_ ?_ ?_) ((hS (by rw [e];decide))▸l.stamp_k h.mem e) fun i u hu hr hi h1 h2=>hu.stamp_o l h.mem hr hi h1 h2 e,?_⟩
  all_goals (have hM:=h.mem;cases hM;cases l;simp [e,cl,cc,lk] at* <;>(try simp only [e,cl,cc,lk,Th.on] at *)<;>grind (splits:=20) [up])
 case help e c=>
  have hx:∀ j,j<N→(T j).rc=(T k).cur→¬ cl (T j).pc:=fun j hj hr hc=>by have:=(h.loc j hj).a1 hc;rw [hr,c] at this;exact absurd this (by decide)
  refine⟨L,h.turn hk (Mm.help l h.mem e c) (h.glob.turn hk rfl rfl ?_ ?_ ?_ ?_ ?_ ?_) ((hS (by rw [e];decide))▸l.help_k h.mem e c) fun i u hu hr hi h1 h2=>hu.help_o l h.mem hr hi h1 h2 e c,?_⟩
  all_goals (have hM:=h.mem;cases hM;cases l;simp [e,cl,cc,lk] at* <;>(try simp only [e,cl,cc,lk,Th.on] at *)<;>grind (splits:=20) [up])
 case bare e=>
  refine⟨L,h.turn hk (Mm.bare l h.mem e) (h.glob.turn hk rfl rfl ?_ ?_ ?_ ?_ ?_ ?_) ((hS (by rw [e];decide))▸l.bare_k h.mem e) fun i u hu hr hi h1 h2=>hu.bare_o l h.mem hr hi h1 h2 e,?_⟩
  all_goals (have hM:=h.mem;cases hM;cases l;simp [e,cl,cc,lk] at* <;>(try simp only [e,cl,cc,lk,Th.on] at *)<;>grind (splits:=20) [up])
 case solo e c=>
  have hl0:L=[]:=by have:=h.mem.c1;rw [c] at this;exact this.nil
  have hl:∀ a,a∉L:=by rw [hl0];simp
  refine⟨[(T k).cur],h.turn hk (Mm.solo l h.mem e c) (h.glob.turn hk rfl rfl ?_ ?_ ?_ ?_ ?_ ?_) ((hS (by rw [e];decide))▸l.solo_k h.mem e c) fun i u hu hr hi h1 h2=>hu.solo_o l h.mem hr hi h1 h2 e c,?_⟩
  all_goals (have hM:=h.mem;cases hM;cases l;simp [e,cl,cc,lk] at* <;>(try simp only [e,cl,cc,lk,Th.on] at *)<;>grind (splits:=20) [up])
 case tie e=>
  refine⟨L,h.turn hk (Mm.tie l h.mem e) (h.glob.turn hk rfl rfl ?_ ?_ ?_ ?_ ?_ ?_) ((hS (by rw [e];decide))▸l.tie_k h.mem e) fun i u hu hr hi h1 h2=>hu.tie_o l h.mem hr hi h1 h2 e,?_⟩
  all_goals (have hM:=h.mem;cases hM;cases l;simp [e,cl,cc,lk] at* <;>(try simp only [e,cl,cc,lk,Th.on] at *)<;>grind (splits:=20) [up])
 case seen e=>
  refine⟨L,h.turn hk (Mm.seen l h.mem e) (h.glob.turn hk rfl rfl ?_ ?_ ?_ ?_ ?_ ?_) ((hS (by rw [e];decide))▸l.seen_k h.mem e) fun i u hu hr hi h1 h2=>hu.seen_o l h.mem hr hi h1 h2 e,?_⟩
  all_goals (have hM:=h.mem;cases hM;cases l;simp [e,cl,cc,lk] at* <;>(try simp only [e,cl,cc,lk,Th.on] at *)<;>grind (splits:=20) [up])
 case tell x r e c=>
  refine⟨L,h.turn hk (Mm.tell l h.mem e c) (h.glob.turn hk rfl rfl ?_ ?_ ?_ ?_ ?_ ?_) ((hS (by rw [e];decide))▸l.tell_k h.mem e c) fun i u hu hr hi h1 h2=>hu.tell_o l h.mem hr hi h1 h2 e c,?_⟩
  all_goals (have hM:=h.mem;cases hM;cases l;simp [e,cl,cc,lk] at* <;>(try simp only [e,cl,cc,lk,Th.on] at *)<;>grind (splits:=20) [up])
 case aged x r e c=>
  refine⟨L,h.turn hk (Mm.aged l h.mem e c) (h.glob.turn hk rfl rfl ?_ ?_ ?_ ?_ ?_ ?_) ((hS (by rw [e];decide))▸l.aged_k h.mem e c) fun i u hu hr hi h1 h2=>hu.aged_o l h.mem hr hi h1 h2 e c,?_⟩
  all_goals (have hM:=h.mem;cases hM;cases l;simp [e,cl,cc,lk] at* <;>(try simp only [e,cl,cc,lk,Th.on] at *)<;>grind (splits:=20) [up])
 case close e c=>
  refine⟨L,h.turn hk (Mm.close l h.mem e c) (h.glob.turn hk rfl rfl ?_ ?_ ?_ ?_ ?_ ?_) ((hS (by rw [e];decide))▸l.close_k h.mem e c) fun i u hu hr hi h1 h2=>hu.close_o l h.mem hr hi h1 h2 e c,?_⟩
  all_goals (have hM:=h.mem;cases hM;cases l;simp [e,cl,cc,lk] at* <;>(try simp only [e,cl,cc,lk,Th.on] at *)<;>grind (splits:=20) [up])
 case off e=>
  refine⟨L,h.turn hk (Mm.off l h.mem e) (h.glob.turn hk rfl rfl ?_ ?_ ?_ ?_ ?_ ?_) ((hS (by rw [e];decide))▸l.off_k h.mem e) fun i u hu hr hi h1 h2=>hu.off_o l h.mem hr hi h1 h2 e,?_⟩
  all_goals (have hM:=h.mem;cases hM;cases l;simp [e,cl,cc,lk] at* <;>(try simp only [e,cl,cc,lk,Th.on] at *)<;>grind (splits:=20) [up])
 case release e=>
  refine⟨L,h.turn hk (Mm.release l h.mem e) (h.glob.turn hk rfl rfl ?_ ?_ ?_ ?_ ?_ ?_) ((hS (by rw [e];decide))▸l.release_k h.mem e) fun i u hu hr hi h1 h2=>hu.release_o l h.mem hr hi h1 h2 e,?_⟩
  all_goals (have hM:=h.mem;cases hM;cases l;simp [e,cl,cc,lk] at* <;>(try simp only [e,cl,cc,lk,Th.on] at *)<;>grind (splits:=20) [up])
 case cut e=>
  obtain⟨L1,L2,hL⟩:∃ L1 L2,L=L1++(T k).prev::(T k).cur::L2:=by
   have hw:=l.w2 (by omega) (by omega);have h0:M.nxt (T k).prev≠0:=by rw [hw.1];intro h0;have:=h.mem.c2 _ hw.2;rw [h0] at this;unfold isRec at this;omega
   have:=h.mem.c1.next (l.w1 (by omega) (by omega)) h0;rw [hw.1] at this;exact this
  have hin:∀ x,x∈L↔(x∈L1++(T k).prev::L2∨x=(T k).cur):=by intro x;rw [hL];simp only [List.mem_append,List.mem_cons];grind
  refine⟨(L1++(T k).prev::L2),h.turn hk (Mm.cut l h.mem e hL) (h.glob.turn hk rfl rfl ?_ ?_ ?_ ?_ ?_ ?_) ((hS (by rw [e];decide))▸l.cut_k h.mem e hL) fun i u hu hr hi h1 h2=>hu.cut_o l h.mem hr hi h1 h2 e hL,?_⟩
  all_goals (have hM:=h.mem;cases hM;cases l;simp [e,cl,cc,lk] at* <;>(try simp only [e,cl,cc,lk,Th.on] at *)<;>grind (splits:=20) [up])
 case set e=>
  obtain⟨L1,L2,hL⟩:=split_of (l.b1 (by omega) (by omega));have hin:∀ x,x∈L1++(T k).prev::(T k).cur::L2↔(x∈L∨x=(T k).cur):=by intro x;rw [hL];simp only [List.mem_append,List.mem_cons];grind
  refine⟨(L1++(T k).prev::(T k).cur::L2),h.turn hk (Mm.set l h.mem e hL) (h.glob.turn hk rfl rfl ?_ ?_ ?_ ?_ ?_ ?_) ((hS (by rw [e];decide))▸l.set_k h.mem e hL) fun i u hu hr hi h1 h2=>hu.set_o l h.mem hr hi h1 h2 e hL,?_⟩
  all_goals (have hM:=h.mem;cases hM;cases l;simp [e,cl,cc,lk] at* <;>(try simp only [e,cl,cc,lk,Th.on] at *)<;>grind (splits:=20) [up])
 case free x r e c=>
  refine⟨L,h.turn hk (Mm.free l h.mem e c) (h.glob.turn hk rfl rfl ?_ ?_ ?_ ?_ ?_ ?_) ((hS (by rw [e];decide))▸l.free_k h.mem e c) fun i u hu hr hi h1 h2=>hu.free_o l h.mem hr hi h1 h2 e c,?_⟩
  all_goals (have hM:=h.mem;cases hM;cases l;simp [e,cl,cc,lk] at* <;>(try simp only [e,cl,cc,lk,Th.on] at *)<;>grind (splits:=20) [up])
end
end Go.Sf
