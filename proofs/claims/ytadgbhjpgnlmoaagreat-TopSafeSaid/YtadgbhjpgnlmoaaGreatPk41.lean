/- TopSafe, a part of its proof; no conditions. -/
import Derived.Test.YtadgbhjpgnlmoaaGreatPk37
import Derived.Test.YtadgbhjpgnlmoaaGreatPk40
set_option linter.all false
namespace Go.Sf
section
set_option maxHeartbeats 2000000
variable {N:Nat} {old passes:Int} {M M':AM} {T:Nat→Th} {L L':List Int} {S:Nat→Int→Prop} {k i:Nat} {S0 S1:Int→Prop} {t t' u:Th} {log:List Lg}
theorem Lv.step (h:Inv N old M T L S) (v:Lv N M T log) (hk:k<N) (hs:Step passes old (k:Int) M (T k) M' t') (hp:(T k).pc≠1):Lv N M' (upT T k t') log:=by
 have hp0:=(h.loc k hk).p0
 cases hs
 case alloc e=>exact absurd e hp
 case publish e c=>exact v.asks h hk (.inl e) rfl rfl rfl
 case opened e=>exact v.asks h hk (.inr e) rfl rfl rfl
 case close e c=>exact v.closes h hk e c rfl rfl rfl
 case tell x l e c=>exact v.tells h hk e c rfl rfl rfl
 case free x l e c=>
  refine v.frees h hk e c rfl rfl (p:=if l≠[] then 37 else if(T k).runs<passes then 20 else 40) ?_ rfl
  by_cases hl:l=[]<;>simp [hl]
  split<;>omega
 all_goals (refine v.stay hk rfl rfl rfl rfl ?_ ?_ ?_ ?_ ?_ ?_<;>simp only [Th.on,Th.by,Th.rest]<;>grind)
theorem Lv.alloc (h:Inv N old M T L S) (v:Lv N M T log) (hk:k<N) (e:(T k).pc=1):Lv N { M with k:=M.k+1} (upT T k { T k with rc:=3+5*(M.k:Int),pc:=2}) log:=by
 have hnr:¬ isRec M.k (3+5*(M.k:Int)):=by unfold isRec;omega
 obtain⟨l1,l2,un,sv,rs,tl⟩:=v;obtain⟨t',ht⟩:∃ t',t'= { T k with rc:=3+5*(M.k:Int),pc:=2}:=⟨_,rfl⟩;rw [← ht];have hO:∀ j,j≠k→upT T k t' j=T j:=fun j hj=>upT_ne hj;have hQ:∀ j,(upT T k t' j).seq=(T j).seq:=by intro j;subst ht;unfold upT;split<;>simp_all
 have hE:∀ j,(upT T k t' j).rest=(T j).rest:=by
  intro j;subst ht;unfold upT;split
  ·rename_i ej;subst ej;unfold Th.rest;rw [if_neg (by simp),if_neg (by omega)]
  ·rfl
 refine⟨l1,?_,?_,?_,?_,?_⟩
 ·intro e' he;obtain⟨i,hi,h1,h2⟩:=l2 e' he;exact⟨i,hi,h1,by rw [hQ];exact h2⟩
 ·intro i hi hu e' he hth;rw [hQ];refine un i hi ?_ e' he hth
  by_cases ei:i=k
  ·subst ei;unfold Un;exact .inl (by omega)
  ·unfold Un at hu ⊢;simp only [hE] at hu;rw [hO i ei] at hu;exact hu
 ·intro i hi h5 hn
  by_cases ei:i=k
  ·subst ei;rw [upT_same] at h5;subst ht;simp at h5
  ·rw [hO i ei] at h5 hn ⊢;exact sv i hi h5 hn
 ·intro c i hc hi x hx hr;rw [hE] at hx;rw [hQ]
  by_cases ei:i=k
  ·subst ei;rw [upT_same] at hr;subst ht;have:=(rest_in h hc hx).2.1;rw [← hr] at this;exact absurd this hnr
  ·rw [hO i ei] at hr;exact rs c i hc hi x hx hr
 ·intro c hc h1 h2 x l hd
  by_cases ec:c=k
  ·subst ec;rw [upT_same] at h1;subst ht;simp at h1
  ·rw [hO c ec] at h1 h2 hd;exact tl c hc h1 h2 x l hd
theorem Lv.start (h:Inv N old M T L S) (v:Lv N M T log) (hk:k<N) (e:(T k).pc=0) {w:Int}:Lv N M (upT T k { T k with word:=w,seq:=(T k).seq+1,pc:=if(T k).rc=0 then 1 else 2}) log:=by
 obtain⟨l1,l2,un,sv,rs,tl⟩:=v;obtain⟨t',ht⟩:∃ t',t'= { T k with word:=w,seq:=(T k).seq+1,pc:=if(T k).rc=0 then 1 else 2}:=⟨_,rfl⟩;rw [← ht];have hpc:1≤t'.pc∧t'.pc≤2:=by subst ht;simp only;split<;>omega
 have hO:∀ j,j≠k→upT T k t' j=T j:=fun j hj=>upT_ne hj
 have hE:∀ j,(upT T k t' j).rest=(T j).rest:=by
  intro j;unfold upT;split
  ·rename_i ej;subst ej;unfold Th.rest;rw [if_neg (by omega),if_neg (by omega)]
  ·rfl
 refine⟨l1,?_,?_,?_,?_,?_⟩
 ·intro e' he;obtain⟨i,hi,h1,h2⟩:=l2 e' he;refine⟨i,hi,h1,?_⟩
  by_cases ei:i=k
  ·subst ei;rw [upT_same];subst ht;simp only;omega
  ·rw [hO i ei];exact h2
 ·intro i hi hu e' he hth
  by_cases ei:i=k
  ·subst ei;rw [upT_same];obtain⟨j,hj,h1,h2⟩:=l2 e' he;have:j=i:=by omega
   subst this;subst ht;simp only;omega
  ·rw [hO i ei];refine un i hi ?_ e' he hth;unfold Un at hu ⊢;simp only [hE] at hu;rw [hO i ei] at hu;exact hu
 ·intro i hi h5 hn
  by_cases ei:i=k
  ·subst ei;rw [upT_same] at h5;omega
  ·rw [hO i ei] at h5 hn ⊢;exact sv i hi h5 hn
 ·intro c i hc hi x hx hr;rw [hE] at hx
  by_cases ei:i=k
  ·subst ei;rw [upT_same] at hr;have:=(rest_waits h hc hi hx (by rw [← hr];subst ht;rfl)).2.1;omega
  ·rw [hO i ei] at hr ⊢;exact rs c i hc hi x hx hr
 ·intro c hc h1 h2 x l hd
  by_cases ec:c=k
  ·subst ec;rw [upT_same] at h1;omega
  ·rw [hO c ec] at h1 h2 hd;exact tl c hc h1 h2 x l hd
structure Done (N:Nat) (T:Nat→Th) (b:List Item) (es:List Lg):Prop where
 d1:es.Pairwise fun a b=>¬ (a.th=b.th∧a.seq=b.seq)
 d2:∀ e,e∈es→∃ x i,x∈b∧i<N∧(T i).rc=x.rc∧e.th=(i:Int)∧e.seq=(T i).seq∧e.w=x.res
 d3:∀ x i,x∈b→i<N→(T i).rc=x.rc→∃ e,e∈es∧e.th=(i:Int)∧e.seq=(T i).seq∧e.w=x.res
theorem Lv.serve (h:Inv N old M T L S) (v:Lv N M T log) (hk:k<N) (e:(T k).pc=36) {b:List Item} {es:List Lg} (hb:b.map (fun x=>(x.rc,x.word))=(T k).batch.map fun x=>(x.rc,x.word)) (hd:Done N T b es):Lv N M (upT T k { T k with batch:=b,nth:=0,pc:=37}) (log++es):=by
 have hnone:∀ c,c<N→(T c).rest=[]:=by
  intro c hc;unfold Th.rest;rw [if_neg];intro hh;have k1:=(h.loc c hc).k1 (by unfold lk;omega);have k2:=(h.loc k hk).k1 (by unfold lk;omega);have:c=k:=by omega
  subst this;omega
 have hx:∀ x,x∈b→isRec M.k x.rc∧M.req x.rc=x.word∧0<x.word:=by
  intro x hx;have:(x.rc,x.word)∈b.map fun x=>(x.rc,x.word):=List.mem_map.2 ⟨x,hx,rfl⟩;rw [hb] at this;obtain⟨y,hy,e'⟩:=List.mem_map.1 this;simp only [Prod.mk.injEq] at e';have:=(h.loc k hk).s4 (by omega) (by omega) y hy;exact⟨e'.1▸this.1,by rw [← e'.1,←e'.2];exact this.2.1,by rw [← e'.2];exact this.2.2.1⟩
 have hun:∀ x i,x∈b→i<N→(T i).rc=x.rc→Un N M T (T i)∧5≤(T i).pc:=by
  intro x i hxb hi hr;obtain⟨h1,h2,h3⟩:=hx x hxb;have l:=h.loc i hi;have h0:(T i).rc≠0:=by rw [hr];unfold isRec at h1;omega
  have hq:=l.q1 h0;have hp:=l.p0;rw [hr,h2] at hq;unfold lk at hp;refine⟨.inr ⟨by omega,by rw [hr,h2];omega,?_⟩,by omega⟩;intro c hc y hy;rw [hnone c hc] at hy;simp at hy
 obtain⟨l1,l2,un,sv,rs,tl⟩:=v;obtain⟨d1,d2,d3⟩:=hd;obtain⟨t',ht⟩:∃ t',t'= { T k with batch:=b,nth:=0,pc:=37}:=⟨_,rfl⟩;rw [← ht];have hR:∀ j,(upT T k t' j).rc=(T j).rc:=by intro j;subst ht;unfold upT;split<;>simp_all
 have hQ:∀ j,(upT T k t' j).seq=(T j).seq:=by intro j;subst ht;unfold upT;split<;>simp_all
 have hW:∀ j,(upT T k t' j).word=(T j).word:=by intro j;subst ht;unfold upT;split<;>simp_all
 have hP:∀ j,(upT T k t' j).pc=(T j).pc∨(upT T k t' j).pc=37∧(T j).pc=36:=by intro j;subst ht;unfold upT;split<;>simp_all
 have hrk:(upT T k t' k).rest=b:=by rw [upT_same];subst ht;unfold Th.rest;rw [if_pos (by simp)];simp
 refine⟨?_,?_,?_,?_,?_,?_⟩
 ·rw [List.pairwise_append];refine⟨l1,d1,fun a ha e' he=>?_⟩;rintro ⟨h1,h2⟩;obtain⟨x,i,hxb,hi,hr,h3,h4,_⟩:=d2 e' he;exact un i hi (hun x i hxb hi hr).1 a ha (by rw [h1,h3]) (by rw [h2,h4])
 ·intro e' he
  rcases List.mem_append.1 he with he | he
  ·obtain⟨i,hi,h1,h2⟩:=l2 e' he;exact⟨i,hi,h1,by rw [hQ];exact h2⟩
  ·obtain⟨x,i,hxb,hi,hr,h3,h4,_⟩:=d2 e' he;exact⟨i,hi,h3,by rw [hQ];omega⟩
 ·intro i hi hu e' he hth;rw [hQ];unfold Un at hu;simp only [hR,hW] at hu;have hpi:=hP i
  rcases List.mem_append.1 he with he | he
  ·refine un i hi ?_ e' he hth
   rcases hu with h1 | ⟨h1,h2,h3⟩
   ·exact .inl (by omega)
   ·exact .inr ⟨by omega,h2,fun c hc y hy=>by rw [hnone c hc] at hy;simp at hy⟩
  ·obtain⟨x,j,hxb,hj,hr,h3,h4,_⟩:=d2 e' he;have:j=i:=by omega
   subst this;have:=hun x j hxb hj hr
   rcases hu with h1 | ⟨h1,h2,h3⟩
   ·omega
   ·exact absurd hr.symm (h3 k hk x (by rw [hrk];exact hxb))
 ·intro i hi h5 hn;rw [hR,hQ];rw [hR,hW] at hn;have:=hP i;obtain⟨e',h1,h2⟩:=sv i hi (by omega) hn;exact⟨e',List.mem_append_left _ h1,h2⟩
 ·intro c i hc hi x hx' hr;rw [hR] at hr;rw [hQ]
  by_cases ec:c=k
  ·subst ec;rw [hrk] at hx';obtain⟨e',h1,h2⟩:=d3 x i hx' hi hr;exact⟨e',List.mem_append_right _ h1,h2⟩
  ·rw [upT_ne ec,hnone c hc] at hx';simp at hx'
 ·intro c hc h1 h2 x l hd'
  by_cases ec:c=k
  ·subst ec;rw [upT_same] at h1;subst ht;simp at h1
  ·rw [upT_ne ec] at h1 h2 hd';exact tl c hc h1 h2 x l hd'
end
section
set_option maxHeartbeats 1000000
variable {N:Nat} {old passes:Int} {M M':AM} {T:Nat→Th} {L L':List Int} {S:Nat→Int→Prop} {k i:Nat} {S0 S1:Int→Prop} {t t' u:Th} {log:List Lg}
structure Bd (N:Nat) (B:Int) (M:AM) (T:Nat→Th):Prop where
 pass:0≤M.pass∧M.pass≤B
 age:∀ a,0≤M.age a∧M.age a≤B
 runs:∀ i,i<N→0≤(T i).runs∧(T i).runs≤B
 seq:∀ i,i<N→0≤(T i).seq∧(T i).seq≤B
 own:∀ i,i<N→0≤(T i).pass∧(T i).pass≤B
 nth:∀ i,i<N→ -1≤(T i).nth∧(T i).nth≤B
 len:∀ i,i<N→((T i).batch.length:Int)≤B
theorem Bd.stay {B:Int} (b:Bd N B M T) (hp:0≤M'.pass∧M'.pass≤B+1) (ha:∀ a,0≤M'.age a∧M'.age a≤B+1)
  (h1:0≤t'.runs∧t'.runs≤B+1) (h2:0≤t'.seq∧t'.seq≤B+1) (h3:0≤t'.pass∧t'.pass≤B+1) (h4: -1≤t'.nth∧t'.nth≤B+1) (h5:(t'.batch.length:Int)≤B+1):Bd N (B+1) M' (upT T k t'):=by
 obtain⟨b1,b2,b3,b4,b5,b6,b7⟩:=b
 constructor
 ·exact hp
 ·exact ha
 all_goals (intro i hi;by_cases e:i=k)
 ·subst e;rw [upT_same];exact h1
 ·rw [upT_ne e];have:=b3 i hi;omega
 ·subst e;rw [upT_same];exact h2
 ·rw [upT_ne e];have:=b4 i hi;omega
 ·subst e;rw [upT_same];exact h3
 ·rw [upT_ne e];have:=b5 i hi;omega
 ·subst e;rw [upT_same];exact h4
 ·rw [upT_ne e];have:=b6 i hi;omega
 ·subst e;rw [upT_same];exact h5
 ·rw [upT_ne e];have:=b7 i hi;omega
theorem Bd.step {B:Int} (h:Inv N old M T L S) (b:Bd N B M T) (hk:k<N) (hs:Step passes old (k:Int) M (T k) M' t'):Bd N (B+1) M' (upT T k t'):=by
 have l:=h.loc k hk;have b1:=b.pass;have b2:=b.age;have b3:=b.runs k hk;have b4:=b.seq k hk;have b5:=b.own k hk;have b6:=b.nth k hk;have b7:=b.len k hk
 cases hs
 case stamp e=>
  have:=l.w0' e;exact b.stay (by first | omega | (simp only [Th.on,Th.by,List.length_append,List.length_cons,List.length_nil];omega)) (fun a=>by have:=b2 a;first | exact⟨this.1,Int.le_trans this.2 (by omega)⟩ | (simp only [up];split<;>omega)) (by first | omega | (simp only [Th.on,Th.by,List.length_append,List.length_cons,List.length_nil];omega)) (by first | omega | (simp only [Th.on,Th.by,List.length_append,List.length_cons,List.length_nil];omega)) (by first | omega | (simp only [Th.on,Th.by,List.length_append,List.length_cons,List.length_nil];omega)) (by first | omega | (simp only [Th.on,Th.by,List.length_append,List.length_cons,List.length_nil];omega)) (by first | omega | (simp only [Th.on,Th.by,List.length_append,List.length_cons,List.length_nil];omega))
 all_goals exact b.stay (by first | omega | (simp only [Th.on,Th.by,List.length_append,List.length_cons,List.length_nil];omega)) (fun a=>by have:=b2 a;first | exact⟨this.1,Int.le_trans this.2 (by omega)⟩ | (simp only [up];split<;>omega)) (by first | omega | (simp only [Th.on,Th.by,List.length_append,List.length_cons,List.length_nil];omega)) (by first | omega | (simp only [Th.on,Th.by,List.length_append,List.length_cons,List.length_nil];omega)) (by first | omega | (simp only [Th.on,Th.by,List.length_append,List.length_cons,List.length_nil];omega)) (by first | omega | (simp only [Th.on,Th.by,List.length_append,List.length_cons,List.length_nil];omega)) (by first | omega | (simp only [Th.on,Th.by,List.length_append,List.length_cons,List.length_nil];omega))
theorem Chain.uniq {f:Int→Int}:∀ {L L':List Int} {h:Int},Chain f h L→Chain f h L'→L=L'
 | [],[],_,_,_=>rfl
 | [],_::_,_,c,c'=>absurd (c'.1▸c) c'.2.1
 | _::_,[],_,c,c'=>absurd (c.1▸c') c.2.1
 | a::l,b::l',h,c,c'=>by
  have e:a=b:=c.1.symm.trans c'.1;subst e;rw [Chain.uniq c.2.2 c'.2.2]
theorem Step.unlock (hs:Step passes old (k:Int) M t M' t') (h0:M.lock≠0) (h1:M'.lock=0):t.pc=48:=by
 cases hs<;>first | assumption | exact absurd h1 h0 | exact absurd (by assumption) h0
structure Abs where
 M:AM
 T:Nat→Th
 log:List Lg
 rets:List Lg
 S:Nat→Int→Prop
structure AInv (N:Nat) (old B:Int) (a:Abs) (L:List Int):Prop where
 inv:Inv N old a.M a.T L a.S
 lv:Lv N a.M a.T a.log
 bd:Bd N B a.M a.T
 rets:∀ r,r∈a.rets→r∈a.log
theorem AInv.read {B:Int} {a:Abs} (h:AInv N old B a L) (hk:k<N) (e:(a.T k).pc=14):(⟨(k:Int),(a.T k).seq,a.M.tld (a.T k).rc⟩:Lg)∈a.log:=by
 have l:=h.inv.loc k hk;have hq:=l.q1 (fun h0=>by have:=l.r4 h0;omega);have h7:=l.q7 (by omega);obtain⟨⟨x1,x2,x3⟩,h1,h2,h3,h4⟩:=h.lv.sv k hk (by omega) (by omega);simp only at h2 h3 h4;rw [← h2,←h3,←h4];exact h1
end
section
variable {N:Nat} {old passes:Int} {M M':AM} {T:Nat→Th} {L L':List Int} {S:Nat→Int→Prop} {k i:Nat} {S0 S1:Int→Prop} {t t' u:Th} {log:List Lg}
inductive WS (N:Nat) (old passes:Int):Abs→Abs→Prop
 | idle {a:Abs}:WS N old passes a a
 | start {a:Abs} {k:Nat} {v:Int}:k<N→(a.T k).pc=0→0<v→WS N old passes a { a with T:=upT a.T k { a.T k with word:=v,seq:=(a.T k).seq+1,pc:=if(a.T k).rc=0 then 1 else 2},S:=upT a.S k (a.S k)}
 | alloc {a:Abs} {k:Nat}:k<N→(a.T k).pc=1→WS N old passes a { a with M:= { a.M with k:=a.M.k+1},T:=upT a.T k { a.T k with rc:=3+5*(a.M.k:Int),pc:=2},S:=upT a.S k (a.S k)}
 | step {a:Abs} {k:Nat} {M':AM} {t':Th} {S1:Int→Prop}:k<N→(a.T k).pc≠1→Step passes old (k:Int) a.M (a.T k) M' t'→((a.T k).pc≠40→S1=a.S k)→((a.T k).pc=40→∀ L,Chain a.M.nxt a.M.head L→∀ x,S1 x→Stale a.M L old x)→
   WS N old passes a { a with M:=M',T:=upT a.T k t',rets:=a.rets++(if (a.T k).pc=14 then [⟨(k:Int),(a.T k).seq,a.M.tld (a.T k).rc⟩] else []),S:=upT a.S k S1}
 | serve {a:Abs} {k:Nat} {b:List Item} {es:List Lg}:k<N→(a.T k).pc=36→b.map (fun x=>(x.rc,x.word))=(a.T k).batch.map (fun x=>(x.rc,x.word))→Done N a.T b es→
   WS N old passes a { a with T:=upT a.T k { a.T k with batch:=b,nth:=0,pc:=37},log:=a.log++es,S:=upT a.S k (a.S k)}
theorem Bd.more {B:Int} (b:Bd N B M T):Bd N (B+1) M T:=by
 obtain⟨b1,b2,b3,b4,b5,b6,b7⟩:=b
 constructor
 ·omega
 ·intro a;have:=b2 a;omega
 all_goals intro i hi
 ·have:=b3 i hi;omega
 ·have:=b4 i hi;omega
 ·have:=b5 i hi;omega
 ·have:=b6 i hi;omega
 ·have:=b7 i hi;omega
theorem AInv.next {B:Int} {a a':Abs} (h:AInv N old B a L) (w:WS N old passes a a'):∃ L',AInv N old (B+1) a' L'∧∀ x,x∈L→0<a.M.req x→x∈L':=by
 obtain⟨inv,lv,bd,rets⟩:=h
 cases w with
 | idle=>exact⟨L,⟨inv,lv,bd.more,rets⟩,fun _ h _=>h⟩
 | @start k v hk e hv=>
  refine⟨L,⟨inv.start hk e hv,lv.start inv hk e,?_,rets⟩,fun _ h _=>h⟩;have b:=bd;have b3:=bd.runs k hk;have b4:=bd.seq k hk;have b5:=bd.own k hk;have b6:=bd.nth k hk;have b7:=bd.len k hk;exact b.stay ⟨bd.pass.1,Int.le_trans bd.pass.2 (by omega)⟩ (fun x=>⟨(bd.age x).1,Int.le_trans (bd.age x).2 (by omega)⟩) (by simp only;omega) (by simp only;omega) (by simp only;omega) (by simp only;omega) (by simp only;omega)
 | @alloc k hk e=>
  refine⟨L,⟨inv.alloc hk e,lv.alloc inv hk e,?_,rets⟩,fun _ h _=>h⟩;have b:=bd;have b3:=bd.runs k hk;have b4:=bd.seq k hk;have b5:=bd.own k hk;have b6:=bd.nth k hk;have b7:=bd.len k hk;exact b.stay ⟨bd.pass.1,Int.le_trans bd.pass.2 (by omega)⟩ (fun x=>⟨(bd.age x).1,Int.le_trans (bd.age x).2 (by omega)⟩) (by simp only;omega) (by simp only;omega) (by simp only;omega) (by simp only;omega) (by simp only;omega)
 | @step k M' t' S1 hk e hs h1 h2=>
  obtain⟨L',hi,hl⟩:=inv.step hk hs h1 (fun h x hx=>h2 h L inv.mem.c1 x hx) e;refine⟨L',⟨hi,lv.step inv hk hs e,bd.step inv hk hs,?_⟩,hl⟩;intro r hr
  rcases List.mem_append.1 hr with hr | hr
  ·exact rets r hr
  ·split at hr
   ·rename_i e14;rw [List.mem_singleton.1 hr];exact AInv.read (B:=B) ⟨inv,lv,bd,rets⟩ hk e14
   ·simp at hr
 | @serve k b es hk e hb hd=>
  refine⟨L,⟨inv.serve hk e hb,lv.serve inv hk e hb hd,?_,fun r hr=>List.mem_append_left _ (rets r hr)⟩,fun _ h _=>h⟩;have b':=bd;have b3:=bd.runs k hk;have b4:=bd.seq k hk;have b5:=bd.own k hk;have b6:=bd.nth k hk;have b7:=bd.len k hk;have hlen:b.length=(a.T k).batch.length:=by simpa using congrArg List.length hb
  exact b'.stay ⟨bd.pass.1,Int.le_trans bd.pass.2 (by omega)⟩ (fun x=>⟨(bd.age x).1,Int.le_trans (bd.age x).2 (by omega)⟩) (by simp only;omega) (by simp only;omega) (by simp only;omega) (by simp only;omega) (by simp only [hlen];omega)
theorem AInv.zero:AInv N old 0 ⟨⟨0,0,0,0,fun _=>0,fun _=>0,fun _=>0,fun _=>0,fun _=>0⟩,fun _=>⟨0,0,0,0,0,0,0,0,0,0,0,[]⟩,[],[],fun _ _=>False⟩ []:=by
 refine⟨⟨fun i _=>?_,?_,?_⟩,?_,?_,fun _ h=>h⟩
 ·constructor<;>simp [cl,cc,lk]
 ·constructor<;>simp [Chain]
 ·constructor<;>simp [isRec,cl,cc]<;>omega
 ·constructor<;>simp [Th.rest]
 ·constructor<;>simp
theorem AInv.swept {B:Int} {a:Abs} (h:AInv N old B a L) (hk:k<N) (e:(a.T k).pc=48):∀ x,a.S k x→a.M.req x≠0:=by
 intro x hx
 rcases(h.inv.loc k hk).z1 (by omega) (by omega) x hx with h | ⟨h,_⟩
 ·exact h
 ·omega
end
end Go.Sf
namespace Go.Proofs.YtadgbhjpgnlmoaaGreat
open Go.RowKit Go.Rp Go.Sf
structure Et where
 kind:Int
 th:Int
 ok:Int
 ov:Int
 bits:Int
def seqTh (T:List Th) (i:Int):Int:=match T[i.toNat]? with | some x=>x.seq | none=>0
theorem seqOf_map (T:List Tr) (i:Int):seqOf T i=seqTh (T.map (·.t)) i:=by
 unfold seqOf seqTh;rw [List.getElem?_map]
 cases T[i.toNat]? <;>rfl
def k4t (ow:List (Int×Value)) (T:List Th) (x:Sf.Item):Int×Int×Int×Int:=(ownerOf ow x.rc,seqTh T (ownerOf ow x.rc),unK x.res,unV x.res)
theorem k4_map (ow:List (Int×Value)) (T:List Tr):k4 ow T=k4t ow (T.map (·.t)):=by
 funext x;unfold k4 k4t;rw [seqOf_map]
inductive DoR (cf:Cf) (size:Int) (e:Et):List Th→Wst→List Th→Wst→Prop
 | other {T s}:e.kind≠1→e.kind≠2→DoR cf size e T s T s
 | nobody {T s}:e.kind=1→¬ (0≤e.th∧e.th<(T.length:Int))→DoR cf size e T s T s
 | busy {T s} {k:Nat} {t:Th}:e.kind=1→e.th=(k:Int)→T[k]? =some t→t.pc≠0→DoR cf size e T s T s
 | begins {T s} {k:Nat} {t:Th}:e.kind=1→e.th=(k:Int)→T[k]? =some t→t.pc=0→DoR cf size e T s (T.set k (begun t (pk e.ok e.ov))) { s with ev:=s.ev++[⟨1,k,t.seq+1,e.ok,e.ov,0,0,s.pk.length⟩]}
 | noone {T s}:e.kind=2→¬ (0≤e.th∧e.th<(T.length:Int))→DoR cf size e T s T { s with pk:=s.pk++[-1]}
 | idle {T s} {k:Nat} {t:Th}:e.kind=2→e.th=(k:Int)→T[k]? =some t→t.pc=0→DoR cf size e T s T { s with pk:=s.pk++[-1]}
 | asks {T s} {k:Nat} {t:Th}:e.kind=2→e.th=(k:Int)→T[k]? =some t→1≤t.pc→t.pc≤16→DoR cf size e T s (T.set k (Sf.asks size k s.m t).2) { asked size k s t with pk:=s.pk++[(k:Int)]}
 | serves {T s} {k:Nat} {t:Th}:e.kind=2→e.th=(k:Int)→T[k]? =some t→20≤t.pc→t.pc≤39→t.pc≠36→DoR cf size e T s (T.set k (Sf.serves cf.ps s.m t).2) { s with m:=(Sf.serves cf.ps s.m t).1,pk:=s.pk++[(k:Int)]}
 | does {T s} {k:Nat} {t:Th} {bs p:List Sf.Item} {es:List Ap} {nb:Int}:e.kind=2→e.th=(k:Int)→T[k]? =some t→t.pc=36→bs.map (fun x=>(x.rc,x.word))=t.batch.map (fun x=>(x.rc,x.word))→p.Perm bs→es.map key4=p.map (k4t s.ow T)→(nb=s.nb∨nb=s.nb+1)→
   DoR cf size e T s (T.set k { t with batch:=bs,nth:=0,pc:=37}) { s with lg:=s.lg++es,nb:=nb,pk:=s.pk++[(k:Int)]}
 | sweeps {T s} {k:Nat} {t:Th}:e.kind=2→e.th=(k:Int)→T[k]? =some t→40≤t.pc→t.pc≤48→DoR cf size e T s (T.set k (Sf.sweeps cf.age s.m t).2) { s with m:=(Sf.sweeps cf.age s.m t).1,pk:=s.pk++[(k:Int)]}
def BatOk (t:Th):Prop:=(t.pc=36→t.batch≠[])∧(37≤t.pc→t.pc≤39→t.batch.drop t.nth.toNat≠[])
def Pos (t:Th):Prop:=(0≤t.cur∧t.cur≤100000)∧(0≤t.prev∧t.prev≤100000)
def lg4 (l:Lg):Int×Int×Int×Int:=(l.th,l.seq,unK l.w,unV l.w)
structure Jn (cf:Cf) (N:Nat) (b:Nat) (T:List Th) (s:Wst) (ab:Abs) (L:List Int):Prop where
 len:T.length=N
 thr:∀ (k:Nat) (t:Th),T[k]? =some t→ab.T k=t
 view:View s.m ab.M
 inv:AInv N cf.age (b:Int) ab L
 own:∀ (k:Nat) (t:Th),T[k]? =some t→t.rc≠0→getL t.rc s.ow=some (Iv (k:Int))
 lg:s.lg.map key4=ab.log.map lg4
 ev:∀ v,v∈s.ev→v.kind=2→∃ r,r∈ab.rets∧lg4 r=(v.th,v.seq,v.rc,v.rv)
 bat:∀ (k:Nat) (t:Th),T[k]? =some t→BatOk t
 pos:∀ (k:Nat) (t:Th),T[k]? =some t→Pos t
 nev:s.ev.length≤b
 npk:s.pk.length≤b
 nlg:s.lg.length≤20*b
 nnb:0≤s.nb∧s.nb≤(b:Int)
theorem nodup_le:∀ {l l':List Int},l.Nodup→(∀ x,x∈l→x∈l')→l.length≤l'.length
 | [],_,_,_=>by simp
 | a::l,l',h,hs=>by
  obtain⟨h1,h2⟩:=List.nodup_cons.1 h;have ha:=hs a List.mem_cons_self
  have:=nodup_le (l':=l'.erase a) h2 fun x hx=>
   (List.mem_erase_of_ne (fun (e:x=a)=>h1 (e▸hx))).2 (hs x (List.mem_cons_of_mem _ hx))
  rw [List.length_erase_of_mem ha] at this;have:=List.length_pos_of_mem ha;simp only [List.length_cons];omega
def recL (k:Nat):List Int:=(List.range k).map fun(i:Nat)=>3+5*(i:Int)
theorem recL_nodup (k:Nat):(recL k).Nodup:=by
 unfold recL List.Nodup;rw [List.pairwise_map];exact List.Pairwise.imp (fun {a b} h e=>h (by omega)) (List.nodup_range (n:=k))
theorem recL_rec {k:Nat} {x:Int}:x∈recL k↔isRec k x:=by
 unfold recL isRec;simp only [List.mem_map,List.mem_range]
 constructor
 ·rintro ⟨i,hi,rfl⟩;omega
 ·rintro ⟨h1,h2,h3⟩;exact⟨((x-3)/5).toNat,by omega,by omega⟩
theorem recs_le {N:Nat} {old:Int} {M:AM} {T:Nat→Th} {L:List Int} {S:Nat→Int→Prop} (h:Inv N old M T L S):M.k≤N:=by
 have:=nodup_le (l:=recL M.k) (l':=(List.range N).map fun i=>(T i).rc) (recL_nodup _) fun x hx=>by
  obtain⟨i,hi,e⟩:=h.glob.r3 x (recL_rec.1 hx);exact List.mem_map.2 ⟨i,List.mem_range.2 hi,e⟩
 simpa [recL] using this
theorem recs_lt {N k:Nat} {old:Int} {M:AM} {T:Nat→Th} {L:List Int} {S:Nat→Int→Prop} (h:Inv N old M T L S) (hk:k<N) (h0:(T k).rc=0):M.k<N:=by
 have hle:=nodup_le (l:=0::recL M.k) (l':=(List.range N).map fun i=>(T i).rc) (List.nodup_cons.2 ⟨fun h=>by have:=recL_rec.1 h;unfold isRec at this;omega,recL_nodup _⟩) fun x hx=>by
  rcases List.mem_cons.1 hx with rfl | hx
  ·exact List.mem_map.2 ⟨k,List.mem_range.2 hk,h0⟩
  ·obtain⟨i,hi,e⟩:=h.glob.r3 x (recL_rec.1 hx);exact List.mem_map.2 ⟨i,List.mem_range.2 hi,e⟩
 simp only [recL,List.length_cons,List.length_map,List.length_range] at hle;omega
theorem Chain.head {f:Int→Int}:∀ {L:List Int} {h:Int},Chain f h L→h=0∨h∈L
 | [],_,c=>.inl c
 | a::l,_,c=>.inr (by rw [c.1];exact List.mem_cons_self)
theorem Chain.next {f:Int→Int}:∀ {L:List Int} {h a:Int},Chain f h L→a∈L→f a=0∨f a∈L
 | [],_,_,_,ha=>by simp at ha
 | x::l,_,a,c,ha=>by
  rcases List.mem_cons.1 ha with rfl | ha
  ·rcases Chain.head c.2.2 with h | h
   ·exact .inl h
   ·exact .inr (List.mem_cons_of_mem _ h)
  ·rcases Chain.next c.2.2 ha with h | h
   ·exact .inl h
   ·exact .inr (List.mem_cons_of_mem _ h)
section
variable {cf:Cf} {N b k:Nat} {T T':List Th} {s s':Wst} {ab ab':Abs} {L L':List Int} {t t':Th} {e:Et} {size:Int}
theorem Jn.lt (h:Jn cf N b T s ab L) (hk:T[k]? =some t):k<N:=by rw [← h.len];exact(List.getElem?_eq_some_iff.1 hk).1
theorem Jn.small (h:Jn cf N b T s ab L) (hN:N≤9) (hb:b≤900000) (hk:T[k]? =some t):Small ab.M t:=by
 have hl:=h.lt hk;have ht:=h.thr k t hk;have l:=h.inv.inv.loc k hl;have hr:=recs_le h.inv.inv;have b1:=h.inv.bd.pass;have b3:=h.inv.bd.runs k hl;have b5:=h.inv.bd.own k hl;have b6:=h.inv.bd.nth k hl;rw [ht] at l b3 b5 b6;exact⟨fun e=>by have:=l.w0' e;omega,by omega,by omega,by omega,fun a=>by have:=h.inv.bd.age a;omega,by omega⟩
theorem thr_set (h:∀ (k:Nat) (t:Th),T[k]? =some t→ab.T k=t) (k:Nat) (t':Th):∀ (j:Nat) (t:Th),(T.set k t')[j]? =some t→upT ab.T k t' j=t:=by
 intro j t hj;rw [List.getElem?_set] at hj
 split at hj
 ·rename_i e;subst e
  split at hj
  ·simp only [Option.some.injEq] at hj;rw [upT_same,hj]
  ·cases hj
 ·rename_i e;unfold upT;rw [if_neg (fun h=>e h.symm)];exact h j t hj
theorem all_set {P:Th→Prop} (h:∀ (k:Nat) (t:Th),T[k]? =some t→P t) (k:Nat) (t':Th) (h':P t'):∀ (j:Nat) (t:Th),(T.set k t')[j]? =some t→P t:=by
 intro j t hj;rw [List.getElem?_set] at hj
 split at hj
 ·split at hj
  ·simp only [Option.some.injEq] at hj;exact hj▸h'
  ·cases hj
 ·exact h j t hj
theorem asks_seq (size id:Int) (m:List Int) (t:Th):(Sf.asks size id m t).2.seq=t.seq:=by
 unfold Sf.asks;simp only [apply_ite Prod.snd,apply_ite Th.seq,ite_self]
theorem serves_rs (ps:Int) (m:List Int) (t:Th):(Sf.serves ps m t).2.rc=t.rc∧(Sf.serves ps m t).2.seq=t.seq:=by
 unfold Sf.serves
 constructor<;>simp only [apply_ite Prod.snd,apply_ite Th.rc,apply_ite Th.seq,Th.on',ite_self]
theorem sweeps_rs (old:Int) (m:List Int) (t:Th):(Sf.sweeps old m t).2.rc=t.rc∧(Sf.sweeps old m t).2.seq=t.seq:=by
 unfold Sf.sweeps
 constructor<;>simp only [apply_ite Prod.snd,apply_ite Th.rc,apply_ite Th.seq,Th.by,ite_self]
theorem Step.bat {ps old id:Int} {M M':AM} (hs:Step ps old id M t M' t') (h:BatOk t) (h0:37≤t.pc→t.pc≤39→0≤t.nth):BatOk t':=by
 unfold BatOk at*
 cases hs
 case free x l e hd=>
  have h1:(t.nth+1).toNat=t.nth.toNat+1:=by have:=h0 (by omega) (by omega);omega
  refine⟨fun hp=>?_,fun h2 h3=>?_⟩
  ·simp only at hp;split at hp<;>first | omega | (split at hp<;>omega)
  ·simp only at h2 h3 ⊢
   have hl:l≠[]:=by
    intro hl;rw [if_neg (by simp [hl])] at h2 h3
    split at h2<;>split at h3<;>omega
   rw [h1,←List.drop_drop,hd];simpa using hl
 case goOn' e c=>
  refine⟨fun hp=>?_,fun h2 h3=>?_⟩
  ·simp only at hp ⊢;split at hp
   ·omega
   ·assumption
  ·simp only at h2 h3;split at h2<;>split at h3<;>omega
 case tell x l e hd=>exact⟨fun hp=>by simp only at hp;omega,fun _ _=>by simp only;rw [hd];simp⟩
 case aged x l e hd=>exact⟨fun hp=>by simp only at hp;omega,fun _ _=>by simp only;rw [hd];simp⟩
 all_goals (simp only [Th.on,Th.by] at *)
 all_goals (refine ⟨fun hp=>?_,fun h2 h3=>?_⟩<;>(exfalso;first | omega | ((repeat' split at *)<;>omega)))
theorem Step.pos {ps old id:Int} {M M':AM} {i:Nat} {S0:Int→Prop} (hs:Step ps old id M t M' t') (l:Sf.Loc old M L i S0 t) (hm:Mm M L) (hk:(M.k:Int)≤1000) (h:Pos t):Pos t':=by
 have hL:∀ x,x=0∨x∈L→0≤x∧x≤100000:=by
  rintro x (rfl | hx)
  ·omega
  ·have:=hm.c2 x hx;unfold isRec at this;omega
 have hh:=hL _ (Chain.head hm.c1);obtain⟨h1,h2⟩:=h;unfold Pos
 cases hs
 case look e c=>have:=l.q5 (by omega) (by omega);exact⟨by simp only;omega,h2⟩
 case look' e c=>have:=l.q5 (by omega) (by omega);exact⟨by simp only [Th.on];omega,h2⟩
 case first' e c=>exact⟨h1,hh⟩
 case scan' e c=>exact⟨hh,h2⟩
 case goOn e c=>exact⟨hL _ (Chain.next hm.c1 (l.s2 e).1),h2⟩
 case sweep' e c=>exact⟨h1,hh⟩
 case step' e c=>exact⟨hL _ (Chain.next hm.c1 (l.w1 (by omega) (by omega))),h2⟩
 all_goals first | exact⟨h1,h2⟩ | exact⟨h1,h1⟩
theorem Jn.go (j:Jn cf N b T s ab L) (hk:T[k]? =some t) (ws:WS N cf.age cf.ps ab ab') (hT:ab'.T=upT ab.T k t') (hv:View s'.m ab'.M)
  (ho:s'.ow=s.ow∧t'.rc=t.rc∨s'.ow=if t'.rc=0 then s.ow else setL t'.rc (Iv (k:Int)) s.ow)
  (hlg:s'.lg.map key4=ab'.log.map lg4) (hev:∀ v,v∈s'.ev→v.kind=2→∃ r,r∈ab'.rets∧lg4 r=(v.th,v.seq,v.rc,v.rv)) (hbat:BatOk t') (hpos:Pos t')
  (hne:s'.ev.length≤b+1) (hnp:s'.pk.length≤b+1) (hnl:s'.lg.length≤20*(b+1)) (hnb:0≤s'.nb∧s'.nb≤(b:Int)+1):
  ∃ L',Jn cf N (b+1) (T.set k t') s' ab' L'∧∀ x,x∈L→0<ab.M.req x→x∈L':=by
 obtain⟨L',ai,kp⟩:=j.inv.next ws;have hl:=j.lt hk;have hth:∀ (i:Nat) (x:Th),(T.set k t')[i]? =some x→ab'.T i=x:=by rw [hT];exact thr_set j.thr k t'
 refine⟨L',⟨by rw [List.length_set];exact j.len,hth,hv,by simpa using ai,?_,hlg,hev,all_set j.bat k t' hbat,all_set j.pos k t' hpos,hne,hnp,hnl,by simpa using hnb⟩,kp⟩;intro i x hi hx;have hi':=hi;rw [List.getElem?_set] at hi;have hil:i<N:=by have:=(List.getElem?_eq_some_iff.1 hi').1;rw [List.length_set,j.len] at this;exact this
 split at hi
 ·rename_i e;subst e
  split at hi
  ·simp only [Option.some.injEq] at hi;subst hi
   rcases ho with ⟨h1,h2⟩ | h1
   ·rw [h1,h2];exact j.own _ _ hk (by rw [← h2];exact hx)
   ·rw [h1,if_neg hx,getL_setL,if_pos rfl]
  ·cases hi
 ·rename_i e
  rcases ho with ⟨h1,h2⟩ | h1
  ·rw [h1];exact j.own _ _ hi hx
  ·rw [h1]
   split
   ·exact j.own _ _ hi hx
   ·rename_i h0;rw [getL_setL,if_neg]
    ·exact j.own _ _ hi hx
    ·intro he;have e1:=hth i x hi';have e2:ab'.T k=t':=by rw [hT,upT_same]
     exact e (ai.inv.glob.r2 i k hil hl (by rw [e1,e2];exact he.symm) (by rw [e1];exact hx)).symm
structure Nx (N:Nat) (age:Int) (e:Et) (ab:Abs) (L:List Int) (ab':Abs) (L':List Int):Prop where
 kept:∀ x,x∈L→0<ab.M.req x→x∈L'
 s0:∀ (i:Nat),¬ (e.kind=2∧e.th=(i:Int)∧(ab.T i).pc=40)→ab'.S i=ab.S i
 s1:∀ (i:Nat),i<N→e.kind=2→e.th=(i:Int)→(ab.T i).pc=40→∀ x,Stale ab'.M L' age x→ab'.S i x
 un:ab.M.lock≠0→ab'.M.lock=0→∃ k,k<N∧e.kind=2∧e.th=(k:Int)∧(ab.T k).pc=48∧ab'.M.req=ab.M.req
 sw:∀ (i:Nat),i<N→41≤(ab'.T i).pc→(ab'.T i).pc≤48→(ab'.T i).pc=(ab.T i).pc∨(e.kind=2∧e.th=(i:Int)∧40≤(ab.T i).pc∧(ab.T i).pc≤48)
end
section
variable {cf:Cf} {N b k:Nat} {T T':List Th} {s s':Wst} {ab ab':Abs} {L L':List Int} {t t':Th} {e:Et} {size:Int}
theorem upT_id {α:Type} (T:Nat→α) (k:Nat):upT T k (T k)=T:=by
 funext i;unfold upT;split
 ·rename_i h;rw [h]
 ·rfl
theorem Jn.same (j:Jn cf N b T s ab L) (h1:s'.m=s.m) (h2:s'.ow=s.ow) (h3:s'.ev=s.ev) (h4:s'.lg=s.lg) (h5:s'.nb=s.nb) (h6:s'.pk.length≤b+1):Jn cf N (b+1) T s' ab L:=by
 obtain⟨j1,j2,j3,⟨i1,i2,i3,i4⟩,j5,j6,j7,j8,j9,j10,j11,j12,j13⟩:=j;refine⟨j1,j2,by rw [h1];exact j3,⟨i1,i2,by simpa using i3.more,i4⟩,by rw [h2];exact j5,by rw [h4];exact j6,by rw [h3];exact j7,j8,j9,by rw [h3];omega,h6,by rw [h4];omega,by rw [h5];omega⟩
theorem Nx.same (h:∀ (i:Nat),i<N→e.kind=2→e.th=(i:Int)→(ab.T i).pc≠40):Nx N cf.age e ab L ab L:=
 ⟨fun _ h _=>h,fun _ _=>rfl,fun i hi h1 h2 h3=>absurd h3 (h i hi h1 h2),fun h0 h1=>absurd h1 h0,fun _ _ _ _=>.inl rfl⟩
theorem Step.sw {ps old id:Int} {M M':AM} (hs:Step ps old id M t M' t') (h1:41≤t'.pc) (h2:t'.pc≤48):40≤t.pc∧t.pc≤48:=by
 cases hs
 all_goals (simp only [Th.on,Th.by] at h1 h2)
 all_goals first | omega | (exfalso;(repeat' split at *)<;>omega)
theorem Jn.loc (j:Jn cf N b T s ab L) (hk:T[k]? =some t):Sf.Loc cf.age ab.M L k (ab.S k) t:=by
 have:=j.inv.inv.loc k (j.lt hk);rw [j.thr k t hk] at this;exact this
theorem Jn.step (j:Jn cf N b T s ab L) (hk:T[k]? =some t) (hN:N≤9) {M':AM} (hs:Step cf.ps cf.age (k:Int) ab.M t M' t') (h1:t.pc≠1) (hkd:e.kind=2) (hth:e.th=(k:Int)) (hv:View s'.m M')
  (ho:s'.ow=s.ow∧t'.rc=t.rc∨s'.ow=if t'.rc=0 then s.ow else setL t'.rc (Iv (k:Int)) s.ow)
  (hlg:s'.lg=s.lg) (hev:∀ v,v∈s'.ev→v.kind=2→v∈s.ev∨t.pc=14∧(v.th,v.seq,v.rc,v.rv)=((k:Int),t.seq,unK (ab.M.tld t.rc),unV (ab.M.tld t.rc)))
  (hne:s'.ev.length≤b+1) (hnp:s'.pk.length≤b+1) (hnb:s'.nb=s.nb):
  ∃ ab' L',Jn cf N (b+1) (T.set k t') s' ab' L'∧Nx N cf.age e ab L ab' L':=by
 have hl:=j.lt hk;have ht:=j.thr k t hk;have l:=j.loc hk;have hm:=j.inv.inv.mem;have hr:=recs_le j.inv.inv;have hs0:Step cf.ps cf.age (k:Int) ab.M (ab.T k) M' t':=by rw [ht];exact hs
 have ws:=WS.step (N:=N) (S1:=if t.pc=40 then(Stale ab.M L cf.age) else ab.S k) hl (by rw [ht];exact h1) hs0 (fun h=>by rw [ht] at h;rw [if_neg h]) (fun h L2 hc x hx=>by
  rw [ht] at h;rw [if_pos h] at hx;rw [Chain.uniq hc hm.c1];exact hx)
 obtain⟨L',jn,kp⟩:=j.go (s':=s') (t':=t') hk ws rfl hv ho (by rw [hlg];exact j.lg) (fun v hv hk2=>by
  rcases hev v hv hk2 with h | ⟨h1,h2⟩
  ·obtain⟨r,hr1,hr2⟩:=j.ev v h hk2;exact⟨r,List.mem_append_left _ hr1,hr2⟩
  ·refine⟨_,List.mem_append_right _ (by rw [ht,if_pos h1];exact List.mem_singleton_self _),?_⟩;rw [h2];rfl) (Step.bat hs (j.bat k t hk) (fun h1 h2=>l.s7 h1 h2)) (Step.pos hs l hm (by omega) (j.pos k t hk)) hne hnp (by rw [hlg];have:=j.nlg;omega) (by rw [hnb];have:=j.nnb;omega)
 refine⟨_,L',jn,kp,?_,?_,?_,?_⟩
 ·intro i hi;show upT ab.S k _ i=ab.S i;unfold upT
  split
  ·rename_i e';subst e';rw [if_neg];intro h;exact hi ⟨hkd,hth,by rw [ht];exact h⟩
  ·rfl
 ·intro i hi _ hth' h40 x hx;have:i=k:=by omega
  subst this;show upT ab.S i _ i x;rw [upT_same,if_pos (by rw [← ht];exact h40)];rw [ht] at h40;have hMM:M'=ab.M:=by cases hs<;>first | rfl | omega
  subst hMM;have hLL:L'=L:=Chain.uniq jn.inv.inv.mem.c1 hm.c1;rw [hLL] at hx;exact hx
 ·intro h0 h1';have h48:=Step.unlock hs h0 h1';refine⟨k,hl,hkd,hth,by rw [ht];exact h48,?_⟩;show M'.req=ab.M.req
  cases hs<;>first | rfl | omega
 ·intro i hi ha hb
  by_cases ei:i=k
  ·subst ei;have ha':41≤(upT ab.T i t' i).pc:=ha;have hb':(upT ab.T i t' i).pc≤48:=hb;rw [upT_same] at ha' hb';rw [ht];exact .inr ⟨hkd,hth,Step.sw hs ha' hb'⟩
  ·left
   show(upT ab.T k t' i).pc=_;rw [upT_ne ei]
theorem Nx.plain (hS:ab'.S=ab.S) (hM:ab'.M.lock=ab.M.lock) (kp:∀ x,x∈L→0<ab.M.req x→x∈L') (hT:ab'.T=upT ab.T k t') (h40:(ab.T k).pc≠40) (hth:e.th=(k:Int)) (hp:t'.pc≤40):Nx N cf.age e ab L ab' L':=by
 refine⟨kp,fun _ _=>by rw [hS],?_,fun h0 h1=>absurd (hM▸h1) h0,?_⟩
 ·intro i _ _ hth' h;have:i=k:=by omega
  subst this;exact absurd h h40
 ·intro i hi h1 h2
  by_cases ei:i=k
  ·subst ei;rw [hT,upT_same] at h1;omega
  ·left;rw [hT,upT_ne ei]
theorem Jn.begins (j:Jn cf N b T s ab L) (hth:e.th=(k:Int)) (hk:T[k]? =some t) (h0:t.pc=0) {v:Int} (hv:0<v) {ev:Ev} (hev:ev.kind=1):∃ ab' L',Jn cf N (b+1) (T.set k (begun t v)) { s with ev:=s.ev++[ev]} ab' L'∧Nx N cf.age e ab L ab' L':=by
 have hl:=j.lt hk;have ht:=j.thr k t hk;have ws:=WS.start (N:=N) (old:=cf.age) (passes:=cf.ps) (a:=ab) hl (by rw [ht];exact h0) hv;have hT:upT ab.T k { ab.T k with word:=v,seq:=(ab.T k).seq+1,pc:=if(ab.T k).rc=0 then 1 else 2}=upT ab.T k (begun t v):=by rw [ht];rfl
 have hpc:(begun t v).pc≤2:=by unfold begun;simp only;split<;>omega
 obtain⟨L',jn,kp⟩:=j.go (s':= { s with ev:=s.ev++[ev]}) (t':=begun t v) hk ws hT j.view (.inl ⟨rfl,rfl⟩) j.lg (fun v' hv' hk2=>by
  rcases List.mem_append.1 hv' with h | h
  ·exact j.ev v' h hk2
  ·rw [List.mem_singleton.1 h] at hk2;omega) ⟨fun h=>by omega,fun h=>by omega⟩ (j.pos k t hk) (by have:=j.nev;simp;omega) (by have:=j.npk;simp only;omega) (by have:=j.nlg;simp only;omega) (by have:=j.nnb;simp only;omega)
 exact⟨_,L',jn,Nx.plain (upT_id _ _) rfl kp hT (by rw [ht];omega) hth (by omega)⟩
theorem Jn.alloc (j:Jn cf N b T s ab L) (hth:e.th=(k:Int)) (hk:T[k]? =some t) (h1:t.pc=1) (hsz:size=3+5*(N:Int)) (hp:s.pk.length+1≤b+1):∃ ab' L',Jn cf N (b+1) (T.set k (Sf.asks size k s.m t).2) { asked size k s t with pk:=s.pk++[(k:Int)]} ab' L'∧Nx N cf.age e ab L ab' L':=by
 have hl:=j.lt hk;have ht:=j.thr k t hk;have l:=j.loc hk;have hlt:=recs_lt j.inv.inv hl (by rw [ht];exact l.r5 h1);have hlen:=j.view.len
 have ha:Sf.asks size k s.m t=(s.m++[0,0,0,0,0],{ t with rc:=s.m.length,pc:=2}):=by
  unfold Sf.asks;rw [if_pos h1,if_pos (by omega)]
 have ws:=WS.alloc (N:=N) (old:=cf.age) (passes:=cf.ps) (a:=ab) hl (by rw [ht];exact h1);have hT:upT ab.T k { ab.T k with rc:=3+5*(ab.M.k:Int),pc:=2}=upT ab.T k { t with rc:=s.m.length,pc:=2}:=by rw [ht,hlen]
 unfold asked;simp only [ha];rw [if_neg (show ¬ t.pc=14 by omega)];obtain⟨L',jn,kp⟩:=j.go (s':= { s with m:=s.m++[0,0,0,0,0],ow:=if(s.m.length:Int)=0 then s.ow else setL (s.m.length:Int) (Iv (k:Int)) s.ow,pk:=s.pk++[(k:Int)]}) (t':= { t with rc:=s.m.length,pc:=2}) hk ws hT (j.view.more j.inv.inv.mem.v0) (.inr rfl) j.lg j.ev ⟨fun h=>by simp at h,fun h=>by simp at h⟩ (j.pos k t hk) (by have:=j.nev;simp only;omega) (by simp;omega) (by have:=j.nlg;simp only;omega) (by have:=j.nnb;simp only;omega);exact⟨_,L',jn,Nx.plain (upT_id _ _) rfl kp hT (by rw [ht];omega) hth (by simp)⟩
theorem Jn.does (j:Jn cf N b T s ab L) (hN:N≤9) (hth:e.th=(k:Int)) (hk:T[k]? =some t) (h36:t.pc=36) {bs p:List Sf.Item} {es:List Ap} {nb:Int} (hb:bs.map (fun x=>(x.rc,x.word))=t.batch.map (fun x=>(x.rc,x.word))) (hp:p.Perm bs) (he:es.map key4=p.map (k4t s.ow T)) (hnb:nb=s.nb∨nb=s.nb+1):
  ∃ ab' L',Jn cf N (b+1) (T.set k { t with batch:=bs,nth:=0,pc:=37}) { s with lg:=s.lg++es,nb:=nb,pk:=s.pk++[(k:Int)]} ab' L'∧Nx N cf.age e ab L ab' L':=by
 have hl:=j.lt hk;have ht:=j.thr k t hk;have l:=j.loc hk
 have hrc:bs.map (fun x=>x.rc)=t.batch.map (fun x=>x.rc):=by
  have:=congrArg (fun z=>z.map Prod.fst) hb
  simpa [List.map_map,Function.comp_def] using this
 have hnd:(p.map fun x=>x.rc).Nodup:=by
  refine(hp.map _).nodup_iff.2 ?_;rw [hrc];exact l.s3 (by omega) (by omega)
 have hown:∀ x,x∈bs→∃ (i:Nat),i<N∧(ab.T i).rc=x.rc∧ownerOf s.ow x.rc=(i:Int)∧seqTh T (i:Int)=(ab.T i).seq:=by
  intro x hx;have hx':x.rc∈t.batch.map fun x=>x.rc:=by rw [← hrc];exact List.mem_map.2 ⟨x,hx,rfl⟩
  obtain⟨y,hy,hyr⟩:=List.mem_map.1 hx';have hrec:=(l.s4 (by omega) (by omega) y hy).1;obtain⟨i,hi,hir⟩:=j.inv.inv.glob.r3 _ hrec
  have hT:T[i]? =some (ab.T i):=by
   have hil:i<T.length:=by rw [j.len];exact hi
   rw [List.getElem?_eq_getElem hil,j.thr i _ (List.getElem?_eq_getElem hil)]
  refine⟨i,hi,by rw [hir,hyr],?_,?_⟩
  ·unfold ownerOf;have:=j.own i _ hT (by rw [hir];unfold isRec at hrec;omega);rw [hir,hyr] at this;rw [this]
  ·unfold seqTh;rw [Int.toNat_natCast,hT]
 have hlen:bs.length=t.batch.length:=by simpa using congrArg List.length hb
 have hbl:bs.length≤9:=by
  have h1:=nodup_le (l:=t.batch.map fun x=>x.rc) (l':=recL ab.M.k) (l.s3 (by omega) (by omega)) fun x hx=>by
   obtain⟨y,hy,rfl⟩:=List.mem_map.1 hx;exact recL_rec.2 (l.s4 (by omega) (by omega) y hy).1
  have h2:=recs_le j.inv.inv;simp [recL] at h1;omega
 have hel:es.length≤9:=by
  have:=congrArg List.length he;simp at this;rw [this,hp.length_eq];exact hbl
 have hd:Done N ab.T bs (p.map fun x=>⟨ownerOf s.ow x.rc,seqTh T (ownerOf s.ow x.rc),x.res⟩):=by
  refine⟨?_,?_,?_⟩
  ·rw [List.pairwise_map];unfold List.Nodup at hnd;rw [List.pairwise_map] at hnd;refine List.Pairwise.imp_of_mem (fun {x y} hx hy hxy h=>hxy ?_) hnd;obtain⟨i,hi,h1,h2,_⟩:=hown x (hp.mem_iff.1 hx);obtain⟨i',hi',h1',h2',_⟩:=hown y (hp.mem_iff.1 hy);have hii:i=i':=by have:=h.1;simp only at this;omega
   rw [← h1,←h1',hii]
  ·intro g hg;obtain⟨x,hx,rfl⟩:=List.mem_map.1 hg;obtain⟨i,hi,h1,h2,h3⟩:=hown x (hp.mem_iff.1 hx);exact⟨x,i,hp.mem_iff.1 hx,hi,h1,h2,by simp only [h2,h3],rfl⟩
  ·intro x i hx hi hxr;obtain⟨i',hi',h1,h2,h3⟩:=hown x hx
   have hrec:isRec ab.M.k x.rc:=by
    have hx':x.rc∈t.batch.map fun x=>x.rc:=by rw [← hrc];exact List.mem_map.2 ⟨x,hx,rfl⟩
    obtain⟨y,hy,hyr⟩:=List.mem_map.1 hx';rw [← hyr];exact(l.s4 (by omega) (by omega) y hy).1
   have hii:i'=i:=j.inv.inv.glob.r2 i' i hi' hi (by rw [h1,hxr]) (by rw [h1];unfold isRec at hrec;omega);subst hii;exact⟨_,List.mem_map.2 ⟨x,hp.mem_iff.2 hx,rfl⟩,h2,by simp only [h2,h3],rfl⟩
 have ws:=WS.serve (old:=cf.age) (passes:=cf.ps) (a:=ab) hl (by rw [ht];exact h36) (by rw [ht];exact hb) hd;have hT:upT ab.T k { ab.T k with batch:=bs,nth:=0,pc:=37}=upT ab.T k { t with batch:=bs,nth:=0,pc:=37}:=by rw [ht]
 have hbat:=(j.bat k t hk).1 h36
 obtain⟨L',jn,kp⟩:=j.go (s':= { s with lg:=s.lg++es,nb:=nb,pk:=s.pk++[(k:Int)]}) (t':= { t with batch:=bs,nth:=0,pc:=37}) hk ws hT j.view (.inl ⟨rfl,rfl⟩) (by
  simp only [List.map_append,j.lg,he,List.map_map]
  rfl) j.ev ⟨fun h=>by simp at h,fun _ _=>by
   simp only [Int.toNat_zero,List.drop_zero];intro h;rw [h] at hlen;exact hbat (List.length_eq_zero_iff.1 hlen.symm)⟩ (j.pos k t hk) (by have:=j.nev;simp only;omega) (by have:=j.npk;simp;omega) (by have:=j.nlg;simp only [List.length_append];omega) (by have:=j.nnb;simp only;omega)
 exact⟨_,L',jn,Nx.plain (upT_id _ _) rfl kp hT (by rw [ht];omega) hth (by simp)⟩
end
end Go.Proofs.YtadgbhjpgnlmoaaGreat
