/- TopSafe, a part of its proof; no conditions. -/
import Derived.Test.YtadgbhjpgnlmoaaGreatPk48
set_option linter.all false
namespace Go.Proofs.YtadgbhjpgnlmoaaGreat
open Go.RowKit Go.Rp Go.Sf
structure Kst where
 m:List Int
 T:List Th
 ev:List (Int×Int×Int×Int)
 pk:Nat
 nl:Nat
def resd (o:Nat→Int):Nat→List Sf.Item→List Sf.Item
 | _,[]=>[]
 | i,x::l=> { x with res:=o i}::resd o (i+1) l
theorem resd_of:∀ (bs l:List Sf.Item) (i:Nat) (o:Nat→Int),bs.map (fun x=>(x.rc,x.word))=l.map (fun x=>(x.rc,x.word))→(∀ (j:Nat) (x:Sf.Item),bs[j]? =some x→o (i+j)=x.res)→resd o i l=bs
 | [],[],_,_,_,_=>rfl
 | [],_::_,_,_,h,_=>by simp at h
 | _::_,[],_,_,h,_=>by simp at h
 | b::bs,a::l,i,o,h,ho=>by
  simp only [List.map_cons,List.cons.injEq,Prod.mk.injEq] at h;have h0:=ho 0 b rfl;rw [Nat.add_zero] at h0;have ih:=resd_of bs l (i+1) o h.2 fun j x hx=>by rw [Nat.add_assoc,Nat.add_comm 1];exact ho (j+1) x (by simpa using hx)
  unfold resd;rw [ih,h0,←h.1.1,←h.1.2]
def kst (size ps old:Int) (o:Nat→Int) (w:Kst) (e:Et):Kst:=
 if e.kind=1 then
  (
   if e.th<0∨(w.T.length:Int)≤e.th then w else
   let t:=w.T.getD e.th.toNat zeroT
   if t.pc=0 then { w with T:=w.T.set e.th.toNat (begun t (pk e.ok e.ov)),ev:=w.ev++[(1,e.th,t.seq+1,(w.pk:Int))]} else w)
 else if e.kind=2 then
  (
   if e.th<0∨(w.T.length:Int)≤e.th then { w with pk:=w.pk+1} else
   let t:=w.T.getD e.th.toNat zeroT
   if t.pc=0 then { w with pk:=w.pk+1}
   else if t.pc≤16 then
    let r:=Sf.asks size e.th w.m t
    ⟨r.1,w.T.set e.th.toNat r.2,if t.pc=14 then w.ev++[(2,e.th,t.seq,(w.pk:Int))] else w.ev,w.pk+1,w.nl⟩
   else if t.pc=36 then
    { w with T:=w.T.set e.th.toNat { t with batch:=resd o 0 t.batch,nth:=0,pc:=37},pk:=w.pk+1,nl:=w.nl+t.batch.length}
   else if t.pc≤39 then
    let r:=Sf.serves ps w.m t
    { w with m:=r.1,T:=w.T.set e.th.toNat r.2,pk:=w.pk+1}
   else
    let r:=Sf.sweeps old w.m t
    { w with m:=r.1,T:=w.T.set e.th.toNat r.2,pk:=w.pk+1})
 else w
def ev4 (v:Ev):Int×Int×Int×Int:=(v.kind,v.th,v.seq,v.at_)
structure KR (w:Kst) (T:List Th) (s:Wst):Prop where
 m:w.m=s.m
 T:w.T=T
 ev:w.ev=s.ev.map ev4
 pk:w.pk=s.pk.length
 nl:w.nl=s.lg.length
inductive Does (cf:Cf) (size:Int) (T0:List Th) (s0:Wst):List Et→List Th→Wst→Prop
 | nil:Does cf size T0 s0 [] T0 s0
 | snoc {es T s e T' s'}:Does cf size T0 s0 es T s→DoR cf size e T s T' s'→Does cf size T0 s0 (es++[e]) T' s'
section
variable {n:Nat} {cf:Cf} {T T' T0:List Th} {s s' s0:Wst} {e:Et} {size:Int} {w:Kst} {es:List Et}
theorem at_th {k:Nat} {t:Th} {z:Int} (h:z=(k:Int)) (hk:T[k]? =some t):¬ (z<0∨(T.length:Int)≤z)∧z.toNat=k∧T.getD k zeroT=t:=by
 have:=(List.getElem?_eq_some_iff.1 hk).1;refine⟨by omega,by omega,by rw [List.getD_eq_getElem?_getD,hk];rfl⟩
theorem KR.next (r:KR w T s) (hd:DoR cf size e T s T' s'):∃ o,KR (kst size cf.ps cf.age o w e) T' s':=by
 obtain⟨m,T1,ev,p,nl⟩:=w;obtain⟨r1,r2,r3,r4,r5⟩:=r;simp only at r1 r2 r3 r4 r5;subst r1 r2 r3 r4 r5
 cases hd with
 | other h1 h2=>exact⟨fun _=>0,by unfold kst;rw [if_neg h1,if_neg h2];exact⟨rfl,rfl,rfl,rfl,rfl⟩⟩
 | nobody h1 h2=>exact⟨fun _=>0,by unfold kst;rw [if_pos h1,if_pos (by simp only;omega)];exact⟨rfl,rfl,rfl,rfl,rfl⟩⟩
 | busy h1 h2 h3 h4=>
  obtain⟨a1,a2,a3⟩:=at_th h2 h3;exact⟨fun _=>0,by unfold kst;simp only [h1,if_true,if_neg a1,a2,a3,if_neg h4];exact⟨rfl,rfl,rfl,rfl,rfl⟩⟩
 | begins h1 h2 h3 h4=>
  obtain⟨a1,a2,a3⟩:=at_th h2 h3;exact⟨fun _=>0,by unfold kst;simp only [h1,if_true,if_neg a1,a2,a3,if_pos h4];exact⟨rfl,rfl,by simp [ev4,h2],rfl,rfl⟩⟩
 | noone h1 h2=>exact⟨fun _=>0,by unfold kst;rw [if_neg (by omega),if_pos h1,if_pos (by simp only;omega)];exact⟨rfl,rfl,rfl,by simp,rfl⟩⟩
 | idle h1 h2 h3 h4=>
  obtain⟨a1,a2,a3⟩:=at_th h2 h3;have h0:¬ e.kind=1:=by omega
  exact⟨fun _=>0,by unfold kst;simp only [if_neg h0,if_pos h1,if_neg a1,a2,a3,if_pos h4];exact⟨rfl,rfl,rfl,by simp,rfl⟩⟩
 | @asks k t h1 h2 h3 h4 h5=>
  obtain⟨a1,a2,a3⟩:=at_th h2 h3;have h0:¬ e.kind=1:=by omega
  have h6:¬ t.pc=0:=by omega
  refine⟨fun _=>0,by
   unfold kst;simp only [if_neg h0,if_pos h1,if_neg a1,a2,a3,if_neg h6,if_pos h5];refine⟨by rw [h2];rfl,by rw [h2],?_,by simp,rfl⟩;simp only [asked]
   split
   ·simp only [List.map_append,List.map_cons,List.map_nil,ev4,h2,asks_seq]
   ·rfl⟩
 | @serves k t h1 h2 h3 h4 h5 h6=>
  obtain⟨a1,a2,a3⟩:=at_th h2 h3;have h0:¬ e.kind=1:=by omega
  have h7:¬ t.pc=0:=by omega
  have h8:¬ t.pc≤16:=by omega
  exact⟨fun _=>0,by
   unfold kst;simp only [if_neg h0,if_pos h1,if_neg a1,a2,a3,if_neg h7,if_neg h8,if_neg h6,if_pos h5];exact⟨rfl,rfl,rfl,by simp,rfl⟩⟩
 | @does k t bs p es nb h1 h2 h3 h4 h5 h6 h7 h8=>
  obtain⟨a1,a2,a3⟩:=at_th h2 h3;have h0:¬ e.kind=1:=by omega
  have h9:¬ t.pc=0:=by omega
  have h10:¬ t.pc≤16:=by omega
  have hr:=resd_of bs t.batch 0 (fun i=>match bs[i]? with | some x=>x.res | none=>0) h5 fun j x hx=>by rw [Nat.zero_add,hx]
  refine⟨fun i=>match bs[i]? with | some x=>x.res | none=>0,by
   unfold kst;simp only [if_neg h0,if_pos h1,if_neg a1,a2,a3,if_neg h9,if_neg h10,if_pos h4,hr];refine⟨rfl,rfl,rfl,by simp,?_⟩;have e1:es.length=p.length:=by simpa using congrArg List.length h7
   have e2:bs.length=t.batch.length:=by simpa using congrArg List.length h5
   simp only [List.length_append];rw [e1,h6.length_eq,e2]⟩
 | @sweeps k t h1 h2 h3 h4 h5=>
  obtain⟨a1,a2,a3⟩:=at_th h2 h3;have h0:¬ e.kind=1:=by omega
  have h7:¬ t.pc=0:=by omega
  have h8:¬ t.pc≤16:=by omega
  have h9:¬ t.pc=36:=by omega
  have h10:¬ t.pc≤39:=by omega
  exact⟨fun _=>0,by
   unfold kst;simp only [if_neg h0,if_pos h1,if_neg a1,a2,a3,if_neg h7,if_neg h8,if_neg h9,if_neg h10];exact⟨rfl,rfl,rfl,by simp,rfl⟩⟩
abbrev Orc:=Nat→Int
def runK (size ps old:Int) (z:List (Et×Orc)) (w:Kst):Kst:=z.foldl (fun w x=>kst size ps old x.2 w x.1) w
theorem Does.run (h:Does cf size T0 s0 es T s) (r:KR w T0 s0):∃ z:List (Et×Orc),z.map (·.1)=es∧KR (runK size cf.ps cf.age z w) T s:=by
 induction h with
 | nil=>exact⟨[],rfl,r⟩
 | @snoc es T s e T' s' _ hd ih=>
  obtain⟨z,hz,hr⟩:=ih;obtain⟨o,ho⟩:=hr.next hd;exact⟨z++[(e,o)],by simp [hz],by unfold runK at *;rw [List.foldl_append];exact ho⟩
theorem Does.one (h:Does cf size T0 s0 (es.take n) T s) (hx:es[n]? =some e) (hd:DoR cf size e T s T' s'):Does cf size T0 s0 (es.take (n+1)) T' s':=by
 rw [List.take_add_one,hx];exact h.snoc hd
end
def knownEs:List Et:=[⟨1,0,1,7,0⟩,⟨1,1,2,0,0⟩]++rds 2 120
def knownO (f:Nat→Orc):List (Et×Orc):=knownEs.zipIdx.map fun x=>(x.1,f x.2)
theorem knownO_of {z:List (Et×Orc)} (h:z.map (·.1)=knownEs):z=knownO fun i=>match z[i]? with | some x=>x.2 | none=>fun _=>0:=by
 unfold knownO;rw [← h];apply List.ext_getElem?;intro i;rw [List.getElem?_map,List.getElem?_zipIdx,List.getElem?_map]
 rcases hz:z[i]? with _ | x
 ·rfl
 ·simp [hz]
theorem known_run (f:Nat→Orc):(fun w:Kst=>(w.ev,w.nl)) (runK 13 1 1 (knownO f) ⟨[0,0,0],List.replicate 2 zeroT,[],0,0⟩)=([(1,0,1,0),(1,1,1,0),(2,1,1,75),(2,0,1,86)],2):=by kernel_rfl
theorem known_end {cf:Cf} {T:List Th} {s:Wst} (hp:cf.ps=1) (ha:cf.age=1) (h:Does cf 13 (List.replicate 2 zeroT) ⟨[0,0,0],[],[],[],[],0⟩ knownEs T s):
  s.ev.map ev4=[(1,0,1,0),(1,1,1,0),(2,1,1,75),(2,0,1,86)]∧s.lg.length=2:=by
 obtain⟨z,hz,hr⟩:=h.run (w:=⟨[0,0,0],List.replicate 2 zeroT,[],0,0⟩) ⟨rfl,rfl,rfl,rfl,rfl⟩;rw [hp,ha,knownO_of hz] at hr;have hk:=known_run fun i=>match z[i]? with | some x=>x.2 | none=>fun _=>0
 simp only [Prod.mk.injEq] at hk;exact⟨hr.ev.symm.trans hk.1,hr.nl.symm.trans hk.2⟩
structure Spn where
 th:Int
 seq:Int
 ok:Int
 ov:Int
 rc:Int
 rv:Int
 fr:Int
 tw:Int
abbrev spIn (x:Spn):List Value:=[Iv x.th,Iv x.seq,Ub x.ok,Iw x.ov,Ub x.rc,Iw x.rv,Iv x.fr,Iv x.tw]
def mch (e x:Ev):Bool:=x.kind==2&&(x.th==e.th&&x.seq==e.seq)
def spn0 (e:Ev):Spn:=⟨e.th,e.seq,e.ok,e.ov,0,0,e.at_,-1⟩
def spn1 (e x:Ev):Spn:=⟨e.th,e.seq,e.ok,e.ov,x.rc,x.rv,e.at_,x.at_⟩
def spnOf (e:Ev) (l:List Ev):Spn:=match l.find? (mch e) with | none=>spn0 e | some x=>spn1 e x
def spansTo (l:List Ev):Nat→List Spn
 | 0=>[]
 | k+1=>spansTo l k++(match l[k]? with | some e=>if e.kind=1 then [spnOf e (l.drop k)] else [] | none=>[])
theorem spansTo_len (l:List Ev) (k:Nat):(spansTo l k).length≤k:=by
 induction k with
 | zero=>simp [spansTo]
 | succ k ih=>
  simp only [spansTo,List.length_append]
  split
  ·split<;>simp<;>omega
  ·simp;omega
theorem spansTo_mem {l:List Ev} {s:Spn}:∀ {k:Nat},s∈spansTo l k→∃ i e,l[i]? =some e∧s=spnOf e (l.drop i)
 | 0,h=>by simp [spansTo] at h
 | k+1,h=>by
  simp only [spansTo,List.mem_append] at h
  rcases h with h | h
  ·exact spansTo_mem h
  ·rcases hk:l[k]? with _ | e
   ·rw [hk] at h;simp at h
   ·rw [hk] at h;simp only at h
    split at h
    ·rw [List.mem_singleton.1 h];exact⟨k,e,hk,rfl⟩
    ·simp at h
theorem spans_told {l:List Ev} {s:Spn} {k:Nat} (h:s∈spansTo l k) (h0:0≤s.tw):∃ v∈l,v.kind=2∧v.th=s.th∧v.seq=s.seq:=by
 obtain⟨i,e,_,rfl⟩:=spansTo_mem h;unfold spnOf at h0 ⊢
 rcases hf:(l.drop i).find? (mch e) with _ | x
 ·rw [hf] at h0;simp [spn0] at h0
 ·rw [hf] at h0;have h1:=List.mem_of_find?_eq_some hf;have h2:=List.find?_some hf;simp only [mch,Bool.and_eq_true,beq_iff_eq] at h2;exact⟨x,List.mem_of_mem_drop h1,h2.1,h2.2.1,h2.2.2⟩
def IdxOf (p:Ev→Bool) (xs:List Ev) (r:Int):Prop:=(r= -1∧∀ x∈xs,p x=false)∨(∃ k:Nat,r=(k:Int)∧∃ x,xs[k]? =some x∧p x=true∧∀ (j:Nat) (y:Ev),j<k→xs[j]? =some y→p y=false)
theorem find_none {p:Ev→Bool} {xs:List Ev} (h:∀ x∈xs,p x=false):xs.find? p=none:=by
 rw [List.find?_eq_none];intro x hx;simp [h x hx]
theorem find_at {p:Ev→Bool}:∀ {xs:List Ev} {k:Nat} {x:Ev},xs[k]? =some x→p x=true→(∀ (j:Nat) (y:Ev),j<k→xs[j]? =some y→p y=false)→xs.find? p=some x
 | [],_,_,h,_,_=>by simp at h
 | a::l,0,x,h,hp,_=>by
  simp only [List.getElem?_cons_zero,Option.some.injEq] at h;subst h;simp [hp]
 | a::l,k+1,x,h,hp,hb=>by
  have ha:=hb 0 a (by omega) rfl;rw [List.find?_cons_of_neg (by simp [ha])];exact find_at (by simpa using h) hp fun j y hj hy=>hb (j+1) y (by omega) (by simpa using hy)
theorem sp_snoc (l:List Spn) (x:Spn):(l++[x]).flatMap spIn=l.flatMap spIn++spIn x:=by simp [List.flatMap_append]
theorem known_spans {l:List Ev} (h:l.map ev4=[(1,0,1,0),(1,1,1,0),(2,1,1,75),(2,0,1,86)]):l.length=4∧∃ a b,spansTo l 4=[a,b]∧a.tw=86∧b.tw=75:=by
 have hl:l.length=4:=by simpa using congrArg List.length h
 match l,hl with
 | [v0,v1,v2,v3],_=>
  simp only [List.map_cons,List.map_nil,ev4,List.cons.injEq,Prod.mk.injEq,and_true] at h;obtain⟨⟨a1,a2,a3,a4⟩,⟨b1,b2,b3,b4⟩,⟨c1,c2,c3,c4⟩,⟨d1,d2,d3,d4⟩⟩:=h;refine⟨rfl,spn1 v0 v3,spn1 v1 v2,?_,d4,c4⟩;simp [spansTo,spnOf,mch,a1,a2,a3,b1,b2,b3,c1,c2,c3,d1,d2,d3]
set_option maxRecDepth 100000
abbrev evc (x:Ev):Array Value:=#[Ub x.kind,Iv x.th,Iv x.seq,Ub x.ok,Iw x.ov,Ub x.rc,Iw x.rv,Iv x.at_]
abbrev evv (x:Ev):Value:=.agg (evc x)
abbrev spR (A:Option Addr) (n c:Nat) (l:List Spn):Res:=slRes 56 8 A n c (l.flatMap spIn)
theorem info_sp:(Tryz.prog.info? 56).map (fun i=>(i.zero,i.size,i.bytes))=some (some (.agg #[Iv 0,Iv 0,Ub 0,Iw 0,Ub 0,Iw 0,Iv 0,Iv 0]),8,48):=by kernel_rfl
theorem ev_at:∀ (l:List Ev) (k:Nat) (x:Ev) (j:Nat),l[k]? =some x→j<8→(l.flatMap evIn)[k*8+j]? =(evIn x)[j]?
 | [],_,_,_,h,_=>by simp at h
 | y::l,0,x,j,h,hj=>by
  simp only [List.getElem?_cons_zero,Option.some.injEq] at h;subst h;rw [List.flatMap_cons,Nat.zero_mul,Nat.zero_add,List.getElem?_append_left (by simpa [evIn] using hj)]
 | y::l,k+1,x,j,h,hj=>by
  have hy:(evIn y).length=8:=rfl;rw [List.flatMap_cons,List.getElem?_append_right (by omega),show(k+1)*8+j-(evIn y).length=k*8+j by omega];exact ev_at l k x j (by simpa using h) hj
theorem ev_len (l:List Ev):(l.flatMap evIn).length=l.length*8:=by
 induction l with
 | nil=>rfl
 | cons a l ih=>rw [List.flatMap_cons,List.length_append,ih,show(evIn a).length=8 from rfl,List.length_cons];omega
theorem ev_drop (l:List Ev) (k:Nat):(l.drop k).flatMap evIn=(l.flatMap evIn).drop (k*8):=by
 induction k generalizing l with
 | zero=>simp
 | succ k ih=>
  cases l with
  | nil=>simp
  | cons a l=>rw [List.drop_succ_cons,ih,List.flatMap_cons,Nat.add_mul,Nat.one_mul,Nat.add_comm,←List.drop_drop,show List.drop 8 (evIn a++List.flatMap evIn l)=List.flatMap evIn l from List.drop_left' (l₁:=evIn a) rfl]
theorem ev_cells {w:World} {R:Nat→Prop} {A:Option Addr} {n:Nat} {evs:List Ev} (hr:Rd w R 8 A n (evs.flatMap evIn)) {m:Nat} {x:Ev} (hx:evs[m]? =some x):
  ∃ g o,A=some ⟨g,o,none⟩∧w.cell? ⟨g,o+m*8,none⟩=some (Ub x.kind)∧w.cell? ⟨g,o+m*8+1,none⟩=some (Iv x.th)∧w.cell? ⟨g,o+m*8+2,none⟩=some (Iv x.seq)∧w.cell? ⟨g,o+m*8+3,none⟩=some (Ub x.ok)∧w.cell? ⟨g,o+m*8+4,none⟩=some (Iw x.ov)∧
   w.cell? ⟨g,o+m*8+5,none⟩=some (Ub x.rc)∧w.cell? ⟨g,o+m*8+6,none⟩=some (Iw x.rv)∧w.cell? ⟨g,o+m*8+7,none⟩=some (Iv x.at_):=by
 have hl:=hr.1;rw [ev_len] at hl;have hm:=(List.getElem?_eq_some_iff.1 hx).1;obtain⟨g,o,hA,-,hc⟩:=hr.at (by omega);refine⟨g,o,hA,hc (m*8+0) _ (ev_at evs m x 0 hx (by omega)),?_,?_,?_,?_,?_,?_,?_⟩
 ·rw [Nat.add_assoc];exact hc (m*8+1) _ (ev_at evs m x 1 hx (by omega))
 ·rw [Nat.add_assoc];exact hc (m*8+2) _ (ev_at evs m x 2 hx (by omega))
 ·rw [Nat.add_assoc];exact hc (m*8+3) _ (ev_at evs m x 3 hx (by omega))
 ·rw [Nat.add_assoc];exact hc (m*8+4) _ (ev_at evs m x 4 hx (by omega))
 ·rw [Nat.add_assoc];exact hc (m*8+5) _ (ev_at evs m x 5 hx (by omega))
 ·rw [Nat.add_assoc];exact hc (m*8+6) _ (ev_at evs m x 6 hx (by omega))
 ·rw [Nat.add_assoc];exact hc (m*8+7) _ (ev_at evs m x 7 hx (by omega))
theorem Rd.from8 {w:World} {R:Nat→Prop} {g o n:Nat} {evs:List Ev} (hr:Rd w R 8 (some ⟨g,o,none⟩) n (evs.flatMap evIn)) {k:Nat} (hk:k<n):Rd w R 8 (some ⟨g,o+k*8,none⟩) (n-k) ((evs.drop k).flatMap evIn):=by
 obtain⟨h1,h2⟩:=hr;refine⟨by rw [ev_drop,List.length_drop,h1];omega,fun _=>?_⟩;obtain⟨b,off,e,hb,hc⟩:=h2 (by omega);simp only [Option.some.injEq,Addr.mk.injEq,and_true] at e;obtain⟨rfl,rfl⟩:=e;refine⟨g,o+k*8,rfl,hb,fun j u hu=>?_⟩;rw [ev_drop,List.getElem?_drop] at hu;rw [Nat.add_assoc];exact hc _ _ hu
theorem size_ev (W:World):(sizeOf 49).run Tryz.prog W=.ok 8 W:=by kernel_rfl
theorem ev_from (g o n c k:Nat) (hk:k<n) (hc:n≤c):∀ W,(Instr.slice 33 (.slice (some ⟨g,o,none⟩) n c) (some (Iv (k:Int))) none none).run Tryz.prog W=.ok (.slice (some ⟨g,o+k*8,none⟩) (n-k) (c-k)) W:=by
 intro W;rw [run_slice_l W 33 _ n c (by kernel_rfl) .i64 (k:Int) (by omega) (by omega)];rw [show Tryz.prog.elem 33=49 by kernel_rfl,size_ev W];simp only [Result.andThen,sliced,Int.toNat_natCast];rw [if_neg (by omega)];simp [Addr.add]
theorem sp1_cf (args:Array Value) (w:World):(callFunc 53 args).run Tryz.prog w=.ok (.enter 53 args) w:=by kernel_rfl
section
variable {B n c q:Nat} {w:World} {L:List Res} {e x:Ev} {A:Option Addr} {evs:List Ev}
theorem sp1_s (hB:B≤w.heap.size) (h:At B w (blkR q 49 (evc e)::L)):
  Calls Tryz.prog 53 #[evv x,Pz q] w fun r w'=>r=.returned (.bool (mch e x))∧At B w' (blkR q 49 (evc e)::L)∧Below B w w':=by
 have s1:=h.alloc hB (evc x) 49;have b1:=(Below.refl B w).alloc hB (.cells (evc x) 49);have k1:=(s1.ord [1]).blk.cell 1;have k2:=(s1.ord [1]).blk.cell 2;have hmt:∀ a b c:Bool,(x.kind==2)=a→(x.th==e.th)=b→(x.seq==e.seq)=c→mch e x=(a&&(b&&c)):=by rintro a b c rfl rfl rfl;rfl
 have s2:=s1.drop;clear h s1;unfold evc at*
 rcases h1:(x.kind==2) with _ | _
 ·rw [hmt _ _ _ h1 rfl rfl];clear hmt;go_enter Tryz.func53,Tryz.ntmps53;go_wp2_with fail;go_ret;exact⟨by simp,s2,b1⟩
 ·rcases h2:(x.th==e.th) with _ | _
  ·rw [hmt _ _ _ h1 h2 rfl];clear hmt;go_enter Tryz.func53,Tryz.ntmps53;go_wp2_with fail;go_ret;exact⟨by simp,s2,b1⟩
  ·rcases h3:(x.seq==e.seq) with _ | _
   ·rw [hmt _ _ _ h1 h2 h3];clear hmt;go_enter Tryz.func53,Tryz.ntmps53;go_wp2_with fail;go_ret;exact⟨by simp,s2,b1⟩
   ·rw [hmt _ _ _ h1 h2 h3];clear hmt;go_enter Tryz.func53,Tryz.ntmps53;go_wp2_with fail;go_ret;exact⟨by simp,s2,b1⟩
theorem indexE_s {f:FuncId} {cb:Array Value} {p:Ev→Bool} (hB:B≤w.heap.size) (hn:n≤1000) (eg:∀ args w,(callFunc f args).run Tryz.prog w=.ok (.enter f args) w)
  (hrd:∀ W,At B W L→Rd W (fun x=>B≤x) 8 A n (evs.flatMap evIn))
  (hf:∀ (W:World) (x:Ev),B≤W.heap.size→x∈evs→At B W L→Calls Tryz.prog f (#[evv x]++cb) W fun r W'=>r=.returned (.bool (p x))∧At B W' L∧Below B W W')
  (h:At B w L):
  Calls Tryz.prog 52 #[.slice A n c,.func (.func f) #[] cb] w fun e w'=>∃ r:Int,e=.returned (Iv r)∧IdxOf p evs r∧At B w' L∧Below B w w':=by
 have hl:evs.length=n:=by have:=(hrd w h).1;rw [ev_len] at this;omega
 have HL:=Lib.hid hl;have HN:=Lib.hid hn;have HF:=Lib.hid hf;have HR:=Lib.hid hrd;clear hl hn hf hrd;go_enter Tryz.func52,Tryz.ntmps52;go_wp2_with fail
 go_loopg [8] n (fun gk vi wr=>∃ (m:Nat),vi=Iv (m:Int)∧m≤n∧n-m≤gk∧Hid (∀ (j:Nat) (x:Ev),j<m→evs[j]? =some x→p x=false)∧At B wr L∧Below B w wr)
 case atStart=>exact⟨0,rfl,by omega,by omega,Lib.hid (fun j x h=>by omega),h,Below.refl _ _⟩
 case round=>
  clear h;obtain⟨m,rfl,hm,hgk,HE,s1,b1⟩:=hrel;have HG:=Lib.hid hgk;have hBr:=Nat.le_trans hB b1.size;clear hgk
  by_cases hlt:m<n
  ·have hltz:(m:Int)<(n:Int):=by omega
   have hw:IntKind.i64.wrap ((m:Int)+1)=(m:Int)+1:=by have:=HN.out;rw [IntKind.wrap_i64];omega
   obtain⟨x,hx⟩:∃ x,evs[m]? =some x:=⟨_,List.getElem?_eq_getElem (by rw [HL.out];exact hlt)⟩;obtain⟨g,o,rfl,e0,e1,e2,e3,e4,e5,e6,e7⟩:=ev_cells (HR.out wr s1) hx;have HX:=Lib.hid hx;have hcall:=HF.out wr x hBr (List.mem_of_getElem? hx) s1;clear hx;go_wp2_with fail;refine hcall.mono ?_;rintro e w3 ⟨rfl,s3,b3⟩;clear hcall e0 e1 e2 e3 e4 e5 e6 e7;have b4:=b1.trans b3
   cases hp:p x with
   | true=>
    have HP:=Lib.hid hp;clear hp;go_wp2_with fail;go_ret;exact⟨_,rfl,.inr ⟨m,rfl,x,HX.out,HP.out,HE.out⟩,s3,b4⟩
   | false=>
    have HP:=Lib.hid hp;clear hp;go_wp2_with fail;go_roundg (gk-1)
    case measure=>have:=HG.out;omega
    case rel=>exact⟨m+1,by go_num,by omega,by have:=HG.out;omega,Lib.hid (fun j y hj hy=>by
      by_cases e:j=m
      ·subst e;rw [HX.out] at hy;cases hy;exact HP.out
      ·exact HE.out j y (by omega) hy),s3,b4⟩
  ·have hltz:¬ (m:Int)<(n:Int):=by omega
   go_wp2_with fail;go_ret;refine⟨_,rfl,.inl ⟨rfl,fun x hx=>?_⟩,s1,b1⟩;obtain⟨j,hj,e⟩:=List.getElem_of_mem hx;exact HE.out j x (by have:=HL.out;omega) (by rw [List.getElem?_eq_getElem hj,e])
end
section
variable {B n c:Nat} {w:World} {L:List Res} {A:Option Addr} {evs:List Ev}
theorem spansTo_yes {l:List Ev} {k:Nat} {e:Ev} (hk:l[k]? =some e) (h:e.kind=1):spansTo l (k+1)=spansTo l k++[spnOf e (l.drop k)]:=by
 simp [spansTo,hk,h]
theorem spansTo_no {l:List Ev} {k:Nat} {e:Ev} (hk:l[k]? =some e) (h:¬ e.kind=1):spansTo l (k+1)=spansTo l k:=by
 simp [spansTo,hk,h]
set_option maxHeartbeats 4000000 in
theorem Spans_s (hB:B≤w.heap.size) (hn:n≤1000) (h:At B w (evR A n c evs::L)):
  Calls Tryz.prog 24 #[.slice A n c] w fun r w'=>∃ A' k c',r=.returned (.slice A' k c')∧k=(spansTo evs n).length∧At B w' (spR A' k c' (spansTo evs n)::evR A n c evs::L)∧Below B w w':=by
 obtain⟨i0,hi0,hz0,hz1,hz2⟩:=info_parts info_sp;have HB:=Lib.hid (show ∀ W,Below B w W→B≤W.heap.size from fun _ b=>Nat.le_trans hB b.size);have hs:Sl w 49 8 A n c (evs.flatMap evIn) (fun x=>B≤x):=h.get;have hl:evs.length=n:=by have:=hs.1;rw [ev_len] at this;omega
 have HL:=Lib.hid (And.intro hl (And.intro hn hs.le));clear hl hn hs;go_enter Tryz.func24,Tryz.ntmps24;go_wp2_with fail
 go_loopg [3,10] n (fun gk vo vi wr=>∃ (m k:Nat) (A':Option Addr) (c':Nat),vi=Iv (m:Int)∧m≤n∧n-m≤gk∧vo=.slice A' k c'∧Hid (k=(spansTo evs m).length)∧At B wr (spR A' k c' (spansTo evs m)::evR A n c evs::L)∧Below B w wr)
 case atStart=>exact⟨0,0,none,0,rfl,by omega,by omega,rfl,Lib.hid rfl,Sep.nilSl h 56 8,Below.refl _ _⟩
 case round=>
  clear h;obtain⟨m,k,A',c',rfl,hm,hgk,rfl,HK0,s1,b1⟩:=hrel;have HG:=Lib.hid hgk;have hBr:=HB.out _ b1;clear hgk
  by_cases hlt:m<n
  ·have hltz:(m:Int)<(n:Int):=by omega
   have hw:IntKind.i64.wrap ((m:Int)+1)=(m:Int)+1:=by have:=HL.out;rw [IntKind.wrap_i64];omega
   obtain⟨x,hx⟩:∃ x,evs[m]? =some x:=⟨_,List.getElem?_eq_getElem (by rw [HL.out.1];exact hlt)⟩;have hs:Sl wr 49 8 A n c (evs.flatMap evIn) (fun x=>B≤x):=s1.drop.get;obtain⟨g,o,rfl,e0,e1,e2,e3,e4,e5,e6,e7⟩:=ev_cells hs.rd hx;have s2:=s1.alloc hBr (evc x) 49;have b2:=b1.alloc hBr (.cells (evc x) 49);have HX:=Lib.hid hx;clear hx hs
   by_cases hk1:x.kind=1
   ·have hkd:(x.kind !=1)=false:=by simp [hk1]
    have s3:=s2.alloc (HB.out _ b2) #[Iv x.th,Iv x.seq,Ub x.ok,Iw x.ov,Ub 0,Iw 0,Iv x.at_,Iv (-1)] 56;have b3:=b2.alloc (HB.out _ b2) (.cells #[Iv x.th,Iv x.seq,Ub x.ok,Iw x.ov,Ub 0,Iw 0,Iv x.at_,Iv (-1)] 56);rw [World.size_alloc] at s3;have hfrom:=ev_from g o n c m hlt HL.out.2.2;have hkk:=HK0.out;have hk1000:k≤1000:=by have:=spansTo_len evs m;have:=HL.out;omega
    have H63:=Lib.hid (show k+1≤maxLen by simp only [maxLen];omega);have HBY:=Lib.hid (show (k+1)*48≤140737488355328 by omega);have HK:=Lib.hid (show k+1=(spansTo evs (m+1)).length by rw [spansTo_yes HX.out hk1,List.length_append,←hkk];rfl);have HS:=Lib.hid (spansTo_yes HX.out hk1);have hm0:=HL.out.2.1
    have hidx:=indexE_s (w:=(wr.alloc (.cells (evc x) 49)).alloc (.cells #[Iv x.th,Iv x.seq,Ub x.ok,Iw x.ov,Ub 0,Iw 0,Iv x.at_,Iv (-1)] 56)) (c:=c-m) (f:=53) (cb:=#[Pz wr.heap.size]) (p:=mch x) (A:=some ⟨g,o+m*8,none⟩) (n:=n-m) (evs:=evs.drop m) (HB.out _ b3) (by omega) sp1_cf
     (fun W hW=>by
      have hs:Sl W 49 8 (some ⟨g,o,none⟩) n c (evs.flatMap evIn) (fun x=>B≤x):=(Sep.drop (Sep.drop (Sep.drop hW))).get;exact Rd.from8 hs.rd hlt)
     (fun W y hW hy hs=>by
      have hs2:=hs.ox [1]
      exact(sp1_s (e:=x) (x:=y) hW hs2).mono fun r w' ⟨he,h1,h2⟩=>⟨he,by
       have h3:=h1.ox [1];exact h3,h2⟩) s3
    clear s1 s2 hm0 hk1 hkk hk1000 HK0;go_wp2_with fail;refine hidx.mono ?_;rintro r w4 ⟨r,rfl,hr,s4,b4⟩;clear hidx e0 e1 e2 e3 e4 e5 e6 e7 s3 hfrom;have b5:=b3.trans b4;generalize wr.heap.size+1=p at*;generalize wr.heap.size=q at*
    rcases hr with ⟨rfl,hno⟩ | ⟨j,rfl,y,hy,hp,hbef⟩
    ·have HS2:Hid (spansTo evs (m+1)=spansTo evs m++[spn0 x]):=Lib.hid (by rw [HS.out];unfold spnOf;rw [find_none hno]);clear hno;have s9:=s4;have c9:=b5;have z0:=s9.blk.cell 0;have z1:=s9.blk.cell 1;have z2:=s9.blk.cell 2;have z3:=s9.blk.cell 3;have z4:=s9.blk.cell 4;have z5:=s9.blk.cell 5;have z6:=s9.blk.cell 6;have z7:=s9.blk.cell 7;have hB9:=HB.out _ c9;have v9:=s9.ox [2];go_wp2_with (at_builtin;refine wpList_append_lit rfl (.tmp 50) (.tmp 52) _ rfl 56 i0 _ 8 48 Tryz.underlying38 hi0 hz0 hz1 hz2 rfl (by omega) rfl v9 hB9 _ rfl _ _ rfl rfl (by simp [Value.oneCell']) H63.out HBY.out ?_;intro A6 c6 w6 s6 b6);go_roundg (gk-1)
     case measure=>have:=HG.out;omega
     case rel=>
      refine⟨m+1,k+1,A6,c6,by go_num,by omega,by have:=HG.out;omega,rfl,Lib.hid (by have:=HK.out;omega),?_,c9.trans b6⟩;unfold spR;rw [HS2.out,sp_snoc];exact s6.cons fun _ h=>h.drop.drop
    ·have HS2:Hid (spansTo evs (m+1)=spansTo evs m++[spn1 x y]):=Lib.hid (by rw [HS.out];unfold spnOf;rw [find_at hy hp hbef]);have hjl:=(List.getElem?_eq_some_iff.1 hy).1;rw [List.length_drop,HL.out.1] at hjl;rw [List.getElem?_drop] at hy;obtain⟨i,hi⟩:∃ i:Nat,m+j=i:=⟨_,rfl⟩;rw [hi] at hy;have hs:Sl w4 49 8 (some ⟨g,o,none⟩) n c (evs.flatMap evIn) (fun x=>B≤x):=(Sep.drop (Sep.drop (Sep.drop s4))).get;obtain⟨g',o',hA,e0,e1,e2,e3,e4,e5,e6,e7⟩:=ev_cells hs.rd hy;simp only [Option.some.injEq,Addr.mk.injEq,and_true] at hA;obtain⟨rfl,rfl⟩:=hA;have HYY:=Lib.hid hy;have hge:(0:Int)≤(j:Int):=by omega
     have hmj:IntKind.i64.wrap ((m:Int)+(j:Int))=(i:Int):=by have:=HL.out;rw [IntKind.wrap_i64];omega
     have hmjn:(i:Int)<(n:Int):=by omega
     have HP:=Lib.hid (And.intro hlt (And.intro hltz (And.intro hjl hm)));clear hi hp hbef hy hs e0 e1 e2 e3 e4 hjl;go_wp2_with fail;have hB4:=HB.out _ b5;have sd:=s4.drew;have bd:=b5.drew;have hBd:=HB.out _ bd;have x7:=sd.blk.cell 7;have f7:=sd.blk.frozen 7;clear s4 b5 hB4;have y5:w4.drew.cell? ⟨g,o+i*8+5,none⟩=some (Ub y.rc):=e5;have y6:w4.drew.cell? ⟨g,o+i*8+6,none⟩=some (Iw y.rv):=e6;have y7:w4.drew.cell? ⟨g,o+i*8+7,none⟩=some (Iv y.at_):=e7;refine wp_region_held_drew (S:=fun w'=>w'.cell? ⟨g,o+i*8+5,none⟩=some (Ub y.rc)∧w'.cell? ⟨g,o+i*8+6,none⟩=some (Iw y.rv)∧w'.cell? ⟨g,o+i*8+7,none⟩=some (Iv y.at_)) (by kernel_rfl) ⟨y5,y6,y7⟩ fun hHeld=>?_;clear e5 e6 e7;generalize w4.drew=wd at*;refine Rp.tk 0 hHeld ?_;refine Rp.tk 1 hHeld ?_;refine Rp.tk 2 hHeld ?_;refine Rp.tk 3 hHeld ?_;refine Rp.tk 4 hHeld ?_;refine Rp.tk 5 hHeld ?_;refine Rp.tk 6 hHeld ?_;refine Rp.tk 7 hHeld ?_;refine Rp.tk 8 hHeld ?_
     refine Rp.tk 9 hHeld ?_;refine Rp.tk 10 hHeld ?_;refine Rp.tk 11 hHeld ?_;refine Rp.tk 12 hHeld ?_;refine Rp.tk 13 hHeld ?_;refine Rp.tk 14 hHeld ?_;refine Rp.rd 15 fun K hK=>?_;obtain⟨t5,d5⟩:=bset hBd sd 7 (Iv y.at_);go_simp;generalize wd.setCell ⟨p,7,none⟩ (Iv y.at_)=w5 at*;clear x7 f7 y5 y6 y7;have q4:=t5.blk.cell 4;have h4:=t5.blk.frozen 4;have q5:=t5.blk.cell 5;have h5:=t5.blk.frozen 5;have d6:=bd.trans d5;have hB6:=HB.out _ d6;obtain⟨g',o',hA,e0,e1,e2,e3,e4,e5,e6,e7⟩:=ev_cells (Sl.rd (show Sl w5 49 8 (some ⟨g,o,none⟩) n c (evs.flatMap evIn) (fun x=>B≤x) from(Sep.drop (Sep.drop (Sep.drop t5))).get)) HYY.out;simp only [Option.some.injEq,Addr.mk.injEq,and_true] at hA;obtain⟨rfl,rfl⟩:=hA;refine gon hK ⟨e5,e6,e7⟩ fun hHeld=>?_;clear hK K;clear e0 e1 e2 e3 e4 e5 e6 e7;refine Rp.tk 16 hHeld ?_;refine Rp.rd 17 fun K hK=>?_;obtain⟨t6,d7⟩:=bset hB6 t5 4 (Ub y.rc);obtain⟨t7,d8⟩:=bset (HB.out _ (d6.trans d7)) t6 5 (Iw y.rv)
     have d9:=(d6.trans d7).trans d8;go_simp;generalize ((w5.setCell ⟨p,4,none⟩ (Ub y.rc)).setCell ⟨p,5,none⟩ (Iw y.rv))=w7 at*;clear q4 h4 q5 h5 t6 d7 d8 t5 d6 d5;obtain⟨g',o',hA,e0,e1,e2,e3,e4,e5,e6,e7⟩:=ev_cells (Sl.rd (show Sl w7 49 8 (some ⟨g,o,none⟩) n c (evs.flatMap evIn) (fun x=>B≤x) from(Sep.drop (Sep.drop (Sep.drop t7))).get)) HYY.out;simp only [Option.some.injEq,Addr.mk.injEq,and_true] at hA;obtain⟨rfl,rfl⟩:=hA;refine gon hK ⟨e5,e6,e7⟩ fun hHeld=>?_;clear hK K;clear e0 e1 e2 e3 e4 e5 e6 e7;refine wpAnyH_done (by kernel_rfl) ?_ _;clear hHeld;have t8:At B w7 (blkR p 56 #[Iv x.th,Iv x.seq,Ub x.ok,Iw x.ov,Ub y.rc,Iw y.rv,Iv x.at_,Iv y.at_]::blkR q 49 (evc x)::spR A' k c' (spansTo evs m)::evR (some ⟨g,o,none⟩) n c evs::L):=t7;clear t7;have s9:=t8;have c9:=d9;have z0:=s9.blk.cell 0;have z1:=s9.blk.cell 1;have z2:=s9.blk.cell 2;have z3:=s9.blk.cell 3;have z4:=s9.blk.cell 4;have z5:=s9.blk.cell 5
     have z6:=s9.blk.cell 6;have z7:=s9.blk.cell 7;have hB9:=HB.out _ c9;have v9:=s9.ox [2];go_wp2_with (at_builtin;refine wpList_append_lit rfl (.tmp 50) (.tmp 52) _ rfl 56 i0 _ 8 48 Tryz.underlying38 hi0 hz0 hz1 hz2 rfl (by omega) rfl v9 hB9 _ rfl _ _ rfl rfl (by simp [Value.oneCell']) H63.out HBY.out ?_;intro A6 c6 w6 s6 b6);go_roundg (gk-1)
     case measure=>have:=HG.out;omega
     case rel=>
      refine⟨m+1,k+1,A6,c6,by go_num,by omega,by have:=HG.out;omega,rfl,Lib.hid (by have:=HK.out;omega),?_,c9.trans b6⟩;unfold spR;rw [HS2.out,sp_snoc];exact s6.cons fun _ h=>h.drop.drop
   ·have hkd:(x.kind !=1)=true:=by simp [hk1]
    have HS:=Lib.hid (spansTo_no HX.out hk1);clear hk1;go_wp2_with fail;go_roundg (gk-1)
    case measure=>have:=HG.out;omega
    case rel=>exact⟨m+1,k,A',c',by go_num,by omega,by have:=HG.out;omega,rfl,Lib.hid (by rw [HS.out];exact HK0.out),by rw [HS.out];exact s2.drop,b2⟩
  ·have hltz:¬ (m:Int)<(n:Int):=by omega
   obtain rfl:m=n:=by omega
   go_wp2_with fail;go_ret;exact⟨A',k,c',rfl,HK0.out,s1,b1⟩
end
end Go.Proofs.YtadgbhjpgnlmoaaGreat
