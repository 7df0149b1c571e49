/- TopSafe, a part of its proof; no conditions. -/
import Derived.Test.YtadgbhjpgnlmoaaGreatPk41
set_option linter.all false
namespace Go.Proofs.YtadgbhjpgnlmoaaGreat
open Go.RowKit Go.Rp Go.Sf
section
variable {cf:Cf} {N b k:Nat} {T T':List Th} {s s':Wst} {ab ab':Abs} {L L':List Int} {t t':Th} {e:Et} {size:Int}
theorem Jn.next (j:Jn cf N b T s ab L) (hN:N≤9) (hb:b≤5000) (hsz:size=3+5*(N:Int)) (h8:In8 e.ok e.ov) (hd:DoR cf size e T s T' s'):∃ ab' L',Jn cf N (b+1) T' s' ab' L'∧Nx N cf.age e ab L ab' L':=by
 have hnp:=j.npk;have hne:=j.nev
 cases hd with
 | other h1 h2=>exact⟨ab,L,j.same rfl rfl rfl rfl rfl (by omega),Nx.same fun i _ h _=>absurd h h2⟩
 | nobody h1 h2=>exact⟨ab,L,j.same rfl rfl rfl rfl rfl (by omega),Nx.same fun i _ h _=>by omega⟩
 | busy h1 h2 h3 h4=>exact⟨ab,L,j.same rfl rfl rfl rfl rfl (by omega),Nx.same fun i _ h _=>by omega⟩
 | begins h1 h2 h3 h4=>
  exact j.begins h2 h3 h4 (pk_pos h8).1 rfl
 | noone h1 h2=>exact⟨ab,L,j.same rfl rfl rfl rfl rfl (by simp;omega),Nx.same fun i hi _ h3=>absurd (by rw [j.len];omega) h2⟩
 | @idle k t h1 h2 h3 h4=>exact⟨ab,L,j.same rfl rfl rfl rfl rfl (by simp;omega),Nx.same fun i hi _ h5=>by
   have:i=k:=by omega
   subst this;rw [j.thr i t h3];omega⟩
 | @asks k t h1 h2 h3 h4 h5=>
  by_cases hp:t.pc=1
  ·exact j.alloc h2 h3 hp hsz (by omega)
  ·have l:=j.loc h3;obtain⟨M',hs,hv⟩:=asks_step (id:=(k:Int)) (size:=size) (passes:=cf.ps) l j.view (by omega) h5;have hq:=asks_seq size k s.m t;refine j.step h3 hN hs hp h1 h2 (by exact hv) (.inr rfl) rfl (fun v hv hk2=>?_) ?_ (by simp;omega) rfl
   ·simp only [asked] at hv
    split at hv
    ·rename_i h14
     rcases List.mem_append.1 hv with h | h
     ·exact .inl h
     ·right
      rw [List.mem_singleton.1 h];have hrec:=l.r1 (fun h0=>by have:=l.r4 h0;omega);simp only [hq,tK,tV,if_pos h14,j.view.tld _ hrec];exact⟨h14,trivial⟩
    ·exact .inl hv
   ·simp only [asked]
    split<;>first | omega | (simp;omega)
 | @serves k t h1 h2 h3 h4 h5 h6=>
  have l:=j.loc h3;obtain⟨M',hs,hv⟩:=serves_step (id:=(k:Int)) (passes:=cf.ps) l j.inv.inv.mem (j.small hN (by omega) h3) j.view h4 h5 h6 (fun h=>(j.bat k t h3).2 h h5);exact j.step h3 hN hs (by omega) h1 h2 (by exact hv) (.inl ⟨rfl,(serves_rs _ _ _).1⟩) rfl (fun v hv _=>.inl hv) (by first | omega | (simp;omega)) (by simp;omega) rfl
 | @does k t bs p es nb h1 h2 h3 h4 h5 h6 h7 h8=>exact j.does hN h2 h3 h4 h5 h6 h7 h8
 | @sweeps k t h1 h2 h3 h4 h5=>
  have l:=j.loc h3;obtain⟨M',hs,hv⟩:=sweeps_step (id:=(k:Int)) (passes:=cf.ps) l j.inv.inv.mem (j.small hN (by omega) h3) j.view h4 h5;exact j.step h3 hN hs (by omega) h1 h2 (by exact hv) (.inl ⟨rfl,(sweeps_rs _ _ _).1⟩) rfl (fun v hv _=>.inl hv) (by first | omega | (simp;omega)) (by simp;omega) rfl
structure TrOk (t:Th):Prop where
 len:t.batch.length≤1000
 l36:t.pc=36→t.batch.length<20
 pc:0≤t.pc∧(t.pc≤16∨20≤t.pc∧t.pc≤48)
 fit:Fit t
 fitp:20≤t.pc→t.pc≤39→FitP t
 fits:FitS t
 seq:IntKind.i64.wrap (t.seq+1)=t.seq+1
theorem wrap_small {x:Int} (h0: -1000000≤x) (h1:x≤1000000):IntKind.i64.wrap x=x:=by rw [IntKind.wrap_i64];omega
theorem base_small (x:Int):0≤base x∧base x≤10000:=by unfold base;split<;>omega
theorem batch_le (j:Jn cf N b T s ab L) (hk:T[k]? =some t) (h1:34≤t.pc) (h2:t.pc≤36):t.batch.length≤N:=by
 have l:=j.loc hk
 have h3:=nodup_le (l:=t.batch.map fun x=>x.rc) (l':=recL ab.M.k) (l.s3 (by omega) (by omega)) fun x hx=>by
  obtain⟨y,hy,rfl⟩:=List.mem_map.1 hx;exact recL_rec.2 (l.s4 (by omega) (by omega) y hy).1
 have:=recs_le j.inv.inv;simp [recL] at h3;omega
theorem Jn.ok (j:Jn cf N b T s ab L) (hN:N≤9) (hb:b≤1000) (hk:T[k]? =some t):TrOk t:=by
 have l:=j.loc hk;have hl:=j.lt hk;have ht:=j.thr k t hk;have b4:=j.inv.bd.seq k hl;have b7:=j.inv.bd.len k hl;rw [ht] at b4 b7;have hr:=recs_le j.inv.inv;obtain⟨p1,p2⟩:=j.pos k t hk
 have hrc:0≤t.rc∧t.rc≤100000:=by
  by_cases h0:t.rc=0
  ·omega
  ·have:=l.r1 h0;unfold isRec at this;omega
 have hp0:=l.p0;unfold lk at hp0;refine⟨by omega,fun h=>by have:=batch_le j hk (by omega) (by omega);omega,by omega,⟨wrap_small (by omega) (by omega),wrap_small (by omega) (by omega),wrap_small (by omega) (by omega),wrap_small (by omega) (by omega)⟩,fun h1 h2=>⟨⟨wrap_small (by omega) (by omega),wrap_small (by omega) (by omega),wrap_small (by omega) (by omega),wrap_small (by omega) (by omega)⟩,?_,fun h=>?_⟩,⟨wrap_small (by omega) (by omega),wrap_small (by omega) (by omega),wrap_small (by omega) (by omega),wrap_small (by omega) (by omega),wrap_small (by omega) (by omega)⟩,wrap_small (by omega) (by omega)⟩
 ·have:=base_small t.nth;exact wrap_small (by omega) (by omega)
 ·have hd:=(j.bat k t hk).2 h h2;have hn:=l.s7 h h2
  obtain⟨x,hx⟩:∃ x,t.batch[t.nth.toNat]? =some x:=by
   rcases hb:t.batch[t.nth.toNat]? with _ | x
   ·exact absurd (List.drop_eq_nil_of_le (List.getElem?_eq_none_iff.1 hb)) hd
   ·exact⟨x,rfl⟩
  have hm:x∈t.batch.drop t.nth.toNat:=by
   rw [List.mem_iff_getElem?];exact⟨0,by rw [List.getElem?_drop];exact hx⟩
  have:=(l.s6 h h2 x hm).1;unfold isRec at this;exact⟨x,by unfold Th.item;rw [if_pos hn];exact hx,wrap_small (by omega) (by omega),wrap_small (by omega) (by omega),wrap_small (by omega) (by omega)⟩
theorem Jn.asked36 (j:Jn cf N b T s ab L) (hk:T[k]? =some t) (h36:t.pc=36) {x:Sf.Item} (hx:x∈t.batch):∃ (i:Nat),i<N∧getL x.rc s.ow=some (Iv (i:Int)):=by
 have l:=j.loc hk;have hrec:=(l.s4 (by omega) (by omega) x hx).1;obtain⟨i,hi,hir⟩:=j.inv.inv.glob.r3 _ hrec
 have hT:T[i]? =some (ab.T i):=by
  have hil:i<T.length:=by rw [j.len];exact hi
  rw [List.getElem?_eq_getElem hil,j.thr i _ (List.getElem?_eq_getElem hil)]
 refine⟨i,hi,?_⟩;rw [← hir];exact j.own i _ hT (by rw [hir];unfold isRec at hrec;omega)
theorem Jn.zero (cf:Cf) (N:Nat):Jn cf N 0 (List.replicate N zeroT) ⟨[0,0,0],[],[],[],[],0⟩ ⟨⟨0,0,0,0,fun _=>0,fun _=>0,fun _=>0,fun _=>0,fun _=>0⟩,fun _=>⟨0,0,0,0,0,0,0,0,0,0,0,[]⟩,[],[],fun _ _=>False⟩ []:=by
 have hz:∀ (k:Nat) (t:Th),(List.replicate N zeroT)[k]? =some t→t=zeroT:=by
  intro k t h;rw [List.getElem?_replicate] at h
  split at h
  ·simpa using h.symm
  ·cases h
 refine⟨by simp,fun k t h=>by rw [hz k t h];rfl,?_,AInv.zero,fun k t h h0=>by rw [hz k t h] at h0;exact absurd rfl h0,rfl,by simp,fun k t h=>by rw [hz k t h];exact⟨fun h=>by simp [zeroT] at h,fun h=>by simp [zeroT] at h⟩,fun k t h=>by rw [hz k t h];simp [Pos,zeroT],by simp,by simp,by simp,by simp⟩
 constructor
 ·rfl
 ·rfl
 ·rfl
 ·rfl
 all_goals (intro a ha;unfold isRec at ha;simp at ha;omega)
end
set_option maxRecDepth 100000
theorem one_trC (l:List Tr):∀ u∈trC l,u.oneCell'=true:=by
 intro u hu;obtain⟨x,_,hx⟩:=List.mem_flatMap.1 hu;simp only [trIn,List.mem_cons,List.not_mem_nil,or_false] at hx
 rcases hx with rfl | rfl | rfl | rfl | rfl | rfl | rfl | rfl | rfl | rfl | rfl | rfl | rfl<;>rfl
theorem trC_set12:∀ (l:List Tr) (k:Nat) (x:Tr) (A:Option Addr) (c:Nat),l[k]? =some x→(trC l).set (k*13+12) (.slice A x.t.batch.length c)=trC (l.set k { x with A:=A,c:=c})
 | [],_,_,_,_,h=>by simp at h
 | y::l,0,x,A,c,h=>by
  simp only [List.getElem?_cons_zero,Option.some.injEq] at h;subst h;simp [trC,List.flatMap_cons,trIn]
 | y::l,k+1,x,A,c,h=>by
  have ih:=trC_set12 l k x A c (by simpa using h);have e:(k+1)*13+12=13+(k*13+12):=by omega
  simp only [trC,List.flatMap_cons,List.set_cons_succ,e] at ih ⊢;rw [tr_pre,ih]
section
variable {B X:Nat} {w:World} {L:List Res} {cf:Cf} {a:Ad} {s:Wst}
theorem thr_g (h:At B w (wTop X cf a s L)):Calls Tryz.prog 65 #[Pz X] w fun e w'=>e=.returned (.slice a.At a.T.length a.ct)∧w=w':=by
 have k:=h.cv 8 (.slice a.At a.T.length a.ct);go_enter Tryz.func65,Tryz.ntmps65;go_wp2;go_ret;exact⟨rfl,rfl⟩
theorem thr_t (hB:B≤w.heap.size) (hn:a.T.length≤1000000) (h:At B w (wTop X cf a s L)):Calls Tryz.prog 64 #[Pz X,.func (.func 65) #[] #[]] w fun e w'=>∃ A' c',e=.returned (.slice A' a.T.length c')∧At B w' (trR A' a.T.length c' a.T::wTop X cf a s L)∧Below B w w':=by
 have hg:=thr_g h;have v0:=h.ox [1];have hc:=cloneThr_s hB v0 (one_trC _) hn;clear h v0;go_enter Tryz.func64,Tryz.ntmps64;go_wp2_with fail;refine hg.mono ?_;rintro e w1 ⟨rfl,rfl⟩;go_wp2_with fail;refine hc.mono ?_;rintro e w2 ⟨A',c',rfl,s1,b1⟩;go_wp2_with fail;go_ret;have v:=s1.ox [0,1,0];exact⟨A',c',rfl,v,b1⟩
theorem open9 {w:World} {U:Nat→Prop} {T:List Tr} {k:Nat} {x:Tr} {L:List Res} {z a b c d e f g h:Res} (hk:T[k]? =some x) (s:Sep w U (z::a::b::c::d::e::f::g::h::(T.map itO++L))):Sep w U (itO x::z::a::b::c::d::e::f::g::h::(rst T k++L)):=
 (Sep.cons (fun _ s=>open8 hk s) s).ord [9]
theorem shut9 {w:World} {U:Nat→Prop} {T:List Tr} {k:Nat} {x:Tr} {L:List Res} {z a b c d e f g h:Res} (hk:T[k]? =some x) (s:Sep w U (itO x::z::a::b::c::d::e::f::g::h::(rst T k++L))):Sep w U (z::a::b::c::d::e::f::g::h::(T.map itO++L)):=by
 have v:Sep w U (z::a::b::c::d::e::f::g::h::itO x::(rst T k++L)):=s.ord [1,1,1,1,1,1,1,1,1,0];have:=Sep.cons (fun _ s=>shut8 (List.getElem?_eq_some_iff.1 hk).1 s) v;rw [set_self_tr T k x hk] at this;exact this
theorem threads_s (hB:B≤w.heap.size) (hn:a.T.length≤1000) (hb:∀ (k:Nat) (x:Tr),a.T[k]? =some x→x.t.batch.length≤1000) (h:At B w (wTop X cf a s (a.T.map itO++L))):
  Calls Tryz.prog 29 #[Pz X] w fun e w'=>∃ A' c' T2,e=.returned (.slice A' a.T.length c')∧T2.map (·.t)=a.T.map (·.t)∧At B w' (trR A' a.T.length c' T2::wTop X cf a s (a.T.map itO++L))∧Below B w w':=by
 have hc:=thr_t hB (by omega) h;generalize hnn:a.T.length=n at*;have HN:=Lib.hid hnn;have HB:=Lib.hid hb;have HN1:=Lib.hid hn;clear h hnn hb hn;go_enter Tryz.func29,Tryz.ntmps29;go_wp2_with fail;refine hc.mono ?_;rintro e w1 ⟨A',c',rfl,s1,b1⟩;clear hc;go_wp2_with fail
 go_loopg [9] n (fun gk vi wr=>∃ (m:Nat) (T2:List Tr),m≤n∧vi=Iv (m:Int)∧n-m≤gk∧Hid (T2.map (·.t)=a.T.map (·.t)∧∀ j,m≤j→T2[j]? =a.T[j]?)∧At B wr (trR A' n c' T2::wTop X cf a s (a.T.map itO++L))∧Below B w wr)
 case atStart=>exact⟨0,a.T,by omega,rfl,by omega,Lib.hid ⟨rfl,fun _ _=>rfl⟩,s1,b1⟩
 case round=>
  clear s1 b1;obtain⟨m,T2,hm,rfl,hgk,HE,s1,b1⟩:=hrel;have hBr:=Nat.le_trans hB b1.size
  by_cases hlt:m<n
  ·have hltz:(m:Int)<(n:Int):=by omega
   have hw:IntKind.i64.wrap ((m:Int)+1)=(m:Int)+1:=by have:=HN1.out;rw [IntKind.wrap_i64];omega
   obtain⟨x,hx⟩:∃ x,a.T[m]? =some x:=⟨_,List.getElem?_eq_getElem (by rw [HN.out];exact hlt)⟩;have hx2:T2[m]? =some x:=by rw [HE.out.2 m (Nat.le_refl _)];exact hx
   obtain⟨g,off,rfl,-,fz,-,-,-,-,-,-,-,-,-,-,-,-,q12⟩:=tr_cell hx2 s1;have v0:=open9 hx s1;have hcl:=cloneItem_s hBr v0 (one_itC _) (by have:=HB.out m x hx;omega);have HG:=Lib.hid hgk;clear v0 hgk;go_wp2_with fail;refine hcl.mono ?_;rintro e w5 ⟨A5,c5,rfl,s5,b5⟩;clear hcl q12 fz;have b6:=b1.trans b5;have hB6:=Nat.le_trans hB b6.size;have s6:=shut9 hx (Sep.drop s5);have q12:w5.cell? ⟨g,off+m*13+12,none⟩=some (.slice x.A x.t.batch.length x.c):=(tr_at hx2 rfl s6).2.2.2.2.2.2.2.2.2.2.2.2;have fz:=fun j=>tr_fz (j:=j) hx2 s6;obtain⟨-,-,t7⟩:=own_cell hB6 (by decide) s6 (show (trC T2)[m*13+12]? =some (.slice x.A x.t.batch.length x.c) from trC_at T2 m x 12 hx2 (by decide));obtain⟨s7,b7⟩:=t7 (.slice A5 x.t.batch.length c5);rw [trC_set12 T2 m x A5 c5 hx2,←Nat.add_assoc] at s7;rw [← Nat.add_assoc] at b7;have b8:=b6.trans b7;clear t7 s6 s5 b5 b7 b6 s1 b1;go_wp2_with fail;go_roundg (gk-1)
   case measure=>have:=HG.out;omega
   case rel=>
    refine⟨m+1,T2.set m { x with A:=A5,c:=c5},by omega,by have:=HN1.out;go_num,by have:=HG.out;omega,Lib.hid ⟨?_,fun j hj=>?_⟩,s7,b8⟩
    ·rw [List.map_set,←HE.out.1];apply List.ext_getElem?;intro j;rw [List.getElem?_set]
     split
     ·rename_i e;subst e
      split
      ·rw [List.getElem?_map,hx2];rfl
      ·rename_i hh;rw [List.length_map] at hh;exact absurd (List.getElem?_eq_some_iff.1 hx2).1 hh
     ·rfl
    ·rw [List.getElem?_set_ne (by omega)];exact HE.out.2 j (by omega)
  ·have hltz:¬ (m:Int)<(n:Int):=by omega
   clear hgk;go_wp2_with fail;go_ret
   first | exact⟨A',c',rfl,T2,HE.out.1,s1,b1⟩ | exact⟨A',c',rfl,⟨T2,HE.out.1,s1⟩,b1⟩
end
abbrev etv (e:Et):Value:=.agg #[Ub e.kind,Iv e.th,Ub e.ok,Iw e.ov,Ub e.bits]
structure EtOk (e:Et):Prop where
 op:In8 e.ok e.ov
 bits:0≤e.bits∧e.bits≤255
def IsB (r:Ending):Prop:=∃ bl,r=.returned (.bool bl)
structure AdOk (a a':Ad):Prop where
 size:a'.size=a.size
 At:a'.At=a.At
 ids:a'.T.map (·.id)=a.T.map (·.id)
structure WOk (a:Ad) (s:Wst):Prop where
 tr:∀ (k:Nat) (x:Tr),a.T[k]? =some x→x.id=(k:Int)∧TrOk x.t
 own:∀ (k:Nat) (x:Tr),a.T[k]? =some x→x.t.pc=36→∀ y∈x.t.batch,∃ (i:Nat),i<a.T.length∧getL y.rc s.ow=some (Iv (i:Int))
 at_:∃ g off,a.At=some ⟨g,off,none⟩
 len:a.T.length≤64
 nev:s.ev.length≤90000
 npk:s.pk.length≤90000
 nlg:s.lg.length≤90000
 nnb:0≤s.nb∧s.nb≤90000
section
variable {B X:Nat} {w:World} {L:List Res} {cf:Cf} {a:Ad} {s:Wst} {e:Et}
theorem ids_set {T:List Tr} {k:Nat} {x y:Tr} (hk:T[k]? =some x) (h:y.id=x.id):(T.set k y).map (·.id)=T.map (·.id):=by
 rw [List.map_set];apply List.ext_getElem?;intro j;rw [List.getElem?_set]
 split
 ·rename_i e;subst e
  split
  ·rw [List.getElem?_map,hk];simp [h]
  ·rename_i hh;rw [List.length_map] at hh;exact absurd (List.getElem?_eq_some_iff.1 hk).1 hh
 ·rfl
theorem call_w (h1:e.kind=1) (he:EtOk e) (hB:B≤w.heap.size) (hw:WOk a s) (h:At B w (wTop X cf a s (a.T.map itO++L))):
  Calls Tryz.prog 38 #[Pz X,Iv e.th,two8 e.ok e.ov] w fun r w'=>IsB r∧∃ a' s',DoR cf a.size e (a.T.map (·.t)) s (a'.T.map (·.t)) s'∧AdOk a a'∧At B w' (wTop X cf a' s' (a'.T.map itO++L))∧Below B w w':=by
 obtain⟨g,off,hA⟩:=hw.at_;have hT:=hw.len
 by_cases hz:0≤e.th∧e.th<(a.T.length:Int)
 ·obtain⟨k,hk⟩:∃ k:Nat,e.th=(k:Int):=⟨e.th.toNat,by omega⟩;obtain⟨x,hx⟩:∃ x,a.T[k]? =some x:=⟨_,List.getElem?_eq_getElem (by omega)⟩;have hxt:(a.T.map (·.t))[k]? =some x.t:=by rw [List.getElem?_map,hx];rfl
  obtain⟨hid,ok⟩:=hw.tr k x hx
  by_cases h0:x.t.pc=0
  ·rw [hk];refine(call_s hB hx hA (by omega) h0 he.op ok.len ok.seq (by have:=hw.nev;omega) h).mono ?_;rintro r w' ⟨A5,c5,Ae,ce,rfl,hs,hb⟩;refine⟨⟨true,rfl⟩,_,_,?_,?_,hs,hb⟩;rotate_left
   ·exact⟨rfl,rfl,ids_set hx rfl⟩
   rw [List.map_set];exact DoR.begins h1 hk hxt h0
  ·rw [hk];refine(call_1 hB hx hA (by omega) h0 he.op ok.len ok.seq h).mono ?_;rintro r w' ⟨rfl,hs,hb⟩;exact⟨⟨false,rfl⟩,a,s,DoR.busy h1 hk hxt h0,⟨rfl,rfl,rfl⟩,hs,hb⟩
 ·refine(call_n hB hA (by omega) hz h).mono ?_;rintro r w' ⟨rfl,hs,hb⟩;exact⟨⟨false,rfl⟩,a,s,DoR.nobody h1 (by rw [List.length_map];exact hz),⟨rfl,rfl,rfl⟩,hs,hb⟩
theorem pick_w (h1:e.kind=2) (hB:B≤w.heap.size) (hw:WOk a s) (h:At B w (wTop X cf a s (a.T.map itO++L))):
  Calls Tryz.prog 39 #[Pz X,Iv e.th] w fun r w'=>IsB r∧∃ a' s',DoR cf a.size e (a.T.map (·.t)) s (a'.T.map (·.t)) s'∧AdOk a a'∧At B w' (wTop X cf a' s' (a'.T.map itO++L))∧Below B w w':=by
 obtain⟨g,off,hA⟩:=hw.at_;have hT:=hw.len;have hpk:=hw.npk
 by_cases hz:0≤e.th∧e.th<(a.T.length:Int)
 ·obtain⟨k,hk⟩:∃ k:Nat,e.th=(k:Int):=⟨e.th.toNat,by omega⟩;obtain⟨x,hx⟩:∃ x,a.T[k]? =some x:=⟨_,List.getElem?_eq_getElem (by omega)⟩;have hxt:(a.T.map (·.t))[k]? =some x.t:=by rw [List.getElem?_map,hx];rfl
  obtain⟨hid,ok⟩:=hw.tr k x hx;rw [hk];have hpc:=ok.pc
  by_cases h0:x.t.pc=0
  ·refine(pick_i hB hx hA (by omega) (by omega) h0 h).mono ?_;rintro r w' ⟨Ap,cp,rfl,hs,hb⟩;refine⟨⟨false,rfl⟩,_,_,?_,?_,hs,hb⟩
   ·exact DoR.idle h1 hk hxt h0
   ·exact⟨rfl,rfl,rfl⟩
  by_cases h16:x.t.pc≤16
  ·refine(pick_0 (Rel:=fun a' s' L'=>∃ (A5:Option Addr) (c5:Nat) (Ae:Option Addr) (ce:Nat),a'= { a with T:=a.T.set k ⟨x.id,(asks a.size x.id s.m x.t).2,A5,c5⟩,Ae:=Ae,ce:=ce}∧s'=asked a.size x.id s x.t∧L'=a'.T.map itO++L) hB hx hA (by omega) (by omega) ?_ ?_ h).mono ?_
   ·rintro a' s' L' ⟨A5,c5,Ae,ce,rfl,rfl,rfl⟩;simp only [asked];omega
   ·intro W R hW hs;rw [List.append_assoc] at hs;refine(asks_s hW hx hA (by omega) h16 ok.len ok.fit (wrap_small (by omega) (by omega)) (by have:=hw.nev;omega) hs).mono ?_;rintro r w' ⟨A5,c5,Ae,ce,rfl,hs',hb⟩;refine⟨_,_,_,rfl,⟨A5,c5,Ae,ce,rfl,rfl,rfl⟩,?_,hb⟩;simp only [List.append_assoc];exact hs'
   ·rintro r w' ⟨a',s',L',Ap,cp,rfl,⟨A5,c5,Ae,ce,rfl,rfl,rfl⟩,hs,hb⟩;refine⟨⟨true,rfl⟩,_,_,?_,?_,hs,hb⟩;rotate_left
    ·exact⟨rfl,rfl,ids_set hx rfl⟩
    simp only [List.map_set];rw [hid];have:=DoR.asks (cf:=cf) (size:=a.size) (s:=s) h1 hk hxt (by omega) h16;exact this
  by_cases h39:x.t.pc≤39
  ·have hlen:∀ (i:Nat),i<a.T.length→∃ z,a.T[i]? =some z:=fun i hi=>⟨_,List.getElem?_eq_getElem hi⟩;have hnb:=hw.nnb
   by_cases h36:x.t.pc=36
   ·have sv:=fun(W:World) (R:List Res) (hW:B≤W.heap.size) (hs:At B W (wTop X cf a s (a.T.map itO++(L++R))))=>serves_any (R:=fun u bs=>u= { x.t with batch:=bs,nth:=0,pc:=37}∧bs.map (fun x=>(x.rc,x.word))=x.t.batch.map (fun x=>(x.rc,x.word))) hW hx hA (by omega) (by have:=hw.nlg;omega) (wrap_small (by omega) (by omega)) (by
     rintro u bs ⟨rfl,hb⟩;have hl:bs.length=x.t.batch.length:=by simpa using congrArg List.length hb
     refine⟨rfl,by have:=ok.l36 h36;omega,fun y hy=>?_⟩;have hy':(y.rc,y.word)∈x.t.batch.map (fun x=>(x.rc,x.word)):=by rw [← hb];exact List.mem_map.2 ⟨y,hy,rfl⟩
     obtain⟨z,hz,hzr⟩:=List.mem_map.1 hy';simp only [Prod.mk.injEq] at hzr;obtain⟨i,hi,hg⟩:=hw.own k x hx h36 z hz;obtain⟨v,hv⟩:=hlen i hi
     exact⟨i,v,by rw [← hzr.1];exact hg,hv⟩) (m2:=s.m) (fun W' L' hW' hh=>(cdo_s hW' h36 rfl (ok.l36 h36) hh).mono (by
      rintro r w' ⟨bs,A',n',c',D,dn,dc,rfl,hm,hr,hs,hb⟩;have e1:=it_len hs;have e2:=it_len (hs.ord [1]);subst e1 e2;exact⟨_,bs,A',c',D,dc,⟨rfl,hm⟩,rfl,hs,hb⟩)) hs
    refine(pick_1 (Rel:=fun a' s' L'=>∃ (u:Th) (bs q:List Sf.Item) (es:List Ap) (nb:Int) (A5:Option Addr) (c5:Nat) (Al:Option Addr) (cl:Nat),(u= { x.t with batch:=bs,nth:=0,pc:=37}∧bs.map (fun x=>(x.rc,x.word))=x.t.batch.map (fun x=>(x.rc,x.word)))∧q.Perm bs∧es.map key4=q.map (k4 s.ow a.T)∧(nb=s.nb∨nb=s.nb+1∧bs≠[])∧a'= { a with T:=a.T.set k ⟨x.id,u,A5,c5⟩,Al:=Al,cl:=cl}∧s'= { s with m:=s.m,lg:=s.lg++es,nb:=nb}∧L'=a'.T.map itO++L) hB hx hA (by omega) (by omega) ?_ ?_ h).mono ?_
    ·rintro a' s' L' ⟨u,bs,q,es,nb,A5,c5,Al,cl,-,-,-,-,rfl,rfl,rfl⟩;simp only;omega
    ·intro W R hW hs;rw [List.append_assoc] at hs;refine(sv W R hW hs).mono ?_;rintro r w' ⟨u,bs,q,es,nb,A5,c5,Al,cl,rfl,hR,hq,he,hn,hs',hb⟩;refine⟨_,_,_,rfl,⟨u,bs,q,es,nb,A5,c5,Al,cl,hR,hq,he,hn,rfl,rfl,rfl⟩,?_,hb⟩;simp only [List.append_assoc];exact hs'
    ·rintro r w' ⟨a',s',L',Ap,cp,rfl,⟨u,bs,q,es,nb,A5,c5,Al,cl,⟨rfl,hm⟩,hq,he,hn,rfl,rfl,rfl⟩,hs,hb⟩;refine⟨⟨true,rfl⟩,_,_,?_,?_,hs,hb⟩;rotate_left
     ·exact⟨rfl,rfl,ids_set hx rfl⟩
     simp only [List.map_set];rw [k4_map] at he;exact DoR.does h1 hk hxt h36 hm hq he (hn.imp_right fun h=>h.1)
   ·have sv:=fun(W:World) (R:List Res) (hW:B≤W.heap.size) (hs:At B W (wTop X cf a s (a.T.map itO++(L++R))))=>serves_any (R:=fun u bs=>u=(serves cf.ps s.m x.t).2∧bs=[]) hW hx hA (by omega) (by have:=hw.nlg;omega) (wrap_small (by omega) (by omega)) (by
     rintro u bs ⟨rfl,rfl⟩
     exact⟨(serves_rs _ _ _).2,by simp,fun y hy=>by simp at hy⟩) (m2:=(serves cf.ps s.m x.t).1) (fun W' L' hW' hh=>(cstep_s hW' (by omega) h39 h36 rfl ok.len (ok.fitp (by omega) h39) hh).mono (by
      rintro r w' ⟨A',n',c',D,dn,dc,rfl,hs,hb⟩;have e1:=it_len hs;have e2:=it_len (hs.ord [1]);subst e1 e2;exact⟨_,[],A',c',D,dc,⟨rfl,rfl⟩,rfl,hs,hb⟩)) hs
    refine(pick_1 (Rel:=fun a' s' L'=>∃ (nb:Int) (A5:Option Addr) (c5:Nat) (Al:Option Addr) (cl:Nat),nb=s.nb∧a'= { a with T:=a.T.set k ⟨x.id,(serves cf.ps s.m x.t).2,A5,c5⟩,Al:=Al,cl:=cl}∧s'= { s with m:=(serves cf.ps s.m x.t).1}∧L'=a'.T.map itO++L) hB hx hA (by omega) (by omega) ?_ ?_ h).mono ?_
    ·rintro a' s' L' ⟨nb,A5,c5,Al,cl,-,rfl,rfl,rfl⟩;simp only;omega
    ·intro W R hW hs;rw [List.append_assoc] at hs;refine(sv W R hW hs).mono ?_;rintro r w' ⟨u,bs,q,es,nb,A5,c5,Al,cl,rfl,⟨rfl,rfl⟩,hq,he,hn,hs',hb⟩;have hq0:=hq.eq_nil;subst hq0;have he0:es=[]:=by simpa using he
     subst he0
     have hn0:nb=s.nb:=by
      rcases hn with h | ⟨_,h⟩
      ·exact h
      ·exact absurd rfl h
     subst hn0;rw [List.append_nil] at hs';refine⟨_,_,_,rfl,⟨s.nb,A5,c5,Al,cl,rfl,rfl,rfl,rfl⟩,?_,hb⟩;simp only [List.append_assoc];exact hs'
    ·rintro r w' ⟨a',s',L',Ap,cp,rfl,⟨nb,A5,c5,Al,cl,-,rfl,rfl,rfl⟩,hs,hb⟩;refine⟨⟨true,rfl⟩,_,_,?_,?_,hs,hb⟩;rotate_left
     ·exact⟨rfl,rfl,ids_set hx rfl⟩
     simp only [List.map_set];exact DoR.serves h1 hk hxt (by omega) h39 h36
  ·refine(pick_2 (Rel:=fun a' s' L'=>∃ (A5:Option Addr) (c5:Nat),a'= { a with T:=a.T.set k ⟨x.id,(sweeps cf.age s.m x.t).2,A5,c5⟩}∧s'= { s with m:=(sweeps cf.age s.m x.t).1}∧L'=a'.T.map itO++L) hB hx hA (by omega) (by omega) ?_ ?_ h).mono ?_
   ·rintro a' s' L' ⟨A5,c5,rfl,rfl,rfl⟩;simp only;omega
   ·intro W R hW hs;rw [List.append_assoc] at hs;refine(sweeps_s hW hx hA (by omega) (by omega) ok.len ok.fits hs).mono ?_;rintro r w' ⟨A5,c5,rfl,hs',hb⟩;refine⟨_,_,_,rfl,⟨A5,c5,rfl,rfl,rfl⟩,?_,hb⟩;simp only [List.append_assoc];exact hs'
   ·rintro r w' ⟨a',s',L',Ap,cp,rfl,⟨A5,c5,rfl,rfl,rfl⟩,hs,hb⟩;refine⟨⟨true,rfl⟩,_,_,?_,?_,hs,hb⟩;rotate_left
    ·exact⟨rfl,rfl,ids_set hx rfl⟩
    simp only [List.map_set];exact DoR.sweeps h1 hk hxt (by omega) (by omega)
 ·refine(pick_n hB hA (by omega) (by omega) hz h).mono ?_;rintro r w' ⟨Ap,cp,rfl,hs,hb⟩;refine⟨⟨false,rfl⟩,_,_,?_,?_,hs,hb⟩
  ·exact DoR.noone h1 (by rw [List.length_map];exact hz)
  ·exact⟨rfl,rfl,rfl⟩
end
section
variable {B X:Nat} {w:World} {L:List Res} {cf:Cf} {a:Ad} {s:Wst} {e:Et}
theorem top_back {b:Res} (h:At B w (b::wTop X cf a s (a.T.map itO++L))):At B w (wTop X cf a s (a.T.map itO++(L++[b]))):=by
 have:=Sep.snoc h;rw [← List.append_assoc];exact this
theorem top_drop {b:Res} (h:At B w (wTop X cf a s (a.T.map itO++(L++[b])))):At B w (wTop X cf a s (a.T.map itO++L)):=by
 rw [← List.append_assoc] at h;exact Sep.drop (Sep.unsnoc (a:=b) (l:=wTop X cf a s (a.T.map itO++L)) h)
theorem do_w (he:EtOk e) (hB:B≤w.heap.size) (hw:WOk a s) (h:At B w (wTop X cf a s (a.T.map itO++L))):
  Calls Tryz.prog 17 #[Pz X,etv e] w fun r w'=>IsB r∧∃ a' s',DoR cf a.size e (a.T.map (·.t)) s (a'.T.map (·.t)) s'∧AdOk a a'∧At B w' (wTop X cf a' s' (a'.T.map itO++L))∧Below B w w':=by
 have s1:=h.alloc hB #[Ub e.kind,Iv e.th,Ub e.ok,Iw e.ov,Ub e.bits] 60;have b1:=(Below.refl B w).alloc hB (.cells #[Ub e.kind,Iv e.th,Ub e.ok,Iw e.ov,Ub e.bits] 60);have hB1:=Nat.le_trans hB b1.size;have c0:=s1.blk.cell 0;have c1:=s1.blk.cell 1;have c2:=s1.blk.cell 2;have c3:=s1.blk.cell 3;have s2:=top_back s1;clear h
 by_cases h1:e.kind=1
 ·have hd:(e.kind==1)=true:=by simp [h1]
  have hc:=call_w h1 he hB1 hw s2;clear s1 s2 h1;go_enter Tryz.func17,Tryz.ntmps17;go_wp2_with fail;refine hc.mono ?_;rintro r w2 ⟨⟨bl,rfl⟩,a',s',hd,ha,s3,b3⟩;clear hc;go_wp2_with fail;go_ret;exact⟨⟨_,rfl⟩,a',s',hd,ha,top_drop s3,b1.trans b3⟩
 by_cases h2:e.kind=2
 ·have hd1:(e.kind==1)=false:=by simp [h1]
  have hd2:(e.kind==2)=true:=by simp [h2]
  have hc:=pick_w h2 hB1 hw s2;clear s1 s2 h1 h2;go_enter Tryz.func17,Tryz.ntmps17;go_wp2_with fail;refine hc.mono ?_;rintro r w2 ⟨⟨bl,rfl⟩,a',s',hd,ha,s3,b3⟩;clear hc;go_wp2_with fail;go_ret;exact⟨⟨_,rfl⟩,a',s',hd,ha,top_drop s3,b1.trans b3⟩
 have hr:DoR cf a.size e (a.T.map (·.t)) s (a.T.map (·.t)) s:=DoR.other h1 h2;have hd1:(e.kind==1)=false:=by simp [h1]
 have hd2:(e.kind==2)=false:=by simp [h2]
 by_cases h3:e.kind=3
 ·have hd3:(e.kind==3)=true:=by simp [h3]
  obtain⟨n,hn⟩:∃ n:Nat,e.bits=(n:Int):=⟨e.bits.toNat,by have:=he.bits;omega⟩;have HN:=Lib.hid (And.intro hn (show n<256 by have:=he.bits;omega));clear hn;have x4:(w.alloc (.cells #[Ub e.kind,Iv e.th,Ub e.ok,Iw e.ov,Ub e.bits] 60)).drew.cell? ⟨w.heap.size,4,none⟩=some (Ub e.bits):=s1.blk.cell 4;have x7:(w.alloc (.cells #[Ub e.kind,Iv e.th,Ub e.ok,Iw e.ov,Ub e.bits] 60)).drew.cell? ⟨X,7,none⟩=some (Pz a.o):=s2.blk.cell 7;have s3:=s2.drew;have S3:=Lib.hid s3;clear h1 h2 h3 s2 s3;go_enter Tryz.func17,Tryz.ntmps17;go_wp2_with fail;generalize w.alloc (.cells #[Ub e.kind,Iv e.th,Ub e.ok,Iw e.ov,Ub e.bits] 60)=W at*;generalize w.heap.size=q at*;refine wp_region_held_drew (S:=fun w'=>w'.cell? ⟨X,7,none⟩=some (Pz a.o)∧w'.cell? ⟨q,4,none⟩=some (Ub e.bits)) (by kernel_rfl) ⟨x7,x4⟩ fun hHeld=>?_;refine Rp.tk 0 hHeld ?_;refine Rp.tk 1 hHeld ?_;refine Rp.tk 2 hHeld ?_;refine Rp.tk 3 hHeld ?_;refine Rp.tk 4 hHeld ?_
  refine Rp.tk 5 hHeld ?_;refine Rp.rd 6 fun K hK=>?_;have v0:=S3.out.ox [3];have hBd:B≤W.drew.heap.size:=hB1;have s4:=Con.lit_s hBd v0 n;rw [← HN.out.1] at s4;have s4:=s4.ox [1,0];have b4:=b1.drew.alloc hBd (.cells #[Ub e.bits] 5);have hB4:=Nat.le_trans hBd (show W.drew.heap.size≤(W.drew.alloc (.cells #[Ub e.bits] 5)).heap.size by simp);have y7:=(s4.ord [2]).blk.cell 7;have y4:=(World.cell?_alloc_lt W.drew (.cells #[Ub e.bits] 5) ⟨q,4,none⟩ (World.block_lt_of_cell? _ _ x4)).trans x4;go_simp;refine gon hK ⟨y7,y4⟩ fun hHeld=>?_;clear hK K;refine Rp.rd 7 fun K hK=>?_;have hf:=feed_o (c:=1) hB4 rfl (by intro x hx;rw [List.mem_singleton.1 hx];exact HN.out.2) (by simp) s4;go_simp;refine hf.mono ?_;rintro r w5 ⟨rfl,s5,b5⟩;clear hf s4;have b6:=b4.trans b5;have v1:=(Sep.drop (s5.ord [1])).ox [1,1,1,0];have z7:=v1.blk.cell 7
  have u:At B w5 (blkR q 60 #[Ub e.kind,Iv e.th,Ub e.ok,Iw e.ov,Ub e.bits]::wTop X cf a s (a.T.map itO++L)):=by
   rw [← List.append_assoc] at v1;exact Sep.unsnoc (l:=wTop X cf a s (a.T.map itO++L)) v1
  have z4:=u.blk.cell 4;refine gon hK ⟨z7,z4⟩ fun hHeld=>?_;clear hK K;refine wpAnyH_done (by kernel_rfl) ?_ _;clear hHeld v1 z7 z4 y7 y4 x7 x4 s5 s1 v0;go_wp2_with fail;go_ret;exact⟨⟨_,rfl⟩,a,s,hr,⟨rfl,rfl,rfl⟩,u.drop,b6⟩
 ·have hd3:(e.kind==3)=false:=by simp [h3]
  go_enter Tryz.func17,Tryz.ntmps17;go_wp2_with fail;go_ret;exact⟨⟨_,rfl⟩,a,s,hr,⟨rfl,rfl,rfl⟩,top_drop s2,b1⟩
end
def zeroTr (k:Nat):Tr:=⟨(k:Int),zeroT,none,0⟩
def zeroTs (n:Nat):List Tr:=(List.range n).map zeroTr
def zeroS:Wst:=⟨[0,0,0],[],[],[],[],0⟩
abbrev zeroA (p o r:Nat) (size:Int) (A:Option Addr) (c:Nat) (T:List Tr):Ad:=⟨p,size,o,r,A,c,none,0,none,0,none,0,T⟩
theorem info_thr:∃ i z,Tryz.prog.info? 93=some i∧i.zero=some z∧i.size=13∧i.bytes=120∧z.cells.size=13:=infoThr
section
variable {B X q:Nat} {w:World} {L:List Res} {cf:Cf} {n:Nat}
theorem cfg_cells {R:List Res} (h:At B w (blkR q 26 #[Ub cf.ob,Iv cf.th,Iv cf.cap,Iv cf.age,Iv cf.ps,.bool cf.plain]::R)):w.cell? ⟨q,0,none⟩=some (Ub cf.ob)∧w.cell? ⟨q,1,none⟩=some (Iv cf.th)∧w.cell? ⟨q,2,none⟩=some (Iv cf.cap)∧w.cell? ⟨q,3,none⟩=some (Iv cf.age)∧w.cell? ⟨q,4,none⟩=some (Iv cf.ps)∧w.cell? ⟨q,5,none⟩=some (.bool cf.plain):=⟨h.blk.cell 0,h.blk.cell 1,h.blk.cell 2,h.blk.cell 3,h.blk.cell 4,h.blk.cell 5⟩
theorem zero_bat:∀ (l:List Tr),(∀ x∈l,x.A=none∧x.c=0∧x.t.batch=[])→At B w L→At B w (l.map itO++L)
 | [],_,h=>h
 | x::l,hl,h=>by
  have ih:=zero_bat l (fun y hy=>hl y (List.mem_cons_of_mem _ hy)) h;obtain⟨h1,h2,h3⟩:=hl x List.mem_cons_self;have:=Sep.nilSl ih 144 3;simp only [List.map_cons,List.cons_append,itO,h1,h2,h3];exact this
theorem new_top {U:Nat→Prop} {p o r:Nat} {size:Int} (h:Sep w U (blkR X 90 (wc cf (zeroA p o r size none 0 []) zeroS)::memR p size [0,0,0]::objR o cf.plain::mapR .i64 r []::L)):Sep w U (wTop X cf (zeroA p o r size none 0 []) zeroS L):=by
 have h1:=Sep.nilSl (Sep.nilSl (Sep.nilSl (Sep.nilSl h 3 1) 51 7) 49 8) 93 13;have v:=h1.ox [4,0,3,3,3,0,0,0];exact v
set_option maxHeartbeats 2000000 in
theorem new_a (hB:B≤w.heap.size) (hc:CfOk cf) (hN:cf.th=(n:Int)) (h:At B w L):
  Calls Tryz.prog 15 #[cfv cf] w fun e w'=>∃ X p o r A c,e=.returned (Pz X)∧At B w' (wTop X cf (zeroA p o r (3+5*cf.th) A c (zeroTs n)) zeroS L)∧Below B w w':=by
 obtain⟨it,zt,hi0,hz0,hz1,hz2,hz3⟩:=info_thr;have s1:=h.alloc hB #[Ub cf.ob,Iv cf.th,Iv cf.cap,Iv cf.age,Iv cf.ps,.bool cf.plain] 26;have b1:=(Below.refl B w).alloc hB (.cells #[Ub cf.ob,Iv cf.th,Iv cf.cap,Iv cf.age,Iv cf.ps,.bool cf.plain] 26);have hr:=fun W=>right_any W cf hc;have HC:=Lib.hid (And.intro hc hN);have hn9:n≤64:=by have:=hc.hth;omega
 have HN:=Lib.hid hn9;obtain⟨q0,q1,q2,q3,q4,q5⟩:=cfg_cells s1;have HB:=Lib.hid (show ∀ W,Below B w W→B≤W.heap.size from fun _ b=>Nat.le_trans hB b.size);clear h hc hN hn9;go_enter Tryz.func15,Tryz.ntmps15;go_wp2_with fail;generalize w.alloc (.cells #[Ub cf.ob,Iv cf.th,Iv cf.cap,Iv cf.age,Iv cf.ps,.bool cf.plain] 26)=w1 at*;have hB1:=Nat.le_trans hB b1.size;generalize w.heap.size=q at*;refine(hr _).mono ?_;rintro e w2 ⟨rfl,b2⟩;have s2:=s1.keep b2;have b3:=b1.trans (b2.mono hB1);have hB2:=Nat.le_trans hB1 b2.size;clear hr s1 b1 b2 q0 q1 q2 q3 q4 q5 hB1;go_wp2_with fail;have s3:=s2.drew;have b4:=b3.drew;have hB3:B≤w2.drew.heap.size:=hB2;clear s2 b3;rename_i K0 hK0
 refine cut_any (ι:=Nat×Nat×Nat×Nat) (fr:=fun i=>⟨#[cfv cf,Pz q,.pointer none,Pz i.2.2.2,undef,cfv cf,.int .u16 0,.bool false,cfv cf,.pointer (some ⟨q,1,none⟩),Iv cf.th,Pz i.1,Pz q,Ub cf.ob,.pointer (some ⟨q,2,none⟩),Iv cf.cap,.pointer (some ⟨q,5,none⟩),.bool cf.plain,Pz i.2.1,.map (some i.2.2.1),.agg (wc cf (zeroA i.1 i.2.1 i.2.2.1 (3+5*cf.th) none 0 []) zeroS),Pz i.2.2.2,undef,undef,undef,undef,undef,undef,undef,undef,undef,undef,undef,undef,undef,undef,undef,undef,undef,undef],[]⟩)
  (R:=fun i w'=>At B w' (blkR q 26 #[Ub cf.ob,Iv cf.th,Iv cf.cap,Iv cf.age,Iv cf.ps,.bool cf.plain]::wTop i.2.2.2 cf (zeroA i.1 i.2.1 i.2.2.1 (3+5*cf.th) none 0 []) zeroS L)∧Below B w w') ?_ ?_
 refine wp_region_held_drew (S:=fun w'=>w'.cell? ⟨q,0,none⟩=some (Ub cf.ob)∧w'.cell? ⟨q,1,none⟩=some (Iv cf.th)∧w'.cell? ⟨q,2,none⟩=some (Iv cf.cap)∧w'.cell? ⟨q,3,none⟩=some (Iv cf.age)∧w'.cell? ⟨q,4,none⟩=some (Iv cf.ps)∧w'.cell? ⟨q,5,none⟩=some (.bool cf.plain)) (by kernel_rfl) (cfg_cells s3) fun hHeld=>?_;refine Rp.tk 0 hHeld ?_;refine Rp.tk 1 hHeld ?_;refine Rp.tk 2 hHeld ?_;refine Rp.tk 4 hHeld ?_;refine Rp.tk 5 hHeld ?_;refine Rp.tk 6 hHeld ?_;refine Rp.tk 7 hHeld ?_;refine Rp.tk 8 hHeld ?_;refine Rp.tk 9 hHeld ?_;refine wpAnyH_ready (rs:=[3,11]) (by kernel_rfl) (by simp) (AllReadyH.cons rfl (fun K hK=>?_) (AllReadyH.cons rfl (fun K hK=>?_) AllReadyH.nil))
 ·go_simp;have ho:=open_s hB3 s3 n (by have:=HC.out.1.hth;have:=HC.out.2;omega) (by have:=HN.out;omega);rw [← HC.out.2] at ho;refine ho.mono ?_;rintro e W1 ⟨p,rfl,t1,d1⟩;clear ho;have c1:=b4.trans d1;have z1:=HB.out _ c1;have y1:=t1.ox [1];refine gon hK (cfg_cells y1) fun hHeld=>?_;clear hK K;clear y1;refine wpAnyH_ready (rs:=[10,11]) (by kernel_rfl) (by simp) (AllReadyH.cons rfl (fun K hK=>?_) (AllReadyH.cons rfl (fun K hK=>?_) AllReadyH.nil))
  ·go_simp;refine(new_o z1 t1 cf.ob cf.cap cf.plain HC.out.1.hob.1 HC.out.1.hob.2).mono ?_;rintro e W2 ⟨o,rfl,t2,d2⟩;have c2:=c1.trans d2;have z2:=HB.out _ c2;have y2:=t2.ox [2];refine gon hK (cfg_cells y2) fun hHeld=>?_;clear hK K;clear y2;refine Rp.rd 11 fun K hK=>?_
   ·have t3:=Sep.allocMap t2 z2 .i64;have c3:=c2.alloc z2 (.map #[] 0);go_simp;have z3:=HB.out _ c3;have y3:=t3.ox [3];refine gon hK (cfg_cells y3) fun hHeld=>?_;clear hK K;clear y3;have v:=Sep.ord [2,1,0,0] t3;simp only [ordL,List.getElem?_cons_zero,List.getElem?_cons_succ,List.eraseIdx_cons_succ,List.eraseIdx_cons_zero] at v;have v:=Sep.alloc v z3 (wc cf (zeroA p o W2.heap.size (3+5*cf.th) none 0 []) zeroS) 90;have v1:=v.ox [4];have x:=cfg_cells v1;have bv:=Below.alloc c3 z3 (.cells (wc cf (zeroA p o W2.heap.size (3+5*cf.th) none 0 []) zeroS) 90);refine Rp.tk 12 hHeld ?_;refine Rp.rd 13 fun K hK=>?_;go_simp;refine gon hK x fun hHeld=>?_;clear hK K;refine Rp.tk 14 hHeld ?_;refine wpAnyH_done (by kernel_rfl) ?_ _;have v3:=Sep.cons (fun _ h=>new_top h) v1
    try simp only [World.size_alloc] at v3
    exact⟨(p,o,W2.heap.size,_),rfl,v3,bv⟩
  ·have t2:=Sep.allocMap t1 z1 .i64;have c2:=c1.alloc z1 (.map #[] 0);go_simp;have z2:=HB.out _ c2;have y2:=t2.ox [2];refine gon hK (cfg_cells y2) fun hHeld=>?_;clear hK K;clear y2;refine Rp.rd 10 fun K hK=>?_
   ·go_simp;refine(new_o z2 t2 cf.ob cf.cap cf.plain HC.out.1.hob.1 HC.out.1.hob.2).mono ?_;rintro e W3 ⟨o,rfl,t3,d3⟩;have c3:=c2.trans d3;have z3:=HB.out _ c3;have y3:=t3.ox [3];refine gon hK (cfg_cells y3) fun hHeld=>?_;clear hK K;clear y3;have v:=Sep.ord [2,0,0,0] t3;simp only [ordL,List.getElem?_cons_zero,List.getElem?_cons_succ,List.eraseIdx_cons_succ,List.eraseIdx_cons_zero] at v;have v:=Sep.alloc v z3 (wc cf (zeroA p o W1.heap.size (3+5*cf.th) none 0 []) zeroS) 90;have v1:=v.ox [4];have x:=cfg_cells v1;have bv:=Below.alloc c3 z3 (.cells (wc cf (zeroA p o W1.heap.size (3+5*cf.th) none 0 []) zeroS) 90);refine Rp.tk 12 hHeld ?_;refine Rp.rd 13 fun K hK=>?_;go_simp;refine gon hK x fun hHeld=>?_;clear hK K;refine Rp.tk 14 hHeld ?_;refine wpAnyH_done (by kernel_rfl) ?_ _;have v3:=Sep.cons (fun _ h=>new_top h) v1
    try simp only [World.size_alloc] at v3
    exact⟨(p,o,W1.heap.size,_),rfl,v3,bv⟩
 ·have t1:=Sep.allocMap s3 hB3 .i64;have c1:=b4.alloc hB3 (.map #[] 0);go_simp;have z1:=HB.out _ c1;have y1:=t1.ox [1];refine gon hK (cfg_cells y1) fun hHeld=>?_;clear hK K;clear y1;refine Rp.rd 3 fun K hK=>?_
  ·go_simp;have ho:=open_s z1 t1 n (by have:=HC.out.1.hth;have:=HC.out.2;omega) (by have:=HN.out;omega);rw [← HC.out.2] at ho;refine ho.mono ?_;rintro e W2 ⟨p,rfl,t2,d2⟩;clear ho;have c2:=c1.trans d2;have z2:=HB.out _ c2;have y2:=t2.ox [2];refine gon hK (cfg_cells y2) fun hHeld=>?_;clear hK K;clear y2;refine Rp.rd 10 fun K hK=>?_
   ·go_simp;refine(new_o z2 t2 cf.ob cf.cap cf.plain HC.out.1.hob.1 HC.out.1.hob.2).mono ?_;rintro e W3 ⟨o,rfl,t3,d3⟩;have c3:=c2.trans d3;have z3:=HB.out _ c3;have y3:=t3.ox [3];refine gon hK (cfg_cells y3) fun hHeld=>?_;clear hK K;clear y3;have v:=Sep.ord [1,0,0,0] t3;simp only [ordL,List.getElem?_cons_zero,List.getElem?_cons_succ,List.eraseIdx_cons_succ,List.eraseIdx_cons_zero] at v;have v:=Sep.alloc v z3 (wc cf (zeroA p o w2.heap.size (3+5*cf.th) none 0 []) zeroS) 90;have v1:=v.ox [4];have x:=cfg_cells v1;have bv:=Below.alloc c3 z3 (.cells (wc cf (zeroA p o w2.heap.size (3+5*cf.th) none 0 []) zeroS) 90);refine Rp.tk 12 hHeld ?_;refine Rp.rd 13 fun K hK=>?_;go_simp;refine gon hK x fun hHeld=>?_;clear hK K;refine Rp.tk 14 hHeld ?_;refine wpAnyH_done (by kernel_rfl) ?_ _;have v3:=Sep.cons (fun _ h=>new_top h) v1
    try simp only [World.size_alloc] at v3
    exact⟨(p,o,w2.heap.size,_),rfl,v3,bv⟩
 rintro ⟨p,o,r,X⟩ w3 ⟨s4,b5⟩;simp only at s4 ⊢;refine hK0 _ _ ?_;clear hK0 K0 s3 b4 hB3 hB2;have q1:w3.cell? ⟨q,1,none⟩=some (Iv (n:Int)):=by rw [← HC.out.2];exact s4.blk.cell 1
 generalize cfv cf=u0;generalize Value.agg (wc cf (zeroA p o r (3+5*cf.th) none 0 []) zeroS)=u1;go_wp2_with fail;clear q1
 go_loopg [24] n (fun gk vi wr=>∃ (m:Nat) (A:Option Addr) (c:Nat),m≤n∧vi=Iv (m:Int)∧n-m≤gk∧At B wr (blkR q 26 #[Ub cf.ob,Iv cf.th,Iv cf.cap,Iv cf.age,Iv cf.ps,.bool cf.plain]::wTop X cf (zeroA p o r (3+5*cf.th) A c (zeroTs m)) zeroS L)∧Below B w wr)
 case atStart=>exact⟨0,none,0,by omega,rfl,by omega,s4,b5⟩
 case round=>
  clear s4 b5;obtain⟨m,A,c,hm,rfl,hgk,s4,b5⟩:=hrel;have hBr:=HB.out _ b5
  by_cases hlt:m<n
  ·have hltz:(m:Int)<(n:Int):=by omega
   have hw:IntKind.i64.wrap ((m:Int)+1)=(m:Int)+1:=by have:=HN.out;rw [IntKind.wrap_i64];omega
   have k8:wr.cell? ⟨X,8,none⟩=some (.slice A m c):=at_sl (j:=8) rfl (by simp [zeroTs]) (s4.ord [1]);have v0:=s4.ox [2];rw [show (zeroTs m).length=m by simp [zeroTs]] at v0;have s5:=(v0.alloc hBr #[Iv (m:Int),Iv 0,Iv 0,Iv 0,Iv 0,Iv 0,Iv 0,Iv 0,Iv 0,Iv 0,Iv 0,Iv 0,.slice none 0 0] 93).ox [1];have b6:=b5.alloc hBr (.cells #[Iv (m:Int),Iv 0,Iv 0,Iv 0,Iv 0,Iv 0,Iv 0,Iv 0,Iv 0,Iv 0,Iv 0,Iv 0,.slice none 0 0] 93);have hle5:=HB.out _ b6;have H63:=Lib.hid (show m+1≤maxLen by have:=HN.out;simp only [maxLen];omega);have HBY:=Lib.hid (show (m+1)*120≤140737488355328 by have:=HN.out;omega);clear v0;go_wp2_with (at_builtin;refine wpList_append_at rfl (.tmp 31) (.tmp 34) _ rfl 93 it zt 13 120 Tryz.underlying88 hi0 hz0 hz1 hz2 hz3 (by omega) rfl s5 hle5 (· =wr.heap.size) (some ⟨wr.heap.size,0,none⟩) 1 1 (trIn (zeroTr m)) rfl (by exact Rd.lit (sz:=13) wr 93 #[Iv (m:Int),Iv 0,Iv 0,Iv 0,Iv 0,Iv 0,Iv 0,Iv 0,Iv 0,Iv 0,Iv 0,Iv 0,.slice none 0 0] 1 rfl) (by simp [trIn,Value.oneCell']) H63.out HBY.out ?_;intro A6 c6 w6 s6 b7;replace b7:=b6.trans b7;have hB6:=HB.out _ b7;have o6:=s6.ord [3];simp only [ordL,List.getElem?_cons_zero,List.getElem?_cons_succ,List.eraseIdx_cons_succ,List.eraseIdx_cons_zero] at o6;have k8:w6.cell? ⟨X,8,none⟩=some (.slice A m c):=at_sl (j:=8) rfl (by simp [zeroTs]) o6;have f8:=o6.blk.frozen 8;obtain⟨s7,e7⟩:=bset hB6 o6 8 (.slice A6 (m+1) c6);have b8:=b7.trans e7;clear s5 s6 o6 b6 b7 e7)
   go_roundg (gk-1)
   case measure=>omega
   case rel=>
    refine⟨m+1,A6,c6,by omega,by go_num,by omega,?_,b8⟩;have v:=Sep.drop (s7.ord [2]);simp only [ordL,List.getElem?_cons_zero,List.getElem?_cons_succ,List.eraseIdx_cons_succ,List.eraseIdx_cons_zero] at v;have v:=v.ox [2,0,0];have hz:zeroTs (m+1)=zeroTs m++[zeroTr m]:=by simp [zeroTs,List.range_succ]
    have hl:(zeroTs (m+1)).length=m+1:=by simp [zeroTs]
    have ht:trC (zeroTs (m+1))=trC (zeroTs m)++trIn (zeroTr m):=by rw [hz];simp [trC]
    simp only [wTop,wc,trR,hl,ht];exact v
  ·have hltz:¬ (m:Int)<(n:Int):=by omega
   obtain rfl:m=n:=by omega
   clear hgk;go_wp2_with fail;go_ret;exact⟨X,rfl,⟨p,o,r,A,c,s4.drop⟩,b5⟩
theorem new_w (hB:B≤w.heap.size) (hc:CfOk cf) (hN:cf.th=(n:Int)) (h:At B w L):
  Calls Tryz.prog 15 #[cfv cf] w fun e w'=>∃ X p o r A c,e=.returned (Pz X)∧At B w' (wTop X cf (zeroA p o r (3+5*(n:Int)) A c (zeroTs n)) zeroS ((zeroTs n).map itO++L))∧Below B w w':=by
 have h':At B w ((zeroTs n).map itO++L):=zero_bat _ (fun x hx=>by
  obtain⟨k,_,rfl⟩:=List.mem_map.1 hx;exact⟨rfl,rfl,rfl⟩) h
 have:=new_a hB hc hN h'
 rwa [hN] at this
end
end Go.Proofs.YtadgbhjpgnlmoaaGreat
