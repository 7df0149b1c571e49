/- TopSafe, a part of its proof; no conditions. -/
import Derived.Test.YtadgbhjpgnlmoaaGreatPk47
set_option linter.all false
namespace Go.Proofs.YtadgbhjpgnlmoaaGreat
open Go.RowKit Go.Rp Go.Sf
set_option maxRecDepth 100000
abbrev etIn (e:Et):List Value:=[Ub e.kind,Iv e.th,Ub e.ok,Iw e.ov,Ub e.bits]
abbrev entR (A:Option Addr) (n c:Nat) (es:List Et):Res:=slRes 60 5 A n c (es.flatMap etIn)
theorem et_at:∀ (l:List Et) (k:Nat) (x:Et) (j:Nat),l[k]? =some x→j<5→(l.flatMap etIn)[k*5+j]? =(etIn x)[j]?
 | [],_,_,_,h,_=>by simp at h
 | y::l,0,x,j,h,hj=>by
  simp only [List.getElem?_cons_zero,Option.some.injEq] at h;subst h;rw [List.flatMap_cons,Nat.zero_mul,Nat.zero_add,List.getElem?_append_left (by simpa using hj)]
 | y::l,k+1,x,j,h,hj=>by
  rw [List.flatMap_cons,List.getElem?_append_right (by simp;omega),show(k+1)*5+j-(etIn y).length=k*5+j by simp;omega];exact et_at l k x j (by simpa using h) hj
theorem et_len (l:List Et):(l.flatMap etIn).length=l.length*5:=by
 induction l with
 | nil=>rfl
 | cons a l ih=>rw [List.flatMap_cons,List.length_append,ih];simp;omega
theorem mk_beg (w:World):(Instr.makeMap 65 none).run Tryz.prog w=.ok (.map (some w.heap.size)) (w.alloc (.map #[] 0)):=by kernel_rfl
theorem Sep.dropL {w:World}:∀ {l L:List Res} {U:Nat→Prop},Sep w U (l++L)→Sep w U L
 | [],_,_,h=>h
 | _::l,_,_,h=>Sep.dropL (l:=l) h.drop
section
variable {B X r wb q n c:Nat} {w:World} {R:List Res} {cf:Cf} {l:List (Int×Value)} {Ms:List Mo} {a:Ad} {s:Wst} {N:Nat} {es:List Et} {A:Option Addr} {E1:Res}
theorem ent_get (h:At B w (wTop X cf a s (a.T.map itO++(wtR wb X cf r::mapR .i64 r l::(Ms.map moR++(E1::R)))))):∃ R',At B w (E1::R'):=by
 have v:=toE h
 have v2:At B w ((wtR wb X cf r::mapR .i64 r l::Ms.map moR)++E1::(R++wTop X cf a s (a.T.map itO))):=by
  simpa only [List.cons_append,List.append_assoc] using v
 exact⟨_,Sep.perm List.perm_middle v2⟩
theorem run_end (h:At B w (wTop X cf a s (a.T.map itO++(wtR wb X cf r::mapR .i64 r l::(Ms.map moR++R))))):At B w R:=by
 have v:=toE h
 have v2:At B w (((wtR wb X cf r::mapR .i64 r l::Ms.map moR)++R)++wTop X cf a s (a.T.map itO)):=by
  simpa only [List.cons_append,List.append_assoc] using v
 have v3:=Sep.perm List.perm_append_comm v2;exact Sep.dropL (Sep.dropL v3)
theorem zero_ts (N:Nat):(zeroTs N).map (·.t)=List.replicate N zeroT:=by
 apply List.ext_getElem?;intro i;unfold zeroTs;rw [List.map_map,List.getElem?_map,List.getElem?_replicate]
 by_cases h:i<N
 ·rw [List.getElem?_range h,if_pos h];rfl
 ·rw [List.getElem?_eq_none (by simpa using h),if_neg h];rfl
theorem zero_ids (N:Nat):(zeroTs N).map (·.id)=(List.range N).map (fun (i:Nat)=>(i:Int)):=by
 unfold zeroTs;rw [List.map_map];rfl
structure Mid (N m:Nat) (cf:Cf) (a:Ad) (s:Wst) (ab:Abs) (L:List Int) (l:List (Int×Value)) (Ms:List Mo):Prop where
 j:Jn cf N m (a.T.map (·.t)) s ab L
 g:Bg cf.age N ab l Ms
 d:AdN N a
set_option maxHeartbeats 2000000 in
theorem Run_s (hB:B≤w.heap.size) (hc:CfOk cf) (hN:cf.th=(N:Int)) (hn:n≤1000) (he:∀ e∈es,EtOk e) (h:At B w (entR A n c es::R)):
  Calls Tryz.prog 7 #[cfv cf,.slice A n c] w fun r' w'=>r'=.returned (.tuple #[.int .u16 0,Iv 0])∧At B w' (entR A n c es::R)∧Below B w w':=by
 have HB:=Lib.hid (show ∀ W,Below B w W→B≤W.heap.size from fun _ b=>Nat.le_trans hB b.size);have s1:=h.alloc hB #[Ub cf.ob,Iv cf.th,Iv cf.cap,Iv cf.age,Iv cf.ps,.bool cf.plain] 26;have b1:=(Below.refl B w).alloc hB (.cells #[Ub cf.ob,Iv cf.th,Iv cf.cap,Iv cf.age,Iv cf.ps,.bool cf.plain] 26);have hr:=fun W=>right_any W cf hc
 have hel:es.length=n:=by
  have hs:Sl w 60 5 A n c (es.flatMap etIn) (fun x=>B≤x):=h.get;have:=hs.1;rw [et_len] at this;omega
 have HC:=Lib.hid (And.intro hc (And.intro hN (And.intro hn (And.intro he hel))));have hnd:decide ((20000:Int)<(n:Int))=false:=by simp;omega
 obtain⟨q0,q1,q2,q3,q4,q5⟩:=cfg_cells s1;clear h hc hN hn he hel;go_enter Tryz.func7,Tryz.ntmps7;go_wp2_with fail;generalize w.alloc (.cells #[Ub cf.ob,Iv cf.th,Iv cf.cap,Iv cf.age,Iv cf.ps,.bool cf.plain] 26)=w1 at*;have hB1:=HB.out _ b1;generalize w.heap.size=q at*;refine(hr _).mono ?_;rintro e w2 ⟨rfl,b2⟩;have s2:=s1.keep b2;have b3:=b1.trans (b2.mono hB1);clear hr s1 b1 b2 q0 q1 q2 q3 q4 q5 hB1;go_wp2_with fail;have s3:=s2.drew;have b4:=b3.drew;clear s2 b3 hnd;rename_i K0 hK0
 refine cut_any (ι:=Nat×Nat×Nat) (fr:=fun i=>⟨#[cfv cf,.slice A n c,Pz q,undef,.int .u16 0,Iv 0,.int .u16 0,Pz i.2.2,undef,undef,undef,cfv cf,.int .u16 0,.int .u16 0,.bool false,undef,.slice A n c,Iv (n:Int),.bool false,cfv cf,Pz i.1,cfv cf,.map (some i.2.1),.agg (wtC i.1 cf i.2.1),Pz i.2.2,undef,undef,undef,undef,undef,undef,undef,undef,undef,undef,undef,undef,undef,undef,undef],[]⟩)
  (R:=fun i w'=>∃ p o ro A' c',At B w' (wtR i.2.2 i.1 cf i.2.1::mapR .i64 i.2.1 []::blkR q 26 #[Ub cf.ob,Iv cf.th,Iv cf.cap,Iv cf.age,Iv cf.ps,.bool cf.plain]::entR A n c es::(R++wTop i.1 cf (zeroA p o ro (3+5*(N:Int)) A' c' (zeroTs N)) zeroS ((zeroTs N).map itO)))∧Below B w w') ?_ ?_
 ·clear hK0 K0;refine wp_region_held_drew (S:=fun w'=>w'.cell? ⟨q,0,none⟩=some (Ub cf.ob)∧w'.cell? ⟨q,1,none⟩=some (Iv cf.th)∧w'.cell? ⟨q,2,none⟩=some (Iv cf.cap)∧w'.cell? ⟨q,3,none⟩=some (Iv cf.age)∧w'.cell? ⟨q,4,none⟩=some (Iv cf.ps)∧w'.cell? ⟨q,5,none⟩=some (.bool cf.plain)) (by kernel_rfl) (cfg_cells s3) fun hHeld=>?_;generalize w2.drew=wd at*;have hmk:=mk_beg;refine Rp.tk 0 hHeld ?_;refine Rp.tk 2 hHeld ?_;refine wpAnyH_ready (rs:=[1,3]) (by kernel_rfl) (by simp) (AllReadyH.cons rfl (fun K hK=>?_) (AllReadyH.cons rfl (fun K hK=>?_) AllReadyH.nil))
  ·
   go_simp;refine(new_w (HB.out _ b4) HC.out.1 HC.out.2.1 s3).mono ?_;rintro e0 w2 ⟨X,p,o,ro,A',c',rfl,u,d⟩;replace u:=toE u;have d:=b4.trans d;have u:At B w2 (blkR q 26 #[Ub cf.ob,Iv cf.th,Iv cf.cap,Iv cf.age,Iv cf.ps,.bool cf.plain]::entR A n c es::(R++wTop X cf (zeroA p o ro (3+5*(N:Int)) A' c' (zeroTs N)) zeroS ((zeroTs N).map itO))):=u;refine gon hK (cfg_cells u) fun hHeld=>?_;clear hK K;refine Rp.rd 3 fun K hK=>?_;have v:=Sep.allocMap u (HB.out _ d) .i64;have dv:=d.alloc (HB.out _ d) (.map #[] 0);go_simp;refine gon hK (cfg_cells (Sep.ord [1] v)) fun hHeld=>?_;clear hK K;generalize w2.alloc (.map #[] 0)=w3 at*;generalize w2.heap.size=r at*;have v':=v;have dv':=dv;clear v dv;have v:=Sep.alloc v' (HB.out _ dv') (wtC X cf r) 67;have dv:=dv'.alloc (HB.out _ dv') (.cells (wtC X cf r) 67);refine Rp.tk 4 hHeld ?_;refine Rp.rd 5 fun K hK=>?_;go_simp;refine gon hK (cfg_cells (Sep.ord [2] v)) fun hHeld=>?_
   clear hK K;refine Rp.tk 6 hHeld ?_;refine wpAnyH_done (by kernel_rfl) ?_ _;exact⟨(X,r,_),rfl,p,o,ro,A',c',v,dv⟩
  ·have v:=Sep.allocMap s3 (HB.out _ b4) .i64;have dv:=b4.alloc (HB.out _ b4) (.map #[] 0);go_simp;refine gon hK (cfg_cells (Sep.ord [1] v)) fun hHeld=>?_;clear hK K;generalize wd.alloc (.map #[] 0)=w3 at*;generalize wd.heap.size=r at*;refine Rp.rd 1 fun K hK=>?_;go_simp;refine(new_w (HB.out _ dv) HC.out.1 HC.out.2.1 v).mono ?_;rintro e0 w2 ⟨X,p,o,ro,A',c',rfl,u,d⟩;replace u:=toE u;have d:=dv.trans d;have u:At B w2 (mapR .i64 r []::blkR q 26 #[Ub cf.ob,Iv cf.th,Iv cf.cap,Iv cf.age,Iv cf.ps,.bool cf.plain]::entR A n c es::(R++wTop X cf (zeroA p o ro (3+5*(N:Int)) A' c' (zeroTs N)) zeroS ((zeroTs N).map itO))):=u;refine gon hK (cfg_cells (Sep.ord [1] u)) fun hHeld=>?_;clear hK K;have v':=u;have dv':=d;clear v dv u d;have v:=Sep.alloc v' (HB.out _ dv') (wtC X cf r) 67;have dv:=dv'.alloc (HB.out _ dv') (.cells (wtC X cf r) 67);refine Rp.tk 4 hHeld ?_;refine Rp.rd 5 fun K hK=>?_;go_simp;refine gon hK (cfg_cells (Sep.ord [2] v)) fun hHeld=>?_
   clear hK K;refine Rp.tk 6 hHeld ?_;refine wpAnyH_done (by kernel_rfl) ?_ _;exact⟨(X,r,_),rfl,p,o,ro,A',c',v,dv⟩
 rintro ⟨X,r,wb⟩ w3 ⟨p,o,ro,A',c',s4,c4⟩;simp only at s4 ⊢;refine hK0 _ _ ?_;clear hK0 K0 s3 b4
 have s5:At B w3 (wTop X cf (zeroA p o ro (3+5*(N:Int)) A' c' (zeroTs N)) zeroS ((zeroTs N).map itO++(wtR wb X cf r::mapR .i64 r []::(([]:List Mo).map moR++(entR A n c es::R))))):=
  toW (E:=wtR wb X cf r::mapR .i64 r []::(([]:List Mo).map moR++(entR A n c es::R))) (Sep.drop (Sep.ord [2] s4))
 have hmid:Mid N 0 cf (zeroA p o ro (3+5*(N:Int)) A' c' (zeroTs N)) zeroS ⟨⟨0,0,0,0,fun _=>0,fun _=>0,fun _=>0,fun _=>0,fun _=>0⟩,fun _=>⟨0,0,0,0,0,0,0,0,0,0,0,[]⟩,[],[],fun _ _=>False⟩ [] [] []:=by
  refine⟨?_,fun i hi h=>by simp at h,zero_ids N,?_,rfl⟩
  ·rw [show ((zeroA p o ro (3+5*(N:Int)) A' c' (zeroTs N)).T.map (·.t))=List.replicate N zeroT from zero_ts N];exact Jn.zero cf N
  ·have hs:Sl w3 93 13 A' (zeroTs N).length c' (trC (zeroTs N)) (fun x=>B≤x):=(s5.ord [1]).get;have h1:0<(zeroTs N).length:=by have:=HC.out.1.hth;have:=HC.out.2.1;simp [zeroTs];omega
   obtain⟨g,off,h,-⟩:=hs.at h1;exact⟨g,off,h⟩
 clear s4;go_wp2_with fail
 go_loopg [27] n (fun gk vi wr=>∃ (m:Nat) (a:Ad) (s:Wst) (ab:Abs) (L:List Int) (l:List (Int×Value)) (Ms:List Mo),vi=Iv (m:Int)∧m≤n∧n-m≤gk∧Mid N m cf a s ab L l Ms∧At B wr (wTop X cf a s (a.T.map itO++(wtR wb X cf r::mapR .i64 r l::(Ms.map moR++(entR A n c es::R)))))∧Below B w wr)
 case atStart=>exact⟨0,_,_,_,_,_,_,rfl,by omega,by omega,hmid,s5,c4⟩
 case round=>
  clear s5 c4 hmid;obtain⟨m,a,s,ab,L,l,Ms,rfl,hm,hgk,hmid,s5,c5⟩:=hrel;have hBr:=HB.out _ c5;have HM:=Lib.hid hmid;have HG:=Lib.hid hgk;clear hmid hgk
  by_cases hlt:m<n
  ·have hltz:(m:Int)<(n:Int):=by omega
   have hw:IntKind.i64.wrap ((m:Int)+1)=(m:Int)+1:=by have:=HC.out.2.2.1;rw [IntKind.wrap_i64];omega
   obtain⟨e,hx⟩:∃ e,es[m]? =some e:=⟨_,List.getElem?_eq_getElem (by rw [HC.out.2.2.2.2];exact hlt)⟩;obtain⟨R',hR⟩:=ent_get s5;have hs:Sl wr 60 5 A n c (es.flatMap etIn) (fun x=>B≤x):=hR.get;obtain⟨g,o,rfl,-,-,-,hc⟩:=hs.at (by omega);have e0:wr.cell? ⟨g,o+m*5,none⟩=some (Ub e.kind):=hc (m*5+0) _ (et_at es m e 0 hx (by omega));have e1:wr.cell? ⟨g,o+m*5+1,none⟩=some (Iv e.th):=by rw [Nat.add_assoc];exact hc (m*5+1) _ (et_at es m e 1 hx (by omega))
   have e2:wr.cell? ⟨g,o+m*5+2,none⟩=some (Ub e.ok):=by rw [Nat.add_assoc];exact hc (m*5+2) _ (et_at es m e 2 hx (by omega))
   have e3:wr.cell? ⟨g,o+m*5+3,none⟩=some (Iw e.ov):=by rw [Nat.add_assoc];exact hc (m*5+3) _ (et_at es m e 3 hx (by omega))
   have e4:wr.cell? ⟨g,o+m*5+4,none⟩=some (Ub e.bits):=by rw [Nat.add_assoc];exact hc (m*5+4) _ (et_at es m e 4 hx (by omega))
   have hee:=HC.out.2.2.2.1 e (List.mem_of_getElem? hx);have s6:=s5.alloc hBr #[Ub e.kind,Iv e.th,Ub e.ok,Iw e.ov,Ub e.bits] 60;have c6:=c5.alloc hBr (.cells #[Ub e.kind,Iv e.th,Ub e.ok,Iw e.ov,Ub e.bits] 60);have x0:=s6.blk.cell 0;have x1:=s6.blk.cell 1;have x2:=s6.blk.cell 2;have x3:=s6.blk.cell 3;have x4:=s6.blk.cell 4;have hth:=HC.out.1.hth;have hcn:=HC.out.2.1;have hnn:=HC.out.2.2.1;have hsee:=see_s (HB.out _ c6) (by omega) HC.out.2.1 (by omega) hee HM.out.d HM.out.j HM.out.g s6.drop;clear s5 s6 hR hs hc hx hth hcn hnn hee;go_wp2_with fail;refine hsee.mono ?_;rintro e0 w6 ⟨rfl,a',s',ab',L',l',Ms',j',g',hao,s7,c7⟩;have hm':Mid N (m+1) cf a' s' ab' L' l' Ms':=⟨j',g',HM.out.d.next hao⟩;clear hsee x0 x1 x2 x3 x4 e1 e2 e3 e4;go_wp2_with fail;go_roundg (gk-1)
   case measure=>have:=HG.out;omega
   case rel=>exact⟨m+1,a',s',ab',L',l',Ms',by go_num,by omega,by have:=HG.out;omega,hm',s7,c6.trans c7⟩
  ·have hltz:¬ (m:Int)<(n:Int):=by omega
   go_wp2_with fail
   go_ret2
   exact⟨rfl,run_end s5,c5⟩
end
theorem info_et:(Tryz.prog.info? 60).map (fun i=>(i.zero,i.size,i.bytes))=some (some (.agg #[Ub 0,Iv 0,Ub 0,Iw 0,Ub 0]),5,32):=by kernel_rfl
def pkE (i:Nat):Et:=⟨2,(i:Int),0,0,0⟩
def rds (t m:Nat):List Et:=(List.range m).flatMap fun _=>(List.range t).map pkE
theorem rds_succ (t m:Nat):rds t (m+1)=rds t m++(List.range t).map pkE:=by unfold rds;rw [List.range_succ,List.flatMap_append];simp
theorem rds_len (t m:Nat):(rds t m).length=m*t:=by
 induction m with
 | zero=>simp [rds]
 | succ m ih=>rw [rds_succ,List.length_append,ih,Nat.add_mul];simp
theorem pkE_ok (i:Nat):EtOk (pkE i):=⟨⟨by simp [pkE],by simp [pkE],by simp [pkE],by simp [pkE]⟩,by simp [pkE]⟩
theorem rds_ok (t m:Nat):∀ e∈rds t m,EtOk e:=by
 intro e he;unfold rds at he;obtain⟨_,_,h⟩:=List.mem_flatMap.1 he;obtain⟨i,_,rfl⟩:=List.mem_map.1 h;exact pkE_ok i
theorem et_snoc (l:List Et) (x:Et):(l++[x]).flatMap etIn=l.flatMap etIn++etIn x:=by simp [List.flatMap_append]
theorem one_et (x:Et):∀ u∈etIn x,u.oneCell'=true:=by intro u hu;simp [etIn] at hu;rcases hu with rfl | rfl | rfl | rfl | rfl<;>rfl
section
variable {B:Nat} {w:World} {L:List Res}
set_option maxHeartbeats 2000000 in
theorem Rounds_s (hB:B≤w.heap.size) (t m:Nat) (h1:1≤t) (h2:1≤m) (h3:t≤9) (h4:m≤120) (h:At B w L):
  Calls Tryz.prog 11 #[Iv (t:Int),Iv (m:Int)] w fun e w'=>∃ A c,e=.returned (.slice A (m*t) c)∧At B w' (entR A (m*t) c (rds t m)::L)∧Below B w w':=by
 obtain⟨i0,hi0,hz0,hz1,hz2⟩:=info_parts info_et;have HB:=Lib.hid (show ∀ W,Below B w W→B≤W.heap.size from fun _ b=>Nat.le_trans hB b.size);have hp:t*m≤9*120:=Nat.mul_le_mul h3 h4
 have hw:IntKind.i64.wrap ((t:Int)*(m:Int))=((t*m:Nat):Int):=by
  rw [show (t:Int)*(m:Int)=((t*m:Nat):Int) by simp];exact IntWalk.i64_in _ (by omega)
 have h5:¬ (t:Int)<1:=by omega
 have h6:¬ (m:Int)<1:=by omega
 have h7:¬ 20000<(t:Int):=by omega
 have h8:¬ 20000<(m:Int):=by omega
 have h9:¬ 20000<((t*m:Nat):Int):=by omega
 have HN:=Lib.hid (And.intro h1 (And.intro h2 (And.intro h3 h4)));generalize hP:((t*m:Nat):Int)=P at*;clear h1 h2 h3 h4 hp hP;go_enter Tryz.func11,Tryz.ntmps11;go_wp2_with fail;clear hw h5 h6 h7 h8 h9
 go_loopg [5,6] m (fun gk v k wr=>∃ (j s:Nat) (A':Option Addr) (c':Nat),j+gk=m∧k=Iv (j:Int)∧Hid (j*t=s)∧v=.slice A' s c'∧At B wr (entR A' s c' (rds t j)::L)∧Below B w wr)
 case atStart=>exact⟨0,0,none,0,by omega,rfl,Lib.hid (by simp),rfl,Sep.nilSl h 60 5,Below.refl _ _⟩
 case round=>
  clear h;obtain⟨j,s,A',c',hj,rfl,hs0,rfl,hs,hb⟩:=hrel
  by_cases hlt:j<m
  ·have hltz:(j:Int)<(m:Int):=by omega
   have hw:IntKind.i64.wrap ((j:Int)+1)=(j:Int)+1:=by have:=HN.out;rw [IntKind.wrap_i64];omega
   go_wp2_with fail
   go_loopg [5,7] t (fun g2 v k wr=>∃ (i s:Nat) (A':Option Addr) (c':Nat),i+g2=t∧k=Iv (i:Int)∧Hid (j*t+i=s)∧v=.slice A' s c'∧At B wr (entR A' s c' (rds t j++(List.range i).map pkE)::L)∧Below B w wr)
   case atStart=>exact⟨0,s,A',c',by omega,rfl,Lib.hid hs0.out,rfl,by simpa using hs,hb⟩
   case round=>
    clear hs hs0 hb hw;obtain⟨i,s,A',c',hi,rfl,hs0,rfl,hs,hb⟩:=hrel;have hBr:=HB.out _ hb
    by_cases hlt2:i<t
    ·have hltz2:(i:Int)<(t:Int):=by omega
     have hw:IntKind.i64.wrap ((i:Int)+1)=(i:Int)+1:=by have:=HN.out;rw [IntKind.wrap_i64];omega
     have hsN:s<2000:=by
      have h3:j*t≤120*9:=Nat.mul_le_mul (by have:=HN.out;omega) (by have:=HN.out;omega);have:=hs0.out;have:=HN.out;omega
     have H63:=Lib.hid (show s+1≤maxLen by simp only [maxLen];omega);have HBY:=Lib.hid (show (s+1)*32≤140737488355328 by omega);have s5:=(hs.alloc hBr #[Ub 2,Iv (i:Int),Ub 0,Iw 0,Ub 0] 60).ox [1];have b5:=hb.alloc hBr (.cells #[Ub 2,Iv (i:Int),Ub 0,Iw 0,Ub 0] 60);have hle5:=HB.out _ b5;clear hsN;go_wp2_with (at_builtin;refine wpList_append_at rfl (.tmp 38) (.tmp 41) _ rfl 60 i0 _ 5 32 Tryz.underlying23 hi0 hz0 hz1 hz2 rfl (by omega) rfl s5 hle5 (· =wr.heap.size) (some ⟨wr.heap.size,0,none⟩) 1 1 (etIn (pkE i)) rfl (by exact Rd.lit (sz:=5) wr 60 #[Ub 2,Iv (i:Int),Ub 0,Iw 0,Ub 0] 1 rfl) (one_et _) H63.out HBY.out ?_;intro A6 c6 w6 s6 b7;replace b7:=b5.trans b7;clear s5 b5);go_roundg (gk-1)
     case measure=>omega
     case rel=>
      refine⟨i+1,s+1,A6,c6,by omega,by go_num,Lib.hid (by rw [← Nat.add_assoc,hs0.out]),rfl,?_,b7⟩;unfold entR;rw [List.range_succ,List.map_append,←List.append_assoc,List.map_cons,List.map_nil,et_snoc];exact s6.cons fun _ h=>h.drop
    ·obtain rfl:i=t:=by omega
     have hltz2:¬ (i:Int)<(i:Int):=by omega
     have hw:IntKind.i64.wrap ((j:Int)+1)=(j:Int)+1:=by have:=HN.out;rw [IntKind.wrap_i64];omega
     go_wp2_with fail;go_roundg (m-j-1)
     case measure=>omega
     case rel=>exact⟨j+1,s,A',c',by omega,by go_num,Lib.hid (by rw [Nat.add_mul,Nat.one_mul,hs0.out]),rfl,by rw [rds_succ];exact hs,hb⟩
  ·have hltz:¬ (j:Int)<(m:Int):=by omega
   obtain rfl:j=m:=by omega
   go_wp2_with fail;go_ret;obtain rfl:=hs0.out;exact⟨A',c',rfl,hs,hb⟩
end
abbrev u8s (l:List Int):List Value:=l.map (.int .u8 ·)
def U8s (l:List Int):Prop:=∀ x∈l,0≤x∧x≤255
section
variable {A:Option Addr} {n c:Nat} {xs:List Int} {R:Nat→Prop}
theorem func8_any (w:World) (hr:Rd w R 1 A n (u8s xs)) (hx:U8s xs) (k:Nat):Calls Tryz.prog 13 #[.slice A n c,Iv (k:Int)] w fun e w'=>(∃ x:Int,e=.returned (Iv x)∧0≤x∧x≤255)∧w=w':=by
 have hl:xs.length=n:=by simpa using hr.1
 by_cases hk:k<n
 ·have hd:¬ (n:Int)≤(k:Int):=by omega
  obtain⟨g,off,rfl,-,hc⟩:=hr.at (by omega);obtain⟨x,hxx⟩:∃ x,xs[k]? =some x:=⟨_,List.getElem?_eq_getElem (by omega)⟩;have hcell:=hc k (Ub x) (by simp [hxx]);have hb:=Lib.hid (hx x (List.mem_of_getElem? hxx));have hw:IntKind.i64.wrap x=x:=by have:=hb.out;rw [IntKind.wrap_i64];omega
  have hltz:(k:Int)<(n:Int):=by omega
  clear hr hx hl hc hxx hk;go_enter Tryz.func13,Tryz.ntmps13;go_wp2_with fail;go_ret;exact⟨⟨x,rfl,hb.out⟩,rfl⟩
 ·have hd:(n:Int)≤(k:Int):=by omega
  clear hr hx hl hk;go_enter Tryz.func13,Tryz.ntmps13;go_wp2_with fail;go_ret;exact⟨⟨0,rfl,by omega,by omega⟩,rfl⟩
theorem w64 {z:Int} (h:0≤z∧z≤100000):wrap64 z=z:=IntWalk.wrap64_in z (by omega)
theorem cf_nums {x y:Int} (hx:0≤x∧x≤255) (hy:0≤y∧y≤255):
  wrap64 (1+x.tmod 3)%256=1+x%3∧wrap64 (1+(wrap64 (x.tdiv 3)).tmod 4)=1+x/3%4∧wrap64 (1+(wrap64 (x.tdiv 12)).tmod 6)=1+x/12%6∧wrap64 (1+y.tmod 3)=1+y%3∧wrap64 (1+(wrap64 (y.tdiv 3)).tmod 3)=1+y/3%3:=by
 have e1:x.tdiv 3=x/3:=Int.tdiv_eq_ediv_of_nonneg (by omega);have e2:x.tdiv 12=x/12:=Int.tdiv_eq_ediv_of_nonneg (by omega);have e3:y.tdiv 3=y/3:=Int.tdiv_eq_ediv_of_nonneg (by omega);have e4:x.tmod 3=x%3:=Int.tmod_eq_emod_of_nonneg (by omega);have e5:y.tmod 3=y%3:=Int.tmod_eq_emod_of_nonneg (by omega);rw [e1,e2,e3,e4,e5,w64 (z:=x/3) (by omega),w64 (z:=x/12) (by omega),w64 (z:=y/3) (by omega)];have e6:(x/3).tmod 4=x/3%4:=Int.tmod_eq_emod_of_nonneg (by omega);have e7:(x/12).tmod 6=x/12%6:=Int.tmod_eq_emod_of_nonneg (by omega);have e8:(y/3).tmod 3=y/3%3:=Int.tmod_eq_emod_of_nonneg (by omega);rw [e6,e7,e8,w64 (z:=1+x%3) (by omega),w64 (z:=1+x/3%4) (by omega),w64 (z:=1+x/12%6) (by omega),w64 (z:=1+y%3) (by omega),w64 (z:=1+y/3%3) (by omega)];exact⟨by omega,rfl,rfl,rfl,rfl⟩
theorem Config_any (w:World) (hr:∀ W,Below w.heap.size w W→Rd W R 1 A n (u8s xs)) (hx:U8s xs):Calls Tryz.prog 12 #[.slice A n c] w fun e w'=>(∃ cf:Cf,e=.returned (cfv cf)∧CfOk cf)∧Below w.heap.size w w':=by
 have b1:=(Below.refl w.heap.size w).alloc (Nat.le_refl _) (.cells #[Ub 0,Iv 0,Iv 0,Iv 0,Iv 0,.bool false] 26);have h1:=func8_any (c:=c) _ (hr _ b1) hx 0;have h2:=func8_any (c:=c) _ (hr _ b1) hx 1;clear hr hx;go_enter Tryz.func12,Tryz.ntmps12;go_wp2_with fail;refine h1.mono ?_;rintro e w1 ⟨⟨x,rfl,hx⟩,rfl⟩;clear h1;have HX:=Lib.hid hx;clear hx;go_wp2_with fail;refine h2.mono ?_;rintro e w1 ⟨⟨y,rfl,hy⟩,rfl⟩;clear h2;have HY:=Lib.hid hy;clear hy;go_wp2_with fail;obtain⟨n1,n2,n3,n4,n5⟩:=cf_nums HX.out HY.out;generalize wrap64 (1+x.tmod 3)%256=v1 at*;generalize wrap64 (1+(wrap64 (x.tdiv 3)).tmod 4)=v2 at*;generalize wrap64 (1+(wrap64 (x.tdiv 12)).tmod 6)=v3 at*;generalize wrap64 (1+y.tmod 3)=v4 at*;generalize wrap64 (1+(wrap64 (y.tdiv 3)).tmod 3)=v5 at*;refine bodyPost_ret (v:=cfv ⟨v1,v2,v3,v4,v5,decide (128≤y)⟩) (by simp [results,Tryz.results12,go_sem]) rfl ?_;refine⟨⟨_,rfl,?_⟩,(Below.refl _ _).alloc (Nat.le_refl _) _⟩
 have:=HX.out;have:=HY.out;exact⟨by simp only;omega,by simp only;omega,by simp only;omega,by simp only;omega,by simp only;omega⟩
theorem wide_s {B:Nat} {L:List Res} (w:World) (hB:B≤w.heap.size) (h:At B w L) (hr:∀ W,Below w.heap.size w W→Rd W R 1 A n (u8s xs)) (hx:U8s xs) {th:Int} (ht:0≤th∧th≤255):Calls Tryz.prog 5 #[.slice A n c,Ub th] w fun e w'=>(∃ cf:Cf,e=.returned (cfv cf)∧CfOk cf)∧At B w' L∧Below B w w':=by
 have HB:=Lib.hid (show ∀ W,Below B w W→B≤W.heap.size from fun _ b=>Nat.le_trans hB b.size);have b1:=(Below.refl w.heap.size w).alloc (Nat.le_refl _) (.cells #[Ub 0,Iv 0,Iv 0,Iv 0,Iv 0,.bool false] 26);have s1:=h.alloc hB #[Ub 0,Iv 0,Iv 0,Iv 0,Iv 0,.bool false] 26;have h1:=Config_any (c:=c) (R:=R) _ (fun W hW=>hr W (b1.trans (hW.mono b1.size))) hx;have b1':=b1.mono hB;have HT:=Lib.hid ht
 have hw:wrap64 (1+th.tmod 9)=1+th%9:=by
  rw [Int.tmod_eq_emod_of_nonneg (by omega)];exact w64 (by omega)
 have hw0:wrap64 (th.tmod 9)=th.tmod 9:=by
  rw [Int.tmod_eq_emod_of_nonneg (by omega)];exact w64 (by omega)
 clear hr hx ht h b1;go_enter Tryz.func5,Tryz.ntmps5;go_wp2_with fail;generalize w.alloc (.cells #[Ub 0,Iv 0,Iv 0,Iv 0,Iv 0,.bool false] 26)=w0 at*;have hB0:=HB.out _ b1';generalize w.heap.size=q at*;refine h1.mono ?_;rintro e w1 ⟨⟨cf,rfl,hcf⟩,b2⟩;clear h1;have HC:=Lib.hid hcf;have s2:=s1.keep b2;have b2':=b1'.trans (b2.mono hB0);clear s1 b2 hcf;have s3:=(s2.alloc (HB.out _ b2') #[Ub cf.ob,Iv (1+th%9),Iv cf.cap,Iv cf.age,Iv cf.ps,.bool cf.plain] 26).ox [1];have b3:=b2'.alloc (HB.out _ b2') (.cells #[Ub cf.ob,Iv (1+th%9),Iv cf.cap,Iv cf.age,Iv cf.ps,.bool cf.plain] 26);have y0:=s3.blk.cell 0;have f0:=s3.blk.frozen 0;have y1:=s3.blk.cell 1;have f1:=s3.blk.frozen 1;have y2:=s3.blk.cell 2;have f2:=s3.blk.frozen 2;have y3:=s3.blk.cell 3;have f3:=s3.blk.frozen 3;have y4:=s3.blk.cell 4;have f4:=s3.blk.frozen 4;have y5:=s3.blk.cell 5;have f5:=s3.blk.frozen 5;obtain⟨t0,e0⟩:=bset (HB.out _ b3) s3 0 (Ub cf.ob)
 have d0:=b3.trans e0;obtain⟨t1,e1⟩:=bset (HB.out _ d0) t0 1 (Iv (1+th%9));have d1:=d0.trans e1;obtain⟨t2,e2⟩:=bset (HB.out _ d1) t1 2 (Iv cf.cap);have d2:=d1.trans e2;obtain⟨t3,e3⟩:=bset (HB.out _ d2) t2 3 (Iv cf.age);have d3:=d2.trans e3;obtain⟨t4,e4⟩:=bset (HB.out _ d3) t3 4 (Iv cf.ps);have d4:=d3.trans e4;obtain⟨t5,e5⟩:=bset (HB.out _ d4) t4 5 (.bool cf.plain);have d5:=d4.trans e5;have x0:=t5.blk.cell 0;have x1:=t5.blk.cell 1;have x2:=t5.blk.cell 2;have x3:=t5.blk.cell 3;have x4:=t5.blk.cell 4;have x5:=t5.blk.cell 5;have T:=Lib.hid (And.intro t5 (And.intro d5 (And.intro x0 (And.intro x1 (And.intro x2 (And.intro x3 (And.intro x4 x5)))))));clear t0 t1 t2 t3 t4 t5 e0 e1 e2 e3 e4 e5 d0 d1 d2 d3 d4 d5 x0 x1 x2 x3 x4 x5 s3 s2 b3 b2' b1';go_wp2_with fail;obtain⟨t5,d5,x0,x1,x2,x3,x4,x5⟩:=T.out;refine bodyPost_ret (v:=cfv ⟨cf.ob,1+th%9,cf.cap,cf.age,cf.ps,cf.plain⟩) (by simp [results,Tryz.results5,go_sem,x0,x1,x2,x3,x4,x5]) rfl ?_
 refine⟨⟨_,rfl,?_⟩,t5.drop.drop,d5⟩;obtain⟨h1,h2,h3,h4,h5⟩:=HC.out;have:=HT.out;exact⟨h1,by simp only;omega,h3,h4,h5⟩
end
end Go.Proofs.YtadgbhjpgnlmoaaGreat
namespace Go.Rp
open Go.RowKit
theorem wpList_append_lit {P:Program} {w0 w:World} {B:Nat} {L:List Res} {ops:Array Oper} {rest:List Oper} {o:Oper} {a:Act} {Q:Exit→Act→World→Prop} (hgd:o.guard=none) (s x:Operand) (t:TypeId)
  (ho:o.op=.call { callee:=.builtin .append,args:=#[s,x],argTypes:=#[t,t]})
  (e:TypeId) (i:TypeInfo) (z:Value) (sz bytes:Nat) (ht:P.underlying t=some (.slice e)) (hi:P.info? e=some i) (hz:i.zero=some z)
  (hsize:i.size=sz) (hby:i.bytes=bytes) (hzs:z.cells.size=sz) (hsz:0<sz)
  {A:Option Addr} {n c:Nat} {xs:List Value} (hs:a.eval s=.slice A n c) (hat:Sep w0 (fun x=>B≤x) (slRes e sz A n c xs::L)) (hB:B≤w0.heap.size)
  (cs:Array Value) (hw:w=w0.alloc (.cells cs e)) (m c2:Nat) (hx:a.eval x=.slice (some ⟨w0.heap.size,0,none⟩) m c2) (hm:cs.size=m*sz) (h1:∀ u∈cs.toList,u.oneCell'=true)
  (h63:n+m≤maxLen) (hbytes:(n+m)*bytes≤140737488355328)
  (h:∀ A' c' w',Sep w' (fun x=>B≤x) (slRes e sz A' (n+m) c' (xs++cs.toList)::L)→Below B w0 w'→wpList P ops Q rest (a.put o.dst (.slice A' (n+m) c')) w'):wpList P ops Q (o::rest) a w:=by
 subst hw;have s1:=(hat.alloc hB cs e).rot2;have b1:=(Below.refl B w0).alloc hB (.cells cs e);exact wpList_append_at hgd s x t ho e i z sz bytes ht hi hz hsize hby hzs hsz hs s1 (Nat.le_trans hB b1.size) (· =w0.heap.size) _ m c2 cs.toList hx (Rd.lit (sz:=sz) w0 e cs m hm) h1 h63 hbytes fun A' c' w' h2 h3=>h A' c' w' (h2.cons fun _ h=>h.drop) (b1.trans h3)
end Go.Rp
namespace Go.Proofs.YtadgbhjpgnlmoaaGreat
open Go.RowKit Go.Rp Go.Sf
set_option maxRecDepth 100000
section
variable {A:Option Addr} {n c:Nat} {xs:List Int} {R:Nat→Prop} {B:Nat} {L:List Res}
structure Es (k:Nat) (es:List Et):Prop where
 len:es.length=k
 ok:∀ e∈es,EtOk e
theorem Es.one {k:Nat} {es:List Et} (h:Es k es) {x:Et} (hx:EtOk x):Es (k+1) (es++[x]):=
 ⟨by simp [h.len],fun e he=>by rcases List.mem_append.1 he with h1 | h1;exact h.ok e h1;rw [List.mem_singleton.1 h1];exact hx⟩
theorem Es.app {k m:Nat} {es fs:List Et} (h:Es k es) (g:Es m fs):Es (k+m) (es++fs):=
 ⟨by simp [h.len,g.len],fun e he=>by rcases List.mem_append.1 he with h1 | h1;exact h.ok e h1;exact g.ok e h1⟩
theorem w32r (z:Int): -2147483648≤wrap32 z∧wrap32 z≤2147483647:=by unfold wrap32;omega
theorem ent_ok1 (kd th a z:Int):EtOk ⟨kd,th,a%256,wrap32 z,0⟩:=⟨⟨by simp only;omega,by simp only;omega,(w32r z).1,(w32r z).2⟩,by simp⟩
theorem ent_ok0 (kd th:Int):EtOk ⟨kd,th,0,0,0⟩:=⟨⟨by simp,by simp,by simp,by simp⟩,by simp⟩
theorem ent_ok2 (kd th z:Int) (h:0≤z∧z≤255):EtOk ⟨kd,th,0,0,z⟩:=⟨⟨by simp,by simp,by simp,by simp⟩,h⟩
theorem xor_u8 (x y:Int):0≤bits .xor .u8 x y∧bits .xor .u8 x y≤255:=by
 unfold bits
 split<;>(simp only [IntKind.wrap_u8];omega)
theorem et_put2 {w:World} {k:Nat} {es:List Et} {kd th ok ov bits kd' th' ok' ov' bits':Int} (h:Sep w (fun x=>B≤x) (slRes 60 5 A k c (es.flatMap etIn++[Ub kd,Iv th,Ub ok,Iw ov,Ub bits,Ub kd',Iv th',Ub ok',Iw ov',Ub bits'])::L)):At B w (entR A k c ((es++[⟨kd,th,ok,ov,bits⟩])++[⟨kd',th',ok',ov',bits'⟩])::L):=by
 unfold entR;rw [et_snoc,et_snoc,List.append_assoc];exact h
theorem et_put {w:World} {k:Nat} {es:List Et} {kd th ok ov bits:Int} (h:Sep w (fun x=>B≤x) (slRes 60 5 A k c (es.flatMap etIn++[Ub kd,Iv th,Ub ok,Iw ov,Ub bits])::L)):At B w (entR A k c (es++[⟨kd,th,ok,ov,bits⟩])::L):=by
 unfold entR;rw [et_snoc];exact h
end
theorem min_two (ats:Array TypeId) (ty:TypeId):Go.Builtin.min_ ats ty #[Iv 2,Iv 2]=(pure (Iv 2):Sem Value):=rfl
def callE:List Et:=[⟨1,0,1,7,0⟩,⟨1,1,2,0,0⟩]
section
variable {B b1 b2:Nat} {w:World} {L:List Res}
set_option maxHeartbeats 2000000 in
theorem Calls_s (hB:B≤w.heap.size) (h:At B w (blkR b1 3 #[Iv 0,Iv 1]::blkR b2 45 #[Ub 1,Iw 7,Ub 2,Iw 0]::L)):
  Calls Tryz.prog 10 #[.slice (some ⟨b1,0,none⟩) 2 2,.slice (some ⟨b2,0,none⟩) 2 2] w fun e w'=>∃ A c,e=.returned (.slice A 2 c)∧At B w' (entR A 2 c callE::L)∧Below B w w':=by
 obtain⟨i0,hi0,hz0,hz1,hz2⟩:=info_parts info_et;have HB:=Lib.hid (show ∀ W,Below B w W→B≤W.heap.size from fun _ b=>Nat.le_trans hB b.size);have hmin:=min_two;go_enter Tryz.func10,Tryz.ntmps10;go_wp2_with fail
 go_loopg [5,12] 2 (fun gk v k wr=>∃ (j:Nat) (A':Option Addr) (c':Nat),j≤2∧2-j≤gk∧k=Iv (j:Int)∧v=.slice A' j c'∧At B wr (entR A' j c' (callE.take j)::blkR b1 3 #[Iv 0,Iv 1]::blkR b2 45 #[Ub 1,Iw 7,Ub 2,Iw 0]::L)∧Below B w wr)
 case atStart=>exact⟨0,none,0,by omega,by omega,rfl,rfl,Sep.nilSl h 60 5,Below.refl _ _⟩
 case round=>
  clear h;obtain⟨j,A',c',hj,hgk,rfl,rfl,s1,d1⟩:=hrel;have HG:=Lib.hid hgk;clear hgk
  rcases(show j=0∨j=1∨j=2 by omega) with rfl | rfl | rfl
  ·skip
   have x0:=s1.drop.blk.cell 0;have x1:=s1.drop.drop.blk.cell 0;have x2:=s1.drop.drop.blk.cell 1;have s2:=s1.drew;have c2:=d1.drew;go_wp2_with fail;refine wp_region_held_drew (S:=fun w'=>w'.cell? ⟨b1,0,none⟩=some (Iv 0)∧w'.cell? ⟨b2,0,none⟩=some (Ub 1)∧w'.cell? ⟨b2,1,none⟩=some (Iw 7)) (by kernel_rfl) ⟨x0,x1,x2⟩ fun hHeld=>?_;generalize wr.drew=wd at*;clear s1 d1 x0 x1 x2;have hB2:=HB.out _ c2;refine Rp.tk 0 hHeld ?_;refine Rp.tk 1 hHeld ?_;refine Rp.tk 2 hHeld ?_;refine Rp.tk 3 hHeld ?_;refine Rp.tk 4 hHeld ?_;refine Rp.tk 5 hHeld ?_;refine Rp.tk 6 hHeld ?_;refine Rp.tk 7 hHeld ?_;refine Rp.tk 8 hHeld ?_;refine Rp.tk 9 hHeld ?_;refine Rp.rd 10 fun K hK=>?_;have s3:=s2.alloc hB2 #[Ub 1,Iv 0,Ub 1,Iw 7,Ub 0] 60;have c3:=c2.alloc hB2 (.cells #[Ub 1,Iv 0,Ub 1,Iw 7,Ub 0] 60);go_simp;generalize wd.alloc (.cells #[Ub 1,Iv 0,Ub 1,Iw 7,Ub 0] 60)=w3 at*;generalize wd.heap.size=g3 at*;have t2:=s3.ox [1]
   have hB3:=HB.out _ c3;refine gon hK ⟨s3.drop.drop.blk.cell 0,s3.drop.drop.drop.blk.cell 0,s3.drop.drop.drop.blk.cell 1⟩ fun hHeld=>?_;clear hK K;refine Rp.rd 11 fun K hK=>?_;refine step_append_at rfl (.tmp 15) (.tmp 25) _ rfl 60 i0 _ 5 32 Tryz.underlying23 hi0 hz0 hz1 hz2 rfl (by omega) rfl t2 hB3 (· =g3) (some ⟨g3,0,none⟩) 1 1 [Ub 1,Iv 0,Ub 1,Iw 7,Ub 0] rfl (Rd.of_blk (R:=(· =g3)) s3.blk rfl 1 rfl) (by simp [Value.oneCell']) (by simp [maxLen]) (by omega) ?_;intro A6 c6 w6 s6 d6;replace d6:=c3.trans d6;refine gon hK ⟨s6.drop.drop.blk.cell 0,s6.drop.drop.drop.blk.cell 0,s6.drop.drop.drop.blk.cell 1⟩ fun hHeld=>?_;clear hK K;refine Rp.tk 12 hHeld ?_;refine wpAnyH_done (by kernel_rfl) ?_ _;clear hHeld t2 s3 s2;go_wp2_with fail;go_roundg (gk-1)
   case measure=>have:=HG.out;omega
   case rel=>exact⟨0+1,A6,c6,by omega,by have:=HG.out;omega,rfl,rfl,s6.cons fun _ h=>h.drop,d6⟩
  ·skip
   have x0:=s1.drop.blk.cell 1;have x1:=s1.drop.drop.blk.cell 2;have x2:=s1.drop.drop.blk.cell 3;have s2:=s1.drew;have c2:=d1.drew;go_wp2_with fail;refine wp_region_held_drew (S:=fun w'=>w'.cell? ⟨b1,1,none⟩=some (Iv 1)∧w'.cell? ⟨b2,2,none⟩=some (Ub 2)∧w'.cell? ⟨b2,3,none⟩=some (Iw 0)) (by kernel_rfl) ⟨x0,x1,x2⟩ fun hHeld=>?_;generalize wr.drew=wd at*;clear s1 d1 x0 x1 x2;have hB2:=HB.out _ c2;refine Rp.tk 0 hHeld ?_;refine Rp.tk 1 hHeld ?_;refine Rp.tk 2 hHeld ?_;refine Rp.tk 3 hHeld ?_;refine Rp.tk 4 hHeld ?_;refine Rp.tk 5 hHeld ?_;refine Rp.tk 6 hHeld ?_;refine Rp.tk 7 hHeld ?_;refine Rp.tk 8 hHeld ?_;refine Rp.tk 9 hHeld ?_;refine Rp.rd 10 fun K hK=>?_;have s3:=s2.alloc hB2 #[Ub 1,Iv 1,Ub 2,Iw 0,Ub 0] 60;have c3:=c2.alloc hB2 (.cells #[Ub 1,Iv 1,Ub 2,Iw 0,Ub 0] 60);go_simp;generalize wd.alloc (.cells #[Ub 1,Iv 1,Ub 2,Iw 0,Ub 0] 60)=w3 at*;generalize wd.heap.size=g3 at*;have t2:=s3.ox [1]
   have hB3:=HB.out _ c3;refine gon hK ⟨s3.drop.drop.blk.cell 1,s3.drop.drop.drop.blk.cell 2,s3.drop.drop.drop.blk.cell 3⟩ fun hHeld=>?_;clear hK K;refine Rp.rd 11 fun K hK=>?_;refine step_append_at rfl (.tmp 15) (.tmp 25) _ rfl 60 i0 _ 5 32 Tryz.underlying23 hi0 hz0 hz1 hz2 rfl (by omega) rfl t2 hB3 (· =g3) (some ⟨g3,0,none⟩) 1 1 [Ub 1,Iv 1,Ub 2,Iw 0,Ub 0] rfl (Rd.of_blk (R:=(· =g3)) s3.blk rfl 1 rfl) (by simp [Value.oneCell']) (by simp [maxLen]) (by omega) ?_;intro A6 c6 w6 s6 d6;replace d6:=c3.trans d6;refine gon hK ⟨s6.drop.drop.blk.cell 1,s6.drop.drop.drop.blk.cell 2,s6.drop.drop.drop.blk.cell 3⟩ fun hHeld=>?_;clear hK K;refine Rp.tk 12 hHeld ?_;refine wpAnyH_done (by kernel_rfl) ?_ _;clear hHeld t2 s3 s2;go_wp2_with fail;go_roundg (gk-1)
   case measure=>have:=HG.out;omega
   case rel=>exact⟨1+1,A6,c6,by omega,by have:=HG.out;omega,rfl,rfl,s6.cons fun _ h=>h.drop,d6⟩
  ·go_wp2_with fail;go_ret;exact⟨A',c',rfl,s1.cons fun _ h=>h.drop.drop,d1⟩
end
end Go.Proofs.YtadgbhjpgnlmoaaGreat
