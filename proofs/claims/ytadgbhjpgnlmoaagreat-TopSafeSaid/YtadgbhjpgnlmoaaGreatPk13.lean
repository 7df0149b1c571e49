/- TopSafe, a part of its proof; no conditions. -/
import Derived.BigRegion
import Derived.Test.YtadgbhjpgnlmoaaGreatPk09
set_option linter.all false
namespace Go.Proofs.YtadgbhjpgnlmoaaGreat
open Go.RowKit Go.Rp
set_option maxRecDepth 100000
abbrev pls (l:List Nat):List Value:=l.map fun(x:Nat)=>Iv (x:Int)
abbrev plR (A:Option Addr) (n c:Nat) (l:List Nat):Res:=slRes 3 1 A n c (pls l)
theorem own_cell {B g off n c sz e k:Nat} {w:World} {xs:List Value} {L:List Res} {u:Value} (hB:B≤w.heap.size) (hsz:0<sz) (h:At B w (slRes e sz (some ⟨g,off,none⟩) n c xs::L)) (hu:xs[k]? =some u):
  w.cell? ⟨g,off+k,none⟩=some u∧w.frozen? ⟨g,off+k,none⟩=false∧∀ v,At B (w.setCell ⟨g,off+k,none⟩ v) (slRes e sz (some ⟨g,off,none⟩) n c (xs.set k v)::L)∧Below B w (w.setCell ⟨g,off+k,none⟩ v):=by
 have hk:k<xs.length:=(List.getElem?_eq_some_iff.1 hu).1;obtain⟨S,h1,h2,h3⟩:=h.front (a':=slRes e sz (some ⟨g,off,none⟩) n c (xs.set k u)) fun x hx=>Nat.le_trans hB hx;have h1':Sl w e sz (some ⟨g,off,none⟩) n c xs S:=h1;have hlen:=h1'.1
 have hn:0<n:=by
  rcases Nat.eq_zero_or_pos n with h0 | h0
  ·subst h0;simp at hlen;subst hlen;simp at hk
  ·exact h0
 obtain⟨g',off',hA,hg,hlt,hfz,hx⟩:=h1'.at hn;simp at hA;obtain⟨rfl,rfl⟩:=hA;refine⟨hx k u hu,hfz _,fun v=>?_⟩;obtain⟨S,h1,h2,h3⟩:=h.front (a':=slRes e sz (some ⟨g,off,none⟩) n c (xs.set k v)) fun x hx=>Nat.le_trans hB hx;have h1':Sl w e sz (some ⟨g,off,none⟩) n c xs S:=h1
 have hgS:S g:=by
  obtain⟨g',off',hA,hg,_⟩:=h1'.at hn;simp at hA;rw [hA.1];exact hg
 exact⟨h3 _ ((Sl.set h1' (g:=g) (off:=off) rfl k (by rw [← hlen];exact hk) v).mono grow_left) ((Mod.refl S w).setCell (p:=⟨g,off+k,none⟩) (.inl hgS) _),(Below.refl B w).setCell (h2 g hgS).1 _⟩
theorem perm_swap (l:List Nat) (j:Nat) (hj:j+1<l.length):((l.set (j+1) l[j]).set j l[j+1]).Perm l:=by
 induction l generalizing j with
 | nil=>simp at hj
 | cons a l ih=>
  rcases j with _ | j
  ·rcases l with _ | ⟨b,l⟩
   ·simp at hj
   ·simpa using List.Perm.swap a b l
  ·simpa using ih j (by simpa using hj)
section
variable {B n off g c N:Nat} {w:World} {L:List Res} {xs:List Nat} {f:FuncId} {cb:Array Value} {cf:Nat→Nat→Int}
set_option maxHeartbeats 4000000 in
theorem ins_s (hB:B≤w.heap.size) (hn:xs.length=n) (hn2:n≤1000) (hN:∀ x∈xs,x<N)
  (eg:∀ args w,(callFunc f args).run Tryz.prog w=.ok (.enter f args) w)
  (hcmp:∀ (W:World) (ys:List Nat) (i j:Nat),B≤W.heap.size→i<N→j<N→At B W (plR (some ⟨g,off,none⟩) n c ys::L)→Calls Tryz.prog f (#[Iv (i:Int),Iv (j:Int)]++cb) W fun e W'=>e=.returned (Iv (cf i j))∧At B W' (plR (some ⟨g,off,none⟩) n c ys::L)∧Below B W W')
  (h:At B w (plR (some ⟨g,off,none⟩) n c xs::L)):
  Calls Tryz.prog 186 #[.slice (some ⟨g,off,none⟩) n c,Iv 0,Iv (n:Int),.func (.func f) #[] cb] w fun e w'=>∃ ys,e=.returned (.tuple #[])∧ys.Perm xs∧At B w' (plR (some ⟨g,off,none⟩) n c ys::L)∧Below B w w':=by
 have HN:=Lib.hid hn;have HM:=Lib.hid hN;have HC:=Lib.hid hcmp;clear hn hN hcmp;go_enter Tryz.func186,Tryz.ntmps186;go_wp2_with fail
 go_loopg [8] n (fun gk vi wr=>∃ (i:Nat) (ys:List Nat),vi=Iv (i:Int)∧1≤i∧i≤n+1∧n+1-i≤gk+1∧ys.Perm xs∧At B wr (plR (some ⟨g,off,none⟩) n c ys::L)∧Below B w wr)
 case atStart=>exact⟨1,xs,rfl,by omega,by omega,by omega,List.Perm.refl _,h,Below.refl _ _⟩
 case round=>
  obtain⟨i,ys,rfl,h1i,hin,hgk,hp,s1,b1⟩:=hrel;obtain⟨go,hgo⟩:∃ k,k=gk:=⟨_,rfl⟩;rw [← hgo] at hgk;have hgo:=Lib.hid hgo
  by_cases hlt:i<n
  ·have hltz:(i:Int)<(n:Int):=by omega
   go_wp2_with fail
   go_loopg [9] i (fun g2 vj wr2=>∃ (j:Nat) (zs:List Nat),vj=Iv (j:Int)∧j≤i∧j≤g2∧zs.Perm xs∧At B wr2 (plR (some ⟨g,off,none⟩) n c zs::L)∧Below B w wr2)
   case atStart=>exact⟨i,ys,rfl,Nat.le_refl _,Nat.le_refl _,hp,s1,b1⟩
   case round=>
    clear s1 b1 hp;obtain⟨j,zs,rfl,hji,hg2,hq,s2,b2⟩:=hrel
    rcases Nat.eq_zero_or_pos j with h0 | h0
    ·subst h0;have d0:decide ((0:Int)<0)=false:=by decide
     go_wp2_with fail;go_quiet (fail);go_wp2_with fail;go_roundg (go-1)
     case measure=>rw [hgo.out];omega
     case rel=>exact⟨i+1,zs,by go_num,by omega,by omega,by omega,hq,s2.drewN nq,below_drewN b2 nq⟩
    ·obtain⟨k,rfl⟩:∃ k,j=k+1:=⟨j-1,by omega⟩;have hBr:=Nat.le_trans hB b2.size;have hl:zs.length=n:=hq.length_eq.trans HN.out;have hk1:k+1<zs.length:=by omega
     have i1:((k:Int)+1).toNat=k+1:=by omega
     have i2:(0:Int)≤(k:Int)+1:=by omega
     have i3:(k:Int)+1<(n:Int):=by omega
     have i4:(k:Int)<(n:Int):=by omega
     have i5:(0:Int)≤(k:Int):=by omega
     have i6:IntKind.i64.wrap (k:Int)=(k:Int):=by rw [IntKind.wrap_i64];omega
     have hx:zs[k+1]'hk1<N:=HM.out _ (hq.mem_iff.1 (List.getElem_mem _));have hy:zs[k]'(by omega)<N:=HM.out _ (hq.mem_iff.1 (List.getElem_mem _));obtain⟨c1,f1,t1⟩:=own_cell hBr (by decide) s2 (k:=k+1) (u:=Iv ((zs[k+1]'hk1:Nat):Int)) (by simp [hk1]);obtain⟨c0,f0,_⟩:=own_cell hBr (by decide) s2 (k:=k) (u:=Iv ((zs[k]'(by omega):Nat):Int)) (by simp [show k<zs.length by omega]);have hsw:=Lib.hid (perm_swap zs k hk1);obtain⟨x,hx'⟩:∃ x,x=zs[k+1]'hk1:=⟨_,rfl⟩;obtain⟨y,hy'⟩:∃ y,y=zs[k]'(by omega):=⟨_,rfl⟩;rw [← hx'] at hx c1 hsw;rw [← hy'] at hy c0 hsw;have HX1:Hid ((pls zs)[k+1]? =some (Iv (x:Int))):=Lib.hid (by simp [hk1,hx']);have HX0:Hid ((pls zs)[k]? =some (Iv (y:Int))):=Lib.hid (by simp [show k<zs.length by omega,hy']);clear hx' hy' hl;have dgt:decide ((k:Int)+1>0)=true:=decide_eq_true (by omega);have dgt':decide ((0:Int)<(k:Int)+1)=true:=decide_eq_true (by omega);go_wp2_with fail
     go_region_held3 (fun w'=>w'.cell? ⟨g,off+(k+1),none⟩=some (Iv (x:Int))∧w'.cell? ⟨g,off+k,none⟩=some (Iv (y:Int))) (first | assumption | go_keep) (first
      | ((with_reducible refine(HC.out _ zs x y (by simpa using hBr) hx hy s2.drew).mono ?_);rintro e w3 ⟨rfl,s3,b3⟩;have hB3:=Nat.le_trans (show B≤wr.drew.heap.size by simpa using hBr) b3.size;have y1:=(own_cell hB3 (by decide) s3 HX1.out).1;have y0:=(own_cell hB3 (by decide) s3 HX0.out).1)
      | (fail "no arm"))
     have b4:Below B w w3:=(b2.drew).trans b3;clear c1 c0 f1 f0 t1 s2 b2 b3 hBr
     by_cases hcf:cf x y<0
     ·have hd:decide (cf x y<0)=true:=decide_eq_true hcf;obtain⟨_,f1,t1⟩:=own_cell hB3 (by decide) s3 HX1.out;obtain⟨s4,b5⟩:=t1 (Iv (y:Int));have hB4:=Nat.le_trans hB3 b5.size;have e0:((pls zs).set (k+1) (Iv (y:Int)))[k]? =some (Iv (y:Int)):=by rw [List.getElem?_set_ne (by omega)];exact HX0.out
      obtain⟨y2,f2,t2⟩:=own_cell hB4 (by decide) s4 e0;obtain⟨s5,b6⟩:=t2 (Iv (x:Int))
      have s6:At B ((w3.setCell ⟨g,off+(k+1),none⟩ (Iv (y:Int))).setCell ⟨g,off+k,none⟩ (Iv (x:Int))) (plR (some ⟨g,off,none⟩) n c ((zs.set (k+1) y).set k x)::L):=by
       have:=s5
       rwa [show ((pls zs).set (k+1) (Iv (y:Int))).set k (Iv (x:Int))=pls ((zs.set (k+1) y).set k x) by simp [pls,List.map_set]] at this
      have b7:=b4.trans (b5.trans b6);clear t1 t2 s4 s5 e0 b5 b6 hB4;have f0:=s3;go_wp2_with fail
      go_region
      go_wp2_with fail;go_roundg (gk-1)
      case measure=>omega
      case rel=>exact⟨k,_,by first | rfl | go_num,by omega,by omega,hsw.out.trans hq,Sep.drew s6,b7.drew⟩
     ·have hd:decide (cf x y<0)=false:=decide_eq_false hcf;go_wp2_with fail;go_roundg (go-1)
      case measure=>rw [hgo.out];omega
      case rel=>exact⟨i+1,zs,by go_num,by omega,by omega,by omega,hq,s3,b4⟩
  ·go_wp2_with fail
   go_end0
   exact⟨ys,rfl,hp,s1,b1⟩
theorem stable_s (hB:B≤w.heap.size) (hn:xs.length=n) (hn2:n<20) (hN:∀ x∈xs,x<N)
  (eg:∀ args w,(callFunc f args).run Tryz.prog w=.ok (.enter f args) w)
  (hcmp:∀ (W:World) (ys:List Nat) (i j:Nat),B≤W.heap.size→i<N→j<N→At B W (plR (some ⟨g,off,none⟩) n c ys::L)→Calls Tryz.prog f (#[Iv (i:Int),Iv (j:Int)]++cb) W fun e W'=>e=.returned (Iv (cf i j))∧At B W' (plR (some ⟨g,off,none⟩) n c ys::L)∧Below B W W')
  (h:At B w (plR (some ⟨g,off,none⟩) n c xs::L)):
  Calls Tryz.prog 183 #[.slice (some ⟨g,off,none⟩) n c,Iv (n:Int),.func (.func f) #[] cb] w fun e w'=>∃ ys,e=.returned (.tuple #[])∧ys.Perm xs∧At B w' (plR (some ⟨g,off,none⟩) n c ys::L)∧Below B w w':=by
 have hi:=ins_s hB hn (by omega) hN eg hcmp h;have h20:¬ (20:Int)≤(n:Int):=by omega
 have h20':¬ (20:Int)<(n:Int):=by omega
 clear hn hN hcmp eg;go_enter Tryz.func183,Tryz.ntmps183;go_wp2_with fail;refine wp_loop_rounds 1 ?_;rw [rounds_succ];go_wp2_with fail;refine hi.mono ?_;rintro e w1 ⟨ys,rfl,hp,s1,b1⟩;go_wp2_with fail;refine wp_loop_rounds 1 ?_;rw [rounds_succ];go_wp2_with fail
 go_end0
 exact⟨ys,rfl,hp,s1,b1⟩
theorem sort_s (hB:B≤w.heap.size) (hn:xs.length=n) (hn2:n<20) (hN:∀ x∈xs,x<N)
  (eg:∀ args w,(callFunc f args).run Tryz.prog w=.ok (.enter f args) w)
  (hcmp:∀ (W:World) (ys:List Nat) (i j:Nat),B≤W.heap.size→i<N→j<N→At B W (plR (some ⟨g,off,none⟩) n c ys::L)→Calls Tryz.prog f (#[Iv (i:Int),Iv (j:Int)]++cb) W fun e W'=>e=.returned (Iv (cf i j))∧At B W' (plR (some ⟨g,off,none⟩) n c ys::L)∧Below B W W')
  (h:At B w (plR (some ⟨g,off,none⟩) n c xs::L)):
  Calls Tryz.prog 167 #[.slice (some ⟨g,off,none⟩) n c,.func (.func f) #[] cb] w fun e w'=>∃ ys,e=.returned (.tuple #[])∧ys.Perm xs∧At B w' (plR (some ⟨g,off,none⟩) n c ys::L)∧Below B w w':=by
 have hi:=stable_s hB hn hn2 hN eg hcmp h;clear hn hN hcmp eg;go_enter Tryz.func167,Tryz.ntmps167;go_wp2_with fail;refine hi.mono ?_;rintro e w1 ⟨ys,rfl,hp,s1,b1⟩;go_wp2_with fail
 go_end0
 exact⟨ys,rfl,hp,s1,b1⟩
end
theorem ins_0 (w:World) (A:Option Addr) (c:Nat) (v:Value):Calls Tryz.prog 186 #[.slice A 0 c,Iv 0,Iv 0,v] w fun e w'=>e=.returned (.tuple #[])∧w=w':=by
 go_enter Tryz.func186,Tryz.ntmps186;go_wp2_with fail;refine wp_loop_rounds 1 ?_;rw [rounds_succ];go_wp2_with fail
 go_end0
 exact⟨rfl,rfl⟩
theorem stable_0 (w:World) (A:Option Addr) (c:Nat) (v:Value):Calls Tryz.prog 183 #[.slice A 0 c,Iv 0,v] w fun e w'=>e=.returned (.tuple #[])∧w=w':=by
 have hi:=ins_0 w A c v;go_enter Tryz.func183,Tryz.ntmps183;go_wp2_with fail;refine wp_loop_rounds 1 ?_;rw [rounds_succ];go_wp2_with fail;refine hi.mono ?_;rintro e w1 ⟨rfl,rfl⟩;go_wp2_with fail;refine wp_loop_rounds 1 ?_;rw [rounds_succ];go_wp2_with fail
 go_end0
 exact⟨rfl,rfl⟩
theorem sort_0 (w:World) (A:Option Addr) (c:Nat) (v:Value):Calls Tryz.prog 167 #[.slice A 0 c,v] w fun e w'=>e=.returned (.tuple #[])∧w=w':=by
 have hi:=stable_0 w A c v;go_enter Tryz.func167,Tryz.ntmps167;go_wp2_with fail;refine hi.mono ?_;rintro e w1 ⟨rfl,rfl⟩;go_wp2_with fail
 go_end0
 exact⟨rfl,rfl⟩
theorem sort_any {B n c N:Nat} {w:World} {L:List Res} {xs:List Nat} {f:FuncId} {cb:Array Value} {cf:Nat→Nat→Int} {A:Option Addr} (hB:B≤w.heap.size) (hn2:n<20) (hN:∀ x∈xs,x<N)
  (eg:∀ args w,(callFunc f args).run Tryz.prog w=.ok (.enter f args) w)
  (hcmp:∀ (W:World) (ys:List Nat) (i j:Nat),B≤W.heap.size→i<N→j<N→At B W (plR A n c ys::L)→Calls Tryz.prog f (#[Iv (i:Int),Iv (j:Int)]++cb) W fun e W'=>e=.returned (Iv (cf i j))∧At B W' (plR A n c ys::L)∧Below B W W')
  (h:At B w (plR A n c xs::L)):
  Calls Tryz.prog 167 #[.slice A n c,.func (.func f) #[] cb] w fun e w'=>∃ ys,e=.returned (.tuple #[])∧ys.Perm xs∧At B w' (plR A n c ys::L)∧Below B w w':=by
 have hs:Sl w 3 1 A n c (pls xs) (fun x=>B≤x):=h.get;have hn:xs.length=n:=by simpa using hs.1
 rcases Nat.eq_zero_or_pos n with h0 | h0
 ·subst h0;exact(sort_0 w A c _).mono fun e w' ⟨he,hw⟩=>⟨xs,he,List.Perm.refl _,hw▸h,hw▸Below.refl _ _⟩
 ·obtain⟨g,off,rfl,_⟩:=hs.at h0;exact sort_s hB hn hn2 hN eg hcmp h
abbrev opsO (A:Option Addr) (n c:Nat) (ops:List (Int×Int)):Res:=slRes 45 2 A n c (ops.flatMap opIn)
def cmpI (x y:Int):Int:=if x<y then -1 else if y<x then 1 else 0
theorem nan_any (w:World) (a:Int):Calls Tryz.prog 184 #[Iw a] w fun e w'=>e=.returned (.bool false)∧w=w':=by
 go_enter Tryz.func184,Tryz.ntmps184;go_wp2;go_ret;exact⟨by simp,rfl⟩
theorem compare_any (w:World) (a b:Int):Calls Tryz.prog 169 #[Iw a,Iw b] w fun e w'=>e=.returned (Iv (cmpI a b))∧w=w':=by
 obtain⟨r,hr⟩:∃ r,r=cmpI a b:=⟨_,rfl⟩;rw [← hr];have HR:=Lib.hid hr;clear hr
 by_cases h1:a<b
 ·go_enter Tryz.func169,Tryz.ntmps169;go_wp2_with fail;refine(nan_any w a).mono ?_;rintro e w1 ⟨rfl,rfl⟩;go_wp2_with fail;refine(nan_any w b).mono ?_;rintro e w1 ⟨rfl,rfl⟩;go_wp2_with fail;go_ret;exact⟨by rw [HR.out];simp [cmpI,h1],rfl⟩
 ·by_cases h2:b<a
  ·go_enter Tryz.func169,Tryz.ntmps169;go_wp2_with fail;refine(nan_any w a).mono ?_;rintro e w1 ⟨rfl,rfl⟩;go_wp2_with fail;refine(nan_any w b).mono ?_;rintro e w1 ⟨rfl,rfl⟩;go_wp2_with fail;go_ret;exact⟨by rw [HR.out];unfold cmpI;first | (rw [if_neg (by omega),if_neg (by omega)];rfl) | (rw [if_neg (by omega),if_pos (by omega)];rfl),rfl⟩
  ·go_enter Tryz.func169,Tryz.ntmps169;go_wp2_with fail;refine(nan_any w a).mono ?_;rintro e w1 ⟨rfl,rfl⟩;go_wp2_with fail;refine(nan_any w b).mono ?_;rintro e w1 ⟨rfl,rfl⟩;go_wp2_with fail;go_ret;exact⟨by rw [HR.out];unfold cmpI;first | (rw [if_neg (by omega),if_neg (by omega)];rfl) | (rw [if_neg (by omega),if_pos (by omega)];rfl),rfl⟩
theorem key_any (w:World) (k v:Int):Calls Tryz.prog 271 #[.agg #[Ub k,Iw v]] w fun e w'=>e=.returned (Iw v)∧Below w.heap.size w w':=by
 go_enter Tryz.func271,Tryz.ntmps271;go_wp2;go_ret;exact⟨rfl,(Below.refl _ _).alloc (Nat.le_refl _) _⟩
theorem by1_cf (args:Array Value) (w:World):(callFunc 279 args).run Tryz.prog w=.ok (.enter 279 args) w:=by kernel_rfl
def vOf (ops:List (Int×Int)) (k:Nat):Int:=(ops[k]?.map Prod.snd).getD 0
theorem op_cells (ops:List (Int×Int)) (k:Nat) (hk:k<ops.length):∃ kd,(ops.flatMap opIn)[k*2]? =some (Ub kd)∧(ops.flatMap opIn)[k*2+1]? =some (Iw (vOf ops k))∧kd=ops[k].1∧vOf ops k=ops[k].2:=by
 induction ops generalizing k with
 | nil=>simp at hk
 | cons o l ih=>
  rcases k with _ | k
  ·exact⟨o.1,by simp [opIn,vOf]⟩
  ·obtain⟨kd,h1,h2,h3,h4⟩:=ih k (by simpa using hk);refine⟨kd,?_,?_,by simpa using h3,by simpa [vOf] using h4⟩
   ·simp only [List.flatMap_cons,opIn,List.cons_append,List.nil_append];rw [show (k+1)*2=k*2+2 by omega]
    simpa using h1
   ·simp only [List.flatMap_cons,opIn,List.cons_append,List.nil_append];rw [show (k+1)*2+1=k*2+1+2 by omega]
    simpa [vOf] using h2
section
variable {B n c:Nat} {w:World} {L:List Res} {ops:List (Int×Int)} {A:Option Addr}
theorem keep6 {w w':World} {a b d e f g:Addr} {u v x y z t:Value} (h:w.cell? a=some u∧w.cell? b=some v∧w.cell? d=some x∧w.cell? e=some y∧w.cell? f=some z∧w.cell? g=some t) (hb:Below w.heap.size w w'):
  w'.cell? a=some u∧w'.cell? b=some v∧w'.cell? d=some x∧w'.cell? e=some y∧w'.cell? f=some z∧w'.cell? g=some t:=by
 have k:∀ {a:Addr} {u:Value},w.cell? a=some u→w'.cell? a=some u:=fun {a u} h=>(hb.cell (World.block_lt_of_cell? w _ h)).trans h;exact⟨k h.1,k h.2.1,k h.2.2.1,k h.2.2.2.1,k h.2.2.2.2.1,k h.2.2.2.2.2⟩
theorem cmp_s {kb lb i j:Nat} (hB:B≤w.heap.size) (hn:ops.length=n) (hi:i<n) (hj:j<n) (hk:w.cell? ⟨kb,0,none⟩=some (.func (.func 271) #[] #[])) (hl:w.cell? ⟨lb,0,none⟩=some (.slice A n c)) (h:At B w (opsO A n c ops::L)):
  Calls Tryz.prog 279 #[Iv (i:Int),Iv (j:Int),Pz kb,Pz lb] w fun e w'=>e=.returned (Iv (cmpI (vOf ops i) (vOf ops j)))∧Below w.heap.size w w':=by
 have hs:Sl w 45 2 A n c (ops.flatMap opIn) (fun x=>B≤x):=h.get;obtain⟨g,off,rfl,hg,_,_,hc⟩:=hs.at (by omega);obtain⟨k1,p1,p2,p3,p4⟩:=op_cells ops i (by omega);obtain⟨k2,q1,q2,q3,q4⟩:=op_cells ops j (by omega);have i1:=hc _ _ p1;have i2:=hc _ _ p2;have j1:=hc _ _ q1;have j2:=hc _ _ q2;rw [← Nat.add_assoc] at i2 j2;have a1:(0:Int)≤(i:Int):=by omega
 have a2:(i:Int)<(n:Int):=by omega
 have a3:(0:Int)≤(j:Int):=by omega
 have a4:(j:Int)<(n:Int):=by omega
 generalize vOf ops i=x at*;generalize vOf ops j=y at*;have hcx:=fun w=>compare_any w x y;generalize cmpI x y=r at*;clear p3 p4 q3 q4;clear hn hc hs h hi hj p1 p2 q1 q2;go_enter Tryz.func279,Tryz.ntmps279;go_wp2_with fail
 go_region_held3 (fun w'=>w'.cell? ⟨kb,0,none⟩=some (.func (.func 271) #[] #[])∧w'.cell? ⟨lb,0,none⟩=some (.slice (some ⟨g,off,none⟩) n c)∧w'.cell? ⟨g,off+i*2,none⟩=some (Ub k1)∧w'.cell? ⟨g,off+i*2+1,none⟩=some (Iw x)∧w'.cell? ⟨g,off+j*2,none⟩=some (Ub k2)∧w'.cell? ⟨g,off+j*2+1,none⟩=some (Iw y)) (first | assumption | exact keep6 (by assumption) (by assumption) | go_keep) (first
  | (go_at_call 271;(with_reducible refine(key_any _ _ _).mono ?_);rintro e w3 ⟨rfl,b3⟩)
  | (go_at_call 169;(with_reducible refine(hcx _).mono ?_);rintro e w3 ⟨rfl,rfl⟩)
  | (fail "no arm"))
 rename_i w2 b2 _;have b2':Below w.heap.size w w2:=((Below.refl _ w).drew).trans b2;have b4:Below w.heap.size w w3:=b2'.trans (b3.mono b2'.size);go_wp2_with fail;go_ret;exact⟨rfl,b4⟩
theorem byk_s {A1:Option Addr} {n1 c1:Nat} {puts:List Nat} (hB:B≤w.heap.size) (hn:ops.length=n) (hn1:n1<20) (hp:∀ x∈puts,x<n) (h:At B w (plR A1 n1 c1 puts::opsO A n c ops::L)):
  Calls Tryz.prog 270 #[.slice A n c,.slice A1 n1 c1,.func (.func 271) #[] #[]] w fun e w'=>∃ ys,e=.returned (.slice A1 n1 c1)∧ys.Perm puts∧At B w' (plR A1 n1 c1 ys::opsO A n c ops::L)∧Below B w w':=by
 have s1:=(h.alloc hB #[.slice A n c] 81).alloc (by simp;omega) #[.func (.func 271) #[] #[]] 341;simp only [World.size_alloc] at s1;have b1:=((Below.refl B w).alloc hB (.cells #[.slice A n c] 81)).alloc (by simp;omega) (.cells #[.func (.func 271) #[] #[]] 341);have hB3:=Nat.le_trans hB b1.size
 have s2:At B ((w.alloc (.cells #[.slice A n c] 81)).alloc (.cells #[.func (.func 271) #[] #[]] 341)) (plR A1 n1 c1 puts::opsO A n c ops::blkR (w.heap.size+1) 341 #[.func (.func 271) #[] #[]]::blkR w.heap.size 81 #[.slice A n c]::L):=
  Sep.cons (fun _ h=>Sep.rot3 h) (Sep.rot3 s1)
 clear s1
 have hso:=sort_any (A:=A1) (f:=279) (cb:=#[Pz (w.heap.size+1),Pz w.heap.size]) (cf:=fun i j=>cmpI (vOf ops i) (vOf ops j)) hB3 hn1 hp by1_cf (fun W ys i j hBW hi hj hW=>by
  have k1:W.cell? ⟨w.heap.size+1,0,none⟩=some (.func (.func 271) #[] #[]):=hW.rot3.blk.cell 0;have k2:W.cell? ⟨w.heap.size,0,none⟩=some (.slice A n c):=hW.rot4.blk.cell 0;exact(cmp_s hBW hn hi hj k1 k2 hW.rot2).mono fun e w' ⟨he,hb⟩=>⟨he,hW.keep hb,hb.mono hBW⟩) s2
 clear s2 hn hp h;go_enter Tryz.func270,Tryz.ntmps270;go_wp2_with fail;refine hso.mono ?_;rintro e w1 ⟨ys,rfl,hp,s3,b3⟩;go_wp2_with fail;go_ret;exact⟨ys,rfl,hp,Sep.cons (fun _ h=>Sep.cons (fun _ h=>h.drop.drop) h) s3,b1.trans b3⟩
end
theorem info_pl:(Tryz.prog.info? 3).map (fun i=>(i.zero,i.size,i.bytes))=some (some (Iv 0),1,8):=by kernel_rfl
theorem pls_snoc (l:List Nat) (k:Nat):pls l++[Iv (k:Int)]=pls (l++[k]):=by simp [pls]
section
variable {B n c:Nat} {w:World} {L:List Res} {ops:List (Int×Int)} {A:Option Addr}
theorem opsO_cells {k:Nat} (hn:ops.length=n) (hk:k<n) (h:At B w (opsO A n c ops::L)):∃ g off,A=some ⟨g,off,none⟩∧w.cell? ⟨g,off+k*2,none⟩=some (Ub (ops[k]?.map Prod.fst |>.getD 0))∧w.cell? ⟨g,off+k*2+1,none⟩=some (Iw (vOf ops k)):=by
 have hs:Sl w 45 2 A n c (ops.flatMap opIn) (fun x=>B≤x):=h.get;obtain⟨g,off,rfl,hg,_,_,hc⟩:=hs.at (by omega);obtain⟨k1,p1,p2,p3,p4⟩:=op_cells ops k (by omega);have i1:=hc _ _ p1;have i2:=hc _ _ p2;rw [← Nat.add_assoc] at i2;exact⟨g,off,rfl,by rw [i1,p3];simp [show k<ops.length by omega],i2⟩
set_option maxHeartbeats 1000000 in
theorem parted_s (hB:B≤w.heap.size) (hn:ops.length=n) (hn2:n<20) (h:At B w (opsO A n c ops::L)):
  Calls Tryz.prog 264 #[.slice A n c] w fun e w'=>∃ A1 n1 c1 A2 n2 c2 ps os,e=.returned (.tuple #[.slice A1 n1 c1,.slice A2 n2 c2])∧n1+n2=n∧(∀ x∈ps,x<n)∧(∀ x∈os,x<n)∧At B w' (plR A1 n1 c1 ps::plR A2 n2 c2 os::opsO A n c ops::L)∧Below B w w':=by
 obtain⟨i0,hi0,hz0,hz1,hz2⟩:=info_parts info_pl;have HN:=Lib.hid hn;clear hn;go_enter Tryz.func264,Tryz.ntmps264;go_wp2_with fail
 go_loopw [2,3,8] (fun p o k wr=>∃ (m:Nat) (A1:Option Addr) (n1 c1:Nat) (A2:Option Addr) (n2 c2:Nat) (ps os:List Nat),m≤n∧k=Iv (m:Int)∧p=.slice A1 n1 c1∧o=.slice A2 n2 c2∧n1+n2=m∧(∀ x∈ps,x<n)∧(∀ x∈os,x<n)∧At B wr (plR A1 n1 c1 ps::plR A2 n2 c2 os::opsO A n c ops::L)∧Below B w wr) (fun _ _ k _=>n-(intOf k).toNat)
 case atStart=>exact⟨0,none,0,0,none,0,0,[],[],by omega,rfl,rfl,rfl,rfl,by simp,by simp,(h.nilSl _ _).nilSl _ _,Below.refl _ _⟩
 case round=>
  obtain⟨m,A1,n1,c1,A2,n2,c2,ps,os,hm,rfl,rfl,rfl,hnm,hps,hos,s1,b1⟩:=hrel;have hBr:=Nat.le_trans hB b1.size;have HNM:=Lib.hid hnm;have HP:=Lib.hid hps;have HO:=Lib.hid hos;have e1:n1<20:=by omega
  have e2:n2<20:=by omega
  clear hnm hps hos
  by_cases hlt:m<n
  ·obtain⟨g,off,rfl,y1,y2⟩:=opsO_cells HN.out hlt s1.rot3;have hltz:(m:Int)<(n:Int):=by omega
   generalize (ops[m]?.map Prod.fst |>.getD 0)=kd at y1;generalize vOf ops m=vv at y2
   by_cases hk:kd=1
   ·have hd:(kd==1)=true:=by simp [hk]
    have hd':decide (kd=1)=true:=by simp [hk]
    have HK:=Lib.hid hk;clear hk;have s2:=(((s1.alloc hBr #[Ub kd,Iw vv] 45).drop).alloc (by simp;omega) #[Iv (m:Int)] 3).drop;have b2:=(b1.alloc hBr (.cells #[Ub kd,Iw vv] 45)).alloc (by simp;omega) (.cells #[Iv (m:Int)] 3);have hB2:=Nat.le_trans hB b2.size
    have hlit:Rd ((wr.alloc (.cells #[Ub kd,Iw vv] 45)).alloc (.cells #[Iv (m:Int)] 3)) (· =wr.heap.size+1) 1 (some ⟨wr.heap.size+1,0,none⟩) 1 [Iv (m:Int)]:=by
     have:=Rd.lit (sz:=1) (wr.alloc (.cells #[Ub kd,Iw vv] 45)) 3 #[Iv (m:Int)] 1 rfl
     simpa using this
    go_wp2_with (at_builtin;refine wpList_append_at rfl (.tmp 16) (.tmp 18) _ rfl 3 i0 _ 1 8 Tryz.underlying37 hi0 hz0 hz1 hz2 rfl (by omega) rfl s2 hB2 (· =wr.heap.size+1) (some ⟨wr.heap.size+1,0,none⟩) 1 1 [Iv (m:Int)] rfl (by exact hlit) (by simp [Value.oneCell']) (by simp only [maxLen];omega) (by omega) ?_;intro A6 c6 w6 s6 b6);go_wp2
    go_roundw
    case rel=>exact⟨m+1,A6,n1+1,c6,A2,n2,c2,ps++[m],os,by omega,by go_num,rfl,rfl,by have:=HNM.out;omega,(fun x hx=>by rcases List.mem_append.1 hx with h | h;exact HP.out x h;rw [List.mem_singleton.1 h];exact hlt),HO.out,by rw [pls_snoc] at s6;exact s6,b2.trans b6⟩
    case measure=>simp [intOf];omega
   ·have hd:(kd==1)=false:=by simp [hk]
    have hd':decide (kd=1)=false:=by simp [hk]
    have HK:=Lib.hid hk;clear hk;have s2:=(((s1.alloc hBr #[Ub kd,Iw vv] 45).drop).alloc (by simp;omega) #[Iv (m:Int)] 3).drop;have s2':=Sep.rot2 s2;have b2:=(b1.alloc hBr (.cells #[Ub kd,Iw vv] 45)).alloc (by simp;omega) (.cells #[Iv (m:Int)] 3);have hB2:=Nat.le_trans hB b2.size
    have hlit:Rd ((wr.alloc (.cells #[Ub kd,Iw vv] 45)).alloc (.cells #[Iv (m:Int)] 3)) (· =wr.heap.size+1) 1 (some ⟨wr.heap.size+1,0,none⟩) 1 [Iv (m:Int)]:=by
     have:=Rd.lit (sz:=1) (wr.alloc (.cells #[Ub kd,Iw vv] 45)) 3 #[Iv (m:Int)] 1 rfl
     simpa using this
    go_wp2_with (at_builtin;refine wpList_append_at rfl (.tmp 20) (.tmp 22) _ rfl 3 i0 _ 1 8 Tryz.underlying37 hi0 hz0 hz1 hz2 rfl (by omega) rfl s2' hB2 (· =wr.heap.size+1) (some ⟨wr.heap.size+1,0,none⟩) 1 1 [Iv (m:Int)] rfl (by exact hlit) (by simp [Value.oneCell']) (by simp only [maxLen];omega) (by omega) ?_;intro A6 c6 w6 s6 b6);go_wp2
    go_roundw
    case rel=>exact⟨m+1,A1,n1,c1,A6,n2+1,c6,ps,os++[m],by omega,by go_num,rfl,rfl,by have:=HNM.out;omega,HP.out,(fun x hx=>by rcases List.mem_append.1 hx with h | h;exact HO.out x h;rw [List.mem_singleton.1 h];exact hlt),by rw [pls_snoc] at s6;exact s6.rot2,b2.trans b6⟩
    case measure=>simp [intOf];omega
  ·have hltz:¬ (m:Int)<(n:Int):=by omega
   have hmn:m=n:=by omega
   have hby:=byk_s hBr HN.out e1 HP.out (Sep.cons (fun _ h=>h.rot2) s1);go_wp2_with fail;refine hby.mono ?_;rintro e w3 ⟨ys,rfl,hp,s3,b3⟩;go_wp2_with fail
   go_ret2
   exact⟨A1,n1,c1,A2,n2,c2,ys,os,rfl,by have:=HNM.out;omega,fun x hx=>HP.out x (hp.mem_iff.1 hx),HO.out,Sep.cons (fun _ h=>h.rot2) s3,b1.trans b3⟩
end
abbrev resO (g n:Nat) (ts:List (Int×Int)):Res:=slRes 47 2 (some ⟨g,0,none⟩) n n (ts.flatMap resIn)
def Fits (ts:List (Int×Int)):Prop:=∀ r∈ts,In8 r.1 r.2
def Fit32 (x:Int):Prop:= -2147483648≤x∧x≤2147483647
theorem Fits.set {ts:List (Int×Int)} (h:Fits ts) (k:Nat) {c v:Int} (hc:In8 c v):Fits (ts.set k (c,v)):=by
 intro r hr
 rcases List.mem_or_eq_of_mem_set hr with h1 | h1
 ·exact h r h1
 ·subst h1;exact hc
section
variable {B g n k:Nat} {w:World} {L:List Res} {ts:List (Int×Int)}
theorem told_len (h:At B w (resO g n ts::L)):ts.length=n:=by
 have hs:Sl w 47 2 (some ⟨g,0,none⟩) n n (ts.flatMap resIn) (fun x=>B≤x):=h.get;have:=hs.1;rw [res_len] at this;omega
theorem told_code (hB:B≤w.heap.size) (hk:k<n) (hf:Fits ts) (h:At B w (resO g n ts::L)) (c:Int) (hc:0≤c∧c≤255):
  (∃ u,w.cell? ⟨g,k*2,none⟩=some u)∧w.frozen? ⟨g,k*2,none⟩=false∧∃ ts',Fits ts'∧At B (w.setCell ⟨g,k*2,none⟩ (Ub c)) (resO g n ts'::L)∧Below B w (w.setCell ⟨g,k*2,none⟩ (Ub c)):=by
 have hl:=told_len h;obtain⟨p1,p2⟩:=res_at ts k (by omega);obtain⟨c1,f1,t1⟩:=own_cell hB (by decide) h p1;rw [Nat.zero_add] at c1 f1;obtain⟨s1,b1⟩:=t1 (Ub c);rw [res_set1 ts k (by omega) c,Nat.zero_add] at s1;rw [Nat.zero_add] at b1;have hr:=hf ts[k] (List.getElem_mem (by omega));exact⟨⟨_,c1⟩,f1,_,hf.set k ⟨hc.1,hc.2,hr.3,hr.4⟩,s1,b1⟩
theorem told_both (hB:B≤w.heap.size) (hk:k<n) (hf:Fits ts) (h:At B w (resO g n ts::L)) (c v:Int) (hc:In8 c v):
  (∃ u,w.cell? ⟨g,k*2,none⟩=some u)∧w.frozen? ⟨g,k*2,none⟩=false∧(∃ u,w.cell? ⟨g,k*2+1,none⟩=some u)∧w.frozen? ⟨g,k*2+1,none⟩=false∧∃ ts',Fits ts'∧At B ((w.setCell ⟨g,k*2,none⟩ (Ub c)).setCell ⟨g,k*2+1,none⟩ (Iw v)) (resO g n ts'::L)∧Below B w ((w.setCell ⟨g,k*2,none⟩ (Ub c)).setCell ⟨g,k*2+1,none⟩ (Iw v)):=by
 have hl:=told_len h;obtain⟨p1,p2⟩:=res_at ts k (by omega);obtain⟨c1,f1,t1⟩:=own_cell hB (by decide) h p1;obtain⟨c2,f2,_⟩:=own_cell hB (by decide) h p2;obtain⟨s1,b1⟩:=t1 (Ub c);rw [res_set1 ts k (by omega) c] at s1;obtain⟨q1,q2⟩:=res_at (ts.set k (c,(ts[k]'(by omega)).2)) k (by rw [List.length_set];omega);obtain⟨_,_,t2⟩:=own_cell (Nat.le_trans hB b1.size) (by decide) s1 q2;obtain⟨s2,b2⟩:=t2 (Iw v);rw [res_set2 _ k (by rw [List.length_set];omega) v] at s2;simp only [Nat.zero_add] at c1 c2 f1 f2 s2 b1 b2;refine⟨⟨_,c1⟩,f1,⟨_,c2⟩,f2,_,?_,s2,b1.trans b2⟩;rw [List.set_set]
 simpa using hf.set k hc
end
section
variable {B g n c s M:Nat} {w:World} {L:List Res} {ts ops:List (Int×Int)} {A A2:Option Addr} {n2 c2:Nat} {os:List Nat} {l:List Skp.It}
def FitsL (l:List Skp.It):Prop:=∀ a∈l,Fit32 a.1
set_option maxHeartbeats 1000000 in
theorem rest_s (hB:B≤w.heap.size) (hn:ops.length=n) (hn2:n<20) (ho:∀ x∈os,x<n) (hf:Fits ts) (hl:FitsL l) (h:At B w (resO g n ts::Skp.skR s M l::plR A2 n2 c2 os::opsO A n c ops::L)) (hn3:n2<20):
  Calls Tryz.prog 268 #[Pz s,.slice A n c,.slice A2 n2 c2,.slice (some ⟨g,0,none⟩) n n] w fun e w'=>∃ ts' l',e=.returned (.slice (some ⟨g,0,none⟩) n n)∧Fits ts'∧FitsL l'∧At B w' (resO g n ts'::Skp.skR s M l'::plR A2 n2 c2 os::opsO A n c ops::L)∧Below B w w':=by
 have HN:=Lib.hid hn;have HO:=Lib.hid ho
 have hl2:os.length=n2:=by
  have hs:Sl w 3 1 A2 n2 c2 (pls os) (fun x=>B≤x):=h.rot3.get
  simpa using hs.1
 have HL:=Lib.hid hl2;clear hn ho hl2;go_enter Tryz.func268,Tryz.ntmps268;go_wp2_with fail
 go_loopw [15] (fun k wr=>∃ (m:Nat) (ts:List (Int×Int)) (l:List Skp.It),m≤n2∧k=Iv (m:Int)∧Fits ts∧FitsL l∧At B wr (resO g n ts::Skp.skR s M l::plR A2 n2 c2 os::opsO A n c ops::L)∧Below B w wr) (fun k _=>n2-(intOf k).toNat)
 case atStart=>exact⟨0,ts,l,by omega,rfl,hf,hl,h,Below.refl _ _⟩
 case round=>
  obtain⟨m,us,l2,hm,rfl,hf2,hl3,s1,b1⟩:=hrel;have hBr:=Nat.le_trans hB b1.size
  by_cases hlt:m<n2
  ·have hs:Sl wr 3 1 A2 n2 c2 (pls os) (fun x=>B≤x):=s1.rot3.get;obtain⟨g2,off2,rfl,_,_,_,hc⟩:=hs.at (by omega);have hmo:m<os.length:=by rw [HL.out];exact hlt
   have y0:=hc m (Iv ((os[m]:Nat):Int)) (by simp [hmo]);have hkn:=HO.out _ (List.getElem_mem hmo);clear hs hc;generalize os[m]=k at y0 hkn;have hltz:(m:Int)<(n2:Int):=by omega
   have hknz:(k:Int)<(n:Int):=by omega
   obtain⟨⟨u1,z1⟩,f1,ts2,hF2,s2,b2⟩:=told_code hBr hkn hf2 s1 5 (by decide);have hB2:=Nat.le_trans hBr b2.size;obtain⟨go,offo,rfl,x1,x2⟩:=opsO_cells HN.out hkn s2.rot4;clear x2;generalize (ops[k]?.map Prod.fst |>.getD 0)=kd at x1
   by_cases hk2:kd=2
   ·have hd:(kd !=2)=false:=by simp [hk2]
    have hd':decide (kd≠2)=false:=by simp [hk2]
    have HK:=Lib.hid hk2;clear hk2;obtain⟨⟨u2,z2⟩,f2,ts3,hF3,s3,b3⟩:=told_code hB2 hkn hF2 s2 4 (by decide);have hB3:=Nat.le_trans hB2 b3.size;have b4:=b1.trans (b2.trans b3);have hmin:=Skp.min_s hB3 s3.rot2
    cases l2 with
    | nil=>
     simp only [List.head?_nil,Option.map_none,Option.getD_none,List.isEmpty_nil,Bool.not_true,List.tail_nil] at hmin;go_wp2_with fail;refine hmin.mono ?_;rintro e w4 ⟨rfl,s4,b5⟩;go_wp2
     go_roundw
     case rel=>exact⟨m+1,ts3,[],by omega,by go_num,hF3,hl3,s4.rot2,b4.trans b5⟩
     case measure=>simp [intOf];omega
    | cons a l2=>
     simp only [List.head?_cons,Option.map_some,Option.getD_some,List.isEmpty_cons,Bool.not_false,List.tail_cons] at hmin;have ha:=hl3 a (List.mem_cons_self ..);go_wp2_with fail;refine hmin.mono ?_;rintro e w4 ⟨rfl,s4,b5⟩;have hB4:=Nat.le_trans hB3 b5.size;obtain⟨⟨u5,z5⟩,f5,⟨u6,z6⟩,f6,ts5,hF5,s6,b6⟩:=told_both hB4 hkn hF3 s4.rot2 2 a.1 ⟨by decide,by decide,ha.1,ha.2⟩;clear y0 z1 f1 s1 s2 x1 z2 f2 s3 s4;go_wp2
     go_roundw
     case rel=>exact⟨m+1,ts5,l2,by omega,by go_num,hF5,fun x hx=>hl3 x (List.mem_cons_of_mem _ hx),s6,(b4.trans b5).trans b6⟩
     case measure=>simp [intOf];omega
   ·have hd:(kd !=2)=true:=by simp [hk2]
    have hd':decide (kd≠2)=true:=by simp [hk2]
    have HK:=Lib.hid hk2;clear hk2;go_wp2
    go_roundw
    case rel=>exact⟨m+1,ts2,l2,by omega,by go_num,hF2,hl3,s2,b1.trans b2⟩
    case measure=>simp [intOf];omega
  ·have hltz:¬ (m:Int)<(n2:Int):=by omega
   go_wp2;go_ret;exact⟨rfl,us,hf2,l2,hl3,s1,b1⟩
end
end Go.Proofs.YtadgbhjpgnlmoaaGreat
