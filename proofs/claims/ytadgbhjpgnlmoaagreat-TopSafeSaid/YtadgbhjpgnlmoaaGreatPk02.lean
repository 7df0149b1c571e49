/- TopSafe, a part of its proof; no conditions. -/
import Derived.Laws.MakeOwn
import Derived.Deep.QuietTactic
import Derived.BigQuiet
import Derived.MapKept
import Derived.Carry
import Derived.Test.YtadgbhjpgnlmoaaGreatPk00
import Derived.Test.YtadgbhjpgnlmoaaGreatPk01
set_option linter.all false
namespace Go.Rp
open Go.RowKit
section
variable {w w':World} {U:Nat→Prop} {a b:Res} {l l':List Res} {B:Nat}
theorem Sep.snoc (h:Sep w U (a::l)):Sep w U (l++[a]):=by
 induction l generalizing U with
 | nil=>exact h
 | cons x l ih=>exact Sep.cons (fun V hV=>ih hV) h.rot2
theorem Sep.unsnoc (h:Sep w U (l++[a])):Sep w U (a::l):=by
 induction l generalizing U with
 | nil=>exact h
 | cons x l ih=>exact(Sep.cons (l':=a::l) (fun V hV=>ih hV) h).rot2
theorem Sep.back2 (h:Sep w U (a::b::l)):Sep w U (l++[a,b]):=by
 have:=h.snoc;rw [List.cons_append] at this;have:=this.snoc
 simpa using this
theorem Sep.front2 (h:Sep w U (l++[a,b])):Sep w U (a::b::l):=by
 have h1:Sep w U ((l++[a])++[b]):=by simpa using h
 have h2:=h1.unsnoc;exact(Sep.cons (l':=a::l) (fun V hV=>Sep.unsnoc hV) h2).rot2
theorem Sep.frontAny (h:Sep w U (a::l)) (hU:∀ x,w.heap.size≤x→U x):
  ∃ S:Nat→Prop,a.Q w S∧(∀ x,S x→U x∧x<w.heap.size)∧∀ (a':Res) w',a'.Q w' (grow S w w')→Mod S w w'→Sep w' U (a'::l):=by
 obtain⟨S,h1,h2,h3⟩:=h;refine⟨_,a.st.lt h2,fun x hx=>⟨h1 x hx.1,hx.2⟩,fun a' w' hq hm=>⟨_,?_,hq,(h3.lt.mod hm fun x hx hs=>hx.1.2 hs.1).mono fun x hx=>⟨hx.1.1,?_⟩⟩⟩
 ·rintro x (hx | hx)
  ·exact h1 x hx.1
  ·exact hU x hx.1
 ·rintro (hs | hs)
  ·exact hx.1.2 hs.1
  ·omega
theorem Sep.nilSl (h:Sep w U l) (e sz:Nat):Sep w U (slRes e sz none 0 0 []::l):=⟨fun _=>False,fun _ h=>h.elim,Sl.nil _ _ _ _,h.mono fun _ h=>⟨h,fun h=>h⟩⟩
theorem Sep.slat {e sz n c g:Nat} {xs:List Value} (h:Sep w (fun x=>B≤x) (slRes e sz (some ⟨g,0,none⟩) n c xs::l)) (hB:B≤w.heap.size) (k:Nat) (u:Value) (hu:xs[k]? =some u):
  w.cell? ⟨g,k,none⟩=some u∧w.frozen? ⟨g,k,none⟩=false∧∀ v,Sep (w.setCell ⟨g,k,none⟩ v) (fun x=>B≤x) (slRes e sz (some ⟨g,0,none⟩) n c (xs.set k v)::l)∧Below B w (w.setCell ⟨g,k,none⟩ v):=by
 have hk:k<xs.length:=(List.getElem?_eq_some_iff.1 hu).1;have hsl:Sl w e sz (some ⟨g,0,none⟩) n c xs (fun x=>B≤x):=h.get;have hlen:=hsl.1
 obtain⟨g',off,hA,hg,hlt,hfz,hx⟩:=hsl.at (by
  rcases Nat.eq_zero_or_pos n with h0 | h0
  ·subst h0;simp at hlen;subst hlen;simp at hk
  ·exact h0)
 simp at hA;obtain⟨rfl,rfl⟩:=hA;refine⟨by simpa using hx k u hu,hfz _,fun v=>?_⟩;obtain⟨S,h1,h2,h3⟩:=h.front (a':=slRes e sz (some ⟨g,0,none⟩) n c (xs.set k v)) fun x hx=>Nat.le_trans hB hx;have h1':Sl w e sz (some ⟨g,0,none⟩) n c xs S:=h1
 obtain⟨g'',off'',hA',hg',_⟩:=h1'.at (by
  rcases Nat.eq_zero_or_pos n with h0 | h0
  ·subst h0;simp at hlen;subst hlen;simp at hk
  ·exact h0)
 simp at hA';obtain⟨rfl,rfl⟩:=hA';have hs:=Sl.set h1' (g:=g) (off:=0) rfl k (by rw [← hlen];exact hk) v;rw [Nat.zero_add] at hs;exact⟨h3 _ (hs.mono grow_left) ((Mod.refl S w).setCell (p:=⟨g,k,none⟩) (.inl hg') _),(Below.refl B w).setCell (h2 g hg').1 _⟩
end
theorem flatten_rep (l:List Value) (hl:0<l.length):∀ (n i:Nat),i<n*l.length→((List.replicate n l).flatten)[i]? =l[i%l.length]?
 | 0,i,h=>by simp at h
 | n+1,i,h=>by
  rw [List.replicate_succ,List.flatten_cons,List.getElem?_append]
  split
  ·rename_i h1;rw [Nat.mod_eq_of_lt h1]
  ·rename_i h1;rw [flatten_rep l hl n (i-l.length) (by rw [Nat.succ_mul] at h;omega)]
   congr 1
   rw [← Nat.mod_eq_sub_mod (by omega)]
theorem made_flat (z:Array Value) (hz:0<z.size) (n:Nat):(madeCells z (n*z.size)).toList=(List.replicate n z.toList).flatten:=by
 apply List.ext_getElem?;intro i
 by_cases hi:i<n*z.size
 ·rw [flatten_rep z.toList (by simpa using hz) n i (by simpa using hi)];have hm:i%z.size<z.size:=Nat.mod_lt _ hz;simp [madeCells,hi,hm]
 ·rw [List.getElem?_eq_none (by simp [madeCells];omega),List.getElem?_eq_none (by simp;omega)]
theorem wpList_make_any {P:Program} (w:World) {ops:Array Oper} {rest:List Oper} {o:Oper} {a:Act} {Q:Exit→Act→World→Prop}
  (hg:o.guard=none) (l c:Operand) (t:TypeId) (hop:o.op=Op.makeSlice t l c)
  (e:TypeId) (i:TypeInfo) (z:Value) (sz bytes:Nat) (ht:P.underlying t=some (.slice e)) (hi:P.info? e=some i) (hz:i.zero=some z) (hsize:i.size=sz) (hby:i.bytes=bytes) (hz1:z.cells.size=sz) (hsz:0<sz)
  (kl kc:IntKind) (n:Nat) (hl:a.eval l=.int kl (n:Int)) (hc:a.eval c=.int kc (n:Int)) (hbytes:bytes*n≤281474976710656) (h63:n≤9223372036854775807)
  (hK:∀ arr:Array Value,arr.toList=(List.replicate n z.cells.toList).flatten→wpList P ops Q rest (a.put o.dst (.slice (some ⟨w.heap.size,0,none⟩) n n)) (w.alloc (.cells arr e))):
  wpList P ops Q (o::rest) a w:=by
 refine wpList_plain hg fun K hK'=>?_;have hrun:=run_make (P:=P) w t e i z ht hi hz kl kc (n:Int) (n:Int) (by omega) (by omega) (by have e:((bytes:Int)*(n:Int))=((bytes*n:Nat):Int):=(Int.natCast_mul ..).symm;rw [hby];omega) (by omega);rw [Int.toNat_natCast,hsize,←hz1] at hrun;unfold Oper.wp;simp [execOp,hop,hl,hc,hrun,Result.andThen];exact hK' _ _ (hK _ (made_flat _ (by omega) n))
theorem Sl.of_made (w:World) (e sz n:Nat) (arr:Array Value) (xs:List Value) (hx:arr.toList=xs) (hl:xs.length=n*sz) (hn:n≤maxLen) {S:Nat→Prop} (hS:S w.heap.size):Sl (w.alloc (.cells arr e)) e sz (some ⟨w.heap.size,0,none⟩) n n xs S:=by
 have h1:=Sl.of_blk (S:=S) (sz:=sz) (Blk.new w e arr) hS n n (Nat.le_refl _) hn (by rw [← Array.length_toList,hx,hl]);rw [hx,List.take_of_length_le (by omega)] at h1;exact h1
def resIn (r:Int×Int):List Value:=[Ub r.1,Iw r.2]
theorem res_len (xs:List (Int×Int)):(xs.flatMap resIn).length=xs.length*2:=by
 induction xs with
 | nil=>rfl
 | cons a l ih=>simp only [List.flatMap_cons,List.length_append,ih,List.length_cons];simp [resIn];omega
theorem res_at (xs:List (Int×Int)) (k:Nat) (hk:k<xs.length):(xs.flatMap resIn)[k*2]? =some (Ub xs[k].1)∧(xs.flatMap resIn)[k*2+1]? =some (Iw xs[k].2):=by
 induction xs generalizing k with
 | nil=>simp at hk
 | cons o l ih=>
  rcases k with _ | k
  ·simp [resIn]
  ·have:=ih k (by simpa using hk);simp only [List.flatMap_cons,resIn,List.cons_append,List.nil_append,List.getElem_cons_succ];rw [show (k+1)*2=k*2+2 by omega]
   simpa [resIn] using this
theorem res_set1 (xs:List (Int×Int)) (k:Nat) (hk:k<xs.length) (c:Int):(xs.flatMap resIn).set (k*2) (Ub c)=(xs.set k (c,xs[k].2)).flatMap resIn:=by
 induction xs generalizing k with
 | nil=>simp at hk
 | cons o l ih=>
  rcases k with _ | k
  ·simp [resIn]
  ·have:=ih k (by simpa using hk);simp only [List.flatMap_cons,resIn,List.cons_append,List.nil_append,List.getElem_cons_succ,List.set_cons_succ];rw [show (k+1)*2=k*2+1+1 by omega]
   simpa [resIn] using this
theorem res_set2 (xs:List (Int×Int)) (k:Nat) (hk:k<xs.length) (v:Int):(xs.flatMap resIn).set (k*2+1) (Iw v)=(xs.set k (xs[k].1,v)).flatMap resIn:=by
 induction xs generalizing k with
 | nil=>simp at hk
 | cons o l ih=>
  rcases k with _ | k
  ·simp [resIn]
  ·have:=ih k (by simpa using hk);simp only [List.flatMap_cons,resIn,List.cons_append,List.nil_append,List.getElem_cons_succ,List.set_cons_succ];rw [show (k+1)*2=k*2+1+1 by omega]
   simpa [resIn] using this
def fillL {α:Type} (n k:Nat) (f:Nat→α) (d:α):List α:=(List.range n).map fun i=>if i<k then f i else d
theorem fillL_length {α:Type} (n k:Nat) (f:Nat→α) (d:α):(fillL n k f d).length=n:=by simp [fillL]
theorem fillL_get {α:Type} (n k:Nat) (f:Nat→α) (d:α) (i:Nat) (h:i<n):(fillL n k f d)[i]'(by rw [fillL_length];exact h)=if i<k then f i else d:=by simp [fillL]
theorem fillL_succ {α:Type} (n k:Nat) (f:Nat→α) (d x:α) (hx:f k=x):(fillL n k f d).set k x=fillL n (k+1) f d:=by
 apply List.ext_getElem
 ·simp [fillL]
 ·intro i h1 h2;simp only [fillL_length] at h2;rw [List.getElem_set]
  split
  ·rename_i h;subst h;rw [fillL_get _ _ _ _ _ h2,if_pos (by omega),hx]
  ·rename_i h;rw [fillL_get _ _ _ _ _ h2,fillL_get _ _ _ _ _ h2]
   by_cases hk:i<k
   ·rw [if_pos hk,if_pos (by omega)]
   ·rw [if_neg hk,if_neg (by omega)]
theorem fillL_zero {α:Type} (n:Nat) (f:Nat→α) (d:α):fillL n 0 f d=List.replicate n d:=by
 apply List.ext_getElem
 ·simp [fillL]
 ·intro i h1 h2;simp [fillL]
theorem fillL_full {α:Type} (n:Nat) (f:Nat→α) (d:α):fillL n n f d=(List.range n).map f:=by
 apply List.ext_getElem
 ·simp [fillL]
 ·intro i h1 h2;simp [fillL] at h1;simp [fillL,h1]
theorem fillL_keep {α:Type} (n k:Nat) (f:Nat→α) (d:α) (hd:f k=d):fillL n (k+1) f d=fillL n k f d:=by
 apply List.ext_getElem
 ·simp [fillL]
 ·intro i h1 h2;simp only [fillL_length] at h1;rw [fillL_get _ _ _ _ _ h1,fillL_get _ _ _ _ _ h1]
  by_cases hk:i<k
  ·rw [if_pos hk,if_pos (by omega)]
  ·by_cases he:i=k
   ·subst he;rw [if_pos (by omega),if_neg (by omega),hd]
   ·rw [if_neg (by omega),if_neg hk]
end Go.Rp
namespace Go.Proofs.YtadgbhjpgnlmoaaGreat
open Go.RowKit Go.Rp
abbrev i64s (m:List Int):List Value:=m.map fun x=>Iv x
theorem at_in (w:World) (p g off n c k:Nat) (hk:k<n) (hn:n≤1000) (hc:w.cell? ⟨p,1,none⟩=some (.slice (some ⟨g,off,none⟩) n c)) (hlt:w.cell? ⟨g,off+k,none⟩≠none):
  Calls Tryz.prog 104 #[Pz p,Iv (k:Int)] w fun e w'=>e=.returned (.pointer (some ⟨g,off+k,none⟩))∧w=w':=by
 have h1:¬ ((n:Int)≤(k:Int)):=by omega
 go_enter Tryz.func104,Tryz.ntmps104;go_wp2;go_ret;exact⟨rfl,rfl⟩
theorem at_out (w:World) (p n c:Nat) (A:Option Addr) (a:Int) (ha:a<0∨(n:Int)≤a) (hc:w.cell? ⟨p,1,none⟩=some (.slice A n c)):
  Calls Tryz.prog 104 #[Pz p,Iv a] w fun e w'=>e=.returned (.pointer none)∧w=w':=by
 by_cases h0:a<0
 ·go_enter Tryz.func104,Tryz.ntmps104;go_wp2;go_ret;exact⟨rfl,rfl⟩
 ·have h1:(n:Int)≤a:=by omega
  clear ha;go_enter Tryz.func104,Tryz.ntmps104;go_wp2;go_ret;exact⟨rfl,rfl⟩
theorem count_d (w:World) (p q:Nat) (s:Int) (u:FrameMode) (hq:w.cell? ⟨q,0,none⟩=some (.int .u16 0)) (hp:w.cell? ⟨p,2,none⟩=some (Iv s)) (hf:w.frozen? ⟨p,2,none⟩=false):
  CallsD Tryz.prog 93 #[Pz p,Pz q] u w fun e u' w'=>u'=u∧e=.returned (.tuple #[])∧w'=w.setCell ⟨p,2,none⟩ (Iv (wrap64 (s+1))):=by
 go_enter_d Tryz.func93,Tryz.ntmps93
 go_wp2_with fail
 go_end0
 exact⟨rfl,rfl⟩
theorem count_no (w:World) (p q:Nat) (u:FrameMode) (hq:w.cell? ⟨q,0,none⟩=some (.int .u16 11)):
  CallsD Tryz.prog 93 #[Pz p,Pz q] u w fun e u' w'=>u'=u∧e=.returned (.tuple #[])∧w'=w:=by
 go_enter_d Tryz.func93,Tryz.ntmps93
 go_wp2_with fail
 go_end0
 exact⟨rfl,rfl⟩
theorem blk_q {w:World} {q:Nat}:(w.alloc (.cells #[.int .u16 0] 30)).cell? ⟨w.heap.size,0,none⟩=some (.int .u16 0):=(Blk.new w _ _).cell 0
theorem load_in (w:World) (p g off n c k:Nat) (sz v s:Int) (hk:k<n) (hn:n≤1000) (hb:Blk w p 112 #[Iv sz,.slice (some ⟨g,off,none⟩) n c,Iv s]) (hg:w.cell? ⟨g,off+k,none⟩=some (Iv v)):
  Calls Tryz.prog 77 #[Pz p,Iv (k:Int)] w fun e w'=>e=.returned (.tuple #[Iv v,.int .u16 0])∧w'=(w.alloc (.cells #[.int .u16 0] 30)).setCell ⟨p,2,none⟩ (Iv (wrap64 (s+1))):=by
 have hat:=fun(w1:World) h h'=>at_in w1 p g off n c k hk hn h h';have hc1:w.cell? ⟨p,1,none⟩=some (.slice (some ⟨g,off,none⟩) n c):=hb.cell 1;have hc2:w.cell? ⟨p,2,none⟩=some (Iv s):=hb.cell 2;have hplt:=hb.lt;have hglt:=World.block_lt_of_cell? w _ hg
 go_enter_defers Tryz.func77,Tryz.ntmps77
 go_wp2_with fail;refine(hat _ ?_ ?_).mono ?_
 ·rw [World.cell?_alloc_lt _ _ _ hplt];exact hc1
 ·rw [World.cell?_alloc_lt _ _ _ hglt,hg];simp
 rintro e w1 ⟨rfl,rfl⟩;go_wp2_with fail;have hq:(w.alloc (Obj.cells #[Value.int .u16 0] 30)).cell? ⟨w.heap.size,0,none⟩=some (.int .u16 0):=blk_q (q:=0);refine leaves_cons (f:=93) (args:=#[Pz p,Pz w.heap.size]) (by simp) (by simp [go_sem]) ?_;refine(count_d _ p _ s _ hq (by rw [World.cell?_alloc_lt _ _ _ hplt];exact hc2) (hb.alloc _ |>.frozen 2)).mono ?_;rintro e u' w2 ⟨rfl,rfl,rfl⟩;have hne:w.heap.size≠p:=by omega
 have hr:((w.alloc (Obj.cells #[Value.int .u16 0] 30)).setCell ⟨p,2,none⟩ (Iv (wrap64 (s+1)))).cell? ⟨w.heap.size,0,none⟩=some (.int .u16 0):=by
  rw [World.cell?_setCell_other _ _ _ _ (by simp [hne])];exact hq
 exact⟨_,by simp [results,Tryz.results77,go_sem,hr],rfl,rfl⟩
theorem load_out (w:World) (p n c:Nat) (A:Option Addr) (a:Int) (ha:a<0∨(n:Int)≤a) (hc:w.cell? ⟨p,1,none⟩=some (.slice A n c)):
  Calls Tryz.prog 77 #[Pz p,Iv a] w fun e w'=>e=.returned (.tuple #[Iv 0,.int .u16 10])∧w'=w.alloc (.cells #[.int .u16 10] 30):=by
 have hat:=fun(w1:World) h=>at_out w1 p n c A a ha h;have hplt:=World.block_lt_of_cell? w _ hc
 go_enter_defers Tryz.func77,Tryz.ntmps77
 go_wp2_with fail;refine(hat _ ?_).mono ?_
 ·rw [World.cell?_alloc_lt _ _ _ hplt];exact hc
 rintro e w1 ⟨rfl,rfl⟩;go_wp2_with fail;have hr:(w.alloc (.cells #[.int .u16 10] 30)).cell? ⟨w.heap.size,0,none⟩=some (.int .u16 10):=(Blk.new w _ _).cell 0;exact⟨_,by simp [results,Tryz.results77,go_sem,hr],rfl,rfl⟩
theorem store_in (w:World) (p g off n c k:Nat) (sz v s:Int) (hk:k<n) (hn:n≤1000) (hb:Blk w p 112 #[Iv sz,.slice (some ⟨g,off,none⟩) n c,Iv s]) (hg:w.cell? ⟨g,off+k,none⟩≠none) (hfg:w.frozen? ⟨g,off+k,none⟩=false) (hgp:g≠p):
  Calls Tryz.prog 125 #[Pz p,Iv (k:Int),Iv v] w fun e w'=>e=.returned (.int .u16 0)∧w'=((w.setCell ⟨g,off+k,none⟩ (Iv v)).alloc (.cells #[.int .u16 0] 30)).setCell ⟨p,2,none⟩ (Iv (wrap64 (s+1))):=by
 have hat:=fun(w1:World) h h'=>at_in w1 p g off n c k hk hn h h';have hc1:w.cell? ⟨p,1,none⟩=some (.slice (some ⟨g,off,none⟩) n c):=hb.cell 1;have hc2:w.cell? ⟨p,2,none⟩=some (Iv s):=hb.cell 2;have hplt:=hb.lt;obtain⟨v0,hg⟩:∃ v0,w.cell? ⟨g,off+k,none⟩=some v0:=by cases h:w.cell? ⟨g,off+k,none⟩ with | none=>exact absurd h hg | some v0=>exact⟨v0,rfl⟩
 have hglt:=World.block_lt_of_cell? w _ hg
 go_enter_defers Tryz.func125,Tryz.ntmps125
 go_wp2_with fail;refine(hat _ ?_ ?_).mono ?_
 ·rw [World.cell?_alloc_lt _ _ _ hplt];exact hc1
 ·rw [World.cell?_alloc_lt _ _ _ hglt,hg];simp
 rintro e w1 ⟨rfl,rfl⟩;go_wp2_with fail;have hb':=hb.far (p:=⟨g,off+k,none⟩) (fun h=>hgp h.symm) (Iv v);have hz:(w.setCell ⟨g,off+k,none⟩ (Iv v)).heap.size=w.heap.size:=by simp [World.setCell]
 have hq:((w.setCell ⟨g,off+k,none⟩ (Iv v)).alloc (Obj.cells #[Value.int .u16 0] 30)).cell? ⟨w.heap.size,0,none⟩=some (.int .u16 0):=(by rw [← hz];exact blk_q (q:=0));refine leaves_cons (f:=93) (args:=#[Pz p,Pz w.heap.size]) (by simp) (by simp [go_sem]) ?_;refine(count_d _ p _ s _ hq ((hb'.alloc _).cell 2) ((hb'.alloc _).frozen 2)).mono ?_;rintro e u' w2 ⟨rfl,rfl,rfl⟩;have hne:w.heap.size≠p:=by omega
 have hr:(((w.setCell ⟨g,off+k,none⟩ (Iv v)).alloc (Obj.cells #[Value.int .u16 0] 30)).setCell ⟨p,2,none⟩ (Iv (wrap64 (s+1)))).cell? ⟨w.heap.size,0,none⟩=some (.int .u16 0):=by
  rw [World.cell?_setCell_other _ _ _ _ (by simp [hne])];exact hq
 exact⟨_,by simp [results,Tryz.results125,go_sem,hr],rfl,rfl⟩
theorem store_out (w:World) (p n c:Nat) (A:Option Addr) (a v:Int) (ha:a<0∨(n:Int)≤a) (hc:w.cell? ⟨p,1,none⟩=some (.slice A n c)):
  Calls Tryz.prog 125 #[Pz p,Iv a,Iv v] w fun e w'=>e=.returned (.int .u16 10)∧w'=w.alloc (.cells #[.int .u16 10] 30):=by
 have hat:=fun(w1:World) h=>at_out w1 p n c A a ha h;have hplt:=World.block_lt_of_cell? w _ hc
 go_enter_defers Tryz.func125,Tryz.ntmps125
 go_wp2_with fail;refine(hat _ ?_).mono ?_
 ·rw [World.cell?_alloc_lt _ _ _ hplt];exact hc
 rintro e w1 ⟨rfl,rfl⟩;go_wp2_with fail;have hr:(w.alloc (.cells #[.int .u16 10] 30)).cell? ⟨w.heap.size,0,none⟩=some (.int .u16 10):=(Blk.new w _ _).cell 0;exact⟨_,by simp [results,Tryz.results125,go_sem,hr],rfl,rfl⟩
theorem swap_yes (w:World) (p g off n c k:Nat) (sz o v s:Int) (hk:k<n) (hn:n≤1000) (hb:Blk w p 112 #[Iv sz,.slice (some ⟨g,off,none⟩) n c,Iv s]) (hg:w.cell? ⟨g,off+k,none⟩=some (Iv o)) (hfg:w.frozen? ⟨g,off+k,none⟩=false) (hgp:g≠p):
  Calls Tryz.prog 122 #[Pz p,Iv (k:Int),Iv o,Iv v] w fun e w'=>e=.returned (.tuple #[.bool true,.int .u16 0])∧w'=((w.setCell ⟨g,off+k,none⟩ (Iv v)).alloc (.cells #[.int .u16 0] 30)).setCell ⟨p,2,none⟩ (Iv (wrap64 (s+1))):=by
 have hat:=fun(w1:World) h h'=>at_in w1 p g off n c k hk hn h h';have hc1:w.cell? ⟨p,1,none⟩=some (.slice (some ⟨g,off,none⟩) n c):=hb.cell 1;have hc2:w.cell? ⟨p,2,none⟩=some (Iv s):=hb.cell 2;have hplt:=hb.lt;have hglt:=World.block_lt_of_cell? w _ hg
 go_enter_defers Tryz.func122,Tryz.ntmps122
 go_wp2_with fail;refine(hat _ ?_ ?_).mono ?_
 ·rw [World.cell?_alloc_lt _ _ _ hplt];exact hc1
 ·rw [World.cell?_alloc_lt _ _ _ hglt,hg];simp
 rintro e w1 ⟨rfl,rfl⟩;go_wp2_with fail;have hb':=hb.far (p:=⟨g,off+k,none⟩) (fun h=>hgp h.symm) (Iv v);have hz:(w.setCell ⟨g,off+k,none⟩ (Iv v)).heap.size=w.heap.size:=by simp [World.setCell]
 have hq:((w.setCell ⟨g,off+k,none⟩ (Iv v)).alloc (Obj.cells #[Value.int .u16 0] 30)).cell? ⟨w.heap.size,0,none⟩=some (.int .u16 0):=(by rw [← hz];exact blk_q (q:=0));refine leaves_cons (f:=93) (args:=#[Pz p,Pz w.heap.size]) (by simp) (by simp [go_sem]) ?_;refine(count_d _ p _ s _ hq ((hb'.alloc _).cell 2) ((hb'.alloc _).frozen 2)).mono ?_;rintro e u' w2 ⟨rfl,rfl,rfl⟩;have hne:w.heap.size≠p:=by omega
 have hr:(((w.setCell ⟨g,off+k,none⟩ (Iv v)).alloc (Obj.cells #[Value.int .u16 0] 30)).setCell ⟨p,2,none⟩ (Iv (wrap64 (s+1)))).cell? ⟨w.heap.size,0,none⟩=some (.int .u16 0):=by
  rw [World.cell?_setCell_other _ _ _ _ (by simp [hne])];exact hq
 exact⟨_,by simp [results,Tryz.results122,go_sem,hr],rfl,rfl⟩
theorem swap_no (w:World) (p g off n c k:Nat) (sz o o' v s:Int) (hk:k<n) (hn:n≤1000) (hb:Blk w p 112 #[Iv sz,.slice (some ⟨g,off,none⟩) n c,Iv s]) (hg:w.cell? ⟨g,off+k,none⟩=some (Iv o')) (hne:o'≠o):
  Calls Tryz.prog 122 #[Pz p,Iv (k:Int),Iv o,Iv v] w fun e w'=>e=.returned (.tuple #[.bool false,.int .u16 0])∧w'=(w.alloc (.cells #[.int .u16 0] 30)).setCell ⟨p,2,none⟩ (Iv (wrap64 (s+1))):=by
 have hat:=fun(w1:World) h h'=>at_in w1 p g off n c k hk hn h h';have hc1:w.cell? ⟨p,1,none⟩=some (.slice (some ⟨g,off,none⟩) n c):=hb.cell 1;have hc2:w.cell? ⟨p,2,none⟩=some (Iv s):=hb.cell 2;have hplt:=hb.lt;have hglt:=World.block_lt_of_cell? w _ hg
 go_enter_defers Tryz.func122,Tryz.ntmps122
 go_wp2_with fail;refine(hat _ ?_ ?_).mono ?_
 ·rw [World.cell?_alloc_lt _ _ _ hplt];exact hc1
 ·rw [World.cell?_alloc_lt _ _ _ hglt,hg];simp
 rintro e w1 ⟨rfl,rfl⟩;go_wp2_with fail;have hq:(w.alloc (Obj.cells #[Value.int .u16 0] 30)).cell? ⟨w.heap.size,0,none⟩=some (.int .u16 0):=blk_q (q:=0);refine leaves_cons (f:=93) (args:=#[Pz p,Pz w.heap.size]) (by simp) (by simp [go_sem]) ?_;refine(count_d _ p _ s _ hq (by rw [World.cell?_alloc_lt _ _ _ hplt];exact hc2) (hb.alloc _ |>.frozen 2)).mono ?_;rintro e u' w2 ⟨rfl,rfl,rfl⟩;have hne:w.heap.size≠p:=by omega
 have hr:((w.alloc (Obj.cells #[Value.int .u16 0] 30)).setCell ⟨p,2,none⟩ (Iv (wrap64 (s+1)))).cell? ⟨w.heap.size,0,none⟩=some (.int .u16 0):=by
  rw [World.cell?_setCell_other _ _ _ _ (by simp [hne])];exact hq
 exact⟨_,by simp [results,Tryz.results122,go_sem,hr],rfl,rfl⟩
theorem swap_out (w:World) (p n c:Nat) (A:Option Addr) (a o v:Int) (ha:a<0∨(n:Int)≤a) (hc:w.cell? ⟨p,1,none⟩=some (.slice A n c)):
  Calls Tryz.prog 122 #[Pz p,Iv a,Iv o,Iv v] w fun e w'=>e=.returned (.tuple #[.bool false,.int .u16 10])∧w'=w.alloc (.cells #[.int .u16 10] 30):=by
 have hat:=fun(w1:World) h=>at_out w1 p n c A a ha h;have hplt:=World.block_lt_of_cell? w _ hc
 go_enter_defers Tryz.func122,Tryz.ntmps122
 go_wp2_with fail;refine(hat _ ?_).mono ?_
 ·rw [World.cell?_alloc_lt _ _ _ hplt];exact hc
 rintro e w1 ⟨rfl,rfl⟩;go_wp2_with fail;have hr:(w.alloc (.cells #[.int .u16 10] 30)).cell? ⟨w.heap.size,0,none⟩=some (.int .u16 10):=(Blk.new w _ _).cell 0;exact⟨_,by simp [results,Tryz.results122,go_sem,hr],rfl,rfl⟩
end Go.Proofs.YtadgbhjpgnlmoaaGreat
namespace Go.Rp
open Go.RowKit
theorem wpList_append_at {P:Program} {w:World} {B:Nat} {L:List Res} {ops:Array Oper} {rest:List Oper} {o:Oper} {a:Act} {Q:Exit→Act→World→Prop} (hgd:o.guard=none) (s x:Operand) (t:TypeId)
  (ho:o.op=.call { callee:=.builtin .append,args:=#[s,x],argTypes:=#[t,t]})
  (e:TypeId) (i:TypeInfo) (z:Value) (sz bytes:Nat) (ht:P.underlying t=some (.slice e)) (hi:P.info? e=some i) (hz:i.zero=some z)
  (hsize:i.size=sz) (hby:i.bytes=bytes) (hzs:z.cells.size=sz) (hsz:0<sz)
  {A:Option Addr} {n c:Nat} {xs:List Value} (hs:a.eval s=.slice A n c) (hat:Sep w (fun x=>B≤x) (slRes e sz A n c xs::L)) (hB:B≤w.heap.size)
  (R:Nat→Prop) (A2:Option Addr) (m c2:Nat) (news:List Value) (hx:a.eval x=.slice A2 m c2) (hr:Rd w R sz A2 m news) (h1:∀ u∈news,u.oneCell'=true)
  (h63:n+m≤maxLen) (hbytes:(n+m)*bytes≤140737488355328)
  (h:∀ A' c' w',Sep w' (fun x=>B≤x) (slRes e sz A' (n+m) c' (xs++news)::L)→Below B w w'→wpList P ops Q rest (a.put o.dst (.slice A' (n+m) c')) w'):wpList P ops Q (o::rest) a w:=by
 obtain⟨S,hS,hSU,hnext⟩:=hat.frontAny (fun x hx=>Nat.le_trans hB hx);exact wpList_append_sl w hgd s x t ho e i z sz bytes ht hi hz hsize hby hzs hsz A n c xs S hs hS R A2 m c2 news hx hr h1 h63 hbytes fun A' c' w' h2 h3=>h A' c' w' (hnext (slRes e sz A' (n+m) c' (xs++news)) w' h2 h3) (h3.below hB fun b hb=>(hSU b hb).1)
theorem Sep.back3 {w:World} {U:Nat→Prop} {a b c:Res} {l:List Res} (h:Sep w U (a::b::c::l)):Sep w U (l++[a,b,c]):=by
 have h1:Sep w U (b::c::(l++[a])):=h.snoc;have:=h1.back2
 simpa using this
theorem Sep.back5 {w:World} {U:Nat→Prop} {a b c d e:Res} {l:List Res} (h:Sep w U (a::b::c::d::e::l)):Sep w U (l++[a,b,c,d,e]):=by
 have h1:Sep w U (c::d::e::(l++[a,b])):=h.back2;have:=h1.back3
 simpa using this
end Go.Rp
namespace Go.Rp.Stk
open Go.RowKit
def mStep (most k:Nat) (o:Int) (st:List Nat×Nat):(List Nat×Nat)×Int×Int:=
 if o=1 then
  if st.2+st.1.length<most then((st.1++[k],st.2),-1,1) else(st,-1,3)
 else if o=2 then
  match st.1.getLast? with
  | some j=>((st.1.dropLast,st.2),(j:Int),2)
  | none=>if 0<st.2 then((st.1,st.2-1),-1,2) else(st,-1,4)
 else(st,-1,5)
def mAt (most below:Nat) (ops:List (Int×Int)):Nat→List Nat×Nat
 | 0=>([],below)
 | k+1=>match ops[k]? with
  | some o=>(mStep most k o.1 (mAt most below ops k)).1
  | none=>mAt most below ops k
def kindAt (ops:List (Int×Int)) (k:Nat):Int:=(ops[k]?.map Prod.fst).getD 0
def mPair (most below:Nat) (ops:List (Int×Int)) (k:Nat):Int:=(mStep most k (kindAt ops k) (mAt most below ops k)).2.1
def mCode (most below:Nat) (ops:List (Int×Int)) (k:Nat):Int:=(mStep most k (kindAt ops k) (mAt most below ops k)).2.2
theorem kindAt_lt {ops:List (Int×Int)} {k:Nat} (h:k<ops.length):kindAt ops k=ops[k].1:=by simp [kindAt,h]
theorem mAt_succ {most below:Nat} {ops:List (Int×Int)} {k:Nat} (h:k<ops.length):mAt most below ops (k+1)=(mStep most k (kindAt ops k) (mAt most below ops k)).1:=by
 rw [kindAt_lt h];simp [mAt,h]
theorem mStep_len (most k:Nat) (o:Int) (st:List Nat×Nat) (h:st.2+st.1.length≤most):(mStep most k o st).1.2+(mStep most k o st).1.1.length≤most:=by
 unfold mStep
 split
 ·split
  ·simp;omega
  ·exact h
 ·split
  ·split
   ·simp;omega
   ·split
    ·simp only;omega
    ·exact h
  ·exact h
theorem mAt_len (most below:Nat) (ops:List (Int×Int)) (h:below≤most) (k:Nat):(mAt most below ops k).2+(mAt most below ops k).1.length≤most:=by
 induction k with
 | zero=>simpa [mAt] using h
 | succ k ih=>
  simp only [mAt]
  split
  ·exact mStep_len _ _ _ _ ih
  ·exact ih
theorem mAt_lt (most below:Nat) (ops:List (Int×Int)) (k:Nat):∀ j∈(mAt most below ops k).1,j<k:=by
 induction k with
 | zero=>simp [mAt]
 | succ k ih=>
  intro j hj;simp only [mAt] at hj
  split at hj
  ·unfold mStep at hj
   split at hj
   ·split at hj
    ·rcases List.mem_append.1 hj with h | h
     ·have:=ih j h;omega
     ·have:=List.mem_singleton.1 h;omega
    ·have:=ih j hj;omega
   ·split at hj
    ·split at hj
     ·have:=ih j ((List.dropLast_sublist _).subset hj);omega
     ·split at hj
      ·have:=ih j hj;omega
      ·have:=ih j hj;omega
    ·have:=ih j hj;omega
  ·have:=ih j hj;omega
end Go.Rp.Stk
namespace Go.Proofs.YtadgbhjpgnlmoaaGreat.Stk
set_option maxRecDepth 100000
open Go.RowKit Go.Rp Go.Rp.Stk
theorem ret_int {k:IntKind} {a b:Int} (h:a=b):Ending.returned (.int k a)=.returned (.int k b):=by rw [h]
def StackAt (w:World) (p:Nat) (S:Nat→Prop) (most:Nat) (l:List Int):Prop:=
 ∃ A c,Blk w p 173 #[.slice A l.length c,Iv (most:Int)]∧Sl w 21 1 A l.length c (l.map fun x=>Iw x) S∧S p∧l.length≤most∧most≤1000
section
variable {w w':World} {p most:Nat} {S T:Nat→Prop} {l:List Int}
theorem StackAt.mono (h:StackAt w p S most l) (hS:∀ b,S b→T b):StackAt w p T most l:=by
 obtain⟨A,c,hb,hs,hp,hl⟩:=h;exact⟨A,c,hb,hs.mono hS,hS p hp,hl⟩
theorem StackAt.mod (h:StackAt w p S most l) (hm:Mod T w w') (hd:∀ b,S b→¬ T b):StackAt w' p S most l:=by
 obtain⟨A,c,hb,hs,hp,hl⟩:=h;exact⟨A,c,hb.mod hm (hd p hp),hs.mod hm hd,hp,hl⟩
theorem StackAt.alloc (h:StackAt w p S most l) (o:Obj):StackAt (w.alloc o) p S most l:=by
 obtain⟨A,c,hb,hs,hp,hl⟩:=h;exact⟨A,c,hb.alloc o,hs.alloc o,hp,hl⟩
theorem StackAt.drew (h:StackAt w p S most l):StackAt w.drew p S most l:=h
theorem StackAt.lt (h:StackAt w p S most l):StackAt w p (fun b=>S b∧b<w.heap.size) most l:=by
 obtain⟨A,c,hb,hs,hp,hl⟩:=h;exact⟨A,c,hb,hs.lt,⟨hp,hb.lt⟩,hl⟩
theorem StackAt.keep (h:StackAt w p S most l) (hb:Below w.heap.size w w'):StackAt w' p S most l:=
 (h.lt.mod (T:=fun b=>w.heap.size≤b) (Mod.of_below hb) (fun b hb=>by omega)).mono fun _ hb=>hb.1
theorem StackAt.len (h:StackAt w p S most l):l.length≤most∧most≤1000:=by obtain⟨A,c,hb,hs,hp,hl⟩:=h;exact hl
end
theorem stable_stack (p most:Nat) (l:List Int):Stable (fun w S=>StackAt w p S most l):=⟨fun h=>h.mono,fun h=>h.mod,fun h=>h.lt⟩
theorem len_any (w:World) (p:Nat) (S:Nat→Prop) (most:Nat) (l:List Int) (h:StackAt w p S most l):
  Calls Tryz.prog 209 #[Pz p] w fun e w'=>e=.returned (Iv (l.length:Int))∧w=w':=by
 obtain⟨A,c,hb,hs,hp,hl⟩:=h;have hc:w.cell? ⟨p,0,none⟩=some (.slice A l.length c):=hb.cell 0;go_enter Tryz.func209,Tryz.ntmps209;go_wp2;go_ret;exact⟨rfl,rfl⟩
theorem most_any (w:World) (p:Nat) (S:Nat→Prop) (most:Nat) (l:List Int) (h:StackAt w p S most l):
  Calls Tryz.prog 216 #[Pz p] w fun e w'=>e=.returned (Iv (most:Int))∧w=w':=by
 obtain⟨A,c,hb,hs,hp,hl⟩:=h;have hc:w.cell? ⟨p,1,none⟩=some (Iv (most:Int)):=hb.cell 1;go_enter Tryz.func216,Tryz.ntmps216;go_wp2;go_ret;exact⟨rfl,rfl⟩
def cut (m:Int):Nat:=(max 0 (min m 1000)).toNat
theorem new_any (w:World) (m:Int):
  Calls Tryz.prog 58 #[Iv m] w fun e w'=>e=.returned (Pz w.heap.size)∧w'=w.alloc (.cells #[.slice none 0 0,Iv (cut m:Int)] 173):=by
 by_cases h1:m≤0
 ·have e:((cut m:Nat):Int)=0:=by unfold cut;omega
  rw [e];have H:=Lib.hid e;clear e;go_enter Tryz.func58,Tryz.ntmps58;go_wp2;go_ret;exact⟨rfl,rfl⟩
 ·by_cases h2:1000<m
  ·have e:((cut m:Nat):Int)=1000:=by unfold cut;omega
   rw [e];have H:=Lib.hid e;clear e;go_enter Tryz.func58,Tryz.ntmps58;go_wp2;go_ret;exact⟨rfl,rfl⟩
  ·have e:((cut m:Nat):Int)=m:=by unfold cut;omega
   rw [e];have H:=Lib.hid e;clear e;go_enter Tryz.func58,Tryz.ntmps58;go_wp2;go_ret;exact⟨rfl,rfl⟩
theorem info_i32:(Tryz.prog.info? 21).map (fun i=>(i.zero,i.size,i.bytes))=some (some (Iw 0),1,4):=by kernel_rfl
theorem pop_none (w:World) (p:Nat) (S:Nat→Prop) (most:Nat) (h:StackAt w p S most []):
  Calls Tryz.prog 222 #[Pz p] w fun e w'=>e=.returned (.tuple #[Iw 0,.bool false])∧w=w':=by
 have hl:=len_any w p S most [] h;go_enter Tryz.func222,Tryz.ntmps222;go_wp2_with fail;refine(hl).mono ?_;rintro e w1 ⟨rfl,rfl⟩;go_wp2_with fail
 go_ret2
 exact⟨rfl,rfl⟩
theorem pop_some (w:World) (p:Nat) (S:Nat→Prop) (most:Nat) (l:List Int) (x:Int) (h:StackAt w p S most (l++[x])):
  Calls Tryz.prog 222 #[Pz p] w fun e w'=>e=.returned (.tuple #[Iw x,.bool true])∧StackAt w' p S most l∧Mod S w w':=by
 have hlen:=len_any w p S most _ h;obtain⟨A,c,hb,hs,hp,h1,h2⟩:=h;obtain⟨n,hn⟩:∃ n,l.length=n:=⟨_,rfl⟩;simp only [List.length_append,List.length_cons,List.length_nil,hn,Nat.zero_add] at hlen hb hs h1;have hle:=hs.le;have hcm:=hs.cap_le;unfold maxLen at hcm;obtain⟨g,off,rfl,hg,hlt,hfz,hx⟩:=hs.at (by omega);have hx0:w.cell? ⟨g,off+n,none⟩=some (Iw x):=hx n _ (by simp [← hn]);have hc:w.cell? ⟨p,0,none⟩=some (.slice (some ⟨g,off,none⟩) (n+1) c):=hb.cell 0;have hf:=hb.frozen 0;have hd:=(hs.take (k:=n) (by omega)).farT (p:=⟨p,0,none⟩) hb (by decide) (.slice (some ⟨g,off,none⟩) n c);have HN:=Lib.hid hn;clear hx hfz hn;go_enter Tryz.func222,Tryz.ntmps222;go_wp2_with fail;refine(hlen).mono ?_;rintro e w1 ⟨rfl,rfl⟩;go_wp2_with fail
 go_ret2
 refine⟨rfl,⟨some ⟨g,off,none⟩,c,?_,?_,hp,by rw [HN.out];omega,h2⟩,(Mod.refl _ _).setCell (.inl hp) _⟩
 ·rw [HN.out];exact hb.set 0 _
 ·rw [HN.out]
  have e:((l++[x]).map fun x=>Iw x).take (n*1)=l.map fun x=>Iw x:=by
   rw [Nat.mul_one,←HN.out,List.map_append];exact List.take_left' (by simp)
  rw [e] at hd;exact hd
theorem push_full (w:World) (p:Nat) (S:Nat→Prop) (most:Nat) (l:List Int) (x:Int) (h:StackAt w p S most l) (hf:l.length=most):
  Calls Tryz.prog 218 #[Pz p,Iw x] w fun e w'=>e=.returned (.bool false)∧Below w.heap.size w w':=by
 obtain⟨A,c,hb,hs,hp,h1,h2⟩:=h;have hc:w.cell? ⟨p,0,none⟩=some (.slice A l.length c):=hb.cell 0;have hc1:w.cell? ⟨p,1,none⟩=some (Iv (most:Int)):=hb.cell 1;have hge:(most:Int)≤(l.length:Int):=by omega
 clear hf;go_enter Tryz.func218,Tryz.ntmps218;go_wp2;go_quiet (fail);go_wp2;go_ret;exact⟨rfl,(Mod.refl (fun _=>False) w).drewN _ |>.below (Nat.le_refl _) (fun _ h=>h.elim)⟩
theorem push_nil (w:World) (x:Int):
  Calls Tryz.prog 218 #[.pointer none,Iw x] w fun e w'=>e=.returned (.bool false)∧Below w.heap.size w w':=by
 go_enter Tryz.func218,Tryz.ntmps218;go_wp2;go_quiet (fail);go_wp2;go_ret;exact⟨rfl,(Mod.refl (fun _=>False) w).drewN _ |>.below (Nat.le_refl _) (fun _ h=>h.elim)⟩
theorem push_some (w:World) (p:Nat) (S:Nat→Prop) (most:Nat) (l:List Int) (x:Int) (h:StackAt w p S most l) (hf:l.length<most):
  Calls Tryz.prog 218 #[Pz p,Iw x] w fun e w'=>e=.returned (.bool true)∧StackAt w' p (grow S w w') most (l++[x])∧Mod S w w':=by
 obtain⟨i0,hi0,hz0,hz1,hz2⟩:=info_parts info_i32;obtain⟨A,c,hb,hs,hp,h1,h2⟩:=h;obtain⟨n,hn⟩:∃ n,l.length=n:=⟨_,rfl⟩;rw [hn] at hb hs h1 hf;have hc:w.cell? ⟨p,0,none⟩=some (.slice A n c):=hb.cell 0;have hc1:w.cell? ⟨p,1,none⟩=some (Iv (most:Int)):=hb.cell 1;have hlt:¬ (most:Int)≤(n:Int):=by omega
 have hfz:=hb.frozen 0;have hplt:=hb.lt;have HN:=Lib.hid hn;have hown:=hs.off hb (by decide);clear hn;go_enter Tryz.func218,Tryz.ntmps218;go_wp2;go_quiet (fail);go_wp2_with (at_builtin;refine wpList_append_sl _ rfl (.tmp 23) (.tmp 25) _ rfl 21 i0 _ 1 4 Tryz.underlying35 hi0 hz0 hz1 hz2 rfl (by omega) A n c _ _ rfl (by exact(hown.alloc _).drewN _) (· =w.heap.size) (some ⟨w.heap.size,0,none⟩) 1 1 [Iw x] rfl (by exact(Rd.lit (sz:=1) w _ #[Iw x] 1 rfl).drewN _) (by simp [Value.oneCell']) (by simp only [maxLen];omega) (by omega) ?_;intro A' c' w1 hown1 hmod1;have hblk1:=(((hb.alloc _).drewN _)).mod hmod1 (by simp);have hc1:w1.cell? ⟨p,0,none⟩=some (.slice A n c):=hblk1.cell 0;have hf1:=hblk1.frozen 0);go_ret;obtain⟨k1,k2,k3⟩:=field_append (w:=w) 0 hp ((Mod.refl _ _).drewN _ |>.alloc _) hblk1 (by decide) hown1 hmod1;refine⟨rfl,⟨A',c',?_,?_,.inl hp,?_,h2⟩,k3⟩
 ·simpa [HN.out] using k1
 ·simpa [HN.out] using k2
 ·simp [HN.out];omega
end Go.Proofs.YtadgbhjpgnlmoaaGreat.Stk
namespace Go.Rp.Stk
open Go.RowKit
section
variable {most below:Nat} {ops:List (Int×Int)}
theorem mStep_pop_some {most k j:Nat} {l:List Nat} {b:Nat}:mStep most k 2 (l++[j],b)=((l,b),(j:Int),2):=by simp [mStep]
theorem mStep_met {most k:Nat} {o:Int} {st:List Nat×Nat} {j:Nat} (h:(mStep most k o st).2.1=(j:Int)):o=2∧∃ l,st.1=l++[j]:=by
 unfold mStep at h
 split at h
 ·split at h<;>simp at h<;>omega
 ·split at h
  ·rename_i h2
   split at h
   ·rename_i j' hj;simp only at h;have:j'=j:=by omega
    subst this;obtain⟨l,hl⟩:=List.getLast?_eq_some_iff.1 hj;exact⟨h2,l,hl⟩
   ·split at h<;>simp at h<;>omega
  ·first | (simp at h;done) | (simp at h;omega)
theorem mStep_neg {most k:Nat} {o:Int} {st:List Nat×Nat}:(mStep most k o st).2.1= -1∨∃ j:Nat,(mStep most k o st).2.1=(j:Int):=by
 unfold mStep
 split
 ·split<;>exact .inl rfl
 ·split
  ·split
   ·exact .inr ⟨_,rfl⟩
   ·split<;>exact .inl rfl
  ·exact .inl rfl
theorem mPair_met {k j:Nat} (h:mPair most below ops k=(j:Int)):kindAt ops k=2∧∃ l,(mAt most below ops k).1=l++[j]:=mStep_met h
end
def valAt (ops:List (Int×Int)) (k:Nat):Int:=(ops[k]?.map Prod.snd).getD 0
theorem valAt_lt {ops:List (Int×Int)} {k:Nat} (h:k<ops.length):valAt ops k=ops[k].2:=by simp [valAt,h]
def mVal (l0:List Int) (mo:Nat) (ops:List (Int×Int)) (k:Nat):Int:=
 if 0≤mPair mo l0.length ops k then valAt ops (mPair mo l0.length ops k).toNat
 else if mCode mo l0.length ops k=2 then l0[(mAt mo l0.length ops k).2-1]?.getD 0 else 0
def mEnd (l0:List Int) (ops:List (Int×Int)) (st:List Nat×Nat):List Int:=l0.take st.2++st.1.map (valAt ops)
theorem mVal_met {l0:List Int} {mo:Nat} {ops:List (Int×Int)} {k j:Nat} (h:mPair mo l0.length ops k=(j:Int)):mVal l0 mo ops k=valAt ops j:=by
 unfold mVal;rw [h,if_pos (by omega)];simp
theorem mVal_taken {l0:List Int} {mo:Nat} {ops:List (Int×Int)} {k:Nat} (h:mPair mo l0.length ops k= -1) (h2:mCode mo l0.length ops k=2):mVal l0 mo ops k=l0[(mAt mo l0.length ops k).2-1]?.getD 0:=by
 unfold mVal;rw [h,if_neg (by omega),if_pos h2]
theorem mVal_none {l0:List Int} {mo:Nat} {ops:List (Int×Int)} {k:Nat} (h2:mCode mo l0.length ops k≠2) (h:mPair mo l0.length ops k= -1):mVal l0 mo ops k=0:=by
 unfold mVal;rw [h,if_neg (by omega),if_neg h2]
theorem below_step (most k:Nat) (o:Int) (st:List Nat×Nat):((mStep most k o st).1.2=st.2∧(mStep most k o st).2≠(-1,2))∨((mStep most k o st).2=(-1,2)∧(mStep most k o st).1.2=st.2-1∧0<st.2∧st.1=[]∧o=2∧(mStep most k o st).1.1=[]):=by
 unfold mStep
 split
 ·split
  ·exact .inl ⟨rfl,by simp⟩
  ·exact .inl ⟨rfl,by simp⟩
 ·split
  ·rename_i h1 h2
   split
   ·rename_i j hj
    left
    refine⟨rfl,fun h=>?_⟩;simp only [Prod.mk.injEq] at h;omega
   ·rename_i hj;have:st.1=[]:=List.getLast?_eq_none_iff.1 hj
    split
    ·rename_i h;exact .inr ⟨rfl,rfl,h,this,h2,this⟩
    ·exact .inl ⟨rfl,by simp⟩
  ·exact .inl ⟨rfl,by simp⟩
theorem mAt_below_le (most below:Nat) (ops:List (Int×Int)) (k:Nat):(mAt most below ops k).2≤below:=by
 induction k with
 | zero=>simp [mAt]
 | succ k ih=>
  by_cases h:k<ops.length
  ·rw [mAt_succ h]
   rcases below_step most k (kindAt ops k) (mAt most below ops k) with ⟨e,_⟩ | ⟨_,e,_⟩<;>omega
  ·have:ops[k]? =none:=List.getElem?_eq_none (by omega)
   simpa [mAt,this] using ih
def toldK (n:Nat) (code val:Nat→Int) (k:Nat):List (Int×Int):=(List.range n).map fun i=>(code i,if i<k then val i else 0)
theorem toldK_len (n:Nat) (code val:Nat→Int) (k:Nat):(toldK n code val k).length=n:=by simp [toldK]
theorem toldK_get (n:Nat) (code val:Nat→Int) (k i:Nat) (h:i<n):(toldK n code val k)[i]'(by rw [toldK_len];exact h)=(code i,if i<k then val i else 0):=by simp [toldK]
theorem toldK_zero (n:Nat) (code val:Nat→Int):toldK n code val 0=fillL n n (fun i=>(code i,0)) (0,0):=by
 apply List.ext_getElem
 ·simp [toldK,fillL]
 ·intro i h1 h2;simp [toldK] at h1;simp [toldK,fillL,h1]
theorem toldK_set (n:Nat) (code val:Nat→Int) (k:Nat):(toldK n code val k).set k (code k,val k)=toldK n code val (k+1):=by
 apply List.ext_getElem
 ·simp [toldK]
 ·intro i h1 h2;simp only [toldK_len] at h2;rw [List.getElem_set]
  split
  ·rename_i h;subst h;rw [toldK_get _ _ _ _ _ h2,if_pos (by omega)]
  ·rename_i h;rw [toldK_get _ _ _ _ _ h2,toldK_get _ _ _ _ _ h2]
   by_cases hk:i<k
   ·rw [if_pos hk,if_pos (by omega)]
   ·rw [if_neg hk,if_neg (by omega)]
end Go.Rp.Stk
namespace Go.Rp
open Go.RowKit
def IsL (k:IntKind) (es:List MapEntry) (l:List (Int×Value)):Prop:=es.map (fun e=>(e.key,e.val))=l.map fun x=>(Value.int k x.1,x.2)
def setL (x:Int) (v:Value):List (Int×Value)→List (Int×Value)
 | []=>[(x,v)]
 | y::l=>if y.1=x then(x,v)::l else y::setL x v l
def getL (x:Int):List (Int×Value)→Option Value
 | []=>none
 | y::l=>if y.1=x then some y.2 else getL x l
theorem getL_setL (x y:Int) (v:Value) (l:List (Int×Value)):getL y (setL x v l)=if x=y then some v else getL y l:=by
 induction l with
 | nil=>simp [setL,getL]
 | cons a l ih=>
  simp only [setL]
  split
  ·rename_i h;simp only [getL,h]
   by_cases hxy:x=y<;>simp [hxy]
  ·rename_i h;simp only [getL,ih]
   by_cases hay:a.1=y
   ·have:¬ x=y:=fun e=>h (by rw [hay,e]);simp [hay,this]
   ·simp [hay]
theorem findNow_isL (k:IntKind) (x:Int):∀ (es:List MapEntry) (l:List (Int×Value)) (i:Nat),IsL k es l→
  (getL x l=none∧Instr.findNow (.int k) (.int k x) es i=some none∧setL x=setL x∧(∀ v,setL x v l=l++[(x,v)])∧∀ y∈l,y.1≠x)∨
  ∃ j u,getL x l=some u∧Instr.findNow (.int k) (.int k x) es i=some (some (i+j,u))∧l[j]? =some (x,u)∧(∀ v,setL x v l=l.set j (x,v))
 | [],l,i,h=>by
  have:l=[]:=by
   cases l with
   | nil=>rfl
   | cons a l=>simp [IsL] at h
  subst this;exact .inl ⟨rfl,rfl,rfl,fun v=>rfl,by simp⟩
 | e::es,l,i,h=>by
  rcases l with _ | ⟨a,l⟩
  ·simp [IsL] at h
  ·simp only [IsL,List.map_cons,List.cons.injEq,Prod.mk.injEq] at h;obtain⟨⟨hk,hv⟩,ht⟩:=h
   by_cases ha:a.1=x
   ·refine .inr ⟨0,a.2,by simp [getL,ha],?_,by simp [← ha],fun v=>by simp [setL,ha]⟩;simp [Instr.findNow,Instr.sameNow,hk,ha,hv]
   ·have hf:Instr.findNow (.int k) (.int k x) (e::es) i=Instr.findNow (.int k) (.int k x) es (i+1):=by
     have hb:(x==a.1)=false:=by
      rw [beq_eq_false_iff_ne];exact fun e=>ha e.symm
     simp [Instr.findNow,Instr.sameNow,hk,hb]
    rcases findNow_isL k x es l (i+1) ht with ⟨h1,h2,_,h3,h4⟩ | ⟨j,u,h1,h2,h3,h4⟩
    ·exact .inl ⟨by simp [getL,ha,h1],by rw [hf,h2],rfl,fun v=>by simp [setL,ha,h3],by
      intro y hy
      rcases List.mem_cons.1 hy with rfl | hy
      ·exact ha
      ·exact h4 y hy⟩
    ·exact .inr ⟨j+1,u,by simp [getL,ha,h1],by rw [hf,h2];simp;omega,by simpa using h3,fun v=>by simp [setL,ha,h4]⟩
def IsMap (w:World) (k:IntKind) (r:Nat) (l:List (Int×Value)):Prop:=∃ es c,w.heap[r]? =some (.map es c)∧MapKept.Stamped es c∧IsL k es.toList l
theorem IsMap.lt {w:World} {k:IntKind} {r:Nat} {l:List (Int×Value)} (h:IsMap w k r l):r<w.heap.size:=by
 obtain⟨es,c,h,_⟩:=h
 rcases Nat.lt_or_ge r w.heap.size with hlt | hge
 ·exact hlt
 ·rw [Array.getElem?_eq_none hge] at h;cases h
theorem stable_map (k:IntKind) (r:Nat) (l:List (Int×Value)):Stable (fun w R=>IsMap w k r l∧R r):=
 ⟨fun h hS=>⟨h.1,hS _ h.2⟩,fun h hm hd=>by
  obtain⟨es,c,h1,h2,h3⟩:=h.1;exact⟨⟨es,c,(hm.block r h.1.lt (hd _ h.2)).trans h1,h2,h3⟩,h.2⟩,fun h=>⟨h.1,h.2,h.1.lt⟩⟩
def mapR (k:IntKind) (r:Nat) (l:List (Int×Value)):Res:=⟨fun w R=>IsMap w k r l∧R r,stable_map k r l⟩
section
variable {P:Program} {w:World} {L:List Res} {B r:Nat} {k:IntKind} {l:List (Int×Value)}
theorem Sep.allocMap (h:Sep w (fun x=>B≤x) L) (hB:B≤w.heap.size) (k:IntKind):Sep (w.alloc (.map #[] 0)) (fun x=>B≤x) (mapR k w.heap.size []::L):=
 h.made (fun x hx=>Nat.le_trans hB hx) ((Below.refl _ w).alloc (Nat.le_refl _) _) ⟨⟨#[],0,heap_alloc_new w _,MapKept.stamped_empty 0,rfl⟩,Nat.le_refl _,by simp⟩
theorem mod_setObj {r:Nat} (w:World) (o:Obj):Mod (fun x=>x=r) w { w with heap:=w.heap.setIfInBounds r o}:=
 ⟨rfl,rfl,rfl,by simp,fun b hb hn=>by
  simp only [Array.getElem?_setIfInBounds];rw [if_neg fun e=>hn e.symm]⟩
theorem mapPut {T kt et:TypeId} (hT:P.underlying T=some (.map kt et)) (hk:P.underlying kt=some (.int k)) (hB:B≤w.heap.size)
  (h:Sep w (fun x=>B≤x) (mapR k r l::L)) (x:Int) (v:Value):
  ∃ w',(Instr.mapUpdate T (.map (some r)) (.int k x) v).run P w=.ok () w'∧Sep w' (fun x=>B≤x) (mapR k r (setL x v l)::L)∧Below B w w':=by
 obtain⟨S,⟨⟨es,c,hb,hs,hl⟩,hr⟩,h2,h3⟩:=h.front (a':=mapR k r (setL x v l)) fun x hx=>Nat.le_trans hB hx;have hik:MapKept.IsKey (.int k) (.int k x):=rfl;have hrl:r<w.heap.size:=(h2 r hr).2
 rcases findNow_isL k x es.toList l 0 hl with ⟨h4,h5,_,h6,h7⟩ | ⟨j,u,h4,h5,h6,h7⟩
 ·have hkey:∀ y∈es.toList,y.key≠ .int k x:=by
   intro y hy he;have hm:(y.key,y.val)∈es.toList.map (fun e=>(e.key,e.val)):=List.mem_map.2 ⟨y,hy,rfl⟩;have hl':es.toList.map (fun e=>(e.key,e.val))=l.map fun x=>(Value.int k x.1,x.2):=hl;rw [hl'] at hm;obtain⟨z,hz,hz'⟩:=List.mem_map.1 hm;simp only [Prod.mk.injEq] at hz';have:Value.int k z.1=Value.int k x:=hz'.1.trans he
   injection this with _ this
   exact h7 z hz this
  refine⟨{ w with heap:=w.heap.setIfInBounds r (.map (es.push ⟨.int k x,v,c⟩) (c+1))},?_,h3 _ ⟨⟨_,_,(MapKept.heap_set hb).1,MapKept.stamped_push hs hkey,?_⟩,grow_left _ hr⟩ ((mod_setObj w _).mono fun b hb=>hb▸hr),?_⟩
  ·simp [Instr.mapUpdate,run_underlying hT,MapKept.run_getObj_map hb,MapKept.run_checkKey hk hik,MapKept.run_findKey hk h5,MapKept.run_setObj_map _ hb,Result.andThen]
  ·have hl':es.toList.map (fun e=>(e.key,e.val))=l.map fun x=>(Value.int k x.1,x.2):=hl;unfold IsL;rw [h6];simp [hl']
  ·exact(mod_setObj (r:=r) w _).below hB fun b hb=>hb▸(h2 r hr).1
 ·have hj:∃ e,es[j]? =some e∧e.key=.int k x:=by
   have hl':es.toList.map (fun e=>(e.key,e.val))=l.map fun x=>(Value.int k x.1,x.2):=hl;have:=congrArg (fun z=>z[j]?) hl';simp only [List.getElem?_map,h6,Option.map_some] at this
   rcases he:es.toList[j]? with _ | e
   ·rw [he] at this;simp at this
   ·rw [he] at this;simp only [Option.map_some,Option.some.injEq,Prod.mk.injEq] at this;exact⟨e,by simpa using he,this.1⟩
  obtain⟨e,hj,he⟩:=hj;have hkeep:∀ e',es[j]? =some e'→({ e' with key:=.int k x,val:=v}:MapEntry).key=e'.key:=fun e' he'=>by rw [hj] at he';cases he';exact he.symm
  refine⟨{ w with heap:=w.heap.setIfInBounds r (.map (es.modify j fun e=> { e with key:=.int k x,val:=v}) c)},?_,h3 _ ⟨⟨_,_,(MapKept.heap_set hb).1,MapKept.stamped_modify hs _ _ (fun _ _=>rfl) (fun e' _ he'=>hkeep e' he'),?_⟩,grow_left _ hr⟩ ((mod_setObj w _).mono fun b hb=>hb▸hr),?_⟩
  ·rw [Nat.zero_add] at h5;simp [Instr.mapUpdate,run_underlying hT,MapKept.run_getObj_map hb,MapKept.run_checkKey hk hik,MapKept.run_findKey hk h5,hj,he,MapKept.run_keyThatStays hik,MapKept.run_setObj_map _ hb,Result.andThen]
  ·have hl':es.toList.map (fun e=>(e.key,e.val))=l.map fun x=>(Value.int k x.1,x.2):=hl;unfold IsL;rw [h7];apply List.ext_getElem?;intro i;have hi:=congrArg (fun z=>z[i]?) hl';simp only [List.getElem?_map] at hi;simp only [List.getElem?_map,Array.toList_modify,List.getElem?_modify,List.getElem?_set]
   by_cases hij:j=i
   ·subst hij;have hlt:j<l.length:=(List.getElem?_eq_some_iff.1 h6).1;have hj':es.toList[j]? =some e:=by simpa using hj
    simp [hj',hlt]
   ·simp only [hij,if_false]
    simpa using hi
  ·exact(mod_setObj (r:=r) w _).below hB fun b hb=>hb▸(h2 r hr).1
theorem run_map_find {T kt et:TypeId} (hT:P.underlying T=some (.map kt et)) (hk:P.underlying kt=some (.int k)) (h:IsMap w k r l) (x:Int) {z:Value} (hz:(zeroValue et).run P w=.ok z w) (ok:Bool):
  (Instr.lookup T (.map (some r)) (.int k x) ok).run P w=.ok (if ok then .tuple #[(getL x l).getD z,.bool (getL x l).isSome] else(getL x l).getD z) w:=by
 obtain⟨es,c,hb,hs,hl⟩:=h;have hik:MapKept.IsKey (.int k) (.int k x):=rfl
 rcases findNow_isL k x es.toList l 0 hl with ⟨h4,h5,_,h6,h7⟩ | ⟨j,u,h4,h5,h6,h7⟩
 ·rw [h4]
  cases ok<;>simp [Instr.lookup,run_underlying hT,MapKept.run_getObj_map hb,MapKept.run_checkKey hk hik,MapKept.run_findKey hk h5,hz,Result.andThen]
 ·rw [h4]
  cases ok<;>simp [Instr.lookup,run_underlying hT,MapKept.run_getObj_map hb,MapKept.run_checkKey hk hik,MapKept.run_findKey hk h5,Result.andThen]
theorem Sep.map (h:Sep w (fun x=>B≤x) (mapR k r l::L)):IsMap w k r l:=h.get.1
end
end Go.Rp
