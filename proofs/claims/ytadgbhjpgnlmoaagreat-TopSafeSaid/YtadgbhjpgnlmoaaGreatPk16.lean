/- TopSafe, a part of its proof; no conditions. -/
import Derived.Test.YtadgbhjpgnlmoaaGreatPk07
set_option linter.all false
namespace Go.Proofs.YtadgbhjpgnlmoaaGreat.Rng
set_option maxRecDepth 100000
open Go.RowKit Go.Rp Go.Rp.Rng
abbrev iv (cs:List Int):List Value:=cs.map fun x=>Iw x
def RingAt (w:World) (p:Nat) (S:Nat→Prop) (N:Nat) (l:List Int):Prop:=
 ∃ A c cs f,Blk w p 177 #[.slice A N c,Iv ((f:Nat):Int),Iv (l.length:Int)]∧Sl w 21 1 A N c (iv cs) S∧S p∧Rg cs N f l∧N≤1000
section
variable {w w':World} {p N:Nat} {S T:Nat→Prop} {l:List Int}
theorem RingAt.mono (h:RingAt w p S N l) (hS:∀ b,S b→T b):RingAt w p T N l:=by
 obtain⟨A,c,cs,f,hb,hs,hp,hl⟩:=h;exact⟨A,c,cs,f,hb,hs.mono hS,hS p hp,hl⟩
theorem RingAt.mod (h:RingAt w p S N l) (hm:Mod T w w') (hd:∀ b,S b→¬ T b):RingAt w' p S N l:=by
 obtain⟨A,c,cs,f,hb,hs,hp,hl⟩:=h;exact⟨A,c,cs,f,hb.mod hm (hd p hp),hs.mod hm hd,hp,hl⟩
theorem RingAt.lt (h:RingAt w p S N l):RingAt w p (fun b=>S b∧b<w.heap.size) N l:=by
 obtain⟨A,c,cs,f,hb,hs,hp,hl⟩:=h;exact⟨A,c,cs,f,hb,hs.lt,⟨hp,hb.lt⟩,hl⟩
theorem RingAt.len (h:RingAt w p S N l):l.length≤N∧N≤1000:=by obtain⟨A,c,cs,f,hb,hs,hp,hl,hN⟩:=h;exact⟨hl.le,hN⟩
end
theorem stable_ring (p N:Nat) (l:List Int):Stable (fun w S=>RingAt w p S N l):=⟨fun h=>h.mono,fun h=>h.mod,fun h=>h.lt⟩
theorem rlen_any (w:World) (p:Nat) (S:Nat→Prop) (N:Nat) (l:List Int) (h:RingAt w p S N l):
  Calls Tryz.prog 230 #[Pz p] w fun e w'=>e=.returned (Iv (l.length:Int))∧w=w':=by
 obtain⟨A,c,cs,f,hb,hs,hp,hl⟩:=h;have c2:w.cell? ⟨p,2,none⟩=some (Iv (l.length:Int)):=hb.cell 2;go_enter Tryz.func230,Tryz.ntmps230;go_wp2;go_ret;exact⟨rfl,rfl⟩
theorem rmost_any (w:World) (p:Nat) (S:Nat→Prop) (N:Nat) (l:List Int) (h:RingAt w p S N l):
  Calls Tryz.prog 239 #[Pz p] w fun e w'=>e=.returned (Iv (N:Int))∧w=w':=by
 obtain⟨A,c,cs,f,hb,hs,hp,hl⟩:=h;have c0:w.cell? ⟨p,0,none⟩=some (.slice A N c):=hb.cell 0;go_enter Tryz.func239,Tryz.ntmps239;go_wp2;go_ret;exact⟨rfl,rfl⟩
theorem at_raw (w:World) (p g off N c f k:Nat) (h0:w.cell? ⟨p,0,none⟩=some (.slice (some ⟨g,off,none⟩) N c)) (h1:w.cell? ⟨p,1,none⟩=some (Iv (f:Int))) (hf:f<N) (hN:N≤1000) (hk:k≤1000) {i:Nat} (hi:(f+k)%N=i):
  Calls Tryz.prog 233 #[Pz p,Iv (k:Int)] w fun e w'=>e=.returned (.pointer (some ⟨g,off+i,none⟩))∧∃ nq,w'=w.drewN nq:=by
 have hlt:i<N:=by rw [← hi];exact Nat.mod_lt _ (by omega)
 have ht:((f:Int)+(k:Int)+(N:Int)).tmod (N:Int)=(i:Int):=by
  rw [Int.tmod_eq_emod_of_nonneg (by omega),Int.add_emod_right,←hi]
  rfl
 have ht2:((f:Int)+(k:Int)+(N:Int))%(N:Int)=(i:Int):=by
  rw [Int.add_emod_right,←hi]
  rfl
 have hN0:¬ (N:Int)=0:=by omega
 have hi2:(i:Int)<(N:Int):=by omega
 have hN1:¬ N=0:=by omega
 clear hi;go_enter Tryz.func233,Tryz.ntmps233;go_wp2;go_quiet (fail);go_wp2;go_ret;exact⟨rfl,_,rfl⟩
theorem move_raw (w:World) (p N c f:Nat) (A:Option Addr) (by_:Int) (h0:w.cell? ⟨p,0,none⟩=some (.slice A N c)) (h1:w.cell? ⟨p,1,none⟩=some (Iv (f:Int))) (hz:w.frozen? ⟨p,1,none⟩=false) (hf:f<N) (hN:N≤1000) (hb: -1≤by_∧by_≤1) {i:Nat} (hi:((f:Int)+by_+(N:Int))%(N:Int)=(i:Int)):
  Calls Tryz.prog 248 #[Pz p,Iv by_] w fun e w'=>e=.returned (.tuple #[])∧w'=w.drew.setCell ⟨p,1,none⟩ (Iv (i:Int)):=by
 obtain⟨hb0,hb1⟩:=hb
 have ht:((f:Int)+by_+(N:Int)).tmod (N:Int)=(i:Int):=by
  rw [Int.tmod_eq_emod_of_nonneg (by omega),hi]
 have hN0:¬ (N:Int)=0:=by omega
 have hN1:¬ N=0:=by omega
 go_enter Tryz.func248,Tryz.ntmps248;go_wp2
 go_still_tail 21,(by kernel_rfl)
 change wpList _ _ _ _ _ w.drew;have hz':w.drew.frozen? ⟨p,1,none⟩=false:=hz;have h1':w.drew.cell? ⟨p,1,none⟩=some (Iv (f:Int)):=h1;go_wp2
 go_end0
 exact⟨rfl,by first | rfl | (rw [hi];rfl) | (rw [ht];rfl)⟩
theorem pushL_full (w:World) (p:Nat) (S:Nat→Prop) (N:Nat) (l:List Int) (v:Int) (h:RingAt w p S N l) (hf:l.length=N):
  Calls Tryz.prog 242 #[Pz p,Iw v] w fun e w'=>e=.returned (.bool false)∧w=w':=by
 have h1:=rlen_any w p S N l h;have h2:=rmost_any w p S N l h;have hd:(N:Int)≤(l.length:Int):=by omega
 clear hf;go_enter Tryz.func242,Tryz.ntmps242;go_wp2_with fail;refine(h1).mono ?_;rintro e w1 ⟨rfl,rfl⟩;go_wp2_with fail;refine(h2).mono ?_;rintro e w1 ⟨rfl,rfl⟩;go_wp2_with fail;go_ret;exact⟨rfl,rfl⟩
theorem pushR_full (w:World) (p:Nat) (S:Nat→Prop) (N:Nat) (l:List Int) (v:Int) (h:RingAt w p S N l) (hf:l.length=N):
  Calls Tryz.prog 243 #[Pz p,Iw v] w fun e w'=>e=.returned (.bool false)∧w=w':=by
 have h1:=rlen_any w p S N l h;have h2:=rmost_any w p S N l h;have hd:(N:Int)≤(l.length:Int):=by omega
 clear hf;go_enter Tryz.func243,Tryz.ntmps243;go_wp2_with fail;refine(h1).mono ?_;rintro e w1 ⟨rfl,rfl⟩;go_wp2_with fail;refine(h2).mono ?_;rintro e w1 ⟨rfl,rfl⟩;go_wp2_with fail;go_ret;exact⟨rfl,rfl⟩
theorem popL_none (w:World) (p:Nat) (S:Nat→Prop) (N:Nat) (h:RingAt w p S N []):
  Calls Tryz.prog 240 #[Pz p] w fun e w'=>e=.returned (.tuple #[Iw 0,.bool false])∧w=w':=by
 have h1:=rlen_any w p S N [] h;go_enter Tryz.func240,Tryz.ntmps240;go_wp2_with fail;refine(h1).mono ?_;rintro e w1 ⟨rfl,rfl⟩;go_wp2_with fail
 go_ret2
 exact⟨rfl,rfl⟩
theorem popR_none (w:World) (p:Nat) (S:Nat→Prop) (N:Nat) (h:RingAt w p S N []):
  Calls Tryz.prog 241 #[Pz p] w fun e w'=>e=.returned (.tuple #[Iw 0,.bool false])∧w=w':=by
 have h1:=rlen_any w p S N [] h;go_enter Tryz.func241,Tryz.ntmps241;go_wp2_with fail;refine(h1).mono ?_;rintro e w1 ⟨rfl,rfl⟩;go_wp2_with fail
 go_ret2
 exact⟨rfl,rfl⟩
theorem ring_open {w:World} {p N:Nat} {S:Nat→Prop} {l:List Int} (h:RingAt w p S N l) (hN:0<N):∃ g off c cs f,S g∧g≠p∧S p∧Rg cs N f l∧N≤1000∧f<N∧Blk w p 177 #[.slice (some ⟨g,off,none⟩) N c,Iv ((f:Nat):Int),Iv (l.length:Int)]∧Sl w 21 1 (some ⟨g,off,none⟩) N c (iv cs) S:=by
 obtain⟨A,c,cs,f,hb,hs,hp,hrg,hN'⟩:=h;obtain⟨g,off,rfl,⟨hSg,hgp⟩,_⟩:=(hs.off hb (by decide)).at hN;exact⟨g,off,c,cs,f,hSg,hgp,hp,hrg,hN',by rcases hrg.first with h | h<;>omega,hb,hs⟩
theorem sl_cell {w:World} {e N c g off:Nat} {xs:List Value} {S:Nat→Prop} (hs:Sl w e 1 (some ⟨g,off,none⟩) N c xs S) {i:Nat} {u:Value} (hu:xs[i]? =some u):w.cell? ⟨g,off+i,none⟩=some u∧w.frozen? ⟨g,off+i,none⟩=false:=by
 have hl:=hs.1;have hi:i<xs.length:=(List.getElem?_eq_some_iff.1 hu).1;obtain⟨g',o',e,_,_,hz,hx⟩:=hs.at (by omega);simp at e;obtain⟨rfl,rfl⟩:=e;exact⟨hx i u hu,hz _⟩
theorem iv_q {cs:List Int} {i:Nat} {x:Int} (h:cs[i]? =some x):(iv cs)[i]? =some (Iw x):=by simp [iv,h]
theorem iv_set (cs:List Int) (i:Nat) (v:Int):iv (cs.set i v)=(iv cs).set i (Iw v):=by simp [iv,List.map_set]
theorem pushL_some (w:World) (p:Nat) (S:Nat→Prop) (N:Nat) (l:List Int) (v:Int) (h:RingAt w p S N l) (hf:l.length<N):
  Calls Tryz.prog 242 #[Pz p,Iw v] w fun e w'=>e=.returned (.bool true)∧RingAt w' p S N (v::l)∧Mod S w w':=by
 have h1:=rlen_any w p S N l h;have h2:=rmost_any w p S N l h;obtain⟨g,off,c,cs,f,hSg,hgp,hp,hrg,hN,hfN,hb,hs⟩:=ring_open h (by omega);have hrg2:=hrg.pushL (v:=v) hf;obtain⟨i,hi⟩:∃ i,(f+(N-1))%N=i:=⟨_,rfl⟩;rw [hi] at hrg2;have hiN:i<N:=by rw [← hi];exact Nat.mod_lt _ (by omega)
 have mv:=move_raw w p N c f (some ⟨g,off,none⟩) (-1) (hb.cell 0) (hb.cell 1) (hb.frozen 1) hfN hN (by omega) (i:=i) (by
  rw [← hi,show(f:Int)+ -1+(N:Int)=((f+(N-1):Nat):Int) by omega];rfl)
 have hb1:=hb.drew.set 1 (Iv (i:Int));have hs1:=hs.drew.farT (p:=⟨p,1,none⟩) hb.drew (by decide) (Iv (i:Int));have m1:Mod S w (w.drew.setCell ⟨p,1,none⟩ (Iv (i:Int))):=(Mod.refl _ _).drew.setCell (.inl hp) _;generalize w.drew.setCell ⟨p,1,none⟩ (Iv (i:Int))=w1 at*;have at1:=at_raw w1 p g off N c i 0 (hb1.cell 0) (hb1.cell 1) hiN hN (by omega) (i:=i) (by rw [Nat.add_zero,Nat.mod_eq_of_lt hiN]);obtain⟨old,hold⟩:∃ u,cs[i]? =some u:=⟨_,List.getElem?_eq_getElem (show i<cs.length by rw [hrg.len];exact hiN)⟩;have hq:=iv_q hold;have hd:¬ (N:Int)≤(l.length:Int):=by omega
 have hll:(l.length:Int)≤1000:=by omega
 have HRG:=Lib.hid hrg2;have HQ:=Lib.hid hq;clear hs hb hrg hrg2 hi hf hq hold;go_enter Tryz.func242,Tryz.ntmps242;go_wp2_with fail;refine(h1).mono ?_;rintro e w1' ⟨rfl,rfl⟩;go_wp2_with fail;refine(h2).mono ?_;rintro e w1' ⟨rfl,rfl⟩;go_wp2_with fail;refine(mv).mono ?_;rintro e w2 ⟨rfl,rfl⟩;go_wp2_with fail;refine at1.mono ?_;rintro e w3 ⟨rfl,nq,rfl⟩;have hb1:=hb1.drewN nq;have hs1:=hs1.drewN nq;have m1:=m1.drewN nq;generalize w2.drewN nq=w3 at*;obtain⟨k0,k1⟩:=sl_cell hs1 HQ.out;have hs2:=hs1.set (g:=g) (off:=off) rfl i (by simpa using hiN) (Iw v);have hb2:=hb1.far (p:=⟨g,off+i,none⟩) (fun e=>hgp e.symm) (Iw v);have m2:=m1.setCell (p:=⟨g,off+i,none⟩) (.inl hSg) (Iw v);have c2:(w3.setCell ⟨g,off+i,none⟩ (Iw v)).cell? ⟨p,2,none⟩=some (Iv (l.length:Int)):=hb2.cell 2;have f2:=hb2.frozen 2;have hb3:=hb2.set 2 (Iv ((l.length:Int)+1));have hs3:=hs2.farT (p:=⟨p,2,none⟩) hb2 (by decide) (Iv ((l.length:Int)+1))
 have m3:=m2.setCell (p:=⟨p,2,none⟩) (.inl hp) (Iv ((l.length:Int)+1));clear hs1 hb1 hs2 hb2 m1 m2 mv at1 h1 h2;go_wp2_with fail;go_ret;refine⟨rfl,⟨some ⟨g,off,none⟩,c,cs.set i v,i,?_,by rw [iv_set];exact hs3,hp,HRG.out,hN⟩,m3⟩;have e:(((v::l).length:Nat):Int)=(l.length:Int)+1:=by simp
 rw [e]
 simpa using hb3
theorem pushR_some (w:World) (p:Nat) (S:Nat→Prop) (N:Nat) (l:List Int) (v:Int) (h:RingAt w p S N l) (hf:l.length<N):
  Calls Tryz.prog 243 #[Pz p,Iw v] w fun e w'=>e=.returned (.bool true)∧RingAt w' p S N (l++[v])∧Mod S w w':=by
 have h1:=rlen_any w p S N l h;have h2:=rmost_any w p S N l h;obtain⟨g,off,c,cs,f,hSg,hgp,hp,hrg,hN,hfN,hb,hs⟩:=ring_open h (by omega);have hrg2:=hrg.pushR (v:=v) hf;obtain⟨i,hi⟩:∃ i,(f+l.length)%N=i:=⟨_,rfl⟩;rw [hi] at hrg2;have hiN:i<N:=by rw [← hi];exact Nat.mod_lt _ (by omega)
 have c2:w.cell? ⟨p,2,none⟩=some (Iv (l.length:Int)):=hb.cell 2;have at1:=at_raw w.drew p g off N c f l.length (hb.cell 0) (hb.cell 1) hfN hN (by omega) hi;obtain⟨old,hold⟩:∃ u,cs[i]? =some u:=⟨_,List.getElem?_eq_getElem (show i<cs.length by rw [hrg.len];exact hiN)⟩;have hq:=iv_q hold;have hd:¬ (N:Int)≤(l.length:Int):=by omega
 have hll:(l.length:Int)≤1000:=by omega
 have HRG:=Lib.hid hrg2;have HQ:=Lib.hid hq;have HB:=Lib.hid hb;have HS:=Lib.hid hs;clear hs hb hrg hrg2 hi hf hq hold;go_enter Tryz.func243,Tryz.ntmps243;go_wp2_with fail;refine(h1).mono ?_;rintro e w1' ⟨rfl,rfl⟩;go_wp2_with fail;refine(h2).mono ?_;rintro e w1' ⟨rfl,rfl⟩;go_wp2_with fail
 go_region_held3 (fun w'=>w'.cell? ⟨p,2,none⟩=some (Iv (l.length:Int))) (first | assumption | go_keep) (first
  | (go_at_call 233;((with_reducible refine at1.mono ?_);rintro e w5 ⟨rfl,hw5⟩;have hb5:Blk w5 p 177 _:=(by obtain⟨nq,rfl⟩:=hw5;exact(HB.out.drew).drewN nq);have hs5:Sl w5 21 1 _ N c (iv cs) S:=(by obtain⟨nq,rfl⟩:=hw5;exact(HS.out.drew).drewN nq);have m5:Mod S w w5:=(by obtain⟨nq,rfl⟩:=hw5;exact((Mod.refl S w).drew).drewN nq);have hb6:=hb5.far (p:=⟨g,off+i,none⟩) (fun e=>hgp e.symm) (Iw v);have c5:w5.cell? ⟨p,2,none⟩=some (Iv (l.length:Int)):=hb5.cell 2;have c6:(w5.setCell ⟨g,off+i,none⟩ (Iw v)).cell? ⟨p,2,none⟩=some (Iv (l.length:Int)):=hb6.cell 2;obtain⟨k0,k1⟩:=sl_cell hs5 HQ.out)))
 have hs2:=hs5.set (g:=g) (off:=off) rfl i (by simpa using hiN) (Iw v);have m2:=m5.setCell (p:=⟨g,off+i,none⟩) (.inl hSg) (Iw v);have f2:=hb6.frozen 2;have hb3:=hb6.set 2 (Iv ((l.length:Int)+1));have hs3:=hs2.farT (p:=⟨p,2,none⟩) hb6 (by decide) (Iv ((l.length:Int)+1));have m3:=m2.setCell (p:=⟨p,2,none⟩) (.inl hp) (Iv ((l.length:Int)+1));clear hb5 hs5 hb6 hs2 m2 m5;go_wp2_with fail;go_ret;refine⟨rfl,⟨some ⟨g,off,none⟩,c,cs.set i v,f,?_,by rw [iv_set];exact hs3,hp,HRG.out,hN⟩,m3⟩;have e:(((l++[v]).length:Nat):Int)=(l.length:Int)+1:=by simp
 rw [e]
 simpa using hb3
theorem popL_some (w:World) (p:Nat) (S:Nat→Prop) (N:Nat) (l:List Int) (v:Int) (h:RingAt w p S N (v::l)):
  Calls Tryz.prog 240 #[Pz p] w fun e w'=>e=.returned (.tuple #[Iw v,.bool true])∧RingAt w' p S N l∧Mod S w w':=by
 have h1:=rlen_any w p S N (v::l) h;have hle:=h.len.1;simp only [List.length_cons] at hle h1;obtain⟨g,off,c,cs,f,hSg,hgp,hp,hrg,hN,hfN,hb,hs⟩:=ring_open h (by omega);obtain⟨hv,hrg2⟩:=hrg.popL;obtain⟨i,hi⟩:∃ i,(f+1)%N=i:=⟨_,rfl⟩;rw [hi] at hrg2;simp only [List.length_cons] at hb;have at1:=at_raw w p g off N c f 0 (hb.cell 0) (hb.cell 1) hfN hN (by omega) (i:=f) (by rw [Nat.add_zero,Nat.mod_eq_of_lt hfN]);have hi2:((f:Int)+1+(N:Int))%(N:Int)=(i:Int):=by rw [← hi,Int.add_emod_right];rfl
 have hd:(((l.length+1:Nat):Int)==0)=false:=by simp;omega
 have hll:(l.length:Int)≤1000:=by omega
 have e0:((l.length+1:Nat):Int)-1=(l.length:Int):=by omega
 have HRG:=Lib.hid hrg2;have HV:=Lib.hid hv;have HI:=Lib.hid hi2;clear hrg hrg2 hi hv hi2;go_enter Tryz.func240,Tryz.ntmps240;go_wp2_with fail;refine(h1).mono ?_;rintro e w1' ⟨rfl,rfl⟩;go_wp2_with fail;refine at1.mono ?_;rintro e w2 ⟨rfl,nq,rfl⟩;have hb:=hb.drewN nq;have hs:=hs.drewN nq;have m0:=(Mod.refl S w).drewN nq;clear at1;generalize w.drewN nq=w2 at*;obtain⟨k0,k1⟩:=sl_cell hs (iv_q HV.out);have mv:=move_raw w2 p N c f (some ⟨g,off,none⟩) 1 (hb.cell 0) (hb.cell 1) (hb.frozen 1) hfN hN (by omega) HI.out;have hb1:=hb.drew.set 1 (Iv (i:Int));have hs1:=hs.drew.farT (p:=⟨p,1,none⟩) hb.drew (by decide) (Iv (i:Int));have m1:Mod S w (w2.drew.setCell ⟨p,1,none⟩ (Iv (i:Int))):=m0.drew.setCell (.inl hp) _;clear hb hs;go_wp2_with fail;refine mv.mono ?_;rintro e w3 ⟨rfl,hw3⟩;subst hw3;clear mv;generalize w2.drew.setCell ⟨p,1,none⟩ (Iv (i:Int))=w1 at*;have c2:w1.cell? ⟨p,2,none⟩=some (Iv ((l.length+1:Nat):Int)):=hb1.cell 2
 have f2:=hb1.frozen 2;have hb3:=hb1.set 2 (Iv (l.length:Int));have hs3:=hs1.farT (p:=⟨p,2,none⟩) hb1 (by decide) (Iv (l.length:Int));have m3:=m1.setCell (p:=⟨p,2,none⟩) (.inl hp) (Iv (l.length:Int));clear hs1 hb1 m1;go_wp2_with fail
 go_ret2
 exact⟨rfl,⟨some ⟨g,off,none⟩,c,cs,i,by simpa using hb3,hs3,hp,HRG.out,hN⟩,m3⟩
theorem popR_some (w:World) (p:Nat) (S:Nat→Prop) (N:Nat) (l:List Int) (v:Int) (h:RingAt w p S N (l++[v])):
  Calls Tryz.prog 241 #[Pz p] w fun e w'=>e=.returned (.tuple #[Iw v,.bool true])∧RingAt w' p S N l∧Mod S w w':=by
 have h1:=rlen_any w p S N (l++[v]) h;have hle:=h.len.1;simp only [List.length_append,List.length_cons,List.length_nil,Nat.zero_add] at hle h1;obtain⟨g,off,c,cs,f,hSg,hgp,hp,hrg,hN,hfN,hb,hs⟩:=ring_open h (by omega);obtain⟨hv,hrg2⟩:=hrg.popR;obtain⟨i,hi⟩:∃ i,(f+l.length)%N=i:=⟨_,rfl⟩;rw [hi] at hv;simp only [List.length_append,List.length_cons,List.length_nil,Nat.zero_add] at hb;have c2:w.cell? ⟨p,2,none⟩=some (Iv ((l.length+1:Nat):Int)):=hb.cell 2;have f2:=hb.frozen 2;have e0:((l.length+1:Nat):Int)-1=(l.length:Int):=by omega
 have hb1:=hb.set 2 (Iv (l.length:Int));have hs1:=hs.farT (p:=⟨p,2,none⟩) hb (by decide) (Iv (l.length:Int));have m1:=(Mod.refl S w).setCell (p:=⟨p,2,none⟩) (.inl hp) (Iv (l.length:Int));have at1:=at_raw (w.setCell ⟨p,2,none⟩ (Iv (l.length:Int))).drew p g off N c f l.length (hb1.cell 0) (hb1.cell 1) hfN hN (by omega) hi;have c3:(w.setCell ⟨p,2,none⟩ (Iv (l.length:Int))).cell? ⟨p,2,none⟩=some (Iv (l.length:Int)):=hb1.cell 2;obtain⟨k0,k1⟩:=sl_cell hs1 (iv_q hv);have hd:(((l.length+1:Nat):Int)==0)=false:=by simp;omega
 have hll:(l.length:Int)≤1000:=by omega
 have HRG:=Lib.hid hrg2;have HB:=Lib.hid hb1;have HS:=Lib.hid hs1;clear hs hb hs1 hb1 hrg hrg2 hi hv;go_enter Tryz.func241,Tryz.ntmps241;go_wp2_with fail;refine(h1).mono ?_;rintro e w1' ⟨rfl,rfl⟩;go_wp2_with fail;generalize w.setCell ⟨p,2,none⟩ (Iv (l.length:Int))=w1 at*
 go_region_held3 (fun w'=>w'.cell? ⟨p,2,none⟩=some (Iv (l.length:Int))∧w'.cell? ⟨g,off+i,none⟩=some (Iw v)) (first | (refine ⟨?_,?_⟩<;>assumption) | go_keep) (first
  | (go_at_call 233;((with_reducible refine at1.mono ?_);rintro e w5 ⟨rfl,hw5⟩;have c5:w5.cell? ⟨p,2,none⟩=some (Iv (l.length:Int)):=(by obtain⟨nq,rfl⟩:=hw5;exact c3);have c6:w5.cell? ⟨g,off+i,none⟩=some (Iw v):=(by obtain⟨nq,rfl⟩:=hw5;exact k0))))
 go_wp2_with fail
 go_ret2
 obtain⟨nq,rfl⟩:=hw5;exact⟨rfl,⟨some ⟨g,off,none⟩,c,cs,f,by simpa using (HB.out.drew).drewN nq,(HS.out.drew).drewN nq,hp,HRG.out,hN⟩,(m1.drew).drewN nq⟩
theorem min_ii {k:IntKind} {x y z:Int} (h:min x y=z) (ats:Array TypeId) (ty:TypeId):Go.Builtin.min_ ats ty #[.int k x,.int k y]=(pure (.int k z):Sem Value):=by
 have e:(if y<x then y else x)=z:=by rw [← h,Int.min_def];split<;>split<;>omega
 show([Value.int k y].foldlM Go.Builtin.min2 (.int k x):Sem Value)=_;simp only [List.foldlM,Go.Builtin.min2,e]
 rfl
theorem max_ii {k:IntKind} {x y z:Int} (h:max x y=z) (ats:Array TypeId) (ty:TypeId):Go.Builtin.max_ ats ty #[.int k x,.int k y]=(pure (.int k z):Sem Value):=by
 have e:(if y>x then y else x)=z:=by rw [← h,Int.max_def];split<;>split<;>omega
 show([Value.int k y].foldlM Go.Builtin.max2 (.int k x):Sem Value)=_;simp only [List.foldlM,Go.Builtin.max2,e]
 rfl
theorem made_one (z:Value) (n:Nat):(madeCells #[z] n).toList=List.replicate n z:=by
 have:=made_flat #[z] (by simp) n;rw [show n*(#[z]:Array Value).size=n by simp] at this;rw [this];simp
theorem row_new {B:Nat} {w:World} {n:Nat} {L:List Res} (hB:B≤w.heap.size) (hn:n≤100000) {z:Value} (e:TypeId) (h:At B w L):At B (w.alloc (.cells (madeCells #[z] n) e)) (slRes e 1 (some ⟨w.heap.size,0,none⟩) n n (List.replicate n z)::L):=
 h.made (fun x hx=>Nat.le_trans hB hx) ((Below.refl _ w).alloc (Nat.le_refl _) _) (Sl.of_made w e 1 n _ _ (made_one z n) (by simp) (by unfold maxLen;omega) ⟨Nat.le_refl _,by simp⟩)
def cut (m:Int):Nat:=(max 0 (min m 1000)).toNat
theorem cut_is (m:Int):max 0 (min m 1000)=(cut m:Int):=by unfold cut;omega
theorem cut_le (m:Int):cut m≤1000:=by unfold cut;omega
def ringR (p N:Nat) (l:List Int):Res:=⟨fun w S=>RingAt w p S N l,stable_ring p N l⟩
abbrev res (c v:Int):Value:=.agg #[Ub c,Iw v]
section
variable {B:Nat} {w:World} {p N:Nat} {l:List Int} {L:List Res}
theorem new_s (hB:B≤w.heap.size) (h:At B w L) (m:Int):Calls Tryz.prog 60 #[Iv m] w fun e w'=>∃ p,e=.returned (Pz p)∧At B w' (ringR p (cut m) []::L)∧Below B w w':=by
 have e1:=min_ii (k:=.i64) (x:=m) (y:=1000) rfl;have e2:=max_ii (k:=.i64) (cut_is m);have hc:=cut_le m;generalize cut m=N at*;have hmk:=run_make_row' (P:=Tryz.prog) 35 21 (Iw 0) 4 Tryz.underlying35 (by kernel_rfl) rfl .i64 .i64 N (by omega) (by omega)
 have hq:At B ((w.alloc (.cells (madeCells #[Iw 0] N) 21)).alloc (.cells #[.slice (some ⟨w.heap.size,0,none⟩) N N,Iv 0,Iv 0] 177)) (ringR (w.heap.size+1) N []::L):=by
  refine h.made (fun x hx=>Nat.le_trans hB hx) (((Below.refl _ w).alloc (Nat.le_refl _) _).alloc (by simp) _) ?_;have hb:=Blk.new (w.alloc (.cells (madeCells #[Iw 0] N) 21)) 177 #[.slice (some ⟨w.heap.size,0,none⟩) N N,Iv 0,Iv 0];rw [World.size_alloc] at hb;refine⟨some ⟨w.heap.size,0,none⟩,N,List.replicate N 0,0,hb,?_,⟨by omega,by simp⟩,Rg.nil N,hc⟩;have:=Sl.of_made (S:=fun x=>w.heap.size≤x∧x<((w.alloc (.cells (madeCells #[Iw 0] N) 21)).alloc (.cells #[.slice (some ⟨w.heap.size,0,none⟩) N N,Iv 0,Iv 0] 177)).heap.size) w 21 1 N (madeCells #[Iw 0] N) (List.replicate N (Iw 0)) (made_one _ N) (by simp) (by unfold maxLen;omega) ⟨Nat.le_refl _,by simp;omega⟩;rw [show iv (List.replicate N 0)=List.replicate N (Iw 0) by simp [iv]];exact this.alloc _
 have hb:Below B w ((w.alloc (.cells (madeCells #[Iw 0] N) 21)).alloc (.cells #[.slice (some ⟨w.heap.size,0,none⟩) N N,Iv 0,Iv 0] 177)):=((Below.refl _ w).alloc hB _).alloc (by simp;omega) _;go_enter Tryz.func60,Tryz.ntmps60;go_wp2;go_ret;exact⟨w.heap.size+1,rfl,hq,hb⟩
theorem step_same {P:Program} {f:FuncId} {args:Array Value} {w:World} {r:Ending} {Q:World→(Nat→Prop)→Prop} {S:Nat→Prop} (st:Stable Q) (h:Q w S) (hc:Calls P f args w fun e w'=>e=r∧w=w'):
  Calls P f args w fun e w'=>e=r∧Q w' (grow S w w')∧Mod S w w':=
 hc.mono fun _ _ ⟨he,hb⟩=>⟨he,by subst hb;exact st.mono h grow_left,by subst hb;exact Mod.refl _ _⟩
theorem pushL_s (hB:B≤w.heap.size) (h:At B w (ringR p N l::L)) (x:Int):Calls Tryz.prog 242 #[Pz p,Iw x] w fun e w'=>e=.returned (.bool (decide (l.length<N)))∧At B w' (ringR p N (if l.length<N then x::l else l)::L)∧Below B w w':=
 h.step hB fun S _ hS=>by
  by_cases hl:l.length<N
  ·simp only [hl,decide_true,if_true];exact(pushL_some w p S N l x hS hl).mono fun _ _ ⟨he,hs,hm⟩=>⟨he,hs.mono grow_left,hm⟩
  ·simp only [hl,decide_false,if_false];exact step_same (stable_ring p N l) hS (pushL_full w p S N l x hS (by have:=RingAt.len hS;omega))
theorem pushR_s (hB:B≤w.heap.size) (h:At B w (ringR p N l::L)) (x:Int):Calls Tryz.prog 243 #[Pz p,Iw x] w fun e w'=>e=.returned (.bool (decide (l.length<N)))∧At B w' (ringR p N (if l.length<N then l++[x] else l)::L)∧Below B w w':=
 h.step hB fun S _ hS=>by
  by_cases hl:l.length<N
  ·simp only [hl,decide_true,if_true];exact(pushR_some w p S N l x hS hl).mono fun _ _ ⟨he,hs,hm⟩=>⟨he,hs.mono grow_left,hm⟩
  ·simp only [hl,decide_false,if_false];exact step_same (stable_ring p N l) hS (pushR_full w p S N l x hS (by have:=RingAt.len hS;omega))
theorem popL_s (hB:B≤w.heap.size) {x:Int} (h:At B w (ringR p N (x::l)::L)):Calls Tryz.prog 240 #[Pz p] w fun e w'=>e=.returned (.tuple #[Iw x,.bool true])∧At B w' (ringR p N l::L)∧Below B w w':=
 h.step (a':=ringR p N l) hB fun S _ hS=>(popL_some w p S N l x hS).mono fun _ _ ⟨he,hs,hm⟩=>⟨he,hs.mono grow_left,hm⟩
theorem popR_s (hB:B≤w.heap.size) {x:Int} (h:At B w (ringR p N (l++[x])::L)):Calls Tryz.prog 241 #[Pz p] w fun e w'=>e=.returned (.tuple #[Iw x,.bool true])∧At B w' (ringR p N l::L)∧Below B w w':=
 h.step (a':=ringR p N l) hB fun S _ hS=>(popR_some w p S N l x hS).mono fun _ _ ⟨he,hs,hm⟩=>⟨he,hs.mono grow_left,hm⟩
theorem popL0_s (hB:B≤w.heap.size) (h:At B w (ringR p N []::L)):Calls Tryz.prog 240 #[Pz p] w fun e w'=>e=.returned (.tuple #[Iw 0,.bool false])∧At B w' (ringR p N []::L)∧Below B w w':=
 h.step hB fun S _ hS=>step_same (stable_ring p N []) hS (popL_none w p S N hS)
theorem popR0_s (hB:B≤w.heap.size) (h:At B w (ringR p N []::L)):Calls Tryz.prog 241 #[Pz p] w fun e w'=>e=.returned (.tuple #[Iw 0,.bool false])∧At B w' (ringR p N []::L)∧Below B w w':=
 h.step hB fun S _ hS=>step_same (stable_ring p N []) hS (popR_none w p S N hS)
theorem rlen_s (h:At B w (ringR p N l::L)) {n:Nat} (hn:l.length=n):Calls Tryz.prog 230 #[Pz p] w fun e w'=>e=.returned (Iv (n:Int))∧w=w':=by subst hn;exact rlen_any w p _ N l h.get
theorem rmost_s (h:At B w (ringR p N l::L)):Calls Tryz.prog 239 #[Pz p] w fun e w'=>e=.returned (Iv (N:Int))∧w=w':=rmost_any w p _ N l h.get
theorem ring_len (h:At B w (ringR p N l::L)):l.length≤N∧N≤1000:=RingAt.len h.get
theorem pushed_any (w:World) (b:Bool):Calls Tryz.prog 246 #[.bool b] w fun e w'=>e=.returned (res (if b then 1 else 3) 0)∧Below w.heap.size w w':=by
 cases b
 ·simp only [Bool.false_eq_true,if_false];go_enter Tryz.func246,Tryz.ntmps246;go_wp2_with fail;refine bodyPost_ret (v:=res 3 0) (by simp [results,Tryz.results246,go_sem,res]) rfl ⟨rfl,(Below.refl _ w).alloc (Nat.le_refl _) _⟩
 ·simp only [if_true];go_enter Tryz.func246,Tryz.ntmps246;go_wp2_with fail;refine bodyPost_ret (v:=res 1 0) (by simp [results,Tryz.results246,go_sem,res]) rfl ⟨rfl,(Below.refl _ w).alloc (Nat.le_refl _) _⟩
theorem popped_any (w:World) (v:Int) (b:Bool):Calls Tryz.prog 247 #[Iw v,.bool b] w fun e w'=>e=.returned (res (if b then 2 else 4) (if b then v else 0))∧Below w.heap.size w w':=by
 cases b
 ·simp only [Bool.false_eq_true,if_false];go_enter Tryz.func247,Tryz.ntmps247;go_wp2_with fail;refine bodyPost_ret (v:=res 4 0) (by simp [results,Tryz.results247,go_sem,res]) rfl ⟨rfl,(Below.refl _ w).alloc (Nat.le_refl _) _⟩
 ·simp only [if_true];go_enter Tryz.func247,Tryz.ntmps247;go_wp2_with fail;refine bodyPost_ret (v:=res 2 v) (by simp [results,Tryz.results247,go_sem,res]) rfl ⟨rfl,(Below.refl _ w).alloc (Nat.le_refl _) _⟩
theorem res_put {R:Nat} {t:TypeId} {v0 v1:Value} (hB:B≤w.heap.size) (h:At B w (blkR R t #[v0,v1]::L)) (a b:Value):At B ((w.setCell ⟨R,0,none⟩ a).setCell ⟨R,1,none⟩ b) (blkR R t #[a,b]::L)∧Below B w ((w.setCell ⟨R,0,none⟩ a).setCell ⟨R,1,none⟩ b):=by
 obtain⟨S,hS,hSU,hnext⟩:=h.frontAny (fun x hx=>Nat.le_trans hB hx);obtain⟨hb,hR⟩:=hS;obtain⟨_,_,m⟩:=two_cells a b hb;have m:=m.mono (T:=S) (fun x hx=>hx▸hR);refine⟨hnext (blkR R t #[a,b]) _ ⟨?_,.inl hR⟩ m,m.below hB fun b hb=>(hSU b hb).1⟩
 simpa using (hb.set 0 a).set 1 b
set_option maxHeartbeats 2000000 in
theorem do_s (hB:B≤w.heap.size) (h:At B w (ringR p N l::L)) (k v:Int) (h0:0≤k) (h1:k≤255) {l':List Int} {c x:Int} (hd:rDo N l k v=(l',c,x)):
  Calls Tryz.prog 238 #[Pz p,.agg #[Ub k,Iw v]] w fun e w'=>e=.returned (res c x)∧At B w' (ringR p N l'::L)∧Below B w w':=by
 have s2:At B ((w.alloc (.cells #[Ub k,Iw v] 45)).alloc (.cells #[Ub 0,Iw 0] 47)) (ringR p N l::blkR (w.heap.size+1) 47 #[Ub 0,Iw 0]::blkR w.heap.size 45 #[Ub k,Iw v]::L):=by
  have s1:=(h.alloc hB #[Ub k,Iw v] 45).alloc (by simp;omega) #[Ub 0,Iw 0] 47;rw [World.size_alloc] at s1;exact s1.rot3
 have b2:Below B w ((w.alloc (.cells #[Ub k,Iw v] 45)).alloc (.cells #[Ub 0,Iw 0] 47)):=((Below.refl B w).alloc hB _).alloc (by simp;omega) _;have hle2:B≤((w.alloc (.cells #[Ub k,Iw v] 45)).alloc (.cells #[Ub 0,Iw 0] 47)).heap.size:=by simp;omega
 obtain⟨hlN,hN⟩:=ring_len h;have s5:At B ((w.alloc (.cells #[Ub k,Iw v] 45)).alloc (.cells #[Ub 5,Iw 0] 47)) (ringR p N l::L):=(h.alloc hB #[Ub k,Iw v] 45).drop.alloc (by simp;omega) #[Ub 5,Iw 0] 47 |>.drop;have b5:Below B w ((w.alloc (.cells #[Ub k,Iw v] 45)).alloc (.cells #[Ub 5,Iw 0] 47)):=((Below.refl B w).alloc hB _).alloc (by simp;omega) _;have S5:=Lib.hid s5;have B5:=Lib.hid b5;clear h s5 b5
 by_cases k1:k=1
 ·subst k1
  by_cases hf:l.length<N
  ·obtain⟨rfl,rfl,rfl⟩:v::l=l'∧(1:Int)=c∧(0:Int)=x:=by
    have e:rDo N l 1 v=(v::l,1,0):=by unfold rDo;rw [if_pos rfl,if_neg (by omega)]
    rw [e] at hd;simpa using hd
   have hpu:=pushL_s (w:=(w.alloc (.cells #[Ub 1,Iw v] 45)).alloc (.cells #[Ub 0,Iw 0] 47)) hle2 s2 v;go_enter Tryz.func238,Tryz.ntmps238;go_wp2_with fail;generalize (w.alloc (.cells #[Ub 1,Iw v] 45)).alloc (.cells #[Ub 0,Iw 0] 47)=w2 at*;generalize w.heap.size+1=R1 at*;refine hpu.mono ?_;rintro e w5 ⟨rfl,s5,b5⟩;have hle5:=Nat.le_trans hle2 b5.size;have b5:=b2.trans b5;clear hpu s2 b2;go_wp2_with fail;refine(pushed_any w5 _).mono ?_;rintro e w6 ⟨rfl,b6⟩;have s6:=s5.keep b6;have hle6:=Nat.le_trans hle5 b6.size;have b6:=b5.trans (b6.mono hle5);clear s5 b5;simp only [hf,decide_true,if_true] at s6 ⊢;have hR:=s6.rot2.blk;have r0:=hR.cell 0;have r1:=hR.cell 1;have f0:=hR.frozen 0;have f1:=hR.frozen 1;obtain⟨s7,b7⟩:=res_put hle6 s6.rot2 (Ub 1) (Iw 0);have hR7:=s7.blk;have q0:=hR7.cell 0;have q1:=hR7.cell 1;clear hR;go_wp2_with fail;refine bodyPost_ret (v:=res 1 0) (by simp [results,Tryz.results238,go_sem,q0,q1,res]) rfl ⟨rfl,(Sep.drop s7).cons (fun _ h=>Sep.drop h),b6.trans b7⟩
  ·obtain⟨rfl,rfl,rfl⟩:l=l'∧(3:Int)=c∧(0:Int)=x:=by
    have e:rDo N l 1 v=(l,3,0):=by unfold rDo;rw [if_pos rfl,if_pos (by omega)]
    rw [e] at hd;simpa using hd
   have hpu:=pushL_s (w:=(w.alloc (.cells #[Ub 1,Iw v] 45)).alloc (.cells #[Ub 0,Iw 0] 47)) hle2 s2 v;go_enter Tryz.func238,Tryz.ntmps238;go_wp2_with fail;generalize (w.alloc (.cells #[Ub 1,Iw v] 45)).alloc (.cells #[Ub 0,Iw 0] 47)=w2 at*;generalize w.heap.size+1=R1 at*;refine hpu.mono ?_;rintro e w5 ⟨rfl,s5,b5⟩;have hle5:=Nat.le_trans hle2 b5.size;have b5:=b2.trans b5;clear hpu s2 b2;go_wp2_with fail;refine(pushed_any w5 _).mono ?_;rintro e w6 ⟨rfl,b6⟩;have s6:=s5.keep b6;have hle6:=Nat.le_trans hle5 b6.size;have b6:=b5.trans (b6.mono hle5);clear s5 b5;simp only [hf,decide_false,if_false,Bool.false_eq_true] at s6 ⊢;have hR:=s6.rot2.blk;have r0:=hR.cell 0;have r1:=hR.cell 1;have f0:=hR.frozen 0;have f1:=hR.frozen 1;obtain⟨s7,b7⟩:=res_put hle6 s6.rot2 (Ub 3) (Iw 0);have hR7:=s7.blk;have q0:=hR7.cell 0;have q1:=hR7.cell 1;clear hR;go_wp2_with fail;refine bodyPost_ret (v:=res 3 0) (by simp [results,Tryz.results238,go_sem,q0,q1,res]) rfl ⟨rfl,(Sep.drop s7).cons (fun _ h=>Sep.drop h),b6.trans b7⟩
 ·have n1:(k==1)=false:=by simpa using k1
  by_cases k2:k=2
  ·subst k2
   by_cases hf:l.length<N
   ·obtain⟨rfl,rfl,rfl⟩:l++[v]=l'∧(1:Int)=c∧(0:Int)=x:=by
     have e:rDo N l 2 v=(l++[v],1,0):=by unfold rDo;rw [if_neg (by omega),if_pos rfl,if_neg (by omega)]
     rw [e] at hd;simpa using hd
    have hpu:=pushR_s (w:=(w.alloc (.cells #[Ub 2,Iw v] 45)).alloc (.cells #[Ub 0,Iw 0] 47)) hle2 s2 v;go_enter Tryz.func238,Tryz.ntmps238;go_wp2_with fail;generalize (w.alloc (.cells #[Ub 2,Iw v] 45)).alloc (.cells #[Ub 0,Iw 0] 47)=w2 at*;generalize w.heap.size+1=R1 at*;refine hpu.mono ?_;rintro e w5 ⟨rfl,s5,b5⟩;have hle5:=Nat.le_trans hle2 b5.size;have b5:=b2.trans b5;clear hpu s2 b2;go_wp2_with fail;refine(pushed_any w5 _).mono ?_;rintro e w6 ⟨rfl,b6⟩;have s6:=s5.keep b6;have hle6:=Nat.le_trans hle5 b6.size;have b6:=b5.trans (b6.mono hle5);clear s5 b5;simp only [hf,decide_true,if_true] at s6 ⊢;have hR:=s6.rot2.blk;have r0:=hR.cell 0;have r1:=hR.cell 1;have f0:=hR.frozen 0;have f1:=hR.frozen 1;obtain⟨s7,b7⟩:=res_put hle6 s6.rot2 (Ub 1) (Iw 0);have hR7:=s7.blk;have q0:=hR7.cell 0;have q1:=hR7.cell 1;clear hR;go_wp2_with fail;refine bodyPost_ret (v:=res 1 0) (by simp [results,Tryz.results238,go_sem,q0,q1,res]) rfl ⟨rfl,(Sep.drop s7).cons (fun _ h=>Sep.drop h),b6.trans b7⟩
   ·obtain⟨rfl,rfl,rfl⟩:l=l'∧(3:Int)=c∧(0:Int)=x:=by
     have e:rDo N l 2 v=(l,3,0):=by unfold rDo;rw [if_neg (by omega),if_pos rfl,if_pos (by omega)]
     rw [e] at hd;simpa using hd
    have hpu:=pushR_s (w:=(w.alloc (.cells #[Ub 2,Iw v] 45)).alloc (.cells #[Ub 0,Iw 0] 47)) hle2 s2 v;go_enter Tryz.func238,Tryz.ntmps238;go_wp2_with fail;generalize (w.alloc (.cells #[Ub 2,Iw v] 45)).alloc (.cells #[Ub 0,Iw 0] 47)=w2 at*;generalize w.heap.size+1=R1 at*;refine hpu.mono ?_;rintro e w5 ⟨rfl,s5,b5⟩;have hle5:=Nat.le_trans hle2 b5.size;have b5:=b2.trans b5;clear hpu s2 b2;go_wp2_with fail;refine(pushed_any w5 _).mono ?_;rintro e w6 ⟨rfl,b6⟩;have s6:=s5.keep b6;have hle6:=Nat.le_trans hle5 b6.size;have b6:=b5.trans (b6.mono hle5);clear s5 b5;simp only [hf,decide_false,if_false,Bool.false_eq_true] at s6 ⊢;have hR:=s6.rot2.blk;have r0:=hR.cell 0;have r1:=hR.cell 1;have f0:=hR.frozen 0;have f1:=hR.frozen 1;obtain⟨s7,b7⟩:=res_put hle6 s6.rot2 (Ub 3) (Iw 0);have hR7:=s7.blk;have q0:=hR7.cell 0;have q1:=hR7.cell 1;clear hR;go_wp2_with fail;refine bodyPost_ret (v:=res 3 0) (by simp [results,Tryz.results238,go_sem,q0,q1,res]) rfl ⟨rfl,(Sep.drop s7).cons (fun _ h=>Sep.drop h),b6.trans b7⟩
  ·have n2:(k==2)=false:=by simpa using k2
   by_cases k3:k=3
   ·subst k3
    rcases l with _ | ⟨y,t⟩
    ·obtain⟨rfl,rfl,rfl⟩:[]=l'∧(4:Int)=c∧(0:Int)=x:=by
      have e:rDo N [] 3 v=([],4,0):=rfl;rw [e] at hd;simpa using hd
     have hpu:=popL0_s hle2 s2;go_enter Tryz.func238,Tryz.ntmps238;go_wp2_with fail;generalize (w.alloc (.cells #[Ub 3,Iw v] 45)).alloc (.cells #[Ub 0,Iw 0] 47)=w2 at*;generalize w.heap.size+1=R1 at*;refine hpu.mono ?_;rintro e w5 ⟨rfl,s5,b5⟩;have hle5:=Nat.le_trans hle2 b5.size;have b5:=b2.trans b5;clear hpu s2 b2;go_wp2_with fail;refine(popped_any w5 _ _).mono ?_;rintro e w6 ⟨rfl,b6⟩;have s6:=s5.keep b6;have hle6:=Nat.le_trans hle5 b6.size;have b6:=b5.trans (b6.mono hle5);clear s5 b5;simp only [if_false,Bool.false_eq_true] at s6 ⊢;have hR:=s6.rot2.blk;have r0:=hR.cell 0;have r1:=hR.cell 1;have f0:=hR.frozen 0;have f1:=hR.frozen 1;obtain⟨s7,b7⟩:=res_put hle6 s6.rot2 (Ub 4) (Iw 0);have hR7:=s7.blk;have q0:=hR7.cell 0;have q1:=hR7.cell 1;clear hR;go_wp2_with fail;refine bodyPost_ret (v:=res 4 0) (by simp [results,Tryz.results238,go_sem,q0,q1,res]) rfl ⟨rfl,(Sep.drop s7).cons (fun _ h=>Sep.drop h),b6.trans b7⟩
    ·obtain⟨rfl,rfl,rfl⟩:t=l'∧(2:Int)=c∧y=x:=by
      have e:rDo N (y::t) 3 v=(t,2,y):=rfl;rw [e] at hd;simpa using hd
     have hpu:=popL_s hle2 s2;go_enter Tryz.func238,Tryz.ntmps238;go_wp2_with fail;generalize (w.alloc (.cells #[Ub 3,Iw v] 45)).alloc (.cells #[Ub 0,Iw 0] 47)=w2 at*;generalize w.heap.size+1=R1 at*;refine hpu.mono ?_;rintro e w5 ⟨rfl,s5,b5⟩;have hle5:=Nat.le_trans hle2 b5.size;have b5:=b2.trans b5;clear hpu s2 b2;go_wp2_with fail;refine(popped_any w5 _ _).mono ?_;rintro e w6 ⟨rfl,b6⟩;have s6:=s5.keep b6;have hle6:=Nat.le_trans hle5 b6.size;have b6:=b5.trans (b6.mono hle5);clear s5 b5;simp only [if_true] at s6 ⊢;have hR:=s6.rot2.blk;have r0:=hR.cell 0;have r1:=hR.cell 1;have f0:=hR.frozen 0;have f1:=hR.frozen 1;obtain⟨s7,b7⟩:=res_put hle6 s6.rot2 (Ub 2) (Iw y);have hR7:=s7.blk;have q0:=hR7.cell 0;have q1:=hR7.cell 1;clear hR;go_wp2_with fail;refine bodyPost_ret (v:=res 2 y) (by simp [results,Tryz.results238,go_sem,q0,q1,res]) rfl ⟨rfl,(Sep.drop s7).cons (fun _ h=>Sep.drop h),b6.trans b7⟩
   ·have n3:(k==3)=false:=by simpa using k3
    by_cases k4:k=4
    ·subst k4
     rcases List.eq_nil_or_concat l with rfl | ⟨t,y,hty⟩
     ·obtain⟨rfl,rfl,rfl⟩:[]=l'∧(4:Int)=c∧(0:Int)=x:=by
       have e:rDo N [] 4 v=([],4,0):=rfl;rw [e] at hd;simpa using hd
      have hpu:=popR0_s hle2 s2;go_enter Tryz.func238,Tryz.ntmps238;go_wp2_with fail;generalize (w.alloc (.cells #[Ub 4,Iw v] 45)).alloc (.cells #[Ub 0,Iw 0] 47)=w2 at*;generalize w.heap.size+1=R1 at*;refine hpu.mono ?_;rintro e w5 ⟨rfl,s5,b5⟩;have hle5:=Nat.le_trans hle2 b5.size;have b5:=b2.trans b5;clear hpu s2 b2;go_wp2_with fail;refine(popped_any w5 _ _).mono ?_;rintro e w6 ⟨rfl,b6⟩;have s6:=s5.keep b6;have hle6:=Nat.le_trans hle5 b6.size;have b6:=b5.trans (b6.mono hle5);clear s5 b5;simp only [if_false,Bool.false_eq_true] at s6 ⊢;have hR:=s6.rot2.blk;have r0:=hR.cell 0;have r1:=hR.cell 1;have f0:=hR.frozen 0;have f1:=hR.frozen 1;obtain⟨s7,b7⟩:=res_put hle6 s6.rot2 (Ub 4) (Iw 0);have hR7:=s7.blk;have q0:=hR7.cell 0;have q1:=hR7.cell 1;clear hR;go_wp2_with fail;refine bodyPost_ret (v:=res 4 0) (by simp [results,Tryz.results238,go_sem,q0,q1,res]) rfl ⟨rfl,(Sep.drop s7).cons (fun _ h=>Sep.drop h),b6.trans b7⟩
     ·rw [List.concat_eq_append] at hty;subst hty
      obtain⟨rfl,rfl,rfl⟩:t=l'∧(2:Int)=c∧y=x:=by
       rw [rDo_popR] at hd;simpa using hd
      have hpu:=popR_s hle2 s2;go_enter Tryz.func238,Tryz.ntmps238;go_wp2_with fail;generalize (w.alloc (.cells #[Ub 4,Iw v] 45)).alloc (.cells #[Ub 0,Iw 0] 47)=w2 at*;generalize w.heap.size+1=R1 at*;refine hpu.mono ?_;rintro e w5 ⟨rfl,s5,b5⟩;have hle5:=Nat.le_trans hle2 b5.size;have b5:=b2.trans b5;clear hpu s2 b2;go_wp2_with fail;refine(popped_any w5 _ _).mono ?_;rintro e w6 ⟨rfl,b6⟩;have s6:=s5.keep b6;have hle6:=Nat.le_trans hle5 b6.size;have b6:=b5.trans (b6.mono hle5);clear s5 b5;simp only [if_true] at s6 ⊢;have hR:=s6.rot2.blk;have r0:=hR.cell 0;have r1:=hR.cell 1;have f0:=hR.frozen 0;have f1:=hR.frozen 1;obtain⟨s7,b7⟩:=res_put hle6 s6.rot2 (Ub 2) (Iw y);have hR7:=s7.blk;have q0:=hR7.cell 0;have q1:=hR7.cell 1;clear hR;go_wp2_with fail;refine bodyPost_ret (v:=res 2 y) (by simp [results,Tryz.results238,go_sem,q0,q1,res]) rfl ⟨rfl,(Sep.drop s7).cons (fun _ h=>Sep.drop h),b6.trans b7⟩
    ·have n4:(k==4)=false:=by simpa using k4
     obtain⟨rfl,rfl,rfl⟩:l=l'∧(5:Int)=c∧(0:Int)=x:=by
      have e:rDo N l k v=(l,5,0):=by unfold rDo;rw [if_neg k1,if_neg k2,if_neg k3,if_neg k4]
      rw [e] at hd;simpa using hd
     clear hd k1 k2 k3 k4;go_enter Tryz.func238,Tryz.ntmps238;go_wp2_with fail;refine bodyPost_ret (v:=res 5 0) (by simp [results,Tryz.results238,go_sem,res]) rfl ⟨rfl,S5.out,B5.out⟩
end
end Go.Proofs.YtadgbhjpgnlmoaaGreat.Rng
