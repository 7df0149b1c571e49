/- TopSafe, a part of its proof; no conditions. -/
import Derived.Test.YtadgbhjpgnlmoaaGreatPk17
set_option linter.all false
namespace Go.Proofs.YtadgbhjpgnlmoaaGreat.Rng
set_option maxRecDepth 100000
open Go.RowKit Go.Rp Go.Rp.Rng
theorem outer_raw (w:World) (p i g off n c:Nat) (j:Int) (hc:w.cell? ⟨p,i,none⟩=some (.slice (some ⟨g,off,none⟩) (n+1) c)) (hf:w.frozen? ⟨p,i,none⟩=false) (hx:w.cell? ⟨g,off+n,none⟩=some (Iv j)) (hle:n+1≤c) (hcm:c≤9223372036854775807):
  Calls Tryz.prog 252 #[.pointer (some ⟨p,i,none⟩)] w fun e w'=>e=.returned (Iv j)∧∃ m,w'=(w.drewN m).setCell ⟨p,i,none⟩ (.slice (some ⟨g,off,none⟩) n c):=by
 have e1:IntKind.i64.wrap (((n+1:Nat):Int)-1)=(n:Int):=by rw [IntWalk.i64_in _ (by omega)];omega
 have e2:IntKind.i64.wrap (n:Int)=(n:Int):=IntWalk.i64_in _ (by omega);have e4:(n:Int)≤(c:Int):=by omega
 go_enter Tryz.func252,Tryz.ntmps252;go_wp2;go_quiet (fail);go_wp2;have hc1:(w.drewN nq).cell? ⟨p,i,none⟩=some (.slice (some ⟨g,off,none⟩) (n+1) c):=hc;have hf1:(w.drewN nq).frozen? ⟨p,i,none⟩=false:=hf;have hw1:Hid (∀ v,(w.drewN nq).drew.setCell ⟨p,i,none⟩ v=(w.drewN (nq+1)).setCell ⟨p,i,none⟩ v):=Lib.hid fun _=>rfl;generalize w.drewN nq=w1 at*
 go_still_tail 14,(by kernel_rfl)
 change wpList _ _ _ _ _ w1.drew;have hc':w1.drew.cell? ⟨p,i,none⟩=some (.slice (some ⟨g,off,none⟩) (n+1) c):=hc1;have hf':w1.drew.frozen? ⟨p,i,none⟩=false:=hf1;go_wp2;go_ret;exact⟨rfl,_,hw1.out _⟩
theorem inner_raw (w:World) (p i g off n c:Nat) (j:Int) (hc:w.cell? ⟨p,i,none⟩=some (.slice (some ⟨g,off,none⟩) (n+1) c)) (hf:w.frozen? ⟨p,i,none⟩=false) (hx:w.cell? ⟨g,off,none⟩=some (Iv j)) (hle:n+1≤c) (hcm:c≤9223372036854775807):
  Calls Tryz.prog 253 #[.pointer (some ⟨p,i,none⟩)] w fun e w'=>e=.returned (Iv j)∧w'=w.setCell ⟨p,i,none⟩ (.slice (if c=1 then some ⟨g,off,none⟩ else some ⟨g,off+1,none⟩) n (c-1)):=by
 by_cases h1:c=1
 ·subst h1;obtain rfl:n=0:=by omega
  go_enter Tryz.func253,Tryz.ntmps253;go_wp2;go_ret;exact⟨rfl,rfl⟩
 ·rw [if_neg h1];go_enter Tryz.func253,Tryz.ntmps253;go_wp2;go_ret;exact⟨rfl,rfl⟩
section
variable {B:Nat} {w:World} {p most:Nat} {L:List Res}
theorem head_cells {A1 A2:Option Addr} {n1 c1 n2 c2 b:Nat} (h:At B w (headR p most A1 n1 c1 A2 n2 c2 b::L)) (m:Nat):
  (w.drewN m).cell? ⟨p,0,none⟩=some (.slice A1 n1 c1)∧(w.drewN m).cell? ⟨p,1,none⟩=some (.slice A2 n2 c2)∧(w.drewN m).cell? ⟨p,2,none⟩=some (Iv (b:Int))∧∀ i,(w.drewN m).frozen? ⟨p,i,none⟩=false:=
 ⟨h.blk.cell 0,h.blk.cell 1,h.blk.cell 2,h.blk.frozen⟩
theorem side_last {A:Option Addr} {n c:Nat} {l:List Nat} {j:Nat} (hB:B≤w.heap.size) (h:At B w (slRes 3 1 A (n+1) c (il (l++[j]))::L)) (hn:l.length=n):
  ∃ g off,A=some ⟨g,off,none⟩∧n+1≤c∧c≤9223372036854775807∧w.cell? ⟨g,off+n,none⟩=some (Iv (j:Int))∧∀ m,At B (w.drewN m) (slRes 3 1 A n c (il l)::L):=by
 subst hn;obtain⟨S,hS,hSU,hnext⟩:=h.frontAny (fun x hx=>Nat.le_trans hB hx);have hS:Sl w 3 1 A (l.length+1) c (il (l++[j])) S:=hS;have hcm:=hS.cap_le;obtain⟨g,off,rfl,_,_,_,hx⟩:=hS.at (by omega);refine⟨g,off,rfl,hS.le,hcm,hx l.length _ (by simp),fun m=>(hnext (slRes 3 1 _ l.length c (il l)) w ?_ (Mod.refl _ _)).drewN m⟩;have ht:=hS.take (k:=l.length) (by omega);have e:(il (l++[j])).take (l.length*1)=il l:=by rw [Nat.mul_one,il,List.map_append];exact List.take_left' (by simp)
 rw [e] at ht;exact ht.mono grow_left
theorem side_first {A:Option Addr} {n c:Nat} {l:List Nat} {j:Nat} (hB:B≤w.heap.size) (h:At B w (slRes 3 1 A (n+1) c (il (j::l))::L)) (hn:l.length=n):
  ∃ g off,A=some ⟨g,off,none⟩∧n+1≤c∧c≤9223372036854775807∧w.cell? ⟨g,off,none⟩=some (Iv (j:Int))∧At B w (slRes 3 1 (if c=1 then some ⟨g,off,none⟩ else some ⟨g,off+1,none⟩) n (c-1) (il l)::L):=by
 subst hn;obtain⟨S,hS,hSU,hnext⟩:=h.frontAny (fun x hx=>Nat.le_trans hB hx);have hS:Sl w 3 1 A (l.length+1) c (il (j::l)) S:=hS;have hcm:=hS.cap_le;obtain⟨g,off,rfl,_,_,_,hx⟩:=hS.at (by omega);refine⟨g,off,rfl,hS.le,hcm,by simpa using hx 0 (Iv (j:Int)) (by simp),hnext (slRes 3 1 _ l.length (c-1) (il l)) w ?_ (Mod.refl _ _)⟩;have ht:=hS.drop (k:=1) (by omega);have e:(il (j::l)).drop (1*1)=il l:=by simp
 rw [e] at ht;exact ht.mono grow_left
theorem head_set0 {A1 A2 A':Option Addr} {n1 c1 n2 c2 b n' c':Nat} (hB:B≤w.heap.size) (h:At B w (headR p most A1 n1 c1 A2 n2 c2 b::L)):At B (w.setCell ⟨p,0,none⟩ (.slice A' n' c')) (headR p most A' n' c' A2 n2 c2 b::L)∧Below B w (w.setCell ⟨p,0,none⟩ (.slice A' n' c')):=blk_set hB h 0 _
theorem head_set1 {A1 A2 A':Option Addr} {n1 c1 n2 c2 b n' c':Nat} (hB:B≤w.heap.size) (h:At B w (headR p most A1 n1 c1 A2 n2 c2 b::L)):At B (w.setCell ⟨p,1,none⟩ (.slice A' n' c')) (headR p most A1 n1 c1 A' n' c' b::L)∧Below B w (w.setCell ⟨p,1,none⟩ (.slice A' n' c')):=blk_set hB h 1 _
theorem head_set2 {A1 A2:Option Addr} {n1 c1 n2 c2 b b':Nat} (hB:B≤w.heap.size) (h:At B w (headR p most A1 n1 c1 A2 n2 c2 b::L)):At B (w.setCell ⟨p,2,none⟩ (Iv (b':Int))) (headR p most A1 n1 c1 A2 n2 c2 b'::L)∧Below B w (w.setCell ⟨p,2,none⟩ (Iv (b':Int))):=blk_set hB h 2 _
theorem popA_0 (hB:B≤w.heap.size) {l r:List Nat} {j b:Nat} (h:At B w (meetR p most (l++[j],b,r)::L)):
  Calls Tryz.prog 251 #[Pz p,Iv 0] w fun e w'=>e=.returned (.tuple #[Iv (j:Int),.bool true])∧At B w' (meetR p most (l,b,r)::L)∧Below B w w':=by
 obtain⟨A1,c1,A2,c2,h,h1,h2⟩:=meet_open h;obtain⟨n1,hn1⟩:∃ n,l.length=n:=⟨_,rfl⟩;obtain⟨n2,hn2⟩:∃ n,r.length=n:=⟨_,rfl⟩;simp only [sideR,sizeE,List.length_append,List.length_cons,List.length_nil,Nat.zero_add,hn1,hn2] at h h1;obtain⟨g,off,rfl,hle,hcm,hx,hnx⟩:=side_last hB h.rot2 hn1;have hcs:=head_cells h;obtain⟨hc0,hc1,hc2,hcf⟩:=hcs 0;simp only [World.drewN_zero] at hc0 hc1 hc2 hcf
 have hcl:∀ m,At B ((w.drewN m).setCell ⟨p,0,none⟩ (.slice (some ⟨g,off,none⟩) n1 c1)) (meetR p most (l,b,r)::L)∧Below B w ((w.drewN m).setCell ⟨p,0,none⟩ (.slice (some ⟨g,off,none⟩) n1 c1)):=fun m=>by
  obtain⟨s2,b2⟩:=head_set0 (A':=some ⟨g,off,none⟩) (n':=n1) (c':=c1) (w:=w.drewN m) hB (hnx m).rot2;refine⟨meet_close (A1:=some ⟨g,off,none⟩) (c1:=c1) (A2:=A2) (c2:=c2) ?_ (by simp only [sizeE];omega) h2,(below_drewN (Below.refl _ _) _).trans b2⟩;simp only [hn1,hn2,sideR];exact id s2
 have HCL:=Lib.hid hcl;clear hn1 hn2 h1 hnx hcl h hcs;go_enter Tryz.func251,Tryz.ntmps251;go_wp2;go_quiet (fail);go_wp2_with fail;have ho:=outer_raw (w.drewN nq) p 0 g off n1 c1 (j:Int) hc0 (hcf 0) hx hle hcm;refine ho.mono ?_;rintro e w' ⟨rfl,m,rfl⟩;obtain⟨q1,q2⟩:=HCL.out (nq+m);go_wp2_with fail
 go_ret2
 exact⟨rfl,q1,q2⟩
theorem popA_1 (hB:B≤w.heap.size) {l r:List Nat} {j b:Nat} (h:At B w (meetR p most (l,b,r++[j])::L)):
  Calls Tryz.prog 251 #[Pz p,Iv 1] w fun e w'=>e=.returned (.tuple #[Iv (j:Int),.bool true])∧At B w' (meetR p most (l,b,r)::L)∧Below B w w':=by
 obtain⟨A1,c1,A2,c2,h,h1,h2⟩:=meet_open h;obtain⟨n1,hn1⟩:∃ n,l.length=n:=⟨_,rfl⟩;obtain⟨n2,hn2⟩:∃ n,r.length=n:=⟨_,rfl⟩;simp only [sideR,sizeE,List.length_append,List.length_cons,List.length_nil,Nat.zero_add,hn1,hn2] at h h1;obtain⟨g,off,rfl,hle,hcm,hx,hnx⟩:=side_last hB h.rot3 hn2;have hcs:=head_cells h;obtain⟨hc0,hc1,hc2,hcf⟩:=hcs 0;simp only [World.drewN_zero] at hc0 hc1 hc2 hcf
 have hcl:∀ m,At B ((w.drewN m).setCell ⟨p,1,none⟩ (.slice (some ⟨g,off,none⟩) n2 c2)) (meetR p most (l,b,r)::L)∧Below B w ((w.drewN m).setCell ⟨p,1,none⟩ (.slice (some ⟨g,off,none⟩) n2 c2)):=fun m=>by
  obtain⟨s2,b2⟩:=head_set1 (A':=some ⟨g,off,none⟩) (n':=n2) (c':=c2) (w:=w.drewN m) hB (hnx m).rot2;refine⟨meet_close (A1:=A1) (c1:=c1) (A2:=some ⟨g,off,none⟩) (c2:=c2) ?_ (by simp only [sizeE];omega) h2,(below_drewN (Below.refl _ _) _).trans b2⟩;simp only [hn1,hn2,sideR];exact Sep.cons (fun _ h=>Sep.rot2 h) s2
 have HCL:=Lib.hid hcl;clear hn1 hn2 h1 hnx hcl h hcs;go_enter Tryz.func251,Tryz.ntmps251;go_wp2;go_quiet (fail);go_wp2_with fail;have ho:=outer_raw (w.drewN nq) p 1 g off n2 c2 (j:Int) hc1 (hcf 1) hx hle hcm;refine ho.mono ?_;rintro e w' ⟨rfl,m,rfl⟩;obtain⟨q1,q2⟩:=HCL.out (nq+m);go_wp2_with fail
 go_ret2
 exact⟨rfl,q1,q2⟩
theorem popB_0 (hB:B≤w.heap.size) {r:List Nat} {b:Nat} (hb:0<b) (h:At B w (meetR p most ([],b,r)::L)):
  Calls Tryz.prog 251 #[Pz p,Iv 0] w fun e w'=>e=.returned (.tuple #[Iv (-1),.bool true])∧At B w' (meetR p most ([],b-1,r)::L)∧Below B w w':=by
 obtain⟨A1,c1,A2,c2,h,h1,h2⟩:=meet_open h;obtain⟨n,hn⟩:∃ n,r.length=n:=⟨_,rfl⟩;simp only [sideR,sizeE,List.length_nil,hn] at h h1;obtain⟨hc0,hc1,hc2,hcf⟩:=head_cells h 0;simp only [World.drewN_zero] at hc0 hc1 hc2 hcf;have hf2:=hcf 2;have he:(b:Int)-1=((b-1:Nat):Int):=by omega
 have hcl:∀ m,At B ((w.drewN m).setCell ⟨p,2,none⟩ (Iv ((b:Int)-1))) (meetR p most ([],b-1,r)::L)∧Below B w ((w.drewN m).setCell ⟨p,2,none⟩ (Iv ((b:Int)-1))):=fun m=>by
  rw [he];obtain⟨s2,b2⟩:=head_set2 (b':=b-1) (w:=w.drewN m) hB (h.drewN m);refine⟨meet_close (A1:=A1) (c1:=c1) (A2:=A2) (c2:=c2) ?_ (by simp only [sizeE,List.length_nil];omega) h2,(below_drewN (Below.refl _ _) _).trans b2⟩;simp only [hn,sideR,List.length_nil];exact s2
 have hpos:(0:Int)<(b:Int):=by omega
 have hbd:(b:Int)≤1000:=by omega
 have HCL:=Lib.hid hcl;clear hn h1 hcl h he hcf hb;go_enter Tryz.func251,Tryz.ntmps251;go_wp2;go_quiet (fail);obtain⟨q1,q2⟩:=HCL.out nq;go_wp2_with fail
 go_ret2
 exact⟨rfl,q1,q2⟩
theorem popB_1 (hB:B≤w.heap.size) {l:List Nat} {b:Nat} (hb:0<b) (h:At B w (meetR p most (l,b,[])::L)):
  Calls Tryz.prog 251 #[Pz p,Iv 1] w fun e w'=>e=.returned (.tuple #[Iv (-1),.bool true])∧At B w' (meetR p most (l,b-1,[])::L)∧Below B w w':=by
 obtain⟨A1,c1,A2,c2,h,h1,h2⟩:=meet_open h;obtain⟨n,hn⟩:∃ n,l.length=n:=⟨_,rfl⟩;simp only [sideR,sizeE,List.length_nil,hn] at h h1;obtain⟨hc0,hc1,hc2,hcf⟩:=head_cells h 0;simp only [World.drewN_zero] at hc0 hc1 hc2 hcf;have hf2:=hcf 2;have he:(b:Int)-1=((b-1:Nat):Int):=by omega
 have hcl:∀ m,At B ((w.drewN m).setCell ⟨p,2,none⟩ (Iv ((b:Int)-1))) (meetR p most (l,b-1,[])::L)∧Below B w ((w.drewN m).setCell ⟨p,2,none⟩ (Iv ((b:Int)-1))):=fun m=>by
  rw [he];obtain⟨s2,b2⟩:=head_set2 (b':=b-1) (w:=w.drewN m) hB (h.drewN m);refine⟨meet_close (A1:=A1) (c1:=c1) (A2:=A2) (c2:=c2) ?_ (by simp only [sizeE,List.length_nil];omega) h2,(below_drewN (Below.refl _ _) _).trans b2⟩;simp only [hn,sideR,List.length_nil];exact s2
 have hpos:(0:Int)<(b:Int):=by omega
 have hbd:(b:Int)≤1000:=by omega
 have HCL:=Lib.hid hcl;clear hn h1 hcl h he hcf hb;go_enter Tryz.func251,Tryz.ntmps251;go_wp2;go_quiet (fail);obtain⟨q1,q2⟩:=HCL.out nq;go_wp2_with fail
 go_ret2
 exact⟨rfl,q1,q2⟩
theorem popC_0 (hB:B≤w.heap.size) {t:List Nat} {j:Nat} (h:At B w (meetR p most ([],0,j::t)::L)):
  Calls Tryz.prog 251 #[Pz p,Iv 0] w fun e w'=>e=.returned (.tuple #[Iv (j:Int),.bool true])∧At B w' (meetR p most ([],0,t)::L)∧Below B w w':=by
 obtain⟨A1,c1,A2,c2,h,h1,h2⟩:=meet_open h;obtain⟨n,hn⟩:∃ n,t.length=n:=⟨_,rfl⟩;simp only [sideR,sizeE,List.length_cons,List.length_nil,hn] at h h1;obtain⟨g,off,rfl,hle,hcm,hx,hnx⟩:=side_first hB h.rot3 hn;obtain⟨A',hA'⟩:∃ A',(if c2=1 then some ⟨g,off,none⟩ else some ⟨g,off+1,none⟩:Option Addr)=A':=⟨_,rfl⟩;rw [hA'] at hnx;have HA:=Lib.hid hA';clear hA';obtain⟨hc0,hc1,hc2,hcf⟩:=head_cells h 0;simp only [World.drewN_zero] at hc0 hc1 hc2 hcf
 have hcl:∀ m,At B ((w.drewN m).setCell ⟨p,1,none⟩ (.slice A' n (c2-1))) (meetR p most ([],0,t)::L)∧Below B w ((w.drewN m).setCell ⟨p,1,none⟩ (.slice A' n (c2-1))):=fun m=>by
  obtain⟨s2,b2⟩:=head_set1 (A':=A') (n':=n) (c':=c2-1) (w:=w.drewN m) hB (hnx.drewN m).rot2;refine⟨meet_close (A1:=A1) (c1:=c1) (A2:=A') (c2:=c2-1) ?_ (by simp only [sizeE,List.length_nil];omega) h2,(below_drewN (Below.refl _ _) _).trans b2⟩;simp only [hn,sideR,List.length_nil];exact Sep.cons (fun _ h=>Sep.rot2 h) s2
 have HCL:=Lib.hid hcl;clear hn h1 hnx hcl h;go_enter Tryz.func251,Tryz.ntmps251;go_wp2;go_quiet (fail);go_wp2_with fail;have ho:=inner_raw (w.drewN nq) p 1 g off n c2 (j:Int) hc1 (hcf 1) hx hle hcm;rw [HA.out] at ho;refine ho.mono ?_;rintro e w' ⟨rfl,rfl⟩;obtain⟨q1,q2⟩:=HCL.out nq;go_wp2_with fail
 go_ret2
 exact⟨rfl,q1,q2⟩
theorem popC_1 (hB:B≤w.heap.size) {t:List Nat} {j:Nat} (h:At B w (meetR p most (j::t,0,[])::L)):
  Calls Tryz.prog 251 #[Pz p,Iv 1] w fun e w'=>e=.returned (.tuple #[Iv (j:Int),.bool true])∧At B w' (meetR p most (t,0,[])::L)∧Below B w w':=by
 obtain⟨A1,c1,A2,c2,h,h1,h2⟩:=meet_open h;obtain⟨n,hn⟩:∃ n,t.length=n:=⟨_,rfl⟩;simp only [sideR,sizeE,List.length_cons,List.length_nil,hn] at h h1;obtain⟨g,off,rfl,hle,hcm,hx,hnx⟩:=side_first hB h.rot2 hn;obtain⟨A',hA'⟩:∃ A',(if c1=1 then some ⟨g,off,none⟩ else some ⟨g,off+1,none⟩:Option Addr)=A':=⟨_,rfl⟩;rw [hA'] at hnx;have HA:=Lib.hid hA';clear hA';obtain⟨hc0,hc1,hc2,hcf⟩:=head_cells h 0;simp only [World.drewN_zero] at hc0 hc1 hc2 hcf
 have hcl:∀ m,At B ((w.drewN m).setCell ⟨p,0,none⟩ (.slice A' n (c1-1))) (meetR p most (t,0,[])::L)∧Below B w ((w.drewN m).setCell ⟨p,0,none⟩ (.slice A' n (c1-1))):=fun m=>by
  obtain⟨s2,b2⟩:=head_set0 (A':=A') (n':=n) (c':=c1-1) (w:=w.drewN m) hB (hnx.drewN m).rot2;refine⟨meet_close (A1:=A') (c1:=c1-1) (A2:=A2) (c2:=c2) ?_ (by simp only [sizeE,List.length_nil];omega) h2,(below_drewN (Below.refl _ _) _).trans b2⟩;simp only [hn,sideR,List.length_nil];exact id s2
 have HCL:=Lib.hid hcl;clear hn h1 hnx hcl h;go_enter Tryz.func251,Tryz.ntmps251;go_wp2;go_quiet (fail);go_wp2_with fail;have ho:=inner_raw (w.drewN nq) p 0 g off n c1 (j:Int) hc0 (hcf 0) hx hle hcm;rw [HA.out] at ho;refine ho.mono ?_;rintro e w' ⟨rfl,rfl⟩;obtain⟨q1,q2⟩:=HCL.out nq;go_wp2_with fail
 go_ret2
 exact⟨rfl,q1,q2⟩
theorem popD_0 (h:At B w (meetR p most ([],0,[])::L)):
  Calls Tryz.prog 251 #[Pz p,Iv 0] w fun e w'=>e=.returned (.tuple #[Iv 0,.bool false])∧At B w' (meetR p most ([],0,[])::L)∧Below B w w':=by
 have h0:=h;obtain⟨A1,c1,A2,c2,h,h1,h2⟩:=meet_open h;obtain⟨hc0,hc1,hc2,hcf⟩:=head_cells h 0;simp only [World.drewN_zero,List.length_nil] at hc0 hc1 hc2 hcf;clear h1 h;go_enter Tryz.func251,Tryz.ntmps251;go_wp2;go_quiet (fail);go_wp2_with fail
 go_ret2
 exact⟨rfl,h0.drewN _,below_drewN (Below.refl _ _) _⟩
theorem popD_1 (h:At B w (meetR p most ([],0,[])::L)):
  Calls Tryz.prog 251 #[Pz p,Iv 1] w fun e w'=>e=.returned (.tuple #[Iv 0,.bool false])∧At B w' (meetR p most ([],0,[])::L)∧Below B w w':=by
 have h0:=h;obtain⟨A1,c1,A2,c2,h,h1,h2⟩:=meet_open h;obtain⟨hc0,hc1,hc2,hcf⟩:=head_cells h 0;simp only [World.drewN_zero,List.length_nil] at hc0 hc1 hc2 hcf;clear h1 h;go_enter Tryz.func251,Tryz.ntmps251;go_wp2;go_quiet (fail);go_wp2_with fail
 go_ret2
 exact⟨rfl,h0.drewN _,below_drewN (Below.refl _ _) _⟩
end
end Go.Proofs.YtadgbhjpgnlmoaaGreat.Rng
namespace Go
namespace Rp
theorem Sep.back4 {w:World} {U:Nat→Prop} {a b c d:Res} {l:List Res} (h:Sep w U (a::b::c::d::l)):Sep w U (l++[a,b,c,d]):=by
 have:=h.snoc;rw [List.cons_append] at this
 simpa using this.back3
theorem Sep.front3 {w:World} {U:Nat→Prop} {a b c:Res} {l:List Res} (h:Sep w U (l++[a,b,c])):Sep w U (a::b::c::l):=by
 have h1:Sep w U ((l++[a])++[b,c]):=by simpa using h
 have h2:=h1.front2;exact((Sep.cons (fun _ hV=>Sep.cons (fun _ hV'=>Sep.unsnoc hV') hV) h2).rot3)
theorem Sep.front4 {w:World} {U:Nat→Prop} {a b c d:Res} {l:List Res} (h:Sep w U (l++[a,b,c,d])):Sep w U (a::b::c::d::l):=by
 have h1:Sep w U ((l++[a])++[b,c,d]):=by simpa using h
 have h2:=h1.front3;exact((Sep.cons (fun _ hV=>Sep.cons (fun _ hV'=>Sep.cons (fun _ hV''=>Sep.unsnoc hV'') hV') hV) h2).rot4)
end Rp
end Go
namespace Go.Proofs.YtadgbhjpgnlmoaaGreat.Rng
set_option maxRecDepth 100000
open Go.RowKit Go.Rp Go.Rp.Rng
theorem step1_room {most k:Nat} {st:ES} (h:sizeE st<most):mStep most k 1 st=((st.1++[k],st.2),-1,1):=by show pushE most k st=_;unfold pushE;rw [if_pos h]
theorem step1_full {most k:Nat} {st:ES} (h:¬ sizeE st<most):mStep most k 1 st=(st,-1,3):=by show pushE most k st=_;unfold pushE;rw [if_neg h]
theorem step2_room {most k:Nat} {st:ES} (h:sizeE st<most):mStep most k 2 st=((st.1,st.2.1,st.2.2++[k]),-1,1):=by show back (pushE most k (flip st))=_;unfold pushE;rw [sizeE_flip,if_pos h];rfl
theorem step2_full {most k:Nat} {st:ES} (h:¬ sizeE st<most):mStep most k 2 st=(st,-1,3):=by show back (pushE most k (flip st))=_;unfold pushE;rw [sizeE_flip,if_neg h];rfl
theorem step_bad {most k:Nat} {o:Int} {st:ES} (h:o<1∨4<o):mStep most k o st=(st,-1,5):=by
 unfold mStep;rw [if_neg (by omega),if_neg (by omega),if_neg (by omega),if_neg (by omega)]
theorem step3_or (most k:Nat) (st:ES):(∃ st' pr,mStep most k 3 st=(st',pr,2))∨mStep most k 3 st=(st,-1,4):=by
 show(∃ st' pr,popE st=(st',pr,2))∨popE st=(st,-1,4)
 rcases popE_code st with h | h
 ·exact .inl ⟨(popE st).1,(popE st).2.1,by rw [← h]⟩
 ·exact .inr h
theorem step4_or (most k:Nat) (st:ES):(∃ st' pr,mStep most k 4 st=(st',pr,2))∨mStep most k 4 st=(st,-1,4):=by
 show(∃ st' pr,back (popE (flip st))=(st',pr,2))∨back (popE (flip st))=(st,-1,4)
 rcases popE_code (flip st) with h | h
 ·exact .inl ⟨flip (popE (flip st)).1,(popE (flip st)).2.1,by unfold back;rw [← h]⟩
 ·exact .inr (by rw [h];rfl)
section
variable {B:Nat} {w:World} {p most:Nat} {st st':ES} {L:List Res}
theorem pop3_some (hB:B≤w.heap.size) {k:Nat} {pr:Int} (h:At B w (meetR p most st::L)) (e:mStep most k 3 st=(st',pr,2)):
  Calls Tryz.prog 251 #[Pz p,Iv 0] w fun e w'=>e=.returned (.tuple #[Iv pr,.bool true])∧At B w' (meetR p most st'::L)∧Below B w w':=by
 have e:popE st=(st',pr,2):=e;obtain⟨l,b,r⟩:=st
 rcases List.eq_nil_or_concat l with rfl | ⟨l',j,rfl⟩
 ·by_cases hb:0<b
  ·have e2:popE ([],b,r)=(([],b-1,r),-1,2):=by simp [popE,hb]
   rw [e2] at e
   cases e
   exact popB_0 hB hb h
  ·obtain rfl:b=0:=by omega
   rcases r with _ | ⟨j,t⟩
   ·cases e
   ·cases e
    exact popC_0 hB h
 ·rw [List.concat_eq_append] at h e;have e2:popE (l'++[j],b,r)=((l',b,r),(j:Int),2):=by simp [popE]
  rw [e2] at e
  cases e
  exact popA_0 hB h
theorem pop3_none {k:Nat} (h:At B w (meetR p most st::L)) (e:mStep most k 3 st=(st',-1,4)):
  Calls Tryz.prog 251 #[Pz p,Iv 0] w fun e w'=>e=.returned (.tuple #[Iv 0,.bool false])∧At B w' (meetR p most st::L)∧Below B w w':=by
 have e:popE st=(st',-1,4):=e;obtain⟨l,b,r⟩:=st
 rcases List.eq_nil_or_concat l with rfl | ⟨l',j,rfl⟩
 ·by_cases hb:0<b
  ·simp [popE,hb] at e
  ·obtain rfl:b=0:=by omega
   rcases r with _ | ⟨j,t⟩
   ·exact popD_0 h
   ·simp [popE] at e
 ·rw [List.concat_eq_append] at e;simp [popE] at e
theorem pop4_some (hB:B≤w.heap.size) {k:Nat} {pr:Int} (h:At B w (meetR p most st::L)) (e:mStep most k 4 st=(st',pr,2)):
  Calls Tryz.prog 251 #[Pz p,Iv 1] w fun e w'=>e=.returned (.tuple #[Iv pr,.bool true])∧At B w' (meetR p most st'::L)∧Below B w w':=by
 have e:back (popE (flip st))=(st',pr,2):=e;obtain⟨l,b,r⟩:=st
 rcases List.eq_nil_or_concat r with rfl | ⟨r',j,rfl⟩
 ·by_cases hb:0<b
  ·have e2:popE (flip (l,b,[]))=(([],b-1,l),-1,2):=by simp [popE,hb,Rp.Rng.flip]
   rw [e2] at e
   cases e
   exact popB_1 hB hb h
  ·obtain rfl:b=0:=by omega
   rcases l with _ | ⟨j,t⟩
   ·cases e
   ·cases e
    exact popC_1 hB h
 ·rw [List.concat_eq_append] at h e;have e2:popE (flip (l,b,r'++[j]))=((r',b,l),(j:Int),2):=by simp [popE,Rp.Rng.flip]
  rw [e2] at e
  cases e
  exact popA_1 hB h
theorem pop4_none {k:Nat} (h:At B w (meetR p most st::L)) (e:mStep most k 4 st=(st',-1,4)):
  Calls Tryz.prog 251 #[Pz p,Iv 1] w fun e w'=>e=.returned (.tuple #[Iv 0,.bool false])∧At B w' (meetR p most st::L)∧Below B w w':=by
 have e:back (popE (flip st))=(st',-1,4):=e;obtain⟨l,b,r⟩:=st
 rcases List.eq_nil_or_concat r with rfl | ⟨r',j,rfl⟩
 ·by_cases hb:0<b
  ·simp [popE,hb,Rp.Rng.flip,back] at e
  ·obtain rfl:b=0:=by omega
   rcases l with _ | ⟨j,t⟩
   ·exact popD_1 h
   ·simp [popE,Rp.Rng.flip,back] at e
 ·rw [List.concat_eq_append] at e;simp [popE,Rp.Rng.flip,back] at e
theorem stable_map (q:Nat) (o:Obj):Stable (fun w R=>w.heap[q]? =some o∧q<w.heap.size∧R q):=
 ⟨fun h hS=>⟨h.1,h.2.1,hS _ h.2.2⟩,fun h hm hd=>⟨(hm.block q h.2.1 (hd q h.2.2)).trans h.1,Nat.lt_of_lt_of_le h.2.1 hm.size,h.2.2⟩,fun h=>⟨h.1,h.2.1,h.2.2,h.2.1⟩⟩
def objR (q:Nat) (o:Obj):Res:=⟨fun w R=>w.heap[q]? =some o∧q<w.heap.size∧R q,stable_map q o⟩
theorem objR_new (hB:B≤w.heap.size) (h:At B w L) (o:Obj):At B (w.alloc o) (objR w.heap.size o::L):=
 h.made (fun x hx=>Nat.le_trans hB hx) ((Below.refl _ w).alloc (Nat.le_refl _) _) ⟨heap_alloc_new w _,by simp,Nat.le_refl _,by simp⟩
end
theorem info_res:(Tryz.prog.info? 47).map (fun i=>(i.zero,i.size,i.bytes))=some (some (.agg #[Ub 0,Iw 0]),2,8):=by kernel_rfl
theorem rep_res (n:Nat):(List.replicate n ((#[Ub 0,Iw 0]:Array Value).toList)).flatten=(List.replicate n ((0,0):Int×Int)).flatMap resIn:=by
 induction n with
 | zero=>rfl
 | succ n ih=>rw [List.replicate_succ,List.replicate_succ,List.flatten_cons,List.flatMap_cons,ih];rfl
theorem op_at (ops:List (Int×Int)) (k:Nat) (hk:k<ops.length):(ops.flatMap opIn)[k*2]? =some (Ub ops[k].1)∧(ops.flatMap opIn)[k*2+1]? =some (Iw ops[k].2):=by
 induction ops generalizing k with
 | nil=>simp at hk
 | cons o l ih=>
  rcases k with _ | k
  ·simp [opIn]
  ·have:=ih k (by simpa using hk);simp only [List.flatMap_cons,opIn,List.cons_append,List.nil_append,List.getElem_cons_succ];rw [show (k+1)*2=k*2+2 by omega]
   simpa [opIn] using this
theorem meet_new {B:Nat} {w:World} {be mo:Nat} {L:List Res} (hB:B≤w.heap.size) (hbm:be≤mo) (hm:mo≤1000) (h:At B w L):At B (w.alloc (.cells #[.slice none 0 0,.slice none 0 0,Iv (be:Int),Iv (mo:Int)] 315)) (meetR w.heap.size mo ([],be,[])::L):=
 h.made (fun x hx=>Nat.le_trans hB hx) ((Below.refl _ w).alloc (Nat.le_refl _) _) ⟨none,0,none,0,⟨fun x=>x=w.heap.size,fun x hx=>by subst hx;simp,⟨Blk.new _ _ _,rfl⟩,(Sep.nilSl (Sep.nilSl (show Sep _ _ [] from trivial) _ _) _ _)⟩,by simpa [sizeE] using hbm,hm⟩
end Go.Proofs.YtadgbhjpgnlmoaaGreat.Rng
