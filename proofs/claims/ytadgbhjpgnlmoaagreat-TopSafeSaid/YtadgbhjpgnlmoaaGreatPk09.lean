/- TopSafe, a part of its proof; no conditions. -/
import Derived.Test.YtadgbhjpgnlmoaaGreatPk08
set_option linter.all false
namespace Go.Proofs.YtadgbhjpgnlmoaaGreat
open Go.RowKit Go.Rp Go.Sf
def MemAt (w:World) (p:Nat) (S:Nat→Prop) (size:Int) (m:List Int):Prop:=
 ∃ A c s,Blk w p 112 #[Iv size,.slice A m.length c,Iv s]∧Sl w 2 1 A m.length c (i64s m) S∧S p∧(m.length:Int)≤size∧size≤1000
section
variable {w w':World} {p:Nat} {S T:Nat→Prop} {size:Int} {m:List Int}
theorem stable_mem (p:Nat) (size:Int) (m:List Int):Stable (fun w S=>MemAt w p S size m) where
 mono:=fun⟨A,c,s,h1,h2,h3,h4⟩ hS=>⟨A,c,s,h1,h2.mono hS,hS p h3,h4⟩
 mod:=fun⟨A,c,s,h1,h2,h3,h4⟩ hm hd=>⟨A,c,s,h1.mod hm (hd p h3),h2.mod hm hd,h3,h4⟩
 lt:=fun⟨A,c,s,h1,h2,h3,h4⟩=>⟨A,c,s,h1,h2.lt,⟨h3,h1.lt⟩,h4⟩
def memR (p:Nat) (size:Int) (m:List Int):Res:=⟨fun w S=>MemAt w p S size m,stable_mem p size m⟩
theorem mem_counted {A:Option Addr} {c:Nat} {s s':Int} {t:TypeId} {cs:Array Value} (hb:Blk w p 112 #[Iv size,.slice A m.length c,Iv s]) (hs:Sl w 2 1 A m.length c (i64s m) S) (hp:S p) (h:(m.length:Int)≤size∧size≤1000):
  MemAt ((w.alloc (.cells cs t)).setCell ⟨p,2,none⟩ (Iv s')) p (grow S w ((w.alloc (.cells cs t)).setCell ⟨p,2,none⟩ (Iv s'))) size m∧Mod S w ((w.alloc (.cells cs t)).setCell ⟨p,2,none⟩ (Iv s')):=by
 refine⟨⟨A,c,s',(hb.alloc _).set 2 _,((hs.alloc _).farT (p:=⟨p,2,none⟩) (hb.alloc _) (by decide) _).mono grow_left,.inl hp,h⟩,((Mod.refl S w).alloc _).setCell (.inl hp) _⟩
theorem mem_set {g off k c:Nat} {s v:Int} (hk:k<m.length) (hb:Blk w p 112 #[Iv size,.slice (some ⟨g,off,none⟩) m.length c,Iv s]) (hs:Sl w 2 1 (some ⟨g,off,none⟩) m.length c (i64s m) S) (hg:g≠p):
  Blk (w.setCell ⟨g,off+k,none⟩ (Iv v)) p 112 #[Iv size,.slice (some ⟨g,off,none⟩) (m.set k v).length c,Iv s]∧Sl (w.setCell ⟨g,off+k,none⟩ (Iv v)) 2 1 (some ⟨g,off,none⟩) (m.set k v).length c (i64s (m.set k v)) S:=by
 rw [List.length_set];refine⟨hb.far (fun h=>hg h.symm) _,?_⟩;have:=hs.set rfl k (by omega) (Iv v)
 rwa [show (i64s m).set k (Iv v)=i64s (m.set k v) from by simp [i64s,List.map_set]] at this
theorem ld_in {a:Int} (h:inb m a):m[a.toNat]? =some (ld m a):=by
 unfold ld;rw [if_pos h];unfold inb at h;have:a.toNat<m.length:=by omega
 simp [this]
theorem load_any (h:MemAt w p S size m) (a:Int):Calls Tryz.prog 77 #[Pz p,Iv a] w fun e w'=>e=.returned (.tuple #[Iv (ld m a),.int .u16 (if inb m a then 0 else 10)])∧MemAt w' p (grow S w w') size m∧Mod S w w':=by
 obtain⟨A,c,s,hb,hs,hp,hz⟩:=h
 by_cases hi:inb m a
 ·have hld:=ld_in hi;rw [if_pos hi];unfold inb at hi;obtain⟨k,rfl⟩:∃ k:Nat,a=(k:Int):=⟨a.toNat,by omega⟩;have hk:k<m.length:=by omega
  obtain⟨g,off,rfl,hg,hlt,hfz,hx⟩:=hs.at (by omega);have hc:=hx k (Iv (ld m k)) (by simp only [i64s,List.getElem?_map];rw [show m[k]? =some (ld m k) by simpa using hld];rfl);refine(load_in w p g off m.length c k size (ld m k) s hk (by omega) hb hc).mono ?_;rintro e w' ⟨rfl,rfl⟩;exact⟨rfl,mem_counted hb hs hp hz⟩
 ·rw [if_neg hi];have hl:ld m a=0:=by unfold ld;rw [if_neg hi]
  rw [hl];refine(load_out w p m.length c A a (by unfold inb at hi;omega) (hb.cell 1)).mono ?_;rintro e w' ⟨rfl,rfl⟩;exact⟨rfl,⟨A,c,s,hb.alloc _,(hs.alloc _).mono grow_left,.inl hp,hz⟩,(Mod.refl S w).alloc _⟩
theorem store_any (h:MemAt w p S size m) (a v:Int):Calls Tryz.prog 125 #[Pz p,Iv a,Iv v] w fun e w'=>e=.returned (.int .u16 (if inb m a then 0 else 10))∧MemAt w' p (grow S w w') size (st m a v)∧Mod S w w':=by
 obtain⟨A,c,s,hb,hs,hp,hz⟩:=h
 by_cases hi:inb m a
 ·have hld:=ld_in hi;have hst:st m a v=m.set a.toNat v:=by unfold st;rw [if_pos hi]
  rw [if_pos hi,hst];unfold inb at hi;obtain⟨k,rfl⟩:∃ k:Nat,a=(k:Int):=⟨a.toNat,by omega⟩;have hk:k<m.length:=by omega
  have hs':=hs.off hb (by decide);obtain⟨g,off,rfl,hg,hlt,hfz,hx⟩:=hs'.at (by omega);have hc:=hx k (Iv (ld m k)) (by simp only [i64s,List.getElem?_map];rw [show m[k]? =some (ld m k) by simpa using hld];rfl);obtain⟨m1,m2⟩:=mem_set (v:=v) hk hb hs hg.2;refine(store_in w p g off m.length c k size v s hk (by omega) hb (by rw [hc];simp) (hfz _) hg.2).mono ?_;rintro e w' ⟨rfl,rfl⟩;have hz':((m.set k v).length:Int)≤size∧size≤1000:=by rw [List.length_set];exact hz
  obtain⟨k1,k2⟩:=mem_counted (s':=wrap64 (s+1)) (t:=30) (cs:=#[.int .u16 0]) m1 m2 hp hz';have hsz:(w.setCell ⟨g,off+k,none⟩ (Iv v)).heap.size=w.heap.size:=by simp [World.setCell]
  refine⟨rfl,?_,((Mod.refl S w).setCell (.inl hg.1) _).trans k2 fun b hb=>.inl hb⟩;unfold grow at k1 ⊢;rw [hsz] at k1;exact k1
 ·have hst:st m a v=m:=by unfold st;rw [if_neg hi]
  rw [if_neg hi,hst];refine(store_out w p m.length c A a v (by unfold inb at hi;omega) (hb.cell 1)).mono ?_;rintro e w' ⟨rfl,rfl⟩;exact⟨rfl,⟨A,c,s,hb.alloc _,(hs.alloc _).mono grow_left,.inl hp,hz⟩,(Mod.refl S w).alloc _⟩
theorem swap_any (h:MemAt w p S size m) (a o v:Int):Calls Tryz.prog 122 #[Pz p,Iv a,Iv o,Iv v] w fun e w'=>e=.returned (.tuple #[.bool (sw m a o),.int .u16 (if inb m a then 0 else 10)])∧MemAt w' p (grow S w w') size (sm m a o v)∧Mod S w w':=by
 obtain⟨A,c,s,hb,hs,hp,hz⟩:=h
 by_cases hi:inb m a
 ·have hld:=ld_in hi;have hsw:sw m a o=decide (ld m a=o):=by unfold sw;simp [hi]
  have hst:st m a v=m.set a.toNat v:=by unfold st;rw [if_pos hi]
  unfold sm;rw [if_pos hi,hst,hsw];unfold inb at hi;obtain⟨k,rfl⟩:∃ k:Nat,a=(k:Int):=⟨a.toNat,by omega⟩;have hk:k<m.length:=by omega
  have hs':=hs.off hb (by decide);obtain⟨g,off,rfl,hg,hlt,hfz,hx⟩:=hs'.at (by omega);have hc:=hx k (Iv (ld m k)) (by simp only [i64s,List.getElem?_map];rw [show m[k]? =some (ld m k) by simpa using hld];rfl)
  by_cases ho:ld m k=o
  ·subst ho;obtain⟨m1,m2⟩:=mem_set (v:=v) hk hb hs hg.2;refine(swap_yes w p g off m.length c k size (ld m k) v s hk (by omega) hb hc (hfz _) hg.2).mono ?_;rintro e w' ⟨rfl,rfl⟩;have hz':((m.set k v).length:Int)≤size∧size≤1000:=by rw [List.length_set];exact hz
   obtain⟨k1,k2⟩:=mem_counted (s':=wrap64 (s+1)) (t:=30) (cs:=#[.int .u16 0]) m1 m2 hp hz';have hsz:(w.setCell ⟨g,off+k,none⟩ (Iv v)).heap.size=w.heap.size:=by simp [World.setCell]
   refine⟨by simp,?_,((Mod.refl S w).setCell (.inl hg.1) _).trans k2 fun b hb=>.inl hb⟩;unfold grow at k1 ⊢;rw [hsz] at k1
   simpa using k1
  ·refine(swap_no w p g off m.length c k size o (ld m k) v s hk (by omega) hb hc ho).mono ?_;rintro e w' ⟨rfl,rfl⟩;obtain⟨k1,k2⟩:=mem_counted (s':=wrap64 (s+1)) (t:=30) (cs:=#[.int .u16 0]) hb hs hp hz;exact⟨by simp [ho],by simpa [ho] using k1,k2⟩
 ·have hsw:sw m a o=false:=by unfold sw;simp [hi]
  unfold sm;rw [if_neg hi,hsw];refine(swap_out w p m.length c A a o v (by unfold inb at hi;omega) (hb.cell 1)).mono ?_;rintro e w' ⟨rfl,rfl⟩;exact⟨rfl,⟨A,c,s,hb.alloc _,(hs.alloc _).mono grow_left,.inl hp,hz⟩,(Mod.refl S w).alloc _⟩
end
section
variable {B p:Nat} {w:World} {size:Int} {m:List Int} {L:List Res}
theorem load_s (hB:B≤w.heap.size) (h:At B w (memR p size m::L)) (a:Int):Calls Tryz.prog 77 #[Pz p,Iv a] w fun e w'=>e=.returned (.tuple #[Iv (ld m a),.int .u16 (if inb m a then 0 else 10)])∧At B w' (memR p size m::L)∧Below B w w':=
 h.step hB fun _ _ hS=>load_any hS a
theorem store_s (hB:B≤w.heap.size) (h:At B w (memR p size m::L)) (a v:Int):Calls Tryz.prog 125 #[Pz p,Iv a,Iv v] w fun e w'=>e=.returned (.int .u16 (if inb m a then 0 else 10))∧At B w' (memR p size (st m a v)::L)∧Below B w w':=
 h.step hB fun _ _ hS=>store_any hS a v
theorem swap_s (hB:B≤w.heap.size) (h:At B w (memR p size m::L)) (a o v:Int):Calls Tryz.prog 122 #[Pz p,Iv a,Iv o,Iv v] w fun e w'=>e=.returned (.tuple #[.bool (sw m a o),.int .u16 (if inb m a then 0 else 10)])∧At B w' (memR p size (sm m a o v)::L)∧Below B w w':=
 h.step hB fun _ _ hS=>swap_any hS a o v
end
end Go.Proofs.YtadgbhjpgnlmoaaGreat
namespace Go.Rp
open Go.RowKit
section
variable {P:Program} {w:World} {e t tx:TypeId} {A:Option Addr} {n c m:Nat}
theorem run_zeros_room (ty:TypeId) (i:TypeInfo) (z:Value) (ht:P.underlying t=some (.slice e)) {k:IntKind} (hk:P.underlying tx=some (.int k)) (hi:P.info? e=some i) (hz:i.zero=some z) (b off:Nat) (hm:0<m) (hm2:m≤1000) (hsz:0<i.size) (hby:i.bytes≤1000) (hone:∀ u∈(Builtin.zeroCells z.cells m).toList,u.oneCell'=true)
  (hroom:n+m≤c) (hc:∀ j,j<(Builtin.zeroCells z.cells m).toList.length→(w.cell? ⟨b,off+n*i.size+j,none⟩).isSome=true) (hf:∀ j,j<(Builtin.zeroCells z.cells m).toList.length→w.frozen? ⟨b,off+n*i.size+j,none⟩=false):
  (Builtin.append_ #[t,tx] ty #[.slice (some ⟨b,off,none⟩) n c,Iv (m:Int)]).run P w=.ok (.slice (some ⟨b,off,none⟩) (n+m) c) (w.setCells b (off+n*i.size) (Builtin.zeroCells z.cells m).toList):=by
 have hst:=run_storeCells_cells (P:=P) b (off+n*i.size) (Builtin.zeroCells z.cells m).toList 0 w (by simpa using hc) (by simpa using hf) hone;simp only [Nat.add_zero] at hst;have hw:IntKind.i64.wrap (m:Int)=(m:Int):=IntWalk.i64_in _ (by omega);have h1:¬ ((m:Int)<0):=by omega
 have h2:¬ (281474976710656<(m:Int)*(i.bytes:Int)):=by
  have:m*i.bytes≤1000*1000:=Nat.mul_le_mul hm2 hby;have e:((m:Int)*(i.bytes:Int))=((m*i.bytes:Nat):Int):=(Int.natCast_mul ..).symm;omega
 have h3:¬ (m*i.size=0):=by
  have:0<m*i.size:=Nat.mul_pos hm hsz;omega
 have h4:¬ (m=0∨i.size=0):=by omega
 simp [Builtin.append_,run_underlying ht,run_underlying hk,sizeOf,typeInfo,zeroValue,asInt,asIntOf,hi,hz,hw,h1,h2,h3,h4,hroom,Addr.add_lit,hst]
theorem run_zeros_grow (ty:TypeId) (i:TypeInfo) (z:Value) (ht:P.underlying t=some (.slice e)) {k:IntKind} (hk:P.underlying tx=some (.int k)) (hi:P.info? e=some i) (hz:i.zero=some z) (olds:List Value)
  (hold:(Builtin.firstCells i.size n (.slice A n c)).run P w.drew=.ok olds.toArray w.drew) (hm:0<m) (hm2:m≤1000) (hsz:0<i.size) (hby:i.bytes≤1000)
  (hg:c<n+m) (h63:((n+m:Nat):Int)≤9223372036854775807) (hfit:Builtin.nextslicecap (n+m) c*i.bytes≤281474976710656):
  (Builtin.append_ #[t,tx] ty #[.slice A n c,Iv (m:Int)]).run P w=
   .ok (.slice (some ⟨w.heap.size,0,none⟩) (n+m) (grownCap w (n+m) c e))
    (w.drew.alloc (.cells ((olds++(Builtin.zeroCells z.cells m).toList).toArray++Builtin.zeroCells z.cells (grownCap w (n+m) c e-(n+m))) e)):=by
 have hn:¬ (n+m≤c):=by omega
 have h63':¬ (9223372036854775807<((n:Int)+(m:Int))):=by omega
 have h63'':¬ (9223372036854775807<((n:Int)+max (m:Int) 0)):=by omega
 have h48':¬ (281474976710656<Builtin.nextslicecap (n+m) c*i.bytes):=by omega
 have hw:IntKind.i64.wrap (m:Int)=(m:Int):=IntWalk.i64_in _ (by omega);have h1:¬ ((m:Int)<0):=by omega
 have h2:¬ (281474976710656<(m:Int)*(i.bytes:Int)):=by
  have:m*i.bytes≤1000*1000:=Nat.mul_le_mul hm2 hby;have e:((m:Int)*(i.bytes:Int))=((m*i.bytes:Nat):Int):=(Int.natCast_mul ..).symm;omega
 have h4:¬ (m=0∨i.size=0):=by omega
 simp [Builtin.append_,run_underlying ht,run_underlying hk,sizeOf,typeInfo,zeroValue,asInt,asIntOf,hi,hz,hw,h1,h2,h4,hn,h63',h63'',h48',Question.forced,hold,newRow,grownCap];rw [if_neg (by have:0<m*i.size:=Nat.mul_pos hm hsz;omega)]
 congr 3
 apply Array.ext';simp [List.append_assoc]
theorem zeros_one (z:Value) (m:Nat):(Builtin.zeroCells #[z] m).toList=List.replicate m z:=by
 apply List.ext_getElem
 ·simp [size_zeroCells]
 ·intro j h1 h2;simp [Builtin.zeroCells,Nat.mod_one]
theorem run_zeros_sl (ty:TypeId) (i:TypeInfo) (z:Value) {bytes:Nat} (ht:P.underlying t=some (.slice e)) {k:IntKind} (hk:P.underlying tx=some (.int k)) (hi:P.info? e=some i) (hz:i.zero=some z) (hsize:i.size=1) (hby:i.bytes=bytes) (hby':bytes≤1000) (hzc:z.cells=#[z]) (h1:z.oneCell'=true)
  (xs:List Value) (S:Nat→Prop) (hown:Sl w e 1 A n c xs S) (hm:0<m) (hm2:m≤1000) (h63:n+m≤maxLen) (hbytes:(n+m)*bytes≤140737488355328):
  ∃ A' c' w',(Builtin.append_ #[t,tx] ty #[.slice A n c,Iv (m:Int)]).run P w=.ok (.slice A' (n+m) c') w'∧Sl w' e 1 A' (n+m) c' (xs++List.replicate m z) (grow S w w')∧Mod S w w':=by
 subst hby;have hnews:(Builtin.zeroCells z.cells m).toList=List.replicate m z:=by rw [hzc];exact zeros_one z m
 obtain⟨hl,hnc,hcm,hA⟩:=hown;rw [Nat.mul_one] at hl;have hlen:(xs++List.replicate m z).length=(n+m)*1:=by rw [List.length_append,hl,List.length_replicate];omega
 by_cases hroom:n+m≤c
 ·rcases hA with ⟨rfl,rfl,rfl⟩ | ⟨g,off,cur,rfl,hg,hb,hcs,hcur⟩
  ·omega
  ·have hfit:off+n*i.size+(List.replicate m z).length≤cur.size:=by
    rw [List.length_replicate,hsize];omega
   have hrun:=run_zeros_room (P:=P) (w:=w) ty i z ht hk hi hz g off hm hm2 (by omega) hby' (by rw [hnews];intro u hu;rw [List.eq_of_mem_replicate hu];exact h1) hroom
    (fun j hj=>by rw [hb.cell,Array.getElem?_eq_getElem (by rw [hnews] at hj;omega)];rfl) (fun j _=>hb.frozen _)
   rw [hnews] at hrun;obtain⟨cs',k1,k2,k3,k4,k5,k6,k7,k8,k9⟩:=setCells_blk (g:=g) (t:=e) (List.replicate m z) (off+n*i.size) w cur hb hfit;refine⟨_,c,_,hrun,⟨hlen,hroom,hcm,.inr ⟨g,off,cs',rfl,.inl hg,k1,by omega,fun j hj=>?_⟩⟩,⟨k5,k6,k7,by omega,fun k _ hk=>k9 k (fun he=>hk (he▸hg))⟩⟩;rw [hsize] at k3 k4
   rcases Nat.lt_or_ge j n with hjn | hjn
   ·rw [k3 _ (by omega),hcur j (by omega),List.getElem?_append_left (by omega)]
   ·rw [List.getElem?_append_right (by omega),hl,←k4 (j-n) (by rw [List.length_replicate];omega)]
    congr 1
    omega
 ·have hold:(Builtin.firstCells i.size n (.slice A n c)).run P w.drew=.ok xs.toArray w.drew:=by
   rcases hA with ⟨rfl,rfl,rfl⟩ | ⟨g,off,cur,rfl,hg,hb,hcs,hcur⟩
   ·have hx:xs=[]:=List.eq_nil_of_length_eq_zero (by omega);subst hx;exact run_firstCells_none _ _ 0 0 0
   ·refine run_firstCells_some _ _ n _ n c xs (by rw [hsize,hl,Nat.mul_one]) fun j u hu=>?_;have hj:j<n:=by rw [← hl];exact(List.getElem?_eq_some_iff.1 hu).1
    have hcell:w.drew.cell? ⟨g,off+j,none⟩=some u:=by rw [hb.drew.cell,hcur j (by omega),hu]
    simp only [Addr.add]
    split
    ·rename_i h0;subst h0;simpa using hcell
    ·simpa using hcell
  have hge:=grownCap_ge w (n+m) c e;have hcapm:grownCap w (n+m) c e≤maxLen:=grownCap_le_maxLen w (n+m) c e h63;have hrun:=run_zeros_grow (P:=P) (w:=w) ty i z ht hk hi hz xs hold hm hm2 (by omega) hby' (by omega) (by simp only [maxLen] at h63;omega) (growslice_fits (by omega) hbytes);rw [hnews] at hrun;have hblk:Blk (w.drew.alloc (.cells ((xs++List.replicate m z).toArray++Builtin.zeroCells z.cells (grownCap w (n+m) c e-(n+m))) e)) w.heap.size e ((xs++List.replicate m z).toArray++Builtin.zeroCells z.cells (grownCap w (n+m) c e-(n+m))):=Blk.new w.drew _ _;refine⟨_,_,_,hrun,?_,⟨rfl,rfl,rfl,by simp,fun k hk _=>Below.heap_alloc w.drew _ k hk⟩⟩
  have hs:=Sl.of_blk (S:=grow S w (w.drew.alloc (.cells ((xs++List.replicate m z).toArray++Builtin.zeroCells z.cells (grownCap w (n+m) c e-(n+m))) e))) (sz:=1) hblk (.inr ⟨Nat.le_refl _,by simp⟩) (n+m) (grownCap w (n+m) c e) hge hcapm (by
   rw [Array.size_append,size_zeroCells,hzc,List.size_toArray,hlen];simp;omega)
  have htake:((xs++List.replicate m z).toArray++Builtin.zeroCells z.cells (grownCap w (n+m) c e-(n+m))).toList.take ((n+m)*1)=xs++List.replicate m z:=by
   rw [Array.toList_append,←hlen];exact List.take_left
  rw [htake] at hs;exact hs
theorem wpList_zeros_sl {ops:Array Oper} {rest:List Oper} {o:Oper} {a:Act} {Q:Exit→Act→World→Prop} (hgd:o.guard=none) (s x:Operand)
  (ho:o.op=.call { callee:=.builtin .append,args:=#[s,x],argTypes:=#[t,tx]})
  (i:TypeInfo) (z:Value) {bytes:Nat} (ht:P.underlying t=some (.slice e)) {k:IntKind} (hk:P.underlying tx=some (.int k)) (hi:P.info? e=some i) (hz:i.zero=some z) (hsize:i.size=1) (hby:i.bytes=bytes) (hby':bytes≤1000) (hzc:z.cells=#[z]) (h1:z.oneCell'=true)
  (xs:List Value) (S:Nat→Prop) (hs:a.eval s=.slice A n c) (hown:Sl w e 1 A n c xs S) (hx:a.eval x=Iv (m:Int)) (hm:0<m) (hm2:m≤1000) (h63:n+m≤maxLen) (hbytes:(n+m)*bytes≤140737488355328)
  (h:∀ A' c' w',Sl w' e 1 A' (n+m) c' (xs++List.replicate m z) (grow S w w')→Mod S w w'→wpList P ops Q rest (a.put o.dst (.slice A' (n+m) c')) w'):wpList P ops Q (o::rest) a w:=
 wpList_plain hgd fun K hK=>by
  obtain⟨A',c',w',hrun,h2,h3⟩:=run_zeros_sl (P:=P) (w:=w) o.type i z ht hk hi hz hsize hby hby' hzc h1 xs S hown hm hm2 h63 hbytes;unfold Oper.wp execOp;simp only [ho,resolve,invoke,builtin,Sem.run_bind,Sem.run_pure,Result.andThen_ok,List.map_toArray,List.map_cons,List.map_nil,hs,hx,hrun];exact hK _ _ (h A' c' w' h2 h3)
end
end Go.Rp
namespace Go.Proofs.YtadgbhjpgnlmoaaGreat
open Go.RowKit Go.Rp Go.Sf
theorem info_i64:(Tryz.prog.info? 2).map (fun i=>(i.zero,i.size,i.bytes))=some (some (Iv 0),1,8):=by kernel_rfl
section
variable {w w':World} {p:Nat} {S T:Nat→Prop} {size:Int} {m:List Int}
theorem alloc_no (h:MemAt w p S size m) (k:Nat) (hk:size<(m.length:Int)+k):Calls Tryz.prog 56 #[Pz p,Iv (k:Int)] w fun e w'=>e=.returned (.tuple #[Iv 0,.int .u16 11])∧MemAt w' p (grow S w w') size m∧Mod S w w':=by
 obtain⟨A,c,s,hb,hs,hp,hz⟩:=h;have hb1:=hb.alloc (.cells #[.int .u16 0] 30);obtain⟨n,hn⟩:∃ n,m.length=n:=⟨_,rfl⟩;rw [hn] at hk hb hz hb1;have hc0:w.cell? ⟨p,0,none⟩=some (Iv size):=hb.cell 0;have hc1:w.cell? ⟨p,1,none⟩=some (.slice A n c):=hb.cell 1;have hw:IntKind.i64.wrap (size-(n:Int))=size-(n:Int):=IntWalk.i64_in _ (by omega);have hgt:size-(n:Int)<(k:Int):=by omega
 have hplt:=hb.lt;have hk0:¬ ((k:Int)<0):=by omega
 go_enter_defers Tryz.func56,Tryz.ntmps56
 go_wp2_with fail;have hq:(w.alloc (Obj.cells #[Value.int .u16 11] 30)).cell? ⟨w.heap.size,0,none⟩=some (.int .u16 11):=(Blk.new w _ _).cell 0;refine leaves_cons (f:=93) (args:=#[Pz p,Pz w.heap.size]) (by simp) (by simp [go_sem]) ?_;refine(count_no _ p _ _ hq).mono ?_;rintro e u' w2 ⟨rfl,rfl,rfl⟩;refine⟨_,by simp [results,Tryz.results56,go_sem,hq],rfl,⟨A,c,s,?_,(hs.alloc _).mono grow_left,.inl hp,by rw [hn];exact hz⟩,(Mod.refl S w).alloc _⟩;rw [hn];exact hb.alloc _
set_option maxRecDepth 100000 in
theorem alloc_yes (h:MemAt w p S size m) (hS:∀ x,S x→x<w.heap.size) (k:Nat) (hk0:0<k) (hk:(m.length:Int)+k≤size):Calls Tryz.prog 56 #[Pz p,Iv (k:Int)] w fun e w'=>e=.returned (.tuple #[Iv (m.length:Int),.int .u16 0])∧MemAt w' p (grow S w w') size (m++List.replicate k 0)∧Mod S w w':=by
 obtain⟨i0,hi0,hz0,hz1,hz2⟩:=info_parts info_i64;obtain⟨A,c,s,hb,hs,hp,hz⟩:=h;have hown:=(hs.off hb (by decide)).alloc (.cells #[.int .u16 0] 30);have hb1:=hb.alloc (.cells #[.int .u16 0] 30);obtain⟨n,hn⟩:∃ n,m.length=n:=⟨_,rfl⟩;rw [hn] at hk hb hz hb1 hown ⊢;have hc0:w.cell? ⟨p,0,none⟩=some (Iv size):=hb.cell 0;have hc1:w.cell? ⟨p,1,none⟩=some (.slice A n c):=hb.cell 1;have hf:=hb.frozen 1;have hw:IntKind.i64.wrap (size-(n:Int))=size-(n:Int):=IntWalk.i64_in _ (by omega);have hgt:¬ size-(n:Int)<(k:Int):=by omega
 have hplt:=hb.lt;have hk1:¬ ((k:Int)<0):=by omega
 have hk2:k≤1000:=by omega
 have hn2:n≤1000:=by omega
 have HN:=Lib.hid hn;have H63:=Lib.hid (show n+k≤maxLen by simp only [maxLen];omega);have HB:=Lib.hid (show (n+k)*8≤140737488355328 by omega);have HK:=Lib.hid hk2;have HZ:=Lib.hid hz;have HS:=Lib.hid hk;clear hn hk2 hn2 hz hk
 go_enter_defers Tryz.func56,Tryz.ntmps56
 go_wp2_with (at_builtin;refine wpList_zeros_sl rfl (.tmp 30) (.tmp 31) rfl i0 _ Tryz.underlying36 Tryz.underlying3 hi0 hz0 hz1 hz2 (by omega) rfl (by rfl) _ _ rfl hown rfl hk0 HK.out H63.out HB.out ?_;intro A' c' w1 hown1 hmod1;have hblk1:=hb1.mod hmod1 (by simp);have hc1:w1.cell? ⟨p,1,none⟩=some (.slice A n c):=hblk1.cell 1;have hf1:=hblk1.frozen 1;have hqb:=(Blk.new w 30 #[.int .u16 0]).mod hmod1 (fun h=>absurd (hS _ h.1) (Nat.lt_irrefl _));have hq1:w1.cell? ⟨w.heap.size,0,none⟩=some (.int .u16 0):=hqb.cell 0;have hqf:=hqb.frozen 0);have hplt1:p≠w.heap.size:=by omega
 have hb2:Blk ((w1.setCell ⟨p,1,none⟩ (.slice A' (n+k) c')).setCell ⟨w.heap.size,0,none⟩ (.int .u16 0)) p 112 #[Iv size,.slice A' (n+k) c',Iv s]:=(hblk1.set 1 _).far (p:=⟨w.heap.size,0,none⟩) hplt1 _;have hq2:Blk ((w1.setCell ⟨p,1,none⟩ (.slice A' (n+k) c')).setCell ⟨w.heap.size,0,none⟩ (.int .u16 0)) w.heap.size 30 #[.int .u16 0]:=(hqb.far (p:=⟨p,1,none⟩) (fun h=>hplt1 h.symm) _).set 0 _;have hs2:=(hown1.farT (p:=⟨p,1,none⟩) hblk1 (by decide) (.slice A' (n+k) c')).farT (p:=⟨w.heap.size,0,none⟩) (hqb.far (p:=⟨p,1,none⟩) (fun h=>hplt1 h.symm) _) (by decide) (.int .u16 0);have hm2:Mod S w ((w1.setCell ⟨p,1,none⟩ (.slice A' (n+k) c')).setCell ⟨w.heap.size,0,none⟩ (.int .u16 0)):=((((Mod.refl S w).alloc (.cells #[.int .u16 0] 30)).trans hmod1 fun b hb=>.inl hb.1).setCell (.inl hp) _).setCell (.inr (Nat.le_refl _)) _;have hz2:((w1.setCell ⟨p,1,none⟩ (.slice A' (n+k) c')).setCell ⟨w.heap.size,0,none⟩ (.int .u16 0)).heap.size=w1.heap.size:=by simp [World.setCell]
 generalize (w1.setCell ⟨p,1,none⟩ (.slice A' (n+k) c')).setCell ⟨w.heap.size,0,none⟩ (.int .u16 0)=w2 at*;refine leaves_cons (f:=93) (args:=#[Pz p,Pz w.heap.size]) (by simp) (by simp [go_sem]) ?_;refine(count_d _ p _ s _ (hq2.cell 0) (hb2.cell 2) (hb2.frozen 2)).mono ?_;rintro e u' w3 ⟨rfl,rfl,rfl⟩;have hr:w2.cell? ⟨w.heap.size,0,none⟩=some (.int .u16 0):=hq2.cell 0;have hlen:(m++List.replicate k (0:Int)).length=n+k:=by rw [List.length_append,HN.out,List.length_replicate]
 have hz3:(w2.setCell ⟨p,2,none⟩ (Iv (wrap64 (s+1)))).heap.size=w2.heap.size:=by simp [World.setCell]
 refine⟨.tuple #[Iv (n:Int),.int .u16 0],by simp [results,Tryz.results56,go_sem,hr,hplt1.symm],rfl,⟨A',c',_,by rw [hlen];exact hb2.set 2 _,?_,.inl hp,by rw [hlen];have:=HZ.out;have:=HS.out;omega⟩,hm2.setCell (.inl hp) _⟩;rw [hlen];have hs3:=hs2.farT (p:=⟨p,2,none⟩) hb2 (by decide) (Iv (wrap64 (s+1)));rw [show i64s (m++List.replicate k 0)=i64s m++List.replicate k (Value.int IntKind.i64 0) from by simp [i64s]];refine hs3.mono fun b hb=>?_
 rcases hb with hb | hb
 ·exact .inl hb.1
 ·exact .inr ⟨by have:=hb.1;simp at this;omega,by rw [hz3,hz2];exact hb.2⟩
end
theorem one_i64s (m:List Int):∀ u∈i64s m,u.oneCell'=true:=by intro u hu;obtain⟨x,_,rfl⟩:=List.mem_map.1 hu;rfl
section
variable {w w':World} {p:Nat} {S T:Nat→Prop} {size:Int} {m:List Int}
theorem cells_any (h:MemAt w p S size m):Calls Tryz.prog 22 #[Pz p] w (NewSl w 2 1 m.length (i64s m)):=by
 obtain⟨A,c,s,hb,hs,hp,hz⟩:=h;have hc:w.cell? ⟨p,1,none⟩=some (.slice A m.length c):=hb.cell 1;have hcl:=cloneI64 w A m.length c _ (i64s m) hs.rd hs.none_ (one_i64s m) (by omega);clear hz;go_enter Tryz.func22,Tryz.ntmps22;go_wp2_with (go_at_call 49;refine hcl.mono ?_;rintro e w1 ⟨A1,c1,rfl,hs1,hb1⟩);go_ret;exact⟨A1,c1,rfl,hs1,hb1⟩
theorem top_any (h:MemAt w p S size m):Calls Tryz.prog 95 #[Pz p] w fun e w'=>e=.returned (Iv (m.length:Int))∧Below w.heap.size w w':=by
 have hc:=cells_any h;obtain⟨n,hn⟩:∃ n,m.length=n:=⟨_,rfl⟩;rw [hn] at hc ⊢;clear hn h;go_enter Tryz.func95,Tryz.ntmps95;go_wp2_with (go_at_call 22;refine hc.mono ?_;rintro e w1 ⟨A1,c1,rfl,hs1,hb1⟩);go_ret;exact⟨rfl,hb1⟩
theorem new_mem (w:World) (k:Nat) (hk0:0<k) (hk:k≤1000):Calls Tryz.prog 54 #[Iv (k:Int)] w fun e w'=>e=.returned (Pz w.heap.size)∧w'=w.alloc (.cells #[Iv (k:Int),.slice none 0 0,Iv 0] 112):=by
 go_enter Tryz.func54,Tryz.ntmps54;go_wp2;go_ret;exact⟨rfl,rfl⟩
theorem copy_any (h:MemAt w p S size m):Calls Tryz.prog 48 #[Pz p] w fun e w'=>∃ q,e=.returned (Pz q)∧MemAt w' q (fun b=>w.heap.size≤b∧b<w'.heap.size) size m∧Below w.heap.size w w':=by
 obtain⟨A,c,s,hb,hs,hp,hz⟩:=h;have c0:w.cell? ⟨p,0,none⟩=some (Iv size):=hb.cell 0;have c1:w.cell? ⟨p,1,none⟩=some (.slice A m.length c):=hb.cell 1;have c2:w.cell? ⟨p,2,none⟩=some (Iv s):=hb.cell 2;have hlt:=hb.lt;have hcl:=cloneI64 w.drew A m.length c S (i64s m) (Sl.rd hs) hs.none_ (one_i64s m) (by omega);have HZ:=Lib.hid hz;obtain⟨n,hn⟩:∃ n,m.length=n:=⟨_,rfl⟩;rw [hn] at c1 hcl;have HN:=Lib.hid hn;clear hz hs hn hb;go_enter Tryz.func48,Tryz.ntmps48;go_wp2_with fail
 go_region_held3 (fun w'=>w'.cell? ⟨p,0,none⟩=some (Iv size)∧w'.cell? ⟨p,1,none⟩=some (.slice A n c)∧w'.cell? ⟨p,2,none⟩=some (Iv s)) (first | (refine ⟨?_,?_,?_⟩<;>assumption) | go_keep) (first
  | (go_at_call 49;((with_reducible refine hcl.mono ?_);rintro e w6 ⟨A6,c6,rfl,hs6,hb6⟩;have c0:w6.cell? ⟨p,0,none⟩=some (Iv size):=(hb6.cell (p:=⟨p,0,none⟩) hlt).trans c0;have c1:w6.cell? ⟨p,1,none⟩=some (.slice A n c):=(hb6.cell (p:=⟨p,1,none⟩) hlt).trans c1;have c2:w6.cell? ⟨p,2,none⟩=some (Iv s):=(hb6.cell (p:=⟨p,2,none⟩) hlt).trans c2)))
 go_wp2_with fail;go_ret;have hz:w.heap.size≤w6.heap.size:=hb6.size;have hs7:=(hs6.mono (T:=fun b=>w.heap.size≤b∧b<w6.heap.size+1) fun b hb=>⟨hb.1,by have:=hb.2;omega⟩).alloc (.cells #[Iv size,.slice A6 n c6,Iv s] 112);refine⟨w6.heap.size,rfl,⟨A6,c6,s,?_,by rw [HN.out];simpa using hs7,⟨hz,by simp⟩,HZ.out⟩,?_⟩
 ·rw [HN.out];exact Blk.new _ _ _
 ·exact(((Below.refl _ w).drew).trans (hb6.mono (Nat.le_refl _))).alloc hz _
end
section
variable {B p:Nat} {w:World} {size:Int} {m:List Int} {L:List Res}
abbrev celR (A:Option Addr) (n c:Nat) (m:List Int):Res:=slRes 2 1 A n c (i64s m)
theorem cells_s (hB:B≤w.heap.size) (h:At B w (memR p size m::L)):Calls Tryz.prog 22 #[Pz p] w fun e w'=>∃ A c,e=.returned (.slice A m.length c)∧At B w' (celR A m.length c m::memR p size m::L)∧Below B w w':=
 (cells_any (h.get)).mono fun e w' ⟨A,c,he,hs,hb⟩=>⟨A,c,he,h.made (fun x hx=>Nat.le_trans hB hx) hb hs,hb.mono hB⟩
theorem top_s (hB:B≤w.heap.size) (h:At B w (memR p size m::L)):Calls Tryz.prog 95 #[Pz p] w fun e w'=>e=.returned (Iv (m.length:Int))∧At B w' (memR p size m::L)∧Below B w w':=
 (top_any (h.get)).mono fun e w' ⟨he,hb⟩=>⟨he,h.keep hb,hb.mono hB⟩
theorem copy_s (hB:B≤w.heap.size) (h:At B w (memR p size m::L)):Calls Tryz.prog 48 #[Pz p] w fun e w'=>∃ q,e=.returned (Pz q)∧At B w' (memR q size m::memR p size m::L)∧Below B w w':=
 (copy_any (h.get)).mono fun e w' ⟨q,he,hs,hb⟩=>⟨q,he,h.made (fun x hx=>Nat.le_trans hB hx) hb hs,hb.mono hB⟩
theorem newmem_s (hB:B≤w.heap.size) (h:At B w L) (k:Nat) (hk0:0<k) (hk:k≤1000):Calls Tryz.prog 54 #[Iv (k:Int)] w fun e w'=>∃ q,e=.returned (Pz q)∧At B w' (memR q k []::L)∧Below B w w':=
 (new_mem w k hk0 hk).mono fun e w' ⟨he,hw⟩=>by
  subst hw;have hb:Below w.heap.size w (w.alloc (.cells #[Iv (k:Int),.slice none 0 0,Iv 0] 112)):=(Below.refl _ w).alloc (Nat.le_refl _) _;exact⟨_,he,h.made (fun x hx=>Nat.le_trans hB hx) hb ⟨none,0,0,Blk.new _ _ _,Sl.nil _ _ _ _,⟨Nat.le_refl _,by simp⟩,by simp,by omega⟩,hb.mono hB⟩
def more (size:Int) (m:List Int) (k:Nat):List Int:=if(m.length:Int)+k≤size then m++List.replicate k 0 else m
theorem alloc_s (hB:B≤w.heap.size) (h:At B w (memR p size m::L)) (k:Nat) (hk:0<k):Calls Tryz.prog 56 #[Pz p,Iv (k:Int)] w fun e w'=>e=.returned (.tuple #[Iv (if (m.length:Int)+k≤size then(m.length:Int) else 0),.int .u16 (if (m.length:Int)+k≤size then 0 else 11)])∧At B w' (memR p size (more size m k)::L)∧Below B w w':=
 h.step hB fun S hlt hS=>by
  unfold more
  by_cases hc:(m.length:Int)+k≤size
  ·simp only [if_pos hc];exact alloc_yes hS hlt k hk hc
  ·simp only [if_neg hc];exact alloc_no hS k (by omega)
end
open Go.RowKit Go.Rp
def pk (k v:Int):Int:=(v+2147483648)*256+k+1
abbrev two8 (k v:Int):Value:=.agg #[Ub k,Iw v]
structure In8 (k v:Int):Prop where
 k0:0≤k
 k1:k≤255
 v0: -2147483648≤v
 v1:v≤2147483647
def unK (x:Int):Int:=if x<1∨1099511627776<x then 0 else(x-1)%256
def unV (x:Int):Int:=if x<1∨1099511627776<x then 0 else(x-1)/256-2147483648
theorem pk_pos {k v:Int} (h:In8 k v):0<pk k v∧pk k v≤1099511627776:=by obtain⟨h1,h2,h3,h4⟩:=h;unfold pk;omega
theorem un_in (x:Int):In8 (unK x) (unV x):=by
 unfold unK unV
 constructor<;>split<;>omega
theorem pack_any (w:World) (k v:Int) (h:In8 k v):Calls Tryz.prog 115 #[Ub k,Iw v] w fun e w'=>e=.returned (Iv (pk k v))∧w=w':=by
 obtain⟨h0,h1,h2,h3⟩:=h;have e1:IntKind.i64.wrap v=v:=IntWalk.i64_in _ (by omega);have e2:IntKind.i64.wrap (v+2147483648)=v+2147483648:=IntWalk.i64_in _ (by omega);have e3:IntKind.i64.wrap ((v+2147483648)*256)=(v+2147483648)*256:=IntWalk.i64_in _ (by omega);have e4:IntKind.i64.wrap k=k:=IntWalk.i64_in _ (by omega);have e5:IntKind.i64.wrap ((v+2147483648)*256+k)=(v+2147483648)*256+k:=IntWalk.i64_in _ (by omega);have e6:IntKind.i64.wrap ((v+2147483648)*256+k+1)=(v+2147483648)*256+k+1:=IntWalk.i64_in _ (by omega);go_enter Tryz.func115,Tryz.ntmps115;go_wp2;go_ret;exact⟨by unfold pk;rfl,rfl⟩
theorem op_any (w:World) (k v:Int) (h:In8 k v):Calls Tryz.prog 107 #[two8 k v] w fun e w'=>e=.returned (Iv (pk k v))∧Below w.heap.size w w':=by
 have hp:=fun w1=>pack_any w1 k v h;go_enter Tryz.func107,Tryz.ntmps107;go_wp2_with fail;refine(hp _).mono ?_;rintro e w1 ⟨rfl,rfl⟩;go_wp2_with fail;go_ret;exact⟨rfl,(Below.refl _ _).alloc (Nat.le_refl _) _⟩
theorem res_any (w:World) (k v:Int) (h:In8 k v):Calls Tryz.prog 181 #[two8 k v] w fun e w'=>e=.returned (Iv (pk k v))∧Below w.heap.size w w':=by
 have hp:=fun w1=>pack_any w1 k v h;go_enter Tryz.func181,Tryz.ntmps181;go_wp2_with fail;refine(hp _).mono ?_;rintro e w1 ⟨rfl,rfl⟩;go_wp2_with fail;go_ret;exact⟨rfl,(Below.refl _ _).alloc (Nat.le_refl _) _⟩
theorem asks_any (w:World) (x:Int):Calls Tryz.prog 114 #[Iv x] w fun e w'=>e=.returned (.bool (decide (0<x)))∧w=w':=by
 go_enter Tryz.func114,Tryz.ntmps114;go_wp2;go_ret;exact⟨rfl,rfl⟩
theorem ofOp1_any (w:World) (k v:Int):Calls Tryz.prog 165 #[Ub k,Iw v] w fun e w'=>e=.returned (two8 k v)∧Below w.heap.size w w':=by
 go_enter Tryz.func165,Tryz.ntmps165;go_wp2_with fail
 go_returns
 exact⟨rfl,(Below.refl _ _).alloc (Nat.le_refl _) _⟩
theorem ofRes1_any (w:World) (k v:Int):Calls Tryz.prog 171 #[Ub k,Iw v] w fun e w'=>e=.returned (two8 k v)∧Below w.heap.size w w':=by
 go_enter Tryz.func171,Tryz.ntmps171;go_wp2_with fail
 go_returns
 exact⟨rfl,(Below.refl _ _).alloc (Nat.le_refl _) _⟩
theorem unOp_any (w:World) (x:Int):Calls Tryz.prog 164 #[Iv x,.func (.func 165) #[] #[]] w fun e w'=>e=.returned (.tuple #[two8 (unK x) (unV x),.bool (decide (1≤x∧x≤1099511627776))])∧Below w.heap.size w w':=by
 have h1:=fun w1 k v=>ofOp1_any w1 k v
 by_cases hx:x<1
 ·have e1:unK x=0:=by unfold unK;rw [if_pos (.inl hx)]
  have e2:unV x=0:=by unfold unV;rw [if_pos (.inl hx)]
  have e3:decide (1≤x∧x≤1099511627776)=false:=by rw [decide_eq_false_iff_not];omega
  rw [e1,e2,e3];go_enter Tryz.func164,Tryz.ntmps164;go_wp2_with fail
  go_returns
  exact⟨rfl,((Below.refl _ _).alloc (Nat.le_refl _) _).alloc (by simp) _⟩
 by_cases hy:1099511627776<x
 ·have e1:unK x=0:=by unfold unK;rw [if_pos (.inr hy)]
  have e2:unV x=0:=by unfold unV;rw [if_pos (.inr hy)]
  have e3:decide (1≤x∧x≤1099511627776)=false:=by rw [decide_eq_false_iff_not];omega
  rw [e1,e2,e3];go_enter Tryz.func164,Tryz.ntmps164;go_wp2_with fail
  go_returns
  exact⟨rfl,((Below.refl _ _).alloc (Nat.le_refl _) _).alloc (by simp) _⟩
 ·have e0:unK x=(x-1)%256:=by unfold unK;rw [if_neg (by omega)]
  have e0':unV x=(x-1)/256-2147483648:=by unfold unV;rw [if_neg (by omega)]
  have e3:decide (1≤x∧x≤1099511627776)=true:=by rw [decide_eq_true_eq];omega
  rw [e0,e0',e3];obtain⟨y,rfl⟩:∃ y:Int,x=y+1:=⟨x-1,by omega⟩;simp only [Int.add_sub_cancel];have f1:IntKind.i64.wrap (y+1-1)=y:=by rw [Int.add_sub_cancel];exact IntWalk.i64_in _ (by omega)
  have f2:y.tmod 256=y%256:=Int.tmod_eq_emod_of_nonneg (by omega);have f3:y.tdiv 256=y/256:=Int.tdiv_eq_ediv_of_nonneg (by omega);clear e0 e0' e3;go_enter Tryz.func164,Tryz.ntmps164;go_wp2_with fail;refine(h1 _ _ _).mono ?_;rintro e w1 ⟨rfl,b1⟩;have hb:Blk w1 w.heap.size 45 #[Ub 0,Iw 0]:=(Blk.new w 45 #[Ub 0,Iw 0]).below b1 (by simp);have hz:=b1.size;simp only [World.size_alloc] at hz;have k0:w1.cell? ⟨w.heap.size,0,none⟩=some (Ub 0):=hb.cell 0;have k1:w1.cell? ⟨w.heap.size,1,none⟩=some (Iw 0):=hb.cell 1;have q0:=hb.frozen 0;have q1:=hb.frozen 1;go_wp2_with fail;have hb2:=(hb.set 0 (Ub (y%256))).set 1 (Iw (y/256-2147483648))
  have bz:Below w.heap.size w ((w1.setCell ⟨w.heap.size,0,none⟩ (Ub (y%256))).setCell ⟨w.heap.size,1,none⟩ (Iw (y/256-2147483648))):=
   ((((Below.refl _ w).alloc (Nat.le_refl _) _).trans (b1.mono (by simp))).setCell (Nat.le_refl _) _).setCell (Nat.le_refl _) _
  generalize (w1.setCell ⟨w.heap.size,0,none⟩ (Ub (y%256))).setCell ⟨w.heap.size,1,none⟩ (Iw (y/256-2147483648))=w2 at*;have r0:w2.cell? ⟨w.heap.size,0,none⟩=some (Ub (y%256)):=hb2.cell 0;have r1:w2.cell? ⟨w.heap.size,1,none⟩=some (Iw (y/256-2147483648)):=hb2.cell 1;refine bodyPost_ret (v:=.tuple #[two8 (y%256) (y/256-2147483648),.bool true]) (by simp [results,Tryz.results164,go_sem,r0,r1]) rfl ?_;exact⟨rfl,bz⟩
theorem unRes_any (w:World) (x:Int):Calls Tryz.prog 170 #[Iv x,.func (.func 171) #[] #[]] w fun e w'=>e=.returned (.tuple #[two8 (unK x) (unV x),.bool (decide (1≤x∧x≤1099511627776))])∧Below w.heap.size w w':=by
 have h1:=fun w1 k v=>ofRes1_any w1 k v
 by_cases hx:x<1
 ·have e1:unK x=0:=by unfold unK;rw [if_pos (.inl hx)]
  have e2:unV x=0:=by unfold unV;rw [if_pos (.inl hx)]
  have e3:decide (1≤x∧x≤1099511627776)=false:=by rw [decide_eq_false_iff_not];omega
  rw [e1,e2,e3];go_enter Tryz.func170,Tryz.ntmps170;go_wp2_with fail
  go_returns
  exact⟨rfl,((Below.refl _ _).alloc (Nat.le_refl _) _).alloc (by simp) _⟩
 by_cases hy:1099511627776<x
 ·have e1:unK x=0:=by unfold unK;rw [if_pos (.inr hy)]
  have e2:unV x=0:=by unfold unV;rw [if_pos (.inr hy)]
  have e3:decide (1≤x∧x≤1099511627776)=false:=by rw [decide_eq_false_iff_not];omega
  rw [e1,e2,e3];go_enter Tryz.func170,Tryz.ntmps170;go_wp2_with fail
  go_returns
  exact⟨rfl,((Below.refl _ _).alloc (Nat.le_refl _) _).alloc (by simp) _⟩
 ·have e0:unK x=(x-1)%256:=by unfold unK;rw [if_neg (by omega)]
  have e0':unV x=(x-1)/256-2147483648:=by unfold unV;rw [if_neg (by omega)]
  have e3:decide (1≤x∧x≤1099511627776)=true:=by rw [decide_eq_true_eq];omega
  rw [e0,e0',e3];obtain⟨y,rfl⟩:∃ y:Int,x=y+1:=⟨x-1,by omega⟩;simp only [Int.add_sub_cancel];have f1:IntKind.i64.wrap (y+1-1)=y:=by rw [Int.add_sub_cancel];exact IntWalk.i64_in _ (by omega)
  have f2:y.tmod 256=y%256:=Int.tmod_eq_emod_of_nonneg (by omega);have f3:y.tdiv 256=y/256:=Int.tdiv_eq_ediv_of_nonneg (by omega);clear e0 e0' e3;go_enter Tryz.func170,Tryz.ntmps170;go_wp2_with fail;refine(h1 _ _ _).mono ?_;rintro e w1 ⟨rfl,b1⟩;have hb:Blk w1 w.heap.size 47 #[Ub 0,Iw 0]:=(Blk.new w 47 #[Ub 0,Iw 0]).below b1 (by simp);have hz:=b1.size;simp only [World.size_alloc] at hz;have k0:w1.cell? ⟨w.heap.size,0,none⟩=some (Ub 0):=hb.cell 0;have k1:w1.cell? ⟨w.heap.size,1,none⟩=some (Iw 0):=hb.cell 1;have q0:=hb.frozen 0;have q1:=hb.frozen 1;go_wp2_with fail;have hb2:=(hb.set 0 (Ub (y%256))).set 1 (Iw (y/256-2147483648))
  have bz:Below w.heap.size w ((w1.setCell ⟨w.heap.size,0,none⟩ (Ub (y%256))).setCell ⟨w.heap.size,1,none⟩ (Iw (y/256-2147483648))):=
   ((((Below.refl _ w).alloc (Nat.le_refl _) _).trans (b1.mono (by simp))).setCell (Nat.le_refl _) _).setCell (Nat.le_refl _) _
  generalize (w1.setCell ⟨w.heap.size,0,none⟩ (Ub (y%256))).setCell ⟨w.heap.size,1,none⟩ (Iw (y/256-2147483648))=w2 at*;have r0:w2.cell? ⟨w.heap.size,0,none⟩=some (Ub (y%256)):=hb2.cell 0;have r1:w2.cell? ⟨w.heap.size,1,none⟩=some (Iw (y/256-2147483648)):=hb2.cell 1;refine bodyPost_ret (v:=.tuple #[two8 (y%256) (y/256-2147483648),.bool true]) (by simp [results,Tryz.results170,go_sem,r0,r1]) rfl ?_;exact⟨rfl,bz⟩
theorem ofOp_any (w:World) (x:Int):Calls Tryz.prog 118 #[Iv x] w fun e w'=>e=.returned (.tuple #[two8 (unK x) (unV x),.bool (decide (1≤x∧x≤1099511627776))])∧Below w.heap.size w w':=by
 have h1:=fun w1=>unOp_any w1 x;generalize decide (1≤x∧x≤1099511627776)=bb at*;generalize unK x=kk at*;generalize unV x=vv at*;go_enter Tryz.func118,Tryz.ntmps118;go_wp2_with fail;refine(h1 _).mono ?_;rintro e w1 ⟨rfl,b1⟩;have hb:Blk w1 w.heap.size 45 #[Ub 0,Iw 0]:=(Blk.new w 45 #[Ub 0,Iw 0]).below b1 (by simp);have hz:=b1.size;simp only [World.size_alloc] at hz;have k0:w1.cell? ⟨w.heap.size,0,none⟩=some (Ub 0):=hb.cell 0;have k1:w1.cell? ⟨w.heap.size,1,none⟩=some (Iw 0):=hb.cell 1;have q0:=hb.frozen 0;have q1:=hb.frozen 1;go_wp2_with fail;have hb2:=(hb.set 0 (Ub kk)).set 1 (Iw vv)
 have bz:Below w.heap.size w ((w1.setCell ⟨w.heap.size,0,none⟩ (Ub kk)).setCell ⟨w.heap.size,1,none⟩ (Iw vv)):=
  ((((Below.refl _ w).alloc (Nat.le_refl _) _).trans (b1.mono (by simp))).setCell (Nat.le_refl _) _).setCell (Nat.le_refl _) _
 generalize (w1.setCell ⟨w.heap.size,0,none⟩ (Ub kk)).setCell ⟨w.heap.size,1,none⟩ (Iw vv)=w2 at*;have r0:w2.cell? ⟨w.heap.size,0,none⟩=some (Ub kk):=hb2.cell 0;have r1:w2.cell? ⟨w.heap.size,1,none⟩=some (Iw vv):=hb2.cell 1;refine bodyPost_ret (v:=.tuple #[two8 kk vv,.bool bb]) (by simp [results,Tryz.results118,go_sem,r0,r1]) rfl ?_;exact⟨rfl,bz⟩
theorem ofRes_any (w:World) (x:Int):Calls Tryz.prog 120 #[Iv x] w fun e w'=>e=.returned (.tuple #[two8 (unK x) (unV x),.bool (decide (1≤x∧x≤1099511627776))])∧Below w.heap.size w w':=by
 have h1:=fun w1=>unRes_any w1 x;generalize decide (1≤x∧x≤1099511627776)=bb at*;generalize unK x=kk at*;generalize unV x=vv at*;go_enter Tryz.func120,Tryz.ntmps120;go_wp2_with fail;refine(h1 _).mono ?_;rintro e w1 ⟨rfl,b1⟩;have hb:Blk w1 w.heap.size 47 #[Ub 0,Iw 0]:=(Blk.new w 47 #[Ub 0,Iw 0]).below b1 (by simp);have hz:=b1.size;simp only [World.size_alloc] at hz;have k0:w1.cell? ⟨w.heap.size,0,none⟩=some (Ub 0):=hb.cell 0;have k1:w1.cell? ⟨w.heap.size,1,none⟩=some (Iw 0):=hb.cell 1;have q0:=hb.frozen 0;have q1:=hb.frozen 1;go_wp2_with fail;have hb2:=(hb.set 0 (Ub kk)).set 1 (Iw vv)
 have bz:Below w.heap.size w ((w1.setCell ⟨w.heap.size,0,none⟩ (Ub kk)).setCell ⟨w.heap.size,1,none⟩ (Iw vv)):=
  ((((Below.refl _ w).alloc (Nat.le_refl _) _).trans (b1.mono (by simp))).setCell (Nat.le_refl _) _).setCell (Nat.le_refl _) _
 generalize (w1.setCell ⟨w.heap.size,0,none⟩ (Ub kk)).setCell ⟨w.heap.size,1,none⟩ (Iw vv)=w2 at*;have r0:w2.cell? ⟨w.heap.size,0,none⟩=some (Ub kk):=hb2.cell 0;have r1:w2.cell? ⟨w.heap.size,1,none⟩=some (Iw vv):=hb2.cell 1;refine bodyPost_ret (v:=.tuple #[two8 kk vv,.bool bb]) (by simp [results,Tryz.results120,go_sem,r0,r1]) rfl ?_;exact⟨rfl,bz⟩
theorem base_any (w:World) (k:Int):Calls Tryz.prog 55 #[Iv k] w fun e w'=>e=.returned (Iv (base k))∧w=w':=by
 by_cases h0:k<0
 ·have e:base k=0:=by unfold base;rw [if_pos (.inl h0)]
  rw [e];go_enter Tryz.func55,Tryz.ntmps55;go_wp2;go_ret;exact⟨rfl,rfl⟩
 by_cases h1:1000<k
 ·have e:base k=0:=by unfold base;rw [if_pos (.inr h1)]
  rw [e];go_enter Tryz.func55,Tryz.ntmps55;go_wp2;go_ret;exact⟨rfl,rfl⟩
 ·have e:base k=3+5*k:=by unfold base;rw [if_neg (by omega)]
  rw [e];have e1:IntKind.i64.wrap (5*k)=5*k:=IntWalk.i64_in _ (by omega);have e2:IntKind.i64.wrap (3+5*k)=3+5*k:=IntWalk.i64_in _ (by omega);clear e;go_enter Tryz.func55,Tryz.ntmps55;go_wp2;go_ret;exact⟨rfl,rfl⟩
theorem waits_any (w:World) (r a g n t:Int):Calls Tryz.prog 101 #[.agg #[Iv r,Iv a,Iv g,Iv n,Iv t]] w fun e w'=>e=.returned (.bool (decide (0<r)))∧Below w.heap.size w w':=by
 have hp:=fun w1=>asks_any w1 r;go_enter Tryz.func101,Tryz.ntmps101;go_wp2_with fail;refine(hp _).mono ?_;rintro e w1 ⟨rfl,rfl⟩;go_wp2_with fail;go_ret;exact⟨rfl,(Below.refl _ _).alloc (Nat.le_refl _) _⟩
section
variable {B p:Nat} {w:World} {size:Int} {m:List Int} {L:List Res}
theorem mem_len (h:At B w (memR p size m::L)):(m.length:Int)≤size∧size≤1000:=by
 obtain⟨S,_,⟨A,c,s,_,_,_,h⟩,_⟩:=h;exact h
theorem many_s (hB:B≤w.heap.size) (h:At B w (memR p size m::L)):Calls Tryz.prog 69 #[Pz p] w fun e w'=>e=.returned (Iv (manyOf m))∧At B w' (memR p size m::L)∧Below B w w':=by
 have hl:=mem_len h;have ht:=top_s hB h;unfold manyOf;obtain⟨n,hn⟩:∃ n:Nat,m.length=n:=⟨_,rfl⟩;rw [hn] at hl ht ⊢;have e0:IntKind.i64.wrap ((n:Int)-3)=(n:Int)-3:=IntWalk.i64_in _ (by omega);have e1:(max 0 ((n:Int)-3)).tdiv 5=(max 0 ((n:Int)-3))/5:=Int.tdiv_eq_ediv_of_nonneg (by omega);have e2:IntKind.i64.wrap (max 0 ((n:Int)-3)/5)=max 0 ((n:Int)-3)/5:=IntWalk.i64_in _ (by omega);have hmx:∀ x y:Int,(if x<y then y else x)=max x y:=fun x y=>by omega
 have hl':=Lib.hid hl;clear hn hl
 by_cases h3:(n:Int)-3≤0
 ·have e3:max 0 ((n:Int)-3)=0:=by omega
  rw [e3] at*;go_enter Tryz.func69,Tryz.ntmps69;go_wp2_with fail;refine(ht).mono ?_;rintro e w1 ⟨rfl,s1,b1⟩;go_wp2_with fail;go_ret;exact⟨rfl,s1,b1⟩
 ·have e3:max 0 ((n:Int)-3)=(n:Int)-3:=by omega
  rw [e3] at*;go_enter Tryz.func69,Tryz.ntmps69;go_wp2_with fail;refine(ht).mono ?_;rintro e w1 ⟨rfl,s1,b1⟩;go_wp2_with fail;go_ret;refine⟨?_,s1,b1⟩;show Ending.returned (Iv (wrap64 (((n:Int)-3).tdiv 5)))=_;rw [show wrap64 (((n:Int)-3).tdiv 5)=((n:Int)-3)/5 from by rw [Int.tdiv_eq_ediv_of_nonneg (by omega)];exact IntWalk.wrap64_in (((n:Int)-3)/5) (by have:=hl'.out;clear e0 e1 e2;omega)]
theorem open_s (hB:B≤w.heap.size) (h:At B w L) (n:Nat) (h0:1≤n) (h1:n≤64):Calls Tryz.prog 27 #[Iv (n:Int)] w fun e w'=>∃ q,e=.returned (Pz q)∧At B w' (memR q (3+5*(n:Int)) [0,0,0]::L)∧Below B w w':=by
 have hb:∀ w1,Calls Tryz.prog 55 #[Iv (n:Int)] w1 fun e w'=>e=.returned (Iv ((3+5*n:Nat):Int))∧w1=w':=fun w1=>by
  have:=base_any w1 (n:Int)
  rwa [show base (n:Int)=((3+5*n:Nat):Int) by unfold base;rw [if_neg (by omega)];omega] at this
 have hn:=newmem_s hB h (3+5*n) (by omega) (by omega);have ha:=fun(q:Nat) (w1:World) (b1:Below B w w1) (h1:At B w1 (memR q ((3+5*n:Nat):Int) []::L))=>alloc_s (Nat.le_trans hB b1.size) h1 3 (by omega);have e3:more ((3+5*n:Nat):Int) [] 3=[0,0,0]:=by unfold more;rw [if_pos (by simp;omega)];rfl
 have e4:((3+5*n:Nat):Int)=3+5*(n:Int):=by omega
 simp only [e3] at ha;have h2:¬ (n:Int)<1:=by omega
 have h3:¬ (64:Int)<(n:Int):=by omega
 rw [e4] at*;clear h0 h1 e3 e4;go_enter Tryz.func27,Tryz.ntmps27;go_wp2_with fail;refine(hb _).mono ?_;rintro e w1 ⟨rfl,rfl⟩;go_wp2_with fail;refine hn.mono ?_;rintro e w2 ⟨q,rfl,s2,b2⟩;go_wp2_with fail;refine(ha q w2 b2 s2).mono ?_;rintro e w3 ⟨rfl,s3,b3⟩;go_wp2_with fail;go_ret;exact⟨q,rfl,s3,b2.trans b3⟩
end
theorem lock_s {B p:Nat} {w:World} {size:Int} {m:List Int} {L:List Res} (hB:B≤w.heap.size) (h:At B w (memR p size m::L)):
  Calls Tryz.prog 36 #[Pz p] w fun e w'=>e=.returned (Iv (ld m 0))∧At B w' (memR p size m::L)∧Below B w w':=by
 have hl:=load_s hB h 0;generalize (if inb m 0 then(0:Int) else 10)=er at hl;generalize ld m 0=x at*;go_enter Tryz.func36,Tryz.ntmps36;go_wp2_with fail;refine hl.mono ?_;rintro e w1 ⟨rfl,s1,b1⟩;go_wp2_with fail;go_ret;exact⟨rfl,s1,b1⟩
def whenI (b:Bool) (e:Int):Int:=if b then e else 0
theorem when_any (w:World) (b:Bool) (x:Int):Calls Tryz.prog 68 #[.bool b,.int .u16 x] w fun e w'=>e=.returned (.int .u16 (whenI b x))∧w=w':=by
 cases b
 ·go_enter Tryz.func68,Tryz.ntmps68;go_wp2;go_ret;exact⟨rfl,rfl⟩
 ·go_enter Tryz.func68,Tryz.ntmps68;go_wp2;go_ret;exact⟨rfl,rfl⟩
theorem nth_in {B p:Nat} {w:World} {size:Int} {m:List Int} {L:List Res} (hB:B≤w.heap.size) {k:Nat} (hk:(k:Int)<manyOf m) (hb:k≤100000) (h:At B w (memR p size m::L)):
  Calls Tryz.prog 126 #[Pz p,Iv (3+5*(k:Int))] w fun e w'=>e=.returned (.tuple #[Iv (k:Int),.bool true])∧At B w' (memR p size m::L)∧Below B w w':=by
 have hm:=many_s hB h;have e1:IntKind.i64.wrap (3+5*(k:Int)-3)=5*(k:Int):=by rw [IntKind.wrap_i64];omega
 have e2:(5*(k:Int)).tdiv 5=(k:Int):=by rw [Int.tdiv_eq_ediv_of_nonneg (by omega)];omega
 have e3:(5*(k:Int)).tmod 5=0:=by rw [Int.tmod_eq_emod_of_nonneg (by omega)];omega
 have e4:IntKind.i64.wrap (k:Int)=(k:Int):=by rw [IntKind.wrap_i64];omega
 have d1:decide (3+5*(k:Int)<3)=false:=by simp;omega
 have d2:decide (manyOf m≤(k:Int))=false:=by simp;omega
 generalize manyOf m=M at*;generalize hx:3+5*(k:Int)=x at*;clear hx hk hb;go_enter Tryz.func126,Tryz.ntmps126;go_wp2_with fail;refine hm.mono ?_;rintro e w1 ⟨rfl,s1,b1⟩;go_wp2_with fail
 go_ret2
 exact⟨rfl,s1,b1⟩
end Go.Proofs.YtadgbhjpgnlmoaaGreat
