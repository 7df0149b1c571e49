/- TopSafe, a part of its proof; no conditions. -/
import Derived.Test.YtadgbhjpgnlmoaaGreatPk48
set_option linter.all false
namespace Go.Proofs.YtadgbhjpgnlmoaaGreat
open Go.RowKit Go.Rp Go.Sf
set_option maxRecDepth 100000
section
variable {A:Option Addr} {n c:Nat} {xs:List Int} {R:Nat→Prop} {B:Nat} {L:List Res}
set_option maxHeartbeats 4000000 in
theorem Script_s (w:World) (t:Nat) (ht1:1≤t) (ht9:t≤9) (hn:n≤1000) (hB:B≤w.heap.size) (h:At B w L) (hr:∀ W,Below B w W→Rd W R 1 A n (u8s xs)) (hx:U8s xs):
  Calls Tryz.prog 6 #[.slice A n c,Iv (t:Int)] w fun e w'=>(∃ A' k c' es,e=.returned (.slice A' k c')∧k≤644∧Es k es∧At B w' (entR A' k c' es::L))∧Below B w w':=by
 obtain⟨i0,hi0,hz0,hz1,hz2⟩:=info_parts info_et;have HB:=Lib.hid (show ∀ W,Below B w W→B≤W.heap.size from fun _ b=>Nat.le_trans hB b.size);have hl:xs.length=n:=by simpa using (hr w (Below.refl _ _)).1
 have HR:=Lib.hid (And.intro hr (And.intro hx (And.intro hl (And.intro hn (And.intro ht1 ht9)))));have tz:((t:Int)==0)=false:=by rw [beq_eq_false_iff_ne];omega
 have tz2:¬ (t:Int)=0:=by omega
 clear hr hx hl hn ht1 ht9;go_enter Tryz.func6,Tryz.ntmps6;go_wp2_with fail
 go_loopg [5,6] n (fun gk vl vk wr=>∃ (k m:Nat) (A':Option Addr) (c':Nat) (es:List Et),k+gk=n∧vk=Iv (k:Int)∧vl=.slice A' m c'∧Hid (m≤644)∧Hid (Es m es)∧At B wr (entR A' m c' es::L)∧Below B w wr)
 case atStart=>exact⟨0,0,none,0,[],by omega,rfl,rfl,Lib.hid (by omega),Lib.hid ⟨rfl,by simp⟩,Sep.nilSl h 60 5,Below.refl _ _⟩
 case round=>
  clear h;obtain⟨k,m,A1,c1,es,hk,rfl,rfl,HM,HE,s1,b1⟩:=hrel;have hBr:=HB.out _ b1
  by_cases hlt:k<n
  ·have hltz:(k:Int)<(n:Int):=by omega
   by_cases hm:m<500
   ·have hmz:(m:Int)<500:=by omega
    have hw:IntKind.i64.wrap ((k:Int)+1)=(k:Int)+1:=by have:=HR.out.2.2.2.1;rw [IntKind.wrap_i64];omega
    have hrr:=HR.out.1 wr b1;obtain⟨g,o,rfl,-,hc⟩:=hrr.at (by omega);obtain⟨x,hxx⟩:∃ x,xs[k]? =some x:=⟨_,List.getElem?_eq_getElem (by rw [HR.out.2.2.1];omega)⟩;have hcell:=hc k (Ub x) (by simp [hxx]);have HX:=Lib.hid (HR.out.2.1 x (List.mem_of_getElem? hxx));obtain⟨q,hq⟩:∃ q:Nat,x.tdiv 8%256=(q:Int):=⟨(x.tdiv 8%256).toNat,by omega⟩;have hqb:q≤31:=by have:=HX.out;rw [Int.tdiv_eq_ediv_of_nonneg (by omega)] at hq;omega
    have hwq:IntKind.i64.wrap (q:Int)=(q:Int):=by rw [IntKind.wrap_i64];omega
    have HQ:=Lib.hid hqb;have HMM:=Lib.hid hm
    have hr8:x.tmod 8=0∨x.tmod 8=1∨x.tmod 8=2∨x.tmod 8=3∨x.tmod 8=4∨x.tmod 8=5∨x.tmod 8=6∨x.tmod 8=7:=by
     have:=HX.out;rw [Int.tmod_eq_emod_of_nonneg (by omega)];omega
    have hf8:=func8_any (c:=c) wr hrr HR.out.2.1 (k+1);rw [show ((k+1:Nat):Int)=(k:Int)+1 by omega] at hf8;clear hrr hc hxx hqb hm
    rcases hr8 with h8 | h8 | h8 | h8 | h8 | h8 | h8 | h8
    ·go_wp2_with fail;refine hf8.mono ?_;rintro e w2 ⟨⟨v,rfl,hv⟩,rfl⟩;clear hf8 hv;have H63:=Lib.hid (show m+1≤maxLen by have:=HMM.out;simp only [maxLen];omega);have HBY:=Lib.hid (show (m+1)*32≤140737488355328 by have:=HMM.out;omega);go_wp2_with (at_builtin;refine wpList_append_lit rfl (.tmp 59) (.tmp 73) _ rfl 60 i0 _ 5 32 Tryz.underlying23 hi0 hz0 hz1 hz2 rfl (by omega) rfl s1 hBr _ rfl _ _ rfl rfl (by simp [Value.oneCell']) H63.out HBY.out ?_;intro A6 c6 w6 s6 b6);go_roundg (gk-1)
     case measure=>omega
     case rel=>
      have s7:=et_put s6;refine⟨k+1,m+1,A6,c6,_,by omega,by go_num,rfl,Lib.hid (by have:=HMM.out;omega),Lib.hid (HE.out.one ?_),s7,b1.trans b6⟩;exact ent_ok1 _ _ _ _
    ·go_wp2_with fail;refine hf8.mono ?_;rintro e w2 ⟨⟨v,rfl,hv⟩,rfl⟩;clear hf8 hv;have H63:=Lib.hid (show m+1≤maxLen by have:=HMM.out;simp only [maxLen];omega);have HBY:=Lib.hid (show (m+1)*32≤140737488355328 by have:=HMM.out;omega);go_wp2_with (at_builtin;refine wpList_append_lit rfl (.tmp 59) (.tmp 73) _ rfl 60 i0 _ 5 32 Tryz.underlying23 hi0 hz0 hz1 hz2 rfl (by omega) rfl s1 hBr _ rfl _ _ rfl rfl (by simp [Value.oneCell']) H63.out HBY.out ?_;intro A6 c6 w6 s6 b6);go_roundg (gk-1)
     case measure=>omega
     case rel=>
      have s7:=et_put s6;refine⟨k+1,m+1,A6,c6,_,by omega,by go_num,rfl,Lib.hid (by have:=HMM.out;omega),Lib.hid (HE.out.one ?_),s7,b1.trans b6⟩;exact ent_ok1 _ _ _ _
    ·go_wp2_with fail;refine hf8.mono ?_;rintro e w2 ⟨⟨v,rfl,hv⟩,rfl⟩;clear hf8 hv;have H63:=Lib.hid (show m+1≤maxLen by have:=HMM.out;simp only [maxLen];omega);have HBY:=Lib.hid (show (m+1)*32≤140737488355328 by have:=HMM.out;omega);go_wp2_with (at_builtin;refine wpList_append_lit rfl (.tmp 59) (.tmp 73) _ rfl 60 i0 _ 5 32 Tryz.underlying23 hi0 hz0 hz1 hz2 rfl (by omega) rfl s1 hBr _ rfl _ _ rfl rfl (by simp [Value.oneCell']) H63.out HBY.out ?_;intro A6 c6 w6 s6 b6);go_roundg (gk-1)
     case measure=>omega
     case rel=>
      have s7:=et_put s6;refine⟨k+1,m+1,A6,c6,_,by omega,by go_num,rfl,Lib.hid (by have:=HMM.out;omega),Lib.hid (HE.out.one ?_),s7,b1.trans b6⟩;exact ent_ok1 _ _ _ _
    ·go_wp2_with fail;clear hq
     go_loopg [5,9] 9 (fun g2 vl vj wr=>∃ (j m2:Nat) (A':Option Addr) (c':Nat) (es:List Et),Hid (j+g2=9)∧vj=Iv (j:Int)∧vl=.slice A' m2 c'∧Hid (m2=m+j)∧Hid (Es m2 es)∧At B wr (entR A' m2 c' es::L)∧Below B w wr)
     case atStart=>exact⟨0,m,A1,c1,es,Lib.hid (by omega),rfl,rfl,Lib.hid (by omega),HE,s1,b1⟩
     case round=>
      clear s1 b1 HE es;obtain⟨j,m2,A2,c2,es,hj,rfl,rfl,hm2,HE,s1,b1⟩:=hrel;have hBr2:=HB.out _ b1;have hv8:0≤(q:Int)%8∧(q:Int)%8≤7:=by omega
      by_cases hle:(j:Int)≤(q:Int)%8
      ·have hwj:IntKind.i64.wrap ((j:Int)+1)=(j:Int)+1:=by rw [IntKind.wrap_i64];omega
       have H63:=Lib.hid (show m2+1≤maxLen by have:=HMM.out;have:=hm2.out;simp only [maxLen];omega);have HBY:=Lib.hid (show (m2+1)*32≤140737488355328 by have:=HMM.out;have:=hm2.out;omega);have HV8:=Lib.hid hv8;clear hv8;go_wp2_with (at_builtin;refine wpList_append_lit rfl (.tmp 84) (.tmp 90) _ rfl 60 i0 _ 5 32 Tryz.underlying23 hi0 hz0 hz1 hz2 rfl (by omega) rfl s1 hBr2 _ rfl _ _ rfl rfl (by simp [Value.oneCell']) H63.out HBY.out ?_;intro A6 c6 w6 s6 b6);go_roundg (gk-1)
       case measure=>have:=hj.out;have:=HV8.out;omega
       case rel=>
        have s7:=et_put s6;refine⟨j+1,m2+1,A6,c6,_,Lib.hid (by have:=hj.out;have:=HV8.out;omega),by go_num,rfl,Lib.hid (by have:=hm2.out;omega),Lib.hid (HE.out.one ?_),s7,b1.trans b6⟩;exact ent_ok0 _ _
      ·go_wp2_with fail;go_roundg (n-k-1)
       case measure=>omega
       case rel=>exact⟨k+1,m2,A2,c2,es,by omega,by go_num,rfl,Lib.hid (by have:=HMM.out;have:=hm2.out;have:=hj.out;omega),HE,s1,b1⟩
    ·go_wp2_with fail;clear hq
     go_loopg [5,9] 9 (fun g2 vl vj wr=>∃ (j m2:Nat) (A':Option Addr) (c':Nat) (es:List Et),Hid (j+g2=9)∧vj=Iv (j:Int)∧vl=.slice A' m2 c'∧Hid (m2=m+j)∧Hid (Es m2 es)∧At B wr (entR A' m2 c' es::L)∧Below B w wr)
     case atStart=>exact⟨0,m,A1,c1,es,Lib.hid (by omega),rfl,rfl,Lib.hid (by omega),HE,s1,b1⟩
     case round=>
      clear s1 b1 HE es;obtain⟨j,m2,A2,c2,es,hj,rfl,rfl,hm2,HE,s1,b1⟩:=hrel;have hBr2:=HB.out _ b1;have hv8:0≤(q:Int)%8∧(q:Int)%8≤7:=by omega
      by_cases hle:(j:Int)≤(q:Int)%8
      ·have hwj:IntKind.i64.wrap ((j:Int)+1)=(j:Int)+1:=by rw [IntKind.wrap_i64];omega
       have H63:=Lib.hid (show m2+1≤maxLen by have:=HMM.out;have:=hm2.out;simp only [maxLen];omega);have HBY:=Lib.hid (show (m2+1)*32≤140737488355328 by have:=HMM.out;have:=hm2.out;omega);have HV8:=Lib.hid hv8;clear hv8;go_wp2_with (at_builtin;refine wpList_append_lit rfl (.tmp 84) (.tmp 90) _ rfl 60 i0 _ 5 32 Tryz.underlying23 hi0 hz0 hz1 hz2 rfl (by omega) rfl s1 hBr2 _ rfl _ _ rfl rfl (by simp [Value.oneCell']) H63.out HBY.out ?_;intro A6 c6 w6 s6 b6);go_roundg (gk-1)
       case measure=>have:=hj.out;have:=HV8.out;omega
       case rel=>
        have s7:=et_put s6;refine⟨j+1,m2+1,A6,c6,_,Lib.hid (by have:=hj.out;have:=HV8.out;omega),by go_num,rfl,Lib.hid (by have:=hm2.out;omega),Lib.hid (HE.out.one ?_),s7,b1.trans b6⟩;exact ent_ok0 _ _
      ·go_wp2_with fail;go_roundg (n-k-1)
       case measure=>omega
       case rel=>exact⟨k+1,m2,A2,c2,es,by omega,by go_num,rfl,Lib.hid (by have:=HMM.out;have:=hm2.out;have:=hj.out;omega),HE,s1,b1⟩
    ·
     have hrd:=Rounds_s (L:=entR A1 m c1 es::L) hBr t (1+q%16) HR.out.2.2.2.2.1 (by omega) HR.out.2.2.2.2.2 (by omega) s1;rw [show ((1+q%16:Nat):Int)=1+(q:Int)%16 by omega] at hrd;have HRD:=Lib.hid hrd;clear hrd;go_wp2_with fail;refine HRD.out.mono ?_;rintro e w2 ⟨A3,c3,rfl,s3,b3⟩;clear HRD s1 hq;generalize hmm:1+q%16=mm at*;have hlen:mm*t≤16*9:=Nat.mul_le_mul (by omega) HR.out.2.2.2.2.2;clear hmm;have HL:=Lib.hid hlen;clear hlen;generalize hP:mm*t=P at*;have s4:=s3.ox [1];have hs:Sl w2 60 5 A3 P c3 ((rds t mm).flatMap etIn) (fun x=>B≤x):=s3.get;have hE2:Es P (rds t mm):=⟨by rw [rds_len,hP],rds_ok t mm⟩;have H63:=Lib.hid (show m+P≤maxLen by have:=HMM.out;have:=HL.out;simp only [maxLen];omega);have HBY:=Lib.hid (show (m+P)*32≤140737488355328 by have:=HMM.out;have:=HL.out;omega)
     have hone:∀ u∈(rds t mm).flatMap etIn,u.oneCell'=true:=fun u hu=>by
      obtain⟨x,_,hx⟩:=List.mem_flatMap.1 hu;exact one_et x u hx
     have c4:=b1.trans b3;have hB4:=HB.out _ c4;go_wp2_with (at_builtin;refine wpList_append_at rfl (.tmp 94) (.tmp 99) _ rfl 60 i0 _ 5 32 Tryz.underlying23 hi0 hz0 hz1 hz2 rfl (by omega) rfl s4 hB4 _ A3 P c3 _ rfl hs.rd hone H63.out HBY.out ?_;intro A6 c6 w6 s6 b6);go_roundg (gk-1)
     case measure=>omega
     case rel=>
      refine⟨k+1,m+P,A6,c6,es++rds t mm,by omega,by go_num,rfl,Lib.hid (by have:=HMM.out;have:=HL.out;omega),Lib.hid (HE.out.app hE2),?_,c4.trans b6⟩;unfold entR;rw [List.flatMap_append];exact s6.cons fun _ h=>h.drop
    ·
     go_wp2_with fail;clear hq;have HW2:Hid (wrap64 (2+(q:Int))=2+(q:Int)):=Lib.hid (w64 (by have:=HQ.out;omega))
     go_loopg [5,10] 40 (fun g2 vl vj wr=>∃ (j m2:Nat) (A':Option Addr) (c':Nat) (es:List Et),Hid (j+g2=40)∧vj=Iv (j:Int)∧vl=.slice A' m2 c'∧Hid (m2=m+j)∧Hid (Es m2 es)∧At B wr (entR A' m2 c' es::L)∧Below B w wr)
     case atStart=>exact⟨0,m,A1,c1,es,Lib.hid (by omega),rfl,rfl,Lib.hid (by omega),HE,s1,b1⟩
     case round=>
      clear s1 b1 HE es;obtain⟨j,m2,A2,c2,es,hj,rfl,rfl,hm2,HE,s1,b1⟩:=hrel;have hBr2:=HB.out _ b1
      by_cases hle:(j:Int)<2+(q:Int)
      ·have hj33:j≤32:=by have:=HQ.out;omega
       have hcond:(j:Int)<wrap64 (2+(q:Int)):=by rw [HW2.out];exact hle
       have hwj:IntKind.i64.wrap ((j:Int)+1)=(j:Int)+1:=by rw [IntKind.wrap_i64];omega
       have H63:=Lib.hid (show m2+1≤maxLen by have:=HMM.out;have:=hm2.out;simp only [maxLen];omega);have HBY:=Lib.hid (show (m2+1)*32≤140737488355328 by have:=HMM.out;have:=hm2.out;omega);have HV8:=Lib.hid hj33;clear hj33 hle;go_wp2_with (at_builtin;refine wpList_append_lit rfl (.tmp 109) (.tmp 116) _ rfl 60 i0 _ 5 32 Tryz.underlying23 hi0 hz0 hz1 hz2 rfl (by omega) rfl s1 hBr2 _ rfl _ _ rfl rfl (by simp [Value.oneCell']) H63.out HBY.out ?_;intro A6 c6 w6 s6 b6);go_roundg (gk-1)
       case measure=>have:=hj.out;have:=HV8.out;omega
       case rel=>
        have s7:=et_put s6;refine⟨j+1,m2+1,A6,c6,_,Lib.hid (by have:=hj.out;have:=HV8.out;omega),by go_num,rfl,Lib.hid (by have:=hm2.out;omega),Lib.hid (HE.out.one ?_),s7,b1.trans b6⟩;exact ent_ok0 _ _
      ·have hcond:¬ (j:Int)<wrap64 (2+(q:Int)):=by rw [HW2.out];exact hle
       have HLE:=Lib.hid hle;clear hle;go_wp2_with fail;go_roundg (n-k-1)
       case measure=>omega
       case rel=>exact⟨k+1,m2,A2,c2,es,by omega,by go_num,rfl,Lib.hid (by have:=HMM.out;have:=hm2.out;have:=hj.out;omega),HE,s1,b1⟩
    ·
     have H63:=Lib.hid (show m+2≤maxLen by have:=HMM.out;simp only [maxLen];omega);have HBY:=Lib.hid (show (m+2)*32≤140737488355328 by have:=HMM.out;omega);go_wp2_with (at_builtin;refine wpList_append_lit rfl (.tmp 33) (.tmp 49) _ rfl 60 i0 _ 5 32 Tryz.underlying23 hi0 hz0 hz1 hz2 rfl (by omega) rfl s1 hBr _ rfl _ _ rfl rfl (by simp [Value.oneCell']) H63.out HBY.out ?_;intro A6 c6 w6 s6 b6);go_roundg (gk-1)
     case measure=>omega
     case rel=>
      have s7:=et_put2 s6;refine⟨k+1,m+2,A6,c6,_,by omega,by go_num,rfl,Lib.hid (by have:=HMM.out;omega),Lib.hid ((HE.out.one ?_).one ?_),s7,b1.trans b6⟩
      ·exact ent_ok2 _ _ _ (xor_u8 x 85)
      ·exact ent_ok0 _ _
   ·have hmz:¬ (m:Int)<500:=by omega
    go_wp2_with fail;go_ret
    first | exact⟨⟨_,_,_,rfl,HM.out,es,HE.out,s1⟩,b1⟩ | exact⟨⟨_,_,rfl,HM.out,es,HE.out,s1⟩,b1⟩ | exact⟨⟨_,_,_,es,rfl,HM.out,HE.out,s1⟩,b1⟩ | exact⟨⟨_,_,⟨_,rfl⟩,HM.out,es,HE.out,s1⟩,b1⟩
  ·have hltz:¬ (k:Int)<(n:Int):=by omega
   go_wp2_with fail;go_ret
   first | exact⟨⟨_,_,_,rfl,HM.out,es,HE.out,s1⟩,b1⟩ | exact⟨⟨_,_,rfl,HM.out,es,HE.out,s1⟩,b1⟩ | exact⟨⟨_,_,_,es,rfl,HM.out,HE.out,s1⟩,b1⟩ | exact⟨⟨_,_,⟨_,rfl⟩,HM.out,es,HE.out,s1⟩,b1⟩
end
end Go.Proofs.YtadgbhjpgnlmoaaGreat
