/- TopSafe, a part of its proof; no conditions. -/
import Derived.WideKeyRuns
import Derived.Laws.StructEq
import Derived.Test.YtadgbhjpgnlmoaaGreatPk07
set_option linter.all false
namespace Go.Proofs.YtadgbhjpgnlmoaaGreat
open Go.RowKit Go.Rp
theorem infoI64:∃ i z,Tryz.prog.info? 2=some i∧i.zero=some z∧i.size=1∧i.bytes=8∧z.cells.size=1:=by
 have h:(Tryz.prog.info? 2).map (fun i=>(i.size,i.bytes,i.zero.map fun z=>z.cells.size))=some (1,8,some 1):=by kernel_rfl
 cases hi:Tryz.prog.info? 2 with
 | none=>rw [hi] at h;cases h
 | some i=>
  rw [hi] at h;simp only [Option.map_some,Option.some.injEq,Prod.mk.injEq] at h;obtain⟨h1,h2,h3⟩:=h
  cases hz:i.zero with
  | none=>rw [hz] at h3;cases h3
  | some z=>rw [hz] at h3;simp only [Option.map_some,Option.some.injEq] at h3;exact⟨i,z,rfl,hz,h1,h2,h3⟩
theorem cloneI64 (w:World) (A:Option Addr) (n c:Nat) (R:Nat→Prop) (xs:List Value) (hr:Rd w R 1 A n xs) (hA:A=none→n=0∧c=0) (h1:∀ u∈xs,u.oneCell'=true) (hn:n≤1000000):
  Calls Tryz.prog 49 #[.slice A n c] w (NewSl w 2 1 n xs):=by
 obtain⟨i0,z0,hi0,hz0,hz1,hz2,hzs⟩:=infoI64;have hnil:=fun(W:World) (A:Option Addr) (n c:Nat)=>Lib.run_eql_slice_nil (P:=Tryz.prog) W 36 2 A n c 0 0 Tryz.underlying36;have H63:=Lib.hid (show 0+n≤maxLen by simp only [maxLen];omega);have HB:=Lib.hid (show (0+n)*8≤140737488355328 by omega);clear hn
 rcases A with _ | a
 ·obtain⟨rfl,rfl⟩:=hA rfl;have hx:xs=[]:=List.eq_nil_of_length_eq_zero (by simpa using hr.1);subst hx;go_enter Tryz.func49,Tryz.ntmps49;go_wp2;go_ret;exact⟨none,0,rfl,Sl.nil _ _ _ _,Below.refl _ _⟩
 ·go_enter Tryz.func49,Tryz.ntmps49;go_wp2_with (at_builtin;refine wpList_append_sl _ rfl (.tmp 5) (.tmp 6) _ rfl 2 i0 _ 1 8 Tryz.underlying36 hi0 hz0 hz1 hz2 hzs (by omega) (some ⟨w.heap.size,0,none⟩) 0 0 [] (fun b=>b=w.heap.size) rfl (Sl.lit0 _ _ _ rfl) R (some a) n c xs rfl (hr.alloc _) h1 H63.out HB.out ?_;intro A' c' w1 hown1 hmod1);go_ret;rw [Nat.zero_add,List.nil_append] at hown1
  simpa using NewSl.cloned hown1 hmod1
theorem infoItem:∃ i z,Tryz.prog.info? 144=some i∧i.zero=some z∧i.size=3∧i.bytes=24∧z.cells.size=3:=by
 have h:(Tryz.prog.info? 144).map (fun i=>(i.size,i.bytes,i.zero.map fun z=>z.cells.size))=some (3,24,some 3):=by kernel_rfl
 cases hi:Tryz.prog.info? 144 with
 | none=>rw [hi] at h;cases h
 | some i=>
  rw [hi] at h;simp only [Option.map_some,Option.some.injEq,Prod.mk.injEq] at h;obtain⟨h1,h2,h3⟩:=h
  cases hz:i.zero with
  | none=>rw [hz] at h3;cases h3
  | some z=>rw [hz] at h3;simp only [Option.map_some,Option.some.injEq] at h3;exact⟨i,z,rfl,hz,h1,h2,h3⟩
theorem cloneItem (w:World) (A:Option Addr) (n c:Nat) (R:Nat→Prop) (xs:List Value) (hr:Rd w R 3 A n xs) (hA:A=none→n=0∧c=0) (h1:∀ u∈xs,u.oneCell'=true) (hn:n≤1000000):
  Calls Tryz.prog 66 #[.slice A n c] w (NewSl w 144 3 n xs):=by
 obtain⟨i0,z0,hi0,hz0,hz1,hz2,hzs⟩:=infoItem;have hnil:=fun(W:World) (A:Option Addr) (n c:Nat)=>Lib.run_eql_slice_nil (P:=Tryz.prog) W 91 144 A n c 0 0 Tryz.underlying91;have H63:=Lib.hid (show 0+n≤maxLen by simp only [maxLen];omega);have HB:=Lib.hid (show (0+n)*24≤140737488355328 by omega);clear hn
 rcases A with _ | a
 ·obtain⟨rfl,rfl⟩:=hA rfl;have hx:xs=[]:=List.eq_nil_of_length_eq_zero (by simpa using hr.1);subst hx;go_enter Tryz.func66,Tryz.ntmps66;go_wp2;go_ret;exact⟨none,0,rfl,Sl.nil _ _ _ _,Below.refl _ _⟩
 ·go_enter Tryz.func66,Tryz.ntmps66;go_wp2_with (at_builtin;refine wpList_append_sl _ rfl (.tmp 5) (.tmp 6) _ rfl 144 i0 _ 3 24 Tryz.underlying91 hi0 hz0 hz1 hz2 hzs (by omega) (some ⟨w.heap.size,0,none⟩) 0 0 [] (fun b=>b=w.heap.size) rfl (Sl.lit0 _ _ _ rfl) R (some a) n c xs rfl (hr.alloc _) h1 H63.out HB.out ?_;intro A' c' w1 hown1 hmod1);go_ret;rw [Nat.zero_add,List.nil_append] at hown1
  simpa using NewSl.cloned hown1 hmod1
theorem cloneItem_s {B:Nat} {w:World} {A:Option Addr} {n c:Nat} {xs:List Value} {L:List Res} (hB:B≤w.heap.size) (h:At B w (slRes 144 3 A n c xs::L)) (h1:∀ u∈xs,u.oneCell'=true) (hn:n≤1000000):
  Calls Tryz.prog 66 #[.slice A n c] w fun e w'=>∃ A' c',e=.returned (.slice A' n c')∧At B w' (slRes 144 3 A' n c' xs::slRes 144 3 A n c xs::L)∧Below B w w':=by
 have hs:Sl w 144 3 A n c xs (fun x=>B≤x):=h.get;exact(cloneItem w A n c _ xs hs.rd hs.none_ h1 hn).mono fun e w' ⟨A',c',he,hs',hb⟩=>⟨A',c',he,h.made (fun x hx=>Nat.le_trans hB hx) hb hs',hb.mono hB⟩
theorem infoEvt:∃ i z,Tryz.prog.info? 49=some i∧i.zero=some z∧i.size=8∧i.bytes=48∧z.cells.size=8:=by
 have h:(Tryz.prog.info? 49).map (fun i=>(i.size,i.bytes,i.zero.map fun z=>z.cells.size))=some (8,48,some 8):=by kernel_rfl
 cases hi:Tryz.prog.info? 49 with
 | none=>rw [hi] at h;cases h
 | some i=>
  rw [hi] at h;simp only [Option.map_some,Option.some.injEq,Prod.mk.injEq] at h;obtain⟨h1,h2,h3⟩:=h
  cases hz:i.zero with
  | none=>rw [hz] at h3;cases h3
  | some z=>rw [hz] at h3;simp only [Option.map_some,Option.some.injEq] at h3;exact⟨i,z,rfl,hz,h1,h2,h3⟩
theorem cloneEvt (w:World) (A:Option Addr) (n c:Nat) (R:Nat→Prop) (xs:List Value) (hr:Rd w R 8 A n xs) (hA:A=none→n=0∧c=0) (h1:∀ u∈xs,u.oneCell'=true) (hn:n≤1000000):
  Calls Tryz.prog 89 #[.slice A n c] w (NewSl w 49 8 n xs):=by
 obtain⟨i0,z0,hi0,hz0,hz1,hz2,hzs⟩:=infoEvt;have hnil:=fun(W:World) (A:Option Addr) (n c:Nat)=>Lib.run_eql_slice_nil (P:=Tryz.prog) W 33 49 A n c 0 0 Tryz.underlying33;have H63:=Lib.hid (show 0+n≤maxLen by simp only [maxLen];omega);have HB:=Lib.hid (show (0+n)*48≤140737488355328 by omega);clear hn
 rcases A with _ | a
 ·obtain⟨rfl,rfl⟩:=hA rfl;have hx:xs=[]:=List.eq_nil_of_length_eq_zero (by simpa using hr.1);subst hx;go_enter Tryz.func89,Tryz.ntmps89;go_wp2;go_ret;exact⟨none,0,rfl,Sl.nil _ _ _ _,Below.refl _ _⟩
 ·go_enter Tryz.func89,Tryz.ntmps89;go_wp2_with (at_builtin;refine wpList_append_sl _ rfl (.tmp 5) (.tmp 6) _ rfl 49 i0 _ 8 48 Tryz.underlying33 hi0 hz0 hz1 hz2 hzs (by omega) (some ⟨w.heap.size,0,none⟩) 0 0 [] (fun b=>b=w.heap.size) rfl (Sl.lit0 _ _ _ rfl) R (some a) n c xs rfl (hr.alloc _) h1 H63.out HB.out ?_;intro A' c' w1 hown1 hmod1);go_ret;rw [Nat.zero_add,List.nil_append] at hown1
  simpa using NewSl.cloned hown1 hmod1
theorem cloneEvt_s {B:Nat} {w:World} {A:Option Addr} {n c:Nat} {xs:List Value} {L:List Res} (hB:B≤w.heap.size) (h:At B w (slRes 49 8 A n c xs::L)) (h1:∀ u∈xs,u.oneCell'=true) (hn:n≤1000000):
  Calls Tryz.prog 89 #[.slice A n c] w fun e w'=>∃ A' c',e=.returned (.slice A' n c')∧At B w' (slRes 49 8 A' n c' xs::slRes 49 8 A n c xs::L)∧Below B w w':=by
 have hs:Sl w 49 8 A n c xs (fun x=>B≤x):=h.get;exact(cloneEvt w A n c _ xs hs.rd hs.none_ h1 hn).mono fun e w' ⟨A',c',he,hs',hb⟩=>⟨A',c',he,h.made (fun x hx=>Nat.le_trans hB hx) hb hs',hb.mono hB⟩
theorem infoApp:∃ i z,Tryz.prog.info? 51=some i∧i.zero=some z∧i.size=7∧i.bytes=40∧z.cells.size=7:=by
 have h:(Tryz.prog.info? 51).map (fun i=>(i.size,i.bytes,i.zero.map fun z=>z.cells.size))=some (7,40,some 7):=by kernel_rfl
 cases hi:Tryz.prog.info? 51 with
 | none=>rw [hi] at h;cases h
 | some i=>
  rw [hi] at h;simp only [Option.map_some,Option.some.injEq,Prod.mk.injEq] at h;obtain⟨h1,h2,h3⟩:=h
  cases hz:i.zero with
  | none=>rw [hz] at h3;cases h3
  | some z=>rw [hz] at h3;simp only [Option.map_some,Option.some.injEq] at h3;exact⟨i,z,rfl,hz,h1,h2,h3⟩
theorem cloneApp (w:World) (A:Option Addr) (n c:Nat) (R:Nat→Prop) (xs:List Value) (hr:Rd w R 7 A n xs) (hA:A=none→n=0∧c=0) (h1:∀ u∈xs,u.oneCell'=true) (hn:n≤1000000):
  Calls Tryz.prog 90 #[.slice A n c] w (NewSl w 51 7 n xs):=by
 obtain⟨i0,z0,hi0,hz0,hz1,hz2,hzs⟩:=infoApp;have hnil:=fun(W:World) (A:Option Addr) (n c:Nat)=>Lib.run_eql_slice_nil (P:=Tryz.prog) W 34 51 A n c 0 0 Tryz.underlying34;have H63:=Lib.hid (show 0+n≤maxLen by simp only [maxLen];omega);have HB:=Lib.hid (show (0+n)*40≤140737488355328 by omega);clear hn
 rcases A with _ | a
 ·obtain⟨rfl,rfl⟩:=hA rfl;have hx:xs=[]:=List.eq_nil_of_length_eq_zero (by simpa using hr.1);subst hx;go_enter Tryz.func90,Tryz.ntmps90;go_wp2;go_ret;exact⟨none,0,rfl,Sl.nil _ _ _ _,Below.refl _ _⟩
 ·go_enter Tryz.func90,Tryz.ntmps90;go_wp2_with (at_builtin;refine wpList_append_sl _ rfl (.tmp 5) (.tmp 6) _ rfl 51 i0 _ 7 40 Tryz.underlying34 hi0 hz0 hz1 hz2 hzs (by omega) (some ⟨w.heap.size,0,none⟩) 0 0 [] (fun b=>b=w.heap.size) rfl (Sl.lit0 _ _ _ rfl) R (some a) n c xs rfl (hr.alloc _) h1 H63.out HB.out ?_;intro A' c' w1 hown1 hmod1);go_ret;rw [Nat.zero_add,List.nil_append] at hown1
  simpa using NewSl.cloned hown1 hmod1
theorem cloneApp_s {B:Nat} {w:World} {A:Option Addr} {n c:Nat} {xs:List Value} {L:List Res} (hB:B≤w.heap.size) (h:At B w (slRes 51 7 A n c xs::L)) (h1:∀ u∈xs,u.oneCell'=true) (hn:n≤1000000):
  Calls Tryz.prog 90 #[.slice A n c] w fun e w'=>∃ A' c',e=.returned (.slice A' n c')∧At B w' (slRes 51 7 A' n c' xs::slRes 51 7 A n c xs::L)∧Below B w w':=by
 have hs:Sl w 51 7 A n c xs (fun x=>B≤x):=h.get;exact(cloneApp w A n c _ xs hs.rd hs.none_ h1 hn).mono fun e w' ⟨A',c',he,hs',hb⟩=>⟨A',c',he,h.made (fun x hx=>Nat.le_trans hB hx) hb hs',hb.mono hB⟩
theorem infoI32:∃ i z,Tryz.prog.info? 21=some i∧i.zero=some z∧i.size=1∧i.bytes=4∧z.cells.size=1:=by
 have h:(Tryz.prog.info? 21).map (fun i=>(i.size,i.bytes,i.zero.map fun z=>z.cells.size))=some (1,4,some 1):=by kernel_rfl
 cases hi:Tryz.prog.info? 21 with
 | none=>rw [hi] at h;cases h
 | some i=>
  rw [hi] at h;simp only [Option.map_some,Option.some.injEq,Prod.mk.injEq] at h;obtain⟨h1,h2,h3⟩:=h
  cases hz:i.zero with
  | none=>rw [hz] at h3;cases h3
  | some z=>rw [hz] at h3;simp only [Option.map_some,Option.some.injEq] at h3;exact⟨i,z,rfl,hz,h1,h2,h3⟩
theorem cloneI32 (w:World) (A:Option Addr) (n c:Nat) (R:Nat→Prop) (xs:List Value) (hr:Rd w R 1 A n xs) (hA:A=none→n=0∧c=0) (h1:∀ u∈xs,u.oneCell'=true) (hn:n≤1000000):
  Calls Tryz.prog 91 #[.slice A n c] w (NewSl w 21 1 n xs):=by
 obtain⟨i0,z0,hi0,hz0,hz1,hz2,hzs⟩:=infoI32;have hnil:=fun(W:World) (A:Option Addr) (n c:Nat)=>Lib.run_eql_slice_nil (P:=Tryz.prog) W 35 21 A n c 0 0 Tryz.underlying35;have H63:=Lib.hid (show 0+n≤maxLen by simp only [maxLen];omega);have HB:=Lib.hid (show (0+n)*4≤140737488355328 by omega);clear hn
 rcases A with _ | a
 ·obtain⟨rfl,rfl⟩:=hA rfl;have hx:xs=[]:=List.eq_nil_of_length_eq_zero (by simpa using hr.1);subst hx;go_enter Tryz.func91,Tryz.ntmps91;go_wp2;go_ret;exact⟨none,0,rfl,Sl.nil _ _ _ _,Below.refl _ _⟩
 ·go_enter Tryz.func91,Tryz.ntmps91;go_wp2_with (at_builtin;refine wpList_append_sl _ rfl (.tmp 5) (.tmp 6) _ rfl 21 i0 _ 1 4 Tryz.underlying35 hi0 hz0 hz1 hz2 hzs (by omega) (some ⟨w.heap.size,0,none⟩) 0 0 [] (fun b=>b=w.heap.size) rfl (Sl.lit0 _ _ _ rfl) R (some a) n c xs rfl (hr.alloc _) h1 H63.out HB.out ?_;intro A' c' w1 hown1 hmod1);go_ret;rw [Nat.zero_add,List.nil_append] at hown1
  simpa using NewSl.cloned hown1 hmod1
theorem cloneI32_s {B:Nat} {w:World} {A:Option Addr} {n c:Nat} {xs:List Value} {L:List Res} (hB:B≤w.heap.size) (h:At B w (slRes 21 1 A n c xs::L)) (h1:∀ u∈xs,u.oneCell'=true) (hn:n≤1000000):
  Calls Tryz.prog 91 #[.slice A n c] w fun e w'=>∃ A' c',e=.returned (.slice A' n c')∧At B w' (slRes 21 1 A' n c' xs::slRes 21 1 A n c xs::L)∧Below B w w':=by
 have hs:Sl w 21 1 A n c xs (fun x=>B≤x):=h.get;exact(cloneI32 w A n c _ xs hs.rd hs.none_ h1 hn).mono fun e w' ⟨A',c',he,hs',hb⟩=>⟨A',c',he,h.made (fun x hx=>Nat.le_trans hB hx) hb hs',hb.mono hB⟩
theorem infoInt:∃ i z,Tryz.prog.info? 3=some i∧i.zero=some z∧i.size=1∧i.bytes=8∧z.cells.size=1:=by
 have h:(Tryz.prog.info? 3).map (fun i=>(i.size,i.bytes,i.zero.map fun z=>z.cells.size))=some (1,8,some 1):=by kernel_rfl
 cases hi:Tryz.prog.info? 3 with
 | none=>rw [hi] at h;cases h
 | some i=>
  rw [hi] at h;simp only [Option.map_some,Option.some.injEq,Prod.mk.injEq] at h;obtain⟨h1,h2,h3⟩:=h
  cases hz:i.zero with
  | none=>rw [hz] at h3;cases h3
  | some z=>rw [hz] at h3;simp only [Option.map_some,Option.some.injEq] at h3;exact⟨i,z,rfl,hz,h1,h2,h3⟩
theorem cloneInt (w:World) (A:Option Addr) (n c:Nat) (R:Nat→Prop) (xs:List Value) (hr:Rd w R 1 A n xs) (hA:A=none→n=0∧c=0) (h1:∀ u∈xs,u.oneCell'=true) (hn:n≤1000000):
  Calls Tryz.prog 92 #[.slice A n c] w (NewSl w 3 1 n xs):=by
 obtain⟨i0,z0,hi0,hz0,hz1,hz2,hzs⟩:=infoInt;have hnil:=fun(W:World) (A:Option Addr) (n c:Nat)=>Lib.run_eql_slice_nil (P:=Tryz.prog) W 37 3 A n c 0 0 Tryz.underlying37;have H63:=Lib.hid (show 0+n≤maxLen by simp only [maxLen];omega);have HB:=Lib.hid (show (0+n)*8≤140737488355328 by omega);clear hn
 rcases A with _ | a
 ·obtain⟨rfl,rfl⟩:=hA rfl;have hx:xs=[]:=List.eq_nil_of_length_eq_zero (by simpa using hr.1);subst hx;go_enter Tryz.func92,Tryz.ntmps92;go_wp2;go_ret;exact⟨none,0,rfl,Sl.nil _ _ _ _,Below.refl _ _⟩
 ·go_enter Tryz.func92,Tryz.ntmps92;go_wp2_with (at_builtin;refine wpList_append_sl _ rfl (.tmp 5) (.tmp 6) _ rfl 3 i0 _ 1 8 Tryz.underlying37 hi0 hz0 hz1 hz2 hzs (by omega) (some ⟨w.heap.size,0,none⟩) 0 0 [] (fun b=>b=w.heap.size) rfl (Sl.lit0 _ _ _ rfl) R (some a) n c xs rfl (hr.alloc _) h1 H63.out HB.out ?_;intro A' c' w1 hown1 hmod1);go_ret;rw [Nat.zero_add,List.nil_append] at hown1
  simpa using NewSl.cloned hown1 hmod1
theorem cloneInt_s {B:Nat} {w:World} {A:Option Addr} {n c:Nat} {xs:List Value} {L:List Res} (hB:B≤w.heap.size) (h:At B w (slRes 3 1 A n c xs::L)) (h1:∀ u∈xs,u.oneCell'=true) (hn:n≤1000000):
  Calls Tryz.prog 92 #[.slice A n c] w fun e w'=>∃ A' c',e=.returned (.slice A' n c')∧At B w' (slRes 3 1 A' n c' xs::slRes 3 1 A n c xs::L)∧Below B w w':=by
 have hs:Sl w 3 1 A n c xs (fun x=>B≤x):=h.get;exact(cloneInt w A n c _ xs hs.rd hs.none_ h1 hn).mono fun e w' ⟨A',c',he,hs',hb⟩=>⟨A',c',he,h.made (fun x hx=>Nat.le_trans hB hx) hb hs',hb.mono hB⟩
theorem infoThr:∃ i z,Tryz.prog.info? 93=some i∧i.zero=some z∧i.size=13∧i.bytes=120∧z.cells.size=13:=by
 have h:(Tryz.prog.info? 93).map (fun i=>(i.size,i.bytes,i.zero.map fun z=>z.cells.size))=some (13,120,some 13):=by kernel_rfl
 cases hi:Tryz.prog.info? 93 with
 | none=>rw [hi] at h;cases h
 | some i=>
  rw [hi] at h;simp only [Option.map_some,Option.some.injEq,Prod.mk.injEq] at h;obtain⟨h1,h2,h3⟩:=h
  cases hz:i.zero with
  | none=>rw [hz] at h3;cases h3
  | some z=>rw [hz] at h3;simp only [Option.map_some,Option.some.injEq] at h3;exact⟨i,z,rfl,hz,h1,h2,h3⟩
theorem cloneThr (w:World) (A:Option Addr) (n c:Nat) (R:Nat→Prop) (xs:List Value) (hr:Rd w R 13 A n xs) (hA:A=none→n=0∧c=0) (h1:∀ u∈xs,u.oneCell'=true) (hn:n≤1000000):
  Calls Tryz.prog 94 #[.slice A n c] w (NewSl w 93 13 n xs):=by
 obtain⟨i0,z0,hi0,hz0,hz1,hz2,hzs⟩:=infoThr;have hnil:=fun(W:World) (A:Option Addr) (n c:Nat)=>Lib.run_eql_slice_nil (P:=Tryz.prog) W 88 93 A n c 0 0 Tryz.underlying88;have H63:=Lib.hid (show 0+n≤maxLen by simp only [maxLen];omega);have HB:=Lib.hid (show (0+n)*120≤140737488355328 by omega);clear hn
 rcases A with _ | a
 ·obtain⟨rfl,rfl⟩:=hA rfl;have hx:xs=[]:=List.eq_nil_of_length_eq_zero (by simpa using hr.1);subst hx;go_enter Tryz.func94,Tryz.ntmps94;go_wp2;go_ret;exact⟨none,0,rfl,Sl.nil _ _ _ _,Below.refl _ _⟩
 ·go_enter Tryz.func94,Tryz.ntmps94;go_wp2_with (at_builtin;refine wpList_append_sl _ rfl (.tmp 5) (.tmp 6) _ rfl 93 i0 _ 13 120 Tryz.underlying88 hi0 hz0 hz1 hz2 hzs (by omega) (some ⟨w.heap.size,0,none⟩) 0 0 [] (fun b=>b=w.heap.size) rfl (Sl.lit0 _ _ _ rfl) R (some a) n c xs rfl (hr.alloc _) h1 H63.out HB.out ?_;intro A' c' w1 hown1 hmod1);go_ret;rw [Nat.zero_add,List.nil_append] at hown1
  simpa using NewSl.cloned hown1 hmod1
theorem cloneThr_s {B:Nat} {w:World} {A:Option Addr} {n c:Nat} {xs:List Value} {L:List Res} (hB:B≤w.heap.size) (h:At B w (slRes 93 13 A n c xs::L)) (h1:∀ u∈xs,u.oneCell'=true) (hn:n≤1000000):
  Calls Tryz.prog 94 #[.slice A n c] w fun e w'=>∃ A' c',e=.returned (.slice A' n c')∧At B w' (slRes 93 13 A' n c' xs::slRes 93 13 A n c xs::L)∧Below B w w':=by
 have hs:Sl w 93 13 A n c xs (fun x=>B≤x):=h.get;exact(cloneThr w A n c _ xs hs.rd hs.none_ h1 hn).mono fun e w' ⟨A',c',he,hs',hb⟩=>⟨A',c',he,h.made (fun x hx=>Nat.le_trans hB hx) hb hs',hb.mono hB⟩
set_option maxRecDepth 100000
abbrev Nm:=Int×Int
abbrev nmv (k:Nm):Value:=.agg #[Iv k.1,Iv k.2]
theorem nmv_inj {a b:Nm} (h:nmv a=nmv b):a=b:=by
 obtain⟨a1,a2⟩:=a;obtain⟨b1,b2⟩:=b
 simpa using h
theorem mapNm:Tryz.prog.underlying 78=some (.map 80 3):=by kernel_rfl
theorem nm_check (em:Bool) (k:Nm) (w:World):(Instr.checkKey em 10000 80 (nmv k)).run Tryz.prog w=.ok () w:=by kernel_rfl
theorem nm_stays (k:Nm) (w:World):(Instr.keyThatStays (nmv k) (nmv k)).run Tryz.prog w=.ok (nmv k) w:=by
 have hs:Instr.sameBits 10000 (nmv k) (nmv k)=true:=by
  show Instr.sameBits (9998+1+1) (nmv k) (nmv k)=true;simp [Instr.sameBits]
 simp [Instr.keyThatStays,hs]
theorem nm_zero (w:World):(zeroValue 3).run Tryz.prog w=.ok (Iv 0) w:=by kernel_rfl
theorem i64_eq (a b:Int) (d:Nat) (w:World):(Op.equalIn (d+1) 3 (Iv a) (Iv b)).run Tryz.prog w=.ok (a==b) w:=run_equalIn_int w d 3 .i64 .i64 a b (by kernel_rfl)
theorem nm_wide:(match Tryz.prog.underlying 80 with | some (.array _ _) | some (.struct _)=>true | _=>false)=true:=by kernel_rfl
theorem part0 (a b:Int) (w:World):(part 3 #[Iv a,Iv b] 0).run Tryz.prog w=.ok (Iv a) w:=by kernel_rfl
theorem part1 (a b:Int) (w:World):(part 3 #[Iv a,Iv b] 1).run Tryz.prog w=.ok (Iv b) w:=by kernel_rfl
theorem nm_fields:(Tryz.prog.fieldsOf 80).toList.map (fun f=>(f.name≠ "_" :Bool))=[true,true]∧(Tryz.prog.fieldsOf 80).toList.map (fun f=>(f.type,f.offset))=[(3,0),(3,1)]:=by
 constructor<;>kernel_rfl
theorem nm_eq (a b:Nm) (w:World):(Op.equal 80 (nmv a) (nmv b)).run Tryz.prog w=.ok (a.1==b.1&&a.2==b.2) w:=by
 show(Op.equalIn (9998+1+1) 80 (nmv a) (nmv b)).run Tryz.prog w=_;rw [run_equalIn_struct w (9998+1) 80 _ _ (by kernel_rfl) (by kernel_rfl)];obtain⟨h1,h2⟩:=nm_fields;generalize (Tryz.prog.fieldsOf 80).toList=fs at h1 h2;have hlen:fs.length=2:=by simpa using congrArg List.length h1
 match fs,hlen with
 | [f1,f2],_=>
  simp only [List.map_cons,List.map_nil,List.cons.injEq,decide_eq_true_eq,and_true,Prod.mk.injEq] at h1 h2;obtain⟨⟨e1,e2⟩,e3,e4⟩:=h2;simp only [Op.eqFields,h1.1,h1.2,ne_eq,not_false_eq_true,if_true,e1,e2,e3,e4,Sem.run_bind,part0,part1,Result.andThen_ok,i64_eq]
  cases a.1==b.1
  ·simp
  ·simp only [Bool.not_true,Bool.false_eq_true,if_false,Sem.run_bind,part1,Result.andThen_ok,i64_eq,Bool.true_and]
   cases a.2==b.2<;>simp
def IsC (es:List MapEntry) (l:List (Nm×Int)):Prop:=es.map (fun e=>(e.key,e.val))=l.map fun x=>(nmv x.1,Iv x.2)
def setN (x:Nm) (v:Int):List (Nm×Int)→List (Nm×Int)
 | []=>[(x,v)]
 | y::l=>if y.1=x then(x,v)::l else y::setN x v l
def getN (x:Nm):List (Nm×Int)→Int
 | []=>0
 | y::l=>if y.1=x then y.2 else getN x l
theorem getN_setN (x y:Nm) (v:Int) (l:List (Nm×Int)):getN y (setN x v l)=if x=y then v else getN y l:=by
 induction l with
 | nil=>simp [setN,getN]
 | cons a l ih=>
  simp only [setN]
  split
  ·rename_i h;simp only [getN,h]
   by_cases hxy:x=y<;>simp [hxy]
  ·rename_i h;simp only [getN,ih]
   by_cases hay:a.1=y
   ·have:¬ x=y:=fun e=>h (by rw [hay,e]);simp [hay,this]
   ·simp [hay]
theorem find_c (w:World) (x:Nm):∀ (es:List MapEntry) (l:List (Nm×Int)) (i:Nat),IsC es l→
  (getN x l=0∧(Instr.findAsking 80 (nmv x) es i).run Tryz.prog w=.ok none w∧(∀ v,setN x v l=l++[(x,v)])∧∀ y∈l,y.1≠x)∨
  ∃ j u,getN x l=u∧(Instr.findAsking 80 (nmv x) es i).run Tryz.prog w=.ok (some (i+j,Iv u)) w∧l[j]? =some (x,u)∧(∀ v,setN x v l=l.set j (x,v))
 | [],l,i,h=>by
  have:l=[]:=by
   cases l with
   | nil=>rfl
   | cons a l=>simp [IsC] at h
  subst this;exact .inl ⟨rfl,by simp [Instr.findAsking],fun v=>rfl,by simp⟩
 | e::es,l,i,h=>by
  rcases l with _ | ⟨a,l⟩
  ·simp [IsC] at h
  ·simp only [IsC,List.map_cons,List.cons.injEq,Prod.mk.injEq] at h;obtain⟨⟨hk,hv⟩,ht⟩:=h;have heq:=nm_eq x a.1 w
   by_cases ha:a.1=x
   ·refine .inr ⟨0,a.2,by simp [getN,ha],?_,by simp [← ha],fun v=>by simp [setN,ha]⟩;have hb:(x.1==a.1.1&&x.2==a.1.2)=true:=by simp [ha]
    rw [hb] at heq;simp [Instr.findAsking,hk,heq,hv]
   ·have hb:(x.1==a.1.1&&x.2==a.1.2)=false:=by
     rw [Bool.eq_false_iff];intro h;simp only [Bool.and_eq_true,beq_iff_eq] at h;exact ha (Prod.ext h.1.symm h.2.symm)
    rw [hb] at heq
    have hf:(Instr.findAsking 80 (nmv x) (e::es) i).run Tryz.prog w=(Instr.findAsking 80 (nmv x) es (i+1)).run Tryz.prog w:=by
     simp [Instr.findAsking,hk,heq]
    rcases find_c w x es l (i+1) ht with ⟨h1,h2,h3,h4⟩ | ⟨j,u,h1,h2,h3,h4⟩
    ·exact .inl ⟨by simp [getN,ha,h1],by rw [hf,h2],fun v=>by simp [setN,ha,h3],by
      intro y hy
      rcases List.mem_cons.1 hy with rfl | hy
      ·exact ha
      ·exact h4 y hy⟩
    ·exact .inr ⟨j+1,u,by simp [getN,ha,h1],by rw [hf,h2,Nat.add_assoc,Nat.add_comm 1 j],by simpa using h3,fun v=>by simp [setN,ha,h4]⟩
def IsN (w:World) (r:Nat) (l:List (Nm×Int)):Prop:=∃ es c,w.heap[r]? =some (.map es c)∧MapKept.Stamped es c∧IsC es.toList l
theorem IsN.lt {w:World} {r:Nat} {l:List (Nm×Int)} (h:IsN w r l):r<w.heap.size:=by
 obtain⟨es,c,h,_⟩:=h
 rcases Nat.lt_or_ge r w.heap.size with hlt | hge
 ·exact hlt
 ·rw [Array.getElem?_eq_none hge] at h;cases h
def AtN (w:World) (r:Nat) (x:Nm) (st:Nat):Prop:=∃ (es:Array MapEntry) (c j:Nat) (e:MapEntry),w.heap[r]? =some (.map es c)∧es[j]? =some e∧e.key=nmv x∧e.born=st
theorem stable_n (r:Nat) (l:List (Nm×Int)):Stable (fun w R=>IsN w r l∧R r):=
 ⟨fun h hS=>⟨h.1,hS _ h.2⟩,fun h hm hd=>by
  obtain⟨es,c,h1,h2,h3⟩:=h.1;exact⟨⟨es,c,(hm.block r h.1.lt (hd _ h.2)).trans h1,h2,h3⟩,h.2⟩,fun h=>⟨h.1,h.2,h.1.lt⟩⟩
def cntR (r:Nat) (l:List (Nm×Int)):Res:=⟨fun w R=>IsN w r l∧R r,stable_n r l⟩
theorem stable_n2 (r:Nat) (l:List (Nm×Int)) (x:Nm) (st:Nat):Stable (fun w R=>(IsN w r l∧AtN w r x st)∧R r):=
 ⟨fun h hS=>⟨h.1,hS _ h.2⟩,fun h hm hd=>by
  obtain⟨⟨es,c,h1,h2,h3⟩,⟨es',c',j,e,h4,h5⟩⟩:=h.1;have hb:=hm.block r h.1.1.lt (hd _ h.2);exact⟨⟨⟨es,c,hb.trans h1,h2,h3⟩,⟨es',c',j,e,hb.trans h4,h5⟩⟩,h.2⟩,fun h=>⟨h.1,h.2,h.1.1.lt⟩⟩
def cntR2 (r:Nat) (l:List (Nm×Int)) (x:Nm) (st:Nat):Res:=⟨fun w R=>(IsN w r l∧AtN w r x st)∧R r,stable_n2 r l x st⟩
section
variable {w:World} {L:List Res} {B r st:Nat} {l:List (Nm×Int)}
theorem run_findKey_c (es:List MapEntry) (x:Nm):(Instr.findKey 80 (nmv x) es).run Tryz.prog w=(Instr.findAsking 80 (nmv x) es).run Tryz.prog w:=run_findKey_eq w nm_wide (nmv x) es
theorem cnt_find (h:IsN w r l) (x:Nm):(Instr.lookup 78 (.map (some r)) (nmv x) false).run Tryz.prog w=.ok (Iv (getN x l)) w:=by
 obtain⟨es,c,hb,hs,hl⟩:=h
 rcases find_c w x es.toList l 0 hl with ⟨h4,h5,h6,h7⟩ | ⟨j,u,h4,h5,h6,h7⟩
 ·rw [h4];simp [Instr.lookup,run_underlying mapNm,MapKept.run_getObj_map hb,nm_check,run_findKey_c,h5,nm_zero,Result.andThen]
 ·rw [h4];simp [Instr.lookup,run_underlying mapNm,MapKept.run_getObj_map hb,nm_check,run_findKey_c,h5,Result.andThen]
theorem setN_same {l:List (Nm×Int)} {x:Nm} {u:Int} {j:Nat} (h:l[j]? =some (x,u)) (h2:∀ v,setN x v l=l.set j (x,v)):setN x u l=l:=by
 rw [h2];apply List.ext_getElem?;intro i;rw [List.getElem?_set]
 split
 ·rename_i e;subst e
  split
  ·exact h.symm
  ·rename_i hl;exact absurd (List.getElem?_eq_some_iff.1 h).1 hl
 ·rfl
theorem cnt_key {es:Array MapEntry} {l:List (Nm×Int)} {x:Nm} {u:Int} {j:Nat} (hl:IsC es.toList l) (h:l[j]? =some (x,u)):∃ e,es[j]? =some e∧e.key=nmv x∧e.val=Iv u:=by
 have hl':es.toList.map (fun e=>(e.key,e.val))=l.map fun x=>(nmv x.1,Iv x.2):=hl;have:=congrArg (fun z=>z[j]?) hl';simp only [List.getElem?_map,h,Option.map_some] at this
 rcases he:es.toList[j]? with _ | e
 ·rw [he] at this;simp at this
 ·rw [he] at this;simp only [Option.map_some,Option.some.injEq,Prod.mk.injEq] at this;exact⟨e,by simpa using he,this.1,this.2⟩
theorem cntSet {o:Obj} {a:Res} (hB:B≤w.heap.size) (h:Sep w (fun x=>B≤x) (a::L)) (ha:∀ R,a.Q w R→R r) (hrl:r<w.heap.size) {a':Res} (ha':a'.Q { w with heap:=w.heap.setIfInBounds r o} (fun x=>x=r)):
  Sep { w with heap:=w.heap.setIfInBounds r o} (fun x=>B≤x) (a'::L)∧Below B w { w with heap:=w.heap.setIfInBounds r o}:=by
 obtain⟨S,h1,h2,h3⟩:=h.front (a':=a') fun x hx=>Nat.le_trans hB hx;have hr:=ha _ h1;refine⟨h3 _ (a'.st.mono ha' fun x hx=>by rw [hx];exact grow_left _ hr) ((mod_setObj w _).mono fun b hb=>hb▸hr),(mod_setObj (r:=r) w _).below hB fun b hb=>hb▸(h2 r hr).1⟩
theorem cntEntry (hB:B≤w.heap.size) (h:Sep w (fun x=>B≤x) (cntR r l::L)) (x:Nm):
  ∃ w' v st,(Instr.mapEntry 78 (.map (some r)) (nmv x)).run Tryz.prog w=.ok (.tuple #[v,Iv ((st:Nat):Int)]) w'∧Sep w' (fun x=>B≤x) (cntR2 r (setN x (getN x l) l) x st::L)∧Below B w w':=by
 obtain⟨⟨es,c,hb,hs,hl⟩,hr⟩:=h.get;have hrl:r<w.heap.size:=IsN.lt ⟨es,c,hb,hs,hl⟩;have hl':es.toList.map (fun e=>(e.key,e.val))=l.map fun x=>(nmv x.1,Iv x.2):=hl
 rcases find_c w x es.toList l 0 hl with ⟨h4,h5,h6,h7⟩ | ⟨j,u,h4,h5,h6,h7⟩
 ·have hkey:∀ y∈es.toList,y.key≠nmv x:=by
   intro y hy he;have hm:(y.key,y.val)∈es.toList.map (fun e=>(e.key,e.val)):=List.mem_map.2 ⟨y,hy,rfl⟩;rw [hl'] at hm;obtain⟨z,hz,hz'⟩:=List.mem_map.1 hm;simp only [Prod.mk.injEq] at hz';exact h7 z hz (nmv_inj (hz'.1.trans he))
  have hst:=MapKept.stamped_push hs (val:=Iv 0) hkey
  have hset:=cntSet (o:=.map (es.push ⟨nmv x,Iv 0,c⟩) (c+1)) hB h (fun R h=>h.2) hrl (a':=cntR2 r (setN x (getN x l) l) x c)
   ⟨⟨⟨_,_,(MapKept.heap_set hb).1,hst,by unfold IsC;rw [h4,h6];simp [hl']⟩,⟨_,_,es.size,⟨nmv x,Iv 0,c⟩,(MapKept.heap_set hb).1,by simp,rfl,rfl⟩⟩,rfl⟩
  refine⟨_,Iv 0,c,?_,hset⟩;simp [Instr.mapEntry,run_underlying mapNm,MapKept.run_getObj_map hb,nm_check,run_findKey_c,h5,nm_zero,MapKept.run_setObj_map _ hb,Result.andThen,goInt]
 ·obtain⟨e,hj,he,hv⟩:=cnt_key hl h6;have hst:=MapKept.stamped_modify hs j (fun e=> { e with key:=nmv x}) (fun _ _=>rfl) (fun e' _ he'=>by rw [hj] at he';cases he';exact he.symm)
  have hset:=cntSet (o:=.map (es.modify j fun e=> { e with key:=nmv x}) c) hB h (fun R h=>h.2) hrl (a':=cntR2 r (setN x (getN x l) l) x e.born)
   ⟨⟨⟨_,_,(MapKept.heap_set hb).1,hst,by
    rw [h4,setN_same h6 h7];unfold IsC;rw [← hl'];apply List.ext_getElem?;intro i;simp only [List.getElem?_map,Array.toList_modify,List.getElem?_modify]
    by_cases hij:j=i
    ·subst hij;have hj':es.toList[j]? =some e:=by simpa using hj
     simp [hj',he]
    ·simp only [hij,if_false,Option.map_id',id_eq]
     try cases es.toList[i]? <;>rfl⟩,⟨_,_,j,{ e with key:=nmv x},(MapKept.heap_set hb).1,by simp [Array.getElem?_modify,hj],rfl,rfl⟩⟩,rfl⟩
  refine⟨_,e.val,e.born,?_,hset⟩;rw [Nat.zero_add] at h5;simp [Instr.mapEntry,run_underlying mapNm,MapKept.run_getObj_map hb,nm_check,run_findKey_c,h5,hj,he,hv,nm_stays,MapKept.run_setObj_map _ hb,Result.andThen,goInt]
theorem findIdx_b {l:List MapEntry} (hn:(l.map (·.born)).Nodup) {j:Nat} {e0:MapEntry} (h:l[j]? =some e0):l.findIdx? (fun e=>((e.born:Nat):Int)==((e0.born:Nat):Int))=some j:=by
 induction l generalizing j with
 | nil=>simp at h
 | cons a r ih=>
  simp only [List.map_cons,List.nodup_cons] at hn
  cases j with
  | zero=>
   simp only [List.getElem?_cons_zero,Option.some.injEq] at h;subst h;simp [List.findIdx?_cons]
  | succ j=>
   simp only [List.getElem?_cons_succ] at h;have hne:a.born≠e0.born:=fun e=>hn.1 (e▸List.mem_map.2 ⟨e0,List.mem_of_getElem? h,rfl⟩);have hb:(((a.born:Nat):Int)==((e0.born:Nat):Int))=false:=by rw [beq_eq_false_iff_ne];omega
   rw [List.findIdx?_cons,hb,ih hn.2 h]
   rfl
theorem findIdx_a (xs:Array MapEntry) (p:MapEntry→Bool):xs.findIdx? p=xs.toList.findIdx? p:=by
 cases xs
 simp
theorem cntStore {x:Nm} (hB:B≤w.heap.size) (h:Sep w (fun x=>B≤x) (cntR2 r l x st::L)) (v:Int):
  ∃ w',(Instr.entryStore 78 (.map (some r)) (Iv ((st:Nat):Int)) (Iv v)).run Tryz.prog w=.ok () w'∧Sep w' (fun x=>B≤x) (cntR r (setN x v l)::L)∧Below B w w':=by
 obtain⟨⟨⟨es,c,hb,hs,hl⟩,⟨es',c',j,e,hb',hj,hk,hborn⟩⟩,hr⟩:=h.get;have hrl:r<w.heap.size:=IsN.lt ⟨es,c,hb,hs,hl⟩;rw [hb] at hb';simp only [Option.some.injEq,Obj.map.injEq] at hb';obtain⟨rfl,rfl⟩:=hb';have hl':es.toList.map (fun e=>(e.key,e.val))=l.map fun x=>(nmv x.1,Iv x.2):=hl;have hjt:es.toList[j]? =some e:=by simpa using hj
 have hidx:es.findIdx? (fun e'=>((e'.born:Nat):Int)==((st:Nat):Int))=some j:=by
  rw [findIdx_a,←hborn];exact findIdx_b ((MapKept.stamped_iff es c).1 hs).2.1 hjt
 have hlj:∃ u,l[j]? =some (x,u):=by
  have:=congrArg (fun z=>z[j]?) hl';simp only [List.getElem?_map,hjt,Option.map_some] at this
  rcases hlj:l[j]? with _ | y
  ·rw [hlj] at this;simp at this
  ·rw [hlj] at this;simp only [Option.map_some,Option.some.injEq,Prod.mk.injEq] at this;have:x=y.1:=nmv_inj (hk.symm.trans this.1);exact⟨y.2,by rw [this]⟩
 obtain⟨u,hlj⟩:=hlj
 have hset2:setN x v l=l.set j (x,v):=by
  rcases find_c w x es.toList l 0 hl with ⟨_,_,_,h7⟩ | ⟨j',u',h4,h5,h6,h7⟩
  ·exact absurd rfl (h7 _ (List.mem_of_getElem? hlj))
  ·have:j'=j:=by
    obtain⟨e',hj',hk',_⟩:=cnt_key hl h6;have hpw:=((MapKept.stamped_iff es c).1 hs).2.2;have hj't:es.toList[j']? =some e':=by simpa using hj'
    rw [List.pairwise_iff_getElem] at hpw;have l1:=(List.getElem?_eq_some_iff.1 hjt);have l2:=(List.getElem?_eq_some_iff.1 hj't);obtain⟨l1,e1⟩:=l1;obtain⟨l2,e2⟩:=l2
    rcases Nat.lt_trichotomy j' j with h | h | h
    ·have:=hpw _ _ l2 l1 h;rw [e1,e2,hk,hk'] at this;exact absurd rfl this
    ·exact h
    ·have:=hpw _ _ l1 l2 h;rw [e1,e2,hk,hk'] at this;exact absurd rfl this
   rw [h7,this]
 have hst:=MapKept.stamped_modify hs j (fun e=> { e with val:=Iv v}) (fun _ _=>rfl) (fun _ _ _=>rfl)
 have hset:=cntSet (o:=.map (es.modify j fun e=> { e with val:=Iv v}) c) hB h (fun R h=>h.2) hrl (a':=cntR r (setN x v l))
  ⟨⟨_,_,(MapKept.heap_set hb).1,hst,by
   rw [hset2];unfold IsC;apply List.ext_getElem?;intro i;have hi:=congrArg (fun z=>z[i]?) hl';simp only [List.getElem?_map] at hi;simp only [List.getElem?_map,Array.toList_modify,List.getElem?_modify,List.getElem?_set]
   by_cases hij:j=i
   ·subst hij;have hlt:j<l.length:=(List.getElem?_eq_some_iff.1 hlj).1;simp [hjt,hlt,hk]
   ·simp only [hij,if_false]
    simpa using hi⟩,rfl⟩
 refine⟨_,?_,hset⟩;simp [Instr.entryStore,MapKept.run_getObj_map hb,asInt,asIntOf,hidx,MapKept.run_setObj_map _ hb,Result.andThen]
theorem Sep.allocC (h:Sep w (fun x=>B≤x) L) (hB:B≤w.heap.size):Sep (w.alloc (.map #[] 0)) (fun x=>B≤x) (cntR w.heap.size []::L):=
 h.made (fun x hx=>Nat.le_trans hB hx) ((Below.refl _ w).alloc (Nat.le_refl _) _) ⟨⟨#[],0,heap_alloc_new w _,MapKept.stamped_empty 0,rfl⟩,Nat.le_refl _,by simp⟩
end
end Go.Proofs.YtadgbhjpgnlmoaaGreat
