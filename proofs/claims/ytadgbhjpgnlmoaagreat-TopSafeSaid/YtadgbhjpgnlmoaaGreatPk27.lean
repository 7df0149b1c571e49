/- TopSafe, a part of its proof; no conditions. -/
import Derived.Test.YtadgbhjpgnlmoaaGreatPk25
import Derived.Test.YtadgbhjpgnlmoaaGreatPk26
set_option linter.all false
namespace Go.Proofs.YtadgbhjpgnlmoaaGreat
open Go.RowKit Go.Rp Go.Sf
theorem lk_at {r X j:Nat} {w:World} {i:Int} {v:Value} (h:w.heap[r]? =some (.map (pe X 20) 20)) (hf:Instr.findNow (.int .i64) (Iv i) (pe X 20).toList 0=some (some (j,v))):
  (Instr.lookup 225 (.map (some r)) (Iv i) false).run Tryz.prog w=.ok v w:=by
 have hik:MapKept.IsKey (.int .i64) (Iv i):=rfl;simp [Instr.lookup,run_underlying key_int,MapKept.run_getObj_map h,MapKept.run_checkKey Tryz.underlying3 hik,MapKept.run_findKey Tryz.underlying3 hf,Result.andThen]
section
variable {B p n c dn dc:Nat} {w:World} {size id ps:Int} {m m2:List Int} {L:List Res} {t t2:Th} {A o D:Option Addr} {O O':Res} {dl:List Sf.Item}
theorem nil_sl {U:Nat→Prop} {e sz:Nat} (h:Sep w U L):Sep w U (slRes e sz none 0 0 []::L):=
 ⟨fun _=>False,fun _ h=>h.elim,Sl.nil ..,h.mono fun _ hx=>⟨hx,fun h=>h.elim⟩⟩
theorem plain_c {X:Nat} {f:FuncId} (hh:Calls Tryz.prog f #[Pz X] w fun e w'=>e=.returned (.tuple #[])∧At B w' (blkR X 224 (ct id t2 A n c p o ps none 0 0)::memR p size m2::itR A n c t2.batch::O::L)∧Below B w w'):
  Calls Tryz.prog f #[Pz X] w fun e w'=>∃ A' n' c' D dn dc,e=.returned (.tuple #[])∧At B w' (blkR X 224 (ct id t2 A' n' c' p o ps D dn dc)::memR p size m2::itR A' n' c' t2.batch::itR D dn dc []::O::L)∧Below B w w':=
 hh.mono fun _ _ ⟨h1,h2,h3⟩=>⟨A,n,c,none,0,0,h1,Sep.cons (fun _ h=>Sep.cons (fun _ h=>Sep.cons (fun _ h=>nil_sl h) h) h) h2,h3⟩
set_option maxRecDepth 100000 in
theorem cstep_fix {f:FuncId} {t2:Th} {m2:List Int} {dl:List Sf.Item} (hB:B≤w.heap.size) (h1:20≤t.pc) (h2:t.pc≤39) (hn:n≤1000)
  (hlk:∀ (w:World) r X,w.heap[r]? =some (.map (pe X 20) 20)→(Instr.lookup 225 (.map (some r)) (Iv t.pc) false).run Tryz.prog w=.ok (mth X f) w)
  (hcf:∀ (args:Array Value) (w:World),(callFunc f args).run Tryz.prog w=.ok (.enter f args) w)
  (hpc:∀ (W:World) (A4:Option Addr) (c4 X:Nat) (L':List Res),B≤W.heap.size→At B W (blkR X 224 (ct id t A4 n c4 p o ps none 0 0)::memR p size m::itR A4 n c4 t.batch::O::L')→Calls Tryz.prog f #[Pz X] W fun e w'=>∃ A' n' c' D dn dc,e=.returned (.tuple #[])∧At B w' (blkR X 224 (ct id t2 A' n' c' p o ps D dn dc)::memR p size m2::itR A' n' c' t2.batch::itR D dn dc dl::O'::L')∧Below B W w')
  (h:At B w (itR A n c t.batch::memR p size m::O::L)):Calls Tryz.prog 109 #[Pz p,.pointer o,Iv ps,thv id t A n c] w fun e w'=>∃ A' n' c' D dn dc,e=.returned (.tuple #[thv id t2 A' n' c',.slice D dn dc])∧At B w' (itR A' n' c' t2.batch::itR D dn dc dl::itR A n c t.batch::memR p size m2::O'::L)∧Below B w w':=
 (cstep_any (R:=fun a b=>a=t2∧b=dl) (O':=O') hB h1 h2 hn hlk hcf (fun W A4 c4 X L' hW hh=>(hpc W A4 c4 X L' hW hh).mono fun e w' ⟨A',n',c',D,dn,dc,he,hs,hb⟩=>⟨t2,dl,A',n',c',D,dn,dc,⟨rfl,rfl⟩,he,hs,hb⟩) h).mono
  fun e w' ⟨t3,d3,A',n',c',D,dn,dc,⟨h1,h2⟩,he,hs,hb⟩=>by subst h1 h2;exact⟨A',n',c',D,dn,dc,he,hs,hb⟩
theorem lk_pass (w:World) (r X:Nat) (h:w.heap[r]? =some (.map (pe X 20) 20)):(Instr.lookup 225 (.map (some r)) (Iv 20) false).run Tryz.prog w=.ok (mth X 144) w:=lk_at (j:=0) h (by rfl)
theorem cfc_pass (args:Array Value) (w:World):(callFunc 144 args).run Tryz.prog w=.ok (.enter 144 args) w:=by kernel_rfl
theorem lk_stamp (w:World) (r X:Nat) (h:w.heap[r]? =some (.map (pe X 20) 20)):(Instr.lookup 225 (.map (some r)) (Iv 21) false).run Tryz.prog w=.ok (mth X 145) w:=lk_at (j:=1) h (by rfl)
theorem cfc_stamp (args:Array Value) (w:World):(callFunc 145 args).run Tryz.prog w=.ok (.enter 145 args) w:=by kernel_rfl
theorem lk_many (w:World) (r X:Nat) (h:w.heap[r]? =some (.map (pe X 20) 20)):(Instr.lookup 225 (.map (some r)) (Iv 22) false).run Tryz.prog w=.ok (mth X 146) w:=lk_at (j:=2) h (by rfl)
theorem cfc_many (args:Array Value) (w:World):(callFunc 146 args).run Tryz.prog w=.ok (.enter 146 args) w:=by kernel_rfl
theorem lk_look (w:World) (r X:Nat) (h:w.heap[r]? =some (.map (pe X 20) 20)):(Instr.lookup 225 (.map (some r)) (Iv 23) false).run Tryz.prog w=.ok (mth X 147) w:=lk_at (j:=3) h (by rfl)
theorem cfc_look (args:Array Value) (w:World):(callFunc 147 args).run Tryz.prog w=.ok (.enter 147 args) w:=by kernel_rfl
theorem lk_pend (w:World) (r X:Nat) (h:w.heap[r]? =some (.map (pe X 20) 20)):(Instr.lookup 225 (.map (some r)) (Iv 24) false).run Tryz.prog w=.ok (mth X 148) w:=lk_at (j:=4) h (by rfl)
theorem cfc_pend (args:Array Value) (w:World):(callFunc 148 args).run Tryz.prog w=.ok (.enter 148 args) w:=by kernel_rfl
theorem lk_help (w:World) (r X:Nat) (h:w.heap[r]? =some (.map (pe X 20) 20)):(Instr.lookup 225 (.map (some r)) (Iv 25) false).run Tryz.prog w=.ok (mth X 149) w:=lk_at (j:=5) h (by rfl)
theorem cfc_help (args:Array Value) (w:World):(callFunc 149 args).run Tryz.prog w=.ok (.enter 149 args) w:=by kernel_rfl
theorem lk_first (w:World) (r X:Nat) (h:w.heap[r]? =some (.map (pe X 20) 20)):(Instr.lookup 225 (.map (some r)) (Iv 26) false).run Tryz.prog w=.ok (mth X 150) w:=lk_at (j:=6) h (by rfl)
theorem cfc_first (args:Array Value) (w:World):(callFunc 150 args).run Tryz.prog w=.ok (.enter 150 args) w:=by kernel_rfl
theorem lk_bare (w:World) (r X:Nat) (h:w.heap[r]? =some (.map (pe X 20) 20)):(Instr.lookup 225 (.map (some r)) (Iv 27) false).run Tryz.prog w=.ok (mth X 151) w:=lk_at (j:=7) h (by rfl)
theorem cfc_bare (args:Array Value) (w:World):(callFunc 151 args).run Tryz.prog w=.ok (.enter 151 args) w:=by kernel_rfl
theorem lk_solo (w:World) (r X:Nat) (h:w.heap[r]? =some (.map (pe X 20) 20)):(Instr.lookup 225 (.map (some r)) (Iv 28) false).run Tryz.prog w=.ok (mth X 152) w:=lk_at (j:=8) h (by rfl)
theorem cfc_solo (args:Array Value) (w:World):(callFunc 152 args).run Tryz.prog w=.ok (.enter 152 args) w:=by kernel_rfl
theorem lk_after (w:World) (r X:Nat) (h:w.heap[r]? =some (.map (pe X 20) 20)):(Instr.lookup 225 (.map (some r)) (Iv 29) false).run Tryz.prog w=.ok (mth X 153) w:=lk_at (j:=9) h (by rfl)
theorem cfc_after (args:Array Value) (w:World):(callFunc 153 args).run Tryz.prog w=.ok (.enter 153 args) w:=by kernel_rfl
theorem lk_tie (w:World) (r X:Nat) (h:w.heap[r]? =some (.map (pe X 20) 20)):(Instr.lookup 225 (.map (some r)) (Iv 30) false).run Tryz.prog w=.ok (mth X 154) w:=lk_at (j:=10) h (by rfl)
theorem cfc_tie (args:Array Value) (w:World):(callFunc 154 args).run Tryz.prog w=.ok (.enter 154 args) w:=by kernel_rfl
theorem lk_set (w:World) (r X:Nat) (h:w.heap[r]? =some (.map (pe X 20) 20)):(Instr.lookup 225 (.map (some r)) (Iv 31) false).run Tryz.prog w=.ok (mth X 155) w:=lk_at (j:=11) h (by rfl)
theorem cfc_set (args:Array Value) (w:World):(callFunc 155 args).run Tryz.prog w=.ok (.enter 155 args) w:=by kernel_rfl
theorem lk_seen (w:World) (r X:Nat) (h:w.heap[r]? =some (.map (pe X 20) 20)):(Instr.lookup 225 (.map (some r)) (Iv 32) false).run Tryz.prog w=.ok (mth X 156) w:=lk_at (j:=12) h (by rfl)
theorem cfc_seen (args:Array Value) (w:World):(callFunc 156 args).run Tryz.prog w=.ok (.enter 156 args) w:=by kernel_rfl
theorem lk_scan (w:World) (r X:Nat) (h:w.heap[r]? =some (.map (pe X 20) 20)):(Instr.lookup 225 (.map (some r)) (Iv 33) false).run Tryz.prog w=.ok (mth X 157) w:=lk_at (j:=13) h (by rfl)
theorem cfc_scan (args:Array Value) (w:World):(callFunc 157 args).run Tryz.prog w=.ok (.enter 157 args) w:=by kernel_rfl
theorem lk_pick (w:World) (r X:Nat) (h:w.heap[r]? =some (.map (pe X 20) 20)):(Instr.lookup 225 (.map (some r)) (Iv 34) false).run Tryz.prog w=.ok (mth X 158) w:=lk_at (j:=14) h (by rfl)
theorem cfc_pick (args:Array Value) (w:World):(callFunc 158 args).run Tryz.prog w=.ok (.enter 158 args) w:=by kernel_rfl
theorem lk_next (w:World) (r X:Nat) (h:w.heap[r]? =some (.map (pe X 20) 20)):(Instr.lookup 225 (.map (some r)) (Iv 35) false).run Tryz.prog w=.ok (mth X 159) w:=lk_at (j:=15) h (by rfl)
theorem cfc_next (args:Array Value) (w:World):(callFunc 159 args).run Tryz.prog w=.ok (.enter 159 args) w:=by kernel_rfl
theorem lk_tell (w:World) (r X:Nat) (h:w.heap[r]? =some (.map (pe X 20) 20)):(Instr.lookup 225 (.map (some r)) (Iv 37) false).run Tryz.prog w=.ok (mth X 161) w:=lk_at (j:=17) h (by rfl)
theorem cfc_tell (args:Array Value) (w:World):(callFunc 161 args).run Tryz.prog w=.ok (.enter 161 args) w:=by kernel_rfl
theorem lk_age (w:World) (r X:Nat) (h:w.heap[r]? =some (.map (pe X 20) 20)):(Instr.lookup 225 (.map (some r)) (Iv 38) false).run Tryz.prog w=.ok (mth X 162) w:=lk_at (j:=18) h (by rfl)
theorem cfc_age (args:Array Value) (w:World):(callFunc 162 args).run Tryz.prog w=.ok (.enter 162 args) w:=by kernel_rfl
theorem lk_free (w:World) (r X:Nat) (h:w.heap[r]? =some (.map (pe X 20) 20)):(Instr.lookup 225 (.map (some r)) (Iv 39) false).run Tryz.prog w=.ok (mth X 163) w:=lk_at (j:=19) h (by rfl)
theorem cfc_free (args:Array Value) (w:World):(callFunc 163 args).run Tryz.prog w=.ok (.enter 163 args) w:=by kernel_rfl
theorem lk_do (w:World) (r X:Nat) (h:w.heap[r]? =some (.map (pe X 20) 20)):(Instr.lookup 225 (.map (some r)) (Iv 36) false).run Tryz.prog w=.ok (mth X 160) w:=lk_at (j:=16) h (by rfl)
theorem cfc_do (args:Array Value) (w:World):(callFunc 160 args).run Tryz.prog w=.ok (.enter 160 args) w:=by kernel_rfl
structure FitP (t:Th):Prop where
 fit:FitC t
 bs:IntKind.i64.wrap (base t.nth+1)=base t.nth+1
 it:37≤t.pc→∃ x,t.item=some x∧IntKind.i64.wrap x.rc=x.rc∧IntKind.i64.wrap (x.rc+2)=x.rc+2∧IntKind.i64.wrap (x.rc+4)=x.rc+4
theorem c_pass (hB:B≤w.heap.size) (e:t.pc=20) (hn:n=t.batch.length) (hn2:n≤1000) (hz:FitP t) (h:At B w (itR A n c t.batch::memR p size m::O::L)):Calls Tryz.prog 109 #[Pz p,.pointer o,Iv ps,thv id t A n c] w fun e w'=>∃ A' n' c' D dn dc,e=.returned (.tuple #[thv id (serves ps m t).2 A' n' c',.slice D dn dc])∧At B w' (itR A' n' c' (serves ps m t).2.batch::itR D dn dc []::itR A n c t.batch::memR p size (serves ps m t).1::O::L)∧Below B w w':=by
 refine cstep_fix (f:=144) hB (by omega) (by omega) hn2 (by rw [e];exact lk_pass) cfc_pass (fun W A4 c4 X L' hB4 h4=>?_) h;have:=pass_c hB4 hz.fit h4;refine plain_c (A:=A4) (n:=n) (c:=c4) ?_;unfold serves
 simpa [e,Th.on'] using this
theorem c_stamp (hB:B≤w.heap.size) (e:t.pc=21) (hn:n=t.batch.length) (hn2:n≤1000) (hz:FitP t) (h:At B w (itR A n c t.batch::memR p size m::O::L)):Calls Tryz.prog 109 #[Pz p,.pointer o,Iv ps,thv id t A n c] w fun e w'=>∃ A' n' c' D dn dc,e=.returned (.tuple #[thv id (serves ps m t).2 A' n' c',.slice D dn dc])∧At B w' (itR A' n' c' (serves ps m t).2.batch::itR D dn dc []::itR A n c t.batch::memR p size (serves ps m t).1::O::L)∧Below B w w':=by
 refine cstep_fix (f:=145) hB (by omega) (by omega) hn2 (by rw [e];exact lk_stamp) cfc_stamp (fun W A4 c4 X L' hB4 h4=>?_) h;have:=stamp_c hB4 hz.fit h4;refine plain_c (A:=A4) (n:=n) (c:=c4) ?_;unfold serves
 simpa [e,Th.on'] using this
theorem c_many (hB:B≤w.heap.size) (e:t.pc=22) (hn:n=t.batch.length) (hn2:n≤1000) (hz:FitP t) (h:At B w (itR A n c t.batch::memR p size m::O::L)):Calls Tryz.prog 109 #[Pz p,.pointer o,Iv ps,thv id t A n c] w fun e w'=>∃ A' n' c' D dn dc,e=.returned (.tuple #[thv id (serves ps m t).2 A' n' c',.slice D dn dc])∧At B w' (itR A' n' c' (serves ps m t).2.batch::itR D dn dc []::itR A n c t.batch::memR p size (serves ps m t).1::O::L)∧Below B w w':=by
 refine cstep_fix (f:=146) hB (by omega) (by omega) hn2 (by rw [e];exact lk_many) cfc_many (fun W A4 c4 X L' hB4 h4=>?_) h;have:=many_c hB4 hz.fit h4;refine this.mono fun e1 w1 ⟨g1,g2,g3⟩=>?_;have hb:(serves ps m t).2=Th.on' { t with many:=manyOf m,nth:= -1,batch:=[]}∧(serves ps m t).1=m:=by unfold serves;simp [e]
 rw [hb.1,hb.2];exact⟨none,0,0,none,0,0,g1,Sep.cons (fun _ h=>Sep.cons (fun _ h=>nil_sl (nil_sl h.drop)) h) g2,g3⟩
theorem c_look (hB:B≤w.heap.size) (e:t.pc=23) (hn:n=t.batch.length) (hn2:n≤1000) (hz:FitP t) (h:At B w (itR A n c t.batch::memR p size m::O::L)):Calls Tryz.prog 109 #[Pz p,.pointer o,Iv ps,thv id t A n c] w fun e w'=>∃ A' n' c' D dn dc,e=.returned (.tuple #[thv id (serves ps m t).2 A' n' c',.slice D dn dc])∧At B w' (itR A' n' c' (serves ps m t).2.batch::itR D dn dc []::itR A n c t.batch::memR p size (serves ps m t).1::O::L)∧Below B w w':=by
 refine cstep_fix (f:=147) hB (by omega) (by omega) hn2 (by rw [e];exact lk_look) cfc_look (fun W A4 c4 X L' hB4 h4=>?_) h;have:=look_c hB4 hz.fit hz.bs rfl h4;refine plain_c (A:=A4) (n:=n) (c:=c4) ?_;unfold serves
 by_cases hc:ld m (base t.nth+1)=0<;>simpa [e,hc,Th.on'] using this
theorem c_pend (hB:B≤w.heap.size) (e:t.pc=24) (hn:n=t.batch.length) (hn2:n≤1000) (hz:FitP t) (h:At B w (itR A n c t.batch::memR p size m::O::L)):Calls Tryz.prog 109 #[Pz p,.pointer o,Iv ps,thv id t A n c] w fun e w'=>∃ A' n' c' D dn dc,e=.returned (.tuple #[thv id (serves ps m t).2 A' n' c',.slice D dn dc])∧At B w' (itR A' n' c' (serves ps m t).2.batch::itR D dn dc []::itR A n c t.batch::memR p size (serves ps m t).1::O::L)∧Below B w w':=by
 refine cstep_fix (f:=148) hB (by omega) (by omega) hn2 (by rw [e];exact lk_pend) cfc_pend (fun W A4 c4 X L' hB4 h4=>?_) h;have:=pend_c hB4 hz.fit rfl h4;refine plain_c (A:=A4) (n:=n) (c:=c4) ?_;unfold serves
 by_cases hc:0<ld m t.cur<;>simpa [e,hc,Th.on'] using this
theorem c_help (hB:B≤w.heap.size) (e:t.pc=25) (hn:n=t.batch.length) (hn2:n≤1000) (hz:FitP t) (h:At B w (itR A n c t.batch::memR p size m::O::L)):Calls Tryz.prog 109 #[Pz p,.pointer o,Iv ps,thv id t A n c] w fun e w'=>∃ A' n' c' D dn dc,e=.returned (.tuple #[thv id (serves ps m t).2 A' n' c',.slice D dn dc])∧At B w' (itR A' n' c' (serves ps m t).2.batch::itR D dn dc []::itR A n c t.batch::memR p size (serves ps m t).1::O::L)∧Below B w w':=by
 refine cstep_fix (f:=149) hB (by omega) (by omega) hn2 (by rw [e];exact lk_help) cfc_help (fun W A4 c4 X L' hB4 h4=>?_) h;have:=help_c hB4 hz.fit rfl h4;refine plain_c (A:=A4) (n:=n) (c:=c4) ?_;unfold serves
 by_cases hc:sw m (t.cur+1) 0=true<;>simpa [e,hc,Th.on'] using this
theorem c_first (hB:B≤w.heap.size) (e:t.pc=26) (hn:n=t.batch.length) (hn2:n≤1000) (hz:FitP t) (h:At B w (itR A n c t.batch::memR p size m::O::L)):Calls Tryz.prog 109 #[Pz p,.pointer o,Iv ps,thv id t A n c] w fun e w'=>∃ A' n' c' D dn dc,e=.returned (.tuple #[thv id (serves ps m t).2 A' n' c',.slice D dn dc])∧At B w' (itR A' n' c' (serves ps m t).2.batch::itR D dn dc []::itR A n c t.batch::memR p size (serves ps m t).1::O::L)∧Below B w w':=by
 refine cstep_fix (f:=150) hB (by omega) (by omega) hn2 (by rw [e];exact lk_first) cfc_first (fun W A4 c4 X L' hB4 h4=>?_) h;have:=first_c hB4 hz.fit rfl h4;refine plain_c (A:=A4) (n:=n) (c:=c4) ?_;unfold serves
 by_cases hc:ld m 1=0<;>simpa [e,hc,Th.on'] using this
theorem c_bare (hB:B≤w.heap.size) (e:t.pc=27) (hn:n=t.batch.length) (hn2:n≤1000) (hz:FitP t) (h:At B w (itR A n c t.batch::memR p size m::O::L)):Calls Tryz.prog 109 #[Pz p,.pointer o,Iv ps,thv id t A n c] w fun e w'=>∃ A' n' c' D dn dc,e=.returned (.tuple #[thv id (serves ps m t).2 A' n' c',.slice D dn dc])∧At B w' (itR A' n' c' (serves ps m t).2.batch::itR D dn dc []::itR A n c t.batch::memR p size (serves ps m t).1::O::L)∧Below B w w':=by
 refine cstep_fix (f:=151) hB (by omega) (by omega) hn2 (by rw [e];exact lk_bare) cfc_bare (fun W A4 c4 X L' hB4 h4=>?_) h;have:=bare_c hB4 hz.fit h4;refine plain_c (A:=A4) (n:=n) (c:=c4) ?_;unfold serves
 simpa [e,Th.on'] using this
theorem c_solo (hB:B≤w.heap.size) (e:t.pc=28) (hn:n=t.batch.length) (hn2:n≤1000) (hz:FitP t) (h:At B w (itR A n c t.batch::memR p size m::O::L)):Calls Tryz.prog 109 #[Pz p,.pointer o,Iv ps,thv id t A n c] w fun e w'=>∃ A' n' c' D dn dc,e=.returned (.tuple #[thv id (serves ps m t).2 A' n' c',.slice D dn dc])∧At B w' (itR A' n' c' (serves ps m t).2.batch::itR D dn dc []::itR A n c t.batch::memR p size (serves ps m t).1::O::L)∧Below B w w':=by
 refine cstep_fix (f:=152) hB (by omega) (by omega) hn2 (by rw [e];exact lk_solo) cfc_solo (fun W A4 c4 X L' hB4 h4=>?_) h;have:=solo_c hB4 hz.fit rfl h4;refine plain_c (A:=A4) (n:=n) (c:=c4) ?_;unfold serves
 simpa [e,Th.on'] using this
theorem c_after (hB:B≤w.heap.size) (e:t.pc=29) (hn:n=t.batch.length) (hn2:n≤1000) (hz:FitP t) (h:At B w (itR A n c t.batch::memR p size m::O::L)):Calls Tryz.prog 109 #[Pz p,.pointer o,Iv ps,thv id t A n c] w fun e w'=>∃ A' n' c' D dn dc,e=.returned (.tuple #[thv id (serves ps m t).2 A' n' c',.slice D dn dc])∧At B w' (itR A' n' c' (serves ps m t).2.batch::itR D dn dc []::itR A n c t.batch::memR p size (serves ps m t).1::O::L)∧Below B w w':=by
 refine cstep_fix (f:=153) hB (by omega) (by omega) hn2 (by rw [e];exact lk_after) cfc_after (fun W A4 c4 X L' hB4 h4=>?_) h;have:=after_c hB4 hz.fit h4;refine plain_c (A:=A4) (n:=n) (c:=c4) ?_;unfold serves
 simpa [e,Th.on'] using this
theorem c_tie (hB:B≤w.heap.size) (e:t.pc=30) (hn:n=t.batch.length) (hn2:n≤1000) (hz:FitP t) (h:At B w (itR A n c t.batch::memR p size m::O::L)):Calls Tryz.prog 109 #[Pz p,.pointer o,Iv ps,thv id t A n c] w fun e w'=>∃ A' n' c' D dn dc,e=.returned (.tuple #[thv id (serves ps m t).2 A' n' c',.slice D dn dc])∧At B w' (itR A' n' c' (serves ps m t).2.batch::itR D dn dc []::itR A n c t.batch::memR p size (serves ps m t).1::O::L)∧Below B w w':=by
 refine cstep_fix (f:=154) hB (by omega) (by omega) hn2 (by rw [e];exact lk_tie) cfc_tie (fun W A4 c4 X L' hB4 h4=>?_) h;have:=tie_c hB4 hz.fit h4;refine plain_c (A:=A4) (n:=n) (c:=c4) ?_;unfold serves
 simpa [e,Th.on'] using this
theorem c_set (hB:B≤w.heap.size) (e:t.pc=31) (hn:n=t.batch.length) (hn2:n≤1000) (hz:FitP t) (h:At B w (itR A n c t.batch::memR p size m::O::L)):Calls Tryz.prog 109 #[Pz p,.pointer o,Iv ps,thv id t A n c] w fun e w'=>∃ A' n' c' D dn dc,e=.returned (.tuple #[thv id (serves ps m t).2 A' n' c',.slice D dn dc])∧At B w' (itR A' n' c' (serves ps m t).2.batch::itR D dn dc []::itR A n c t.batch::memR p size (serves ps m t).1::O::L)∧Below B w w':=by
 refine cstep_fix (f:=155) hB (by omega) (by omega) hn2 (by rw [e];exact lk_set) cfc_set (fun W A4 c4 X L' hB4 h4=>?_) h;have:=set_c hB4 hz.fit h4;refine plain_c (A:=A4) (n:=n) (c:=c4) ?_;unfold serves
 simpa [e,Th.on'] using this
theorem c_seen (hB:B≤w.heap.size) (e:t.pc=32) (hn:n=t.batch.length) (hn2:n≤1000) (hz:FitP t) (h:At B w (itR A n c t.batch::memR p size m::O::L)):Calls Tryz.prog 109 #[Pz p,.pointer o,Iv ps,thv id t A n c] w fun e w'=>∃ A' n' c' D dn dc,e=.returned (.tuple #[thv id (serves ps m t).2 A' n' c',.slice D dn dc])∧At B w' (itR A' n' c' (serves ps m t).2.batch::itR D dn dc []::itR A n c t.batch::memR p size (serves ps m t).1::O::L)∧Below B w w':=by
 refine cstep_fix (f:=156) hB (by omega) (by omega) hn2 (by rw [e];exact lk_seen) cfc_seen (fun W A4 c4 X L' hB4 h4=>?_) h;have:=seen_c hB4 hz.fit h4;refine plain_c (A:=A4) (n:=n) (c:=c4) ?_;unfold serves
 simpa [e,Th.on'] using this
theorem c_scan (hB:B≤w.heap.size) (e:t.pc=33) (hn:n=t.batch.length) (hn2:n≤1000) (hz:FitP t) (h:At B w (itR A n c t.batch::memR p size m::O::L)):Calls Tryz.prog 109 #[Pz p,.pointer o,Iv ps,thv id t A n c] w fun e w'=>∃ A' n' c' D dn dc,e=.returned (.tuple #[thv id (serves ps m t).2 A' n' c',.slice D dn dc])∧At B w' (itR A' n' c' (serves ps m t).2.batch::itR D dn dc []::itR A n c t.batch::memR p size (serves ps m t).1::O::L)∧Below B w w':=by
 refine cstep_fix (f:=157) hB (by omega) (by omega) hn2 (by rw [e];exact lk_scan) cfc_scan (fun W A4 c4 X L' hB4 h4=>?_) h;have:=scan_c hB4 hz.fit rfl h4;refine plain_c (A:=A4) (n:=n) (c:=c4) ?_;unfold serves
 by_cases hc:ld m 1=0<;>simpa [e,hc,Th.on'] using this
theorem c_pick (hB:B≤w.heap.size) (e:t.pc=34) (hn:n=t.batch.length) (hn2:n≤1000) (hz:FitP t) (h:At B w (itR A n c t.batch::memR p size m::O::L)):Calls Tryz.prog 109 #[Pz p,.pointer o,Iv ps,thv id t A n c] w fun e w'=>∃ A' n' c' D dn dc,e=.returned (.tuple #[thv id (serves ps m t).2 A' n' c',.slice D dn dc])∧At B w' (itR A' n' c' (serves ps m t).2.batch::itR D dn dc []::itR A n c t.batch::memR p size (serves ps m t).1::O::L)∧Below B w w':=by
 refine cstep_fix (f:=158) hB (by omega) (by omega) hn2 (by rw [e];exact lk_pick) cfc_pick (fun W A4 c4 X L' hB4 h4=>?_) h;refine(pick_c hB4 hz.fit hn hn2 h4).mono fun e1 w1 ⟨A',n',c',g1,g2,g3⟩=>?_;refine⟨A',n',c',none,0,0,g1,?_,g3⟩;have g2:=Sep.cons (fun _ h=>Sep.cons (fun _ h=>Sep.cons (fun _ h=>nil_sl (e:=144) (sz:=3) h) h) h) g2;have hb:serves ps m t=(m,if 0<ld m t.cur then { t with look:=ld m t.cur,pc:=35,batch:=t.batch++[⟨t.cur,ld m t.cur,0⟩]} else { t with look:=ld m t.cur,pc:=35}):=by unfold serves;simp [e]
 rw [hb]
 by_cases hc:0<ld m t.cur
 ·simp only [if_pos hc] at g2 ⊢;exact g2
 ·simp only [if_neg hc] at g2 ⊢;exact g2
theorem c_next (hB:B≤w.heap.size) (e:t.pc=35) (hn:n=t.batch.length) (hn2:n≤1000) (hz:FitP t) (h:At B w (itR A n c t.batch::memR p size m::O::L)):Calls Tryz.prog 109 #[Pz p,.pointer o,Iv ps,thv id t A n c] w fun e w'=>∃ A' n' c' D dn dc,e=.returned (.tuple #[thv id (serves ps m t).2 A' n' c',.slice D dn dc])∧At B w' (itR A' n' c' (serves ps m t).2.batch::itR D dn dc []::itR A n c t.batch::memR p size (serves ps m t).1::O::L)∧Below B w w':=by
 refine cstep_fix (f:=159) hB (by omega) (by omega) hn2 (by rw [e];exact lk_next) cfc_next (fun W A4 c4 X L' hB4 h4=>?_) h;have:=next_c hB4 hz.fit hn rfl h4;refine plain_c (A:=A4) (n:=n) (c:=c4) ?_;unfold serves
 by_cases hc:ld m (t.cur+3)=0<;>simpa [e,hc] using this
theorem c_tell (hB:B≤w.heap.size) (e:t.pc=37) (hn:n=t.batch.length) (hn2:n≤1000) (hz:FitP t) (h:At B w (itR A n c t.batch::memR p size m::O::L)):Calls Tryz.prog 109 #[Pz p,.pointer o,Iv ps,thv id t A n c] w fun e w'=>∃ A' n' c' D dn dc,e=.returned (.tuple #[thv id (serves ps m t).2 A' n' c',.slice D dn dc])∧At B w' (itR A' n' c' (serves ps m t).2.batch::itR D dn dc []::itR A n c t.batch::memR p size (serves ps m t).1::O::L)∧Below B w w':=by
 obtain⟨x,hx,x0,x2,x4⟩:=hz.it (by omega);refine cstep_fix (f:=161) hB (by omega) (by omega) hn2 (by rw [e];exact lk_tell) cfc_tell (fun W A4 c4 X L' hB4 h4=>?_) h;have:=tell_c hB4 hn (by omega) hx x4 (Sep.cons (fun _ h=>h.rot2) h4);refine plain_c (A:=A4) (n:=n) (c:=c4) ?_;unfold serves;refine this.mono fun e1 w1 ⟨g1,g2,g3⟩=>⟨g1,?_,g3⟩
 simpa [e,hx] using Sep.cons (fun _ h=>h.rot2) g2
theorem c_age (hB:B≤w.heap.size) (e:t.pc=38) (hn:n=t.batch.length) (hn2:n≤1000) (hz:FitP t) (h:At B w (itR A n c t.batch::memR p size m::O::L)):Calls Tryz.prog 109 #[Pz p,.pointer o,Iv ps,thv id t A n c] w fun e w'=>∃ A' n' c' D dn dc,e=.returned (.tuple #[thv id (serves ps m t).2 A' n' c',.slice D dn dc])∧At B w' (itR A' n' c' (serves ps m t).2.batch::itR D dn dc []::itR A n c t.batch::memR p size (serves ps m t).1::O::L)∧Below B w w':=by
 obtain⟨x,hx,x0,x2,x4⟩:=hz.it (by omega);refine cstep_fix (f:=162) hB (by omega) (by omega) hn2 (by rw [e];exact lk_age) cfc_age (fun W A4 c4 X L' hB4 h4=>?_) h;have:=age_c hB4 hn (by omega) hx x2 (Sep.cons (fun _ h=>h.rot2) h4);refine plain_c (A:=A4) (n:=n) (c:=c4) ?_;unfold serves;refine this.mono fun e1 w1 ⟨g1,g2,g3⟩=>⟨g1,?_,g3⟩
 simpa [e,hx] using Sep.cons (fun _ h=>h.rot2) g2
theorem c_free (hB:B≤w.heap.size) (e:t.pc=39) (hn:n=t.batch.length) (hn2:n≤1000) (hz:FitP t) (h:At B w (itR A n c t.batch::memR p size m::O::L)):Calls Tryz.prog 109 #[Pz p,.pointer o,Iv ps,thv id t A n c] w fun e w'=>∃ A' n' c' D dn dc,e=.returned (.tuple #[thv id (serves ps m t).2 A' n' c',.slice D dn dc])∧At B w' (itR A' n' c' (serves ps m t).2.batch::itR D dn dc []::itR A n c t.batch::memR p size (serves ps m t).1::O::L)∧Below B w w':=by
 obtain⟨x,hx,x0,x2,x4⟩:=hz.it (by omega);refine cstep_fix (f:=163) hB (by omega) (by omega) hn2 (by rw [e];exact lk_free) cfc_free (fun W A4 c4 X L' hB4 h4=>?_) h;have:=free_c hB4 hn (by omega) hx x0 rfl (Sep.cons (fun _ h=>h.rot2) h4);refine plain_c (A:=A4) (n:=n) (c:=c4) ?_;unfold serves;refine this.mono fun e1 w1 ⟨g1,g2,g3⟩=>⟨g1,?_,g3⟩
 simpa [e,hx] using Sep.cons (fun _ h=>h.rot2) g2
theorem cstep_s (hB:B≤w.heap.size) (h1:20≤t.pc) (h2:t.pc≤39) (h3:t.pc≠36) (hn:n=t.batch.length) (hn2:n≤1000) (hz:FitP t) (h:At B w (itR A n c t.batch::memR p size m::O::L)):Calls Tryz.prog 109 #[Pz p,.pointer o,Iv ps,thv id t A n c] w fun e w'=>∃ A' n' c' D dn dc,e=.returned (.tuple #[thv id (serves ps m t).2 A' n' c',.slice D dn dc])∧At B w' (itR A' n' c' (serves ps m t).2.batch::itR D dn dc []::itR A n c t.batch::memR p size (serves ps m t).1::O::L)∧Below B w w':=by
 have hp:t.pc=20∨t.pc=21∨t.pc=22∨t.pc=23∨t.pc=24∨t.pc=25∨t.pc=26∨t.pc=27∨t.pc=28∨t.pc=29∨t.pc=30∨t.pc=31∨t.pc=32∨t.pc=33∨t.pc=34∨t.pc=35∨t.pc=37∨t.pc=38∨t.pc=39:=by omega
 rcases hp with e | e | e | e | e | e | e | e | e | e | e | e | e | e | e | e | e | e | e
 ·exact c_pass hB e hn hn2 hz h
 ·exact c_stamp hB e hn hn2 hz h
 ·exact c_many hB e hn hn2 hz h
 ·exact c_look hB e hn hn2 hz h
 ·exact c_pend hB e hn hn2 hz h
 ·exact c_help hB e hn hn2 hz h
 ·exact c_first hB e hn hn2 hz h
 ·exact c_bare hB e hn hn2 hz h
 ·exact c_solo hB e hn hn2 hz h
 ·exact c_after hB e hn hn2 hz h
 ·exact c_tie hB e hn hn2 hz h
 ·exact c_set hB e hn hn2 hz h
 ·exact c_seen hB e hn hn2 hz h
 ·exact c_scan hB e hn hn2 hz h
 ·exact c_pick hB e hn hn2 hz h
 ·exact c_next hB e hn hn2 hz h
 ·exact c_tell hB e hn hn2 hz h
 ·exact c_age hB e hn hn2 hz h
 ·exact c_free hB e hn hn2 hz h
end
set_option maxRecDepth 100000
theorem info_ops:(Tryz.prog.info? 45).map (fun i=>(i.zero,i.size,i.bytes))=some (some (.agg #[Ub 0,Iw 0]),2,8):=by kernel_rfl
theorem op_res (os:List (Int×Int)):os.flatMap opIn=os.flatMap resIn:=rfl
theorem ops_new {B n:Nat} {w:World} {L:List Res} {arr:Array Value} (hB:B≤w.heap.size) (hn:n≤1000) (h:At B w L) (harr:arr.toList=(List.replicate n ((#[Ub 0,Iw 0]:Array Value).toList)).flatten):At B (w.alloc (.cells arr 45)) (opsO (some ⟨w.heap.size,0,none⟩) n n (List.replicate n (0,0))::L):=
 h.made (fun x hx=>Nat.le_trans hB hx) ((Below.refl _ w).alloc (Nat.le_refl _) _) (Sl.of_made w 45 2 n arr _ (harr.trans (rep_rs n)) (by rw [res_len,List.length_replicate]) (by unfold maxLen;omega) ⟨Nat.le_refl _,by simp⟩)
section
variable {B g n k:Nat} {w:World} {L:List Res} {ts:List (Int×Int)}
theorem op_both (hB:B≤w.heap.size) (hk:k<n) (hf:Fits ts) (h:At B w (opsO (some ⟨g,0,none⟩) n n ts::L)) (c v:Int) (hc:In8 c v):
  (∃ u,w.cell? ⟨g,k*2,none⟩=some u)∧w.frozen? ⟨g,k*2,none⟩=false∧(∃ u,w.cell? ⟨g,k*2+1,none⟩=some u)∧w.frozen? ⟨g,k*2+1,none⟩=false∧∃ ts',Fits ts'∧At B ((w.setCell ⟨g,k*2,none⟩ (Ub c)).setCell ⟨g,k*2+1,none⟩ (Iw v)) (opsO (some ⟨g,0,none⟩) n n ts'::L)∧Below B w ((w.setCell ⟨g,k*2,none⟩ (Ub c)).setCell ⟨g,k*2+1,none⟩ (Iw v)):=by
 have hl:ts.length=n:=by
  have hs:Sl w 45 2 (some ⟨g,0,none⟩) n n (ts.flatMap resIn) (fun x=>B≤x):=h.get;have:=hs.1;rw [res_len] at this;omega
 obtain⟨p1,p2⟩:=res_at ts k (by omega);obtain⟨c1,f1,t1⟩:=own_cell hB (by decide) h p1;obtain⟨c2,f2,_⟩:=own_cell hB (by decide) h p2;obtain⟨s1,b1⟩:=t1 (Ub c);rw [op_res,res_set1 ts k (by omega) c] at s1;obtain⟨q1,q2⟩:=res_at (ts.set k (c,(ts[k]'(by omega)).2)) k (by rw [List.length_set];omega);obtain⟨_,_,t2⟩:=own_cell (Nat.le_trans hB b1.size) (by decide) s1 q2;obtain⟨s2,b2⟩:=t2 (Iw v);rw [res_set2 _ k (by rw [List.length_set];omega) v] at s2;simp only [Nat.zero_add] at c1 c2 f1 f2 s2 b1 b2;refine⟨⟨_,c1⟩,f1,⟨_,c2⟩,f2,_,?_,s2,b1.trans b2⟩;rw [List.set_set]
 simpa using hf.set k hc
end
theorem itC_set (l:List Sf.Item) (k:Nat) (hk:k<l.length) (v:Int):(itC l).set (k*3+2) (Iv v)=itC (l.set k { l[k] with res:=v}):=by
 induction l generalizing k with
 | nil=>simp at hk
 | cons a l ih=>
  rcases k with _ | k
  ·simp [itC]
  ·have:=ih k (by simpa using hk);rw [show (k+1)*3+2=(k*3+2)+1+1+1 by omega];simp only [itC,List.flatMap_cons,List.cons_append,List.nil_append,List.set_cons_succ,List.getElem_cons_succ] at this ⊢;rw [this]
def IsRes (x:Int):Prop:=∃ k v,In8 k v∧x=pk k v
section
variable {B X n c p o dn dc:Nat} {w:World} {id ps:Int} {L:List Res} {t:Th} {A:Option Addr} {plain:Bool}
set_option maxHeartbeats 4000000 in
theorem do_c (hB:B≤w.heap.size) (hn:n=t.batch.length) (hn2:n<20) (h:At B w (blkR X 224 (ct id t A n c p (some ⟨o,0,none⟩) ps none 0 0)::itR A n c t.batch::objR o plain::L)):
  Calls Tryz.prog 160 #[Pz X] w fun e w'=>∃ bs D dc,e=.returned (.tuple #[])∧bs.map (fun x=>(x.rc,x.word))=t.batch.map (fun x=>(x.rc,x.word))∧(∀ x∈bs,IsRes x.res)∧At B w' (blkR X 224 (ct id { t with batch:=bs,nth:=0,pc:=37} A n c p (some ⟨o,0,none⟩) ps D n dc)::itR A n c bs::itR D n dc bs::objR o plain::L)∧Below B w w':=by
 obtain⟨i0,hi0,hz0,hz1,hz2⟩:=info_parts info_ops;have HN:=Lib.hid hn;clear hn;have k12:=h.cv 12 (.slice A n c);go_enter Tryz.func160,Tryz.ntmps160;go_wp2_with (refine wpList_make_any _ rfl (.tmp 13) (.tmp 13) 81 rfl 45 i0 _ 2 8 Tryz.underlying81 hi0 hz0 hz1 hz2 rfl (by omega) .i64 .i64 n rfl rfl (by omega) (by omega) ?_;intro arr harr;have s1:=ops_new hB (by omega) h harr;have k12':(w.alloc (.cells arr 45)).cell? ⟨X,12,none⟩=some (.slice A n c):=s1.rot2.blk.cell 12);clear k12;have b1:Below B w (w.alloc (.cells arr 45)):=(Below.refl B w).alloc hB _;clear harr k12';generalize w.alloc (.cells arr 45)=w1 at*;generalize w.heap.size=g at s1 ⊢;have hf0:=fits_rep n
 go_loopw [21] (fun k wr=>∃ (m:Nat) (os:List (Int×Int)),m≤n∧k=Iv (m:Int)∧Fits os∧At B wr (opsO (some ⟨g,0,none⟩) n n os::blkR X 224 (ct id t A n c p (some ⟨o,0,none⟩) ps none 0 0)::itR A n c t.batch::objR o plain::L)∧Below B w wr) (fun k _=>n-(intOf k).toNat)
 case atStart=>exact⟨0,_,by omega,rfl,hf0,s1,b1⟩
 case round=>
  clear s1 b1 hf0;obtain⟨m,os,hm,rfl,hf2,s1,b1⟩:=hrel;have hBr:=Nat.le_trans hB b1.size
  by_cases hlt:m<n
  ·have hs:Sl wr 144 3 A n c (itC t.batch) (fun x=>B≤x):=(s1.ord [2]).get;obtain⟨g2,off2,rfl,_,_,_,hc⟩:=hs.at (by omega);have hmo:m<t.batch.length:=by rw [← HN.out];exact hlt
   obtain⟨y0,y1,y2⟩:=itC_at (List.getElem?_eq_getElem hmo);have y0:=hc _ _ y0;have y1:=hc _ _ y1;have y2:=hc _ _ y2;rw [← Nat.add_assoc] at y1 y2;generalize t.batch[m]=it at y0 y1 y2;clear hs hc;have hltz:(m:Int)<(n:Int):=by omega
   have s2:=(s1.alloc hBr #[Iv it.rc,Iv it.word,Iv it.res] 144).drop;have b2:=b1.alloc hBr (.cells #[Iv it.rc,Iv it.word,Iv it.res] 144);have hB2:=Nat.le_trans hB b2.size;go_wp2_with fail;refine(ofOp_any _ it.word).mono ?_;rintro e w3 ⟨rfl,b3⟩;have s3:=s2.keep b3;have hB3:=Nat.le_trans hB2 b3.size;obtain⟨⟨u5,z5⟩,f5,⟨u6,z6⟩,f6,ts5,hF5,s6,b6⟩:=op_both hB3 hlt hf2 s3 _ _ (un_in it.word);have b7:=(b2.trans (b3.mono hB2)).trans b6;generalize unK it.word=xk at*;generalize unV it.word=xv at*;generalize decide (1≤it.word∧it.word≤1099511627776)=bb at*;clear y0 y1 y2 s1 s2 s3 b1 b2 b3 b6;go_wp2
   go_roundw
   case rel=>exact⟨m+1,ts5,by omega,by go_num,hF5,s6,b7⟩
   case measure=>simp [intOf];omega
  ·have hltz:¬ (m:Int)<(n:Int):=by omega
   have hopl:os.length=n:=by
    have hs:Sl wr 45 2 (some ⟨g,0,none⟩) n n (os.flatMap resIn) (fun x=>B≤x):=s1.get;have:=hs.1;rw [res_len] at this;omega
   have k12:=s1.rot2.cv 12 (.slice A n c);have k14:=s1.rot2.cv 14 (Pz o);have hdo:=do_o (c:=n) hBr hopl hn2 hf2 (s1.ord [3,0]);clear hf2 hopl;go_wp2_with fail;refine hdo.mono ?_;rintro e w4 ⟨g4,ts,rfl,hF,s4,b4⟩;have hB4:=Nat.le_trans hBr b4.size;have b5:=b1.trans b4;have s5:At B w4 (blkR X 224 (ct id t A n c p (some ⟨o,0,none⟩) ps none 0 0)::itR A n c t.batch::resO g4 n ts::objR o plain::L):=(s4.ord [2,2,2]).drop;have k12:=s5.cv 12 (.slice A n c);clear s1 s4 b1 b4 hdo k14;go_wp2_with fail;clear k12;have hF':=Lib.hid hF;clear hF
   go_loopw [48] (fun k wr=>∃ (m:Nat) (bs:List Sf.Item),m≤n∧k=Iv (m:Int)∧Hid (bs.map (fun x=>(x.rc,x.word))=t.batch.map (fun x=>(x.rc,x.word)))∧Hid (∀ j x,j<m→bs[j]? =some x→IsRes x.res)∧At B wr (blkR X 224 (ct id t A n c p (some ⟨o,0,none⟩) ps none 0 0)::itR A n c bs::resO g4 n ts::objR o plain::L)∧Below B w wr) (fun k _=>n-(intOf k).toNat)
   case atStart=>exact⟨0,t.batch,by omega,rfl,Lib.hid rfl,Lib.hid (fun j x hj=>absurd hj (by omega)),s5,b5⟩
   case round=>
    clear s5 b5 hlt hltz hm;obtain⟨m,bs,hm,rfl,HE,HS,s1,b1⟩:=hrel;have hBr:=Nat.le_trans hB b1.size
    by_cases hlt:m<n
    ·have hs:Sl wr 144 3 A n c (itC bs) (fun x=>B≤x):=s1.rot2.get;obtain⟨g2,off2,rfl,-⟩:=hs.at (by omega);have hbl:bs.length=n:=by have:=congrArg List.length HE.out;simpa [← HN.out] using this
     have hmo:m<bs.length:=by omega
     have hltz:(m:Int)<(n:Int):=by omega
     have htl:=told_len (s1.ord [2]);obtain⟨p1,p2⟩:=res_at ts m (by omega);have hfm0:=Lib.hid (hF'.out ts[m] (List.getElem_mem (by omega)));have sz:=s1.alloc hBr #[Ub 0,Iw 0] 47;have z1:=(own_cell (by simp;omega) (by decide) (sz.ord [3]) p1).1;have z2:=(own_cell (by simp;omega) (by decide) (sz.ord [3]) p2).1;clear sz;simp only [Nat.zero_add] at z1 z2;obtain⟨xc,hxc⟩:∃ x,x=(ts[m]'(by omega)).1:=⟨_,rfl⟩;obtain⟨xv,hxv⟩:∃ x,x=(ts[m]'(by omega)).2:=⟨_,rfl⟩;rw [← hxc] at z1;rw [← hxv] at z2;have hfm:Hid (In8 xc xv):=Lib.hid (by rw [hxc,hxv];exact hfm0.out);clear hfm0 hxc hxv p1 p2 hs htl;have k12:=s1.cv 12 (.slice (some ⟨g2,off2,none⟩) n c);have s2:=s1.alloc hBr #[Ub xc,Iw xv] 47;have b2:=b1.alloc hBr (.cells #[Ub xc,Iw xv] 47);have hB2:=Nat.le_trans hB b2.size;have x12:(wr.alloc (.cells #[Ub xc,Iw xv] 47)).drew.cell? ⟨X,12,none⟩=some (.slice (some ⟨g2,off2,none⟩) n c):=s2.rot2.blk.cell 12;have x0:(wr.alloc (.cells #[Ub xc,Iw xv] 47)).drew.cell? ⟨wr.heap.size,0,none⟩=some (Ub xc):=s2.blk.cell 0
     have x1:(wr.alloc (.cells #[Ub xc,Iw xv] 47)).drew.cell? ⟨wr.heap.size,1,none⟩=some (Iw xv):=s2.blk.cell 1;go_wp2_with fail
     go_region_held3 (fun w'=>w'.cell? ⟨X,12,none⟩=some (.slice (some ⟨g2,off2,none⟩) n c)∧w'.cell? ⟨wr.heap.size,0,none⟩=some (Ub xc)∧w'.cell? ⟨wr.heap.size,1,none⟩=some (Iw xv)) (first | assumption | (exact ⟨by assumption,by assumption,by assumption⟩) | go_keep) (first
      | (go_at_call 181;((with_reducible refine(res_any _ xc xv hfm.out).mono ?_);rintro e w5 ⟨rfl,b5⟩;have s5:=(Sep.drew s2).keep b5;have hB5:B≤w5.heap.size:=Nat.le_trans hB2 b5.size;have x12:=s5.rot2.cv 12 (.slice (some ⟨g2,off2,none⟩) n c);have x0:w5.cell? ⟨wr.heap.size,0,none⟩=some (Ub xc):=s5.blk.cell 0;have x1:w5.cell? ⟨wr.heap.size,1,none⟩=some (Iw xv):=s5.blk.cell 1;obtain⟨v2,f2,t2⟩:=own_cell hB5 (by decide) (s5.ord [2]) (itC_at (List.getElem?_eq_getElem hmo)).2.2;obtain⟨s6,b6⟩:=t2 (Iv (pk xc xv));have v2':w5.cell? ⟨g2,off2+m*3+2,none⟩≠none:=(by rw [Nat.add_assoc,v2];simp);rw [← Nat.add_assoc] at v2 f2 s6 b6;have s6':=s6.ord [1,1];have x12:(w5.setCell ⟨g2,off2+m*3+2,none⟩ (Iv (pk xc xv))).cell? ⟨X,12,none⟩=some (.slice (some ⟨g2,off2,none⟩) n c):=s6'.rot2.blk.cell 12;have x0:(w5.setCell ⟨g2,off2+m*3+2,none⟩ (Iv (pk xc xv))).cell? ⟨wr.heap.size,0,none⟩=some (Ub xc):=s6'.blk.cell 0;have x1:(w5.setCell ⟨g2,off2+m*3+2,none⟩ (Iv (pk xc xv))).cell? ⟨wr.heap.size,1,none⟩=some (Iw xv):=s6'.blk.cell 1))
      | (fail "no arm"))
     have b8:=((Below.drew b2).trans (b5.mono hB2)).trans b6;have hel:Hid ((itC bs).set (m*3+2) (Iv (pk xc xv))=itC (bs.set m { bs[m]'hmo with res:=pk xc xv})):=Lib.hid (itC_set bs m hmo (pk xc xv))
     have HE':Hid ((bs.set m { bs[m]'hmo with res:=pk xc xv}).map (fun x=>(x.rc,x.word))=t.batch.map (fun x=>(x.rc,x.word))):=Lib.hid (by
      rw [← HE.out,List.map_set];apply List.ext_getElem?;intro j;rw [List.getElem?_set]
      by_cases e:m=j
      ·subst e;simp [hmo]
      ·rw [if_neg e])
     have HS':Hid (∀ j x,j<m+1→(bs.set m { bs[m]'hmo with res:=pk xc xv})[j]? =some x→IsRes x.res):=Lib.hid (by
      intro j x hj hx;rw [List.getElem?_set] at hx
      by_cases e:m=j
      ·subst e;rw [if_pos rfl,if_pos hmo] at hx;simp only [Option.some.injEq] at hx;rw [← hx];exact⟨xc,xv,hfm.out,rfl⟩
      ·rw [if_neg e] at hx;exact HS.out j x (by omega) hx)
     have s7:=s6'.drop;rw [hel.out] at s7;clear t2 s6 s6' s5 s1 s2 b1 b2 b5 b6 v2 v2' f2 hel z1 z2 k12;go_wp2
     go_roundw
     case rel=>exact⟨m+1,_,by omega,by go_num,HE',HS',s7,b8⟩
     case measure=>simp [intOf];omega
    ·have hltz:¬ (m:Int)<(n:Int):=by omega
     have hbl:bs.length=n:=by have:=congrArg List.length HE.out;simpa [← HN.out] using this
     have hall:Hid (∀ x∈bs,IsRes x.res):=Lib.hid (fun x hx=>by
      obtain⟨j,hj,rfl⟩:=List.getElem_of_mem hx;exact HS.out j _ (by omega) (List.getElem?_eq_getElem hj))
     have k12:=s1.cv 12 (.slice A n c);have hcl:=cloneItem_s hBr s1.rot2 (one_itC _) (by omega);clear HS;go_wp2_with fail;refine hcl.mono ?_;rintro e w5 ⟨D,dc,rfl,s5,b5⟩;have hB5:=Nat.le_trans hBr b5.size;have s6:At B w5 (blkR X 224 (ct id t A n c p (some ⟨o,0,none⟩) ps none 0 0)::itR A n c bs::itR D n dc bs::objR o plain::L):=(s5.ord [3,2,1,0]).drop;clear s1 s5 k12 hcl;have b6:=b1.trans b5;have k16:=s6.cv 16 (.slice none 0 0);have k8:=s6.cv 8 (Iv t.nth);have k1:=s6.cv 1 (Iv t.pc);have f16:=s6.blk.frozen 16;have f8:=s6.blk.frozen 8;have f1:=s6.blk.frozen 1;obtain⟨s7,b7⟩:=bset hB5 s6 16 (.slice D n dc);obtain⟨s8,b8⟩:=bset (Nat.le_trans hB5 b7.size) s7 8 (Iv 0);obtain⟨s9,b9⟩:=bset (Nat.le_trans hB5 (b7.trans b8).size) s8 1 (Iv 37);go_wp2_with fail
     go_end0
     exact⟨bs,D,dc,rfl,HE.out,hall.out,s9,b6.trans ((b7.trans b8).trans b9)⟩
end
end Go.Proofs.YtadgbhjpgnlmoaaGreat
