/- TopSafe, a part of its proof; no conditions. -/
import Derived.Test.YtadgbhjpgnlmoaaGreatPk27
import Derived.Test.YtadgbhjpgnlmoaaGreatPk28
import Derived.Test.YtadgbhjpgnlmoaaGreatPk30
set_option linter.all false
namespace Go.Proofs.YtadgbhjpgnlmoaaGreat
open Go.RowKit Go.Rp Go.Sf
theorem it_len {B n c:Nat} {w:World} {A:Option Addr} {l:List Sf.Item} {L:List Res} (h:At B w (itR A n c l::L)):l.length=n:=by
 have hs:Sl w _ 3 A n c (itC l) (fun x=>B≤x):=h.get;have h1:=hs.1
 have h2:∀ l:List Sf.Item,(itC l).length=l.length*3:=by
  intro l
  induction l with
  | nil=>rfl
  | cons a l ih=>simp only [itC,List.flatMap_cons,List.length_append,List.length_cons,List.length_nil] at ih ⊢;omega
 rw [h2] at h1;omega
theorem cdo_s {B n c p o:Nat} {w:World} {size id ps:Int} {m:List Int} {L:List Res} {t:Th} {A:Option Addr} {plain:Bool} (hB:B≤w.heap.size) (e:t.pc=36) (hn:n=t.batch.length) (hn2:n<20) (h:At B w (itR A n c t.batch::memR p size m::objR o plain::L)):
  Calls Tryz.prog 109 #[Pz p,Pz o,Iv ps,thv id t A n c] w fun e w'=>∃ bs A' n' c' D dn dc,e=.returned (.tuple #[thv id { t with batch:=bs,nth:=0,pc:=37} A' n' c',.slice D dn dc])∧bs.map (fun x=>(x.rc,x.word))=t.batch.map (fun x=>(x.rc,x.word))∧(∀ x∈bs,IsRes x.res)∧At B w' (itR A' n' c' bs::itR D dn dc bs::itR A n c t.batch::memR p size m::objR o plain::L)∧Below B w w':=by
 refine(cstep_any (R:=fun t2 dl=>t2= { t with batch:=dl,nth:=0,pc:=37}∧dl.map (fun x=>(x.rc,x.word))=t.batch.map (fun x=>(x.rc,x.word))∧∀ x∈dl,IsRes x.res) (f:=160) (m2:=m) (O':=objR o plain) hB (by omega) (by omega) (by omega) (by rw [e];exact lk_do) cfc_do (fun W A4 c4 X L' hBW hW=>?_) h).mono ?_
 ·refine(do_c hBW hn hn2 (show At B W (blkR X _ (ct id t A4 n c4 p (some ⟨o,0,none⟩) ps none 0 0)::itR A4 n c4 t.batch::objR o plain::memR p size m::L') from hW.ord [0,1,1])).mono ?_;rintro e w' ⟨bs,D,dc,he,hm,hr,hs,hb⟩;exact⟨_,bs,A4,n,c4,D,n,dc,⟨rfl,hm,hr⟩,he,hs.ord [0,3],hb⟩
 ·rintro e w' ⟨t2,dl,A',n',c',D,dn,dc,⟨rfl,hm,hr⟩,he,hs,hb⟩;exact⟨dl,A',n',c',D,dn,dc,he,hm,hr,hs,hb⟩
theorem idx_alloc (w:World) (X:Nat):(Instr.index 220 (pl X) (Iv 1)).run Tryz.prog w=.ok (mth X 128) w:=by kernel_rfl
theorem cf_alloc (args:Array Value) (w:World):(callFunc 128 args).run Tryz.prog w=.ok (.enter 128 args) w:=by kernel_rfl
theorem idx_publish (w:World) (X:Nat):(Instr.index 220 (pl X) (Iv 2)).run Tryz.prog w=.ok (mth X 129) w:=by kernel_rfl
theorem cf_publish (args:Array Value) (w:World):(callFunc 129 args).run Tryz.prog w=.ok (.enter 129 args) w:=by kernel_rfl
theorem idx_closed (w:World) (X:Nat):(Instr.index 220 (pl X) (Iv 3)).run Tryz.prog w=.ok (mth X 130) w:=by kernel_rfl
theorem cf_closed (args:Array Value) (w:World):(callFunc 130 args).run Tryz.prog w=.ok (.enter 130 args) w:=by kernel_rfl
theorem idx_open (w:World) (X:Nat):(Instr.index 220 (pl X) (Iv 4)).run Tryz.prog w=.ok (mth X 131) w:=by kernel_rfl
theorem cf_open (args:Array Value) (w:World):(callFunc 131 args).run Tryz.prog w=.ok (.enter 131 args) w:=by kernel_rfl
theorem idx_check (w:World) (X:Nat):(Instr.index 220 (pl X) (Iv 5)).run Tryz.prog w=.ok (mth X 132) w:=by kernel_rfl
theorem cf_check (args:Array Value) (w:World):(callFunc 132 args).run Tryz.prog w=.ok (.enter 132 args) w:=by kernel_rfl
theorem idx_claim (w:World) (X:Nat):(Instr.index 220 (pl X) (Iv 6)).run Tryz.prog w=.ok (mth X 133) w:=by kernel_rfl
theorem cf_claim (args:Array Value) (w:World):(callFunc 133 args).run Tryz.prog w=.ok (.enter 133 args) w:=by kernel_rfl
theorem idx_front (w:World) (X:Nat):(Instr.index 220 (pl X) (Iv 7)).run Tryz.prog w=.ok (mth X 134) w:=by kernel_rfl
theorem cf_front (args:Array Value) (w:World):(callFunc 134 args).run Tryz.prog w=.ok (.enter 134 args) w:=by kernel_rfl
theorem idx_next (w:World) (X:Nat):(Instr.index 220 (pl X) (Iv 8)).run Tryz.prog w=.ok (mth X 135) w:=by kernel_rfl
theorem cf_next (args:Array Value) (w:World):(callFunc 135 args).run Tryz.prog w=.ok (.enter 135 args) w:=by kernel_rfl
theorem idx_link (w:World) (X:Nat):(Instr.index 220 (pl X) (Iv 9)).run Tryz.prog w=.ok (mth X 136) w:=by kernel_rfl
theorem cf_link (args:Array Value) (w:World):(callFunc 136 args).run Tryz.prog w=.ok (.enter 136 args) w:=by kernel_rfl
theorem idx_mark (w:World) (X:Nat):(Instr.index 220 (pl X) (Iv 10)).run Tryz.prog w=.ok (mth X 137) w:=by kernel_rfl
theorem cf_mark (args:Array Value) (w:World):(callFunc 137 args).run Tryz.prog w=.ok (.enter 137 args) w:=by kernel_rfl
theorem idx_wait (w:World) (X:Nat):(Instr.index 220 (pl X) (Iv 11)).run Tryz.prog w=.ok (mth X 138) w:=by kernel_rfl
theorem cf_wait (args:Array Value) (w:World):(callFunc 138 args).run Tryz.prog w=.ok (.enter 138 args) w:=by kernel_rfl
theorem idx_lock (w:World) (X:Nat):(Instr.index 220 (pl X) (Iv 12)).run Tryz.prog w=.ok (mth X 139) w:=by kernel_rfl
theorem cf_lock (args:Array Value) (w:World):(callFunc 139 args).run Tryz.prog w=.ok (.enter 139 args) w:=by kernel_rfl
theorem idx_take (w:World) (X:Nat):(Instr.index 220 (pl X) (Iv 13)).run Tryz.prog w=.ok (mth X 140) w:=by kernel_rfl
theorem cf_take (args:Array Value) (w:World):(callFunc 140 args).run Tryz.prog w=.ok (.enter 140 args) w:=by kernel_rfl
theorem idx_read (w:World) (X:Nat):(Instr.index 220 (pl X) (Iv 14)).run Tryz.prog w=.ok (mth X 141) w:=by kernel_rfl
theorem cf_read (args:Array Value) (w:World):(callFunc 141 args).run Tryz.prog w=.ok (.enter 141 args) w:=by kernel_rfl
theorem idx_sure (w:World) (X:Nat):(Instr.index 220 (pl X) (Iv 15)).run Tryz.prog w=.ok (mth X 142) w:=by kernel_rfl
theorem cf_sure (args:Array Value) (w:World):(callFunc 142 args).run Tryz.prog w=.ok (.enter 142 args) w:=by kernel_rfl
theorem idx_drop (w:World) (X:Nat):(Instr.index 220 (pl X) (Iv 16)).run Tryz.prog w=.ok (mth X 143) w:=by kernel_rfl
theorem cf_drop (args:Array Value) (w:World):(callFunc 143 args).run Tryz.prog w=.ok (.enter 143 args) w:=by kernel_rfl
def tK (m:List Int) (t:Th):Int:=if t.pc=14 then unK (ld m (t.rc+4)) else 0
def tV (m:List Int) (t:Th):Int:=if t.pc=14 then unV (ld m (t.rc+4)) else 0
section
variable {B p n c:Nat} {w:World} {size id:Int} {m:List Int} {L:List Res} {t:Th} {A:Option Addr}
theorem ostep_s (hB:B≤w.heap.size) (h1:1≤t.pc) (h2:t.pc≤16) (hn:n≤1000) (hz:Fit t) (hid:IntKind.i64.wrap (id+1)=id+1) (h:At B w (itR A n c t.batch::memR p size m::L)):
  Calls Tryz.prog 108 #[Pz p,thv id t A n c] w fun e w'=>∃ A' c',e=.returned (.tuple #[thv id (asks size id m t).2 A' n c',two8 (tK m t) (tV m t),.bool (decide (t.pc=14))])∧At B w' (itR A' n c' t.batch::itR A n c t.batch::memR p size (asks size id m t).1::L)∧Below B w w':=by
 have hp:t.pc=1∨t.pc=2∨t.pc=3∨t.pc=4∨t.pc=5∨t.pc=6∨t.pc=7∨t.pc=8∨t.pc=9∨t.pc=10∨t.pc=11∨t.pc=12∨t.pc=13∨t.pc=14∨t.pc=15∨t.pc=16:=by omega
 rcases hp with e | e | e | e | e | e | e | e | e | e | e | e | e | e | e | e
 ·have hk:tK m t=0∧tV m t=0∧decide (t.pc=14)=false:=by unfold tK tV;rw [e];simp
  rw [hk.1,hk.2.1,hk.2.2];refine step_any (f:=128) hB h1 h2 hn (by rw [e];exact idx_alloc) cf_alloc (fun W A4 c4 X L' hB4 h4=>?_) h;have:=alloc_o hB4 h4;unfold asks
  by_cases hc:5≤size-(m.length:Int)<;>simpa [e,hc] using this
 ·have hk:tK m t=0∧tV m t=0∧decide (t.pc=14)=false:=by unfold tK tV;rw [e];simp
  rw [hk.1,hk.2.1,hk.2.2];refine step_any (f:=129) hB h1 h2 hn (by rw [e];exact idx_publish) cf_publish (fun W A4 c4 X L' hB4 h4=>?_) h;have:=publish_o hB4 hz rfl h4;unfold asks
  simpa [e] using this
 ·have hk:tK m t=0∧tV m t=0∧decide (t.pc=14)=false:=by unfold tK tV;rw [e];simp
  rw [hk.1,hk.2.1,hk.2.2];refine step_any (f:=130) hB h1 h2 hn (by rw [e];exact idx_closed) cf_closed (fun W A4 c4 X L' hB4 h4=>?_) h;have:=closed_o hB4 hz rfl h4;unfold asks
  simpa [e] using this
 ·have hk:tK m t=0∧tV m t=0∧decide (t.pc=14)=false:=by unfold tK tV;rw [e];simp
  rw [hk.1,hk.2.1,hk.2.2];refine step_any (f:=131) hB h1 h2 hn (by rw [e];exact idx_open) cf_open (fun W A4 c4 X L' hB4 h4=>?_) h;have:=open_o hB4 hz h4;unfold asks
  simpa [e] using this
 ·have hk:tK m t=0∧tV m t=0∧decide (t.pc=14)=false:=by unfold tK tV;rw [e];simp
  rw [hk.1,hk.2.1,hk.2.2];refine step_any (f:=132) hB h1 h2 hn (by rw [e];exact idx_check) cf_check (fun W A4 c4 X L' hB4 h4=>?_) h;have:=check_o hB4 hz rfl h4;unfold asks
  simpa [e] using this
 ·have hk:tK m t=0∧tV m t=0∧decide (t.pc=14)=false:=by unfold tK tV;rw [e];simp
  rw [hk.1,hk.2.1,hk.2.2];refine step_any (f:=133) hB h1 h2 hn (by rw [e];exact idx_claim) cf_claim (fun W A4 c4 X L' hB4 h4=>?_) h;have:=claim_o hB4 hz rfl h4;unfold asks
  simpa [e] using this
 ·have hk:tK m t=0∧tV m t=0∧decide (t.pc=14)=false:=by unfold tK tV;rw [e];simp
  rw [hk.1,hk.2.1,hk.2.2];refine step_any (f:=134) hB h1 h2 hn (by rw [e];exact idx_front) cf_front (fun W A4 c4 X L' hB4 h4=>?_) h;have:=front_o hB4 hz h4;unfold asks
  simpa [e] using this
 ·have hk:tK m t=0∧tV m t=0∧decide (t.pc=14)=false:=by unfold tK tV;rw [e];simp
  rw [hk.1,hk.2.1,hk.2.2];refine step_any (f:=135) hB h1 h2 hn (by rw [e];exact idx_next) cf_next (fun W A4 c4 X L' hB4 h4=>?_) h;have:=next_o hB4 hz h4;unfold asks
  simpa [e] using this
 ·have hk:tK m t=0∧tV m t=0∧decide (t.pc=14)=false:=by unfold tK tV;rw [e];simp
  rw [hk.1,hk.2.1,hk.2.2];refine step_any (f:=136) hB h1 h2 hn (by rw [e];exact idx_link) cf_link (fun W A4 c4 X L' hB4 h4=>?_) h;have:=link_o hB4 rfl h4;unfold asks
  simpa [e] using this
 ·have hk:tK m t=0∧tV m t=0∧decide (t.pc=14)=false:=by unfold tK tV;rw [e];simp
  rw [hk.1,hk.2.1,hk.2.2];refine step_any (f:=137) hB h1 h2 hn (by rw [e];exact idx_mark) cf_mark (fun W A4 c4 X L' hB4 h4=>?_) h;have:=mark_o hB4 hz h4;unfold asks
  simpa [e] using this
 ·have hk:tK m t=0∧tV m t=0∧decide (t.pc=14)=false:=by unfold tK tV;rw [e];simp
  rw [hk.1,hk.2.1,hk.2.2];refine step_any (f:=138) hB h1 h2 hn (by rw [e];exact idx_wait) cf_wait (fun W A4 c4 X L' hB4 h4=>?_) h;have:=wait_o hB4 hz rfl h4;unfold asks
  simpa [e] using this
 ·have hk:tK m t=0∧tV m t=0∧decide (t.pc=14)=false:=by unfold tK tV;rw [e];simp
  rw [hk.1,hk.2.1,hk.2.2];refine step_any (f:=139) hB h1 h2 hn (by rw [e];exact idx_lock) cf_lock (fun W A4 c4 X L' hB4 h4=>?_) h;have:=lock_o hB4 hz rfl h4;unfold asks
  simpa [e] using this
 ·have hk:tK m t=0∧tV m t=0∧decide (t.pc=14)=false:=by unfold tK tV;rw [e];simp
  rw [hk.1,hk.2.1,hk.2.2];refine step_any (f:=140) hB h1 h2 hn (by rw [e];exact idx_take) cf_take (fun W A4 c4 X L' hB4 h4=>?_) h;have:=take_o hB4 hid rfl rfl h4;unfold asks
  simpa [e] using this
 ·have hk:tK m t=unK (ld m (t.rc+4))∧tV m t=unV (ld m (t.rc+4))∧decide (t.pc=14)=true:=by unfold tK tV;rw [e];simp
  rw [hk.1,hk.2.1,hk.2.2];refine step_any (f:=141) hB h1 h2 hn (by rw [e];exact idx_read) cf_read (fun W A4 c4 X L' hB4 h4=>?_) h;have:=read_o hB4 hz.e4 h4;unfold asks
  simpa [e] using this
 ·have hk:tK m t=0∧tV m t=0∧decide (t.pc=14)=false:=by unfold tK tV;rw [e];simp
  rw [hk.1,hk.2.1,hk.2.2];refine step_any (f:=142) hB h1 h2 hn (by rw [e];exact idx_sure) cf_sure (fun W A4 c4 X L' hB4 h4=>?_) h;have:=sure_o hB4 hz rfl h4;unfold asks
  simpa [e] using this
 ·have hk:tK m t=0∧tV m t=0∧decide (t.pc=14)=false:=by unfold tK tV;rw [e];simp
  rw [hk.1,hk.2.1,hk.2.2];refine step_any (f:=143) hB h1 h2 hn (by rw [e];exact idx_drop) cf_drop (fun W A4 c4 X L' hB4 h4=>?_) h;have:=drop_o hB4 hz h4;unfold asks
  simpa [e] using this
end
set_option maxRecDepth 100000
structure Tr where
 id:Int
 t:Th
 A:Option Addr
 c:Nat
abbrev trIn (x:Tr):List Value:=
 [Iv x.id,Iv x.t.pc,Iv x.t.rc,Iv x.t.seq,Iv x.t.word,Iv x.t.look,Iv x.t.cur,Iv x.t.prev,Iv x.t.nth,Iv x.t.many,Iv x.t.pass,Iv x.t.runs,.slice x.A x.t.batch.length x.c]
def trC (l:List Tr):List Value:=l.flatMap trIn
abbrev trR (A:Option Addr) (n c:Nat) (l:List Tr):Res:=slRes 93 13 A n c (trC l)
abbrev itO (x:Tr):Res:=itR x.A x.t.batch.length x.c x.t.batch
structure Ev where
 kind:Int
 th:Int
 seq:Int
 ok:Int
 ov:Int
 rc:Int
 rv:Int
 at_:Int
def evIn (x:Ev):List Value:=[Ub x.kind,Iv x.th,Iv x.seq,Ub x.ok,Iw x.ov,Ub x.rc,Iw x.rv,Iv x.at_]
abbrev evR (A:Option Addr) (n c:Nat) (l:List Ev):Res:=slRes 49 8 A n c (l.flatMap evIn)
structure Ap where
 th:Int
 seq:Int
 ok:Int
 ov:Int
 rc:Int
 rv:Int
 nb:Int
def apIn (x:Ap):List Value:=[Iv x.th,Iv x.seq,Ub x.ok,Iw x.ov,Ub x.rc,Iw x.rv,Iv x.nb]
abbrev apR (A:Option Addr) (n c:Nat) (l:List Ap):Res:=slRes 51 7 A n c (l.flatMap apIn)
abbrev pkR (A:Option Addr) (n c:Nat) (l:List Int):Res:=slRes 3 1 A n c (l.map (.int .i64 ·))
structure Cf where
 ob:Int
 th:Int
 cap:Int
 age:Int
 ps:Int
 plain:Bool
structure Wst where
 m:List Int
 ow:List (Int×Value)
 ev:List Ev
 lg:List Ap
 pk:List Int
 nb:Int
structure Ad where
 p:Nat
 size:Int
 o:Nat
 r:Nat
 At:Option Addr
 ct:Nat
 Ae:Option Addr
 ce:Nat
 Al:Option Addr
 cl:Nat
 Ap:Option Addr
 cp:Nat
 T:List Tr
abbrev wc (cf:Cf) (a:Ad) (s:Wst):Array Value:=
 #[Ub cf.ob,Iv cf.th,Iv cf.cap,Iv cf.age,Iv cf.ps,.bool cf.plain,Pz a.p,Pz a.o,.slice a.At a.T.length a.ct,.map (some a.r),.slice a.Ae s.ev.length a.ce,.slice a.Al s.lg.length a.cl,.slice a.Ap s.pk.length a.cp,Iv s.nb]
abbrev wTop (X:Nat) (cf:Cf) (a:Ad) (s:Wst) (R:List Res):List Res:=
 blkR X 90 (wc cf a s)::trR a.At a.T.length a.ct a.T::memR a.p a.size s.m::objR a.o cf.plain::mapR .i64 a.r s.ow::evR a.Ae s.ev.length a.ce s.ev::apR a.Al s.lg.length a.cl s.lg::pkR a.Ap s.pk.length a.cp s.pk::R
def rst (T:List Tr) (k:Nat):List Res:=(T.map itO).eraseIdx k
theorem bat_open {w:World} {U:Nat→Prop} {T:List Tr} {k:Nat} {x:Tr} {L:List Res} (hk:T[k]? =some x) (h:Sep w U (T.map itO++L)):Sep w U (itO x::(rst T k++L)):=by
 have hl:k<(T.map itO).length:=by rw [List.length_map];exact(List.getElem?_eq_some_iff.1 hk).1
 have:=Sep.pickAt (i:=k) (a:=itO x) (by rw [List.getElem?_append_left hl,List.getElem?_map,hk];rfl) h;rw [List.eraseIdx_append_of_lt_length hl] at this;exact this
theorem Sep.putAt {w:World}:∀ {l:List Res} {U:Nat→Prop} {i:Nat} {a:Res},i<l.length→Sep w U (a::l.eraseIdx i)→Sep w U (l.set i a)
 | [],_,_,_,h,_=>by simp at h
 | b::l,U,0,a,_,s=>by simpa using s
 | b::l,U,i+1,a,h,s=>by
  rw [List.eraseIdx_cons_succ] at s;rw [List.set_cons_succ];exact Sep.cons (fun V hV=>Sep.putAt (by simpa using h) hV) s.rot2
theorem bat_shut {w:World} {U:Nat→Prop} {T:List Tr} {k:Nat} {x:Tr} {L:List Res} (hk:k<T.length) (h:Sep w U (itO x::(rst T k++L))):Sep w U ((T.set k x).map itO++L):=by
 have hl:k<(T.map itO).length:=by rw [List.length_map];exact hk
 rw [rst,←List.eraseIdx_append_of_lt_length hl] at h;have:=Sep.putAt (i:=k) (a:=itO x) (by rw [List.length_append];omega) h;rw [List.set_append_left _ _ hl] at this;rw [List.map_set];exact this
theorem open8 {w:World} {U:Nat→Prop} {T:List Tr} {k:Nat} {x:Tr} {L:List Res} {a b c d e f g h:Res} (hk:T[k]? =some x) (s:Sep w U (a::b::c::d::e::f::g::h::(T.map itO++L))):Sep w U (a::b::c::d::e::f::g::h::itO x::(rst T k++L)):=
 Sep.cons (fun _ s=>Sep.cons (fun _ s=>Sep.cons (fun _ s=>Sep.cons (fun _ s=>Sep.cons (fun _ s=>Sep.cons (fun _ s=>Sep.cons (fun _ s=>Sep.cons (fun _ s=>bat_open hk s) s) s) s) s) s) s) s) s
theorem shut8 {w:World} {U:Nat→Prop} {T:List Tr} {k:Nat} {x:Tr} {L:List Res} {a b c d e f g h:Res} (hk:k<T.length) (s:Sep w U (a::b::c::d::e::f::g::h::itO x::(rst T k++L))):Sep w U (a::b::c::d::e::f::g::h::((T.set k x).map itO++L)):=
 Sep.cons (fun _ s=>Sep.cons (fun _ s=>Sep.cons (fun _ s=>Sep.cons (fun _ s=>Sep.cons (fun _ s=>Sep.cons (fun _ s=>Sep.cons (fun _ s=>Sep.cons (fun _ s=>bat_shut hk s) s) s) s) s) s) s) s) s
def asked (size id:Int) (s:Wst) (t:Th):Wst:=
 { s with m:=(asks size id s.m t).1,ow:=if(asks size id s.m t).2.rc=0 then s.ow else setL (asks size id s.m t).2.rc (Iv id) s.ow,ev:=if t.pc=14 then s.ev++[⟨2,id,(asks size id s.m t).2.seq,0,0,tK s.m t,tV s.m t,s.pk.length⟩] else s.ev}
theorem trC_at:∀ (l:List Tr) (k:Nat) (x:Tr) (j:Nat),l[k]? =some x→j<13→(trC l)[k*13+j]? =(trIn x)[j]?
 | [],_,_,_,h,_=>by simp at h
 | y::l,0,x,j,h,hj=>by
  simp only [List.getElem?_cons_zero,Option.some.injEq] at h;subst h;rw [trC,List.flatMap_cons,Nat.zero_mul,Nat.zero_add,List.getElem?_append_left (by simpa using hj)]
 | y::l,k+1,x,j,h,hj=>by
  rw [trC,List.flatMap_cons,List.getElem?_append_right (by simp;omega),show(k+1)*13+j-(trIn y).length=k*13+j by simp;omega];exact trC_at l k x j (by simpa using h) hj
theorem tr_pre (y:Tr) (t:List Value) (i:Nat) (v:Value):(trIn y++t).set (13+i) v=trIn y++t.set i v:=by
 rw [List.set_append_right _ _ (by simp)];simp
theorem trC_set:∀ (l:List Tr) (k:Nat) (x:Tr),k<l.length→
  (((((((((((((trC l).set (k*13) (Iv x.id)).set (k*13+1) (Iv x.t.pc)).set (k*13+2) (Iv x.t.rc)).set (k*13+3) (Iv x.t.seq)).set (k*13+4) (Iv x.t.word)).set (k*13+5) (Iv x.t.look)).set (k*13+6) (Iv x.t.cur)).set (k*13+7) (Iv x.t.prev)).set (k*13+8) (Iv x.t.nth)).set (k*13+9) (Iv x.t.many)).set (k*13+10) (Iv x.t.pass)).set (k*13+11) (Iv x.t.runs)).set (k*13+12) (.slice x.A x.t.batch.length x.c)=trC (l.set k x)
 | [],_,_,h=>by simp at h
 | y::l,0,x,_=>by
  simp [trC,List.flatMap_cons,trIn]
 | y::l,k+1,x,h=>by
  have ih:=trC_set l k x (by simpa using h);have e:∀ j,(k+1)*13+j=13+(k*13+j):=by intro j;omega
  have e0:(k+1)*13=13+k*13:=by omega
  simp only [trC,List.flatMap_cons,List.set_cons_succ,e,e0] at ih ⊢;simp only [Nat.add_assoc,tr_pre];rw [← ih]
section
variable {B g off n c k:Nat} {w:World} {L:List Res} {l:List Tr}
abbrev put13 (w:World) (g o:Nat) (x:Tr):World:=(((((((((((((w.setCell ⟨g,o,none⟩ (Iv x.id)).setCell ⟨g,o+1,none⟩ (Iv x.t.pc)).setCell ⟨g,o+2,none⟩ (Iv x.t.rc)).setCell ⟨g,o+3,none⟩ (Iv x.t.seq)).setCell ⟨g,o+4,none⟩ (Iv x.t.word)).setCell ⟨g,o+5,none⟩ (Iv x.t.look)).setCell ⟨g,o+6,none⟩ (Iv x.t.cur)).setCell ⟨g,o+7,none⟩ (Iv x.t.prev)).setCell ⟨g,o+8,none⟩ (Iv x.t.nth)).setCell ⟨g,o+9,none⟩ (Iv x.t.many)).setCell ⟨g,o+10,none⟩ (Iv x.t.pass)).setCell ⟨g,o+11,none⟩ (Iv x.t.runs)).setCell ⟨g,o+12,none⟩ (.slice x.A x.t.batch.length x.c))
theorem own_set {sz e k:Nat} {xs:List Value} (hB:B≤w.heap.size) (hsz:0<sz) (h:At B w (slRes e sz (some ⟨g,off,none⟩) n c xs::L)) (hk:k<xs.length) (v:Value):
  At B (w.setCell ⟨g,off+k,none⟩ v) (slRes e sz (some ⟨g,off,none⟩) n c (xs.set k v)::L)∧Below B w (w.setCell ⟨g,off+k,none⟩ v)∧B≤(w.setCell ⟨g,off+k,none⟩ v).heap.size:=by
 obtain⟨_,_,h3⟩:=own_cell hB hsz h (List.getElem?_eq_getElem hk);exact⟨(h3 v).1,(h3 v).2,Nat.le_trans hB (h3 v).2.size⟩
theorem trC_len (l:List Tr):(trC l).length=l.length*13:=by
 induction l with
 | nil=>rfl
 | cons y l ih=>rw [trC,List.flatMap_cons,List.length_append,←trC,ih];simp;omega
theorem tr_set (hB:B≤w.heap.size) (hk:k<l.length) (x:Tr) (h:At B w (trR (some ⟨g,off,none⟩) n c l::L)):
  At B (put13 w g (off+k*13) x) (trR (some ⟨g,off,none⟩) n c (l.set k x)::L)∧Below B w (put13 w g (off+k*13) x):=by
 have hl:=trC_len l;obtain⟨s0,b0,h0⟩:=own_set hB (by decide) h (k:=k*13) (by rw [hl];omega) (Iv x.id);obtain⟨s1,b1,h1⟩:=own_set h0 (by decide) s0 (k:=k*13+1) (by simp only [List.length_set,hl];omega) (Iv x.t.pc);obtain⟨s2,b2,h2⟩:=own_set h1 (by decide) s1 (k:=k*13+2) (by simp only [List.length_set,hl];omega) (Iv x.t.rc);obtain⟨s3,b3,h3⟩:=own_set h2 (by decide) s2 (k:=k*13+3) (by simp only [List.length_set,hl];omega) (Iv x.t.seq);obtain⟨s4,b4,h4⟩:=own_set h3 (by decide) s3 (k:=k*13+4) (by simp only [List.length_set,hl];omega) (Iv x.t.word);obtain⟨s5,b5,h5⟩:=own_set h4 (by decide) s4 (k:=k*13+5) (by simp only [List.length_set,hl];omega) (Iv x.t.look);obtain⟨s6,b6,h6⟩:=own_set h5 (by decide) s5 (k:=k*13+6) (by simp only [List.length_set,hl];omega) (Iv x.t.cur);obtain⟨s7,b7,h7⟩:=own_set h6 (by decide) s6 (k:=k*13+7) (by simp only [List.length_set,hl];omega) (Iv x.t.prev);obtain⟨s8,b8,h8⟩:=own_set h7 (by decide) s7 (k:=k*13+8) (by simp only [List.length_set,hl];omega) (Iv x.t.nth)
 obtain⟨s9,b9,h9⟩:=own_set h8 (by decide) s8 (k:=k*13+9) (by simp only [List.length_set,hl];omega) (Iv x.t.many);obtain⟨s10,b10,h10⟩:=own_set h9 (by decide) s9 (k:=k*13+10) (by simp only [List.length_set,hl];omega) (Iv x.t.pass);obtain⟨s11,b11,h11⟩:=own_set h10 (by decide) s10 (k:=k*13+11) (by simp only [List.length_set,hl];omega) (Iv x.t.runs);obtain⟨s12,b12,h12⟩:=own_set h11 (by decide) s11 (k:=k*13+12) (by simp only [List.length_set,hl];omega) (.slice x.A x.t.batch.length x.c);rw [trC_set l k x hk] at s12;simp only [← Nat.add_assoc] at*;exact⟨s12,((((((((((((b0.trans b1).trans b2).trans b3).trans b4).trans b5).trans b6).trans b7).trans b8).trans b9).trans b10).trans b11).trans b12)⟩
theorem tr_cell {A:Option Addr} {x:Tr} (hk:l[k]? =some x) (h:At B w (trR A n c l::L)):∃ g off,A=some ⟨g,off,none⟩∧B≤g∧(∀ j,w.frozen? ⟨g,j,none⟩=false)∧
  w.cell? ⟨g,off+k*13,none⟩=some (Iv x.id)∧w.cell? ⟨g,off+k*13+1,none⟩=some (Iv x.t.pc)∧w.cell? ⟨g,off+k*13+2,none⟩=some (Iv x.t.rc)∧w.cell? ⟨g,off+k*13+3,none⟩=some (Iv x.t.seq)∧w.cell? ⟨g,off+k*13+4,none⟩=some (Iv x.t.word)∧w.cell? ⟨g,off+k*13+5,none⟩=some (Iv x.t.look)∧w.cell? ⟨g,off+k*13+6,none⟩=some (Iv x.t.cur)∧w.cell? ⟨g,off+k*13+7,none⟩=some (Iv x.t.prev)∧w.cell? ⟨g,off+k*13+8,none⟩=some (Iv x.t.nth)∧w.cell? ⟨g,off+k*13+9,none⟩=some (Iv x.t.many)∧w.cell? ⟨g,off+k*13+10,none⟩=some (Iv x.t.pass)∧w.cell? ⟨g,off+k*13+11,none⟩=some (Iv x.t.runs)∧w.cell? ⟨g,off+k*13+12,none⟩=some (.slice x.A x.t.batch.length x.c):=by
 have hs:Sl w 93 13 A n c (trC l) (fun x=>B≤x):=h.get;have hl:=hs.1;rw [trC_len] at hl;have hkl:k<l.length:=(List.getElem?_eq_some_iff.1 hk).1;obtain⟨g,off,rfl,hg,-,hz,hc⟩:=hs.at (by omega)
 have q:∀ j (v:Value),j<13→(trIn x)[j]? =some v→w.cell? ⟨g,off+k*13+j,none⟩=some v:=fun j v hj hv=>by
  rw [Nat.add_assoc];exact hc _ _ ((trC_at l k x j hk hj).trans hv)
 exact⟨g,off,rfl,hg,hz,q 0 _ (by decide) rfl,q 1 _ (by decide) rfl,q 2 _ (by decide) rfl,q 3 _ (by decide) rfl,q 4 _ (by decide) rfl,q 5 _ (by decide) rfl,q 6 _ (by decide) rfl,q 7 _ (by decide) rfl,q 8 _ (by decide) rfl,q 9 _ (by decide) rfl,q 10 _ (by decide) rfl,q 11 _ (by decide) rfl,q 12 _ (by decide) rfl⟩
theorem tr_at {o:Nat} {x:Tr} (hk:l[k]? =some x) (ho:off+k*13=o) (h:At B w (trR (some ⟨g,off,none⟩) n c l::L)):w.cell? ⟨g,o,none⟩=some (Iv x.id)∧w.cell? ⟨g,o+1,none⟩=some (Iv x.t.pc)∧w.cell? ⟨g,o+2,none⟩=some (Iv x.t.rc)∧w.cell? ⟨g,o+3,none⟩=some (Iv x.t.seq)∧w.cell? ⟨g,o+4,none⟩=some (Iv x.t.word)∧w.cell? ⟨g,o+5,none⟩=some (Iv x.t.look)∧w.cell? ⟨g,o+6,none⟩=some (Iv x.t.cur)∧w.cell? ⟨g,o+7,none⟩=some (Iv x.t.prev)∧w.cell? ⟨g,o+8,none⟩=some (Iv x.t.nth)∧w.cell? ⟨g,o+9,none⟩=some (Iv x.t.many)∧w.cell? ⟨g,o+10,none⟩=some (Iv x.t.pass)∧w.cell? ⟨g,o+11,none⟩=some (Iv x.t.runs)∧w.cell? ⟨g,o+12,none⟩=some (.slice x.A x.t.batch.length x.c):=by
 subst ho;obtain⟨g',off',hA,_,_,hq⟩:=tr_cell hk h;simp only [Option.some.injEq,Addr.mk.injEq,and_true] at hA;obtain⟨rfl,rfl⟩:=hA;exact hq
theorem tr_fz {j:Nat} {x:Tr} (hk:l[k]? =some x) (h:At B w (trR (some ⟨g,off,none⟩) n c l::L)):w.frozen? ⟨g,j,none⟩=false:=by
 obtain⟨g',off',hA,_,hz,_⟩:=tr_cell hk h;simp only [Option.some.injEq,Addr.mk.injEq,and_true] at hA;obtain⟨rfl,rfl⟩:=hA;exact hz j
end
section
variable {B X:Nat} {w:World} {L:List Res} {cf:Cf} {a:Ad} {s:Wst}
theorem thread_s {k:Int} {g off:Nat} (hn:a.T.length≤1000) (hA:a.At=some ⟨g,off,none⟩) (hX:w.cell? ⟨X,8,none⟩=some (.slice a.At a.T.length a.ct)):
  Calls Tryz.prog 80 #[Pz X,Iv k] w fun e w'=>e=.returned (.pointer (if 0≤k∧k<(a.T.length:Int) then some ⟨g,off+k.toNat*13,none⟩ else none))∧w=w':=by
 rw [hA] at hX;generalize a.T.length=n at*;generalize a.ct=c at*
 by_cases h1:0≤k
 ·by_cases h2:k<(n:Int)
  ·rw [if_pos ⟨h1,h2⟩];have d1:decide (k<0)=false:=by simp [h1]
   have d2:decide ((n:Int)≤k)=false:=by simp [h2]
   go_enter Tryz.func80,Tryz.ntmps80;go_wp2;go_ret;exact⟨rfl,rfl⟩
  ·rw [if_neg (fun h=>h2 h.2)];have d1:decide (k<0)=false:=by simp [h1]
   have d2:decide ((n:Int)≤k)=true:=by simp;omega
   go_enter Tryz.func80,Tryz.ntmps80;go_wp2;go_ret;exact⟨rfl,rfl⟩
 ·rw [if_neg (fun h=>h1 h.1)];have d1:decide (k<0)=true:=by simp;omega
  go_enter Tryz.func80,Tryz.ntmps80;go_wp2;go_ret;exact⟨rfl,rfl⟩
end
end Go.Proofs.YtadgbhjpgnlmoaaGreat
