/- TopSafe, a part of its proof; no conditions. -/
import Derived.Test.YtadgbhjpgnlmoaaGreatPk23
set_option linter.all false
namespace Go.Proofs.YtadgbhjpgnlmoaaGreat
open Go.RowKit Go.Rp
set_option maxRecDepth 100000
section
variable {B n c o p q mo:Nat} {w:World} {L:List Res} {ops:List (Int×Int)} {A:Option Addr} {l:List Int} {s:List Skp.It} {bits:List Bool}
theorem sBatch_o (hB:B≤w.heap.size) (hn:ops.length=n) (hn2:n<20) (hf:Fits ops) (hl:FitI l) (h:At B w (blkR o 139 #[.iface 126 (.agg #[Pz p]),Pz q,.bool false]::Stk.stk p mo l::Con.coinR q bits::opsO A n c ops::L)):
  Calls Tryz.prog 180 #[Pz o,.slice A n c] w fun e w'=>∃ g ts l',e=.returned (.slice (some ⟨g,0,none⟩) n n)∧Fits ts∧FitI l'∧At B w' (resO g n ts::blkR o 139 #[.iface 126 (.agg #[Pz p]),Pz q,.bool false]::Stk.stk p mo l'::Con.coinR q bits::opsO A n c ops::L)∧Below B w w':=by
 have c0:=h.cv 0 (.iface 126 (.agg #[Pz p]));have c1:=h.cv 1 (Pz q);have c2:=h.cv 2 (.bool false);have hB1:B≤w.drew.heap.size:=hB;have ha:=sBatch_s (v:=Pz q) hB1 hn hn2 hf hl ((Sep.drew h).ord [1,2,0]);clear h hn hf hl;go_enter Tryz.func180,Tryz.ntmps180;go_wp2_with fail
 go_region_held3 (fun w'=>w'.cell? ⟨o,0,none⟩=some (.iface 126 (.agg #[Pz p]))∧w'.cell? ⟨o,1,none⟩=some (Pz q)) (first | assumption | go_keep) (first
  | (go_at_call 210;((with_reducible refine ha.mono ?_);rintro e w1 ⟨g,ts,l',rfl,o1,o2,s2,b2⟩;have d0:=(Sep.ord [3] s2).cv 0 (.iface 126 (.agg #[Pz p]));have d1:w1.cell? ⟨o,1,none⟩=some (Pz q):=(Sep.ord [3] s2).blk.cell 1))
  | (fail "no arm"))
 go_wp2_with fail;go_ret;exact⟨g,ts,l',rfl,o1,o2,s2.ord [0,2,0,1],(Below.drew (Below.refl B w)).trans b2⟩
theorem sPlain_o (hB:B≤w.heap.size) (hn:ops.length=n) (hn2:n<20) (hf:Fits ops) (hl:FitI l) (h:At B w (blkR o 139 #[.iface 126 (.agg #[Pz p]),Pz q,.bool true]::Stk.stk p mo l::Con.coinR q bits::opsO A n c ops::L)):
  Calls Tryz.prog 180 #[Pz o,.slice A n c] w fun e w'=>∃ g ts l',e=.returned (.slice (some ⟨g,0,none⟩) n n)∧Fits ts∧FitI l'∧At B w' (resO g n ts::blkR o 139 #[.iface 126 (.agg #[Pz p]),Pz q,.bool true]::Stk.stk p mo l'::Con.coinR q bits::opsO A n c ops::L)∧Below B w w':=by
 have c0:=h.cv 0 (.iface 126 (.agg #[Pz p]));have c1:=h.cv 1 (Pz q);have c2:=h.cv 2 (.bool true);have hB1:B≤w.drew.heap.size:=hB;have ha:=sPlain_s (v:=Pz q) hB1 hn hn2 hf hl ((Sep.drew h).ord [1,2,0]);clear h hn hf hl;go_enter Tryz.func180,Tryz.ntmps180;go_wp2_with fail
 go_region_held3 (fun w'=>w'.cell? ⟨o,0,none⟩=some (.iface 126 (.agg #[Pz p]))∧w'.cell? ⟨o,1,none⟩=some (Pz q)) (first | assumption | go_keep) (first
  | (go_at_call 212;((with_reducible refine ha.mono ?_);rintro e w1 ⟨g,ts,l',rfl,o1,o2,s2,b2⟩;have d0:=(Sep.ord [3] s2).cv 0 (.iface 126 (.agg #[Pz p]));have d1:w1.cell? ⟨o,1,none⟩=some (Pz q):=(Sep.ord [3] s2).blk.cell 1))
  | (fail "no arm"))
 go_wp2_with fail;go_ret;exact⟨g,ts,l',rfl,o1,o2,s2.ord [0,2,0,1],(Below.drew (Below.refl B w)).trans b2⟩
theorem rBatch_o (hB:B≤w.heap.size) (hn:ops.length=n) (hn2:n<20) (hf:Fits ops) (hl:FitI l) (h:At B w (blkR o 139 #[.iface 130 (.agg #[Pz p]),Pz q,.bool false]::Rng.ringR p mo l::Con.coinR q bits::opsO A n c ops::L)):
  Calls Tryz.prog 180 #[Pz o,.slice A n c] w fun e w'=>∃ g ts l',e=.returned (.slice (some ⟨g,0,none⟩) n n)∧Fits ts∧FitI l'∧At B w' (resO g n ts::blkR o 139 #[.iface 130 (.agg #[Pz p]),Pz q,.bool false]::Rng.ringR p mo l'::Con.coinR q bits::opsO A n c ops::L)∧Below B w w':=by
 have c0:=h.cv 0 (.iface 130 (.agg #[Pz p]));have c1:=h.cv 1 (Pz q);have c2:=h.cv 2 (.bool false);have hB1:B≤w.drew.heap.size:=hB;have ha:=rBatch_s (v:=Pz q) hB1 hn hn2 hf hl ((Sep.drew h).ord [1,2,0]);clear h hn hf hl;go_enter Tryz.func180,Tryz.ntmps180;go_wp2_with fail
 go_region_held3 (fun w'=>w'.cell? ⟨o,0,none⟩=some (.iface 130 (.agg #[Pz p]))∧w'.cell? ⟨o,1,none⟩=some (Pz q)) (first | assumption | go_keep) (first
  | (go_at_call 234;((with_reducible refine ha.mono ?_);rintro e w1 ⟨g,ts,l',rfl,o1,o2,s2,b2⟩;have d0:=(Sep.ord [3] s2).cv 0 (.iface 130 (.agg #[Pz p]));have d1:w1.cell? ⟨o,1,none⟩=some (Pz q):=(Sep.ord [3] s2).blk.cell 1))
  | (fail "no arm"))
 go_wp2_with fail;go_ret;exact⟨g,ts,l',rfl,o1,o2,s2.ord [0,2,0,1],(Below.drew (Below.refl B w)).trans b2⟩
theorem rPlain_o (hB:B≤w.heap.size) (hn:ops.length=n) (hn2:n<20) (hf:Fits ops) (hl:FitI l) (h:At B w (blkR o 139 #[.iface 130 (.agg #[Pz p]),Pz q,.bool true]::Rng.ringR p mo l::Con.coinR q bits::opsO A n c ops::L)):
  Calls Tryz.prog 180 #[Pz o,.slice A n c] w fun e w'=>∃ g ts l',e=.returned (.slice (some ⟨g,0,none⟩) n n)∧Fits ts∧FitI l'∧At B w' (resO g n ts::blkR o 139 #[.iface 130 (.agg #[Pz p]),Pz q,.bool true]::Rng.ringR p mo l'::Con.coinR q bits::opsO A n c ops::L)∧Below B w w':=by
 have c0:=h.cv 0 (.iface 130 (.agg #[Pz p]));have c1:=h.cv 1 (Pz q);have c2:=h.cv 2 (.bool true);have hB1:B≤w.drew.heap.size:=hB;have ha:=rPlain_s (v:=Pz q) hB1 hn hn2 hf hl ((Sep.drew h).ord [1,2,0]);clear h hn hf hl;go_enter Tryz.func180,Tryz.ntmps180;go_wp2_with fail
 go_region_held3 (fun w'=>w'.cell? ⟨o,0,none⟩=some (.iface 130 (.agg #[Pz p]))∧w'.cell? ⟨o,1,none⟩=some (Pz q)) (first | assumption | go_keep) (first
  | (go_at_call 236;((with_reducible refine ha.mono ?_);rintro e w1 ⟨g,ts,l',rfl,o1,o2,s2,b2⟩;have d0:=(Sep.ord [3] s2).cv 0 (.iface 130 (.agg #[Pz p]));have d1:w1.cell? ⟨o,1,none⟩=some (Pz q):=(Sep.ord [3] s2).blk.cell 1))
  | (fail "no arm"))
 go_wp2_with fail;go_ret;exact⟨g,ts,l',rfl,o1,o2,s2.ord [0,2,0,1],(Below.drew (Below.refl B w)).trans b2⟩
theorem kBatch_o (hB:B≤w.heap.size) (hn:ops.length=n) (hn2:n<20) (hf:Fits ops) (hl:FitsL s) (h:At B w (blkR o 139 #[.iface 134 (.agg #[Pz p]),Pz q,.bool false]::Skp.skR p mo s::Con.coinR q bits::opsO A n c ops::L)):
  Calls Tryz.prog 180 #[Pz o,.slice A n c] w fun e w'=>∃ g ts s' bits',e=.returned (.slice (some ⟨g,0,none⟩) n n)∧Fits ts∧FitsL s'∧At B w' (resO g n ts::blkR o 139 #[.iface 134 (.agg #[Pz p]),Pz q,.bool false]::Skp.skR p mo s'::Con.coinR q bits'::opsO A n c ops::L)∧Below B w w':=by
 have c0:=h.cv 0 (.iface 134 (.agg #[Pz p]));have c1:=h.cv 1 (Pz q);have c2:=h.cv 2 (.bool false);have hB1:B≤w.drew.heap.size:=hB;have ha:=kBatch_s hB1 hn hn2 hf hl ((Sep.drew h).ord [1,1,1,0]);clear h hn hf hl;go_enter Tryz.func180,Tryz.ntmps180;go_wp2_with fail
 go_region_held3 (fun w'=>w'.cell? ⟨o,0,none⟩=some (.iface 134 (.agg #[Pz p]))∧w'.cell? ⟨o,1,none⟩=some (Pz q)) (first | assumption | go_keep) (first
  | (go_at_call 259;((with_reducible refine ha.mono ?_);rintro e w1 ⟨g,ts,s',bits',rfl,o1,o2,s2,b2⟩;have d0:=(Sep.ord [4] s2).cv 0 (.iface 134 (.agg #[Pz p]));have d1:w1.cell? ⟨o,1,none⟩=some (Pz q):=(Sep.ord [4] s2).blk.cell 1))
  | (fail "no arm"))
 go_wp2_with fail;go_ret;exact⟨g,ts,s',bits',rfl,o1,o2,s2.ord [0,3],(Below.drew (Below.refl B w)).trans b2⟩
theorem kPlain_o (hB:B≤w.heap.size) (hn:ops.length=n) (hn2:n<20) (hf:Fits ops) (hl:FitsL s) (h:At B w (blkR o 139 #[.iface 134 (.agg #[Pz p]),Pz q,.bool true]::Skp.skR p mo s::Con.coinR q bits::opsO A n c ops::L)):
  Calls Tryz.prog 180 #[Pz o,.slice A n c] w fun e w'=>∃ g ts s' bits',e=.returned (.slice (some ⟨g,0,none⟩) n n)∧Fits ts∧FitsL s'∧At B w' (resO g n ts::blkR o 139 #[.iface 134 (.agg #[Pz p]),Pz q,.bool true]::Skp.skR p mo s'::Con.coinR q bits'::opsO A n c ops::L)∧Below B w w':=by
 have c0:=h.cv 0 (.iface 134 (.agg #[Pz p]));have c1:=h.cv 1 (Pz q);have c2:=h.cv 2 (.bool true);have hB1:B≤w.drew.heap.size:=hB;have ha:=kPlain_s hB1 hn hn2 hf hl ((Sep.drew h).ord [1,1,1,0]);clear h hn hf hl;go_enter Tryz.func180,Tryz.ntmps180;go_wp2_with fail
 go_region_held3 (fun w'=>w'.cell? ⟨o,0,none⟩=some (.iface 134 (.agg #[Pz p]))∧w'.cell? ⟨o,1,none⟩=some (Pz q)) (first | assumption | go_keep) (first
  | (go_at_call 261;((with_reducible refine ha.mono ?_);rintro e w1 ⟨g,ts,s',bits',rfl,o1,o2,s2,b2⟩;have d0:=(Sep.ord [4] s2).cv 0 (.iface 134 (.agg #[Pz p]));have d1:w1.cell? ⟨o,1,none⟩=some (Pz q):=(Sep.ord [4] s2).blk.cell 1))
  | (fail "no arm"))
 go_wp2_with fail;go_ret;exact⟨g,ts,s',bits',rfl,o1,o2,s2.ord [0,3],(Below.drew (Below.refl B w)).trans b2⟩
end
def objL (o:Nat) (plain:Bool) (b:Bod):List Res:=[blkR o 139 #[b.val,Pz b.q,.bool plain],b.res,Con.coinR b.q b.bits]
def objR (o:Nat) (plain:Bool):Res:=exR (objL o plain) Bod.ok
section
variable {B n c o:Nat} {w:World} {L:List Res} {ops:List (Int×Int)} {A:Option Addr} {plain:Bool}
theorem do_o (hB:B≤w.heap.size) (hn:ops.length=n) (hn2:n<20) (hf:Fits ops) (h:At B w (objR o plain::opsO A n c ops::L)):
  Calls Tryz.prog 180 #[Pz o,.slice A n c] w fun e w'=>∃ g ts,e=.returned (.slice (some ⟨g,0,none⟩) n n)∧Fits ts∧At B w' (resO g n ts::objR o plain::opsO A n c ops::L)∧Below B w w':=by
 obtain⟨⟨tag,p,mo,l,s,q,bits⟩,⟨hl,hs⟩,h⟩:=h.openX;simp only [objL,Bod.val,Bod.res,List.cons_append,List.nil_append] at h
 by_cases h1:tag=1
 ·subst h1;simp only [if_true] at h
  cases plain
  ·exact(sBatch_o hB hn hn2 hf hl h).mono fun e w' ⟨g,ts,l',he,o1,o2,s2,b2⟩=>⟨g,ts,he,o1,Sep.cons (fun _ h=>Sep.shutX ⟨1,p,mo,l',s,q,bits⟩ ⟨o2,hs⟩ (by simpa [objL,Bod.val,Bod.res] using h)) s2,b2⟩
  ·exact(sPlain_o hB hn hn2 hf hl h).mono fun e w' ⟨g,ts,l',he,o1,o2,s2,b2⟩=>⟨g,ts,he,o1,Sep.cons (fun _ h=>Sep.shutX ⟨1,p,mo,l',s,q,bits⟩ ⟨o2,hs⟩ (by simpa [objL,Bod.val,Bod.res] using h)) s2,b2⟩
 ·by_cases h2:tag=2
  ·subst h2;simp only [show ((2:Nat)=1)=False by simp,if_false,if_true] at h
   cases plain
   ·exact(rBatch_o hB hn hn2 hf hl h).mono fun e w' ⟨g,ts,l',he,o1,o2,s2,b2⟩=>⟨g,ts,he,o1,Sep.cons (fun _ h=>Sep.shutX ⟨2,p,mo,l',s,q,bits⟩ ⟨o2,hs⟩ (by simpa [objL,Bod.val,Bod.res] using h)) s2,b2⟩
   ·exact(rPlain_o hB hn hn2 hf hl h).mono fun e w' ⟨g,ts,l',he,o1,o2,s2,b2⟩=>⟨g,ts,he,o1,Sep.cons (fun _ h=>Sep.shutX ⟨2,p,mo,l',s,q,bits⟩ ⟨o2,hs⟩ (by simpa [objL,Bod.val,Bod.res] using h)) s2,b2⟩
  ·simp only [if_neg h1,if_neg h2] at h
   cases plain
   ·exact(kBatch_o hB hn hn2 hf hs h).mono fun e w' ⟨g,ts,s',bits',he,o1,o2,s2,b2⟩=>⟨g,ts,he,o1,Sep.cons (fun _ h=>Sep.shutX ⟨tag,p,mo,l,s',q,bits'⟩ ⟨hl,o2⟩ (by simpa [objL,Bod.val,Bod.res,h1,h2] using h)) s2,b2⟩
   ·exact(kPlain_o hB hn hn2 hf hs h).mono fun e w' ⟨g,ts,s',bits',he,o1,o2,s2,b2⟩=>⟨g,ts,he,o1,Sep.cons (fun _ h=>Sep.shutX ⟨tag,p,mo,l,s',q,bits'⟩ ⟨hl,o2⟩ (by simpa [objL,Bod.val,Bod.res,h1,h2] using h)) s2,b2⟩
end
section
variable {B n c o p q mo:Nat} {w:World} {L:List Res} {A:Option Addr} {l:List Int} {s:List Skp.It} {bits:List Bool} {plain:Bool} {bs:List Nat}
theorem feed_o (hB:B≤w.heap.size) (hn:bs.length=n) (h8:∀ x∈bs,x<256) (hn2:n≤100000) (h:At B w (objR o plain::Con.bytesR A n bs::L)):
  Calls Tryz.prog 40 #[Pz o,.slice A n c] w fun e w'=>e=.returned (.tuple #[])∧At B w' (objR o plain::Con.bytesR A n bs::L)∧Below B w w':=by
 obtain⟨⟨tag,p,mo,l,s,q,bits⟩,⟨hl,hs⟩,h⟩:=h.openX;simp only [objL,List.cons_append,List.nil_append] at h;have c1:=h.cv 1 (Pz q);have ha:=Con.feed_s (c:=c) hB (h.ord [2,2]) hn h8 hn2;generalize hbb:Con.feed bits bs=bits' at ha;clear hbb;have HL:=Lib.hid hl;have HS:=Lib.hid hs;clear hl hs h8 hn h;go_enter Tryz.func40,Tryz.ntmps40;go_wp2_with fail;refine ha.mono ?_;rintro e w1 ⟨rfl,s2,b2⟩;go_wp2_with fail
 go_end0
 exact⟨rfl,Sep.shutX ⟨tag,p,mo,l,s,q,bits'⟩ ⟨HL.out,HS.out⟩ (s2.ord [2,2]),b2⟩
theorem sItems_i (hB:B≤w.heap.size) (h:At B w (blkR o 139 #[.iface 126 (.agg #[Pz p]),Pz q,.bool plain]::Stk.stk p mo l::L)):
  Calls Tryz.prog 47 #[Pz o] w fun e w'=>∃ A n c li,e=.returned (.slice A n c)∧n≤1000∧At B w' (i32O A n c li::blkR o 139 #[.iface 126 (.agg #[Pz p]),Pz q,.bool plain]::Stk.stk p mo l::L)∧Below B w w':=by
 have c0:=h.cv 0 (.iface 126 (.agg #[Pz p]));have ha:=Stk.items_s hB (h.ord [1]) rfl;have HL:=Lib.hid (show (l).length≤1000 from(by have:=Stk.stk_len (h.ord [1]);omega));clear h;go_enter Tryz.func47,Tryz.ntmps47;go_wp2_with fail;refine ha.mono ?_;rintro e w1 ⟨A,c,rfl,s2,b2⟩;go_wp2_with fail;go_ret;exact⟨A,_,c,l,rfl,HL.out,s2.ord [0,1],b2⟩
theorem rItems_i (hB:B≤w.heap.size) (h:At B w (blkR o 139 #[.iface 130 (.agg #[Pz p]),Pz q,.bool plain]::Rng.ringR p mo l::L)):
  Calls Tryz.prog 47 #[Pz o] w fun e w'=>∃ A n c li,e=.returned (.slice A n c)∧n≤1000∧At B w' (i32O A n c li::blkR o 139 #[.iface 130 (.agg #[Pz p]),Pz q,.bool plain]::Rng.ringR p mo l::L)∧Below B w w':=by
 have c0:=h.cv 0 (.iface 130 (.agg #[Pz p]));have ha:=Rng.items_s hB (h.ord [1]) rfl;have HL:=Lib.hid (show (l).length≤1000 from(by have:=Rng.ring_len (h.ord [1]);omega));clear h;go_enter Tryz.func47,Tryz.ntmps47;go_wp2_with fail;refine ha.mono ?_;rintro e w1 ⟨A,c,rfl,s2,b2⟩;go_wp2_with fail;go_ret;exact⟨A,_,c,l,rfl,HL.out,s2.ord [0,1],b2⟩
theorem kItems_i (hB:B≤w.heap.size) (h:At B w (blkR o 139 #[.iface 134 (.agg #[Pz p]),Pz q,.bool plain]::Skp.skR p mo s::L)):
  Calls Tryz.prog 47 #[Pz o] w fun e w'=>∃ A n c li,e=.returned (.slice A n c)∧n≤1000∧At B w' (i32O A n c li::blkR o 139 #[.iface 134 (.agg #[Pz p]),Pz q,.bool plain]::Skp.skR p mo s::L)∧Below B w w':=by
 have c0:=h.cv 0 (.iface 134 (.agg #[Pz p]));have ha:=Skp.items_s hB (h.ord [1]) rfl rfl;have HL:=Lib.hid (show (Skp.levL 0 s).length≤1000 from(by have h1:=Skp.sk_len (h.ord [1]);have h2:(Skp.levL 0 s).length≤s.length:=(by unfold Skp.levL;rw [List.length_map];exact List.length_filter_le _ _);omega));clear h;go_enter Tryz.func47,Tryz.ntmps47;go_wp2_with fail;refine ha.mono ?_;rintro e w1 ⟨A,c,rfl,s2,b2⟩;go_wp2_with fail;go_ret;exact⟨A,_,c,Skp.levL 0 s,rfl,HL.out,s2.ord [0,1],b2⟩
theorem items_o (hB:B≤w.heap.size) (h:At B w (objR o plain::L)):
  Calls Tryz.prog 47 #[Pz o] w fun e w'=>∃ A n c l,e=.returned (.slice A n c)∧n≤1000∧At B w' (i32O A n c l::objR o plain::L)∧Below B w w':=by
 obtain⟨⟨tag,p,mo,l,s,q,bits⟩,hok,h⟩:=h.openX;simp only [objL,Bod.val,Bod.res,List.cons_append,List.nil_append] at h
 by_cases h1:tag=1
 ·subst h1;simp only [if_true] at h;exact(sItems_i hB h).mono fun e w' ⟨A,n,c,l',he,hn,s2,b2⟩=>⟨A,n,c,l',he,hn,Sep.cons (fun _ h=>Sep.shutX ⟨1,p,mo,l,s,q,bits⟩ hok (by simpa [objL,Bod.val,Bod.res] using h)) s2,b2⟩
 ·by_cases h2:tag=2
  ·subst h2;simp only [show ((2:Nat)=1)=False by simp,if_false,if_true] at h;exact(rItems_i hB h).mono fun e w' ⟨A,n,c,l',he,hn,s2,b2⟩=>⟨A,n,c,l',he,hn,Sep.cons (fun _ h=>Sep.shutX ⟨2,p,mo,l,s,q,bits⟩ hok (by simpa [objL,Bod.val,Bod.res] using h)) s2,b2⟩
  ·simp only [if_neg h1,if_neg h2] at h;exact(kItems_i hB h).mono fun e w' ⟨A,n,c,l',he,hn,s2,b2⟩=>⟨A,n,c,l',he,hn,Sep.cons (fun _ h=>Sep.shutX ⟨tag,p,mo,l,s,q,bits⟩ hok (by simpa [objL,Bod.val,Bod.res,h1,h2] using h)) s2,b2⟩
theorem put_u8 {P:Program} {T kt et:TypeId} (hT:P.underlying T=some (.map kt et)) (hk:P.underlying kt=some (.int .u8)) (w:World) (es:Array MapEntry) (c:Nat) (k:Int) (v:Value) (hf:Instr.findNow (.int .u8) (Ub k) es.toList 0=some none):
  (Instr.mapUpdate T (.map (some w.heap.size)) (Ub k) v).run P (w.alloc (.map es c))=.ok () (w.alloc (.map (es.push ⟨Ub k,v,c⟩) (c+1))):=by
 have hb:(w.alloc (.map es c)).heap[w.heap.size]? =some (.map es c):=heap_alloc_new w _;have hc:(Instr.checkKey false 10000 kt (Ub k)).run P (w.alloc (.map es c))=.ok () (w.alloc (.map es c)):=MapKept.run_checkKey (k:=Ub k) hk (by simp [MapKept.IsKey]) false 9999;simp [Instr.mapUpdate,run_underlying hT,MapKept.run_getObj_map hb,hc,MapKept.run_findKey hk hf,MapKept.run_setObj_map _ hb,Result.andThen];exact Rng.put_new w _ _
theorem mapT:Tryz.prog.underlying 135=some (.map 5 120):=by kernel_rfl
def nm:Array MapEntry:=#[⟨Ub 1,.func (.func 57) #[] #[],0⟩,⟨Ub 2,.func (.func 59) #[] #[],1⟩,⟨Ub 3,.func (.func 61) #[] #[],2⟩]
theorem new1_n (hB:B≤w.heap.size) (h:At B w L) (m:Int):Calls Tryz.prog 57 #[Iv m] w fun e w'=>∃ p mo,e=.returned (.iface 126 (.agg #[Pz p]))∧At B w' (Stk.stk p mo []::L)∧Below B w w':=by
 have ha:=(Stk.new_s hB h m).mono (fun e w' hh=>(⟨w.heap.size,hh.1,hh.2.1,hh.2.2⟩:∃ p:Nat,e=Ending.returned (Pz p)∧At B w' (Stk.stk p (Stk.cut m) []::L)∧Below B w w'));go_enter Tryz.func57,Tryz.ntmps57;go_wp2_with fail;refine ha.mono ?_;rintro e w1 ⟨p,rfl,s2,b2⟩;go_wp2_with fail;go_ret;exact⟨_,_,rfl,s2,b2⟩
theorem new2_n (hB:B≤w.heap.size) (h:At B w L) (m:Int):Calls Tryz.prog 59 #[Iv m] w fun e w'=>∃ p mo,e=.returned (.iface 130 (.agg #[Pz p]))∧At B w' (Rng.ringR p mo []::L)∧Below B w w':=by
 have ha:=Rng.new_s hB h m;go_enter Tryz.func59,Tryz.ntmps59;go_wp2_with fail;refine ha.mono ?_;rintro e w1 ⟨p,rfl,s2,b2⟩;go_wp2_with fail;go_ret;exact⟨_,_,rfl,s2,b2⟩
theorem new3_n (hB:B≤w.heap.size) (h:At B w L) (m:Int):Calls Tryz.prog 61 #[Iv m] w fun e w'=>∃ p mo,e=.returned (.iface 134 (.agg #[Pz p]))∧At B w' (Skp.skR p mo []::L)∧Below B w w':=by
 have ha:=Skp.new_s hB h m;go_enter Tryz.func61,Tryz.ntmps61;go_wp2_with fail;refine ha.mono ?_;rintro e w1 ⟨p,rfl,s2,b2⟩;go_wp2_with fail;go_ret;exact⟨_,_,rfl,s2,b2⟩
theorem newo1 (hB:B≤w.heap.size) (h:At B w L) (m:Int) (plain:Bool):Calls Tryz.prog 28 #[Ub 1,Iv m,.bool plain] w fun e w'=>∃ o,e=.returned (Pz o)∧At B w' (objR o plain::L)∧Below B w w':=by
 have hmm:=@run_makeMap Tryz.prog;have u1:=put_u8 mapT Tryz.underlying5 w #[] 0 1 (.func (.func 57) #[] #[]) rfl;have u2:=put_u8 mapT Tryz.underlying5 w #[⟨Ub 1,.func (.func 57) #[] #[],0⟩] 1 2 (.func (.func 59) #[] #[]) rfl;have u3:=put_u8 mapT Tryz.underlying5 w #[⟨Ub 1,.func (.func 57) #[] #[],0⟩,⟨Ub 2,.func (.func 59) #[] #[],1⟩] 2 3 (.func (.func 61) #[] #[]) rfl;simp only [List.push_toArray,List.nil_append,List.cons_append,Nat.reduceAdd] at u1 u2 u3
 have hlk:(Instr.lookup 135 (.map (some w.heap.size)) (Ub 1) false).run Tryz.prog (w.alloc (.map nm 3))=.ok (.func (.func 57) #[] #[]) (w.alloc (.map nm 3)):=by
  have hb:(w.alloc (.map nm 3)).heap[w.heap.size]? =some (.map nm 3):=heap_alloc_new w _;simp [Instr.lookup,run_underlying mapT,MapKept.run_getObj_map hb,MapKept.run_checkKey (k:=Ub 1) Tryz.underlying5 (by simp [MapKept.IsKey]),MapKept.run_findKey Tryz.underlying5 (show Instr.findNow (.int .u8) (Ub 1) nm.toList 0=some (some (0,.func (.func 57) #[] #[])) by rfl),Result.andThen]
 unfold nm at hlk;have hnil:∀ W:World,(binOp .eql 120 (.func (.func 57) #[] #[]) .nilFunc).run Tryz.prog W=.ok (.bool false) W:=fun W=>by kernel_rfl
 have s1:At B (w.alloc (.map nm 3)) L:=h.keep ((Below.refl _ w).alloc (Nat.le_refl _) _);have b1:Below B w (w.alloc (.map nm 3)):=(Below.refl B w).alloc hB _;have hB1:=Nat.le_trans hB b1.size;have hn:=new1_n hB1 s1 m;unfold nm at hn b1;clear s1;go_enter Tryz.func28,Tryz.ntmps28;go_wp2_with fail;refine hn.mono ?_;rintro e w2 ⟨p,mo,rfl,s2,b2⟩;have hB2:=Nat.le_trans hB1 b2.size;go_wp2_with fail;refine(Con.new_s hB2 s2).mono ?_;rintro e w3 ⟨rfl,s3,b3⟩;have hB3:=Nat.le_trans hB2 b3.size;generalize w2.heap.size=q at*;go_wp2_with fail;go_ret;have s4:=(s3.alloc hB3 #[.iface 126 (.agg #[Pz p]),Pz q,.bool plain] 139).ord [0,1];refine⟨w3.heap.size,rfl,Sep.shutX ⟨1,p,mo,[],[],q,[]⟩ ⟨by simp [FitI],by simp [FitsL]⟩ (by simpa [objL,Bod.val,Bod.res,ordL] using s4),((b1.trans b2).trans b3).alloc hB3 _⟩
theorem newo2 (hB:B≤w.heap.size) (h:At B w L) (m:Int) (plain:Bool):Calls Tryz.prog 28 #[Ub 2,Iv m,.bool plain] w fun e w'=>∃ o,e=.returned (Pz o)∧At B w' (objR o plain::L)∧Below B w w':=by
 have hmm:=@run_makeMap Tryz.prog;have u1:=put_u8 mapT Tryz.underlying5 w #[] 0 1 (.func (.func 57) #[] #[]) rfl;have u2:=put_u8 mapT Tryz.underlying5 w #[⟨Ub 1,.func (.func 57) #[] #[],0⟩] 1 2 (.func (.func 59) #[] #[]) rfl;have u3:=put_u8 mapT Tryz.underlying5 w #[⟨Ub 1,.func (.func 57) #[] #[],0⟩,⟨Ub 2,.func (.func 59) #[] #[],1⟩] 2 3 (.func (.func 61) #[] #[]) rfl;simp only [List.push_toArray,List.nil_append,List.cons_append,Nat.reduceAdd] at u1 u2 u3
 have hlk:(Instr.lookup 135 (.map (some w.heap.size)) (Ub 2) false).run Tryz.prog (w.alloc (.map nm 3))=.ok (.func (.func 59) #[] #[]) (w.alloc (.map nm 3)):=by
  have hb:(w.alloc (.map nm 3)).heap[w.heap.size]? =some (.map nm 3):=heap_alloc_new w _;simp [Instr.lookup,run_underlying mapT,MapKept.run_getObj_map hb,MapKept.run_checkKey (k:=Ub 2) Tryz.underlying5 (by simp [MapKept.IsKey]),MapKept.run_findKey Tryz.underlying5 (show Instr.findNow (.int .u8) (Ub 2) nm.toList 0=some (some (1,.func (.func 59) #[] #[])) by rfl),Result.andThen]
 unfold nm at hlk;have hnil:∀ W:World,(binOp .eql 120 (.func (.func 59) #[] #[]) .nilFunc).run Tryz.prog W=.ok (.bool false) W:=fun W=>by kernel_rfl
 have s1:At B (w.alloc (.map nm 3)) L:=h.keep ((Below.refl _ w).alloc (Nat.le_refl _) _);have b1:Below B w (w.alloc (.map nm 3)):=(Below.refl B w).alloc hB _;have hB1:=Nat.le_trans hB b1.size;have hn:=new2_n hB1 s1 m;unfold nm at hn b1;clear s1;go_enter Tryz.func28,Tryz.ntmps28;go_wp2_with fail;refine hn.mono ?_;rintro e w2 ⟨p,mo,rfl,s2,b2⟩;have hB2:=Nat.le_trans hB1 b2.size;go_wp2_with fail;refine(Con.new_s hB2 s2).mono ?_;rintro e w3 ⟨rfl,s3,b3⟩;have hB3:=Nat.le_trans hB2 b3.size;generalize w2.heap.size=q at*;go_wp2_with fail;go_ret;have s4:=(s3.alloc hB3 #[.iface 130 (.agg #[Pz p]),Pz q,.bool plain] 139).ord [0,1];refine⟨w3.heap.size,rfl,Sep.shutX ⟨2,p,mo,[],[],q,[]⟩ ⟨by simp [FitI],by simp [FitsL]⟩ (by simpa [objL,Bod.val,Bod.res,ordL] using s4),((b1.trans b2).trans b3).alloc hB3 _⟩
theorem newo3 (hB:B≤w.heap.size) (h:At B w L) (m:Int) (plain:Bool):Calls Tryz.prog 28 #[Ub 3,Iv m,.bool plain] w fun e w'=>∃ o,e=.returned (Pz o)∧At B w' (objR o plain::L)∧Below B w w':=by
 have hmm:=@run_makeMap Tryz.prog;have u1:=put_u8 mapT Tryz.underlying5 w #[] 0 1 (.func (.func 57) #[] #[]) rfl;have u2:=put_u8 mapT Tryz.underlying5 w #[⟨Ub 1,.func (.func 57) #[] #[],0⟩] 1 2 (.func (.func 59) #[] #[]) rfl;have u3:=put_u8 mapT Tryz.underlying5 w #[⟨Ub 1,.func (.func 57) #[] #[],0⟩,⟨Ub 2,.func (.func 59) #[] #[],1⟩] 2 3 (.func (.func 61) #[] #[]) rfl;simp only [List.push_toArray,List.nil_append,List.cons_append,Nat.reduceAdd] at u1 u2 u3
 have hlk:(Instr.lookup 135 (.map (some w.heap.size)) (Ub 3) false).run Tryz.prog (w.alloc (.map nm 3))=.ok (.func (.func 61) #[] #[]) (w.alloc (.map nm 3)):=by
  have hb:(w.alloc (.map nm 3)).heap[w.heap.size]? =some (.map nm 3):=heap_alloc_new w _;simp [Instr.lookup,run_underlying mapT,MapKept.run_getObj_map hb,MapKept.run_checkKey (k:=Ub 3) Tryz.underlying5 (by simp [MapKept.IsKey]),MapKept.run_findKey Tryz.underlying5 (show Instr.findNow (.int .u8) (Ub 3) nm.toList 0=some (some (2,.func (.func 61) #[] #[])) by rfl),Result.andThen]
 unfold nm at hlk;have hnil:∀ W:World,(binOp .eql 120 (.func (.func 61) #[] #[]) .nilFunc).run Tryz.prog W=.ok (.bool false) W:=fun W=>by kernel_rfl
 have s1:At B (w.alloc (.map nm 3)) L:=h.keep ((Below.refl _ w).alloc (Nat.le_refl _) _);have b1:Below B w (w.alloc (.map nm 3)):=(Below.refl B w).alloc hB _;have hB1:=Nat.le_trans hB b1.size;have hn:=new3_n hB1 s1 m;unfold nm at hn b1;clear s1;go_enter Tryz.func28,Tryz.ntmps28;go_wp2_with fail;refine hn.mono ?_;rintro e w2 ⟨p,mo,rfl,s2,b2⟩;have hB2:=Nat.le_trans hB1 b2.size;go_wp2_with fail;refine(Con.new_s hB2 s2).mono ?_;rintro e w3 ⟨rfl,s3,b3⟩;have hB3:=Nat.le_trans hB2 b3.size;generalize w2.heap.size=q at*;go_wp2_with fail;go_ret;have s4:=(s3.alloc hB3 #[.iface 134 (.agg #[Pz p]),Pz q,.bool plain] 139).ord [0,1];refine⟨w3.heap.size,rfl,Sep.shutX ⟨3,p,mo,[],[],q,[]⟩ ⟨by simp [FitI],by simp [FitsL]⟩ (by simpa [objL,Bod.val,Bod.res,ordL] using s4),((b1.trans b2).trans b3).alloc hB3 _⟩
theorem new_o (hB:B≤w.heap.size) (h:At B w L) (k m:Int) (plain:Bool) (h1:1≤k) (h3:k≤3):Calls Tryz.prog 28 #[Ub k,Iv m,.bool plain] w fun e w'=>∃ o,e=.returned (Pz o)∧At B w' (objR o plain::L)∧Below B w w':=by
 obtain rfl | rfl | rfl:k=1∨k=2∨k=3:=by omega
 ·exact newo1 hB h m plain
 ·exact newo2 hB h m plain
 ·exact newo3 hB h m plain
end
end Go.Proofs.YtadgbhjpgnlmoaaGreat
