/- TopSafe, a part of its proof; no conditions. -/
import Derived.Test.YtadgbhjpgnlmoaaGreatPk00
set_option linter.all false
namespace Go.Sf
section
set_option maxHeartbeats 1000000
variable {N:Nat} {old passes:Int} {M:AM} {T:Nat→Th} {L:List Int} {S:Nat→Int→Prop} {k i:Nat} {S0 S1:Int→Prop} {t u:Th}
theorem Loc.help_k (h:Loc old M L i S0 t) (hm:Mm M L) (e:t.pc=25) (c:M.act t.cur=0):Loc old { M with act:=up M.act t.cur 2} L i S0 { t with pc:=26}:=by
 obtain⟨r1,r4,r5,p0,k1,a1,a1',a1'',a2,a2',a7,q1,q2,q2',q4,q5,q6,q7,q8,o1,b0,b1,b2,b3,w0,w0',w1,w2,w3,w4,w5,z1,s1,s2,s3,s4,s6,s7,s8⟩:=h;obtain⟨v0,c1,c2,c3,a3,a5⟩:=hm;simp [e,cl,cc,lk] at r1 r4 r5 p0 k1 a1 a1' a1'' a2 a2' a7 q1 q2 q2' q4 q5 q6 q7 q8 o1 b0 b1 b2 b3 w0 w0' w1 w2 w3 w4 w5 z1 s1 s2 s3 s4 s6 s7 s8
 constructor<;>simp only [cl,cc,lk,Th.on,Th.by]<;>grind [up]
theorem Mm.help (h:Loc old M L i S0 t) (hm:Mm M L) (e:t.pc=25) (c:M.act t.cur=0):Mm { M with act:=up M.act t.cur 2} L:=by
 obtain⟨r1,r4,r5,p0,k1,a1,a1',a1'',a2,a2',a7,q1,q2,q2',q4,q5,q6,q7,q8,o1,b0,b1,b2,b3,w0,w0',w1,w2,w3,w4,w5,z1,s1,s2,s3,s4,s6,s7,s8⟩:=h;obtain⟨v0,c1,c2,c3,a3,a5⟩:=hm;simp [e,cl,cc,lk] at r1 r4 r5 p0 k1 a1 a1' a1'' a2 a2' a7 q1 q2 q2' q4 q5 q6 q7 q8 o1 b0 b1 b2 b3 w0 w0' w1 w2 w3 w4 w5 z1 s1 s2 s3 s4 s6 s7 s8
 constructor<;>grind [up]
theorem Loc.bare_o (h:Loc old M L i S0 u) (hk:Loc old M L k S1 t) (hm:Mm M L) (hr:u.rc=t.rc→u.rc=0) (hik:i≠k) (hc:cc u.pc→t.rc=u.cur→¬ cl t.pc) (hc':cc t.pc→u.rc=t.cur→¬ cl u.pc) (e:t.pc=27):Loc old { M with nxt:=up M.nxt t.cur 0} L i S0 u:=by
 cases h;cases hk;cases hm;simp [e,cl,cc,lk] at*
 constructor<;>(try simp only [cl,cc,lk] at *)<;>grind (splits:=24) [up]
theorem Loc.bare_k (h:Loc old M L i S0 t) (hm:Mm M L) (e:t.pc=27):Loc old { M with nxt:=up M.nxt t.cur 0} L i S0 { t with pc:=28}:=by
 obtain⟨r1,r4,r5,p0,k1,a1,a1',a1'',a2,a2',a7,q1,q2,q2',q4,q5,q6,q7,q8,o1,b0,b1,b2,b3,w0,w0',w1,w2,w3,w4,w5,z1,s1,s2,s3,s4,s6,s7,s8⟩:=h;obtain⟨v0,c1,c2,c3,a3,a5⟩:=hm;simp [e,cl,cc,lk] at r1 r4 r5 p0 k1 a1 a1' a1'' a2 a2' a7 q1 q2 q2' q4 q5 q6 q7 q8 o1 b0 b1 b2 b3 w0 w0' w1 w2 w3 w4 w5 z1 s1 s2 s3 s4 s6 s7 s8
 constructor<;>simp only [cl,cc,lk,Th.on,Th.by]<;>grind [up]
theorem Mm.bare (h:Loc old M L i S0 t) (hm:Mm M L) (e:t.pc=27):Mm { M with nxt:=up M.nxt t.cur 0} L:=by
 obtain⟨r1,r4,r5,p0,k1,a1,a1',a1'',a2,a2',a7,q1,q2,q2',q4,q5,q6,q7,q8,o1,b0,b1,b2,b3,w0,w0',w1,w2,w3,w4,w5,z1,s1,s2,s3,s4,s6,s7,s8⟩:=h;obtain⟨v0,c1,c2,c3,a3,a5⟩:=hm;simp [e,cl,cc,lk] at r1 r4 r5 p0 k1 a1 a1' a1'' a2 a2' a7 q1 q2 q2' q4 q5 q6 q7 q8 o1 b0 b1 b2 b3 w0 w0' w1 w2 w3 w4 w5 z1 s1 s2 s3 s4 s6 s7 s8;have hx:=c1.other (v:=0) (a:=t.cur) (by grind)
 constructor<;>grind [up]
theorem Loc.solo_o (h:Loc old M L i S0 u) (hk:Loc old M L k S1 t) (hm:Mm M L) (hr:u.rc=t.rc→u.rc=0) (hik:i≠k) (hc:cc u.pc→t.rc=u.cur→¬ cl t.pc) (hc':cc t.pc→u.rc=t.cur→¬ cl u.pc) (e:t.pc=28) (c:M.head=0):Loc old { M with head:=t.cur} [t.cur] i S0 u:=by
 obtain⟨r1,r4,r5,p0,k1,a1,a1',a1'',a2,a2',a7,q1,q2,q2',q4,q5,q6,q7,q8,o1,b0,b1,b2,b3,w0,w0',w1,w2,w3,w4,w5,z1,s1,s2,s3,s4,s6,s7,s8⟩:=h;obtain⟨Kr1,Kr4,Kr5,Kp0,Kk1,Ka1,Ka1',Ka1'',Ka2,Ka2',Ka7,Kq1,Kq2,Kq2',Kq4,Kq5,Kq6,Kq7,Kq8,Ko1,Kb0,Kb1,Kb2,Kb3,Kw0,Kw0',Kw1,Kw2,Kw3,Kw4,Kw5,Kz1,Ks1,Ks2,Ks3,Ks4,Ks6,Ks7,Ks8⟩:=hk;obtain⟨v0,c1,c2,c3,a3,a5⟩:=hm;simp [e,cl,cc,lk] at hc hc' Kr1 Kr4 Kr5 Kp0 Kk1 Ka1 Ka1' Ka1'' Ka2 Ka2' Ka7 Kq1 Kq2 Kq2' Kq4 Kq5 Kq6 Kq7 Kq8 Ko1 Kb0 Kb1 Kb2 Kb3 Kw0 Kw0' Kw1 Kw2 Kw3 Kw4 Kw5 Kz1 Ks1 Ks2 Ks3 Ks4 Ks6 Ks7 Ks8;have hl:L=[]:=Chain.nil (c▸c1);subst hl
 constructor<;>simp only [cl,cc,lk] at* <;>grind (splits:=24) [up]
theorem Loc.solo_k (h:Loc old M L i S0 t) (hm:Mm M L) (e:t.pc=28) (c:M.head=0):Loc old { M with head:=t.cur} [t.cur] i S0 { t with pc:=32}:=by
 obtain⟨r1,r4,r5,p0,k1,a1,a1',a1'',a2,a2',a7,q1,q2,q2',q4,q5,q6,q7,q8,o1,b0,b1,b2,b3,w0,w0',w1,w2,w3,w4,w5,z1,s1,s2,s3,s4,s6,s7,s8⟩:=h;obtain⟨v0,c1,c2,c3,a3,a5⟩:=hm;simp [e,cl,cc,lk] at r1 r4 r5 p0 k1 a1 a1' a1'' a2 a2' a7 q1 q2 q2' q4 q5 q6 q7 q8 o1 b0 b1 b2 b3 w0 w0' w1 w2 w3 w4 w5 z1 s1 s2 s3 s4 s6 s7 s8;have hl:L=[]:=Chain.nil (c▸c1);subst hl
 constructor<;>simp only [cl,cc,lk,Th.on,Th.by]<;>grind [up]
theorem Mm.solo (h:Loc old M L i S0 t) (hm:Mm M L) (e:t.pc=28) (c:M.head=0):Mm { M with head:=t.cur} [t.cur]:=by
 obtain⟨r1,r4,r5,p0,k1,a1,a1',a1'',a2,a2',a7,q1,q2,q2',q4,q5,q6,q7,q8,o1,b0,b1,b2,b3,w0,w0',w1,w2,w3,w4,w5,z1,s1,s2,s3,s4,s6,s7,s8⟩:=h;obtain⟨v0,c1,c2,c3,a3,a5⟩:=hm;simp [e,cl,cc,lk] at r1 r4 r5 p0 k1 a1 a1' a1'' a2 a2' a7 q1 q2 q2' q4 q5 q6 q7 q8 o1 b0 b1 b2 b3 w0 w0' w1 w2 w3 w4 w5 z1 s1 s2 s3 s4 s6 s7 s8;have hl:L=[]:=Chain.nil (c▸c1);subst hl;have hcur:isRec M.k t.cur:=by unfold isRec;omega
 have h0:t.cur≠0:=by unfold isRec at hcur;omega
 have hx:Chain M.nxt t.cur [t.cur]:=⟨rfl,h0,b0⟩
 constructor<;>grind [up]
theorem Loc.tie_o (h:Loc old M L i S0 u) (hk:Loc old M L k S1 t) (hm:Mm M L) (hr:u.rc=t.rc→u.rc=0) (hik:i≠k) (hc:cc u.pc→t.rc=u.cur→¬ cl t.pc) (hc':cc t.pc→u.rc=t.cur→¬ cl u.pc) (e:t.pc=30):Loc old { M with nxt:=up M.nxt t.cur t.look} L i S0 u:=by
 cases h;cases hk;cases hm;simp [e,cl,cc,lk] at*
 constructor<;>(try simp only [cl,cc,lk] at *)<;>grind (splits:=24) [up]
theorem Loc.tie_k (h:Loc old M L i S0 t) (hm:Mm M L) (e:t.pc=30):Loc old { M with nxt:=up M.nxt t.cur t.look} L i S0 { t with pc:=31}:=by
 obtain⟨r1,r4,r5,p0,k1,a1,a1',a1'',a2,a2',a7,q1,q2,q2',q4,q5,q6,q7,q8,o1,b0,b1,b2,b3,w0,w0',w1,w2,w3,w4,w5,z1,s1,s2,s3,s4,s6,s7,s8⟩:=h;obtain⟨v0,c1,c2,c3,a3,a5⟩:=hm;simp [e,cl,cc,lk] at r1 r4 r5 p0 k1 a1 a1' a1'' a2 a2' a7 q1 q2 q2' q4 q5 q6 q7 q8 o1 b0 b1 b2 b3 w0 w0' w1 w2 w3 w4 w5 z1 s1 s2 s3 s4 s6 s7 s8
 constructor<;>simp only [cl,cc,lk,Th.on,Th.by]<;>grind [up]
theorem Mm.tie (h:Loc old M L i S0 t) (hm:Mm M L) (e:t.pc=30):Mm { M with nxt:=up M.nxt t.cur t.look} L:=by
 obtain⟨r1,r4,r5,p0,k1,a1,a1',a1'',a2,a2',a7,q1,q2,q2',q4,q5,q6,q7,q8,o1,b0,b1,b2,b3,w0,w0',w1,w2,w3,w4,w5,z1,s1,s2,s3,s4,s6,s7,s8⟩:=h;obtain⟨v0,c1,c2,c3,a3,a5⟩:=hm;simp [e,cl,cc,lk] at r1 r4 r5 p0 k1 a1 a1' a1'' a2 a2' a7 q1 q2 q2' q4 q5 q6 q7 q8 o1 b0 b1 b2 b3 w0 w0' w1 w2 w3 w4 w5 z1 s1 s2 s3 s4 s6 s7 s8;have hx:=c1.other (v:=t.look) (a:=t.cur) (by grind)
 constructor<;>grind [up]
theorem Loc.seen_o (h:Loc old M L i S0 u) (hk:Loc old M L k S1 t) (hm:Mm M L) (hr:u.rc=t.rc→u.rc=0) (hik:i≠k) (hc:cc u.pc→t.rc=u.cur→¬ cl t.pc) (hc':cc t.pc→u.rc=t.cur→¬ cl u.pc) (e:t.pc=32):Loc old { M with act:=up M.act t.cur 1} L i S0 u:=by
 cases h;cases hk;cases hm;simp [e,cl,cc,lk] at*
 constructor<;>(try simp only [cl,cc,lk] at *)<;>grind (splits:=24) [up]
theorem Loc.seen_k (h:Loc old M L i S0 t) (hm:Mm M L) (e:t.pc=32):Loc old { M with act:=up M.act t.cur 1} L i S0 (Th.on t):=by
 obtain⟨r1,r4,r5,p0,k1,a1,a1',a1'',a2,a2',a7,q1,q2,q2',q4,q5,q6,q7,q8,o1,b0,b1,b2,b3,w0,w0',w1,w2,w3,w4,w5,z1,s1,s2,s3,s4,s6,s7,s8⟩:=h;obtain⟨v0,c1,c2,c3,a3,a5⟩:=hm;simp [e,cl,cc,lk] at r1 r4 r5 p0 k1 a1 a1' a1'' a2 a2' a7 q1 q2 q2' q4 q5 q6 q7 q8 o1 b0 b1 b2 b3 w0 w0' w1 w2 w3 w4 w5 z1 s1 s2 s3 s4 s6 s7 s8
 constructor<;>simp only [cl,cc,lk,Th.on,Th.by]<;>grind [up]
theorem Mm.seen (h:Loc old M L i S0 t) (hm:Mm M L) (e:t.pc=32):Mm { M with act:=up M.act t.cur 1} L:=by
 obtain⟨r1,r4,r5,p0,k1,a1,a1',a1'',a2,a2',a7,q1,q2,q2',q4,q5,q6,q7,q8,o1,b0,b1,b2,b3,w0,w0',w1,w2,w3,w4,w5,z1,s1,s2,s3,s4,s6,s7,s8⟩:=h;obtain⟨v0,c1,c2,c3,a3,a5⟩:=hm;simp [e,cl,cc,lk] at r1 r4 r5 p0 k1 a1 a1' a1'' a2 a2' a7 q1 q2 q2' q4 q5 q6 q7 q8 o1 b0 b1 b2 b3 w0 w0' w1 w2 w3 w4 w5 z1 s1 s2 s3 s4 s6 s7 s8
 constructor<;>grind [up]
theorem Loc.tell_o (h:Loc old M L i S0 u) (hk:Loc old M L k S1 t) (hm:Mm M L) (hr:u.rc=t.rc→u.rc=0) (hik:i≠k) (hc:cc u.pc→t.rc=u.cur→¬ cl t.pc) (hc':cc t.pc→u.rc=t.cur→¬ cl u.pc) (e:t.pc=37) {x:Item} {l:List Item} (c:t.batch.drop t.nth.toNat=x::l):Loc old { M with tld:=up M.tld x.rc x.res} L i S0 u:=by
 cases h;cases hk;cases hm;simp [e,cl,cc,lk] at*
 constructor<;>(try simp only [cl,cc,lk] at *)<;>grind (splits:=24) [up]
theorem Loc.tell_k (h:Loc old M L i S0 t) (hm:Mm M L) (e:t.pc=37) {x:Item} {l:List Item} (c:t.batch.drop t.nth.toNat=x::l):Loc old { M with tld:=up M.tld x.rc x.res} L i S0 { t with pc:=38}:=by
 obtain⟨r1,r4,r5,p0,k1,a1,a1',a1'',a2,a2',a7,q1,q2,q2',q4,q5,q6,q7,q8,o1,b0,b1,b2,b3,w0,w0',w1,w2,w3,w4,w5,z1,s1,s2,s3,s4,s6,s7,s8⟩:=h;obtain⟨v0,c1,c2,c3,a3,a5⟩:=hm;simp [e,cl,cc,lk] at r1 r4 r5 p0 k1 a1 a1' a1'' a2 a2' a7 q1 q2 q2' q4 q5 q6 q7 q8 o1 b0 b1 b2 b3 w0 w0' w1 w2 w3 w4 w5 z1 s1 s2 s3 s4 s6 s7 s8
 constructor<;>simp only [cl,cc,lk,Th.on,Th.by]<;>grind [up]
theorem Mm.tell (h:Loc old M L i S0 t) (hm:Mm M L) (e:t.pc=37) {x:Item} {l:List Item} (c:t.batch.drop t.nth.toNat=x::l):Mm { M with tld:=up M.tld x.rc x.res} L:=by
 obtain⟨r1,r4,r5,p0,k1,a1,a1',a1'',a2,a2',a7,q1,q2,q2',q4,q5,q6,q7,q8,o1,b0,b1,b2,b3,w0,w0',w1,w2,w3,w4,w5,z1,s1,s2,s3,s4,s6,s7,s8⟩:=h;obtain⟨v0,c1,c2,c3,a3,a5⟩:=hm;simp [e,cl,cc,lk] at r1 r4 r5 p0 k1 a1 a1' a1'' a2 a2' a7 q1 q2 q2' q4 q5 q6 q7 q8 o1 b0 b1 b2 b3 w0 w0' w1 w2 w3 w4 w5 z1 s1 s2 s3 s4 s6 s7 s8
 constructor<;>grind [up]
theorem Loc.aged_o (h:Loc old M L i S0 u) (hk:Loc old M L k S1 t) (hm:Mm M L) (hr:u.rc=t.rc→u.rc=0) (hik:i≠k) (hc:cc u.pc→t.rc=u.cur→¬ cl t.pc) (hc':cc t.pc→u.rc=t.cur→¬ cl u.pc) (e:t.pc=38) {x:Item} {l:List Item} (c:t.batch.drop t.nth.toNat=x::l):Loc old { M with age:=up M.age x.rc t.pass} L i S0 u:=by
 cases h;cases hk;cases hm;simp [e,cl,cc,lk] at*
 constructor<;>(try simp only [cl,cc,lk] at *)<;>grind (splits:=24) [up]
theorem Loc.aged_k (h:Loc old M L i S0 t) (hm:Mm M L) (e:t.pc=38) {x:Item} {l:List Item} (c:t.batch.drop t.nth.toNat=x::l):Loc old { M with age:=up M.age x.rc t.pass} L i S0 { t with pc:=39}:=by
 obtain⟨r1,r4,r5,p0,k1,a1,a1',a1'',a2,a2',a7,q1,q2,q2',q4,q5,q6,q7,q8,o1,b0,b1,b2,b3,w0,w0',w1,w2,w3,w4,w5,z1,s1,s2,s3,s4,s6,s7,s8⟩:=h;obtain⟨v0,c1,c2,c3,a3,a5⟩:=hm;simp [e,cl,cc,lk] at r1 r4 r5 p0 k1 a1 a1' a1'' a2 a2' a7 q1 q2 q2' q4 q5 q6 q7 q8 o1 b0 b1 b2 b3 w0 w0' w1 w2 w3 w4 w5 z1 s1 s2 s3 s4 s6 s7 s8
 constructor<;>simp only [cl,cc,lk,Th.on,Th.by]<;>grind [up]
theorem Mm.aged (h:Loc old M L i S0 t) (hm:Mm M L) (e:t.pc=38) {x:Item} {l:List Item} (c:t.batch.drop t.nth.toNat=x::l):Mm { M with age:=up M.age x.rc t.pass} L:=by
 obtain⟨r1,r4,r5,p0,k1,a1,a1',a1'',a2,a2',a7,q1,q2,q2',q4,q5,q6,q7,q8,o1,b0,b1,b2,b3,w0,w0',w1,w2,w3,w4,w5,z1,s1,s2,s3,s4,s6,s7,s8⟩:=h;obtain⟨v0,c1,c2,c3,a3,a5⟩:=hm;simp [e,cl,cc,lk] at r1 r4 r5 p0 k1 a1 a1' a1'' a2 a2' a7 q1 q2 q2' q4 q5 q6 q7 q8 o1 b0 b1 b2 b3 w0 w0' w1 w2 w3 w4 w5 z1 s1 s2 s3 s4 s6 s7 s8
 constructor<;>grind [up]
theorem Loc.close_o (h:Loc old M L i S0 u) (hk:Loc old M L k S1 t) (hm:Mm M L) (hr:u.rc=t.rc→u.rc=0) (hik:i≠k) (hc:cc u.pc→t.rc=u.cur→¬ cl t.pc) (hc':cc t.pc→u.rc=t.cur→¬ cl u.pc) (e:t.pc=44) (c:M.req t.cur=0):Loc old { M with req:=up M.req t.cur (-1)} L i S0 u:=by
 cases h;cases hk;cases hm;simp [e,cl,cc,lk] at*
 constructor<;>(try simp only [cl,cc,lk] at *)<;>grind (splits:=24) [up]
theorem Loc.close_k (h:Loc old M L i S0 t) (hm:Mm M L) (e:t.pc=44) (c:M.req t.cur=0):Loc old { M with req:=up M.req t.cur (-1)} L i S0 { t with pc:=45}:=by
 obtain⟨r1,r4,r5,p0,k1,a1,a1',a1'',a2,a2',a7,q1,q2,q2',q4,q5,q6,q7,q8,o1,b0,b1,b2,b3,w0,w0',w1,w2,w3,w4,w5,z1,s1,s2,s3,s4,s6,s7,s8⟩:=h;obtain⟨v0,c1,c2,c3,a3,a5⟩:=hm;simp [e,cl,cc,lk] at r1 r4 r5 p0 k1 a1 a1' a1'' a2 a2' a7 q1 q2 q2' q4 q5 q6 q7 q8 o1 b0 b1 b2 b3 w0 w0' w1 w2 w3 w4 w5 z1 s1 s2 s3 s4 s6 s7 s8
 constructor<;>simp only [cl,cc,lk,Th.on,Th.by]<;>grind [up]
theorem Mm.close (h:Loc old M L i S0 t) (hm:Mm M L) (e:t.pc=44) (c:M.req t.cur=0):Mm { M with req:=up M.req t.cur (-1)} L:=by
 obtain⟨r1,r4,r5,p0,k1,a1,a1',a1'',a2,a2',a7,q1,q2,q2',q4,q5,q6,q7,q8,o1,b0,b1,b2,b3,w0,w0',w1,w2,w3,w4,w5,z1,s1,s2,s3,s4,s6,s7,s8⟩:=h;obtain⟨v0,c1,c2,c3,a3,a5⟩:=hm;simp [e,cl,cc,lk] at r1 r4 r5 p0 k1 a1 a1' a1'' a2 a2' a7 q1 q2 q2' q4 q5 q6 q7 q8 o1 b0 b1 b2 b3 w0 w0' w1 w2 w3 w4 w5 z1 s1 s2 s3 s4 s6 s7 s8
 constructor<;>grind [up]
theorem Loc.off_o (h:Loc old M L i S0 u) (hk:Loc old M L k S1 t) (hm:Mm M L) (hr:u.rc=t.rc→u.rc=0) (hik:i≠k) (hc:cc u.pc→t.rc=u.cur→¬ cl t.pc) (hc':cc t.pc→u.rc=t.cur→¬ cl u.pc) (e:t.pc=47):Loc old { M with act:=up M.act t.cur 0} L i S0 u:=by
 cases h;cases hk;cases hm;simp [e,cl,cc,lk] at*
 constructor<;>(try simp only [cl,cc,lk] at *)<;>grind (splits:=24) [up]
theorem Loc.off_k (h:Loc old M L i S0 t) (hm:Mm M L) (e:t.pc=47):Loc old { M with act:=up M.act t.cur 0} L i S0 { t with pc:=41}:=by
 obtain⟨r1,r4,r5,p0,k1,a1,a1',a1'',a2,a2',a7,q1,q2,q2',q4,q5,q6,q7,q8,o1,b0,b1,b2,b3,w0,w0',w1,w2,w3,w4,w5,z1,s1,s2,s3,s4,s6,s7,s8⟩:=h;obtain⟨v0,c1,c2,c3,a3,a5⟩:=hm;simp [e,cl,cc,lk] at r1 r4 r5 p0 k1 a1 a1' a1'' a2 a2' a7 q1 q2 q2' q4 q5 q6 q7 q8 o1 b0 b1 b2 b3 w0 w0' w1 w2 w3 w4 w5 z1 s1 s2 s3 s4 s6 s7 s8
 constructor<;>simp only [cl,cc,lk,Th.on,Th.by]<;>grind [up]
theorem Mm.off (h:Loc old M L i S0 t) (hm:Mm M L) (e:t.pc=47):Mm { M with act:=up M.act t.cur 0} L:=by
 obtain⟨r1,r4,r5,p0,k1,a1,a1',a1'',a2,a2',a7,q1,q2,q2',q4,q5,q6,q7,q8,o1,b0,b1,b2,b3,w0,w0',w1,w2,w3,w4,w5,z1,s1,s2,s3,s4,s6,s7,s8⟩:=h;obtain⟨v0,c1,c2,c3,a3,a5⟩:=hm;simp [e,cl,cc,lk] at r1 r4 r5 p0 k1 a1 a1' a1'' a2 a2' a7 q1 q2 q2' q4 q5 q6 q7 q8 o1 b0 b1 b2 b3 w0 w0' w1 w2 w3 w4 w5 z1 s1 s2 s3 s4 s6 s7 s8
 constructor<;>grind [up]
theorem Loc.release_o (h:Loc old M L i S0 u) (hk:Loc old M L k S1 t) (hm:Mm M L) (hr:u.rc=t.rc→u.rc=0) (hik:i≠k) (hc:cc u.pc→t.rc=u.cur→¬ cl t.pc) (hc':cc t.pc→u.rc=t.cur→¬ cl u.pc) (e:t.pc=48):Loc old { M with lock:=0} L i S0 u:=by
 cases h;cases hk;cases hm;simp [e,cl,cc,lk] at*
 constructor<;>(try simp only [cl,cc,lk] at *)<;>grind (splits:=24) [up]
theorem Loc.release_k (h:Loc old M L i S0 t) (hm:Mm M L) (e:t.pc=48):Loc old { M with lock:=0} L i S0 { t with pc:=11}:=by
 obtain⟨r1,r4,r5,p0,k1,a1,a1',a1'',a2,a2',a7,q1,q2,q2',q4,q5,q6,q7,q8,o1,b0,b1,b2,b3,w0,w0',w1,w2,w3,w4,w5,z1,s1,s2,s3,s4,s6,s7,s8⟩:=h;obtain⟨v0,c1,c2,c3,a3,a5⟩:=hm;simp [e,cl,cc,lk] at r1 r4 r5 p0 k1 a1 a1' a1'' a2 a2' a7 q1 q2 q2' q4 q5 q6 q7 q8 o1 b0 b1 b2 b3 w0 w0' w1 w2 w3 w4 w5 z1 s1 s2 s3 s4 s6 s7 s8
 constructor<;>simp only [cl,cc,lk,Th.on,Th.by]<;>grind [up]
theorem Mm.release (h:Loc old M L i S0 t) (hm:Mm M L) (e:t.pc=48):Mm { M with lock:=0} L:=by
 obtain⟨r1,r4,r5,p0,k1,a1,a1',a1'',a2,a2',a7,q1,q2,q2',q4,q5,q6,q7,q8,o1,b0,b1,b2,b3,w0,w0',w1,w2,w3,w4,w5,z1,s1,s2,s3,s4,s6,s7,s8⟩:=h;obtain⟨v0,c1,c2,c3,a3,a5⟩:=hm;simp [e,cl,cc,lk] at r1 r4 r5 p0 k1 a1 a1' a1'' a2 a2' a7 q1 q2 q2' q4 q5 q6 q7 q8 o1 b0 b1 b2 b3 w0 w0' w1 w2 w3 w4 w5 z1 s1 s2 s3 s4 s6 s7 s8
 constructor<;>grind [up]
end
section
set_option maxHeartbeats 1000000
variable {N:Nat} {old passes:Int} {M:AM} {T:Nat→Th} {L L1 L2:List Int} {S:Nat→Int→Prop} {k i:Nat} {S0 S1:Int→Prop} {t u:Th}
theorem Loc.cut_o (h:Loc old M L i S0 u) (hk:Loc old M L k S1 t) (hm:Mm M L) (hr:u.rc=t.rc→u.rc=0) (hik:i≠k) (hc:cc u.pc→t.rc=u.cur→¬ cl t.pc) (hc':cc t.pc→u.rc=t.cur→¬ cl u.pc) (e:t.pc=46) (hL:L=L1++t.prev::t.cur::L2):Loc old { M with nxt:=up M.nxt t.prev t.look} (L1++t.prev::L2) i S0 u:=by
 obtain⟨r1,r4,r5,p0,k1,a1,a1',a1'',a2,a2',a7,q1,q2,q2',q4,q5,q6,q7,q8,o1,b0,b1,b2,b3,w0,w0',w1,w2,w3,w4,w5,z1,s1,s2,s3,s4,s6,s7,s8⟩:=h;obtain⟨Kr1,Kr4,Kr5,Kp0,Kk1,Ka1,Ka1',Ka1'',Ka2,Ka2',Ka7,Kq1,Kq2,Kq2',Kq4,Kq5,Kq6,Kq7,Kq8,Ko1,Kb0,Kb1,Kb2,Kb3,Kw0,Kw0',Kw1,Kw2,Kw3,Kw4,Kw5,Kz1,Ks1,Ks2,Ks3,Ks4,Ks6,Ks7,Ks8⟩:=hk;obtain⟨v0,c1,c2,c3,a3,a5⟩:=hm;simp [e,cl,cc,lk] at hc hc' Kr1 Kr4 Kr5 Kp0 Kk1 Ka1 Ka1' Ka1'' Ka2 Ka2' Ka7 Kq1 Kq2 Kq2' Kq4 Kq5 Kq6 Kq7 Kq8 Ko1 Kb0 Kb1 Kb2 Kb3 Kw0 Kw0' Kw1 Kw2 Kw3 Kw4 Kw5 Kz1 Ks1 Ks2 Ks3 Ks4 Ks6 Ks7 Ks8;subst hL;have hin:∀ x,x∈L1++t.prev::t.cur::L2↔(x∈L1++t.prev::L2∨x=t.cur):=by intro x;simp only [List.mem_append,List.mem_cons];grind
 constructor<;>simp only [cl,cc,lk] at* <;>grind (splits:=24) [up]
theorem Loc.cut_k (h:Loc old M L i S0 t) (hm:Mm M L) (e:t.pc=46) (hL:L=L1++t.prev::t.cur::L2):Loc old { M with nxt:=up M.nxt t.prev t.look} (L1++t.prev::L2) i S0 { t with pc:=47}:=by
 obtain⟨r1,r4,r5,p0,k1,a1,a1',a1'',a2,a2',a7,q1,q2,q2',q4,q5,q6,q7,q8,o1,b0,b1,b2,b3,w0,w0',w1,w2,w3,w4,w5,z1,s1,s2,s3,s4,s6,s7,s8⟩:=h;obtain⟨v0,c1,c2,c3,a3,a5⟩:=hm;simp [e,cl,cc,lk] at r1 r4 r5 p0 k1 a1 a1' a1'' a2 a2' a7 q1 q2 q2' q4 q5 q6 q7 q8 o1 b0 b1 b2 b3 w0 w0' w1 w2 w3 w4 w5 z1 s1 s2 s3 s4 s6 s7 s8;subst hL;have hin:∀ x,x∈L1++t.prev::t.cur::L2↔(x∈L1++t.prev::L2∨x=t.cur):=by intro x;simp only [List.mem_append,List.mem_cons];grind
 have hno:t.cur∉L1++t.prev::L2:=by have:=c3;simp [List.nodup_append] at this ⊢;grind
 have hne:t.prev≠t.cur:=by intro e;apply hno;simp [← e]
 have hb:∀ a,a≠t.cur→Behind (L1++t.prev::t.cur::L2) t.prev a→Behind (L1++t.prev::L2) t.prev a:=fun a ha h=>h.cut hne ha
 constructor<;>simp only [cl,cc,lk,Th.on,Th.by]<;>grind [up]
theorem Mm.cut (h:Loc old M L i S0 t) (hm:Mm M L) (e:t.pc=46) (hL:L=L1++t.prev::t.cur::L2):Mm { M with nxt:=up M.nxt t.prev t.look} (L1++t.prev::L2):=by
 obtain⟨r1,r4,r5,p0,k1,a1,a1',a1'',a2,a2',a7,q1,q2,q2',q4,q5,q6,q7,q8,o1,b0,b1,b2,b3,w0,w0',w1,w2,w3,w4,w5,z1,s1,s2,s3,s4,s6,s7,s8⟩:=h;obtain⟨v0,c1,c2,c3,a3,a5⟩:=hm;simp [e,cl,cc,lk] at r1 r4 r5 p0 k1 a1 a1' a1'' a2 a2' a7 q1 q2 q2' q4 q5 q6 q7 q8 o1 b0 b1 b2 b3 w0 w0' w1 w2 w3 w4 w5 z1 s1 s2 s3 s4 s6 s7 s8;subst hL;have hin:∀ x,x∈L1++t.prev::t.cur::L2↔(x∈L1++t.prev::L2∨x=t.cur):=by intro x;simp only [List.mem_append,List.mem_cons];grind
 have hx:=c1.cut c3;rw [w5] at hx;have hnd:(L1++t.prev::L2).Nodup:=by have:=c3;simp [List.nodup_append] at this ⊢;grind
 constructor<;>grind [up]
theorem Loc.set_o (h:Loc old M L i S0 u) (hk:Loc old M L k S1 t) (hm:Mm M L) (hr:u.rc=t.rc→u.rc=0) (hik:i≠k) (hc:cc u.pc→t.rc=u.cur→¬ cl t.pc) (hc':cc t.pc→u.rc=t.cur→¬ cl u.pc) (e:t.pc=31) (hL:L=L1++t.prev::L2):Loc old { M with nxt:=up M.nxt t.prev t.cur} (L1++t.prev::t.cur::L2) i S0 u:=by
 obtain⟨r1,r4,r5,p0,k1,a1,a1',a1'',a2,a2',a7,q1,q2,q2',q4,q5,q6,q7,q8,o1,b0,b1,b2,b3,w0,w0',w1,w2,w3,w4,w5,z1,s1,s2,s3,s4,s6,s7,s8⟩:=h;obtain⟨Kr1,Kr4,Kr5,Kp0,Kk1,Ka1,Ka1',Ka1'',Ka2,Ka2',Ka7,Kq1,Kq2,Kq2',Kq4,Kq5,Kq6,Kq7,Kq8,Ko1,Kb0,Kb1,Kb2,Kb3,Kw0,Kw0',Kw1,Kw2,Kw3,Kw4,Kw5,Kz1,Ks1,Ks2,Ks3,Ks4,Ks6,Ks7,Ks8⟩:=hk;obtain⟨v0,c1,c2,c3,a3,a5⟩:=hm;simp [e,cl,cc,lk] at hc hc' Kr1 Kr4 Kr5 Kp0 Kk1 Ka1 Ka1' Ka1'' Ka2 Ka2' Ka7 Kq1 Kq2 Kq2' Kq4 Kq5 Kq6 Kq7 Kq8 Ko1 Kb0 Kb1 Kb2 Kb3 Kw0 Kw0' Kw1 Kw2 Kw3 Kw4 Kw5 Kz1 Ks1 Ks2 Ks3 Ks4 Ks6 Ks7 Ks8;subst hL;have hin:∀ x,x∈L1++t.prev::t.cur::L2↔(x∈L1++t.prev::L2∨x=t.cur):=by intro x;simp only [List.mem_append,List.mem_cons];grind
 constructor<;>simp only [cl,cc,lk] at* <;>grind (splits:=24) [up]
theorem Loc.set_k (h:Loc old M L i S0 t) (hm:Mm M L) (e:t.pc=31) (hL:L=L1++t.prev::L2):Loc old { M with nxt:=up M.nxt t.prev t.cur} (L1++t.prev::t.cur::L2) i S0 { t with pc:=32}:=by
 obtain⟨r1,r4,r5,p0,k1,a1,a1',a1'',a2,a2',a7,q1,q2,q2',q4,q5,q6,q7,q8,o1,b0,b1,b2,b3,w0,w0',w1,w2,w3,w4,w5,z1,s1,s2,s3,s4,s6,s7,s8⟩:=h;obtain⟨v0,c1,c2,c3,a3,a5⟩:=hm;simp [e,cl,cc,lk] at r1 r4 r5 p0 k1 a1 a1' a1'' a2 a2' a7 q1 q2 q2' q4 q5 q6 q7 q8 o1 b0 b1 b2 b3 w0 w0' w1 w2 w3 w4 w5 z1 s1 s2 s3 s4 s6 s7 s8;subst hL;have hin:∀ x,x∈L1++t.prev::t.cur::L2↔(x∈L1++t.prev::L2∨x=t.cur):=by intro x;simp only [List.mem_append,List.mem_cons];grind
 constructor<;>simp only [cl,cc,lk,Th.on,Th.by]<;>grind [up]
theorem Mm.set (h:Loc old M L i S0 t) (hm:Mm M L) (e:t.pc=31) (hL:L=L1++t.prev::L2):Mm { M with nxt:=up M.nxt t.prev t.cur} (L1++t.prev::t.cur::L2):=by
 obtain⟨r1,r4,r5,p0,k1,a1,a1',a1'',a2,a2',a7,q1,q2,q2',q4,q5,q6,q7,q8,o1,b0,b1,b2,b3,w0,w0',w1,w2,w3,w4,w5,z1,s1,s2,s3,s4,s6,s7,s8⟩:=h;obtain⟨v0,c1,c2,c3,a3,a5⟩:=hm;simp [e,cl,cc,lk] at r1 r4 r5 p0 k1 a1 a1' a1'' a2 a2' a7 q1 q2 q2' q4 q5 q6 q7 q8 o1 b0 b1 b2 b3 w0 w0' w1 w2 w3 w4 w5 z1 s1 s2 s3 s4 s6 s7 s8;subst hL;have hin:∀ x,x∈L1++t.prev::t.cur::L2↔(x∈L1++t.prev::L2∨x=t.cur):=by intro x;simp only [List.mem_append,List.mem_cons];grind
 have hcur:isRec M.k t.cur:=by unfold isRec;omega
 have h0:t.cur≠0:=by unfold isRec at hcur;omega
 have hx:=c1.insert c3 a2' h0 (by rw [b3,b2]);have hnd:(L1++t.prev::t.cur::L2).Nodup:=by have:=c3;simp [List.nodup_append] at this a2' ⊢;grind
 constructor<;>grind [up]
theorem Loc.free_o (h:Loc old M L i S0 u) (hk:Loc old M L k S1 t) (hm:Mm M L) (hr:u.rc=t.rc→u.rc=0) (hik:i≠k) (hc:cc u.pc→t.rc=u.cur→¬ cl t.pc) (hc':cc t.pc→u.rc=t.cur→¬ cl u.pc) (e:t.pc=39) {x:Item} {l:List Item} (c:t.batch.drop t.nth.toNat=x::l):Loc old { M with req:=up M.req x.rc 0} L i S0 u:=by
 obtain⟨r1,r4,r5,p0,k1,a1,a1',a1'',a2,a2',a7,q1,q2,q2',q4,q5,q6,q7,q8,o1,b0,b1,b2,b3,w0,w0',w1,w2,w3,w4,w5,z1,s1,s2,s3,s4,s6,s7,s8⟩:=h;obtain⟨Kr1,Kr4,Kr5,Kp0,Kk1,Ka1,Ka1',Ka1'',Ka2,Ka2',Ka7,Kq1,Kq2,Kq2',Kq4,Kq5,Kq6,Kq7,Kq8,Ko1,Kb0,Kb1,Kb2,Kb3,Kw0,Kw0',Kw1,Kw2,Kw3,Kw4,Kw5,Kz1,Ks1,Ks2,Ks3,Ks4,Ks6,Ks7,Ks8⟩:=hk;obtain⟨v0,c1,c2,c3,a3,a5⟩:=hm;simp [e,cl,cc,lk] at hc hc' Kr1 Kr4 Kr5 Kp0 Kk1 Ka1 Ka1' Ka1'' Ka2 Ka2' Ka7 Kq1 Kq2 Kq2' Kq4 Kq5 Kq6 Kq7 Kq8 Ko1 Kb0 Kb1 Kb2 Kb3 Kw0 Kw0' Kw1 Kw2 Kw3 Kw4 Kw5 Kz1 Ks1 Ks2 Ks3 Ks4 Ks6 Ks7 Ks8;have hd:(t.batch.drop t.nth.toNat).map Item.rc=x.rc::l.map Item.rc:=by rw [c];rfl
 have hsub:((t.batch.drop t.nth.toNat).map Item.rc).Nodup:=List.Sublist.nodup ((List.drop_sublist _ _).map _) Ks3
 have hxl:∀ y,y∈l→y.rc≠x.rc:=by
  rw [hd,List.nodup_cons] at hsub;exact fun y hy e=>hsub.1 (List.mem_map.2 ⟨y,hy,e⟩)
 have hx:=Ks6 x (by rw [c];exact List.mem_cons_self)
 constructor<;>simp only [cl,cc,lk] at* <;>grind (splits:=24) [up]
theorem Loc.free_k (h:Loc old M L i S0 t) (hm:Mm M L) (e:t.pc=39) {x:Item} {l:List Item} (c:t.batch.drop t.nth.toNat=x::l):Loc old { M with req:=up M.req x.rc 0} L i S0 { t with nth:=t.nth+1,pc:=if l≠[] then 37 else if t.runs<passes then 20 else 40}:=by
 obtain⟨r1,r4,r5,p0,k1,a1,a1',a1'',a2,a2',a7,q1,q2,q2',q4,q5,q6,q7,q8,o1,b0,b1,b2,b3,w0,w0',w1,w2,w3,w4,w5,z1,s1,s2,s3,s4,s6,s7,s8⟩:=h;obtain⟨v0,c1,c2,c3,a3,a5⟩:=hm;simp [e,cl,cc,lk] at r1 r4 r5 p0 k1 a1 a1' a1'' a2 a2' a7 q1 q2 q2' q4 q5 q6 q7 q8 o1 b0 b1 b2 b3 w0 w0' w1 w2 w3 w4 w5 z1 s1 s2 s3 s4 s6 s7 s8;have hd:(t.batch.drop t.nth.toNat).map Item.rc=x.rc::l.map Item.rc:=by rw [c];rfl
 have hsub:((t.batch.drop t.nth.toNat).map Item.rc).Nodup:=List.Sublist.nodup ((List.drop_sublist _ _).map _) s3
 have hxl:∀ y,y∈l→y.rc≠x.rc:=by
  rw [hd,List.nodup_cons] at hsub;exact fun y hy e=>hsub.1 (List.mem_map.2 ⟨y,hy,e⟩)
 have hx:=s6 x (by rw [c];exact List.mem_cons_self)
 have hdr:t.batch.drop (t.nth+1).toNat=l:=by
  have:(t.nth+1).toNat=t.nth.toNat+1:=by omega
  rw [this,←List.drop_drop,c];rfl
 have hl:∀ y,y∈l→isRec M.k y.rc∧M.req y.rc=y.word∧0<y.word∧y.rc∈L:=fun y hy=>s6 y (by rw [c];exact List.mem_cons_of_mem _ hy)
 constructor<;>simp only [cl,cc,lk,Th.on,Th.by]<;>grind [up]
theorem Mm.free (h:Loc old M L i S0 t) (hm:Mm M L) (e:t.pc=39) {x:Item} {l:List Item} (c:t.batch.drop t.nth.toNat=x::l):Mm { M with req:=up M.req x.rc 0} L:=by
 obtain⟨r1,r4,r5,p0,k1,a1,a1',a1'',a2,a2',a7,q1,q2,q2',q4,q5,q6,q7,q8,o1,b0,b1,b2,b3,w0,w0',w1,w2,w3,w4,w5,z1,s1,s2,s3,s4,s6,s7,s8⟩:=h;obtain⟨v0,c1,c2,c3,a3,a5⟩:=hm;simp [e,cl,cc,lk] at r1 r4 r5 p0 k1 a1 a1' a1'' a2 a2' a7 q1 q2 q2' q4 q5 q6 q7 q8 o1 b0 b1 b2 b3 w0 w0' w1 w2 w3 w4 w5 z1 s1 s2 s3 s4 s6 s7 s8;have hd:(t.batch.drop t.nth.toNat).map Item.rc=x.rc::l.map Item.rc:=by rw [c];rfl
 have hsub:((t.batch.drop t.nth.toNat).map Item.rc).Nodup:=List.Sublist.nodup ((List.drop_sublist _ _).map _) s3
 have hxl:∀ y,y∈l→y.rc≠x.rc:=by
  rw [hd,List.nodup_cons] at hsub;exact fun y hy e=>hsub.1 (List.mem_map.2 ⟨y,hy,e⟩)
 have hx:=s6 x (by rw [c];exact List.mem_cons_self)
 constructor<;>grind [up]
end
section
set_option maxHeartbeats 1000000
variable {N:Nat} {old passes:Int} {M:AM} {T:Nat→Th} {L:List Int} {S:Nat→Int→Prop} {k i:Nat} {S0 S1:Int→Prop} {t u:Th}
theorem Loc.alloc_o (h:Loc old M L i S0 u) (hk:Loc old M L k S1 t) (hm:Mm M L) (hr:u.rc=t.rc→u.rc=0) (hik:i≠k) (hc:cc u.pc→t.rc=u.cur→¬ cl t.pc) (hc':cc t.pc→u.rc=t.cur→¬ cl u.pc) (e:t.pc=1):Loc old { M with k:=M.k+1} L i S0 u:=by
 obtain⟨r1,r4,r5,p0,k1,a1,a1',a1'',a2,a2',a7,q1,q2,q2',q4,q5,q6,q7,q8,o1,b0,b1,b2,b3,w0,w0',w1,w2,w3,w4,w5,z1,s1,s2,s3,s4,s6,s7,s8⟩:=h;obtain⟨Kr1,Kr4,Kr5,Kp0,Kk1,Ka1,Ka1',Ka1'',Ka2,Ka2',Ka7,Kq1,Kq2,Kq2',Kq4,Kq5,Kq6,Kq7,Kq8,Ko1,Kb0,Kb1,Kb2,Kb3,Kw0,Kw0',Kw1,Kw2,Kw3,Kw4,Kw5,Kz1,Ks1,Ks2,Ks3,Ks4,Ks6,Ks7,Ks8⟩:=hk;obtain⟨v0,c1,c2,c3,a3,a5⟩:=hm;simp [e,cl,cc,lk] at hc hc' Kr1 Kr4 Kr5 Kp0 Kk1 Ka1 Ka1' Ka1'' Ka2 Ka2' Ka7 Kq1 Kq2 Kq2' Kq4 Kq5 Kq6 Kq7 Kq8 Ko1 Kb0 Kb1 Kb2 Kb3 Kw0 Kw0' Kw1 Kw2 Kw3 Kw4 Kw5 Kz1 Ks1 Ks2 Ks3 Ks4 Ks6 Ks7 Ks8;have hrec:∀ a,isRec (M.k+1) a↔(isRec M.k a∨a=3+5*(M.k:Int)):=by intro a;unfold isRec;omega
 constructor<;>simp only [cl,cc,lk] at* <;>grind (splits:=24) [up]
theorem Loc.alloc_k (h:Loc old M L i S0 t) (hm:Mm M L) (e:t.pc=1):Loc old { M with k:=M.k+1} L i S0 { t with rc:=3+5*(M.k:Int),pc:=2}:=by
 obtain⟨r1,r4,r5,p0,k1,a1,a1',a1'',a2,a2',a7,q1,q2,q2',q4,q5,q6,q7,q8,o1,b0,b1,b2,b3,w0,w0',w1,w2,w3,w4,w5,z1,s1,s2,s3,s4,s6,s7,s8⟩:=h;obtain⟨v0,c1,c2,c3,a3,a5⟩:=hm;simp [e,cl,cc,lk] at r1 r4 r5 p0 k1 a1 a1' a1'' a2 a2' a7 q1 q2 q2' q4 q5 q6 q7 q8 o1 b0 b1 b2 b3 w0 w0' w1 w2 w3 w4 w5 z1 s1 s2 s3 s4 s6 s7 s8;have hrec:∀ a,isRec (M.k+1) a↔(isRec M.k a∨a=3+5*(M.k:Int)):=by intro a;unfold isRec;omega
 have hnr:¬ isRec M.k (3+5*(M.k:Int)):=by unfold isRec;omega
 have hv:=v0 _ hnr
 constructor<;>simp only [cl,cc,lk,Th.on,Th.by]<;>grind [up]
theorem Mm.alloc (h:Loc old M L i S0 t) (hm:Mm M L) (e:t.pc=1):Mm { M with k:=M.k+1} L:=by
 obtain⟨r1,r4,r5,p0,k1,a1,a1',a1'',a2,a2',a7,q1,q2,q2',q4,q5,q6,q7,q8,o1,b0,b1,b2,b3,w0,w0',w1,w2,w3,w4,w5,z1,s1,s2,s3,s4,s6,s7,s8⟩:=h;obtain⟨v0,c1,c2,c3,a3,a5⟩:=hm;simp [e,cl,cc,lk] at r1 r4 r5 p0 k1 a1 a1' a1'' a2 a2' a7 q1 q2 q2' q4 q5 q6 q7 q8 o1 b0 b1 b2 b3 w0 w0' w1 w2 w3 w4 w5 z1 s1 s2 s3 s4 s6 s7 s8;have hrec:∀ a,isRec (M.k+1) a↔(isRec M.k a∨a=3+5*(M.k:Int)):=by intro a;unfold isRec;omega
 constructor<;>grind [up]
theorem Loc.start (h:Loc old M L i S0 t) (e:t.pc=0) {v:Int} (hv:0<v):Loc old M L i S0 { t with word:=v,seq:=t.seq+1,pc:=if t.rc=0 then 1 else 2}:=by
 obtain⟨r1,r4,r5,p0,k1,a1,a1',a1'',a2,a2',a7,q1,q2,q2',q4,q5,q6,q7,q8,o1,b0,b1,b2,b3,w0,w0',w1,w2,w3,w4,w5,z1,s1,s2,s3,s4,s6,s7,s8⟩:=h;simp [e,cl,cc,lk] at r1 r4 r5 p0 k1 a1 a1' a1'' a2 a2' a7 q1 q2 q2' q4 q5 q6 q7 q8 o1 b0 b1 b2 b3 w0 w0' w1 w2 w3 w4 w5 z1 s1 s2 s3 s4 s6 s7 s8
 constructor<;>simp only [cl,cc,lk]<;>grind
theorem Loc.serve (h:Loc old M L i S0 t) (e:t.pc=36) {b:List Item} (hb:b.map (fun x=>(x.rc,x.word))=t.batch.map fun x=>(x.rc,x.word)):Loc old M L i S0 { t with batch:=b,nth:=0,pc:=37}:=by
 have hr:b.map Item.rc=t.batch.map Item.rc:=by
  have:=congrArg (List.map Prod.fst) hb
  simpa [List.map_map,Function.comp_def] using this
 have hx:∀ x,x∈b→∃ y,y∈t.batch∧x.rc=y.rc∧x.word=y.word:=by
  intro x hx;have:(x.rc,x.word)∈b.map fun x=>(x.rc,x.word):=List.mem_map.2 ⟨x,hx,rfl⟩;rw [hb] at this;obtain⟨y,hy,e⟩:=List.mem_map.1 this;simp only [Prod.mk.injEq] at e;exact⟨y,hy,e.1.symm,e.2.symm⟩
 obtain⟨r1,r4,r5,p0,k1,a1,a1',a1'',a2,a2',a7,q1,q2,q2',q4,q5,q6,q7,q8,o1,b0,b1,b2,b3,w0,w0',w1,w2,w3,w4,w5,z1,s1,s2,s3,s4,s6,s7,s8⟩:=h;simp [e,cl,cc,lk] at r1 r4 r5 p0 k1 a1 a1' a1'' a2 a2' a7 q1 q2 q2' q4 q5 q6 q7 q8 o1 b0 b1 b2 b3 w0 w0' w1 w2 w3 w4 w5 z1 s1 s2 s3 s4 s6 s7 s8
 constructor<;>simp only [cl,cc,lk]<;>grind
end
end Go.Sf
