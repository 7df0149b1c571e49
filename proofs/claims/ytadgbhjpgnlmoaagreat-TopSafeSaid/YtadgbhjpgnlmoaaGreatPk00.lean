/- TopSafe, a part of its proof; no conditions. -/

set_option linter.all false
namespace Go.Sf
section
structure Item where
 rc:Int
 word:Int
 res:Int
structure Th where
 pc:Int
 rc:Int
 seq:Int
 word:Int
 look:Int
 cur:Int
 prev:Int
 nth:Int
 many:Int
 pass:Int
 runs:Int
 batch:List Item
structure Lg where
 th:Int
 seq:Int
 w:Int
structure AM where
 lock:Int
 head:Int
 pass:Int
 k:Nat
 req:Int→Int
 act:Int→Int
 age:Int→Int
 nxt:Int→Int
 tld:Int→Int
def up {α:Type} (f:Int→α) (a:Int) (v:α) (b:Int):α:=if b=a then v else f b
def isRec (k:Nat) (a:Int):Prop:=3≤a∧a%5=3∧a<3+5*(k:Int)
def Chain (f:Int→Int):Int→List Int→Prop
 | h,[]=>h=0
 | h,a::l=>h=a∧a≠0∧Chain f (f a) l
def cl (p:Int):Prop:=p=7∨p=8∨p=9∨p=10∨p=15∨p=16
def cc (p:Int):Prop:=26≤p∧p≤32
def lk (p:Int):Prop:=20≤p∧p≤48
def Th.on (t:Th):Th:= { t with nth:=t.nth+1,pc:=if t.nth+1<t.many then 23 else 33}
def Th.by (t:Th):Th:= { t with prev:=t.cur,pc:=41}
inductive Step (passes old:Int) (id:Int):AM→Th→AM→Th→Prop
 | alloc {M:AM} {t:Th}:t.pc=1→Step passes old id M t { M with k:=M.k+1} { t with rc:=3+5*(M.k:Int),pc:=2}
 | publish {M:AM} {t:Th}:t.pc=2→M.req t.rc=0→Step passes old id M t { M with req:=up M.req t.rc t.word} { t with pc:=5}
 | publish' {M:AM} {t:Th}:t.pc=2→M.req t.rc≠0→Step passes old id M t M { t with pc:=3}
 | closed {M:AM} {t:Th}:t.pc=3→Step passes old id M t M { t with look:=M.act t.rc,pc:=if M.act t.rc=0 then 4 else 3}
 | opened {M:AM} {t:Th}:t.pc=4→Step passes old id M t { M with req:=up M.req t.rc t.word} { t with pc:=5}
 | check {M:AM} {t:Th}:t.pc=5→Step passes old id M t M { t with look:=M.act t.rc,pc:=if M.act t.rc=0 then 6 else 11}
 | claim {M:AM} {t:Th}:t.pc=6→M.act t.rc=0→Step passes old id M t { M with act:=up M.act t.rc 2} { t with pc:=15}
 | claim' {M:AM} {t:Th}:t.pc=6→M.act t.rc≠0→Step passes old id M t M { t with pc:=11}
 | sure {M:AM} {t:Th}:t.pc=15→Step passes old id M t M { t with look:=M.req t.rc,pc:=if M.req t.rc=t.word then 7 else 16}
 | drop {M:AM} {t:Th}:t.pc=16→Step passes old id M t { M with act:=up M.act t.rc 0} { t with pc:=11}
 | front {M:AM} {t:Th}:t.pc=7→Step passes old id M t M { t with look:=M.head,pc:=8}
 | next {M:AM} {t:Th}:t.pc=8→Step passes old id M t { M with nxt:=up M.nxt t.rc t.look} { t with pc:=9}
 | link {M:AM} {t:Th}:t.pc=9→M.head=t.look→Step passes old id M t { M with head:=t.rc} { t with look:=1,pc:=10}
 | link' {M:AM} {t:Th}:t.pc=9→M.head≠t.look→Step passes old id M t M { t with look:=0,pc:=10}
 | mark {M:AM} {t:Th}:t.pc=10→Step passes old id M t { M with act:=up M.act t.rc t.look} { t with pc:=11}
 | wait {M:AM} {t:Th}:t.pc=11→Step passes old id M t M { t with look:=M.req t.rc,pc:=if M.req t.rc=t.word then 12 else 14}
 | lock {M:AM} {t:Th}:t.pc=12→Step passes old id M t M { t with look:=M.lock,pc:=if M.lock=0 then 13 else 11}
 | take {M:AM} {t:Th}:t.pc=13→M.lock=0→Step passes old id M t { M with lock:=id+1} { t with pc:=20,runs:=0}
 | take' {M:AM} {t:Th}:t.pc=13→M.lock≠0→Step passes old id M t M { t with pc:=11}
 | read {M:AM} {t:Th}:t.pc=14→Step passes old id M t M { t with look:=M.tld t.rc,word:=0,pc:=0}
 | pass {M:AM} {t:Th}:t.pc=20→Step passes old id M t M { t with look:=M.pass,pc:=21}
 | stamp {M:AM} {t:Th}:t.pc=21→Step passes old id M t { M with pass:=t.look+1} { t with pass:=t.look+1,runs:=t.runs+1,pc:=22}
 | many {M:AM} {t:Th}:t.pc=22→Step passes old id M t M (Th.on { t with many:=M.k,nth:= -1,batch:=[]})
 | look {M:AM} {t:Th}:t.pc=23→M.act (3+5*t.nth)=0→Step passes old id M t M { t with cur:=3+5*t.nth,look:=0,pc:=24}
 | look' {M:AM} {t:Th}:t.pc=23→M.act (3+5*t.nth)≠0→Step passes old id M t M (Th.on { t with cur:=3+5*t.nth,look:=M.act (3+5*t.nth)})
 | pend {M:AM} {t:Th}:t.pc=24→0<M.req t.cur→Step passes old id M t M { t with look:=M.req t.cur,pc:=25}
 | pend' {M:AM} {t:Th}:t.pc=24→¬ 0<M.req t.cur→Step passes old id M t M (Th.on { t with look:=M.req t.cur})
 | help {M:AM} {t:Th}:t.pc=25→M.act t.cur=0→Step passes old id M t { M with act:=up M.act t.cur 2} { t with pc:=26}
 | help' {M:AM} {t:Th}:t.pc=25→M.act t.cur≠0→Step passes old id M t M (Th.on t)
 | first {M:AM} {t:Th}:t.pc=26→M.head=0→Step passes old id M t M { t with look:=0,pc:=27}
 | first' {M:AM} {t:Th}:t.pc=26→M.head≠0→Step passes old id M t M { t with look:=M.head,prev:=M.head,pc:=29}
 | bare {M:AM} {t:Th}:t.pc=27→Step passes old id M t { M with nxt:=up M.nxt t.cur 0} { t with pc:=28}
 | solo {M:AM} {t:Th}:t.pc=28→M.head=0→Step passes old id M t { M with head:=t.cur} { t with pc:=32}
 | solo' {M:AM} {t:Th}:t.pc=28→M.head≠0→Step passes old id M t M { t with pc:=26}
 | after {M:AM} {t:Th}:t.pc=29→Step passes old id M t M { t with look:=M.nxt t.prev,pc:=30}
 | tie {M:AM} {t:Th}:t.pc=30→Step passes old id M t { M with nxt:=up M.nxt t.cur t.look} { t with pc:=31}
 | set {M:AM} {t:Th}:t.pc=31→Step passes old id M t { M with nxt:=up M.nxt t.prev t.cur} { t with pc:=32}
 | seen {M:AM} {t:Th}:t.pc=32→Step passes old id M t { M with act:=up M.act t.cur 1} (Th.on t)
 | scan {M:AM} {t:Th}:t.pc=33→M.head=0→Step passes old id M t M { t with look:=0,pc:=40}
 | scan' {M:AM} {t:Th}:t.pc=33→M.head≠0→Step passes old id M t M { t with look:=M.head,cur:=M.head,pc:=34}
 | pick {M:AM} {t:Th}:t.pc=34→0<M.req t.cur→Step passes old id M t M { t with look:=M.req t.cur,pc:=35,batch:=t.batch++[⟨t.cur,M.req t.cur,0⟩]}
 | pick' {M:AM} {t:Th}:t.pc=34→¬ 0<M.req t.cur→Step passes old id M t M { t with look:=M.req t.cur,pc:=35}
 | goOn {M:AM} {t:Th}:t.pc=35→M.nxt t.cur≠0→Step passes old id M t M { t with look:=M.nxt t.cur,cur:=M.nxt t.cur,pc:=34}
 | goOn' {M:AM} {t:Th}:t.pc=35→M.nxt t.cur=0→Step passes old id M t M { t with look:=0,pc:=if t.batch=[] then 40 else 36}
 | tell {M:AM} {t:Th} {x:Item} {l:List Item}:t.pc=37→t.batch.drop t.nth.toNat=x::l→Step passes old id M t { M with tld:=up M.tld x.rc x.res} { t with pc:=38}
 | aged {M:AM} {t:Th} {x:Item} {l:List Item}:t.pc=38→t.batch.drop t.nth.toNat=x::l→Step passes old id M t { M with age:=up M.age x.rc t.pass} { t with pc:=39}
 | free {M:AM} {t:Th} {x:Item} {l:List Item}:t.pc=39→t.batch.drop t.nth.toNat=x::l→Step passes old id M t { M with req:=up M.req x.rc 0} { t with nth:=t.nth+1,pc:=if l≠[] then 37 else if t.runs<passes then 20 else 40}
 | sweep {M:AM} {t:Th}:t.pc=40→M.head=0→Step passes old id M t M { t with look:=0,pc:=48}
 | sweep' {M:AM} {t:Th}:t.pc=40→M.head≠0→Step passes old id M t M { t with look:=M.head,prev:=M.head,pc:=41}
 | step {M:AM} {t:Th}:t.pc=41→M.nxt t.prev=0→Step passes old id M t M { t with look:=0,pc:=48}
 | step' {M:AM} {t:Th}:t.pc=41→M.nxt t.prev≠0→Step passes old id M t M { t with look:=M.nxt t.prev,cur:=M.nxt t.prev,pc:=42}
 | live {M:AM} {t:Th}:t.pc=42→M.act t.cur=1→Step passes old id M t M { t with look:=1,pc:=43}
 | live' {M:AM} {t:Th}:t.pc=42→M.act t.cur≠1→Step passes old id M t M (Th.by { t with look:=M.act t.cur})
 | old {M:AM} {t:Th}:t.pc=43→¬ t.pass-M.age t.cur≤old→Step passes old id M t M { t with look:=M.age t.cur,pc:=44}
 | old' {M:AM} {t:Th}:t.pc=43→t.pass-M.age t.cur≤old→Step passes old id M t M (Th.by { t with look:=M.age t.cur})
 | close {M:AM} {t:Th}:t.pc=44→M.req t.cur=0→Step passes old id M t { M with req:=up M.req t.cur (-1)} { t with pc:=45}
 | close' {M:AM} {t:Th}:t.pc=44→M.req t.cur≠0→Step passes old id M t M (Th.by t)
 | past {M:AM} {t:Th}:t.pc=45→Step passes old id M t M { t with look:=M.nxt t.cur,pc:=46}
 | cut {M:AM} {t:Th}:t.pc=46→Step passes old id M t { M with nxt:=up M.nxt t.prev t.look} { t with pc:=47}
 | off {M:AM} {t:Th}:t.pc=47→Step passes old id M t { M with act:=up M.act t.cur 0} { t with pc:=41}
 | release {M:AM} {t:Th}:t.pc=48→Step passes old id M t { M with lock:=0} { t with pc:=11}
end
section
def upT {α:Type} (T:Nat→α) (k:Nat) (t:α) (i:Nat):α:=if i=k then t else T i
def Behind (L:List Int) (p a:Int):Prop:=∃ L1 L2,L=L1++p::L2∧a∈L2
structure Loc (old:Int) (M:AM) (L:List Int) (i:Nat) (S:Int→Prop) (t:Th):Prop where
 r1:t.rc≠0→isRec M.k t.rc
 r4:t.rc=0→t.pc=0∨t.pc=1
 r5:t.pc=1→t.rc=0
 p0:(0≤t.pc∧t.pc≤16)∨lk t.pc
 k1:lk t.pc→M.lock=(i:Int)+1
 a1:cl t.pc→M.act t.rc=2
 a1':cl t.pc→t.rc∈L→t.pc=10∧t.look=1
 a1'':t.pc=10→t.look=0∨t.look=1∧t.rc∈L
 a2:cc t.pc→M.act t.cur=2
 a2':cc t.pc→(t.cur∈L↔t.pc=32)
 a7:t.pc=47→t.cur∉L∧M.act t.cur=1∧M.req t.cur= -1
 q1:t.rc≠0→M.req t.rc=0∨M.req t.rc= -1∨(M.req t.rc=t.word∧t.pc≠0∧t.pc≠1∧t.pc≠2∧t.pc≠3∧t.pc≠4∧t.pc≠14)
 q2:t.pc=3∨t.pc=4→M.req t.rc= -1
 q2':t.pc=4→M.act t.rc=0
 q4:25≤t.pc→t.pc≤32→0<M.req t.cur
 q5:23≤t.pc→t.pc≤32→0≤t.nth∧t.nth<t.many∧t.many≤M.k
 q6:24≤t.pc→t.pc≤32→t.cur=3+5*t.nth
 q7:t.pc≠0→0<t.word
 q8:7≤t.pc→t.pc≤9→M.req t.rc=t.word
 o1:t.pc=9→M.nxt t.rc=t.look
 b0:t.pc=28→M.nxt t.cur=0
 b1:29≤t.pc→t.pc≤31→t.prev∈L
 b2:30≤t.pc→t.pc≤31→M.nxt t.prev=t.look
 b3:t.pc=31→M.nxt t.cur=t.look
 w0:22≤t.pc→lk t.pc→t.pass=M.pass
 w0':t.pc=21→t.look=M.pass
 w1:41≤t.pc→t.pc≤47→t.prev∈L
 w2:42≤t.pc→t.pc≤46→M.nxt t.prev=t.cur∧t.cur∈L
 w3:43≤t.pc→t.pc≤46→M.act t.cur=1
 w4:t.pc=45∨t.pc=46→M.req t.cur= -1
 w5:t.pc=46→M.nxt t.cur=t.look
 z1:41≤t.pc→t.pc≤48→∀ a,S a→M.req a≠0∨(t.pc≤47∧Behind L t.prev a∧M.act a=1∧¬ M.pass-M.age a≤old)
 s1:t.pc=34→t.cur∈L∧∀ x,x∈t.batch→Behind L x.rc t.cur
 s2:t.pc=35→t.cur∈L∧∀ x,x∈t.batch→x.rc=t.cur∨Behind L x.rc t.cur
 s3:34≤t.pc→t.pc≤39→(t.batch.map Item.rc).Nodup
 s4:34≤t.pc→t.pc≤36→∀ x,x∈t.batch→isRec M.k x.rc∧M.req x.rc=x.word∧0<x.word∧x.rc∈L
 s6:37≤t.pc→t.pc≤39→∀ x,x∈t.batch.drop t.nth.toNat→isRec M.k x.rc∧M.req x.rc=x.word∧0<x.word∧x.rc∈L
 s7:37≤t.pc→t.pc≤39→0≤t.nth
 s8:23≤t.pc→t.pc≤33→t.batch=[]
structure Mm (M:AM) (L:List Int):Prop where
 v0:∀ a,¬ isRec M.k a→M.req a=0∧M.act a=0∧M.age a=0∧M.nxt a=0∧M.tld a=0
 c1:Chain M.nxt M.head L
 c2:∀ a,a∈L→isRec M.k a
 c3:L.Nodup
 a3:∀ a,M.act a=0∨M.act a=1∨M.act a=2
 a5:∀ a,a∈L→M.act a≠0
structure Glob (N:Nat) (M:AM) (L:List Int) (T:Nat→Th):Prop where
 r2:∀ i j,i<N→j<N→(T i).rc=(T j).rc→(T i).rc≠0→i=j
 r3:∀ a,isRec M.k a→∃ i,i<N∧(T i).rc=a
 k2:M.lock≠0→∃ i,i<N∧lk (T i).pc
 a2:∀ i j,i<N→j<N→cc (T i).pc→(T j).rc=(T i).cur→¬ cl (T j).pc
 a4:∀ a,M.act a=2→(∃ i,i<N∧(T i).rc=a∧cl (T i).pc)∨(∃ i,i<N∧cc (T i).pc∧(T i).cur=a)
 a6:∀ a,M.act a=1→a∈L∨∃ i,i<N∧(T i).pc=47∧(T i).cur=a
 q3:∀ a,a∈L→M.req a= -1→∃ i,i<N∧((T i).pc=45∨(T i).pc=46)∧(T i).cur=a
structure Inv (N:Nat) (old:Int) (M:AM) (T:Nat→Th) (L:List Int) (S:Nat→Int→Prop):Prop where
 loc:∀ i,i<N→Loc old M L i (S i) (T i)
 mem:Mm M L
 glob:Glob N M L T
structure Same (t t':Th):Prop where
 s1:t'.rc=t.rc
 s2:lk t.pc→lk t'.pc
 s3:cl t'.pc↔cl t.pc
 s4:cc t'.pc↔cc t.pc
 s5:cc t.pc∨t.pc=45∨t.pc=46∨t.pc=47→t'.cur=t.cur
 s6:t.pc=47→t'.pc=47
 s7:t.pc=45∨t.pc=46→t'.pc=45∨t'.pc=46
theorem Inv.stay {N:Nat} {old:Int} {M:AM} {T:Nat→Th} {L:List Int} {S:Nat→Int→Prop} (h:Inv N old M T L S) {k:Nat} (_hk:k<N) {t':Th} {S':Int→Prop} (hs:Same (T k) t') (hl:Loc old M L k S' t'):Inv N old M (upT T k t') L (upT S k S'):=by
 obtain⟨loc,mem,⟨r2,r3,k2,a2,a4,a6,q3⟩⟩:=h;obtain⟨h1,h2,h3,h4,h5,h6,h7⟩:=hs;have hT:∀ j,upT T k t' j=if j=k then t' else T j:=fun _=>rfl
 have hrc:∀ j,(upT T k t' j).rc=(T j).rc:=by intro j;rw [hT];split<;>simp_all
 have hcl:∀ j,Sf.cl (upT T k t' j).pc↔Sf.cl (T j).pc:=by intro j;rw [hT];split<;>simp_all
 have hcc:∀ j,Sf.cc (upT T k t' j).pc↔Sf.cc (T j).pc:=by intro j;rw [hT];split<;>simp_all
 have hcu:∀ j,Sf.cc (T j).pc∨(T j).pc=45∨(T j).pc=46∨(T j).pc=47→(upT T k t' j).cur=(T j).cur:=by
  intro j hj;rw [hT];split
  ·rename_i e;subst e;exact h5 hj
  ·rfl
 refine⟨fun i hi=>?_,mem,⟨?_,?_,?_,?_,?_,?_,?_⟩⟩
 ·by_cases e:i=k
  ·subst e;simpa [upT] using hl
  ·simpa [upT,e] using loc i hi
 ·intro i j;simp only [hrc];exact r2 i j
 ·intro a;simp only [hrc];exact r3 a
 ·intro hm;obtain⟨i,hi,hp⟩:=k2 hm;refine⟨i,hi,?_⟩;rw [hT];split
  ·rename_i e;subst e;exact h2 hp
  ·exact hp
 ·intro i j hi hj hc;simp only [hrc,hcl];have hc':=(hcc i).1 hc;rw [hcu i (.inl hc')];exact a2 i j hi hj hc'
 ·intro a ha
  rcases a4 a ha with ⟨i,hi,e,hc⟩ | ⟨i,hi,hc,e⟩
  ·exact .inl ⟨i,hi,by rw [hrc];exact e,(hcl i).2 hc⟩
  ·exact .inr ⟨i,hi,(hcc i).2 hc,by rw [hcu i (.inl hc)];exact e⟩
 ·intro a ha
  rcases a6 a ha with h | ⟨i,hi,hp,e⟩
  ·exact .inl h
  ·refine .inr ⟨i,hi,?_,by rw [hcu i (.inr (.inr (.inr hp)))];exact e⟩;rw [hT];split
   ·rename_i e;subst e;exact h6 hp
   ·exact hp
 ·intro a ha hr;obtain⟨i,hi,hp,e⟩:=q3 a ha hr;refine⟨i,hi,?_,by rw [hcu i (by rcases hp with h | h<;>simp [h])];exact e⟩;rw [hT];split
  ·rename_i e;subst e;exact h7 hp
  ·exact hp
end
section
theorem Chain.mem {f:Int→Int}:∀ {L:List Int} {h:Int},Chain f h L→h≠0→h∈L
 | [],_,c,n=>absurd c n
 | _::_,_,c,_=>by rw [c.1];exact List.mem_cons_self
theorem Chain.nil {f:Int→Int}:∀ {L:List Int},Chain f 0 L→L=[]
 | [],_=>rfl
 | _::_,c=>absurd c.1.symm c.2.1
theorem Chain.at {f:Int→Int}:∀ {L1:List Int} {h a:Int} {L2:List Int},Chain f h (L1++a::L2)→a≠0∧Chain f (f a) L2
 | [],_,_,_,c=>c.2
 | _::l,_,_,_,c=>Chain.at (L1:=l) c.2.2
theorem Chain.other {f:Int→Int} {a v:Int}:∀ {L:List Int} {h:Int},Chain f h L→a∉L→Chain (up f a v) h L
 | [],_,c,_=>c
 | b::l,h,c,n=>by
  have hb:b≠a:=fun e=>n (e▸List.mem_cons_self);refine⟨c.1,c.2.1,?_⟩;rw [show up f a v b=f b from by simp [up,hb]];exact c.2.2.other fun k=>n (List.mem_cons_of_mem _ k)
theorem Chain.app {f:Int→Int}:∀ {L1:List Int} {h a:Int} {L2:List Int},Chain f h (L1++a::L2)→∀ {g:Int→Int} {L3:List Int},(∀ x∈L1,g x=f x)→Chain g (g a) L3→Chain g h (L1++a::L3)
 | [],_,_,_,c,_,_,_,k=>⟨c.1,c.2.1,k⟩
 | b::l,_,_,_,c,g,L3,hg,k=>by
  refine⟨c.1,c.2.1,?_⟩;rw [hg b List.mem_cons_self];exact Chain.app c.2.2 (fun x hx=>hg x (List.mem_cons_of_mem _ hx)) k
theorem Chain.insert {f:Int→Int} {L1 L2:List Int} {h p c:Int} (hc:Chain f h (L1++p::L2)) (hd:(L1++p::L2).Nodup) (hn:c∉L1++p::L2) (h0:c≠0) (he:f c=f p):Chain (up f p c) h (L1++p::c::L2):=by
 have hcp:c≠p:=fun e=>hn (by simp [e]);refine hc.app (fun x hx=>?_) ?_
 ·have:x≠p:=by rintro rfl;simp [List.nodup_append] at hd;exact(hd.2.2 _ hx).1 rfl
  simp [up,this]
 ·refine⟨by simp [up],h0,?_⟩;rw [show up f p c c=f p from by simp [up,hcp,he]];refine(hc.at).2.other ?_;intro k;simp [List.nodup_append] at hd;exact hd.2.1.1 k
theorem Chain.cut {f:Int→Int} {L1 L2:List Int} {h p c:Int} (hc:Chain f h (L1++p::c::L2)) (hd:(L1++p::c::L2).Nodup):Chain (up f p (f c)) h (L1++p::L2):=by
 refine hc.app (fun x hx=>?_) ?_
 ·have:x≠p:=by rintro rfl;simp [List.nodup_append] at hd;exact(hd.2.2 _ hx).1 rfl
  simp [up,this]
 ·rw [show up f p (f c) p=f c from by simp [up]];have hp:=(Chain.at (L1:=L1) hc).2;refine hp.2.2.other ?_;intro k;simp [List.nodup_append] at hd;exact hd.2.1.1.2 k
theorem split_of {L:List Int} {a:Int} (h:a∈L):∃ L1 L2,L=L1++a::L2:=List.append_of_mem h
theorem Chain.next {f:Int→Int} {L:List Int} {h a:Int} (c:Chain f h L) (ha:a∈L) (hn:f a≠0):∃ L1 L2,L=L1++a::f a::L2:=by
 obtain⟨L1,L2,rfl⟩:=split_of ha;have:=(Chain.at c).2
 match L2,this with
 | [],k=>exact absurd k hn
 | b::l,k=>exact⟨L1,l,by rw [k.1]⟩
theorem Behind.mem {L:List Int} {p a:Int} (h:Behind L p a):a∈L∧p∈L:=by
 obtain⟨L1,L2,rfl,h⟩:=h;simp [h]
theorem Behind.cons {L:List Int} {p a r:Int} (h:Behind L p a):Behind (r::L) p a:=by
 obtain⟨L1,L2,rfl,h⟩:=h;exact⟨r::L1,L2,rfl,h⟩
theorem Behind.head {L:List Int} {p a:Int} (h:a∈L):Behind (p::L) p a:=⟨[],L,rfl,h⟩
theorem nodup_split {L1 L1' L2 L2':List Int} {a:Int} (hd:(L1++a::L2).Nodup) (e:L1++a::L2=L1'++a::L2'):L1=L1'∧L2=L2':=by
 induction L1 generalizing L1' with
 | nil=>
  match L1' with
  | []=>simpa using e
  | b::l=>
   simp only [List.nil_append,List.cons_append,List.cons.injEq] at e;rw [e.2] at hd;simp at hd
 | cons b l ih=>
  match L1' with
  | []=>
   simp only [List.nil_append,List.cons_append,List.cons.injEq] at e;rw [e.1] at hd;simp at hd
  | b'::l'=>
   simp only [List.cons_append,List.cons.injEq] at e;obtain⟨h1,h2⟩:=ih (by simp only [List.cons_append,List.nodup_cons] at hd;exact hd.2) e.2;exact⟨by rw [e.1,h1],h2⟩
theorem Behind.irrefl {L:List Int} {a:Int} (hd:L.Nodup):¬ Behind L a a:=by
 rintro ⟨L1,L2,rfl,h⟩;simp [List.nodup_append] at hd;exact hd.2.1.1 h
theorem Behind.step {f:Int→Int} {L:List Int} {h p a:Int} (c:Chain f h L) (hd:L.Nodup) (k:Behind L p a):f p≠0∧(a=f p∨Behind L (f p) a):=by
 obtain⟨L1,L2,rfl,ha⟩:=k;have h2:=(Chain.at c).2
 match L2,h2,ha with
 | b::l,h2,ha=>
  refine⟨by rw [h2.1];exact h2.2.1,?_⟩;rw [h2.1]
  rcases List.mem_cons.1 ha with e | e
  ·exact .inl e
  ·exact .inr ⟨L1++[p],l,by simp,e⟩
theorem Behind.next {f:Int→Int} {L:List Int} {h a:Int} (c:Chain f h L) (ha:a∈L) (hn:f a≠0):Behind L a (f a):=by
 obtain⟨L1,L2,e⟩:=c.next ha hn;exact⟨L1,f a::L2,e,List.mem_cons_self⟩
theorem Behind.trans {L:List Int} {a b c:Int} (hd:L.Nodup) (h1:Behind L a b) (h2:Behind L b c):Behind L a c:=by
 obtain⟨L1,L2,rfl,hb⟩:=h1;obtain⟨M1,M2,rfl⟩:=List.append_of_mem hb;obtain⟨L3,L4,e,hc⟩:=h2;have e':(L1++a::M1)++b::M2=L3++b::L4:=by simpa using e
 obtain⟨_,rfl⟩:=nodup_split (by simpa using hd) e';exact⟨L1,M1++b::M2,rfl,by simp [hc]⟩
theorem Behind.insert {L1 L2:List Int} {p c q a:Int} (h:Behind (L1++p::L2) q a):Behind (L1++p::c::L2) q a:=by
 obtain⟨M1,M2,e,ha⟩:=h
 rcases List.append_eq_append_iff.1 e with ⟨as,rfl,e2⟩ | ⟨as,rfl,e2⟩
 ·match as,e2 with
  | [],e2=>
   simp only [List.nil_append,List.cons.injEq] at e2;obtain⟨rfl,rfl⟩:=e2;exact⟨L1,c::L2,by simp,by simp [ha]⟩
  | b::l,e2=>
   simp only [List.cons_append,List.cons.injEq] at e2;obtain⟨rfl,rfl⟩:=e2;exact⟨L1++p::c::l,M2,by simp,ha⟩
 ·match as,e2 with
  | [],e2=>
   simp only [List.nil_append,List.cons.injEq] at e2;obtain⟨rfl,rfl⟩:=e2;exact⟨M1,c::M2,by simp,by simp [ha]⟩
  | b::l,e2=>
   simp only [List.cons_append,List.cons.injEq] at e2;obtain⟨rfl,rfl⟩:=e2;refine⟨M1,l++p::c::L2,by simp,?_⟩;simp only [List.mem_append,List.mem_cons] at ha ⊢
   rcases ha with h | h | h<;>simp [h]
theorem Behind.cut {L1 L2:List Int} {p c q a:Int} (h:Behind (L1++p::c::L2) q a) (hq:q≠c) (ha:a≠c):Behind (L1++p::L2) q a:=by
 obtain⟨M1,M2,e,hm⟩:=h;have e':(L1++[p])++c::L2=M1++q::M2:=by simpa using e
 rcases List.append_eq_append_iff.1 e' with ⟨as,rfl,e2⟩ | ⟨as,e1,e2⟩
 ·match as,e2 with
  | [],e2=>simp only [List.nil_append,List.cons.injEq] at e2;exact absurd e2.1.symm hq
  | b::l,e2=>
   simp only [List.cons_append,List.cons.injEq] at e2;obtain⟨rfl,rfl⟩:=e2;exact⟨L1++p::l,M2,by simp,hm⟩
 ·match as,e2 with
  | [],e2=>simp only [List.nil_append,List.cons.injEq] at e2;exact absurd e2.1 hq
  | b::l,e2=>
   simp only [List.cons_append,List.cons.injEq] at e2;obtain⟨rfl,rfl⟩:=e2;refine⟨M1,l++L2,?_,?_⟩
   ·have:=congrArg (· ++L2) e1;simpa using this
   ·simp only [List.mem_append,List.mem_cons] at hm ⊢
    rcases hm with h | h | h
    ·exact .inl h
    ·exact absurd h ha
    ·exact .inr h
end
section
def inb (m:List Int) (a:Int):Prop:=0≤a∧a<(m.length:Int)
instance (m:List Int) (a:Int):Decidable (inb m a):=inferInstanceAs (Decidable (_∧_))
def ld (m:List Int) (a:Int):Int:=if inb m a then m.getD a.toNat 0 else 0
def st (m:List Int) (a v:Int):List Int:=if inb m a then m.set a.toNat v else m
def sw (m:List Int) (a old:Int):Bool:=decide (inb m a∧ld m a=old)
def sm (m:List Int) (a old v:Int):List Int:=if sw m a old then st m a v else m
def w64 (x:Int):Int:=(x+9223372036854775808)%18446744073709551616-9223372036854775808
def base (k:Int):Int:=if k<0∨1000<k then 0 else 3+5*k
def manyOf (m:List Int):Int:=(max 0 ((m.length:Int)-3))/5
def asks (size id:Int) (m:List Int) (t:Th):List Int×Th:=
 if t.pc=1 then(if 5≤size-m.length then(m++[0,0,0,0,0],{ t with rc:=m.length,pc:=2}) else(m,t)) else
 if t.pc=2 then(sm m t.rc 0 t.word,{ t with pc:=if sw m t.rc 0 then 5 else 3}) else
 if t.pc=3 then(m,{ t with look:=ld m (t.rc+1),pc:=if ld m (t.rc+1)=0 then 4 else 3}) else
 if t.pc=4 then(st m t.rc t.word,{ t with pc:=5}) else
 if t.pc=5 then(m,{ t with look:=ld m (t.rc+1),pc:=if ld m (t.rc+1)=0 then 6 else 11}) else
 if t.pc=6 then(sm m (t.rc+1) 0 2,{ t with pc:=if sw m (t.rc+1) 0 then 15 else 11}) else
 if t.pc=7 then(m,{ t with look:=ld m 1,pc:=8}) else
 if t.pc=8 then(st m (t.rc+3) t.look,{ t with pc:=9}) else
 if t.pc=9 then(sm m 1 t.look t.rc,{ t with look:=if sw m 1 t.look then 1 else 0,pc:=10}) else
 if t.pc=10 then(st m (t.rc+1) t.look,{ t with pc:=11}) else
 if t.pc=11 then(m,{ t with look:=ld m t.rc,pc:=if ld m t.rc=t.word then 12 else 14}) else
 if t.pc=12 then(m,{ t with look:=ld m 0,pc:=if ld m 0=0 then 13 else 11}) else
 if t.pc=13 then(sm m 0 0 (id+1),{ t with pc:=if sw m 0 0 then 20 else 11,runs:=if sw m 0 0 then 0 else t.runs}) else
 if t.pc=14 then(m,{ t with look:=ld m (t.rc+4),word:=0,pc:=0}) else
 if t.pc=15 then(m,{ t with look:=ld m t.rc,pc:=if ld m t.rc=t.word then 7 else 16}) else
 (st m (t.rc+1) 0,{ t with pc:=11})
def Th.on' (t:Th):Th:= { t with nth:=w64 (t.nth+1),pc:=if w64 (t.nth+1)<t.many then 23 else 33}
def Th.item (t:Th):Option Item:=if 0≤t.nth then t.batch[t.nth.toNat]? else none
def serves (passes:Int) (m:List Int) (t:Th):List Int×Th:=
 if t.pc=20 then(m,{ t with look:=ld m 2,pc:=21}) else
 if t.pc=21 then(st m 2 (w64 (t.look+1)),{ t with pass:=w64 (t.look+1),runs:=w64 (t.runs+1),pc:=22}) else
 if t.pc=22 then(m,Th.on' { t with many:=manyOf m,nth:= -1,batch:=[]}) else
 if t.pc=23 then(if ld m (base t.nth+1)=0 then(m,{ t with cur:=base t.nth,look:=0,pc:=24}) else(m,Th.on' { t with cur:=base t.nth,look:=ld m (base t.nth+1)})) else
 if t.pc=24 then(if 0<ld m t.cur then(m,{ t with look:=ld m t.cur,pc:=25}) else(m,Th.on' { t with look:=ld m t.cur})) else
 if t.pc=25 then(sm m (t.cur+1) 0 2,if sw m (t.cur+1) 0 then { t with pc:=26} else Th.on' t) else
 if t.pc=26 then(m,if ld m 1=0 then { t with look:=0,pc:=27} else { t with look:=ld m 1,prev:=ld m 1,pc:=29}) else
 if t.pc=27 then(st m (t.cur+3) 0,{ t with pc:=28}) else
 if t.pc=28 then(sm m 1 0 t.cur,{ t with pc:=if sw m 1 0 then 32 else 26}) else
 if t.pc=29 then(m,{ t with look:=ld m (t.prev+3),pc:=30}) else
 if t.pc=30 then(st m (t.cur+3) t.look,{ t with pc:=31}) else
 if t.pc=31 then(st m (t.prev+3) t.cur,{ t with pc:=32}) else
 if t.pc=32 then(st m (t.cur+1) 1,Th.on' t) else
 if t.pc=33 then(m,if ld m 1=0 then { t with look:=0,pc:=40} else { t with look:=ld m 1,cur:=ld m 1,pc:=34}) else
 if t.pc=34 then(m,if 0<ld m t.cur then { t with look:=ld m t.cur,pc:=35,batch:=t.batch++[⟨t.cur,ld m t.cur,0⟩]} else { t with look:=ld m t.cur,pc:=35}) else
 if t.pc=35 then(m,if ld m (t.cur+3)≠0 then { t with look:=ld m (t.cur+3),cur:=ld m (t.cur+3),pc:=34} else { t with look:=0,pc:=if t.batch=[] then 40 else 36}) else
 if t.pc=37 then(match t.item with | some x=>st m (x.rc+4) x.res | none=>m,{ t with pc:=38}) else
 if t.pc=38 then(match t.item with | some x=>st m (x.rc+2) t.pass | none=>m,{ t with pc:=39}) else
 (match t.item with | some x=>st m x.rc 0 | none=>m,
  { t with nth:=w64 (t.nth+1),pc:=if t.item.isSome∧({ t with nth:=w64 (t.nth+1)}:Th).item.isSome then 37 else if t.runs<passes then 20 else 40})
def sweeps (old:Int) (m:List Int) (t:Th):List Int×Th:=
 if t.pc=40 then(m,if ld m 1=0 then { t with look:=0,pc:=48} else { t with look:=ld m 1,prev:=ld m 1,pc:=41}) else
 if t.pc=41 then(m,if ld m (t.prev+3)=0 then { t with look:=0,pc:=48} else { t with look:=ld m (t.prev+3),cur:=ld m (t.prev+3),pc:=42}) else
 if t.pc=42 then(m,if ld m (t.cur+1)=1 then { t with look:=1,pc:=43} else { t with look:=ld m (t.cur+1),prev:=t.cur,pc:=41}) else
 if t.pc=43 then(m,if w64 (t.pass-ld m (t.cur+2))≤old then { t with look:=ld m (t.cur+2),prev:=t.cur,pc:=41} else { t with look:=ld m (t.cur+2),pc:=44}) else
 if t.pc=44 then(sm m t.cur 0 (-1),if sw m t.cur 0 then { t with pc:=45} else { t with prev:=t.cur,pc:=41}) else
 if t.pc=45 then(m,{ t with look:=ld m (t.cur+3),pc:=46}) else
 if t.pc=46 then(st m (t.prev+3) t.look,{ t with pc:=47}) else
 if t.pc=47 then(st m (t.cur+1) 0,{ t with pc:=41}) else
 (st m 0 0,{ t with pc:=11})
end
section
theorem st_len (m:List Int) (a v:Int):(st m a v).length=m.length:=by unfold st;split<;>simp
theorem inb_st (m:List Int) (a b v:Int):inb (st m a v) b↔inb m b:=by unfold inb;rw [st_len]
theorem ld_st (m:List Int) (a b v:Int):ld (st m a v) b=if b=a∧inb m a then v else ld m b:=by
 by_cases ha:inb m a
 ·unfold ld
  by_cases hb:inb m b
  ·rw [if_pos ((inb_st m a b v).2 hb),if_pos hb];unfold st;rw [if_pos ha];unfold inb at ha hb;simp only [List.getD_eq_getElem?_getD,List.getElem?_set]
   by_cases e:b=a
   ·subst e;rw [if_pos rfl,if_pos (by omega),if_pos ⟨rfl,ha⟩];rfl
   ·rw [if_neg (by omega),if_neg (by simp [e])]
  ·rw [if_neg (fun h=>hb ((inb_st m a b v).1 h)),if_neg hb,if_neg];rintro ⟨rfl,_⟩;exact hb ha
 ·have:st m a v=m:=by unfold st;rw [if_neg ha]
  rw [this,if_neg (fun h=>ha h.2)]
structure View (m:List Int) (M:AM):Prop where
 len:(m.length:Int)=3+5*(M.k:Int)
 lock:ld m 0=M.lock
 head:ld m 1=M.head
 pass:ld m 2=M.pass
 req:∀ a,isRec M.k a→ld m a=M.req a
 act:∀ a,isRec M.k a→ld m (a+1)=M.act a
 age:∀ a,isRec M.k a→ld m (a+2)=M.age a
 nxt:∀ a,isRec M.k a→ld m (a+3)=M.nxt a
 tld:∀ a,isRec M.k a→ld m (a+4)=M.tld a
variable {m:List Int} {M:AM}
theorem View.inb (h:View m M) {a j:Int} (ha:isRec M.k a) (h0:0≤j) (h1:j<5):inb m (a+j):=by
 have:=h.len;unfold isRec at ha;unfold Sf.inb;omega
theorem View.low (h:View m M) {j:Int} (h0:0≤j) (h1:j<3):Sf.inb m j:=by
 have:=h.len;unfold Sf.inb;omega
theorem View.setReq (h:View m M) {a:Int} (ha:isRec M.k a) (v:Int):View (st m a v) { M with req:=up M.req a v}:=by
 have hi:=h.inb ha (Int.le_refl 0) (by decide);rw [Int.add_zero] at hi;obtain⟨h1,h2,h3,h4,h5,h6,h7,h8,h9⟩:=h;unfold isRec at ha
 constructor<;>simp only [st_len,ld_st,hi,and_true]
 ·exact h1
 ·rw [if_neg (by omega)];exact h2
 ·rw [if_neg (by omega)];exact h3
 ·rw [if_neg (by omega)];exact h4
 ·intro b hb;unfold up;split<;>first | rfl | exact h5 b hb
 all_goals (intro b hb;rw [if_neg (by unfold isRec at hb;omega)])
 ·exact h6 b hb
 ·exact h7 b hb
 ·exact h8 b hb
 ·exact h9 b hb
theorem View.setAct (h:View m M) {a:Int} (ha:isRec M.k a) (v:Int):View (st m (a+1) v) { M with act:=up M.act a v}:=by
 have hi:=h.inb ha (show (0:Int)≤1 by decide) (by decide);obtain⟨h1,h2,h3,h4,h5,h6,h7,h8,h9⟩:=h;unfold isRec at ha
 constructor<;>simp only [st_len,ld_st,hi,and_true]
 ·exact h1
 ·rw [if_neg (by omega)];exact h2
 ·rw [if_neg (by omega)];exact h3
 ·rw [if_neg (by omega)];exact h4
 ·intro b hb;rw [if_neg (by unfold isRec at hb;omega)];exact h5 b hb
 ·intro b hb;unfold up;by_cases e:b=a
  ·rw [if_pos (by omega),if_pos e]
  ·rw [if_neg (by omega),if_neg e];exact h6 b hb
 all_goals (intro b hb;rw [if_neg (by unfold isRec at hb;omega)])
 ·exact h7 b hb
 ·exact h8 b hb
 ·exact h9 b hb
theorem View.setAge (h:View m M) {a:Int} (ha:isRec M.k a) (v:Int):View (st m (a+2) v) { M with age:=up M.age a v}:=by
 have hi:=h.inb ha (show (0:Int)≤2 by decide) (by decide);obtain⟨h1,h2,h3,h4,h5,h6,h7,h8,h9⟩:=h;unfold isRec at ha
 constructor<;>simp only [st_len,ld_st,hi,and_true]
 ·exact h1
 ·rw [if_neg (by omega)];exact h2
 ·rw [if_neg (by omega)];exact h3
 ·rw [if_neg (by omega)];exact h4
 ·intro b hb;rw [if_neg (by unfold isRec at hb;omega)];exact h5 b hb
 ·intro b hb;rw [if_neg (by unfold isRec at hb;omega)];exact h6 b hb
 ·intro b hb;unfold up;by_cases e:b=a
  ·rw [if_pos (by omega),if_pos e]
  ·rw [if_neg (by omega),if_neg e];exact h7 b hb
 all_goals (intro b hb;rw [if_neg (by unfold isRec at hb;omega)])
 ·exact h8 b hb
 ·exact h9 b hb
theorem View.setNxt (h:View m M) {a:Int} (ha:isRec M.k a) (v:Int):View (st m (a+3) v) { M with nxt:=up M.nxt a v}:=by
 have hi:=h.inb ha (show (0:Int)≤3 by decide) (by decide);obtain⟨h1,h2,h3,h4,h5,h6,h7,h8,h9⟩:=h;unfold isRec at ha
 constructor<;>simp only [st_len,ld_st,hi,and_true]
 ·exact h1
 ·rw [if_neg (by omega)];exact h2
 ·rw [if_neg (by omega)];exact h3
 ·rw [if_neg (by omega)];exact h4
 ·intro b hb;rw [if_neg (by unfold isRec at hb;omega)];exact h5 b hb
 ·intro b hb;rw [if_neg (by unfold isRec at hb;omega)];exact h6 b hb
 ·intro b hb;rw [if_neg (by unfold isRec at hb;omega)];exact h7 b hb
 ·intro b hb;unfold up;by_cases e:b=a
  ·rw [if_pos (by omega),if_pos e]
  ·rw [if_neg (by omega),if_neg e];exact h8 b hb
 ·intro b hb;rw [if_neg (by unfold isRec at hb;omega)];exact h9 b hb
theorem View.setTld (h:View m M) {a:Int} (ha:isRec M.k a) (v:Int):View (st m (a+4) v) { M with tld:=up M.tld a v}:=by
 have hi:=h.inb ha (show (0:Int)≤4 by decide) (by decide);obtain⟨h1,h2,h3,h4,h5,h6,h7,h8,h9⟩:=h;unfold isRec at ha
 constructor<;>simp only [st_len,ld_st,hi,and_true]
 ·exact h1
 ·rw [if_neg (by omega)];exact h2
 ·rw [if_neg (by omega)];exact h3
 ·rw [if_neg (by omega)];exact h4
 ·intro b hb;rw [if_neg (by unfold isRec at hb;omega)];exact h5 b hb
 ·intro b hb;rw [if_neg (by unfold isRec at hb;omega)];exact h6 b hb
 ·intro b hb;rw [if_neg (by unfold isRec at hb;omega)];exact h7 b hb
 ·intro b hb;rw [if_neg (by unfold isRec at hb;omega)];exact h8 b hb
 ·intro b hb;unfold up;by_cases e:b=a
  ·rw [if_pos (by omega),if_pos e]
  ·rw [if_neg (by omega),if_neg e];exact h9 b hb
theorem View.setLow (h:View m M) {j:Int} (h0:0≤j) (h1:j<3) (v:Int):View (st m j v) { M with lock:=if j=0 then v else M.lock,head:=if j=1 then v else M.head,pass:=if j=2 then v else M.pass}:=by
 have hi:=h.low h0 h1;obtain⟨g1,h2,h3,h4,h5,h6,h7,h8,h9⟩:=h
 constructor<;>simp only [st_len,ld_st,hi,and_true]
 ·exact g1
 ·by_cases e:j=0
  ·rw [if_pos e.symm,if_pos e]
  ·rw [if_neg (fun h=>e h.symm),if_neg e];exact h2
 ·by_cases e:j=1
  ·rw [if_pos e.symm,if_pos e]
  ·rw [if_neg (fun h=>e h.symm),if_neg e];exact h3
 ·by_cases e:j=2
  ·rw [if_pos e.symm,if_pos e]
  ·rw [if_neg (fun h=>e h.symm),if_neg e];exact h4
 all_goals (intro b hb;rw [if_neg (by unfold isRec at hb;omega)])
 ·exact h5 b hb
 ·exact h6 b hb
 ·exact h7 b hb
 ·exact h8 b hb
 ·exact h9 b hb
theorem View.more (h:View m M) (hv:∀ a,¬ isRec M.k a→M.req a=0∧M.act a=0∧M.age a=0∧M.nxt a=0∧M.tld a=0):View (m++[0,0,0,0,0]) { M with k:=M.k+1}:=by
 have hl:∀ b,ld (m++[0,0,0,0,0]) b=ld m b:=by
  intro b;unfold ld
  by_cases hb:Sf.inb m b
  ·rw [if_pos hb,if_pos (by unfold Sf.inb at hb ⊢;simp only [List.length_append,List.length_cons,List.length_nil];omega)];unfold Sf.inb at hb;simp only [List.getD_eq_getElem?_getD];rw [List.getElem?_append_left (by omega)]
  ·rw [if_neg hb]
   split
   ·rename_i h2;unfold Sf.inb at h2 hb;simp only [List.length_append,List.length_cons,List.length_nil] at h2;simp only [List.getD_eq_getElem?_getD];rw [List.getElem?_append_right (by omega)];have:b.toNat-m.length<5:=by omega
    match b.toNat-m.length,this with
    | 0,_=>rfl
    | 1,_=>rfl
    | 2,_=>rfl
    | 3,_=>rfl
    | 4,_=>rfl
   ·rfl
 have hz:∀ b,(m.length:Int)≤b→ld m b=0:=by intro b hb;unfold ld;rw [if_neg];unfold Sf.inb;omega
 have hrec:∀ a,isRec (M.k+1) a↔(isRec M.k a∨a=3+5*(M.k:Int)):=by intro a;unfold isRec;omega
 have hnr:¬ isRec M.k (3+5*(M.k:Int)):=by unfold isRec;omega
 obtain⟨v1,v2,v3,v4,v5⟩:=hv _ hnr;obtain⟨h1,h2,h3,h4,h5,h6,h7,h8,h9⟩:=h
 constructor<;>simp only [hl]
 ·simp only [List.length_append,List.length_cons,List.length_nil];omega
 ·exact h2
 ·exact h3
 ·exact h4
 all_goals (intro b hb;rcases(hrec b).1 hb with h | rfl)
 ·exact h5 b h
 ·rw [hz _ (by omega),v1]
 ·exact h6 b h
 ·rw [hz _ (by omega),v2]
 ·exact h7 b h
 ·rw [hz _ (by omega),v3]
 ·exact h8 b h
 ·rw [hz _ (by omega),v4]
 ·exact h9 b h
 ·rw [hz _ (by omega),v5]
end
section
set_option maxHeartbeats 1000000
variable {m:List Int} {M:AM} {old passes:Int} {L:List Int} {i:Nat} {S0:Int→Prop} {t:Th} {size id:Int}
theorem sw_iff (m:List Int) (a o:Int) (h:inb m a):sw m a o=decide (ld m a=o):=by unfold sw;simp [h]
theorem sm_yes (m:List Int) (a o v:Int) (h:inb m a) (e:ld m a=o):sm m a o v=st m a v:=by unfold sm;rw [sw_iff m a o h,e];simp
theorem sm_no (m:List Int) (a o v:Int) (h:inb m a) (e:ld m a≠o):sm m a o v=m:=by unfold sm;rw [sw_iff m a o h];simp [e]
theorem View.eta {j:Int} {v:Int} (h:View m { M with lock:=if j=0 then v else M.lock,head:=if j=1 then v else M.head,pass:=if j=2 then v else M.pass}):(j=0→View m { M with lock:=v})∧(j=1→View m { M with head:=v})∧(j=2→View m { M with pass:=v}):=by
 refine⟨?_,?_,?_⟩<;>(rintro rfl;simpa using h)
theorem asks_step (l:Loc old M L i S0 t) (v:View m M) (h1:2≤t.pc) (h2:t.pc≤16):∃ M',Step passes old id M t M' (asks size id m t).2∧View (asks size id m t).1 M':=by
 have h0:t.rc≠0:=fun h0=>by have:=l.r4 h0;omega
 have hr:=l.r1 h0;have i0:=v.inb hr (Int.le_refl 0) (by decide);rw [Int.add_zero] at i0;have i1:=v.inb hr (show (0:Int)≤1 by decide) (by decide);have l0:=v.low (Int.le_refl 0) (by decide);have l1:=v.low (show (0:Int)≤1 by decide) (by decide);have hp:t.pc=2∨t.pc=3∨t.pc=4∨t.pc=5∨t.pc=6∨t.pc=7∨t.pc=8∨t.pc=9∨t.pc=10∨t.pc=11∨t.pc=12∨t.pc=13∨t.pc=14∨t.pc=15∨t.pc=16:=by omega
 rcases hp with e | e | e | e | e | e | e | e | e | e | e | e | e | e | e<;>(unfold asks;simp only [e,show((2:Int)=1)=False by decide,reduceIte,Int.reduceEq])
 ·by_cases c:M.req t.rc=0
  ·rw [sm_yes m _ _ _ i0 (by rw [v.req _ hr,c]),sw_iff m _ _ i0,v.req _ hr,c];exact⟨_,by simpa using Step.publish e c,v.setReq hr _⟩
  ·rw [sm_no m _ _ _ i0 (by rw [v.req _ hr];exact c),sw_iff m _ _ i0,v.req _ hr];exact⟨M,by simpa [c] using Step.publish' e c,v⟩
 ·rw [v.act _ hr];exact⟨M,Step.closed e,v⟩
 ·exact⟨_,Step.opened e,v.setReq hr _⟩
 ·rw [v.act _ hr];exact⟨M,Step.check e,v⟩
 ·by_cases c:M.act t.rc=0
  ·rw [sm_yes m _ _ _ i1 (by rw [v.act _ hr,c]),sw_iff m _ _ i1,v.act _ hr,c];exact⟨_,by simpa using Step.claim e c,v.setAct hr _⟩
  ·rw [sm_no m _ _ _ i1 (by rw [v.act _ hr];exact c),sw_iff m _ _ i1,v.act _ hr];exact⟨M,by simpa [c] using Step.claim' e c,v⟩
 ·rw [v.head];exact⟨M,Step.front e,v⟩
 ·exact⟨_,Step.next e,v.setNxt hr _⟩
 ·by_cases c:M.head=t.look
  ·rw [sm_yes m _ _ _ l1 (by rw [v.head,c]),sw_iff m _ _ l1,v.head,c];exact⟨_,by simpa using Step.link e c,(View.eta (v.setLow (j:=1) (by decide) (by decide) _)).2.1 rfl⟩
  ·rw [sm_no m _ _ _ l1 (by rw [v.head];exact c),sw_iff m _ _ l1,v.head];exact⟨M,by simpa [c] using Step.link' e c,v⟩
 ·exact⟨_,Step.mark e,v.setAct hr _⟩
 ·rw [v.req _ hr];exact⟨M,Step.wait e,v⟩
 ·rw [v.lock];exact⟨M,Step.lock e,v⟩
 ·by_cases c:M.lock=0
  ·rw [sm_yes m _ _ _ l0 (by rw [v.lock,c]),sw_iff m _ _ l0,v.lock,c];exact⟨_,by simpa using Step.take e c,(View.eta (v.setLow (j:=0) (by decide) (by decide) _)).1 rfl⟩
  ·rw [sm_no m _ _ _ l0 (by rw [v.lock];exact c),sw_iff m _ _ l0,v.lock];exact⟨M,by simpa [c] using Step.take' e c,v⟩
 ·rw [v.tld _ hr];exact⟨M,Step.read e,v⟩
 ·rw [v.req _ hr];exact⟨M,Step.sure e,v⟩
 ·exact⟨_,Step.drop e,v.setAct hr _⟩
structure Small (M:AM) (t:Th):Prop where
 look:t.pc=21→0≤t.look∧t.look<1000000
 runs:0≤t.runs∧t.runs<1000000
 nth: -1≤t.nth∧t.nth<1000000
 k:(M.k:Int)≤1000
 age:∀ a,0≤M.age a∧M.age a<1000000
 pass:0≤t.pass∧t.pass<1000000
theorem w64_small {x:Int} (h0: -1000000≤x) (h1:x≤1000001):w64 x=x:=by unfold w64;omega
theorem on_eq {t:Th} (h: -1≤t.nth∧t.nth<1000000):t.on'=t.on:=by
 unfold Th.on' Th.on;rw [w64_small (by omega) (by omega)]
theorem base_eq {k:Nat} {x:Int} (h0:0≤x) (h1:x<(k:Int)) (hk:(k:Int)≤1000):base x=3+5*x:=by unfold base;rw [if_neg (by omega)]
theorem serves_step (l:Loc old M L i S0 t) (hm:Mm M L) (s:Small M t) (v:View m M) (h1:20≤t.pc) (h2:t.pc≤39) (h3:t.pc≠36) (h4:37≤t.pc→t.batch.drop t.nth.toNat≠[]):∃ M',Step passes old id M t M' (serves passes m t).2∧View (serves passes m t).1 M':=by
 obtain⟨z1,z2,z3,z4,z5,z6⟩:=s;have l1:=v.low (show (0:Int)≤1 by decide) (by decide)
 have hcur:24≤t.pc→t.pc≤32→isRec M.k t.cur:=fun a b=>by
  have:=l.q6 a b;have:=l.q5 (by omega) b;unfold isRec;omega
 have hp:t.pc=20∨t.pc=21∨t.pc=22∨t.pc=23∨t.pc=24∨t.pc=25∨t.pc=26∨t.pc=27∨t.pc=28∨t.pc=29∨t.pc=30∨t.pc=31∨t.pc=32∨t.pc=33∨t.pc=34∨t.pc=35∨t.pc=37∨t.pc=38∨t.pc=39:=by omega
 rcases hp with e | e | e | e | e | e | e | e | e | e | e | e | e | e | e | e | e | e | e<;>(unfold serves;simp only [e,reduceIte,Int.reduceEq])
 ·rw [v.pass];exact⟨M,Step.pass e,v⟩
 ·have:=z1 e;rw [w64_small (by omega) (by omega),w64_small (by omega) (by omega)];exact⟨_,Step.stamp e,(View.eta (v.setLow (j:=2) (by decide) (by decide) _)).2.2 rfl⟩
 ·have hmany:manyOf m=M.k:=by unfold manyOf;have:=v.len;omega
  rw [hmany,on_eq (by simp)];exact⟨M,Step.many e,v⟩
 ·have hq:=l.q5 (by omega) (by omega);have hb:=base_eq hq.1 (show t.nth<(M.k:Int) by omega) z4;have hrec:isRec M.k (3+5*t.nth):=by unfold isRec;omega
  rw [hb,v.act _ hrec]
  split
  ·rename_i c;exact⟨M,Step.look e c,v⟩
  ·rename_i c;rw [on_eq (by simpa using z3)];exact⟨M,Step.look' e c,v⟩
 ·have hc:=hcur (by omega) (by omega);rw [v.req _ hc]
  split
  ·rename_i c;exact⟨M,Step.pend e c,v⟩
  ·rename_i c;rw [on_eq (by simpa using z3)];exact⟨M,Step.pend' e c,v⟩
 ·have hc:=hcur (by omega) (by omega);have i1:=v.inb hc (show (0:Int)≤1 by decide) (by decide)
  by_cases c:M.act t.cur=0
  ·rw [sm_yes m _ _ _ i1 (by rw [v.act _ hc,c]),sw_iff m _ _ i1,v.act _ hc,c];exact⟨_,by simpa using Step.help e c,v.setAct hc _⟩
  ·rw [sm_no m _ _ _ i1 (by rw [v.act _ hc];exact c),sw_iff m _ _ i1,v.act _ hc,on_eq z3];exact⟨M,by simpa [c] using Step.help' e c,v⟩
 ·rw [v.head]
  split
  ·rename_i c;exact⟨M,Step.first e c,v⟩
  ·rename_i c;exact⟨M,Step.first' e c,v⟩
 ·exact⟨_,Step.bare e,v.setNxt (hcur (by omega) (by omega)) _⟩
 ·by_cases c:M.head=0
  ·rw [sm_yes m _ _ _ l1 (by rw [v.head,c]),sw_iff m _ _ l1,v.head,c];exact⟨_,by simpa using Step.solo e c,(View.eta (v.setLow (j:=1) (by decide) (by decide) _)).2.1 rfl⟩
  ·rw [sm_no m _ _ _ l1 (by rw [v.head];exact c),sw_iff m _ _ l1,v.head];exact⟨M,by simpa [c] using Step.solo' e c,v⟩
 ·rw [v.nxt _ (hm.c2 _ (l.b1 (by omega) (by omega)))];exact⟨M,Step.after e,v⟩
 ·exact⟨_,Step.tie e,v.setNxt (hcur (by omega) (by omega)) _⟩
 ·exact⟨_,Step.set e,v.setNxt (hm.c2 _ (l.b1 (by omega) (by omega))) _⟩
 ·rw [on_eq z3];exact⟨_,Step.seen e,v.setAct (hcur (by omega) (by omega)) _⟩
 ·rw [v.head]
  split
  ·rename_i c;exact⟨M,Step.scan e c,v⟩
  ·rename_i c;exact⟨M,Step.scan' e c,v⟩
 ·rw [v.req _ (hm.c2 _ (l.s1 e).1)]
  split
  ·rename_i c;exact⟨M,Step.pick e c,v⟩
  ·rename_i c;exact⟨M,Step.pick' e c,v⟩
 ·rw [v.nxt _ (hm.c2 _ (l.s2 e).1)]
  split
  ·rename_i c;exact⟨M,Step.goOn e c,v⟩
  ·rename_i c;exact⟨M,Step.goOn' e (Classical.byContradiction c),v⟩
 all_goals
  (
   have hn:=l.s7 (by omega) (by omega);obtain⟨x,ys,hd⟩:=List.exists_cons_of_ne_nil (h4 (by omega))
   have hit:t.item=some x:=by
    unfold Th.item;rw [if_pos hn];have:=List.getElem?_drop (xs:=t.batch) (i:=t.nth.toNat) (j:=0);rw [Nat.add_zero] at this;rw [← this,hd];rfl
   have hx:=(l.s6 (by omega) (by omega) x (by rw [hd];exact List.mem_cons_self)).1;rw [hit];simp only)
 ·exact⟨_,Step.tell e hd,v.setTld hx _⟩
 ·exact⟨_,Step.aged e hd,v.setAge hx _⟩
 ·rw [w64_small (by omega) (by omega)]
  have hnx:({ t with nth:=t.nth+1}:Th).item=ys[0]? :=by
   unfold Th.item;simp only;rw [if_pos (by omega),show(t.nth+1).toNat=t.nth.toNat+1 by omega];have:=List.getElem?_drop (xs:=t.batch) (i:=t.nth.toNat) (j:=1);rw [← this,hd];simp
  cases ys with
  | nil=>
   have hnx':({ t with nth:=t.nth+1,pc:=39}:Th).item=none:=hnx;exact⟨_,by simpa [hnx'] using Step.free (passes:=passes) (old:=old) (id:=id) (M:=M) e hd,v.setReq hx _⟩
  | cons y ys=>
   have hnx':({ t with nth:=t.nth+1,pc:=39}:Th).item=some y:=hnx;exact⟨_,by simpa [hnx'] using Step.free (passes:=passes) (old:=old) (id:=id) (M:=M) e hd,v.setReq hx _⟩
theorem sweeps_step (l:Loc old M L i S0 t) (hm:Mm M L) (s:Small M t) (v:View m M) (h1:40≤t.pc) (h2:t.pc≤48):∃ M',Step passes old id M t M' (sweeps old m t).2∧View (sweeps old m t).1 M':=by
 obtain⟨z1,z2,z3,z4,z5,z6⟩:=s;have l0:=v.low (show (0:Int)≤0 by decide) (by decide);have hprev:41≤t.pc→t.pc≤47→isRec M.k t.prev:=fun a b=>hm.c2 _ (l.w1 a b);have hcur:42≤t.pc→t.pc≤46→isRec M.k t.cur:=fun a b=>hm.c2 _ (l.w2 a b).2
 have hoff:t.pc=47→isRec M.k t.cur:=fun a=>Classical.byContradiction fun hn=>by
  have:=(l.a7 a).2.1;rw [(hm.v0 _ hn).2.1] at this;exact absurd this (by decide)
 have hp:t.pc=40∨t.pc=41∨t.pc=42∨t.pc=43∨t.pc=44∨t.pc=45∨t.pc=46∨t.pc=47∨t.pc=48:=by omega
 rcases hp with e | e | e | e | e | e | e | e | e<;>(unfold sweeps;simp only [e,reduceIte,Int.reduceEq])
 ·rw [v.head]
  split
  ·rename_i c;exact⟨M,Step.sweep e c,v⟩
  ·rename_i c;exact⟨M,Step.sweep' e c,v⟩
 ·rw [v.nxt _ (hprev (by omega) (by omega))]
  split
  ·rename_i c;exact⟨M,Step.step e c,v⟩
  ·rename_i c;exact⟨M,Step.step' e c,v⟩
 ·rw [v.act _ (hcur (by omega) (by omega))]
  split
  ·rename_i c;exact⟨M,Step.live e c,v⟩
  ·rename_i c;exact⟨M,Step.live' e c,v⟩
 ·rw [v.age _ (hcur (by omega) (by omega)),w64_small (by have:=z5 t.cur;omega) (by have:=z5 t.cur;omega)]
  split
  ·rename_i c;exact⟨M,Step.old' e c,v⟩
  ·rename_i c;exact⟨M,Step.old e c,v⟩
 ·have hc:=hcur (by omega) (by omega);have i0:=v.inb hc (Int.le_refl 0) (by decide);rw [Int.add_zero] at i0
  by_cases c:M.req t.cur=0
  ·rw [sm_yes m _ _ _ i0 (by rw [v.req _ hc,c]),sw_iff m _ _ i0,v.req _ hc,c];exact⟨_,by simpa using Step.close e c,v.setReq hc _⟩
  ·rw [sm_no m _ _ _ i0 (by rw [v.req _ hc];exact c),sw_iff m _ _ i0,v.req _ hc];exact⟨M,by simpa [c,Th.by] using Step.close' e c,v⟩
 ·rw [v.nxt _ (hcur (by omega) (by omega))];exact⟨M,Step.past e,v⟩
 ·exact⟨_,Step.cut e,v.setNxt (hprev (by omega) (by omega)) _⟩
 ·exact⟨_,Step.off e,v.setAct (hoff e) _⟩
 ·exact⟨_,Step.release e,(View.eta (v.setLow (j:=0) (by decide) (by decide) _)).1 rfl⟩
end
section
def zeroT:Th:=⟨0,0,0,0,0,0,0,0,0,0,0,[]⟩
end
end Go.Sf
