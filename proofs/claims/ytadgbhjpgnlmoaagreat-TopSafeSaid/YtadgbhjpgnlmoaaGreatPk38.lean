/- TopSafe, a part of its proof; no conditions. -/
import Derived.Test.YtadgbhjpgnlmoaaGreatPk00
set_option linter.all false
namespace Go.Sf
section
set_option maxHeartbeats 1000000
variable {N:Nat} {old passes:Int} {M:AM} {T:Nat→Th} {L:List Int} {S:Nat→Int→Prop} {k i:Nat} {S0 S1:Int→Prop} {t u:Th}
theorem Loc.publish2 (h:Loc old M L i S0 t) (hm:Mm M L) (e:t.pc=2) (c:M.req t.rc≠0):Loc old M L i S0 { t with pc:=3}:=by
 cases h;cases hm;simp [e,cl,cc,lk] at*
 constructor<;>simp only [cl,cc,lk,Th.on,Th.by]<;>grind
theorem Loc.closed (h:Loc old M L i S0 t) (hm:Mm M L) (e:t.pc=3):Loc old M L i S0 { t with look:=M.act t.rc,pc:=if M.act t.rc=0 then 4 else 3}:=by
 cases h;cases hm;simp [e,cl,cc,lk] at*
 constructor<;>simp only [cl,cc,lk,Th.on,Th.by]<;>grind
theorem Loc.check (h:Loc old M L i S0 t) (hm:Mm M L) (e:t.pc=5):Loc old M L i S0 { t with look:=M.act t.rc,pc:=if M.act t.rc=0 then 6 else 11}:=by
 cases h;cases hm;simp [e,cl,cc,lk] at*
 constructor<;>simp only [cl,cc,lk,Th.on,Th.by]<;>grind
theorem Loc.claim2 (h:Loc old M L i S0 t) (hm:Mm M L) (e:t.pc=6):Loc old M L i S0 { t with pc:=11}:=by
 cases h;cases hm;simp [e,cl,cc,lk] at*
 constructor<;>simp only [cl,cc,lk,Th.on,Th.by]<;>grind
theorem Loc.sure (h:Loc old M L i S0 t) (hm:Mm M L) (e:t.pc=15):Loc old M L i S0 { t with look:=M.req t.rc,pc:=if M.req t.rc=t.word then 7 else 16}:=by
 cases h;cases hm;simp [e,cl,cc,lk] at*
 constructor<;>simp only [cl,cc,lk,Th.on,Th.by]<;>grind
theorem Loc.front (h:Loc old M L i S0 t) (hm:Mm M L) (e:t.pc=7):Loc old M L i S0 { t with look:=M.head,pc:=8}:=by
 cases h;cases hm;simp [e,cl,cc,lk] at*
 constructor<;>simp only [cl,cc,lk,Th.on,Th.by]<;>grind
theorem Loc.link2 (h:Loc old M L i S0 t) (hm:Mm M L) (e:t.pc=9):Loc old M L i S0 { t with look:=0,pc:=10}:=by
 cases h;cases hm;simp [e,cl,cc,lk] at*
 constructor<;>simp only [cl,cc,lk,Th.on,Th.by]<;>grind
theorem Loc.wait (h:Loc old M L i S0 t) (hm:Mm M L) (e:t.pc=11):Loc old M L i S0 { t with look:=M.req t.rc,pc:=if M.req t.rc=t.word then 12 else 14}:=by
 cases h;cases hm;simp [e,cl,cc,lk] at*
 constructor<;>simp only [cl,cc,lk,Th.on,Th.by]<;>grind
theorem Loc.lock (h:Loc old M L i S0 t) (hm:Mm M L) (e:t.pc=12):Loc old M L i S0 { t with look:=M.lock,pc:=if M.lock=0 then 13 else 11}:=by
 cases h;cases hm;simp [e,cl,cc,lk] at*
 constructor<;>simp only [cl,cc,lk,Th.on,Th.by]<;>grind
theorem Loc.take2 (h:Loc old M L i S0 t) (hm:Mm M L) (e:t.pc=13):Loc old M L i S0 { t with pc:=11}:=by
 cases h;cases hm;simp [e,cl,cc,lk] at*
 constructor<;>simp only [cl,cc,lk,Th.on,Th.by]<;>grind
theorem Loc.read (h:Loc old M L i S0 t) (hm:Mm M L) (e:t.pc=14):Loc old M L i S0 { t with look:=M.tld t.rc,word:=0,pc:=0}:=by
 cases h;cases hm;simp [e,cl,cc,lk] at*
 constructor<;>simp only [cl,cc,lk,Th.on,Th.by]<;>grind
theorem Loc.pass (h:Loc old M L i S0 t) (hm:Mm M L) (e:t.pc=20):Loc old M L i S0 { t with look:=M.pass,pc:=21}:=by
 cases h;cases hm;simp [e,cl,cc,lk] at*
 constructor<;>simp only [cl,cc,lk,Th.on,Th.by]<;>grind
theorem Loc.many (h:Loc old M L i S0 t) (hm:Mm M L) (e:t.pc=22):Loc old M L i S0 (Th.on { t with many:=M.k,nth:= -1,batch:=[]}):=by
 cases h;cases hm;simp [e,cl,cc,lk] at*
 constructor<;>simp only [cl,cc,lk,Th.on,Th.by]<;>grind
theorem Loc.look (h:Loc old M L i S0 t) (hm:Mm M L) (e:t.pc=23):Loc old M L i S0 { t with cur:=3+5*t.nth,look:=0,pc:=24}:=by
 cases h;cases hm;simp [e,cl,cc,lk] at*
 constructor<;>simp only [cl,cc,lk,Th.on,Th.by]<;>grind
theorem Loc.look2 (h:Loc old M L i S0 t) (hm:Mm M L) (e:t.pc=23):Loc old M L i S0 (Th.on { t with cur:=3+5*t.nth,look:=M.act (3+5*t.nth)}):=by
 cases h;cases hm;simp [e,cl,cc,lk] at*
 constructor<;>simp only [cl,cc,lk,Th.on,Th.by]<;>grind
theorem Loc.pend (h:Loc old M L i S0 t) (hm:Mm M L) (e:t.pc=24) (c:0<M.req t.cur):Loc old M L i S0 { t with look:=M.req t.cur,pc:=25}:=by
 cases h;cases hm;simp [e,cl,cc,lk] at*
 constructor<;>simp only [cl,cc,lk,Th.on,Th.by]<;>grind
theorem Loc.pend2 (h:Loc old M L i S0 t) (hm:Mm M L) (e:t.pc=24):Loc old M L i S0 (Th.on { t with look:=M.req t.cur}):=by
 cases h;cases hm;simp [e,cl,cc,lk] at*
 constructor<;>simp only [cl,cc,lk,Th.on,Th.by]<;>grind
theorem Loc.help2 (h:Loc old M L i S0 t) (hm:Mm M L) (e:t.pc=25):Loc old M L i S0 (Th.on t):=by
 cases h;cases hm;simp [e,cl,cc,lk] at*
 constructor<;>simp only [cl,cc,lk,Th.on,Th.by]<;>grind
theorem Loc.first (h:Loc old M L i S0 t) (hm:Mm M L) (e:t.pc=26):Loc old M L i S0 { t with look:=0,pc:=27}:=by
 cases h;cases hm;simp [e,cl,cc,lk] at*
 constructor<;>simp only [cl,cc,lk,Th.on,Th.by]<;>grind
theorem Loc.first2 (h:Loc old M L i S0 t) (hm:Mm M L) (e:t.pc=26) (c:M.head≠0):Loc old M L i S0 { t with look:=M.head,prev:=M.head,pc:=29}:=by
 obtain⟨r1,r4,r5,p0,k1,a1,a1',a1'',a2,a2',a7,q1,q2,q2',q4,q5,q6,q7,q8,o1,b0,b1,b2,b3,w0,w0',w1,w2,w3,w4,w5,z1,s1,s2,s3,s4,s6,s7,s8⟩:=h;obtain⟨v0,c1,c2,c3,a3,a5⟩:=hm;simp [e,cl,cc,lk] at r1 r4 r5 p0 k1 a1 a1' a1'' a2 a2' a7 q1 q2 q2' q4 q5 q6 q7 q8 o1 b0 b1 b2 b3 w0 w0' w1 w2 w3 w4 w5 z1 s1 s2 s3 s4 s6 s7 s8;have hh:=c1.mem c
 constructor<;>simp only [cl,cc,lk,Th.on,Th.by]<;>grind
theorem Loc.solo2 (h:Loc old M L i S0 t) (hm:Mm M L) (e:t.pc=28):Loc old M L i S0 { t with pc:=26}:=by
 cases h;cases hm;simp [e,cl,cc,lk] at*
 constructor<;>simp only [cl,cc,lk,Th.on,Th.by]<;>grind
theorem Loc.after (h:Loc old M L i S0 t) (hm:Mm M L) (e:t.pc=29):Loc old M L i S0 { t with look:=M.nxt t.prev,pc:=30}:=by
 cases h;cases hm;simp [e,cl,cc,lk] at*
 constructor<;>simp only [cl,cc,lk,Th.on,Th.by]<;>grind
theorem Loc.scan (h:Loc old M L i S0 t) (hm:Mm M L) (e:t.pc=33):Loc old M L i S0 { t with look:=0,pc:=40}:=by
 cases h;cases hm;simp [e,cl,cc,lk] at*
 constructor<;>simp only [cl,cc,lk,Th.on,Th.by]<;>grind
theorem Loc.scan2 (h:Loc old M L i S0 t) (hm:Mm M L) (e:t.pc=33) (c:M.head≠0):Loc old M L i S0 { t with look:=M.head,cur:=M.head,pc:=34}:=by
 obtain⟨r1,r4,r5,p0,k1,a1,a1',a1'',a2,a2',a7,q1,q2,q2',q4,q5,q6,q7,q8,o1,b0,b1,b2,b3,w0,w0',w1,w2,w3,w4,w5,z1,s1,s2,s3,s4,s6,s7,s8⟩:=h;obtain⟨v0,c1,c2,c3,a3,a5⟩:=hm;simp [e,cl,cc,lk] at r1 r4 r5 p0 k1 a1 a1' a1'' a2 a2' a7 q1 q2 q2' q4 q5 q6 q7 q8 o1 b0 b1 b2 b3 w0 w0' w1 w2 w3 w4 w5 z1 s1 s2 s3 s4 s6 s7 s8;have hh:=c1.mem c
 constructor<;>simp only [cl,cc,lk,Th.on,Th.by]<;>grind
theorem Loc.pick (h:Loc old M L i S0 t) (hm:Mm M L) (e:t.pc=34) (c:0<M.req t.cur):Loc old M L i S0 { t with look:=M.req t.cur,pc:=35,batch:=t.batch++[⟨t.cur,M.req t.cur,0⟩]}:=by
 obtain⟨r1,r4,r5,p0,k1,a1,a1',a1'',a2,a2',a7,q1,q2,q2',q4,q5,q6,q7,q8,o1,b0,b1,b2,b3,w0,w0',w1,w2,w3,w4,w5,z1,s1,s2,s3,s4,s6,s7,s8⟩:=h;obtain⟨v0,c1,c2,c3,a3,a5⟩:=hm;simp [e,cl,cc,lk] at r1 r4 r5 p0 k1 a1 a1' a1'' a2 a2' a7 q1 q2 q2' q4 q5 q6 q7 q8 o1 b0 b1 b2 b3 w0 w0' w1 w2 w3 w4 w5 z1 s1 s2 s3 s4 s6 s7 s8;have hb:=c2 _ s1.1;have hn:∀ x,x∈t.batch→x.rc≠t.cur:=fun x hx hxe=>Behind.irrefl c3 (hxe▸s1.2 x hx)
 have hnd:((t.batch++[⟨t.cur,M.req t.cur,0⟩]:List Item).map Item.rc).Nodup:=by
  rw [List.map_append,List.nodup_append];refine⟨s3,by simp,?_⟩;intro a ha b hb';simp only [List.map_cons,List.map_nil,List.mem_singleton] at hb';obtain⟨x,hx,rfl⟩:=List.mem_map.1 ha;rw [hb'];exact hn x hx
 constructor<;>simp only [cl,cc,lk,Th.on,Th.by]<;>grind
theorem Loc.pick2 (h:Loc old M L i S0 t) (hm:Mm M L) (e:t.pc=34):Loc old M L i S0 { t with look:=M.req t.cur,pc:=35}:=by
 cases h;cases hm;simp [e,cl,cc,lk] at*
 constructor<;>simp only [cl,cc,lk,Th.on,Th.by]<;>grind
theorem Loc.goOn (h:Loc old M L i S0 t) (hm:Mm M L) (e:t.pc=35) (c:M.nxt t.cur≠0):Loc old M L i S0 { t with look:=M.nxt t.cur,cur:=M.nxt t.cur,pc:=34}:=by
 obtain⟨r1,r4,r5,p0,k1,a1,a1',a1'',a2,a2',a7,q1,q2,q2',q4,q5,q6,q7,q8,o1,b0,b1,b2,b3,w0,w0',w1,w2,w3,w4,w5,z1,s1,s2,s3,s4,s6,s7,s8⟩:=h;obtain⟨v0,c1,c2,c3,a3,a5⟩:=hm;simp [e,cl,cc,lk] at r1 r4 r5 p0 k1 a1 a1' a1'' a2 a2' a7 q1 q2 q2' q4 q5 q6 q7 q8 o1 b0 b1 b2 b3 w0 w0' w1 w2 w3 w4 w5 z1 s1 s2 s3 s4 s6 s7 s8;have hb:=Behind.next c1 s2.1 c;have hm:=hb.mem.1;have ht:∀ x,Behind L x t.cur→Behind L x (M.nxt t.cur):=fun x hx=>Behind.trans c3 hx hb
 constructor<;>simp only [cl,cc,lk,Th.on,Th.by]<;>grind
theorem Loc.goOn2 (h:Loc old M L i S0 t) (hm:Mm M L) (e:t.pc=35):Loc old M L i S0 { t with look:=0,pc:=if t.batch=[] then 40 else 36}:=by
 cases h;cases hm;simp [e,cl,cc,lk] at*
 constructor<;>simp only [cl,cc,lk,Th.on,Th.by]<;>grind
theorem Loc.step (h:Loc old M L i S0 t) (hm:Mm M L) (e:t.pc=41) (c:M.nxt t.prev=0):Loc old M L i S0 { t with look:=0,pc:=48}:=by
 obtain⟨r1,r4,r5,p0,k1,a1,a1',a1'',a2,a2',a7,q1,q2,q2',q4,q5,q6,q7,q8,o1,b0,b1,b2,b3,w0,w0',w1,w2,w3,w4,w5,z1,s1,s2,s3,s4,s6,s7,s8⟩:=h;obtain⟨v0,c1,c2,c3,a3,a5⟩:=hm;simp [e,cl,cc,lk] at r1 r4 r5 p0 k1 a1 a1' a1'' a2 a2' a7 q1 q2 q2' q4 q5 q6 q7 q8 o1 b0 b1 b2 b3 w0 w0' w1 w2 w3 w4 w5 z1 s1 s2 s3 s4 s6 s7 s8;have hb:∀ a,¬ Behind L t.prev a:=fun a ha=>(Behind.step c1 c3 ha).1 c
 constructor<;>simp only [cl,cc,lk,Th.on,Th.by]<;>grind
theorem Loc.step2 (h:Loc old M L i S0 t) (hm:Mm M L) (e:t.pc=41) (c:M.nxt t.prev≠0):Loc old M L i S0 { t with look:=M.nxt t.prev,cur:=M.nxt t.prev,pc:=42}:=by
 obtain⟨r1,r4,r5,p0,k1,a1,a1',a1'',a2,a2',a7,q1,q2,q2',q4,q5,q6,q7,q8,o1,b0,b1,b2,b3,w0,w0',w1,w2,w3,w4,w5,z1,s1,s2,s3,s4,s6,s7,s8⟩:=h;obtain⟨v0,c1,c2,c3,a3,a5⟩:=hm;simp [e,cl,cc,lk] at r1 r4 r5 p0 k1 a1 a1' a1'' a2 a2' a7 q1 q2 q2' q4 q5 q6 q7 q8 o1 b0 b1 b2 b3 w0 w0' w1 w2 w3 w4 w5 z1 s1 s2 s3 s4 s6 s7 s8;have hb:=(Behind.next c1 w1 c).mem.1
 constructor<;>simp only [cl,cc,lk,Th.on,Th.by]<;>grind
theorem Loc.live (h:Loc old M L i S0 t) (hm:Mm M L) (e:t.pc=42) (c:M.act t.cur=1):Loc old M L i S0 { t with look:=1,pc:=43}:=by
 cases h;cases hm;simp [e,cl,cc,lk] at*
 constructor<;>simp only [cl,cc,lk,Th.on,Th.by]<;>grind
theorem Loc.live2 (h:Loc old M L i S0 t) (hm:Mm M L) (e:t.pc=42) (c:M.act t.cur≠1):Loc old M L i S0 (Th.by { t with look:=M.act t.cur}):=by
 obtain⟨r1,r4,r5,p0,k1,a1,a1',a1'',a2,a2',a7,q1,q2,q2',q4,q5,q6,q7,q8,o1,b0,b1,b2,b3,w0,w0',w1,w2,w3,w4,w5,z1,s1,s2,s3,s4,s6,s7,s8⟩:=h;obtain⟨v0,c1,c2,c3,a3,a5⟩:=hm;simp [e,cl,cc,lk] at r1 r4 r5 p0 k1 a1 a1' a1'' a2 a2' a7 q1 q2 q2' q4 q5 q6 q7 q8 o1 b0 b1 b2 b3 w0 w0' w1 w2 w3 w4 w5 z1 s1 s2 s3 s4 s6 s7 s8;have hb:∀ a,Behind L t.prev a→a=t.cur∨Behind L t.cur a:=fun a ha=>w2.1▸(Behind.step c1 c3 ha).2
 constructor<;>simp only [cl,cc,lk,Th.on,Th.by]<;>grind
theorem Loc.older (h:Loc old M L i S0 t) (hm:Mm M L) (e:t.pc=43):Loc old M L i S0 { t with look:=M.age t.cur,pc:=44}:=by
 cases h;cases hm;simp [e,cl,cc,lk] at*
 constructor<;>simp only [cl,cc,lk,Th.on,Th.by]<;>grind
theorem Loc.older2 (h:Loc old M L i S0 t) (hm:Mm M L) (e:t.pc=43) (c:t.pass-M.age t.cur≤old):Loc old M L i S0 (Th.by { t with look:=M.age t.cur}):=by
 obtain⟨r1,r4,r5,p0,k1,a1,a1',a1'',a2,a2',a7,q1,q2,q2',q4,q5,q6,q7,q8,o1,b0,b1,b2,b3,w0,w0',w1,w2,w3,w4,w5,z1,s1,s2,s3,s4,s6,s7,s8⟩:=h;obtain⟨v0,c1,c2,c3,a3,a5⟩:=hm;simp [e,cl,cc,lk] at r1 r4 r5 p0 k1 a1 a1' a1'' a2 a2' a7 q1 q2 q2' q4 q5 q6 q7 q8 o1 b0 b1 b2 b3 w0 w0' w1 w2 w3 w4 w5 z1 s1 s2 s3 s4 s6 s7 s8;have hb:∀ a,Behind L t.prev a→a=t.cur∨Behind L t.cur a:=fun a ha=>w2.1▸(Behind.step c1 c3 ha).2
 constructor<;>simp only [cl,cc,lk,Th.on,Th.by]<;>grind
theorem Loc.close2 (h:Loc old M L i S0 t) (hm:Mm M L) (e:t.pc=44) (c:M.req t.cur≠0):Loc old M L i S0 (Th.by t):=by
 obtain⟨r1,r4,r5,p0,k1,a1,a1',a1'',a2,a2',a7,q1,q2,q2',q4,q5,q6,q7,q8,o1,b0,b1,b2,b3,w0,w0',w1,w2,w3,w4,w5,z1,s1,s2,s3,s4,s6,s7,s8⟩:=h;obtain⟨v0,c1,c2,c3,a3,a5⟩:=hm;simp [e,cl,cc,lk] at r1 r4 r5 p0 k1 a1 a1' a1'' a2 a2' a7 q1 q2 q2' q4 q5 q6 q7 q8 o1 b0 b1 b2 b3 w0 w0' w1 w2 w3 w4 w5 z1 s1 s2 s3 s4 s6 s7 s8;have hb:∀ a,Behind L t.prev a→a=t.cur∨Behind L t.cur a:=fun a ha=>w2.1▸(Behind.step c1 c3 ha).2
 constructor<;>simp only [cl,cc,lk,Th.on,Th.by]<;>grind
theorem Loc.past (h:Loc old M L i S0 t) (hm:Mm M L) (e:t.pc=45):Loc old M L i S0 { t with look:=M.nxt t.cur,pc:=46}:=by
 cases h;cases hm;simp [e,cl,cc,lk] at*
 constructor<;>simp only [cl,cc,lk,Th.on,Th.by]<;>grind
theorem Loc.sweep (h:Loc old M L i S0 t) (hm:Mm M L) (e:t.pc=40) (c:M.head=0) (hS:∀ a,S1 a→a∈L.tail):Loc old M L i S1 { t with look:=0,pc:=48}:=by
 obtain⟨r1,r4,r5,p0,k1,a1,a1',a1'',a2,a2',a7,q1,q2,q2',q4,q5,q6,q7,q8,o1,b0,b1,b2,b3,w0,w0',w1,w2,w3,w4,w5,z1,s1,s2,s3,s4,s6,s7,s8⟩:=h;have hl:L=[]:=Chain.nil (c▸hm.c1);subst hl;have hn:∀ a,¬ S1 a:=fun a ha=>by simpa using hS a ha
 simp [e,cl,cc,lk] at r1 r4 r5 p0 k1 a1 a1' a1'' a2 a2' a7 q1 q2 q2' q4 q5 q6 q7 q8 o1 b0 b1 b2 b3 w0 w0' w1 w2 w3 w4 w5 z1 s1 s2 s3 s4 s6 s7 s8
 constructor<;>simp only [cl,cc,lk]<;>grind
theorem Loc.sweep2 (h:Loc old M L i S0 t) (hm:Mm M L) (e:t.pc=40) (c:M.head≠0) (hS:∀ a,S1 a→a∈L.tail∧M.act a=1∧¬ M.pass-M.age a≤old):Loc old M L i S1 { t with look:=M.head,prev:=M.head,pc:=41}:=by
 obtain⟨r1,r4,r5,p0,k1,a1,a1',a1'',a2,a2',a7,q1,q2,q2',q4,q5,q6,q7,q8,o1,b0,b1,b2,b3,w0,w0',w1,w2,w3,w4,w5,z1,s1,s2,s3,s4,s6,s7,s8⟩:=h;have hh:=hm.c1.mem c
 have hb:∀ a,a∈L.tail→Behind L M.head a:=by
  intro a ha;have:=hm.c1
  match L,this,ha with
  | b::l,this,ha=>rw [this.1];exact Behind.head ha
 simp [e,cl,cc,lk] at r1 r4 r5 p0 k1 a1 a1' a1'' a2 a2' a7 q1 q2 q2' q4 q5 q6 q7 q8 o1 b0 b1 b2 b3 w0 w0' w1 w2 w3 w4 w5 z1 s1 s2 s3 s4 s6 s7 s8
 constructor<;>simp only [cl,cc,lk]<;>grind
end
section
set_option maxHeartbeats 1000000
variable {N:Nat} {old passes:Int} {M:AM} {T:Nat→Th} {L:List Int} {S:Nat→Int→Prop} {k i:Nat} {S0 S1:Int→Prop} {t u:Th}
theorem Loc.publish_o (h:Loc old M L i S0 u) (hk:Loc old M L k S1 t) (hm:Mm M L) (hr:u.rc=t.rc→u.rc=0) (hik:i≠k) (hc:cc u.pc→t.rc=u.cur→¬ cl t.pc) (hc':cc t.pc→u.rc=t.cur→¬ cl u.pc) (e:t.pc=2) (c:M.req t.rc=0):Loc old { M with req:=up M.req t.rc t.word} L i S0 u:=by
 cases h;cases hk;cases hm;simp [e,cl,cc,lk] at*
 constructor<;>(try simp only [cl,cc,lk] at *)<;>grind (splits:=24) [up]
theorem Loc.publish_k (h:Loc old M L i S0 t) (hm:Mm M L) (e:t.pc=2) (c:M.req t.rc=0):Loc old { M with req:=up M.req t.rc t.word} L i S0 { t with pc:=5}:=by
 obtain⟨r1,r4,r5,p0,k1,a1,a1',a1'',a2,a2',a7,q1,q2,q2',q4,q5,q6,q7,q8,o1,b0,b1,b2,b3,w0,w0',w1,w2,w3,w4,w5,z1,s1,s2,s3,s4,s6,s7,s8⟩:=h;obtain⟨v0,c1,c2,c3,a3,a5⟩:=hm;simp [e,cl,cc,lk] at r1 r4 r5 p0 k1 a1 a1' a1'' a2 a2' a7 q1 q2 q2' q4 q5 q6 q7 q8 o1 b0 b1 b2 b3 w0 w0' w1 w2 w3 w4 w5 z1 s1 s2 s3 s4 s6 s7 s8
 constructor<;>simp only [cl,cc,lk,Th.on,Th.by]<;>grind [up]
theorem Mm.publish (h:Loc old M L i S0 t) (hm:Mm M L) (e:t.pc=2) (c:M.req t.rc=0):Mm { M with req:=up M.req t.rc t.word} L:=by
 obtain⟨r1,r4,r5,p0,k1,a1,a1',a1'',a2,a2',a7,q1,q2,q2',q4,q5,q6,q7,q8,o1,b0,b1,b2,b3,w0,w0',w1,w2,w3,w4,w5,z1,s1,s2,s3,s4,s6,s7,s8⟩:=h;obtain⟨v0,c1,c2,c3,a3,a5⟩:=hm;simp [e,cl,cc,lk] at r1 r4 r5 p0 k1 a1 a1' a1'' a2 a2' a7 q1 q2 q2' q4 q5 q6 q7 q8 o1 b0 b1 b2 b3 w0 w0' w1 w2 w3 w4 w5 z1 s1 s2 s3 s4 s6 s7 s8
 constructor<;>grind [up]
theorem Loc.opened_o (h:Loc old M L i S0 u) (hk:Loc old M L k S1 t) (hm:Mm M L) (hr:u.rc=t.rc→u.rc=0) (hik:i≠k) (hc:cc u.pc→t.rc=u.cur→¬ cl t.pc) (hc':cc t.pc→u.rc=t.cur→¬ cl u.pc) (e:t.pc=4):Loc old { M with req:=up M.req t.rc t.word} L i S0 u:=by
 cases h;cases hk;cases hm;simp [e,cl,cc,lk] at*
 constructor<;>(try simp only [cl,cc,lk] at *)<;>grind (splits:=24) [up]
theorem Loc.opened_k (h:Loc old M L i S0 t) (hm:Mm M L) (e:t.pc=4):Loc old { M with req:=up M.req t.rc t.word} L i S0 { t with pc:=5}:=by
 obtain⟨r1,r4,r5,p0,k1,a1,a1',a1'',a2,a2',a7,q1,q2,q2',q4,q5,q6,q7,q8,o1,b0,b1,b2,b3,w0,w0',w1,w2,w3,w4,w5,z1,s1,s2,s3,s4,s6,s7,s8⟩:=h;obtain⟨v0,c1,c2,c3,a3,a5⟩:=hm;simp [e,cl,cc,lk] at r1 r4 r5 p0 k1 a1 a1' a1'' a2 a2' a7 q1 q2 q2' q4 q5 q6 q7 q8 o1 b0 b1 b2 b3 w0 w0' w1 w2 w3 w4 w5 z1 s1 s2 s3 s4 s6 s7 s8
 constructor<;>simp only [cl,cc,lk,Th.on,Th.by]<;>grind [up]
theorem Mm.opened (h:Loc old M L i S0 t) (hm:Mm M L) (e:t.pc=4):Mm { M with req:=up M.req t.rc t.word} L:=by
 obtain⟨r1,r4,r5,p0,k1,a1,a1',a1'',a2,a2',a7,q1,q2,q2',q4,q5,q6,q7,q8,o1,b0,b1,b2,b3,w0,w0',w1,w2,w3,w4,w5,z1,s1,s2,s3,s4,s6,s7,s8⟩:=h;obtain⟨v0,c1,c2,c3,a3,a5⟩:=hm;simp [e,cl,cc,lk] at r1 r4 r5 p0 k1 a1 a1' a1'' a2 a2' a7 q1 q2 q2' q4 q5 q6 q7 q8 o1 b0 b1 b2 b3 w0 w0' w1 w2 w3 w4 w5 z1 s1 s2 s3 s4 s6 s7 s8
 constructor<;>grind [up]
theorem Loc.claim_o (h:Loc old M L i S0 u) (hk:Loc old M L k S1 t) (hm:Mm M L) (hr:u.rc=t.rc→u.rc=0) (hik:i≠k) (hc:cc u.pc→t.rc=u.cur→¬ cl t.pc) (hc':cc t.pc→u.rc=t.cur→¬ cl u.pc) (e:t.pc=6) (c:M.act t.rc=0):Loc old { M with act:=up M.act t.rc 2} L i S0 u:=by
 cases h;cases hk;cases hm;simp [e,cl,cc,lk] at*
 constructor<;>(try simp only [cl,cc,lk] at *)<;>grind (splits:=24) [up]
theorem Loc.claim_k (h:Loc old M L i S0 t) (hm:Mm M L) (e:t.pc=6) (c:M.act t.rc=0):Loc old { M with act:=up M.act t.rc 2} L i S0 { t with pc:=15}:=by
 obtain⟨r1,r4,r5,p0,k1,a1,a1',a1'',a2,a2',a7,q1,q2,q2',q4,q5,q6,q7,q8,o1,b0,b1,b2,b3,w0,w0',w1,w2,w3,w4,w5,z1,s1,s2,s3,s4,s6,s7,s8⟩:=h;obtain⟨v0,c1,c2,c3,a3,a5⟩:=hm;simp [e,cl,cc,lk] at r1 r4 r5 p0 k1 a1 a1' a1'' a2 a2' a7 q1 q2 q2' q4 q5 q6 q7 q8 o1 b0 b1 b2 b3 w0 w0' w1 w2 w3 w4 w5 z1 s1 s2 s3 s4 s6 s7 s8
 constructor<;>simp only [cl,cc,lk,Th.on,Th.by]<;>grind [up]
theorem Mm.claim (h:Loc old M L i S0 t) (hm:Mm M L) (e:t.pc=6) (c:M.act t.rc=0):Mm { M with act:=up M.act t.rc 2} L:=by
 obtain⟨r1,r4,r5,p0,k1,a1,a1',a1'',a2,a2',a7,q1,q2,q2',q4,q5,q6,q7,q8,o1,b0,b1,b2,b3,w0,w0',w1,w2,w3,w4,w5,z1,s1,s2,s3,s4,s6,s7,s8⟩:=h;obtain⟨v0,c1,c2,c3,a3,a5⟩:=hm;simp [e,cl,cc,lk] at r1 r4 r5 p0 k1 a1 a1' a1'' a2 a2' a7 q1 q2 q2' q4 q5 q6 q7 q8 o1 b0 b1 b2 b3 w0 w0' w1 w2 w3 w4 w5 z1 s1 s2 s3 s4 s6 s7 s8
 constructor<;>grind [up]
theorem Loc.drop_o (h:Loc old M L i S0 u) (hk:Loc old M L k S1 t) (hm:Mm M L) (hr:u.rc=t.rc→u.rc=0) (hik:i≠k) (hc:cc u.pc→t.rc=u.cur→¬ cl t.pc) (hc':cc t.pc→u.rc=t.cur→¬ cl u.pc) (e:t.pc=16):Loc old { M with act:=up M.act t.rc 0} L i S0 u:=by
 cases h;cases hk;cases hm;simp [e,cl,cc,lk] at*
 constructor<;>(try simp only [cl,cc,lk] at *)<;>grind (splits:=24) [up]
theorem Loc.drop_k (h:Loc old M L i S0 t) (hm:Mm M L) (e:t.pc=16):Loc old { M with act:=up M.act t.rc 0} L i S0 { t with pc:=11}:=by
 obtain⟨r1,r4,r5,p0,k1,a1,a1',a1'',a2,a2',a7,q1,q2,q2',q4,q5,q6,q7,q8,o1,b0,b1,b2,b3,w0,w0',w1,w2,w3,w4,w5,z1,s1,s2,s3,s4,s6,s7,s8⟩:=h;obtain⟨v0,c1,c2,c3,a3,a5⟩:=hm;simp [e,cl,cc,lk] at r1 r4 r5 p0 k1 a1 a1' a1'' a2 a2' a7 q1 q2 q2' q4 q5 q6 q7 q8 o1 b0 b1 b2 b3 w0 w0' w1 w2 w3 w4 w5 z1 s1 s2 s3 s4 s6 s7 s8
 constructor<;>simp only [cl,cc,lk,Th.on,Th.by]<;>grind [up]
theorem Mm.drop (h:Loc old M L i S0 t) (hm:Mm M L) (e:t.pc=16):Mm { M with act:=up M.act t.rc 0} L:=by
 obtain⟨r1,r4,r5,p0,k1,a1,a1',a1'',a2,a2',a7,q1,q2,q2',q4,q5,q6,q7,q8,o1,b0,b1,b2,b3,w0,w0',w1,w2,w3,w4,w5,z1,s1,s2,s3,s4,s6,s7,s8⟩:=h;obtain⟨v0,c1,c2,c3,a3,a5⟩:=hm;simp [e,cl,cc,lk] at r1 r4 r5 p0 k1 a1 a1' a1'' a2 a2' a7 q1 q2 q2' q4 q5 q6 q7 q8 o1 b0 b1 b2 b3 w0 w0' w1 w2 w3 w4 w5 z1 s1 s2 s3 s4 s6 s7 s8
 constructor<;>grind [up]
theorem Loc.next_o (h:Loc old M L i S0 u) (hk:Loc old M L k S1 t) (hm:Mm M L) (hr:u.rc=t.rc→u.rc=0) (hik:i≠k) (hc:cc u.pc→t.rc=u.cur→¬ cl t.pc) (hc':cc t.pc→u.rc=t.cur→¬ cl u.pc) (e:t.pc=8):Loc old { M with nxt:=up M.nxt t.rc t.look} L i S0 u:=by
 cases h;cases hk;cases hm;simp [e,cl,cc,lk] at*
 constructor<;>(try simp only [cl,cc,lk] at *)<;>grind (splits:=24) [up]
theorem Loc.next_k (h:Loc old M L i S0 t) (hm:Mm M L) (e:t.pc=8):Loc old { M with nxt:=up M.nxt t.rc t.look} L i S0 { t with pc:=9}:=by
 obtain⟨r1,r4,r5,p0,k1,a1,a1',a1'',a2,a2',a7,q1,q2,q2',q4,q5,q6,q7,q8,o1,b0,b1,b2,b3,w0,w0',w1,w2,w3,w4,w5,z1,s1,s2,s3,s4,s6,s7,s8⟩:=h;obtain⟨v0,c1,c2,c3,a3,a5⟩:=hm;simp [e,cl,cc,lk] at r1 r4 r5 p0 k1 a1 a1' a1'' a2 a2' a7 q1 q2 q2' q4 q5 q6 q7 q8 o1 b0 b1 b2 b3 w0 w0' w1 w2 w3 w4 w5 z1 s1 s2 s3 s4 s6 s7 s8
 constructor<;>simp only [cl,cc,lk,Th.on,Th.by]<;>grind [up]
theorem Mm.next (h:Loc old M L i S0 t) (hm:Mm M L) (e:t.pc=8):Mm { M with nxt:=up M.nxt t.rc t.look} L:=by
 obtain⟨r1,r4,r5,p0,k1,a1,a1',a1'',a2,a2',a7,q1,q2,q2',q4,q5,q6,q7,q8,o1,b0,b1,b2,b3,w0,w0',w1,w2,w3,w4,w5,z1,s1,s2,s3,s4,s6,s7,s8⟩:=h;obtain⟨v0,c1,c2,c3,a3,a5⟩:=hm;simp [e,cl,cc,lk] at r1 r4 r5 p0 k1 a1 a1' a1'' a2 a2' a7 q1 q2 q2' q4 q5 q6 q7 q8 o1 b0 b1 b2 b3 w0 w0' w1 w2 w3 w4 w5 z1 s1 s2 s3 s4 s6 s7 s8;have hx:=c1.other (v:=t.look) (a:=t.rc) (by grind)
 constructor<;>grind [up]
theorem Loc.link_o (h:Loc old M L i S0 u) (hk:Loc old M L k S1 t) (hm:Mm M L) (hr:u.rc=t.rc→u.rc=0) (hik:i≠k) (hc:cc u.pc→t.rc=u.cur→¬ cl t.pc) (hc':cc t.pc→u.rc=t.cur→¬ cl u.pc) (e:t.pc=9) (c:M.head=t.look):Loc old { M with head:=t.rc} (t.rc::L) i S0 u:=by
 obtain⟨r1,r4,r5,p0,k1,a1,a1',a1'',a2,a2',a7,q1,q2,q2',q4,q5,q6,q7,q8,o1,b0,b1,b2,b3,w0,w0',w1,w2,w3,w4,w5,z1,s1,s2,s3,s4,s6,s7,s8⟩:=h;obtain⟨Kr1,Kr4,Kr5,Kp0,Kk1,Ka1,Ka1',Ka1'',Ka2,Ka2',Ka7,Kq1,Kq2,Kq2',Kq4,Kq5,Kq6,Kq7,Kq8,Ko1,Kb0,Kb1,Kb2,Kb3,Kw0,Kw0',Kw1,Kw2,Kw3,Kw4,Kw5,Kz1,Ks1,Ks2,Ks3,Ks4,Ks6,Ks7,Ks8⟩:=hk;obtain⟨v0,c1,c2,c3,a3,a5⟩:=hm;simp [e,cl,cc,lk] at hc hc' Kr1 Kr4 Kr5 Kp0 Kk1 Ka1 Ka1' Ka1'' Ka2 Ka2' Ka7 Kq1 Kq2 Kq2' Kq4 Kq5 Kq6 Kq7 Kq8 Ko1 Kb0 Kb1 Kb2 Kb3 Kw0 Kw0' Kw1 Kw2 Kw3 Kw4 Kw5 Kz1 Ks1 Ks2 Ks3 Ks4 Ks6 Ks7 Ks8;have hb:∀ p a,Behind L p a→Behind (t.rc::L) p a:=fun p a=>Behind.cons
 constructor<;>simp only [cl,cc,lk] at* <;>grind (splits:=24) [up]
theorem Loc.link_k (h:Loc old M L i S0 t) (hm:Mm M L) (e:t.pc=9) (c:M.head=t.look):Loc old { M with head:=t.rc} (t.rc::L) i S0 { t with look:=1,pc:=10}:=by
 obtain⟨r1,r4,r5,p0,k1,a1,a1',a1'',a2,a2',a7,q1,q2,q2',q4,q5,q6,q7,q8,o1,b0,b1,b2,b3,w0,w0',w1,w2,w3,w4,w5,z1,s1,s2,s3,s4,s6,s7,s8⟩:=h;obtain⟨v0,c1,c2,c3,a3,a5⟩:=hm;simp [e,cl,cc,lk] at r1 r4 r5 p0 k1 a1 a1' a1'' a2 a2' a7 q1 q2 q2' q4 q5 q6 q7 q8 o1 b0 b1 b2 b3 w0 w0' w1 w2 w3 w4 w5 z1 s1 s2 s3 s4 s6 s7 s8
 constructor<;>simp only [cl,cc,lk,Th.on,Th.by]<;>grind [up]
theorem Mm.link (h:Loc old M L i S0 t) (hm:Mm M L) (e:t.pc=9) (c:M.head=t.look):Mm { M with head:=t.rc} (t.rc::L):=by
 obtain⟨r1,r4,r5,p0,k1,a1,a1',a1'',a2,a2',a7,q1,q2,q2',q4,q5,q6,q7,q8,o1,b0,b1,b2,b3,w0,w0',w1,w2,w3,w4,w5,z1,s1,s2,s3,s4,s6,s7,s8⟩:=h;obtain⟨v0,c1,c2,c3,a3,a5⟩:=hm;simp [e,cl,cc,lk] at r1 r4 r5 p0 k1 a1 a1' a1'' a2 a2' a7 q1 q2 q2' q4 q5 q6 q7 q8 o1 b0 b1 b2 b3 w0 w0' w1 w2 w3 w4 w5 z1 s1 s2 s3 s4 s6 s7 s8;have h0:t.rc≠0:=by grind
 have hx:Chain M.nxt t.rc (t.rc::L):=⟨rfl,h0,by rw [o1,←c];exact c1⟩
 constructor<;>grind [up]
theorem Loc.mark_o (h:Loc old M L i S0 u) (hk:Loc old M L k S1 t) (hm:Mm M L) (hr:u.rc=t.rc→u.rc=0) (hik:i≠k) (hc:cc u.pc→t.rc=u.cur→¬ cl t.pc) (hc':cc t.pc→u.rc=t.cur→¬ cl u.pc) (e:t.pc=10):Loc old { M with act:=up M.act t.rc t.look} L i S0 u:=by
 cases h;cases hk;cases hm;simp [e,cl,cc,lk] at*
 constructor<;>(try simp only [cl,cc,lk] at *)<;>grind (splits:=24) [up]
theorem Loc.mark_k (h:Loc old M L i S0 t) (hm:Mm M L) (e:t.pc=10):Loc old { M with act:=up M.act t.rc t.look} L i S0 { t with pc:=11}:=by
 obtain⟨r1,r4,r5,p0,k1,a1,a1',a1'',a2,a2',a7,q1,q2,q2',q4,q5,q6,q7,q8,o1,b0,b1,b2,b3,w0,w0',w1,w2,w3,w4,w5,z1,s1,s2,s3,s4,s6,s7,s8⟩:=h;obtain⟨v0,c1,c2,c3,a3,a5⟩:=hm;simp [e,cl,cc,lk] at r1 r4 r5 p0 k1 a1 a1' a1'' a2 a2' a7 q1 q2 q2' q4 q5 q6 q7 q8 o1 b0 b1 b2 b3 w0 w0' w1 w2 w3 w4 w5 z1 s1 s2 s3 s4 s6 s7 s8
 constructor<;>simp only [cl,cc,lk,Th.on,Th.by]<;>grind [up]
theorem Mm.mark (h:Loc old M L i S0 t) (hm:Mm M L) (e:t.pc=10):Mm { M with act:=up M.act t.rc t.look} L:=by
 obtain⟨r1,r4,r5,p0,k1,a1,a1',a1'',a2,a2',a7,q1,q2,q2',q4,q5,q6,q7,q8,o1,b0,b1,b2,b3,w0,w0',w1,w2,w3,w4,w5,z1,s1,s2,s3,s4,s6,s7,s8⟩:=h;obtain⟨v0,c1,c2,c3,a3,a5⟩:=hm;simp [e,cl,cc,lk] at r1 r4 r5 p0 k1 a1 a1' a1'' a2 a2' a7 q1 q2 q2' q4 q5 q6 q7 q8 o1 b0 b1 b2 b3 w0 w0' w1 w2 w3 w4 w5 z1 s1 s2 s3 s4 s6 s7 s8
 constructor<;>grind [up]
theorem Loc.take_o (h:Loc old M L i S0 u) (hk:Loc old M L k S1 t) (hm:Mm M L) (hr:u.rc=t.rc→u.rc=0) (hik:i≠k) (hc:cc u.pc→t.rc=u.cur→¬ cl t.pc) (hc':cc t.pc→u.rc=t.cur→¬ cl u.pc) (e:t.pc=13) (c:M.lock=0):Loc old { M with lock:=(k:Int)+1} L i S0 u:=by
 cases h;cases hk;cases hm;simp [e,cl,cc,lk] at*
 constructor<;>(try simp only [cl,cc,lk] at *)<;>grind (splits:=24) [up]
theorem Loc.take_k (h:Loc old M L i S0 t) (hm:Mm M L) (e:t.pc=13) (c:M.lock=0):Loc old { M with lock:=(i:Int)+1} L i S0 { t with pc:=20,runs:=0}:=by
 obtain⟨r1,r4,r5,p0,k1,a1,a1',a1'',a2,a2',a7,q1,q2,q2',q4,q5,q6,q7,q8,o1,b0,b1,b2,b3,w0,w0',w1,w2,w3,w4,w5,z1,s1,s2,s3,s4,s6,s7,s8⟩:=h;obtain⟨v0,c1,c2,c3,a3,a5⟩:=hm;simp [e,cl,cc,lk] at r1 r4 r5 p0 k1 a1 a1' a1'' a2 a2' a7 q1 q2 q2' q4 q5 q6 q7 q8 o1 b0 b1 b2 b3 w0 w0' w1 w2 w3 w4 w5 z1 s1 s2 s3 s4 s6 s7 s8
 constructor<;>simp only [cl,cc,lk,Th.on,Th.by]<;>grind [up]
theorem Mm.take (h:Loc old M L i S0 t) (hm:Mm M L) (e:t.pc=13) (c:M.lock=0):Mm { M with lock:=(i:Int)+1} L:=by
 obtain⟨r1,r4,r5,p0,k1,a1,a1',a1'',a2,a2',a7,q1,q2,q2',q4,q5,q6,q7,q8,o1,b0,b1,b2,b3,w0,w0',w1,w2,w3,w4,w5,z1,s1,s2,s3,s4,s6,s7,s8⟩:=h;obtain⟨v0,c1,c2,c3,a3,a5⟩:=hm;simp [e,cl,cc,lk] at r1 r4 r5 p0 k1 a1 a1' a1'' a2 a2' a7 q1 q2 q2' q4 q5 q6 q7 q8 o1 b0 b1 b2 b3 w0 w0' w1 w2 w3 w4 w5 z1 s1 s2 s3 s4 s6 s7 s8
 constructor<;>grind [up]
theorem Loc.stamp_o (h:Loc old M L i S0 u) (hk:Loc old M L k S1 t) (hm:Mm M L) (hr:u.rc=t.rc→u.rc=0) (hik:i≠k) (hc:cc u.pc→t.rc=u.cur→¬ cl t.pc) (hc':cc t.pc→u.rc=t.cur→¬ cl u.pc) (e:t.pc=21):Loc old { M with pass:=t.look+1} L i S0 u:=by
 cases h;cases hk;cases hm;simp [e,cl,cc,lk] at*
 constructor<;>(try simp only [cl,cc,lk] at *)<;>grind (splits:=24) [up]
theorem Loc.stamp_k (h:Loc old M L i S0 t) (hm:Mm M L) (e:t.pc=21):Loc old { M with pass:=t.look+1} L i S0 { t with pass:=t.look+1,runs:=t.runs+1,pc:=22}:=by
 obtain⟨r1,r4,r5,p0,k1,a1,a1',a1'',a2,a2',a7,q1,q2,q2',q4,q5,q6,q7,q8,o1,b0,b1,b2,b3,w0,w0',w1,w2,w3,w4,w5,z1,s1,s2,s3,s4,s6,s7,s8⟩:=h;obtain⟨v0,c1,c2,c3,a3,a5⟩:=hm;simp [e,cl,cc,lk] at r1 r4 r5 p0 k1 a1 a1' a1'' a2 a2' a7 q1 q2 q2' q4 q5 q6 q7 q8 o1 b0 b1 b2 b3 w0 w0' w1 w2 w3 w4 w5 z1 s1 s2 s3 s4 s6 s7 s8
 constructor<;>simp only [cl,cc,lk,Th.on,Th.by]<;>grind [up]
theorem Mm.stamp (h:Loc old M L i S0 t) (hm:Mm M L) (e:t.pc=21):Mm { M with pass:=t.look+1} L:=by
 obtain⟨r1,r4,r5,p0,k1,a1,a1',a1'',a2,a2',a7,q1,q2,q2',q4,q5,q6,q7,q8,o1,b0,b1,b2,b3,w0,w0',w1,w2,w3,w4,w5,z1,s1,s2,s3,s4,s6,s7,s8⟩:=h;obtain⟨v0,c1,c2,c3,a3,a5⟩:=hm;simp [e,cl,cc,lk] at r1 r4 r5 p0 k1 a1 a1' a1'' a2 a2' a7 q1 q2 q2' q4 q5 q6 q7 q8 o1 b0 b1 b2 b3 w0 w0' w1 w2 w3 w4 w5 z1 s1 s2 s3 s4 s6 s7 s8
 constructor<;>grind [up]
theorem Loc.help_o (h:Loc old M L i S0 u) (hk:Loc old M L k S1 t) (hm:Mm M L) (hr:u.rc=t.rc→u.rc=0) (hik:i≠k) (hc:cc u.pc→t.rc=u.cur→¬ cl t.pc) (hc':cc t.pc→u.rc=t.cur→¬ cl u.pc) (e:t.pc=25) (c:M.act t.cur=0):Loc old { M with act:=up M.act t.cur 2} L i S0 u:=by
 cases h;cases hk;cases hm;simp [e,cl,cc,lk] at*
 constructor<;>(try simp only [cl,cc,lk] at *)<;>grind (splits:=24) [up]
end
end Go.Sf
