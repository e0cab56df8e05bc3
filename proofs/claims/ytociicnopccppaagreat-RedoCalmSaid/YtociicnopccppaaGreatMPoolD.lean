/-
 Pools: load of a page that was never written.
-/
import Derived.Test.YtociicnopccppaaGreatMPoolC
set_option maxRecDepth 100000
set_option linter.all false
namespace Go.Proofs.YtociicnopccppaaGreat
open Go.RowKit
def blank:List (List Int):=List.replicate 4 Qff
theorem Qj2:Qb3 blank=true:=dK
theorem Qub:Qjt blank=qaz:=dK
theorem Qoj:qa8 (qaf 0)=0:=dK
theorem Qtv:qaa (qaf 0)=0:=dK
theorem Qea:∀n,n<4294967296->qa0 (qaf n)=0:=by
 intro n hn
 have e:qbp (qaf n) 12 2=leN (((qaf n).drop 12).take 2) 2:=rfl
 have c:((qaf n).drop 12).take 2=[0,0]:=by
  unfold qaf qbf
  have a:(leB n 4).length=4:=Qaa n 4
  have h2:(leB 448 2).length=2:=Qaa 448 2
  rw[a,h2]
  apply List.ext_getElem?
  intro i
  have b:qaz.length=448:=Z7
  by_cases hi:i<2
  ·rw[List.getElem?_take,if_pos hi,List.getElem?_drop]
   rw[Y9,Y5 (by simp only[List.length_take,Z6,List.length_drop,a,b];omega),List.getElem?_take,if_pos oM]
   rw[Y9,Y6 (by simp only[List.length_take,b];omega),List.length_take,b]
   rw[Y6 (by rw[a];omega),a,List.getElem?_drop]
   unfold qaz
   rw[List.getElem?_replicate,if_pos oM]
   have:i=0\/i=1:=oM
   rcases this with rfl|rfl <;> rfl
  ·rw[List.getElem?_eq_none (by rw[List.length_take];omega),List.getElem?_eq_none (by simp;omega)]
 show qbp (qaf n) 12 2=0
 rw[e,c];rfl
theorem Qps (n:Nat) (hn:n<4294967296):Fit (qaf n) :=
 ⟨by rw[Qea n hn];omega,fun s=>by unfold qav qad;rw[Qea n hn,if_neg oM,if_neg oM];omega⟩
theorem Qrj (n:Nat) (hn:n<4294967296):Qab (qaf n)=[]:=by
 unfold Qab;rw[Qea n hn];rfl
theorem Qld {w:World}{τ:qa1}{bp bd:Nat}{H:qaq}{L:qac}{D:Dev}(h:Qji w τ bp H) (hl:qaw w τ H.bl bd L) (hd:qax w τ bd D) (n:Nat) (hn:4*n+4<=D.f1.length) (hz:qap D n 4=blank) (g:Tag) :
 Calls Tryz.prog 166 #[.pointer (some ⟨bp,0,none⟩),.int .u32 n] w fun e w'=>∃b k,e = .returned (.tuple #[.pointer (some ⟨b,0,none⟩),.int .u16 0])/\w.heap.size<=b/\qag w' k g b (qaf n)/\Step w τ w' k nil:=by
 have h1:=Qfi h hl hd n hn
 have l:=hd.length 1
 have G:D.file 1=D.f1:=rfl
 rw[G] at l
 rw[hz] at h1
 have j:blank.length=4:=rfl
 generalize hbl:blank=ls at h1 j
 obtain⟨H1,o,I⟩:=qan h1 hbl j
 clear h1 hbl j h hl hd hz
 go_enter Tryz.func166,Tryz.ntmps166
 go_wp2_with fail
 refine H1.mono ?_
 rintro e w1 ⟨v,τ1,rfl,J,q⟩
 have h2:=Qnz J.row qa2 I
 obtain⟨p,c,rfl⟩:=J.val
 obtain⟨H2,M⟩:=qaj h2 q
 clear h2 q H1 J
 go_wp2_with fail
 refine H2.mono ?_
 rintro e w2 ⟨τ2,r,hq⟩
 have s:Qb3 ls=true:=by rw[<-o.out];exact Qj2
 rcases hq with ⟨-,u,rfl,F⟩|⟨x,-⟩
 ·rw[<-o.out,Qub] at F
  have h3:=Qns (g:=qe3) F
  obtain⟨pu,cu,rfl,-,-⟩:=F.any
  obtain⟨H3,O⟩:=qaj h3 r
  clear h3 r s H2 F
  go_wp2_with fail
  refine H3.mono ?_
  rintro e w3 ⟨b0,τ3,rfl,hlow3,a,y⟩
  have R:=Qg5 a
  have U:=Qhe a
  have X:=Qfl a (Qps 0 oM)
  rw[Qoj] at R
  rw[Qtv] at U
  rw[Qrj 0 oM] at X
  obtain⟨H4,H5,H6,Y⟩:=qb9 R U X y
  clear R U X y a H3
  go_wp2_with fail
  refine zC H4 ?_
  go_wp2_with fail
  refine zC H5 ?_
  go_wp2_with fail
  refine H6.mono ?_
  rintro e w4 ⟨v4,Z,rfl,z,B⟩
  obtain⟨p4,c4,rfl⟩:=z.val
  have h7:=Qk3 w4 Z g n oM
  obtain⟨H7,a0⟩:=qaj h7 B
  clear h7 B H6 z
  go_wp2_with fail
  refine H7.mono ?_
  rintro e w5 ⟨b,a1,rfl,d,a,C⟩
  obtain⟨a2,a3,E⟩:=qan a C d
  clear a C d
  go_wp2_with fail
  go_ret2
  have i:=((M.trans O).trans Y).trans a0
  exact⟨b,a1,rfl,Y3 i.size E,a2,i.trans a3⟩
 ·rw[s] at x;cases x
theorem qau.cells {w:World}{τ:qa1}{bp bf:Nat}{H:qaq}{F:List Fr}{s:Ck.Clk.St}(h:qau w τ bp bf H F s) {i:Nat}{f:Fr}(a:F[i]?=some f) :
 w.cell? ⟨bf,i*3,none⟩=some (.pointer (f.pg.map (fun x=>(⟨x.1,0,none⟩:Addr))))/\w.cell? ⟨bf,i*3+1,none⟩=some (.int .u32 f.n)/\w.cell? ⟨bf,i*3+2,none⟩=some (.int .u64 f.first):=by
 obtain⟨hi,rfl⟩:=Z4 a
 refine⟨?_,?_,?_⟩
 ·have:=Qci F i 0 oM hi
  exact h.fr.at (i*3) (by rw[Nat.add_zero] at this;rw[this];rfl)
 ·exact h.fr.at (i*3+1) (by rw[Qci F i 1 oM hi];rfl)
 ·exact h.fr.at (i*3+2) (by rw[Qci F i 2 oM hi];rfl)
theorem Qm3 {w:World}{τ:qa1}{bp bf:Nat}{H:qaq}{F:List Fr}{s:Ck.Clk.St}(h:qau w τ bp bf H F s) (i:Nat) {f:Fr}(a:F[i]?=some f) (hn:f.pg=none) :
 Calls Tryz.prog 165 #[.pointer (some ⟨bp,0,none⟩),.int .i64 i] w fun e b=>e = .returned (.tuple #[])/\w=b:=by
 obtain⟨c0,-,-⟩:=h.cells a
 rw[hn] at c0
 have c1:=h.hd.at 2 rfl
 rw[h.vf] at c1
 have hi:i<F.length:=(Z4 a).1
 generalize F.length=k at *
 simp only[Option.map_none] at c0
 clear h a hn
 go_enter Tryz.func165,Tryz.ntmps165
 go_wp2_with fail
 go_returns
 exact⟨rfl,rfl⟩
def qcn (F:List Fr):Prop:=∀(i j n:Nat) (f g:Fr),F[i]?=some f->F[j]?=some g->f.has n=true->g.has n=true->i=j
theorem Qa6 {F:List Fr}(one:qcn F) (n i:Nat):Qaq F n=some i↔∃f,F[i]?=some f/\f.has n=true:=by
 unfold Qaq
 constructor
 ·intro h
  obtain⟨hi,h1,-⟩:=List.findIdx?_eq_some_iff_getElem.1 h
  exact⟨_,Z3 hi,h1⟩
 ·rintro⟨f,a,hh⟩
  obtain⟨hi,rfl⟩:=Z4 a
  refine List.findIdx?_eq_some_iff_getElem.2 ⟨hi,hh,fun j hj=>?_⟩
  intro b
  have:=one j i n F[j] F[i] (Z3 oM) a b hh
  omega
theorem qcn.set {F:List Fr}(one:qcn F) (i:Nat) (f:Fr) (l:∀(j n:Nat) (g:Fr),j≠i->F[j]?=some g->g.has n=true->f.has n=false):qcn (F.set i f):=by
 intro a b n x y d c h1 h2
 rw[List.getElem?_set] at d c
 by_cases k:i=a
 ·by_cases h:i=b
  ·rw[<-k,<-h]
  ·rw[if_pos k] at d
   rw[if_neg h] at c
   split at d
   ·cases d
    have:=l b n y (fun e=>h e.symm) c h2
    rw[h1] at this;cases this
   ·cases d
 ·rw[if_neg k] at d
  by_cases h:i=b
  ·rw[if_pos h] at c
   split at c
   ·cases c
    have:=l a n x (fun e=>k e.symm) d h1
    rw[h2] at this;cases this
   ·cases c
  ·rw[if_neg h] at c
   exact one a b n x y d c h1 h2
theorem Qk8 (n:Nat):Fr.no.has n=false:=rfl
theorem Qvb {a b:Option Nat}(h:∀i,a=some i↔b=some i):a=b:=by
 cases a with
 | none=>cases b with
   | none=>rfl
   | some x=>exact((h x).2 rfl)
 | some x=>exact((h x).1 rfl).symm
theorem Qfh {F:List Fr}(one:qcn F) {i:Nat}{f:Fr}(l:F[i]?=some f) (hh:f.has f.n=true):qeu (Qaq F) f.n none=Qaq (F.set i Fr.no):=by
 have c:=one.set i Fr.no (fun j n g _ _ _=>Qk8 n)
 funext m
 refine Qvb (fun j=>?_)
 rw[Qa6 c]
 unfold qeu
 by_cases e:m=f.n
 ·rw[if_pos e]
  constructor
  ·intro h;cases h
  ·rintro⟨g,b,a⟩
   rw[List.getElem?_set] at b
   split at b
   ·split at b
    ·cases b;rw[Qk8] at a;cases a
    ·cases b
   ·rename_i d
    subst e
    exact absurd (one i j f.n f g l b hh a) d
 ·rw[if_neg e,Qa6 one]
  constructor
  ·rintro⟨g,b,a⟩
   have k:i≠j:=fun q=>by
    subst q
    rw[l] at b;cases b
    simp only[Fr.has,Bool.and_eq_true,beq_iff_eq] at a
    exact e a.2.symm
   exact⟨g,by rw[List.getElem?_set,if_neg k];exact b,a⟩
  ·rintro⟨g,b,a⟩
   rw[List.getElem?_set] at b
   split at b
   ·split at b
    ·cases b;rw[Qk8] at a;cases a
    ·cases b
   ·exact⟨g,b,a⟩
theorem Qd8 (F:List Fr) (i:Nat) (f:Fr) (hi:i<F.length) :
 (((Qao F).set (i*3) (.pointer (f.pg.map (fun x=>(⟨x.1,0,none⟩:Addr))))).set (i*3+1) (.int .u32 f.n)).set (i*3+2) (.int .u64 f.first)=Qao (F.set i f):=by
 induction F generalizing i with
 | nil=>simp at hi
 | cons g F ih =>
   have hl:g.cells.length=3:=rfl
   cases i with
   | zero=>rfl
   | succ i =>
     have e:∀(l:List Value) (j:Nat) (v:Value),(g.cells++l).set (3+j) v=g.cells++l.set j v:=fun l j v=>by
      rw[List.set_append_right _ _ (by rw[hl];omega),hl,Nat.add_sub_cancel_left]
     show (((g.cells++Qao F).set _ _).set _ _).set _ _=g.cells++Qao (F.set i f)
     rw[show (i+1)*3=3+i*3 by omega,show 3+i*3+1=3+(i*3+1) by omega,show 3+i*3+2=3+(i*3+2) by omega,e,e,e,ih i (by simpa using hi)]
theorem Qse (s:Ck.Clk.St) (i:Int):(Ck.Clk.qc9 s i).n=s.n:=by unfold Ck.Clk.qc9;split <;> rfl
theorem qau.lay {w a:World}{τ:qa1}{bp bf:Nat}{H:qaq}{F:List Fr}{s q:Ck.Clk.St}(h:qau w τ bp bf H F s) {S:Tag->Prop}(r:Step w τ a τ S) (y:¬S qcd) (z:¬S tFr) (B:∀i,¬S (tPg i)) {i:Nat}(hi:i<F.length) (f:Fr)
 (D:qei a τ H.bm qbi H.n (Qaq (F.set i f))) (E:qec a τ H.bc q) (hn:q.n=s.n) (C:∀b P,f.pg=some (b,P)->qag a τ (tPg i) b P) (c:qcn (F.set i f)) (d:∀n,f.has n=true->n<H.n) :
 qau (((a.setCell ⟨bf,i*3,none⟩ (.pointer (f.pg.map (fun x=>(⟨x.1,0,none⟩:Addr))))).setCell ⟨bf,i*3+1,none⟩ (.int .u32 f.n)).setCell ⟨bf,i*3+2,none⟩ (.int .u64 f.first)) τ bp bf H (F.set i f) q /\
 Step a τ (((a.setCell ⟨bf,i*3,none⟩ (.pointer (f.pg.map (fun x=>(⟨x.1,0,none⟩:Addr))))).setCell ⟨bf,i*3+1,none⟩ (.int .u32 f.n)).setCell ⟨bf,i*3+2,none⟩ (.int .u64 f.first)) τ (fun g=>g=tFr):=by
 have p:=h.fr.step r z
 have m:Step a τ (((a.setCell ⟨bf,i*3,none⟩ (.pointer (f.pg.map (fun x=>(⟨x.1,0,none⟩:Addr))))).setCell ⟨bf,i*3+1,none⟩ (.int .u32 f.n)).setCell ⟨bf,i*3+2,none⟩ (.int .u64 f.first)) τ (fun g=>g=tFr) :=
  (((Step.refl a τ (fun g=>g=tFr)).set p.tag rfl _).set p.tag rfl _).set p.tag rfl _
 have k:=((p.set (i*3) (.pointer (f.pg.map (fun x=>(⟨x.1,0,none⟩:Addr))))).set (i*3+1) (.int .u32 f.n)).set (i*3+2) (.int .u64 f.first)
 rw[Qd8 F i f hi] at k
 refine⟨⟨(h.hd.step r y).step m dC,by rw[Y1];exact h.vf,k,?_,D.step m dC,E.step m dC,h.n1,by rw[Y1];exact h.k1,by rw[Y1,hn];exact h.sn,h.st,c,?_⟩,m⟩
 ·intro j b P l
  rw[List.getElem?_set] at l
  by_cases e:i=j
  ·subst e
   rw[if_pos rfl,if_pos hi] at l
   exact(C b P l).step m (by simp[tPg,tFr])
  ·rw[if_neg e] at l
   exact((h.pg j b P l).step r (B j)).step m (by simp[tPg,tFr])
 ·intro j n g o hh
  rw[List.getElem?_set] at o
  by_cases e:i=j
  ·rw[if_pos e,if_pos hi] at o
   cases o
   exact d n hh
  ·rw[if_neg e] at o
   exact h.low j n g o hh
theorem Qkj {w:World}{τ:qa1}{bm:Nat}{g:Tag}{N:Nat}{f:Nat->Option Nat}(i:qei w τ bm g N f) (k:Nat) (j:k<4294967296)
 {ops:Array Oper} {o:Oper} {a:Act} {K:Act->World->Prop} {Q:Exit->Act->World->Prop} {E:Prop} (d:o.guard=none) (m x:Operand)
 (e:o.op = .call {callee:=.builtin .delete,args:=#[m,x],argTypes:=#[154,39]}) (l:a.eval m = .map (some bm)) (n:a.eval x = .int .u32 k)
 (h:∀c,qei c τ bm g N (qeu f k none)->Step w τ c τ (fun t=>t=g)->K (a.put o.dst (.tuple #[])) c):if Region.wanted o (yielded ops a.tmps)=true then Oper.wp Tryz.prog o a w K Q else E:=by
 have p:Region.wanted o (yielded ops a.tmps)=true:=by simp[Region.wanted,d]
 rw[if_pos p]
 obtain⟨c,b,h1,h2⟩:=i.drop k j o.type
 unfold Oper.wp
 simp[execOp,e,resolve,invoke,builtin,l,n,b,Result.andThen]
 exact h _ h1 h2
theorem Qlp {w:World}{τ:qa1}{bp bf:Nat}{H:qaq}{F:List Fr}{s:Ck.Clk.St}(h:qau w τ bp bf H F s) (i:Nat) {f:Fr}{x:Nat×List Int}(L:F[i]?=some f) (hx:f.pg=some x) (h0:f.first=0) (hn:f.n<4294967296) :
 Calls Tryz.prog 165 #[.pointer (some ⟨bp,0,none⟩),.int .i64 i] w fun e w'=>e = .returned (.tuple #[])/\qau w' τ bp bf H (F.set i Fr.no) (Ck.Clk.qc9 s i)/\Step w τ w' τ qb3:=by
 obtain⟨c0,c1,c2⟩:=h.cells L
 rw[hx] at c0
 rw[h0] at c2
 have d2:=h.hd.at 2 rfl
 rw[h.vf] at d2
 have d4:=h.hd.at 4 rfl
 have hi:i<F.length:=(Z4 L).1
 have r:=Qjh h.ck (i:Int)
 have q0:(Qao F)[i*3]?=some (.pointer (some ⟨x.1,0,none⟩)):=by
  have:=h.fr.cell (i*3)
  rw[c0] at this;rw[<-this];rfl
 have q1:(Qao F)[i*3+1]?=some (.int .u32 f.n):=by
  have:=h.fr.cell (i*3+1)
  rw[c1] at this;rw[<-this]
 have q2:(Qao F)[i*3+2]?=some (.int .u64 ((0:Nat):Int)):=by
  have:=h.fr.cell (i*3+2)
  rw[c2] at this;rw[<-this]
 obtain⟨y,z,B⟩:=qan q0 q1 q2
 clear q0 q1 q2
 generalize hl:F.length=k at *
 simp only[Option.map_some] at c0
 obtain⟨M,a,Hf⟩:=qan r h L
 clear r h L
 go_enter Tryz.func165,Tryz.ntmps165
 go_wp2_with fail
 refine M.mono ?_
 rintro e O ⟨rfl,C,d⟩
 have e3:=(a.hd.step d dC).at 3 rfl
 have D:=a.mp.step d dC
 have p:=a.fr.step d dC
 have g1:=p.at (i*3+1) (v:=.int .u32 f.n) (by rw[Qci F i 1 oM oM];obtain⟨_,rfl⟩:=Z4 Hf;rfl)
 obtain⟨R,U,X,Y⟩:=qb9 C d D p
 clear C d D p
 go_wp2_with fail
 go_region_law (first
  | (refine Qkj (X.step (zS O τ).drew id) f.n hn rfl _ _ rfl rfl rfl ?_
     intro w2 E q
     have G:=(Y.step (zS O τ).drew id).step q dC
     obtain⟨Z,I,c⟩:=qan E q G
     clear E q G))
 all_goals (
  have k0:=c.at _ y
  have k1:=c.at _ z
  have k2:=c.at _ B
  have z0:=c.fz (i*3)
  have z1:=c.fz (i*3+1)
  have z2:=c.fz (i*3+2))
 all_goals go_wp2_with fail
 all_goals go_returns
 all_goals (
  have l:Step w τ w2 τ (fun g=>g=qdk\/g=qbi):=(U.mono (T:=fun g=>g=qdk\/g=qbi) (fun _ h=>.inl h)).drew.trans (I.mono (fun _ h=>.inr h))
  have J:f.has f.n=true:=by simp[Fr.has,hx]
  have o:=Z.out
  rw[Qfh a.one Hf J] at o
  obtain⟨hp,a0⟩:=a.lay l dC dC (by simp[tPg,qdk,qbi]) oM Fr.no o ((R.step (zS O τ).drew id).step I dC) (Qse _ _) (fun b P h=>by simp[Fr.no] at h) (qcn.set a.one i Fr.no (fun j n g _ _ _=>Qk8 n)) (fun n h=>by simp[Fr.has,Fr.no] at h)
  exact⟨rfl,hp,(l.mono (T:=qb3) (fun g h=>by rcases h with rfl|rfl;exact .inr (.inr (.inr (.inl rfl)));exact .inr (.inr (.inl rfl)))).trans (a0.mono (fun g h=>.inr (.inl h)))⟩)
theorem Qf4 {F:List Fr}(one:qcn F) {i:Nat}(hi:i<F.length) {f:Fr}(l:F[i]?=some f) (hn:f.pg=none) (g:Fr) (o:g.has g.n=true) (c:Qaq F g.n=none) :
 qcn (F.set i g)/\qeu (Qaq F) g.n (some i)=Qaq (F.set i g):=by
 have d:∀n,f.has n=false:=fun n=>by simp[Fr.has,hn]
 have k:∀n,g.has n=true->n=g.n:=fun n h=>by
  simp only[Fr.has,Bool.and_eq_true,beq_iff_eq] at h;exact h.2.symm
 have b:qcn (F.set i g):=one.set i g (fun j n x hj a hh=>by
  cases p:g.has n with
  | false=>rfl
  | true =>
    have e:=k n p
    subst e
    have:=(Qa6 one g.n j).2 ⟨x,a,hh⟩
    rw[c] at this;cases this)
 refine⟨b,?_⟩
 funext m
 refine Qvb (fun j=>?_)
 rw[Qa6 b]
 unfold qeu
 by_cases e:m=g.n
 ·rw[if_pos e]
  subst e
  constructor
  ·intro h;cases h
   exact⟨g,by rw[List.getElem?_set,if_pos rfl,if_pos hi],o⟩
  ·rintro⟨x,a,hh⟩
   rw[List.getElem?_set] at a
   by_cases q:i=j
   ·rw[q]
   ·rw[if_neg q] at a
    have:=(Qa6 one g.n j).2 ⟨x,a,hh⟩
    rw[c] at this;cases this
 ·rw[if_neg e,Qa6 one]
  constructor
  ·rintro⟨x,a,hh⟩
   have q:i≠j:=fun q=>by
    subst q
    rw[l] at a;cases a
    rw[d] at hh;cases hh
   exact⟨x,by rw[List.getElem?_set,if_neg q];exact a,hh⟩
  ·rintro⟨x,a,hh⟩
   rw[List.getElem?_set] at a
   by_cases q:i=j
   ·rw[if_pos q,if_pos hi] at a
    cases a
    exact absurd (k m hh) e
   ·rw[if_neg q] at a
    exact⟨x,a,hh⟩
theorem Qca {w:World}{τ:qa1}{bm:Nat}{g:Tag}{N:Nat}{f:Nat->Option Nat}(j:qei w τ bm g N f) (l:N<=100000) (k v:Nat) (n:k<N) (hv:v<1000000000)
 {ops:Array Oper} {rest:List Oper} {o:Oper} {a:Act} {Q:Exit->Act->World->Prop} (d:o.guard=none) (m x y:Operand)
 (e:o.op = .mapUpdate 154 m x y) (p:a.eval m = .map (some bm)) (q:a.eval x = .int .u32 k) (r:a.eval y = .int .i64 v)
 (h:∀c,qei c τ bm g N (qeu f k (some v))->Step w τ c τ (fun t=>t=g)->wpList Tryz.prog ops Q rest (a.put o.dst undef) c):wpList Tryz.prog ops Q (o::rest) a w:=by
 refine wpList_plain d fun K' i=>?_
 obtain⟨c,b,h1,h2⟩:=j.store k v l n hv
 unfold Oper.wp
 simp[execOp,e,p,q,r,b,Result.andThen]
 exact i _ _ (h _ h1 h2)
theorem Qkz (s:Ck.Clk.St):(Ck.Clk.qbt s).n=s.n:=by
 unfold Ck.Clk.qbt
 split
 ·rfl
 ·split <;> rfl
theorem qau.clk {w d:World}{τ:qa1}{bp bf:Nat}{H:qaq}{F:List Fr}{s e:Ck.Clk.St}(a:qau w τ bp bf H F s) (g:qec d τ H.bc e) (c:Step w τ d τ (fun t=>t=qdk)) (hn:e.n=s.n):qau d τ bp bf H F e :=
 ⟨a.hd.step c dC,a.vf,a.fr.step c dC,fun i b P h=>(a.pg i b P h).step c (by simp[tPg,qdk]),a.mp.step c dC,g,a.n1,a.k1,by rw[hn];exact a.sn,a.st,a.one,a.low⟩
theorem Qbo {g:Tag}(h:qai g):¬qb3 g:=by
 rcases h with rfl|rfl|rfl <;> simp[qb3,qcd,tFr,qbi,qdk,tPg,qb1,qa5,qa6]
theorem Qbg {g:Tag}(h:qb3 g):¬qah g/\g≠qa2:=by
 rcases h with rfl|rfl|rfl|rfl|⟨i,rfl⟩ <;> simp[qah,qcd,tFr,qbi,qdk,tPg,qa2]
theorem qau.qih {s:Ck.Clk.St}(i:Int):(Ck.Clk.qc7 s i).n=s.n/\(Ck.Clk.qgt s i).n=s.n/\(Ck.Clk.qdc s i).n=s.n/\(Ck.Clk.qe0 s i).n=s.n:=by
 refine⟨?_,?_,?_,?_⟩
 ·unfold Ck.Clk.qc7;split <;> rfl
 ·unfold Ck.Clk.qgt;split <;> rfl
 ·unfold Ck.Clk.qdc;split <;> rfl
 ·unfold Ck.Clk.qe0;split <;> rfl
theorem Qqb (s:Ck.Clk.St) (i:Int):(Ck.Clk.qc7 s i).p=s.p:=by unfold Ck.Clk.qc7;split <;> rfl
theorem Qzy {w:World}{τ:qa1}{bp bf:Nat}{H:qaq}{F:List Fr}{s:Ck.Clk.St}(h:qau w τ bp bf H F s) (n:Nat) (hn:n<H.n) {i:Nat}(D:Qaq F n=some i) {f:Fr}(o:F[i]?=some f) (E:∀k,s.p k<=1000000) :
 Calls Tryz.prog 54 #[.pointer (some ⟨bp,0,none⟩),.int .u32 n] w fun e C=>e = .returned (.tuple #[.pointer (f.pg.map (fun x=>(⟨x.1,0,none⟩:Addr))),.int .u16 0])/\qau C τ bp bf H F (Ck.Clk.qgt (Ck.Clk.qc7 s i) i)/\Step w τ C τ (fun t=>t=qdk):=by
 have h512:=h.n1
 have hil:i<F.length:=(Z4 o).1
 have d1:=h.hd.at 1 rfl
 have d3:=h.hd.at 3 rfl
 have d4:=h.hd.at 4 rfl
 have hwr:=Qb1 H.n oM
 have g:=h.mp.look n oM
 rw[D] at g
 simp only[Option.getD_some,Option.isSome_some] at g
 have h1:=Qgo h.ck (i:Int)
 obtain⟨q,H1,G⟩:=qan h h1 o
 clear h h1 o
 go_enter Tryz.func54,Tryz.ntmps54
 go_wp2_with fail
 refine H1.mono ?_
 rintro e w1 ⟨rfl,j,c⟩
 have b:=q.clk j c (qau.qih _).1
 have e4:=b.hd.at 4 rfl
 have h2:=Qis b.ck (i:Int) (by rw[Qqb];exact E)
 obtain⟨r,y,I⟩:=qan b c h2
 clear b c h2 j
 go_wp2_with fail
 refine I.mono ?_
 rintro e w2 ⟨rfl,l,d⟩
 have a:=r.clk l d (qau.qih _).2.1
 have J:=a.hd.at 2 rfl
 rw[a.vf] at J
 obtain⟨c0,c1,c2⟩:=a.cells G
 generalize hl:F.length=k at *
 obtain⟨z,B⟩:=qaj a d
 clear a d l
 go_wp2_with fail
 go_ret2
 exact⟨rfl,z,y.trans B⟩
theorem Qxd {w:World}{τ:qa1}{bp bf:Nat}{H:qaq}{F:List Fr}{s:Ck.Clk.St}(h:qau w τ bp bf H F s) (n:Nat) (hn:n<4294967296) {i:Nat}(r:Qaq F n=some i) (hi:i<F.length) (x:∀k,s.p k<=1000000) :
 Calls Tryz.prog 56 #[.pointer (some ⟨bp,0,none⟩),.int .u32 n,.int .u64 0] w fun e o=>e = .returned (.bool (decide (Ck.Clk.qfk s i≠0) && Ck.Clk.qdi s i))/\qau o τ bp bf H F (if Ck.Clk.qfk s i=0 then s else Ck.Clk.qdc s i)/\Step w τ o τ (fun t=>t=qdk):=by
 have y:=h.hd.at 2 rfl
 rw[h.vf] at y
 have d3:=h.hd.at 3 rfl
 have d4:=h.hd.at 4 rfl
 have b:=h.mp.look n hn
 rw[r] at b
 simp only[Option.getD_some,Option.isSome_some] at b
 have h1:=Qlw h.ck (i:Int)
 have h2:=Qjg h.ck (i:Int) x
 generalize hq:Ck.Clk.qfk s (i:Int)=q at *
 generalize F.length=k at *
 obtain⟨c,H1,z⟩:=qan h h1 h2
 clear h h1 h2
 by_cases h0:q=0
 ·subst h0
  go_enter Tryz.func56,Tryz.ntmps56
  go_wp2_with fail
  refine zC H1 ?_
  go_wp2_with fail
  go_ret
  exact⟨sM,c,Step.refl _ _ _⟩
 ·have hq0:¬(q:Int)=0:=oM
  go_enter Tryz.func56,Tryz.ntmps56
  go_wp2_with fail
  refine zC H1 ?_
  go_wp2_with fail
  refine z.mono ?_
  rintro e w2 ⟨rfl,d,a⟩
  have g:=c.clk d a (qau.qih _).2.2.1
  obtain⟨j,l⟩:=qaj g a
  clear g a d
  go_wp2_with fail
  go_ret
  exact⟨by simp[],j,l⟩
theorem Qk2 {w:World}{τ:qa1}{bp bf:Nat}{H:qaq}{F:List Fr}{s:Ck.Clk.St}(h:qau w τ bp bf H F s) :
 Calls Tryz.prog 20 #[.pointer (some ⟨bp,0,none⟩)] w fun e a=>e = .returned (.int .i64 H.n)/\w=a:=by
 have d1:=h.hd.at 1 rfl
 clear h
 go_enter Tryz.func20,Tryz.ntmps20
 go_wp2_with fail
 go_ret
 exact⟨rfl,rfl⟩
theorem Qzu (w:World):Calls Tryz.prog 200 #[.int .u64 0] w fun e a=>e = .returned (.int .i64 0)/\w=a:=by
 go_enter Tryz.func200,Tryz.ntmps200
 go_wp2_with fail
 go_ret
 exact⟨kR,rfl⟩
theorem len_0 (w:World):Calls Tryz.prog 155 #[.int .u64 0] w fun e a=>e = .returned (.int .i64 0)/\w=a:=by
 have h1:=Qzu w
 have H1:=Z2 h1
 clear h1
 go_enter Tryz.func155,Tryz.ntmps155
 go_wp2_with fail
 refine zC H1 ?_
 go_wp2_with fail
 go_ret
 exact⟨rfl,rfl⟩
theorem Qn7 (w:World) (f:Value):Calls Tryz.prog 202 #[.slice none 0 0,.int .i64 0,.int .i64 0,f] w fun e a=>e = .returned (.tuple #[])/\w=a:=by
 go_enter Tryz.func202,Tryz.ntmps202
 go_wp2_with fail
 go_loopw [8] (fun v wr=>v = .int .i64 1/\wr=w) (fun _ _=>0)
 case atStart=>exact⟨rfl,rfl⟩
 case round =>
  obtain⟨rfl,rfl⟩:=hrel
  go_wp2_with fail
  go_returns
  exact⟨rfl,rfl⟩
theorem Qzj (w:World) (f:Value):Calls Tryz.prog 159 #[.slice none 0 0,.int .i64 0,.int .i64 0,.int .i64 0,f] w fun e g=>e = .returned (.tuple #[])/\w=g:=by
 have h1:=Qn7 w f
 have H1:=Z2 h1
 clear h1
 go_enter Tryz.func159,Tryz.ntmps159
 go_wp2_with fail
 go_loopw [1,2,3,10,11] (fun a b c d e wr=>a = .int .i64 0/\b = .int .i64 0/\c = .int .i64 0/\d = .bool true/\e = .bool true/\wr=w) (fun _ _ _ _ _ _=>0)
 case atStart=>exact⟨rfl,rfl,rfl,rfl,rfl,rfl⟩
 case round =>
  obtain⟨rfl,rfl,rfl,rfl,rfl,rfl⟩:=hrel
  go_wp2_with fail
  refine zC H1 ?_
  go_wp2_with fail
  go_returns
  exact⟨rfl,rfl⟩
theorem Qw4 (w:World) (f:Value):Calls Tryz.prog 96 #[.slice none 0 0,f] w fun e a=>e = .returned (.tuple #[])/\w=a:=by
 have h1:=len_0 w
 have h2:=Qzj w f
 obtain⟨H1,b⟩:=qaj h1 h2
 clear h1 h2
 go_enter Tryz.func96,Tryz.ntmps96
 go_wp2_with fail
 refine zC H1 ?_
 go_wp2_with fail
 refine zC b ?_
 go_wp2_with fail
 go_returns
 exact⟨rfl,rfl⟩
structure qbz (w:World) (τ:qa1) (bp bf bd:Nat) (H:qaq) (L:qac) (D:Dev) (F:List Fr) (s:Ck.Clk.St):Prop where
 pool:qau w τ bp bf H F s
 log:qaw w τ H.bl bd L
 dev:qax w τ bd D
theorem qbz.step {w e:World}{τ a:qa1}{S:Tag->Prop}{bp bf bd:Nat}{H:qaq}{L:qac}{D:Dev}{F:List Fr}{s:Ck.Clk.St}(h:qbz w τ bp bf bd H L D F s) (m:Step w τ e a S) (c:∀g,S g->¬qb3 g/\¬qai g/\¬qah g/\g≠qa2):qbz e a bp bf bd H L D F s :=
 ⟨h.pool.step m (fun g d b=>(c g b).1 d),h.log.step m (fun g d b=>(c g b).2.1 d),h.dev.step m (fun g b=>(c g b).2.2)⟩
theorem qbz.turn {w b:World}{τ a:qa1}{bp bf bd:Nat}{H:qaq}{L:qac}{D:Dev}{F d:List Fr}{s s':Ck.Clk.St}(h:qbz w τ bp bf bd H L D F s) (e:qau b a bp bf H d s') (m:Step w τ b a qb3):qbz b a bp bf bd H L D d s' :=
 ⟨e,h.log.step m (fun g c=>Qbo c),h.dev.step m (fun g c=>Qbg c)⟩
theorem Qik {s:Ck.Clk.St}(i:Int) (h:∀k,s.p k<=1000000):(∀k,(Ck.Clk.qe0 s i).p k<=1000000)/\(∀k,(Ck.Clk.qc9 s i).p k<=1000000)/\(∀k,(Ck.Clk.qbt s).p k<=1000000)/\(∀k,(Ck.Clk.qc7 s i).p k<=1000000):=by
 refine⟨fun k=>?_,fun k=>?_,fun k=>?_,fun k=>?_⟩
 ·unfold Ck.Clk.qe0
  split
  ·simp only[Ck.Clk.upd];split
   ·omega
   ·exact h k
  ·exact h k
 ·unfold Ck.Clk.qc9
  split <;> exact h k
 ·unfold Ck.Clk.qbt
  split
  ·exact h k
  ·split <;> exact h k
 ·unfold Ck.Clk.qc7
  split <;> exact h k
def Dev.writes (D:Dev) (f a:Nat) (ls:List (List Int)):Nat->Dev
 | 0=>D
 | i+1=>(D.writes f a ls i).write f (a+i) (ls.getD i [])
def Dev.lay (D:Dev) (f a:Nat) (ls:List (List Int)):Dev:=(D.writes f a ls ls.length).sync f
theorem Dev.qcr (D:Dev) (f a:Nat) (b:f<2) (ls:List (List Int)) (i g:Nat):((D.writes f a ls i).file g).length=(D.file g).length:=by
 induction i with
 | zero=>rfl
 | succ i ih =>
   show (((D.writes f a ls i).write f _ _).file g).length=_
   rw[Dev.qfi _ _ _ b];exact ih
theorem Dev.qer {D:Dev}{b:Nat}(h:D.lim b) (f a:Nat) (c:f<2) (ls:List (List Int)) (i:Nat):(D.writes f a ls i).lim (b+i):=by
 induction i with
 | zero=>exact h
 | succ i ih=>exact Dev.qhb ih f _ c _
theorem Dev.qbg (D:Dev) (f a:Nat) (b:f<2) (ls:List (List Int)) (g:Nat):((D.lay f a ls).file g).length=(D.file g).length:=by
 unfold Dev.lay
 rw[Dev.qfy _ _ b,Dev.qcr _ _ _ b]
theorem Dev.qix {D:Dev}{b:Nat}(h:D.lim b) (f a:Nat) (c:f<2) (ls:List (List Int)):(D.lay f a ls).lim (b+ls.length):=Dev.qic (Dev.qer h f a c ls _) f c
structure Dev.Calm (D:Dev):Prop where
 left:D.left=none
 waits:∀(f k:Nat) (s:Sec),(D.file f)[k]?=some s->s.waits=[]
theorem Dev.qgy {D:Dev}(h:D.left=none):D.go=(true,D):=by unfold Dev.go;rw[h]
theorem Dev.qgi {D:Dev}(h:D.left=none) (f k:Nat) (l:List Int):(D.write f k l).left=none:=by
 unfold Dev.write
 rw[Dev.qgy h,if_pos rfl]
 cases (D.file f)[k]? with
 | none=>exact h
 | some s=>show (Dev.put _ _ _).left=none;unfold Dev.put;split <;> (try split) <;> exact h
theorem Dev.qiq {D:Dev}(h:D.left=none) (f:Nat):(D.sync f).left=none:=by
 unfold Dev.sync
 rw[Dev.qgy h,if_pos rfl]
 show (Dev.put _ _ _).left=none;unfold Dev.put;split <;> (try split) <;> exact h
theorem Dev.qh7 {D:Dev}(h:D.left=none) {f:Nat}(c:f<2) (k:Nat) (l:List Int) (g j:Nat):((D.write f k l).file g)[j]?=if g=f/\j=k then (D.file g)[j]?.map (fun s=>s.add l) else (D.file g)[j]?:=by
 unfold Dev.write
 rw[Dev.qgy h,if_pos rfl]
 cases b:(D.file f)[k]? with
 | none =>
   show (D.file g)[j]?=_
   by_cases e:g=f/\j=k
   ·rw[if_pos e,e.1,e.2,b];rfl
   ·rw[if_neg e]
 | some s =>
   show ((Dev.put D f _).file g)[j]?=_
   rw[Dev.qdv _ _ c]
   by_cases a:g=f
   ·rw[if_pos a]
    by_cases e:j=k
    ·rw[if_pos ⟨a,e⟩,e,a,b,List.getElem?_set_self (Z4 b).1];rfl
    ·rw[if_neg (fun q=>e q.2),List.getElem?_set_ne (fun q=>e q.symm),a]
   ·rw[if_neg a,if_neg (fun q=>a q.1)]
theorem Dev.qi7 {D:Dev}(h:D.left=none) {f:Nat}(b:f<2) (g j:Nat):((D.sync f).file g)[j]?=if g=f then (D.file g)[j]?.map Sec.sync else (D.file g)[j]?:=by
 unfold Dev.sync
 rw[Dev.qgy h,if_pos rfl]
 show ((Dev.put D f _).file g)[j]?=_
 rw[Dev.qdv _ _ b]
 by_cases a:g=f
 ·rw[if_pos a,if_pos a,List.getElem?_map,a]
 ·rw[if_neg a,if_neg a]
theorem Sec.qii (s:Sec) (l:List Int):(s.add l).newest=l:=by
 show (s.waits++[l]).getLastD s.last=l
 rw[List.getLastD_eq_getLast?,List.getLast?_append];rfl
theorem Dev.qgn {D:Dev}(h:D.left=none) {f:Nat}(a:f<2) {k:Nat}(b:k<(D.file f).length) (l:List Int) (g j:Nat):(D.write f k l).last g j=if g=f/\j=k then l else D.last g j:=by
 unfold Dev.last
 rw[Dev.qh7 h a]
 by_cases e:g=f/\j=k
 ·rw[if_pos e,if_pos e,e.1,e.2,Z3 b]
  show (Sec.add _ l).newest=l
  exact Sec.qii _ _
 ·rw[if_neg e,if_neg e]
theorem Dev.qhc {D:Dev}(h:D.left=none) {f:Nat}(a:f<2) (g j:Nat):(D.sync f).last g j=D.last g j:=by
 unfold Dev.last
 rw[Dev.qi7 h a]
 by_cases e:g=f
 ·rw[if_pos e]
  cases (D.file g)[j]? with
  | none=>rfl
  | some s=>rfl
 ·rw[if_neg e]
theorem Dev.qdo {D:Dev}(h:D.left=none) (f a:Nat) (ls:List (List Int)) (i:Nat):(D.writes f a ls i).left=none:=by
 induction i with
 | zero=>exact h
 | succ i ih=>exact Dev.qgi ih _ _ _
theorem Dev.qjd {D:Dev}(h:D.left=none) (f a:Nat) (ls:List (List Int)):(D.lay f a ls).left=none:=Dev.qiq (Dev.qdo h _ _ _ _) _
theorem Dev.qhv {D:Dev}(h:D.left=none) {f:Nat}(c:f<2) (a:Nat) (ls:List (List Int)) (i:Nat) (hi:a+i<=(D.file f).length) (g j:Nat):(D.writes f a ls i).last g j=if g=f/\a<=j/\j<a+i then ls.getD (j-a) [] else D.last g j:=by
 induction i with
 | zero=>rw[if_neg oM];rfl
 | succ i ih =>
   show ((D.writes f a ls i).write f (a+i) (ls.getD i [])).last g j=_
   rw[Dev.qgn (Dev.qdo h _ _ _ _) c (by rw[Dev.qcr _ _ _ c];omega),ih oM]
   by_cases e:g=f/\j=a+i
   ·rw[if_pos e,if_pos ⟨e.1,oM,oM⟩,e.2,Nat.add_sub_cancel_left]
   ·rw[if_neg e]
    by_cases b:g=f/\a<=j/\j<a+i
    ·rw[if_pos b,if_pos ⟨b.1,b.2.1,oM⟩]
    ·rw[if_neg b,if_neg oM]
theorem Dev.qet {D:Dev}(h:D.left=none) {f:Nat}(b:f<2) (a:Nat) (ls:List (List Int)) (hi:a+ls.length<=(D.file f).length) (g j:Nat):(D.lay f a ls).last g j=if g=f/\a<=j/\j<a+ls.length then ls.getD (j-a) [] else D.last g j:=by
 unfold Dev.lay
 rw[Dev.qhc (Dev.qdo h _ _ _ _) b,Dev.qhv h b a ls _ hi]
theorem Dev.qh6 {D:Dev}(h:D.left=none) {f:Nat}(b:f<2) (a:Nat) (ls:List (List Int)) (i g:Nat) (c:g≠f) (j:Nat):((D.writes f a ls i).file g)[j]?=(D.file g)[j]?:=by
 induction i with
 | zero=>rfl
 | succ i ih =>
   show (((D.writes f a ls i).write f _ _).file g)[j]?=_
   rw[Dev.qh7 (Dev.qdo h _ _ _ _) b,if_neg (fun q=>c q.1)];exact ih
theorem Dev.Calm.lay {D:Dev}(h:D.Calm) {f:Nat}(c:f<2) (a:Nat) (ls:List (List Int)):(D.lay f a ls).Calm:=by
 refine⟨Dev.qjd h.left _ _ _,fun g k s b=>?_⟩
 unfold Dev.lay at b
 rw[Dev.qi7 (Dev.qdo h.left _ _ _ _) c] at b
 by_cases e:g=f
 ·rw[if_pos e] at b
  obtain⟨s',_,rfl⟩:=Option.map_eq_some_iff.1 b
  rfl
 ·rw[if_neg e,Dev.qh6 h.left c _ _ _ _ e] at b
  exact h.waits g k s b
theorem Dev.Calm.lim {D:Dev}(h:D.Calm) (b:Nat):D.lim b:=fun f k s a=>by rw[h.waits f k s a];exact Z9 _
theorem Qm0 {D E:Dev}{n m:Nat}(h:∀i,i<4->D.last 1 (4*n+i)=E.last 1 (4*m+i)):qap D n 4=qap E m 4:=by
 unfold qap
 refine List.map_congr_left (fun k a=>h k (List.mem_range.1 a))
theorem Qmz {D:Dev}(h:D.left=none) (n:Nat) (ls:List (List Int)) (hl:ls.length=4) (hi:4*n+4<=D.f1.length) (m:Nat):qap (D.lay 1 (4*n) ls) m 4=if m=n then ls else qap D m 4:=by
 have a:=fun j=>Dev.qet h (f:=1) oM (4*n) ls (by rw[hl];exact hi) 1 j
 by_cases e:m=n
 ·rw[if_pos e]
  apply List.ext_getElem?
  intro i
  by_cases b:i<4
  ·have c:(qap (D.lay 1 (4*n) ls) m 4)[i]?=some ((D.lay 1 (4*n) ls).last 1 (4*m+i)):=by
    unfold qap
    rw[List.getElem?_map,List.getElem?_range b];rfl
   rw[c,a,if_pos ⟨rfl,oM,oM⟩,show 4*m+i-4*n=i by omega,Z5,Z3 oM];rfl
  ·rw[List.getElem?_eq_none (by rw[Qbe];omega),List.getElem?_eq_none oM]
 ·rw[if_neg e]
  refine Qm0 (fun i b=>?_)
  rw[a,if_neg oM]
theorem Qq8 {D:Dev}(h:D.left=none) (a:Nat) (ls:List (List Int)) (hi:a+ls.length<=D.f0.length) (m:Nat):qap (D.lay 0 a ls) m 4=qap D m 4 :=
 Qm0 (fun i _=>by rw[Dev.qet h (f:=0) oM a ls hi,if_neg oM])
end Go.Proofs.YtociicnopccppaaGreat
namespace Go.Proofs.YtociicnopccppaaGreat
open Go.RowKit
open Ck.Clk
