/-
 Pools: load of a page that was never written.
-/
import Derived.Test.YtemacanaihaldaaGreatMPoolC
set_option maxRecDepth 100000
set_option linter.all false
namespace Go.Proofs.YtemacanaihaldaaGreat
open Go.RowKit
def blank:List (List Int):=List.replicate 4 Qff
theorem Qj2:Qb3 blank=true:=by decide +kernel
theorem Qub:Qjt blank=zeros448:=by decide +kernel
theorem Qoj:pageNumber (emptyPage 0)=0:=by decide +kernel
theorem Qtv:pageLSN (emptyPage 0)=0:=by decide +kernel
theorem Qea:∀n,n<4294967296->pageCount (emptyPage n)=0:=by
 intro n hn
 have e:pageN (emptyPage n) 12 2=leN (((emptyPage n).drop 12).take 2) 2:=rfl
 have h:((emptyPage n).drop 12).take 2=[0,0]:=by
  unfold emptyPage layN
  have b:(leB n 4).length=4:=Qaa n 4
  have h2:(leB 448 2).length=2:=Qaa 448 2
  rw[b,h2]
  apply List.ext_getElem?
  intro i
  have d:zeros448.length=448:=Z7
  by_cases hi:i<2
  ·rw[List.getElem?_take,if_pos hi,List.getElem?_drop]
   rw[X0,Y5 (by simp only[List.length_take,Z6,List.length_drop,b,d];omega),List.getElem?_take,if_pos (by omega)]
   rw[X0,Y6 (by simp only[List.length_take,d];omega),List.length_take,d]
   rw[Y6 (by rw[b];omega),b,List.getElem?_drop]
   unfold zeros448
   rw[List.getElem?_replicate,if_pos (by omega)]
   have:i=0\/i=1:=by omega
   rcases this with rfl|rfl <;> rfl
  ·rw[List.getElem?_eq_none (by rw[List.length_take];omega),List.getElem?_eq_none (by simp;omega)]
 show pageN (emptyPage n) 12 2=0
 rw[e,h];rfl
theorem Qps (n:Nat) (hn:n<4294967296):Fit (emptyPage n) :=
 ⟨by rw[Qea n hn];omega,fun s=>by unfold pOff pLen;rw[Qea n hn,if_neg (by omega),if_neg (by omega)];omega⟩
theorem Qrj (n:Nat) (hn:n<4294967296):Qab (emptyPage n)=[]:=by
 unfold Qab;rw[Qea n hn];rfl
theorem Qld {w:World}{τ:Tags}{bp bd:Nat}{H:PoolH}{L:LogM}{D:Dev}(h:Qji w τ bp H) (hl:LogAt w τ H.bl bd L) (hd:DevAt w τ bd D) (n:Nat) (hn:4*n+4<=D.f1.length) (hz:lastTo D n 4=blank) (g:Tag) :
 Calls Tryz.prog 134 #[.pointer (some ⟨bp,0,none⟩),.int .u32 (n:Int)] w fun e F=>∃b l,e = .returned (.tuple #[.pointer (some ⟨b,0,none⟩),.int .u16 0])/\w.heap.size<=b/\PageAt F l g b (emptyPage n)/\Step w τ F l nil:=by
 have h1:=Qfi h hl hd n hn
 have m:=hd.length 1
 have I:D.file 1=D.f1:=rfl
 rw[I] at m
 rw[hz] at h1
 have k:blank.length=4:=rfl
 generalize hbl:blank=ls at h1 k
 obtain⟨H1,o,J⟩:=hid3 h1 hbl k
 clear h1 hbl k h hl hd hz
 go_enter Tryz.func134,Tryz.ntmps134
 go_wp2_with fail
 refine H1.out.mono ?_
 rintro e w1 ⟨v,τ1,rfl,M,q⟩
 have h2:=Qnz M.row tData J.out
 obtain⟨p,c,rfl⟩:=M.val
 obtain⟨H2,N⟩:=hid2 h2 q
 clear h2 q H1 M
 go_wp2_with fail
 refine H2.out.mono ?_
 rintro e w2 ⟨τ2,r,hq⟩
 have s:Qb3 ls=true:=by rw[<-o.out];exact Qj2
 rcases hq with ⟨-,u,rfl,G⟩|⟨x,-⟩
 ·rw[<-o.out,Qub] at G
  have h3:=Qns (g:=tOut) G
  obtain⟨pu,cu,rfl,-,-⟩:=G.any
  obtain⟨H3,O⟩:=hid2 h3 r
  clear h3 r s H2 G
  go_wp2_with fail
  refine H3.out.mono ?_
  rintro e w3 ⟨b0,τ3,rfl,hlow3,d,y⟩
  have R:=Qg5 d
  have U:=Qhe d
  have X:=Qfl d (Qps 0 (by omega))
  rw[Qoj] at R
  rw[Qtv] at U
  rw[Qrj 0 (by omega)] at X
  obtain⟨H4,H5,H6,Y⟩:=hid4 R U X y
  clear R U X y d H3
  go_wp2_with fail
  refine H4.out.mono ?_
  rintro e F ⟨rfl,rfl⟩
  go_wp2_with fail
  refine H5.out.mono ?_
  rintro e F ⟨rfl,rfl⟩
  go_wp2_with fail
  refine H6.out.mono ?_
  rintro e w4 ⟨v4,Z,rfl,z,B⟩
  obtain⟨p4,c4,rfl⟩:=z.val
  have h7:=Qk3 w4 Z g n (by omega)
  obtain⟨H7,a1⟩:=hid2 h7 B
  clear h7 B H6 z
  go_wp2_with fail
  refine H7.out.mono ?_
  rintro e w5 ⟨b,a6,rfl,i,d,C⟩
  obtain⟨a7,a8,E⟩:=hid3 d C i
  clear d C i
  go_wp2_with fail
  go_ret2
  have j:=((N.out.trans O.out).trans Y.out).trans a1.out
  exact⟨b,a6,rfl,Y3 j.size E.out,a7.out,j.trans a8.out⟩
 ·rw[s] at x;cases x
theorem PoolAt.cells {w:World}{τ:Tags}{bp bf:Nat}{H:PoolH}{F:List Fr}{s:Ck.Clk.St}(h:PoolAt w τ bp bf H F s) {i:Nat}{f:Fr}(b:F[i]?=some f) :
 w.cell? ⟨bf,i*3,none⟩=some (.pointer (f.pg.map (fun x=>(⟨x.1,0,none⟩:Addr))))/\w.cell? ⟨bf,i*3+1,none⟩=some (.int .u32 (f.n:Int))/\w.cell? ⟨bf,i*3+2,none⟩=some (.int .u64 (f.first:Int)):=by
 obtain⟨hi,rfl⟩:=Z4 b
 refine⟨?_,?_,?_⟩
 ·have:=Qci F i 0 (by omega) hi
  exact h.fr.at (i*3) (by rw[Nat.add_zero] at this;rw[this];rfl)
 ·exact h.fr.at (i*3+1) (by rw[Qci F i 1 (by omega) hi];rfl)
 ·exact h.fr.at (i*3+2) (by rw[Qci F i 2 (by omega) hi];rfl)
theorem Qm3 {w:World}{τ:Tags}{bp bf:Nat}{H:PoolH}{F:List Fr}{s:Ck.Clk.St}(h:PoolAt w τ bp bf H F s) (i:Nat) {f:Fr}(b:F[i]?=some f) (hn:f.pg=none) :
 Calls Tryz.prog 133 #[.pointer (some ⟨bp,0,none⟩),.int .i64 (i:Int)] w fun e d=>e = .returned (.tuple #[])/\w=d:=by
 obtain⟨c0,-,-⟩:=h.cells b
 rw[hn] at c0
 have c1:=h.hd.at 2 (v:=H.vf) rfl
 rw[h.vf] at c1
 have hk:=h.k1
 have hi:i<F.length:=(Z4 b).1
 generalize F.length=k at *
 simp only[Option.map_none] at c0
 clear h b hn
 go_enter Tryz.func133,Tryz.ntmps133
 go_wp2_with fail
 go_returns
 exact⟨rfl,rfl⟩
def OneHas (F:List Fr):Prop:=∀(i j n:Nat) (f g:Fr),F[i]?=some f->F[j]?=some g->f.has n=true->g.has n=true->i=j
theorem Qa6 {F:List Fr}(one:OneHas F) (n i:Nat):Qaq F n=some i↔∃f,F[i]?=some f/\f.has n=true:=by
 unfold Qaq
 constructor
 ·intro h
  obtain⟨hi,h1,-⟩:=List.findIdx?_eq_some_iff_getElem.1 h
  exact⟨_,Z3 hi,h1⟩
 ·rintro⟨f,b,hh⟩
  obtain⟨hi,rfl⟩:=Z4 b
  refine List.findIdx?_eq_some_iff_getElem.2 ⟨hi,hh,fun j hj=>?_⟩
  intro d
  have:=one j i n F[j] F[i] (Z3 (by omega)) b d hh
  omega
theorem OneHas.set {F:List Fr}(one:OneHas F) (i:Nat) (f:Fr) (m:∀(j n:Nat) (g:Fr),j≠i->F[j]?=some g->g.has n=true->f.has n=false):OneHas (F.set i f):=by
 intro a b n x y h d h1 h2
 rw[List.getElem?_set] at h d
 by_cases l:i=a
 ·by_cases k:i=b
  ·rw[<-l,<-k]
  ·rw[if_pos l] at h
   rw[if_neg k] at d
   split at h
   ·cases h
    have:=m b n y (fun e=>k e.symm) d h2
    rw[h1] at this;cases this
   ·cases h
 ·rw[if_neg l] at h
  by_cases k:i=b
  ·rw[if_pos k] at d
   split at d
   ·cases d
    have:=m a n x (fun e=>l e.symm) h h1
    rw[h2] at this;cases this
   ·cases d
  ·rw[if_neg k] at d
   exact one a b n x y h d h1 h2
theorem Qk8 (n:Nat):Fr.no.has n=false:=rfl
theorem Qvb {a b:Option Nat}(h:∀i,a=some i↔b=some i):a=b:=by
 cases a with
 | none=>cases b with
   | none=>rfl
   | some x=>exact((h x).2 rfl)
 | some x=>exact((h x).1 rfl).symm
theorem Qfh {F:List Fr}(one:OneHas F) {i:Nat}{f:Fr}(p:F[i]?=some f) (hh:f.has f.n=true):updO (Qaq F) f.n none=Qaq (F.set i Fr.no):=by
 have k:=one.set i Fr.no (fun j n g _ _ _=>Qk8 n)
 funext m
 refine Qvb (fun j=>?_)
 rw[Qa6 k]
 unfold updO
 by_cases e:m=f.n
 ·rw[if_pos e]
  constructor
  ·intro h;cases h
  ·rintro⟨g,d,b⟩
   rw[List.getElem?_set] at d
   split at d
   ·split at d
    ·cases d;rw[Qk8] at b;cases b
    ·cases d
   ·rename_i l
    subst e
    exact absurd (one i j f.n f g p d hh b) l
 ·rw[if_neg e,Qa6 one]
  constructor
  ·rintro⟨g,d,b⟩
   have o:i≠j:=fun q=>by
    subst q
    rw[p] at d;cases d
    simp only[Fr.has,Bool.and_eq_true,beq_iff_eq] at b
    exact e b.2.symm
   exact⟨g,by rw[List.getElem?_set,if_neg o];exact d,b⟩
  ·rintro⟨g,d,b⟩
   rw[List.getElem?_set] at d
   split at d
   ·split at d
    ·cases d;rw[Qk8] at b;cases b
    ·cases d
   ·exact⟨g,d,b⟩
theorem Qd8 (F:List Fr) (i:Nat) (f:Fr) (hi:i<F.length) :
 (((Qao F).set (i*3) (.pointer (f.pg.map (fun x=>(⟨x.1,0,none⟩:Addr))))).set (i*3+1) (.int .u32 (f.n:Int))).set (i*3+2) (.int .u64 (f.first:Int))=Qao (F.set i f):=by
 induction F generalizing i with
 | nil=>simp at hi
 | cons g F ih =>
   have hl:g.cells.length=3:=rfl
   cases i with
   | zero=>rfl
   | succ i =>
     have e:∀(l:List Value) (j:Nat) (v:Value),(g.cells++l).set (3+j) v=g.cells++l.set j v:=fun l j v=>by
      rw[List.set_append_right _ _ (by rw[hl];omega),hl,Nat.add_sub_cancel_left]
     show (((g.cells++Qao F).set _ _).set _ _).set _ _=g.cells++Qao (F.set i f)
     rw[show (i+1)*3=3+i*3 by omega,show 3+i*3+1=3+(i*3+1) by omega,show 3+i*3+2=3+(i*3+2) by omega,e,e,e,ih i (by simpa using hi)]
theorem Qse (s:Ck.Clk.St) (i:Int):(Ck.Clk.leaveS s i).n=s.n:=by unfold Ck.Clk.leaveS;split <;> rfl
theorem PoolAt.lay {w d:World}{τ:Tags}{bp bf:Nat}{H:PoolH}{F:List Fr}{s y:Ck.Clk.St}(h:PoolAt w τ bp bf H F s) {S:Tag->Prop}(z:Step w τ d τ S) (B:¬S tPool) (C:¬S tFr) (D:∀i,¬S (tPg i)) {i:Nat}(hi:i<F.length) (f:Fr)
 (G:MapIs d τ H.bm tWhere H.n (Qaq (F.set i f))) (I:ClkAt d τ H.bc y) (hn:y.n=s.n) (E:∀b P,f.pg=some (b,P)->PageAt d τ (tPg i) b P) (k:OneHas (F.set i f)) (l:∀n,f.has n=true->n<H.n) :
 PoolAt (((d.setCell ⟨bf,i*3,none⟩ (.pointer (f.pg.map (fun x=>(⟨x.1,0,none⟩:Addr))))).setCell ⟨bf,i*3+1,none⟩ (.int .u32 (f.n:Int))).setCell ⟨bf,i*3+2,none⟩ (.int .u64 (f.first:Int))) τ bp bf H (F.set i f) y /\
 Step d τ (((d.setCell ⟨bf,i*3,none⟩ (.pointer (f.pg.map (fun x=>(⟨x.1,0,none⟩:Addr))))).setCell ⟨bf,i*3+1,none⟩ (.int .u32 (f.n:Int))).setCell ⟨bf,i*3+2,none⟩ (.int .u64 (f.first:Int))) τ (fun g=>g=tFr):=by
 have r:=h.fr.step z C
 have m:Step d τ (((d.setCell ⟨bf,i*3,none⟩ (.pointer (f.pg.map (fun x=>(⟨x.1,0,none⟩:Addr))))).setCell ⟨bf,i*3+1,none⟩ (.int .u32 (f.n:Int))).setCell ⟨bf,i*3+2,none⟩ (.int .u64 (f.first:Int))) τ (fun g=>g=tFr) :=
  (((Step.refl d τ (fun g=>g=tFr)).set r.tag rfl _).set r.tag rfl _).set r.tag rfl _
 have o:=((r.set (i*3) (.pointer (f.pg.map (fun x=>(⟨x.1,0,none⟩:Addr))))).set (i*3+1) (.int .u32 (f.n:Int))).set (i*3+2) (.int .u64 (f.first:Int))
 rw[Qd8 F i f hi] at o
 refine⟨⟨(h.hd.step z B).step m (by decide),by rw[Y1];exact h.vf,o,?_,G.step m (by decide),I.step m (by decide),h.n1,by rw[Y1];exact h.k1,by rw[Y1,hn];exact h.sn,h.st,k,?_⟩,m⟩
 ·intro j b P p
  rw[List.getElem?_set] at p
  by_cases e:i=j
  ·subst e
   rw[if_pos rfl,if_pos hi] at p
   exact(E b P p).step m (by simp[tPg,tFr])
  ·rw[if_neg e] at p
   exact((h.pg j b P p).step z (D j)).step m (by simp[tPg,tFr])
 ·intro j n g q hh
  rw[List.getElem?_set] at q
  by_cases e:i=j
  ·rw[if_pos e,if_pos hi] at q
   cases q
   exact l n hh
  ·rw[if_neg e] at q
   exact h.low j n g q hh
theorem Qkj {w:World}{τ:Tags}{bm:Nat}{g:Tag}{N:Nat}{f:Nat->Option Nat}(j:MapIs w τ bm g N f) (k:Nat) (hk:k<4294967296)
 {ops:Array Oper} {o:Oper} {a:Act} {K:Act->World->Prop} {Q:Exit->Act->World->Prop} {E:Prop} (e:o.guard=none) (m x:Operand)
 (i:o.op = .call {callee:=.builtin .delete,args:=#[m,x],argTypes:=#[136,36]}) (l:a.eval m = .map (some bm)) (p:a.eval x = .int .u32 (k:Int))
 (h:∀d,MapIs d τ bm g N (updO f k none)->Step w τ d τ (fun t=>t=g)->K (a.put o.dst (.tuple #[])) d):if Region.wanted o (yielded ops a.tmps)=true then Oper.wp Tryz.prog o a w K Q else E:=by
 have q:Region.wanted o (yielded ops a.tmps)=true:=by simp[Region.wanted,e]
 rw[if_pos q]
 obtain⟨d,b,h1,h2⟩:=j.drop k hk o.type
 unfold Oper.wp
 simp[execOp,i,resolve,invoke,builtin,l,p,b,Result.andThen]
 exact h _ h1 h2
theorem Qlp {w:World}{τ:Tags}{bp bf:Nat}{H:PoolH}{F:List Fr}{s:Ck.Clk.St}(h:PoolAt w τ bp bf H F s) (i:Nat) {f:Fr}{x:Nat×List Int}(M:F[i]?=some f) (hx:f.pg=some x) (h0:f.first=0) (hn:f.n<4294967296) :
 Calls Tryz.prog 133 #[.pointer (some ⟨bp,0,none⟩),.int .i64 (i:Int)] w fun e w'=>e = .returned (.tuple #[])/\PoolAt w' τ bp bf H (F.set i Fr.no) (Ck.Clk.leaveS s i)/\Step w τ w' τ PoolTag:=by
 obtain⟨c0,c1,c2⟩:=h.cells M
 rw[hx] at c0
 rw[h0] at c2
 have d2:=h.hd.at 2 (v:=H.vf) rfl
 rw[h.vf] at d2
 have d3:=h.hd.at 3 (v:=.map (some H.bm)) rfl
 have d4:=h.hd.at 4 (v:=.pointer (some ⟨H.bc,0,none⟩)) rfl
 have hk:=h.k1
 have hi:i<F.length:=(Z4 M).1
 have y:=Qjh h.ck (i:Int)
 have q0:(Qao F)[i*3]?=some (.pointer (some ⟨x.1,0,none⟩)):=by
  have:=h.fr.cell (i*3)
  rw[c0] at this;rw[<-this];rfl
 have q1:(Qao F)[i*3+1]?=some (.int .u32 (f.n:Int)):=by
  have:=h.fr.cell (i*3+1)
  rw[c1] at this;rw[<-this]
 have q2:(Qao F)[i*3+2]?=some (.int .u64 ((0:Nat):Int)):=by
  have:=h.fr.cell (i*3+2)
  rw[c2] at this;rw[<-this]
 obtain⟨z,B,C⟩:=hid3 q0 q1 q2
 clear q0 q1 q2
 generalize hl:F.length=k at *
 simp only[Option.map_some] at c0
 obtain⟨N,d,Hf⟩:=hid3 y h M
 clear y h M
 go_enter Tryz.func133,Tryz.ntmps133
 go_wp2_with fail
 refine N.out.mono ?_
 rintro e O ⟨rfl,D,l⟩
 have e2:=(d.out.hd.step l (by decide)).at 2 (v:=H.vf) rfl
 rw[d.out.vf,hl] at e2
 have e3:=(d.out.hd.step l (by decide)).at 3 (v:=.map (some H.bm)) rfl
 have E:=d.out.mp.step l (by decide)
 have q:=d.out.fr.step l (by decide)
 have g1:=q.at (i*3+1) (v:=.int .u32 (f.n:Int)) (by rw[Qci F i 1 (by omega) (by omega)];obtain⟨_,rfl⟩:=Z4 Hf.out;rfl)
 obtain⟨R,U,X,Y⟩:=hid4 D l E q
 clear D l E q
 go_wp2_with fail
 go_region_law (first
  | (refine Qkj (X.out.step (Step.refl O τ nil).drew (fun h=>h)) f.n hn rfl _ _ rfl rfl rfl ?_
     intro w2 G r
     have I:=(Y.out.step (Step.refl O τ nil).drew (fun h=>h)).step r (by decide)
     obtain⟨Z,J,m⟩:=hid3 G r I
     clear G r I))
 all_goals (
  have k0:=m.out.at _ z.out
  have k1:=m.out.at _ B.out
  have k2:=m.out.at _ C.out
  have z0:=m.out.fz (i*3)
  have z1:=m.out.fz (i*3+1)
  have z2:=m.out.fz (i*3+2))
 all_goals go_wp2_with fail
 all_goals go_returns
 all_goals (
  have o:Step w τ w2 τ (fun g=>g=tClk\/g=tWhere):=(U.out.mono (T:=fun g=>g=tClk\/g=tWhere) (fun _ h=>.inl h)).drew.trans (J.out.mono (fun _ h=>.inr h))
  have L:f.has f.n=true:=by simp[Fr.has,hx]
  have p:=Z.out
  rw[Qfh d.out.one Hf.out L] at p
  obtain⟨hp,a1⟩:=d.out.lay o (by decide) (by decide) (by simp[tPg,tClk,tWhere]) (by omega) Fr.no p ((R.out.step (Step.refl O τ nil).drew (fun h=>h)).step J.out (by decide)) (Qse _ _) (fun b P h=>by simp[Fr.no] at h) (OneHas.set d.out.one i Fr.no (fun j n g _ _ _=>Qk8 n)) (fun n h=>by simp[Fr.has,Fr.no] at h)
  exact⟨rfl,hp,(o.mono (T:=PoolTag) (fun g h=>by rcases h with rfl|rfl;exact .inr (.inr (.inr (.inl rfl)));exact .inr (.inr (.inl rfl)))).trans (a1.mono (fun g h=>.inr (.inl h)))⟩)
theorem Qf4 {F:List Fr}(one:OneHas F) {i:Nat}(hi:i<F.length) {f:Fr}(p:F[i]?=some f) (hn:f.pg=none) (g:Fr) (r:g.has g.n=true) (k:Qaq F g.n=none) :
 OneHas (F.set i g)/\updO (Qaq F) g.n (some i)=Qaq (F.set i g):=by
 have l:∀n,f.has n=false:=fun n=>by simp[Fr.has,hn]
 have o:∀n,g.has n=true->n=g.n:=fun n h=>by
  simp only[Fr.has,Bool.and_eq_true,beq_iff_eq] at h;exact h.2.symm
 have d:OneHas (F.set i g):=one.set i g (fun j n x hj b hh=>by
  cases s:g.has n with
  | false=>rfl
  | true =>
    have e:=o n s
    subst e
    have:=(Qa6 one g.n j).2 ⟨x,b,hh⟩
    rw[k] at this;cases this)
 refine⟨d,?_⟩
 funext m
 refine Qvb (fun j=>?_)
 rw[Qa6 d]
 unfold updO
 by_cases e:m=g.n
 ·rw[if_pos e]
  subst e
  constructor
  ·intro h;cases h
   exact⟨g,by rw[List.getElem?_set,if_pos rfl,if_pos hi],r⟩
  ·rintro⟨x,b,hh⟩
   rw[List.getElem?_set] at b
   by_cases q:i=j
   ·rw[q]
   ·rw[if_neg q] at b
    have:=(Qa6 one g.n j).2 ⟨x,b,hh⟩
    rw[k] at this;cases this
 ·rw[if_neg e,Qa6 one]
  constructor
  ·rintro⟨x,b,hh⟩
   have q:i≠j:=fun q=>by
    subst q
    rw[p] at b;cases b
    rw[l] at hh;cases hh
   exact⟨x,by rw[List.getElem?_set,if_neg q];exact b,hh⟩
  ·rintro⟨x,b,hh⟩
   rw[List.getElem?_set] at b
   by_cases q:i=j
   ·rw[if_pos q,if_pos hi] at b
    cases b
    exact absurd (o m hh) e
   ·rw[if_neg q] at b
    exact⟨x,b,hh⟩
theorem Qca {w:World}{τ:Tags}{bm:Nat}{g:Tag}{N:Nat}{f:Nat->Option Nat}(l:MapIs w τ bm g N f) (p:N<=100000) (k v:Nat) (hk:k<N) (q:v<1000000000)
 {ops:Array Oper} {rest:List Oper} {o:Oper} {a:Act} {Q:Exit->Act->World->Prop} (e:o.guard=none) (m x y:Operand)
 (i:o.op = .mapUpdate 136 m x y) (r:a.eval m = .map (some bm)) (s:a.eval x = .int .u32 (k:Int)) (z:a.eval y = .int .i64 (v:Int))
 (h:∀d,MapIs d τ bm g N (updO f k (some v))->Step w τ d τ (fun t=>t=g)->wpList Tryz.prog ops Q rest (a.put o.dst undef) d):wpList Tryz.prog ops Q (o::rest) a w:=by
 refine wpList_plain e fun K' j=>?_
 obtain⟨d,b,h1,h2⟩:=l.store k v p hk q
 unfold Oper.wp
 simp[execOp,i,r,s,z,b,Result.andThen]
 exact j _ _ (h _ h1 h2)
theorem Qkz (s:Ck.Clk.St):(Ck.Clk.pickS s).n=s.n:=by
 unfold Ck.Clk.pickS
 split
 ·rfl
 ·split <;> rfl
theorem PoolAt.clk {w h:World}{τ:Tags}{bp bf:Nat}{H:PoolH}{F:List Fr}{s j:Ck.Clk.St}(d:PoolAt w τ bp bf H F s) (k:ClkAt h τ H.bc j) (e:Step w τ h τ (fun t=>t=tClk)) (hn:j.n=s.n):PoolAt h τ bp bf H F j :=
 ⟨d.hd.step e (by decide),d.vf,d.fr.step e (by decide),fun i b P l=>(d.pg i b P l).step e (by simp[tPg,tClk]),d.mp.step e (by decide),k,d.n1,d.k1,by rw[hn];exact d.sn,d.st,d.one,d.low⟩
theorem Qbo {g:Tag}(h:LogTag g):¬PoolTag g:=by
 rcases h with rfl|rfl|rfl <;> simp[PoolTag,tPool,tFr,tWhere,tClk,tPg,tLog,Qah,Qag]
theorem Qbg {g:Tag}(h:PoolTag g):¬DevTag g/\g≠tData:=by
 rcases h with rfl|rfl|rfl|rfl|⟨i,rfl⟩ <;> simp[DevTag,tPool,tFr,tWhere,tClk,tPg,tData]
theorem PoolAt.clk_n {s:Ck.Clk.St}(i:Int):(Ck.Clk.touchS s i).n=s.n/\(Ck.Clk.pinS s i).n=s.n/\(Ck.Clk.unpinS s i).n=s.n/\(Ck.Clk.takeS s i).n=s.n:=by
 refine⟨?_,?_,?_,?_⟩
 ·unfold Ck.Clk.touchS;split <;> rfl
 ·unfold Ck.Clk.pinS;split <;> rfl
 ·unfold Ck.Clk.unpinS;split <;> rfl
 ·unfold Ck.Clk.takeS;split <;> rfl
theorem Qqb (s:Ck.Clk.St) (i:Int):(Ck.Clk.touchS s i).p=s.p:=by unfold Ck.Clk.touchS;split <;> rfl
theorem Qzy {w:World}{τ:Tags}{bp bf:Nat}{H:PoolH}{F:List Fr}{s:Ck.Clk.St}(h:PoolAt w τ bp bf H F s) (n:Nat) (hn:n<H.n) {i:Nat}(G:Qaq F n=some i) {f:Fr}(r:F[i]?=some f) (I:∀k,s.p k<=1000000) :
 Calls Tryz.prog 15 #[.pointer (some ⟨bp,0,none⟩),.int .u32 (n:Int)] w fun e E=>e = .returned (.tuple #[.pointer (f.pg.map (fun x=>(⟨x.1,0,none⟩:Addr))),.int .u16 0])/\PoolAt E τ bp bf H F (Ck.Clk.pinS (Ck.Clk.touchS s i) i)/\Step w τ E τ (fun t=>t=tClk):=by
 have h512:=h.n1
 have hk:=h.k1
 have hil:i<F.length:=(Z4 r).1
 have d1:=h.hd.at 1 (v:=.int .i64 (H.n:Int)) rfl
 have d3:=h.hd.at 3 (v:=.map (some H.bm)) rfl
 have d4:=h.hd.at 4 (v:=.pointer (some ⟨H.bc,0,none⟩)) rfl
 have hwr:=Qb1 H.n (by omega)
 have m:=h.mp.look n (by omega)
 rw[G] at m
 simp only[Option.getD_some,Option.isSome_some] at m
 have h1:=Qgo h.ck (i:Int)
 obtain⟨y,J,L⟩:=hid3 h h1 r
 clear h h1 r
 go_enter Tryz.func15,Tryz.ntmps15
 go_wp2_with fail
 refine J.out.mono ?_
 rintro e w1 ⟨rfl,o,j⟩
 have d:=y.out.clk o j (PoolAt.clk_n _).1
 have e4:=d.hd.at 4 (v:=.pointer (some ⟨H.bc,0,none⟩)) rfl
 have h2:=Qis d.ck (i:Int) (by rw[Qqb];exact I)
 obtain⟨z,B,M⟩:=hid3 d j h2
 clear d j h2 o
 go_wp2_with fail
 refine M.out.mono ?_
 rintro e w2 ⟨rfl,q,l⟩
 have b:=z.out.clk q l (PoolAt.clk_n _).2.1
 have N:=b.hd.at 2 (v:=H.vf) rfl
 rw[b.vf] at N
 obtain⟨c0,c1,c2⟩:=b.cells L.out
 generalize hl:F.length=k at *
 obtain⟨C,D⟩:=hid2 b l
 clear b l q
 go_wp2_with fail
 go_ret2
 exact⟨rfl,C.out,B.out.trans D.out⟩
theorem Qxd {w:World}{τ:Tags}{bp bf:Nat}{H:PoolH}{F:List Fr}{s:Ck.Clk.St}(h:PoolAt w τ bp bf H F s) (n:Nat) (hn:n<4294967296) {i:Nat}(z:Qaq F n=some i) (hi:i<F.length) (B:∀k,s.p k<=1000000) :
 Calls Tryz.prog 16 #[.pointer (some ⟨bp,0,none⟩),.int .u32 (n:Int),.int .u64 0] w fun e o=>e = .returned (.bool (decide (Ck.Clk.pinsV s i≠0) && Ck.Clk.unpinB s i))/\PoolAt o τ bp bf H F (if Ck.Clk.pinsV s i=0 then s else Ck.Clk.unpinS s i)/\Step w τ o τ (fun t=>t=tClk):=by
 have hk:=h.k1
 have d2:=h.hd.at 2 (v:=H.vf) rfl
 rw[h.vf] at d2
 have d3:=h.hd.at 3 (v:=.map (some H.bm)) rfl
 have d4:=h.hd.at 4 (v:=.pointer (some ⟨H.bc,0,none⟩)) rfl
 have d:=h.mp.look n hn
 rw[z] at d
 simp only[Option.getD_some,Option.isSome_some] at d
 have h1:=Qlw h.ck (i:Int)
 have h2:=Qjg h.ck (i:Int) B
 generalize hq:Ck.Clk.pinsV s (i:Int)=q at *
 generalize F.length=k at *
 obtain⟨j,y,C⟩:=hid3 h h1 h2
 clear h h1 h2
 by_cases h0:q=0
 ·subst h0
  go_enter Tryz.func16,Tryz.ntmps16
  go_wp2_with fail
  refine y.out.mono ?_
  rintro e o ⟨rfl,rfl⟩
  go_wp2_with fail
  go_ret
  exact⟨by simp,j.out,Step.refl _ _ _⟩
 ·have hq0:¬(q:Int)=0:=by omega
  go_enter Tryz.func16,Tryz.ntmps16
  go_wp2_with fail
  refine y.out.mono ?_
  rintro e o ⟨rfl,rfl⟩
  go_wp2_with fail
  refine C.out.mono ?_
  rintro e w2 ⟨rfl,l,b⟩
  have m:=j.out.clk l b (PoolAt.clk_n _).2.2.1
  obtain⟨r,x⟩:=hid2 m b
  clear m b l
  go_wp2_with fail
  go_ret
  exact⟨by simp[],r.out,x.out⟩
theorem Qk2 {w:World}{τ:Tags}{bp bf:Nat}{H:PoolH}{F:List Fr}{s:Ck.Clk.St}(h:PoolAt w τ bp bf H F s) :
 Calls Tryz.prog 41 #[.pointer (some ⟨bp,0,none⟩)] w fun e b=>e = .returned (.int .i64 (H.n:Int))/\w=b:=by
 have d1:=h.hd.at 1 (v:=.int .i64 (H.n:Int)) rfl
 clear h
 go_enter Tryz.func41,Tryz.ntmps41
 go_wp2_with fail
 go_ret
 exact⟨rfl,rfl⟩
theorem Qqt {w:World}{τ:Tags}{bp bf:Nat}{H:PoolH}{F:List Fr}{s:Ck.Clk.St}(h:PoolAt w τ bp bf H F s) :
 Calls Tryz.prog 192 #[.pointer (some ⟨bp,0,none⟩)] w fun e b=>e = .returned (.pointer (some ⟨H.bl,0,none⟩))/\w=b:=by
 have d1:=h.hd.at 0 (v:=.pointer (some ⟨H.bl,0,none⟩)) rfl
 clear h
 go_enter Tryz.func192,Tryz.ntmps192
 go_wp2_with fail
 go_ret
 exact⟨rfl,rfl⟩
def i64z (l:List Int):List Value:=l.map (Value.int .i64)
def Fr.at (f:Fr):Int:=if f.pg.isSome then (f.n:Int) else -1
def atTo (F:List Fr) (i:Nat):List Int:=(F.take i).map Fr.at++List.replicate (F.length-i) 0
theorem Qrr (F:List Fr) (i:Nat) (hi:i<=F.length):(atTo F i).length=F.length:=by
 simp[atTo,Nat.min_eq_left hi];omega
theorem Qfq (l:List Int):(i64z l).length=l.length:=by simp[i64z]
theorem Qyh {F:List Fr}{i:Nat}{f:Fr}(b:F[i]?=some f):(i64z (atTo F i)).set i (.int .i64 f.at)=i64z (atTo F (i+1)):=by
 obtain⟨hi,rfl⟩:=Z4 b
 have e:(i64z (atTo F i)).set i (.int .i64 (F[i]).at)=i64z ((atTo F i).set i (F[i]).at):=by simp[i64z,List.map_set]
 rw[e]
 congr 1
 unfold atTo
 rw[List.take_add_one,b]
 have hl:((F.take i).map Fr.at).length=i:=by simp;omega
 rw[List.set_append_right _ _ (by rw[hl];exact Z0 _),hl,Nat.sub_self]
 rw[show F.length-i=(F.length-(i+1))+1 by omega,List.replicate_succ]
 simp only[List.map_append,List.set_cons_zero,Option.toList_some,X1,List.map_nil,X0,List.cons_append,List.nil_append]
theorem Qnh (k:Nat) (hk:k<=64) (W:World):(Instr.makeSlice 98 (.int .i64 (k:Int)) (.int .i64 (k:Int))).run Tryz.prog W =
 .ok (.slice (some ⟨W.heap.size,0,none⟩) k k) (W.alloc (.cells (i64z (List.replicate k 0)).toArray 3)):=by
 obtain⟨i,hi,d,h,m⟩:=info_parts Tryz.infoInt
 have:=run_make (P:=Tryz.prog) W 98 3 i (.int .i64 0) Tryz.underlying98 hi d .i64 .i64 k k (by omega) (Int.le_refl _) (by rw[m];omega) (by omega)
 simp only[Int.toNat_natCast,h] at this
 rw[this]
 congr 3
 apply Array.ext_getElem?
 intro j
 simp only[Nat.mul_one]
 by_cases b:j<k
 ·have h1:=Ck.made_get #[Value.int .i64 0] k j b
  have e:(Value.int .i64 0).cells=#[Value.int .i64 0]:=rfl
  rw[e,h1]
  simp[i64z,b,Nat.mod_one]
 ·have l:(madeCells (Value.int .i64 0).cells k)[j]?=none:=by
   unfold madeCells
   rw[Array.getElem?_map,Array.getElem?_range,if_neg b];rfl
  rw[l]
  simp[i64z,b]
theorem Qz3 {w:World}{τ:Tags}{bp bf:Nat}{H:PoolH}{F:List Fr}{s:Ck.Clk.St}(h:PoolAt w τ bp bf H F s) :
 Calls Tryz.prog 43 #[.pointer (some ⟨bp,0,none⟩)] w fun e Z=>∃b M,e = .returned (.slice (some ⟨b,0,none⟩) F.length F.length)/\w.heap.size<=b/\Own Z M b tOut 3 (i64z (F.map Fr.at))/\Step w τ Z M nil:=by
 have d2:=h.hd.at 2 (v:=H.vf) rfl
 rw[h.vf] at d2
 have hk:=h.k1
 have hmk:=Qnh F.length hk.2
 have ho:=Own.new w τ tOut 3 (i64z (List.replicate F.length 0))
 have O:=(Step.refl w τ nil).alloc (.cells (i64z (List.replicate F.length 0)).toArray 3) tOut
 have R:=(h.hd.step O (fun h=>h)).at 2 (v:=H.vf) rfl
 rw[h.vf] at R
 generalize hl:F.length=k at *
 obtain⟨U,Ho,Hs,L⟩:=hid4 h ho O hl
 clear h ho O hl
 go_enter Tryz.func43,Tryz.ntmps43
 go_wp2_with fail
 go_loopw [17] (fun v wr=>∃(i:Nat) (q:Tags),i<=k/\v = .int .i64 (i:Int)/\Own wr q w.heap.size tOut 3 (i64z (atTo F i))/\Step w τ wr q nil) (fun v _=>k-(intOf v).toNat)
 case atStart=>exact⟨0,_,Z9 _,rfl,by
  have e:atTo F 0=List.replicate k 0:=by {simp[atTo,L.out]}
  rw[e];exact Ho.out,Hs.out⟩
 case round =>
  obtain⟨i,q,hi,rfl,j,l⟩:=hrel
  by_cases N:i<k
  ·obtain⟨f,E⟩:∃f,F[i]?=some f:=⟨_,Z3 (by rw[L.out];exact N)⟩
   have D:=U.out.step l (fun _ _ h=>h)
   obtain⟨c0,c1,c2⟩:=D.cells E
   have d:=Qyh E
   have lb:=D.fr.lt
   have lo:=j.lt
   have z:=j.fz i
   obtain⟨u,ci⟩:∃u,wr.cell? ⟨w.heap.size,i,none⟩=some u:=by
    rw[j.cell i]
    exact⟨_,Z3 (by rw[Qfq,Qrr F i (by rw[L.out];exact hi),L.out];exact N)⟩
   have m:=(j.set i (.int .i64 (-1)))
   have p:=l.setNew (o:=i) (Z0 _) (.int .i64 (-1))
   cases r:f.pg with
   | none =>
     have X:f.at = -1:=by simp[Fr.at,r]
     rw[X] at d
     rw[r] at c0
     simp only[Option.map_none] at c0
     rw[d] at m
     obtain⟨G,I,y,B,Hset,Hp,Hf⟩:=hid7 j l m p d D E
     clear j l m p d D E
     go_wp2_with fail
     go_round
     case rel=>exact⟨i+1,q,by omega,by simp,y.out.alloc _,B.out.alloc' _⟩
     case measure=>simp[intOf];omega
   | some x =>
     have X:f.at=(f.n:Int):=by simp[Fr.at,r]
     rw[X] at d
     rw[r] at c0
     simp only[Option.map_some] at c0
     have hlow:=D.low i f.n f E (by simp[Fr.has,r])
     have h512:=D.n1
     have Y:wrap64 (f.n:Int)=(f.n:Int):=by unfold wrap64;omega
     have C:((i64z (atTo F i)).set i (.int .i64 (-1))).set i (.int .i64 (f.n:Int))=i64z (atTo F (i+1)):=by rw[List.set_set];exact d
     obtain⟨G,I,y,B,J,Hp,Hf⟩:=hid7 j l m p C D E
     clear j l m p C D E d
     go_wp2_with fail
     go_round
     case rel =>
      refine⟨i+1,q,by omega,by simp,?_,?_⟩
      ·rw[<-J.out];try rw[Y]
       exact(y.out.set i _).alloc _
      ·exact(B.out.setNew (Z0 _) _).alloc' _
     case measure=>simp[intOf];omega
  ·obtain rfl:i=k:=by omega
   obtain⟨G,I⟩:=hid2 j l
   clear j l
   go_wp2_with fail
   go_ret
   exact⟨w.heap.size,q,rfl,Z0 _,by
    have e:atTo F i=F.map Fr.at:=by {unfold atTo;rw[L.out,Nat.sub_self,<-L.out,List.take_length];simp}
    rw[<-e];exact G.out,I.out⟩
theorem Qzu (w:World):Calls Tryz.prog 268 #[.int .u64 0] w fun e b=>e = .returned (.int .i64 0)/\w=b:=by
 go_enter Tryz.func268,Tryz.ntmps268
 go_wp2_with fail
 go_ret
 exact⟨by kernel_rfl,rfl⟩
theorem len_0 (w:World):Calls Tryz.prog 224 #[.int .u64 0] w fun e b=>e = .returned (.int .i64 0)/\w=b:=by
 have h1:=Qzu w
 have d:=Z2 h1
 clear h1
 go_enter Tryz.func224,Tryz.ntmps224
 go_wp2_with fail
 refine d.out.mono ?_
 rintro e b ⟨rfl,rfl⟩
 go_wp2_with fail
 go_ret
 exact⟨rfl,rfl⟩
theorem Qn7 (w:World) (f:Value):Calls Tryz.prog 259 #[.slice none 0 0,.int .i64 0,.int .i64 0,f] w fun e b=>e = .returned (.tuple #[])/\w=b:=by
 go_enter Tryz.func259,Tryz.ntmps259
 go_wp2_with fail
 go_loopw [8] (fun v wr=>v = .int .i64 1/\wr=w) (fun _ _=>0)
 case atStart=>exact⟨rfl,rfl⟩
 case round =>
  obtain⟨rfl,rfl⟩:=hrel
  go_wp2_with fail
  go_returns
  exact⟨rfl,rfl⟩
theorem Qzj (w:World) (f:Value):Calls Tryz.prog 223 #[.slice none 0 0,.int .i64 0,.int .i64 0,.int .i64 0,f] w fun e h=>e = .returned (.tuple #[])/\w=h:=by
 have h1:=Qn7 w f
 have i:=Z2 h1
 clear h1
 go_enter Tryz.func223,Tryz.ntmps223
 go_wp2_with fail
 go_loopw [1,2,3,10,11] (fun a b c d e wr=>a = .int .i64 0/\b = .int .i64 0/\c = .int .i64 0/\d = .bool true/\e = .bool true/\wr=w) (fun _ _ _ _ _ _=>0)
 case atStart=>exact⟨rfl,rfl,rfl,rfl,rfl,rfl⟩
 case round =>
  obtain⟨rfl,rfl,rfl,rfl,rfl,rfl⟩:=hrel
  go_wp2_with fail
  refine i.out.mono ?_
  rintro e h ⟨rfl,rfl⟩
  go_wp2_with fail
  go_returns
  exact⟨rfl,rfl⟩
theorem Qw4 (w:World) (f:Value):Calls Tryz.prog 146 #[.slice none 0 0,f] w fun e b=>e = .returned (.tuple #[])/\w=b:=by
 have h1:=len_0 w
 have h2:=Qzj w f
 obtain⟨d,h⟩:=hid2 h1 h2
 clear h1 h2
 go_enter Tryz.func146,Tryz.ntmps146
 go_wp2_with fail
 refine d.out.mono ?_
 rintro e b ⟨rfl,rfl⟩
 go_wp2_with fail
 refine h.out.mono ?_
 rintro e b ⟨rfl,rfl⟩
 go_wp2_with fail
 go_returns
 exact⟨rfl,rfl⟩
theorem Qty {w:World}{τ:Tags}{bp bf:Nat}{H:PoolH}{F:List Fr}{s:Ck.Clk.St}(h:PoolAt w τ bp bf H F s) (h0:∀f∈F,f.first=0) :
 Calls Tryz.prog 85 #[.pointer (some ⟨bp,0,none⟩)] w fun e z=>e = .returned (.slice none 0 0)/\∃p,Step w τ z p nil:=by
 have d2:=h.hd.at 2 (v:=H.vf) rfl
 rw[h.vf] at d2
 have hk:=h.k1
 have l:=fun W f=>Qw4 W f
 generalize hl:F.length=k at *
 obtain⟨q,D,E,r⟩:=hid4 h h0 hl l
 clear h h0 hl l
 go_enter Tryz.func85,Tryz.ntmps85
 go_wp2_with fail
 go_loopw [3,11] (fun m v wr=>∃(i:Nat) (d:Tags),i<=k/\m = .slice none 0 0/\v = .int .i64 (i:Int)/\Step w τ wr d nil) (fun _ v _=>k-(intOf v).toNat)
 case atStart=>exact⟨0,τ,Z9 _,rfl,rfl,Step.refl _ _ _⟩
 case round =>
  obtain⟨i,d,hi,rfl,rfl,b⟩:=hrel
  by_cases y:i<k
  ·obtain⟨f,o⟩:∃f,F[i]?=some f:=⟨_,Z3 (by rw[E.out];exact y)⟩
   have B:=q.out.step b (fun _ _ h=>h)
   obtain⟨c0,c1,c2⟩:=B.cells o
   have C:=D.out f (List.mem_of_getElem? o)
   rw[C] at c2
   generalize Option.map (fun x=>(⟨x.1,0,none⟩:Addr)) f.pg=pp at *
   generalize f.n=n at *
   obtain⟨j,Hf⟩:=hid2 b o
   clear b o B C
   go_wp2_with fail
   go_round
   case rel=>exact⟨i+1,d,by omega,rfl,by simp,j.out.alloc' _⟩
   case measure=>simp[intOf];omega
  ·obtain rfl:i=k:=by omega
   have j:=Z2 b
   clear b
   go_wp2_with fail
   refine(r.out _ _).mono ?_
   rintro e z ⟨rfl,rfl⟩
   go_wp2_with fail
   go_ret
   exact⟨rfl,d,j.out⟩
structure PoolW (w:World) (τ:Tags) (bp bf bd:Nat) (H:PoolH) (L:LogM) (D:Dev) (F:List Fr) (s:Ck.Clk.St):Prop where
 pool:PoolAt w τ bp bf H F s
 log:LogAt w τ H.bl bd L
 dev:DevAt w τ bd D
theorem PoolW.step {w j:World}{τ b:Tags}{S:Tag->Prop}{bp bf bd:Nat}{H:PoolH}{L:LogM}{D:Dev}{F:List Fr}{s:Ck.Clk.St}(h:PoolW w τ bp bf bd H L D F s) (m:Step w τ j b S) (e:∀g,S g->¬PoolTag g/\¬LogTag g/\¬DevTag g/\g≠tData):PoolW j b bp bf bd H L D F s :=
 ⟨h.pool.step m (fun g i d=>(e g d).1 i),h.log.step m (fun g i d=>(e g d).2.1 i),h.dev.step m (fun g d=>(e g d).2.2)⟩
theorem PoolW.turn {w d:World}{τ b:Tags}{bp bf bd:Nat}{H:PoolH}{L:LogM}{D:Dev}{F i:List Fr}{s s':Ck.Clk.St}(h:PoolW w τ bp bf bd H L D F s) (j:PoolAt d b bp bf H i s') (m:Step w τ d b PoolTag):PoolW d b bp bf bd H L D i s' :=
 ⟨j,h.log.step m (fun g e=>Qbo e),h.dev.step m (fun g e=>Qbg e)⟩
theorem Qik {s:Ck.Clk.St}(i:Int) (h:∀k,s.p k<=1000000):(∀k,(Ck.Clk.takeS s i).p k<=1000000)/\(∀k,(Ck.Clk.leaveS s i).p k<=1000000)/\(∀k,(Ck.Clk.pickS s).p k<=1000000)/\(∀k,(Ck.Clk.touchS s i).p k<=1000000):=by
 refine⟨fun k=>?_,fun k=>?_,fun k=>?_,fun k=>?_⟩
 ·unfold Ck.Clk.takeS
  split
  ·simp only[Ck.Clk.upd];split
   ·omega
   ·exact h k
  ·exact h k
 ·unfold Ck.Clk.leaveS
  split <;> exact h k
 ·unfold Ck.Clk.pickS
  split
  ·exact h k
  ·split <;> exact h k
 ·unfold Ck.Clk.touchS
  split <;> exact h k
def Dev.writes (D:Dev) (f a:Nat) (ls:List (List Int)):Nat->Dev
 | 0=>D
 | i+1=>(D.writes f a ls i).write f (a+i) (ls.getD i [])
def Dev.lay (D:Dev) (f a:Nat) (ls:List (List Int)):Dev:=(D.writes f a ls ls.length).sync f
theorem Dev.writes_length (D:Dev) (f a:Nat) (b:f<2) (ls:List (List Int)) (i g:Nat):((D.writes f a ls i).file g).length=(D.file g).length:=by
 induction i with
 | zero=>rfl
 | succ i ih =>
   show (((D.writes f a ls i).write f _ _).file g).length=_
   rw[Dev.write_file _ _ _ b];exact ih
theorem Dev.writes_lim {D:Dev}{b:Nat}(h:D.lim b) (f a:Nat) (d:f<2) (ls:List (List Int)) (i:Nat):(D.writes f a ls i).lim (b+i):=by
 induction i with
 | zero=>exact h
 | succ i ih=>exact Dev.lim_write ih f _ d _
theorem Dev.lay_length (D:Dev) (f a:Nat) (b:f<2) (ls:List (List Int)) (g:Nat):((D.lay f a ls).file g).length=(D.file g).length:=by
 unfold Dev.lay
 rw[Dev.sync_file _ _ b,Dev.writes_length _ _ _ b]
theorem Dev.lay_lim {D:Dev}{b:Nat}(h:D.lim b) (f a:Nat) (d:f<2) (ls:List (List Int)):(D.lay f a ls).lim (b+ls.length):=Dev.lim_sync (Dev.writes_lim h f a d ls _) f d
structure Dev.Calm (D:Dev):Prop where
 left:D.left=none
 waits:∀(f k:Nat) (s:Sec),(D.file f)[k]?=some s->s.waits=[]
theorem Dev.go_free {D:Dev}(h:D.left=none):D.go=(true,D):=by unfold Dev.go;rw[h]
theorem Dev.write_free {D:Dev}(h:D.left=none) (f k:Nat) (l:List Int):(D.write f k l).left=none:=by
 unfold Dev.write
 rw[Dev.go_free h,if_pos rfl]
 cases (D.file f)[k]? with
 | none=>exact h
 | some s=>show (Dev.put _ _ _).left=none;unfold Dev.put;split <;> (try split) <;> exact h
theorem Dev.sync_free {D:Dev}(h:D.left=none) (f:Nat):(D.sync f).left=none:=by
 unfold Dev.sync
 rw[Dev.go_free h,if_pos rfl]
 show (Dev.put _ _ _).left=none;unfold Dev.put;split <;> (try split) <;> exact h
theorem Dev.write_get {D:Dev}(h:D.left=none) {f:Nat}(i:f<2) (k:Nat) (l:List Int) (g j:Nat):((D.write f k l).file g)[j]?=if g=f/\j=k then (D.file g)[j]?.map (fun s=>s.add l) else (D.file g)[j]?:=by
 unfold Dev.write
 rw[Dev.go_free h,if_pos rfl]
 cases d:(D.file f)[k]? with
 | none =>
   show (D.file g)[j]?=_
   by_cases e:g=f/\j=k
   ·rw[if_pos e,e.1,e.2,d];rfl
   ·rw[if_neg e]
 | some s =>
   show ((Dev.put D f _).file g)[j]?=_
   rw[Dev.put_file _ _ i]
   by_cases b:g=f
   ·rw[if_pos b]
    by_cases e:j=k
    ·rw[if_pos ⟨b,e⟩,e,b,d,List.getElem?_set_self (Z4 d).1];rfl
    ·rw[if_neg (fun q=>e q.2),List.getElem?_set_ne (fun q=>e q.symm),b]
   ·rw[if_neg b,if_neg (fun q=>b q.1)]
theorem Dev.sync_get {D:Dev}(h:D.left=none) {f:Nat}(d:f<2) (g j:Nat):((D.sync f).file g)[j]?=if g=f then (D.file g)[j]?.map Sec.sync else (D.file g)[j]?:=by
 unfold Dev.sync
 rw[Dev.go_free h,if_pos rfl]
 show ((Dev.put D f _).file g)[j]?=_
 rw[Dev.put_file _ _ d]
 by_cases b:g=f
 ·rw[if_pos b,if_pos b,List.getElem?_map,b]
 ·rw[if_neg b,if_neg b]
theorem Sec.add_newest (s:Sec) (l:List Int):(s.add l).newest=l:=by
 show (s.waits++[l]).getLastD s.last=l
 rw[List.getLastD_eq_getLast?,List.getLast?_append];rfl
theorem Dev.last_write {D:Dev}(h:D.left=none) {f:Nat}(b:f<2) {k:Nat}(hk:k<(D.file f).length) (l:List Int) (g j:Nat):(D.write f k l).last g j=if g=f/\j=k then l else D.last g j:=by
 unfold Dev.last
 rw[Dev.write_get h b]
 by_cases e:g=f/\j=k
 ·rw[if_pos e,if_pos e,e.1,e.2,Z3 hk]
  show (Sec.add _ l).newest=l
  exact Sec.add_newest _ _
 ·rw[if_neg e,if_neg e]
theorem Dev.last_sync {D:Dev}(h:D.left=none) {f:Nat}(b:f<2) (g j:Nat):(D.sync f).last g j=D.last g j:=by
 unfold Dev.last
 rw[Dev.sync_get h b]
 by_cases e:g=f
 ·rw[if_pos e]
  cases (D.file g)[j]? with
  | none=>rfl
  | some s=>rfl
 ·rw[if_neg e]
theorem Dev.writes_free {D:Dev}(h:D.left=none) (f a:Nat) (ls:List (List Int)) (i:Nat):(D.writes f a ls i).left=none:=by
 induction i with
 | zero=>exact h
 | succ i ih=>exact Dev.write_free ih _ _ _
theorem Dev.lay_free {D:Dev}(h:D.left=none) (f a:Nat) (ls:List (List Int)):(D.lay f a ls).left=none:=Dev.sync_free (Dev.writes_free h _ _ _ _) _
theorem Dev.last_writes {D:Dev}(h:D.left=none) {f:Nat}(d:f<2) (a:Nat) (ls:List (List Int)) (i:Nat) (hi:a+i<=(D.file f).length) (g j:Nat):(D.writes f a ls i).last g j=if g=f/\a<=j/\j<a+i then ls.getD (j-a) [] else D.last g j:=by
 induction i with
 | zero=>rw[if_neg (by omega)];rfl
 | succ i ih =>
   show ((D.writes f a ls i).write f (a+i) (ls.getD i [])).last g j=_
   rw[Dev.last_write (Dev.writes_free h _ _ _ _) d (by rw[Dev.writes_length _ _ _ d];omega),ih (by omega)]
   by_cases e:g=f/\j=a+i
   ·rw[if_pos e,if_pos ⟨e.1,by omega,by omega⟩,e.2,Nat.add_sub_cancel_left]
   ·rw[if_neg e]
    by_cases b:g=f/\a<=j/\j<a+i
    ·rw[if_pos b,if_pos ⟨b.1,b.2.1,by omega⟩]
    ·rw[if_neg b,if_neg (by omega)]
theorem Dev.last_lay {D:Dev}(h:D.left=none) {f:Nat}(b:f<2) (a:Nat) (ls:List (List Int)) (hi:a+ls.length<=(D.file f).length) (g j:Nat):(D.lay f a ls).last g j=if g=f/\a<=j/\j<a+ls.length then ls.getD (j-a) [] else D.last g j:=by
 unfold Dev.lay
 rw[Dev.last_sync (Dev.writes_free h _ _ _ _) b,Dev.last_writes h b a ls _ hi]
theorem Dev.writes_other {D:Dev}(h:D.left=none) {f:Nat}(b:f<2) (a:Nat) (ls:List (List Int)) (i g:Nat) (d:g≠f) (j:Nat):((D.writes f a ls i).file g)[j]?=(D.file g)[j]?:=by
 induction i with
 | zero=>rfl
 | succ i ih =>
   show (((D.writes f a ls i).write f _ _).file g)[j]?=_
   rw[Dev.write_get (Dev.writes_free h _ _ _ _) b,if_neg (fun q=>d q.1)];exact ih
theorem Dev.Calm.lay {D:Dev}(h:D.Calm) {f:Nat}(d:f<2) (a:Nat) (ls:List (List Int)):(D.lay f a ls).Calm:=by
 refine⟨Dev.lay_free h.left _ _ _,fun g k s b=>?_⟩
 unfold Dev.lay at b
 rw[Dev.sync_get (Dev.writes_free h.left _ _ _ _) d] at b
 by_cases e:g=f
 ·rw[if_pos e] at b
  obtain⟨s',_,rfl⟩:=Option.map_eq_some_iff.1 b
  rfl
 ·rw[if_neg e,Dev.writes_other h.left d _ _ _ _ e] at b
  exact h.waits g k s b
theorem Dev.Calm.lim {D:Dev}(h:D.Calm) (b:Nat):D.lim b:=fun f k s d=>by rw[h.waits f k s d];exact Z9 _
theorem Qm0 {D E:Dev}{n m:Nat}(h:∀i,i<4->D.last 1 (4*n+i)=E.last 1 (4*m+i)):lastTo D n 4=lastTo E m 4:=by
 unfold lastTo
 refine List.map_congr_left (fun k hk=>h k (List.mem_range.1 hk))
theorem Qmz {D:Dev}(h:D.left=none) (n:Nat) (ls:List (List Int)) (hl:ls.length=4) (hi:4*n+4<=D.f1.length) (m:Nat):lastTo (D.lay 1 (4*n) ls) m 4=if m=n then ls else lastTo D m 4:=by
 have b:=fun j=>Dev.last_lay h (f:=1) (by omega) (4*n) ls (by rw[hl];exact hi) 1 j
 by_cases e:m=n
 ·rw[if_pos e]
  apply List.ext_getElem?
  intro i
  by_cases d:i<4
  ·have k:(lastTo (D.lay 1 (4*n) ls) m 4)[i]?=some ((D.lay 1 (4*n) ls).last 1 (4*m+i)):=by
    unfold lastTo
    rw[List.getElem?_map,List.getElem?_range d];rfl
   rw[k,b,if_pos ⟨rfl,by omega,by omega⟩,show 4*m+i-4*n=i by omega,Z5,Z3 (by omega)];rfl
  ·rw[List.getElem?_eq_none (by rw[Qbe];omega),List.getElem?_eq_none (by omega)]
 ·rw[if_neg e]
  refine Qm0 (fun i d=>?_)
  rw[b,if_neg (by omega)]
theorem Qq8 {D:Dev}(h:D.left=none) (a:Nat) (ls:List (List Int)) (hi:a+ls.length<=D.f0.length) (m:Nat):lastTo (D.lay 0 a ls) m 4=lastTo D m 4 :=
 Qm0 (fun i _=>by rw[Dev.last_lay h (f:=0) (by omega) a ls hi,if_neg (by omega)])
def IntsZ (w:World) (τ:Tags) (g:Tag) (v:Value) (l:List Int):Prop:=Buf w τ g 3 1 v l.length (i64z l)
theorem Qzw (l:List Int) (i:Nat) (h:i<l.length):(i64z l)[i]?=some (.int .i64 (l.getD i 0)):=by
 simp[i64z,List.getD,Z3 h]
theorem IntsZ.step {w d:World}{τ b:Tags}{S:Tag->Prop}{g:Tag}{v:Value}{l:List Int}(h:IntsZ w τ g v l) (m:Step w τ d b S) (e:¬S g):IntsZ d b g v l:=Buf.step h m e
theorem IntsZ.read {w:World}{τ:Tags}{g:Tag}{v:Value}{l:List Int}(h:IntsZ w τ g v l):∃p c,v = .slice p l.length c/\l.length<=maxLen/\∀i,i<l.length->∃b,p=some ⟨b,0,none⟩/\w.cell? ⟨b,i,none⟩=some (.int .i64 (l.getD i 0)):=by
 obtain⟨h1,⟨rfl,h2⟩|⟨b,cap,ys,rfl,d,h3,h4,h5⟩⟩:=h
 ·exact⟨none,0,by rw[h2],by omega,fun i hi=>by omega⟩
 ·refine⟨_,_,rfl,by omega,fun i hi=>⟨b,rfl,d.at i ?_⟩⟩
  rw[Y5 (by rw[Qfq];exact hi),Qzw l i hi]
theorem Qxn {l m:List Int}(h1:l.length=m.length) (h:∀i,i<l.length->l.getD i 0=m.getD i 0):l=m:=by
 apply List.ext_getElem h1
 intro i h2 b
 have:=h i h2
 simpa [List.getD,Z3 h2,Z3 b] using this
theorem Qo6 {w:World}{τ:Tags}{g g2:Tag}{v u:Value}{l m:List Int}(h:IntsZ w τ g v l) (k:IntsZ w τ g2 u m) :
 Calls Tryz.prog 188 #[v,u] w fun e w'=>e = .returned (.bool (decide (l=m)))/\∃q,w'=w.drewN q:=by
 obtain⟨p,c,rfl,h1,L⟩:=h.read
 obtain⟨q,d,rfl,k1,J⟩:=k.read
 clear h k
 by_cases o:l.length=m.length
 ·have D:=@Qxn l m o
  have E:∀i,i<l.length->l.getD i 0≠m.getD i 0->¬l=m:=fun i _ hi e=>hi (by rw[e])
  rw[<-o] at J ⊢
  generalize hn:l.length=n at *
  have hmx:n<=9223372036854775807:=by unfold maxLen at h1;omega
  obtain⟨Hr,F,M,N,Hn,Hlen⟩:=hid6 L J D E hn o
  clear L J D E hn o h1 k1
  go_enter Tryz.func188,Tryz.ntmps188
  go_wp2_with fail
  go_loopw [5] (fun v wr=>∃i q:Nat,i<=n/\v = .int .i64 (i:Int)/\wr=w.drewN q/\Hid (∀j,j<i->l.getD j 0=m.getD j 0)) (fun v _=>n-(intOf v).toNat)
  case atStart=>exact⟨0,0,Z9 _,rfl,rfl,Z2 (fun j R=>absurd R (by omega))⟩
  case round =>
   obtain⟨i,q,hi,rfl,r,U⟩:=hrel
   by_cases B:i<n
   ·obtain⟨b,rfl,X⟩:=Hr.out i B
    obtain⟨b2,O,Y⟩:=F.out i B
    cases O
    have ci':wr.cell? ⟨b,i,none⟩=some (.int .i64 (l.getD i 0)):=by rw[r];exact X
    have di':wr.cell? ⟨b2,i,none⟩=some (.int .i64 (m.getD i 0)):=by rw[r];exact Y
    clear X Y
    have hin:(i:Int)<(n:Int):=by omega
    generalize G:l.getD i 0=x at *
    generalize I:m.getD i 0=y at *
    by_cases heq:x=y
    ·subst heq
     obtain⟨Hx,Z,s⟩:=hid3 G I r
     clear G I r
     go_wp2_with fail
     go_quiet (fail)
     go_wp2_with fail
     go_round
     case rel =>
      refine⟨i+1,q+nq,by omega,by simp,by rw[s.out,World.drewN_drewN],Z2 (fun j R=>?_)⟩
      by_cases e:j=i
      ·subst e;rw[Hx.out,Z.out]
      ·exact U.out j (by omega)
     case measure=>simp[intOf];omega
    ·have b1:(x != y)=true:=by rw[bne_iff_ne];exact heq
     have z:=N.out i B (by rw[G,I];exact heq)
     obtain⟨C,Hx,Z,Heq,s⟩:=hid5 z G I heq r
     clear z G I heq r
     go_wp2_with fail
     go_quiet (fail)
     go_wp2_with fail
     go_ret
     exact⟨by rw[decide_eq_false C.out];rfl,q+nq,by rw[s.out,World.drewN_drewN]⟩
   ·obtain rfl:i=n:=by omega
    have z:=M.out U.out
    obtain⟨C,s⟩:=hid2 z r
    clear z r
    go_wp2_with fail
    go_ret
    exact⟨by rw[decide_eq_true C.out];rfl,q,s.out⟩
 ·rw[decide_eq_false (fun e=>o (by rw[e]))]
  have b1:((l.length:Int) != (m.length:Int))=true:=by rw[bne_iff_ne];omega
  generalize l.length=n at *
  generalize m.length=k at *
  clear L J h1 k1 o
  go_enter Tryz.func188,Tryz.ntmps188
  go_wp2_with fail
  go_ret
  exact⟨rfl,0,rfl⟩
theorem Qne (w:World):Calls Tryz.prog 190 #[.slice none 0 0,.slice none 0 0] w fun e b=>e = .returned (.bool true)/\w=b:=by
 go_enter Tryz.func190,Tryz.ntmps190
 go_wp2_with fail
 go_loopw [5] (fun v wr=>v = .int .i64 0/\wr=w) (fun _ _=>0)
 case atStart=>exact⟨rfl,rfl⟩
 case round =>
  obtain⟨rfl,rfl⟩:=hrel
  go_wp2_with fail
  go_ret
  exact⟨rfl,rfl⟩
end Go.Proofs.YtemacanaihaldaaGreat
namespace Go.Proofs.YtemacanaihaldaaGreat
open Go.RowKit
open Ck.Clk
