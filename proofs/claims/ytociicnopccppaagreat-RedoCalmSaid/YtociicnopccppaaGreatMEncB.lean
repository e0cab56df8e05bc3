/-
 Records as bytes: Encode of a record that may be.
-/
import Derived.Test.YtociicnopccppaaGreatMRdH
set_option maxRecDepth 100000
set_option maxHeartbeats 8000000
set_option linter.all false
namespace Go.Proofs.YtociicnopccppaaGreat
variable {P:List Int}{k:Nat}{r:qak}{w:World}{τ:qa1}
open Go.RowKit
def qfa (x:qdb):List Int:=leB x.txn 4++leB x.last 8++leB x.undo 8++leB x.state 1
def qfn (x:Nat×Nat):List Int:=leB x.1 4++leB x.2 8
def qim (ts:List qdb) (ps:List (Nat×Nat)):List Int:=leB ts.length 1++ts.flatMap qfa++leB ps.length 1++ps.flatMap qfn
def qb2 (r:qak):List Int:=if qgb r.kind=true then qj4 r.change else if r.kind=8 then qim r.qbm r.pages else []
def qej (r:qak):List Int:=List.replicate 6 0++leB r.kind 1++leB r.txn 4++leB r.prev 8++leB r.next 8++qb2 r
def qe8 (r:qak):List Int:=qbf (qej r) 0 (leB (qej r).length 2)
def encR (r:qak):List Int:=qbf (qe8 r) 2 (leB (qeg ((qe8 r).drop 6) ((qe8 r).drop 6).length) 4)
theorem Qco (r:qak):(qej r).length=27+(qb2 r).length:=by simp only[qej,Z6,Qaa,Z7]
theorem Qfr (r:qak):(qe8 r).length=(qej r).length:=by unfold qe8;rw[Qae _ _ _ (by rw[Qaa,Qco];omega)]
theorem Qbh (r:qak):(encR r).length=27+(qb2 r).length:=by unfold encR;rw[Qae _ _ _ (by rw[Qaa,Qfr,Qco];omega),Qfr,Qco]
theorem Qx2 {c:qa7}(h1:IsB c.before) (h2:IsB c.after):IsB (qj4 c):=((((((Qan _ _).append (Qan _ _)).append (Qan _ _)).append (Qan _ _)).append h1).append (Qan _ _)).append h2
theorem Qsk {α:Type}(f:α->List Int) (h:∀x,IsB (f x)) (l:List α):IsB (l.flatMap f):=fun x b=>by
 obtain⟨a,_,c⟩:=List.mem_flatMap.1 b
 exact h a x c
theorem Qx0 (ts:List qdb) (ps:List (Nat×Nat)):IsB (qim ts ps) :=
 (((Qan _ _).append (Qsk _ (fun x=>(((Qan _ _).append (Qan _ _)).append (Qan _ _)).append (Qan _ _)) ts)).append (Qan _ _)).append (Qsk _ (fun x=>(Qan _ _).append (Qan _ _)) ps)
theorem Qzp:IsB []:=fun x a=>by cases a
theorem Qlo(h1:IsB r.change.before) (h2:IsB r.change.after):IsB (qb2 r):=by
 unfold qb2
 split
 ·exact Qx2 h1 h2
 ·split
  ·exact Qx0 _ _
  ·exact Qzp
theorem Qm2(h:IsB (qb2 r)):IsB (qej r):=(((((Qex 6).append (Qan _ _)).append (Qan _ _)).append (Qan _ _)).append (Qan _ _)).append h
structure qh1 (w:World) (τ:qa1) (v:Value) (r:qak):Prop where
 is:∃pb cb pa ca pt ct pp cp gt gp n0,v = .agg (rR r.kind r.txn r.prev r.next r.change.page r.change.slot r.change.had r.change.has (.slice pb r.change.before.length cb) (.slice pa r.change.after.length ca) (.slice pt r.qbm.length ct) (.slice pp r.pages.length cp)) /\
  Bytes w τ qa2 (.slice pb r.change.before.length cb) r.change.before/\Bytes w τ qa2 (.slice pa r.change.after.length ca) r.change.after/\NS 42 4 Qct n0 w τ gt (.slice pt r.qbm.length ct) r.qbm/\NS 84 2 Qgn n0 w τ gp (.slice pp r.pages.length cp) r.pages/\¬WrT gt/\¬WrT gp
 kind:r.kind<256
 txn:r.txn<4294967296
 prev:r.prev<18446744073709551616
 next:r.next<18446744073709551616
 page:r.change.page<4294967296
 slot:r.change.slot<65536
theorem qh1.step {b:World} {a:qa1} {v:Value}(h:qh1 w τ v r) (m:Step w τ b a nil):qh1 b a v r:=by
 obtain⟨pb,cb,pa,ca,c,ct,d,cp,g,i,n0,e,h1,h2,j,l,n,o⟩:=h.is
 exact⟨⟨pb,cb,pa,ca,c,ct,d,cp,g,i,n0,e,h1.step m id,h2.step m id,j.step m id,l.step m id,n,o⟩,h.kind,h.txn,h.prev,h.next,h.page,h.slot⟩
theorem Qsm(h1:IsB r.change.before) (h2:IsB r.change.after):IsB (encR r):=Qaw (Qaw (Qm2 (Qlo h1 h2)) (Qan _ _) _) (Qan _ _) _
def TabC (r:qak):Prop:=∀(w0 w:World) (τ0 τ:qa1) (bw:Nat) (l:List Int) (v:Value),Step w0 τ0 w τ nil->qh5 w0.heap.size w τ bw l->l.length<=1000->qh1 w τ v r->Calls Tryz.prog 146 #[.pointer (some ⟨bw,0,none⟩),v] w fun e w'=>e = .returned (.tuple #[])/\∃τ',qh5 w0.heap.size w' τ' bw (l++qim r.qbm r.pages)/\Step w0 τ0 w' τ' nil/\Step w τ w' τ' WrT
theorem Qiq {v:Value}(hv:qh1 w τ v r) (X:qes r=true) (h6:(encR r).length<=60000) (bb:r.kind=8->TabC r):Calls Tryz.prog 87 #[v] w fun e w'=>∃u dq,e = .returned (.tuple #[u,.int .u16 0])/\NB w.heap.size w' dq tWb u (encR r)/\Step w τ w' dq nil:=by
 have dr:=hv
 obtain⟨pb,cb,pa,ca,pt,ct,pp,cp,gt,gp,n0,rfl,hb,ha,ht,hp,hc,he⟩:=hv.is
 have ds:=hb.isB
 have dt:=ha.isB
 have b1:=hv.kind
 have b2:=hv.txn
 have b3:=hv.prev
 have b4:=hv.next
 have b5:=hv.page
 have b6:=hv.slot
 have Y:=X
 unfold qes qep qef at Y
 have dv:r.change.before.length<=64/\r.change.after.length<=64:=by
  simp only[Bool.and_eq_true,Bool.not_eq_true',Bool.or_eq_false_iff,decide_eq_false_iff_not] at Y
  omega
 have Z:qb2 r=if qgb r.kind=true then qj4 r.change else if r.kind=8 then qim r.qbm r.pages else []:=rfl
 have dw:=Qco r
 have dx:=Qfr r
 have dy:=Qbh r
 have dz:=Qm2 (Qlo (r:=r) ds dt)
 have bc:qej r=List.replicate 6 0++leB r.kind 1++leB r.txn 4++leB r.prev 8++leB r.next 8++qb2 r:=rfl
 have bd:qe8 r=qbf (qej r) 0 (leB (qej r).length 2):=rfl
 have hR:encR r=qbf (qe8 r) 2 (leB (qeg ((qe8 r).drop 6) ((qe8 r).drop 6).length) 4):=rfl
 have B:=fun (W:World) (T:qa1) (hs:NS 42 4 Qct n0 W T gt (.slice pt r.qbm.length ct) r.qbm)=>Qn4 (w:=W) (τ:=T) r.kind r.txn r.prev r.next r.change.page r.change.slot r.change.had r.change.has pb pa pt pp r.change.before.length cb r.change.after.length ca r.qbm.length ct r.pages.length cp rfl hs
 rw[show qep r.kind r.qbm.length r.pages.length (qef (qgb r.kind) r.change.page r.change.slot r.change.had r.change.has r.change.before.length r.change.after.length) (Qdu r.qbm)=true from X] at B
 have cz:=fun (W:World) (T:qa1)=>Qhk W T r.kind r.txn r.prev r.next r.change.page r.change.slot r.change.had r.change.has pb pa pt pp r.change.before.length cb r.change.after.length ca r.qbm.length ct r.pages.length cp
 have e4:=fun (W0 W:World) (T0 T:qa1) (bw:Nat) (l:List Int) (h1:Step W0 T0 W T nil) (h2:qh5 W0.heap.size W T bw l) (h3:l.length<=1000) (h4:Bytes W T qa2 (.slice pb r.change.before.length cb) r.change.before) (h5:Bytes W T qa2 (.slice pa r.change.after.length ca) r.change.after)=>Qp4 h1 h2 oM r.change h4 h5 b5 b6 oM oM
 have rn:∀W:World,(Instr.makeSlice 58 (.int .i64 6) (.int .i64 6)).run Tryz.prog W = .ok (.slice (some ⟨W.heap.size,0,none⟩) 6 6) (W.alloc (.cells (madeCells #[.int .u8 0] 6) 5)):=fun W=>Qko 6 oM W
 have hh:((r.kind:Int)=8)↔r.kind=8:=oM
 have e1:=Qam r.kind oM
 have e2:=Qam r.txn oM
 obtain⟨rc,hj⟩:∃rc:Array Value,rc=(rR r.kind r.txn r.prev r.next r.change.page r.change.slot r.change.had r.change.has (.slice pb r.change.before.length cb) (.slice pa r.change.after.length ca) (.slice pt r.qbm.length ct) (.slice pp r.pages.length cp)):=⟨_,rfl⟩
 have e5:=fun (W:World) (T:qa1) (m:Step w τ W T nil)=>dr.step m
 have F:=Own.born w τ qa2 73 (rR r.kind r.txn r.prev r.next r.change.page r.change.slot r.change.had r.change.has (.slice pb r.change.before.length cb) (.slice pa r.change.after.length ca) (.slice pt r.qbm.length ct) (.slice pp r.pages.length cp))
 have a0:=(zS w τ).alloc (.cells (rR r.kind r.txn r.prev r.next r.change.page r.change.slot r.change.had r.change.has (.slice pb r.change.before.length cb) (.slice pa r.change.after.length ca) (.slice pt r.qbm.length ct) (.slice pp r.pages.length cp)) 73) qa2
 have a1:=B _ _ (ht.step a0 id)
 have e6:=hb.step a0 id
 have e7:=ha.step a0 id
 generalize τ.put w.heap.size qa2=τ1 at *
 clear hj rc hv dr Y
 generalize encR r=BR at *
 generalize qe8 r=BL at *
 generalize qej r=BW at *
 generalize qb2 r=BB at *
 obtain⟨kd,tx,pv,nx,⟨pg,sl,hd,hs,be,af⟩,ts,ps⟩:=r
 dsimp only at *
 obtain⟨cg,e8⟩:=gN (qgb kd)
 simp only[e8] at cz Z
 generalize hk:be.length=nb at *
 generalize hl:af.length=na at *
 generalize hm:ts.length=nt at *
 generalize hq:ps.length=np at *
 have c0:=F.at 0 rfl
 have c1:=F.at 1 rfl
 have c2:=F.at 2 rfl
 have c3:=F.at 3 rfl
 have c4:=F.at 4 rfl
 have c5:=F.at 5 rfl
 have c6:=F.at 6 rfl
 have c7:=F.at 7 rfl
 have c8:=F.at 8 rfl
 have c9:=F.at 9 rfl
 have hr:=F.at 10 rfl
 have hw:=F.at 11 rfl
 obtain⟨a2,e9,ea,Ho,eb,ec,ed,ee,bf,G,I,bg⟩:=qds a1 cz e4 F a0 e6 e7 e5 bb Z bc bd
 obtain⟨HR,ef,av,eg,eh⟩:=qbq hR dz dw dx dy
 clear a1 B cz e4 F a0 e6 e7 e5 bb Z bc bd hR dz dw dx dy hk hl hm hq ds dt hc he X hb ha ht hp dv
 go_enter Tryz.func87,Tryz.ntmps87
 go_wp2_with fail
 generalize w.alloc (.cells (rR kd tx pv nx pg sl hd hs (.slice pb nb cb) (.slice pa na ca) (.slice pt nt ct) (.slice pp np cp)) 73)=W0 at *
 refine a2.mono ?_
 rintro e j ⟨rfl,a3⟩
 have ei:=Ho.step a3 id
 have a4:=eb.trans a3
 have ej:=ec.step a3 id
 have ek:=ed.step a3 id
 have O:=Own.born j τ1 tWb 5 (madeCells #[.int .u8 0] 6)
 rw[Qhm 6] at O
 have d1:=a4.alloc (.cells (madeCells #[.int .u8 0] 6) 5) tWb
 have em:=(zS j τ1).alloc (.cells (madeCells #[.int .u8 0] 6) 5) tWb
 have en:=ei.qbn (.cells (madeCells #[.int .u8 0] 6) 5) tWb
 have a5:NB w.heap.size (j.alloc (.cells (madeCells #[.int .u8 0] 6) 5)) (τ1.put j.heap.size tWb) tWb (.slice (some ⟨j.heap.size,0,none⟩) 6 6) (List.replicate 6 0):=by
  have:=NB.mk' (n0:=w.heap.size) (l:=List.replicate 6 0) (cap:=6) (ys:=[]) (by rw[List.append_nil];exact O) (Qex 6) sM sM (by unfold maxLen;omega) a4.size
  rw[Z7] at this
  exact this
 generalize eo:τ1.put j.heap.size tWb=d2 at *
 have d3:=Own.born (j.alloc (.cells (madeCells #[.int .u8 0] 6) 5)) d2 tWr 241 #[.slice (some ⟨j.heap.size,0,none⟩) 6 6]
 have a6:=d1.alloc (.cells #[.slice (some ⟨j.heap.size,0,none⟩) 6 6] 241) tWr
 have J:=em.alloc (.cells #[.slice (some ⟨j.heap.size,0,none⟩) 6 6] 241) tWr
 have L:=en.qbn (.cells #[.slice (some ⟨j.heap.size,0,none⟩) 6 6] 241) tWr
 have a7:=a5.step ((zS _ d2).alloc (.cells #[.slice (some ⟨j.heap.size,0,none⟩) 6 6] 241) tWr) id
 have d4:=d1.size
 rw[World.size_alloc] at d3 d4 a6 L a7 J
 generalize ep:d2.put (j.heap.size+1) tWr=hx at *
 have hW:qh5 w.heap.size ((j.alloc (.cells (madeCells #[.int .u8 0] 6) 5)).alloc (.cells #[.slice (some ⟨j.heap.size,0,none⟩) 6 6] 241)) hx (j.heap.size+1) (List.replicate 6 0):=⟨⟨_,d3,a7⟩,d4⟩
 have er:=ej.step J id
 have et:=ek.step J id
 have q0:=L.at 0 rfl
 have d5:=Qa4 a6 hW sM kd 1 oM oM oM
 obtain⟨bw,d6⟩:=gN (j.heap.size+1)
 rw[d6] at d5
 obtain⟨ev,bh,ew,ey,ez⟩:=qbq d5 L er et d6
 clear d5 L er et d6 d3 a6 a7 d4 hW a5 en d1 O ei a4 a3 a2 Ho eb ep eo em J ej ek ec ed c0 c1 c2 c3 c4 c5 c6 c7 c8 c9 hr hw
 go_wp2_with fail
 rw[ez.out]
 refine ev.mono ?_
 rintro e w4 ⟨rfl,τ4,f0,bi,aw⟩
 have d7:=bh.step aw dC
 have f2:=ew.step aw dC
 have f3:=ey.step aw dC
 have q1:=d7.at 1 rfl
 have f4:=Qa4 bi f0 (by simp[Qaa]) tx 4 oM oM oM
 obtain⟨f5,f6,f7,f8⟩:=qb9 f4 d7 f2 f3
 clear f4 d7 f2 f3 f0 bi aw ev bh q0 ew ey
 go_wp2_with fail
 refine f5.mono ?_
 rintro e w5 ⟨rfl,τ5,f9,bj,ax⟩
 have d8:=f6.step ax dC
 have fa:=f7.step ax dC
 have fb:=f8.step ax dC
 have q2:=d8.at 2 rfl
 have fc:=Qa4 bj f9 (by simp[Qaa]) pv 8 oM oM oM
 obtain⟨fe,ff,fg,fh⟩:=qb9 fc d8 fa fb
 clear fc d8 fa fb f9 bj ax f5 f6 q1 f7 f8
 go_wp2_with fail
 refine fe.mono ?_
 rintro e w6 ⟨rfl,τ6,fi,bk,ay⟩
 have d9:=ff.step ay dC
 have fj:=fg.step ay dC
 have fk:=fh.step ay dC
 have q3:=d9.at 3 rfl
 have fm:=Qa4 bk fi (by simp[Qaa]) nx 8 oM oM oM
 obtain⟨fn,fo,fp,fq⟩:=qb9 fm d9 fj fk
 clear fm d9 fj fk fi bk ay fe ff q2 fg fh
 go_wp2_with fail
 refine fn.mono ?_
 rintro e w7 ⟨rfl,a8,fr,bl,az⟩
 have c:=fo.step az dC
 have fs:=fp.step az dC
 have ft:=fq.step az dC
 have k0:=c.at 0 rfl
 have k1:=c.at 1 rfl
 have k2:=c.at 2 rfl
 have k3:=c.at 3 rfl
 have k4:=c.at 4 rfl
 have k5:=c.at 5 rfl
 have k6:=c.at 6 rfl
 have k7:=c.at 7 rfl
 have k8:=c.at 8 rfl
 have k9:=c.at 9 rfl
 have da:=c.at 10 rfl
 have db:=c.at 11 rfl
 obtain⟨fv,bm,fw,fx,fy⟩:=qbq fr bl c fs ft
 clear fr bl c fs ft az fn fo q3 fp fq
 go_wp2_with fail
 refine(e9 _ a8).mono ?_
 rintro e w8 ⟨rfl,R⟩
 have d:=fw.step R id
 have U:=fv.step R id id
 have g:=bm.trans R
 have b0:=fx.step R id
 have b7:=fy.step R id
 clear k0 k1 k2 k3 k4 k5 k6 k7 k8 k9 da db R
 have k0:=d.at 0 rfl
 have k1:=d.at 1 rfl
 have k2:=d.at 2 rfl
 have k3:=d.at 3 rfl
 have k4:=d.at 4 rfl
 have k5:=d.at 5 rfl
 have k6:=d.at 6 rfl
 have k7:=d.at 7 rfl
 have k8:=d.at 8 rfl
 have k9:=d.at 9 rfl
 have da:=d.at 10 rfl
 have db:=d.at 11 rfl
 cases cg
 case' true =>
  have o:=ea _ _ _ _ _ _ g U (by simp[Qaa]) b0 b7
  have a9:=Z2 o
  clear o b0 b7 g U
  go_wp2_with fail
  refine a9.mono ?_
  rintro e w9 ⟨rfl,aa,ab,M,dc⟩
  have b8:qh5 w.heap.size w9 aa bw BW:=by rw[I.out,G.out,if_pos trivial];exact ab
  clear ab dc
  go_wp2_with fail
 case' false =>
  by_cases h8:kd=8
  case' pos =>
   have q1:((kd:Int)=8)↔True:=⟨fun _=>trivial,fun _=>oM⟩
   have q2:(kd=8)↔True:=⟨fun _=>trivial,fun _=>h8⟩
   have q3:((kd:Int)==8)=true:=by rw[h8];rfl
   have o:=(bf h8) w w8 τ a8 bw _ _ g U (by simp[Qaa]) (ee w8 a8 g)
   obtain⟨a9,H8⟩:=qaj o h8
   clear o h8 b0 b7 g U
   go_wp2_with fail
   refine a9.mono ?_
   rintro e w9 ⟨rfl,aa,ab,M,dc⟩
   have b8:qh5 w.heap.size w9 aa bw BW:=by rw[I.out,G.out,if_neg sM,if_pos H8.out];exact ab
   clear ab dc
   go_wp2_with fail
  case' neg =>
   have h8i:¬(kd:Int)=8:=oM
   have b8:qh5 w.heap.size w8 a8 bw BW:=by rw[I.out,G.out,if_neg sM,if_neg h8,List.append_nil];exact U
   have M:=g
   clear U g b0 b7
   obtain⟨w9,rfl⟩:∃x,x=w8:=⟨_,rfl⟩
   obtain⟨aa,rfl⟩:∃x,x=a8:=⟨_,rfl⟩
   go_wp2_with fail
 all_goals (
  clear k0 k1 k2 k3 k4 k5 k6 k7 k8 k9 da db d)
 all_goals (
  clear ea ee bf G I e9 fv bm fw fx fy e8 ez e1 e2 hh
  obtain⟨v9,g0,g2⟩:=b8.is
  clear b8
  have hn27:27<=BW.length:=by rw[av.out];omega
  obtain⟨b,cap,ys,rfl,O,g3,g4,g5,hbl⟩:=g2.row oM
  have ac:=eg.out
  have C:=eh.out
  have D:=bg.out
  have g6:=HR.out
  have hnle:BW.length<=60000:=by rw[av.out,<-C];exact h6
  have g7:BR.length=BW.length:=by rw[C,av.out]
  have bn:=ef.out
  clear av eg eh bg HR ef g2 C
  generalize hn:BW.length=n at *
  have p:=Qeu w9.drew aa qa2 n 2 oM oM oM
  have bo:=O.drew
  have ad:=g0.drew
  have bp:=M.drew
  have c0:=ad.at 0 rfl
  have e3:=Qam n oM
  have bq:2=Nat.min (leB n 2).length n:=by rw[Qaa];exact(Nat.min_eq_left oM).symm
  have g8:0+2<=(u8s BW++ys).length:=by rw[Z6,Qac,hn];omega
  have ae:over (u8s BW++ys) 0 (u8s ((leB n 2).take 2))=u8s BL++ys:=by
   rw[Qgv _ _ _ _ (by rw[Qac,Qac,hn,List.length_take,Qaa];omega),Qby _ _ _ _ (Qaa n 2).symm,D]
  have g9:IsB BL:=by rw[D];exact Qaw bn (Qan _ _) _
  obtain⟨q,br,bs,bv,bz,ga,Hover,i6,a,dd,gb⟩:=qg6 p bo ad bp bq g8 ae g6 ac g7 g9
  clear p bo ad bp bq g8 ae hn D g6 ac g7 g9 bn O g0 M
  have de:w9.drew.cell? ⟨bw,0,none⟩=some (.slice (some ⟨b,0,none⟩) n cap):=c0
  clear c0
  refine Qaf (S:=fun w':World=>w'.cell? ⟨bw,0,none⟩=some (.slice (some ⟨b,0,none⟩) n cap)) kR ?_
  refine tk0 [0,1,2,3,4,5,6,7,8,9] ?_
  iterate 10
   refine tkv (v:=?_) ?_ ?_
   rotate_left
   ·intro w df;(try dsimp only at df);go_simp
    all_goals with_reducible rfl
   try simp only[Act.put,lz1,lz2,lz3]
  refine tk9 ?_
  clear de
  refine Qst (i:=10) dK rfl (fun K h=>?_)
  go_simp
  go_at_call 147
  refine q.mono ?_
  rintro e wA ⟨uA,gd,rfl,dh,ge,gf⟩
  have b9:=Step.of nil gf ge
  have ag:=bs.step b9 id
  have cc:=br.step b9 id
  have cd:=bv.trans b9
  have d0:=ag.at 0 rfl
  obtain⟨pA,cA,rfl,-,-⟩:=dh.any
  obtain⟨gg,ce,cf,ch⟩:=qb9 dh ag cc cd
  clear dh ag cc cd ge gf b9 bs br bv q
  refine h.out _ _ (fun _=>d0) ?_
  clear h K
  refine Qst (i:=11) dK rfl (fun K h=>?_)
  refine Qbb ch cf (.inr hbl) gg 2 bz ga rfl _ _ rfl rfl rfl ?_
  intro wB ah ci gi
  rw[Hover.out] at ah
  have ai:=ce.step gi dC
  have e0:=ai.at 0 rfl
  obtain⟨aj,cj,gj⟩:=qan ah ci ai
  clear ah ci ai gi
  refine h.out _ _ (fun _=>e0) ?_
  clear h K
  refine Qad kR ?_ _
  have ak:=NB.mk' (n0:=w.heap.size) aj gb (by rw[a.out];exact g3) (by rw[a.out];exact g4) g5 hbl
  rw[a.out] at ak
  have al:=(ak.bytes).sub 6 n (cap-6) oM oM oM oM
  rw[Nat.zero_add,List.take_of_length_le (by rw[List.length_drop,a.out];omega)] at al
  have y:(BL.drop 6).length=n-6:=by rw[List.length_drop,a.out]
  have am:=gj.drew
  have f1:=am.at 0 rfl
  have E:(wB.drew.alloc (.cells #[.slice (some ⟨b,6,none⟩) (n-6) (cap-6)] 58)).cell? ⟨wB.drew.heap.size,0,none⟩=some (.slice (some ⟨b,6,none⟩) (n-6) (cap-6)):=(Own.new wB.drew gd qa2 58 [.slice (some ⟨b,6,none⟩) (n-6) (cap-6)]).at 0 rfl
  rw[<-y] at E
  have z:=Qqe E (by have:=al.drew.alloc (.cells #[.slice (some ⟨b,6,none⟩) (n-6) (cap-6)] 58);rw[<-y] at this;exact this) (by rw[y];omega)
  rw[y] at z
  have i7:=Qh8 (BL.drop 6) (n-6)
  rw[<-y] at i7
  have di:=i6.out
  rw[<-y] at z
  generalize qeg (BL.drop 6) (BL.drop 6).length=s at *
  rw[y] at z
  have hsw:=Qam s oM
  have an:=am.alloc (.cells #[.slice (some ⟨b,6,none⟩) (n-6) (cap-6)] 58)
  have g1:=an.at 0 rfl
  have ck:=aj.drew.alloc (.cells #[.slice (some ⟨b,6,none⟩) (n-6) (cap-6)] 58)
  have cm:=cj.drew.alloc' (.cells #[.slice (some ⟨b,6,none⟩) (n-6) (cap-6)] 58)
  have p:=Qeu (wB.drew.alloc (.cells #[.slice (some ⟨b,6,none⟩) (n-6) (cap-6)] 58)) gd qa2 s 4 oM oM oM
  have cn:4=Nat.min (leB s 4).length (n-2):=by rw[Qaa];exact(Nat.min_eq_left oM).symm
  have gk:2+4<=(u8s BL++ys).length:=by rw[Z6,Qac,a.out];omega
  have ao:over (u8s BL++ys) 2 (u8s ((leB s 4).take 4))=u8s BR++ys:=by
   rw[Qgv _ _ _ _ (by rw[Qac,Qac,a.out,List.length_take,Qaa];omega),Qby _ _ _ _ (Qaa s 4).symm,di]
  have gl:IsB BR:=by rw[di];exact Qaw gb (Qan _ _) _
  have n2:¬cap=2:=oM
  have n4:¬cap=6:=oM
  have n7:(2:Int)<=n:=oM
  have n8:(6:Int)<=n:=oM
  obtain⟨gm,co,cq,cr,q,gn,i9,dj,ia⟩:=qgw z an ck cm p cn gk ao gl
  clear z an ck cm p cn gk ao gl ak al y am E bz ga Hover ce cf ch gg di e0 d0 aj cj
  have de:wB.drew.cell? ⟨bw,0,none⟩=some (.slice (some ⟨b,0,none⟩) n cap):=f1
  clear f1
  go_wp2_with fail
  refine Qaf (S:=fun w':World=>w'.cell? ⟨bw,0,none⟩=some (.slice (some ⟨b,0,none⟩) n cap)) kR ?_
  refine tk0 [0,1,2,3,4,5,6,7,8,9] ?_
  iterate 10
   refine tkv (v:=?_) ?_ ?_
   rotate_left
   ·intro w df;(try dsimp only at df);go_simp
    all_goals with_reducible rfl
   try simp only[Act.put,lz1,lz2,lz3]
  refine tk9 ?_
  clear de
  refine Qst (i:=10) dK rfl (fun K h=>?_)
  go_simp
  refine h.out _ _ (fun _=>g1) ?_
  clear h K
  refine Qst (i:=11) dK rfl (fun K h=>?_)
  go_simp
  go_at_call 148
  refine gm.mono ?_
  rintro e wE ⟨rfl,rfl⟩
  refine h.out _ _ (fun _=>g1) ?_
  clear h K
  refine Qst (i:=12) dK rfl (fun K h=>?_)
  go_simp
  refine h.out _ _ (fun _=>g1) ?_
  clear h K
  refine Qst (i:=13) dK rfl (fun K h=>?_)
  go_simp
  go_at_call 147
  refine q.mono ?_
  rintro e wF ⟨uF,ib,rfl,dk,gq,gr⟩
  have ba:=Step.of nil gr gq
  have ap:=co.step ba id
  have cs:=cq.step ba id
  have cv:=cr.trans ba
  have m0:=ap.at 0 rfl
  obtain⟨pF,cF,rfl,-,-⟩:=dk.any
  obtain⟨ic,gs,gv,gw⟩:=qb9 dk ap cs cv
  clear dk ap cs cv gq gr ba co cq cr q
  refine h.out _ _ (fun _=>m0) ?_
  clear h K
  refine Qst (i:=14) dK rfl (fun K h=>?_)
  refine Qbb gw gv (.inr hbl) ic 4 gn i9 rfl _ _ rfl rfl rfl ?_
  intro wG aq cw gx
  rw[dj.out] at aq
  have cx:=gs.step gx dC
  have o0:=cx.at 0 rfl
  obtain⟨gy,gz⟩:=qaj aq cw
  clear aq cw cx gx
  refine h.out _ _ (fun _=>o0) ?_
  clear h K
  refine Qad kR ?_ _
  go_wp2_with fail
  go_ret2
  have a5:=NB.mk' (n0:=w.heap.size) gy ia (by rw[dd.out];exact g3) (by rw[dd.out];exact g4) g5 hbl
  rw[dd.out] at a5
  exact⟨_,ib,rfl,a5,gz⟩)
theorem Qjx (x k:Nat) (l:List Int) (a:x<2 ^ (8*k)):qem k (leB x k++l)=some (x,l):=by
 have hl:=Qaa x k
 unfold qem
 rw[if_neg (by rw[Z6,hl];omega),List.take_left' hl,List.drop_left' hl,Qdl x k k (Z0 _),Nat.mod_eq_of_lt a]
theorem Qnx (x:Nat) (l:List Int) (h:x<256):qem 1 (leB x 1++l)=some (x,l):=Qjx x 1 l h
theorem Qxf (x:Nat) (l:List Int) (h:x<65536):qem 2 (leB x 2++l)=some (x,l):=Qjx x 2 l h
theorem Qnw (x:Nat) (l:List Int) (h:x<4294967296):qem 4 (leB x 4++l)=some (x,l):=Qjx x 4 l (by rw[show (2:Nat) ^ (8*4)=4294967296 from by decide];exact h)
theorem Qsb (x:Nat) (l:List Int) (h:x<18446744073709551616):qem 8 (leB x 8++l)=some (x,l):=Qjx x 8 l (by rw[show (2:Nat) ^ (8*8)=18446744073709551616 from by decide];exact h)
theorem Qmv (a l:List Int):qg2 a.length (a++l)=some (a,l):=by
 unfold qg2
 rw[if_neg (by rw[Z6];omega),List.take_left' rfl,List.drop_left' rfl]
theorem Qmw (b l:List Int) (h:b.length<=255):Qi8 (leB b.length 1++(b++l))=some (b,l):=by
 unfold Qi8
 rw[Qnx _ _ oM]
 exact Qmv b l
theorem Qqy (c:qa7) (l:List Int) (b:c.page<4294967296) (d:c.slot<65536) (h1:c.before.length<=255) (h2:c.after.length<=255):Qd3 (qj4 c++l)=some (c,l):=by
 obtain⟨pg,sl,hd,a,be,af⟩:=c
 dsimp only at b d h1 h2
 unfold Qd3 qj4
 simp only[Y9]
 rw[Qnw _ _ b]
 simp only[Z8]
 rw[Qxf _ _ d]
 simp only[Z8]
 rw[Qnx _ _ (by have:=Qoc hd a;omega)]
 simp only[Z8]
 rw[if_neg (by have:=Qoc hd a;omega),Qmw _ _ h1]
 simp only[Z8]
 rw[Qmw _ _ h2]
 cases hd <;> cases a <;> simp[qhx]
theorem Qh3(h:qes r=true) (g:r.kind≠8):r.qbm=[]/\r.pages=[]/\(qgb r.kind=false->r.change=noChange)/\r.change.before.length<=64/\r.change.after.length<=64:=by
 obtain⟨k,tx,pv,nx,⟨pg,sl,hd,hs,be,i⟩,ts,ps⟩:=r
 unfold qes qep qef at h
 simp only[Bool.and_eq_true,Bool.not_eq_true',Bool.or_eq_false_iff,decide_eq_false_iff_not,Bool.and_eq_false_iff,Bool.not_eq_false',Bool.or_eq_true,decide_eq_true_eq] at h
 dsimp only at h g ⊢
 obtain⟨⟨_,h2⟩,⟨⟨⟨⟨h3,h4⟩,j⟩,l⟩,e⟩,_⟩:=h
 have hl:ts.length+ps.length=0:=by rcases h2 with h2|h2 <;> omega
 refine⟨List.eq_nil_of_length_eq_zero oM,List.eq_nil_of_length_eq_zero oM,fun n=>?_,oM,oM⟩
 rcases e with e|⟨⟨⟨a,b⟩,c⟩,d⟩
 ·rw[n] at e;cases e
 ·subst a b c d
  simp only[Bool.false_eq_true,false_or] at j l
  rw[List.eq_nil_of_length_eq_zero (by omega:be.length=0),List.eq_nil_of_length_eq_zero (by omega:i.length=0)]
  rfl
def Qbv (r:qak):List Int:=leB r.kind 1++leB r.txn 4++leB r.prev 8++leB r.next 8++qb2 r
theorem Qz2 (r:qak):encR r=leB (27+(qb2 r).length) 2++(leB (qeg (Qbv r) (Qbv r).length) 4++Qbv r):=by
 have h0:qej r=List.replicate 6 0++Qbv r:=by simp only[qej,Qbv,Y9]
 have h1:qe8 r=leB (27+(qb2 r).length) 2++(List.replicate 4 0++Qbv r):=by
  unfold qe8
  rw[Qco,h0]
  unfold qbf
  rw[Qaa]
  rfl
 have h2:(qe8 r).drop 6=Qbv r:=by
  rw[h1,<-Y9,List.drop_left' (by rw[Z6,Qaa];rfl)]
 unfold encR
 rw[h2,h1]
 unfold qbf
 have hl:=Qaa (27+(qb2 r).length) 2
 rw[Qaa,List.take_left' hl,Y9]
 congr 2
structure qak.ok (r:qak):Prop where
 may:qes r=true
 k8:r.kind≠8
 txn:r.txn<4294967296
 prev:r.prev<18446744073709551616
 next:r.next<18446744073709551616
 page:r.change.page<4294967296
 slot:r.change.slot<65536
theorem qak.ok.kind(h:r.ok):r.kind<256:=by
 have:=h.may
 unfold qes qep at this
 simp only[Bool.and_eq_true,Bool.not_eq_true',Bool.or_eq_false_iff,decide_eq_false_iff_not] at this
 omega
theorem qak.ok.body(h:r.ok):(qb2 r).length<=137:=by
 obtain⟨_,_,_,h1,h2⟩:=Qh3 h.may h.k8
 unfold qb2
 split
 ·rw[Qhi];omega
 ·rw[if_neg h.k8];simp
theorem Qyf(h:r.ok):qev r.kind (qb2 r)=some ((r.change,[],[]),[]):=by
 obtain⟨ht,hp,b,hb,ha⟩:=Qh3 h.may h.k8
 unfold qev qb2
 by_cases a:qgb r.kind=true
 ·rw[if_pos a,if_pos a]
  have:=Qqy r.change [] h.page h.slot oM oM
  rw[List.append_nil] at this
  rw[this,Z8]
 ·rw[if_neg a,if_neg a,if_neg h.k8,if_neg h.k8,b (by simpa using a)]
theorem qfb {α β:Type} {o:Option α} {x:α}(h:o=some x) (f:α->Option β):o.bind f=f x:=by rw[h];rfl
theorem Qy7 {l e T g i j:List Int} {a:List Int} {c t p n:Nat} {ch:qa7}(h2:qg2 2 l=some (a,e)) (q:qem 4 e=some (c,T)) (d:c=qeg T T.length) (s:qem 1 T=some (k,g)) (x:qem 4 g=some (t,i)) (y:qem 8 i=some (p,j)) {o:List Int}(z:qem 8 j=some (n,o)) (B:qev k o=some ((ch,[],[]),[])) (C:qes ⟨k,t,p,n,ch,[],[]⟩=true):qct l=some ⟨k,t,p,n,ch,[],[]⟩:=by
 unfold qct
 refine(qfb h2 _).trans ((qfb q _).trans ?_)
 refine(if_neg (fun h=>h d)).trans ?_
 refine(qfb s _).trans ((qfb x _).trans ((qfb y _).trans ((qfb z _).trans ((qfb B _).trans ?_))))
 refine if_neg ?_
 rintro(b|b)
 ·exact absurd b (Nat.lt_irrefl 0)
 ·rw[C] at b;cases b
theorem Qw1(h:r.ok) (c:Nat) (b:c=qeg (Qbv r) (Qbv r).length) (j:c<4294967296) (n:Nat):qct (leB n 2++(leB c 4++Qbv r))=some r:=by
 obtain⟨d,e,-⟩:=Qh3 h.may h.k8
 have a:=Qyf h
 have g:(⟨r.kind,r.txn,r.prev,r.next,r.change,[],[]⟩:qak)=r:=by
  obtain⟨a1,a2,a3,a4,a5,a6,a7⟩:=r
  simp only at d e
  subst d e
  rfl
 have h2:=Qmv (leB n 2) (leB c 4++Qbv r)
 rw[Qaa] at h2
 have l:=Qnw c (Qbv r) j
 have o:qem 1 (Qbv r)=some (r.kind,leB r.txn 4++(leB r.prev 8++(leB r.next 8++qb2 r))):=by
  have:=Qnx r.kind (leB r.txn 4++(leB r.prev 8++(leB r.next 8++qb2 r))) h.kind
  unfold Qbv
  simp only[Y9]
  exact this
 have i:=h.may
 rw[<-g] at i
 exact(Qy7 h2 l b o (Qnw r.txn _ h.txn) (Qsb r.prev _ h.prev) (Qsb r.next _ h.next) a i).trans (by rw[g])
theorem Qtz(h:r.ok) (l:List Int):Qd1 (encR r++l)=some (r,(encR r).length):=by
 have b:=Qbh r
 have hbl:=h.body
 have e:=Qz2 r
 have c:=Qh8 (Qbv r) (Qbv r).length
 have a:=Qw1 h (qeg (Qbv r) (Qbv r).length) rfl c (27+(qb2 r).length)
 rw[<-e] at a
 have hn:leN ((encR r++l).take 2) 2=(encR r).length:=by
  rw[b,e,Y9,List.take_left' (Qaa _ _),Qdl _ 2 2 (Z0 _),Nat.mod_eq_of_lt oM]
 have h1:¬(encR r++l).length<27:=by rw[Z6];omega
 have h2:(encR r).length<=(encR r++l).length:=by rw[Z6];omega
 have d:(encR r++l).take (encR r).length=encR r:=List.take_left' rfl
 clear e
 unfold Qd1
 generalize encR r++l=Z at *
 generalize encR r=E at *
 generalize (leN (Z.take 2) 2)=m at *
 subst hn
 rw[if_neg h1,if_neg oM,d,a,Option.map_some]
def qa7.turned (c:qa7):qa7:=⟨c.page,c.slot,c.has,c.had,c.after,c.before⟩
def qhk (c:qa7) (pb:Option Addr) (cb:Nat) (pa:Option Addr) (ca:Nat):Array Value:=#[.int .u32 c.page,.int .u16 c.slot,.bool c.had,.bool c.has,.slice pb c.before.length cb,.slice pa c.after.length ca]
def tTn:Tag:=(207,0)
theorem Qml(c:qa7) {pb pa:Option Addr}{cb ca:Nat}(hb:Bytes w τ qa2 (.slice pb c.before.length cb) c.before) (ha:Bytes w τ qa2 (.slice pa c.after.length ca) c.after) (h1:c.before.length<=100000) (h2:c.after.length<=100000) :
 Calls Tryz.prog 156 #[.agg (qhk c pb cb pa ca)] w fun e w'=>∃B kb C D Y,e = .returned (.agg (qhk c.turned B kb C D))/\Bytes w' Y qa2 (.slice B c.after.length kb) c.after/\Bytes w' Y qa2 (.slice C c.before.length D) c.before/\Step w τ w' Y nil:=by
 unfold qhk qa7.turned
 obtain⟨pg,sl,hd,q,be,af⟩:=c
 dsimp only at *
 generalize s:be.length=nb at *
 generalize x:af.length=na at *
 have ho:=Own.born w τ tTn 70 #[.int .u32 pg,.int .u16 sl,.bool hd,.bool q,.slice pb nb cb,.slice pa na ca]
 have a6:=(zS w τ).alloc (.cells #[.int .u32 pg,.int .u16 sl,.bool hd,.bool q,.slice pb nb cb,.slice pa na ca] 70) tTn
 obtain⟨bt,a7⟩:=gN w.heap.size
 have a8:(w.alloc (.cells #[.int .u32 pg,.int .u16 sl,.bool hd,.bool q,.slice pb nb cb,.slice pa na ca] 70)).heap.size=w.heap.size+1:=World.size_alloc _ _
 generalize τ.put w.heap.size tTn=τ1 at *
 rw[a7] at ho
 generalize a9:w.alloc (.cells #[.int .u32 pg,.int .u16 sl,.bool hd,.bool q,.slice pb nb cb,.slice pa na ca] 70)=W1 at *
 have hz:=Own.born W1 τ1 tTn 70 #[.int .u32 0,.int .u16 0,.bool false,.bool false,.slice none 0 0,.slice none 0 0]
 have l:=(zS W1 τ1).alloc (.cells #[.int .u32 0,.int .u16 0,.bool false,.bool false,.slice none 0 0,.slice none 0 0] 70) tTn
 rw[a8,a7] at hz l
 have d:=ho.step l id
 have n:=a6.trans l
 generalize τ1.put (bt+1) tTn=y at *
 generalize aa:W1.alloc (.cells #[.int .u32 0,.int .u16 0,.bool false,.bool false,.slice none 0 0,.slice none 0 0] 70)=W2 at *
 have Z:=hb.step n id
 have E:=ha.step n id
 have a0:∀W T,Step W2 y W T nil->W.cell? ⟨bt,0,none⟩=some (.int .u32 pg)/\W.cell? ⟨bt,1,none⟩=some (.int .u16 sl)/\W.cell? ⟨bt,2,none⟩=some (.bool hd)/\W.cell? ⟨bt,3,none⟩=some (.bool q)/\W.cell? ⟨bt,4,none⟩=some (.slice pb nb cb)/\W.cell? ⟨bt,5,none⟩=some (.slice pa na ca):=fun W T m=>⟨(d.step m id).at 0 rfl,(d.step m id).at 1 rfl,(d.step m id).at 2 rfl,(d.step m id).at 3 rfl,(d.step m id).at 4 rfl,(d.step m id).at 5 rfl⟩
 have F:Step W2 y W2.drew y nil:=(zS W2 y).drew
 have ax:=a0 _ _ F
 rw[<-x] at E
 have a1:=Qeb (E.step F id) qa2 (by rw[x];omega)
 rw[x] at a1 E
 have a2:=fun (W:World) (T:qa1) (m:Step W2 y W T nil)=>Qeb (by rw[<-s] at Z;exact Z.step m id) qa2 (by rw[s];omega)
 rw[s] at a2
 obtain⟨Hz,ab,ac,ay,az,b0,b1,b2,b3,b4⟩:=qhe hz n a0 F a1 a2 s x a9 aa
 clear ho a6 hz l d n Z E a0 F a1 a2 s x a9 aa a8 hb ha
 go_enter Tryz.func156,Tryz.ntmps156
 go_wp2_with fail
 rw[b3.out]
 try rw[b4.out]
 refine Qaf (S:=fun W:World=>W.cell? ⟨bt,0,none⟩=some (.int .u32 pg)/\W.cell? ⟨bt,1,none⟩=some (.int .u16 sl)/\W.cell? ⟨bt,2,none⟩=some (.bool hd)/\W.cell? ⟨bt,3,none⟩=some (.bool q)/\W.cell? ⟨bt,4,none⟩=some (.slice pb nb cb)/\W.cell? ⟨bt,5,none⟩=some (.slice pa na ca)) kR ?_
 refine tk0 [0,1,2,3,4,5,6,7,8,9,11,12] ?_
 iterate 12
  refine tkv (v:=?_) ?_ ?_
  rotate_left
  ·intro w b5;(try dsimp only at b5);go_simp
   all_goals with_reducible rfl
  try simp only[Act.put,lz1,lz2,lz3]
 refine tk9 ?_
 try simp only[lz4,lz5,lz6,lz1,lz2,lz3]
 refine Qst (i:=10) dK rfl (fun K z=>?_)
 go_simp
 go_at_call 72
 refine az.mono ?_
 rintro e w3 ⟨u3,τ3,rfl,G,ad,ae⟩
 have ag:=Step.of nil ae ad
 have I:=ay.trans ag
 obtain⟨B,kb,rfl,-,-⟩:=G.any
 have ah:=ac _ _ I
 have M:=b0 _ _ I
 rw[b2.out] at G ⊢
 obtain⟨b6,b7,ai⟩:=qan G I M
 clear G I M ag ad ae ax
 refine z.out _ _ (fun _=>ah) ?_
 clear z K
 refine Qst (i:=13) dK rfl (fun K z=>?_)
 go_simp
 go_at_call 72
 refine ai.mono ?_
 rintro e w4 ⟨u4,p,rfl,J,ak,al⟩
 have a3:=Step.of nil al ak
 have L:=b7.trans a3
 obtain⟨C,D,rfl,-,-⟩:=J.any
 have a4:=ac _ _ L
 have O:=b6.step a3 id
 rw[b1.out] at J ⊢
 have a:=Hz.step L id
 have R:=ab.trans L
 have d0:=a.at 0 rfl
 have y0:=a.fz 0
 have d1:=a.at 1 rfl
 have y1:=a.fz 1
 have d2:=a.at 2 rfl
 have y2:=a.fz 2
 have d3:=a.at 3 rfl
 have y3:=a.fz 3
 have d4:=a.at 4 rfl
 have y4:=a.fz 4
 have d5:=a.at 5 rfl
 have y5:=a.fz 5
 obtain⟨b8,am,g,an⟩:=qb9 J O a R
 clear J O L a R a3 ak al ah
 refine z.out _ _ (fun _=>a4) ?_
 clear z K
 refine Qst (i:=14) dK rfl (fun K z=>?_)
 go_simp
 refine z.out _ _ (fun _=>a4) ?_
 clear z K
 refine Qst (i:=15) dK rfl (fun K z=>?_)
 go_simp
 have j:Own _ p (bt+1) tTn 70 [.int .u32 pg,.int .u16 sl,.bool q,.bool hd,.slice B na kb,.slice C nb D]:=((((((g.set 0 (.int .u32 pg)).set 1 (.int .u16 sl)).set 2 (.bool q)).set 3 (.bool hd)).set 4 (.slice B na kb)).set 5 (.slice C nb D))
 have a5:Step w4 p ((((((w4.setCell ⟨bt+1,0,none⟩ (.int .u32 pg)).setCell ⟨bt+1,1,none⟩ (.int .u16 sl)).setCell ⟨bt+1,2,none⟩ (.bool q)).setCell ⟨bt+1,3,none⟩ (.bool hd)).setCell ⟨bt+1,4,none⟩ (.slice B na kb)).setCell ⟨bt+1,5,none⟩ (.slice C nb D)) p (fun t=>t=tTn):=(((((((Step.refl w4 p (fun t=>t=tTn)).set (o:=0) g.tag rfl _).set (o:=1) g.tag rfl _).set (o:=2) g.tag rfl _).set (o:=3) g.tag rfl _).set (o:=4) g.tag rfl _).set (o:=5) g.tag rfl _)
 have U:Step w τ ((((((w4.setCell ⟨bt+1,0,none⟩ (.int .u32 pg)).setCell ⟨bt+1,1,none⟩ (.int .u16 sl)).setCell ⟨bt+1,2,none⟩ (.bool q)).setCell ⟨bt+1,3,none⟩ (.bool hd)).setCell ⟨bt+1,4,none⟩ (.slice B na kb)).setCell ⟨bt+1,5,none⟩ (.slice C nb D)) p nil:=((((((an.qa3 (b:=bt+1) (o:=0) oM _).qa3 (b:=bt+1) (o:=1) oM _).qa3 (b:=bt+1) (o:=2) oM _).qa3 (b:=bt+1) (o:=3) oM _).qa3 (b:=bt+1) (o:=4) oM _).qa3 (b:=bt+1) (o:=5) oM _)
 have ao:=b8.step a5 dC
 have X:=am.step a5 dC
 refine z.out _ _ (fun h=>absurd h dK) ?_
 clear z K a5 a4 d0 y0 d1 y1 d2 y2 d3 y3 d4 y4 d5 y5
 generalize ((((((w4.setCell ⟨bt+1,0,none⟩ (.int .u32 pg)).setCell ⟨bt+1,1,none⟩ (.int .u16 sl)).setCell ⟨bt+1,2,none⟩ (.bool q)).setCell ⟨bt+1,3,none⟩ (.bool hd)).setCell ⟨bt+1,4,none⟩ (.slice B na kb)).setCell ⟨bt+1,5,none⟩ (.slice C nb D))=w5 at *
 refine Qad kR ?_ _
 have f0:=j.at 0 rfl
 have f1:=j.at 1 rfl
 have f2:=j.at 2 rfl
 have f3:=j.at 3 rfl
 have f4:=j.at 4 rfl
 have f5:=j.at 5 rfl
 obtain⟨ap,b9,aq⟩:=qan U ao X
 clear j U ao X
 go_wp2_with fail
 refine bodyPost_ret (by simp[results,Tryz.results156,go_sem,f0,f1,f2,f3,f4,f5];try rfl) rfl ?_
 exact⟨B,kb,C,D,p,rfl,aq,b9,ap⟩
def Qf5 (c:qa7) (tx pv nx:Nat):qak:=⟨3,tx,pv,nx,c.turned,[],[]⟩
theorem Qw8 {tx pv nx:Nat} {c:qa7} {pb pa:Option Addr} {cb ca:Nat}(a:Bytes w τ qa2 (.slice pb c.before.length cb) c.before) (b:Bytes w τ qa2 (.slice pa c.after.length ca) c.after) (h1:k<256) (h2:tx<4294967296) (d:pv<18446744073709551616) (e:nx<18446744073709551616) (g:c.page<4294967296) (h:c.slot<65536) :
 qh1 w τ (.agg (rR k tx pv nx c.page c.slot c.had c.has (.slice pb c.before.length cb) (.slice pa c.after.length ca) (.slice none 0 0) (.slice none 0 0))) ⟨k,tx,pv,nx,c,[],[]⟩ :=
 ⟨⟨pb,cb,pa,ca,none,0,none,0,qay,qay,0,rfl,a,b,NS.nil _ _ _ _ _ _ _,NS.nil _ _ _ _ _ _ _,by simp[WrT,qay,tWr,tWb],by simp[WrT,qay,tWr,tWb]⟩,h1,h2,d,e,g,h⟩
theorem Qkc (c:qa7) (tx pv nx:Nat):(encR (Qf5 c tx pv nx)).length=36+c.before.length+c.after.length:=by
 rw[Qbh]
 unfold qb2 Qf5
 rw[if_pos (by rfl),Qhi]
 show 27+(9+c.after.length+c.before.length)=_
 omega
theorem Qj9(c:qa7) {pb pa:Option Addr}{cb ca:Nat}(hb:Bytes w τ qa2 (.slice pb c.before.length cb) c.before) (ha:Bytes w τ qa2 (.slice pa c.after.length ca) c.after) (a:qes (Qf5 c 0 0 0)=true) (h5:c.page<4294967296) (h6:c.slot<65536) :
 Calls Tryz.prog 152 #[.agg (qhk c pb cb pa ca)] w fun e w'=>e = .returned (.int .u64 ((36+c.before.length+c.after.length:Nat):Int))/\∃M,Step w τ w' M nil:=by
 obtain⟨-,-,-,O,R⟩:=Qh3 a (by show (3:Nat)≠8;omega)
 change c.after.length<=64 at O
 change c.before.length<=64 at R
 have g:=Qkc c 0 0 0
 have l:=Own.born w τ tTn 70 (qhk c pb cb pa ca)
 have d:=(zS w τ).alloc (.cells (qhk c pb cb pa ca) 70) tTn
 have n:=hb.step d id
 have o:=ha.step d id
 have q:=Qml c n o oM oM
 have b:=fun (W:World) (T:qa1) (qb:Option Addr) (kb:Nat) (qa:Option Addr) (ka:Nat) (x:Bytes W T qa2 (.slice qb c.after.length kb) c.after) (y:Bytes W T qa2 (.slice qa c.before.length ka) c.before) =>
  Qiq (Qw8 (k:=3) (tx:=0) (pv:=0) (nx:=0) (c:=c.turned) x y oM oM oM oM h5 h6) a (by rw[show (⟨3,0,0,0,c.turned,[],[]⟩:qak)=Qf5 c 0 0 0 from rfl,g];omega) (fun h=>by cases h)
 rw[show (⟨3,0,0,0,c.turned,[],[]⟩:qak)=Qf5 c 0 0 0 from rfl] at b
 generalize τ.put w.heap.size tTn=τ1 at *
 generalize encR (Qf5 c 0 0 0)=E at *
 have s:∀(W W2:World) (T:qa1) (u:Value),NB W.heap.size W2 T tWb u E->∃p L,u = .slice p (36+c.before.length+c.after.length) L:=fun W W2 T u h=>by
  obtain⟨p,L,rfl⟩:=h.val
  rw[g];exact⟨p,L,rfl⟩
 have z:((36+c.before.length+c.after.length:Nat):Int)=36+(c.before.length:Int)+c.after.length:=oM
 have hw:=Qam (36+c.before.length+c.after.length) oM
 clear a
 unfold qhk at *
 obtain⟨pg,sl,hd,hs,be,af⟩:=c
 unfold qa7.turned at *
 dsimp only at *
 generalize U:36+be.length+af.length=sz at *
 have k0:=l.at 0 rfl
 have k1:=l.at 1 rfl
 have k2:=l.at 2 rfl
 have k3:=l.at 3 rfl
 have k4:=l.at 4 rfl
 have k5:=l.at 5 rfl
 obtain⟨X,Y,B,Z⟩:=qb9 d q b s
 clear l d n o q b s U z hb ha
 go_enter Tryz.func152,Tryz.ntmps152
 go_wp2_with fail
 refine Y.mono ?_
 rintro e w2 ⟨qb,kb,qa,ka,τ2,rfl,hx,hy,C⟩
 have D:=B _ _ _ _ _ _ hx hy
 have i:=X.trans C
 obtain⟨a0,F⟩:=qaj D i
 clear D i hx hy C k0 k1 k2 k3 k4 k5
 go_wp2_with fail
 refine a0.mono ?_
 rintro e w3 ⟨u,a1,rfl,G,I⟩
 obtain⟨p,L,rfl⟩:=Z _ _ _ _ G
 have j:=F.trans I
 have J:=Z2 j
 clear j I G
 go_wp2_with fail
 go_ret
 exact⟨rfl,a1,J⟩
def Small (P:List Int):Prop:=∀t,(qb7 P t).length<=4/\(12<=t->qb7 P t=[])
theorem Small.room(h:Sound P) (a:Small P) (s k:Nat) (hs:s<12) (hk:k<=64):16+4*max (qa0 P) (s+1)+qd4 P+k<=448:=by
 have hl:∀t,qad P t=(qb7 P t).length:=fun t=>(Qbm h.tidy.lies.fit h.tidy.len t).symm
 have hc:qa0 P<=12:=by
  have hi:=Qcn P (qa0 P)
  rw[h.head] at hi
  rcases hi.last with h0|h0
  ·simp only at h0;omega
  ·simp only at h0
   rcases Nat.lt_or_ge (qa0 P-1) 12 with h1|h1
   ·omega
   ·rw[hl,(a _).2 h1] at h0;simp at h0
 have b:∀q,qbs P q<=q*4:=by
  intro q
  induction q with
  | zero=>simp[qbs]
  | succ q ih =>
    have:=(a q).1
    rw[<-hl] at this
    show qbs P q+qad P q<=_
    omega
 have:=b (qa0 P)
 unfold qd4
 omega
structure qh2 (P Q:List Int) (s:Nat) (m:List Int):Prop where
 sound:Sound Q
 num:qa8 Q=qa8 P
 lsn:qaa Q=qaa P
 data:∀t,qb7 Q t=if t=s then m else qb7 P t
theorem qh2.small {Q:List Int} {s:Nat} {m:List Int}(h:qh2 P Q s m) (a:Small P) (hs:s<12) (b:m.length<=4):Small Q:=fun t=>by
 rw[h.data]
 by_cases e:t=s
 ·rw[if_pos e];exact⟨b,fun h=>oM⟩
 ·rw[if_neg e];exact a t
def qa7.now (c:qa7):List Int:=if c.has=true then c.after else []
def qfg:Tag:=(209,0)
theorem Qy4 {g:Tag} {b:Nat}(h:qag w τ g b P) (O:Sound P) (hp:Small P) (s:Nat) (o:s<12) (has:Bool) {v:Value}{R:Tag}{m:List Int}(U:Bytes w τ R v m) (X:R≠qfg) (h0:has=true->0<m.length) (p:m.length<=64) :
 Calls Tryz.prog 151 #[.pointer (some ⟨b,0,none⟩),.int .i64 s,.bool has,v] w fun e w'=>e = .returned (.int .u16 0)/\∃Y,Step w τ w' Y (fun t=>t=qfg):=by
 cases has with
 | false =>
   go_enter Tryz.func151,Tryz.ntmps151
   go_wp2_with fail
   go_ret
   exact⟨rfl,τ,Step.refl _ _ _⟩
 | true =>
   have z:=Qhy h qa2
   have a:=Small.room O hp s m.length o p
   have B:=fun (W:World) (T:qa1) (u:Value) (x:Bytes W T qa2 u P)=>Qg4 (g:=qfg) x O
   have c:=fun (W:World) (T:qa1) (q:Nat) (x:qag W T qfg q P) (y:Bytes W T R v m)=>Qk1 dC x O (s:Int) y X
   have C:=fun (Q:List Int) (er:Nat) (x:qj0 P Q (s:Int) m er)=>x.room s rfl oM (h0 rfl) p a
   obtain⟨pv,cv,rfl,-,-⟩:=U.any
   obtain⟨Z,a0,D,a1,Hb⟩:=qbq z B c C U
   clear z B c C U h O hp a
   go_enter Tryz.func151,Tryz.ntmps151
   go_wp2_with fail
   refine Z.mono ?_
   rintro e w1 ⟨u,τ1,rfl,E,l⟩
   have d:=a0 _ _ _ E.bytes
   have F:=Hb.step l id
   obtain⟨G,a2,a3⟩:=qan d l F
   clear d l F E
   go_wp2_with fail
   refine G.mono ?_
   rintro e w2 ⟨q,τ2,rfl,hlow,hq,n⟩
   have I:=D _ _ _ hq (a3.step n id)
   have i:=(a2.trans n).mono (T:=fun t=>t=qfg) (fun _ h=>h.elim)
   obtain⟨a4,J⟩:=qaj I i
   clear I i n hq
   go_wp2_with fail
   refine a4.mono ?_
   rintro e w3 ⟨er,Q,a5,rfl,hr,-,L⟩
   obtain rfl:=a1 _ _ hr
   have j:=J.trans L
   have M:=Z2 j
   clear j L hr
   go_wp2_with fail
   go_ret
   exact⟨rfl,a5,M⟩
theorem Qv1 {g:Tag} {b:Nat}(U:g≠qe3/\g≠qa2/\g≠qji) (h:qag w τ g b P) (z:Sound P) (hp:Small P) (c:qa7) (B:c.slot<12) {pb pa:Option Addr}{cb ca:Nat}(ha:Bytes w τ qa2 (.slice pa c.after.length ca) c.after) (h0:c.has=true->0<c.after.length) (C:c.after.length<=64) :
 Calls Tryz.prog 115 #[.pointer (some ⟨b,0,none⟩),.agg (qhk c pb cb pa ca)] w fun e w'=>e = .returned (.tuple #[])/\∃Q D,qh2 P Q c.slot c.now/\qag w' D g b Q/\Step w τ w' D (fun t=>t=g):=by
 have E:=Own.born w τ tTn 70 (qhk c pb cb pa ca)
 have d:=(zS w τ).alloc (.cells (qhk c pb cb pa ca) 70) tTn
 have F:=d.mono (T:=fun t=>t=g) (fun _ h=>h.elim)
 have h1:=h.step d id
 have G:=ha.step d id
 have i:=Small.room z hp c.slot c.after.length B C
 have o:=Qk1 U h1 z (c.slot:Int) G (fun e=>U.2.1 e.symm)
 have I:=fun (Q:List Int) (er:Nat) (hh:c.has=true) (x:qj0 P Q (c.slot:Int) c.after er)=>x.room c.slot rfl oM (h0 hh) C i
 have p:=Qhx (Step.refl _ _ (fun t=>t=g)) (.inl rfl) U.1 h1 z.tidy.lies c.slot oM
 have J:qh2 P (if 0<qad P c.slot then Qi7 P c.slot else P) c.slot []:=by
  by_cases n:0<qad P c.slot
  ·rw[if_pos n]
   have R:=z.tidy.clear n
   exact⟨R.sound,R.num,R.lsn,R.data⟩
  ·rw[if_neg n]
   refine⟨z,rfl,rfl,fun t=>?_⟩
   by_cases e:t=c.slot
   ·rw[if_pos e,e];exact Qe7 oM
   ·rw[if_neg e]
 generalize (if 0<qad P c.slot then Qi7 P c.slot else P)=PC at *
 generalize τ.put w.heap.size tTn=τ1 at *
 have q:c.now=if c.has=true then c.after else []:=rfl
 generalize c.now=now at *
 unfold qhk at *
 obtain⟨pg,sl,hd,X,be,af⟩:=c
 dsimp only at *
 have hwr:IntKind.i64.wrap (sl:Int)=sl:=Qbr sl oM
 have k1:=E.at 1 rfl
 have k3:=E.at 3 rfl
 have k5:=E.at 5 rfl
 obtain⟨Ho,Hal,L,M,Y,O,Z,s⟩:=qen E d F o I p J q
 clear E d F o I p J q h h1 ha G z hp i
 cases X with
 | true =>
   go_enter Tryz.func115,Tryz.ntmps115
   go_wp2_with fail
   refine M.mono ?_
   rintro e w2 ⟨er,Q,y,rfl,hr,n,j⟩
   obtain rfl:=Y _ _ trivial hr
   obtain⟨d1,d2,d3,d4⟩:=hr.ok rfl
   have hd:qh2 P Q sl af:=⟨d1,d2,d3,fun t=>by
    rw[d4]
    by_cases e:t=sl
    ·rw[if_pos e,if_pos oM]
    ·rw[if_neg e,if_neg oM]⟩
   have a:=L.trans j
   obtain⟨Hd,Hq,l⟩:=qan hd n a
   clear hd n a j hr d4
   go_wp2_with fail
   go_returns
   exact⟨rfl,Q,y,by rw[s.out];exact Hd,Hq,l⟩
 | false =>
   go_enter Tryz.func115,Tryz.ntmps115
   go_wp2_with fail
   refine O.mono ?_
   rintro e w2 ⟨rfl,y,n,j,-⟩
   have a:=L.trans j
   obtain⟨Hq,l⟩:=qaj n a
   clear n a j
   go_wp2_with fail
   go_returns
   exact⟨rfl,_,y,by rw[s.out];exact Z,Hq,l⟩
theorem Qg1 {bl bd:Nat} {L:qac}(hl:qaw w τ bl bd L) (hns:L.starts.length<=100000) {v:Value}{r:qak}(hv:qh1 w τ v r) (n:qes r=true) (U:(encR r).length<=60000) (o:r.kind=8->TabC r) (l:Nat) (hsp:l<18446744073709551616) (hcap:¬L.stream.length+(encR r).length+l<=L.strips*127) :
 Calls Tryz.prog 85 #[.pointer (some ⟨bl,0,none⟩),v,.int .u64 l] w fun e X=>e = .returned (.tuple #[.int .u64 0,.int .u16 80])/\∃Y,Step w τ X Y nil:=by
 have hstr:=hl.ok.strips
 have D:=hl.ok
 have hr27:0<(encR r).length:=by rw[Qbh r];omega
 obtain⟨qb,kb,qa,ka,qt,kt,qp,kp,gt,gp,n0,E,-⟩:=hv.is
 have c:=fun (W:World) (T:qa1) (m:Step w τ W T nil)=>Qiq (hv.step m) n U o
 rw[E] at c ⊢
 clear E hv n o
 generalize F:(encR r).length=rl at *
 generalize encR r=rb at *
 obtain⟨kd,tx,pv,nx,⟨pg,sl,hd,hs,be,af⟩,ts,ps⟩:=r
 dsimp only at *
 generalize be.length=lb at *
 generalize af.length=la at *
 generalize ts.length=lt at *
 generalize ps.length=lp at *
 have b:=(zS w τ).alloc' (.cells (rR kd tx pv nx pg sl hd hs (.slice qb lb kb) (.slice qa la ka) (.slice qt lt kt) (.slice qp lp kp)) 73)
 have G:=hl.step b zN
 have c:=c _ _ b
 obtain⟨I,z,Z,J,a0⟩:=qbq c b G F D
 clear c b G F D hl
 go_enter Tryz.func85,Tryz.ntmps85
 go_wp2_with fail
 generalize hW0:w.alloc (.cells (rR kd tx pv nx pg sl hd hs (.slice qb lb kb) (.slice qa la ka) (.slice qt lt kt) (.slice qp lp kp)) 73)=W0 at *
 refine I.mono ?_
 rintro e w1 ⟨u1,τ1,rfl,g,B⟩
 have C:=Z.step B zN
 have p:=z.trans B
 obtain⟨b1,cap1,ys1,rfl,-,-,-,-,-⟩:=g.row (by rw[J.out];omega)
 rw[J.out] at g ⊢
 have j:=Qnj (C.step (zS w1 τ1).drew (fun _ _ h=>h))
 obtain⟨vs,vt,M,q,s⟩:=C.is
 obtain⟨ps,cs,rfl⟩:=q.len
 obtain⟨pt,ct,rfl⟩:=s.len
 have O:=M.drew.at 7 rfl
 generalize hen:L.base+L.stream.length=en at *
 generalize hR:L.strips*127=R at *
 have hR3:R<=300000:=oM
 have hRw:=Qam R oM
 have hokl:=a0.stream
 obtain⟨x,d⟩:=qaj p j
 clear p j M q s hR C B g
 generalize hsl:L.stream.length=sn at *
 go_wp2_with fail
 refine Qaf (S:=fun X:World=>X.cell? ⟨bl,7,none⟩=some (.slice ps sn cs)) kR ?_
 have hSS:w1.drew.cell? ⟨bl,7,none⟩=some (.slice ps sn cs):=O
 have hdR':IntKind.i64.wrap (R:Int)=R:=Qbr R oM
 by_cases hsR:R<l
 ·skip
  refine tk0 [0,1] ?_
  iterate 2
   refine tkv (v:=?_) ?_ ?_
   rotate_left
   ·intro w a;(try dsimp only at a);go_simp
    all_goals with_reducible rfl
   try simp only[Act.put,lz1,lz2,lz3]
  refine tk9 ?_
  try simp only[lz4,lz5,lz6,lz1,lz2,lz3]
  refine Qst (i:=2) dK rfl (fun K y=>?_)
  go_simp
  go_at_call 140
  refine d.mono ?_
  rintro e w2 ⟨rfl,rfl⟩
  refine y.out _ _ (fun _=>O) ?_
  clear y K
  refine tk0 [3,4,5] ?_
  iterate 3
   refine tkv (v:=?_) ?_ ?_
   rotate_left
   ·intro w a;(try dsimp only at a);go_simp
    all_goals with_reducible rfl
   try simp only[Act.put,lz1,lz2,lz3]
  refine tk9 ?_
  try simp only[lz4,lz5,lz6,lz1,lz2,lz3]
  refine tk0 [6,7,8,9] ?_
  iterate 4
   refine tks (v:=undef) rfl (Or.inr ⟨by rfl,rfl⟩) (by assumption) ?_
   try simp only[Act.put,lz1,lz2,lz3]
  refine tk9 ?_
  try simp only[lz4,lz5,lz6,lz1,lz2,lz3]
  refine tk0 [10,11,12,13] ?_
  iterate 4
   refine tks (v:=undef) rfl (Or.inr ⟨by rfl,rfl⟩) (by assumption) ?_
   try simp only[Act.put,lz1,lz2,lz3]
  refine tk9 ?_
  try simp only[lz4,lz5,lz6,lz1,lz2,lz3]
  refine tk0 [14,15,16,17] ?_
  iterate 4
   refine tks (v:=undef) rfl (Or.inr ⟨by rfl,rfl⟩) (by assumption) ?_
   try simp only[Act.put,lz1,lz2,lz3]
  refine tk9 ?_
  try simp only[lz4,lz5,lz6,lz1,lz2,lz3]
  refine tk0 [18,19] ?_
  iterate 2
   refine tks (v:=undef) rfl (Or.inr ⟨by rfl,rfl⟩) (by assumption) ?_
   try simp only[Act.put,lz1,lz2,lz3]
  refine tk9 ?_
  try simp only[lz4,lz5,lz6,lz1,lz2,lz3]
  refine tk (i:=20) (v:=?_) rfl (Or.inl ⟨by rfl,?_⟩) (by assumption) ?_
  rotate_left
  ·intro w a;(try dsimp only at a);go_simp
   all_goals with_reducible rfl
  try simp only[Act.put,lz1,lz2,lz3]
  refine Qad kR ?_ _
  go_wp2_with fail
  go_ret2
  exact⟨rfl,τ1,x.drew⟩
 ·have hd0:IntKind.i64.wrap (l:Int)=l:=Qbr l oM
  have hdR:IntKind.i64.wrap ((R:Int)-l)=(R:Int)-l:=Qd6 oM oM
  have hd2n:(R:Int)-l<(sn:Int)+rl:=oM
  have hd3:IntKind.i64.wrap ((sn:Int)+rl)=(sn:Int)+rl:=Qd6 oM oM
  refine tk0 [0,1] ?_
  iterate 2
   refine tkv (v:=?_) ?_ ?_
   rotate_left
   ·intro w a;(try dsimp only at a);go_simp
    all_goals with_reducible rfl
   try simp only[Act.put,lz1,lz2,lz3]
  refine tk9 ?_
  try simp only[lz4,lz5,lz6,lz1,lz2,lz3]
  refine Qst (i:=2) dK rfl (fun K y=>?_)
  go_simp
  go_at_call 140
  refine d.mono ?_
  rintro e w2 ⟨rfl,rfl⟩
  refine y.out _ _ (fun _=>O) ?_
  clear y K
  refine tk0 [3,4,5] ?_
  iterate 3
   refine tkv (v:=?_) ?_ ?_
   rotate_left
   ·intro w a;(try dsimp only at a);go_simp
    all_goals with_reducible rfl
   try simp only[Act.put,lz1,lz2,lz3]
  refine tk9 ?_
  try simp only[lz4,lz5,lz6,lz1,lz2,lz3]
  refine tk0 [6,7,8,9] ?_
  iterate 4
   refine tkv (v:=?_) ?_ ?_
   rotate_left
   ·intro w a;(try dsimp only at a);go_simp
    all_goals with_reducible rfl
   try simp only[Act.put,lz1,lz2,lz3]
  refine tk9 ?_
  try simp only[lz4,lz5,lz6,lz1,lz2,lz3]
  refine tk0 [10,11,12,13] ?_
  iterate 4
   refine tkv (v:=?_) ?_ ?_
   rotate_left
   ·intro w a;(try dsimp only at a);go_simp
    all_goals with_reducible rfl
   try simp only[Act.put,lz1,lz2,lz3]
  refine tk9 ?_
  try simp only[lz4,lz5,lz6,lz1,lz2,lz3]
  refine tk0 [14,16,17] ?_
  iterate 3
   refine tkv (v:=?_) ?_ ?_
   rotate_left
   ·intro w a;(try dsimp only at a);go_simp
    all_goals with_reducible rfl
   try simp only[Act.put,lz1,lz2,lz3]
  refine tk9 ?_
  try simp only[lz4,lz5,lz6,lz1,lz2,lz3]
  refine Qst (i:=15) dK rfl (fun K y=>?_)
  go_simp
  go_at_call 140
  refine d.mono ?_
  rintro e w2 ⟨rfl,rfl⟩
  refine y.out _ _ (fun _=>O) ?_
  clear y K
  refine tk0 [18,19,20] ?_
  iterate 3
   refine tkv (v:=?_) ?_ ?_
   rotate_left
   ·intro w a;(try dsimp only at a);go_simp
    all_goals with_reducible rfl
   try simp only[Act.put,lz1,lz2,lz3]
  refine tk9 ?_
  refine Qad kR ?_ _
  go_wp2_with fail
  go_ret2
  exact⟨rfl,τ1,x.drew⟩
theorem Jh7 {α:Type} {enc:α->List Value}(l:List α) (b:∀x∈l,(enc x).length=k) (i:Nat) (x:α) (a:l[i]?=some x) (j:Nat) (hj:j<k):(l.flatMap enc)[i*k+j]?=(enc x)[j]?:=by
 induction l generalizing i with
 | nil=>simp at a
 | cons y l ih =>
   rw[List.flatMap_cons]
   have hl:(enc y).length=k:=b y List.mem_cons_self
   cases i with
   | zero =>
     have:y=x:=by simpa using a
     subst this
     rw[Y5 (by rw[hl];omega),Nat.zero_mul,Nat.zero_add]
   | succ i =>
     have e:(i+1)*k=i*k+k:=Nat.succ_mul i k
     rw[Y6 (by rw[hl,e];omega),hl,show (i+1)*k+j-k=i*k+j by rw[e];omega]
     exact ih (fun z c=>b z (Y2 _ c)) i (by simpa using a)
theorem NS.at {α:Type} {e:TypeId} {enc:α->List Value} {n0:Nat} {g:Tag} {v:Value} {l:List α}(h:NS e k enc n0 w τ g v l) (o:∀x∈l,(enc x).length=k) (h0:0<k) :
 ∃p c,v = .slice p l.length c/\l.length<=c/\c<=maxLen/\∀(i:Nat) (x:α),l[i]?=some x->∃b,p=some ⟨b,0,none⟩/\τ b=g/\∀j,j<k->∀u,(enc x)[j]?=some u->w.cell? ⟨b,i*k+j,none⟩=some u:=by
 obtain⟨h1,⟨rfl,h2⟩|⟨b,cap,ys,rfl,n,h3,q,s⟩⟩:=h.buf
 ·refine⟨none,0,by rw[h2],by rw[h2];exact Z9 _,Z9 _,fun i x a=>?_⟩
  have:=(Z4 a).1
  omega
 ·refine⟨_,cap,rfl,q,s,fun i x a=>⟨b,rfl,n.tag,fun j y u z=>n.at _ ?_⟩⟩
  have hi:=(Z4 a).1
  have d:i*k+j<(l.flatMap enc).length:=by
   rw[h1]
   have:(i+1)*k<=l.length*k:=Y7 k hi
   rw[Nat.succ_mul] at this
   omega
  rw[Y5 d,Jh7 l o i x a j y]
  exact z
theorem Jhf {α β:Type}(f:α->List β) (l:List α) (i:Nat) (x:α) (a:l[i]?=some x):(l.take (i+1)).flatMap f=(l.take i).flatMap f++f x:=by
 rw[List.take_add_one,a]
 simp[List.flatMap_append]
theorem Jg5 {α β:Type}(f:α->List β) (k:Nat) (a:∀x,(f x).length=k) (l:List α):(l.flatMap f).length=l.length*k:=by
 induction l with
 | nil=>simp
 | cons x l ih=>rw[List.flatMap_cons,Z6,a,ih,Y4,Nat.succ_mul];omega
theorem Jhn (x:qdb):(qfa x).length=21:=by simp only[qfa,Z6,Qaa]
theorem Jho (x:Nat×Nat):(qfn x).length=12:=by simp only[qfn,Z6,Qaa]
structure qjy (r:qak):Prop where
 nt:r.qbm.length<=64
 np:r.pages.length<=64
 tx:∀x∈r.qbm,x.txn<4294967296/\x.last<18446744073709551616/\x.undo<18446744073709551616/\x.state<256
 px:∀x∈r.pages,x.1<4294967296/\x.2<18446744073709551616
theorem Jhd(hr:qjy r):TabC r:=by
 intro w0 w cf τ bw l v n h hsz cg
 obtain⟨pb,cb,pa,ca,pt,ct,pp,cp,gt,gp,n0,rfl,-,-,ht,hp,cj,ck⟩:=cg.is
 obtain⟨ts,cm⟩:=gN r.qbm
 obtain⟨ps,cn⟩:=gN r.pages
 have co:=hr.nt
 have cq:=hr.np
 have bn:=hr.tx
 have bo:=hr.px
 rw[cm] at ht co bn ⊢
 rw[cn] at hp cq bo ⊢
 obtain⟨pt',ct',ds,dt,-,cr⟩:=ht.at (fun x _=>rfl) dC
 cases ds
 obtain⟨pp',cp',dv,dw,-,cs⟩:=hp.at (fun x _=>rfl) dC
 cases dv
 have ho:=Own.born w τ qdz 73 (rR r.kind r.txn r.prev r.next r.change.page r.change.slot r.change.had r.change.has (.slice pb r.change.before.length cb) (.slice pa r.change.after.length ca) (.slice pt ts.length ct) (.slice pp ps.length cp))
 have d:=(zS w τ).alloc (.cells (rR r.kind r.txn r.prev r.next r.change.page r.change.slot r.change.had r.change.has (.slice pb r.change.before.length cb) (.slice pa r.change.after.length ca) (.slice pt ts.length ct) (.slice pp ps.length cp)) 73) qdz
 generalize τ.put w.heap.size qdz=τ1 at *
 obtain⟨bx,bp⟩:=gN w.heap.size
 obtain⟨w1,a5⟩:=gN (w.alloc (.cells (rR r.kind r.txn r.prev r.next r.change.page r.change.slot r.change.had r.change.has (.slice pb r.change.before.length cb) (.slice pa r.change.after.length ca) (.slice pt ts.length ct) (.slice pp ps.length cp)) 73))
 rw[bp,a5] at ho
 rw[a5] at d
 have aj:=n.trans d
 have h1:=h.step d id id
 have a:=d.nz (T:=WrT)
 have cw:∀i,((ts.take i).flatMap qfa).length<=64*21:=fun i=>by
  rw[Jg5 qfa 21 Jhn,List.length_take];exact Y7 _ oM
 have cx:∀i,((ps.take i).flatMap qfn).length<=64*12:=fun i=>by
  rw[Jg5 qfn 12 Jho,List.length_take];exact Y7 _ oM
 have bq:ts.take ts.length=ts:=List.take_length
 have br:ps.take ps.length=ps:=List.take_length
 obtain⟨nt,a1⟩:=gN ts.length
 obtain⟨np,a2⟩:=gN ps.length
 rw[a1] at ho co bq dt a5 ⊢
 rw[a2] at ho cq br dw a5 ⊢
 have u1:=Qam nt oM
 have u2:=Qam np oM
 have C:=Qa4 aj h1 oM nt 1 oM oM oM
 obtain⟨dx,dy⟩:=qaj a5 bp
 have hE:qim ts ps=leB nt 1++ts.flatMap qfa++leB np 1++ps.flatMap qfn:=by unfold qim;rw[a1,a2]
 obtain⟨RC,ae⟩:∃RC:List Value,[.int .u8 r.kind,.int .u32 r.txn,.int .u64 r.prev,.int .u64 r.next,.int .u32 r.change.page,.int .u16 r.change.slot,.bool r.change.had,.bool r.change.has,.slice pb r.change.before.length cb,.slice pa r.change.after.length ca,.slice pt nt ct,.slice pp np cp]=RC:=⟨_,rfl⟩
 have cy:RC[10]?=some (.slice pt nt ct):=by rw[<-ae];rfl
 have cz:RC[11]?=some (.slice pp np cp):=by rw[<-ae];rfl
 have d0:Own w1 τ1 bx qdz 73 RC:=by rw[<-ae];exact ho
 obtain⟨d1,X,D,dz,e0,e2,e3,e5,e6,d2,e7,d3⟩:=qds d0 a C cr cs bn bo cj ck cw cx bq
 obtain⟨e8,HE,d4,d5,bs,a6⟩:=qcq br hE a1 a2 cy cz
 clear d0 aj a C cr cs bn bo cj ck cw cx bq br hE a1 a2 cy cz a5 bp n h cg ht hp d h1 cm cn hr ho ae
 go_enter Tryz.func146,Tryz.ntmps146
 go_wp2_with fail
 rw[dx.out]
 refine D.mono ?_
 rintro e w2 ⟨rfl,e9,ak,al,bv⟩
 have am:=X.trans (bv.mono (T:=WrT) (fun _ h=>h))
 have bz:=d1.step bv (by simp[qdz,tWr,tWb])
 have ea:=bz.at 10 bs
 have an:=dy.out
 rw[an]
 obtain⟨ao,ap,aq,d6⟩:=qb9 ak al am bz
 clear ak al am bz an d1 bv D X u1
 go_wp2_with fail
 go_loopw [17] (fun v wr=>∃(i:Nat) (c:qa1),i<=nt/\v = .int .i64 i/\qh5 w0.heap.size wr c bw (l++leB nt 1++(ts.take i).flatMap qfa)/\Own wr c bx qdz 73 RC/\Step w0 cf wr c nil/\Step w τ wr c WrT) (fun v _=>nt-(intOf v).toNat)
 case atStart=>exact⟨0,e9,Z9 _,rfl,by rw[List.take_zero];simpa using ao.out,d6,ap,aq⟩
 case round =>
  clear ao d6 ap aq ea
  obtain⟨i,c,hi,rfl,o,a7,n,a⟩:=hrel
  have a3:=d2 i
  by_cases c3:i<nt
  ·obtain⟨x,hx⟩:∃x,ts[i]?=some x:=⟨_,Z3 (by rw[d4.out];exact c3)⟩
   obtain⟨b,rfl,E,hc⟩:=dz i x hx
   have y:¬WrT (τ b):=by rw[E];exact e5
   have b0:=cell_kept a (by simpa using hc 0 oM _ rfl) y
   have b1:=cell_kept a (hc 1 oM _ rfl) y
   have b2:=cell_kept a (hc 2 oM _ rfl) y
   have b3:=cell_kept a (hc 3 oM _ rfl) y
   obtain⟨q1,q2,q3,q4⟩:=e2 x (List.mem_of_getElem? hx)
   have e1:=Qam x.txn oM
   have e4:=Qam x.state oM
   have d7:(i:Int)<nt:=oM
   have d:=(zS wr c).alloc (.cells #[.int .u32 x.txn,.int .u64 x.last,.int .u64 x.undo,.int .u8 x.state] 42) qbv
   have Y:=Own.born wr c qbv 42 #[.int .u32 x.txn,.int .u64 x.last,.int .u64 x.undo,.int .u8 x.state]
   have p:=n.trans d
   have q:=a.trans d.nz
   have g:=o.step d id id
   have a8:=a7.step d id
   generalize c.put wr.heap.size qbv=ed at *
   obtain⟨bX,Z⟩:=gN wr.heap.size
   obtain⟨w3,z⟩:=gN (wr.alloc (.cells #[.int .u32 x.txn,.int .u64 x.last,.int .u64 x.undo,.int .u8 x.state] 42))
   rw[Z,z] at Y
   rw[z] at p q g a8
   obtain⟨LL,B⟩:=gN (l++leB nt 1++(ts.take i).flatMap qfa)
   have d8:LL.length<=3000:=by rw[<-B];simp only[Z6,Qaa];omega
   rw[B] at g
   have C:=Qa4 p g oM x.txn 4 oM oM oM
   obtain⟨c5,c6,D,a9,ar,F,Hx,c7⟩:=qen z Z C Y a8 q hx B
   clear C Y a8 q hx B d n a o a7 z Z p g hc E y a3
   go_wp2_with fail
   rw[c5.out,c6.out]
   refine D.mono ?_
   rintro e w4 ⟨rfl,ee,G,I,J⟩
   have s:=a9.step J (by simp[qbv,tWr,tWb])
   have av:=ar.step J (by simp[qdz,tWr,tWb])
   have L:=F.trans (J.mono (T:=WrT) (fun _ h=>h))
   have x1:=s.at 1 rfl
   have aa:=Qa4 I G (by rw[Z6,Qaa];omega) x.last 8 oM oM oM
   obtain⟨ab,aw,ax,M⟩:=qb9 aa s av L
   clear aa s av L b0 b1 b2 b3 D a9 ar F J I G
   go_wp2_with fail
   refine ab.mono ?_
   rintro e w5 ⟨rfl,d9,O,R,a0⟩
   have ac:=aw.step a0 (by simp[qbv,tWr,tWb])
   have ay:=ax.step a0 (by simp[qdz,tWr,tWb])
   have U:=M.trans (a0.mono (T:=WrT) (fun _ h=>h))
   have x2:=ac.at 2 rfl
   have da:=Qa4 R O (by simp only[Z6,Qaa];omega) x.undo 8 oM oM oM
   obtain⟨db,az,b4,a4⟩:=qb9 da ac ay U
   clear da ac ay U x1 ab aw ax M a0 R O
   go_wp2_with fail
   refine db.mono ?_
   rintro e w6 ⟨rfl,τ6,b5,b6,ah⟩
   have b7:=az.step ah (by simp[qbv,tWr,tWb])
   have b8:=b4.step ah (by simp[qdz,tWr,tWb])
   have b9:=a4.trans (ah.mono (T:=WrT) (fun _ h=>h))
   have x3:=b7.at 3 rfl
   have dc:=Qa4 b6 b5 (by simp only[Z6,Qaa];omega) x.state 1 oM oM oM
   obtain⟨dd,ba,bb⟩:=qan dc b8 b9
   clear dc b8 b9 x2 db az b4 a4 ah b6 b5 b7
   go_wp2_with fail
   refine dd.mono ?_
   rintro e w7 ⟨rfl,eg,bc,bd,c8⟩
   have be:=ba.step c8 (by simp[qdz,tWr,tWb])
   have bf:=bb.trans (c8.mono (T:=WrT) (fun _ h=>h))
   have ad:l++leB nt 1++(ts.take (i+1)).flatMap qfa=LL++leB x.txn 4++leB x.last 8++leB x.undo 8++leB x.state 1:=by
    rw[Jhf qfa ts i x Hx.out,<-c7.out]
    simp only[qfa,Y9]
   obtain⟨de,df,dh,di,c9⟩:=qbq bc bd be bf ad
   clear bc bd be bf ad x3 dd ba bb c8
   go_wp2_with fail
   go_round
   case rel=>exact⟨i+1,eg,oM,sM,by rw[c9.out];exact de,dh,df,di⟩
   case measure=>simp[intOf];omega
  ·have eh:i=nt:=oM
   subst eh
   rw[d3.out] at o
   obtain⟨LL,B⟩:=gN (l++leB i 1++ts.flatMap qfa)
   have d8:LL.length<=3000:=by
    rw[<-B]
    have:=d2 i
    rw[d3.out] at this
    simp only[Z6,Qaa];omega
   rw[B] at o
   have ei:=a7.at 11 a6
   have dj:=Qa4 n o oM np 1 oM oM oM
   obtain⟨dk,dl,X,c7⟩:=qb9 dj a7 a B
   clear dj a7 a B n o a3
   go_wp2_with fail
   refine dk.mono ?_
   rintro e w8 ⟨rfl,ej,bg,bh,cc⟩
   have bi:=X.trans (cc.mono (T:=WrT) (fun _ h=>h))
   have bj:=dl.step cc (by simp[qdz,tWr,tWb])
   have ek:=bj.at 11 a6
   obtain⟨bk,bl,bm⟩:=qan bg bh bi
   clear bg bh bi bj ei dk dl X cc
   go_wp2_with fail
   go_loopw [49] (fun v wr=>∃(j:Nat) (c:qa1),j<=np/\v = .int .i64 j/\qh5 w0.heap.size wr c bw (LL++leB np 1++(ps.take j).flatMap qfn)/\Step w0 cf wr c nil/\Step w τ wr c WrT) (fun v _=>np-(intOf v).toNat)
   case atStart=>exact⟨0,ej,Z9 _,rfl,by rw[List.take_zero];simpa using bk.out,bl,bm⟩
   case round =>
    clear bk bl bm ek
    obtain⟨j,c,hj,rfl,o,n,a⟩:=hrel
    have a3:=e7 j
    by_cases c3:j<np
    ·obtain⟨x,hx⟩:∃x,ps[j]?=some x:=⟨_,Z3 (by rw[d5.out];exact c3)⟩
     obtain⟨b,rfl,E,hc⟩:=e0 j x hx
     have y:¬WrT (τ b):=by rw[E];exact e6
     have b0:=cell_kept a (by simpa using hc 0 oM _ rfl) y
     have b1:=cell_kept a (hc 1 oM _ rfl) y
     obtain⟨q1,q2⟩:=e3 x (List.mem_of_getElem? hx)
     have e1:=Qam x.1 oM
     have d7:(j:Int)<np:=oM
     have d:=(zS wr c).alloc (.cells #[.int .u32 x.1,.int .u64 x.2] 84) qbv
     have Y:=Own.born wr c qbv 84 #[.int .u32 x.1,.int .u64 x.2]
     have p:=n.trans d
     have q:=a.trans d.nz
     have g:=o.step d id id
     generalize c.put wr.heap.size qbv=ed at *
     obtain⟨bX,Z⟩:=gN wr.heap.size
     obtain⟨w3,z⟩:=gN (wr.alloc (.cells #[.int .u32 x.1,.int .u64 x.2] 84))
     rw[Z,z] at Y
     rw[z] at p q g
     obtain⟨PL,ai⟩:=gN (LL++leB np 1++(ps.take j).flatMap qfn)
     have hPLl:PL.length<=6000:=by rw[<-ai];simp only[Z6,Qaa];omega
     rw[ai] at g
     have C:=Qa4 p g oM x.1 4 oM oM oM
     obtain⟨c5,c6,D,a9,F,Hx,em⟩:=qdr z Z C Y q hx ai
     clear C Y q hx ai d n a o z Z p g hc E y a3
     go_wp2_with fail
     rw[c5.out,c6.out]
     refine D.mono ?_
     rintro e w4 ⟨rfl,ee,G,I,J⟩
     have s:=a9.step J (by simp[qbv,tWr,tWb])
     have L:=F.trans (J.mono (T:=WrT) (fun _ h=>h))
     have x1:=s.at 1 rfl
     have aa:=Qa4 I G (by rw[Z6,Qaa];omega) x.2 8 oM oM oM
     obtain⟨ab,M⟩:=qaj aa L
     clear aa L b0 b1 D a9 F J I G s
     go_wp2_with fail
     refine ab.mono ?_
     rintro e w5 ⟨rfl,d9,O,R,a0⟩
     have U:=M.trans (a0.mono (T:=WrT) (fun _ h=>h))
     have ad:LL++leB np 1++(ps.take (j+1)).flatMap qfn=PL++leB x.1 4++leB x.2 8:=by
      rw[Jhf qfn ps j x Hx.out,<-em.out]
      simp only[qfn,Y9]
     obtain⟨dm,dn,a4,c9⟩:=qb9 O R U ad
     clear O R U ad x1 ab M a0
     go_wp2_with fail
     go_round
     case rel=>exact⟨j+1,d9,oM,sM,by rw[c9.out];exact dm,dn,a4⟩
     case measure=>simp[intOf];omega
    ·have en:j=np:=oM
     subst en
     rw[e8.out] at o
     obtain⟨eo,ep,X⟩:=qan o n a
     clear o n a
     go_wp2_with fail
     go_returns
     refine⟨rfl,c,?_,ep,X⟩
     have:=eo.out
     rw[<-c7.out] at this
     rw[HE.out]
     simpa only[Y9] using this
structure Tab8 (N:Nat) (r:qak):Prop where
 eq:r=⟨8,0,0,0,noChange,r.qbm,r.pages⟩
 may:qes r=true
 ok:qjy r
 px:∀x∈r.pages,x.1<N
theorem Jjr {α:Type} {p:List Int->Option (α×List Int)} {enc:α->List Int}(l:List α) (h:∀x∈l,∀t,p (enc x++t)=some (x,t)):∀t,qeo p l.length (l.flatMap enc++t)=some (l,t):=by
 have key:∀n,n<=l.length->∀t,qeo p n ((l.take n).flatMap enc++t)=some (l.take n,t):=by
  intro n
  induction n with
  | zero=>intro _ t;rfl
  | succ n ih =>
    intro hn t
    have a:l[n]?=some l[n]:=Z3 oM
    have e:l.take (n+1)=l.take n++[l[n]]:=by rw[List.take_add_one,a];rfl
    rw[e,List.flatMap_append,Y9]
    show (qeo p n _).bind _=_
    rw[ih oM,Z8]
    have hl:[l[n]].flatMap enc=enc l[n]:=sM
    rw[hl,h _ (List.getElem_mem _),Z8]
 intro t
 have:=key l.length (Z0 _) t
 rw[List.take_length] at this
 exact this
theorem Jku {N:Nat}(h:Tab8 N r):Qdk (qim r.qbm r.pages)=some ((r.qbm,r.pages),[]):=by
 have h1:=fun t=>Jjr (p:=qgu) (enc:=qfa) r.qbm (fun x e t=>by
  obtain⟨a,b,c,d⟩:=h.ok.tx x e
  unfold qgu qfa
  simp only[Y9]
  rw[Qnw _ _ a,Z8,Qsb _ _ b,Z8,Qsb _ _ c,Z8,Qnx _ _ d,Z8]) t
 have h2:=Jjr (p:=qf0) (enc:=qfn) r.pages (fun x e t=>by
  obtain⟨a,b⟩:=h.ok.px x e
  unfold qf0 qfn
  simp only[Y9]
  rw[Qnw _ _ a,Z8,Qsb _ _ b,Z8]) []
 rw[List.append_nil] at h2
 unfold Qdk qim
 simp only[Y9]
 have:=h.ok.nt
 have:=h.ok.np
 rw[Qnx _ _ oM,Z8,h1,Z8,Qnx _ _ oM,Z8,h2,Z8]
theorem Jkl {N:Nat}(h:Tab8 N r) (l:List Int):Qd1 (encR r++l)=some (r,(encR r).length):=by
 have b:r.kind=8:=by rw[h.eq]
 have o:qb2 r=qim r.qbm r.pages:=by
  unfold qb2
  rw[if_neg (by rw[b];decide),if_pos b]
 have hbl:(qb2 r).length<=2200:=by
  rw[o]
  unfold qim
  rw[Z6,Z6,Z6,Qaa,Qaa,Jg5 _ 21 Jhn,Jg5 _ 12 Jho]
  have:=h.ok.nt
  have:=h.ok.np
  omega
 have c:=Qbh r
 have e:=Qz2 r
 have i:=Qh8 (Qbv r) (Qbv r).length
 have a:qct (encR r)=some r:=by
  rw[e]
  have h2:=Qmv (leB (27+(qb2 r).length) 2) (leB (qeg (Qbv r) (Qbv r).length) 4++Qbv r)
  rw[Qaa] at h2
  have j:=Qnw (qeg (Qbv r) (Qbv r).length) (Qbv r) i
  have p:qem 1 (Qbv r)=some (r.kind,leB r.txn 4++(leB r.prev 8++(leB r.next 8++qb2 r))):=by
   have:=Qnx r.kind (leB r.txn 4++(leB r.prev 8++(leB r.next 8++qb2 r))) (by rw[b];omega)
   unfold Qbv
   simp only[Y9]
   exact this
  have d:r.txn=0/\r.prev=0/\r.next=0/\r.change=noChange:=by rw[h.eq];exact⟨rfl,rfl,rfl,rfl⟩
  have n:qev r.kind (qb2 r)=some ((noChange,r.qbm,r.pages),[]):=by
   unfold qev
   rw[if_neg (by rw[b];decide),if_pos b,o,Jku h,Z8]
  have s:=h.may
  unfold qct
  refine(qfb h2 _).trans ((qfb j _).trans ?_)
  refine(if_neg (fun h=>h rfl)).trans ?_
  refine(qfb p _).trans ((qfb (Qnw r.txn _ (by rw[d.1];omega)) _).trans ((qfb (Qsb r.prev _ (by rw[d.2.1];omega)) _).trans ((qfb (Qsb r.next _ (by rw[d.2.2.1];omega)) _).trans ((qfb n _).trans ?_))))
  have q:(⟨r.kind,r.txn,r.prev,r.next,noChange,r.qbm,r.pages⟩:qak)=r:=by rw[<-d.2.2.2]
  refine(if_neg ?_).trans (congrArg some q)
  rintro(g|g)
  ·exact absurd g (Nat.lt_irrefl 0)
  ·rw[show qes ⟨r.kind,r.txn,r.prev,r.next,noChange,r.qbm,r.pages⟩=qes r from congrArg qes q,s] at g;cases g
 have hn:leN ((encR r++l).take 2) 2=(encR r).length:=by
  rw[c,e,Y9,List.take_left' (Qaa _ _),Qdl _ 2 2 (Z0 _),Nat.mod_eq_of_lt oM]
 have h1:¬(encR r++l).length<27:=by rw[Z6];omega
 have h2:(encR r).length<=(encR r++l).length:=by rw[Z6];omega
 have j:(encR r++l).take (encR r).length=encR r:=List.take_left' rfl
 have p:(encR r).length≠0:=oM
 clear e
 unfold Qd1
 generalize encR r++l=Z at *
 generalize encR r=E at *
 generalize (leN (Z.take 2) 2)=m at *
 subst hn
 rw[if_neg h1,if_neg oM,j,a,Option.map_some]
