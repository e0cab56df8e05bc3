/-
 The reference's device: Write;Sync;Image.
-/
import Derived.Test.YtemacanaihaldaaGreatMCrc
import Derived.Test.YtemacanaihaldaaGreatMRegL
set_option maxRecDepth 100000
set_option maxHeartbeats 4000000
set_option linter.all false
namespace Go.Proofs.YtemacanaihaldaaGreat
variable {τ:Tags}
open Go.RowKit
def RDevR (w:World) (τ:Tags) (b:Nat) (D:Dev) (r:Value) (e:Ending) (w':World):Prop:=e = .returned r/\∃τ',RDevAt w' τ' b D/\Step w τ w' τ' RDevTag
def w_0 (w:World):World:={w with heap:=#[]}
theorem Jaj (w:World) (τ:Tags) (S:Tag->Prop):Step (w_0 w) τ w τ S:=⟨⟨rfl,rfl,rfl,by simp[w_0],fun k hk=>absurd hk (by simp[w_0])⟩,fun k hk=>absurd hk (by simp[w_0])⟩
theorem nr_0 {w:World} {g:Tag} {v:Value} {ls:List (List Int)}(h:Waits w τ g v ls):NR (w_0 w).heap.size w τ g v ls:=⟨h,fun k _=>Z9 _⟩
theorem Bytes.drews {w:World} {g:Tag} {v:Value} {l:List Int}(h:Bytes w τ g v l):Bytes w.drew τ g v l:=⟨h.isB,h.is⟩
theorem Qqq {w:World} {b:Nat} {D:Dev}(h:RDevAt w τ b D) (f:Nat) (hf:f<2) (k:Nat) (hk:k<(D.file f).length) {v:Value}{l:List Int}{g:Tag}(hb:Bytes w τ g v l) (hl:l.length=128) (F:¬RDevTag g) (x:D.lim 900000) :
 Calls Tryz.prog 246 #[.pointer (some ⟨b,0,none⟩),.int .u8 (f:Int),.int .i64 (k:Int),v] w (RDevR w τ b (D.write f k l) (.int .i64 0)):=by
 obtain⟨v0,v1,h⟩:=h
 obtain⟨s,hs⟩:∃s,(D.file f)[k]?=some s:=⟨_,Z3 hk⟩
 obtain⟨p,c,rfl,-,-⟩:=hb.any
 rw[hl] at hb ⊢
 have h1:=Qks h f hf k hk
 have h2:=Qo9 h
 cases o:D.go.1 with
 | false =>
   rw[o] at h2
   simp only[Bool.not_false] at h2
   have y:D.write f k l=D.go.2:=by unfold Dev.write;rw[if_neg (by rw[o];simp)]
   rw[y]
   obtain⟨H1,H2⟩:=hid2 h1 h2
   clear h1 h2 h hb x hs o y hl
   go_enter Tryz.func246,Tryz.ntmps246
   go_wp2_with fail
   refine H1.out.mono ?_
   rintro e w' ⟨rfl,rfl⟩
   go_wp2_with fail
   refine H2.out.mono ?_
   rintro e R ⟨rfl,hd,q⟩
   obtain⟨Hd,az⟩:=hid2 hd q
   clear hd q
   go_wp2_with fail
   go_ret
   exact⟨rfl,τ,Hd.out.at,az.out.mono (fun g F=>by subst F;exact .inl rfl)⟩
 | true =>
   rw[o] at h2
   simp only[Bool.not_true] at h2
   have y:D.write f k l=D.go.2.put f ((D.go.2.file f).set k ⟨s.last,s.waits++[l]⟩):=by unfold Dev.write;rw[if_pos o,hs,Dev.go_file];rfl
   rw[y]
   have hwl:=x f k s hs
   have z:=Dev.go_file D f
   obtain⟨H1,H2,Hb,Hl,Hs⟩:=hid5 h1 h2 hb hl hs
   clear h1 h2 hb hl hs h x o y
   go_enter Tryz.func246,Tryz.ntmps246
   go_wp2_with fail
   refine H1.out.mono ?_
   rintro e w' ⟨rfl,rfl⟩
   go_wp2_with fail
   refine H2.out.mono ?_
   rintro e R ⟨rfl,hd,q⟩
   obtain⟨cf,d⟩:=hd.file f hf
   rw[z] at d
   obtain⟨bf,c,xs,ys,hv,a8,ho,b0,J⟩:=d.lenp (by omega)
   rw[hv] at cf
   obtain⟨-,⟨u,hu,hw⟩⟩:=J k s Hs.out
   obtain⟨pw,cw,rfl⟩:=hw.len
   have U:(xs++ys)[k*2+1]?=some (.slice pw s.waits.length cw):=by rw[Y5 (by omega)];exact hu
   have c1:=ho.at (k*2+1) U
   have f1:=ho.fz (k*2+1)
   have X:=(Hb.out.step q (fun e=>F (by rw[e];exact .inl rfl))).drews
   have aa:=Qr7 X tData (by rw[Hl.out];omega)
   have hn4096:=d.1
   have r:∃t xs,Own R τ b tRDev t xs/\xs[f]?=some (.slice (some ⟨bf,0,none⟩) (D.file f).length c):=by
    obtain⟨st,n,r,-,-,-⟩:=hd.is
    refine⟨_,_,r,?_⟩
    rw[<-hv]
    rcases (by omega:f=0\/f=1) with rfl|rfl <;> rfl
   obtain⟨tt,xx,r,ab⟩:=r
   have ac:Step R τ R.drew τ nil:=(Step.refl R τ nil).drew
   have L:=q.mono (T:=RDevTag) (fun g F=>by subst F;exact .inl rfl)
   generalize ad:(D.file f).length=n at *
   generalize ae:s.waits=ws at *
   obtain⟨Hb1,b3,b4,af,Hv,Hw,Ho,b5,B,Hd⟩:=hid10 X aa ac L hv hw ho r ab hd
   have Y:=Z2 U
   obtain⟨ag,Hnl,Hsw⟩:=hid3 z ad ae
   clear X aa ac L hv hw ho r ab hd U z ad ae d J hu Hb H2 q a8 b0
   have hf2:(f:Int)<2:=by omega
   have hk2:(k:Int)<(n:Int):=by omega
   go_wp2_with fail
   refine Qaf (S:=fun w':World=>w'.cell? ⟨b,f,none⟩=some (.slice (some ⟨bf,0,none⟩) n c)/\w'.cell? ⟨bf,k*2+1,none⟩=some (.slice pw ws.length cw)) (by kernel_rfl) ?_
   have b6:R.drew.cell? ⟨b,f,none⟩=some (.slice (some ⟨bf,0,none⟩) n c)/\R.drew.cell? ⟨bf,k*2+1,none⟩=some (.slice pw ws.length cw):=⟨cf,c1⟩
   refine tk0 [0,1,2,3,4,5,6,7,8,9,10,11,12,13,14,15,16,17] ?_
   iterate 18
    refine tks (v:=?_) rfl (Or.inl ⟨by rfl,?_⟩) (by assumption) ?_
    rotate_left
    ·intro w b7;(try dsimp only at b7);go_simp
     all_goals with_reducible rfl
    try simp only[Act.put,lz1,lz2,lz3]
   refine tk9 ?_
   refine tk1 18 rfl fun K i=>?_
   go_simp
   go_at_call 283
   refine b3.out.mono ?_
   rintro e w2 ⟨ul,b8,rfl,Z,ah⟩
   obtain⟨pu,cu,rfl,-,-⟩:=Z.any
   have j:=b4.out.trans ah
   have ai:=Ho.out.step j (fun h=>h)
   have M:=b5.out.step j (fun h=>h)
   have aj:=Hw.out.step j (fun h=>h) (fun h=>h)
   have b9:=Z2 Z
   have N:=Z2 j
   obtain⟨a1,C,ba⟩:=hid3 ai M aj
   clear Z j ai M aj ah b6
   refine i.out _ _ (fun _=>⟨C.out.at f B.out,a1.out.at (k*2+1) Y.out⟩) ?_
   clear i K
   refine tk1 19 rfl fun K i=>?_
   go_simp
   refine i.out _ _ (fun _=>⟨(C.out.alloc _).at f B.out,(a1.out.alloc _).at (k*2+1) Y.out⟩) ?_
   clear i K
   refine tk1 20 rfl fun K i=>?_
   refine Qkk (Jaj w2 b8 nil) (g:=Qaz f k) (by simp[Qaz,tData]) (nr_0 ba.out) b9.out Hl.out (by omega) rfl rfl _ _ rfl rfl rfl ?_
   intro v3 w3 bb m ak G
   clear ak
   obtain⟨p3,n3,rfl⟩:=m.val
   simp only[Z6,Y4,List.length_nil,Nat.zero_add] at m ⊢
   have I:=a1.out.step G (by simp[tRRow,Qaz])
   have c3:=I.at (k*2+1) Y.out
   have f3:=I.fz (k*2+1)
   have E:=C.out.step G (by simp[tRDev,Qaz])
   refine i.out _ _ (fun _=>⟨E.at f B.out,c3⟩) ?_
   clear i K
   obtain⟨al,am,Ho3,O⟩:=hid4 m G I E
   clear m G I E
   refine tk1 21 rfl fun K i=>?_
   go_simp
   refine i.out _ _ (fun _=>⟨O.out.at f B.out,c3⟩) ?_
   clear i K
   refine tk1 22 rfl fun K i=>?_
   go_simp
   refine i.out _ _ (fun _=>⟨O.out.at f B.out,c3⟩) ?_
   clear i K
   refine tk1 23 rfl fun K i=>?_
   go_simp
   refine i.out _ _ (fun h=>absurd h (by decide +kernel)) ?_
   clear i K
   refine Qad (by kernel_rfl) ?_ _
   go_wp2_with fail
   go_ret
   all_goals (
    have an:=Hd.out.wait f hf (by rw[ag.out];exact Hs.out) Hv.out ((N.out.mono (T:=fun g=>g=Qaz f k) (fun _ h=>h.elim)).trans am.out) (fun _ h=>h) al.out.row
    refine⟨rfl,bb,an.1.at,?_⟩
    exact af.out.trans ((((N.out.mono (T:=RDevTag) (fun _ h=>h.elim)).trans (am.out.mono (T:=RDevTag) (fun g F=>by subst F;exact .inr (.inr rfl)))).trans (an.2.mono (T:=RDevTag) (fun g F=>by subst F;exact .inr (.inl rfl))))))
theorem Qf7 {w:World} {f:Nat} {v u:Value} {l:List Sec} {x:List Int}(e:RFile w τ f v l) (r:Bytes w τ tData u x) (i:x.length=128) (m:l.length<4096) {kb:Nat}(p:kb=w.heap.size)
 {ops:Array Oper} {o:Oper} {a:Act} {K:Act->World->Prop} {Q:Exit->Act->World->Prop} {E:Prop} (q:o.guard=none) (s y:Operand)
 (z:o.op = .call {callee:=.builtin .append,args:=#[s,y],argTypes:=#[288,288]}) (B:a.eval s=v) (C:a.eval y = .slice (some ⟨kb,0,none⟩) 1 1)
 (h:∀k j b,RFile j b f k (l++[⟨x,[]⟩])->Step w τ j b (fun t=>t=tRRow f)->K (a.put o.dst k) j):if Region.wanted o (yielded ops a.tmps)=true then Oper.wp Tryz.prog o a (w.alloc (.cells #[u,.slice none 0 0] 293)) K Q else E:=by
 subst p
 have D:Region.wanted o (yielded ops a.tmps)=true:=by simp[Region.wanted,q]
 rw[if_pos D]
 have d:Step w τ (w.alloc (.cells #[u,.slice none 0 0] 293)) τ nil:=(Step.refl w τ nil).alloc' _
 obtain⟨k,j,b,F,h2,G⟩:=Qmc (e.step d (fun h=>h) (fun _ h=>h) (fun h=>h)) (r.step d (fun h=>h)) i m (heap_alloc_new w _) o.type
 unfold Oper.wp execOp
 simp only[z,resolve,invoke,builtin,Sem.run_bind,Sem.run_pure,Result.andThen_ok,List.map_toArray,X1,List.map_nil,B,C,F]
 exact h k j b h2 ((d.mono (fun _ h=>h.elim)).trans G)
theorem Qnk {α:Type}(n:Nat) (x:α):List.replicate (n+1) x=List.replicate n x++[x]:=by
 rw[List.replicate_succ']
theorem r5new (w:World) (τ:Tags) (a b:Nat) (ha:a<=4096) (hb:b<=4096) :
 Calls Tryz.prog 108 #[.int .i64 (a:Int),.int .i64 (b:Int)] w fun e w'=>∃bd ad,e = .returned (.pointer (some ⟨bd,0,none⟩))/\w.heap.size<=bd/\RDevAt w' ad bd ⟨List.replicate a zsec,List.replicate b zsec,none,false⟩/\Step w τ w' ad RDevTag:=by
 have rn:=Qcz
 have ga:decide ((4096:Int)<(a:Int))=false:=by simp;omega
 have gb:decide ((4096:Int)<(b:Int))=false:=by simp;omega
 have o0:=Own.new w τ tRDev 291 [.slice none 0 0,.slice none 0 0,.bool false,.int .i64 0,.bool false]
 have s0:=(Step.refl w τ RDevTag).alloc (.cells #[.slice none 0 0,.slice none 0 0,.bool false,.int .i64 0,.bool false] 291) tRDev
 have f0:RDevAs (w.alloc (.cells #[.slice none 0 0,.slice none 0 0,.bool false,.int .i64 0,.bool false] 291)) (τ.put w.heap.size tRDev) w.heap.size ⟨List.replicate 0 zsec,[],none,false⟩ (.slice none 0 0) (.slice none 0 0) :=
  ⟨false,0,o0,⟨by simp,[],Buf.nil _ _ _ _ _,fun i s hi=>by simp at hi⟩,⟨by simp,[],Buf.nil _ _ _ _ _,fun i s hi=>by simp at hi⟩,.inl ⟨rfl,rfl⟩⟩
 generalize τ.put w.heap.size tRDev=τ0 at *
 obtain⟨N,ae,O⟩:=hid3 rn s0 f0
 clear rn s0 f0 o0
 go_enter Tryz.func108,Tryz.ntmps108
 go_wp2_with fail
 generalize w.alloc (.cells #[.slice none 0 0,.slice none 0 0,.bool false,.int .i64 0,.bool false] 291)=W0 at *
 obtain⟨bd,U⟩:∃bd,w.heap.size=bd:=⟨_,rfl⟩
 rw[U] at O ⊢
 have R:w.heap.size<=bd:=Nat.le_of_eq U
 have af:=Z2 R
 clear R U
 go_loopw [6] (fun iv wr=>∃(i:Nat) (m:Tags) (v0:Value),i<=a/\iv = .int .i64 (i:Int)/\RDevAs wr m bd ⟨List.replicate i zsec,[],none,false⟩ v0 (.slice none 0 0)/\Step w τ wr m RDevTag) (fun iv _=>a-(intOf iv).toNat)
 case atStart=>exact⟨0,_,_,Z9 _,rfl,O.out,ae.out⟩
 case round =>
  obtain⟨i,m,v0,hi,rfl,hd,x⟩:=hrel
  by_cases an:i<a
  ·obtain⟨X,d⟩:=hd.file 0 (by omega)
   have C:(⟨List.replicate i zsec,[],none,false⟩:Dev).file 0=List.replicate i zsec:=rfl
   have F:fileV v0 (.slice none 0 0) 0=v0:=rfl
   rw[C,F] at d
   rw[F] at X
   obtain⟨st,nl,G,-,-,-⟩:=hd.is
   have lb:=G.lt
   have nb:wr.heap.size≠bd:=by omega
   have hz:=Bytes.noughts wr.drew m tData 128 (by unfold maxLen;omega)
   have q:=(Step.refl wr m nil).drew.alloc (.cells (madeCells #[.int .u8 0] 128) 5) tData
   have k:=d.step q (fun h=>h) (fun _ h=>h) (fun h=>h)
   have I:=hd.step q (fun _ h=>h.elim)
   have r:=G.step q (fun h=>h)
   obtain⟨pv,cv,rfl⟩:=d.len
   rw[Z7] at X k r I
   have rn:=N.out
   have D:(List.replicate i zsec).length<4096:=by rw[Z7];omega
   generalize Y:m.put wr.drew.heap.size tData=ao at *
   obtain⟨Hz,Z,y,a1,o,E,J⟩:=hid7 hz q k I r x D
   clear hz q k I r x D d G hd Y C F
   go_wp2_with fail
   refine Qaf (S:=fun w':World=>w'.cell? ⟨bd,0,none⟩=some (.slice pv i cv)) (by kernel_rfl) ?_
   have a6:wr.drew.cell? ⟨bd,0,none⟩=some (.slice pv i cv):=X
   refine tk0 [0,1,2,3,4,5,10,11] ?_
   iterate 8
    refine tks (v:=?_) rfl (Or.inl ⟨by rfl,?_⟩) (by assumption) ?_
    rotate_left
    ·intro w a7;(try dsimp only at a7);go_simp
     all_goals with_reducible rfl
    try simp only[Act.put,lz1,lz2,lz3]
   refine tk9 ?_
   clear a6
   refine tk1 6 rfl fun K l=>?_
   go_simp
   refine l.out _ _ (fun _=>o.out.at 0 rfl) ?_
   clear l K
   refine tk1 7 rfl fun K l=>?_
   go_simp
   refine l.out _ _ (fun _=>o.out.at 0 rfl) ?_
   clear l K
   refine tk1 8 rfl fun K l=>?_
   go_simp
   refine l.out _ _ (fun _=>(o.out.alloc _).at 0 rfl) ?_
   clear l K
   refine tk1 9 rfl fun K l=>?_
   refine Qf7 y.out Hz.out Z7 J.out (by simp) rfl _ _ rfl rfl rfl ?_
   intro v3 w3 a8 z B
   obtain⟨p3,n3,rfl⟩:=z.len
   simp only[Z6,Z7,Y4,List.length_nil,Nat.zero_add] at z ⊢
   have p:=o.out.step B (by simp[tRDev,tRRow])
   have c3:=p.at 0 rfl
   have z3:=p.fz 0
   have L:=a1.out.grow 0 (by omega) B (fun _ h=>h) z
   refine l.out _ _ (fun _=>c3) ?_
   clear l K
   obtain⟨M,aa,ai⟩:=hid3 L B p
   clear L B p z
   refine tk1 12 rfl fun K l=>?_
   go_simp
   refine l.out _ _ (fun _=>c3) ?_
   clear l K
   refine tk1 13 rfl fun K l=>?_
   go_simp
   refine l.out _ _ (fun h=>absurd h (by decide +kernel)) ?_
   clear l K
   refine Qad (by kernel_rfl) ?_ _
   go_wp2_with fail
   go_round
   case rel=>exact⟨i+1,a8,_,by omega,by simp,by rw[Qnk];exact M.out.1,E.out.trans (((Z.out.mono (T:=RDevTag) (fun _ h=>h.elim)).trans (aa.out.mono (T:=RDevTag) (fun g hg=>by subst hg;exact .inr (.inl rfl)))).trans (M.out.2.mono (T:=RDevTag) (fun g hg=>by subst hg;exact .inl rfl)))⟩
   case measure=>simp[intOf];omega
  ·obtain rfl:i=a:=by omega
   obtain⟨Hd,E⟩:=hid2 hd x
   clear hd x
   go_wp2_with fail
   go_loopw [7] (fun jv wr=>∃(j:Nat) (m:Tags) (v1:Value),j<=b/\jv = .int .i64 (j:Int)/\RDevAs wr m bd ⟨List.replicate i zsec,List.replicate j zsec,none,false⟩ v0 v1/\Step w τ wr m RDevTag) (fun jv _=>b-(intOf jv).toNat)
   case atStart=>exact⟨0,_,_,Z9 _,rfl,Hd.out,E.out⟩
   case round =>
    clear Hd E
    obtain⟨j,m,v1,hj,rfl,hd,x⟩:=hrel
    by_cases an:j<b
    ·obtain⟨X,d⟩:=hd.file 1 (by omega)
     have C:(⟨List.replicate i zsec,List.replicate j zsec,none,false⟩:Dev).file 1=List.replicate j zsec:=rfl
     have F:fileV v0 v1 1=v1:=rfl
     rw[C,F] at d
     rw[F] at X
     obtain⟨st,nl,G,-,-,-⟩:=hd.is
     have lb:=G.lt
     have nb:wr.heap.size≠bd:=by omega
     have hz:=Bytes.noughts wr.drew m tData 128 (by unfold maxLen;omega)
     have q:=(Step.refl wr m nil).drew.alloc (.cells (madeCells #[.int .u8 0] 128) 5) tData
     have k:=d.step q (fun h=>h) (fun _ h=>h) (fun h=>h)
     have I:=hd.step q (fun _ h=>h.elim)
     have r:=G.step q (fun h=>h)
     obtain⟨pv,cv,rfl⟩:=d.len
     rw[Z7] at X k r I
     have rn:=N.out
     have D:(List.replicate j zsec).length<4096:=by rw[Z7];omega
     generalize Y:m.put wr.drew.heap.size tData=ao at *
     obtain⟨Hz,Z,y,a1,o,E,J⟩:=hid7 hz q k I r x D
     clear hz q k I r x D d G hd Y C F
     go_wp2_with fail
     refine Qaf (S:=fun w':World=>w'.cell? ⟨bd,1,none⟩=some (.slice pv j cv)) (by kernel_rfl) ?_
     have a6:wr.drew.cell? ⟨bd,1,none⟩=some (.slice pv j cv):=X
     refine tk0 [0,1,2,3,4,5,10,11] ?_
     iterate 8
      refine tks (v:=?_) rfl (Or.inl ⟨by rfl,?_⟩) (by assumption) ?_
      rotate_left
      ·intro w a7;(try dsimp only at a7);go_simp
       all_goals with_reducible rfl
      try simp only[Act.put,lz1,lz2,lz3]
     refine tk9 ?_
     clear a6
     refine tk1 6 rfl fun K l=>?_
     go_simp
     refine l.out _ _ (fun _=>o.out.at 1 rfl) ?_
     clear l K
     refine tk1 7 rfl fun K l=>?_
     go_simp
     refine l.out _ _ (fun _=>o.out.at 1 rfl) ?_
     clear l K
     refine tk1 8 rfl fun K l=>?_
     go_simp
     refine l.out _ _ (fun _=>(o.out.alloc _).at 1 rfl) ?_
     clear l K
     refine tk1 9 rfl fun K l=>?_
     refine Qf7 y.out Hz.out Z7 J.out (by simp) rfl _ _ rfl rfl rfl ?_
     intro v3 w3 a8 z B
     obtain⟨p3,n3,rfl⟩:=z.len
     simp only[Z6,Z7,Y4,List.length_nil,Nat.zero_add] at z ⊢
     have p:=o.out.step B (by simp[tRDev,tRRow])
     have c3:=p.at 1 rfl
     have z3:=p.fz 1
     have L:=a1.out.grow 1 (by omega) B (fun _ h=>h) z
     refine l.out _ _ (fun _=>c3) ?_
     clear l K
     obtain⟨M,aa,ai⟩:=hid3 L B p
     clear L B p z
     refine tk1 12 rfl fun K l=>?_
     go_simp
     refine l.out _ _ (fun _=>c3) ?_
     clear l K
     refine tk1 13 rfl fun K l=>?_
     go_simp
     refine l.out _ _ (fun h=>absurd h (by decide +kernel)) ?_
     clear l K
     refine Qad (by kernel_rfl) ?_ _
     go_wp2_with fail
     go_round
     case rel=>exact⟨j+1,a8,_,by omega,by simp,by rw[Qnk];exact M.out.1,E.out.trans (((Z.out.mono (T:=RDevTag) (fun _ h=>h.elim)).trans (aa.out.mono (T:=RDevTag) (fun g hg=>by subst hg;exact .inr (.inl rfl)))).trans (M.out.2.mono (T:=RDevTag) (fun g hg=>by subst hg;exact .inl rfl)))⟩
     case measure=>simp[intOf];omega
    ·obtain rfl:j=b:=by omega
     obtain⟨Hd,E⟩:=hid2 hd x
     clear hd x
     go_wp2_with fail
     go_ret
     exact⟨bd,m,rfl,af.out,Hd.out.at,E.out⟩
def Qdd (l:List Sec) (i:Nat):List Sec:=(l.take i).map Sec.sync++l.drop i
theorem Qnb (l:List Sec) (i:Nat):(Qdd l i).length=l.length:=by
 unfold Qdd
 rw[Z6,Y0,<-Z6,List.take_append_drop]
theorem Qqd (l:List Sec):Qdd l 0=l:=by simp[Qdd]
theorem Qsy (l:List Sec):Qdd l l.length=l.map Sec.sync:=by simp[Qdd]
theorem Quv {l:List Sec} {i:Nat} {s:Sec}(h:l[i]?=some s):(Qdd l i)[i]?=some s:=by
 have hi:=(Z4 h).1
 unfold Qdd
 rw[Y6 (by rw[Y0,List.length_take];omega),Y0,List.length_take,Nat.min_eq_left (by omega),Nat.sub_self,List.getElem?_drop,Nat.add_zero]
 exact h
theorem Qsx {l:List Sec} {i:Nat} {s:Sec}(h:l[i]?=some s):(Qdd l i).set i s.sync=Qdd l (i+1):=by
 have hi:=(Z4 h).1
 unfold Qdd
 rw[List.set_append_right _ _ (by rw[Y0,List.length_take];omega),Y0,List.length_take,Nat.min_eq_left (by omega),Nat.sub_self,List.take_add_one,h]
 have hd:l.drop i=s::l.drop (i+1):=by
  rw[List.drop_eq_getElem_cons hi]
  congr 1
  exact(Z4 h).2
 rw[hd]
 simp
theorem Dev.put_put (D:Dev) (f:Nat) (hf:f<2) (a b:List Sec):(D.put f a).put f b=D.put f b:=by
 rcases (by omega:f=0\/f=1) with rfl|rfl <;> rfl
theorem Dev.put_self (D:Dev) (f:Nat) (hf:f<2):D.put f (D.file f)=D:=by
 rcases (by omega:f=0\/f=1) with rfl|rfl <;> rfl
theorem Qyl {w:World} {b:Nat} {D:Dev}(h:RDevAt w τ b D) (f:Nat) (I:f<2) :
 Calls Tryz.prog 247 #[.pointer (some ⟨b,0,none⟩),.int .u8 (f:Int)] w (RDevR w τ b (D.sync f) (.tuple #[])):=by
 obtain⟨v0,v1,h⟩:=h
 have h2:=Qo9 h
 have a1:decide ((1:Int)<(f:Int))=false:=by simp;omega
 cases r:D.go.1 with
 | false =>
   rw[r] at h2
   simp only[Bool.not_false] at h2
   have x:D.sync f=D.go.2:=by unfold Dev.sync;rw[if_neg (by rw[r];simp)]
   rw[x]
   have H2:=Z2 h2
   clear h2 h r x
   go_enter Tryz.func247,Tryz.ntmps247
   go_wp2_with fail
   refine H2.out.mono ?_
   rintro e w1 ⟨rfl,hd,d⟩
   obtain⟨Hd,y⟩:=hid2 hd d
   clear hd d
   go_wp2_with fail
   go_returns
   exact⟨rfl,τ,Hd.out.at,y.out.mono (fun g hg=>by subst hg;exact .inl rfl)⟩
 | true =>
   rw[r] at h2
   simp only[Bool.not_true] at h2
   have x:D.sync f=D.go.2.put f ((D.go.2.file f).map Sec.sync):=by unfold Dev.sync;rw[if_pos r,Dev.go_file]
   rw[x]
   generalize D.go.2=D1 at *
   have H2:=Z2 h2
   clear h2 h r x
   go_enter Tryz.func247,Tryz.ntmps247
   go_wp2_with fail
   refine H2.out.mono ?_
   rintro e w1 ⟨rfl,hd,d⟩
   have ad:RDevAs w1 τ b (D1.put f (Qdd (D1.file f) 0)) v0 v1:=by rw[Qqd,Dev.put_self D1 f I];exact hd
   have U:=d.mono (T:=RDevTag) (fun g hg=>by subst hg;exact .inl rfl)
   obtain⟨ar,j⟩:=hd.file f I
   obtain⟨pvx,av,ae⟩:=j.len
   have hn4096:=j.1
   have X:=Qsy (D1.file f)
   have z:=Qnb (D1.file f)
   generalize hl:D1.file f=l at *
   generalize hn:l.length=n at *
   obtain⟨af,Y,ag,J,m,Hn,Hl⟩:=hid7 ad U X ae z hn hl
   clear ad U X ae z hn hl hd d ar j
   go_wp2_with fail
   go_loopw [5] (fun iv wr=>∃(i:Nat) (L:Tags),i<=n/\iv = .int .i64 (i:Int)/\RDevAs wr L b (D1.put f (Qdd l i)) v0 v1/\Step w τ wr L RDevTag) (fun iv _=>n-(intOf iv).toNat)
   case atStart=>exact⟨0,τ,Z9 _,rfl,af.out,Y.out⟩
   case round =>
    clear af Y
    obtain⟨i,L,hi,rfl,hd,d⟩:=hrel
    obtain⟨cf,o⟩:=hd.file f I
    rw[J.out] at cf
    have B:(D1.put f (Qdd l i)).file f=Qdd l i:=by rw[Dev.put_file _ _ I,if_pos rfl]
    by_cases ah:i<n
    ·obtain⟨s,hs⟩:∃s,l[i]?=some s:=⟨_,Z3 (by rw[Hn.out];exact ah)⟩
     have C:=Quv hs
     have Z:=Qsx hs
     have M:i<((D1.put f (Qdd l i)).file f).length:=by rw[B,m.out];exact ah
     have a7:=Qr6 hd.at f I i M tData
     have ai:(D1.put f (Qdd l i)).last f i=s.newest:=by unfold Dev.last;rw[B,C];rfl
     have p:=(Qkt hd.at f i I M).1
     rw[ai] at a7 p
     rw[B] at o
     obtain⟨bf,c,xs,ys,hv,aj,ho,az,ak⟩:=o.lenp (by rw[m.out];omega)
     have a8:=hv
     rw[J.out,m.out] at a8
     simp only[Value.slice.injEq,true_and] at a8
     obtain⟨b0,b1⟩:=a8
     subst b0
     subst b1
     rw[m.out] at az
     have lb:=ho.lt
     obtain⟨Hd,y,b2,E,Hv,Ho,al,b3,b4,Hs,Hsat⟩:=hid11 hd d a7 p hv ho Z M B hs C
     clear hd d a7 p hv ho Z M B hs C o ak aj ai
     go_wp2_with fail
     refine b2.out.mono ?_
     rintro e w2 ⟨u,am,rfl,N,O⟩
     obtain⟨pu,cu,rfl,-,-⟩:=N.any
     rw[E.out] at N ⊢
     have aa:=Hd.out.step O (fun _ h=>h.elim)
     obtain⟨b5,R⟩:=aa.file f I
     rw[J.out] at b5
     have F:=Ho.out.step O (fun h=>h)
     have z0:=F.fz (i*2)
     have z1:=F.fz (i*2+1)
     obtain⟨q0,e0⟩:∃q,(xs++ys)[i*2]?=some q:=⟨_,Z3 (by rw[Z6];omega)⟩
     obtain⟨q1,e1⟩:∃q,(xs++ys)[i*2+1]?=some q:=⟨_,Z3 (by rw[Z6];omega)⟩
     have c0:=F.at _ e0
     have c1:=F.at _ e1
     have G:=aa.lay f I (k:=i) (bf:=bf) (n:=n) (c:=av) b3.out J.out (Step.refl w2 am nil) (fun _ h=>h.elim) (v:=.slice pu 128 cu) (u:=.slice none 0 0) (s':=s.sync) N E.out (.inl ⟨rfl,rfl⟩)
     have a6:=y.out.trans ((O.mono (T:=RDevTag) (fun _ h=>h.elim)).trans (G.2.mono (T:=RDevTag) (fun g hg=>by subst hg;exact .inr (.inl rfl))))
     obtain⟨an,ao⟩:=hid2 G a6
     clear G a6 N O aa R F e0 e1
     go_wp2_with fail
     go_round
     case rel =>
      refine⟨i+1,am,by omega,by simp,?_,ao.out⟩
      have:=an.out.1
      rw[b4.out,al.out,Dev.put_put _ _ I] at this
      exact this
     case measure=>simp[intOf];omega
    ·obtain rfl:i=n:=by omega
     obtain⟨Hd,y⟩:=hid2 hd d
     clear hd d
     go_wp2_with fail
     go_returns
     refine⟨rfl,L,?_,y.out⟩
     have:=Hd.out
     rw[ag.out] at this
     exact this.at
theorem Qja {l:List Sec} {i:Nat} {s:Sec}(h:l[i]?=some s):(l.take (i+1)).map Sec.last=(l.take i).map Sec.last++[s.last]:=by
 rw[List.take_add_one,h];simp
theorem Qzc {w:World} {b:Nat} {D:Dev}(h:RDevAt w τ b D) (f:Nat) (hf:f<2) :
 Calls Tryz.prog 290 #[.pointer (some ⟨b,0,none⟩),.int .u8 (f:Int)] w fun e w'=>∃v r,e = .returned v/\NR w.heap.size w' r tOut v ((D.file f).map Sec.last)/\Step w τ w' r nil:=by
 obtain⟨v0,v1,h⟩:=h
 have a1:decide ((1:Int)<(f:Int))=false:=by simp;omega
 obtain⟨ae,d⟩:=h.file f hf
 obtain⟨pvx,cvx,N⟩:=d.len
 have hn4096:=d.1
 have O:(D.file f).take (D.file f).length=D.file f:=List.take_length
 generalize hl:D.file f=l at *
 generalize hn:l.length=n at *
 obtain⟨af,R,U,Hl,ag⟩:=hid5 h N hn hl O
 clear h N hn hl O ae d
 go_enter Tryz.func290,Tryz.ntmps290
 go_wp2_with fail
 go_loopw [5,6] (fun m iv wr=>∃(i:Nat) (x:Tags),i<=n/\iv = .int .i64 (i:Int)/\NR w.heap.size wr x tOut m ((l.take i).map Sec.last)/\Step w τ wr x nil) (fun _ iv _=>n-(intOf iv).toNat)
 case atStart=>exact⟨0,τ,Z9 _,rfl,NR.nil _ _ _ _,Step.refl _ _ _⟩
 case round =>
  obtain⟨i,x,hi,rfl,o,p⟩:=hrel
  have hd:=af.out.step p (fun _ h=>h.elim)
  obtain⟨cf,j⟩:=hd.file f hf
  rw[R.out] at cf
  by_cases ai:i<n
  ·obtain⟨s,hs⟩:∃s,l[i]?=some s:=⟨_,Z3 (by rw[U.out];exact ai)⟩
   have X:=Qja hs
   rw[Hl.out] at j
   obtain⟨bf,c,xs,ys,hv,Y,ho,ak,z⟩:=j.lenp (by rw[U.out];omega)
   have F:=hv
   rw[R.out,U.out] at F
   simp only[Value.slice.injEq,true_and] at F
   obtain⟨al,am⟩:=F
   subst al
   subst am
   obtain⟨⟨k,v,Z,M⟩,-⟩:=z i s hs
   rw[U.out] at ak
   have c0:=ho.at (i*2) (v:=v) (by rw[Y5 (by omega)];exact Z)
   have G:=Qr7 M tData (by omega)
   obtain⟨pv,cv,rfl,-,-⟩:=M.any
   rw[k] at G c0
   have B:((l.take i).map Sec.last).length=i:=by rw[Y0,List.length_take,U.out];omega
   have a6:i<=1000000000:=by omega
   generalize a7:(l.take i).map Sec.last=ls at *
   obtain⟨pm,cm,rfl⟩:=o.val
   have Hls:=Z2 a7
   clear a7
   obtain⟨I,an,q,ao,J,a8⟩:=hid6 p G k X o B
   clear p G k X o B j z Y hd ho M hv Z hs
   go_wp2_with fail
   refine an.out.mono ?_
   rintro e w2 ⟨u,τ2,rfl,y,L⟩
   have C:=J.out.step L (fun h=>h) (fun h=>h)
   have E:=I.out.trans L
   obtain⟨pu,cu,rfl,-,-⟩:=y.any
   rw[q.out] at y ⊢
   obtain⟨ap,aa,ab⟩:=hid3 y C E
   clear y C E L
   go_wp2_with (at_builtin;refine Qbz ab.out (by decide) aa.out ap.out q.out (by rw[a8.out];exact a6) rfl rfl _ _ rfl rfl rfl ?_;intro v' w' r M he ac;obtain⟨Hb,He,Hmo⟩:=hid3 M he ac;clear M he ac)
   go_round
   case rel=>exact⟨i+1,r,by omega,by simp,by rw[ao.out];exact Hb.out,He.out⟩
   case measure=>simp[intOf];omega
  ·obtain rfl:i=n:=by omega
   rw[show l.take i=l from ag.out] at o
   obtain⟨J,I⟩:=hid2 o p
   clear o p
   go_wp2_with fail
   go_returns
   exact⟨_,x,rfl,J.out,I.out⟩
