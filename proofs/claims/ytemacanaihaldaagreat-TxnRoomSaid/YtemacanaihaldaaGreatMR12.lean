/-
 The reference's pool: how it lies in memory (no page at hand);sectors,mend of a whole home.
-/
import Derived.Test.YtemacanaihaldaaGreatMR8
import Derived.Test.YtemacanaihaldaaGreatMPoolC
import Derived.Test.YtemacanaihaldaaGreatMCkRefA
set_option maxRecDepth 100000
set_option maxHeartbeats 8000000
set_option linter.all false
namespace Go.Proofs.YtemacanaihaldaaGreat
variable {bp:Nat}{w:World}{τ:Tags}
open Go.RowKit
def Qdc:Tag:=(60,0)
def tRFr:Tag:=(61,0)
def tRClk:Tag:=(62,0)
structure RPoolH where
 bl:Nat
 n:Nat
 vf:Value
 bc:Nat
 st:Nat
def RPoolH.cells (H:RPoolH):List Value:=[.pointer (some ⟨H.bl,0,none⟩),.int .i64 (H.n:Int),H.vf,.pointer (some ⟨H.bc,0,none⟩),.int .u64 (H.st:Int)]
abbrev Qrs (w:World) (τ:Tags) (bp:Nat) (H:RPoolH):Prop:=Own w τ bp Qdc 302 H.cells
theorem Qmr {bd:Nat} {H:RPoolH} {L:LogM} {D:Dev}(h:Qrs w τ bp H) (hl:RLogAt w τ H.bl bd L) (hd:RDevAt w τ bd D) (n:Nat) (hn:4*n+4<=D.f1.length) :
 Calls Tryz.prog 180 #[.pointer (some ⟨bp,0,none⟩),.int .i64 (4*(n:Int))] w fun e G=>∃v j,e = .returned v/\NR w.heap.size G j tOut v (lastTo D n 4)/\Step w τ G j nil:=by
 have x:=Qgt hd 1 (by omega)
 have p:D.file 1=D.f1:=rfl
 rw[p] at x
 obtain⟨I,Z,N⟩:=hid3 h hl hd
 clear h hl hd
 go_enter Tryz.func180,Tryz.ntmps180
 go_wp2_with fail
 go_loopw [5,6] (fun m v wr=>∃(i:Nat) (k:Tags),i<=4/\v = .int .i64 (i:Int)/\NR w.heap.size wr k tOut m (lastTo D n i)/\Step w τ wr k nil) (fun _ v _=>4-(intOf v).toNat)
 case atStart=>exact⟨0,τ,Z9 _,rfl,NR.nil _ _ _ _,Step.refl _ _ _⟩
 case round =>
  obtain⟨i,k,hi,rfl,d,b⟩:=hrel
  by_cases hlt:i<4
  ·have O:=I.out.step b (fun h=>h)
   obtain⟨vs,vt,R,-,-⟩:=(Z.out.step b (fun _ _ h=>h)).is
   have c0:=O.at 0 (v:=.pointer (some ⟨H.bl,0,none⟩)) rfl
   have d0:=R.at 0 (v:=.pointer (some ⟨bd,0,none⟩)) rfl
   have h2:=Qr6 (N.out.step b (fun _ h=>h.elim)) 1 (by omega) (4*n+i) (by rw[p];omega) tData
   have U:=Qkt N.out 1 (4*n+i) (by omega) (by rw[p];omega)
   have X:=Qlf D n i
   have y:=Qbe D n i
   rw[show ((4*n+i:Nat):Int)=4*(n:Int)+(i:Int) by omega] at h2
   generalize z:lastTo D n i=Li at *
   obtain⟨pm,cm,rfl⟩:=d.val
   obtain⟨H2,Hx,Hs,q,r,J,HLi⟩:=hid7 h2 U X d b y z
   clear h2 U X d b y z O R
   go_wp2_with fail
   refine H2.out.mono ?_
   rintro e w1 ⟨u,τ1,rfl,s,B⟩
   have l:=q.out.step B (fun h=>h) (fun h=>h)
   have o:=r.out.trans B
   obtain⟨pu,cu,rfl,-,-⟩:=s.any
   rw[Hx.out.1] at s ⊢
   obtain⟨M,C,E⟩:=hid3 s l o
   clear s l o
   go_wp2_with (at_builtin;refine Qbz E.out (by decide) C.out M.out Hx.out.1 (by rw[J.out];omega) rfl rfl _ _ rfl rfl rfl ?_;intro v' G j s Y F;obtain⟨M,He,Hmo⟩:=hid3 s Y F;clear s Y F)
   go_round
   case rel=>exact⟨i+1,j,by omega,by simp,by rw[Hs.out];exact M.out,He.out⟩
   case measure=>simp[intOf];omega
  ·obtain rfl:i=4:=by omega
   obtain⟨q,r⟩:=hid2 d b
   clear d b
   go_wp2_with fail
   go_returns
   exact⟨_,k,rfl,q.out,r.out⟩
theorem Qqr {bd:Nat} {H:RPoolH} {L:LogM} {D:Dev}(h:Qrs w τ bp H) (hl:RLogAt w τ H.bl bd L) (hd:RDevAt w τ bd D) (n:Nat) (hn:4*n+4<=D.f1.length) (s:Qb3 (lastTo D n 4)=true) :
 Calls Tryz.prog 178 #[.pointer (some ⟨bp,0,none⟩),.int .i64 (n:Int)] w fun e z=>e = .returned (.bool true)/\∃k,Step w τ z k nil:=by
 have h1:=Qmr h hl hd n hn
 have b:=Qgt hd 1 (by omega)
 have l:D.file 1=D.f1:=rfl
 rw[l] at b
 have x:=Qbe D n 4
 generalize lastTo D n 4=ls at *
 obtain⟨y,B,C⟩:=hid3 h1 x s
 clear h1 x s h hl hd
 go_enter Tryz.func178,Tryz.ntmps178
 go_wp2_with fail
 refine y.out.mono ?_
 rintro e w1 ⟨v,τ1,rfl,m,d⟩
 have h2:=Qzf m.row tData B.out
 obtain⟨p,c,rfl⟩:=m.val
 obtain⟨E,o⟩:=hid2 h2 d
 clear h2 d y m
 go_wp2_with fail
 refine E.out.mono ?_
 rintro e w2 ⟨q,i,h⟩
 rcases h with ⟨-,u,rfl,-⟩|⟨j,-⟩
 ·have r:=Z2 i
  clear i
  go_wp2_with fail
  go_ret
  exact⟨rfl,q,o.out.trans r.out⟩
 ·rw[C.out] at j;cases j
theorem Tryz.infoRFrame:(Tryz.prog.info? 305).map (fun i=>(i.zero,i.size,i.bytes))=some (some (.agg #[.int .i64 0,.pointer none,.int .u64 0]),3,24):=by kernel_rfl
def Qc5 (k:Nat):List Value:=(List.replicate k [Value.int .i64 (-1),.pointer none,.int .u64 0]).flatten
theorem Qfj (k:Nat):Qc5 (k+1)=Qc5 k++[Value.int .i64 (-1),.pointer none,.int .u64 0]:=by
 unfold Qc5
 rw[List.replicate_succ',List.flatten_append];simp
theorem Qcm (k:Nat):(Qc5 k).length=k*3:=by
 induction k with
 | zero=>rfl
 | succ k ih=>rw[Qfj,Z6,ih];simp;omega
theorem Qqm (k i:Nat) (h:i<k):(Qc5 k)[i*3]?=some (.int .i64 (-1)):=by
 induction k with
 | zero=>omega
 | succ k ih =>
   rw[Qfj]
   by_cases e:i<k
   ·rw[Y5 (by rw[Qcm];omega)];exact ih e
   ·obtain rfl:i=k:=by omega
    rw[Y6 (by rw[Qcm];exact Z0 _),Qcm,Nat.sub_self];rfl
structure RPoolAt0 (w:World) (τ:Tags) (bp:Nat) (H:RPoolH) (k:Nat):Prop where
 hd:Qrs w τ bp H
 fr:Buf w τ tRFr 305 3 H.vf k (Qc5 k)
 n1:1<=H.n/\H.n<=512
 k1:k<=64
def RPoolTag (g:Tag):Prop:=g=Qdc\/g=tRFr\/g=tRClk
theorem RPoolAt0.step {d:World} {b:Tags} {S:Tag->Prop} {k:Nat} {H:RPoolH}(h:RPoolAt0 w τ bp H k) (m:Step w τ d b S) (e:∀g,RPoolTag g->¬S g):RPoolAt0 d b bp H k :=
 ⟨h.hd.step m (e _ (.inl rfl)),h.fr.step m (e _ (.inr (.inl rfl))),h.n1,h.k1⟩
theorem RPoolAt0.setSt {k:Nat} {H:RPoolH}(h:RPoolAt0 w τ bp H k) (n:Nat):RPoolAt0 (w.setCell ⟨bp,4,none⟩ (.int .u64 (n:Int))) τ bp {H with st:=n} k/\Step w τ (w.setCell ⟨bp,4,none⟩ (.int .u64 (n:Int))) τ (fun g=>g=Qdc):=by
 have m:Step w τ (w.setCell ⟨bp,4,none⟩ (.int .u64 (n:Int))) τ (fun g=>g=Qdc):=(Step.refl w τ (fun g=>g=Qdc)).set h.hd.tag rfl _
 exact⟨⟨h.hd.set 4 _,h.fr.step m (by decide),h.n1,h.k1⟩,m⟩
theorem RPoolAt0.setVf {d:World} {b:Tags} {k e:Nat} {H:RPoolH}(h:RPoolAt0 w τ bp H k) (m:Step w τ d b (fun t=>t=tRFr)) {v:Value}(l:Buf d b tRFr 305 3 v e (Qc5 e)) (hk:e<=64) :
 RPoolAt0 (d.setCell ⟨bp,2,none⟩ v) b bp {H with vf:=v} e/\Step d b (d.setCell ⟨bp,2,none⟩ v) b (fun g=>g=Qdc):=by
 have i:=h.hd.step m (by decide)
 have j:Step d b (d.setCell ⟨bp,2,none⟩ v) b (fun g=>g=Qdc):=(Step.refl d b (fun g=>g=Qdc)).set i.tag rfl _
 exact⟨⟨i.set 2 v,l.step j (by decide),h.n1,hk⟩,j⟩
theorem Qie {v:Value} {n:Nat}(e:Buf w τ tRFr 305 3 v n (Qc5 n)) (hn:n<=1000) {kb:Nat} (p:kb=w.heap.size)
 {ops:Array Oper} {rest:List Oper} {o:Oper} {a:Act} {Q:Exit->Act->World->Prop} (q:o.guard=none) (s y:Operand)
 (B:o.op = .call {callee:=.builtin .append,args:=#[s,y],argTypes:=#[300,300]}) (C:a.eval s=v) (D:a.eval y = .slice (some ⟨kb,0,none⟩) 1 1)
 (h:∀m i d,Buf i d tRFr 305 3 m (n+1) (Qc5 (n+1))->Step w τ i d (fun t=>t=tRFr)->wpList Tryz.prog ops Q rest (a.put o.dst m) i):wpList Tryz.prog ops Q (o::rest) a (w.alloc (.cells #[.int .i64 (-1),.pointer none,.int .u64 0] 305)):=by
 subst p
 refine wpList_plain q fun K E=>?_
 obtain⟨i0,hi,r,x,z⟩:=info_parts Tryz.infoRFrame
 have j:Step w τ (w.alloc (.cells #[.int .i64 (-1),.pointer none,.int .u64 0] 305)) τ nil:=(Step.refl w τ nil).alloc' _
 have b:=e.step j (fun h=>h)
 obtain⟨m,i,d,F,l,G,I,hnw⟩:=Qap (P:=Tryz.prog) (w.alloc (.cells #[.int .i64 (-1),.pointer none,.int .u64 0] 305)) τ tRFr 300 o.type 305 i0 (.agg #[.int .i64 0,.pointer none,.int .u64 0]) 3 24 Tryz.underlying300 hi r x z rfl (by decide) v n (Qc5 n) b
  (some ⟨w.heap.size,0,none⟩) 1 1 [.int .i64 (-1),.pointer none,.int .u64 0] rfl (fun h=>by cases h) (by
    intro ad had;cases had;exact World.news_of_block (cs:=#[.int .i64 (-1),.pointer none,.int .u64 0]) (t := 305) (fr:=(0,0)) (heap_alloc_new w _)) (by simp[Value.oneCell']) (by unfold maxLen;omega) (by omega)
 unfold Oper.wp execOp
 simp only[B,resolve,invoke,builtin,Sem.run_bind,Sem.run_pure,Result.andThen_ok,List.map_toArray,X1,List.map_nil,C,D,F]
 rw[<-Qfj] at l
 refine E _ _ (h m i d l ((j.mono (fun _ h=>h.elim)).trans ⟨I.mono (fun k hk J=>(b.own k J).1),G⟩))
theorem Qs9 {bl bd:Nat} {L:LogM} {D:Dev}(hl:RLogAt w τ bl bd L) (hd:RDevAt w τ bd D) (n k:Nat) (h1:1<=n) (h5:n<=512) (h3:3<=k) (b1:k<=64) (hn:4*(n+1)<=D.f1.length) (hw:∀i,i<n->Qb3 (lastTo D i 4)=true) (C:∀i,i<=n+1->stampTo D i<18446744073709551616) :
 Calls Tryz.prog 111 #[.pointer (some ⟨bl,0,none⟩),.int .i64 (n:Int),.int .i64 (k:Int)] w fun e w'=>∃bp aj H,e = .returned (.tuple #[.pointer (some ⟨bp,0,none⟩),.int .i64 0])/\RPoolAt0 w' aj bp H k/\H.bl=bl/\H.n=n/\H.st=stampTo D (n+1)/\w.heap.size<=bp/\Step w τ w' aj RPoolTag:=by
 obtain⟨vs,vt,ho,-,-⟩:=hl.is
 have c0:=ho.at 0 (v:=.pointer (some ⟨bd,0,none⟩)) rfl
 have R:=Qkr hd 1 (by omega)
 have b2:D.file 1=D.f1:=rfl
 have ak:=Qgt hd 1 (by omega)
 rw[b2] at R ak
 generalize hm:D.f1.length=m at *
 have a1:decide ((m:Int)<4*((n:Int)+1))=false:=by simp;omega
 have a2:decide ((n:Int)<1)=false:=by simp;omega
 have a3:decide ((512:Int)<(n:Int))=false:=by simp;omega
 have a4:decide ((k:Int)<3)=false:=by simp;omega
 have a5:decide ((64:Int)<(k:Int))=false:=by simp;omega
 have al:=Ck.rnew_ok w k (by omega) b1
 obtain⟨b3,Hl,Hd,b4,Hw,Hst64,Hm⟩:=hid7 R hl hd al hw C hm
 clear R hl hd al hw C hm ho
 go_enter Tryz.func111,Tryz.ntmps111
 go_wp2_with fail
 refine b3.out.mono ?_
 rintro e w' ⟨rfl,rfl⟩
 go_wp2_with fail
 refine b4.out.mono ?_
 rintro e wc ⟨br,bt,bu,bp0,rfl,l1,l2,l3,l4,b5,x⟩
 have am:Step w τ wc τ RPoolTag:=⟨⟨x.os,x.tape,x.output,x.size,fun j hj _=>x.block j hj (by simp)⟩,Ext.refl _ _⟩
 have z:(RPoolH.mk bl n (.slice none 0 0) br 0).cells=[.pointer (some ⟨bl,0,none⟩),.int .i64 (n:Int),.slice none 0 0,.pointer (some ⟨br,0,none⟩),.int .u64 0]:=rfl
 have U:=Own.new wc τ Qdc 302 (RPoolH.mk bl n (.slice none 0 0) br 0).cells
 have X:=am.alloc (.cells ⟨(RPoolH.mk bl n (.slice none 0 0) br 0).cells⟩ 302) Qdc
 rw[z] at U X
 have Y:RPoolAt0 (wc.alloc (.cells #[.pointer (some ⟨bl,0,none⟩),.int .i64 (n:Int),.slice none 0 0,.pointer (some ⟨br,0,none⟩),.int .u64 0] 302)) (τ.put wc.heap.size Qdc) wc.heap.size ⟨bl,n,.slice none 0 0,br,0⟩ 0 :=
  ⟨U,Buf.nil _ _ _ _ _,⟨h1,h5⟩,by omega⟩
 have E:w.heap.size<=wc.heap.size:=x.size
 generalize τ.put wc.heap.size Qdc=τ0 at *
 obtain⟨bp,Z⟩:∃bp,wc.heap.size=bp:=⟨_,rfl⟩
 rw[Z] at Y E
 obtain⟨an,ao,ap,b6⟩:=hid4 Y X E Z
 clear Y X E Z b5 x am U z
 go_wp2_with fail
 rw[b6.out]
 generalize wc.alloc (.cells #[.pointer (some ⟨bl,0,none⟩),.int .i64 (n:Int),.slice none 0 0,.pointer (some ⟨br,0,none⟩),.int .u64 0] 302)=W0 at *
 go_loopw [9] (fun v wr=>∃(i:Nat) (d:Tags),i<=n/\v = .int .i64 (i:Int)/\RPoolAt0 wr d bp ⟨bl,n,.slice none 0 0,br,0⟩ 0/\Step w τ wr d RPoolTag) (fun v _=>n-(intOf v).toNat)
 case atStart=>exact⟨0,_,Z9 _,rfl,an.out,ao.out⟩
 case round =>
  clear an ao
  obtain⟨i,d,hi,rfl,o,b⟩:=hrel
  have a6:=Hl.out.step b (fun g hg hS=>by rcases hg with rfl|rfl|rfl <;> simp[RPoolTag,Qdc,tRFr,tRClk,tRLog,Qee,Qef] at hS)
  have a8:=Hd.out.step b (fun g hg=>by rcases hg with rfl|rfl|rfl <;> simp[RDevTag,Qdc,tRFr,tRClk,tData])
  by_cases aa:i<n
  ·have aq:=Qqr o.hd a6 a8 i (by rw[Hm.out];omega) (Hw.out i aa)
   obtain⟨b7,y,l⟩:=hid3 aq o b
   clear aq o b a6 a8
   go_wp2_with fail
   refine b7.out.mono ?_
   rintro e w2 ⟨rfl,ab,B⟩
   have G:=Z2 B
   clear B
   go_wp2_with fail
   go_round
   case rel=>exact⟨i+1,ab,by omega,by simp,y.out.step G.out (fun _ _ h=>h),l.out.trans (G.out.mono (fun _ h=>h.elim))⟩
   case measure=>simp[intOf];omega
  ·obtain rfl:i=n:=by omega
   obtain⟨y,l⟩:=hid2 o b
   clear o b a6 a8
   go_wp2_with fail
   go_loopw [11] (fun v wr=>∃(j:Nat) (d:Tags),j<=i+1/\v = .int .i64 (j:Int)/\RPoolAt0 wr d bp ⟨bl,i,.slice none 0 0,br,stampTo D j⟩ 0/\Step w τ wr d RPoolTag) (fun v _=>i+1-(intOf v).toNat)
   case atStart=>exact⟨0,d,Z9 _,rfl,y.out,l.out⟩
   case round =>
    clear y l
    obtain⟨j,d,hj,rfl,o,b⟩:=hrel
    by_cases aa:j<i+1
    ·have M:=b.drew
     have N:=Qmr o.hd.drew (by show RLogAt _ _ bl _ _;exact Hl.out.step M (fun g hg hS=>by rcases hg with rfl|rfl|rfl <;> simp[RPoolTag,Qdc,tRFr,tRClk,tRLog,Qee,Qef] at hS)) (Hd.out.step M (fun g hg=>by rcases hg with rfl|rfl|rfl <;> simp[RDevTag,Qdc,tRFr,tRClk,tData])) j (by rw[Hm.out];omega)
     have O:stampTo D (j+1)=max (stampTo D j) (greatTo (lastTo D j 4) 4):=rfl
     have hmx:=fun (W:World) (ts:Array TypeId) (t:TypeId)=>Qr4 (P:=Tryz.prog) W ts t _ _ _ O
     have c5:=o.hd.at 4 (v:=.int .u64 (stampTo D j:Int)) rfl
     have hj4:IntKind.i64.wrap (4*(j:Int))=4*(j:Int):=by rw[IntKind.wrap_i64];omega
     obtain⟨ar,y,l⟩:=hid3 N o b
     clear N o b
     generalize b8:stampTo D (j+1)=s1 at *
     generalize hS0:stampTo D j=s0 at *
     go_wp2_with fail
     refine Qaf (S:=fun w':World=>w'.cell? ⟨bp,4,none⟩=some (.int .u64 (s0:Int))) (by kernel_rfl) ?_
     have b9:wr.drew.cell? ⟨bp,4,none⟩=some (.int .u64 (s0:Int)):=c5
     refine tk0 [0,1,2,3,4,5,6,7] ?_
     iterate 8
      refine tks (v:=?_) rfl (Or.inl ⟨by rfl,?_⟩) (by assumption) ?_
      rotate_left
      ·intro w ba;(try dsimp only at ba);go_simp
       all_goals with_reducible rfl
      try simp only[Act.put,lz1,lz2,lz3]
     refine tk9 ?_
     clear b9
     refine tk1 8 rfl fun K p=>?_
     go_simp
     go_at_call 180
     refine ar.out.mono ?_
     rintro e w2 ⟨u2,ab,rfl,r,B⟩
     have ac:=(y.out.step (Step.refl wr d nil).drew (fun _ _ h=>h)).step B (fun _ _ h=>h)
     have d5:=ac.hd.at 4 (v:=.int .u64 (s0:Int)) rfl
     have ad:=Qqs r.row
     rw[Qbe] at ad
     obtain⟨pu,cu,rfl⟩:=r.val
     obtain⟨bb,G,bc⟩:=hid3 ac B ad
     clear ac B ad r
     refine p.out _ _ (fun _=>d5) ?_
     clear p K
     refine tk1 9 rfl fun K p=>?_
     go_simp
     go_at_call 179
     refine bc.out.mono ?_
     rintro e w3 ⟨rfl,s⟩
     have F:=bb.out.step s (fun _ _ h=>h)
     have e5:=F.hd.at 4 (v:=.int .u64 (s0:Int)) rfl
     have f5:=F.hd.fz 4
     have aw:=F.setSt (max s0 (greatTo (lastTo D j 4) 4))
     obtain⟨Hp3,ae,ax⟩:=hid3 F s aw
     clear F s aw
     refine p.out _ _ (fun _=>e5) ?_
     clear p K
     refine tk1 10 rfl fun K p=>?_
     go_simp
     refine p.out _ _ (fun _=>e5) ?_
     clear p K
     refine tk1 11 rfl fun K p=>?_
     go_simp
     refine p.out _ _ (fun _=>e5) ?_
     clear p K
     refine tk1 12 rfl fun K p=>?_
     go_simp
     refine p.out _ _ (fun _=>e5) ?_
     clear p K
     refine tk1 13 rfl fun K p=>?_
     go_simp
     refine p.out _ _ (fun h=>absurd h (by decide +kernel)) ?_
     clear p K
     refine Qad (by kernel_rfl) ?_ _
     go_wp2_with fail
     go_round
     case rel=>exact⟨j+1,ab,by omega,by simp,by rw[b8,O];exact ax.out.1,l.out.drew.trans (((G.out.trans ae.out).mono (T:=RPoolTag) (fun _ h=>h.elim)).trans (ax.out.2.mono (T:=RPoolTag) (fun _ h=>.inl h)))⟩
     case measure=>simp[intOf];omega
    ·obtain rfl:j=i+1:=by omega
     generalize hS:stampTo D (i+1)=S1 at *
     obtain⟨y,l,HS⟩:=hid3 o b hS
     clear o b hS
     go_wp2_with fail
     go_loopw [12] (fun v wr=>∃(q:Nat) (d:Tags) (vf:Value),q<=k/\v = .int .i64 (q:Int)/\RPoolAt0 wr d bp ⟨bl,i,vf,br,S1⟩ q/\Step w τ wr d RPoolTag) (fun v _=>k-(intOf v).toNat)
     case atStart=>exact⟨0,d,_,Z9 _,rfl,y.out,l.out⟩
     case round =>
      clear y l
      obtain⟨q,d,vf,hq,rfl,o,b⟩:=hrel
      by_cases aa:q<k
      ·have c2:=o.hd.at 2 (v:=vf) rfl
       have be:=o.step (Step.refl wr d nil).drew (fun _ _ h=>h)
       clear be
       obtain⟨y,l⟩:=hid2 o b
       clear o b
       go_wp2_with (at_builtin;refine Qie y.out.fr (by omega) rfl rfl _ _ rfl rfl rfl ?_;intro v3 w3 I af s
                    obtain⟨p3,n3,rfl⟩:=af.len
                    have ay:=y.out.setVf s af (by omega)
                    have ag:=y.out.hd.step s (by decide)
                    have c3:=ag.at 2 (v:=vf) rfl
                    have z3:=ag.fz 2
                    obtain⟨az,ae⟩:=hid2 ay s
                    clear ay s
                    clear af ag)
       go_round
       case rel =>
        have J:=az.out.1
        have r:=l.out.trans ((ae.out.mono (T:=RPoolTag) (fun _ h=>.inr (.inl h))).trans (az.out.2.mono (T:=RPoolTag) (fun _ h=>.inl h)))
        first
         | exact⟨q+1,I,_,by omega,by simp,J,r⟩
         | exact⟨q+1,by omega,by simp,I,⟨_,J⟩,r⟩
         | exact⟨q+1,by omega,I,⟨_,J⟩,r⟩
         | exact⟨q+1,by omega,⟨by simp,I,⟨_,J⟩,r⟩⟩
       case measure=>simp[intOf];omega
      ·obtain rfl:q=k:=by omega
       obtain⟨y,l⟩:=hid2 o b
       clear o b
       go_wp2_with fail
       go_ret2
       exact⟨bp,d,_,rfl,y.out,rfl,rfl,HS.out.symm,ap.out,l.out⟩
