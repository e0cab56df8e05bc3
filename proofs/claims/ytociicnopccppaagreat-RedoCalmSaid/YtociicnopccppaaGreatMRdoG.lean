/-
 A restart: nothing is done anew where no page is behind the log;nobody is undone where nobody is.
-/
import Derived.Test.YtociicnopccppaaGreatMRdoF
import Derived.Test.YtociicnopccppaaGreatML15A
set_option maxRecDepth 100000
set_option maxHeartbeats 4000000
set_option linter.all false
namespace Go.Proofs.YtociicnopccppaaGreat
variable {w:World}{τ:qa1}
open Go.RowKit Go.Maps
structure qi4 (bp bf bd N:Nat) (H:qaq) (L:qac) (D:Dev) (cur:Nat->List Int) (w:World) (τ:qa1):Prop where
 is:∃F s,qbz w τ bp bf bd H L D F s/\qez N D F cur/\Clock F s
 n:H.n=N
def tRm:Tag:=(342,0)
def tRe:Tag:=(342,1)
def tRc:Tag:=(342,2)
def qgh (g:Tag):Prop:=qbe g\/g=tRm
theorem Ji7 {g:Tag}(h:qbe g):g.1<211:=by
 have:=qbj.fst (show qbj g from .inl (.inl h))
 rcases h with h|h|h
 ·rcases h with rfl|rfl|rfl|rfl|⟨i,rfl⟩ <;> simp[qcd,tFr,qbi,qdk,tPg]
 ·rcases h with rfl|rfl|rfl <;> simp[qb1,qa5,qa6]
 ·rcases h with h|h|h|h <;> omega
theorem qj9 {g:Tag}(h:211<=g.1) (h2:g≠tRm):¬qgh g:=fun q=>by
 rcases q with q|q
 ·have:=Ji7 q;omega
 ·exact h2 q
theorem qi4.step {bp bf bd N:Nat} {H:qaq} {L:qac} {D:Dev} {cur:Nat->List Int} {d:World} {a:qa1} {S:Tag->Prop}(h:qi4 bp bf bd N H L D cur w τ) (m:Step w τ d a S) (b:∀g,S g->¬qbe g/\g≠qa2):qi4 bp bf bd N H L D cur d a:=by
 obtain⟨F,s,h1,h2,e⟩:=h.is
 exact⟨⟨F,s,h1.step m (fun g c=>⟨fun k=>(b g c).1 (.inl k),fun k=>(b g c).1 (.inr (.inl k)),fun k=>(b g c).1 (.inr (.inr k)),(b g c).2⟩),h2,e⟩,h.n⟩
theorem Jlg {bp bf bd N:Nat} {H:qaq} {L:qac} {D:Dev} {cur:Nat->List Int}(hP:qi4 bp bf bd N H L D cur w τ) {va:Value}{l:List (Nat×qak)}(he:qdw w τ va l) (hx:∀x∈l,qj2 x) (hl:l.length<=100000) {pd:Option Addr}{nd cd:Nat}{ds:List (Nat×Nat)}(hd:NS 84 2 Qgn 0 w τ qch (.slice pd nd cd) ds) (b8:ds.length=nd) (hd6:nd<=100000) (d2:∀x∈ds,x.1<4294967296)
 (aw:∀x∈l,(x.2.change.had=true\/x.2.change.has=true)->x.2.change.page<N/\x.1<=qaa (cur x.2.change.page)) :
 Calls Tryz.prog 61 #[.pointer (some ⟨bp,0,none⟩),va,.slice pd nd cd] w fun e w'=>e = .returned (.tuple #[.int .i64 0,.int .u16 0])/\∃b9,qi4 bp bf bd N H L D cur w' b9/\Step w τ w' b9 qgh:=by
 obtain⟨p,c,rfl,d3,-⟩:=id he.is
 obtain⟨n,hn⟩:=gN l.length
 rw[hn] at d3 he hl ⊢
 have ab:=qf6.made w τ tRm
 have C:=(zS w τ).alloc (.map #[] 0) tRm
 generalize τ.put w.heap.size tRm=d4 at *
 obtain⟨bm,d5⟩:=gN w.heap.size
 obtain⟨w0,d6⟩:=gN (w.alloc (.map #[] 0))
 rw[d6] at C ab
 rw[d5] at ab
 have bb:=hP.step C zE
 have bc:=he.step C zN
 have bg:=hd.step C id
 have ai:=C.nz (T:=qgh)
 have hmm:=@run_makeMap Tryz.prog
 obtain⟨bh,bi,bj,bk,aj⟩:=qbq ab bb bc bg ai
 clear ab bb bc bg ai C hP he hd
 go_enter Tryz.func61,Tryz.ntmps61
 go_wp2_with fail
 go_loopw [23] (fun v wr=>∃(i:Nat) (d:qa1) (f:Nat->Option Value),i<=nd/\v = .int .i64 i/\qf6 wr d bm tRm i f/\(∀k u,f k=some u->∃m:Nat,u = .int .u64 m)/\qi4 bp bf bd N H L D cur wr d/\qdw wr d (.slice p n c) l/\NS 84 2 Qgn 0 wr d qch (.slice pd nd cd) ds/\Step w τ wr d qgh) (fun v _=>nd-(intOf v).toNat)
 case atStart=>exact⟨0,d4,_,Z9 _,rfl,bh,(fun k u h=>nomatch h),bi,bj,bk,aj⟩
 case round =>
  clear bh bi bj bk aj
  obtain⟨i,d,f,hi,rfl,hg,hf,hP,hE,hd,G⟩:=hrel
  by_cases d7:i<nd
  ·have bl:i<ds.length:=by rw[b8];exact d7
   obtain⟨p',c',a3,-,bn⟩:=ND.read ⟨hd.buf,hd.low⟩
   rw[b8] at a3
   cases a3
   obtain⟨ba,rfl,e0,e1⟩:=bn i bl
   obtain⟨x,bo⟩:=gN (ds[i])
   have bq:=d2 x (by rw[<-bo];exact List.getElem_mem _)
   rw[bo] at e0 e1
   obtain⟨n1,n2⟩:=x
   dsimp only at e0 e1 bq
   have hltI:(i:Int)<nd:=oM
   have I:=(zS wr d).alloc (.cells #[.int .u32 n1,.int .u64 n2] 84) tRe
   have a4:=Own.born wr d tRe 84 #[.int .u32 n1,.int .u64 n2]
   generalize d.put wr.heap.size tRe=τ1 at *
   obtain⟨b1,ax⟩:=gN wr.heap.size
   obtain⟨w1,ay⟩:=gN (wr.alloc (.cells #[.int .u32 n1,.int .u64 n2] 84))
   rw[ay] at I a4
   rw[ax] at a4
   have f0:=a4.at 0 rfl
   have f1:=a4.at 1 rfl
   obtain⟨w2,hup,Y,br⟩:=(hg.step I id).store Tryz.underlying171 n1 (.int .u64 n2) (by unfold maxLen;omega) bq
   have J:Step wr d w2 τ1 (fun g=>g=tRm):=(I.mono (T:=fun g=>g=tRm) (fun _ h=>h.elim)).trans br
   have a5:=hP.step J (fun g h=>by subst h;exact⟨fun q=>by have:=Ji7 q;simp[tRm] at this,by simp[tRm,qa2]⟩)
   have a6:=hE.step J (fun g hg h=>by subst h;simp[tRm] at hg)
   have bs:=hd.step J (by simp[qch,tRm])
   have M:=G.trans (J.mono (T:=qgh) (fun _ h=>.inr h))
   have bv:∀k u,qgj f n1 (some (.int .u64 n2)) k=some u->∃m:Nat,u = .int .u64 m:=fun k u h=>by
    unfold qgj at h
    split at h
    ·cases h;exact⟨n2,rfl⟩
    ·exact hf k u h
   obtain⟨Z,d9,O,a0,da,E⟩:=qcq Y bv a5 a6 bs M
   clear Y bv a5 a6 bs M hg hf hP hE hd G I a4 br J bn
   go_wp2_with fail
   go_round
   case rel=>exact⟨i+1,τ1,_,oM,sM,Z,d9,O,a0,da,E⟩
   case measure=>simp[intOf];omega
  ·have db:i=nd:=oM
   subst db
   obtain⟨Hg,Hf,HP,HE,ac⟩:=qbq hg hf hP hE G
   clear hg hf hP hE G hd
   go_wp2_with fail
   go_loopw [11,35] (fun u v wr=>∃(j:Nat) (d:qa1),j<=n/\u = .int .i64 0/\v = .int .i64 j/\qf6 wr d bm tRm i f/\qi4 bp bf bd N H L D cur wr d/\qdw wr d (.slice p n c) l/\Step w τ wr d qgh) (fun _ v _=>n-(intOf v).toNat)
   case atStart=>exact⟨0,d,Z9 _,rfl,rfl,Hg,HP,HE,ac⟩
   case round =>
    clear Hg HP HE ac
    obtain⟨j,ad,hj,rfl,rfl,hg,hP,hE,G⟩:=hrel
    by_cases dc:j<n
    ·obtain⟨x,ae⟩:∃x,l[j]?=some x:=⟨_,Z3 (by rw[hn];exact dc)⟩
     obtain⟨p',c',a3,-,al⟩:=hE.is
     rw[hn] at a3
     cases a3
     obtain⟨be,cs,rfl,dd,de,⟨vb,va,vt,vp,rfl,a7⟩,o⟩:=al j x ae
     have df:=hx x (List.mem_of_getElem? ae)
     have bw:=aw x (List.mem_of_getElem? ae)
     have hljI:(j:Int)<n:=oM
     obtain⟨pb,nb,cb,rfl⟩:=a7.b
     obtain⟨pa,na,ca,rfl⟩:=a7.a
     obtain⟨pt,ct,di⟩:=a7.t.val
     obtain⟨pp,cp,dk⟩:=a7.p.val
     subst di dk
     obtain⟨lsn,⟨kd,tx,pv,nx,⟨pg,sl,had,has,bf',af⟩,ts,ps⟩⟩:=x
     obtain⟨o1,o2,o3,o4,-,-,-,-⟩:=df
     dsimp only at o o1 o2 o3 o4 bw
     have e0:=o 0 _ rfl
     have e1:=o 1 _ rfl
     have e2:=o 2 _ rfl
     have e3:=o 3 _ rfl
     have e4:=o 4 _ rfl
     have e5:=o 5 _ rfl
     have e6:=o 6 _ rfl
     have e7:=o 7 _ rfl
     have e8:=o 8 _ rfl
     have e9:=o 9 _ rfl
     have e10:=o 10 _ rfl
     have e11:=o 11 _ rfl
     have e12:=o 12 _ rfl
     rw[Nat.add_zero] at e0
     have I:=(zS wr ad).alloc (.cells #[.int .u64 lsn,.int .u8 kd,.int .u32 tx,.int .u64 pv,.int .u64 nx,.int .u32 pg,.int .u16 sl,.bool had,.bool has,.slice pb nb cb,.slice pa na ca,.slice pt ts.length ct,.slice pp ps.length cp] 75) tRe
     have z:=Own.born wr ad tRe 75 #[.int .u64 lsn,.int .u8 kd,.int .u32 tx,.int .u64 pv,.int .u64 nx,.int .u32 pg,.int .u16 sl,.bool had,.bool has,.slice pb nb cb,.slice pa na ca,.slice pt ts.length ct,.slice pp ps.length cp]
     generalize ad.put wr.heap.size tRe=τ1 at *
     obtain⟨b1,ax⟩:=gN wr.heap.size
     obtain⟨w1,ay⟩:=gN (wr.alloc (.cells #[.int .u64 lsn,.int .u8 kd,.int .u32 tx,.int .u64 pv,.int .u64 nx,.int .u32 pg,.int .u16 sl,.bool had,.bool has,.slice pb nb cb,.slice pa na ca,.slice pt ts.length ct,.slice pp ps.length cp] 75))
     rw[ay] at I z
     rw[ax] at z
     have g5:=z.at 5 rfl
     have g6:=z.at 6 rfl
     have g7:=z.at 7 rfl
     have g8:=z.at 8 rfl
     have g9:=z.at 9 rfl
     have g10:=z.at 10 rfl
     have U:=(zS w1 τ1).alloc (.cells #[.int .u32 pg,.int .u16 sl,.bool had,.bool has,.slice pb nb cb,.slice pa na ca] 70) tRc
     have R:=Own.born w1 τ1 tRc 70 #[.int .u32 pg,.int .u16 sl,.bool had,.bool has,.slice pb nb cb,.slice pa na ca]
     generalize τ1.put w1.heap.size tRc=az at *
     obtain⟨b2,dl⟩:=gN w1.heap.size
     obtain⟨w2,dm⟩:=gN (w1.alloc (.cells #[.int .u32 pg,.int .u16 sl,.bool had,.bool has,.slice pb nb cb,.slice pa na ca] 70))
     rw[dm] at U R
     rw[dl] at R
     have a8:=z.step U id
     have q0:=a8.at 0 rfl
     have r0:=R.at 0 rfl
     have r2:=R.at 2 rfl
     have r3:=R.at 3 rfl
     have y:=I.trans U
     have Y:=hg.step y id
     have a5:=hP.step y zE
     have a6:=hE.step y zN
     have M:=G.trans y.nz
     have b0:=Y.look Tryz.underlying171 (Tryz.zeroValue40 w2) pg o4 true
     obtain⟨fr,bz⟩:∃m:Nat,(f pg).getD (Value.int .u64 0) = .int .u64 m:=by
      cases dn:f pg with
      | none=>exact⟨0,rfl⟩
      | some u =>
        obtain⟨m,rfl⟩:=Hf pg u dn
        exact⟨m,rfl⟩
     obtain⟨bI,c3⟩:=gN ((f pg).isSome)
     rw[if_pos rfl,c3] at b0
     change _=Result.ok (Value.tuple #[(f pg).getD (Value.int .u64 0),.bool bI]) w2 at b0
     rw[bz] at b0
     obtain⟨Z,O,a0,E,c4,dp⟩:=qcq Y a5 a6 M a8 R
     clear Y a5 a6 M a8 R hg hP hE G al a7 o I U y z ae dd de bz c3
     by_cases hh:had=false/\has=false
     ·obtain⟨rfl,rfl⟩:=hh
      go_wp2_with fail
      go_round
      case rel=>exact⟨j+1,az,oM,rfl,sM,Z,O,a0,E⟩
      case measure=>simp[intOf];omega
     have ag:had=true\/(had=false/\has=true):=by
      cases had
      ·cases has
       ·exact absurd ⟨rfl,rfl⟩ hh
       ·exact .inr ⟨rfl,rfl⟩
      ·exact .inl rfl
     have am:=bw (ag.imp id (fun q=>q.2))
     cases bI with
     | false =>
       rcases ag with rfl|⟨rfl,rfl⟩
       all_goals (
        go_wp2_with fail
        go_round
        case rel=>exact⟨j+1,az,oM,rfl,sM,Z,O,a0,E⟩
        case measure=>simp[intOf];omega)
     | true =>
       by_cases hlf:lsn<fr
       ·have c5:(lsn:Int)<fr:=oM
        rcases ag with rfl|⟨rfl,rfl⟩
        all_goals (
         go_wp2_with fail
         go_round
         case rel=>exact⟨j+1,az,oM,rfl,sM,Z,O,a0,E⟩
         case measure=>simp[intOf];omega)
       ·have c5:¬(lsn:Int)<fr:=oM
        obtain⟨F,s,k1,k2,k3⟩:=O.is
        have an:=Jfq k1 k2 k3 O.n pg am.1
        have c6:=O.n
        obtain⟨c7,c8⟩:=qaj an c6
        clear an c6 k1 k2 k3
        rcases ag with rfl|⟨rfl,rfl⟩
        all_goals (
         go_wp2_with fail
         refine c7.mono ?_
         rintro e w3 ⟨b3,rfl,B,F3,s3,i3,f3,r⟩
         have a9:=r.step.mono (T:=qgh) (fun _ h=>.inl h)
         have ao:=c4.step a9 (qj9 (by simp[tRe]) (by simp[tRe,tRm]))
         have ap:=dp.step a9 (qj9 (by simp[tRc]) (by simp[tRc,tRm]))
         have c9:=Z.step r.step (fun q=>by have:=Ji7 q;simp[tRm] at this)
         have cc:=a0.step a9 (fun g hg=>qj9 oM (fun q=>by subst q;simp[tRm] at hg))
         have aq:=E.trans a9
         have ce:∀q,Calls Tryz.prog 114 #[.pointer (some ⟨b3,0,none⟩)] (w3.drewN q) fun e w'=>e = .returned (.int .u64 (qaa (cur pg):Int))/\w'=w3.drewN q:=fun q=>by
          have dr:qag w3 B (tPg i3) b3 (cur pg):=r.pool.pool.pg i3 b3 (cur pg) (by rw[r.at_];exact r.pg)
          exact(Qhe (dr.step ((zS w3 B).qcp q) id)).mono (fun _ _ ⟨h1,h2⟩=>⟨h1,h2.symm⟩)
         have q03:=fun q=>((ao.step ((zS w3 B).qcp q) id).at 0 rfl)
         have r03:=fun q=>((ap.step ((zS w3 B).qcp q) id).at 0 rfl)
         have ar:=fun q=>Jfe (r.pool.step ((zS w3 B).qcp q) (fun _ h=>h.elim)) c8 r.held r.at_ r.pg r.fn am.1
         have cf:=fun q=>(zS w3 B).qcp q
         have cg:=r.good
         obtain⟨dt,ch,dv,dw,ci,dx,dy⟩:=qdr ce ar c9 cc aq cf cg
         clear ce ar c9 cc aq cf cg r a9 ao ap
         go_wp2_with fail
         go_quiet ((go_at_call 114;exact Calls.quiet_of_same (dt _)))
         go_wp2_with fail
         refine(ch _).mono ?_
         rintro e w5 ⟨rfl,s5,cj,ck,cm⟩
         have X:Step w3 B w5 B qbe:=((dx nq).nz (T:=qbe)).trans cm
         have cn:qi4 bp bf bd N H L D cur w5 B:=⟨⟨F3,s5,cj,dy,ck⟩,c8⟩
         have co:=dv.step X (fun q=>by have:=Ji7 q;simp[tRm] at this)
         have cq:=dw.step X (fun g hg q=>by have:=Ji7 q;omega)
         have av:=ci.trans (X.mono (T:=qgh) (fun _ h=>.inl h))
         obtain⟨dz,ea,eb,cr⟩:=qb9 cn co cq av
         clear cn co cq av X cj ck cm
         go_wp2_with fail
         go_round
         case rel=>exact⟨j+1,B,oM,rfl,sM,ea,dz,eb,cr⟩
         case measure=>simp[intOf];omega)
    ·have ec:j=n:=oM
     subst ec
     obtain⟨HP,ac⟩:=qaj hP G
     clear hP G
     go_wp2_with fail
     go_ret2
     exact⟨rfl,ad,HP,ac⟩
theorem Jk3 {J bm bl bp:Nat} {bo:Nat->Nat} {next:Nat}(h:qbr w τ bm bl bp bo [] next) {B:Nat}(hB:qfo B) {cs:List Value}{g:Tag}(r:Own w τ J g 149 cs) (L:cs[0]?=some (.pointer (some ⟨bm,0,none⟩))) :
 Calls Tryz.prog 63 #[.pointer (some ⟨J,0,none⟩)] w fun e M=>e = .returned (.int .u16 0)/\∃s,Step w τ M s nil:=by
 have c0:=r.at 0 L
 have d:=fun (W:World) (T:qa1) (m:Step w τ W T nil)=>Jg6 (h.nil m) hB (Z9 _)
 have i:=fun (W:World) (T:qa1) (m:Step w τ W T nil)=>(r.step m (fun q=>q)).at 0 L
 have j:=d w τ (Step.refl _ _ _)
 obtain⟨x,y,z⟩:=qan j d i
 clear j d i h r
 go_enter Tryz.func63,Tryz.ntmps63
 go_wp2_with fail
 refine x.mono ?_
 rintro e C ⟨v,ts,τ1,rfl,k,a,b⟩
 have D:ts=[]:=List.perm_nil.1 k
 subst D
 obtain⟨p,c,rfl⟩:=a.val
 have c1:=z C τ1 b
 have l:=y C τ1 b
 obtain⟨E,F⟩:=qaj l b
 clear l b a k
 go_wp2_with fail
 go_loopw [15] (fun v wr=>v = .int .i64 0/\wr=C) (fun _ _=>0)
 case atStart=>exact⟨rfl,rfl⟩
 case round =>
  obtain⟨rfl,rfl⟩:=hrel
  go_wp2_with fail
  refine E.mono ?_
  rintro e O ⟨v,ts,G,rfl,k,a,n⟩
  have D:ts=[]:=List.perm_nil.1 k
  subst D
  obtain⟨R,c2,rfl⟩:=a.val
  have o:=F.trans n
  have I:=Z2 o
  clear o a k n
  go_wp2_with fail
  go_loopw [6] (fun v wr=>v = .slice R 0 c2/\wr=O) (fun _ _=>0)
  case atStart=>exact⟨rfl,rfl⟩
  case round =>
   obtain⟨rfl,rfl⟩:=hrel
   go_wp2_with fail
   go_ret
   exact⟨rfl,G,I⟩
theorem Jj8(bl bp:Nat) {p:Option Addr}{c next:Nat}(s:next<=900) :
 Calls Tryz.prog 62 #[.pointer (some ⟨bl,0,none⟩),.pointer (some ⟨bp,0,none⟩),.slice p 0 c,.int .u32 next] w fun e C=>∃bm d,e = .returned (.pointer (some ⟨bm,0,none⟩))/\w.heap.size<=bm/\qbr C d bm bl bp (fun _=>0) [] next/\Step w τ C d nil:=by
 have h1:=Qmk w τ bl bp
 have H1:=Z2 h1
 clear h1
 go_enter Tryz.func62,Tryz.ntmps62
 go_wp2_with fail
 refine H1.mono ?_
 rintro e h ⟨bm,τ1,rfl,a,y,i⟩
 obtain⟨E,j,D⟩:=y.is
 have c3:=j.at 3 rfl
 have z3:=j.fz 3
 have k:=j.set 3 (.int .u32 next)
 have l:Step h τ1 (h.setCell ⟨bm,3,none⟩ (.int .u32 next)) τ1 (fun g=>g=qe4):=(Step.refl h τ1 (fun g=>g=qe4)).set (o:=3) j.tag rfl _
 have n:qbr (h.setCell ⟨bm,3,none⟩ (.int .u32 next)) τ1 bm bl bp (fun _=>0) [] next:=⟨⟨E,k,D.step l (by simp[qe4,qc8])⟩,fun x z=>absurd z sM,y.nodup,fun x z=>absurd z sM,s,sM⟩
 have b:=i.qa3 (o:=3) a (.int .u32 next)
 obtain⟨B,q,r⟩:=qan n b a
 clear n b a j k D y l i
 go_wp2_with fail
 go_loopw [22] (fun v wr=>v = .int .i64 0/\wr=h.setCell ⟨bm,3,none⟩ (.int .u32 next)) (fun _ _=>0)
 case atStart=>exact⟨rfl,rfl⟩
 case round =>
  obtain⟨rfl,rfl⟩:=hrel
  go_wp2_with fail
  go_ret
  exact⟨bm,τ1,rfl,r,B,q⟩
