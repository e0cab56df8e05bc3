/-
 A restart: WriteAll of a pool whose pages are all as on the device;Renew under it;Restart of a device that is calm.
-/
import Derived.Test.YtociicnopccppaaGreatMRdoG
import Derived.Test.YtociicnopccppaaGreatMLogE
set_option maxRecDepth 100000
set_option maxHeartbeats 8000000
set_option linter.all false
namespace Go.Proofs.YtociicnopccppaaGreat
variable {D:Dev}{L:qac}{N:Nat}{R:List qak}
open Go.RowKit Go.Maps
theorem Jky {F:List Fr}(h:∀(i:Nat) (f:Fr),F[i]?=some f->f.first=0):Qyu F=[]:=by
 unfold Qyu Qfs
 rw[List.take_length]
 rw[show F.filter (fun f=>decide (0<f.first))=[] from List.filter_eq_nil_iff.2 fun f a=>by
  obtain⟨i,hi,b⟩:=List.mem_iff_getElem.1 a
  have:=h i f (by rw[Z3 hi,b])
  simp[this]]
 rfl
theorem Jjz {w:World} {τ:qa1} {bp bf bd:Nat} {H:qaq} {cur:Nat->List Int}(h:qi4 bp bf bd N H L D cur w τ) :
 Calls Tryz.prog 14 #[.pointer (some ⟨bp,0,none⟩)] w fun e q=>e = .returned (.tuple #[])/\∃k,Step w τ q k nil:=by
 obtain⟨F,s,h1,h2,r⟩:=h.is
 have hk:=h1.pool.k1
 have b:=Jaz h1.pool (Jdy F.length oM)
 have d:=Jky h2.clean
 obtain⟨g,n⟩:=qaj b d
 clear b d h h1 h2 r
 go_enter Tryz.func14,Tryz.ntmps14
 go_wp2_with fail
 refine g.mono ?_
 rintro e x ⟨v,τ1,l,rfl,a,-,i,j⟩
 rw[n.out] at a
 have hl:=List.perm_nil.1 a
 subst hl
 obtain⟨p,c,rfl⟩:=i.val
 have o:=Z2 j
 clear j i a
 go_wp2_with fail
 go_loopw [7] (fun v wr=>v = .int .i64 0/\wr=x) (fun _ _=>0)
 case atStart=>exact⟨rfl,rfl⟩
 case round =>
  obtain⟨rfl,rfl⟩:=hrel
  go_wp2_with fail
  go_end0
  exact⟨rfl,τ1,o⟩
theorem Jkw {E:Dev}(h:E.file 1=D.file 1) (j:Nat):E.last 1 j=D.last 1 j:=by
 unfold Dev.last
 rw[h]
theorem qi4.qjq {bp bf bd bl:Nat} {H:qaq} {d:qac} {b:Dev} {cur:Nat->List Int} {w c:World} {τ a:qa1}(h:qi4 bp bf bd N H L D cur w τ) (l:H.bl=bl) (hl:qaw c a bl bd d) (hd:qax c a bd b) (j:b.file 1=D.file 1) (m:Step w τ c a qbc):qi4 bp bf bd N H d b cur c a:=by
 obtain⟨F,s,h1,h2,o⟩:=h.is
 have k:∀E:Dev,E.file 1=E.f1:=fun _=>rfl
 refine⟨⟨F,s,⟨h1.pool.step m (fun g p q=>(Jco q).1 p),by rw[l];exact hl,hd⟩,⟨by rw[<-k,j,k];exact h2.f1,fun n hn=>?_,h2.frame,h2.none,h2.clean⟩,o⟩,h.n⟩
 have e:qap b n 4=qap D n 4:=Qm0 fun i hi=>Jkw j _
 rw[e]
 exact h2.home n hn
theorem Jju {k:Nat} {x:Nat×qak}(h:x∈Ji0 R k):∃j,R[j]?=some x.2/\x.1=qhy R j:=by
 obtain⟨i,hi⟩:=List.mem_iff_getElem?.1 h
 rw[Jje] at hi
 obtain⟨r,a,rfl⟩:=Option.map_eq_some_iff.1 hi
 exact⟨k+i,a,rfl⟩
theorem qca.ents {cur:Nat->List Int}(h:qca N cur L R) (hl:(qae R).length<=1000000) (k:Nat) {x:Nat×qak}(w:x∈Ji0 R k):qj2 x/\((x.2.change.had=true\/x.2.change.has=true)->x.2.change.page<N/\x.1<=qaa (cur x.2.change.page))/\∀p∈x.2.pages,p.1<N:=by
 obtain⟨j,i,e⟩:=Jju w
 have o:=List.mem_of_getElem? i
 have c:x.1<18446744073709551616:=by
  have:=(qdm.low (R:=R) (r:=x.2) (a:=x.1) ⟨j,i,e⟩).2
  omega
 have l:=h.seen j x.2 i
 rw[show 1+(qae (R.take j)).length=x.1 from e.symm] at l
 by_cases k8:x.2.kind=8
 ·have d:=h.ok8 x.2 o k8
  have h0:=d.eq
  have h1:x.2.txn=0/\x.2.change=noChange:=by rw[h0];exact⟨rfl,rfl⟩
  exact⟨⟨c,oM,by rw[h1.1];omega,by rw[h1.2];decide,d.ok.nt,d.ok.np,fun a b=>(d.ok.tx a b).1,fun a b=>d.ok.px a b⟩,l,d.px⟩
 ·have g:=h.ok x.2 o k8
  obtain⟨q,n,-⟩:=Qh3 g.may k8
  exact⟨⟨c,g.kind,g.txn,g.page,by rw[q];simp,by rw[n];simp,fun a b=>(by rw[q] at b;cases b),fun a b=>(by rw[n] at b;cases b)⟩,l,fun p s=>(by rw[n] at s;cases s)⟩
theorem qca.tabs {cur:Nat->List Int}(h:qca N cur L R) (hl:(qae R).length<=1000000) (c:∀k,¬alive qgg R k) (k:Nat):(∀j,(((Ji0 R k).foldl qb4.take qb4.zero).f j).isSome=true->j∈([]:List Nat))/\∀j,(((Ji0 R k).foldl qb4.take qb4.zero).pg j).isSome=true->j∈List.range N:=by
 have:=qdt.takes (N:=N) (Ji0 R k) (A:=qgg) (S:=qb4.zero) ⟨fun j a=>(by cases a),fun j a=>(by cases a)⟩ (fun x b=>⟨fun q=>((h.ents hl k b).2.1 q).1,(h.ents hl k b).2.2⟩)
 rw[Jka] at this
 exact⟨fun j a=>(c j (Jk1 R k j (this.f j a))).elim,fun j a=>List.mem_range.2 (this.pg j a)⟩
structure qi5 (N:Nat) (cur:Nat->List Int) (D:Dev) (L:qac) (R:List qak):Prop where
 on:qdf L D
 is:qca N cur L R
 last:L.lasts=L.stream.length
 ok:L.ok
 rise:L.qfh
 cap:L.stream.length<=127*L.strips
 small:L.strips<=200
 f0:18<=D.f0.length
 calm:D.Calm
 f1:D.f1.length=4*(N+1)
 sz:1<=N/\N<=6
 home:∀n,n<N->(qap D n 4=blank/\cur n=qaf n)\/∃s,s<2 ^ 64/\qap D n 4=qao (cur n) s/\Sound (cur n)/\0<qaa (cur n)
 whole:∀n,n<N->Qb3 (qap D n 4)=true
 dead:∀k,¬alive qgg R k
 txn:∀r∈R,r.txn<900
theorem rt_pw {g:Tag}(h:qbk g):¬qbe g/\g≠qa2:=by
 have h1:340<=g.1:=by
  rcases h with h|h
  ·unfold qeq at h;omega
  ·subst h;simp[tCp]
 exact⟨fun q=>by have:=Ji7 q;omega,fun q=>by subst q;simp[qa2] at h1⟩
def tAg:Tag:=(342,3)
def tRq:Tag:=(342,4)
def qek (g:Tag):Prop:=qf2 g\/qgh g\/qbk g
def ResD (w:World) (τ:qa1) (bd N:Nat) (cur:Nat->List Int) (e:Ending) (w':World):Prop :=
 ∃bm bl bp bf τ' H L D next pw nw cw,e = .returned (.tuple #[.pointer (some ⟨bm,0,none⟩),.agg #[.slice pw nw cw,.slice none 0 0,.int .i64 0,.int .i64 0],.int .u16 0])/\qi4 bp bf bd N H L D cur w' τ'/\qbr w' τ' bm bl bp (fun _=>0) [] next/\Step w τ w' τ' qek
theorem Jj7 {w:World} {τ:qa1} {bd k:Nat} {cur:Nat->List Int}(hc:qi5 N cur D L R) (hd:qax w τ bd D) {B:Nat}(hB:qfo B) (hB6:6<=B) (gi:B<=1000) (h3:3<=k) (gj:k<=64) :
 Calls Tryz.prog 19 #[.pointer (some ⟨bd,0,none⟩),.int .i64 N,.int .i64 k] w (ResD w τ bd N cur):=by
 have dp:(qae R).length<=1000000:=by rw[<-hc.is.stream];exact hc.ok.stream
 have hRn:R.length<=5000:=by
  have h1:=Qfk R
  have h2:=hc.cap
  rw[hc.is.stream] at h2
  have:=hc.small
  omega
 have ji:=hc.sz.1
 have hN6:=hc.sz.2
 have ai:=(zS w τ).alloc (.cells #[.slice none 0 0,.slice none 0 0,.int .i64 0,.int .i64 0] 52) tRp
 have d6:=Own.born w τ tRp 52 #[.slice none 0 0,.slice none 0 0,.int .i64 0,.int .i64 0]
 generalize τ.put w.heap.size tRp=τ0 at *
 obtain⟨b7,gk⟩:=gN w.heap.size
 obtain⟨w0,jj⟩:=gN (w.alloc (.cells #[.slice none 0 0,.slice none 0 0,.int .i64 0,.int .i64 0] 52))
 rw[jj] at ai d6
 rw[gk] at d6
 have gl:=hd.step ai zE
 have gm:=Jli gl hc.on hc.is hc.last hc.ok hc.cap hc.f0 (hc.calm.lim _)
 have dq:=ai.nz (T:=qek)
 obtain⟨jk,jl,gn,X⟩:=qb9 gm d6 dq hc
 clear gm d6 dq hc ai hd gl
 go_enter Tryz.func19,Tryz.ntmps19
 go_wp2_with fail
 refine jk.mono ?_
 rintro e w1 ⟨bl,τ1,rfl,-,ft,gp,fv⟩
 have gq:=jl.step fv (by simp[qf2,qai,qa4,qah,tRp,qb1,qa5,qa6])
 have dr:=gn.trans (fv.mono (T:=qek) (fun _ h=>.inl h))
 have ds:=Jc9 (S:=nil) (Di:=fun _=>D) (m:=4*(N+1)) ft gp N k ji oM h3 gj (fun _=>X.f1) (Z0 _) (fun _ _ h=>h) (fun _ _ h=>h) (fun i hi W T bp H hp hn jm gr=>by
  refine(Qxk hp jm gr i (by rw[X.f1];omega) (X.whole i hi)).mono ?_
  rintro e w' ⟨rfl,jn,gs⟩
  exact⟨rfl,jn,gr.step gs zE,gs⟩)
 obtain⟨jo,jp,gt,gv⟩:=qb9 ft gq dr ds
 clear ft gq dr ds fv gp
 go_wp2_with fail
 refine gv.mono ?_
 rintro e w2 ⟨bp,bf,jq,H,rfl,gw,ax,gx,-,-,ay,d7⟩
 have a9:=jo.step d7 zN
 have az:=jp.step d7 id
 have a0:=gt.trans d7.nz
 have b0:qi4 bp bf bd N H L D cur w2 jq:=⟨⟨_,_,⟨gw,by rw[ax];exact a9,ay⟩,qez.fresh X.f1 X.home,qi9 k h3 gj⟩,gx⟩
 have fw:=Jjc a9 X.rise X.is oM (lsn:=0) oM (k:=0) oM (.inr rfl) (fun j f h=>(h.before (by rw[X.is.base];omega)).1)
 rw[show ((0:Nat):Int)=0 from rfl] at fw
 obtain⟨d8,d9,aj,da,gy,dt⟩:=qcq a9 az a0 b0 fw ax
 clear a9 az a0 b0 fw ax d7 gw ay gx
 go_wp2_with fail
 refine gy.mono ?_
 rintro e w3 ⟨va,τ3,rfl,b1,b2⟩
 have gz:=d8.step b2 zN
 have h0:=d9.step b2 id
 have h4:=da.step b2 zE
 have dv:=aj.trans b2.nz
 have db:=fun j=>X.is.tabs dp X.dead j
 have aa:=fun j x hx=>X.is.ents dp j (x:=x) hx
 have hel:=Jjd R 0
 have fx:=Jjf b1 (fun x hx=>(aa 0 x hx).1) oM hB (db 0).1 sM (db 0).2 (by rw[List.length_range];omega) gi
 obtain⟨pE,cE,rfl,-,-⟩:=id b1.is
 obtain⟨nE,dc⟩:=gN ((Ji0 R 0).length)
 rw[dc] at b1 fx
 rw[dc]
 obtain⟨h6,h7,h8,dw,h9,ha,jr,ab⟩:=qen gz h0 h4 dv fx b1 db aa
 clear gz h0 h4 dv fx b1 db aa b2 d8 d9 aj da gy
 go_wp2_with fail
 refine h9.mono ?_
 rintro e w4 ⟨v1,v2,v3,fy,ts1,ps1,rfl,dd,ao⟩
 obtain⟨p1,c1,rfl⟩:=dd.a.val
 obtain⟨p2,c2,rfl⟩:=dd.d.val
 obtain⟨p3,c3,rfl⟩:=dd.r.val
 obtain⟨nw,js⟩:=gN (((Ji0 R 0).foldl qb4.take qb4.zero).won.length)
 rw[js]
 have J:=(zS w4 fy).alloc (.cells #[.slice p3 nw c3,.slice none 0 0,.int .i64 0,.int .i64 0] 52) tRq
 have y:=Own.born w4 fy tRq 52 #[.slice p3 nw c3,.slice none 0 0,.int .i64 0,.int .i64 0]
 have hf:=h6.step ao (fun g hg q=>by rcases hg with rfl|rfl|rfl <;> rcases q with q|q <;> simp[qeq,tCp,qb1,qa5,qa6] at q)
 have hh:=h7.step ao (fun q=>by rcases q with q|q <;> simp[qeq,tCp,tRp] at q)
 have hm:=h8.step ao (fun g h=>rt_pw h)
 have hq:=ha.step ao (fun g hg=>Jkf hg)
 have dx:=dw.trans (ao.mono (T:=qek) (fun _ h=>.inr (.inr h)))
 generalize fy.put w4.heap.size tRq=τ5 at *
 obtain⟨jt,b4⟩:=gN w4.heap.size
 obtain⟨w5,g0⟩:=gN (w4.alloc (.cells #[.slice p3 nw c3,.slice none 0 0,.int .i64 0,.int .i64 0] 52))
 rw[g0] at J y
 rw[b4] at y
 have g1:=hf.step J zN
 have hr:=hh.step J id
 have hs:=hm.step J zE
 have ht:=hq.step J zN
 have dy:=dx.trans J.nz
 have hv:=Jlb g1 X.rise X.is oM
 obtain⟨hw,hy,hz,i0,dz,i1,ea,jv,i2⟩:=qgw g1 hr hs ht dy hv y g0 b4
 clear g1 hr hs ht dy hv y g0 b4 ao J hf hh hm hq dx dd h6 h7 h8 ha dw h9
 go_wp2_with fail
 rw[jv.out,i2.out]
 go_wp2_with fail
 refine i1.mono ?_
 rintro e w6 ⟨vs,τ6,ks,rfl,b5,ac⟩
 have i3:=hw.step ac (by rintro g (rfl|rfl|rfl) <;> simp[qa4,qb1,qa5,qa6])
 have i4:=hy.step ac (by simp[qa4,tRp])
 have b6:=ea.step ac (by simp[qa4,tRq])
 have i5:=hz.step ac (fun g h=>⟨(qhr h).1,(qhr h).2.2⟩)
 have i6:=i0.step ac (fun g hg q=>by unfold qa4 at q;omega)
 have ec:=dz.trans (ac.mono (T:=qek) (fun _ h=>.inl (.inr (.inl h))))
 have hlk:=Jjd R ks
 have b8:=jr ks
 have b9:=Jjf b5 (fun x hx=>(ab ks x hx).1) oM hB b8.1 sM b8.2 (by rw[List.length_range];omega) gi
 obtain⟨pS,cS,rfl,-,-⟩:=id b5.is
 obtain⟨nS,i7⟩:=gN ((Ji0 R ks).length)
 rw[i7] at b9
 rw[i7]
 obtain⟨i8,i9,ba,ia,ib,ed,ee⟩:=qdr i3 i4 b6 i5 i6 ec b9
 clear i3 i4 b6 i5 i6 ec b9 ac b5 hw hy hz i0 dz ea i1
 go_wp2_with fail
 refine ee.mono ?_
 rintro e w7 ⟨v1,v2,v3,ic,jw,de,rfl,Y,ad⟩
 have ie:jw=[]:=List.eq_nil_iff_forall_not_mem.2 fun k hk=>by
  have:=b8.1 k ((Y.ti k).1 hk)
  cases this
 subst ie
 obtain⟨p4,c4,rfl⟩:=Y.a.val
 obtain⟨p5,c5,rfl⟩:=Y.d.val
 obtain⟨p6,c6,rfl⟩:=Y.r.val
 obtain⟨ii,ij⟩:=gN (((Ji0 R ks).foldl qb4.take qb4.zero).won.length)
 rw[ij]
 obtain⟨nd,df⟩:=gN ((de.map (fun k=>(k,(((Ji0 R ks).foldl qb4.take qb4.zero).pg k).getD 0))).length)
 have g2:=Y.d
 rw[df] at g2
 rw[df]
 have hnd6:nd<=6:=by
  rw[<-df,Y0]
  have:=Qph de (List.range N) Y.pn (fun k hk=>b8.2 k ((Y.pi k).1 hk))
  rw[List.length_range] at this
  omega
 have ik:∀x∈de.map (fun k=>(k,(((Ji0 R ks).foldl qb4.take qb4.zero).pg k).getD 0)),x.1<4294967296:=fun x hx=>by
  obtain⟨k,hk,rfl⟩:=List.mem_map.1 hx
  have:=List.mem_range.1 (b8.2 k ((Y.pi k).1 hk))
  show k<_
  omega
 have I:=(zS w7 ic).alloc' (.cells #[.slice p6 ii c6,.slice none 0 0,.int .i64 0,.int .i64 0] 52)
 have g3:=(i8.step ad (fun g hg q=>by rcases hg with rfl|rfl|rfl <;> rcases q with q|q <;> simp[qeq,tCp,qb1,qa5,qa6] at q)).step I zN
 have g4:=(i9.step ad (fun q=>by rcases q with q|q <;> simp[qeq,tCp,tRp] at q)).step I id
 have ae:=(ba.step ad (fun q=>by rcases q with q|q <;> simp[qeq,tCp,tRq] at q)).step I id
 have g5:=(ia.step ad (fun g h=>rt_pw h)).step I zE
 have g6:=(ib.step ad (fun g hg=>Jkf hg)).step I zN
 have g7:=g2.step I id
 have bb:=(ed.trans (ad.mono (T:=qek) (fun _ h=>.inr (.inr h)))).trans I.nz
 obtain⟨w8,g8⟩:=gN (w7.alloc (.cells #[.slice p6 ii c6,.slice none 0 0,.int .i64 0,.int .i64 0] 52))
 rw[g8] at g3 g4 ae g5 g6 g7 bb
 obtain⟨il,im,bc,io,ip,iq,ef,jx,jy⟩:=qgw g3 g4 ae g5 g6 g7 bb ik g8
 clear g3 g4 ae g5 g6 g7 bb ik g8 ad I g2 Y i8 i9 ba ia ib ed ee
 go_wp2_with fail
 rw[jy.out]
 go_wp2_with fail
 go_loopw [19,62] (fun u v wr=>∃(top j:Nat) (C:qa1),j<=nE/\top<=899/\u = .int .u32 top/\v = .int .i64 j/\qaw wr C bl bd L/\Own wr C b7 tRp 52 [.slice none 0 0,.slice none 0 0,.int .i64 0,.int .i64 0]/\Own wr C jt tRq 52 [.slice p3 nw c3,.slice none 0 0,.int .i64 0,.int .i64 0]/\qi4 bp bf bd N H L D cur wr C/\qdw wr C (.slice pE nE cE) (Ji0 R 0)/\NS 84 2 Qgn 0 wr C qch (.slice p5 nd c5) (de.map (fun k=>(k,(((Ji0 R ks).foldl qb4.take qb4.zero).pg k).getD 0)))/\Step w τ wr C qek) (fun _ v _=>nE-(intOf v).toNat)
 case atStart=>exact⟨0,0,ic,Z9 _,oM,rfl,rfl,il,im,bc,io,ip,iq,ef⟩
 case round =>
  clear il im bc io ip iq ef
  obtain⟨top,j,C,hj,htop,rfl,rfl,hl,ho,y,hP,he,hd,bh⟩:=hrel
  by_cases jz:j<nE
  ·obtain⟨x,g9⟩:∃x,(Ji0 R 0)[j]?=some x:=⟨_,Z3 (by rw[dc];exact jz)⟩
   obtain⟨p',c',it,-,eg⟩:=he.is
   rw[dc] at it
   cases it
   obtain⟨be,cs,rfl,k0,k1,⟨vb,va,vt,vp,rfl,bi⟩,z⟩:=eg j x g9
   have k2:x.2.txn<900:=by
    obtain⟨i,hi,-⟩:=Jju (List.mem_of_getElem? g9)
    exact X.txn x.2 (List.mem_of_getElem? hi)
   have hltI:(j:Int)<nE:=oM
   obtain⟨pb,nb,cb,rfl⟩:=bi.b
   obtain⟨pa,na,ca,rfl⟩:=bi.a
   obtain⟨pt,ct,k3⟩:=bi.t.val
   obtain⟨pp,cp,k4⟩:=bi.p.val
   subst k3 k4
   have e0:=z 0 _ rfl
   have e1:=z 1 _ rfl
   have e2:=z 2 _ rfl
   have e3:=z 3 _ rfl
   have e4:=z 4 _ rfl
   have e5:=z 5 _ rfl
   have e6:=z 6 _ rfl
   have e7:=z 7 _ rfl
   have e8:=z 8 _ rfl
   have e9:=z 9 _ rfl
   have e10:=z 10 _ rfl
   have e11:=z 11 _ rfl
   have e12:=z 12 _ rfl
   rw[Nat.add_zero] at e0
   have n:=(zS wr C).alloc' (.cells #[.int .u64 x.1,.int .u8 x.2.kind,.int .u32 x.2.txn,.int .u64 x.2.prev,.int .u64 x.2.next,.int .u32 x.2.change.page,.int .u16 x.2.change.slot,.bool x.2.change.had,.bool x.2.change.has,.slice pb nb cb,.slice pa na ca,.slice pt x.2.qbm.length ct,.slice pp x.2.pages.length cp] 75)
   have hmx:max (top:Int) (x.2.txn:Int)=((max top x.2.txn:Nat):Int):=oM
   have bj:max top x.2.txn<=899:=oM
   have a9:=hl.step n zN
   have az:=ho.step n id
   have bk:=y.step n id
   have b0:=hP.step n zE
   have iv:=he.step n zN
   have ay:=hd.step n id
   have a0:=bh.trans n.nz
   obtain⟨d8,d9,ga,da,k5,k6,aj,gb⟩:=qen a9 az bk b0 iv ay a0 bj
   clear a9 az bk b0 iv ay a0 bj hl ho y hP he hd bh eg bi z n g9 k0 k1 k2
   go_wp2_with fail
   go_round
   case rel=>exact⟨_,j+1,C,oM,gb,rfl,sM,d8,d9,ga,da,k5,k6,aj⟩
   case measure=>simp[intOf];omega
  ·obtain⟨w9,k7⟩:∃W,W=wr:=⟨_,rfl⟩
   subst k7
   have hx0:=y.at 0 rfl
   have n:=(zS w9 C).alloc (.cells #[.pointer none,.slice p3 nw c3,.slice none 0 0,.int .i64 0,.int .i64 0] 149) tAg
   have dh:=Own.born w9 C tAg 149 #[.pointer none,.slice p3 nw c3,.slice none 0 0,.int .i64 0,.int .i64 0]
   generalize C.put w9.heap.size tAg=τ10 at *
   obtain⟨bg,gd⟩:=gN w9.heap.size
   obtain⟨w10,bm⟩:=gN (w9.alloc (.cells #[.pointer none,.slice p3 nw c3,.slice none 0 0,.int .i64 0,.int .i64 0] 149))
   rw[bm] at n dh
   rw[gd] at dh
   have eh:=ho.step n id
   have ei:=hP.step n zE
   have ej:=he.step n zN
   have ek:=hd.step n id
   have bn:=bh.trans n.nz
   obtain⟨next,hnext⟩:=gN (top+1)
   have hnx:IntKind.u32.wrap ((top:Int)+1)=(next:Int):=by
    have:IntKind.u32.wrap ((top:Int)+1)=((top:Int)+1)%4294967296:=by simp[IntKind.wrap,IntKind.bits,IntKind.signed]
    rw[this];omega
   have ix:=Jlg ei ej (fun x hx=>(ab 0 x hx).1) oM ek df oM jx (fun x hx=>(ab 0 x hx).2.1)
   have em:=bh
   obtain⟨iy,k8,ge,iz,j0,j1,j2⟩:=qdr eh dh bn ix gd bm em
   clear eh dh bn ix gd bm em hl ho y hP he hd bh n ei ej ek
   go_wp2_with fail
   rw[j1.out,j0.out]
   go_wp2_with fail
   refine iz.mono ?_
   rintro e di ⟨rfl,ak,en,al⟩
   have j3:∀g:Tag,341<=g.1->g≠tRm->¬qgh g:=fun g h1 h2=>qj9 oM h2
   have M:=k8.step al (j3 _ (by simp[tAg]) (by simp[tAg,tRm]))
   have eo:=iy.step al (j3 _ (by simp[tRp]) (by simp[tRp,tRm]))
   have bo:=ge.trans (al.mono (T:=qek) (fun _ h=>.inr (.inl h)))
   have x3:=M.at 3 rfl
   have z3:=M.fz 3
   have af:=M.set 3 (.int .i64 0)
   have bq:Step di ak (di.setCell ⟨bg,3,none⟩ (.int .i64 0)) ak (fun g=>g=tAg):=(Step.refl di ak (fun g=>g=tAg)).set (o:=3) M.tag rfl _
   have br:w.heap.size<=bg:=by
    rw[<-j0.out]
    exact j2.size
   have ag:=bo.qa3 (o:=3) br (.int .i64 0)
   have bs:=en.step bq (fun g h=>by subst h;exact⟨fun q=>by have:=Ji7 q;simp[tAg] at this,by simp[tAg,qa2]⟩)
   have bv:=eo.step bq (by simp[tRp,tAg])
   obtain⟨k9,ep⟩:=gN (di.setCell ⟨bg,3,none⟩ (.int .i64 0))
   rw[ep] at af ag bs bv
   have j4:=Jj8 (w:=k9) (τ:=ak) bl bp (p:=p4) (c:=c4) (next:=next) oM
   obtain⟨bw,bz,er,et,j5,j6⟩:=qcq af ag bs bv j4 br
   clear af ag bs bv j4 br al M eo bo bq en iz
   go_wp2_with fail
   refine j5.mono ?_
   rintro e dj ⟨dk,c7,rfl,-,ev,a1⟩
   have O:=bw.step a1 id
   have ew:=et.step a1 id
   have ey:=er.step a1 zE
   have c8:=bz.trans a1.nz
   have x0:=O.at 0 rfl
   have z0:=O.fz 0
   have Z:=O.set 0 (.pointer (some ⟨dk,0,none⟩))
   have am:Step dj c7 (dj.setCell ⟨bg,0,none⟩ (.pointer (some ⟨dk,0,none⟩))) c7 (fun g=>g=tAg):=(Step.refl dj c7 (fun g=>g=tAg)).set (o:=0) O.tag rfl _
   have ah:=c8.qa3 (o:=0) j6 (.pointer (some ⟨dk,0,none⟩))
   have c9:=ey.step am (fun g h=>by subst h;exact⟨fun q=>by have:=Ji7 q;simp[tAg] at this,by simp[tAg,qa2]⟩)
   have cc:=ew.step am (by simp[tRp,tAg])
   have cd:=ev.step am (fun g hg h=>by subst h;simp[Qai,tAg] at hg)
   obtain⟨w14,ez⟩:=gN (dj.setCell ⟨bg,0,none⟩ (.pointer (some ⟨dk,0,none⟩)))
   rw[ez] at Z ah c9 cc cd
   have j7:=Jk3 cd hB Z rfl
   obtain⟨ce,cf,f4,f5,j8⟩:=qbq Z ah c9 cc j7
   clear Z ah c9 cc j7 a1 O ew c8 ey am ev cd j5 bw bz er et ep
   go_wp2_with fail
   refine j8.mono ?_
   rintro e w15 ⟨rfl,τ15,a2⟩
   have cg:=ce.step a2 id
   have ch:=f5.step a2 id
   have ci:=f4.step a2 zE
   have cj:=cf.trans a2.nz
   have j9:=Jjz ci
   have ck:=Z2 cg
   have cm:=Z2 ch
   obtain⟨f6,cn,ja⟩:=qan ci cj j9
   clear cg ch ci cj j9 a2 ce f5 f4 cf j8 ez
   go_wp2_with fail
   refine ja.mono ?_
   rintro e ka ⟨rfl,jb,a3⟩
   have co:=ck.step a3 id
   have f7:=cm.step a3 id
   have cq:=f6.step a3 zE
   have cr:=cn.trans a3.nz
   obtain⟨F,s,gf,-,-⟩:=id cq.is
   have f8:qaw ka jb bl bd L:=dt.out▸gf.log
   have jc:=Jlf f8 gf.dev X.rise X.last X.cap (by have:=X.on.len;have:=X.f0;omega) (by rw[X.is.base];omega) (X.calm.lim _)
   obtain⟨cv,f9,fa,cw,jd⟩:=qbq co f7 cq cr jc
   clear co f7 cq cr jc a3 gf f8 ck cm f6 cn ja
   go_wp2_with fail
   refine jd.mono ?_
   rintro e av ⟨rfl,fb,kb,fc,fe,ff,a4⟩
   have fg:=fa.qjq dt fc fe ff a4
   have gg:∀g:Tag,341<=g.1->¬qbc g:=fun g h q=>by have:=Ji7 (.inr q);omega
   have cx:=cv.step a4 (gg _ (by simp[tAg]))
   have fh:=f9.step a4 (gg _ (by simp[tRp]))
   have cy:=cw.trans (a4.mono (T:=qek) (fun _ h=>.inr (.inl (.inl (.inr h)))))
   have dl:=(zS av fb).drew
   have E:=cx.step dl id
   have fi:=fh.step dl id
   have fj:=fg.step dl zE
   have cz:=cy.drew
   have s1:=E.at 1 rfl
   have s2:=E.at 2 rfl
   have s3:=E.at 3 rfl
   have s4:=E.at 4 rfl
   have kc:av.drew.cell? ⟨bg,1,none⟩=some (.slice p3 nw c3)/\av.drew.cell? ⟨bg,2,none⟩=some (.slice none 0 0)/\av.drew.cell? ⟨bg,3,none⟩=some (.int .i64 0)/\av.drew.cell? ⟨bg,4,none⟩=some (.int .i64 0):=⟨s1,s2,s3,s4⟩
   have fk:=Jj8 (w:=av.drew) (τ:=fb) bl bp (p:=none) (c:=0) (next:=next) oM
   obtain⟨d0,fm,fn,d1,fo⟩:=qbq E fi fj cz fk
   clear E fi fj cz fk a4 fc fe ff fg gg cx fh cy dl cv f9 fa cw jd
   go_wp2_with fail
   refine Qaf (S:=fun W:World=>W.cell? ⟨bg,1,none⟩=some (.slice p3 nw c3)/\W.cell? ⟨bg,2,none⟩=some (.slice none 0 0)/\W.cell? ⟨bg,3,none⟩=some (.int .i64 0)/\W.cell? ⟨bg,4,none⟩=some (.int .i64 0)) kR ?_
   refine tk0 [0,1,2,4,5,6,7] ?_
   iterate 7
    refine tkv (v:=?_) ?_ ?_
    rotate_left
    ·intro w kd;(try dsimp only at kd);go_simp
     all_goals with_reducible rfl
    try simp only[Act.put,lz1,lz2,lz3]
   refine tk9 ?_
   try simp only[lz4,lz5,lz6,lz1,lz2,lz3]
   clear s1 s2 s3 s4
   refine Qst (i:=3) dK rfl (fun K hK=>?_)
   go_simp
   go_at_call 62
   refine fo.mono ?_
   rintro e dm ⟨ke,a5,rfl,-,fp,a6⟩
   have G:=d0.step a6 id
   have l:=fm.step a6 id
   have fq:=fn.step a6 zE
   have d3:=d1.trans a6.nz
   have t1:=G.at 1 rfl
   have t2:=G.at 2 rfl
   have t3:=G.at 3 rfl
   have t4:=G.at 4 rfl
   refine hK.out _ _ (fun _=>⟨t1,t2,t3,t4⟩) ?_
   clear hK K kc
   try simp only[lz4,lz5,lz6,lz1,lz2,lz3]
   have y0:=l.at 0 rfl
   have z0:=l.fz 0
   have y1:=l.at 1 rfl
   have z1:=l.fz 1
   have y2:=l.at 2 rfl
   have z2:=l.fz 2
   have y3:=l.at 3 rfl
   have z3:=l.fz 3
   have a7:=((((l.set 0 (.slice p3 nw c3)).set 1 (.slice none 0 0)).set 2 (.int .i64 0)).set 3 (.int .i64 0))
   have f0:=a7.at 0 rfl
   have f1:=a7.at 1 rfl
   have f2:=a7.at 2 rfl
   have f3:=a7.at 3 rfl
   have an:Step dm a5 ((((dm.setCell ⟨b7,0,none⟩ (.slice p3 nw c3)).setCell ⟨b7,1,none⟩ (.slice none 0 0)).setCell ⟨b7,2,none⟩ (.int .i64 0)).setCell ⟨b7,3,none⟩ (.int .i64 0)) a5 (fun g=>g=tRp):=((((Step.refl dm a5 (fun g=>g=tRp)).set (o:=0) l.tag rfl _).set (o:=1) l.tag rfl _).set (o:=2) l.tag rfl _).set (o:=3) l.tag rfl _
   have dn:w.heap.size<=b7:=Nat.le_of_eq gk
   have d4:Step w τ ((((dm.setCell ⟨b7,0,none⟩ (.slice p3 nw c3)).setCell ⟨b7,1,none⟩ (.slice none 0 0)).setCell ⟨b7,2,none⟩ (.int .i64 0)).setCell ⟨b7,3,none⟩ (.int .i64 0)) a5 qek:=(((d3.qa3 (o:=0) dn _).qa3 (o:=1) dn _).qa3 (o:=2) dn _).qa3 (o:=3) dn _
   have fr:=fq.step an (fun g h=>by subst h;exact⟨fun q=>by have:=Ji7 q;simp[tRp] at this,by simp[tRp,qa2]⟩)
   have U:=G.step an (by simp[tAg,tRp])
   have u1:=U.at 1 rfl
   have u2:=U.at 2 rfl
   have u3:=U.at 3 rfl
   have u4:=U.at 4 rfl
   have fs:=fp.step an (fun g hg h=>by subst h;simp[Qai,tRp] at hg)
   obtain⟨je,jf,gh⟩:=qan fr fs d4
   clear fr fs d4 U a6 G l fq d3 fp an a7 d0 fm fn d1 fo
   refine Qst (i:=8) dK rfl (fun K hK=>?_)
   go_simp
   refine hK.out _ _ (fun _=>⟨t1,t2,t3,t4⟩) ?_
   clear hK K
   try simp only[lz4,lz5,lz6,lz1,lz2,lz3]
   refine Qst (i:=9) dK rfl (fun K hK=>?_)
   go_simp
   refine hK.out _ _ (fun _=>⟨u1,u2,u3,u4⟩) ?_
   clear hK K
   try simp only[lz4,lz5,lz6,lz1,lz2,lz3]
   refine Qst (i:=10) dK rfl (fun K hK=>?_)
   go_simp
   refine hK.out _ _ (fun h=>absurd h dK) ?_
   clear hK K
   refine Qad kR ?_ _
   go_wp2_with fail
   refine bodyPost_ret (by simp[results,Tryz.results19,go_sem,f0,f1,f2,f3];try rfl) rfl ?_
   exact⟨ke,bl,bp,bf,a5,H,_,kb,next,p3,nw,c3,rfl,je,jf,gh⟩
