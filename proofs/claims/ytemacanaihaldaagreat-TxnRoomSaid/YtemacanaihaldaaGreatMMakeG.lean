/-
 A log and a pool,and the document's: Make on empty devices.
-/
import Derived.Test.YtemacanaihaldaaGreatML12
import Derived.Test.YtemacanaihaldaaGreatMNewD
set_option maxRecDepth 100000
set_option maxHeartbeats 4000000
set_option linter.all false
namespace Go.Proofs.YtemacanaihaldaaGreat
open Go.RowKit
theorem Qba:tTwoW.1=70:=rfl
theorem Qxl (w:World) (S N k:Nat) (hS:8<=S) (hS2:S<=1000) (hN1:1<=N) (hN:N<=500) (hk3:3<=k) (hk64:k<=64):Calls Tryz.prog 42 #[.int .i64 (S:Int),.int .i64 (N:Int),.int .i64 (k:Int)] w fun e s=>∃(bt bf:Nat) (d:Tags) (T:TwoH) (H:PoolH) (HR:RPoolH),e = .returned (.tuple #[.pointer (some ⟨bt,0,none⟩),.int .i64 1])/\TwoW s d bt bf T H HR (walNewLog (2+2*S)) (nwD (2+2*S) N) (Ck.Clk.newS k)/\T.n=N/\T.k=k/\H.st=stampTo (nwD (2+2*S) N) (N+1)/\Step w (fun _=>tBox) s d AnyTag:=by
 obtain⟨Z,hZ⟩:∃Z,2+2*S=Z:=⟨_,rfl⟩
 rw[hZ]
 obtain⟨Y,hY⟩:∃Y,4*(N+1)=Y:=⟨_,rfl⟩
 have ai:Calls Tryz.prog 44 #[.int .i64 (Z:Int),.int .i64 (Y:Int)] w (NewD w (fun _=>tBox) Z Y):=Qmx w (fun _=>tBox) Z Y (by omega) (by omega)
 have aj:nwD0 Z N=⟨List.replicate Z zsec,List.replicate Y zsec,none,false⟩:=by unfold nwD0;rw[hY]
 obtain⟨L0,a6⟩:∃L0,walNewLog (nwD0 Z N).f0.length=L0:=⟨_,rfl⟩
 have co:walNewLog Z=L0:=by rw[<-a6,Qfo]
 have hK:Qbl (nwD0 Z N)=nwD Z N:=rfl
 have hZi:2+2*(S:Int)=(Z:Int):=by omega
 have hYi:4*((N:Int)+1)=(Y:Int):=by omega
 have hZle:Z<=2002:=by omega
 rw[co]
 obtain⟨cp,ak,HK,al,HY⟩:=hid5 ai a6 hK aj hY
 clear ai a6 hK aj hY
 go_enter Tryz.func42,Tryz.ntmps42
 go_wp2_with fail
 refine cp.out.mono ?_
 rintro e w1 ⟨bd,rfl,hlow1,τ1,am,an,ao⟩
 have G:DevAt w1 τ1 bd (nwD0 Z N):=by rw[al.out];exact ao
 have ap:Step w (fun _=>tBox) w1 τ1 AnyTag:=Step.of _ an am
 have aq:Calls Tryz.prog 108 #[.int .i64 (Z:Int),.int .i64 (Y:Int)] w1 fun e s=>∃bd d,e = .returned (.pointer (some ⟨bd,0,none⟩))/\w1.heap.size<=bd/\RDevAt s d bd (nwD0 Z N)/\Step w1 τ1 s d RDevTag:=by rw[al.out];exact r5new w1 τ1 Z Y (by omega) (by omega)
 have ar:=Z2 G
 obtain⟨cq,cr⟩:=hid2 ap aq
 clear G ap aq ao am an
 go_wp2_with fail
 refine cr.out.mono ?_
 rintro e w2 ⟨be,a7,rfl,hlow2,aw,a8⟩
 have ax:=ar.out.step a8 (fun g b=>⟨fun k=>by have:=b.fst;have:=k.fst;omega,fun k=>by have:=b.fst;rw[k,Qf6] at this;omega⟩)
 have x:=cq.out.trans (a8.mono (T:=AnyTag) (fun g b=>by have:=b.fst;show g.1≠90;omega))
 have aa:=Own.new w2 a7 tTwoW 97 [.pointer (some ⟨bd,0,none⟩),.pointer (some ⟨be,0,none⟩),.pointer none,.pointer none,.pointer none,.pointer none,.int .i64 (N:Int),.int .i64 (k:Int)]
 have B:=(Step.refl w2 a7 nil).alloc (.cells ⟨[.pointer (some ⟨bd,0,none⟩),.pointer (some ⟨be,0,none⟩),.pointer none,.pointer none,.pointer none,.pointer none,.int .i64 (N:Int),.int .i64 (k:Int)]⟩ 97) tTwoW
 have ay:=ax.step B (fun _ h=>h.elim)
 have az:=aw.step B (fun _ h=>h.elim)
 have I:=x.trans (B.mono (T:=AnyTag) (fun _ h=>h.elim))
 generalize a7.put w2.heap.size tTwoW=τ3 at *
 obtain⟨bt,C⟩:∃bt,w2.heap.size=bt:=⟨_,rfl⟩
 rw[C] at aa
 have hlow3:w.heap.size<=bt:=by rw[<-C];exact x.size
 obtain⟨ab,cs,ct,b0,cv⟩:=hid5 aa ay az I C
 clear aa ay az I C ax aw a8 x B
 go_wp2_with fail
 rw[cv.out]
 generalize w2.alloc (.cells #[.pointer (some ⟨bd,0,none⟩),.pointer (some ⟨be,0,none⟩),.pointer none,.pointer none,.pointer none,.pointer none,.int .i64 (N:Int),.int .i64 (k:Int)] 97)=w3 at *
 have y:=Qmj cs.out (by rw[Qfo];omega) (Dev.lim_mono (Qn1 Z N) (by omega))
 rw[ak.out,HK.out] at y
 have c0:=ab.out.at 0 (v:=.pointer (some ⟨bd,0,none⟩)) rfl
 have c1:=ab.out.at 1 (v:=.pointer (some ⟨be,0,none⟩)) rfl
 have b1:=Z2 y
 clear y
 go_wp2_with fail
 refine b1.out.mono ?_
 rintro e w4 ⟨bl,τ4,rfl,-,b2,b3,D⟩
 have ac:=ab.out.step D (fun k=>by have:=k.fst;rw[Qba] at this;omega)
 have b4:=ct.out.step D (fun g b=>⟨fun k=>by have:=b.fst;have:=k.fst;omega,fun k=>by have:=b.fst;rw[k,Qf6] at this;omega⟩)
 have J:=b0.out.trans (D.mono (T:=AnyTag) (fun g b=>by have:=b.fst;show g.1≠90;omega))
 have ad:=Qu6 b4 (by rw[Qfo];omega) (Dev.lim_mono (Qn1 Z N) (by omega))
 rw[ak.out,HK.out] at ad
 have d1:=ac.at 1 (v:=.pointer (some ⟨be,0,none⟩)) rfl
 obtain⟨cw,cx,cy,b5,cz⟩:=hid5 ac b2 b3 J ad
 clear ac b2 b3 J ad b4 D c0 c1
 go_wp2_with fail
 refine cz.out.mono ?_
 rintro e w5 ⟨br,E,rfl,-,b6,b7,z⟩
 have j:=cw.out.step z (fun k=>by have:=k.fst;rw[Qba] at this;omega)
 have b8:=cx.out.step z (fun g b k=>by have:=b.fst;have:=k.fst;omega)
 have b9:=cy.out.step z (fun g b=>⟨fun k=>by have:=b.fst;have:=k.fst;omega,fun k=>by have:=b.fst;rw[k,Qf6] at this;omega⟩)
 have L:=b5.out.trans (z.mono (T:=AnyTag) (fun g b=>by have:=b.fst;show g.1≠90;omega))
 have c2:=j.at 2 (v:=.pointer none) rfl
 have z2:=j.fz 2
 have c3:=j.at 3 (v:=.pointer none) rfl
 have z3:=j.fz 3
 have ba:=(j.set 2 (.pointer (some ⟨bl,0,none⟩))).set 3 (.pointer (some ⟨br,0,none⟩))
 have r:Step w5 E ((w5.setCell ⟨bt,2,none⟩ (.pointer (some ⟨bl,0,none⟩))).setCell ⟨bt,3,none⟩ (.pointer (some ⟨br,0,none⟩))) E (fun t=>t=tTwoW):=((Step.refl w5 E (fun t=>t=tTwoW)).set (o:=2) j.tag rfl _).set (o:=3) (j.set 2 (.pointer (some ⟨bl,0,none⟩))).tag rfl _
 have bb:=b8.step r (fun g b k=>by have:=b.fst;rw[k,Qba] at this;omega)
 have bc:=b6.step r (fun g b k=>by have:=b.fst;rw[k,Qba] at this;omega)
 have bg:=b9.step r (fun g b=>⟨fun k=>by have:=k.fst;rw[b,Qba] at this;omega,fun k=>by rw[b] at k;cases k⟩)
 have bh:=b7.step r (fun g b=>⟨fun k=>by have:=k.fst;rw[b,Qba] at this;omega,fun k=>by rw[b] at k;cases k⟩)
 have M:=L.trans (r.mono (T:=AnyTag) (fun g b=>by show g.1≠90;rw[b];decide))
 obtain⟨da,bi,db,bj,dc,bk⟩:=hid6 ba bb bc bg bh M
 clear ba bb bc bg bh M b8 b6 b9 b7 z L j r
 go_wp2_with fail
 generalize (w5.setCell ⟨bt,2,none⟩ (.pointer (some ⟨bl,0,none⟩))).setCell ⟨bt,3,none⟩ (.pointer (some ⟨br,0,none⟩))=w6 at *
 have bm:Calls Tryz.prog 14 #[.pointer (some ⟨bl,0,none⟩),.int .i64 (N:Int),.int .i64 (k:Int)] w6 fun e s=>∃bp bf d H,e = .returned (.tuple #[.pointer (some ⟨bp,0,none⟩),.int .u16 0])/\PoolAt s d bp bf H (List.replicate k Fr.no) (Ck.Clk.newS k)/\H.bl=bl/\H.n=N/\H.st=stampTo (nwD Z N) (N+1)/\w6.heap.size<=bp/\Step w6 E s d nil :=
  Qkv bi.out bj.out N k (by omega) (by omega) (by omega) (by omega) (by rw[Qgj];exact Z0 _) (fun i hi=>by rw[Qe8 Z N i (by omega)];exact Qj2)
 have dd:=Z2 bm
 clear bm c2 z2 c3 z3 d1
 go_wp2_with fail
 refine dd.out.mono ?_
 rintro e w7 ⟨bp,bf,df,H,rfl,bn,bo,bs,bv,-,q⟩
 have bw:=da.out.step q (fun h=>h)
 have bz:=bi.out.step q (fun _ _ h=>h)
 have ae:=db.out.step q (fun _ _ h=>h)
 have af:=bj.out.step q (fun _ h=>h.elim)
 have ag:=dc.out.step q (fun _ h=>h.elim)
 have O:=bk.out.trans (q.mono (T:=AnyTag) (fun _ h=>h.elim))
 have c6:Calls Tryz.prog 111 #[.pointer (some ⟨br,0,none⟩),.int .i64 (N:Int),.int .i64 (k:Int)] w7 fun e s=>∃bp d H,e = .returned (.tuple #[.pointer (some ⟨bp,0,none⟩),.int .i64 0])/\RPoolAt0 s d bp H k/\H.bl=br/\H.n=N/\H.st=stampTo (nwD Z N) (N+1)/\w7.heap.size<=bp/\Step w7 df s d RPoolTag :=
  Qs9 ae ag N k (by omega) (by omega) (by omega) (by omega) (by rw[Qgj];exact Z0 _) (fun i hi=>by rw[Qe8 Z N i (by omega)];exact Qj2) (fun i hi=>Qmm af i (by rw[Qgj];omega))
 obtain⟨dh,di,dj,dk,dl,c7,dm,dn,dp,dq,dr⟩:=hid11 bw bz ae af ag O bn c6 bo bs bv
 clear bw bz ae af ag O bn c6 bo bs bv q
 go_wp2_with fail
 refine dn.out.mono ?_
 rintro e w8 ⟨bq,F,HR,rfl,c9,-,-,-,-,l⟩
 have m:=dh.out.step l (fun k=>by have:=k.fst;rw[Qba] at this;omega)
 have ca:=di.out.step l (fun g b k=>by have:=b.fst;have:=k.fst;omega)
 have cb:=dj.out.step l (fun g b k=>by have:=b.fst;have:=k.fst;omega)
 have cc:=dk.out.step l (fun g b=>⟨fun k=>by have:=b.fst;have:=k.fst;omega,fun k=>by have:=b.fst;rw[k,Qf6] at this;omega⟩)
 have cd:=dl.out.step l (fun g b=>⟨fun k=>by have:=b.fst;have:=k.fst;omega,fun k=>by have:=b.fst;rw[k,Qf6] at this;omega⟩)
 have ce:=dm.out.step l (fun g b k=>by have:=b.fst;have:=k.fst;omega)
 have R:=c7.out.trans (l.mono (T:=AnyTag) (fun g b=>by have:=b.fst;show g.1≠90;omega))
 have c4:=m.at 4 (v:=.pointer none) rfl
 have z4:=m.fz 4
 have c5:=m.at 5 (v:=.pointer none) rfl
 have z5:=m.fz 5
 have cf:=(m.set 4 (.pointer (some ⟨bp,0,none⟩))).set 5 (.pointer (some ⟨bq,0,none⟩))
 have p:Step w8 F ((w8.setCell ⟨bt,4,none⟩ (.pointer (some ⟨bp,0,none⟩))).setCell ⟨bt,5,none⟩ (.pointer (some ⟨bq,0,none⟩))) F (fun t=>t=tTwoW):=((Step.refl w8 F (fun t=>t=tTwoW)).set (o:=4) m.tag rfl _).set (o:=5) (m.set 4 (.pointer (some ⟨bp,0,none⟩))).tag rfl _
 have hW:TwoW ((w8.setCell ⟨bt,4,none⟩ (.pointer (some ⟨bp,0,none⟩))).setCell ⟨bt,5,none⟩ (.pointer (some ⟨bq,0,none⟩))) F bt bf ⟨bd,be,bl,br,bp,bq,N,k⟩ H HR L0 (nwD Z N) (Ck.Clk.newS k) :=
  ⟨cf,ca.step p (fun g b k=>by have:=b.fst;rw[k,Qba] at this;omega),cb.step p (fun g b k=>by have:=b.fst;rw[k,Qba] at this;omega),
   cc.step p (fun g b=>⟨fun k=>by have:=k.fst;rw[b,Qba] at this;omega,fun k=>by rw[b] at k;cases k⟩),cd.step p (fun g b=>⟨fun k=>by have:=k.fst;rw[b,Qba] at this;omega,fun k=>by rw[b] at k;cases k⟩),
   ce.step p (fun g b k=>by have:=b.fst;rw[k,Qba] at this;omega),c9.step p (fun g b k=>by have:=b.fst;rw[k,Qba] at this;omega),dp.out,dq.out,⟨by show 0<k;omega,by show k<=64;omega⟩⟩
 have U:=R.trans (p.mono (T:=AnyTag) (fun g b=>by show g.1≠90;rw[b];decide))
 have cg:=Qz4 hW
 obtain⟨HW,ch,ds⟩:=hid3 hW U cg
 clear hW U cg m ca cb cc cd ce c9 l R cf p
 go_wp2_with fail
 generalize (w8.setCell ⟨bt,4,none⟩ (.pointer (some ⟨bp,0,none⟩))).setCell ⟨bt,5,none⟩ (.pointer (some ⟨bq,0,none⟩))=w9 at *
 refine ds.out.mono ?_
 rintro e w10 ⟨rfl,ci,X⟩
 have a1:=Z2 X
 clear X c4 z4 c5 z5
 go_wp2_with fail
 go_ret2
 exact⟨bt,bf,ci,_,H,HR,rfl,HW.out.step a1.out,rfl,rfl,dr.out,ch.out.trans (a1.out.mono (T:=AnyTag) (fun _ h=>h.elim))⟩
