/-
 Transactions,the laws' beginnings: New,Begin over the world of records and slots,shelf,Make.
-/
import Derived.Test.YtemacanaihaldaaGreatMSlA
import Derived.Test.YtemacanaihaldaaGreatMMakeG
set_option maxRecDepth 100000
set_option maxHeartbeats 4000000
set_option linter.all false
namespace Go.Proofs.YtemacanaihaldaaGreat
open Go.RowKit Go.Maps
theorem Qm4 (n t:Nat) (hn:n<4294967296):pData (emptyPage n) t=[] :=
 Qe7 (Qb7 (by rw[Qea n hn];exact Z9 _))
theorem TyTag.fst {g:Tag}(h:TyTag g):(2<=g.1/\g.1<=33)\/(198<=g.1/\g.1<=209)\/(300<=g.1/\g.1<=303):=by
 rcases h with (h|h|h)|h
 ·rcases h with h|h
  ·have:=h.fst;omega
  ·have:=h.fst;omega
 ·unfold Qai at h;omega
 ·rw[h];simp
 ·unfold ReadTag at h;omega
theorem Qdw {g:Tag}(h:TyTag g):AnyTag g:=by have:=h.fst;show g.1≠90;omega
theorem Qwi {n:Nat}(hn:n<4294967296):(Qic n).ok:=⟨by rfl,by show (1:Nat)≠8;omega,hn,by show 0<18446744073709551616;omega,by show 0<18446744073709551616;omega,by show 0<4294967296;omega,by show 0<65536;omega⟩
def Jbb (w:World) (τ:Tags) (I:Ids) (bo:Nat->Nat) (X:List OneP) (next:Nat) (R:List RecP) (V:SlotV) (st:Nat) (e:Ending) (w':World):Prop :=
 ∃τ',Step w τ w' τ' TyTag /\
 ((¬(recsB R).length+27+(resv X+54)<=I.S*127/\e = .returned (.tuple #[.int .u32 0,.int .u16 80])/\TZ w' τ' I bo X next R V st) \/
 ((recsB R).length+27+(resv X+54)<=I.S*127/\e = .returned (.tuple #[.int .u32 (next:Int),.int .u16 0])/\∃nb,TZ w' τ' I (boPut bo next nb) (X++[begOne next (1+(recsB R).length)]) (next+1) (R++[Qic next]) V st))
theorem Qry {w:World}{τ:Tags}{I:Ids}{k:Nat->Nat}{X:List OneP}{next:Nat}{R:List RecP}{V:SlotV}{st:Nat}(h:TZ w τ I k X next R V st) (d:next<=899) (o:X.length<64) :
 Calls Tryz.prog 22 #[.pointer (some ⟨I.bm,0,none⟩)] w (Jbb w τ I k X next R V st):=by
 obtain⟨H,L,D,F,s,b,h1,h2,i,l,m⟩:=h.is
 have hlen:=h.len
 have hrl:=Qfk R
 refine(Qwx h1 d o (by rw[h2.starts,Qbc];omega) (by rw[h2.base,h2.stream];omega)).mono ?_
 rintro e w' ⟨j,p,hk⟩
 refine⟨j,p.mono (fun _ h=>.inl h),?_⟩
 rw[h2.stream,h2.base,i] at hk
 rcases hk with ⟨a1,a2,a3⟩|⟨a1,a2,nb,a3⟩
 ·exact .inl ⟨a1,a2,⟨⟨H,L,D,F,s,b,a3,h2,i,l,m⟩⟩⟩
 ·exact .inr ⟨a1,a2,nb,⟨⟨H,_,D,F,s,b,a3,h2.more (Qwi (by omega)) (SameLog.refl _),i,l,m⟩⟩⟩
def Ja9 (w:World) (τ:Tags) (bl bp:Nat) (e:Ending) (w':World):Prop:=∃bm τ',e = .returned (.pointer (some ⟨bm,0,none⟩))/\w.heap.size<=bm/\MgrAt w' τ' bm bl bp (fun _=>0) [] 1/\Step w τ w' τ' nil
theorem Qmk (w:World) (τ:Tags) (bl bp:Nat):Calls Tryz.prog 79 #[.pointer (some ⟨bl,0,none⟩),.pointer (some ⟨bp,0,none⟩)] w (Ja9 w τ bl bp):=by
 have q:=PMap.made w τ tAllM 1000
 have j:=(Step.refl w τ nil).alloc (.map #[] 0) tAllM
 obtain⟨i,d⟩:∃i,w.heap.size=i:=⟨_,rfl⟩
 have b:(w.alloc (.map #[] 0)).heap.size=w.heap.size+1:=World.size_alloc _ _
 generalize τ.put w.heap.size tAllM=τ1 at *
 rw[d] at q b
 generalize l:w.alloc (.map #[] 0)=W1 at *
 have r:=Own.born W1 τ1 tMgr 171 #[.pointer (some ⟨bl,0,none⟩),.pointer (some ⟨bp,0,none⟩),.map (some i),.int .u32 1]
 have e:=(Step.refl W1 τ1 nil).alloc (.cells #[.pointer (some ⟨bl,0,none⟩),.pointer (some ⟨bp,0,none⟩),.map (some i),.int .u32 1] 171) tMgr
 have m:=q.step e (fun h=>h)
 have o:=j.trans e
 generalize τ1.put W1.heap.size tMgr=s at *
 rw[b] at r
 obtain⟨E,y,z,B,p,C⟩:=hid6 r m o l d b
 clear r m o l d b q j e
 have hmm:=@run_makeMap Tryz.prog
 go_enter Tryz.func79,Tryz.ntmps79
 go_wp2_with fail
 try rw[B.out]
 try rw[p.out]
 go_ret
 refine⟨i+1,s,by first|rfl|rw[C.out],by have:=p.out;omega,⟨⟨i,E.out,?_⟩,fun x D=>absurd D (by simp),by simp[OneP.ids],fun x D=>absurd D (by simp),by omega,by simp⟩,z.out⟩
 have:fOf (fun _=>0) []=fun _=>(none:Option Nat):=by
  funext k
  unfold fOf OneP.ids
  simp
 rw[this]
 exact y.out
theorem Qun {w:World}{τ:Tags}{bm bl bp bf bd N S k:Nat}{H:PoolH}(h:PoolW w τ bp bf bd H (walNewLog (2+2*S)) (nwD (2+2*S) N) (List.replicate k Fr.no) (Ck.Clk.newS k)) (j:MgrAt w τ bm bl bp (fun _=>0) [] 1) (hn:H.n=N) (hbl:H.bl=bl) (d:H.st=stampTo (nwD (2+2*S) N) (N+1)) (hN:N<=500) (l:3<=k) (e:k<=64):TZ w τ ⟨bm,bl,bp,bf,bd,N,S⟩ (fun _=>0) [] 1 [] (fun _ _=>[]) 0:=by
 obtain⟨m,o,p,q,e5,e6⟩:=nwL (2+2*S)
 have b:∀i,i<=N+1->stampTo (nwD (2+2*S) N) i=0:=by
  intro i
  induction i with
  | zero=>intro _;rfl
  | succ i ih =>
    intro hi
    show max (stampTo (nwD (2+2*S) N) i) (greatTo (lastTo (nwD (2+2*S) N) i 4) 4)=0
    rw[ih (by omega),Qe8 _ N i (by omega),show greatTo blank 4=0 by decide +kernel]
    rfl
 refine⟨⟨H,_,_,_,_,emptyPage,⟨h,j,Qzo _ N k _ (by omega) (by omega),Qxh k l e,hn,hbl⟩,⟨o,p,fun r s=>absurd s (by simp),m⟩,by rw[q];show (2+2*S-2)/2=S;omega,by rw[d,b (N+1) (Z0 _)];exact Z0 _,fun n hn=>⟨fun t=>?_,fun t=>Qm4 n t (by have:n<N:=hn;omega)⟩⟩⟩
 rw[Qm4 n t (by have:n<N:=hn;omega)]
 exact⟨Z9 _,fun _=>rfl⟩
def Ja7 (w:World) (N S:Nat) (e:Ending) (w':World):Prop :=
 ∃(I:Ids) (τ':Tags),e = .returned (.tuple #[.pointer (some ⟨I.bm,0,none⟩),.pointer (some ⟨I.bd,0,none⟩)])/\I.N=N/\I.S=S/\TZ w' τ' I (fun _=>0) [] 1 [] (fun _ _=>[]) 0/\Step w (fun _=>tBox) w' τ' AnyTag
theorem Qu2 (w:World) (j pg fr:Nat) (hsp:j<256) (hpg:pg<256) (hfr:fr<256):Calls Tryz.prog 20 #[.int .u8 (j:Int),.int .u8 (pg:Int),.int .u8 (fr:Int)] w (Ja7 w (1+pg%6) (30+j%60)):=by
 obtain⟨N,hN⟩:∃N,1+pg%6=N:=⟨_,rfl⟩
 obtain⟨S,hS⟩:∃S,30+j%60=S:=⟨_,rfl⟩
 obtain⟨k,hk⟩:∃k,3+fr%4=k:=⟨_,rfl⟩
 obtain⟨Z,hZ⟩:∃Z,2+2*S=Z:=⟨_,rfl⟩
 obtain⟨Y,hY⟩:∃Y,4*(N+1)=Y:=⟨_,rfl⟩
 rw[hN,hS]
 have e0:IntKind.u8.wrap ((pg:Int)%6)=(pg:Int)%6:=by
  have:IntKind.u8.wrap ((pg:Int)%6)=((pg:Int)%6)%256:=by simp[IntKind.wrap,IntKind.bits,IntKind.signed]
  rw[this];omega
 have e1:IntKind.u8.wrap ((j:Int)%60)=(j:Int)%60:=by
  have:IntKind.u8.wrap ((j:Int)%60)=((j:Int)%60)%256:=by simp[IntKind.wrap,IntKind.bits,IntKind.signed]
  rw[this];omega
 have e2:IntKind.u8.wrap ((fr:Int)%4)=(fr:Int)%4:=by
  have:IntKind.u8.wrap ((fr:Int)%4)=((fr:Int)%4)%256:=by simp[IntKind.wrap,IntKind.bits,IntKind.signed]
  rw[this];omega
 have hNI:(1:Int)+(pg:Int)%6=(N:Int):=by omega
 have hkI:(3:Int)+(fr:Int)%4=(k:Int):=by omega
 have hZI:(2:Int)+2*(30+(j:Int)%60)=(Z:Int):=by omega
 have hYI:4*((N:Int)+1)=(Y:Int):=by omega
 have z:Calls Tryz.prog 44 #[.int .i64 (Z:Int),.int .i64 (Y:Int)] w (NewD w (fun _=>tBox) Z Y):=Qmx w (fun _=>tBox) Z Y (by omega) (by omega)
 have B:nwD0 Z N=⟨List.replicate Z zsec,List.replicate Y zsec,none,false⟩:=by unfold nwD0;rw[hY]
 obtain⟨L0,s⟩:∃L0,walNewLog (nwD0 Z N).f0.length=L0:=⟨_,rfl⟩
 have C:walNewLog (2+2*S)=L0:=by rw[<-s,Qfo,hZ]
 have hK:Qbl (nwD0 Z N)=nwD Z N:=rfl
 have hN6:1<=N/\N<=6:=by omega
 have hk36:3<=k/\k<=6:=by omega
 have hS90:30<=S/\S<=89:=by omega
 obtain⟨an,ao,HK,ap,HY,aq,HZ,HN,HS,Hk⟩:=hid10 z s hK B hY C hZ hN hS hk
 clear z s hK B hY C hZ hN hS hk
 go_enter Tryz.func20,Tryz.ntmps20
 go_wp2_with fail
 refine an.out.mono ?_
 rintro e w1 ⟨bd,rfl,hlow1,τ1,m,D,E⟩
 have o:DevAt w1 τ1 bd (nwD0 Z N):=by rw[ap.out];exact E
 have F:Step w (fun _=>tBox) w1 τ1 AnyTag:=Step.of _ D m
 have b:=Qmj o (by rw[Qfo];have:=HZ.out;omega) (Dev.lim_mono (Qn1 Z N) (by omega))
 rw[ao.out,HK.out] at b
 obtain⟨av,G⟩:=hid2 F b
 clear F b E m D o
 go_wp2_with fail
 refine G.out.mono ?_
 rintro e w2 ⟨bl,ax,rfl,-,x,y,I⟩
 have p:=av.out.trans (I.mono (T:=AnyTag) (fun g hg=>by have:=hg.fst;show g.1≠90;omega))
 have J:Calls Tryz.prog 14 #[.pointer (some ⟨bl,0,none⟩),.int .i64 (N:Int),.int .i64 (k:Int)] w2 fun e w'=>∃bp bf L H,e = .returned (.tuple #[.pointer (some ⟨bp,0,none⟩),.int .u16 0])/\PoolAt w' L bp bf H (List.replicate k Fr.no) (Ck.Clk.newS k)/\H.bl=bl/\H.n=N/\H.st=stampTo (nwD Z N) (N+1)/\w2.heap.size<=bp/\Step w2 ax w' L nil :=
  Qkv x y N k (by omega) (by omega) (by omega) (by omega) (by rw[Qgj];exact Z0 _) (fun i hi=>by rw[Qe8 Z N i (by omega)];exact Qj2)
 obtain⟨ay,az,M,b0⟩:=hid4 x y p J
 clear x y p J I
 go_wp2_with fail
 refine b0.out.mono ?_
 rintro e w3 ⟨bp,bf,b1,H,rfl,O,R,U,X,-,l⟩
 have a1:=ay.out.step l (fun _ _ h=>h)
 have a6:=az.out.step l (fun _ h=>h.elim)
 have q:=M.out.trans (l.mono (T:=AnyTag) (fun _ h=>h.elim))
 have a7:=Qmk w3 b1 bl bp
 obtain⟨b2,b3,b4,a8,b5,aa,b6,b7⟩:=hid8 O a1 a6 q a7 R U X
 clear O a1 a6 q a7 R U X l
 go_wp2_with fail
 refine b5.out.mono ?_
 rintro e w4 ⟨bm,ab,rfl,-,ac,d⟩
 have ad:=b2.out.step d (fun _ _ h=>h)
 have ae:=b3.out.step d (fun _ _ h=>h)
 have af:=b4.out.step d (fun _ h=>h.elim)
 have r:=a8.out.trans (d.mono (T:=AnyTag) (fun _ h=>h.elim))
 have ag:TZ w4 ab ⟨bm,bl,bp,bf,bd,N,S⟩ (fun _=>0) [] 1 [] (fun _ _=>[]) 0:=by
  refine Qun (k:=k) (H:=H) ⟨ad,by rw[aa.out,aq.out];exact ae,by rw[HZ.out];exact af⟩ ac b6.out aa.out (by rw[HZ.out];exact b7.out) (by omega) (by omega) (by omega)
 obtain⟨ah,b8⟩:=hid2 r ag
 clear r ag ad ae af ac d
 go_wp2_with fail
 go_ret2
 exact⟨⟨bm,bl,bp,bf,bd,N,S⟩,ab,rfl,rfl,rfl,b8.out,ah.out⟩
