/-
 The laws of restarts: an empty device,what is too much,what a log of three records says.
-/
import Derived.Test.YtociicnopccppaaGreatML15A
import Derived.Test.YtociicnopccppaaGreatMKeyB
set_option maxRecDepth 100000
set_option maxHeartbeats 4000000
set_option linter.all false
namespace Go.Proofs.YtociicnopccppaaGreat
open Go.RowKit Go.Maps ArgsQ
theorem Jke (w:World) (c pg fr:Nat) (hsp:c<256) (hpg:pg<256) (hfr:fr<256):Calls Tryz.prog 9 #[.int .u8 c,.int .u8 pg,.int .u8 fr] w (Ja7 w (1+pg%6) (30+c%60)):=by
 obtain⟨N,hN⟩:=gN (1+pg%6)
 obtain⟨S,hS⟩:=gN (30+c%60)
 obtain⟨k,hk⟩:=gN (3+fr%4)
 obtain⟨Z,hZ⟩:=gN (2+2*S)
 obtain⟨Y,hY⟩:=gN (4*(N+1))
 rw[hN,hS]
 have e0:IntKind.u8.wrap ((pg:Int)%6)=(pg:Int)%6:=by
  have:IntKind.u8.wrap ((pg:Int)%6)=((pg:Int)%6)%256:=by simp[IntKind.wrap,IntKind.bits,IntKind.signed]
  rw[this];omega
 have e1:IntKind.u8.wrap ((c:Int)%60)=(c:Int)%60:=by
  have:IntKind.u8.wrap ((c:Int)%60)=((c:Int)%60)%256:=by simp[IntKind.wrap,IntKind.bits,IntKind.signed]
  rw[this];omega
 have e2:IntKind.u8.wrap ((fr:Int)%4)=(fr:Int)%4:=by
  have:IntKind.u8.wrap ((fr:Int)%4)=((fr:Int)%4)%256:=by simp[IntKind.wrap,IntKind.bits,IntKind.signed]
  rw[this];omega
 have hNI:(1:Int)+pg%6=(N:Int):=oM
 have hkI:(3:Int)+fr%4=(k:Int):=oM
 have hZI:(2:Int)+2*(30+(c:Int)%60)=(Z:Int):=oM
 have hYI:4*((N:Int)+1)=(Y:Int):=oM
 have x:Calls Tryz.prog 28 #[.int .i64 Z,.int .i64 Y] w (NewD w (fun _=>qay) Z Y):=Qmx w (fun _=>qay) Z Y oM oM
 have y:qg3 Z N=⟨List.replicate Z qgp,List.replicate Y qgp,none,false⟩:=by unfold qg3;rw[hY]
 obtain⟨L0,q⟩:=gN (qbh (qg3 Z N).f0.length)
 have z:qbh (2+2*S)=L0:=by rw[<-q,Qfo,hZ]
 have hK:Qbl (qg3 Z N)=nwD Z N:=rfl
 obtain⟨ab,ac,HK,ad,ae,HZ⟩:=qcq x q hK y z hZ
 clear x q hK y hY z hZ hN hS hk
 go_enter Tryz.func9,Tryz.ntmps9
 go_wp2_with fail
 refine ab.mono ?_
 rintro e w1 ⟨bd,rfl,hlow1,τ1,h,B,C⟩
 have j:qax w1 τ1 bd (qg3 Z N):=by rw[ad.out];exact C
 have D:Step w (fun _=>qay) w1 τ1 qb5:=Step.of _ B h
 have a:=Qmj j (by rw[Qfo];have:=HZ.out;omega) (Dev.qbb (Qn1 Z N) oM)
 rw[ac.out,HK.out] at a
 obtain⟨ag,E⟩:=qaj D a
 clear D a C h B j
 go_wp2_with fail
 refine E.mono ?_
 rintro e w2 ⟨bl,ai,rfl,-,r,s,F⟩
 have l:=ag.trans (F.mono (T:=qb5) (fun g hg=>by have:=hg.fst;show g.1≠90;omega))
 have G:Calls Tryz.prog 30 #[.pointer (some ⟨bl,0,none⟩),.int .i64 N,.int .i64 k] w2 fun e w'=>∃bp bf I H,e = .returned (.tuple #[.pointer (some ⟨bp,0,none⟩),.int .u16 0])/\qau w' I bp bf H (List.replicate k Fr.no) (Ck.Clk.qil k)/\H.bl=bl/\H.n=N/\H.st=Ji2 (nwD Z N) (N+1)/\w2.heap.size<=bp/\Step w2 ai w' I nil :=
  Qkv r s N k oM oM oM oM (by rw[Qgj];exact Z0 _) (fun i hi=>by rw[qf9 Z N i oM];exact Qj2)
 obtain⟨aj,ak,J,al⟩:=qb9 r s l G
 clear r s l G F
 go_wp2_with fail
 refine al.mono ?_
 rintro e w3 ⟨bp,bf,am,H,rfl,L,M,O,R,-,d⟩
 have U:=aj.step d zN
 have X:=ak.step d zE
 have o:=J.trans d.nz
 have a0:=Qmk w3 am bl bp
 obtain⟨an,ao,ap,a1,aq,a2,ar,av⟩:=qen L U X o a0 M O R
 clear L U X o a0 M O R d
 go_wp2_with fail
 refine aq.mono ?_
 rintro e w4 ⟨bm,a3,rfl,-,a4,b⟩
 have a5:=an.step b zN
 have a6:=ao.step b zN
 have a7:=ap.step b zE
 have p:=a1.trans b.nz
 have a8:TZ w4 a3 ⟨bm,bl,bp,bf,bd,N,S⟩ (fun _=>0) [] 1 [] (fun _ _=>[]) 0:=by
  refine Qun (k:=k) (H:=H) ⟨a5,by rw[a2.out,ae.out];exact a6,by rw[HZ.out];exact a7⟩ a4 ar a2 (by rw[HZ.out];exact av) oM oM oM
 obtain⟨a9,aw⟩:=qaj p a8
 clear p a8 a5 a6 a7 a4 b
 go_wp2_with fail
 go_ret2
 exact⟨⟨bm,bl,bp,bf,bd,N,S⟩,a3,rfl,rfl,rfl,aw,a9⟩
def Jgs (w:World) (n1 nf:Nat) (e:Ending) (w':World):Prop:=∃b,e = .returned (.bool b)/\w=w'/\(b=false->n1<=50/\nf<=60)
theorem Jfn (w:World) {la:Option Addr}{n1 c1:Nat}(l:OpsT w la n1) (g:n1<=maxLen) {lf:Option Addr}{a cf:Nat}(j:a<=maxLen) :
 Calls Tryz.prog 7 #[.int .i64 0,.slice la n1 c1,.slice lf a cf] w (Jgs w n1 a):=by
 unfold maxLen at g j
 by_cases hb1:50<n1
 ·have n:(50:Int)<n1:=oM
  go_enter Tryz.func7,Tryz.ntmps7
  go_wp2_with fail
  go_ret
  exact⟨true,rfl,rfl,fun h=>(by cases h)⟩
 have n:¬(50:Int)<n1:=oM
 by_cases hb2:60<a
 ·have o:(60:Int)<a:=oM
  go_enter Tryz.func7,Tryz.ntmps7
  go_wp2_with fail
  go_ret
  exact⟨true,rfl,rfl,fun h=>(by cases h)⟩
 have o:¬(60:Int)<a:=oM
 have b:=Z2 l
 clear l
 go_enter Tryz.func7,Tryz.ntmps7
 go_wp2_with fail
 go_loopw [7] (fun v wr=>∃i:Nat,i<=n1/\v = .int .i64 i/\wr=w) (fun v _=>n1-(intOf v).toNat)
 case atStart=>exact⟨0,Z9 _,rfl,rfl⟩
 case round =>
  obtain⟨i,hi,rfl,rfl⟩:=hrel
  by_cases k:i<n1
  ·obtain⟨bl,ol,op,rfl,d⟩:=b i k
   have q:=d.c4
   have e:(i:Int)<n1:=oM
   obtain⟨p,r⟩:=gN op.p
   obtain⟨m,s⟩:=gN op.m
   obtain⟨c,x⟩:=gN op.c
   rw[r,s,x] at q
   clear d
   by_cases hb3:100<m
   ·have y:(100:Int)<m:=oM
    go_wp2_with fail
    go_ret
    exact⟨true,rfl,rfl,fun h=>(by cases h)⟩
   ·have y:¬(100:Int)<m:=oM
    go_wp2_with fail
    go_round
    case rel=>exact⟨i+1,oM,sM,by first|rfl|trivial⟩
    case measure=>simp[intOf];omega
  ·have e:¬(i:Int)<n1:=oM
   go_wp2_with fail
   go_ret
   exact⟨false,rfl,rfl,fun _=>⟨oM,oM⟩⟩
