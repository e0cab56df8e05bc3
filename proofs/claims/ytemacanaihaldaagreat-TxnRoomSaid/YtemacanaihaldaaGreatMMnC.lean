/-
 TxnRoom: the law walked.
-/
import Derived.Test.YtemacanaihaldaaGreatMMnB
import Derived.Test.YtemacanaihaldaaGreatMSortR
import Derived.Test.YtemacanaihaldaaGreatRows
import Derived.Test.YtemacanaihaldaaGreatChecked
set_option maxRecDepth 100000
set_option maxHeartbeats 8000000
set_option linter.all false
namespace Go.Proofs.YtemacanaihaldaaGreat
open Go.RowKit Go.Maps ArgsQ
theorem Qw3 {w d e:World}{τ1:Tags}(hk:Mod w d no) (i:Step d boxed e τ1 AnyTag):Step w boxed e τ1 AnyTag :=
 ⟨(hk.mono (fun _ _ h=>h.elim)).seq i.mod (fun _ _ h=>h),fun k b=>i.ext k (Nat.lt_of_lt_of_le b hk.size)⟩
theorem ArgsQ.OpTAt.stay {w e:World}{d:Tags}(m:Step w boxed e d AnyTag) {b o:Nat}{x:OpT}(h:OpTAt w b o x):OpTAt e b o x :=
 ⟨h.kd,h.pg,h.k,Qcq m h.c0 Qhl,Qcq m h.c1 Qhl,Qcq m h.c2 Qhl,Qcq m h.c3 Qhl,Qcq m h.c4 Qhl,Qcq m h.c5 Qhl,Qcq m h.c6 Qhl⟩
def LawD (w:World) (e:Ending) (w':World):Prop:=e = .returned (.bool true)/\Below w.heap.size w w'
theorem Jb1 {x:Int}(h0:0<=x) (h:x<256):IntKind.u8.wrap x=x:=by
 have:IntKind.u8.wrap x=x%256:=by simp[IntKind.wrap,IntKind.bits,IntKind.signed]
 rw[this];omega
theorem Jhj {x:Int}(h0:0<=x) (h:x<4294967296):IntKind.u32.wrap x=x:=by
 have:IntKind.u32.wrap x=x%4294967296:=by simp[IntKind.wrap,IntKind.bits,IntKind.signed]
 rw[this];omega
theorem Jiv {i j t n:Nat}(hij:i<j) (hj:j<n):(i+t)%n≠(j+t)%n:=fun e=>by
 have h:=Nat.sub_mod_eq_zero_of_mod_eq e.symm
 rw[show j+t-(i+t)=j-i by omega,Nat.mod_eq_of_lt (by omega)] at h
 omega
def NSAct (w:World) (τ:Tags) (n0:Nat) (v:Value) (l:List TxnP):Prop:=NS 75 4 Qct n0 w τ tAct v l
structure EndI (I:Ids) (bo:Nat->Nat) (next:Nat) (ts:List Nat) (t n i:Nat) (w:World) (τ:Tags):Prop where
 is:∃X R V st P,Many w τ I bo X next R V st P/\X.length+i=n/\st<=1000*(61+i)/\∀j,i<=j->j<n->∃k,ts[(j+t)%n]?=some k/\∃x∈X,x.txn=k
theorem EndI.step {I:Ids}{F:Nat->Nat}{next:Nat}{ts:List Nat}{t n i:Nat}{w:World}{τ:Tags}(h:EndI I F next ts t n i w τ) (hn:ts.Nodup) (hl:ts.length=n) (hi:i<n) (hn6:n<=60) {k:Nat}(hk:ts[(i+t)%n]?=some k) :
 Calls Tryz.prog 23 #[.pointer (some ⟨I.bm,0,none⟩),.int .u32 (k:Int)] w fun e r=>e = .returned (.int .u16 0)/\∃d,EndI I F next ts t n (i+1) r d/\Step w τ r d TyTag:=by
 obtain⟨X,R,V,st,P,h,h1,h2,G⟩:=h.is
 obtain⟨k',m,x,l,s⟩:=G i (Z0 _) hi
 rw[hk] at m
 cases m
 subst s
 have b:=h.one x l
 have hlow:=b.2.2.1.low
 have hlen:=h.lenP l
 have hneed:=h.need l
 have hrm:=Jhg l
 have hroom:=h.room
 have hdr:=Jg9 h.tz.mgr.nodup l
 refine(Qww h.tz l b.1 b.2.1 b.2.2.2 (fun z B=>(h.ok _ z B).1) (by omega) (by omega) (by omega) h.N.2).mono ?_
 rintro e r ⟨rfl,d,T,J,B,C⟩
 refine⟨rfl,d,⟨⟨_,_,_,_,_,h.aborted l B C,by omega,by omega,fun j hj o=>?_⟩⟩,J⟩
 obtain⟨L,p,y,M,q⟩:=G j (by omega) o
 refine⟨L,p,y,Qpt.2 ⟨M,fun e=>?_⟩,q⟩
 have D:=Jiv (t:=t) (show i<j by omega) o
 have O:ts[(i+t)%n]?=ts[(j+t)%n]?:=by rw[hk,p,<-q,e]
 have E:(i+t)%n<ts.length:=by rw[hl];exact Y9 _ (by omega)
 exact D ((List.getElem?_inj E hn).1 O)
theorem Jig (w:World) (sp pg fr tu:Nat) (ef:sp<256) (eg:pg<256) (eh:fr<256) (htu:tu<256) (la:Option Addr) (n1 c1:Nat) (hn1:n1<=maxLen) (o1:OpsT w la n1) :
 Calls Tryz.prog 4 #[.int .u8 (sp:Int),.int .u8 (pg:Int),.int .u8 (fr:Int),.slice la n1 c1,.int .u8 (tu:Int)] w (LawD w):=by
 have cs:=Qra w
 obtain⟨ct,cv⟩:=hid2 cs o1
 clear cs o1
 by_cases hb1:50<n1
 ·have g1:decide ((50:Int)<(n1:Int))=true:=decide_eq_true (by omega)
  go_enter Tryz.func4,Tryz.ntmps4
  go_wp2_with fail
  refine ct.out.mono ?_
  rintro e w' ⟨rfl,τ',hs⟩
  have am:=(Qiv hs).below
  have bw:=Z2 am
  clear am hs
  go_wp2_with fail
  go_ret
  exact⟨rfl,bw.out⟩
 have g1:decide ((50:Int)<(n1:Int))=false:=decide_eq_false (by omega)
 go_enter Tryz.func4,Tryz.ntmps4
 go_wp2_with fail
 refine ct.out.mono ?_
 rintro e w0 ⟨rfl,τ0,cw⟩
 have cx:=Qiv cw
 have cy:=Qu2 w0 sp pg fr ef eg eh
 obtain⟨ei,ej⟩:=hid2 cx cy
 clear cx cy cw
 go_wp2_with fail
 refine ej.out.mono ?_
 rintro e w1 ⟨I,τ1,rfl,hN,hS,ek,cz⟩
 have be:=Qw3 ei.out cz
 have an:=Qrx ek (by omega) (by omega) 0
 obtain⟨HN,HS,da,bz⟩:=hid4 hN hS be an
 clear hN hS be an cz
 go_wp2_with fail
 refine bz.out.mono ?_
 rintro e w2 ⟨vf,b2,rfl,a6,db,dc⟩
 have bf:=da.out.trans (dc.mono (T:=AnyTag) (fun _ h=>Qdw h))
 obtain⟨pf,cf,rfl⟩:=a6.val
 obtain⟨lf,b3⟩:∃q,(Qbw (fun _ _=>[]) I.N).length=q:=⟨_,rfl⟩
 rw[b3] at a6
 rw[b3]
 have aj:MnyI I 0 w2 b2:=by
  have hNo:=HN.out
  have hSo:=HS.out
  exact⟨_,[],1,[],_,_,fun _=>[],⟨db,fun x hx=>absurd hx (by simp),fun k z hz=>absurd hz (by simp),fun _ _=>rfl,fun _ _=>rfl,fun _ _ _ _ _ _=>rfl,by show 0+0<=_;omega,by omega,by omega⟩,Z0 _,by omega,by simp,by omega⟩
 obtain⟨bg,c3,ao,de⟩:=hid4 bf a6 aj b3
 clear bf a6 aj b3 dc db
 go_wp2_with fail
 go_loopw [14] (fun v wr=>∃(i:Nat) (y:Tags),i<=n1/\v = .int .i64 (i:Int)/\MnyI I i wr y/\Step w boxed wr y AnyTag/\Step w2 b2 wr y TyTag) (fun v _=>n1-(intOf v).toNat)
 case atStart=>exact⟨0,b2,Z9 _,rfl,ao.out,bg.out,Step.refl _ _ _⟩
 case round =>
  clear ao bg
  obtain⟨i,y,hi,rfl,aj,G,L⟩:=hrel
  by_cases a7:i<n1
  ·obtain⟨bl,ol,op,df,c5⟩:=cv.out i a7
   obtain⟨q0,q1,q2,p0,p1,p2,p3,p4,p5,p6⟩:=c5.stay G
   have ap:(i:Int)<(n1:Int):=by omega
   obtain⟨K,hK⟩:∃K:Nat,(op.kd:Int)%16=(K:Int):=⟨op.kd%16,by omega⟩
   have r1:IntKind.u8.wrap (op.kd%16:Int)=(K:Int):=by rw[Jb1 (by omega) (by omega),hK]
   obtain⟨n4,b4⟩:∃n:Nat,1+(op.nn:Int)%4=(n:Int):=⟨1+op.nn%4,by omega⟩
   have dh:1<=n4/\n4<=4:=by omega
   have r2:IntKind.u32.wrap ((op.nn:Int)%4)=(op.nn:Int)%4:=Jhj (by omega) (by omega)
   have r3:IntKind.u32.wrap (1+(op.nn:Int)%4)=(n4:Int):=by rw[b4,Jhj (by omega) (by omega)]
   have r4:IntKind.u8.wrap ((op.k:Int)%2)=(op.k:Int)%2:=Jb1 (by omega) (by omega)
   obtain⟨ao,O,ak,Hop⟩:=hid4 aj G L c5
   clear aj G L c5
   rw[df]
   clear df
   go_upto_block 2 with fail
   have aq:=(Step.refl wr y nil).alloc (.cells #[.int .u8 (op.kd:Int),.int .u32 (op.nn:Int),.int .u32 (op.pg:Int),.int .i64 op.sl,.slice op.p op.m op.c,.int .u8 (op.k:Int),.int .u64 (op.at_:Int)] 62) tTn
   have J:=Own.born wr y tTn 62 #[.int .u8 (op.kd:Int),.int .u32 (op.nn:Int),.int .u32 (op.pg:Int),.int .i64 op.sl,.slice op.p op.m op.c,.int .u8 (op.k:Int),.int .u64 (op.at_:Int)]
   generalize y.put wr.heap.size tTn=al at *
   have af:=ao.out.nil aq
   have a8:=O.out.trans (aq.mono (T:=AnyTag) (fun _ h=>h.elim))
   have ar:=ak.out.trans (aq.mono (T:=TyTag) (fun _ h=>h.elim))
   have d0:=J.at 0 (v:=.int .u8 (op.kd:Int)) rfl
   have d1:=J.at 1 (v:=.int .u32 (op.nn:Int)) rfl
   have d2:=J.at 2 (v:=.int .u32 (op.pg:Int)) rfl
   have d3:=J.at 3 (v:=.int .i64 op.sl) rfl
   have d4:=J.at 4 (v:=.slice op.p op.m op.c) rfl
   have d5:=J.at 5 (v:=.int .u8 (op.k:Int)) rfl
   have d6:=J.at 6 (v:=.int .u64 (op.at_:Int)) rfl
   obtain⟨bc,b5⟩:∃bc,wr.heap.size=bc:=⟨_,rfl⟩
   obtain⟨W2,b6⟩:∃W,wr.alloc (.cells #[.int .u8 (op.kd:Int),.int .u32 (op.nn:Int),.int .u32 (op.pg:Int),.int .i64 op.sl,.slice op.p op.m op.c,.int .u8 (op.k:Int),.int .u64 (op.at_:Int)] 62)=W:=⟨_,rfl⟩
   rw[b6] at aq J af a8 ar d0 d1 d2 d3 d4 d5 d6
   rw[b5] at d0 d1 d2 d3 d4 d5 d6
   rw[b6,b5]
   have bh:MnyI I (i+1) W2 al:=by
    obtain⟨bo,X,next,R,V,st,P,h,h1,h2,h3,h4⟩:=af
    exact⟨bo,X,next,R,V,st,P,h,h1,by omega,by omega,by omega⟩
   obtain⟨Hoc,U,dj⟩:=hid3 J af bh
   have c7:=Z2 a8
   obtain⟨dk,HW2,Hbc⟩:=hid3 ar b6 b5
   clear J af bh a8 ar b6 b5 p0 p1 p2 p3 p4 p5 p6 aq ao O ak
   go_cut [] from 38 to 90 (fun wx=>∃r,MnyI I (i+1) wx r/\Step W2 al wx r TyTag)
   case first =>
    by_cases k6:K=6
    ·subst k6
     have hc:=Jie U.out (by omega)
     have Hc:=Z2 hc
     clear hc
     go_wp2_with fail
     refine Hc.out.mono ?_
     rintro e w3 ⟨⟨va,vb,rfl⟩,r,o,d⟩
     obtain⟨C,ab⟩:=hid2 o d
     clear o d
     go_wp2_with fail
     go_meet
     case rel=>exact⟨r,C.out,ab.out⟩
    have e6:((K:Int)==6)=false:=by simp;omega
    by_cases k7:K=7
    ·subst k7
     by_cases k2:op.k%2=0
     ·have e2:((op.k:Int)%2==0)=true:=by simp;omega
      have hc:=Jif U.out (by omega) (n:=n4) (by omega)
      have Hc:=Z2 hc
      clear hc
      go_wp2_with fail
      refine Hc.out.mono ?_
      rintro e w3 ⟨⟨va,rfl⟩,r,o,d⟩
      obtain⟨C,ab⟩:=hid2 o d
      clear o d
      go_wp2_with fail
      go_meet
      case rel=>exact⟨r,C.out,ab.out⟩
     ·have e2:((op.k:Int)%2==0)=false:=by simp;omega
      go_wp2_with fail
      go_meet
      case rel=>exact⟨al,dj.out,Step.refl _ _ _⟩
    have e7:((K:Int)==7)=false:=by simp;omega
    by_cases ep:K=13
    ·subst ep
     have hc:=Jid U.out (B:=50) (Jg8 (by omega)) (by omega) (by omega)
     have Hc:=Z2 hc
     clear hc
     go_wp2_with fail
     refine Hc.out.mono ?_
     rintro e w3 ⟨⟨va,rfl⟩,r,o,d⟩
     obtain⟨C,ab⟩:=hid2 o d
     clear o d
     go_wp2_with fail
     go_meet
     case rel=>exact⟨r,C.out,ab.out⟩
    have e13:((K:Int)==13)=false:=by simp;omega
    by_cases er:K=14
    ·subst er
     have c8:Step W2 al W2.drew al nil:=(Step.refl W2 al nil).drew
     have av:=U.out.nil c8
     have dm:=Jin av
     have hc:=Jic av (by omega) (n:=op.pg) q1
     have et:W2.drew.cell? ⟨bc,2,none⟩=some (.int .u32 (op.pg:Int)):=d2
     obtain⟨ev,Hc,ew⟩:=hid3 dm hc c8
     clear dm hc c8 av
     go_upto_region 21 with fail
     refine Qaf (S:=fun W:World=>W.cell? ⟨bc,2,none⟩=some (.int .u32 (op.pg:Int))) (by kernel_rfl) ?_
     clear d0 d1 d2 d3 d4 d5 d6
     refine tk0 [0,2,3] ?_
     iterate 3
      refine tks (v:=?_) rfl (Or.inl ⟨by rfl,?_⟩) (by assumption) ?_
      rotate_left
      ·intro w ey;(try dsimp only at ey);go_simp
       all_goals with_reducible rfl
      try simp only[Act.put,lz1,lz2,lz3]
     refine tk9 ?_
     try simp only[lz4,lz5,lz6,lz1,lz2,lz3]
     refine tk1 1 rfl fun K hK=>?_
     go_simp
     go_at_call 25
     refine ev.out.mono ?_
     rintro e w3 ⟨rfl,rfl⟩
     refine hK.out _ _ (fun _=>et) ?_
     clear hK K
     try simp only[lz4,lz5,lz6,lz1,lz2,lz3]
     refine tk1 4 rfl fun K hK=>?_
     go_simp
     go_at_call 26
     refine Hc.out.mono ?_
     rintro e w3 ⟨⟨va,rfl⟩,r,o,d⟩
     refine hK.out _ _ (fun h=>absurd h (by decide +kernel)) ?_
     clear hK K
     refine Qad (by kernel_rfl) ?_ _
     have s:=(ew.out.mono (T:=TyTag) (fun _ h=>h.elim)).trans d
     obtain⟨C,c9⟩:=hid2 o s
     clear o s d
     go_wp2_with fail
     go_meet
     case rel=>exact⟨r,C.out,c9.out⟩
    have e14:((K:Int)==14)=false:=by simp;omega
    have hc:=Jiw U.out (by omega) (n:=n4) dh (kd:=op.kd) (nn:=op.nn) (pg:=op.pg) (sl:=op.sl) (p:=op.p) (m:=op.m) (c:=op.c) (k:=op.k) (at_:=op.at_) q0 q1 q2
    unfold OpV at hc
    have Hc:=Z2 hc
    clear hc
    go_wp2_with fail
    refine Hc.out.mono ?_
    rintro e w3 ⟨⟨va,rfl⟩,r,o,d⟩
    obtain⟨C,ab⟩:=hid2 o d
    clear o d
    go_wp2_with fail
    go_meet
    case rel=>exact⟨r,C.out,ab.out⟩
   case rest =>
    obtain⟨r,o,d⟩:=hcut
    have Y:=c7.out.trans (d.mono (T:=AnyTag) (fun _ h=>Qdw h))
    have Z:=dk.out.trans d
    obtain⟨bo,X,next,R,V,st,P,D,m1,m2,m3,m4⟩:=id o
    have dn:=Jb6 D.tz.mgr
    have cb:=Jil D.tz D.S
    have cc:=D.room
    obtain⟨rm,bj⟩:∃q,I.S*127-(recsB R).length=q:=⟨_,rfl⟩
    rw[bj] at cb
    have ez:resv X<=rm:=by omega
    obtain⟨fa,fb,C,ag,ah,b8⟩:=hid6 dn cb o Y Z D
    clear dn cb o Y Z D d d0 d1 d2 d3 d4 d5 d6 cc bj
    go_wp2_with fail
    refine fa.out.mono ?_
    rintro e w' ⟨rfl,rfl⟩
    go_wp2_with fail
    refine fb.out.mono ?_
    rintro e w4 ⟨rfl,b9,s⟩
    have ac:=Qde (b8.out.tz.nil s).mgr
    obtain⟨rs,cd⟩:∃q,resv X=q:=⟨_,rfl⟩
    rw[cd] at ac ez
    have hrI:¬((rm:Int)<(rs:Int)):=by omega
    obtain⟨ce,c9,Hrs⟩:=hid3 ac s cd
    clear ac s cd
    go_wp2_with fail
    refine ce.out.mono ?_
    rintro e w5 ⟨rfl,dp,ad⟩
    have bk:=c9.out.trans ad
    have aw:=Z2 bk
    clear bk ad
    go_wp2_with fail
    go_round
    case rel=>exact⟨i+1,dp,by omega,by simp,C.out.nil aw.out,ag.out.trans (aw.out.mono (T:=AnyTag) (fun _ h=>h.elim)),ah.out.trans (aw.out.mono (T:=TyTag) (fun _ h=>h.elim))⟩
    case measure=>simp[intOf];omega
  ·have dq:i=n1:=by omega
   have hi50:i<=50:=by omega
   have ap:¬(i:Int)<(n1:Int):=by omega
   clear hi dq a7
   obtain⟨bo,X,next,R,V,st,P,D,m1,m2,m3,m4⟩:=aj
   have ax:=Jg6 D.tz.mgr (Jg8 (B:=50) (by omega)) (by omega)
   have dr:=D.tz.mgr.nodup
   obtain⟨b8,O,ak,cg⟩:=hid4 D G L ax
   clear D G L ax
   go_wp2_with fail
   refine cg.out.mono ?_
   rintro e w3 ⟨va,ts,r,rfl,ba,ay,d⟩
   have Y:=O.out.trans (d.mono (T:=AnyTag) (fun _ h=>h.elim))
   have Z:=ak.out.trans (d.mono (T:=TyTag) (fun _ h=>h.elim))
   have o:=b8.out.retz0 (b8.out.tz.nil d)
   obtain⟨n0,fe⟩:∃n,wr.heap.size=n:=⟨_,rfl⟩
   rw[fe] at ay
   have bb:ts.length=X.length:=by rw[ba.length_eq];unfold OneP.ids;rw[Y0]
   have ff:ts.Nodup:=ba.nodup_iff.2 dr
   have ch:∀k∈ts,k∈OneP.ids X:=fun k hk=>ba.mem_iff.1 hk
   have az:∀j k,ts[j]?=some k->∃q:TxnP,(ts.map (fun k=>(oneOf X k).act))[j]?=some q/\q.txn=k:=fun j k ds=>by
    refine⟨(oneOf X k).act,by rw[List.getElem?_map,ds];rfl,?_⟩
    exact(Jhi (ch k (List.mem_of_getElem? ds))).2
   obtain⟨rows,ae⟩:∃l,ts.map (fun k=>(oneOf X k).act)=l:=⟨_,rfl⟩
   have ci:rows.length=X.length:=by rw[<-ae,Y0,bb]
   rw[ae] at ay az
   obtain⟨M,dt⟩:∃n,X.length=n:=⟨_,rfl⟩
   rw[dt] at bb ci m3
   have E:EndI I bo next ts tu M 0 w3 r:=⟨⟨X,R,V,st,P,o,by omega,by omega,fun j _ hj=>by
    have a7:(j+tu)%M<ts.length:=by rw[bb];exact Y9 _ (by omega)
    refine⟨ts[(j+tu)%M],Z3 a7,?_⟩
    obtain⟨x,hx,e⟩:=List.mem_map.1 (ch _ (List.getElem_mem a7))
    exact⟨x,hx,e⟩⟩⟩
   obtain⟨pa,ca,rfl⟩:=ay.val
   rw[ci]
   have F:NSAct w3 r n0 (.slice pa M ca) rows:=by rw[<-ci];exact ay
   obtain⟨bm,ai,ag,ah,dv⟩:=hid5 E F Y Z az
   clear E F Y Z az ay o d dr ba ch ae dt m4
   go_wp2_with fail
   go_loopw [17] (fun v wr=>∃(i:Nat) (y:Tags),i<=M/\v = .int .i64 (i:Int)/\EndI I bo next ts tu M i wr y/\NSAct wr y n0 (.slice pa M ca) rows/\Step w boxed wr y AnyTag/\Step w2 b2 wr y TyTag) (fun v _=>M-(intOf v).toNat)
   case atStart=>exact⟨0,r,Z9 _,rfl,bm.out,ai.out,ag.out,ah.out⟩
   case round =>
    clear bm ai ag ah
    obtain⟨i,y,hi,rfl,E,F,G,L⟩:=hrel
    by_cases a7:i<M
    ·have ap:(i:Int)<(M:Int):=by omega
     obtain⟨j,hj⟩:∃j,(i+tu)%M=j:=⟨_,rfl⟩
     have hjn:j<M:=by rw[<-hj];exact Y9 _ (by omega)
     have hjI:((i:Int)+(tu:Int))%(M:Int)=(j:Int):=by rw[<-hj];push_cast;rfl
     have hnAI:¬(M:Int)=0:=by omega
     have hnAb:((M:Int)==0)=false:=by simp;omega
     have hjnI:(j:Int)<(M:Int):=by omega
     obtain⟨k,hk⟩:∃k,ts[j]?=some k:=⟨_,Z3 (by omega)⟩
     obtain⟨q,hq,cj⟩:=dv.out j k hk
     have dw:=E.step ff bb a7 (by omega) (k:=k) (by rw[hj];exact hk)
     obtain⟨p',c',hv,fh,dx⟩:=NS.txn F
     cases hv
     obtain⟨b,rfl,e0,-,-,-⟩:=dx j q hq
     rw[cj] at e0
     obtain⟨fi,ai,O,ak,Hq,Hqk⟩:=hid6 dw F G L hq cj
     clear dw F G L hq cj dx fh E
     go_wp2_with fail
     refine fi.out.mono ?_
     rintro e w4 ⟨rfl,b9,dy,s⟩
     have b0:NSAct w4 b9 n0 (.slice (some ⟨b,0,none⟩) rows.length ca) rows:=NS.step ai.out s (fun h=>by have:=h.fst;simp[tAct] at this)
     have a1:=O.out.trans (s.mono (T:=AnyTag) (fun _ h=>Qdw h))
     have bn:=ak.out.trans s
     obtain⟨fj,ck,b1,dz⟩:=hid4 dy b0 a1 bn
     clear dy b0 a1 bn s
     go_wp2_with fail
     go_round
     case rel=>exact⟨i+1,b9,by omega,by simp,fj.out,ck.out,b1.out,dz.out⟩
     case measure=>simp[intOf];omega
    ·have dq:i=M:=by omega
     have ap:¬(i:Int)<(M:Int):=by omega
     obtain⟨X2,R2,V2,st2,P2,e1,x1,x2,-⟩:=E.is
     have fk:X2=[]:=List.eq_nil_of_length_eq_zero (by omega)
     subst fk
     have hz:=e1.done
     have ax:=Jg6 hz.mgr (Jg8 (B:=50) (by omega)) (by simp)
     have a6:=c3.out.step L (Qov 0) Qkg
     obtain⟨Hz,O,c3,cg⟩:=hid4 hz G a6 ax
     clear hz G a6 ax E F e1 L
     go_wp2_with fail
     refine cg.out.mono ?_
     rintro e w4 ⟨v4,fl,b9,rfl,e3,b4,s⟩
     have fm:fl=[]:=List.perm_nil.1 e3
     subst fm
     obtain⟨p4,c4,rfl⟩:=b4.val
     have cm:=Hz.out.nil s
     have a1:=O.out.trans (s.mono (T:=AnyTag) (fun _ h=>h.elim))
     have bp:=c3.out.step s (fun h=>h) (fun h=>h)
     have ac:=Qde cm.mgr
     rw[show resv []=0 from rfl] at ac
     obtain⟨fo,b1,e4,ce⟩:=hid4 cm a1 bp ac
     clear cm a1 bp ac s b4 e3
     go_wp2_with fail
     refine ce.out.mono ?_
     rintro e w5 ⟨rfl,dp,ad⟩
     have e5:=fo.out.nil ad
     have bq:=b1.out.trans (ad.mono (T:=AnyTag) (fun _ h=>h.elim))
     have br:=e4.out.step ad (fun h=>h) (fun h=>h)
     have an:=Qrx e5 (by have:=HN.out;omega) (by have:=HN.out;omega) 1
     obtain⟨e8,e9,bz⟩:=hid3 bq br an
     clear bq br an ad e5
     go_wp2_with fail
     refine bz.out.mono ?_
     rintro e w6 ⟨vn,ea,rfl,co,fp,cp⟩
     have bs:=e8.out.trans (cp.mono (T:=AnyTag) (fun _ h=>Qdw h))
     have bv:=e9.out.step cp (Qov 0) Qkg
     obtain⟨pn,cn,rfl⟩:=co.val
     have cq:=Jb0 co bv
     rw[de.out] at cq
     rw[de.out]
     obtain⟨eb,fq⟩:=hid2 bs cq
     clear bs cq cp bv co fp
     go_wp2_with fail
     refine fq.out.mono ?_
     rintro e wg ⟨rfl,q9,rfl⟩
     have ec:Step w6 ea (w6.drewN q9) ea nil:=(Step.refl _ _ _).drews q9
     have am:=(Qiv (eb.out.trans (ec.mono (T:=AnyTag) (fun _ h=>h.elim)))).below
     have bw:=Z2 am
     clear am ec
     go_wp2_with fail
     go_ret
     exact⟨rfl,bw.out⟩
end Go.Proofs.YtemacanaihaldaaGreat
namespace Go.Proofs.YtemacanaihaldaaGreat.lawRoom
open Go.ChangeShapes Go.WideShapes Go.ChangeAt Go.RowKit Go.Deep ArgsQ
theorem own:ownKnob Tryz.prog.godebug=none:=by kernel_rfl
theorem Qq9:laidOutB Tryz.prog=true:=by kernel_rfl
section
variable {H : Type} {P : Program} {enc : TypeId × Value -> H} {w : World} {base : Nat} {spare : Nat -> Bool} {held : Bool}
theorem Jc6 {t:TypeId}{ts:List TypeId}{v:Value}{b:List Value}{d:DataW H}{e:List (DataW H)}{p q:List MemPlace}(h:DataW.Trod enc P w base spare held t v d p) (i:DataW.TrodAll enc P w base spare held ts b e q):DataW.TrodAll enc P w base spare held (t::ts) (v::b) (d::e) (p++q):=⟨p,q,h,i,rfl⟩
end
theorem Jas (os:Os) (started:os.Started) (H:Type) (enc:TypeId×Value->H) :
 ReturnsInHanded {} Tryz.checked os 4 .any (Rows.txnRoomSpec.pre6 enc Tryz.prog Tryz.f4 Rows.txnRoomRow.domain false) (Rows.txnRoomSpec.post enc Tryz.prog Tryz.f4 false true false false):=by
 refine returnsInHanded_of_change (C:=Tryz.checked) own started (by kernel_rfl) Tryz.func4
  (ChangeSpec.witness6 (enc:=enc) (C:=Tryz.checked) false ⟨#[],#[.int .u8 0,.int .u8 0,.int .u8 0,.slice none 0 0,.int .u8 0],[]⟩ 8 (by kernel_rfl) (by kernel_rfl) (by kernel_rfl) (by kernel_rfl)) ?_
 intro W base args U gs before d hW hcnd _
 have b:∀(j:Nat) t v,Tryz.f4.params[j]?=some t->args[j]?=some v->Value.okWide Tryz.prog W .any base t v:=d
 have h:=hW
 obtain⟨p,q,l,X,rfl,hfz,hnd⟩:=hW
 have L:DataW.TrodAll enc Tryz.prog W 0 (fun _=>true) true Tryz.f4.params.toList args.toList U p:=l
 rw[Tryz.params4] at L b
 obtain⟨v0,Y,v2,v3,v4,d0,d1,d2,d3,d4,p0,p1,p2,M,p4,rfl,rfl,rfl,h0,h1,h2,N,Z⟩:=Jb7 L
 obtain⟨rfl,rfl⟩:=trodVars_none X
 obtain⟨n0,rfl,rfl,rfl,m⟩:=open_int Tryz.underlying5 (b 0 5 v0 rfl rfl) h0
 obtain⟨n1,rfl,rfl,rfl,o⟩:=open_int Tryz.underlying5 (b 1 5 Y rfl rfl) h1
 obtain⟨O,rfl,rfl,rfl,r⟩:=open_int Tryz.underlying5 (b 2 5 v2 rfl rfl) h2
 obtain⟨b3,s,y,rfl,i,k⟩:=Qk6 (b 3 56 v3 rfl rfl) N
 obtain⟨n4,rfl,rfl,rfl,z⟩:=open_int Tryz.underlying5 (b 4 5 v4 rfl rfl) Z
 clear l d
 simp only[List.append_nil,List.nil_append,X0] at h
 have B:∀x∈M,x.block<W.heap.size:=fun x D=>h.lt x (by simp[D])
 have E:=Qiu m
 have F:=Qiu o
 have G:=Qiu r
 have I:=Qiu z
 obtain⟨n0,rfl⟩:=Int.eq_ofNat_of_zero_le E.1
 obtain⟨n1,rfl⟩:=Int.eq_ofNat_of_zero_le F.1
 obtain⟨O,rfl⟩:=Int.eq_ofNat_of_zero_le G.1
 obtain⟨n4,rfl⟩:=Int.eq_ofNat_of_zero_le I.1
 refine(Jig W n0 n1 O n4 (by omega) (by omega) (by omega) (by omega) b3 s y i k).mono fun e W' ⟨he,R⟩=>?_
 subst he
 exact⟨_,rfl,Qnp (pa:=(M++([]:List MemPlace):List MemPlace)) (pv:=[]) h (fun _ _ _=>trodAll_mk1 (shut_bool Tryz.underlying4 _))
  (fun sp J=>Jc6 (p:=[]) (shut_int Tryz.underlying5 m) (Jc6 (p:=[]) (shut_int Tryz.underlying5 o) (Jc6 (p:=[]) (shut_int Tryz.underlying5 r) (Jc6 (WideElems.Trod_stays Qq9 (by kernel_rfl) (of_decide_eq_true (by kernel_rfl)) N (fun x D=>R.same (B x D)) (fun x D=>J x (by simp[D]))) (trodAll_mk1 (shut_int Tryz.underlying5 z))))))
  (fun _ _=>rfl) (by simp) R (ok_one (by kernel_rfl) rfl (okWide_bool_mk Tryz.underlying4 _))⟩
theorem named:Tryz.pinned.checked.prog.funcNamed Rows.txnRoomRow.func=some 4 := by kernel_rfl
theorem facts:joinedFacts Tryz.pinned.checked.prog 4 Tryz.f4 Rows.txnRoomSpec Rows.txnRoomRow=true:=by kernel_rfl
theorem inst:Tryz.f4.isInstance Tryz.pinned.checked.prog Rows.txnRoomRow.origin Rows.txnRoomRow.targs:=of_decide_eq_true (by kernel_rfl)
theorem wrap:Tryz.f4.isWrapper Tryz.pinned.checked.prog Rows.txnRoomRow.wrapper Rows.txnRoomRow.mainSum:=by
 unfold Func.isWrapper;first|(rw[if_pos (by decide +kernel)];kernel_rfl)|(rw[if_neg (by decide +kernel)];exact⟨rfl,rfl⟩)
theorem holds:Rows.TxnRoomSaid :=
 OpenClaim.holds_of_wide 4 Tryz.f4 rfl rfl rfl rfl rfl rfl rfl ⟨rfl,rfl,rfl,rfl,rfl⟩ rfl rfl rfl rfl rfl named Tryz.func4 facts inst wrap
  (fun os started H enc _=>Jas os started H enc)
#print axioms holds
end Go.Proofs.YtemacanaihaldaaGreat.lawRoom