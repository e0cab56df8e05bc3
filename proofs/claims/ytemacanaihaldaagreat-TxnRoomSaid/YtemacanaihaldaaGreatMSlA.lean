/-
 All slots of all pages (slots of the laws of transactions),two such rows compared.
-/
import Derived.Test.YtemacanaihaldaaGreatMTxL
import Derived.Test.YtemacanaihaldaaGreatMR8
set_option maxRecDepth 100000
set_option maxHeartbeats 4000000
set_option linter.all false
namespace Go.Proofs.YtemacanaihaldaaGreat
variable {w:World}{τ:Tags}
open Go.RowKit
def NewNB (w:World) (τ:Tags) (g:Tag) (l:List Int) (e:Ending) (w':World):Prop:=∃u τ',e = .returned u/\NB w.heap.size w' τ' g u l/\Ext w τ τ'/\Mod w w' no
theorem Qx9 {g:Tag} {v:Value} {l:List Int}(h:Bytes w τ g v l) (y:Tag) (e:l.length<=100000000) :
 Calls Tryz.prog 118 #[v] w (NewNB w τ y l):=by
 have R:=h.isB
 obtain⟨p,c,rfl,h1,h2,M⟩:=h.is
 obtain⟨_,i⟩:=h.news
 cases p with
 | none =>
   have hl:l=[]:=by
    cases l with
    | nil=>rfl
    | cons x r=>obtain⟨b,o,s,_⟩:=M (by simp);cases s
   subst hl
   have z:=fun (W:World) (a:Option Addr) (n c:Nat)=>Lib.run_eql_slice_nil (P:=Tryz.prog) W 37 5 a n c 0 0 Tryz.underlying37
   clear e
   go_enter Tryz.func118,Tryz.ntmps118
   go_wp2
   go_ret
   exact⟨_,τ,rfl,NB.nil _ _ _ _,Ext.refl _ _,Mod.refl _ _⟩
 | some a =>
   obtain⟨i0,hi,F,G,I⟩:=info_parts Tryz.infoU8
   have m:Buf (w.alloc (.cells #[] 5)) (τ.put w.heap.size y) y 5 1 (.slice (some ⟨w.heap.size,0,none⟩) 0 0) 0 [] :=
    ⟨rfl,.inr ⟨w.heap.size,0,[],rfl,Own.new w τ y _ [],Z0 _,Z0 _,Z9 _⟩⟩
   have N:Mod w (w.alloc (.cells #[] 5)) no:=(Mod.refl _ _).alloc _
   have d:∀B,some a=some B->∀j u,(u8s l)[j]?=some u->(w.alloc (.cells #[] 5)).cell? (B.add j)=some u:=by
    intro B had j u hu
    have C:=i B had j u hu
    have J:B.block<w.heap.size:=by
     have:=World.block_lt_of_cell? w _ C
     unfold Addr.add at this;split at this <;> exact this
    rw[<-C]
    exact World.cell?_of_block (w:=w) (Below.heap_alloc _ _ _ (by unfold Addr.add;split <;> exact J))
   obtain⟨U,X,Y⟩:=hid3 d m N
   have z:=fun (W:World) (a:Option Addr) (n c:Nat)=>Lib.run_eql_slice_nil (P:=Tryz.prog) W 37 5 a n c 0 0 Tryz.underlying37
   have q:=Z2 e
   clear i d m N M h e
   go_enter Tryz.func118,Tryz.ntmps118
   go_wp2_with (at_builtin;refine Qe0 _ _ y rfl _ _ 37 rfl 5 i0 (.int .u8 0) 1 1 Tryz.underlying37 hi F G I rfl (by decide) (.slice (some ⟨w.heap.size,0,none⟩) 0 0) 0 [] rfl X.out (some a) l.length c (u8s l) rfl (by rw[Qac,Nat.mul_one]) (by intro C;cases C) U.out (Qkd l) (by have:=q.out;unfold maxLen;omega) (by have:=q.out;omega) ?_;intro v' w' L s O D E;obtain⟨Z,E1,M1,N1⟩:=hid4 s O D E;clear s O D E)
   go_ret
   have s:=Z.out
   rw[Nat.zero_add,List.nil_append] at s
   refine⟨_,L,rfl,⟨s,R,fun k hk=>?_⟩,Ext.trans ((Ext.refl w τ).put _ y (Z0 _)) E1.out (by simp),Y.out.seq M1.out (fun k hk hS=>?_)⟩
   ·rcases N1.out k hk with h|h
    ·have:w.heap.size=k:=by simpa [Value.ownBlock] using h
     omega
    ·have:(w.alloc (.cells #[] 5)).heap.size=w.heap.size+1:=World.size_alloc _ _
     omega
   ·have C:w.heap.size=k:=by simpa [Value.ownBlock] using hS
    omega
theorem Qk0 {g:Tag} {b:Nat} {P:List Int}(h:PageAt w τ g b P) (i:Fit P) (s:Nat) (D:s<1000000) (x:Tag) :
 Calls Tryz.prog 78 #[.pointer (some ⟨b,0,none⟩),.int .i64 (s:Int)] w fun e y=>∃u j,e = .returned (.tuple #[u,.bool (decide (0<(pData P s).length))])/\NB w.heap.size y j x u (pData P s)/\Step w τ y j nil:=by
 have h1:=Qbx h i s D
 have d:=Qbm i h.len s
 have hle:=i.ends s
 have k:=fun (o:Nat) (p:0<pLen P s->o=pOff P s)=>Qx9 (h.data i s o p) x (by rw[d];omega)
 rw[d]
 generalize pData P s=l at *
 generalize pLen P s=n at *
 have m:decide (0<(n:Int))=decide (0<n):=by by_cases hn:0<n <;> simp[hn]
 obtain⟨E,q,Hlen⟩:=hid3 h1 k d
 clear h1 k d h i
 go_enter Tryz.func78,Tryz.ntmps78
 go_wp2_with fail
 refine E.out.mono ?_
 rintro e w1 ⟨o,rfl,p,rfl⟩
 have h2:=q.out o p
 have F:=Z2 h2
 clear h2 p
 go_wp2_with fail
 refine F.out.mono ?_
 rintro e w2 ⟨u,r,rfl,z,B,C⟩
 obtain⟨G,I,J⟩:=hid3 z B C
 clear z B C
 go_wp2_with fail
 go_returns
 exact⟨u,r,by first|rfl|rw[m]|simp,G.out,Step.of nil J.out I.out⟩
theorem Jb0 {g g2:Tag} {n0 m0:Nat} {v u:Value} {l:List (List Int)}(h:NV n0 w τ g v l) (k:NV m0 w τ g2 u l) :
 Calls Tryz.prog 32 #[v,u] w fun e E=>e = .returned (.bool true)/\∃q,E=w.drewN q:=by
 obtain⟨p,c,rfl,h1,B⟩:=h.read
 obtain⟨p2,d,rfl,-,C⟩:=k.read
 generalize hn:l.length=n at *
 have hmx:n<=9223372036854775807:=by unfold maxLen at h1;omega
 obtain⟨F,r,Hn⟩:=hid3 B C hn
 clear B C hn h1 h k
 go_enter Tryz.func32,Tryz.ntmps32
 go_wp2_with fail
 go_loopw [5] (fun v wr=>∃i q:Nat,i<=n/\v = .int .i64 (i:Int)/\wr=w.drewN q) (fun v _=>n-(intOf v).toNat)
 case atStart=>exact⟨0,0,Z9 _,rfl,rfl⟩
 case round =>
  obtain⟨i,q,hi,rfl,j⟩:=hrel
  by_cases s:i<n
  ·obtain⟨b,u1,rfl,D,z⟩:=F.out i s
   obtain⟨G,u2,rfl,y,m⟩:=r.out i s
   obtain⟨I,J,rfl,-,-⟩:=z.any
   obtain⟨L,M,rfl,-,-⟩:=m.any
   have ci':wr.cell? ⟨b,i,none⟩=some (.slice I (l.getD i []).length J):=by rw[j];exact D
   have di':wr.cell? ⟨G,i,none⟩=some (.slice L (l.getD i []).length M):=by rw[j];exact y
   have k1:=fun n=>(z.step (show Step w τ (wr.drewN n) τ nil by rw[j];exact((Step.refl w τ nil).drews q).drews n) (fun h=>h)).conv
   have k2:=fun n=>(m.step (show Step w τ (wr.drewN n) τ nil by rw[j];exact((Step.refl w τ nil).drews q).drews n) (fun h=>h)).conv
   have hin:(i:Int)<(n:Int):=by omega
   generalize N:l.getD i []=x at *
   generalize toU8 x=xs at *
   generalize x.length=nx at *
   have o:=Z2 j
   clear j D y z m N
   go_wp2_with fail
   go_quiet (fail)
   go_wp2_with fail
   go_round
   case rel=>exact⟨i+1,q+nq,by omega,by simp,by rw[o.out,World.drewN_drewN]⟩
   case measure=>simp[intOf];omega
  ·obtain rfl:i=n:=by omega
   have o:=Z2 j
   clear j
   go_wp2_with fail
   go_ret
   exact⟨rfl,q,o.out⟩
def Jb2 (l:List Int):List Int:=if l=[] then [] else l++[1]
def Qbi (V:SlotV) (n:Nat) (s:Nat):List (List Int):=(List.range s).map (fun t=>Jb2 (V n t))
def Qbw (V:SlotV) (i:Nat):List (List Int):=(List.range i).flatMap (fun n=>Qbi V n 12)
theorem Qnu (V:SlotV) (n s:Nat):Qbi V n (s+1)=Qbi V n s++[Jb2 (V n s)]:=by simp[Qbi,List.range_succ]
theorem Qgr (V:SlotV) (i:Nat):Qbw V (i+1)=Qbw V i++Qbi V i 12:=by simp[Qbw,List.range_succ]
theorem Qi6 (V:SlotV) (n s:Nat):(Qbi V n s).length=s:=by simp[Qbi]
theorem Qc3 (V:SlotV) (i:Nat):(Qbw V i).length=12*i:=by
 induction i with
 | zero=>rfl
 | succ i ih=>rw[Qgr,Z6,ih,Qi6];omega
def tSlR (j:Nat):Tag:=(320,j)
theorem Qfy (j:Nat):¬PWTag (tSlR j)/\¬Qai (tSlR j)/\tSlR j≠tData/\¬TyTag (tSlR j):=by
 have h1:¬PWTag (tSlR j):=by
  rintro(h|h|h)
  ·rcases h with h|h|h|h|⟨i,h⟩ <;> simp[tSlR,tPool,tFr,tWhere,tClk,tPg] at h
  ·rcases h with h|h|h <;> simp[tSlR,tLog,Qah,Qag] at h
  ·rcases h with h|h|h|h <;> simp[tSlR] at h
 have h2:¬Qai (tSlR j):=by simp[Qai,tSlR]
 refine⟨h1,h2,by simp[tSlR,tData],?_⟩
 rintro((h|h|h)|h)
 ·exact h1 h
 ·exact h2 h
 ·simp[tSlR] at h
 ·rcases h with h|h|h <;> simp[tSlR] at h
theorem Qkg:¬TyTag tData:=by
 rintro((h|h|h)|h)
 ·exact Qhd h
 ·simp[Qai,tData] at h
 ·simp[tData] at h
 ·rcases h with h|h|h <;> simp[tData] at h
theorem Qov (j:Nat):¬TyTag (tSlR j):=(Qfy j).2.2.2
theorem Qwv (w:World) (τ:Tags):Bytes (w.alloc (.cells #[.int .u8 1] 5)) τ (τ w.heap.size) (.slice (some ⟨w.heap.size,0,none⟩) 1 1) [1] :=
 ⟨fun x b=>by rw[Y8 b];omega,some ⟨w.heap.size,0,none⟩,1,rfl,Z0 _,by unfold maxLen;omega,fun _=>⟨w.heap.size,0,rfl,rfl,fun i hi=>by
  have:i=0:=by simpa using hi
  subst this
  exact(Own.born w τ (τ w.heap.size) 5 #[.int .u8 1]).cell 0⟩⟩
def Ja5 (w:World) (τ:Tags) (I:Ids) (bo:Nat->Nat) (X:List OneP) (next:Nat) (R:List RecP) (V:SlotV) (st j:Nat) (e:Ending) (w':World):Prop :=
 ∃v τ',e = .returned v/\NV w.heap.size w' τ' (tSlR j) v (Qbw V I.N)/\TZ w' τ' I bo X next R V (st+I.N)/\Step w τ w' τ' TyTag
theorem Qrx {I:Ids} {bo:Nat->Nat} {X:List OneP} {next:Nat} {R:List RecP} {V:SlotV} {st:Nat}(h:TZ w τ I bo X next R V st) (hst:st+I.N<=1000000) (hN:I.N<=512) (j:Nat) :
 Calls Tryz.prog 21 #[.pointer (some ⟨I.bm,0,none⟩)] w (Ja5 w τ I bo X next R V st j):=by
 have hj:=Qfy j
 obtain⟨bc,Hj⟩:=hid2 h hj
 clear h hj
 go_enter Tryz.func21,Tryz.ntmps21
 go_wp2_with fail
 go_loopw [3,4] (fun o v wr=>∃(i:Nat) (U:Tags),i<=I.N/\v = .int .i64 (i:Int)/\NV w.heap.size wr U (tSlR j) o (Qbw V i)/\TZ wr U I bo X next R V (st+i)/\Step w τ wr U TyTag) (fun _ v _=>I.N-(intOf v).toNat)
 case atStart=>exact⟨0,τ,Z9 _,rfl,NV.nil _ _ _ _,bc.out,Step.refl _ _ _⟩
 case round =>
  obtain⟨i,U,hi,rfl,r,hz,hs⟩:=hrel
  obtain⟨H,L,D,F,s,bg,h1,h2,h3,h4,h5⟩:=hz.is
  have ad:=Qhg h1.mgr
  have Y:=Qk2 h1.pool.pool
  have Z:((H.n:Nat):Int)=(I.N:Int):=by rw[h1.hn]
  rw[Z] at Y
  obtain⟨p,c,rfl⟩:=r.val
  by_cases ae:i<I.N
  ·have hlt':(i:Int)<(I.N:Int):=by omega
   have hconv:IntKind.u32.wrap (i:Int)=(i:Int):=by simp[IntKind.wrap,IntKind.bits,IntKind.signed];omega
   have am:=Qr0 h1 (by omega) i ae
   obtain⟨nr,x⟩:∃nr,(Qbw V i).length=nr:=⟨_,rfl⟩
   rw[x] at r ⊢
   obtain⟨ax,Hz,Hs,H1,H2,H3,H4,H5,af,ay,bi,co⟩:=hid12 r hz hs h1 h2 h3 h4 h5 ad Y am Z
   have cp:=Z2 x
   clear r hz hs h1 h2 h3 h4 h5 ad Y am Z x
   go_wp2_with fail
   refine af.out.mono ?_
   rintro e w1 ⟨rfl,rfl⟩
   go_wp2_with fail
   refine ay.out.mono ?_
   rintro e w1 ⟨rfl,rfl⟩
   go_wp2_with fail
   refine af.out.mono ?_
   rintro e w1 ⟨rfl,rfl⟩
   go_wp2_with fail
   refine bi.out.mono ?_
   rintro e w1 ⟨b,rfl,τ1,H',L1,D1,F1,s1,i1,f,bj,hst1,bk,ag⟩
   have an:=ax.out.step ag (Qfy j).1 Qhd
   have a1:Step w τ w1 τ1 TyTag:=Hs.out.trans (ag.mono (fun _ h=>.inl (.inl h)))
   have bn:=Z2 an
   have az:=Z2 a1
   obtain⟨cr,bq,Hs1⟩:=hid3 bj bk ag
   clear an a1 bj bk ag
   go_wp2_with fail
   go_loopw [3,7] (fun o v wr=>∃(q:Nat) (M:Tags),q<=12/\v = .int .i64 (q:Int)/\NV w.heap.size wr M (tSlR j) o (Qbw V i++Qbi V i q)/\TG wr M I.bm I.bl I.bp I.bf I.bd I.N bo X next H' L1 D1 F1 s1 bg i i1 b f/\Step w τ wr M TyTag) (fun _ v _=>12-(intOf v).toNat)
   case atStart=>exact⟨0,τ1,Z9 _,rfl,by rw[show Qbi V i 0=[] from rfl,List.append_nil];exact bn.out,cr.out,az.out⟩
   case round =>
    obtain⟨q,M,hq,rfl,y,z,ah⟩:=hrel
    obtain⟨pq,cq,rfl⟩:=y.val
    by_cases hlt12:q<12
    ·have hltq:(q:Int)<12:=by omega
     have b0:=(H1.out.good.page i ae).1
     have ai:=Qk0 z.page b0.tidy.lies.fit q (by omega) tData
     rw[(H5.out i ae).2 q] at ai
     obtain⟨B,hB⟩:∃B,decide (0<(V i q).length)=B:=⟨_,rfl⟩
     rw[hB] at ai
     have ao:Qbi V i (q+1)=Qbi V i q++[Jb2 (V i q)]:=Qnu V i q
     have br:(Qbw V i++Qbi V i q).length<=1000000000:=by rw[Z6,Qc3,Qi6];omega
     obtain⟨nq,d⟩:∃nq,(Qbw V i++Qbi V i q).length=nq:=⟨_,rfl⟩
     rw[d] at y ⊢
     obtain⟨aj,b1,ak,ct,HB,ap,bs⟩:=hid7 y z ah ai hB ao br
     have bv:=Z2 d
     have Hsd:=Z2 b0
     clear y z ah ai hB ao br d b0
     go_wp2_with fail
     refine ct.out.mono ?_
     rintro e w2 ⟨u,bw,rfl,hu,C⟩
     cases B with
     | true =>
       have E:V i q≠[]:=fun e=>by have:=HB.out;rw[e] at this;simp at this
       have O:Jb2 (V i q)=V i q++[1]:=if_neg E
       obtain⟨pu,cu,rfl⟩:=hu.val
       obtain⟨lu,G⟩:∃lu,(V i q).length=lu:=⟨_,rfl⟩
       have aq:(V i q).length<=4:=(bc.out.slot4 ae q).1
       rw[G] at hu ⊢
       obtain⟨Hu,c4,c5,cv,c6,cw⟩:=hid6 hu C O G aq E
       clear hu C O G aq E
       go_upto_region 14 with (at_builtin;go_loud (refine Qal (c4.out.alloc' _) (Hu.out.alloc _) (Qwv w2 bw) (by have:=c6.out;show _+1<=_;omega) rfl _ _ rfl rfl rfl ?_;intro v3 w3 cx b2 c7 c8;obtain⟨p3,c3,rfl⟩:=b2.val;clear c8;obtain⟨cy,b3⟩:=hid2 b2 c7;clear b2 c7))
       have k:=aj.out.step b3.out (fun h=>h) (fun h=>h)
       have l:=ak.out.trans (b3.out.mono (T:=TyTag) (fun _ h=>h.elim))
       have a6:=b1.out.step b3.out (fun g h=>h.elim)
       have J:Bytes w3 cx tData (.slice p3 (V i q++[1]).length c3) (Jb2 (V i q)):=by rw[c5.out];exact cy.out.bytes
       obtain⟨l3,al⟩:∃l3,(V i q).length+1=l3:=⟨_,rfl⟩
       rw[Z6,List.length_singleton,al] at J
       rw[al]
       obtain⟨a7,a8,b4,b5,Hl3⟩:=hid5 k l a6 J al
       clear k l a6 J al
       go_wp2_with (at_builtin;go_loud (refine Qcv a8.out (Qfy j).2.2.1 a7.out b5.out bs.out rfl rfl _ _ rfl rfl rfl ?_;intro v4 w4 b6 aa ab m;obtain⟨b7,b8⟩:=hid2 aa ab;have ac:=Z2 m;clear aa ab m))
       go_round
       case rel=>exact⟨q+1,b6,by omega,by simp,by rw[ap.out,<-X0];exact b7.out,b4.out.step ac.out (fun g h=>by subst h;exact⟨(Qfy j).1,(Qfy j).2.1,(Qfy j).2.2.1⟩),b8.out⟩
       case measure=>simp[intOf];omega
     | false =>
       have E:V i q=[]:=by
        have:=of_decide_eq_false HB.out
        exact List.eq_nil_of_length_eq_zero (by omega)
       have O:Jb2 (V i q)=V i q:=by rw[E];rfl
       obtain⟨pu,cu,rfl⟩:=hu.val
       obtain⟨lu,G⟩:∃lu,(V i q).length=lu:=⟨_,rfl⟩
       have k:=aj.out.step C (fun h=>h) (fun h=>h)
       have l:=ak.out.trans (C.mono (T:=TyTag) (fun _ h=>h.elim))
       have a6:=b1.out.step C (fun g h=>h.elim)
       have J:Bytes w2 bw tData (.slice pu (V i q).length cu) (Jb2 (V i q)):=by rw[O];exact hu.bytes
       rw[G] at J ⊢
       obtain⟨a7,a8,b4,b5,cv,c5,Hu,c4,cw⟩:=hid9 k l a6 J G O hu C E
       clear k l a6 J G O hu C E
       go_wp2_with (at_builtin;go_loud (refine Qcv a8.out (Qfy j).2.2.1 a7.out b5.out bs.out rfl rfl _ _ rfl rfl rfl ?_;intro v4 w4 b6 aa ab m;obtain⟨b7,b8⟩:=hid2 aa ab;have ac:=Z2 m;clear aa ab m))
       go_round
       case rel=>exact⟨q+1,b6,by omega,by simp,by rw[ap.out,<-X0];exact b7.out,b4.out.step ac.out (fun g h=>by subst h;exact⟨(Qfy j).1,(Qfy j).2.1,(Qfy j).2.2.1⟩),b8.out⟩
       case measure=>simp[intOf];omega
    ·have c9:q=12:=by omega
     subst c9
     have ar:=Qhg z.mgr
     have av:=Qrz z (by omega)
     have ca:Qbw V (i+1)=Qbw V i++Qbi V i 12:=Qgr V i
     obtain⟨nq,d⟩:∃nq,(Qbw V i++Qbi V i 12).length=nq:=⟨_,rfl⟩
     rw[d] at y ⊢
     obtain⟨aj,b1,ak,cb,cc,cz⟩:=hid6 y z ah ar av ca
     have bv:=Z2 d
     clear y z ah ar av ca d
     go_wp2_with fail
     refine cb.out.mono ?_
     rintro e w' ⟨rfl,rfl⟩
     go_wp2_with fail
     refine cc.out.mono ?_
     rintro e w5 ⟨rfl,s5,cd,b9⟩
     have ce:TZ w5 M I bo X next R V (st+(i+1)):=⟨⟨H',L1,D1,F1,s5,bg,cd,H2.out.same bq.out,by rw[bq.out.strips];exact H3.out,by have:=H4.out;omega,H5.out⟩⟩
     have cf:=aj.out.step b9 (Qfy j).1 Qhd
     have aw:=ak.out.trans (b9.mono (T:=TyTag) (fun _ h=>.inl (.inl h)))
     obtain⟨da,db,cg⟩:=hid3 ce cf aw
     clear ce cf aw b9 cd
     go_wp2_with fail
     go_round
     case rel=>exact⟨i+1,M,by omega,by simp,by rw[cz.out];exact db.out,da.out,cg.out⟩
     case measure=>simp[intOf];omega
  ·obtain rfl:i=I.N:=by omega
   obtain⟨nr,x⟩:∃nr,(Qbw V I.N).length=nr:=⟨_,rfl⟩
   rw[x] at r ⊢
   obtain⟨ax,Hz,Hs,H1,H2,H3,H4,H5,af,ay,co,cp⟩:=hid12 r hz hs h1 h2 h3 h4 h5 ad Y Z x
   clear r hz hs h1 h2 h3 h4 h5 ad Y Z x
   go_wp2_with fail
   refine af.out.mono ?_
   rintro e w1 ⟨rfl,rfl⟩
   go_wp2_with fail
   refine ay.out.mono ?_
   rintro e w1 ⟨rfl,rfl⟩
   go_wp2_with fail
   go_returns
   exact⟨_,U,rfl,ax.out,Hz.out,Hs.out⟩
