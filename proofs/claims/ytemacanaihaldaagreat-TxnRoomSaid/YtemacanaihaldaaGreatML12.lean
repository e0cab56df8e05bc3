/-
 A log and a pool,and the document's: Alike where no page is at hand.
-/
import Derived.Test.YtemacanaihaldaaGreatMR12C
import Derived.LaidEqlPtr
set_option maxRecDepth 100000
set_option maxHeartbeats 8000000
set_option linter.all false
namespace Go.Proofs.YtemacanaihaldaaGreat
open Go.RowKit
def tTwoW:Tag:=(70,0)
structure TwoH where
 bd:Nat
 be:Nat
 bl:Nat
 br:Nat
 bp:Nat
 bq:Nat
 n:Nat
 k:Nat
def TwoH.cells (T:TwoH):List Value:=[.pointer (some ⟨T.bd,0,none⟩),.pointer (some ⟨T.be,0,none⟩),.pointer (some ⟨T.bl,0,none⟩),.pointer (some ⟨T.br,0,none⟩),.pointer (some ⟨T.bp,0,none⟩),.pointer (some ⟨T.bq,0,none⟩),.int .i64 (T.n:Int),.int .i64 (T.k:Int)]
structure TwoW (w:World) (τ:Tags) (bt bf:Nat) (T:TwoH) (H:PoolH) (HR:RPoolH) (L:LogM) (D:Dev) (s:Ck.Clk.St):Prop where
 two:Own w τ bt tTwoW 97 T.cells
 log:LogAt w τ T.bl T.bd L
 rlog:RLogAt w τ T.br T.be L
 dev:DevAt w τ T.bd D
 rdev:RDevAt w τ T.be D
 pool:PoolAt w τ T.bp bf H (List.replicate T.k Fr.no) s
 rpool:RPoolAt0 w τ T.bq HR T.k
 hl:H.bl=T.bl
 hn:H.n=T.n
 k0:0<T.k/\T.k<=64
theorem TwoW.step {w d:World}{τ b:Tags}{bt bf:Nat}{T:TwoH}{H:PoolH}{e:RPoolH}{L:LogM}{D:Dev}{s:Ck.Clk.St}(h:TwoW w τ bt bf T H e L D s) (m:Step w τ d b nil):TwoW d b bt bf T H e L D s :=
 ⟨h.two.step m (fun h=>h),h.log.step m (fun _ _ h=>h),h.rlog.step m (fun _ _ h=>h),h.dev.step m (fun _ h=>h.elim),h.rdev.step m (fun _ h=>h.elim),h.pool.step m (fun _ _ h=>h),h.rpool.step m (fun _ _ h=>h),h.hl,h.hn,h.k0⟩
theorem Qti (w:World):Calls Tryz.prog 109 #[.bool true] w fun e b=>e = .returned (.int .i64 1)/\w=b:=by
 go_enter Tryz.func109,Tryz.ntmps109
 go_wp2_with fail
 go_ret
 exact⟨rfl,rfl⟩
theorem Qva {w:World}{τ:Tags}{g:Tag}{b n:Nat}{l:List Int}(h:Own w τ b g 3 (i64z l)) (hn:l.length=n) (d:n<=maxLen):IntsZ w τ g (.slice (some ⟨b,0,none⟩) n n) l:=by
 subst hn
 exact⟨by rw[Qfq,Nat.mul_one],.inr ⟨b,l.length,[],rfl,by simpa using h,by rw[Qfq];simp,Z0 _,d⟩⟩
theorem Tryz.infoLog:(Tryz.prog.info? 118).isSome=true:=by kernel_rfl
theorem Qz1 (W:World) (a:Addr):(binOp .eql 29 (.pointer (some a)) (.pointer (some a))).run Tryz.prog W = .ok (.bool true) W:=by
 obtain⟨j,b⟩:=Option.isSome_iff_exists.1 Tryz.infoLog
 exact run_eql_ptr_same W a Tryz.underlying29 b
theorem Qz4 {w:World}{τ:Tags}{bt bf:Nat}{T:TwoH}{H:PoolH}{HR:RPoolH}{L:LogM}{D:Dev}{s:Ck.Clk.St}(h:TwoW w τ bt bf T H HR L D s) :
 Calls Tryz.prog 112 #[.pointer (some ⟨bt,0,none⟩)] w fun e d=>e = .returned (.int .i64 1)/\∃b3,Step w τ d b3 nil:=by
 have c2:=h.two.at 2 (v:=.pointer (some ⟨T.bl,0,none⟩)) rfl
 have c3:=h.two.at 3 (v:=.pointer (some ⟨T.br,0,none⟩)) rfl
 have h1:=Qyg h.log
 have h2:=Jal h.rlog
 have h3:=Ql3 h.log
 generalize hB:L.base=B at h1 h2
 generalize hE:L.base+L.stream.length=E at h3
 have ae:(List.replicate T.k Fr.no).map Fr.at=List.replicate T.k (-1):=by rw[List.map_replicate];rfl
 have af:∀f∈List.replicate T.k Fr.no,f.first=0:=fun f hf=>by rw[(List.mem_replicate.1 hf).2];rfl
 have ag:T.k<=maxLen:=by have:=h.k0;unfold maxLen;omega
 obtain⟨b5,H1,H2,H3,HB,HE,b7,b8⟩:=hid8 h h1 h2 h3 hB hE ae af
 clear h h1 h2 h3 hB hE ae af
 go_enter Tryz.func112,Tryz.ntmps112
 go_wp2_with fail
 refine H1.out.mono ?_
 rintro e d ⟨rfl,rfl⟩
 go_wp2_with fail
 refine H2.out.mono ?_
 rintro e d ⟨rfl,rfl⟩
 go_wp2_with fail
 refine H3.out.mono ?_
 rintro e w1 ⟨rfl,M⟩
 have N:=b5.out.step M
 have h4:=r8end N.rlog
 rw[HE.out] at h4
 obtain⟨H4,ba⟩:=hid2 h4 M
 clear h4 M
 go_wp2_with fail
 refine H4.out.mono ?_
 rintro e w2 ⟨rfl,O⟩
 have R:=N.step O
 have h5:=Qwp R.log
 generalize ah:L.base+L.lasts=LA at h5
 obtain⟨H5,bc,bg⟩:=hid3 h5 O ah
 clear h5 O ah
 go_wp2_with fail
 refine H5.out.mono ?_
 rintro e w3 ⟨rfl,U⟩
 have X:=R.step U
 have h6:=Qy9 X.rlog
 rw[bg.out] at h6
 obtain⟨H6,bi⟩:=hid2 h6 U
 clear h6 U N R
 go_wp2_with fail
 refine H6.out.mono ?_
 rintro e w4 ⟨rfl,Y⟩
 have i:=X.step Y
 have h7:=Qwb i.log
 have h8:=Qza i.rlog
 have ai:=Qw6 (i.step (Step.refl w4 τ nil).drew).dev (i.step (Step.refl w4 τ nil).drew).rdev
 have d0:=i.two.at 0 (v:=.pointer (some ⟨T.bd,0,none⟩)) rfl
 have d1:=i.two.at 1 (v:=.pointer (some ⟨T.be,0,none⟩)) rfl
 have y:=((ba.out.trans bc.out).trans bi.out).trans Y
 generalize L.check=CK at h7 h8
 obtain⟨H7,H8,bn,bo,aj⟩:=hid5 h7 h8 i ai y
 clear h7 h8 i ai y X Y
 go_wp2_with fail
 refine H7.out.mono ?_
 rintro e d ⟨rfl,rfl⟩
 go_wp2_with fail
 refine H8.out.mono ?_
 rintro e d ⟨rfl,rfl⟩
 go_wp2_with fail
 go_region_held3 (fun d=>d.cell? ⟨bt,0,none⟩=some (.pointer (some ⟨T.bd,0,none⟩))/\d.cell? ⟨bt,1,none⟩=some (.pointer (some ⟨T.be,0,none⟩))) (go_keep) (first
  | (go_at_call 187
     refine bo.out.mono ?_
     rintro e w5 ⟨rfl,ak,Z⟩
     have j:=bn.out.step ((Step.refl w4 τ nil).drew.trans Z)
     have e0:=j.two.at 0 (v:=.pointer (some ⟨T.bd,0,none⟩)) rfl
     have e1:=j.two.at 1 (v:=.pointer (some ⟨T.be,0,none⟩)) rfl
     have e2:=j.two.at 2 (v:=.pointer (some ⟨T.bl,0,none⟩)) rfl
     have e4:=j.two.at 4 (v:=.pointer (some ⟨T.bp,0,none⟩)) rfl
     have e5:=j.two.at 5 (v:=.pointer (some ⟨T.bq,0,none⟩)) rfl
     have e6:=j.two.at 6 (v:=.int .i64 (T.n:Int)) rfl
     have z:=(aj.out.drew).trans Z
     obtain⟨al,am⟩:=hid2 j z
     clear j z
     clear Z))
 go_wp2_with fail
 have p:=Qz3 (al.out.step (Step.refl w5 ak nil).drew).pool
 rw[b7.out,Z7] at p
 generalize a1:List.replicate T.k (-1:Int)=ml at *
 have C:ml.length=T.k:=by rw[<-a1,Z7]
 have an:=Qti
 have heq:=fun W=>Qz1 W ⟨T.bl,0,none⟩
 obtain⟨ao,bs,F,bv⟩:=hid4 p a1 C an
 clear p a1 C an
 go_region_held3 (fun d=>d.cell? ⟨bt,2,none⟩=some (.pointer (some ⟨T.bl,0,none⟩))/\d.cell? ⟨bt,4,none⟩=some (.pointer (some ⟨T.bp,0,none⟩))/\d.cell? ⟨bt,5,none⟩=some (.pointer (some ⟨T.bq,0,none⟩))/\d.cell? ⟨bt,6,none⟩=some (.int .i64 (T.n:Int))) (go_keep) (first
  | (go_at_call 43
     refine ao.out.mono ?_
     rintro e w6 ⟨b6,τ6,rfl,-,ap,aq⟩
     have q:=(Step.refl w5 ak nil).drew.trans aq
     have l:=al.out.step q
     have f2:=l.two.at 2 (v:=.pointer (some ⟨T.bl,0,none⟩)) rfl
     have f4:=l.two.at 4 (v:=.pointer (some ⟨T.bp,0,none⟩)) rfl
     have f5:=l.two.at 5 (v:=.pointer (some ⟨T.bq,0,none⟩)) rfl
     have f6:=l.two.at 6 (v:=.int .i64 (T.n:Int)) rfl
     have ar:=Qva ap F.out ag
     have a6:=r12at l.rpool l.k0.1
     rw[bs.out] at a6
     obtain⟨bw,av,bz,c4⟩:=hid4 l q ar a6
     clear l q ar a6
     clear ap aq)
  | (go_at_call 189
     refine c4.out.mono ?_
     rintro e w7 ⟨v7,a7,rfl,a8,r⟩
     have o:=bw.out.step r
     have g2:=o.two.at 2 (v:=.pointer (some ⟨T.bl,0,none⟩)) rfl
     have g4:=o.two.at 4 (v:=.pointer (some ⟨T.bp,0,none⟩)) rfl
     have g5:=o.two.at 5 (v:=.pointer (some ⟨T.bq,0,none⟩)) rfl
     have g6:=o.two.at 6 (v:=.int .i64 (T.n:Int)) rfl
     have x:=Qo6 (IntsZ.step bz.out r (fun h=>h)) a8
     rw[decide_eq_true rfl] at x
     have G:=av.out.trans r
     obtain⟨p7,k7,rfl,-,-⟩:=a8.read
     rw[F.out] at x ⊢
     obtain⟨c5,aw,c6⟩:=hid3 o G x
     clear o G x
     clear a8 r)
  | (go_at_call 188
     refine c6.out.mono ?_
     rintro e w8 ⟨rfl,q8,ax⟩
     have aa:Step w7 a7 w8 a7 nil:=by rw[ax];exact(Step.refl w7 a7 nil).drews q8
     have m:=c5.out.step aa
     have k2:=m.two.at 2 (v:=.pointer (some ⟨T.bl,0,none⟩)) rfl
     have k4:=m.two.at 4 (v:=.pointer (some ⟨T.bp,0,none⟩)) rfl
     have k5:=m.two.at 5 (v:=.pointer (some ⟨T.bq,0,none⟩)) rfl
     have k6:=m.two.at 6 (v:=.int .i64 (T.n:Int)) rfl
     have ay:=Qty m.pool b8.out
     have I:=aw.out.trans aa
     obtain⟨c7,az,c8⟩:=hid3 m I ay
     clear m I ay
     clear aa ax)
  | (go_at_call 85
     refine c8.out.mono ?_
     rintro e w9 ⟨rfl,c9,ab⟩
     have b:=c7.out.step ab
     have m2:=b.two.at 2 (v:=.pointer (some ⟨T.bl,0,none⟩)) rfl
     have m4:=b.two.at 4 (v:=.pointer (some ⟨T.bp,0,none⟩)) rfl
     have m5:=b.two.at 5 (v:=.pointer (some ⟨T.bq,0,none⟩)) rfl
     have m6:=b.two.at 6 (v:=.int .i64 (T.n:Int)) rfl
     have b0:=Qxc b.rpool b.k0.1
     have b1:=Qne w9
     have ac:=Qk2 b.pool
     rw[b.hn] at ac
     have ad:=Qqt b.pool
     rw[b.hl] at ad
     have J:=az.out.trans ab
     obtain⟨HW9,b2,ca,cb,cc,cd⟩:=hid6 b J b0 b1 ac ad
     clear b J b0 b1 ac ad
     clear ab)
  | (go_at_call 191
     refine ca.out.mono ?_
     rintro e d ⟨rfl,rfl⟩)
  | (go_at_call 190
     refine cb.out.mono ?_
     rintro e d ⟨rfl,rfl⟩)
  | (go_at_call 41
     refine cc.out.mono ?_
     rintro e d ⟨rfl,rfl⟩)
  | (go_at_call 192
     refine cd.out.mono ?_
     rintro e d ⟨rfl,rfl⟩)
  | (go_at_call 109
     refine(bv.out _).mono ?_
     rintro e d ⟨rfl,rfl⟩))
 go_wp2_with fail
 go_ret
 exact⟨rfl,c9,am.out.trans b2.out⟩
