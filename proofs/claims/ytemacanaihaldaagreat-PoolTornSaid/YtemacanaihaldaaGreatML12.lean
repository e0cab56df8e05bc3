/-
 A log and a pool,and the document's: Alike where no page is at hand.
-/
import Derived.Test.YtemacanaihaldaaGreatMR8
import Derived.Test.YtemacanaihaldaaGreatMR12C
import Derived.Test.YtemacanaihaldaaGreatMPoolI
import Derived.LaidEqlPtr
set_option maxRecDepth 100000
set_option maxHeartbeats 8000000
set_option linter.all false
namespace Go.Proofs.YtemacanaihaldaaGreat
open Go.RowKit
def tTwoW:Tag:=(70,0)
structure TwoH where
 bd:Nat
 be:Nat
 bl:Nat
 br:Nat
 bp:Nat
 bq:Nat
 n:Nat
 k:Nat
def TwoH.cells (T:TwoH):List Value:=[.pointer (some ⟨T.bd,0,none⟩),.pointer (some ⟨T.be,0,none⟩),.pointer (some ⟨T.bl,0,none⟩),.pointer (some ⟨T.br,0,none⟩),.pointer (some ⟨T.bp,0,none⟩),.pointer (some ⟨T.bq,0,none⟩),.int .i64 (T.n:Int),.int .i64 (T.k:Int)]
structure TwoW (w:World) (τ:Tags) (bt bf:Nat) (T:TwoH) (H:PoolH) (HR:RPoolH) (L:LogM) (D:Dev) (s:Ck.Clk.St):Prop where
 two:Own w τ bt tTwoW 97 T.cells
 log:LogAt w τ T.bl T.bd L
 rlog:RLogAt w τ T.br T.be L
 dev:DevAt w τ T.bd D
 rdev:RDevAt w τ T.be D
 pool:PoolAt w τ T.bp bf H (List.replicate T.k Fr.no) s
 rpool:RPoolAt0 w τ T.bq HR T.k
 hl:H.bl=T.bl
 hn:H.n=T.n
 k0:0<T.k∧T.k≤64
theorem TwoW.step {w w':World}{τ τ':Tags}{bt bf:Nat}{T:TwoH}{H:PoolH}{HR:RPoolH}{L:LogM}{D:Dev}{s:Ck.Clk.St}(h:TwoW w τ bt bf T H HR L D s) (m:Step w τ w' τ' nil):TwoW w' τ' bt bf T H HR L D s :=
 ⟨h.two.step m (fun h=>h),h.log.step m (fun _ _ h=>h),h.rlog.step m (fun _ _ h=>h),h.dev.step m (fun _ h=>h.elim),h.rdev.step m (fun _ h=>h.elim),h.pool.step m (fun _ _ h=>h),h.rpool.step m (fun _ _ h=>h),h.hl,h.hn,h.k0⟩
theorem Qti (w:World):Calls Tryz.prog 109 #[.bool true] w fun e w'=>e = .returned (.int .i64 1)∧w=w':=by
 go_enter Tryz.func109,Tryz.ntmps109
 go_wp2_with fail
 go_ret
 exact⟨rfl,rfl⟩
theorem Qva {w:World}{τ:Tags}{g:Tag}{b n:Nat}{l:List Int}(h:Own w τ b g 3 (i64z l)) (hn:l.length=n) (hm:n≤maxLen):IntsZ w τ g (.slice (some ⟨b,0,none⟩) n n) l:=by
 subst hn
 exact⟨by rw[Qfq,Nat.mul_one],.inr ⟨b,l.length,[],rfl,by simpa using h,by rw[Qfq];simp,Nat.le_refl _,hm⟩⟩
theorem Tryz.infoLog:(Tryz.prog.info? 118).isSome=true:=by kernel_rfl
theorem Qz1 (W:World) (a:Addr):(binOp .eql 29 (.pointer (some a)) (.pointer (some a))).run Tryz.prog W = .ok (.bool true) W:=by
 obtain⟨j,hj⟩:=Option.isSome_iff_exists.1 Tryz.infoLog
 exact run_eql_ptr_same W a Tryz.underlying29 hj
theorem Qz4 {w:World}{τ:Tags}{bt bf:Nat}{T:TwoH}{H:PoolH}{HR:RPoolH}{L:LogM}{D:Dev}{s:Ck.Clk.St}(h:TwoW w τ bt bf T H HR L D s) :
 Calls Tryz.prog 112 #[.pointer (some ⟨bt,0,none⟩)] w fun e w'=>e = .returned (.int .i64 1)∧∃τ',Step w τ w' τ' nil:=by
 have c2:=h.two.at 2 (v:=.pointer (some ⟨T.bl,0,none⟩)) rfl
 have c3:=h.two.at 3 (v:=.pointer (some ⟨T.br,0,none⟩)) rfl
 have h1:=Qyg h.log
 have h2:=Jal h.rlog
 have h3:=Ql3 h.log
 generalize hB:L.base=B at h1 h2
 generalize hE:L.base+L.stream.length=E at h3
 have hat:(List.replicate T.k Fr.no).map Fr.at=List.replicate T.k (-1):=by rw[List.map_replicate];rfl
 have hcl:∀f∈List.replicate T.k Fr.no,f.first=0:=fun f hf=>by rw[(List.mem_replicate.1 hf).2];rfl
 have hk64:T.k≤maxLen:=by have:=h.k0;unfold maxLen;omega
 obtain⟨H_h,H1,H2,H3,HB,HE,Hat,Hcl⟩:=hid8 h h1 h2 h3 hB hE hat hcl
 clear h h1 h2 h3 hB hE hat hcl
 go_enter Tryz.func112,Tryz.ntmps112
 go_wp2_with fail
 refine H1.out.mono ?_
 rintro e w' ⟨rfl,rfl⟩
 go_wp2_with fail
 refine H2.out.mono ?_
 rintro e w' ⟨rfl,rfl⟩
 go_wp2_with fail
 refine H3.out.mono ?_
 rintro e w1 ⟨rfl,hs1⟩
 have hW1:=H_h.out.step hs1
 have h4:=r8end hW1.rlog
 rw[HE.out] at h4
 obtain⟨H4,Hs1⟩:=hid2 h4 hs1
 clear h4 hs1
 go_wp2_with fail
 refine H4.out.mono ?_
 rintro e w2 ⟨rfl,hs2⟩
 have hW2:=hW1.step hs2
 have h5:=Qwp hW2.log
 generalize hLa:L.base+L.lasts=LA at h5
 obtain⟨H5,Hs2,HLa⟩:=hid3 h5 hs2 hLa
 clear h5 hs2 hLa
 go_wp2_with fail
 refine H5.out.mono ?_
 rintro e w3 ⟨rfl,hs3⟩
 have hW3:=hW2.step hs3
 have h6:=Qy9 hW3.rlog
 rw[HLa.out] at h6
 obtain⟨H6,Hs3⟩:=hid2 h6 hs3
 clear h6 hs3 hW1 hW2
 go_wp2_with fail
 refine H6.out.mono ?_
 rintro e w4 ⟨rfl,hs4⟩
 have hW4:=hW3.step hs4
 have h7:=Qwb hW4.log
 have h8:=Qza hW4.rlog
 have hsa:=Qw6 (hW4.step (Step.refl w4 τ nil).drew).dev (hW4.step (Step.refl w4 τ nil).drew).rdev
 have d0:=hW4.two.at 0 (v:=.pointer (some ⟨T.bd,0,none⟩)) rfl
 have d1:=hW4.two.at 1 (v:=.pointer (some ⟨T.be,0,none⟩)) rfl
 have hst4:=((Hs1.out.trans Hs2.out).trans Hs3.out).trans hs4
 generalize L.check=CK at h7 h8
 obtain⟨H7,H8,HW4,Hsa,Hst4⟩:=hid5 h7 h8 hW4 hsa hst4
 clear h7 h8 hW4 hsa hst4 hW3 hs4
 go_wp2_with fail
 refine H7.out.mono ?_
 rintro e w' ⟨rfl,rfl⟩
 go_wp2_with fail
 refine H8.out.mono ?_
 rintro e w' ⟨rfl,rfl⟩
 go_wp2_with fail
 go_region_held3 (fun w'=>w'.cell? ⟨bt,0,none⟩=some (.pointer (some ⟨T.bd,0,none⟩))∧w'.cell? ⟨bt,1,none⟩=some (.pointer (some ⟨T.be,0,none⟩))) (go_keep) (first
  | (go_at_call 187
     refine Hsa.out.mono ?_
     rintro e w5 ⟨rfl,τ5,hs5⟩
     have hW5:=HW4.out.step ((Step.refl w4 τ nil).drew.trans hs5)
     have e0:=hW5.two.at 0 (v:=.pointer (some ⟨T.bd,0,none⟩)) rfl
     have e1:=hW5.two.at 1 (v:=.pointer (some ⟨T.be,0,none⟩)) rfl
     have e2:=hW5.two.at 2 (v:=.pointer (some ⟨T.bl,0,none⟩)) rfl
     have e4:=hW5.two.at 4 (v:=.pointer (some ⟨T.bp,0,none⟩)) rfl
     have e5:=hW5.two.at 5 (v:=.pointer (some ⟨T.bq,0,none⟩)) rfl
     have e6:=hW5.two.at 6 (v:=.int .i64 (T.n:Int)) rfl
     have hst5:=(Hst4.out.drew).trans hs5
     obtain⟨HW5,Hst5⟩:=hid2 hW5 hst5
     clear hW5 hst5
     clear hs5))
 go_wp2_with fail
 have hatc:=Qz3 (HW5.out.step (Step.refl w5 τ5 nil).drew).pool
 rw[Hat.out,List.length_replicate] at hatc
 generalize hml:List.replicate T.k (-1:Int)=ml at *
 have hmlk:ml.length=T.k:=by rw[←hml,List.length_replicate]
 have hnu:=Qti
 have heq:=fun W=>Qz1 W ⟨T.bl,0,none⟩
 obtain⟨Hatc,Hml,Hmlk,Hnu⟩:=hid4 hatc hml hmlk hnu
 clear hatc hml hmlk hnu
 go_region_held3 (fun w'=>w'.cell? ⟨bt,2,none⟩=some (.pointer (some ⟨T.bl,0,none⟩))∧w'.cell? ⟨bt,4,none⟩=some (.pointer (some ⟨T.bp,0,none⟩))∧w'.cell? ⟨bt,5,none⟩=some (.pointer (some ⟨T.bq,0,none⟩))∧w'.cell? ⟨bt,6,none⟩=some (.int .i64 (T.n:Int))) (go_keep) (first
  | (go_at_call 43
     refine Hatc.out.mono ?_
     rintro e w6 ⟨b6,τ6,rfl,-,ho6,hs6⟩
     have hst6:=(Step.refl w5 τ5 nil).drew.trans hs6
     have hW6:=HW5.out.step hst6
     have f2:=hW6.two.at 2 (v:=.pointer (some ⟨T.bl,0,none⟩)) rfl
     have f4:=hW6.two.at 4 (v:=.pointer (some ⟨T.bp,0,none⟩)) rfl
     have f5:=hW6.two.at 5 (v:=.pointer (some ⟨T.bq,0,none⟩)) rfl
     have f6:=hW6.two.at 6 (v:=.int .i64 (T.n:Int)) rfl
     have hi6:=Qva ho6 Hmlk.out hk64
     have hqa:=r12at hW6.rpool hW6.k0.1
     rw[Hml.out] at hqa
     obtain⟨HW6,Hst6,Hi6,Hqa⟩:=hid4 hW6 hst6 hi6 hqa
     clear hW6 hst6 hi6 hqa
     clear ho6 hs6)
  | (go_at_call 189
     refine Hqa.out.mono ?_
     rintro e w7 ⟨v7,τ7,rfl,hi7,hs7⟩
     have hW7:=HW6.out.step hs7
     have g2:=hW7.two.at 2 (v:=.pointer (some ⟨T.bl,0,none⟩)) rfl
     have g4:=hW7.two.at 4 (v:=.pointer (some ⟨T.bp,0,none⟩)) rfl
     have g5:=hW7.two.at 5 (v:=.pointer (some ⟨T.bq,0,none⟩)) rfl
     have g6:=hW7.two.at 6 (v:=.int .i64 (T.n:Int)) rfl
     have hsi:=Qo6 (IntsZ.step Hi6.out hs7 (fun h=>h)) hi7
     rw[decide_eq_true rfl] at hsi
     have hst7:=Hst6.out.trans hs7
     obtain⟨p7,k7,rfl,-,-⟩:=hi7.read
     rw[Hmlk.out] at hsi ⊢
     obtain⟨HW7,Hst7,Hsi⟩:=hid3 hW7 hst7 hsi
     clear hW7 hst7 hsi
     clear hi7 hs7)
  | (go_at_call 188
     refine Hsi.out.mono ?_
     rintro e w8 ⟨rfl,q8,hw8⟩
     have hs8:Step w7 τ7 w8 τ7 nil:=by rw[hw8];exact(Step.refl w7 τ7 nil).drews q8
     have hW8:=HW7.out.step hs8
     have k2:=hW8.two.at 2 (v:=.pointer (some ⟨T.bl,0,none⟩)) rfl
     have k4:=hW8.two.at 4 (v:=.pointer (some ⟨T.bp,0,none⟩)) rfl
     have k5:=hW8.two.at 5 (v:=.pointer (some ⟨T.bq,0,none⟩)) rfl
     have k6:=hW8.two.at 6 (v:=.int .i64 (T.n:Int)) rfl
     have hdi:=Qty hW8.pool Hcl.out
     have hst8:=Hst7.out.trans hs8
     obtain⟨HW8,Hst8,Hdi⟩:=hid3 hW8 hst8 hdi
     clear hW8 hst8 hdi
     clear hs8 hw8)
  | (go_at_call 85
     refine Hdi.out.mono ?_
     rintro e w9 ⟨rfl,τ9,hs9⟩
     have hW9:=HW8.out.step hs9
     have m2:=hW9.two.at 2 (v:=.pointer (some ⟨T.bl,0,none⟩)) rfl
     have m4:=hW9.two.at 4 (v:=.pointer (some ⟨T.bp,0,none⟩)) rfl
     have m5:=hW9.two.at 5 (v:=.pointer (some ⟨T.bq,0,none⟩)) rfl
     have m6:=hW9.two.at 6 (v:=.int .i64 (T.n:Int)) rfl
     have hqd:=Qxc hW9.rpool hW9.k0.1
     have hsd:=Qne w9
     have hpa:=Qk2 hW9.pool
     rw[hW9.hn] at hpa
     have hlo:=Qqt hW9.pool
     rw[hW9.hl] at hlo
     have hst9:=Hst8.out.trans hs9
     obtain⟨HW9,Hst9,Hqd,Hsd,Hpa,Hlo⟩:=hid6 hW9 hst9 hqd hsd hpa hlo
     clear hW9 hst9 hqd hsd hpa hlo
     clear hs9)
  | (go_at_call 191
     refine Hqd.out.mono ?_
     rintro e w' ⟨rfl,rfl⟩)
  | (go_at_call 190
     refine Hsd.out.mono ?_
     rintro e w' ⟨rfl,rfl⟩)
  | (go_at_call 41
     refine Hpa.out.mono ?_
     rintro e w' ⟨rfl,rfl⟩)
  | (go_at_call 192
     refine Hlo.out.mono ?_
     rintro e w' ⟨rfl,rfl⟩)
  | (go_at_call 109
     refine(Hnu.out _).mono ?_
     rintro e w' ⟨rfl,rfl⟩))
 go_wp2_with fail
 go_ret
 exact⟨rfl,τ9,Hst5.out.trans Hst9.out⟩
end Go.Proofs.YtemacanaihaldaaGreat