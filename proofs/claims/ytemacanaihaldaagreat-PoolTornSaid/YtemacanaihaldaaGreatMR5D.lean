/-
 The reference's device: Write;Sync;Image.
-/
import Derived.Test.YtemacanaihaldaaGreatMCrc
import Derived.Test.YtemacanaihaldaaGreatMRegL
set_option maxRecDepth 100000
set_option maxHeartbeats 4000000
set_option linter.all false
namespace Go.Proofs.YtemacanaihaldaaGreat
variable {τ:Tags}
open Go.RowKit
def RDevR (w:World) (τ:Tags) (b:Nat) (D:Dev) (r:Value) (e:Ending) (w':World):Prop:=e = .returned r∧∃τ',RDevAt w' τ' b D∧Step w τ w' τ' RDevTag
def w_0 (w:World):World:={w with heap:=#[]}
theorem Jaj (w:World) (τ:Tags) (S:Tag→Prop):Step (w_0 w) τ w τ S:=⟨⟨rfl,rfl,rfl,by simp[w_0],fun k hk=>absurd hk (by simp[w_0])⟩,fun k hk=>absurd hk (by simp[w_0])⟩
theorem nr_0 {w:World} {g:Tag} {v:Value} {ls:List (List Int)}(h:Waits w τ g v ls):NR (w_0 w).heap.size w τ g v ls:=⟨h,fun k _=>Nat.zero_le _⟩
theorem Bytes.drews {w:World} {g:Tag} {v:Value} {l:List Int}(h:Bytes w τ g v l):Bytes w.drew τ g v l:=⟨h.isB,h.is⟩
theorem Qqq {w:World} {b:Nat} {D:Dev}(h:RDevAt w τ b D) (f:Nat) (hf:f<2) (k:Nat) (hk:k<(D.file f).length) {v:Value}{l:List Int}{g:Tag}(hb:Bytes w τ g v l) (hl:l.length=128) (hg:¬RDevTag g) (hlim:D.lim 900000) :
 Calls Tryz.prog 246 #[.pointer (some ⟨b,0,none⟩),.int .u8 (f:Int),.int .i64 (k:Int),v] w (RDevR w τ b (D.write f k l) (.int .i64 0)):=by
 obtain⟨v0,v1,h⟩:=h
 obtain⟨s,hs⟩:∃s,(D.file f)[k]?=some s:=⟨_,List.getElem?_eq_getElem hk⟩
 obtain⟨p,c,rfl,-,-⟩:=hb.any
 rw[hl] at hb ⊢
 have h1:=Qks h f hf k hk
 have h2:=Qo9 h
 cases hgo:D.go.1 with
 | false =>
   rw[hgo] at h2
   simp only[Bool.not_false] at h2
   have hwr:D.write f k l=D.go.2:=by unfold Dev.write;rw[if_neg (by rw[hgo];simp)]
   rw[hwr]
   obtain⟨H1,H2⟩:=hid2 h1 h2
   clear h1 h2 h hb hlim hs hgo hwr hl
   go_enter Tryz.func246,Tryz.ntmps246
   go_wp2_with fail
   refine H1.out.mono ?_
   rintro e w' ⟨rfl,rfl⟩
   go_wp2_with fail
   refine H2.out.mono ?_
   rintro e w1 ⟨rfl,hd,hst⟩
   obtain⟨Hd,Hst⟩:=hid2 hd hst
   clear hd hst
   go_wp2_with fail
   go_ret
   exact⟨rfl,τ,Hd.out.at,Hst.out.mono (fun g hg=>by subst hg;exact .inl rfl)⟩
 | true =>
   rw[hgo] at h2
   simp only[Bool.not_true] at h2
   have hwr:D.write f k l=D.go.2.put f ((D.go.2.file f).set k ⟨s.last,s.waits++[l]⟩):=by unfold Dev.write;rw[if_pos hgo,hs,Dev.go_file];rfl
   rw[hwr]
   have hwl:=hlim f k s hs
   have hgo2:=Dev.go_file D f
   obtain⟨H1,H2,Hb,Hl,Hs⟩:=hid5 h1 h2 hb hl hs
   clear h1 h2 hb hl hs h hlim hgo hwr
   go_enter Tryz.func246,Tryz.ntmps246
   go_wp2_with fail
   refine H1.out.mono ?_
   rintro e w' ⟨rfl,rfl⟩
   go_wp2_with fail
   refine H2.out.mono ?_
   rintro e w1 ⟨rfl,hd,hst⟩
   obtain⟨cf,hfile⟩:=hd.file f hf
   rw[hgo2] at hfile
   obtain⟨bf,c,xs,ys,hv,hcap,ho,hxl,hsec⟩:=hfile.lenp (by omega)
   rw[hv] at cf
   obtain⟨-,⟨u,hu,hw⟩⟩:=hsec k s Hs.out
   obtain⟨pw,cw,rfl⟩:=hw.len
   have hu':(xs++ys)[k*2+1]?=some (.slice pw s.waits.length cw):=by rw[List.getElem?_append_left (by omega)];exact hu
   have c1:=ho.at (k*2+1) hu'
   have f1:=ho.fz (k*2+1)
   have hb1:=(Hb.out.step hst (fun e=>hg (by rw[e];exact .inl rfl))).drews
   have hln:=Qr7 hb1 tData (by rw[Hl.out];omega)
   have hn4096:=hfile.1
   have hob:∃t xs,Own w1 τ b tRDev t xs∧xs[f]?=some (.slice (some ⟨bf,0,none⟩) (D.file f).length c):=by
    obtain⟨st,n,hob,-,-,-⟩:=hd.is
    refine⟨_,_,hob,?_⟩
    rw[←hv]
    rcases (by omega:f=0∨f=1) with rfl|rfl <;> rfl
   obtain⟨tt,xx,hob,hxx⟩:=hob
   have hdr:Step w1 τ w1.drew τ nil:=(Step.refl w1 τ nil).drew
   have hst1:=hst.mono (T:=RDevTag) (fun g hg=>by subst hg;exact .inl rfl)
   generalize hnl:(D.file f).length=n at *
   generalize hsw:s.waits=ws at *
   obtain⟨Hb1,Hln,Hdr,Hst1,Hv,Hw,Ho,Hob,Hxx,Hd⟩:=hid10 hb1 hln hdr hst1 hv hw ho hob hxx hd
   have Hu':=Lib.hid hu'
   obtain⟨Hgo2,Hnl,Hsw⟩:=hid3 hgo2 hnl hsw
   clear hb1 hln hdr hst1 hv hw ho hob hxx hd hu' hgo2 hnl hsw hfile hsec hu Hb H2 hst hcap hxl
   have hf2:(f:Int)<2:=by omega
   have hk2:(k:Int)<(n:Int):=by omega
   go_wp2_with fail
   refine Qaf (S:=fun w':World=>w'.cell? ⟨b,f,none⟩=some (.slice (some ⟨bf,0,none⟩) n c)∧w'.cell? ⟨bf,k*2+1,none⟩=some (.slice pw ws.length cw)) (by kernel_rfl) ?_
   have hS1:w1.drew.cell? ⟨b,f,none⟩=some (.slice (some ⟨bf,0,none⟩) n c)∧w1.drew.cell? ⟨bf,k*2+1,none⟩=some (.slice pw ws.length cw):=⟨cf,c1⟩
   refine tk0 [0,1,2,3,4,5,6,7,8,9,10,11,12,13,14,15,16,17] ?_
   iterate 18
    refine tks (v:=?_) rfl (Or.inl ⟨by rfl,?_⟩) (by assumption) ?_
    rotate_left
    ·intro w hSw;(try dsimp only at hSw);go_simp
     all_goals with_reducible rfl
    try simp only[Act.put,lz1,lz2,lz3]
   refine tk9 ?_
   refine tk1 18 rfl fun K hK=>?_
   go_simp
   go_at_call 283
   refine Hln.out.mono ?_
   rintro e w2 ⟨ul,τ2,rfl,hb2,hs2⟩
   obtain⟨pu,cu,rfl,-,-⟩:=hb2.any
   have hs2':=Hdr.out.trans hs2
   have ho2:=Ho.out.step hs2' (fun h=>h)
   have hob2:=Hob.out.step hs2' (fun h=>h)
   have hw2:=Hw.out.step hs2' (fun h=>h) (fun h=>h)
   have Hb2:=Lib.hid hb2
   have Hs2':=Lib.hid hs2'
   obtain⟨Ho2,Hob2,Hw2⟩:=hid3 ho2 hob2 hw2
   clear hb2 hs2' ho2 hob2 hw2 hs2 hS1
   refine hK.out _ _ (fun _=>⟨Hob2.out.at f Hxx.out,Ho2.out.at (k*2+1) Hu'.out⟩) ?_
   clear hK K
   refine tk1 19 rfl fun K hK=>?_
   go_simp
   refine hK.out _ _ (fun _=>⟨(Hob2.out.alloc _).at f Hxx.out,(Ho2.out.alloc _).at (k*2+1) Hu'.out⟩) ?_
   clear hK K
   refine tk1 20 rfl fun K hK=>?_
   refine Qkk (Jaj w2 τ2 nil) (g:=Qaz f k) (by simp[Qaz,tData]) (nr_0 Hw2.out) Hb2.out Hl.out (by omega) rfl rfl _ _ rfl rfl rfl ?_
   intro v3 w3 τ3 hnr3 hs30 hs3
   clear hs30
   obtain⟨p3,n3,rfl⟩:=hnr3.val
   simp only[List.length_append,List.length_cons,List.length_nil,Nat.zero_add] at hnr3 ⊢
   have ho3:=Ho2.out.step hs3 (by simp[tRRow,Qaz])
   have c3:=ho3.at (k*2+1) Hu'.out
   have f3:=ho3.fz (k*2+1)
   have hob3:=Hob2.out.step hs3 (by simp[tRDev,Qaz])
   refine hK.out _ _ (fun _=>⟨hob3.at f Hxx.out,c3⟩) ?_
   clear hK K
   obtain⟨Hnr3,Hs3,Ho3,Hob3⟩:=hid4 hnr3 hs3 ho3 hob3
   clear hnr3 hs3 ho3 hob3
   refine tk1 21 rfl fun K hK=>?_
   go_simp
   refine hK.out _ _ (fun _=>⟨Hob3.out.at f Hxx.out,c3⟩) ?_
   clear hK K
   refine tk1 22 rfl fun K hK=>?_
   go_simp
   refine hK.out _ _ (fun _=>⟨Hob3.out.at f Hxx.out,c3⟩) ?_
   clear hK K
   refine tk1 23 rfl fun K hK=>?_
   go_simp
   refine hK.out _ _ (fun h=>absurd h (by decide +kernel)) ?_
   clear hK K
   refine Qad (by kernel_rfl) ?_ _
   go_wp2_with fail
   go_ret
   all_goals (
    have hwt:=Hd.out.wait f hf (by rw[Hgo2.out];exact Hs.out) Hv.out ((Hs2'.out.mono (T:=fun g=>g=Qaz f k) (fun _ h=>h.elim)).trans Hs3.out) (fun _ h=>h) Hnr3.out.row
    refine⟨rfl,τ3,hwt.1.at,?_⟩
    exact Hst1.out.trans ((((Hs2'.out.mono (T:=RDevTag) (fun _ h=>h.elim)).trans (Hs3.out.mono (T:=RDevTag) (fun g hg=>by subst hg;exact .inr (.inr rfl)))).trans (hwt.2.mono (T:=RDevTag) (fun g hg=>by subst hg;exact .inr (.inl rfl))))))
theorem Qf7 {w:World} {f:Nat} {v u:Value} {l:List Sec} {x:List Int}(hown:RFile w τ f v l) (hb:Bytes w τ tData u x) (h128:x.length=128) (hsz:l.length<4096) {kb:Nat}(hkb:kb=w.heap.size)
 {ops:Array Oper} {o:Oper} {a:Act} {K:Act→World→Prop} {Q:Exit→Act→World→Prop} {E:Prop} (hgd:o.guard=none) (s y:Operand)
 (ho:o.op = .call {callee:=.builtin .append,args:=#[s,y],argTypes:=#[288,288]}) (hs:a.eval s=v) (hy:a.eval y = .slice (some ⟨kb,0,none⟩) 1 1)
 (h:∀v' w' τ',RFile w' τ' f v' (l++[⟨x,[]⟩])→Step w τ w' τ' (fun t=>t=tRRow f)→K (a.put o.dst v') w'):if Region.wanted o (yielded ops a.tmps)=true then Oper.wp Tryz.prog o a (w.alloc (.cells #[u,.slice none 0 0] 293)) K Q else E:=by
 subst hkb
 have hw:Region.wanted o (yielded ops a.tmps)=true:=by simp[Region.wanted,hgd]
 rw[if_pos hw]
 have hal:Step w τ (w.alloc (.cells #[u,.slice none 0 0] 293)) τ nil:=(Step.refl w τ nil).alloc' _
 obtain⟨v',w',τ',hr,h2,h3⟩:=Qmc (hown.step hal (fun h=>h) (fun _ h=>h) (fun h=>h)) (hb.step hal (fun h=>h)) h128 hsz (heap_alloc_new w _) o.type
 unfold Oper.wp execOp
 simp only[ho,resolve,invoke,builtin,Sem.run_bind,Sem.run_pure,Result.andThen_ok,List.map_toArray,List.map_cons,List.map_nil,hs,hy,hr]
 exact h v' w' τ' h2 ((hal.mono (fun _ h=>h.elim)).trans h3)
theorem Qnk {α:Type}(n:Nat) (x:α):List.replicate (n+1) x=List.replicate n x++[x]:=by
 rw[List.replicate_succ']
theorem r5new (w:World) (τ:Tags) (a b:Nat) (ha:a≤4096) (hb:b≤4096) :
 Calls Tryz.prog 108 #[.int .i64 (a:Int),.int .i64 (b:Int)] w fun e w'=>∃bd τ',e = .returned (.pointer (some ⟨bd,0,none⟩))∧w.heap.size≤bd∧RDevAt w' τ' bd ⟨List.replicate a zsec,List.replicate b zsec,none,false⟩∧Step w τ w' τ' RDevTag:=by
 have rn:=Qcz
 have ga:decide ((4096:Int)<(a:Int))=false:=by simp;omega
 have gb:decide ((4096:Int)<(b:Int))=false:=by simp;omega
 have o0:=Own.new w τ tRDev 291 [.slice none 0 0,.slice none 0 0,.bool false,.int .i64 0,.bool false]
 have s0:=(Step.refl w τ RDevTag).alloc (.cells #[.slice none 0 0,.slice none 0 0,.bool false,.int .i64 0,.bool false] 291) tRDev
 have f0:RDevAs (w.alloc (.cells #[.slice none 0 0,.slice none 0 0,.bool false,.int .i64 0,.bool false] 291)) (τ.put w.heap.size tRDev) w.heap.size ⟨List.replicate 0 zsec,[],none,false⟩ (.slice none 0 0) (.slice none 0 0) :=
  ⟨false,0,o0,⟨by simp,[],Buf.nil _ _ _ _ _,fun i s hi=>by simp at hi⟩,⟨by simp,[],Buf.nil _ _ _ _ _,fun i s hi=>by simp at hi⟩,.inl ⟨rfl,rfl⟩⟩
 generalize τ.put w.heap.size tRDev=τ0 at *
 obtain⟨H_rn,H_s0,H_f0⟩:=hid3 rn s0 f0
 clear rn s0 f0 o0
 go_enter Tryz.func108,Tryz.ntmps108
 go_wp2_with fail
 generalize w.alloc (.cells #[.slice none 0 0,.slice none 0 0,.bool false,.int .i64 0,.bool false] 291)=W0 at *
 obtain⟨bd,hbd⟩:∃bd,w.heap.size=bd:=⟨_,rfl⟩
 rw[hbd] at H_f0 ⊢
 have hlow:w.heap.size≤bd:=Nat.le_of_eq hbd
 have Hlow:=Lib.hid hlow
 clear hlow hbd
 go_loopw [6] (fun iv wr=>∃(i:Nat) (τr:Tags) (v0:Value),i≤a∧iv = .int .i64 (i:Int)∧RDevAs wr τr bd ⟨List.replicate i zsec,[],none,false⟩ v0 (.slice none 0 0)∧Step w τ wr τr RDevTag) (fun iv _=>a-(intOf iv).toNat)
 case atStart=>exact⟨0,_,_,Nat.zero_le _,rfl,H_f0.out,H_s0.out⟩
 case round =>
  obtain⟨i,τr,v0,hi,rfl,hd,hst⟩:=hrel
  by_cases hlt:i<a
  ·obtain⟨cf,hfile⟩:=hd.file 0 (by omega)
   have hdev:(⟨List.replicate i zsec,[],none,false⟩:Dev).file 0=List.replicate i zsec:=rfl
   have hv0:fileV v0 (.slice none 0 0) 0=v0:=rfl
   rw[hdev,hv0] at hfile
   rw[hv0] at cf
   obtain⟨st,nl,hod,-,-,-⟩:=hd.is
   have lb:=hod.lt
   have nb:wr.heap.size≠bd:=by omega
   have hz:=Bytes.noughts wr.drew τr tData 128 (by unfold maxLen;omega)
   have hs1:=(Step.refl wr τr nil).drew.alloc (.cells (madeCells #[.int .u8 0] 128) 5) tData
   have hfile1:=hfile.step hs1 (fun h=>h) (fun _ h=>h) (fun h=>h)
   have hd1:=hd.step hs1 (fun _ h=>h.elim)
   have hod1:=hod.step hs1 (fun h=>h)
   obtain⟨pv,cv,rfl⟩:=hfile.len
   rw[List.length_replicate] at cf hfile1 hod1 hd1
   have rn:=H_rn.out
   have hlen:(List.replicate i zsec).length<4096:=by rw[List.length_replicate];omega
   generalize hTz:τr.put wr.drew.heap.size tData=τz at *
   obtain⟨Hz,Hs1,Hfile1,Hd1,Hod1,Hst,Hlen⟩:=hid7 hz hs1 hfile1 hd1 hod1 hst hlen
   clear hz hs1 hfile1 hd1 hod1 hst hlen hfile hod hd hTz hdev hv0
   go_wp2_with fail
   refine Qaf (S:=fun w':World=>w'.cell? ⟨bd,0,none⟩=some (.slice pv i cv)) (by kernel_rfl) ?_
   have hS1:wr.drew.cell? ⟨bd,0,none⟩=some (.slice pv i cv):=cf
   refine tk0 [0,1,2,3,4,5,10,11] ?_
   iterate 8
    refine tks (v:=?_) rfl (Or.inl ⟨by rfl,?_⟩) (by assumption) ?_
    rotate_left
    ·intro w hSw;(try dsimp only at hSw);go_simp
     all_goals with_reducible rfl
    try simp only[Act.put,lz1,lz2,lz3]
   refine tk9 ?_
   clear hS1
   refine tk1 6 rfl fun K hK=>?_
   go_simp
   refine hK.out _ _ (fun _=>Hod1.out.at 0 rfl) ?_
   clear hK K
   refine tk1 7 rfl fun K hK=>?_
   go_simp
   refine hK.out _ _ (fun _=>Hod1.out.at 0 rfl) ?_
   clear hK K
   refine tk1 8 rfl fun K hK=>?_
   go_simp
   refine hK.out _ _ (fun _=>(Hod1.out.alloc _).at 0 rfl) ?_
   clear hK K
   refine tk1 9 rfl fun K hK=>?_
   refine Qf7 Hfile1.out Hz.out List.length_replicate Hlen.out (by simp) rfl _ _ rfl rfl rfl ?_
   intro v3 w3 τ3 hf3 hs3
   obtain⟨p3,n3,rfl⟩:=hf3.len
   simp only[List.length_append,List.length_replicate,List.length_cons,List.length_nil,Nat.zero_add] at hf3 ⊢
   have hod3:=Hod1.out.step hs3 (by simp[tRDev,tRRow])
   have c3:=hod3.at 0 rfl
   have z3:=hod3.fz 0
   have hg3:=Hd1.out.grow 0 (by omega) hs3 (fun _ h=>h) hf3
   refine hK.out _ _ (fun _=>c3) ?_
   clear hK K
   obtain⟨Hg3,Hs3,Hod3⟩:=hid3 hg3 hs3 hod3
   clear hg3 hs3 hod3 hf3
   refine tk1 12 rfl fun K hK=>?_
   go_simp
   refine hK.out _ _ (fun _=>c3) ?_
   clear hK K
   refine tk1 13 rfl fun K hK=>?_
   go_simp
   refine hK.out _ _ (fun h=>absurd h (by decide +kernel)) ?_
   clear hK K
   refine Qad (by kernel_rfl) ?_ _
   go_wp2_with fail
   go_round
   case rel=>exact⟨i+1,τ3,_,by omega,by simp,by rw[Qnk];exact Hg3.out.1,Hst.out.trans (((Hs1.out.mono (T:=RDevTag) (fun _ h=>h.elim)).trans (Hs3.out.mono (T:=RDevTag) (fun g hg=>by subst hg;exact .inr (.inl rfl)))).trans (Hg3.out.2.mono (T:=RDevTag) (fun g hg=>by subst hg;exact .inl rfl)))⟩
   case measure=>simp[intOf];omega
  ·obtain rfl:i=a:=by omega
   obtain⟨Hd,Hst⟩:=hid2 hd hst
   clear hd hst
   go_wp2_with fail
   go_loopw [7] (fun jv wr=>∃(j:Nat) (τr:Tags) (v1:Value),j≤b∧jv = .int .i64 (j:Int)∧RDevAs wr τr bd ⟨List.replicate i zsec,List.replicate j zsec,none,false⟩ v0 v1∧Step w τ wr τr RDevTag) (fun jv _=>b-(intOf jv).toNat)
   case atStart=>exact⟨0,_,_,Nat.zero_le _,rfl,Hd.out,Hst.out⟩
   case round =>
    clear Hd Hst
    obtain⟨j,τr,v1,hj,rfl,hd,hst⟩:=hrel
    by_cases hlt:j<b
    ·obtain⟨cf,hfile⟩:=hd.file 1 (by omega)
     have hdev:(⟨List.replicate i zsec,List.replicate j zsec,none,false⟩:Dev).file 1=List.replicate j zsec:=rfl
     have hv0:fileV v0 v1 1=v1:=rfl
     rw[hdev,hv0] at hfile
     rw[hv0] at cf
     obtain⟨st,nl,hod,-,-,-⟩:=hd.is
     have lb:=hod.lt
     have nb:wr.heap.size≠bd:=by omega
     have hz:=Bytes.noughts wr.drew τr tData 128 (by unfold maxLen;omega)
     have hs1:=(Step.refl wr τr nil).drew.alloc (.cells (madeCells #[.int .u8 0] 128) 5) tData
     have hfile1:=hfile.step hs1 (fun h=>h) (fun _ h=>h) (fun h=>h)
     have hd1:=hd.step hs1 (fun _ h=>h.elim)
     have hod1:=hod.step hs1 (fun h=>h)
     obtain⟨pv,cv,rfl⟩:=hfile.len
     rw[List.length_replicate] at cf hfile1 hod1 hd1
     have rn:=H_rn.out
     have hlen:(List.replicate j zsec).length<4096:=by rw[List.length_replicate];omega
     generalize hTz:τr.put wr.drew.heap.size tData=τz at *
     obtain⟨Hz,Hs1,Hfile1,Hd1,Hod1,Hst,Hlen⟩:=hid7 hz hs1 hfile1 hd1 hod1 hst hlen
     clear hz hs1 hfile1 hd1 hod1 hst hlen hfile hod hd hTz hdev hv0
     go_wp2_with fail
     refine Qaf (S:=fun w':World=>w'.cell? ⟨bd,1,none⟩=some (.slice pv j cv)) (by kernel_rfl) ?_
     have hS1:wr.drew.cell? ⟨bd,1,none⟩=some (.slice pv j cv):=cf
     refine tk0 [0,1,2,3,4,5,10,11] ?_
     iterate 8
      refine tks (v:=?_) rfl (Or.inl ⟨by rfl,?_⟩) (by assumption) ?_
      rotate_left
      ·intro w hSw;(try dsimp only at hSw);go_simp
       all_goals with_reducible rfl
      try simp only[Act.put,lz1,lz2,lz3]
     refine tk9 ?_
     clear hS1
     refine tk1 6 rfl fun K hK=>?_
     go_simp
     refine hK.out _ _ (fun _=>Hod1.out.at 1 rfl) ?_
     clear hK K
     refine tk1 7 rfl fun K hK=>?_
     go_simp
     refine hK.out _ _ (fun _=>Hod1.out.at 1 rfl) ?_
     clear hK K
     refine tk1 8 rfl fun K hK=>?_
     go_simp
     refine hK.out _ _ (fun _=>(Hod1.out.alloc _).at 1 rfl) ?_
     clear hK K
     refine tk1 9 rfl fun K hK=>?_
     refine Qf7 Hfile1.out Hz.out List.length_replicate Hlen.out (by simp) rfl _ _ rfl rfl rfl ?_
     intro v3 w3 τ3 hf3 hs3
     obtain⟨p3,n3,rfl⟩:=hf3.len
     simp only[List.length_append,List.length_replicate,List.length_cons,List.length_nil,Nat.zero_add] at hf3 ⊢
     have hod3:=Hod1.out.step hs3 (by simp[tRDev,tRRow])
     have c3:=hod3.at 1 rfl
     have z3:=hod3.fz 1
     have hg3:=Hd1.out.grow 1 (by omega) hs3 (fun _ h=>h) hf3
     refine hK.out _ _ (fun _=>c3) ?_
     clear hK K
     obtain⟨Hg3,Hs3,Hod3⟩:=hid3 hg3 hs3 hod3
     clear hg3 hs3 hod3 hf3
     refine tk1 12 rfl fun K hK=>?_
     go_simp
     refine hK.out _ _ (fun _=>c3) ?_
     clear hK K
     refine tk1 13 rfl fun K hK=>?_
     go_simp
     refine hK.out _ _ (fun h=>absurd h (by decide +kernel)) ?_
     clear hK K
     refine Qad (by kernel_rfl) ?_ _
     go_wp2_with fail
     go_round
     case rel=>exact⟨j+1,τ3,_,by omega,by simp,by rw[Qnk];exact Hg3.out.1,Hst.out.trans (((Hs1.out.mono (T:=RDevTag) (fun _ h=>h.elim)).trans (Hs3.out.mono (T:=RDevTag) (fun g hg=>by subst hg;exact .inr (.inl rfl)))).trans (Hg3.out.2.mono (T:=RDevTag) (fun g hg=>by subst hg;exact .inl rfl)))⟩
     case measure=>simp[intOf];omega
    ·obtain rfl:j=b:=by omega
     obtain⟨Hd,Hst⟩:=hid2 hd hst
     clear hd hst
     go_wp2_with fail
     go_ret
     exact⟨bd,τr,rfl,Hlow.out,Hd.out.at,Hst.out⟩
def Qdd (l:List Sec) (i:Nat):List Sec:=(l.take i).map Sec.sync++l.drop i
theorem Qnb (l:List Sec) (i:Nat):(Qdd l i).length=l.length:=by
 unfold Qdd
 rw[List.length_append,List.length_map,←List.length_append,List.take_append_drop]
theorem Qqd (l:List Sec):Qdd l 0=l:=by simp[Qdd]
theorem Qsy (l:List Sec):Qdd l l.length=l.map Sec.sync:=by simp[Qdd]
theorem Quv {l:List Sec} {i:Nat} {s:Sec}(h:l[i]?=some s):(Qdd l i)[i]?=some s:=by
 have hi:=(List.getElem?_eq_some_iff.1 h).1
 unfold Qdd
 rw[List.getElem?_append_right (by rw[List.length_map,List.length_take];omega),List.length_map,List.length_take,Nat.min_eq_left (by omega),Nat.sub_self,List.getElem?_drop,Nat.add_zero]
 exact h
theorem Qsx {l:List Sec} {i:Nat} {s:Sec}(h:l[i]?=some s):(Qdd l i).set i s.sync=Qdd l (i+1):=by
 have hi:=(List.getElem?_eq_some_iff.1 h).1
 unfold Qdd
 rw[List.set_append_right _ _ (by rw[List.length_map,List.length_take];omega),List.length_map,List.length_take,Nat.min_eq_left (by omega),Nat.sub_self,List.take_add_one,h]
 have hd:l.drop i=s::l.drop (i+1):=by
  rw[List.drop_eq_getElem_cons hi]
  congr 1
  exact(List.getElem?_eq_some_iff.1 h).2
 rw[hd]
 simp
theorem Dev.put_put (D:Dev) (f:Nat) (hf:f<2) (a b:List Sec):(D.put f a).put f b=D.put f b:=by
 rcases (by omega:f=0∨f=1) with rfl|rfl <;> rfl
theorem Dev.put_self (D:Dev) (f:Nat) (hf:f<2):D.put f (D.file f)=D:=by
 rcases (by omega:f=0∨f=1) with rfl|rfl <;> rfl
theorem Qyl {w:World} {b:Nat} {D:Dev}(h:RDevAt w τ b D) (f:Nat) (hf:f<2) :
 Calls Tryz.prog 247 #[.pointer (some ⟨b,0,none⟩),.int .u8 (f:Int)] w (RDevR w τ b (D.sync f) (.tuple #[])):=by
 obtain⟨v0,v1,h⟩:=h
 have h2:=Qo9 h
 have a1:decide ((1:Int)<(f:Int))=false:=by simp;omega
 cases hgo:D.go.1 with
 | false =>
   rw[hgo] at h2
   simp only[Bool.not_false] at h2
   have hwr:D.sync f=D.go.2:=by unfold Dev.sync;rw[if_neg (by rw[hgo];simp)]
   rw[hwr]
   have H2:=Lib.hid h2
   clear h2 h hgo hwr
   go_enter Tryz.func247,Tryz.ntmps247
   go_wp2_with fail
   refine H2.out.mono ?_
   rintro e w1 ⟨rfl,hd,hst⟩
   obtain⟨Hd,Hst⟩:=hid2 hd hst
   clear hd hst
   go_wp2_with fail
   go_returns
   exact⟨rfl,τ,Hd.out.at,Hst.out.mono (fun g hg=>by subst hg;exact .inl rfl)⟩
 | true =>
   rw[hgo] at h2
   simp only[Bool.not_true] at h2
   have hwr:D.sync f=D.go.2.put f ((D.go.2.file f).map Sec.sync):=by unfold Dev.sync;rw[if_pos hgo,Dev.go_file]
   rw[hwr]
   generalize D.go.2=D1 at *
   have H2:=Lib.hid h2
   clear h2 h hgo hwr
   go_enter Tryz.func247,Tryz.ntmps247
   go_wp2_with fail
   refine H2.out.mono ?_
   rintro e w1 ⟨rfl,hd,hst⟩
   have hd0:RDevAs w1 τ b (D1.put f (Qdd (D1.file f) 0)) v0 v1:=by rw[Qqd,Dev.put_self D1 f hf];exact hd
   have hst0:=hst.mono (T:=RDevTag) (fun g hg=>by subst hg;exact .inl rfl)
   obtain⟨cfx,hfilex⟩:=hd.file f hf
   obtain⟨pvx,cvx,hvx⟩:=hfilex.len
   have hn4096:=hfilex.1
   have hall:=Qsy (D1.file f)
   have hslen:=Qnb (D1.file f)
   generalize hl:D1.file f=l at *
   generalize hn:l.length=n at *
   obtain⟨Hd0,Hst0,Hall,Hvx,Hslen,Hn,Hl⟩:=hid7 hd0 hst0 hall hvx hslen hn hl
   clear hd0 hst0 hall hvx hslen hn hl hd hst cfx hfilex
   go_wp2_with fail
   go_loopw [5] (fun iv wr=>∃(i:Nat) (τr:Tags),i≤n∧iv = .int .i64 (i:Int)∧RDevAs wr τr b (D1.put f (Qdd l i)) v0 v1∧Step w τ wr τr RDevTag) (fun iv _=>n-(intOf iv).toNat)
   case atStart=>exact⟨0,τ,Nat.zero_le _,rfl,Hd0.out,Hst0.out⟩
   case round =>
    clear Hd0 Hst0
    obtain⟨i,τr,hi,rfl,hd,hst⟩:=hrel
    obtain⟨cf,hfile⟩:=hd.file f hf
    rw[Hvx.out] at cf
    have hpf:(D1.put f (Qdd l i)).file f=Qdd l i:=by rw[Dev.put_file _ _ hf,if_pos rfl]
    by_cases hlt:i<n
    ·obtain⟨s,hs⟩:∃s,l[i]?=some s:=⟨_,List.getElem?_eq_getElem (by rw[Hn.out];exact hlt)⟩
     have hsat:=Quv hs
     have hset:=Qsx hs
     have hil:i<((D1.put f (Qdd l i)).file f).length:=by rw[hpf,Hslen.out];exact hlt
     have hrd:=Qr6 hd.at f hf i hil tData
     have hla:(D1.put f (Qdd l i)).last f i=s.newest:=by unfold Dev.last;rw[hpf,hsat];rfl
     have hl128:=(Qkt hd.at f i hf hil).1
     rw[hla] at hrd hl128
     rw[hpf] at hfile
     obtain⟨bf,c,xs,ys,hv,hcap,ho,hxl,hsec⟩:=hfile.lenp (by rw[Hslen.out];omega)
     have hv':=hv
     rw[Hvx.out,Hslen.out] at hv'
     simp only[Value.slice.injEq,true_and] at hv'
     obtain⟨hpx,hcx⟩:=hv'
     subst hpx
     subst hcx
     rw[Hslen.out] at hxl
     have lb:=ho.lt
     obtain⟨Hd,Hst,Hrd,Hl128,Hv,Ho,Hset,Hil,Hpf,Hs,Hsat⟩:=hid11 hd hst hrd hl128 hv ho hset hil hpf hs hsat
     clear hd hst hrd hl128 hv ho hset hil hpf hs hsat hfile hsec hcap hla
     go_wp2_with fail
     refine Hrd.out.mono ?_
     rintro e w2 ⟨u,τ2,rfl,hb2,hs2⟩
     obtain⟨pu,cu,rfl,-,-⟩:=hb2.any
     rw[Hl128.out] at hb2 ⊢
     have hd2:=Hd.out.step hs2 (fun _ h=>h.elim)
     obtain⟨cf2,hfile2⟩:=hd2.file f hf
     rw[Hvx.out] at cf2
     have ho2:=Ho.out.step hs2 (fun h=>h)
     have z0:=ho2.fz (i*2)
     have z1:=ho2.fz (i*2+1)
     obtain⟨q0,e0⟩:∃q,(xs++ys)[i*2]?=some q:=⟨_,List.getElem?_eq_getElem (by rw[List.length_append];omega)⟩
     obtain⟨q1,e1⟩:∃q,(xs++ys)[i*2+1]?=some q:=⟨_,List.getElem?_eq_getElem (by rw[List.length_append];omega)⟩
     have c0:=ho2.at _ e0
     have c1:=ho2.at _ e1
     have hlay:=hd2.lay f hf (k:=i) (bf:=bf) (n:=n) (c:=cvx) Hil.out Hvx.out (Step.refl w2 τ2 nil) (fun _ h=>h.elim) (v:=.slice pu 128 cu) (u:=.slice none 0 0) (s':=s.sync) hb2 Hl128.out (.inl ⟨rfl,rfl⟩)
     have hst2:=Hst.out.trans ((hs2.mono (T:=RDevTag) (fun _ h=>h.elim)).trans (hlay.2.mono (T:=RDevTag) (fun g hg=>by subst hg;exact .inr (.inl rfl))))
     obtain⟨Hlay,Hst2⟩:=hid2 hlay hst2
     clear hlay hst2 hb2 hs2 hd2 hfile2 ho2 e0 e1
     go_wp2_with fail
     go_round
     case rel =>
      refine⟨i+1,τ2,by omega,by simp,?_,Hst2.out⟩
      have:=Hlay.out.1
      rw[Hpf.out,Hset.out,Dev.put_put _ _ hf] at this
      exact this
     case measure=>simp[intOf];omega
    ·obtain rfl:i=n:=by omega
     obtain⟨Hd,Hst⟩:=hid2 hd hst
     clear hd hst
     go_wp2_with fail
     go_returns
     refine⟨rfl,τr,?_,Hst.out⟩
     have:=Hd.out
     rw[Hall.out] at this
     exact this.at
theorem Qja {l:List Sec} {i:Nat} {s:Sec}(h:l[i]?=some s):(l.take (i+1)).map Sec.last=(l.take i).map Sec.last++[s.last]:=by
 rw[List.take_add_one,h];simp
theorem Qzc {w:World} {b:Nat} {D:Dev}(h:RDevAt w τ b D) (f:Nat) (hf:f<2) :
 Calls Tryz.prog 290 #[.pointer (some ⟨b,0,none⟩),.int .u8 (f:Int)] w fun e w'=>∃v τ',e = .returned v∧NR w.heap.size w' τ' tOut v ((D.file f).map Sec.last)∧Step w τ w' τ' nil:=by
 obtain⟨v0,v1,h⟩:=h
 have a1:decide ((1:Int)<(f:Int))=false:=by simp;omega
 obtain⟨cfx,hfilex⟩:=h.file f hf
 obtain⟨pvx,cvx,hvx⟩:=hfilex.len
 have hn4096:=hfilex.1
 have htk:(D.file f).take (D.file f).length=D.file f:=List.take_length
 generalize hl:D.file f=l at *
 generalize hn:l.length=n at *
 obtain⟨H_h,Hvx,Hn,Hl,Htk⟩:=hid5 h hvx hn hl htk
 clear h hvx hn hl htk cfx hfilex
 go_enter Tryz.func290,Tryz.ntmps290
 go_wp2_with fail
 go_loopw [5,6] (fun m iv wr=>∃(i:Nat) (τr:Tags),i≤n∧iv = .int .i64 (i:Int)∧NR w.heap.size wr τr tOut m ((l.take i).map Sec.last)∧Step w τ wr τr nil) (fun _ iv _=>n-(intOf iv).toNat)
 case atStart=>exact⟨0,τ,Nat.zero_le _,rfl,NR.nil _ _ _ _,Step.refl _ _ _⟩
 case round =>
  obtain⟨i,τr,hi,rfl,hnr,hst⟩:=hrel
  have hd:=H_h.out.step hst (fun _ h=>h.elim)
  obtain⟨cf,hfile⟩:=hd.file f hf
  rw[Hvx.out] at cf
  by_cases hlt:i<n
  ·obtain⟨s,hs⟩:∃s,l[i]?=some s:=⟨_,List.getElem?_eq_getElem (by rw[Hn.out];exact hlt)⟩
   have hsu:=Qja hs
   rw[Hl.out] at hfile
   obtain⟨bf,c,xs,ys,hv,hcap,ho,hxl,hsec⟩:=hfile.lenp (by rw[Hn.out];omega)
   have hv':=hv
   rw[Hvx.out,Hn.out] at hv'
   simp only[Value.slice.injEq,true_and] at hv'
   obtain⟨hpx,hcx⟩:=hv'
   subst hpx
   subst hcx
   obtain⟨⟨hl128,v,hvv,hb⟩,-⟩:=hsec i s hs
   rw[Hn.out] at hxl
   have c0:=ho.at (i*2) (v:=v) (by rw[List.getElem?_append_left (by omega)];exact hvv)
   have hln:=Qr7 hb tData (by omega)
   obtain⟨pv,cv,rfl,-,-⟩:=hb.any
   rw[hl128] at hln c0
   have hlen:((l.take i).map Sec.last).length=i:=by rw[List.length_map,List.length_take,Hn.out];omega
   have hi64:i≤1000000000:=by omega
   generalize hls:(l.take i).map Sec.last=ls at *
   obtain⟨pm,cm,rfl⟩:=hnr.val
   have Hls:=Lib.hid hls
   clear hls
   obtain⟨Hst,Hln,Hl128,Hsu,Hnr,Hlen⟩:=hid6 hst hln hl128 hsu hnr hlen
   clear hst hln hl128 hsu hnr hlen hfile hsec hcap hd ho hb hv hvv hs
   go_wp2_with fail
   refine Hln.out.mono ?_
   rintro e w2 ⟨u,τ2,rfl,hb2,hs2⟩
   have hnr2:=Hnr.out.step hs2 (fun h=>h) (fun h=>h)
   have hst2:=Hst.out.trans hs2
   obtain⟨pu,cu,rfl,-,-⟩:=hb2.any
   rw[Hl128.out] at hb2 ⊢
   obtain⟨Hb2,Hnr2,Hst2⟩:=hid3 hb2 hnr2 hst2
   clear hb2 hnr2 hst2 hs2
   go_wp2_with (at_builtin;refine Qbz Hst2.out (by decide) Hnr2.out Hb2.out Hl128.out (by rw[Hlen.out];exact hi64) rfl rfl _ _ rfl rfl rfl ?_;intro v' w' τ' hb he hmo;obtain⟨Hb,He,Hmo⟩:=hid3 hb he hmo;clear hb he hmo)
   go_round
   case rel=>exact⟨i+1,τ',by omega,by simp,by rw[Hsu.out];exact Hb.out,He.out⟩
   case measure=>simp[intOf];omega
  ·obtain rfl:i=n:=by omega
   rw[show l.take i=l from Htk.out] at hnr
   obtain⟨Hnr,Hst⟩:=hid2 hnr hst
   clear hnr hst
   go_wp2_with fail
   go_returns
   exact⟨_,τr,rfl,Hnr.out,Hst.out⟩
end Go.Proofs.YtemacanaihaldaaGreat