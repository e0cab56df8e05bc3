/-
 The log: Append of a record of the kind End.
-/
import Derived.Test.YtemacanaihaldaaGreatMPoolQ
set_option maxRecDepth 100000
set_option maxHeartbeats 4000000
set_option linter.all false
namespace Go.Proofs.YtemacanaihaldaaGreat
variable {D:Dev}{bd bf bp i:Nat}{τ:Tags}
open Go.RowKit
theorem Qfx {w:World} {g:Tag} {v:Value} {l:List Nat}(d:Ints w τ g v l) (x:Nat) {J:Int}(q:J=(x:Int)) (hsz:l.length<=1000000000) {kb:Nat}(r:kb=w.heap.size)
 {ops:Array Oper} {o:Oper} {a:Act} {K:Act->World->Prop} {Q:Exit->Act->World->Prop} {E:Prop} (z:o.guard=none) (s y:Operand)
 (B:o.op = .call {callee:=.builtin .append,args:=#[s,y],argTypes:=#[98,98]}) (L:a.eval s=v) (M:a.eval y = .slice (some ⟨kb,0,none⟩) 1 1)
 (h:∀p e b,Ints e b g p (l++[x])->Step w τ e b (fun t=>t=g)->K (a.put o.dst p) e):if Region.wanted o (yielded ops a.tmps)=true then Oper.wp Tryz.prog o a (w.alloc (.cells #[.int .i64 J] 3)) K Q else E:=by
 subst r
 subst q
 have N:Region.wanted o (yielded ops a.tmps)=true:=by simp[Region.wanted,z]
 rw[if_pos N]
 obtain⟨i0,hi,C,F,G⟩:=info_parts Tryz.infoInt
 have j:Step w τ (w.alloc (.cells #[.int .i64 (x:Int)] 3)) τ nil:=(Step.refl w τ nil).alloc' _
 have m:=d.step j (fun h=>h)
 obtain⟨p,e,b,O,I,R,U,hnw⟩:=Qap (P:=Tryz.prog) (w.alloc (.cells #[.int .i64 (x:Int)] 3)) τ g 98 o.type 3 i0 (.int .i64 0) 1 8 Tryz.underlying98 hi C F G rfl (by decide) v l.length (i64s l) m
  (some ⟨w.heap.size,0,none⟩) 1 1 [.int .i64 (x:Int)] rfl (fun h=>by cases h) (by
    intro ad had;cases had;exact World.news_of_block (cs:=#[.int .i64 (x:Int)]) (t := 3) (fr:=(0,0)) (heap_alloc_new w _)) (by simp[Value.oneCell']) (by unfold maxLen;omega) (by omega)
 unfold Oper.wp execOp
 simp only[B,resolve,invoke,builtin,Sem.run_bind,Sem.run_pure,Result.andThen_ok,List.map_toArray,X1,List.map_nil,L,M,O]
 refine h p e b ?_ ((j.mono (fun _ h=>h.elim)).trans ⟨U.mono (fun k hk X=>(m.own k X).1),R⟩)
 unfold Ints
 rw[Z6,Qlj];exact I
def LogM.more (L:LogM) (b:List Int):LogM:={L with stream:=L.stream++b,starts:=L.starts++[L.stream.length]}
theorem Qd6 {x:Int}(h0:0<=x) (h:x<9223372036854775808):IntKind.i64.wrap x=x:=by
 obtain⟨n,rfl⟩:∃n:Nat,x=(n:Int):=⟨x.toNat,by omega⟩
 exact Qbr n (by omega)
def w_z (w:World):World:={w with heap:=#[]}
theorem Qyk (w:World) (τ:Tags) (S:Tag->Prop):Step (w_z w) τ w τ S:=⟨⟨rfl,rfl,rfl,by simp[w_z],fun k hk=>absurd hk (by simp[w_z])⟩,fun k hk=>absurd hk (by simp[w_z])⟩
theorem Buf.drew {w:World} {g:Tag} {e:TypeId} {size:Nat} {v:Value} {n:Nat} {b:List Value}(h:Buf w τ g e size v n b):Buf w.drew τ g e size v n b:=h.step (Step.refl w τ Go.Proofs.YtemacanaihaldaaGreat.nil).drew (fun h=>h)
theorem Qpi {w:World} {g:Tag} {v:Value} {l:List Int}(h:Buf w τ g 5 1 v l.length (u8s l)) (b:IsB l):NB (w_z w).heap.size w τ g v l:=⟨h,b,fun k _=>Z9 _⟩
theorem Qnd {α:Type} {l:List α} {j:Nat} {v:α}(h:l[j]?=some v):l.set j v=l:=by
 apply List.ext_getElem?
 intro i
 by_cases e:i=j
 ·subst e
  rw[List.getElem?_set_self (Z4 h).1,h]
 ·rw[List.getElem?_set_ne (fun q=>e q.symm)]
theorem Qvw (f:Fr) (v n:Nat):Fr.has {f with first:=v} n=f.has n:=rfl
theorem Qm9 {F:List Fr} {f:Fr}(b:F[i]?=some f) (v:Nat):Qaq (F.set i {f with first:=v})=Qaq F:=by
 funext n
 unfold Qaq
 induction F generalizing i with
 | nil=>rfl
 | cons g F ih =>
   cases i with
   | zero =>
     have e:g=f:=by simpa using b
     subst e
     rw[List.set_cons_zero,List.findIdx?_cons,List.findIdx?_cons,Qvw]
   | succ i =>
     rw[List.set_cons_succ,List.findIdx?_cons,List.findIdx?_cons,ih (by simpa using b)]
theorem Qob {F:List Fr} {f:Fr}(d:F[i]?=some f) (v:Nat):(Qao F).set (i*3+2) (.int .u64 (v:Int))=Qao (F.set i {f with first:=v}):=by
 obtain⟨hi,b⟩:=Z4 d
 have h:(((Qao F).set (i*3) (.pointer (f.pg.map (fun x=>(⟨x.1,0,none⟩:Addr))))).set (i*3+1) (.int .u32 (f.n:Int))).set (i*3+2) (.int .u64 (v:Int))=Qao (F.set i {f with first:=v}):=Qd8 F i {f with first:=v} hi
 have h0:(Qao F)[i*3]?=some (.pointer (f.pg.map (fun x=>(⟨x.1,0,none⟩:Addr)))):=by
  have:=Qci F i 0 (by omega) hi
  rw[b] at this
  exact this
 have h1:(Qao F)[i*3+1]?=some (.int .u32 (f.n:Int)):=by
  have:=Qci F i 1 (by omega) hi
  rw[b] at this
  exact this
 rw[Qnd h0,Qnd h1] at h
 exact h
theorem PoolAt.setFirst {w:World} {H:PoolH} {F:List Fr} {s:Ck.Clk.St}(h:PoolAt w τ bp bf H F s) {i:Nat}{f:Fr}(p:F[i]?=some f) (v:Nat) :
 PoolAt (w.setCell ⟨bf,i*3+2,none⟩ (.int .u64 (v:Int))) τ bp bf H (F.set i {f with first:=v}) s/\Step w τ (w.setCell ⟨bf,i*3+2,none⟩ (.int .u64 (v:Int))) τ (fun g=>g=tFr):=by
 have m:Step w τ (w.setCell ⟨bf,i*3+2,none⟩ (.int .u64 (v:Int))) τ (fun g=>g=tFr):=(Step.refl w τ (fun g=>g=tFr)).set h.fr.tag rfl _
 have o:=h.fr.set (i*3+2) (.int .u64 (v:Int))
 rw[Qob p] at o
 obtain⟨hi,hfi⟩:=Z4 p
 have d:∀(j:Nat) (g:Fr),(F.set i {f with first:=v})[j]?=some g->∃k,F[j]?=some k/\k.pg=g.pg/\k.n=g.n:=fun j g q=>by
  by_cases e:i=j
  ·subst e
   rw[List.getElem?_set_self hi] at q
   cases q
   exact⟨f,p,rfl,rfl⟩
  ·rw[List.getElem?_set_ne e] at q
   exact⟨g,q,rfl,rfl⟩
 refine⟨⟨h.hd.step m (by decide),by rw[Y1];exact h.vf,o,?_,by rw[Qm9 p];exact h.mp.step m (by decide),h.ck.step m (by decide),h.n1,by rw[Y1];exact h.k1,by rw[Y1];exact h.sn,h.st,?_,?_⟩,m⟩
 ·intro j b P l
  cases r:(F.set i {f with first:=v})[j]? with
  | none=>rw[r] at l;cases l
  | some g =>
    obtain⟨k,h1,h2,_⟩:=d j g r
    rw[r] at l
    refine(h.pg j b P ?_).step m (by simp[tPg,tFr])
    rw[h1]
    exact h2.trans l
 ·intro a b n g g2 x l h1 h2
  obtain⟨k,y,z,B⟩:=d a g x
  obtain⟨C,E,G,I⟩:=d b g2 l
  exact h.one a b n k C y E (by unfold Fr.has at *;rw[z,B];exact h1) (by unfold Fr.has at *;rw[G,I];exact h2)
 ·intro a n g x h1
  obtain⟨k,y,z,B⟩:=d a g x
  exact h.low a n k y (by unfold Fr.has at *;rw[z,B];exact h1)
def PWTag (g:Tag):Prop:=PoolTag g\/WalTag g
def flL (L:LogM) (k:Nat):LogM:=if Qbj L k=true then L.flushed k else L
def flD (L:LogM) (D:Dev) (k:Nat):Dev:=if Qbj L k=true then Qdq L D k else D
def wrD (D:Dev) (N n:Nat) (P:List Int) (st:Nat):Dev:=(D.lay 1 (4*N) (sealAll P st)).lay 1 (4*n) (sealAll P st)
theorem Qyt (L:LogM) (D:Dev) (k:Nat):(flD L D k).f1.length=D.f1.length/\(flD L D k).f0.length=D.f0.length:=by
 have h:∀(E:Dev),E.file 1=E.f1:=fun E=>rfl
 have h0:∀(E:Dev),E.file 0=E.f0:=fun E=>rfl
 unfold flD
 by_cases e:Qbj L k=true
 ·rw[if_pos e]
  unfold Qdq
  exact⟨by rw[<-h,<-h,Dev.lay_length _ _ _ (by omega)],by rw[<-h0,<-h0,Dev.lay_length _ _ _ (by omega)]⟩
 ·rw[if_neg e];exact⟨rfl,rfl⟩
theorem Qsl {L:LogM}(h:D.Calm) (k:Nat):(flD L D k).Calm:=by
 unfold flD
 by_cases e:Qbj L k=true
 ·rw[if_pos e];exact h.lay (by omega) _ _
 ·rw[if_neg e];exact h
theorem Jgn {L:LogM}(h:D.lim 600000) (b:L.Rise) (hcap:L.stream.length<=127*L.strips) (hs:L.strips<=2047) (k:Nat):(flD L D k).lim 700000:=by
 unfold flD
 by_cases e:Qbj L k=true
 ·rw[if_pos e]
  have h1:=Qd9 L b k
  have h2:=LogM.behindK_le b (k-1)
  have h3:L.flushTo k=L.behindK (k-1):=rfl
  have:=Dev.lay_lim h 0 (L.firstS+L.lasts/127) (by omega) (Qdp L k)
  refine Dev.lim_mono this ?_
  rw[h1]
  unfold parts
  omega
 ·rw[if_neg e];exact Dev.lim_mono h (by omega)
def Qwm (w:World) (τ:Tags) (bp bf bd:Nat) (H:PoolH) (L:LogM) (D:Dev) (F:List Fr) (s:Ck.Clk.St) (i:Nat) (f:Fr) (P:List Int) (w':World):Prop :=
 ∃(k:Nat) (fl:Bool) (τ':Tags),L.AtR (pageLSN P) k fl/\PoolW w' τ' bp bf bd {H with st:=H.st+1} (flL L (k+(if fl then 1 else 0))) (wrD (flD L D (k+(if fl then 1 else 0))) H.n f.n P (H.st+1)) (F.set i {f with first:=0}) s/\Step w τ w' τ' PWTag
theorem Quh {w:World} {H:PoolH} {F:List Fr} {s:Ck.Clk.St}(h:PoolAt w τ bp bf H F s) {e:World}{b:Tags}(m:Step w τ e b WalTag):PoolAt e b bp bf H F s :=
 h.step m (fun g j d=>by
  rcases d with d|d
  ·exact Qbo d j
  ·exact(Qbg j).1 d)
theorem Qqu (i:Nat):¬WalTag (tPg i):=by
 rintro(h|h)
 ·exact Qbo h (.inr (.inr (.inr (.inr ⟨i,rfl⟩))))
 ·exact(Qbg (.inr (.inr (.inr (.inr ⟨i,rfl⟩))))).1 h
theorem Qhw {w:World} {H:PoolH} {L:LogM} {F:List Fr} {s:Ck.Clk.St}(h:PoolW w τ bp bf bd H L D F s) (hr:L.Rise) (I:L.stream.length<=127*L.strips) (ax:L.firstS+L.strips<=D.f0.length) (ay:4*H.n+4<=D.f1.length) (l:D.lim 600000) (az:H.st+1<18446744073709551616)
 {i:Nat} {f:Fr} {b:Nat} {P:List Int} (hf:F[i]?=some f) (C:f.pg=some (b,P)) (hfn:f.n<H.n) {m:Nat} (hm:pageLSN P=m) (be:m<18446744073709551616) :
 Calls Tryz.prog 88 #[.pointer (some ⟨bp,0,none⟩),.pointer (some ⟨bf,i*3,none⟩)] w fun e G=>e = .returned (.tuple #[])/\Qwm w τ bp bf bd H L D F s i f P G:=by
 have hn512:=h.pool.n1
 have hil:=(Z4 hf).1
 have hP:PageAt w τ (tPg i) b P:=h.pool.pg i b P (by rw[hf];exact C)
 have ag:=hP.len
 obtain⟨c0,c1,c2⟩:=h.pool.cells hf
 rw[C] at c0
 simp only[Option.map_some] at c0
 have d0:=h.pool.hd.at 0 (v:=.pointer (some ⟨H.bl,0,none⟩)) rfl
 have J:=Qhe (hP.step (Step.refl w τ nil).drew (fun h=>h))
 rw[hm] at J
 have bg:=Qor (h.log.step (Step.refl w τ nil).drew (fun _ _ h=>h)) (h.dev.step (Step.refl w τ nil).drew (fun _ h=>h.elim)) hr I ax (Dev.lim_mono l (by omega)) m be
 have z5:=h.pool.hd.fz 5
 have bh:=h.pool.step (Step.refl w τ nil).drew (fun _ _ h=>h)
 have bi:=hP.step (Step.refl w τ nil).drew (fun h=>h)
 have q:=fun k=>Jgn l hr I h.log.ok.strips k
 obtain⟨ah,bj,bk,bm,Hf,a1⟩:=hid6 J bg bh bi hf q
 clear J bg bh bi hf q h hP I hr l
 go_enter Tryz.func88,Tryz.ntmps88
 go_wp2_with fail
 go_region_held3 (fun G=>G.cell? ⟨bp,0,none⟩=some (.pointer (some ⟨H.bl,0,none⟩))/\G.cell? ⟨bf,i*3,none⟩=some (.pointer (some ⟨b,0,none⟩))) (go_keep) (first
  | (go_at_call 156
     refine ah.out.mono ?_
     rintro e w2 ⟨rfl,rfl⟩)
  | (go_at_call 38
     refine bj.out.mono ?_
     rintro e w1 ⟨rfl,k,fl,bn,τ1,bo,bq,a7⟩
     have o:=Quh bk.out a7
     have br:=bm.out.step a7 (Qqu i)
     obtain⟨x0,x1,x2⟩:=o.cells Hf.out
     rw[C] at x0
     simp only[Option.map_some] at x0
     have y0:=o.hd.at 0 (v:=.pointer (some ⟨H.bl,0,none⟩)) rfl
     have y5:=o.hd.at 5 (v:=.int .u64 (H.st:Int)) rfl
     have dk:=o.hd.fz 5
     have dl:=o.hd.fz 0
     obtain⟨dm,bs,bv,bw,b1,bz⟩:=hid6 bn bo bq a7 o br
     clear bn bo bq a7 o br))
 have ai:=Qyt L D (k+(if fl=true then 1 else 0))
 have r:=a1.out (k+(if fl=true then 1 else 0))
 have c5:LogAt w1 τ1 H.bl bd (flL L (k+(if fl=true then 1 else 0))):=bs.out
 have c6:DevAt w1 τ1 bd (flD L D (k+(if fl=true then 1 else 0))):=bv.out
 have c7:∀(G:World) (a8:Tags),PoolW G a8 bp bf bd {H with st:=H.st+1} (flL L (k+(if fl=true then 1 else 0))) (wrD (flD L D (k+(if fl=true then 1 else 0))) H.n f.n P (H.st+1)) (F.set i {f with first:=0}) s->Step w τ G a8 PWTag->Qwm w τ bp bf bd H L D F s i f P G :=
  fun G a8 h1 h2=>⟨k,fl,a8,by rw[hm];exact dm.out,h1,h2⟩
 generalize flL L (k+(if fl=true then 1 else 0))=L1 at *
 generalize hE:flD L D (k+(if fl=true then 1 else 0))=E at *
 have aj:=Qam (H.st+1) az
 have hwst':IntKind.u64.wrap ((H.st:Int)+1)=((H.st+1:Nat):Int):=aj
 have c8:=b1.out.setSt (H.st+1) az
 have M:Step w1 τ1 (w1.setCell ⟨bp,5,none⟩ (.int .u64 ((H.st+1:Nat):Int))) τ1 (fun g=>g=tPool):=(Step.refl w1 τ1 (fun g=>g=tPool)).set b1.out.hd.tag rfl _
 have c9:=c5.step M (fun g p=>by rintro rfl;exact Qbo p (.inl rfl))
 have ca:=c6.step M (fun g p=>by subst p;exact Qbg (.inl rfl))
 have cb:=bz.out.step M (by simp[tPg,tPool])
 have ak:=(bw.out.mono (T:=PWTag) (fun _ h=>.inr h)).trans (M.mono (T:=PWTag) (fun g p=>.inl (.inl p)))
 generalize cc:H.st+1=x at *
 obtain⟨dn,cd,ce,dp,cf,cg,y,ch,HS1⟩:=hid9 c8 c9 ca cb ak c7 r ai cc
 clear c8 c9 ca cb ak c7 r ai cc M aj c5 c6 bw b1 bs bv bz bk bm bj ah
 go_wp2_with fail
 generalize dq:w1.setCell ⟨bp,5,none⟩ (.int .u64 (x:Int))=w2 at *
 have aa:=dn.out
 obtain⟨g0,g1,g2⟩:=aa.cells Hf.out
 rw[C] at g0
 simp only[Option.map_some] at g0
 have g5:=aa.hd.at 5 (v:=.int .u64 (x:Int)) rfl
 have ci:=Qhy (dp.out.step (Step.refl w2 τ1 nil).drew (fun h=>h)) tData
 have al:=aa.step (Step.refl w2 τ1 nil).drew (fun _ _ h=>h)
 have am:x<2 ^ 64:=by rw[show (2:Nat) ^ 64=18446744073709551616 from by decide];exact az
 obtain⟨cj,an,ck,cm⟩:=hid4 ci al am ag
 clear ci al am ag aa dq x0 x1 x2 y0 y5 dk dl c0 c1 c2 d0 z5
 go_region_held3 (fun G=>G.cell? ⟨bf,i*3,none⟩=some (.pointer (some ⟨b,0,none⟩))/\G.cell? ⟨bp,5,none⟩=some (.int .u64 (x:Int))) (go_keep) (first
  | (go_at_call 18
     refine cj.out.mono ?_
     rintro e w3 ⟨u3,τ3,rfl,b2,b3⟩
     have cn:=Qw5 b2.bytes cm.out x ck.out
     have ab:=an.out.step b3 (fun _ _ h=>h)
     obtain⟨p3,c3,rfl⟩:=b2.val
     obtain⟨r0,r1,r2⟩:=ab.cells Hf.out
     rw[C] at r0
     simp only[Option.map_some] at r0
     have r5:=ab.hd.at 5 (v:=.int .u64 (x:Int)) rfl
     obtain⟨co,cp,cq⟩:=hid3 cn b3 ab
     clear cn b3 ab
     clear b2)
  | (go_at_call 157
     refine co.out.mono ?_
     rintro e w4 ⟨u4,τ4,rfl,d,b4⟩
     have N:=cq.out.step b4 (fun _ _ h=>h)
     obtain⟨p4,c4,rfl⟩:=d.val
     obtain⟨q0,q1,q2⟩:=N.cells Hf.out
     rw[C] at q0
     simp only[Option.map_some] at q0
     have q5:=N.hd.at 5 (v:=.int .u64 (x:Int)) rfl
     have q5a:=N.hd.at 1 (v:=.int .i64 (H.n:Int)) rfl
     obtain⟨O,cr,cs⟩:=hid3 d b4 N
     clear d b4 N))
 have j:=Qet P x
 have R:(E.lay 1 (4*H.n) (sealAll P x)).lim 800000:=Dev.lim_mono (Dev.lay_lim y.out 1 (4*H.n) (by omega) _) (by rw[j];omega)
 have b5:E.f1.length=D.f1.length:=ch.out.1
 have b6:=Dev.lay_length E 1 (4*H.n) (by omega) (sealAll P x) 1
 have z:∀(E:Dev),E.file 1=E.f1:=fun E=>rfl
 rw[z,z] at b6
 have ao:wrD E H.n f.n P x=(E.lay 1 (4*H.n) (sealAll P x)).lay 1 (4*f.n) (sealAll P x):=rfl
 rw[ao] at cg
 generalize sealAll P x=ls at *
 have B:=(Step.refl w2 τ1 nil).drew.trans (cp.out.trans cr.out)
 have b7:=cd.out.step B (fun _ _ h=>h)
 have ct:=ce.out.step B (fun _ h=>h.elim)
 have d:=O.out.row
 rw[j] at d ⊢
 have U:=Qkw cs.out.hd b7 ct H.n (by rw[b5];exact ay) d (by simp[DevTag,tOut]) j (Dev.lim_mono y.out (by omega))
 have ap:=cf.out.trans (B.mono (T:=PWTag) (fun _ h=>h.elim))
 obtain⟨X,aq,cv,O,cw,b8,dr,ds,Hfl1⟩:=hid9 U ap b7 d j R b5 b6 z
 clear U ap b7 d j R b5 b6 z B ct cj co cp cr cq an cd ce ao
 go_wp2_with fail
 refine X.out.mono ?_
 rintro e w5 ⟨rfl,τ5,cx,Y⟩
 have ac:=cs.out.step Y (fun g p hS=>(Qbg p).1 hS)
 have b9:=cv.out.step Y Qau
 have ar:=O.out.step Y (by simp[DevTag,tOut]) Qay
 have Z:=Qkw ac.hd b9 cx f.n (by rw[ds.out,dr.out];omega) ar (by simp[DevTag,tOut]) cw.out b8.out
 obtain⟨k0,k1,k2⟩:=ac.cells Hf.out
 have av:=aq.out.trans (Y.mono (T:=PWTag) (fun _ h=>.inr (.inr h)))
 obtain⟨ba,dv,dw,cy⟩:=hid4 Z ac b9 av
 clear Z ac b9 av cx Y ar X aq cv
 go_wp2_with fail
 refine ba.out.mono ?_
 rintro e w6 ⟨rfl,dx,cz,ad⟩
 have ae:=dv.out.step ad (fun g p hS=>(Qbg p).1 hS)
 have da:=dw.out.step ad Qau
 obtain⟨m0,m1,m2⟩:=ae.cells Hf.out
 have mz2:=ae.fr.fz (i*3+2)
 obtain⟨db,af⟩:=ae.setFirst Hf.out 0
 have dc:=da.step af (fun g p=>by rintro rfl;exact Qbo p (.inr (.inl rfl)))
 have dd:=cz.step af (fun g p=>by subst p;exact Qbg (.inr (.inl rfl)))
 have aw:=(cy.out.trans (ad.mono (T:=PWTag) (fun _ h=>.inr (.inr h)))).trans (af.mono (T:=PWTag) (fun g p=>.inl (.inr (.inl p))))
 obtain⟨dy,dz,e0,de⟩:=hid4 db dc dd aw
 clear db dc dd aw ae da cz ad af
 go_wp2_with fail
 go_returns
 exact⟨rfl,cg.out _ dx ⟨dy.out,dz.out,e0.out⟩ ((Step.refl w τ PWTag).drew.trans de.out)⟩
theorem Qy1 {n:Nat}(h:0<n):(0:Int)<(n:Int):=by omega
theorem Qrk {w:World} {H:PoolH} {L:LogM} {F:List Fr} {s:Ck.Clk.St}(h:PoolW w τ bp bf bd H L D F s) (hr:L.Rise) (I:L.stream.length<=127*L.strips) (X:L.firstS+L.strips<=D.f0.length) (Y:4*H.n+4<=D.f1.length) (y:D.lim 600000) (Z:H.st+1<18446744073709551616)
 {i:Nat} {f:Fr} {b:Nat} {P:List Int} (hf:F[i]?=some f) (a1:f.pg=some (b,P)) (b8:f.n<H.n) (h0:0<f.first) {m:Nat} (hm:pageLSN P=m) (J:m<18446744073709551616) :
 Calls Tryz.prog 133 #[.pointer (some ⟨bp,0,none⟩),.int .i64 (i:Int)] w fun e M=>e = .returned (.tuple #[])/\∃(k:Nat) (q:Bool) (o:Tags),L.AtR (pageLSN P) k q/\PoolW M o bp bf bd {H with st:=H.st+1} (flL L (k+(if q then 1 else 0))) (wrD (flD L D (k+(if q then 1 else 0))) H.n f.n P (H.st+1)) (F.set i Fr.no) (Ck.Clk.leaveS s i)/\Step w τ M o PWTag:=by
 have ae:=Qhw h hr I X Y y Z hf a1 b8 hm J
 obtain⟨c0,c1,c2⟩:=h.pool.cells hf
 rw[a1] at c0
 simp only[Option.map_some] at c0
 have d2:=h.pool.hd.at 2 (v:=H.vf) rfl
 rw[h.pool.vf] at d2
 have hk:=h.pool.k1
 have hi:i<F.length:=(Z4 hf).1
 have hf0:=Qy1 h0
 have hn512:=h.pool.n1
 have af:(F.set i {f with first:=0})[i]?=some {f with first:=0}:=by rw[List.getElem?_set_self hi]
 have ag:(F.set i {f with first:=0}).length=F.length:=Y1
 have ah:(F.set i {f with first:=0}).set i Fr.no=F.set i Fr.no:=List.set_set ..
 have N:({f with first:=0}:Fr).n=f.n:=rfl
 have ai:({f with first:=0}:Fr).pg=f.pg:=rfl
 have hf1f:({f with first:=0}:Fr).first=0:=rfl
 have aj:H.vf = .slice (some ⟨bf,0,none⟩) F.length F.length:=h.pool.vf
 generalize ak:F.set i {f with first:=0}=F' at *
 generalize hg:({f with first:=0}:Fr)=g at *
 generalize O:F.length=k at *
 obtain⟨al,Hf⟩:=hid2 ae hf
 have am:=Z2 af
 have b9:=Z2 ag
 obtain⟨ba,Hlen,bb⟩:=hid3 ah O aj
 have be:=Z2 ak
 have Hg:=Z2 hg
 clear ae hf af ag ah O aj ak hg h I hr hm J y
 go_enter Tryz.func133,Tryz.ntmps133
 go_wp2_with fail
 refine al.out.mono ?_
 rintro e w1 ⟨rfl,kk,q,τ1,a6,l,ao⟩
 rw[Hg.out,be.out] at l
 have z:∀(M:World) (o:Tags),PoolW M o bp bf bd {H with st:=H.st+1} (flL L (kk+(if q then 1 else 0))) (wrD (flD L D (kk+(if q then 1 else 0))) H.n f.n P (H.st+1)) (F.set i Fr.no) (Ck.Clk.leaveS s i)->Step w τ M o PWTag->∃(k:Nat) (q:Bool) (o:Tags),L.AtR (pageLSN P) k q/\PoolW M o bp bf bd {H with st:=H.st+1} (flL L (k+(if q then 1 else 0))) (wrD (flD L D (k+(if q then 1 else 0))) H.n f.n P (H.st+1)) (F.set i Fr.no) (Ck.Clk.leaveS s i)/\Step w τ M o PWTag :=
  fun M o h1 h2=>⟨kk,q,o,a6,h1,h2⟩
 generalize flL L (kk+(if q=true then 1 else 0))=L1 at *
 generalize wrD (flD L D (kk+(if q=true then 1 else 0))) H.n f.n P (H.st+1)=D1 at *
 obtain⟨H1,r⟩:∃H1:PoolH,H1={H with st:=H.st+1}:=⟨_,rfl⟩
 have e1:H1.bm=H.bm:=by rw[r]
 have e2:H1.bc=H.bc:=by rw[r]
 have e3:H1.vf=H.vf:=by rw[r]
 rw[<-r] at l
 have d:=l.pool
 obtain⟨x0,x1,x2⟩:=d.cells am.out
 rw[N] at x1
 have y2:=d.hd.at 2 (v:=.slice (some ⟨bf,0,none⟩) k k) (by rw[<-bb.out,<-e3];rfl)
 have y3:=d.hd.at 3 (v:=.map (some H.bm)) (by rw[<-e1];rfl)
 have y4:=d.hd.at 4 (v:=.pointer (some ⟨H.bc,0,none⟩)) (by rw[<-e2];rfl)
 have B:=d.ck
 rw[e2] at B
 have aq:=Qjh B (i:Int)
 have q0:∃v,(Qao F')[i*3]?=some v:=⟨_,by have:=d.fr.cell (i*3);rw[x0] at this;rw[<-this]⟩
 obtain⟨v0,q0⟩:=q0
 have q1:(Qao F')[i*3+1]?=some (.int .u32 (f.n:Int)):=by have:=d.fr.cell (i*3+1);rw[x1] at this;rw[<-this]
 have q2:∃v,(Qao F')[i*3+2]?=some v:=⟨_,by have:=d.fr.cell (i*3+2);rw[x2] at this;rw[<-this]⟩
 obtain⟨v2,q2⟩:=q2
 obtain⟨Hat,ar,bj,a7,av,R,aw,bk,C,ax,H_e3,bl⟩:=hid12 a6 l ao z q0 q1 q2 aq e1 e2 e3 r
 clear a6 l ao z q0 q1 q2 aq e1 e2 e3 r d B x0 x2 c0 c1 c2 d2 al
 go_wp2_with fail
 refine bk.out.mono ?_
 rintro e w2 ⟨rfl,ay,E⟩
 have d:=ar.out.pool
 have a8:=d.mp.step E (by decide)
 have aa:=d.fr.step E (by decide)
 have az:=d.hd.step E (by decide)
 rw[C.out] at a8
 have y3:=az.at 3 (v:=.map (some H.bm)) (by rw[<-C.out];rfl)
 have g1:=aa.at _ R.out
 obtain⟨bo,bq,br,bs⟩:=hid4 ay E a8 aa
 clear ay E a8 aa d az y2 y4 x1
 go_wp2_with fail
 go_region_law (first
  | (refine Qkj (br.out.step (Step.refl w2 τ1 nil).drew (fun h=>h)) f.n (by omega) rfl _ _ rfl rfl rfl ?_
     intro w3 b0 ab
     have b1:=(bs.out.step (Step.refl w2 τ1 nil).drew (fun h=>h)).step ab (by decide)
     obtain⟨bv,b2,x⟩:=hid3 b0 ab b1
     clear b0 ab b1))
 all_goals (
  have k0:=x.out.at _ av.out
  have k1:=x.out.at _ R.out
  have k2:=x.out.at _ aw.out
  have z0:=x.out.fz (i*3)
  have z1:=x.out.fz (i*3+1)
  have z2:=x.out.fz (i*3+2))
 all_goals go_wp2_with fail
 all_goals go_returns
 all_goals (
  have U:Step w1 τ1 w3 τ1 (fun g=>g=tClk\/g=tWhere):=(bq.out.mono (T:=fun g=>g=tClk\/g=tWhere) (fun _ h=>.inl h)).drew.trans (b2.out.mono (fun _ h=>.inr h))
  have b3:g.has g.n=true:=by simp[Fr.has,ai,a1]
  have G:=bv.out
  have l:=ar.out
  rw[<-N,Qfh l.pool.one am.out b3] at G
  have b4:=(bo.out.step (Step.refl w2 τ1 nil).drew (fun h=>h)).step b2.out (by decide)
  rw[<-ax.out] at b4
  rw[<-C.out] at G
  obtain⟨hp,Z⟩:=l.pool.lay U (by decide) (by decide) (by simp[tPg,tClk,tWhere]) (by rw[b9.out];exact hi) Fr.no G b4 (Qse _ _) (fun b P h=>by simp[Fr.no] at h) (OneHas.set l.pool.one i Fr.no (fun j n g _ _ _=>Qk8 n)) (fun n h=>by simp[Fr.has,Fr.no] at h)
  rw[ba.out] at hp
  have p:Step w1 τ1 _ τ1 PoolTag:=(U.mono (T:=PoolTag) (fun g h=>by rcases h with rfl|rfl;exact .inr (.inr (.inr (.inl rfl)));exact .inr (.inr (.inl rfl)))).trans (Z.mono (fun g h=>.inr (.inl h)))
  exact⟨rfl,a7.out _ τ1 (by rw[<-bl.out];exact⟨hp,l.log.step p (fun g hg=>Qbo hg),l.dev.step p (fun g hg=>Qbg hg)⟩) (bj.out.trans (p.mono (T:=PWTag) (fun _ h=>.inl h)))⟩)
theorem Qwf {w:World} {H:PoolH} {F:List Fr} {s:Ck.Clk.St} {L:LogM}(h:PoolW w τ bp bf bd H L D F s) (n:Nat) (hn:n<H.n) (ae:Ck.Clk.pickB s=true) {i:Nat}(hi:Ck.Clk.pickI s=i) (af:i<F.length) {Q:List Int}(E:PoolH->LogM->Dev->Ck.Clk.St->Prop)
 (Y:∀(r:World) (τ1:Tags),PoolW r τ1 bp bf bd H L D F (Ck.Clk.pickS s)->Calls Tryz.prog 133 #[.pointer (some ⟨bp,0,none⟩),.int .i64 (i:Int)] r fun e Z=>e = .returned (.tuple #[])/\∃x z B q k,E x z B q/\x.n=H.n/\PoolW Z k bp bf bd x z B (F.set i Fr.no) q/\Step r τ1 Z k PWTag)
 (C:∀(r:World) (τ1:Tags) (x:PoolH) (z:LogM) (B:Dev) (q:Ck.Clk.St),E x z B q->PoolW r τ1 bp bf bd x z B (F.set i Fr.no) q->Calls Tryz.prog 134 #[.pointer (some ⟨bp,0,none⟩),.int .u32 (n:Int)] r fun e Z=>∃b k,e = .returned (.tuple #[.pointer (some ⟨b,0,none⟩),.int .u16 0])/\r.heap.size<=b/\PageAt Z k (tPg i) b Q/\Step r τ1 Z k nil)
 (l:Qaq (F.set i Fr.no) n=none) :
 Calls Tryz.prog 66 #[.pointer (some ⟨bp,0,none⟩),.int .u32 (n:Int)] w fun e Z=>e = .returned (.tuple #[.int .i64 (i:Int),.int .u16 0])/\∃x z B q b k,E x z B q/\PoolW Z k bp bf bd x z B (F.set i ⟨some (b,Q),n,0⟩) (Ck.Clk.takeS q i)/\Step w τ Z k PWTag:=by
 have h1:=Qft h.pool.ck
 rw[ae,hi] at h1
 have d4:=h.pool.hd.at 4 (v:=.pointer (some ⟨H.bc,0,none⟩)) rfl
 have ag:=h.pool.n1
 have hk:=h.pool.k1
 obtain⟨x,ah,G,ai,a7⟩:=hid5 h1 h l Y C
 clear h1 h l Y C
 go_enter Tryz.func66,Tryz.ntmps66
 go_wp2_with fail
 refine x.out.mono ?_
 rintro e r ⟨rfl,aj,M⟩
 have ak:PoolW r τ bp bf bd H L D F (Ck.Clk.pickS s):=ah.out.turn (ah.out.pool.clk aj M (Qkz s)) (M.mono (T:=PoolTag) (fun g h=>.inr (.inr (.inr (.inl h)))))
 have h2:=ai.out r τ ak
 obtain⟨b6,H2⟩:=hid2 M h2
 clear M h2 aj ak
 go_wp2_with fail
 refine H2.out.mono ?_
 rintro e b7 ⟨rfl,HH,z,B,q,b8,hE,e1,N,ba⟩
 have a1:=(b6.out.mono (T:=PWTag) (fun g h=>.inl (.inr (.inr (.inr (.inl h)))))).trans ba
 have h3:=a7.out b7 b8 HH z B q hE N
 have l:=G.out
 have al:(F.set i Fr.no)[i]?=some Fr.no:=by rw[List.getElem?_set,if_pos rfl,if_pos af]
 have am:∀y,F.set i y=(F.set i Fr.no).set i y:=fun y=>by rw[List.set_set]
 have bb:(F.set i Fr.no).length=F.length:=Y1
 generalize an:F.set i Fr.no=F1 at *
 have ao:n<HH.n:=by rw[e1];exact hn
 have h5121:HH.n<=512:=by rw[e1];exact ag.2
 obtain⟨be,HF1,HE⟩:=hid3 am an hE
 clear am an hE
 have hk1:=N.pool.k1
 have af:i<F1.length:=by omega
 obtain⟨aa,ap,H3,ab,G⟩:=hid5 N a1 h3 al l
 clear N a1 h3 al l bb H2
 go_wp2_with fail
 refine H3.out.mono ?_
 rintro e w2 ⟨b,O,rfl,hlow,aq,ac⟩
 have d:=aa.out.pool.step ac (fun _ _ h=>h)
 have e2:=d.hd.at 2 (v:=HH.vf) rfl
 rw[d.vf] at e2
 obtain⟨c0,c1,c2⟩:=d.cells ab.out
 have z0:=d.fr.fz (i*3)
 have z1:=d.fr.fz (i*3+1)
 have z2:=d.fr.fz (i*3+2)
 have o:Step w2 O (((w2.setCell ⟨bf,i*3,none⟩ (.pointer (some ⟨b,0,none⟩))).setCell ⟨bf,i*3+1,none⟩ (.int .u32 (n:Int))).setCell ⟨bf,i*3+2,none⟩ (.int .u64 0)) O (fun g=>g=tFr) :=
  (((Step.refl w2 O (fun g=>g=tFr)).set d.fr.tag rfl _).set d.fr.tag rfl _).set d.fr.tag rfl _
 have ad:=d.hd.step o (by decide)
 have e3:=ad.at 3 (v:=.map (some HH.bm)) rfl
 have ar:=d.mp.step o (by decide)
 have av:=d.ck.step o (by decide)
 obtain⟨I,aw,bh,bi⟩:=hid4 o ad ar av
 clear o ad ar av
 generalize F1.length=kF at *
 obtain⟨bj,bk,bl⟩:=hid3 d aq ac
 clear d aq ac
 go_wp2_with (at_mapUpdate;go_loud (refine Qca bh.out (by omega) n i ao (by omega) rfl _ _ _ rfl rfl rfl rfl ?_;intro w4 ax R;have e4:=(aw.out.step R (by decide)).at 4 (v:=.pointer (some ⟨HH.bc,0,none⟩)) rfl;have ay:=Qhj (bi.out.step R (by decide)) (i:Int);obtain⟨bn,bo,bq⟩:=hid3 ax R ay;clear ax R ay))
 refine bq.out.mono ?_
 rintro e w5 ⟨rfl,az,b0⟩
 obtain⟨br,b1⟩:=hid2 az b0
 clear az b0
 go_wp2_with fail
 go_ret2
 have d:=bj.out
 have J:=(bo.out.mono (T:=fun g=>g=tWhere\/g=tClk) (fun g h=>.inl h)).trans (b1.out.mono (fun g h=>.inr h))
 have bs:=(I.out.mono (T:=PoolTag) (fun g h=>.inr (.inl h))).trans (J.mono (T:=PoolTag) (fun g h=>by rcases h with h|h;exact .inr (.inr (.inl h));exact .inr (.inr (.inr (.inl h)))))
 have p:=(bl.out.mono (T:=PoolTag) (fun g h=>h.elim)).trans bs
 have b2:=ap.out.trans (p.mono (T:=PWTag) (fun _ h=>.inl h))
 have U:i<F1.length:=(Z4 ab.out).1
 obtain⟨b3,bv⟩:=Qf4 d.one U ab.out rfl ⟨some (b,Q),n,0⟩ (by simp[Fr.has]) G.out
 have a6:=((d.fr.set (i*3) (.pointer (some ⟨b,0,none⟩))).set (i*3+1) (.int .u32 (n:Int))).set (i*3+2) (.int .u64 0)
 have bw:=Qd8 F1 i ⟨some (b,Q),n,0⟩ U
 rw[show ((((Qao F1).set (i*3) (Value.pointer (some ⟨b,0,none⟩))).set (i*3+1) (Value.int .u32 (n:Int))).set (i*3+2) (Value.int .u64 0))=Qao (F1.set i ⟨some (b,Q),n,0⟩) from bw] at a6
 have b4:=bn.out.step b1.out (by decide)
 rw[bv] at b4
 refine⟨rfl,HH,z,B,q,b,O,HE.out,⟨?_,aa.out.log.step p (fun g X=>Qbo X),aa.out.dev.step p (fun g X=>Qbg X)⟩,b2⟩
 rw[be.out]
 refine⟨(aw.out.step J (by decide)),by rw[Y1];exact d.vf,a6.step J (by decide),?_,b4,br.out,d.n1,by rw[Y1];exact d.k1,?_,d.st,b3,?_⟩
 ·intro j c P hb
  rw[List.getElem?_set] at hb
  by_cases e:i=j
  ·subst e
   rw[if_pos rfl,if_pos U] at hb
   cases hb
   exact(bk.out.step I.out (by simp[tPg,tFr])).step J (by simp[tPg,tWhere,tClk])
  ·rw[if_neg e] at hb
   exact((d.pg j c P hb).step I.out (by simp[tPg,tFr])).step J (by simp[tPg,tWhere,tClk])
 ·rw[Y1]
  have e:(Ck.Clk.takeS q i).n=q.n:=by unfold Ck.Clk.takeS;split <;> rfl
  rw[e];exact d.sn
 ·intro j m g X hh
  rw[List.getElem?_set] at X
  by_cases e:i=j
  ·rw[if_pos e,if_pos U] at X
   cases X
   simp only[Fr.has,Bool.and_eq_true,beq_iff_eq] at hh
   rw[<-hh.2];exact ao
  ·rw[if_neg e] at X
   exact d.low j m g X hh
theorem Qzz {w:World} {H:PoolH} {F:List Fr} {s:Ck.Clk.St} {L:LogM}(h:PoolW w τ bp bf bd H L D F s) (n:Nat) (hn:n<H.n) (hw:Qaq F n=none) {i:Nat}(hi:i<F.length) {Q:List Int}(E:PoolH->LogM->Dev->Ck.Clk.St->Prop)
 (hb:Calls Tryz.prog 66 #[.pointer (some ⟨bp,0,none⟩),.int .u32 (n:Int)] w fun e B=>e = .returned (.tuple #[.int .i64 (i:Int),.int .u16 0])/\∃j o q l b d,E j o q l/\PoolW B d bp bf bd j o q (F.set i ⟨some (b,Q),n,0⟩) (Ck.Clk.takeS l i)/\Step w τ B d PWTag)
 (hs:∀j o q l,E j o q l->∀k,l.p k<=1000000) :
 Calls Tryz.prog 15 #[.pointer (some ⟨bp,0,none⟩),.int .u32 (n:Int)] w fun e B=>∃j o q l b d,e = .returned (.tuple #[.pointer (some ⟨b,0,none⟩),.int .u16 0])/\E j o q l/\PoolW B d bp bf bd j o q (F.set i ⟨some (b,Q),n,0⟩) (Ck.Clk.pinS (Ck.Clk.touchS (Ck.Clk.takeS l i) i) i)/\Step w τ B d PWTag:=by
 have h512:=h.pool.n1
 have hk:=h.pool.k1
 have d1:=h.pool.hd.at 1 (v:=.int .i64 (H.n:Int)) rfl
 have d3:=h.pool.hd.at 3 (v:=.map (some H.bm)) rfl
 have hwr:=Qb1 H.n (by omega)
 have C:=h.pool.mp.look n (by omega)
 rw[hw] at C
 simp only[Option.getD_none,Option.isSome_none] at C
 obtain⟨H_h,Hb,Hs⟩:=hid3 h hb hs
 clear h hb hs
 go_enter Tryz.func15,Tryz.ntmps15
 go_wp2_with fail
 refine Hb.out.mono ?_
 rintro e w0 ⟨rfl,j,o,q,l,b,d,U,r,G⟩
 have hf:(F.set i ⟨some (b,Q),n,0⟩)[i]?=some ⟨some (b,Q),n,0⟩:=by rw[List.getElem?_set,if_pos rfl,if_pos hi]
 have d4:=r.pool.hd.at 4 (v:=.pointer (some ⟨j.bc,0,none⟩)) rfl
 have h1:=Qgo r.pool.ck (i:Int)
 have hl:(F.set i ⟨some (b,Q),n,0⟩).length=F.length:=Y1
 have I:=Hs.out j o q l U
 obtain⟨J,X,Hf,Hl,HE,Y⟩:=hid6 r G hf hl U I
 clear r G hf hl U I
 have M:=Z2 h1
 clear h1
 go_wp2_with fail
 refine M.out.mono ?_
 rintro e w1 ⟨rfl,N,x⟩
 have y:=J.out.turn (J.out.pool.clk N x (PoolAt.clk_n _).1) (x.mono (T:=PoolTag) (fun g h=>.inr (.inr (.inr (.inl h)))))
 have e4:=y.pool.hd.at 4 (v:=.pointer (some ⟨j.bc,0,none⟩)) rfl
 have h2:=Qis y.pool.ck (i:Int) (by rw[Qqb];exact(Qik i Y.out).1)
 obtain⟨O,Z,H2⟩:=hid3 y x h2
 clear y x h2 N
 go_wp2_with fail
 refine H2.out.mono ?_
 rintro e w2 ⟨rfl,R,z⟩
 have m:=O.out.turn (O.out.pool.clk R z (PoolAt.clk_n _).2.1) (z.mono (T:=PoolTag) (fun g h=>.inr (.inr (.inr (.inl h)))))
 have e2:=m.pool.hd.at 2 (v:=j.vf) rfl
 rw[m.pool.vf,Hl.out] at e2
 obtain⟨c0,c1,c2⟩:=m.pool.cells Hf.out
 simp only[Option.map_some] at c0
 generalize F.length=k at *
 obtain⟨a1,a6⟩:=hid2 m z
 clear m z R
 go_wp2_with fail
 go_ret2
 exact⟨j,o,q,l,b,d,rfl,HE.out,a1.out,X.out.trans ((Z.out.trans a6.out).mono (T:=PWTag) (fun g h=>.inl (.inr (.inr (.inr (.inl h))))))⟩
theorem Qx7 {w:World} {b:Nat}(x y:Nat) (h0:w.cell? ⟨b,0,none⟩=some (.int .u64 (x:Int))) (h1:w.cell? ⟨b,1,none⟩=some (.int .u64 (y:Int))) :
 Calls Tryz.prog 71 #[.slice (some ⟨b,0,none⟩) 2 2] w fun e k=>e = .returned (.int .u64 ((if x=0 then y else x:Nat):Int))/\w=k:=by
 by_cases j:x=0
 ·subst j
  rw[if_pos rfl]
  by_cases l:y=0
  ·subst l
   obtain⟨d,h⟩:=hid2 h0 h1
   clear h0 h1
   go_enter Tryz.func71,Tryz.ntmps71
   go_wp2_with fail
   go_loopw [8] (fun v wr=>∃(i:Nat),i<=2/\v = .int .i64 (i:Int)/\wr=w) (fun v _=>2-(intOf v).toNat)
   case atStart=>exact⟨0,by omega,rfl,rfl⟩
   case round =>
    obtain⟨i,hi,rfl,rfl⟩:=hrel
    rcases (by omega:i=0\/i=1\/i=2) with rfl|rfl|rfl
    ·have h0:=d.out
     go_wp2_with fail
     go_round
     case rel=>exact⟨1,by omega,by simp,trivial⟩
     case measure=>simp[intOf]
    ·have h1:=h.out
     go_wp2_with fail
     go_round
     case rel=>exact⟨2,by omega,by simp,trivial⟩
     case measure=>simp[intOf]
    ·go_wp2_with fail
     go_returns
     exact⟨rfl,rfl⟩
  ·have hy':¬(y:Int)=0:=by omega
   obtain⟨d,h⟩:=hid2 h0 h1
   clear h0 h1
   go_enter Tryz.func71,Tryz.ntmps71
   go_wp2_with fail
   go_loopw [8] (fun v wr=>∃(i:Nat),i<=1/\v = .int .i64 (i:Int)/\wr=w) (fun v _=>2-(intOf v).toNat)
   case atStart=>exact⟨0,by omega,rfl,rfl⟩
   case round =>
    obtain⟨i,hi,rfl,rfl⟩:=hrel
    rcases (by omega:i=0\/i=1) with rfl|rfl
    ·have h0:=d.out
     go_wp2_with fail
     go_round
     case rel=>exact⟨1,by omega,by simp,trivial⟩
     case measure=>simp[intOf]
    ·have h1:=h.out
     go_wp2_with fail
     go_returns
     exact⟨rfl,rfl⟩
 ·rw[if_neg j]
  have hx':¬(x:Int)=0:=by omega
  go_enter Tryz.func71,Tryz.ntmps71
  go_wp2_with fail
  go_loopw [8] (fun v wr=>v = .int .i64 0/\wr=w) (fun v _=>2-(intOf v).toNat)
  case atStart=>exact⟨rfl,rfl⟩
  case round =>
   obtain⟨rfl,rfl⟩:=hrel
   go_wp2_with fail
   go_returns
   exact⟨rfl,rfl⟩
theorem Qoa (f:Fr) (b:Nat) (P Q:List Int) (h:f.pg=some (b,P)) (n:Nat):Fr.has {f with pg:=some (b,Q)} n=f.has n:=by unfold Fr.has;rw[h];rfl
theorem Qiy {F:List Fr} {f:Fr}(d:F[i]?=some f) {b:Nat}{P:List Int}(h:f.pg=some (b,P)) (Q:List Int):Qaq (F.set i {f with pg:=some (b,Q)})=Qaq F:=by
 funext n
 unfold Qaq
 induction F generalizing i with
 | nil=>rfl
 | cons g F ih =>
   cases i with
   | zero =>
     have e:g=f:=by simpa using d
     subst e
     rw[List.set_cons_zero,List.findIdx?_cons,List.findIdx?_cons,Qoa _ _ _ _ h]
   | succ i =>
     rw[List.set_cons_succ,List.findIdx?_cons,List.findIdx?_cons,ih (by simpa using d)]
theorem Qjc {F:List Fr} {f:Fr}(d:F[i]?=some f) {b:Nat}{P:List Int}(h:f.pg=some (b,P)) (Q:List Int):Qao (F.set i {f with pg:=some (b,Q)})=Qao F:=by
 induction F generalizing i with
 | nil=>rfl
 | cons g F ih =>
   cases i with
   | zero =>
     have e:g=f:=by simpa using d
     subst e
     show Fr.cells _++Qao F=Fr.cells g++Qao F
     congr 1
     unfold Fr.cells
     rw[h];rfl
   | succ i =>
     show g.cells++Qao (F.set i _)=g.cells++Qao F
     rw[ih (by simpa using d)]
theorem PoolAt.setPage {w y:World} {k:Tags} {H:PoolH} {F:List Fr} {s:Ck.Clk.St}(h:PoolAt w τ bp bf H F s) {i:Nat}{f:Fr}(r:F[i]?=some f) {b:Nat}{P Q:List Int}(l:f.pg=some (b,P)) (m:Step w τ y k (fun g=>g=tPg i)) (G:PageAt y k (tPg i) b Q) :
 PoolAt y k bp bf H (F.set i {f with pg:=some (b,Q)}) s:=by
 obtain⟨hi,hfi⟩:=Z4 r
 have d:∀(j:Nat) (g:Fr),(F.set i {f with pg:=some (b,Q)})[j]?=some g->∃o,F[j]?=some o/\(∀n,g.has n=o.has n)/\(j≠i->g=o):=fun j g x=>by
  by_cases e:i=j
  ·subst e
   rw[List.getElem?_set_self hi] at x
   cases x
   exact⟨f,r,fun n=>Qoa _ _ _ _ l n,fun h=>absurd rfl h⟩
  ·rw[List.getElem?_set_ne e] at x
   exact⟨g,x,fun _=>rfl,fun _=>rfl⟩
 refine⟨h.hd.step m (by simp[tPool,tPg]),by rw[Y1];exact h.vf,by rw[Qjc r l];exact h.fr.step m (by simp[tFr,tPg]),?_,by rw[Qiy r l];exact h.mp.step m (by simp[tWhere,tPg]),h.ck.step m (by simp[tClk,tPg]),h.n1,by rw[Y1];exact h.k1,by rw[Y1];exact h.sn,h.st,?_,?_⟩
 ·intro j c R p
  by_cases e:i=j
  ·subst e
   rw[List.getElem?_set_self hi] at p
   cases p
   exact G
  ·rw[List.getElem?_set_ne e] at p
   exact(h.pg j c R p).step m (by intro q;apply e;simp[tPg] at q;omega)
 ·intro a c n g g2 z p h1 h2
  obtain⟨o,B,C,_⟩:=d a g z
  obtain⟨E,I,J,_⟩:=d c g2 p
  exact h.one a c n o E B I (by rw[<-C];exact h1) (by rw[<-J];exact h2)
 ·intro a n g z h1
  obtain⟨o,B,C,_⟩:=d a g z
  exact h.low a n o B (by rw[<-C];exact h1)
theorem Qi4 (i:Nat):PoolTag (tPg i):=.inr (.inr (.inr (.inr ⟨i,rfl⟩)))
theorem Qzh {w:World} {H:PoolH} {F:List Fr} {s:Ck.Clk.St}(h:PoolAt w τ bp bf H F s) (n lsn:Nat) (hn:n<4294967296) {i:Nat}(hw:Qaq F n=some i) {f:Fr}(L:F[i]?=some f) {b:Nat}{P:List Int}(C:f.pg=some (b,P)) (hs:∀k,s.p k<=1000000) (hpin:Ck.Clk.pinsV s i≠0) (hl0:0<lsn) (M:lsn<18446744073709551616) {nv:Nat}(N:(if f.first=0 then lsn else f.first)=nv) :
 Calls Tryz.prog 16 #[.pointer (some ⟨bp,0,none⟩),.int .u32 (n:Int),.int .u64 (lsn:Int)] w fun e I=>e = .returned (.bool (Ck.Clk.unpinB s i))/\∃O,PoolAt I O bp bf H (F.set i ⟨some (b,layN P 0 (leB lsn 8)),f.n,nv⟩) (Ck.Clk.unpinS s i)/\Step w τ I O PoolTag:=by
 have hk:=h.k1
 have af:=(Z4 L).1
 have d2:=h.hd.at 2 (v:=H.vf) rfl
 rw[h.vf] at d2
 have d3:=h.hd.at 3 (v:=.map (some H.bm)) rfl
 have d4:=h.hd.at 4 (v:=.pointer (some ⟨H.bc,0,none⟩)) rfl
 have R:=h.mp.look n hn
 rw[hw] at R
 simp only[Option.getD_some,Option.isSome_some] at R
 have h1:=Qlw h.ck (i:Int)
 have hP:PageAt w τ (tPg i) b P:=h.pg i b P (by rw[L];exact C)
 have U:=Qnq (Step.refl w τ (fun g=>g=tPg i)) (.inl rfl) hP lsn (by rw[show (2:Nat) ^ 64=18446744073709551616 from by decide];exact M)
 obtain⟨c0,c1,c2⟩:=h.cells L
 rw[C] at c0
 simp only[Option.map_some] at c0
 have hl0':(0:Int)<(lsn:Int):=by omega
 generalize hq:Ck.Clk.pinsV s (i:Int)=q at *
 have hq0:¬(q:Int)=0:=by omega
 generalize x:F.length=k at *
 generalize hQ:layN P 0 (leB lsn 8)=Q at *
 generalize X:f.first=ff at *
 obtain⟨ag,H1,Y,Hf,z,ah,ai⟩:=hid7 h h1 U L x X N
 clear h h1 U L x X N
 go_enter Tryz.func16,Tryz.ntmps16
 go_wp2_with fail
 refine H1.out.mono ?_
 rintro e I ⟨rfl,rfl⟩
 go_wp2_with fail
 refine Y.out.mono ?_
 rintro e J ⟨rfl,τ1,Z,-,E⟩
 have o:=ag.out.setPage Hf.out C E Z
 have r:(F.set i {f with pg:=some (b,Q)})[i]?=some {f with pg:=some (b,Q)}:=List.getElem?_set_self (by rw[z.out];exact af)
 have hl1:(F.set i {f with pg:=some (b,Q)}).length=k:=by rw[Y1];exact z.out
 have a6:∀y,(F.set i {f with pg:=some (b,Q)}).set i y=F.set i y:=fun y=>List.set_set ..
 have aj:({f with pg:=some (b,Q)}:Fr).n=f.n:=rfl
 have ak:({f with pg:=some (b,Q)}:Fr).pg=some (b,Q):=rfl
 have a7:({f with pg:=some (b,Q)}:Fr).first=ff:=ah.out
 generalize F.set i {f with pg:=some (b,Q)}=F1 at *
 generalize ({f with pg:=some (b,Q)}:Fr)=g at *
 obtain⟨x0,x1,x2⟩:=o.cells r
 rw[a7] at x2
 have xz2:=o.fr.fz (i*3+2)
 have a8:∀W:World,W.cell? ⟨J.heap.size,0,none⟩=some (.int .u64 (ff:Int))->W.cell? ⟨J.heap.size,1,none⟩=some (.int .u64 (lsn:Int))->Calls Tryz.prog 71 #[.slice (some ⟨J.heap.size,0,none⟩) 2 2] W fun e I=>e = .returned (.int .u64 ((if ff=0 then lsn else ff:Nat):Int))/\W=I:=fun W a b=>Qx7 ff lsn a b
 have l:=Own.new J τ1 tData 51 [.int .u64 (ff:Int),.int .u64 (lsn:Int)]
 have m:=a8 (J.alloc (.cells #[.int .u64 (ff:Int),.int .u64 (lsn:Int)] 51)) (l.at 0 rfl) (l.at 1 rfl)
 have d:=o.step ((Step.refl J τ1 nil).alloc' (.cells #[.int .u64 (ff:Int),.int .u64 (lsn:Int)] 51)) (fun _ _ h=>h)
 obtain⟨a0,a1,a2⟩:=d.cells r
 have az2:=d.fr.fz (i*3+2)
 rw[ai.out] at m
 obtain⟨j,aa⟩:=d.setFirst r nv
 rw[a6] at j
 have h2:=Qjg j.ck (i:Int) hs
 have y4:=j.hd.at 4 (v:=.pointer (some ⟨H.bc,0,none⟩)) rfl
 have B:=((E.mono (T:=PoolTag) (fun g hg=>by rw[hg];exact Qi4 i)).alloc' (.cells #[.int .u64 (ff:Int),.int .u64 (lsn:Int)] 51)).trans (aa.mono (T:=PoolTag) (fun g hg=>.inr (.inl hg)))
 rw[ak,aj] at j
 rw[a7] at a2
 obtain⟨ab,am,H2,ac⟩:=hid4 m j h2 B
 clear m j h2 B a8 l o d E aa Z Y a6 r
 go_wp2_with fail
 refine ab.out.mono ?_
 rintro e I ⟨rfl,rfl⟩
 go_wp2_with fail
 refine H2.out.mono ?_
 rintro e w3 ⟨rfl,ad,G⟩
 have ae:=am.out.clk ad G (PoolAt.clk_n _).2.2.1
 obtain⟨an,ao⟩:=hid2 ae G
 clear ae G ad
 go_wp2_with fail
 go_ret
 exact⟨rfl,τ1,an.out,ac.out.trans (ao.out.mono (fun g h=>.inr (.inr (.inr (.inl h)))))⟩
theorem Jaa {w:World} {H:PoolH} {F:List Fr} {s:Ck.Clk.St}(h:PoolAt w τ bp bf H F s) (n:Nat) (hn:n<4294967296) (d:Qaq F n=none) :
 Calls Tryz.prog 26 #[.pointer (some ⟨bp,0,none⟩),.int .u32 (n:Int)] w fun e j=>e = .returned (.bool false)/\w=j:=by
 have d3:=h.hd.at 3 (v:=.map (some H.bm)) rfl
 have b:=h.mp.look n hn
 rw[d] at b
 simp only[Option.getD_none,Option.isSome_none] at b
 have H_h:=Z2 h
 clear h
 go_enter Tryz.func26,Tryz.ntmps26
 go_wp2_with fail
 go_ret
 exact⟨rfl,rfl⟩
theorem Qyy {w:World} {H:PoolH} {F:List Fr} {s:Ck.Clk.St}(h:PoolAt w τ bp bf H F s) (n:Nat) (hn:n<4294967296) {i:Nat}(j:Qaq F n=some i) {f:Fr}(d:F[i]?=some f) (h0:f.first=0) :
 Calls Tryz.prog 26 #[.pointer (some ⟨bp,0,none⟩),.int .u32 (n:Int)] w fun e l=>e = .returned (.bool false)/\w=l:=by
 have hk:=h.k1
 have hil:=(Z4 d).1
 have d2:=h.hd.at 2 (v:=H.vf) rfl
 rw[h.vf] at d2
 have d3:=h.hd.at 3 (v:=.map (some H.bm)) rfl
 have b:=h.mp.look n hn
 rw[j] at b
 simp only[Option.getD_some,Option.isSome_some] at b
 obtain⟨c0,c1,c2⟩:=h.cells d
 rw[h0] at c2
 generalize F.length=k at *
 have H_h:=Z2 h
 clear h
 go_enter Tryz.func26,Tryz.ntmps26
 go_wp2_with fail
 go_ret
 exact⟨rfl,rfl⟩
theorem Qyx {w:World} {H:PoolH} {L:LogM} {F:List Fr} {s:Ck.Clk.St}(h:PoolW w τ bp bf bd H L D F s) (I:L.Rise) (j:L.stream.length<=127*L.strips) (o:L.firstS+L.strips<=D.f0.length) (p:4*H.n+4<=D.f1.length) (d:D.lim 600000) (y:H.st+1<18446744073709551616)
 (n:Nat) (hn:n<4294967296) {i:Nat} (M:Qaq F n=some i) {f:Fr} {b:Nat} {P:List Int} (z:F[i]?=some f) (B:f.pg=some (b,P)) (C:f.n<H.n) (h0:0<f.first) {m:Nat} (J:pageLSN P=m) (l:m<18446744073709551616) :
 Calls Tryz.prog 26 #[.pointer (some ⟨bp,0,none⟩),.int .u32 (n:Int)] w fun e N=>e = .returned (.bool true)/\Qwm w τ bp bf bd H L D F s i f P N:=by
 have q:=Qhw h I j o p d y z B C J l
 have hk:=h.pool.k1
 have hil:=(Z4 z).1
 have d2:=h.pool.hd.at 2 (v:=H.vf) rfl
 rw[h.pool.vf] at d2
 have d3:=h.pool.hd.at 3 (v:=.map (some H.bm)) rfl
 have r:=h.pool.mp.look n hn
 rw[M] at r
 simp only[Option.getD_some,Option.isSome_some] at r
 obtain⟨c0,c1,c2⟩:=h.pool.cells z
 have hff:¬(f.first:Int)=0:=by omega
 generalize F.length=k at *
 generalize f.first=ff at *
 have E:=Z2 q
 clear q h I j d J l
 go_enter Tryz.func26,Tryz.ntmps26
 go_wp2_with fail
 refine E.out.mono ?_
 rintro e w1 ⟨rfl,x⟩
 have G:=Z2 x
 clear x
 go_wp2_with fail
 go_ret
 exact⟨rfl,G.out⟩
