/-
 The log: Append of a record of the kind End.
-/
import Derived.Test.YtemacanaihaldaaGreatMRecA
import Derived.Test.YtemacanaihaldaaGreatMPoolQ
set_option maxRecDepth 100000
set_option maxHeartbeats 4000000
set_option linter.all false
namespace Go.Proofs.YtemacanaihaldaaGreat
variable {D:Dev}{bd bf bp i:Nat}{τ:Tags}
open Go.RowKit
theorem Qfx {w:World} {g:Tag} {v:Value} {l:List Nat}(hown:Ints w τ g v l) (x:Nat) {xv:Int}(hxv:xv=(x:Int)) (hsz:l.length≤1000000000) {kb:Nat}(hkb:kb=w.heap.size)
 {ops:Array Oper} {o:Oper} {a:Act} {K:Act→World→Prop} {Q:Exit→Act→World→Prop} {E:Prop} (hgd:o.guard=none) (s y:Operand)
 (hop:o.op = .call {callee:=.builtin .append,args:=#[s,y],argTypes:=#[98,98]}) (hs:a.eval s=v) (hy:a.eval y = .slice (some ⟨kb,0,none⟩) 1 1)
 (h:∀v' w' τ',Ints w' τ' g v' (l++[x])→Step w τ w' τ' (fun t=>t=g)→K (a.put o.dst v') w'):if Region.wanted o (yielded ops a.tmps)=true then Oper.wp Tryz.prog o a (w.alloc (.cells #[.int .i64 xv] 3)) K Q else E:=by
 subst hkb
 subst hxv
 have hw:Region.wanted o (yielded ops a.tmps)=true:=by simp[Region.wanted,hgd]
 rw[if_pos hw]
 obtain⟨i0,hi,hz0,hz1,hz2⟩:=info_parts Tryz.infoInt
 have hal:Step w τ (w.alloc (.cells #[.int .i64 (x:Int)] 3)) τ nil:=(Step.refl w τ nil).alloc' _
 have hn1:=hown.step hal (fun h=>h)
 obtain⟨v',w',τ',hr,hb',he,hm,hnw⟩:=Qap (P:=Tryz.prog) (w.alloc (.cells #[.int .i64 (x:Int)] 3)) τ g 98 o.type 3 i0 (.int .i64 0) 1 8 Tryz.underlying98 hi hz0 hz1 hz2 rfl (by decide) v l.length (i64s l) hn1
  (some ⟨w.heap.size,0,none⟩) 1 1 [.int .i64 (x:Int)] rfl (fun h=>by cases h) (by
    intro ad had;cases had;exact World.news_of_block (cs:=#[.int .i64 (x:Int)]) (t := 3) (fr:=(0,0)) (heap_alloc_new w _)) (by simp[Value.oneCell']) (by unfold maxLen;omega) (by omega)
 unfold Oper.wp execOp
 simp only[hop,resolve,invoke,builtin,Sem.run_bind,Sem.run_pure,Result.andThen_ok,List.map_toArray,List.map_cons,List.map_nil,hs,hy,hr]
 refine h v' w' τ' ?_ ((hal.mono (fun _ h=>h.elim)).trans ⟨hm.mono (fun k hk hS=>(hn1.own k hS).1),he⟩)
 unfold Ints
 rw[List.length_append,Qlj];exact hb'
def LogM.more (L:LogM) (b:List Int):LogM:={L with stream:=L.stream++b,starts:=L.starts++[L.stream.length]}
theorem Qd6 {x:Int}(h0:0≤x) (h:x<9223372036854775808):IntKind.i64.wrap x=x:=by
 obtain⟨n,rfl⟩:∃n:Nat,x=(n:Int):=⟨x.toNat,by omega⟩
 exact Qbr n (by omega)
def w_z (w:World):World:={w with heap:=#[]}
theorem Qyk (w:World) (τ:Tags) (S:Tag→Prop):Step (w_z w) τ w τ S:=⟨⟨rfl,rfl,rfl,by simp[w_z],fun k hk=>absurd hk (by simp[w_z])⟩,fun k hk=>absurd hk (by simp[w_z])⟩
theorem Buf.drew {w:World} {g:Tag} {e:TypeId} {size:Nat} {v:Value} {n:Nat} {xs:List Value}(h:Buf w τ g e size v n xs):Buf w.drew τ g e size v n xs:=h.step (Step.refl w τ Go.Proofs.YtemacanaihaldaaGreat.nil).drew (fun h=>h)
theorem Qpi {w:World} {g:Tag} {v:Value} {l:List Int}(h:Buf w τ g 5 1 v l.length (u8s l)) (hB:IsB l):NB (w_z w).heap.size w τ g v l:=⟨h,hB,fun k _=>Nat.zero_le _⟩
theorem Qws {w:World} {bl:Nat} {L:LogM}(hl:LogAt w τ bl bd L) (hcap:L.stream.length+27≤L.strips*127) (hns:L.starts.length≤100000) (n:Nat) (hn:n<4294967296) :
 Calls Tryz.prog 80 #[.pointer (some ⟨bl,0,none⟩),.agg (Qgc n),.int .u64 0] w fun e w'=>e = .returned (.tuple #[.int .u64 ((L.base+L.stream.length:Nat):Int),.int .u16 0])∧∃τ',LogAt w' τ' bl bd (L.more (recBytes n))∧Step w τ w' τ' LogTag:=by
 have hbase:=hl.ok.base
 have hstr:=hl.ok.strips
 have hok:=hl.ok
 have hB:=hl.isB
 have hrl:=Qdz n
 have hrB:=Qi2 n
 have henc:=fun (W:World) (T:Tags)=>Qtu W T n hn
 have hr:Qgc n=#[.int .u8 6,.int .u32 (n:Int),.int .u64 0,.int .u64 0,.int .u32 0,.int .u16 0,.bool false,.bool false,.slice none 0 0,.slice none 0 0,.slice none 0 0,.slice none 0 0]:=rfl
 simp only[hr] at henc ⊢
 have hstr0:=(Step.refl w τ nil).alloc' (.cells #[.int .u8 6,.int .u32 (n:Int),.int .u64 0,.int .u64 0,.int .u32 0,.int .u16 0,.bool false,.bool false,.slice none 0 0,.slice none 0 0,.slice none 0 0,.slice none 0 0] 127)
 have hl0:=hl.step hstr0 (fun _ _ h=>h)
 generalize recBytes n=rb at *
 obtain⟨Henc,Hstr0,Hl0,HB,Hrl,HrB,Hok⟩:=hid7 henc hstr0 hl0 hB hrl hrB hok
 clear henc hstr0 hl0 hB hrl hrB hok hr hl
 go_enter Tryz.func80,Tryz.ntmps80
 go_wp2_with fail
 refine(Henc.out _ τ).mono ?_
 rintro e w1 ⟨u1,τ1,rfl,hnb1,hs1⟩
 have hl1:=Hl0.out.step hs1 (fun _ _ h=>h)
 have hst1:=Hstr0.out.trans hs1
 obtain⟨b1,cap1,ys1,rfl,-,-,-,-,-⟩:=hnb1.row (by rw[Hrl.out];omega)
 rw[Hrl.out] at hnb1 ⊢
 have hby1:=hnb1.bytes
 have hroom:=Qnj (hl1.step (Step.refl w1 τ1 nil).drew (fun _ _ h=>h))
 obtain⟨vs,vt,ho1,hs1s,hs1t⟩:=hl1.is
 obtain⟨ps,cs,rfl⟩:=hs1s.len
 obtain⟨pt,ct,rfl⟩:=hs1t.len
 have c7:=ho1.drew.at 7 (v:=.slice ps L.stream.length cs) rfl
 have hend:=Ql3 (hl1.step (Step.refl w1 τ1 nil).drew (fun _ _ h=>h))
 have hsum:L.base+L.stream.length=L.base+L.stream.length:=rfl
 generalize hen:L.base+L.stream.length=en at *
 generalize hR:L.strips*127=R at *
 have hR3:R≤300000:=by omega
 have hRw:=Qam R (by omega)
 have hRn:¬(R:Int)<0:=by omega
 have hokl:=Hok.out.stream
 have hcap':¬(R:Int)<(L.stream.length:Int)+27:=by omega
 have hq1:∀vs vt,(Qa8 L bd vs vt)[7]?=some vs:=fun _ _=>rfl
 have hq2:∀vs vt,(Qa8 L bd vs vt)[8]?=some vt:=fun _ _=>rfl
 have hmore:∀vs vt a b,((Qa8 L bd vs vt).set 8 b).set 7 a=Qa8 (L.more rb) bd a b:=fun _ _ _ _=>rfl
 have hmokS:(L.more rb).stream=L.stream++rb:=rfl
 have hmokT:(L.more rb).starts=L.starts++[L.stream.length]:=rfl
 have hlst:=Hl0.out.ok.strips
 have hmok:(L.more rb).ok:=⟨Hok.out.stamp,Hok.out.base,Hok.out.check,Hok.out.area,Hok.out.strips,Hok.out.slot,by rw[hmokS,List.length_append,Hrl.out];omega,by rw[hmokT,List.length_append,List.length_singleton];omega,by rw[hmokS,List.length_append];exact Nat.le_trans Hok.out.lasts (Nat.le_add_right _ _)⟩
 have hBm:IsB (L.more rb).stream:=by rw[hmokS];exact HB.out.append HrB.out
 obtain⟨Hst1,Hby1,Hroom,Ho1,Hs1s,Hs1t,Hend,Hq1,Hq2,Hmore,HmokS,HmokT⟩:=hid12 hst1 hby1 hroom ho1 hs1s hs1t hend hq1 hq2 hmore hmokS hmokT
 obtain⟨Hmok,HBm,HR,Hl1⟩:=hid4 hmok hBm hR hl1
 clear hst1 hby1 hroom ho1 hs1s hs1t hend hq1 hq2 hmore hmokS hmokT hmok hBm hR hl1 hsum hs1 hnb1
 generalize hsl:L.stream.length=sl at *
 go_wp2_with fail
 have hd1:decide ((R:Int)<0)=false:=by simp
 have hd0:IntKind.i64.wrap 0=0:=by rfl
 have hdR:IntKind.i64.wrap ((R:Int)-0)=(R:Int):=by rw[Int.sub_zero];exact Qbr R (by omega)
 have hdR':IntKind.i64.wrap (R:Int)=(R:Int):=Qbr R (by omega)
 have hd2:decide ((R:Int)<(sl:Int)+27)=false:=by simp;omega
 have hd3:IntKind.i64.wrap ((sl:Int)+27)=(sl:Int)+27:=Qd6 (by omega) (by omega)
 go_region_held3 (fun w'=>w'.cell? ⟨bl,7,none⟩=some (.slice ps sl cs)) (go_keep) (first
  | (go_at_call 89
     refine Hroom.out.mono ?_
     rintro e w2 ⟨rfl,rfl⟩))
 go_wp2_with fail
 refine Hend.out.mono ?_
 rintro e w2 ⟨rfl,hs2⟩
 have hq2s:=(Step.refl w1 τ1 nil).drew.trans hs2
 have ho2:=(Ho1.out.step hq2s (fun h=>h)).drew
 have hs2s:=(Hs1s.out.step hq2s (fun h=>h)).drew
 have hs2t:=(Hs1t.out.step hq2s (fun h=>h)).drew
 have hby2:=(Hby1.out.step hq2s (fun h=>h)).drew
 have hst2:=(Hst1.out.trans hq2s).drew
 have hlt:=ho2.lt
 generalize hnt:L.starts.length=nt at *
 have c8:=ho2.at 8 (v:=.slice pt nt ct) (Hq2.out _ _)
 have c7':=ho2.at 7 (v:=.slice ps sl cs) (Hq1.out _ _)
 have ht2:Ints w2.drew τ1 Qag (.slice pt nt ct) L.starts:=by unfold Ints;rw[hnt];exact hs2t
 have hoA:=ho2.alloc (.cells #[.int .i64 (sl:Int)] 3)
 have cA8:=hoA.at 8 (v:=.slice pt nt ct) (Hq2.out _ _)
 have cA7:=hoA.at 7 (v:=.slice ps sl cs) (Hq1.out _ _)
 have hSS:w2.drew.cell? ⟨bl,8,none⟩=some (.slice pt nt ct)∧w2.drew.cell? ⟨bl,7,none⟩=some (.slice ps sl cs):=⟨c8,c7'⟩
 obtain⟨Ho2,Hs2s,Hby2,Hst2,Ht2,HoA⟩:=hid6 ho2 hs2s hby2 hst2 ht2 hoA
 clear ho2 hs2s hby2 hst2 ht2 hoA c7 c8 c7' hs2 hq2s hs2t Hst1 Hby1 Ho1 Hs1s Hs1t hd1 hd2 hd3 hd0 hdR hdR'
 go_wp2_with fail
 refine Qaf (S:=fun w':World=>w'.cell? ⟨bl,8,none⟩=some (.slice pt nt ct)∧w'.cell? ⟨bl,7,none⟩=some (.slice ps sl cs)) (by kernel_rfl) ?_
 refine tk0 [0,1,2,3,4,5,6,7,8,9] ?_
 iterate 10
  refine tks (v:=?_) rfl (Or.inl ⟨by rfl,?_⟩) (by assumption) ?_
  rotate_left
  ·intro w hSw;(try dsimp only at hSw);go_simp
   all_goals with_reducible rfl
  try simp only[Act.put,lz1,lz2,lz3]
 refine tk9 ?_
 clear hSS
 refine tk1 10 rfl fun K hK=>?_
 go_simp
 refine hK.out _ _ (fun _=>⟨cA8,cA7⟩) ?_
 clear hK K
 refine tk1 11 rfl fun K hK=>?_
 refine Qfx Ht2.out sl rfl (by rw[hnt];omega) rfl rfl _ _ rfl rfl rfl ?_
 intro v3 w3 τ3 ht3 hs3
 obtain⟨p3,c3,rfl,-,-⟩:=ht3.read
 have ho3:=Ho2.out.step hs3 (by decide)
 have d8:=ho3.at 8 (v:=.slice pt nt ct) (Hq2.out _ _)
 have d7:=ho3.at 7 (v:=.slice ps sl cs) (Hq1.out _ _)
 have z8:=ho3.fz 8
 have ho4:=ho3.set 8 (.slice p3 (L.starts++[sl]).length c3)
 have hq4:Step w3 τ3 (w3.setCell ⟨bl,8,none⟩ (.slice p3 (L.starts++[sl]).length c3)) τ3 (fun t=>t=tLog):=(Step.refl w3 τ3 (fun t=>t=tLog)).set (o:=8) ho3.tag rfl _
 have ht4:=ht3.step hq4 (by decide)
 have hs4:=(Hs2s.out.step hs3 (by decide)).step hq4 (by decide)
 have hby4:=(Hby2.out.step hs3 (by decide)).step hq4 (by decide)
 have hst4:=((Hst2.out.mono (T:=LogTag) (fun _ h=>h.elim)).trans (hs3.mono (T:=LogTag) (fun _ h=>.inr (.inr h)))).trans (hq4.mono (T:=LogTag) (fun _ h=>.inl h))
 obtain⟨Ho4,Ht4,Hs4,Hby4,Hst4⟩:=hid5 ho4 ht4 hs4 hby4 hst4
 clear ho4 ht4 hs4 hby4 hst4 hs3 ht3 ho3 hq4
 generalize (L.starts++[sl]).length=nt2 at *
 refine hK.out _ _ (fun _=>⟨d8,d7⟩) ?_
 clear hK K
 refine tk1 12 rfl fun K hK=>?_
 go_simp
 refine hK.out _ _ (fun _=>⟨d8,d7⟩) ?_
 clear hK K
 refine tk1 13 rfl fun K hK=>?_
 go_simp
 refine hK.out _ _ (fun _=>⟨d8,d7⟩) ?_
 clear hK K
 refine tk1 14 rfl fun K hK=>?_
 go_simp
 refine hK.out _ _ (fun h=>absurd h (by decide +kernel)) ?_
 clear hK K
 refine Qad (by kernel_rfl) ?_ _
 have e7:=Ho4.out.at 7 (v:=.slice ps sl cs) (by rw[List.getElem?_set_ne (by omega)];exact Hq1.out _ _)
 have hnb5:=Qpi (show Buf _ τ3 Qah 5 1 (.slice ps sl cs) L.stream.length (u8s L.stream) by rw[hsl];exact Hs4.out) HB.out
 rw[show w_z (w3.setCell ⟨bl,8,none⟩ (.slice p3 nt2 c3))=w_z (w3.setCell ⟨bl,8,none⟩ (.slice p3 nt2 c3)) from rfl] at hnb5
 have hsz5:L.stream.length+rb.length≤100000000000:=by rw[Hrl.out,hsl];omega
 have hsz6:=Qyk (w3.setCell ⟨bl,8,none⟩ (.slice p3 nt2 c3)) τ3 LogTag
 obtain⟨Hnb5,Hsz5,Hsz6⟩:=hid3 hnb5 hsz5 hsz6
 clear hnb5 hsz5 hsz6 d7 d8 z8
 generalize hw4:w3.setCell ⟨bl,8,none⟩ (.slice p3 nt2 c3)=w4 at *
 go_wp2_with (at_builtin;refine Qal Hsz6.out Hnb5.out Hby4.out Hsz5.out rfl _ _ rfl rfl rfl ?_;intro v5 w5 τ5 hb5 he5 hmo5;obtain⟨p5,c5,rfl⟩:=hb5.val;generalize (L.stream++rb).length=nsl at *;have ho5:=Ho4.out.step hmo5 (by decide);have ht5:=Ht4.out.step hmo5 (by decide);have f7:=ho5.at 7 (v:=.slice ps sl cs) (by rw[List.getElem?_set_ne (by omega)];exact Hq1.out _ _);have z7:=ho5.fz 7;have ho6:=ho5.set 7 (.slice p5 nsl c5);have hq6:Step w5 τ5 (w5.setCell ⟨bl,7,none⟩ (.slice p5 nsl c5)) τ5 (fun t=>t=tLog):=(Step.refl w5 τ5 (fun t=>t=tLog)).set (o:=7) ho5.tag rfl _;have ht6:=ht5.step hq6 (by decide);have hb6:=hb5.step hq6 (by decide);have hst6:=(Hst4.out.trans (hmo5.mono (T:=LogTag) (fun _ h=>.inr (.inl h)))).trans (hq6.mono (T:=LogTag) (fun _ h=>.inl h));obtain⟨Ho6,Ht6,Hb6,Hst6⟩:=hid4 ho6 ht6 hb6 hst6;clear ho6 ht6 hb6 hst6;clear he5 hmo5 ho5 ht5 hq6)
 go_ret2
 have ho7:=Ho6.out
 rw[Hmore.out] at ho7
 refine⟨by first|rfl|(rw[hsl,hen];rfl)|(rw[←hen];rfl),τ5,⟨⟨_,_,ho7,?_,?_⟩,HBm.out,Hmok.out⟩,Hst6.out⟩
 ·rw[HmokS.out];exact Hb6.out.buf
 ·rw[HmokT.out];exact Ht6.out
theorem Qnd {α:Type} {l:List α} {j:Nat} {v:α}(h:l[j]?=some v):l.set j v=l:=by
 apply List.ext_getElem?
 intro i
 by_cases e:i=j
 ·subst e
  rw[List.getElem?_set_self (List.getElem?_eq_some_iff.1 h).1,h]
 ·rw[List.getElem?_set_ne (fun q=>e q.symm)]
theorem Qvw (f:Fr) (v n:Nat):Fr.has {f with first:=v} n=f.has n:=rfl
theorem Qm9 {F:List Fr} {f:Fr}(hf:F[i]?=some f) (v:Nat):Qaq (F.set i {f with first:=v})=Qaq F:=by
 funext n
 unfold Qaq
 induction F generalizing i with
 | nil=>rfl
 | cons g F ih =>
   cases i with
   | zero =>
     have e:g=f:=by simpa using hf
     subst e
     rw[List.set_cons_zero,List.findIdx?_cons,List.findIdx?_cons,Qvw]
   | succ i =>
     rw[List.set_cons_succ,List.findIdx?_cons,List.findIdx?_cons,ih (by simpa using hf)]
theorem Qob {F:List Fr} {f:Fr}(hf:F[i]?=some f) (v:Nat):(Qao F).set (i*3+2) (.int .u64 (v:Int))=Qao (F.set i {f with first:=v}):=by
 obtain⟨hi,hfi⟩:=List.getElem?_eq_some_iff.1 hf
 have h:(((Qao F).set (i*3) (.pointer (f.pg.map (fun x=>(⟨x.1,0,none⟩:Addr))))).set (i*3+1) (.int .u32 (f.n:Int))).set (i*3+2) (.int .u64 (v:Int))=Qao (F.set i {f with first:=v}):=Qd8 F i {f with first:=v} hi
 have h0:(Qao F)[i*3]?=some (.pointer (f.pg.map (fun x=>(⟨x.1,0,none⟩:Addr)))):=by
  have:=Qci F i 0 (by omega) hi
  rw[hfi] at this
  exact this
 have h1:(Qao F)[i*3+1]?=some (.int .u32 (f.n:Int)):=by
  have:=Qci F i 1 (by omega) hi
  rw[hfi] at this
  exact this
 rw[Qnd h0,Qnd h1] at h
 exact h
theorem PoolAt.setFirst {w:World} {H:PoolH} {F:List Fr} {s:Ck.Clk.St}(h:PoolAt w τ bp bf H F s) {i:Nat}{f:Fr}(hf:F[i]?=some f) (v:Nat) :
 PoolAt (w.setCell ⟨bf,i*3+2,none⟩ (.int .u64 (v:Int))) τ bp bf H (F.set i {f with first:=v}) s∧Step w τ (w.setCell ⟨bf,i*3+2,none⟩ (.int .u64 (v:Int))) τ (fun g=>g=tFr):=by
 have m:Step w τ (w.setCell ⟨bf,i*3+2,none⟩ (.int .u64 (v:Int))) τ (fun g=>g=tFr):=(Step.refl w τ (fun g=>g=tFr)).set h.fr.tag rfl _
 have hfr:=h.fr.set (i*3+2) (.int .u64 (v:Int))
 rw[Qob hf] at hfr
 obtain⟨hi,hfi⟩:=List.getElem?_eq_some_iff.1 hf
 have hget:∀(j:Nat) (g:Fr),(F.set i {f with first:=v})[j]?=some g→∃g',F[j]?=some g'∧g'.pg=g.pg∧g'.n=g.n:=fun j g hg=>by
  by_cases e:i=j
  ·subst e
   rw[List.getElem?_set_self hi] at hg
   cases hg
   exact⟨f,hf,rfl,rfl⟩
  ·rw[List.getElem?_set_ne e] at hg
   exact⟨g,hg,rfl,rfl⟩
 refine⟨⟨h.hd.step m (by decide),by rw[List.length_set];exact h.vf,hfr,?_,by rw[Qm9 hf];exact h.mp.step m (by decide),h.ck.step m (by decide),h.n1,by rw[List.length_set];exact h.k1,by rw[List.length_set];exact h.sn,h.st,?_,?_⟩,m⟩
 ·intro j b P hb
  cases hj:(F.set i {f with first:=v})[j]? with
  | none=>rw[hj] at hb;cases hb
  | some g =>
    obtain⟨g',h1,h2,_⟩:=hget j g hj
    rw[hj] at hb
    refine(h.pg j b P ?_).step m (by simp[tPg,tFr])
    rw[h1]
    exact h2.trans hb
 ·intro a b n g g2 ha hb h1 h2
  obtain⟨g',q1,q2,q3⟩:=hget a g ha
  obtain⟨g2',r1,r2,r3⟩:=hget b g2 hb
  exact h.one a b n g' g2' q1 r1 (by unfold Fr.has at *;rw[q2,q3];exact h1) (by unfold Fr.has at *;rw[r2,r3];exact h2)
 ·intro a n g ha h1
  obtain⟨g',q1,q2,q3⟩:=hget a g ha
  exact h.low a n g' q1 (by unfold Fr.has at *;rw[q2,q3];exact h1)
def PWTag (g:Tag):Prop:=PoolTag g∨WalTag g
def flL (L:LogM) (k:Nat):LogM:=if Qbj L k=true then L.flushed k else L
def flD (L:LogM) (D:Dev) (k:Nat):Dev:=if Qbj L k=true then Qdq L D k else D
def wrD (D:Dev) (N n:Nat) (P:List Int) (st:Nat):Dev:=(D.lay 1 (4*N) (sealAll P st)).lay 1 (4*n) (sealAll P st)
theorem Qyt (L:LogM) (D:Dev) (k:Nat):(flD L D k).f1.length=D.f1.length∧(flD L D k).f0.length=D.f0.length:=by
 have h:∀(E:Dev),E.file 1=E.f1:=fun E=>rfl
 have h0:∀(E:Dev),E.file 0=E.f0:=fun E=>rfl
 unfold flD
 by_cases e:Qbj L k=true
 ·rw[if_pos e]
  unfold Qdq
  exact⟨by rw[←h,←h,Dev.lay_length _ _ _ (by omega)],by rw[←h0,←h0,Dev.lay_length _ _ _ (by omega)]⟩
 ·rw[if_neg e];exact⟨rfl,rfl⟩
theorem Qsl {L:LogM}(h:D.Calm) (k:Nat):(flD L D k).Calm:=by
 unfold flD
 by_cases e:Qbj L k=true
 ·rw[if_pos e];exact h.lay (by omega) _ _
 ·rw[if_neg e];exact h
theorem Jgn {L:LogM}(h:D.lim 600000) (hr:L.Rise) (hcap:L.stream.length≤127*L.strips) (hs:L.strips≤2047) (k:Nat):(flD L D k).lim 700000:=by
 unfold flD
 by_cases e:Qbj L k=true
 ·rw[if_pos e]
  have h1:=Qd9 L hr k
  have h2:=LogM.behindK_le hr (k-1)
  have h3:L.flushTo k=L.behindK (k-1):=rfl
  have:=Dev.lay_lim h 0 (L.firstS+L.lasts/127) (by omega) (Qdp L k)
  refine Dev.lim_mono this ?_
  rw[h1]
  unfold parts
  omega
 ·rw[if_neg e];exact Dev.lim_mono h (by omega)
def Qwm (w:World) (τ:Tags) (bp bf bd:Nat) (H:PoolH) (L:LogM) (D:Dev) (F:List Fr) (s:Ck.Clk.St) (i:Nat) (f:Fr) (P:List Int) (w':World):Prop :=
 ∃(k:Nat) (fl:Bool) (τ':Tags),L.AtR (pageLSN P) k fl∧PoolW w' τ' bp bf bd {H with st:=H.st+1} (flL L (k+(if fl then 1 else 0))) (wrD (flD L D (k+(if fl then 1 else 0))) H.n f.n P (H.st+1)) (F.set i {f with first:=0}) s∧Step w τ w' τ' PWTag
theorem Quh {w:World} {H:PoolH} {F:List Fr} {s:Ck.Clk.St}(h:PoolAt w τ bp bf H F s) {w':World}{τ':Tags}(m:Step w τ w' τ' WalTag):PoolAt w' τ' bp bf H F s :=
 h.step m (fun g hg hS=>by
  rcases hS with hS|hS
  ·exact Qbo hS hg
  ·exact(Qbg hg).1 hS)
theorem Qqu (i:Nat):¬WalTag (tPg i):=by
 rintro(h|h)
 ·exact Qbo h (.inr (.inr (.inr (.inr ⟨i,rfl⟩))))
 ·exact(Qbg (.inr (.inr (.inr (.inr ⟨i,rfl⟩))))).1 h
theorem Qhw {w:World} {H:PoolH} {L:LogM} {F:List Fr} {s:Ck.Clk.St}(h:PoolW w τ bp bf bd H L D F s) (hr:L.Rise) (hcap:L.stream.length≤127*L.strips) (hfit0:L.firstS+L.strips≤D.f0.length) (hfit1:4*H.n+4≤D.f1.length) (hcalm:D.lim 600000) (hst:H.st+1<18446744073709551616)
 {i:Nat} {f:Fr} {b:Nat} {P:List Int} (hf:F[i]?=some f) (hpg:f.pg=some (b,P)) (hfn:f.n<H.n) {m:Nat} (hm:pageLSN P=m) (hm64:m<18446744073709551616) :
 Calls Tryz.prog 88 #[.pointer (some ⟨bp,0,none⟩),.pointer (some ⟨bf,i*3,none⟩)] w fun e w'=>e = .returned (.tuple #[])∧Qwm w τ bp bf bd H L D F s i f P w':=by
 have hn512:=h.pool.n1
 have hil:=(List.getElem?_eq_some_iff.1 hf).1
 have hP:PageAt w τ (tPg i) b P:=h.pool.pg i b P (by rw[hf];exact hpg)
 have h448:=hP.len
 obtain⟨c0,c1,c2⟩:=h.pool.cells hf
 rw[hpg] at c0
 simp only[Option.map_some] at c0
 have d0:=h.pool.hd.at 0 (v:=.pointer (some ⟨H.bl,0,none⟩)) rfl
 have hlsn:=Qhe (hP.step (Step.refl w τ nil).drew (fun h=>h))
 rw[hm] at hlsn
 have hfl:=Qor (h.log.step (Step.refl w τ nil).drew (fun _ _ h=>h)) (h.dev.step (Step.refl w τ nil).drew (fun _ h=>h.elim)) hr hcap hfit0 (Dev.lim_mono hcalm (by omega)) m hm64
 have z5:=h.pool.hd.fz 5
 have hpd:=h.pool.step (Step.refl w τ nil).drew (fun _ _ h=>h)
 have hPd:=hP.step (Step.refl w τ nil).drew (fun h=>h)
 have hcalmF:=fun k=>Jgn hcalm hr hcap h.log.ok.strips k
 obtain⟨Hlsn,Hfl,Hpd,HPd,Hf,HcalmF⟩:=hid6 hlsn hfl hpd hPd hf hcalmF
 clear hlsn hfl hpd hPd hf hcalmF h hP hcap hr hcalm
 go_enter Tryz.func88,Tryz.ntmps88
 go_wp2_with fail
 go_region_held3 (fun w'=>w'.cell? ⟨bp,0,none⟩=some (.pointer (some ⟨H.bl,0,none⟩))∧w'.cell? ⟨bf,i*3,none⟩=some (.pointer (some ⟨b,0,none⟩))) (go_keep) (first
  | (go_at_call 156
     refine Hlsn.out.mono ?_
     rintro e w2 ⟨rfl,rfl⟩)
  | (go_at_call 38
     refine Hfl.out.mono ?_
     rintro e w1 ⟨rfl,k,fl,hat,τ1,hl1,hd1,hs1⟩
     have hp1:=Quh Hpd.out hs1
     have hP1:=HPd.out.step hs1 (Qqu i)
     obtain⟨x0,x1,x2⟩:=hp1.cells Hf.out
     rw[hpg] at x0
     simp only[Option.map_some] at x0
     have y0:=hp1.hd.at 0 (v:=.pointer (some ⟨H.bl,0,none⟩)) rfl
     have y5:=hp1.hd.at 5 (v:=.int .u64 (H.st:Int)) rfl
     have yz5:=hp1.hd.fz 5
     have yz0:=hp1.hd.fz 0
     obtain⟨Hat,Hl1,Hd1,Hs1,Hp1,HP1⟩:=hid6 hat hl1 hd1 hs1 hp1 hP1
     clear hat hl1 hd1 hs1 hp1 hP1))
 have hd1f:=Qyt L D (k+(if fl=true then 1 else 0))
 have hcalm1:=HcalmF.out (k+(if fl=true then 1 else 0))
 have hlE:LogAt w1 τ1 H.bl bd (flL L (k+(if fl=true then 1 else 0))):=Hl1.out
 have hdE:DevAt w1 τ1 bd (flD L D (k+(if fl=true then 1 else 0))):=Hd1.out
 have hWR:∀(w':World) (τ':Tags),PoolW w' τ' bp bf bd {H with st:=H.st+1} (flL L (k+(if fl=true then 1 else 0))) (wrD (flD L D (k+(if fl=true then 1 else 0))) H.n f.n P (H.st+1)) (F.set i {f with first:=0}) s→Step w τ w' τ' PWTag→Qwm w τ bp bf bd H L D F s i f P w' :=
  fun w' τ' h1 h2=>⟨k,fl,τ',by rw[hm];exact Hat.out,h1,h2⟩
 generalize flL L (k+(if fl=true then 1 else 0))=L1 at *
 generalize hE:flD L D (k+(if fl=true then 1 else 0))=E at *
 have hwst:=Qam (H.st+1) hst
 have hwst':IntKind.u64.wrap ((H.st:Int)+1)=((H.st+1:Nat):Int):=hwst
 have hps:=Hp1.out.setSt (H.st+1) hst
 have hms:Step w1 τ1 (w1.setCell ⟨bp,5,none⟩ (.int .u64 ((H.st+1:Nat):Int))) τ1 (fun g=>g=tPool):=(Step.refl w1 τ1 (fun g=>g=tPool)).set Hp1.out.hd.tag rfl _
 have hl2:=hlE.step hms (fun g hg=>by rintro rfl;exact Qbo hg (.inl rfl))
 have hd2:=hdE.step hms (fun g hg=>by subst hg;exact Qbg (.inl rfl))
 have hP2:=HP1.out.step hms (by simp[tPg,tPool])
 have hstA:=(Hs1.out.mono (T:=PWTag) (fun _ h=>.inr h)).trans (hms.mono (T:=PWTag) (fun g hg=>.inl (.inl hg)))
 generalize hS1:H.st+1=S1 at *
 obtain⟨Hps,Hl2,Hd2,HP2,HstA,HWR,Hcalm1,Hd1f,HS1⟩:=hid9 hps hl2 hd2 hP2 hstA hWR hcalm1 hd1f hS1
 clear hps hl2 hd2 hP2 hstA hWR hcalm1 hd1f hS1 hms hwst hlE hdE Hs1 Hp1 Hl1 Hd1 HP1 Hpd HPd Hfl Hlsn
 go_wp2_with fail
 generalize hw2:w1.setCell ⟨bp,5,none⟩ (.int .u64 (S1:Int))=w2 at *
 have hp2:=Hps.out
 obtain⟨g0,g1,g2⟩:=hp2.cells Hf.out
 rw[hpg] at g0
 simp only[Option.map_some] at g0
 have g5:=hp2.hd.at 5 (v:=.int .u64 (S1:Int)) rfl
 have hby:=Qhy (HP2.out.step (Step.refl w2 τ1 nil).drew (fun h=>h)) tData
 have hpd2:=hp2.step (Step.refl w2 τ1 nil).drew (fun _ _ h=>h)
 have hS64:S1<2 ^ 64:=by rw[show (2:Nat) ^ 64=18446744073709551616 from by decide];exact hst
 obtain⟨Hby,Hpd2,HS64,H448⟩:=hid4 hby hpd2 hS64 h448
 clear hby hpd2 hS64 h448 hp2 hw2 x0 x1 x2 y0 y5 yz5 yz0 c0 c1 c2 d0 z5
 go_region_held3 (fun w'=>w'.cell? ⟨bf,i*3,none⟩=some (.pointer (some ⟨b,0,none⟩))∧w'.cell? ⟨bp,5,none⟩=some (.int .u64 (S1:Int))) (go_keep) (first
  | (go_at_call 18
     refine Hby.out.mono ?_
     rintro e w3 ⟨u3,τ3,rfl,hb3,hs3⟩
     have hse:=Qw5 hb3.bytes H448.out S1 HS64.out
     have hp3:=Hpd2.out.step hs3 (fun _ _ h=>h)
     obtain⟨p3,c3,rfl⟩:=hb3.val
     obtain⟨r0,r1,r2⟩:=hp3.cells Hf.out
     rw[hpg] at r0
     simp only[Option.map_some] at r0
     have r5:=hp3.hd.at 5 (v:=.int .u64 (S1:Int)) rfl
     obtain⟨Hse,Hs3,Hp3⟩:=hid3 hse hs3 hp3
     clear hse hs3 hp3
     clear hb3)
  | (go_at_call 157
     refine Hse.out.mono ?_
     rintro e w4 ⟨u4,τ4,rfl,hnr4,hs4⟩
     have hp4:=Hp3.out.step hs4 (fun _ _ h=>h)
     obtain⟨p4,c4,rfl⟩:=hnr4.val
     obtain⟨q0,q1,q2⟩:=hp4.cells Hf.out
     rw[hpg] at q0
     simp only[Option.map_some] at q0
     have q5:=hp4.hd.at 5 (v:=.int .u64 (S1:Int)) rfl
     have q5a:=hp4.hd.at 1 (v:=.int .i64 (H.n:Int)) rfl
     obtain⟨Hnr4,Hs4,Hp4⟩:=hid3 hnr4 hs4 hp4
     clear hnr4 hs4 hp4))
 have hls4:=Qet P S1
 have hcal0:(E.lay 1 (4*H.n) (sealAll P S1)).lim 800000:=Dev.lim_mono (Dev.lay_lim Hcalm1.out 1 (4*H.n) (by omega) _) (by rw[hls4];omega)
 have hfE:E.f1.length=D.f1.length:=Hd1f.out.1
 have hEl:=Dev.lay_length E 1 (4*H.n) (by omega) (sealAll P S1) 1
 have hfl1:∀(E:Dev),E.file 1=E.f1:=fun E=>rfl
 rw[hfl1,hfl1] at hEl
 have hwrd:wrD E H.n f.n P S1=(E.lay 1 (4*H.n) (sealAll P S1)).lay 1 (4*f.n) (sealAll P S1):=rfl
 rw[hwrd] at HWR
 generalize sealAll P S1=ls at *
 have hq24:=(Step.refl w2 τ1 nil).drew.trans (Hs3.out.trans Hs4.out)
 have hl4:=Hl2.out.step hq24 (fun _ _ h=>h)
 have hd4:=Hd2.out.step hq24 (fun _ h=>h.elim)
 have hnr4:=Hnr4.out.row
 rw[hls4] at hnr4 ⊢
 have hlay1:=Qkw Hp4.out.hd hl4 hd4 H.n (by rw[hfE];exact hfit1) hnr4 (by simp[DevTag,tOut]) hls4 (Dev.lim_mono Hcalm1.out (by omega))
 have hst4:=HstA.out.trans (hq24.mono (T:=PWTag) (fun _ h=>h.elim))
 obtain⟨Hlay1,Hst4,Hl4,Hnr4,Hls4,Hcal0,HfE,HEl,Hfl1⟩:=hid9 hlay1 hst4 hl4 hnr4 hls4 hcal0 hfE hEl hfl1
 clear hlay1 hst4 hl4 hnr4 hls4 hcal0 hfE hEl hfl1 hq24 hd4 Hby Hse Hs3 Hs4 Hp3 Hpd2 Hl2 Hd2 hwrd
 go_wp2_with fail
 refine Hlay1.out.mono ?_
 rintro e w5 ⟨rfl,τ5,hd5,hs5⟩
 have hp5:=Hp4.out.step hs5 (fun g hg hS=>(Qbg hg).1 hS)
 have hl5:=Hl4.out.step hs5 Qau
 have hnr5:=Hnr4.out.step hs5 (by simp[DevTag,tOut]) Qay
 have hlay2:=Qkw hp5.hd hl5 hd5 f.n (by rw[HEl.out,HfE.out];omega) hnr5 (by simp[DevTag,tOut]) Hls4.out Hcal0.out
 obtain⟨k0,k1,k2⟩:=hp5.cells Hf.out
 have hst5:=Hst4.out.trans (hs5.mono (T:=PWTag) (fun _ h=>.inr (.inr h)))
 obtain⟨Hlay2,Hp5,Hl5,Hst5⟩:=hid4 hlay2 hp5 hl5 hst5
 clear hlay2 hp5 hl5 hst5 hd5 hs5 hnr5 Hlay1 Hst4 Hl4
 go_wp2_with fail
 refine Hlay2.out.mono ?_
 rintro e w6 ⟨rfl,τ6,hd6,hs6⟩
 have hp6:=Hp5.out.step hs6 (fun g hg hS=>(Qbg hg).1 hS)
 have hl6:=Hl5.out.step hs6 Qau
 obtain⟨m0,m1,m2⟩:=hp6.cells Hf.out
 have mz2:=hp6.fr.fz (i*3+2)
 obtain⟨hp7,hs7⟩:=hp6.setFirst Hf.out 0
 have hl7:=hl6.step hs7 (fun g hg=>by rintro rfl;exact Qbo hg (.inr (.inl rfl)))
 have hd7:=hd6.step hs7 (fun g hg=>by subst hg;exact Qbg (.inr (.inl rfl)))
 have hst7:=(Hst5.out.trans (hs6.mono (T:=PWTag) (fun _ h=>.inr (.inr h)))).trans (hs7.mono (T:=PWTag) (fun g hg=>.inl (.inr (.inl hg))))
 obtain⟨Hp7,Hl7,Hd7,Hst7⟩:=hid4 hp7 hl7 hd7 hst7
 clear hp7 hl7 hd7 hst7 hp6 hl6 hd6 hs6 hs7
 go_wp2_with fail
 go_returns
 exact⟨rfl,HWR.out _ τ6 ⟨Hp7.out,Hl7.out,Hd7.out⟩ ((Step.refl w τ PWTag).drew.trans Hst7.out)⟩
theorem Qy1 {n:Nat}(h:0<n):(0:Int)<(n:Int):=by omega
theorem Qrk {w:World} {H:PoolH} {L:LogM} {F:List Fr} {s:Ck.Clk.St}(h:PoolW w τ bp bf bd H L D F s) (hr:L.Rise) (hcap:L.stream.length≤127*L.strips) (hfit0:L.firstS+L.strips≤D.f0.length) (hfit1:4*H.n+4≤D.f1.length) (hcalm:D.lim 600000) (hst:H.st+1<18446744073709551616)
 {i:Nat} {f:Fr} {b:Nat} {P:List Int} (hf:F[i]?=some f) (hpg:f.pg=some (b,P)) (hfn:f.n<H.n) (h0:0<f.first) {m:Nat} (hm:pageLSN P=m) (hm64:m<18446744073709551616) :
 Calls Tryz.prog 133 #[.pointer (some ⟨bp,0,none⟩),.int .i64 (i:Int)] w fun e w'=>e = .returned (.tuple #[])∧∃(k:Nat) (fl:Bool) (τ':Tags),L.AtR (pageLSN P) k fl∧PoolW w' τ' bp bf bd {H with st:=H.st+1} (flL L (k+(if fl then 1 else 0))) (wrD (flD L D (k+(if fl then 1 else 0))) H.n f.n P (H.st+1)) (F.set i Fr.no) (Ck.Clk.leaveS s i)∧Step w τ w' τ' PWTag:=by
 have hwr:=Qhw h hr hcap hfit0 hfit1 hcalm hst hf hpg hfn hm hm64
 obtain⟨c0,c1,c2⟩:=h.pool.cells hf
 rw[hpg] at c0
 simp only[Option.map_some] at c0
 have d2:=h.pool.hd.at 2 (v:=H.vf) rfl
 rw[h.pool.vf] at d2
 have hk:=h.pool.k1
 have hi:i<F.length:=(List.getElem?_eq_some_iff.1 hf).1
 have hf0:=Qy1 h0
 have hn512:=h.pool.n1
 have hf':(F.set i {f with first:=0})[i]?=some {f with first:=0}:=by rw[List.getElem?_set_self hi]
 have hl':(F.set i {f with first:=0}).length=F.length:=List.length_set
 have hss:(F.set i {f with first:=0}).set i Fr.no=F.set i Fr.no:=List.set_set ..
 have hf1n:({f with first:=0}:Fr).n=f.n:=rfl
 have hf1p:({f with first:=0}:Fr).pg=f.pg:=rfl
 have hf1f:({f with first:=0}:Fr).first=0:=rfl
 have hvf:H.vf = .slice (some ⟨bf,0,none⟩) F.length F.length:=h.pool.vf
 generalize hF':F.set i {f with first:=0}=F' at *
 generalize hg:({f with first:=0}:Fr)=g at *
 generalize hlen:F.length=k at *
 obtain⟨Hwr,Hf⟩:=hid2 hwr hf
 have Hf':=Lib.hid hf'
 have Hl':=Lib.hid hl'
 obtain⟨Hss,Hlen,Hvf⟩:=hid3 hss hlen hvf
 have HF':=Lib.hid hF'
 have Hg:=Lib.hid hg
 clear hwr hf hf' hl' hss hlen hvf hF' hg h hcap hr hm hm64 hcalm
 go_enter Tryz.func133,Tryz.ntmps133
 go_wp2_with fail
 refine Hwr.out.mono ?_
 rintro e w1 ⟨rfl,kk,fl,τ1,hat,hp1,hs1⟩
 rw[Hg.out,HF'.out] at hp1
 have hwant:∀(w':World) (τ':Tags),PoolW w' τ' bp bf bd {H with st:=H.st+1} (flL L (kk+(if fl then 1 else 0))) (wrD (flD L D (kk+(if fl then 1 else 0))) H.n f.n P (H.st+1)) (F.set i Fr.no) (Ck.Clk.leaveS s i)→Step w τ w' τ' PWTag→∃(k:Nat) (fl:Bool) (τ':Tags),L.AtR (pageLSN P) k fl∧PoolW w' τ' bp bf bd {H with st:=H.st+1} (flL L (k+(if fl then 1 else 0))) (wrD (flD L D (k+(if fl then 1 else 0))) H.n f.n P (H.st+1)) (F.set i Fr.no) (Ck.Clk.leaveS s i)∧Step w τ w' τ' PWTag :=
  fun w' τ' h1 h2=>⟨kk,fl,τ',hat,h1,h2⟩
 generalize flL L (kk+(if fl=true then 1 else 0))=L1 at *
 generalize wrD (flD L D (kk+(if fl=true then 1 else 0))) H.n f.n P (H.st+1)=D1 at *
 obtain⟨H1,hH1⟩:∃H1:PoolH,H1={H with st:=H.st+1}:=⟨_,rfl⟩
 have e1:H1.bm=H.bm:=by rw[hH1]
 have e2:H1.bc=H.bc:=by rw[hH1]
 have e3:H1.vf=H.vf:=by rw[hH1]
 rw[←hH1] at hp1
 have hpp:=hp1.pool
 obtain⟨x0,x1,x2⟩:=hpp.cells Hf'.out
 rw[hf1n] at x1
 have y2:=hpp.hd.at 2 (v:=.slice (some ⟨bf,0,none⟩) k k) (by rw[←Hvf.out,←e3];rfl)
 have y3:=hpp.hd.at 3 (v:=.map (some H.bm)) (by rw[←e1];rfl)
 have y4:=hpp.hd.at 4 (v:=.pointer (some ⟨H.bc,0,none⟩)) (by rw[←e2];rfl)
 have hck1:=hpp.ck
 rw[e2] at hck1
 have hlv:=Qjh hck1 (i:Int)
 have q0:∃v,(Qao F')[i*3]?=some v:=⟨_,by have:=hpp.fr.cell (i*3);rw[x0] at this;rw[←this]⟩
 obtain⟨v0,q0⟩:=q0
 have q1:(Qao F')[i*3+1]?=some (.int .u32 (f.n:Int)):=by have:=hpp.fr.cell (i*3+1);rw[x1] at this;rw[←this]
 have q2:∃v,(Qao F')[i*3+2]?=some v:=⟨_,by have:=hpp.fr.cell (i*3+2);rw[x2] at this;rw[←this]⟩
 obtain⟨v2,q2⟩:=q2
 obtain⟨Hat,Hp1,Hs1,Hwant,H_q0,H_q1,H_q2,Hlv,H_e1,H_e2,H_e3,HH1⟩:=hid12 hat hp1 hs1 hwant q0 q1 q2 hlv e1 e2 e3 hH1
 clear hat hp1 hs1 hwant q0 q1 q2 hlv e1 e2 e3 hH1 hpp hck1 x0 x2 c0 c1 c2 d2 Hwr
 go_wp2_with fail
 refine Hlv.out.mono ?_
 rintro e w2 ⟨rfl,hc2,hs2⟩
 have hpp:=Hp1.out.pool
 have hm2:=hpp.mp.step hs2 (by decide)
 have ho2:=hpp.fr.step hs2 (by decide)
 have hd2:=hpp.hd.step hs2 (by decide)
 rw[H_e1.out] at hm2
 have y3:=hd2.at 3 (v:=.map (some H.bm)) (by rw[←H_e1.out];rfl)
 have g1:=ho2.at _ H_q1.out
 obtain⟨Hc2,Hs2,Hm2,Ho2⟩:=hid4 hc2 hs2 hm2 ho2
 clear hc2 hs2 hm2 ho2 hpp hd2 y2 y4 x1
 go_wp2_with fail
 go_region_law (first
  | (refine Qkj (Hm2.out.step (Step.refl w2 τ1 nil).drew (fun h=>h)) f.n (by omega) rfl _ _ rfl rfl rfl ?_
     intro w3 hm3 hs3
     have ho3:=(Ho2.out.step (Step.refl w2 τ1 nil).drew (fun h=>h)).step hs3 (by decide)
     obtain⟨Hm3,Hs3,Ho3⟩:=hid3 hm3 hs3 ho3
     clear hm3 hs3 ho3))
 all_goals (
  have k0:=Ho3.out.at _ H_q0.out
  have k1:=Ho3.out.at _ H_q1.out
  have k2:=Ho3.out.at _ H_q2.out
  have z0:=Ho3.out.fz (i*3)
  have z1:=Ho3.out.fz (i*3+1)
  have z2:=Ho3.out.fz (i*3+2))
 all_goals go_wp2_with fail
 all_goals go_returns
 all_goals (
  have hall:Step w1 τ1 w3 τ1 (fun g=>g=tClk∨g=tWhere):=(Hs2.out.mono (T:=fun g=>g=tClk∨g=tWhere) (fun _ h=>.inl h)).drew.trans (Hs3.out.mono (fun _ h=>.inr h))
  have hhas:g.has g.n=true:=by simp[Fr.has,hf1p,hpg]
  have hmap:=Hm3.out
  have hp1:=Hp1.out
  rw[←hf1n,Qfh hp1.pool.one Hf'.out hhas] at hmap
  have hcc:=(Hc2.out.step (Step.refl w2 τ1 nil).drew (fun h=>h)).step Hs3.out (by decide)
  rw[←H_e2.out] at hcc
  rw[←H_e1.out] at hmap
  obtain⟨hp,hst⟩:=hp1.pool.lay hall (by decide) (by decide) (by simp[tPg,tClk,tWhere]) (by rw[Hl'.out];exact hi) Fr.no hmap hcc (Qse _ _) (fun b P h=>by simp[Fr.no] at h) (OneHas.set hp1.pool.one i Fr.no (fun j n g _ _ _=>Qk8 n)) (fun n h=>by simp[Fr.has,Fr.no] at h)
  rw[Hss.out] at hp
  have hallP:Step w1 τ1 _ τ1 PoolTag:=(hall.mono (T:=PoolTag) (fun g h=>by rcases h with rfl|rfl;exact .inr (.inr (.inr (.inl rfl)));exact .inr (.inr (.inl rfl)))).trans (hst.mono (fun g h=>.inr (.inl h)))
  exact⟨rfl,Hwant.out _ τ1 (by rw[←HH1.out];exact⟨hp,hp1.log.step hallP (fun g hg=>Qbo hg),hp1.dev.step hallP (fun g hg=>Qbg hg)⟩) (Hs1.out.trans (hallP.mono (T:=PWTag) (fun _ h=>.inl h)))⟩)
theorem Qwf {w:World} {H:PoolH} {F:List Fr} {s:Ck.Clk.St} {L:LogM}(h:PoolW w τ bp bf bd H L D F s) (n:Nat) (hn:n<H.n) (hyes:Ck.Clk.pickB s=true) {i:Nat}(hi:Ck.Clk.pickI s=i) (hil:i<F.length) {Q:List Int}(E:PoolH→LogM→Dev→Ck.Clk.St→Prop)
 (hemp:∀(w1:World) (τ1:Tags),PoolW w1 τ1 bp bf bd H L D F (Ck.Clk.pickS s)→Calls Tryz.prog 133 #[.pointer (some ⟨bp,0,none⟩),.int .i64 (i:Int)] w1 fun e w'=>e = .returned (.tuple #[])∧∃H1 L1 D1 s1 τ',E H1 L1 D1 s1∧H1.n=H.n∧PoolW w' τ' bp bf bd H1 L1 D1 (F.set i Fr.no) s1∧Step w1 τ1 w' τ' PWTag)
 (hload:∀(w1:World) (τ1:Tags) (H1:PoolH) (L1:LogM) (D1:Dev) (s1:Ck.Clk.St),E H1 L1 D1 s1→PoolW w1 τ1 bp bf bd H1 L1 D1 (F.set i Fr.no) s1→Calls Tryz.prog 134 #[.pointer (some ⟨bp,0,none⟩),.int .u32 (n:Int)] w1 fun e w'=>∃b τ',e = .returned (.tuple #[.pointer (some ⟨b,0,none⟩),.int .u16 0])∧w1.heap.size≤b∧PageAt w' τ' (tPg i) b Q∧Step w1 τ1 w' τ' nil)
 (hnob:Qaq (F.set i Fr.no) n=none) :
 Calls Tryz.prog 66 #[.pointer (some ⟨bp,0,none⟩),.int .u32 (n:Int)] w fun e w'=>e = .returned (.tuple #[.int .i64 (i:Int),.int .u16 0])∧∃H1 L1 D1 s1 b τ',E H1 L1 D1 s1∧PoolW w' τ' bp bf bd H1 L1 D1 (F.set i ⟨some (b,Q),n,0⟩) (Ck.Clk.takeS s1 i)∧Step w τ w' τ' PWTag:=by
 have h1:=Qft h.pool.ck
 rw[hyes,hi] at h1
 have d4:=h.pool.hd.at 4 (v:=.pointer (some ⟨H.bc,0,none⟩)) rfl
 have h512:=h.pool.n1
 have hk:=h.pool.k1
 obtain⟨H1,H_h,Hnob,Hemp,Hload⟩:=hid5 h1 h hnob hemp hload
 clear h1 h hnob hemp hload
 go_enter Tryz.func66,Tryz.ntmps66
 go_wp2_with fail
 refine H1.out.mono ?_
 rintro e w1 ⟨rfl,hc1,hs1⟩
 have hp1:PoolW w1 τ bp bf bd H L D F (Ck.Clk.pickS s):=H_h.out.turn (H_h.out.pool.clk hc1 hs1 (Qkz s)) (hs1.mono (T:=PoolTag) (fun g h=>.inr (.inr (.inr (.inl h)))))
 have h2:=Hemp.out w1 τ hp1
 obtain⟨Hs1,H2⟩:=hid2 hs1 h2
 clear hs1 h2 hc1 hp1
 go_wp2_with fail
 refine H2.out.mono ?_
 rintro e w1b ⟨rfl,HH,L1,D1,s1,τb,hE,e1,hpb,hsb⟩
 have hs1b:=(Hs1.out.mono (T:=PWTag) (fun g h=>.inl (.inr (.inr (.inr (.inl h)))))).trans hsb
 have h3:=Hload.out w1b τb HH L1 D1 s1 hE hpb
 have hnob:=Hnob.out
 have hfb:(F.set i Fr.no)[i]?=some Fr.no:=by rw[List.getElem?_set,if_pos rfl,if_pos hil]
 have hss:∀y,F.set i y=(F.set i Fr.no).set i y:=fun y=>by rw[List.set_set]
 have hlb:(F.set i Fr.no).length=F.length:=List.length_set
 generalize hF1:F.set i Fr.no=F1 at *
 have hn1:n<HH.n:=by rw[e1];exact hn
 have h5121:HH.n≤512:=by rw[e1];exact h512.2
 obtain⟨Hss,HF1,HE⟩:=hid3 hss hF1 hE
 clear hss hF1 hE
 have hk1:=hpb.pool.k1
 have hil:i<F1.length:=by omega
 obtain⟨Hpb,Hs1b,H3,Hfb,Hnob⟩:=hid5 hpb hs1b h3 hfb hnob
 clear hpb hs1b h3 hfb hnob hlb H2
 go_wp2_with fail
 refine H3.out.mono ?_
 rintro e w2 ⟨b,τ2,rfl,hlow,hpg,hs2⟩
 have hp2:=Hpb.out.pool.step hs2 (fun _ _ h=>h)
 have e2:=hp2.hd.at 2 (v:=HH.vf) rfl
 rw[hp2.vf] at e2
 obtain⟨c0,c1,c2⟩:=hp2.cells Hfb.out
 have z0:=hp2.fr.fz (i*3)
 have z1:=hp2.fr.fz (i*3+1)
 have z2:=hp2.fr.fz (i*3+2)
 have hst3:Step w2 τ2 (((w2.setCell ⟨bf,i*3,none⟩ (.pointer (some ⟨b,0,none⟩))).setCell ⟨bf,i*3+1,none⟩ (.int .u32 (n:Int))).setCell ⟨bf,i*3+2,none⟩ (.int .u64 0)) τ2 (fun g=>g=tFr) :=
  (((Step.refl w2 τ2 (fun g=>g=tFr)).set hp2.fr.tag rfl _).set hp2.fr.tag rfl _).set hp2.fr.tag rfl _
 have hd3:=hp2.hd.step hst3 (by decide)
 have e3:=hd3.at 3 (v:=.map (some HH.bm)) rfl
 have hm3:=hp2.mp.step hst3 (by decide)
 have hc3:=hp2.ck.step hst3 (by decide)
 obtain⟨Hst3,Hd3,Hm3,Hc3⟩:=hid4 hst3 hd3 hm3 hc3
 clear hst3 hd3 hm3 hc3
 generalize F1.length=kF at *
 obtain⟨Hp2,Hpg,Hs2⟩:=hid3 hp2 hpg hs2
 clear hp2 hpg hs2
 go_wp2_with (at_mapUpdate;go_loud (refine Qca Hm3.out (by omega) n i hn1 (by omega) rfl _ _ _ rfl rfl rfl rfl ?_;intro w4 hm4 hs4;have e4:=(Hd3.out.step hs4 (by decide)).at 4 (v:=.pointer (some ⟨HH.bc,0,none⟩)) rfl;have htk:=Qhj (Hc3.out.step hs4 (by decide)) (i:Int);obtain⟨Hm4,Hs4,Htk⟩:=hid3 hm4 hs4 htk;clear hm4 hs4 htk))
 refine Htk.out.mono ?_
 rintro e w5 ⟨rfl,hc5,hs5⟩
 obtain⟨Hc5,Hs5⟩:=hid2 hc5 hs5
 clear hc5 hs5
 go_wp2_with fail
 go_ret2
 have hp2:=Hp2.out
 have h45:=(Hs4.out.mono (T:=fun g=>g=tWhere∨g=tClk) (fun g h=>.inl h)).trans (Hs5.out.mono (fun g h=>.inr h))
 have h35:=(Hst3.out.mono (T:=PoolTag) (fun g h=>.inr (.inl h))).trans (h45.mono (T:=PoolTag) (fun g h=>by rcases h with h|h;exact .inr (.inr (.inl h));exact .inr (.inr (.inr (.inl h)))))
 have hall2:=(Hs2.out.mono (T:=PoolTag) (fun g h=>h.elim)).trans h35
 have hall:=Hs1b.out.trans (hall2.mono (T:=PWTag) (fun _ h=>.inl h))
 have hiF:i<F1.length:=(List.getElem?_eq_some_iff.1 Hfb.out).1
 obtain⟨hone,hwh⟩:=Qf4 hp2.one hiF Hfb.out rfl ⟨some (b,Q),n,0⟩ (by simp[Fr.has]) Hnob.out
 have hfr3:=((hp2.fr.set (i*3) (.pointer (some ⟨b,0,none⟩))).set (i*3+1) (.int .u32 (n:Int))).set (i*3+2) (.int .u64 0)
 have hfs:=Qd8 F1 i ⟨some (b,Q),n,0⟩ hiF
 rw[show ((((Qao F1).set (i*3) (Value.pointer (some ⟨b,0,none⟩))).set (i*3+1) (Value.int .u32 (n:Int))).set (i*3+2) (Value.int .u64 0))=Qao (F1.set i ⟨some (b,Q),n,0⟩) from hfs] at hfr3
 have hmp:=Hm4.out.step Hs5.out (by decide)
 rw[hwh] at hmp
 refine⟨rfl,HH,L1,D1,s1,b,τ2,HE.out,⟨?_,Hpb.out.log.step hall2 (fun g hg=>Qbo hg),Hpb.out.dev.step hall2 (fun g hg=>Qbg hg)⟩,hall⟩
 rw[Hss.out]
 refine⟨(Hd3.out.step h45 (by decide)),by rw[List.length_set];exact hp2.vf,hfr3.step h45 (by decide),?_,hmp,Hc5.out,hp2.n1,by rw[List.length_set];exact hp2.k1,?_,hp2.st,hone,?_⟩
 ·intro j c P hb
  rw[List.getElem?_set] at hb
  by_cases e:i=j
  ·subst e
   rw[if_pos rfl,if_pos hiF] at hb
   cases hb
   exact(Hpg.out.step Hst3.out (by simp[tPg,tFr])).step h45 (by simp[tPg,tWhere,tClk])
  ·rw[if_neg e] at hb
   exact((hp2.pg j c P hb).step Hst3.out (by simp[tPg,tFr])).step h45 (by simp[tPg,tWhere,tClk])
 ·rw[List.length_set]
  have e:(Ck.Clk.takeS s1 i).n=s1.n:=by unfold Ck.Clk.takeS;split <;> rfl
  rw[e];exact hp2.sn
 ·intro j m g hg hh
  rw[List.getElem?_set] at hg
  by_cases e:i=j
  ·rw[if_pos e,if_pos hiF] at hg
   cases hg
   simp only[Fr.has,Bool.and_eq_true,beq_iff_eq] at hh
   rw[←hh.2];exact hn1
  ·rw[if_neg e] at hg
   exact hp2.low j m g hg hh
theorem Qzz {w:World} {H:PoolH} {F:List Fr} {s:Ck.Clk.St} {L:LogM}(h:PoolW w τ bp bf bd H L D F s) (n:Nat) (hn:n<H.n) (hw:Qaq F n=none) {i:Nat}(hi:i<F.length) {Q:List Int}(E:PoolH→LogM→Dev→Ck.Clk.St→Prop)
 (hb:Calls Tryz.prog 66 #[.pointer (some ⟨bp,0,none⟩),.int .u32 (n:Int)] w fun e w'=>e = .returned (.tuple #[.int .i64 (i:Int),.int .u16 0])∧∃H1 L1 D1 s1 b τ',E H1 L1 D1 s1∧PoolW w' τ' bp bf bd H1 L1 D1 (F.set i ⟨some (b,Q),n,0⟩) (Ck.Clk.takeS s1 i)∧Step w τ w' τ' PWTag)
 (hs:∀H1 L1 D1 s1,E H1 L1 D1 s1→∀k,s1.p k≤1000000) :
 Calls Tryz.prog 15 #[.pointer (some ⟨bp,0,none⟩),.int .u32 (n:Int)] w fun e w'=>∃H1 L1 D1 s1 b τ',e = .returned (.tuple #[.pointer (some ⟨b,0,none⟩),.int .u16 0])∧E H1 L1 D1 s1∧PoolW w' τ' bp bf bd H1 L1 D1 (F.set i ⟨some (b,Q),n,0⟩) (Ck.Clk.pinS (Ck.Clk.touchS (Ck.Clk.takeS s1 i) i) i)∧Step w τ w' τ' PWTag:=by
 have h512:=h.pool.n1
 have hk:=h.pool.k1
 have d1:=h.pool.hd.at 1 (v:=.int .i64 (H.n:Int)) rfl
 have d3:=h.pool.hd.at 3 (v:=.map (some H.bm)) rfl
 have hwr:=Qb1 H.n (by omega)
 have hlk:=h.pool.mp.look n (by omega)
 rw[hw] at hlk
 simp only[Option.getD_none,Option.isSome_none] at hlk
 obtain⟨H_h,Hb,Hs⟩:=hid3 h hb hs
 clear h hb hs
 go_enter Tryz.func15,Tryz.ntmps15
 go_wp2_with fail
 refine Hb.out.mono ?_
 rintro e w0 ⟨rfl,H1,L1,D1,s1,b,τ',hE,hp0,hs0⟩
 have hf:(F.set i ⟨some (b,Q),n,0⟩)[i]?=some ⟨some (b,Q),n,0⟩:=by rw[List.getElem?_set,if_pos rfl,if_pos hi]
 have d4:=hp0.pool.hd.at 4 (v:=.pointer (some ⟨H1.bc,0,none⟩)) rfl
 have h1:=Qgo hp0.pool.ck (i:Int)
 have hl:(F.set i ⟨some (b,Q),n,0⟩).length=F.length:=List.length_set
 have hsp:=Hs.out H1 L1 D1 s1 hE
 obtain⟨Hp0,Hs0,Hf,Hl,HE,Hsp⟩:=hid6 hp0 hs0 hf hl hE hsp
 clear hp0 hs0 hf hl hE hsp
 have H1_1:=Lib.hid h1
 clear h1
 go_wp2_with fail
 refine H1_1.out.mono ?_
 rintro e w1 ⟨rfl,hc1,hs1⟩
 have hp1:=Hp0.out.turn (Hp0.out.pool.clk hc1 hs1 (PoolAt.clk_n _).1) (hs1.mono (T:=PoolTag) (fun g h=>.inr (.inr (.inr (.inl h)))))
 have e4:=hp1.pool.hd.at 4 (v:=.pointer (some ⟨H1.bc,0,none⟩)) rfl
 have h2:=Qis hp1.pool.ck (i:Int) (by rw[Qqb];exact(Qik i Hsp.out).1)
 obtain⟨Hp1,Hs1,H2⟩:=hid3 hp1 hs1 h2
 clear hp1 hs1 h2 hc1
 go_wp2_with fail
 refine H2.out.mono ?_
 rintro e w2 ⟨rfl,hc2,hs2⟩
 have hp2:=Hp1.out.turn (Hp1.out.pool.clk hc2 hs2 (PoolAt.clk_n _).2.1) (hs2.mono (T:=PoolTag) (fun g h=>.inr (.inr (.inr (.inl h)))))
 have e2:=hp2.pool.hd.at 2 (v:=H1.vf) rfl
 rw[hp2.pool.vf,Hl.out] at e2
 obtain⟨c0,c1,c2⟩:=hp2.pool.cells Hf.out
 simp only[Option.map_some] at c0
 generalize F.length=k at *
 obtain⟨Hp2,Hs2⟩:=hid2 hp2 hs2
 clear hp2 hs2 hc2
 go_wp2_with fail
 go_ret2
 exact⟨H1,L1,D1,s1,b,τ',rfl,HE.out,Hp2.out,Hs0.out.trans ((Hs1.out.trans Hs2.out).mono (T:=PWTag) (fun g h=>.inl (.inr (.inr (.inr (.inl h))))))⟩
theorem Qx7 {w:World} {b:Nat}(x y:Nat) (h0:w.cell? ⟨b,0,none⟩=some (.int .u64 (x:Int))) (h1:w.cell? ⟨b,1,none⟩=some (.int .u64 (y:Int))) :
 Calls Tryz.prog 71 #[.slice (some ⟨b,0,none⟩) 2 2] w fun e w'=>e = .returned (.int .u64 ((if x=0 then y else x:Nat):Int))∧w=w':=by
 by_cases hx:x=0
 ·subst hx
  rw[if_pos rfl]
  by_cases hy:y=0
  ·subst hy
   obtain⟨H0,H1⟩:=hid2 h0 h1
   clear h0 h1
   go_enter Tryz.func71,Tryz.ntmps71
   go_wp2_with fail
   go_loopw [8] (fun v wr=>∃(i:Nat),i≤2∧v = .int .i64 (i:Int)∧wr=w) (fun v _=>2-(intOf v).toNat)
   case atStart=>exact⟨0,by omega,rfl,rfl⟩
   case round =>
    obtain⟨i,hi,rfl,rfl⟩:=hrel
    rcases (by omega:i=0∨i=1∨i=2) with rfl|rfl|rfl
    ·have h0:=H0.out
     go_wp2_with fail
     go_round
     case rel=>exact⟨1,by omega,by simp,trivial⟩
     case measure=>simp[intOf]
    ·have h1:=H1.out
     go_wp2_with fail
     go_round
     case rel=>exact⟨2,by omega,by simp,trivial⟩
     case measure=>simp[intOf]
    ·go_wp2_with fail
     go_returns
     exact⟨rfl,rfl⟩
  ·have hy':¬(y:Int)=0:=by omega
   obtain⟨H0,H1⟩:=hid2 h0 h1
   clear h0 h1
   go_enter Tryz.func71,Tryz.ntmps71
   go_wp2_with fail
   go_loopw [8] (fun v wr=>∃(i:Nat),i≤1∧v = .int .i64 (i:Int)∧wr=w) (fun v _=>2-(intOf v).toNat)
   case atStart=>exact⟨0,by omega,rfl,rfl⟩
   case round =>
    obtain⟨i,hi,rfl,rfl⟩:=hrel
    rcases (by omega:i=0∨i=1) with rfl|rfl
    ·have h0:=H0.out
     go_wp2_with fail
     go_round
     case rel=>exact⟨1,by omega,by simp,trivial⟩
     case measure=>simp[intOf]
    ·have h1:=H1.out
     go_wp2_with fail
     go_returns
     exact⟨rfl,rfl⟩
 ·rw[if_neg hx]
  have hx':¬(x:Int)=0:=by omega
  go_enter Tryz.func71,Tryz.ntmps71
  go_wp2_with fail
  go_loopw [8] (fun v wr=>v = .int .i64 0∧wr=w) (fun v _=>2-(intOf v).toNat)
  case atStart=>exact⟨rfl,rfl⟩
  case round =>
   obtain⟨rfl,rfl⟩:=hrel
   go_wp2_with fail
   go_returns
   exact⟨rfl,rfl⟩
theorem Qoa (f:Fr) (b:Nat) (P Q:List Int) (h:f.pg=some (b,P)) (n:Nat):Fr.has {f with pg:=some (b,Q)} n=f.has n:=by unfold Fr.has;rw[h];rfl
theorem Qiy {F:List Fr} {f:Fr}(hf:F[i]?=some f) {b:Nat}{P:List Int}(h:f.pg=some (b,P)) (Q:List Int):Qaq (F.set i {f with pg:=some (b,Q)})=Qaq F:=by
 funext n
 unfold Qaq
 induction F generalizing i with
 | nil=>rfl
 | cons g F ih =>
   cases i with
   | zero =>
     have e:g=f:=by simpa using hf
     subst e
     rw[List.set_cons_zero,List.findIdx?_cons,List.findIdx?_cons,Qoa _ _ _ _ h]
   | succ i =>
     rw[List.set_cons_succ,List.findIdx?_cons,List.findIdx?_cons,ih (by simpa using hf)]
theorem Qjc {F:List Fr} {f:Fr}(hf:F[i]?=some f) {b:Nat}{P:List Int}(h:f.pg=some (b,P)) (Q:List Int):Qao (F.set i {f with pg:=some (b,Q)})=Qao F:=by
 induction F generalizing i with
 | nil=>rfl
 | cons g F ih =>
   cases i with
   | zero =>
     have e:g=f:=by simpa using hf
     subst e
     show Fr.cells _++Qao F=Fr.cells g++Qao F
     congr 1
     unfold Fr.cells
     rw[h];rfl
   | succ i =>
     show g.cells++Qao (F.set i _)=g.cells++Qao F
     rw[ih (by simpa using hf)]
theorem PoolAt.setPage {w w':World} {τ':Tags} {H:PoolH} {F:List Fr} {s:Ck.Clk.St}(h:PoolAt w τ bp bf H F s) {i:Nat}{f:Fr}(hf:F[i]?=some f) {b:Nat}{P Q:List Int}(hpg:f.pg=some (b,P)) (m:Step w τ w' τ' (fun g=>g=tPg i)) (hQ:PageAt w' τ' (tPg i) b Q) :
 PoolAt w' τ' bp bf H (F.set i {f with pg:=some (b,Q)}) s:=by
 obtain⟨hi,hfi⟩:=List.getElem?_eq_some_iff.1 hf
 have hget:∀(j:Nat) (g:Fr),(F.set i {f with pg:=some (b,Q)})[j]?=some g→∃g',F[j]?=some g'∧(∀n,g.has n=g'.has n)∧(j≠i→g=g'):=fun j g hg=>by
  by_cases e:i=j
  ·subst e
   rw[List.getElem?_set_self hi] at hg
   cases hg
   exact⟨f,hf,fun n=>Qoa _ _ _ _ hpg n,fun h=>absurd rfl h⟩
  ·rw[List.getElem?_set_ne e] at hg
   exact⟨g,hg,fun _=>rfl,fun _=>rfl⟩
 refine⟨h.hd.step m (by simp[tPool,tPg]),by rw[List.length_set];exact h.vf,by rw[Qjc hf hpg];exact h.fr.step m (by simp[tFr,tPg]),?_,by rw[Qiy hf hpg];exact h.mp.step m (by simp[tWhere,tPg]),h.ck.step m (by simp[tClk,tPg]),h.n1,by rw[List.length_set];exact h.k1,by rw[List.length_set];exact h.sn,h.st,?_,?_⟩
 ·intro j c R hb
  by_cases e:i=j
  ·subst e
   rw[List.getElem?_set_self hi] at hb
   cases hb
   exact hQ
  ·rw[List.getElem?_set_ne e] at hb
   exact(h.pg j c R hb).step m (by intro q;apply e;simp[tPg] at q;omega)
 ·intro a c n g g2 ha hb h1 h2
  obtain⟨g',q1,q2,_⟩:=hget a g ha
  obtain⟨g2',r1,r2,_⟩:=hget c g2 hb
  exact h.one a c n g' g2' q1 r1 (by rw[←q2];exact h1) (by rw[←r2];exact h2)
 ·intro a n g ha h1
  obtain⟨g',q1,q2,_⟩:=hget a g ha
  exact h.low a n g' q1 (by rw[←q2];exact h1)
theorem Qi4 (i:Nat):PoolTag (tPg i):=.inr (.inr (.inr (.inr ⟨i,rfl⟩)))
theorem Qzh {w:World} {H:PoolH} {F:List Fr} {s:Ck.Clk.St}(h:PoolAt w τ bp bf H F s) (n lsn:Nat) (hn:n<4294967296) {i:Nat}(hw:Qaq F n=some i) {f:Fr}(hf:F[i]?=some f) {b:Nat}{P:List Int}(hpg:f.pg=some (b,P)) (hs:∀k,s.p k≤1000000) (hpin:Ck.Clk.pinsV s i≠0) (hl0:0<lsn) (hl64:lsn<18446744073709551616) {nv:Nat}(hnv:(if f.first=0 then lsn else f.first)=nv) :
 Calls Tryz.prog 16 #[.pointer (some ⟨bp,0,none⟩),.int .u32 (n:Int),.int .u64 (lsn:Int)] w fun e w'=>e = .returned (.bool (Ck.Clk.unpinB s i))∧∃τ',PoolAt w' τ' bp bf H (F.set i ⟨some (b,layN P 0 (leB lsn 8)),f.n,nv⟩) (Ck.Clk.unpinS s i)∧Step w τ w' τ' PoolTag:=by
 have hk:=h.k1
 have hil:=(List.getElem?_eq_some_iff.1 hf).1
 have d2:=h.hd.at 2 (v:=H.vf) rfl
 rw[h.vf] at d2
 have d3:=h.hd.at 3 (v:=.map (some H.bm)) rfl
 have d4:=h.hd.at 4 (v:=.pointer (some ⟨H.bc,0,none⟩)) rfl
 have hlk:=h.mp.look n hn
 rw[hw] at hlk
 simp only[Option.getD_some,Option.isSome_some] at hlk
 have h1:=Qlw h.ck (i:Int)
 have hP:PageAt w τ (tPg i) b P:=h.pg i b P (by rw[hf];exact hpg)
 have hst:=Qnq (Step.refl w τ (fun g=>g=tPg i)) (.inl rfl) hP lsn (by rw[show (2:Nat) ^ 64=18446744073709551616 from by decide];exact hl64)
 obtain⟨c0,c1,c2⟩:=h.cells hf
 rw[hpg] at c0
 simp only[Option.map_some] at c0
 have hl0':(0:Int)<(lsn:Int):=by omega
 generalize hq:Ck.Clk.pinsV s (i:Int)=q at *
 have hq0:¬(q:Int)=0:=by omega
 generalize hlen:F.length=k at *
 generalize hQ:layN P 0 (leB lsn 8)=Q at *
 generalize hff:f.first=ff at *
 obtain⟨H_h,H1,Hst,Hf,Hlen,Hff,Hnv⟩:=hid7 h h1 hst hf hlen hff hnv
 clear h h1 hst hf hlen hff hnv
 go_enter Tryz.func16,Tryz.ntmps16
 go_wp2_with fail
 refine H1.out.mono ?_
 rintro e w' ⟨rfl,rfl⟩
 go_wp2_with fail
 refine Hst.out.mono ?_
 rintro e w1 ⟨rfl,τ1,hP1,-,hs1⟩
 have hp1:=H_h.out.setPage Hf.out hpg hs1 hP1
 have hf1:(F.set i {f with pg:=some (b,Q)})[i]?=some {f with pg:=some (b,Q)}:=List.getElem?_set_self (by rw[Hlen.out];exact hil)
 have hl1:(F.set i {f with pg:=some (b,Q)}).length=k:=by rw[List.length_set];exact Hlen.out
 have hss:∀y,(F.set i {f with pg:=some (b,Q)}).set i y=F.set i y:=fun y=>List.set_set ..
 have hgn:({f with pg:=some (b,Q)}:Fr).n=f.n:=rfl
 have hgp:({f with pg:=some (b,Q)}:Fr).pg=some (b,Q):=rfl
 have hgf:({f with pg:=some (b,Q)}:Fr).first=ff:=Hff.out
 generalize F.set i {f with pg:=some (b,Q)}=F1 at *
 generalize ({f with pg:=some (b,Q)}:Fr)=g at *
 obtain⟨x0,x1,x2⟩:=hp1.cells hf1
 rw[hgf] at x2
 have xz2:=hp1.fr.fz (i*3+2)
 have hor:∀W:World,W.cell? ⟨w1.heap.size,0,none⟩=some (.int .u64 (ff:Int))→W.cell? ⟨w1.heap.size,1,none⟩=some (.int .u64 (lsn:Int))→Calls Tryz.prog 71 #[.slice (some ⟨w1.heap.size,0,none⟩) 2 2] W fun e w'=>e = .returned (.int .u64 ((if ff=0 then lsn else ff:Nat):Int))∧W=w':=fun W a b=>Qx7 ff lsn a b
 have hnew:=Own.new w1 τ1 tData 51 [.int .u64 (ff:Int),.int .u64 (lsn:Int)]
 have hor1:=hor (w1.alloc (.cells #[.int .u64 (ff:Int),.int .u64 (lsn:Int)] 51)) (hnew.at 0 rfl) (hnew.at 1 rfl)
 have hp1a:=hp1.step ((Step.refl w1 τ1 nil).alloc' (.cells #[.int .u64 (ff:Int),.int .u64 (lsn:Int)] 51)) (fun _ _ h=>h)
 obtain⟨a0,a1,a2⟩:=hp1a.cells hf1
 have az2:=hp1a.fr.fz (i*3+2)
 rw[Hnv.out] at hor1
 obtain⟨hp2,hs2⟩:=hp1a.setFirst hf1 nv
 rw[hss] at hp2
 have h2:=Qjg hp2.ck (i:Int) hs
 have y4:=hp2.hd.at 4 (v:=.pointer (some ⟨H.bc,0,none⟩)) rfl
 have hst2:=((hs1.mono (T:=PoolTag) (fun g hg=>by rw[hg];exact Qi4 i)).alloc' (.cells #[.int .u64 (ff:Int),.int .u64 (lsn:Int)] 51)).trans (hs2.mono (T:=PoolTag) (fun g hg=>.inr (.inl hg)))
 rw[hgp,hgn] at hp2
 rw[hgf] at a2
 obtain⟨Hor1,Hp2,H2,Hst2⟩:=hid4 hor1 hp2 h2 hst2
 clear hor1 hp2 h2 hst2 hor hnew hp1 hp1a hs1 hs2 hP1 Hst hss hf1
 go_wp2_with fail
 refine Hor1.out.mono ?_
 rintro e w' ⟨rfl,rfl⟩
 go_wp2_with fail
 refine H2.out.mono ?_
 rintro e w3 ⟨rfl,hc3,hs3⟩
 have hp3:=Hp2.out.clk hc3 hs3 (PoolAt.clk_n _).2.2.1
 obtain⟨Hp3,Hs3⟩:=hid2 hp3 hs3
 clear hp3 hs3 hc3
 go_wp2_with fail
 go_ret
 exact⟨rfl,τ1,Hp3.out,Hst2.out.trans (Hs3.out.mono (fun g h=>.inr (.inr (.inr (.inl h)))))⟩
theorem Jaa {w:World} {H:PoolH} {F:List Fr} {s:Ck.Clk.St}(h:PoolAt w τ bp bf H F s) (n:Nat) (hn:n<4294967296) (hw:Qaq F n=none) :
 Calls Tryz.prog 26 #[.pointer (some ⟨bp,0,none⟩),.int .u32 (n:Int)] w fun e w'=>e = .returned (.bool false)∧w=w':=by
 have d3:=h.hd.at 3 (v:=.map (some H.bm)) rfl
 have hlk:=h.mp.look n hn
 rw[hw] at hlk
 simp only[Option.getD_none,Option.isSome_none] at hlk
 have H_h:=Lib.hid h
 clear h
 go_enter Tryz.func26,Tryz.ntmps26
 go_wp2_with fail
 go_ret
 exact⟨rfl,rfl⟩
theorem Qyy {w:World} {H:PoolH} {F:List Fr} {s:Ck.Clk.St}(h:PoolAt w τ bp bf H F s) (n:Nat) (hn:n<4294967296) {i:Nat}(hw:Qaq F n=some i) {f:Fr}(hf:F[i]?=some f) (h0:f.first=0) :
 Calls Tryz.prog 26 #[.pointer (some ⟨bp,0,none⟩),.int .u32 (n:Int)] w fun e w'=>e = .returned (.bool false)∧w=w':=by
 have hk:=h.k1
 have hil:=(List.getElem?_eq_some_iff.1 hf).1
 have d2:=h.hd.at 2 (v:=H.vf) rfl
 rw[h.vf] at d2
 have d3:=h.hd.at 3 (v:=.map (some H.bm)) rfl
 have hlk:=h.mp.look n hn
 rw[hw] at hlk
 simp only[Option.getD_some,Option.isSome_some] at hlk
 obtain⟨c0,c1,c2⟩:=h.cells hf
 rw[h0] at c2
 generalize F.length=k at *
 have H_h:=Lib.hid h
 clear h
 go_enter Tryz.func26,Tryz.ntmps26
 go_wp2_with fail
 go_ret
 exact⟨rfl,rfl⟩
theorem Qyx {w:World} {H:PoolH} {L:LogM} {F:List Fr} {s:Ck.Clk.St}(h:PoolW w τ bp bf bd H L D F s) (hr:L.Rise) (hcap:L.stream.length≤127*L.strips) (hfit0:L.firstS+L.strips≤D.f0.length) (hfit1:4*H.n+4≤D.f1.length) (hcalm:D.lim 600000) (hst:H.st+1<18446744073709551616)
 (n:Nat) (hn:n<4294967296) {i:Nat} (hw:Qaq F n=some i) {f:Fr} {b:Nat} {P:List Int} (hf:F[i]?=some f) (hpg:f.pg=some (b,P)) (hfn:f.n<H.n) (h0:0<f.first) {m:Nat} (hm:pageLSN P=m) (hm64:m<18446744073709551616) :
 Calls Tryz.prog 26 #[.pointer (some ⟨bp,0,none⟩),.int .u32 (n:Int)] w fun e w'=>e = .returned (.bool true)∧Qwm w τ bp bf bd H L D F s i f P w':=by
 have hwr:=Qhw h hr hcap hfit0 hfit1 hcalm hst hf hpg hfn hm hm64
 have hk:=h.pool.k1
 have hil:=(List.getElem?_eq_some_iff.1 hf).1
 have d2:=h.pool.hd.at 2 (v:=H.vf) rfl
 rw[h.pool.vf] at d2
 have d3:=h.pool.hd.at 3 (v:=.map (some H.bm)) rfl
 have hlk:=h.pool.mp.look n hn
 rw[hw] at hlk
 simp only[Option.getD_some,Option.isSome_some] at hlk
 obtain⟨c0,c1,c2⟩:=h.pool.cells hf
 have hff:¬(f.first:Int)=0:=by omega
 generalize F.length=k at *
 generalize f.first=ff at *
 have Hwr:=Lib.hid hwr
 clear hwr h hr hcap hcalm hm hm64
 go_enter Tryz.func26,Tryz.ntmps26
 go_wp2_with fail
 refine Hwr.out.mono ?_
 rintro e w1 ⟨rfl,hw1⟩
 have Hw1:=Lib.hid hw1
 clear hw1
 go_wp2_with fail
 go_ret
 exact⟨rfl,Hw1.out⟩
end Go.Proofs.YtemacanaihaldaaGreat