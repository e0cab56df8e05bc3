/-
 Pools: load of a page that was never written.
-/
import Derived.Test.YtemacanaihaldaaGreatMPoolC
set_option maxRecDepth 100000
set_option linter.all false
namespace Go.Proofs.YtemacanaihaldaaGreat
variable {bf bp:Nat}{w:World}{τ:Tags}
open Go.RowKit
def blank:List (List Int):=List.replicate 4 zeros128
theorem Qj2:Qb3 blank=true:=by decide +kernel
theorem Qub:Qjt blank=zeros448:=by decide +kernel
theorem Qoj:pageNumber (emptyPage 0)=0:=by decide +kernel
theorem Qtv:pageLSN (emptyPage 0)=0:=by decide +kernel
theorem Qea:∀n,n<4294967296→pageCount (emptyPage n)=0:=by
 intro n hn
 have e:pageN (emptyPage n) 12 2=leN (((emptyPage n).drop 12).take 2) 2:=rfl
 have e2:((emptyPage n).drop 12).take 2=[0,0]:=by
  unfold emptyPage layN
  have h4:(leB n 4).length=4:=Qaa n 4
  have h2:(leB 448 2).length=2:=Qaa 448 2
  rw[h4,h2]
  apply List.ext_getElem?
  intro i
  have hz:zeros448.length=448:=List.length_replicate
  by_cases hi:i<2
  ·rw[List.getElem?_take,if_pos hi,List.getElem?_drop]
   rw[List.append_assoc,List.getElem?_append_left (by simp only[List.length_take,List.length_append,List.length_drop,h4,hz];omega),List.getElem?_take,if_pos (by omega)]
   rw[List.append_assoc,List.getElem?_append_right (by simp only[List.length_take,hz];omega),List.length_take,hz]
   rw[List.getElem?_append_right (by rw[h4];omega),h4,List.getElem?_drop]
   unfold zeros448
   rw[List.getElem?_replicate,if_pos (by omega)]
   have:i=0∨i=1:=by omega
   rcases this with rfl|rfl <;> rfl
  ·rw[List.getElem?_eq_none (by rw[List.length_take];omega),List.getElem?_eq_none (by simp;omega)]
 show pageN (emptyPage n) 12 2=0
 rw[e,e2];rfl
theorem Qps (n:Nat) (hn:n<4294967296):Fit (emptyPage n) :=
 ⟨by rw[Qea n hn];omega,fun s=>by unfold pOff pLen;rw[Qea n hn,if_neg (by omega),if_neg (by omega)];omega⟩
theorem Qrj (n:Nat) (hn:n<4294967296):Qab (emptyPage n)=[]:=by
 unfold Qab;rw[Qea n hn];rfl
theorem Qld {bd:Nat} {H:PoolH} {L:LogM} {D:Dev}(h:Qji w τ bp H) (hl:LogAt w τ H.bl bd L) (hd:DevAt w τ bd D) (n:Nat) (hn:4*n+4≤D.f1.length) (hz:lastTo D n 4=blank) (g:Tag) :
 Calls Tryz.prog 134 #[.pointer (some ⟨bp,0,none⟩),.int .u32 (n:Int)] w fun e w'=>∃b τ',e = .returned (.tuple #[.pointer (some ⟨b,0,none⟩),.int .u16 0])∧w.heap.size≤b∧PageAt w' τ' g b (emptyPage n)∧Step w τ w' τ' nil:=by
 have h1:=Qfi h hl hd n hn
 have hlen:=hd.length 1
 have hf1:D.file 1=D.f1:=rfl
 rw[hf1] at hlen
 rw[hz] at h1
 have hb4:blank.length=4:=rfl
 generalize hbl:blank=ls at h1 hb4
 obtain⟨H1,Hbl,Hb4⟩:=hid3 h1 hbl hb4
 clear h1 hbl hb4 h hl hd hz
 go_enter Tryz.func134,Tryz.ntmps134
 go_wp2_with fail
 refine H1.out.mono ?_
 rintro e w1 ⟨v,τ1,rfl,hr,hs1⟩
 have h2:=Qnz hr.row tData Hb4.out
 obtain⟨p,c,rfl⟩:=hr.val
 obtain⟨H2,Hs1⟩:=hid2 h2 hs1
 clear h2 hs1 H1 hr
 go_wp2_with fail
 refine H2.out.mono ?_
 rintro e w2 ⟨τ2,hs2,hq⟩
 have hok:Qb3 ls=true:=by rw[←Hbl.out];exact Qj2
 rcases hq with ⟨-,u,rfl,hb⟩|⟨hno,-⟩
 ·rw[←Hbl.out,Qub] at hb
  have h3:=Qns (g:=tOut) hb
  obtain⟨pu,cu,rfl,-,-⟩:=hb.any
  obtain⟨H3,Hs2⟩:=hid2 h3 hs2
  clear h3 hs2 hok H2 hb
  go_wp2_with fail
  refine H3.out.mono ?_
  rintro e w3 ⟨b0,τ3,rfl,hlow3,hpg,hs3⟩
  have h4:=Qg5 hpg
  have h5:=Qhe hpg
  have h6:=Qfl hpg (Qps 0 (by omega))
  rw[Qoj] at h4
  rw[Qtv] at h5
  rw[Qrj 0 (by omega)] at h6
  obtain⟨H4,H5,H6,Hs3⟩:=hid4 h4 h5 h6 hs3
  clear h4 h5 h6 hs3 hpg H3
  go_wp2_with fail
  refine H4.out.mono ?_
  rintro e w' ⟨rfl,rfl⟩
  go_wp2_with fail
  refine H5.out.mono ?_
  rintro e w' ⟨rfl,rfl⟩
  go_wp2_with fail
  refine H6.out.mono ?_
  rintro e w4 ⟨v4,τ4,rfl,hni,hs4⟩
  obtain⟨p4,c4,rfl⟩:=hni.val
  have h7:=Qk3 w4 τ4 g n (by omega)
  obtain⟨H7,Hs4⟩:=hid2 h7 hs4
  clear h7 hs4 H6 hni
  go_wp2_with fail
  refine H7.out.mono ?_
  rintro e w5 ⟨b,τ5,rfl,hlow,hpg,hs5⟩
  obtain⟨Hpg,Hs5,Hlow⟩:=hid3 hpg hs5 hlow
  clear hpg hs5 hlow
  go_wp2_with fail
  go_ret2
  have hall:=((Hs1.out.trans Hs2.out).trans Hs3.out).trans Hs4.out
  exact⟨b,τ5,rfl,Nat.le_trans hall.size Hlow.out,Hpg.out,hall.trans Hs5.out⟩
 ·rw[hok] at hno;cases hno
theorem PoolAt.cells {H:PoolH} {F:List Fr} {s:Ck.Clk.St}(h:PoolAt w τ bp bf H F s) {i:Nat}{f:Fr}(hf:F[i]?=some f) :
 w.cell? ⟨bf,i*3,none⟩=some (.pointer (f.pg.map (fun x=>(⟨x.1,0,none⟩:Addr))))∧w.cell? ⟨bf,i*3+1,none⟩=some (.int .u32 (f.n:Int))∧w.cell? ⟨bf,i*3+2,none⟩=some (.int .u64 (f.first:Int)):=by
 obtain⟨hi,rfl⟩:=List.getElem?_eq_some_iff.1 hf
 refine⟨?_,?_,?_⟩
 ·have:=Qci F i 0 (by omega) hi
  exact h.fr.at (i*3) (by rw[Nat.add_zero] at this;rw[this];rfl)
 ·exact h.fr.at (i*3+1) (by rw[Qci F i 1 (by omega) hi];rfl)
 ·exact h.fr.at (i*3+2) (by rw[Qci F i 2 (by omega) hi];rfl)
theorem Qm3 {H:PoolH} {F:List Fr} {s:Ck.Clk.St}(h:PoolAt w τ bp bf H F s) (i:Nat) {f:Fr}(hf:F[i]?=some f) (hn:f.pg=none) :
 Calls Tryz.prog 133 #[.pointer (some ⟨bp,0,none⟩),.int .i64 (i:Int)] w fun e w'=>e = .returned (.tuple #[])∧w=w':=by
 obtain⟨c0,-,-⟩:=h.cells hf
 rw[hn] at c0
 have c1:=h.hd.at 2 (v:=H.vf) rfl
 rw[h.vf] at c1
 have hk:=h.k1
 have hi:i<F.length:=(List.getElem?_eq_some_iff.1 hf).1
 generalize F.length=k at *
 simp only[Option.map_none] at c0
 clear h hf hn
 go_enter Tryz.func133,Tryz.ntmps133
 go_wp2_with fail
 go_returns
 exact⟨rfl,rfl⟩
def OneHas (F:List Fr):Prop:=∀(i j n:Nat) (f g:Fr),F[i]?=some f→F[j]?=some g→f.has n=true→g.has n=true→i=j
theorem Qa6 {F:List Fr}(one:OneHas F) (n i:Nat):Qaq F n=some i↔∃f,F[i]?=some f∧f.has n=true:=by
 unfold Qaq
 constructor
 ·intro h
  obtain⟨hi,h1,-⟩:=List.findIdx?_eq_some_iff_getElem.1 h
  exact⟨_,List.getElem?_eq_getElem hi,h1⟩
 ·rintro⟨f,hf,hh⟩
  obtain⟨hi,rfl⟩:=List.getElem?_eq_some_iff.1 hf
  refine List.findIdx?_eq_some_iff_getElem.2 ⟨hi,hh,fun j hj=>?_⟩
  intro hc
  have:=one j i n F[j] F[i] (List.getElem?_eq_getElem (by omega)) hf hc hh
  omega
theorem OneHas.set {F:List Fr}(one:OneHas F) (i:Nat) (f:Fr) (hf:∀(j n:Nat) (g:Fr),j≠i→F[j]?=some g→g.has n=true→f.has n=false):OneHas (F.set i f):=by
 intro a b n x y hx hy h1 h2
 rw[List.getElem?_set] at hx hy
 by_cases ea:i=a
 ·by_cases eb:i=b
  ·rw[←ea,←eb]
  ·rw[if_pos ea] at hx
   rw[if_neg eb] at hy
   split at hx
   ·cases hx
    have:=hf b n y (fun e=>eb e.symm) hy h2
    rw[h1] at this;cases this
   ·cases hx
 ·rw[if_neg ea] at hx
  by_cases eb:i=b
  ·rw[if_pos eb] at hy
   split at hy
   ·cases hy
    have:=hf a n x (fun e=>ea e.symm) hx h1
    rw[h2] at this;cases this
   ·cases hy
  ·rw[if_neg eb] at hy
   exact one a b n x y hx hy h1 h2
theorem Qk8 (n:Nat):Fr.no.has n=false:=rfl
theorem Qvb {a b:Option Nat}(h:∀i,a=some i↔b=some i):a=b:=by
 cases a with
 | none=>cases b with
   | none=>rfl
   | some x=>exact((h x).2 rfl)
 | some x=>exact((h x).1 rfl).symm
theorem Qfh {F:List Fr}(one:OneHas F) {i:Nat}{f:Fr}(hf:F[i]?=some f) (hh:f.has f.n=true):updO (Qaq F) f.n none=Qaq (F.set i Fr.no):=by
 have one':=one.set i Fr.no (fun j n g _ _ _=>Qk8 n)
 funext m
 refine Qvb (fun j=>?_)
 rw[Qa6 one']
 unfold updO
 by_cases e:m=f.n
 ·rw[if_pos e]
  constructor
  ·intro h;cases h
  ·rintro⟨g,hg,hg2⟩
   rw[List.getElem?_set] at hg
   split at hg
   ·split at hg
    ·cases hg;rw[Qk8] at hg2;cases hg2
    ·cases hg
   ·rename_i hne
    subst e
    exact absurd (one i j f.n f g hf hg hh hg2) hne
 ·rw[if_neg e,Qa6 one]
  constructor
  ·rintro⟨g,hg,hg2⟩
   have hij:i≠j:=fun q=>by
    subst q
    rw[hf] at hg;cases hg
    simp only[Fr.has,Bool.and_eq_true,beq_iff_eq] at hg2
    exact e hg2.2.symm
   exact⟨g,by rw[List.getElem?_set,if_neg hij];exact hg,hg2⟩
  ·rintro⟨g,hg,hg2⟩
   rw[List.getElem?_set] at hg
   split at hg
   ·split at hg
    ·cases hg;rw[Qk8] at hg2;cases hg2
    ·cases hg
   ·exact⟨g,hg,hg2⟩
theorem Qd8 (F:List Fr) (i:Nat) (f:Fr) (hi:i<F.length) :
 (((Qao F).set (i*3) (.pointer (f.pg.map (fun x=>(⟨x.1,0,none⟩:Addr))))).set (i*3+1) (.int .u32 (f.n:Int))).set (i*3+2) (.int .u64 (f.first:Int))=Qao (F.set i f):=by
 induction F generalizing i with
 | nil=>simp at hi
 | cons g F ih =>
   have hl:g.cells.length=3:=rfl
   cases i with
   | zero=>rfl
   | succ i =>
     have e:∀(l:List Value) (j:Nat) (v:Value),(g.cells++l).set (3+j) v=g.cells++l.set j v:=fun l j v=>by
      rw[List.set_append_right _ _ (by rw[hl];omega),hl,Nat.add_sub_cancel_left]
     show (((g.cells++Qao F).set _ _).set _ _).set _ _=g.cells++Qao (F.set i f)
     rw[show (i+1)*3=3+i*3 by omega,show 3+i*3+1=3+(i*3+1) by omega,show 3+i*3+2=3+(i*3+2) by omega,e,e,e,ih i (by simpa using hi)]
theorem Qse (s:Ck.Clk.St) (i:Int):(Ck.Clk.leaveS s i).n=s.n:=by unfold Ck.Clk.leaveS;split <;> rfl
theorem PoolAt.lay {w2:World} {H:PoolH} {F:List Fr} {s s2:Ck.Clk.St}(h:PoolAt w τ bp bf H F s) {S:Tag→Prop}(hs:Step w τ w2 τ S) (hS1:¬S tPool) (hS2:¬S tFr) (hS3:∀i,¬S (tPg i)) {i:Nat}(hi:i<F.length) (f:Fr)
 (hm:MapIs w2 τ H.bm tWhere H.n (Qaq (F.set i f))) (hc:ClkAt w2 τ H.bc s2) (hn:s2.n=s.n) (hpg:∀b P,f.pg=some (b,P)→PageAt w2 τ (tPg i) b P) (hone:OneHas (F.set i f)) (hlow:∀n,f.has n=true→n<H.n) :
 PoolAt (((w2.setCell ⟨bf,i*3,none⟩ (.pointer (f.pg.map (fun x=>(⟨x.1,0,none⟩:Addr))))).setCell ⟨bf,i*3+1,none⟩ (.int .u32 (f.n:Int))).setCell ⟨bf,i*3+2,none⟩ (.int .u64 (f.first:Int))) τ bp bf H (F.set i f) s2 ∧
 Step w2 τ (((w2.setCell ⟨bf,i*3,none⟩ (.pointer (f.pg.map (fun x=>(⟨x.1,0,none⟩:Addr))))).setCell ⟨bf,i*3+1,none⟩ (.int .u32 (f.n:Int))).setCell ⟨bf,i*3+2,none⟩ (.int .u64 (f.first:Int))) τ (fun g=>g=tFr):=by
 have ho:=h.fr.step hs hS2
 have m:Step w2 τ (((w2.setCell ⟨bf,i*3,none⟩ (.pointer (f.pg.map (fun x=>(⟨x.1,0,none⟩:Addr))))).setCell ⟨bf,i*3+1,none⟩ (.int .u32 (f.n:Int))).setCell ⟨bf,i*3+2,none⟩ (.int .u64 (f.first:Int))) τ (fun g=>g=tFr) :=
  (((Step.refl w2 τ (fun g=>g=tFr)).set ho.tag rfl _).set ho.tag rfl _).set ho.tag rfl _
 have hfr:=((ho.set (i*3) (.pointer (f.pg.map (fun x=>(⟨x.1,0,none⟩:Addr))))).set (i*3+1) (.int .u32 (f.n:Int))).set (i*3+2) (.int .u64 (f.first:Int))
 rw[Qd8 F i f hi] at hfr
 refine⟨⟨(h.hd.step hs hS1).step m (by decide),by rw[List.length_set];exact h.vf,hfr,?_,hm.step m (by decide),hc.step m (by decide),h.n1,by rw[List.length_set];exact h.k1,by rw[List.length_set,hn];exact h.sn,h.st,hone,?_⟩,m⟩
 ·intro j b P hb
  rw[List.getElem?_set] at hb
  by_cases e:i=j
  ·subst e
   rw[if_pos rfl,if_pos hi] at hb
   exact(hpg b P hb).step m (by simp[tPg,tFr])
  ·rw[if_neg e] at hb
   exact((h.pg j b P hb).step hs (hS3 j)).step m (by simp[tPg,tFr])
 ·intro j n g hg hh
  rw[List.getElem?_set] at hg
  by_cases e:i=j
  ·rw[if_pos e,if_pos hi] at hg
   cases hg
   exact hlow n hh
  ·rw[if_neg e] at hg
   exact h.low j n g hg hh
theorem Qkj {bm:Nat} {g:Tag} {N:Nat} {f:Nat→Option Nat}(hm:MapIs w τ bm g N f) (k:Nat) (hk:k<4294967296)
 {ops:Array Oper} {o:Oper} {a:Act} {K:Act→World→Prop} {Q:Exit→Act→World→Prop} {E:Prop} (hgd:o.guard=none) (m x:Operand)
 (hop:o.op = .call {callee:=.builtin .delete,args:=#[m,x],argTypes:=#[136,36]}) (he:a.eval m = .map (some bm)) (hx:a.eval x = .int .u32 (k:Int))
 (h:∀w',MapIs w' τ bm g N (updO f k none)→Step w τ w' τ (fun t=>t=g)→K (a.put o.dst (.tuple #[])) w'):if Region.wanted o (yielded ops a.tmps)=true then Oper.wp Tryz.prog o a w K Q else E:=by
 have hw:Region.wanted o (yielded ops a.tmps)=true:=by simp[Region.wanted,hgd]
 rw[if_pos hw]
 obtain⟨w',hrun,h1,h2⟩:=hm.drop k hk o.type
 unfold Oper.wp
 simp[execOp,hop,resolve,invoke,builtin,he,hx,hrun,Result.andThen]
 exact h _ h1 h2
theorem Qlp {H:PoolH} {F:List Fr} {s:Ck.Clk.St}(h:PoolAt w τ bp bf H F s) (i:Nat) {f:Fr}{x:Nat×List Int}(hf:F[i]?=some f) (hx:f.pg=some x) (h0:f.first=0) (hn:f.n<4294967296) :
 Calls Tryz.prog 133 #[.pointer (some ⟨bp,0,none⟩),.int .i64 (i:Int)] w fun e w'=>e = .returned (.tuple #[])∧PoolAt w' τ bp bf H (F.set i Fr.no) (Ck.Clk.leaveS s i)∧Step w τ w' τ PoolTag:=by
 obtain⟨c0,c1,c2⟩:=h.cells hf
 rw[hx] at c0
 rw[h0] at c2
 have d2:=h.hd.at 2 (v:=H.vf) rfl
 rw[h.vf] at d2
 have d3:=h.hd.at 3 (v:=.map (some H.bm)) rfl
 have d4:=h.hd.at 4 (v:=.pointer (some ⟨H.bc,0,none⟩)) rfl
 have hk:=h.k1
 have hi:i<F.length:=(List.getElem?_eq_some_iff.1 hf).1
 have hlv:=Qjh h.ck (i:Int)
 have q0:(Qao F)[i*3]?=some (.pointer (some ⟨x.1,0,none⟩)):=by
  have:=h.fr.cell (i*3)
  rw[c0] at this;rw[←this];rfl
 have q1:(Qao F)[i*3+1]?=some (.int .u32 (f.n:Int)):=by
  have:=h.fr.cell (i*3+1)
  rw[c1] at this;rw[←this]
 have q2:(Qao F)[i*3+2]?=some (.int .u64 ((0:Nat):Int)):=by
  have:=h.fr.cell (i*3+2)
  rw[c2] at this;rw[←this]
 obtain⟨H_q0,H_q1,H_q2⟩:=hid3 q0 q1 q2
 clear q0 q1 q2
 generalize hl:F.length=k at *
 simp only[Option.map_some] at c0
 obtain⟨Hlv,H_h,Hf⟩:=hid3 hlv h hf
 clear hlv h hf
 go_enter Tryz.func133,Tryz.ntmps133
 go_wp2_with fail
 refine Hlv.out.mono ?_
 rintro e w1 ⟨rfl,hc1,hs1⟩
 have e2:=(H_h.out.hd.step hs1 (by decide)).at 2 (v:=H.vf) rfl
 rw[H_h.out.vf,hl] at e2
 have e3:=(H_h.out.hd.step hs1 (by decide)).at 3 (v:=.map (some H.bm)) rfl
 have hm1:=H_h.out.mp.step hs1 (by decide)
 have ho1:=H_h.out.fr.step hs1 (by decide)
 have g1:=ho1.at (i*3+1) (v:=.int .u32 (f.n:Int)) (by rw[Qci F i 1 (by omega) (by omega)];obtain⟨_,rfl⟩:=List.getElem?_eq_some_iff.1 Hf.out;rfl)
 obtain⟨Hc1,Hs1,Hm1,Ho1⟩:=hid4 hc1 hs1 hm1 ho1
 clear hc1 hs1 hm1 ho1
 go_wp2_with fail
 go_region_law (first
  | (refine Qkj (Hm1.out.step (Step.refl w1 τ nil).drew (fun h=>h)) f.n hn rfl _ _ rfl rfl rfl ?_
     intro w2 hm2 hs2
     have ho2:=(Ho1.out.step (Step.refl w1 τ nil).drew (fun h=>h)).step hs2 (by decide)
     obtain⟨Hm2,Hs2,Ho2⟩:=hid3 hm2 hs2 ho2
     clear hm2 hs2 ho2))
 all_goals (
  have k0:=Ho2.out.at _ H_q0.out
  have k1:=Ho2.out.at _ H_q1.out
  have k2:=Ho2.out.at _ H_q2.out
  have z0:=Ho2.out.fz (i*3)
  have z1:=Ho2.out.fz (i*3+1)
  have z2:=Ho2.out.fz (i*3+2))
 all_goals go_wp2_with fail
 all_goals go_returns
 all_goals (
  have hall:Step w τ w2 τ (fun g=>g=tClk∨g=tWhere):=(Hs1.out.mono (T:=fun g=>g=tClk∨g=tWhere) (fun _ h=>.inl h)).drew.trans (Hs2.out.mono (fun _ h=>.inr h))
  have hhas:f.has f.n=true:=by simp[Fr.has,hx]
  have hmap:=Hm2.out
  rw[Qfh H_h.out.one Hf.out hhas] at hmap
  obtain⟨hp,hst⟩:=H_h.out.lay hall (by decide) (by decide) (by simp[tPg,tClk,tWhere]) (by omega) Fr.no hmap ((Hc1.out.step (Step.refl w1 τ nil).drew (fun h=>h)).step Hs2.out (by decide)) (Qse _ _) (fun b P h=>by simp[Fr.no] at h) (OneHas.set H_h.out.one i Fr.no (fun j n g _ _ _=>Qk8 n)) (fun n h=>by simp[Fr.has,Fr.no] at h)
  exact⟨rfl,hp,(hall.mono (T:=PoolTag) (fun g h=>by rcases h with rfl|rfl;exact .inr (.inr (.inr (.inl rfl)));exact .inr (.inr (.inl rfl)))).trans (hst.mono (fun g h=>.inr (.inl h)))⟩)
theorem Qf4 {F:List Fr}(one:OneHas F) {i:Nat}(hi:i<F.length) {f:Fr}(hf:F[i]?=some f) (hn:f.pg=none) (g:Fr) (hg:g.has g.n=true) (hno:Qaq F g.n=none) :
 OneHas (F.set i g)∧updO (Qaq F) g.n (some i)=Qaq (F.set i g):=by
 have hfno:∀n,f.has n=false:=fun n=>by simp[Fr.has,hn]
 have hgn:∀n,g.has n=true→n=g.n:=fun n h=>by
  simp only[Fr.has,Bool.and_eq_true,beq_iff_eq] at h;exact h.2.symm
 have hone:OneHas (F.set i g):=one.set i g (fun j n x hj hx hh=>by
  cases hb:g.has n with
  | false=>rfl
  | true =>
    have e:=hgn n hb
    subst e
    have:=(Qa6 one g.n j).2 ⟨x,hx,hh⟩
    rw[hno] at this;cases this)
 refine⟨hone,?_⟩
 funext m
 refine Qvb (fun j=>?_)
 rw[Qa6 hone]
 unfold updO
 by_cases e:m=g.n
 ·rw[if_pos e]
  subst e
  constructor
  ·intro h;cases h
   exact⟨g,by rw[List.getElem?_set,if_pos rfl,if_pos hi],hg⟩
  ·rintro⟨x,hx,hh⟩
   rw[List.getElem?_set] at hx
   by_cases q:i=j
   ·rw[q]
   ·rw[if_neg q] at hx
    have:=(Qa6 one g.n j).2 ⟨x,hx,hh⟩
    rw[hno] at this;cases this
 ·rw[if_neg e,Qa6 one]
  constructor
  ·rintro⟨x,hx,hh⟩
   have q:i≠j:=fun q=>by
    subst q
    rw[hf] at hx;cases hx
    rw[hfno] at hh;cases hh
   exact⟨x,by rw[List.getElem?_set,if_neg q];exact hx,hh⟩
  ·rintro⟨x,hx,hh⟩
   rw[List.getElem?_set] at hx
   by_cases q:i=j
   ·rw[if_pos q,if_pos hi] at hx
    cases hx
    exact absurd (hgn m hh) e
   ·rw[if_neg q] at hx
    exact⟨x,hx,hh⟩
theorem Qca {bm:Nat} {g:Tag} {N:Nat} {f:Nat→Option Nat}(hm:MapIs w τ bm g N f) (hN:N≤100000) (k v:Nat) (hk:k<N) (hv:v<1000000000)
 {ops:Array Oper} {rest:List Oper} {o:Oper} {a:Act} {Q:Exit→Act→World→Prop} (hgd:o.guard=none) (m x y:Operand)
 (hop:o.op = .mapUpdate 136 m x y) (he:a.eval m = .map (some bm)) (hx:a.eval x = .int .u32 (k:Int)) (hy:a.eval y = .int .i64 (v:Int))
 (h:∀w',MapIs w' τ bm g N (updO f k (some v))→Step w τ w' τ (fun t=>t=g)→wpList Tryz.prog ops Q rest (a.put o.dst undef) w'):wpList Tryz.prog ops Q (o::rest) a w:=by
 refine wpList_plain hgd fun K' hK'=>?_
 obtain⟨w',hrun,h1,h2⟩:=hm.store k v hN hk hv
 unfold Oper.wp
 simp[execOp,hop,he,hx,hy,hrun,Result.andThen]
 exact hK' _ _ (h _ h1 h2)
theorem Qkz (s:Ck.Clk.St):(Ck.Clk.pickS s).n=s.n:=by
 unfold Ck.Clk.pickS
 split
 ·rfl
 ·split <;> rfl
theorem PoolAt.clk {w1:World} {H:PoolH} {F:List Fr} {s s1:Ck.Clk.St}(hp:PoolAt w τ bp bf H F s) (hc:ClkAt w1 τ H.bc s1) (hs:Step w τ w1 τ (fun t=>t=tClk)) (hn:s1.n=s.n):PoolAt w1 τ bp bf H F s1 :=
 ⟨hp.hd.step hs (by decide),hp.vf,hp.fr.step hs (by decide),fun i b P hb=>(hp.pg i b P hb).step hs (by simp[tPg,tClk]),hp.mp.step hs (by decide),hc,hp.n1,hp.k1,by rw[hn];exact hp.sn,hp.st,hp.one,hp.low⟩
theorem Qt9 {H:PoolH} {F:List Fr} {s:Ck.Clk.St}(h:PoolAt w τ bp bf H F s) (n:Nat) (hno:Ck.Clk.pickB s=false) :
 Calls Tryz.prog 66 #[.pointer (some ⟨bp,0,none⟩),.int .u32 (n:Int)] w fun e w'=>e = .returned (.tuple #[.int .i64 0,.int .u16 120])∧PoolAt w' τ bp bf H F (Ck.Clk.pickS s)∧Step w τ w' τ PoolTag:=by
 have h1:=Qft h.ck
 rw[hno] at h1
 have d4:=h.hd.at 4 (v:=.pointer (some ⟨H.bc,0,none⟩)) rfl
 obtain⟨H1,H_h⟩:=hid2 h1 h
 clear h1 h
 go_enter Tryz.func66,Tryz.ntmps66
 go_wp2_with fail
 refine H1.out.mono ?_
 rintro e w1 ⟨rfl,hc1,hs1⟩
 obtain⟨Hc1,Hs1⟩:=hid2 hc1 hs1
 clear hc1 hs1
 go_wp2_with fail
 go_ret2
 exact⟨rfl,H_h.out.clk Hc1.out Hs1.out (Qkz s),Hs1.out.mono (fun g h=>.inr (.inr (.inr (.inl h))))⟩
end Go.Proofs.YtemacanaihaldaaGreat