/-
 The world of the pool's laws,its device to be halted: Write,WriteAll.
-/
import Derived.Test.YtemacanaihaldaaGreatML12L
import Derived.Test.YtemacanaihaldaaGreatMTpA
set_option maxRecDepth 100000
set_option maxHeartbeats 4000000
set_option linter.all false
namespace Go.Proofs.YtemacanaihaldaaGreat
variable {D:Dev}{L:LogM}{N bd bf bl bp bw k m:Nat}{w:World}{was:Value}{τ:Tags}
open Go.RowKit
structure WrittenT (w:World) (τ:Tags) (bw bd bl bp bf k N m:Nat) (was:Value) (vs:List (List (List Int))) (H:PoolH) (F:List Fr) (s:Ck.Clk.St) (cur:Nat→List Int) (n:Nat) (w':World) (τ':Tags) (H':PoolH) (L':LogM) (D':Dev) (i:Nat) (f:Fr):Prop where
 all:AllT w' τ' bw bd bl bp bf k N m was vs H' L' D' (F.set i {f with first:=0}) s cur
 st:H'.st=H.st+1
 at_:F[i]?=some f
 has_:f.has n=true
 first:0<f.first
 step:Step w τ w' τ' PWTag
theorem Jdn {vs:List (List (List Int))} {H:PoolH} {F:List Fr} {s:Ck.Clk.St} {cur:Nat→List Int}(ha:AllT w τ bw bd bl bp bf k N m was vs H L D F s cur) (hst:H.st+1<18446744073709551616) (n:Nat) (hn:n<N) :
 Calls Tryz.prog 26 #[.pointer (some ⟨bp,0,none⟩),.int .u32 (n:Int)] w fun e w'=>(e = .returned (.bool false)∧w=w'∧∀(i:Nat) (f:Fr),F[i]?=some f→f.has n=true→f.first=0)∨(e = .returned (.bool true)∧∃τ' H' L' D' i f,WrittenT w τ bw bd bl bp bf k N m was vs H F s cur n w' τ' H' L' D' i f):=by
 have hN:=ha.n8
 have hp:=ha.mv.pool
 have hg:=ha.good
 cases hw:Qaq F n with
 | none =>
   refine(Jaa hp.pool n (by omega) hw).mono ?_
   rintro e w' ⟨rfl,rfl⟩
   refine .inl ⟨rfl,rfl,fun i f hf hh=>?_⟩
   have:=(Qa6 hp.pool.one n i).2 ⟨f,hf,hh⟩
   rw[hw] at this;cases this
 | some i =>
   obtain⟨f,hf,hh⟩:=(Qa6 hp.pool.one n i).1 hw
   by_cases h0:f.first=0
   ·refine(Qyy hp.pool n (by omega) hw hf h0).mono ?_
    rintro e w' ⟨rfl,rfl⟩
    refine .inl ⟨rfl,rfl,fun j g hgj hgh=>?_⟩
    have:=hp.pool.one j i n g f hgj hf hgh hh
    subst this
    rw[hf] at hgj
    cases hgj
    exact h0
   ·obtain⟨b,P,hpg,hfn⟩:=Qd7.1 hh
    have h0':0<f.first:=by omega
    obtain⟨_,hP,_⟩:=hg.frame i f b P hf hpg
    have hsnd:Sound P:=by rw[hP,hfn];exact(hg.page n hn).1
    have hil:=(List.getElem?_eq_some_iff.1 hf).1
    refine(Qyx hp hg.rise hg.cap hg.f0 (by rw[hg.f1,ha.hn];omega) hg.lim hst n (by omega) hw hf hpg (by rw[hfn,ha.hn];exact hn) h0' rfl (Qtd hsnd)).mono ?_
    rintro e w' ⟨rfl,kk,fl,τ2,hat,hp2,hs2⟩
    have hgw:=hg.write hst hf hpg h0' hat
    obtain⟨e1,e2,e3,e4,e5⟩:=Qjz L (kk+(if fl=true then 1 else 0))
    have hPc:P=cur n:=by rw[hP,hfn]
    rw[ha.hn] at hp2
    have hM2:=ha.mv.turn hs2 hp2
    refine .inr ⟨rfl,τ2,_,_,_,i,f,⟨⟨hM2,hgw,ha.clock.same (by rw[List.length_set]) (fun j f' g' hf' hg'=>?_),rfl,ha.hbl,ha.n8,ha.vlen,ha.last,by rw[e1];exact ha.base,by rw[e4];exact ha.strips,by rw[e2];exact ha.stream,by rw[e3];exact ha.starts⟩,rfl,hf,hh,h0',hs2⟩⟩
    rcases set_get hil hg' with ⟨rfl,rfl⟩|⟨_,hg2⟩
    ·rw[hf] at hf'
     cases hf'
     rfl
    ·rw[hf'] at hg2
     cases hg2
     rfl
theorem Je6 {vs:List (List (List Int))} {st:Nat} {F:List Fr} {cur:Nat→List Int}(hg:GoodT vs N st L D F cur):∀x∈Qyu F,x.1<N:=fun x hx=>by
 unfold Qyu Qfs at hx
 rw[List.take_length] at hx
 obtain⟨f,hf,rfl⟩:=List.mem_map.1 hx
 obtain⟨hf1,hf2⟩:=List.mem_filter.1 hf
 obtain⟨i,hi,he⟩:=List.mem_iff_getElem.1 hf1
 have hfi:F[i]?=some f:=by rw[List.getElem?_eq_getElem hi,he]
 have h0:0<f.first:=of_decide_eq_true hf2
 cases hpg:f.pg with
 | none =>
   have:=hg.none i f hfi hpg
   rw[this] at h0
   exact absurd h0 (by show ¬0<0;omega)
 | some x=>exact(hg.frame i f x.1 x.2 hfi hpg).1
theorem DirtyIn.nextT {vs:List (List (List Int))} {st:Nat} {F:List Fr} {cur:Nat→List Int}(hg:GoodT vs N st L D F cur) {x:Nat×Nat}{l:List (Nat×Nat)}(h:DirtyIn F (x::l)) (hc:∀(i:Nat) (f:Fr),F[i]?=some f→f.has x.1=true→f.first=0):DirtyIn F l:=fun i f hf h0=>by
 rcases List.mem_cons.1 (h i f hf h0) with e|e
 ·exfalso
  cases hpg:f.pg with
  | none =>
    have:=hg.none i f hf hpg
    rw[this] at h0
    exact absurd h0 (by show ¬0<0;omega)
  | some y =>
    have:=hc i f hf (Qd7.2 ⟨y.1,y.2,hpg,by rw[←e]⟩)
    omega
 ·exact e
def Jep (w:World) (τ:Tags) (bw bd bl bp bf k N m:Nat) (was:Value) (vs:List (List (List Int))) (H:PoolH) (s:Ck.Clk.St) (cur:Nat→List Int) (w':World):Prop :=
 ∃τ' H' L' D' F',AllT w' τ' bw bd bl bp bf k N m was vs H' L' D' F' s cur∧H.st≤H'.st∧H'.st≤H.st+64∧DirtyIn F' []∧Step w τ w' τ' AnyTag
theorem Jdp {vs:List (List (List Int))} {H:PoolH} {F:List Fr} {s:Ck.Clk.St} {cur:Nat→List Int}(ha:AllT w τ bw bd bl bp bf k N m was vs H L D F s cur) (hst:H.st+64<18446744073709551616) :
 Calls Tryz.prog 37 #[.pointer (some ⟨bp,0,none⟩)] w fun e w'=>e = .returned (.tuple #[])∧Jep w τ bw bd bl bp bf k N m was vs H s cur w':=by
 have hk:=ha.mv.pool.pool.k1
 have hN8:=ha.n8
 have hdir:=Jaz ha.mv.pool.pool (Jdy F.length (by omega))
 obtain⟨Ha,Hdir⟩:=hid2 ha hdir
 clear ha hdir
 go_enter Tryz.func37,Tryz.ntmps37
 go_wp2_with fail
 refine Hdir.out.mono ?_
 rintro e w1 ⟨v,τ1,l,rfl,hperm,-,hnd,hs1⟩
 obtain⟨p,c,rfl⟩:=hnd.val
 have hlen:l.length≤64:=by
  have h1:=hperm.length_eq
  have h2:=Qg6 F F.length
  have h3:(Qyu F).length=(Qfs F F.length).length:=rfl
  omega
 have hlt:∀x∈l,x.1<N:=fun x hx=>Je6 Ha.out.good x (hperm.mem_iff.1 hx)
 have hdi:DirtyIn F (l.drop 0):=fun i f hf h0=>hperm.mem_iff.2 (Jeb F i f hf h0)
 have ha1:=Ha.out.step hs1
 have hst1:=hs1.mono (T:=AnyTag) (fun _ h=>h.elim)
 have hnd0:ND 0 w1 τ1 tDirt (.slice p l.length c) l:=⟨hnd.buf,fun _ _=>Nat.zero_le _⟩
 generalize hll:l.length=ll at *
 obtain⟨Hll,Hlt,Ha1,Hst1,Hnd0,Hdi⟩:=hid6 hll hlt ha1 hst1 hnd0 hdi
 clear hll hlt ha1 hst1 hnd0 hdi Ha Hdir hs1 hperm hnd
 go_wp2_with fail
 go_loopw [7] (fun v wr=>∃(r:Nat) (τr:Tags) (Hr:PoolH) (Lr:LogM) (Dr:Dev) (Fr':List Fr),r≤ll∧v = .int .i64 (r:Int)∧AllT wr τr bw bd bl bp bf k N m was vs Hr Lr Dr Fr' s cur∧H.st≤Hr.st∧Hr.st≤H.st+r∧DirtyIn Fr' (l.drop r)∧ND 0 wr τr tDirt (.slice p ll c) l∧Step w τ wr τr AnyTag) (fun v _=>ll-(intOf v).toNat)
 case atStart=>exact⟨0,τ1,_,_,_,_,Nat.zero_le _,rfl,Ha1.out,Nat.le_refl _,Nat.le_refl _,Hdi.out,Hnd0.out,Hst1.out⟩
 case round =>
  obtain⟨r,τr,Hr,Lr,Dr,Fr',hr,rfl,hA,hs2,hs3,hD,hN,hst⟩:=hrel
  by_cases hrl:r<ll
  ·have hrl':r<l.length:=by rw[Hll.out];exact hrl
   obtain⟨p',c',hv,-,hrd⟩:=hN.read
   obtain⟨b,hp,r0,r1⟩:=hrd r hrl'
   rw[Hll.out] at hv
   cases hv
   subst hp
   obtain⟨x,hx⟩:∃x,l[r]=x:=⟨_,rfl⟩
   have hdc:=Jea hrl'
   rw[hx] at r0 r1 hdc
   have hx1:x.1<N:=Hlt.out x (by rw[←hx];exact List.getElem_mem _)
   obtain⟨n,y⟩:=x
   simp only at r0 r1 hx1
   have hq:Step wr τr (wr.alloc (.cells #[.int .u32 (n:Int),.int .u64 (y:Int)] 195)) τr nil:=(Step.refl wr τr nil).alloc' _
   have hA1:=hA.step hq
   have hN1:=hN.step hq (fun h=>h)
   have hst1':=hst.trans (hq.mono (T:=AnyTag) (fun _ h=>h.elim))
   have hwr:=Jdn hA1 (by omega) n hx1
   have hri:(r:Int)<(ll:Int):=by omega
   rw[hdc] at hD
   obtain⟨HD,HN1⟩:=hid2 hD hN1
   have Hst1':=Lib.hid hst1'
   obtain⟨Hwr,HA1,Hdc⟩:=hid3 hwr hA1 hdc
   clear hD hN1 hst1' hwr hA1 hdc hN hst hrd hq hA
   go_wp2_with fail
   refine Hwr.out.mono ?_
   rintro e w3 (⟨rfl,rfl,hcl⟩|⟨rfl,τ3,H3,L3,D3,i,f,hW⟩)
   ·have hD2:=HD.out.nextT HA1.out.good hcl
    have HD2:=Lib.hid hD2
    clear hD2
    go_wp2_with fail
    go_round
    case rel=>exact⟨r+1,τr,_,_,_,_,by omega,by simp,HA1.out,hs2,by omega,HD2.out,HN1.out,Hst1'.out⟩
    case measure=>simp[intOf];omega
   ·have hD2:DirtyIn (Fr'.set i {f with first:=0}) (l.drop (r+1)):=(HD.out.set hW.at_).nextT hW.all.good (Jed HA1.out.mv.pool.pool.one hW.at_ hW.has_)
    have hN2:=HN1.out.step hW.step Jfd
    have hst2:=Hst1'.out.trans (hW.step.mono (T:=AnyTag) (fun _ h=>Jc8 h))
    have hsw:=hW.st
    obtain⟨HD2,HN2,Hst2,HW⟩:=hid4 hD2 hN2 hst2 hW
    clear hD2 hN2 hst2 hW
    go_wp2_with fail
    go_round
    case rel=>exact⟨r+1,τ3,H3,L3,D3,_,by omega,by simp,HW.out.all,by omega,by omega,HD2.out,HN2.out,Hst2.out⟩
    case measure=>simp[intOf];omega
  ·obtain rfl:r=ll:=by omega
   rw[List.drop_eq_nil_of_le (by rw[Hll.out];exact Nat.le_refl _)] at hD
   obtain⟨HA,HD,HN,Hst⟩:=hid4 hA hD hN hst
   clear hA hD hN hst
   go_wp2_with fail
   go_end0
   exact⟨rfl,τr,Hr,Lr,Dr,Fr',HA.out,hs2,by omega,HD.out,Hst.out⟩
def DoesT (w:World) (τ:Tags) (bw bd bl bp bf k N m:Nat) (H:PoolH) (e:Ending) (w':World):Prop :=
 e = .returned (.bool true)∧∃was' vs' H' L' D' F' s' cur' τ',AllT w' τ' bw bd bl bp bf k N (m+1) was' vs' H' L' D' F' s' cur'∧H.st≤H'.st∧H'.st≤H.st+64∧Step w τ w' τ' AnyTag
theorem Jfu {vs:List (List (List Int))} {H:PoolH} {F:List Fr} {s:Ck.Clk.St} {cur:Nat→List Int}(ha:AllT w τ bw bd bl bp bf k N m was vs H L D F s cur) (hm:m≤200) (hst:H.st+64<18446744073709551616) (kd pg:Nat) (h8:kd%12=8) (slot:Int) {v:Value}(pf:Option Addr) (nf cf:Nat) :
 Calls Tryz.prog 11 #[.pointer (some ⟨bw,0,none⟩),.agg #[.int .u8 (kd:Int),.int .u32 (pg:Int),.int .i64 slot,v,.slice pf nf cf]] w (DoesT w τ bw bd bl bp bf k N m H):=by
 have hst1:=(Step.refl w τ nil).alloc' (.cells #[.int .u8 (kd:Int),.int .u32 (pg:Int),.int .i64 slot,v,.slice pf nf cf] 39)
 have ha1:=ha.step hst1
 have c2:=ha1.mv.own.at 2 (v:=.pointer (some ⟨bp,0,none⟩)) rfl
 have hwa:=Jdp ha1 hst
 have hq1:(kd:Int)%12=8:=by omega
 have hq2:Int.tmod (kd:Int) 12=8:=by rw[Int.tmod_eq_emod_of_nonneg (by omega)];exact hq1
 obtain⟨Ha,Hst1,Ha1,Hwa⟩:=hid4 ha hst1 ha1 hwa
 clear ha hst1 ha1 hwa
 go_enter Tryz.func11,Tryz.ntmps11
 go_wp2_with fail
 refine Hwa.out.mono ?_
 rintro e w2 ⟨rfl,τ2,H2,L2,D2,F2,hA2,hs1,hs2,-,hst2⟩
 have hst3:=(Hst1.out.mono (T:=AnyTag) (fun _ h=>h.elim)).trans hst2
 obtain⟨HA2,Hst3⟩:=hid2 hA2 hst3
 clear hA2 hst3
 go_wp2_with fail
 go_ret
 exact⟨rfl,_,_,_,_,_,_,_,_,_,HA2.out.more,hs1,hs2,Hst3.out⟩
theorem Jfs {vs:List (List (List Int))} {H:PoolH} {F:List Fr} {s:Ck.Clk.St} {cur:Nat→List Int}(ha:AllT w τ bw bd bl bp bf k N m was vs H L D F s cur) (hm:m≤200) (hh0:D.halted=false) (hst:H.st+64<18446744073709551616) (kd pg:Nat) (h8:kd%12<4) (hpg:pg<4294967296) (slot:Int) {v:Value}{data:List Int}(hb:Bytes w τ tBox v data) (pf:Option Addr) (nf cf:Nat) :
 Calls Tryz.prog 11 #[.pointer (some ⟨bw,0,none⟩),.agg #[.int .u8 (kd:Int),.int .u32 (pg:Int),.int .i64 slot,v,.slice pf nf cf]] w (DoesT w τ bw bd bl bp bf k N m H):=by
 have hst1:=(Step.refl w τ nil).alloc' (.cells #[.int .u8 (kd:Int),.int .u32 (pg:Int),.int .i64 slot,v,.slice pf nf cf] 39)
 have ha1:=ha.step hst1
 have hb1:=hb.step hst1 (fun h=>h)
 have hws:=Jfa ha1 hm hh0 (by omega) kd pg hpg slot (vl:=.slice pf nf cf) hb1
 have hq2:Int.tmod (kd:Int) 12=(kd:Int)%12:=by rw[Int.tmod_eq_emod_of_nonneg (by omega)]
 obtain⟨pv,cv0,rfl,_,_⟩:=hb.any
 have hfin:∀e w',SetT (w.alloc (.cells #[.int .u8 (kd:Int),.int .u32 (pg:Int),.int .i64 slot,.slice pv data.length cv0,.slice pf nf cf] 39)) τ bw bd bl bp bf k N m H e w'→DoesT w τ bw bd bl bp bf k N m H e w':=fun e w' ⟨h1,was',vs',H',L',D',F',s',cur',τ',hA,h2,h3,hs⟩ =>
  ⟨h1,was',vs',H',L',D',F',s',cur',τ',hA,h2,by omega,(hst1.mono (T:=AnyTag) (fun _ h=>h.elim)).trans hs⟩
 generalize data.length=dl at *
 obtain⟨Ha,Hst1,Ha1,Hb1,Hws,Hfin⟩:=hid6 ha hst1 ha1 hb1 hws hfin
 clear ha hst1 ha1 hb1 hws hfin hb
 have h4:kd%12=0∨kd%12=1∨kd%12=2∨kd%12=3:=by omega
 rcases h4 with h4|h4|h4|h4
 ·have hq1:(kd:Int)%12=0:=by omega
  go_enter Tryz.func11,Tryz.ntmps11
  go_wp2_with fail
  refine Hws.out.mono ?_
  rintro e w2 h2
  obtain⟨rfl,h2'⟩:=Hfin.out _ _ h2
  have H2':=Lib.hid h2'
  clear h2' h2
  go_wp2_with fail
  go_ret
  exact⟨rfl,H2'.out⟩
 ·have hq1:(kd:Int)%12=1:=by omega
  go_enter Tryz.func11,Tryz.ntmps11
  go_wp2_with fail
  refine Hws.out.mono ?_
  rintro e w2 h2
  obtain⟨rfl,h2'⟩:=Hfin.out _ _ h2
  have H2':=Lib.hid h2'
  clear h2' h2
  go_wp2_with fail
  go_ret
  exact⟨rfl,H2'.out⟩
 ·have hq1:(kd:Int)%12=2:=by omega
  go_enter Tryz.func11,Tryz.ntmps11
  go_wp2_with fail
  refine Hws.out.mono ?_
  rintro e w2 h2
  obtain⟨rfl,h2'⟩:=Hfin.out _ _ h2
  have H2':=Lib.hid h2'
  clear h2' h2
  go_wp2_with fail
  go_ret
  exact⟨rfl,H2'.out⟩
 ·have hq1:(kd:Int)%12=3:=by omega
  go_enter Tryz.func11,Tryz.ntmps11
  go_wp2_with fail
  refine Hws.out.mono ?_
  rintro e w2 h2
  obtain⟨rfl,h2'⟩:=Hfin.out _ _ h2
  have H2':=Lib.hid h2'
  clear h2' h2
  go_wp2_with fail
  go_ret
  exact⟨rfl,H2'.out⟩
theorem Jee {vs:List (List (List Int))} {H:PoolH} {F:List Fr} {s:Ck.Clk.St} {cur:Nat→List Int}(ha:AllT w τ bw bd bl bp bf k N m was vs H L D F s cur) (hst:H.st+1<18446744073709551616) (n:Nat) (hn:n<N) :
 Calls Tryz.prog 26 #[.pointer (some ⟨bp,0,none⟩),.int .u32 (n:Int)] w fun e w'=>∃r,e = .returned (.bool r)∧∃τ' H' L' D' F',AllT w' τ' bw bd bl bp bf k N m was vs H' L' D' F' s cur∧H.st≤H'.st∧H'.st≤H.st+1∧Step w τ w' τ' PWTag:=by
 refine(Jdn ha hst n hn).mono ?_
 rintro e w2 (⟨rfl,rfl,hcl⟩|⟨rfl,τ3,H3,L3,D3,i,f,hW⟩)
 ·exact⟨false,rfl,τ,H,L,D,F,ha,Nat.le_refl _,Nat.le_succ _,Step.refl _ _ _⟩
 ·exact⟨true,rfl,τ3,H3,L3,D3,_,hW.all,by rw[hW.st];omega,by rw[hW.st];omega,hW.step⟩
theorem Jek {vs:List (List (List Int))} {H:PoolH} {F:List Fr} {s:Ck.Clk.St} {cur:Nat→List Int}(ha:AllT w τ bw bd bl bp bf k N m was vs H L D F s cur) (hm:m≤200) (hst:H.st+64<18446744073709551616) (kd pg:Nat) (h8:kd%12=7) (hpg:pg<4294967296) (slot:Int) {v:Value}(pf:Option Addr) (nf cf:Nat) :
 Calls Tryz.prog 11 #[.pointer (some ⟨bw,0,none⟩),.agg #[.int .u8 (kd:Int),.int .u32 (pg:Int),.int .i64 slot,v,.slice pf nf cf]] w (DoesT w τ bw bd bl bp bf k N m H):=by
 have hN8:=ha.n8
 have hst1:=(Step.refl w τ nil).alloc (.cells #[.int .u8 (kd:Int),.int .u32 (pg:Int),.int .i64 slot,v,.slice pf nf cf] 39) tOp
 have hop:=Own.born w τ tOp 39 #[.int .u8 (kd:Int),.int .u32 (pg:Int),.int .i64 slot,v,.slice pf nf cf]
 have ha1:=ha.step hst1
 obtain⟨n,hn⟩:∃n,pg%N=n:=⟨_,rfl⟩
 have hnN:n<N:=by rw[←hn];exact Nat.mod_lt _ (by omega)
 obtain⟨bws,cap,bv,j,cv,px,cx,ver,rfl,-⟩:=ha1.mv.latest ha1.vlen ha1.last hnN
 generalize τ.put w.heap.size tOp=τ1 at *
 have c2:=ha1.mv.own.at 2 (v:=.pointer (some ⟨bp,0,none⟩)) rfl
 have c4:=ha1.mv.own.at 4 (v:=.slice (some ⟨bws,0,none⟩) N cap) rfl
 have q1:=hop.at 1 (v:=.int .u32 (pg:Int)) rfl
 have hNw:=Qb1 N (by omega)
 have hN0:¬(N:Int)=0:=by omega
 have hN0':¬N=0:=by omega
 have hrem:(pg:Int)%(N:Int)=(n:Int):=by omega
 have hrem2:Int.tmod (pg:Int) (N:Int)=(n:Int):=by rw[Int.tmod_eq_emod_of_nonneg (by omega)];exact hrem
 have hnw:=Qb1 n (by omega)
 have hq1:(kd:Int)%12=7:=by omega
 have hq2:Int.tmod (kd:Int) 12=7:=by rw[Int.tmod_eq_emod_of_nonneg (by omega)];exact hq1
 have hwr:=Jee (ha1.step (Step.refl _ τ1 nil).drew) (by omega) n hnN
 obtain⟨Ha,Hst1,Ha1,Hop,Hwr,Hn⟩:=hid6 ha hst1 ha1 hop hwr hn
 clear ha hst1 ha1 hop hwr hn
 go_enter Tryz.func11,Tryz.ntmps11
 go_wp2_with fail
 go_region_held3 (fun w'=>w'.cell? ⟨bw,2,none⟩=some (.pointer (some ⟨bp,0,none⟩))∧w'.cell? ⟨bw,4,none⟩=some (.slice (some ⟨bws,0,none⟩) N cap)∧w'.cell? ⟨w.heap.size,1,none⟩=some (.int .u32 (pg:Int))) (go_keep) (first
  | (go_at_call 26
     refine Hwr.out.mono ?_
     rintro e w2 ⟨r,rfl,τ2,H2,L2,D2,F2,hA2,hs1,hs2,hst2⟩
     have e2:=hA2.mv.own.at 2 (v:=.pointer (some ⟨bp,0,none⟩)) rfl
     have e4:=hA2.mv.own.at 4 (v:=.slice (some ⟨bws,0,none⟩) N cap) rfl
     have f1:=((Hop.out.step (Step.refl _ τ1 nil).drew (fun h=>h)).step hst2 pw_op).at 1 (v:=.int .u32 (pg:Int)) rfl
     obtain⟨HA2,Hst2⟩:=hid2 hA2 hst2
     clear hA2 hst2))
 have hst3:=((Hst1.out.mono (T:=AnyTag) (fun _ h=>h.elim)).drew).trans (Hst2.out.mono (T:=AnyTag) (fun _ h=>Jc8 h))
 have Hst3:=Lib.hid hst3
 clear hst3
 go_wp2_with fail
 go_ret
 exact⟨rfl,_,_,_,_,_,_,_,_,_,HA2.out.more,hs1,by omega,Hst3.out⟩
theorem Jft {vs:List (List (List Int))} {H:PoolH} {F:List Fr} {s:Ck.Clk.St} {cur:Nat→List Int}(ha:AllT w τ bw bd bl bp bf k N m was vs H L D F s cur) (hm:m≤200) (hh0:D.halted=false) (hst:H.st+64<18446744073709551616) (kd pg:Nat) (h7:¬kd%12=7) (h8:¬kd%12=8) (h4:¬kd%12<4) (hpg:pg<4294967296) (slot:Int) {v:Value}(pf:Option Addr) (nf cf:Nat) :
 Calls Tryz.prog 11 #[.pointer (some ⟨bw,0,none⟩),.agg #[.int .u8 (kd:Int),.int .u32 (pg:Int),.int .i64 slot,v,.slice pf nf cf]] w (DoesT w τ bw bd bl bp bf k N m H):=by
 have hN8:=ha.n8
 have hst1:=(Step.refl w τ nil).alloc (.cells #[.int .u8 (kd:Int),.int .u32 (pg:Int),.int .i64 slot,v,.slice pf nf cf] 39) tOp
 have hop:=Own.born w τ tOp 39 #[.int .u8 (kd:Int),.int .u32 (pg:Int),.int .i64 slot,v,.slice pf nf cf]
 have ha1:=ha.step hst1
 obtain⟨n,hn⟩:∃n,pg%N=n:=⟨_,rfl⟩
 have hnN:n<N:=by rw[←hn];exact Nat.mod_lt _ (by omega)
 generalize τ.put w.heap.size tOp=τ1 at *
 obtain⟨bws,cap,bv,j,cv,px,cx,ver,rfl,hca1,hca2,hlv,hjm,hver,hvl,hnv⟩:=ha1.mv.latest ha1.vlen ha1.last hnN
 have c4:=ha1.mv.own.at 4 (v:=.slice (some ⟨bws,0,none⟩) N cap) rfl
 have q1:=hop.at 1 (v:=.int .u32 (pg:Int)) rfl
 have hNw:=Qb1 N (by omega)
 have hN0:¬(N:Int)=0:=by omega
 have hN0':¬N=0:=by omega
 have hrem:(pg:Int)%(N:Int)=(n:Int):=by omega
 have hrem2:Int.tmod (pg:Int) (N:Int)=(n:Int):=by rw[Int.tmod_eq_emod_of_nonneg (by omega)];exact hrem
 have hnw:=Qb1 n (by omega)
 obtain⟨q,hq⟩:∃q,kd%12=q:=⟨_,rfl⟩
 have hq12:q<12:=by omega
 have hq1:(kd:Int)%12=(q:Int):=by omega
 have hq2:Int.tmod (kd:Int) 12=(q:Int):=by rw[Int.tmod_eq_emod_of_nonneg (by omega)];exact hq1
 have hqw:=Jfy q (by omega)
 have q7:¬(q:Int)=7:=by omega
 have q8:¬(q:Int)=8:=by omega
 have q0:¬(q:Int)=0:=by omega
 have q01:¬q=0:=by omega
 have q11:¬(q:Int)=1:=by omega
 have q2:¬(q:Int)=2:=by omega
 have q3:¬(q:Int)=3:=by omega
 obtain⟨Ha1,Hop,Hst1,Hlv,Hver,Hvl,Hn,Hnv,Hq⟩:=hid9 ha1 hop hst1 hlv hver hvl hn hnv hq
 clear ha1 hop hst1 hlv hver hvl hn hnv hq ha
 go_enter Tryz.func11,Tryz.ntmps11
 go_wp2_with fail
 go_quiet (fail)
 generalize w.alloc (.cells #[.int .u8 (kd:Int),.int .u32 (pg:Int),.int .i64 slot,v,.slice pf nf cf] 39)=w1 at *
 have hsq:=(Step.refl w1 τ1 nil).drews nq
 have ha2:=Ha1.out.step hsq
 have hlv2:=Hlv.out.nil hsq
 have hst2:=(Hst1.out.mono (T:=AnyTag) (fun _ h=>h.elim)).trans (hsq.mono (fun _ h=>h.elim))
 generalize w1.drewN nq=w2 at *
 clear Ha1 Hop Hst1 Hlv Hnv hsq c4 q1 w1
 have d2:=ha2.mv.own.at 2 (v:=.pointer (some ⟨bp,0,none⟩)) rfl
 have hget:=Jey ha2 hh0 (by omega) n hnN
 obtain⟨Hget,Hlv2,Hst2,Ha2⟩:=hid4 hget hlv2 hst2 ha2
 clear hget hlv2 hst2 ha2
 go_wp2_with fail
 refine Hget.out.mono ?_
 rintro e w3 ⟨b,rfl,τ3,H3,L3,D3,F3,s3,i,f,hI3,hs31,hs32,hs3⟩
 have hlv3:=Hlv2.out.pw hs3
 have d4:=hI3.mv.own.at 4 (v:=.slice (some ⟨bws,0,none⟩) N cap) rfl
 have d5:=hlv3.c1
 have d6:=hlv3.c2
 have hlt:((n:Int)<(N:Int)):=by omega
 have hP3:=hI3.page
 have h448:=hP3.len
 have hst3:=Hst2.out.trans (hs3.mono (T:=AnyTag) (fun _ h=>Jc8 h))
 rw[h448] at d6
 have hby:=Qhy (hP3.step (Step.refl w3 τ3 nil).drew (fun h=>h)) tData
 have hlvd:=hlv3.nil (Step.refl w3 τ3 nil).drew
 have hj1:IntKind.i64.wrap ((j:Int)+1-1)=(j:Int):=by
  have:(j:Int)+1-1=(j:Int):=by omega
  rw[this];exact Qd5 _ (by omega) (by omega)
 have hj0:IntKind.i64.wrap (j:Int)=(j:Int):=Qd5 _ (by omega) (by omega)
 have hj5:IntKind.i64.wrap ((j:Int)+1)=(j:Int)+1:=Qd5 _ (by omega) (by omega)
 have hj2:(j:Int)+1-1=(j:Int):=by omega
 have hj3:(j:Int)<(j:Int)+1:=by omega
 have hj4:j<j+1:=by omega
 obtain⟨Hlv3,Hst3,HI3,HP3,Hby,Hlvd,Hs3,H448⟩:=hid8 hlv3 hst3 hI3 hP3 hby hlvd hs3 h448
 clear hlv3 hst3 hI3 hP3 hby hlvd hs3 h448
 go_wp2_with fail
 go_region_held3 (fun w'=>w'.cell? ⟨bv,j,none⟩=some (.slice px 448 cx)) (go_keep) (first
  | (go_at_call 18
     refine Hby.out.mono ?_
     rintro e w4 ⟨u4,τ4,rfl,hn4,hs4⟩
     have hlv4:=Hlvd.out.nil hs4
     have hsb:=Qng hn4.bytes hlv4.by_
     rw[decide_eq_true rfl,H448.out] at hsb
     obtain⟨p4,c4,hu4⟩:=hn4.val
     rw[H448.out] at hu4
     subst hu4
     have e6:=hlv4.c2
     rw[H448.out] at e6
     have hs4':=(Step.refl w3 τ3 nil).drew.trans hs4
     have Hsb:=Lib.hid hsb
     have Hs4':=Lib.hid hs4'
     clear hsb hs4'
     clear hn4 hs4 hlv4)
  | (go_at_call 17
     refine Hsb.out.mono ?_
     rintro e w5 ⟨rfl,rfl⟩))
 have hI4:=HI3.out.step Hs4'.out
 have hst4:=Hst3.out.trans (Hs4'.out.mono (T:=AnyTag) (fun _ h=>h.elim))
 have g2:=hI4.mv.own.at 2 (v:=.pointer (some ⟨bp,0,none⟩)) rfl
 have hput:=Jd2 hI4
 obtain⟨Hput,Hst4⟩:=hid2 hput hst4
 clear hput hst4 hI4
 go_wp2_with fail
 refine Hput.out.mono ?_
 rintro e w6 ⟨rfl,s6,hA6,hs6⟩
 have hst6:=Hst4.out.trans (hs6.mono (T:=AnyTag) (fun _ h=>Jc8 h))
 obtain⟨HA6,Hst6⟩:=hid2 hA6 hst6
 clear hA6 hst6
 go_wp2_with fail
 go_ret
 exact⟨rfl,_,_,_,_,_,_,_,_,_,HA6.out.more,hs31,by omega,Hst6.out⟩
theorem Jfr {vs:List (List (List Int))} {H:PoolH} {F:List Fr} {s:Ck.Clk.St} {cur:Nat→List Int}(ha:AllT w τ bw bd bl bp bf k N m was vs H L D F s cur) (hm:m≤200) (hh0:D.halted=false) (hst:H.st+64<18446744073709551616) (kd pg:Nat) (hpg:pg<4294967296) (slot:Int) {v:Value}{data:List Int}(hb:Bytes w τ tBox v data) (pf:Option Addr) (nf cf:Nat) :
 Calls Tryz.prog 11 #[.pointer (some ⟨bw,0,none⟩),.agg #[.int .u8 (kd:Int),.int .u32 (pg:Int),.int .i64 slot,v,.slice pf nf cf]] w (DoesT w τ bw bd bl bp bf k N m H):=by
 by_cases h4:kd%12<4
 ·exact Jfs ha hm hh0 hst kd pg h4 hpg slot hb pf nf cf
 ·by_cases h7:kd%12=7
  ·exact Jek ha hm hst kd pg h7 hpg slot pf nf cf
  ·by_cases h8:kd%12=8
   ·exact Jfu ha hm hst kd pg h8 slot pf nf cf
   ·exact Jft ha hm hh0 hst kd pg h7 h8 h4 hpg slot pf nf cf
end Go.Proofs.YtemacanaihaldaaGreat