/-
 Pages: sound.
-/
import Derived.Test.YtemacanaihaldaaGreatMPageS
import Derived.Test.YtemacanaihaldaaGreatMInts
set_option maxRecDepth 100000
set_option maxHeartbeats 4000000
set_option linter.all false
namespace Go.Proofs.YtemacanaihaldaaGreat
open Go.RowKit
def tTak:Tag:=(94,0)
theorem Qj3:Tryz.zeroCells357 = (bools (fun _=>false) 448).toArray:=by kernel_rfl
theorem Qnr {w:World}{τ:Tags}{g:Tag}{b:Nat}{P:List Int}(h:PageAt w τ g b P) :
 Calls Tryz.prog 201 #[.pointer (some ⟨b,0,none⟩)] w fun e w'=>e = .returned (.bool (Qeh P))∧∃τ',Step w τ w' τ' nil:=by
 have hcnt:=Qax h
 by_cases h40:40<pageCount P
 ·have hb:Qeh P=false:=by unfold Qeh;rw[if_pos h40]
  rw[hb]
  generalize pageCount P=q at *
  have a1:(40:Int)<(q:Int):=by omega
  obtain⟨Hcnt,Hb⟩:=hid2 hcnt hb
  clear hcnt hb h
  go_enter Tryz.func201,Tryz.ntmps201
  go_wp2_with fail
  refine Hcnt.out.mono ?_
  rintro e w' ⟨rfl,rfl⟩
  go_wp2_with fail
  go_ret
  exact⟨rfl,τ,Step.refl _ _ _⟩
 ·have ho:=Own.born w τ tTak 357 Tryz.zeroCells357
  have hst:=(Step.refl w τ nil).alloc (.cells Tryz.zeroCells357 357) tTak
  rw[Qj3] at ho
  have hcnt0:=Qax (h.step hst (fun h=>h))
  have hq40:pageCount P≤40:=by omega
  have hz0:soundTo P 0=some (fun _=>false,448):=rfl
  have hsn:=fun s=>Qqh (P:=P) (s:=s)
  have hsz:=fun (T:Nat→Bool) (low n:Nat)=>Qo1 (P:=P) (T:=T) (low:=low) (n:=n)
  have hse:=fun (T:Nat→Bool) (low:Nat)=>Qmn (P:=P) (T:=T) (low:=low) hq40
  have hstp:∀s,soundTo P (s+1)=Qe4 P (soundTo P s) s:=fun s=>rfl
  have hlo16:∀s,pOff P s<65536:=Qu7 h.isB
  have hln16:∀s,pLen P s<65536:=Qzk h.isB
  have h448:=h.len
  have hsend:∀low,Qjr P low=(decide (low=pageLow P) && (decide (pageCount P=0) || decide (0<pLen P (pageCount P-1)))):=fun low=>rfl
  generalize hB:Qeh P=B at *
  generalize hq:pageCount P=q at *
  have a1:¬(40:Int)<(q:Int):=by omega
  obtain⟨Hcnt,Hcnt0,Hst,Ho,Hz0,Hsn,Hsz,Hse,Hstp,Hlo16,Hln16,Hq⟩:=hid12 hcnt hcnt0 hst ho hz0 hsn hsz hse hstp hlo16 hln16 hq
  obtain⟨Hsend,HB⟩:=hid2 hsend hB
  clear hcnt hcnt0 hst ho hz0 hsn hsz hse hstp hlo16 hln16 hq hsend hB
  have H_h:=Lib.hid h
  clear h
  go_enter Tryz.func201,Tryz.ntmps201
  go_wp2_with fail
  refine Hcnt.out.mono ?_
  rintro e w' ⟨rfl,rfl⟩
  go_wp2_with fail
  refine Hcnt0.out.mono ?_
  rintro e w' ⟨rfl,rfl⟩
  go_wp2_with fail
  go_loopw [4,17] (fun lo v wr=>∃(i low:Nat) (T:Nat→Bool) (τr:Tags),i≤q∧v = .int .i64 (i:Int)∧lo = .int .i64 (low:Int)∧low≤448∧soundTo P i=some (T,low)∧Own wr τr w.heap.size tTak 357 (bools T 448)∧Step w τ wr τr nil) (fun _ v _=>q-(intOf v).toNat)
  case atStart=>exact⟨0,448,fun _=>false,_,Nat.zero_le _,rfl,rfl,Nat.le_refl _,Hz0.out,Ho.out,Hst.out⟩
  case round =>
   obtain⟨i,low,T,τr,hi,rfl,rfl,hlow,hT,hown,hstr⟩:=hrel
   have hpr:=H_h.out.step hstr (fun h=>h)
   by_cases hlt:i<q
   ·have hat:=Qgu hpr i (by omega) (by rw[Hq.out];omega)
    have hc2:=Qax hpr
    rw[Hq.out] at hc2
    have he2:=Qfn wr q (by omega)
    have hnx:=Hstp.out i
    rw[hT] at hnx
    have ho16:=Hlo16.out i
    have hn16:=Hln16.out i
    have hsnx:=Hsn.out (i+1)
    unfold Qe4 at hnx
    simp only[Hq.out] at hnx
    generalize hpo:pOff P i=o at *
    generalize hpl:pLen P i=n at *
    by_cases hc1:n=0∧o=0
    ·rw[if_pos hc1] at hnx
     obtain⟨rfl,rfl⟩:=hc1
     obtain⟨Hat,Hnx,Hown,Hstr,Hsnx⟩:=hid5 hat hnx hown hstr hsnx
     clear hat hnx hown hstr hsnx hc2 he2 hT hpr
     go_wp2_with fail
     refine Hat.out.mono ?_
     rintro e w' ⟨rfl,rfl⟩
     go_wp2_with fail
     go_round
     case rel=>exact⟨i+1,low,T,τr,by omega,by simp,rfl,hlow,Hnx.out,Hown.out,Hstr.out⟩
     case measure=>simp[intOf];omega
    ·rw[if_neg hc1] at hnx
     by_cases hbad:n=0∨64<n∨o<16+4*q∨448<o+n
     ·rw[if_pos hbad] at hnx
      have hfalse:=hsnx hnx (by omega)
      by_cases b1:n=0
      ·subst b1
       have b2:¬(o:Int)=0:=by omega
       obtain⟨Hat,Hstr,Hfalse⟩:=hid3 hat hstr hfalse
       clear hat hstr hfalse hc2 he2 hT hpr hnx hsnx hown hbad hc1
       go_wp2_with fail
       refine Hat.out.mono ?_
       rintro e w' ⟨rfl,rfl⟩
       go_wp2_with fail
       go_returns
       exact⟨by rw[Hfalse.out];rfl,τr,Hstr.out⟩
      ·have b1':¬(n:Int)=0:=by omega
       by_cases b2:64<n
       ·have b2':(64:Int)<(n:Int):=by omega
        obtain⟨Hat,Hstr,Hfalse⟩:=hid3 hat hstr hfalse
        clear hat hstr hfalse hc2 he2 hT hpr hnx hsnx hown hbad hc1
        go_wp2_with fail
        refine Hat.out.mono ?_
        rintro e w' ⟨rfl,rfl⟩
        go_wp2_with fail
        go_returns
        exact⟨by rw[Hfalse.out];rfl,τr,Hstr.out⟩
       ·have b2':¬(64:Int)<(n:Int):=by omega
        by_cases b3:o<16+4*q
        ·have b3':(o:Int)<16+4*(q:Int):=by omega
         obtain⟨Hat,Hstr,Hfalse,Hc2,He2⟩:=hid5 hat hstr hfalse hc2 he2
         clear hat hstr hfalse hc2 he2 hT hpr hnx hsnx hown hbad hc1
         go_wp2_with fail
         refine Hat.out.mono ?_
         rintro e w' ⟨rfl,rfl⟩
         go_wp2_with fail
         refine Hc2.out.mono ?_
         rintro e w' ⟨rfl,rfl⟩
         go_wp2_with fail
         refine He2.out.mono ?_
         rintro e w' ⟨rfl,rfl⟩
         go_wp2_with fail
         go_returns
         exact⟨by rw[Hfalse.out];rfl,τr,Hstr.out⟩
        ·have b3':¬(o:Int)<16+4*(q:Int):=by omega
         have b4:(448:Int)<(o:Int)+(n:Int):=by omega
         obtain⟨Hat,Hstr,Hfalse,Hc2,He2⟩:=hid5 hat hstr hfalse hc2 he2
         clear hat hstr hfalse hc2 he2 hT hpr hnx hsnx hown hbad hc1
         go_wp2_with fail
         refine Hat.out.mono ?_
         rintro e w' ⟨rfl,rfl⟩
         go_wp2_with fail
         refine Hc2.out.mono ?_
         rintro e w' ⟨rfl,rfl⟩
         go_wp2_with fail
         refine He2.out.mono ?_
         rintro e w' ⟨rfl,rfl⟩
         go_wp2_with fail
         go_returns
         exact⟨by rw[Hfalse.out];rfl,τr,Hstr.out⟩
     ·rw[if_neg hbad] at hnx
      have b1:¬(n:Int)=0:=by omega
      have b2:¬(64:Int)<(n:Int):=by omega
      have b3:¬(o:Int)<16+4*(q:Int):=by omega
      have b4:¬(448:Int)<(o:Int)+(n:Int):=by omega
      have b5:(o:Int)+(n:Int)≤448:=by omega
      have b6:¬o=448:=by omega
      have b7:¬448=o:=by omega
      have b8:(o:Int)≤(o:Int)+(n:Int):=by omega
      have b9:(0:Int)≤(o:Int)+(n:Int):=by omega
      have b10:((o:Int)+(n:Int)).toNat=o+n:=by omega
      have b11:o+n-o=n:=by omega
      have hcon:=Qon (c:=448-o) (w:=wr) (b:=w.heap.size) (o:=o) (n:=n) (T:=T) (fun j hj=>hown.at (o+j) (Qfv T 448 (o+j) (by omega))) (by omega)
      have k0:=hown.at 0 (Qfv T 448 0 (by omega))
      cases hany:anyTo T o n with
      | true =>
        rw[hany] at hnx hcon
        rw[if_pos rfl] at hnx
        have hfalse:=hsnx hnx (by omega)
        obtain⟨Hat,Hstr,Hfalse,Hc2,He2,Hcon,Hany⟩:=hid7 hat hstr hfalse hc2 he2 hcon hany
        clear hat hstr hfalse hc2 he2 hcon hany hT hpr hnx hsnx hown hbad hc1
        go_wp2_with fail
        refine Hat.out.mono ?_
        rintro e w' ⟨rfl,rfl⟩
        go_wp2_with fail
        refine Hc2.out.mono ?_
        rintro e w' ⟨rfl,rfl⟩
        go_wp2_with fail
        refine He2.out.mono ?_
        rintro e w' ⟨rfl,rfl⟩
        go_wp2_with fail
        refine Hcon.out.mono ?_
        rintro e w' ⟨rfl,rfl⟩
        go_wp2_with fail
        go_returns
        exact⟨by rw[Hfalse.out];rfl,τr,Hstr.out⟩
      | false =>
        rw[hany] at hnx hcon
        rw[if_neg (by simp)] at hnx
        obtain⟨Hat,Hstr,Hc2,He2,Hcon,Hany,Hnx,Hown⟩:=hid8 hat hstr hc2 he2 hcon hany hnx hown
        clear hat hstr hc2 he2 hcon hany hnx hown hT hpr hsnx hbad hc1 k0
        go_wp2_with fail
        refine Hat.out.mono ?_
        rintro e w' ⟨rfl,rfl⟩
        go_wp2_with fail
        refine Hc2.out.mono ?_
        rintro e w' ⟨rfl,rfl⟩
        go_wp2_with fail
        refine He2.out.mono ?_
        rintro e w' ⟨rfl,rfl⟩
        go_wp2_with fail
        refine Hcon.out.mono ?_
        rintro e w' ⟨rfl,rfl⟩
        go_wp2_with fail
        go_loopw [54] (fun v wr=>∃(j:Nat) (τr:Tags),j≤n∧v = .int .i64 (j:Int)∧Own wr τr w.heap.size tTak 357 (bools (markT T o j) 448)∧Step w τ wr τr nil) (fun v _=>n-(intOf v).toNat)
        case atStart=>exact⟨0,τr,Nat.zero_le _,rfl,by rw[Qtk];exact Hown.out,Hstr.out⟩
        case round =>
         obtain⟨j,τj,hj,rfl,hoj,hsj⟩:=hrel
         by_cases hjn:j<n
         ·have kc:=hoj.at (o+j) (Qfv (markT T o j) 448 (o+j) (by omega))
          have kf:=hoj.fz (o+j)
          have k1:((o:Int)+(j:Int)).toNat=o+j:=by omega
          have k2:(o:Int)+(j:Int)<448:=by omega
          have k3:(0:Int)≤(o:Int)+(j:Int):=by omega
          have hon:=hoj.set (o+j) (.bool true)
          rw[Qua T o j 448 (by omega)] at hon
          have hsn:=hsj.setNew (b:=w.heap.size) (o:=o+j) (Nat.le_refl _) (.bool true)
          obtain⟨Hon,Hsn,Hoj,Hsj⟩:=hid4 hon hsn hoj hsj
          clear hon hsn hoj hsj
          go_wp2_with fail
          go_round
          case rel=>exact⟨j+1,τj,by omega,by simp,Hon.out,Hsn.out⟩
          case measure=>simp[intOf];omega
         ·have hjn':j=n:=by omega
          subst hjn'
          have hmn:(min (low:Int) (o:Int))=((min low o:Nat):Int):=by omega
          obtain⟨Hoj,Hsj⟩:=hid2 hoj hsj
          clear hoj hsj
          go_wp2_with fail
          go_round
          case rel=>exact⟨i+1,min low o,markT T o j,τj,by omega,by simp,by simp,by omega,Hnx.out,Hoj.out,Hsj.out⟩
          case measure=>simp[intOf];omega
   ·have hin:i=q:=by omega
    subst hin
    have hc2:=Qax hpr
    rw[Hq.out] at hc2
    have he2:=Qfn wr i (by omega)
    have hei:16+4*(i:Int)=((16+4*i:Nat):Int):=by omega
    rw[hei] at he2
    have hz1:Qb9 P T (16+4*i) 0=true:=rfl
    have hsz:=Hsz.out T low
    have hse:=Hse.out T low
    generalize he:16+4*i=e at *
    have he448:e≤448:=by omega
    have hlw:=Qfm hpr
    have hsd:=Hsend.out low
    obtain⟨Hc2,He2,Hown,Hstr,Hz1,Hsz,Hse,HT,Hpr,Hlw,Hsd⟩:=hid11 hc2 he2 hown hstr hz1 hsz hse hT hpr hlw hsd
    clear hc2 he2 hown hstr hz1 hsz hse hT hpr hlw hsd
    go_wp2_with fail
    refine Hc2.out.mono ?_
    rintro e' w' ⟨rfl,rfl⟩
    go_wp2_with fail
    refine He2.out.mono ?_
    rintro e' w' ⟨rfl,rfl⟩
    go_wp2_with fail
    generalize hwr:wr=w2 at *
    go_loopw [9] (fun v wr=>∃(k:Nat),k≤448-e∧v = .int .i64 ((e+k:Nat):Int)∧Qb9 P T e k=true∧wr=w2) (fun v _=>448-(intOf v).toNat)
    case atStart=>exact⟨0,Nat.zero_le _,rfl,rfl,rfl⟩
    case round =>
     obtain⟨k,hk,rfl,hzk,rfl⟩:=hrel
     by_cases hlt:k<448-e
     ·have kc:=Hown.out.at (e+k) (Qfv T 448 (e+k) (by omega))
      have hzn:Qb9 P T e (k+1)=(Qb9 P T e k && (T (e+k) || decide (P.getD (e+k) 0=0))):=rfl
      rw[hzk,Bool.true_and] at hzn
      have pc:=Hpr.out.own.at (e+k) (Qfw P (e+k) (by omega))
      generalize hx:e+k=x at *
      have hx448:x<448:=by omega
      have hxi:(x:Int)<448:=by omega
      cases hTx:T x with
      | true =>
        rw[hTx] at kc hzn
        have Hzn:=Lib.hid hzn
        clear hzn hzk pc
        go_wp2_with fail
        go_round
        case rel=>exact⟨k+1,by omega,by first|(simp;omega)|omega,Hzn.out,trivial⟩
        case measure=>simp[intOf];omega
      | false =>
        rw[hTx,Bool.false_or] at hzn
        rw[hTx] at kc
        generalize hy:P.getD x 0=y at *
        by_cases h0:y=0
        ·subst h0
         have Hzn:=Lib.hid hzn
         clear hzn hzk
         go_wp2_with fail
         go_round
         case rel=>exact⟨k+1,by omega,by first|(simp;omega)|omega,Hzn.out,trivial⟩
         case measure=>simp[intOf];omega
        ·rw[decide_eq_false h0] at hzn
         have hfalse:=Hsz.out (k+1) HT.out hzn (by omega)
         have Hfalse:=Lib.hid hfalse
         clear hfalse hzk hzn
         go_wp2_with fail
         go_returns
         exact⟨by rw[Hfalse.out];rfl,τr,Hstr.out⟩
     ·have hke:e+k=448:=by omega
      have hkk:k=448-e:=by omega
      rw[hkk] at hzk
      have hyes:=Hse.out HT.out hzk
      rw[hke]
      have hc3:=Qax Hpr.out
      rw[Hq.out] at hc3
      rw[Hsd.out] at hyes
      by_cases hi0:i=0
      ·subst hi0
       have hat:=Qtc Hpr.out (-1) (by omega)
       generalize pageLow P=lo at *
       by_cases hl:low=lo
       ·subst hl
        rw[decide_eq_true rfl] at hyes
        obtain⟨Hc3,Hat,Hyes⟩:=hid3 hc3 hat hyes
        clear hc3 hat hyes hzk
        go_wp2_with fail
        refine Hc3.out.mono ?_
        rintro e' w' ⟨rfl,rfl⟩
        go_wp2_with fail
        refine Hat.out.mono ?_
        rintro e' w' ⟨rfl,rfl⟩
        go_wp2_with fail
        refine Hlw.out.mono ?_
        rintro e' w' ⟨rfl,rfl⟩
        go_wp2_with fail
        refine Hc3.out.mono ?_
        rintro e' w' ⟨rfl,rfl⟩
        go_wp2_with fail
        go_returns
        exact⟨by rw[Hyes.out];rfl,τr,Hstr.out⟩
       ·rw[decide_eq_false hl] at hyes
        have hl':¬(low:Int)=(lo:Int):=by omega
        obtain⟨Hc3,Hat,Hyes⟩:=hid3 hc3 hat hyes
        clear hc3 hat hyes hzk
        go_wp2_with fail
        refine Hc3.out.mono ?_
        rintro e' w' ⟨rfl,rfl⟩
        go_wp2_with fail
        refine Hat.out.mono ?_
        rintro e' w' ⟨rfl,rfl⟩
        go_wp2_with fail
        refine Hlw.out.mono ?_
        rintro e' w' ⟨rfl,rfl⟩
        go_wp2_with fail
        go_returns
        exact⟨by rw[Hyes.out];rfl,τr,Hstr.out⟩
      ·have hat:=Qgu Hpr.out (i-1) (by omega) (by rw[Hq.out];omega)
       have hi1:((i-1:Nat):Int)=(i:Int)-1:=by omega
       rw[hi1] at hat
       rw[decide_eq_false hi0,Bool.false_or] at hyes
       generalize pOff P (i-1)=oo at *
       generalize pLen P (i-1)=nn at *
       generalize pageLow P=lo at *
       have hi0':¬(i:Int)=0:=by omega
       by_cases hl:low=lo
       ·subst hl
        rw[decide_eq_true rfl,Bool.true_and] at hyes
        have hdec:decide (0<(nn:Int))=decide (0<nn):=by by_cases hn:0<nn <;> simp[hn]
        obtain⟨Hc3,Hat,Hyes⟩:=hid3 hc3 hat hyes
        clear hc3 hat hyes hzk
        go_wp2_with fail
        refine Hc3.out.mono ?_
        rintro e' w' ⟨rfl,rfl⟩
        go_wp2_with fail
        refine Hat.out.mono ?_
        rintro e' w' ⟨rfl,rfl⟩
        go_wp2_with fail
        refine Hlw.out.mono ?_
        rintro e' w' ⟨rfl,rfl⟩
        go_wp2_with fail
        refine Hc3.out.mono ?_
        rintro e' w' ⟨rfl,rfl⟩
        go_wp2_with fail
        go_returns
        exact⟨by rw[Hyes.out];first|rfl|rw[hdec]|(simp;intro h;exact absurd h hi0),τr,Hstr.out⟩
       ·rw[decide_eq_false hl] at hyes
        have hl':¬(low:Int)=(lo:Int):=by omega
        obtain⟨Hc3,Hat,Hyes⟩:=hid3 hc3 hat hyes
        clear hc3 hat hyes hzk
        go_wp2_with fail
        refine Hc3.out.mono ?_
        rintro e' w' ⟨rfl,rfl⟩
        go_wp2_with fail
        refine Hat.out.mono ?_
        rintro e' w' ⟨rfl,rfl⟩
        go_wp2_with fail
        refine Hlw.out.mono ?_
        rintro e' w' ⟨rfl,rfl⟩
        go_wp2_with fail
        go_returns
        exact⟨by rw[Hyes.out];rfl,τr,Hstr.out⟩
theorem Qnt {w:World}{τ:Tags}{g0 g:Tag}{v:Value}{Z:List Int}(h:Bytes w τ g0 v Z) (hl:Z.length=448) (hne:Z≠zeros448) :
 Calls Tryz.prog 117 #[v] w fun e w'=>∃τ',Step w τ w' τ' nil∧((Qeh Z=true∧∃b,e = .returned (.tuple #[.pointer (some ⟨b,0,none⟩),.int .u16 0])∧w.heap.size≤b∧PageAt w' τ' g b Z)∨(Qeh Z=false∧e = .returned (.tuple #[.pointer none,.int .u16 90]))):=by
 obtain⟨hB,p,c,rfl,h1,h2,h3⟩:=h
 have hZB:=hB
 obtain⟨bb,o,rfl,htag,hc⟩:=h3 (by omega)
 have hr:=Qhv hc
 have hsz0:(Tryz.prog.info? 152).map (·.size)=some 448:=by kernel_rfl
 have hsz:(Tryz.prog.info? 152).map (·.size)=some (u8s Z).length:=by rw[Qac,hl];exact hsz0
 have hat:∀w,(Instr.arrayAt 152 (.slice (some ⟨bb,o,none⟩) 448 c)).run Tryz.prog w = .ok (.pointer (some ⟨bb,o,none⟩)) w:=fun w=>run_arrayAt w _ _ 448 _ _ c Tryz.underlying152 (by omega)
 have hld:(Instr.loadAt 152 (.pointer (some ⟨bb,o,none⟩))).run Tryz.prog w = .ok (.agg (u8s Z).toArray) w:=run_loadAt_mid w bb o _ _ _ hr Tryz.underlying152 rfl hsz
 rw[hl]
 obtain⟨Hc,Htag,Hr⟩:=hid3 hc htag hr
 clear hc htag hr h1 h3 hB
 obtain⟨Hl,HZB⟩:=hid2 hl hZB
 clear hl hZB hld hsz0
 obtain⟨Hat,Hsz⟩:=hid2 hat hsz
 clear hat hsz
 go_enter Tryz.func117,Tryz.ntmps117
 go_wp2_with fail
 simp only[Hat.out]
 simp only[Result.andThen_ok]
 go_step
 go_step
 refine wpList_load_mid rfl 152 _ rfl bb o rfl (u8s Z) _ Hr.out Tryz.underlying152 rfl Hsz.out ?_
 have hsize:(u8s Z).toArray.size=448:=by rw[List.size_toArray,Qac];exact Hl.out
 have hfold:=Qpq _ hsize
 have hr2:(w.alloc (.cells (u8s Z).toArray 154)).rangeAt w.heap.size 0 (u8s Z).toArray.toList:=by
  intro j v hv
  rw[Nat.zero_add]
  exact(Own.new w τ g 154 (u8s Z)).at j hv
 have hsz2:(Tryz.prog.info? 152).map (·.size)=some (u8s Z).toArray.toList.length:=Hsz.out
 generalize hcs:(u8s Z).toArray=cs at *
 obtain⟨Hr2,Hsz2,Hcs⟩:=hid3 hr2 hsz2 hcs
 clear hr2 hsz2 hcs
 go_step
 go_step
 go_step
 go_step
 go_step
 go_step
 go_step
 go_step
 go_step
 go_step
 go_step
 go_step
 go_step
 go_step
 go_step
 go_step
 go_step
 go_step
 go_step
 go_step
 go_step
 go_step
 go_step
 go_step
 refine wpList_load_mid rfl 152 (.tmp 15) rfl w.heap.size 0 rfl cs.toList _ Hr2.out Tryz.underlying152 rfl Hsz2.out ?_
 simp only[Array.toArray_toList]
 go_step
 go_step
 go_step
 have hq:Tryz.zeroCells152 = (u8s zeros448).toArray:=by kernel_rfl
 refine Qiw rfl .eql 152 152 (.tmp 16) (.tmp 17) rfl (.agg cs) (.agg Tryz.zeroCells152) (.bool false) rfl rfl (Qfz _ _ _ _ _) (by rw[hq,←Hcs.out,Qi1 _ HZB.out Qda Hl.out (by simp[zeros448]),decide_eq_false hne]) ?_
 clear hq
 have hst:=(Step.refl w τ nil).alloc (.cells cs 154) g
 have hpg:PageAt (w.alloc (.cells cs 154)) (τ.put w.heap.size g) g w.heap.size Z:=by
  refine⟨?_,HZB.out,Hl.out⟩
  have:=Own.new w τ g 154 (u8s Z)
  rw[show ({toList:=u8s Z}:Array Value)=cs from Hcs.out] at this
  exact this
 have hsd:=Qnr hpg
 generalize hB:Qeh Z=B at *
 obtain⟨Hsd,Hst,Hpg⟩:=hid3 hsd hst hpg
 clear hsd hst hpg
 cases B with
 | true =>
   go_wp2_with fail
   refine Hsd.out.mono ?_
   rintro e w' ⟨rfl,τ',hs⟩
   have Hs:=Lib.hid hs
   clear hs
   go_wp2_with fail
   go_ret2
   exact⟨τ',Hst.out.trans Hs.out,.inl ⟨hB,w.heap.size,rfl,Nat.le_refl _,Hpg.out.step Hs.out (fun h=>h)⟩⟩
 | false =>
   go_wp2_with fail
   refine Hsd.out.mono ?_
   rintro e w' ⟨rfl,τ',hs⟩
   have Hs:=Lib.hid hs
   clear hs
   go_wp2_with fail
   go_ret2
   exact⟨τ',Hst.out.trans Hs.out,.inr ⟨hB,rfl⟩⟩
theorem Sound.some {P:List Int}(h:Sound P):P≠zeros448:=by
 intro e
 have hh:=h.head
 have h1:pageCount P=0:=by rw[e];decide +kernel
 have h2:pageLow P=0:=by rw[e];decide +kernel
 rw[h1,h2] at hh
 have:(448:Nat)=0:=congrArg Prod.snd hh
 omega
theorem Qg4 {w:World}{τ:Tags}{g0 g:Tag}{v:Value}{P:List Int}(h:Bytes w τ g0 v P) (hs:Sound P) :
 Calls Tryz.prog 117 #[v] w fun e w'=>∃b τ',e = .returned (.tuple #[.pointer (some ⟨b,0,none⟩),.int .u16 0])∧w.heap.size≤b∧PageAt w' τ' g b P∧Step w τ w' τ' nil:=by
 refine(Qnt h hs.tidy.len hs.some (g:=g)).mono ?_
 rintro e w' ⟨τ',hst,⟨_,b,rfl,hlow,hp⟩|⟨hno,_⟩⟩
 ·exact⟨b,τ',rfl,hlow,hp,hst⟩
 ·rw[hs.yes] at hno;cases hno
end Go.Proofs.YtemacanaihaldaaGreat