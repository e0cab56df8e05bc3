/-
 The ordered sort over []uint32: patterns broken by a row of numbers.
-/
import Derived.Test.YtemacanaihaldaaGreatMSortK
import Derived.Test.YtemacanaihaldaaGreatSortL
set_option maxRecDepth 100000
set_option maxHeartbeats 16000000
set_option linter.all false
namespace Go.Proofs.YtemacanaihaldaaGreat
open Go.RowKit Go.Lib Go.Sort
def SrtB (w:World) (τ:Tags) (b off:Nat) (ys:List Value) (ss:List Nat) (bs X:Nat) (w':World):Prop:=off=0/\∃τ' ts,ts.Perm ss/\KR w' τ' b ys ts/\Step w τ w' τ' SrtTag/\Own w' τ' bs Jgx 388 [.int .u64 (X:Int)]
section
variable {w wr : World} {τ : Tags} {b off : Nat} {ys : List Value} {ss : List Nat} {n bs X : Nat}
theorem SrtB.srt (h:SrtB w τ b off ys ss bs X wr):Srt w τ b off ys ss wr:=by
 obtain⟨h0,d,ts,e,hk,i,-⟩:=h
 exact⟨h0,d,ts,e,hk,i⟩
theorem Srt.box (h:Srt w τ b off ys ss wr) (X:Nat):SrtB w τ b off ys ss wr.heap.size X (wr.alloc (.cells #[.int .u64 (X:Int)] 388)):=by
 obtain⟨h0,d,ts,i,hk,j⟩:=h
 have e:=(Step.refl wr d nil).alloc (.cells #[.int .u64 (X:Int)] 388) Jgx
 exact⟨h0,d.put wr.heap.size Jgx,ts,i,hk.step e (fun h=>h),j.trans (e.mono (fun _ h=>h.elim)),Own.born wr d Jgx 388 #[.int .u64 (X:Int)]⟩
theorem SrtB.fam (h:SrtB w τ b off ys ss bs X wr) (hn:ss.length=n):∃G:Nat->Int,(∀t,t<n->wr.cell? ⟨b,off+t,none⟩=some (.int .u32 (G t)))/\(∀t,t<n->wr.frozen? ⟨b,off+t,none⟩=false)/\wr.cell? ⟨bs,0,none⟩=some (.int .u64 (X:Int))/\wr.frozen? ⟨bs,0,none⟩=false/\(∀Y:Nat,SrtB w τ b off ys ss bs Y ((wr.setCell ⟨bs,0,none⟩ (.int .u64 (Y:Int))).drewN 3))/\(∀q i j k l,i<n->j<n->k=i->l=j->SrtB w τ b off ys ss bs X (((wr.drewN q).setCell ⟨b,off+i,none⟩ (.int .u32 (G l))).setCell ⟨b,off+j,none⟩ (.int .u32 (G k)))):=by
 obtain⟨rfl,d,ts,y,hk,F,s⟩:=h
 have hl:ts.length=n:=y.length_eq.trans hn
 have m:∀t,t<n->ts[t]?=some (ts.getD t 0):=fun t z=>by
  rw[Z5,Z3 (by omega)];rfl
 have B:∀q,Step wr d (wr.drewN q) d SrtTag:=fun q=>(Step.refl wr d SrtTag).drews q
 have x:∀q,Step wr d (wr.drewN q) d nil:=fun q=>(Step.refl wr d nil).drews q
 have r:b≠bs:=fun e=>by
  have h1:=hk.own.tag
  have h2:=s.tag
  rw[e,h2] at h1
  simp[tKey,Jgx] at h1
 refine⟨fun t=>((ts.getD t 0:Nat):Int),fun t z=>?_,fun t z=>?_,s.at 0 rfl,s.fz 0,fun Y=>?_,fun q i j k l hi J C D=>?_⟩
 ·rw[Nat.zero_add]
  exact hk.at (m t z)
 ·rw[Nat.zero_add]
  exact hk.own.fz t
 ·have L:=(Step.refl wr d SrtTag).set (o:=0) s.tag (.inr rfl) (.int .u64 (Y:Int))
  have E:=L.drews 3
  exact⟨rfl,d,ts,y,⟨(hk.own.set_ne (p:=⟨bs,0,none⟩) r _).step ((Step.refl _ d nil).drews 3) (fun h=>h)⟩,F.trans E,(s.set 0 (.int .u64 (Y:Int))).step ((Step.refl _ d nil).drews 3) (fun h=>h)⟩
 ·subst C D
  rw[Nat.zero_add,Nat.zero_add]
  have k1:=hk.step (x q) (fun h=>h)
  have I:=k1.set (i:=k) (by omega) (ts.getD l 0)
  have M:=I.set (i:=l) (by rw[Y1];omega) (ts.getD k 0)
  have E:=(B q).set (o:=k) k1.own.tag (.inl rfl) (.int .u32 ((ts.getD l 0:Nat):Int))
  have N:=E.set (o:=l) I.own.tag (.inl rfl) (.int .u32 ((ts.getD k 0:Nat):Int))
  exact⟨rfl,d,_,(Jhk (m k hi) (m l J)).trans y,M,F.trans N,((s.step (x q) (fun h=>h)).set_ne (p:=⟨b,k,none⟩) (Ne.symm r) _).set_ne (p:=⟨b,l,none⟩) (Ne.symm r) _⟩
theorem Jis (h:Srt w τ b off ys ss wr) (hn:ss.length=n) {lo hi cap:Nat}(hh:hi<=n) (h1:lo+12<hi) (hsz:n<=1000000) :
 Calls Tryz.prog 274 #[.slice (some ⟨b,off,none⟩) n cap,.int .i64 (lo:Int),.int .i64 (hi:Int)] wr fun e j=>e = .returned (.tuple #[])/\Srt w τ b off ys ss j:=by
 obtain⟨m,hm⟩:∃m,hi=lo+m:=⟨hi-lo,by omega⟩
 have hmI:(hi:Int)-(lo:Int)=(m:Int):=by omega
 have hmn:lo+m<=n:=by omega
 have hm1:12<m:=by omega
 have h8z:(8:Int)<=(m:Int):=by omega
 clear hm hh h1
 obtain⟨M,hM⟩:∃M:Nat,M=1 <<< bitsLen m:=⟨_,rfl⟩
 have hM1:1<=M:=by rw[hM,Nat.one_shiftLeft];exact Nat.two_pow_pos _
 have hM2:M<=2*m:=by rw[hM,Nat.one_shiftLeft];exact two_pow_bitsLen_le (by omega)
 have z:∀w,Calls Tryz.prog 294 #[.int .i64 (m:Int)] w fun e j=>e = .returned (.int .u64 (M:Int))/\j=w:=by
  rw[hM]
  exact fun w=>AnyF.nextPowerOfTwo (ρ:=Tryz.sortD_ren) {Tryz.sortD with} m (by omega) w
 clear hM
 have k:=h.box m
 obtain⟨c0,aa⟩:∃c:Nat,lo+m/4*2-1=c:=⟨_,rfl⟩
 have hc0I:(lo:Int)+(m:Int)/4*2-1=(c0:Int):=by omega
 have hc0n:c0+2<n:=by omega
 have hc0J:(lo:Int)+(m:Int)/4*2=(c0:Int)+1:=by omega
 clear aa
 obtain⟨bs,l⟩:∃bs,wr.heap.size=bs:=⟨_,rfl⟩
 rw[l] at k
 obtain⟨B,Hn,ab,ac⟩:=hid4 k hn z l
 clear k hn z l h
 go_enter Tryz.func274,Tryz.ntmps274
 go_wp2_with (first|(go_at_call 294;refine(ab.out _).mono ?_;rintro e j ⟨rfl,rfl⟩))
 try rw[ac.out]
 go_loopw [9] (fun v wr=>∃(t Y:Nat),t<=3/\v = .int .i64 ((c0+t:Nat):Int)/\Y<18446744073709551616/\SrtB w τ b off ys ss bs Y wr) (fun v _=>c0+3-(intOf v).toNat)
 case atStart=>exact⟨0,m,by omega,by simp,by omega,B.out⟩
 case round =>
  clear B
  obtain⟨t,R0,ht,rfl,C,hb⟩:=hrel
  by_cases ht3:t<3
  ·obtain⟨G,D,E,F,I,J,-⟩:=hb.fam Hn.out
   obtain⟨i,p⟩:∃i:Nat,i=xorNextN R0:=⟨_,rfl⟩
   have L:i<18446744073709551616:=by rw[p];exact xorNextN_lt R0 C
   obtain⟨O,hO⟩:∃O:Nat,O=i &&& (M-1):=⟨_,rfl⟩
   have lO:O<=M-1:=by rw[hO];exact Nat.and_le_right
   have eAnd:bits .and .u64 (i:Int) ((M:Int)-1)=(O:Int):=by
    rw[show ((M:Int)-1)=((M-1:Nat):Int) by omega,bits_and_u64_nat _ _ L (by omega),hO]
   have d:Calls Tryz.prog 295 #[.pointer (some ⟨bs,0,none⟩)] wr fun e j=>e = .returned (.int .u64 (i:Int))/\j=(wr.setCell ⟨bs,0,none⟩ (.int .u64 (i:Int))).drewN 3:=by
    rw[p]
    exact AnyF.xorshift_Next (ρ:=Tryz.sortD_ren) {Tryz.sortD with} _ _ R0 C wr F I
   have q:=J i
   generalize (wr.setCell ⟨bs,0,none⟩ (.int .u64 (i:Int))).drewN 3=w2 at d q
   clear D E F I J p hO hb
   obtain⟨G2,D,E,-,-,-,N⟩:=q.fam Hn.out
   obtain⟨c,R⟩:∃c:Nat,c0+t=c:=⟨_,rfl⟩
   rw[R]
   have af:c<n:=by omega
   have ag:(c:Int)<=(c0:Int)+1+1:=by omega
   have U:c0+3-(c+1)<c0+3-c:=by omega
   obtain⟨r,Hc,s,Hcm⟩:=hid4 d R N U
   clear d R N U q
   by_cases Z:m<=O
   case' pos =>
    have a1:(m:Int)<=(O:Int):=by omega
    obtain⟨o,ho⟩:∃o:Nat,(O:Int)-(m:Int)=(o:Int):=⟨O-m,by omega⟩
   case' neg =>
    have a1:¬(m:Int)<=(O:Int):=by omega
    obtain⟨o,rfl⟩:∃o:Nat,o=O:=⟨O,rfl⟩
   all_goals (
    have x:lo+o<n:=by omega
    have HLO:=Z2 Z
    clear Z)
   all_goals (
    by_cases a6:c=lo+o
    case' pos =>
     subst a6
     have y:=s.out 1 (lo+o) (lo+o) _ _ x x rfl rfl
    case' neg =>
     have y:=s.out 1 c (lo+o) _ _ af x rfl rfl
     have hce2:¬lo+o=c:=fun h=>a6 h.symm)
   all_goals (
    have ah:=Z2 y
    clear y s
    go_wp2_with (first|(go_at_call 295;refine r.out.mono ?_;rintro e j ⟨rfl,rfl⟩))
    go_region
    go_wp2_with fail
    go_round
    case rel=>exact⟨t+1,i,by omega,by congr 1;have:=Hc.out;omega,L,ah.out⟩
    case measure=>simp[intOf] <;> omega)
  ·obtain⟨c,R⟩:∃c:Nat,c0+t=c:=⟨_,rfl⟩
   rw[R]
   have ag:¬(c:Int)<=(c0:Int)+1+1:=by omega
   have Hb:=Z2 hb
   clear hb
   go_wp2_with fail
   go_returns
   exact⟨rfl,Hb.out.srt⟩
end
end Go.Proofs.YtemacanaihaldaaGreat
namespace Go.Proofs.YtemacanaihaldaaGreat
open Go.RowKit Go.Lib Go.Sort
section
variable {w wr : World} {τ : Tags} {b off : Nat} {ys : List Value} {ss : List Nat} {n : Nat}
def ChoD (lo hi:Nat) (P:Prop) (e:Ending):Prop:=(∃(p:Nat) (h:Int),e = .returned (.tuple #[.int .i64 (p:Int),.int .i64 h])/\lo<=p/\p<hi)/\P
theorem Jii (h:Srt w τ b off ys ss wr) (hn:ss.length=n) {lo hi cap:Nat}(hh:hi<=n) (h1:lo+12<hi) (hcap:n<=cap) (hsz:n<=1000000) :
 Calls Tryz.prog 275 #[.slice (some ⟨b,off,none⟩) n cap,.int .i64 (lo:Int),.int .i64 (hi:Int)] wr fun e i=>ChoD lo hi (Srt w τ b off ys ss i) e:=by
 obtain⟨rfl,τ',ts,j,hk,k⟩:=h
 have hl:ts.length=n:=j.length_eq.trans hn
 have:=Jh8 (cap:=cap) hk (by omega) h1 (by omega) (by omega)
 rw[hl] at this
 refine this.mono ?_
 rintro e i ⟨p,l,d,rfl,g1,g2,g3⟩
 exact⟨⟨p,l,rfl,g1.1,g1.2⟩,rfl,d,ts,j,g2,k.trans (g3.mono (fun g m=>.inr m))⟩
theorem pdq_s (d:Nat):∀{wr:World}{lo hi lim cap:Nat}(h:Srt w τ b off ys ss wr) (hn:ss.length=n) (z:n<=cap) (hd:hi-lo<=d) (hh:hi<=n) (h1:lo<=hi) (r:n<=1000000) (hl:lim<=1000),
 Calls Tryz.prog 234 #[.slice (some ⟨b,off,none⟩) n cap,.int .i64 (lo:Int),.int .i64 (hi:Int),.int .i64 (lim:Int)] wr fun e D=>e = .returned (.tuple #[])/\Srt w τ b off ys ss D:=by
 induction d using Nat.strongRecOn with
 | ind d ih =>
 intro wr lo hi lim cap h hn z hd hh h1 r hl
 obtain⟨N,B,J⟩:=hid3 h hn ih
 clear h hn ih
 go_enter Tryz.func234,Tryz.ntmps234
 go_wp2_with fail
 go_loopw [1,2,3,8,9] (fun va vb vl v8 v9 wr=>∃(x y l:Nat) (p q:Bool),x<=y/\y<=n/\y-x<=d/\l<=1000/\va = .int .i64 (x:Int)/\vb = .int .i64 (y:Int)/\vl = .int .i64 (l:Int)/\v8 = .bool p/\v9 = .bool q/\Srt w τ b off ys ss wr) (fun va vb _ _ _ _=>(intOf vb).toNat-(intOf va).toNat)
 case atStart=>exact⟨lo,hi,lim,true,true,h1,hh,hd,hl,rfl,rfl,rfl,rfl,rfl,N.out⟩
 case round =>
  clear N
  obtain⟨x,y,l,p,q,c1,c2,c3,c4,rfl,rfl,rfl,rfl,rfl,i⟩:=hrel
  clear h1 hh hd hl
  by_cases hm:y-x<=12
  ·have ad:(y:Int)-(x:Int)<=12:=by omega
   have j:=Jhr i B.out (cap:=cap) c2 c1 r
   have m:=Z2 j
   clear j i
   go_wp2_with fail
   refine m.out.mono ?_
   rintro e D ⟨rfl,i⟩
   have k:=Z2 i
   clear i
   go_wp2_with fail
   (try simp only[Exit.inBlock,Exit.then])
   refine bodyPost_ret (results_none rfl _ _ _) rfl ?_
   exact⟨rfl,k.out⟩
  have ad:¬(y:Int)-(x:Int)<=12:=by omega
  by_cases O:l=0
  ·have hl0J:(l:Int)=0:=by omega
   have L:((l:Int)==0)=true:=by simp;omega
   clear O
   have j:=Jix i B.out (cap:=cap) (lo:=x) c2 (by omega) r
   have m:=Z2 j
   clear j i
   go_wp2_with fail
   refine m.out.mono ?_
   rintro e D ⟨rfl,i⟩
   have k:=Z2 i
   clear i
   go_wp2_with fail
   (try simp only[Exit.inBlock,Exit.then])
   refine bodyPost_ret (results_none rfl _ _ _) rfl ?_
   exact⟨rfl,k.out⟩
  have R:¬(l:Int)=0:=by omega
  have L:((l:Int)==0)=false:=by simp;omega
  have k:=Z2 i
  clear i
  go_upto_if 35 with fail
  go_cut [3] from 19 to 133 (fun vl E=>∃M:Nat,M<=1000/\vl = .int .i64 (M:Int)/\Srt w τ b off ys ss E)
  case first =>
   cases p with
   | true =>
     go_wp2_with fail
     go_meet
     case rel=>exact⟨l,c4,rfl,k.out⟩
   | false =>
     have j:=Jis k.out B.out (cap:=cap) c2 (lo:=x) (by omega) r
     have m:=Z2 j
     clear j
     go_wp2_with fail
     refine m.out.mono ?_
     rintro e D ⟨rfl,i⟩
     have k:=Z2 i
     clear i
     go_wp2_with fail
     go_meet
     case rel=>exact⟨l-1,by omega,by congr 1;omega,k.out⟩
  case rest =>
   obtain⟨M,c5,rfl,i⟩:=hcut
   clear k O R L
   have U:=Jii i B.out (lo:=x) c2 (by omega) z r
   have ae:=Z2 U
   clear U i
   go_wp2_with fail
   refine ae.out.mono ?_
   rintro e w1 ⟨⟨pv,F,rfl,d1,d2⟩,i⟩
   have k:=Z2 i
   clear i
   go_upto_if 50 with fail
   go_cut [11,12] from 19 to 133 (fun af v12 E=>∃(pv:Nat) (F:Int),x<=pv/\pv<y/\af = .int .i64 (pv:Int)/\v12 = .int .i64 F/\Srt w τ b off ys ss E)
   case first =>
    by_cases Y:F=2
    ·subst Y
     have j:=Jh3 k.out B.out (cap:=cap) c2 c1 r
     have m:=Z2 j
     clear j
     go_wp2_with fail
     refine m.out.mono ?_
     rintro e D ⟨rfl,i⟩
     have k:=Z2 i
     clear i
     go_wp2_with fail
     go_meet
     case rel=>exact⟨(y-1)-(pv-x),1,by omega,by omega,by congr 1;omega,rfl,k.out⟩
    ·have hhtb:(F==2)=false:=by simp[Y]
     go_wp2_with fail
     go_meet
     case rel=>exact⟨pv,F,d1,d2,rfl,rfl,k.out⟩
   case rest =>
    clear k d1 d2 pv F
    obtain⟨pv,F,d1,d2,rfl,rfl,i⟩:=hcut
    have k:=Z2 i
    clear i
    go_upto_region 15 with fail
    go_cut [68] from 19 to 133 (fun I E=>(∃v:Bool,I = .bool v)/\Srt w τ b off ys ss E)
    case first =>
     by_cases Z:F=1
     case' pos=>subst Z
     case' neg=>have hh1b:(F==1)=false:=by simp[Z]
     all_goals (cases p)
     all_goals (cases q)
     all_goals (
      go_wp2_with fail
      go_meet
      case rel=>exact⟨⟨_,rfl⟩,k.out⟩)
    case rest =>
     obtain⟨⟨I,rfl⟩,i⟩:=hcut
     clear k
     have k:=Z2 i
     clear i
     go_upto_if 68 with fail
     go_cut [] from 19 to 133 (fun E=>Srt w τ b off ys ss E)
     case first =>
      cases I with
      | true =>
        have j:=Jh6 k.out B.out (cap:=cap) c2 (lo:=x) (by omega) r
        have m:=Z2 j
        clear j
        go_wp2_with fail
        refine m.out.mono ?_
        rintro e D ⟨⟨v,rfl⟩,i⟩
        have k:=Z2 i
        clear i
        cases v with
        | true =>
          go_wp2_with fail
          (try simp only[Exit.inBlock,Exit.then])
          refine bodyPost_ret (results_none rfl _ _ _) rfl ?_
          exact⟨rfl,k.out⟩
        | false =>
          go_wp2_with fail
          go_meet
          case rel=>exact k.out
      | false =>
        go_wp2_with fail
        go_meet
        case rel=>exact k.out
     case rest =>
      clear k
      have i:=hcut
      clear hcut I
      obtain⟨G,ag,ah,a1,-⟩:=i.fam B.out
      have a6:=Z2 a1
      clear a1 i
      go_upto_region 17 with fail
      go_cut [87] from 19 to 133 (fun v87 E=>(∃v:Bool,v87 = .bool v)/\Srt w τ b off ys ss E)
      case first =>
       by_cases hx0:0<x
       case' pos=>have a7:(0:Int)<(x:Int):=by omega
       case' neg=>have a7:decide ((0:Int)<(x:Int))=false:=decide_eq_false (by omega)
       all_goals (
        go_big_quiet (first|(go_at_call 278;refine Calls.quiet_of_same (Jgu _ _ _)))
        go_wp2_with fail
        go_meet
        case rel=>exact⟨⟨_,rfl⟩,a6.out _⟩)
      case rest =>
       clear ag ah a6
       obtain⟨⟨v87,rfl⟩,i⟩:=hcut
       cases v87 with
       | true =>
         have j:=Jhh i B.out (cap:=cap) c2 (by omega) d1 d2 r
         have m:=Z2 j
         clear j i
         go_wp2_with fail
         refine m.out.mono ?_
         rintro e D ⟨⟨o,rfl,f1,f2⟩,i⟩
         have k:=Z2 i
         clear i
         go_wp2_with fail
         go_round
         case rel=>exact⟨o,y,M,_,_,by omega,by omega,by omega,c5,rfl,rfl,rfl,rfl,rfl,k.out⟩
         case measure=>simp[intOf] <;> omega
       | false =>
         have j:=Jhq i B.out (cap:=cap) c2 (by omega) d1 d2 r
         have m:=Z2 j
         clear j i
         go_wp2_with fail
         refine m.out.mono ?_
         rintro e D ⟨⟨o,vv,rfl,f1,f2⟩,i⟩
         by_cases hlr:o-x<y-o
         ·have a8:(o:Int)-(x:Int)<(y:Int)-(o:Int):=by omega
          have s:=J.out (o-x) (by omega) (lim:=M) (cap:=cap) i B.out z (Z0 _) (by omega) f1 r c5
          have C:=Z2 s
          clear s i
          go_wp2_with fail
          refine C.out.mono ?_
          rintro e D ⟨rfl,i⟩
          have k:=Z2 i
          clear i
          go_wp2_with fail
          go_round
          case rel=>exact⟨o+1,y,M,_,_,by omega,by omega,by omega,c5,by simp,rfl,rfl,rfl,rfl,k.out⟩
          case measure=>simp[intOf] <;> omega
         ·have a8:¬(o:Int)-(x:Int)<(y:Int)-(o:Int):=by omega
          have s:=J.out (y-(o+1)) (by omega) (lo:=o+1) (lim:=M) (cap:=cap) i B.out z (Z0 _) c2 (by omega) r c5
          push_cast at s
          have C:=Z2 s
          clear s i
          go_wp2_with fail
          refine C.out.mono ?_
          rintro e D ⟨rfl,i⟩
          have k:=Z2 i
          clear i
          go_wp2_with fail
          go_round
          case rel=>exact⟨x,o,M,_,_,by omega,by omega,by omega,c5,rfl,rfl,rfl,rfl,rfl,k.out⟩
          case measure=>simp[intOf] <;> omega
end
