/-
 Pools: load of a page that was written.
-/
import Derived.Test.YtemacanaihaldaaGreatMPoolI
import Derived.Test.YtemacanaihaldaaGreatMPageW
import Derived.Test.YtemacanaihaldaaGreatMSealD
set_option maxRecDepth 100000
set_option maxHeartbeats 4000000
set_option linter.all false
namespace Go.Proofs.YtemacanaihaldaaGreat
variable {D:Dev}{bd bl:Nat}{w:World}{τ:Tags}
open Go.RowKit
theorem Qq7 {bp:Nat} {H:PoolH} {L:LogM}(h:Qji w τ bp H) (hl:LogAt w τ H.bl bd L) (hd:DevAt w τ bd D) (n:Nat) (hn:4*n+4≤D.f1.length) {P:List Int}{ls:List (List Int)}(hb4:ls.length=4) (hok:Qb3 ls=true) (hbody:Qjt ls=P) (hP:Sound P) {k m:Nat}(hkn:pageNumber P=k) (hml:pageLSN P=m) (hlsn:0<m) (hz:lastTo D n 4=ls) (g:Tag) :
 Calls Tryz.prog 134 #[.pointer (some ⟨bp,0,none⟩),.int .u32 (n:Int)] w fun e w'=>∃b τ',e = .returned (.tuple #[.pointer (some ⟨b,0,none⟩),.int .u16 0])∧w.heap.size≤b∧PageAt w' τ' g b P∧Step w τ w' τ' nil:=by
 have h1:=Qfi h hl hd n hn
 have hlen:=hd.length 1
 have hf1:D.file 1=D.f1:=rfl
 rw[hf1] at hlen
 rw[hz] at h1
 obtain⟨H1,Hb4,Hok,Hbody,HP,Hkn,Hml⟩:=hid7 h1 hb4 hok hbody hP hkn hml
 clear h1 hb4 hok hbody hP hkn hml h hl hd hz
 go_enter Tryz.func134,Tryz.ntmps134
 go_wp2_with fail
 refine H1.out.mono ?_
 rintro e w1 ⟨v,τ1,rfl,hr,hs1⟩
 have h2:=Qnz hr.row tData Hb4.out
 obtain⟨p,c,rfl⟩:=hr.val
 obtain⟨H2,Hs1⟩:=hid2 h2 hs1
 clear h2 hs1 H1 hr
 go_wp2_with fail
 refine H2.out.mono ?_
 rintro e w2 ⟨τ2,hs2,hq⟩
 rcases hq with ⟨-,u,rfl,hb⟩|⟨hno,-⟩
 ·rw[Hbody.out] at hb
  have h3:=Qg4 (g:=g) hb HP.out
  obtain⟨pu,cu,rfl,-,-⟩:=hb.any
  obtain⟨H3,Hs2⟩:=hid2 h3 hs2
  clear h3 hs2 H2 hb
  go_wp2_with fail
  refine H3.out.mono ?_
  rintro e w3 ⟨b0,τ3,rfl,hlow3,hpg,hs3⟩
  have h4:=Qg5 hpg
  have h5:=Qhe hpg
  rw[Hkn.out] at h4
  rw[Hml.out] at h5
  have hm:¬(m:Int)=0:=by omega
  obtain⟨H4,H5,Hs3,Hpg,Hlow3⟩:=hid5 h4 h5 hs3 hpg hlow3
  clear h4 h5 hs3 hpg hlow3 H3
  by_cases hk:k=0
  ·subst hk
   go_wp2_with fail
   refine H4.out.mono ?_
   rintro e w' ⟨rfl,rfl⟩
   go_wp2_with fail
   refine H5.out.mono ?_
   rintro e w' ⟨rfl,rfl⟩
   go_wp2_with fail
   go_ret2
   exact⟨b0,τ3,rfl,Nat.le_trans (Hs1.out.trans Hs2.out).size Hlow3.out,Hpg.out,(Hs1.out.trans Hs2.out).trans Hs3.out⟩
  ·have hk':¬(k:Int)=0:=by omega
   go_wp2_with fail
   refine H4.out.mono ?_
   rintro e w' ⟨rfl,rfl⟩
   go_wp2_with fail
   go_ret2
   exact⟨b0,τ3,rfl,Nat.le_trans (Hs1.out.trans Hs2.out).size Hlow3.out,Hpg.out,(Hs1.out.trans Hs2.out).trans Hs3.out⟩
 ·rw[Hok.out] at hno;cases hno
theorem Qvk {bp:Nat} {H:PoolH} {L:LogM}(h:Qji w τ bp H) (hl:LogAt w τ H.bl bd L) (hd:DevAt w τ bd D) (n:Nat) (hn:4*n+4≤D.f1.length) {P:List Int}{st:Nat}(hst:st<2 ^ 64) (hP:Sound P) (hlsn:0<pageLSN P) (hz:lastTo D n 4=sealAll P st) (g:Tag) :
 Calls Tryz.prog 134 #[.pointer (some ⟨bp,0,none⟩),.int .u32 (n:Int)] w fun e w'=>∃b τ',e = .returned (.tuple #[.pointer (some ⟨b,0,none⟩),.int .u16 0])∧w.heap.size≤b∧PageAt w' τ' g b P∧Step w τ w' τ' nil:=by
 have hok:=Qs6 hP.tidy.len st hst
 exact Qq7 h hl hd n hn (Qet P st) hok.1 hok.2.2.1 hP rfl rfl hlsn hz g
theorem Qls (g:Tag) (h:g=tPool∨LogTag g):¬DevTag g:=by
 rcases h with rfl|h
 ·simp[DevTag,tPool]
 ·exact Qau g h
theorem Qkw {bp:Nat} {H:PoolH} {L:LogM}(h:Qji w τ bp H) (hl:LogAt w τ H.bl bd L) (hd:DevAt w τ bd D) (n:Nat) (hn:4*n+4≤D.f1.length) {g:Tag}{v:Value}{ls:List (List Int)}(hw:Waits w τ g v ls) (hg:¬DevTag g) (h4:ls.length=4) (hlim:D.lim 800000) :
 Calls Tryz.prog 129 #[.pointer (some ⟨bp,0,none⟩),.int .i64 (n:Int),v] w (DevR w τ bd (D.lay 1 (4*n) ls) (.tuple #[])):=by
 have hlen:=hd.length 1
 have hf1:D.file 1=D.f1:=rfl
 rw[hf1] at hlen
 obtain⟨pw,cw,rfl,hwm,-⟩:=hw.read
 have hlay:D.lay 1 (4*n) ls=(D.writes 1 (4*n) ls 4).sync 1:=by unfold Dev.lay;rw[h4]
 rw[hlay,h4]
 rw[h4] at hwm
 obtain⟨H_h,Hl,Hw,Hlim,H4⟩:=hid5 h hl hw hlim h4
 clear h hl hw hlim h4
 have Hd:=Lib.hid hd
 clear hd hlay
 go_enter Tryz.func129,Tryz.ntmps129
 go_wp2_with fail
 go_loopw [10] (fun v wr=>∃(i:Nat) (τr:Tags),i≤4∧v = .int .i64 (i:Int)∧DevAt wr τr bd (D.writes 1 (4*n) ls i)∧Step w τ wr τr DevTag) (fun v _=>4-(intOf v).toNat)
 case atStart=>exact⟨0,τ,Nat.zero_le _,rfl,Hd.out,Step.refl _ _ _⟩
 case round =>
  obtain⟨i,τr,hi,rfl,hd,hst⟩:=hrel
  have hpr:=H_h.out.step hst (Qls _ (.inl rfl))
  have hlr:=Hl.out.step hst (fun g h=>Qls g (.inr h))
  have hdev:=Qkx hpr hlr
  by_cases hlt:i<4
  ·obtain⟨p',c',hv',_,hr⟩:=(Hw.out.step hst hg Qay).read
   rw[H4.out] at hv'
   cases hv'
   obtain⟨x,hx⟩:∃x,ls[i]?=some x:=⟨_,List.getElem?_eq_getElem (by rw[H4.out];exact hlt)⟩
   obtain⟨hx128,b,u,rfl,hc,hb⟩:=hr i x hx
   have hwl:=Dev.writes_length D 1 (4*n) (by omega) ls i 1
   rw[hf1] at hwl
   have hwt:=Qey hd 1 (by omega) (4*n+i) (by rw[hwl];omega) hb hx128 Qay (Dev.lim_mono (Dev.writes_lim Hlim.out 1 (4*n) (by omega) ls i) (by omega))
   rw[show ((4*n+i:Nat):Int)=4*(n:Int)+(i:Int) by omega] at hwt
   have hsucc:D.writes 1 (4*n) ls (i+1)=(D.writes 1 (4*n) ls i).write 1 (4*n+i) x:=by
    show (D.writes 1 (4*n) ls i).write 1 (4*n+i) (ls.getD i [])=_
    rw[List.getD_eq_getElem?_getD,hx];rfl
   generalize D.writes 1 (4*n) ls i=E at *
   obtain⟨pb,kb,rfl,-,-⟩:=hb.any
   obtain⟨Hd,Hst,Hdev,Hwt,Hsucc,Hx,Hx128⟩:=hid7 hd hst hdev hwt hsucc hx hx128
   clear hd hst hdev hwt hsucc hx hx128 hr hb hpr hlr hwl
   go_wp2_with fail
   refine Hdev.out.mono ?_
   rintro e w1 ⟨rfl,rfl⟩
   go_wp2_with fail
   refine Hwt.out.mono ?_
   rintro e w2 ⟨rfl,τ2,hd2,hs2⟩
   obtain⟨Hd2,Hs2⟩:=hid2 hd2 hs2
   clear hd2 hs2
   go_wp2_with fail
   go_round
   case rel=>exact⟨i+1,τ2,by omega,by simp,by rw[Hsucc.out];exact Hd2.out,Hst.out.trans Hs2.out⟩
   case measure=>simp[intOf];omega
  ·obtain rfl:i=4:=by omega
   have hsy:=Qhr hd 1 (by omega)
   obtain⟨Hdev,Hst,Hsy⟩:=hid3 hdev hst hsy
   clear hdev hst hsy hd hpr hlr
   go_wp2_with fail
   refine Hdev.out.mono ?_
   rintro e w1 ⟨rfl,rfl⟩
   go_wp2_with fail
   refine Hsy.out.mono ?_
   rintro e w2 ⟨rfl,τ2,hd2,hs2⟩
   obtain⟨Hd2,Hs2⟩:=hid2 hd2 hs2
   clear hd2 hs2
   go_wp2_with fail
   go_returns
   exact⟨rfl,τ2,Hd2.out,Hst.out.trans Hs2.out⟩
theorem Qt3 (w:World) (x:Int):Calls Tryz.prog 281 #[.int .i64 x] w fun e w'=>e = .returned (.bool false)∧w=w':=by
 go_enter Tryz.func281,Tryz.ntmps281
 go_wp2_with fail
 go_ret
 exact⟨rfl,rfl⟩
theorem Qs3 (w:World) (x:Int):Calls Tryz.prog 244 #[.int .i64 x] w fun e w'=>e = .returned (.bool false)∧w=w':=by
 go_enter Tryz.func244,Tryz.ntmps244
 go_wp2_with fail
 go_ret
 exact⟨rfl,rfl⟩
theorem Qv7 (w:World) (x y:Int):Calls Tryz.prog 243 #[.int .i64 x,.int .i64 y] w fun e w'=>e = .returned (.bool (decide (x<y)))∧w=w':=by
 have h1:=Qt3 w x
 have H1:=Lib.hid h1
 clear h1
 go_enter Tryz.func243,Tryz.ntmps243
 go_wp2_with fail
 refine H1.out.mono ?_
 rintro e w' ⟨rfl,rfl⟩
 go_wp2_with fail
 go_ret
 exact⟨rfl,rfl⟩
structure Found (l:List Nat) (x r:Nat) (f:Bool):Prop where
 le:r≤l.length
 lo:∀j,j<r→l.getD j 0<x
 hi:∀j,r≤j→j<l.length→x≤l.getD j 0
 is:f=decide (r<l.length∧l.getD r 0=x)
theorem Qrq {p:Option Addr} {c:Nat} {l:List Nat}(hr:Qm6 l) (hrd:∀i,i<l.length→∃b,p=some ⟨b,0,none⟩∧w.cell? ⟨b,i,none⟩=some (.int .i64 ((l.getD i 0:Nat):Int))) (hn:l.length≤1000000) (x:Nat) :
 Calls Tryz.prog 164 #[.slice p l.length c,.int .i64 (x:Int)] w fun e w'=>(∃(r:Nat) (f:Bool),e = .returned (.tuple #[.int .i64 (r:Int),.bool f])∧Found l x r f)∧w=w':=by
 have hcl:=fun (a b:Int)=>Qv7 w a b
 have hsn:=fun (a:Int)=>Qs3 w a
 have hmono:∀i j,i≤j→j<l.length→l.getD i 0≤l.getD j 0:=fun i j hij hj=>by
  rcases Nat.lt_or_ge i j with h|h
  ·exact Nat.le_of_lt (hr i j h hj)
  ·have:i=j:=by omega
   rw[this];exact Nat.le_refl _
 generalize hln:l.length=n at *
 obtain⟨Hrd,Hcl,Hsn,Hmono,Hln⟩:=hid5 hrd hcl hsn hmono hln
 clear hrd hcl hsn hmono hln hr
 go_enter Tryz.func164,Tryz.ntmps164
 go_wp2_with fail
 go_loopw [7,8] (fun a v wr=>∃(i j:Nat),i≤j∧j≤n∧a = .int .i64 (i:Int)∧v = .int .i64 (j:Int)∧(∀k,k<i→l.getD k 0<x)∧(∀k,j≤k→k<n→x≤l.getD k 0)∧wr=w) (fun a v _=>(intOf v).toNat-(intOf a).toNat)
 case atStart=>exact⟨0,n,Nat.zero_le _,Nat.le_refl _,rfl,rfl,fun k hk=>by omega,fun k h1 h2=>by omega,rfl⟩
 case round =>
  obtain⟨i,j,hij,hjn,rfl,rfl,hlo,hhi,rfl⟩:=hrel
  by_cases hlt:i<j
  ·have hh1:i≤(i+j)/2:=by omega
   have hh2:(i+j)/2<j:=by omega
   have hhh:((i:Int)+(j:Int))/2=(((i+j)/2:Nat):Int):=by omega
   obtain⟨b,rfl,hcell⟩:=Hrd.out ((i+j)/2) (by omega)
   have hc:=Hcl.out ((l.getD ((i+j)/2) 0:Nat):Int) (x:Int)
   have hm1:=fun k (hk:k≤(i+j)/2)=>Hmono.out k ((i+j)/2) hk (by omega)
   have hm2:=fun k (hk:(i+j)/2≤k) (hkn:k<n)=>Hmono.out ((i+j)/2) k hk hkn
   generalize hh:(i+j)/2=h at *
   generalize hy:l.getD h 0=y at *
   by_cases hyx:y<x
   ·have hyx':(y:Int)<(x:Int):=by omega
    rw[decide_eq_true hyx'] at hc
    obtain⟨Hc,Hlo,Hhi,Hm1,Hm2⟩:=hid5 hc hlo hhi hm1 hm2
    clear hc hlo hhi hm1 hm2
    go_wp2_with fail
    refine Hc.out.mono ?_
    rintro e w' ⟨rfl,rfl⟩
    go_wp2_with fail
    go_round
    case rel=>exact⟨h+1,j,by omega,by omega,by simp,rfl,fun k hk=>by have:=Hm1.out k (by omega);omega,Hhi.out,trivial⟩
    case measure=>simp[intOf];omega
   ·have hyx':¬(y:Int)<(x:Int):=by omega
    rw[decide_eq_false hyx'] at hc
    obtain⟨Hc,Hlo,Hhi,Hm1,Hm2⟩:=hid5 hc hlo hhi hm1 hm2
    clear hc hlo hhi hm1 hm2
    go_wp2_with fail
    refine Hc.out.mono ?_
    rintro e w' ⟨rfl,rfl⟩
    go_wp2_with fail
    go_round
    case rel=>exact⟨i,h,by omega,by omega,rfl,rfl,Hlo.out,fun k h1 h2=>by have:=Hm2.out k h1 h2;omega,trivial⟩
    case measure=>simp[intOf];omega
  ·have hij':i=j:=by omega
   subst hij'
   by_cases hin:i<n
   ·obtain⟨b,rfl,hcell⟩:=Hrd.out i hin
    have hs1:=Hsn.out ((l.getD i 0:Nat):Int)
    generalize hy:l.getD i 0=y at *
    by_cases hyx:y=x
    ·subst hyx
     obtain⟨Hs1,Hlo,Hhi⟩:=hid3 hs1 hlo hhi
     clear hs1 hlo hhi
     go_wp2_with fail
     go_returns
     exact⟨⟨i,true,rfl,⟨by rw[Hln.out];exact hjn,Hlo.out,fun k h1 h2=>Hhi.out k h1 (by rw[←Hln.out];exact h2),by rw[Hln.out,decide_eq_true ⟨hin,hy⟩]⟩⟩,rfl⟩
    ·have hyx':¬(y:Int)=(x:Int):=by omega
     obtain⟨Hs1,Hlo,Hhi⟩:=hid3 hs1 hlo hhi
     clear hs1 hlo hhi
     go_wp2_with fail
     refine Hs1.out.mono ?_
     rintro e w' ⟨rfl,rfl⟩
     go_wp2_with fail
     go_returns
     exact⟨⟨i,false,by first|rfl|simp[hyx'],⟨by rw[Hln.out];exact hjn,Hlo.out,fun k h1 h2=>Hhi.out k h1 (by rw[←Hln.out];exact h2),by rw[Hln.out,decide_eq_false (fun h=>hyx (hy▸h.2))]⟩⟩,rfl⟩
   ·obtain⟨Hlo,Hhi⟩:=hid2 hlo hhi
    clear hlo hhi
    go_wp2_with fail
    go_returns
    exact⟨⟨i,false,rfl,⟨by rw[Hln.out];exact hjn,Hlo.out,fun k h1 h2=>Hhi.out k h1 (by rw[←Hln.out];exact h2),by rw[Hln.out,decide_eq_false (fun h=>hin h.1)]⟩⟩,rfl⟩
structure LogM.Rise (L:LogM):Prop where
 rise:Qm6 L.starts
 low:∀s∈L.starts,s<L.stream.length
structure LogM.AtR (L:LogM) (lsn k:Nat) (f:Bool):Prop where
 before:lsn<L.base→k=0∧f=false
 behind:L.base≤lsn→L.base+L.stream.length≤lsn→k=L.starts.length∧f=false
 within:L.base≤lsn→lsn<L.base+L.stream.length→Found L.starts (lsn-L.base) k f
theorem Qbr (n:Nat) (h:n<9223372036854775808):IntKind.i64.wrap (n:Int)=(n:Int):=by
 unfold IntKind.wrap
 simp[IntKind.bits,IntKind.signed]
 omega
theorem Qos {L:LogM}(h:LogAt w τ bl bd L) (hr:L.Rise) (lsn:Nat) (hl:lsn<18446744073709551616) :
 Calls Tryz.prog 98 #[.pointer (some ⟨bl,0,none⟩),.int .u64 (lsn:Int)] w fun e w'=>(∃(k:Nat) (f:Bool),e = .returned (.tuple #[.int .i64 (k:Int),.bool f])∧L.AtR lsn k f)∧Step w τ w' τ nil:=by
 have hend:=Ql3 h
 obtain⟨vs,vt,ho,hs,ht⟩:=h.is
 have c1:=ho.at 1 (v:=.int .u64 (L.base:Int)) rfl
 obtain⟨p,c,rfl,hmx,hrd⟩:=Ints.read (g:=Qag) ht
 have c8:=ho.at 8 (v:=.slice p L.starts.length c) rfl
 have hb:=h.ok.base
 have hsl:=h.ok.stream
 have hst:=h.ok.starts
 by_cases h1:lsn<L.base
 ·have h1':(lsn:Int)<(L.base:Int):=by omega
  have hR:L.AtR lsn 0 false:=⟨fun _=>⟨rfl,rfl⟩,fun h=>absurd h (by omega),fun h=>absurd h (by omega)⟩
  generalize L.base=bs at *
  have HR:=Lib.hid hR
  clear hR h ho hs ht hend hrd c8
  go_enter Tryz.func98,Tryz.ntmps98
  go_wp2_with fail
  go_ret2
  exact⟨⟨0,false,rfl,HR.out⟩,Step.refl _ _ _⟩
 ·have h1':¬(lsn:Int)<(L.base:Int):=by omega
  by_cases h2:L.base+L.stream.length≤lsn
  ·have hR:L.AtR lsn L.starts.length false:=⟨fun h=>absurd h h1,fun _ _=>⟨rfl,rfl⟩,fun _ h=>absurd h (by omega)⟩
   have h2':((L.base+L.stream.length:Nat):Int)≤(lsn:Int):=by omega
   have hown:=ho
   generalize L.starts.length=m at *
   generalize L.base+L.stream.length=en at *
   generalize L.base=bs at *
   obtain⟨HR,Hend,Hown⟩:=hid3 hR hend hown
   clear hR hend hown h ho hs ht hrd
   go_enter Tryz.func98,Tryz.ntmps98
   go_wp2_with fail
   refine Hend.out.mono ?_
   rintro e w1 ⟨rfl,hs1⟩
   have d8:=(Hown.out.step hs1 (fun h=>h)).at 8 (v:=.slice p m c) rfl
   have Hs1:=Lib.hid hs1
   clear hs1
   go_wp2_with fail
   go_ret2
   exact⟨⟨m,false,rfl,HR.out⟩,Hs1.out⟩
  ·have h2':¬((L.base+L.stream.length:Nat):Int)≤(lsn:Int):=by omega
   have hx:(lsn:Int)-(L.base:Int)=((lsn-L.base:Nat):Int):=by omega
   have hw1:=Qam (lsn-L.base) (by omega)
   have hw2:=Qbr (lsn-L.base) (by omega)
   have hbs:=fun (W:World) (hW:∀i,i<L.starts.length→∃b,p=some ⟨b,0,none⟩∧W.cell? ⟨b,i,none⟩=some (.int .i64 ((L.starts.getD i 0:Nat):Int)))=>Qrq (c:=c) hr.rise hW hst (lsn-L.base)
   have hR:∀k f,Found L.starts (lsn-L.base) k f→L.AtR lsn k f:=fun k f hf=>⟨fun h=>absurd h h1,fun _ h=>absurd h h2,fun _ _=>hf⟩
   have q1:∀vt,(Qa8 L bd vs vt)[1]?=some (.int .u64 (L.base:Int)):=fun _=>rfl
   have hsum':L.base+L.stream.length=L.base+L.stream.length:=rfl
   generalize L.base+L.stream.length=en at *
   generalize hxx:lsn-L.base=x at *
   generalize L.base=bs at *
   have hst0:=(Step.refl w τ nil).drew
   generalize hm:L.starts.length=m at *
   obtain⟨HR,Hend,Hbs,Hm,Hxx,Ho,Ht,H_q1⟩:=hid8 hR hend hbs hm hxx ho ht q1
   clear hR hend hbs hm hxx ho ht q1 h hs hrd hr hsum' hst0 h2
   go_enter Tryz.func98,Tryz.ntmps98
   go_wp2_with fail
   refine Hend.out.mono ?_
   rintro e w1 ⟨rfl,hs1⟩
   have ho1:=Ho.out.step hs1.drew (fun h=>h)
   have d1:=ho1.at 1 (v:=.int .u64 (bs:Int)) (H_q1.out _)
   have d8:=ho1.at 8 (v:=.slice p m c) rfl
   obtain⟨p',c',hv',_,hrd⟩:=Ints.read (g:=Qag) ((show Ints w τ Qag _ L.starts by unfold Ints;rw[Hm.out];exact Ht.out).step hs1.drew (fun h=>h))
   rw[Hm.out] at hv' hrd
   cases hv'
   have hb1:=Hbs.out _ hrd
   obtain⟨Hs1,Hb1⟩:=hid2 hs1 hb1
   clear hs1 hb1 ho1 hrd
   go_wp2_with fail
   go_region_law (first
    | (go_simp
       go_at_call 164
       refine Hb1.out.mono ?_
       rintro e w2 ⟨⟨r,f,rfl,hf⟩,rfl⟩
       have hRr:=HR.out r f hf
       have HRr:=Lib.hid hRr
       clear hRr
       clear hf))
   all_goals go_wp2_with fail
   all_goals go_returns
   all_goals exact⟨⟨r,f,rfl,HRr.out⟩,Hs1.out.drew⟩
def LogM.firstS (L:LogM):Nat:=if L.area=0 then 2 else 2+L.strips
theorem Qiz {L:LogM}(h:LogAt w τ bl bd L) :
 Calls Tryz.prog 54 #[.pointer (some ⟨bl,0,none⟩),.int .i64 (L.area:Int)] w fun e w'=>e = .returned (.int .i64 (L.firstS:Int))∧w=w':=by
 obtain⟨vs,vt,ho,-,-⟩:=h.is
 have c5:=ho.at 5 (v:=.int .i64 (L.strips:Int)) rfl
 have hs:=h.ok.strips
 have ha:=h.ok.area
 obtain⟨m,hm⟩:∃m,2+L.strips=m:=⟨_,rfl⟩
 have h2:2+(L.strips:Int)=(m:Int):=by omega
 have hix:=fun (W:World)=>Qli W (.int .i64 2) (.int .i64 (m:Int))
 have hi0:=fun W=>(hix W).1
 have hi1:=fun W=>(hix W).2
 have e:L.area=0∨L.area=1:=by omega
 unfold LogM.firstS
 rw[hm]
 generalize L.strips=k at *
 generalize L.area=a at *
 clear h ho hix hm
 rcases e with rfl|rfl
 ·go_enter Tryz.func54,Tryz.ntmps54
  go_wp2_with fail
  go_ret
  exact⟨rfl,rfl⟩
 ·go_enter Tryz.func54,Tryz.ntmps54
  go_wp2_with fail
  go_ret
  exact⟨rfl,rfl⟩
def LogM.behindK (L:LogM) (k:Nat):Nat:=if k+1<L.starts.length then L.starts.getD (k+1) 0 else L.stream.length
theorem Qho {L:LogM}(h:LogAt w τ bl bd L) (k:Nat) (hk:k≤1000000) :
 Calls Tryz.prog 99 #[.pointer (some ⟨bl,0,none⟩),.int .i64 (k:Int)] w fun e w'=>e = .returned (.int .i64 (L.behindK k:Int))∧w=w':=by
 obtain⟨vs,vt,ho,hs,ht⟩:=h.is
 have hsl:=h.ok.stream
 have hst:=h.ok.starts
 obtain⟨p,c,rfl,hmx,hrd⟩:=Ints.read (g:=Qag) ht
 obtain⟨ps,cs,rfl⟩:=hs.len
 have c8:=ho.at 8 (v:=.slice p L.starts.length c) rfl
 have c7:=ho.at 7 (v:=.slice ps L.stream.length cs) rfl
 unfold LogM.behindK
 by_cases h1:k+1<L.starts.length
 ·rw[if_pos h1]
  obtain⟨b,rfl,hcell⟩:=hrd (k+1) h1
  have h1':(k:Int)+1<(L.starts.length:Int):=by omega
  have h2:((k:Int)+1).toNat=k+1:=by omega
  have h3:(0:Int)≤(k:Int)+1:=by omega
  generalize L.starts.getD (k+1) 0=y at *
  generalize L.starts.length=m at *
  clear h ho hs ht hrd
  go_enter Tryz.func99,Tryz.ntmps99
  go_wp2_with fail
  go_ret
  exact⟨rfl,rfl⟩
 ·rw[if_neg h1]
  have h1':¬(k:Int)+1<(L.starts.length:Int):=by omega
  generalize L.stream.length=y at *
  generalize L.starts.length=m at *
  clear h ho hs ht hrd
  go_enter Tryz.func99,Tryz.ntmps99
  go_wp2_with fail
  go_ret
  exact⟨rfl,rfl⟩
def LogM.flushTo (L:LogM) (k:Nat):Nat:=L.behindK (k-1)
def Qdp (L:LogM) (k:Nat):List (List Int):=(Qeg (L.stream.take (L.flushTo k))).drop (L.lasts/127)
def LogM.flushed (L:LogM) (k:Nat):LogM:={L with lasts:=L.flushTo k}
def Qdq (L:LogM) (D:Dev) (k:Nat):Dev:=D.lay 0 (L.firstS+L.lasts/127) (Qdp L k)
theorem LogM.behindK_le {L:LogM}(hr:L.Rise) (k:Nat):L.behindK k≤L.stream.length:=by
 unfold LogM.behindK
 by_cases h:k+1<L.starts.length
 ·rw[if_pos h]
  have:=hr.low (L.starts.getD (k+1) 0) (by
   rw[List.getD_eq_getElem?_getD,List.getElem?_eq_getElem h]
   exact List.getElem_mem _)
  omega
 ·rw[if_neg h];exact Nat.le_refl _
theorem Qdx (st:List Int):(Qeg st).length=parts st.length 127:=by simp[Qeg,Quz]
theorem Qd9 (L:LogM) (hr:L.Rise) (k:Nat):(Qdp L k).length=parts (L.flushTo k) 127-L.lasts/127:=by
 unfold Qdp
 rw[List.length_drop,Qdx,List.length_take]
 have:=LogM.behindK_le hr (k-1)
 have e:min (L.flushTo k) L.stream.length=L.flushTo k:=Nat.min_eq_left this
 rw[e]
theorem LogM.ok.flushed {L:LogM}(h:L.ok) (hr:L.Rise) (k:Nat):(L.flushed k).ok :=
 ⟨h.stamp,h.base,h.check,h.area,h.strips,h.slot,h.stream,h.starts,LogM.behindK_le hr (k-1)⟩
def Qbj (L:LogM) (k:Nat):Bool:=decide (k≠0∧L.lasts<L.flushTo k)
def FlushR (w:World) (τ:Tags) (bl bd:Nat) (L:LogM) (D:Dev) (k:Nat) (w':World):Prop :=
 ∃τ',LogAt w' τ' bl bd (if Qbj L k=true then L.flushed k else L)∧DevAt w' τ' bd (if Qbj L k=true then Qdq L D k else D)∧Step w τ w' τ' WalTag
theorem FlushR.no {w':World} {τ':Tags} {L:LogM} {k:Nat}(h:Qbj L k=false) (hl:LogAt w' τ' bl bd L) (hd:DevAt w' τ' bd D) (hs:Step w τ w' τ' nil):FlushR w τ bl bd L D k w' :=
 ⟨τ',by rw[h,if_neg (by simp)];exact hl,by rw[h,if_neg (by simp)];exact hd,hs.mono (fun _ h=>h.elim)⟩
theorem FlushR.yes {w':World} {τ':Tags} {L:LogM} {k:Nat}(h:Qbj L k=true) (hl:LogAt w' τ' bl bd (L.flushed k)) (hd:DevAt w' τ' bd (Qdq L D k)) (hs:Step w τ w' τ' WalTag):FlushR w τ bl bd L D k w' :=
 ⟨τ',by rw[if_pos h];exact hl,by rw[if_pos h];exact hd,hs⟩
theorem Qsn {l:List (List Int)} {f i:Nat} {x:List Int}(h:(l.drop f)[i]?=some x):l[f+i]?=some x:=by
 rw[List.getElem?_drop] at h;exact h
theorem Qd5 (x:Int) (h0:0≤x) (h:x≤100000):IntKind.i64.wrap x=x:=by
 obtain⟨n,rfl⟩:∃n:Nat,x=(n:Int):=⟨x.toNat,by omega⟩
 exact Qbr n (by omega)
theorem Qor {L:LogM}(hl:LogAt w τ bl bd L) (hd:DevAt w τ bd D) (hr:L.Rise) (hcap:L.stream.length≤127*L.strips) (hfit:L.firstS+L.strips≤D.f0.length) (hlim:D.lim 700000) (lsn:Nat) (h64:lsn<18446744073709551616) :
 Calls Tryz.prog 38 #[.pointer (some ⟨bl,0,none⟩),.int .u64 (lsn:Int)] w fun e w'=>e = .returned (.tuple #[])∧∃(k:Nat) (f:Bool),L.AtR lsn k f∧FlushR w τ bl bd L D (k+(if f then 1 else 0)) w':=by
 have hat:=Qos hl hr lsn h64
 have hlen:=hd.length 0
 have hf0:D.file 0=D.f0:=rfl
 rw[hf0] at hlen
 have hok:=hl.ok
 have hstr:=hok.strips
 have hssl:=hok.stream
 have hsts:=hok.starts
 have hlal:=hok.lasts
 obtain⟨Hat,Hl,Hd,Hr,Hlim,Hok,Hcap,Hfit⟩:=hid8 hat hl hd hr hlim hok hcap hfit
 clear hat hl hd hr hlim hok hcap hfit
 go_enter Tryz.func38,Tryz.ntmps38
 go_wp2_with fail
 refine Hat.out.mono ?_
 rintro e w1 ⟨⟨k,f,rfl,hat⟩,hs1⟩
 have hkl:k≤L.starts.length:=by
  rcases Nat.lt_or_ge lsn L.base with h|h
  ·have:=(hat.before h).1;omega
  ·rcases Nat.lt_or_ge lsn (L.base+L.stream.length) with h2|h2
   ·exact(hat.within h h2).le
   ·have:=(hat.behind h h2).1;omega
 have hl1:=Hl.out.step hs1 (fun _ _ h=>h)
 have hd1:=Hd.out.step hs1 (fun _ h=>h.elim)
 obtain⟨Hat,Hs1,Hl1,Hd1⟩:=hid4 hat hs1 hl1 hd1
 clear hat hs1 hl1 hd1
 cases f with
 | true =>
   obtain⟨K,hKe⟩:∃K,k+1=K:=⟨_,rfl⟩
   have hKi:(k:Int)+1=(K:Int):=by omega
   have hK1:k+1≤1000001:=by omega
   have hK0:¬(K:Int)=0:=by omega
   obtain⟨J,hJ⟩:∃J,J+1=K:=⟨K-1,by omega⟩
   have hJi:(K:Int)-1=(J:Int):=by omega
   have hbh:=Qho Hl1.out J (by omega)
   have hle:=LogM.behindK_le Hr.out J
   have hto:L.flushTo K=L.behindK J:=by unfold LogM.flushTo;rw[show K-1=J by omega]
   rw[←hto] at hbh hle
   obtain⟨vs,vt,ho1,hst1,hsa1⟩:=Hl1.out.is
   have c9:=ho1.at 9 (v:=.int .i64 (L.lasts:Int)) rfl
   clear hto
   obtain⟨Ho1,Hst1,Hsa1⟩:=hid3 ho1 hst1 hsa1
   clear ho1 hst1 hsa1
   by_cases hfl:L.flushTo K≤L.lasts
   ·have hfl':(L.flushTo K:Int)≤(L.lasts:Int):=by omega
    have hno:Qbj L K=false:=decide_eq_false (fun h=>by have:=h.2;omega)
    generalize L.flushTo K=to at *
    generalize hlasts:L.lasts=la at *
    obtain⟨Hbh,Hno,Hlasts⟩:=hid3 hbh hno hlasts
    clear hbh hno hlasts
    go_wp2_with fail
    refine Hbh.out.mono ?_
    rintro e w2 ⟨rfl,rfl⟩
    go_wp2_with fail
    go_returns
    exact⟨rfl,k,true,Hat.out,by rw[show k+(if true=true then 1 else 0)=K from hKe];exact FlushR.no Hno.out Hl1.out Hd1.out Hs1.out⟩
   ·have hfl':¬(L.flushTo K:Int)≤(L.lasts:Int):=by omega
    have hyes:Qbj L K=true:=decide_eq_true ⟨by omega,by omega⟩
    have hrowl:=Qd9 L Hr.out K
    have hfd:Qdq L D K=D.lay 0 (L.firstS+L.lasts/127) (Qdp L K):=rfl
    have hrow:Qdp L K=(Qeg (L.stream.take (L.flushTo K))).drop (L.lasts/127):=rfl
    have hok2:=Hok.out.flushed Hr.out K
    have hall:=Qdx (L.stream.take (L.flushTo K))
    rw[List.length_take,Nat.min_eq_left hle] at hall
    have hpm:L.lasts/127<parts (L.flushTo K) 127:=by unfold parts;omega
    have hpk:parts (L.flushTo K) 127≤L.strips:=by unfold parts;have:=Hcap.out;omega
    obtain⟨bs,os,cs,rfl,hcs1,hcs2,-,-,-⟩:=(Buf.bytes Hst1.out Hl1.out.isB).pos (by omega)
    have hlay:=Qvl (((Buf.bytes Hst1.out Hl1.out.isB)).fst (L.flushTo K) hle) (by rw[List.length_take];omega)
    have c7:=Ho1.out.at 7 (v:=.slice (some ⟨bs,os,none⟩) L.stream.length cs) rfl
    have c4:=Ho1.out.at 4 (v:=.pointer (some ⟨bd,0,none⟩)) rfl
    have c3:=Ho1.out.at 3 (v:=.int .i64 (L.area:Int)) rfl
    have hq:=Hfit.out
    have hflc:LogM.flushed L K={L with lasts:=L.flushTo K}:=rfl
    generalize hto:L.flushTo K=to at *
    generalize hfr:L.lasts/127=fr at *
    have hfri:(L.lasts:Int)/127=(fr:Int):=by omega
    generalize hS:Qeg (L.stream.take to)=SA at *
    generalize hF:L.firstS=F at *
    generalize hm:parts to 127=m at *
    generalize hRw:Qdp L K=RW at *
    generalize hsl:L.stream.length=sl at *
    generalize hlas:L.lasts=la at *
    have h1:to≤cs:=by omega
    have h2:(to:Int)≤(cs:Int):=by omega
    obtain⟨Hbh,Hyes,Hrowl,Hfd,Hrow,Hok2,Hall,Hlay,Hflc,Hto,HS,HF⟩:=hid12 hbh hyes hrowl hfd hrow hok2 hall hlay hflc hto hS hF
    obtain⟨Hm,HRw,Hsl,Hlas,Hfr⟩:=hid5 hm hRw hsl hlas hfr
    clear hbh hyes hrowl hfd hrow hok2 hall hlay hflc hto hS hF hm hRw hsl hlas hfr
    go_wp2_with fail
    refine Hbh.out.mono ?_
    rintro e w2 ⟨rfl,rfl⟩
    go_wp2_with fail
    refine Hlay.out.mono ?_
    rintro e w2 ⟨u,τ2,rfl,hnr,hs2⟩
    obtain⟨pl,cl,hu,hmx,hread⟩:=hnr.row.read
    rw[Hall.out] at hu hmx
    subst hu
    obtain⟨x0,hx0⟩:∃x,SA[0]?=some x:=⟨_,List.getElem?_eq_getElem (by rw[Hall.out];omega)⟩
    obtain⟨_,bb,_,rfl,_,_⟩:=hread 0 x0 hx0
    clear hread hx0
    have hcl:m≤cl∧cl≤maxLen:=by
     obtain⟨xs,⟨hb1,hb2⟩,-⟩:=hnr.row.buf
     rcases hb2 with ⟨hb2,_⟩|⟨b3,cap,ys,hb3,_,hb4,hb5,hb6⟩
     ·cases hb2
     ·cases hb3
      rw[Hall.out] at hb1
      exact⟨by omega,hb6⟩
    have f1:fr≤m:=by omega
    have f2:(fr:Int)≤(m:Int):=by omega
    have f3:¬fr=cl:=by omega
    have f4:¬cl=fr:=by omega
    have f5:(fr:Int)≤(cl:Int):=by omega
    have hd2:=Hd1.out.step hs2 (fun _ h=>h.elim)
    have hl2:=Hl1.out.step hs2 (fun _ _ h=>h)
    obtain⟨Hnr,Hs2,Hd2,Hl2⟩:=hid4 hnr hs2 hd2 hl2
    clear hnr hs2 hd2 hl2 Hlay
    go_wp2_with fail
    obtain⟨q,hmq⟩:∃q,m-fr=q:=⟨_,rfl⟩
    rw[hmq]
    have hrq:RW.length=q:=by rw[←hmq];exact Hrowl.out
    have hqm:fr+q=m:=by omega
    obtain⟨Hmq,Hrq⟩:=hid2 hmq hrq
    clear hmq hrq
    go_loopw [46] (fun v wr=>∃(i:Nat) (τr:Tags),i≤q∧v = .int .i64 (i:Int)∧DevAt wr τr bd (D.writes 0 (F+fr) RW i)∧Step w2 τ2 wr τr DevTag) (fun v _=>q-(intOf v).toNat)
    case atStart=>exact⟨0,τ2,Nat.zero_le _,rfl,Hd2.out,Step.refl _ _ _⟩
    case round =>
     obtain⟨i,τr,hi,rfl,hd,hst⟩:=hrel
     have hlr:=Hl2.out.step hst Qau
     by_cases hlt:i<q
     ·obtain⟨x,hx⟩:∃x,RW[i]?=some x:=⟨_,List.getElem?_eq_getElem (by rw[Hrq.out];exact hlt)⟩
      have hx2:SA[fr+i]?=some x:=Qsn (by rw[←Hrow.out];exact hx)
      obtain⟨p',c',hv',_,hread⟩:=(Hnr.out.row.step hst (by simp[DevTag,tOut]) Qay).read
      cases hv'
      obtain⟨hx128,b,u,hb,hc,hbx⟩:=hread (fr+i) x hx2
      cases hb
      clear hread
      have hfa:=Qiz (hlr.step (Step.refl wr τr nil).drew (fun _ _ h=>h))
      rw[HF.out] at hfa
      have hwl:=Dev.writes_length D 0 (F+fr) (by omega) RW i 0
      rw[hf0] at hwl
      have hwt:=Qey (hd.step (Step.refl wr τr nil).drew (fun _ h=>h.elim)) 0 (by omega) (F+fr+i) (by rw[hwl];omega) hbx.drew hx128 Qay (Dev.lim_mono (Dev.writes_lim Hlim.out 0 (F+fr) (by omega) RW i) (by omega))
      rw[show ((F+fr+i:Nat):Int)=(F:Int)+(fr:Int)+(i:Int) by omega] at hwt
      have hsucc:D.writes 0 (F+fr) RW (i+1)=(D.writes 0 (F+fr) RW i).write 0 (F+fr+i) x:=by
       show (D.writes 0 (F+fr) RW i).write 0 (F+fr+i) (RW.getD i [])=_
       rw[List.getD_eq_getElem?_getD,hx];rfl
      obtain⟨vs3,vt3,ho3,-,-⟩:=hlr.is
      have d4:=ho3.drew.at 4 (v:=.pointer (some ⟨bd,0,none⟩)) rfl
      have d3:=ho3.drew.at 3 (v:=.int .i64 (L.area:Int)) rfl
      have a0:(F:Int)+(fr:Int)≤4096:=by omega
      have a1:(F:Int)+(fr:Int)+(i:Int)≤4096:=by omega
      have w1:=Qd5 ((F:Int)+(fr:Int)) (by omega) (by omega)
      have w2:=Qd5 ((F:Int)+(fr:Int)+(i:Int)) (by omega) (by omega)
      generalize D.writes 0 (F+fr) RW i=E at *
      obtain⟨pb,kb,rfl,-,-⟩:=hbx.any
      obtain⟨Hd,Hst,Hfa,Hwt,Hsucc,Hx,Hx2,Hx128,Hlr⟩:=hid9 hd hst hfa hwt hsucc hx hx2 hx128 hlr
      clear hd hst hfa hwt hsucc hx hx2 hx128 hlr hbx hwl ho3
      go_wp2_with fail
      go_region_held3 (fun w'=>w'.cell? ⟨bl,4,none⟩=some (.pointer (some ⟨bd,0,none⟩))∧w'.cell? ⟨bl,3,none⟩=some (.int .i64 (L.area:Int))) (go_keep) (first
       | (go_at_call 54
          refine Hfa.out.mono ?_
          rintro e w3 ⟨rfl,rfl⟩)
       | (go_at_call 100
          refine Hwt.out.mono ?_
          rintro e w4 ⟨rfl,τ4,hd4,hs4⟩
          have hl4:=(Hlr.out.step (Step.refl wr τr nil).drew (fun _ _ h=>h)).step hs4 Qau
          obtain⟨vs4,vt4,ho4,-,-⟩:=hl4.is
          have e4:=ho4.at 4 (v:=.pointer (some ⟨bd,0,none⟩)) rfl
          have e3:=ho4.at 3 (v:=.int .i64 (L.area:Int)) rfl
          obtain⟨Hd4,Hs4⟩:=hid2 hd4 hs4
          clear hd4 hs4
          clear ho4 hl4))
      go_wp2_with fail
      go_round
      case rel=>exact⟨i+1,τ4,by omega,by simp,by rw[Hsucc.out];exact Hd4.out,Hst.out.drew.trans Hs4.out⟩
      case measure=>simp[intOf];omega
     ·obtain rfl:i=q:=by omega
      have hsy:=Qhr hd 0 (by omega)
      obtain⟨vs3,vt3,ho3,-,-⟩:=hlr.is
      have d4:=ho3.at 4 (v:=.pointer (some ⟨bd,0,none⟩)) rfl
      have hlayE:Qdq L D K=(D.writes 0 (F+fr) RW i).sync 0:=by rw[Hfd.out];unfold Dev.lay;rw[Hrq.out]
      obtain⟨Hst,Hsy,Hlr,HlayE⟩:=hid4 hst hsy hlr hlayE
      clear hst hsy hlr hlayE hd ho3
      go_wp2_with fail
      refine Hsy.out.mono ?_
      rintro e w4 ⟨rfl,τ4,hd4,hs4⟩
      have hl4:=Hlr.out.step hs4 Qau
      have hB4:=hl4.isB
      obtain⟨vs4,vt4,ho4,hs4s,hs4t⟩:=hl4.is
      have k9:=ho4.at 9 (v:=.int .i64 (L.lasts:Int)) rfl
      have z9:=ho4.fz 9
      have ho5:=ho4.set 9 (.int .i64 (to:Int))
      have hset:(Qa8 L bd vs4 vt4).set 9 (.int .i64 (to:Int))=Qa8 (LogM.flushed L K) bd vs4 vt4:=by rw[Hflc.out];rfl
      rw[hset] at ho5
      have hst5:Step w4 τ4 (w4.setCell ⟨bl,9,none⟩ (.int .i64 (to:Int))) τ4 (fun g=>g=tLog):=(Step.refl w4 τ4 (fun g=>g=tLog)).set (o:=9) ho4.tag rfl _
      have hl5:LogAt (w4.setCell ⟨bl,9,none⟩ (.int .i64 (to:Int))) τ4 bl bd (LogM.flushed L K) :=
       ⟨⟨vs4,vt4,ho5,by have:=hs4s.step hst5 (by simp[Qah,tLog]);exact this,by have:=hs4t.step hst5 (by simp[Qag,tLog]);exact this⟩,hB4,Hok2.out⟩
      have hd5:=hd4.step hst5 (fun g hg=>by subst hg;exact⟨Qau _ (.inl rfl),by simp[tLog,tData]⟩)
      have hall5:=((Hs1.out.mono (T:=WalTag) (fun _ h=>h.elim)).trans (Hs2.out.mono (T:=WalTag) (fun _ h=>h.elim))).trans ((Hst.out.mono (T:=WalTag) (fun _ h=>.inr h)).trans ((hs4.mono (T:=WalTag) (fun _ h=>.inr h)).trans (hst5.mono (T:=WalTag) (fun g hg=>.inl (.inl hg)))))
      rw[←HlayE.out] at hd5
      obtain⟨Hl5,Hd5,Hall5⟩:=hid3 hl5 hd5 hall5
      clear hl5 hd5 hall5 ho4 hs4s hs4t ho5 hset hst5 hl4 hd4 hs4
      go_wp2_with fail
      go_returns
      exact⟨rfl,k,true,Hat.out,by rw[show k+(if true=true then 1 else 0)=K from hKe];exact FlushR.yes Hyes.out Hl5.out Hd5.out Hall5.out⟩
 | false =>
   by_cases hk0:k=0
   ·subst hk0
    go_wp2_with fail
    go_returns
    exact⟨rfl,0,false,Hat.out,FlushR.no (by rfl) Hl1.out Hd1.out Hs1.out⟩
   ·obtain⟨K,hKe⟩:∃K,k=K:=⟨_,rfl⟩
    rw[hKe] at hk0 hkl
    have hKi:(k:Int)=(K:Int):=by omega
    rw[hKi]
    have hK0:¬(K:Int)=0:=by omega
    obtain⟨J,hJ⟩:∃J,J+1=K:=⟨K-1,by omega⟩
    have hJi:(K:Int)-1=(J:Int):=by omega
    have hbh:=Qho Hl1.out J (by omega)
    have hle:=LogM.behindK_le Hr.out J
    have hto:L.flushTo K=L.behindK J:=by unfold LogM.flushTo;rw[show K-1=J by omega]
    rw[←hto] at hbh hle
    obtain⟨vs,vt,ho1,hst1,hsa1⟩:=Hl1.out.is
    have c9:=ho1.at 9 (v:=.int .i64 (L.lasts:Int)) rfl
    clear hto
    obtain⟨Ho1,Hst1,Hsa1⟩:=hid3 ho1 hst1 hsa1
    clear ho1 hst1 hsa1
    by_cases hfl:L.flushTo K≤L.lasts
    ·have hfl':(L.flushTo K:Int)≤(L.lasts:Int):=by omega
     have hno:Qbj L K=false:=decide_eq_false (fun h=>by have:=h.2;omega)
     generalize L.flushTo K=to at *
     generalize hlasts:L.lasts=la at *
     obtain⟨Hbh,Hno,Hlasts⟩:=hid3 hbh hno hlasts
     clear hbh hno hlasts
     go_wp2_with fail
     refine Hbh.out.mono ?_
     rintro e w2 ⟨rfl,rfl⟩
     go_wp2_with fail
     go_returns
     exact⟨rfl,k,false,Hat.out,by rw[show k+(if false=true then 1 else 0)=K from hKe];exact FlushR.no Hno.out Hl1.out Hd1.out Hs1.out⟩
    ·have hfl':¬(L.flushTo K:Int)≤(L.lasts:Int):=by omega
     have hyes:Qbj L K=true:=decide_eq_true ⟨by omega,by omega⟩
     have hrowl:=Qd9 L Hr.out K
     have hfd:Qdq L D K=D.lay 0 (L.firstS+L.lasts/127) (Qdp L K):=rfl
     have hrow:Qdp L K=(Qeg (L.stream.take (L.flushTo K))).drop (L.lasts/127):=rfl
     have hok2:=Hok.out.flushed Hr.out K
     have hall:=Qdx (L.stream.take (L.flushTo K))
     rw[List.length_take,Nat.min_eq_left hle] at hall
     have hpm:L.lasts/127<parts (L.flushTo K) 127:=by unfold parts;omega
     have hpk:parts (L.flushTo K) 127≤L.strips:=by unfold parts;have:=Hcap.out;omega
     obtain⟨bs,os,cs,rfl,hcs1,hcs2,-,-,-⟩:=(Buf.bytes Hst1.out Hl1.out.isB).pos (by omega)
     have hlay:=Qvl (((Buf.bytes Hst1.out Hl1.out.isB)).fst (L.flushTo K) hle) (by rw[List.length_take];omega)
     have c7:=Ho1.out.at 7 (v:=.slice (some ⟨bs,os,none⟩) L.stream.length cs) rfl
     have c4:=Ho1.out.at 4 (v:=.pointer (some ⟨bd,0,none⟩)) rfl
     have c3:=Ho1.out.at 3 (v:=.int .i64 (L.area:Int)) rfl
     have hq:=Hfit.out
     have hflc:LogM.flushed L K={L with lasts:=L.flushTo K}:=rfl
     generalize hto:L.flushTo K=to at *
     generalize hfr:L.lasts/127=fr at *
     have hfri:(L.lasts:Int)/127=(fr:Int):=by omega
     generalize hS:Qeg (L.stream.take to)=SA at *
     generalize hF:L.firstS=F at *
     generalize hm:parts to 127=m at *
     generalize hRw:Qdp L K=RW at *
     generalize hsl:L.stream.length=sl at *
     generalize hlas:L.lasts=la at *
     have h1:to≤cs:=by omega
     have h2:(to:Int)≤(cs:Int):=by omega
     obtain⟨Hbh,Hyes,Hrowl,Hfd,Hrow,Hok2,Hall,Hlay,Hflc,Hto,HS,HF⟩:=hid12 hbh hyes hrowl hfd hrow hok2 hall hlay hflc hto hS hF
     obtain⟨Hm,HRw,Hsl,Hlas,Hfr⟩:=hid5 hm hRw hsl hlas hfr
     clear hbh hyes hrowl hfd hrow hok2 hall hlay hflc hto hS hF hm hRw hsl hlas hfr
     go_wp2_with fail
     refine Hbh.out.mono ?_
     rintro e w2 ⟨rfl,rfl⟩
     go_wp2_with fail
     refine Hlay.out.mono ?_
     rintro e w2 ⟨u,τ2,rfl,hnr,hs2⟩
     obtain⟨pl,cl,hu,hmx,hread⟩:=hnr.row.read
     rw[Hall.out] at hu hmx
     subst hu
     obtain⟨x0,hx0⟩:∃x,SA[0]?=some x:=⟨_,List.getElem?_eq_getElem (by rw[Hall.out];omega)⟩
     obtain⟨_,bb,_,rfl,_,_⟩:=hread 0 x0 hx0
     clear hread hx0
     have hcl:m≤cl∧cl≤maxLen:=by
      obtain⟨xs,⟨hb1,hb2⟩,-⟩:=hnr.row.buf
      rcases hb2 with ⟨hb2,_⟩|⟨b3,cap,ys,hb3,_,hb4,hb5,hb6⟩
      ·cases hb2
      ·cases hb3
       rw[Hall.out] at hb1
       exact⟨by omega,hb6⟩
     have f1:fr≤m:=by omega
     have f2:(fr:Int)≤(m:Int):=by omega
     have f3:¬fr=cl:=by omega
     have f4:¬cl=fr:=by omega
     have f5:(fr:Int)≤(cl:Int):=by omega
     have hd2:=Hd1.out.step hs2 (fun _ h=>h.elim)
     have hl2:=Hl1.out.step hs2 (fun _ _ h=>h)
     obtain⟨Hnr,Hs2,Hd2,Hl2⟩:=hid4 hnr hs2 hd2 hl2
     clear hnr hs2 hd2 hl2 Hlay
     go_wp2_with fail
     obtain⟨q,hmq⟩:∃q,m-fr=q:=⟨_,rfl⟩
     rw[hmq]
     have hrq:RW.length=q:=by rw[←hmq];exact Hrowl.out
     have hqm:fr+q=m:=by omega
     obtain⟨Hmq,Hrq⟩:=hid2 hmq hrq
     clear hmq hrq
     go_loopw [46] (fun v wr=>∃(i:Nat) (τr:Tags),i≤q∧v = .int .i64 (i:Int)∧DevAt wr τr bd (D.writes 0 (F+fr) RW i)∧Step w2 τ2 wr τr DevTag) (fun v _=>q-(intOf v).toNat)
     case atStart=>exact⟨0,τ2,Nat.zero_le _,rfl,Hd2.out,Step.refl _ _ _⟩
     case round =>
      obtain⟨i,τr,hi,rfl,hd,hst⟩:=hrel
      have hlr:=Hl2.out.step hst Qau
      by_cases hlt:i<q
      ·obtain⟨x,hx⟩:∃x,RW[i]?=some x:=⟨_,List.getElem?_eq_getElem (by rw[Hrq.out];exact hlt)⟩
       have hx2:SA[fr+i]?=some x:=Qsn (by rw[←Hrow.out];exact hx)
       obtain⟨p',c',hv',_,hread⟩:=(Hnr.out.row.step hst (by simp[DevTag,tOut]) Qay).read
       cases hv'
       obtain⟨hx128,b,u,hb,hc,hbx⟩:=hread (fr+i) x hx2
       cases hb
       clear hread
       have hfa:=Qiz (hlr.step (Step.refl wr τr nil).drew (fun _ _ h=>h))
       rw[HF.out] at hfa
       have hwl:=Dev.writes_length D 0 (F+fr) (by omega) RW i 0
       rw[hf0] at hwl
       have hwt:=Qey (hd.step (Step.refl wr τr nil).drew (fun _ h=>h.elim)) 0 (by omega) (F+fr+i) (by rw[hwl];omega) hbx.drew hx128 Qay (Dev.lim_mono (Dev.writes_lim Hlim.out 0 (F+fr) (by omega) RW i) (by omega))
       rw[show ((F+fr+i:Nat):Int)=(F:Int)+(fr:Int)+(i:Int) by omega] at hwt
       have hsucc:D.writes 0 (F+fr) RW (i+1)=(D.writes 0 (F+fr) RW i).write 0 (F+fr+i) x:=by
        show (D.writes 0 (F+fr) RW i).write 0 (F+fr+i) (RW.getD i [])=_
        rw[List.getD_eq_getElem?_getD,hx];rfl
       obtain⟨vs3,vt3,ho3,-,-⟩:=hlr.is
       have d4:=ho3.drew.at 4 (v:=.pointer (some ⟨bd,0,none⟩)) rfl
       have d3:=ho3.drew.at 3 (v:=.int .i64 (L.area:Int)) rfl
       have a0:(F:Int)+(fr:Int)≤4096:=by omega
       have a1:(F:Int)+(fr:Int)+(i:Int)≤4096:=by omega
       have w1:=Qd5 ((F:Int)+(fr:Int)) (by omega) (by omega)
       have w2:=Qd5 ((F:Int)+(fr:Int)+(i:Int)) (by omega) (by omega)
       generalize D.writes 0 (F+fr) RW i=E at *
       obtain⟨pb,kb,rfl,-,-⟩:=hbx.any
       obtain⟨Hd,Hst,Hfa,Hwt,Hsucc,Hx,Hx2,Hx128,Hlr⟩:=hid9 hd hst hfa hwt hsucc hx hx2 hx128 hlr
       clear hd hst hfa hwt hsucc hx hx2 hx128 hlr hbx hwl ho3
       go_wp2_with fail
       go_region_held3 (fun w'=>w'.cell? ⟨bl,4,none⟩=some (.pointer (some ⟨bd,0,none⟩))∧w'.cell? ⟨bl,3,none⟩=some (.int .i64 (L.area:Int))) (go_keep) (first
        | (go_at_call 54
           refine Hfa.out.mono ?_
           rintro e w3 ⟨rfl,rfl⟩)
        | (go_at_call 100
           refine Hwt.out.mono ?_
           rintro e w4 ⟨rfl,τ4,hd4,hs4⟩
           have hl4:=(Hlr.out.step (Step.refl wr τr nil).drew (fun _ _ h=>h)).step hs4 Qau
           obtain⟨vs4,vt4,ho4,-,-⟩:=hl4.is
           have e4:=ho4.at 4 (v:=.pointer (some ⟨bd,0,none⟩)) rfl
           have e3:=ho4.at 3 (v:=.int .i64 (L.area:Int)) rfl
           obtain⟨Hd4,Hs4⟩:=hid2 hd4 hs4
           clear hd4 hs4
           clear ho4 hl4))
       go_wp2_with fail
       go_round
       case rel=>exact⟨i+1,τ4,by omega,by simp,by rw[Hsucc.out];exact Hd4.out,Hst.out.drew.trans Hs4.out⟩
       case measure=>simp[intOf];omega
      ·obtain rfl:i=q:=by omega
       have hsy:=Qhr hd 0 (by omega)
       obtain⟨vs3,vt3,ho3,-,-⟩:=hlr.is
       have d4:=ho3.at 4 (v:=.pointer (some ⟨bd,0,none⟩)) rfl
       have hlayE:Qdq L D K=(D.writes 0 (F+fr) RW i).sync 0:=by rw[Hfd.out];unfold Dev.lay;rw[Hrq.out]
       obtain⟨Hst,Hsy,Hlr,HlayE⟩:=hid4 hst hsy hlr hlayE
       clear hst hsy hlr hlayE hd ho3
       go_wp2_with fail
       refine Hsy.out.mono ?_
       rintro e w4 ⟨rfl,τ4,hd4,hs4⟩
       have hl4:=Hlr.out.step hs4 Qau
       have hB4:=hl4.isB
       obtain⟨vs4,vt4,ho4,hs4s,hs4t⟩:=hl4.is
       have k9:=ho4.at 9 (v:=.int .i64 (L.lasts:Int)) rfl
       have z9:=ho4.fz 9
       have ho5:=ho4.set 9 (.int .i64 (to:Int))
       have hset:(Qa8 L bd vs4 vt4).set 9 (.int .i64 (to:Int))=Qa8 (LogM.flushed L K) bd vs4 vt4:=by rw[Hflc.out];rfl
       rw[hset] at ho5
       have hst5:Step w4 τ4 (w4.setCell ⟨bl,9,none⟩ (.int .i64 (to:Int))) τ4 (fun g=>g=tLog):=(Step.refl w4 τ4 (fun g=>g=tLog)).set (o:=9) ho4.tag rfl _
       have hl5:LogAt (w4.setCell ⟨bl,9,none⟩ (.int .i64 (to:Int))) τ4 bl bd (LogM.flushed L K) :=
        ⟨⟨vs4,vt4,ho5,by have:=hs4s.step hst5 (by simp[Qah,tLog]);exact this,by have:=hs4t.step hst5 (by simp[Qag,tLog]);exact this⟩,hB4,Hok2.out⟩
       have hd5:=hd4.step hst5 (fun g hg=>by subst hg;exact⟨Qau _ (.inl rfl),by simp[tLog,tData]⟩)
       have hall5:=((Hs1.out.mono (T:=WalTag) (fun _ h=>h.elim)).trans (Hs2.out.mono (T:=WalTag) (fun _ h=>h.elim))).trans ((Hst.out.mono (T:=WalTag) (fun _ h=>.inr h)).trans ((hs4.mono (T:=WalTag) (fun _ h=>.inr h)).trans (hst5.mono (T:=WalTag) (fun g hg=>.inl (.inl hg)))))
       rw[←HlayE.out] at hd5
       obtain⟨Hl5,Hd5,Hall5⟩:=hid3 hl5 hd5 hall5
       clear hl5 hd5 hall5 ho4 hs4s hs4t ho5 hset hst5 hl4 hd4 hs4
       go_wp2_with fail
       go_returns
       exact⟨rfl,k,false,Hat.out,by rw[show k+(if false=true then 1 else 0)=K from hKe];exact FlushR.yes Hyes.out Hl5.out Hd5.out Hall5.out⟩
end Go.Proofs.YtemacanaihaldaaGreat