/-
 Pools: load of a page that was written.
-/
import Derived.Test.YtemacanaihaldaaGreatMPageS
import Derived.Test.YtemacanaihaldaaGreatMSealD
set_option maxRecDepth 100000
set_option maxHeartbeats 4000000
set_option linter.all false
namespace Go.Proofs.YtemacanaihaldaaGreat
variable {D:Dev}{bd bl:Nat}{w:World}{τ:Tags}
open Go.RowKit
theorem Qq7 {bp:Nat} {H:PoolH} {L:LogM}(h:Qji w τ bp H) (hl:LogAt w τ H.bl bd L) (hd:DevAt w τ bd D) (n:Nat) (hn:4*n+4<=D.f1.length) {P:List Int}{ls:List (List Int)}(s:ls.length=4) (x:Qb3 ls=true) (d:Qjt ls=P) (hP:Sound P) {k m:Nat}(y:pageNumber P=k) (z:pageLSN P=m) (hlsn:0<m) (hz:lastTo D n 4=ls) (g:Tag) :
 Calls Tryz.prog 134 #[.pointer (some ⟨bp,0,none⟩),.int .u32 (n:Int)] w fun e B=>∃b C,e = .returned (.tuple #[.pointer (some ⟨b,0,none⟩),.int .u16 0])/\w.heap.size<=b/\PageAt B C g b P/\Step w τ B C nil:=by
 have h1:=Qfi h hl hd n hn
 have E:=hd.length 1
 have U:D.file 1=D.f1:=rfl
 rw[U] at E
 rw[hz] at h1
 obtain⟨H1,X,Y,r,HP,Z,a1⟩:=hid7 h1 s x d hP y z
 clear h1 s x d hP y z h hl hd hz
 go_enter Tryz.func134,Tryz.ntmps134
 go_wp2_with fail
 refine H1.out.mono ?_
 rintro e w1 ⟨v,τ1,rfl,hr,F⟩
 have h2:=Qnz hr.row tData X.out
 obtain⟨p,c,rfl⟩:=hr.val
 obtain⟨H2,l⟩:=hid2 h2 F
 clear h2 F H1 hr
 go_wp2_with fail
 refine H2.out.mono ?_
 rintro e w2 ⟨τ2,G,hq⟩
 rcases hq with ⟨-,u,rfl,R⟩|⟨I,-⟩
 ·rw[r.out] at R
  have h3:=Qg4 (g:=g) R HP.out
  obtain⟨pu,cu,rfl,-,-⟩:=R.any
  obtain⟨H3,o⟩:=hid2 h3 G
  clear h3 G H2 R
  go_wp2_with fail
  refine H3.out.mono ?_
  rintro e w3 ⟨b0,J,rfl,i,q,M⟩
  have h4:=Qg5 q
  have h5:=Qhe q
  rw[Z.out] at h4
  rw[a1.out] at h5
  have hm:¬(m:Int)=0:=by omega
  obtain⟨H4,H5,N,O,j⟩:=hid5 h4 h5 M q i
  clear h4 h5 M q i H3
  by_cases hk:k=0
  ·subst hk
   go_wp2_with fail
   refine H4.out.mono ?_
   rintro e B ⟨rfl,rfl⟩
   go_wp2_with fail
   refine H5.out.mono ?_
   rintro e B ⟨rfl,rfl⟩
   go_wp2_with fail
   go_ret2
   exact⟨b0,J,rfl,Y3 (l.out.trans o.out).size j.out,O.out,(l.out.trans o.out).trans N.out⟩
  ·have hk':¬(k:Int)=0:=by omega
   go_wp2_with fail
   refine H4.out.mono ?_
   rintro e B ⟨rfl,rfl⟩
   go_wp2_with fail
   go_ret2
   exact⟨b0,J,rfl,Y3 (l.out.trans o.out).size j.out,O.out,(l.out.trans o.out).trans N.out⟩
 ·rw[Y.out] at I;cases I
theorem Qvk {bp:Nat} {H:PoolH} {L:LogM}(h:Qji w τ bp H) (hl:LogAt w τ H.bl bd L) (hd:DevAt w τ bd D) (n:Nat) (hn:4*n+4<=D.f1.length) {P:List Int}{st:Nat}(k:st<2 ^ 64) (l:Sound P) (d:0<pageLSN P) (o:lastTo D n 4=sealAll P st) (g:Tag) :
 Calls Tryz.prog 134 #[.pointer (some ⟨bp,0,none⟩),.int .u32 (n:Int)] w fun e m=>∃b i,e = .returned (.tuple #[.pointer (some ⟨b,0,none⟩),.int .u16 0])/\w.heap.size<=b/\PageAt m i g b P/\Step w τ m i nil:=by
 have j:=Qs6 l.tidy.len st k
 exact Qq7 h hl hd n hn (Qet P st) j.1 j.2.2.1 l rfl rfl d o g
theorem Qls (g:Tag) (h:g=tPool\/LogTag g):¬DevTag g:=by
 rcases h with rfl|h
 ·simp[DevTag,tPool]
 ·exact Qau g h
theorem Qkw {bp:Nat} {H:PoolH} {L:LogM}(h:Qji w τ bp H) (hl:LogAt w τ H.bl bd L) (hd:DevAt w τ bd D) (n:Nat) (hn:4*n+4<=D.f1.length) {g:Tag}{v:Value}{ls:List (List Int)}(hw:Waits w τ g v ls) (hg:¬DevTag g) (N:ls.length=4) (q:D.lim 800000) :
 Calls Tryz.prog 129 #[.pointer (some ⟨bp,0,none⟩),.int .i64 (n:Int),v] w (DevR w τ bd (D.lay 1 (4*n) ls) (.tuple #[])):=by
 have O:=hd.length 1
 have R:D.file 1=D.f1:=rfl
 rw[R] at O
 obtain⟨pw,cw,rfl,a6,-⟩:=hw.read
 have r:D.lay 1 (4*n) ls=(D.writes 1 (4*n) ls 4).sync 1:=by unfold Dev.lay;rw[N]
 rw[r,N]
 rw[N] at a6
 obtain⟨a7,Hl,Hw,U,H4⟩:=hid5 h hl hw q N
 clear h hl hw q N
 have Hd:=Z2 hd
 clear hd r
 go_enter Tryz.func129,Tryz.ntmps129
 go_wp2_with fail
 go_loopw [10] (fun v wr=>∃(i:Nat) (s:Tags),i<=4/\v = .int .i64 (i:Int)/\DevAt wr s bd (D.writes 1 (4*n) ls i)/\Step w τ wr s DevTag) (fun v _=>4-(intOf v).toNat)
 case atStart=>exact⟨0,τ,Z9 _,rfl,Hd.out,Step.refl _ _ _⟩
 case round =>
  obtain⟨i,s,hi,rfl,hd,d⟩:=hrel
  have y:=a7.out.step d (Qls _ (.inl rfl))
  have z:=Hl.out.step d (fun g h=>Qls g (.inr h))
  have k:=Qkx y z
  by_cases a8:i<4
  ·obtain⟨p',c',X,_,hr⟩:=(Hw.out.step d hg Qay).read
   rw[H4.out] at X
   cases X
   obtain⟨x,Z⟩:∃x,ls[i]?=some x:=⟨_,Z3 (by rw[H4.out];exact a8)⟩
   obtain⟨j,b,u,rfl,hc,hb⟩:=hr i x Z
   have B:=Dev.writes_length D 1 (4*n) (by omega) ls i 1
   rw[R] at B
   have C:=Qey hd 1 (by omega) (4*n+i) (by rw[B];omega) hb j Qay (Dev.lim_mono (Dev.writes_lim U.out 1 (4*n) (by omega) ls i) (by omega))
   rw[show ((4*n+i:Nat):Int)=4*(n:Int)+(i:Int) by omega] at C
   have l:D.writes 1 (4*n) ls (i+1)=(D.writes 1 (4*n) ls i).write 1 (4*n+i) x:=by
    show (D.writes 1 (4*n) ls i).write 1 (4*n+i) (ls.getD i [])=_
    rw[Z5,Z];rfl
   generalize D.writes 1 (4*n) ls i=E at *
   obtain⟨pb,kb,rfl,-,-⟩:=hb.any
   obtain⟨Hd,F,m,ab,G,Hx,Hx128⟩:=hid7 hd d k C l Z j
   clear hd d k C l Z j hr hb y z B
   go_wp2_with fail
   refine m.out.mono ?_
   rintro e w1 ⟨rfl,rfl⟩
   go_wp2_with fail
   refine ab.out.mono ?_
   rintro e w2 ⟨rfl,I,o,p⟩
   obtain⟨J,M⟩:=hid2 o p
   clear o p
   go_wp2_with fail
   go_round
   case rel=>exact⟨i+1,I,by omega,by simp,by rw[G.out];exact J.out,F.out.trans M.out⟩
   case measure=>simp[intOf];omega
  ·obtain rfl:i=4:=by omega
   have Y:=Qhr hd 1 (by omega)
   obtain⟨m,F,ac⟩:=hid3 k d Y
   clear k d Y hd y z
   go_wp2_with fail
   refine m.out.mono ?_
   rintro e w1 ⟨rfl,rfl⟩
   go_wp2_with fail
   refine ac.out.mono ?_
   rintro e w2 ⟨rfl,I,o,p⟩
   obtain⟨J,M⟩:=hid2 o p
   clear o p
   go_wp2_with fail
   go_returns
   exact⟨rfl,I,J.out,F.out.trans M.out⟩
theorem Qt3 (w:World) (x:Int):Calls Tryz.prog 281 #[.int .i64 x] w fun e b=>e = .returned (.bool false)/\w=b:=by
 go_enter Tryz.func281,Tryz.ntmps281
 go_wp2_with fail
 go_ret
 exact⟨rfl,rfl⟩
theorem Qs3 (w:World) (x:Int):Calls Tryz.prog 244 #[.int .i64 x] w fun e b=>e = .returned (.bool false)/\w=b:=by
 go_enter Tryz.func244,Tryz.ntmps244
 go_wp2_with fail
 go_ret
 exact⟨rfl,rfl⟩
theorem Qv7 (w:World) (x y:Int):Calls Tryz.prog 243 #[.int .i64 x,.int .i64 y] w fun e b=>e = .returned (.bool (decide (x<y)))/\w=b:=by
 have h1:=Qt3 w x
 have d:=Z2 h1
 clear h1
 go_enter Tryz.func243,Tryz.ntmps243
 go_wp2_with fail
 refine d.out.mono ?_
 rintro e b ⟨rfl,rfl⟩
 go_wp2_with fail
 go_ret
 exact⟨rfl,rfl⟩
structure Found (l:List Nat) (x r:Nat) (f:Bool):Prop where
 le:r<=l.length
 lo:∀j,j<r->l.getD j 0<x
 hi:∀j,r<=j->j<l.length->x<=l.getD j 0
 is:f=decide (r<l.length/\l.getD r 0=x)
theorem Qrq {p:Option Addr} {c:Nat} {l:List Nat}(hr:Qm6 l) (O:∀i,i<l.length->∃b,p=some ⟨b,0,none⟩/\w.cell? ⟨b,i,none⟩=some (.int .i64 ((l.getD i 0:Nat):Int))) (hn:l.length<=1000000) (x:Nat) :
 Calls Tryz.prog 164 #[.slice p l.length c,.int .i64 (x:Int)] w fun e w'=>(∃(r:Nat) (f:Bool),e = .returned (.tuple #[.int .i64 (r:Int),.bool f])/\Found l x r f)/\w=w':=by
 have R:=fun (a b:Int)=>Qv7 w a b
 have U:=fun (a:Int)=>Qs3 w a
 have B:∀i j,i<=j->j<l.length->l.getD i 0<=l.getD j 0:=fun i j aa hj=>by
  rcases Nat.lt_or_ge i j with h|h
  ·exact Nat.le_of_lt (hr i j h hj)
  ·have:i=j:=by omega
   rw[this];exact Z0 _
 generalize X:l.length=n at *
 obtain⟨Y,ab,ac,C,o⟩:=hid5 O R U B X
 clear O R U B X hr
 go_enter Tryz.func164,Tryz.ntmps164
 go_wp2_with fail
 go_loopw [7,8] (fun a v wr=>∃(i j:Nat),i<=j/\j<=n/\a = .int .i64 (i:Int)/\v = .int .i64 (j:Int)/\(∀k,k<i->l.getD k 0<x)/\(∀k,j<=k->k<n->x<=l.getD k 0)/\wr=w) (fun a v _=>(intOf v).toNat-(intOf a).toNat)
 case atStart=>exact⟨0,n,Z9 _,Z0 _,rfl,rfl,fun k hk=>by omega,fun k h1 h2=>by omega,rfl⟩
 case round =>
  obtain⟨i,j,aa,I,rfl,rfl,d,m,rfl⟩:=hrel
  by_cases hlt:i<j
  ·have hh1:i<=(i+j)/2:=by omega
   have hh2:(i+j)/2<j:=by omega
   have hhh:((i:Int)+(j:Int))/2=(((i+j)/2:Nat):Int):=by omega
   obtain⟨b,rfl,J⟩:=Y.out ((i+j)/2) (by omega)
   have N:=ab.out ((l.getD ((i+j)/2) 0:Nat):Int) (x:Int)
   have E:=fun k (hk:k<=(i+j)/2)=>C.out k ((i+j)/2) hk (by omega)
   have F:=fun k (hk:(i+j)/2<=k) (ad:k<n)=>C.out ((i+j)/2) k hk ad
   generalize hh:(i+j)/2=h at *
   generalize hy:l.getD h 0=y at *
   by_cases L:y<x
   ·have q:(y:Int)<(x:Int):=by omega
    rw[decide_eq_true q] at N
    obtain⟨Hc,s,z,Z,a1⟩:=hid5 N d m E F
    clear N d m E F
    go_wp2_with fail
    refine Hc.out.mono ?_
    rintro e w' ⟨rfl,rfl⟩
    go_wp2_with fail
    go_round
    case rel=>exact⟨h+1,j,by omega,by omega,by simp,rfl,fun k hk=>by have:=Z.out k (by omega);omega,z.out,trivial⟩
    case measure=>simp[intOf];omega
   ·have q:¬(y:Int)<(x:Int):=by omega
    rw[decide_eq_false q] at N
    obtain⟨Hc,s,z,Z,a1⟩:=hid5 N d m E F
    clear N d m E F
    go_wp2_with fail
    refine Hc.out.mono ?_
    rintro e w' ⟨rfl,rfl⟩
    go_wp2_with fail
    go_round
    case rel=>exact⟨i,h,by omega,by omega,rfl,rfl,s.out,fun k h1 h2=>by have:=a1.out k h1 h2;omega,trivial⟩
    case measure=>simp[intOf];omega
  ·have a6:i=j:=by omega
   subst a6
   by_cases M:i<n
   ·obtain⟨b,rfl,J⟩:=Y.out i M
    have G:=ac.out ((l.getD i 0:Nat):Int)
    generalize hy:l.getD i 0=y at *
    by_cases L:y=x
    ·subst L
     obtain⟨a7,s,z⟩:=hid3 G d m
     clear G d m
     go_wp2_with fail
     go_returns
     exact⟨⟨i,true,rfl,⟨by rw[o.out];exact I,s.out,fun k h1 h2=>z.out k h1 (by rw[<-o.out];exact h2),by rw[o.out,decide_eq_true ⟨M,hy⟩]⟩⟩,rfl⟩
    ·have q:¬(y:Int)=(x:Int):=by omega
     obtain⟨a7,s,z⟩:=hid3 G d m
     clear G d m
     go_wp2_with fail
     refine a7.out.mono ?_
     rintro e w' ⟨rfl,rfl⟩
     go_wp2_with fail
     go_returns
     exact⟨⟨i,false,by first|rfl|simp[q],⟨by rw[o.out];exact I,s.out,fun k h1 h2=>z.out k h1 (by rw[<-o.out];exact h2),by rw[o.out,decide_eq_false (fun h=>L (hy▸h.2))]⟩⟩,rfl⟩
   ·obtain⟨s,z⟩:=hid2 d m
    clear d m
    go_wp2_with fail
    go_returns
    exact⟨⟨i,false,rfl,⟨by rw[o.out];exact I,s.out,fun k h1 h2=>z.out k h1 (by rw[<-o.out];exact h2),by rw[o.out,decide_eq_false (fun h=>M h.1)]⟩⟩,rfl⟩
structure LogM.Rise (L:LogM):Prop where
 rise:Qm6 L.starts
 low:∀s∈L.starts,s<L.stream.length
structure LogM.AtR (L:LogM) (lsn k:Nat) (f:Bool):Prop where
 before:lsn<L.base->k=0/\f=false
 behind:L.base<=lsn->L.base+L.stream.length<=lsn->k=L.starts.length/\f=false
 within:L.base<=lsn->lsn<L.base+L.stream.length->Found L.starts (lsn-L.base) k f
theorem Qbr (n:Nat) (h:n<9223372036854775808):IntKind.i64.wrap (n:Int)=(n:Int):=by
 unfold IntKind.wrap
 simp[IntKind.bits,IntKind.signed]
 omega
theorem Qos {L:LogM}(h:LogAt w τ bl bd L) (hr:L.Rise) (lsn:Nat) (hl:lsn<18446744073709551616) :
 Calls Tryz.prog 98 #[.pointer (some ⟨bl,0,none⟩),.int .u64 (lsn:Int)] w fun e w'=>(∃(k:Nat) (f:Bool),e = .returned (.tuple #[.int .i64 (k:Int),.bool f])/\L.AtR lsn k f)/\Step w τ w' τ nil:=by
 have d:=Ql3 h
 obtain⟨vs,vt,y,Y,E⟩:=h.is
 have c1:=y.at 1 (v:=.int .u64 (L.base:Int)) rfl
 obtain⟨p,c,rfl,hmx,l⟩:=Ints.read (g:=Qag) E
 have c8:=y.at 8 (v:=.slice p L.starts.length c) rfl
 have hb:=h.ok.base
 have hsl:=h.ok.stream
 have Z:=h.ok.starts
 by_cases h1:lsn<L.base
 ·have a1:(lsn:Int)<(L.base:Int):=by omega
  have q:L.AtR lsn 0 false:=⟨fun _=>⟨rfl,rfl⟩,fun h=>absurd h (by omega),fun h=>absurd h (by omega)⟩
  generalize L.base=bs at *
  have F:=Z2 q
  clear q h y Y E d l c8
  go_enter Tryz.func98,Tryz.ntmps98
  go_wp2_with fail
  go_ret2
  exact⟨⟨0,false,rfl,F.out⟩,Step.refl _ _ _⟩
 ·have a1:¬(lsn:Int)<(L.base:Int):=by omega
  by_cases h2:L.base+L.stream.length<=lsn
  ·have q:L.AtR lsn L.starts.length false:=⟨fun h=>absurd h h1,fun _ _=>⟨rfl,rfl⟩,fun _ h=>absurd h (by omega)⟩
   have a7:((L.base+L.stream.length:Nat):Int)<=(lsn:Int):=by omega
   have s:=y
   generalize L.starts.length=m at *
   generalize L.base+L.stream.length=en at *
   generalize L.base=bs at *
   obtain⟨F,o,G⟩:=hid3 q d s
   clear q d s h y Y E l
   go_enter Tryz.func98,Tryz.ntmps98
   go_wp2_with fail
   refine o.out.mono ?_
   rintro e w1 ⟨rfl,j⟩
   have d8:=(G.out.step j (fun h=>h)).at 8 (v:=.slice p m c) rfl
   have z:=Z2 j
   clear j
   go_wp2_with fail
   go_ret2
   exact⟨⟨m,false,rfl,F.out⟩,z.out⟩
  ·have a7:¬((L.base+L.stream.length:Nat):Int)<=(lsn:Int):=by omega
   have hx:(lsn:Int)-(L.base:Int)=((lsn-L.base:Nat):Int):=by omega
   have hw1:=Qam (lsn-L.base) (by omega)
   have hw2:=Qbr (lsn-L.base) (by omega)
   have I:=fun (W:World) (hW:∀i,i<L.starts.length->∃b,p=some ⟨b,0,none⟩/\W.cell? ⟨b,i,none⟩=some (.int .i64 ((L.starts.getD i 0:Nat):Int)))=>Qrq (c:=c) hr.rise hW Z (lsn-L.base)
   have q:∀k f,Found L.starts (lsn-L.base) k f->L.AtR lsn k f:=fun k f X=>⟨fun h=>absurd h h1,fun _ h=>absurd h h2,fun _ _=>X⟩
   have q1:∀vt,(Qa8 L bd vs vt)[1]?=some (.int .u64 (L.base:Int)):=fun _=>rfl
   have B:L.base+L.stream.length=L.base+L.stream.length:=rfl
   generalize L.base+L.stream.length=en at *
   generalize J:lsn-L.base=x at *
   generalize L.base=bs at *
   have M:=(Step.refl w τ nil).drew
   generalize hm:L.starts.length=m at *
   obtain⟨F,o,a8,Hm,Hxx,Ho,Ht,N⟩:=hid8 q d I hm J y E q1
   clear q d I hm J y E q1 h Y l hr B M h2
   go_enter Tryz.func98,Tryz.ntmps98
   go_wp2_with fail
   refine o.out.mono ?_
   rintro e w1 ⟨rfl,j⟩
   have C:=Ho.out.step j.drew (fun h=>h)
   have d1:=C.at 1 (v:=.int .u64 (bs:Int)) (N.out _)
   have d8:=C.at 8 (v:=.slice p m c) rfl
   obtain⟨p',c',O,_,l⟩:=Ints.read (g:=Qag) ((show Ints w τ Qag _ L.starts by unfold Ints;rw[Hm.out];exact Ht.out).step j.drew (fun h=>h))
   rw[Hm.out] at O l
   cases O
   have R:=a8.out _ l
   obtain⟨z,aa⟩:=hid2 j R
   clear j R C l
   go_wp2_with fail
   go_region_law (first
    | (go_simp
       go_at_call 164
       refine aa.out.mono ?_
       rintro e w2 ⟨⟨r,f,rfl,X⟩,rfl⟩
       have U:=F.out r f X
       have ab:=Z2 U
       clear U
       clear X))
   all_goals go_wp2_with fail
   all_goals go_returns
   all_goals exact⟨⟨r,f,rfl,ab.out⟩,z.out.drew⟩
def LogM.firstS (L:LogM):Nat:=if L.area=0 then 2 else 2+L.strips
theorem Qiz {L:LogM}(h:LogAt w τ bl bd L) :
 Calls Tryz.prog 54 #[.pointer (some ⟨bl,0,none⟩),.int .i64 (L.area:Int)] w fun e j=>e = .returned (.int .i64 (L.firstS:Int))/\w=j:=by
 obtain⟨vs,vt,d,-,-⟩:=h.is
 have c5:=d.at 5 (v:=.int .i64 (L.strips:Int)) rfl
 have hs:=h.ok.strips
 have ha:=h.ok.area
 obtain⟨m,i⟩:∃m,2+L.strips=m:=⟨_,rfl⟩
 have h2:2+(L.strips:Int)=(m:Int):=by omega
 have b:=fun (W:World)=>Qli W (.int .i64 2) (.int .i64 (m:Int))
 have hi0:=fun W=>(b W).1
 have hi1:=fun W=>(b W).2
 have e:L.area=0\/L.area=1:=by omega
 unfold LogM.firstS
 rw[i]
 generalize L.strips=k at *
 generalize L.area=a at *
 clear h d b i
 rcases e with rfl|rfl
 ·go_enter Tryz.func54,Tryz.ntmps54
  go_wp2_with fail
  go_ret
  exact⟨rfl,rfl⟩
 ·go_enter Tryz.func54,Tryz.ntmps54
  go_wp2_with fail
  go_ret
  exact⟨rfl,rfl⟩
def LogM.behindK (L:LogM) (k:Nat):Nat:=if k+1<L.starts.length then L.starts.getD (k+1) 0 else L.stream.length
theorem Qho {L:LogM}(h:LogAt w τ bl bd L) (k:Nat) (hk:k<=1000000) :
 Calls Tryz.prog 99 #[.pointer (some ⟨bl,0,none⟩),.int .i64 (k:Int)] w fun e q=>e = .returned (.int .i64 (L.behindK k:Int))/\w=q:=by
 obtain⟨vs,vt,i,j,l⟩:=h.is
 have hsl:=h.ok.stream
 have hst:=h.ok.starts
 obtain⟨p,c,rfl,hmx,d⟩:=Ints.read (g:=Qag) l
 obtain⟨ps,cs,rfl⟩:=j.len
 have c8:=i.at 8 (v:=.slice p L.starts.length c) rfl
 have c7:=i.at 7 (v:=.slice ps L.stream.length cs) rfl
 unfold LogM.behindK
 by_cases h1:k+1<L.starts.length
 ·rw[if_pos h1]
  obtain⟨b,rfl,hcell⟩:=d (k+1) h1
  have o:(k:Int)+1<(L.starts.length:Int):=by omega
  have h2:((k:Int)+1).toNat=k+1:=by omega
  have h3:(0:Int)<=(k:Int)+1:=by omega
  generalize L.starts.getD (k+1) 0=y at *
  generalize L.starts.length=m at *
  clear h i j l d
  go_enter Tryz.func99,Tryz.ntmps99
  go_wp2_with fail
  go_ret
  exact⟨rfl,rfl⟩
 ·rw[if_neg h1]
  have o:¬(k:Int)+1<(L.starts.length:Int):=by omega
  generalize L.stream.length=y at *
  generalize L.starts.length=m at *
  clear h i j l d
  go_enter Tryz.func99,Tryz.ntmps99
  go_wp2_with fail
  go_ret
  exact⟨rfl,rfl⟩
def LogM.flushTo (L:LogM) (k:Nat):Nat:=L.behindK (k-1)
def Qdp (L:LogM) (k:Nat):List (List Int):=(Qeg (L.stream.take (L.flushTo k))).drop (L.lasts/127)
def LogM.flushed (L:LogM) (k:Nat):LogM:={L with lasts:=L.flushTo k}
def Qdq (L:LogM) (D:Dev) (k:Nat):Dev:=D.lay 0 (L.firstS+L.lasts/127) (Qdp L k)
theorem LogM.behindK_le {L:LogM}(b:L.Rise) (k:Nat):L.behindK k<=L.stream.length:=by
 unfold LogM.behindK
 by_cases h:k+1<L.starts.length
 ·rw[if_pos h]
  have:=b.low (L.starts.getD (k+1) 0) (by
   rw[Z5,Z3 h]
   exact List.getElem_mem _)
  omega
 ·rw[if_neg h];exact Z0 _
theorem Qdx (st:List Int):(Qeg st).length=parts st.length 127:=by simp[Qeg,Quz]
theorem Qd9 (L:LogM) (b:L.Rise) (k:Nat):(Qdp L k).length=parts (L.flushTo k) 127-L.lasts/127:=by
 unfold Qdp
 rw[List.length_drop,Qdx,List.length_take]
 have:=LogM.behindK_le b (k-1)
 have e:min (L.flushTo k) L.stream.length=L.flushTo k:=Nat.min_eq_left this
 rw[e]
theorem LogM.ok.flushed {L:LogM}(h:L.ok) (b:L.Rise) (k:Nat):(L.flushed k).ok :=
 ⟨h.stamp,h.base,h.check,h.area,h.strips,h.slot,h.stream,h.starts,LogM.behindK_le b (k-1)⟩
def Qbj (L:LogM) (k:Nat):Bool:=decide (k≠0/\L.lasts<L.flushTo k)
def FlushR (w:World) (τ:Tags) (bl bd:Nat) (L:LogM) (D:Dev) (k:Nat) (w':World):Prop :=
 ∃τ',LogAt w' τ' bl bd (if Qbj L k=true then L.flushed k else L)/\DevAt w' τ' bd (if Qbj L k=true then Qdq L D k else D)/\Step w τ w' τ' WalTag
theorem FlushR.no {d:World} {b:Tags} {L:LogM} {k:Nat}(h:Qbj L k=false) (hl:LogAt d b bl bd L) (hd:DevAt d b bd D) (e:Step w τ d b nil):FlushR w τ bl bd L D k d :=
 ⟨b,by rw[h,if_neg (by simp)];exact hl,by rw[h,if_neg (by simp)];exact hd,e.mono (fun _ h=>h.elim)⟩
theorem FlushR.yes {d:World} {b:Tags} {L:LogM} {k:Nat}(h:Qbj L k=true) (hl:LogAt d b bl bd (L.flushed k)) (hd:DevAt d b bd (Qdq L D k)) (e:Step w τ d b WalTag):FlushR w τ bl bd L D k d :=
 ⟨b,by rw[if_pos h];exact hl,by rw[if_pos h];exact hd,e⟩
theorem Qsn {l:List (List Int)} {f i:Nat} {x:List Int}(h:(l.drop f)[i]?=some x):l[f+i]?=some x:=by
 rw[List.getElem?_drop] at h;exact h
theorem Qd5 (x:Int) (h0:0<=x) (h:x<=100000):IntKind.i64.wrap x=x:=by
 obtain⟨n,rfl⟩:∃n:Nat,x=(n:Int):=⟨x.toNat,by omega⟩
 exact Qbr n (by omega)
theorem Qor {L:LogM}(hl:LogAt w τ bl bd L) (hd:DevAt w τ bd D) (hr:L.Rise) (cn:L.stream.length<=127*L.strips) (co:L.firstS+L.strips<=D.f0.length) (cp:D.lim 700000) (lsn:Nat) (eg:lsn<18446744073709551616) :
 Calls Tryz.prog 38 #[.pointer (some ⟨bl,0,none⟩),.int .u64 (lsn:Int)] w fun e w'=>e = .returned (.tuple #[])/\∃(k:Nat) (f:Bool),L.AtR lsn k f/\FlushR w τ bl bd L D (k+(if f then 1 else 0)) w':=by
 have af:=Qos hl hr lsn eg
 have dz:=hd.length 0
 have cw:D.file 0=D.f0:=rfl
 rw[cw] at dz
 have bi:=hl.ok
 have hstr:=bi.strips
 have hssl:=bi.stream
 have hsts:=bi.starts
 have hlal:=bi.lasts
 obtain⟨aw,Hl,Hd,Hr,cq,e0,cr,ct⟩:=hid8 af hl hd hr cp bi cn co
 clear af hl hd hr cp bi cn co
 go_enter Tryz.func38,Tryz.ntmps38
 go_wp2_with fail
 refine aw.out.mono ?_
 rintro e w1 ⟨⟨k,f,rfl,af⟩,ci⟩
 have ei:k<=L.starts.length:=by
  rcases Nat.lt_or_ge lsn L.base with h|h
  ·have:=(af.before h).1;omega
  ·rcases Nat.lt_or_ge lsn (L.base+L.stream.length) with h2|h2
   ·exact(af.within h h2).le
   ·have:=(af.behind h h2).1;omega
 have e1:=Hl.out.step ci (fun _ _ h=>h)
 have e2:=Hd.out.step ci (fun _ h=>h.elim)
 obtain⟨aw,bk,z,bm⟩:=hid4 af ci e1 e2
 clear af ci e1 e2
 cases f with
 | true =>
   obtain⟨K,bj⟩:∃K,k+1=K:=⟨_,rfl⟩
   have e5:(k:Int)+1=(K:Int):=by omega
   have hK1:k+1<=1000001:=by omega
   have ej:¬(K:Int)=0:=by omega
   obtain⟨J,hJ⟩:∃J,J+1=K:=⟨K-1,by omega⟩
   have ek:(K:Int)-1=(J:Int):=by omega
   have N:=Qho z.out J (by omega)
   have ax:=LogM.behindK_le Hr.out J
   have O:L.flushTo K=L.behindK J:=by unfold LogM.flushTo;rw[show K-1=J by omega]
   rw[<-O] at N ax
   obtain⟨vs,vt,ay,ag,ah⟩:=z.out.is
   have c9:=ay.at 9 (v:=.int .i64 (L.lasts:Int)) rfl
   clear O
   obtain⟨az,ai,e6⟩:=hid3 ay ag ah
   clear ay ag ah
   by_cases em:L.flushTo K<=L.lasts
   ·have bn:(L.flushTo K:Int)<=(L.lasts:Int):=by omega
    have bo:Qbj L K=false:=decide_eq_false (fun h=>by have:=h.2;omega)
    generalize L.flushTo K=to at *
    generalize y:L.lasts=la at *
    obtain⟨b0,cx,cj⟩:=hid3 N bo y
    clear N bo y
    go_wp2_with fail
    refine b0.out.mono ?_
    rintro e w2 ⟨rfl,rfl⟩
    go_wp2_with fail
    go_returns
    exact⟨rfl,k,true,aw.out,by rw[show k+(if true=true then 1 else 0)=K from bj];exact FlushR.no cx.out z.out bm.out bk.out⟩
   ·have bn:¬(L.flushTo K:Int)<=(L.lasts:Int):=by omega
    have aj:Qbj L K=true:=decide_eq_true ⟨by omega,by omega⟩
    have R:=Qd9 L Hr.out K
    have bp:Qdq L D K=D.lay 0 (L.firstS+L.lasts/127) (Qdp L K):=rfl
    have ak:Qdp L K=(Qeg (L.stream.take (L.flushTo K))).drop (L.lasts/127):=rfl
    have al:=e0.out.flushed Hr.out K
    have U:=Qdx (L.stream.take (L.flushTo K))
    rw[List.length_take,Nat.min_eq_left ax] at U
    have en:L.lasts/127<parts (L.flushTo K) 127:=by unfold parts;omega
    have eo:parts (L.flushTo K) 127<=L.strips:=by unfold parts;have:=cr.out;omega
    obtain⟨bs,os,cs,rfl,e7,e8,-,-,-⟩:=(Buf.bytes ai.out z.out.isB).pos (by omega)
    have am:=Qvl (((Buf.bytes ai.out z.out.isB)).fst (L.flushTo K) ax) (by rw[List.length_take];omega)
    have c7:=az.out.at 7 (v:=.slice (some ⟨bs,os,none⟩) L.stream.length cs) rfl
    have c4:=az.out.at 4 (v:=.pointer (some ⟨bd,0,none⟩)) rfl
    have c3:=az.out.at 3 (v:=.int .i64 (L.area:Int)) rfl
    have hq:=ct.out
    have an:LogM.flushed L K={L with lasts:=L.flushTo K}:=rfl
    generalize O:L.flushTo K=to at *
    generalize bq:L.lasts/127=fr at *
    have e9:(L.lasts:Int)/127=(fr:Int):=by omega
    generalize hS:Qeg (L.stream.take to)=SA at *
    generalize hF:L.firstS=F at *
    generalize hm:parts to 127=m at *
    generalize br:Qdp L K=RW at *
    generalize bv:L.stream.length=sl at *
    generalize ao:L.lasts=la at *
    have h1:to<=cs:=by omega
    have h2:(to:Int)<=(cs:Int):=by omega
    obtain⟨b0,bw,b1,cy,bz,c5,X,ap,c6,er,HS,HF⟩:=hid12 N aj R bp ak al U am an O hS hF
    obtain⟨Hm,ev,ew,ed,ey⟩:=hid5 hm br bv ao bq
    clear N aj R bp ak al U am an O hS hF hm br bv ao bq
    go_wp2_with fail
    refine b0.out.mono ?_
    rintro e w2 ⟨rfl,rfl⟩
    go_wp2_with fail
    refine ap.out.mono ?_
    rintro e w2 ⟨u,c8,rfl,aa,ab⟩
    obtain⟨pl,cl,hu,cz,d⟩:=aa.row.read
    rw[X.out] at hu cz
    subst hu
    obtain⟨x0,ca⟩:∃x,SA[0]?=some x:=⟨_,Z3 (by rw[X.out];omega)⟩
    obtain⟨_,bb,_,rfl,_,_⟩:=d 0 x0 ca
    clear d ca
    have fa:m<=cl/\cl<=maxLen:=by
     obtain⟨xs,⟨da,b2⟩,-⟩:=aa.row.buf
     rcases b2 with ⟨b2,_⟩|⟨b3,cap,ys,db,_,fb,fc,dc⟩
     ·cases b2
     ·cases db
      rw[X.out] at da
      exact⟨by omega,dc⟩
    have f1:fr<=m:=by omega
    have f2:(fr:Int)<=(m:Int):=by omega
    have f3:¬fr=cl:=by omega
    have f4:¬cl=fr:=by omega
    have f5:(fr:Int)<=(cl:Int):=by omega
    have cb:=bm.out.step ab (fun _ h=>h.elim)
    have cc:=z.out.step ab (fun _ _ h=>h)
    obtain⟨dd,de,df,dh⟩:=hid4 aa ab cb cc
    clear aa ab cb cc ap
    go_wp2_with fail
    obtain⟨q,ac⟩:∃q,m-fr=q:=⟨_,rfl⟩
    rw[ac]
    have cd:RW.length=q:=by rw[<-ac];exact b1.out
    have fe:fr+q=m:=by omega
    obtain⟨ff,ce⟩:=hid2 ac cd
    clear ac cd
    go_loopw [46] (fun v wr=>∃(i:Nat) (B:Tags),i<=q/\v = .int .i64 (i:Int)/\DevAt wr B bd (D.writes 0 (F+fr) RW i)/\Step w2 c8 wr B DevTag) (fun v _=>q-(intOf v).toNat)
    case atStart=>exact⟨0,c8,Z9 _,rfl,df.out,Step.refl _ _ _⟩
    case round =>
     obtain⟨i,B,hi,rfl,hd,C⟩:=hrel
     have p:=dh.out.step C Qau
     by_cases di:i<q
     ·obtain⟨x,hx⟩:∃x,RW[i]?=some x:=⟨_,Z3 (by rw[ce.out];exact di)⟩
      have b4:SA[fr+i]?=some x:=Qsn (by rw[<-bz.out];exact hx)
      obtain⟨p',c',dj,_,d⟩:=(dd.out.row.step C (by simp[DevTag,tOut]) Qay).read
      cases dj
      obtain⟨r,b,u,hb,hc,b5⟩:=d (fr+i) x b4
      cases hb
      clear d
      have b6:=Qiz (p.step (Step.refl wr B nil).drew (fun _ _ h=>h))
      rw[HF.out] at b6
      have b7:=Dev.writes_length D 0 (F+fr) (by omega) RW i 0
      rw[cw] at b7
      have b8:=Qey (hd.step (Step.refl wr B nil).drew (fun _ h=>h.elim)) 0 (by omega) (F+fr+i) (by rw[b7];omega) b5.drew r Qay (Dev.lim_mono (Dev.writes_lim cq.out 0 (F+fr) (by omega) RW i) (by omega))
      rw[show ((F+fr+i:Nat):Int)=(F:Int)+(fr:Int)+(i:Int) by omega] at b8
      have Y:D.writes 0 (F+fr) RW (i+1)=(D.writes 0 (F+fr) RW i).write 0 (F+fr+i) x:=by
       show (D.writes 0 (F+fr) RW i).write 0 (F+fr+i) (RW.getD i [])=_
       rw[Z5,hx];rfl
      obtain⟨dk,dl,G,-,-⟩:=p.is
      have d4:=G.drew.at 4 (v:=.pointer (some ⟨bd,0,none⟩)) rfl
      have d3:=G.drew.at 3 (v:=.int .i64 (L.area:Int)) rfl
      have a0:(F:Int)+(fr:Int)<=4096:=by omega
      have a1:(F:Int)+(fr:Int)+(i:Int)<=4096:=by omega
      have w1:=Qd5 ((F:Int)+(fr:Int)) (by omega) (by omega)
      have w2:=Qd5 ((F:Int)+(fr:Int)+(i:Int)) (by omega) (by omega)
      generalize D.writes 0 (F+fr) RW i=E at *
      obtain⟨pb,kb,rfl,-,-⟩:=b5.any
      obtain⟨Hd,b9,dm,dn,ba,Hx,fh,dp,bc⟩:=hid9 hd C b6 b8 Y hx b4 r p
      clear hd C b6 b8 Y hx b4 r p b5 b7 G
      go_wp2_with fail
      go_region_held3 (fun w'=>w'.cell? ⟨bl,4,none⟩=some (.pointer (some ⟨bd,0,none⟩))/\w'.cell? ⟨bl,3,none⟩=some (.int .i64 (L.area:Int))) (go_keep) (first
       | (go_at_call 54
          refine dm.out.mono ?_
          rintro e w3 ⟨rfl,rfl⟩)
       | (go_at_call 100
          refine dn.out.mono ?_
          rintro e w4 ⟨rfl,I,Z,s⟩
          have M:=(bc.out.step (Step.refl wr B nil).drew (fun _ _ h=>h)).step s Qau
          obtain⟨ad,ae,j,-,-⟩:=M.is
          have e4:=j.at 4 (v:=.pointer (some ⟨bd,0,none⟩)) rfl
          have e3:=j.at 3 (v:=.int .i64 (L.area:Int)) rfl
          obtain⟨dq,dr⟩:=hid2 Z s
          clear Z s
          clear j M))
      go_wp2_with fail
      go_round
      case rel=>exact⟨i+1,I,by omega,by simp,by rw[ba.out];exact dq.out,b9.out.drew.trans dr.out⟩
      case measure=>simp[intOf];omega
     ·obtain rfl:i=q:=by omega
      have cg:=Qhr hd 0 (by omega)
      obtain⟨dk,dl,G,-,-⟩:=p.is
      have d4:=G.at 4 (v:=.pointer (some ⟨bd,0,none⟩)) rfl
      have a6:Qdq L D K=(D.writes 0 (F+fr) RW i).sync 0:=by rw[cy.out];unfold Dev.lay;rw[ce.out]
      obtain⟨b9,ds,bc,be⟩:=hid4 C cg p a6
      clear C cg p a6 hd G
      go_wp2_with fail
      refine ds.out.mono ?_
      rintro e w4 ⟨rfl,I,Z,s⟩
      have M:=bc.out.step s Qau
      have dt:=M.isB
      obtain⟨ad,ae,j,aq,ar⟩:=M.is
      have k9:=j.at 9 (v:=.int .i64 (L.lasts:Int)) rfl
      have z9:=j.fz 9
      have bf:=j.set 9 (.int .i64 (to:Int))
      have av:(Qa8 L bd ad ae).set 9 (.int .i64 (to:Int))=Qa8 (LogM.flushed L K) bd ad ae:=by rw[c6.out];rfl
      rw[av] at bf
      have l:Step w4 I (w4.setCell ⟨bl,9,none⟩ (.int .i64 (to:Int))) I (fun g=>g=tLog):=(Step.refl w4 I (fun g=>g=tLog)).set (o:=9) j.tag rfl _
      have ch:LogAt (w4.setCell ⟨bl,9,none⟩ (.int .i64 (to:Int))) I bl bd (LogM.flushed L K) :=
       ⟨⟨ad,ae,bf,by have:=aq.step l (by simp[Qah,tLog]);exact this,by have:=ar.step l (by simp[Qag,tLog]);exact this⟩,dt,c5.out⟩
      have bg:=Z.step l (fun g hg=>by subst hg;exact⟨Qau _ (.inl rfl),by simp[tLog,tData]⟩)
      have a7:=((bk.out.mono (T:=WalTag) (fun _ h=>h.elim)).trans (de.out.mono (T:=WalTag) (fun _ h=>h.elim))).trans ((b9.out.mono (T:=WalTag) (fun _ h=>.inr h)).trans ((s.mono (T:=WalTag) (fun _ h=>.inr h)).trans (l.mono (T:=WalTag) (fun g hg=>.inl (.inl hg)))))
      rw[<-be.out] at bg
      obtain⟨dw,dx,bh⟩:=hid3 ch bg a7
      clear ch bg a7 j aq ar bf av l M Z s
      go_wp2_with fail
      go_returns
      exact⟨rfl,k,true,aw.out,by rw[show k+(if true=true then 1 else 0)=K from bj];exact FlushR.yes bw.out dw.out dx.out bh.out⟩
 | false =>
   by_cases ee:k=0
   ·subst ee
    go_wp2_with fail
    go_returns
    exact⟨rfl,0,false,aw.out,FlushR.no (by rfl) z.out bm.out bk.out⟩
   ·obtain⟨K,bj⟩:∃K,k=K:=⟨_,rfl⟩
    rw[bj] at ee ei
    have e5:(k:Int)=(K:Int):=by omega
    rw[e5]
    have ej:¬(K:Int)=0:=by omega
    obtain⟨J,hJ⟩:∃J,J+1=K:=⟨K-1,by omega⟩
    have ek:(K:Int)-1=(J:Int):=by omega
    have N:=Qho z.out J (by omega)
    have ax:=LogM.behindK_le Hr.out J
    have O:L.flushTo K=L.behindK J:=by unfold LogM.flushTo;rw[show K-1=J by omega]
    rw[<-O] at N ax
    obtain⟨vs,vt,ay,ag,ah⟩:=z.out.is
    have c9:=ay.at 9 (v:=.int .i64 (L.lasts:Int)) rfl
    clear O
    obtain⟨az,ai,e6⟩:=hid3 ay ag ah
    clear ay ag ah
    by_cases em:L.flushTo K<=L.lasts
    ·have bn:(L.flushTo K:Int)<=(L.lasts:Int):=by omega
     have bo:Qbj L K=false:=decide_eq_false (fun h=>by have:=h.2;omega)
     generalize L.flushTo K=to at *
     generalize y:L.lasts=la at *
     obtain⟨b0,cx,cj⟩:=hid3 N bo y
     clear N bo y
     go_wp2_with fail
     refine b0.out.mono ?_
     rintro e w2 ⟨rfl,rfl⟩
     go_wp2_with fail
     go_returns
     exact⟨rfl,k,false,aw.out,by rw[show k+(if false=true then 1 else 0)=K from bj];exact FlushR.no cx.out z.out bm.out bk.out⟩
    ·have bn:¬(L.flushTo K:Int)<=(L.lasts:Int):=by omega
     have aj:Qbj L K=true:=decide_eq_true ⟨by omega,by omega⟩
     have R:=Qd9 L Hr.out K
     have bp:Qdq L D K=D.lay 0 (L.firstS+L.lasts/127) (Qdp L K):=rfl
     have ak:Qdp L K=(Qeg (L.stream.take (L.flushTo K))).drop (L.lasts/127):=rfl
     have al:=e0.out.flushed Hr.out K
     have U:=Qdx (L.stream.take (L.flushTo K))
     rw[List.length_take,Nat.min_eq_left ax] at U
     have en:L.lasts/127<parts (L.flushTo K) 127:=by unfold parts;omega
     have eo:parts (L.flushTo K) 127<=L.strips:=by unfold parts;have:=cr.out;omega
     obtain⟨bs,os,cs,rfl,e7,e8,-,-,-⟩:=(Buf.bytes ai.out z.out.isB).pos (by omega)
     have am:=Qvl (((Buf.bytes ai.out z.out.isB)).fst (L.flushTo K) ax) (by rw[List.length_take];omega)
     have c7:=az.out.at 7 (v:=.slice (some ⟨bs,os,none⟩) L.stream.length cs) rfl
     have c4:=az.out.at 4 (v:=.pointer (some ⟨bd,0,none⟩)) rfl
     have c3:=az.out.at 3 (v:=.int .i64 (L.area:Int)) rfl
     have hq:=ct.out
     have an:LogM.flushed L K={L with lasts:=L.flushTo K}:=rfl
     generalize O:L.flushTo K=to at *
     generalize bq:L.lasts/127=fr at *
     have e9:(L.lasts:Int)/127=(fr:Int):=by omega
     generalize hS:Qeg (L.stream.take to)=SA at *
     generalize hF:L.firstS=F at *
     generalize hm:parts to 127=m at *
     generalize br:Qdp L K=RW at *
     generalize bv:L.stream.length=sl at *
     generalize ao:L.lasts=la at *
     have h1:to<=cs:=by omega
     have h2:(to:Int)<=(cs:Int):=by omega
     obtain⟨b0,bw,b1,cy,bz,c5,X,ap,c6,er,HS,HF⟩:=hid12 N aj R bp ak al U am an O hS hF
     obtain⟨Hm,ev,ew,ed,ey⟩:=hid5 hm br bv ao bq
     clear N aj R bp ak al U am an O hS hF hm br bv ao bq
     go_wp2_with fail
     refine b0.out.mono ?_
     rintro e w2 ⟨rfl,rfl⟩
     go_wp2_with fail
     refine ap.out.mono ?_
     rintro e w2 ⟨u,c8,rfl,aa,ab⟩
     obtain⟨pl,cl,hu,cz,d⟩:=aa.row.read
     rw[X.out] at hu cz
     subst hu
     obtain⟨x0,ca⟩:∃x,SA[0]?=some x:=⟨_,Z3 (by rw[X.out];omega)⟩
     obtain⟨_,bb,_,rfl,_,_⟩:=d 0 x0 ca
     clear d ca
     have fa:m<=cl/\cl<=maxLen:=by
      obtain⟨xs,⟨da,b2⟩,-⟩:=aa.row.buf
      rcases b2 with ⟨b2,_⟩|⟨b3,cap,ys,db,_,fb,fc,dc⟩
      ·cases b2
      ·cases db
       rw[X.out] at da
       exact⟨by omega,dc⟩
     have f1:fr<=m:=by omega
     have f2:(fr:Int)<=(m:Int):=by omega
     have f3:¬fr=cl:=by omega
     have f4:¬cl=fr:=by omega
     have f5:(fr:Int)<=(cl:Int):=by omega
     have cb:=bm.out.step ab (fun _ h=>h.elim)
     have cc:=z.out.step ab (fun _ _ h=>h)
     obtain⟨dd,de,df,dh⟩:=hid4 aa ab cb cc
     clear aa ab cb cc ap
     go_wp2_with fail
     obtain⟨q,ac⟩:∃q,m-fr=q:=⟨_,rfl⟩
     rw[ac]
     have cd:RW.length=q:=by rw[<-ac];exact b1.out
     have fe:fr+q=m:=by omega
     obtain⟨ff,ce⟩:=hid2 ac cd
     clear ac cd
     go_loopw [46] (fun v wr=>∃(i:Nat) (B:Tags),i<=q/\v = .int .i64 (i:Int)/\DevAt wr B bd (D.writes 0 (F+fr) RW i)/\Step w2 c8 wr B DevTag) (fun v _=>q-(intOf v).toNat)
     case atStart=>exact⟨0,c8,Z9 _,rfl,df.out,Step.refl _ _ _⟩
     case round =>
      obtain⟨i,B,hi,rfl,hd,C⟩:=hrel
      have p:=dh.out.step C Qau
      by_cases di:i<q
      ·obtain⟨x,hx⟩:∃x,RW[i]?=some x:=⟨_,Z3 (by rw[ce.out];exact di)⟩
       have b4:SA[fr+i]?=some x:=Qsn (by rw[<-bz.out];exact hx)
       obtain⟨p',c',dj,_,d⟩:=(dd.out.row.step C (by simp[DevTag,tOut]) Qay).read
       cases dj
       obtain⟨r,b,u,hb,hc,b5⟩:=d (fr+i) x b4
       cases hb
       clear d
       have b6:=Qiz (p.step (Step.refl wr B nil).drew (fun _ _ h=>h))
       rw[HF.out] at b6
       have b7:=Dev.writes_length D 0 (F+fr) (by omega) RW i 0
       rw[cw] at b7
       have b8:=Qey (hd.step (Step.refl wr B nil).drew (fun _ h=>h.elim)) 0 (by omega) (F+fr+i) (by rw[b7];omega) b5.drew r Qay (Dev.lim_mono (Dev.writes_lim cq.out 0 (F+fr) (by omega) RW i) (by omega))
       rw[show ((F+fr+i:Nat):Int)=(F:Int)+(fr:Int)+(i:Int) by omega] at b8
       have Y:D.writes 0 (F+fr) RW (i+1)=(D.writes 0 (F+fr) RW i).write 0 (F+fr+i) x:=by
        show (D.writes 0 (F+fr) RW i).write 0 (F+fr+i) (RW.getD i [])=_
        rw[Z5,hx];rfl
       obtain⟨dk,dl,G,-,-⟩:=p.is
       have d4:=G.drew.at 4 (v:=.pointer (some ⟨bd,0,none⟩)) rfl
       have d3:=G.drew.at 3 (v:=.int .i64 (L.area:Int)) rfl
       have a0:(F:Int)+(fr:Int)<=4096:=by omega
       have a1:(F:Int)+(fr:Int)+(i:Int)<=4096:=by omega
       have w1:=Qd5 ((F:Int)+(fr:Int)) (by omega) (by omega)
       have w2:=Qd5 ((F:Int)+(fr:Int)+(i:Int)) (by omega) (by omega)
       generalize D.writes 0 (F+fr) RW i=E at *
       obtain⟨pb,kb,rfl,-,-⟩:=b5.any
       obtain⟨Hd,b9,dm,dn,ba,Hx,fh,dp,bc⟩:=hid9 hd C b6 b8 Y hx b4 r p
       clear hd C b6 b8 Y hx b4 r p b5 b7 G
       go_wp2_with fail
       go_region_held3 (fun w'=>w'.cell? ⟨bl,4,none⟩=some (.pointer (some ⟨bd,0,none⟩))/\w'.cell? ⟨bl,3,none⟩=some (.int .i64 (L.area:Int))) (go_keep) (first
        | (go_at_call 54
           refine dm.out.mono ?_
           rintro e w3 ⟨rfl,rfl⟩)
        | (go_at_call 100
           refine dn.out.mono ?_
           rintro e w4 ⟨rfl,I,Z,s⟩
           have M:=(bc.out.step (Step.refl wr B nil).drew (fun _ _ h=>h)).step s Qau
           obtain⟨ad,ae,j,-,-⟩:=M.is
           have e4:=j.at 4 (v:=.pointer (some ⟨bd,0,none⟩)) rfl
           have e3:=j.at 3 (v:=.int .i64 (L.area:Int)) rfl
           obtain⟨dq,dr⟩:=hid2 Z s
           clear Z s
           clear j M))
       go_wp2_with fail
       go_round
       case rel=>exact⟨i+1,I,by omega,by simp,by rw[ba.out];exact dq.out,b9.out.drew.trans dr.out⟩
       case measure=>simp[intOf];omega
      ·obtain rfl:i=q:=by omega
       have cg:=Qhr hd 0 (by omega)
       obtain⟨dk,dl,G,-,-⟩:=p.is
       have d4:=G.at 4 (v:=.pointer (some ⟨bd,0,none⟩)) rfl
       have a6:Qdq L D K=(D.writes 0 (F+fr) RW i).sync 0:=by rw[cy.out];unfold Dev.lay;rw[ce.out]
       obtain⟨b9,ds,bc,be⟩:=hid4 C cg p a6
       clear C cg p a6 hd G
       go_wp2_with fail
       refine ds.out.mono ?_
       rintro e w4 ⟨rfl,I,Z,s⟩
       have M:=bc.out.step s Qau
       have dt:=M.isB
       obtain⟨ad,ae,j,aq,ar⟩:=M.is
       have k9:=j.at 9 (v:=.int .i64 (L.lasts:Int)) rfl
       have z9:=j.fz 9
       have bf:=j.set 9 (.int .i64 (to:Int))
       have av:(Qa8 L bd ad ae).set 9 (.int .i64 (to:Int))=Qa8 (LogM.flushed L K) bd ad ae:=by rw[c6.out];rfl
       rw[av] at bf
       have l:Step w4 I (w4.setCell ⟨bl,9,none⟩ (.int .i64 (to:Int))) I (fun g=>g=tLog):=(Step.refl w4 I (fun g=>g=tLog)).set (o:=9) j.tag rfl _
       have ch:LogAt (w4.setCell ⟨bl,9,none⟩ (.int .i64 (to:Int))) I bl bd (LogM.flushed L K) :=
        ⟨⟨ad,ae,bf,by have:=aq.step l (by simp[Qah,tLog]);exact this,by have:=ar.step l (by simp[Qag,tLog]);exact this⟩,dt,c5.out⟩
       have bg:=Z.step l (fun g hg=>by subst hg;exact⟨Qau _ (.inl rfl),by simp[tLog,tData]⟩)
       have a7:=((bk.out.mono (T:=WalTag) (fun _ h=>h.elim)).trans (de.out.mono (T:=WalTag) (fun _ h=>h.elim))).trans ((b9.out.mono (T:=WalTag) (fun _ h=>.inr h)).trans ((s.mono (T:=WalTag) (fun _ h=>.inr h)).trans (l.mono (T:=WalTag) (fun g hg=>.inl (.inl hg)))))
       rw[<-be.out] at bg
       obtain⟨dw,dx,bh⟩:=hid3 ch bg a7
       clear ch bg a7 j aq ar bf av l M Z s
       go_wp2_with fail
       go_returns
       exact⟨rfl,k,false,aw.out,by rw[show k+(if false=true then 1 else 0)=K from bj];exact FlushR.yes bw.out dw.out dx.out bh.out⟩
def tWr:Tag:=(95,0)
def tWb:Tag:=(96,0)
structure WrAt (n0:Nat) (w:World) (τ:Tags) (bw:Nat) (l:List Int):Prop where
 is:∃v,Own w τ bw tWr 262 [v]/\NB n0 w τ tWb v l
 low:n0<=bw
theorem WrAt.step {n0:Nat} {d:World} {b:Tags} {S:Tag->Prop} {e:Nat} {l:List Int}(h:WrAt n0 w τ e l) (m:Step w τ d b S) (h1:¬S tWr) (h2:¬S tWb):WrAt n0 d b e l:=by
 obtain⟨v,i,j⟩:=h.is
 exact⟨⟨v,i.step m h1,j.step m h2⟩,h.low⟩
theorem Qa4 {w0:World} {N:Tags} {E:Nat} {l:List Int}(O:Step w0 N w τ nil) (h:WrAt w0.heap.size w τ E l) (hsz:l.length<=100000) (n k:Nat) (hn:n<2 ^ 64) (h1:1<=k) (h8:k<=8) :
 Calls Tryz.prog 150 #[.pointer (some ⟨E,0,none⟩),.int .u64 (n:Int),.int .i64 (k:Int)] w fun e R=>e = .returned (.tuple #[])/\∃F,WrAt w0.heap.size R F E (l++leB n k)/\Step w0 N R F nil/\Step w τ R F (fun t=>t=tWr\/t=tWb):=by
 obtain⟨v,ho,hb⟩:=h.is
 have r:=h.low
 obtain⟨p,c,rfl⟩:=hb.val
 have c0:=ho.at 0 rfl
 have s:=Qeu w.drew τ tData n k hn h1 h8
 have U:=ho.drew
 have X:=hb.drew
 have x:=O.drew
 have Y:=(Step.refl w τ (fun t=>t=tWr\/t=tWb)).drew
 have Z:(leB n k).length=k:=Qaa n k
 generalize leB n k=m at *
 obtain⟨a1,ak,al,a6,am,an⟩:=hid6 s U X x Z Y
 clear s U X x Z Y h ho hb O hn
 go_enter Tryz.func150,Tryz.ntmps150
 go_wp2_with fail
 refine Qaf (S:=fun R:World=>R.cell? ⟨E,0,none⟩=some (.slice p l.length c)) (by kernel_rfl) ?_
 have ao:w.drew.cell? ⟨E,0,none⟩=some (.slice p l.length c):=c0
 refine tk0 [0,1,2,3,4,5,6] ?_
 iterate 7
  refine tks (v:=?_) rfl (Or.inl ⟨by rfl,?_⟩) (by assumption) ?_
  rotate_left
  ·intro w ap;(try dsimp only at ap);go_simp
   all_goals with_reducible rfl
  try simp only[Act.put,lz1,lz2,lz3]
 refine tk9 ?_
 clear ao
 refine tk1 7 rfl fun K d=>?_
 go_simp
 go_at_call 154
 refine a1.out.mono ?_
 rintro e w7 ⟨u7,τ7,rfl,G,a7,a8⟩
 have i:=Step.of nil a8 a7
 have I:=ak.out.step i (fun h=>h)
 have aa:=al.out.step i (fun h=>h)
 have y:=a6.out.trans i
 have ab:=an.out.trans (i.mono (fun _ h=>h.elim))
 have d0:=I.at 0 rfl
 obtain⟨p7,c7,rfl,-,-⟩:=G.any
 obtain⟨aq,ar,av,ac,aw⟩:=hid5 G I aa y ab
 clear G I aa y ab a7 a8 i
 refine d.out _ _ (fun _=>d0) ?_
 clear d K
 refine tk1 8 rfl fun K d=>?_
 refine Ql7 ac.out av.out aq.out (by rw[am.out];omega) rfl _ _ rfl rfl rfl ?_
 intro v8 w8 q J z L
 obtain⟨p8,c8,rfl⟩:=J.val
 have j:=ar.out.step L (by decide)
 have e0:=j.at 0 rfl
 have z0:=j.fz 0
 have B:=j.set 0 (.slice p8 (l++m).length c8)
 have C:=z.setNew (b:=E) (o:=0) r (.slice p8 (l++m).length c8)
 have M:Step w8 q (w8.setCell ⟨E,0,none⟩ (.slice p8 (l++m).length c8)) q (fun t=>t=tWr):=(Step.refl w8 q (fun t=>t=tWr)).set (o:=0) j.tag rfl _
 have ad:=J.step M (by decide)
 have ae:=(aw.out.trans (L.mono (T:=fun t=>t=tWr\/t=tWb) (fun _ h=>.inr h))).trans (M.mono (fun _ h=>.inl h))
 generalize (l++m).length=lm at *
 obtain⟨af,ag,b1,b2⟩:=hid4 B C ad ae
 clear B C ad ae j J z L M
 refine d.out _ _ (fun _=>e0) ?_
 clear d K
 refine tk1 9 rfl fun K d=>?_
 go_simp
 refine d.out _ _ (fun _=>e0) ?_
 clear d K
 refine tk1 10 rfl fun K d=>?_
 go_simp
 refine d.out _ _ (fun _=>e0) ?_
 clear d K
 refine tk1 11 rfl fun K d=>?_
 go_simp
 refine d.out _ _ (fun h=>absurd h (by decide +kernel)) ?_
 clear d K
 refine Qad (by kernel_rfl) ?_ _
 go_wp2_with fail
 go_returns
 exact⟨rfl,q,⟨⟨_,af.out,b1.out⟩,r⟩,ag.out,b2.out⟩
theorem Qgv (b ys:List Value) (off:Nat) (cs:List Value) (h:off+cs.length<=b.length):over (b++ys) off cs=over b off cs++ys:=by
 unfold over
 rw[List.take_append_of_le_length (by omega),List.drop_append_of_le_length h]
 simp only[X0]
theorem NB.row {n0:Nat} {g:Tag} {v:Value} {l:List Int}(h:NB n0 w τ g v l) (h0:0<l.length):∃b cap ys,v = .slice (some ⟨b,0,none⟩) l.length cap/\Own w τ b g 5 (u8s l++ys)/\cap<=l.length+ys.length/\l.length<=cap/\cap<=maxLen/\n0<=b:=by
 obtain⟨hx,⟨_,he⟩|⟨b,cap,ys,rfl,e,d,i,j⟩⟩:=h.buf
 ·omega
 ·rw[Qac,Nat.mul_one] at d
  exact⟨b,cap,ys,rfl,e,d,i,j,h.low b rfl⟩
theorem NB.mk' {n0:Nat} {g:Tag} {l:List Int} {b cap:Nat} {ys:List Value}(d:Own w τ b g 5 (u8s l++ys)) (e:IsB l) (h:cap<=l.length+ys.length) (h4:l.length<=cap) (i:cap<=maxLen) (hlow:n0<=b):NB n0 w τ g (.slice (some ⟨b,0,none⟩) l.length cap) l :=
 ⟨⟨by rw[Qac,Nat.mul_one],.inr ⟨b,cap,ys,rfl,d,by rw[Qac,Nat.mul_one];exact h,by omega,i⟩⟩,e,fun k hk=>by
   have:b=k:=by simpa [Value.ownBlock] using hk
   omega⟩
