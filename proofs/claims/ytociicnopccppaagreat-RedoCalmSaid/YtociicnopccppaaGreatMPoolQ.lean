/-
 Pools: load of a page that was written.
-/
import Derived.Test.YtociicnopccppaaGreatMPageS
import Derived.Test.YtociicnopccppaaGreatMSealD
set_option maxRecDepth 100000
set_option maxHeartbeats 4000000
set_option linter.all false
namespace Go.Proofs.YtociicnopccppaaGreat
variable {D:Dev}{bd bl bp:Nat}{g:Tag}{τ:qa1}
open Go.RowKit
theorem Qq7 {w:World} {H:qaq} {L:qac}(h:Qji w τ bp H) (hl:qaw w τ H.bl bd L) (hd:qax w τ bd D) (n:Nat) (hn:4*n+4<=D.f1.length) {P:List Int}{ls:List (List Int)}(r:ls.length=4) (s:Qb3 ls=true) (a:Qjt ls=P) (hP:Sound P) {k m:Nat}(x:qa8 P=k) (y:qaa P=m) (hlsn:0<m) (hz:qap D n 4=ls) (g:Tag) :
 Calls Tryz.prog 166 #[.pointer (some ⟨bp,0,none⟩),.int .u32 n] w fun e w'=>∃b z,e = .returned (.tuple #[.pointer (some ⟨b,0,none⟩),.int .u16 0])/\w.heap.size<=b/\qag w' z g b P/\Step w τ w' z nil:=by
 have h1:=Qfi h hl hd n hn
 have B:=hd.length 1
 have R:D.file 1=D.f1:=rfl
 rw[R] at B
 rw[hz] at h1
 obtain⟨H1,U,X,q,HP,Y,Z⟩:=qdr h1 r s a hP x y
 clear h1 r s a hP x y h hl hd hz
 go_enter Tryz.func166,Tryz.ntmps166
 go_wp2_with fail
 refine H1.mono ?_
 rintro e w1 ⟨v,τ1,rfl,hr,C⟩
 have h2:=Qnz hr.row qa2 U
 obtain⟨p,c,rfl⟩:=hr.val
 obtain⟨H2,j⟩:=qaj h2 C
 clear h2 C H1 hr
 go_wp2_with fail
 refine H2.mono ?_
 rintro e w2 ⟨τ2,E,hq⟩
 rcases hq with ⟨-,u,rfl,O⟩|⟨F,-⟩
 ·rw[q.out] at O
  have h3:=Qg4 (g:=g) O HP
  obtain⟨pu,cu,rfl,-,-⟩:=O.any
  obtain⟨H3,l⟩:=qaj h3 E
  clear h3 E H2 O
  go_wp2_with fail
  refine H3.mono ?_
  rintro e w3 ⟨b0,G,rfl,d,o,I⟩
  have h4:=Qg5 o
  have h5:=Qhe o
  rw[Y.out] at h4
  rw[Z.out] at h5
  obtain⟨H4,H5,J,M,i⟩:=qbq h4 h5 I o d
  clear h4 h5 I o d H3
  by_cases hk:k=0
  ·subst hk
   go_wp2_with fail
   refine zC H4 ?_
   go_wp2_with fail
   refine zC H5 ?_
   go_wp2_with fail
   go_ret2
   exact⟨b0,G,rfl,Y3 (j.trans l).size i,M,(j.trans l).trans J⟩
  ·have hk':¬(k:Int)=0:=oM
   go_wp2_with fail
   refine zC H4 ?_
   go_wp2_with fail
   go_ret2
   exact⟨b0,G,rfl,Y3 (j.trans l).size i,M,(j.trans l).trans J⟩
 ·rw[X.out] at F;cases F
theorem Qvk {w:World} {H:qaq} {L:qac}(h:Qji w τ bp H) (hl:qaw w τ H.bl bd L) (hd:qax w τ bd D) (n:Nat) (hn:4*n+4<=D.f1.length) {P:List Int}{st:Nat}(i:st<2 ^ 64) (j:Sound P) (a:0<qaa P) (l:qap D n 4=qao P st) (g:Tag) :
 Calls Tryz.prog 166 #[.pointer (some ⟨bp,0,none⟩),.int .u32 n] w fun e k=>∃b c,e = .returned (.tuple #[.pointer (some ⟨b,0,none⟩),.int .u16 0])/\w.heap.size<=b/\qag k c g b P/\Step w τ k c nil:=by
 have d:=Qs6 j.tidy.len st i
 exact Qq7 h hl hd n hn (Qet P st) d.1 d.2.2.1 j rfl rfl a l g
theorem Qls (g:Tag) (h:g=qcd\/qai g):¬qah g:=by
 rcases h with rfl|h
 ·simp[qah,qcd]
 ·exact Qau g h
theorem Qkw {w:World} {H:qaq} {L:qac}(h:Qji w τ bp H) (hl:qaw w τ H.bl bd L) (hd:qax w τ bd D) (n:Nat) (hn:4*n+4<=D.f1.length) {g:Tag}{v:Value}{ls:List (List Int)}(Z:qcv w τ g v ls) (hg:¬qah g) (M:ls.length=4) (p:D.lim 800000) :
 Calls Tryz.prog 137 #[.pointer (some ⟨bp,0,none⟩),.int .i64 n,v] w (DevR w τ bd (D.lay 1 (4*n) ls) (.tuple #[])):=by
 have O:=hd.length 1
 have R:D.file 1=D.f1:=rfl
 rw[R] at O
 obtain⟨pw,cw,rfl,a0,-⟩:=Z.read
 have q:D.lay 1 (4*n) ls=(D.writes 1 (4*n) ls 4).sync 1:=by unfold Dev.lay;rw[M]
 rw[q,M]
 rw[M] at a0
 obtain⟨a1,Hl,Hw,U,H4⟩:=qbq h hl Z p M
 clear h hl Z p M
 have Hd:=Z2 hd
 clear hd q
 go_enter Tryz.func137,Tryz.ntmps137
 go_wp2_with fail
 go_loopw [10] (fun v wr=>∃(i:Nat) (r:qa1),i<=4/\v = .int .i64 i/\qax wr r bd (D.writes 1 (4*n) ls i)/\Step w τ wr r qah) (fun v _=>4-(intOf v).toNat)
 case atStart=>exact⟨0,τ,Z9 _,rfl,Hd,Step.refl _ _ _⟩
 case round =>
  obtain⟨i,r,hi,rfl,hd,a⟩:=hrel
  have s:=a1.step a (Qls _ (.inl rfl))
  have y:=Hl.step a (fun g h=>Qls g (.inr h))
  have c:=Qkx s y
  by_cases a2:i<4
  ·obtain⟨p',c',X,_,hr⟩:=(Hw.step a hg Qay).read
   rw[H4.out] at X
   cases X
   obtain⟨x,hx⟩:∃x,ls[i]?=some x:=⟨_,Z3 (by rw[H4.out];exact a2)⟩
   obtain⟨d,b,u,rfl,hc,hb⟩:=hr i x hx
   have z:=Dev.qcr D 1 (4*n) oM ls i 1
   rw[R] at z
   have B:=Qey hd 1 oM (4*n+i) (by rw[z];omega) hb d Qay (Dev.qbb (Dev.qer U 1 (4*n) oM ls i) oM)
   rw[show ((4*n+i:Nat):Int)=4*(n:Int)+i by omega] at B
   have j:D.writes 1 (4*n) ls (i+1)=(D.writes 1 (4*n) ls i).write 1 (4*n+i) x:=by
    show (D.writes 1 (4*n) ls i).write 1 (4*n+i) (ls.getD i [])=_
    rw[Z5,hx];rfl
   generalize D.writes 1 (4*n) ls i=E at *
   obtain⟨pb,kb,rfl,-,-⟩:=hb.any
   obtain⟨Hd,C,k,a5,F⟩:=qbq hd a c B j
   clear hd a c B j hx d hr hb s y z
   go_wp2_with fail
   refine k.mono ?_
   rintro e w1 ⟨rfl,rfl⟩
   go_wp2_with fail
   refine a5.mono ?_
   rintro e w2 ⟨rfl,G,l,o⟩
   obtain⟨I,J⟩:=qaj l o
   clear l o
   go_wp2_with fail
   go_round
   case rel=>exact⟨i+1,G,oM,sM,by rw[F.out];exact I,C.trans J⟩
   case measure=>simp[intOf];omega
  ·obtain rfl:i=4:=oM
   have Y:=Qhr hd 1 oM
   obtain⟨k,C,a6⟩:=qan c a Y
   clear c a Y hd s y
   go_wp2_with fail
   refine k.mono ?_
   rintro e w1 ⟨rfl,rfl⟩
   go_wp2_with fail
   refine a6.mono ?_
   rintro e w2 ⟨rfl,G,l,o⟩
   obtain⟨I,J⟩:=qaj l o
   clear l o
   go_wp2_with fail
   go_returns
   exact⟨rfl,G,I,C.trans J⟩
theorem Qt3 (w:World) (x:Int):Calls Tryz.prog 210 #[.int .i64 x] w fun e a=>e = .returned (.bool false)/\w=a:=by
 go_enter Tryz.func210,Tryz.ntmps210
 go_wp2_with fail
 go_ret
 exact⟨rfl,rfl⟩
theorem Qs3 (w:World) (x:Int):Calls Tryz.prog 162 #[.int .i64 x] w fun e a=>e = .returned (.bool false)/\w=a:=by
 go_enter Tryz.func162,Tryz.ntmps162
 go_wp2_with fail
 go_ret
 exact⟨rfl,rfl⟩
theorem Qv7 (w:World) (x y:Int):Calls Tryz.prog 161 #[.int .i64 x,.int .i64 y] w fun e a=>e = .returned (.bool (decide (x<y)))/\w=a:=by
 have h1:=Qt3 w x
 have H1:=Z2 h1
 clear h1
 go_enter Tryz.func161,Tryz.ntmps161
 go_wp2_with fail
 refine zC H1 ?_
 go_wp2_with fail
 go_ret
 exact⟨rfl,rfl⟩
structure Found (l:List Nat) (x r:Nat) (f:Bool):Prop where
 le:r<=l.length
 lo:∀j,j<r->l.getD j 0<x
 hi:∀j,r<=j->j<l.length->x<=l.getD j 0
 is:f=decide (r<l.length/\l.getD r 0=x)
theorem Qrq {w:World} {p:Option Addr} {c:Nat} {l:List Nat}(hr:Qm6 l) (U:∀i,i<l.length->∃b,p=some ⟨b,0,none⟩/\w.cell? ⟨b,i,none⟩=some (.int .i64 ((l.getD i 0:Nat):Int))) (hn:l.length<=1000000) (x:Nat) :
 Calls Tryz.prog 100 #[.slice p l.length c,.int .i64 x] w fun e w'=>(∃(r:Nat) (f:Bool),e = .returned (.tuple #[.int .i64 r,.bool f])/\Found l x r f)/\w=w':=by
 have X:=fun (a b:Int)=>Qv7 w a b
 have Y:=fun (a:Int)=>Qs3 w a
 have C:∀i j,i<=j->j<l.length->l.getD i 0<=l.getD j 0:=fun i j a6 hj=>by
  rcases Nat.lt_or_ge i j with h|h
  ·exact Nat.le_of_lt (hr i j h hj)
  ·have:i=j:=oM
   rw[this];exact Z0 _
 generalize Z:l.length=n at *
 obtain⟨a0,a7,a8,E,q⟩:=qbq U X Y C Z
 clear U X Y C Z hr
 go_enter Tryz.func100,Tryz.ntmps100
 go_wp2_with fail
 go_loopw [7,8] (fun a v wr=>∃(i j:Nat),i<=j/\j<=n/\a = .int .i64 i/\v = .int .i64 j/\(∀k,k<i->l.getD k 0<x)/\(∀k,j<=k->k<n->x<=l.getD k 0)/\wr=w) (fun a v _=>(intOf v).toNat-(intOf a).toNat)
 case atStart=>exact⟨0,n,Z9 _,Z0 _,rfl,rfl,fun k hk=>oM,fun k h1 h2=>oM,rfl⟩
 case round =>
  obtain⟨i,j,a6,J,rfl,rfl,d,o,rfl⟩:=hrel
  by_cases hlt:i<j
  ·have hh1:i<=(i+j)/2:=oM
   have hh2:(i+j)/2<j:=oM
   have hhh:((i:Int)+j)/2=(((i+j)/2:Nat):Int):=oM
   obtain⟨b,rfl,L⟩:=a0 ((i+j)/2) oM
   have R:=a7 ((l.getD ((i+j)/2) 0:Nat):Int) (x:Int)
   have F:=fun k (hk:k<=(i+j)/2)=>E k ((i+j)/2) hk oM
   have G:=fun k (hk:(i+j)/2<=k) (a9:k<n)=>E ((i+j)/2) k hk a9
   generalize hh:(i+j)/2=h at *
   generalize hy:l.getD h 0=y at *
   by_cases M:y<x
   ·have s:(y:Int)<x:=oM
    rw[decide_eq_true s] at R
    obtain⟨Hc,z,B,a2,a3⟩:=qbq R d o F G
    clear R d o F G
    go_wp2_with fail
    refine zC Hc ?_
    go_wp2_with fail
    go_round
    case rel=>exact⟨h+1,j,oM,oM,sM,rfl,fun k hk=>by have:=a2 k oM;omega,B,trivial⟩
    case measure=>simp[intOf];omega
   ·have s:¬(y:Int)<x:=oM
    rw[decide_eq_false s] at R
    obtain⟨Hc,z,B,a2,a3⟩:=qbq R d o F G
    clear R d o F G
    go_wp2_with fail
    refine zC Hc ?_
    go_wp2_with fail
    go_round
    case rel=>exact⟨i,h,oM,oM,rfl,rfl,z,fun k h1 h2=>by have:=a3 k h1 h2;omega,trivial⟩
    case measure=>simp[intOf];omega
  ·have a4:i=j:=oM
   subst a4
   by_cases O:i<n
   ·obtain⟨b,rfl,L⟩:=a0 i O
    have I:=a8 ((l.getD i 0:Nat):Int)
    generalize hy:l.getD i 0=y at *
    by_cases M:y=x
    ·subst M
     obtain⟨a5,z,B⟩:=qan I d o
     clear I d o
     go_wp2_with fail
     go_returns
     exact⟨⟨i,true,rfl,⟨by rw[q.out];exact J,z,fun k h1 h2=>B k h1 (by rw[<-q.out];exact h2),by rw[q.out,decide_eq_true ⟨O,hy⟩]⟩⟩,rfl⟩
    ·have s:¬(y:Int)=x:=oM
     obtain⟨a5,z,B⟩:=qan I d o
     clear I d o
     go_wp2_with fail
     refine zC a5 ?_
     go_wp2_with fail
     go_returns
     exact⟨⟨i,false,by first|rfl|simp[s],⟨by rw[q.out];exact J,z,fun k h1 h2=>B k h1 (by rw[<-q.out];exact h2),by rw[q.out,decide_eq_false (fun h=>M (hy▸h.2))]⟩⟩,rfl⟩
   ·obtain⟨z,B⟩:=qaj d o
    clear d o
    go_wp2_with fail
    go_returns
    exact⟨⟨i,false,rfl,⟨by rw[q.out];exact J,z,fun k h1 h2=>B k h1 (by rw[<-q.out];exact h2),by rw[q.out,decide_eq_false (fun h=>O h.1)]⟩⟩,rfl⟩
structure qac.qfh (L:qac):Prop where
 rise:Qm6 L.starts
 low:∀s∈L.starts,s<L.stream.length
structure qac.AtR (L:qac) (lsn k:Nat) (f:Bool):Prop where
 before:lsn<L.base->k=0/\f=false
 behind:L.base<=lsn->L.base+L.stream.length<=lsn->k=L.starts.length/\f=false
 within:L.base<=lsn->lsn<L.base+L.stream.length->Found L.starts (lsn-L.base) k f
theorem Qbr (n:Nat) (h:n<9223372036854775808):IntKind.i64.wrap (n:Int)=n:=by
 unfold IntKind.wrap
 simp[IntKind.bits,IntKind.signed]
 omega
theorem Qos {w:World} {L:qac}(h:qaw w τ bl bd L) (hr:L.qfh) (lsn:Nat) (hl:lsn<18446744073709551616) :
 Calls Tryz.prog 48 #[.pointer (some ⟨bl,0,none⟩),.int .u64 lsn] w fun e w'=>(∃(k:Nat) (f:Bool),e = .returned (.tuple #[.int .i64 k,.bool f])/\L.AtR lsn k f)/\Step w τ w' τ nil:=by
 have a:=Ql3 h
 obtain⟨vs,vt,z,R,B⟩:=h.is
 have c1:=z.at 1 rfl
 obtain⟨p,c,rfl,hmx,j⟩:=Ints.read (g:=qa6) B
 have hsl:=h.ok.stream
 have U:=h.ok.starts
 by_cases h1:lsn<L.base
 ·have X:(lsn:Int)<L.base:=oM
  have n:L.AtR lsn 0 false:=⟨fun _=>⟨rfl,rfl⟩,fun h=>absurd h oM,fun h=>absurd h oM⟩
  generalize L.base=bs at *
  have C:=Z2 n
  clear n h z R B a j
  go_enter Tryz.func48,Tryz.ntmps48
  go_wp2_with fail
  go_ret2
  exact⟨⟨0,false,rfl,C⟩,Step.refl _ _ _⟩
 ·have X:¬(lsn:Int)<L.base:=oM
  by_cases h2:L.base+L.stream.length<=lsn
  ·have n:L.AtR lsn L.starts.length false:=⟨fun h=>absurd h h1,fun _ _=>⟨rfl,rfl⟩,fun _ h=>absurd h oM⟩
   have Y:((L.base+L.stream.length:Nat):Int)<=(lsn:Int):=oM
   have o:=z
   generalize L.starts.length=m at *
   generalize L.base+L.stream.length=en at *
   generalize L.base=bs at *
   obtain⟨C,l,E⟩:=qan n a o
   clear n a o h z R B j
   go_enter Tryz.func48,Tryz.ntmps48
   go_wp2_with fail
   refine l.mono ?_
   rintro e w1 ⟨rfl,d⟩
   have d8:=(E.step d id).at 8 rfl
   have q:=Z2 d
   clear d
   go_wp2_with fail
   go_ret2
   exact⟨⟨m,false,rfl,C⟩,q⟩
  ·have Y:¬((L.base+L.stream.length:Nat):Int)<=(lsn:Int):=oM
   have hx:(lsn:Int)-L.base=((lsn-L.base:Nat):Int):=oM
   have hw1:=Qam (lsn-L.base) oM
   have hw2:=Qbr (lsn-L.base) oM
   have F:=fun (W:World) (hW:∀i,i<L.starts.length->∃b,p=some ⟨b,0,none⟩/\W.cell? ⟨b,i,none⟩=some (.int .i64 ((L.starts.getD i 0:Nat):Int)))=>Qrq (c:=c) hr.rise hW U (lsn-L.base)
   have n:∀k f,Found L.starts (lsn-L.base) k f->L.AtR lsn k f:=fun k f O=>⟨fun h=>absurd h h1,fun _ h=>absurd h h2,fun _ _=>O⟩
   have q1:∀vt,(Qa8 L bd vs vt)[1]?=some (.int .u64 L.base):=fun _=>rfl
   have s:L.base+L.stream.length=L.base+L.stream.length:=rfl
   generalize L.base+L.stream.length=en at *
   generalize Z:lsn-L.base=x at *
   generalize L.base=bs at *
   generalize hm:L.starts.length=m at *
   obtain⟨C,l,a0,Hm,Ho,Ht,G⟩:=qdr n a F hm z B q1
   clear n a F hm Z z B q1 h R j hr s h2
   go_enter Tryz.func48,Tryz.ntmps48
   go_wp2_with fail
   refine l.mono ?_
   rintro e w1 ⟨rfl,d⟩
   have y:=Ho.step d.drew id
   have d1:=y.at 1 (v:=.int .u64 bs) (G _)
   have d8:=y.at 8 rfl
   obtain⟨p',c',I,_,j⟩:=Ints.read (g:=qa6) ((show Ints w τ qa6 _ L.starts by unfold Ints;rw[Hm.out];exact Ht).step d.drew id)
   rw[Hm.out] at I j
   cases I
   have J:=a0 _ j
   obtain⟨q,a1⟩:=qaj d J
   clear d J y j
   go_wp2_with fail
   go_region_law (first
    | (go_simp
       go_at_call 100
       refine a1.mono ?_
       rintro e w2 ⟨⟨r,f,rfl,O⟩,rfl⟩
       have M:=C r f O
       have a2:=Z2 M
       clear M
       clear O))
   all_goals go_wp2_with fail
   all_goals go_returns
   all_goals exact⟨⟨r,f,rfl,a2⟩,q.drew⟩
def qac.qam (L:qac):Nat:=if L.qc0=0 then 2 else 2+L.strips
theorem Qiz {w:World} {L:qac}(h:qaw w τ bl bd L) :
 Calls Tryz.prog 52 #[.pointer (some ⟨bl,0,none⟩),.int .i64 L.qc0] w fun e i=>e = .returned (.int .i64 L.qam)/\w=i:=by
 obtain⟨vs,vt,c,-,-⟩:=h.is
 have c5:=c.at 5 rfl
 have hs:=h.ok.strips
 have ha:=h.ok.qc0
 obtain⟨m,d⟩:=gN (2+L.strips)
 have h2:2+(L.strips:Int)=m:=oM
 have b:=fun (W:World)=>Qli W (.int .i64 2) (.int .i64 m)
 have hi0:=fun W=>(b W).1
 have hi1:=fun W=>(b W).2
 have e:L.qc0=0\/L.qc0=1:=oM
 unfold qac.qam
 rw[d]
 generalize L.strips=k at *
 generalize L.qc0=a at *
 clear h c b d
 rcases e with rfl|rfl
 ·go_enter Tryz.func52,Tryz.ntmps52
  go_wp2_with fail
  go_ret
  exact⟨rfl,rfl⟩
 ·go_enter Tryz.func52,Tryz.ntmps52
  go_wp2_with fail
  go_ret
  exact⟨rfl,rfl⟩
def qac.qd8 (L:qac) (k:Nat):Nat:=if k+1<L.starts.length then L.starts.getD (k+1) 0 else L.stream.length
theorem Qho {w:World} {L:qac}(h:qaw w τ bl bd L) (k:Nat) (hk:k<=1000000) :
 Calls Tryz.prog 49 #[.pointer (some ⟨bl,0,none⟩),.int .i64 k] w fun e n=>e = .returned (.int .i64 (L.qd8 k:Int))/\w=n:=by
 obtain⟨vs,vt,d,i,j⟩:=h.is
 obtain⟨p,c,rfl,hmx,a⟩:=Ints.read (g:=qa6) j
 obtain⟨ps,cs,rfl⟩:=i.len
 have c8:=d.at 8 rfl
 have c7:=d.at 7 rfl
 unfold qac.qd8
 by_cases h1:k+1<L.starts.length
 ·rw[if_pos h1]
  obtain⟨b,rfl,hcell⟩:=a (k+1) h1
  have l:(k:Int)+1<(L.starts.length:Int):=oM
  have h2:((k:Int)+1).toNat=k+1:=oM
  have h3:(0:Int)<=k+1:=oM
  generalize L.starts.getD (k+1) 0=y at *
  generalize L.starts.length=m at *
  clear h d i j a
  go_enter Tryz.func49,Tryz.ntmps49
  go_wp2_with fail
  go_ret
  exact⟨rfl,rfl⟩
 ·rw[if_neg h1]
  have l:¬(k:Int)+1<(L.starts.length:Int):=oM
  generalize L.stream.length=y at *
  generalize L.starts.length=m at *
  clear h d i j a
  go_enter Tryz.func49,Tryz.ntmps49
  go_wp2_with fail
  go_ret
  exact⟨rfl,rfl⟩
def qac.qal (L:qac) (k:Nat):Nat:=L.qd8 (k-1)
def qac.qjx (L:qac) (k:Nat):Prop:=k≠0/\L.lasts<L.qal k
def Qdp (L:qac) (k:Nat):List (List Int):=(Qeg (L.stream.take (L.qal k))).drop (L.lasts/127)
def qac.qcu (L:qac) (k:Nat):qac:={L with lasts:=L.qal k}
def Qdq (L:qac) (D:Dev) (k:Nat):Dev:=D.lay 0 (L.qam+L.lasts/127) (Qdp L k)
theorem qac.qcb {L:qac}(a:L.qfh) (k:Nat):L.qd8 k<=L.stream.length:=by
 unfold qac.qd8
 by_cases h:k+1<L.starts.length
 ·rw[if_pos h]
  have:=a.low (L.starts.getD (k+1) 0) (by
   rw[Z5,Z3 h]
   exact List.getElem_mem _)
  omega
 ·rw[if_neg h];exact Z0 _
theorem Qdx (st:List Int):(Qeg st).length=parts st.length 127:=by simp[Qeg,Quz]
theorem Jjl (st:List Int) (i:Nat) (hi:i<parts st.length 127):(Qeg st).getD i []=Qbt st i:=by
 unfold Qeg Quz
 rw[Z5,List.getElem?_map,List.getElem?_range hi];rfl
theorem Qd9 (L:qac) (a:L.qfh) (k:Nat):(Qdp L k).length=parts (L.qal k) 127-L.lasts/127:=by
 unfold Qdp
 rw[List.length_drop,Qdx,List.length_take]
 have:=qac.qcb a (k-1)
 have e:min (L.qal k) L.stream.length=L.qal k:=Nat.min_eq_left this
 rw[e]
theorem qac.ok.qcu {L:qac}(h:L.ok) (a:L.qfh) (k:Nat):(L.qcu k).ok :=
 ⟨h.stamp,h.base,h.check,h.qc0,h.strips,h.slot,h.stream,h.starts,qac.qcb a (k-1)⟩
def Qbj (L:qac) (k:Nat):Bool:=decide (k≠0/\L.lasts<L.qal k)
def qey (w:World) (τ:qa1) (bl bd:Nat) (L:qac) (D:Dev) (k:Nat) (w':World):Prop :=
 ∃τ',qaw w' τ' bl bd (if Qbj L k=true then L.qcu k else L)/\qax w' τ' bd (if Qbj L k=true then Qdq L D k else D)/\Step w τ w' τ' qbc
theorem qey.no {w b:World} {a:qa1} {L:qac} {k:Nat}(h:Qbj L k=false) (hl:qaw b a bl bd L) (hd:qax b a bd D) (c:Step w τ b a nil):qey w τ bl bd L D k b :=
 ⟨a,by rw[h,if_neg sM];exact hl,by rw[h,if_neg sM];exact hd,c.nz⟩
theorem qey.yes {w b:World} {a:qa1} {L:qac} {k:Nat}(h:Qbj L k=true) (hl:qaw b a bl bd (L.qcu k)) (hd:qax b a bd (Qdq L D k)) (c:Step w τ b a qbc):qey w τ bl bd L D k b :=
 ⟨a,by rw[if_pos h];exact hl,by rw[if_pos h];exact hd,c⟩
theorem Qsn {l:List (List Int)} {f i:Nat} {x:List Int}(h:(l.drop f)[i]?=some x):l[f+i]?=some x:=by
 rw[List.getElem?_drop] at h;exact h
theorem Qd5 (x:Int) (h0:0<=x) (h:x<=100000):IntKind.i64.wrap x=x:=by
 obtain⟨n,rfl⟩:∃n:Nat,x=(n:Int):=⟨x.toNat,oM⟩
 exact Qbr n oM
theorem Qor {w:World} {L:qac}(hl:qaw w τ bl bd L) (hd:qax w τ bd D) (hr:L.qfh) (c6:L.stream.length<=127*L.strips) (c8:L.qam+L.strips<=D.f0.length) (ca:D.lim 700000) (lsn:Nat) (dt:lsn<18446744073709551616) :
 Calls Tryz.prog 16 #[.pointer (some ⟨bl,0,none⟩),.int .u64 lsn] w fun e w'=>e = .returned (.tuple #[])/\∃(k:Nat) (f:Bool),L.AtR lsn k f/\qey w τ bl bd L D (k+(if f then 1 else 0)) w':=by
 have a8:=Qos hl hr lsn dt
 have de:=hd.length 0
 have cf:D.file 0=D.f0:=rfl
 rw[cf] at de
 have b5:=hl.ok
 have hstr:=b5.strips
 have hssl:=b5.stream
 have hsts:=b5.starts
 have hlal:=b5.lasts
 obtain⟨ak,Hl,Hd,Hr,cb,df,cc,cd⟩:=qen a8 hl hd hr ca b5 c6 c8
 clear a8 hl hd hr ca b5 c6 c8
 go_enter Tryz.func16,Tryz.ntmps16
 go_wp2_with fail
 refine ak.mono ?_
 rintro e w1 ⟨⟨k,f,rfl,a8⟩,c4⟩
 have dw:k<=L.starts.length:=by
  rcases Nat.lt_or_ge lsn L.base with h|h
  ·have:=(a8.before h).1;omega
  ·rcases Nat.lt_or_ge lsn (L.base+L.stream.length) with h2|h2
   ·exact(a8.within h h2).le
   ·have:=(a8.behind h h2).1;omega
 have dh:=Hl.step c4 zN
 have di:=Hd.step c4 zE
 obtain⟨ak,b7,n,b8⟩:=qb9 a8 c4 dh di
 clear a8 c4 dh di
 cases f with
 | true =>
   obtain⟨K,b6⟩:=gN (k+1)
   have dj:(k:Int)+1=(K:Int):=oM
   have hK1:k+1<=1000001:=oM
   have dx:¬(K:Int)=0:=oM
   obtain⟨J,hJ⟩:∃J,J+1=K:=⟨K-1,oM⟩
   have dy:(K:Int)-1=(J:Int):=oM
   have B:=Qho n J oM
   have al:=qac.qcb Hr J
   have Y:L.qal K=L.qd8 J:=by unfold qac.qal;rw[show K-1=J by omega]
   rw[<-Y] at B al
   obtain⟨vs,vt,am,a9,b9⟩:=n.is
   have c9:=am.at 9 rfl
   clear Y
   obtain⟨cg,aa⟩:=qaj am a9
   clear am a9 b9
   by_cases dz:L.qal K<=L.lasts
   ·have ba:(L.qal K:Int)<=(L.lasts:Int):=oM
    have bc:Qbj L K=false:=decide_eq_false (fun h=>by have:=h.2;omega)
    generalize L.qal K=Z at *
    generalize a2:L.lasts=la at *
    obtain⟨an,ch⟩:=qaj B bc
    clear B bc a2
    go_wp2_with fail
    refine an.mono ?_
    rintro e w2 ⟨rfl,rfl⟩
    go_wp2_with fail
    go_returns
    exact⟨rfl,k,true,ak,by rw[show k+(if true=true then 1 else 0)=K from b6];exact qey.no ch n b8 b7⟩
   ·have ba:¬(L.qal K:Int)<=(L.lasts:Int):=oM
    have ab:Qbj L K=true:=decide_eq_true ⟨oM,oM⟩
    have C:=Qd9 L Hr K
    have be:Qdq L D K=D.lay 0 (L.qam+L.lasts/127) (Qdp L K):=rfl
    have ac:Qdp L K=(Qeg (L.stream.take (L.qal K))).drop (L.lasts/127):=rfl
    have ad:=df.qcu Hr K
    have G:=Qdx (L.stream.take (L.qal K))
    rw[List.length_take,Nat.min_eq_left al] at G
    have e0:L.lasts/127<parts (L.qal K) 127:=by unfold parts;omega
    have e1:parts (L.qal K) 127<=L.strips:=by unfold parts;have:=cc.out;omega
    obtain⟨bs,os,cs,rfl,dk,dl,-,-,-⟩:=(Buf.bytes aa n.isB).pos oM
    have ae:=Qvl (((Buf.bytes aa n.isB)).fst (L.qal K) al) (by rw[List.length_take];omega)
    have c7:=cg.at 7 rfl
    have hq:=cd.out
    have af:qac.qcu L K={L with lasts:=L.qal K}:=rfl
    generalize Y:L.qal K=Z at *
    generalize ci:L.lasts/127=fr at *
    have dm:(L.lasts:Int)/127=(fr:Int):=oM
    generalize hS:Qeg (L.stream.take Z)=SA at *
    generalize hF:L.qam=F at *
    generalize hm:parts Z 127=m at *
    generalize cj:Qdp L K=RW at *
    generalize ck:L.stream.length=sl at *
    generalize bf:L.lasts=la at *
    have h1:Z<=cs:=oM
    have h2:(Z:Int)<=cs:=oM
    obtain⟨an,bg,ao,cm,bh,bi,I,ag,bj,HF,Hm⟩:=qg6 B ab C be ac ad G ae af hF hm
    clear B ab C be ac ad G ae af Y hS hF hm cj ck bf ci
    go_wp2_with fail
    refine an.mono ?_
    rintro e w2 ⟨rfl,rfl⟩
    go_wp2_with fail
    refine ag.mono ?_
    rintro e w2 ⟨u,bk,rfl,a3,a4⟩
    obtain⟨pl,cl,hu,cn,a⟩:=a3.row.read
    rw[I.out] at hu cn
    subst hu
    obtain⟨x0,bm⟩:∃x,SA[0]?=some x:=⟨_,Z3 (by rw[I.out];omega)⟩
    obtain⟨_,bb,_,rfl,_,_⟩:=a 0 x0 bm
    clear a bm
    have e7:m<=cl/\cl<=maxLen:=by
     obtain⟨xs,⟨co,ap⟩,-⟩:=a3.row.buf
     rcases ap with ⟨ap,_⟩|⟨b3,cap,ys,cp,_,e8,e9,cq⟩
     ·cases ap
     ·cases cp
      rw[I.out] at co
      exact⟨oM,cq⟩
    have f1:fr<=m:=oM
    have f2:(fr:Int)<=m:=oM
    have f4:¬cl=fr:=oM
    have bn:=b8.step a4 zE
    have bo:=n.step a4 zN
    obtain⟨cr,ct,cv,cw⟩:=qb9 a3 a4 bn bo
    clear a3 a4 bn bo ag
    go_wp2_with fail
    obtain⟨q,a5⟩:=gN (m-fr)
    rw[a5]
    have bq:RW.length=q:=by rw[<-a5];exact ao
    have ea:fr+q=m:=oM
    obtain⟨eb,br⟩:=qaj a5 bq
    clear a5 bq
    go_loopw [46] (fun v wr=>∃(i:Nat) (p:qa1),i<=q/\v = .int .i64 i/\qax wr p bd (D.writes 0 (F+fr) RW i)/\Step w2 bk wr p qah) (fun v _=>q-(intOf v).toNat)
    case atStart=>exact⟨0,bk,Z9 _,rfl,cv,Step.refl _ _ _⟩
    case round =>
     obtain⟨i,p,hi,rfl,hd,r⟩:=hrel
     have j:=cw.step r Qau
     by_cases cx:i<q
     ·obtain⟨x,hx⟩:∃x,RW[i]?=some x:=⟨_,Z3 (by rw[br.out];exact cx)⟩
      have bv:SA[fr+i]?=some x:=Qsn (by rw[<-bh.out];exact hx)
      obtain⟨p',c',cz,_,a⟩:=(cr.row.step r (by simp[qah,qe3]) Qay).read
      cases cz
      obtain⟨M,b,u,hb,hc,aq⟩:=a (fr+i) x bv
      cases hb
      clear a
      have ar:=Qiz (j.step (zS wr p).drew (fun _ _ h=>h))
      rw[HF.out] at ar
      have av:=Dev.qcr D 0 (F+fr) oM RW i 0
      rw[cf] at av
      have aw:=Qey (hd.step (zS wr p).drew (fun _ h=>h.elim)) 0 oM (F+fr+i) (by rw[av];omega) aq.drew M Qay (Dev.qbb (Dev.qer cb 0 (F+fr) oM RW i) oM)
      rw[show ((F+fr+i:Nat):Int)=(F:Int)+fr+(i:Int) by omega] at aw
      have O:D.writes 0 (F+fr) RW (i+1)=(D.writes 0 (F+fr) RW i).write 0 (F+fr+i) x:=by
       show (D.writes 0 (F+fr) RW i).write 0 (F+fr+i) (RW.getD i [])=_
       rw[Z5,hx];rfl
      obtain⟨d0,d1,s,-,-⟩:=j.is
      have d4:=s.drew.at 4 rfl
      have d3:=s.drew.at 3 rfl
      have a0:(F:Int)+fr<=4096:=oM
      have a1:(F:Int)+fr+(i:Int)<=4096:=oM
      have w1:=Qd5 ((F:Int)+fr) oM oM
      have w2:=Qd5 ((F:Int)+fr+(i:Int)) oM oM
      generalize D.writes 0 (F+fr) RW i=E at *
      obtain⟨pb,kb,rfl,-,-⟩:=aq.any
      obtain⟨Hd,ax,d2,d5,ay,az⟩:=qcq hd r ar aw O j
      clear hd r ar aw O hx bv M j aq av s
      go_wp2_with fail
      go_region_held3 (fun w'=>w'.cell? ⟨bl,4,none⟩=some (.pointer (some ⟨bd,0,none⟩))/\w'.cell? ⟨bl,3,none⟩=some (.int .i64 L.qc0)) (go_keep) (first
       | (go_at_call 52
          refine d2.mono ?_
          rintro e w3 ⟨rfl,rfl⟩)
       | (go_at_call 51
          refine d5.mono ?_
          rintro e w4 ⟨rfl,y,R,l⟩
          have z:=(az.step (zS wr p).drew (fun _ _ h=>h)).step l Qau
          obtain⟨a6,a7,c,-,-⟩:=z.is
          have e4:=c.at 4 rfl
          have e3:=c.at 3 rfl
          obtain⟨d6,d7⟩:=qaj R l
          clear R l
          clear c z))
      go_wp2_with fail
      go_round
      case rel=>exact⟨i+1,y,oM,sM,by rw[ay.out];exact d6,ax.drew.trans d7⟩
      case measure=>simp[intOf];omega
     ·obtain rfl:i=q:=oM
      have bz:=Qhr hd 0 oM
      obtain⟨d0,d1,s,-,-⟩:=j.is
      have d4:=s.at 4 rfl
      have U:Qdq L D K=(D.writes 0 (F+fr) RW i).sync 0:=by rw[cm.out];unfold Dev.lay;rw[br.out]
      obtain⟨ax,d8,az,b0⟩:=qb9 r bz j U
      clear r bz j U hd s
      go_wp2_with fail
      refine d8.mono ?_
      rintro e w4 ⟨rfl,y,R,l⟩
      have z:=az.step l Qau
      have d9:=z.isB
      obtain⟨a6,a7,c,ah,ai⟩:=z.is
      have k9:=c.at 9 rfl
      have z9:=c.fz 9
      have b1:=c.set 9 (.int .i64 Z)
      have aj:(Qa8 L bd a6 a7).set 9 (.int .i64 Z)=Qa8 (qac.qcu L K) bd a6 a7:=by rw[bj.out];rfl
      rw[aj] at b1
      have d:Step w4 y (w4.setCell ⟨bl,9,none⟩ (.int .i64 Z)) y (fun g=>g=qb1):=(Step.refl w4 y (fun g=>g=qb1)).set (o:=9) c.tag rfl _
      have c3:qaw (w4.setCell ⟨bl,9,none⟩ (.int .i64 Z)) y bl bd (qac.qcu L K) :=
       ⟨⟨a6,a7,b1,by have:=ah.step d (by simp[qa5,qb1]);exact this,by have:=ai.step d (by simp[qa6,qb1]);exact this⟩,d9,bi⟩
      have b2:=R.step d (fun g hg=>by subst hg;exact⟨Qau _ (.inl rfl),by simp[qb1,qa2]⟩)
      have X:=((b7.nz (T:=qbc)).trans ct.nz).trans ((ax.mono (T:=qbc) (fun _ h=>.inr h)).trans ((l.mono (T:=qbc) (fun _ h=>.inr h)).trans (d.mono (T:=qbc) (fun g hg=>.inl (.inl hg)))))
      rw[<-b0.out] at b2
      obtain⟨db,dc,b4⟩:=qan c3 b2 X
      clear c3 b2 X c ah ai b1 aj d z R l
      go_wp2_with fail
      go_returns
      exact⟨rfl,k,true,ak,by rw[show k+(if true=true then 1 else 0)=K from b6];exact qey.yes bg db dc b4⟩
 | false =>
   by_cases dr:k=0
   ·subst dr
    go_wp2_with fail
    go_returns
    exact⟨rfl,0,false,ak,qey.no (by rfl) n b8 b7⟩
   ·obtain⟨K,b6⟩:=gN k
    rw[b6] at dr dw
    have dj:(k:Int)=K:=oM
    rw[dj]
    have dx:¬(K:Int)=0:=oM
    obtain⟨J,hJ⟩:∃J,J+1=K:=⟨K-1,oM⟩
    have dy:(K:Int)-1=(J:Int):=oM
    have B:=Qho n J oM
    have al:=qac.qcb Hr J
    have Y:L.qal K=L.qd8 J:=by unfold qac.qal;rw[show K-1=J by omega]
    rw[<-Y] at B al
    obtain⟨vs,vt,am,a9,b9⟩:=n.is
    have c9:=am.at 9 rfl
    clear Y
    obtain⟨cg,aa⟩:=qaj am a9
    clear am a9 b9
    by_cases dz:L.qal K<=L.lasts
    ·have ba:(L.qal K:Int)<=(L.lasts:Int):=oM
     have bc:Qbj L K=false:=decide_eq_false (fun h=>by have:=h.2;omega)
     generalize L.qal K=Z at *
     generalize a2:L.lasts=la at *
     obtain⟨an,ch⟩:=qaj B bc
     clear B bc a2
     go_wp2_with fail
     refine an.mono ?_
     rintro e w2 ⟨rfl,rfl⟩
     go_wp2_with fail
     go_returns
     exact⟨rfl,k,false,ak,by rw[show k+(if false=true then 1 else 0)=K from b6];exact qey.no ch n b8 b7⟩
    ·have ba:¬(L.qal K:Int)<=(L.lasts:Int):=oM
     have ab:Qbj L K=true:=decide_eq_true ⟨oM,oM⟩
     have C:=Qd9 L Hr K
     have be:Qdq L D K=D.lay 0 (L.qam+L.lasts/127) (Qdp L K):=rfl
     have ac:Qdp L K=(Qeg (L.stream.take (L.qal K))).drop (L.lasts/127):=rfl
     have ad:=df.qcu Hr K
     have G:=Qdx (L.stream.take (L.qal K))
     rw[List.length_take,Nat.min_eq_left al] at G
     have e0:L.lasts/127<parts (L.qal K) 127:=by unfold parts;omega
     have e1:parts (L.qal K) 127<=L.strips:=by unfold parts;have:=cc.out;omega
     obtain⟨bs,os,cs,rfl,dk,dl,-,-,-⟩:=(Buf.bytes aa n.isB).pos oM
     have ae:=Qvl (((Buf.bytes aa n.isB)).fst (L.qal K) al) (by rw[List.length_take];omega)
     have c7:=cg.at 7 rfl
     have hq:=cd.out
     have af:qac.qcu L K={L with lasts:=L.qal K}:=rfl
     generalize Y:L.qal K=Z at *
     generalize ci:L.lasts/127=fr at *
     have dm:(L.lasts:Int)/127=(fr:Int):=oM
     generalize hS:Qeg (L.stream.take Z)=SA at *
     generalize hF:L.qam=F at *
     generalize hm:parts Z 127=m at *
     generalize cj:Qdp L K=RW at *
     generalize ck:L.stream.length=sl at *
     generalize bf:L.lasts=la at *
     have h1:Z<=cs:=oM
     have h2:(Z:Int)<=cs:=oM
     obtain⟨an,bg,ao,cm,bh,bi,I,ag,bj,HF,Hm⟩:=qg6 B ab C be ac ad G ae af hF hm
     clear B ab C be ac ad G ae af Y hS hF hm cj ck bf ci
     go_wp2_with fail
     refine an.mono ?_
     rintro e w2 ⟨rfl,rfl⟩
     go_wp2_with fail
     refine ag.mono ?_
     rintro e w2 ⟨u,bk,rfl,a3,a4⟩
     obtain⟨pl,cl,hu,cn,a⟩:=a3.row.read
     rw[I.out] at hu cn
     subst hu
     obtain⟨x0,bm⟩:∃x,SA[0]?=some x:=⟨_,Z3 (by rw[I.out];omega)⟩
     obtain⟨_,bb,_,rfl,_,_⟩:=a 0 x0 bm
     clear a bm
     have e7:m<=cl/\cl<=maxLen:=by
      obtain⟨xs,⟨co,ap⟩,-⟩:=a3.row.buf
      rcases ap with ⟨ap,_⟩|⟨b3,cap,ys,cp,_,e8,e9,cq⟩
      ·cases ap
      ·cases cp
       rw[I.out] at co
       exact⟨oM,cq⟩
     have f1:fr<=m:=oM
     have f2:(fr:Int)<=m:=oM
     have f4:¬cl=fr:=oM
     have bn:=b8.step a4 zE
     have bo:=n.step a4 zN
     obtain⟨cr,ct,cv,cw⟩:=qb9 a3 a4 bn bo
     clear a3 a4 bn bo ag
     go_wp2_with fail
     obtain⟨q,a5⟩:=gN (m-fr)
     rw[a5]
     have bq:RW.length=q:=by rw[<-a5];exact ao
     have ea:fr+q=m:=oM
     obtain⟨eb,br⟩:=qaj a5 bq
     clear a5 bq
     go_loopw [46] (fun v wr=>∃(i:Nat) (p:qa1),i<=q/\v = .int .i64 i/\qax wr p bd (D.writes 0 (F+fr) RW i)/\Step w2 bk wr p qah) (fun v _=>q-(intOf v).toNat)
     case atStart=>exact⟨0,bk,Z9 _,rfl,cv,Step.refl _ _ _⟩
     case round =>
      obtain⟨i,p,hi,rfl,hd,r⟩:=hrel
      have j:=cw.step r Qau
      by_cases cx:i<q
      ·obtain⟨x,hx⟩:∃x,RW[i]?=some x:=⟨_,Z3 (by rw[br.out];exact cx)⟩
       have bv:SA[fr+i]?=some x:=Qsn (by rw[<-bh.out];exact hx)
       obtain⟨p',c',cz,_,a⟩:=(cr.row.step r (by simp[qah,qe3]) Qay).read
       cases cz
       obtain⟨M,b,u,hb,hc,aq⟩:=a (fr+i) x bv
       cases hb
       clear a
       have ar:=Qiz (j.step (zS wr p).drew (fun _ _ h=>h))
       rw[HF.out] at ar
       have av:=Dev.qcr D 0 (F+fr) oM RW i 0
       rw[cf] at av
       have aw:=Qey (hd.step (zS wr p).drew (fun _ h=>h.elim)) 0 oM (F+fr+i) (by rw[av];omega) aq.drew M Qay (Dev.qbb (Dev.qer cb 0 (F+fr) oM RW i) oM)
       rw[show ((F+fr+i:Nat):Int)=(F:Int)+fr+(i:Int) by omega] at aw
       have O:D.writes 0 (F+fr) RW (i+1)=(D.writes 0 (F+fr) RW i).write 0 (F+fr+i) x:=by
        show (D.writes 0 (F+fr) RW i).write 0 (F+fr+i) (RW.getD i [])=_
        rw[Z5,hx];rfl
       obtain⟨d0,d1,s,-,-⟩:=j.is
       have d4:=s.drew.at 4 rfl
       have d3:=s.drew.at 3 rfl
       have a0:(F:Int)+fr<=4096:=oM
       have a1:(F:Int)+fr+(i:Int)<=4096:=oM
       have w1:=Qd5 ((F:Int)+fr) oM oM
       have w2:=Qd5 ((F:Int)+fr+(i:Int)) oM oM
       generalize D.writes 0 (F+fr) RW i=E at *
       obtain⟨pb,kb,rfl,-,-⟩:=aq.any
       obtain⟨Hd,ax,d2,d5,ay,az⟩:=qcq hd r ar aw O j
       clear hd r ar aw O hx bv M j aq av s
       go_wp2_with fail
       go_region_held3 (fun w'=>w'.cell? ⟨bl,4,none⟩=some (.pointer (some ⟨bd,0,none⟩))/\w'.cell? ⟨bl,3,none⟩=some (.int .i64 L.qc0)) (go_keep) (first
        | (go_at_call 52
           refine d2.mono ?_
           rintro e w3 ⟨rfl,rfl⟩)
        | (go_at_call 51
           refine d5.mono ?_
           rintro e w4 ⟨rfl,y,R,l⟩
           have z:=(az.step (zS wr p).drew (fun _ _ h=>h)).step l Qau
           obtain⟨a6,a7,c,-,-⟩:=z.is
           have e4:=c.at 4 rfl
           have e3:=c.at 3 rfl
           obtain⟨d6,d7⟩:=qaj R l
           clear R l
           clear c z))
       go_wp2_with fail
       go_round
       case rel=>exact⟨i+1,y,oM,sM,by rw[ay.out];exact d6,ax.drew.trans d7⟩
       case measure=>simp[intOf];omega
      ·obtain rfl:i=q:=oM
       have bz:=Qhr hd 0 oM
       obtain⟨d0,d1,s,-,-⟩:=j.is
       have d4:=s.at 4 rfl
       have U:Qdq L D K=(D.writes 0 (F+fr) RW i).sync 0:=by rw[cm.out];unfold Dev.lay;rw[br.out]
       obtain⟨ax,d8,az,b0⟩:=qb9 r bz j U
       clear r bz j U hd s
       go_wp2_with fail
       refine d8.mono ?_
       rintro e w4 ⟨rfl,y,R,l⟩
       have z:=az.step l Qau
       have d9:=z.isB
       obtain⟨a6,a7,c,ah,ai⟩:=z.is
       have k9:=c.at 9 rfl
       have z9:=c.fz 9
       have b1:=c.set 9 (.int .i64 Z)
       have aj:(Qa8 L bd a6 a7).set 9 (.int .i64 Z)=Qa8 (qac.qcu L K) bd a6 a7:=by rw[bj.out];rfl
       rw[aj] at b1
       have d:Step w4 y (w4.setCell ⟨bl,9,none⟩ (.int .i64 Z)) y (fun g=>g=qb1):=(Step.refl w4 y (fun g=>g=qb1)).set (o:=9) c.tag rfl _
       have c3:qaw (w4.setCell ⟨bl,9,none⟩ (.int .i64 Z)) y bl bd (qac.qcu L K) :=
        ⟨⟨a6,a7,b1,by have:=ah.step d (by simp[qa5,qb1]);exact this,by have:=ai.step d (by simp[qa6,qb1]);exact this⟩,d9,bi⟩
       have b2:=R.step d (fun g hg=>by subst hg;exact⟨Qau _ (.inl rfl),by simp[qb1,qa2]⟩)
       have X:=((b7.nz (T:=qbc)).trans ct.nz).trans ((ax.mono (T:=qbc) (fun _ h=>.inr h)).trans ((l.mono (T:=qbc) (fun _ h=>.inr h)).trans (d.mono (T:=qbc) (fun g hg=>.inl (.inl hg)))))
       rw[<-b0.out] at b2
       obtain⟨db,dc,b4⟩:=qan c3 b2 X
       clear c3 b2 X c ah ai b1 aj d z R l
       go_wp2_with fail
       go_returns
       exact⟨rfl,k,false,ak,by rw[show k+(if false=true then 1 else 0)=K from b6];exact qey.yes bg db dc b4⟩
def tWr:Tag:=(95,0)
def tWb:Tag:=(96,0)
structure qh5 (n0:Nat) (w:World) (τ:qa1) (bw:Nat) (l:List Int):Prop where
 is:∃v,Own w τ bw tWr 241 [v]/\NB n0 w τ tWb v l
 low:n0<=bw
theorem qh5.step {n0:Nat} {w b:World} {a:qa1} {S:Tag->Prop} {c:Nat} {l:List Int}(h:qh5 n0 w τ c l) (m:Step w τ b a S) (h1:¬S tWr) (h2:¬S tWb):qh5 n0 b a c l:=by
 obtain⟨v,d,e⟩:=h.is
 exact⟨⟨v,d.step m h1,e.step m h2⟩,h.low⟩
theorem Qa4 {w0 w:World} {O:qa1} {E:Nat} {l:List Int}(R:Step w0 O w τ nil) (h:qh5 w0.heap.size w τ E l) (hsz:l.length<=100000) (n k:Nat) (hn:n<2 ^ 64) (h1:1<=k) (h8:k<=8) :
 Calls Tryz.prog 143 #[.pointer (some ⟨E,0,none⟩),.int .u64 n,.int .i64 k] w fun e U=>e = .returned (.tuple #[])/\∃F,qh5 w0.heap.size U F E (l++leB n k)/\Step w0 O U F nil/\Step w τ U F (fun t=>t=tWr\/t=tWb):=by
 obtain⟨v,ho,hb⟩:=h.is
 have r:=h.low
 obtain⟨p,c,rfl⟩:=hb.val
 have c0:=ho.at 0 rfl
 have s:=Qeu w.drew τ qa2 n k hn h1 h8
 have X:=ho.drew
 have Y:=hb.drew
 have x:=R.drew
 have Z:=(Step.refl w τ (fun t=>t=tWr\/t=tWb)).drew
 have a0:(leB n k).length=k:=Qaa n k
 generalize leB n k=m at *
 obtain⟨a1,af,ag,a2,ah,ai⟩:=qcq s X Y x a0 Z
 clear s X Y x a0 Z h ho hb R hn
 go_enter Tryz.func143,Tryz.ntmps143
 go_wp2_with fail
 refine Qaf (S:=fun U:World=>U.cell? ⟨E,0,none⟩=some (.slice p l.length c)) kR ?_
 have aj:w.drew.cell? ⟨E,0,none⟩=some (.slice p l.length c):=c0
 refine tk0 [0,1,2,3,4,5,6] ?_
 iterate 7
  refine tkv (v:=?_) ?_ ?_
  rotate_left
  ·intro w ak;(try dsimp only at ak);go_simp
   all_goals with_reducible rfl
  try simp only[Act.put,lz1,lz2,lz3]
 refine tk9 ?_
 clear aj
 refine Qst (i:=7) dK rfl (fun K a=>?_)
 go_simp
 go_at_call 147
 refine a1.mono ?_
 rintro e w7 ⟨u7,τ7,rfl,G,a3,a4⟩
 have d:=Step.of nil a4 a3
 have I:=af.step d id
 have a5:=ag.step d id
 have y:=a2.trans d
 have a6:=ai.trans (d.nz)
 have d0:=I.at 0 rfl
 obtain⟨p7,c7,rfl,-,-⟩:=G.any
 obtain⟨al,am,an,a7,ao⟩:=qbq G I a5 y a6
 clear G I a5 y a6 a3 a4 d
 refine a.out _ _ (fun _=>d0) ?_
 clear a K
 refine Qst (i:=8) dK rfl (fun K a=>?_)
 refine Ql7 a7 an al (by rw[ah.out];omega) rfl _ _ rfl rfl rfl ?_
 intro v8 w8 q J z L
 obtain⟨p8,c8,rfl⟩:=J.val
 have j:=am.step L dC
 have e0:=j.at 0 rfl
 have z0:=j.fz 0
 have B:=j.set 0 (.slice p8 (l++m).length c8)
 have C:=z.qa3 (b:=E) (o:=0) r (.slice p8 (l++m).length c8)
 have M:Step w8 q (w8.setCell ⟨E,0,none⟩ (.slice p8 (l++m).length c8)) q (fun t=>t=tWr):=(Step.refl w8 q (fun t=>t=tWr)).set (o:=0) j.tag rfl _
 have a8:=J.step M dC
 have a9:=(ao.trans (L.mono (T:=fun t=>t=tWr\/t=tWb) (fun _ h=>.inr h))).trans (M.mono (fun _ h=>.inl h))
 generalize (l++m).length=lm at *
 obtain⟨aa,ab,aw,ax⟩:=qb9 B C a8 a9
 clear B C a8 a9 j J z L M
 refine a.out _ _ (fun _=>e0) ?_
 clear a K
 refine Qst (i:=9) dK rfl (fun K a=>?_)
 go_simp
 refine a.out _ _ (fun _=>e0) ?_
 clear a K
 refine Qst (i:=10) dK rfl (fun K a=>?_)
 go_simp
 refine a.out _ _ (fun _=>e0) ?_
 clear a K
 refine Qst (i:=11) dK rfl (fun K a=>?_)
 go_simp
 refine a.out _ _ (fun h=>absurd h dK) ?_
 clear a K
 refine Qad kR ?_ _
 go_wp2_with fail
 go_returns
 exact⟨rfl,q,⟨⟨_,aa,aw⟩,r⟩,ab,ax⟩
theorem Qgv (a ys:List Value) (off:Nat) (cs:List Value) (h:off+cs.length<=a.length):over (a++ys) off cs=over a off cs++ys:=by
 unfold over
 rw[List.take_append_of_le_length oM,List.drop_append_of_le_length h]
 simp only[Y9]
theorem NB.row {n0:Nat} {w:World} {v:Value} {l:List Int}(h:NB n0 w τ g v l) (h0:0<l.length):∃b cap ys,v = .slice (some ⟨b,0,none⟩) l.length cap/\Own w τ b g 5 (u8s l++ys)/\cap<=l.length+ys.length/\l.length<=cap/\cap<=maxLen/\n0<=b:=by
 obtain⟨hx,⟨_,he⟩|⟨b,cap,ys,rfl,c,a,d,e⟩⟩:=h.buf
 ·omega
 ·rw[Qac,Nat.mul_one] at a
  exact⟨b,cap,ys,rfl,c,a,d,e,h.low b rfl⟩
theorem NB.mk' {n0:Nat} {w:World} {l:List Int} {b cap:Nat} {ys:List Value}(a:Own w τ b g 5 (u8s l++ys)) (hB:IsB l) (c:cap<=l.length+ys.length) (h4:l.length<=cap) (d:cap<=maxLen) (hlow:n0<=b):NB n0 w τ g (.slice (some ⟨b,0,none⟩) l.length cap) l :=
 ⟨⟨by rw[Qac,Nat.mul_one],.inr ⟨b,cap,ys,rfl,a,by rw[Qac,Nat.mul_one];exact c,oM,d⟩⟩,hB,fun k e=>by
   have:b=k:=by simpa [Value.ownBlock] using e
   omega⟩
theorem Qfx {w:World} {v:Value} {l:List Nat}(c:Ints w τ g v l) (x:Nat) {G:Int}(n:G=(x:Int)) (hsz:l.length<=1000000000) {kb:Nat}(p:kb=w.heap.size)
 {ops:Array Oper} {o:Oper} {a:Act} {K:Act->World->Prop} {Q:Exit->Act->World->Prop} {E:Prop} (q:o.guard=none) (s y:Operand)
 (r:o.op = .call {callee:=.builtin .append,args:=#[s,y],argTypes:=#[121,121]}) (I:a.eval s=v) (J:a.eval y = .slice (some ⟨kb,0,none⟩) 1 1)
 (h:∀j d b,Ints d b g j (l++[x])->Step w τ d b (fun t=>t=g)->K (a.put o.dst j) d):if Region.wanted o (yielded ops a.tmps)=true then Oper.wp Tryz.prog o a (w.alloc (.cells #[.int .i64 G] 3)) K Q else E:=by
 subst p
 subst n
 have L:Region.wanted o (yielded ops a.tmps)=true:=by simp[Region.wanted,q]
 rw[if_pos L]
 obtain⟨M,hi,z,B,C⟩:=info_parts Tryz.infoInt
 have e:Step w τ (w.alloc (.cells #[.int .i64 x] 3)) τ nil:=(zS w τ).alloc' _
 have i:=c.step e id
 obtain⟨j,d,b,O,F,R,U,hnw⟩:=Qap (P:=Tryz.prog) (w.alloc (.cells #[.int .i64 x] 3)) τ g 121 o.type 3 M (.int .i64 0) 1 8 Tryz.underlying121 hi z B C rfl dC v l.length (qhm l) i
  (some ⟨w.heap.size,0,none⟩) 1 1 [.int .i64 x] rfl (fun h=>by cases h) (by
    intro ad had;cases had;exact World.news_of_block (cs:=#[.int .i64 x]) (t := 3) (fr:=(0,0)) (heap_alloc_new w _)) (by simp[Value.oneCell']) (by unfold maxLen;omega) oM
 unfold Oper.wp execOp
 simp only[r,resolve,invoke,builtin,Sem.run_bind,Sem.run_pure,Result.andThen_ok,List.map_toArray,X0,List.map_nil,I,J,O]
 refine h j d b ?_ ((e.nz).trans ⟨U.mono (fun k hk X=>(i.own k X).1),R⟩)
 unfold Ints
 rw[Z6,Qlj];exact F
def qac.more (L:qac) (b:List Int):qac:={L with stream:=L.stream++b,starts:=L.starts++[L.stream.length]}
theorem Qd6 {x:Int}(h0:0<=x) (h:x<9223372036854775808):IntKind.i64.wrap x=x:=by
 obtain⟨n,rfl⟩:∃n:Nat,x=(n:Int):=⟨x.toNat,oM⟩
 exact Qbr n oM
def w_z (w:World):World:={w with heap:=#[]}
theorem Qyk (w:World) (τ:qa1) (S:Tag->Prop):Step (w_z w) τ w τ S:=⟨⟨rfl,rfl,rfl,by simp[w_z],fun k a=>absurd a (by simp[w_z])⟩,fun k a=>absurd a (by simp[w_z])⟩
theorem Buf.drew {w:World} {e:TypeId} {size:Nat} {v:Value} {n:Nat} {a:List Value}(h:Buf w τ g e size v n a):Buf w.drew τ g e size v n a:=h.step (Step.refl w τ Go.Proofs.YtociicnopccppaaGreat.nil).drew id
theorem Qpi {w:World} {v:Value} {l:List Int}(h:Buf w τ g 5 1 v l.length (u8s l)) (hB:IsB l):NB (w_z w).heap.size w τ g v l:=⟨h,hB,fun k _=>Z9 _⟩
theorem Qnd {α:Type} {l:List α} {j:Nat} {v:α}(h:l[j]?=some v):l.set j v=l:=by
 apply List.ext_getElem?
 intro i
 by_cases e:i=j
 ·subst e
  rw[List.getElem?_set_self (Z4 h).1,h]
 ·rw[List.getElem?_set_ne (fun q=>e q.symm)]
theorem Qvw (f:Fr) (v n:Nat):Fr.has {f with first:=v} n=f.has n:=rfl
theorem Qm9 {F:List Fr} {i:Nat} {f:Fr}(a:F[i]?=some f) (v:Nat):Qaq (F.set i {f with first:=v})=Qaq F:=by
 funext n
 unfold Qaq
 induction F generalizing i with
 | nil=>rfl
 | cons g F ih =>
   cases i with
   | zero =>
     have e:g=f:=by simpa using a
     subst e
     rw[List.set_cons_zero,List.findIdx?_cons,List.findIdx?_cons,Qvw]
   | succ i =>
     rw[List.set_cons_succ,List.findIdx?_cons,List.findIdx?_cons,ih (by simpa using a)]
theorem Qob {F:List Fr} {i:Nat} {f:Fr}(b:F[i]?=some f) (v:Nat):(Qao F).set (i*3+2) (.int .u64 v)=Qao (F.set i {f with first:=v}):=by
 obtain⟨hi,a⟩:=Z4 b
 have h:(((Qao F).set (i*3) (.pointer (f.pg.map (fun x=>(⟨x.1,0,none⟩:Addr))))).set (i*3+1) (.int .u32 f.n)).set (i*3+2) (.int .u64 v)=Qao (F.set i {f with first:=v}):=Qd8 F i {f with first:=v} hi
 have h0:(Qao F)[i*3]?=some (.pointer (f.pg.map (fun x=>(⟨x.1,0,none⟩:Addr)))):=by
  have:=Qci F i 0 oM hi
  rw[a] at this
  exact this
 have h1:(Qao F)[i*3+1]?=some (.int .u32 f.n):=by
  have:=Qci F i 1 oM hi
  rw[a] at this
  exact this
 rw[Qnd h0,Qnd h1] at h
 exact h
theorem qau.qi8 {w:World} {bf:Nat} {H:qaq} {F:List Fr} {s:Ck.Clk.St}(h:qau w τ bp bf H F s) {i:Nat}{f:Fr}(o:F[i]?=some f) (v:Nat) :
 qau (w.setCell ⟨bf,i*3+2,none⟩ (.int .u64 v)) τ bp bf H (F.set i {f with first:=v}) s/\Step w τ (w.setCell ⟨bf,i*3+2,none⟩ (.int .u64 v)) τ (fun g=>g=tFr):=by
 have m:Step w τ (w.setCell ⟨bf,i*3+2,none⟩ (.int .u64 v)) τ (fun g=>g=tFr):=(Step.refl w τ (fun g=>g=tFr)).set h.fr.tag rfl _
 have l:=h.fr.set (i*3+2) (.int .u64 v)
 rw[Qob o] at l
 obtain⟨hi,hfi⟩:=Z4 o
 have c:∀(j:Nat) (g:Fr),(F.set i {f with first:=v})[j]?=some g->∃d,F[j]?=some d/\d.pg=g.pg/\d.n=g.n:=fun j g p=>by
  by_cases e:i=j
  ·subst e
   rw[List.getElem?_set_self hi] at p
   cases p
   exact⟨f,o,rfl,rfl⟩
  ·rw[List.getElem?_set_ne e] at p
   exact⟨g,p,rfl,rfl⟩
 refine⟨⟨h.hd.step m dC,by rw[Y1];exact h.vf,l,?_,by rw[Qm9 o];exact h.mp.step m dC,h.ck.step m dC,h.n1,by rw[Y1];exact h.k1,by rw[Y1];exact h.sn,h.st,?_,?_⟩,m⟩
 ·intro j b P k
  cases q:(F.set i {f with first:=v})[j]? with
  | none=>rw[q] at k;cases k
  | some g =>
    obtain⟨d,h1,h2,_⟩:=c j g q
    rw[q] at k
    refine(h.pg j b P ?_).step m (by simp[tPg,tFr])
    rw[h1]
    exact h2.trans k
 ·intro a b n g C r k h1 h2
  obtain⟨d,x,y,z⟩:=c a g r
  obtain⟨B,E,G,I⟩:=c b C k
  exact h.one a b n d B x E (by unfold Fr.has at *;rw[y,z];exact h1) (by unfold Fr.has at *;rw[G,I];exact h2)
 ·intro a n g r h1
  obtain⟨d,x,y,z⟩:=c a g r
  exact h.low a n d x (by unfold Fr.has at *;rw[y,z];exact h1)
def qbe (g:Tag):Prop:=qb3 g\/qbc g
def flL (L:qac) (k:Nat):qac:=if Qbj L k=true then L.qcu k else L
def flD (L:qac) (D:Dev) (k:Nat):Dev:=if Qbj L k=true then Qdq L D k else D
def wrD (D:Dev) (N n:Nat) (P:List Int) (st:Nat):Dev:=(D.lay 1 (4*N) (qao P st)).lay 1 (4*n) (qao P st)
theorem Qyt (L:qac) (D:Dev) (k:Nat):(flD L D k).f1.length=D.f1.length/\(flD L D k).f0.length=D.f0.length:=by
 have h:∀(E:Dev),E.file 1=E.f1:=fun E=>rfl
 have h0:∀(E:Dev),E.file 0=E.f0:=fun E=>rfl
 unfold flD
 by_cases e:Qbj L k=true
 ·rw[if_pos e]
  unfold Qdq
  exact⟨by rw[<-h,<-h,Dev.qbg _ _ _ oM],by rw[<-h0,<-h0,Dev.qbg _ _ _ oM]⟩
 ·rw[if_neg e];exact⟨rfl,rfl⟩
theorem Qsl {L:qac}(h:D.Calm) (k:Nat):(flD L D k).Calm:=by
 unfold flD
 by_cases e:Qbj L k=true
 ·rw[if_pos e];exact h.lay oM _ _
 ·rw[if_neg e];exact h
theorem Jgn {L:qac}(h:D.lim 600000) (a:L.qfh) (hcap:L.stream.length<=127*L.strips) (hs:L.strips<=2047) (k:Nat):(flD L D k).lim 700000:=by
 unfold flD
 by_cases e:Qbj L k=true
 ·rw[if_pos e]
  have h1:=Qd9 L a k
  have h2:=qac.qcb a (k-1)
  have h3:L.qal k=L.qd8 (k-1):=rfl
  have:=Dev.qix h 0 (L.qam+L.lasts/127) oM (Qdp L k)
  refine Dev.qbb this ?_
  rw[h1]
  unfold parts
  omega
 ·rw[if_neg e];exact Dev.qbb h oM
def Qwm (w:World) (τ:qa1) (bp bf bd:Nat) (H:qaq) (L:qac) (D:Dev) (F:List Fr) (s:Ck.Clk.St) (i:Nat) (f:Fr) (P:List Int) (w':World):Prop :=
 ∃(k:Nat) (fl:Bool) (τ':qa1),L.AtR (qaa P) k fl/\qbz w' τ' bp bf bd {H with st:=H.st+1} (flL L (k+(if fl then 1 else 0))) (wrD (flD L D (k+(if fl then 1 else 0))) H.n f.n P (H.st+1)) (F.set i {f with first:=0}) s/\Step w τ w' τ' qbe
theorem Quh {w:World} {bf:Nat} {H:qaq} {F:List Fr} {s:Ck.Clk.St}(h:qau w τ bp bf H F s) {c:World}{a:qa1}(m:Step w τ c a qbc):qau c a bp bf H F s :=
 h.step m (fun g d b=>by
  rcases b with b|b
  ·exact Qbo b d
  ·exact(Qbg d).1 b)
theorem Qqu (i:Nat):¬qbc (tPg i):=by
 rintro(h|h)
 ·exact Qbo h (.inr (.inr (.inr (.inr ⟨i,rfl⟩))))
 ·exact(Qbg (.inr (.inr (.inr (.inr ⟨i,rfl⟩))))).1 h
theorem Qhw {w:World} {bf:Nat} {H:qaq} {L:qac} {F:List Fr} {s:Ck.Clk.St}(h:qbz w τ bp bf bd H L D F s) (hr:L.qfh) (z:L.stream.length<=127*L.strips) (al:L.qam+L.strips<=D.f0.length) (am:4*H.n+4<=D.f1.length) (d:D.lim 600000) (an:H.st+1<18446744073709551616)
 {i:Nat} {f:Fr} {b:Nat} {P:List Int} (hf:F[i]?=some f) (r:f.pg=some (b,P)) (hfn:f.n<H.n) {m:Nat} (hm:qaa P=m) (b3:m<18446744073709551616) :
 Calls Tryz.prog 89 #[.pointer (some ⟨bp,0,none⟩),.pointer (some ⟨bf,i*3,none⟩)] w fun e y=>e = .returned (.tuple #[])/\Qwm w τ bp bf bd H L D F s i f P y:=by
 have hn512:=h.pool.n1
 have hP:qag w τ (tPg i) b P:=h.pool.pg i b P (by rw[hf];exact r)
 have a7:=hP.len
 obtain⟨c0,c1,c2⟩:=h.pool.cells hf
 rw[r] at c0
 simp only[Option.map_some] at c0
 have d0:=h.pool.hd.at 0 rfl
 have B:=Qhe (hP.step (zS w τ).drew id)
 rw[hm] at B
 have b4:=Qor (h.log.step (zS w τ).drew (fun _ _ h=>h)) (h.dev.step (zS w τ).drew (fun _ h=>h.elim)) hr z al (Dev.qbb d oM) m b3
 have b5:=h.pool.step (zS w τ).drew (fun _ _ h=>h)
 have b6:=hP.step (zS w τ).drew id
 have l:=fun k=>Jgn d hr z h.log.ok.strips k
 obtain⟨a8,b7,b8,b9,Hf,Y⟩:=qcq B b4 b5 b6 hf l
 clear B b4 b5 b6 hf l h hP z hr d
 go_enter Tryz.func89,Tryz.ntmps89
 go_wp2_with fail
 go_region_held3 (fun y=>y.cell? ⟨bp,0,none⟩=some (.pointer (some ⟨H.bl,0,none⟩))/\y.cell? ⟨bf,i*3,none⟩=some (.pointer (some ⟨b,0,none⟩))) (go_keep) (first
  | (go_at_call 114
     refine a8.mono ?_
     rintro e w2 ⟨rfl,rfl⟩)
  | (go_at_call 16
     refine b7.mono ?_
     rintro e w1 ⟨rfl,k,fl,ba,τ1,bb,bc,Z⟩
     have x:=Quh b8 Z
     have be:=b9.step Z (Qqu i)
     obtain⟨x0,x1,x2⟩:=x.cells Hf
     rw[r] at x0
     simp only[Option.map_some] at x0
     have y0:=x.hd.at 0 rfl
     have y5:=x.hd.at 5 rfl
     have cz:=x.hd.fz 5
     obtain⟨d1,bg,bh,bi,ap,bj⟩:=qcq ba bb bc Z x be
     clear ba bb bc Z x be))
 have a9:=Qyt L D (k+(if fl=true then 1 else 0))
 have o:=Y (k+(if fl=true then 1 else 0))
 have bk:qaw w1 τ1 H.bl bd (flL L (k+(if fl=true then 1 else 0))):=bg.out
 have bm:qax w1 τ1 bd (flD L D (k+(if fl=true then 1 else 0))):=bh.out
 have bn:∀(y:World) (a0:qa1),qbz y a0 bp bf bd {H with st:=H.st+1} (flL L (k+(if fl=true then 1 else 0))) (wrD (flD L D (k+(if fl=true then 1 else 0))) H.n f.n P (H.st+1)) (F.set i {f with first:=0}) s->Step w τ y a0 qbe->Qwm w τ bp bf bd H L D F s i f P y :=
  fun y a0 h1 h2=>⟨k,fl,a0,by rw[hm];exact d1,h1,h2⟩
 generalize flL L (k+(if fl=true then 1 else 0))=L1 at *
 generalize hE:flD L D (k+(if fl=true then 1 else 0))=E at *
 have aa:=Qam (H.st+1) an
 have hwst':IntKind.u64.wrap ((H.st:Int)+1)=((H.st+1:Nat):Int):=aa
 have bo:=ap.setSt (H.st+1) an
 have C:Step w1 τ1 (w1.setCell ⟨bp,5,none⟩ (.int .u64 ((H.st+1:Nat):Int))) τ1 (fun g=>g=qcd):=(Step.refl w1 τ1 (fun g=>g=qcd)).set ap.hd.tag rfl _
 have bq:=bk.step C (fun g j=>by rintro rfl;exact Qbo j (.inl rfl))
 have br:=bm.step C (fun g j=>by subst j;exact Qbg (.inl rfl))
 have bs:=bj.step C (by simp[tPg,qcd])
 have ab:=(bi.mono (T:=qbe) (fun _ h=>.inr h)).trans (C.mono (T:=qbe) (fun g j=>.inl (.inl j)))
 generalize d2:H.st+1=S1 at *
 obtain⟨d3,bv,bw,d4,bz,c5,p,c6⟩:=qen bo bq br bs ab bn o a9
 clear bo bq br bs ab bn o a9 d2 C aa bk bm bi ap bg bh bj b8 b9 b7 a8
 go_wp2_with fail
 generalize d5:w1.setCell ⟨bp,5,none⟩ (.int .u64 S1)=w2 at *
 have a1:=d3.out
 obtain⟨g0,g1,g2⟩:=a1.cells Hf
 rw[r] at g0
 simp only[Option.map_some] at g0
 have g5:=a1.hd.at 5 rfl
 have c7:=Qhy (d4.step (zS w2 τ1).drew id) qa2
 have ac:=a1.step (zS w2 τ1).drew (fun _ _ h=>h)
 have ad:S1<2 ^ 64:=by rw[show (2:Nat) ^ 64=18446744073709551616 from by decide];exact an
 obtain⟨c8,ae,c9,ca⟩:=qb9 c7 ac ad a7
 clear c7 ac ad a7 a1 d5 x0 x1 x2 y0 y5 cz c0 c1 c2 d0
 go_region_held3 (fun y=>y.cell? ⟨bf,i*3,none⟩=some (.pointer (some ⟨b,0,none⟩))/\y.cell? ⟨bp,5,none⟩=some (.int .u64 S1)) (go_keep) (first
  | (go_at_call 150
     refine c8.mono ?_
     rintro e w3 ⟨u3,τ3,rfl,aq,ar⟩
     have cb:=Qw5 aq.bytes ca S1 c9
     have a2:=ae.step ar zN
     obtain⟨p3,c3,rfl⟩:=aq.val
     obtain⟨r0,r1,r2⟩:=a2.cells Hf
     rw[r] at r0
     simp only[Option.map_some] at r0
     have r5:=a2.hd.at 5 rfl
     obtain⟨cc,cd,ce⟩:=qan cb ar a2
     clear cb ar a2
     clear aq)
  | (go_at_call 149
     refine cc.mono ?_
     rintro e w4 ⟨u4,τ4,rfl,a,av⟩
     have G:=ce.step av zN
     obtain⟨p4,c4,rfl⟩:=a.val
     obtain⟨q0,q1,q2⟩:=G.cells Hf
     rw[r] at q0
     simp only[Option.map_some] at q0
     have q5:=G.hd.at 5 rfl
     have q5a:=G.hd.at 1 rfl
     obtain⟨I,cf,cg⟩:=qan a av G
     clear a av G))
 have c:=Qet P S1
 have J:(E.lay 1 (4*H.n) (qao P S1)).lim 800000:=Dev.qbb (Dev.qix p 1 (4*H.n) oM _) (by rw[c];omega)
 have aw:E.f1.length=D.f1.length:=c6.1
 have ax:=Dev.qbg E 1 (4*H.n) oM (qao P S1) 1
 have M:∀(E:Dev),E.file 1=E.f1:=fun E=>rfl
 rw[M,M] at ax
 have af:wrD E H.n f.n P S1=(E.lay 1 (4*H.n) (qao P S1)).lay 1 (4*f.n) (qao P S1):=rfl
 rw[af] at c5
 generalize qao P S1=ls at *
 have q:=(zS w2 τ1).drew.trans (cd.trans cf)
 have ay:=bv.step q zN
 have ch:=bw.step q zE
 have a:=I.row
 rw[c] at a ⊢
 have O:=Qkw cg.hd ay ch H.n (by rw[aw];exact am) a (by simp[qah,qe3]) c (Dev.qbb p oM)
 have ag:=bz.trans q.nz
 obtain⟨R,ah,ci,I,cj,az,d6,d7⟩:=qen O ag ay a c J aw ax
 clear O ag ay a c J aw ax M q ch c8 cc cd cf ce ae bv bw af
 go_wp2_with fail
 refine R.mono ?_
 rintro e w5 ⟨rfl,τ5,ck,U⟩
 have a3:=cg.step U (fun g j hS=>(Qbg j).1 hS)
 have b0:=ci.step U Qau
 have ai:=I.step U (by simp[qah,qe3]) Qay
 have X:=Qkw a3.hd b0 ck f.n (by rw[d7.out,d6.out];omega) ai (by simp[qah,qe3]) cj az
 obtain⟨k0,k1,k2⟩:=a3.cells Hf
 have aj:=ah.trans (U.mono (T:=qbe) (fun _ h=>.inr (.inr h)))
 obtain⟨b1,d9,da,cm⟩:=qb9 X a3 b0 aj
 clear X a3 b0 aj ck U ai R ah ci
 go_wp2_with fail
 refine b1.mono ?_
 rintro e w6 ⟨rfl,db,cn,a4⟩
 have a5:=d9.step a4 (fun g j hS=>(Qbg j).1 hS)
 have co:=da.step a4 Qau
 obtain⟨m0,m1,m2⟩:=a5.cells Hf
 have mz2:=a5.fr.fz (i*3+2)
 obtain⟨cp,a6⟩:=a5.qi8 Hf 0
 have cq:=co.step a6 (fun g j=>by rintro rfl;exact Qbo j (.inr (.inl rfl)))
 have cr:=cn.step a6 (fun g j=>by subst j;exact Qbg (.inr (.inl rfl)))
 have ak:=(cm.trans (a4.mono (T:=qbe) (fun _ h=>.inr (.inr h)))).trans (a6.mono (T:=qbe) (fun g j=>.inl (.inr (.inl j))))
 obtain⟨dc,dd,de,cs⟩:=qb9 cp cq cr ak
 clear cp cq cr ak a5 co cn a4 a6
 go_wp2_with fail
 go_returns
 exact⟨rfl,c5 _ db ⟨dc,dd,de⟩ ((Step.refl w τ qbe).drew.trans cs)⟩
structure qjf where
 stamp:Nat
 base:Nat
 check:Nat
 qc0:Nat
def Jct (l:List Int):qjf:=⟨leN (l.take 8) 8,leN ((l.drop 9).take 8) 8,leN ((l.drop 17).take 8) 8,(l.getD 8 0).toNat⟩
def Jc3 (l:List Int):Bool:=decide ((Jct l).stamp≠0) && decide (0<(Jct l).base/\(Jct l).base<=9223372036854775808) && decide ((Jct l).qc0<2) && decide (l=qdg (Jct l).stamp (Jct l).base (Jct l).check (Jct l).qc0)
def qbo (D:Dev):Nat->qjf×Nat
 | 0=>(⟨0,0,0,0⟩,0)
 | i+1=>if Jc3 (D.last 0 i)=true/\(qbo D i).1.stamp<(Jct (D.last 0 i)).stamp then (Jct (D.last 0 i),i) else qbo D i
theorem Ji8 {s b c a:Nat}(h:s<2 ^ 64) (i:b<2 ^ 64) (j:c<2 ^ 64):Jct (qdg s b c a)=⟨s,b,c,a⟩:=by
 have d:=fun n:Nat=>Qaa n 8
 have k:(qdg s b c a).take 8=leB s 8:=by
  unfold qdg
  simp only[Y9]
  rw[List.take_append_of_le_length (by rw[d];exact Z0 _),List.take_of_length_le (by rw[d];exact Z0 _)]
 have e:(qdg s b c a).drop 9=leB b 8++leB c 8++List.replicate 95 0++leB s 8:=by
  unfold qdg
  rw[show leB s 8++[(a:Int)]++leB b 8++leB c 8++List.replicate 95 0++leB s 8=(leB s 8++[(a:Int)])++(leB b 8++leB c 8++List.replicate 95 0++leB s 8) by simp only[Y9]]
  rw[List.drop_append_of_le_length (by rw[Z6,d];exact Z0 _),List.drop_of_length_le (by rw[Z6,d];exact Z0 _),List.nil_append]
 have l:(qdg s b c a).drop 17=leB c 8++List.replicate 95 0++leB s 8:=by
  rw[show (17:Nat)=9+8 from rfl,<-List.drop_drop,e]
  rw[show leB b 8++leB c 8++List.replicate 95 0++leB s 8=leB b 8++(leB c 8++List.replicate 95 0++leB s 8) by simp only[Y9]]
  rw[List.drop_append_of_le_length (by rw[d];exact Z0 _),List.drop_of_length_le (by rw[d];exact Z0 _),List.nil_append]
 have o:(qdg s b c a).getD 8 0=(a:Int):=by
  unfold qdg
  rw[show leB s 8++[(a:Int)]++leB b 8++leB c 8++List.replicate 95 0++leB s 8=leB s 8++((a:Int)::(leB b 8++leB c 8++List.replicate 95 0++leB s 8)) by simp only[Y9,List.cons_append,List.nil_append]]
  rw[Z5,Y6 (by rw[d];exact Z0 _),d]
  rfl
 unfold Jct
 rw[k,e,l,o]
 have t:=fun (x:Nat) (p:x<2 ^ 64) (r:List Int)=>show leN ((leB x 8++r).take 8) 8=x by
  rw[List.take_append_of_le_length (by rw[d];exact Z0 _),List.take_of_length_le (by rw[d];exact Z0 _),Qdl x 8 8 (Z0 _)]
  exact Nat.mod_eq_of_lt p
 rw[Qdl s 8 8 (Z0 _),Nat.mod_eq_of_lt h]
 have h2:=t b i (leB c 8++List.replicate 95 0++leB s 8)
 have q:=t c j (List.replicate 95 0++leB s 8)
 rw[Y9,Y9,<-Y9 (leB c 8),h2,Y9,q]
 rfl
theorem Jjn {s b c a:Nat}(e:s<2 ^ 64) (hs0:0<s) (h:b<=9223372036854775808) (d:0<b) (i:c<2 ^ 64) (j:a<2):Jc3 (qdg s b c a)=true:=by
 unfold Jc3
 rw[Ji8 e oM i]
 simp only[Bool.and_eq_true,decide_eq_true_eq]
 exact⟨⟨⟨oM,d,h⟩,j⟩,by first|rfl|trivial⟩
theorem Jj4 (st:List Int) (j:Nat):(Qbt st j).getD 127 0=((qat st j).length:Int):=by
 have hl:=Qb5 st j
 unfold Qbt
 rw[Z5,Y6 (by simp only[Z6,Z7];omega)]
 simp only[Z6,Z7]
 rw[show 127-((qat st j).length+(127-(qat st j).length))=0 by omega]
 rfl
theorem Jj3 (st:List Int) (j:Nat):(Qbt st j).take (qat st j).length=qat st j:=by
 unfold Qbt
 rw[Y9,List.take_append_of_le_length (Z0 _),List.take_length]
theorem Jjv (st:List Int):∀(n i:Nat),st.length<=(i+n)*127->Jcu ((List.range n).map (fun k=>Qbt st (i+k)))=st.drop (i*127):=by
 intro n
 induction n with
 | zero =>
   intro i h
   rw[List.drop_of_length_le (by simpa using h)]
   rfl
 | succ n ih =>
   intro i h
   rw[List.range_succ_eq_map,X0,List.map_map]
   have e:(List.range n).map ((fun k=>Qbt st (i+k)) ∘ Nat.succ)=(List.range n).map (fun k=>Qbt st (i+1+k)):=List.map_congr_left (fun k _=>by show Qbt st (i+(k+1))=_;congr 1;omega)
   rw[e]
   show (if 127<(Qbt st (i+0)).getD 127 0 then [] else (Qbt st (i+0)).take ((Qbt st (i+0)).getD 127 0).toNat++(if (Qbt st (i+0)).getD 127 0<127 then [] else Jcu _))=_
   rw[Nat.add_zero,Jj4,Int.toNat_natCast,Jj3]
   have hl:=Qb5 st i
   rw[if_neg oM]
   by_cases hf:(qat st i).length<127
   ·rw[if_pos oM,List.append_nil]
    unfold qat
    rw[List.take_of_length_le (by rw[List.length_drop];omega)]
   ·rw[if_neg oM,ih (i+1) (by rw[show i+1+n=i+(n+1) by omega];exact h)]
    unfold qat
    rw[show (i+1)*127=i*127+127 by omega,<-List.drop_drop,List.take_append_drop]
theorem Jjg {st:List Int} {a j:Nat}(h:(j+1)*127<=a) (ha:a<=st.length):Qbt (st.take a) j=Qbt st j:=by
 have e:qat (st.take a) j=qat st j:=by
  unfold qat
  rw[List.drop_take,List.take_take,Nat.min_eq_left oM]
 unfold Qbt
 rw[e]
theorem Ji4 {st:List Int} {j:Nat}(h:st.length<=j*127):Qbt st j=List.replicate 128 0:=by
 have e:qat st j=[]:=by
  unfold qat
  rw[List.drop_of_length_le h];rfl
 unfold Qbt
 rw[e]
 rfl
structure qdf (L:qac) (D:Dev):Prop where
 slot:L.slot<2
 stamp:0<L.stamp
 head:D.last 0 L.slot=qdg L.stamp L.base L.check L.qc0
 other:(Jct (D.last 0 (1-L.slot))).stamp<L.stamp/\((Jct (D.last 0 (1-L.slot))).stamp=0\/Jc3 (D.last 0 (1-L.slot))=true)
 qc0:∀k,k<L.strips->D.last 0 (L.qam+k)=Qbt (L.stream.take L.lasts) k
 len:L.strips=(D.f0.length-2)/2
theorem Jjh (L:qac):2<=L.qam:=by unfold qac.qam;split <;> omega
theorem qdf.more {L:qac}(h:qdf L D) (hl:L.lasts<=L.stream.length) (b:List Int):qdf (L.more b) D :=
 ⟨h.slot,h.stamp,h.head,h.other,fun k a=>by
  rw[show (L.more b).stream.take (L.more b).lasts=L.stream.take L.lasts from List.take_append_of_le_length hl]
  exact h.qc0 k a,h.len⟩
theorem qdf.file1 {L:qac} {E:Dev}(h:qdf L D) (a:∀j,E.last 0 j=D.last 0 j) (hl:E.f0.length=D.f0.length):qdf L E :=
 ⟨h.slot,h.stamp,by rw[a];exact h.head,by rw[a];exact h.other,fun k b=>by rw[a];exact h.qc0 k b,by rw[hl];exact h.len⟩
theorem qdf.flush {L:qac}(h:qdf L D) (r:L.qfh) (s:D.left=none) (hfit:L.qam+L.strips<=D.f0.length) (hcap:L.stream.length<=127*L.strips) {k:Nat}(w:L.qjx k):qdf (L.qcu k) (Qdq L D k):=by
 have h2:=Jjh L
 have o:=qac.qcb r (k-1)
 have p:=w.2
 obtain⟨d,a⟩:∃d,L.qal k=d:=⟨_,rfl⟩
 have i:d<=L.stream.length:=by rw[<-a];exact o
 rw[a] at p
 have l:(Qdp L k).length=parts d 127-L.lasts/127:=by rw[Qd9 L r,a]
 have hp:parts d 127<=L.strips:=by unfold parts;omega
 have b:∀j,(Qdq L D k).last 0 j=if L.qam+L.lasts/127<=j/\j<L.qam+L.lasts/127+(parts d 127-L.lasts/127) then (Qdp L k).getD (j-(L.qam+L.lasts/127)) [] else D.last 0 j:=fun j=>by
  have:=Dev.qet s (f:=0) oM (L.qam+L.lasts/127) (Qdp L k) (by rw[l];show _<=D.f0.length;omega) 0 j
  rw[l] at this
  unfold Qdq
  rw[this]
  simp only[true_and]
 refine⟨h.slot,h.stamp,?_,?_,fun j x=>?_,by
  show L.strips=(((D.lay 0 _ _).file 0).length-2)/2
  rw[Dev.qbg _ _ _ oM]
  exact h.len⟩
 ·rw[b,if_neg (by have:=h.slot;show ¬(_<=L.slot/\_);omega)]
  exact h.head
 ·have e:(Qdq L D k).last 0 (1-L.slot)=D.last 0 (1-L.slot):=by rw[b,if_neg oM]
  show (Jct ((Qdq L D k).last 0 (1-L.slot))).stamp<L.stamp/\((Jct ((Qdq L D k).last 0 (1-L.slot))).stamp=0\/Jc3 ((Qdq L D k).last 0 (1-L.slot))=true)
  rw[e]
  exact h.other
 ·have q:j<L.strips:=x
  show (Qdq L D k).last 0 (L.qam+j)=Qbt (L.stream.take (L.qal k)) j
  rw[b,a]
  by_cases c:L.lasts/127<=j/\j<parts d 127
  ·rw[if_pos oM]
   have n:(Qdp L k).getD (L.qam+j-(L.qam+L.lasts/127)) []=Qbt (L.stream.take d) j:=by
    unfold Qdp
    rw[a,Z5,List.getElem?_drop,show L.lasts/127+(L.qam+j-(L.qam+L.lasts/127))=j by omega,<-Z5]
    exact Jjl _ _ (by rw[List.length_take,Nat.min_eq_left i];exact c.2)
   exact n
  ·rw[if_neg oM,h.qc0 j q]
   by_cases c1:j<L.lasts/127
   ·rw[Jjg oM oM,Jjg oM i]
   ·have:parts d 127<=j:=oM
    have hle:d<=j*127:=by unfold parts at this;omega
    rw[Ji4 (by rw[List.length_take];omega),Ji4 (by rw[List.length_take];omega)]
theorem qdf.say {L:qac}(h:qdf L D) (q:D.left=none) (hfit:2<=D.f0.length) (x:L.stamp+1<2 ^ 64) (y:L.base<=9223372036854775808) (i:0<L.base) (z:L.qc0<2) {c0 c:Nat}(h0:L.check=c0) (d:c0<2 ^ 64) (hc:c<2 ^ 64):qdf (({L with check:=c}:qac).said) (Qf9 {L with check:=c} D):=by
 have hslot:=h.slot
 have h2:=Jjh L
 have l:(L.stamp+1)%18446744073709551616=L.stamp+1:=Nat.mod_eq_of_lt x
 obtain⟨M,b⟩:=gN (({L with check:=c}:qac).said)
 have r:M.slot=1-L.slot:=by rw[<-b];rfl
 have B:M.stamp=L.stamp+1:=by
  rw[<-b]
  show (L.stamp+1)%18446744073709551616=L.stamp+1
  exact l
 have C:M.head=qdg M.stamp L.base c L.qc0:=by rw[<-b];rfl
 have s:M.strips=L.strips:=by rw[<-b];rfl
 have E:M.qam=L.qam:=by rw[<-b];rfl
 have F:M.stream.take M.lasts=L.stream.take L.lasts:=by rw[<-b];rfl
 have n:M.base=L.base/\M.check=c/\M.qc0=L.qc0:=by rw[<-b];exact⟨rfl,rfl,rfl⟩
 have o:Qf9 {L with check:=c} D=(D.write 0 M.slot M.head).sync 0:=by rw[<-b];rfl
 rw[b,o]
 have a:∀j,((D.write 0 M.slot M.head).sync 0).last 0 j=if j=1-L.slot then M.head else D.last 0 j:=fun j=>by
  rw[Dev.qhc (Dev.qgi q _ _ _) oM,Dev.qgn q oM (by show M.slot<D.f0.length;omega),r]
  simp only[true_and]
 refine⟨oM,oM,?_,?_,fun k w=>?_,by
  show M.strips=((((D.write 0 M.slot M.head).sync 0).file 0).length-2)/2
  rw[Dev.qfy _ _ oM,Dev.qfi _ _ _ oM,s]
  exact h.len⟩
 ·rw[a,r,if_pos rfl,C,n.1,n.2.1,n.2.2]
 ·have p:(Jct (qdg L.stamp L.base c0 L.qc0)).stamp=L.stamp:=by rw[Ji8 oM oM d]
  have e:((D.write 0 M.slot M.head).sync 0).last 0 (1-M.slot)=qdg L.stamp L.base c0 L.qc0:=by
   rw[a,if_neg oM,show 1-M.slot=L.slot by omega,h.head,h0]
  rw[e,p,B]
  exact⟨oM,.inr (Jjn oM h.stamp y i d z)⟩
 ·rw[a,if_neg oM,E,F]
  rw[s] at w
  exact h.qc0 k w
theorem qdf.found {L:qac}(h:qdf L D) (o:L.stamp<2 ^ 64) (s:L.base<=9223372036854775808) (l:0<L.base) (w:L.qc0<2) (p:L.check<2 ^ 64):qbo D 2=(⟨L.stamp,L.base,L.check,L.qc0⟩,L.slot)/\∀i,i<2->(Jct (D.last 0 i)).stamp=0\/Jc3 (D.last 0 i)=true:=by
 have hd:=Ji8 (a:=L.qc0) o oM p (b:=L.base)
 have c:=Jjn o h.stamp s l p w
 rw[<-h.head] at hd c
 have d:=h.other
 have hslot:=h.slot
 have r:qbo D 0=(⟨0,0,0,0⟩,0):=rfl
 have k:∀i,qbo D (i+1)=if Jc3 (D.last 0 i)=true/\(qbo D i).1.stamp<(Jct (D.last 0 i)).stamp then (Jct (D.last 0 i),i) else qbo D i:=fun i=>rfl
 have j:=h.stamp
 rcases (show L.slot=0\/L.slot=1 by omega) with e|e
 ·rw[e] at hd c d
  refine⟨?_,fun i hi=>?_⟩
  ·have f1:qbo D 1=(⟨L.stamp,L.base,L.check,L.qc0⟩,0):=by rw[k 0,r,if_pos ⟨c,by rw[hd];exact j⟩,hd]
   rw[k 1,f1,if_neg (fun q=>absurd (Nat.lt_trans q.2 d.1) (Nat.lt_irrefl _)),e]
  ·rcases (show i=0\/i=1 by omega) with rfl|rfl
   ·exact .inr c
   ·exact d.2
 ·rw[e] at hd c d
  refine⟨?_,fun i hi=>?_⟩
  ·have n:(qbo D 1).1.stamp<L.stamp:=by
    rw[k 0,r]
    split
    ·exact d.1
    ·exact j
   rw[k 1,if_pos ⟨c,by rw[hd];exact n⟩,hd,e]
  ·rcases (show i=0\/i=1 by omega) with rfl|rfl
   ·exact d.2
   ·exact .inr c
