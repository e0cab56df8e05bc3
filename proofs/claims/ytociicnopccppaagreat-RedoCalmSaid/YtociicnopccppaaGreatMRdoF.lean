/-
 A restart: the entries since the last check;nothing done anew;nobody undone.
-/
import Derived.Test.YtociicnopccppaaGreatMKeyB
import Derived.Test.YtociicnopccppaaGreatMSlC
set_option linter.all false
namespace Go.Proofs.YtociicnopccppaaGreat
open Go.RowKit Go.Maps
theorem Jlb {w:World}{τ:qa1}{bl bd N:Nat}{cur:Nat->List Int}{L:qac}(hl:qaw w τ bl bd L) (D:L.qfh) {R:List qak}(y:qca N cur L R) (hn:R.length<=100000) :
 Calls Tryz.prog 60 #[.pointer (some ⟨bl,0,none⟩)] w fun e w'=>∃v X k,e = .returned v/\qdw w' X v (Ji0 R k)/\Step w τ w' X qa4:=by
 have x:=Qwb hl
 have z:L.check<18446744073709551616:=hl.ok.check
 have ab:L.starts.length=R.length:=by rw[y.starts,Qbc]
 have hbase:=y.base
 by_cases hex:∃k,L.AtR L.check k true
 ·obtain⟨k,hk⟩:=hex
  have Y:L.base<=L.check:=by
   by_cases q:L.base<=L.check
   ·exact q
   ·have:=(hk.before oM).2;cases this
  have ac:L.check<L.base+L.stream.length:=by
   by_cases q:L.check<L.base+L.stream.length
   ·exact q
   ·have:=(hk.behind Y oM).2;cases this
  have hf:=hk.within Y ac
  obtain⟨i,E⟩:=of_decide_eq_true hf.is.symm
  have Z:∀j f,L.AtR L.check j f->j=k:=fun j f h=>by
   refine(qac.AtR.at D i (j:=j) (f:=f) ?_).1
   rw[E]
   rw[show L.base+(L.check-L.base)=L.check by omega]
   exact h
  rw[ab] at i
  obtain⟨r,a0⟩:∃r,R[k]?=some r:=⟨_,Z3 i⟩
  obtain⟨kk,x',a1,a2,a3,B⟩:=qdm.read y ⟨k,a0,rfl⟩
  have a4:1+(qae (R.take k)).length=L.check:=by
   have h1:=Qnl (R:=R) (k:=k) i
   rw[y.starts,h1] at E
   omega
  have b:=Qg8 hl D a1 a2 a3 B
  rw[a4] at b
  have d:=fun (W:World) (T:qa1) (m:Step w τ W T qa4)=>Jjc (hl.step m (by rintro g (rfl|rfl|rfl) <;> simp[qa4,qb1,qa5,qa6])) D y hn z (k:=k) oM (.inl i) Z
  have C:=fun (W:World) (T:qa1) (m:Step w τ W T qa4)=>Qwb (hl.step m (by rintro g (rfl|rfl|rfl) <;> simp[qa4,qb1,qa5,qa6]))
  obtain⟨F,G,I,a5⟩:=qb9 x b d C
  clear x b d C hl D y hk hf Z a4 B a3 a2 a1 E a0
  go_enter Tryz.func60,Tryz.ntmps60
  go_wp2_with fail
  refine F.mono ?_
  rintro e w1 ⟨rfl,rfl⟩
  go_wp2_with fail
  refine G.mono ?_
  rintro e w2 ⟨v,ad,rfl,⟨vb,va,vt,vp,n0,rfl,⟨pb,cb,rfl,-⟩,⟨pa,ca,rfl,-⟩,a6,a7⟩,l⟩
  obtain⟨pt,ct,rfl⟩:=a6.val
  obtain⟨pp,cp,rfl⟩:=a7.val
  have a:=fun o=>l.alloc' o
  have h3:=fun o=>a5 _ _ (a o)
  have h4:=fun o=>I _ _ (a o)
  obtain⟨H3,H4,J⟩:=qan h3 h4 a
  clear h3 h4 a a6 a7 l
  go_wp2_with fail
  refine(H3 _).mono ?_
  rintro e w3 ⟨rfl,rfl⟩
  go_wp2_with fail
  refine(H4 _).mono ?_
  rintro e w4 ⟨v,M,rfl,O,n⟩
  have s:=(J _).trans n.nz
  obtain⟨p,c,rfl,-,-⟩:=id O.is
  obtain⟨He,U⟩:=qaj O s
  clear O s n
  go_wp2_with fail
  go_returns
  exact⟨_,M,k,rfl,He,U⟩
 ·have a9:∀j f,L.AtR L.check j f->f=false:=fun j f h=>by
   cases f with
   | false=>rfl
   | true=>exact absurd ⟨j,h⟩ hex
  have b:=Jj2 hl D z a9
  have d:=fun (W:World) (T:qa1) (m:Step w τ W T nil)=>Jjc (hl.step m zN) D y hn (lsn:=0) oM (k:=0) oM (.inr rfl) (fun j f h=>(h.before oM).1)
  rw[show ((0:Nat):Int)=0 from rfl] at d
  obtain⟨F,G,I⟩:=qan x b d
  clear x b d hl D y a9 hex
  go_enter Tryz.func60,Tryz.ntmps60
  go_wp2_with fail
  refine F.mono ?_
  rintro e w1 ⟨rfl,rfl⟩
  go_wp2_with fail
  refine G.mono ?_
  rintro e w2 ⟨rfl,ad,l⟩
  have a:=fun o=>l.alloc' o
  have h4:=fun o=>I _ _ (a o)
  obtain⟨H4,J⟩:=qaj h4 a
  clear h4 a l
  go_wp2_with fail
  refine(H4 _).mono ?_
  rintro e w4 ⟨v,M,rfl,O,n⟩
  have s:=((J _).trans n).nz (T:=qa4)
  obtain⟨p,c,rfl,-,-⟩:=id O.is
  obtain⟨He,U⟩:=qaj O s
  clear O s n
  go_wp2_with fail
  go_returns
  exact⟨_,M,0,rfl,He,U⟩
