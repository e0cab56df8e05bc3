/-
 Get and Put over a pool whose pages are all as on the device.
-/
import Derived.Test.YtociicnopccppaaGreatMSortM
import Derived.Test.YtociicnopccppaaGreatMTornC
set_option linter.all false
namespace Go.Proofs.YtociicnopccppaaGreat
variable {D:Dev}{N:Nat}
open Go.RowKit
structure qez (N:Nat) (D:Dev) (F:List Fr) (cur:Nat->List Int):Prop where
 f1:D.f1.length=4*(N+1)
 home:∀n,n<N->(qap D n 4=blank/\cur n=qaf n)\/∃s,s<2 ^ 64/\qap D n 4=qao (cur n) s/\Sound (cur n)/\0<qaa (cur n)
 frame:∀(i:Nat) (f:Fr) (b:Nat) (P:List Int),F[i]?=some f->f.pg=some (b,P)->f.n<N/\P=cur f.n
 none:∀(i:Nat) (f:Fr),F[i]?=some f->f.pg=none->f=Fr.no
 clean:∀(i:Nat) (f:Fr),F[i]?=some f->f.first=0
theorem qez.fill {F:List Fr} {cur:Nat->List Int}(h:qez N D F cur) {i n:Nat}(hi:i<F.length) (hn:n<N) (b:Nat):qez N D (F.set i ⟨some (b,cur n),n,0⟩) cur:=by
 refine⟨h.f1,h.home,fun j f e P c a=>?_,fun j f c a=>?_,fun j f c=>?_⟩
 ·rcases qce hi c with ⟨_,rfl⟩|⟨_,d⟩
  ·simp only[Option.some.injEq,Prod.mk.injEq] at a
   exact⟨hn,a.2.symm⟩
  ·exact h.frame j f e P d a
 ·rcases qce hi c with ⟨_,rfl⟩|⟨_,d⟩
  ·cases a
  ·exact h.none j f d a
 ·rcases qce hi c with ⟨_,rfl⟩|⟨_,d⟩
  ·rfl
  ·exact h.clean j f d
theorem qez.fresh {k:Nat} {cur:Nat->List Int}(h1:D.f1.length=4*(N+1)) (h:∀n,n<N->(qap D n 4=blank/\cur n=qaf n)\/∃s,s<2 ^ 64/\qap D n 4=qao (cur n) s/\Sound (cur n)/\0<qaa (cur n)):qez N D (List.replicate k Fr.no) cur:=by
 have a:∀(i:Nat) (f:Fr),(List.replicate k Fr.no)[i]?=some f->f=Fr.no:=fun i f c=>List.eq_of_mem_replicate (List.mem_of_getElem? c)
 exact⟨h1,h,fun i f b P c d=>(by rw[a i f c] at d;cases d),fun i f c _=>a i f c,fun i f c=>(by have:=a i f c;subst this;rfl)⟩
structure GotW (w:World) (τ:qa1) (bp bf bd:Nat) (N:Nat) (H:qaq) (L:qac) (D:Dev) (cur:Nat->List Int) (n b:Nat) (w':World) (τ':qa1) (F':List Fr) (s':Ck.Clk.St) (i:Nat) (f:Fr):Prop where
 pool:qbz w' τ' bp bf bd H L D F' s'
 good:qez N D F' cur
 held:Held F' s' i
 at_:F'[i]?=some f
 pg:f.pg=some (b,cur n)
 fn:f.n=n
 step:Step w τ w' τ' qbe
def GetEW (H:qaq) (L:qac) (D:Dev) (s:Ck.Clk.St) (i:Nat) (f:Fr) (H1:qaq) (L1:qac) (D1:Dev) (s1:Ck.Clk.St):Prop :=
 s1=qfr (Ck.Clk.qbt s) i f.pg.isSome/\H1=H/\L1=L/\D1=D
theorem Jfq {w:World} {τ:qa1} {bp bf bd:Nat} {H:qaq} {L:qac} {F:List Fr} {s:Ck.Clk.St} {cur:Nat->List Int}(h:qbz w τ bp bf bd H L D F s) (q:qez N D F cur) (J:Clock F s) (hN:H.n=N) (n:Nat) (hn:n<N) :
 Calls Tryz.prog 54 #[.pointer (some ⟨bp,0,none⟩),.int .u32 n] w fun e M=>∃b,e = .returned (.tuple #[.pointer (some ⟨b,0,none⟩),.int .u16 0])/\∃y F' s' i f,GotW w τ bp bf bd N H L D cur n b M y F' s' i f:=by
 subst hN
 have hn512:=h.pool.n1
 cases Y:Qaq F n with
 | some i =>
   obtain⟨f,d,hh⟩:=(Qa6 h.pool.one n i).1 Y
   obtain⟨b,P,c,z⟩:=Qd7.1 hh
   obtain⟨_,hP⟩:=q.frame i f b P d c
   have:=Qzy h.pool n oM Y d (fun k=>by rw[J.p];omega)
   refine this.mono ?_
   rintro e M ⟨rfl,hp,hs⟩
   have O:Step w τ M τ qb3:=hs.mono (fun g h=>.inr (.inr (.inr (.inl h))))
   exact⟨b,by rw[c];rfl,τ,F,_,i,f,⟨h.turn hp O,q,J.hit d (by rw[c];rfl),d,by rw[c,hP,z],z,O.mono (fun _ h=>.inl h)⟩⟩
 | none =>
   obtain⟨Z,l⟩:=J.pick
   generalize hi:Ck.Clk.qfl s=i at *
   obtain⟨f,d⟩:∃f,F[i]?=some f:=⟨_,Z3 l⟩
   have a0:∀(j:Nat) (g:Fr),F[j]?=some g->g.has n=false:=fun j g B=>by
    cases hx:g.has n with
    | false=>rfl
    | true =>
      have:=(Qa6 h.pool.one n j).2 ⟨g,B,hx⟩
      rw[Y] at this;cases this
   have C:qcn (F.set i Fr.no):=qcn.set h.pool.one i Fr.no (fun j n g _ _ _=>Qk8 n)
   have R:Qaq (F.set i Fr.no) n=none:=by
    cases hx:Qaq (F.set i Fr.no) n with
    | none=>rfl
    | some j =>
      obtain⟨g,B,hh⟩:=(Qa6 C n j).1 hx
      rcases qce l B with ⟨_,rfl⟩|⟨_,a2⟩
      ·cases hh
      ·rw[a0 j g a2] at hh;cases hh
   obtain⟨o,E⟩:=J.fill d (0,[]) n 0
   have r:=Qwf h n oM Z hi l (Q:=cur n) (GetEW H L D s i f) (fun w1 τ1 a=>by
    cases c:f.pg with
    | none =>
      have U:=q.none i f d c
      refine zC (Qm3 a.pool i d c) ?_
      have G:F.set i Fr.no=F:=Qnd (by rw[d,U])
      refine⟨rfl,H,L,D,Ck.Clk.qbt s,τ1,⟨?_,rfl,rfl,rfl⟩,rfl,by rw[G];exact a,Step.refl _ _ _⟩
      rw[c];rfl
    | some x =>
      obtain⟨b,P⟩:=x
      obtain⟨z,hP⟩:=q.frame i f b P d c
      have I:Ck.Clk.qc9 (Ck.Clk.qbt s) (i:Int)=qfr (Ck.Clk.qbt s) i f.pg.isSome:=by rw[c];rfl
      refine(Qlp a.pool i d c (q.clean i f d) oM).mono ?_
      rintro e M ⟨rfl,a3,X⟩
      exact⟨rfl,H,L,D,_,τ1,⟨I,rfl,rfl,rfl⟩,rfl,a.turn a3 X,X.mono (fun _ h=>.inl h)⟩) (fun w1 τ1 H1 L1 D1 s1 hE a=>by
    obtain⟨_,rfl,rfl,rfl⟩:=hE
    rcases q.home n hn with ⟨h1,h2⟩|⟨s',h1,h2,h3,h4⟩
    ·have:=Qld a.pool.hd a.log a.dev n (by rw[q.f1];omega) h1 (tPg i)
     rw[<-h2] at this
     exact this
    ·exact Qvk a.pool.hd a.log a.dev n (by rw[q.f1];omega) (st:=s') h1 h3 h4 h2 (tPg i)) R
   refine(Qzz h n oM Y l (GetEW H L D s i f) r (fun H1 L1 D1 s1 hE k=>by rw[hE.1];exact E k)).mono ?_
   rintro e M ⟨H1,L1,D1,s1,b,y,rfl,⟨e1,rfl,rfl,rfl⟩,a,I⟩
   subst e1
   obtain⟨o,-⟩:=J.fill d (b,cur n) n 0
   exact⟨b,rfl,y,_,_,i,_,⟨a,q.fill l hn b,o,List.getElem?_set_self l,rfl,rfl,I⟩⟩
theorem Jfe {w:World} {τ:qa1} {bp bf bd:Nat} {H:qaq} {L:qac} {F:List Fr} {s:Ck.Clk.St} {cur:Nat->List Int}(h:qbz w τ bp bf bd H L D F s) (hN:H.n=N) {n b i:Nat}{f:Fr}(hh:Held F s i) (l:F[i]?=some f) (c:f.pg=some (b,cur n)) (o:f.n=n) (hn:n<N) :
 Calls Tryz.prog 56 #[.pointer (some ⟨bp,0,none⟩),.int .u32 n,.int .u64 0] w fun e k=>e = .returned (.bool true)/\∃s',qbz k τ bp bf bd H L D F s'/\Clock F s'/\Step w τ k τ qbe:=by
 have p:s.h<s.n:=by
  obtain⟨bf,c,_⟩:=h.pool.ck.is
  exact c.hh
 have h512:=h.pool.n1
 obtain⟨h1,h2,q,r⟩:=hh.put p
 have x:Qaq F n=some i:=(Qa6 h.pool.one n i).2 ⟨f,l,Qd7.2 ⟨b,cur n,c,o⟩⟩
 have:=Qxd h.pool n oM x hh.lt q
 rw[h2,decide_eq_true h1,if_neg h1] at this
 refine this.mono ?_
 rintro e k ⟨rfl,c,y⟩
 have d:Step w τ k τ qb3:=y.mono (fun g a=>.inr (.inr (.inr (.inl a))))
 exact⟨rfl,_,h.turn c d,r F rfl (fun j f g l a=>by rw[l] at a;cases a;rfl),d.mono (fun _ a=>.inl a)⟩
