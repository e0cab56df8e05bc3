/-
 Get and Put over a pool whose pages are all as on the device.
-/
import Derived.Test.YtemacanaihaldaaGreatMSortM
import Derived.Test.YtemacanaihaldaaGreatMTornC
set_option linter.all false
namespace Go.Proofs.YtemacanaihaldaaGreat
variable {D:Dev}{N:Nat}
open Go.RowKit
structure CleanP (N:Nat) (D:Dev) (F:List Fr) (cur:Nat→List Int):Prop where
 f1:D.f1.length=4*(N+1)
 home:∀n,n<N→(lastTo D n 4=blank∧cur n=emptyPage n)∨∃s,s<2 ^ 64∧lastTo D n 4=sealAll (cur n) s∧Sound (cur n)∧0<pageLSN (cur n)
 frame:∀(i:Nat) (f:Fr) (b:Nat) (P:List Int),F[i]?=some f→f.pg=some (b,P)→f.n<N∧P=cur f.n
 none:∀(i:Nat) (f:Fr),F[i]?=some f→f.pg=none→f=Fr.no
 clean:∀(i:Nat) (f:Fr),F[i]?=some f→f.first=0
theorem CleanP.fill {F:List Fr} {cur:Nat→List Int}(h:CleanP N D F cur) {i n:Nat}(hi:i<F.length) (hn:n<N) (b:Nat):CleanP N D (F.set i ⟨some (b,cur n),n,0⟩) cur:=by
 refine⟨h.f1,h.home,fun j f b' P hf hp=>?_,fun j f hf hp=>?_,fun j f hf=>?_⟩
 ·rcases set_get hi hf with ⟨_,rfl⟩|⟨_,hg⟩
  ·simp only[Option.some.injEq,Prod.mk.injEq] at hp
   exact⟨hn,hp.2.symm⟩
  ·exact h.frame j f b' P hg hp
 ·rcases set_get hi hf with ⟨_,rfl⟩|⟨_,hg⟩
  ·cases hp
  ·exact h.none j f hg hp
 ·rcases set_get hi hf with ⟨_,rfl⟩|⟨_,hg⟩
  ·rfl
  ·exact h.clean j f hg
theorem CleanP.fresh {k:Nat} {cur:Nat→List Int}(h1:D.f1.length=4*(N+1)) (h:∀n,n<N→(lastTo D n 4=blank∧cur n=emptyPage n)∨∃s,s<2 ^ 64∧lastTo D n 4=sealAll (cur n) s∧Sound (cur n)∧0<pageLSN (cur n)):CleanP N D (List.replicate k Fr.no) cur:=by
 have hno:∀(i:Nat) (f:Fr),(List.replicate k Fr.no)[i]?=some f→f=Fr.no:=fun i f hf=>List.eq_of_mem_replicate (List.mem_of_getElem? hf)
 exact⟨h1,h,fun i f b P hf hp=>(by rw[hno i f hf] at hp;cases hp),fun i f hf _=>hno i f hf,fun i f hf=>(by have:=hno i f hf;subst this;rfl)⟩
structure GotW (w:World) (τ:Tags) (bp bf bd:Nat) (N:Nat) (H:PoolH) (L:LogM) (D:Dev) (cur:Nat→List Int) (n b:Nat) (w':World) (τ':Tags) (F':List Fr) (s':Ck.Clk.St) (i:Nat) (f:Fr):Prop where
 pool:PoolW w' τ' bp bf bd H L D F' s'
 good:CleanP N D F' cur
 held:Held F' s' i
 at_:F'[i]?=some f
 pg:f.pg=some (b,cur n)
 fn:f.n=n
 step:Step w τ w' τ' PWTag
def GetEW (H:PoolH) (L:LogM) (D:Dev) (s:Ck.Clk.St) (i:Nat) (f:Fr) (H1:PoolH) (L1:LogM) (D1:Dev) (s1:Ck.Clk.St):Prop :=
 s1=leftS (Ck.Clk.pickS s) i f.pg.isSome∧H1=H∧L1=L∧D1=D
theorem Jfq {w:World} {τ:Tags} {bp bf bd:Nat} {H:PoolH} {L:LogM} {F:List Fr} {s:Ck.Clk.St} {cur:Nat→List Int}(h:PoolW w τ bp bf bd H L D F s) (hg:CleanP N D F cur) (hc:Clock F s) (hN:H.n=N) (n:Nat) (hn:n<N) :
 Calls Tryz.prog 15 #[.pointer (some ⟨bp,0,none⟩),.int .u32 (n:Int)] w fun e w'=>∃b,e = .returned (.tuple #[.pointer (some ⟨b,0,none⟩),.int .u16 0])∧∃τ' F' s' i f,GotW w τ bp bf bd N H L D cur n b w' τ' F' s' i f:=by
 subst hN
 have hn512:=h.pool.n1
 cases hw:Qaq F n with
 | some i =>
   obtain⟨f,hf,hh⟩:=(Qa6 h.pool.one n i).1 hw
   obtain⟨b,P,hpg,hfn⟩:=Qd7.1 hh
   obtain⟨_,hP⟩:=hg.frame i f b P hf hpg
   have:=Qzy h.pool n (by omega) hw hf (fun k=>by rw[hc.p];omega)
   refine this.mono ?_
   rintro e w' ⟨rfl,hp,hs⟩
   have hsp:Step w τ w' τ PoolTag:=hs.mono (fun g h=>.inr (.inr (.inr (.inl h))))
   exact⟨b,by rw[hpg];rfl,τ,F,_,i,f,⟨h.turn hp hsp,hg,hc.hit hf (by rw[hpg];rfl),hf,by rw[hpg,hP,hfn],hfn,hsp.mono (fun _ h=>.inl h)⟩⟩
 | none =>
   obtain⟨hpb,hpi⟩:=hc.pick
   generalize hi:Ck.Clk.pickI s=i at *
   obtain⟨f,hf⟩:∃f,F[i]?=some f:=⟨_,List.getElem?_eq_getElem hpi⟩
   have hno:∀(j:Nat) (g:Fr),F[j]?=some g→g.has n=false:=fun j g hgj=>by
    cases hx:g.has n with
    | false=>rfl
    | true =>
      have:=(Qa6 h.pool.one n j).2 ⟨g,hgj,hx⟩
      rw[hw] at this;cases this
   have hone1:OneHas (F.set i Fr.no):=OneHas.set h.pool.one i Fr.no (fun j n g _ _ _=>Qk8 n)
   have hnob:Qaq (F.set i Fr.no) n=none:=by
    cases hx:Qaq (F.set i Fr.no) n with
    | none=>rfl
    | some j =>
      obtain⟨g,hgj,hh⟩:=(Qa6 hone1 n j).1 hx
      rcases set_get hpi hgj with ⟨_,rfl⟩|⟨_,hg'⟩
      ·cases hh
      ·rw[hno j g hg'] at hh;cases hh
   obtain⟨hheld,hpins⟩:=hc.fill hf (0,[]) n 0
   have hbring:=Qwf h n (by omega) hpb hi hpi (Q:=cur n) (GetEW H L D s i f) (fun w1 τ1 hp1=>by
    cases hpg:f.pg with
    | none =>
      have hfno:=hg.none i f hf hpg
      refine(Qm3 hp1.pool i hf hpg).mono ?_
      rintro e w' ⟨rfl,rfl⟩
      have hsame:F.set i Fr.no=F:=Qnd (by rw[hf,hfno])
      refine⟨rfl,H,L,D,Ck.Clk.pickS s,τ1,⟨?_,rfl,rfl,rfl⟩,rfl,by rw[hsame];exact hp1,Step.refl _ _ _⟩
      rw[hpg];rfl
    | some x =>
      obtain⟨b,P⟩:=x
      obtain⟨hfn,hP⟩:=hg.frame i f b P hf hpg
      have hs1:Ck.Clk.leaveS (Ck.Clk.pickS s) (i:Int)=leftS (Ck.Clk.pickS s) i f.pg.isSome:=by rw[hpg];rfl
      refine(Qlp hp1.pool i hf hpg (hg.clean i f hf) (by omega)).mono ?_
      rintro e w' ⟨rfl,hp2,hs2⟩
      exact⟨rfl,H,L,D,_,τ1,⟨hs1,rfl,rfl,rfl⟩,rfl,hp1.turn hp2 hs2,hs2.mono (fun _ h=>.inl h)⟩) (fun w1 τ1 H1 L1 D1 s1 hE hp1=>by
    obtain⟨_,rfl,rfl,rfl⟩:=hE
    rcases hg.home n hn with ⟨h1,h2⟩|⟨s',h1,h2,h3,h4⟩
    ·have:=Qld hp1.pool.hd hp1.log hp1.dev n (by rw[hg.f1];omega) h1 (tPg i)
     rw[←h2] at this
     exact this
    ·exact Qvk hp1.pool.hd hp1.log hp1.dev n (by rw[hg.f1];omega) (st:=s') h1 h3 h4 h2 (tPg i)) hnob
   refine(Qzz h n (by omega) hw hpi (GetEW H L D s i f) hbring (fun H1 L1 D1 s1 hE k=>by rw[hE.1];exact hpins k)).mono ?_
   rintro e w' ⟨H1,L1,D1,s1,b,τ',rfl,⟨e1,rfl,rfl,rfl⟩,hp1,hs1⟩
   subst e1
   obtain⟨hheld,-⟩:=hc.fill hf (b,cur n) n 0
   exact⟨b,rfl,τ',_,_,i,_,⟨hp1,hg.fill hpi hn b,hheld,List.getElem?_set_self hpi,rfl,rfl,hs1⟩⟩
theorem Jfe {w:World} {τ:Tags} {bp bf bd:Nat} {H:PoolH} {L:LogM} {F:List Fr} {s:Ck.Clk.St} {cur:Nat→List Int}(h:PoolW w τ bp bf bd H L D F s) (hN:H.n=N) {n b i:Nat}{f:Fr}(hh:Held F s i) (hf:F[i]?=some f) (hp:f.pg=some (b,cur n)) (hfn:f.n=n) (hn:n<N) :
 Calls Tryz.prog 16 #[.pointer (some ⟨bp,0,none⟩),.int .u32 (n:Int),.int .u64 0] w fun e w'=>e = .returned (.bool true)∧∃s',PoolW w' τ bp bf bd H L D F s'∧Clock F s'∧Step w τ w' τ PWTag:=by
 have hlt:s.h<s.n:=by
  obtain⟨bf,hp,_⟩:=h.pool.ck.is
  exact hp.hh
 have h512:=h.pool.n1
 obtain⟨h1,h2,h3,h4⟩:=hh.put hlt
 have hw:Qaq F n=some i:=(Qa6 h.pool.one n i).2 ⟨f,hf,Qd7.2 ⟨b,cur n,hp,hfn⟩⟩
 have:=Qxd h.pool n (by omega) hw hh.lt h3
 rw[h2,decide_eq_true h1,if_neg h1] at this
 refine this.mono ?_
 rintro e w' ⟨rfl,hp,hs⟩
 have hsp:Step w τ w' τ PoolTag:=hs.mono (fun g hg=>.inr (.inr (.inr (.inl hg))))
 exact⟨rfl,_,h.turn hp hsp,h4 F rfl (fun j f g hf hg=>by rw[hf] at hg;cases hg;rfl),hsp.mono (fun _ hg=>.inl hg)⟩
end Go.Proofs.YtemacanaihaldaaGreat