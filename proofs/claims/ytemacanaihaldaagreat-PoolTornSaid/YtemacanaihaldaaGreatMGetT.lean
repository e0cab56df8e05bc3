/-
 Get of a page,over a pool whose device is to be halted: it is the page as it was put last.
-/
import Derived.Test.YtemacanaihaldaaGreatMSortM
import Derived.Test.YtemacanaihaldaaGreatMTornC
set_option linter.all false
namespace Go.Proofs.YtemacanaihaldaaGreat
open Go.RowKit
structure GotT (vs:List (List (List Int))) (w:World) (τ:Tags) (bp bf bd:Nat) (N:Nat) (H:PoolH) (L:LogM) (cur:Nat→List Int) (n b:Nat) (w':World) (τ':Tags) (H':PoolH) (L':LogM) (D':Dev) (F':List Fr) (s':Ck.Clk.St) (i:Nat) (f:Fr):Prop where
 pool:PoolW w' τ' bp bf bd H' L' D' F' s'
 good:GoodT vs N H'.st L' D' F' cur
 held:Held F' s' i
 at_:F'[i]?=some f
 pg:f.pg=some (b,cur n)
 fn:f.n=n
 hn:H'.n=N
 hl:H'.bl=H.bl
 st:H.st≤H'.st∧H'.st≤H.st+1
 log:SameLog L L'
 step:Step w τ w' τ' PWTag
def GetET (vs:List (List (List Int))) (n N:Nat) (cur:Nat→List Int) (H:PoolH) (L:LogM) (F:List Fr) (s:Ck.Clk.St) (i:Nat) (f:Fr) (H1:PoolH) (L1:LogM) (D1:Dev) (s1:Ck.Clk.St):Prop :=
 s1=leftS (Ck.Clk.pickS s) i f.pg.isSome∧GoodT vs N H1.st L1 D1 (F.set i Fr.no) cur∧H1.n=N∧H1.bl=H.bl∧(H.st≤H1.st∧H1.st≤H.st+1)∧SameLog L L1∧HomeIs D1 n H1.st L1 (cur n)
theorem Jgf {vs:List (List (List Int))}{w:World}{τ:Tags}{bp bf bd N:Nat}{H:PoolH}{L:LogM}{D:Dev}{F:List Fr}{s:Ck.Clk.St}{cur:Nat→List Int}(h:PoolW w τ bp bf bd H L D F s) (hg:GoodT vs N H.st L D F cur) (hh0:D.halted=false) (hc:Clock F s) (hN:H.n=N) (hst:H.st+1<18446744073709551616) (n:Nat) (hn:n<N) :
 Calls Tryz.prog 15 #[.pointer (some ⟨bp,0,none⟩),.int .u32 (n:Int)] w fun e w'=>∃b,e = .returned (.tuple #[.pointer (some ⟨b,0,none⟩),.int .u16 0])∧∃τ' H' L' D' F' s' i f,GotT vs w τ bp bf bd N H L cur n b w' τ' H' L' D' F' s' i f:=by
 subst hN
 have hn512:=h.pool.n1
 cases hw:Qaq F n with
 | some i =>
   obtain⟨f,hf,hh⟩:=(Qa6 h.pool.one n i).1 hw
   obtain⟨b,P,hpg,hfn⟩:=Qd7.1 hh
   obtain⟨_,hP,_⟩:=hg.frame i f b P hf hpg
   have:=Qzy h.pool n (by omega) hw hf (fun k=>by rw[hc.p];omega)
   refine this.mono ?_
   rintro e w' ⟨rfl,hp,hs⟩
   have hsp:Step w τ w' τ PoolTag:=hs.mono (fun g h=>.inr (.inr (.inr (.inl h))))
   exact⟨b,by rw[hpg];rfl,τ,H,L,D,F,_,i,f,⟨h.turn hp hsp,hg,hc.hit hf (by rw[hpg];rfl),hf,by rw[hpg,hP,hfn],hfn,rfl,rfl,⟨Nat.le_refl _,Nat.le_succ _⟩,SameLog.refl L,hsp.mono (fun _ h=>.inl h)⟩⟩
 | none =>
   obtain⟨hpb,hpi⟩:=hc.pick
   generalize hi:Ck.Clk.pickI s=i at *
   obtain⟨f,hf⟩:∃f,F[i]?=some f:=⟨_,List.getElem?_eq_getElem hpi⟩
   have hno:∀(j:Nat) (g:Fr),F[j]?=some g→g.has n=false:=fun j g hgj=>by
    cases hx:g.has n with
    | false=>rfl
    | true =>
      have:=(Qa6 h.pool.one n j).2 ⟨g,hgj,hx⟩
      rw[hw] at this;cases this
   have hone1:OneHas (F.set i Fr.no):=OneHas.set h.pool.one i Fr.no (fun j n g _ _ _=>Qk8 n)
   have hnob:Qaq (F.set i Fr.no) n=none:=by
    cases hx:Qaq (F.set i Fr.no) n with
    | none=>rfl
    | some j =>
      obtain⟨g,hgj,hh⟩:=(Qa6 hone1 n j).1 hx
      rcases set_get hpi hgj with ⟨_,rfl⟩|⟨_,hg'⟩
      ·cases hh
      ·rw[hno j g hg'] at hh;cases hh
   have hno1:∀(j:Nat) (g:Fr),(F.set i Fr.no)[j]?=some g→g.has n=false:=fun j g hgj=>by
    rcases set_get hpi hgj with ⟨_,rfl⟩|⟨_,hg'⟩
    ·rfl
    ·exact hno j g hg'
   obtain⟨hheld,hpins⟩:=hc.fill hf (0,[]) n 0
   have hhome:=hg.home hh0 hn (fun j g hgj hh=>by rw[hno j g hgj] at hh;cases hh)
   have hbring:=Qwf h n (by omega) hpb hi hpi (Q:=cur n) (GetET vs n H.n cur H L F s i f) (fun w1 τ1 hp1=>by
    cases hpg:f.pg with
    | none =>
      have hfno:=hg.none i f hf hpg
      refine(Qm3 hp1.pool i hf hpg).mono ?_
      rintro e w' ⟨rfl,rfl⟩
      have hsame:F.set i Fr.no=F:=Qnd (by rw[hf,hfno])
      refine⟨rfl,H,L,D,Ck.Clk.pickS s,τ1,⟨?_,by rw[hsame];exact hg,rfl,rfl,⟨Nat.le_refl _,Nat.le_succ _⟩,SameLog.refl L,hhome⟩,rfl,by rw[hsame];exact hp1,Step.refl _ _ _⟩
      rw[hpg];rfl
    | some x =>
      obtain⟨b,P⟩:=x
      obtain⟨hfn,hP,_⟩:=hg.frame i f b P hf hpg
      have hs1:Ck.Clk.leaveS (Ck.Clk.pickS s) (i:Int)=leftS (Ck.Clk.pickS s) i f.pg.isSome:=by rw[hpg];rfl
      by_cases h0:f.first=0
      ·refine(Qlp hp1.pool i hf hpg h0 (by omega)).mono ?_
       rintro e w' ⟨rfl,hp2,hs2⟩
       exact⟨rfl,H,L,D,_,τ1,⟨hs1,hg.drop hf h0,rfl,rfl,⟨Nat.le_refl _,Nat.le_succ _⟩,SameLog.refl L,hhome⟩,rfl,hp1.turn hp2 hs2,hs2.mono (fun _ h=>.inl h)⟩
      ·have h0':0<f.first:=by omega
       have hsnd:Sound P:=by rw[hP];exact(hg.page f.n hfn).1
       refine(Qrk hp1 hg.rise hg.cap hg.f0 (by rw[hg.f1];omega) hg.lim hst hf hpg hfn h0' rfl (Qtd hsnd)).mono ?_
       rintro e w' ⟨rfl,k,fl,τ2,hat,hp2,hs2⟩
       have hgw:=hg.write hst hf hpg h0' hat
       have hne:n≠f.n:=fun e=>by
        have:=hno i f hf
        rw[e] at this
        simp[Fr.has,hpg] at this
       have hfar:=Jgq (L:=L) (k:=k+(if fl=true then 1 else 0)) (st:=H.st+1) (P:=P) hh0 hn hne
       obtain⟨e1,-,-,-,-⟩:=Qjz L (k+(if fl=true then 1 else 0))
       have hhome2:=hhome.flush (st':=H.st+1) (M:=flL L (k+(if fl=true then 1 else 0))) (by omega) e1 (Qlm L _).1 hfar
       have hi':=(List.getElem?_eq_some_iff.1 hf).1
       have hgd:=hgw.drop (i:=i) (f:={f with first:=0}) (List.getElem?_set_self hi') rfl
       rw[List.set_set] at hgd
       exact⟨rfl,{H with st:=H.st+1},_,_,_,τ2,⟨hs1,hgd,rfl,rfl,⟨Nat.le_succ _,Nat.le_refl _⟩,SameLog.flush L _,hhome2⟩,rfl,hp2,hs2⟩) (fun w1 τ1 H1 L1 D1 s1 hE hp1=>by
    obtain⟨_,hg1,hN1,_,hst1,_,hQ⟩:=hE
    rcases hQ with ⟨h1,h2⟩|⟨s',h1,h2,h3,h4,h5⟩
    ·have:=Qld hp1.pool.hd hp1.log hp1.dev n (by rw[hg1.f1];omega) h1 (tPg i)
     rw[←h2] at this
     exact this
    ·exact Qvk hp1.pool.hd hp1.log hp1.dev n (by rw[hg1.f1];omega) (st:=s') (by rw[show (2:Nat) ^ 64=18446744073709551616 from by decide];omega) h3 h4 h2 (tPg i)) hnob
   refine(Qzz h n (by omega) hw hpi (GetET vs n H.n cur H L F s i f) hbring (fun H1 L1 D1 s1 hE k=>by rw[hE.1];exact hpins k)).mono ?_
   rintro e w' ⟨H1,L1,D1,s1,b,τ',rfl,⟨e1,hg1,hN1,hl1,hst1,hsl1,-⟩,hp1,hs1⟩
   subst e1
   have hgf:=hg1.fill (i:=i) (n:=n) (by rw[List.length_set];exact hpi) hn hno1 b (List.getElem?_set_self hpi)
   rw[List.set_set] at hgf
   obtain⟨hheld,-⟩:=hc.fill hf (b,cur n) n 0
   exact⟨b,rfl,τ',H1,L1,D1,_,_,i,_,⟨hp1,hgf,hheld,List.getElem?_set_self hpi,rfl,rfl,hN1,hl1,hst1,hsl1,hs1⟩⟩
end Go.Proofs.YtemacanaihaldaaGreat