/-
 The log: what Open gives of a log that lies whole on its device;plain,and Open.
-/
import Derived.Test.YtociicnopccppaaGreatMTxJ
import Derived.Test.YtociicnopccppaaGreatMTornC
set_option linter.all false
namespace Go.Proofs.YtociicnopccppaaGreat
variable {D:Dev}{L:qac}{N:Nat}{R:List qak}
open Go.RowKit
theorem Jjp {k:Nat} {r:qak}(a:R[k]?=some r):qae (R.take (k+1))=qae (R.take k)++encR r:=by
 rw[List.take_add_one,a]
 exact Qmo _ _
theorem Jjb {k:Nat} {r:qak}(a:R[k]?=some r):Qdf (R.take (k+1))=Qdf (R.take k)++[(qae (R.take k)).length]:=by
 rw[List.take_add_one,a]
 exact Qmd _ _
theorem qca.dec {cur:Nat->List Int}(h:qca N cur L R) {k:Nat}{r:qak}(a:R[k]?=some r):Qd1 ((qae R).drop (qae (R.take k)).length)=some (r,(encR r).length):=by
 obtain⟨k',x,-,-,e,hd⟩:=qdm.read h ⟨k,a,rfl⟩
 rw[h.base] at e
 have:x=(qae (R.take k)).length:=oM
 rw[h.stream,this] at hd
 exact hd
theorem Jkb {l:List Int}(h:l.length<27):Qd1 l=none:=by
 unfold Qd1
 rw[if_pos h]
theorem Jl3 {cur:Nat->List Int}(h:qca N cur L R) {la:Nat}{st:List Nat}(b:Scan (qae R) la st):∃k,k<=R.length/\la=(qae (R.take k)).length/\st=Qdf (R.take k):=by
 induction b with
 | nil=>exact⟨0,Z9 _,rfl,rfl⟩
 | @next la n st r b hd ih =>
   obtain⟨k,hk,rfl,rfl⟩:=ih
   by_cases c:k<R.length
   ·have a:R[k]?=some R[k]:=Z3 c
    rw[h.dec a] at hd
    cases hd
    exact⟨k+1,c,by rw[Jjp a,Z6],(Jjb a).symm⟩
   ·have e:k=R.length:=oM
    subst e
    rw[List.take_length,List.drop_of_length_le (Z0 _),Jkb sM] at hd
    cases hd
theorem Jls {cur:Nat->List Int}(h:qca N cur L R) {la:Nat}{st:List Nat}(a:Scan (qae R) la st) (hn:Qd1 ((qae R).drop la)=none):la=(qae R).length/\st=Qdf R:=by
 obtain⟨k,hk,rfl,rfl⟩:=Jl3 h a
 by_cases c:k<R.length
 ·rw[h.dec (Z3 c)] at hn
  cases hn
 ·have e:k=R.length:=oM
  rw[e,List.take_length]
  exact⟨rfl,rfl⟩
theorem Jj0 (st:List Int) (i:Nat):Qck (Qeg st) i=Qbt st i:=by
 unfold Qck
 by_cases c:i<(Qeg st).length
 ·rw[if_pos c]
  rw[Qdx] at c
  exact Jjl _ _ c
 ·rw[if_neg c]
  rw[Qdx] at c
  exact(Ji4 (by unfold parts at c;omega)).symm
theorem Jlk {a n:Nat} {want:List (List Int)}(h:∀i,i<n->D.last 0 (a+i)=Qck want i):D.make a n want=D:=by
 have key:∀i,i<=n->Qa7 D a want i=(D,false):=fun i=>by
  induction i with
  | zero=>intro _;rfl
  | succ i ih =>
    intro hi
    unfold Qa7
    rw[ih oM,if_pos (h i oM)]
 unfold Dev.make
 rw[key n (Z0 _),if_neg sM]
theorem qdf.secs(h:qdf L D) (hl:L.lasts=L.stream.length) (hcap:L.stream.length<=127*L.strips):Jcu ((List.range L.strips).map (fun k=>D.last 0 (L.qam+k)))=L.stream:=by
 have e:(List.range L.strips).map (fun k=>D.last 0 (L.qam+k))=(List.range L.strips).map (fun k=>Qbt L.stream (0+k)):=List.map_congr_left fun k a=>by
  rw[h.qc0 k (List.mem_range.1 a),hl,List.take_length,Nat.zero_add]
 rw[e,Jjv _ _ 0 oM,Nat.zero_mul,List.drop_zero]
theorem Jli {w:World} {τ:qa1} {bd:Nat} {cur:Nat->List Int}(hd:qax w τ bd D) (a:qdf L D) (c:qca N cur L R) (hl:L.lasts=L.stream.length) (d:L.ok) (j:L.stream.length<=127*L.strips) (q:18<=D.f0.length) (k:D.lim 800000) :
 Calls Tryz.prog 24 #[.pointer (some ⟨bd,0,none⟩)] w fun e o=>∃bl b,e = .returned (.tuple #[.pointer (some ⟨bl,0,none⟩),.int .u16 0])/\w.heap.size<=bl/\qaw o b bl bd L/\qax o b bd D/\Step w τ o b qf2:=by
 have B:L.base<=9223372036854775808:=by rw[c.base];omega
 have r:0<L.base:=by rw[c.base];omega
 obtain⟨p,C⟩:=a.found d.stamp B r d.qc0 d.check
 refine(Jfb hd q k C (by rw[p];exact a.stamp)).mono ?_
 rintro e o ⟨bl,b,la,st,s,hn,rfl,l,g,h,x⟩
 have E:Jcu (Jcz D ((qby D.f0.length).qbw (qbo D 2)))=L.stream:=by
  rw[p]
  refine Eq.trans ?_ (a.secs hl j)
  unfold Jcz
  have n:((qby D.f0.length).qbw (⟨L.stamp,L.base,L.check,L.qc0⟩,L.slot)).strips=L.strips:=a.len.symm
  have y:((qby D.f0.length).qbw (⟨L.stamp,L.base,L.check,L.qc0⟩,L.slot)).qam=L.qam:=by
   unfold qac.qam
   rw[n]
   rfl
  rw[n,y]
 rw[E] at s hn g h
 rw[c.stream] at s hn
 obtain⟨rfl,rfl⟩:=Jls c s hn
 have F:((qby D.f0.length).qbw (qbo D 2)).opened L.stream (qae R).length (Qdf R)=L:=by
  rw[p]
  have h1:=c.stream
  have h2:=c.starts
  have z:=a.len
  obtain⟨a1,a2,a3,a4,a5,a6,a7,a8,a9⟩:=L
  dsimp only at h1 h2 z hl
  subst h1 h2 z hl
  unfold qac.opened qac.qbw qby
  simp
 rw[F] at g
 have G:D.make ((qby D.f0.length).qbw (qbo D 2)).qam ((qby D.f0.length).qbw (qbo D 2)).strips (Qeg (L.stream.take (qae R).length))=D:=by
  refine Jlk fun i hi=>?_
  rw[c.stream,List.take_length,Jj0]
  rw[p] at hi ⊢
  have n:((qby D.f0.length).qbw (⟨L.stamp,L.base,L.check,L.qc0⟩,L.slot)).strips=L.strips:=a.len.symm
  have y:((qby D.f0.length).qbw (⟨L.stamp,L.base,L.check,L.qc0⟩,L.slot)).qam=L.qam:=by
   unfold qac.qam
   rw[n]
   rfl
  rw[n] at hi
  rw[y,a.qc0 i hi,hl,List.take_length,c.stream]
 rw[G] at h
 exact⟨bl,b,rfl,l,g,h,x⟩
theorem Jkz(h:D.Calm) (f:List Fate):(D.crash f).Calm/\(∀g j,(D.crash f).last g j=D.last g j)/\(D.crash f).f0.length=D.f0.length/\(D.crash f).f1.length=D.f1.length:=by
 have h0:∀g,g<2->(D.crash f).file g=D.file g:=fun g b=>List.ext_getElem? fun j=>by
  rw[Dev.qiy _ _ _ _ b]
  cases a:(D.file g)[j]? with
  | none=>rfl
  | some s =>
    have d:=h.waits g j s a
    obtain⟨x,ws⟩:=s
    dsimp only at d
    subst d
    rw[Option.map_some,Sec.qi0]
 have h2:∀g,2<=g->∀E:Dev,E.file g=[]:=fun g b E=>by
  unfold Dev.file
  rw[if_neg oM,if_neg oM]
 have h1:∀g,(D.crash f).file g=D.file g:=fun g=>by
  by_cases c:g<2
  ·exact h0 g c
  ·rw[h2 g oM,h2 g oM]
 exact⟨⟨rfl,fun g k s a=>h.waits g k s (by rw[<-h1];exact a)⟩,fun g j=>by unfold Dev.last;rw[h1],congrArg List.length (h0 0 oM),congrArg List.length (h0 1 oM)⟩
