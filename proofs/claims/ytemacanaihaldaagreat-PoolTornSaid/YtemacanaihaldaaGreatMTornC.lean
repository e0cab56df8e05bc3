/-
 What a crash may find on the pool's device,plain: each page is whole,but for one at most,whose sectors are old,new,or torn;and then the spare is whole.
-/
import Derived.Test.YtemacanaihaldaaGreatMTornB
import Derived.Test.YtemacanaihaldaaGreatMPoolZ
import Derived.Test.YtemacanaihaldaaGreatMWalB
import Derived.Test.YtemacanaihaldaaGreatMPoolQ
import Derived.Test.YtemacanaihaldaaGreatMPageW
import Derived.Test.YtemacanaihaldaaGreatMPoolI
set_option maxHeartbeats 4000000
set_option linter.all false
namespace Go.Proofs.YtemacanaihaldaaGreat
variable {D E:Dev}{L:LogM}{N m n st:Nat}
open Go.RowKit
def HalfH (D:Dev) (m:Nat) (N O:List (List Int)):Prop:=∀i,i<4→∃s,(D.file 1)[4*m+i]?=some s∧(∃t,t≤128∧s.last=mixB t (N.getD i []) (O.getD i []))∧∀x∈s.waits,x=N.getD i []
theorem HalfH.ext {N O:List (List Int)}(h:HalfH D m N O) (he:∀i,i<4→(E.file 1)[4*m+i]?=(D.file 1)[4*m+i]?):HalfH E m N O:=fun i hi=>by
 rw[he i hi];exact h i hi
theorem Jd4 (x y:List Int):mixB 0 x y=y:=by simp[mixB]
theorem Jd5 {x y:List Int}(hx:x.length=128) (hy:y.length=128):mixB 128 x y=x:=by
 unfold mixB
 rw[List.take_of_length_le (by omega),List.drop_eq_nil_of_le (by omega),List.append_nil]
theorem Jdk (D:Dev) (m i:Nat) (hi:i<4):(lastTo D m 4).getD i []=D.last 1 (4*m+i):=by
 unfold lastTo
 rw[List.getD_eq_getElem?_getD,List.getElem?_map,List.getElem?_range hi];rfl
theorem HalfH.calm(h:E.Calm) {m:Nat}(hm:4*m+4≤(E.file 1).length) (N:List (List Int)):HalfH E m N (lastTo E m 4):=fun i hi=>by
 obtain⟨s,hs⟩:∃s,(E.file 1)[4*m+i]?=some s:=⟨_,List.getElem?_eq_getElem (by omega)⟩
 have hw:=h.waits 1 _ s hs
 refine⟨s,hs,⟨0,by omega,?_⟩,fun x hx=>by rw[hw] at hx;cases hx⟩
 rw[Jd4,Jdk _ _ _ hi]
 unfold Dev.last
 rw[hs]
 show s.last=s.newest
 unfold Sec.newest
 rw[hw];rfl
def Four (N:List (List Int)):Prop:=∀i,i<4→(N.getD i []).length=128
theorem Dev.crash_get (D:Dev) (f:List Fate) (g j:Nat) (hg:g<2):((D.crash f).file g)[j]?=((D.file g)[j]?).map (fun s=>s.crash (fateOf f g j)):=by
 have key:(D.crash f).file g=Qbk f g (D.file g).length (D.file g):=by
  rcases (show g=0∨g=1 by omega) with rfl|rfl <;> rfl
 rw[key,Qdi]
 cases h:(D.file g)[j]? with
 | none=>rfl
 | some s =>
   have:=(List.getElem?_eq_some_iff.1 h).1
   show some (if j<_ then _ else _)=some _
   rw[if_pos this]
theorem HalfH.crash {N O:List (List Int)}(h:HalfH D m N O) (hN:Four N) (hO:Four O) (f:List Fate):HalfH (D.crash f) m N O:=fun i hi=>by
 obtain⟨s,hs,⟨t,ht,hl⟩,hw⟩:=h i hi
 have hn:=hN i hi
 have ho:=hO i hi
 refine⟨s.crash (fateOf f 1 (4*m+i)),by rw[Dev.crash_get _ _ _ _ (by omega),hs];rfl,?_,fun x hx=>by cases hx⟩
 generalize fateOf f 1 (4*m+i)=x
 show ∃t,t≤128∧s.left x=_
 have hb:∃t,t≤128∧s.base (s.keepN x.keep)=mixB t (N.getD i []) (O.getD i []):=by
  unfold Sec.base
  by_cases h0:s.keepN x.keep=0
  ·rw[if_pos h0];exact⟨t,ht,hl⟩
  ·rw[if_neg h0]
   have hk:s.keepN x.keep≤s.waits.length:=by unfold Sec.keepN;omega
   refine⟨128,Nat.le_refl _,?_⟩
   rw[Jd5 hn ho]
   rw[List.getD_eq_getElem?_getD,List.getElem?_eq_getElem (by omega)]
   exact hw _ (List.getElem_mem _)
 obtain⟨u,hu,hb⟩:=hb
 unfold Sec.left
 by_cases h1:s.keepN x.keep<s.waits.length
 ·rw[if_pos h1,hb]
  have hx:s.waits.getD (s.keepN x.keep) []=N.getD i []:=by
   rw[List.getD_eq_getElem?_getD,List.getElem?_eq_getElem h1]
   exact hw _ (List.getElem_mem _)
  rw[hx,Jf5 (Nat.min_le_right _ _) hu hn ho]
  exact⟨_,by omega,rfl⟩
 ·rw[if_neg h1,hb]
  exact⟨u,hu,rfl⟩
theorem Dev.crashed (D:Dev) (f:List Fate):(D.crash f).Calm∧(D.crash f).halted=false:=by
 refine⟨⟨rfl,fun g k s hs=>?_⟩,rfl⟩
 by_cases hg:g<2
 ·rw[Dev.crash_get _ _ _ _ hg] at hs
  obtain⟨s',_,rfl⟩:=Option.map_eq_some_iff.1 hs
  rfl
 ·unfold Dev.file at hs
  rw[if_neg (by omega),if_neg (by omega)] at hs
  simp at hs
def Whole (V:List (List Int)) (n:Nat) (O:List (List Int)) (s:Nat):Prop :=
 (O=blank∧s=0∧emptyPage n∈V)∨∃Q,O=sealAll Q s∧Q∈V∧Sound Q∧pageNumber Q=n∧0<pageLSN Q∧0<s∧s<2 ^ 64
theorem Whole.sealed {V:List (List Int)} {s:Nat} {O:List (List Int)}(h:Whole V n O s):Sealed s O:=by
 rcases h with ⟨rfl,rfl,_⟩|⟨Q,rfl,_,h1,_,_,_,h2⟩
 ·exact Jd0
 ·exact Je2 h1.tidy.len h1.tidy.isB h2
theorem Whole.four {V:List (List Int)} {s:Nat} {O:List (List Int)}(h:Whole V n O s):Four O:=fun i hi=>(h.sealed.sec i hi).1
theorem Whole.mono {V W:List (List Int)} {s:Nat} {O:List (List Int)}(h:Whole V n O s) (hv:∀x∈V,x∈W):Whole W n O s:=by
 rcases h with ⟨a,b,c⟩|⟨Q,a,b,c⟩
 ·exact .inl ⟨a,b,hv _ c⟩
 ·exact .inr ⟨Q,a,hv _ b,c⟩
def TornS (N:Nat) (V:Nat→List (List Int)) (D:Dev):Prop :=
 ∃(O:Nat→List (List Int)) (st:Nat→Nat),(∀n,n<N→Whole (V n) n (O n) (st n)) ∧
   ((∀n,n<N→HalfH D n (O n) (O n)) ∨
     ∃n0 S σ,n0<N∧Whole (V n0) n0 S σ∧0<σ∧st n0≠σ∧HalfH D N S S∧HalfH D n0 S (O n0)∧∀n,n<N→n≠n0→HalfH D n (O n) (O n))
theorem TornS.mono {V W:Nat→List (List Int)}(h:TornS N V D) (hv:∀n,n<N→∀x∈V n,x∈W n):TornS N W D:=by
 obtain⟨O,st,h1,h2⟩:=h
 refine⟨O,st,fun n hn=>(h1 n hn).mono (hv n hn),?_⟩
 rcases h2 with h2|⟨n0,S,σ,a,b,c⟩
 ·exact .inl h2
 ·exact .inr ⟨n0,S,σ,a,b.mono (hv n0 a),c⟩
theorem TornS.ext {V:Nat→List (List Int)}(h:TornS N V D) (he:E.file 1=D.file 1):TornS N V E:=by
 obtain⟨O,st,h1,h2⟩:=h
 have key:∀{m:Nat} {A B:List (List Int)},HalfH D m A B→HalfH E m A B:=fun k=>k.ext (fun i _=>by rw[he])
 refine⟨O,st,h1,?_⟩
 rcases h2 with h2|⟨n0,S,σ,a,b,c,d,e,f,g⟩
 ·exact .inl fun n hn=>key (h2 n hn)
 ·exact .inr ⟨n0,S,σ,a,b,c,d,key e,key f,fun n hn hne=>key (g n hn hne)⟩
theorem TornS.crash {V:Nat→List (List Int)}(h:TornS N V D) (f:List Fate):TornS N V (D.crash f):=by
 obtain⟨O,st,h1,h2⟩:=h
 refine⟨O,st,h1,?_⟩
 rcases h2 with h2|⟨n0,S,σ,a,b,c,d,e,k,g⟩
 ·exact .inl fun n hn=>(h2 n hn).crash (h1 n hn).four (h1 n hn).four f
 ·exact .inr ⟨n0,S,σ,a,b,c,d,e.crash b.four b.four f,k.crash b.four (h1 n0 a).four f,fun n hn hne=>(g n hn hne).crash (h1 n hn).four (h1 n hn).four f⟩
def Hist (N:Nat) (V:Nat→List (List Int)) (st:Nat) (E:Dev):Prop:=∀n,n<N→∃s,s≤st∧Whole (V n) n (lastTo E n 4) s
theorem Jfh {t:Nat} {x:List Int}:mixB t x x=x:=by unfold mixB;exact List.take_append_drop _ _
theorem Hist.torn {V:Nat→List (List Int)}(h:Hist N V st E) (hc:E.Calm) (hf:(E.file 1).length=4*(N+1)):TornS N V E:=by
 refine⟨fun n=>lastTo E n 4,fun n=>if hn:n<N then (h n hn).choose else 0,fun n hn=>?_,.inl fun n hn=>HalfH.calm hc (by omega) _⟩
 show Whole (V n) n _ (if hn:n<N then (h n hn).choose else 0)
 rw[dif_pos hn]
 exact(h n hn).choose_spec.2
theorem Je0 {k:Nat} {V:Nat→List (List Int)}(h:Hist N V st E) (hc:E.Calm) (hf:(E.file 1).length=4*(N+1)) {n0:Nat}(hn0:n0<N) {P:List Int}(hP:Whole (V n0) n0 (sealAll P (st+1)) (st+1)) {m:Nat}(hm:m<(pwOps L k N n0 P (st+1)).length) :
 TornS N V (E.run ((pwOps L k N n0 P (st+1)).take m)).stop:=by
 have hlen:(sealAll P (st+1)).length=4:=Qet _ _
 have hfl:∀j,∀o∈(flOps L k).take j,o.file<2∧o.file≠1:=fun j o ho=>by
  unfold flOps at ho
  split at ho
  ·rw[Jeg _ _ _ _ o ho];exact⟨by omega,by omega⟩
  ·simp at ho
 have hall:=hfl (flOps L k).length
 rw[List.take_length] at hall
 have h0:=h.torn hc hf
 obtain⟨O,so,ho1,ho2⟩:=h0
 unfold pwOps at hm ⊢
 rcases Nat.lt_or_ge m (flOps L k).length with h1|h1
 ·
  rw[List.take_append_of_le_length (by omega)]
  refine(h.torn hc hf).ext ?_
  show (E.run _).file 1=_
  exact Dev.run_other hc.left 1 _ (hfl m)
 ·rw[List.length_append,List.length_append,Jc2,Jc2,hlen] at hm
  rw[List.take_append,List.take_of_length_le (by omega),Dev.run_append]
  have hE1:(E.run (flOps L k)).file 1=E.file 1:=Dev.run_other hc.left 1 _ hall
  have hl1:(E.run (flOps L k)).left=none:=Dev.run_left hc.left _
  obtain⟨E1,he1⟩:∃E1,E.run (flOps L k)=E1:=⟨_,rfl⟩
  rw[he1] at hE1 hl1 ⊢
  obtain⟨j,hj⟩:∃j,m-(flOps L k).length=j:=⟨_,rfl⟩
  rw[hj]
  rcases Nat.lt_or_ge j 5 with h2|h2
  ·
   rw[List.take_append_of_le_length (by rw[Jc2,hlen];omega),Jdj _ _ _ (by rw[hlen];omega),←Dev.writes_run]
   refine⟨fun n=>lastTo E n 4,fun n=>if hn:n<N then (h n hn).choose else 0,fun n hn=>?_,.inl fun n hn=>?_⟩
   ·show Whole (V n) n _ (if hn:n<N then (h n hn).choose else 0)
    rw[dif_pos hn]
    exact(h n hn).choose_spec.2
   ·refine(HalfH.calm hc (by omega) (lastTo E n 4)).ext fun i hi=>?_
    show ((E1.writes 1 (4*N) _ j).file 1)[4*n+i]?=_
    rw[Dev.writes_get hl1 (by omega),if_neg (by omega),hE1]
  ·
   rw[List.take_append,List.take_of_length_le (by rw[Jc2,hlen];omega),Dev.run_append,←Dev.lay_run,Jc2,hlen,Jdj _ _ _ (by rw[hlen];omega),←Dev.writes_run]
   have hsp:∀i,((E1.lay 1 (4*N) (sealAll P (st+1))).file 1)[i]?=if 4*N≤i∧i<4*N+4 then ((E.file 1)[i]?).map (fun s=>⟨(sealAll P (st+1)).getD (i-4*N) [],[]⟩) else (E.file 1)[i]?:=fun i=>by
    unfold Dev.lay
    rw[Dev.sync_get (Dev.writes_free hl1 _ _ _ _) (by omega),if_pos rfl,Dev.writes_get hl1 (by omega),hE1,hlen]
    by_cases e:4*N≤i∧i<4*N+4
    ·rw[if_pos e,if_pos e]
     cases (E.file 1)[i]? with
     | none=>rfl
     | some s =>
       show some (Sec.sync (s.add _))=some _
       unfold Sec.sync
       rw[Sec.add_newest]
    ·rw[if_neg e,if_neg e]
     cases hs:(E.file 1)[i]? with
     | none=>rfl
     | some s =>
       have hw:=hc.waits 1 i s hs
       show some (Sec.sync s)=some s
       obtain⟨a,b⟩:=s
       simp only at hw
       subst hw
       rfl
   have hl2:(E1.lay 1 (4*N) (sealAll P (st+1))).left=none:=Dev.lay_free hl1 _ _ _
   obtain⟨E2,he2⟩:∃E2,E1.lay 1 (4*N) (sealAll P (st+1))=E2:=⟨_,rfl⟩
   rw[he2] at hsp hl2 ⊢
   have hw:=fun i=>Dev.writes_get hl2 (f:=1) (by omega) (4*n0) (sealAll P (st+1)) (j-5) i
   refine⟨fun n=>lastTo E n 4,fun n=>if hn:n<N then (h n hn).choose else 0,fun n hn=>?_,.inr ⟨n0,sealAll P (st+1),st+1,hn0,hP,by omega,?_,?_,?_,fun n hn hne=>?_⟩⟩
   ·show Whole (V n) n _ (if hn:n<N then (h n hn).choose else 0)
    rw[dif_pos hn]
    exact(h n hn).choose_spec.2
   ·show (if hn:n0<N then (h n0 hn).choose else 0)≠_
    rw[dif_pos hn0]
    have:=(h n0 hn0).choose_spec.1
    omega
   ·intro i hi
    obtain⟨s,hs⟩:∃s,(E.file 1)[4*N+i]?=some s:=⟨_,List.getElem?_eq_getElem (by omega)⟩
    refine⟨⟨(sealAll P (st+1)).getD i [],[]⟩,?_,⟨0,by omega,by rw[Jd4]⟩,fun x hx=>by cases hx⟩
    show ((E2.writes 1 (4*n0) _ (j-5)).file 1)[4*N+i]?=_
    rw[hw,if_neg (by omega),hsp,if_pos (by omega),hs,Nat.add_sub_cancel_left];rfl
   ·intro i hi
    obtain⟨s,hs⟩:∃s,(E.file 1)[4*n0+i]?=some s:=⟨_,List.getElem?_eq_getElem (by omega)⟩
    obtain⟨s',hs',hl',hw'⟩:=HalfH.calm hc (m:=n0) (by omega) (sealAll P (st+1)) i hi
    have hss:s'=s:=by rw[hs] at hs';exact(Option.some.inj hs').symm
    subst hss
    have hwn:=hc.waits 1 _ _ hs
    by_cases e:i<j-5
    ·refine⟨s'.add ((sealAll P (st+1)).getD i []),?_,hl',fun x hx=>?_⟩
     ·show ((E2.writes 1 (4*n0) _ (j-5)).file 1)[4*n0+i]?=_
      rw[hw,if_pos (by omega),hsp,if_neg (by omega),hs,Nat.add_sub_cancel_left];rfl
     ·have:x∈s'.waits++[(sealAll P (st+1)).getD i []]:=hx
      rw[hwn,List.nil_append] at this
      exact List.mem_singleton.1 this
    ·refine⟨s',?_,hl',hw'⟩
     show ((E2.writes 1 (4*n0) _ (j-5)).file 1)[4*n0+i]?=_
     rw[hw,if_neg (by omega),hsp,if_neg (by omega),hs]
   ·refine(HalfH.calm hc (by omega) (lastTo E n 4)).ext fun i hi=>?_
    show ((E2.writes 1 (4*n0) _ (j-5)).file 1)[4*n+i]?=_
    rw[hw,if_neg (by omega),hsp,if_neg (by omega)]
theorem Dev.op_still {f j:Nat} {x:List Int}(h:(D.file f)[j]?=some ⟨x,[]⟩) (o:DOp) (ho:o.file<2) (hw:∀l,o≠.write f j l):((D.op o).file f)[j]?=some ⟨x,[]⟩:=by
 cases o with
 | write g k l =>
   have ho':g<2:=ho
   show ((D.write g k l).file f)[j]?=_
   unfold Dev.write
   split
   ·cases hs:(D.file g)[k]? with
    | none=>exact h
    | some s =>
      show ((D.go.2.put g _).file f)[j]?=_
      rw[Dev.put_file _ _ ho']
      by_cases e:f=g
      ·subst e
       rw[if_pos rfl,List.getElem?_set_ne (fun q=>hw l (by rw[q]))];exact h
      ·rw[if_neg e,Dev.go_file];exact h
   ·rw[Dev.go_file];exact h
 | sync g =>
   have ho':g<2:=ho
   show ((D.sync g).file f)[j]?=_
   unfold Dev.sync
   split
   ·rw[Dev.put_file _ _ ho']
    by_cases e:f=g
    ·subst e
     rw[if_pos rfl,List.getElem?_map,h];rfl
    ·rw[if_neg e,Dev.go_file];exact h
   ·rw[Dev.go_file];exact h
theorem Dev.run_still {f j:Nat} {x:List Int}(h:(D.file f)[j]?=some ⟨x,[]⟩) (l:List DOp) (hl:∀o∈l,o.file<2∧∀y,o≠.write f j y):((D.run l).file f)[j]?=some ⟨x,[]⟩:=by
 induction l generalizing D with
 | nil=>exact h
 | cons o l ih=>exact ih (Dev.op_still h o (hl o List.mem_cons_self).1 (hl o List.mem_cons_self).2) fun p hp=>hl p (List.mem_cons_of_mem _ hp)
def Heads (D:Dev) (x:Nat→List Int):Prop:=∀i,i<2→(D.file 0)[i]?=some ⟨x i,[]⟩
theorem Heads.run {x:Nat→List Int}(h:Heads D x) (l:List DOp) (hl:∀o∈l,o.file<2∧∀k y,o = .write 0 k y→2≤k):Heads (D.run l) x:=fun i hi =>
 Dev.run_still (h i hi) l fun o ho=>⟨(hl o ho).1,fun y e=>by have:=(hl o ho).2 i y e;omega⟩
theorem Sec.crash_still (x:List Int) (f:Fate):Sec.crash ⟨x,[]⟩ f=⟨x,[]⟩:=by
 simp[Sec.crash,Sec.left,Sec.keepN,Sec.base]
theorem Heads.crash {x:Nat→List Int}(h:Heads D x) (f:List Fate):Heads (D.crash f) x:=fun i hi=>by
 rw[Dev.crash_get _ _ _ _ (by omega),h i hi,Option.map_some,Sec.crash_still]
theorem Heads.ext {x:Nat→List Int}(h:Heads D x) (he:E.file 0=D.file 0):Heads E x:=fun i hi=>by rw[he];exact h i hi
theorem Heads.last {x:Nat→List Int}(h:Heads D x) {i:Nat}(hi:i<2):D.last 0 i=x i:=by
 unfold Dev.last
 rw[h i hi];rfl
def headX (i:Nat):List Int:=if i=0 then headB 1 1 0 0 else zeros128
theorem Jd8 {a:Nat}(ha:2≤a) (ls:List (List Int)):∀o∈Jcv 0 a ls,o.file<2∧∀k y,o = .write 0 k y→2≤k:=fun o ho=>by
 unfold Jcv wrOps at ho
 rcases List.mem_append.1 ho with h|h
 ·obtain⟨j,_,rfl⟩:=List.mem_map.1 h
  exact⟨by show 0<2;omega,fun k y e=>by cases e;omega⟩
 ·rw[List.mem_singleton] at h
  subst h
  exact⟨by show 0<2;omega,fun k y e=>by cases e⟩
theorem Jef (L:LogM) (k N n:Nat) (P:List Int) (st:Nat):∀o∈pwOps L k N n P st,o.file<2∧∀k y,o = .write 0 k y→2≤k:=fun o ho=>by
 have h1:∀a ls,∀o∈Jcv 1 a ls,o.file<2∧∀k y,o = .write 0 k y→2≤k:=fun a ls o ho=>by
  unfold Jcv wrOps at ho
  rcases List.mem_append.1 ho with h|h
  ·obtain⟨j,_,rfl⟩:=List.mem_map.1 h
   exact⟨by show 1<2;omega,fun k y e=>by cases e⟩
  ·rw[List.mem_singleton] at h
   subst h
   exact⟨by show 1<2;omega,fun k y e=>by cases e⟩
 unfold pwOps at ho
 rcases List.mem_append.1 ho with h|h
 ·unfold flOps at h
  split at h
  ·exact Jd8 (by unfold LogM.firstS;split <;> omega) _ o h
  ·cases h
 ·rcases List.mem_append.1 h with h|h
  ·exact h1 _ _ o h
  ·exact h1 _ _ o h
theorem Je5 (D:Dev) (a:Nat) (want:List (List Int)) (n:Nat):∃ops,(Qa7 D a want n).1=D.run ops∧∀o∈ops,o.file=0∧∀k y,o = .write 0 k y→a≤k:=by
 induction n with
 | zero=>exact⟨[],rfl,fun o ho=>by cases ho⟩
 | succ n ih =>
   obtain⟨ops,h1,h2⟩:=ih
   unfold Qa7
   split
   ·exact⟨ops,h1,h2⟩
   ·refine⟨ops++[.write 0 (a+n) (Qck want n)],by rw[Dev.run_append,←h1];rfl,fun o ho=>?_⟩
    rcases List.mem_append.1 ho with h|h
    ·exact h2 o h
    ·rw[List.mem_singleton] at h
     subst h
     exact⟨rfl,fun k y e=>by cases e;omega⟩
theorem Dev.make_run (D:Dev) (a n:Nat) (want:List (List Int)):∃ops,D.make a n want=D.run ops∧∀o∈ops,o.file=0∧∀k y,o = .write 0 k y→a≤k:=by
 obtain⟨ops,h1,h2⟩:=Je5 D a want n
 unfold Dev.make
 split
 ·refine⟨ops++[.sync 0],by rw[Dev.run_append,←h1];rfl,fun o ho=>?_⟩
  rcases List.mem_append.1 ho with h|h
  ·exact h2 o h
  ·rw[List.mem_singleton] at h
   subst h
   exact⟨rfl,fun k y e=>by cases e⟩
 ·exact⟨ops,h1,h2⟩
theorem Heads.make {x:Nat→List Int}(h:Heads D x) {a:Nat}(ha:2≤a) (n:Nat) (want:List (List Int)):Heads (D.make a n want) x:=by
 obtain⟨ops,h1,h2⟩:=Dev.make_run D a n want
 rw[h1]
 exact h.run ops fun o ho=>⟨by rw[(h2 o ho).1];omega,fun k y e=>by have:=(h2 o ho).2 k y e;omega⟩
theorem Heads.lay {x:Nat→List Int}(h:Heads D x) (a:Nat) (ls:List (List Int)):Heads (D.lay 1 a ls) x:=by
 rw[Dev.lay_run]
 refine h.run _ fun o ho=>?_
 unfold Jcv wrOps at ho
 rcases List.mem_append.1 ho with h|h
 ·obtain⟨j,_,rfl⟩:=List.mem_map.1 h
  exact⟨by show 1<2;omega,fun k y e=>by cases e⟩
 ·rw[List.mem_singleton] at h
  subst h
  exact⟨by show 1<2;omega,fun k y e=>by cases e⟩
def verOf (vs:List (List (List Int))) (n:Nat):List (List Int):=vs.getD n []
def Shad (N:Nat) (V:Nat→List (List Int)) (D E:Dev):Prop:=(D.halted=false∧D.free=E)∨(D=D.stop∧TornS N V D)
structure GoodT (vs:List (List (List Int))) (N st:Nat) (L:LogM) (D:Dev) (F:List Fr) (cur:Nat→List Int):Prop where
 ex:∃E,Good N st L E F cur∧Hist N (verOf vs) st E∧Shad N (verOf vs) D E
 cv:∀n,n<N→cur n∈verOf vs n
 f1:D.f1.length=4*(N+1)
 f0:L.firstS+L.strips≤D.f0.length
 lim:D.lim 600000
 strips:L.strips≤2047
 hd:Heads D headX
theorem GoodT.cap {vs:List (List (List Int))} {F:List Fr} {cur:Nat→List Int}(h:GoodT vs N st L D F cur):L.stream.length≤127*L.strips:=let ⟨_,g,_⟩:=h.ex;g.cap
theorem GoodT.rise {vs:List (List (List Int))} {F:List Fr} {cur:Nat→List Int}(h:GoodT vs N st L D F cur):L.Rise:=let ⟨_,g,_⟩:=h.ex;g.rise
theorem GoodT.base {vs:List (List (List Int))} {F:List Fr} {cur:Nat→List Int}(h:GoodT vs N st L D F cur):0<L.base:=let ⟨_,g,_⟩:=h.ex;g.base
theorem GoodT.page {vs:List (List (List Int))} {F:List Fr} {cur:Nat→List Int}(h:GoodT vs N st L D F cur):∀n,n<N→Sound (cur n)∧pageNumber (cur n)=n∧(pageLSN (cur n)=0∧cur n=emptyPage n∨L.has (pageLSN (cur n))):=let ⟨_,g,_⟩:=h.ex;g.page
theorem GoodT.frame {vs:List (List (List Int))} {F:List Fr} {cur:Nat→List Int}(h:GoodT vs N st L D F cur):∀(i:Nat) (f:Fr) (b:Nat) (P:List Int),F[i]?=some f→f.pg=some (b,P)→f.n<N∧P=cur f.n∧(0<f.first→0<pageLSN P):=let ⟨_,g,_⟩:=h.ex;g.frame
theorem GoodT.none {vs:List (List (List Int))} {F:List Fr} {cur:Nat→List Int}(h:GoodT vs N st L D F cur):∀(i:Nat) (f:Fr),F[i]?=some f→f.pg=Option.none→f=Fr.no:=let ⟨_,g,_⟩:=h.ex;g.none
theorem GoodT.drop {vs:List (List (List Int))} {F:List Fr} {cur:Nat→List Int}(h:GoodT vs N st L D F cur) {i:Nat}{f:Fr}(hf:F[i]?=some f) (h0:f.first=0):GoodT vs N st L D (F.set i Fr.no) cur:=by
 obtain⟨E,g,r⟩:=h.ex
 exact⟨⟨E,g.drop hf h0,r⟩,h.cv,h.f1,h.f0,h.lim,h.strips,h.hd⟩
theorem GoodT.fill {vs:List (List (List Int))} {F:List Fr} {cur:Nat→List Int}(h:GoodT vs N st L D F cur) {i n:Nat}(hi:i<F.length) (hn:n<N) (hno:∀(j:Nat) (g:Fr),F[j]?=some g→g.has n=false) (b:Nat) (hf:F[i]?=some Fr.no):GoodT vs N st L D (F.set i ⟨some (b,cur n),n,0⟩) cur:=by
 obtain⟨E,g,r⟩:=h.ex
 exact⟨⟨E,g.fill hi hn hno b hf,r⟩,h.cv,h.f1,h.f0,h.lim,h.strips,h.hd⟩
theorem Hist.mono {V W:Nat→List (List Int)}(h:Hist N V st E) (hv:∀n,n<N→∀x∈V n,x∈W n):Hist N W st E:=fun n hn=>by
 obtain⟨s,a,b⟩:=h n hn
 exact⟨s,a,b.mono (hv n hn)⟩
theorem Shad.mono {V W:Nat→List (List Int)}(h:Shad N V D E) (hv:∀n,n<N→∀x∈V n,x∈W n):Shad N W D E :=
 h.imp id (fun ⟨a,b⟩=>⟨a,b.mono hv⟩)
theorem Jfc {vs:List (List (List Int))} {ver:List (List Int)}(h:vs[n]?=some ver) (R:List Int) (m:Nat):(∀x∈verOf vs m,x∈verOf (vs.set n (ver++[R])) m)∧R∈verOf (vs.set n (ver++[R])) n:=by
 have hn:=(List.getElem?_eq_some_iff.1 h).1
 unfold verOf
 refine⟨fun x hx=>?_,?_⟩
 ·rw[List.getD_eq_getElem?_getD] at hx ⊢
  by_cases e:n=m
  ·subst e
   rw[h] at hx
   rw[List.getElem?_set_self hn]
   exact List.mem_append_left _ hx
  ·rw[List.getElem?_set_ne e];exact hx
 ·rw[List.getD_eq_getElem?_getD,List.getElem?_set_self hn]
  exact List.mem_append_right _ (by simp)
theorem GoodT.put {vs:List (List (List Int))} {F:List Fr} {cur:Nat→List Int}(h:GoodT vs N st L D F cur) {i:Nat}{f:Fr}{b:Nat}{P Q:List Int}(hf:F[i]?=some f) (hpg:f.pg=some (b,P)) (hQ:Sound Q) (hQn:pageNumber Q=f.n) (rb:List Int) (hrb:0<rb.length) (hcap:L.stream.length+rb.length≤127*L.strips) (h64:L.base+L.stream.length<2 ^ 64) {nv:Nat}(hnv:0<nv)
 {ver:List (List Int)} (hver:vs[f.n]?=some ver) {R:List Int} (hR:layN Q 0 (leB (L.base+L.stream.length) 8)=R) :
 GoodT (vs.set f.n (ver++[R])) N st (L.more rb) D (F.set i {f with pg:=some (b,R),first:=nv}) (updC cur f.n R):=by
 obtain⟨E,g,hh,hs⟩:=h.ex
 have hv:=fun n (hn:n<N)=>(Jfc hver R n).1
 have hg:=g.put hf hpg hQ hQn rb hrb hcap h64 hnv
 rw[hR] at hg
 refine⟨⟨E,hg,hh.mono hv,hs.mono hv⟩,fun n hn=>?_,h.f1,h.f0,h.lim,h.strips,h.hd⟩
 unfold updC
 by_cases e:n=f.n
 ·rw[if_pos e,e]
  exact(Jfc hver R f.n).2
 ·rw[if_neg e]
  exact hv n hn _ (h.cv n hn)
theorem Dev.run_last(h:E.left=Option.none) (l:List DOp) {j:Nat}(hl:∀o∈l,o.file<2∧∀k x,o = .write 1 k x→k≠j):(E.run l).last 1 j=E.last 1 j:=by
 induction l generalizing E with
 | nil=>rfl
 | cons o l ih =>
   show ((E.op o).run l).last 1 j=_
   rw[ih (Dev.op_left h o) (fun p hp=>hl p (List.mem_cons_of_mem _ hp))]
   obtain⟨a,b⟩:=hl o (by simp)
   cases o with
   | write f k x =>
     show (E.write f k x).last 1 j=_
     have a':f<2:=a
     unfold Dev.last
     rw[Dev.write_get h a',if_neg (fun q=>?_)]
     obtain⟨q1,q2⟩:=q
     subst q1
     exact b k x rfl q2.symm
   | sync f =>
     show (E.sync f).last 1 j=_
     exact Dev.last_sync h a 1 j
theorem Jd1 {k i:Nat} {P:List Int}(hm:m<N) (hne:m≠n) (hi:i<4):∀o∈pwOps L k N n P st,o.file<2∧∀q x,o = .write 1 q x→q≠4*m+i:=by
 have hs:(sealAll P st).length=4:=Qet _ _
 have hlay:∀f a,f<2→(f=1→∀j,j<4→a+j≠4*m+i)→∀o∈Jcv f a (sealAll P st),o.file<2∧∀q x,o = .write 1 q x→q≠4*m+i:=fun f a hf hj o ho=>by
  unfold Jcv wrOps at ho
  rcases List.mem_append.1 ho with h|h
  ·obtain⟨j,hj',rfl⟩:=List.mem_map.1 h
   have:=List.mem_range.1 hj'
   refine⟨hf,fun q x e=>?_⟩
   cases e
   exact hj rfl j (by omega)
  ·rw[List.mem_singleton.1 h]
   exact⟨hf,fun q x e=>by cases e⟩
 intro o ho
 unfold pwOps at ho
 rcases List.mem_append.1 ho with h|h
 ·unfold flOps at h
  split at h
  ·unfold Jcv wrOps at h
   rcases List.mem_append.1 h with h|h
   ·obtain⟨j,_,rfl⟩:=List.mem_map.1 h
    exact⟨by show 0<2;omega,fun q x e=>by cases e⟩
   ·rw[List.mem_singleton.1 h]
    exact⟨by show 0<2;omega,fun q x e=>by cases e⟩
  ·cases h
 ·rcases List.mem_append.1 h with h|h
  ·exact hlay 1 (4*N) (by omega) (fun _ j hj=>by omega) o h
  ·exact hlay 1 (4*n) (by omega) (fun _ j hj=>by omega) o h
theorem Jgq(hh:D.halted=false) {k N n st m:Nat}{P:List Int}(hm:m<N) (hne:m≠n):lastTo (wrD (flD L D k) N n P st) m 4=lastTo D m 4:=by
 rw[Jdb]
 refine Qm0 fun i hi=>?_
 have hfar:=Jd1 (L:=L) (k:=k) (st:=st) (P:=P) hm hne hi
 rcases Dev.run_halts hh (pwOps L k N n P st) with ⟨_,e⟩|⟨j,_,e⟩
 ·have:∀X:Dev,X.last 1 (4*m+i)=X.free.last 1 (4*m+i):=fun _=>rfl
  rw[this,e,this D]
  exact Dev.run_last rfl _ hfar
 ·rw[e]
  show (D.free.run _).last 1 _=_
  rw[Dev.run_last rfl _ (fun o ho=>hfar o (List.mem_of_mem_take ho))]
  rfl
theorem Jf2 (D:Dev) (L:LogM) (k N n st:Nat) (P:List Int):(wrD (flD L D k) N n P st).f1.length=D.f1.length∧(wrD (flD L D k) N n P st).f0.length=D.f0.length:=by
 have h:∀X:Dev,X.file 1=X.f1:=fun _=>rfl
 have h0:∀X:Dev,X.file 0=X.f0:=fun _=>rfl
 obtain⟨a,b⟩:=Qyt L D k
 unfold wrD
 rw[←a,←b,←h,←h,←h0,←h0]
 exact⟨by rw[Dev.lay_length _ _ _ (by omega),Dev.lay_length _ _ _ (by omega)],by rw[Dev.lay_length _ _ _ (by omega),Dev.lay_length _ _ _ (by omega)]⟩
theorem GoodT.home {vs:List (List (List Int))} {F:List Fr} {cur:Nat→List Int}(h:GoodT vs N st L D F cur) (hh:D.halted=false) {n:Nat}(hn:n<N) (hno:∀(i:Nat) (f:Fr),F[i]?=some f→f.has n=true→f.first=0):HomeIs D n st L (cur n):=by
 obtain⟨E,g,_,hs⟩:=h.ex
 obtain⟨Q,hQ,hq⟩:=g.home n hn
 rw[←hq hno]
 rcases hs with ⟨_,rfl⟩|⟨e,_⟩
 ·exact hQ
 ·rw[e] at hh;cases hh
theorem GoodT.write {vs:List (List (List Int))} {F:List Fr} {cur:Nat→List Int}(h:GoodT vs N st L D F cur) (hst:st+1<18446744073709551616) {i:Nat}{f:Fr}{b:Nat}{P:List Int}(hf:F[i]?=some f) (hpg:f.pg=some (b,P)) (h0:0<f.first) {k:Nat}{fl:Bool}(hat:L.AtR (pageLSN P) k fl) :
 GoodT vs N (st+1) (flL L (k+(if fl=true then 1 else 0))) (wrD (flD L D (k+(if fl=true then 1 else 0))) N f.n P (st+1)) (F.set i {f with first:=0}) cur:=by
 obtain⟨E,g,hh,hs⟩:=h.ex
 obtain⟨hgw,hho,_⟩:=g.write hf hpg h0 hat
 obtain⟨hfn,hP,hl⟩:=g.frame i f b P hf hpg
 obtain⟨p1,p2,_⟩:=g.page f.n hfn
 generalize k+(if fl=true then 1 else 0)=κ at *
 obtain⟨e1,e2⟩:=Jf2 D L κ N f.n (st+1) P
 obtain⟨_,_,_,e4,e5⟩:=Qjz L κ
 have hW:Whole (verOf vs f.n) f.n (sealAll P (st+1)) (st+1):=.inr ⟨P,rfl,by rw[hP];exact h.cv _ hfn,by rw[hP];exact p1,by rw[hP];exact p2,hl h0,by omega,by rw[show (2:Nat) ^ 64=18446744073709551616 from by decide];omega⟩
 have hEf:(E.file 1).length=4*(N+1):=g.f1
 have hEh:E.halted=D.halted∨D=D.stop:=by
  rcases hs with ⟨_,rfl⟩|⟨e,_⟩
  ·exact .inl rfl
  ·exact .inr e
 refine⟨⟨_,hgw,fun n hn=>?_,?_⟩,h.cv,e1.trans h.f1,by rw[e2,e4,e5];exact h.f0,?_,by rw[e4];exact h.strips,by rw[Jdb];exact h.hd.run _ (Jef _ _ _ _ _ _)⟩
 ·by_cases e:n=f.n
  ·subst e
   exact⟨st+1,Nat.le_refl _,by rw[hho];exact hW⟩
  ·obtain⟨s,a,c⟩:=hh n hn
   have:lastTo (wrD (flD L E κ) N f.n P (st+1)) n 4=lastTo E n 4:=by
    rw[Jdb]
    exact Qm0 fun i hi=>Dev.run_last g.calm.left _ (Jd1 hn e hi)
   exact⟨s,by omega,by rw[this];exact c⟩
 ·rw[Jdb,Jdb]
  rcases hs with ⟨a,rfl⟩|⟨e,c⟩
  ·rcases Dev.run_halts a (pwOps L κ N f.n P (st+1)) with ⟨x,y⟩|⟨m,hm,y⟩
   ·exact .inl ⟨x,y⟩
   ·refine .inr ⟨by rw[y];rfl,?_⟩
    rw[y]
    exact Je0 hh g.calm hEf hfn hW hm
  ·rw[e,Dev.stop_run]
   exact .inr ⟨rfl,by rw[←e];exact c⟩
 ·rcases hs with ⟨a,rfl⟩|⟨e,c⟩
  ·have l0:D.lim 0:=(g.calm.lim 0:D.free.lim 0)
   have hr:(Qdp L κ).length≤500000:=by
    have h1:=Qd9 L g.rise κ
    have h2:=LogM.behindK_le g.rise (κ-1)
    have h3:L.flushTo κ=L.behindK (κ-1):=rfl
    rw[h1]
    unfold parts
    have:=g.cap
    have:=h.strips
    omega
   have hs4:(sealAll P (st+1)).length=4:=Qet _ _
   have l1:(flD L D κ).lim 500000:=by
    unfold flD
    split
    ·have:=Dev.lay_lim l0 0 (L.firstS+L.lasts/127) (by omega) (Qdp L κ)
     exact Dev.lim_mono this (by omega)
    ·exact Dev.lim_mono l0 (by omega)
   have l2:=Dev.lay_lim l1 1 (4*N) (by omega) (sealAll P (st+1))
   have l3:=Dev.lay_lim l2 1 (4*f.n) (by omega) (sealAll P (st+1))
   rw[hs4] at l3
   exact Dev.lim_mono l3 (by omega)
  ·rw[Jdb,e,Dev.stop_run,←e]
   exact h.lim
theorem Sec.newest_is (s:Sec):s.newest=s.last∨s.newest∈s.waits:=by
 unfold Sec.newest
 cases h:s.waits with
 | nil=>exact .inl rfl
 | cons a l=>right;rw[List.getLastD_cons];exact List.getLastD_mem_cons
theorem HalfH.op {A B:List (List Int)}(h:HalfH D m A B) (hA:Four A) (hB:Four B) {o:DOp}(ho:o.file<2) (hw:∀k x,o = .write 1 k x→∀i,i<4→k=4*m+i→x=A.getD i []):HalfH (D.op o) m A B:=by
 cases hg:D.go.1 with
 | false =>
   refine h.ext fun i _=>?_
   have:(D.op o).file 1=D.file 1:=by
    cases o with
    | write f k l =>
      show (D.write f k l).file 1=_
      unfold Dev.write
      rw[if_neg (by rw[hg];decide)]
      exact Dev.go_file _ _
    | sync f =>
      show (D.sync f).file 1=_
      unfold Dev.sync
      rw[if_neg (by rw[hg];decide)]
      exact Dev.go_file _ _
   rw[this]
 | true =>
   have he:(D.op o).file 1=(D.free.op o).file 1:=by rw[←(Dev.op_go hg o).2];rfl
   intro i hi
   obtain⟨s,hs,⟨t,ht,hl⟩,hx⟩:=h i hi
   rw[he]
   cases o with
   | write f k l =>
     have hf:f<2:=ho
     show ∃s,((D.free.write f k l).file 1)[4*m+i]?=some s∧_
     rw[Dev.write_get rfl hf]
     by_cases e:1=f∧4*m+i=k
     ·obtain⟨rfl,rfl⟩:=e
      rw[if_pos ⟨rfl,rfl⟩]
      refine⟨s.add l,by show ((D.file 1)[4*m+i]?).map _=_;rw[hs];rfl,⟨t,ht,hl⟩,fun x hxm=>?_⟩
      rcases List.mem_append.1 (show x∈s.waits++[l] from hxm) with q|q
      ·exact hx x q
      ·rw[List.mem_singleton.1 q];exact hw _ _ rfl i hi rfl
     ·rw[if_neg e]
      exact⟨s,hs,⟨t,ht,hl⟩,hx⟩
   | sync f =>
     have hf:f<2:=ho
     show ∃s,((D.free.sync f).file 1)[4*m+i]?=some s∧_
     rw[Dev.sync_get rfl hf]
     by_cases e:1=f
     ·rw[if_pos e]
      refine⟨s.sync,by show ((D.file 1)[4*m+i]?).map _=_;rw[hs];rfl,?_,fun x hxm=>by cases hxm⟩
      show ∃t,t≤128∧s.newest=_
      rcases Sec.newest_is s with q|q
      ·rw[q];exact⟨t,ht,hl⟩
      ·rw[hx _ q]
       exact⟨128,Nat.le_refl _,(Jd5 (hA i hi) (hB i hi)).symm⟩
     ·rw[if_neg e]
      exact⟨s,hs,⟨t,ht,hl⟩,hx⟩
theorem HalfH.run {A B:List (List Int)}(h:HalfH D m A B) (hA:Four A) (hB:Four B) (l:List DOp) (hl:∀o∈l,o.file<2∧∀k x,o = .write 1 k x→∀i,i<4→k=4*m+i→x=A.getD i []):HalfH (D.run l) m A B:=by
 induction l generalizing D with
 | nil=>exact h
 | cons o l ih =>
   obtain⟨a,b⟩:=hl o (by simp)
   exact ih (h.op hA hB a b) (fun p hp=>hl p (List.mem_cons_of_mem _ hp))
theorem HalfH.reads {O:List (List Int)}(h:HalfH D m O O) (hl:O.length=4) (hw:∀(k:Nat) (s:Sec),(D.file 1)[k]?=some s→s.waits=[]):lastTo D m 4=O:=by
 refine ext4 (Qbe D m 4) hl fun i hi=>?_
 obtain⟨s,hs,⟨t,_,hx⟩,_⟩:=h i hi
 rw[Jdk _ _ _ hi]
 unfold Dev.last
 rw[hs]
 show s.newest=_
 unfold Sec.newest
 rw[hw _ _ hs,Jfh] at *
 exact hx
theorem HalfH.torn {A B:List (List Int)}(h:HalfH D m A B) (hw:∀(k:Nat) (s:Sec),(D.file 1)[k]?=some s→s.waits=[]):Torn4 A B (lastTo D m 4):=by
 refine⟨Qbe D m 4,fun i hi=>?_⟩
 obtain⟨s,hs,⟨t,ht,hx⟩,_⟩:=h i hi
 refine⟨t,ht,?_⟩
 rw[Jdk _ _ _ hi]
 unfold Dev.last
 rw[hs]
 show s.newest=_
 unfold Sec.newest
 rw[hw _ _ hs]
 exact hx
theorem Whole.ok {V:List (List Int)} {s:Nat} {O:List (List Int)}(h:Whole V n O s):Qb3 O=true:=by
 rcases h with ⟨rfl,_⟩|⟨Q,rfl,_,h1,_,_,_,h2⟩
 ·exact Qj2
 ·exact(Qs6 h1.tidy.len s h2).1
theorem TornS.open {V:Nat→List (List Int)}(h:TornS N V D) (hw:∀(k:Nat) (s:Sec),(D.file 1)[k]?=some s→s.waits=[]) :
 (∀n,n<N→∃s,Whole (V n) n (lastTo D n 4) s) ∨
   ∃n0,n0<N∧Qb3 (lastTo D n0 4)=false∧(∃P σ,lastTo D N 4=sealAll P σ∧P∈V n0∧Sound P∧pageNumber P=n0∧0<pageLSN P∧0<σ∧σ<2 ^ 64)∧∀n,n<N→n≠n0→∃s,Whole (V n) n (lastTo D n 4) s:=by
 obtain⟨O,st,h1,h2⟩:=h
 rcases h2 with h2|⟨n0,S,σ,a,b,c,d,e,f,g⟩
 ·exact .inl fun n hn=>⟨st n,by rw[(h2 n hn).reads (h1 n hn).sealed.len hw];exact h1 n hn⟩
 ·have hoth:∀n,n<N→n≠n0→∃s,Whole (V n) n (lastTo D n 4) s:=fun n hn hne=>⟨st n,by rw[(g n hn hne).reads (h1 n hn).sealed.len hw];exact h1 n hn⟩
  have hsp:=e.reads b.sealed.len hw
  have ht:=f.torn hw
  cases hok:Qb3 (lastTo D n0 4) with
  | true =>
    left
    intro n hn
    by_cases q:n=n0
    ·subst q
     rcases torn_all b.sealed (h1 n hn).sealed d ht hok with r|r
     ·exact⟨σ,by rw[r];exact b⟩
     ·exact⟨st n,by rw[r];exact h1 n hn⟩
    ·exact hoth n hn q
  | false =>
    right
    refine⟨n0,a,hok,?_,hoth⟩
    rw[hsp]
    rcases b with ⟨_,h0,_⟩|⟨P,p1,p2⟩
    ·omega
    ·exact⟨P,σ,p1,p2⟩
theorem TornS.mend {V:Nat→List (List Int)}(h:TornS N V D) (hw:∀(k:Nat) (s:Sec),(D.file 1)[k]?=some s→s.waits=[]) {n0:Nat}(hn0:n0<N) (hno:Qb3 (lastTo D n0 4)=false):TornS N V (D.lay 1 (4*n0) (lastTo D N 4)):=by
 obtain⟨O,st,h1,h2⟩:=h
 rw[Dev.lay_run]
 rcases h2 with h2|⟨n1,S,σ,a,b,c,d,e,f,g⟩
 ·exfalso
  have:=(h2 n0 hn0).reads (h1 n0 hn0).sealed.len hw
  rw[this,(h1 n0 hn0).ok] at hno
  cases hno
 ·have hn01:n0=n1:=by
   by_cases q:n0=n1
   ·exact q
   ·exfalso
    have:=(g n0 hn0 q).reads (h1 n0 hn0).sealed.len hw
    rw[this,(h1 n0 hn0).ok] at hno
    cases hno
  subst hn01
  have hsp:=e.reads b.sealed.len hw
  rw[hsp]
  have hl:=b.sealed.len
  have key:∀{m:Nat} {A B:List (List Int)},Four A→Four B→(m=n0→A=S)→HalfH D m A B→HalfH (D.run (Jcv 1 (4*n0) S)) m A B:=fun {m A B} ha hb hm k=>k.run ha hb _ fun o ho=>by
   unfold Jcv wrOps at ho
   rcases List.mem_append.1 ho with q|q
   ·obtain⟨j,hj,rfl⟩:=List.mem_map.1 q
    have:=List.mem_range.1 hj
    refine⟨by show 1<2;omega,fun k x ex i hi hk=>?_⟩
    cases ex
    have hmn:m=n0:=by omega
    have hij:j=i:=by omega
    rw[hm hmn,hij]
   ·rw[List.mem_singleton.1 q]
    exact⟨by show 1<2;omega,fun k x ex=>by cases ex⟩
  exact⟨O,st,h1,.inr ⟨n0,S,σ,a,b,c,d,key b.four b.four (fun q=>rfl) e,key b.four (h1 n0 a).four (fun _=>rfl) f,fun n hn hne=>key (h1 n hn).four (h1 n hn).four (fun q=>absurd q hne) (g n hn hne)⟩⟩
theorem Jga {w:World} {τ:Tags} {bp bd:Nat} {H:PoolH}(h:Qji w τ bp H) (hl:LogAt w τ H.bl bd L) (hd:DevAt w τ bd D) (n:Nat) (hn:n<H.n) (h512:H.n≤512) (hf:4*H.n+4≤D.f1.length) (hw:Qb3 (lastTo D n 4)=false) (hs:Qb3 (lastTo D H.n 4)=true) (hP:Sound (Qjt (lastTo D H.n 4))) (hPn:pageNumber (Qjt (lastTo D H.n 4))=n) (hlim:D.lim 800000) :
 Calls Tryz.prog 63 #[.pointer (some ⟨bp,0,none⟩),.int .i64 (n:Int)] w fun e w'=>e = .returned (.bool true)∧∃τ',DevAt w' τ' bd (D.lay 1 (4*n) (lastTo D H.n 4))∧Step w τ w' τ' DevTag:=by
 have h1:=Qfi h hl hd n (by omega)
 have h4:=Qbe D n 4
 have q4:=Qbe D H.n 4
 have d1:=h.at 1 (v:=.int .i64 (H.n:Int)) rfl
 obtain⟨N,hN⟩:∃N,H.n=N:=⟨_,rfl⟩
 rw[hN] at d1
 generalize lastTo D n 4=ls at *
 obtain⟨H1,H4,H_q4,Hw,Hs,HP,HPn,H_h,Hl,Hd,Hlim,Hf⟩:=hid12 h1 h4 q4 hw hs hP hPn h hl hd hlim hf
 have HN:=Lib.hid hN
 clear h1 h4 q4 hw hs hP hPn h hl hd hlim hf hN
 go_enter Tryz.func63,Tryz.ntmps63
 go_wp2_with fail
 refine H1.out.mono ?_
 rintro e w1 ⟨v,τ1,rfl,hr,hs1⟩
 have h2:=Qnz hr.row tData H4.out
 obtain⟨p,c,rfl⟩:=hr.val
 obtain⟨H2,Hs1⟩:=hid2 h2 hs1
 clear h2 hs1 H1 hr
 go_wp2_with fail
 refine H2.out.mono ?_
 rintro e w2 ⟨τ2,hs2,hk⟩
 rcases hk with ⟨hno,-⟩|⟨-,rfl⟩
 ·rw[Hw.out] at hno;cases hno
 have hs12:=Hs1.out.trans hs2
 have hp2:=H_h.out.step hs12 (fun h=>h)
 have e1:=hp2.at 1 (v:=.int .i64 (N:Int)) (by rw[←HN.out];rfl)
 have hsec:=Qfi hp2 (Hl.out.step hs12 (fun _ _ h=>h)) (Hd.out.step hs12 (fun _ h=>h.elim)) H.n (by have:=Hf.out;omega)
 rw[HN.out] at hsec
 obtain⟨Hs12,Hsec⟩:=hid2 hs12 hsec
 clear hs12 hsec H2 Hs1 hs2 hp2
 go_wp2_with fail
 refine Hsec.out.mono ?_
 rintro e w3 ⟨v3,τ3,rfl,hr3,hs3⟩
 rw[←HN.out] at hr3
 have h3:=Qnz hr3.row tData H_q4.out
 obtain⟨p3,c3,rfl⟩:=hr3.val
 rw[H_q4.out] at h3
 rw[H_q4.out] at hr3
 rw[H_q4.out]
 obtain⟨H3,Hs3,Hr3⟩:=hid3 h3 hs3 hr3
 clear h3 hs3 hr3 Hsec
 go_wp2_with fail
 refine H3.out.mono ?_
 rintro e w4 ⟨τ4,hs4,hk⟩
 rcases hk with ⟨-,u,rfl,hb⟩|⟨hno,-⟩
 case inr=>rw[Hs.out] at hno;cases hno
 have hrd:=Qg4 hb HP.out (g:=tOut)
 have hlen:=HP.out.tidy.len
 obtain⟨pu,cu,rfl,-,-⟩:=hb.any
 rw[hlen] at hrd
 rw[hlen]
 obtain⟨Hrd,Hs4⟩:=hid2 hrd hs4
 clear hrd hs4 H3 hb
 go_wp2_with fail
 refine Hrd.out.mono ?_
 rintro e w5 ⟨b,τ5,rfl,hlow,hpa,hs5⟩
 have hnum:=Qg5 hpa
 rw[HPn.out] at hnum
 obtain⟨Hnum,Hs5⟩:=hid2 hnum hs5
 clear hnum hs5 Hrd hpa
 go_wp2_with fail
 refine Hnum.out.mono ?_
 rintro e w6 ⟨rfl,rfl⟩
 have hst:=Hs12.out.trans (Hs3.out.trans (Hs4.out.trans Hs5.out))
 have h36:=Hs4.out.trans Hs5.out
 have hp6:=H_h.out.step hst (fun h=>h)
 have hlay:=Qkw hp6 (Hl.out.step hst (fun _ _ h=>h)) (Hd.out.step hst (fun _ h=>h.elim)) n (by have:=Hf.out;omega) (Hr3.out.row.step h36 (fun h=>h) (fun h=>h)) (by simp[DevTag,tOut]) H_q4.out Hlim.out
 obtain⟨Hst,Hlay⟩:=hid2 hst hlay
 clear hst hlay Hnum h36 hp6
 go_wp2_with fail
 refine Hlay.out.mono ?_
 rintro e w7 ⟨rfl,τ7,hd7,hs7⟩
 obtain⟨Hd7,Hs7⟩:=hid2 hd7 hs7
 clear hd7 hs7
 go_wp2_with fail
 go_ret
 exact⟨rfl,τ7,Hd7.out,(Hst.out.mono (fun _ h=>h.elim)).trans Hs7.out⟩
theorem Dev.op_last (D:Dev) {j:Nat}(o:DOp) (ho:o.file<2) (hw:∀k x,o = .write 1 k x→k≠j):(D.op o).last 1 j=D.last 1 j:=by
 unfold Dev.last
 cases o with
 | write g k l =>
   have ho':g<2:=ho
   show (((D.write g k l).file 1)[j]?.map Sec.newest).getD []=_
   unfold Dev.write
   split
   ·cases hs:(D.file g)[k]? with
    | none=>rfl
    | some s =>
      show (((D.go.2.put g _).file 1)[j]?.map Sec.newest).getD []=_
      rw[Dev.put_file _ _ ho']
      by_cases e:1=g
      ·subst e
       rw[if_pos rfl,List.getElem?_set_ne (hw k l rfl)]
      ·rw[if_neg e,Dev.go_file]
   ·rw[Dev.go_file]
 | sync g =>
   have ho':g<2:=ho
   show (((D.sync g).file 1)[j]?.map Sec.newest).getD []=_
   unfold Dev.sync
   split
   ·rw[Dev.put_file _ _ ho']
    by_cases e:1=g
    ·subst e
     rw[if_pos rfl,List.getElem?_map]
     cases (D.file 1)[j]? <;> rfl
    ·rw[if_neg e,Dev.go_file]
   ·rw[Dev.go_file]
theorem Dev.run_lasts (D:Dev) {j:Nat}(l:List DOp) (hl:∀o∈l,o.file<2∧∀k x,o = .write 1 k x→k≠j):(D.run l).last 1 j=D.last 1 j:=by
 induction l generalizing D with
 | nil=>rfl
 | cons o l ih=>exact(ih (D.op o) fun p hp=>hl p (List.mem_cons_of_mem _ hp)).trans (Dev.op_last D o (hl o List.mem_cons_self).1 (hl o List.mem_cons_self).2)
theorem Dev.lay_far (D:Dev) (n m:Nat) (ls:List (List Int)) (h4:ls.length=4) (hne:m≠n):lastTo (D.lay 1 (4*n) ls) m 4=lastTo D m 4:=by
 refine Qm0 fun i hi=>?_
 rw[Dev.lay_run]
 refine Dev.run_lasts _ _ fun o ho=>?_
 unfold Jcv wrOps at ho
 rcases List.mem_append.1 ho with h|h
 ·obtain⟨j,hj,rfl⟩:=List.mem_map.1 h
  rw[List.mem_range,h4] at hj
  exact⟨by show 1<2;omega,fun k y e=>by cases e;omega⟩
 ·rw[List.mem_singleton] at h
  subst h
  exact⟨by show 1<2;omega,fun k y e=>by cases e⟩
theorem Dev.run_file1 (D:Dev) (l:List DOp) (hl:∀o∈l,o.file=0):(D.run l).file 1=D.file 1:=by
 induction l generalizing D with
 | nil=>rfl
 | cons o l ih =>
   refine(ih (D.op o) fun p hp=>hl p (List.mem_cons_of_mem _ hp)).trans ?_
   have ho:=hl o List.mem_cons_self
   cases o with
   | write g k x =>
     have ho':g=0:=ho
     subst ho'
     show (D.write 0 k x).file 1=_
     unfold Dev.write
     split
     ·cases hs:(D.file 0)[k]? with
      | none=>rfl
      | some s =>
        show (D.go.2.put 0 _).file 1=_
        rw[Dev.put_file _ _ (by omega),if_neg (by omega),Dev.go_file]
     ·rw[Dev.go_file]
   | sync g =>
     have ho':g=0:=ho
     subst ho'
     show (D.sync 0).file 1=_
     unfold Dev.sync
     split
     ·rw[Dev.put_file _ _ (by omega),if_neg (by omega),Dev.go_file]
     ·rw[Dev.go_file]
structure NewT (N:Nat) (V:Nat→List (List Int)) (x:Nat→List Int) (D D':Dev):Prop where
 torn:TornS N V D'
 hd:Heads D' x
 f1:D'.f1.length=D.f1.length
 f0:D'.f0.length=D.f0.length
 whole:D.left=none→∀n,n<N→∃s,Whole (V n) n (lastTo D' n 4) s
 lim:∀b,D.lim b→D'.lim (b+4)
theorem Jd3 {w:World} {τ:Tags} {bl bd k:Nat} {V:Nat→List (List Int)} {x:Nat→List Int}(hl:LogAt w τ bl bd L) (hd:DevAt w τ bd D) (ht:TornS N V D) (hw:∀(k:Nat) (s:Sec),(D.file 1)[k]?=some s→s.waits=[]) (hf:D.f1.length=4*(N+1)) (h1:1≤N) (h8:N≤512) (h3:3≤k) (h64:k≤64) (hlim:D.lim 800000) (hx:Heads D x) :
 Calls Tryz.prog 14 #[.pointer (some ⟨bl,0,none⟩),.int .i64 (N:Int),.int .i64 (k:Int)] w fun e w'=>∃bp bf τ' H D',e = .returned (.tuple #[.pointer (some ⟨bp,0,none⟩),.int .u16 0])∧PoolAt w' τ' bp bf H (List.replicate k Fr.no) (Ck.Clk.newS k)∧H.bl=bl∧H.n=N∧DevAt w' τ' bd D'∧NewT N V x D D'∧Step w τ w' τ' DevTag:=by
 have hq:∀E:Dev,E.file 1=E.f1:=fun _=>rfl
 have hq0:∀E:Dev,E.file 0=E.f0:=fun _=>rfl
 rcases ht.open hw with ha|⟨n0,hn0,hno,⟨P,σ,hsp,hPV,hPs,hPn,hPl,hσ0,hσ⟩,hoth⟩
 ·refine(Jc9 (S:=DevTag) (Di:=fun _=>D) (m:=4*(N+1)) hl hd N k h1 h8 h3 h64 (fun _=>hf) (Nat.le_refl _) (fun g h=>(Qbg h).1) Qau (fun i hi W T bp H hp hn hlW hdW=>?_)).mono ?_
  ·obtain⟨s,hs⟩:=ha i hi
   refine(Qxk hp hlW hdW i (by rw[hf];omega) hs.ok).mono ?_
   rintro e w' ⟨rfl,τ',hs'⟩
   exact⟨rfl,τ',hdW.step hs' (fun _ h=>h.elim),hs'.mono (fun _ h=>h.elim)⟩
  ·rintro e w' ⟨bp,bf,τ',H,rfl,hp,e1,e2,-,-,hd',hs'⟩
   exact⟨bp,bf,τ',H,D,rfl,hp,e1,e2,hd',⟨ht,hx,rfl,rfl,fun _=>ha,fun b hb=>Dev.lim_mono hb (by omega)⟩,hs'⟩
 ·have h4:(lastTo D N 4).length=4:=Qbe D N 4
  obtain⟨E,hE⟩:∃E,D.lay 1 (4*n0) (lastTo D N 4)=E:=⟨_,rfl⟩
  have hEf:E.f1.length=4*(N+1):=by rw[←hE,←hq,Dev.lay_length _ _ _ (by omega),hq];exact hf
  have hbod:Qjt (lastTo D N 4)=P:=by rw[hsp];exact(Qs6 hPs.tidy.len σ hσ).2.2.1
  have hfar:∀i,i≠n0→lastTo E i 4=lastTo D i 4:=fun i hi=>by rw[←hE];exact Dev.lay_far D n0 i _ h4 hi
  have hmk:=ht.mend hw hn0 hno
  rw[hE] at hmk
  refine(Jc9 (S:=DevTag) (Di:=fun i=>if i≤n0 then D else E) (m:=4*(N+1)) hl (by rw[if_pos (Nat.zero_le _)];exact hd) N k h1 h8 h3 h64 (fun i=>by
   show (if i≤n0 then D else E).f1.length=_
   split
   ·exact hf
   ·exact hEf) (Nat.le_refl _) (fun g h=>(Qbg h).1) Qau (fun i hi W T bp H hp hn hlW hdW=>?_)).mono ?_
  ·by_cases c:i≤n0
   ·rw[if_pos c] at hdW
    by_cases c2:i=n0
    ·subst c2
     rw[if_neg (by omega)]
     have:=Jga hp hlW hdW i (by omega) (by omega) (by rw[hf,hn];omega) hno (by rw[hn,hsp];exact(Qs6 hPs.tidy.len σ hσ).1) (by rw[hn,hbod];exact hPs) (by rw[hn,hbod];exact hPn) hlim
     rw[hn,hE] at this
     exact this
    ·rw[if_pos (show i+1≤n0 by omega)]
     obtain⟨s,hs⟩:=hoth i hi c2
     refine(Qxk hp hlW hdW i (by rw[hf];omega) hs.ok).mono ?_
     rintro e w' ⟨rfl,τ',hs'⟩
     exact⟨rfl,τ',hdW.step hs' (fun _ h=>h.elim),hs'.mono (fun _ h=>h.elim)⟩
   ·rw[if_neg c] at hdW
    rw[if_neg (by omega)]
    obtain⟨s,hs⟩:=hoth i hi (by omega)
    refine(Qxk hp hlW hdW i (by rw[hEf];omega) (by rw[hfar i (by omega)];exact hs.ok)).mono ?_
    rintro e w' ⟨rfl,τ',hs'⟩
    exact⟨rfl,τ',hdW.step hs' (fun _ h=>h.elim),hs'.mono (fun _ h=>h.elim)⟩
  ·rintro e w' ⟨bp,bf,τ',H,rfl,hp,e1,e2,-,-,hd',hs'⟩
   rw[if_neg (show ¬N≤n0 by omega)] at hd'
   refine⟨bp,bf,τ',H,E,rfl,hp,e1,e2,hd',⟨hmk,by rw[←hE];exact hx.lay _ _,hEf.trans hf.symm,by rw[←hE,←hq0,Dev.lay_length _ _ _ (by omega),hq0],fun hlf n hn=>?_,fun b hb=>?_⟩,hs'⟩
   ·by_cases c:n=n0
    ·subst c
     refine⟨σ,.inr ⟨P,?_,hPV,hPs,hPn,hPl,hσ0,hσ⟩⟩
     rw[←hE,Qmz hlf n _ h4 (by rw[hf];omega),if_pos rfl,hsp]
    ·obtain⟨s,hs⟩:=hoth n hn c
     exact⟨s,by rw[hfar n c];exact hs⟩
   ·rw[←hE]
    have:=Dev.lay_lim hb 1 (4*n0) (by omega) (lastTo D N 4)
    rw[h4] at this
    exact this
end Go.Proofs.YtemacanaihaldaaGreat