/-
 A region that draws its order: what yields in every world that meets S is taken first;S is to hold behind each operation but one that waits for all others (the last store).
-/
import Derived.Test.YtemacanaihaldaaGreatMem
import Derived.Deep.RegionHeld3
import Derived.Deep.RegionLaw
import Derived.OrdersIn
import Derived.OwnWalkIn
set_option linter.all false
namespace Go.Proofs.YtemacanaihaldaaGreat
open Go.RowKit
section
variable {P : Program} {ops : Array Oper} {Q : Exit → Act → World → Prop} {md : Region.Mode} {S : World → Prop}
def Qhp (md:Region.Mode) (ops:Array Oper):Nat→Nat→Nat→Bool
 | 0,_,_=>false
 | n+1,j,i=>match ops[j]? with
   | some o=>o.after.any fun e=>Region.binds md e && (e.on==i || Qhp md ops n e.on i)
   | none=>false
def Qc4 (md:Region.Mode) (ops:Array Oper) (j:Nat):Bool:=(List.range ops.size).all fun k=>k==j || Qhp md ops ops.size j k
def Qc1 (md:Region.Mode) (ops:Array Oper) (listed:Array Bool):Bool :=
 (List.range ops.size).all fun k => !listed.getD k false || match ops[k]? with
   | some o=>o.after.all fun e => !Region.binds md e || listed.getD e.on false
   | none=>true
def Qce (P:Program) (md:Region.Mode) (ops:Array Oper) (Q:Exit→Act→World→Prop) (S:World→Prop):Nat→Array Bool→Act→World→Prop
 | 0,listed,a,w=>Region.ready md ops listed=[]∧Q .normal a w
 | fuel+1,listed,a,w =>
   (Region.ready md ops listed=[]→Q .normal a w) ∧
   ∀i∈Region.ready md ops listed,wpOp P ops Q i (fun a' w'=>(Qc4 md ops i=false→S w')∧Qce P md ops Q S fuel (listed.setIfInBounds i true) a' w') a w
theorem Qmh:∀(fuel:Nat) (listed:Array Bool) (a:Act) (w:World),Qce P md ops Q S fuel listed a w→wpAny P md ops Q fuel listed a w
 | 0,_,_,_,h=>h
 | fuel+1,_,_,_,h=>⟨h.1,fun i hi=>wpOp_mono (fun a' w' h'=>Qmh fuel _ a' w' h'.2) (h.2 i hi)⟩
theorem Qc6 {i:Nat}{listed:Array Bool}(hr:i∈Region.ready md ops listed) (h:listed.getD i false=true):False:=by
 have h0:=(mem_ready.1 hr).1
 rcases Nat.lt_or_ge i listed.size with h'|h'
 ·simp[h'] at h0 h;rw[h0] at h;cases h
 ·simp[Array.getElem?_eq_none h'] at h
theorem Qjf {listed:Array Bool}(h:Qc1 md ops listed=true) {k:Nat}{o:Oper}(ho:ops[k]?=some o) (hk:listed.getD k false=true):∀e∈o.after,Region.binds md e=true→listed.getD e.on false=true:=by
 intro e he hb
 simp only[Qc1,List.all_eq_true,List.mem_range,Bool.or_eq_true,Bool.not_eq_true'] at h
 have h1:=h k (Array.getElem?_eq_some_iff.1 ho).1
 rcases h1 with h1|h1
 ·rw[hk] at h1;cases h1
 ·rw[ho] at h1
  simp only[Array.all_eq_true,Bool.or_eq_true,Bool.not_eq_true'] at h1
  obtain⟨n,hn,rfl⟩:=Array.getElem_of_mem he
  rcases h1 n hn with h2|h2
  ·rw[hb] at h2;cases h2
  ·exact h2
theorem Qj7 {listed:Array Bool}(hcl:Qc1 md ops listed=true):∀(n j i:Nat) (o:Oper),ops[j]?=some o→(∀e∈o.after,Region.binds md e=true→listed.getD e.on false=true)→Qhp md ops n j i=true→listed.getD i false=true:=by
 intro n
 induction n with
 | zero=>intro j i o _ _ h;cases h
 | succ n ih =>
   intro j i o ho hall h
   simp only[Qhp,ho,Array.any_eq_true,Bool.and_eq_true,Bool.or_eq_true,beq_iff_eq] at h
   obtain⟨k,hk,hb,h⟩:=h
   have hl:=hall _ (Array.getElem_mem hk) hb
   rcases h with h|h
   ·rw[h] at hl;exact hl
   ·cases ho':ops[o.after[k].on]? with
    | none =>
      cases n with
      | zero=>cases h
      | succ n=>simp only[Qhp,ho'] at h;cases h
    | some o'=>exact ih _ _ o' ho' (Qjf hcl ho' hl) h
theorem Qj8 {i j:Nat}{listed:Array Bool}(hcl:Qc1 md ops listed=true) (hr:i∈Region.ready md ops listed) (hj:j∈Region.ready md ops listed) (hji:j≠i):Qc4 md ops j=false:=by
 obtain⟨hjun,oj,hoj,hall⟩:=mem_ready.1 hj
 cases hw:Qc4 md ops j with
 | false=>rfl
 | true =>
   exfalso
   simp only[Qc4,List.all_eq_true,List.mem_range,Bool.or_eq_true,beq_iff_eq] at hw
   have hi:i<ops.size:=by
    obtain⟨_,oi,hoi,_⟩:=mem_ready.1 hr
    exact(Array.getElem?_eq_some_iff.1 hoi).1
   rcases hw i hi with h|h
   ·exact hji h.symm
   ·exact Qc6 hr (Qj7 hcl _ _ _ oj hoj hall h)
theorem Qje {j:Nat}{listed:Array Bool}(hcl:Qc1 md ops listed=true) (hj:j∈Region.ready md ops listed):Qc1 md ops (listed.setIfInBounds j true)=true:=by
 obtain⟨hjun,oj,hoj,hall⟩:=mem_ready.1 hj
 have grow:∀k,listed.getD k false=true→(listed.setIfInBounds j true).getD k false=true:=fun k hk=>by
  by_cases e:j=k
  ·subst e
   exact(Qc6 hj hk).elim
  ·rw[getD_set_ne false e];exact hk
 simp only[Qc1,List.all_eq_true,List.mem_range,Bool.or_eq_true,Bool.not_eq_true']
 intro k hk
 by_cases hl:(listed.setIfInBounds j true).getD k false=true
 ·right
  have hok:ops[k]?=some ops[k]:=Array.getElem?_eq_getElem hk
  rw[hok]
  simp only[Array.all_eq_true,Bool.or_eq_true,Bool.not_eq_true']
  intro n hn
  by_cases hb:Region.binds md ops[k].after[n]=true
  ·right
   by_cases e:j=k
   ·subst e
    rw[hok] at hoj
    cases hoj
    exact grow _ (hall _ (Array.getElem_mem hn) hb)
   ·rw[getD_set_ne false e] at hl
    exact grow _ (Qjf hcl hok hl _ (Array.getElem_mem hn) hb)
  ·left;simpa using hb
 ·left;simpa using hl
theorem Qoq {i:Nat}{oi:Oper}{v:Value}(hi:ops[i]?=some oi) (hsel:∀(j:Nat) (o:Oper) cs b,ops[j]?=some o→o.op≠.select cs b)
 (hQ:∀c a w,Q (.panic c) (a.put oi.dst v) w→Q (.panic c) a w) :
 ∀(fuel:Nat) (listed:Array Bool) (a:Act) (w:World),Qc1 md ops listed=true →
   (∀j oj,ops[j]?=some oj→j≠i→listed.getD j true=false→(∀e∈oj.after,Region.binds md e=true→e.on≠i)→oi.apart ops oj=true) →
   i∈Region.ready md ops listed→YieldsIf P ops S oi v a→S w →
   Qce P md ops Q S fuel (listed.setIfInBounds i true) (a.put oi.dst v) w→Qce P md ops Q S (fuel+1) listed a w:=by
 intro fuel
 induction fuel with
 | zero =>
   intro listed a w _ _ hr hy hS H
   refine⟨fun h=>(by rw[h] at hr;cases hr),fun j hj=>?_⟩
   by_cases hji:j=i
   ·subst hji;exact hy.wpOp hi hS ⟨fun _=>hS,H⟩
   ·have:=ready_mono hj hji
    rw[H.1] at this
    cases this
 | succ fuel ih =>
   intro listed a w hcl hfree hr hy hS H
   refine⟨fun h=>(by rw[h] at hr;cases hr),fun j hj=>?_⟩
   by_cases hji:j=i
   ·subst hji;exact hy.wpOp hi hS ⟨fun _=>hS,H⟩
   ·have hno:=Qj8 hcl hr hj hji
    have h1:=H.2 j (ready_mono hj hji)
    obtain⟨hjun,oj,hoj,hall⟩:=mem_ready.1 hj
    have hnot:∀e∈oj.after,Region.binds md e=true→e.on≠i:=fun e he hb heq=>by
     have h1:=hall e he hb
     rw[heq] at h1
     exact Qc6 hr h1
    have h2:=wpOp_putIf hoj (hfree j oj hoj hji hjun hnot) (fun cs b=>hsel i oi cs b hi) (fun cs b=>hsel j oj cs b hoj) hQ hy h1
    have hfree':∀k ok,ops[k]?=some ok→k≠i→(listed.setIfInBounds j true).getD k true=false →
     (∀e∈ok.after,Region.binds md e=true→e.on≠i)→oi.apart ops ok=true:=fun k ok hk hki hun hno=>by
     refine hfree k ok hk hki ?_ hno
     by_cases hjk:j=k
     ·subst hjk;exact hjun
     ·rw[getD_set_ne true hjk] at hun;exact hun
    refine wpOp_mono (fun a' w' h3=>⟨fun _=>h3.2.1 hno,ih (listed.setIfInBounds j true) a' w' (Qje hcl hj) hfree' (ready_mono hr (Ne.symm hji)) h3.1 (h3.2.1 hno) ?_⟩) h2
    have:=h3.2.2
    rw[Array.setIfInBounds_comm _ _ hji]
    exact this
theorem Qj5 {i:Nat}{oi:Oper}{v:Value}{fuel:Nat}{listed:Array Bool}{a:Act}{w:World}(hi:ops[i]?=some oi)
 (hs:Region.noSelect ops=true) (hf:Region.free md ops listed i=true) (hr:(Region.ready md ops listed).contains i=true) (hcl:Qc1 md ops listed=true)
 (hQ:∀c a w,Q (.panic c) (a.put oi.dst v) w→Q (.panic c) a w) (hy:YieldsIf P ops S oi v a) (hS:S w)
 (h:Qce P md ops Q S fuel (listed.setIfInBounds i true) (a.put oi.dst v) w):Qce P md ops Q S (fuel+1) listed a w :=
 Qoq hi (Region.noSelect_spec hs) hQ fuel listed a w hcl (Region.free_spec hi hf) (by simpa using hr) hy hS h
theorem tk {i:Nat}{oi:Oper}{v:Value}{fuel:Nat}{listed:Array Bool}{a:Act}{w:World}(hi:ops[i]?=some oi) (hy:YieldsIf P ops S oi v a) (hS:S w) (h:Qce P md ops Q S fuel (listed.setIfInBounds i true) (a.put oi.dst v) w)
 (hs:Region.noSelect ops=true:=by decide +kernel) (hf:Region.free md ops listed i=true:=by decide +kernel) (hr:(Region.ready md ops listed).contains i=true:=by decide +kernel) (hcl:Qc1 md ops listed=true:=by decide +kernel)
 (hQ:∀c a w,Q (.panic c) (a.put oi.dst v) w→Q (.panic c) a w:=by exact fun _ _ _ h=>h):Qce P md ops Q S (fuel+1) listed a w :=
 Qj5 hi hs hf hr hcl hQ hy hS h
def TK (P:Program) (md:Region.Mode) (ops:Array Oper) (Q:Exit→Act→World→Prop) (S:World→Prop) (_is:List Nat) (fuel:Nat) (listed:Array Bool) (a:Act) (w:World):Prop:=Qce P md ops Q S fuel listed a w
theorem tk0 {fuel:Nat}{listed:Array Bool}{a:Act}{w:World}(is:List Nat) (h:TK P md ops Q S is fuel listed a w):Qce P md ops Q S fuel listed a w:=h
theorem tk9 {fuel:Nat}{listed:Array Bool}{a:Act}{w:World}(h:Qce P md ops Q S fuel listed a w):TK P md ops Q S [] fuel listed a w:=h
theorem tks {i:Nat}{is:List Nat}{oi:Oper}{v:Value}{fuel:Nat}{listed:Array Bool}{a:Act}{w:World}(hi:ops[i]?=some oi) (hy:YieldsIf P ops S oi v a) (hS:S w) (h:TK P md ops Q S is fuel (listed.setIfInBounds i true) (a.put oi.dst v) w)
 (hs:Region.noSelect ops=true:=by decide +kernel) (hf:Region.free md ops listed i=true:=by decide +kernel) (hr:(Region.ready md ops listed).contains i=true:=by decide +kernel) (hcl:Qc1 md ops listed=true:=by decide +kernel)
 (hQ:∀c a w,Q (.panic c) (a.put oi.dst v) w→Q (.panic c) a w:=by exact fun _ _ _ h=>h):TK P md ops Q S (i::is) (fuel+1) listed a w :=
 Qj5 hi hs hf hr hcl hQ hy hS h
theorem lz4 {α:Type}(l:List α) (i:Nat) (h:i<l.toArray.size):l.toArray[i]=l[i]'(by simpa using h):=rfl
theorem lz5 {α:Type}(a:α) (l:List α) (i:Nat) (h:i+1<(a::l).length):(a::l)[i+1]=l[i]'(Nat.lt_of_succ_lt_succ h):=rfl
theorem lz6 {α:Type}(a:α) (l:List α) (h:0<(a::l).length):(a::l)[0]=a:=rfl
theorem lz1 {α:Type}(l:List α) (i:Nat) (a:α):l.toArray.setIfInBounds i a=(l.set i a).toArray:=by simp
theorem lz2 {α:Type}(a b:α) (l:List α) (i:Nat):(a::l).set (i+1) b=a::l.set i b:=rfl
theorem lz3 {α:Type}(a b:α) (l:List α):(a::l).set 0 b=b::l:=rfl
theorem Qad {listed:Array Bool}{a:Act}{w:World}(hr:Region.ready md ops listed=[]) (h:Q .normal a w) :
 ∀fuel,Qce P md ops Q S fuel listed a w
 | 0=>⟨hr,h⟩
 | _+1=>⟨fun _=>h,by rw[hr];simp⟩
theorem Qst {i:Nat}{o:Oper}{fuel:Nat}{listed:Array Bool}{a:Act}{w:World}(hr:Region.ready md ops listed=[i]) (ho:ops[i]?=some o)
 (h:∀K':Act→World→Prop,Shut (∀a w,(Qc4 md ops i=false→S w)→Qce P md ops Q S fuel (listed.setIfInBounds i true) a w→K' a w)→if Region.wanted o (yielded ops a.tmps)=true then Oper.wp P o a w K' Q else K' (a.put o.dst undef) w) :
 Qce P md ops Q S (fuel+1) listed a w:=by
 refine⟨fun h0=>(by rw[hr] at h0;cases h0),fun j hj=>?_⟩
 rw[hr] at hj
 obtain rfl:=List.mem_singleton.1 hj
 exact wpOp_step ho (fun K' hK=>h K' (fun a w hS hW=>hK a w ⟨hS,hW⟩))
theorem tk1 (i:Nat) {o:Oper}{fuel:Nat}{listed:Array Bool}{a:Act}{w:World}(ho:ops[i]?=some o)
 (h:∀K':Act→World→Prop,Shut (∀a w,(Qc4 md ops i=false→S w)→Qce P md ops Q S fuel (listed.setIfInBounds i true) a w→K' a w)→if Region.wanted o (yielded ops a.tmps)=true then Oper.wp P o a w K' Q else K' (a.put o.dst undef) w)
 (hr:Region.ready md ops listed=[i]:=by decide +kernel):Qce P md ops Q S (fuel+1) listed a w:=Qst hr ho h
theorem Qaf {id:Nat}{a:Act}{w:World}(hm:P.follows .mixedOrders=true)
 (h:Qce P .any ops Q S ops.size (Array.replicate ops.size false) a w.drew):(Code.region id ops true).wp P Q a w :=
 wp_region_any hm (Qmh _ _ _ _ h)
end
end Go.Proofs.YtemacanaihaldaaGreat
namespace Go.Proofs.YtemacanaihaldaaGreat
open Go.RowKit
section
variable {F : Fence} {n : Nat} {P : Program} {ops : Array Oper} {Q : Exit → Act → World → Prop} {md : Region.Mode} {S : World → Prop}
def Qk9 (ops:Array Oper):Bool:=ops.all fun o=>match o.op with | .defer _=>false|_=>true
theorem Qi9 (h:Qk9 ops=true) {i:Nat}{o:Oper}(hi:ops[i]?=some o):∀c,o.op≠.defer c:=by
 intro c hc
 obtain⟨hlt,rfl⟩:=Array.getElem?_eq_some_iff.1 hi
 have h1:=Array.all_eq_true.1 h i hlt
 rw[hc] at h1
 cases h1
def Qg0 (F:Fence) (n:Nat) (P:Program) (md:Region.Mode) (ops:Array Oper) (Q:Exit→Act→World→Prop) (S:World→Prop):Nat→Array Bool→Act→World→Prop
 | 0,listed,a,w=>Region.ready md ops listed=[]∧Q .normal a w
 | fuel+1,listed,a,w =>
   (Region.ready md ops listed=[]→Q .normal a w) ∧
   ∀i∈Region.ready md ops listed,wpOpIn F n P ops Q i (fun a' w'=>(Qc4 md ops i=false→S w')∧Qg0 F n P md ops Q S fuel (listed.setIfInBounds i true) a' w') a w
theorem Qix:∀(fuel:Nat) (listed:Array Bool) (a:Act) (w:World),Qg0 F n P md ops Q S fuel listed a w→wpAnyIn F n P md ops Q fuel listed a w
 | 0,_,_,_,h=>h
 | fuel+1,_,_,_,h=>⟨h.1,fun i hi=>wpOpIn_mono (fun a' w' h'=>Qix fuel _ a' w' h'.2) (h.2 i hi)⟩
def YieldsM (P:Program) (ops:Array Oper) (S:World→Prop) (o:Oper) (v:Value) (a:Act):Prop:=YieldsIf P ops S o v a∧∀w,o.about P w a.eval=none
theorem YieldsM.of_same {o:Oper}{v:Value}{a a':Act}(hy:YieldsM P ops S o v a) (he:execOp a'.eval o=execOp a.eval o)
 (hw:Region.wanted o (yielded ops a'.tmps)=Region.wanted o (yielded ops a.tmps)) (hb:∀w,o.about P w a'.eval=o.about P w a.eval):YieldsM P ops S o v a' :=
 ⟨hy.1.of_same he hw,fun w=>by rw[hb w];exact hy.2 w⟩
theorem YieldsM.wpOpIn {i:Nat}{o:Oper}{v:Value}{a:Act}(hd:Qk9 ops=true) (hi:ops[i]?=some o) (hy:YieldsM P ops S o v a)
 {K:Act→World→Prop} {w:World} (hS:S w) (h:K (a.put o.dst v) w):wpOpIn F n P ops Q i K a w:=by
 unfold Go.wpOpIn
 simp only[hi]
 have hab:∀f,o.about P w a.eval=some f→F.fn f:=fun f hf=>by rw[hy.2 w] at hf;cases hf
 rcases hy.1 with ⟨hw,hv⟩|⟨hw,rfl⟩
 ·simp only[hw,if_true,Oper.wpIn,Oper.semAt_plain F _ _ (Qi9 hd hi),hv w hS,Oper.uponIn];exact⟨hab,h⟩
 ·simp only[hw,Bool.false_eq_true,if_false];exact⟨hab,h⟩
theorem Qp0 {j:Nat}{oi oj:Oper}{v:Value}(hd:Qk9 ops=true) (hj:ops[j]?=some oj) (hap:oi.apart ops oj=true)
 (hsi:∀cs b,oi.op≠.select cs b) (hsj:∀cs b,oj.op≠.select cs b)
 (hQ:∀c a w,Q (.panic c) (a.put oi.dst v) w→Q (.panic c) a w) {K:Act→World→Prop} {a:Act} {w:World}
 (hy:YieldsM P ops S oi v a) (h:wpOpIn F n P ops Q j K (a.put oi.dst v) w) :
 wpOpIn F n P ops Q j (fun a' w'=>YieldsM P ops S oi v a'∧K (a'.put oi.dst v) w') a w:=by
 obtain⟨h1,h2,h3⟩:=Oper.apart_spec hap
 have keep:∀(a:Act),YieldsM P ops S oi v a→∀u,YieldsM P ops S oi v (a.put oj.dst u):=fun a hy u =>
  hy.of_same (execOp_put oi hsi a oj.dst u h3) (wanted_put oi a oj.dst u h3) (fun w=>about_put oi w a oj.dst u h3)
 have keepD:∀d,YieldsM P ops S oi v {a with defers:=d::a.defers}:=fun d=>hy.of_same rfl rfl (fun _=>rfl)
 have hpl:=Qi9 hd hj
 unfold wpOpIn at *
 simp only[hj] at *
 rw[wanted_put oj a oi.dst v h1,about_put oj w a oi.dst v h1] at h
 split
 ·rename_i hw
  simp only[hw,if_true] at h
  unfold Oper.wpIn at *
  rw[about_put oj w a oi.dst v h1] at h
  refine⟨h.1,?_⟩
  have h:=h.2
  rw[Oper.semAt_plain F _ _ hpl,execOp_put oj hsj a oi.dst v h1] at h
  rw[Oper.semAt_plain F _ _ hpl]
  generalize (execOp a.eval oj).run P w=r at *
  cases r with
  | ok x w' =>
    cases x <;> simp only[Oper.uponIn] at h ⊢
    case value u=>exact⟨keep a hy u,by rw[←Act.put_comm a v u h2];exact h⟩
    case skip=>exact⟨keep a hy _,by rw[←Act.put_comm a v undef h2];exact h⟩
    case defer d =>
     refine⟨keep _ (keepD d) _,?_⟩
     rw[←Act.put_comm _ v undef h2,←Act.put_defers]
     exact h
    case enter f args =>
     refine⟨h.1,CallsIn.mono h.2 fun e w'' he=>?_⟩
     cases e with
     | returned u=>exact⟨keep a hy u,by rw[←Act.put_comm a v u h2];exact he⟩
     | panicked c=>exact hQ _ _ _ he
     | outgrown=>exact he
    case row row args=>exact⟨h.1,RowsIn.mono h.2 fun u w'' he=>⟨keep a hy u,by rw[←Act.put_comm a v u h2];exact he⟩⟩
    case round l f tmps assign body =>
     refine⟨h.1,RoundIn.mono h.2 fun e w'' he=>?_⟩
     cases e with
     | returned u=>exact⟨keep a hy u,by rw[←Act.put_comm a v u h2];exact he⟩
     | panicked c=>exact hQ _ _ _ he
     | outgrown=>exact he
  | halt x w' =>
    cases x <;> simp only[Oper.uponIn] at h ⊢
    case panic u=>exact hQ _ _ _ h
 ·rename_i hw
  simp only[hw] at h
  exact⟨h.1,keep a hy _,by rw[←Act.put_comm a v undef h2];exact h.2⟩
theorem Qop {i:Nat}{oi:Oper}{v:Value}(hd:Qk9 ops=true) (hi:ops[i]?=some oi) (hsel:∀(j:Nat) (o:Oper) cs b,ops[j]?=some o→o.op≠.select cs b)
 (hQ:∀c a w,Q (.panic c) (a.put oi.dst v) w→Q (.panic c) a w) :
 ∀(fuel:Nat) (listed:Array Bool) (a:Act) (w:World),Qc1 md ops listed=true →
   (∀j oj,ops[j]?=some oj→j≠i→listed.getD j true=false→(∀e∈oj.after,Region.binds md e=true→e.on≠i)→oi.apart ops oj=true) →
   i∈Region.ready md ops listed→YieldsM P ops S oi v a→S w →
   Qg0 F n P md ops Q S fuel (listed.setIfInBounds i true) (a.put oi.dst v) w→Qg0 F n P md ops Q S (fuel+1) listed a w:=by
 intro fuel
 induction fuel with
 | zero =>
   intro listed a w _ _ hr hy hS H
   refine⟨fun h=>(by rw[h] at hr;cases hr),fun j hj=>?_⟩
   by_cases hji:j=i
   ·subst hji;exact hy.wpOpIn hd hi hS ⟨fun _=>hS,H⟩
   ·have:=ready_mono hj hji
    rw[H.1] at this
    cases this
 | succ fuel ih =>
   intro listed a w hcl hfree hr hy hS H
   refine⟨fun h=>(by rw[h] at hr;cases hr),fun j hj=>?_⟩
   by_cases hji:j=i
   ·subst hji;exact hy.wpOpIn hd hi hS ⟨fun _=>hS,H⟩
   ·have hno:=Qj8 hcl hr hj hji
    have h1:=H.2 j (ready_mono hj hji)
    obtain⟨hjun,oj,hoj,hall⟩:=mem_ready.1 hj
    have hnot:∀e∈oj.after,Region.binds md e=true→e.on≠i:=fun e he hb heq=>by
     have h1:=hall e he hb
     rw[heq] at h1
     exact Qc6 hr h1
    have h2:=Qp0 hd hoj (hfree j oj hoj hji hjun hnot) (fun cs b=>hsel i oi cs b hi) (fun cs b=>hsel j oj cs b hoj) hQ hy h1
    have hfree':∀k ok,ops[k]?=some ok→k≠i→(listed.setIfInBounds j true).getD k true=false →
     (∀e∈ok.after,Region.binds md e=true→e.on≠i)→oi.apart ops ok=true:=fun k ok hk hki hun hno=>by
     refine hfree k ok hk hki ?_ hno
     by_cases hjk:j=k
     ·subst hjk;exact hjun
     ·rw[getD_set_ne true hjk] at hun;exact hun
    refine wpOpIn_mono (fun a' w' h3=>⟨fun _=>h3.2.1 hno,ih (listed.setIfInBounds j true) a' w' (Qje hcl hj) hfree' (ready_mono hr (Ne.symm hji)) h3.1 (h3.2.1 hno) ?_⟩) h2
    have:=h3.2.2
    rw[Array.setIfInBounds_comm _ _ hji]
    exact this
theorem Qfg {i:Nat}{oi:Oper}{v:Value}{fuel:Nat}{listed:Array Bool}{a:Act}{w:World}(hd:Qk9 ops=true) (hi:ops[i]?=some oi)
 (hs:Region.noSelect ops=true) (hf:Region.free md ops listed i=true) (hr:(Region.ready md ops listed).contains i=true) (hcl:Qc1 md ops listed=true)
 (hQ:∀c a w,Q (.panic c) (a.put oi.dst v) w→Q (.panic c) a w) (hy:YieldsM P ops S oi v a) (hS:S w)
 (h:Qg0 F n P md ops Q S fuel (listed.setIfInBounds i true) (a.put oi.dst v) w):Qg0 F n P md ops Q S (fuel+1) listed a w :=
 Qop hd hi (Region.noSelect_spec hs) hQ fuel listed a w hcl (Region.free_spec hi hf) (by simpa using hr) hy hS h
theorem Qp1 {listed:Array Bool}{a:Act}{w:World}(hr:Region.ready md ops listed=[]) (h:Q .normal a w) :
 ∀fuel,Qg0 F n P md ops Q S fuel listed a w
 | 0=>⟨hr,h⟩
 | _+1=>⟨fun _=>h,by rw[hr];simp⟩
theorem Qe1 {i:Nat}{o:Oper}{fuel:Nat}{listed:Array Bool}{a:Act}{w:World}(hr:Region.ready md ops listed=[i]) (ho:ops[i]?=some o)
 (h:∀K':Act→World→Prop,Shut (∀a w,(Qc4 md ops i=false→S w)→Qg0 F n P md ops Q S fuel (listed.setIfInBounds i true) a w→K' a w)→if Region.wanted o (yielded ops a.tmps)=true then Oper.wpIn F n P o a w K' Q else (∀f,o.about P w a.eval=some f→F.fn f)∧K' (a.put o.dst undef) w) :
 Qg0 F n P md ops Q S (fuel+1) listed a w:=by
 refine⟨fun h0=>(by rw[hr] at h0;cases h0),fun j hj=>?_⟩
 rw[hr] at hj
 obtain rfl:=List.mem_singleton.1 hj
 exact wpOpIn_step ho (fun K' hK=>h K' (fun a w hS hW=>hK a w ⟨hS,hW⟩))
theorem Qm8 {id:Nat}{a:Act}{w:World}(hm:P.follows .mixedOrders=true)
 (h:Qg0 F n P .any ops Q S ops.size (Array.replicate ops.size false) a w.drew):(Code.region id ops true).wpIn F n P Q a w :=
 wpIn_region_any hm (Qix _ _ _ _ h)
end
end Go.Proofs.YtemacanaihaldaaGreat
namespace Go.Proofs.YtemacanaihaldaaGreat
open Go.RowKit
section
variable {P : Program} {ops : Array Oper} {Q : Exit → Act → World → Prop} {md : Region.Mode} {S : World → Prop}
def CallsIf (P:Program) (ops:Array Oper) (S:World→Prop) (o:Oper) (v:Value) (a:Act):Prop :=
 Region.wanted o (yielded ops a.tmps)=true∧∀w,S w→∃f args,(execOp a.eval o).run P w = .ok (.enter f args) w∧Calls P f args w fun e w'=>e = .returned v∧w=w'
theorem CallsIf.of_same {o:Oper}{v:Value}{a a':Act}(hy:CallsIf P ops S o v a) (he:execOp a'.eval o=execOp a.eval o) (hw:Region.wanted o (yielded ops a'.tmps)=Region.wanted o (yielded ops a.tmps)):CallsIf P ops S o v a':=by
 unfold CallsIf at *
 rw[he,hw]
 exact hy
theorem CallsIf.wpOp {i:Nat}{o:Oper}{v:Value}{a:Act}(hi:ops[i]?=some o) (hy:CallsIf P ops S o v a) {K:Act→World→Prop}{w:World}(hS:S w) (h:K (a.put o.dst v) w):wpOp P ops Q i K a w:=by
 unfold Go.wpOp
 simp only[hi]
 obtain⟨hw,hv⟩:=hy
 obtain⟨f,args,hr,hc⟩:=hv w hS
 simp only[hw,if_true,Oper.wp,hr,Oper.upon]
 refine .inl (hc.mono ?_)
 rintro e w' ⟨rfl,rfl⟩
 exact h
theorem CallsIf.put {j:Nat}{oi oj:Oper}{v:Value}(hj:ops[j]?=some oj) (hap:oi.apart ops oj=true)
 (hsi:∀cs b,oi.op≠.select cs b) (hsj:∀cs b,oj.op≠.select cs b)
 (hQ:∀c a w,Q (.panic c) (a.put oi.dst v) w→Q (.panic c) a w) {K:Act→World→Prop} {a:Act} {w:World}
 (hy:CallsIf P ops S oi v a) (h:Go.wpOp P ops Q j K (a.put oi.dst v) w) :
 Go.wpOp P ops Q j (fun a' w'=>CallsIf P ops S oi v a'∧K (a'.put oi.dst v) w') a w:=by
 obtain⟨h1,h2,h3⟩:=Oper.apart_spec hap
 have keep:∀(a:Act),CallsIf P ops S oi v a→∀u,CallsIf P ops S oi v (a.put oj.dst u):=fun a hy u =>
  hy.of_same (execOp_put oi hsi a oj.dst u h3) (wanted_put oi a oj.dst u h3)
 have keepD:∀d,CallsIf P ops S oi v {a with defers:=d::a.defers}:=fun d=>hy.of_same rfl rfl
 unfold Go.wpOp at *
 simp only[hj] at *
 rw[wanted_put oj a oi.dst v h1] at h
 split
 ·rename_i hw
  simp only[hw,if_true] at h
  rcases h with h|⟨hasks,hlets⟩
  case inr=>exact .inr ⟨by unfold Oper.asks at *;rw[execOp_put oj hsj a oi.dst v h1] at hasks;exact hasks,hlets⟩
  refine .inl ?_
  unfold Oper.wp at *
  rw[execOp_put oj hsj a oi.dst v h1] at h
  generalize (execOp a.eval oj).run P w=r at *
  cases r with
  | ok n w' =>
    cases n <;> simp only[Oper.upon] at h ⊢
    case value u=>exact⟨keep a hy u,by rw[←Act.put_comm a v u h2];exact h⟩
    case skip=>exact⟨keep a hy _,by rw[←Act.put_comm a v undef h2];exact h⟩
    case defer d =>
     refine⟨keep _ (keepD d) _,?_⟩
     rw[←Act.put_comm _ v undef h2,←Act.put_defers]
     exact h
    case enter f args =>
     refine Calls.mono h fun e w'' he=>?_
     cases e with
     | returned u=>exact⟨keep a hy u,by rw[←Act.put_comm a v u h2];exact he⟩
     | panicked c=>exact hQ _ _ _ he
     | outgrown=>exact he
    case row row args=>exact Rows.mono h fun u w'' he=>⟨keep a hy u,by rw[←Act.put_comm a v u h2];exact he⟩
  | halt x w' =>
    cases x <;> simp only[Oper.upon] at h ⊢
    case panic u=>exact hQ _ _ _ h
 ·rename_i hw
  simp only[hw] at h
  exact⟨keep a hy _,by rw[←Act.put_comm a v undef h2];exact h⟩
theorem Jdq {i:Nat}{oi:Oper}{v:Value}(hi:ops[i]?=some oi) (hsel:∀(j:Nat) (o:Oper) cs b,ops[j]?=some o→o.op≠.select cs b)
 (hQ:∀c a w,Q (.panic c) (a.put oi.dst v) w→Q (.panic c) a w) :
 ∀(fuel:Nat) (listed:Array Bool) (a:Act) (w:World),Qc1 md ops listed=true →
   (∀j oj,ops[j]?=some oj→j≠i→listed.getD j true=false→(∀e∈oj.after,Region.binds md e=true→e.on≠i)→oi.apart ops oj=true) →
   i∈Region.ready md ops listed→CallsIf P ops S oi v a→S w →
   Qce P md ops Q S fuel (listed.setIfInBounds i true) (a.put oi.dst v) w→Qce P md ops Q S (fuel+1) listed a w:=by
 intro fuel
 induction fuel with
 | zero =>
   intro listed a w _ _ hr hy hS H
   refine⟨fun h=>(by rw[h] at hr;cases hr),fun j hj=>?_⟩
   by_cases hji:j=i
   ·subst hji;exact hy.wpOp hi hS ⟨fun _=>hS,H⟩
   ·have:=ready_mono hj hji
    rw[H.1] at this
    cases this
 | succ fuel ih =>
   intro listed a w hcl hfree hr hy hS H
   refine⟨fun h=>(by rw[h] at hr;cases hr),fun j hj=>?_⟩
   by_cases hji:j=i
   ·subst hji;exact hy.wpOp hi hS ⟨fun _=>hS,H⟩
   ·have hno:=Qj8 hcl hr hj hji
    have h1:=H.2 j (ready_mono hj hji)
    obtain⟨hjun,oj,hoj,hall⟩:=mem_ready.1 hj
    have hnot:∀e∈oj.after,Region.binds md e=true→e.on≠i:=fun e he hb heq=>by
     have h1:=hall e he hb
     rw[heq] at h1
     exact Qc6 hr h1
    have h2:=CallsIf.put hoj (hfree j oj hoj hji hjun hnot) (fun cs b=>hsel i oi cs b hi) (fun cs b=>hsel j oj cs b hoj) hQ hy h1
    have hfree':∀k ok,ops[k]?=some ok→k≠i→(listed.setIfInBounds j true).getD k true=false →
     (∀e∈ok.after,Region.binds md e=true→e.on≠i)→oi.apart ops ok=true:=fun k ok hk hki hun hno=>by
     refine hfree k ok hk hki ?_ hno
     by_cases hjk:j=k
     ·subst hjk;exact hjun
     ·rw[getD_set_ne true hjk] at hun;exact hun
    refine wpOp_mono (fun a' w' h3=>⟨fun _=>h3.2.1 hno,ih (listed.setIfInBounds j true) a' w' (Qje hcl hj) hfree' (ready_mono hr (Ne.symm hji)) h3.1 (h3.2.1 hno) ?_⟩) h2
    have:=h3.2.2
    rw[Array.setIfInBounds_comm _ _ hji]
    exact this
theorem tkc {i:Nat}{oi:Oper}{v:Value}{fuel:Nat}{listed:Array Bool}{a:Act}{w:World}(hi:ops[i]?=some oi) (hy:CallsIf P ops S oi v a) (hS:S w) (h:Qce P md ops Q S fuel (listed.setIfInBounds i true) (a.put oi.dst v) w)
 (hs:Region.noSelect ops=true:=by decide +kernel) (hf:Region.free md ops listed i=true:=by decide +kernel) (hr:(Region.ready md ops listed).contains i=true:=by decide +kernel) (hcl:Qc1 md ops listed=true:=by decide +kernel)
 (hQ:∀c a w,Q (.panic c) (a.put oi.dst v) w→Q (.panic c) a w:=by exact fun _ _ _ h=>h):Qce P md ops Q S (fuel+1) listed a w :=
 Jdq hi (Region.noSelect_spec hs) hQ fuel listed a w hcl (Region.free_spec hi hf) (by simpa using hr) hy hS h
end
end Go.Proofs.YtemacanaihaldaaGreat