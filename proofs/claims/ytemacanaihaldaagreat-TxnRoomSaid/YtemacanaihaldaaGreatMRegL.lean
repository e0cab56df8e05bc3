/-
 A region that draws its order: what yields in every world that meets S is taken first;S is to hold behind each operation but one that waits for all others (the last store).
-/
import Derived.Test.YtemacanaihaldaaGreatMem
import Derived.Deep.RegionLaw
import Derived.OrdersIn
import Derived.OwnWalkIn
set_option linter.all false
namespace Go.Proofs.YtemacanaihaldaaGreat
open Go.RowKit
section
variable {P : Program} {ops : Array Oper} {Q : Exit -> Act -> World -> Prop} {md : Region.Mode} {S : World -> Prop}
def Qhp (md:Region.Mode) (ops:Array Oper):Nat->Nat->Nat->Bool
 | 0,_,_=>false
 | n+1,j,i=>match ops[j]? with
   | some o=>o.after.any fun e=>Region.binds md e && (e.on==i || Qhp md ops n e.on i)
   | none=>false
def Qc4 (md:Region.Mode) (ops:Array Oper) (j:Nat):Bool:=(List.range ops.size).all fun k=>k==j || Qhp md ops ops.size j k
def Qc1 (md:Region.Mode) (ops:Array Oper) (listed:Array Bool):Bool :=
 (List.range ops.size).all fun k => !listed.getD k false || match ops[k]? with
   | some o=>o.after.all fun e => !Region.binds md e || listed.getD e.on false
   | none=>true
def Qce (P:Program) (md:Region.Mode) (ops:Array Oper) (Q:Exit->Act->World->Prop) (S:World->Prop):Nat->Array Bool->Act->World->Prop
 | 0,listed,a,w=>Region.ready md ops listed=[]/\Q .normal a w
 | fuel+1,listed,a,w =>
   (Region.ready md ops listed=[]->Q .normal a w) /\
   ∀i∈Region.ready md ops listed,wpOp P ops Q i (fun a' w'=>(Qc4 md ops i=false->S w')/\Qce P md ops Q S fuel (listed.setIfInBounds i true) a' w') a w
theorem Qmh:∀(fuel:Nat) (listed:Array Bool) (a:Act) (w:World),Qce P md ops Q S fuel listed a w->wpAny P md ops Q fuel listed a w
 | 0,_,_,_,h=>h
 | fuel+1,_,_,_,h=>⟨h.1,fun i hi=>wpOp_mono (fun b d e=>Qmh fuel _ b d e.2) (h.2 i hi)⟩
theorem Qc6 {i:Nat}{listed:Array Bool}(d:i∈Region.ready md ops listed) (h:listed.getD i false=true):False:=by
 have h0:=(mem_ready.1 d).1
 rcases Nat.lt_or_ge i listed.size with b|b
 ·simp[b] at h0 h;rw[h0] at h;cases h
 ·simp[Array.getElem?_eq_none b] at h
theorem Qjf {listed:Array Bool}(h:Qc1 md ops listed=true) {k:Nat}{o:Oper}(b:ops[k]?=some o) (hk:listed.getD k false=true):∀e∈o.after,Region.binds md e=true->listed.getD e.on false=true:=by
 intro e d i
 simp only[Qc1,List.all_eq_true,List.mem_range,Bool.or_eq_true,Bool.not_eq_true'] at h
 have h1:=h k (Array.getElem?_eq_some_iff.1 b).1
 rcases h1 with h1|h1
 ·rw[hk] at h1;cases h1
 ·rw[b] at h1
  simp only[Array.all_eq_true,Bool.or_eq_true,Bool.not_eq_true'] at h1
  obtain⟨n,hn,rfl⟩:=Array.getElem_of_mem d
  rcases h1 n hn with h2|h2
  ·rw[i] at h2;cases h2
  ·exact h2
theorem Qj7 {listed:Array Bool}(l:Qc1 md ops listed=true):∀(n j i:Nat) (o:Oper),ops[j]?=some o->(∀e∈o.after,Region.binds md e=true->listed.getD e.on false=true)->Qhp md ops n j i=true->listed.getD i false=true:=by
 intro n
 induction n with
 | zero=>intro j i o _ _ h;cases h
 | succ n ih =>
   intro j i o m d h
   simp only[Qhp,m,Array.any_eq_true,Bool.and_eq_true,Bool.or_eq_true,beq_iff_eq] at h
   obtain⟨k,hk,p,h⟩:=h
   have hl:=d _ (Array.getElem_mem hk) p
   rcases h with h|h
   ·rw[h] at hl;exact hl
   ·cases b:ops[o.after[k].on]? with
    | none =>
      cases n with
      | zero=>cases h
      | succ n=>simp only[Qhp,b] at h;cases h
    | some o'=>exact ih _ _ o' b (Qjf l b hl) h
theorem Qj8 {i j:Nat}{listed:Array Bool}(d:Qc1 md ops listed=true) (m:i∈Region.ready md ops listed) (p:j∈Region.ready md ops listed) (e:j≠i):Qc4 md ops j=false:=by
 obtain⟨hjun,q,k,b⟩:=mem_ready.1 p
 cases o:Qc4 md ops j with
 | false=>rfl
 | true =>
   exfalso
   simp only[Qc4,List.all_eq_true,List.mem_range,Bool.or_eq_true,beq_iff_eq] at o
   have hi:i<ops.size:=by
    obtain⟨_,oi,l,_⟩:=mem_ready.1 m
    exact(Array.getElem?_eq_some_iff.1 l).1
   rcases o i hi with h|h
   ·exact e h.symm
   ·exact Qc6 m (Qj7 d _ _ _ q k b h)
theorem Qje {j:Nat}{listed:Array Bool}(i:Qc1 md ops listed=true) (m:j∈Region.ready md ops listed):Qc1 md ops (listed.setIfInBounds j true)=true:=by
 obtain⟨hjun,oj,d,h⟩:=mem_ready.1 m
 have grow:∀k,listed.getD k false=true->(listed.setIfInBounds j true).getD k false=true:=fun k hk=>by
  by_cases e:j=k
  ·subst e
   exact(Qc6 m hk).elim
  ·rw[getD_set_ne false e];exact hk
 simp only[Qc1,List.all_eq_true,List.mem_range,Bool.or_eq_true,Bool.not_eq_true']
 intro k hk
 by_cases hl:(listed.setIfInBounds j true).getD k false=true
 ·right
  have b:ops[k]?=some ops[k]:=Array.getElem?_eq_getElem hk
  rw[b]
  simp only[Array.all_eq_true,Bool.or_eq_true,Bool.not_eq_true']
  intro n hn
  by_cases l:Region.binds md ops[k].after[n]=true
  ·right
   by_cases e:j=k
   ·subst e
    rw[b] at d
    cases d
    exact grow _ (h _ (Array.getElem_mem hn) l)
   ·rw[getD_set_ne false e] at hl
    exact grow _ (Qjf i b hl _ (Array.getElem_mem hn) l)
  ·left;simpa using l
 ·left;simpa using hl
theorem Qoq {i:Nat}{x:Oper}{v:Value}(hi:ops[i]?=some x) (q:∀(j:Nat) (o:Oper) cs b,ops[j]?=some o->o.op≠.select cs b)
 (O:∀c a w,Q (.panic c) (a.put x.dst v) w->Q (.panic c) a w) :
 ∀(fuel:Nat) (listed:Array Bool) (a:Act) (w:World),Qc1 md ops listed=true ->
   (∀j y,ops[j]?=some y->j≠i->listed.getD j true=false->(∀e∈y.after,Region.binds md e=true->e.on≠i)->x.apart ops y=true) ->
   i∈Region.ready md ops listed->YieldsIf P ops S x v a->S w ->
   Qce P md ops Q S fuel (listed.setIfInBounds i true) (a.put x.dst v) w->Qce P md ops Q S (fuel+1) listed a w:=by
 intro fuel
 induction fuel with
 | zero =>
   intro listed a w _ _ r L C H
   refine⟨fun h=>(by rw[h] at r;cases r),fun j B=>?_⟩
   by_cases d:j=i
   ·subst d;exact L.wpOp hi C ⟨fun _=>C,H⟩
   ·have:=ready_mono B d
    rw[H.1] at this
    cases this
 | succ fuel ih =>
   intro listed a w D l r L C H
   refine⟨fun h=>(by rw[h] at r;cases r),fun j B=>?_⟩
   by_cases d:j=i
   ·subst d;exact L.wpOp hi C ⟨fun _=>C,H⟩
   ·have m:=Qj8 D r B d
    have h1:=H.2 j (ready_mono B d)
    obtain⟨s,y,z,E⟩:=mem_ready.1 B
    have G:∀e∈y.after,Region.binds md e=true->e.on≠i:=fun e R U heq=>by
     have h1:=E e R U
     rw[heq] at h1
     exact Qc6 r h1
    have h2:=wpOp_putIf z (l j y z d s G) (fun cs b=>q i x cs b hi) (fun cs b=>q j y cs b z) O L h1
    have p:∀k ok,ops[k]?=some ok->k≠i->(listed.setIfInBounds j true).getD k true=false ->
     (∀e∈ok.after,Region.binds md e=true->e.on≠i)->x.apart ops ok=true:=fun k ok hk N I m=>by
     refine l k ok hk N ?_ m
     by_cases J:j=k
     ·subst J;exact s
     ·rw[getD_set_ne true J] at I;exact I
    refine wpOp_mono (fun X Y M=>⟨fun _=>M.2.1 m,ih (listed.setIfInBounds j true) X Y (Qje D B) p (ready_mono r (Ne.symm d)) M.1 (M.2.1 m) ?_⟩) h2
    have:=M.2.2
    rw[Array.setIfInBounds_comm _ _ d]
    exact this
theorem Qj5 {i:Nat}{b:Oper}{v:Value}{fuel:Nat}{listed:Array Bool}{a:Act}{w:World}(hi:ops[i]?=some b)
 (e:Region.noSelect ops=true) (j:Region.free md ops listed i=true) (k:(Region.ready md ops listed).contains i=true) (d:Qc1 md ops listed=true)
 (l:∀c a w,Q (.panic c) (a.put b.dst v) w->Q (.panic c) a w) (m:YieldsIf P ops S b v a) (o:S w)
 (h:Qce P md ops Q S fuel (listed.setIfInBounds i true) (a.put b.dst v) w):Qce P md ops Q S (fuel+1) listed a w :=
 Qoq hi (Region.noSelect_spec e) l fuel listed a w d (Region.free_spec hi j) (by simpa using k) m o h
theorem tk {i:Nat}{b:Oper}{v:Value}{fuel:Nat}{listed:Array Bool}{a:Act}{w:World}(hi:ops[i]?=some b) (e:YieldsIf P ops S b v a) (j:S w) (h:Qce P md ops Q S fuel (listed.setIfInBounds i true) (a.put b.dst v) w)
 (k:Region.noSelect ops=true:=by decide +kernel) (l:Region.free md ops listed i=true:=by decide +kernel) (m:(Region.ready md ops listed).contains i=true:=by decide +kernel) (d:Qc1 md ops listed=true:=by decide +kernel)
 (o:∀c a w,Q (.panic c) (a.put b.dst v) w->Q (.panic c) a w:=by exact fun _ _ _ h=>h):Qce P md ops Q S (fuel+1) listed a w :=
 Qj5 hi k l m d o e j h
def TK (P:Program) (md:Region.Mode) (ops:Array Oper) (Q:Exit->Act->World->Prop) (S:World->Prop) (_is:List Nat) (fuel:Nat) (listed:Array Bool) (a:Act) (w:World):Prop:=Qce P md ops Q S fuel listed a w
theorem tk0 {fuel:Nat}{listed:Array Bool}{a:Act}{w:World}(is:List Nat) (h:TK P md ops Q S is fuel listed a w):Qce P md ops Q S fuel listed a w:=h
theorem tk9 {fuel:Nat}{listed:Array Bool}{a:Act}{w:World}(h:Qce P md ops Q S fuel listed a w):TK P md ops Q S [] fuel listed a w:=h
theorem tks {i:Nat}{is:List Nat}{b:Oper}{v:Value}{fuel:Nat}{listed:Array Bool}{a:Act}{w:World}(hi:ops[i]?=some b) (e:YieldsIf P ops S b v a) (j:S w) (h:TK P md ops Q S is fuel (listed.setIfInBounds i true) (a.put b.dst v) w)
 (k:Region.noSelect ops=true:=by decide +kernel) (l:Region.free md ops listed i=true:=by decide +kernel) (m:(Region.ready md ops listed).contains i=true:=by decide +kernel) (d:Qc1 md ops listed=true:=by decide +kernel)
 (o:∀c a w,Q (.panic c) (a.put b.dst v) w->Q (.panic c) a w:=by exact fun _ _ _ h=>h):TK P md ops Q S (i::is) (fuel+1) listed a w :=
 Qj5 hi k l m d o e j h
theorem lz4 {α:Type}(l:List α) (i:Nat) (h:i<l.toArray.size):l.toArray[i]=l[i]'(by simpa using h):=rfl
theorem lz5 {α:Type}(a:α) (l:List α) (i:Nat) (h:i+1<(a::l).length):(a::l)[i+1]=l[i]'(Nat.lt_of_succ_lt_succ h):=rfl
theorem lz6 {α:Type}(a:α) (l:List α) (h:0<(a::l).length):(a::l)[0]=a:=rfl
theorem lz1 {α:Type}(l:List α) (i:Nat) (a:α):l.toArray.setIfInBounds i a=(l.set i a).toArray:=by simp
theorem lz2 {α:Type}(a b:α) (l:List α) (i:Nat):(a::l).set (i+1) b=a::l.set i b:=rfl
theorem lz3 {α:Type}(a b:α) (l:List α):(a::l).set 0 b=b::l:=rfl
theorem Qad {listed:Array Bool}{a:Act}{w:World}(b:Region.ready md ops listed=[]) (h:Q .normal a w) :
 ∀fuel,Qce P md ops Q S fuel listed a w
 | 0=>⟨b,h⟩
 | _+1=>⟨fun _=>h,by rw[b];simp⟩
theorem Qst {i:Nat}{o:Oper}{fuel:Nat}{listed:Array Bool}{a:Act}{w:World}(d:Region.ready md ops listed=[i]) (k:ops[i]?=some o)
 (h:∀b:Act->World->Prop,Shut (∀a w,(Qc4 md ops i=false->S w)->Qce P md ops Q S fuel (listed.setIfInBounds i true) a w->b a w)->if Region.wanted o (yielded ops a.tmps)=true then Oper.wp P o a w b Q else b (a.put o.dst undef) w) :
 Qce P md ops Q S (fuel+1) listed a w:=by
 refine⟨fun h0=>(by rw[d] at h0;cases h0),fun j e=>?_⟩
 rw[d] at e
 obtain rfl:=Y8 e
 exact wpOp_step k (fun b l=>h b (fun a w m hW=>l a w ⟨m,hW⟩))
theorem tk1 (i:Nat) {o:Oper}{fuel:Nat}{listed:Array Bool}{a:Act}{w:World}(d:ops[i]?=some o)
 (h:∀b:Act->World->Prop,Shut (∀a w,(Qc4 md ops i=false->S w)->Qce P md ops Q S fuel (listed.setIfInBounds i true) a w->b a w)->if Region.wanted o (yielded ops a.tmps)=true then Oper.wp P o a w b Q else b (a.put o.dst undef) w)
 (e:Region.ready md ops listed=[i]:=by decide +kernel):Qce P md ops Q S (fuel+1) listed a w:=Qst e d h
theorem Qaf {id:Nat}{a:Act}{w:World}(b:P.follows .mixedOrders=true)
 (h:Qce P .any ops Q S ops.size (Array.replicate ops.size false) a w.drew):(Code.region id ops true).wp P Q a w :=
 wp_region_any b (Qmh _ _ _ _ h)
end
end Go.Proofs.YtemacanaihaldaaGreat
namespace Go.Proofs.YtemacanaihaldaaGreat
open Go.RowKit
section
variable {F : Fence} {n : Nat} {P : Program} {ops : Array Oper} {Q : Exit -> Act -> World -> Prop} {md : Region.Mode} {S : World -> Prop}
def Qk9 (ops:Array Oper):Bool:=ops.all fun o=>match o.op with | .defer _=>false|_=>true
theorem Qi9 (h:Qk9 ops=true) {i:Nat}{o:Oper}(hi:ops[i]?=some o):∀c,o.op≠.defer c:=by
 intro c d
 obtain⟨b,rfl⟩:=Array.getElem?_eq_some_iff.1 hi
 have h1:=Array.all_eq_true.1 h i b
 rw[d] at h1
 cases h1
def Qg0 (F:Fence) (n:Nat) (P:Program) (md:Region.Mode) (ops:Array Oper) (Q:Exit->Act->World->Prop) (S:World->Prop):Nat->Array Bool->Act->World->Prop
 | 0,listed,a,w=>Region.ready md ops listed=[]/\Q .normal a w
 | fuel+1,listed,a,w =>
   (Region.ready md ops listed=[]->Q .normal a w) /\
   ∀i∈Region.ready md ops listed,wpOpIn F n P ops Q i (fun a' w'=>(Qc4 md ops i=false->S w')/\Qg0 F n P md ops Q S fuel (listed.setIfInBounds i true) a' w') a w
theorem Qix:∀(fuel:Nat) (listed:Array Bool) (a:Act) (w:World),Qg0 F n P md ops Q S fuel listed a w->wpAnyIn F n P md ops Q fuel listed a w
 | 0,_,_,_,h=>h
 | fuel+1,_,_,_,h=>⟨h.1,fun i hi=>wpOpIn_mono (fun b d e=>Qix fuel _ b d e.2) (h.2 i hi)⟩
def YieldsM (P:Program) (ops:Array Oper) (S:World->Prop) (o:Oper) (v:Value) (a:Act):Prop:=YieldsIf P ops S o v a/\∀w,o.about P w a.eval=none
theorem YieldsM.of_same {o:Oper}{v:Value}{a b:Act}(d:YieldsM P ops S o v a) (e:execOp b.eval o=execOp a.eval o)
 (h:Region.wanted o (yielded ops b.tmps)=Region.wanted o (yielded ops a.tmps)) (i:∀w,o.about P w b.eval=o.about P w a.eval):YieldsM P ops S o v b :=
 ⟨d.1.of_same e h,fun w=>by rw[i w];exact d.2 w⟩
theorem YieldsM.wpOpIn {i:Nat}{o:Oper}{v:Value}{a:Act}(hd:Qk9 ops=true) (hi:ops[i]?=some o) (e:YieldsM P ops S o v a)
 {K:Act->World->Prop} {w:World} (k:S w) (h:K (a.put o.dst v) w):wpOpIn F n P ops Q i K a w:=by
 unfold Go.wpOpIn
 simp only[hi]
 have b:∀f,o.about P w a.eval=some f->F.fn f:=fun f j=>by rw[e.2 w] at j;cases j
 rcases e.1 with ⟨d,l⟩|⟨d,rfl⟩
 ·simp only[d,if_true,Oper.wpIn,Oper.semAt_plain F _ _ (Qi9 hd hi),l w k,Oper.uponIn];exact⟨b,h⟩
 ·simp only[d,Bool.false_eq_true,if_false];exact⟨b,h⟩
theorem Qp0 {j:Nat}{i k:Oper}{v:Value}(hd:Qk9 ops=true) (I:ops[j]?=some k) (y:i.apart ops k=true)
 (z:∀cs b,i.op≠.select cs b) (B:∀cs b,k.op≠.select cs b)
 (C:∀c a w,Q (.panic c) (a.put i.dst v) w->Q (.panic c) a w) {K:Act->World->Prop} {a:Act} {w:World}
 (m:YieldsM P ops S i v a) (h:wpOpIn F n P ops Q j K (a.put i.dst v) w) :
 wpOpIn F n P ops Q j (fun J D=>YieldsM P ops S i v J/\K (J.put i.dst v) D) a w:=by
 obtain⟨h1,h2,E⟩:=Oper.apart_spec y
 have keep:∀(a:Act),YieldsM P ops S i v a->∀u,YieldsM P ops S i v (a.put k.dst u):=fun a m u =>
  m.of_same (execOp_put i z a k.dst u E) (wanted_put i a k.dst u E) (fun w=>about_put i w a k.dst u E)
 have p:∀d,YieldsM P ops S i v {a with defers:=d::a.defers}:=fun d=>m.of_same rfl rfl (fun _=>rfl)
 have q:=Qi9 hd I
 unfold wpOpIn at *
 simp only[I] at *
 rw[wanted_put k a i.dst v h1,about_put k w a i.dst v h1] at h
 split
 ·rename_i G
  simp only[G,if_true] at h
  unfold Oper.wpIn at *
  rw[about_put k w a i.dst v h1] at h
  refine⟨h.1,?_⟩
  have h:=h.2
  rw[Oper.semAt_plain F _ _ q,execOp_put k B a i.dst v h1] at h
  rw[Oper.semAt_plain F _ _ q]
  generalize (execOp a.eval k).run P w=r at *
  cases r with
  | ok x D =>
    cases x <;> simp only[Oper.uponIn] at h ⊢
    case value u=>exact⟨keep a m u,by rw[<-Act.put_comm a v u h2];exact h⟩
    case skip=>exact⟨keep a m _,by rw[<-Act.put_comm a v undef h2];exact h⟩
    case defer d =>
     refine⟨keep _ (p d) _,?_⟩
     rw[<-Act.put_comm _ v undef h2,<-Act.put_defers]
     exact h
    case enter f args =>
     refine⟨h.1,CallsIn.mono h.2 fun e s o=>?_⟩
     cases e with
     | returned u=>exact⟨keep a m u,by rw[<-Act.put_comm a v u h2];exact o⟩
     | panicked c=>exact C _ _ _ o
     | outgrown=>exact o
    case row row args=>exact⟨h.1,RowsIn.mono h.2 fun u s o=>⟨keep a m u,by rw[<-Act.put_comm a v u h2];exact o⟩⟩
    case round l f tmps assign body =>
     refine⟨h.1,RoundIn.mono h.2 fun e s o=>?_⟩
     cases e with
     | returned u=>exact⟨keep a m u,by rw[<-Act.put_comm a v u h2];exact o⟩
     | panicked c=>exact C _ _ _ o
     | outgrown=>exact o
  | halt x D =>
    cases x <;> simp only[Oper.uponIn] at h ⊢
    case panic u=>exact C _ _ _ h
 ·rename_i G
  simp only[G] at h
  exact⟨h.1,keep a m _,by rw[<-Act.put_comm a v undef h2];exact h.2⟩
theorem Qop {i:Nat}{x:Oper}{v:Value}(hd:Qk9 ops=true) (hi:ops[i]?=some x) (q:∀(j:Nat) (o:Oper) cs b,ops[j]?=some o->o.op≠.select cs b)
 (O:∀c a w,Q (.panic c) (a.put x.dst v) w->Q (.panic c) a w) :
 ∀(fuel:Nat) (listed:Array Bool) (a:Act) (w:World),Qc1 md ops listed=true ->
   (∀j y,ops[j]?=some y->j≠i->listed.getD j true=false->(∀e∈y.after,Region.binds md e=true->e.on≠i)->x.apart ops y=true) ->
   i∈Region.ready md ops listed->YieldsM P ops S x v a->S w ->
   Qg0 F n P md ops Q S fuel (listed.setIfInBounds i true) (a.put x.dst v) w->Qg0 F n P md ops Q S (fuel+1) listed a w:=by
 intro fuel
 induction fuel with
 | zero =>
   intro listed a w _ _ r L C H
   refine⟨fun h=>(by rw[h] at r;cases r),fun j B=>?_⟩
   by_cases d:j=i
   ·subst d;exact L.wpOpIn hd hi C ⟨fun _=>C,H⟩
   ·have:=ready_mono B d
    rw[H.1] at this
    cases this
 | succ fuel ih =>
   intro listed a w D l r L C H
   refine⟨fun h=>(by rw[h] at r;cases r),fun j B=>?_⟩
   by_cases d:j=i
   ·subst d;exact L.wpOpIn hd hi C ⟨fun _=>C,H⟩
   ·have m:=Qj8 D r B d
    have h1:=H.2 j (ready_mono B d)
    obtain⟨s,y,z,E⟩:=mem_ready.1 B
    have G:∀e∈y.after,Region.binds md e=true->e.on≠i:=fun e R U heq=>by
     have h1:=E e R U
     rw[heq] at h1
     exact Qc6 r h1
    have h2:=Qp0 hd z (l j y z d s G) (fun cs b=>q i x cs b hi) (fun cs b=>q j y cs b z) O L h1
    have p:∀k ok,ops[k]?=some ok->k≠i->(listed.setIfInBounds j true).getD k true=false ->
     (∀e∈ok.after,Region.binds md e=true->e.on≠i)->x.apart ops ok=true:=fun k ok hk N I m=>by
     refine l k ok hk N ?_ m
     by_cases J:j=k
     ·subst J;exact s
     ·rw[getD_set_ne true J] at I;exact I
    refine wpOpIn_mono (fun X Y M=>⟨fun _=>M.2.1 m,ih (listed.setIfInBounds j true) X Y (Qje D B) p (ready_mono r (Ne.symm d)) M.1 (M.2.1 m) ?_⟩) h2
    have:=M.2.2
    rw[Array.setIfInBounds_comm _ _ d]
    exact this
theorem Qfg {i:Nat}{b:Oper}{v:Value}{fuel:Nat}{listed:Array Bool}{a:Act}{w:World}(hd:Qk9 ops=true) (hi:ops[i]?=some b)
 (e:Region.noSelect ops=true) (j:Region.free md ops listed i=true) (k:(Region.ready md ops listed).contains i=true) (d:Qc1 md ops listed=true)
 (l:∀c a w,Q (.panic c) (a.put b.dst v) w->Q (.panic c) a w) (m:YieldsM P ops S b v a) (o:S w)
 (h:Qg0 F n P md ops Q S fuel (listed.setIfInBounds i true) (a.put b.dst v) w):Qg0 F n P md ops Q S (fuel+1) listed a w :=
 Qop hd hi (Region.noSelect_spec e) l fuel listed a w d (Region.free_spec hi j) (by simpa using k) m o h
theorem Qp1 {listed:Array Bool}{a:Act}{w:World}(b:Region.ready md ops listed=[]) (h:Q .normal a w) :
 ∀fuel,Qg0 F n P md ops Q S fuel listed a w
 | 0=>⟨b,h⟩
 | _+1=>⟨fun _=>h,by rw[b];simp⟩
theorem Qe1 {i:Nat}{o:Oper}{fuel:Nat}{listed:Array Bool}{a:Act}{w:World}(d:Region.ready md ops listed=[i]) (k:ops[i]?=some o)
 (h:∀b:Act->World->Prop,Shut (∀a w,(Qc4 md ops i=false->S w)->Qg0 F n P md ops Q S fuel (listed.setIfInBounds i true) a w->b a w)->if Region.wanted o (yielded ops a.tmps)=true then Oper.wpIn F n P o a w b Q else (∀f,o.about P w a.eval=some f->F.fn f)/\b (a.put o.dst undef) w) :
 Qg0 F n P md ops Q S (fuel+1) listed a w:=by
 refine⟨fun h0=>(by rw[d] at h0;cases h0),fun j e=>?_⟩
 rw[d] at e
 obtain rfl:=Y8 e
 exact wpOpIn_step k (fun b l=>h b (fun a w m hW=>l a w ⟨m,hW⟩))
theorem Qm8 {id:Nat}{a:Act}{w:World}(b:P.follows .mixedOrders=true)
 (h:Qg0 F n P .any ops Q S ops.size (Array.replicate ops.size false) a w.drew):(Code.region id ops true).wpIn F n P Q a w :=
 wpIn_region_any b (Qix _ _ _ _ h)
end
end Go.Proofs.YtemacanaihaldaaGreat
namespace Go.Proofs.YtemacanaihaldaaGreat
open Go.RowKit
section
variable {P : Program} {ops : Array Oper} {Q : Exit -> Act -> World -> Prop} {md : Region.Mode} {S : World -> Prop}
theorem Qss {i j:Nat}{d e:Oper}{fuel:Nat}{listed:Array Bool}{a:Act}{w:World}(m:Region.ready md ops listed=[i,j]) (hi:ops[i]?=some d) (o:ops[j]?=some e)
 (h1:∀b:Act->World->Prop,Shut (∀a w,(Qc4 md ops i=false->S w)->Qce P md ops Q S fuel (listed.setIfInBounds i true) a w->b a w)->if Region.wanted d (yielded ops a.tmps)=true then Oper.wp P d a w b Q else b (a.put d.dst undef) w)
 (h2:∀b:Act->World->Prop,Shut (∀a w,(Qc4 md ops j=false->S w)->Qce P md ops Q S fuel (listed.setIfInBounds j true) a w->b a w)->if Region.wanted e (yielded ops a.tmps)=true then Oper.wp P e a w b Q else b (a.put e.dst undef) w) :
 Qce P md ops Q S (fuel+1) listed a w:=by
 refine⟨fun h0=>(by rw[m] at h0;cases h0),fun k hk=>?_⟩
 rw[m] at hk
 rcases List.mem_cons.1 hk with rfl|hk
 ·exact wpOp_step hi (fun b h=>h1 b (fun a w l hW=>h a w ⟨l,hW⟩))
 ·obtain rfl:=Y8 hk
  exact wpOp_step o (fun b h=>h2 b (fun a w l hW=>h a w ⟨l,hW⟩))
end
