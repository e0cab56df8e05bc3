/-
 A region that draws its order: what yields in every world that meets S is taken first;S is to hold behind each operation but one that waits for all others (the last store).
-/
import Derived.Test.YtociicnopccppaaGreatMem
import Derived.Deep.RegionLaw
import Derived.OrdersIn
import Derived.OwnWalkIn
set_option linter.all false
namespace Go.Proofs.YtociicnopccppaaGreat
open Go.RowKit
section
variable {P : Program} {ops : Array Oper} {Q : Exit -> Act -> World -> Prop} {md : Region.Mode} {S : World -> Prop}
def Qhp (md:Region.Mode) (ops:Array Oper):Nat->Nat->Nat->Bool
 | 0,_,_=>false
 | n+1,j,i=>match ops[j]? with
   | some o=>o.after.any fun e=>Region.binds md e && (e.on==i || Qhp md ops n e.on i)
   | none=>false
def Qc4 (md:Region.Mode) (ops:Array Oper) (j:Nat):Bool:=(List.range ops.size).all fun k=>k==j || Qhp md ops ops.size j k
def Qc1 (md:Region.Mode) (ops:Array Oper) (listed:Array Bool):Bool :=
 (List.range ops.size).all fun k => !listed.getD k false || match ops[k]? with
   | some o=>o.after.all fun e => !Region.binds md e || listed.getD e.on false
   | none=>true
def Qce (P:Program) (md:Region.Mode) (ops:Array Oper) (Q:Exit->Act->World->Prop) (S:World->Prop):Nat->Array Bool->Act->World->Prop
 | 0,listed,a,w=>Region.ready md ops listed=[]/\Q .normal a w
 | fuel+1,listed,a,w =>
   (Region.ready md ops listed=[]->Q .normal a w) /\
   ∀i∈Region.ready md ops listed,wpOp P ops Q i (fun a' w'=>(Qc4 md ops i=false->S w')/\Qce P md ops Q S fuel (listed.setIfInBounds i true) a' w') a w
theorem Qmh:∀(fuel:Nat) (listed:Array Bool) (a:Act) (w:World),Qce P md ops Q S fuel listed a w->wpAny P md ops Q fuel listed a w
 | 0,_,_,_,h=>h
 | fuel+1,_,_,_,h=>⟨h.1,fun i hi=>wpOp_mono (fun b c d=>Qmh fuel _ b c d.2) (h.2 i hi)⟩
theorem Qc6 {i:Nat}{listed:Array Bool}(b:i∈Region.ready md ops listed) (h:listed.getD i false=true):False:=by
 have h0:=(mem_ready.1 b).1
 rcases Nat.lt_or_ge i listed.size with a|a
 ·simp[a] at h0 h;rw[h0] at h;cases h
 ·simp[Array.getElem?_eq_none a] at h
theorem Qjf {listed:Array Bool}(h:Qc1 md ops listed=true) {k:Nat}{o:Oper}(a:ops[k]?=some o) (b:listed.getD k false=true):∀e∈o.after,Region.binds md e=true->listed.getD e.on false=true:=by
 intro e c d
 simp only[Qc1,List.all_eq_true,List.mem_range,Bool.or_eq_true,Bool.not_eq_true'] at h
 have h1:=h k (Array.getElem?_eq_some_iff.1 a).1
 rcases h1 with h1|h1
 ·rw[b] at h1;cases h1
 ·rw[a] at h1
  simp only[Array.all_eq_true,Bool.or_eq_true,Bool.not_eq_true'] at h1
  obtain⟨n,hn,rfl⟩:=Array.getElem_of_mem c
  rcases h1 n hn with h2|h2
  ·rw[d] at h2;cases h2
  ·exact h2
theorem Qj7 {listed:Array Bool}(c:Qc1 md ops listed=true):∀(n j i:Nat) (o:Oper),ops[j]?=some o->(∀e∈o.after,Region.binds md e=true->listed.getD e.on false=true)->Qhp md ops n j i=true->listed.getD i false=true:=by
 intro n
 induction n with
 | zero=>intro j i o _ _ h;cases h
 | succ n ih =>
   intro j i o d b h
   simp only[Qhp,d,Array.any_eq_true,Bool.and_eq_true,Bool.or_eq_true,beq_iff_eq] at h
   obtain⟨k,g,l,h⟩:=h
   have hl:=b _ (Array.getElem_mem g) l
   rcases h with h|h
   ·rw[h] at hl;exact hl
   ·cases a:ops[o.after[k].on]? with
    | none =>
      cases n with
      | zero=>cases h
      | succ n=>simp only[Qhp,a] at h;cases h
    | some o'=>exact ih _ _ o' a (Qjf c a hl) h
theorem Qj8 {i j:Nat}{listed:Array Bool}(b:Qc1 md ops listed=true) (g:i∈Region.ready md ops listed) (l:j∈Region.ready md ops listed) (c:j≠i):Qc4 md ops j=false:=by
 obtain⟨hjun,o,d,a⟩:=mem_ready.1 l
 cases k:Qc4 md ops j with
 | false=>rfl
 | true =>
   exfalso
   simp only[Qc4,List.all_eq_true,List.mem_range,Bool.or_eq_true,beq_iff_eq] at k
   have hi:i<ops.size:=by
    obtain⟨_,oi,e,_⟩:=mem_ready.1 g
    exact(Array.getElem?_eq_some_iff.1 e).1
   rcases k i hi with h|h
   ·exact c h.symm
   ·exact Qc6 g (Qj7 b _ _ _ o d a h)
theorem Qje {j:Nat}{listed:Array Bool}(g:Qc1 md ops listed=true) (i:j∈Region.ready md ops listed):Qc1 md ops (listed.setIfInBounds j true)=true:=by
 obtain⟨hjun,oj,b,c⟩:=mem_ready.1 i
 have grow:∀k,listed.getD k false=true->(listed.setIfInBounds j true).getD k false=true:=fun k d=>by
  by_cases e:j=k
  ·subst e
   exact(Qc6 i d).elim
  ·rw[getD_set_ne false e];exact d
 simp only[Qc1,List.all_eq_true,List.mem_range,Bool.or_eq_true,Bool.not_eq_true']
 intro k d
 by_cases hl:(listed.setIfInBounds j true).getD k false=true
 ·right
  have a:ops[k]?=some ops[k]:=Array.getElem?_eq_getElem d
  rw[a]
  simp only[Array.all_eq_true,Bool.or_eq_true,Bool.not_eq_true']
  intro n hn
  by_cases h:Region.binds md ops[k].after[n]=true
  ·right
   by_cases e:j=k
   ·subst e
    rw[a] at b
    cases b
    exact grow _ (c _ (Array.getElem_mem hn) h)
   ·rw[getD_set_ne false e] at hl
    exact grow _ (Qjf g a hl _ (Array.getElem_mem hn) h)
  ·left;simpa using h
 ·left;simpa using hl
theorem Qoq {i:Nat}{x:Oper}{v:Value}(hi:ops[i]?=some x) (q:∀(j:Nat) (o:Oper) cs b,ops[j]?=some o->o.op≠.select cs b)
 (R:∀c a w,Q (.panic c) (a.put x.dst v) w->Q (.panic c) a w) :
 ∀(fuel:Nat) (listed:Array Bool) (a:Act) (w:World),Qc1 md ops listed=true ->
   (∀j y,ops[j]?=some y->j≠i->listed.getD j true=false->(∀e∈y.after,Region.binds md e=true->e.on≠i)->x.apart ops y=true) ->
   i∈Region.ready md ops listed->YieldsIf P ops S x v a->S w ->
   Qce P md ops Q S fuel (listed.setIfInBounds i true) (a.put x.dst v) w->Qce P md ops Q S (fuel+1) listed a w:=by
 intro fuel
 induction fuel with
 | zero =>
   intro listed a w _ _ r L C H
   refine⟨fun h=>(by rw[h] at r;cases r),fun j B=>?_⟩
   by_cases d:j=i
   ·subst d;exact L.wpOp hi C ⟨fun _=>C,H⟩
   ·have:=ready_mono B d
    rw[H.1] at this
    cases this
 | succ fuel ih =>
   intro listed a w D g r L C H
   refine⟨fun h=>(by rw[h] at r;cases r),fun j B=>?_⟩
   by_cases d:j=i
   ·subst d;exact L.wpOp hi C ⟨fun _=>C,H⟩
   ·have l:=Qj8 D r B d
    have h1:=H.2 j (ready_mono B d)
    obtain⟨s,y,z,E⟩:=mem_ready.1 B
    have G:∀e∈y.after,Region.binds md e=true->e.on≠i:=fun e U X heq=>by
     have h1:=E e U X
     rw[heq] at h1
     exact Qc6 r h1
    have h2:=wpOp_putIf z (g j y z d s G) (fun cs b=>q i x cs b hi) (fun cs b=>q j y cs b z) R L h1
    have p:∀k ok,ops[k]?=some ok->k≠i->(listed.setIfInBounds j true).getD k true=false ->
     (∀e∈ok.after,Region.binds md e=true->e.on≠i)->x.apart ops ok=true:=fun k ok Y O I l=>by
     refine g k ok Y O ?_ l
     by_cases J:j=k
     ·subst J;exact s
     ·rw[getD_set_ne true J] at I;exact I
    refine wpOp_mono (fun Z w' M=>⟨fun _=>M.2.1 l,ih (listed.setIfInBounds j true) Z w' (Qje D B) p (ready_mono r (Ne.symm d)) M.1 (M.2.1 l) ?_⟩) h2
    have:=M.2.2
    rw[Array.setIfInBounds_comm _ _ d]
    exact this
theorem Qj5 {i:Nat}{b:Oper}{v:Value}{fuel:Nat}{listed:Array Bool}{a:Act}{w:World}(hi:ops[i]?=some b)
 (e:Region.noSelect ops=true) (g:Region.free md ops listed i=true) (j:(Region.ready md ops listed).contains i=true) (d:Qc1 md ops listed=true)
 (k:∀c a w,Q (.panic c) (a.put b.dst v) w->Q (.panic c) a w) (l:YieldsIf P ops S b v a) (o:S w)
 (h:Qce P md ops Q S fuel (listed.setIfInBounds i true) (a.put b.dst v) w):Qce P md ops Q S (fuel+1) listed a w :=
 Qoq hi (Region.noSelect_spec e) k fuel listed a w d (Region.free_spec hi g) (by simpa using j) l o h
theorem tk {i:Nat}{b:Oper}{v:Value}{fuel:Nat}{listed:Array Bool}{a:Act}{w:World}(hi:ops[i]?=some b) (e:YieldsIf P ops S b v a) (g:S w) (h:Qce P md ops Q S fuel (listed.setIfInBounds i true) (a.put b.dst v) w)
 (j:Region.noSelect ops=true:=by decide +kernel) (k:Region.free md ops listed i=true:=by decide +kernel) (l:(Region.ready md ops listed).contains i=true:=by decide +kernel) (d:Qc1 md ops listed=true:=by decide +kernel)
 (o:∀c a w,Q (.panic c) (a.put b.dst v) w->Q (.panic c) a w:=by exact fun _ _ _ h=>h):Qce P md ops Q S (fuel+1) listed a w :=
 Qj5 hi j k l d o e g h
def TK (P:Program) (md:Region.Mode) (ops:Array Oper) (Q:Exit->Act->World->Prop) (S:World->Prop) (_is:List Nat) (fuel:Nat) (listed:Array Bool) (a:Act) (w:World):Prop:=Qce P md ops Q S fuel listed a w
theorem tk0 {fuel:Nat}{listed:Array Bool}{a:Act}{w:World}(is:List Nat) (h:TK P md ops Q S is fuel listed a w):Qce P md ops Q S fuel listed a w:=h
theorem tk9 {fuel:Nat}{listed:Array Bool}{a:Act}{w:World}(h:Qce P md ops Q S fuel listed a w):TK P md ops Q S [] fuel listed a w:=h
theorem tks {i:Nat}{is:List Nat}{b:Oper}{v:Value}{fuel:Nat}{listed:Array Bool}{a:Act}{w:World}(hi:ops[i]?=some b) (e:YieldsIf P ops S b v a) (g:S w) (h:TK P md ops Q S is fuel (listed.setIfInBounds i true) (a.put b.dst v) w)
 (j:Region.noSelect ops=true:=by decide +kernel) (k:Region.free md ops listed i=true:=by decide +kernel) (l:(Region.ready md ops listed).contains i=true:=by decide +kernel) (d:Qc1 md ops listed=true:=by decide +kernel)
 (o:∀c a w,Q (.panic c) (a.put b.dst v) w->Q (.panic c) a w:=by exact fun _ _ _ h=>h):TK P md ops Q S (i::is) (fuel+1) listed a w :=
 Qj5 hi j k l d o e g h
theorem tkv {i:Nat}{is:List Nat}{b:Oper}{v:Value}{fuel:Nat}{listed:Array Bool}{a:Act}{w:World}(e:∀w,S w->(execOp a.eval b).run P w = .ok (.value v) w) (h:TK P md ops Q S is fuel (listed.setIfInBounds i true) (a.put b.dst v) w) (hi:ops[i]?=some b:=by rfl) (g:Region.wanted b (yielded ops a.tmps)=true:=by rfl) (j:S w:=by assumption)
 (k:Region.noSelect ops=true:=by decide +kernel) (l:Region.free md ops listed i=true:=by decide +kernel) (o:(Region.ready md ops listed).contains i=true:=by decide +kernel) (d:Qc1 md ops listed=true:=by decide +kernel)
 (p:∀c a w,Q (.panic c) (a.put b.dst v) w->Q (.panic c) a w:=by exact fun _ _ _ h=>h):TK P md ops Q S (i::is) (fuel+1) listed a w:=tks hi (.inl ⟨g,e⟩) j h k l o d p
theorem lz4 {α:Type}(l:List α) (i:Nat) (h:i<l.toArray.size):l.toArray[i]=l[i]'(by simpa using h):=rfl
theorem lz5 {α:Type}(a:α) (l:List α) (i:Nat) (h:i+1<(a::l).length):(a::l)[i+1]=l[i]'(Nat.lt_of_succ_lt_succ h):=rfl
theorem lz6 {α:Type}(a:α) (l:List α) (h:0<(a::l).length):(a::l)[0]=a:=rfl
theorem lz1 {α:Type}(l:List α) (i:Nat) (a:α):l.toArray.setIfInBounds i a=(l.set i a).toArray:=by simp
theorem lz2 {α:Type}(a b:α) (l:List α) (i:Nat):(a::l).set (i+1) b=a::l.set i b:=rfl
theorem lz3 {α:Type}(a b:α) (l:List α):(a::l).set 0 b=b::l:=rfl
theorem Qad {listed:Array Bool}{a:Act}{w:World}(b:Region.ready md ops listed=[]) (h:Q .normal a w) :
 ∀fuel,Qce P md ops Q S fuel listed a w
 | 0=>⟨b,h⟩
 | _+1=>⟨fun _=>h,by rw[b];simp⟩
theorem Qst {i:Nat}{o:Oper}{fuel:Nat}{listed:Array Bool}{a:Act}{w:World}(c:Region.ready md ops listed=[i]) (e:ops[i]?=some o)
 (h:∀b:Act->World->Prop,Shut (∀a w,(Qc4 md ops i=false->S w)->Qce P md ops Q S fuel (listed.setIfInBounds i true) a w->b a w)->if Region.wanted o (yielded ops a.tmps)=true then Oper.wp P o a w b Q else b (a.put o.dst undef) w) :
 Qce P md ops Q S (fuel+1) listed a w:=by
 refine⟨fun h0=>(by rw[c] at h0;cases h0),fun j d=>?_⟩
 rw[c] at d
 obtain rfl:=Y8 d
 exact wpOp_step e (fun b g=>h b (fun a w k hW=>g a w ⟨k,hW⟩))
theorem tk1 (i:Nat) {o:Oper}{fuel:Nat}{listed:Array Bool}{a:Act}{w:World}(c:ops[i]?=some o)
 (h:∀b:Act->World->Prop,Shut (∀a w,(Qc4 md ops i=false->S w)->Qce P md ops Q S fuel (listed.setIfInBounds i true) a w->b a w)->if Region.wanted o (yielded ops a.tmps)=true then Oper.wp P o a w b Q else b (a.put o.dst undef) w)
 (d:Region.ready md ops listed=[i]:=by decide +kernel):Qce P md ops Q S (fuel+1) listed a w:=Qst d c h
theorem Qaf {b:Nat}{a:Act}{w:World}(c:P.follows .mixedOrders=true)
 (h:Qce P .any ops Q S ops.size (Array.replicate ops.size false) a w.drew):(Code.region b ops true).wp P Q a w :=
 wp_region_any c (Qmh _ _ _ _ h)
end
end Go.Proofs.YtociicnopccppaaGreat
namespace Go.Proofs.YtociicnopccppaaGreat
open Go.RowKit
section
variable {F : Fence} {n : Nat} {P : Program} {ops : Array Oper} {Q : Exit -> Act -> World -> Prop} {md : Region.Mode} {S : World -> Prop}
def Qk9 (ops:Array Oper):Bool:=ops.all fun o=>match o.op with | .defer _=>false|_=>true
theorem Qi9 (h:Qk9 ops=true) {i:Nat}{o:Oper}(hi:ops[i]?=some o):∀c,o.op≠.defer c:=by
 intro c b
 obtain⟨a,rfl⟩:=Array.getElem?_eq_some_iff.1 hi
 have h1:=Array.all_eq_true.1 h i a
 rw[b] at h1
 cases h1
def Qg0 (F:Fence) (n:Nat) (P:Program) (md:Region.Mode) (ops:Array Oper) (Q:Exit->Act->World->Prop) (S:World->Prop):Nat->Array Bool->Act->World->Prop
 | 0,listed,a,w=>Region.ready md ops listed=[]/\Q .normal a w
 | fuel+1,listed,a,w =>
   (Region.ready md ops listed=[]->Q .normal a w) /\
   ∀i∈Region.ready md ops listed,wpOpIn F n P ops Q i (fun a' w'=>(Qc4 md ops i=false->S w')/\Qg0 F n P md ops Q S fuel (listed.setIfInBounds i true) a' w') a w
theorem Qix:∀(fuel:Nat) (listed:Array Bool) (a:Act) (w:World),Qg0 F n P md ops Q S fuel listed a w->wpAnyIn F n P md ops Q fuel listed a w
 | 0,_,_,_,h=>h
 | fuel+1,_,_,_,h=>⟨h.1,fun i hi=>wpOpIn_mono (fun b c d=>Qix fuel _ b c d.2) (h.2 i hi)⟩
def qdh (P:Program) (ops:Array Oper) (S:World->Prop) (o:Oper) (v:Value) (a:Act):Prop:=YieldsIf P ops S o v a/\∀w,o.about P w a.eval=none
theorem qdh.of_same {o:Oper}{v:Value}{a b:Act}(c:qdh P ops S o v a) (d:execOp b.eval o=execOp a.eval o)
 (e:Region.wanted o (yielded ops b.tmps)=Region.wanted o (yielded ops a.tmps)) (g:∀w,o.about P w b.eval=o.about P w a.eval):qdh P ops S o v b :=
 ⟨c.1.of_same d e,fun w=>by rw[g w];exact c.2 w⟩
theorem qdh.wpOpIn {i:Nat}{o:Oper}{v:Value}{a:Act}(hd:Qk9 ops=true) (hi:ops[i]?=some o) (d:qdh P ops S o v a)
 {K:Act->World->Prop} {w:World} (g:S w) (h:K (a.put o.dst v) w):wpOpIn F n P ops Q i K a w:=by
 unfold Go.wpOpIn
 simp only[hi]
 have b:∀f,o.about P w a.eval=some f->F.fn f:=fun f e=>by rw[d.2 w] at e;cases e
 rcases d.1 with ⟨c,hv⟩|⟨c,rfl⟩
 ·simp only[c,if_true,Oper.wpIn,Oper.semAt_plain F _ _ (Qi9 hd hi),hv w g,Oper.uponIn];exact⟨b,h⟩
 ·simp only[c,Bool.false_eq_true,if_false];exact⟨b,h⟩
theorem Qp0 {j:Nat}{g i:Oper}{v:Value}(hd:Qk9 ops=true) (I:ops[j]?=some i) (y:g.apart ops i=true)
 (z:∀cs b,g.op≠.select cs b) (B:∀cs b,i.op≠.select cs b)
 (C:∀c a w,Q (.panic c) (a.put g.dst v) w->Q (.panic c) a w) {K:Act->World->Prop} {a:Act} {w:World}
 (k:qdh P ops S g v a) (h:wpOpIn F n P ops Q j K (a.put g.dst v) w) :
 wpOpIn F n P ops Q j (fun J D=>qdh P ops S g v J/\K (J.put g.dst v) D) a w:=by
 obtain⟨h1,h2,E⟩:=Oper.apart_spec y
 have keep:∀(a:Act),qdh P ops S g v a->∀u,qdh P ops S g v (a.put i.dst u):=fun a k u =>
  k.of_same (execOp_put g z a i.dst u E) (wanted_put g a i.dst u E) (fun w=>about_put g w a i.dst u E)
 have p:∀d,qdh P ops S g v {a with defers:=d::a.defers}:=fun d=>k.of_same rfl rfl (fun _=>rfl)
 have q:=Qi9 hd I
 unfold wpOpIn at *
 simp only[I] at *
 rw[wanted_put i a g.dst v h1,about_put i w a g.dst v h1] at h
 split
 ·rename_i G
  simp only[G,if_true] at h
  unfold Oper.wpIn at *
  rw[about_put i w a g.dst v h1] at h
  refine⟨h.1,?_⟩
  have h:=h.2
  rw[Oper.semAt_plain F _ _ q,execOp_put i B a g.dst v h1] at h
  rw[Oper.semAt_plain F _ _ q]
  generalize (execOp a.eval i).run P w=r at *
  cases r with
  | ok x D =>
    cases x <;> simp only[Oper.uponIn] at h ⊢
    case value u=>exact⟨keep a k u,by rw[<-Act.put_comm a v u h2];exact h⟩
    case skip=>exact⟨keep a k _,by rw[<-Act.put_comm a v undef h2];exact h⟩
    case defer d =>
     refine⟨keep _ (p d) _,?_⟩
     rw[<-Act.put_comm _ v undef h2,<-Act.put_defers]
     exact h
    case enter f args =>
     refine⟨h.1,CallsIn.mono h.2 fun e s o=>?_⟩
     cases e with
     | returned u=>exact⟨keep a k u,by rw[<-Act.put_comm a v u h2];exact o⟩
     | panicked c=>exact C _ _ _ o
     | outgrown=>exact o
    case row row args=>exact⟨h.1,RowsIn.mono h.2 fun u s o=>⟨keep a k u,by rw[<-Act.put_comm a v u h2];exact o⟩⟩
    case round l f tmps assign body =>
     refine⟨h.1,RoundIn.mono h.2 fun e s o=>?_⟩
     cases e with
     | returned u=>exact⟨keep a k u,by rw[<-Act.put_comm a v u h2];exact o⟩
     | panicked c=>exact C _ _ _ o
     | outgrown=>exact o
  | halt x D =>
    cases x <;> simp only[Oper.uponIn] at h ⊢
    case panic u=>exact C _ _ _ h
 ·rename_i G
  simp only[G] at h
  exact⟨h.1,keep a k _,by rw[<-Act.put_comm a v undef h2];exact h.2⟩
theorem Qop {i:Nat}{x:Oper}{v:Value}(hd:Qk9 ops=true) (hi:ops[i]?=some x) (q:∀(j:Nat) (o:Oper) cs b,ops[j]?=some o->o.op≠.select cs b)
 (R:∀c a w,Q (.panic c) (a.put x.dst v) w->Q (.panic c) a w) :
 ∀(fuel:Nat) (listed:Array Bool) (a:Act) (w:World),Qc1 md ops listed=true ->
   (∀j y,ops[j]?=some y->j≠i->listed.getD j true=false->(∀e∈y.after,Region.binds md e=true->e.on≠i)->x.apart ops y=true) ->
   i∈Region.ready md ops listed->qdh P ops S x v a->S w ->
   Qg0 F n P md ops Q S fuel (listed.setIfInBounds i true) (a.put x.dst v) w->Qg0 F n P md ops Q S (fuel+1) listed a w:=by
 intro fuel
 induction fuel with
 | zero =>
   intro listed a w _ _ r L C H
   refine⟨fun h=>(by rw[h] at r;cases r),fun j B=>?_⟩
   by_cases d:j=i
   ·subst d;exact L.wpOpIn hd hi C ⟨fun _=>C,H⟩
   ·have:=ready_mono B d
    rw[H.1] at this
    cases this
 | succ fuel ih =>
   intro listed a w D g r L C H
   refine⟨fun h=>(by rw[h] at r;cases r),fun j B=>?_⟩
   by_cases d:j=i
   ·subst d;exact L.wpOpIn hd hi C ⟨fun _=>C,H⟩
   ·have l:=Qj8 D r B d
    have h1:=H.2 j (ready_mono B d)
    obtain⟨s,y,z,E⟩:=mem_ready.1 B
    have G:∀e∈y.after,Region.binds md e=true->e.on≠i:=fun e U X heq=>by
     have h1:=E e U X
     rw[heq] at h1
     exact Qc6 r h1
    have h2:=Qp0 hd z (g j y z d s G) (fun cs b=>q i x cs b hi) (fun cs b=>q j y cs b z) R L h1
    have p:∀k ok,ops[k]?=some ok->k≠i->(listed.setIfInBounds j true).getD k true=false ->
     (∀e∈ok.after,Region.binds md e=true->e.on≠i)->x.apart ops ok=true:=fun k ok Y O I l=>by
     refine g k ok Y O ?_ l
     by_cases J:j=k
     ·subst J;exact s
     ·rw[getD_set_ne true J] at I;exact I
    refine wpOpIn_mono (fun Z w' M=>⟨fun _=>M.2.1 l,ih (listed.setIfInBounds j true) Z w' (Qje D B) p (ready_mono r (Ne.symm d)) M.1 (M.2.1 l) ?_⟩) h2
    have:=M.2.2
    rw[Array.setIfInBounds_comm _ _ d]
    exact this
theorem Qfg {i:Nat}{b:Oper}{v:Value}{fuel:Nat}{listed:Array Bool}{a:Act}{w:World}(hd:Qk9 ops=true) (hi:ops[i]?=some b)
 (e:Region.noSelect ops=true) (g:Region.free md ops listed i=true) (j:(Region.ready md ops listed).contains i=true) (d:Qc1 md ops listed=true)
 (k:∀c a w,Q (.panic c) (a.put b.dst v) w->Q (.panic c) a w) (l:qdh P ops S b v a) (o:S w)
 (h:Qg0 F n P md ops Q S fuel (listed.setIfInBounds i true) (a.put b.dst v) w):Qg0 F n P md ops Q S (fuel+1) listed a w :=
 Qop hd hi (Region.noSelect_spec e) k fuel listed a w d (Region.free_spec hi g) (by simpa using j) l o h
theorem Qp1 {listed:Array Bool}{a:Act}{w:World}(b:Region.ready md ops listed=[]) (h:Q .normal a w) :
 ∀fuel,Qg0 F n P md ops Q S fuel listed a w
 | 0=>⟨b,h⟩
 | _+1=>⟨fun _=>h,by rw[b];simp⟩
theorem Qe1 {i:Nat}{o:Oper}{fuel:Nat}{listed:Array Bool}{a:Act}{w:World}(c:Region.ready md ops listed=[i]) (e:ops[i]?=some o)
 (h:∀b:Act->World->Prop,Shut (∀a w,(Qc4 md ops i=false->S w)->Qg0 F n P md ops Q S fuel (listed.setIfInBounds i true) a w->b a w)->if Region.wanted o (yielded ops a.tmps)=true then Oper.wpIn F n P o a w b Q else (∀f,o.about P w a.eval=some f->F.fn f)/\b (a.put o.dst undef) w) :
 Qg0 F n P md ops Q S (fuel+1) listed a w:=by
 refine⟨fun h0=>(by rw[c] at h0;cases h0),fun j d=>?_⟩
 rw[c] at d
 obtain rfl:=Y8 d
 exact wpOpIn_step e (fun b g=>h b (fun a w k hW=>g a w ⟨k,hW⟩))
theorem Qm8 {b:Nat}{a:Act}{w:World}(c:P.follows .mixedOrders=true)
 (h:Qg0 F n P .any ops Q S ops.size (Array.replicate ops.size false) a w.drew):(Code.region b ops true).wpIn F n P Q a w :=
 wpIn_region_any c (Qix _ _ _ _ h)
end
end Go.Proofs.YtociicnopccppaaGreat
namespace Go.Proofs.YtociicnopccppaaGreat
open Go.RowKit
section
variable {P : Program} {ops : Array Oper} {Q : Exit -> Act -> World -> Prop} {md : Region.Mode} {S : World -> Prop}
theorem Qss {i j:Nat}{c d:Oper}{fuel:Nat}{listed:Array Bool}{a:Act}{w:World}(l:Region.ready md ops listed=[i,j]) (hi:ops[i]?=some c) (o:ops[j]?=some d)
 (h1:∀b:Act->World->Prop,Shut (∀a w,(Qc4 md ops i=false->S w)->Qce P md ops Q S fuel (listed.setIfInBounds i true) a w->b a w)->if Region.wanted c (yielded ops a.tmps)=true then Oper.wp P c a w b Q else b (a.put c.dst undef) w)
 (h2:∀b:Act->World->Prop,Shut (∀a w,(Qc4 md ops j=false->S w)->Qce P md ops Q S fuel (listed.setIfInBounds j true) a w->b a w)->if Region.wanted d (yielded ops a.tmps)=true then Oper.wp P d a w b Q else b (a.put d.dst undef) w) :
 Qce P md ops Q S (fuel+1) listed a w:=by
 refine⟨fun h0=>(by rw[l] at h0;cases h0),fun k e=>?_⟩
 rw[l] at e
 rcases List.mem_cons.1 e with rfl|e
 ·exact wpOp_step hi (fun b g=>h1 b (fun a w h hW=>g a w ⟨h,hW⟩))
 ·obtain rfl:=Y8 e
  exact wpOp_step o (fun b g=>h2 b (fun a w h hW=>g a w ⟨h,hW⟩))
end
end Go.Proofs.YtociicnopccppaaGreat
namespace Go.Proofs.YtociicnopccppaaGreat
open Go.RowKit
section
variable {P : Program} {ops : Array Oper} {Q : Exit -> Act -> World -> Prop} {md : Region.Mode} {S : World -> Prop}
def qcl (P:Program) (ops:Array Oper) (S:World->Prop) (o:Oper) (v:Value) (a:Act):Prop :=
 Region.wanted o (yielded ops a.tmps)=true/\∀w,S w->∃f args,(execOp a.eval o).run P w = .ok (.enter f args) w/\Calls P f args w fun e w'=>e = .returned v/\w=w'
theorem qcl.of_same {o:Oper}{v:Value}{a b:Act}(c:qcl P ops S o v a) (d:execOp b.eval o=execOp a.eval o) (e:Region.wanted o (yielded ops b.tmps)=Region.wanted o (yielded ops a.tmps)):qcl P ops S o v b:=by
 unfold qcl at *
 rw[d,e]
 exact c
theorem qcl.wpOp {i:Nat}{o:Oper}{v:Value}{a:Act}(hi:ops[i]?=some o) (b:qcl P ops S o v a) {K:Act->World->Prop}{w:World}(c:S w) (h:K (a.put o.dst v) w):wpOp P ops Q i K a w:=by
 unfold Go.wpOp
 simp only[hi]
 obtain⟨d,hv⟩:=b
 obtain⟨f,args,g,j⟩:=hv w c
 simp only[d,if_true,Oper.wp,g,Oper.upon]
 refine .inl (j.mono ?_)
 rintro e w' ⟨rfl,rfl⟩
 exact h
theorem qcl.put {j:Nat}{g k:Oper}{v:Value}(J:ops[j]?=some k) (y:g.apart ops k=true)
 (z:∀cs b,g.op≠.select cs b) (q:∀cs b,k.op≠.select cs b)
 (E:∀c a w,Q (.panic c) (a.put g.dst v) w->Q (.panic c) a w) {K:Act->World->Prop} {a:Act} {w:World}
 (l:qcl P ops S g v a) (h:Go.wpOp P ops Q j K (a.put g.dst v) w) :
 Go.wpOp P ops Q j (fun G B=>qcl P ops S g v G/\K (G.put g.dst v) B) a w:=by
 obtain⟨h1,h2,I⟩:=Oper.apart_spec y
 have keep:∀(a:Act),qcl P ops S g v a->∀u,qcl P ops S g v (a.put k.dst u):=fun a l u =>
  l.of_same (execOp_put g z a k.dst u I) (wanted_put g a k.dst u I)
 have o:∀d,qcl P ops S g v {a with defers:=d::a.defers}:=fun d=>l.of_same rfl rfl
 unfold Go.wpOp at *
 simp only[J] at *
 rw[wanted_put k a g.dst v h1] at h
 split
 ·rename_i C
  simp only[C,if_true] at h
  rcases h with h|⟨i,p⟩
  case inr=>exact .inr ⟨by unfold Oper.asks at *;rw[execOp_put k q a g.dst v h1] at i;exact i,p⟩
  refine .inl ?_
  unfold Oper.wp at *
  rw[execOp_put k q a g.dst v h1] at h
  generalize (execOp a.eval k).run P w=r at *
  cases r with
  | ok n B =>
    cases n <;> simp only[Oper.upon] at h ⊢
    case value u=>exact⟨keep a l u,by rw[<-Act.put_comm a v u h2];exact h⟩
    case skip=>exact⟨keep a l _,by rw[<-Act.put_comm a v undef h2];exact h⟩
    case defer d =>
     refine⟨keep _ (o d) _,?_⟩
     rw[<-Act.put_comm _ v undef h2,<-Act.put_defers]
     exact h
    case enter f args =>
     refine Calls.mono h fun e D s=>?_
     cases e with
     | returned u=>exact⟨keep a l u,by rw[<-Act.put_comm a v u h2];exact s⟩
     | panicked c=>exact E _ _ _ s
     | outgrown=>exact s
    case row row args=>exact Rows.mono h fun u D s=>⟨keep a l u,by rw[<-Act.put_comm a v u h2];exact s⟩
  | halt x B =>
    cases x <;> simp only[Oper.upon] at h ⊢
    case panic u=>exact E _ _ _ h
 ·rename_i C
  simp only[C] at h
  exact⟨keep a l _,by rw[<-Act.put_comm a v undef h2];exact h⟩
theorem Jdq {i:Nat}{x:Oper}{v:Value}(hi:ops[i]?=some x) (q:∀(j:Nat) (o:Oper) cs b,ops[j]?=some o->o.op≠.select cs b)
 (R:∀c a w,Q (.panic c) (a.put x.dst v) w->Q (.panic c) a w) :
 ∀(fuel:Nat) (listed:Array Bool) (a:Act) (w:World),Qc1 md ops listed=true ->
   (∀j y,ops[j]?=some y->j≠i->listed.getD j true=false->(∀e∈y.after,Region.binds md e=true->e.on≠i)->x.apart ops y=true) ->
   i∈Region.ready md ops listed->qcl P ops S x v a->S w ->
   Qce P md ops Q S fuel (listed.setIfInBounds i true) (a.put x.dst v) w->Qce P md ops Q S (fuel+1) listed a w:=by
 intro fuel
 induction fuel with
 | zero =>
   intro listed a w _ _ r L C H
   refine⟨fun h=>(by rw[h] at r;cases r),fun j B=>?_⟩
   by_cases d:j=i
   ·subst d;exact L.wpOp hi C ⟨fun _=>C,H⟩
   ·have:=ready_mono B d
    rw[H.1] at this
    cases this
 | succ fuel ih =>
   intro listed a w D g r L C H
   refine⟨fun h=>(by rw[h] at r;cases r),fun j B=>?_⟩
   by_cases d:j=i
   ·subst d;exact L.wpOp hi C ⟨fun _=>C,H⟩
   ·have l:=Qj8 D r B d
    have h1:=H.2 j (ready_mono B d)
    obtain⟨s,y,z,E⟩:=mem_ready.1 B
    have G:∀e∈y.after,Region.binds md e=true->e.on≠i:=fun e U X heq=>by
     have h1:=E e U X
     rw[heq] at h1
     exact Qc6 r h1
    have h2:=qcl.put z (g j y z d s G) (fun cs b=>q i x cs b hi) (fun cs b=>q j y cs b z) R L h1
    have p:∀k ok,ops[k]?=some ok->k≠i->(listed.setIfInBounds j true).getD k true=false ->
     (∀e∈ok.after,Region.binds md e=true->e.on≠i)->x.apart ops ok=true:=fun k ok Y O I l=>by
     refine g k ok Y O ?_ l
     by_cases J:j=k
     ·subst J;exact s
     ·rw[getD_set_ne true J] at I;exact I
    refine wpOp_mono (fun Z w' M=>⟨fun _=>M.2.1 l,ih (listed.setIfInBounds j true) Z w' (Qje D B) p (ready_mono r (Ne.symm d)) M.1 (M.2.1 l) ?_⟩) h2
    have:=M.2.2
    rw[Array.setIfInBounds_comm _ _ d]
    exact this
theorem tkc {i:Nat}{b:Oper}{v:Value}{fuel:Nat}{listed:Array Bool}{a:Act}{w:World}(hi:ops[i]?=some b) (e:qcl P ops S b v a) (g:S w) (h:Qce P md ops Q S fuel (listed.setIfInBounds i true) (a.put b.dst v) w)
 (j:Region.noSelect ops=true:=by decide +kernel) (k:Region.free md ops listed i=true:=by decide +kernel) (l:(Region.ready md ops listed).contains i=true:=by decide +kernel) (d:Qc1 md ops listed=true:=by decide +kernel)
 (o:∀c a w,Q (.panic c) (a.put b.dst v) w->Q (.panic c) a w:=by exact fun _ _ _ h=>h):Qce P md ops Q S (fuel+1) listed a w :=
 Jdq hi (Region.noSelect_spec j) o fuel listed a w d (Region.free_spec hi k) (by simpa using l) e g h
end
