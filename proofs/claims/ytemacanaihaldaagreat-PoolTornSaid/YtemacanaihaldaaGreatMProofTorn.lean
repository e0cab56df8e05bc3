/-
 PoolTorn: whatever the arguments,the call returns true,and they read behind it as they did.
-/
import Derived.Test.YtemacanaihaldaaGreatMTpG
import Derived.Test.YtemacanaihaldaaGreatMArgsP
import Derived.ProofKit
import Derived.Test.YtemacanaihaldaaGreatRows
import Derived.Test.YtemacanaihaldaaGreatChecked
set_option linter.all false
namespace Go.Proofs.YtemacanaihaldaaGreat.lawTorn
open Go.ChangeShapes Go.WideShapes Go.ChangeAt Go.RowKit Go.Deep ArgsQ
theorem own:ownKnob Tryz.prog.godebug=none:=by kernel_rfl
theorem Qq9:laidOutB Tryz.prog=true:=by kernel_rfl
section
variable {H : Type} {P : Program} {enc : TypeId × Value → H} {w : World} {base : Nat} {spare : Nat → Bool} {held : Bool}
theorem Jdr {t0 t1 t2 t3 t4 t5 t6:TypeId}{args:Array Value}{ds:List (DataW H)}{ps:List MemPlace}(h:DataW.TrodAll enc P w base spare held [t0,t1,t2,t3,t4,t5,t6] args.toList ds ps) :
 ∃v0 v1 v2 v3 v4 v5 v6 d0 d1 d2 d3 d4 d5 d6 p0 p1 p2 p3 p4 p5 p6,args=#[v0,v1,v2,v3,v4,v5,v6]∧ds=[d0,d1,d2,d3,d4,d5,d6]∧ps=p0++p1++p2++p3++p4++p5++p6∧DataW.Trod enc P w base spare held t0 v0 d0 p0∧DataW.Trod enc P w base spare held t1 v1 d1 p1∧DataW.Trod enc P w base spare held t2 v2 d2 p2∧DataW.Trod enc P w base spare held t3 v3 d3 p3∧DataW.Trod enc P w base spare held t4 v4 d4 p4∧DataW.Trod enc P w base spare held t5 v5 d5 p5∧DataW.Trod enc P w base spare held t6 v6 d6 p6:=by
 obtain⟨v0,w0,d0,e0,p0,q0,hargs,rfl,rfl,h0,r0⟩:=trodAll_cons h
 obtain⟨v1,w1,d1,e1,p1,q1,rfl,rfl,rfl,h1,r1⟩:=trodAll_cons r0
 obtain⟨v2,w2,d2,e2,p2,q2,rfl,rfl,rfl,h2,r2⟩:=trodAll_cons r1
 obtain⟨v3,w3,d3,e3,p3,q3,rfl,rfl,rfl,h3,r3⟩:=trodAll_cons r2
 obtain⟨v4,w4,d4,e4,p4,q4,rfl,rfl,rfl,h4,r4⟩:=trodAll_cons r3
 obtain⟨v5,w5,d5,e5,p5,q5,rfl,rfl,rfl,h5,r5⟩:=trodAll_cons r4
 obtain⟨v6,w6,d6,e6,p6,q6,rfl,rfl,rfl,h6,r6⟩:=trodAll_cons r5
 obtain⟨rfl,rfl,rfl⟩:=trodAll_nil r6
 exact⟨v0,v1,v2,v3,v4,v5,v6,d0,d1,d2,d3,d4,d5,d6,p0,p1,p2,p3,p4,p5,p6,by cases args;simp_all,rfl,by simp,h0,h1,h2,h3,h4,h5,h6⟩
theorem Jc6 {t:TypeId}{ts:List TypeId}{v:Value}{vs:List Value}{d:DataW H}{ds:List (DataW H)}{p q:List MemPlace}(h:DataW.Trod enc P w base spare held t v d p) (h':DataW.TrodAll enc P w base spare held ts vs ds q):DataW.TrodAll enc P w base spare held (t::ts) (v::vs) (d::ds) (p++q):=⟨p,q,h,h',rfl⟩
end
set_option maxRecDepth 100000 in
theorem Jas (os:Os) (started:os.Started) (H:Type) (enc:TypeId×Value→H) :
 ReturnsInHanded {} Tryz.checked os 3 .any (Rows.poolTornSpec.pre6 enc Tryz.prog Tryz.f3 Rows.poolTornRow.domain false) (Rows.poolTornSpec.post enc Tryz.prog Tryz.f3 false true false false):=by
 refine returnsInHanded_of_change (C:=Tryz.checked) own started (by kernel_rfl) Tryz.func3
  (ChangeSpec.witness6 (enc:=enc) (C:=Tryz.checked) false ⟨#[],#[.int .u8 0,.int .u8 0,.slice none 0 0,.int .u8 0,.slice none 0 0,.int .u8 0,.slice none 0 0],[]⟩ 8 (by kernel_rfl) (by kernel_rfl) (by kernel_rfl) (by kernel_rfl)) ?_
 intro W base args ds gs before hval0 hW hcnd _
 have hval:∀(j:Nat) t v,Tryz.f3.params[j]?=some t→args[j]?=some v→Value.okWide Tryz.prog W .any base t v:=hval0
 have hW':=hW
 obtain⟨p,q,hA0,hV,rfl,hfz,hnd⟩:=hW
 have hA:DataW.TrodAll enc Tryz.prog W 0 (fun _=>true) true Tryz.f3.params.toList args.toList ds p:=hA0
 rw[Tryz.params3] at hA hval
 obtain⟨v0,v1,v2,v3,v4,v5,v6,d0,d1,d2,d3,d4,d5,d6,p0,p1,p2,p3,p4,p5,p6,rfl,rfl,rfl,h0,h1,h2,h3,h4,h5,h6⟩:=Jdr hA
 obtain⟨rfl,rfl⟩:=trodVars_none hV
 obtain⟨n0,rfl,rfl,rfl,wf0⟩:=open_int Tryz.underlying5 (hval 0 5 v0 rfl rfl) h0
 obtain⟨n1,rfl,rfl,rfl,wf1⟩:=open_int Tryz.underlying5 (hval 1 5 v1 rfl rfl) h1
 obtain⟨b2,len2,cap2,rfl,hlen2,hops2⟩:=Jf4 (hval 2 22 v2 rfl rfl) h2
 obtain⟨n3,rfl,rfl,rfl,wf3⟩:=open_int Tryz.underlying5 (hval 3 5 v3 rfl rfl) h3
 obtain⟨a4,len4,cap4,rfl⟩:=okWide_slice Tryz.underlying23 (hval 4 23 v4 rfl rfl)
 obtain⟨q4,c4,l4,hv4,hl4,hf4⟩:=Jdc (v:=.slice a4 len4 cap4) h4.choose_spec
 cases hv4
 obtain⟨n5,rfl,rfl,rfl,wf5⟩:=open_int Tryz.underlying5 (hval 5 5 v5 rfl rfl) h5
 obtain⟨a6,len6,cap6,rfl⟩:=okWide_slice Tryz.underlying23 (hval 6 23 v6 rfl rfl)
 obtain⟨q6,c6,l6,hv6,hl6,hf6⟩:=Jdc (v:=.slice a6 len6 cap6) h6.choose_spec
 cases hv6
 clear hA0 hval0
 simp only[List.append_nil,List.nil_append,List.append_assoc] at hW'
 have hlt2:∀x∈p2,x.block<W.heap.size:=fun x hx=>hW'.lt x (by simp[hx])
 have hlt4:∀x∈p4,x.block<W.heap.size:=fun x hx=>hW'.lt x (by simp[hx])
 have hlt6:∀x∈p6,x.block<W.heap.size:=fun x hx=>hW'.lt x (by simp[hx])
 have hx0:=Qiu wf0
 have hx1:=Qiu wf1
 have hx3:=Qiu wf3
 have hx5:=Qiu wf5
 obtain⟨n0,rfl⟩:=Int.eq_ofNat_of_zero_le hx0.1
 obtain⟨n1,rfl⟩:=Int.eq_ofNat_of_zero_le hx1.1
 obtain⟨n3,rfl⟩:=Int.eq_ofNat_of_zero_le hx3.1
 obtain⟨n5,rfl⟩:=Int.eq_ofNat_of_zero_le hx5.1
 refine(Jgc W n0 n1 n3 n5 (by omega) (by omega) (by omega) (by omega) b2 len2 cap2 hlen2 hops2.p _ _ l4 l6 l4.length l6.length _ _ rfl rfl hl4 hl6 hf4 hf6).mono fun e W' ⟨he,hg⟩=>?_
 subst he
 exact⟨_,rfl,Qnp (pa:=(p2++(p4++p6))) (pv:=[]) hW' (fun _ _ _=>trodAll_mk1 (shut_bool Tryz.underlying4 _))
  (fun sp hsp=>Jc6 (p:=[]) (shut_int Tryz.underlying5 wf0) (Jc6 (p:=[]) (shut_int Tryz.underlying5 wf1) (Jc6 (WideElems.Trod_stays Qq9 (by kernel_rfl) (of_decide_eq_true (by kernel_rfl)) h2 (fun x hx=>hg.same (hlt2 x hx)) (fun x hx=>hsp x (by simp[hx]))) (Jc6 (p:=[]) (shut_int Tryz.underlying5 wf3) (Jc6 (WideElems.Trod_stays Qq9 (by kernel_rfl) (of_decide_eq_true (by kernel_rfl)) h4 (fun x hx=>hg.same (hlt4 x hx)) (fun x hx=>hsp x (by simp[hx]))) (Jc6 (p:=[]) (shut_int Tryz.underlying5 wf5) (trodAll_mk1 (WideElems.Trod_stays Qq9 (by kernel_rfl) (of_decide_eq_true (by kernel_rfl)) h6 (fun x hx=>hg.same (hlt6 x hx)) (fun x hx=>hsp x (by simp[hx]))))))))))
  (fun _ _=>rfl) (by simp) hg (ok_one (by kernel_rfl) rfl (okWide_bool_mk Tryz.underlying4 _))⟩
theorem named:Tryz.pinned.checked.prog.funcNamed Rows.poolTornRow.func=some 3 := by kernel_rfl
theorem facts:joinedFacts Tryz.pinned.checked.prog 3 Tryz.f3 Rows.poolTornSpec Rows.poolTornRow=true:=by kernel_rfl
theorem inst:Tryz.f3.isInstance Tryz.pinned.checked.prog Rows.poolTornRow.origin Rows.poolTornRow.targs:=of_decide_eq_true (by kernel_rfl)
theorem wrap:Tryz.f3.isWrapper Tryz.pinned.checked.prog Rows.poolTornRow.wrapper Rows.poolTornRow.mainSum:=by
 unfold Func.isWrapper;first|(rw[if_pos (by decide +kernel)];kernel_rfl)|(rw[if_neg (by decide +kernel)];exact⟨rfl,rfl⟩)
theorem holds:Rows.PoolTornSaid :=
 OpenClaim.holds_of_wide 3 Tryz.f3 rfl rfl rfl rfl rfl rfl rfl ⟨rfl,rfl,rfl,rfl,rfl⟩ rfl rfl rfl rfl rfl named Tryz.func3 facts inst wrap
  (fun os started H enc _=>Jas os started H enc)
#print axioms holds
end Go.Proofs.YtemacanaihaldaaGreat.lawTorn
