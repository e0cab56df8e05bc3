/-
 TxnNests: whatever the arguments,the call returns true,and they read behind it as they did.
-/
import Derived.Test.YtjgacceifcnedaaGreatML15H
import Derived.Test.YtjgacceifcnedaaGreatML15B
import Derived.ProofKit
import Derived.Test.YtjgacceifcnedaaGreatRows
import Derived.Test.YtjgacceifcnedaaGreatChecked
set_option linter.all false
namespace Go.Proofs.YtjgacceifcnedaaGreat.lawNests
open Go.ChangeShapes Go.WideShapes Go.ChangeAt Go.RowKit Go.Deep ArgsQ
theorem own:ownKnob Tryz.prog.godebug=none:=by kernel_rfl
theorem Qq9:laidOutB Tryz.prog=true:=by kernel_rfl
set_option maxRecDepth 100000 in
theorem Jas (os:Os) (started:os.Started) (H:Type) (enc:TypeId×Value→H) :
 ReturnsInHanded {} Tryz.checked os 3 .any (Rows.txnNestsSpec.pre6 enc Tryz.prog Tryz.f3 Rows.txnNestsRow.domain false) (Rows.txnNestsSpec.post enc Tryz.prog Tryz.f3 false true false false):=by
 refine returnsInHanded_of_change (C:=Tryz.checked) own started (by kernel_rfl) Tryz.func3
  (ChangeSpec.witness6 (enc:=enc) (C:=Tryz.checked) false ⟨#[],#[.int .u8 0,.int .u8 0,.int .u8 0,.slice none 0 0,.slice none 0 0,.slice none 0 0],[]⟩ 8 (by kernel_rfl) (by kernel_rfl) (by kernel_rfl) (by kernel_rfl)) ?_
 intro W base args ds gs before hval0 hW hcnd _
 have hval:∀(j:Nat) t v,Tryz.f3.params[j]?=some t→args[j]?=some v→Value.okWide Tryz.prog W .any base t v:=hval0
 have hW':=hW
 obtain⟨p,q,hA0,hV,rfl,hfz,hnd⟩:=hW
 have hA:DataW.TrodAll enc Tryz.prog W 0 (fun _=>true) true Tryz.f3.params.toList args.toList ds p:=hA0
 rw[Tryz.params3] at hA hval
 obtain⟨v0,v1,v2,v3,v4,v5,d0,d1,d2,d3,d4,d5,p0,p1,p2,p3,p4,p5,rfl,rfl,rfl,h0,h1,h2,h3,h4,h5⟩:=Qp8 hA
 obtain⟨rfl,rfl⟩:=trodVars_none hV
 obtain⟨n0,rfl,rfl,rfl,wf0⟩:=open_int Tryz.underlying5 (hval 0 5 v0 rfl rfl) h0
 obtain⟨n1,rfl,rfl,rfl,wf1⟩:=open_int Tryz.underlying5 (hval 1 5 v1 rfl rfl) h1
 obtain⟨n2,rfl,rfl,rfl,wf2⟩:=open_int Tryz.underlying5 (hval 2 5 v2 rfl rfl) h2
 obtain⟨b3,len3,cap3,rfl,hlen3,hops3⟩:=Qk6 (hval 3 22 v3 rfl rfl) h3
 obtain⟨b4,len4,cap4,rfl,hlen4,hops4⟩:=Qk6 (hval 4 22 v4 rfl rfl) h4
 obtain⟨b5,len5,cap5,rfl,hlen5,hops5⟩:=Qk6 (hval 5 22 v5 rfl rfl) h5
 clear hA0 hval0
 simp only[List.append_nil,List.nil_append,List.append_assoc] at hW'
 have hlt3:∀x∈p3,x.block<W.heap.size:=fun x hx=>hW'.lt x (by simp[hx])
 have hlt4:∀x∈p4,x.block<W.heap.size:=fun x hx=>hW'.lt x (by simp[hx])
 have hlt5:∀x∈p5,x.block<W.heap.size:=fun x hx=>hW'.lt x (by simp[hx])
 have hx0:=Qiu wf0
 have hx1:=Qiu wf1
 have hx2:=Qiu wf2
 obtain⟨n0,rfl⟩:=Int.eq_ofNat_of_zero_le hx0.1
 obtain⟨n1,rfl⟩:=Int.eq_ofNat_of_zero_le hx1.1
 obtain⟨n2,rfl⟩:=Int.eq_ofNat_of_zero_le hx2.1
 refine(Qvm W n0 n1 n2 (by omega) (by omega) (by omega) b3 b4 b5 len3 cap3 len4 cap4 len5 cap5 hlen3 hlen4 hlen5 hops3 hops4 hops5).mono fun e W' ⟨he,hg⟩=>?_
 subst he
 exact⟨_,rfl,Qnp (pa:=(p3++(p4++p5))) (pv:=[]) hW' (fun _ _ _=>trodAll_mk1 (shut_bool Tryz.underlying4 _))
  (fun sp hsp=>Qp9 (shut_int Tryz.underlying5 wf0) (shut_int Tryz.underlying5 wf1) (shut_int Tryz.underlying5 wf2) (WideElems.Trod_stays Qq9 (by kernel_rfl) (of_decide_eq_true (by kernel_rfl)) h3 (fun x hx=>hg.same (hlt3 x hx)) (fun x hx=>hsp x (by simp[hx]))) (WideElems.Trod_stays Qq9 (by kernel_rfl) (of_decide_eq_true (by kernel_rfl)) h4 (fun x hx=>hg.same (hlt4 x hx)) (fun x hx=>hsp x (by simp[hx]))) (WideElems.Trod_stays Qq9 (by kernel_rfl) (of_decide_eq_true (by kernel_rfl)) h5 (fun x hx=>hg.same (hlt5 x hx)) (fun x hx=>hsp x (by simp[hx]))))
  (fun _ _=>rfl) (by simp) hg (ok_one (by kernel_rfl) rfl (okWide_bool_mk Tryz.underlying4 _))⟩
theorem holds:Rows.TxnNestsSaid :=
 OpenClaim.holds_of_wide 3 Tryz.f3 rfl rfl rfl rfl rfl rfl rfl ⟨rfl,rfl,rfl,rfl,rfl⟩ rfl rfl rfl rfl rfl (by kernel_rfl) Tryz.func3 (by kernel_rfl)
  (of_decide_eq_true (by kernel_rfl)) (by unfold Func.isWrapper;first|(rw[if_pos (by decide +kernel)];kernel_rfl)|(rw[if_neg (by decide +kernel)];exact⟨rfl,rfl⟩))
  (fun os started H enc _=>Jas os started H enc)
#print axioms holds
end Go.Proofs.YtjgacceifcnedaaGreat.lawNests
