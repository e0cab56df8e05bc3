/-
 The program's device: Crash does what the plain model says.
-/
import Derived.Test.YtemacanaihaldaaGreatMPoolD
import Derived.Lib.MinMax
import Derived.Test.YtemacanaihaldaaGreatMRegL
set_option linter.all false
namespace Go.Proofs.YtemacanaihaldaaGreat
open Go.RowKit
theorem cell_kept {w e:World}{τ d:Tags}{S:Tag->Prop}(m:Step w τ e d S) {b o:Nat}{v:Value}(h:w.cell? ⟨b,o,none⟩=some v) (i:¬S (τ b)):e.cell? ⟨b,o,none⟩=some v:=by
 have:=m.mod.block b (cell_lt h) i
 unfold World.cell? at h ⊢
 rw[this];exact h
theorem Qu3 {w:World}{τ:Tags}{g:Tag}{a:Addr}{n c:Nat}{l:List Int}(h:Bytes w τ g (.slice (some a) n c) l) (d:Tag) (i:l.length<=100000000) :
 Calls Tryz.prog 118 #[.slice (some a) n c] w fun e r=>∃u b,e = .returned u/\NB w.heap.size r b d u l/\Step w τ r b nil:=by
 have hnil:=fun (W:World) (a:Option Addr) (n c:Nat)=>Lib.run_eql_slice_nil (P:=Tryz.prog) W 37 5 a n c 0 0 Tryz.underlying37
 have j:=(Step.refl w τ nil).alloc (.cells #[] 5) d
 have m:NB w.heap.size (w.alloc (.cells #[] 5)) (τ.put w.heap.size d) d (.slice (some ⟨w.heap.size,0,none⟩) 0 0) [] :=
  ⟨⟨rfl,.inr ⟨w.heap.size,0,[],rfl,Own.new w τ d _ [],Z0 _,Z0 _,Z9 _⟩⟩,fun x E=>by simp at E,fun k hk=>by
    have:w.heap.size=k:=by simpa [Value.ownBlock] using hk
    omega⟩
 have o:=h.step ((Step.refl w τ nil).alloc (.cells #[] 5) d) (fun h=>h)
 have p:([]:List Int).length+l.length<=100000000000:=by simp;omega
 obtain⟨s,y,z,B⟩:=hid4 j m o p
 clear j m o p h i
 go_enter Tryz.func118,Tryz.ntmps118
 go_wp2_with (at_builtin;refine Qal s.out y.out z.out B.out rfl _ _ rfl rfl rfl ?_;intro v' r b C D q;obtain⟨F,G,Hmo⟩:=hid3 C D q;clear C D q)
 go_ret
 exact⟨_,b,rfl,F.out,G.out⟩
def tOne:Tag:=(76,0)
