/-
 The program's device: Crash does what the plain model says.
-/
import Derived.Test.YtjgacceifcnedaaGreatMPoolI
import Derived.Lib.MinMax
import Derived.Test.YtjgacceifcnedaaGreatMRegL
set_option linter.all false
namespace Go.Proofs.YtjgacceifcnedaaGreat
open Go.RowKit
theorem cell_kept {w w':World}{τ τ':Tags}{S:Tag→Prop}(m:Step w τ w' τ' S) {b o:Nat}{v:Value}(h:w.cell? ⟨b,o,none⟩=some v) (hs:¬S (τ b)):w'.cell? ⟨b,o,none⟩=some v:=by
 have:=m.mod.block b (cell_lt h) hs
 unfold World.cell? at h ⊢
 rw[this];exact h
theorem Qu3 {w:World}{τ:Tags}{g:Tag}{a:Addr}{n c:Nat}{l:List Int}(h:Bytes w τ g (.slice (some a) n c) l) (g':Tag) (hbig:l.length≤100000000) :
 Calls Tryz.prog 64 #[.slice (some a) n c] w fun e w'=>∃u τ',e = .returned u∧NB w.heap.size w' τ' g' u l∧Step w τ w' τ' nil:=by
 have hnil:=fun (W:World) (a:Option Addr) (n c:Nat)=>Lib.run_eql_slice_nil (P:=Tryz.prog) W 33 5 a n c 0 0 Tryz.underlying33
 have hst:=(Step.refl w τ nil).alloc (.cells #[] 5) g'
 have hnb:NB w.heap.size (w.alloc (.cells #[] 5)) (τ.put w.heap.size g') g' (.slice (some ⟨w.heap.size,0,none⟩) 0 0) [] :=
  ⟨⟨rfl,.inr ⟨w.heap.size,0,[],rfl,Own.new w τ g' _ [],rfl,Nat.le_refl _,Nat.zero_le _⟩⟩,fun x hx=>by simp at hx,fun k hk=>by
    have:w.heap.size=k:=by simpa [Value.ownBlock] using hk
    omega⟩
 have hb1:=h.step ((Step.refl w τ nil).alloc (.cells #[] 5) g') (fun h=>h)
 have hsz:([]:List Int).length+l.length≤100000000000:=by simp;omega
 obtain⟨Hst,Hnb,Hb1,Hsz⟩:=hid4 hst hnb hb1 hsz
 clear hst hnb hb1 hsz h hbig
 go_enter Tryz.func64,Tryz.ntmps64
 go_wp2_with (at_builtin;refine Qal Hst.out Hnb.out Hb1.out Hsz.out rfl _ _ rfl rfl rfl ?_;intro v' w' τ' hb he hmo;obtain⟨Hb,He,Hmo⟩:=hid3 hb he hmo;clear hb he hmo)
 go_ret
 exact⟨_,τ',rfl,Hb.out,He.out⟩
def tOne:Tag:=(76,0)
end Go.Proofs.YtjgacceifcnedaaGreat