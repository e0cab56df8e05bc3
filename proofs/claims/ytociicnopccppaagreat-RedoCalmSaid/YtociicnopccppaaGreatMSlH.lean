/-
 Rows of slots: their tags.
-/
import Derived.Test.YtociicnopccppaaGreatMSlA
import Derived.Test.YtociicnopccppaaGreatMTxM
set_option linter.all false
namespace Go.Proofs.YtociicnopccppaaGreat
open Go.RowKit
def qf7 (j:Nat):Tag:=(320,j)
theorem Qfy (j:Nat):¬qbe (qf7 j)/\¬Qai (qf7 j)/\qf7 j≠qa2/\¬qbj (qf7 j):=by
 have h1:¬qbe (qf7 j):=by
  rintro(h|h|h)
  ·rcases h with h|h|h|h|⟨i,h⟩ <;> simp[qf7,qcd,tFr,qbi,qdk,tPg] at h
  ·rcases h with h|h|h <;> simp[qf7,qb1,qa5,qa6] at h
  ·rcases h with h|h|h|h <;> simp[qf7] at h
 have h2:¬Qai (qf7 j):=by simp[Qai,qf7]
 refine⟨h1,h2,by simp[qf7,qa2],?_⟩
 rintro((h|h|h)|h)
 ·exact h1 h
 ·exact h2 h
 ·simp[qf7] at h
 ·rcases h with h|h|h <;> simp[qf7] at h
theorem Qkg:¬qbj qa2:=by
 rintro((h|h|h)|h)
 ·exact Qhd h
 ·simp[Qai,qa2] at h
 ·simp[qa2] at h
 ·rcases h with h|h|h <;> simp[qa2] at h
theorem Qov (j:Nat):¬qbj (qf7 j):=(Qfy j).2.2.2
theorem Qwv (w:World) (τ:qa1):Bytes (w.alloc (.cells #[.int .u8 1] 5)) τ (τ w.heap.size) (.slice (some ⟨w.heap.size,0,none⟩) 1 1) [1] :=
 ⟨fun x a=>by rw[Y8 a];omega,some ⟨w.heap.size,0,none⟩,1,rfl,Z0 _,by unfold maxLen;omega,fun _=>⟨w.heap.size,0,rfl,rfl,fun i hi=>by
  have:i=0:=by simpa using hi
  subst this
  exact(Own.born w τ (τ w.heap.size) 5 #[.int .u8 1]).cell 0⟩⟩
