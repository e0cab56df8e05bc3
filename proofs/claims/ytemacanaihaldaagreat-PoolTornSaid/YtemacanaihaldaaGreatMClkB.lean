/-
 The clock's contracts,over steps and tags.
-/
import Derived.Test.YtemacanaihaldaaGreatMNum
import Derived.Test.YtemacanaihaldaaGreatMCkModel
set_option linter.all false
namespace Go.Proofs.YtemacanaihaldaaGreat
variable {bc:Nat}{w:World}{τ:Tags}
open Go.RowKit
def tClk:Tag:=(20,0)
structure ClkAt (w:World) (τ:Tags) (bc:Nat) (s:Ck.Clk.St):Prop where
 tag:τ bc=tClk
 is:∃bf,Ck.PC w bc bf s∧τ bf=tClk
open Classical in
theorem Step.list {w':World} {τ':Tags} {S:Tag→Prop}(m:Step w τ w' τ' S):Ck.Mod w w' ((List.range w.heap.size).filter (fun k=>decide (S (τ k)))) :=
 ⟨m.mod.os,m.mod.tape,m.mod.output,m.mod.size,fun k hk hn=>m.mod.block k hk (fun hS=>hn (List.mem_filter.2 ⟨List.mem_range.2 hk,by simpa using hS⟩))⟩
theorem ClkAt.step {w':World} {τ':Tags} {S:Tag→Prop} {s:Ck.Clk.St}(h:ClkAt w τ bc s) (m:Step w τ w' τ' S) (hs:¬S tClk):ClkAt w' τ' bc s:=by
 obtain⟨bf,hp,ht⟩:=h.is
 have l1:=Ck.cell_lt hp.c0
 have l2:=Ck.cell_lt (hp.ct 0 hp.n1)
 have hno:∀b,τ b=tClk→b ∉ ((List.range w.heap.size).filter (fun k=>@decide (S (τ k)) (Classical.propDecidable _))):=fun b hb hm=>by
  have:=(List.mem_filter.1 hm).2
  rw[hb] at this
  exact hs (by simpa using this)
 exact⟨(m.ext bc l1).trans h.tag,bf,hp.mod m.list (hno _ h.tag) (hno _ ht),(m.ext bf l2).trans ht⟩
theorem Step.ofList {w':World} {bs:List Nat} {g:Tag}(m:Ck.Mod w w' bs) (h:∀b∈bs,τ b=g):Step w τ w' τ (fun t=>t=g) :=
 ⟨⟨m.os,m.tape,m.output,m.size,fun k hk hn=>m.block k hk (fun hm=>hn (h k hm))⟩,Ext.refl _ _⟩
theorem Qit {bf:Nat} {v:Value} {s':Ck.Clk.St} {bs:List Nat}(ht:τ bc=tClk) (hf:τ bf=tClk) (hbs:∀b∈bs,b=bc∨b=bf) {f:Nat}{args:Array Value}
 (h:Calls Tryz.prog f args w (Ck.Did w v bc bf s' bs)):Calls Tryz.prog f args w fun e w'=>e = .returned v∧ClkAt w' τ bc s'∧Step w τ w' τ (fun t=>t=tClk):=by
 refine h.mono ?_
 rintro e w' ⟨h1,h2,h3⟩
 exact⟨h1,⟨ht,bf,h2,hf⟩,Step.ofList h3 (fun b hb=>by rcases hbs b hb with rfl|rfl <;> assumption)⟩
theorem Qhj {s:Ck.Clk.St}(h:ClkAt w τ bc s) (i:Int) :
 Calls Tryz.prog 135 #[.pointer (some ⟨bc,0,none⟩),.int .i64 i] w fun e w'=>e = .returned (.bool (Ck.Clk.takeB s i))∧ClkAt w' τ bc (Ck.Clk.takeS s i)∧Step w τ w' τ (fun t=>t=tClk):=by
 obtain⟨bf,hp,ht⟩:=h.is
 exact Qit h.tag ht (by simp) (Ck.take_any w bc bf s hp i)
theorem Qjh {s:Ck.Clk.St}(h:ClkAt w τ bc s) (i:Int) :
 Calls Tryz.prog 213 #[.pointer (some ⟨bc,0,none⟩),.int .i64 i] w fun e w'=>e = .returned (.bool (Ck.Clk.leaveB s i))∧ClkAt w' τ bc (Ck.Clk.leaveS s i)∧Step w τ w' τ (fun t=>t=tClk):=by
 obtain⟨bf,hp,ht⟩:=h.is
 exact Qit h.tag ht (by simp) (Ck.leave_any w bc bf s hp i)
theorem Qgo {s:Ck.Clk.St}(h:ClkAt w τ bc s) (i:Int) :
 Calls Tryz.prog 67 #[.pointer (some ⟨bc,0,none⟩),.int .i64 i] w fun e w'=>e = .returned (.bool (Ck.Clk.isT s i))∧ClkAt w' τ bc (Ck.Clk.touchS s i)∧Step w τ w' τ (fun t=>t=tClk):=by
 obtain⟨bf,hp,ht⟩:=h.is
 exact Qit h.tag ht (by simp) (Ck.touch_any w bc bf s hp i)
theorem Qis {s:Ck.Clk.St}(h:ClkAt w τ bc s) (i:Int) (hs:∀k,s.p k≤1000000) :
 Calls Tryz.prog 68 #[.pointer (some ⟨bc,0,none⟩),.int .i64 i] w fun e w'=>e = .returned (.bool (Ck.Clk.isT s i))∧ClkAt w' τ bc (Ck.Clk.pinS s i)∧Step w τ w' τ (fun t=>t=tClk):=by
 obtain⟨bf,hp,ht⟩:=h.is
 exact Qit h.tag ht (by simp) (Ck.pin_any w bc bf s hp i hs)
theorem Qjg {s:Ck.Clk.St}(h:ClkAt w τ bc s) (i:Int) (hs:∀k,s.p k≤1000000) :
 Calls Tryz.prog 72 #[.pointer (some ⟨bc,0,none⟩),.int .i64 i] w fun e w'=>e = .returned (.bool (Ck.Clk.unpinB s i))∧ClkAt w' τ bc (Ck.Clk.unpinS s i)∧Step w τ w' τ (fun t=>t=tClk):=by
 obtain⟨bf,hp,ht⟩:=h.is
 exact Qit h.tag ht (by simp) (Ck.unpin_any w bc bf s hp i hs)
theorem Qlw {s:Ck.Clk.St}(h:ClkAt w τ bc s) (i:Int) :
 Calls Tryz.prog 69 #[.pointer (some ⟨bc,0,none⟩),.int .i64 i] w fun e w'=>e = .returned (.int .i64 (Ck.Clk.pinsV s i:Int))∧w=w':=by
 obtain⟨bf,hp,ht⟩:=h.is
 exact Ck.pins_any w bc bf s hp i
theorem Qft {s:Ck.Clk.St}(h:ClkAt w τ bc s) :
 Calls Tryz.prog 132 #[.pointer (some ⟨bc,0,none⟩)] w fun e w'=>e = .returned (.tuple #[.int .i64 (Ck.Clk.pickI s:Int),.bool (Ck.Clk.pickB s)])∧ClkAt w' τ bc (Ck.Clk.pickS s)∧Step w τ w' τ (fun t=>t=tClk):=by
 obtain⟨bf,hp,ht⟩:=h.is
 exact Qit h.tag ht (by simp) (Ck.pick_any w bc bf s hp)
end Go.Proofs.YtemacanaihaldaaGreat