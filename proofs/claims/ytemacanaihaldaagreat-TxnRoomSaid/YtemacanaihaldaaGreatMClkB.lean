/-
 The clock's contracts,over steps and tags.
-/
import Derived.Test.YtemacanaihaldaaGreatMDiskE
import Derived.Test.YtemacanaihaldaaGreatMCkModel
set_option linter.all false
namespace Go.Proofs.YtemacanaihaldaaGreat
variable {bc:Nat}{w:World}{τ:Tags}
open Go.RowKit
def tClk:Tag:=(20,0)
structure ClkAt (w:World) (τ:Tags) (bc:Nat) (s:Ck.Clk.St):Prop where
 tag:τ bc=tClk
 is:∃bf,Ck.PC w bc bf s/\τ bf=tClk
open Classical in
theorem Step.list {d:World} {b:Tags} {S:Tag->Prop}(m:Step w τ d b S):Ck.Mod w d ((List.range w.heap.size).filter (fun k=>decide (S (τ k)))) :=
 ⟨m.mod.os,m.mod.tape,m.mod.output,m.mod.size,fun k hk hn=>m.mod.block k hk (fun e=>hn (List.mem_filter.2 ⟨List.mem_range.2 hk,by simpa using e⟩))⟩
theorem ClkAt.step {j:World} {d:Tags} {S:Tag->Prop} {s:Ck.Clk.St}(h:ClkAt w τ bc s) (m:Step w τ j d S) (o:¬S tClk):ClkAt j d bc s:=by
 obtain⟨bf,i,l⟩:=h.is
 have l1:=Ck.cell_lt i.c0
 have p:=Ck.cell_lt (i.ct 0 i.n1)
 have e:∀b,τ b=tClk->b ∉ ((List.range w.heap.size).filter (fun k=>@decide (S (τ k)) (Classical.propDecidable _))):=fun b q r=>by
  have:=(List.mem_filter.1 r).2
  rw[q] at this
  exact o (by simpa using this)
 exact⟨(m.ext bc l1).trans h.tag,bf,i.mod m.list (e _ h.tag) (e _ l),(m.ext bf p).trans l⟩
theorem Step.ofList {d:World} {e:List Nat} {g:Tag}(m:Ck.Mod w d e) (h:∀b∈e,τ b=g):Step w τ d τ (fun t=>t=g) :=
 ⟨⟨m.os,m.tape,m.output,m.size,fun k hk hn=>m.block k hk (fun i=>hn (h k i))⟩,Ext.refl _ _⟩
theorem Qit {bf:Nat} {v:Value} {s':Ck.Clk.St} {j:List Nat}(k:τ bc=tClk) (l:τ bf=tClk) (d:∀b∈j,b=bc\/b=bf) {f:Nat}{args:Array Value}
 (h:Calls Tryz.prog f args w (Ck.Did w v bc bf s' j)):Calls Tryz.prog f args w fun e i=>e = .returned v/\ClkAt i τ bc s'/\Step w τ i τ (fun t=>t=tClk):=by
 refine h.mono ?_
 rintro e i ⟨h1,h2,m⟩
 exact⟨h1,⟨k,bf,h2,l⟩,Step.ofList m (fun b o=>by rcases d b o with rfl|rfl <;> assumption)⟩
theorem Qhj {s:Ck.Clk.St}(h:ClkAt w τ bc s) (i:Int) :
 Calls Tryz.prog 135 #[.pointer (some ⟨bc,0,none⟩),.int .i64 i] w fun e b=>e = .returned (.bool (Ck.Clk.takeB s i))/\ClkAt b τ bc (Ck.Clk.takeS s i)/\Step w τ b τ (fun t=>t=tClk):=by
 obtain⟨bf,d,j⟩:=h.is
 exact Qit h.tag j (by simp) (Ck.take_any w bc bf s d i)
theorem Qjh {s:Ck.Clk.St}(h:ClkAt w τ bc s) (i:Int) :
 Calls Tryz.prog 213 #[.pointer (some ⟨bc,0,none⟩),.int .i64 i] w fun e b=>e = .returned (.bool (Ck.Clk.leaveB s i))/\ClkAt b τ bc (Ck.Clk.leaveS s i)/\Step w τ b τ (fun t=>t=tClk):=by
 obtain⟨bf,d,j⟩:=h.is
 exact Qit h.tag j (by simp) (Ck.leave_any w bc bf s d i)
theorem Qgo {s:Ck.Clk.St}(h:ClkAt w τ bc s) (i:Int) :
 Calls Tryz.prog 67 #[.pointer (some ⟨bc,0,none⟩),.int .i64 i] w fun e b=>e = .returned (.bool (Ck.Clk.isT s i))/\ClkAt b τ bc (Ck.Clk.touchS s i)/\Step w τ b τ (fun t=>t=tClk):=by
 obtain⟨bf,d,j⟩:=h.is
 exact Qit h.tag j (by simp) (Ck.touch_any w bc bf s d i)
theorem Qis {s:Ck.Clk.St}(h:ClkAt w τ bc s) (i:Int) (d:∀k,s.p k<=1000000) :
 Calls Tryz.prog 68 #[.pointer (some ⟨bc,0,none⟩),.int .i64 i] w fun e b=>e = .returned (.bool (Ck.Clk.isT s i))/\ClkAt b τ bc (Ck.Clk.pinS s i)/\Step w τ b τ (fun t=>t=tClk):=by
 obtain⟨bf,j,l⟩:=h.is
 exact Qit h.tag l (by simp) (Ck.pin_any w bc bf s j i d)
theorem Qjg {s:Ck.Clk.St}(h:ClkAt w τ bc s) (i:Int) (d:∀k,s.p k<=1000000) :
 Calls Tryz.prog 72 #[.pointer (some ⟨bc,0,none⟩),.int .i64 i] w fun e b=>e = .returned (.bool (Ck.Clk.unpinB s i))/\ClkAt b τ bc (Ck.Clk.unpinS s i)/\Step w τ b τ (fun t=>t=tClk):=by
 obtain⟨bf,j,l⟩:=h.is
 exact Qit h.tag l (by simp) (Ck.unpin_any w bc bf s j i d)
theorem Qlw {s:Ck.Clk.St}(h:ClkAt w τ bc s) (i:Int) :
 Calls Tryz.prog 69 #[.pointer (some ⟨bc,0,none⟩),.int .i64 i] w fun e b=>e = .returned (.int .i64 (Ck.Clk.pinsV s i:Int))/\w=b:=by
 obtain⟨bf,d,ht⟩:=h.is
 exact Ck.pins_any w bc bf s d i
theorem Qft {s:Ck.Clk.St}(h:ClkAt w τ bc s) :
 Calls Tryz.prog 132 #[.pointer (some ⟨bc,0,none⟩)] w fun e b=>e = .returned (.tuple #[.int .i64 (Ck.Clk.pickI s:Int),.bool (Ck.Clk.pickB s)])/\ClkAt b τ bc (Ck.Clk.pickS s)/\Step w τ b τ (fun t=>t=tClk):=by
 obtain⟨bf,d,i⟩:=h.is
 exact Qit h.tag i (by simp) (Ck.pick_any w bc bf s d)
