/-
 The clock's contracts,over steps and tags.
-/
import Derived.Test.YtociicnopccppaaGreatMNum
import Derived.Test.YtociicnopccppaaGreatMCkModel
set_option linter.all false
namespace Go.Proofs.YtociicnopccppaaGreat
variable {bc:Nat}{w:World}{τ:qa1}
open Go.RowKit
def qdk:Tag:=(20,0)
structure qec (w:World) (τ:qa1) (bc:Nat) (s:Ck.Clk.St):Prop where
 tag:τ bc=qdk
 is:∃bf,Ck.PC w bc bf s/\τ bf=qdk
open Classical in
theorem Step.list {b:World} {a:qa1} {S:Tag->Prop}(m:Step w τ b a S):Ck.Mod w b ((List.range w.heap.size).filter (fun k=>decide (S (τ k)))) :=
 ⟨m.mod.os,m.mod.tape,m.mod.output,m.mod.size,fun k c hn=>m.mod.block k c (fun d=>hn (List.mem_filter.2 ⟨List.mem_range.2 c,by simpa using d⟩))⟩
theorem qec.step {e:World} {a:qa1} {S:Tag->Prop} {s:Ck.Clk.St}(h:qec w τ bc s) (m:Step w τ e a S) (i:¬S qdk):qec e a bc s:=by
 obtain⟨bf,d,g⟩:=h.is
 have l1:=Ck.qb0 d.c0
 have j:=Ck.qb0 (d.ct 0 d.n1)
 have c:∀b,τ b=qdk->b ∉ ((List.range w.heap.size).filter (fun k=>@decide (S (τ k)) (Classical.propDecidable _))):=fun b l n=>by
  have:=(List.mem_filter.1 n).2
  rw[l] at this
  exact i (by simpa using this)
 exact⟨(m.ext bc l1).trans h.tag,bf,d.mod m.list (c _ h.tag) (c _ g),(m.ext bf j).trans g⟩
theorem Step.ofList {a:World} {c:List Nat} {g:Tag}(m:Ck.Mod w a c) (h:∀b∈c,τ b=g):Step w τ a τ (fun t=>t=g) :=
 ⟨⟨m.os,m.tape,m.output,m.size,fun k d hn=>m.block k d (fun e=>hn (h k e))⟩,Ext.refl _ _⟩
theorem Qit {bf:Nat} {v:Value} {s':Ck.Clk.St} {d:List Nat}(g:τ bc=qdk) (i:τ bf=qdk) (a:∀b∈d,b=bc\/b=bf) {f:Nat}{args:Array Value}
 (h:Calls Tryz.prog f args w (Ck.Did w v bc bf s' d)):Calls Tryz.prog f args w fun e c=>e = .returned v/\qec c τ bc s'/\Step w τ c τ (fun t=>t=qdk):=by
 refine h.mono ?_
 rintro e c ⟨h1,h2,j⟩
 exact⟨h1,⟨g,bf,h2,i⟩,Step.ofList j (fun b k=>by rcases a b k with rfl|rfl <;> assumption)⟩
theorem Qhj {s:Ck.Clk.St}(h:qec w τ bc s) (i:Int) :
 Calls Tryz.prog 167 #[.pointer (some ⟨bc,0,none⟩),.int .i64 i] w fun e a=>e = .returned (.bool (Ck.Clk.takeB s i))/\qec a τ bc (Ck.Clk.qe0 s i)/\Step w τ a τ (fun t=>t=qdk):=by
 obtain⟨bf,b,c⟩:=h.is
 exact Qit h.tag c sM (Ck.qgs w bc bf s b i)
theorem Qjh {s:Ck.Clk.St}(h:qec w τ bc s) (i:Int) :
 Calls Tryz.prog 215 #[.pointer (some ⟨bc,0,none⟩),.int .i64 i] w fun e a=>e = .returned (.bool (Ck.Clk.qe6 s i))/\qec a τ bc (Ck.Clk.qc9 s i)/\Step w τ a τ (fun t=>t=qdk):=by
 obtain⟨bf,b,c⟩:=h.is
 exact Qit h.tag c sM (Ck.qiw w bc bf s b i)
theorem Qgo {s:Ck.Clk.St}(h:qec w τ bc s) (i:Int) :
 Calls Tryz.prog 106 #[.pointer (some ⟨bc,0,none⟩),.int .i64 i] w fun e a=>e = .returned (.bool (Ck.Clk.isT s i))/\qec a τ bc (Ck.Clk.qc7 s i)/\Step w τ a τ (fun t=>t=qdk):=by
 obtain⟨bf,b,c⟩:=h.is
 exact Qit h.tag c sM (Ck.qip w bc bf s b i)
theorem Qis {s:Ck.Clk.St}(h:qec w τ bc s) (i:Int) (b:∀k,s.p k<=1000000) :
 Calls Tryz.prog 107 #[.pointer (some ⟨bc,0,none⟩),.int .i64 i] w fun e a=>e = .returned (.bool (Ck.Clk.isT s i))/\qec a τ bc (Ck.Clk.qgt s i)/\Step w τ a τ (fun t=>t=qdk):=by
 obtain⟨bf,c,d⟩:=h.is
 exact Qit h.tag d sM (Ck.qjs w bc bf s c i b)
theorem Qjg {s:Ck.Clk.St}(h:qec w τ bc s) (i:Int) (b:∀k,s.p k<=1000000) :
 Calls Tryz.prog 112 #[.pointer (some ⟨bc,0,none⟩),.int .i64 i] w fun e a=>e = .returned (.bool (Ck.Clk.qdi s i))/\qec a τ bc (Ck.Clk.qdc s i)/\Step w τ a τ (fun t=>t=qdk):=by
 obtain⟨bf,c,d⟩:=h.is
 exact Qit h.tag d sM (Ck.qio w bc bf s c i b)
theorem Qlw {s:Ck.Clk.St}(h:qec w τ bc s) (i:Int) :
 Calls Tryz.prog 109 #[.pointer (some ⟨bc,0,none⟩),.int .i64 i] w fun e a=>e = .returned (.int .i64 (Ck.Clk.qfk s i:Int))/\w=a:=by
 obtain⟨bf,b,ht⟩:=h.is
 exact Ck.qja w bc bf s b i
theorem Qft {s:Ck.Clk.St}(h:qec w τ bc s) :
 Calls Tryz.prog 164 #[.pointer (some ⟨bc,0,none⟩)] w fun e a=>e = .returned (.tuple #[.int .i64 (Ck.Clk.qfl s:Int),.bool (Ck.Clk.qg1 s)])/\qec a τ bc (Ck.Clk.qbt s)/\Step w τ a τ (fun t=>t=qdk):=by
 obtain⟨bf,b,c⟩:=h.is
 exact Qit h.tag c sM (Ck.qjb w bc bf s b)
