/-
 What a call leaves as it was in memory;blocks that are known whole,each under a tag of the prover's own (which object it belongs to);bytes that lie behind a slice.
-/
import Derived.Test.YtemacanaihaldaaGreatProg
import Derived.WalkKit
import Derived.ProofKit
import Derived.BigQuiet
import Derived.Deep.QuietTactic
import Derived.RegionTactic
import Derived.ChangeAlike
import Derived.Outline
import Derived.Lib.Hide
import Derived.Deep.RegionHeld3
set_option linter.all false
namespace Go.Proofs.YtemacanaihaldaaGreat
variable {w w':World}
open Go.RowKit
abbrev Z0 := @Nat.le_refl
abbrev Z2 := @Lib.hid
abbrev Z3 := @List.getElem?_eq_getElem
abbrev Z4 := @(fun {α : Type _} {l : List α} {i : Nat} {a : α} (h : l[i]? = some a) => List.getElem?_eq_some_iff.1 h)
abbrev Z5 := @List.getD_eq_getElem?_getD
abbrev Z6 := @List.length_append
abbrev Z7 := @List.length_replicate
abbrev Z8 := @Option.bind_some
abbrev Z9 := @Nat.zero_le
abbrev Y0 := @List.length_map
abbrev Y1 := @List.length_set
abbrev Y2 := @List.mem_cons_of_mem
abbrev Y3 := @Nat.le_trans
abbrev Y4 := @List.length_cons
abbrev Y5 := @List.getElem?_append_left
abbrev Y6 := @List.getElem?_append_right
abbrev Y7 := @Nat.mul_le_mul_right
abbrev Y8 {α : Type _} {a b : α} (h : a ∈ [b]) : a = b := List.mem_singleton.1 h
abbrev Y9 := @Nat.mod_lt
abbrev X0 := @List.append_assoc
abbrev X1 := @List.map_cons
abbrev X3 := @Int.natCast_add
structure Mod (w w':World) (S:Nat->Prop):Prop where
 os:w'.os=w.os
 tape:w'.tape=w.tape
 output:w'.output=w.output
 size:w.heap.size<=w'.heap.size
 block:∀k,k<w.heap.size->¬S k->w'.heap[k]?=w.heap[k]?
def no:Nat->Prop:=fun _=>False
theorem Mod.refl (w:World) (S:Nat->Prop):Mod w w S:=⟨rfl,rfl,rfl,Nat.le_refl _,fun _ _ _=>rfl⟩
theorem Mod.trans {a b c:World} {S:Nat->Prop}(h:Mod a b S) (k:Mod b c S):Mod a c S :=
 ⟨k.os.trans h.os,k.tape.trans h.tape,k.output.trans h.output,Nat.le_trans h.size k.size,fun i hi hn=>(k.block i (Nat.lt_of_lt_of_le hi h.size) hn).trans (h.block i hi hn)⟩
theorem Mod.mono {a b:World} {S T:Nat->Prop}(h:Mod a b S) (d:∀k,k<a.heap.size->S k->T k):Mod a b T :=
 ⟨h.os,h.tape,h.output,h.size,fun i hi hn=>h.block i hi (fun m=>hn (d i hi m))⟩
theorem Mod.drew {a:World} {S:Nat->Prop}(h:Mod a w S):Mod a w.drew S:=⟨h.os,h.tape,h.output,h.size,h.block⟩
theorem Mod.alloc {a:World} {S:Nat->Prop}(h:Mod a w S) (o:Obj):Mod a (w.alloc o) S :=
 h.trans ⟨rfl,rfl,rfl,by simp,fun k hk _=>Below.heap_alloc _ _ _ hk⟩
theorem Mod.setCell {a:World} {S:Nat->Prop}(h:Mod a w S) {p:Addr}(b:p.block<a.heap.size->S p.block) (v:Value):Mod a (w.setCell p v) S :=
 ⟨h.os,h.tape,h.output,by have:=h.size;simpa [World.setCell] using this,fun k hk hn=>(Below.heap_setCell _ _ _ _ (fun e=>hn (by rw[e];exact b (by rw[<-e];exact hk)))).trans (h.block k hk hn)⟩
theorem Mod.one (w:World) (b o:Nat) (v:Value):Mod w (w.setCell ⟨b,o,none⟩ v) (fun k=>k=b):=(Mod.refl w (fun k=>k=b)).setCell (p:=⟨b,o,none⟩) (fun _=>rfl) v
theorem Mod.grown {a:World} {S:Nat->Prop} {row:Option Nat}(h:Mod a w S) (g:w.grownBy w' row) (b:∀k,row=some k->k<a.heap.size->S k):Mod a w' S :=
 ⟨g.os.trans h.os,g.tape.trans h.tape,g.output.trans h.output,Nat.le_trans h.size g.size,fun k hk hn =>
  (g.block k (Nat.lt_of_lt_of_le hk h.size) (fun e=>hn (b k e.symm hk))).trans (h.block k hk hn)⟩
theorem Mod.cell {S:Nat->Prop}(h:Mod w w' S) (b o:Nat) (d:b<w.heap.size) (hn:¬S b):w'.cell? ⟨b,o,none⟩=w.cell? ⟨b,o,none⟩:=by
 simp only[World.cell?,h.block b d hn]
theorem Mod.below(m:Mod w w' no):Below w.heap.size w w':=⟨m.os,m.tape,m.output,m.size,fun k hk=>m.block k hk (by simp[no])⟩
theorem Mod.seq {a b:World} {T S:Nat->Prop}(h:Mod w a T) (m:Mod a b S) (d:∀k,k<w.heap.size->S k->T k):Mod w b T :=
 ⟨m.os.trans h.os,m.tape.trans h.tape,m.output.trans h.output,Nat.le_trans h.size m.size,fun k hk hn=>(m.block k (Nat.lt_of_lt_of_le hk h.size) (fun q=>hn (d k hk q))).trans (h.block k hk hn)⟩
abbrev Tag:=Nat×Nat
abbrev Tags:=Nat->Tag
def Tags.put (τ:Tags) (b:Nat) (g:Tag):Tags:=fun k=>if k=b then g else τ k
theorem Tags.put_same (τ:Tags) (b:Nat) (g:Tag):τ.put b g b=g:=by simp[Tags.put]
theorem Tags.put_ne (τ:Tags) (b k:Nat) (g:Tag) (h:k≠b):τ.put b g k=τ k:=by simp[Tags.put,h]
def Ext (w:World) (τ τ':Tags):Prop:=∀k,k<w.heap.size->τ' k=τ k
theorem Ext.refl (w:World) (τ:Tags):Ext w τ τ:=fun _ _=>rfl
theorem Ext.trans {a:World} {τ d b:Tags}(h:Ext w τ d) (k:Ext a d b) (e:w.heap.size<=a.heap.size):Ext w τ b:=fun i hi=>(k i (Nat.lt_of_lt_of_le hi e)).trans (h i hi)
theorem Ext.put {τ d:Tags}(h:Ext w τ d) (b:Nat) (g:Tag) (hb:w.heap.size<=b):Ext w τ (d.put b g):=fun k hk=>by
 rw[Tags.put_ne _ _ _ _ (by omega)];exact h k hk
structure Own (w:World) (τ:Tags) (b:Nat) (g:Tag) (t:TypeId) (xs:List Value):Prop where
 row:w.heap[b]?=some (.cells ⟨xs⟩ t (0,0))
 tag:τ b=g
theorem Own.lt {τ:Tags} {b:Nat} {g:Tag} {t:TypeId} {d:List Value}(h:Own w τ b g t d):b<w.heap.size:=(Array.getElem?_eq_some_iff.1 h.row).1
theorem Own.cell {τ:Tags} {b:Nat} {g:Tag} {t:TypeId} {d:List Value}(h:Own w τ b g t d) (o:Nat):w.cell? ⟨b,o,none⟩=d[o]?:=by
 simp[World.cell?,h.row]
theorem Own.at {τ:Tags} {b:Nat} {g:Tag} {t:TypeId} {d:List Value}(h:Own w τ b g t d) (o:Nat) {v:Value}(e:d[o]?=some v):w.cell? ⟨b,o,none⟩=some v:=by
 rw[h.cell,e]
theorem Own.fz {τ:Tags} {b:Nat} {g:Tag} {t:TypeId} {d:List Value}(h:Own w τ b g t d) (o:Nat):w.frozen? ⟨b,o,none⟩=false:=by
 simp[World.frozen?,h.row]
theorem Own.mod {τ d:Tags} {b:Nat} {g:Tag} {t:TypeId} {i:List Value}(h:Own w τ b g t i) {S:Nat->Prop}(m:Mod w w' S) (e:Ext w τ d) (j:¬S b):Own w' d b g t i :=
 ⟨by rw[m.block b h.lt j];exact h.row,by rw[e b h.lt];exact h.tag⟩
theorem Own.drew {τ:Tags} {b:Nat} {g:Tag} {t:TypeId} {d:List Value}(h:Own w τ b g t d):Own w.drew τ b g t d:=⟨h.row,h.tag⟩
theorem Own.alloc {τ:Tags} {b:Nat} {g:Tag} {t:TypeId} {d:List Value}(h:Own w τ b g t d) (o:Obj):Own (w.alloc o) τ b g t d :=
 ⟨by rw[Below.heap_alloc _ _ _ h.lt];exact h.row,h.tag⟩
theorem Own.new (w:World) (τ:Tags) (g:Tag) (t:TypeId) (b:List Value):Own (w.alloc (.cells ⟨b⟩ t)) (τ.put w.heap.size g) w.heap.size g t b:=by
 refine⟨?_,Tags.put_same _ _ _⟩
 rw[show (w.alloc (.cells ⟨b⟩ t)).heap=w.heap.push (.cells ⟨b⟩ t) from rfl]
 simp
theorem Own.put {τ:Tags} {b:Nat} {g:Tag} {t:TypeId} {d:List Value}(h:Own w τ b g t d) {k:Nat}(hk:b≠k) (e:Tag):Own w (τ.put k e) b g t d :=
 ⟨h.row,by rw[Tags.put_ne _ _ _ _ hk];exact h.tag⟩
theorem Own.set {τ:Tags} {b:Nat} {g:Tag} {t:TypeId} {d:List Value}(h:Own w τ b g t d) (o:Nat) (v:Value):Own (w.setCell ⟨b,o,none⟩ v) τ b g t (d.set o v):=by
 refine⟨?_,h.tag⟩
 unfold World.setCell
 simp only[Array.getElem?_modify,if_true,h.row,Option.map_some]
 simp
theorem Own.set_ne {τ:Tags} {b:Nat} {g:Tag} {t:TypeId} {d:List Value}(h:Own w τ b g t d) {p:Addr}(e:b≠p.block) (v:Value):Own (w.setCell p v) τ b g t d :=
 ⟨by rw[Below.heap_setCell _ _ _ _ e];exact h.row,h.tag⟩
theorem Own.ne {τ:Tags} {b i:Nat} {g j:Tag} {t k:TypeId} {l d:List Value}(h:Own w τ b g t l) (m:Own w τ i j k d) (o:g≠j):b≠i :=
 fun e=>o (by rw[<-h.tag,<-m.tag,e])
def tData:Tag:=(1,0)
def IsB (l:List Int):Prop:=∀x,x∈l->0<=x/\x<=255
def u8s (l:List Int):List Value:=l.map (Value.int .u8)
theorem Qac (l:List Int):(u8s l).length=l.length:=by simp[u8s]
theorem Qfw (l:List Int) (i:Nat) (h:i<l.length):(u8s l)[i]?=some (.int .u8 (l.getD i 0)):=by
 simp[u8s,List.getD,List.getElem?_eq_getElem h]
theorem IsB.at {l:List Int}(h:IsB l) (i:Nat):0<=l.getD i 0/\l.getD i 0<=255:=by
 by_cases hi:i<l.length
 ·simp only[List.getD,List.getElem?_eq_getElem hi,Option.getD_some];exact h _ (List.getElem_mem hi)
 ·simp[List.getD,List.getElem?_eq_none (Nat.le_of_not_lt hi)]
structure Bytes (w:World) (τ:Tags) (g:Tag) (v:Value) (l:List Int):Prop where
 isB:IsB l
 is:∃p c,v = .slice p l.length c/\l.length<=c/\c<=maxLen/\(0<l.length->∃b o,p=some ⟨b,o,none⟩/\τ b=g/\∀i,i<l.length->w.cell? ⟨b,o+i,none⟩=some (.int .u8 (l.getD i 0)))
theorem cell_lt {b o:Nat} {v:Value}(h:w.cell? ⟨b,o,none⟩=some v):b<w.heap.size:=by
 unfold World.cell? at h
 by_cases d:b<w.heap.size
 ·exact d
 ·simp[Array.getElem?_eq_none (Nat.le_of_not_lt d)] at h
theorem Bytes.mod {τ j:Tags} {g:Tag} {v:Value} {l:List Int}(h:Bytes w τ g v l) {S:Nat->Prop}(m:Mod w w' S) (e:Ext w τ j) (s:∀k,k<w.heap.size->τ k=g->¬S k):Bytes w' j g v l:=by
 obtain⟨p,c,x,h1,h2,y⟩:=h.is
 refine⟨h.isB,p,c,x,h1,h2,fun hl=>?_⟩
 obtain⟨b,o,z,r,d⟩:=y hl
 have q:=cell_lt (d 0 hl)
 exact⟨b,o,z,by rw[e b q];exact r,fun i hi=>by rw[m.cell _ _ q (s b q r)];exact d i hi⟩
theorem hid2 {a b:Prop}(d:a) (e:b):Hid a/\Hid b:=⟨Lib.hid d,Lib.hid e⟩
theorem hid3 {a b c:Prop}(d:a) (e:b) (h:c):Hid a/\Hid b/\Hid c:=⟨Lib.hid d,Lib.hid e,Lib.hid h⟩
theorem hid4 {a b c d:Prop}(e:a) (h:b) (i:c) (j:d):Hid a/\Hid b/\Hid c/\Hid d:=⟨Lib.hid e,Lib.hid h,Lib.hid i,Lib.hid j⟩
theorem hid5 {a b c d e:Prop}(h:a) (i:b) (j:c) (k:d) (l:e):Hid a/\Hid b/\Hid c/\Hid d/\Hid e:=⟨Lib.hid h,Lib.hid i,Lib.hid j,Lib.hid k,Lib.hid l⟩
theorem hid6 {a b c d e f:Prop}(h:a) (i:b) (j:c) (k:d) (l:e) (m:f):Hid a/\Hid b/\Hid c/\Hid d/\Hid e/\Hid f:=⟨Lib.hid h,Lib.hid i,Lib.hid j,Lib.hid k,Lib.hid l,Lib.hid m⟩
theorem hid7 {a b c d e f g:Prop}(h:a) (i:b) (j:c) (k:d) (l:e) (m:f) (o:g):Hid a/\Hid b/\Hid c/\Hid d/\Hid e/\Hid f/\Hid g:=⟨Lib.hid h,Lib.hid i,Lib.hid j,Lib.hid k,Lib.hid l,Lib.hid m,Lib.hid o⟩
theorem hid8 {a b c d e f g h:Prop}(i:a) (j:b) (k:c) (l:d) (m:e) (o:f) (p:g) (q:h):Hid a/\Hid b/\Hid c/\Hid d/\Hid e/\Hid f/\Hid g/\Hid h:=⟨Lib.hid i,Lib.hid j,Lib.hid k,Lib.hid l,Lib.hid m,Lib.hid o,Lib.hid p,Lib.hid q⟩
theorem hid9 {a b c d e f g h i:Prop}(j:a) (k:b) (l:c) (m:d) (o:e) (p:f) (q:g) (r:h) (s:i):Hid a/\Hid b/\Hid c/\Hid d/\Hid e/\Hid f/\Hid g/\Hid h/\Hid i:=⟨Lib.hid j,Lib.hid k,Lib.hid l,Lib.hid m,Lib.hid o,Lib.hid p,Lib.hid q,Lib.hid r,Lib.hid s⟩
theorem hid10 {a b c d e f g h i j:Prop}(k:a) (l:b) (m:c) (o:d) (p:e) (q:f) (r:g) (s:h) (x:i) (y:j):Hid a/\Hid b/\Hid c/\Hid d/\Hid e/\Hid f/\Hid g/\Hid h/\Hid i/\Hid j:=⟨Lib.hid k,Lib.hid l,Lib.hid m,Lib.hid o,Lib.hid p,Lib.hid q,Lib.hid r,Lib.hid s,Lib.hid x,Lib.hid y⟩
theorem hid11 {a b c d e f g h i j k:Prop}(l:a) (m:b) (o:c) (p:d) (q:e) (r:f) (s:g) (x:h) (y:i) (z:j) (B:k):Hid a/\Hid b/\Hid c/\Hid d/\Hid e/\Hid f/\Hid g/\Hid h/\Hid i/\Hid j/\Hid k:=⟨Lib.hid l,Lib.hid m,Lib.hid o,Lib.hid p,Lib.hid q,Lib.hid r,Lib.hid s,Lib.hid x,Lib.hid y,Lib.hid z,Lib.hid B⟩
theorem hid12 {a b c d e f g h i j k l:Prop}(m:a) (o:b) (p:c) (q:d) (r:e) (s:f) (x:g) (y:h) (z:i) (B:j) (C:k) (D:l):Hid a/\Hid b/\Hid c/\Hid d/\Hid e/\Hid f/\Hid g/\Hid h/\Hid i/\Hid j/\Hid k/\Hid l:=⟨Lib.hid m,Lib.hid o,Lib.hid p,Lib.hid q,Lib.hid r,Lib.hid s,Lib.hid x,Lib.hid y,Lib.hid z,Lib.hid B,Lib.hid C,Lib.hid D⟩
