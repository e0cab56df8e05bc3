/-
 What a call leaves as it was in memory;blocks that are known whole,each under a tag of the prover's own (which object it belongs to);bytes that lie behind a slice.
-/
import Derived.Test.YtemacanaihaldaaGreatProg
import Derived.WalkKit
import Derived.ProofKit
import Derived.BigQuiet
import Derived.Deep.QuietTactic
import Derived.RegionTactic
import Derived.ChangeAlike
import Derived.Outline
import Derived.Lib.Hide
import Derived.Deep.RegionHeld3
set_option linter.all false
namespace Go.Proofs.YtemacanaihaldaaGreat
variable {w w':World}
open Go.RowKit
structure Mod (w w':World) (S:Nat→Prop):Prop where
 os:w'.os=w.os
 tape:w'.tape=w.tape
 output:w'.output=w.output
 size:w.heap.size≤w'.heap.size
 block:∀k,k<w.heap.size→¬S k→w'.heap[k]?=w.heap[k]?
def no:Nat→Prop:=fun _=>False
theorem Mod.refl (w:World) (S:Nat→Prop):Mod w w S:=⟨rfl,rfl,rfl,Nat.le_refl _,fun _ _ _=>rfl⟩
theorem Mod.trans {a b c:World} {S:Nat→Prop}(h:Mod a b S) (k:Mod b c S):Mod a c S :=
 ⟨k.os.trans h.os,k.tape.trans h.tape,k.output.trans h.output,Nat.le_trans h.size k.size,fun i hi hn=>(k.block i (Nat.lt_of_lt_of_le hi h.size) hn).trans (h.block i hi hn)⟩
theorem Mod.mono {a b:World} {S T:Nat→Prop}(h:Mod a b S) (hs:∀k,k<a.heap.size→S k→T k):Mod a b T :=
 ⟨h.os,h.tape,h.output,h.size,fun i hi hn=>h.block i hi (fun m=>hn (hs i hi m))⟩
theorem Mod.drew {a:World} {S:Nat→Prop}(h:Mod a w S):Mod a w.drew S:=⟨h.os,h.tape,h.output,h.size,h.block⟩
theorem Mod.alloc {a:World} {S:Nat→Prop}(h:Mod a w S) (o:Obj):Mod a (w.alloc o) S :=
 h.trans ⟨rfl,rfl,rfl,by simp,fun k hk _=>Below.heap_alloc _ _ _ hk⟩
theorem Mod.setCell {a:World} {S:Nat→Prop}(h:Mod a w S) {p:Addr}(hp:p.block<a.heap.size→S p.block) (v:Value):Mod a (w.setCell p v) S :=
 ⟨h.os,h.tape,h.output,by have:=h.size;simpa [World.setCell] using this,fun k hk hn=>(Below.heap_setCell _ _ _ _ (fun e=>hn (by rw[e];exact hp (by rw[←e];exact hk)))).trans (h.block k hk hn)⟩
theorem Mod.one (w:World) (b o:Nat) (v:Value):Mod w (w.setCell ⟨b,o,none⟩ v) (fun k=>k=b):=(Mod.refl w (fun k=>k=b)).setCell (p:=⟨b,o,none⟩) (fun _=>rfl) v
theorem Mod.grown {a:World} {S:Nat→Prop} {row:Option Nat}(h:Mod a w S) (g:w.grownBy w' row) (hr:∀k,row=some k→k<a.heap.size→S k):Mod a w' S :=
 ⟨g.os.trans h.os,g.tape.trans h.tape,g.output.trans h.output,Nat.le_trans h.size g.size,fun k hk hn =>
  (g.block k (Nat.lt_of_lt_of_le hk h.size) (fun e=>hn (hr k e.symm hk))).trans (h.block k hk hn)⟩
theorem Mod.cell {S:Nat→Prop}(h:Mod w w' S) (b o:Nat) (hb:b<w.heap.size) (hn:¬S b):w'.cell? ⟨b,o,none⟩=w.cell? ⟨b,o,none⟩:=by
 simp only[World.cell?,h.block b hb hn]
theorem Mod.below(m:Mod w w' no):Below w.heap.size w w':=⟨m.os,m.tape,m.output,m.size,fun k hk=>m.block k hk (by simp[no])⟩
theorem Mod.seq {a b:World} {T S:Nat→Prop}(h:Mod w a T) (m:Mod a b S) (hs:∀k,k<w.heap.size→S k→T k):Mod w b T :=
 ⟨m.os.trans h.os,m.tape.trans h.tape,m.output.trans h.output,Nat.le_trans h.size m.size,fun k hk hn=>(m.block k (Nat.lt_of_lt_of_le hk h.size) (fun q=>hn (hs k hk q))).trans (h.block k hk hn)⟩
abbrev Tag:=Nat×Nat
abbrev Tags:=Nat→Tag
def Tags.put (τ:Tags) (b:Nat) (g:Tag):Tags:=fun k=>if k=b then g else τ k
theorem Tags.put_same (τ:Tags) (b:Nat) (g:Tag):τ.put b g b=g:=by simp[Tags.put]
theorem Tags.put_ne (τ:Tags) (b k:Nat) (g:Tag) (h:k≠b):τ.put b g k=τ k:=by simp[Tags.put,h]
def Ext (w:World) (τ τ':Tags):Prop:=∀k,k<w.heap.size→τ' k=τ k
theorem Ext.refl (w:World) (τ:Tags):Ext w τ τ:=fun _ _=>rfl
theorem Ext.trans {a:World} {τ τ' τ'':Tags}(h:Ext w τ τ') (k:Ext a τ' τ'') (hs:w.heap.size≤a.heap.size):Ext w τ τ'':=fun i hi=>(k i (Nat.lt_of_lt_of_le hi hs)).trans (h i hi)
theorem Ext.put {τ τ':Tags}(h:Ext w τ τ') (b:Nat) (g:Tag) (hb:w.heap.size≤b):Ext w τ (τ'.put b g):=fun k hk=>by
 rw[Tags.put_ne _ _ _ _ (by omega)];exact h k hk
structure Own (w:World) (τ:Tags) (b:Nat) (g:Tag) (t:TypeId) (xs:List Value):Prop where
 row:w.heap[b]?=some (.cells ⟨xs⟩ t (0,0))
 tag:τ b=g
theorem Own.lt {τ:Tags} {b:Nat} {g:Tag} {t:TypeId} {xs:List Value}(h:Own w τ b g t xs):b<w.heap.size:=(Array.getElem?_eq_some_iff.1 h.row).1
theorem Own.cell {τ:Tags} {b:Nat} {g:Tag} {t:TypeId} {xs:List Value}(h:Own w τ b g t xs) (o:Nat):w.cell? ⟨b,o,none⟩=xs[o]?:=by
 simp[World.cell?,h.row]
theorem Own.at {τ:Tags} {b:Nat} {g:Tag} {t:TypeId} {xs:List Value}(h:Own w τ b g t xs) (o:Nat) {v:Value}(hv:xs[o]?=some v):w.cell? ⟨b,o,none⟩=some v:=by
 rw[h.cell,hv]
theorem Own.fz {τ:Tags} {b:Nat} {g:Tag} {t:TypeId} {xs:List Value}(h:Own w τ b g t xs) (o:Nat):w.frozen? ⟨b,o,none⟩=false:=by
 simp[World.frozen?,h.row]
theorem Own.mod {τ τ':Tags} {b:Nat} {g:Tag} {t:TypeId} {xs:List Value}(h:Own w τ b g t xs) {S:Nat→Prop}(m:Mod w w' S) (e:Ext w τ τ') (hs:¬S b):Own w' τ' b g t xs :=
 ⟨by rw[m.block b h.lt hs];exact h.row,by rw[e b h.lt];exact h.tag⟩
theorem Own.drew {τ:Tags} {b:Nat} {g:Tag} {t:TypeId} {xs:List Value}(h:Own w τ b g t xs):Own w.drew τ b g t xs:=⟨h.row,h.tag⟩
theorem Own.alloc {τ:Tags} {b:Nat} {g:Tag} {t:TypeId} {xs:List Value}(h:Own w τ b g t xs) (o:Obj):Own (w.alloc o) τ b g t xs :=
 ⟨by rw[Below.heap_alloc _ _ _ h.lt];exact h.row,h.tag⟩
theorem Own.new (w:World) (τ:Tags) (g:Tag) (t:TypeId) (xs:List Value):Own (w.alloc (.cells ⟨xs⟩ t)) (τ.put w.heap.size g) w.heap.size g t xs:=by
 refine⟨?_,Tags.put_same _ _ _⟩
 rw[show (w.alloc (.cells ⟨xs⟩ t)).heap=w.heap.push (.cells ⟨xs⟩ t) from rfl]
 simp
theorem Own.put {τ:Tags} {b:Nat} {g:Tag} {t:TypeId} {xs:List Value}(h:Own w τ b g t xs) {k:Nat}(hk:b≠k) (g':Tag):Own w (τ.put k g') b g t xs :=
 ⟨h.row,by rw[Tags.put_ne _ _ _ _ hk];exact h.tag⟩
theorem Own.set {τ:Tags} {b:Nat} {g:Tag} {t:TypeId} {xs:List Value}(h:Own w τ b g t xs) (o:Nat) (v:Value):Own (w.setCell ⟨b,o,none⟩ v) τ b g t (xs.set o v):=by
 refine⟨?_,h.tag⟩
 unfold World.setCell
 simp only[Array.getElem?_modify,if_true,h.row,Option.map_some]
 simp
theorem Own.set_ne {τ:Tags} {b:Nat} {g:Tag} {t:TypeId} {xs:List Value}(h:Own w τ b g t xs) {p:Addr}(hp:b≠p.block) (v:Value):Own (w.setCell p v) τ b g t xs :=
 ⟨by rw[Below.heap_setCell _ _ _ _ hp];exact h.row,h.tag⟩
theorem Own.ne {τ:Tags} {b b':Nat} {g g':Tag} {t t':TypeId} {xs xs':List Value}(h:Own w τ b g t xs) (h':Own w τ b' g' t' xs') (hg:g≠g'):b≠b' :=
 fun e=>hg (by rw[←h.tag,←h'.tag,e])
def tData:Tag:=(1,0)
def IsB (l:List Int):Prop:=∀x,x∈l→0≤x∧x≤255
def u8s (l:List Int):List Value:=l.map (Value.int .u8)
theorem Qac (l:List Int):(u8s l).length=l.length:=by simp[u8s]
theorem Qfw (l:List Int) (i:Nat) (h:i<l.length):(u8s l)[i]?=some (.int .u8 (l.getD i 0)):=by
 simp[u8s,List.getD,List.getElem?_eq_getElem h]
theorem IsB.at {l:List Int}(h:IsB l) (i:Nat):0≤l.getD i 0∧l.getD i 0≤255:=by
 by_cases hi:i<l.length
 ·simp only[List.getD,List.getElem?_eq_getElem hi,Option.getD_some];exact h _ (List.getElem_mem hi)
 ·simp[List.getD,List.getElem?_eq_none (Nat.le_of_not_lt hi)]
structure Bytes (w:World) (τ:Tags) (g:Tag) (v:Value) (l:List Int):Prop where
 isB:IsB l
 is:∃p c,v = .slice p l.length c∧l.length≤c∧c≤maxLen∧(0<l.length→∃b o,p=some ⟨b,o,none⟩∧τ b=g∧∀i,i<l.length→w.cell? ⟨b,o+i,none⟩=some (.int .u8 (l.getD i 0)))
theorem cell_lt {b o:Nat} {v:Value}(h:w.cell? ⟨b,o,none⟩=some v):b<w.heap.size:=by
 unfold World.cell? at h
 by_cases hb:b<w.heap.size
 ·exact hb
 ·simp[Array.getElem?_eq_none (Nat.le_of_not_lt hb)] at h
theorem Bytes.mod {τ τ':Tags} {g:Tag} {v:Value} {l:List Int}(h:Bytes w τ g v l) {S:Nat→Prop}(m:Mod w w' S) (e:Ext w τ τ') (hs:∀k,k<w.heap.size→τ k=g→¬S k):Bytes w' τ' g v l:=by
 obtain⟨p,c,hv,h1,h2,hc⟩:=h.is
 refine⟨h.isB,p,c,hv,h1,h2,fun hl=>?_⟩
 obtain⟨b,o,hp,ht,hcell⟩:=hc hl
 have hb:=cell_lt (hcell 0 hl)
 exact⟨b,o,hp,by rw[e b hb];exact ht,fun i hi=>by rw[m.cell _ _ hb (hs b hb ht)];exact hcell i hi⟩
theorem hid2 {a b:Prop}(a':a) (b':b):Hid a∧Hid b:=⟨Lib.hid a',Lib.hid b'⟩
theorem hid3 {a b c:Prop}(a':a) (b':b) (c':c):Hid a∧Hid b∧Hid c:=⟨Lib.hid a',Lib.hid b',Lib.hid c'⟩
theorem hid4 {a b c d:Prop}(a':a) (b':b) (c':c) (d':d):Hid a∧Hid b∧Hid c∧Hid d:=⟨Lib.hid a',Lib.hid b',Lib.hid c',Lib.hid d'⟩
theorem hid5 {a b c d e:Prop}(a':a) (b':b) (c':c) (d':d) (e':e):Hid a∧Hid b∧Hid c∧Hid d∧Hid e:=⟨Lib.hid a',Lib.hid b',Lib.hid c',Lib.hid d',Lib.hid e'⟩
theorem hid6 {a b c d e f:Prop}(a':a) (b':b) (c':c) (d':d) (e':e) (f':f):Hid a∧Hid b∧Hid c∧Hid d∧Hid e∧Hid f:=⟨Lib.hid a',Lib.hid b',Lib.hid c',Lib.hid d',Lib.hid e',Lib.hid f'⟩
theorem hid7 {a b c d e f g:Prop}(a':a) (b':b) (c':c) (d':d) (e':e) (f':f) (g':g):Hid a∧Hid b∧Hid c∧Hid d∧Hid e∧Hid f∧Hid g:=⟨Lib.hid a',Lib.hid b',Lib.hid c',Lib.hid d',Lib.hid e',Lib.hid f',Lib.hid g'⟩
theorem hid8 {a b c d e f g h:Prop}(a':a) (b':b) (c':c) (d':d) (e':e) (f':f) (g':g) (h':h):Hid a∧Hid b∧Hid c∧Hid d∧Hid e∧Hid f∧Hid g∧Hid h:=⟨Lib.hid a',Lib.hid b',Lib.hid c',Lib.hid d',Lib.hid e',Lib.hid f',Lib.hid g',Lib.hid h'⟩
theorem hid9 {a b c d e f g h i:Prop}(a':a) (b':b) (c':c) (d':d) (e':e) (f':f) (g':g) (h':h) (i':i):Hid a∧Hid b∧Hid c∧Hid d∧Hid e∧Hid f∧Hid g∧Hid h∧Hid i:=⟨Lib.hid a',Lib.hid b',Lib.hid c',Lib.hid d',Lib.hid e',Lib.hid f',Lib.hid g',Lib.hid h',Lib.hid i'⟩
theorem hid10 {a b c d e f g h i j:Prop}(a':a) (b':b) (c':c) (d':d) (e':e) (f':f) (g':g) (h':h) (i':i) (j':j):Hid a∧Hid b∧Hid c∧Hid d∧Hid e∧Hid f∧Hid g∧Hid h∧Hid i∧Hid j:=⟨Lib.hid a',Lib.hid b',Lib.hid c',Lib.hid d',Lib.hid e',Lib.hid f',Lib.hid g',Lib.hid h',Lib.hid i',Lib.hid j'⟩
theorem hid11 {a b c d e f g h i j k:Prop}(a':a) (b':b) (c':c) (d':d) (e':e) (f':f) (g':g) (h':h) (i':i) (j':j) (k':k):Hid a∧Hid b∧Hid c∧Hid d∧Hid e∧Hid f∧Hid g∧Hid h∧Hid i∧Hid j∧Hid k:=⟨Lib.hid a',Lib.hid b',Lib.hid c',Lib.hid d',Lib.hid e',Lib.hid f',Lib.hid g',Lib.hid h',Lib.hid i',Lib.hid j',Lib.hid k'⟩
theorem hid12 {a b c d e f g h i j k l:Prop}(a':a) (b':b) (c':c) (d':d) (e':e) (f':f) (g':g) (h':h) (i':i) (j':j) (k':k) (l':l):Hid a∧Hid b∧Hid c∧Hid d∧Hid e∧Hid f∧Hid g∧Hid h∧Hid i∧Hid j∧Hid k∧Hid l:=⟨Lib.hid a',Lib.hid b',Lib.hid c',Lib.hid d',Lib.hid e',Lib.hid f',Lib.hid g',Lib.hid h',Lib.hid i',Lib.hid j',Lib.hid k',Lib.hid l'⟩
end Go.Proofs.YtemacanaihaldaaGreat