/-
 What a call leaves as it was in memory;blocks that are known whole,each under a tag of the prover's own (which object it belongs to);bytes that lie behind a slice.
-/
import Derived.Test.YtociicnopccppaaGreatProg
import Derived.WalkKit
import Derived.ProofKit
import Derived.BigQuiet
import Derived.Deep.QuietTactic
import Derived.RegionTactic
import Derived.ChangeAlike
import Derived.Outline
import Derived.Lib.Hide
import Derived.Deep.RegionHeld3
set_option linter.all false
namespace Go.Proofs.YtociicnopccppaaGreat
variable {w w':World}
open Go.RowKit
abbrev Z0 := @Nat.le_refl
abbrev Z2 := @Lib.hid
abbrev Z3 := @List.getElem?_eq_getElem
abbrev Z4 := @(fun {α : Type _} {l : List α} {i : Nat} {a : α} (h : l[i]? = some a) => List.getElem?_eq_some_iff.1 h)
abbrev Z5 := @List.getD_eq_getElem?_getD
abbrev Z6 := @List.length_append
abbrev Z7 := @List.length_replicate
abbrev Z8 := @Option.bind_some
abbrev Z9 := @Nat.zero_le
abbrev Y0 := @List.length_map
abbrev Y1 := @List.length_set
abbrev Y2 := @List.mem_cons_of_mem
abbrev Y3 := @Nat.le_trans
abbrev Y4 := @List.length_cons
abbrev Y5 := @List.getElem?_append_left
abbrev Y6 := @List.getElem?_append_right
abbrev Y7 := @Nat.mul_le_mul_right
abbrev Y8 {α : Type _} {a b : α} (h : a ∈ [b]) : a = b := List.mem_singleton.1 h
abbrev Y9 := @List.append_assoc
abbrev X0 := @List.map_cons
abbrev X1 := @Int.natCast_add
structure Mod (w w':World) (S:Nat->Prop):Prop where
 os:w'.os=w.os
 tape:w'.tape=w.tape
 output:w'.output=w.output
 size:w.heap.size<=w'.heap.size
 block:∀k,k<w.heap.size->¬S k->w'.heap[k]?=w.heap[k]?
def no:Nat->Prop:=fun _=>False
theorem Mod.refl (w:World) (S:Nat->Prop):Mod w w S:=⟨rfl,rfl,rfl,Nat.le_refl _,fun _ _ _=>rfl⟩
theorem Mod.trans {a b c:World} {S:Nat->Prop}(h:Mod a b S) (k:Mod b c S):Mod a c S :=
 ⟨k.os.trans h.os,k.tape.trans h.tape,k.output.trans h.output,Nat.le_trans h.size k.size,fun i hi hn=>(k.block i (Nat.lt_of_lt_of_le hi h.size) hn).trans (h.block i hi hn)⟩
theorem Mod.mono {a b:World} {S T:Nat->Prop}(h:Mod a b S) (c:∀k,k<a.heap.size->S k->T k):Mod a b T :=
 ⟨h.os,h.tape,h.output,h.size,fun i hi hn=>h.block i hi (fun m=>hn (c i hi m))⟩
theorem Mod.drew {a:World} {S:Nat->Prop}(h:Mod a w S):Mod a w.drew S:=⟨h.os,h.tape,h.output,h.size,h.block⟩
theorem Mod.alloc {a:World} {S:Nat->Prop}(h:Mod a w S) (o:Obj):Mod a (w.alloc o) S :=
 h.trans ⟨rfl,rfl,rfl,by simp,fun k b _=>Below.heap_alloc _ _ _ b⟩
theorem Mod.setCell {a:World} {S:Nat->Prop}(h:Mod a w S) {p:Addr}(c:p.block<a.heap.size->S p.block) (v:Value):Mod a (w.setCell p v) S :=
 ⟨h.os,h.tape,h.output,by have:=h.size;simpa [World.setCell] using this,fun k b hn=>(Below.heap_setCell _ _ _ _ (fun e=>hn (by rw[e];exact c (by rw[<-e];exact b)))).trans (h.block k b hn)⟩
theorem Mod.one (w:World) (b o:Nat) (v:Value):Mod w (w.setCell ⟨b,o,none⟩ v) (fun k=>k=b):=(Mod.refl w (fun k=>k=b)).setCell (p:=⟨b,o,none⟩) (fun _=>rfl) v
theorem Mod.grown {a:World} {S:Nat->Prop} {row:Option Nat}(h:Mod a w S) (g:w.grownBy w' row) (c:∀k,row=some k->k<a.heap.size->S k):Mod a w' S :=
 ⟨g.os.trans h.os,g.tape.trans h.tape,g.output.trans h.output,Nat.le_trans h.size g.size,fun k b hn =>
  (g.block k (Nat.lt_of_lt_of_le b h.size) (fun e=>hn (c k e.symm b))).trans (h.block k b hn)⟩
theorem Mod.cell {S:Nat->Prop}(h:Mod w w' S) (b o:Nat) (a:b<w.heap.size) (hn:¬S b):w'.cell? ⟨b,o,none⟩=w.cell? ⟨b,o,none⟩:=by
 simp only[World.cell?,h.block b a hn]
theorem Mod.below(m:Mod w w' no):Below w.heap.size w w':=⟨m.os,m.tape,m.output,m.size,fun k a=>m.block k a (by simp[no])⟩
theorem Mod.seq {a b:World} {T S:Nat->Prop}(h:Mod w a T) (m:Mod a b S) (d:∀k,k<w.heap.size->S k->T k):Mod w b T :=
 ⟨m.os.trans h.os,m.tape.trans h.tape,m.output.trans h.output,Nat.le_trans h.size m.size,fun k c hn=>(m.block k (Nat.lt_of_lt_of_le c h.size) (fun q=>hn (d k c q))).trans (h.block k c hn)⟩
abbrev Tag:=Nat×Nat
abbrev qa1:=Nat->Tag
def qa1.put (τ:qa1) (b:Nat) (g:Tag):qa1:=fun k=>if k=b then g else τ k
theorem qa1.qd9 (τ:qa1) (b:Nat) (g:Tag):τ.put b g b=g:=by simp[qa1.put]
theorem qa1.qgm (τ:qa1) (b k:Nat) (g:Tag) (h:k≠b):τ.put b g k=τ k:=by simp[qa1.put,h]
def Ext (w:World) (τ τ':qa1):Prop:=∀k,k<w.heap.size->τ' k=τ k
theorem Ext.refl (w:World) (τ:qa1):Ext w τ τ:=fun _ _=>rfl
theorem Ext.trans {a:World} {τ c b:qa1}(h:Ext w τ c) (k:Ext a c b) (d:w.heap.size<=a.heap.size):Ext w τ b:=fun i hi=>(k i (Nat.lt_of_lt_of_le hi d)).trans (h i hi)
theorem Ext.put {τ a:qa1}(h:Ext w τ a) (b:Nat) (g:Tag) (hb:w.heap.size<=b):Ext w τ (a.put b g):=fun k c=>by
 rw[qa1.qgm _ _ _ _ (by omega)];exact h k c
structure Own (w:World) (τ:qa1) (b:Nat) (g:Tag) (t:TypeId) (xs:List Value):Prop where
 row:w.heap[b]?=some (.cells ⟨xs⟩ t (0,0))
 tag:τ b=g
theorem Own.lt {τ:qa1} {b:Nat} {g:Tag} {t:TypeId} {a:List Value}(h:Own w τ b g t a):b<w.heap.size:=(Array.getElem?_eq_some_iff.1 h.row).1
theorem Own.cell {τ:qa1} {b:Nat} {g:Tag} {t:TypeId} {a:List Value}(h:Own w τ b g t a) (o:Nat):w.cell? ⟨b,o,none⟩=a[o]?:=by
 simp[World.cell?,h.row]
theorem Own.at {τ:qa1} {b:Nat} {g:Tag} {t:TypeId} {a:List Value}(h:Own w τ b g t a) (o:Nat) {v:Value}(hv:a[o]?=some v):w.cell? ⟨b,o,none⟩=some v:=by
 rw[h.cell,hv]
theorem Own.fz {τ:qa1} {b:Nat} {g:Tag} {t:TypeId} {a:List Value}(h:Own w τ b g t a) (o:Nat):w.frozen? ⟨b,o,none⟩=false:=by
 simp[World.frozen?,h.row]
theorem Own.mod {τ a:qa1} {b:Nat} {g:Tag} {t:TypeId} {c:List Value}(h:Own w τ b g t c) {S:Nat->Prop}(m:Mod w w' S) (e:Ext w τ a) (d:¬S b):Own w' a b g t c :=
 ⟨by rw[m.block b h.lt d];exact h.row,by rw[e b h.lt];exact h.tag⟩
theorem Own.drew {τ:qa1} {b:Nat} {g:Tag} {t:TypeId} {a:List Value}(h:Own w τ b g t a):Own w.drew τ b g t a:=⟨h.row,h.tag⟩
theorem Own.alloc {τ:qa1} {b:Nat} {g:Tag} {t:TypeId} {a:List Value}(h:Own w τ b g t a) (o:Obj):Own (w.alloc o) τ b g t a :=
 ⟨by rw[Below.heap_alloc _ _ _ h.lt];exact h.row,h.tag⟩
theorem Own.new (w:World) (τ:qa1) (g:Tag) (t:TypeId) (a:List Value):Own (w.alloc (.cells ⟨a⟩ t)) (τ.put w.heap.size g) w.heap.size g t a:=by
 refine⟨?_,qa1.qd9 _ _ _⟩
 rw[show (w.alloc (.cells ⟨a⟩ t)).heap=w.heap.push (.cells ⟨a⟩ t) from rfl]
 simp
theorem Own.put {τ:qa1} {b:Nat} {g:Tag} {t:TypeId} {a:List Value}(h:Own w τ b g t a) {k:Nat}(c:b≠k) (d:Tag):Own w (τ.put k d) b g t a :=
 ⟨h.row,by rw[qa1.qgm _ _ _ _ c];exact h.tag⟩
theorem Own.set {τ:qa1} {b:Nat} {g:Tag} {t:TypeId} {a:List Value}(h:Own w τ b g t a) (o:Nat) (v:Value):Own (w.setCell ⟨b,o,none⟩ v) τ b g t (a.set o v):=by
 refine⟨?_,h.tag⟩
 unfold World.setCell
 simp only[Array.getElem?_modify,if_true,h.row,Option.map_some]
 simp
theorem Own.qd1 {τ:qa1} {b:Nat} {g:Tag} {t:TypeId} {a:List Value}(h:Own w τ b g t a) {p:Addr}(c:b≠p.block) (v:Value):Own (w.setCell p v) τ b g t a :=
 ⟨by rw[Below.heap_setCell _ _ _ _ c];exact h.row,h.tag⟩
theorem Own.ne {τ:qa1} {b c:Nat} {g d:Tag} {t i:TypeId} {j a:List Value}(h:Own w τ b g t j) (k:Own w τ c d i a) (l:g≠d):b≠c :=
 fun e=>l (by rw[<-h.tag,<-k.tag,e])
def qa2:Tag:=(1,0)
def IsB (l:List Int):Prop:=∀x,x∈l->0<=x/\x<=255
def u8s (l:List Int):List Value:=l.map (Value.int .u8)
theorem Qac (l:List Int):(u8s l).length=l.length:=by simp[u8s]
theorem Qfw (l:List Int) (i:Nat) (h:i<l.length):(u8s l)[i]?=some (.int .u8 (l.getD i 0)):=by
 simp[u8s,List.getD,List.getElem?_eq_getElem h]
theorem IsB.at {l:List Int}(h:IsB l) (i:Nat):0<=l.getD i 0/\l.getD i 0<=255:=by
 by_cases hi:i<l.length
 ·simp only[List.getD,List.getElem?_eq_getElem hi,Option.getD_some];exact h _ (List.getElem_mem hi)
 ·simp[List.getD,List.getElem?_eq_none (Nat.le_of_not_lt hi)]
structure Bytes (w:World) (τ:qa1) (g:Tag) (v:Value) (l:List Int):Prop where
 isB:IsB l
 is:∃p c,v = .slice p l.length c/\l.length<=c/\c<=maxLen/\(0<l.length->∃b o,p=some ⟨b,o,none⟩/\τ b=g/\∀i,i<l.length->w.cell? ⟨b,o+i,none⟩=some (.int .u8 (l.getD i 0)))
theorem qb0 {b o:Nat} {v:Value}(h:w.cell? ⟨b,o,none⟩=some v):b<w.heap.size:=by
 unfold World.cell? at h
 by_cases a:b<w.heap.size
 ·exact a
 ·simp[Array.getElem?_eq_none (Nat.le_of_not_lt a)] at h
theorem Bytes.mod {τ d:qa1} {g:Tag} {v:Value} {l:List Int}(h:Bytes w τ g v l) {S:Nat->Prop}(m:Mod w w' S) (e:Ext w τ d) (q:∀k,k<w.heap.size->τ k=g->¬S k):Bytes w' d g v l:=by
 obtain⟨p,c,hv,h1,h2,r⟩:=h.is
 refine⟨h.isB,p,c,hv,h1,h2,fun hl=>?_⟩
 obtain⟨b,o,s,n,a⟩:=r hl
 have j:=qb0 (a 0 hl)
 exact⟨b,o,s,by rw[e b j];exact n,fun i hi=>by rw[m.cell _ _ j (q b j n)];exact a i hi⟩
theorem qaj {a b:Prop}(c:a) (d:b):Hid a/\Hid b:=⟨Lib.hid c,Lib.hid d⟩
theorem qan {a b c:Prop}(d:a) (e:b) (g:c):Hid a/\Hid b/\Hid c:=⟨Lib.hid d,Lib.hid e,Lib.hid g⟩
theorem qb9 {a b c d:Prop}(e:a) (g:b) (h:c) (i:d):Hid a/\Hid b/\Hid c/\Hid d:=⟨Lib.hid e,Lib.hid g,Lib.hid h,Lib.hid i⟩
theorem qbq {a b c d e:Prop}(g:a) (h:b) (i:c) (j:d) (k:e):Hid a/\Hid b/\Hid c/\Hid d/\Hid e:=⟨Lib.hid g,Lib.hid h,Lib.hid i,Lib.hid j,Lib.hid k⟩
theorem qcq {a b c d e f:Prop}(g:a) (h:b) (i:c) (j:d) (k:e) (l:f):Hid a/\Hid b/\Hid c/\Hid d/\Hid e/\Hid f:=⟨Lib.hid g,Lib.hid h,Lib.hid i,Lib.hid j,Lib.hid k,Lib.hid l⟩
theorem qdr {a b c d e f g:Prop}(h:a) (i:b) (j:c) (k:d) (l:e) (n:f) (o:g):Hid a/\Hid b/\Hid c/\Hid d/\Hid e/\Hid f/\Hid g:=⟨Lib.hid h,Lib.hid i,Lib.hid j,Lib.hid k,Lib.hid l,Lib.hid n,Lib.hid o⟩
theorem qen {a b c d e f g h:Prop}(i:a) (j:b) (k:c) (l:d) (n:e) (o:f) (p:g) (q:h):Hid a/\Hid b/\Hid c/\Hid d/\Hid e/\Hid f/\Hid g/\Hid h:=⟨Lib.hid i,Lib.hid j,Lib.hid k,Lib.hid l,Lib.hid n,Lib.hid o,Lib.hid p,Lib.hid q⟩
theorem qgw {a b c d e f g h i:Prop}(j:a) (k:b) (l:c) (n:d) (o:e) (p:f) (q:g) (r:h) (s:i):Hid a/\Hid b/\Hid c/\Hid d/\Hid e/\Hid f/\Hid g/\Hid h/\Hid i:=⟨Lib.hid j,Lib.hid k,Lib.hid l,Lib.hid n,Lib.hid o,Lib.hid p,Lib.hid q,Lib.hid r,Lib.hid s⟩
theorem qhe {a b c d e f g h i j:Prop}(k:a) (l:b) (n:c) (o:d) (p:e) (q:f) (r:g) (s:h) (x:i) (y:j):Hid a/\Hid b/\Hid c/\Hid d/\Hid e/\Hid f/\Hid g/\Hid h/\Hid i/\Hid j:=⟨Lib.hid k,Lib.hid l,Lib.hid n,Lib.hid o,Lib.hid p,Lib.hid q,Lib.hid r,Lib.hid s,Lib.hid x,Lib.hid y⟩
theorem qg6 {a b c d e f g h i j k:Prop}(l:a) (n:b) (o:c) (p:d) (q:e) (r:f) (s:g) (x:h) (y:i) (z:j) (B:k):Hid a/\Hid b/\Hid c/\Hid d/\Hid e/\Hid f/\Hid g/\Hid h/\Hid i/\Hid j/\Hid k:=⟨Lib.hid l,Lib.hid n,Lib.hid o,Lib.hid p,Lib.hid q,Lib.hid r,Lib.hid s,Lib.hid x,Lib.hid y,Lib.hid z,Lib.hid B⟩
theorem qds {a b c d e f g h i j k l:Prop}(n:a) (o:b) (p:c) (q:d) (r:e) (s:f) (x:g) (y:h) (z:i) (B:j) (C:k) (D:l):Hid a/\Hid b/\Hid c/\Hid d/\Hid e/\Hid f/\Hid g/\Hid h/\Hid i/\Hid j/\Hid k/\Hid l:=⟨Lib.hid n,Lib.hid o,Lib.hid p,Lib.hid q,Lib.hid r,Lib.hid s,Lib.hid x,Lib.hid y,Lib.hid z,Lib.hid B,Lib.hid C,Lib.hid D⟩
theorem oM {p:Prop}(h:p:=by omega):p:=h
theorem kR {p:Prop}(h:p:=by kernel_rfl):p:=h
theorem dK {p:Prop}(h:p:=by decide +kernel):p:=h
theorem dC {p:Prop}(h:p:=by decide):p:=h
theorem sM {p:Prop}(h:p:=by simp):p:=h
theorem gN {α:Sort _}(x:α):∃y,x=y:=⟨x,rfl⟩
theorem zC {P:Program} {f:Nat} {a:Array Value} {W:World} {v:Ending} {Q:Ending->World->Prop}(h:Calls P f a w fun e w'=>e=v/\W=w') (k:Q v W):Calls P f a w Q:=h.mono fun e w' h=>by
 obtain⟨rfl,rfl⟩:=h
 exact k
abbrev rR (k t p n g s:Nat) (x y:Bool) (a b c d:Value):Array Value:=#[.int .u8 k,.int .u32 t,.int .u64 p,.int .u64 n,.int .u32 g,.int .u16 s,.bool x,.bool y,a,b,c,d]
abbrev oR (k n p:Nat) (s:Int) (a:Option Addr) (m c q t:Nat):Array Value:=#[.int .u8 k,.int .u32 n,.int .u32 p,.int .i64 s,.slice a m c,.int .u8 q,.int .u64 t]
abbrev zR:Array Value:=#[.int .u8 0,.int .u32 0,.int .u64 0,.int .u64 0,.int .u32 0,.int .u16 0,.bool false,.bool false,.slice none 0 0,.slice none 0 0,.slice none 0 0,.slice none 0 0]
