/-
 The program's device: Crash does what the plain model says.
-/
import Derived.Test.YtjgacceifcnedaaGreatMPoolI
import Derived.Lib.MinMax
import Derived.Test.YtjgacceifcnedaaGreatMRegL
set_option linter.all false
namespace Go.Proofs.YtjgacceifcnedaaGreat
open Go.RowKit
structure Fate where
 file:Nat
 sector:Int
 keep:Int
 torn:Int
def fateV (x:Fate):Value:=.agg #[.int .u8 (x.file:Int),.int .i64 x.sector,.int .i64 x.keep,.int .i64 x.torn]
def Sec.keepN (s:Sec) (k:Int):Nat:=min k.toNat s.waits.length
def Sec.base (s:Sec) (k:Nat):List Int:=if k=0 then s.last else s.waits.getD (k-1) []
def mixB (t:Nat) (new old:List Int):List Int:=new.take t++old.drop t
def Sec.left (s:Sec) (x:Fate):List Int:=if s.keepN x.keep<s.waits.length then mixB (min x.torn.toNat 128) (s.waits.getD (s.keepN x.keep) []) (s.base (s.keepN x.keep)) else s.base (s.keepN x.keep)
def Sec.crash (s:Sec) (x:Fate):Sec:=⟨s.left x,[]⟩
def Fate.hits (f i:Nat) (x:Fate):Bool:=x.file==f && x.sector==(i:Int)
def Qyp:Fate:=⟨0,0,0,0⟩
def Qpr (l:List Fate) (f i:Nat):Fate:=(l.find? (Fate.hits f i)).getD Qyp
def Qbk (l:List Fate) (f i:Nat) (ss:List Sec):List Sec:=ss.mapIdx (fun j s=>if j<i then s.crash (Qpr l f j) else s)
def Dev.crashTo (D:Dev) (l:List Fate) (f i:Nat):Dev :=
 ⟨if f=0 then Qbk l 0 i D.f0 else Qbk l 0 D.f0.length D.f0,if f=0 then D.f1 else if f=1 then Qbk l 1 i D.f1 else Qbk l 1 D.f1.length D.f1,none,false⟩
def Dev.crash (D:Dev) (l:List Fate):Dev:=D.crashTo l 2 0
theorem Qlu (l:List Fate) (f i:Nat) (ss:List Sec):(Qbk l f i ss).length=ss.length:=by simp[Qbk]
theorem Qdi (l:List Fate) (f i:Nat) (ss:List Sec) (j:Nat):(Qbk l f i ss)[j]?=(ss[j]?).map (fun s=>if j<i then s.crash (Qpr l f j) else s):=by
 simp[Qbk,List.getElem?_mapIdx]
theorem Qol (l:List Fate) (f:Nat) (ss:List Sec):Qbk l f 0 ss=ss:=by
 apply List.ext_getElem?
 intro j
 rw[Qdi]
 cases ss[j]? with
 | none=>rfl
 | some s=>simp
theorem Qx6 (l:List Fate) (f i:Nat) (ss:List Sec) (s:Sec) (hs:ss[i]?=some s):Qbk l f (i+1) ss=(Qbk l f i ss).set i (s.crash (Qpr l f i)):=by
 have hi:=(List.getElem?_eq_some_iff.1 hs).1
 apply List.ext_getElem?
 intro j
 by_cases e:i=j
 ·subst e
  rw[Qdi,hs,List.getElem?_set_self (by rw[Qlu];exact hi)]
  simp
 ·rw[List.getElem?_set_ne e,Qdi,Qdi]
  cases ss[j]? with
  | none=>rfl
  | some t =>
    have:(j<i+1)=(j<i):=by apply propext;omega
    simp[this]
theorem Dev.crashTo_file (D:Dev) (l:List Fate) (f i:Nat) (hf:f<2):(D.crashTo l f i).file f=Qbk l f i (D.file f):=by
 rcases (show f=0∨f=1 by omega) with rfl|rfl <;> rfl
theorem Dev.crashTo_put (D:Dev) (l:List Fate) (f i:Nat) (hf:f<2):(D.crashTo l f i).put f (Qbk l f (i+1) (D.file f))=D.crashTo l f (i+1):=by
 rcases (show f=0∨f=1 by omega) with rfl|rfl <;> rfl
theorem Dev.crashTo_next (D:Dev) (l:List Fate) (f:Nat) (hf:f<2):D.crashTo l f (D.file f).length=D.crashTo l (f+1) 0:=by
 rcases (show f=0∨f=1 by omega) with rfl|rfl
 ·unfold Dev.crashTo
  rw[if_pos rfl,if_pos rfl,if_neg (by omega),if_neg (by omega),if_pos rfl,Qol];rfl
 ·unfold Dev.crashTo
  rw[if_neg (by omega),if_neg (by omega),if_pos rfl,if_neg (by omega),if_neg (by omega),if_neg (by omega)];rfl
theorem Sec.crash_calm {s:Sec}(h:s.waits=[]) (x:Fate):s.crash x=s:=by
 have hl:s.waits.length=0:=by rw[h];rfl
 have hk:s.keepN x.keep=0:=by unfold Sec.keepN;omega
 unfold Sec.crash Sec.left
 rw[hk,hl,if_neg (by omega)]
 obtain⟨a,b⟩:=s
 simp only at h
 subst h
 rfl
theorem Dev.crash_calm {D:Dev}(h:D.Calm) (l:List Fate):D.crash l={D with halted:=false}:=by
 have key:∀f,f<2→∀n,Qbk l f n (D.file f)=D.file f:=fun f hf n=>by
  apply List.ext_getElem?
  intro j
  rw[Qdi]
  cases hj:(D.file f)[j]? with
  | none=>rfl
  | some s =>
    show some _=some s
    split
    ·show some (s.crash _)=some s
     rw[Sec.crash_calm (h.waits f j s hj)]
    ·rfl
 have k0:=key 0 (by omega) D.f0.length
 have k1:=key 1 (by omega) D.f1.length
 have hl:=h.left
 unfold Dev.crash Dev.crashTo
 rw[if_neg (by omega),if_neg (by omega),if_neg (by omega)]
 show (⟨Qbk l 0 D.f0.length (D.file 0),Qbk l 1 D.f1.length (D.file 1),none,false⟩:Dev)=_
 rw[k0,k1,←hl]
 rfl
structure FateIs (w:World) (b o:Nat) (x:Fate):Prop where
 fb:x.file<256
 c0:w.cell? ⟨b,o,none⟩=some (.int .u8 (x.file:Int))
 c1:w.cell? ⟨b,o+1,none⟩=some (.int .i64 x.sector)
 c2:w.cell? ⟨b,o+2,none⟩=some (.int .i64 x.keep)
 c3:w.cell? ⟨b,o+3,none⟩=some (.int .i64 x.torn)
def Jbv (w:World) (τ:Tags) (a:Option Addr) (l:List Fate):Prop:=∀k x,l[k]?=some x→∃b o,a=some ⟨b,o,none⟩∧τ b=tBox∧FateIs w b (o+k*4) x
theorem cell_kept {w w':World}{τ τ':Tags}{S:Tag→Prop}(m:Step w τ w' τ' S) {b o:Nat}{v:Value}(h:w.cell? ⟨b,o,none⟩=some v) (hs:¬S (τ b)):w'.cell? ⟨b,o,none⟩=some v:=by
 have:=m.mod.block b (cell_lt h) hs
 unfold World.cell? at h ⊢
 rw[this];exact h
theorem Jbl (x:Nat) (h:x<256):IntKind.i64.wrap (x:Int)=(x:Int):=by
 simp[IntKind.wrap,IntKind.bits,IntKind.signed];omega
def Jbw (w:World) (l:List Fate) (f i:Nat) (e:Ending) (w':World):Prop :=
 ((e = .returned (.int .i64 (-1))∧Qpr l f i=Qyp)∨∃k:Nat,e = .returned (.int .i64 (k:Int))∧l[k]?=some (Qpr l f i))∧∀τ,Step w τ w' τ nil
theorem Jbu {l:List Fate}{p:Fate→Bool}{k:Nat}{x:Fate}(hk:l[k]?=some x) (hp:p x=true) (hno:∀(j:Nat) (y:Fate),j<k→l[j]?=some y→p y=false):l.find? p=some x:=by
 rw[List.find?_eq_some_iff_append]
 have hi:=(List.getElem?_eq_some_iff.1 hk).1
 have hx:=(List.getElem?_eq_some_iff.1 hk).2
 refine⟨hp,l.take k,l.drop (k+1),?_,fun a ha=>?_⟩
 ·rw[←hx,List.getElem_cons_drop,List.take_append_drop]
 ·obtain⟨j,hj,rfl⟩:=List.mem_iff_getElem.1 ha
  rw[List.length_take] at hj
  rw[List.getElem_take,hno j l[j] (by omega) (List.getElem?_eq_getElem (by omega))]
  rfl
theorem Jbt {l:List Fate}{p:Fate→Bool}(hno:∀(j:Nat) (y:Fate),l[j]?=some y→p y=false):l.find? p=none:=by
 rw[List.find?_eq_none]
 intro x hx
 obtain⟨j,hj,rfl⟩:=List.mem_iff_getElem.1 hx
 rw[hno j l[j] (List.getElem?_eq_getElem hj)];simp
theorem Qu3 {w:World}{τ:Tags}{g:Tag}{a:Addr}{n c:Nat}{l:List Int}(h:Bytes w τ g (.slice (some a) n c) l) (g':Tag) (hbig:l.length≤100000000) :
 Calls Tryz.prog 64 #[.slice (some a) n c] w fun e w'=>∃u τ',e = .returned u∧NB w.heap.size w' τ' g' u l∧Step w τ w' τ' nil:=by
 have hnil:=fun (W:World) (a:Option Addr) (n c:Nat)=>Lib.run_eql_slice_nil (P:=Tryz.prog) W 33 5 a n c 0 0 Tryz.underlying33
 have hst:=(Step.refl w τ nil).alloc (.cells #[] 5) g'
 have hnb:NB w.heap.size (w.alloc (.cells #[] 5)) (τ.put w.heap.size g') g' (.slice (some ⟨w.heap.size,0,none⟩) 0 0) [] :=
  ⟨⟨rfl,.inr ⟨w.heap.size,0,[],rfl,Own.new w τ g' _ [],rfl,Nat.le_refl _,Nat.zero_le _⟩⟩,fun x hx=>by simp at hx,fun k hk=>by
    have:w.heap.size=k:=by simpa [Value.ownBlock] using hk
    omega⟩
 have hb1:=h.step ((Step.refl w τ nil).alloc (.cells #[] 5) g') (fun h=>h)
 have hsz:([]:List Int).length+l.length≤100000000000:=by simp;omega
 obtain⟨Hst,Hnb,Hb1,Hsz⟩:=hid4 hst hnb hb1 hsz
 clear hst hnb hb1 hsz h hbig
 go_enter Tryz.func64,Tryz.ntmps64
 go_wp2_with (at_builtin;refine Qal Hst.out Hnb.out Hb1.out Hsz.out rfl _ _ rfl rfl rfl ?_;intro v' w' τ' hb he hmo;obtain⟨Hb,He,Hmo⟩:=hid3 hb he hmo;clear hb he hmo)
 go_ret
 exact⟨_,τ',rfl,Hb.out,He.out⟩
theorem Qzr {t:Nat}{n o:List Int}(hn:n.length=128) (ho:o.length=128):(mixB t n o).length=128:=by
 unfold mixB
 rw[List.length_append,List.length_take,List.length_drop];omega
theorem Jbi {t:Nat}{n o:List Int}(hn:IsB n) (ho:IsB o):IsB (mixB t n o):=by
 intro x hx
 rcases List.mem_append.1 hx with h|h
 ·exact hn x (List.mem_of_mem_take h)
 ·exact ho x (List.mem_of_mem_drop h)
theorem Jaq {t:Nat}{n o:List Int}(ys:List Value) (ht:t≤128) (hn:n.length=128) (ho:o.length=128):over (u8s o++ys) 0 (u8s (n.take t))=u8s (mixB t n o)++ys:=by
 unfold over mixB u8s
 simp only[List.take_zero,List.nil_append,Nat.zero_add,List.map_append,List.map_take,List.map_drop,List.length_map,List.length_take]
 rw[show min t n.length=t by omega,List.drop_append_of_le_length (by rw[List.length_map];omega),List.append_assoc]
def Jbo (g:Tag):Prop:=g=tDev∨∃f,g=tRow f
def tOne:Tag:=(76,0)
theorem Jbr:∀g:Tag,g=tOne→¬DevTag g∧g≠tData:=fun g hg=>by
 subst hg
 refine⟨fun h=>?_,by decide⟩
 rcases h with h|h|h|h <;> cases h
end Go.Proofs.YtjgacceifcnedaaGreat