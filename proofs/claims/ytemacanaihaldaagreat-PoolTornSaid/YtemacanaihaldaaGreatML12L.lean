/-
 The world of the pool's laws: Write,WriteAll.
-/
import Derived.Test.YtemacanaihaldaaGreatML12G
import Derived.Test.YtemacanaihaldaaGreatMSortM
set_option maxRecDepth 100000
set_option maxHeartbeats 4000000
set_option linter.all false
namespace Go.Proofs.YtemacanaihaldaaGreat
open Go.RowKit
theorem Clock.same {F G:List Fr}{s:Ck.Clk.St}(h:Clock F s) (hl:G.length=F.length) (hg:∀(j:Nat) (f g:Fr),F[j]?=some f→G[j]?=some g→g.pg.isSome=f.pg.isSome):Clock G s :=
 ⟨by rw[hl];exact h.n,h.h,h.n64,fun i g hgi=>by
  obtain⟨f,hf⟩:∃f,F[i]?=some f:=⟨_,List.getElem?_eq_getElem (by rw[←hl];exact(List.getElem?_eq_some_iff.1 hgi).1)⟩
  rw[hg i f g hf hgi]
  exact h.t i f hf,h.p⟩
theorem Jfd:¬PWTag tDirt:=by
 rintro(h|h|h)
 ·rcases h with h|h|h|h|⟨i,h⟩ <;> simp[tDirt,tPool,tFr,tWhere,tClk,tPg] at h
 ·rcases h with h|h|h <;> simp[tDirt,tLog,Qah,Qag] at h
 ·rcases h with h|h|h|h <;> simp[tDirt] at h
def DirtyIn (F:List Fr) (l:List (Nat×Nat)):Prop:=∀(i:Nat) (f:Fr),F[i]?=some f→0<f.first→(f.n,f.first)∈l
theorem Jeb (F:List Fr):DirtyIn F (Qyu F):=fun i f hf h0=>by
 unfold Qyu Qfs
 rw[List.take_length]
 exact List.mem_map.2 ⟨f,List.mem_filter.2 ⟨List.mem_of_getElem? hf,decide_eq_true h0⟩,rfl⟩
theorem DirtyIn.set {F:List Fr}{l:List (Nat×Nat)}(h:DirtyIn F l) {i:Nat}{f:Fr}(hf:F[i]?=some f):DirtyIn (F.set i {f with first:=0}) l:=fun j g hg h0=>by
 rcases set_get (List.getElem?_eq_some_iff.1 hf).1 hg with ⟨rfl,rfl⟩|⟨_,hg2⟩
 ·exact absurd h0 (by show ¬0<0;omega)
 ·exact h j g hg2 h0
theorem Jed {F:List Fr}(hone:OneHas F) {i n:Nat}{f:Fr}(hf:F[i]?=some f) (hh:f.has n=true) (j:Nat) (g:Fr) (hg:(F.set i {f with first:=0})[j]?=some g) (hgh:g.has n=true):g.first=0:=by
 rcases set_get (List.getElem?_eq_some_iff.1 hf).1 hg with ⟨rfl,rfl⟩|⟨hj,hg2⟩
 ·rfl
 ·exact absurd (hone j i n g f hg2 hf hgh hh) hj
theorem Jea {α:Type}{l:List α}{r:Nat}(h:r<l.length):l.drop r=l[r]::l.drop (r+1):=(List.drop_eq_getElem_cons h)
theorem Jfy (n:Nat) (h:n<256):IntKind.u8.wrap (n:Int)=(n:Int):=by
 have:IntKind.u8.wrap (n:Int)=(n:Int)%256:=by simp[IntKind.wrap,IntKind.bits,IntKind.signed]
 rw[this];omega
def boxed:Tags:=fun _=>tBox
structure OpIs (w:World) (bl o kd pg:Nat) (slot:Int) (v:Value) (data:List Int) (pf:Option Addr) (nf cf:Nat):Prop where
 kb:kd<256
 pb:pg<4294967296
 c0:w.cell? ⟨bl,o,none⟩=some (.int .u8 (kd:Int))
 c1:w.cell? ⟨bl,o+1,none⟩=some (.int .u32 (pg:Int))
 c2:w.cell? ⟨bl,o+2,none⟩=some (.int .i64 slot)
 c3:w.cell? ⟨bl,o+3,none⟩=some v
 c4:w.cell? ⟨bl,o+4,none⟩=some (.slice pf nf cf)
 by_:Bytes w boxed tBox v data
def OpsP (w:World) (a:Option Addr) (len:Nat):Prop:=∀k,k<len→∃bl ol kd pg slot v data pf nf cf,a=some ⟨bl,ol,none⟩∧OpIs w bl (ol+k*5) kd pg slot v data pf nf cf
theorem Qcq {w w':World}{τ τ':Tags}{S:Tag→Prop}(m:Step w τ w' τ' S) {b o:Nat}{v:Value}(h:w.cell? ⟨b,o,none⟩=some v) (hs:¬S (τ b)):w'.cell? ⟨b,o,none⟩=some v:=by
 have hb:=cell_lt h
 have:=m.mod.block b hb hs
 unfold World.cell? at h ⊢
 rw[this];exact h
theorem Qhl:¬AnyTag tBox:=fun h=>h rfl
theorem OpIs.step {w w':World}{τ':Tags}(m:Step w boxed w' τ' AnyTag) {bl o kd pg:Nat}{slot:Int}{v:Value}{data:List Int}{pf:Option Addr}{nf cf:Nat}(h:OpIs w bl o kd pg slot v data pf nf cf):w'.cell? ⟨bl,o,none⟩=some (.int .u8 (kd:Int))∧w'.cell? ⟨bl,o+1,none⟩=some (.int .u32 (pg:Int))∧w'.cell? ⟨bl,o+2,none⟩=some (.int .i64 slot)∧w'.cell? ⟨bl,o+3,none⟩=some v∧w'.cell? ⟨bl,o+4,none⟩=some (.slice pf nf cf)∧Bytes w' τ' tBox v data :=
 ⟨Qcq m h.c0 Qhl,Qcq m h.c1 Qhl,Qcq m h.c2 Qhl,Qcq m h.c3 Qhl,Qcq m h.c4 Qhl,h.by_.step m Qhl⟩
def Jgs (w:World) (len:Nat) (e:Ending) (w':World):Prop:=∃r,e = .returned (.bool r)∧w=w'∧(r=false→len≤40)
theorem Jfn (w:World) (a:Option Addr) (len cap:Nat) (hlen:len≤maxLen) (ho:OpsP w a len) :
 Calls Tryz.prog 6 #[.int .i64 8,.int .i64 8,.slice a len cap] w (Jgs w len):=by
 by_cases h40:len≤40
 ·have hle:¬(40:Int)<(len:Int):=by omega
  have Ho:=Lib.hid ho
  clear ho
  go_enter Tryz.func6,Tryz.ntmps6
  go_wp2_with fail
  go_loopw [7] (fun v wr=>∃i:Nat,i≤len∧v = .int .i64 (i:Int)∧wr=w) (fun v _=>len-(intOf v).toNat)
  case atStart=>exact⟨0,Nat.zero_le _,rfl,rfl⟩
  case round =>
   obtain⟨i,hi,rfl,rfl⟩:=hrel
   by_cases hlt:i<len
   ·obtain⟨bl,ol,kd,pg,slot,v,data,pf,nf,cf,rfl,h⟩:=Ho.out i hlt
    obtain⟨pv,cv,rfl,-,-⟩:=h.by_.any
    have c3:=h.c3
    have c4:=h.c4
    have hil:(i:Int)<(len:Int):=by omega
    generalize data.length=dl at *
    have H_h:=Lib.hid h
    clear h
    by_cases h1:(100:Int)<(dl:Int)
    ·go_wp2_with fail
     go_ret
     exact⟨true,rfl,rfl,fun h=>by cases h⟩
    ·by_cases h2:(60:Int)<(nf:Int)
     ·go_wp2_with fail
      go_ret
      exact⟨true,rfl,rfl,fun h=>by cases h⟩
     ·go_wp2_with fail
      go_round
      case rel=>exact⟨i+1,by omega,by simp⟩
      case measure=>simp[intOf];omega
   ·obtain rfl:i=len:=by omega
    go_wp2_with fail
    go_ret
    exact⟨false,rfl,rfl,fun _=>h40⟩
 ·have hle:(40:Int)<(len:Int):=by omega
  have Ho:=Lib.hid ho
  clear ho
  go_enter Tryz.func6,Tryz.ntmps6
  go_wp2_with fail
  go_ret
  exact⟨true,rfl,rfl,fun h=>by cases h⟩
theorem Jen:greatTo blank 4=0:=by decide +kernel
theorem Jf7 (N i:Nat) (hi:i≤N+1):stampTo (mgD N) i=0:=by
 induction i with
 | zero=>rfl
 | succ i ih =>
   show max (stampTo (mgD N) i) (greatTo (lastTo (mgD N) i 4) 4)=0
   rw[ih (by omega),Jc5 N i (by omega),Jen]
   rfl
end Go.Proofs.YtemacanaihaldaaGreat