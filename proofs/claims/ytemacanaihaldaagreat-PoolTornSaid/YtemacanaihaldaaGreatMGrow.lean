/-
 Slices of a call's own that grow: bytes,and rows of sectors;what append makes of them.
-/
import Derived.Test.YtemacanaihaldaaGreatMNum
import Derived.Deep.AppendLies
import Derived.Deep.RegionLaw
set_option linter.all false
namespace Go.Proofs.YtemacanaihaldaaGreat
variable {D:Dev}{b f n0:Nat}{g:Tag}{v v0 v1:Value}{w w' w0:World}{τ τ' τ0:Tags}
open Go.RowKit
theorem Bytes.any {l:List Int}(h:Bytes w τ g v l):∃p c,v = .slice p l.length c∧l.length≤c∧c≤maxLen:=by
 obtain⟨p,c,hv,h1,h2,_⟩:=h.is
 exact⟨p,c,hv,h1,h2⟩
theorem Bytes.pos {l:List Int}(h:Bytes w τ g v l) (h0:0<l.length):∃b o c,v = .slice (some ⟨b,o,none⟩) l.length c∧l.length≤c∧c≤maxLen∧τ b=g∧b<w.heap.size∧∀i,i<l.length→w.cell? ⟨b,o+i,none⟩=some (.int .u8 (l.getD i 0)):=by
 obtain⟨p,c,hv,h1,h2,hc⟩:=h.is
 obtain⟨b,o,rfl,ht,hx⟩:=hc h0
 exact⟨b,o,c,hv,h1,h2,ht,cell_lt (hx 0 h0),hx⟩
structure NB (n0:Nat) (w:World) (τ:Tags) (g:Tag) (v:Value) (l:List Int):Prop where
 buf:Buf w τ g 5 1 v l.length (u8s l)
 isB:IsB l
 low:∀k,v.ownBlock=some k→n0≤k
theorem NB.nil (n0:Nat) (w:World) (τ:Tags) (g:Tag):NB n0 w τ g (.slice none 0 0) []:=⟨Buf.nil _ _ _ _ _,fun x hx=>by simp at hx,fun k hk=>by simp[Value.ownBlock] at hk⟩
theorem NB.bytes {l:List Int}(h:NB n0 w τ g v l):Bytes w τ g v l:=h.buf.bytes h.isB
theorem NB.step {S:Tag→Prop} {l:List Int}(h:NB n0 w τ g v l) (m:Step w τ w' τ' S) (hs:¬S g):NB n0 w' τ' g v l:=⟨h.buf.step m hs,h.isB,h.low⟩
theorem NB.drew {l:List Int}(h:NB n0 w τ g v l):NB n0 w.drew τ g v l:=h.step (Step.refl w τ Go.Proofs.YtemacanaihaldaaGreat.nil).drew (fun h=>h)
theorem NB.val {l:List Int}(h:NB n0 w τ g v l):∃p c,v = .slice p l.length c:=by
 obtain⟨p,c,hv,_⟩:=h.bytes.any
 exact⟨p,c,hv⟩
theorem IsB.append {l m:List Int}(h:IsB l) (k:IsB m):IsB (l++m):=fun x hx=>(List.mem_append.1 hx).elim (h x) (k x)
theorem Qig (l m:List Int):u8s (l++m)=u8s l++u8s m:=by simp[u8s]
theorem Qhu {S:Tag→Prop}(hst:Step w0 τ0 w τ S) {g g2:Tag}{v vx:Value}{l m:List Int}(hown:NB w0.heap.size w τ g v l) (hb:Bytes w τ g2 vx m) (hsz:l.length+m.length≤100000000000) (ty:TypeId) :
 ∃v' w' τ',(Builtin.append_ #[37,37] ty #[v,vx]).run Tryz.prog w = .ok v' w'∧NB w0.heap.size w' τ' g v' (l++m)∧Step w0 τ0 w' τ' S∧Step w τ w' τ' (fun t=>t=g):=by
 obtain⟨i0,hi,hz0,hz1,hz2⟩:=info_parts Tryz.infoU8
 obtain⟨p,c,rfl,h1,h2⟩:=hb.any
 have hnews:=hb.news.2
 by_cases hp:p=none
 ·subst hp
  obtain⟨p',c',hv,h3,h4,hc⟩:=hb.is
  simp only[Value.slice.injEq] at hv
  obtain⟨rfl,_,rfl⟩:=hv
  cases m with
  | nil =>
    refine⟨v,w,τ,?_,by simpa using hown,hst,Step.refl _ _ _⟩
    rcases hown.buf.2 with ⟨rfl,_⟩|⟨b,cap,ys,rfl,ho,_,hnc,_⟩
    ·simp[Builtin.append_,run_underlying Tryz.underlying37,sizeOf,typeInfo,hi,Builtin.lenOf,Builtin.firstCells]
    ·simp[Builtin.append_,run_underlying Tryz.underlying37,sizeOf,typeInfo,hi,Builtin.lenOf,Builtin.firstCells,hnc,storeCells]
  | cons x r=>obtain⟨b,o,hq,_⟩:=hc (by simp);cases hq
 obtain⟨v',w',τ',hr,hb',he,hm,hnw⟩:=Qap (P:=Tryz.prog) w τ g 37 ty 5 i0 (.int .u8 0) 1 1 Tryz.underlying37 hi hz0 hz1 hz2 rfl (by decide) v l.length (u8s l) hown.buf
  p m.length c (u8s m) (by rw[Qac,Nat.mul_one]) (fun h=>absurd h hp) (fun a ha=>hnews a ha) (Qkd m) (by unfold maxLen;omega) (by omega)
 refine⟨v',w',τ',hr,⟨by rw[List.length_append,Qig];exact hb',hown.isB.append hb.isB,fun k hk=>?_⟩,⟨hst.mod.seq hm (fun k hk hS=>absurd (hown.low k hS) (by omega)),hst.ext.trans he hst.size⟩,⟨hm.mono (fun k hk hS=>(hown.buf.own k hS).1),he⟩⟩
 rcases hnw k hk with h|h
 ·exact hown.low k h
 ·have:=hst.size;omega
theorem Qal {S:Tag→Prop}(hst:Step w0 τ0 w τ S) {g g2:Tag}{v vx:Value}{l m:List Int}(hown:NB w0.heap.size w τ g v l) (hb:Bytes w τ g2 vx m) (hsz:l.length+m.length≤100000000000)
 {ops:Array Oper} {rest:List Oper} {o:Oper} {a:Act} {Q:Exit→Act→World→Prop} (hgd:o.guard=none) (s x:Operand)
 (ho:o.op = .call {callee:=.builtin .append,args:=#[s,x],argTypes:=#[37,37]}) (hs:a.eval s=v) (hx:a.eval x=vx)
 (h:∀v' w' τ',NB w0.heap.size w' τ' g v' (l++m)→Step w0 τ0 w' τ' S→Step w τ w' τ' (fun t=>t=g)→wpList Tryz.prog ops Q rest (a.put o.dst v') w'):wpList Tryz.prog ops Q (o::rest) a w:=by
 refine wpList_plain hgd fun K hK=>?_
 obtain⟨v',w',τ',hr,h2,h3,h4⟩:=Qhu hst hown hb hsz o.type
 unfold Oper.wp execOp
 simp only[ho,resolve,invoke,builtin,Sem.run_bind,Sem.run_pure,Result.andThen_ok,List.map_toArray,List.map_cons,List.map_nil,hs,hx,hr]
 exact hK _ _ (h v' w' τ' h2 h3 h4)
theorem Ql7 {S:Tag→Prop}(hst:Step w0 τ0 w τ S) {g g2:Tag}{v vx:Value}{l m:List Int}(hown:NB w0.heap.size w τ g v l) (hb:Bytes w τ g2 vx m) (hsz:l.length+m.length≤100000000000)
 {ops:Array Oper} {o:Oper} {a:Act} {K:Act→World→Prop} {Q:Exit→Act→World→Prop} {E:Prop} (hgd:o.guard=none) (s x:Operand)
 (ho:o.op = .call {callee:=.builtin .append,args:=#[s,x],argTypes:=#[37,37]}) (hs:a.eval s=v) (hx:a.eval x=vx)
 (h:∀v' w' τ',NB w0.heap.size w' τ' g v' (l++m)→Step w0 τ0 w' τ' S→Step w τ w' τ' (fun t=>t=g)→K (a.put o.dst v') w'):if Region.wanted o (yielded ops a.tmps)=true then Oper.wp Tryz.prog o a w K Q else E:=by
 have hw:Region.wanted o (yielded ops a.tmps)=true:=by simp[Region.wanted,hgd]
 rw[if_pos hw]
 obtain⟨v',w',τ',hr,h2,h3,h4⟩:=Qhu hst hown hb hsz o.type
 unfold Oper.wp execOp
 simp only[ho,resolve,invoke,builtin,Sem.run_bind,Sem.run_pure,Result.andThen_ok,List.map_toArray,List.map_cons,List.map_nil,hs,hx,hr]
 exact h v' w' τ' h2 h3 h4
structure NR (n0:Nat) (w:World) (τ:Tags) (g:Tag) (v:Value) (ls:List (List Int)):Prop where
 row:Waits w τ g v ls
 low:∀k,v.ownBlock=some k→n0≤k
theorem NR.nil (n0:Nat) (w:World) (τ:Tags) (g:Tag):NR n0 w τ g (.slice none 0 0) []:=⟨.inl ⟨rfl,rfl⟩,fun k hk=>by simp[Value.ownBlock] at hk⟩
theorem NR.step {S:Tag→Prop} {ls:List (List Int)}(h:NR n0 w τ g v ls) (m:Step w τ w' τ' S) (hs:¬S g) (hd:¬S tData):NR n0 w' τ' g v ls:=⟨h.row.step m hs hd,h.low⟩
theorem NR.val {ls:List (List Int)}(h:NR n0 w τ g v ls):∃p c,v = .slice p ls.length c:=h.row.len
theorem Qdn {S:Tag→Prop}(hst:Step w0 τ0 w τ S) {g:Tag}(hg:g≠tData) {v u:Value}{ls:List (List Int)}{x:List Int}(hown:NR w0.heap.size w τ g v ls) (hb:Bytes w τ tData u x) (h128:x.length=128) (hsz:ls.length≤1000000000) {k:Nat}
 (hk:w.heap[k]?=some (.cells #[u] 37 (0,0))) (ty:TypeId) :
 ∃v' w' τ',(Builtin.append_ #[52,52] ty #[v,.slice (some ⟨k,0,none⟩) 1 1]).run Tryz.prog w = .ok v' w'∧NR w0.heap.size w' τ' g v' (ls++[x])∧Step w0 τ0 w' τ' S∧Step w τ w' τ' (fun t=>t=g)∧Mod w w' (fun k=>v.ownBlock=some k):=by
 obtain⟨i0,hi,hz0,hz1,hz2⟩:=info_parts Tryz.infoU8s
 obtain⟨xs,hbuf,hxs⟩:=hown.row.buf
 obtain⟨p,c,rfl,_⟩:=hb.any
 obtain⟨v',w',τ',hr,hb',he,hm,hnw⟩:=Qap (P:=Tryz.prog) w τ g 52 ty 37 i0 (.slice none 0 0) 1 24 Tryz.underlying52 hi hz0 hz1 hz2 rfl (by decide) v ls.length xs hbuf
  (some ⟨k,0,none⟩) 1 1 [.slice p x.length c] rfl (fun h=>by cases h) (by
    intro ad had;cases had;exact World.news_of_block (cs:=#[.slice p x.length c]) (t := 37) (fr:=(0,0)) hk) (by simp[Value.oneCell']) (by unfold maxLen;omega) (by omega)
 have hmd:Step w τ w' τ' (fun t=>t=g):=⟨hm.mono (fun k hk hS=>(hbuf.own k hS).1),he⟩
 have hxl:xs.length=ls.length:=by have:=hbuf.1;omega
 refine⟨v',w',τ',hr,⟨?_,fun k hk=>?_⟩,⟨hst.mod.seq hm (fun k hk hS=>absurd (hown.low k hS) (by omega)),hst.ext.trans he hst.size⟩,hmd,hm⟩
 ·have hb2:Buf w' τ' g 37 1 v' (ls++[x]).length (xs++[.slice p x.length c]):=by rw[List.length_append];exact hb'
  refine hb2.waits (fun j y hj=>?_)
  by_cases hlt:j<ls.length
  ·rw[List.getElem?_append_left hlt] at hj
   obtain⟨a,u,hu,hbu⟩:=hxs j y hj
   exact⟨a,u,by rw[List.getElem?_append_left (by omega)];exact hu,hbu.step hmd (fun e=>hg e.symm)⟩
  ·rw[List.getElem?_append_right (by omega)] at hj
   have hj0:j-ls.length=0:=by
    have:=(List.getElem?_eq_some_iff.1 hj).1
    simp at this;omega
   rw[hj0] at hj
   have hxy:x=y:=by simpa using hj
   subst hxy
   refine⟨h128,_,by rw[List.getElem?_append_right (by omega),show j-xs.length=0 by omega];rfl,hb.step hmd (fun e=>hg e.symm)⟩
 ·rcases hnw k hk with h|h
  ·exact hown.low k h
  ·have:=hst.size;omega
theorem Qjk {S:Tag→Prop}(hst:Step w0 τ0 w τ S) {g:Tag}(hg:g≠tData) {v u:Value}{ls:List (List Int)}{x:List Int}(hown:NR w0.heap.size w τ g v ls) (hb:Bytes w τ tData u x) (h128:x.length=128) (hsz:ls.length≤1000000000) {k:Nat}
 (hk:w.heap[k]?=some (.cells #[u] 37 (0,0)))
 {ops:Array Oper} {rest:List Oper} {o:Oper} {a:Act} {Q:Exit→Act→World→Prop} (hgd:o.guard=none) (s y:Operand)
 (ho:o.op = .call {callee:=.builtin .append,args:=#[s,y],argTypes:=#[52,52]}) (hs:a.eval s=v) (hy:a.eval y = .slice (some ⟨k,0,none⟩) 1 1)
 (h:∀v' w' τ',NR w0.heap.size w' τ' g v' (ls++[x])→Step w0 τ0 w' τ' S→Step w τ w' τ' (fun t=>t=g)→wpList Tryz.prog ops Q rest (a.put o.dst v') w'):wpList Tryz.prog ops Q (o::rest) a w:=by
 refine wpList_plain hgd fun K hK=>?_
 obtain⟨v',w',τ',hr,h2,h3,h4,-⟩:=Qdn hst hg hown hb h128 hsz hk o.type
 unfold Oper.wp execOp
 simp only[ho,resolve,invoke,builtin,Sem.run_bind,Sem.run_pure,Result.andThen_ok,List.map_toArray,List.map_cons,List.map_nil,hs,hy,hr]
 exact hK _ _ (h v' w' τ' h2 h3 h4)
theorem Ql6 {S:Tag→Prop}(hst:Step w0 τ0 w τ S) {g:Tag}(hg:g≠tData) {v u:Value}{ls:List (List Int)}{x:List Int}(hown:NR w0.heap.size w τ g v ls) (hb:Bytes w τ tData u x) (h128:x.length=128) (hsz:ls.length≤1000000000) {k:Nat}
 (hk:w.heap[k]?=some (.cells #[u] 37 (0,0)))
 {ops:Array Oper} {o:Oper} {a:Act} {K:Act→World→Prop} {Q:Exit→Act→World→Prop} {E:Prop} (hgd:o.guard=none) (s y:Operand)
 (ho:o.op = .call {callee:=.builtin .append,args:=#[s,y],argTypes:=#[52,52]}) (hs:a.eval s=v) (hy:a.eval y = .slice (some ⟨k,0,none⟩) 1 1)
 (h:∀v' w' τ',NR w0.heap.size w' τ' g v' (ls++[x])→Step w0 τ0 w' τ' S→Step w τ w' τ' (fun t=>t=g)→K (a.put o.dst v') w'):if Region.wanted o (yielded ops a.tmps)=true then Oper.wp Tryz.prog o a w K Q else E:=by
 have hw:Region.wanted o (yielded ops a.tmps)=true:=by simp[Region.wanted,hgd]
 rw[if_pos hw]
 obtain⟨v',w',τ',hr,h2,h3,h4,-⟩:=Qdn hst hg hown hb h128 hsz hk o.type
 unfold Oper.wp execOp
 simp only[ho,resolve,invoke,builtin,Sem.run_bind,Sem.run_pure,Result.andThen_ok,List.map_toArray,List.map_cons,List.map_nil,hs,hy,hr]
 exact h v' w' τ' h2 h3 h4
theorem NR.alloc {ls:List (List Int)}(h:NR n0 w τ g v ls) (o:Obj):NR n0 (w.alloc o) τ g v ls:=h.step ((Step.refl w τ Go.Proofs.YtemacanaihaldaaGreat.nil).alloc' o) (fun h=>h) (fun h=>h)
theorem Bytes.alloc {l:List Int}(h:Bytes w τ g v l) (o:Obj):Bytes (w.alloc o) τ g v l:=h.step ((Step.refl w τ Go.Proofs.YtemacanaihaldaaGreat.nil).alloc' o) (fun h=>h)
theorem Qbz {S:Tag→Prop}(hst:Step w0 τ0 w τ S) {g:Tag}(hg:g≠tData) {v u:Value}{ls:List (List Int)}{x:List Int}(hown:NR w0.heap.size w τ g v ls) (hb:Bytes w τ tData u x) (h128:x.length=128) (hsz:ls.length≤1000000000) {kb:Nat}(hkb:kb=w.heap.size)
 {ops:Array Oper} {rest:List Oper} {o:Oper} {a:Act} {Q:Exit→Act→World→Prop} (hgd:o.guard=none) (s y:Operand)
 (ho:o.op = .call {callee:=.builtin .append,args:=#[s,y],argTypes:=#[52,52]}) (hs:a.eval s=v) (hy:a.eval y = .slice (some ⟨kb,0,none⟩) 1 1)
 (h:∀v' w' τ',NR w0.heap.size w' τ' g v' (ls++[x])→Step w0 τ0 w' τ' S→Step w τ w' τ' (fun t=>t=g)→wpList Tryz.prog ops Q rest (a.put o.dst v') w'):wpList Tryz.prog ops Q (o::rest) a (w.alloc (.cells #[u] 37)):=by
 subst hkb
 refine Qjk (hst.alloc' (.cells #[u] 37)) hg (hown.alloc _) (hb.alloc _) h128 hsz (heap_alloc_new w _) hgd s y ho hs hy (fun v' w' τ' h1 h2 h3=>h v' w' τ' h1 h2 ?_)
 exact((Step.refl w τ _).alloc' _).trans h3
theorem Qkk {S:Tag→Prop}(hst:Step w0 τ0 w τ S) {g:Tag}(hg:g≠tData) {v u:Value}{ls:List (List Int)}{x:List Int}(hown:NR w0.heap.size w τ g v ls) (hb:Bytes w τ tData u x) (h128:x.length=128) (hsz:ls.length≤1000000000) {kb:Nat}(hkb:kb=w.heap.size)
 {ops:Array Oper} {o:Oper} {a:Act} {K:Act→World→Prop} {Q:Exit→Act→World→Prop} {E:Prop} (hgd:o.guard=none) (s y:Operand)
 (ho:o.op = .call {callee:=.builtin .append,args:=#[s,y],argTypes:=#[52,52]}) (hs:a.eval s=v) (hy:a.eval y = .slice (some ⟨kb,0,none⟩) 1 1)
 (h:∀v' w' τ',NR w0.heap.size w' τ' g v' (ls++[x])→Step w0 τ0 w' τ' S→Step w τ w' τ' (fun t=>t=g)→K (a.put o.dst v') w'):if Region.wanted o (yielded ops a.tmps)=true then Oper.wp Tryz.prog o a (w.alloc (.cells #[u] 37)) K Q else E:=by
 subst hkb
 refine Ql6 (hst.alloc' (.cells #[u] 37)) hg (hown.alloc _) (hb.alloc _) h128 hsz (heap_alloc_new w _) hgd s y ho hs hy (fun v' w' τ' h1 h2 h3=>h v' w' τ' h1 h2 ?_)
 exact((Step.refl w τ _).alloc' _).trans h3
def Qcu (ls:List (List Int)):Nat→List Int
 | 0=>[]
 | i+1=>Qcu ls i++(((ls.getD i []).drop 8).take (120-8))
def okTo (ls:List (List Int)) (s:Nat):Nat→Bool
 | 0=>true
 | i+1=>okTo ls s i && (lowMark (ls.getD i [])==s && highMark (ls.getD i [])==s)
def sealStamp (ls:List (List Int)):Nat:=lowMark (ls.getD 0 [])
def Qb3 (ls:List (List Int)):Bool:=okTo ls (sealStamp ls) 4
def Qjt (ls:List (List Int)):List Int:=Qcu ls 4
def OpenD (w:World) (τ:Tags) (g:Tag) (ls:List (List Int)) (e:Ending) (w':World):Prop :=
 ∃τ',Step w τ w' τ' nil∧((Qb3 ls=true∧∃u,e = .returned (.tuple #[u,.int .u64 (sealStamp ls:Int),.bool true])∧Bytes w' τ' g u (Qjt ls)) ∨
   (Qb3 ls=false∧e = .returned (.tuple #[.slice none 0 0,.int .u64 0,.bool false])))
theorem Qh0 (ls:List (List Int)) (s i:Nat):okTo ls s (i+1)=(okTo ls s i && (lowMark (ls.getD i [])==s && highMark (ls.getD i [])==s)):=rfl
theorem Qq1 {ls:List (List Int)} {s i:Nat}(h:okTo ls s i=false):∀n,i≤n→okTo ls s n=false:=by
 intro n hn
 induction n with
 | zero =>
    obtain rfl:i=0:=by omega
    exact h
 | succ n ih =>
   by_cases e:i=n+1
   ·subst e;exact h
   ·rw[Qh0,ih (by omega),Bool.false_and]
theorem Qib {ls:List (List Int)}(h:∀(k:Nat) (x:List Int),ls[k]?=some x→x.length=128) (i:Nat) (hi:i≤ls.length):(Qcu ls i).length=112*i:=by
 induction i with
 | zero=>rfl
 | succ i ih =>
   have hx:ls[i]?=some (ls.getD i []):=by rw[List.getD_eq_getElem?_getD,List.getElem?_eq_getElem (by omega)];rfl
   have:=h i _ hx
   show (Qcu ls i++_).length=_
   rw[List.length_append,ih (by omega),List.length_take,List.length_drop,this]
   omega
theorem Qnz {ls:List (List Int)}(h:Waits w τ g v ls) (g':Tag) (h4:ls.length=4) :
 Calls Tryz.prog 127 #[v] w (OpenD w τ g' ls):=by
 obtain⟨p,c,rfl,hm,hr⟩:=h.read
 have Hr:=Lib.hid hr
 rw[h4]
 obtain⟨x0,hx0⟩:∃x,ls[0]?=some x:=⟨_,List.getElem?_eq_getElem (by omega)⟩
 obtain⟨h128,b,u0,rfl,hc0,hb0⟩:=hr 0 x0 hx0
 have lb:=cell_lt hc0
 obtain⟨pu,cu,rfl,-,-⟩:=hb0.any
 rw[h128] at hb0 hc0
 have hm0:=Qlc hb0
 have hst:lowMark x0=sealStamp ls:=by unfold sealStamp;rw[List.getD_eq_getElem?_getD,hx0];rfl
 have hlen:∀(k:Nat) (x:List Int),ls[k]?=some x→x.length=128:=fun k x hx=>(hr k x hx).1
 rw[hst] at hm0
 generalize highMark x0=hm2 at hm0
 generalize hs:sealStamp ls=s at *
 obtain⟨Hm0,H4,Hlen,Hs⟩:=hid4 hm0 h4 hlen hs
 clear hm0 h4 hlen hs hr hb0 hx0 hm h h128 hst
 go_enter Tryz.func127,Tryz.ntmps127
 go_wp2_with fail
 refine Hm0.out.mono ?_
 rintro e w' ⟨rfl,rfl⟩
 go_wp2_with fail
 go_loopw [8,27] (fun m v wr=>∃(i:Nat) (τr:Tags),i≤4∧v = .int .i64 (i:Int)∧NB w.heap.size wr τr g' m (Qcu ls i)∧Step w τ wr τr nil∧Hid (okTo ls s i=true)) (fun _ v _=>4-(intOf v).toNat)
 case atStart=>exact⟨0,τ,Nat.zero_le _,rfl,NB.nil _ _ _ _,(Step.refl _ _ _).drew,Lib.hid rfl⟩
 case round =>
  obtain⟨i,τr,hi,rfl,hbuf,hst,HO⟩:=hrel
  by_cases hlt:i<4
  ·obtain⟨x,hx⟩:∃x,ls[i]?=some x:=⟨_,List.getElem?_eq_getElem (by rw[H4.out];exact hlt)⟩
   obtain⟨h128,b',u,hpe,hc,hb⟩:=Hr.out i x hx
   cases hpe
   have c1:=(hst.no.cell b i lb (fun h=>h)).trans hc
   have hb1:=hb.step hst (fun h=>h)
   obtain⟨bb,oo,cu,rfl,h1c,h2c,-⟩:=hb1.pos (by omega)
   rw[h128] at hb1 c1
   have hmk:=Qlc hb1
   have hgx:ls.getD i []=x:=by rw[List.getD_eq_getElem?_getD,hx];rfl
   have hok:okTo ls s (i+1)=(lowMark x==s && highMark x==s):=by
    rw[Qh0,HO.out,hgx,Bool.true_and]
   have hbd:Qcu ls (i+1)=Qcu ls i++((x.drop 8).take (120-8)):=by
    show Qcu ls i++(((ls.getD i []).drop 8).take (120-8))=_
    rw[hgx]
   have hsb:=hb1.drew.sub 8 120 (cu-8) (by omega) (by omega) (by omega) (by omega)
   have hlen2:((x.drop 8).take (120-8)).length=112:=by rw[List.length_take,List.length_drop];omega
   have hlb:=Qib Hlen.out i (by rw[H4.out];omega)
   have e1:112≤cu:=by omega
   have e2:120≤cu:=by omega
   have e3:(120:Int)≤(cu:Int):=by omega
   have e4:¬cu=8:=by omega
   generalize hp:(x.drop 8).take (120-8)=part at *
   generalize lowMark x=m1 at *
   generalize highMark x=m2 at *
   have hsz:(Qcu ls i).length+part.length≤100000000000:=by omega
   have hbuf':=hbuf.drew
   have hst':=hst.drew
   obtain⟨pm,cm,rfl⟩:=hbuf.val
   rw[h128] at h1c
   by_cases hall:m1=s∧m2=s
   ·obtain⟨rfl,h2s⟩:=hall
    subst h2s
    have hok2:okTo ls m2 (i+1)=true:=by rw[hok];simp
    rw[hlb] at hbuf hbuf'
    have Hmk:=Lib.hid hmk
    have Hbuf':=Lib.hid hbuf'
    have Hst':=Lib.hid hst'
    obtain⟨Hsb,Hok2,Hbd,Hsz,Hlb,Hlen2,Hp⟩:=hid7 hsb hok2 hbd hsz hlb hlen2 hp
    clear hmk hbuf' hst' hsb hok2 hbd hsz hlb hlen2 hp hbuf hst hb1 hb hc hx h128 hok hgx
    rw[Hlb.out]
    go_wp2_with fail
    refine Hmk.out.mono ?_
    rintro e w' ⟨rfl,rfl⟩
    go_wp2_with (at_builtin;refine Qal Hst'.out Hbuf'.out Hsb.out Hsz.out rfl _ _ rfl rfl rfl ?_;intro v' w' τ' hb he hmo;obtain⟨Hb,He,Hmo⟩:=hid3 hb he hmo;clear hb he hmo)
    go_round
    case rel=>exact⟨i+1,τ',by omega,by simp,by rw[Hbd.out];exact Hb.out,He.out,Lib.hid Hok2.out⟩
    case measure=>simp[intOf];omega
   ·have hok2:okTo ls s (i+1)=false:=by
     rw[hok]
     by_cases h1:m1=s
     ·have h2:¬m2=s:=fun h=>hall ⟨h1,h⟩
      simp[h2]
     ·simp[h1]
    have hno:=Qq1 hok2 4 (by omega)
    have hno2:Qb3 ls=false:=by unfold Qb3;rw[Hs.out];exact hno
    have Hmk:=Lib.hid hmk
    have Hst':=Lib.hid hst'
    have Hno2:=Lib.hid hno2
    clear hmk hst' hno2 hbuf hbuf' hst hb1 hb hc hx h128 hok hgx hok2 hbd hsz hlb hlen2 hsb hno hp
    by_cases h1:m1=s
    ·have h2:¬m2=s:=fun h=>hall ⟨h1,h⟩
     subst h1
     have b1:((m2:Int) != (m1:Int))=true:=by rw[bne_iff_ne];omega
     clear hall h2
     go_wp2_with fail
     refine Hmk.out.mono ?_
     rintro e w' ⟨rfl,rfl⟩
     go_wp2_with fail
     go_returns
     exact⟨τr,Hst'.out,.inr ⟨Hno2.out,rfl⟩⟩
    ·have b1:((m1:Int) != (s:Int))=true:=by rw[bne_iff_ne];omega
     clear hall h1
     go_wp2_with fail
     refine Hmk.out.mono ?_
     rintro e w' ⟨rfl,rfl⟩
     go_wp2_with fail
     go_returns
     exact⟨τr,Hst'.out,.inr ⟨Hno2.out,rfl⟩⟩
  ·have hik:i=4:=by omega
   subst hik
   have hok:Qb3 ls=true:=by unfold Qb3;rw[Hs.out];exact HO.out
   obtain⟨Hbuf,Hst,Hok⟩:=hid3 hbuf hst hok
   clear hbuf hst hok
   go_wp2_with fail
   go_returns
   exact⟨τr,Hst.out,.inl ⟨Hok.out,_,by rw[Hs.out];rfl,Hbuf.out.bytes⟩⟩
def tRDev:Tag:=(40,0)
def tRRow (f:Nat):Tag:=(41,f)
def Qaz (f i:Nat):Tag:=(42,2*i+f)
def RDevTag (g:Tag):Prop:=g.1=40∨g.1=41∨g.1=42
structure RSecIn (w:World) (τ:Tags) (f i:Nat) (xs:List Value) (s:Sec):Prop where
 last:s.last.length=128∧∃v,xs[i*2]?=some v∧Bytes w τ tData v s.last
 waits:∃v,xs[i*2+1]?=some v∧Waits w τ (Qaz f i) v s.waits
def RFile (w:World) (τ:Tags) (f:Nat) (v:Value) (l:List Sec):Prop :=
 l.length≤4096∧∃xs,Buf w τ (tRRow f) 293 2 v l.length xs∧∀(i:Nat) (s:Sec),l[i]?=some s→RSecIn w τ f i xs s
structure RDevAs (w:World) (τ:Tags) (b:Nat) (D:Dev) (v0 v1:Value):Prop where
 is:∃(st:Bool) (n:Int),Own w τ b tRDev 291 [v0,v1,.bool st,.int .i64 n,.bool D.halted]∧RFile w τ 0 v0 D.f0∧RFile w τ 1 v1 D.f1 ∧
  ((st=false∧D.left=none)∨∃m:Nat,st=true∧n=(m:Int)∧D.left=some m∧m≤maxLen)
def RDevAt (w:World) (τ:Tags) (b:Nat) (D:Dev):Prop:=∃v0 v1,RDevAs w τ b D v0 v1
theorem RDevAs.at(h:RDevAs w τ b D v0 v1):RDevAt w τ b D:=⟨v0,v1,h⟩
theorem RSecIn.step {S:Tag→Prop} {i:Nat} {xs:List Value} {s:Sec}(h:RSecIn w τ f i xs s) (m:Step w τ w' τ' S) (hg:¬S (Qaz f i)) (hd:¬S tData):RSecIn w' τ' f i xs s:=by
 obtain⟨⟨a,v,hv,hb⟩,⟨u,hu,hw⟩⟩:=h
 exact⟨⟨a,v,hv,hb.step m hd⟩,⟨u,hu,hw.step m hg hd⟩⟩
theorem RFile.step {S:Tag→Prop} {l:List Sec}(h:RFile w τ f v l) (m:Step w τ w' τ' S) (hr:¬S (tRRow f)) (hg:∀i,¬S (Qaz f i)) (hd:¬S tData):RFile w' τ' f v l:=by
 obtain⟨h1,xs,hb,hs⟩:=h
 exact⟨h1,xs,hb.step m hr,fun i s hi=>(hs i s hi).step m (hg i) hd⟩
theorem RDevAs.step {S:Tag→Prop}(h:RDevAs w τ b D v0 v1) (m:Step w τ w' τ' S) (hs:∀g,S g→¬RDevTag g∧g≠tData):RDevAs w' τ' b D v0 v1:=by
 obtain⟨st,n,ho,h0,h1,hl⟩:=h.is
 have hx:∀g,RDevTag g→¬S g:=fun g hg hS=>(hs g hS).1 hg
 have hd:¬S tData:=fun hS=>(hs _ hS).2 rfl
 exact⟨st,n,ho.step m (hx _ (.inl rfl)),h0.step m (hx _ (.inr (.inl rfl))) (fun i=>hx _ (.inr (.inr rfl))) hd,h1.step m (hx _ (.inr (.inl rfl))) (fun i=>hx _ (.inr (.inr rfl))) hd,hl⟩
theorem RDevAt.step {S:Tag→Prop}(h:RDevAt w τ b D) (m:Step w τ w' τ' S) (hs:∀g,S g→¬RDevTag g∧g≠tData):RDevAt w' τ' b D:=by
 obtain⟨v0,v1,h⟩:=h
 exact⟨v0,v1,h.step m hs⟩
theorem RDevAs.file(h:RDevAs w τ b D v0 v1) (f:Nat) (hf:f<2) :
 w.cell? ⟨b,f,none⟩=some (fileV v0 v1 f)∧RFile w τ f (fileV v0 v1 f) (D.file f):=by
 obtain⟨st,n,ho,h0,h1,hl⟩:=h.is
 rcases (by omega:f=0∨f=1) with rfl|rfl
 ·exact⟨ho.at 0 rfl,h0⟩
 ·exact⟨ho.at 1 rfl,h1⟩
theorem RFile.len {l:List Sec}(h:RFile w τ f v l):∃p c,v = .slice p l.length c:=by
 obtain⟨_,xs,hb,_⟩:=h
 exact hb.len
theorem RFile.lenp {l:List Sec}(h:RFile w τ f v l) (h0:0<l.length):∃bf c xs ys,v = .slice (some ⟨bf,0,none⟩) l.length c∧l.length≤c∧Own w τ bf (tRRow f) 293 (xs++ys)∧xs.length=l.length*2∧∀(i:Nat) (s:Sec),l[i]?=some s→RSecIn w τ f i xs s:=by
 obtain⟨_,xs,⟨h1,⟨_,h2⟩|⟨bf,c,ys,hv,ho,h3,h4,h5⟩⟩,hs⟩:=h
 ·omega
 ·exact⟨bf,c,xs,ys,hv,h4,ho,h1,hs⟩
theorem Qo9(h:RDevAs w τ b D v0 v1) :
 Calls Tryz.prog 284 #[.pointer (some ⟨b,0,none⟩)] w fun e w'=>e = .returned (.bool (!D.go.1))∧RDevAs w' τ b D.go.2 v0 v1∧Step w τ w' τ (fun t=>t=tRDev):=by
 obtain⟨st,n,ho,h0,h1,hl⟩:=h.is
 have c2:=ho.at 2 (v:=.bool st) rfl
 have c3:=ho.at 3 (v:=.int .i64 n) rfl
 have c4:=ho.at 4 (v:=.bool D.halted) rfl
 have f3:=ho.fz 3
 have f4:=ho.fz 4
 rcases hl with ⟨rfl,hn⟩|⟨m,rfl,rfl,hn,hm⟩
 ·have e1:D.go=(true,D):=by simp[Dev.go,hn]
  rw[e1]
  have H_h:=Lib.hid h
  clear h e1 ho h0 h1 hn
  go_enter Tryz.func284,Tryz.ntmps284
  go_wp2
  go_ret
  exact⟨rfl,H_h.out,Step.refl _ _ _⟩
 ·cases m with
  | zero =>
    have e1:D.go=(false,{D with halted:=true}):=by simp[Dev.go,hn]
    rw[e1]
    have ms:Step w τ (w.setCell ⟨b,4,none⟩ (.bool true)) τ (fun t=>t=tRDev):=(Step.refl w τ (fun t=>t=tRDev)).set ho.tag rfl _
    have hd:RDevAs (w.setCell ⟨b,4,none⟩ (.bool true)) τ b {D with halted:=true} v0 v1 :=
     ⟨true,0,ho.set 4 _,h0.step ms (by simp[tRRow,tRDev]) (by simp[Qaz,tRDev]) (by decide),h1.step ms (by simp[tRRow,tRDev]) (by simp[Qaz,tRDev]) (by decide),.inr ⟨0,rfl,rfl,hn,hm⟩⟩
    obtain⟨Hd,H_ms⟩:=hid2 hd ms
    clear hd ms e1 ho h0 h1 hn h
    go_enter Tryz.func284,Tryz.ntmps284
    go_wp2
    go_ret
    exact⟨rfl,Hd.out,H_ms.out⟩
  | succ m =>
    have e1:D.go=(true,{D with left:=some m}):=by simp[Dev.go,hn]
    rw[e1]
    have ms:Step w τ (w.setCell ⟨b,3,none⟩ (.int .i64 (m:Int))) τ (fun t=>t=tRDev):=(Step.refl w τ (fun t=>t=tRDev)).set ho.tag rfl _
    have hd:RDevAs (w.setCell ⟨b,3,none⟩ (.int .i64 (m:Int))) τ b {D with left:=some m} v0 v1 :=
     ⟨true,m,ho.set 3 _,h0.step ms (by simp[tRRow,tRDev]) (by simp[Qaz,tRDev]) (by decide),h1.step ms (by simp[tRRow,tRDev]) (by simp[Qaz,tRDev]) (by decide),.inr ⟨m,rfl,rfl,rfl,by omega⟩⟩
    have hmx:m+1≤9223372036854775807:=by have:=hm;unfold maxLen at this;omega
    obtain⟨Hd,H_ms⟩:=hid2 hd ms
    clear hd ms e1 ho h0 h1 hn h
    go_enter Tryz.func284,Tryz.ntmps284
    go_wp2
    go_ret
    exact⟨rfl,Hd.out,H_ms.out⟩
theorem Qr7 {l:List Int}(h:Bytes w τ g v l) (g':Tag) (hbig:l.length≤100000000) :
 Calls Tryz.prog 283 #[v] w fun e w'=>∃u τ',e = .returned u∧Bytes w' τ' g' u l∧Step w τ w' τ' nil:=by
 obtain⟨p,c,rfl,hc1,hc2⟩:=h.any
 obtain⟨H_h,Hbig⟩:=hid2 h hbig
 clear h hbig
 go_enter Tryz.func283,Tryz.ntmps283
 go_wp2_with (at_builtin;refine Qal (Step.refl w τ nil) (NB.nil _ w τ g') H_h.out (by have:=Hbig.out;simp;omega) rfl _ _ rfl rfl rfl ?_;intro v' w' τ' hb hs1 hs2;obtain⟨Hb,Hs1⟩:=hid2 hb hs1;clear hb hs1)
 go_ret
 exact⟨_,τ',rfl,by have:=Hb.out.bytes;simpa using this,Hs1.out⟩
theorem Qks(h:RDevAs w τ b D v0 v1) (f:Nat) (hf:f<2) (k:Nat) (hk:k<(D.file f).length) :
 Calls Tryz.prog 282 #[.pointer (some ⟨b,0,none⟩),.int .u8 (f:Int),.int .i64 (k:Int)] w fun e w'=>e = .returned (.bool false)∧w=w':=by
 obtain⟨cf,hfile⟩:=h.file f hf
 obtain⟨p,c,hv⟩:=hfile.len
 rw[hv] at cf
 have a1:decide ((1:Int)<(f:Int))=false:=by simp;omega
 generalize (D.file f).length=n at *
 have a2:decide ((n:Int)≤(k:Int))=false:=by simp;omega
 clear h hfile hv
 go_enter Tryz.func282,Tryz.ntmps282
 go_wp2_with fail
 go_ret
 refine⟨?_,rfl⟩
 show Ending.returned (.bool (decide ((k:Int)<0) || decide (n≤k)))=_
 rw[decide_eq_false (show ¬(k:Int)<0 by omega),decide_eq_false (show ¬n≤k by omega)];rfl
theorem Jam(h:RDevAs w τ b D v0 v1) (f:Nat) (hf:f<2) :
 Calls Tryz.prog 175 #[.pointer (some ⟨b,0,none⟩),.int .u8 (f:Int)] w fun e w'=>e = .returned (.int .i64 ((D.file f).length:Int))∧w=w':=by
 obtain⟨cf,hfile⟩:=h.file f hf
 obtain⟨p,c,hv⟩:=hfile.len
 rw[hv] at cf
 have a1:decide ((1:Int)<(f:Int))=false:=by simp;omega
 generalize (D.file f).length=n at *
 clear h hfile hv
 go_enter Tryz.func175,Tryz.ntmps175
 go_wp2_with fail
 go_ret
 exact⟨rfl,rfl⟩
theorem Qxb(h:RDevAs w τ b D v0 v1) :
 Calls Tryz.prog 291 #[.pointer (some ⟨b,0,none⟩)] w fun e w'=>e = .returned (.bool D.halted)∧w=w':=by
 obtain⟨st,n,ho,-,-,-⟩:=h.is
 have c4:=ho.at 4 (v:=.bool D.halted) rfl
 clear h ho
 go_enter Tryz.func291,Tryz.ntmps291
 go_wp2_with fail
 go_ret
 exact⟨rfl,rfl⟩
theorem Tryz.infoRSector:(Tryz.prog.info? 293).map (fun i=>(i.zero,i.size,i.bytes))=some (some (.agg #[.slice none 0 0,.slice none 0 0]),2,48):=by kernel_rfl
theorem RSecIn.set {i j:Nat} {xs:List Value} {s:Sec}(h:RSecIn w τ f i xs s) (hj:j≠i*2) (hj1:j≠i*2+1) (v:Value):RSecIn w τ f i (xs.set j v) s:=by
 obtain⟨⟨a,v,hv,hb⟩,⟨u,hu,hw⟩⟩:=h
 exact⟨⟨a,v,by rw[List.getElem?_set_ne hj];exact hv,hb⟩,⟨u,by rw[List.getElem?_set_ne hj1];exact hu,hw⟩⟩
theorem Qo5 {t:TypeId} {xs:List Value}(h:Own w τ b g t xs) {o:Nat}{v:Value}(hv:xs[o]?=some v):w.setCell ⟨b,o,none⟩ v=w:=by
 have hx:xs.set o v=xs:=by
  obtain⟨ho,rfl⟩:=List.getElem?_eq_some_iff.1 hv
  exact List.set_getElem_self ho
 have hh:(w.setCell ⟨b,o,none⟩ v).heap=w.heap:=by
  apply Array.ext_getElem?
  intro i
  by_cases e:i=b
  ·subst e
   rw[(h.set o v).row,h.row,hx]
  ·exact Below.heap_setCell _ _ _ _ e
 cases w
 simp only[World.setCell] at hh ⊢
 rw[hh]
theorem RDevAs.lay {w2:World} {τ2:Tags}(h:RDevAs w τ b D v0 v1) (f:Nat) (hf:f<2) {k bf n c:Nat}(hk:k<(D.file f).length) (hv:fileV v0 v1 f = .slice (some ⟨bf,0,none⟩) n c)
 {S:Tag→Prop} (m:Step w τ w2 τ2 S) (hS:∀g,S g→g=Qaz f k) {v u:Value} {s':Sec} (hb:Bytes w2 τ2 tData v s'.last) (hl:s'.last.length=128) (hw:Waits w2 τ2 (Qaz f k) u s'.waits) :
 RDevAs ((w2.setCell ⟨bf,k*2,none⟩ v).setCell ⟨bf,k*2+1,none⟩ u) τ2 b (D.put f ((D.file f).set k s')) v0 v1∧Step w2 τ2 ((w2.setCell ⟨bf,k*2,none⟩ v).setCell ⟨bf,k*2+1,none⟩ u) τ2 (fun g=>g=tRRow f):=by
 obtain⟨cf,hfile⟩:=h.file f hf
 obtain⟨bf',c',xs,ys,hv',hcap,ho,hxl,hsec⟩:=hfile.lenp (by omega)
 rw[hv] at hv'
 simp only[Value.slice.injEq,Option.some.injEq,Addr.mk.injEq] at hv'
 obtain⟨⟨rfl,-,-⟩,rfl,rfl⟩:=hv'
 have hne:∀g:Tag,(∀i,g≠Qaz f i)→¬S g:=fun g hg hs=>hg k (hS g hs)
 have hrow:¬S (tRRow f):=hne _ (fun i=>by simp[tRRow,Qaz])
 have hdat:¬S tData:=hne _ (fun i=>by simp[tData,Qaz])
 have ho2:=ho.step m hrow
 have ms:Step w2 τ2 ((w2.setCell ⟨bf,k*2,none⟩ v).setCell ⟨bf,k*2+1,none⟩ u) τ2 (fun g=>g=tRRow f):=((Step.refl w2 τ2 (fun g=>g=tRRow f)).set ho2.tag rfl v).set (ho2.set (k*2) v).tag rfl u
 have ho3:=(ho2.set (k*2) v).set (k*2+1) u
 have hlx:k*2+1<xs.length:=by omega
 have hset:((xs++ys).set (k*2) v).set (k*2+1) u=(xs.set (k*2) v).set (k*2+1) u++ys:=by
  rw[List.set_append_left _ _ (by omega),List.set_append_left _ _ (by rw[List.length_set];omega)]
 rw[hset] at ho3
 have hnew:RFile ((w2.setCell ⟨bf,k*2,none⟩ v).setCell ⟨bf,k*2+1,none⟩ u) τ2 f (.slice (some ⟨bf,0,none⟩) (D.file f).length c) ((D.file f).set k s'):=by
  refine⟨by rw[List.length_set];exact hfile.1,(xs.set (k*2) v).set (k*2+1) u,⟨by simp only[List.length_set];exact hxl,.inr ⟨bf,c,ys,by rw[List.length_set],ho3,?_,by rw[List.length_set];exact hcap,?_⟩⟩,fun i s hi=>?_⟩
  ·obtain⟨_,xs',⟨h1,⟨h2,_⟩|⟨b'',c'',ys',hv2,ho',h3,h4,h5⟩⟩,_⟩:=hfile
   ·rw[hv] at h2;cases h2
   ·rw[hv] at hv2
    simp only[Value.slice.injEq,Option.some.injEq,Addr.mk.injEq] at hv2
    obtain⟨⟨rfl,-,-⟩,-,rfl⟩:=hv2
    have e:=ho.row.symm.trans ho'.row
    simp only[Option.some.injEq,Obj.cells.injEq,Array.mk.injEq] at e
    have:=congrArg List.length e.1
    simp only[List.length_append,List.length_set] at this ⊢
    omega
  ·obtain⟨_,xs',⟨h1,⟨h2,_⟩|⟨b'',c'',ys',hv2,ho',h3,h4,h5⟩⟩,_⟩:=hfile
   ·rw[hv] at h2;cases h2
   ·rw[hv] at hv2
    simp only[Value.slice.injEq,Option.some.injEq,Addr.mk.injEq] at hv2
    obtain⟨-,-,rfl⟩:=hv2
    exact h5
  ·by_cases e:k=i
   ·subst e
    rw[List.getElem?_set_self hk] at hi
    cases hi
    refine⟨⟨hl,v,?_,hb.step ms (by simp[tData,tRRow])⟩,⟨u,?_,hw.step ms (by simp[Qaz,tRRow]) (by simp[tData,tRRow])⟩⟩
    ·rw[List.getElem?_set_ne (by omega),List.getElem?_set_self (by omega)]
    ·rw[List.getElem?_set_self (by rw[List.length_set];omega)]
   ·rw[List.getElem?_set_ne e] at hi
    exact((((hsec i s hi).step m (fun hs=>by have:=hS _ hs;simp[Qaz] at this;omega) hdat).step ms (by simp[Qaz,tRRow]) (by simp[tData,tRRow])).set (by omega) (by omega) v).set (by omega) (by omega) u
 obtain⟨st,n,hod,h0,h1,hleft⟩:=h.is
 have hod2:=(hod.step m (hne _ (fun i=>by simp[tRDev,Qaz]))).step ms (by simp[tRDev,tRRow])
 refine⟨?_,ms⟩
 rw[←hv] at hnew
 rcases (by omega:f=0∨f=1) with rfl|rfl
 ·refine⟨st,n,hod2,hnew,?_,hleft⟩
  exact(h1.step m (hne _ (fun i=>by simp[tRRow,Qaz])) (fun i hs=>by have:=hS _ hs;simp[Qaz] at this;omega) hdat).step ms (by simp[tRRow]) (fun i=>by simp[Qaz,tRRow]) (by simp[tData,tRRow])
 ·refine⟨st,n,hod2,?_,hnew,hleft⟩
  exact(h0.step m (hne _ (fun i=>by simp[tRRow,Qaz])) (fun i hs=>by have:=hS _ hs;simp[Qaz] at this;omega) hdat).step ms (by simp[tRRow]) (fun i=>by simp[Qaz,tRRow]) (by simp[tData,tRRow])
theorem RDevAs.wait {w2:World} {τ2:Tags}(h:RDevAs w τ b D v0 v1) (f:Nat) (hf:f<2) {k bf n c:Nat}{s:Sec}(hk:(D.file f)[k]?=some s) (hv:fileV v0 v1 f = .slice (some ⟨bf,0,none⟩) n c)
 {S:Tag→Prop} (m:Step w τ w2 τ2 S) (hS:∀g,S g→g=Qaz f k) {u:Value} {ws:List (List Int)} (hw:Waits w2 τ2 (Qaz f k) u ws) :
 RDevAs (w2.setCell ⟨bf,k*2+1,none⟩ u) τ2 b (D.put f ((D.file f).set k ⟨s.last,ws⟩)) v0 v1∧Step w2 τ2 (w2.setCell ⟨bf,k*2+1,none⟩ u) τ2 (fun g=>g=tRRow f):=by
 have hkl:=(List.getElem?_eq_some_iff.1 hk).1
 obtain⟨cf,hfile⟩:=h.file f hf
 obtain⟨bf',c',xs,ys,hv',hcap,ho,hxl,hsec⟩:=hfile.lenp (by omega)
 rw[hv] at hv'
 simp only[Value.slice.injEq,Option.some.injEq,Addr.mk.injEq] at hv'
 obtain⟨⟨rfl,-,-⟩,rfl,rfl⟩:=hv'
 obtain⟨⟨a,v,hvv,hb⟩,-⟩:=hsec k s hk
 have hrow:¬S (tRRow f):=fun hs=>by have:=hS _ hs;simp[tRRow,Qaz] at this
 have hdat:¬S tData:=fun hs=>by have:=hS _ hs;simp[tData,Qaz] at this
 have hcell:w2.setCell ⟨bf,k*2,none⟩ v=w2:=by
  exact Qo5 (ho.step m hrow) (by rw[List.getElem?_append_left (by omega)];exact hvv)
 have:=h.lay f hf hkl hv m hS (s':=⟨s.last,ws⟩) (hb.step m hdat) a hw
 rw[hcell] at this
 exact this
theorem Qmc {u:Value} {l:List Sec} {x:List Int}(hown:RFile w τ f v l) (hb:Bytes w τ tData u x) (h128:x.length=128) (hsz:l.length<4096) {k:Nat}
 (hk:w.heap[k]?=some (.cells #[u,.slice none 0 0] 293 (0,0))) (ty:TypeId) :
 ∃v' w' τ',(Builtin.append_ #[288,288] ty #[v,.slice (some ⟨k,0,none⟩) 1 1]).run Tryz.prog w = .ok v' w'∧RFile w' τ' f v' (l++[⟨x,[]⟩])∧Step w τ w' τ' (fun t=>t=tRRow f):=by
 obtain⟨i0,hi,hz0,hz1,hz2⟩:=info_parts Tryz.infoRSector
 obtain⟨hl,xs,hbuf,hxs⟩:=hown
 obtain⟨p,c,rfl,_⟩:=hb.any
 obtain⟨v',w',τ',hr,hb',he,hm,hnw⟩:=Qap (P:=Tryz.prog) w τ (tRRow f) 288 ty 293 i0 (.agg #[.slice none 0 0,.slice none 0 0]) 2 48 Tryz.underlying288 hi hz0 hz1 hz2 rfl (by decide) v l.length xs hbuf
  (some ⟨k,0,none⟩) 1 1 [.slice p x.length c,.slice none 0 0] rfl (fun h=>by cases h) (by
    intro ad had;cases had;exact World.news_of_block (cs:=#[.slice p x.length c,.slice none 0 0]) (t := 293) (fr:=(0,0)) hk) (by simp[Value.oneCell']) (by unfold maxLen;omega) (by omega)
 have hmd:Step w τ w' τ' (fun t=>t=tRRow f):=⟨hm.mono (fun k hk hS=>(hbuf.own k hS).1),he⟩
 have hxl:xs.length=l.length*2:=hbuf.1
 refine⟨v',w',τ',hr,⟨by simp;omega,xs++[.slice p x.length c,.slice none 0 0],by rw[List.length_append];exact hb',fun i s hi=>?_⟩,hmd⟩
 by_cases hlt:i<l.length
 ·rw[List.getElem?_append_left hlt] at hi
  obtain⟨⟨a,v,hv,hbv⟩,⟨q,hq,hwq⟩⟩:=(hxs i s hi).step hmd (by simp[Qaz,tRRow]) (by simp[tData,tRRow])
  exact⟨⟨a,v,by rw[List.getElem?_append_left (by omega)];exact hv,hbv⟩,⟨q,by rw[List.getElem?_append_left (by omega)];exact hq,hwq⟩⟩
 ·have hi0:i=l.length:=by
   have:=(List.getElem?_eq_some_iff.1 hi).1
   simp at this;omega
  subst hi0
  rw[List.getElem?_append_right (Nat.le_refl _),Nat.sub_self] at hi
  cases hi
  refine⟨⟨h128,_,?_,hb.step hmd (by simp[tData,tRRow])⟩,⟨_,?_,.inl ⟨rfl,rfl⟩⟩⟩
  ·rw[List.getElem?_append_right (by omega),hxl,Nat.sub_self];rfl
  ·rw[List.getElem?_append_right (by omega),hxl,show l.length*2+1-l.length*2=1 by omega];rfl
theorem RDevAs.grow {w2:World} {τ2:Tags}(h:RDevAs w τ b D v0 v1) (f:Nat) (hf:f<2) {S:Tag→Prop}(m:Step w τ w2 τ2 S) (hS:∀g,S g→g=tRRow f) {u:Value}{l:List Sec}(hl:RFile w2 τ2 f u l) :
 RDevAs (w2.setCell ⟨b,f,none⟩ u) τ2 b (D.put f l) (if f=0 then u else v0) (if f=0 then v1 else u)∧Step w2 τ2 (w2.setCell ⟨b,f,none⟩ u) τ2 (fun g=>g=tRDev):=by
 obtain⟨st,n,ho,h0,h1,hleft⟩:=h.is
 have hne:∀g:Tag,g≠tRRow f→¬S g:=fun g hg hs=>hg (hS g hs)
 have ho2:=ho.step m (hne _ (by simp[tRDev,tRRow]))
 have ms:Step w2 τ2 (w2.setCell ⟨b,f,none⟩ u) τ2 (fun g=>g=tRDev):=(Step.refl w2 τ2 (fun g=>g=tRDev)).set ho2.tag rfl u
 refine⟨?_,ms⟩
 have hl':=hl.step ms (by simp[tRRow,tRDev]) (fun i=>by simp[Qaz,tRDev]) (by simp[tData,tRDev])
 rcases (by omega:f=0∨f=1) with rfl|rfl
 ·refine⟨st,n,ho2.set 0 u,hl',?_,hleft⟩
  exact(h1.step m (hne _ (by simp[tRRow])) (fun i=>hne _ (by simp[Qaz,tRRow])) (hne _ (by simp[tData,tRRow]))).step ms (by simp[tRRow,tRDev]) (fun i=>by simp[Qaz,tRDev]) (by simp[tData,tRDev])
 ·refine⟨st,n,ho2.set 1 u,?_,hl',hleft⟩
  exact(h0.step m (hne _ (by simp[tRRow])) (fun i=>hne _ (by simp[Qaz,tRRow])) (hne _ (by simp[tData,tRRow]))).step ms (by simp[tRRow,tRDev]) (fun i=>by simp[Qaz,tRDev]) (by simp[tData,tRDev])
end Go.Proofs.YtemacanaihaldaaGreat