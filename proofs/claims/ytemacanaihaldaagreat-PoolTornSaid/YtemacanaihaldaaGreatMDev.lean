/-
 The device in plain Lean,and how it lies in memory.
-/
import Derived.Test.YtemacanaihaldaaGreatMem
import Derived.WalkSpells
set_option linter.all false
namespace Go.Proofs.YtemacanaihaldaaGreat
variable {b f n:Nat}{g:Tag}{v v0 v1:Value}{w w':World}{τ τ':Tags}
open Go.RowKit
structure Sec where
 last:List Int
 waits:List (List Int)
structure Dev where
 f0:List Sec
 f1:List Sec
 left:Option Nat
 halted:Bool
def Sec.newest (s:Sec):List Int:=s.waits.getLastD s.last
def Dev.file (D:Dev) (f:Nat):List Sec:=if f=0 then D.f0 else if f=1 then D.f1 else []
def Dev.put (D:Dev) (f:Nat) (l:List Sec):Dev:=if f=0 then {D with f0:=l} else if f=1 then {D with f1:=l} else D
def Dev.go (D:Dev):Bool×Dev :=
 match D.left with
 | none=>(true,D)
 | some 0=>(false,{D with halted:=true})
 | some (n+1)=>(true,{D with left:=some n})
def tDev:Tag:=(2,0)
def tRow (f:Nat):Tag:=(3,f)
def tLeft:Tag:=(4,0)
def tWait (f i:Nat):Tag:=(5,2*i+f)
def DevTag (g:Tag):Prop:=g.1=2∨g.1=3∨g.1=4∨g.1=5
def Waits (w:World) (τ:Tags) (g:Tag) (v:Value) (l:List (List Int)):Prop :=
 (v = .slice none 0 0∧l=[]) ∨
 ∃b cap xs ys,v = .slice (some ⟨b,0,none⟩) l.length cap∧Own w τ b g 37 (xs++ys)∧xs.length=l.length∧(l.length≤cap∧cap≤xs.length+ys.length)∧cap≤maxLen ∧
   ∀(k:Nat) (x:List Int),l[k]?=some x→x.length=128∧∃u,xs[k]?=some u∧Bytes w τ tData u x
structure SecIn (w:World) (τ:Tags) (f i:Nat) (xs:List Value) (s:Sec):Prop where
 last:s.last.length=128∧∃v,xs[i*2]?=some v∧Bytes w τ tData v s.last
 waits:∃v,xs[i*2+1]?=some v∧Waits w τ (tWait f i) v s.waits
def File (w:World) (τ:Tags) (f:Nat) (v:Value) (l:List Sec):Prop :=
 ∃p cap,v = .slice p l.length cap∧l.length≤cap∧l.length≤4096∧(0<l.length→∃b xs,p=some ⟨b,0,none⟩∧Own w τ b (tRow f) 113 xs∧∀(i:Nat) (s:Sec),l[i]?=some s→SecIn w τ f i xs s)
structure DevAt (w:World) (τ:Tags) (b:Nat) (D:Dev):Prop where
 is:∃v0 v1 pl,Own w τ b tDev 107 [v0,v1,pl,.bool D.halted]∧File w τ 0 v0 D.f0∧File w τ 1 v1 D.f1 ∧
  ((pl = .pointer none∧D.left=none)∨∃bl n,pl = .pointer (some ⟨bl,0,none⟩)∧D.left=some n∧n≤maxLen∧Own w τ bl tLeft 3 [.int .i64 (n:Int)])
theorem Waits.mod {l:List (List Int)}(h:Waits w τ g v l) {S:Nat→Prop}(m:Mod w w' S) (e:Ext w τ τ')
 (hg:∀k,k<w.heap.size→τ k=g→¬S k) (hd:∀k,k<w.heap.size→τ k=tData→¬S k):Waits w' τ' g v l:=by
 rcases h with h|⟨b,cap,xs,ys,hv,ho,h1,h2,h3,hk⟩
 ·exact .inl h
 ·refine .inr ⟨b,cap,xs,ys,hv,ho.mod m e (hg b ho.lt ho.tag),h1,h2,h3,fun k x hx=>?_⟩
  obtain⟨a,u,hu,hb⟩:=hk k x hx
  exact⟨a,u,hu,hb.mod m e hd⟩
theorem SecIn.mod {i:Nat} {xs:List Value} {s:Sec}(h:SecIn w τ f i xs s) {S:Nat→Prop}(m:Mod w w' S) (e:Ext w τ τ')
 (hg:∀k,k<w.heap.size→τ k=tWait f i→¬S k) (hd:∀k,k<w.heap.size→τ k=tData→¬S k):SecIn w' τ' f i xs s:=by
 obtain⟨⟨a,v,hv,hb⟩,⟨u,hu,hw⟩⟩:=h
 exact⟨⟨a,v,hv,hb.mod m e hd⟩,⟨u,hu,hw.mod m e hg hd⟩⟩
theorem File.mod {l:List Sec}(h:File w τ f v l) {S:Nat→Prop}(m:Mod w w' S) (e:Ext w τ τ')
 (hr:∀k,k<w.heap.size→τ k=tRow f→¬S k) (hg:∀i k,k<w.heap.size→τ k=tWait f i→¬S k) (hd:∀k,k<w.heap.size→τ k=tData→¬S k):File w' τ' f v l:=by
 obtain⟨p,cap,hv,h1,h2,hp⟩:=h
 refine⟨p,cap,hv,h1,h2,fun hl=>?_⟩
 obtain⟨b,xs,hb,ho,hs⟩:=hp hl
 exact⟨b,xs,hb,ho.mod m e (hr b ho.lt ho.tag),fun i s hi=>(hs i s hi).mod m e (hg i) hd⟩
theorem DevAt.mod {D:Dev}(h:DevAt w τ b D) {S:Nat→Prop}(m:Mod w w' S) (e:Ext w τ τ')
 (hs:∀k,k<w.heap.size→S k→¬DevTag (τ k)∧τ k≠tData):DevAt w' τ' b D:=by
 obtain⟨v0,v1,pl,ho,h0,h1,hl⟩:=h.is
 have hd:∀k,k<w.heap.size→τ k=tData→¬S k:=fun k hk ht hS=>(hs k hk hS).2 ht
 have hx:∀g,DevTag g→∀k,k<w.heap.size→τ k=g→¬S k:=fun g hg k hk ht hS=>(hs k hk hS).1 (ht▸hg)
 refine⟨v0,v1,pl,ho.mod m e (hx tDev (by simp[DevTag,tDev]) _ ho.lt ho.tag),h0.mod m e (hx _ (by simp[DevTag,tRow])) (fun i=>hx _ (by simp[DevTag,tWait])) hd,
  h1.mod m e (hx _ (by simp[DevTag,tRow])) (fun i=>hx _ (by simp[DevTag,tWait])) hd,?_⟩
 rcases hl with hl|⟨bl,n,hp,hn,hm,hol⟩
 ·exact .inl hl
 ·exact .inr ⟨bl,n,hp,hn,hm,hol.mod m e (hx _ (by simp[DevTag,tLeft]) _ hol.lt hol.tag)⟩
structure DevAs (w:World) (τ:Tags) (b:Nat) (D:Dev) (v0 v1:Value):Prop where
 is:∃pl,Own w τ b tDev 107 [v0,v1,pl,.bool D.halted]∧File w τ 0 v0 D.f0∧File w τ 1 v1 D.f1 ∧
  ((pl = .pointer none∧D.left=none)∨∃bl n,pl = .pointer (some ⟨bl,0,none⟩)∧D.left=some n∧n≤maxLen∧Own w τ bl tLeft 3 [.int .i64 (n:Int)])
theorem DevAs.at {D:Dev}(h:DevAs w τ b D v0 v1):DevAt w τ b D:=by
 obtain⟨pl,h⟩:=h.is
 exact⟨v0,v1,pl,h⟩
theorem DevAt.as {D:Dev}(h:DevAt w τ b D):∃v0 v1,DevAs w τ b D v0 v1:=by
 obtain⟨v0,v1,pl,h⟩:=h.is
 exact⟨v0,v1,pl,h⟩
def fileV (v0 v1:Value) (f:Nat):Value:=if f=0 then v0 else if f=1 then v1 else .slice none 0 0
theorem DevAs.file {D:Dev}(h:DevAs w τ b D v0 v1) (f:Nat):File w τ f (fileV v0 v1 f) (D.file f):=by
 obtain⟨pl,_,h0,h1,_⟩:=h.is
 unfold fileV Dev.file
 by_cases e0:f=0
 ·subst e0;simpa using h0
 by_cases e1:f=1
 ·subst e1;simpa using h1
 ·simp only[e0,e1,if_false]
  exact⟨none,0,rfl,Nat.le_refl _,by simp,fun hx=>by simp at hx⟩
def Ql2 (f:Nat) (g:Tag):Prop:=g=tRow f∨∃i,g=tWait f i
theorem DevAs.put {D:Dev}(h:DevAs w τ b D v0 v1) (f:Nat) (hf:f<2) {S:Nat→Prop}(m:Mod w w' S) (e:Ext w τ τ')
 (hs:∀k,k<w.heap.size→S k→Ql2 f (τ k)) (l:List Sec) (hl:File w' τ' f (fileV v0 v1 f) l):DevAs w' τ' b (D.put f l) v0 v1:=by
 obtain⟨pl,ho,h0,h1,hp⟩:=h.is
 have hx:∀g,¬Ql2 f g→∀k,k<w.heap.size→τ k=g→¬S k:=fun g hg k hk ht hS=>hg (ht▸hs k hk hS)
 have hd:¬Ql2 f tData:=by rintro(h|⟨i,h⟩) <;> simp[tData,tRow,tWait] at h
 have ho':=ho.mod m e (hx tDev (by rintro(h|⟨i,h⟩) <;> simp[tDev,tRow,tWait] at h) _ ho.lt ho.tag)
 have hp':(pl = .pointer none∧D.left=none)∨∃bl n,pl = .pointer (some ⟨bl,0,none⟩)∧D.left=some n∧n≤maxLen∧Own w' τ' bl tLeft 3 [.int .i64 (n:Int)]:=by
  rcases hp with hp|⟨bl,n,hp,hn,hm,hol⟩
  ·exact .inl hp
  ·exact .inr ⟨bl,n,hp,hn,hm,hol.mod m e (hx _ (by rintro(h|⟨i,h⟩) <;> simp[tLeft,tRow,tWait] at h) _ hol.lt hol.tag)⟩
 by_cases e0:f=0
 ·subst e0
  refine⟨pl,by simpa [Dev.put] using ho',by simpa [Dev.put,fileV] using hl,?_,by simpa [Dev.put] using hp'⟩
  have:=h1.mod m e (hx _ (by rintro(h|⟨i,h⟩) <;> simp[tRow,tWait] at h)) (fun i=>hx _ (by rintro(h|⟨j,h⟩) <;> simp[tRow,tWait] at h;omega)) (hx _ hd)
  simpa [Dev.put] using this
 ·have e1:f=1:=by omega
  subst e1
  refine⟨pl,by simpa [Dev.put] using ho',?_,by simpa [Dev.put,fileV] using hl,by simpa [Dev.put] using hp'⟩
  have:=h0.mod m e (hx _ (by rintro(h|⟨i,h⟩) <;> simp[tRow,tWait] at h)) (fun i=>hx _ (by rintro(h|⟨j,h⟩) <;> simp[tRow,tWait] at h;omega)) (hx _ hd)
  simpa [Dev.put] using this
def Buf (w:World) (τ:Tags) (g:Tag) (e:TypeId) (size:Nat) (v:Value) (n:Nat) (xs:List Value):Prop :=
 xs.length=n*size∧((v = .slice none 0 0∧n=0) ∨
  ∃b cap ys,v = .slice (some ⟨b,0,none⟩) n cap∧Own w τ b g e (xs++ys)∧cap*size≤xs.length+ys.length∧n≤cap∧cap≤maxLen)
theorem Buf.nil (w:World) (τ:Tags) (g:Tag) (e:TypeId) (size:Nat):Buf w τ g e size (.slice none 0 0) 0 []:=⟨by simp,.inl ⟨rfl,rfl⟩⟩
theorem Buf.mod {e:TypeId} {size:Nat} {xs:List Value}(h:Buf w τ g e size v n xs) {S:Nat→Prop}(m:Mod w w' S) (x:Ext w τ τ')
 (hs:∀k,k<w.heap.size→τ k=g→¬S k):Buf w' τ' g e size v n xs:=by
 obtain⟨h1,h2|⟨b,cap,ys,hv,ho,h3,h4,h5⟩⟩:=h
 ·exact⟨h1,.inl h2⟩
 ·exact⟨h1,.inr ⟨b,cap,ys,hv,ho.mod m x (hs b ho.lt ho.tag),h3,h4,h5⟩⟩
theorem Qid (b j:Nat):(⟨b,0,none⟩:Addr).add j=⟨b,j,none⟩:=by unfold Addr.add;split <;> simp_all
theorem Qap {P:Program}(w:World) (τ:Tags) (g:Tag) (t ty e:TypeId) (i:TypeInfo) (z:Value) (size bytes:Nat) (ht:P.underlying t=some (.slice e)) (hi:P.info? e=some i) (hz:i.zero=some z)
 (hsize:i.size=size) (hby:i.bytes=bytes) (hzs:z.cells.size=size) (hsz:0<size)
 (v:Value) (n:Nat) (xs:List Value) (hown:Buf w τ g e size v n xs)
 (ao:Option Addr) (m c:Nat) (news:List Value) (hl:news.length=m*size) (hnone:ao=none→m=0∧c=0) (hnews:∀a,ao=some a→∀j u,news[j]?=some u→w.cell? (a.add j)=some u) (h1:∀u∈news,u.oneCell'=true)
 (h63:n+m≤maxLen) (hbytes:(n+m)*bytes≤140737488355328) :
 ∃v' w' τ',(Builtin.append_ #[t,t] ty #[v,.slice ao m c]).run P w = .ok v' w'∧Buf w' τ' g e size v' (n+m) (xs++news)∧Ext w τ τ'∧Mod w w' (fun k=>v.ownBlock=some k)∧(∀k,v'.ownBlock=some k→v.ownBlock=some k∨w.heap.size≤k):=by
 have hsmall:n+m≤9223372036854775807:=by simp only[maxLen] at h63;omega
 have hlen:(xs++news).length=(n+m)*size:=by rw[List.length_append,hown.1,hl,Nat.add_mul]
 subst hsize
 subst hby
 cases ao with
 | none =>
   obtain⟨rfl,rfl⟩:=hnone rfl
   have hn:news=[]:=List.eq_nil_of_length_eq_zero (by simpa using hl)
   subst hn
   have hr:(Builtin.append_ #[t,t] ty #[v,.slice none 0 0]).run P w = .ok v w:=by
    rcases hown.2 with ⟨rfl,rfl⟩|⟨b,cap,ys,rfl,ho,h3,h4,h5⟩
    ·simp[Builtin.append_,run_underlying ht,sizeOf,typeInfo,hi,Builtin.lenOf,Builtin.firstCells]
    ·simp[Builtin.append_,run_underlying ht,sizeOf,typeInfo,hi,Builtin.lenOf,Builtin.firstCells,h4,storeCells]
   exact⟨v,w,τ,hr,by simpa using hown,Ext.refl _ _,Mod.refl _ _,fun k h=>.inl h⟩
 | some a =>
   have hnews:=hnews a rfl
   rcases hown.2 with ⟨rfl,rfl⟩|⟨b,cap,ys,rfl,ho,h3,h4,h5⟩
   ·have hx:xs=[]:=List.eq_nil_of_length_eq_zero (by simpa using hown.1)
    subst hx
    by_cases hm:m=0
    ·subst hm
     have hn:news=[]:=List.eq_nil_of_length_eq_zero (by simpa using hl)
     subst hn
     refine⟨.slice none 0 0,w,τ,?_,Buf.nil _ _ _ _ _,Ext.refl _ _,Mod.refl _ _,fun k h=>.inl h⟩
     simp[Builtin.append_,run_underlying ht,sizeOf,typeInfo,hi,Builtin.lenOf,Builtin.firstCells,loadCells,loadCellsFrom]
    ·have hr:=run_append_nil (P:=P) w t ty e i z ht hi hz a m c news hl hnews (by omega) (by omega) (by have hb:=hbytes;simp only[Nat.zero_add] at hb;omega)
     have hge:=grownCap_ge w m 0 e
     have hcm:grownCap w m 0 e≤maxLen:=grownCap_le_maxLen w m 0 e (by omega)
     refine⟨_,_,τ.put w.heap.size g,hr,⟨by simpa using hlen,.inr ⟨w.heap.size,_,(Builtin.zeroCells z.cells (grownCap w m 0 e-m)).toList,by simp,?_,?_,by omega,hcm⟩⟩,(Ext.refl _ _).put _ _ (Nat.le_refl _),((Mod.refl _ _).drew).alloc _,fun k h=>.inr (by simp[Value.ownBlock] at h;omega)⟩
     ·have hw:=Own.new w.drew τ g e (news++(Builtin.zeroCells z.cells (grownCap w m 0 e-m)).toList)
      have he:(news.toArray++Builtin.zeroCells z.cells (grownCap w m 0 e-m))=(⟨news++(Builtin.zeroCells z.cells (grownCap w m 0 e-m)).toList⟩:Array Value):=by apply Array.toList_inj.1;simp
      rw[he]
      simpa using hw
     ·refine Nat.le_of_eq (Eq.symm ?_)
      simp only[List.nil_append,hl,Array.length_toList,size_zeroCells,hzs,←Nat.add_mul]
      congr 1;omega
   ·by_cases hroom:n+m≤cap
    ·have hfit:n*i.size+news.length≤(xs++ys).toArray.size:=by
      simp only[List.size_toArray,List.length_append,hl,←Nat.add_mul];exact Nat.le_trans (Nat.mul_le_mul_right _ hroom) h3
     have hr:=run_append_room (P:=P) w t ty e i ht hi b n cap (xs++ys).toArray ho.row a m c news hl hnews h1 hroom hfit
     have hrow:((xs++ys).toArray.toList.take (n*i.size)++news++(xs++ys).toArray.toList.drop (n*i.size+news.length))=xs++news++ys.drop news.length:=by
      rw[←hown.1]
      simp
     rw[hrow] at hr
     refine⟨_,_,τ,hr,⟨hlen,.inr ⟨b,cap,ys.drop news.length,rfl,⟨setRow_heap w b _ _ e _ ho.row,ho.tag⟩,?_,hroom,h5⟩⟩,Ext.refl _ _,⟨rfl,rfl,rfl,by simp,fun k _ hk=>setRow_other w b k _ (fun q=>hk (by simp[Value.ownBlock,q]))⟩,fun k h=>.inl (by simpa [Value.ownBlock] using h)⟩
     have h6:news.length≤ys.length:=by
      have h7:(n+m)*i.size≤cap*i.size:=Nat.mul_le_mul_right _ hroom
      rw[Nat.add_mul,←hown.1,←hl] at h7;omega
     rw[List.length_append,List.length_drop];omega
    ·have holds:∀j u,xs[j]?=some u→w.cell? ((⟨b,0,none⟩:Addr).add j)=some u:=by
      intro j u hu
      rw[Qid]
      refine ho.at j ?_
      rw[List.getElem?_append_left (List.getElem?_eq_some_iff.1 hu).1];exact hu
     have hr:=run_append_grow (P:=P) w t ty e i z ht hi hz ⟨b,0,none⟩ n cap xs hown.1 holds a m c news hl hnews (by omega) (by omega) (growslice_fits (by omega) hbytes)
     have hge:=grownCap_ge w (n+m) cap e
     have hcm:grownCap w (n+m) cap e≤maxLen:=grownCap_le_maxLen w (n+m) cap e h63
     refine⟨_,_,τ.put w.heap.size g,hr,⟨hlen,.inr ⟨w.heap.size,_,(Builtin.zeroCells z.cells (grownCap w (n+m) cap e-(n+m))).toList,rfl,?_,?_,hge,hcm⟩⟩,(Ext.refl _ _).put _ _ (Nat.le_refl _),((Mod.refl _ _).drew).alloc _,fun k h=>.inr (by simp[Value.ownBlock] at h;omega)⟩
     ·have hw:=Own.new w.drew τ g e (xs++news++(Builtin.zeroCells z.cells (grownCap w (n+m) cap e-(n+m))).toList)
      have he:(xs.toArray++news.toArray++Builtin.zeroCells z.cells (grownCap w (n+m) cap e-(n+m)))=(⟨xs++news++(Builtin.zeroCells z.cells (grownCap w (n+m) cap e-(n+m))).toList⟩:Array Value):=by apply Array.toList_inj.1;simp
      rw[he]
      simpa using hw
     ·refine Nat.le_of_eq (Eq.symm ?_)
      simp only[hlen,Array.length_toList,size_zeroCells,hzs,←Nat.add_mul]
      congr 1;omega
theorem Qe0 {P:Program}(w:World) (τ:Tags) (g:Tag) {ops:Array Oper}{rest:List Oper}{o:Oper}{a:Act}{Q:Exit→Act→World→Prop}(hgd:o.guard=none) (s x:Operand) (t:TypeId)
 (ho:o.op = .call {callee:=.builtin .append,args:=#[s,x],argTypes:=#[t,t]})
 (e:TypeId) (i:TypeInfo) (z:Value) (size bytes:Nat) (ht:P.underlying t=some (.slice e)) (hi:P.info? e=some i) (hz:i.zero=some z)
 (hsize:i.size=size) (hby:i.bytes=bytes) (hzs:z.cells.size=size) (hsz:0<size)
 (v:Value) (n:Nat) (xs:List Value) (hs:a.eval s=v) (hown:Buf w τ g e size v n xs)
 (ao:Option Addr) (m c:Nat) (news:List Value) (hx:a.eval x = .slice ao m c) (hl:news.length=m*size) (hnone:ao=none→m=0∧c=0) (hnews:∀ad,ao=some ad→∀j u,news[j]?=some u→w.cell? (ad.add j)=some u) (h1:∀u∈news,u.oneCell'=true)
 (h63:n+m≤maxLen) (hbytes:(n+m)*bytes≤140737488355328)
 (h:∀v' w' τ',Buf w' τ' g e size v' (n+m) (xs++news)→Ext w τ τ'→Mod w w' (fun k=>v.ownBlock=some k)→(∀k,v'.ownBlock=some k→v.ownBlock=some k∨w.heap.size≤k)→wpList P ops Q rest (a.put o.dst v') w'):wpList P ops Q (o::rest) a w:=by
 refine wpList_plain hgd fun K hK=>?_
 obtain⟨v',w',τ',hr,h2,h3,h4,h5⟩:=Qap (P:=P) w τ g t o.type e i z size bytes ht hi hz hsize hby hzs hsz v n xs hown ao m c news hl hnone hnews h1 h63 hbytes
 unfold Oper.wp execOp
 simp only[ho,resolve,invoke,builtin,Sem.run_bind,Sem.run_pure,Result.andThen_ok,List.map_toArray,List.map_cons,List.map_nil,hs,hx,hr]
 exact hK _ _ (h v' w' τ' h2 h3 h4 h5)
theorem Qkl {P:Program}(w:World) (τ:Tags) (g:Tag) {ops:Array Oper}{o:Oper}{a:Act}{K:Act→World→Prop}{Q:Exit→Act→World→Prop}{E:Prop}(hgd:o.guard=none) (s x:Operand) (t:TypeId)
 (ho:o.op = .call {callee:=.builtin .append,args:=#[s,x],argTypes:=#[t,t]})
 (e:TypeId) (i:TypeInfo) (z:Value) (size bytes:Nat) (ht:P.underlying t=some (.slice e)) (hi:P.info? e=some i) (hz:i.zero=some z)
 (hsize:i.size=size) (hby:i.bytes=bytes) (hzs:z.cells.size=size) (hsz:0<size)
 (v:Value) (n:Nat) (xs:List Value) (hs:a.eval s=v) (hown:Buf w τ g e size v n xs)
 (ao:Option Addr) (m c:Nat) (news:List Value) (hx:a.eval x = .slice ao m c) (hl:news.length=m*size) (hnone:ao=none→m=0∧c=0) (hnews:∀ad,ao=some ad→∀j u,news[j]?=some u→w.cell? (ad.add j)=some u) (h1:∀u∈news,u.oneCell'=true)
 (h63:n+m≤maxLen) (hbytes:(n+m)*bytes≤140737488355328)
 (h:∀v' w' τ',Buf w' τ' g e size v' (n+m) (xs++news)→Ext w τ τ'→Mod w w' (fun k=>v.ownBlock=some k)→(∀k,v'.ownBlock=some k→v.ownBlock=some k∨w.heap.size≤k)→K (a.put o.dst v') w') :
 if Region.wanted o (yielded ops a.tmps)=true then Oper.wp P o a w K Q else E:=by
 have hw:Region.wanted o (yielded ops a.tmps)=true:=by simp[Region.wanted,hgd]
 rw[if_pos hw]
 obtain⟨v',w',τ',hr,h2,h3,h4,h5⟩:=Qap (P:=P) w τ g t o.type e i z size bytes ht hi hz hsize hby hzs hsz v n xs hown ao m c news hl hnone hnews h1 h63 hbytes
 unfold Oper.wp execOp
 simp only[ho,resolve,invoke,builtin,Sem.run_bind,Sem.run_pure,Result.andThen_ok,List.map_toArray,List.map_cons,List.map_nil,hs,hx,hr]
 exact h v' w' τ' h2 h3 h4 h5
theorem Qoe {D:Dev}(h:DevAt w τ b D) (f:Nat) (hf:f<256) :
 ∃v,(Calls Tryz.prog 126 #[.pointer (some ⟨b,0,none⟩),.int .u8 (f:Int)] w fun e w'=>e = .returned v∧w=w')∧File w τ f v (D.file f):=by
 obtain⟨v0,v1,pl,ho,h0,h1,hl⟩:=h.is
 have c0:=ho.at 0 (v:=v0) rfl
 have c1:=ho.at 1 (v:=v1) rfl
 by_cases e0:f=0
 ·subst e0
  refine⟨v0,?_,h0⟩
  clear h0 h1 hl ho
  show Calls Tryz.prog 126 #[.pointer (some ⟨b,0,none⟩),.int .u8 0] w _
  go_enter Tryz.func126,Tryz.ntmps126
  go_wp2
  go_ret
  exact⟨rfl,rfl⟩
 by_cases e1:f=1
 ·subst e1
  refine⟨v1,?_,h1⟩
  clear h0 h1 hl ho
  show Calls Tryz.prog 126 #[.pointer (some ⟨b,0,none⟩),.int .u8 1] w _
  go_enter Tryz.func126,Tryz.ntmps126
  go_wp2
  go_ret
  exact⟨rfl,rfl⟩
 ·have hD:D.file f=[]:=by simp[Dev.file,e0,e1]
  rw[hD]
  refine⟨.slice none 0 0,?_,none,0,rfl,Nat.le_refl _,by simp,fun hx=>by simp at hx⟩
  have hge:decide ((2:Int)≤(f:Int))=true:=by simp;omega
  clear h0 h1 hl ho hD e0 e1
  go_enter Tryz.func126,Tryz.ntmps126
  go_wp2
  go_ret
  exact⟨rfl,rfl⟩
def Ja8 (w:World) (τ:Tags) (f:Nat) (l:List Sec) (i:Int) (v:Value):Prop :=
 ((i<0∨(l.length:Int)≤i)∧v = .pointer none) ∨
 ∃(k bf:Nat) (xs:List Value) (s:Sec),i=(k:Int)∧l[k]?=some s∧v = .pointer (some ⟨bf,k*2,none⟩)∧Own w τ bf (tRow f) 113 xs∧(∀j t,l[j]?=some t→SecIn w τ f j xs t)
theorem Ja2 {D:Dev}(h:DevAt w τ b D) (f:Nat) (hf:f<256) (i:Int) :
 ∃v,(Calls Tryz.prog 120 #[.pointer (some ⟨b,0,none⟩),.int .u8 (f:Int),.int .i64 i] w fun e w'=>e = .returned v∧w=w')∧Ja8 w τ f (D.file f) i v:=by
 obtain⟨v,hc,p,cap,rfl,h1,h2,hp⟩:=Qoe h f hf
 have HC:=Lib.hid hc
 clear hc h
 by_cases hin:0≤i∧i<((D.file f).length:Int)
 ·obtain⟨k,rfl⟩:=Int.eq_ofNat_of_zero_le hin.1
  have hk:k<(D.file f).length:=by omega
  obtain⟨bf,xs,rfl,ho,hs⟩:=hp (by omega)
  refine⟨.pointer (some ⟨bf,k*2,none⟩),?_,.inr ⟨k,bf,xs,(D.file f)[k],rfl,List.getElem?_eq_getElem hk,rfl,ho,hs⟩⟩
  generalize (D.file f).length=n at *
  have a1:decide ((n:Int)≤(k:Int))=false:=by simp;omega
  clear ho hs hp hin
  go_enter Tryz.func120,Tryz.ntmps120
  go_wp2_with fail
  refine HC.out.mono ?_
  rintro e w' ⟨rfl,rfl⟩
  go_wp2_with fail
  go_ret
  exact⟨rfl,rfl⟩
 ·refine⟨.pointer none,?_,.inl ⟨by omega,rfl⟩⟩
  generalize (D.file f).length=n at *
  clear hp
  by_cases h0:i<0
  ·clear hin
   go_enter Tryz.func120,Tryz.ntmps120
   go_wp2_with fail
   refine HC.out.mono ?_
   rintro e w' ⟨rfl,rfl⟩
   go_wp2_with fail
   go_ret
   exact⟨rfl,rfl⟩
  ·have a0:decide (i<0)=false:=by simp;omega
   have a1:decide ((n:Int)≤i)=true:=by simp;omega
   clear hin
   go_enter Tryz.func120,Tryz.ntmps120
   go_wp2_with fail
   refine HC.out.mono ?_
   rintro e w' ⟨rfl,rfl⟩
   go_wp2_with fail
   go_ret
   exact⟨rfl,rfl⟩
theorem Qjs {D:Dev}(h:DevAt w τ b D) (f:Nat) (hf:f<256) :
 Calls Tryz.prog 61 #[.pointer (some ⟨b,0,none⟩),.int .u8 (f:Int)] w fun e w'=>e = .returned (.int .i64 ((D.file f).length:Int))∧w=w':=by
 obtain⟨v,hc,p,cap,rfl,h1,h2,hp⟩:=Qoe h f hf
 have HC:=Lib.hid hc
 clear hc h hp
 go_enter Tryz.func61,Tryz.ntmps61
 go_wp2_with fail
 refine HC.out.mono ?_
 rintro e w' ⟨rfl,rfl⟩
 go_wp2_with fail
 go_ret
 exact⟨rfl,rfl⟩
theorem Qtn {D:Dev}(h:DevAt w τ b D) :
 Calls Tryz.prog 10 #[.pointer (some ⟨b,0,none⟩)] w fun e w'=>e = .returned (.bool D.halted)∧w=w':=by
 obtain⟨v0,v1,pl,ho,h0,h1,hl⟩:=h.is
 have c3:=ho.at 3 (v:=.bool D.halted) rfl
 clear h ho h0 h1 hl
 go_enter Tryz.func10,Tryz.ntmps10
 go_wp2
 go_ret
 exact⟨rfl,rfl⟩
theorem Qre {D:Dev}(h:DevAs w τ b D v0 v1) :
 Calls Tryz.prog 165 #[.pointer (some ⟨b,0,none⟩)] w fun e w'=>e = .returned (.bool D.go.1)∧DevAs w' τ b D.go.2 v0 v1∧Mod w w' (fun k=>τ k=tDev∨τ k=tLeft)∧w'.heap.size=w.heap.size:=by
 obtain⟨pl,ho,h0,h1,hl⟩:=h.is
 have c2:=ho.at 2 (v:=pl) rfl
 have c3:=ho.at 3 (v:=.bool D.halted) rfl
 have f3:=ho.fz 3
 rcases hl with ⟨rfl,hn⟩|⟨bl,n,rfl,hn,hm,hol⟩
 ·have e1:D.go=(true,D):=by simp[Dev.go,hn]
  rw[e1]
  clear e1 ho h0 h1 hn
  go_enter Tryz.func165,Tryz.ntmps165
  go_wp2
  go_ret
  exact⟨rfl,h,Mod.refl _ _,rfl⟩
 ·have hne:b≠bl:=ho.ne hol (by simp[tDev,tLeft])
  have cl:=hol.at 0 (v:=.int .i64 (n:Int)) rfl
  have fl:=hol.fz 0
  cases n with
  | zero =>
    have e1:D.go=(false,{D with halted:=true}):=by simp[Dev.go,hn]
    rw[e1]
    have ms:Mod w (w.setCell ⟨b,3,none⟩ (.bool true)) (fun k=>τ k=tDev∨τ k=tLeft):=(Mod.refl _ _).setCell (fun _=>.inl ho.tag) _
    have hd:DevAs (w.setCell ⟨b,3,none⟩ (.bool true)) τ b {D with halted:=true} v0 v1:=by
     have mf:Mod w (w.setCell ⟨b,3,none⟩ (.bool true)) (fun k=>k=b):=Mod.one _ _ _ _
     have hb:∀g,g≠tDev→∀k,k<w.heap.size→τ k=g→¬k=b:=fun g hg k _ ht e=>hg (by rw[←ht,e,ho.tag])
     refine⟨.pointer (some ⟨bl,0,none⟩),ho.set 3 _,h0.mod mf (Ext.refl _ _) (hb _ (by simp[tRow,tDev])) (fun i=>hb _ (by simp[tWait,tDev])) (hb _ (by simp[tData,tDev])),
      h1.mod mf (Ext.refl _ _) (hb _ (by simp[tRow,tDev])) (fun i=>hb _ (by simp[tWait,tDev])) (hb _ (by simp[tData,tDev])),.inr ⟨bl,0,rfl,hn,hm,hol.mod mf (Ext.refl _ _) (fun e=>hne e.symm)⟩⟩
    clear e1 ho h0 h1 hn hol
    go_enter Tryz.func165,Tryz.ntmps165
    go_wp2
    go_ret
    exact⟨rfl,hd,ms,by simp[World.setCell]⟩
  | succ n =>
    have e1:D.go=(true,{D with left:=some n}):=by simp[Dev.go,hn]
    rw[e1]
    have ms:Mod w (w.setCell ⟨bl,0,none⟩ (.int .i64 (n:Int))) (fun k=>τ k=tDev∨τ k=tLeft):=(Mod.refl _ _).setCell (fun _=>.inr hol.tag) _
    have hd:DevAs (w.setCell ⟨bl,0,none⟩ (.int .i64 (n:Int))) τ b {D with left:=some n} v0 v1:=by
     have mf:Mod w (w.setCell ⟨bl,0,none⟩ (.int .i64 (n:Int))) (fun k=>k=bl):=Mod.one _ _ _ _
     have hb:∀g,g≠tLeft→∀k,k<w.heap.size→τ k=g→¬k=bl:=fun g hg k _ ht e=>hg (by rw[←ht,e,hol.tag])
     refine⟨.pointer (some ⟨bl,0,none⟩),ho.mod mf (Ext.refl _ _) hne,h0.mod mf (Ext.refl _ _) (hb _ (by simp[tRow,tLeft])) (fun i=>hb _ (by simp[tWait,tLeft])) (hb _ (by simp[tData,tLeft])),
      h1.mod mf (Ext.refl _ _) (hb _ (by simp[tRow,tLeft])) (fun i=>hb _ (by simp[tWait,tLeft])) (hb _ (by simp[tData,tLeft])),.inr ⟨bl,n,rfl,rfl,by omega,hol.set 0 _⟩⟩
    have hz:(((n+1:Nat):Int)==0)=false:=by simp;omega
    clear e1 ho h0 h1 hn hol
    have hmx:n+1≤9223372036854775807:=by have:=hm;unfold maxLen at this;omega
    go_enter Tryz.func165,Tryz.ntmps165
    go_wp2
    go_ret
    exact⟨rfl,hd,ms,by simp[World.setCell]⟩
theorem Qsi {D:Dev}(h:DevAt w τ b D) :
 Calls Tryz.prog 165 #[.pointer (some ⟨b,0,none⟩)] w fun e w'=>e = .returned (.bool D.go.1)∧DevAt w' τ b D.go.2∧Mod w w' (fun k=>τ k=tDev∨τ k=tLeft)∧w'.heap.size=w.heap.size:=by
 obtain⟨v0,v1,h⟩:=h.as
 exact(Qre h).mono fun e w' ⟨a,b,c,d⟩=>⟨a,b.at,c,d⟩
theorem Qrh {D:Dev}(h:DevAs w τ b D v0 v1) (f:Nat) (hf:f<256) :
 Calls Tryz.prog 126 #[.pointer (some ⟨b,0,none⟩),.int .u8 (f:Int)] w fun e w'=>e = .returned (fileV v0 v1 f)∧w=w':=by
 obtain⟨pl,ho,h0,h1,hl⟩:=h.is
 have c0:=ho.at 0 (v:=v0) rfl
 have c1:=ho.at 1 (v:=v1) rfl
 clear h0 h1 hl ho h
 by_cases e0:f=0
 ·subst e0
  show Calls Tryz.prog 126 #[.pointer (some ⟨b,0,none⟩),.int .u8 0] w _
  go_enter Tryz.func126,Tryz.ntmps126
  go_wp2
  go_ret
  exact⟨rfl,rfl⟩
 by_cases e1:f=1
 ·subst e1
  show Calls Tryz.prog 126 #[.pointer (some ⟨b,0,none⟩),.int .u8 1] w _
  go_enter Tryz.func126,Tryz.ntmps126
  go_wp2
  go_ret
  exact⟨rfl,rfl⟩
 ·have hD:fileV v0 v1 f = .slice none 0 0:=by simp[fileV,e0,e1]
  rw[hD]
  have hge:decide ((2:Int)≤(f:Int))=true:=by simp;omega
  clear hD e0 e1 c0 c1
  go_enter Tryz.func126,Tryz.ntmps126
  go_wp2
  go_ret
  exact⟨rfl,rfl⟩
theorem at_as {D:Dev}(h:DevAs w τ b D v0 v1) (f:Nat) (hf:f<256) {bf n cap:Nat}(hv:fileV v0 v1 f = .slice (some ⟨bf,0,none⟩) n cap) (hn:n≤4096) (k:Nat) (hk:k<n) :
 Calls Tryz.prog 120 #[.pointer (some ⟨b,0,none⟩),.int .u8 (f:Int),.int .i64 (k:Int)] w fun e w'=>e = .returned (.pointer (some ⟨bf,k*2,none⟩))∧w=w':=by
 have hc:=Qrh h f hf
 rw[hv] at hc
 have HC:=Lib.hid hc
 have a1:decide ((n:Int)≤(k:Int))=false:=by simp;omega
 clear hc h hv
 go_enter Tryz.func120,Tryz.ntmps120
 go_wp2_with fail
 refine HC.out.mono ?_
 rintro e w' ⟨rfl,rfl⟩
 go_wp2_with fail
 go_ret
 exact⟨rfl,rfl⟩
theorem Tryz.infoU8:(Tryz.prog.info? 5).map (fun i=>(i.zero,i.size,i.bytes))=some (some (.int .u8 0),1,1):=by kernel_rfl
theorem Qkd (l:List Int):∀u∈u8s l,u.oneCell'=true:=ints_oneCell .u8 l
theorem Bytes.news {p:Option Addr} {c:Nat} {l:List Int}(h:Bytes w τ g (.slice p n c) l) :
 n=l.length∧∀a,p=some a→∀j u,(u8s l)[j]?=some u→w.cell? (a.add j)=some u:=by
 obtain⟨p',c',hv,h1,h2,hc⟩:=h.is
 simp only[Value.slice.injEq] at hv
 obtain⟨rfl,rfl,rfl⟩:=hv
 refine⟨rfl,fun a ha j u hu=>?_⟩
 have hj:j<l.length:=by have:=(List.getElem?_eq_some_iff.1 hu).1;rwa [Qac] at this
 obtain⟨b,o,hb,ht,hcell⟩:=hc (by omega)
 rw[ha] at hb
 simp only[Option.some.injEq] at hb
 subst hb
 rw[Qfw l j hj] at hu
 rw[←Option.some.inj hu,←hcell j hj]
 unfold Addr.add;split <;> simp_all
theorem Buf.bytes {l:List Int}(h:Buf w τ g 5 1 v n (u8s l)) (hb:IsB l):Bytes w τ g v l:=by
 obtain⟨h1,⟨rfl,rfl⟩|⟨b,cap,ys,rfl,ho,h3,h4,h5⟩⟩:=h
 ·have:l=[]:=List.eq_nil_of_length_eq_zero (by simpa [u8s] using h1)
  subst this
  exact⟨hb,none,0,rfl,Nat.le_refl _,Nat.zero_le _,fun hx=>by simp at hx⟩
 ·have hn:n=l.length:=by rw[Qac] at h1;omega
  subst hn
  refine⟨hb,some ⟨b,0,none⟩,cap,rfl,h4,h5,fun hl=>⟨b,0,rfl,ho.tag,fun i hi=>?_⟩⟩
  rw[Nat.zero_add,ho.cell,List.getElem?_append_left (by rw[Qac];exact hi),Qfw l i hi]
def NewB (w:World) (τ:Tags) (g:Tag) (l:List Int) (e:Ending) (w':World):Prop:=∃u τ',e = .returned u∧Bytes w' τ' g u l∧Ext w τ τ'∧Mod w w' no
theorem Qeb {l:List Int}(h:Bytes w τ g v l) (g':Tag) (hbig:l.length≤100000000) :
 Calls Tryz.prog 118 #[v] w (NewB w τ g' l):=by
 have hB:=h.isB
 obtain⟨p,c,rfl,h1,h2,hc⟩:=h.is
 obtain⟨_,hnews⟩:=h.news
 cases p with
 | none =>
   have hl:l=[]:=by
    cases l with
    | nil=>rfl
    | cons x r=>obtain⟨b,o,hb,_⟩:=hc (by simp);cases hb
   subst hl
   have hnil:=fun (W:World) (a:Option Addr) (n c:Nat)=>Lib.run_eql_slice_nil (P:=Tryz.prog) W 37 5 a n c 0 0 Tryz.underlying37
   clear hbig
   go_enter Tryz.func118,Tryz.ntmps118
   go_wp2
   go_ret
   exact⟨_,τ,rfl,⟨hB,none,0,rfl,Nat.le_refl _,Nat.zero_le _,fun hx=>by simp at hx⟩,Ext.refl _ _,Mod.refl _ _⟩
 | some a =>
   obtain⟨i0,hi,hz0,hz1,hz2⟩:=info_parts Tryz.infoU8
   have hbuf:Buf (w.alloc (.cells #[] 5)) (τ.put w.heap.size g') g' 5 1 (.slice (some ⟨w.heap.size,0,none⟩) 0 0) 0 [] :=
    ⟨rfl,.inr ⟨w.heap.size,0,[],rfl,Own.new w τ g' _ [],Nat.le_refl _,Nat.le_refl _,Nat.zero_le _⟩⟩
   have hm:Mod w (w.alloc (.cells #[] 5)) no:=(Mod.refl _ _).alloc _
   have hnews':∀ad,some a=some ad→∀j u,(u8s l)[j]?=some u→(w.alloc (.cells #[] 5)).cell? (ad.add j)=some u:=by
    intro ad had j u hu
    have hx:=hnews ad had j u hu
    have hlt:ad.block<w.heap.size:=by
     have:=World.block_lt_of_cell? w _ hx
     unfold Addr.add at this;split at this <;> exact this
    rw[←hx]
    exact World.cell?_of_block (w:=w) (Below.heap_alloc _ _ _ (by unfold Addr.add;split <;> exact hlt))
   obtain⟨Hn,HB,Hm⟩:=hid3 hnews' hbuf hm
   have hnil:=fun (W:World) (a:Option Addr) (n c:Nat)=>Lib.run_eql_slice_nil (P:=Tryz.prog) W 37 5 a n c 0 0 Tryz.underlying37
   have Hbig:=Lib.hid hbig
   clear hnews hnews' hbuf hm hc h hbig
   go_enter Tryz.func118,Tryz.ntmps118
   go_wp2_with (at_builtin;refine Qe0 _ _ g' rfl _ _ 37 rfl 5 i0 (.int .u8 0) 1 1 Tryz.underlying37 hi hz0 hz1 hz2 rfl (by decide) (.slice (some ⟨w.heap.size,0,none⟩) 0 0) 0 [] rfl HB.out (some a) l.length c (u8s l) rfl (by rw[Qac,Nat.mul_one]) (by intro hx;cases hx) Hn.out (Qkd l) (by have:=Hbig.out;unfold maxLen;omega) (by have:=Hbig.out;omega) ?_;intro v' w' τ' hb he hmo hnw;clear hnw;obtain⟨B1,E1,M1⟩:=hid3 hb he hmo;clear hb he hmo)
   go_ret
   have hb:=B1.out
   rw[Nat.zero_add,List.nil_append] at hb
   refine⟨_,τ',rfl,hb.bytes hB,Ext.trans ((Ext.refl w τ).put _ g' (Nat.le_refl _)) E1.out (by simp),Hm.out.seq M1.out (fun k hk hS=>?_)⟩
   have hx:w.heap.size=k:=by simpa [Value.ownBlock] using hS
   omega
theorem Qin {i bf:Nat} {xs:List Value} {s:Sec}(ho:Own w τ bf (tRow f) 113 xs) (hs:SecIn w τ f i xs s) :
 ∃v,(Calls Tryz.prog 121 #[.pointer (some ⟨bf,i*2,none⟩)] w fun e w'=>e = .returned v∧w=w')∧Bytes w τ tData v s.newest∧s.newest.length=128:=by
 obtain⟨⟨hl,v,hv,hb⟩,⟨u,hu,hw⟩⟩:=hs
 have c0:=ho.at _ hv
 have c1:=ho.at _ hu
 rcases hw with ⟨rfl,hn⟩|⟨b,cap,ys,zs,rfl,hob,h1,h2,h3,hk⟩
 ·have hnew:s.newest=s.last:=by simp[Sec.newest,hn]
  rw[hnew]
  refine⟨v,?_,hb,hl⟩
  clear ho hv hu hb hn hnew hl
  go_enter Tryz.func121,Tryz.ntmps121
  go_wp2
  go_ret
  exact⟨rfl,rfl⟩
 ·by_cases hz:s.waits=[]
  ·have hnew:s.newest=s.last:=by simp[Sec.newest,hz]
   rw[hnew]
   refine⟨v,?_,hb,hl⟩
   rw[hz] at c1
   clear ho hv hu hb hz hnew hl hob hk h1 h2
   go_enter Tryz.func121,Tryz.ntmps121
   go_wp2
   go_ret
   exact⟨rfl,rfl⟩
  ·have hpos:0<s.waits.length:=List.length_pos_iff.2 hz
   obtain⟨m,hm⟩:∃m,s.waits.length=m+1:=⟨s.waits.length-1,by omega⟩
   have hlast:s.waits[m]?=some s.newest:=by
    unfold Sec.newest
    rw[List.getLastD_eq_getLast?,List.getLast?_eq_getElem?,hm]
    simp only[Nat.add_sub_cancel]
    rw[List.getElem?_eq_getElem (by omega)];rfl
   obtain⟨hlen,u,hu',hbu⟩:=hk m _ hlast
   refine⟨u,?_,hbu,hlen⟩
   have cm:=hob.at m (v:=u) (by rw[List.getElem?_append_left (by omega)];exact hu')
   rw[hm] at c1
   have hmx:m+1≤9223372036854775807:=by unfold maxLen at h3;omega
   clear ho hv hu hb hz hl hob hk h1 h2 hlast hbu hpos hu' hlen h3 hm
   go_enter Tryz.func121,Tryz.ntmps121
   go_wp2
   go_ret
   exact⟨rfl,rfl⟩
theorem Qwj {D:Dev}(h:DevAt w τ b D) (f:Nat) (hf:f<256) (k:Nat) (hk:k<(D.file f).length) :
 ∃bf xs,(Calls Tryz.prog 120 #[.pointer (some ⟨b,0,none⟩),.int .u8 (f:Int),.int .i64 (k:Int)] w fun e w'=>e = .returned (.pointer (some ⟨bf,k*2,none⟩))∧w=w') ∧
   Own w τ bf (tRow f) 113 xs∧∀(j:Nat) (t:Sec),(D.file f)[j]?=some t→SecIn w τ f j xs t:=by
 obtain⟨v,hc,⟨hi,rfl⟩|⟨k',bf,xs,s,hkk,hk',rfl,ho,hs⟩⟩:=Ja2 h f hf (k:Int)
 ·omega
 ·have:k=k':=by omega
  subst this
  exact⟨bf,xs,hc,ho,hs⟩
def ReadD (w:World) (τ:Tags) (g:Tag) (l:List Int) (e:Ending) (w':World):Prop:=∃u τ',e = .returned (.tuple #[u,.int .u16 0])∧Bytes w' τ' g u l∧Ext w τ τ'∧Mod w w' no
theorem Qw9 {D:Dev}(h:DevAt w τ b D) (f:Nat) (hf:f<256) (k:Nat) (s:Sec) (hk:(D.file f)[k]?=some s) (g:Tag) :
 Calls Tryz.prog 53 #[.pointer (some ⟨b,0,none⟩),.int .u8 (f:Int),.int .i64 (k:Int)] w (ReadD w τ g s.newest):=by
 obtain⟨bf,xs,hc,ho,hs⟩:=Qwj h f hf k (List.getElem?_eq_some_iff.1 hk).1
 obtain⟨v,hn,hb,hl⟩:=Qin ho (hs k s hk)
 have hcl:=Qeb hb g (by omega)
 obtain⟨HC,HN,HK⟩:=hid3 hc hn hcl
 clear hc hn hcl h hk hs hb hl ho
 go_enter Tryz.func53,Tryz.ntmps53
 go_wp2_with fail
 refine HC.out.mono ?_
 rintro e w' ⟨rfl,rfl⟩
 go_wp2_with fail
 refine HN.out.mono ?_
 rintro e w' ⟨rfl,rfl⟩
 go_wp2_with fail
 refine HK.out.mono ?_
 rintro e w' ⟨u,τ',rfl,hb,he,hm⟩
 obtain⟨B,E,M⟩:=hid3 hb he hm
 clear hb he hm
 go_wp2_with fail
 go_ret2
 exact⟨u,τ',rfl,B.out,E.out,M.out⟩
theorem Waits.len {l:List (List Int)}(h:Waits w τ g v l):∃p c,v = .slice p l.length c:=by
 rcases h with ⟨rfl,rfl⟩|⟨b,cap,xs,ys,rfl,_⟩
 ·exact⟨none,0,rfl⟩
 ·exact⟨_,_,rfl⟩
theorem Qui {D:Dev}(h:DevAt w τ b D) (f:Nat) (hf:f<256) (k:Nat) (s:Sec) (hk:(D.file f)[k]?=some s) :
 Calls Tryz.prog 287 #[.pointer (some ⟨b,0,none⟩),.int .u8 (f:Int),.int .i64 (k:Int)] w fun e w'=>e = .returned (.int .i64 (s.waits.length:Int))∧w=w':=by
 obtain⟨bf,xs,hc,ho,hs⟩:=Qwj h f hf k (List.getElem?_eq_some_iff.1 hk).1
 obtain⟨_,u,hu,hw⟩:=hs k s hk
 obtain⟨p,c,rfl⟩:=hw.len
 have c1:=ho.at _ hu
 have HC:=Lib.hid hc
 clear hc h hk hs ho hw hu
 go_enter Tryz.func287,Tryz.ntmps287
 go_wp2_with fail
 refine HC.out.mono ?_
 rintro e w' ⟨rfl,rfl⟩
 go_wp2_with fail
 go_ret
 exact⟨rfl,rfl⟩
theorem Tryz.infoU8s:(Tryz.prog.info? 37).map (fun i=>(i.zero,i.size,i.bytes))=some (some (.slice none 0 0),1,24):=by kernel_rfl
theorem Waits.buf {l:List (List Int)}(h:Waits w τ g v l) :
 ∃xs,Buf w τ g 37 1 v l.length xs∧∀(k:Nat) (x:List Int),l[k]?=some x→x.length=128∧∃u,xs[k]?=some u∧Bytes w τ tData u x:=by
 rcases h with ⟨rfl,rfl⟩|⟨b,cap,xs,ys,rfl,ho,h1,h2,h3,hk⟩
 ·exact⟨[],Buf.nil _ _ _ _ _,fun k x hx=>by simp at hx⟩
 ·exact⟨xs,⟨by omega,.inr ⟨b,cap,ys,rfl,ho,by omega,by omega,h3⟩⟩,hk⟩
theorem Buf.waits {l:List (List Int)} {xs:List Value}(h:Buf w τ g 37 1 v l.length xs)
 (hk:∀(k:Nat) (x:List Int),l[k]?=some x→x.length=128∧∃u,xs[k]?=some u∧Bytes w τ tData u x):Waits w τ g v l:=by
 obtain⟨h1,⟨rfl,h2⟩|⟨b,cap,ys,rfl,ho,h3,h4,h5⟩⟩:=h
 ·exact .inl ⟨rfl,List.eq_nil_of_length_eq_zero h2⟩
 ·exact .inr ⟨b,cap,xs,ys,rfl,ho,by omega,by omega,h5,hk⟩
theorem Qsr {D:Dev}(h:DevAt w τ b D) (f:Nat) (hf:f<2) (k:Nat) (hk:k<(D.file f).length) (p:Option Addr) (c:Nat) (hg:D.go.1=false) :
 Calls Tryz.prog 100 #[.pointer (some ⟨b,0,none⟩),.int .u8 (f:Int),.int .i64 (k:Int),.slice p 128 c] w fun e w'=>e = .returned (.int .u16 0)∧DevAt w' τ b D.go.2∧Mod w w' (fun k=>τ k=tDev∨τ k=tLeft)∧w'.heap.size=w.heap.size:=by
 obtain⟨bf,xs,hc,ho,hs⟩:=Qwj h f (by omega) k hk
 have hgo:=Qsi h
 rw[hg] at hgo
 obtain⟨HC,HG⟩:=hid2 hc hgo
 clear hc hgo h hk ho hs hg
 go_enter Tryz.func100,Tryz.ntmps100
 go_wp2_with fail
 refine HC.out.mono ?_
 rintro e w' ⟨rfl,rfl⟩
 go_wp2_with fail
 refine HG.out.mono ?_
 rintro e w' ⟨rfl,hd,hm,hz⟩
 obtain⟨D1,M1,Z1⟩:=hid3 hd hm hz
 clear hd hm hz
 go_wp2_with fail
 go_ret
 exact⟨rfl,D1.out,M1.out,Z1.out⟩
def Sec.add (s:Sec) (l:List Int):Sec:={s with waits:=s.waits++[l]}
theorem File.add {l:List Sec} {bf cap:Nat} {xs:List Value} {k:Nat} {s:Sec}(hn:n=l.length) (hcap:l.length≤cap) (hsm:l.length≤4096) (hk:l[k]?=some s) {S:Nat→Prop}(m:Mod w w' S) (e:Ext w τ τ')
 (hs:∀j,j<w.heap.size→S j→j=bf∨τ j=tWait f k) (hb:τ bf=tRow f) {u:Value} (ho:Own w' τ' bf (tRow f) 113 (xs.set (k*2+1) u))
 (hin:∀j t,l[j]?=some t→SecIn w τ f j xs t) {s':Sec} (hl:s'.last=s.last) (hw:Waits w' τ' (tWait f k) u s'.waits) :
 File w' τ' f (.slice (some ⟨bf,0,none⟩) n cap) (l.set k s'):=by
 subst hn
 have hd:∀j,j<w.heap.size→τ j=tData→¬S j:=fun j hj ht hS=>by
  rcases hs j hj hS with rfl|h
  ·rw[hb] at ht;simp[tRow,tData] at ht
  ·rw[h] at ht;simp[tWait,tData] at ht
 have hkl:=(List.getElem?_eq_some_iff.1 hk).1
 refine⟨_,cap,by rw[List.length_set],by simpa using hcap,by simpa using hsm,fun _=>⟨bf,_,rfl,ho,fun j t hj=>?_⟩⟩
 by_cases hjk:j=k
 ·subst hjk
  rw[List.getElem?_set_self hkl] at hj
  cases hj
  obtain⟨⟨a,v,hv,hbv⟩,⟨q,hq,_⟩⟩:=hin j s hk
  refine⟨⟨by rw[hl];exact a,v,?_,by rw[hl];exact hbv.mod m e hd⟩,⟨u,?_,hw⟩⟩
  ·rw[List.getElem?_set_ne (by omega)];exact hv
  ·rw[List.getElem?_set_self (List.getElem?_eq_some_iff.1 hq).1]
 ·rw[List.getElem?_set_ne (fun h=>hjk h.symm)] at hj
  have hi:=(hin j t hj).mod m e (fun i hi ht hS=>by
   rcases hs i hi hS with rfl|h
   ·rw[hb] at ht;simp[tRow,tWait] at ht
   ·rw[h] at ht;simp[tWait] at ht;omega) hd
  obtain⟨⟨a,v,hv,hbv⟩,⟨q,hq,hwq⟩⟩:=hi
  refine⟨⟨a,v,?_,hbv⟩,⟨q,?_,hwq⟩⟩
  ·rw[List.getElem?_set_ne (by omega)];exact hv
  ·rw[List.getElem?_set_ne (by omega)];exact hq
end Go.Proofs.YtemacanaihaldaaGreat