/-
 The device in plain Lean,and how it lies in memory.
-/
import Derived.Test.YtemacanaihaldaaGreatMem
import Derived.WalkSpells
set_option linter.all false
namespace Go.Proofs.YtemacanaihaldaaGreat
variable {b f n:Nat}{g:Tag}{v v0 v1:Value}{w w':World}{τ τ':Tags}
open Go.RowKit
structure Sec where
 last:List Int
 waits:List (List Int)
structure Dev where
 f0:List Sec
 f1:List Sec
 left:Option Nat
 halted:Bool
def Sec.newest (s:Sec):List Int:=s.waits.getLastD s.last
def Dev.file (D:Dev) (f:Nat):List Sec:=if f=0 then D.f0 else if f=1 then D.f1 else []
def Dev.put (D:Dev) (f:Nat) (l:List Sec):Dev:=if f=0 then {D with f0:=l} else if f=1 then {D with f1:=l} else D
def Dev.go (D:Dev):Bool×Dev :=
 match D.left with
 | none=>(true,D)
 | some 0=>(false,{D with halted:=true})
 | some (n+1)=>(true,{D with left:=some n})
def tDev:Tag:=(2,0)
def tRow (f:Nat):Tag:=(3,f)
def tLeft:Tag:=(4,0)
def tWait (f i:Nat):Tag:=(5,2*i+f)
def DevTag (g:Tag):Prop:=g.1=2\/g.1=3\/g.1=4\/g.1=5
def Waits (w:World) (τ:Tags) (g:Tag) (v:Value) (l:List (List Int)):Prop :=
 (v = .slice none 0 0/\l=[]) \/
 ∃b cap xs ys,v = .slice (some ⟨b,0,none⟩) l.length cap/\Own w τ b g 37 (xs++ys)/\xs.length=l.length/\(l.length<=cap/\cap<=xs.length+ys.length)/\cap<=maxLen /\
   ∀(k:Nat) (x:List Int),l[k]?=some x->x.length=128/\∃u,xs[k]?=some u/\Bytes w τ tData u x
structure SecIn (w:World) (τ:Tags) (f i:Nat) (xs:List Value) (s:Sec):Prop where
 last:s.last.length=128/\∃v,xs[i*2]?=some v/\Bytes w τ tData v s.last
 waits:∃v,xs[i*2+1]?=some v/\Waits w τ (tWait f i) v s.waits
def File (w:World) (τ:Tags) (f:Nat) (v:Value) (l:List Sec):Prop :=
 ∃p cap,v = .slice p l.length cap/\l.length<=cap/\l.length<=4096/\(0<l.length->∃b xs,p=some ⟨b,0,none⟩/\Own w τ b (tRow f) 113 xs/\∀(i:Nat) (s:Sec),l[i]?=some s->SecIn w τ f i xs s)
structure DevAt (w:World) (τ:Tags) (b:Nat) (D:Dev):Prop where
 is:∃v0 v1 pl,Own w τ b tDev 107 [v0,v1,pl,.bool D.halted]/\File w τ 0 v0 D.f0/\File w τ 1 v1 D.f1 /\
  ((pl = .pointer none/\D.left=none)\/∃bl n,pl = .pointer (some ⟨bl,0,none⟩)/\D.left=some n/\n<=maxLen/\Own w τ bl tLeft 3 [.int .i64 (n:Int)])
theorem Waits.mod {l:List (List Int)}(h:Waits w τ g v l) {S:Nat->Prop}(m:Mod w w' S) (e:Ext w τ τ')
 (i:∀k,k<w.heap.size->τ k=g->¬S k) (hd:∀k,k<w.heap.size->τ k=tData->¬S k):Waits w' τ' g v l:=by
 rcases h with h|⟨b,cap,xs,ys,j,d,h1,h2,o,hk⟩
 ·exact .inl h
 ·refine .inr ⟨b,cap,xs,ys,j,d.mod m e (i b d.lt d.tag),h1,h2,o,fun k x p=>?_⟩
  obtain⟨a,u,hu,q⟩:=hk k x p
  exact⟨a,u,hu,q.mod m e hd⟩
theorem SecIn.mod {i:Nat} {d:List Value} {s:Sec}(h:SecIn w τ f i d s) {S:Nat->Prop}(m:Mod w w' S) (e:Ext w τ τ')
 (j:∀k,k<w.heap.size->τ k=tWait f i->¬S k) (hd:∀k,k<w.heap.size->τ k=tData->¬S k):SecIn w' τ' f i d s:=by
 obtain⟨⟨a,v,l,o⟩,⟨u,hu,p⟩⟩:=h
 exact⟨⟨a,v,l,o.mod m e hd⟩,⟨u,hu,p.mod m e j hd⟩⟩
theorem File.mod {l:List Sec}(h:File w τ f v l) {S:Nat->Prop}(m:Mod w w' S) (e:Ext w τ τ')
 (j:∀k,k<w.heap.size->τ k=tRow f->¬S k) (o:∀i k,k<w.heap.size->τ k=tWait f i->¬S k) (hd:∀k,k<w.heap.size->τ k=tData->¬S k):File w' τ' f v l:=by
 obtain⟨p,cap,q,h1,h2,r⟩:=h
 refine⟨p,cap,q,h1,h2,fun hl=>?_⟩
 obtain⟨b,x,y,d,z⟩:=r hl
 exact⟨b,x,y,d.mod m e (j b d.lt d.tag),fun i s hi=>(z i s hi).mod m e (o i) hd⟩
theorem DevAt.mod {D:Dev}(h:DevAt w τ b D) {S:Nat->Prop}(m:Mod w w' S) (e:Ext w τ τ')
 (q:∀k,k<w.heap.size->S k->¬DevTag (τ k)/\τ k≠tData):DevAt w' τ' b D:=by
 obtain⟨v0,v1,pl,l,h0,h1,hl⟩:=h.is
 have hd:∀k,k<w.heap.size->τ k=tData->¬S k:=fun k hk o p=>(q k hk p).2 o
 have j:∀g,DevTag g->∀k,k<w.heap.size->τ k=g->¬S k:=fun g r k hk o p=>(q k hk p).1 (o▸r)
 refine⟨v0,v1,pl,l.mod m e (j tDev (by simp[DevTag,tDev]) _ l.lt l.tag),h0.mod m e (j _ (by simp[DevTag,tRow])) (fun i=>j _ (by simp[DevTag,tWait])) hd,
  h1.mod m e (j _ (by simp[DevTag,tRow])) (fun i=>j _ (by simp[DevTag,tWait])) hd,?_⟩
 rcases hl with hl|⟨bl,n,s,hn,x,d⟩
 ·exact .inl hl
 ·exact .inr ⟨bl,n,s,hn,x,d.mod m e (j _ (by simp[DevTag,tLeft]) _ d.lt d.tag)⟩
structure DevAs (w:World) (τ:Tags) (b:Nat) (D:Dev) (v0 v1:Value):Prop where
 is:∃pl,Own w τ b tDev 107 [v0,v1,pl,.bool D.halted]/\File w τ 0 v0 D.f0/\File w τ 1 v1 D.f1 /\
  ((pl = .pointer none/\D.left=none)\/∃bl n,pl = .pointer (some ⟨bl,0,none⟩)/\D.left=some n/\n<=maxLen/\Own w τ bl tLeft 3 [.int .i64 (n:Int)])
theorem DevAs.at {D:Dev}(h:DevAs w τ b D v0 v1):DevAt w τ b D:=by
 obtain⟨pl,h⟩:=h.is
 exact⟨v0,v1,pl,h⟩
theorem DevAt.as {D:Dev}(h:DevAt w τ b D):∃v0 v1,DevAs w τ b D v0 v1:=by
 obtain⟨v0,v1,pl,h⟩:=h.is
 exact⟨v0,v1,pl,h⟩
def fileV (v0 v1:Value) (f:Nat):Value:=if f=0 then v0 else if f=1 then v1 else .slice none 0 0
theorem DevAs.file {D:Dev}(h:DevAs w τ b D v0 v1) (f:Nat):File w τ f (fileV v0 v1 f) (D.file f):=by
 obtain⟨pl,_,h0,h1,_⟩:=h.is
 unfold fileV Dev.file
 by_cases d:f=0
 ·subst d;simpa using h0
 by_cases e:f=1
 ·subst e;simpa using h1
 ·simp only[d,e,if_false]
  exact⟨none,0,rfl,Z0 _,by simp,fun i=>by simp at i⟩
def Ql2 (f:Nat) (g:Tag):Prop:=g=tRow f\/∃i,g=tWait f i
theorem DevAs.put {D:Dev}(h:DevAs w τ b D v0 v1) (f:Nat) (hf:f<2) {S:Nat->Prop}(m:Mod w w' S) (e:Ext w τ τ')
 (x:∀k,k<w.heap.size->S k->Ql2 f (τ k)) (l:List Sec) (hl:File w' τ' f (fileV v0 v1 f) l):DevAs w' τ' b (D.put f l) v0 v1:=by
 obtain⟨pl,s,h0,h1,p⟩:=h.is
 have d:∀g,¬Ql2 f g->∀k,k<w.heap.size->τ k=g->¬S k:=fun g y k hk z B=>y (z▸x k hk B)
 have hd:¬Ql2 f tData:=by rintro(h|⟨i,h⟩) <;> simp[tData,tRow,tWait] at h
 have q:=s.mod m e (d tDev (by rintro(h|⟨i,h⟩) <;> simp[tDev,tRow,tWait] at h) _ s.lt s.tag)
 have r:(pl = .pointer none/\D.left=none)\/∃bl n,pl = .pointer (some ⟨bl,0,none⟩)/\D.left=some n/\n<=maxLen/\Own w' τ' bl tLeft 3 [.int .i64 (n:Int)]:=by
  rcases p with p|⟨bl,n,p,hn,C,o⟩
  ·exact .inl p
  ·exact .inr ⟨bl,n,p,hn,C,o.mod m e (d _ (by rintro(h|⟨i,h⟩) <;> simp[tLeft,tRow,tWait] at h) _ o.lt o.tag)⟩
 by_cases E:f=0
 ·subst E
  refine⟨pl,by simpa [Dev.put] using q,by simpa [Dev.put,fileV] using hl,?_,by simpa [Dev.put] using r⟩
  have:=h1.mod m e (d _ (by rintro(h|⟨i,h⟩) <;> simp[tRow,tWait] at h)) (fun i=>d _ (by rintro(h|⟨j,h⟩) <;> simp[tRow,tWait] at h;omega)) (d _ hd)
  simpa [Dev.put] using this
 ·have F:f=1:=by omega
  subst F
  refine⟨pl,by simpa [Dev.put] using q,?_,by simpa [Dev.put,fileV] using hl,by simpa [Dev.put] using r⟩
  have:=h0.mod m e (d _ (by rintro(h|⟨i,h⟩) <;> simp[tRow,tWait] at h)) (fun i=>d _ (by rintro(h|⟨j,h⟩) <;> simp[tRow,tWait] at h;omega)) (d _ hd)
  simpa [Dev.put] using this
def Buf (w:World) (τ:Tags) (g:Tag) (e:TypeId) (size:Nat) (v:Value) (n:Nat) (xs:List Value):Prop :=
 xs.length=n*size/\((v = .slice none 0 0/\n=0) \/
  ∃b cap ys,v = .slice (some ⟨b,0,none⟩) n cap/\Own w τ b g e (xs++ys)/\cap*size<=xs.length+ys.length/\n<=cap/\cap<=maxLen)
theorem Buf.nil (w:World) (τ:Tags) (g:Tag) (e:TypeId) (size:Nat):Buf w τ g e size (.slice none 0 0) 0 []:=⟨by simp,.inl ⟨rfl,rfl⟩⟩
theorem Buf.mod {e:TypeId} {size:Nat} {i:List Value}(h:Buf w τ g e size v n i) {S:Nat->Prop}(m:Mod w w' S) (x:Ext w τ τ')
 (j:∀k,k<w.heap.size->τ k=g->¬S k):Buf w' τ' g e size v n i:=by
 obtain⟨h1,h2|⟨b,cap,ys,l,d,o,p,q⟩⟩:=h
 ·exact⟨h1,.inl h2⟩
 ·exact⟨h1,.inr ⟨b,cap,ys,l,d.mod m x (j b d.lt d.tag),o,p,q⟩⟩
theorem Qid (b j:Nat):(⟨b,0,none⟩:Addr).add j=⟨b,j,none⟩:=by unfold Addr.add;split <;> simp_all
theorem Qap {P:Program}(w:World) (τ:Tags) (g:Tag) (t E e:TypeId) (i:TypeInfo) (z:Value) (size bytes:Nat) (D:P.underlying t=some (.slice e)) (hi:P.info? e=some i) (Y:i.zero=some z)
 (y:i.size=size) (O:i.bytes=bytes) (F:z.cells.size=size) (hsz:0<size)
 (v:Value) (n:Nat) (p:List Value) (d:Buf w τ g e size v n p)
 (N:Option Addr) (m c:Nat) (news:List Value) (hl:news.length=m*size) (B:N=none->m=0/\c=0) (l:∀a,N=some a->∀j u,news[j]?=some u->w.cell? (a.add j)=some u) (h1:∀u∈news,u.oneCell'=true)
 (G:n+m<=maxLen) (r:(n+m)*bytes<=140737488355328) :
 ∃R w' τ',(Builtin.append_ #[t,t] E #[v,.slice N m c]).run P w = .ok R w'/\Buf w' τ' g e size R (n+m) (p++news)/\Ext w τ τ'/\Mod w w' (fun k=>v.ownBlock=some k)/\(∀k,R.ownBlock=some k->v.ownBlock=some k\/w.heap.size<=k):=by
 have hsmall:n+m<=9223372036854775807:=by simp only[maxLen] at G;omega
 have s:(p++news).length=(n+m)*size:=by rw[Z6,d.1,hl,Nat.add_mul]
 subst y
 subst O
 cases N with
 | none =>
   obtain⟨rfl,rfl⟩:=B rfl
   have hn:news=[]:=List.eq_nil_of_length_eq_zero (by simpa using hl)
   subst hn
   have x:(Builtin.append_ #[t,t] E #[v,.slice none 0 0]).run P w = .ok v w:=by
    rcases d.2 with ⟨rfl,rfl⟩|⟨b,cap,ys,rfl,I,Z,h4,h5⟩
    ·simp[Builtin.append_,run_underlying D,sizeOf,typeInfo,hi,Builtin.lenOf,Builtin.firstCells]
    ·simp[Builtin.append_,run_underlying D,sizeOf,typeInfo,hi,Builtin.lenOf,Builtin.firstCells,h4,storeCells]
   exact⟨v,w,τ,x,by simpa using d,Ext.refl _ _,Mod.refl _ _,fun k h=>.inl h⟩
 | some a =>
   have l:=l a rfl
   rcases d.2 with ⟨rfl,rfl⟩|⟨b,cap,ys,rfl,I,Z,h4,h5⟩
   ·have hx:p=[]:=List.eq_nil_of_length_eq_zero (by simpa using d.1)
    subst hx
    by_cases hm:m=0
    ·subst hm
     have hn:news=[]:=List.eq_nil_of_length_eq_zero (by simpa using hl)
     subst hn
     refine⟨.slice none 0 0,w,τ,?_,Buf.nil _ _ _ _ _,Ext.refl _ _,Mod.refl _ _,fun k h=>.inl h⟩
     simp[Builtin.append_,run_underlying D,sizeOf,typeInfo,hi,Builtin.lenOf,Builtin.firstCells,loadCells,loadCellsFrom]
    ·have x:=run_append_nil (P:=P) w t E e i z D hi Y a m c news hl l (by omega) (by omega) (by have hb:=r;simp only[Nat.zero_add] at hb;omega)
     have J:=grownCap_ge w m 0 e
     have C:grownCap w m 0 e<=maxLen:=grownCap_le_maxLen w m 0 e (by omega)
     refine⟨_,_,τ.put w.heap.size g,x,⟨by simpa using s,.inr ⟨w.heap.size,_,(Builtin.zeroCells z.cells (grownCap w m 0 e-m)).toList,by simp,?_,?_,by omega,C⟩⟩,(Ext.refl _ _).put _ _ (Z0 _),((Mod.refl _ _).drew).alloc _,fun k h=>.inr (by simp[Value.ownBlock] at h;omega)⟩
     ·have U:=Own.new w.drew τ g e (news++(Builtin.zeroCells z.cells (grownCap w m 0 e-m)).toList)
      have X:(news.toArray++Builtin.zeroCells z.cells (grownCap w m 0 e-m))=(⟨news++(Builtin.zeroCells z.cells (grownCap w m 0 e-m)).toList⟩:Array Value):=by apply Array.toList_inj.1;simp
      rw[X]
      simpa using U
     ·refine Nat.le_of_eq (Eq.symm ?_)
      simp only[List.nil_append,hl,Array.length_toList,size_zeroCells,F,<-Nat.add_mul]
      congr 1;omega
   ·by_cases o:n+m<=cap
    ·have L:n*i.size+news.length<=(p++ys).toArray.size:=by
      simp only[List.size_toArray,Z6,hl,<-Nat.add_mul];exact Y3 (Y7 _ o) Z
     have x:=run_append_room (P:=P) w t E e i D hi b n cap (p++ys).toArray I.row a m c news hl l h1 o L
     have M:((p++ys).toArray.toList.take (n*i.size)++news++(p++ys).toArray.toList.drop (n*i.size+news.length))=p++news++ys.drop news.length:=by
      rw[<-d.1]
      simp
     rw[M] at x
     refine⟨_,_,τ,x,⟨s,.inr ⟨b,cap,ys.drop news.length,rfl,⟨setRow_heap w b _ _ e _ I.row,I.tag⟩,?_,o,h5⟩⟩,Ext.refl _ _,⟨rfl,rfl,rfl,by simp,fun k _ hk=>setRow_other w b k _ (fun q=>hk (by simp[Value.ownBlock,q]))⟩,fun k h=>.inl (by simpa [Value.ownBlock] using h)⟩
     have h6:news.length<=ys.length:=by
      have h7:(n+m)*i.size<=cap*i.size:=Y7 _ o
      rw[Nat.add_mul,<-d.1,<-hl] at h7;omega
     rw[Z6,List.length_drop];omega
    ·have holds:∀j u,p[j]?=some u->w.cell? ((⟨b,0,none⟩:Addr).add j)=some u:=by
      intro j u hu
      rw[Qid]
      refine I.at j ?_
      rw[Y5 (Z4 hu).1];exact hu
     have x:=run_append_grow (P:=P) w t E e i z D hi Y ⟨b,0,none⟩ n cap p d.1 holds a m c news hl l (by omega) (by omega) (growslice_fits (by omega) r)
     have J:=grownCap_ge w (n+m) cap e
     have C:grownCap w (n+m) cap e<=maxLen:=grownCap_le_maxLen w (n+m) cap e G
     refine⟨_,_,τ.put w.heap.size g,x,⟨s,.inr ⟨w.heap.size,_,(Builtin.zeroCells z.cells (grownCap w (n+m) cap e-(n+m))).toList,rfl,?_,?_,J,C⟩⟩,(Ext.refl _ _).put _ _ (Z0 _),((Mod.refl _ _).drew).alloc _,fun k h=>.inr (by simp[Value.ownBlock] at h;omega)⟩
     ·have U:=Own.new w.drew τ g e (p++news++(Builtin.zeroCells z.cells (grownCap w (n+m) cap e-(n+m))).toList)
      have X:(p.toArray++news.toArray++Builtin.zeroCells z.cells (grownCap w (n+m) cap e-(n+m)))=(⟨p++news++(Builtin.zeroCells z.cells (grownCap w (n+m) cap e-(n+m))).toList⟩:Array Value):=by apply Array.toList_inj.1;simp
      rw[X]
      simpa using U
     ·refine Nat.le_of_eq (Eq.symm ?_)
      simp only[s,Array.length_toList,size_zeroCells,F,<-Nat.add_mul]
      congr 1;omega
theorem Qe0 {P:Program}(w:World) (τ:Tags) (g:Tag) {ops:Array Oper}{rest:List Oper}{o:Oper}{a:Act}{Q:Exit->Act->World->Prop}(C:o.guard=none) (s x:Operand) (t:TypeId)
 (L:o.op = .call {callee:=.builtin .append,args:=#[s,x],argTypes:=#[t,t]})
 (e:TypeId) (i:TypeInfo) (z:Value) (size bytes:Nat) (M:P.underlying t=some (.slice e)) (hi:P.info? e=some i) (N:i.zero=some z)
 (l:i.size=size) (D:i.bytes=bytes) (E:z.cells.size=size) (F:0<size)
 (v:Value) (n:Nat) (G:List Value) (O:a.eval s=v) (r:Buf w τ g e size v n G)
 (B:Option Addr) (m c:Nat) (news:List Value) (R:a.eval x = .slice B m c) (hl:news.length=m*size) (p:B=none->m=0/\c=0) (q:∀J,B=some J->∀j u,news[j]?=some u->w.cell? (J.add j)=some u) (h1:∀u∈news,u.oneCell'=true)
 (I:n+m<=maxLen) (d:(n+m)*bytes<=140737488355328)
 (h:∀y w' τ',Buf w' τ' g e size y (n+m) (G++news)->Ext w τ τ'->Mod w w' (fun k=>v.ownBlock=some k)->(∀k,y.ownBlock=some k->v.ownBlock=some k\/w.heap.size<=k)->wpList P ops Q rest (a.put o.dst y) w'):wpList P ops Q (o::rest) a w:=by
 refine wpList_plain C fun K U=>?_
 obtain⟨y,w',τ',X,h2,Y,Z,h5⟩:=Qap (P:=P) w τ g t o.type e i z size bytes M hi N l D E F v n G r B m c news hl p q h1 I d
 unfold Oper.wp execOp
 simp only[L,resolve,invoke,builtin,Sem.run_bind,Sem.run_pure,Result.andThen_ok,List.map_toArray,X1,List.map_nil,O,R,X]
 exact U _ _ (h y w' τ' h2 Y Z h5)
theorem Qkl {P:Program}(w:World) (τ:Tags) (g:Tag) {ops:Array Oper}{o:Oper}{a:Act}{K:Act->World->Prop}{Q:Exit->Act->World->Prop}{E:Prop}(C:o.guard=none) (s x:Operand) (t:TypeId)
 (M:o.op = .call {callee:=.builtin .append,args:=#[s,x],argTypes:=#[t,t]})
 (e:TypeId) (i:TypeInfo) (z:Value) (size bytes:Nat) (N:P.underlying t=some (.slice e)) (hi:P.info? e=some i) (O:i.zero=some z)
 (l:i.size=size) (D:i.bytes=bytes) (F:z.cells.size=size) (G:0<size)
 (v:Value) (n:Nat) (I:List Value) (R:a.eval s=v) (r:Buf w τ g e size v n I)
 (B:Option Addr) (m c:Nat) (news:List Value) (U:a.eval x = .slice B m c) (hl:news.length=m*size) (p:B=none->m=0/\c=0) (q:∀L,B=some L->∀j u,news[j]?=some u->w.cell? (L.add j)=some u) (h1:∀u∈news,u.oneCell'=true)
 (J:n+m<=maxLen) (d:(n+m)*bytes<=140737488355328)
 (h:∀y w' τ',Buf w' τ' g e size y (n+m) (I++news)->Ext w τ τ'->Mod w w' (fun k=>v.ownBlock=some k)->(∀k,y.ownBlock=some k->v.ownBlock=some k\/w.heap.size<=k)->K (a.put o.dst y) w') :
 if Region.wanted o (yielded ops a.tmps)=true then Oper.wp P o a w K Q else E:=by
 have X:Region.wanted o (yielded ops a.tmps)=true:=by simp[Region.wanted,C]
 rw[if_pos X]
 obtain⟨y,w',τ',Y,h2,Z,h4,h5⟩:=Qap (P:=P) w τ g t o.type e i z size bytes N hi O l D F G v n I r B m c news hl p q h1 J d
 unfold Oper.wp execOp
 simp only[M,resolve,invoke,builtin,Sem.run_bind,Sem.run_pure,Result.andThen_ok,List.map_toArray,X1,List.map_nil,R,U,Y]
 exact h y w' τ' h2 Z h4 h5
theorem Qoe {D:Dev}(h:DevAt w τ b D) (f:Nat) (hf:f<256) :
 ∃v,(Calls Tryz.prog 126 #[.pointer (some ⟨b,0,none⟩),.int .u8 (f:Int)] w fun e w'=>e = .returned v/\w=w')/\File w τ f v (D.file f):=by
 obtain⟨v0,v1,pl,d,h0,h1,hl⟩:=h.is
 have c0:=d.at 0 (v:=v0) rfl
 have c1:=d.at 1 (v:=v1) rfl
 by_cases i:f=0
 ·subst i
  refine⟨v0,?_,h0⟩
  clear h0 h1 hl d
  show Calls Tryz.prog 126 #[.pointer (some ⟨b,0,none⟩),.int .u8 0] w _
  go_enter Tryz.func126,Tryz.ntmps126
  go_wp2
  go_ret
  exact⟨rfl,rfl⟩
 by_cases j:f=1
 ·subst j
  refine⟨v1,?_,h1⟩
  clear h0 h1 hl d
  show Calls Tryz.prog 126 #[.pointer (some ⟨b,0,none⟩),.int .u8 1] w _
  go_enter Tryz.func126,Tryz.ntmps126
  go_wp2
  go_ret
  exact⟨rfl,rfl⟩
 ·have k:D.file f=[]:=by simp[Dev.file,i,j]
  rw[k]
  refine⟨.slice none 0 0,?_,none,0,rfl,Z0 _,by simp,fun l=>by simp at l⟩
  have hge:decide ((2:Int)<=(f:Int))=true:=by simp;omega
  clear h0 h1 hl d k i j
  go_enter Tryz.func126,Tryz.ntmps126
  go_wp2
  go_ret
  exact⟨rfl,rfl⟩
def Ja8 (w:World) (τ:Tags) (f:Nat) (l:List Sec) (i:Int) (v:Value):Prop :=
 ((i<0\/(l.length:Int)<=i)/\v = .pointer none) \/
 ∃(k bf:Nat) (xs:List Value) (s:Sec),i=(k:Int)/\l[k]?=some s/\v = .pointer (some ⟨bf,k*2,none⟩)/\Own w τ bf (tRow f) 113 xs/\(∀j t,l[j]?=some t->SecIn w τ f j xs t)
theorem Ja2 {D:Dev}(h:DevAt w τ b D) (f:Nat) (r:f<256) (i:Int) :
 ∃v,(Calls Tryz.prog 120 #[.pointer (some ⟨b,0,none⟩),.int .u8 (f:Int),.int .i64 i] w fun e w'=>e = .returned v/\w=w')/\Ja8 w τ f (D.file f) i v:=by
 obtain⟨v,m,p,cap,rfl,h1,h2,j⟩:=Qoe h f r
 have l:=Z2 m
 clear m h
 by_cases d:0<=i/\i<((D.file f).length:Int)
 ·obtain⟨k,rfl⟩:=Int.eq_ofNat_of_zero_le d.1
  have hk:k<(D.file f).length:=by omega
  obtain⟨bf,s,rfl,o,q⟩:=j (by omega)
  refine⟨.pointer (some ⟨bf,k*2,none⟩),?_,.inr ⟨k,bf,s,(D.file f)[k],rfl,Z3 hk,rfl,o,q⟩⟩
  generalize (D.file f).length=n at *
  have x:decide ((n:Int)<=(k:Int))=false:=by simp;omega
  clear o q j d
  go_enter Tryz.func120,Tryz.ntmps120
  go_wp2_with fail
  refine l.out.mono ?_
  rintro e w' ⟨rfl,rfl⟩
  go_wp2_with fail
  go_ret
  exact⟨rfl,rfl⟩
 ·refine⟨.pointer none,?_,.inl ⟨by omega,rfl⟩⟩
  generalize (D.file f).length=n at *
  clear j
  by_cases h0:i<0
  ·clear d
   go_enter Tryz.func120,Tryz.ntmps120
   go_wp2_with fail
   refine l.out.mono ?_
   rintro e w' ⟨rfl,rfl⟩
   go_wp2_with fail
   go_ret
   exact⟨rfl,rfl⟩
  ·have a0:decide (i<0)=false:=by simp;omega
   have x:decide ((n:Int)<=i)=true:=by simp;omega
   clear d
   go_enter Tryz.func120,Tryz.ntmps120
   go_wp2_with fail
   refine l.out.mono ?_
   rintro e w' ⟨rfl,rfl⟩
   go_wp2_with fail
   go_ret
   exact⟨rfl,rfl⟩
theorem Qjs {D:Dev}(h:DevAt w τ b D) (f:Nat) (i:f<256) :
 Calls Tryz.prog 61 #[.pointer (some ⟨b,0,none⟩),.int .u8 (f:Int)] w fun e w'=>e = .returned (.int .i64 ((D.file f).length:Int))/\w=w':=by
 obtain⟨v,d,p,cap,rfl,h1,h2,j⟩:=Qoe h f i
 have k:=Z2 d
 clear d h j
 go_enter Tryz.func61,Tryz.ntmps61
 go_wp2_with fail
 refine k.out.mono ?_
 rintro e w' ⟨rfl,rfl⟩
 go_wp2_with fail
 go_ret
 exact⟨rfl,rfl⟩
theorem Qtn {D:Dev}(h:DevAt w τ b D) :
 Calls Tryz.prog 10 #[.pointer (some ⟨b,0,none⟩)] w fun e w'=>e = .returned (.bool D.halted)/\w=w':=by
 obtain⟨v0,v1,pl,d,h0,h1,hl⟩:=h.is
 have c3:=d.at 3 (v:=.bool D.halted) rfl
 clear h d h0 h1 hl
 go_enter Tryz.func10,Tryz.ntmps10
 go_wp2
 go_ret
 exact⟨rfl,rfl⟩
theorem Qre {D:Dev}(h:DevAs w τ b D v0 v1) :
 Calls Tryz.prog 165 #[.pointer (some ⟨b,0,none⟩)] w fun e w'=>e = .returned (.bool D.go.1)/\DevAs w' τ b D.go.2 v0 v1/\Mod w w' (fun k=>τ k=tDev\/τ k=tLeft)/\w'.heap.size=w.heap.size:=by
 obtain⟨pl,l,h0,h1,hl⟩:=h.is
 have c2:=l.at 2 (v:=pl) rfl
 have c3:=l.at 3 (v:=.bool D.halted) rfl
 have f3:=l.fz 3
 rcases hl with ⟨rfl,hn⟩|⟨bl,n,rfl,hn,x,d⟩
 ·have m:D.go=(true,D):=by simp[Dev.go,hn]
  rw[m]
  clear m l h0 h1 hn
  go_enter Tryz.func165,Tryz.ntmps165
  go_wp2
  go_ret
  exact⟨rfl,h,Mod.refl _ _,rfl⟩
 ·have p:b≠bl:=l.ne d (by simp[tDev,tLeft])
  have cl:=d.at 0 (v:=.int .i64 (n:Int)) rfl
  have fl:=d.fz 0
  cases n with
  | zero =>
    have m:D.go=(false,{D with halted:=true}):=by simp[Dev.go,hn]
    rw[m]
    have q:Mod w (w.setCell ⟨b,3,none⟩ (.bool true)) (fun k=>τ k=tDev\/τ k=tLeft):=(Mod.refl _ _).setCell (fun _=>.inl l.tag) _
    have hd:DevAs (w.setCell ⟨b,3,none⟩ (.bool true)) τ b {D with halted:=true} v0 v1:=by
     have o:Mod w (w.setCell ⟨b,3,none⟩ (.bool true)) (fun k=>k=b):=Mod.one _ _ _ _
     have j:∀g,g≠tDev->∀k,k<w.heap.size->τ k=g->¬k=b:=fun g r k _ s e=>r (by rw[<-s,e,l.tag])
     refine⟨.pointer (some ⟨bl,0,none⟩),l.set 3 _,h0.mod o (Ext.refl _ _) (j _ (by simp[tRow,tDev])) (fun i=>j _ (by simp[tWait,tDev])) (j _ (by simp[tData,tDev])),
      h1.mod o (Ext.refl _ _) (j _ (by simp[tRow,tDev])) (fun i=>j _ (by simp[tWait,tDev])) (j _ (by simp[tData,tDev])),.inr ⟨bl,0,rfl,hn,x,d.mod o (Ext.refl _ _) (fun e=>p e.symm)⟩⟩
    clear m l h0 h1 hn d
    go_enter Tryz.func165,Tryz.ntmps165
    go_wp2
    go_ret
    exact⟨rfl,hd,q,by simp[World.setCell]⟩
  | succ n =>
    have m:D.go=(true,{D with left:=some n}):=by simp[Dev.go,hn]
    rw[m]
    have q:Mod w (w.setCell ⟨bl,0,none⟩ (.int .i64 (n:Int))) (fun k=>τ k=tDev\/τ k=tLeft):=(Mod.refl _ _).setCell (fun _=>.inr d.tag) _
    have hd:DevAs (w.setCell ⟨bl,0,none⟩ (.int .i64 (n:Int))) τ b {D with left:=some n} v0 v1:=by
     have o:Mod w (w.setCell ⟨bl,0,none⟩ (.int .i64 (n:Int))) (fun k=>k=bl):=Mod.one _ _ _ _
     have j:∀g,g≠tLeft->∀k,k<w.heap.size->τ k=g->¬k=bl:=fun g r k _ s e=>r (by rw[<-s,e,d.tag])
     refine⟨.pointer (some ⟨bl,0,none⟩),l.mod o (Ext.refl _ _) p,h0.mod o (Ext.refl _ _) (j _ (by simp[tRow,tLeft])) (fun i=>j _ (by simp[tWait,tLeft])) (j _ (by simp[tData,tLeft])),
      h1.mod o (Ext.refl _ _) (j _ (by simp[tRow,tLeft])) (fun i=>j _ (by simp[tWait,tLeft])) (j _ (by simp[tData,tLeft])),.inr ⟨bl,n,rfl,rfl,by omega,d.set 0 _⟩⟩
    have hz:(((n+1:Nat):Int)==0)=false:=by simp;omega
    clear m l h0 h1 hn d
    have hmx:n+1<=9223372036854775807:=by have:=x;unfold maxLen at this;omega
    go_enter Tryz.func165,Tryz.ntmps165
    go_wp2
    go_ret
    exact⟨rfl,hd,q,by simp[World.setCell]⟩
theorem Qsi {D:Dev}(h:DevAt w τ b D) :
 Calls Tryz.prog 165 #[.pointer (some ⟨b,0,none⟩)] w fun e w'=>e = .returned (.bool D.go.1)/\DevAt w' τ b D.go.2/\Mod w w' (fun k=>τ k=tDev\/τ k=tLeft)/\w'.heap.size=w.heap.size:=by
 obtain⟨v0,v1,h⟩:=h.as
 exact(Qre h).mono fun e w' ⟨a,b,c,d⟩=>⟨a,b.at,c,d⟩
theorem Qrh {D:Dev}(h:DevAs w τ b D v0 v1) (f:Nat) (hf:f<256) :
 Calls Tryz.prog 126 #[.pointer (some ⟨b,0,none⟩),.int .u8 (f:Int)] w fun e w'=>e = .returned (fileV v0 v1 f)/\w=w':=by
 obtain⟨pl,d,h0,h1,hl⟩:=h.is
 have c0:=d.at 0 (v:=v0) rfl
 have c1:=d.at 1 (v:=v1) rfl
 clear h0 h1 hl d h
 by_cases i:f=0
 ·subst i
  show Calls Tryz.prog 126 #[.pointer (some ⟨b,0,none⟩),.int .u8 0] w _
  go_enter Tryz.func126,Tryz.ntmps126
  go_wp2
  go_ret
  exact⟨rfl,rfl⟩
 by_cases j:f=1
 ·subst j
  show Calls Tryz.prog 126 #[.pointer (some ⟨b,0,none⟩),.int .u8 1] w _
  go_enter Tryz.func126,Tryz.ntmps126
  go_wp2
  go_ret
  exact⟨rfl,rfl⟩
 ·have k:fileV v0 v1 f = .slice none 0 0:=by simp[fileV,i,j]
  rw[k]
  have hge:decide ((2:Int)<=(f:Int))=true:=by simp;omega
  clear k i j c0 c1
  go_enter Tryz.func126,Tryz.ntmps126
  go_wp2
  go_ret
  exact⟨rfl,rfl⟩
theorem at_as {D:Dev}(h:DevAs w τ b D v0 v1) (f:Nat) (j:f<256) {bf n cap:Nat}(i:fileV v0 v1 f = .slice (some ⟨bf,0,none⟩) n cap) (hn:n<=4096) (k:Nat) (hk:k<n) :
 Calls Tryz.prog 120 #[.pointer (some ⟨b,0,none⟩),.int .u8 (f:Int),.int .i64 (k:Int)] w fun e w'=>e = .returned (.pointer (some ⟨bf,k*2,none⟩))/\w=w':=by
 have d:=Qrh h f j
 rw[i] at d
 have l:=Z2 d
 have a1:decide ((n:Int)<=(k:Int))=false:=by simp;omega
 clear d h i
 go_enter Tryz.func120,Tryz.ntmps120
 go_wp2_with fail
 refine l.out.mono ?_
 rintro e w' ⟨rfl,rfl⟩
 go_wp2_with fail
 go_ret
 exact⟨rfl,rfl⟩
theorem Tryz.infoU8:(Tryz.prog.info? 5).map (fun i=>(i.zero,i.size,i.bytes))=some (some (.int .u8 0),1,1):=by kernel_rfl
theorem Qkd (l:List Int):∀u∈u8s l,u.oneCell'=true:=ints_oneCell .u8 l
theorem Bytes.news {p:Option Addr} {c:Nat} {l:List Int}(h:Bytes w τ g (.slice p n c) l) :
 n=l.length/\∀a,p=some a->∀j u,(u8s l)[j]?=some u->w.cell? (a.add j)=some u:=by
 obtain⟨p',c',i,h1,h2,m⟩:=h.is
 simp only[Value.slice.injEq] at i
 obtain⟨rfl,rfl,rfl⟩:=i
 refine⟨rfl,fun a q j u hu=>?_⟩
 have k:j<l.length:=by have:=(Z4 hu).1;rwa [Qac] at this
 obtain⟨b,o,e,ht,d⟩:=m (by omega)
 rw[q] at e
 simp only[Option.some.injEq] at e
 subst e
 rw[Qfw l j k] at hu
 rw[<-Option.some.inj hu,<-d j k]
 unfold Addr.add;split <;> simp_all
theorem Buf.bytes {l:List Int}(h:Buf w τ g 5 1 v n (u8s l)) (d:IsB l):Bytes w τ g v l:=by
 obtain⟨h1,⟨rfl,rfl⟩|⟨b,cap,ys,rfl,e,h3,j,k⟩⟩:=h
 ·have:l=[]:=List.eq_nil_of_length_eq_zero (by simpa [u8s] using h1)
  subst this
  exact⟨d,none,0,rfl,Z0 _,Z9 _,fun m=>by simp at m⟩
 ·have hn:n=l.length:=by rw[Qac] at h1;omega
  subst hn
  refine⟨d,some ⟨b,0,none⟩,cap,rfl,j,k,fun hl=>⟨b,0,rfl,e.tag,fun i hi=>?_⟩⟩
  rw[Nat.zero_add,e.cell,Y5 (by rw[Qac];exact hi),Qfw l i hi]
def NewB (w:World) (τ:Tags) (g:Tag) (l:List Int) (e:Ending) (w':World):Prop:=∃u τ',e = .returned u/\Bytes w' τ' g u l/\Ext w τ τ'/\Mod w w' no
theorem Qeb {l:List Int}(h:Bytes w τ g v l) (z:Tag) (e:l.length<=100000000) :
 Calls Tryz.prog 118 #[v] w (NewB w τ z l):=by
 have L:=h.isB
 obtain⟨p,c,rfl,h1,h2,M⟩:=h.is
 obtain⟨_,i⟩:=h.news
 cases p with
 | none =>
   have hl:l=[]:=by
    cases l with
    | nil=>rfl
    | cons x r=>obtain⟨b,o,s,_⟩:=M (by simp);cases s
   subst hl
   have B:=fun (W:World) (a:Option Addr) (n c:Nat)=>Lib.run_eql_slice_nil (P:=Tryz.prog) W 37 5 a n c 0 0 Tryz.underlying37
   clear e
   go_enter Tryz.func118,Tryz.ntmps118
   go_wp2
   go_ret
   exact⟨_,τ,rfl,⟨L,none,0,rfl,Z0 _,Z9 _,fun y=>by simp at y⟩,Ext.refl _ _,Mod.refl _ _⟩
 | some a =>
   obtain⟨i0,hi,E,F,G⟩:=info_parts Tryz.infoU8
   have m:Buf (w.alloc (.cells #[] 5)) (τ.put w.heap.size z) z 5 1 (.slice (some ⟨w.heap.size,0,none⟩) 0 0) 0 [] :=
    ⟨rfl,.inr ⟨w.heap.size,0,[],rfl,Own.new w τ z _ [],Z0 _,Z0 _,Z9 _⟩⟩
   have N:Mod w (w.alloc (.cells #[] 5)) no:=(Mod.refl _ _).alloc _
   have d:∀C,some a=some C->∀j u,(u8s l)[j]?=some u->(w.alloc (.cells #[] 5)).cell? (C.add j)=some u:=by
    intro C had j u hu
    have y:=i C had j u hu
    have I:C.block<w.heap.size:=by
     have:=World.block_lt_of_cell? w _ y
     unfold Addr.add at this;split at this <;> exact this
    rw[<-y]
    exact World.cell?_of_block (w:=w) (Below.heap_alloc _ _ _ (by unfold Addr.add;split <;> exact I))
   obtain⟨R,U,X⟩:=hid3 d m N
   have B:=fun (W:World) (a:Option Addr) (n c:Nat)=>Lib.run_eql_slice_nil (P:=Tryz.prog) W 37 5 a n c 0 0 Tryz.underlying37
   have q:=Z2 e
   clear i d m N M h e
   go_enter Tryz.func118,Tryz.ntmps118
   go_wp2_with (at_builtin;refine Qe0 _ _ z rfl _ _ 37 rfl 5 i0 (.int .u8 0) 1 1 Tryz.underlying37 hi E F G rfl (by decide) (.slice (some ⟨w.heap.size,0,none⟩) 0 0) 0 [] rfl U.out (some a) l.length c (u8s l) rfl (by rw[Qac,Nat.mul_one]) (by intro y;cases y) R.out (Qkd l) (by have:=q.out;unfold maxLen;omega) (by have:=q.out;omega) ?_;intro v' w' τ' s O D J;clear J;obtain⟨Y,Z,M1⟩:=hid3 s O D;clear s O D)
   go_ret
   have s:=Y.out
   rw[Nat.zero_add,List.nil_append] at s
   refine⟨_,τ',rfl,s.bytes L,Ext.trans ((Ext.refl w τ).put _ z (Z0 _)) Z.out (by simp),X.out.seq M1.out (fun k hk hS=>?_)⟩
   have y:w.heap.size=k:=by simpa [Value.ownBlock] using hS
   omega
theorem Qin {i bf:Nat} {B:List Value} {s:Sec}(l:Own w τ bf (tRow f) 113 B) (D:SecIn w τ f i B s) :
 ∃v,(Calls Tryz.prog 121 #[.pointer (some ⟨bf,i*2,none⟩)] w fun e w'=>e = .returned v/\w=w')/\Bytes w τ tData v s.newest/\s.newest.length=128:=by
 obtain⟨⟨hl,v,y,o⟩,⟨u,hu,E⟩⟩:=D
 have c0:=l.at _ y
 have c1:=l.at _ hu
 rcases E with ⟨rfl,hn⟩|⟨b,cap,ys,zs,rfl,k,h1,h2,C,hk⟩
 ·have d:s.newest=s.last:=by simp[Sec.newest,hn]
  rw[d]
  refine⟨v,?_,o,hl⟩
  clear l y hu o hn d hl
  go_enter Tryz.func121,Tryz.ntmps121
  go_wp2
  go_ret
  exact⟨rfl,rfl⟩
 ·by_cases p:s.waits=[]
  ·have d:s.newest=s.last:=by simp[Sec.newest,p]
   rw[d]
   refine⟨v,?_,o,hl⟩
   rw[p] at c1
   clear l y hu o p d hl k hk h1 h2
   go_enter Tryz.func121,Tryz.ntmps121
   go_wp2
   go_ret
   exact⟨rfl,rfl⟩
  ·have q:0<s.waits.length:=List.length_pos_iff.2 p
   obtain⟨m,z⟩:∃m,s.waits.length=m+1:=⟨s.waits.length-1,by omega⟩
   have h:s.waits[m]?=some s.newest:=by
    unfold Sec.newest
    rw[List.getLastD_eq_getLast?,List.getLast?_eq_getElem?,z]
    simp only[Nat.add_sub_cancel]
    rw[Z3 (by omega)];rfl
   obtain⟨j,u,r,x⟩:=hk m _ h
   refine⟨u,?_,x,j⟩
   have cm:=k.at m (v:=u) (by rw[Y5 (by omega)];exact r)
   rw[z] at c1
   have hmx:m+1<=9223372036854775807:=by unfold maxLen at C;omega
   clear l y hu o p hl k hk h1 h2 h x q r j C z
   go_enter Tryz.func121,Tryz.ntmps121
   go_wp2
   go_ret
   exact⟨rfl,rfl⟩
theorem Qwj {D:Dev}(h:DevAt w τ b D) (f:Nat) (i:f<256) (k:Nat) (hk:k<(D.file f).length) :
 ∃bf d,(Calls Tryz.prog 120 #[.pointer (some ⟨b,0,none⟩),.int .u8 (f:Int),.int .i64 (k:Int)] w fun e w'=>e = .returned (.pointer (some ⟨bf,k*2,none⟩))/\w=w') /\
   Own w τ bf (tRow f) 113 d/\∀(j:Nat) (t:Sec),(D.file f)[j]?=some t->SecIn w τ f j d t:=by
 obtain⟨v,l,⟨hi,rfl⟩|⟨m,bf,d,s,hkk,hk',rfl,o,p⟩⟩:=Ja2 h f i (k:Int)
 ·omega
 ·have:k=m:=by omega
  subst this
  exact⟨bf,d,l,o,p⟩
def ReadD (w:World) (τ:Tags) (g:Tag) (l:List Int) (e:Ending) (w':World):Prop:=∃u τ',e = .returned (.tuple #[u,.int .u16 0])/\Bytes w' τ' g u l/\Ext w τ τ'/\Mod w w' no
theorem Qw9 {D:Dev}(h:DevAt w τ b D) (f:Nat) (q:f<256) (k:Nat) (s:Sec) (hk:(D.file f)[k]?=some s) (g:Tag) :
 Calls Tryz.prog 53 #[.pointer (some ⟨b,0,none⟩),.int .u8 (f:Int),.int .i64 (k:Int)] w (ReadD w τ g s.newest):=by
 obtain⟨bf,xs,j,l,m⟩:=Qwj h f q k (Z4 hk).1
 obtain⟨v,hn,d,hl⟩:=Qin l (m k s hk)
 have i:=Qeb d g (by omega)
 obtain⟨r,x,y⟩:=hid3 j hn i
 clear j hn i h hk m d hl l
 go_enter Tryz.func53,Tryz.ntmps53
 go_wp2_with fail
 refine r.out.mono ?_
 rintro e w' ⟨rfl,rfl⟩
 go_wp2_with fail
 refine x.out.mono ?_
 rintro e w' ⟨rfl,rfl⟩
 go_wp2_with fail
 refine y.out.mono ?_
 rintro e w' ⟨u,τ',rfl,d,o,p⟩
 obtain⟨B,E,M⟩:=hid3 d o p
 clear d o p
 go_wp2_with fail
 go_ret2
 exact⟨u,τ',rfl,B.out,E.out,M.out⟩
theorem Waits.len {l:List (List Int)}(h:Waits w τ g v l):∃p c,v = .slice p l.length c:=by
 rcases h with ⟨rfl,rfl⟩|⟨b,cap,xs,ys,rfl,_⟩
 ·exact⟨none,0,rfl⟩
 ·exact⟨_,_,rfl⟩
theorem Qui {D:Dev}(h:DevAt w τ b D) (f:Nat) (m:f<256) (k:Nat) (s:Sec) (hk:(D.file f)[k]?=some s) :
 Calls Tryz.prog 287 #[.pointer (some ⟨b,0,none⟩),.int .u8 (f:Int),.int .i64 (k:Int)] w fun e w'=>e = .returned (.int .i64 (s.waits.length:Int))/\w=w':=by
 obtain⟨bf,xs,d,i,j⟩:=Qwj h f m k (Z4 hk).1
 obtain⟨_,u,hu,l⟩:=j k s hk
 obtain⟨p,c,rfl⟩:=l.len
 have c1:=i.at _ hu
 have o:=Z2 d
 clear d h hk j i l hu
 go_enter Tryz.func287,Tryz.ntmps287
 go_wp2_with fail
 refine o.out.mono ?_
 rintro e w' ⟨rfl,rfl⟩
 go_wp2_with fail
 go_ret
 exact⟨rfl,rfl⟩
theorem Tryz.infoU8s:(Tryz.prog.info? 37).map (fun i=>(i.zero,i.size,i.bytes))=some (some (.slice none 0 0),1,24):=by kernel_rfl
theorem Waits.buf {l:List (List Int)}(h:Waits w τ g v l) :
 ∃d,Buf w τ g 37 1 v l.length d/\∀(k:Nat) (x:List Int),l[k]?=some x->x.length=128/\∃u,d[k]?=some u/\Bytes w τ tData u x:=by
 rcases h with ⟨rfl,rfl⟩|⟨b,cap,d,ys,rfl,e,h1,h2,i,hk⟩
 ·exact⟨[],Buf.nil _ _ _ _ _,fun k x j=>by simp at j⟩
 ·exact⟨d,⟨by omega,.inr ⟨b,cap,ys,rfl,e,by omega,by omega,i⟩⟩,hk⟩
theorem Buf.waits {l:List (List Int)} {d:List Value}(h:Buf w τ g 37 1 v l.length d)
 (hk:∀(k:Nat) (x:List Int),l[k]?=some x->x.length=128/\∃u,d[k]?=some u/\Bytes w τ tData u x):Waits w τ g v l:=by
 obtain⟨h1,⟨rfl,h2⟩|⟨b,cap,ys,rfl,e,h3,h4,i⟩⟩:=h
 ·exact .inl ⟨rfl,List.eq_nil_of_length_eq_zero h2⟩
 ·exact .inr ⟨b,cap,d,ys,rfl,e,by omega,by omega,i,hk⟩
theorem Qsr {D:Dev}(h:DevAt w τ b D) (f:Nat) (hf:f<2) (k:Nat) (hk:k<(D.file f).length) (p:Option Addr) (c:Nat) (i:D.go.1=false) :
 Calls Tryz.prog 100 #[.pointer (some ⟨b,0,none⟩),.int .u8 (f:Int),.int .i64 (k:Int),.slice p 128 c] w fun e w'=>e = .returned (.int .u16 0)/\DevAt w' τ b D.go.2/\Mod w w' (fun k=>τ k=tDev\/τ k=tLeft)/\w'.heap.size=w.heap.size:=by
 obtain⟨bf,xs,j,o,q⟩:=Qwj h f (by omega) k hk
 have d:=Qsi h
 rw[i] at d
 obtain⟨r,s⟩:=hid2 j d
 clear j d h hk o q i
 go_enter Tryz.func100,Tryz.ntmps100
 go_wp2_with fail
 refine r.out.mono ?_
 rintro e w' ⟨rfl,rfl⟩
 go_wp2_with fail
 refine s.out.mono ?_
 rintro e w' ⟨rfl,hd,l,m⟩
 obtain⟨x,y,z⟩:=hid3 hd l m
 clear hd l m
 go_wp2_with fail
 go_ret
 exact⟨rfl,x.out,y.out,z.out⟩
def Sec.add (s:Sec) (l:List Int):Sec:={s with waits:=s.waits++[l]}
theorem File.add {l:List Sec} {bf cap:Nat} {G:List Value} {k:Nat} {s:Sec}(hn:n=l.length) (r:l.length<=cap) (z:l.length<=4096) (hk:l[k]?=some s) {S:Nat->Prop}(m:Mod w w' S) (e:Ext w τ τ')
 (I:∀j,j<w.heap.size->S j->j=bf\/τ j=tWait f k) (J:τ bf=tRow f) {u:Value} (L:Own w' τ' bf (tRow f) 113 (G.set (k*2+1) u))
 (x:∀j t,l[j]?=some t->SecIn w τ f j G t) {s':Sec} (hl:s'.last=s.last) (M:Waits w' τ' (tWait f k) u s'.waits) :
 File w' τ' f (.slice (some ⟨bf,0,none⟩) n cap) (l.set k s'):=by
 subst hn
 have hd:∀j,j<w.heap.size->τ j=tData->¬S j:=fun j p d B=>by
  rcases I j p B with rfl|h
  ·rw[J] at d;simp[tRow,tData] at d
  ·rw[h] at d;simp[tWait,tData] at d
 have C:=(Z4 hk).1
 refine⟨_,cap,by rw[Y1],by simpa using r,by simpa using z,fun _=>⟨bf,_,rfl,L,fun j t p=>?_⟩⟩
 by_cases y:j=k
 ·subst y
  rw[List.getElem?_set_self C] at p
  cases p
  obtain⟨⟨a,v,D,o⟩,⟨q,E,_⟩⟩:=x j s hk
  refine⟨⟨by rw[hl];exact a,v,?_,by rw[hl];exact o.mod m e hd⟩,⟨u,?_,M⟩⟩
  ·rw[List.getElem?_set_ne (by omega)];exact D
  ·rw[List.getElem?_set_self (Z4 E).1]
 ·rw[List.getElem?_set_ne (fun h=>y h.symm)] at p
  have hi:=(x j t p).mod m e (fun i hi d B=>by
   rcases I i hi B with rfl|h
   ·rw[J] at d;simp[tRow,tWait] at d
   ·rw[h] at d;simp[tWait] at d;omega) hd
  obtain⟨⟨a,v,D,o⟩,⟨q,E,F⟩⟩:=hi
  refine⟨⟨a,v,?_,o⟩,⟨q,?_,F⟩⟩
  ·rw[List.getElem?_set_ne (by omega)];exact D
  ·rw[List.getElem?_set_ne (by omega)];exact E
