/-
 Transactions,the laws' beginnings: New,Begin over the world of records and slots,shelf,Make.
-/
import Derived.Test.YtociicnopccppaaGreatMSlH
import Derived.Test.YtociicnopccppaaGreatMMakeG
import Derived.Deep.Slices
import Derived.Deep.Fields
import Derived.ChangeSame
import Derived.ChangeSlices
import Derived.Carry
set_option maxRecDepth 100000
set_option linter.all false
namespace Go.Proofs.YtociicnopccppaaGreat
open Go.RowKit Go.Maps
theorem Qm4 (n t:Nat) (hn:n<4294967296):qb7 (qaf n) t=[] :=
 Qe7 (Qb7 (by rw[Qea n hn];exact Z9 _))
theorem qbj.fst {g:Tag}(h:qbj g):(2<=g.1/\g.1<=33)\/(198<=g.1/\g.1<=209)\/(300<=g.1/\g.1<=303):=by
 rcases h with (h|h|h)|h
 ·rcases h with h|h
  ·have:=h.fst;omega
  ·have:=h.fst;omega
 ·unfold Qai at h;omega
 ·rw[h];simp
 ·unfold qa4 at h;omega
theorem Qdw {g:Tag}(h:qbj g):qb5 g:=by have:=h.fst;show g.1≠90;omega
theorem Qwi {n:Nat}(hn:n<4294967296):(Qic n).ok:=⟨by rfl,by show (1:Nat)≠8;omega,hn,by show 0<18446744073709551616;omega,by show 0<18446744073709551616;omega,by show 0<4294967296;omega,by show 0<65536;omega⟩
def Jbb (w:World) (τ:qa1) (I:Ids) (bo:Nat->Nat) (X:List qa9) (next:Nat) (R:List qak) (V:qbd) (st:Nat) (e:Ending) (w':World):Prop :=
 ∃τ',Step w τ w' τ' qbj /\
 ((¬(qae R).length+27+(qci X+54)<=I.S*127/\e = .returned (.tuple #[.int .u32 0,.int .u16 80])/\TZ w' τ' I bo X next R V st) \/
 ((qae R).length+27+(qci X+54)<=I.S*127/\e = .returned (.tuple #[.int .u32 next,.int .u16 0])/\∃nb,TZ w' τ' I (qi2 bo next nb) (X++[qdp next (1+(qae R).length)]) (next+1) (R++[Qic next]) V st))
theorem Qry {w:World}{τ:qa1}{I:Ids}{bo:Nat->Nat}{X:List qa9}{next:Nat}{R:List qak}{V:qbd}{st:Nat}(h:TZ w τ I bo X next R V st) (a:next<=899) (j:X.length<64) :
 Calls Tryz.prog 33 #[.pointer (some ⟨I.bm,0,none⟩)] w (Jbb w τ I bo X next R V st):=by
 obtain⟨H,L,D,F,s,cur,h1,h2,b,d,g⟩:=h.is
 have hlen:=h.len
 have hrl:=Qfk R
 refine(Qwx h1 a j (by rw[h2.starts,Qbc];omega) (by rw[h2.base,h2.stream];omega)).mono ?_
 rintro e w' ⟨c,k,i⟩
 refine⟨c,k.mono (fun _ h=>.inl h),?_⟩
 rw[h2.stream,h2.base,b] at i
 rcases i with ⟨a1,a2,a3⟩|⟨a1,a2,nb,a3⟩
 ·exact .inl ⟨a1,a2,⟨⟨H,L,D,F,s,cur,a3,h2,b,d,g⟩⟩⟩
 ·exact .inr ⟨a1,a2,nb,⟨⟨H,_,D,F,s,cur,a3,h2.more (Qwi oM) (qas.refl _),b,d,g⟩⟩⟩
def Ja9 (w:World) (τ:qa1) (bl bp:Nat) (e:Ending) (w':World):Prop:=∃bm τ',e = .returned (.pointer (some ⟨bm,0,none⟩))/\w.heap.size<=bm/\qbr w' τ' bm bl bp (fun _=>0) [] 1/\Step w τ w' τ' nil
theorem Qmk (w:World) (τ:qa1) (bl bp:Nat):Calls Tryz.prog 31 #[.pointer (some ⟨bl,0,none⟩),.pointer (some ⟨bp,0,none⟩)] w (Ja9 w τ bl bp):=by
 have l:=qg9.made w τ qc8 1000
 have d:=(zS w τ).alloc (.map #[] 0) qc8
 obtain⟨j,b⟩:=gN w.heap.size
 have a:(w.alloc (.map #[] 0)).heap.size=w.heap.size+1:=World.size_alloc _ _
 generalize τ.put w.heap.size qc8=τ1 at *
 rw[b] at l a
 generalize e:w.alloc (.map #[] 0)=W1 at *
 have n:=Own.born W1 τ1 qe4 105 #[.pointer (some ⟨bl,0,none⟩),.pointer (some ⟨bp,0,none⟩),.map (some j),.int .u32 1]
 have c:=(zS W1 τ1).alloc (.cells #[.pointer (some ⟨bl,0,none⟩),.pointer (some ⟨bp,0,none⟩),.map (some j),.int .u32 1] 105) qe4
 have g:=l.step c id
 have h:=d.trans c
 generalize τ1.put W1.heap.size qe4=o at *
 rw[a] at n
 obtain⟨z,p,q,r,i,s⟩:=qcq n g h e b a
 clear n g h e b a l d c
 have hmm:=@run_makeMap Tryz.prog
 go_enter Tryz.func31,Tryz.ntmps31
 go_wp2_with fail
 try rw[r.out]
 try rw[i.out]
 go_ret
 refine⟨j+1,o,by first|rfl|rw[s.out],by have:=i.out;omega,⟨⟨j,z,?_⟩,fun x y=>absurd y sM,by simp[qa9.ids],fun x y=>absurd y sM,oM,sM⟩,q⟩
 have:fOf (fun _=>0) []=fun _=>(none:Option Nat):=by
  funext k
  unfold fOf qa9.ids
  simp
 rw[this]
 exact p
theorem Qun {w:World}{τ:qa1}{bm bl bp bf bd N S k:Nat}{H:qaq}(e:qbz w τ bp bf bd H (qbh (2+2*S)) (nwD (2+2*S) N) (List.replicate k Fr.no) (Ck.Clk.qil k)) (g:qbr w τ bm bl bp (fun _=>0) [] 1) (hn:H.n=N) (hbl:H.bl=bl) (b:H.st=Ji2 (nwD (2+2*S) N) (N+1)) (hN:N<=500) (h:3<=k) (c:k<=64):TZ w τ ⟨bm,bl,bp,bf,bd,N,S⟩ (fun _=>0) [] 1 [] (fun _ _=>[]) 0:=by
 obtain⟨j,l,o,p,e5,e6⟩:=nwL (2+2*S)
 have a:∀i,i<=N+1->Ji2 (nwD (2+2*S) N) i=0:=by
  intro i
  induction i with
  | zero=>intro _;rfl
  | succ i ih =>
    intro hi
    show max (Ji2 (nwD (2+2*S) N) i) (qbu (qap (nwD (2+2*S) N) i 4) 4)=0
    rw[ih oM,qf9 _ N i oM,show qbu blank 4=0 by decide +kernel]
    rfl
 refine⟨⟨H,_,_,_,_,qaf,⟨e,g,qjt _ N k _ oM oM,qi9 k h c,hn,hbl⟩,⟨l,o,fun r d=>absurd d sM,j,fun k r q=>absurd q sM,fun r d=>absurd d sM,Z0 _⟩,by rw[p];show (2+2*S-2)/2=S;omega,by rw[b,a (N+1) (Z0 _)];exact Z0 _,fun n hn=>⟨fun t=>?_,fun t=>Qm4 n t (by have:n<N:=hn;omega)⟩⟩⟩
 rw[Qm4 n t (by have:n<N:=hn;omega)]
 exact⟨Z9 _,fun _=>rfl⟩
def Ja7 (w:World) (N S:Nat) (e:Ending) (w':World):Prop :=
 ∃(I:Ids) (τ':qa1),e = .returned (.tuple #[.pointer (some ⟨I.bm,0,none⟩),.pointer (some ⟨I.bd,0,none⟩)])/\I.N=N/\I.S=S/\TZ w' τ' I (fun _=>0) [] 1 [] (fun _ _=>[]) 0/\Step w (fun _=>qay) w' τ' qb5
end Go.Proofs.YtociicnopccppaaGreat
namespace Go.Proofs.YtociicnopccppaaGreat
open Go.RowKit
def boxed:qa1:=fun _=>qay
theorem Qcq {w c:World}{τ a:qa1}{S:Tag->Prop}(m:Step w τ c a S) {b o:Nat}{v:Value}(h:w.cell? ⟨b,o,none⟩=some v) (d:¬S (τ b)):c.cell? ⟨b,o,none⟩=some v:=by
 have e:=qb0 h
 have:=m.mod.block b e d
 unfold World.cell? at h ⊢
 rw[this];exact h
theorem Qhl:¬qb5 qay:=fun h=>h rfl
end Go.Proofs.YtociicnopccppaaGreat
namespace Go.Proofs.YtociicnopccppaaGreat.ArgsQ
open Go.ChangeShapes Go.WideShapes Go.Deep Go.RowKit
section
variable {H : Type} {enc : TypeId × Value -> H} {P : Program} {w : World} {base : Nat} {spare : Nat -> Bool} {held : Bool}
theorem qe5 {t e:TypeId}{g:Array Field}{fuel:Nat}{cs:List Value}{x:DataW H×List MemPlace}(E:P.underlying t=some (.slice e)) (F:P.underlying e=some (.struct g))
 (k:oneCellFields P g=true) (G:P.cellsOf e=g.size) (h:DataW.trod enc P w base spare held fuel t cs=some x) :
 cs=[.slice none 0 0] \/
 ∃(a:Addr) (len cap m:Nat),cs=[.slice (some a) len cap]/\len<=cap/\cap<=maxLen/\len<=m /\
   ∀i,i<m->∀(j:Nat) (f:Field),g[j]?=some f->∃(v:Value) (n:Nat) (y:DataW H×List MemPlace),w.cell? (a.add (i*g.size+j))=some v/\DataW.trod enc P w base spare held n f.type [v]=some y:=by
 rcases open_slice E h with h0|⟨a,len,cap,m,n,D,Pl,l,hb,hl,I,o,hx,hi⟩
 ·exact .inl h0.1
 ·refine .inr ⟨a,len,cap,m,l,hl,I,by rw[o];split <;> omega,fun i p j f q=>?_⟩
  obtain⟨b,C,r⟩:=hi i p
  rw[G] at C
  obtain⟨ys,J,hn',hy,hlen,hyl,L⟩:=DataW.trod_struct F r
  obtain⟨_,hcl,s⟩:=World.cells?_some C
  obtain⟨M,O⟩:=hone_of k j f q
  have z:j<g.size:=(Array.getElem?_eq_some_iff.1 q).1
  have c:=s j z
  have hv:b[j]?=some (b[j]'oM):=Z3 oM
  have h1:=L j f q
  rw[M,O] at h1
  have d:(b.drop j).take 1=[b[j]'oM]:=by
   rw[List.drop_eq_getElem_cons oM]
   rfl
  rw[d] at h1
  have B:ys[j]?=some (ys[j]'oM):=Z3 oM
  refine⟨_,J,_,?_,h1.trans B⟩
  rw[<-Go.Deep.add_add,c,hv]
theorem Qoz {a:Addr}{v:Value}(h:w.cell? (a.add 0)=some v):a.spot=none:=by
 cases b:a.spot with
 | none=>rfl
 | some s =>
   exfalso
   simp[World.cell?,Addr.add,b] at h
   split at h <;> simp_all
theorem Qyv (bl a k:Nat):(⟨bl,a,none⟩:Addr).add k=⟨bl,a+k,none⟩:=by
 unfold Addr.add
 split
 ·next h=>subst h;rfl
 ·rfl
end
section
variable {H : Type} {enc : TypeId × Value -> H} {P : Program}
theorem Qnp {f:Func}{s:ChangeSpec}{apart fresh a again:Bool}{W l:World}{args:Array Value}{v:Value}{n o:List (DataW H)}{before pa pv:List MemPlace}
 (hW:DataW.Whole enc P f.params.toList s.vars apart W args.toList n o before)
 (h:∀(b:Nat) (k:Nat->Bool) (hd:Bool),DataW.TrodAll enc P l b k hd f.resultTypes.toList (v.resultList f.resultTypes.size) (s.fn H (n++o)).results [])
 (c:∀k:Nat->Bool,(∀p∈before,k p.block=true)->DataW.TrodAll enc P l 0 k true f.params.toList args.toList (s.fn H (n++o)).args pa)
 (d:∀k:Nat->Bool,(∀p∈before,k p.block=true)->DataW.TrodVars enc P l k s.vars (s.fn H (n++o)).vars pv)
 (g:before=pa++pv) (z:Below W.heap.size W l)
 (y:∀(j:Nat) (t:TypeId) (r:Value),f.resultTypes[j]?=some t->(v.resultList f.resultTypes.size)[j]?=some r->Value.okWide P l .any 0 t r) :
 s.post enc P f apart fresh a again W args v l:=by
 have q:∀p∈before,p.block<W.heap.size:=fun p e=>hW.lt p e
 have i:∀p∈before,(fun b=>decide (b<W.heap.size)) p.block=true:=fun p e=>by simpa using q p e
 refine⟨n,o,before,[],pa,pv,hW,h _ _ _,c _ i,d _ i,World.keptBut_mono (fun p e=>⟨e,?_⟩) (z.frame (·∈before)),fun _=>?_⟩
 ·rw[g,List.mem_append] at e
  exact Or.inr e
 ·obtain⟨_,_,_,_,_,B,hn⟩:=hW
  refine⟨y,_,_,([]++pa)++pv,⟨[]++pa,pv,trodAll_append (c _ (fun _ _=>rfl)) (h _ _ _),d _ (fun _ _=>rfl),rfl,?_,?_⟩,?_⟩
  ·intro b off e
   have x:MemPlace.cell b off∈before:=by rw[g];simpa using e
   rw[z.frozen (q _ x)]
   exact B b off x
  ·intro C
   have:=hn C
   rw[g] at this
   simpa using this
  ·intro p e _
   rw[g]
   simpa using e
end
section
variable {H : Type} {enc : TypeId × Value -> H} {W : World} {base : Nat} {spare : Nat -> Bool} {held : Bool}
theorem Qiu {n:Int}(h:(Lit.int .u8 n).wf=true):0<=n/\n<=255:=by simpa [Lit.wf,IntKind.min,IntKind.max,IntKind.signed,IntKind.bits] using h
theorem Qyj {n:Int}(h:(Lit.int .u32 n).wf=true):0<=n/\n<=4294967295:=by simpa [Lit.wf,IntKind.min,IntKind.max,IntKind.signed,IntKind.bits] using h
theorem Qth {v:Value}{fuel:Nat}{x:DataW H×List MemPlace}(h:DataW.trod enc Tryz.prog W base spare held fuel 58 [v]=some x):∃data,Bytes W boxed qay v data:=by
 rcases open_ints Tryz.underlying58 Tryz.underlying5 kR h with ⟨c,_⟩|⟨a,len,cap,zs,c,_,hl,n,p,_,d,k⟩
 ·simp only[List.cons.injEq,and_true] at c
  subst c
  exact⟨[],fun x e=>by simp at e,none,0,rfl,Z0 _,Z9 _,fun e=>by simp at e⟩
 ·simp only[List.cons.injEq,and_true] at c
  subst c
  have l:len<=zs.length:=by rw[p];split <;> omega
  refine⟨zs.take len,fun x e=>Qiu (k x (List.mem_of_mem_take e)),some a,cap,by rw[List.length_take,Nat.min_eq_left l],by rw[List.length_take];omega,n,fun g=>?_⟩
  rw[List.length_take] at g
  have j:=Qoz (d 0 oM)
  obtain⟨b,o,sp⟩:=a
  simp only at j
  subst j
  refine⟨b,o,rfl,rfl,fun i hi=>?_⟩
  rw[List.length_take] at hi
  have:=d i oM
  rw[Qyv] at this
  rw[this,Z5,Z5,List.getElem?_take,if_pos oM]
end
section
variable {H : Type} {enc : TypeId × Value -> H} {P : Program} {w : World} {base : Nat} {spare : Nat -> Bool} {held : Bool}
theorem Jb7 {t F l t3 t4:TypeId}{args:Array Value}{G:List (DataW H)}{ps:List MemPlace}(h:DataW.TrodAll enc P w base spare held [t,F,l,t3,t4] args.toList G ps) :
 ∃v o b v3 v4 d r c s x p y e z B,args=#[v,o,b,v3,v4]/\G=[d,r,c,s,x]/\ps=p++(y++(e++(z++B)))/\DataW.Trod enc P w base spare held t v d p/\DataW.Trod enc P w base spare held F o r y/\DataW.Trod enc P w base spare held l b c e/\DataW.Trod enc P w base spare held t3 v3 s z/\DataW.Trod enc P w base spare held t4 v4 x B:=by
 obtain⟨v,vs,d,dx,p,q,hargs,rfl,rfl,hd,k⟩:=trodAll_cons h
 obtain⟨o,vs',r,dx',y,q',rfl,rfl,rfl,C,g⟩:=trodAll_cons k
 obtain⟨b,vs'',c,dx'',e,q'',rfl,rfl,rfl,n,a⟩:=trodAll_cons g
 obtain⟨v3,vs3,s,ds3,z,q3,rfl,rfl,rfl,D,i⟩:=trodAll_cons a
 obtain⟨v4,vs4,x,ds4,B,q4,rfl,rfl,rfl,E,j⟩:=trodAll_cons i
 obtain⟨rfl,rfl,rfl⟩:=trodAll_nil j
 exact⟨v,o,b,v3,v4,d,r,c,s,x,p,y,e,z,B,by cases args;simp_all,rfl,sM,hd,C,n,D,E⟩
end
structure OpT where
 kd:Nat
 nn:Nat
 pg:Nat
 sl:Int
 p:Option Addr
 m:Nat
 c:Nat
 k:Nat
 at_:Nat
structure qje (w:World) (b o:Nat) (x:OpT):Prop where
 kd:x.kd<256
 pg:x.pg<4294967296
 k:x.k<256
 c0:w.cell? ⟨b,o,none⟩=some (.int .u8 x.kd)
 c1:w.cell? ⟨b,o+1,none⟩=some (.int .u32 x.nn)
 c2:w.cell? ⟨b,o+2,none⟩=some (.int .u32 x.pg)
 c3:w.cell? ⟨b,o+3,none⟩=some (.int .i64 x.sl)
 c4:w.cell? ⟨b,o+4,none⟩=some (.slice x.p x.m x.c)
 c5:w.cell? ⟨b,o+5,none⟩=some (.int .u8 x.k)
 c6:w.cell? ⟨b,o+6,none⟩=some (.int .u64 x.at_)
 nn:x.nn<4294967296
def OpsT (w:World) (a:Option Addr) (len:Nat):Prop:=∀i,i<len->∃bl ol x,a=some ⟨bl,ol,none⟩/\qje w bl (ol+i*7) x
section
variable {H : Type} {enc : TypeId × Value -> H} {W : World} {base : Nat} {spare : Nat -> Bool} {held : Bool}
theorem Jaf {n:Int}(h:(Lit.int .u64 n).wf=true):0<=n/\n<=18446744073709551615:=by simpa [Lit.wf,IntKind.min,IntKind.max,IntKind.signed,IntKind.bits] using h
theorem Qux:∃f0 f1 a b c d f6:Field,Tryz.prog.underlying 80 = some (.struct #[f0,f1,a,b,c,d,f6])/\f0.type = 5 /\ f1.type = 39 /\ a.type = 39 /\ b.type = 3 /\ c.type = 58 /\ d.type = 5 /\ f6.type = 40 := ⟨_,_,_,_,_,_,_,Tryz.underlying80,rfl,rfl,rfl,rfl,rfl,rfl,rfl⟩
theorem Qk6 {v:Value}{d:DataW H}{p:List MemPlace}{L:Nat}(hv:Value.okWide Tryz.prog W .any L 22 v) (h:DataW.Trod enc Tryz.prog W base spare held 22 v d p):∃a len cap,v = .slice a len cap/\len<=maxLen/\OpsT W a len:=by
 obtain⟨a,len,cap,rfl⟩:=okWide_slice Tryz.underlying22 hv
 obtain⟨fuel,M⟩:=h
 obtain⟨f0,f1,o,q,r,s,f6,x,t0,O,R,t3,t4,t5,U⟩:=Qux
 have e:oneCellFields Tryz.prog #[f0,f1,o,q,r,s,f6]=true:=by
  have:(match Tryz.prog.underlying 80 with|some (.struct fs)=>oneCellFields Tryz.prog fs|_=>false)=true:=kR
  rw[x] at this
  exact this
 rcases qe5 Tryz.underlying22 x e kR M with c|⟨a',len',cap',m,c,hl,X,hlm,hi⟩
 ·have b:[Value.slice a len cap]=[Value.slice none 0 0]:=c
  simp only[List.cons.injEq,Value.slice.injEq,and_true] at b
  obtain⟨rfl,rfl,rfl⟩:=b
  exact⟨none,0,0,rfl,Z9 _,fun k Y=>oM⟩
 ·have b:[Value.slice a len cap]=[Value.slice (some a') len' cap']:=c
  simp only[List.cons.injEq,Value.slice.injEq,and_true] at b
  obtain⟨rfl,rfl,rfl⟩:=b
  refine⟨some a',len,cap,rfl,Y3 hl X,fun k Y=>?_⟩
  obtain⟨v0,n0,y0,c0,z0⟩:=hi k oM 0 f0 rfl
  obtain⟨v1,n1,y1,c1,y⟩:=hi k oM 1 f1 rfl
  obtain⟨v2,n2,y2,c2,z⟩:=hi k oM 2 o rfl
  obtain⟨v3,n3,y3,c3,z3⟩:=hi k oM 3 q rfl
  obtain⟨v4,n4,y4,c4,z4⟩:=hi k oM 4 r rfl
  obtain⟨v5,n5,y5,c5,z5⟩:=hi k oM 5 s rfl
  obtain⟨v6,n6,y6,c6,B⟩:=hi k oM 6 f6 rfl
  rw[t0] at z0
  rw[O] at y
  rw[R] at z
  rw[t3] at z3
  rw[t4] at z4
  rw[t5] at z5
  rw[U] at B
  obtain⟨m0,C,_,Z⟩:=DataW.trod_int Tryz.underlying5 z0
  obtain⟨m1,D,_,w1⟩:=DataW.trod_int Tryz.underlying39 y
  obtain⟨m2,E,_,w2⟩:=DataW.trod_int Tryz.underlying39 z
  obtain⟨m3,F,_,w3⟩:=DataW.trod_int Tryz.underlying3 z3
  obtain⟨data,hb⟩:=Qth z4
  obtain⟨pb,cb,rfl,-,-⟩:=hb.any
  obtain⟨m5,G,_,w5⟩:=DataW.trod_int Tryz.underlying5 z5
  obtain⟨m6,I,_,w6⟩:=DataW.trod_int Tryz.underlying40 B
  simp only[List.cons.injEq,and_true] at C D E F G I
  subst C D E F G I
  have i:=Qiu Z
  have j:=Qyj w1
  have l:=Qyj w2
  have n:=Qiu w5
  obtain⟨kd,rfl⟩:=Int.eq_ofNat_of_zero_le i.1
  obtain⟨nn,rfl⟩:=Int.eq_ofNat_of_zero_le j.1
  obtain⟨pg,rfl⟩:=Int.eq_ofNat_of_zero_le l.1
  obtain⟨J,rfl⟩:=Int.eq_ofNat_of_zero_le n.1
  obtain⟨at_,rfl⟩:=Int.eq_ofNat_of_zero_le (Jaf w6).1
  obtain⟨_,_,_,cc,-⟩:=hi 0 oM 0 f0 rfl
  have g:=Qoz cc
  obtain⟨bl,ol,sp⟩:=a'
  simp only at g
  subst g
  simp only[Qyv] at c0 c1 c2 c3 c4 c5 c6
  exact⟨bl,ol,⟨kd,nn,pg,m3,pb,data.length,cb,J,at_⟩,rfl,⟨by show kd<256;omega,by show pg<4294967296;omega,by show J<256;omega,c0,c1,c2,c3,c4,c5,c6,by show nn<4294967296;omega⟩⟩
end
end Go.Proofs.YtociicnopccppaaGreat.ArgsQ
namespace Go.Proofs.YtociicnopccppaaGreat.ArgsQ
open Go.ChangeShapes Go.WideShapes Go.Deep Go.RowKit
section
variable {H : Type} {enc : TypeId × Value -> H} {W : World} {base : Nat} {spare : Nat -> Bool} {held : Bool}
instance:Inhabited Fate:=⟨qia⟩
theorem Je1:∃f0 f1 a b:Field,Tryz.prog.underlying 140 = some (.struct #[f0,f1,a,b])/\f0.type = 5 /\ f1.type = 3 /\ a.type = 3 /\ b.type = 3 := ⟨_,_,_,_,Tryz.underlying140,rfl,rfl,rfl,rfl⟩
theorem Jdc {v:Value}{fuel:Nat}{x:DataW H×List MemPlace}(h:DataW.trod enc Tryz.prog W base spare held fuel 23 [v]=some x):∃p c l,v = .slice p l.length c/\l.length<=maxLen/\qf4 W boxed p l:=by
 obtain⟨f0,f1,y,z,B,t0,I,J,t3⟩:=Je1
 have e:oneCellFields Tryz.prog #[f0,f1,y,z]=true:=by
  have:(match Tryz.prog.underlying 140 with|some (.struct fs)=>oneCellFields Tryz.prog fs|_=>false)=true:=kR
  rw[B] at this
  exact this
 rcases qe5 Tryz.underlying23 B e kR h with d|⟨a,len,cap,m,d,hl,hm,hlm,hi⟩
 ·simp only[List.cons.injEq,and_true] at d
  subst d
  exact⟨none,0,[],rfl,Z9 _,fun k x g=>by simp at g⟩
 ·simp only[List.cons.injEq,and_true] at d
  subst d
  have key:∀k,k<len->∃x:Fate,∃b o,a=⟨b,o,none⟩/\qgo W b (o+k*4) x:=fun k q=>by
   obtain⟨v0,n0,y0,c0,z0⟩:=hi k oM 0 f0 rfl
   obtain⟨v1,n1,y1,c1,C⟩:=hi k oM 1 f1 rfl
   obtain⟨v2,n2,y2,c2,D⟩:=hi k oM 2 y rfl
   obtain⟨v3,n3,y3,c3,z3⟩:=hi k oM 3 z rfl
   rw[t0] at z0
   rw[I] at C
   rw[J] at D
   rw[t3] at z3
   obtain⟨m0,E,_,L⟩:=DataW.trod_int Tryz.underlying5 z0
   obtain⟨M,j,_,w1⟩:=DataW.trod_int Tryz.underlying3 C
   obtain⟨O,n,_,w2⟩:=DataW.trod_int Tryz.underlying3 D
   obtain⟨R,G,_,w3⟩:=DataW.trod_int Tryz.underlying3 z3
   simp only[List.cons.injEq,and_true] at E j n G
   subst E j n G
   have r:=Qiu L
   obtain⟨fl,rfl⟩:=Int.eq_ofNat_of_zero_le r.1
   obtain⟨_,_,_,U,-⟩:=hi 0 oM 0 f0 rfl
   have i:=Qoz U
   obtain⟨b,o,sp⟩:=a
   simp only at i
   subst i
   simp only[Qyv] at c0 c1 c2 c3
   exact⟨⟨fl,M,O,R⟩,b,o,rfl,by show fl<256;omega,c0,c1,c2,c3⟩
  obtain⟨F,X⟩:=choose_lt key
  refine⟨some a,cap,(List.range len).map F,sM,by simp;omega,fun k x g=>?_⟩
  have q:k<len:=by have:=(Z4 g).1;simpa using this
  rw[List.getElem?_map,List.getElem?_range q] at g
  have s:F k=x:=by simpa using g
  subst s
  obtain⟨b,o,j,n⟩:=X k q
  exact⟨b,o,by rw[j],rfl,n⟩
end
end Go.Proofs.YtociicnopccppaaGreat.ArgsQ