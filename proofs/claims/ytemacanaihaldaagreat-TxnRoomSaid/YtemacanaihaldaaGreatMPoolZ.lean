/-
 Pools: Dirty,by what the sort does.
-/
import Derived.Test.YtemacanaihaldaaGreatMWalG
set_option maxRecDepth 100000
set_option linter.all false
namespace Go.Proofs.YtemacanaihaldaaGreat
open Go.RowKit
theorem Tryz.infoDirty:(Tryz.prog.info? 195).map (fun i=>(i.zero,i.size,i.bytes))=some (some (.agg #[.int .u32 0,.int .u64 0]),2,16):=by kernel_rfl
def tDirt:Tag:=(97,0)
def dOne (x:Nat×Nat):List Value:=[.int .u32 (x.1:Int),.int .u64 (x.2:Int)]
def Qf1 (l:List (Nat×Nat)):List Value:=l.flatMap dOne
theorem Qx5 (l:List (Nat×Nat)):(Qf1 l).length=l.length*2:=by
 induction l with
 | nil=>rfl
 | cons x l ih =>
   show (dOne x++Qf1 l).length=_
   rw[Z6,ih,Y4]
   show 2+_=_
   omega
theorem Qok (l m:List (Nat×Nat)):Qf1 (l++m)=Qf1 l++Qf1 m:=by simp[Qf1]
theorem Ja0 (l:List (Nat×Nat)) (i j:Nat) (hj:j<2) (hi:i<l.length):(Qf1 l)[i*2+j]?=(dOne (l[i]))[j]?:=by
 induction l generalizing i with
 | nil=>simp at hi
 | cons x l ih =>
   show (dOne x++Qf1 l)[i*2+j]?=_
   have hl:(dOne x).length=2:=rfl
   cases i with
   | zero=>rw[Y5 (by rw[hl];omega)];simp
   | succ i =>
     rw[Y6 (by rw[hl];omega),hl,show (i+1)*2+j-2=i*2+j by omega,ih i (by simpa using hi)]
     rfl
structure ND (n0:Nat) (w:World) (τ:Tags) (g:Tag) (v:Value) (l:List (Nat×Nat)):Prop where
 buf:Buf w τ g 195 2 v l.length (Qf1 l)
 low:∀k,v.ownBlock=some k->n0<=k
theorem ND.nil (n0:Nat) (w:World) (τ:Tags) (g:Tag):ND n0 w τ g (.slice none 0 0) []:=⟨Buf.nil _ _ _ _ _,fun k hk=>by simp[Value.ownBlock] at hk⟩
theorem ND.step {n0:Nat}{w d:World}{τ b:Tags}{S:Tag->Prop}{g:Tag}{v:Value}{l:List (Nat×Nat)}(h:ND n0 w τ g v l) (m:Step w τ d b S) (e:¬S g):ND n0 d b g v l:=⟨h.buf.step m e,h.low⟩
theorem ND.val {n0:Nat}{w:World}{τ:Tags}{g:Tag}{v:Value}{l:List (Nat×Nat)}(h:ND n0 w τ g v l):∃p c,v = .slice p l.length c:=Buf.len h.buf
theorem Qjm {p w:World}{j τ:Tags}{S:Tag->Prop}(r:Step p j w τ S) {g:Tag}{v:Value}{l:List (Nat×Nat)}(m:ND p.heap.size w τ g v l) (x:Nat×Nat) (hsz:l.length<=1000000000) {kb:Nat}(z:kb=w.heap.size)
 {ops:Array Oper} {rest:List Oper} {o:Oper} {a:Act} {Q:Exit->Act->World->Prop} (B:o.guard=none) (s y:Operand)
 (C:o.op = .call {callee:=.builtin .append,args:=#[s,y],argTypes:=#[125,125]}) (N:a.eval s=v) (O:a.eval y = .slice (some ⟨kb,0,none⟩) 1 1)
 (h:∀q i d,ND p.heap.size i d g q (l++[x])->Step p j i d S->Step w τ i d (fun t=>t=g)->wpList Tryz.prog ops Q rest (a.put o.dst q) i):wpList Tryz.prog ops Q (o::rest) a (w.alloc (.cells #[.int .u32 (x.1:Int),.int .u64 (x.2:Int)] 195)):=by
 subst z
 refine wpList_plain B fun K R=>?_
 obtain⟨i0,hi,D,E,F⟩:=info_parts Tryz.infoDirty
 have b:=r.alloc' (.cells #[.int .u32 (x.1:Int),.int .u64 (x.2:Int)] 195)
 have e:=m.step ((Step.refl w τ Go.Proofs.YtemacanaihaldaaGreat.nil).alloc' (.cells #[.int .u32 (x.1:Int),.int .u64 (x.2:Int)] 195)) (fun h=>h)
 obtain⟨q,i,d,U,G,L,M,I⟩:=Qap (P:=Tryz.prog) (w.alloc (.cells #[.int .u32 (x.1:Int),.int .u64 (x.2:Int)] 195)) τ g 125 o.type 195 i0 (.agg #[.int .u32 0,.int .u64 0]) 2 16 Tryz.underlying125 hi D E F rfl (by decide) v l.length (Qf1 l) e.buf
  (some ⟨w.heap.size,0,none⟩) 1 1 (dOne x) rfl (fun h=>by cases h) (by
    intro ad had;cases had;exact World.news_of_block (cs:=#[.int .u32 (x.1:Int),.int .u64 (x.2:Int)]) (t := 195) (fr:=(0,0)) (heap_alloc_new w _)) (by intro u hu;simp[dOne] at hu;rcases hu with rfl|rfl <;> rfl) (by unfold maxLen;omega) (by omega)
 unfold Oper.wp execOp
 simp only[C,resolve,invoke,builtin,Sem.run_bind,Sem.run_pure,Result.andThen_ok,List.map_toArray,X1,List.map_nil,N,O,U]
 refine R _ _ (h q i d ⟨?_,fun k hk=>?_⟩ ⟨b.mod.seq M (fun k hk J=>absurd (e.low k J) (by omega)),b.ext.trans L b.size⟩ (((Step.refl w τ _).alloc' _).trans ⟨M.mono (fun k hk J=>(e.buf.own k J).1),L⟩))
 ·rw[Z6,Qok,show Qf1 [x]=dOne x by simp[Qf1]];exact G
 ·rcases I k hk with h|h
  ·exact e.low k h
  ·have:=b.size;omega
def Qfs (F:List Fr) (i:Nat):List (Nat×Nat):=((F.take i).filter (fun f=>decide (0<f.first))).map (fun f=>(f.n,f.first))
theorem Qpv {F:List Fr}{i:Nat}{f:Fr}(b:F[i]?=some f):Qfs F (i+1)=Qfs F i++(if 0<f.first then [(f.n,f.first)] else []):=by
 unfold Qfs
 rw[List.take_add_one,b,List.filter_append,List.map_append]
 congr 1
 by_cases h:0<f.first <;> simp[h]
theorem Qg6 (F:List Fr) (i:Nat):(Qfs F i).length<=i:=by
 unfold Qfs
 rw[Y0]
 exact Y3 (List.length_filter_le _ _) (by rw[List.length_take];exact Nat.min_le_left _ _)
def Qyu (F:List Fr):List (Nat×Nat):=Qfs F F.length
def SortD (K:Nat):Prop:=∀(n0:Nat) (W:World) (T:Tags) (v:Value) (l:List (Nat×Nat)),l.length<=K->ND n0 W T tDirt v l ->
 Calls Tryz.prog 146 #[v,.func (.func 147) #[] #[]] W fun e w'=>e = .returned (.tuple #[])/\∃l',l'.Perm l/\l'.Pairwise (fun x y=>x.1<=y.1)/\ND n0 w' T tDirt v l'/\Mod W w' (fun k=>v.ownBlock=some k)
theorem Jaz {w:World}{τ:Tags}{bp bf:Nat}{H:PoolH}{F:List Fr}{s:Ck.Clk.St}(h:PoolAt w τ bp bf H F s) (r:SortD F.length) :
 Calls Tryz.prog 85 #[.pointer (some ⟨bp,0,none⟩)] w fun e M=>∃v C N,e = .returned v/\N.Perm (Qyu F)/\N.Pairwise (fun x y=>x.1<=y.1)/\ND w.heap.size M C tDirt v N/\Step w τ M C nil:=by
 have d2:=h.hd.at 2 (v:=H.vf) rfl
 rw[h.vf] at d2
 have hk:=h.k1
 have O:Qyu F=Qfs F F.length:=rfl
 generalize hl:F.length=k at *
 obtain⟨a8,Hl,I,aa⟩:=hid4 h hl r O
 clear h hl r O
 go_enter Tryz.func85,Tryz.ntmps85
 go_wp2_with fail
 go_loopw [3,11] (fun m v wr=>∃(i:Nat) (b:Tags),i<=k/\v = .int .i64 (i:Int)/\ND w.heap.size wr b tDirt m (Qfs F i)/\Step w τ wr b nil) (fun _ v _=>k-(intOf v).toNat)
 case atStart=>exact⟨0,τ,Z9 _,rfl,ND.nil _ _ _ _,Step.refl _ _ _⟩
 case round =>
  obtain⟨i,b,hi,rfl,d,l⟩:=hrel
  obtain⟨pm,cm,rfl⟩:=d.val
  by_cases ab:i<k
  ·obtain⟨f,L⟩:∃f,F[i]?=some f:=⟨_,Z3 (by rw[Hl.out];exact ab)⟩
   have hp:=a8.out.step l (fun _ _ h=>h)
   obtain⟨c0,c1,c2⟩:=hp.cells L
   have q:=Qpv L
   have R:=Qg6 F i
   generalize Option.map (fun x=>(⟨x.1,0,none⟩:Addr)) f.pg=pp at *
   generalize f.n=n at *
   generalize f.first=ff at *
   by_cases h0:0<ff
   ·rw[if_pos h0] at q
    have h0':(0:Int)<(ff:Int):=by omega
    have o:=l.alloc' (.cells #[.pointer pp,.int .u32 (n:Int),.int .u64 (ff:Int)] 148)
    have p:=d.step ((Step.refl wr b nil).alloc' (.cells #[.pointer pp,.int .u32 (n:Int),.int .u64 (ff:Int)] 148)) (fun h=>h)
    have U:(Qfs F i).length<=1000000000:=by omega
    obtain⟨D,ad,z,B,J,ae,Hf⟩:=hid7 l d o p q U L
    clear l d o p q U L hp R
    go_wp2_with (at_builtin;refine Qjm z.out B.out (n,ff) ae.out (kb:=wr.heap.size+1) (by rw[World.size_alloc]) rfl _ _ rfl rfl rfl ?_;intro v' M C hb he X;obtain⟨Hb,He,Hmo⟩:=hid3 hb he X;clear hb he X)
    go_round
    case rel=>exact⟨i+1,C,by omega,by simp,by rw[J.out];exact Hb.out,He.out⟩
    case measure=>simp[intOf];omega
   ·rw[if_neg h0,List.append_nil] at q
    obtain rfl:ff=0:=by omega
    have o:=l.alloc' (.cells #[.pointer pp,.int .u32 (n:Int),.int .u64 0] 148)
    have p:=d.step ((Step.refl wr b nil).alloc' (.cells #[.pointer pp,.int .u32 (n:Int),.int .u64 0] 148)) (fun h=>h)
    obtain⟨D,ad,z,B,J,Hf⟩:=hid6 l d o p q L
    clear l d o p q L hp R
    go_wp2_with fail
    go_round
    case rel=>exact⟨i+1,b,by omega,by simp,by rw[J.out];exact B.out,z.out⟩
    case measure=>simp[intOf];omega
  ·obtain rfl:i=k:=by omega
   have Y:=I.out _ wr b _ _ (Qg6 F i) d
   obtain⟨D,af⟩:=hid2 l Y
   clear l Y d
   go_wp2_with fail
   refine af.out.mono ?_
   rintro e M ⟨rfl,N,Z,a1,E,a6⟩
   have ag:=Z2 Z
   have ah:=Z2 a1
   have G:=Z2 E
   have ai:=Z2 a6
   clear Z a1 E a6
   go_wp2_with fail
   go_ret
   have a7:Step w τ M b nil:=⟨D.out.mod.seq ai.out (fun j hj hS=>absurd (G.out.low j hS) (by omega)),D.out.ext⟩
   exact⟨_,b,N,rfl,by rw[aa.out];exact ag.out,ah.out,G.out,a7⟩
def HomeIs (D:Dev) (n st:Nat) (L:LogM) (Q:List Int):Prop :=
 (lastTo D n 4=blank/\Q=emptyPage n)\/(∃s,s<=st/\lastTo D n 4=sealAll Q s/\Sound Q/\0<pageLSN Q/\pageLSN Q<L.base+L.lasts)
def LogM.has (L:LogM) (lsn:Nat):Prop:=∃x∈L.starts,lsn=L.base+x
structure Good (N:Nat) (st:Nat) (L:LogM) (D:Dev) (F:List Fr) (cur:Nat->List Int):Prop where
 calm:D.Calm
 f1:D.f1.length=4*(N+1)
 f0:L.firstS+L.strips<=D.f0.length
 cap:L.stream.length<=127*L.strips
 lasts:L.lasts<=L.stream.length
 rise:L.Rise
 base:0<L.base
 page:∀n,n<N->Sound (cur n)/\pageNumber (cur n)=n/\(pageLSN (cur n)=0/\cur n=emptyPage n\/L.has (pageLSN (cur n)))
 home:∀n,n<N->∃Q,HomeIs D n st L Q/\((∀(i:Nat) (f:Fr),F[i]?=some f->f.has n=true->f.first=0)->Q=cur n)
 frame:∀(i:Nat) (f:Fr) (b:Nat) (P:List Int),F[i]?=some f->f.pg=some (b,P)->f.n<N/\P=cur f.n/\(0<f.first->0<pageLSN P/\f.first<18446744073709551616)
 none:∀(i:Nat) (f:Fr),F[i]?=some f->f.pg=none->f=Fr.no
 one:OneHas F
 spare:lastTo D N 4=blank\/∃Q s,s<=st/\Q.length=448/\lastTo D N 4=sealAll Q s
theorem Qd7 {f:Fr}{n:Nat}:f.has n=true↔∃b P,f.pg=some (b,P)/\f.n=n:=by
 unfold Fr.has
 rw[Bool.and_eq_true,beq_iff_eq]
 constructor
 ·rintro⟨h1,h2⟩
  obtain⟨⟨b,P⟩,h⟩:=Option.isSome_iff_exists.1 h1
  exact⟨b,P,h,h2⟩
 ·rintro⟨b,P,h1,h2⟩
  exact⟨by rw[h1];rfl,h2⟩
theorem Qjz (L:LogM) (k:Nat):(flL L k).base=L.base/\(flL L k).stream=L.stream/\(flL L k).starts=L.starts/\(flL L k).strips=L.strips/\(flL L k).firstS=L.firstS:=by
 unfold flL
 by_cases h:Qbj L k=true
 ·rw[if_pos h];exact⟨rfl,rfl,rfl,rfl,rfl⟩
 ·rw[if_neg h];exact⟨rfl,rfl,rfl,rfl,rfl⟩
theorem Qlm (L:LogM) (k:Nat):L.lasts<=(flL L k).lasts/\(k≠0->L.flushTo k<=(flL L k).lasts):=by
 unfold flL
 by_cases h:Qbj L k=true
 ·rw[if_pos h]
  have h2:=of_decide_eq_true h
  exact⟨by show L.lasts<=L.flushTo k;omega,fun _=>Z0 _⟩
 ·rw[if_neg h]
  refine⟨Z0 _,fun hk=>?_⟩
  rcases Nat.lt_or_ge L.lasts (L.flushTo k) with b|b
  ·exact absurd (decide_eq_true ⟨hk,b⟩) h
  ·exact b
theorem Qxx {L:LogM}(h:L.Rise) (k:Nat):(flL L k).Rise:=by
 obtain⟨_,d,b,_,_⟩:=Qjz L k
 exact⟨by rw[b];exact h.rise,by rw[d,b];exact h.low⟩
theorem Qz0 {L:LogM}(h:L.Rise) (hl:L.lasts<=L.stream.length) (k:Nat):(flL L k).lasts<=(flL L k).stream.length:=by
 obtain⟨_,d,_,_,_⟩:=Qjz L k
 rw[d]
 unfold flL
 by_cases b:Qbj L k=true
 ·rw[if_pos b];exact LogM.behindK_le h (k-1)
 ·rw[if_neg b];exact hl
theorem Qxy {L:LogM}{D:Dev}(b:L.Rise) (d:D.Calm) (hcap:L.stream.length<=127*L.strips) (hfit:L.firstS+L.strips<=D.f0.length) (k n:Nat):lastTo (flD L D k) n 4=lastTo D n 4:=by
 unfold flD
 by_cases h:Qbj L k=true
 ·rw[if_pos h]
  unfold Qdq
  have h1:=Qd9 L b k
  have h2:=LogM.behindK_le b (k-1)
  have h3:L.flushTo k=L.behindK (k-1):=rfl
  have h4:=(of_decide_eq_true (show decide (k≠0/\L.lasts<L.flushTo k)=true from h)).2
  refine Qq8 d.left _ _ ?_ n
  rw[h1]
  unfold parts
  omega
 ·rw[if_neg h]
theorem Qtr {L:LogM}(l:L.Rise) {lsn k:Nat}{m:Bool}(o:L.AtR lsn k m) (hh:L.has lsn):lsn<L.base+(flL L (k+(if m=true then 1 else 0))).lasts:=by
 obtain⟨x,w,rfl⟩:=hh
 have b:=l.low x w
 have e:=o.within (Nat.le_add_right _ _) (by omega)
 rw[Nat.add_sub_cancel_left] at e
 obtain⟨j,p,y⟩:=List.mem_iff_getElem.1 w
 have d:∀i,(hi:i<L.starts.length)->L.starts.getD i 0=L.starts[i]:=fun i hi=>by rw[Z5,Z3 hi];rfl
 have q:L.starts.getD j 0=x:=by rw[d j p,y]
 have r:k=j:=by
  rcases Nat.lt_trichotomy k j with h|h|h
  ·have h1:=e.hi k (Z0 _) (by omega)
   have h2:=l.rise k j h p
   omega
  ·exact h
  ·have:=e.lo j h;omega
 subst r
 have s:m=true:=by rw[e.is];exact decide_eq_true ⟨p,q⟩
 rw[if_pos s]
 have h1:=(Qlm L (k+1)).2 (by omega)
 have h2:L.flushTo (k+1)=L.behindK k:=rfl
 have h3:x<L.behindK k:=by
  unfold LogM.behindK
  by_cases hk:k+1<L.starts.length
  ·rw[if_pos hk]
   have:=l.rise k (k+1) (by omega) hk
   omega
  ·rw[if_neg hk];exact b
 omega
theorem HomeIs.flush {D E:Dev}{n st b:Nat}{L M:LogM}{Q:List Int}(h:HomeIs D n st L Q) (hst:st<=b) (hb:M.base=L.base) (hl:L.lasts<=M.lasts) (d:lastTo E n 4=lastTo D n 4):HomeIs E n b M Q:=by
 rcases h with ⟨h1,h2⟩|⟨s,h1,h2,e,i,h5⟩
 ·exact .inl ⟨d.trans h1,h2⟩
 ·exact .inr ⟨s,by omega,d.trans h2,e,i,by omega⟩
theorem Good.write {N st:Nat}{L:LogM}{D:Dev}{F:List Fr}{I:Nat->List Int}(h:Good N st L D F I) {i:Nat}{f:Fr}{b:Nat}{P:List Int}(G:F[i]?=some f) (y:f.pg=some (b,P)) (h0:0<f.first) {k:Nat}{m:Bool}(af:L.AtR (pageLSN P) k m) :
 Good N (st+1) (flL L (k+(if m=true then 1 else 0))) (wrD (flD L D (k+(if m=true then 1 else 0))) N f.n P (st+1)) (F.set i {f with first:=0}) I /\
  lastTo (wrD (flD L D (k+(if m=true then 1 else 0))) N f.n P (st+1)) f.n 4=sealAll P (st+1)/\lastTo (wrD (flD L D (k+(if m=true then 1 else 0))) N f.n P (st+1)) N 4=sealAll P (st+1):=by
 obtain⟨ag,hP,s⟩:=h.frame i f b P G y
 obtain⟨z,ah,J⟩:=h.page f.n ag
 have s:=(s h0).1
 rw[<-hP] at z ah J
 have M:L.has (pageLSN P):=by
  rcases J with ⟨h1,_⟩|h1
  ·omega
  ·exact h1
 have B:=Qtr h.rise af M
 obtain⟨e1,e2,e3,e4,e5⟩:=Qjz L (k+(if m=true then 1 else 0))
 have ai:=(Qlm L (k+(if m=true then 1 else 0))).1
 have aj:=Qxx h.rise (k+(if m=true then 1 else 0))
 have O:=Qz0 h.rise h.lasts (k+(if m=true then 1 else 0))
 have w:=Qyt L D (k+(if m=true then 1 else 0))
 have U:=Qsl (L:=L) h.calm (k+(if m=true then 1 else 0))
 have ak:=fun n=>Qxy h.rise h.calm h.cap h.f0 (k+(if m=true then 1 else 0)) n
 generalize flL L (k+(if m=true then 1 else 0))=L1 at *
 generalize flD L D (k+(if m=true then 1 else 0))=E at *
 have Y:=Qet P (st+1)
 have d:∀(X:Dev),X.file 1=X.f1:=fun X=>rfl
 have o:∀(X:Dev),X.file 0=X.f0:=fun X=>rfl
 have Z:=U.lay (f:=1) (by omega) (4*N) (sealAll P (st+1))
 have a6:(E.lay 1 (4*N) (sealAll P (st+1))).f1.length=E.f1.length:=by rw[<-d,<-d,Dev.lay_length _ _ _ (by omega)]
 have hw:∀n,lastTo (wrD E N f.n P (st+1)) n 4=if n=f.n then sealAll P (st+1) else if n=N then sealAll P (st+1) else lastTo D n 4:=fun n=>by
  unfold wrD
  rw[Qmz Z.left f.n _ Y (by rw[a6,w.1,h.f1];omega),Qmz U.left N _ Y (by rw[w.1,h.f1];omega),ak]
 have hi:=(Z4 G).1
 have p:∀(j:Nat) (g:Fr),(F.set i {f with first:=0})[j]?=some g->(j=i/\g={f with first:=0})\/(j≠i/\F[j]?=some g):=fun j g r=>by
  by_cases e:i=j
  ·subst e
   rw[List.getElem?_set_self hi] at r
   cases r
   exact .inl ⟨rfl,rfl⟩
  ·rw[List.getElem?_set_ne e] at r
   exact .inr ⟨fun q=>e q.symm,r⟩
 have hhasi:f.has f.n=true:=Qd7.2 ⟨b,P,y,rfl⟩
 refine⟨⟨(Z.lay (f:=1) (by omega) (4*f.n) (sealAll P (st+1))),?_,?_,by rw[e2,e4];exact h.cap,O,aj,by rw[e1];exact h.base,fun n hn=>?_,fun n hn=>?_,fun j g c R r a8=>?_,fun j g r C=>?_,?_,.inr ⟨P,st+1,Z0 _,z.tidy.len,by rw[hw];by_cases e:N=f.n <;> simp[e]⟩⟩,by rw[hw,if_pos rfl],by rw[hw];by_cases e:N=f.n <;> simp[e]⟩
 ·show ((E.lay 1 (4*N) _).lay 1 (4*f.n) _).f1.length=_
  rw[<-d,Dev.lay_length _ _ _ (by omega),d,a6,w.1];exact h.f1
 ·show _<=((E.lay 1 (4*N) _).lay 1 (4*f.n) _).f0.length
  rw[<-o,Dev.lay_length _ _ _ (by omega),Dev.lay_length _ _ _ (by omega),o,w.2,e4,e5];exact h.f0
 ·obtain⟨p1,p2,p3⟩:=h.page n hn
  refine⟨p1,p2,?_⟩
  rcases p3 with p3|⟨x,hx,am⟩
  ·exact .inl p3
  ·exact .inr ⟨x,by rw[e3];exact hx,by rw[e1];exact am⟩
 ·by_cases en:n=f.n
  ·refine⟨P,.inr ⟨st+1,Z0 _,by rw[hw,if_pos en],z,s,by rw[e1];exact B⟩,fun _=>by rw[en];exact hP⟩
  ·obtain⟨Q,hQ,hq⟩:=h.home n hn
   refine⟨Q,hQ.flush (Nat.le_succ _) e1 ai (by rw[hw,if_neg en,if_neg (by omega)]),fun an=>hq (fun j g r ab=>?_)⟩
   by_cases ej:j=i
   ·subst ej
    rw[G] at r
    cases r
    obtain⟨_,_,_,hx⟩:=Qd7.1 ab
    exact absurd hx.symm en
   ·exact an j g (by rw[List.getElem?_set_ne (fun q=>ej q.symm)];exact r) ab
 ·rcases p j g r with ⟨rfl,rfl⟩|⟨_,l⟩
  ·obtain⟨a1,a2,a3⟩:=h.frame j f c R G a8
   exact⟨a1,a2,fun hx=>absurd hx (by show ¬0<0;omega)⟩
  ·exact h.frame j g c R l a8
 ·rcases p j g r with ⟨rfl,rfl⟩|⟨_,l⟩
  ·rw[show ({f with first:=0}:Fr).pg=f.pg from rfl,y] at C
   cases C
  ·exact h.none j g l C
 ·intro a c n g g2 ha hc h1 h2
  have k1:∃g',F[a]?=some g'/\g'.has n=true:=by
   rcases p a g ha with ⟨rfl,rfl⟩|⟨_,l⟩
   ·exact⟨f,G,h1⟩
   ·exact⟨g,l,h1⟩
  have k2:∃g',F[c]?=some g'/\g'.has n=true:=by
   rcases p c g2 hc with ⟨rfl,rfl⟩|⟨_,l⟩
   ·exact⟨f,G,h2⟩
   ·exact⟨g2,l,h2⟩
  obtain⟨x1,y1,z1⟩:=k1
  obtain⟨x2,y2,z2⟩:=k2
  exact h.one a c n x1 x2 y1 y2 z1 z2
end Go.Proofs.YtemacanaihaldaaGreat
namespace Go.Proofs.YtemacanaihaldaaGreat
open Go.RowKit Ck.Clk
theorem Qxv (n:Nat) (p:Nat->Nat) (hn:n<=64) (k0:Nat) (hk:k0<n) (e:p k0=0):∀(m:Nat) (u:Nat->Bool) (h:Nat),h<n->mes n p u h<=m->(goes n p u h).2.2<n/\p (goes n p u h).2.2=0:=by
 intro m
 induction m with
 | zero =>
   intro u h hh i
   by_cases b:p h=0
   ·cases hu:u h with
    | true=>have:=Qh2 n p u h hh b hu;omega
    | false=>rw[Qll n p u h b hu];exact⟨hh,b⟩
   ·have:=Qe9 n p u h hh b k0 hk e;omega
 | succ m ih =>
   intro u h hh i
   have d:(h+1)%n<n:=Y9 _ (by omega)
   by_cases b:p h=0
   ·cases hu:u h with
    | true =>
      have:=Qh2 n p u h hh b hu
      rw[Qpo n p u h hn hh b hu];exact ih _ _ d (by omega)
    | false=>rw[Qll n p u h b hu];exact⟨hh,b⟩
   ·have:=Qe9 n p u h hh b k0 hk e
    rw[Qlk n p u h hn hh b k0 hk e];exact ih _ _ d (by omega)
theorem Jap (s:St):(pickS s).p=s.p:=by unfold pickS;split <;> (try split) <;> rfl
theorem Jao (s:St):(pickS s).t=s.t:=by unfold pickS;split <;> (try split) <;> rfl
structure Clock (F:List Fr) (s:St):Prop where
 n:s.n=F.length
 h:s.h<s.n
 n64:s.n<=64
 t:∀(i:Nat) (f:Fr),F[i]?=some f->s.t i=f.pg.isSome
 p:∀k,s.p k=0
structure Held (F:List Fr) (s:St) (i:Nat):Prop where
 n:s.n=F.length
 n64:s.n<=64
 t:∀(j:Nat) (f:Fr),F[j]?=some f->s.t j=f.pg.isSome
 p:∀k,s.p k=if k=i then 1 else 0
 lt:i<F.length
 is:∃f,F[i]?=some f/\f.pg.isSome=true
theorem Clock.pick {F:List Fr}{s:St}(h:Clock F s):pickB s=true/\pickI s<F.length:=by
 have h0:0<s.n:=Nat.lt_of_le_of_lt (Z9 _) h.h
 have b:some0 s=true:=(Qo2 s).2 ⟨0,h0,h.p 0⟩
 refine⟨by unfold pickB;rw[b,Bool.or_true],?_⟩
 rw[<-h.n]
 unfold pickI
 by_cases d:freeK s<s.n
 ·rw[if_pos d];exact d
 ·rw[if_neg d,if_pos b]
  exact(Qxv s.n s.p h.n64 0 h0 (h.p 0) _ s.u s.h h.h (Z0 _)).1
theorem Qn6 {s:St}{i:Nat}(hi:i<s.n):isT s (i:Int)=s.t i:=by
 unfold isT inn
 rw[decide_eq_true (show (0:Int)<=(i:Int) by omega),decide_eq_true (show (i:Int)<(s.n:Int) by omega)]
 simp
theorem Qvs {s:St}{i:Nat}(hi:i<s.n) (b:s.t i=true) (d:∀k,s.p k=0) :
 (pinS (touchS s i) i).n=s.n/\(∀j,(pinS (touchS s i) i).t j=s.t j)/\(∀k,(pinS (touchS s i) i).p k=if k=i then 1 else 0):=by
 have h1:touchS s (i:Int)={s with u:=upd s.u i true}:=by
  unfold touchS
  rw[Qn6 hi,b,if_pos rfl];simp
 rw[h1]
 have h2:pinS {s with u:=upd s.u i true} (i:Int)={s with u:=upd s.u i true,p:=upd s.p i (s.p i+1)}:=by
  unfold pinS
  rw[Qn6 (s:={s with u:=upd s.u i true}) hi,show ({s with u:=upd s.u i true}:St).t i=s.t i from rfl,b,if_pos rfl]
  simp
 rw[h2]
 refine⟨rfl,fun _=>rfl,fun k=>?_⟩
 show upd s.p i (s.p i+1) k=_
 unfold upd
 by_cases e:k=i
 ·rw[if_pos e,if_pos e,d]
 ·rw[if_neg e,if_neg e,d]
theorem Clock.hit {F:List Fr}{s:St}(h:Clock F s) {i:Nat}{f:Fr}(b:F[i]?=some f) (d:f.pg.isSome=true):Held F (pinS (touchS s i) i) i:=by
 have hi:i<F.length:=(Z4 b).1
 obtain⟨h1,h2,e⟩:=Qvs (s:=s) (i:=i) (by rw[h.n];exact hi) (by rw[h.t i f b];exact d) h.p
 exact⟨by rw[h1];exact h.n,by rw[h1];exact h.n64,fun j g k=>by rw[h2];exact h.t j g k,e,hi,f,b,d⟩
def leftS (s:St) (i:Nat) (had:Bool):St:=if had=true then leaveS s i else s
theorem Clock.fill {F:List Fr}{s:St}(h:Clock F s) {i:Nat}{f:Fr}(m:F[i]?=some f) (x:Nat×List Int) (n v:Nat):Held (F.set i ⟨some x,n,v⟩) (pinS (touchS (takeS (leftS (pickS s) i f.pg.isSome) i) i) i) i/\(∀k,(leftS (pickS s) i f.pg.isSome).p k<=1000000):=by
 have hi:i<F.length:=(Z4 m).1
 have b:i<s.n:=by rw[h.n];exact hi
 have o:(pickS s).n=s.n:=Qkz s
 have d:=Jao s
 have r:=Jap s
 have key:(leftS (pickS s) i f.pg.isSome).n=s.n/\(leftS (pickS s) i f.pg.isSome).t i=false/\(∀j,j≠i->(leftS (pickS s) i f.pg.isSome).t j=s.t j)/\∀k,(leftS (pickS s) i f.pg.isSome).p k=0:=by
  unfold leftS
  cases y:f.pg.isSome with
  | false =>
    rw[if_neg (by simp)]
    exact⟨o,by rw[d,h.t i f m,y],fun j _=>by rw[d],fun k=>by rw[r];exact h.p k⟩
  | true =>
    rw[if_pos rfl]
    have hl:leaveB (pickS s) (i:Int)=true:=by
     unfold leaveB
     rw[Qn6 (by rw[o];exact b),d,h.t i f m,y,r]
     simp[h.p]
    have B:leaveS (pickS s) (i:Int)={pickS s with t:=upd (pickS s).t i false,u:=upd (pickS s).u i false}:=by
     unfold leaveS
     rw[hl,if_pos rfl];simp
    rw[B]
    refine⟨o,by simp[upd],fun j C=>?_,fun k=>by show (pickS s).p k=0;rw[r];exact h.p k⟩
    show upd (pickS s).t i false j=_
    unfold upd
    rw[if_neg C,d]
 obtain⟨k1,D,E,z⟩:=key
 generalize leftS (pickS s) i f.pg.isSome=s1 at *
 have w:takeS s1 (i:Int)={s1 with t:=upd s1.t i true,u:=upd s1.u i true,p:=upd s1.p i 0}:=by
  unfold takeS
  have:takeB s1 (i:Int)=true:=by
   unfold takeB inn
   rw[decide_eq_true (show (0:Int)<=(i:Int) by omega),decide_eq_true (show (i:Int)<(s1.n:Int) by omega)]
   simp[D]
  rw[this,if_pos rfl];simp
 rw[w]
 obtain⟨h1,h2,G⟩:=Qvs (s:={s1 with t:=upd s1.t i true,u:=upd s1.u i true,p:=upd s1.p i 0}) (i:=i) (by show i<s1.n;rw[k1];exact b) (by simp[upd]) (fun k=>by
  show upd s1.p i 0 k=0
  unfold upd
  split
  ·rfl
  ·exact z k)
 refine⟨⟨?_,?_,fun j g l=>?_,G,by rw[Y1];exact hi,⟨some x,n,v⟩,by rw[List.getElem?_set_self hi],rfl⟩,fun k=>by rw[z];omega⟩
 ·rw[h1,Y1];exact k1.trans h.n
 ·rw[h1];show s1.n<=64;rw[k1];exact h.n64
 ·rw[h2]
  show upd s1.t i true j=_
  unfold upd
  by_cases e:j=i
  ·rw[if_pos e]
   subst e
   rw[List.getElem?_set_self hi] at l
   cases l
   rfl
  ·rw[if_neg e,E j e]
   rw[List.getElem?_set_ne (fun q=>e q.symm)] at l
   exact h.t j g l
theorem Held.put {F:List Fr}{s:St}{i:Nat}(h:Held F s i) (hh:s.h<s.n):pinsV s i≠0/\unpinB s i=true/\(∀k,s.p k<=1000000)/\∀G:List Fr,G.length=F.length->(∀(j:Nat) (f g:Fr),F[j]?=some f->G[j]?=some g->g.pg.isSome=f.pg.isSome)->Clock G (unpinS s i):=by
 obtain⟨f,q,r⟩:=h.is
 have m:i<s.n:=by rw[h.n];exact h.lt
 have b:s.p i=1:=by rw[h.p,if_pos rfl]
 have w:isT s (i:Int)=true:=by rw[Qn6 m,h.t i f q,r]
 have hu:unpinB s (i:Int)=true:=by
  unfold unpinB
  rw[w]
  simp[b]
 refine⟨?_,hu,fun k=>by rw[h.p];split <;> omega,fun G hl x=>?_⟩
 ·unfold pinsV inn
  rw[decide_eq_true (show (0:Int)<=(i:Int) by omega),decide_eq_true (show (i:Int)<(s.n:Int) by omega)]
  simp[b]
 ·have y:unpinS s (i:Int)={s with p:=upd s.p i (s.p i-1)}:=by
   unfold unpinS
   rw[hu,if_pos rfl];simp
  rw[y]
  refine⟨h.n.trans hl.symm,hh,h.n64,fun j g o=>?_,fun k=>?_⟩
  ·obtain⟨l,d⟩:∃l,F[j]?=some l:=⟨_,Z3 (by rw[<-hl];exact(Z4 o).1)⟩
   rw[x j l g d o]
   exact h.t j l d
  ·show upd s.p i (s.p i-1) k=0
   unfold upd
   by_cases e:k=i
   ·rw[if_pos e,b]
   ·rw[if_neg e,h.p,if_neg e]
end Go.Proofs.YtemacanaihaldaaGreat
namespace Go.Proofs.YtemacanaihaldaaGreat
open Go.RowKit
theorem set_get {F:List Fr}{i:Nat}{x:Fr}(hi:i<F.length) {j:Nat}{g:Fr}(b:(F.set i x)[j]?=some g):(j=i/\g=x)\/(j≠i/\F[j]?=some g):=by
 by_cases e:i=j
 ·subst e
  rw[List.getElem?_set_self hi] at b
  cases b
  exact .inl ⟨rfl,rfl⟩
 ·rw[List.getElem?_set_ne e] at b
  exact .inr ⟨fun q=>e q.symm,b⟩
theorem Good.drop {N st:Nat}{L:LogM}{D:Dev}{F:List Fr}{k:Nat->List Int}(h:Good N st L D F k) {i:Nat}{f:Fr}(r:F[i]?=some f) (h0:f.first=0):Good N st L D (F.set i Fr.no) k:=by
 have hi:=(Z4 r).1
 refine⟨h.calm,h.f1,h.f0,h.cap,h.lasts,h.rise,h.base,h.page,fun n hn=>?_,fun j g c R b l=>?_,fun j g b m=>?_,OneHas.set h.one i Fr.no (fun j n g _ _ _=>Qk8 n),h.spare⟩
 ·obtain⟨Q,s,w⟩:=h.home n hn
  refine⟨Q,s,fun o=>w (fun j g b p=>?_)⟩
  by_cases e:j=i
  ·subst e
   rw[r] at b
   cases b
   exact h0
  ·exact o j g (by rw[List.getElem?_set_ne (fun q=>e q.symm)];exact b) p
 ·rcases set_get hi b with ⟨_,rfl⟩|⟨_,d⟩
  ·cases l
  ·exact h.frame j g c R d l
 ·rcases set_get hi b with ⟨_,rfl⟩|⟨_,d⟩
  ·rfl
  ·exact h.none j g d m
theorem Good.fill {N st:Nat}{L:LogM}{D:Dev}{F:List Fr}{d:Nat->List Int}(h:Good N st L D F d) {i n:Nat}(hi:i<F.length) (hn:n<N) (s:∀(j:Nat) (g:Fr),F[j]?=some g->g.has n=false) (b:Nat) (x:F[i]?=some Fr.no):Good N st L D (F.set i ⟨some (b,d n),n,0⟩) d:=by
 refine⟨h.calm,h.f1,h.f0,h.cap,h.lasts,h.rise,h.base,h.page,fun m y=>?_,fun j g c R k p=>?_,fun j g k r=>?_,OneHas.set h.one i _ (fun j m g _ k l=>?_),h.spare⟩
 ·obtain⟨Q,z,B⟩:=h.home m y
  refine⟨Q,z,fun w=>B (fun j g k l=>?_)⟩
  by_cases e:j=i
  ·subst e
   rw[x] at k
   cases k
   rfl
  ·exact w j g (by rw[List.getElem?_set_ne (fun q=>e q.symm)];exact k) l
 ·rcases set_get hi k with ⟨_,rfl⟩|⟨_,o⟩
  ·cases p
   exact⟨hn,rfl,fun h=>absurd h (by show ¬0<0;omega)⟩
  ·exact h.frame j g c R o p
 ·rcases set_get hi k with ⟨_,rfl⟩|⟨_,o⟩
  ·cases r
  ·exact h.none j g o r
 ·by_cases e:m=n
  ·subst e
   rw[s j g k] at l
   cases l
  ·cases C:({pg:=some (b,d n),n:=n,first:=0}:Fr).has m with
   | false=>rfl
   | true =>
     obtain⟨_,_,_,h2⟩:=Qd7.1 C
     exact absurd h2.symm e
def updC (cur:Nat->List Int) (n:Nat) (P:List Int):Nat->List Int:=fun m=>if m=n then P else cur m
theorem LogM.Rise.more {L:LogM}(h:L.Rise) (b:List Int) (hb:0<b.length):(L.more b).Rise:=by
 refine⟨fun i j l hj=>?_,fun x d=>?_⟩
 ·show (L.starts++[L.stream.length]).getD i 0<(L.starts++[L.stream.length]).getD j 0
  have hj':j<L.starts.length+1:=by
   have:(L.more b).starts.length=L.starts.length+1:=by show (L.starts++[L.stream.length]).length=_;rw[Z6];rfl
   omega
  have m:∀k,k<L.starts.length->(L.starts++[L.stream.length]).getD k 0=L.starts.getD k 0:=fun k hk=>by
   rw[Z5,Z5,Y5 hk]
  have o:(L.starts++[L.stream.length]).getD L.starts.length 0=L.stream.length:=by
   rw[Z5,Y6 (Z0 _),Nat.sub_self];rfl
  by_cases e:j=L.starts.length
  ·rw[e,o,m i (by omega)]
   refine h.low _ ?_
   rw[Z5,Z3 (by omega)]
   exact List.getElem_mem _
  ·rw[m i (by omega),m j (by omega)]
   exact h.rise i j l (by omega)
 ·show x<(L.stream++b).length
  rw[Z6]
  rcases List.mem_append.1 d with d|d
  ·have:=h.low x d;omega
  ·have:x=L.stream.length:=by simpa using d
   omega
theorem Good.put {N st:Nat}{L:LogM}{D:Dev}{F:List Fr}{s:Nat->List Int}(h:Good N st L D F s) {i:Nat}{f:Fr}{b:Nat}{P Q:List Int}(w:F[i]?=some f) (y:f.pg=some (b,P)) (hQ:Sound Q) (Y:pageNumber Q=f.n) (p:List Int) (Z:0<p.length) (z:L.stream.length+p.length<=127*L.strips) (B:L.base+L.stream.length<2 ^ 64) {nv:Nat}(hnv:0<nv) (C:nv=L.base+L.stream.length\/nv=f.first) :
 Good N st (L.more p) D (F.set i ⟨some (b,layN Q 0 (leB (L.base+L.stream.length) 8)),f.n,nv⟩) (updC s f.n (layN Q 0 (leB (L.base+L.stream.length) 8))):=by
 have hi:=(Z4 w).1
 obtain⟨a6,hP,E⟩:=h.frame i f b P w y
 have G:nv<18446744073709551616:=by
  rcases C with e|e
  ·rw[e,show (18446744073709551616:Nat)=2 ^ 64 from by decide];exact B
  ·rw[e];exact(E (by omega)).2
 clear C E
 obtain⟨q1,q2,q3,-⟩:=hQ.stamp (L.base+L.stream.length) B
 have I:0<pageLSN (layN Q 0 (leB (L.base+L.stream.length) 8)):=by rw[q3];have:=h.base;omega
 have J:(L.more p).has (pageLSN (layN Q 0 (leB (L.base+L.stream.length) 8))):=⟨L.stream.length,List.mem_append_right _ (by simp),q3⟩
 generalize layN Q 0 (leB (L.base+L.stream.length) 8)=R at *
 have M:(L.more p).stream=L.stream++p:=rfl
 have d:f.has f.n=true:=Qd7.2 ⟨b,P,y,rfl⟩
 refine⟨h.calm,h.f1,h.f0,by rw[M,Z6];exact z,by rw[M,Z6];exact Y3 h.lasts (Nat.le_add_right _ _),h.rise.more p Z,h.base,fun n hn=>?_,fun n hn=>?_,fun j g c S k r=>?_,fun j g k O=>?_,OneHas.set h.one i _ (fun j m g hj k l=>?_),h.spare⟩
 ·unfold updC
  by_cases e:n=f.n
  ·rw[if_pos e]
   exact⟨q1,by rw[q2,Y,e],.inr J⟩
  ·rw[if_neg e]
   obtain⟨p1,p2,p3⟩:=h.page n hn
   refine⟨p1,p2,?_⟩
   rcases p3 with p3|⟨x,U,he⟩
   ·exact .inl p3
   ·exact .inr ⟨x,List.mem_append_left _ U,he⟩
 ·obtain⟨S,hS,hs⟩:=h.home n hn
  refine⟨S,hS,fun X=>?_⟩
  by_cases e:n=f.n
  ·exfalso
   have:=X i _ (List.getElem?_set_self hi) (Qd7.2 ⟨b,R,rfl,e.symm⟩)
   have h2:nv=0:=this
   omega
  ·unfold updC
   rw[if_neg e]
   refine hs (fun j g k l=>?_)
   by_cases ej:j=i
   ·subst ej
    rw[w] at k
    cases k
    obtain⟨_,_,_,U⟩:=Qd7.1 l
    exact absurd U.symm e
   ·exact X j g (by rw[List.getElem?_set_ne (fun q=>ej q.symm)];exact k) l
 ·rcases set_get hi k with ⟨_,rfl⟩|⟨hj,o⟩
  ·cases r
   exact⟨a6,by unfold updC;rw[if_pos rfl],fun _=>⟨I,G⟩⟩
  ·obtain⟨a1,a2,a3⟩:=h.frame j g c S o r
   refine⟨a1,?_,a3⟩
   unfold updC
   rw[if_neg (fun e=>hj (h.one j i f.n g f o w (Qd7.2 ⟨c,S,r,e⟩) d))]
   exact a2
 ·rcases set_get hi k with ⟨_,rfl⟩|⟨_,o⟩
  ·cases O
  ·exact h.none j g o O
 ·cases U:({pg:=some (b,R),n:=f.n,first:=nv}:Fr).has m with
  | false=>rfl
  | true =>
    obtain⟨_,_,_,h2⟩:=Qd7.1 U
    have h3:f.n=m:=h2
    exact absurd (h.one j i m g f k w l (by rw[<-h3];exact d)) hj
