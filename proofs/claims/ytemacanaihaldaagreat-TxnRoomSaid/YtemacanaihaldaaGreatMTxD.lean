/-
 Transactions: a change turned,how much its undoing takes;a change tried,and done.
-/
import Derived.Test.YtemacanaihaldaaGreatMTxA
import Derived.Test.YtemacanaihaldaaGreatMEncB
set_option maxRecDepth 100000
set_option maxHeartbeats 4000000
set_option linter.all false
namespace Go.Proofs.YtemacanaihaldaaGreat
variable {P:List Int}{w:World}{τ:Tags}
open Go.RowKit
def ChangeP.turned (c:ChangeP):ChangeP:=⟨c.page,c.slot,c.has,c.had,c.after,c.before⟩
def ChgV (c:ChangeP) (pb:Option Addr) (cb:Nat) (pa:Option Addr) (ca:Nat):Array Value:=#[.int .u32 (c.page:Int),.int .u16 (c.slot:Int),.bool c.had,.bool c.has,.slice pb c.before.length cb,.slice pa c.after.length ca]
def tTn:Tag:=(207,0)
theorem Qml(c:ChangeP) {pb pa:Option Addr}{cb ca:Nat}(hb:Bytes w τ tData (.slice pb c.before.length cb) c.before) (ha:Bytes w τ tData (.slice pa c.after.length ca) c.after) (h1:c.before.length<=100000) (h2:c.after.length<=100000) :
 Calls Tryz.prog 220 #[.agg (ChgV c pb cb pa ca)] w fun e w'=>∃s kb x y Y,e = .returned (.agg (ChgV c.turned s kb x y))/\Bytes w' Y tData (.slice s c.after.length kb) c.after/\Bytes w' Y tData (.slice x c.before.length y) c.before/\Step w τ w' Y nil:=by
 unfold ChgV ChangeP.turned
 obtain⟨pg,sl,hd,q,be,af⟩:=c
 dsimp only at *
 generalize z:be.length=nb at *
 generalize B:af.length=na at *
 have ho:=Own.born w τ tTn 124 #[.int .u32 (pg:Int),.int .u16 (sl:Int),.bool hd,.bool q,.slice pb nb cb,.slice pa na ca]
 have Z:=(Step.refl w τ nil).alloc (.cells #[.int .u32 (pg:Int),.int .u16 (sl:Int),.bool hd,.bool q,.slice pb nb cb,.slice pa na ca] 124) tTn
 obtain⟨bt,ae⟩:∃bt,w.heap.size=bt:=⟨_,rfl⟩
 have hlow:w.heap.size<=bt:=by omega
 have a1:(w.alloc (.cells #[.int .u32 (pg:Int),.int .u16 (sl:Int),.bool hd,.bool q,.slice pb nb cb,.slice pa na ca] 124)).heap.size=w.heap.size+1:=World.size_alloc _ _
 generalize τ.put w.heap.size tTn=τ1 at *
 rw[ae] at ho
 generalize ag:w.alloc (.cells #[.int .u32 (pg:Int),.int .u16 (sl:Int),.bool hd,.bool q,.slice pb nb cb,.slice pa na ca] 124)=W1 at *
 have hz:=Own.born W1 τ1 tTn 124 #[.int .u32 0,.int .u16 0,.bool false,.bool false,.slice none 0 0,.slice none 0 0]
 have j:=(Step.refl W1 τ1 nil).alloc (.cells #[.int .u32 0,.int .u16 0,.bool false,.bool false,.slice none 0 0,.slice none 0 0] 124) tTn
 rw[a1,ae] at hz j
 have i:=ho.step j (fun h=>h)
 have p:=Z.trans j
 generalize τ1.put (bt+1) tTn=C at *
 generalize ah:W1.alloc (.cells #[.int .u32 0,.int .u16 0,.bool false,.bool false,.slice none 0 0,.slice none 0 0] 124)=W2 at *
 have G:=hb.step p (fun h=>h)
 have D:=ha.step p (fun h=>h)
 have ai:=i.drew
 have a6:∀W T,Step W2 C W T nil->W.cell? ⟨bt,0,none⟩=some (.int .u32 (pg:Int))/\W.cell? ⟨bt,1,none⟩=some (.int .u16 (sl:Int))/\W.cell? ⟨bt,2,none⟩=some (.bool hd)/\W.cell? ⟨bt,3,none⟩=some (.bool q)/\W.cell? ⟨bt,4,none⟩=some (.slice pb nb cb)/\W.cell? ⟨bt,5,none⟩=some (.slice pa na ca):=fun W T m=>⟨(i.step m (fun h=>h)).at 0 rfl,(i.step m (fun h=>h)).at 1 rfl,(i.step m (fun h=>h)).at 2 rfl,(i.step m (fun h=>h)).at 3 rfl,(i.step m (fun h=>h)).at 4 rfl,(i.step m (fun h=>h)).at 5 rfl⟩
 have I:Step W2 C W2.drew C nil:=(Step.refl W2 C nil).drew
 have b3:=a6 _ _ I
 rw[<-B] at D
 have a7:=Qeb (D.step I (fun h=>h)) tData (by rw[B];omega)
 rw[B] at a7 D
 have a8:=fun (W:World) (T:Tags) (m:Step W2 C W T nil)=>Qeb (by rw[<-z] at G;exact G.step m (fun h=>h)) tData (by rw[z];omega)
 rw[z] at a8
 obtain⟨Ho,Hal,Hz,Hal2,Ho2,aj,Hb2,Ha2,Hod,ak,b4,b5⟩:=hid12 ho Z hz j i p G D ai a6 I a7
 obtain⟨b6,b7,b8,b9,ba,Hsz⟩:=hid6 a8 z B ag ah a1
 clear ho Z hz j i p G D ai a6 I a7 a8 z B ag ah a1 hb ha
 go_enter Tryz.func220,Tryz.ntmps220
 go_wp2_with fail
 rw[b9.out]
 try rw[ba.out]
 refine Qaf (S:=fun W:World=>W.cell? ⟨bt,0,none⟩=some (.int .u32 (pg:Int))/\W.cell? ⟨bt,1,none⟩=some (.int .u16 (sl:Int))/\W.cell? ⟨bt,2,none⟩=some (.bool hd)/\W.cell? ⟨bt,3,none⟩=some (.bool q)/\W.cell? ⟨bt,4,none⟩=some (.slice pb nb cb)/\W.cell? ⟨bt,5,none⟩=some (.slice pa na ca)) (by kernel_rfl) ?_
 refine tk0 [0,1,2,3,4,5,6,7,8,9,11,12] ?_
 iterate 12
  refine tks (v:=?_) rfl (Or.inl ⟨by rfl,?_⟩) (by assumption) ?_
  rotate_left
  ·intro w bb;(try dsimp only at bb);go_simp
   all_goals with_reducible rfl
  try simp only[Act.put,lz1,lz2,lz3]
 refine tk9 ?_
 try simp only[lz4,lz5,lz6,lz1,lz2,lz3]
 refine tk1 10 rfl fun K E=>?_
 go_simp
 go_at_call 118
 refine b5.out.mono ?_
 rintro e w3 ⟨u3,τ3,rfl,J,al,am⟩
 have an:=Step.of nil am al
 have L:=b4.out.trans an
 obtain⟨s,kb,rfl,-,-⟩:=J.any
 have ao:=ak.out _ _ L
 have N:=b6.out _ _ L
 rw[b8.out] at J ⊢
 obtain⟨bc,bd,ap⟩:=hid3 J L N
 clear J L N an al am b3
 refine E.out _ _ (fun _=>ao) ?_
 clear E K
 refine tk1 13 rfl fun K E=>?_
 go_simp
 go_at_call 118
 refine ap.out.mono ?_
 rintro e w4 ⟨u4,r,rfl,M,aq,ar⟩
 have aa:=Step.of nil ar aq
 have F:=bd.out.trans aa
 obtain⟨x,y,rfl,-,-⟩:=M.any
 have ab:=ak.out _ _ F
 have O:=bc.out.step aa (fun h=>h)
 rw[b7.out] at M ⊢
 have d:=Hz.out.step F (fun h=>h)
 have R:=aj.out.trans F
 have d0:=d.at 0 (v:=.int .u32 0) rfl
 have y0:=d.fz 0
 have d1:=d.at 1 (v:=.int .u16 0) rfl
 have y1:=d.fz 1
 have d2:=d.at 2 (v:=.bool false) rfl
 have y2:=d.fz 2
 have d3:=d.at 3 (v:=.bool false) rfl
 have y3:=d.fz 3
 have d4:=d.at 4 (v:=.slice none 0 0) rfl
 have y4:=d.fz 4
 have d5:=d.at 5 (v:=.slice none 0 0) rfl
 have y5:=d.fz 5
 obtain⟨bf,av,Hq4,l,aw⟩:=hid5 M O F d R
 clear M O F d R aa aq ar ao
 refine E.out _ _ (fun _=>ab) ?_
 clear E K
 refine tk1 14 rfl fun K E=>?_
 go_simp
 refine E.out _ _ (fun _=>ab) ?_
 clear E K
 refine tk1 15 rfl fun K E=>?_
 go_simp
 have k:Own ((((((w4.setCell ⟨bt+1,0,none⟩ (.int .u32 (pg:Int))).setCell ⟨bt+1,1,none⟩ (.int .u16 (sl:Int))).setCell ⟨bt+1,2,none⟩ (.bool q)).setCell ⟨bt+1,3,none⟩ (.bool hd)).setCell ⟨bt+1,4,none⟩ (.slice s na kb)).setCell ⟨bt+1,5,none⟩ (.slice x nb y)) r (bt+1) tTn 124 [.int .u32 (pg:Int),.int .u16 (sl:Int),.bool q,.bool hd,.slice s na kb,.slice x nb y]:=((((((l.out.set 0 (.int .u32 (pg:Int))).set 1 (.int .u16 (sl:Int))).set 2 (.bool q)).set 3 (.bool hd)).set 4 (.slice s na kb)).set 5 (.slice x nb y))
 have ac:Step w4 r ((((((w4.setCell ⟨bt+1,0,none⟩ (.int .u32 (pg:Int))).setCell ⟨bt+1,1,none⟩ (.int .u16 (sl:Int))).setCell ⟨bt+1,2,none⟩ (.bool q)).setCell ⟨bt+1,3,none⟩ (.bool hd)).setCell ⟨bt+1,4,none⟩ (.slice s na kb)).setCell ⟨bt+1,5,none⟩ (.slice x nb y)) r (fun t=>t=tTn):=(((((((Step.refl w4 r (fun t=>t=tTn)).set (o:=0) l.out.tag rfl _).set (o:=1) l.out.tag rfl _).set (o:=2) l.out.tag rfl _).set (o:=3) l.out.tag rfl _).set (o:=4) l.out.tag rfl _).set (o:=5) l.out.tag rfl _)
 have U:Step w τ ((((((w4.setCell ⟨bt+1,0,none⟩ (.int .u32 (pg:Int))).setCell ⟨bt+1,1,none⟩ (.int .u16 (sl:Int))).setCell ⟨bt+1,2,none⟩ (.bool q)).setCell ⟨bt+1,3,none⟩ (.bool hd)).setCell ⟨bt+1,4,none⟩ (.slice s na kb)).setCell ⟨bt+1,5,none⟩ (.slice x nb y)) r nil:=((((((aw.out.setNew (b:=bt+1) (o:=0) (by omega) _).setNew (b:=bt+1) (o:=1) (by omega) _).setNew (b:=bt+1) (o:=2) (by omega) _).setNew (b:=bt+1) (o:=3) (by omega) _).setNew (b:=bt+1) (o:=4) (by omega) _).setNew (b:=bt+1) (o:=5) (by omega) _)
 have ax:=bf.out.step ac (by decide)
 have X:=av.out.step ac (by decide)
 refine E.out _ _ (fun h=>absurd h (by decide +kernel)) ?_
 clear E K ac ab d0 y0 d1 y1 d2 y2 d3 y3 d4 y4 d5 y5
 generalize ((((((w4.setCell ⟨bt+1,0,none⟩ (.int .u32 (pg:Int))).setCell ⟨bt+1,1,none⟩ (.int .u16 (sl:Int))).setCell ⟨bt+1,2,none⟩ (.bool q)).setCell ⟨bt+1,3,none⟩ (.bool hd)).setCell ⟨bt+1,4,none⟩ (.slice s na kb)).setCell ⟨bt+1,5,none⟩ (.slice x nb y))=w5 at *
 refine Qad (by kernel_rfl) ?_ _
 have f0:=k.at 0 (v:=.int .u32 (pg:Int)) rfl
 have f1:=k.at 1 (v:=.int .u16 (sl:Int)) rfl
 have f2:=k.at 2 (v:=.bool q) rfl
 have f3:=k.at 3 (v:=.bool hd) rfl
 have f4:=k.at 4 (v:=.slice s na kb) rfl
 have f5:=k.at 5 (v:=.slice x nb y) rfl
 obtain⟨Hz5,ay,bg,az⟩:=hid4 k U ax X
 clear k U ax X
 go_wp2_with fail
 refine bodyPost_ret (by simp[results,Tryz.results220,go_sem,f0,f1,f2,f3,f4,f5];try rfl) rfl ?_
 exact⟨s,kb,x,y,r,rfl,az.out,bg.out,ay.out⟩
def Qf5 (c:ChangeP) (tx pv nx:Nat):RecP:=⟨3,tx,pv,nx,c.turned,[],[]⟩
theorem Qw8 {k tx pv nx:Nat} {c:ChangeP} {pb pa:Option Addr} {cb ca:Nat}(b:Bytes w τ tData (.slice pb c.before.length cb) c.before) (d:Bytes w τ tData (.slice pa c.after.length ca) c.after) (h1:k<256) (h2:tx<4294967296) (e:pv<18446744073709551616) (h:nx<18446744073709551616) (i:c.page<4294967296) (j:c.slot<65536) :
 RecI w τ (.agg #[.int .u8 (k:Int),.int .u32 (tx:Int),.int .u64 (pv:Int),.int .u64 (nx:Int),.int .u32 (c.page:Int),.int .u16 (c.slot:Int),.bool c.had,.bool c.has,.slice pb c.before.length cb,.slice pa c.after.length ca,.slice none 0 0,.slice none 0 0]) ⟨k,tx,pv,nx,c,[],[]⟩ :=
 ⟨⟨pb,cb,pa,ca,none,0,none,0,tBox,tBox,0,rfl,b,d,NS.nil _ _ _ _ _ _ _,NS.nil _ _ _ _ _ _ _,by simp[WrT,tBox,tWr,tWb],by simp[WrT,tBox,tWr,tWb]⟩,h1,h2,e,h,i,j⟩
theorem Qkc (c:ChangeP) (tx pv nx:Nat):(encR (Qf5 c tx pv nx)).length=36+c.before.length+c.after.length:=by
 rw[Qbh]
 unfold encBody Qf5
 rw[if_pos (by rfl),Qhi]
 show 27+(9+c.after.length+c.before.length)=_
 omega
theorem Qj9(c:ChangeP) {pb pa:Option Addr}{cb ca:Nat}(hb:Bytes w τ tData (.slice pb c.before.length cb) c.before) (ha:Bytes w τ tData (.slice pa c.after.length ca) c.after) (b:mayB (Qf5 c 0 0 0)=true) (h5:c.page<4294967296) (h6:c.slot<65536) :
 Calls Tryz.prog 216 #[.agg (ChgV c pb cb pa ca)] w fun e w'=>e = .returned (.int .u64 ((36+c.before.length+c.after.length:Nat):Int))/\∃O,Step w τ w' O nil:=by
 obtain⟨-,-,-,R,U⟩:=Qh3 b (by show (3:Nat)≠8;omega)
 change c.after.length<=64 at R
 change c.before.length<=64 at U
 have j:=Qkc c 0 0 0
 have l:=Own.born w τ tTn 124 (ChgV c pb cb pa ca)
 have i:=(Step.refl w τ nil).alloc (.cells (ChgV c pb cb pa ca) 124) tTn
 have r:=hb.step i (fun h=>h)
 have s:=ha.step i (fun h=>h)
 have z:=Qml c r s (by omega) (by omega)
 have d:=fun (W:World) (T:Tags) (qb:Option Addr) (kb:Nat) (qa:Option Addr) (ka:Nat) (x:Bytes W T tData (.slice qb c.after.length kb) c.after) (y:Bytes W T tData (.slice qa c.before.length ka) c.before) =>
  Qiq (Qw8 (k:=3) (tx:=0) (pv:=0) (nx:=0) (c:=c.turned) x y (by omega) (by omega) (by omega) (by omega) h5 h6) b (by rw[show (⟨3,0,0,0,c.turned,[],[]⟩:RecP)=Qf5 c 0 0 0 from rfl,j];omega) (fun h=>by cases h)
 rw[show (⟨3,0,0,0,c.turned,[],[]⟩:RecP)=Qf5 c 0 0 0 from rfl] at d
 generalize τ.put w.heap.size tTn=τ1 at *
 generalize encR (Qf5 c 0 0 0)=E at *
 have B:∀(W W2:World) (T:Tags) (u:Value),NB W.heap.size W2 T tWb u E->∃p N,u = .slice p (36+c.before.length+c.after.length) N:=fun W W2 T u h=>by
  obtain⟨p,N,rfl⟩:=h.val
  rw[j];exact⟨p,N,rfl⟩
 have m:((36+c.before.length+c.after.length:Nat):Int)=36+(c.before.length:Int)+(c.after.length:Int):=by omega
 have hw:=Qam (36+c.before.length+c.after.length) (by omega)
 clear b
 unfold ChgV at *
 obtain⟨pg,sl,hd,hs,be,af⟩:=c
 unfold ChangeP.turned at *
 dsimp only at *
 generalize C:36+be.length+af.length=sz at *
 have k0:=l.at 0 (v:=.int .u32 (pg:Int)) rfl
 have k1:=l.at 1 (v:=.int .u16 (sl:Int)) rfl
 have k2:=l.at 2 (v:=.bool hd) rfl
 have k3:=l.at 3 (v:=.bool hs) rfl
 have k4:=l.at 4 (v:=.slice pb be.length cb) rfl
 have k5:=l.at 5 (v:=.slice pa af.length ca) rfl
 obtain⟨Ho,X,Hb1,Ha1,Y,D,Z,Hsz,Hsum⟩:=hid9 l i r s z d B C m
 clear l i r s z d B C m hb ha
 go_enter Tryz.func216,Tryz.ntmps216
 go_wp2_with fail
 refine Y.out.mono ?_
 rintro e w2 ⟨qb,kb,qa,ka,τ2,rfl,hx,hy,F⟩
 have G:=D.out _ _ _ _ _ _ hx hy
 have o:=X.out.trans F
 obtain⟨a1,I⟩:=hid2 G o
 clear G o hx hy F k0 k1 k2 k3 k4 k5
 go_wp2_with fail
 refine a1.out.mono ?_
 rintro e w3 ⟨u,a6,rfl,J,L⟩
 obtain⟨p,N,rfl⟩:=Z.out _ _ _ _ J
 have q:=I.out.trans L
 have M:=Z2 q
 clear q L J
 go_wp2_with fail
 go_ret
 exact⟨rfl,a6,M.out⟩
def Small (P:List Int):Prop:=∀t,(pData P t).length<=4/\(12<=t->pData P t=[])
theorem Small.room(h:Sound P) (b:Small P) (s k:Nat) (hs:s<12) (hk:k<=64):16+4*max (pageCount P) (s+1)+pUsed P+k<=448:=by
 have hl:∀t,pLen P t=(pData P t).length:=fun t=>(Qbm h.tidy.lies.fit h.tidy.len t).symm
 have hc:pageCount P<=12:=by
  have hi:=Qcn P (pageCount P)
  rw[h.head] at hi
  rcases hi.last with h0|h0
  ·simp only at h0;omega
  ·simp only at h0
   rcases Nat.lt_or_ge (pageCount P-1) 12 with h1|h1
   ·omega
   ·rw[hl,(b _).2 h1] at h0;simp at h0
 have hu:∀q,usedTo P q<=q*4:=by
  intro q
  induction q with
  | zero=>simp[usedTo]
  | succ q ih =>
    have:=(b q).1
    rw[<-hl] at this
    show usedTo P q+pLen P q<=_
    omega
 have:=hu (pageCount P)
 unfold pUsed
 omega
structure DoneP (P Q:List Int) (s:Nat) (m:List Int):Prop where
 sound:Sound Q
 num:pageNumber Q=pageNumber P
 lsn:pageLSN Q=pageLSN P
 data:∀t,pData Q t=if t=s then m else pData P t
theorem DoneP.small {Q:List Int} {s:Nat} {m:List Int}(h:DoneP P Q s m) (b:Small P) (hs:s<12) (d:m.length<=4):Small Q:=fun t=>by
 rw[h.data]
 by_cases e:t=s
 ·rw[if_pos e];exact⟨d,fun h=>by omega⟩
 ·rw[if_neg e];exact b t
def ChangeP.now (c:ChangeP):List Int:=if c.has=true then c.after else []
def tTry:Tag:=(209,0)
theorem Qy4 {g:Tag} {b:Nat}(h:PageAt w τ g b P) (O:Sound P) (hp:Small P) (s:Nat) (r:s<12) (has:Bool) {v:Value}{g2:Tag}{m:List Int}(R:Bytes w τ g2 v m) (U:g2≠tTry) (h0:has=true->0<m.length) (z:m.length<=64) :
 Calls Tryz.prog 215 #[.pointer (some ⟨b,0,none⟩),.int .i64 (s:Int),.bool has,v] w fun e w'=>e = .returned (.int .u16 0)/\∃X,Step w τ w' X (fun t=>t=tTry):=by
 cases has with
 | false =>
   go_enter Tryz.func215,Tryz.ntmps215
   go_wp2_with fail
   go_ret
   exact⟨rfl,τ,Step.refl _ _ _⟩
 | true =>
   have B:=Qhy h tData
   have d:=Small.room O hp s m.length r z
   have C:=fun (W:World) (T:Tags) (u:Value) (x:Bytes W T tData u P)=>Qg4 (g:=tTry) x O
   have i:=fun (W:World) (T:Tags) (q:Nat) (x:PageAt W T tTry q P) (y:Bytes W T g2 v m)=>Qk1 (by decide) x O (s:Int) y U
   have D:=fun (Q:List Int) (er:Nat) (x:SetR P Q (s:Int) m er)=>x.room s rfl (by omega) (h0 rfl) z d
   obtain⟨pv,cv,rfl,-,-⟩:=R.any
   obtain⟨Y,Z,E,a1,Hb⟩:=hid5 B C i D R
   clear B C i D R h O hp d
   go_enter Tryz.func215,Tryz.ntmps215
   go_wp2_with fail
   refine Y.out.mono ?_
   rintro e w1 ⟨u,τ1,rfl,F,o⟩
   have j:=Z.out _ _ _ F.bytes
   have G:=Hb.out.step o (fun h=>h)
   obtain⟨I,a6,a7⟩:=hid3 j o G
   clear j o G F
   go_wp2_with fail
   refine I.out.mono ?_
   rintro e w2 ⟨q,τ2,rfl,hlow,hq,p⟩
   have J:=E.out _ _ _ hq (a7.out.step p (fun h=>h))
   have k:=(a6.out.trans p).mono (T:=fun t=>t=tTry) (fun _ h=>h.elim)
   obtain⟨a8,L⟩:=hid2 J k
   clear J k p hq
   go_wp2_with fail
   refine a8.out.mono ?_
   rintro e w3 ⟨er,Q,aa,rfl,hr,-,M⟩
   obtain rfl:=a1.out _ _ hr
   have l:=L.out.trans M
   have N:=Z2 l
   clear l M hr
   go_wp2_with fail
   go_ret
   exact⟨rfl,aa,N.out⟩
theorem Qv1 {g:Tag} {b:Nat}(R:g≠tOut/\g≠tData/\g≠tAll) (h:PageAt w τ g b P) (y:Sound P) (hp:Small P) (c:ChangeP) (z:c.slot<12) {pb pa:Option Addr}{cb ca:Nat}(ha:Bytes w τ tData (.slice pa c.after.length ca) c.after) (h0:c.has=true->0<c.after.length) (B:c.after.length<=64) :
 Calls Tryz.prog 167 #[.pointer (some ⟨b,0,none⟩),.agg (ChgV c pb cb pa ca)] w fun e w'=>e = .returned (.tuple #[])/\∃Q C,DoneP P Q c.slot c.now/\PageAt w' C g b Q/\Step w τ w' C (fun t=>t=g):=by
 have D:=Own.born w τ tTn 124 (ChgV c pb cb pa ca)
 have i:=(Step.refl w τ nil).alloc (.cells (ChgV c pb cb pa ca) 124) tTn
 have E:=i.mono (T:=fun t=>t=g) (fun _ h=>h.elim)
 have h1:=h.step i (fun h=>h)
 have F:=ha.step i (fun h=>h)
 have j:=Small.room y hp c.slot c.after.length z B
 have o:=Qk1 R h1 y (c.slot:Int) F (fun e=>R.2.1 e.symm)
 have G:=fun (Q:List Int) (er:Nat) (hh:c.has=true) (x:SetR P Q (c.slot:Int) c.after er)=>x.room c.slot rfl (by omega) (h0 hh) B j
 have p:=Qhx (Step.refl _ _ (fun t=>t=g)) (.inl rfl) R.1 h1 y.tidy.lies c.slot (by omega)
 have I:DoneP P (if 0<pLen P c.slot then Qi7 P c.slot else P) c.slot []:=by
  by_cases m:0<pLen P c.slot
  ·rw[if_pos m]
   have O:=y.tidy.clear m
   exact⟨O.sound,O.num,O.lsn,O.data⟩
  ·rw[if_neg m]
   refine⟨y,rfl,rfl,fun t=>?_⟩
   by_cases e:t=c.slot
   ·rw[if_pos e,e];exact Qe7 (by omega)
   ·rw[if_neg e]
 generalize (if 0<pLen P c.slot then Qi7 P c.slot else P)=PC at *
 generalize τ.put w.heap.size tTn=τ1 at *
 have q:c.now=if c.has=true then c.after else []:=rfl
 generalize c.now=now at *
 unfold ChgV at *
 obtain⟨pg,sl,hd,J,be,af⟩:=c
 dsimp only at *
 have hwr:IntKind.i64.wrap (sl:Int)=(sl:Int):=Qbr sl (by omega)
 have k1:=D.at 1 (v:=.int .u16 (sl:Int)) rfl
 have k3:=D.at 3 (v:=.bool J) rfl
 have k5:=D.at 5 (v:=.slice pa af.length ca) rfl
 obtain⟨Ho,Hal,L,M,U,N,X,r⟩:=hid8 D i E o G p I q
 clear D i E o G p I q h h1 ha F y hp j
 cases J with
 | true =>
   go_enter Tryz.func167,Tryz.ntmps167
   go_wp2_with fail
   refine M.out.mono ?_
   rintro e w2 ⟨er,Q,s,rfl,Y,m,k⟩
   obtain rfl:=U.out _ _ trivial Y
   obtain⟨d1,d2,d3,d4⟩:=Y.ok rfl
   have hd:DoneP P Q sl af:=⟨d1,d2,d3,fun t=>by
    rw[d4]
    by_cases e:t=sl
    ·rw[if_pos e,if_pos (by omega)]
    ·rw[if_neg e,if_neg (by omega)]⟩
   have d:=L.out.trans k
   obtain⟨Hd,Z,l⟩:=hid3 hd m d
   clear hd m d k Y d4
   go_wp2_with fail
   go_returns
   exact⟨rfl,Q,s,by rw[r.out];exact Hd.out,Z.out,l.out⟩
 | false =>
   go_enter Tryz.func167,Tryz.ntmps167
   go_wp2_with fail
   refine N.out.mono ?_
   rintro e w2 ⟨rfl,s,m,k,-⟩
   have d:=L.out.trans k
   obtain⟨Z,l⟩:=hid2 m d
   clear m d k
   go_wp2_with fail
   go_returns
   exact⟨rfl,_,s,by rw[r.out];exact X.out,Z.out,l.out⟩
