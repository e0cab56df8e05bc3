/-
 Transactions,the laws' known: Make,and the chapter's example.
-/
import Derived.Test.YtemacanaihaldaaGreatML15A
import Derived.Test.YtemacanaihaldaaGreatMTxQ
import Derived.Deep.Slices
import Derived.Deep.Fields
import Derived.ChangeSame
import Derived.ChangeSlices
import Derived.Carry
set_option maxRecDepth 100000
set_option maxHeartbeats 4000000
set_option linter.all false
namespace Go.Proofs.YtemacanaihaldaaGreat
open Go.RowKit Go.Maps
def tBoth:Tag:=(322,0)
theorem Qw7 (w:World) (br bq:Nat):Calls Tryz.prog 138 #[.pointer (some ⟨br,0,none⟩),.pointer (some ⟨bq,0,none⟩)] w fun e b=>∃d,e = .returned (.pointer (some ⟨d,0,none⟩))/\∀τ,Step w τ b τ nil:=by
 go_enter Tryz.func138,Tryz.ntmps138
 go_wp2_with fail
 go_ret
 exact⟨_,rfl,fun τ=>(Step.refl w τ nil).alloc' _⟩
structure Both15 (w:World) (τ:Tags) (bb bt bn:Nat) (T:TwoH) (I:Ids):Prop where
 both:Own w τ bb tBoth 161 [.pointer (some ⟨bt,0,none⟩),.pointer (some ⟨I.bm,0,none⟩),.pointer (some ⟨bn,0,none⟩),.slice none 0 0]
 two:Own w τ bt tTwoW 97 T.cells
 bp:T.bp=I.bp
theorem Both15.step {w d:World}{τ b:Tags}{S:Tag->Prop}{e bt i:Nat}{T:TwoH}{I:Ids}(h:Both15 w τ e bt i T I) (m:Step w τ d b S) (j:∀g,S g->TyTag g):Both15 d b e bt i T I:=by
 have h1:¬S tBoth:=fun q=>by have:=(j _ q).fst;simp[tBoth] at this
 have h2:¬S tTwoW:=fun q=>by have:=(j _ q).fst;rw[Qba] at this;omega
 exact⟨h.both.step m h1,h.two.step m h2,h.bp⟩
def Jba (w:World) (S N:Nat) (e:Ending) (w':World):Prop :=
 ∃(bb bt bn:Nat) (T:TwoH) (I:Ids) (τ':Tags),e = .returned (.tuple #[.pointer (some ⟨bb,0,none⟩),.int .i64 1])/\Both15 w' τ' bb bt bn T I/\I.N=N/\I.S=S/\TZ w' τ' I (fun _=>0) [] 1 [] (fun _ _=>[]) 0/\Step w (fun _=>tBox) w' τ' AnyTag
theorem Qtl (w:World) (S N k:Nat) (hS:8<=S) (q:S<=1000) (ah:1<=N) (hN:N<=500) (I:3<=k) (x:k<=64):Calls Tryz.prog 74 #[.int .i64 (S:Int),.int .i64 (N:Int),.int .i64 (k:Int)] w (Jba w S N):=by
 have J:=Qxl w S N k hS q ah hN I x
 have ai:=Z2 J
 clear J
 go_enter Tryz.func74,Tryz.ntmps74
 go_wp2_with fail
 refine ai.out.mono ?_
 rintro e L ⟨bt,bf,τ1,T,H,HR,rfl,hT,M,O,R,U⟩
 have C:Step L τ1 L.drew τ1 nil:=(Step.refl L τ1 nil).drew
 have D:∀W X,Step L τ1 W X nil->W.cell? ⟨bt,2,none⟩=some (.pointer (some ⟨T.bl,0,none⟩))/\W.cell? ⟨bt,4,none⟩=some (.pointer (some ⟨T.bp,0,none⟩))/\W.cell? ⟨bt,3,none⟩=some (.pointer (some ⟨T.br,0,none⟩))/\W.cell? ⟨bt,5,none⟩=some (.pointer (some ⟨T.bq,0,none⟩)):=fun W X m=>by
  have h:=(hT.step m).two
  exact⟨h.at 2 rfl,h.at 4 rfl,h.at 3 rfl,h.at 5 rfl⟩
 have ak:=D _ _ C
 have y:=Qmk L.drew τ1 T.bl T.bp
 obtain⟨HT,al,am,an,ao,ap,Y,Z⟩:=hid8 hT M O R U C D y
 clear hT M O R U C D y
 go_wp2_with fail
 refine Qaf (S:=fun W:World=>W.cell? ⟨bt,2,none⟩=some (.pointer (some ⟨T.bl,0,none⟩))/\W.cell? ⟨bt,4,none⟩=some (.pointer (some ⟨T.bp,0,none⟩))/\W.cell? ⟨bt,3,none⟩=some (.pointer (some ⟨T.br,0,none⟩))/\W.cell? ⟨bt,5,none⟩=some (.pointer (some ⟨T.bq,0,none⟩))) (by kernel_rfl) ?_
 refine tk0 [0,1,2,3,4,5,6,7,8] ?_
 iterate 9
  refine tks (v:=?_) rfl (Or.inl ⟨by rfl,?_⟩) (by assumption) ?_
  rotate_left
  ·intro w o;(try dsimp only at o);go_simp
   all_goals with_reducible rfl
  try simp only[Act.put,lz1,lz2,lz3]
 refine tk9 ?_
 try simp only[lz4,lz5,lz6,lz1,lz2,lz3]
 refine tk0 [10,11,12,13,14,15,16,17] ?_
 iterate 8
  refine tks (v:=?_) rfl (Or.inl ⟨by rfl,?_⟩) (by assumption) ?_
  rotate_left
  ·intro w o;(try dsimp only at o);go_simp
   all_goals with_reducible rfl
  try simp only[Act.put,lz1,lz2,lz3]
 refine tk9 ?_
 try simp only[lz4,lz5,lz6,lz1,lz2,lz3]
 refine tk1 9 rfl fun K j=>?_
 go_simp
 go_at_call 79
 refine Z.out.mono ?_
 rintro e w2 ⟨bm,d,rfl,p,a1,a6⟩
 have E:=ap.out.trans a6
 have q:=Y.out _ _ E
 have a7:=Qw7 w2 T.br T.bq
 obtain⟨aq,ar,av,Hlow2⟩:=hid4 a1 E a7 p
 clear a1 E a7 p a6 ak
 refine j.out _ _ (fun _=>q) ?_
 clear j K
 refine tk1 18 rfl fun K j=>?_
 go_simp
 go_at_call 138
 refine av.out.mono ?_
 rintro e l ⟨z,rfl,F⟩
 have r:=ar.out.trans (F d)
 have a8:=Y.out _ _ r
 have aa:=aq.out.nil (F d)
 have ab:=HT.out.step r
 have ac:=Own.born l d tBoth 161 #[.pointer (some ⟨bt,0,none⟩),.pointer (some ⟨bm,0,none⟩),.pointer (some ⟨z,0,none⟩),.slice none 0 0]
 have s:Step l d (l.alloc (.cells #[.pointer (some ⟨bt,0,none⟩),.pointer (some ⟨bm,0,none⟩),.pointer (some ⟨z,0,none⟩),.slice none 0 0] 161)) (d.put l.heap.size tBoth) nil:=(Step.refl l d nil).alloc _ _
 have ad:=ab.step s
 have ae:=aa.nil s
 have B:=ao.out.trans ((r.trans s).mono (T:=AnyTag) (fun _ h=>h.elim))
 generalize d.put l.heap.size tBoth=af at *
 obtain⟨b,aw,ax,ag⟩:=hid4 ad ae ac B
 clear ad ae ac B F s r aa ab q
 refine j.out _ _ (fun _=>a8) ?_
 clear j K
 refine tk (i:=19) (v:=?_) rfl (Or.inl ⟨by rfl,?_⟩) (by assumption) ?_
 rotate_left
 ·intro w o;(try dsimp only at o);go_simp
  all_goals with_reducible rfl
 try simp only[Act.put,lz1,lz2,lz3]
 try simp only[lz4,lz5,lz6,lz1,lz2,lz3]
 refine tk1 20 rfl fun K j=>?_
 go_simp
 have G:(l.alloc (.cells #[.pointer (some ⟨bt,0,none⟩),.pointer (some ⟨bm,0,none⟩),.pointer (some ⟨z,0,none⟩),.slice none 0 0] 161)).cell? ⟨bt,2,none⟩=some (.pointer (some ⟨T.bl,0,none⟩))/\(l.alloc (.cells #[.pointer (some ⟨bt,0,none⟩),.pointer (some ⟨bm,0,none⟩),.pointer (some ⟨z,0,none⟩),.slice none 0 0] 161)).cell? ⟨bt,4,none⟩=some (.pointer (some ⟨T.bp,0,none⟩))/\(l.alloc (.cells #[.pointer (some ⟨bt,0,none⟩),.pointer (some ⟨bm,0,none⟩),.pointer (some ⟨z,0,none⟩),.slice none 0 0] 161)).cell? ⟨bt,3,none⟩=some (.pointer (some ⟨T.br,0,none⟩))/\(l.alloc (.cells #[.pointer (some ⟨bt,0,none⟩),.pointer (some ⟨bm,0,none⟩),.pointer (some ⟨z,0,none⟩),.slice none 0 0] 161)).cell? ⟨bt,5,none⟩=some (.pointer (some ⟨T.bq,0,none⟩)) :=
  ⟨b.out.two.at 2 rfl,b.out.two.at 4 rfl,b.out.two.at 3 rfl,b.out.two.at 5 rfl⟩
 refine j.out _ _ (fun _=>G) ?_
 clear j K a8
 refine tk1 21 rfl fun K j=>?_
 go_simp
 refine j.out _ _ (fun _=>G) ?_
 clear j K
 refine tk1 22 rfl fun K j=>?_
 go_simp
 refine j.out _ _ (fun h=>absurd h (by decide +kernel)) ?_
 clear j K G
 refine Qad (by kernel_rfl) ?_ _
 go_wp2_with fail
 go_ret2
 have hz:TZ (l.alloc (.cells #[.pointer (some ⟨bt,0,none⟩),.pointer (some ⟨bm,0,none⟩),.pointer (some ⟨z,0,none⟩),.slice none 0 0] 161)) af ⟨bm,T.bl,T.bp,bf,T.bd,N,S⟩ (fun _=>0) [] 1 [] (fun _ _=>[]) 0 :=
  Qun (k:=k) (H:=H) ⟨by have:=b.out.pool;rw[am.out] at this;exact this,by rw[b.out.hl];exact b.out.log,b.out.dev⟩ aw.out (by rw[b.out.hn,al.out]) b.out.hl an.out hN I x
 exact⟨l.heap.size,bt,z,T,⟨bm,T.bl,T.bp,bf,T.bd,N,S⟩,af,rfl,⟨ax.out,b.out.two,rfl⟩,rfl,rfl,hz,ag.out⟩
theorem Qia (w:World) (τ:Tags) (l:List Int) (b:IsB l) (hl:l.length<=1000):Bytes (w.alloc (.cells ⟨u8s l⟩ 5)) (τ.put w.heap.size tData) tData (.slice (some ⟨w.heap.size,0,none⟩) l.length l.length) l :=
 ⟨b,some ⟨w.heap.size,0,none⟩,l.length,rfl,Z0 _,by unfold maxLen;omega,fun _=>⟨w.heap.size,0,rfl,Tags.put_same _ _ _,fun i hi=>by
  have:=(Own.new w τ tData 5 (u8s l)).cell (0+i)
  rw[Nat.zero_add] at this
  rw[Nat.zero_add,this,Qfw l i hi]⟩⟩
def Qbu (k:Nat):List Int:=if k%4=0 then [(k:Int)] else [(k:Int),1,2,3]
theorem Qqz (k:Nat):0<(Qbu k).length/\(Qbu k).length<=4:=by
 unfold Qbu
 split <;> simp
def ownSlot (n k:Nat):Nat:=(3*n+k%3)%12
theorem Qim (n k:Nat):ownSlot n k<12:=Y9 _ (by omega)
def OpV (kd nn pg:Nat) (sl:Int) (p:Option Addr) (m c k at_:Nat):Array Value:=#[.int .u8 (kd:Int),.int .u32 (nn:Int),.int .u32 (pg:Int),.int .i64 sl,.slice p m c,.int .u8 (k:Int),.int .u64 (at_:Int)]
theorem Qye (w:World) (τ:Tags) {k:Nat}(hk:k<256):Bytes (w.alloc (.cells #[.int .u8 (k:Int)] 5)) (τ.put w.heap.size tData) tData (.slice (some ⟨w.heap.size,0,none⟩) 1 1) [(k:Int)] :=
 Qia w τ [(k:Int)] (by intro x b;rw[Y8 b];omega) (by simp)
theorem Qyd (w:World) (τ:Tags) {k:Nat}(hk:k<256):Bytes (w.alloc (.cells #[.int .u8 (k:Int),.int .u8 1,.int .u8 2,.int .u8 3] 5)) (τ.put w.heap.size tData) tData (.slice (some ⟨w.heap.size,0,none⟩) 4 4) [(k:Int),1,2,3] :=
 Qia w τ [(k:Int),1,2,3] (by intro x b;simp at b;rcases b with rfl|rfl|rfl|rfl <;> omega) (by simp)
theorem Qqw {w:World}{τ:Tags}{I:Ids}{b:Nat->Nat}{X:List OneP}{next:Nat}{R:List RecP}{V:SlotV}{st:Nat}(h:TZ w τ I b X next R V st):Calls Tryz.prog 41 #[.pointer (some ⟨I.bp,0,none⟩)] w fun e d=>e = .returned (.int .i64 (I.N:Int))/\w=d:=by
 obtain⟨H,L,D,F,s,cur,h1,-⟩:=h.is
 have:=Qk2 h1.pool.pool
 rw[h1.hn] at this
 exact this
theorem ty_tn:¬TyTag tTn:=by
 rintro((h|h|h)|h)
 ·exact pw_tn h
 ·simp[Qai,tTn] at h
 ·simp[tTn] at h
 ·rcases h with h|h|h <;> simp[tTn] at h
theorem Qzl {w:World}{τ:Tags}{I:Ids}{bo:Nat->Nat}{X:List OneP}{next:Nat}{R:List RecP}{V:SlotV}{st:Nat}(h:TZ w τ I bo X next R V st) (hst:st<=1000000) (hN:1<=I.N/\I.N<=512) (n:Nat) (hn:n<=900) {C:Ending->World->Prop}{kd nn pg:Nat}{sl:Int}{p:Option Addr}{m c k at_:Nat}(hkd:kd<256) (hpg:pg<4294967296) (hk:k<256)
 (hC:∀W T q,Step w τ W T nil->Bytes W T tData (.slice q (Qbu k).length (Qbu k).length) (Qbu k)->Calls Tryz.prog 75 #[.pointer (some ⟨I.bm,0,none⟩),.int .u32 (n:Int),.int .u32 ((pg%I.N:Nat):Int),.int .i64 (ownSlot n k:Int),.bool (decide (0<kd%5)),.slice q (Qbu k).length (Qbu k).length] W fun e w'=>C e w'/\(∃v,e = .returned v)/\∃T',Step W T w' T' TyTag) :
 Calls Tryz.prog 27 #[.pointer (some ⟨I.bm,0,none⟩),.int .u32 (n:Int),.agg (OpV kd nn pg sl p m c k at_)] w C:=by
 unfold OpV
 have ai:=(Step.refl w τ nil).alloc (.cells #[.int .u8 (kd:Int),.int .u32 (nn:Int),.int .u32 (pg:Int),.int .i64 sl,.slice p m c,.int .u8 (k:Int),.int .u64 (at_:Int)] 62) tTn
 have D:=Own.born w τ tTn 62 #[.int .u8 (kd:Int),.int .u32 (nn:Int),.int .u32 (pg:Int),.int .i64 sl,.slice p m c,.int .u8 (k:Int),.int .u64 (at_:Int)]
 obtain⟨bq,Z⟩:∃bq,w.heap.size=bq:=⟨_,rfl⟩
 generalize τ.put w.heap.size tTn=τ1 at *
 rw[Z] at D
 obtain⟨W1,aa⟩:∃W,w.alloc (.cells #[.int .u8 (kd:Int),.int .u32 (nn:Int),.int .u32 (pg:Int),.int .i64 sl,.slice p m c,.int .u8 (k:Int),.int .u64 (at_:Int)] 62)=W:=⟨_,rfl⟩
 have aj:(w.alloc (.cells #[.int .u8 (kd:Int),.int .u32 (nn:Int),.int .u32 (pg:Int),.int .i64 sl,.slice p m c,.int .u8 (k:Int),.int .u64 (at_:Int)] 62)).heap.size=w.heap.size+1:=World.size_alloc _ _
 rw[aa,Z] at aj
 rw[aa] at ai D
 have e5:=D.at 5 (v:=.int .u8 (k:Int)) rfl
 obtain⟨b8,HC,b9,ba,bb,bc,bd⟩:=hid7 h hC ai D Z aa aj
 clear h hC ai D Z aa aj
 go_enter Tryz.func27,Tryz.ntmps27
 go_upto_region 2 with fail
 try rw[bc.out]
 try rw[bb.out]
 have ak:=Qyd W1 τ1 hk
 have E:=(Step.refl W1 τ1 nil).alloc (.cells #[.int .u8 (k:Int),.int .u8 1,.int .u8 2,.int .u8 3] 5) tData
 generalize τ1.put W1.heap.size tData=ab at *
 have x:=ba.out.step E (fun h=>h)
 have F:=b9.out.trans E
 obtain⟨W2,G⟩:∃W,W1.alloc (.cells #[.int .u8 (k:Int),.int .u8 1,.int .u8 2,.int .u8 3] 5)=W:=⟨_,rfl⟩
 obtain⟨q2,ac⟩:∃q,bq+1=q:=⟨_,rfl⟩
 rw[G,bd.out,ac] at ak
 rw[G] at x F
 rw[G,ac]
 have f5:=x.at 5 (v:=.int .u8 (k:Int)) rfl
 obtain⟨be,ae,af,HW2,Hq2⟩:=hid5 ak x F G ac
 clear ak x F G ac E e5
 have aw:IntKind.u8.wrap ((k:Int)%4)=(k:Int)%4:=by
  have:IntKind.u8.wrap ((k:Int)%4)=((k:Int)%4)%256:=by simp[IntKind.wrap,IntKind.bits,IntKind.signed]
  rw[this];omega
 refine Or.elim (Decidable.em (k%4=0)) ?c1 ?c2
 case' c1 =>
  intro al
  have hm:(k:Int)%4=0:=by omega
  go_upto_region 4 with fail
  have i:=Qye W2 ab hk
  have J:=(Step.refl W2 ab nil).alloc (.cells #[.int .u8 (k:Int)] 5) tData
  have d:=af.out.trans J
  have b:=ae.out.step J (fun h=>h)
  generalize ab.put W2.heap.size tData=j at *
  obtain⟨W3,l⟩:∃W,W2.alloc (.cells #[.int .u8 (k:Int)] 5)=W:=⟨_,rfl⟩
  obtain⟨q3,L⟩:∃q,W2.heap.size=q:=⟨_,rfl⟩
  rw[l,L] at i
  rw[l] at d b
  rw[l,L]
  have hd:Qbu k=[(k:Int)]:=if_pos al
  have M:(Qbu k).length=1:=by rw[hd];rfl
  rw[<-hd] at i
  clear J
 case' c2 =>
  intro al
  have hm:¬(k:Int)%4=0:=by omega
  have hm':((k:Int)%4==0)=false:=beq_eq_false_iff_ne.2 hm
  go_upto_region 4 with fail
  have i:=be.out
  have d:=af.out
  have b:=ae.out
  obtain⟨W3,l⟩:∃W,W2=W:=⟨_,rfl⟩
  obtain⟨q3,L⟩:∃q,q2=q:=⟨_,rfl⟩
  obtain⟨j,ag⟩:∃q,ab=q:=⟨_,rfl⟩
  rw[l,L,ag] at i
  rw[l,ag] at d b
  rw[l,L]
  have hd:Qbu k=[(k:Int),1,2,3]:=if_neg al
  have M:(Qbu k).length=4:=by rw[hd];rfl
  rw[<-hd] at i
 all_goals (
  have O:Bytes W3 j tData (.slice (some ⟨q3,0,none⟩) (Qbu k).length (Qbu k).length) (Qbu k):=by rw[M];exact i
  have ad:=b8.out.nil d
  have o:Step W3 j W3.drew j nil:=(Step.refl W3 j nil).drew
  have an:∀W T,Step W3 j W T nil->W.cell? ⟨bq,0,none⟩=some (.int .u8 (kd:Int))/\W.cell? ⟨bq,2,none⟩=some (.int .u32 (pg:Int))/\W.cell? ⟨bq,5,none⟩=some (.int .u8 (k:Int)):=fun W T q=>⟨(b.step q (fun h=>h)).at 0 rfl,(b.step q (fun h=>h)).at 2 rfl,(b.step q (fun h=>h)).at 5 rfl⟩
  have ao:=an _ _ o
  have ax:=Qhg (ad.nil o).mgr
  have ah:=Qqw (ad.nil o)
  have z:=HC.out W3.drew j _ (d.trans o) (O.step o (fun h=>h))
  rw[M] at z
  have a1:IntKind.u32.wrap (I.N:Int)=(I.N:Int):=by simp[IntKind.wrap,IntKind.bits,IntKind.signed];omega
  have a2:IntKind.u32.wrap ((pg:Int)%(I.N:Int))=((pg%I.N:Nat):Int):=by
   have h1:((pg%I.N:Nat):Int)=(pg:Int)%(I.N:Int):=by omega
   have h2:pg%I.N<I.N:=Y9 _ (by omega)
   rw[<-h1]
   generalize pg%I.N=r at *
   simp[IntKind.wrap,IntKind.bits,IntKind.signed];omega
  have a3:IntKind.u32.wrap (3*(n:Int))=3*(n:Int):=by
   have:IntKind.u32.wrap (3*(n:Int))=(3*(n:Int))%4294967296:=by simp[IntKind.wrap,IntKind.bits,IntKind.signed]
   rw[this];omega
  have a4:IntKind.u32.wrap (k:Int)=(k:Int):=by simp[IntKind.wrap,IntKind.bits,IntKind.signed];omega
  have a5:IntKind.u32.wrap ((k:Int)%3)=(k:Int)%3:=by
   have:IntKind.u32.wrap ((k:Int)%3)=((k:Int)%3)%4294967296:=by simp[IntKind.wrap,IntKind.bits,IntKind.signed]
   rw[this];omega
  have a6:IntKind.u32.wrap (3*(n:Int)+(k:Int)%3)=3*(n:Int)+(k:Int)%3:=by
   have:IntKind.u32.wrap (3*(n:Int)+(k:Int)%3)=(3*(n:Int)+(k:Int)%3)%4294967296:=by simp[IntKind.wrap,IntKind.bits,IntKind.signed]
   rw[this];omega
  have ap:((ownSlot n k:Nat):Int)=(3*(n:Int)+(k:Int)%3)%12:=by unfold ownSlot;omega
  have U:=Qim n k
  have a7:IntKind.u32.wrap ((3*(n:Int)+(k:Int)%3)%12)=((ownSlot n k:Nat):Int):=by
   rw[<-ap]
   generalize ownSlot n k=r at *
   simp[IntKind.wrap,IntKind.bits,IntKind.signed];omega
  have a8:IntKind.i64.wrap ((ownSlot n k:Nat):Int)=((ownSlot n k:Nat):Int):=by
   generalize ownSlot n k=r at *
   simp[IntKind.wrap,IntKind.bits,IntKind.signed];omega
  have a9:IntKind.u8.wrap ((kd:Int)%5)=(kd:Int)%5:=by
   have:IntKind.u8.wrap ((kd:Int)%5)=((kd:Int)%5)%256:=by simp[IntKind.wrap,IntKind.bits,IntKind.signed]
   rw[this];omega
  have b1:decide (0<(kd:Int)%5)=decide (0<kd%5):=by
   by_cases h:0<kd%5
   ·rw[decide_eq_true h,decide_eq_true (by omega)]
   ·rw[decide_eq_false h,decide_eq_false (by omega)]
  have b2:¬(I.N:Int)=0:=by omega
  have b4:¬I.N=0:=by omega
  have bf:(pg:Int).tmod (I.N:Int)=((pg%I.N:Nat):Int):=by rw[Int.tmod_eq_emod_of_nonneg (by omega)];omega
  have b3:((I.N:Int)==0)=false:=beq_eq_false_iff_ne.2 b2
  obtain⟨os,aq⟩:∃os,ownSlot n k=os:=⟨_,rfl⟩
  obtain⟨op,ar⟩:∃op,pg%I.N=op:=⟨_,rfl⟩
  rw[aq] at a7 a8 z
  rw[ar] at a2 bf z
  obtain⟨B,hB⟩:∃B,decide (0<kd%5)=B:=⟨_,rfl⟩
  rw[hB] at b1 z
  have Hb3:=Z2 i
  have Hb3':=Z2 O
  obtain⟨Hst3,ay,Hz3,bh,Hlo,bi⟩:=hid6 d b ad o an ax
  have az:=Z2 ah
  obtain⟨bj,bk,Hsl12,bl,Hop,Hd,Hdl,Hwr,HB⟩:=hid9 z ap U aq ar hd M aw hB
  clear i O d b ad o an ax ah z ap U aq ar hd M aw hB
  go_wp2_with fail
  refine Qaf (S:=fun W:World=>W.cell? ⟨bq,0,none⟩=some (.int .u8 (kd:Int))/\W.cell? ⟨bq,2,none⟩=some (.int .u32 (pg:Int))/\W.cell? ⟨bq,5,none⟩=some (.int .u8 (k:Int))) (by kernel_rfl) ?_
  refine tk0 [0,1,2,3,4] ?_
  iterate 5
   refine tks (v:=?_) rfl (Or.inl ⟨by rfl,?_⟩) (by assumption) ?_
   rotate_left
   ·intro w s;(try dsimp only at s);go_simp
    all_goals with_reducible rfl
   try simp only[Act.put,lz1,lz2,lz3]
  refine tk9 ?_
  try simp only[lz4,lz5,lz6,lz1,lz2,lz3]
  refine tk0 [9,10,11,12,13,14,15,16,17] ?_
  iterate 9
   refine tks (v:=?_) rfl (Or.inl ⟨by rfl,?_⟩) (by assumption) ?_
   rotate_left
   ·intro w s;(try dsimp only at s);go_simp
    all_goals with_reducible rfl
   try simp only[Act.put,lz1,lz2,lz3]
  refine tk9 ?_
  try simp only[lz4,lz5,lz6,lz1,lz2,lz3]
  refine tk0 [18,19,20,21,22] ?_
  iterate 5
   refine tks (v:=?_) rfl (Or.inl ⟨by rfl,?_⟩) (by assumption) ?_
   rotate_left
   ·intro w s;(try dsimp only at s);go_simp
    all_goals with_reducible rfl
   try simp only[Act.put,lz1,lz2,lz3]
  refine tk9 ?_
  try simp only[lz4,lz5,lz6,lz1,lz2,lz3]
  refine tk1 5 rfl fun K Y=>?_
  go_simp
  go_at_call 25
  refine bi.out.mono ?_
  rintro e w' ⟨rfl,rfl⟩
  refine Y.out _ _ (fun _=>ao) ?_
  clear Y K
  refine tk1 6 rfl fun K Y=>?_
  go_simp
  go_at_call 41
  refine az.out.mono ?_
  rintro e w' ⟨rfl,rfl⟩
  refine Y.out _ _ (fun _=>ao) ?_
  clear Y K
  refine tk0 [7,8] ?_
  iterate 2
   refine tks (v:=?_) rfl (Or.inl ⟨by rfl,?_⟩) (by assumption) ?_
   rotate_left
   ·intro w s;(try dsimp only at s);go_simp
    all_goals with_reducible rfl
   try simp only[Act.put,lz1,lz2,lz3]
  refine tk9 ?_
  try simp only[lz4,lz5,lz6,lz1,lz2,lz3]
  refine tk1 23 rfl fun K Y=>?_
  go_simp
  go_at_call 75
  have s1:IntKind.i64.wrap ((IntKind.u32.wrap (3*(n:Int)+(k:Int).tmod 3)).tmod 12)=(os:Int):=by
   rw[Int.tmod_eq_emod_of_nonneg (show (0:Int)<=(k:Int) by omega),a6,Int.tmod_eq_emod_of_nonneg (by omega),<-bk.out,bl.out]
   exact a8
  have s2:decide (0<(kd:Int).tmod 5)=B:=by
   rw[Int.tmod_eq_emod_of_nonneg (show (0:Int)<=(kd:Int) by omega)]
   exact b1
  rw[s1,s2]
  refine bj.out.mono ?_
  rintro e w4 ⟨b0,⟨v4,rfl⟩,T4,b5⟩
  have y:=(ay.out.step bh.out (fun h=>h)).step b5 ty_tn
  have bp:w4.cell? ⟨bq,0,none⟩=some (.int .u8 (kd:Int))/\w4.cell? ⟨bq,2,none⟩=some (.int .u32 (pg:Int))/\w4.cell? ⟨bq,5,none⟩=some (.int .u8 (k:Int)):=⟨y.at 0 rfl,y.at 2 rfl,y.at 5 rfl⟩
  have br:=Z2 b0
  clear b0 b5 y ao
  refine Y.out _ _ (fun _=>bp) ?_
  clear Y K
  refine tk1 24 rfl fun K Y=>?_
  go_simp
  refine Y.out _ _ (fun h=>absurd h (by decide +kernel)) ?_
  clear Y K
  refine Qad (by kernel_rfl) ?_ _
  go_wp2_with fail
  exact br.out)
def Qz7 (w:World) (e:Ending) (w':World):Prop:=e = .returned (.int .u16 150)/\w=w'
theorem Qrn {w:World}{τ:Tags}{bm bl bp:Nat}{j:Nat->Nat}{X:List OneP}{next:Nat}(h:MgrAt w τ bm bl bp j X next) (k:Nat) (b:k<4294967296) (d:∀x∈X,x.txn≠k) (n sl:Nat) (has:Bool) (p:Option Addr) (m c:Nat) :
 Calls Tryz.prog 75 #[.pointer (some ⟨bm,0,none⟩),.int .u32 (k:Int),.int .u32 (n:Int),.int .i64 (sl:Int),.bool has,.slice p m c] w (Qz7 w):=by
 have i:=Qy6 h k b d
 have l:=Z2 i
 clear i h
 go_enter Tryz.func75,Tryz.ntmps75
 go_wp2_with fail
 refine l.out.mono ?_
 rintro e w1 ⟨rfl,rfl⟩
 go_wp2_with fail
 go_ret
 exact⟨rfl,rfl⟩
theorem Qjv (x y:OneP) (h:x.txn=y.txn):putX [x] y=[y]:=by
 unfold putX
 simp[h]
def Qz5 (w:World) (e:Ending) (w':World):Prop:=e = .returned (.bool true)/\∃τ',Step w (fun _=>tBox) w' τ' AnyTag
def kV0:SlotV:=fun _ _=>[]
def kC1:ChangeP:=⟨0,0,false,true,[],[7]⟩
def kC2:ChangeP:=⟨0,0,true,true,[7],[8,8]⟩
def kX1:OneP:=begOne 1 1
def kX2:OneP:=kX1.changed 28 37
def kX3:OneP:=kX2.changed 65 39
def kR1:List RecP:=[Qic 1]
def kR2:List RecP:=kR1++[Qcp kC1 kX1]
def kR3:List RecP:=kR2++[Qcp kC2 kX2]
theorem Qlh:(recsB kR1).length=27:=by
 have:=Qm5 1
 unfold kR1 recsB
 simpa using this
theorem Qlg:(recsB kR2).length=64:=by
 unfold kR2
 rw[Qb0,Qlh,Qdt];rfl
theorem Qvp:(recsB kR3).length=103:=by
 unfold kR3
 rw[Qb0,Qlg,Qdt];rfl
theorem Jax:IsB [7]:=by intro x b;rw[Y8 b];omega
theorem Qzv:IsB [8,8]:=by intro x b;simp at b;omega
theorem Qra (w:World):Calls Tryz.prog 19 #[] w (Qz5 w):=by
 have bf:=Qtl w 20 4 3 (by omega) (by omega) (by omega) (by omega) (by omega) (by omega)
 have ct:=Z2 bf
 clear bf
 go_enter Tryz.func19,Tryz.ntmps19
 go_wp2_with fail
 refine ct.out.mono ?_
 rintro e w1 ⟨bb,bt,bn,T,I,τ1,rfl,ap,hN,hS,aq,bg⟩
 have c1:=ap.both.at 1 (v:=.pointer (some ⟨I.bm,0,none⟩)) rfl
 have bh:=Qry aq (by omega) (by simp)
 obtain⟨cv,R,HS,Hz1,cw,cx⟩:=hid6 ap hN hS aq bg bh
 clear ap hN hS aq bg bh
 go_wp2_with fail
 refine cx.out.mono ?_
 rintro e w2 ⟨U,ar,⟨d,-,-⟩|⟨-,rfl,nb,bi⟩⟩
 ·exact absurd (by rw[HS.out];decide) d
 have av:=cv.out.step ar (fun _ h=>h)
 have aa:=cw.out.trans (ar.mono (T:=AnyTag) (fun _ h=>Qdw h))
 have ab:TZ w2 U I (boPut (fun _=>0) 1 nb) [kX1] 2 kR1 kV0 0:=bi
 have p:=Qia w2 U [7] Jax (by simp)
 have i:=(Step.refl w2 U nil).alloc (.cells ⟨u8s [7]⟩ 5) tData
 generalize U.put w2.heap.size tData=τa at *
 have X:=ab.nil i
 have q:=av.step i (fun _ h=>h.elim)
 have ac:=aa.trans (i.mono (T:=AnyTag) (fun _ h=>h.elim))
 have Y:=Qkf X (by omega) (x:=kX1) (by simp) rfl (by rw[Qlh];decide) (by decide) (n:=0) (by rw[R.out];omega) (by rw[R.out];omega) (sl:=0) (by omega) true p (by simp) (by simp)
 have c2:=av.both.at 1 (v:=.pointer (some ⟨I.bm,0,none⟩)) rfl
 obtain⟨bo,bj⟩:∃b,boPut (fun _=>0) 1 nb=b:=⟨_,rfl⟩
 rw[bj] at Y X
 have bk:chgV kV0 0 0 true [7]=kC1:=rfl
 rw[bk] at Y
 obtain⟨cy,Hza,aw,bl⟩:=hid4 Y X q ac
 clear Y X q ac c1 bi ab p i av aa ar bk bj
 go_wp2_with fail
 refine cy.out.mono ?_
 rintro e w3 ⟨cz,ax,⟨d,-,-⟩|⟨-,d,-,-⟩|⟨-,-,rfl,ay⟩⟩
 ·cases d
 ·exact absurd (by rw[Qlh,HS.out];decide) d
 have r:TZ w3 cz I bo [kX2] 2 kR2 (putV kV0 0 0 [7]) 1:=by
  rw[Qjv kX1 (kX1.changed (1+(recsB kR1).length) (Qak kC1)) rfl,Qlh] at ay
  exact ay
 have az:=aw.out.step ax (fun _ h=>.inl h)
 have ad:=bl.out.trans (ax.mono (T:=AnyTag) (fun _ h=>Qdw (.inl h)))
 have c3:=az.both.at 1 (v:=.pointer (some ⟨I.bm,0,none⟩)) rfl
 have b0:=Qde r.mgr
 rw[show ((resv [kX2]:Nat):Int)=91 from rfl] at b0
 have bq:=Z2 r
 obtain⟨da,br,db⟩:=hid3 az ad b0
 clear r az ad b0 ay ax c2
 go_wp2_with fail
 refine db.out.mono ?_
 rintro e w4 ⟨rfl,b1,Z⟩
 have b2:=bq.out.nil Z
 have b3:=da.out.step Z (fun _ h=>h.elim)
 have ae:=br.out.trans (Z.mono (T:=AnyTag) (fun _ h=>h.elim))
 have c4:=b3.both.at 1 (v:=.pointer (some ⟨I.bm,0,none⟩)) rfl
 have af:=Qsd b2.mgr (x:=kX2) (by simp) rfl 1 rfl (by omega)
 obtain⟨dd,de,bs,bv⟩:=hid4 b2 b3 ae af
 clear b2 b3 ae af Z c3
 go_wp2_with fail
 refine bv.out.mono ?_
 rintro e w' ⟨rfl,rfl⟩
 have p:=Qia w4 b1 [8,8] Qzv (by simp)
 have i:=(Step.refl w4 b1 nil).alloc (.cells ⟨u8s [8,8]⟩ 5) tData
 generalize b1.put w4.heap.size tData=τb at *
 have b4:=dd.out.nil i
 have bw:=de.out.step i (fun _ h=>h.elim)
 have ag:=bs.out.trans (i.mono (T:=AnyTag) (fun _ h=>h.elim))
 have B:=Qkf b4 (by omega) (x:=kX2) (by simp) rfl (by rw[Qlg];decide) (by decide) (n:=0) (by rw[R.out];omega) (by rw[R.out];omega) (sl:=0) (by omega) true p (by simp) (by simp)
 rw[show chgV (putV kV0 0 0 [7]) 0 0 true [8,8]=kC2 from rfl] at B
 obtain⟨bz,Hzb,df,c7⟩:=hid4 B b4 bw ag
 clear B b4 bw ag p i
 go_wp2_with fail
 refine bz.out.mono ?_
 rintro e w5 ⟨dh,b5,⟨d,-,-⟩|⟨-,d,-,-⟩|⟨-,-,rfl,b6⟩⟩
 ·cases d
 ·exact absurd (by rw[Qlg,HS.out];decide) d
 have C:TZ w5 dh I bo [kX3] 2 kR3 (putV (putV kV0 0 0 [7]) 0 0 [8,8]) 2:=by
  rw[Qjv kX2 (kX2.changed (1+(recsB kR2).length) (Qak kC2)) rfl,Qlg] at b6
  exact b6
 have b7:=df.out.step b5 (fun _ h=>.inl h)
 have ah:=c7.out.trans (b5.mono (T:=AnyTag) (fun _ h=>Qdw (.inl h)))
 have c5:=b7.both.at 1 (v:=.pointer (some ⟨I.bm,0,none⟩)) rfl
 have ai:RunC kR3 kX3.undo [(65,kC2)] 28:=by
  have h1:RecAt kR3 65 (Qcp kC2 kX2):=by
   have:=RecAt.new kR2 (Qcp kC2 kX2)
   rw[Qlg] at this
   exact this
  exact RunC.chg h1 rfl (by decide) (.nil 28)
 have E:ChgOk I.N kC2:=⟨by rw[R.out];decide,by decide,by decide,by decide,rfl,rfl⟩
 have q:=Qy3 C (x:=kX3) (by simp) rfl (l:=[(65,kC2)]) (k:=[(28,kC1)]) (m:=28) ai rfl (fun z hz=>by rw[Y8 hz];exact Z0 _) (fun z hz=>by rw[Y8 hz];exact E) (.inl (by decide)) (by rw[Qvp];decide) (by rw[Qvp,HS.out];decide) (by decide) (by rw[R.out];omega)
 have Hz5':=Z2 C
 obtain⟨di,cb,aw⟩:=hid3 b7 ah q
 clear C b7 ah q b6 b5 c4 ai E
 go_wp2_with fail
 refine aw.out.mono ?_
 rintro e w6 ⟨rfl,τ6,R6,y,V6,st6,j⟩
 have G:=di.out.step j.step (fun _ h=>h)
 have aj:=cb.out.trans (j.step.mono (T:=AnyTag) (fun _ h=>Qdw h))
 have b8:=j.tz
 have cc:V6 0 0=[7]:=j.view 0 0
 have J:=j.st
 obtain⟨H,L,D,F,s,cur,h1,h2,h3,h4,h5⟩:=b8.is
 have M:=Qr0 h1 (by simp at J;omega) 0 (by rw[R.out];omega)
 have c6:=G.both.at 0 (v:=.pointer (some ⟨bt,0,none⟩)) rfl
 have d6:=G.two.at 4 (v:=.pointer (some ⟨T.bp,0,none⟩)) rfl
 rw[<-G.bp] at M
 obtain⟨dj,cd,Hz6,dk,H1,H2,H3,H4,H5,ce,dl⟩:=hid11 G aj b8 cc h1 h2 h3 h4 h5 M j
 clear G aj b8 cc h1 h2 h3 h4 h5 M j c5 J
 go_wp2_with fail
 refine ce.out.mono ?_
 rintro e w7 ⟨b,rfl,τ7,H7,L7,D7,F7,s7,i7,f7,a1,hst7',ak,ba⟩
 have cf:=(a1.good.page 0 (by rw[R.out];omega)).1
 have bc:=Qk0 a1.page cf.tidy.lies.fit 0 (by omega) tData
 rw[(H5.out 0 (by rw[R.out];omega)).2 0,dk.out] at bc
 have cg:=dj.out.step ba (fun _ h=>.inl (.inl h))
 have al:=cd.out.trans (ba.mono (T:=AnyTag) (fun _ h=>Qdw (.inl (.inl h))))
 obtain⟨dm,Hsl7,dn,dp,ch⟩:=hid5 a1 ak bc cg al
 clear a1 ak bc cg al ba c6 d6 cf
 go_wp2_with fail
 refine dn.out.mono ?_
 rintro e w8 ⟨u,dq,rfl,hu,a6⟩
 obtain⟨pu,cu,rfl⟩:=hu.val
 have bd:=dm.out.step a6 (fun g h=>h.elim)
 have a7:=dp.out.step a6 (fun _ h=>h.elim)
 have am:=ch.out.trans (a6.mono (T:=AnyTag) (fun _ h=>h.elim))
 have c8:=a7.both.at 0 (v:=.pointer (some ⟨bt,0,none⟩)) rfl
 have d8:=a7.two.at 4 (v:=.pointer (some ⟨T.bp,0,none⟩)) rfl
 have an:=Qrz bd (by omega)
 have ci:=hu.bytes
 obtain⟨Hg8,dr,cj,ck,ds⟩:=hid5 bd a7 am an ci
 clear bd a7 am an ci a6 hu
 go_wp2_with fail
 refine ck.out.mono ?_
 rintro e w9 ⟨rfl,s9,cm,a8⟩
 have be:=dr.out.step a8 (fun _ h=>.inl (.inl h))
 have ao:=cj.out.trans (a8.mono (T:=AnyTag) (fun _ h=>Qdw (.inl (.inl h))))
 have cn:=ds.out.step a8 Qhd
 obtain⟨-,p9,e9,dt,dv,dw,co⟩:=cn
 cases dt
 obtain⟨b9,o9,rfl,-,O⟩:=co (by simp)
 have o:=O 0 (by simp)
 rw[Nat.add_zero] at o
 rw[show ([7]:List Int).getD 0 0=7 from rfl] at o
 have cp:=Qrn cm.mgr 9 (by omega) (fun z hz=>by
  have:z.txn=kX3.txn:=by
   rcases putX_mem hz with h|⟨h,h2⟩
   ·rw[h];exact dl.out.txn
   ·rw[Y8 h]
  rw[this];decide) 0 0 true (some ⟨b9,o9,none⟩) 1 cu
 have c9:=be.both.at 1 (v:=.pointer (some ⟨I.bm,0,none⟩)) rfl
 obtain⟨Hb9,cq,dx⟩:=hid3 be ao cp
 clear be ao cp O dv dw co a8 cm c8 d8
 go_wp2_with fail
 refine dx.out.mono ?_
 rintro e w' ⟨rfl,rfl⟩
 go_wp2_with fail
 go_ret
 exact⟨rfl,dq,cq.out⟩
theorem Jht {F:List Fr}{s:Ck.Clk.St}(h:Clock F s) {i:Nat}{f:Fr}(e:F[i]?=some f) (a:Nat):Clock (F.set i {f with first:=a}) s:=by
 have b:=(Z4 e).1
 refine⟨by rw[Y1];exact h.n,h.h,h.n64,fun j g k=>?_,h.p⟩
 rcases set_get b k with ⟨rfl,rfl⟩|⟨_,d⟩
 ·exact h.t _ f e
 ·exact h.t j g d
def Jiy (w:World) (τ:Tags) (I:Ids) (bo:Nat->Nat) (X:List OneP) (next:Nat) (R:List RecP) (V:SlotV) (st:Nat) (e:Ending) (w':World):Prop :=
 ∃(v:Bool) (τ':Tags),e = .returned (.bool v)/\Step w τ w' τ' TyTag/\TZ w' τ' I bo X next R V (st+1)
theorem Jh9 {w:World}{τ:Tags}{I:Ids}{J:Nat->Nat}{X:List OneP}{next:Nat}{R:List RecP}{V:SlotV}{st:Nat}(h:TZ w τ I J X next R V st) (hst:st<=1000000) (n:Nat) (j:n<4294967296) :
 Calls Tryz.prog 26 #[.pointer (some ⟨I.bp,0,none⟩),.int .u32 (n:Int)] w (Jiy w τ I J X next R V st):=by
 have M:=h
 obtain⟨H,L,D,F,s,z,h1,h2,U,h4,Y⟩:=h.is
 have x:=h1.pool
 have d:=h1.good
 cases y:Qaq F n with
 | none =>
   refine(Jaa x.pool n j y).mono ?_
   rintro e O ⟨rfl,rfl⟩
   exact⟨false,τ,rfl,Step.refl _ _ _,M.le (by omega)⟩
 | some i =>
   obtain⟨f,m,hh⟩:=(Qa6 x.pool.one n i).1 y
   by_cases h0:f.first=0
   ·refine(Qyy x.pool n j y m h0).mono ?_
    rintro e O ⟨rfl,rfl⟩
    exact⟨false,τ,rfl,Step.refl _ _ _,M.le (by omega)⟩
   ·obtain⟨b,P,k,l⟩:=Qd7.1 hh
    have o:0<f.first:=by omega
    obtain⟨B,Z,_⟩:=d.frame i f b P m k
    have hn:n<I.N:=by rw[<-l];exact B
    have p:Sound P:=by rw[Z,l];exact(d.page n hn).1
    refine(Qyx x d.rise d.cap d.f0 (by rw[d.f1,h1.hn];omega) (d.calm.lim _) (by omega) n j y m k (by rw[l,h1.hn];exact hn) o rfl (Qtd p)).mono ?_
    rintro e O ⟨rfl,kk,fl,C,E,q,r⟩
    obtain⟨G,-,-⟩:=d.write m k o E
    obtain⟨e1,e2,e3,e4,e5⟩:=Qjz L (kk+(if fl=true then 1 else 0))
    rw[h1.hn] at q
    refine⟨true,C,rfl,r.mono (fun _ h=>.inl (.inl h)),⟨⟨_,_,_,_,_,z,⟨q,h1.mgr.step r (fun t ht hq=>(Qi3 hq).1 ht),G,Jht h1.clock m 0,rfl,h1.hbl⟩,h2.same (SameLog.flush L _),by rw[e4];exact U,by show H.st+1<=st+1;omega,Y⟩⟩⟩
theorem Jci {w:World}{τ:Tags}{bm bl bp:Nat}{j:Nat->Nat}{X:List OneP}{next:Nat}(h:MgrAt w τ bm bl bp j X next) (k:Nat) (b:k<4294967296) (d:∀x∈X,x.txn≠k) :
 Calls Tryz.prog 23 #[.pointer (some ⟨bm,0,none⟩),.int .u32 (k:Int)] w (Qz7 w):=by
 have i:=Qy6 h k b d
 have l:=Z2 i
 clear i h
 go_enter Tryz.func23,Tryz.ntmps23
 go_wp2_with fail
 refine l.out.mono ?_
 rintro e w1 ⟨rfl,rfl⟩
 go_wp2_with fail
 go_ret
 exact⟨rfl,rfl⟩
theorem Jil {w:World}{τ:Tags}{I:Ids}{J:Nat->Nat}{X:List OneP}{next:Nat}{R:List RecP}{V:SlotV}{st:Nat}(h:TZ w τ I J X next R V st) (N:I.S<=200) :
 Calls Tryz.prog 29 #[.pointer (some ⟨I.bl,0,none⟩)] w fun e O=>e = .returned (.int .u64 ((I.S*127-(recsB R).length:Nat):Int))/\∃q,Step w τ O q nil:=by
 have j:=h.len
 obtain⟨H,L,D,F,s,cur,h1,h2,z,U,Y⟩:=h.is
 have b:LogAt w τ I.bl I.bd L:=h1.hbl▸h1.pool.log
 obtain⟨vs,vt,B,C,-⟩:=b.is
 obtain⟨p,c,rfl⟩:=C.len
 have o:=B.at 7 (v:=.slice p L.stream.length c) rfl
 have d:=Qnj (w:=w.drew) (b.step ((Step.refl w τ nil).drew) (fun _ _ h=>h))
 have i:w.drew.cell? ⟨I.bl,7,none⟩=some (.slice p L.stream.length c):=o
 rw[h2.stream] at o i
 rw[z] at d
 have hd:=(Step.refl w τ nil).drew
 obtain⟨m,E⟩:∃m,(recsB R).length=m:=⟨_,rfl⟩
 obtain⟨M,x⟩:∃M,I.S*127=M:=⟨_,rfl⟩
 rw[E] at j o i ⊢
 rw[x] at j d ⊢
 have hM2:M<=200*127:=by rw[<-x];exact Y7 _ N
 obtain⟨r,G⟩:∃r,M-m=r:=⟨_,rfl⟩
 have hrI:(M:Int)-(m:Int)=(r:Int):=by omega
 have hrw:=Qam r (by omega)
 have hrj:IntKind.i64.wrap (r:Int)=(r:Int):=IntWalk.i64_in _ (by omega)
 rw[G]
 obtain⟨y,Z⟩:=hid2 d hd
 clear d hd h b B C h1 h2 z U Y E x G
 go_enter Tryz.func29,Tryz.ntmps29
 go_wp2_with fail
 refine Qaf (S:=fun W:World=>W.cell? ⟨I.bl,7,none⟩=some (.slice p m c)) (by kernel_rfl) ?_
 refine tk0 [0,2,3,4,5,6] ?_
 iterate 6
  refine tks (v:=?_) rfl (Or.inl ⟨by rfl,?_⟩) (by assumption) ?_
  rotate_left
  ·intro w k;(try dsimp only at k);go_simp
   all_goals with_reducible rfl
  try simp only[Act.put,lz1,lz2,lz3]
 refine tk9 ?_
 try simp only[lz4,lz5,lz6,lz1,lz2,lz3]
 clear o
 refine tk1 1 rfl fun K l=>?_
 go_simp
 go_at_call 89
 refine y.out.mono ?_
 rintro e w1 ⟨rfl,rfl⟩
 refine l.out _ _ (fun _=>i) ?_
 clear l K
 try simp only[lz4,lz5,lz6,lz1,lz2,lz3]
 refine tk0 [7,8] ?_
 iterate 2
  refine tks (v:=?_) rfl (Or.inl ⟨by rfl,?_⟩) (by assumption) ?_
  rotate_left
  ·intro w k;(try dsimp only at k);go_simp
   all_goals with_reducible rfl
  try simp only[Act.put,lz1,lz2,lz3]
 refine tk9 ?_
 refine tk1 9 rfl fun K l=>?_
 go_simp
 refine l.out _ _ (fun _=>i) ?_
 clear l K
 refine Qad (by kernel_rfl) ?_ _
 go_wp2_with fail
 go_ret
 exact⟨rfl,τ,Z.out⟩
end Go.Proofs.YtemacanaihaldaaGreat
namespace Go.Proofs.YtemacanaihaldaaGreat
open Go.RowKit
def boxed:Tags:=fun _=>tBox
theorem Qcq {w e:World}{τ d:Tags}{S:Tag->Prop}(m:Step w τ e d S) {b o:Nat}{v:Value}(h:w.cell? ⟨b,o,none⟩=some v) (i:¬S (τ b)):e.cell? ⟨b,o,none⟩=some v:=by
 have j:=cell_lt h
 have:=m.mod.block b j i
 unfold World.cell? at h ⊢
 rw[this];exact h
theorem Qhl:¬AnyTag tBox:=fun h=>h rfl
end Go.Proofs.YtemacanaihaldaaGreat
namespace Go.Proofs.YtemacanaihaldaaGreat.ArgsQ
open Go.ChangeShapes Go.WideShapes Go.Deep Go.RowKit
section
variable {H : Type} {enc : TypeId × Value -> H} {P : Program} {w : World} {base : Nat} {spare : Nat -> Bool} {held : Bool}
theorem open_slice_fields {t e:TypeId}{l:Array Field}{fuel:Nat}{cs:List Value}{x:DataW H×List MemPlace}(G:P.underlying t=some (.slice e)) (I:P.underlying e=some (.struct l))
 (o:oneCellFields P l=true) (J:P.cellsOf e=l.size) (h:DataW.trod enc P w base spare held fuel t cs=some x) :
 cs=[.slice none 0 0] \/
 ∃(a:Addr) (len cap m:Nat),cs=[.slice (some a) len cap]/\len<=cap/\cap<=maxLen/\len<=m /\
   ∀i,i<m->∀(j:Nat) (f:Field),l[j]?=some f->∃(v:Value) (n:Nat) (y:DataW H×List MemPlace),w.cell? (a.add (i*l.size+j))=some v/\DataW.trod enc P w base spare held n f.type [v]=some y:=by
 rcases open_slice G h with h0|⟨a,len,cap,m,n,D,Pl,p,hb,hl,L,q,hx,hi⟩
 ·exact .inl h0.1
 ·refine .inr ⟨a,len,cap,m,p,hl,L,by rw[q];split <;> omega,fun i r j f s=>?_⟩
  obtain⟨b,F,z⟩:=hi i r
  rw[J] at F
  obtain⟨ys,M,hn',hy,hlen,hyl,N⟩:=DataW.trod_struct I z
  obtain⟨_,hcl,B⟩:=World.cells?_some F
  obtain⟨O,hk⟩:=hone_of o j f s
  have C:j<l.size:=(Array.getElem?_eq_some_iff.1 s).1
  have d:=B j C
  have R:b[j]?=some (b[j]'(by omega)):=Z3 (by omega)
  have h1:=N j f s
  rw[O,hk] at h1
  have k:(b.drop j).take 1=[b[j]'(by omega)]:=by
   rw[List.drop_eq_getElem_cons (by omega)]
   rfl
  rw[k] at h1
  have E:ys[j]?=some (ys[j]'(by omega)):=Z3 (by omega)
  refine⟨_,M,_,?_,h1.trans E⟩
  rw[<-Go.Deep.add_add,d,R]
theorem Qoz {a:Addr}{v:Value}(h:w.cell? (a.add 0)=some v):a.spot=none:=by
 cases b:a.spot with
 | none=>rfl
 | some s =>
   exfalso
   simp[World.cell?,Addr.add,b] at h
   split at h <;> simp_all
theorem Qyv (bl b k:Nat):(⟨bl,b,none⟩:Addr).add k=⟨bl,b+k,none⟩:=by
 unfold Addr.add
 split
 ·next h=>subst h;rfl
 ·rfl
end
section
variable {H : Type} {enc : TypeId × Value -> H} {P : Program}
theorem Qnp {f:Func}{s:ChangeSpec}{apart fresh handsOn again:Bool}{W o:World}{args:Array Value}{v:Value}{q gs:List (DataW H)}{before pa pv:List MemPlace}
 (hW:DataW.Whole enc P f.params.toList s.vars apart W args.toList q gs before)
 (k:∀(b:Nat) (m:Nat->Bool) (hd:Bool),DataW.TrodAll enc P o b m hd f.resultTypes.toList (v.resultList f.resultTypes.size) (s.fn H (q++gs)).results [])
 (d:∀m:Nat->Bool,(∀p∈before,m p.block=true)->DataW.TrodAll enc P o 0 m true f.params.toList args.toList (s.fn H (q++gs)).args pa)
 (e:∀m:Nat->Bool,(∀p∈before,m p.block=true)->DataW.TrodVars enc P o m s.vars (s.fn H (q++gs)).vars pv)
 (i:before=pa++pv) (B:Below W.heap.size W o)
 (z:∀(j:Nat) (t:TypeId) (r:Value),f.resultTypes[j]?=some t->(v.resultList f.resultTypes.size)[j]?=some r->Value.okWide P o .any 0 t r) :
 s.post enc P f apart fresh handsOn again W args v o:=by
 have x:∀p∈before,p.block<W.heap.size:=fun p h=>hW.lt p h
 have l:∀p∈before,(fun b=>decide (b<W.heap.size)) p.block=true:=fun p h=>by simpa using x p h
 refine⟨q,gs,before,[],pa,pv,hW,k _ _ _,d _ l,e _ l,World.keptBut_mono (fun p h=>⟨h,?_⟩) (B.frame (·∈before)),fun _=>?_⟩
 ·rw[i,List.mem_append] at h
  exact Or.inr h
 ·obtain⟨_,_,_,_,_,C,hn⟩:=hW
  refine⟨z,_,_,([]++pa)++pv,⟨[]++pa,pv,trodAll_append (d _ (fun _ _=>rfl)) (k _ _ _),e _ (fun _ _=>rfl),rfl,?_,?_⟩,?_⟩
  ·intro b off h
   have y:MemPlace.cell b off∈before:=by rw[i];simpa using h
   rw[B.frozen (x _ y)]
   exact C b off y
  ·intro D
   have:=hn D
   rw[i] at this
   simpa using this
  ·intro p h _
   rw[i]
   simpa using h
end
section
variable {H : Type} {enc : TypeId × Value -> H} {W : World} {base : Nat} {spare : Nat -> Bool} {held : Bool}
theorem Qiu {n:Int}(h:(Lit.int .u8 n).wf=true):0<=n/\n<=255:=by simpa [Lit.wf,IntKind.min,IntKind.max,IntKind.signed,IntKind.bits] using h
theorem Qyj {n:Int}(h:(Lit.int .u32 n).wf=true):0<=n/\n<=4294967295:=by simpa [Lit.wf,IntKind.min,IntKind.max,IntKind.signed,IntKind.bits] using h
theorem Qth {v:Value}{fuel:Nat}{x:DataW H×List MemPlace}(h:DataW.trod enc Tryz.prog W base spare held fuel 37 [v]=some x):∃data,Bytes W boxed tBox v data:=by
 rcases open_ints Tryz.underlying37 Tryz.underlying5 (by kernel_rfl) h with ⟨d,_⟩|⟨a,len,cap,zs,d,_,hl,q,r,_,e,m⟩
 ·simp only[List.cons.injEq,and_true] at d
  subst d
  exact⟨[],fun x j=>by simp at j,none,0,rfl,Z0 _,Z9 _,fun j=>by simp at j⟩
 ·simp only[List.cons.injEq,and_true] at d
  subst d
  have p:len<=zs.length:=by rw[r];split <;> omega
  refine⟨zs.take len,fun x j=>Qiu (m x (List.mem_of_mem_take j)),some a,cap,by rw[List.length_take,Nat.min_eq_left p],by rw[List.length_take];omega,q,fun k=>?_⟩
  rw[List.length_take] at k
  have l:=Qoz (e 0 (by omega))
  obtain⟨b,o,sp⟩:=a
  simp only at l
  subst l
  refine⟨b,o,rfl,rfl,fun i hi=>?_⟩
  rw[List.length_take] at hi
  have:=e i (by omega)
  rw[Qyv] at this
  rw[this,Z5,Z5,List.getElem?_take,if_pos (by omega)]
end
section
variable {H : Type} {enc : TypeId × Value -> H} {P : Program} {w : World} {base : Nat} {spare : Nat -> Bool} {held : Bool}
theorem Jb7 {t G r t3 t4:TypeId}{args:Array Value}{I:List (DataW H)}{ps:List MemPlace}(h:DataW.TrodAll enc P w base spare held [t,G,r,t3,t4] args.toList I ps) :
 ∃v x e v3 v4 d y i d3 d4 p z j B C,args=#[v,x,e,v3,v4]/\I=[d,y,i,d3,d4]/\ps=p++(z++(j++(B++C)))/\DataW.Trod enc P w base spare held t v d p/\DataW.Trod enc P w base spare held G x y z/\DataW.Trod enc P w base spare held r e i j/\DataW.Trod enc P w base spare held t3 v3 d3 B/\DataW.Trod enc P w base spare held t4 v4 d4 C:=by
 obtain⟨v,vs,d,dx,p,q,hargs,rfl,rfl,hd,o⟩:=trodAll_cons h
 obtain⟨x,vs',y,dx',z,q',rfl,rfl,rfl,D,k⟩:=trodAll_cons o
 obtain⟨e,vs'',i,dx'',j,q'',rfl,rfl,rfl,s,b⟩:=trodAll_cons k
 obtain⟨v3,vs3,d3,ds3,B,q3,rfl,rfl,rfl,E,l⟩:=trodAll_cons b
 obtain⟨v4,vs4,d4,ds4,C,q4,rfl,rfl,rfl,F,m⟩:=trodAll_cons l
 obtain⟨rfl,rfl,rfl⟩:=trodAll_nil m
 exact⟨v,x,e,v3,v4,d,y,i,d3,d4,p,z,j,B,C,by cases args;simp_all,rfl,by simp,hd,D,s,E,F⟩
end
structure OpT where
 kd:Nat
 nn:Nat
 pg:Nat
 sl:Int
 p:Option Addr
 m:Nat
 c:Nat
 k:Nat
 at_:Nat
structure OpTAt (w:World) (b o:Nat) (x:OpT):Prop where
 kd:x.kd<256
 pg:x.pg<4294967296
 k:x.k<256
 c0:w.cell? ⟨b,o,none⟩=some (.int .u8 (x.kd:Int))
 c1:w.cell? ⟨b,o+1,none⟩=some (.int .u32 (x.nn:Int))
 c2:w.cell? ⟨b,o+2,none⟩=some (.int .u32 (x.pg:Int))
 c3:w.cell? ⟨b,o+3,none⟩=some (.int .i64 x.sl)
 c4:w.cell? ⟨b,o+4,none⟩=some (.slice x.p x.m x.c)
 c5:w.cell? ⟨b,o+5,none⟩=some (.int .u8 (x.k:Int))
 c6:w.cell? ⟨b,o+6,none⟩=some (.int .u64 (x.at_:Int))
def OpsT (w:World) (a:Option Addr) (len:Nat):Prop:=∀i,i<len->∃bl ol x,a=some ⟨bl,ol,none⟩/\OpTAt w bl (ol+i*7) x
section
variable {H : Type} {enc : TypeId × Value -> H} {W : World} {base : Nat} {spare : Nat -> Bool} {held : Bool}
theorem Jaf {n:Int}(h:(Lit.int .u64 n).wf=true):0<=n/\n<=18446744073709551615:=by simpa [Lit.wf,IntKind.min,IntKind.max,IntKind.signed,IntKind.bits] using h
theorem Qux:∃f0 f1 f2 f3 f4 f5 f6:Field,Tryz.prog.underlying 62 = some (.struct #[f0,f1,f2,f3,f4,f5,f6])/\f0.type = 5 /\ f1.type = 36 /\ f2.type = 36 /\ f3.type = 3 /\ f4.type = 37 /\ f5.type = 5 /\ f6.type = 51 := ⟨_,_,_,_,_,_,_,Tryz.underlying62,rfl,rfl,rfl,rfl,rfl,rfl,rfl⟩
theorem Qk6 {v:Value}{d:DataW H}{p:List MemPlace}{I:Nat}(J:Value.okWide Tryz.prog W .any I 56 v) (h:DataW.Trod enc Tryz.prog W base spare held 56 v d p):∃a len cap,v = .slice a len cap/\len<=maxLen/\OpsT W a len:=by
 obtain⟨a,len,cap,rfl⟩:=okWide_slice Tryz.underlying56 J
 obtain⟨fuel,L⟩:=h
 obtain⟨f0,f1,f2,f3,f4,f5,f6,s,t0,t1,t2,t3,t4,t5,t6⟩:=Qux
 have i:oneCellFields Tryz.prog #[f0,f1,f2,f3,f4,f5,f6]=true:=by
  have:(match Tryz.prog.underlying 62 with|some (.struct fs)=>oneCellFields Tryz.prog fs|_=>false)=true:=by kernel_rfl
  rw[s] at this
  exact this
 rcases open_slice_fields Tryz.underlying56 s i (by kernel_rfl) L with e|⟨a',len',cap',m,e,hl,M,hlm,hi⟩
 ·have b:[Value.slice a len cap]=[Value.slice none 0 0]:=e
  simp only[List.cons.injEq,Value.slice.injEq,and_true] at b
  obtain⟨rfl,rfl,rfl⟩:=b
  exact⟨none,0,0,rfl,Z9 _,fun k hk=>by omega⟩
 ·have b:[Value.slice a len cap]=[Value.slice (some a') len' cap']:=e
  simp only[List.cons.injEq,Value.slice.injEq,and_true] at b
  obtain⟨rfl,rfl,rfl⟩:=b
  refine⟨some a',len,cap,rfl,Y3 hl M,fun k hk=>?_⟩
  obtain⟨v0,n0,y0,c0,z0⟩:=hi k (by omega) 0 f0 rfl
  obtain⟨v1,n1,y1,c1,x⟩:=hi k (by omega) 1 f1 rfl
  obtain⟨v2,n2,y2,c2,z2⟩:=hi k (by omega) 2 f2 rfl
  obtain⟨v3,n3,y3,c3,z3⟩:=hi k (by omega) 3 f3 rfl
  obtain⟨v4,n4,y4,c4,z4⟩:=hi k (by omega) 4 f4 rfl
  obtain⟨v5,n5,y5,c5,z5⟩:=hi k (by omega) 5 f5 rfl
  obtain⟨v6,n6,y6,c6,y⟩:=hi k (by omega) 6 f6 rfl
  rw[t0] at z0
  rw[t1] at x
  rw[t2] at z2
  rw[t3] at z3
  rw[t4] at z4
  rw[t5] at z5
  rw[t6] at y
  obtain⟨m0,z,_,N⟩:=DataW.trod_int Tryz.underlying5 z0
  obtain⟨m1,B,_,O⟩:=DataW.trod_int Tryz.underlying36 x
  obtain⟨m2,C,_,R⟩:=DataW.trod_int Tryz.underlying36 z2
  obtain⟨m3,D,_,w3⟩:=DataW.trod_int Tryz.underlying3 z3
  obtain⟨data,U⟩:=Qth z4
  obtain⟨pb,cb,rfl,-,-⟩:=U.any
  obtain⟨m5,E,_,X⟩:=DataW.trod_int Tryz.underlying5 z5
  obtain⟨m6,F,_,Y⟩:=DataW.trod_int Tryz.underlying51 y
  simp only[List.cons.injEq,and_true] at z B C D E F
  subst z B C D E F
  have l:=Qiu N
  have o:=Qyj O
  have q:=Qyj R
  have r:=Qiu X
  obtain⟨kd,rfl⟩:=Int.eq_ofNat_of_zero_le l.1
  obtain⟨nn,rfl⟩:=Int.eq_ofNat_of_zero_le o.1
  obtain⟨pg,rfl⟩:=Int.eq_ofNat_of_zero_le q.1
  obtain⟨G,rfl⟩:=Int.eq_ofNat_of_zero_le r.1
  obtain⟨at_,rfl⟩:=Int.eq_ofNat_of_zero_le (Jaf Y).1
  obtain⟨_,_,_,Z,-⟩:=hi 0 (by omega) 0 f0 rfl
  have j:=Qoz Z
  obtain⟨bl,ol,sp⟩:=a'
  simp only at j
  subst j
  simp only[Qyv] at c0 c1 c2 c3 c4 c5 c6
  exact⟨bl,ol,⟨kd,nn,pg,m3,pb,data.length,cb,G,at_⟩,rfl,⟨by show kd<256;omega,by show pg<4294967296;omega,by show G<256;omega,c0,c1,c2,c3,c4,c5,c6⟩⟩
end
end Go.Proofs.YtemacanaihaldaaGreat.ArgsQ