/-
 What a crash may find on the pool's device,plain: each page is whole,but for one at most,whose sectors are old,new,or torn;and then the spare is whole.
-/
import Derived.Test.YtociicnopccppaaGreatMTornB
import Derived.Test.YtociicnopccppaaGreatMPoolT
set_option maxRecDepth 100000
set_option maxHeartbeats 4000000
set_option linter.all false
namespace Go.Proofs.YtociicnopccppaaGreat
open Go.RowKit
theorem Dev.qiy (D:Dev) (f:List Fate) (g j:Nat) (hg:g<2):((D.crash f).file g)[j]?=((D.file g)[j]?).map (fun s=>s.crash (Qpr f g j)):=by
 have key:(D.crash f).file g=Qbk f g (D.file g).length (D.file g):=by
  rcases (show g=0\/g=1 by omega) with rfl|rfl <;> rfl
 rw[key,Qdi]
 cases h:(D.file g)[j]? with
 | none=>rfl
 | some s =>
   have:=(Z4 h).1
   show some (if j<_ then _ else _)=some _
   rw[if_pos this]
theorem Sec.qi0 (x:List Int) (f:Fate):Sec.crash ⟨x,[]⟩ f=⟨x,[]⟩:=by
 simp[Sec.crash,Sec.left,Sec.qhd,Sec.base]
theorem Je5 (D:Dev) (a:Nat) (want:List (List Int)) (n:Nat):∃ops,(Qa7 D a want n).1=D.run ops/\∀o∈ops,o.file=0/\∀k y,o = .write 0 k y->a<=k:=by
 induction n with
 | zero=>exact⟨[],rfl,fun o b=>by cases b⟩
 | succ n ih =>
   obtain⟨ops,h1,h2⟩:=ih
   unfold Qa7
   split
   ·exact⟨ops,h1,h2⟩
   ·refine⟨ops++[.write 0 (a+n) (Qck want n)],by rw[Dev.qgl,<-h1];rfl,fun o b=>?_⟩
    rcases List.mem_append.1 b with h|h
    ·exact h2 o h
    ·rw[List.mem_singleton] at h
     subst h
     exact⟨rfl,fun k y e=>by cases e;omega⟩
theorem Dev.qjc (D:Dev) (a n:Nat) (want:List (List Int)):∃ops,D.make a n want=D.run ops/\∀o∈ops,o.file=0/\∀k y,o = .write 0 k y->a<=k:=by
 obtain⟨ops,h1,h2⟩:=Je5 D a want n
 unfold Dev.make
 split
 ·refine⟨ops++[.sync 0],by rw[Dev.qgl,<-h1];rfl,fun o b=>?_⟩
  rcases List.mem_append.1 b with h|h
  ·exact h2 o h
  ·rw[List.mem_singleton] at h
   subst h
   exact⟨rfl,fun k y e=>by cases e⟩
 ·exact⟨ops,h1,h2⟩
theorem Dev.qh9 (D:Dev) (l:List DOp) (hl:∀o∈l,o.file=0):(D.run l).file 1=D.file 1:=by
 induction l generalizing D with
 | nil=>rfl
 | cons o l ih =>
   refine(ih (D.op o) fun p c=>hl p (Y2 _ c)).trans ?_
   have b:=hl o List.mem_cons_self
   cases o with
   | write g k x =>
     have a:g=0:=b
     subst a
     show (D.write 0 k x).file 1=_
     unfold Dev.write
     split
     ·cases hs:(D.file 0)[k]? with
      | none=>rfl
      | some s =>
        show (D.go.2.put 0 _).file 1=_
        rw[Dev.qdv _ _ oM,if_neg oM,Dev.qd6]
     ·rw[Dev.qd6]
   | sync g =>
     have a:g=0:=b
     subst a
     show (D.sync 0).file 1=_
     unfold Dev.sync
     split
     ·rw[Dev.qdv _ _ oM,if_neg oM,Dev.qd6]
     ·rw[Dev.qd6]
theorem Jkc {w:World}{τ:qa1}{bl bd:Nat}{L:qac}(h:qaw w τ bl bd L) {a:Nat}(ha:a<2) :
 Calls Tryz.prog 52 #[.pointer (some ⟨bl,0,none⟩),.int .i64 a] w fun e g=>e = .returned (.int .i64 ((if a=0 then 2 else 2+L.strips:Nat):Int))/\w=g:=by
 obtain⟨vs,vt,c,-,-⟩:=h.is
 have c5:=c.at 5 rfl
 have hs:=h.ok.strips
 obtain⟨m,d⟩:=gN (2+L.strips)
 have h2:2+(L.strips:Int)=m:=oM
 have b:=fun (W:World)=>Qli W (.int .i64 2) (.int .i64 m)
 have hi0:=fun W=>(b W).1
 have hi1:=fun W=>(b W).2
 have e:a=0\/a=1:=oM
 rw[d]
 generalize L.strips=k at *
 clear h c b d
 rcases e with rfl|rfl
 ·go_enter Tryz.func52,Tryz.ntmps52
  go_wp2_with fail
  go_ret
  exact⟨rfl,rfl⟩
 ·go_enter Tryz.func52,Tryz.ntmps52
  go_wp2_with fail
  go_ret
  exact⟨rfl,rfl⟩
def qac.anew (L:qac):qac:={L with base:=L.base+L.stream.length,qc0:=1-L.qc0,stream:=[],starts:=[],lasts:=0,check:=0}
def Jmf (w:World) (τ:qa1) (bl bd:Nat) (L:qac) (D:Dev) (e:Ending) (w':World):Prop :=
 e = .returned (.tuple #[])/\∃τ' D',qaw w' τ' bl bd L.anew.said/\qax w' τ' bd D'/\D'.file 1=D.file 1/\Step w τ w' τ' qbc
theorem Jlc (L:qac) (D:Dev):(Qf9 L D).file 1=D.file 1:=Dev.qh9 D [.write 0 L.said.slot L.said.head,.sync 0] fun o a=>by
 rcases List.mem_cons.1 a with rfl|a
 ·rfl
 ·rw[Y8 a];rfl
theorem Jkv (D:Dev) (a n:Nat) (want:List (List Int)):(D.make a n want).file 1=D.file 1:=by
 obtain⟨ops,h1,h2⟩:=Dev.qjc D a n want
 rw[h1]
 exact Dev.qh9 D ops fun o h=>(h2 o h).1
theorem Jlf {w:World}{τ:qa1}{bl bd:Nat}{L:qac}{D:Dev}(hl:qaw w τ bl bd L) (hd:qax w τ bd D) (hr:L.qfh) (hla:L.lasts=L.stream.length) (a5:L.stream.length<=127*L.strips) (hfit:2+2*L.strips<=D.f0.length) (hbase:L.base<=1000000) (j:D.lim 600000) :
 Calls Tryz.prog 64 #[.pointer (some ⟨bl,0,none⟩)] w (Jmf w τ bl bd L D):=by
 have b0:=hl.ok.qc0
 have a6:∀M:qac,M.strips=L.strips->M.qc0<2->M.qam+M.strips<=D.f0.length/\2<=M.qam:=fun M e h=>by
  unfold qac.qam
  rw[e]
  split <;> omega
 have O:=Qor hl hd hr a5 (a6 L rfl b0).1 (Dev.qbb j oM) 18446744073709551615 oM
 rw[show ((18446744073709551615:Nat):Int)=18446744073709551615 from rfl] at O
 have a7:∀k,Qbj L k=false:=fun k=>decide_eq_false (fun h=>by
  have:=qac.qcb hr (k-1)
  have h2:L.lasts<L.qal k:=h.2
  unfold qac.qal at h2
  omega)
 obtain⟨a8,b1,r⟩:=qan O a7 j
 clear hl hd O a7 j a6
 go_enter Tryz.func64,Tryz.ntmps64
 go_wp2_with fail
 refine a8.mono ?_
 rintro e w1 ⟨rfl,k,f,-,τ1,R,U,a9⟩
 rw[b1.out,if_neg sM] at R U
 have p:=(zS w1 τ1).drew
 have c:=R.step p zN
 have s:=U.step p zE
 obtain⟨vs,vt,X,-,-⟩:=c.is
 obtain⟨a,ha⟩:=gN L.qc0
 obtain⟨n,hn⟩:=gN L.strips
 have c3:=X.at 3 (v:=.int .i64 a) (by rw[<-ha];rfl)
 have c5:=X.at 5 (v:=.int .i64 n) (by rw[<-hn];rfl)
 have aa:w1.drew.cell? ⟨bl,3,none⟩=some (.int .i64 a)/\w1.drew.cell? ⟨bl,5,none⟩=some (.int .i64 n):=⟨c3,c5⟩
 obtain⟨Y,b4⟩:∃x,1-a=x:=⟨_,rfl⟩
 have hIw:IntKind.i64.wrap ((1:Int)-a)=(Y:Int):=by rw[show (1:Int)-a=((Y:Nat):Int) by omega];exact IntWalk.i64_in _ (oM)
 have Z:=Jkc c (a:=Y) oM
 obtain⟨F,hF⟩:=gN ((if Y=0 then 2 else 2+L.strips))
 have b5:F+n<=D.f0.length/\2<=F:=by
  rw[<-hF,<-hn]
  split <;> omega
 rw[hF] at Z
 have ab:=Qxm c s (g:=qa2) (v:=.slice none 0 0) (want:=[]) (.inl ⟨rfl,rfl⟩) Qay F n b5.1 (Dev.qbb r oM)
 have y:=a9.trans p.nz
 obtain⟨ac,ad,ae,Ha,Hn,af⟩:=qcq Z ab c ha hn y
 clear Z ab c ha hn y R U a9 s p X a8
 go_wp2_with fail
 refine Qaf (S:=fun W:World=>W.cell? ⟨bl,3,none⟩=some (.int .i64 a)/\W.cell? ⟨bl,5,none⟩=some (.int .i64 n)) kR ?_
 refine tk0 [0,1,2,3,4,5,6,7,9,10,11,12] ?_
 iterate 12
  refine tkv (v:=?_) ?_ ?_
  rotate_left
  ·intro w b7;(try dsimp only at b7);go_simp
   all_goals with_reducible rfl
  try simp only[Act.put,lz1,lz2,lz3]
 refine tk9 ?_
 try simp only[lz4,lz5,lz6,lz1,lz2,lz3]
 clear c3 c5
 refine Qst (i:=8) dK rfl (fun K hK=>?_)
 go_simp
 go_at_call 52
 refine ac.mono ?_
 rintro e w2 ⟨rfl,rfl⟩
 refine hK.out _ _ (fun _=>aa) ?_
 clear hK K
 try simp only[lz4,lz5,lz6,lz1,lz2,lz3]
 refine Qst (i:=13) dK rfl (fun K hK=>?_)
 go_simp
 go_at_call 71
 refine ad.mono ?_
 rintro e w2 ⟨rfl,l,ah,a0⟩
 have ai:=ae.step a0 Qau
 have z:=af.trans (a0.mono (T:=qbc) (fun _ h=>.inr h))
 obtain⟨a1,b8,aj⟩:=qan ai ah z
 clear ai ah z a0
 refine hK.out _ _ (fun h=>absurd h dK) ?_
 clear hK K aa
 refine Qad kR ?_ _
 have a2:=Ql3 a1
 obtain⟨en,B⟩:∃x,L.base+L.stream.length=x:=⟨_,rfl⟩
 rw[B] at a2
 have C:=a1.ok
 obtain⟨vs2,vt2,a3,-,-⟩:=a1.is
 have c3:=a3.at 3 (v:=.int .i64 a) (by rw[<-Ha.out];rfl)
 obtain⟨ba,bb,ak⟩:=qan a2 a3 C
 clear a2 a3 C ad ac
 go_wp2_with fail
 refine ba.mono ?_
 rintro e w3 ⟨rfl,q⟩
 have b:=bb.step q id
 have al:=b8.step q zE
 have x1:=b.at 1 rfl
 have z1:=b.fz 1
 have x3:=b.at 3 (v:=.int .i64 a) (by rw[<-Ha.out];rfl)
 have z3:=b.fz 3
 have x7:=b.at 7 rfl
 have z7:=b.fz 7
 have x8:=b.at 8 rfl
 have z8:=b.fz 8
 have x9:=b.at 9 rfl
 have z9:=b.fz 9
 have x2:=b.at 2 rfl
 have z2:=b.fz 2
 have am:=(((((b.set 1 (.int .u64 en)).set 3 (.int .i64 Y)).set 7 (.slice none 0 0)).set 8 (.slice none 0 0)).set 9 (.int .i64 0)).set 2 (.int .u64 0)
 have a4:Step w3 l ((((((w3.setCell ⟨bl,1,none⟩ (.int .u64 en)).setCell ⟨bl,3,none⟩ (.int .i64 Y)).setCell ⟨bl,7,none⟩ (.slice none 0 0)).setCell ⟨bl,8,none⟩ (.slice none 0 0)).setCell ⟨bl,9,none⟩ (.int .i64 0)).setCell ⟨bl,2,none⟩ (.int .u64 0)) l (fun g=>g=qb1):=((((((Step.refl w3 l (fun g=>g=qb1)).set (o:=1) b.tag rfl _).set (o:=3) b.tag rfl _).set (o:=7) b.tag rfl _).set (o:=8) b.tag rfl _).set (o:=9) b.tag rfl _).set (o:=2) b.tag rfl _
 have d:=ak.out
 have an:qaw ((((((w3.setCell ⟨bl,1,none⟩ (.int .u64 en)).setCell ⟨bl,3,none⟩ (.int .i64 Y)).setCell ⟨bl,7,none⟩ (.slice none 0 0)).setCell ⟨bl,8,none⟩ (.slice none 0 0)).setCell ⟨bl,9,none⟩ (.int .i64 0)).setCell ⟨bl,2,none⟩ (.int .u64 0)) l bl bd L.anew :=
  ⟨⟨.slice none 0 0,.slice none 0 0,by
    unfold Qa8 qac.anew
    dsimp only
    rw[B,Ha.out,b4]
    exact am,Buf.nil _ _ _ _ _,Buf.nil _ _ _ _ _⟩,fun x hx=>absurd hx (by simp[qac.anew]),⟨d.stamp,by have:=d.stream;show L.base+L.stream.length<=_;omega,by show 0<2 ^ 64;decide,by show 1-L.qc0<2;omega,d.strips,d.slot,Z9 _,Z9 _,Z0 _⟩⟩
 have ao:=al.step a4 (fun g hg=>by rcases hg with rfl;exact⟨Qau _ (.inl rfl),by simp[qb1,qa2]⟩)
 have hq:∀E:Dev,E.file 0=E.f0:=fun _=>rfl
 have ap:=Dev.qg4 D F n [] 0
 rw[hq,hq] at ap
 have G:=Qy5 an ao oM (Dev.qbb (Dev.qib r F n []) (by have:=d.strips;rw[Hn.out] at this;omega))
 have I:Step w τ _ l qbc:=(aj.trans q.nz).trans (a4.mono (T:=qbc) (fun _ h=>.inl (.inl h)))
 obtain⟨aq,ar⟩:=qaj G I
 clear G I b am a4 an ao al q d
 go_wp2_with fail
 refine aq.mono ?_
 rintro e w5 ⟨rfl,bc,av,aw,ax⟩
 have J:=ar.trans ax
 obtain⟨be,bf,ay⟩:=qan av aw J
 clear av aw J ax
 go_wp2_with fail
 go_returns
 exact⟨rfl,bc,_,be,bf,(Jlc _ _).trans (Jkv D F n []),ay⟩
