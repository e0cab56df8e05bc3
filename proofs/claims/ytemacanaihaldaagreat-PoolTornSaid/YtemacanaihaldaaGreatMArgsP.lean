/-
 How the arguments of the pool's laws (numbers,calls,fates) are read,and that they read as they did.
-/
import Derived.Test.YtemacanaihaldaaGreatMDevE
import Derived.Test.YtemacanaihaldaaGreatML12L
import Derived.Deep.Slices
import Derived.Deep.Fields
import Derived.ChangeSame
import Derived.ChangeSlices
import Derived.Carry
set_option linter.all false
namespace Go.Proofs.YtemacanaihaldaaGreat.ArgsQ
open Go.ChangeShapes Go.WideShapes Go.Deep Go.RowKit
section
variable {H : Type} {enc : TypeId × Value → H} {P : Program} {w : World} {base : Nat} {spare : Nat → Bool} {held : Bool}
theorem open_slice_fields {t e:TypeId}{fs:Array Field}{fuel:Nat}{cs:List Value}{x:DataW H×List MemPlace}(ht:P.underlying t=some (.slice e)) (he:P.underlying e=some (.struct fs))
 (hone:oneCellFields P fs=true) (hC:P.cellsOf e=fs.size) (h:DataW.trod enc P w base spare held fuel t cs=some x) :
 cs=[.slice none 0 0] ∨
 ∃(a:Addr) (len cap m:Nat),cs=[.slice (some a) len cap]∧len≤cap∧cap≤maxLen∧len≤m ∧
   ∀i,i<m→∀(j:Nat) (f:Field),fs[j]?=some f→∃(v:Value) (n:Nat) (y:DataW H×List MemPlace),w.cell? (a.add (i*fs.size+j))=some v∧DataW.trod enc P w base spare held n f.type [v]=some y:=by
 rcases open_slice ht h with h0|⟨a,len,cap,m,n,D,Pl,hcs,hb,hl,hm,hmm,hx,hi⟩
 ·exact .inl h0.1
 ·refine .inr ⟨a,len,cap,m,hcs,hl,hm,by rw[hmm];split <;> omega,fun i him j f hj=>?_⟩
  obtain⟨cs',hc,ht'⟩:=hi i him
  rw[hC] at hc
  obtain⟨ys,n',hn',hy,hlen,hyl,hf⟩:=DataW.trod_struct he ht'
  obtain⟨_,hcl,hat⟩:=World.cells?_some hc
  obtain⟨ho,hk⟩:=hone_of hone j f hj
  have hjl:j<fs.size:=(Array.getElem?_eq_some_iff.1 hj).1
  have hcell:=hat j hjl
  have hv:cs'[j]?=some (cs'[j]'(by omega)):=List.getElem?_eq_getElem (by omega)
  have h1:=hf j f hj
  rw[ho,hk] at h1
  have hone':(cs'.drop j).take 1=[cs'[j]'(by omega)]:=by
   rw[List.drop_eq_getElem_cons (by omega)]
   rfl
  rw[hone'] at h1
  have hys:ys[j]?=some (ys[j]'(by omega)):=List.getElem?_eq_getElem (by omega)
  refine⟨_,n',_,?_,h1.trans hys⟩
  rw[←Go.Deep.add_add,hcell,hv]
theorem Qoz {a:Addr}{v:Value}(h:w.cell? (a.add 0)=some v):a.spot=none:=by
 cases hsp:a.spot with
 | none=>rfl
 | some s =>
   exfalso
   simp[World.cell?,Addr.add,hsp] at h
   split at h <;> simp_all
theorem Qyv (bl ol k:Nat):(⟨bl,ol,none⟩:Addr).add k=⟨bl,ol+k,none⟩:=by
 unfold Addr.add
 split
 ·next h=>subst h;rfl
 ·rfl
end
section
variable {H : Type} {enc : TypeId × Value → H} {P : Program}
theorem Qnp {f:Func}{s:ChangeSpec}{apart fresh handsOn again:Bool}{W W':World}{args:Array Value}{v:Value}{ds gs:List (DataW H)}{before pa pv:List MemPlace}
 (hW:DataW.Whole enc P f.params.toList s.vars apart W args.toList ds gs before)
 (hres:∀(b:Nat) (sp:Nat→Bool) (hd:Bool),DataW.TrodAll enc P W' b sp hd f.resultTypes.toList (v.resultList f.resultTypes.size) (s.fn H (ds++gs)).results [])
 (hargs:∀sp:Nat→Bool,(∀p∈before,sp p.block=true)→DataW.TrodAll enc P W' 0 sp true f.params.toList args.toList (s.fn H (ds++gs)).args pa)
 (hvars:∀sp:Nat→Bool,(∀p∈before,sp p.block=true)→DataW.TrodVars enc P W' sp s.vars (s.fn H (ds++gs)).vars pv)
 (hps:before=pa++pv) (hb:Below W.heap.size W W')
 (hok:∀(j:Nat) (t:TypeId) (r:Value),f.resultTypes[j]?=some t→(v.resultList f.resultTypes.size)[j]?=some r→Value.okWide P W' .any 0 t r) :
 s.post enc P f apart fresh handsOn again W args v W':=by
 have hlt:∀p∈before,p.block<W.heap.size:=fun p hp=>hW.lt p hp
 have hold:∀p∈before,(fun b=>decide (b<W.heap.size)) p.block=true:=fun p hp=>by simpa using hlt p hp
 refine⟨ds,gs,before,[],pa,pv,hW,hres _ _ _,hargs _ hold,hvars _ hold,World.keptBut_mono (fun p hp=>⟨hp,?_⟩) (hb.frame (·∈before)),fun _=>?_⟩
 ·rw[hps,List.mem_append] at hp
  exact Or.inr hp
 ·obtain⟨_,_,_,_,_,hz,hn⟩:=hW
  refine⟨hok,_,_,([]++pa)++pv,⟨[]++pa,pv,trodAll_append (hargs _ (fun _ _=>rfl)) (hres _ _ _),hvars _ (fun _ _=>rfl),rfl,?_,?_⟩,?_⟩
  ·intro b off hp
   have hin:MemPlace.cell b off∈before:=by rw[hps];simpa using hp
   rw[hb.frozen (hlt _ hin)]
   exact hz b off hin
  ·intro ha
   have:=hn ha
   rw[hps] at this
   simpa using this
  ·intro p hp _
   rw[hps]
   simpa using hp
end
section
variable {H : Type} {enc : TypeId × Value → H} {W : World} {base : Nat} {spare : Nat → Bool} {held : Bool}
theorem Qiu {n:Int}(h:(Lit.int .u8 n).wf=true):0≤n∧n≤255:=by simpa [Lit.wf,IntKind.min,IntKind.max,IntKind.signed,IntKind.bits] using h
theorem Qyj {n:Int}(h:(Lit.int .u32 n).wf=true):0≤n∧n≤4294967295:=by simpa [Lit.wf,IntKind.min,IntKind.max,IntKind.signed,IntKind.bits] using h
theorem Qth {v:Value}{fuel:Nat}{x:DataW H×List MemPlace}(h:DataW.trod enc Tryz.prog W base spare held fuel 37 [v]=some x):∃data,Bytes W boxed tBox v data:=by
 rcases open_ints Tryz.underlying37 Tryz.underlying5 (by kernel_rfl) h with ⟨hcs,_⟩|⟨a,len,cap,zs,hcs,_,hl,hm,hz,_,hcell,hwf⟩
 ·simp only[List.cons.injEq,and_true] at hcs
  subst hcs
  exact⟨[],fun x hx=>by simp at hx,none,0,rfl,Nat.le_refl _,Nat.zero_le _,fun hx=>by simp at hx⟩
 ·simp only[List.cons.injEq,and_true] at hcs
  subst hcs
  have hlz:len≤zs.length:=by rw[hz];split <;> omega
  refine⟨zs.take len,fun x hx=>Qiu (hwf x (List.mem_of_mem_take hx)),some a,cap,by rw[List.length_take,Nat.min_eq_left hlz],by rw[List.length_take];omega,hm,fun hpos=>?_⟩
  rw[List.length_take] at hpos
  have hsp:=Qoz (hcell 0 (by omega))
  obtain⟨b,o,sp⟩:=a
  simp only at hsp
  subst hsp
  refine⟨b,o,rfl,rfl,fun i hi=>?_⟩
  rw[List.length_take] at hi
  have:=hcell i (by omega)
  rw[Qyv] at this
  rw[this,List.getD_eq_getElem?_getD,List.getD_eq_getElem?_getD,List.getElem?_take,if_pos (by omega)]
instance:Inhabited Fate:=⟨noFate⟩
theorem Je1:∃f0 f1 f2 f3:Field,Tryz.prog.underlying 109 = some (.struct #[f0,f1,f2,f3])∧f0.type = 5 ∧ f1.type = 3 ∧ f2.type = 3 ∧ f3.type = 3 := ⟨_,_,_,_,Tryz.underlying109,rfl,rfl,rfl,rfl⟩
theorem Jf0:∃f0 f1 f2 f3 f4:Field,Tryz.prog.underlying 39 = some (.struct #[f0,f1,f2,f3,f4])∧f0.type = 5 ∧ f1.type = 36 ∧ f2.type = 3 ∧ f3.type = 37 ∧ f4.type = 23 := ⟨_,_,_,_,_,Tryz.underlying39,rfl,rfl,rfl,rfl,rfl⟩
theorem Jdc {v:Value}{fuel:Nat}{x:DataW H×List MemPlace}(h:DataW.trod enc Tryz.prog W base spare held fuel 23 [v]=some x):∃p c l,v = .slice p l.length c∧l.length≤maxLen∧FatesAt W boxed p l:=by
 obtain⟨f0,f1,f2,f3,hs,t0,t1,t2,t3⟩:=Je1
 have hone:oneCellFields Tryz.prog #[f0,f1,f2,f3]=true:=by
  have:(match Tryz.prog.underlying 109 with|some (.struct fs)=>oneCellFields Tryz.prog fs|_=>false)=true:=by kernel_rfl
  rw[hs] at this
  exact this
 rcases open_slice_fields Tryz.underlying23 hs hone (by kernel_rfl) h with hcs|⟨a,len,cap,m,hcs,hl,hm,hlm,hi⟩
 ·simp only[List.cons.injEq,and_true] at hcs
  subst hcs
  exact⟨none,0,[],rfl,Nat.zero_le _,fun k x hx=>by simp at hx⟩
 ·simp only[List.cons.injEq,and_true] at hcs
  subst hcs
  have key:∀k,k<len→∃x:Fate,∃b o,a=⟨b,o,none⟩∧FateIs W b (o+k*4) x:=fun k hk=>by
   obtain⟨v0,n0,y0,c0,z0⟩:=hi k (by omega) 0 f0 rfl
   obtain⟨v1,n1,y1,c1,z1⟩:=hi k (by omega) 1 f1 rfl
   obtain⟨v2,n2,y2,c2,z2⟩:=hi k (by omega) 2 f2 rfl
   obtain⟨v3,n3,y3,c3,z3⟩:=hi k (by omega) 3 f3 rfl
   rw[t0] at z0
   rw[t1] at z1
   rw[t2] at z2
   rw[t3] at z3
   obtain⟨m0,e0,_,w0⟩:=DataW.trod_int Tryz.underlying5 z0
   obtain⟨m1,e1,_,w1⟩:=DataW.trod_int Tryz.underlying3 z1
   obtain⟨m2,e2,_,w2⟩:=DataW.trod_int Tryz.underlying3 z2
   obtain⟨m3,e3,_,w3⟩:=DataW.trod_int Tryz.underlying3 z3
   simp only[List.cons.injEq,and_true] at e0 e1 e2 e3
   subst e0 e1 e2 e3
   have hx0:=Qiu w0
   obtain⟨fl,rfl⟩:=Int.eq_ofNat_of_zero_le hx0.1
   obtain⟨_,_,_,cc,-⟩:=hi 0 (by omega) 0 f0 rfl
   have hsp:=Qoz cc
   obtain⟨b,o,sp⟩:=a
   simp only at hsp
   subst hsp
   simp only[Qyv] at c0 c1 c2 c3
   exact⟨⟨fl,m1,m2,m3⟩,b,o,rfl,by show fl<256;omega,c0,c1,c2,c3⟩
  obtain⟨F,hF⟩:=choose_lt key
  refine⟨some a,cap,(List.range len).map F,by simp,by simp;omega,fun k x hx=>?_⟩
  have hk:k<len:=by have:=(List.getElem?_eq_some_iff.1 hx).1;simpa using this
  rw[List.getElem?_map,List.getElem?_range hk] at hx
  have hx':F k=x:=by simpa using hx
  subst hx'
  obtain⟨b,o,e1,e2⟩:=hF k hk
  exact⟨b,o,by rw[e1],rfl,e2⟩
def OpsF (w:World) (a:Option Addr) (len:Nat):Prop:=∀k,k<len→∃bl ol kd pg slot v data pf nf cf,a=some ⟨bl,ol,none⟩∧OpIs w bl (ol+k*5) kd pg slot v data pf nf cf∧∃fl:List Fate,fl.length=nf∧nf≤maxLen∧FatesAt w boxed pf fl
theorem OpsF.p {w:World}{a:Option Addr}{len:Nat}(h:OpsF w a len):OpsP w a len:=fun k hk=>by
 obtain⟨bl,ol,kd,pg,slot,v,data,pf,nf,cf,e1,e2,-⟩:=h k hk
 exact⟨bl,ol,kd,pg,slot,v,data,pf,nf,cf,e1,e2⟩
set_option maxRecDepth 100000 in
theorem Jf4 {v:Value}{d:DataW H}{p:List MemPlace}{b0:Nat}(hv:Value.okWide Tryz.prog W .any b0 22 v) (h:DataW.Trod enc Tryz.prog W base spare held 22 v d p):∃a len cap,v = .slice a len cap∧len≤maxLen∧OpsF W a len:=by
 obtain⟨a,len,cap,rfl⟩:=okWide_slice Tryz.underlying22 hv
 obtain⟨fuel,hf⟩:=h
 obtain⟨f0,f1,f2,f3,f4,hs,t0,t1,t2,t3,t4⟩:=Jf0
 have hone:oneCellFields Tryz.prog #[f0,f1,f2,f3,f4]=true:=by
  have:(match Tryz.prog.underlying 39 with|some (.struct fs)=>oneCellFields Tryz.prog fs|_=>false)=true:=by kernel_rfl
  rw[hs] at this
  exact this
 rcases open_slice_fields Tryz.underlying22 hs hone (by kernel_rfl) hf with hcs|⟨a',len',cap',m,hcs,hl,hm,hlm,hi⟩
 ·have hcs':[Value.slice a len cap]=[Value.slice none 0 0]:=hcs
  simp only[List.cons.injEq,Value.slice.injEq,and_true] at hcs'
  obtain⟨rfl,rfl,rfl⟩:=hcs'
  exact⟨none,0,0,rfl,Nat.zero_le _,fun k hk=>by omega⟩
 ·have hcs':[Value.slice a len cap]=[Value.slice (some a') len' cap']:=hcs
  simp only[List.cons.injEq,Value.slice.injEq,and_true] at hcs'
  obtain⟨rfl,rfl,rfl⟩:=hcs'
  refine⟨some a',len,cap,rfl,Nat.le_trans hl hm,fun k hk=>?_⟩
  obtain⟨v0,n0,y0,c0,z0⟩:=hi k (by omega) 0 f0 rfl
  obtain⟨v1,n1,y1,c1,z1⟩:=hi k (by omega) 1 f1 rfl
  obtain⟨v2,n2,y2,c2,z2⟩:=hi k (by omega) 2 f2 rfl
  obtain⟨v3,n3,y3,c3,z3⟩:=hi k (by omega) 3 f3 rfl
  obtain⟨v4,n4,y4,c4,z4⟩:=hi k (by omega) 4 f4 rfl
  rw[t0] at z0
  rw[t1] at z1
  rw[t2] at z2
  rw[t3] at z3
  rw[t4] at z4
  obtain⟨m0,e0,_,w0⟩:=DataW.trod_int Tryz.underlying5 z0
  obtain⟨m1,e1,_,w1⟩:=DataW.trod_int Tryz.underlying36 z1
  obtain⟨m2,e2,_,w2⟩:=DataW.trod_int Tryz.underlying3 z2
  obtain⟨data,hb⟩:=Qth z3
  obtain⟨pf,cf,fl,rfl,hfl,hfa⟩:=Jdc z4
  simp only[List.cons.injEq,and_true] at e0 e1 e2
  subst e0 e1 e2
  have hx0:=Qiu w0
  have hx1:=Qyj w1
  obtain⟨kd,rfl⟩:=Int.eq_ofNat_of_zero_le hx0.1
  obtain⟨pg,rfl⟩:=Int.eq_ofNat_of_zero_le hx1.1
  obtain⟨_,_,_,cc,-⟩:=hi 0 (by omega) 0 f0 rfl
  have hsp:=Qoz cc
  obtain⟨bl,ol,sp⟩:=a'
  simp only at hsp
  subst hsp
  simp only[Qyv] at c0 c1 c2 c3 c4
  exact⟨bl,ol,kd,pg,m2,v3,data,pf,fl.length,cf,rfl,⟨by omega,by omega,c0,c1,c2,c3,c4,hb⟩,fl,rfl,hfl,hfa⟩
end
end Go.Proofs.YtemacanaihaldaaGreat.ArgsQ
