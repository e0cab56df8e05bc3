/-
 The laws of restarts: what a log of three records says.
-/
import Derived.Test.YtociicnopccppaaGreatML16A
import Derived.Test.YtociicnopccppaaGreatMRdoI
set_option maxRecDepth 100000
set_option maxHeartbeats 4000000
set_option linter.all false
namespace Go.Proofs.YtociicnopccppaaGreat
open Go.RowKit Go.Maps ArgsQ
theorem Jj6 {l:List Nat}{a:Nat}(hn:l.Nodup) (h:∀k,k∈l↔k=a):l=[a]:=by
 cases l with
 | nil=>exact absurd ((h a).2 rfl) sM
 | cons b t =>
   have d:b=a:=(h b).1 sM
   cases t with
   | nil=>rw[d]
   | cons c t =>
     have e:c=a:=(h c).1 sM
     rw[d,e] at hn
     simp at hn
theorem Jkg {α:Type}(pre cs post:List α) {j:Nat}{u:α}(h:cs[j]?=some u) {n:Nat}(hn:n=pre.length+j):(pre++(cs++post))[n]?=some u:=by
 subst hn
 rw[Y6 oM,Nat.add_sub_cancel_left,Y5 (Z4 h).1]
 exact h
def kn1:qak:=⟨1,1,0,0,noChange,[],[]⟩
def kn2:qak:=⟨2,1,0,0,⟨3,0,false,true,[],[1]⟩,[],[]⟩
def kn3:qak:=⟨4,1,0,0,noChange,[],[]⟩
def knL:List (Nat×qak):=[(1,kn1),(28,kn2),(70,kn3)]
theorem kn16S:(knL.foldl qb4.take qb4.zero).f 1=some ⟨1,70,28,2⟩/\(∀k,k≠1->(knL.foldl qb4.take qb4.zero).f k=none)/\(knL.foldl qb4.take qb4.zero).pg 3=some 28/\(∀k,k≠3->(knL.foldl qb4.take qb4.zero).pg k=none)/\(knL.foldl qb4.take qb4.zero).won=[1]:=by
 refine⟨by rfl,fun k a=>?_,by rfl,fun k a=>?_,by rfl⟩
 ·show (if k=1 then _ else if k=1 then _ else if k=1 then _ else none)=none
  rw[if_neg a,if_neg a,if_neg a]
 ·show (if k=3 then _ else none)=none
  rw[if_neg a]
def knR1:List Value:=.int .u64 1::Jjm kn1 (.slice none 0 0) (.slice none 0 0) (.slice none 0 0) (.slice none 0 0)
def knR2 (b:Nat):List Value:=.int .u64 28::Jjm kn2 (.slice none 0 0) (.slice (some ⟨b,0,none⟩) 1 1) (.slice none 0 0) (.slice none 0 0)
def knR3:List Value:=.int .u64 70::Jjm kn3 (.slice none 0 0) (.slice none 0 0) (.slice none 0 0) (.slice none 0 0)
theorem qhw (w:World) (τ:qa1) (r:qak) (h1:r.qbm=[]) (h2:r.pages=[]) {p q:Option Addr}{n m c d:Nat}:qeh w τ r (.slice p n c) (.slice q m d) (.slice none 0 0) (.slice none 0 0):=⟨⟨_,_,_,rfl⟩,⟨_,_,_,rfl⟩,by rw[h1];exact NS.nil _ _ _ _ _ _ _,by rw[h2];exact NS.nil _ _ _ _ _ _ _⟩
def Jl9 (w:World) (e:Ending) (w':World):Prop:=e = .returned (.bool true)/\∃τ',Step w boxed w' τ' qb5
theorem Jki (w:World) {B:Nat}(hB:qfo B) (hB6:6<=B) (a4:B<=1000):Calls Tryz.prog 8 #[] w (Jl9 w):=by
 have l:=(zS w boxed).alloc' (.cells #[.int .u8 1] 5)
 obtain⟨D,hbA⟩:=gN w.heap.size
 obtain⟨E,a5⟩:=gN (w.alloc (.cells #[.int .u8 1] 5))
 rw[a5] at l
 have n:=(zS E boxed).alloc (.cells #[.int .u64 1,.int .u8 1,.int .u32 1,.int .u64 0,.int .u64 0,.int .u32 0,.int .u16 0,.bool false,.bool false,.slice none 0 0,.slice none 0 0,.slice none 0 0,.slice none 0 0,.int .u64 28,.int .u8 2,.int .u32 1,.int .u64 0,.int .u64 0,.int .u32 3,.int .u16 0,.bool false,.bool true,.slice none 0 0,.slice (some ⟨D,0,none⟩) 1 1,.slice none 0 0,.slice none 0 0,.int .u64 70,.int .u8 4,.int .u32 1,.int .u64 0,.int .u64 0,.int .u32 0,.int .u16 0,.bool false,.bool false,.slice none 0 0,.slice none 0 0,.slice none 0 0,.slice none 0 0] 75) qho
 have b:Own _ _ _ qho 75 ([]++(knR1++(knR2 D++(knR3++[])))):=Own.born E boxed qho 75 #[.int .u64 1,.int .u8 1,.int .u32 1,.int .u64 0,.int .u64 0,.int .u32 0,.int .u16 0,.bool false,.bool false,.slice none 0 0,.slice none 0 0,.slice none 0 0,.slice none 0 0,.int .u64 28,.int .u8 2,.int .u32 1,.int .u64 0,.int .u64 0,.int .u32 3,.int .u16 0,.bool false,.bool true,.slice none 0 0,.slice (some ⟨D,0,none⟩) 1 1,.slice none 0 0,.slice none 0 0,.int .u64 70,.int .u8 4,.int .u32 1,.int .u64 0,.int .u64 0,.int .u32 0,.int .u16 0,.bool false,.bool false,.slice none 0 0,.slice none 0 0,.slice none 0 0,.slice none 0 0]
 generalize qa1.put boxed E.heap.size qho=a6 at *
 obtain⟨F,a7⟩:=gN E.heap.size
 rw[a7] at b
 generalize hw2:E.alloc (.cells #[.int .u64 1,.int .u8 1,.int .u32 1,.int .u64 0,.int .u64 0,.int .u32 0,.int .u16 0,.bool false,.bool false,.slice none 0 0,.slice none 0 0,.slice none 0 0,.slice none 0 0,.int .u64 28,.int .u8 2,.int .u32 1,.int .u64 0,.int .u64 0,.int .u32 3,.int .u16 0,.bool false,.bool true,.slice none 0 0,.slice (some ⟨D,0,none⟩) 1 1,.slice none 0 0,.slice none 0 0,.int .u64 70,.int .u8 4,.int .u32 1,.int .u64 0,.int .u64 0,.int .u32 0,.int .u16 0,.bool false,.bool false,.slice none 0 0,.slice none 0 0,.slice none 0 0,.slice none 0 0] 75)=w2 at *
 have p:=(l.trans n).nz (T:=qb5)
 have G:qdw w2 a6 (.slice (some ⟨F,0,none⟩) 3 3) knL:=by
  refine⟨some ⟨F,0,none⟩,3,rfl,dC,fun i x c=>?_⟩
  match i,c with
  | 0,c=>cases c;exact⟨F,knR1,rfl,b.tag,b.lt,⟨_,_,_,_,rfl,qhw _ _ _ rfl rfl⟩,fun j u I=>b.at _ (Jkg [] knR1 _ I sM)⟩
  | 1,c=>cases c;exact⟨F,knR2 D,rfl,b.tag,b.lt,⟨_,_,_,_,rfl,qhw _ _ _ rfl rfl⟩,fun j u I=>b.at _ (Jkg knR1 (knR2 D) _ I (by show 13+j=13+j;rfl))⟩
  | 2,c=>cases c;exact⟨F,knR3,rfl,b.tag,b.lt,⟨_,_,_,_,rfl,qhw _ _ _ rfl rfl⟩,fun j u I=>b.at _ (Jkg (knR1++knR2 D) knR3 [] I (by show 26+j=26+j;rfl))⟩
  | i+3,c=>simp[knL] at c
 obtain⟨s1,s2,s3,s4,s5⟩:=kn16S
 have a8:∀x∈knL,qj2 x:=fun x c=>by
  simp only[knL,List.mem_cons,List.mem_singleton,List.not_mem_nil,or_false] at c
  rcases c with rfl|rfl|rfl <;> exact⟨dC,dC,dC,dC,dC,dC,fun a h=>(by cases h),fun a h=>(by cases h)⟩
 have J:=Jjf G a8 dC hB (fx:=[1]) (px:=[3]) (fun k L=>by
  by_cases e:k=1
  ·simp[e]
  ·rw[s2 k e] at L;cases L) (by simp;omega) (fun k L=>by
  by_cases e:k=3
  ·simp[e]
  ·rw[s4 k e] at L;cases L) (by simp;omega) a4
 obtain⟨M,O⟩:=qaj J p
 clear J p G l n b
 go_enter Tryz.func8,Tryz.ntmps8
 go_wp2_with fail
 refine M.mono ?_
 rintro e s ⟨v1,v2,v3,τ3,ts,ps,rfl,y,R⟩
 have a9:=Jj6 (a:=1) y.tn (fun k=>by
  rw[y.ti k]
  by_cases e:k=1
  ·subst e;rw[s1];simp
  ·rw[s2 k e];simp[e])
 have aa:=Jj6 (a:=3) y.pn (fun k=>by
  rw[y.pi k]
  by_cases e:k=3
  ·subst e;rw[s3];simp
  ·rw[s4 k e];simp[e])
 have ha:=y.a
 have hd:=y.d
 have hr:=y.r
 subst a9 aa
 rw[List.map_singleton,s1] at ha
 rw[List.map_singleton,s3] at hd
 rw[s5] at hr
 obtain⟨pa,ca,rfl,-,U⟩:=ha.txn
 obtain⟨X,rfl,a0,a1,a2,a3⟩:=U 0 _ rfl
 obtain⟨pd,cd,rfl,-,Y⟩:=ND.read ⟨hd.buf,hd.low⟩
 obtain⟨b2,rfl,d0,d1⟩:=Y 0 sM
 obtain⟨pr,cr,rfl⟩:=hr.val
 have z:=O.trans (R.mono (T:=qb5) (fun g h q=>by
  rcases h with h|h
  ·unfold qeq at h;rw[q] at h;simp[qay] at h
  ·rw[h] at q;simp[tCp,qay] at q))
 have C:=fun o=>z.alloc' o
 have n3:X<s.heap.size:=qb0 a0
 have n4:b2<s.heap.size:=qb0 d0
 change s.cell? ⟨X,0,none⟩=some (.int .u32 1) at a0
 change s.cell? ⟨X,1,none⟩=some (.int .u64 70) at a1
 change s.cell? ⟨X,2,none⟩=some (.int .u64 28) at a2
 change s.cell? ⟨X,3,none⟩=some (.int .u8 2) at a3
 change s.cell? ⟨b2,0,none⟩=some (.int .u32 3) at d0
 change s.cell? ⟨b2,1,none⟩=some (.int .u64 28) at d1
 have Z:=Z2 C
 clear C y ha hd hr U Y R z M
 go_wp2_with fail
 go_ret
 exact⟨rfl,_,Z _⟩
