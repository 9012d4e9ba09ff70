import Derived.Test.YtegonkdandmolaaGreatDlays3
import Derived.Test.YtegonkdandmolaaGreatSortLay
import Derived.Test.YtegonkdandmolaaGreatDlays1
import Derived.Test.YtegonkdandmolaaGreatDlays2
set_option linter.unusedVariables false
set_option linter.unusedSimpArgs false
set_option maxRecDepth 100000
set_option maxHeartbeats 4000000
namespace Go.Proofs.YtegonkdandmolaaGreat
open Go.RowKit Go.Shelf
theorem YY (x:IK) (e:DZ) (k:Nat) (hI:Ed k x.pl) (hk:k<=1000000) (he:e.ok) (W:World) (hst:St (Ak (hsL x)) W (hsL x) W) :
  Calls Tryz.prog 66 #[.pointer (some ⟨x.bS,0,none⟩),NZ e] W
  fun en w' => ∃i:Bool×IK,en = .returned (MM i)/\l7 x.bS (Eg x.pl e) i/\St (Ak (hsL x)) W (Rt i) w':=by
 obtain ⟨M,hM⟩:∃M,Ak (hsL x)=M:=⟨_,rfl⟩
 rw [hM] at hst ⊢
 obtain ⟨s,hs⟩:∃s,x.pl=s:=⟨_,rfl⟩
 rw [hs]
 clear hM
 have hstep:Eg s e=Eg s e:=rfl
 conv at hstep=>rhs;unfold Eg
 refine Ab (M:=M) Tryz.func66 [.tmp 4]  hst ?_
 refine AQ rfl fun K k0=>?_
 simp -implicitDefEqProofs (disch:=first|omega|decide) only [seval, -Int.reducePow, -Nat.reducePow,cC,pv,Ao,Az,undef,FN,NZ]
 intro b3 hb3 hf3
 refine k0 _ _ ?_
 refine AB fun K k0=>?_
 refine Ad ?_
 refine AQ rfl fun K k1=>?_
 have zs:=Bd.mk FN
 refine Ah ?_
 refine Aa (fun w hw=>bX e w) ?_
 try refine Ah ?_
 refine k1 _ _ ?_
 refine AL ?_
 cases hsk:JA e with
 | true =>
  refine Ah ?_
  refine Aq ?_
  refine AP (Cc fun w hw=>?_)
  rw [hsk,if_pos rfl] at hstep
  exact ⟨(true,x),rfl,.yes hstep hs rfl,hw.tail⟩
 | false =>
 rw [hsk,if_neg Bool.false_ne_true] at hstep
 refine Ah ?_
 by_cases hpl:e.pl<1\/64<e.pl
 ·rw [if_pos hpl] at hstep
  refine AQ rfl fun K k1=>?_
  refine Ah ?_
  by_cases hp1:e.pl<1
  ·refine D_ hp1 ?_
   refine k1 _ _ ?_
   refine AL ?_
   refine Ah ?_
   refine Aq ?_
   refine AP (Cc fun w hw=>?_)
   exact ⟨(false,x),rfl,.no hstep rfl,hw.tail⟩
  ·have hp2:64<e.pl:=hpl.resolve_left hp1
   refine D_ (And.intro hp1 hp2) ?_
   refine k1 _ _ ?_
   refine AL ?_
   refine Ah ?_
   refine Aq ?_
   refine AP (Cc fun w hw=>?_)
   exact ⟨(false,x),rfl,.no hstep rfl,hw.tail⟩
 rw [if_neg hpl] at hstep
 have hp1:¬e.pl<1:=fun h=>hpl (.inl h)
 have hp2:¬64<e.pl:=fun h=>hpl (.inr h)
 refine LX (And.intro hp1 hp2) ?_
 refine AL ?_
 refine Ah ?_
 by_cases o32:e.op=32
 ·have d32:decide (e.op=32)=true:=by simp [o32]
  rw [if_pos o32] at hstep
  refine LX d32 ?_
  refine AL ?_
  refine Ah ?_
  refine AQ rfl fun K k1=>?_
  refine Ah ?_
  refine Af [Dc b3 e] (hsL x) (List.Perm.refl _) MM Rt _ (fun w hw=>YU x e.pl w hw) ?_
  intro i hi
  simp -implicitDefEqProofs (disch:=first|omega|decide) only [seval, -Int.reducePow, -Nat.reducePow,cC,pv,Ao,Az,undef,FN,MM]
  refine k1 _ _ ?_
  refine AP (Cc fun w hw=>?_)
  rw [hs] at hi
  exact ⟨i,rfl,hstep▸hi,hw.sub (List.sublist_append_left _ _)⟩
 rw [if_neg o32] at hstep
 refine LX o32 ?_
 refine AL ?_
 refine Ah ?_
 refine Y2 (L':=Dc b3 e :: .blk x.bS 147 [.map (some x.b1),.map (some x.b2)]::Ef x.b1 (Bo Value.bool x.sd)::Ef x.b2 (Bo IP x.os)::Ei x.os) rfl ?_
 refine EK (x.bS≠b3) (fun w hw=>hw.l8 1 0 rfl rfl (by decide)) fun hn1=>?_
 have hal:((BL x.sd e.pl).map Value.bool).getD (.bool false) = .bool (alive s e.pl):=by
  rw [<-hs]
  unfold alive IK.pl
  cases BL x.sd e.pl<;>rfl
 refine AB fun K k1=>?_
 refine BR [(true,0),(true,1),(true,2),(true,3),(true,4),(true,5),(false,6),(true,7),(true,8)] [] CB rfl (by kernel_rfl) (by kernel_rfl) rfl rfl ?_
 refine Ah ?_
 refine DD jR rfl rfl (fun w hw=>hw.Nu 2 rfl) ?_
 rw [Cu,hal]
 refine Ah ?_
 refine k1 _ _ ?_
 refine AL ?_
 cases b_:alive s e.pl with
 | false =>
  rw [b_,if_pos rfl] at hstep
  refine Ah ?_
  refine Aq ?_
  refine AP (Cc fun w hw=>?_)
  exact ⟨(false,x),rfl,.no hstep rfl,hw.tail⟩
 | true =>
 rw [b_,if_neg (by decide:¬(true=false))] at hstep
 refine Ah ?_
 refine AO (k0 _ _ ?_)
 refine Y2 (L':=Dc b3 e::hsL x) rfl ?_
 refine AV [0,3] fun G1 g1=>?_
 replace g1:=Bi g1
 refine AB fun K k0=>?_
 have zg:=Bd.mk g1
 refine BH ?_
 refine Ad ?_
 by_cases o33:e.op=33
 ·have d33:decide (e.op=33)=true:=by simp [o33]
  rw [if_pos o33] at hstep
  refine FP d33 ?_
  refine AL ?_
  refine AR ?_
  refine AQ rfl fun K k1=>?_
  refine AR ?_
  refine Af [Dc b3 e] (hsL x) (List.Perm.refl _) MM Rt _ (fun w hw=>je x e k hI hk he w hw) ?_
  intro i hi
  simp -implicitDefEqProofs (disch:=first|omega|decide) only [seval, -Int.reducePow, -Nat.reducePow,cC,pv,Ao,Az,undef,FN,MM,g1]
  refine k1 _ _ ?_
  refine AP (Br fun w hw=>?_)
  rw [hs] at hi
  exact ⟨i,rfl,hstep▸hi,hw.sub (List.sublist_append_left _ _)⟩
 rw [if_neg o33] at hstep
 refine FP o33 ?_
 refine AL ?_
 refine AR ?_
 by_cases o1:e.op=1
 ·have d1:decide (e.op=1)=true:=by simp [o1]
  rw [if_pos o1] at hstep
  refine FP d1 ?_
  refine AL ?_
  refine AR ?_
  refine AQ rfl fun K k1=>?_
  refine AR ?_
  refine Af [Dc b3 e] (hsL x) (List.Perm.refl _) MM Rt _ (fun w hw=>YW x e he w hw) ?_
  intro i hi
  simp -implicitDefEqProofs (disch:=first|omega|decide) only [seval, -Int.reducePow, -Nat.reducePow,cC,pv,Ao,Az,undef,FN,MM,g1]
  refine k1 _ _ ?_
  refine AP (Br fun w hw=>?_)
  rw [hs] at hi
  exact ⟨i,rfl,hstep▸hi,hw.sub (List.sublist_append_left _ _)⟩
 rw [if_neg o1] at hstep
 refine FP o1 ?_
 refine AL ?_
 refine AR ?_
 refine AB fun K k1=>?_
 refine A9 (fun _ _=>True) (fun F' L'=>Az F' G1 [0,3]/\F' 35 = .int .i64 e.op/\F' 46 = .bool (decide (e.op=2\/e.op=8\/e.op=9\/e.op=10\/e.op=11))/\L'=Dc b3 e::hsL x) ?_ ?_
 ·by_cases o2:e.op=2
  ·have d2:decide (e.op=2)=true:=by simp [o2]
   refine FP d2 ?_
   refine AL ?_
   refine AR ?_
   refine AO ?_
   try simp only [BJ,BX]
   refine AR ?_
   simp [o2]
  refine FP o2 ?_
  refine AL ?_
  refine AR ?_
  by_cases o8:e.op=8
  ·have d8:decide (e.op=8)=true:=by simp [o8]
   refine FP d8 ?_
   refine AL ?_
   refine AR ?_
   refine AO ?_
   try simp only [BJ,BX]
   refine AR ?_
   simp [o8]
  refine FP o8 ?_
  refine AL ?_
  refine AR ?_
  by_cases o9:e.op=9
  ·have d9:decide (e.op=9)=true:=by simp [o9]
   refine FP d9 ?_
   refine AL ?_
   refine AR ?_
   refine AO ?_
   try simp only [BJ,BX]
   refine AR ?_
   simp [o9]
  refine FP o9 ?_
  refine AL ?_
  refine AR ?_
  by_cases oK:e.op=10
  ·have d10:decide (e.op=10)=true:=by simp [oK]
   refine FP d10 ?_
   refine AL ?_
   refine AR ?_
   refine AO ?_
   try simp only [BJ,BX]
   refine AR ?_
   simp [oK]
  refine FP oK ?_
  refine AL ?_
  refine AR ?_
  refine AU rfl ?_
  refine AR ?_
  simp [o2,o8,o9,oK]
 intro G2 L' _ hF
 obtain ⟨zq,rq,AHr,rfl⟩:=hF
 have g2:=And.intro (Bg zq) (And.intro rq AHr)
 refine k1 _ _ ?_
 refine AL ?_
 by_cases hu:e.op=2\/e.op=8\/e.op=9\/e.op=10\/e.op=11
 ·rw [if_pos hu] at hstep
  replace zg:=Bd.mk g2
  refine Ap hu ?_
  refine AQ rfl fun K k1=>?_
  refine AR ?_
  refine Af [Dc b3 e] (hsL x) (List.Perm.refl _) MM Rt _ (fun w hw=>jh x e k hI hk he w hw) ?_
  intro i hi
  simp -implicitDefEqProofs (disch:=first|omega|decide) only [seval, -Int.reducePow, -Nat.reducePow,cC,pv,Ao,Az,undef,FN,MM,g2]
  refine k1 _ _ ?_
  refine AP (Br fun w hw=>?_)
  rw [hs] at hi
  exact ⟨i,rfl,hstep▸hi,hw.sub (List.sublist_append_left _ _)⟩
 rw [if_neg hu] at hstep
 replace zg:=Bd.mk g2
 refine Ap hu ?_
 refine AO (k0 _ _ ?_)
 refine BH ?_
 refine AP (Br fun w hw=>?_)
 exact ⟨(false,x),rfl,.no hstep rfl,hw.tail⟩
open Go.RowKit Go.Shelf Go.Maps Go.Sort
theorem TR (m:Nat):AnyZI.SortsIn Tryz.prog sortedLay_ren Fence.wide m :=
 ⟨fun blk off cap ss W hH hblk hsz=>callsIn_wide.2 (AnyM.slices_Sort_int sortLay blk off cap ss W hH hblk hsz),
  fun p cap W=>callsIn_wide.2 (AnyM.slices_Sort_int_none sortLay p cap W)⟩
def blind (_:Value):Option (DataW Unit×List MemPlace):=some (.nil,[])
def KsH (w:World) (b:Nat) (ks:List Int):Prop := ∃(es:Array MapEntry) (cl:Nat),w.heap[b]? = some (.map es cl)/\es.toList.map (·.key)=ks.map (Value.int .i64)/\MapKept.Stamped es cl
theorem bP.ks {w:World} {b:Nat} {l:List (Int×Value)} (h:bP w b l):KsH w b (keys l):=by
 obtain ⟨es,cl,h1,h2,h3⟩:=h
 refine ⟨es,cl,h1, ?_,h3⟩
 have:=congrArg (List.map Prod.fst) h2
 simp only [List.map_map] at this
 unfold keys
 rw [List.map_map]
 exact this
theorem Qt {w:World} {b:Nat} {ks:List Int} {P:Program} {k:TypeId} (hk:P.underlying k=some (.int .i64)) (h:KsH w b ks) (hwf:∀x∈ks,(Lit.int .i64 x).wf=true) (hl:ks.length<=maxLen) :
  ∃D0:DataW Unit,w.ownsMap P k blind b ks.length D0/\(intKeys D0).Perm ks/\Maps.size D0=ks.length:=by
 obtain ⟨es,cl,h1,h2,h3⟩:=h
 have hlen:es.size=ks.length:=by have:=congrArg List.length h2;simpa using this
 have hrd:∀x∈es.toList,∃a:Int,a∈ks/\x.key = .int .i64 a/\WideElems.rd P k blind x=some (.int .i64 a,.nil):=fun x hx=>by
  have hm:x.key∈ks.map (Value.int .i64):=by rw [<-h2];exact List.mem_map.2 ⟨x,hx,rfl⟩
  obtain ⟨a,ha,hax⟩:=List.mem_map.1 hm
  refine ⟨a,ha,hax.symm, ?_⟩
  simp [WideElems.rd,<-hax,Maps.keyOf_int_mk hk (hwf a ha),blind]
 refine ⟨_,⟨es,cl,h1,⟨by rw [hlen];exact hl,h3,fun x hx=>?_⟩,by omega,rfl⟩, ?_, ?_⟩
 ·obtain ⟨a, -, -,h⟩:=hrd x hx
  exact ⟨_,h⟩
 ·have hp:=(WideShapes.sorted_perm (es.toList.map (WideElems.rg P k blind))).map fun p=>Go.intOf p.1
  refine hp.trans (List.Perm.of_eq ?_)
  rw [List.map_map]
  have:(es.toList.map fun x=>Go.intOf (WideElems.rg P k blind x).1).map (Value.int .i64)=ks.map (Value.int .i64):=by
   rw [<-h2,List.map_map]
   refine List.map_congr_left fun x hx=>?_
   obtain ⟨a, -,h4,h5⟩:=hrd x hx
   simp [WideElems.rg,h5,h4,Go.intOf]
  exact (List.map_inj_right fun a b h=>by simpa using h).1 this
 ·rw [Maps.size_eq,(WideShapes.sorted_perm (es.toList.map (WideElems.rg P k blind))).length_eq,List.length_map,Array.length_toList,hlen]
theorem YZ (mb:Option Nat) (W:World):Calls Tryz.prog 68 #[.map mb] W fun e w'=>e = .returned (.func (.func 112) #[] #[.pointer (some ⟨W.heap.size,0,none⟩)])/\w'=W.alloc (.cells #[.map mb] 145) :=
 callsIn_wide.1 (AnyZI.keys_in keysLay0 Fence.wide 5 trivial rfl mb W)
theorem O0 (Bm b:Nat) (ks:List Int) (w:World) (hm:w.cell? ⟨Bm,0,none⟩=some (.map (some b))) (hB:Bm<w.heap.size) (hM:KsH w b ks) (hwf:∀x∈ks,(Lit.int .i64 x).wf=true) (hl:ks.length<=1000) :
  Calls Tryz.prog 67 #[.func (.func 112) #[] #[.pointer (some ⟨Bm,0,none⟩)]] w fun e w' => ∃(A:Option Addr) (n c:Nat),e = .returned (.slice A n c) ∧
   w'.ownsRow w.heap.size 3 1 (.slice A n c) n ((ks.mergeSort leI).map (Value.int .i64))/\Below w.heap.size w w':=by
 obtain ⟨D0,hown,hp,hs⟩:=Qt (P:=Tryz.prog) (k:=3) Tryz.underlying3 hM hwf (Nat.le_trans hl (by decide))
 have hseq:SeqGives Fence.wide 2 Tryz.prog 112 #[.pointer (some ⟨Bm,0,none⟩)] encZ (fun ss=>ss.Perm (intKeys D0)) (Maps.size D0) w :=
  AnyZI.keys_gives (ρ:=keysLay0_ren) { keysLay0 with } Fence.wide _ trivial rfl (by omega) Bm b ks.length D0 _ hB hm hown
 have cS:=AnyZI.sorted_in sortedLay Fence.wide 5 trivial trivial trivial trivial rfl (by omega) (TR _) (enters_of Tryz.func111 (by kernel_rfl) rfl) 112 #[.pointer (some ⟨Bm,0,none⟩)] trivial (enters_of Tryz.func112 (by kernel_rfl) rfl) _ (Maps.size D0) (by rw [hs];exact Nat.le_trans hl (by decide)) (by rw [hs];omega) w hseq
 refine (callsIn_wide.1 cS).mono ?_
 rintro e w' ⟨v,ss,rfl,hS,hrow, -,hb⟩
 obtain ⟨A,c,rfl⟩:=Jj hrow
 rw [mergeSort_of_perm_i (hS.trans hp)] at hrow
 exact ⟨A,ss.length,c,rfl,hrow,hb⟩
theorem Ya (mb:Option Nat) (W:World):Calls Tryz.prog 113 #[.map mb] W fun e w'=>e = .returned (.func (.func 143) #[] #[.pointer (some ⟨W.heap.size,0,none⟩)])/\w'=W.alloc (.cells #[.map mb] 206) :=
 callsIn_wide.1 (AnyZI.keys_in keysLay1 Fence.wide 5 trivial rfl mb W)
theorem O1 (Bm b:Nat) (ks:List Int) (w:World) (hm:w.cell? ⟨Bm,0,none⟩=some (.map (some b))) (hB:Bm<w.heap.size) (hM:KsH w b ks) (hwf:∀x∈ks,(Lit.int .i64 x).wf=true) (hl:ks.length<=1000) :
  Calls Tryz.prog 67 #[.func (.func 143) #[] #[.pointer (some ⟨Bm,0,none⟩)]] w fun e w' => ∃(A:Option Addr) (n c:Nat),e = .returned (.slice A n c) ∧
   w'.ownsRow w.heap.size 3 1 (.slice A n c) n ((ks.mergeSort leI).map (Value.int .i64))/\Below w.heap.size w w':=by
 obtain ⟨D0,hown,hp,hs⟩:=Qt (P:=Tryz.prog) (k:=3) Tryz.underlying3 hM hwf (Nat.le_trans hl (by decide))
 have hseq:SeqGives Fence.wide 2 Tryz.prog 143 #[.pointer (some ⟨Bm,0,none⟩)] encZ (fun ss=>ss.Perm (intKeys D0)) (Maps.size D0) w :=
  AnyZI.keys_gives (ρ:=keysLay1_ren) { keysLay1 with } Fence.wide _ trivial rfl (by omega) Bm b ks.length D0 _ hB hm hown
 have cS:=AnyZI.sorted_in sortedLay Fence.wide 5 trivial trivial trivial trivial rfl (by omega) (TR _) (enters_of Tryz.func111 (by kernel_rfl) rfl) 143 #[.pointer (some ⟨Bm,0,none⟩)] trivial (enters_of Tryz.func143 (by kernel_rfl) rfl) _ (Maps.size D0) (by rw [hs];exact Nat.le_trans hl (by decide)) (by rw [hs];omega) w hseq
 refine (callsIn_wide.1 cS).mono ?_
 rintro e w' ⟨v,ss,rfl,hS,hrow, -,hb⟩
 obtain ⟨A,c,rfl⟩:=Jj hrow
 rw [mergeSort_of_perm_i (hS.trans hp)] at hrow
 exact ⟨A,ss.length,c,rfl,hrow,hb⟩
theorem uL:leI=fun x y=>decide (x<=y):=rfl
theorem XI {α:Type} (l:List (Int×α)):(keys l).mergeSort leI=keys (D9 l):=by rw [Ht,uL]
structure Bw where
 ob:Int
 ho:Int
 mo:Int
 co:Int
deriving DecidableEq
def V7 (b:Bw):List Value:=[.int .i64 b.ob,.int .i64 b.ho,.int .i64 b.mo,.int .i64 b.co]
def Au (l:List Bw):List Value:=l.flatMap V7
theorem BV (l:List Bw):(Au l).length=l.length*4:=by
 induction l with
 | nil=>rfl
 | cons b l ih=>rw [Au,List.flatMap_cons,List.length_append,List.length_cons,<-Au,ih,V7];simp;omega
theorem XJ (a b:List Bw):Au (a++b)=Au a++Au b:=by simp [Au]
theorem Dt (l:List Bw) (b:Bw):Au (l++[b])=Au l++[.int .i64 b.ob,.int .i64 b.ho,.int .i64 b.mo,.int .i64 b.co]:=by rw [XJ];rfl
structure RO where
 h:Nat
 ow:Int
 A:Option Addr
 n:Nat
 c:Nat
 bs:List Bw
structure RP where
 h:Nat
 ow:Int
 bs:List Bw
deriving DecidableEq
def RO.pl (o:RO):RP:=⟨o.h,o.ow,o.bs⟩
def vO (o:RO):Value:=.agg #[.int .u64 (o.h:Int),.int .i64 o.ow,.int .i64 0,.int .i64 0,.slice none 0 0,.slice o.A o.n o.c]
def oL (o:RO):List Value:=[.int .u64 (o.h:Int),.int .i64 o.ow,.int .i64 0,.int .i64 0,.slice none 0 0,.slice o.A o.n o.c]
def Dy (o:RO):Ai:=.row (.slice o.A o.n o.c) 163 4 o.n (Au o.bs)
def Zk (o:Ob) (c:Int×Int):Bw:=⟨Ac o.h,c.1,o.mo,c.2⟩
def Uo (o:Ob):RP:=⟨o.h,o.ow,(D9 o.cs).map (Zk o)⟩
theorem jk {x:Int} (h : -9223372036854775808<=x/\x<=9223372036854775807):(Lit.int .i64 x).wf=true:=by
 simp only [Lit.wf,Bool.and_eq_true,decide_eq_true_eq]
 exact h
theorem Km:type_of% (And.intro (And.intro (And.intro @Dc.eq_1 @IP.eq_1) (And.intro @Nat.mul_one (And.intro @Ae @G_))) (And.intro (And.intro @cM (And.intro @Ce @Cf)) (And.intro @Cg (And.intro @Ch @Ci)))):=(And.intro (And.intro (And.intro @Dc.eq_1 @IP.eq_1) (And.intro @Nat.mul_one (And.intro @Ae @G_))) (And.intro (And.intro @cM (And.intro @Ce @Cf)) (And.intro @Cg (And.intro @Ch @Ci))))
theorem cK (o:Fs) (k:Nat) (sl:Int) (hk:k<=1000) (hok:Rs k (sl,o.o)) (W:World) (hst:St (Ak (Iq o)) W (Iq o) W) :
  Calls Tryz.prog 69 #[.pointer (some ⟨o.b,0,none⟩)] W
  fun en w' => ∃i:RO,en = .returned (vO i)/\i.pl=Uo o.o/\St (Ak (Iq o)) W (Dy i::Iq o) w':=by
 obtain ⟨M,hM⟩:∃M,Ak (Iq o)=M:=⟨_,rfl⟩
 rw [hM] at hst ⊢
 have hnd:=hok.nd
 have hcn:=hok.cnt
 have ACX:=hok.h64
 obtain ⟨b,bc,o⟩:=o
 obtain ⟨h,ow,mo,cs⟩:=o
 unfold Iq at hst
 dsimp only at hst hnd hcn ACX ⊢
 clear hM
 have hlen:cs.length<=k:=hok.cl
 have hks:∀y∈keys cs,(Lit.int .i64 y).wf=true:=fun y hy=>by
  obtain ⟨p,hp,rfl⟩:=List.mem_map.1 hy
  have:=hcn p hp
  exact jk (by omega)
 refine DY (M:=M) (n:=50) [.cell 2 105] rfl Tryz.func69 rfl rfl (Nat.le_of_ble_eq_true rfl)  hst ?_
 refine AQ rfl fun K k0=>?_
 have zs:=Bd.mk Km
 refine Ah ?_
 intro b2 hb2 hf2
 refine k0 _ _ ?_
 refine AB fun K k0=>?_
 refine BR [(true,0),(true,1),(true,2),(true,3),(true,4),(true,5),(true,6),(true,7),(true,8),(false,9),(false,10)] [10] CB rfl (by kernel_rfl) (by kernel_rfl) rfl rfl ?_
 refine Ah ?_
 intro b3 hb3 hf3
 refine k0 _ _ ?_
 refine AB fun K k0=>?_
 refine AQ rfl fun K k1=>?_
 refine Ah ?_
 refine Sr (f:=fun b=>.func (.func 143) #[] #[.pointer (some ⟨b,0,none⟩)]) (t:=206) (cs:=[.map (some bc)]) (fun w hw=>Ya (some bc) w) ?_
 intro bk hbk hfk
 refine Ah ?_
 refine Cn (fun A n c=>.slice A n c) (fun w hw=>(O1 bk bc (keys cs) w (by rw [hw.Dz (.head _)];rfl) (hw.own _ (.head _) bk (by simp [Ai.foot])).2 (by have:=(hw.Nu 4 rfl).ks;rw [JP] at this;exact this) hks (by unfold keys;rw [List.length_map];omega)).mono fun e w' ⟨A,n,c,q1,q2,q3⟩=>⟨A,n,c,q1,q2,q3⟩) ?_
 intro A2 n2 c2 hl2 hr2
 rw [XI] at hl2 ⊢
 refine Ah ?_
 refine k1 _ _ ?_
 refine AV [0,2,3,20,21,22] fun G1 g1=>?_
 replace g1:=Bi g1
 have hn2:(D9 cs).length=n2:=by rw [List.length_map] at hl2;unfold keys at hl2;rw [List.length_map] at hl2;omega
 have hsl:(D9 cs).length=cs.length:=by have:=congrArg List.length (Ht (l:=cs));rw [List.length_mergeSort] at this;unfold keys at this;rw [List.length_map,List.length_map] at this;exact this
 refine D5 163 4 ?_
 refine BF [0,3,4,1,5,6] (by decide) ?_
 simp only [Ag,nth]
 refine Ad ?_
 refine BP (fun F' L' => ∃(i:Nat) (A:Option Addr) (n c:Nat),Az F' G1 [0,2,3,20,21]/\F' 22 = .int .i64 (i:Int)/\L'=[.row (.slice A n c) 163 4 n (Au (((D9 cs).map (Zk ⟨h,ow,mo,cs⟩)).take i)),.blk b3 105 [.int .u64 (h:Int),.int .i64 ow,.int .i64 0,.int .i64 0,.slice none 0 0,.slice A n c],.blk b2 105 [.int .u64 0,.int .i64 0,.int .i64 0,.int .i64 0,.slice none 0 0,.slice none 0 0],.row (.slice A2 n2 c2) 3 1 n2 ((keys (D9 cs)).map (Value.int .i64)),.blk b 208 [.int .u64 (h:Int),.int .i64 ow,.int .i64 mo,.map (some bc)],Ef bc (Bo (Value.int .i64) cs)]/\i<=n2) (fun F' L'=>2000-(intOf (F' 22)).toNat) ?_ ?_
 ·refine ⟨0,none,0,0, ?_⟩
  have zg:=Bd.mk g1
  refine AR ?_
  exact ⟨rfl,by omega⟩
 intro G2 L' hI
 obtain ⟨i,A,n,c,zq,tJ,rfl,hi⟩:=hI
 have zg:=Bd.mk g1
 have g2:=And.intro (Bg zq) tJ
 replace zg:=Bd.mk (And.intro g1 g2)
 refine BH ?_
 refine AB fun K k1=>?_
 refine Dl (fun hc=>?_) fun hc=>?_
 ·refine AO ?_
  try simp only [BJ,BX]
  have hit:i<n2:=by have:=of_decide_eq_true ‹decide ((i:Int)<(n2:Int))=true›;omega
  obtain ⟨p,hp⟩:∃p,(D9 cs)[i]? = some p:=⟨_,List.getElem?_eq_getElem (by omega)⟩
  have hkv:((keys (D9 cs)).map (Value.int .i64))[i]? = some (.int .i64 p.1):=by unfold keys;rw [List.getElem?_map,List.getElem?_map,hp];rfl
  have htk:((D9 cs).map (Zk ⟨h,ow,mo,cs⟩)).take (i+1)=((D9 cs).map (Zk ⟨h,ow,mo,cs⟩)).take i++[Zk ⟨h,ow,mo,cs⟩ p]:=by
   rw [List.take_add_one,List.getElem?_map,hp]
   rfl
  have hpg:BL cs p.1=some p.2:=by
   rw [<-NA hnd,<-LH (F_ hnd).nodup (List.mem_of_getElem? hp)]
  refine k1 _ _ ?_
  refine EX 0 rfl fun hlA=>?_
  have ACZ:n<=1000:=by
   rw [BV,List.length_take,List.length_map] at hlA
   omega
  refine BQ 3 rfl (by omega) fun g DJ hg Bl=>?_
  subst DJ
  simp only [List.eraseIdx_cons_zero,List.eraseIdx_cons_succ,BC,BD,BI,A_,and_true,List.not_mem_nil,or_false,Km] at Bl hg
  replace hg:=And.intro hg Bl
  clear Bl
  refine Mc fun hap=>?_
  simp only [Kv,GN,GQ,Jl,O8,Jm,BC,BD,BI,and_true,true_and,List.not_mem_nil,or_false,Km] at hap
  obtain hap:=hap
  refine AB fun K k1=>?_
  refine Ad ?_
  refine AQ rfl fun K k2=>?_
  refine AR ?_
  refine Aj (BN (i:=i) (v:=.int .i64 p.1) (.tail _ (.tail _ (.tail _ (.head _)))) rfl hkv) ?_
  refine AR ?_
  refine k2 _ _ ?_
  refine Jk ?_
  refine E9 [1,4,5] (by decide) (by simp only [Ag,nth,Be,Bv,List.mem_cons,true_or,or_true,and_true,eq_self]) (.rd 0 (.rd 1 (.rd 2 (.rd 3 (.rd 4 (.rd 5 (.rd 7 (.rd 8 (.rd 9 (.rd 10 (.rd 11 (.rd 12 (.rd 13 (.rd 14 (.rd 15 (.rd 16 (.more 6 (.act 17 (.rd 18 (.act 19 (.act 20 (.rd 21 (.act 22 (.done))))))) (.act 17 (.act 6 (.rd 18 (.act 19 (.act 20 (.rd 21 (.act 22 (.done))))))))))))))))))))))))) [22] CB rfl (by kernel_rfl) (by kernel_rfl) (by kernel_rfl) (by kernel_rfl) ?_
  simp only [Ag,nth]
  refine AR ?_
  repeat' (first
   | refine And.intro ?_ ?_
   | (refine Aa (fun w hw=>Ki h ACX w) ?_;simp -implicitDefEqProofs (disch:=first|omega|decide) only [seval, -Int.reducePow, -Nat.reducePow,cC,pv,Ao,Az,undef,Km,g1,g2])
   | (refine DD Ny rfl rfl (fun w hw=>hw.Nu 5 rfl) ?_;rw [Cu,FO,hpg,Option.getD_some];simp -implicitDefEqProofs (disch:=first|omega|decide) only [seval, -Int.reducePow, -Nat.reducePow,cC,pv,Ao,Az,undef,Km,g1,g2]))
  all_goals
   intro bE PE Rj
   refine Bj 1 Ld rfl (fun w hw=>Bp (size:=4) (.head _) rfl hw) rfl (by omega) (by omega) ?_
   intro A1 c1 hl1 hr1
   refine AR ?_
   refine ⟨[0,2,3,4,5,6],by decide, ?_⟩
   simp only [Ag,nth]
   refine k1 _ _ ?_
   refine AF rfl ?_
   refine AR ?_
   refine ⟨⟨i+1,A1,n+1,c1, ?_⟩, ?_⟩
   ·rw [htk,Dt]
    refine Ap @Int.natCast_add ?_
    exact ⟨rfl,by omega⟩
   ·simp only [intOf];omega
 refine BM (k0 _ _ ?_)
 have hin:i=n2:=by have:=of_decide_eq_false ‹decide ((i:Int)<(n2:Int))=false›;omega
 subst hin
 rw [List.take_of_length_le (by rw [List.length_map];omega)]
 refine BH ?_
 refine AP ?_
 simp -implicitDefEqProofs (disch:=first|omega|decide) only [seval, -Int.reducePow, -Nat.reducePow,cC,pv,Ao,Az,undef,Km,Dx,Cx,Cw,g1,g2]
 intro w hw
 have h9:=hw.pick (ix:=[0,4,5]) (by decide)
 simp only [Ag,nth] at h9
 exact ⟨⟨h,ow,A,n,c,(D9 cs).map (Zk ⟨h,ow,mo,cs⟩)⟩,rfl,rfl,h9⟩
theorem FB {α:Type} {f:α->List Value} {s:Nat} (hf:∀a,(f a).length=s):∀ {l:List α} {i:Nat} {a:α},l[i]? = some a->((l.flatMap f).drop (i*s)).take s=f a
 | [],i,a,h=>by simp at h
 | x::l,0,a,h=>by
  have h:x=a:=by simpa using h
  subst h
  rw [Nat.zero_mul,List.drop_zero,List.flatMap_cons,List.take_append_of_le_length (by rw [hf];exact Nat.le_refl _),List.take_of_length_le (by rw [hf];exact Nat.le_refl _)]
 | x::l,i+1,a,h=>by
  have h:l[i]? = some a:=by simpa using h
  rw [List.flatMap_cons,show (i+1)*s=s+i*s by rw [Nat.succ_mul,Nat.add_comm],List.drop_append,List.drop_of_length_le (by rw [hf];omega),hf,Nat.add_sub_cancel_left,List.nil_append]
  exact FB hf h
theorem Cr {α:Type} {f:α->List Value} {s:Nat} (hf:∀a,(f a).length=s) (l:List α):(l.flatMap f).length=l.length*s:=by
 induction l with
 | nil=>simp
 | cons x l ih=>rw [List.flatMap_cons,List.length_append,hf,ih,List.length_cons,Nat.succ_mul,Nat.add_comm]
def Bc (es:List DZ):List Value:=es.flatMap Xo
def BS (os:List RO):List Value:=os.flatMap oL
theorem C8 (e:DZ):(Xo e).length=5:=rfl
theorem Dw (o:RO):(oL o).length=6:=rfl
theorem ND (l:List RO) (o:RO):BS (l++[o])=BS l++[.int .u64 (o.h:Int),.int .i64 o.ow,.int .i64 0,.int .i64 0,.slice none 0 0,.slice o.A o.n o.c]:=by simp [BS,oL]
theorem Nz:∀(l:List DZ) (s:HS) (e:DZ),Fp s (l++[e])=(Fp s l).bind fun s'=>Eg s' e
 | [],s,e=>by
  simp only [List.nil_append,Fp]
  show _=Eg s e
  cases Eg s e<;>rfl
 | x::l,s,e=>by
  simp only [List.cons_append,Fp]
  cases Eg s x with
  | none=>rfl
  | some s'=>exact Nz l s' e
theorem N7:∀(l r:List DZ) (s:HS),Fp s l=none->Fp s (l++r)=none
 | [],r,s,h=>by cases h
 | x::l,r,s,h=>by
  simp only [List.cons_append,Fp] at h ⊢
  cases hs:Eg s x with
  | none=>rfl
  | some s' =>
   rw [hs] at h
   exact N7 l r s' h
def hs0:HS:=⟨[],[]⟩
theorem Uq:Ed 0 hs0:=⟨by simp [hs0,keys],by simp [hs0],fun q hq=>by simp [hs0] at hq,fun p hp=>by simp [hs0,alive,BL] at hp⟩
def O3 (s:HS):List RP:=(D9 s.os).map fun q=>Uo q.2
structure cO where
 A:Option Addr
 n:Nat
 c:Nat
 DF:List RO
 err:Int
def O4 (i:cO):Value:=.tuple #[.slice i.A i.n i.c,.int .i64 i.err]
def NF (i:cO):List Ai:=.row (.slice i.A i.n i.c) 105 6 i.n (BS i.DF)::i.DF.map Dy
def Ur (o:Option HS):List RP×Int:=match o with
 | none=>([],28)
 | some s=>(O3 s,0)
structure jl (es:List DZ) (i:cO):Prop where
 DF:i.DF.map RO.pl=(Ur (Fp hs0 es)).1
 err:i.err=(Ur (Fp hs0 es)).2
theorem jm {r:Ai} {B C R O:List Ai} : (C++((R++[r])++(B++O))).Perm ((r::B)++(C++(R++O))):=by
 have h:(C++R++((r::B)++O)).Perm ((r::B)++(C++R++O)):=List.perm_append_comm_assoc _ _ _
 simpa [List.append_assoc] using h
theorem jo {α β:Type} (f:α->β) (l:List (Int×α)):D9 (Bo f l)=Bo f (D9 l):=by
 have key:∀ks:List Int,(ks.filterMap fun k=>(BL (Bo f l) k).map fun v=>(k,v))=Bo f (ks.filterMap fun k=>(BL l k).map fun v=>(k,v)):=by
  intro ks
  induction ks with
  | nil=>rfl
  | cons k ks ih =>
   rw [List.filterMap_cons,List.filterMap_cons,Ff]
   cases BL l k with
   | none=>exact ih
   | some v =>
    simp only [Option.map_some]
    rw [ih]
    rfl
 unfold D9
 rw [JP]
 exact key _
theorem St.lookW {W w:World} {L:List Ai} {b:Nat} (hw:St [] W L w) (hb:b<W.heap.size):look L b=none:=by
 cases h:look L b with
 | none=>rfl
 | some cs =>
  obtain ⟨t,ht⟩:=Hy h
  have:=(hw.own _ ht b (by simp [Ai.foot])).1
  simp at this
  omega
theorem St.ACa {M:List Nat} {W w:World} {a r b c d:Ai} {T:List Ai} (hw:St M W (a::r::b::c::d::T) w) {g:Nat} (hg:g∈r.foot):look T g=none:=by
 cases h:look T g with
 | none=>rfl
 | some cs =>
  obtain ⟨t,ht⟩:=Hy h
  have h1:=(List.pairwise_cons.1 hw.apart).2
  exact absurd (show g∈(Ai.blk g t cs).foot by simp [Ai.foot]) ((List.pairwise_cons.1 h1).1 _ (by simp [ht]) g hg)
theorem Ir (A:Option Addr) (n c:Nat) (es:List DZ) (W:World) (hE:Sl W W.heap.size 5 A n c (Bc es)) (hok:∀e∈es,e.ok) (hn:n<=900) :
  Calls Tryz.prog 34 #[.slice A n c] W
  fun en w' => ∃i:cO,en = .returned (O4 i)/\jl es i/\St [] W (NF i) w':=by
 have hlen:es.length=n:=by
  have:=hE.len
  unfold Bc at this
  rw [Cr C8] at this
  omega
 refine Ab (M:=[]) Tryz.func34 [.tmp 2,.tmp 3] (St.nil _ _) ?_
 have zs:=Bd.mk Km
 refine Aq ?_
 refine AQ rfl fun K k0=>?_
 refine Ah ?_
 refine Uj fun b1 hb1 hf1=>?_
 refine Ah ?_
 refine Uj fun b2 hb2 hf2=>?_
 refine Ah ?_
 intro bS hbS
 refine k0 _ _ ?_
 refine AB fun K k0=>?_
 refine Aq ?_
 refine AV [4,14,15,16] fun G1 g1=>?_
 replace g1:=Bi g1
 refine BF [0,2,1] (by decide) ?_
 simp only [Ag,nth]
 refine Y2 (L':=hsL ⟨bS,b1,b2,[],[]⟩) rfl ?_
 refine Ad ?_
 refine BP (fun F' L' => ∃(i:Nat) (x:IK),Az F' G1 [4,14,15]/\F' 16 = .int .i64 (i:Int)/\L'=hsL x/\(i<=n/\x.bS=bS)/\Ed i x.pl/\Fp hs0 (es.take i)=some x.pl) (fun F' L'=>2000-(intOf (F' 16)).toNat) ?_ ?_
 ·refine ⟨0,⟨bS,b1,b2,[],[]⟩, ?_⟩
  have zg:=Bd.mk g1
  refine AR ?_
  exact ⟨by omega,Uq,rfl⟩
 intro G2 L' hI
 obtain ⟨i,x,zq,sV,rfl,⟨⟨hi,hxb⟩,hI,hrun⟩⟩:=hI
 have zg:=Bd.mk g1
 have g2:=And.intro (Bg zq) sV
 replace zg:=Bd.mk (And.intro g1 g2)
 refine BH ?_
 refine AB fun K k1=>?_
 refine Dl (fun hc=>?_) fun hc=>?_
 ·refine AO ?_
  try simp only [BJ,BX]
  have hit:i<n:=by have:=of_decide_eq_true ‹decide ((i:Int)<(n:Int))=true›;omega
  obtain ⟨e,he⟩:∃e,es[i]? = some e:=⟨_,List.getElem?_eq_getElem (by omega)⟩
  have heo:=hok e (List.mem_of_getElem? he)
  obtain ⟨bA,oA,rfl,KD, -⟩:=hE.cells (by omega)
  have hld:=FB C8 he
  have htk:es.take (i+1)=es.take i++[e]:=by rw [List.take_add_one,he];rfl
  refine k1 _ _ ?_
  refine EK (look (hsL x) bA=none) (fun w hw=>hw.lookW KD) fun hlk=>?_
  subst hxb
  refine AB fun K k1=>?_
  refine Ad ?_
  refine AQ rfl fun K k2=>?_
  refine Ap hlk ?_
  refine Aj (hE.ld (i:=i*5) (vs:=Xo e) (by omega) (by kernel_rfl) hld) ?_
  refine Ap hld ?_
  intro b6 hb6 hf6
  refine ⟨rfl,rfl, ?_⟩
  refine k2 _ _ ?_
  refine AV [4,6,14,15,16] fun G3 g3=>?_
  replace g3:=Bg g3
  have hrs:Fp hs0 (es.take (i+1))=Eg x.pl e:=by rw [htk,Nz,hrun];rfl
  refine AQ rfl fun K k2=>?_
  simp -implicitDefEqProofs (disch:=first|omega|decide) only [seval, -Int.reducePow, -Nat.reducePow,cC,pv,Ao,Az,undef,Km,Xo,g1,g2,g3]
  refine Af [.blk b6 68 (Xo e)] (hsL x) (List.Perm.refl _) MM Rt _ (fun w hw=>YY x e i hI (by omega) heo w hw) ?_
  rintro ⟨r,y⟩ hy
  simp -implicitDefEqProofs (disch:=first|omega|decide) only [seval, -Int.reducePow, -Nat.reducePow,cC,pv,Ao,Az,undef,Km,MM,g1,g2,g3]
  refine k2 _ _ ?_
  refine AL ?_
  cases r with
  | false =>
   have hsn:Eg x.pl e=none:=by have:=hy.res;cases h:Eg x.pl e with
    | none=>rfl
    | some s=>rw [h] at this;cases this
   replace zg:=Bd.mk (And.intro g1 (And.intro g2 g3))
   refine AR ?_
   refine BH ?_
   refine D5 105 6 ?_
   refine AP (Br fun w hw=>?_)
   refine ⟨⟨none,0,0,[],28⟩,rfl,⟨?_, ?_⟩,hw.sub (.cons_cons _ (List.nil_sublist _))⟩
   all_goals
    have hnn:Fp hs0 es=none:=by
     rw [<-List.take_append_drop (i+1) es]
     exact N7 _ _ _ (hrs.trans hsn)
    rw [hnn]
    rfl
  | true =>
   obtain ⟨s',hs'⟩:∃s',Eg x.pl e=some s':=by
    have:=hy.res
    cases h:Eg x.pl e with
    | none=>rw [h] at this;cases this
    | some s=>exact ⟨s,rfl⟩
   have hyp:=hy.st s' hs'
   have hyb:=hy.bS
   dsimp only at hyp hyb
   replace zg:=Bd.mk (And.intro g1 (And.intro g2 g3))
   refine AR ?_
   refine AO (k1 _ _ ?_)
   refine Cq (hsL y) (fun w hw=>hw.sub (List.sublist_append_left _ _)) ?_
   refine AF rfl ?_
   refine AR ?_
   refine ⟨⟨i+1,y, ?_⟩, ?_⟩
   ·refine Ap @Int.natCast_add ?_
    refine ⟨⟨by omega,hyb⟩, ?_, ?_⟩
    ·rw [hyp]
     exact hI.step heo hs'
    ·rw [hrs,hs',hyp]
   ·simp only [intOf];omega
 refine BM (k0 _ _ ?_)
 have hin:i=n:=by have:=of_decide_eq_false ‹decide ((i:Int)<(n:Int))=false›;omega
 subst hin
 rw [List.take_of_length_le (by omega)] at hrun
 clear hE hi
 refine BH ?_
 obtain ⟨qM,b1,b2,sd,os⟩:=x
 dsimp only at hxb
 subst hxb
 have hnd:(keys os).Nodup:=by have:=hI.nd;unfold IK.pl at this;rw [JP] at this;exact this
 have hol:os.length<=i:=by have:=hI.len;unfold IK.pl at this;rw [Kj] at this;exact this
 have LF:∀q∈os,Rs i (q.1,q.2.o):=fun q hq=>hI.obj _ (List.mem_map.2 ⟨q,hq,rfl⟩)
 have hks:∀y∈keys os,(Lit.int .i64 y).wf=true:=fun y hy=>by
  obtain ⟨p,hp,rfl⟩:=List.mem_map.1 hy
  have h1:=(LF p hp).slot
  simp only at h1
  have:Ac p.2.o.h<16777216:=Nat.mod_lt _ (by omega)
  exact jk (by omega)
 refine Y2 (L':=.blk qM 147 [.map (some b1),.map (some b2)]::Ef b1 (Bo Value.bool sd)::Ef b2 (Bo IP os)::Ei os) rfl ?_
 refine AV [4,7] fun G4 g4=>?_
 replace g4:=Bg g4
 refine AB fun K k0=>?_
 refine AQ rfl fun K k1=>?_
 replace zg:=Bd.mk (And.intro g1 (And.intro g2 g4))
 refine AR ?_
 refine Sr (f:=fun b=>.func (.func 112) #[] #[.pointer (some ⟨b,0,none⟩)]) (t:=145) (cs:=[.map (some b2)]) (fun w hw=>YZ (some b2) w) ?_
 intro bk hbk hfk
 refine AR ?_
 refine Cn (fun A n c=>.slice A n c) (fun w hw=>(O0 bk b2 (keys os) w (by rw [hw.Dz (.head _)];rfl) (hw.own _ (.head _) bk (by simp [Ai.foot])).2 (by have:=(hw.Nu 3 rfl).ks;rw [JP] at this;exact this) hks (by unfold keys;rw [List.length_map];omega)).mono fun e w' ⟨A,n,c,q1,q2,q3⟩=>⟨A,n,c,q1,q2,q3⟩) ?_
 intro A2 n2 c2 hl2 hr2
 rw [XI] at hl2 ⊢
 refine AR ?_
 refine k1 _ _ ?_
 refine AV [4,7,30,31,32] fun G5 g5=>?_
 replace g5:=Bg g5
 have hn2:(D9 os).length=n2:=by rw [List.length_map] at hl2;unfold keys at hl2;rw [List.length_map] at hl2;omega
 have hsl:(D9 os).length=os.length:=by have:=congrArg List.length (Ht (l:=os));rw [List.length_mergeSort] at this;unfold keys at this;rw [List.length_map,List.length_map] at this;exact this
 refine D5 105 6 ?_
 refine Cq (.row (.slice none 0 0) 105 6 0 [] :: .row (.slice A2 n2 c2) 3 1 n2 ((keys (D9 os)).map (Value.int .i64)) :: .blk qM 147 [.map (some b1),.map (some b2)]::Ef b1 (Bo Value.bool sd)::Ef b2 (Bo IP os)::Ei os) (fun w hw=>hw.sub (.cons_cons _ (.cons_cons _ (.cons _ (List.Sublist.refl _))))) ?_
 refine Ad ?_
 refine BP (fun F' L' => ∃(j:Nat) (A:Option Addr) (n c:Nat) (DF:List RO),Az F' G5 [4,30,31]/\F' 7 = .slice A n c/\F' 32 = .int .i64 (j:Int)/\L' = .row (.slice A n c) 105 6 n (BS DF) :: .row (.slice A2 n2 c2) 3 1 n2 ((keys (D9 os)).map (Value.int .i64)) :: .blk qM 147 [.map (some b1),.map (some b2)]::Ef b1 (Bo Value.bool sd)::Ef b2 (Bo IP os)::(DF.map Dy++Ei os)/\j<=n2/\DF.map RO.pl=((D9 os).take j).map fun q=>Uo q.2.o) (fun F' L'=>2000-(intOf (F' 32)).toNat) ?_ ?_
 ·refine ⟨0,none,0,0,[], ?_⟩
  replace zg:=Bd.mk (And.intro g1 (And.intro g2 g5))
  refine AR ?_
  exact ⟨rfl,by omega⟩
 intro G6 L' hI
 obtain ⟨j,A,n,c,DF,zq,Lv,AHt,rfl,⟨hj,J4⟩⟩:=hI
 replace zg:=Bd.mk g5
 have g6:=And.intro (Bg zq) (And.intro Lv AHt)
 replace zg:=Bd.mk (And.intro g1 (And.intro g2 (And.intro g5 g6)))
 refine BH ?_
 refine AB fun K k1=>?_
 refine Dl (fun hc=>?_) fun hc=>?_
 ·refine AO ?_
  try simp only [BJ,BX]
  have hit:j<n2:=by have:=of_decide_eq_true ‹decide ((j:Int)<(n2:Int))=true›;omega
  obtain ⟨⟨kk,o⟩,hp⟩:∃p,(D9 os)[j]? = some p:=⟨_,List.getElem?_eq_getElem (by omega)⟩
  have hkv:((keys (D9 os)).map (Value.int .i64))[j]? = some (.int .i64 kk):=by unfold keys;rw [List.getElem?_map,List.getElem?_map,hp];rfl
  have hpg:BL os kk=some o:=by
   have:=LH (F_ hnd).nodup (List.mem_of_getElem? hp)
   rw [NA hnd] at this
   exact this
  have uI:=LF _ (Ec hpg)
  refine k1 _ _ ?_
  refine EX 0 rfl fun hlA=>?_
  have ACZ:n<=1000:=by
   unfold BS at hlA
   rw [Cr Dw] at hlA
   have:=congrArg List.length J4
   rw [List.length_map,List.length_map,List.length_take] at this
   omega
  refine BQ 1 rfl (by omega) fun g DJ hg Bl=>?_
  subst DJ
  simp only [List.eraseIdx_cons_zero,List.eraseIdx_cons_succ,BC,BD,BI,A_,and_true,List.not_mem_nil,or_false,Km] at Bl hg
  replace hg:=And.intro hg Bl
  clear Bl
  refine Mc fun hap=>?_
  simp only [Kv,GN,GQ,Jl,O8,Jm,BC,BD,BI,and_true,true_and,List.not_mem_nil,or_false,Km] at hap
  obtain hap:=hap
  obtain ⟨pre,post,U8, -, -, -⟩:=YS hpg
  have hPm:∀H:List Ai,(Iq o++(H++(DF.map Dy++Ei (pre++post)))).Perm (H++(DF.map Dy++Ei os)):=fun H=>by
   have:=Qr (H++DF.map Dy) pre post kk o
   rw [<-U8] at this
   simpa [List.append_assoc] using this
  refine EK (look (DF.map Dy++Ei os) g=none) (fun w hw=>hw.ACa (by simp [Ai.foot,Value.ownBlock])) fun hlk=>?_
  refine AB fun K k1=>?_
  refine Ad ?_
  refine AQ rfl fun K k2=>?_
  refine Ap hlk ?_
  refine Aj (BN (i:=j) (v:=.int .i64 kk) (.tail _ (.head _)) rfl hkv) ?_
  refine AR ?_
  refine k2 _ _ ?_
  refine Cq (Iq o++([.row (.slice A n c) 105 6 n (BS DF),.row (.slice (some ⟨g,0,none⟩) n2 c2) 3 1 n2 ((keys (D9 os)).map (Value.int .i64)),.blk qM 147 [.map (some b1),.map (some b2)],Ef b1 (Bo Value.bool sd),Ef b2 (Bo IP os)]++(DF.map Dy++Ei (pre++post)))) (fun w hw=>hw.perm (hPm _)) ?_
  unfold Iq
  dsimp only [List.cons_append,List.nil_append]
  refine EK (o.b≠qM) (fun w hw=>hw.l8 0 4 rfl rfl (by decide)) fun hn1=>?_
  refine AU rfl ?_
  refine AR ?_
  refine DD Um rfl rfl (fun w hw=>hw.Nu 6 rfl) ?_
  rw [Cu,hpg,Option.map_some,Option.getD_some]
  refine AR ?_
  refine Af (.row (.slice A n c) 105 6 n (BS DF) :: .row (.slice (some ⟨g,0,none⟩) n2 c2) 3 1 n2 ((keys (D9 os)).map (Value.int .i64)) :: .blk qM 147 [.map (some b1),.map (some b2)]::Ef b1 (Bo Value.bool sd)::Ef b2 (Bo IP os)::(DF.map Dy++Ei (pre++post))) (Iq o) List.perm_append_comm vO (fun r:RO=>Dy r::Iq o) _ (fun w hw=>cK o i kk (by omega) uI w hw) ?_
  intro r hr
  unfold Iq vO
  refine AR ?_
  intro bE PE Rj
  refine Bj 4 KL rfl (fun w hw=>Bp (size:=6) (.head _) rfl hw) rfl (by omega) (by omega) ?_
  intro A1 c1 hl1 hr1
  refine AR ?_
  refine k1 _ _ ?_
  refine Cq (.row (.slice A1 (n+1) c1) 105 6 (n+1) (BS (DF++[r])) :: .row (.slice (some ⟨g,0,none⟩) n2 c2) 3 1 n2 ((keys (D9 os)).map (Value.int .i64)) :: .blk qM 147 [.map (some b1),.map (some b2)]::Ef b1 (Bo Value.bool sd)::Ef b2 (Bo IP os)::((DF++[r]).map Dy++Ei os)) (fun w hw=>?_) ?_
  ·have h1:=hw.sub (.cons_cons _ (.cons _ (List.Sublist.refl _)))
   rw [ND]
   refine h1.perm (.cons _ ?_)
   have h2:=LK pre post kk o
   rw [<-U8] at h2
   have h3:=List.Perm.append_left [.row (.slice (some ⟨g,0,none⟩) n2 c2) 3 1 n2 ((keys (D9 os)).map (Value.int .i64)),.blk qM 147 [.map (some b1),.map (some b2)],Ef b1 (Bo Value.bool sd),Ef b2 (Bo IP os)] (List.Perm.append_left (DF.map Dy++[Dy r]) h2.symm)
   rw [List.map_append]
   exact h3.trans jm
  refine AF rfl ?_
  refine AR ?_
  refine ⟨⟨j+1,A1,n+1,c1,DF++[r], ?_⟩, ?_⟩
  ·refine Ap @Int.natCast_add ?_
   refine ⟨by omega, ?_⟩
   rw [List.map_append,J4,List.take_add_one,hp]
   simp [hr]
  ·simp only [intOf];omega
 refine BM (k0 _ _ ?_)
 have hjn:j=n2:=by have:=of_decide_eq_false ‹decide ((j:Int)<(n2:Int))=false›;omega
 subst hjn
 rw [List.take_of_length_le (by omega)] at J4
 refine BH ?_
 refine AP (Br fun w hw=>?_)
 refine ⟨⟨A,n,c,DF,0⟩,rfl,⟨?_, ?_⟩, ?_⟩
 ·rw [hrun]
  show DF.map RO.pl=(D9 (Bo Fs.o os)).map fun q=>Uo q.2
  rw [J4,jo]
  simp [Bo]
 ·rw [hrun]
  rfl
 ·refine hw.sub (.cons_cons _ (.cons _ (.cons _ (.cons _ (.cons _ (List.sublist_append_left _ _))))))
theorem Bu (b:Bw):(V7 b).length=4:=rfl
theorem Sl.cell1 {w:World} {B b off:Nat} {v:Value} (hc:w.cell? ⟨b,off,none⟩=some v) (hb:b<B):Sl w B 1 (some ⟨b,off,none⟩) 1 1 [v] :=
 ⟨rfl,Nat.le_refl _,by omega,fun _=>⟨b,off,rfl,hb,fun i u hi=>by
  cases i with
  | zero =>
   have:v=u:=by simpa using hi
   subst this
   exact hc
  | succ i=>simp at hi⟩⟩
structure JJ (w:World) (B b off:Nat) (A:Option Addr) (n c:Nat) (l:List Bw):Prop where
 cell:Sl w B 1 (some ⟨b,off,none⟩) 1 1 [.slice A n c]
 row:Sl w B 4 A n c (Au l)
 max:n<=100000
theorem JJ.at {W w:World} {L:List Ai} {b off:Nat} {A:Option Addr} {n c:Nat} {l:List Bw} (h:JJ W W.heap.size b off A n c l) (hw:St [] W L w):JJ w w.heap.size b off A n c l:=⟨h.cell.at hw,h.row.at hw,h.max⟩
theorem JJ.len {w:World} {B b off:Nat} {A:Option Addr} {n c:Nat} {l:List Bw} (h:JJ w B b off A n c l):l.length=n:=by have:=h.row.len;rw [BV] at this;omega
theorem JJ.lt {w:World} {B b off:Nat} {A:Option Addr} {n c:Nat} {l:List Bw} (h:JJ w B b off A n c l):b<B:=by
 obtain ⟨b',off',e,hb, -⟩:=h.cell.cells (by omega)
 cases e
 exact hb
def Fa (l:List Bw) (ob:Int):List Bw:=l.filter fun b=>decide (b.ob=ob)
def ED (l:List Bw) (ho:Int):Nat:=(l.filter fun b=>decide (b.ho=ho)).length
def Xp (ob ho:Int) (b:Bw):Bool:=decide (b.ob=ob)&&decide (b.ho=ho)
def Ev (l:List Bw) (ob ho:Int):List Bw:=l.filter fun b => !Xp ob ho b
def holdB (l:List Bw) (ob ho:Int):Option Bw:=l.find? (Xp ob ho)
def U5 (b:Bw):Value:=.agg #[.int .i64 b.ob,.int .i64 b.ho,.int .i64 b.mo,.int .i64 b.co]
theorem Co {α:Type} {f:α->List Value} {s:Nat} (hf:∀a,(f a).length=s) {l:List α} {i k:Nat} {a:α} (h:l[i]? = some a) (hk:k<s):(l.flatMap f)[i*s+k]? = (f a)[k]? := by
 have h1:=congrArg (fun x:List Value=>x[k]?) (FB hf h)
 simp only [List.getElem?_take,List.getElem?_drop,hk,if_true] at h1
 exact h1
theorem ET {α:Type} {l:List α} {i:Nat} {a:α} (h:l[i]? = some a) (p:α->Bool):(l.take (i+1)).filter p=(l.take i).filter p++(if p a=true then [a] else []):=by
 rw [List.take_add_one,h,List.filter_append]
 simp [List.filter_cons]
theorem Bb:type_of% (And.intro (And.intro @Nat.mul_one @Ae) (And.intro @G_ @cM)):=(And.intro (And.intro @Nat.mul_one @Ae) (And.intro @G_ @cM))
theorem Jv {W:World} {b off:Nat} {A:Option Addr} {n c:Nat} {l:List Bw} (h:JJ W W.heap.size b off A n c l) (ob:Int) :
  Calls Tryz.prog 117 #[.pointer (some ⟨b,off,none⟩),.int .i64 ob] W (rowP 163 4 (fun v=>v) (Au (Fa l ob)) W):=by
 have hlen:=h.len
 have hmax:=h.max
 refine Ab (M:=[]) Tryz.func117 [.tmp 4] (St.nil _ _) ?_
 have zs:=Bd.mk Bb
 refine Aq ?_
 refine Aq ?_
 refine AB fun K k0=>?_
 refine Aq ?_
 refine AV [0,1,5,6] fun G1 g1=>?_
 replace g1:=Bi g1
 refine D5 163 4 ?_
 refine Ad ?_
 refine BP (fun F' L' => ∃(i:Nat) (A1:Option Addr) (n1 c1:Nat),Az F' G1 [0,1]/\F' 5 = .slice A1 n1 c1/\F' 6 = .int .i64 (i:Int)/\L'=[.row (.slice A1 n1 c1) 163 4 n1 (Au (Fa (l.take i) ob))]/\i<=n) (fun F' L'=>200000-(intOf (F' 6)).toNat) ?_ ?_
 ·refine ⟨0,none,0,0, ?_⟩
  have zg:=Bd.mk g1
  refine AR ?_
  exact ⟨rfl,Nat.zero_le _⟩
 intro G2 L' hI
 obtain ⟨i,A1,n1,c1,zq,KO,Jq,rfl,hi⟩:=hI
 have zg:=Bd.mk g1
 have g2:=And.intro (Bg zq) (And.intro KO Jq)
 refine AB fun K k1=>?_
 refine AQ rfl fun K k2=>?_
 replace zg:=Bd.mk (And.intro g1 g2)
 refine AR ?_
 refine Aj (h.cell.ld1 (m:=1) (i:=0) (by kernel_rfl) rfl) ?_
 refine AR ?_
 refine k2 _ _ ?_
 refine Dl (fun hc=>?_) fun hc=>?_
 ·refine AO ?_
  try simp only [BJ,BX]
  have hit:i<n:=by have:=of_decide_eq_true ‹decide ((i:Int)<(n:Int))=true›;omega
  obtain ⟨e,he⟩:∃e,l[i]? = some e:=⟨_,List.getElem?_eq_getElem (by omega)⟩
  have hld:=FB Bu he
  have hfs:=ET he (fun b=>decide (b.ob=ob))
  have hrow:=h.row
  obtain ⟨bA,oA,rfl,KD, -⟩:=hrow.cells (by omega)
  refine k1 _ _ ?_
  refine EX 0 rfl fun hlA=>?_
  have hn1:n1<=100000:=by
   rw [BV] at hlA
   have h1:(Fa (l.take i) ob).length<=(l.take i).length:=List.length_filter_le _ _
   rw [List.length_take] at h1
   omega
  refine AB fun K k1=>?_
  refine Ad ?_
  refine AQ rfl fun K k2=>?_
  refine AR ?_
  refine Aj (h.cell.ld1 (m:=1) (i:=0) (by kernel_rfl) rfl) ?_
  refine AR ?_
  refine Aj (hrow.ld1 (m:=1) (i:=i*4+0) (by kernel_rfl) (Co Bu he (by omega))) ?_
  refine AR ?_
  refine k2 _ _ ?_
  refine AL ?_
  by_cases he1:e.ob=ob
  ·have hof:Fa (l.take (i+1)) ob=Fa (l.take i) ob++[e]:=by unfold Fa;rw [hfs];simp [he1]
   refine Ap he1 ?_
   refine BG [0] (by decide) ?_
   refine AU rfl ?_
   refine AR ?_
   refine Aj (h.cell.ld1 (m:=1) (i:=0) (by kernel_rfl) rfl) ?_
   refine AR ?_
   refine Aj (hrow.ld (i:=i*4) (vs:=V7 e) (by omega) (by kernel_rfl) hld) ?_
   refine AR ?_
   simp only [V7,List.length_cons,List.length_nil,true_and]
   refine AR ?_
   intro bE PE
   refine Bj 1 Ld rfl (fun w hw=>Bp (size:=4) (.head _) rfl hw) rfl (by omega) (by omega) ?_
   intro A2 c2 hl2 hr2
   refine AR ?_
   refine k1 _ _ ?_
   refine AF rfl ?_
   refine AR ?_
   refine ⟨⟨i+1,A2,n1+1,c2, ?_⟩, ?_⟩
   ·rw [hof,Dt]
    refine Ap @Int.natCast_add ?_
    omega
   ·simp only [intOf];omega
  ·have hof:Fa (l.take (i+1)) ob=Fa (l.take i) ob:=by unfold Fa;rw [hfs];simp [he1]
   refine Ap he1 ?_
   refine AO (k1 _ _ ?_)
   refine AF rfl ?_
   refine AR ?_
   refine ⟨⟨i+1,A1,n1,c1, ?_⟩, ?_⟩
   ·rw [hof]
    refine Ap @Int.natCast_add ?_
    omega
   ·simp only [intOf];omega
 refine BM (k0 _ _ ?_)
 have hin:i=n:=by have:=of_decide_eq_false ‹decide ((i:Int)<(n:Int))=false›;omega
 subst hin
 rw [List.take_of_length_le (by omega)]
 refine BH ?_
 refine AP (Br fun w hw=>?_)
 exact ⟨A1,n1,c1,rfl,Ic (hw.holds _ (.head _)) (hw.own _ (.head _)),hw.below⟩
theorem EF {W:World} {b off:Nat} {A:Option Addr} {n c:Nat} {l:List Bw} (h:JJ W W.heap.size b off A n c l) (ob ho:Int) :
  Calls Tryz.prog 122 #[.pointer (some ⟨b,off,none⟩),.int .i64 ob,.int .i64 ho] W (rowP 163 4 (fun v=>v) (Au (Ev l ob ho)) W):=by
 have hlen:=h.len
 have hmax:=h.max
 refine Ab (M:=[]) Tryz.func122 [.tmp 6] (St.nil _ _) ?_
 have zs:=Bd.mk Bb
 refine Aq ?_
 refine Aq ?_
 refine AB fun K k0=>?_
 refine Aq ?_
 refine AV [0,1,2,7,8] fun G3 g3=>?_
 replace g3:=Bi g3
 refine D5 163 4 ?_
 refine Ad ?_
 refine BP (fun F' L' => ∃(i:Nat) (A1:Option Addr) (n1 c1:Nat),Az F' G3 [0,1,2]/\F' 7 = .slice A1 n1 c1/\F' 8 = .int .i64 (i:Int)/\L'=[.row (.slice A1 n1 c1) 163 4 n1 (Au (Ev (l.take i) ob ho))]/\i<=n) (fun F' L'=>200000-(intOf (F' 8)).toNat) ?_ ?_
 ·refine ⟨0,none,0,0, ?_⟩
  have zg:=Bd.mk g3
  refine AR ?_
  exact ⟨rfl,Nat.zero_le _⟩
 intro G4 L' hI
 obtain ⟨i,A1,n1,c1,zq,Lv,QU,rfl,hi⟩:=hI
 have zg:=Bd.mk g3
 have g4:=And.intro (Bg zq) (And.intro Lv QU)
 refine AB fun K k1=>?_
 refine AQ rfl fun K k2=>?_
 replace zg:=Bd.mk (And.intro g3 g4)
 refine AR ?_
 refine Aj (h.cell.ld1 (m:=1) (i:=0) (by kernel_rfl) rfl) ?_
 refine AR ?_
 refine k2 _ _ ?_
 refine Dl (fun hc=>?_) fun hc=>?_
 ·refine AO ?_
  try simp only [BJ,BX]
  have hit:i<n:=by have:=of_decide_eq_true ‹decide ((i:Int)<(n:Int))=true›;omega
  obtain ⟨e,he⟩:∃e,l[i]? = some e:=⟨_,List.getElem?_eq_getElem (by omega)⟩
  have hld:=FB Bu he
  have hfs:=ET he (fun b => !Xp ob ho b)
  have hrow:=h.row
  obtain ⟨bA,oA,rfl,KD, -⟩:=hrow.cells (by omega)
  refine k1 _ _ ?_
  refine EX 0 rfl fun hlA=>?_
  have hn1:n1<=100000:=by
   rw [BV] at hlA
   have h1:(Ev (l.take i) ob ho).length<=(l.take i).length:=List.length_filter_le _ _
   rw [List.length_take] at h1
   omega
  refine AB fun K k1=>?_
  refine Ad ?_
  refine AB fun K k2=>?_
  refine A9 (fun _ _=>True) (fun F' L'=>Az F' G4 [0,1,2,7,8]/\F' 39 = .bool (!Xp ob ho e)/\L'=[.row (.slice A1 n1 c1) 163 4 n1 (Au (Ev (l.take i) ob ho))]) ?_ ?_
  ·refine AF rfl ?_
   refine AR ?_
   refine Aj (h.cell.ld1 (m:=1) (i:=0) (by kernel_rfl) rfl) ?_
   refine AR ?_
   refine Aj (hrow.ld1 (m:=1) (i:=i*4+0) (by kernel_rfl) (Co Bu he (by omega))) ?_
   refine AR ?_
   by_cases e1:e.ob=ob
   ·refine Ap e1 ?_
    refine Aj (h.cell.ld1 (m:=1) (i:=0) (by kernel_rfl) rfl) ?_
    refine AR ?_
    refine Aj (hrow.ld1 (m:=1) (i:=i*4+1) (by kernel_rfl) (Co Bu he (by omega))) ?_
    refine AR ?_
    unfold Xp
    simp [e1]
   ·refine Ap e1 ?_
    unfold Xp
    simp [e1]
  intro G5 L' _ hF
  obtain ⟨zq,uM,rfl⟩:=hF
  have g5:=And.intro (Bg zq) uM
  refine k2 _ _ ?_
  refine AL ?_
  cases hb:Xp ob ho e with
  | false =>
   have hof:Ev (l.take (i+1)) ob ho=Ev (l.take i) ob ho++[e]:=by unfold Ev;rw [hfs];simp [hb]
   replace zg:=Bd.mk (And.intro g3 (And.intro g4 g5))
   refine Ap hb ?_
   refine BG [0] (by decide) ?_
   refine AU rfl ?_
   refine AR ?_
   refine Aj (h.cell.ld1 (m:=1) (i:=0) (by kernel_rfl) rfl) ?_
   refine AR ?_
   refine Aj (hrow.ld (i:=i*4) (vs:=V7 e) (by omega) (by kernel_rfl) hld) ?_
   refine AR ?_
   simp only [V7,List.length_cons,List.length_nil,true_and]
   refine AR ?_
   intro bE PE
   refine Bj 1 Ld rfl (fun w hw=>Bp (size:=4) (.head _) rfl hw) rfl (by omega) (by omega) ?_
   intro A2 c2 hl2 hr2
   refine AR ?_
   refine k1 _ _ ?_
   refine AF rfl ?_
   refine AR ?_
   refine ⟨⟨i+1,A2,n1+1,c2, ?_⟩, ?_⟩
   ·rw [hof,Dt]
    refine Ap @Int.natCast_add ?_
    omega
   ·simp only [intOf];omega
  | true =>
   have hof:Ev (l.take (i+1)) ob ho=Ev (l.take i) ob ho:=by unfold Ev;rw [hfs];simp [hb]
   replace zg:=Bd.mk (And.intro g3 (And.intro g4 g5))
   refine Ap hb ?_
   refine AO (k1 _ _ ?_)
   refine AF rfl ?_
   refine AR ?_
   refine ⟨⟨i+1,A1,n1,c1, ?_⟩, ?_⟩
   ·rw [hof]
    refine Ap @Int.natCast_add ?_
    omega
   ·simp only [intOf];omega
 refine BM (k0 _ _ ?_)
 have hin:i=n:=by have:=of_decide_eq_false ‹decide ((i:Int)<(n:Int))=false›;omega
 subst hin
 rw [List.take_of_length_le (by omega)]
 refine BH ?_
 refine AP (Br fun w hw=>?_)
 exact ⟨A1,n1,c1,rfl,Ic (hw.holds _ (.head _)) (hw.own _ (.head _)),hw.below⟩
theorem Nf {W:World} {b off:Nat} {A:Option Addr} {n c:Nat} {l:List Bw} (h:JJ W W.heap.size b off A n c l) (ho:Int) :
  Calls Tryz.prog 74 #[.pointer (some ⟨b,off,none⟩),.int .i64 ho] W fun e w'=>e = .returned (.int .i64 (ED l ho:Int))/\Below W.heap.size W w':=by
 have hlen:=h.len
 have hmax:=h.max
 refine Ab (M:=[]) Tryz.func74 [.tmp 4] (St.nil _ _) ?_
 have zs:=Bd.mk Bb
 refine Aq ?_
 refine Aq ?_
 refine AB fun K k0=>?_
 refine Aq ?_
 refine AV [0,1,5,6] fun G6 g6=>?_
 replace g6:=Bi g6
 refine Ad ?_
 refine BP (fun F' L' => ∃(i:Nat),Az F' G6 [0,1]/\F' 5 = .int .i64 (ED (l.take i) ho:Int)/\F' 6 = .int .i64 (i:Int)/\L'=[]/\i<=n) (fun F' L'=>200000-(intOf (F' 6)).toNat) ?_ ?_
 ·refine ⟨0, ?_⟩
  have zg:=Bd.mk g6
  refine AR ?_
  exact ⟨rfl,Nat.zero_le _⟩
 intro G7 L' hI
 obtain ⟨i,zq,KO,Jq,rfl,hi⟩:=hI
 have zg:=Bd.mk g6
 have g7:=And.intro (Bg zq) (And.intro KO Jq)
 refine AB fun K k1=>?_
 refine AQ rfl fun K k2=>?_
 replace zg:=Bd.mk (And.intro g6 g7)
 refine AR ?_
 refine Aj (h.cell.ld1 (m:=1) (i:=0) (by kernel_rfl) rfl) ?_
 refine AR ?_
 refine k2 _ _ ?_
 refine Dl (fun hc=>?_) fun hc=>?_
 ·refine AO ?_
  try simp only [BJ,BX]
  have hit:i<n:=by have:=of_decide_eq_true ‹decide ((i:Int)<(n:Int))=true›;omega
  obtain ⟨e,he⟩:∃e,l[i]? = some e:=⟨_,List.getElem?_eq_getElem (by omega)⟩
  have hfs:=ET he (fun b=>decide (b.ho=ho))
  have hrow:=h.row
  obtain ⟨bA,oA,rfl,KD, -⟩:=hrow.cells (by omega)
  have hn1:ED (l.take i) ho<=100000:=by
   have h1:ED (l.take i) ho<=(l.take i).length:=List.length_filter_le _ _
   rw [List.length_take] at h1
   omega
  refine k1 _ _ ?_
  refine AB fun K k1=>?_
  refine Ad ?_
  refine AQ rfl fun K k2=>?_
  refine AR ?_
  refine Aj (h.cell.ld1 (m:=1) (i:=0) (by kernel_rfl) rfl) ?_
  refine AR ?_
  refine Aj (hrow.ld1 (m:=1) (i:=i*4+1) (by kernel_rfl) (Co Bu he (by omega))) ?_
  refine AR ?_
  refine k2 _ _ ?_
  refine AL ?_
  by_cases he1:e.ho=ho
  ·have hof:ED (l.take (i+1)) ho=ED (l.take i) ho+1:=by unfold ED;rw [hfs];simp [he1]
   refine Ap he1 ?_
   refine AU rfl ?_
   refine AR ?_
   refine k1 _ _ ?_
   refine AF rfl ?_
   refine AR ?_
   refine ⟨⟨i+1, ?_⟩, ?_⟩
   ·rw [hof]
    refine Ap @Int.natCast_add ?_
    omega
   ·simp only [intOf];omega
  ·have hof:ED (l.take (i+1)) ho=ED (l.take i) ho:=by unfold ED;rw [hfs];simp [he1]
   refine Ap he1 ?_
   refine AO (k1 _ _ ?_)
   refine AF rfl ?_
   refine AR ?_
   refine ⟨⟨i+1, ?_⟩, ?_⟩
   ·rw [hof]
    refine Ap @Int.natCast_add ?_
    omega
   ·simp only [intOf];omega
 refine BM (k0 _ _ ?_)
 have hin:i=n:=by have:=of_decide_eq_false ‹decide ((i:Int)<(n:Int))=false›;omega
 subst hin
 have hl:ED (l.take i) ho=ED l ho:=by rw [List.take_of_length_le (by omega)]
 refine FP hl ?_
 refine AP (Br fun w hw=>?_)
 exact ⟨rfl,hw.below⟩
def Mw:Bw:=⟨0,0,0,0⟩
def Ij (l:List Bw) (ob ho:Int):Value:=.tuple #[U5 ((holdB l ob ho).getD Mw),.bool (holdB l ob ho).isSome]
theorem cZ {l:List Bw} {p:Bw->Bool} {i:Nat} {e:Bw} (he:l[i]? = some e) (hp:(l.take i).find? p=none) (h:p e=true):l.find? p=some e:=by
 have h1:l=l.take i++e::l.drop (i+1):=by
  conv=>lhs;rw [<-List.take_append_drop i l]
  congr 1
  rw [List.drop_eq_getElem_cons (List.getElem?_eq_some_iff.1 he).1]
  congr 1
  have:=(List.getElem?_eq_some_iff.1 he).2
  exact this
 rw [h1,List.find?_append,hp]
 simp [h]
theorem cu {l:List Bw} {p:Bw->Bool} {i:Nat} {e:Bw} (he:l[i]? = some e) (hp:(l.take i).find? p=none) (h:p e=false):(l.take (i+1)).find? p=none:=by
 rw [List.take_add_one,he,List.find?_append,hp]
 simp [h]
theorem EZ {W:World} {b off:Nat} {A:Option Addr} {n c:Nat} {l:List Bw} (h:JJ W W.heap.size b off A n c l) (ob ho:Int) :
  Calls Tryz.prog 102 #[.pointer (some ⟨b,off,none⟩),.int .i64 ob,.int .i64 ho] W fun e w'=>e = .returned (Ij l ob ho)/\Below W.heap.size W w':=by
 have hlen:=h.len
 have hmax:=h.max
 have hbW:b<W.heap.size:=h.lt
 refine DY (M:=[]) (n:=48) [.cell 6 163,.tmp 7] rfl Tryz.func102 rfl rfl (Nat.le_of_ble_eq_true rfl) (St.nil _ _) ?_
 refine AQ rfl fun K k0=>?_
 have zs:=Bd.mk Bb
 refine Ah ?_
 intro b6 hb6
 refine k0 _ _ ?_
 refine AB fun K k0=>?_
 refine Aq ?_
 refine AV [0,1,2,6,8] fun G8 g8=>?_
 replace g8:=Bi g8
 refine Ad ?_
 refine BP (fun F' L' => ∃(i:Nat),Az F' G8 [0,1,2,6]/\F' 8 = .int .i64 (i:Int)/\L'=[.blk b6 163 [.int .i64 0,.int .i64 0,.int .i64 0,.int .i64 0]]/\i<=n/\(l.take i).find? (Xp ob ho)=none) (fun F' L'=>200000-(intOf (F' 8)).toNat) ?_ ?_
 ·refine ⟨0, ?_⟩
  have zg:=Bd.mk g8
  refine AR ?_
  exact ⟨Nat.zero_le _,rfl⟩
 intro G9 L' hI
 obtain ⟨i,zq,QU,rfl,⟨hi,hfn⟩⟩:=hI
 have zg:=Bd.mk g8
 have g9:=And.intro (Bg zq) QU
 refine AB fun K k1=>?_
 refine AQ rfl fun K k2=>?_
 replace zg:=Bd.mk (And.intro g8 g9)
 refine AR ?_
 refine Aj (h.cell.ld1 (m:=1) (i:=0) (by kernel_rfl) rfl) ?_
 refine AR ?_
 refine k2 _ _ ?_
 refine Dl (fun hc=>?_) fun hc=>?_
 ·refine AO ?_
  try simp only [BJ,BX]
  have hit:i<n:=by have:=of_decide_eq_true ‹decide ((i:Int)<(n:Int))=true›;omega
  obtain ⟨e,he⟩:∃e,l[i]? = some e:=⟨_,List.getElem?_eq_getElem (by omega)⟩
  have hld:=FB Bu he
  have hrow:=h.row
  obtain ⟨bA,oA,rfl,KD, -⟩:=hrow.cells (by omega)
  refine k1 _ _ ?_
  refine AB fun K k1=>?_
  refine Ad ?_
  refine AB fun K k2=>?_
  refine A9 (fun _ _=>True) (fun F' L'=>Az F' G9 [0,1,2,6,8]/\F' 39 = .bool (Xp ob ho e)/\L'=[.blk b6 163 [.int .i64 0,.int .i64 0,.int .i64 0,.int .i64 0]]) ?_ ?_
  ·refine AF rfl ?_
   refine AR ?_
   refine Aj (h.cell.ld1 (m:=1) (i:=0) (by kernel_rfl) rfl) ?_
   refine AR ?_
   refine Aj (hrow.ld1 (m:=1) (i:=i*4+0) (by kernel_rfl) (Co Bu he (by omega))) ?_
   refine AR ?_
   by_cases e1:e.ob=ob
   ·refine Ap e1 ?_
    refine Aj (h.cell.ld1 (m:=1) (i:=0) (by kernel_rfl) rfl) ?_
    refine AR ?_
    refine Aj (hrow.ld1 (m:=1) (i:=i*4+1) (by kernel_rfl) (Co Bu he (by omega))) ?_
    refine AR ?_
    unfold Xp
    simp [e1]
   ·refine Ap e1 ?_
    unfold Xp
    simp [e1]
  intro pW L' _ hF
  obtain ⟨zq,uM,rfl⟩:=hF
  have g10:=And.intro (Bg zq) uM
  refine k2 _ _ ?_
  refine AL ?_
  cases hb:Xp ob ho e with
  | true =>
   replace zg:=Bd.mk (And.intro g8 (And.intro g9 g10))
   refine Ap hb ?_
   refine AQ rfl fun K k2=>?_
   refine AR ?_
   refine Aj (h.cell.ld1 (m:=1) (i:=0) (by kernel_rfl) rfl) ?_
   refine AR ?_
   refine Aj (hrow.ld (i:=i*4) (vs:=V7 e) (by omega) (by kernel_rfl) hld) ?_
   refine AR ?_
   simp only [V7]
   refine AR ?_
   refine k2 _ _ ?_
   refine AP ?_
   simp -implicitDefEqProofs (disch:=first|omega|decide) only [seval, -Int.reducePow, -Nat.reducePow,cC,pv,Ao,Az,undef,Bb,Dx,Cx,Cw,g8,g9,g10]
   intro w hw
   have Tk:holdB l ob ho=some e:=cZ he hfn hb
   exact ⟨by unfold Ij;rw [Tk];rfl,hw.below⟩
  | false =>
   replace zg:=Bd.mk (And.intro g8 (And.intro g9 g10))
   refine Ap hb ?_
   refine AO (k1 _ _ ?_)
   refine AF rfl ?_
   refine AR ?_
   refine ⟨⟨i+1, ?_⟩, ?_⟩
   ·refine Ap @Int.natCast_add ?_
    exact ⟨by omega,cu he hfn hb⟩
   ·simp only [intOf];omega
 refine BM (k0 _ _ ?_)
 have hin:i=n:=by have:=of_decide_eq_false ‹decide ((i:Int)<(n:Int))=false›;omega
 subst hin
 rw [List.take_of_length_le (by omega)] at hfn
 refine BH ?_
 refine AP ?_
 simp -implicitDefEqProofs (disch:=first|omega|decide) only [seval, -Int.reducePow, -Nat.reducePow,cC,pv,Ao,Az,undef,Bb,Dx,Cx,Cw,g8,g9]
 intro w hw
 have Tk:holdB l ob ho=none:=hfn
 exact ⟨by unfold Ij;rw [Tk];rfl,hw.below⟩
theorem qN (op:BinOp) (a b:Int):0<=bits op .u64 a b/\bits op .u64 a b<18446744073709551616:=by
 unfold bits
 dsimp only
 rw [IntKind.wrap_u64]
 omega
theorem Zl:type_of% (And.intro (And.intro (And.intro @tape.eq_1 @C_.eq_1) (And.intro @Nat.mul_one (And.intro @IntKind.bits.eq_1 @IntKind.bits.eq_2))) (And.intro (And.intro @IntKind.bits.eq_3 (And.intro @IntKind.bits.eq_4 @IntKind.bits.eq_5)) (And.intro @IntKind.bits.eq_6 (And.intro @IntKind.bits.eq_7 @IntKind.bits.eq_8)))):=(And.intro (And.intro (And.intro @tape.eq_1 @C_.eq_1) (And.intro @Nat.mul_one (And.intro @IntKind.bits.eq_1 @IntKind.bits.eq_2))) (And.intro (And.intro @IntKind.bits.eq_3 (And.intro @IntKind.bits.eq_4 @IntKind.bits.eq_5)) (And.intro @IntKind.bits.eq_6 (And.intro @IntKind.bits.eq_7 @IntKind.bits.eq_8))))
theorem bC (b:Nat) (A:Option Addr) (n c:Nat) (l:List Nat) (i first:Nat) (W:World) (hW:W.heap[b]? = some (.cells (tape A n c i).toArray 74 (0,0))) (hE:Sl W W.heap.size 1 A n c (Dn l)) (ha:0<n->U4 A [b]) (hl:∀x∈l,x<65536) (hi:i<=900000) :
  Calls Tryz.prog 17 #[.pointer (some ⟨b,0,none⟩),.int .u32 (first:Int)] W (fun e w' => ∃p:Nat×Nat,e = .returned (.int .u64 (p.1:Int))/\(p.1<18446744073709551616/\p.2<=i+10)/\w'.heap[b]? = some (.cells (tape A n c p.2).toArray 74 (0,0))/\Gf [b] W w'):=by
 have hn8:=CP (l:=l) (i:=i+1) (m:=8) (by omega)
 have AK3:=CP (l:=l) (i:=i+1+1+1+1+1) (m:=64) (by omega)
 have e64:IntKind.u64.wrap ((Ar l (i+1+1+1+1+1) 64:Nat):Int)=((Ar l (i+1+1+1+1+1) 64:Nat):Int):=u64_in (by omega)
 have hn3:=CP (l:=l) (i:=i+1+1) (m:=3) (by omega)
 have e1:IntKind.i64.wrap (1+((Ar l (i+1+1) 3:Nat):Int))=((1+Ar l (i+1+1) 3:Nat):Int):=by rw [Ae (by omega) (by omega)];omega
 have e2:IntKind.u64.wrap ((1+Ar l (i+1+1) 3:Nat):Int)=((1+Ar l (i+1+1) 3:Nat):Int):=u64_in (by omega)
 obtain ⟨U,hU⟩:∃U,IntKind.u64.wrap (((1+Ar l (i+1+1) 3:Nat):Int)*2 ^ 56)=U:=⟨_,rfl⟩
 refine Ab (M:=[b]) Tryz.func17 [.tmp 4]  (St.one hW) ?_
 have zs:=Bd.mk Zl
 refine Aq ?_
 refine AQ rfl fun K k0=>?_
 refine Ah ?_
 refine BB 0 (fun w hw=>BK b A n c l i 3 w (hw.hold 0 rfl) (hE.H7 hw ha) ha hl (by omega) (by omega)) rfl ?_
 try refine Ah ?_
 refine BB 0 (fun w hw=>BK b A n c l (i+1) 8 w (hw.hold 0 rfl) (hE.H7 hw ha) ha hl (by omega) (by omega)) rfl ?_
 try refine Ah ?_
 refine k0 _ _ ?_
 refine NY fun G1 hG=>?_
 have Kl:=congrFun hG 0
 have Lb:=congrFun hG 5
 clear hG
 try simp -implicitDefEqProofs (disch:=first|omega|decide) only [seval, -Int.reducePow, -Nat.reducePow,cC,pv,Ao,Az,undef,Zl] at Kl Lb
 have g1:=And.intro Kl Lb
 obtain ⟨V5,Lb⟩:∃V:Int,G1 5 = .int .u64 V:=⟨_,Lb⟩
 have g1:=And.intro Kl Lb
 rename_i uN
 clear uN
 have g1:=And.intro Kl Lb
 obtain ⟨B,hB⟩:∃B,bits .and .u64 V5 4294967295=B:=⟨_,rfl⟩
 obtain ⟨C,hC⟩:∃C,IntKind.u64.wrap (B*2 ^ 24)=C:=⟨_,rfl⟩
 refine AQ rfl fun K k0=>?_
 have zg:=Bd.mk g1
 refine AR ?_
 refine BB 0 (fun w hw=>BK b A n c l (i+1+1) 3 w (hw.hold 0 rfl) (hE.H7 hw ha) ha hl (by omega) (by omega)) rfl ?_
 try refine Ap (And.intro e1 (And.intro e2 (And.intro hU (And.intro hB hC)))) ?_
 refine BB 0 (fun w hw=>BK b A n c l (i+1+1+1) 6 w (hw.hold 0 rfl) (hE.H7 hw ha) ha hl (by omega) (by omega)) rfl ?_
 try refine Ap (And.intro e1 (And.intro e2 (And.intro hU (And.intro hB hC)))) ?_
 refine k0 _ _ ?_
 refine NY fun G2 hG=>?_
 have Oz:=congrFun hG 0
 have jq:=congrFun hG 6
 clear hG
 try simp -implicitDefEqProofs (disch:=first|omega|decide) only [seval, -Int.reducePow, -Nat.reducePow,cC,pv,Ao,Az,undef,Zl,g1] at Oz jq
 have g2:=And.intro Oz jq
 obtain ⟨V0,hV0,jq⟩:∃V:Int,(0<=V/\V<18446744073709551616)/\G2 6 = .int .u64 V:=by
  refine ⟨_, ?_,jq⟩
  exact qN _ _ _
 rename_i uN
 clear uN
 have g2:=And.intro Oz jq
 refine AB fun K k0=>?_
 refine A9 (fun _ _=>True) (fun F' L' => ∃(V:Int) (j:Nat),F' 6 = .int .u64 V/\L'=[C_ b A n c j]/\0<=V/\V<18446744073709551616/\j<=i+10) ?_ ?_
 ·refine AQ rfl fun K k1=>?_
  replace zg:=Bd.mk g2
  refine AR ?_
  refine BB 0 (fun w hw=>BK b A n c l (i+1+1+1+1) 20 w (hw.hold 0 rfl) (hE.H7 hw ha) ha hl (by omega) (by omega)) rfl ?_
  try refine AR ?_
  refine k1 _ _ ?_
  refine Dl (fun hc=>?_) fun hc=>?_
  ·refine AU rfl ?_
   refine AR ?_
   refine BB 0 (fun w hw=>BK b A n c l (i+1+1+1+1+1) 64 w (hw.hold 0 rfl) (hE.H7 hw ha) ha hl (by omega) (by omega)) rfl ?_
   try refine AR ?_
   refine Ap e64 ?_
   have hx:=qN .xor V0 (IntKind.u64.wrap (1*2 ^ Ar l (i+1+1+1+1+1) 64))
   generalize bits .xor .u64 V0 (IntKind.u64.wrap (1*2 ^ Ar l (i+1+1+1+1+1) 64))=V1 at *
   refine ⟨V1,i+6, ?_⟩
   refine AR ?_
   exact ⟨hx.1,hx.2,by omega⟩
  ·refine AO ?_
   try simp only [BJ,BX]
   try simp only [true_and]
   refine ⟨V0,i+5, ?_⟩
   refine AR ?_
   exact ⟨hV0.1,hV0.2,by omega⟩
 intro G3 L' _ hF
 obtain ⟨V,j,q6,rfl,⟨hV0,hV1,hj⟩⟩:=hF
 have bu:=q6
 clear q6
 have g3:=bu
 refine k0 _ _ ?_
 obtain ⟨y,rfl⟩:=Int.eq_ofNat_of_zero_le hV0
 replace zg:=Bd.mk g3
 refine BH ?_
 refine AP (Br fun w hw=>?_)
 exact ⟨(y,j),rfl,⟨by omega,hj⟩,hw.hold 0 rfl,hw.Bz⟩
theorem XK {W w:World} {b:Nat} (h:Gf [b] W w) (hb:w.heap[b]? = W.heap[b]?):Below W.heap.size W w :=
 ⟨h.os,h.tape,h.output,h.size,fun k hk=>by
  by_cases e:k=b
  ·subst e;exact hb
  ·exact h.block k hk (by simpa using e)⟩
theorem a_ (b:Nat) (A:Option Addr) (n c i:Nat) (W:World) (hW:W.heap[b]? = some (.cells (tape A n c i).toArray 74 (0,0))) :
  Calls Tryz.prog 16 #[.pointer (some ⟨b,0,none⟩)] W (fun e w'=>(∃r:Bool,e = .returned (.bool r)/\True)/\Below W.heap.size W w'):=by
 refine Ab (M:=[b]) Tryz.func16 [.tmp 2]  (St.one hW) ?_
 have zs:=Bd.mk Zl
 refine Aq ?_
 refine AB fun K k0=>?_
 refine BR [(true,0),(true,1),(true,2),(true,3),(true,4),(true,5),(true,6),(true,7),(true,8),(true,9),(true,10)] [] CB rfl (by kernel_rfl) (by kernel_rfl) rfl rfl ?_
 refine Ah ?_
 refine k0 _ _ ?_
 refine AP (Cc fun w hw=>?_)
 have:=XK hw.Bz ((hw.hold 0 rfl).trans hW.symm)
 exact ⟨⟨_,rfl,trivial⟩,this⟩
theorem Wo:type_of% (And.intro @Nat.mul_one @Ae):=(And.intro @Nat.mul_one @Ae)
end Go.Proofs.YtegonkdandmolaaGreat
