import Derived.Test.YtegonkdandmolaaGreatDlays15
import Derived.Test.YtegonkdandmolaaGreatDlays7
set_option linter.unusedVariables false
set_option linter.unusedSimpArgs false
set_option maxRecDepth 100000
set_option maxHeartbeats 4000000
namespace Go.Proofs.YtegonkdandmolaaGreat
open Go.RowKit Go.Shelf
structure TH where
 k:Int
 pl:Int
 ob:Int
 fr:Int
 raw:Nat
 n1:Int
 n2:Int
 n3:Int
 v:Int
 d:Nat
def opc (o:TH):List Value:=[.int .i64 o.k,.int .i64 o.pl,.int .i64 o.ob,.int .i64 o.fr,.int .u64 (o.raw:Int),.int .i64 o.n1,.int .i64 o.n2,.int .i64 o.n3,.int .u64 o.v,.int .u64 (o.d:Int)]
def vK (o:TH):Value:=.agg #[.int .i64 o.k,.int .i64 o.pl,.int .i64 o.ob,.int .i64 o.fr,.int .u64 (o.raw:Int),.int .i64 o.n1,.int .i64 o.n2,.int .i64 o.n3,.int .u64 o.v,.int .u64 (o.d:Int)]
theorem ZV (o:TH):(opc o).length=10:=rfl
def Df (l:List TH):List Value:=l.flatMap opc
structure TH.ok (o:TH):Prop where
 raw:o.raw<18446744073709551616
 ob:0<=o.ob/\o.ob<=4
 fr:0<=o.fr/\o.fr<=4
 n2:o.n2<=11
 d:o.d<18446744073709551616
theorem Ue (l:List TH) (o:TH):Df (l++[o])=Df l++[.int .i64 o.k,.int .i64 o.pl,.int .i64 o.ob,.int .i64 o.fr,.int .u64 (o.raw:Int),.int .i64 o.n1,.int .i64 o.n2,.int .i64 o.n3,.int .u64 o.v,.int .u64 (o.d:Int)]:=by simp [Df,opc]
structure tY where
 A:Option Addr
 n:Nat
 c:Nat
 os:List TH
 j:Nat
def opsV (i:tY):Value:=.slice i.A i.n i.c
def opsL (b:Nat) (TA:Option Addr) (tn tc:Nat) (l:List Nat) (i:tY):List Ai:=[.row (.slice i.A i.n i.c) 41 10 i.n (Df i.os),C_ b TA tn tc i.j,.row (.slice TA tn tc) 118 1 tn (Dn l)]
theorem ACH:IQ Tryz.prog 36=some (41,10,80):=by kernel_rfl
theorem ZW:type_of% (And.intro (And.intro (And.intro @tape.eq_1 (And.intro @C_.eq_1 @Nat.mul_one)) (And.intro @IntKind.bits.eq_1 (And.intro @IntKind.bits.eq_2 @IntKind.bits.eq_3))) (And.intro (And.intro @IntKind.bits.eq_4 (And.intro @IntKind.bits.eq_5 @IntKind.bits.eq_6)) (And.intro (And.intro @IntKind.bits.eq_7 @IntKind.bits.eq_8) (And.intro @G_ @cM)))):=(And.intro (And.intro (And.intro @tape.eq_1 (And.intro @C_.eq_1 @Nat.mul_one)) (And.intro @IntKind.bits.eq_1 (And.intro @IntKind.bits.eq_2 @IntKind.bits.eq_3))) (And.intro (And.intro @IntKind.bits.eq_4 (And.intro @IntKind.bits.eq_5 @IntKind.bits.eq_6)) (And.intro (And.intro @IntKind.bits.eq_7 @IntKind.bits.eq_8) (And.intro @G_ @cM))))
theorem iV (b:Nat) (TA:Option Addr) (tn tc:Nat) (l:List Nat) (first m:Nat) (hl:∀x∈l,x<65536) (hm:3<=m/\m<=1000) (W:World) (hst:St (Ak [C_ b TA tn tc 0,.row (.slice TA tn tc) 118 1 tn (Dn l)]) W [C_ b TA tn tc 0,.row (.slice TA tn tc) 118 1 tn (Dn l)] W) :
  Calls Tryz.prog 8 #[.pointer (some ⟨b,0,none⟩),.int .u32 (first:Int),.int .i64 (m:Int)] W
  fun en w' => ∃i:tY,en = .returned (opsV i)/\((∀o∈i.os,o.ok)/\i.os.length<=m)/\St (Ak [C_ b TA tn tc 0,.row (.slice TA tn tc) 118 1 tn (Dn l)]) W (opsL b TA tn tc l i) w':=by
 obtain ⟨M,hM⟩:∃M,Ak [C_ b TA tn tc 0,.row (.slice TA tn tc) 118 1 tn (Dn l)]=M:=⟨_,rfl⟩
 rw [hM] at hst ⊢
 clear hM
 have L5:=fun i=>CP (l:=l) (i:=i) (m:=5) (by omega)
 have L9:=fun i=>CP (l:=l) (i:=i) (m:=9) (by omega)
 have L8:=fun i=>CP (l:=l) (i:=i) (m:=8) (by omega)
 have vL:=fun i=>CP (l:=l) (i:=i) (m:=12) (by omega)
 have L16:=fun i=>CP (l:=l) (i:=i) (m:=65536) (by omega)
 have AHR:=fun i=>CP (l:=l) (i:=i) (m:=300) (by omega)
 have L3:=fun i=>CP (l:=l) (i:=i) (m:=3) (by omega)
 have L7:=fun i=>CP (l:=l) (i:=i) (m:=7) (by omega)
 have e9:∀i,IntKind.i64.wrap (((Ar l i 9:Nat):Int) / 8)=((Ar l i 9 / 8:Nat):Int):=fun i=>by
  have:=L9 i
  rw [Ae (by omega) (by omega)]
  omega
 have e11:∀i,IntKind.i64.wrap (((Ar l i 12:Nat):Int) / 11)=((Ar l i 12 / 11:Nat):Int):=fun i=>by
  have:=vL i
  rw [Ae (by omega) (by omega)]
  omega
 have e13:∀i,IntKind.i64.wrap (1+((Ar l i 3:Nat):Int))=((1+Ar l i 3:Nat):Int):=fun i=>by
  have:=L3 i
  rw [Ae (by omega) (by omega)]
  omega
 have RU:∀i,IntKind.i64.wrap (9+((Ar l i 3:Nat):Int))=((9+Ar l i 3:Nat):Int):=fun i=>by
  have:=L3 i
  rw [Ae (by omega) (by omega)]
  omega
 have IW:∀i j,IntKind.i64.wrap (((1+Ar l i 3:Nat):Int)+((Ar l j 12 / 11:Nat):Int))=((1+Ar l i 3+Ar l j 12 / 11:Nat):Int):=fun i j=>by
  have:=L3 i
  have:=vL j
  rw [Ae (by omega) (by omega)]
  omega
 have e7:∀i j,IntKind.i64.wrap (((Ar l i 7:Nat):Int)-((Ar l j 9 / 8:Nat):Int))=((Ar l i 7:Nat):Int)-((Ar l j 9 / 8:Nat):Int):=fun i j=>by
  have:=L7 i
  have:=L9 j
  exact Ae (by omega) (by omega)
 have e5:∀i j,IntKind.i64.wrap (((Ar l i 5:Nat):Int)-((Ar l j 9 / 8:Nat):Int))=((Ar l i 5:Nat):Int)-((Ar l j 9 / 8:Nat):Int):=fun i j=>by
  have:=L5 i
  have:=L9 j
  exact Ae (by omega) (by omega)
 have e12:∀i j,IntKind.i64.wrap (((Ar l i 12:Nat):Int)-((Ar l j 9 / 8:Nat):Int))=((Ar l i 12:Nat):Int)-((Ar l j 9 / 8:Nat):Int):=fun i j=>by
  have:=vL i
  have:=L9 j
  exact Ae (by omega) (by omega)
 have e8:∀i,IntKind.i64.wrap (8*((Ar l i 8:Nat):Int))=((8*Ar l i 8:Nat):Int):=fun i=>by
  have:=L8 i
  rw [Ae (by omega) (by omega)]
  omega
 have RV:∀i,IntKind.u64.wrap ((8*Ar l i 8:Nat):Int)=((8*Ar l i 8:Nat):Int):=fun i=>by
  have:=L8 i
  exact u64_in (by omega)
 have e16:∀i,IntKind.u64.wrap ((Ar l i 65536:Nat):Int)=((Ar l i 65536:Nat):Int):=fun i=>by
  have:=L16 i
  exact u64_in (by omega)
 have e300:∀i,IntKind.u64.wrap ((Ar l i 300:Nat):Int)=((Ar l i 300:Nat):Int):=fun i=>by
  have:=AHR i
  exact u64_in (by omega)
 refine Ab (M:=M) Tryz.func8 [.tmp 6]  hst ?_
 have zs:=Bd.mk ZW
 refine Aq ?_
 refine AQ rfl fun K k0=>?_
 refine Ah ?_
 intro b7 Z0 mZ
 refine k0 _ _ ?_
 obtain ⟨os0,hos0⟩:∃os0:List TH,[⟨12,1,0,0,0,0,0,0,0,0⟩,⟨12,2,0,0,0,0,0,0,0,0⟩,⟨12,3,0,0,0,0,0,0,0,0⟩]=os0:=⟨_,rfl⟩
 have AHS:os0.length=3:=by rw [<-hos0];rfl
 have hok0:∀o∈os0,o.ok:=by
  intro o ho
  rw [<-hos0] at ho
  simp only [List.mem_cons,List.not_mem_nil,or_false] at ho
  rcases ho with rfl|rfl|rfl<;>exact ⟨(by decide:0<18446744073709551616),⟨(by decide:(0:Int)<=0),(by decide:(0:Int)<=4)⟩,⟨(by decide:(0:Int)<=0),(by decide:(0:Int)<=4)⟩,(by decide:(0:Int)<=11),(by decide:0<18446744073709551616)⟩
 refine Cq [.row (.slice (some ⟨b7,0,none⟩) 3 3) 41 10 3 (Df os0),C_ b TA tn tc 0,.row (.slice TA tn tc) 118 1 tn (Dn l)] (fun w hw=>by
  rw [<-hos0]
  exact St.Fw (t:=41) (size:=10) (n:=3) hw rfl (by omega)) ?_
 refine AV [0,1,2,7] fun G1 g1=>?_
 replace g1:=Bi g1
 refine AB fun K k0=>?_
 refine Ad ?_
 refine BP (fun F' L' => ∃(A:Option Addr) (n c:Nat) (os:List TH) (j:Nat),Az F' G1 [0,1,2]/\F' 7 = .slice A n c/\L'=[.row (.slice A n c) 41 10 n (Df os),C_ b TA tn tc j,.row (.slice TA tn tc) 118 1 tn (Dn l)]/\(∀o∈os,o.ok)/\n=os.length/\n<=m/\j<=n*60) (fun F' L'=>2000-(match F' 7 with | .slice _ n _=>n|_=>0)) ?_ ?_
 ·refine ⟨some ⟨b7,0,none⟩,3,3,os0,0, ?_⟩
  have zg:=Bd.mk g1
  refine AR ?_
  exact ⟨hok0,AHS.symm,hm.1⟩
 intro G2 L' hI
 obtain ⟨A,n,c,os,j,zq,Lv,rfl,⟨hok,hn,hnm,hj⟩⟩:=hI
 have zg:=Bd.mk g1
 have g2:=And.intro (Bg zq) Lv
 refine AB fun K k1=>?_
 refine AB fun K k2=>?_
 refine A9 (fun _ _=>True) (fun F' L' => ∃(r:Bool),Az F' G2 [0,1,2,7]/\F' 21 = .bool r/\L'=[.row (.slice A n c) 41 10 n (Df os),C_ b TA tn tc j,.row (.slice TA tn tc) 118 1 tn (Dn l)]/\(r=true->n<m)) ?_ ?_
 ·refine AF rfl ?_
  replace zg:=Bd.mk (And.intro g1 g2)
  refine AR ?_
  refine Et (fun r:Bool=>.bool r) (fun _=>True) (fun w hw=>a_ b TA tn tc j w (hw.hold 1 rfl)) ?_
  intro r _
  cases r with
  | false =>
   refine AR ?_
   exact ⟨false,rfl,fun h=>by cases h⟩
  | true =>
   refine AR ?_
   exact ⟨decide ((n:Int)<(m:Int)),rfl,fun h=>by have:=of_decide_eq_true h;omega⟩
 intro G3 L' _ hF
 obtain ⟨r,zq,sK,rfl,hr⟩:=hF
 replace zg:=Bd.mk g2
 have g3:=And.intro (Bg zq) sK
 refine k2 _ _ ?_
 refine AL ?_
 cases r with
 | false =>
  replace zg:=Bd.mk (And.intro g1 (And.intro g2 g3))
  refine AR ?_
  refine BM (k0 _ _ ?_)
  refine BH ?_
  refine AP (Br fun w hw=>?_)
  exact ⟨⟨A,n,c,os,j⟩,rfl,⟨hok,by show os.length<=m;omega⟩,hw⟩
 | true =>
  have hlt:=hr rfl
  replace zg:=Bd.mk (And.intro g1 (And.intro g2 g3))
  refine AR ?_
  refine AO (k1 _ _ ?_)
  refine Ad ?_
  refine AQ rfl fun K k1=>?_
  refine AR ?_
  refine BB 1 (fun w hw=>BK b TA tn tc l (j) 24 w (hw.hold 1 rfl) (Sl.Av hw (AZ (k:=2) rfl)) (fun _=>hw.GK 2 1 rfl rfl (by decide)) hl (by omega) (by omega)) rfl ?_
  try refine AR ?_
  refine k1 _ _ ?_
  refine AV [0,1,2,7,8] fun G4 g4=>?_
  replace g4:=Bg g4
  have L24:=CP (l:=l) (i:=j) (m:=24) (by omega)
  refine AB fun K k1=>?_
  refine A9 (fun _ _=>True) (fun F' L' => ∃(b9:Nat) (o:TH),Az F' G4 [0,1,2,7,8]/\F' 9 = .pointer (some ⟨b9,0,none⟩)/\L'=[.blk b9 41 [.int .i64 o.k,.int .i64 o.pl,.int .i64 o.ob,.int .i64 o.fr,.int .u64 (o.raw:Int),.int .i64 o.n1,.int .i64 o.n2,.int .i64 o.n3,.int .u64 o.v,.int .u64 (o.d:Int)],.row (.slice A n c) 41 10 n (Df os),C_ b TA tn tc (j+7),.row (.slice TA tn tc) 118 1 tn (Dn l)]/\o.ok) ?_ ?_
  ·refine AF rfl ?_
   replace zg:=Bd.mk (And.intro g1 (And.intro g2 g4))
   refine AR ?_
   refine BB 1 (fun w hw=>BK b TA tn tc l (j+1) 3 w (hw.hold 1 rfl) (Sl.Av hw (AZ (k:=2) rfl)) (fun _=>hw.GK 2 1 rfl rfl (by decide)) hl (by omega) (by omega)) rfl ?_
   try refine Ap (And.intro e9 (And.intro e12 (And.intro e8 (And.intro RV (And.intro e16 (And.intro e300 (And.intro e13 (And.intro e7 (And.intro e5 (And.intro e11 (And.intro IW RU))))))))))) ?_
   refine BB 1 (fun w hw=>BK b TA tn tc l (j+1+1) 5 w (hw.hold 1 rfl) (Sl.Av hw (AZ (k:=2) rfl)) (fun _=>hw.GK 2 1 rfl rfl (by decide)) hl (by omega) (by omega)) rfl ?_
   try refine Ap (And.intro e9 (And.intro e12 (And.intro e8 (And.intro RV (And.intro e16 (And.intro e300 (And.intro e13 (And.intro e7 (And.intro e5 (And.intro e11 (And.intro IW RU))))))))))) ?_
   refine BB 1 (fun w hw=>BK b TA tn tc l (j+1+1+1) 5 w (hw.hold 1 rfl) (Sl.Av hw (AZ (k:=2) rfl)) (fun _=>hw.GK 2 1 rfl rfl (by decide)) hl (by omega) (by omega)) rfl ?_
   try refine Ap (And.intro e9 (And.intro e12 (And.intro e8 (And.intro RV (And.intro e16 (And.intro e300 (And.intro e13 (And.intro e7 (And.intro e5 (And.intro e11 (And.intro IW RU))))))))))) ?_
   refine BB 1 (fun w hw=>BK b TA tn tc l (j+1+1+1+1) 7 w (hw.hold 1 rfl) (Sl.Av hw (AZ (k:=2) rfl)) (fun _=>hw.GK 2 1 rfl rfl (by decide)) hl (by omega) (by omega)) rfl ?_
   try refine Ap (And.intro e9 (And.intro e12 (And.intro e8 (And.intro RV (And.intro e16 (And.intro e300 (And.intro e13 (And.intro e7 (And.intro e5 (And.intro e11 (And.intro IW RU))))))))))) ?_
   refine BB 1 (fun w hw=>BK b TA tn tc l (j+1+1+1+1+1) 9 w (hw.hold 1 rfl) (Sl.Av hw (AZ (k:=2) rfl)) (fun _=>hw.GK 2 1 rfl rfl (by decide)) hl (by omega) (by omega)) rfl ?_
   try refine Ap (And.intro e9 (And.intro e12 (And.intro e8 (And.intro RV (And.intro e16 (And.intro e300 (And.intro e13 (And.intro e7 (And.intro e5 (And.intro e11 (And.intro IW RU))))))))))) ?_
   refine BB 1 (fun w hw=>BK b TA tn tc l (j+1+1+1+1+1+1) 65536 w (hw.hold 1 rfl) (Sl.Av hw (AZ (k:=2) rfl)) (fun _=>hw.GK 2 1 rfl rfl (by decide)) hl (by omega) (by omega)) rfl ?_
   try refine Ap (And.intro e9 (And.intro e12 (And.intro e8 (And.intro RV (And.intro e16 (And.intro e300 (And.intro e13 (And.intro e7 (And.intro e5 (And.intro e11 (And.intro IW RU))))))))))) ?_
   intro b9 pK hf9
   have q1:=L5 (j+1+1)
   have q2:=L5 (j+1+1+1)
   have q3:=L16 (j+1+1+1+1+1+1)
   exact ⟨b9,⟨0,((1+Ar l (j+1) 3:Nat):Int),((Ar l (j+1+1) 5:Nat):Int),((Ar l (j+1+1+1) 5:Nat):Int),0,((Ar l (j+1+1+1+1) 7:Nat):Int)-((Ar l (j+1+1+1+1+1) 9 / 8:Nat):Int),0,0,0,Ar l (j+1+1+1+1+1+1) 65536⟩,rfl,rfl,⟨(by decide:0<18446744073709551616),(by show (0:Int)<=(_:Nat)/\((_:Nat):Int)<=4;omega),(by show (0:Int)<=(_:Nat)/\((_:Nat):Int)<=4;omega),(by decide:(0:Int)<=11),(by show Ar l _ 65536<_;omega)⟩⟩
  intro G5 L' _ hF
  obtain ⟨b9,o,zq,aa,rfl,Fe⟩:=hF
  replace zg:=Bd.mk g4
  have g5:=And.intro (Bg zq) aa
  refine k1 _ _ ?_
  obtain ⟨j1,hj1⟩:∃j1,j+7=j1:=⟨_,rfl⟩
  rw [hj1]
  refine AB fun K k1=>?_
  refine A9 (fun _ _=>True) (fun F' L' => ∃(o2:TH) (j2:Nat),Az F' G5 [0,1,2,7,9]/\L'=[.blk b9 41 [.int .i64 o2.k,.int .i64 o2.pl,.int .i64 o2.ob,.int .i64 o2.fr,.int .u64 (o2.raw:Int),.int .i64 o2.n1,.int .i64 o2.n2,.int .i64 o2.n3,.int .u64 o2.v,.int .u64 (o2.d:Int)],.row (.slice A n c) 41 10 n (Df os),C_ b TA tn tc j2,.row (.slice TA tn tc) 118 1 tn (Dn l)]/\o2.ok/\j2<=j1+6) ?_ ?_
  ·refine Ad ?_
   replace zg:=Bd.mk (And.intro g1 (And.intro g2 g5))
   refine BH ?_
   refine AL ?_
   by_cases k5:Ar l j 24<5
   ·have d5:decide (((Ar l j 24:Nat):Int)<5)=true:=decide_eq_true (by omega)
    refine Ap d5 ?_
    refine BH ?_
    refine AU rfl ?_
    refine AR ?_
    refine BB 2 (fun w hw=>BK b TA tn tc l (j1) 3 w (hw.hold 2 rfl) (Sl.Av hw (AZ (k:=3) rfl)) (fun _=>hw.GK 3 2 rfl rfl (by decide)) hl (by omega) (by omega)) rfl ?_
    try refine Ap (And.intro e9 (And.intro e12 (And.intro e8 (And.intro RV (And.intro e16 (And.intro e300 (And.intro e13 (And.intro e7 (And.intro e5 (And.intro e11 (And.intro IW RU))))))))))) ?_
    refine BB 2 (fun w hw=>BK b TA tn tc l (j1+1) 12 w (hw.hold 2 rfl) (Sl.Av hw (AZ (k:=3) rfl)) (fun _=>hw.GK 3 2 rfl rfl (by decide)) hl (by omega) (by omega)) rfl ?_
    try refine Ap (And.intro e9 (And.intro e12 (And.intro e8 (And.intro RV (And.intro e16 (And.intro e300 (And.intro e13 (And.intro e7 (And.intro e5 (And.intro e11 (And.intro IW RU))))))))))) ?_
    exact ⟨{ o with k:=1,n1:=((1+Ar l j1 3+Ar l (j1+1) 12 / 11:Nat):Int) },_,rfl,⟨Fe.raw,Fe.ob,Fe.fr,Fe.n2,Fe.d⟩,by omega⟩
   have d5:decide (((Ar l j 24:Nat):Int)<5)=false:=decide_eq_false (by omega)
   refine Ap d5 ?_
   refine BH ?_
   refine AL ?_
   by_cases k6:Ar l j 24<16
   ·have d6:decide (((Ar l j 24:Nat):Int)<16)=true:=decide_eq_true (by omega)
    have ek:IntKind.i64.wrap (((Ar l j 24:Nat):Int)-3)=((Ar l j 24:Nat):Int)-3:=Ae (by omega) (by omega)
    refine Ap d6 ?_
    refine AU rfl ?_
    refine Ap ek ?_
    exact ⟨{ o with k:=((Ar l j 24:Nat):Int)-3 },j1,rfl,⟨Fe.raw,Fe.ob,Fe.fr,Fe.n2,Fe.d⟩,by omega⟩
   have d6:decide (((Ar l j 24:Nat):Int)<16)=false:=decide_eq_false (by omega)
   refine Ap d6 ?_
   refine AV [0,1,2,7,8,9] fun G6 g6=>?_
   replace g6:=Bg g6
   refine AB fun K k2=>?_
   refine A9 (fun _ _=>True) (fun F' L' => ∃(r:Bool) (j2:Nat),Az F' G6 [0,1,2,7,8,9]/\F' 63 = .bool r/\L'=[.blk b9 41 [.int .i64 o.k,.int .i64 o.pl,.int .i64 o.ob,.int .i64 o.fr,.int .u64 (o.raw:Int),.int .i64 o.n1,.int .i64 o.n2,.int .i64 o.n3,.int .u64 o.v,.int .u64 (o.d:Int)],.row (.slice A n c) 41 10 n (Df os),C_ b TA tn tc j2,.row (.slice TA tn tc) 118 1 tn (Dn l)]/\j2<=j1+1) ?_ ?_
   ·refine AF rfl ?_
    by_cases k7:Ar l j 24=16
    ·have d7:decide (((Ar l j 24:Nat):Int)=16)=true:=decide_eq_true (by omega)
     replace zg:=Bd.mk (And.intro g1 (And.intro g2 (And.intro g5 g6)))
     refine Ap d7 ?_
     refine BB 2 (fun w hw=>BK b TA tn tc l (j1) 4 w (hw.hold 2 rfl) (Sl.Av hw (AZ (k:=3) rfl)) (fun _=>hw.GK 3 2 rfl rfl (by decide)) hl (by omega) (by omega)) rfl ?_
     try refine Ap (And.intro e9 (And.intro e12 (And.intro e8 (And.intro RV (And.intro e16 (And.intro e300 (And.intro e13 (And.intro e7 (And.intro e5 (And.intro e11 (And.intro IW RU))))))))))) ?_
     exact ⟨_,_,rfl,rfl,by omega⟩
    ·have d7:decide (((Ar l j 24:Nat):Int)=16)=false:=decide_eq_false (by omega)
     replace zg:=Bd.mk (And.intro g1 (And.intro g2 (And.intro g5 g6)))
     refine Ap d7 ?_
     exact ⟨_,_,rfl,rfl,by omega⟩
   intro G7 L' _ hF
   obtain ⟨r,j2,zq,tZ,rfl,hj2⟩:=hF
   replace zg:=Bd.mk g6
   have g7:=And.intro (Bg zq) tZ
   refine k2 _ _ ?_
   refine AL ?_
   cases r with
   | true =>
    replace zg:=Bd.mk (And.intro g1 (And.intro g2 (And.intro g5 g7)))
    refine AR ?_
    refine AU rfl ?_
    refine AR ?_
    exact ⟨{ o with k:=13 },_,rfl,⟨Fe.raw,Fe.ob,Fe.fr,Fe.n2,Fe.d⟩,by omega⟩
   | false =>
   replace zg:=Bd.mk (And.intro g1 (And.intro g2 (And.intro g5 g7)))
   refine AR ?_
   refine AB fun K k2=>?_
   refine A9 (fun _ _=>True) (fun F' L' => ∃(r:Bool) (j3:Nat),Az F' G7 [0,1,2,7,8,9]/\F' 72 = .bool r/\L'=[.blk b9 41 [.int .i64 o.k,.int .i64 o.pl,.int .i64 o.ob,.int .i64 o.fr,.int .u64 (o.raw:Int),.int .i64 o.n1,.int .i64 o.n2,.int .i64 o.n3,.int .u64 o.v,.int .u64 (o.d:Int)],.row (.slice A n c) 41 10 n (Df os),C_ b TA tn tc j3,.row (.slice TA tn tc) 118 1 tn (Dn l)]/\j3<=j1+2) ?_ ?_
   ·refine AF rfl ?_
    by_cases k7:Ar l j 24=17
    ·have d7:decide (((Ar l j 24:Nat):Int)=17)=true:=decide_eq_true (by omega)
     refine Ap d7 ?_
     refine BB 2 (fun w hw=>BK b TA tn tc l (j2) 3 w (hw.hold 2 rfl) (Sl.Av hw (AZ (k:=3) rfl)) (fun _=>hw.GK 3 2 rfl rfl (by decide)) hl (by omega) (by omega)) rfl ?_
     try refine Ap (And.intro e9 (And.intro e12 (And.intro e8 (And.intro RV (And.intro e16 (And.intro e300 (And.intro e13 (And.intro e7 (And.intro e5 (And.intro e11 (And.intro IW RU))))))))))) ?_
     exact ⟨_,_,rfl,rfl,by omega⟩
    ·have d7:decide (((Ar l j 24:Nat):Int)=17)=false:=decide_eq_false (by omega)
     refine Ap d7 ?_
     exact ⟨_,_,rfl,rfl,by omega⟩
   intro G8 L' _ hF
   obtain ⟨r,j3,zq,AHT,rfl,hj3⟩:=hF
   have g8:=And.intro (Bg zq) AHT
   refine k2 _ _ ?_
   refine AL ?_
   cases r with
   | true =>
    replace zg:=Bd.mk (And.intro g1 (And.intro g2 (And.intro g5 g8)))
    refine AR ?_
    refine BH ?_
    refine AU rfl ?_
    refine AR ?_
    refine BB 2 (fun w hw=>BK b TA tn tc l (j3) 6 w (hw.hold 2 rfl) (Sl.Av hw (AZ (k:=3) rfl)) (fun _=>hw.GK 3 2 rfl rfl (by decide)) hl (by omega) (by omega)) rfl ?_
    try refine Ap (And.intro e9 (And.intro e12 (And.intro e8 (And.intro RV (And.intro e16 (And.intro e300 (And.intro e13 (And.intro e7 (And.intro e5 (And.intro e11 (And.intro IW RU))))))))))) ?_
    exact ⟨{ o with k:=12,pl:=((Ar l j3 6:Nat):Int) },_,rfl,⟨Fe.raw,Fe.ob,Fe.fr,Fe.n2,Fe.d⟩,by omega⟩
   | false =>
   replace zg:=Bd.mk (And.intro g1 (And.intro g2 (And.intro g5 g8)))
   refine AR ?_
   refine BH ?_
   refine AL ?_
   by_cases k8:Ar l j 24<20
   ·have d8:decide (((Ar l j 24:Nat):Int)<20)=true:=decide_eq_true (by omega)
    refine Ap d8 ?_
    refine AU rfl ?_
    refine AR ?_
    exact ⟨{ o with k:=4 },_,rfl,⟨Fe.raw,Fe.ob,Fe.fr,Fe.n2,Fe.d⟩,by omega⟩
   have d8:decide (((Ar l j 24:Nat):Int)<20)=false:=decide_eq_false (by omega)
   refine Ap d8 ?_
   refine AU rfl ?_
   refine AR ?_
   refine BB 2 (fun w hw=>BK b TA tn tc l (j3) 3 w (hw.hold 2 rfl) (Sl.Av hw (AZ (k:=3) rfl)) (fun _=>hw.GK 3 2 rfl rfl (by decide)) hl (by omega) (by omega)) rfl ?_
   try refine Ap (And.intro e9 (And.intro e12 (And.intro e8 (And.intro RV (And.intro e16 (And.intro e300 (And.intro e13 (And.intro e7 (And.intro e5 (And.intro e11 (And.intro IW RU))))))))))) ?_
   exact ⟨{ o with k:=((9+Ar l j3 3:Nat):Int) },_,rfl,⟨Fe.raw,Fe.ob,Fe.fr,Fe.n2,Fe.d⟩,by omega⟩
  intro G9 L' _ hF
  obtain ⟨o2,j2,zq,rfl,⟨ho2,hj2⟩⟩:=hF
  replace zg:=Bd.mk g5
  have g9:=Bg zq
  refine k1 _ _ ?_
  refine AB fun K k1=>?_
  refine A9 (fun _ _=>True) (fun F' L' => ∃(o3:TH) (j3:Nat),Az F' G9 [0,1,2,7,9]/\L'=[.blk b9 41 [.int .i64 o3.k,.int .i64 o3.pl,.int .i64 o3.ob,.int .i64 o3.fr,.int .u64 (o3.raw:Int),.int .i64 o3.n1,.int .i64 o3.n2,.int .i64 o3.n3,.int .u64 o3.v,.int .u64 (o3.d:Int)],.row (.slice A n c) 41 10 n (Df os),C_ b TA tn tc j3,.row (.slice TA tn tc) 118 1 tn (Dn l)]/\o3.ok/\j3<=j2+2) ?_ ?_
  ·refine AB fun K k2=>?_
   refine A9 (fun _ _=>True) (fun F' L' => ∃(r:Bool),Az F' G9 [0,1,2,7,9]/\F' 95 = .bool r/\L'=[.blk b9 41 [.int .i64 o2.k,.int .i64 o2.pl,.int .i64 o2.ob,.int .i64 o2.fr,.int .u64 (o2.raw:Int),.int .i64 o2.n1,.int .i64 o2.n2,.int .i64 o2.n3,.int .u64 o2.v,.int .u64 (o2.d:Int)],.row (.slice A n c) 41 10 n (Df os),C_ b TA tn tc j2,.row (.slice TA tn tc) 118 1 tn (Dn l)]) ?_ ?_
   ·refine AF rfl ?_
    replace zg:=Bd.mk (And.intro g1 (And.intro g2 g9))
    refine AR ?_
    repeat' ((first|refine Ck (fun hg=>?_) (fun hg=>?_)|refine Cm (fun hg=>?_) (fun hg=>?_))<;>((try simp only [Bool.not_eq_true',Bool.not_eq_false',decide_eq_true_eq,decide_eq_false_iff_not] at hg);(try simp -implicitDefEqProofs (disch:=first|omega|decide) only [seval, -Int.reducePow, -Nat.reducePow,cC,pv,Ao,Az,undef,ZW,hg,g1,g2,g9])))
    all_goals exact ⟨_,rfl⟩
   intro pW L' _ hF
   obtain ⟨r,zq,AHU,rfl⟩:=hF
   replace zg:=Bd.mk g9
   have g10:=And.intro (Bg zq) AHU
   refine k2 _ _ ?_
   refine AL ?_
   cases r with
   | true =>
    replace zg:=Bd.mk (And.intro g1 (And.intro g2 (And.intro g9 g10)))
    refine AR ?_
    refine AU rfl ?_
    refine AR ?_
    refine BB 2 (fun w hw=>BK b TA tn tc l (j2) 5 w (hw.hold 2 rfl) (Sl.Av hw (AZ (k:=3) rfl)) (fun _=>hw.GK 3 2 rfl rfl (by decide)) hl (by omega) (by omega)) rfl ?_
    try refine Ap (And.intro e9 (And.intro e12 (And.intro e8 (And.intro RV (And.intro e16 (And.intro e300 (And.intro e13 (And.intro e7 (And.intro e5 (And.intro e11 (And.intro IW RU))))))))))) ?_
    refine BB 2 (fun w hw=>BK b TA tn tc l (j2+1) 9 w (hw.hold 2 rfl) (Sl.Av hw (AZ (k:=3) rfl)) (fun _=>hw.GK 3 2 rfl rfl (by decide)) hl (by omega) (by omega)) rfl ?_
    try refine Ap (And.intro e9 (And.intro e12 (And.intro e8 (And.intro RV (And.intro e16 (And.intro e300 (And.intro e13 (And.intro e7 (And.intro e5 (And.intro e11 (And.intro IW RU))))))))))) ?_
    exact ⟨{ o2 with n1:=((Ar l j2 5:Nat):Int)-((Ar l (j2+1) 9 / 8:Nat):Int) },j2+1+1,rfl,⟨ho2.raw,ho2.ob,ho2.fr,ho2.n2,ho2.d⟩,by omega⟩
   | false =>
    replace zg:=Bd.mk (And.intro g1 (And.intro g2 (And.intro g9 g10)))
    refine AR ?_
    refine AO ?_
    try simp only [BJ,BX]
    refine AR ?_
    exact ⟨o2,j2,rfl,ho2,by omega⟩
  intro ry L' _ hF
  obtain ⟨o3,j3,zq,rfl,⟨ho3,hj3⟩⟩:=hF
  replace zg:=Bd.mk g9
  have g11:=Bg zq
  refine k1 _ _ ?_
  have q12:=vL j3
  have AKS:=vL (j3+1+1)
  have q8:=L8 (j3+1+1+1+1+1)
  have q8b:=L8 (j3+1+1+1+1+1+1)
  refine AB fun K k1=>?_
  refine A9 (fun _ _=>True) (fun F' L' => ∃(bB:TH),Az F' ry [0,1,2,7,9]/\L'=[.blk b9 41 [.int .i64 bB.k,.int .i64 bB.pl,.int .i64 bB.ob,.int .i64 bB.fr,.int .u64 (bB.raw:Int),.int .i64 bB.n1,.int .i64 bB.n2,.int .i64 bB.n3,.int .u64 bB.v,.int .u64 (bB.d:Int)],.row (.slice A n c) 41 10 n (Df os),C_ b TA tn tc (j3+1+1),.row (.slice TA tn tc) 118 1 tn (Dn l)]/\bB.ok) ?_ ?_
  ·refine AF rfl ?_
   replace zg:=Bd.mk (And.intro g1 (And.intro g2 g11))
   refine AR ?_
   refine BB 2 (fun w hw=>BK b TA tn tc l (j3) 12 w (hw.hold 2 rfl) (Sl.Av hw (AZ (k:=3) rfl)) (fun _=>hw.GK 3 2 rfl rfl (by decide)) hl (by omega) (by omega)) rfl ?_
   try refine Ap (And.intro e9 (And.intro e12 (And.intro e8 (And.intro RV (And.intro e16 (And.intro e300 (And.intro e13 (And.intro e7 (And.intro e5 (And.intro e11 (And.intro IW RU))))))))))) ?_
   refine BB 2 (fun w hw=>BK b TA tn tc l (j3+1) 9 w (hw.hold 2 rfl) (Sl.Av hw (AZ (k:=3) rfl)) (fun _=>hw.GK 3 2 rfl rfl (by decide)) hl (by omega) (by omega)) rfl ?_
   try refine Ap (And.intro e9 (And.intro e12 (And.intro e8 (And.intro RV (And.intro e16 (And.intro e300 (And.intro e13 (And.intro e7 (And.intro e5 (And.intro e11 (And.intro IW RU))))))))))) ?_
   exact ⟨{ o3 with n2:=((Ar l (j3) 12:Nat):Int)-((Ar l (j3+1) 9 / 8:Nat):Int) },rfl,ho3.raw,ho3.ob,ho3.fr,(by show ((Ar l j3 12:Nat):Int)-((Ar l (j3+1) 9 / 8:Nat):Int)<=11;omega),ho3.d⟩
  intro G12 L' _ hF
  obtain ⟨bB,zq,rfl,iW⟩:=hF
  replace zg:=Bd.mk g11
  have g12:=Bg zq
  refine k1 _ _ ?_
  refine AB fun K k1=>?_
  refine A9 (fun _ _=>True) (fun F' L' => ∃(o4:TH),Az F' G12 [0,1,2,7,9]/\L'=[.blk b9 41 [.int .i64 o4.k,.int .i64 o4.pl,.int .i64 o4.ob,.int .i64 o4.fr,.int .u64 (o4.raw:Int),.int .i64 o4.n1,.int .i64 o4.n2,.int .i64 o4.n3,.int .u64 o4.v,.int .u64 (o4.d:Int)],.row (.slice A n c) 41 10 n (Df os),C_ b TA tn tc (j3+1+1+1+1),.row (.slice TA tn tc) 118 1 tn (Dn l)]/\o4.ok) ?_ ?_
  ·refine AF rfl ?_
   replace zg:=Bd.mk (And.intro g1 (And.intro g2 g12))
   refine AR ?_
   refine BB 2 (fun w hw=>BK b TA tn tc l (j3+1+1) 12 w (hw.hold 2 rfl) (Sl.Av hw (AZ (k:=3) rfl)) (fun _=>hw.GK 3 2 rfl rfl (by decide)) hl (by omega) (by omega)) rfl ?_
   try refine Ap (And.intro e9 (And.intro e12 (And.intro e8 (And.intro RV (And.intro e16 (And.intro e300 (And.intro e13 (And.intro e7 (And.intro e5 (And.intro e11 (And.intro IW RU))))))))))) ?_
   refine BB 2 (fun w hw=>BK b TA tn tc l (j3+1+1+1) 9 w (hw.hold 2 rfl) (Sl.Av hw (AZ (k:=3) rfl)) (fun _=>hw.GK 3 2 rfl rfl (by decide)) hl (by omega) (by omega)) rfl ?_
   try refine Ap (And.intro e9 (And.intro e12 (And.intro e8 (And.intro RV (And.intro e16 (And.intro e300 (And.intro e13 (And.intro e7 (And.intro e5 (And.intro e11 (And.intro IW RU))))))))))) ?_
   exact ⟨{ bB with n3:=((Ar l (j3+1+1) 12:Nat):Int)-((Ar l (j3+1+1+1) 9 / 8:Nat):Int) },rfl,iW.raw,iW.ob,iW.fr,iW.n2,iW.d⟩
  intro G13 L' _ hF
  obtain ⟨o4,zq,rfl,nk⟩:=hF
  replace zg:=Bd.mk g12
  have g13:=Bg zq
  refine k1 _ _ ?_
  refine AB fun K k1=>?_
  refine A9 (fun _ _=>True) (fun F' L' => ∃(v:Int),Az F' G13 [0,1,2,7,9]/\L'=[.blk b9 41 [.int .i64 o4.k,.int .i64 o4.pl,.int .i64 o4.ob,.int .i64 o4.fr,.int .u64 (o4.raw:Int),.int .i64 o4.n1,.int .i64 o4.n2,.int .i64 o4.n3,.int .u64 v,.int .u64 (o4.d:Int)],.row (.slice A n c) 41 10 n (Df os),C_ b TA tn tc (j3+7),.row (.slice TA tn tc) 118 1 tn (Dn l)]) ?_ ?_
  ·refine AF rfl ?_
   replace zg:=Bd.mk (And.intro g1 (And.intro g2 g13))
   refine AR ?_
   refine BB 2 (fun w hw=>BK b TA tn tc l (j3+1+1+1+1) 300 w (hw.hold 2 rfl) (Sl.Av hw (AZ (k:=3) rfl)) (fun _=>hw.GK 3 2 rfl rfl (by decide)) hl (by omega) (by omega)) rfl ?_
   try refine Ap (And.intro e9 (And.intro e12 (And.intro e8 (And.intro RV (And.intro e16 (And.intro e300 (And.intro e13 (And.intro e7 (And.intro e5 (And.intro e11 (And.intro IW RU))))))))))) ?_
   refine BB 2 (fun w hw=>BK b TA tn tc l (j3+1+1+1+1+1) 8 w (hw.hold 2 rfl) (Sl.Av hw (AZ (k:=3) rfl)) (fun _=>hw.GK 3 2 rfl rfl (by decide)) hl (by omega) (by omega)) rfl ?_
   try refine Ap (And.intro e9 (And.intro e12 (And.intro e8 (And.intro RV (And.intro e16 (And.intro e300 (And.intro e13 (And.intro e7 (And.intro e5 (And.intro e11 (And.intro IW RU))))))))))) ?_
   refine BB 2 (fun w hw=>BK b TA tn tc l (j3+1+1+1+1+1+1) 8 w (hw.hold 2 rfl) (Sl.Av hw (AZ (k:=3) rfl)) (fun _=>hw.GK 3 2 rfl rfl (by decide)) hl (by omega) (by omega)) rfl ?_
   try refine Ap (And.intro e9 (And.intro e12 (And.intro e8 (And.intro RV (And.intro e16 (And.intro e300 (And.intro e13 (And.intro e7 (And.intro e5 (And.intro e11 (And.intro IW RU))))))))))) ?_
   exact ⟨_,rfl⟩
  intro G14 L' _ hF
  obtain ⟨v,zq,rfl⟩:=hF
  replace zg:=Bd.mk g13
  have g14:=Bg zq
  refine k1 _ _ ?_
  refine AB fun K k1=>?_
  refine A9 (fun _ _=>True) (fun F' L' => ∃(o6:TH) (j6:Nat),Az F' G14 [0,1,2,7,9]/\L'=[.blk b9 41 [.int .i64 o6.k,.int .i64 o6.pl,.int .i64 o6.ob,.int .i64 o6.fr,.int .u64 (o6.raw:Int),.int .i64 o6.n1,.int .i64 o6.n2,.int .i64 o6.n3,.int .u64 o6.v,.int .u64 (o6.d:Int)],.row (.slice A n c) 41 10 n (Df os),C_ b TA tn tc j6,.row (.slice TA tn tc) 118 1 tn (Dn l)]/\o6.ok/\j6<=j3+18) ?_ ?_
  ·refine AQ rfl fun K k2=>?_
   replace zg:=Bd.mk (And.intro g1 (And.intro g2 g14))
   refine AR ?_
   refine BB 2 (fun w hw=>BK b TA tn tc l (j3+7) 5 w (hw.hold 2 rfl) (Sl.Av hw (AZ (k:=3) rfl)) (fun _=>hw.GK 3 2 rfl rfl (by decide)) hl (by omega) (by omega)) rfl ?_
   try refine Ap (And.intro e9 (And.intro e12 (And.intro e8 (And.intro RV (And.intro e16 (And.intro e300 (And.intro e13 (And.intro e7 (And.intro e5 (And.intro e11 (And.intro IW RU))))))))))) ?_
   refine k2 _ _ ?_
   refine AL ?_
   by_cases kr:Ar l (j3+7) 5=0
   ·have dr:decide (((Ar l (j3+7) 5:Nat):Int)=0)=true:=decide_eq_true (by omega)
    refine Ap dr ?_
    refine AU rfl ?_
    refine AR ?_
    refine SN 2 (fun p:Nat×Nat=>.int .u64 (p.1:Int)) (fun p=>tape TA tn tc p.2) (fun p=>p.1<18446744073709551616/\p.2<=(j3+7+1)+10) rfl (fun w hw=>bC b TA tn tc l (j3+7+1) first w (hw.hold 2 rfl) (Sl.Av hw (AZ (k:=3) rfl)) (fun _=>hw.GK 3 2 rfl rfl (by decide)) hl (by omega)) ?_
    rintro ⟨y,j7⟩ ⟨hy,hj7⟩
    dsimp only at hy hj7
    refine AR ?_
    exact ⟨{ o4 with v:=v,raw:=y },j7,rfl,⟨hy,nk.ob,nk.fr,nk.n2,nk.d⟩,by omega⟩
   ·have dr:decide (((Ar l (j3+7) 5:Nat):Int)=0)=false:=decide_eq_false (by omega)
    refine Ap dr ?_
    refine AO ?_
    try simp only [BJ,BX]
    refine AR ?_
    exact ⟨{ o4 with v:=v },j3+7+1,rfl,⟨nk.raw,nk.ob,nk.fr,nk.n2,nk.d⟩,by omega⟩
  intro G15 L' _ hF
  obtain ⟨o6,j6,zq,rfl,⟨ho6,hj6⟩⟩:=hF
  replace zg:=Bd.mk g14
  have g15:=Bg zq
  refine k1 _ _ ?_
  refine BG [0,3,4] (by decide) ?_
  refine AU rfl ?_
  replace zg:=Bd.mk (And.intro g1 (And.intro g2 g15))
  refine AR ?_
  intro bE PE Rj
  refine Bj 2 ACH rfl (fun w hw=>Bp (size:=10) (.head _) rfl hw) rfl (by omega) (by omega) ?_
  intro A2 c2 hl2 hr2
  refine AR ?_
  refine ⟨⟨A2,n+1,c2,os++[o6],j6, ?_⟩,by omega⟩
  rw [Ue]
  refine ⟨rfl,rfl,fun e' he'=>?_,by rw [List.length_append,hn];rfl,by omega,by omega⟩
  rcases List.mem_append.1 he' with h|h
  ·exact hok e' h
  ·have:e'=o6:=by simpa using h
   exact this▸ho6
structure ZX where
 sl:Nat
 ar:Nat
 fg:Nat
 lg:Nat
 qb:Nat
 qo:Nat
 qr:Nat
 fr:Nat
 st:Nat
def nu (c:ZX):Value:=.agg #[.int .i64 (c.sl:Int),.int .i64 (c.ar:Int),.int .u32 (c.fg:Int),.int .i64 (c.lg:Int),.int .i64 (c.qb:Int),.int .i64 (c.qo:Int),.int .i64 (c.qr:Int),.int .i64 (c.fr:Int),.int .i64 (c.st:Int)]
structure ZX.ok (c:ZX):Prop where
 sl:1<=c.sl/\c.sl<=5
 ar:c.ar<=4096
 fg:1<=c.fg/\c.fg<=4294967295
 lg:c.lg<=200
 qb:c.qb<=4000
 qo:c.qo<=9
 qr:c.qr<=9
 fr:1<=c.fr/\c.fr<=6
 st:4<=c.st/\c.st<=63
theorem Wn (b:Nat) (A:Option Addr) (n c:Nat) (l:List Nat) (i:Nat) (W:World) (hW:W.heap[b]? = some (.cells (tape A n c i).toArray 74 (0,0))) (hE:Sl W W.heap.size 1 A n c (Dn l)) (ha:0<n->U4 A [b]) (hl:∀x∈l,x<65536) (hi:i<=900000) :
  Calls Tryz.prog 4 #[.pointer (some ⟨b,0,none⟩)] W (fun e w' => ∃p:ZX×Nat,e = .returned (nu p.1)/\(p.1.ok/\p.2<=i+20)/\w'.heap[b]? = some (.cells (tape A n c p.2).toArray 74 (0,0))/\Gf [b] W w'):=by
 have L5:=CP (l:=l) (i:=i) (m:=5) (by omega)
 have L9:=CP (l:=l) (i:=i+1) (m:=9) (by omega)
 have L24:=CP (l:=l) (i:=i+1+1) (m:=24) (by omega)
 have L6:=CP (l:=l) (i:=i+1+1+1) (m:=6) (by omega)
 have L60:=CP (l:=l) (i:=i+1+1+1+1) (m:=60) (by omega)
 have vL:=CP (l:=l) (i:=i+1+1+1+1+1) (m:=12) (by omega)
 have L6b:=CP (l:=l) (i:=i+1+1+1+1+1+1) (m:=6) (by omega)
 have L4:=CP (l:=l) (i:=i+1+1+1+1+1+1+1) (m:=4) (by omega)
 have e5:IntKind.i64.wrap (1+((Ar l (i) 5:Nat):Int))=((1+Ar l (i) 5:Nat):Int):=by rw [Ae (by omega) (by omega)];omega
 have e64:IntKind.i64.wrap (64*((Ar l (i+1) 9:Nat):Int))=((64*Ar l (i+1) 9:Nat):Int):=by rw [Ae (by omega) (by omega)];omega
 have e6:IntKind.i64.wrap (1+((Ar l (i+1+1+1) 6:Nat):Int))=((1+Ar l (i+1+1+1) 6:Nat):Int):=by rw [Ae (by omega) (by omega)];omega
 have e4:IntKind.i64.wrap (4+((Ar l (i+1+1+1+1) 60:Nat):Int))=((4+Ar l (i+1+1+1+1) 60:Nat):Int):=by rw [Ae (by omega) (by omega)];omega
 have e32:IntKind.i64.wrap (32*((Ar l (i+1+1+1+1+1) 12:Nat):Int))=((32*Ar l (i+1+1+1+1+1) 12:Nat):Int):=by rw [Ae (by omega) (by omega)];omega
 refine DY (M:=[b]) (n:=47) [.cell 2 27] rfl Tryz.func4 rfl rfl (Nat.le_of_ble_eq_true rfl)  (St.one hW) ?_
 refine AQ rfl fun K k0=>?_
 have zs:=Bd.mk ZW
 refine Ah ?_
 intro b2 hb2 hf2
 refine k0 _ _ ?_
 refine AV [0,2] fun G1 g1=>?_
 replace g1:=Bi g1
 refine AB fun K k0=>?_
 refine A9 (fun _ _=>True) (fun F' L' => ∃(b3:Nat) (o:ZX),Az F' G1 [0,2]/\F' 3 = .pointer (some ⟨b3,0,none⟩)/\L'=[.blk b3 27 [.int .i64 (o.sl:Int),.int .i64 (o.ar:Int),.int .u32 (o.fg:Int),.int .i64 (o.lg:Int),.int .i64 (o.qb:Int),.int .i64 (o.qo:Int),.int .i64 (o.qr:Int),.int .i64 (o.fr:Int),.int .i64 (o.st:Int)],.blk b2 27 [.int .i64 0,.int .i64 0,.int .u32 0,.int .i64 0,.int .i64 0,.int .i64 0,.int .i64 0,.int .i64 0,.int .i64 0],C_ b A n c (i+1+1+1+1+1)]/\o.ok/\b3≠b2) ?_ ?_
 ·refine AF rfl ?_
  have zg:=Bd.mk g1
  refine AR ?_
  refine BB 1 (fun w hw=>BK b A n c l (i) 5 w (hw.hold 1 rfl) (hE.H7 hw ha) ha hl (by omega) (by omega)) rfl ?_
  try refine Ap (And.intro e5 (And.intro e64 (And.intro e6 (And.intro e4 e32)))) ?_
  refine BB 1 (fun w hw=>BK b A n c l (i+1) 9 w (hw.hold 1 rfl) (hE.H7 hw ha) ha hl (by omega) (by omega)) rfl ?_
  try refine Ap (And.intro e5 (And.intro e64 (And.intro e6 (And.intro e4 e32)))) ?_
  refine BB 1 (fun w hw=>BK b A n c l (i+1+1) 24 w (hw.hold 1 rfl) (hE.H7 hw ha) ha hl (by omega) (by omega)) rfl ?_
  try refine Ap (And.intro e5 (And.intro e64 (And.intro e6 (And.intro e4 e32)))) ?_
  refine BB 1 (fun w hw=>BK b A n c l (i+1+1+1) 6 w (hw.hold 1 rfl) (hE.H7 hw ha) ha hl (by omega) (by omega)) rfl ?_
  try refine Ap (And.intro e5 (And.intro e64 (And.intro e6 (And.intro e4 e32)))) ?_
  refine BB 1 (fun w hw=>BK b A n c l (i+1+1+1+1) 60 w (hw.hold 1 rfl) (hE.H7 hw ha) ha hl (by omega) (by omega)) rfl ?_
  try refine Ap (And.intro e5 (And.intro e64 (And.intro e6 (And.intro e4 e32)))) ?_
  intro b3 hb3 hf3
  exact ⟨b3,⟨1+Ar l (i) 5,64*Ar l (i+1) 9,1,Ar l (i+1+1) 24,0,0,0,1+Ar l (i+1+1+1) 6,4+Ar l (i+1+1+1+1) 60⟩,rfl,rfl,⟨(by show 1<=1+Ar l _ 5/\1+Ar l _ 5<=5;omega),(by show 64*Ar l _ 9<=4096;omega),(by decide:1<=1/\1<=4294967295),(by show Ar l _ 24<=200;omega),(by decide:0<=4000),(by decide:0<=9),(by decide:0<=9),(by show 1<=1+Ar l _ 6/\1+Ar l _ 6<=6;omega),(by show 4<=4+Ar l _ 60/\4+Ar l _ 60<=63;omega)⟩,by omega⟩
 intro G2 L' _ hF
 obtain ⟨b3,o,zq,mr,rfl,⟨ho,hne⟩⟩:=hF
 have zg:=Bd.mk g1
 have g2:=And.intro (Bg zq) mr
 refine k0 _ _ ?_
 refine AB fun K k0=>?_
 refine A9 (fun _ _=>True) (fun F' L' => ∃(o1:ZX),Az F' G2 [0,2,3]/\L'=[.blk b3 27 [.int .i64 (o1.sl:Int),.int .i64 (o1.ar:Int),.int .u32 (o1.fg:Int),.int .i64 (o1.lg:Int),.int .i64 (o1.qb:Int),.int .i64 (o1.qo:Int),.int .i64 (o1.qr:Int),.int .i64 (o1.fr:Int),.int .i64 (o1.st:Int)],.blk b2 27 [.int .i64 0,.int .i64 0,.int .u32 0,.int .i64 0,.int .i64 0,.int .i64 0,.int .i64 0,.int .i64 0,.int .i64 0],C_ b A n c (i+1+1+1+1+1+1+1+1)]/\o1.ok) ?_ ?_
 ·refine AF rfl ?_
  replace zg:=Bd.mk g2
  refine AR ?_
  refine BB 2 (fun w hw=>BK b A n c l (i+1+1+1+1+1) 12 w (hw.hold 2 rfl) (hE.H7 hw ha) ha hl (by omega) (by omega)) rfl ?_
  try refine Ap (And.intro e5 (And.intro e64 (And.intro e6 (And.intro e4 e32)))) ?_
  refine BB 2 (fun w hw=>BK b A n c l (i+1+1+1+1+1+1) 6 w (hw.hold 2 rfl) (hE.H7 hw ha) ha hl (by omega) (by omega)) rfl ?_
  try refine Ap (And.intro e5 (And.intro e64 (And.intro e6 (And.intro e4 e32)))) ?_
  refine BB 2 (fun w hw=>BK b A n c l (i+1+1+1+1+1+1+1) 4 w (hw.hold 2 rfl) (hE.H7 hw ha) ha hl (by omega) (by omega)) rfl ?_
  try refine Ap (And.intro e5 (And.intro e64 (And.intro e6 (And.intro e4 e32)))) ?_
  exact ⟨{ o with qb:=32*Ar l (i+1+1+1+1+1) 12,qo:=Ar l (i+1+1+1+1+1+1) 6,qr:=Ar l (i+1+1+1+1+1+1+1) 4 },rfl,ho.sl,ho.ar,ho.fg,ho.lg,(by show 32*Ar l _ 12<=4000;omega),(by show Ar l _ 6<=9;omega),(by show Ar l _ 4<=9;omega),ho.fr,ho.st⟩
 intro G3 L' _ hF
 obtain ⟨o1,zq,rfl,ho1⟩:=hF
 replace zg:=Bd.mk g2
 have g3:=Bg zq
 refine k0 _ _ ?_
 refine AB fun K k0=>?_
 refine A9 (fun _ _=>True) (fun F' L' => ∃(o2:ZX),Az F' G3 [0,2,3]/\L'=[.blk b3 27 [.int .i64 (o2.sl:Int),.int .i64 (o2.ar:Int),.int .u32 (o2.fg:Int),.int .i64 (o2.lg:Int),.int .i64 (o2.qb:Int),.int .i64 (o2.qo:Int),.int .i64 (o2.qr:Int),.int .i64 (o2.fr:Int),.int .i64 (o2.st:Int)],.blk b2 27 [.int .i64 0,.int .i64 0,.int .u32 0,.int .i64 0,.int .i64 0,.int .i64 0,.int .i64 0,.int .i64 0,.int .i64 0],C_ b A n c (i+1+1+1+1+1+1+1+1+1)]/\o2.ok) ?_ ?_
 ·refine AQ rfl fun K k1=>?_
  replace zg:=Bd.mk g3
  refine AR ?_
  refine BB 2 (fun w hw=>BK b A n c l (i+1+1+1+1+1+1+1+1) 6 w (hw.hold 2 rfl) (hE.H7 hw ha) ha hl (by omega) (by omega)) rfl ?_
  try refine Ap (And.intro e5 (And.intro e64 (And.intro e6 (And.intro e4 e32)))) ?_
  refine k1 _ _ ?_
  refine Ad ?_
  refine BH ?_
  refine AL ?_
  by_cases k0:Ar l (i+1+1+1+1+1+1+1+1) 6=0
  ·have d0:decide (((Ar l (i+1+1+1+1+1+1+1+1) 6:Nat):Int)=0)=true:=decide_eq_true (by omega)
   refine Ap d0 ?_
   refine AU rfl ?_
   refine AR ?_
   exact ⟨{ o1 with fg:=4294967295 },rfl,ho1.sl,ho1.ar,(by decide:1<=4294967295/\4294967295<=4294967295),ho1.lg,ho1.qb,ho1.qo,ho1.qr,ho1.fr,ho1.st⟩
  have d0:decide (((Ar l (i+1+1+1+1+1+1+1+1) 6:Nat):Int)=0)=false:=decide_eq_false (by omega)
  refine Ap d0 ?_
  refine BH ?_
  refine AL ?_
  by_cases k1:Ar l (i+1+1+1+1+1+1+1+1) 6=1
  ·have d1:decide (((Ar l (i+1+1+1+1+1+1+1+1) 6:Nat):Int)=1)=true:=decide_eq_true (by omega)
   refine Ap d1 ?_
   refine AU rfl ?_
   refine AR ?_
   exact ⟨{ o1 with fg:=4294967294 },rfl,ho1.sl,ho1.ar,(by decide:1<=4294967294/\4294967294<=4294967295),ho1.lg,ho1.qb,ho1.qo,ho1.qr,ho1.fr,ho1.st⟩
  have d1:decide (((Ar l (i+1+1+1+1+1+1+1+1) 6:Nat):Int)=1)=false:=decide_eq_false (by omega)
  refine Ap d1 ?_
  refine BH ?_
  refine AL ?_
  by_cases k2:Ar l (i+1+1+1+1+1+1+1+1) 6=2
  ·have d2:decide (((Ar l (i+1+1+1+1+1+1+1+1) 6:Nat):Int)=2)=true:=decide_eq_true (by omega)
   refine Ap d2 ?_
   refine AU rfl ?_
   refine AR ?_
   exact ⟨{ o1 with fg:=77 },rfl,ho1.sl,ho1.ar,(by decide:1<=77/\77<=4294967295),ho1.lg,ho1.qb,ho1.qo,ho1.qr,ho1.fr,ho1.st⟩
  have d2:decide (((Ar l (i+1+1+1+1+1+1+1+1) 6:Nat):Int)=2)=false:=decide_eq_false (by omega)
  refine Ap d2 ?_
  refine AO ?_
  try simp only [BJ,BX]
  refine AR ?_
  exact ⟨o1,rfl,ho1⟩
 intro G4 L' _ hF
 obtain ⟨o2,zq,rfl,ho2⟩:=hF
 replace zg:=Bd.mk g3
 have g4:=Bg zq
 refine k0 _ _ ?_
 refine AB fun K k0=>?_
 refine A9 (fun _ _=>True) (fun F' L' => ∃(o3:ZX),Az F' G4 [2,3]/\L'=[.blk b3 27 [.int .i64 (o3.sl:Int),.int .i64 (o3.ar:Int),.int .u32 (o3.fg:Int),.int .i64 (o3.lg:Int),.int .i64 (o3.qb:Int),.int .i64 (o3.qo:Int),.int .i64 (o3.qr:Int),.int .i64 (o3.fr:Int),.int .i64 (o3.st:Int)],.blk b2 27 [.int .i64 0,.int .i64 0,.int .u32 0,.int .i64 0,.int .i64 0,.int .i64 0,.int .i64 0,.int .i64 0,.int .i64 0],C_ b A n c (i+1+1+1+1+1+1+1+1+1+1)]/\o3.ok) ?_ ?_
 ·refine AQ rfl fun K k1=>?_
  replace zg:=Bd.mk g4
  refine AR ?_
  refine BB 2 (fun w hw=>BK b A n c l (i+1+1+1+1+1+1+1+1+1) 3 w (hw.hold 2 rfl) (hE.H7 hw ha) ha hl (by omega) (by omega)) rfl ?_
  try refine Ap (And.intro e5 (And.intro e64 (And.intro e6 (And.intro e4 e32)))) ?_
  refine k1 _ _ ?_
  refine AL ?_
  by_cases k0:Ar l (i+1+1+1+1+1+1+1+1+1) 3=0
  ·have d0:decide (((Ar l (i+1+1+1+1+1+1+1+1+1) 3:Nat):Int)>0)=false:=decide_eq_false (by omega)
   refine Ap d0 ?_
   refine AO ?_
   try simp only [BJ,BX]
   refine AR ?_
   exact ⟨o2,rfl,ho2⟩
  have d0:decide (((Ar l (i+1+1+1+1+1+1+1+1+1) 3:Nat):Int)>0)=true:=decide_eq_true (by omega)
  refine Ap d0 ?_
  refine BH ?_
  refine BH ?_
  refine AU rfl ?_
  refine AR ?_
  exact ⟨{ o2 with ar:=4096,qb:=4000,qo:=9,qr:=9,lg:=200 },rfl,ho2.sl,(by decide:4096<=4096),ho2.fg,(by decide:200<=200),(by decide:4000<=4000),(by decide:9<=9),(by decide:9<=9),ho2.fr,ho2.st⟩
 intro G5 L' _ hF
 obtain ⟨o3,zq,rfl,ho3⟩:=hF
 replace zg:=Bd.mk g4
 have g5:=Bg zq
 refine k0 _ _ ?_
 replace zg:=Bd.mk g5
 refine FP hne ?_
 refine AP ?_
 simp -implicitDefEqProofs (disch:=first|omega|decide) only [seval, -Int.reducePow, -Nat.reducePow,cC,pv,Ao,Az,undef,ZW,Dx,Cx,Cw,g5]
 intro w hw
 exact ⟨(o3,i+1+1+1+1+1+1+1+1+1+1),rfl,⟨ho3,by omega⟩,hw.hold 2 rfl,hw.Bz⟩
theorem Np (c:ZX) (hc:c.ok) (W:World):Calls Tryz.prog 42 #[nu c] W fun e w'=>e = .returned (.int .i64 0)/\Below W.heap.size W w':=by
 obtain ⟨⟨a1,a2⟩,a3,⟨a4,a5⟩,a6,a7,a8,a9,⟨a10,a11⟩,⟨a12,a13⟩⟩:=hc
 have d1:¬((c.sl:Int)<0):=by omega
 have d2:¬((c.sl:Int)>4096):=by omega
 have d3:¬((c.ar:Int)<0):=by omega
 have d4:¬((c.ar:Int)>1048576):=by omega
 have d5:¬((c.fg:Int)=0):=by omega
 have d6:¬((c.lg:Int)<0):=by omega
 have d7:¬((c.lg:Int)>65536):=by omega
 have d8:¬((c.qb:Int)<0):=by omega
 have d9:¬((c.qo:Int)<0):=by omega
 have d10:¬((c.qr:Int)<0):=by omega
 have d11:¬((c.fr:Int)<1):=by omega
 have d12:¬((c.fr:Int)>256):=by omega
 have d13:¬((c.st:Int)<0):=by omega
 have d14:¬((c.st:Int)>16384):=by omega
 unfold nu
 refine Ab (M:=[]) Tryz.func42 [.tmp 2] (St.nil _ _) ?_
 refine AQ rfl fun K k0=>?_
 have zs:=Bd.mk De
 refine Ah ?_
 intro b1 hb1
 refine k0 _ _ ?_
 refine AB fun K k0=>?_
 refine AQ rfl fun K k1=>?_
 simp only [List.append_eq,List.cons_append,List.nil_append]
 simp -implicitDefEqProofs (maxSteps:=1000000) (disch:=first|omega|decide) only [seval, -Int.reducePow, -Nat.reducePow,cC,pv,Ao,Az,undef,De,d1,d2,d3,d4,d5,d6,d7,d8,d9,d10,d11,d12,d13,d14]
 refine k1 _ _ ?_
 refine AL ?_
 refine Ah ?_
 refine AO (k0 _ _ ?_)
 refine Aq ?_
 refine AP (Cc fun w hw=>?_)
 exact ⟨rfl,hw.below⟩
structure tq (c:ZX) (x:Aw):Prop where
 N:x.N=c.ar
 Gw:x.Gw=[]
 tn:x.tn=0
 us:x.us=[]
 l:x.l=[]
 lim:x.lim=⟨c.qb,c.qo,c.qr⟩
 mt:x.mt=[]
 cap:x.cap=c.lg
 es:x.es=[]
 ms:x.ms=[]
 bn:x.bn=c.sl
 D8:x.D8=List.replicate c.sl FH
 sv:x.sv=List.replicate 65 0
 tb:V3 c.sl c.fg x.tb
def nhV (x:Aw):Value:=.tuple #[.pointer (some ⟨x.b,0,none⟩),.int .i64 0]
theorem ACI:IQ Tryz.prog 63=some (42,1,24):=by kernel_rfl
theorem ACJ:IQ Tryz.prog 48=some (3,1,8):=by kernel_rfl
def iz (a:Int):List Value:=[.int .i64 a]
theorem iX (l:List Int):l.flatMap iz=Bf l:=by
 induction l with
 | nil=>rfl
 | cons a l ih=>rw [List.flatMap_cons,ih];rfl
section
variable {P:Program} {M:List Nat} {W w:World} {L R:List Ai} {K:Ai}
theorem YP (n:Nat) (h:St M W L w):St M W (Cj ((List.replicate n FH).map Cb)::L) w:=by
 induction n with
 | zero=>exact St.Cj (R:=[]) h
 | succ n ih =>
  have h1:St M W (Cb FH::Cj ((List.replicate n FH).map Cb)::L) w:=ih.addN _ _
  have h2:=Wd h1
  have h3:(List.replicate (n+1) FH).map Cb=(List.replicate n FH).map Cb++[Cb FH]:=by rw [List.replicate_succ',List.map_append];rfl
  rw [h3]
  exact h2
end
theorem ny (c:ZX) (hc:c.ok) (W:World) :
  Calls Tryz.prog 13 #[nu c] W
  fun en w' => ∃x:Aw,en = .returned (nhV x)/\tq c x/\St [] W (Al x) w':=by
 have hcc:=hc
 obtain ⟨⟨a1,a2⟩,a3,⟨a4,a5⟩,a6,a7,a8,a9,⟨a10,a11⟩,⟨a12,a13⟩⟩:=hc
 have e64:IntKind.i64.wrap (c.fg:Int)=(c.fg:Int):=Ae (by omega) (by omega)
 unfold nu
 refine Ab (M:=[]) Tryz.func13 [.tmp 2,.tmp 3] (St.nil _ _) ?_
 refine AQ rfl fun K k0=>?_
 have zs:=Bd.mk De
 refine Ah ?_
 intro b1 hb1
 refine k0 _ _ ?_
 refine AV [1] fun G1 g1=>?_
 replace g1:=Bi g1
 refine AB fun K k0=>?_
 refine AQ rfl fun K k1=>?_
 have zg:=Bd.mk g1
 refine AR ?_
 refine Aa (fun w hw=>Np c hcc w) ?_
 try refine AR ?_
 refine k1 _ _ ?_
 refine BH ?_
 refine AL ?_
 refine AR ?_
 refine AO (k0 _ _ ?_)
 refine AQ rfl fun K k0=>?_
 refine AR ?_
 intro b5 hb5 mi
 refine k0 _ _ ?_
 refine AV [1,5] fun G2 g2=>?_
 replace g2:=Bg g2
 replace zg:=Bd.mk g2
 refine BH ?_
 refine AQ rfl fun K k0=>?_
 refine Ap e64 ?_
 refine DN sM (fun x=>H9 x) (fun t=>V3 c.sl c.fg t/\b5<t.tb/\b5<t.s.sb/\b1<t.tb/\b1<t.s.sb) (fun w hw=>(Rk c.sl (c.fg:Int) (by omega) ⟨by omega,by omega⟩ w).mono (by
  rintro en w2 ⟨t,h1,h2,h3⟩
  have o5:=(hw.own _ (AZ (k:=0) rfl) b5 (by simp [Ai.foot])).2
  have o1:=(hw.own _ (AZ (k:=1) rfl) b1 (by simp [Ai.foot])).2
  have ot:=(h3.own _ (AZ (k:=0) rfl) t.tb (by simp [Ai.foot])).1
  have os:=(h3.own _ (AZ (k:=2) rfl) t.s.sb (by simp [Ai.foot])).1
  simp only [List.not_mem_nil,or_false] at ot os
  exact ⟨t,h1,⟨h2,by omega,by omega,by omega,by omega⟩,h3⟩)) ?_
 rintro t ⟨htn,n1,n2,n3,n4⟩
 unfold sM H9 I4
 dsimp only [List.cons_append,List.nil_append]
 refine AR ?_
 refine k0 _ _ ?_
 refine BF [6,7,0,1,2,3,4,5] (by decide) ?_
 simp only [Ag,nth]
 refine AV [1,5] fun G3 g3=>?_
 replace g3:=Bg g3
 replace zg:=Bd.mk g3
 refine BH ?_
 refine BH ?_
 refine AQ rfl fun K k0=>?_
 refine AR ?_
 refine M8 (n:=c.sl) (kl:=.i64) (kc:=.i64) NR FH ACI (by kernel_rfl) rfl (by omega) (by simp -implicitDefEqProofs (disch:=first|omega|decide) only [seval, -Int.reducePow, -Nat.reducePow,cC,pv,Ao,Az,undef,De,g3]) (by simp -implicitDefEqProofs (disch:=first|omega|decide) only [seval, -Int.reducePow, -Nat.reducePow,cC,pv,Ao,Az,undef,De,g3]) (by omega) (by omega) ?_
 intro gB AKV AHV AKW
 simp -implicitDefEqProofs (disch:=first|omega|decide) only [seval, -Int.reducePow, -Nat.reducePow,cC,pv,Ao,Az,undef,De,g3] at AHV
 refine AR ?_
 refine k0 _ _ ?_
 refine AQ rfl fun K k0=>?_
 refine AR ?_
 refine M8 (n:=65) (kl:=.i64) (kc:=.i64) iz (0:Int) ACJ (by kernel_rfl) rfl (by omega) (by simp -implicitDefEqProofs (disch:=first|omega|decide) only [seval, -Int.reducePow, -Nat.reducePow,cC,pv,Ao,Az,undef,De,g3]) (by simp -implicitDefEqProofs (disch:=first|omega|decide) only [seval, -Int.reducePow, -Nat.reducePow,cC,pv,Ao,Az,undef,De,g3]) (by omega) (by omega) ?_
 intro gS AKX AHW AKY
 simp -implicitDefEqProofs (disch:=first|omega|decide) only [seval, -Int.reducePow, -Nat.reducePow,cC,pv,Ao,Az,undef,De,g3] at AHW
 obtain ⟨z,hz⟩:∃z,List.replicate 65 (0:Int)=z:=⟨_,rfl⟩
 rw [iX,hz]
 refine AR ?_
 refine k0 _ _ ?_
 obtain ⟨x,hx⟩:∃x:Aw,(⟨b5,.int .i64 (c.sl:Int),.int .i64 (c.ar:Int),.int .u32 (c.fg:Int),.int .i64 (c.lg:Int),.int .i64 (c.qb:Int),.int .i64 (c.qo:Int),.int .i64 (c.qr:Int),.int .i64 (c.fr:Int),.int .i64 (c.st:Int),none,0,0,[],c.ar,none,0,0,[],t,none,0,0,[],⟨c.qb,c.qo,c.qr⟩,none,0,0,[],c.lg,none,0,0,[],none,0,0,[],some ⟨gB,0,none⟩,c.sl,c.sl,List.replicate c.sl FH,gS,z⟩:Aw)=x:=⟨_,rfl⟩
 refine Cq (Al x) (fun w hw=>?_) ?_
 ·have h1:=St.Fw (t:=3) (size:=1) (n:=65) hw (by rw [CG,<-hz,List.length_replicate]) (by omega)
  have h2:=St.Fw (t:=42) (size:=1) (n:=c.sl) h1.swp (by rw [Cr F6,List.length_replicate]) (by omega)
  have h3:=St.Cj (R:=H9 t) (h2.pick (ix:=[4,5,6,7,8,9,0,1,2,3]) (by decide))
  have h4:=YP c.sl (St.Cj (R:=[]) h3)
  have h5:=(((((h4.addN 3 1).addN 68 5).addN 213 4).addN 163 4).addN 103 2).addN 81 2
  have h6:=h5.pick (ix:=[0,1,2,3,4,5,9,10,8,7,6,11]) (by decide)
  have h7:=St.Cj (R:=DW x) (L:=[Du x]) (by rw [<-hx];exact h6)
  exact h7.swp
 have hxb:x.b=b5:=by rw [<-hx]
 unfold Al
 rw [Am hxb]
 refine BH ?_
 refine AP (Br fun w hw=>?_)
 refine ⟨x,by unfold nhV;rw [hxb], ?_,by show St [] W (Al x) w;unfold Al;rw [Am hxb];exact hw⟩
 rw [<-hx]
 exact ⟨rfl,rfl,rfl,rfl,rfl,rfl,rfl,rfl,rfl,rfl,rfl,rfl,hz.symm,htn⟩
theorem nz (n:Nat):(Rh n).Nodup:=by
 unfold Rh
 rw [List.nodup_iff_pairwise_ne,List.pairwise_map]
 exact (List.nodup_range (n:=n)).imp fun h e=>h (by omega)
theorem tq.t {c:ZX} {x:Aw} (h:tq c x) (hc:c.ok):Fq x 0:=by
 obtain ⟨⟨a1,a2⟩,a3,⟨a4,a5⟩,a6,a7,a8,a9,⟨a10,a11⟩,⟨a12,a13⟩⟩:=hc
 have htb:=h.tb.inv (by omega) ⟨by omega,by omega⟩
 have hlv:∀s,B_ x.tb.s s=false:=fun s=>by
  unfold B_
  rw [h.tb.s.Cz,List.getElem?_replicate]
  split<;>rfl
 have hen:∀s,Ba x.tb s=en0:=fun s=>by
  unfold Ba
  rw [h.tb.E,List.getElem?_replicate]
  split<;>rfl
 have hnl:∀s,¬B_ x.tb.s s=true:=fun s hs=>by rw [hlv] at hs;cases hs
 refine ⟨{ tb:=htb,te:=⟨fun s hs=>absurd hs (hnl s),fun s=>by rw [hen];decide⟩,sm:=by rw [h.tb.en];omega,tf:=⟨fun s hs=>⟨hlv s, ?_⟩, ?_,by rw [h.tb.s.first];omega⟩,l:=by rw [h.l];exact Nat.le_refl _,lc:=fun b hb=>(by rw [h.l] at hb;cases hb),Oa:=by rw [h.mt];exact RS.nil,PG:=fun s hs=>(by rw [h.mt] at hs;cases hs),lim := ?_,l5 := ?_,rm := ?_,ru:=fun u hu=>(by rw [h.us] at hu;cases hu),bn:=by rw [h.bn,h.tb.en],bl:=by rw [h.D8,h.bn,List.length_replicate],ck:=fun t ht=>(by rw [h.Gw] at ht;cases ht),tn:=by rw [h.tn];omega,tl:=by rw [h.Gw,h.tn];rfl,Ox:=fun s hs=>absurd hs (hnl s),el:=by rw [h.tb.E,h.tb.en,List.length_replicate] },by rw [h.es];exact Nat.le_refl _,by rw [h.ms];exact Nat.le_refl _,fun e he=>(by rw [h.es] at he;cases he)⟩
 ·unfold EC
  rw [h.tb.s.gen,List.getElem?_replicate]
  split<;>decide
 ·rw [h.tb.s.DC]
  exact nz _
 ·rw [h.lim];exact ⟨⟨by show (0:Int)<=(c.qb:Int);omega,by show (c.qb:Int)<=_;omega⟩,⟨by show (0:Int)<=(c.qo:Int);omega,by show (c.qo:Int)<=_;omega⟩,⟨by show (0:Int)<=(c.qr:Int);omega,by show (c.qr:Int)<=_;omega⟩⟩
 ·rw [h.lim];exact ⟨⟨by show (0:Int)<=(c.qb:Int);omega,by show (c.qb:Int)<=_;omega⟩,⟨by show (0:Int)<=(c.qo:Int);omega,by show (c.qo:Int)<=_;omega⟩,⟨by show (0:Int)<=(c.qr:Int);omega,by show (c.qr:Int)<=_;omega⟩⟩
 ·rw [h.us,h.N]
  exact ⟨_,[],by omega,by omega,fun e he=>(by cases he),List.Pairwise.nil,rfl,fun o l=>⟨fun h=>(by cases h),fun h=>(by cases h)⟩,List.nodup_nil⟩
theorem Fq.wr2 {x y:Aw} {n:Nat} (h:Fq x n) (hn:n<1000) {p op:Int} {ar:Nat} {Core:Aw->Int->Nat->Prop} {v:Int} (har:ar<18446744073709551616)
  (hC:∀z h,EG x p=0->Core z v h->LC x z/\Dv z (9*n+9) (n+1)/\h<18446744073709551616) (hr:Kb x p op ar Core v y):Fq y (n+1)/\y.b=x.b:=by
 refine ⟨h.wr hn har hC hr, ?_⟩
 unfold Kb at hr
 by_cases h0:EG x p=0
 ·rw [if_pos h0] at hr
  obtain ⟨z,hh,hc,hrec⟩:=hr
  exact hrec.kp.2.2.1.trans (hC z hh h0 hc).1.b
 ·rw [if_neg h0] at hr
  exact hr.2.kp.2.2.1
theorem Fq.wSt {x y:Aw} {n:Nat} (h:Fq x n) (hn:n<1000) {p op v:Int} {ar o:Nat} (har:ar<18446744073709551616) (ho:o<18446744073709551616) (hr:Kb x p op ar (fun z v h=>tF x ⟨v,z⟩/\h=o) v y):Fq y (n+1)/\y.b=x.b :=
 h.wr2 hn har (fun z hh h0 hc=>⟨hc.1.r.q,(h.j.eqB hc.1.r).up (by omega) (by omega) (by omega),by rw [hc.2];exact ho⟩) hr
theorem Fq.wTr {x y:Aw} {n:Nat} (h:Fq x n) (hn:n<1000) {p q op v:Int} {ar o:Nat} (har:ar<18446744073709551616) (ho:o<18446744073709551616) (hr:Kb x p op ar (fun z v h=>vF x p o q ⟨v,z⟩/\h=o) v y):Fq y (n+1)/\y.b=x.b :=
 h.wr2 hn har (fun z hh h0 hc=>⟨hc.1.q,(h.j.iM (Da (IG h0)) hc.1).up (by omega) (by omega) (by omega),by rw [hc.2];exact ho⟩) hr
theorem Fq.wLn {x y:Aw} {n:Nat} (h:Fq x n) (hn:n<1000) {p q ac mo op v:Int} {ar o:Nat} (har:ar<18446744073709551616) (ho:o<18446744073709551616) (hr:Kb x p op ar (fun z v h=>sS x p o q ac mo ⟨v,z⟩/\h=o) v y):Fq y (n+1)/\y.b=x.b :=
 h.wr2 hn har (fun z hh h0 hc=>⟨hc.1.q,(h.j.UU hc.1).up (by omega) (by omega) (by omega),by rw [hc.2];exact ho⟩) hr
theorem Fq.wRl {x y:Aw} {n:Nat} (h:Fq x n) (hn:n<1000) {p op v:Int} {ar o:Nat} (har:ar<18446744073709551616) (ho:o<18446744073709551616) (hr:Kb x p op ar (fun z v h=>vG x p o ⟨v,z⟩/\h=o) v y):Fq y (n+1)/\y.b=x.b :=
 h.wr2 hn har (fun z hh h0 hc=>⟨hc.1.q,(h.j.rls hc.1).up (by omega) (by omega) (by omega),by rw [hc.2];exact ho⟩) hr
theorem Fq.wFr {x y:Aw} {n:Nat} (h:Fq x n) (hn:n<1000) {p op v:Int} {ar o:Nat} (har:ar<18446744073709551616) (ho:o<18446744073709551616) (hr:Kb x p op ar (fun z v h=>ax x z p o v/\h=o) v y):Fq y (n+1)/\y.b=x.b :=
 h.wr2 hn har (fun z hh h0 hc=>⟨hc.1.q,(hc.1.j h.j (by omega)).up (by omega) (by omega) (by omega),by rw [hc.2];exact ho⟩) hr
theorem ni.b {x:Aw} {p tag:Int} {d:Nat} {i:iT} (hr:ni x p tag d i):i.y.b=x.b:=by
 have h1:=hr.r
 by_cases h0:EG x p=0
 ·rw [if_pos h0] at h1
  obtain ⟨z,h2,h3⟩:=h1
  exact h3.kp.2.2.1.trans h2.q.b
 ·rw [if_neg h0] at h1
  exact h1.2.kp.2.2.1
theorem RdR.b {x y:Aw} {p op er:Int} {o ar:Nat} (hr:RdR x p op o ar er y):y.b=x.b:=by
 rcases hr with rfl|⟨-, -,hr⟩
 ·rfl
 ·exact hr.kp.2.2.1
theorem ZY {cap:Int} {es es':List DZ} {e:DZ} {r:Int} (h:(r,es')=Lx cap es e):es'=es\/es'=es++[e]:=by
 unfold Lx at h
 split at h
 ·exact .inl (congrArg Prod.snd h)
 ·split at h
  ·exact .inl (congrArg Prod.snd h)
  ·exact .inr (congrArg Prod.snd h)
theorem Fq.sta {x y:Aw} {n:Nat} (h:Fq x n) (hn:n<1000) {p:Int} (hr:ABw x y p):Fq y (n+1)/\y.b=x.b:=by
 have h1:=hr.r
 by_cases h0:gJ x p=0
 ·rw [if_pos h0] at h1
  obtain ⟨i,rfl,hi⟩:=h1
  have he:=ZY hi
  have h3:=h.es
  have h4:=h.ms
  refine ⟨⟨((h.j.MC _).I7 i).up (by omega) (by omega) (by omega), ?_, ?_, ?_⟩,rfl⟩
  ·show i.es.length<=n+1
   rcases he with he|he<;>rw [he]
   ·omega
   ·rw [List.length_append,List.length_singleton];omega
  ·show x.ms.length<=n+1
   omega
  ·show ∀e∈i.es,e.ok
   intro e hm
   rcases he with he|he<;>rw [he] at hm
   ·exact h.ok e hm
   ·rcases List.mem_append.1 hm with hm|hm
    ·exact h.ok e hm
    ·rw [List.mem_singleton.1 hm];exact ⟨(by decide:0<18446744073709551616),(by decide:0<18446744073709551616)⟩
 ·rw [if_neg h0] at h1
  rw [h1]
  exact ⟨h.up (Nat.le_succ n) hn,rfl⟩
theorem KZ.q {x y:Aw} {es:List En} (hr:KZ x y es):LC x y:=by
 induction hr with
 | nil=>exact LC.refl _
 | snoc h1 h2 h3 ih =>
  have h4:=h2.q
  exact ⟨h4.b.trans ih.b,h4.es.trans ih.es,h4.ms.trans ih.ms,h4.cap.trans ih.cap,h4.sv.trans ih.sv⟩
theorem Fq.end_ {x:Aw} {n:Nat} (h:Fq x n) (hn:n<1000) {p:Int} {i:gV} (hr:EdR x p i):Fq i.y (n+1)/\i.y.b=x.b:=by
 have hj:=(h.j.end_ (by omega) (by omega) hr).up (k':=9*(n+1)) (c':=n+1) (by omega) (by omega) (by omega)
 have h0:=hr.r
 by_cases ha:DK x.sv p=false
 ·rw [if_pos ha] at h0
  rw [h0.2.2]
  exact ⟨h.up (Nat.le_succ n) hn,rfl⟩
 rw [if_neg ha] at h0
 obtain ⟨-,l,m,x3,es,ei,g⟩:=h0
 have hq:=g.fr.q
 have hy:=g.fy
 have he:=ZY g.ev
 have h3:=h.es
 have h4:=h.ms
 have hsm:=h.j.sm
 have hfn:i.n<=8:=by
  rw [g.fn,g.fe]
  have h5:=List.length_filter_le (fun e:En=>decide (e.ow=p)) (Ju x.tb x.tb.en)
  have h6:=Ms x.tb x.tb.en
  omega
 have hyb:i.y.b=x.b:=by rw [hy];exact hq.b
 have hys:i.y.es=ei.es:=by rw [hy];rfl
 have hym:i.y.ms=x.ms:=by rw [hy];exact hq.ms
 refine ⟨⟨hj, ?_, ?_, ?_⟩,hyb⟩
 ·rw [hys]
  rcases he with he|he<;>rw [he]
  ·omega
  ·rw [List.length_append,List.length_singleton];omega
 ·rw [hym];omega
 ·rw [hys]
  intro e hm
  rcases he with he|he<;>rw [he] at hm
  ·exact h.ok e hm
  ·rcases List.mem_append.1 hm with hm|hm
   ·exact h.ok e hm
   ·rw [List.mem_singleton.1 hm];exact ⟨(by decide:0<18446744073709551616),(by show i.n<_;omega)⟩
theorem Fq.reg {x:Aw} {n:Nat} (h:Fq x n) {len:Int} {fs:List Fd} {i:RgI} (hr:RgR x len fs i):Fq i.y n/\i.y.b=x.b:=by
 have hj:=h.j.reg hr
 by_cases hc:I9 len fs=0/\i.er=0/\i.tag=x.tn+1
 ·obtain ⟨-,A,c,t, -, -,hy⟩:=hr.new hc
  have e1:i.y.es=x.es:=by rw [hy];rfl
  have e2:i.y.ms=x.ms:=by rw [hy];rfl
  have e3:i.y.b=x.b:=by rw [hy];rfl
  exact ⟨⟨hj,by rw [e1];exact h.es,by rw [e2];exact h.ms,by rw [e1];exact h.ok⟩,e3⟩
 ·rw [hr.old hc];exact ⟨h,rfl⟩
structure tu where
 b:Nat
 ts:List U7
 j:Nat
def t_ (i:tu):Value:=.slice (some ⟨i.b,0,none⟩) 3 3
structure ACK (i:tu):Prop where
 ck:∀t∈i.ts,I9 t.len t.fs=0
 len:i.ts.length=3
 j:i.j<=40
theorem ACN:type_of% (And.intro (And.intro (And.intro @Nq.eq_1 @Gn.eq_1) (And.intro @WV.eq_1 (And.intro @ZQ.eq_1 @QY.eq_1))) (And.intro (And.intro @C_.eq_1 @tape.eq_1) (And.intro @Nat.mul_one (And.intro @G_ @cM)))):=(And.intro (And.intro (And.intro @Nq.eq_1 @Gn.eq_1) (And.intro @WV.eq_1 (And.intro @ZQ.eq_1 @QY.eq_1))) (And.intro (And.intro @C_.eq_1 @tape.eq_1) (And.intro @Nat.mul_one (And.intro @G_ @cM))))
theorem YQ (b:Nat) (TA:Option Addr) (tn tc:Nat) (l:List Nat) (hl:∀x∈l,x<65536) (W:World) (hst:St (Ak [C_ b TA tn tc 0,.row (.slice TA tn tc) 118 1 tn (Dn l)]) W [C_ b TA tn tc 0,.row (.slice TA tn tc) 118 1 tn (Dn l)] W) :
  Calls Tryz.prog 7 #[.pointer (some ⟨b,0,none⟩)] W
  fun en w' => ∃i:tu,en = .returned (t_ i)/\ACK i/\St (Ak [C_ b TA tn tc 0,.row (.slice TA tn tc) 118 1 tn (Dn l)]) W [.blk i.b 81 (cl RQ i.ts),Cj (i.ts.map Mx),C_ b TA tn tc i.j,.row (.slice TA tn tc) 118 1 tn (Dn l)] w':=by
 have t1:=Qg l 0
 obtain ⟨i1,hi1⟩:∃j,(ER l 0).2.2=j:=⟨_,rfl⟩
 have t2:=Qg l i1
 obtain ⟨i2,hi2⟩:∃j,(ER l i1).2.2=j:=⟨_,rfl⟩
 have t3:=Qg l i2
 obtain ⟨i3,hi3⟩:∃j,(ER l i2).2.2=j:=⟨_,rfl⟩
 rw [hi1] at t1
 rw [hi2] at t2
 rw [hi3] at t3
 obtain ⟨M,hM⟩:∃M,Ak [C_ b TA tn tc 0,.row (.slice TA tn tc) 118 1 tn (Dn l)]=M:=⟨_,rfl⟩
 rw [hM] at hst ⊢
 clear hM
 refine Ab (M:=M) Tryz.func7 [.tmp 2]  hst ?_
 have zs:=Bd.mk ACN
 refine Aq ?_
 refine AQ rfl fun K k0=>?_
 refine Ah ?_
 refine Jn 0 (fun w hw=>Nr b TA tn tc l 0 w (hw.hold 0 rfl) (Sl.Av hw (AZ (k:=1) rfl)) (fun _=>hw.GK 1 0 rfl rfl (by decide)) hl (by omega)) rfl ?_
 rw [hi1]
 intro A1 n1 c1 hl1 hr1
 refine Ah ?_
 refine Jn 1 (fun w hw=>Nr b TA tn tc l i1 w (hw.hold 1 rfl) (Sl.Av hw (AZ (k:=2) rfl)) (fun _=>hw.GK 2 1 rfl rfl (by decide)) hl (by omega)) rfl ?_
 rw [hi2]
 intro A2 n2 c2 hl2 hr2
 refine Ah ?_
 refine Jn 2 (fun w hw=>Nr b TA tn tc l i2 w (hw.hold 2 rfl) (Sl.Av hw (AZ (k:=3) rfl)) (fun _=>hw.GK 3 2 rfl rfl (by decide)) hl (by omega)) rfl ?_
 rw [hi3]
 intro A3 n3 c3 hl3 hr3
 refine Ah ?_
 intro b9 pK h9
 refine k0 _ _ ?_
 refine AP (Cc fun w hw=>?_)
 refine ⟨⟨b9,[⟨(ER l 0).1,A1,n1,c1,(ER l 0).2.1⟩,⟨(ER l i1).1,A2,n2,c2,(ER l i1).2.1⟩,⟨(ER l i2).1,A3,n3,c3,(ER l i2).2.1⟩],i3⟩,rfl,⟨?_,rfl,by show i3<=40;omega⟩, ?_⟩
 ·intro t ht
  simp only [List.mem_cons,List.not_mem_nil,or_false] at ht
  rcases ht with rfl|rfl|rfl
  ·exact t1.1
  ·exact t2.1
  ·exact t3.1
 ·have h1:=hw.pick (ix:=[3,2,1,0,4,5]) (by decide)
  exact (St.Cj (R:=[_,_,_]) h1).swp
def M9 (l:List Nat):List Value:=l.map fun x:Nat=>Value.int .u64 (x:Int)
theorem n_ (l:List Nat):(M9 l).length=l.length:=by simp [M9]
theorem oC {l:List Nat} {i v:Nat} (h:l[i]? = some v):(M9 l)[i]? = some (.int .u64 (v:Int)):=by unfold M9;rw [List.getElem?_map,h];rfl
structure BsI where
 A:Option Addr
 n:Nat
 c:Nat
 l:List Nat
def bsV (i:BsI):Value:=.slice i.A i.n i.c
theorem u8N (z:Int):∃y:Nat,IntKind.u8.wrap z=(y:Int):=⟨(IntKind.u8.wrap z).toNat,by rw [IntKind.wrap_u8];omega⟩
theorem bG (n:Int) (v:Int) (hn:n<=11) (W:World):Calls Tryz.prog 27 #[.int .i64 n,.int .u64 v] W
  fun en w' => ∃i:BsI,en = .returned (bsV i)/\i.n<=11/\St [] W [.row (.slice i.A i.n i.c) 5 1 i.n (Gs i.l)] w':=by
 refine Ab (M:=[]) Tryz.func27 [.tmp 4] (St.nil _ _) ?_
 have zs:=Bd.mk Wo
 refine Aq ?_
 refine Aq ?_
 refine AV [0,1,5] fun G1 g1=>?_
 replace g1:=Bi g1
 refine D5 5 1 ?_
 refine AB fun K k0=>?_
 have zg:=Bd.mk g1
 refine BH ?_
 refine AV [0,1,5,6] fun G2 g2=>?_
 replace g2:=Bg g2
 refine Ad ?_
 refine BP (fun F' L' => ∃(A:Option Addr) (k c:Nat) (l:List Nat),Az F' G2 [0,1]/\F' 5 = .slice A k c/\F' 6 = .int .i64 (k:Int)/\L'=[.row (.slice A k c) 5 1 k (Gs l)]/\k<=11) (fun F' L'=>200000-(intOf (F' 6)).toNat) ?_ ?_
 ·refine ⟨none,0,0,[], ?_⟩
  replace zg:=Bd.mk g2
  refine AR ?_
  exact rfl
 intro G3 L' hI
 obtain ⟨A,k,c,l,zq,KO,Jq,rfl,hk⟩:=hI
 replace zg:=Bd.mk g2
 have g3:=And.intro (Bg zq) (And.intro KO Jq)
 refine AB fun K k1=>?_
 replace zg:=Bd.mk (And.intro g2 g3)
 refine BH ?_
 refine Dl (fun hc=>?_) fun hc=>?_
 ·refine AO ?_
  try simp only [BJ,BX]
  have hit:k<11:=by have:=of_decide_eq_true ‹decide ((k:Int)<n)=true›;omega
  obtain ⟨y,hy⟩:=u8N (IntKind.u8.wrap v+IntKind.u8.wrap ((k:Int)*37))
  refine k1 _ _ ?_
  refine AB fun K k1=>?_
  refine Ad ?_
  refine BG [0] (by decide) ?_
  refine AU rfl ?_
  refine Ap hy ?_
  intro bE PE
  refine Bj 1 WX rfl (fun w hw=>Bp (size:=1) (.head _) rfl hw) rfl (by omega) (by omega) ?_
  intro A2 c2 hl2 hr2
  refine AR ?_
  refine k1 _ _ ?_
  refine AF rfl ?_
  refine AR ?_
  refine ⟨⟨A2,k+1,c2,l++[y], ?_⟩, ?_⟩
  ·refine Ap @Int.natCast_add ?_
   rw [eZ]
   exact ⟨rfl,by omega⟩
  ·simp only [intOf];omega
 refine BM (k0 _ _ ?_)
 refine BH ?_
 refine AP (Br fun w hw=>?_)
 exact ⟨⟨A,k,c,l⟩,rfl,hk,hw⟩
theorem ZZ (A:Option Addr) (n c:Nat) (hs:List Nat) (k:Int) (hh:∀h∈hs,h<18446744073709551616) (W:World) (hE:Sl W W.heap.size 1 A n c (M9 hs)):Calls Tryz.prog 47 #[.slice A n c,.int .i64 k] W
  fun en w'=>(∃h:Nat,en = .returned (.int .u64 (h:Int))/\h<18446744073709551616)/\Below W.heap.size W w':=by
 have hlen:hs.length=n:=by have:=hE.len;rw [n_] at this;omega
 refine Ab (M:=[]) Tryz.func47 [.tmp 4] (St.nil _ _) ?_
 have zs:=Bd.mk Wo
 refine Aq ?_
 refine AV [0,1] fun G4 g4=>?_
 replace g4:=Bi g4
 refine AB fun K k0=>?_
 refine AB fun K k1=>?_
 refine A9 (fun _ _=>True) (fun F' L'=>Az F' G4 [0,1]/\F' 12 = .bool (decide (k<0\/(n:Int)<=k))/\L'=[]) ?_ ?_
 ·refine AF rfl ?_
  have zg:=Bd.mk g4
  refine AR ?_
  repeat' ((first|refine Ck (fun hg=>?_) (fun hg=>?_)|refine Cm (fun hg=>?_) (fun hg=>?_))<;>((try simp only [Bool.not_eq_true',Bool.not_eq_false',decide_eq_true_eq,decide_eq_false_iff_not] at hg);(try simp -implicitDefEqProofs (disch:=first|omega|decide) only [seval, -Int.reducePow, -Nat.reducePow,cC,pv,Ao,Az,undef,Wo,hg,g4])))
  all_goals (repeat' refine And.intro ?_ ?_)
  all_goals (first|with_reducible rfl|(refine congrArg Value.bool ?_;rw [Bool.eq_iff_iff];(try simp only [decide_eq_true_eq,eq_self,true_and,and_true,false_and,and_false,true_or,or_true,false_or,or_false,not_true_eq_false,not_false_eq_true,true_iff,iff_true,false_iff,iff_false,Bool.false_eq_true,Bool.not_eq_true',Bool.not_eq_true,decide_eq_false_iff_not,Bool.and_eq_true,Bool.or_eq_true])<;>omega)|(refine congrArg (Value.int _) ?_;omega)|omega)
 intro G5 L' _ hF
 obtain ⟨zq,iY,rfl⟩:=hF
 have zg:=Bd.mk g4
 have g5:=And.intro (Bg zq) iY
 refine k1 _ _ ?_
 replace zg:=Bd.mk g5
 refine Dl (fun hc=>?_) fun hc=>?_
 ·refine BH ?_
  refine AP (Br fun w hw=>?_)
  exact ⟨⟨0,rfl,by decide⟩,hw.below⟩
 have hc':=of_decide_eq_false hc
 obtain ⟨k,rfl⟩:∃k':Nat,k=(k':Int):=⟨k.toNat,by omega⟩
 obtain ⟨h,hg⟩:∃h,hs[k]? = some h:=⟨_,List.getElem?_eq_getElem (by omega)⟩
 obtain ⟨bA,oA,rfl,KD, -⟩:=hE.cells (by omega)
 refine AO (k0 _ _ ?_)
 refine AQ rfl fun K k0=>?_
 refine AR ?_
 refine Aj (hE.ld1 (m:=1) (i:=k) (v:=.int .u64 (h:Int)) rfl (oC hg)) ?_
 refine AR ?_
 refine k0 _ _ ?_
 refine AP (Br fun w hw=>?_)
 exact ⟨⟨h,rfl,hh h (List.mem_of_getElem? hg)⟩,hw.below⟩
theorem Wp (o:TH) (ho:o.ok) (A:Option Addr) (n c:Nat) (hs:List Nat) (hn:n<=100000) (hh:∀h∈hs,h<18446744073709551616) (W:World) (hE:Sl W W.heap.size 1 A n c (M9 hs)):Calls Tryz.prog 18 #[vK o,.slice A n c] W
  fun en w'=>(∃h:Nat,en = .returned (.int .u64 (h:Int))/\h<18446744073709551616)/\Below W.heap.size W w':=by
 have LF:=ho.ob
 unfold vK
 refine Ab (M:=[]) Tryz.func18 [.tmp 4] (St.nil _ _) ?_
 refine AQ rfl fun K k0=>?_
 have zs:=Bd.mk Wo
 refine Ah ?_
 intro b2 hb2
 refine k0 _ _ ?_
 refine AB fun K k0=>?_
 refine Aq ?_
 refine AL ?_
 by_cases h0:(o.raw:Int)=0
 case neg =>
  refine D_ h0 ?_
  refine Aq ?_
  refine AP (Cc fun w hw=>?_)
  exact ⟨⟨o.raw,rfl,ho.raw⟩,hw.below⟩
 have d0:decide ((o.raw:Int)=0)=true:=decide_eq_true h0
 refine D_ d0 ?_
 refine AO (k0 _ _ ?_)
 refine AQ rfl fun K k0=>?_
 refine Ah ?_
 refine Et (fun h:Nat=>.int .u64 (h:Int)) (fun h=>h<18446744073709551616) (fun w hw=>ZZ A n c hs _ hh w (hE.at hw)) ?_
 intro h mJ
 refine Ah ?_
 refine k0 _ _ ?_
 refine AP (Cc fun w hw=>?_)
 exact ⟨⟨h,rfl,mJ⟩,hw.below⟩
theorem Wq (o:TH) (ho:o.ok) (A:Option Addr) (n c:Nat) (hs:List Nat) (hn:n<=100000) (hh:∀h∈hs,h<18446744073709551616) (W:World) (hE:Sl W W.heap.size 1 A n c (M9 hs)):Calls Tryz.prog 29 #[vK o,.slice A n c] W
  fun en w'=>(∃h:Nat,en = .returned (.int .u64 (h:Int))/\h<18446744073709551616)/\Below W.heap.size W w':=by
 have LF:=ho.fr
 unfold vK
 refine Ab (M:=[]) Tryz.func29 [.tmp 4] (St.nil _ _) ?_
 refine AQ rfl fun K k0=>?_
 have zs:=Bd.mk Wo
 refine Ah ?_
 intro b2 hb2
 refine k0 _ _ ?_
 refine AQ rfl fun K k0=>?_
 refine Ah ?_
 refine Et (fun h:Nat=>.int .u64 (h:Int)) (fun h=>h<18446744073709551616) (fun w hw=>ZZ A n c hs _ hh w (hE.at hw)) ?_
 intro h mJ
 refine Ah ?_
 refine k0 _ _ ?_
 refine AP (Cc fun w hw=>?_)
 exact ⟨⟨h,rfl,mJ⟩,hw.below⟩
theorem Qh {P:Program} {M:List Nat} {W:World} {L:List Ai} {ι:Sort _} {g:FuncId} {args:Array Value} {K:Bool->Value->List Ai->Prop} (A G:List Ai) (hp:(A++G).Perm L) (f:ι->Value) (Lf:ι->List Ai) (φ:ι->Prop)
  (h:∀w,St M W L w->St (Ak G) w G w->Calls P g args w (fun e w' => ∃i,e = .returned (f i)/\φ i/\St (Ak G) w (Lf i) w'))
  (hK:∀i,φ i->K true (f i) (Lf i++A)):Ia P M W g args L K:=fun w hw=>GX A G f Lf φ (fun w h1 h2=>h w (h1.perm hp.symm) h2) hK w (hw.perm hp)
theorem bH (c:ZX) (hc:c.ok) (tb:Nat) (ts:List U7) (h3:ts.length=3) (hck:∀t∈ts,I9 t.len t.fs=0) (W:World) (hE:Sl W W.heap.size 2 (some ⟨tb,0,none⟩) 3 3 (cl RQ ts)) (hT:∀t∈ts,Sl W W.heap.size 2 t.A t.n t.c (cl QV t.fs)) :
  Calls Tryz.prog 6 #[nu c,.slice (some ⟨tb,0,none⟩) 3 3] W
  fun en w' => ∃x:Aw,en = .returned (.pointer (some ⟨x.b,0,none⟩))/\Fq x 0/\St [] W (Al x) w':=by
 unfold nu
 refine Ab (M:=[]) Tryz.func6 [.tmp 4] (St.nil _ _) ?_
 refine AQ rfl fun K k0=>?_
 have zs:=Bd.mk De
 refine Ah ?_
 intro b2 hb2
 refine k0 _ _ ?_
 refine AV [1,2] fun G1 g1=>?_
 replace g1:=Bi g1
 refine AQ rfl fun K k0=>?_
 have zg:=Bd.mk g1
 refine AR ?_
 refine DN nhV (fun x=>Al x) _ (fun w hw=>ny c hc w) ?_
 intro x0 hx0
 have ht0:=hx0.t hc
 unfold nhV Al Du
 dsimp only [List.cons_append,List.nil_append]
 refine AR ?_
 refine k0 _ _ ?_
 refine AB fun K k0=>?_
 refine BH ?_
 refine AL ?_
 refine AR ?_
 refine AO (k0 _ _ ?_)
 refine AB fun K k0=>?_
 refine BH ?_
 refine BF [0,1] (by decide) ?_
 simp only [Ag,nth]
 refine AV [1,5,7] fun G2 g2=>?_
 replace g2:=Bg g2
 refine Ad ?_
 refine BP (fun F' L' => ∃(i:Nat) (x:Aw),F' 1=G2 1/\F' 5 = .pointer (some ⟨x0.b,0,none⟩)/\F' 7 = .int .i64 (i:Int)/\L'=[.blk x0.b 65 [x.y0,x.y1,x.y2,x.y3,x.y4,x.y5,x.y6,x.y7,x.y8,.slice x.TA x.tn x.tc,.int .i64 x.N,.slice x.UA x.un x.uc,.pointer (some ⟨x.tb.tb,0,none⟩),.slice x.LA x.ln x.lc,.int .i64 x.lim.qb,.int .i64 x.lim.qo,.int .i64 x.lim.qr,.slice x.MA x.mn x.mc,.int .i64 x.cap,.slice x.EA x.en x.ec,.slice x.SA x.sn x.sc,.slice x.BA x.bn x.bc,.slice (some ⟨x.g,0,none⟩) 65 65],Cj (DW x)]/\i<=3/\Fq x 0/\x.b=x0.b) (fun F' L'=>200000-(intOf (F' 7)).toNat) ?_ ?_
 ·refine ⟨0,x0, ?_⟩
  replace zg:=Bd.mk g2
  refine AR ?_
  exact ht0
 intro G3 L' hI
 obtain ⟨i,x,fK,KO,Lv,rfl,⟨hi,ht,hxb⟩⟩:=hI
 replace zg:=Bd.mk g2
 have g3:=And.intro (Bg fK) (And.intro KO Lv)
 refine AB fun K k1=>?_
 replace zg:=Bd.mk (And.intro g2 g3)
 refine BH ?_
 refine Dl (fun hc=>?_) fun hc=>?_
 ·refine AO ?_
  try simp only [BJ,BX]
  have hit:i<3:=by have:=of_decide_eq_true ‹decide ((i:Int)<3)=true›;omega
  obtain ⟨t,hti⟩:∃t,ts[i]? = some t:=⟨_,List.getElem?_eq_getElem (by omega)⟩
  have htm:=List.mem_of_getElem? hti
  have AKe:=IB (hck t htm)
  have hTt:=hT t htm
  have htl:=hTt.len
  rw [Tq FF] at htl
  refine k1 _ _ ?_
  refine FJ (fun w hw=>(hw.own _ (AZ (k:=0) rfl) x0.b (by simp [Ai.foot])).1) ?_
  intro hxW
  simp only [List.not_mem_nil,or_false] at hxW
  have htW:tb<W.heap.size:=by
   obtain ⟨b',o',e2,hlt, -⟩:=hE.cells (by omega)
   cases e2
   exact hlt
  refine AB fun K k1=>?_
  refine Ad ?_
  refine Jk ?_
  refine BR [(true,0),(true,1),(true,2),(true,3),(true,4),(true,5),(true,6),(false,7)] [7] CB rfl (by kernel_rfl) (by kernel_rfl) rfl rfl ?_
  refine AR ?_
  refine Aj ((by rw [show (⟨tb,i*2,none⟩:Addr)=⟨tb,0+i*2,none⟩ by rw [Nat.zero_add]];exact hE.ld (vs:=RQ t) (by omega) (by kernel_rfl) (eu M4 hti))) ?_
  refine AR ?_
  simp only [RQ,List.length_cons,List.length_nil,true_and]
  refine Qh [] (Al x) (by unfold Al;rw [Am hxb];exact List.Perm.refl _) rgV (fun i=>Al i.y) (RgR x t.len t.fs) (fun w hw0 hw=>Ub x hxb t.A t.n t.c t.fs t.len (by have:=ht.j.tn;omega) w (hTt.at hw0) (fun bb oo e hm=>?_) hw) ?_
  ·obtain ⟨b',o',e2,hlt, -⟩:=hTt.cells (by omega)
   rw [e] at e2
   cases e2
   obtain ⟨r,hr,hm⟩:=List.mem_flatMap.1 hm
   have h8:=(hw0.own r (by unfold Al at hr;rw [Am hxb] at hr;exact hr) bb hm).1
   simp only [List.not_mem_nil,or_false] at h8
   omega
  rintro j hj
  obtain ⟨ht2,hb2⟩:=ht.reg hj
  obtain ⟨z,hz⟩:∃z,j.y=z:=⟨_,rfl⟩
  rw [hz] at ht2 hb2 ⊢
  have hzb:z.b=x0.b:=hb2.trans hxb
  unfold rgV Al
  rw [Am hzb]
  dsimp only [List.cons_append,List.nil_append]
  refine AR ?_
  refine k1 _ _ ?_
  refine AF rfl ?_
  refine AR ?_
  refine ⟨⟨i+1,z, ?_⟩, ?_⟩
  ·refine Ap @Int.natCast_add ?_
   exact ⟨by omega,ht2,hzb⟩
  ·simp only [intOf];omega
 refine BM (k0 _ _ ?_)
 refine BH ?_
 refine AP (Br fun w hw=>?_)
 exact ⟨x,by rw [hxb],ht,by show St [] W (Al x) w;unfold Al;rw [Am hxb];exact hw⟩
theorem uA {M:List Nat} {W w:World} {L:List Ai} {x:Aw} {A:Option Addr} {n c m size:Nat} {t:TypeId} {xs:List Value} (h:St M W (.row (.slice A n c) t size m xs::Du x::Cj (DW x)::L) w):U4 A (Ak (Al x)):=fun b o e hb=>by
 obtain ⟨r,hr,hb⟩:=List.mem_flatMap.1 hb
 have h1:=(List.pairwise_cons.1 h.apart).1 r (by
  cases hr with
  | head=>exact .head _
  | tail _ hr=>cases hr with
   | head=>exact .tail _ (.head _)
   | tail _ hr=>cases hr) b (by subst e;simp [Ai.foot,Value.ownBlock])
 exact h1 hb
structure uB where
 er:Int
 v:Int
 SA:Option Addr
 sn:Nat
 sc:Nat
 A:Option Addr
 n:Nat
 c:Nat
 hs:List Nat
 y:Aw
def uC (i:uB):Value:=.tuple #[.agg #[.int .i64 i.er,.int .u64 i.v,.slice i.SA i.sn i.sc],.slice i.A i.n i.c]
def Lm (A:Option Addr) (n c:Nat) (hs:List Nat):Ai:=.row (.slice A n c) 39 1 n (M9 hs)
structure AHa (x:Aw) (m n:Nat) (i:uB):Prop where
 t:Fq i.y (m+1)
 b:i.y.b=x.b
 hh:∀h∈i.hs,h<18446744073709551616
 n:i.n<=n+1
theorem qF:IQ Tryz.prog 35=some (39,1,8):=by kernel_rfl
theorem oD (l:List Nat):ones (M9 l)=true:=by simp [ones,M9,Value.oneCell']
theorem iZ (l:List Nat) (x:Nat):M9 (l++[x])=M9 l++[.int .u64 (x:Int)]:=by simp [M9]
theorem ic (x:Aw) {b:Nat} (hb:x.b=b) (o:TH) (ho:o.ok) (A:Option Addr) (n c:Nat) (hs:List Nat) {m:Nat} (ht:Fq x m) (hm:m<1000) (hn:n<=90000) (hh:∀h∈hs,h<18446744073709551616) (W:World) (hst:St (Ak (Al x++[Lm A n c hs])) W (Al x++[Lm A n c hs]) W) :
  Calls Tryz.prog 9 #[.pointer (some ⟨b,0,none⟩),vK o,.slice A n c] W
  fun en w' => ∃i:uB,en = .returned (uC i)/\AHa x m n i/\St (Ak (Al x++[Lm A n c hs])) W (Al i.y++[Lm i.A i.n i.c i.hs]) w':=by
 subst hb
 have hj:=ht.j
 have hes:=ht.es
 have hms:=ht.ms
 have hl:=hj.l
 have hmt:=hj.Oa.len
 have hu:=hj.Wi
 have hon:=ho.n2
 obtain ⟨M,hM⟩:∃M,Ak (Al x++[Lm A n c hs])=M:=⟨_,rfl⟩
 rw [hM] at hst ⊢
 clear hM
 unfold Al Du Lm at hst
 dsimp only [List.cons_append,List.nil_append] at hst
 unfold vK
 refine DY (M:=M) (n:=191) [.cell 6 44,.tmp 7] rfl Tryz.func9 rfl rfl (Nat.le_of_ble_eq_true rfl)  hst ?_
 refine AQ rfl fun K k0=>?_
 have zs:=Bd.mk De
 refine Ah ?_
 intro b4 hb4 r_ b6 hb6 hf6
 refine k0 _ _ ?_
 refine BF [2,3,1,0,4] (by decide) ?_
 simp only [Ag,nth]
 refine AQ rfl fun K k0=>?_
 refine Ah ?_
 refine Et (fun h:Nat=>.int .u64 (h:Int)) (fun h=>h<18446744073709551616) (fun w hw=>Wp o ho A n c hs (by omega) hh w (Sl.Av hw (AZ (k:=4) rfl))) ?_
 intro hx hhx
 refine Ah ?_
 refine k0 _ _ ?_
 refine AQ rfl fun K k0=>?_
 refine Ah ?_
 intro b9 pK hf9
 refine k0 _ _ ?_
 refine BF [1,2,0,3,4,5] (by decide) ?_
 simp only [Ag,nth]
 refine AV [0,2,4,6,8,9] fun G4 g4=>?_
 replace g4:=Bi g4
 refine AB fun K k0=>?_
 refine A9 (fun _ _=>True) (fun F' L' => ∃(y:Aw) (er v:Int) (SA:Option Addr) (sn sc:Nat) (A2:Option Addr) (n2 c2:Nat) (hs2:List Nat),Az F' G4 [6,9]/\F' 2 = .slice A2 n2 c2/\L'=[.blk b9 44 [.int .i64 er,.int .u64 v,.slice SA sn sc],.blk b6 44 [.int .i64 0,.int .u64 0,.slice none 0 0],.blk x.b 65 [y.y0,y.y1,y.y2,y.y3,y.y4,y.y5,y.y6,y.y7,y.y8,.slice y.TA y.tn y.tc,.int .i64 y.N,.slice y.UA y.un y.uc,.pointer (some ⟨y.tb.tb,0,none⟩),.slice y.LA y.ln y.lc,.int .i64 y.lim.qb,.int .i64 y.lim.qo,.int .i64 y.lim.qr,.slice y.MA y.mn y.mc,.int .i64 y.cap,.slice y.EA y.en y.ec,.slice y.SA y.sn y.sc,.slice y.BA y.bn y.bc,.slice (some ⟨y.g,0,none⟩) 65 65],Cj (DW y),.row (.slice A2 n2 c2) 39 1 n2 (M9 hs2)]/\Fq y (m+1)/\y.b=x.b/\(∀h∈hs2,h<18446744073709551616)/\n2<=n+1) ?_ ?_
 ·have zg:=Bd.mk g4
  refine BH ?_
  refine Ad ?_
  refine BH ?_
  refine AL ?_
  by_cases k12:o.k=12
  ·have d12:decide (o.k=12)=true:=decide_eq_true k12
   refine Ap d12 ?_
   refine BG [2,4,0,1,5] (by decide) ?_
   refine AU rfl ?_
   refine AR ?_
   refine Af [.blk b9 44 [.int .i64 0,.int .u64 0,.slice none 0 0],.blk b4 41 [.int .i64 o.k,.int .i64 o.pl,.int .i64 o.ob,.int .i64 o.fr,.int .u64 (o.raw:Int),.int .i64 o.n1,.int .i64 o.n2,.int .i64 o.n3,.int .u64 o.v,.int .u64 (o.d:Int)],.blk b6 44 [.int .i64 0,.int .u64 0,.slice none 0 0],.row (.slice A n c) 39 1 n (M9 hs)] (Al x) (List.perm_append_comm (l₁:=[_,_,_,_]) (l₂:=[_,_])) (fun _:Aw=>.int .i64 (gJ x o.pl)) (fun y=>Al y) _ (fun w hw=>aW x rfl o.pl (by omega) w hw) ?_
   intro z hz
   obtain ⟨hz1,hz2⟩:=ht.sta hm hz
   have hzb:z.b=x.b:=hz2
   unfold Al
   rw [Am hzb]
   dsimp only [List.cons_append,List.nil_append]
   refine AR ?_
   exact ⟨z,(gJ x o.pl),0,none,0,0,A,n,c,hs,rfl,rfl,hz1,hz2,hh,Nat.le_succ n⟩
  refine Ap k12 ?_
  refine BH ?_
  refine AL ?_
  by_cases k13:o.k=13
  ·have d13:decide (o.k=13)=true:=decide_eq_true k13
   refine Ap d13 ?_
   refine AQ rfl fun K k1=>?_
   refine AR ?_
   refine Af [.blk b9 44 [.int .i64 0,.int .u64 0,.slice none 0 0],.blk b4 41 [.int .i64 o.k,.int .i64 o.pl,.int .i64 o.ob,.int .i64 o.fr,.int .u64 (o.raw:Int),.int .i64 o.n1,.int .i64 o.n2,.int .i64 o.n3,.int .u64 o.v,.int .u64 (o.d:Int)],.blk b6 44 [.int .i64 0,.int .u64 0,.slice none 0 0],.row (.slice A n c) 39 1 n (M9 hs)] (Al x) (List.perm_append_comm (l₁:=[_,_,_,_]) (l₂:=[_,_])) gW (fun i=>Al i.y) _ (fun w hw=>nL x rfl o.pl _ (by omega) hj.tb hj.te hj.sm (by omega) (by omega) hj.PG (by omega) hj.bn (by omega) w hw) ?_
   rintro ⟨en,ee,z⟩ hz
   obtain ⟨hz1,hz2⟩:=ht.end_ hm hz
   dsimp only at hz1 hz2
   have hzb:z.b=x.b:=hz2
   unfold gW Al
   rw [Am hzb]
   dsimp only [List.cons_append,List.nil_append]
   refine AR ?_
   refine k1 _ _ ?_
   refine BG [2,4,0,1,5] (by decide) ?_
   refine AU rfl ?_
   refine AR ?_
   exact ⟨z,ee,_,none,0,0,A,n,c,hs,rfl,rfl,hz1,hz2,hh,Nat.le_succ n⟩
  refine Ap k13 ?_
  refine BH ?_
  refine AL ?_
  by_cases k1:o.k=1
  ·have d1:decide (o.k=1)=true:=decide_eq_true k1
   refine Ap d1 ?_
   refine AQ rfl fun K k1=>?_
   refine AR ?_
   refine Af [.blk b9 44 [.int .i64 0,.int .u64 0,.slice none 0 0],.blk b4 41 [.int .i64 o.k,.int .i64 o.pl,.int .i64 o.ob,.int .i64 o.fr,.int .u64 (o.raw:Int),.int .i64 o.n1,.int .i64 o.n2,.int .i64 o.n3,.int .u64 o.v,.int .u64 (o.d:Int)],.blk b6 44 [.int .i64 0,.int .u64 0,.slice none 0 0],.row (.slice A n c) 39 1 n (M9 hs)] (Al x) (List.perm_append_comm (l₁:=[_,_,_,_]) (l₂:=[_,_])) tT (fun i=>Al i.y) _ (fun w hw=>YO x rfl o.pl o.n1 o.d ho.d ht hm w hw) ?_
   rintro ⟨hd,ee,z⟩ hz
   have hz1:=ht.alw hm hz
   have hz2:=hz.b
   have hz3:=hz.hh
   dsimp only at hz1 hz2 hz3
   have hzb:z.b=x.b:=hz2
   unfold tT Al
   rw [Am hzb]
   dsimp only [List.cons_append,List.nil_append]
   refine AR ?_
   refine k1 _ _ ?_
   refine BH ?_
   refine AV [2,6,9,12,13] fun G5 g5=>?_
   replace g5:=Bg g5
   replace zg:=Bd.mk (And.intro g4 g5)
   refine BH ?_
   refine AL ?_
   by_cases k0:ee=0
   ·have d0:decide (ee=0)=true:=decide_eq_true k0
    refine Ap d0 ?_
    refine BG [4,6,2,3,0] (by decide) ?_
    refine AU rfl ?_
    refine AR ?_
    intro bA KD hfA
    refine CR 0 qF rfl rfl (fun w hw=>EU (AZ (k:=6) rfl) hw) (oD _) (by omega) (by omega) ?_
    intro A3 c3 hl3 hr3
    refine Ap (And.intro @Nat.zero_add @List.nil_append.{0}) ?_
    intro bE PE Rj
    refine Bj 1 qF rfl (fun w hw=>Bp (size:=1) (AZ (k:=0) rfl) rfl hw) rfl (by omega) (by omega) ?_
    intro A4 c4 hl4 hr4
    refine AR ?_
    refine ⟨z,ee,(hd:Int),none,0,0,A4,n+1,c4,hs++[hd],rfl, ?_,hz1,hz2, ?_,Nat.le_refl _⟩
    ·rw [iZ]
    ·intro h hm2
     rcases List.mem_append.1 hm2 with h2|h2
     ·exact hh h h2
     ·rw [List.mem_singleton.1 h2];exact hz3
   ·refine Ap k0 ?_
    refine BG [2,4,0,1,5] (by decide) ?_
    refine AO ?_
    try simp only [BJ,BX]
    refine AR ?_
    exact ⟨z,ee,_,none,0,0,A,n,c,hs,rfl,rfl,hz1,hz2,hh,Nat.le_succ n⟩
  refine Ap k1 ?_
  refine BH ?_
  refine AL ?_
  by_cases k2:o.k=2
  ·have d2:decide (o.k=2)=true:=decide_eq_true k2
   refine Ap d2 ?_
   refine BG [2,4,0,1,5] (by decide) ?_
   refine AU rfl ?_
   refine AR ?_
   refine Af [.blk b9 44 [.int .i64 0,.int .u64 0,.slice none 0 0],.blk b4 41 [.int .i64 o.k,.int .i64 o.pl,.int .i64 o.ob,.int .i64 o.fr,.int .u64 (o.raw:Int),.int .i64 o.n1,.int .i64 o.n2,.int .i64 o.n3,.int .u64 o.v,.int .u64 (o.d:Int)],.blk b6 44 [.int .i64 0,.int .u64 0,.slice none 0 0],.row (.slice A n c) 39 1 n (M9 hs)] (Al x) (List.perm_append_comm (l₁:=[_,_,_,_]) (l₂:=[_,_])) EH (fun i=>Al i.y) _ (fun w hw=>ay x rfl o.pl hx hhx ht hm w hw) ?_
   rintro ⟨er,z⟩ hz
   dsimp only at hz
   obtain ⟨hz1,hz2⟩:=ht.wFr hm (by omega) hhx hz
   have hzb:z.b=x.b:=hz2
   unfold EH Al
   rw [Am hzb]
   dsimp only [List.cons_append,List.nil_append]
   refine AR ?_
   exact ⟨z,er,0,none,0,0,A,n,c,hs,rfl,rfl,hz1,hz2,hh,Nat.le_succ n⟩
  refine Ap k2 ?_
  refine BH ?_
  refine AL ?_
  by_cases k3:o.k=3
  ·have d3:decide (o.k=3)=true:=decide_eq_true k3
   refine Ap d3 ?_
   refine AQ rfl fun K k1=>?_
   refine AR ?_
   refine Af [.blk b9 44 [.int .i64 0,.int .u64 0,.slice none 0 0],.blk b4 41 [.int .i64 o.k,.int .i64 o.pl,.int .i64 o.ob,.int .i64 o.fr,.int .u64 (o.raw:Int),.int .i64 o.n1,.int .i64 o.n2,.int .i64 o.n3,.int .u64 o.v,.int .u64 (o.d:Int)],.blk b6 44 [.int .i64 0,.int .u64 0,.slice none 0 0],.row (.slice A n c) 39 1 n (M9 hs)] (Al x) (List.perm_append_comm (l₁:=[_,_,_,_]) (l₂:=[_,_])) tX (fun i=>Al i.y) _ (fun w hw=>iU x rfl o.pl hx o.n1 hhx ht hm w hw) ?_
   rintro ⟨gv,ee,z⟩ hz
   have hz1:=ht.rd hm hhx (Im _) hz.r
   have hz2:=hz.r.b
   dsimp only at hz1 hz2
   have hzb:z.b=x.b:=hz2
   unfold tX Al
   rw [Am hzb]
   dsimp only [List.cons_append,List.nil_append]
   refine AR ?_
   refine k1 _ _ ?_
   refine BG [2,4,0,1,5] (by decide) ?_
   refine AU rfl ?_
   refine AR ?_
   exact ⟨z,ee,gv,none,0,0,A,n,c,hs,rfl,rfl,hz1,hz2,hh,Nat.le_succ n⟩
  refine Ap k3 ?_
  refine BH ?_
  refine AL ?_
  by_cases k4:o.k=4
  ·have d4:decide (o.k=4)=true:=decide_eq_true k4
   refine Ap d4 ?_
   refine BG [2,4,0,1,5] (by decide) ?_
   refine AU rfl ?_
   refine AR ?_
   refine Af [.blk b9 44 [.int .i64 0,.int .u64 0,.slice none 0 0],.blk b4 41 [.int .i64 o.k,.int .i64 o.pl,.int .i64 o.ob,.int .i64 o.fr,.int .u64 (o.raw:Int),.int .i64 o.n1,.int .i64 o.n2,.int .i64 o.n3,.int .u64 o.v,.int .u64 (o.d:Int)],.blk b6 44 [.int .i64 0,.int .u64 0,.slice none 0 0],.row (.slice A n c) 39 1 n (M9 hs)] (Al x) (List.perm_append_comm (l₁:=[_,_,_,_]) (l₂:=[_,_])) EH (fun i=>Al i.y) _ (fun w hw=>ng x rfl o.pl hx o.n1 o.v hhx ht hm w hw) ?_
   rintro ⟨er,z⟩ hz
   dsimp only at hz
   obtain ⟨hz1,hz2⟩:=ht.wSt hm (Im _) hhx hz
   have hzb:z.b=x.b:=hz2
   unfold EH Al
   rw [Am hzb]
   dsimp only [List.cons_append,List.nil_append]
   refine AR ?_
   exact ⟨z,er,0,none,0,0,A,n,c,hs,rfl,rfl,hz1,hz2,hh,Nat.le_succ n⟩
  refine Ap k4 ?_
  refine BH ?_
  refine AL ?_
  by_cases k5:o.k=5
  ·have d5:decide (o.k=5)=true:=decide_eq_true k5
   refine Ap d5 ?_
   refine AQ rfl fun K k1=>?_
   refine AR ?_
   refine Af [.blk b9 44 [.int .i64 0,.int .u64 0,.slice none 0 0],.blk b4 41 [.int .i64 o.k,.int .i64 o.pl,.int .i64 o.ob,.int .i64 o.fr,.int .u64 (o.raw:Int),.int .i64 o.n1,.int .i64 o.n2,.int .i64 o.n3,.int .u64 o.v,.int .u64 (o.d:Int)],.blk b6 44 [.int .i64 0,.int .u64 0,.slice none 0 0],.row (.slice A n c) 39 1 n (M9 hs)] (Al x) (List.perm_append_comm (l₁:=[_,_,_,_]) (l₂:=[_,_])) (fun i:nV×Aw=>ae i.1) (fun i:nV×Aw=>Qb i.1::Al i.2) _ (fun w hw=>az x rfl o.pl hx o.n1 o.n2 hhx ht hm w hw) ?_
   rintro ⟨⟨SA,sn,sc,sl,ee⟩,z⟩ hz
   have hz1:=ht.rd hm hhx (Im _) hz.r
   have hz2:=hz.r.b
   dsimp only at hz1 hz2
   have hzb:z.b=x.b:=hz2
   unfold ae Qb Al
   rw [Am hzb]
   dsimp only [List.cons_append,List.nil_append]
   refine AR ?_
   refine k1 _ _ ?_
   refine BG [3,5,1,2,6] (by decide) ?_
   refine AU rfl ?_
   refine AR ?_
   exact ⟨z,ee,_,SA,sn,sc,A,n,c,hs,rfl,rfl,hz1,hz2,hh,Nat.le_succ n⟩
  refine Ap k5 ?_
  refine BH ?_
  refine AL ?_
  by_cases k6:o.k=6
  ·have d6:decide (o.k=6)=true:=decide_eq_true k6
   refine Ap d6 ?_
   refine BG [3,5,0,1,6] (by decide) ?_
   refine Jk ?_
   refine CF (Ag [3] _) (fun w hw=>hw.pick (by decide)) (by simp only [Ag,nth,Be,Bv,List.mem_cons,true_or,or_true,and_true,eq_self]) [(true,0),(true,1),(true,2),(true,3),(true,4),(true,5),(true,6),(true,7),(true,8),(true,9),(true,10),(false,11),(false,12),(true,13),(false,14)] [14] CB rfl (by kernel_rfl) (by kernel_rfl) rfl rfl ?_
   refine AR ?_
   refine DN bsV (fun i=>[.row (.slice i.A i.n i.c) 5 1 i.n (Gs i.l)]) _ (fun w hw=>bG _ o.v (by omega) w) ?_
   rintro ⟨bA,bn,bc,bl⟩ hbs
   dsimp only at hbs
   unfold bsV
   dsimp only [List.cons_append,List.nil_append]
   refine AR ?_
   refine Qh [.row (.slice bA bn bc) 5 1 bn (Gs bl),.blk b9 44 [.int .i64 0,.int .u64 0,.slice none 0 0],.blk b4 41 [.int .i64 o.k,.int .i64 o.pl,.int .i64 o.ob,.int .i64 o.fr,.int .u64 (o.raw:Int),.int .i64 o.n1,.int .i64 o.n2,.int .i64 o.n3,.int .u64 o.v,.int .u64 (o.d:Int)],.blk b6 44 [.int .i64 0,.int .u64 0,.slice none 0 0],.row (.slice A n c) 39 1 n (M9 hs)] (Al x) (.cons _ (List.perm_append_comm (l₁:=[_,_,_,_]) (l₂:=[_,_]))) EH (fun i=>Al i.y) _ (fun w hw0 hw=>av x rfl o.pl hx o.n1 bA bn bc bl hhx (by omega) ht hm w (Sl.Av hw0 (.head _)) (uA hw0) hw) ?_
   rintro ⟨er,z⟩ hz
   dsimp only at hz
   obtain ⟨hz1,hz2⟩:=ht.wSt hm (Im _) hhx hz
   have hzb:z.b=x.b:=hz2
   unfold EH Al
   rw [Am hzb]
   dsimp only [List.cons_append,List.nil_append]
   refine AR ?_
   exact ⟨z,er,0,none,0,0,A,n,c,hs,rfl,rfl,hz1,hz2,hh,Nat.le_succ n⟩
  refine Ap k6 ?_
  refine BH ?_
  refine AL ?_
  by_cases k7:o.k=7
  ·have d7:decide (o.k=7)=true:=decide_eq_true k7
   refine Ap d7 ?_
   refine BG [2,4,0,1,5] (by decide) ?_
   refine Jk ?_
   refine CF (Ag [3] _) (fun w hw=>hw.pick (by decide)) (by simp only [Ag,nth,Be,Bv,List.mem_cons,true_or,or_true,and_true,eq_self]) [(true,0),(true,1),(true,2),(true,3),(true,4),(true,5),(true,6),(true,7),(true,9),(true,10),(true,11),(true,12),(false,8),(false,13),(true,14),(false,15)] [15] CB rfl (by kernel_rfl) (by kernel_rfl) rfl rfl ?_
   refine AR ?_
   refine Et (fun h:Nat=>.int .u64 (h:Int)) (fun h=>h<18446744073709551616) (fun w hw=>Wq o ho A n c hs (by omega) hh w (Sl.Av hw (AZ (k:=5) rfl))) ?_
   intro sx hsx
   refine AR ?_
   refine Af [.blk b9 44 [.int .i64 0,.int .u64 0,.slice none 0 0],.blk b4 41 [.int .i64 o.k,.int .i64 o.pl,.int .i64 o.ob,.int .i64 o.fr,.int .u64 (o.raw:Int),.int .i64 o.n1,.int .i64 o.n2,.int .i64 o.n3,.int .u64 o.v,.int .u64 (o.d:Int)],.blk b6 44 [.int .i64 0,.int .u64 0,.slice none 0 0],.row (.slice A n c) 39 1 n (M9 hs)] (Al x) (List.perm_append_comm (l₁:=[_,_,_,_]) (l₂:=[_,_])) EH (fun i=>Al i.y) _ (fun w hw=>iP x rfl o.pl hx o.n1 sx o.n3 o.n2 hhx hsx ht hm w hw) ?_
   rintro ⟨er,z⟩ hz
   dsimp only at hz
   obtain ⟨hz1,hz2⟩:=ht.wSt hm hsx hhx hz
   have hzb:z.b=x.b:=hz2
   unfold EH Al
   rw [Am hzb]
   dsimp only [List.cons_append,List.nil_append]
   refine AR ?_
   exact ⟨z,er,0,none,0,0,A,n,c,hs,rfl,rfl,hz1,hz2,hh,Nat.le_succ n⟩
  refine Ap k7 ?_
  refine BH ?_
  refine AL ?_
  by_cases k8:o.k=8
  ·have d8:decide (o.k=8)=true:=decide_eq_true k8
   refine Ap d8 ?_
   refine BG [2,4,0,1,5] (by decide) ?_
   refine AU rfl ?_
   refine AR ?_
   refine Af [.blk b9 44 [.int .i64 0,.int .u64 0,.slice none 0 0],.blk b4 41 [.int .i64 o.k,.int .i64 o.pl,.int .i64 o.ob,.int .i64 o.fr,.int .u64 (o.raw:Int),.int .i64 o.n1,.int .i64 o.n2,.int .i64 o.n3,.int .u64 o.v,.int .u64 (o.d:Int)],.blk b6 44 [.int .i64 0,.int .u64 0,.slice none 0 0],.row (.slice A n c) 39 1 n (M9 hs)] (Al x) (List.perm_append_comm (l₁:=[_,_,_,_]) (l₂:=[_,_])) EH (fun i=>Al i.y) _ (fun w hw=>aj x rfl o.pl hx o.n1 hhx ht hm w hw) ?_
   rintro ⟨er,z⟩ hz
   dsimp only at hz
   obtain ⟨hz1,hz2⟩:=ht.wTr hm (Im _) hhx hz
   have hzb:z.b=x.b:=hz2
   unfold EH Al
   rw [Am hzb]
   dsimp only [List.cons_append,List.nil_append]
   refine AR ?_
   exact ⟨z,er,0,none,0,0,A,n,c,hs,rfl,rfl,hz1,hz2,hh,Nat.le_succ n⟩
  refine Ap k8 ?_
  refine BH ?_
  refine AL ?_
  by_cases k9:o.k=9
  ·have d9:decide (o.k=9)=true:=decide_eq_true k9
   refine Ap d9 ?_
   refine BG [2,4,0,1,5] (by decide) ?_
   refine AU rfl ?_
   refine AR ?_
   refine Af [.blk b9 44 [.int .i64 0,.int .u64 0,.slice none 0 0],.blk b4 41 [.int .i64 o.k,.int .i64 o.pl,.int .i64 o.ob,.int .i64 o.fr,.int .u64 (o.raw:Int),.int .i64 o.n1,.int .i64 o.n2,.int .i64 o.n3,.int .u64 o.v,.int .u64 (o.d:Int)],.blk b6 44 [.int .i64 0,.int .u64 0,.slice none 0 0],.row (.slice A n c) 39 1 n (M9 hs)] (Al x) (List.perm_append_comm (l₁:=[_,_,_,_]) (l₂:=[_,_])) EH (fun i=>Al i.y) _ (fun w hw=>ak x rfl o.pl hx o.n1 hhx ht hm w hw) ?_
   rintro ⟨er,z⟩ hz
   dsimp only at hz
   obtain ⟨hz1,hz2⟩:=ht.wLn hm (Im _) hhx hz
   have hzb:z.b=x.b:=hz2
   unfold EH Al
   rw [Am hzb]
   dsimp only [List.cons_append,List.nil_append]
   refine AR ?_
   exact ⟨z,er,0,none,0,0,A,n,c,hs,rfl,rfl,hz1,hz2,hh,Nat.le_succ n⟩
  refine Ap k9 ?_
  refine BH ?_
  refine AL ?_
  by_cases k10:o.k=10
  ·have d10:decide (o.k=10)=true:=decide_eq_true k10
   refine Ap d10 ?_
   refine BG [2,4,0,1,5] (by decide) ?_
   refine AU rfl ?_
   refine AR ?_
   refine Af [.blk b9 44 [.int .i64 0,.int .u64 0,.slice none 0 0],.blk b4 41 [.int .i64 o.k,.int .i64 o.pl,.int .i64 o.ob,.int .i64 o.fr,.int .u64 (o.raw:Int),.int .i64 o.n1,.int .i64 o.n2,.int .i64 o.n3,.int .u64 o.v,.int .u64 (o.d:Int)],.blk b6 44 [.int .i64 0,.int .u64 0,.slice none 0 0],.row (.slice A n c) 39 1 n (M9 hs)] (Al x) (List.perm_append_comm (l₁:=[_,_,_,_]) (l₂:=[_,_])) EH (fun i=>Al i.y) _ (fun w hw=>au x rfl o.pl hx o.n1 hhx ht hm w hw) ?_
   rintro ⟨er,z⟩ hz
   dsimp only at hz
   obtain ⟨hz1,hz2⟩:=ht.wLn hm (Im _) hhx hz
   have hzb:z.b=x.b:=hz2
   unfold EH Al
   rw [Am hzb]
   dsimp only [List.cons_append,List.nil_append]
   refine AR ?_
   exact ⟨z,er,0,none,0,0,A,n,c,hs,rfl,rfl,hz1,hz2,hh,Nat.le_succ n⟩
  refine Ap k10 ?_
  refine BG [2,4,0,1,5] (by decide) ?_
  refine AU rfl ?_
  refine AR ?_
  refine Af [.blk b9 44 [.int .i64 0,.int .u64 0,.slice none 0 0],.blk b4 41 [.int .i64 o.k,.int .i64 o.pl,.int .i64 o.ob,.int .i64 o.fr,.int .u64 (o.raw:Int),.int .i64 o.n1,.int .i64 o.n2,.int .i64 o.n3,.int .u64 o.v,.int .u64 (o.d:Int)],.blk b6 44 [.int .i64 0,.int .u64 0,.slice none 0 0],.row (.slice A n c) 39 1 n (M9 hs)] (Al x) (List.perm_append_comm (l₁:=[_,_,_,_]) (l₂:=[_,_])) EH (fun i=>Al i.y) _ (fun w hw=>iQ x rfl o.pl hx hhx ht hm w hw) ?_
  rintro ⟨er,z⟩ hz
  dsimp only at hz
  obtain ⟨hz1,hz2⟩:=ht.wRl hm (by omega) hhx hz
  have hzb:z.b=x.b:=hz2
  unfold EH Al
  rw [Am hzb]
  dsimp only [List.cons_append,List.nil_append]
  refine AR ?_
  exact ⟨z,er,0,none,0,0,A,n,c,hs,rfl,rfl,hz1,hz2,hh,Nat.le_succ n⟩
 intro G6 L' _ hF
 obtain ⟨y,er,v,SA,sn,sc,A2,n2,c2,hs2,zq,rf,rfl,⟨hz1,hz2,mJ,hn2⟩⟩:=hF
 have zg:=Bd.mk g4
 have g6:=And.intro (Bg zq) rf
 refine k0 _ _ ?_
 replace zg:=Bd.mk g6
 refine BH ?_
 refine AP ?_
 simp -implicitDefEqProofs (disch:=first|omega|decide) only [seval, -Int.reducePow, -Nat.reducePow,cC,pv,Ao,Az,undef,De,Dx,Cx,Cw,g6]
 intro w hw
 refine ⟨⟨er,v,SA,sn,sc,A2,n2,c2,hs2,y⟩,rfl,⟨hz1,hz2,mJ,hn2⟩, ?_⟩
 show St M W [Du y,Cj (DW y),Lm A2 n2 c2 hs2] w
 rw [Am hz2]
 exact hw.pick (ix:=[2,3,4]) (by decide)
end Go.Proofs.YtegonkdandmolaaGreat
