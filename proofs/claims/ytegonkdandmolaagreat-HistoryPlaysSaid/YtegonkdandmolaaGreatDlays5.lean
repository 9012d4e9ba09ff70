import Derived.Test.YtegonkdandmolaaGreatDlays4
set_option linter.unusedVariables false
set_option linter.unusedSimpArgs false
set_option maxRecDepth 100000
set_option maxHeartbeats 4000000
namespace Go.Proofs.YtegonkdandmolaaGreat
open Go.RowKit Go.Shelf
structure GJ where
 A:Option Addr
 n:Nat
 c:Nat
 l:List Bw
def IL (b:Nat) (s0 s1:Value) (x:GJ):List Ai:=[.blk b 159 [s0,s1,.slice x.A x.n x.c],.row (.slice x.A x.n x.c) 163 4 x.n (Au x.l)]
theorem JJ.of {M:List Nat} {W w:World} {L:List Ai} {b:Nat} {t:TypeId} {s0 s1:Value} {A:Option Addr} {n c:Nat} {l:List Bw} (hw:St M W L w) (i j:Nat) (hi:nth L i=some (.blk b t [s0,s1,.slice A n c])) (hj:nth L j=some (.row (.slice A n c) 163 4 n (Au l))) (hl:l.length<=100000):JJ w w.heap.size b 2 A n c l:=by
 have hr:=Sl.Av hw (AZ hj)
 refine ⟨Sl.cell1 (by rw [hw.Dz (AZ hi)];rfl) (hw.own _ (AZ hi) b (by simp [Ai.foot])).2,hr, ?_⟩
 have:=hr.len
 rw [BV] at this
 omega
def KT (a b:Bw):Bool:=decide (a.ob<b.ob)||(decide (a.ob=b.ob)&&decide (a.ho<b.ho))
structure Lh (e:Bw) (rest out P Q:List Bw):Prop where
 rest:rest=P++Q
 out:out=P++e::Q
 gt:∀q∈Q,KT q e=false
 lt:∀p,P.getLast? = some p->KT p e=true
theorem QM {α:Type} {f:α->List Value} {s:Nat} (hf:∀a,(f a).length=s) (P Q:List α) (x y:α):((P++x::Q).flatMap f).take (P.length*s)++f y++((P++x::Q).flatMap f).drop (P.length*s+s)=(P++y::Q).flatMap f:=by
 have h:=Cr hf P
 rw [List.flatMap_append,List.flatMap_append,List.take_left' h,<-List.drop_drop,List.drop_left' h,List.flatMap_cons,List.flatMap_cons,List.drop_left' (hf x)]
 simp [List.append_assoc]
theorem KU {α:Type} (P:List α):P=[]∨∃P' p,P=P'++[p]:=(List.eq_nil_or_concat P).imp id fun ⟨P',p,h⟩=>⟨P',p,h.trans (List.concat_eq_append ..)⟩
theorem Mv {α:Type} (P Q:List α) (x:α):(P++x::Q)[P.length]? = some x:=by simp
theorem KV {α:Type} (P Q:List α) (p x:α):((P++[p])++x::Q)[P.length]? = some p:=by simp
theorem Qv (b:Nat) (s0 s1:Value) (x:GJ) (ho:Int) (hl:x.l.length<=100000) (W:World) (hst:St (Ak (IL b s0 s1 x)) W (IL b s0 s1 x) W) :
  Calls Tryz.prog 51 #[.pointer (some ⟨b,2,none⟩),.int .i64 ho] W
  fun en w' => ∃y:GJ,en = .returned (.int .i64 (ED x.l ho:Int))/\y.l=(x.l.filter fun b => !decide (b.ho=ho))/\St (Ak (IL b s0 s1 x)) W (IL b s0 s1 y) w':=by
 obtain ⟨M,hM⟩:∃M,Ak (IL b s0 s1 x)=M:=⟨_,rfl⟩
 rw [hM] at hst ⊢
 obtain ⟨A,n,c,l⟩:=x
 unfold IL at hst
 dsimp only at hst hl ⊢
 clear hM
 have hlen:l.length=n:=by have:=(Sl.Av hst (AZ (k:=1) rfl)).len;rw [BV] at this;omega
 refine Ab (M:=M) Tryz.func51 [.tmp 4]  hst ?_
 have zs:=Bd.mk Bb
 refine Aq ?_
 refine AQ rfl fun K k0=>?_
 refine Ah ?_
 refine Aa (fun w hw=>Nf (JJ.of hw 0 1 rfl rfl hl) ho) ?_
 try refine Ah ?_
 refine k0 _ _ ?_
 refine Aq ?_
 refine AB fun K k0=>?_
 refine Aq ?_
 refine AV [0,1,5,6,7] fun G1 g1=>?_
 replace g1:=Bi g1
 refine D5 163 4 ?_
 refine Ad ?_
 refine BP (fun F' L' => ∃(i:Nat) (A1:Option Addr) (n1 c1:Nat),Az F' G1 [0,1,5]/\F' 6 = .slice A1 n1 c1/\F' 7 = .int .i64 (i:Int)/\L'=[.row (.slice A1 n1 c1) 163 4 n1 (Au ((l.take i).filter fun b => !decide (b.ho=ho))),.blk b 159 [s0,s1,.slice A n c],.row (.slice A n c) 163 4 n (Au l)]/\i<=n) (fun F' L'=>200000-(intOf (F' 7)).toNat) ?_ ?_
 ·refine ⟨0,none,0,0, ?_⟩
  have zg:=Bd.mk g1
  refine AR ?_
  exact ⟨rfl,Nat.zero_le _⟩
 intro G2 L' hI
 obtain ⟨i,A1,n1,c1,zq,Jq,Lv,rfl,hi⟩:=hI
 have zg:=Bd.mk g1
 have g2:=And.intro (Bg zq) (And.intro Jq Lv)
 refine AB fun K k1=>?_
 replace zg:=Bd.mk (And.intro g1 g2)
 refine BH ?_
 refine Dl (fun hc=>?_) fun hc=>?_
 ·refine AO ?_
  try simp only [BJ,BX]
  have hit:i<n:=by have:=of_decide_eq_true ‹decide ((i:Int)<(n:Int))=true›;omega
  obtain ⟨e,he⟩:∃e,l[i]? = some e:=⟨_,List.getElem?_eq_getElem (by omega)⟩
  have hld:=FB Bu he
  have hfs:=ET he (fun b => !decide (b.ho=ho))
  refine k1 _ _ ?_
  refine EX 0 rfl fun hlA=>?_
  have hn1:n1<=100000:=by
   rw [BV] at hlA
   have h1:((l.take i).filter fun b => !decide (b.ho=ho)).length<=(l.take i).length:=List.length_filter_le _ _
   rw [List.length_take] at h1
   omega
  refine BQ 2 rfl (by omega) fun g DJ hg Bl=>?_
  subst DJ
  simp only [List.eraseIdx_cons_zero,List.eraseIdx_cons_succ,BC,BD,BI,A_,and_true,List.not_mem_nil,or_false,Bb] at Bl hg
  replace hg:=And.intro hg Bl
  clear Bl
  refine AB fun K k1=>?_
  refine Ad ?_
  refine AQ rfl fun K k2=>?_
  refine AR ?_
  refine Aj (BN (i:=i*4+1) (v:=.int .i64 e.ho) (.tail _ (.tail _ (.head _))) rfl (Co Bu he (by omega))) ?_
  refine AR ?_
  refine k2 _ _ ?_
  refine AL ?_
  by_cases he1:e.ho=ho
  ·have hof:((l.take (i+1)).filter fun b => !decide (b.ho=ho))=((l.take i).filter fun b => !decide (b.ho=ho)):=by rw [hfs];simp [he1]
   refine Ap he1 ?_
   refine AO (k1 _ _ ?_)
   refine AF rfl ?_
   refine AR ?_
   refine ⟨⟨i+1,A1,n1,c1, ?_⟩, ?_⟩
   ·rw [hof]
    refine Ap @Int.natCast_add ?_
    omega
   ·simp only [intOf];omega
  ·have hof:((l.take (i+1)).filter fun b => !decide (b.ho=ho))=((l.take i).filter fun b => !decide (b.ho=ho))++[e]:=by rw [hfs];simp [he1]
   refine Ap he1 ?_
   refine BG [0,2,3] (by decide) ?_
   refine AU rfl ?_
   refine AR ?_
   refine Aj (DX (i:=i*4) (vs:=V7 e) (.tail _ (.tail _ (.head _))) (by kernel_rfl) hld) ?_
   refine AR ?_
   simp only [V7,List.length_cons,List.length_nil,true_and]
   refine AR ?_
   intro bE PE Rj
   refine Bj 1 Ld rfl (fun w hw=>Bp (size:=4) (.head _) rfl hw) rfl (by omega) (by omega) ?_
   intro A2 c2 hl2 hr2
   refine AR ?_
   refine k1 _ _ ?_
   refine AF rfl ?_
   refine AR ?_
   refine ⟨⟨i+1,A2,n1+1,c2, ?_⟩, ?_⟩
   ·rw [hof,Dt]
    refine Ap @Int.natCast_add ?_
    omega
   ·simp only [intOf];omega
 refine BM (k0 _ _ ?_)
 have hin:i=n:=by have:=of_decide_eq_false ‹decide ((i:Int)<(n:Int))=false›;omega
 subst hin
 rw [List.take_of_length_le (by omega)]
 refine BH ?_
 refine BH ?_
 refine AP (Br fun w hw=>?_)
 have h9:=hw.pick (ix:=[1,0]) (by decide)
 simp only [Ag,nth] at h9
 exact ⟨⟨A1,n1,c1,_⟩,rfl,rfl,h9⟩
theorem XL (b:Nat) (s0 s1:Value) (x:GJ) (e:Bw) (hl:x.l.length<=100000) (W:World) (hst:St (Ak (IL b s0 s1 x)) W (IL b s0 s1 x) W) :
  Calls Tryz.prog 134 #[.pointer (some ⟨b,2,none⟩),U5 e] W
  fun en w' => ∃y:GJ,en = .returned (.tuple #[])/\(∃P Q,Lh e (Ev x.l e.ob e.ho) y.l P Q)/\St (Ak (IL b s0 s1 x)) W (IL b s0 s1 y) w':=by
 obtain ⟨M,hM⟩:∃M,Ak (IL b s0 s1 x)=M:=⟨_,rfl⟩
 rw [hM] at hst ⊢
 obtain ⟨A,n,c,l⟩:=x
 unfold IL at hst
 dsimp only at hst hl ⊢
 clear hM
 obtain ⟨l0,hl0⟩:∃l0,Ev l e.ob e.ho=l0:=⟨_,rfl⟩
 have AGi:l0.length<=100000:=by
  have h1:(Ev l e.ob e.ho).length<=l.length:=List.length_filter_le _ _
  rw [hl0] at h1
  omega
 rw [hl0]
 refine Ab (M:=M) Tryz.func134 []  hst ?_
 refine AQ rfl fun K k0=>?_
 simp -implicitDefEqProofs (disch:=first|omega|decide) only [seval, -Int.reducePow, -Nat.reducePow,cC,pv,Ao,Az,undef,Bb,U5]
 intro b3 hb3 hf3
 refine k0 _ _ ?_
 refine AV [0,3] fun G3 g3=>?_
 have zs:=Bd.mk Bb
 replace g3:=Bi g3
 refine AB fun K k0=>?_
 refine A9 (fun _ _=>True) (fun F' L' => ∃(A2:Option Addr) (n2 c2:Nat),F' 0=G3 0/\F' 4 = .slice A2 n2 c2/\L'=[.row (.slice A2 n2 c2) 163 4 n2 (Au (l0++[e])),.blk b 159 [s0,s1,.slice A n c]]/\n2=l0.length+1) ?_ ?_
 ·refine E9 [0] (by decide) (by simp only [Ag,nth,Be,Bv,List.mem_cons,true_or,or_true,and_true,eq_self]) (.rd 0 (.rd 1 (.rd 2 (.rd 3 (.rd 4 (.rd 6 (.more 5 (.act 7 (.act 8 (.rd 9 (.done)))) (.act 7 (.act 5 (.act 8 (.rd 9 (.done)))))))))))) [] CB rfl (by kernel_rfl) (by kernel_rfl) (by kernel_rfl) (by kernel_rfl) ?_
  simp only [Ag,nth]
  have zg:=Bd.mk g3
  refine AR ?_
  refine And.intro ?_ ?_
  ·refine Cn (fun A n c=>.slice A n c) (fun w hw=>(hl0▸EF (JJ.of hw 1 2 rfl rfl hl) e.ob e.ho)) ?_
   intro A1 n1 c1 hl1 hr1
   have hn1:l0.length=n1:=by rw [BV] at hl1;omega
   refine AR ?_
   intro bE PE Rj
   refine Bj 1 Ld rfl (fun w hw=>Bp (size:=4) (.head _) rfl hw) rfl (by omega) (by omega) ?_
   intro A2 c2 hl2 hr2
   refine AR ?_
   refine ⟨[0,3],by decide, ?_⟩
   simp only [Ag,nth]
   refine ⟨A2,n1+1,c2, ?_⟩
   rw [Dt]
   refine AR ?_
   omega
  ·intro bE PE Rj
   refine Cn (fun A n c=>.slice A n c) (fun w hw=>(hl0▸EF (JJ.of hw 2 3 rfl rfl hl) e.ob e.ho)) ?_
   intro A1 n1 c1 hl1 hr1
   have hn1:l0.length=n1:=by rw [BV] at hl1;omega
   refine AR ?_
   refine Bj 0 Ld rfl (fun w hw=>Bp (size:=4) (.tail _ (.head _)) rfl hw) rfl (by omega) (by omega) ?_
   intro A2 c2 hl2 hr2
   refine AR ?_
   refine ⟨[0,3],by decide, ?_⟩
   simp only [Ag,nth]
   refine ⟨A2,n1+1,c2, ?_⟩
   rw [Dt]
   refine AR ?_
   omega
 intro G4 L' _ hF
 obtain ⟨A2,n2,c2,Vz,Ou,rfl,hn2⟩:=hF
 have zg:=Bd.mk g3
 have g4:=And.intro (Bg Vz) Ou
 refine k0 _ _ ?_
 refine AB fun K k0=>?_
 replace zg:=Bd.mk g4
 refine BH ?_
 refine AV [0,4,5] fun G5 g5=>?_
 replace g5:=Bg g5
 refine BQ 0 rfl (by omega) fun g DJ hg Bl=>?_
 subst DJ
 simp only [List.eraseIdx_cons_zero,List.eraseIdx_cons_succ,BC,BD,BI,A_,and_true,List.not_mem_nil,or_false,Bb] at Bl hg
 replace hg:=And.intro hg Bl
 clear Bl
 refine Ad ?_
 refine BP (fun F' L' => ∃(k:Nat) (P Q:List Bw),Az F' G5 [0,4]/\F' 5 = .int .i64 (k:Int)/\L'=[.row (.slice (some ⟨g,0,none⟩) n2 c2) 163 4 n2 (Au (P++e::Q)),.blk b 159 [s0,s1,.slice A n c]]/\k=P.length/\l0=P++Q∧∀q∈Q,KT q e=false) (fun F' L'=>(intOf (F' 5)).toNat) ?_ ?_
 ·refine ⟨l0.length,l0,[], ?_⟩
  replace zg:=Bd.mk g5
  refine Ap (And.intro hn2 @Int.natCast_add) ?_
  exact ⟨congrArg (Value.int _) (by omega),fun q hq=>by cases hq⟩
 intro G6 L' hI
 obtain ⟨k,P,Q,zq,KO,rfl,⟨hk,U6,hQ⟩⟩:=hI
 replace zg:=Bd.mk g5
 have g6:=And.intro (Bg zq) KO
 have fw:P.length+Q.length=l0.length:=by rw [U6,List.length_append]
 refine AB fun K k1=>?_
 replace zg:=Bd.mk (And.intro g5 g6)
 refine BH ?_
 refine Dl (fun hc=>?_) fun hc=>?_
 case refine_2 =>
  have hk0:P=[]:=List.eq_nil_of_length_eq_zero (by have:=of_decide_eq_false hc;omega)
  subst hk0
  refine BM (k0 _ _ ?_)
  refine AU rfl ?_
  refine AR ?_
  refine ⟨_,rfl,fun w hw=>?_⟩
  have h9:=hw.pick (ix:=[1,0]) (by decide)
  simp only [Ag,nth] at h9
  exact ⟨⟨some ⟨g,0,none⟩,n2,c2,_⟩,rfl,⟨[],Q,U6,rfl,hQ,fun q hq=>by simp at hq⟩,h9⟩
 have hkp:=of_decide_eq_true hc
 rcases KU P with rfl|⟨P',p,rfl⟩
 ·simp at hk;omega
 have hk2:k=P'.length+1:=by simpa using hk
 have ek:IntKind.i64.wrap ((k:Int)-1)=(P'.length:Int):=by rw [Ae (by omega) (by omega)];omega
 have hP2:P'.length<n2/\k<n2:=by simp at fw;omega
 refine AO (k1 _ _ ?_)
 refine AB fun K k1=>?_
 refine Ad ?_
 refine AB fun K k2=>?_
 refine AB fun K k3=>?_
 refine A9 (fun _ _=>True) (fun F' L'=>Az F' G6 [0,4,5]/\F' 61 = .bool (KT p e)/\L'=[.row (.slice (some ⟨g,0,none⟩) n2 c2) 163 4 n2 (Au ((P'++[p])++e::Q)),.blk b 159 [s0,s1,.slice A n c]]) ?_ ?_
 ·have r1:((P'++[p])++e::Q)[P'.length]? = some p:=KV P' Q p e
  have r2:((P'++[p])++e::Q)[k]? = some e:=by
   have:=Mv (P'++[p]) Q e
   rwa [<-hk] at this
  have RN:=Co (k:=0) Bu r1 (by omega)
  have q11:=Co (k:=1) Bu r1 (by omega)
  have lq:=Co (k:=0) Bu r2 (by omega)
  have q21:=Co (k:=1) Bu r2 (by omega)
  obtain ⟨E,hE1⟩:∃E,Au ((P'++[p])++e::Q)=E:=⟨_,rfl⟩
  rw [hE1]
  rw [<-Au,hE1] at RN q11 lq q21
  refine BR [(true,0),(true,1),(true,2),(true,3),(true,4),(true,5),(true,6),(true,7),(true,8),(true,9),(true,10),(true,11),(true,12),(true,13),(true,14),(true,15),(true,16),(true,17),(true,18),(true,19),(true,20),(true,21),(true,22),(true,23),(true,24),(true,25),(true,26),(true,27),(true,28),(true,29),(true,30),(true,31),(true,32),(true,33),(true,34),(true,35),(true,36),(true,37),(true,38),(true,39)] [] CB rfl (by kernel_rfl) (by kernel_rfl) rfl rfl ?_
  refine Ap ek ?_
  refine Aj (BN (m:=1) (v:=.int .i64 p.ob) (i:=P'.length*4+0) (.head _) rfl RN) ?_
  refine Ap ek ?_
  refine Aj (BN (m:=1) (v:=.int .i64 e.ob) (i:=k*4+0) (.head _) rfl lq) ?_
  refine Ap ek ?_
  by_cases c1:p.ob<e.ob
  ·refine Ap c1 ?_
   unfold KT
   simp [c1]
  refine Ap (And.intro c1 ek) ?_
  refine Aj (BN (m:=1) (v:=.int .i64 p.ob) (i:=P'.length*4+0) (.head _) rfl RN) ?_
  refine Ap (And.intro ek c1) ?_
  refine Aj (BN (m:=1) (v:=.int .i64 e.ob) (i:=k*4+0) (.head _) rfl lq) ?_
  refine Ap (And.intro ek c1) ?_
  by_cases c2:p.ob=e.ob
  ·have c2':decide (p.ob=e.ob)=true:=decide_eq_true c2
   refine Ap (And.intro c1 (And.intro c2' ek)) ?_
   refine Aj (BN (m:=1) (v:=.int .i64 p.ho) (i:=P'.length*4+1) (.head _) rfl q11) ?_
   refine Ap (And.intro ek (And.intro c1 c2')) ?_
   refine Aj (BN (m:=1) (v:=.int .i64 e.ho) (i:=k*4+1) (.head _) rfl q21) ?_
   refine Ap (And.intro ek (And.intro c1 c2')) ?_
   unfold KT
   simp [c2]
  refine Ap (And.intro c1 c2) ?_
  unfold KT
  simp [c1,c2]
 intro G7 L' _ hF
 obtain ⟨zq,sP,rfl⟩:=hF
 have g7:=And.intro (Bg zq) sP
 refine k3 _ _ ?_
 refine AL ?_
 cases hlt:KT p e with
 | true =>
  replace zg:=Bd.mk (And.intro g5 (And.intro g6 g7))
  refine Ap hlt ?_
  refine BM ?_
  simp only [BJ,BX]
  rw [if_neg (by decide)]
  simp only [if_true]
  refine k0 _ _ ?_
  refine AU rfl ?_
  refine AR ?_
  refine ⟨_,rfl,fun w hw=>?_⟩
  have h9:=hw.pick (ix:=[1,0]) (by decide)
  simp only [Ag,nth] at h9
  exact ⟨⟨some ⟨g,0,none⟩,n2,c2,_⟩,rfl,⟨P'++[p],Q,U6,rfl,hQ,fun q hq=>by simp at hq;exact hq▸hlt⟩,h9⟩
 | false =>
  replace zg:=Bd.mk (And.intro g5 (And.intro g6 g7))
  refine Ap hlt ?_
  refine AO (k2 _ _ ?_)
  have r1:((P'++[p])++e::Q)[P'.length]? = some p:=KV P' Q p e
  have r2:((P'++[p])++e::Q)[k]? = some e:=by
   have:=Mv (P'++[p]) Q e
   rwa [<-hk] at this
  have q3:=FB Bu r1
  have q4:=FB Bu r2
  have p_:∀q∈p::Q,KT q e=false:=fun q hq=>by
   rcases List.mem_cons.1 hq with rfl|hq
   ·exact hlt
   ·exact hQ q hq
  obtain ⟨E,hE1⟩:∃E,Au ((P'++[p])++e::Q)=E:=⟨_,rfl⟩
  obtain ⟨E1,hE2⟩:∃E1,Au (P'++e::e::Q)=E1:=⟨_,rfl⟩
  rw [hE1]
  rw [<-Au,hE1] at q3 q4
  have w1:E.take (P'.length*4)++[Value.int .i64 e.ob,.int .i64 e.ho,.int .i64 e.mo,.int .i64 e.co]++E.drop (P'.length*4+4)=E1:=by
   have:=QM Bu P' (e::Q) p e
   rw [show P'++p::e::Q=(P'++[p])++e::Q by simp,<-Au,<-Au,hE1,hE2] at this
   exact this
  have w2:E1.take (k*4)++[Value.int .i64 p.ob,.int .i64 p.ho,.int .i64 p.mo,.int .i64 p.co]++E1.drop (k*4+4)=Au (P'++e::p::Q):=by
   have:=QM Bu (P'++[e]) Q e p
   rw [show (P'++[e]).length=k by simp;omega,show (P'++[e])++e::Q=P'++e::e::Q by simp,show (P'++[e])++p::Q=P'++e::p::Q by simp,<-Au,<-Au,hE2] at this
   exact this
  have l1:E.length=n2*4:=by rw [<-hE1,BV];simp at fw ⊢;omega
  have l2:E1.length=n2*4:=by rw [<-hE2,BV];simp at fw ⊢;omega
  refine Jk ?_
  refine E9 [] (by decide) (by simp only [Ag,nth,Be,Bv,List.mem_cons,true_or,or_true,and_true,eq_self]) (.rd 0 (.rd 1 (.rd 2 (.rd 3 (.rd 4 (.rd 5 (.rd 6 (.rd 7 (.rd 9 (.rd 10 (.rd 11 (.rd 12 (.more 8 (.act 13 (.rd 14 (.act 15 (.rd 16 (.act 17 (.done)))))) (.act 13 (.act 8 (.rd 14 (.act 15 (.rd 16 (.act 17 (.done)))))))))))))))))))) [17] CB rfl (by kernel_rfl) (by kernel_rfl) (by kernel_rfl) (by kernel_rfl) ?_
  simp only [Ag,nth]
  refine Ap ek ?_
  refine ⟨?_, ?_⟩
  ·refine Aj (DX (i:=k*4) (vs:=[.int .i64 e.ob,.int .i64 e.ho,.int .i64 e.mo,.int .i64 e.co]) (.head _) (by kernel_rfl) q4) ?_
   refine Ap ek ?_
   refine Aj (DX (i:=P'.length*4) (vs:=[.int .i64 p.ob,.int .i64 p.ho,.int .i64 p.mo,.int .i64 p.co]) (.head _) (by kernel_rfl) q3) ?_
   refine Ap ek ?_
   refine Aj (E_ 0 (i:=P'.length*4) (vs:=[.int .i64 e.ob,.int .i64 e.ho,.int .i64 e.mo,.int .i64 e.co]) rfl (by rw [l1];show _+4<=_;omega) (by kernel_rfl) rfl) ?_
   refine Ap (And.intro w1 ek) ?_
   refine Aj (E_ 0 (i:=k*4) (vs:=[.int .i64 p.ob,.int .i64 p.ho,.int .i64 p.mo,.int .i64 p.co]) rfl (by rw [l2];show _+4<=_;omega) (by kernel_rfl) rfl) ?_
   refine Ap (And.intro w2 ek) ?_
   refine ⟨[0,1],by decide, ?_⟩
   simp only [Ag,nth]
   refine k1 _ _ ?_
   refine AF rfl ?_
   refine Ap ek ?_
   refine ⟨⟨P'.length,P',p::Q, ?_⟩, ?_⟩
   ·refine AR ?_
    exact ⟨by rw [U6];simp,fun q hq=>p_ q (by simpa using hq)⟩
   ·simp only [intOf];omega
  ·refine Aj (DX (i:=P'.length*4) (vs:=[.int .i64 p.ob,.int .i64 p.ho,.int .i64 p.mo,.int .i64 p.co]) (.head _) (by kernel_rfl) q3) ?_
   refine Ap ek ?_
   refine Aj (DX (i:=k*4) (vs:=[.int .i64 e.ob,.int .i64 e.ho,.int .i64 e.mo,.int .i64 e.co]) (.head _) (by kernel_rfl) q4) ?_
   refine Ap ek ?_
   refine Aj (E_ 0 (i:=P'.length*4) (vs:=[.int .i64 e.ob,.int .i64 e.ho,.int .i64 e.mo,.int .i64 e.co]) rfl (by rw [l1];show _+4<=_;omega) (by kernel_rfl) rfl) ?_
   refine Ap (And.intro w1 ek) ?_
   refine Aj (E_ 0 (i:=k*4) (vs:=[.int .i64 p.ob,.int .i64 p.ho,.int .i64 p.mo,.int .i64 p.co]) rfl (by rw [l2];show _+4<=_;omega) (by kernel_rfl) rfl) ?_
   refine Ap (And.intro w2 ek) ?_
   refine ⟨[0,1],by decide, ?_⟩
   simp only [Ag,nth]
   refine k1 _ _ ?_
   refine AF rfl ?_
   refine Ap ek ?_
   refine ⟨⟨P'.length,P',p::Q, ?_⟩, ?_⟩
   ·refine AR ?_
    exact ⟨by rw [U6];simp,fun q hq=>p_ q (by simpa using hq)⟩
   ·simp only [intOf];omega
def V9 (_:GJ):Value:=.tuple #[]
theorem Sv {l:List Bw} {ob ho:Int} {p:Bw->Bool} : Ev (l.filter p) ob ho=l.filter fun b=>p b && !Xp ob ho b:=by
 unfold Ev
 rw [List.filter_filter]
 exact List.filter_congr fun b _=>Bool.and_comm _ _
def QR (i:(Option Addr×Nat×Nat)×GJ):Value:=.slice i.1.1 i.1.2.1 i.1.2.2
def KE (l:List Bw) (ob:Int) (i:Nat) (b:Bw):Bool := !(decide (b.ob=ob)&&((Fa l ob).take i).any fun o=>decide (o.ho=b.ho))
theorem Qw (b:Nat) (s0 s1:Value) (x:GJ) (ob:Int) (hl:x.l.length<=100000) (W:World) (hst:St (Ak (IL b s0 s1 x)) W (IL b s0 s1 x) W) :
  Calls Tryz.prog 85 #[.pointer (some ⟨b,2,none⟩),.int .i64 ob] W
  fun en w' => ∃i:(Option Addr×Nat×Nat)×GJ,en = .returned (QR i)/\i.2.l=(x.l.filter fun b => !decide (b.ob=ob))/\St (Ak (IL b s0 s1 x)) W (IL b s0 s1 i.2) w':=by
 obtain ⟨M,hM⟩:∃M,Ak (IL b s0 s1 x)=M:=⟨_,rfl⟩
 rw [hM] at hst ⊢
 obtain ⟨A,n,c,l⟩:=x
 unfold IL at hst
 dsimp only at hst hl ⊢
 clear hM
 obtain ⟨lo,hlo⟩:∃lo,Fa l ob=lo:=⟨_,rfl⟩
 have nC:lo.length<=100000:=by
  have h1:(Fa l ob).length<=l.length:=List.length_filter_le _ _
  rw [hlo] at h1
  omega
 refine Ab (M:=M) Tryz.func85 [.tmp 4]  hst ?_
 have zs:=Bd.mk Bb
 refine Aq ?_
 refine AQ rfl fun K k0=>?_
 refine Ah ?_
 refine Cn (fun A n c=>.slice A n c) (fun w hw=>(hlo▸Jv (JJ.of hw 0 1 rfl rfl hl) ob)) ?_
 intro A1 n1 c1 hl1 hr1
 have hn1:lo.length=n1:=by rw [BV] at hl1;omega
 refine Ah ?_
 refine k0 _ _ ?_
 refine AB fun K k0=>?_
 refine Aq ?_
 refine AV [0,1,5,6] fun G8 g8=>?_
 replace g8:=Bi g8
 refine Ad ?_
 refine BP (fun F' L' => ∃(i:Nat) (A2:Option Addr) (n2 c2:Nat),Az F' G8 [0,1,5]/\F' 6 = .int .i64 (i:Int)/\L'=[.row (.slice A1 n1 c1) 163 4 n1 (Au lo),.blk b 159 [s0,s1,.slice A2 n2 c2],.row (.slice A2 n2 c2) 163 4 n2 (Au (l.filter (KE l ob i)))]/\i<=n1) (fun F' L'=>200000-(intOf (F' 6)).toNat) ?_ ?_
 ·refine ⟨0,A,n,c, ?_⟩
  have:l.filter (KE l ob 0)=l:=List.filter_eq_self.2 fun b _=>by simp [KE]
  rw [this]
  have zg:=Bd.mk g8
  refine AR ?_
  exact Nat.zero_le _
 intro G9 L' hI
 obtain ⟨i,A2,n2,c2,zq,Jq,rfl,hi⟩:=hI
 have zg:=Bd.mk g8
 have g9:=And.intro (Bg zq) Jq
 refine AB fun K k1=>?_
 replace zg:=Bd.mk (And.intro g8 g9)
 refine BH ?_
 refine Dl (fun hc=>?_) fun hc=>?_
 ·refine AO ?_
  try simp only [BJ,BX]
  have hit:i<n1:=by have:=of_decide_eq_true ‹decide ((i:Int)<(n1:Int))=true›;omega
  obtain ⟨e,he⟩:∃e,lo[i]? = some e:=⟨_,List.getElem?_eq_getElem (by omega)⟩
  have hcl:(l.filter (KE l ob i)).length<=100000:=Nat.le_trans (List.length_filter_le _ _) hl
  have hcs:Ev (l.filter (KE l ob i)) ob e.ho=l.filter (KE l ob (i+1)):=by
   rw [Sv]
   refine List.filter_congr fun b _=>?_
   unfold KE Xp
   rw [hlo,List.take_add_one,he]
   simp only [Option.toList_some,List.any_append,List.any_cons,List.any_nil,Bool.or_false]
   rw [show decide (b.ho=e.ho)=decide (e.ho=b.ho) from decide_eq_decide.2 ⟨Eq.symm,Eq.symm⟩]
   cases decide (b.ob=ob)<;>simp
  refine k1 _ _ ?_
  refine BQ 0 rfl (by omega) fun g DJ hg Bl=>?_
  subst DJ
  simp only [List.eraseIdx_cons_zero,List.eraseIdx_cons_succ,BC,BD,BI,A_,and_true,List.not_mem_nil,or_false,Bb] at Bl hg
  replace hg:=And.intro hg Bl
  clear Bl
  refine AB fun K k1=>?_
  refine Ad ?_
  refine AU rfl ?_
  refine AR ?_
  refine Aj (BN (i:=i*4+1) (v:=.int .i64 e.ho) (.head _) rfl (Co Bu he (by omega))) ?_
  refine AR ?_
  refine Cn (fun A n c=>.slice A n c) (fun w hw=>(hcs▸EF (JJ.of hw 1 2 rfl rfl hcl) ob e.ho)) ?_
  intro A3 n3 c3 hl3 hr3
  refine AR ?_
  refine k1 _ _ ?_
  refine BF [1,2,0] (by decide) ?_
  simp only [Ag,nth]
  refine AF rfl ?_
  refine AR ?_
  refine ⟨⟨i+1,A3,n3,c3, ?_⟩, ?_⟩
  ·refine Ap @Int.natCast_add ?_
   omega
  ·simp only [intOf];omega
 refine BM (k0 _ _ ?_)
 have hin:i=n1:=by have:=of_decide_eq_false ‹decide ((i:Int)<(n1:Int))=false›;omega
 subst hin
 have hfin:l.filter (KE l ob i)=l.filter fun b => !decide (b.ob=ob):=by
  refine List.filter_congr fun b hb=>?_
  unfold KE
  rw [hlo,List.take_of_length_le (by omega),<-hlo]
  by_cases h:b.ob=ob
  ·have:(Fa l ob).any (fun o=>decide (o.ho=b.ho))=true:=List.any_eq_true.2 ⟨b,List.mem_filter.2 ⟨hb,by simpa using h⟩,by simp⟩
   rw [this]
   simp [h]
  ·simp [h]
 rw [hfin]
 refine BH ?_
 refine AP (Br fun w hw=>?_)
 exact ⟨((A1,i,c1),⟨A2,n2,c2,_⟩),rfl,rfl,hw.tail⟩
def Gj (l:List Bw) (ob ho:Int) (r:Int) (l':List Bw):Prop:=match holdB l ob ho with
 | none=>r=13
 | some e=>r=0/\(if e.co-1=0 then l'=Ev l ob ho else ∃P Q,Lh { e with co:=e.co-1 } (Ev l e.ob e.ho) l' P Q)
def Xq (i:Int×GJ):Value:=.int .i64 i.1
theorem Gl {l:List Bw} {ob ho:Int} {e:Bw} (h:holdB l ob ho=some e):e∈l/\e.ob=ob/\e.ho=ho:=by
 have h1:=List.mem_of_find?_eq_some h
 have h2:=List.find?_some h
 unfold Xp at h2
 simp only [Bool.and_eq_true,decide_eq_true_eq] at h2
 exact ⟨h1,h2⟩
theorem Us (b:Nat) (s0 s1:Value) (x:GJ) (ob ho:Int) (hl:x.l.length<=100000) (hc:∀e∈x.l,0<=e.co/\e.co<=4611686018427387904) (W:World) (hst:St (Ak (IL b s0 s1 x)) W (IL b s0 s1 x) W) :
  Calls Tryz.prog 104 #[.pointer (some ⟨b,2,none⟩),.int .i64 ob,.int .i64 ho] W
  fun en w' => ∃i:Int×GJ,en = .returned (Xq i)/\Gj x.l ob ho i.1 i.2.l/\St (Ak (IL b s0 s1 x)) W (IL b s0 s1 i.2) w':=by
 obtain ⟨M,hM⟩:∃M,Ak (IL b s0 s1 x)=M:=⟨_,rfl⟩
 rw [hM] at hst ⊢
 obtain ⟨A,n,c,l⟩:=x
 unfold IL at hst
 dsimp only at hst hl hc ⊢
 clear hM
 refine Ab (M:=M) Tryz.func104 [.tmp 6]  hst ?_
 have zs:=Bd.mk Bb
 refine Aq ?_
 cases hh:holdB l ob ho with
 | none =>
  refine AQ rfl fun K k0=>?_
  refine Ah ?_
  refine Aa (fun w hw=>EZ (JJ.of hw 0 1 rfl rfl hl) ob ho) ?_
  try refine Ah ?_
  simp -implicitDefEqProofs (disch:=first|omega|decide) only [seval, -Int.reducePow, -Nat.reducePow,cC,pv,Ao,Az,undef,Bb,Ij,hh,U5,Mw]
  intro b7 Z0 mZ
  refine k0 _ _ ?_
  refine AB fun K k0=>?_
  refine Aq ?_
  refine AL ?_
  refine Ah ?_
  refine Aq ?_
  refine AP (Cc fun w hw=>?_)
  exact ⟨(13,⟨A,n,c,l⟩),rfl,(by unfold Gj;rw [hh]),hw.tail⟩
 | some e =>
  obtain ⟨he1,he2,he3⟩:=Gl hh
  have hb:=hc e he1
  have hwr:=Ae (x:=e.co-1) (by omega) (by omega)
  refine AQ rfl fun K k0=>?_
  refine Ah ?_
  refine Aa (fun w hw=>EZ (JJ.of hw 0 1 rfl rfl hl) ob ho) ?_
  try refine Ah ?_
  simp -implicitDefEqProofs (disch:=first|omega|decide) only [seval, -Int.reducePow, -Nat.reducePow,cC,pv,Ao,Az,undef,Bb,Ij,hh,U5]
  intro b7 Z0 mZ
  refine k0 _ _ ?_
  refine AB fun K k0=>?_
  refine Aq ?_
  refine AL ?_
  refine Ah ?_
  refine AO (k0 _ _ ?_)
  refine AV [0,1,2,7] fun G1 g1=>?_
  replace g1:=Bi g1
  have zg:=Bd.mk g1
  refine FP hwr ?_
  refine AB fun K k0=>?_
  refine BH ?_
  refine AL ?_
  by_cases h0:e.co-1=0
  ·refine Ap h0 ?_
   refine AU rfl ?_
   refine AR ?_
   refine Cn (fun A n c=>.slice A n c) (fun w hw=>(EF (JJ.of hw 1 2 rfl rfl hl) ob ho)) ?_
   intro A3 n3 c3 hl3 hr3
   refine AR ?_
   refine k0 _ _ ?_
   refine BH ?_
   refine AP (Br fun w hw=>?_)
   have h9:=hw.pick (ix:=[2,0]) (by decide)
   simp only [Ag,nth] at h9
   exact ⟨(0,⟨A3,n3,c3,Ev l ob ho⟩),rfl,(by unfold Gj;rw [hh];exact ⟨rfl,by rw [if_pos h0]⟩),h9⟩
  ·refine Ap h0 ?_
   refine AU rfl ?_
   refine AR ?_
   refine Af [.blk b7 163 [.int .i64 e.ob,.int .i64 e.ho,.int .i64 e.mo,.int .i64 (e.co-1)]] (IL b s0 s1 ⟨A,n,c,l⟩) (List.Perm.refl _) V9 (IL b s0 s1) _ (fun w hw=>XL b s0 s1 ⟨A,n,c,l⟩ { e with co:=e.co-1 } hl w hw) ?_
   intro y hy
   simp -implicitDefEqProofs (disch:=first|omega|decide) only [seval, -Int.reducePow, -Nat.reducePow,cC,pv,Ao,Az,undef,Bb,V9,g1]
   refine k0 _ _ ?_
   refine BH ?_
   refine AP (Br fun w hw=>?_)
   exact ⟨(0,y),rfl,(by unfold Gj;rw [hh];exact ⟨rfl,by rw [if_neg h0];exact hy⟩),hw.sub (List.sublist_append_left _ _)⟩
def GV (l:List Bw) (ob ho mo:Int) (r:Int) (l':List Bw):Prop :=
 if Fa l ob≠[]/\(mo=2\/((Fa l ob).head?.map Bw.mo)=some 2) then r=14
 else r=0∧∃P Q,Lh ⟨ob,ho,mo,((holdB l ob ho).getD Mw).co+1⟩ (Ev l ob ho) l' P Q
theorem TS (b:Nat) (s0 s1:Value) (x:GJ) (ob ho mo:Int) (hmo:mo=1\/mo=2) (hl:x.l.length<=100000) (hc:∀e∈x.l,0<=e.co/\e.co<=4611686018427387904) (W:World) (hst:St (Ak (IL b s0 s1 x)) W (IL b s0 s1 x) W) :
  Calls Tryz.prog 103 #[.pointer (some ⟨b,2,none⟩),.int .i64 ob,.int .i64 ho,.int .i64 mo] W
  fun en w' => ∃i:Int×GJ,en = .returned (Xq i)/\GV x.l ob ho mo i.1 i.2.l/\St (Ak (IL b s0 s1 x)) W (IL b s0 s1 i.2) w':=by
 obtain ⟨M,hM⟩:∃M,Ak (IL b s0 s1 x)=M:=⟨_,rfl⟩
 rw [hM] at hst ⊢
 obtain ⟨A,n,c,l⟩:=x
 unfold IL at hst
 dsimp only at hst hl hc ⊢
 clear hM
 obtain ⟨lo,hlo⟩:∃lo,Fa l ob=lo:=⟨_,rfl⟩
 have nC:lo.length<=100000:=by
  have h1:(Fa l ob).length<=l.length:=List.length_filter_le _ _
  rw [hlo] at h1
  omega
 have hhc:0<=((holdB l ob ho).getD Mw).co/\((holdB l ob ho).getD Mw).co<=4611686018427387904:=by
  cases hh:holdB l ob ho with
  | none=>simp [Mw]
  | some e=>exact hc e (Gl hh).1
 have hwr:=Ae (x:=((holdB l ob ho).getD Mw).co+1) (by omega) (by omega)
 have hm1:(mo≠1->mo≠2->False):=by omega
 refine Ab (M:=M) Tryz.func103 [.tmp 8]  hst ?_
 have zs:=Bd.mk Bb
 refine Aq ?_
 refine AV [0,1,2,3] fun G2 g2=>?_
 replace g2:=Bi g2
 refine AB fun K k0=>?_
 refine AB fun K k1=>?_
 refine A9 (fun _ _=>True) (fun F' L'=>Az F' G2 [0,1,2,3]/\F' 17 = .bool false/\L'=[.blk b 159 [s0,s1,.slice A n c],.row (.slice A n c) 163 4 n (Au l)]) ?_ ?_
 ·rcases hmo with rfl|rfl
  ·refine AF rfl ?_
   have zg:=Bd.mk g2
   exact MQ
  ·refine AF rfl ?_
   have zg:=Bd.mk g2
   exact MQ
 intro G3 L' _ hF
 obtain ⟨zq,sQ,rfl⟩:=hF
 have zg:=Bd.mk g2
 have g3:=And.intro (Bg zq) sQ
 refine k1 _ _ ?_
 refine AL ?_
 replace zg:=Bd.mk g3
 refine AR ?_
 refine AO (k0 _ _ ?_)
 refine AQ rfl fun K k0=>?_
 refine AR ?_
 refine Cn (fun A n c=>.slice A n c) (fun w hw=>(hlo▸Jv (JJ.of hw 0 1 rfl rfl hl) ob)) ?_
 intro A1 n1 c1 hl1 hr1
 have hn1:lo.length=n1:=by rw [BV] at hl1;omega
 refine AR ?_
 refine k0 _ _ ?_
 refine AV [0,1,2,3,9] fun G4 g4=>?_
 replace g4:=Bg g4
 refine AB fun K k0=>?_
 refine AB fun K k1=>?_
 refine A9 (fun _ _=>True) (fun F' L'=>Az F' G4 [0,1,2,3]/\F' 34 = .bool (decide (lo≠[]/\(mo=2\/(lo.head?.map Bw.mo)=some 2)))/\L'=[.blk b 159 [s0,s1,.slice A n c],.row (.slice A n c) 163 4 n (Au l)]) ?_ ?_
 ·refine BG [1,2] (by decide) ?_
  rcases lo with _|⟨e0,lo⟩
  ·simp at hn1
   subst hn1
   refine AU rfl ?_
   replace zg:=Bd.mk g4
   exact MQ
  ·simp only [List.length_cons] at hn1
   have hpos:decide ((0:Int)<(n1:Int))=true:=decide_eq_true (by omega)
   refine BQ 0 rfl (by omega) fun g DJ hg Bl=>?_
   subst DJ
   simp only [List.eraseIdx_cons_zero,List.eraseIdx_cons_succ,BC,BD,BI,A_,and_true,List.not_mem_nil,or_false,Bb] at Bl hg
   replace hg:=And.intro hg Bl
   clear Bl
   by_cases hm2:mo=2
   ·have hd2:decide (mo=2)=true:=decide_eq_true hm2
    refine AU rfl ?_
    replace zg:=Bd.mk g4
    refine Ap (And.intro hpos hd2) ?_
    simp [hm2]
   ·refine AU rfl ?_
    replace zg:=Bd.mk g4
    refine Ap (And.intro hpos hm2) ?_
    refine Aj (BN (m:=1) (i:=0*4+2) (v:=.int .i64 e0.mo) (.head _) rfl (Co Bu (l:=e0::lo) (i:=0) rfl (by omega))) ?_
    refine AR ?_
    simp [hm2]
 intro G5 L' _ hF
 obtain ⟨zq,f_,rfl⟩:=hF
 replace zg:=Bd.mk g4
 have g5:=And.intro (Bg zq) f_
 refine k1 _ _ ?_
 refine AL ?_
 by_cases hcd:lo≠[]/\(mo=2\/(lo.head?.map Bw.mo)=some 2)
 ·have hd:decide (lo≠[]/\(mo=2\/(lo.head?.map Bw.mo)=some 2))=true:=decide_eq_true hcd
  replace zg:=Bd.mk g5
  refine Ap hd ?_
  refine BH ?_
  refine AP (Br fun w hw=>?_)
  exact ⟨(14,⟨A,n,c,l⟩),rfl,(by unfold GV;rw [hlo,if_pos hcd]),hw⟩
 have hd:decide (lo≠[]/\(mo=2\/(lo.head?.map Bw.mo)=some 2))=false:=decide_eq_false hcd
 replace zg:=Bd.mk g5
 refine Ap hd ?_
 refine AO (k0 _ _ ?_)
 obtain ⟨e,he⟩:∃e,(holdB l ob ho).getD Mw=e:=⟨_,rfl⟩
 rw [he] at hwr
 refine AQ rfl fun K k0=>?_
 refine AR ?_
 refine Aa (fun w hw=>EZ (JJ.of hw 0 1 rfl rfl hl) ob ho) ?_
 try refine AR ?_
 simp -implicitDefEqProofs (disch:=first|omega|decide) only [seval, -Int.reducePow, -Nat.reducePow,cC,pv,Ao,Az,undef,Bb,Ij,he,U5,g5]
 intro b10 IU JK
 refine k0 _ _ ?_
 refine AV [0,1,2,3,10] fun G6 g6=>?_
 replace g6:=Bg g6
 refine AQ rfl fun K k0=>?_
 replace zg:=Bd.mk g6
 refine Ap hwr ?_
 refine Af [.blk b10 163 [.int .i64 e.ob,.int .i64 e.ho,.int .i64 e.mo,.int .i64 e.co]] (IL b s0 s1 ⟨A,n,c,l⟩) (List.Perm.refl _) V9 (IL b s0 s1) _ (fun w hw=>XL b s0 s1 ⟨A,n,c,l⟩ ⟨ob,ho,mo,e.co+1⟩ hl w hw) ?_
 intro y hy
 simp -implicitDefEqProofs (disch:=first|omega|decide) only [seval, -Int.reducePow, -Nat.reducePow,cC,pv,Ao,Az,undef,Bb,V9,g6]
 refine k0 _ _ ?_
 refine BH ?_
 refine AP (Br fun w hw=>?_)
 exact ⟨(0,y),rfl,(by unfold GV;rw [hlo,if_neg hcd,he];exact ⟨rfl,hy⟩),hw.sub (List.sublist_append_left _ _)⟩
structure BO where
 h:Nat
 ow:Int
def boc (o:BO):List Value:=[.int .u64 (o.h:Int),.int .i64 o.ow,.int .i64 0,.int .i64 0,.slice none 0 0,.slice none 0 0]
theorem FR (o:BO):(boc o).length=6:=rfl
def BZ (l:List BO):List Value:=l.flatMap boc
theorem CK (l:List BO):(BZ l).length=l.length*6:=Cr FR l
structure IX where
 b:Nat
 sb:Nat
 LA:Option Addr
 ln:Nat
 lc:Nat
 EA:Option Addr
 en:Nat
 ec:Nat
 st:List Int
 l:List BO
 E:List Bw
def CO (st:List Int):List Value:=st.map (Value.int .i64)
def Ej (x:IX):List Ai:=[.blk x.b 159 [.slice (some ⟨x.sb,0,none⟩) 65 65,.slice x.LA x.ln x.lc,.slice x.EA x.en x.ec],.row (.slice (some ⟨x.sb,0,none⟩) 65 65) 3 1 65 (CO x.st),.row (.slice x.LA x.ln x.lc) 105 6 x.ln (BZ x.l),.row (.slice x.EA x.en x.ec) 163 4 x.en (Au x.E)]
def MN (l:List BO) (h:Nat):Int:=match l.findIdx? (fun o=>decide (o.h=h)) with
 | some i=>i
 | none => -1
def Qx (l:List BO) (s:Int):Bool:=l.any fun o=>decide ((Ac o.h:Int)=s)
theorem findIdx_take {l:List BO} {p:BO->Bool} {i:Nat} {e:BO} (he:l[i]? = some e) (hp:(l.take i).findIdx? p=none) (h:p e=true):l.findIdx? p=some i:=by
 have hlt:=(List.getElem?_eq_some_iff.1 he).1
 have hge:=(List.getElem?_eq_some_iff.1 he).2
 rw [List.findIdx?_eq_some_iff_getElem]
 refine ⟨hlt,by rw [hge];exact h,fun j hj=>?_⟩
 rw [List.findIdx?_eq_none_iff] at hp
 have:=hp (l[j]'(by omega)) (by rw [List.mem_take_iff_getElem];exact ⟨j,by omega,rfl⟩)
 simpa using this
theorem NG {l:List BO} {p:BO->Bool} {i:Nat} {e:BO} (he:l[i]? = some e) (hp:(l.take i).findIdx? p=none) (h:p e=false):(l.take (i+1)).findIdx? p=none:=by
 rw [List.findIdx?_eq_none_iff] at hp ⊢
 intro x hx
 rw [List.take_add_one,he] at hx
 rcases List.mem_append.1 hx with hx|hx
 ·exact hp x hx
 ·have:x=e:=by simpa using hx
  rw [this,h]
theorem cz (x:IX) (h:Nat) (hl:x.l.length<=100000) (W:World) (hst:St (Ak (Ej x)) W (Ej x) W) :
  Calls Tryz.prog 167 #[.pointer (some ⟨x.b,0,none⟩),.int .u64 (h:Int)] W
  fun en w' => ∃i:Unit,en = .returned (.int .i64 (MN x.l h))/\True/\St (Ak (Ej x)) W (Ej x) w':=by
 obtain ⟨M,hM⟩:∃M,Ak (Ej x)=M:=⟨_,rfl⟩
 rw [hM] at hst ⊢
 obtain ⟨b,sb,LA,ln,lc,EA,en,ec,st,l,E⟩:=x
 unfold Ej at hst
 dsimp only at hst hl ⊢
 clear hM
 have hlen:l.length=ln:=by have:=(Sl.Av hst (AZ (k:=2) rfl)).len;rw [CK] at this;omega
 refine Ab (M:=M) Tryz.func167 [.tmp 4]  hst ?_
 have zs:=Bd.mk Bb
 refine Aq ?_
 refine AB fun K k0=>?_
 refine Aq ?_
 refine AV [0,1,5] fun G1 g1=>?_
 replace g1:=Bi g1
 refine Ad ?_
 refine BP (fun F' L' => ∃(i:Nat),Az F' G1 [0,1]/\F' 5 = .int .i64 (i:Int)/\L'=Ej ⟨b,sb,LA,ln,lc,EA,en,ec,st,l,E⟩/\i<=ln/\(l.take i).findIdx? (fun o=>decide (o.h=h))=none) (fun F' L'=>200000-(intOf (F' 5)).toNat) ?_ ?_
 ·refine ⟨0, ?_⟩
  have zg:=Bd.mk g1
  refine AR ?_
  exact ⟨rfl,Nat.zero_le _,rfl⟩
 intro G2 L' hI
 obtain ⟨i,zq,KO,rfl,⟨hi,hfn⟩⟩:=hI
 have zg:=Bd.mk g1
 have g2:=And.intro (Bg zq) KO
 unfold Ej
 dsimp only
 refine AB fun K k1=>?_
 replace zg:=Bd.mk (And.intro g1 g2)
 refine BH ?_
 refine Dl (fun hc=>?_) fun hc=>?_
 ·refine AO ?_
  try simp only [BJ,BX]
  have hit:i<ln:=by have:=of_decide_eq_true ‹decide ((i:Int)<(ln:Int))=true›;omega
  obtain ⟨e,he⟩:∃e,l[i]? = some e:=⟨_,List.getElem?_eq_getElem (by omega)⟩
  refine k1 _ _ ?_
  refine BQ 2 rfl (by omega) fun g DJ hg Bl=>?_
  subst DJ
  simp only [List.eraseIdx_cons_zero,List.eraseIdx_cons_succ,BC,BD,BI,A_,and_true,List.not_mem_nil,or_false,Bb] at Bl hg
  replace hg:=And.intro hg Bl
  clear Bl
  refine AB fun K k1=>?_
  refine Ad ?_
  refine AQ rfl fun K k2=>?_
  refine AR ?_
  refine Aj (BN (m:=1) (i:=i*6+0) (v:=.int .u64 (e.h:Int)) (.tail _ (.tail _ (.head _))) rfl (Co FR he (by omega))) ?_
  refine AR ?_
  refine k2 _ _ ?_
  refine AL ?_
  by_cases hc:e.h=h
  ·refine Ap hc ?_
   refine BH ?_
   refine AP (Br fun w hw=>?_)
   have Tk:MN l h=i:=by unfold MN;rw [findIdx_take he hfn (by simpa using hc)]
   rw [Tk]
   first|exact ⟨(),rfl,hw⟩|exact ⟨(),rfl,trivial,hw⟩
  ·have hc2:¬(e.h:Int)=(h:Int):=by omega
   refine Ap hc2 ?_
   refine AO (k1 _ _ ?_)
   refine AF rfl ?_
   refine AR ?_
   refine ⟨⟨i+1, ?_⟩, ?_⟩
   ·refine Ap @Int.natCast_add ?_
    exact ⟨by omega,NG he hfn (by simpa using hc)⟩
   ·simp only [intOf];omega
 refine BM (k0 _ _ ?_)
 have hin:i=ln:=by have:=of_decide_eq_false ‹decide ((i:Int)<(ln:Int))=false›;omega
 subst hin
 rw [List.take_of_length_le (by omega)] at hfn
 have Tk:MN l h = -1:=by unfold MN;rw [hfn]
 refine BH ?_
 refine AP (Br fun w hw=>?_)
 rw [Tk]
 first|exact ⟨(),rfl,hw⟩|exact ⟨(),rfl,trivial,hw⟩
theorem dA (x:IX) (sl:Int) (h64:∀o∈x.l,o.h<18446744073709551616) (hl:x.l.length<=100000) (W:World) (hst:St (Ak (Ej x)) W (Ej x) W) :
  Calls Tryz.prog 146 #[.pointer (some ⟨x.b,0,none⟩),.int .i64 sl] W
  fun en w' => ∃i:Unit,en = .returned (.bool (Qx x.l sl))/\True/\St (Ak (Ej x)) W (Ej x) w':=by
 obtain ⟨M,hM⟩:∃M,Ak (Ej x)=M:=⟨_,rfl⟩
 rw [hM] at hst ⊢
 obtain ⟨b,sb,LA,ln,lc,EA,en,ec,st,l,E⟩:=x
 unfold Ej at hst
 dsimp only at hst hl h64 ⊢
 clear hM
 have hlen:l.length=ln:=by have:=(Sl.Av hst (AZ (k:=2) rfl)).len;rw [CK] at this;omega
 refine Ab (M:=M) Tryz.func146 [.tmp 4]  hst ?_
 have zs:=Bd.mk Bb
 refine Aq ?_
 refine AB fun K k0=>?_
 refine Aq ?_
 refine AV [0,1,5] fun G3 g3=>?_
 replace g3:=Bi g3
 refine Ad ?_
 refine BP (fun F' L' => ∃(i:Nat),Az F' G3 [0,1]/\F' 5 = .int .i64 (i:Int)/\L'=Ej ⟨b,sb,LA,ln,lc,EA,en,ec,st,l,E⟩/\i<=ln/\(l.take i).findIdx? (fun o=>decide ((Ac o.h:Int)=sl))=none) (fun F' L'=>200000-(intOf (F' 5)).toNat) ?_ ?_
 ·refine ⟨0, ?_⟩
  have zg:=Bd.mk g3
  refine AR ?_
  exact ⟨rfl,Nat.zero_le _,rfl⟩
 intro G4 L' hI
 obtain ⟨i,zq,KO,rfl,⟨hi,hfn⟩⟩:=hI
 have zg:=Bd.mk g3
 have g4:=And.intro (Bg zq) KO
 unfold Ej
 dsimp only
 refine AB fun K k1=>?_
 replace zg:=Bd.mk (And.intro g3 g4)
 refine BH ?_
 refine Dl (fun hc=>?_) fun hc=>?_
 ·refine AO ?_
  try simp only [BJ,BX]
  have hit:i<ln:=by have:=of_decide_eq_true ‹decide ((i:Int)<(ln:Int))=true›;omega
  obtain ⟨e,he⟩:∃e,l[i]? = some e:=⟨_,List.getElem?_eq_getElem (by omega)⟩
  refine k1 _ _ ?_
  refine BQ 2 rfl (by omega) fun g DJ hg Bl=>?_
  subst DJ
  simp only [List.eraseIdx_cons_zero,List.eraseIdx_cons_succ,BC,BD,BI,A_,and_true,List.not_mem_nil,or_false,Bb] at Bl hg
  replace hg:=And.intro hg Bl
  clear Bl
  refine AB fun K k1=>?_
  refine Ad ?_
  refine AQ rfl fun K k2=>?_
  refine AR ?_
  refine Aj (BN (m:=1) (i:=i*6+0) (v:=.int .u64 (e.h:Int)) (.tail _ (.tail _ (.head _))) rfl (Co FR he (by omega))) ?_
  refine AR ?_
  have AHu:=h64 e (List.mem_of_getElem? he)
  refine Aa (fun w hw=>CU e.h AHu w) ?_
  refine AR ?_
  refine k2 _ _ ?_
  refine AL ?_
  by_cases hc:(Ac e.h:Int)=sl
  ·refine Ap hc ?_
   refine BH ?_
   refine AP (Br fun w hw=>?_)
   have Tk:Qx l sl=true:=List.any_eq_true.2 ⟨e,List.mem_of_getElem? he,by simpa using hc⟩
   rw [Tk]
   first|exact ⟨(),rfl,hw⟩|exact ⟨(),rfl,trivial,hw⟩
  ·refine Ap hc ?_
   refine AO (k1 _ _ ?_)
   refine AF rfl ?_
   refine AR ?_
   refine ⟨⟨i+1, ?_⟩, ?_⟩
   ·refine Ap @Int.natCast_add ?_
    exact ⟨by omega,NG he hfn (by simpa using hc)⟩
   ·simp only [intOf];omega
 refine BM (k0 _ _ ?_)
 have hin:i=ln:=by have:=of_decide_eq_false ‹decide ((i:Int)<(ln:Int))=false›;omega
 subst hin
 rw [List.take_of_length_le (by omega)] at hfn
 have Tk:Qx l sl=false:=by
  rw [List.findIdx?_eq_none_iff] at hfn
  exact List.any_eq_false.2 fun o ho=>by simpa using hfn o ho
 refine BH ?_
 refine AP (Br fun w hw=>?_)
 rw [Tk]
 first|exact ⟨(),rfl,hw⟩|exact ⟨(),rfl,trivial,hw⟩
theorem Qy (x:IX) (p:Nat) (W:World) (hst:St (Ak (Ej x)) W (Ej x) W) (hs:x.st.length=65) :
  Calls Tryz.prog 168 #[.pointer (some ⟨x.b,0,none⟩),.int .u64 (p:Int)] W
  fun en w' => ∃i:Unit,en = .returned (.bool (decide (1<=p)&&decide (p<=64)&&decide (x.st[p]? = some 1)))/\True/\St (Ak (Ej x)) W (Ej x) w':=by
 obtain ⟨M,hM⟩:∃M,Ak (Ej x)=M:=⟨_,rfl⟩
 rw [hM] at hst ⊢
 obtain ⟨b,sb,LA,ln,lc,EA,en,ec,st,l,E⟩:=x
 unfold Ej at hst
 dsimp only at hst hs ⊢
 clear hM
 have hap:=hst.facts
 simp only [GN,GQ,Jm,Jl] at hap
 have hsb:sb≠b:=hap.2.2.1.1 sb rfl
 clear hap
 refine Ab (M:=M) Tryz.func168 [.tmp 4]  hst ?_
 have zs:=Bd.mk Bb
 refine Aq ?_
 refine AV [0,1] fun G5 g5=>?_
 replace g5:=Bi g5
 refine AB fun K k0=>?_
 refine A9 (fun _ _=>True) (fun F' L'=>F' 4 = .bool (decide (1<=p)&&decide (p<=64)&&decide (st[p]? = some 1))/\L'=Ej ⟨b,sb,LA,ln,lc,EA,en,ec,st,l,E⟩) ?_ ?_
 ·unfold Ej
  dsimp only
  by_cases h1:1<=p
  ·have h1':(1:Int)<=(p:Int):=by omega
   by_cases h2:p<=64
   ·have h2':(p:Int)<=64:=by omega
    obtain ⟨v,hv⟩:∃v,st[p]? = some v:=⟨_,List.getElem?_eq_getElem (by omega)⟩
    have hvc:(CO st)[p]? = some (.int .i64 v):=by unfold CO;rw [List.getElem?_map,hv];rfl
    refine AF rfl ?_
    have zg:=Bd.mk g5
    refine Ap (And.intro h1' h2') ?_
    refine Aj (BN (m:=1) (i:=p) (v:=.int .i64 v) (.tail _ (.head _)) rfl hvc) ?_
    refine AR ?_
    simp [h1,h2,hv]
   ·have h2':¬(p:Int)<=64:=by omega
    refine AF rfl ?_
    have zg:=Bd.mk g5
    refine Ap (And.intro h1' h2') ?_
    simp [h2]
  ·have h1':¬(1:Int)<=(p:Int):=by omega
   refine AF rfl ?_
   have zg:=Bd.mk g5
   refine Ap h1' ?_
   simp [h1]
 intro G6 L' _ hF
 obtain ⟨Ou,rfl⟩:=hF
 have g6:=Ou
 refine k0 _ _ ?_
 have zg:=Bd.mk g6
 refine AP (Br fun w hw=>?_)
 first|exact ⟨(),rfl,hw⟩|exact ⟨(),rfl,trivial,hw⟩
def XM (_:IX):Value:=.tuple #[]
structure Bks (x y:IX):Prop where
 b:y.b=x.b
 sb:y.sb=x.sb
theorem PK (l:List BO):ones (BZ l)=true:=by
 induction l with
 | nil=>rfl
 | cons o l ih=>simp only [BZ,List.flatMap_cons,ones,List.all_append,boc,List.all_cons,List.all_nil,Value.oneCell',Bool.and_true,Bool.true_and] at ih ⊢;exact ih
theorem Fg (a b:List BO):BZ (a++b)=BZ a++BZ b:=by simp [BZ]
theorem NH (l:List BO) (i:Nat):(BZ l).take (i*6)=BZ (l.take i):=by
 by_cases h:i<=l.length
 ·conv=>lhs;rw [<-List.take_append_drop i l,Fg]
  exact List.take_left' (by rw [CK,List.length_take,Nat.min_eq_left h])
 ·rw [List.take_of_length_le (by rw [CK];omega),List.take_of_length_le (by omega)]
theorem NI (l:List BO) (i:Nat):(BZ l).drop (i*6)=BZ (l.drop i):=by
 by_cases h:i<=l.length
 ·conv=>lhs;rw [<-List.take_append_drop i l,Fg]
  exact List.drop_left' (by rw [CK,List.length_take,Nat.min_eq_left h])
 ·rw [List.drop_of_length_le (by rw [CK];omega),List.drop_of_length_le (by omega)]
  rfl
theorem NJ (a s l e:Ai):([s,l]++[a,e]).Perm [a,s,l,e]:=List.perm_middle (l₁:=[s,l])
def qO (b:Nat) (s0 s1:Value) (i:(Option Addr×Nat×Nat)×GJ):List Ai:=IL b s0 s1 i.2
theorem TT (x:IX) (i:Nat) (o:BO) (ho:x.l[i]? = some o) (h64:o.h<18446744073709551616) (hl:x.l.length<=100000) (hE:x.E.length<=100000) (W:World) (hst:St (Ak (Ej x)) W (Ej x) W) :
  Calls Tryz.prog 165 #[.pointer (some ⟨x.b,0,none⟩),.int .i64 (i:Int)] W
  fun en w' => ∃y:IX,en = .returned (XM y)/\(Bks x y/\y.st=x.st/\y.l=x.l.eraseIdx i/\y.E=x.E.filter fun b => !decide (b.ob=(Ac o.h:Int)))/\St (Ak (Ej x)) W (Ej y) w':=by
 obtain ⟨M,hM⟩:∃M,Ak (Ej x)=M:=⟨_,rfl⟩
 rw [hM] at hst ⊢
 obtain ⟨b,sb,LA,ln,lc,EA,en,ec,st,l,E⟩:=x
 unfold Ej at hst
 dsimp only at hst hl hE ho ⊢
 clear hM
 have hlen:l.length=ln:=by have:=(Sl.Av hst (AZ (k:=2) rfl)).len;rw [CK] at this;omega
 have hil:i<ln:=by have:=(List.getElem?_eq_some_iff.1 ho).1;omega
 refine Ab (M:=M) Tryz.func165 []  hst ?_
 refine Tv 2 rfl fun hcap ABh=>?_
 refine BQ 2 rfl (by omega) fun g DJ hg Bl=>?_
 subst DJ
 simp only [List.eraseIdx_cons_zero,List.eraseIdx_cons_succ,BC,BD,BI,A_,and_true,List.not_mem_nil,or_false,Bb] at Bl hg
 replace hg:=And.intro hg Bl
 clear Bl
 have hti:((i:Int)+1).toNat=i+1:=by omega
 refine AB fun K k0=>?_
 refine BR [(true,0),(true,1),(true,2),(true,3),(true,4),(true,5),(true,6),(true,7),(true,8),(true,9),(true,10),(false,11),(false,12)] [12] CB rfl (by kernel_rfl) (by kernel_rfl) rfl rfl ?_
 have zs:=Bd.mk Bb
 refine Ah ?_
 refine Aj (BN (m:=1) (i:=i*6+0) (v:=.int .u64 (o.h:Int)) (.tail _ (.tail _ (.head _))) rfl (Co FR ho (by omega))) ?_
 refine Ah ?_
 refine Aa (fun w hw=>CU o.h h64 w) ?_
 refine Ah ?_
 refine Af [.row (.slice (some ⟨sb,0,none⟩) 65 65) 3 1 65 (CO st),.row (.slice (some ⟨g,0,none⟩) ln lc) 105 6 ln (BZ l)] (IL b (.slice (some ⟨sb,0,none⟩) 65 65) (.slice (some ⟨g,0,none⟩) ln lc) ⟨EA,en,ec,E⟩) (NJ _ _ _ _) QR (qO b (.slice (some ⟨sb,0,none⟩) 65 65) (.slice (some ⟨g,0,none⟩) ln lc)) _ (fun w hw=>Qw b _ _ ⟨EA,en,ec,E⟩ (Ac o.h) hE w hw) ?_
 rintro ⟨vv,⟨A2,n2,c2,E2⟩⟩ hE2
 dsimp only at hE2
 unfold qO IL
 refine Ah ?_
 refine k0 _ _ ?_
 refine AV [0,1] fun G1 g1=>?_
 replace g1:=Bi g1
 refine Jk ?_
 refine CF (Ag [0] _) (fun w hw=>hw.pick (by decide)) (by simp only [Ag,nth,Be,Bv,List.mem_cons,true_or,or_true,and_true,eq_self]) [(true,0),(true,2),(true,3),(true,4),(true,5),(true,6),(true,7),(true,9),(true,10),(true,11),(true,12),(true,13),(true,14),(true,15),(false,1),(false,8),(false,16),(true,17),(true,18),(false,19)] [19] CB rfl (by kernel_rfl) (by kernel_rfl) rfl rfl ?_
 have zg:=Bd.mk g1
 refine Ap hti ?_
 intro bD hbD hfD
 refine CR 0 KL rfl rfl (fun w hw=>((hw.j_ 4 rfl).take (k:=i) (by omega)).reads) (by rw [NH];exact PK _) (by omega) (by omega) ?_
 intro A6 c6 hl6 hr6
 refine Ap (And.intro @Nat.zero_add @List.nil_append.{0}) ?_
 refine Bj 0 KL rfl (fun w hw=>((hw.j_ 4 rfl).drop (k:=i+1) (by omega)).reads) (by rw [NI];exact PK _) (by omega) (by omega) ?_
 intro A7 c7 hl7 hr7
 refine AR ?_
 refine ⟨_,rfl,fun w hw=>?_⟩
 have hE3:BZ (l.eraseIdx i)=(BZ l).take (i*6)++(BZ l).drop ((i+1)*6):=by rw [NH,NI,<-Fg,List.eraseIdx_eq_take_drop_succ]
 rw [<-hE3] at hw
 have h9:=hw.pick (ix:=[1,3,0,2]) (by decide)
 simp only [Ag,nth] at h9
 exact ⟨⟨b,sb,A7,_,c7,A2,n2,c2,st,l.eraseIdx i,E2⟩,rfl,⟨⟨rfl,rfl⟩,rfl,rfl,hE2⟩,h9⟩
structure Qz (o:BO) (l out P Q:List BO):Prop where
 rest:l=P++Q
 out:out=P++o::Q
 gt:∀q∈Q,Ac o.h<Ac q.h
 le:∀p,P.getLast? = some p->Ac p.h<=Ac o.h
theorem J5 (l:List BO) (o:BO):BZ (l++[o])=BZ l++[.int .u64 (o.h:Int),.int .i64 o.ow,.int .i64 0,.int .i64 0,.slice none 0 0,.slice none 0 0]:=by rw [Fg];rfl
def boV (o:BO):Value:=.agg #[.int .u64 (o.h:Int),.int .i64 o.ow,.int .i64 0,.int .i64 0,.slice none 0 0,.slice none 0 0]
theorem jr (x:IX) (o:BO) (AHv:o.h<18446744073709551616) (h64:∀o∈x.l,o.h<18446744073709551616) (hl:x.l.length<=100000) (W:World) (hst:St (Ak (Ej x)) W (Ej x) W) :
  Calls Tryz.prog 147 #[.pointer (some ⟨x.b,0,none⟩),boV o] W
  fun en w' => ∃y:IX,en = .returned (XM y)/\(Bks x y/\y.st=x.st/\(∃P Q,Qz o x.l y.l P Q)/\y.E=x.E)/\St (Ak (Ej x)) W (Ej y) w':=by
 obtain ⟨M,hM⟩:∃M,Ak (Ej x)=M:=⟨_,rfl⟩
 rw [hM] at hst ⊢
 obtain ⟨b,sb,LA,ln,lc,EA,en,ec,st,l,E⟩:=x
 unfold Ej at hst
 dsimp only at hst hl h64 ⊢
 clear hM
 have hlen:l.length=ln:=by have:=(Sl.Av hst (AZ (k:=2) rfl)).len;rw [CK] at this;omega
 refine Ab (M:=M) Tryz.func147 []  hst ?_
 refine AQ rfl fun K k0=>?_
 simp -implicitDefEqProofs (disch:=first|omega|decide) only [seval, -Int.reducePow, -Nat.reducePow,cC,pv,Ao,Az,undef,Bb,boV]
 intro b3 hb3 hf3
 refine k0 _ _ ?_
 refine AV [0,3] fun G2 g2=>?_
 have zs:=Bd.mk Bb
 replace g2:=Bi g2
 refine AB fun K k0=>?_
 refine A9 (fun _ _=>True) (fun F' L' => ∃(A2:Option Addr) (n2 c2:Nat),F' 0=G2 0/\F' 4 = .slice A2 n2 c2/\L'=[.row (.slice A2 n2 c2) 105 6 n2 (BZ (l++[o])),.blk b 159 [.slice (some ⟨sb,0,none⟩) 65 65,.slice LA ln lc,.slice EA en ec],.row (.slice (some ⟨sb,0,none⟩) 65 65) 3 1 65 (CO st),.row (.slice EA en ec) 163 4 en (Au E)]/\n2=ln+1) ?_ ?_
 ·refine E9 [0,1] (by decide) (by simp only [Ag,nth,Be,Bv,List.mem_cons,true_or,or_true,and_true,eq_self]) (.rd 1 (.rd 2 (.rd 3 (.rd 4 (.rd 6 (.more 0 (.more 5 (.act 7 (.act 8 (.rd 9 (.done)))) (.act 7 (.act 5 (.act 8 (.rd 9 (.done)))))) (.act 7 (.act 0 (.act 5 (.act 8 (.rd 9 (.done)))))))))))) [] CB rfl (by kernel_rfl) (by kernel_rfl) (by kernel_rfl) (by kernel_rfl) ?_
  simp only [Ag,nth]
  have zg:=Bd.mk g2
  refine AR ?_
  have o1:=PK l
  refine And.intro ?_ ?_
  ·intro bA_ AHw AHx
   refine And.intro ?_ ?_
   ·refine CR 0 KL rfl rfl (fun w hw=>EU (AZ (k:=4) rfl) hw) o1 (by omega) (by omega) ?_
    intro A3 c3 ACe ACf
    refine Ap (And.intro @Nat.zero_add @List.nil_append.{0}) ?_
    intro bE_ ACg ACh
    refine Bj 1 KL rfl (fun w hw=>Bp (size:=6) (AZ (k:=0) rfl) rfl hw) rfl (by omega) (by omega) ?_
    intro A4 c4 ACi ACj
    refine AR ?_
    refine ⟨[0,3,4,6],by decide, ?_⟩
    simp only [Ag,nth]
    refine ⟨A4,ln+1,c4, ?_⟩
    exact NQ @J5
   ·intro bE_ ACg ACh
    refine CR 1 KL rfl rfl (fun w hw=>EU (AZ (k:=5) rfl) hw) o1 (by omega) (by omega) ?_
    intro A3 c3 ACe ACf
    refine Ap (And.intro @Nat.zero_add @List.nil_append.{0}) ?_
    refine Bj 0 KL rfl (fun w hw=>Bp (size:=6) (AZ (k:=1) rfl) rfl hw) rfl (by omega) (by omega) ?_
    intro A4 c4 ACi ACj
    refine AR ?_
    refine ⟨[0,3,4,6],by decide, ?_⟩
    simp only [Ag,nth]
    refine ⟨A4,ln+1,c4, ?_⟩
    exact NQ @J5
  ·intro bE_ ACg ACh bA_ AHw AHx
   refine CR 0 KL rfl rfl (fun w hw=>EU (AZ (k:=5) rfl) hw) o1 (by omega) (by omega) ?_
   intro A3 c3 ACe ACf
   refine Ap (And.intro @Nat.zero_add @List.nil_append.{0}) ?_
   refine Bj 0 KL rfl (fun w hw=>Bp (size:=6) (AZ (k:=1) rfl) rfl hw) rfl (by omega) (by omega) ?_
   intro A4 c4 ACi ACj
   refine AR ?_
   refine ⟨[0,3,4,6],by decide, ?_⟩
   simp only [Ag,nth]
   refine ⟨A4,ln+1,c4, ?_⟩
   exact NQ @J5
 intro G3 L' _ hF
 obtain ⟨A2,n2,c2,Vz,Ou,rfl,hn2⟩:=hF
 have zg:=Bd.mk g2
 have g3:=And.intro (Bg Vz) Ou
 refine k0 _ _ ?_
 refine AB fun K k0=>?_
 replace zg:=Bd.mk g3
 refine BH ?_
 refine AV [0,4,5] fun G4 g4=>?_
 replace g4:=Bg g4
 refine BQ 0 rfl (by omega) fun g DJ hg Bl=>?_
 subst DJ
 simp only [List.eraseIdx_cons_zero,List.eraseIdx_cons_succ,BC,BD,BI,A_,and_true,List.not_mem_nil,or_false,Bb] at Bl hg
 replace hg:=And.intro hg Bl
 clear Bl
 refine Ad ?_
 refine BP (fun F' L' => ∃(k:Nat) (P Q:List BO),Az F' G4 [0,4]/\F' 5 = .int .i64 (k:Int)/\L'=[.row (.slice (some ⟨g,0,none⟩) n2 c2) 105 6 n2 (BZ (P++o::Q)),.blk b 159 [.slice (some ⟨sb,0,none⟩) 65 65,.slice LA ln lc,.slice EA en ec],.row (.slice (some ⟨sb,0,none⟩) 65 65) 3 1 65 (CO st),.row (.slice EA en ec) 163 4 en (Au E)]/\k=P.length/\l=P++Q∧∀q∈Q,Ac o.h<Ac q.h) (fun F' L'=>(intOf (F' 5)).toNat) ?_ ?_
 ·refine ⟨l.length,l,[], ?_⟩
  replace zg:=Bd.mk g4
  refine Ap (And.intro hn2 @Int.natCast_add) ?_
  exact ⟨congrArg (Value.int _) (by omega),fun q hq=>by cases hq⟩
 intro G5 L' hI
 obtain ⟨k,P,Q,zq,KO,rfl,⟨hk,U6,hQ⟩⟩:=hI
 replace zg:=Bd.mk g4
 have g5:=And.intro (Bg zq) KO
 have fw:P.length+Q.length=l.length:=by rw [U6,List.length_append]
 rcases KU P with rfl|⟨P',p,rfl⟩
 ·have k0:k=0:=by simpa using hk
  subst k0
  refine AB fun K k1=>?_
  refine AB fun K k2=>?_
  refine BR [(true,0),(true,1),(true,2),(true,3),(true,4),(true,5),(true,6),(true,7),(true,8),(true,10),(true,11),(true,12),(true,13),(true,14),(false,9),(false,15),(true,16),(true,17)] [] CB rfl (by kernel_rfl) (by kernel_rfl) rfl rfl ?_
  replace zg:=Bd.mk (And.intro g4 g5)
  refine AR ?_
  refine k2 _ _ ?_
  refine AL ?_
  refine AR ?_
  refine BM (k0 _ _ ?_)
  refine AU rfl ?_
  refine AR ?_
  refine ⟨_,rfl,fun w hw=>?_⟩
  have h9:=hw.pick (ix:=[1,2,0,3]) (by decide)
  simp only [Ag,nth] at h9
  exact ⟨⟨b,sb,some ⟨g,0,none⟩,n2,c2,EA,en,ec,st,_,E⟩,rfl,⟨⟨rfl,rfl⟩,rfl,⟨[],Q,U6,rfl,hQ,fun q hq=>by simp at hq⟩,rfl⟩,h9⟩
 have hk2:k=P'.length+1:=by simpa using hk
 have hpos:decide ((0:Int)<(k:Int))=true:=decide_eq_true (by omega)
 have ek:IntKind.i64.wrap ((k:Int)-1)=(P'.length:Int):=by rw [Ae (by omega) (by omega)];omega
 have hP2:P'.length<n2/\k<n2:=by simp at fw;omega
 have AHy:=h64 p (by rw [U6];simp)
 have r1:((P'++[p])++o::Q)[P'.length]? = some p:=KV P' Q p o
 have r2:((P'++[p])++o::Q)[k]? = some o:=by
  have:=Mv (P'++[p]) Q o
  rwa [<-hk] at this
 have RN:=Co (k:=0) FR r1 (by omega)
 have lq:=Co (k:=0) FR r2 (by omega)
 have q3:=FB FR r1
 have q4:=FB FR r2
 obtain ⟨X,hX1⟩:∃X,BZ ((P'++[p])++o::Q)=X:=⟨_,rfl⟩
 rw [hX1]
 rw [<-BZ,hX1] at RN lq q3 q4
 refine AB fun K k1=>?_
 refine AB fun K k2=>?_
 refine BR [(true,0),(true,1),(true,2),(true,3),(true,4),(true,5),(true,6),(true,7),(true,8),(true,10),(true,11),(true,12),(true,13),(true,14),(false,9),(false,15),(true,16),(true,17)] [] CB rfl (by kernel_rfl) (by kernel_rfl) rfl rfl ?_
 replace zg:=Bd.mk (And.intro g4 g5)
 refine Ap (And.intro hpos ek) ?_
 refine Aj (BN (m:=1) (v:=.int .u64 (p.h:Int)) (i:=P'.length*6+0) (.head _) rfl RN) ?_
 refine Ap (And.intro hpos ek) ?_
 refine Aj (BN (m:=1) (v:=.int .u64 (o.h:Int)) (i:=k*6+0) (.head _) rfl lq) ?_
 refine Ap (And.intro hpos ek) ?_
 refine Aa (fun w hw=>CU p.h AHy w) ?_
 refine AR ?_
 refine Aa (fun w hw=>CU o.h AHv w) ?_
 refine AR ?_
 refine k2 _ _ ?_
 refine Dl (fun hc=>?_) fun hc=>?_
 ·have hlt:Ac o.h<Ac p.h:=by have:=of_decide_eq_true hc;omega
  have p_:∀q∈p::Q,Ac o.h<Ac q.h:=fun q hq=>by
   rcases List.mem_cons.1 hq with rfl|hq
   ·exact hlt
   ·exact hQ q hq
  obtain ⟨X1,hX2⟩:∃X1,BZ (P'++o::o::Q)=X1:=⟨_,rfl⟩
  have w1:X.take (P'.length*6)++[Value.int .u64 (o.h:Int),.int .i64 o.ow,.int .i64 0,.int .i64 0,.slice none 0 0,.slice none 0 0]++X.drop (P'.length*6+6)=X1:=by
   have:=QM FR P' (o::Q) p o
   rw [show P'++p::o::Q=(P'++[p])++o::Q by simp,<-BZ,<-BZ,hX1,hX2] at this
   exact this
  have w2:X1.take (k*6)++[Value.int .u64 (p.h:Int),.int .i64 p.ow,.int .i64 0,.int .i64 0,.slice none 0 0,.slice none 0 0]++X1.drop (k*6+6)=BZ (P'++o::p::Q):=by
   have:=QM FR (P'++[o]) Q o p
   rw [show (P'++[o]).length=k by simp;omega,show (P'++[o])++o::Q=P'++o::o::Q by simp,show (P'++[o])++p::Q=P'++o::p::Q by simp,<-BZ,<-BZ,hX2] at this
   exact this
  have l1:X.length=n2*6:=by rw [<-hX1,CK];simp at fw ⊢;omega
  have l2:X1.length=n2*6:=by rw [<-hX2,CK];simp at fw ⊢;omega
  refine AO (k1 _ _ ?_)
  refine AB fun K k1=>?_
  refine Ad ?_
  refine Jk ?_
  refine E9 [] (by decide) (by simp only [Ag,nth,Be,Bv,List.mem_cons,true_or,or_true,and_true,eq_self]) (.rd 0 (.rd 1 (.rd 2 (.rd 3 (.rd 4 (.rd 5 (.rd 6 (.rd 7 (.rd 9 (.rd 10 (.rd 11 (.rd 12 (.more 8 (.act 13 (.rd 14 (.act 15 (.rd 16 (.act 17 (.done)))))) (.act 13 (.act 8 (.rd 14 (.act 15 (.rd 16 (.act 17 (.done)))))))))))))))))))) [17] CB rfl (by kernel_rfl) (by kernel_rfl) (by kernel_rfl) (by kernel_rfl) ?_
  simp only [Ag,nth]
  refine Ap ek ?_
  refine ⟨?_, ?_⟩
  ·refine Aj (DX (i:=k*6) (vs:=[.int .u64 (o.h:Int),.int .i64 o.ow,.int .i64 0,.int .i64 0,.slice none 0 0,.slice none 0 0]) (.head _) (by kernel_rfl) q4) ?_
   refine Ap ek ?_
   refine Aj (DX (i:=P'.length*6) (vs:=[.int .u64 (p.h:Int),.int .i64 p.ow,.int .i64 0,.int .i64 0,.slice none 0 0,.slice none 0 0]) (.head _) (by kernel_rfl) q3) ?_
   refine Ap ek ?_
   refine Aj (E_ 0 (i:=P'.length*6) (vs:=[.int .u64 (o.h:Int),.int .i64 o.ow,.int .i64 0,.int .i64 0,.slice none 0 0,.slice none 0 0]) rfl (by rw [l1];show _+6<=_;omega) (by kernel_rfl) rfl) ?_
   refine Ap (And.intro w1 ek) ?_
   refine Aj (E_ 0 (i:=k*6) (vs:=[.int .u64 (p.h:Int),.int .i64 p.ow,.int .i64 0,.int .i64 0,.slice none 0 0,.slice none 0 0]) rfl (by rw [l2];show _+6<=_;omega) (by kernel_rfl) rfl) ?_
   refine Ap (And.intro w2 ek) ?_
   refine ⟨[0,1,2,3],by decide, ?_⟩
   simp only [Ag,nth]
   refine k1 _ _ ?_
   refine AF rfl ?_
   refine Ap ek ?_
   refine ⟨⟨P'.length,P',p::Q, ?_⟩, ?_⟩
   ·refine AR ?_
    exact ⟨by rw [U6];simp,fun q hq=>p_ q (by simpa using hq)⟩
   ·simp only [intOf];omega
  ·refine Aj (DX (i:=P'.length*6) (vs:=[.int .u64 (p.h:Int),.int .i64 p.ow,.int .i64 0,.int .i64 0,.slice none 0 0,.slice none 0 0]) (.head _) (by kernel_rfl) q3) ?_
   refine Ap ek ?_
   refine Aj (DX (i:=k*6) (vs:=[.int .u64 (o.h:Int),.int .i64 o.ow,.int .i64 0,.int .i64 0,.slice none 0 0,.slice none 0 0]) (.head _) (by kernel_rfl) q4) ?_
   refine Ap ek ?_
   refine Aj (E_ 0 (i:=P'.length*6) (vs:=[.int .u64 (o.h:Int),.int .i64 o.ow,.int .i64 0,.int .i64 0,.slice none 0 0,.slice none 0 0]) rfl (by rw [l1];show _+6<=_;omega) (by kernel_rfl) rfl) ?_
   refine Ap (And.intro w1 ek) ?_
   refine Aj (E_ 0 (i:=k*6) (vs:=[.int .u64 (p.h:Int),.int .i64 p.ow,.int .i64 0,.int .i64 0,.slice none 0 0,.slice none 0 0]) rfl (by rw [l2];show _+6<=_;omega) (by kernel_rfl) rfl) ?_
   refine Ap (And.intro w2 ek) ?_
   refine ⟨[0,1,2,3],by decide, ?_⟩
   simp only [Ag,nth]
   refine k1 _ _ ?_
   refine AF rfl ?_
   refine Ap ek ?_
   refine ⟨⟨P'.length,P',p::Q, ?_⟩, ?_⟩
   ·refine AR ?_
    exact ⟨by rw [U6];simp,fun q hq=>p_ q (by simpa using hq)⟩
   ·simp only [intOf];omega
 ·have hge:¬Ac o.h<Ac p.h:=by have:=of_decide_eq_false hc;omega
  refine BM (k0 _ _ ?_)
  rw [<-hX1]
  refine AU rfl ?_
  refine AR ?_
  refine ⟨_,rfl,fun w hw=>?_⟩
  have h9:=hw.pick (ix:=[1,2,0,3]) (by decide)
  simp only [Ag,nth] at h9
  exact ⟨⟨b,sb,some ⟨g,0,none⟩,n2,c2,EA,en,ec,st,(P'++[p])++o::Q,E⟩,rfl,⟨⟨rfl,rfl⟩,rfl,⟨P'++[p],Q,U6,rfl,hQ,fun q hq=>by simp at hq;subst hq;omega⟩,rfl⟩,h9⟩
def ownB (p:Int) (o:BO):Bool:=decide (o.ow=p)
def XN (p:Int) (l:List BO) (b:Bw):Bool:=l.any fun o=>ownB p o&&decide ((Ac o.h:Int)=b.ob)
def Gp (p:Int) (l:List BO) (j:Nat):List BO:=l.take j++(l.drop j).filter fun o => !ownB p o
def Iu (p:Int) (l:List BO) (E:List Bw) (j:Nat):List Bw:=E.filter fun b => !XN p (l.drop j) b
def Gq (p:Int) (l:List BO) (j:Nat):Nat:=((l.drop j).filter (ownB p)).length
theorem drop_cons {α:Type} {l:List α} {j:Nat} {o:α} (h:l[j]? = some o):l.drop j=o::l.drop (j+1):=by
 rw [List.drop_eq_getElem_cons (List.getElem?_eq_some_iff.1 h).1,(List.getElem?_eq_some_iff.1 h).2]
theorem dB {p:Int} {l:List BO} {j:Nat} {o:BO} (h:l[j]? = some o):(Gp p l (j+1))[j]? = some o:=by
 unfold Gp
 have:=(List.getElem?_eq_some_iff.1 h).1
 rw [List.getElem?_append_left (by rw [List.length_take];omega),List.getElem?_take,if_pos (by omega),h]
theorem jv {p:Int} {l:List BO} {j:Nat} {o:BO} (h:l[j]? = some o) (ho:ownB p o=false):Gp p l j=Gp p l (j+1):=by
 unfold Gp
 rw [drop_cons h,List.filter_cons,ho,List.take_add_one,h]
 simp
theorem dC {p:Int} {l:List BO} {j:Nat} {o:BO} (h:l[j]? = some o) (ho:ownB p o=true):Gp p l j=(Gp p l (j+1)).eraseIdx j:=by
 have hlt:=(List.getElem?_eq_some_iff.1 h).1
 unfold Gp
 rw [drop_cons h,List.filter_cons,ho,List.take_add_one,h]
 have hl:(l.take j).length=j:=by rw [List.length_take];omega
 simp only [Option.toList_some,Bool.not_true,Bool.false_eq_true,if_false,List.append_assoc,List.cons_append,List.nil_append]
 rw [List.eraseIdx_append_of_length_le (by omega),hl,Nat.sub_self]
 rfl
theorem Q0 {p:Int} {l:List BO} {o:BO} {b:Bw} : XN p (o::l) b=(ownB p o&&decide ((Ac o.h:Int)=b.ob)||XN p l b):=rfl
theorem jw {p:Int} {l:List BO} {E:List Bw} {j:Nat} {o:BO} (h:l[j]? = some o) (ho:ownB p o=false):Iu p l E j=Iu p l E (j+1):=by
 unfold Iu
 refine List.filter_congr fun b _=>?_
 rw [drop_cons h,Q0,ho]
 simp
theorem dD {p:Int} {l:List BO} {E:List Bw} {j:Nat} {o:BO} (h:l[j]? = some o) (ho:ownB p o=true):Iu p l E j=(Iu p l E (j+1)).filter fun b => !decide (b.ob=(Ac o.h:Int)):=by
 unfold Iu
 rw [List.filter_filter]
 refine List.filter_congr fun b _=>?_
 rw [drop_cons h,Q0,ho]
 rw [show decide ((Ac o.h:Int)=b.ob)=decide (b.ob=(Ac o.h:Int)) from decide_eq_decide.2 ⟨Eq.symm,Eq.symm⟩]
 simp
theorem jy {p:Int} {l:List BO} {j:Nat} {o:BO} (h:l[j]? = some o) (ho:ownB p o=false):Gq p l j=Gq p l (j+1):=by
 unfold Gq
 rw [drop_cons h,List.filter_cons,ho]
 simp
theorem dE {p:Int} {l:List BO} {j:Nat} {o:BO} (h:l[j]? = some o) (ho:ownB p o=true):Gq p l j=Gq p l (j+1)+1:=by
 unfold Gq
 rw [drop_cons h,List.filter_cons,ho]
 simp
def oM (i:Bool×IX):Value:=.bool i.1
def Yb (i:Bool×IX):List Ai:=Ej i.2
theorem j4 (x:IX) (p:Int) (n:Nat) (hp:1<=p/\p<=64) (hs:x.st.length=65) (h64:∀o∈x.l,o.h<18446744073709551616) (hl:x.l.length<=100000) (hE:x.E.length<=100000) (W:World) (hst:St (Ak (Ej x)) W (Ej x) W) :
  Calls Tryz.prog 144 #[.pointer (some ⟨x.b,0,none⟩),.int .i64 p,.int .u64 (n:Int)] W
  fun en w' => ∃i:Bool×IX,en = .returned (oM i)/\(i.1=decide ((x.l.filter (ownB p)).length=n)/\Bks x i.2/\i.2.st=x.st.set p.toNat 2/\i.2.l=(x.l.filter fun o => !ownB p o)/\i.2.E=(x.E.filter fun b => !decide (b.ho=p)).filter fun b => !XN p x.l b)/\St (Ak (Ej x)) W (Yb i) w':=by
 obtain ⟨M,hM⟩:∃M,Ak (Ej x)=M:=⟨_,rfl⟩
 rw [hM] at hst ⊢
 obtain ⟨b,sb,LA,ln,lc,EA,en,ec,st,l,E⟩:=x
 unfold Ej at hst
 dsimp only at hst hl hE hs h64 ⊢
 clear hM
 have hlen:l.length=ln:=by have:=(Sl.Av hst (AZ (k:=2) rfl)).len;rw [CK] at this;omega
 refine Ab (M:=M) Tryz.func144 [.tmp 6]  hst ?_
 have zs:=Bd.mk Bb
 refine Aq ?_
 refine AQ rfl fun K k0=>?_
 refine Ah ?_
 refine Af [.row (.slice (some ⟨sb,0,none⟩) 65 65) 3 1 65 (CO st),.row (.slice LA ln lc) 105 6 ln (BZ l)] (IL b (.slice (some ⟨sb,0,none⟩) 65 65) (.slice LA ln lc) ⟨EA,en,ec,E⟩) (NJ _ _ _ _) (fun _=>.int .i64 (ED E p:Int)) (IL b (.slice (some ⟨sb,0,none⟩) 65 65) (.slice LA ln lc)) _ (fun w hw=>Qv b _ _ ⟨EA,en,ec,E⟩ p hE w hw) ?_
 rintro ⟨A2,n2,c2,E1⟩ hE1
 dsimp only at hE1
 have AHz:E1.length<=100000:=by rw [hE1];exact Nat.le_trans (List.length_filter_le _ _) hE
 unfold IL
 refine Ah ?_
 refine k0 _ _ ?_
 refine Aq ?_
 refine AB fun K k0=>?_
 refine Aq ?_
 refine AV [0,1,2,7,8] fun G1 g1=>?_
 replace g1:=Bi g1
 refine BF [0,2,3,1] (by decide) ?_
 simp only [Ag,nth]
 refine Ad ?_
 refine BP (fun F' L' => ∃(j:Nat) (LA1:Option Addr) (uO vP:Nat) (vQ:Option Addr) (vR vS:Nat),Az F' G1 [0,1,2]/\F' 7 = .int .u64 (Gq p l j:Int)/\F' 8 = .int .i64 ((j:Int)-1)/\L'=Ej ⟨b,sb,LA1,uO,vP,vQ,vR,vS,st,Gp p l j,Iu p l E1 j⟩/\j<=l.length) (fun F' L'=>(intOf (F' 8)+1).toNat) ?_ ?_
 ·refine ⟨l.length,LA,ln,lc,A2,n2,c2, ?_⟩
  have e1:Gp p l l.length=l:=by unfold Gp;simp
  have e2:Iu p l E1 l.length=E1:=by unfold Iu;rw [List.drop_length];exact List.filter_eq_self.2 fun b _=>rfl
  have e3:Gq p l l.length=0:=by unfold Gq;rw [List.drop_length];rfl
  rw [e1,e2,e3,hlen]
  have zg:=Bd.mk g1
  refine AR ?_
  rfl
 intro G2 L' hI
 obtain ⟨j,LA1,uO,vP,vQ,vR,vS,zq,Lv,QU,rfl,hj⟩:=hI
 have zg:=Bd.mk g1
 have g2:=And.intro (Bg zq) (And.intro Lv QU)
 have hll:(Gp p l j).length<=100000:=by
  unfold Gp
  rw [List.length_append,List.length_take]
  have:=List.length_filter_le (fun o => !ownB p o) (l.drop j)
  rw [List.length_drop] at this
  omega
 have hel:(Iu p l E1 j).length<=100000:=Nat.le_trans (List.length_filter_le _ _) AHz
 have hcl:Gq p l j<=100000:=by
  have:Gq p l j<=(l.drop j).length:=List.length_filter_le _ _
  rw [List.length_drop] at this
  omega
 refine AB fun K k1=>?_
 replace zg:=Bd.mk (And.intro g1 g2)
 refine BH ?_
 refine Dl (fun hc=>?_) fun hc=>?_
 ·have hj0:=of_decide_eq_true hc
  obtain ⟨i,rfl⟩:∃i,j=i+1:=⟨j-1,by omega⟩
  obtain ⟨o,ho⟩:∃o,l[i]? = some o:=⟨_,List.getElem?_eq_getElem (by omega)⟩
  have Yc:=h64 o (List.mem_of_getElem? ho)
  have hog:=dB (p:=p) ho
  have hi1:((i+1:Nat):Int)-1=(i:Int):=by omega
  have lu:IntKind.i64.wrap ((i:Int)-1)=(i:Int)-1:=Ae (by omega) (by omega)
  refine AO (k1 _ _ ?_)
  unfold Ej
  dsimp only
  refine EX 2 rfl fun hlL=>?_
  rw [CK] at hlL
  have hiL:i<uO:=by have:=(List.getElem?_eq_some_iff.1 hog).1;omega
  refine BQ 2 rfl (by omega) fun g DJ hg Bl=>?_
  subst DJ
  simp only [List.eraseIdx_cons_zero,List.eraseIdx_cons_succ,BC,BD,BI,A_,and_true,List.not_mem_nil,or_false,Bb] at Bl hg
  replace hg:=And.intro hg Bl
  clear Bl
  refine AB fun K k1=>?_
  refine Ad ?_
  refine AQ rfl fun K k2=>?_
  refine Ap hi1 ?_
  refine Aj (BN (m:=1) (i:=i*6+1) (v:=.int .i64 o.ow) (.tail _ (.tail _ (.head _))) rfl (Co FR hog (by omega))) ?_
  refine Ap hi1 ?_
  refine k2 _ _ ?_
  refine AL ?_
  by_cases how:o.ow=p
  ·have LF:ownB p o=true:=decide_eq_true how
   refine Ap how ?_
   refine AQ rfl fun K k2=>?_
   refine Ap hi1 ?_
   refine Af [] (Ej ⟨b,sb,some ⟨g,0,none⟩,uO,vP,vQ,vR,vS,st,Gp p l (i+1),Iu p l E1 (i+1)⟩) (List.Perm.refl _) XM Ej _ (fun w hw=>TT ⟨b,sb,some ⟨g,0,none⟩,uO,vP,vQ,vR,vS,st,Gp p l (i+1),Iu p l E1 (i+1)⟩ i o hog Yc hll hel w hw) ?_
   rintro ⟨b',sb',LA2,ln2,lc2,l9,l_,mD,st2,l2,E2⟩ ⟨⟨hy1,hy2⟩,hy3,hy4,uP⟩
   dsimp only at hy1 hy2 hy3 hy4 uP
   rw [<-dC ho LF] at hy4
   rw [<-dD ho LF] at uP
   subst hy1 hy2 hy3 hy4 uP
   simp -implicitDefEqProofs (disch:=first|omega|decide) only [seval, -Int.reducePow, -Nat.reducePow,cC,pv,Ao,Az,undef,Bb,XM,g1,g2]
   refine k2 _ _ ?_
   have hcw:((Gq p l i:Nat):Int)=(Gq p l (i+1):Int)+1:=by rw [dE ho LF];rfl
   have hcw2:IntKind.u64.wrap ((Gq p l (i+1):Int)+1)=(Gq p l (i+1):Int)+1:=wrap_u64 (by omega) (by omega)
   refine AU rfl ?_
   refine AR ?_
   refine k1 _ _ ?_
   refine AF rfl ?_
   refine Ap (And.intro hi1 lu) ?_
   refine ⟨⟨i,LA2,ln2,lc2,l9,l_,mD, ?_⟩, ?_⟩
   ·refine Ap (And.intro hcw (And.intro hcw2 (And.intro lu @List.append_nil.{0}))) ?_
    exact ⟨rfl,by omega⟩
   ·simp only [intOf];omega
  ·have LF:ownB p o=false:=decide_eq_false how
   refine Ap how ?_
   refine AO (k1 _ _ ?_)
   refine AF rfl ?_
   refine Ap hi1 ?_
   refine ⟨⟨i,some ⟨g,0,none⟩,uO,vP,vQ,vR,vS, ?_⟩, ?_⟩
   ·rw [jv ho LF,jw ho LF,jy ho LF]
    refine Ap lu ?_
    omega
   ·simp only [intOf];omega
 refine BM (k0 _ _ ?_)
 have hj1:j=0:=by have:=of_decide_eq_false hc;omega
 subst hj1
 have e1:Gp p l 0=l.filter fun o => !ownB p o:=by unfold Gp;rw [List.drop_zero];rfl
 have e2:Iu p l E1 0=E1.filter fun b => !XN p l b:=by unfold Iu;rw [List.drop_zero]
 have e3:Gq p l 0=(l.filter (ownB p)).length:=by unfold Gq;rw [List.drop_zero]
 rw [e1,e2]
 unfold Ej
 dsimp only
 have hput:(CO st).set p.toNat (Value.int .i64 2)=CO (st.set p.toNat 2):=by
  unfold CO
  rw [List.map_set]
 refine BQ 1 rfl (by omega) fun gN_ DJ UQ hN=>?_
 cases DJ
 clear UQ
 simp only [List.eraseIdx_cons_zero,List.eraseIdx_cons_succ,BC,BD,BI,A_,and_true,Bb] at hN
 refine AQ rfl fun K k0=>?_
 refine AR ?_
 refine Aj (EW 1 (i:=p.toNat) (v:=.int .i64 2) rfl (by unfold CO;rw [List.length_map,hs];omega) (by kernel_rfl) rfl rfl) ?_
 refine Ap hput ?_
 refine k0 _ _ ?_
 refine FP e3 ?_
 refine AP (Br fun w hw=>?_)
 rw [show decide (((l.filter (ownB p)).length:Int)=(n:Int))=decide ((l.filter (ownB p)).length=n) from decide_eq_decide.2 Int.ofNat_inj]
 exact ⟨(decide ((l.filter (ownB p)).length=n),⟨b,sb,LA1,uO,vP,vQ,vR,vS,st.set p.toNat 2,_,_⟩),rfl,⟨rfl,⟨rfl,rfl⟩,rfl,rfl,by rw [hE1]⟩,hw⟩
end Go.Proofs.YtegonkdandmolaaGreat
