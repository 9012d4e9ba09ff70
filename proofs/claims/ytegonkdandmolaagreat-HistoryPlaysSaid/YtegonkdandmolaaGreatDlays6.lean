import Derived.Test.YtegonkdandmolaaGreatDlays5
import Derived.Test.YtegonkdandmolaaGreatDlays1
set_option linter.unusedVariables false
set_option linter.unusedSimpArgs false
set_option maxRecDepth 100000
set_option maxHeartbeats 4000000
namespace Go.Proofs.YtegonkdandmolaaGreat
open Go.RowKit Go.Shelf
def N8 (st:List Int) (e:DZ):Bool:=(decide (1<=e.ar)&&decide (e.ar<=64)&&decide (st[e.ar]? = some 1)) && !decide ((e.ar:Int)=e.pl)
def Kn (x:IX) (e:DZ) (o:BO) (m:Int) (r:Bool) (y:IX):Prop :=
 if (decide (o.ow=e.pl)&&N8 x.st e)=true then ∃rc,r=decide (rc=0)/\GV x.E (Ac o.h) e.ar m rc y.E/\y.l=x.l else r=false
def Ey (x:IX) (e:DZ) (i:Nat) (o:BO) (r:Bool) (y:IX):Prop :=
 if e.op=11 then ∃rc,r=decide (rc=0)/\Gj x.E (Ac o.h) e.pl rc y.E/\y.l=x.l
 else if e.op=2 then (if (decide (o.ow=e.pl)&&decide (Fa x.E (Ac o.h)=[]))=true then r=true/\y.l=x.l.eraseIdx i/\y.E=x.E.filter fun b => !decide (b.ob=(Ac o.h:Int)) else r=false)
 else if e.op=8 then (if (decide (o.ow=e.pl)&&decide (Fa x.E (Ac o.h)=[])&&N8 x.st e)=true then r=true/\y.l=x.l.set i ⟨o.h,e.ar⟩/\y.E=x.E else r=false)
 else if e.op=9 then Kn x e o 1 r y
 else if e.op=10 then Kn x e o 2 r y
 else r=false
structure TU (x:IX) (e:DZ) (r:Bool) (y:IX):Prop where
 no:x.l.findIdx? (fun o=>decide (o.h=e.h))=none->r=false
 yes:∀i o,x.l.findIdx? (fun o=>decide (o.h=e.h))=some i->x.l[i]? = some o->Ey x e i o r y
 st:y.st=x.st
theorem TU.AH2 {x:IX} {e:DZ} {r:Bool} {y:IX} (h:x.l.findIdx? (fun o=>decide (o.h=e.h))=none) (hr:r=false) (hst:y.st=x.st):TU x e r y:=⟨fun _=>hr,fun i o hi=>(by rw [h] at hi;cases hi),hst⟩
theorem TU.of {x:IX} {e:DZ} {r:Bool} {y:IX} {i:Nat} {o:BO} (h:x.l.findIdx? (fun o=>decide (o.h=e.h))=some i) (ho:x.l[i]? = some o) (hr:Ey x e i o r y) (hst:y.st=x.st):TU x e r y:=⟨fun hn=>(by rw [h] at hn;cases hn),fun i' o' hi ho'=>(by
 rw [h] at hi
 cases hi
 rw [ho] at ho'
 cases ho'
 exact hr),hst⟩
theorem Ut {st:List Int} {e:DZ} (h:N8 st e=true):e.ar<=64:=by
 unfold N8 at h
 simp only [Bool.and_eq_true,decide_eq_true_eq] at h
 exact h.1.1.2
def dF (b:Nat) (s0 s1:Value) (i:Int×GJ):List Ai:=IL b s0 s1 i.2
theorem uQ {l:List BO} {i:Nat} {o:BO} (h:l[i]? = some o) (v:Int):(BZ l).set (i*6+1) (.int .i64 v)=BZ (l.set i ⟨o.h,v⟩):=by
 have hlt:=(List.getElem?_eq_some_iff.1 h).1
 have e1:l=l.take i++o::l.drop (i+1):=by
  conv=>lhs;rw [<-List.take_append_drop i l]
  rw [drop_cons h]
 have hl:(l.take i).length=i:=by rw [List.length_take];omega
 have e2:l.set i ⟨o.h,v⟩=l.take i++⟨o.h,v⟩::l.drop (i+1):=by
  conv=>lhs;rw [e1]
  rw [List.set_append_right _ _ (by omega),hl,Nat.sub_self]
  rfl
 rw [e2]
 conv=>lhs;rw [e1]
 rw [Fg,Fg,List.set_append_right _ _ (by rw [CK,hl];omega),CK,hl]
 rw [show i*6+1-i*6=1 by omega]
 rfl
theorem C9:type_of% (And.intro (And.intro @Nat.mul_one @Ae) (And.intro @G_ (And.intro @cM @Dc.eq_1))):=(And.intro (And.intro @Nat.mul_one @Ae) (And.intro @G_ (And.intro @cM @Dc.eq_1)))
theorem XO (x:IX) (e:DZ) (he:e.ok) (hpl:1<=e.pl/\e.pl<=64) (hs:x.st.length=65) (h64:∀o∈x.l,o.h<18446744073709551616) (hl:x.l.length<=100000) (hE:x.E.length<=100000) (hc:∀c∈x.E,0<=c.co/\c.co<=4611686018427387904) (W:World) (hst:St (Ak (Ej x)) W (Ej x) W) :
  Calls Tryz.prog 148 #[.pointer (some ⟨x.b,0,none⟩),NZ e] W
  fun en w' => ∃i:Bool×IX,en = .returned (oM i)/\(TU x e i.1 i.2/\Bks x i.2)/\St (Ak (Ej x)) W (Yb i) w':=by
 obtain ⟨M,hM⟩:∃M,Ak (Ej x)=M:=⟨_,rfl⟩
 rw [hM] at hst ⊢
 obtain ⟨b,sb,LA,ln,lc,EA,en,ec,st,l,E⟩:=x
 unfold Ej at hst
 dsimp only at hst hl hE hs h64 hc ⊢
 clear hM
 have hlen:l.length=ln:=by have:=(Sl.Av hst (AZ (k:=2) rfl)).len;rw [CK] at this;omega
 obtain ⟨v,hv⟩:∃v,MN l e.h=v:=⟨_,rfl⟩
 have hwp:IntKind.u64.wrap e.pl=e.pl:=wrap_u64 (by omega) (by omega)
 refine Ab (M:=M) Tryz.func148 [.tmp 4]  hst ?_
 refine AQ rfl fun K k0=>?_
 simp -implicitDefEqProofs (disch:=first|omega|decide) only [seval, -Int.reducePow, -Nat.reducePow,cC,pv,Ao,Az,undef,C9,NZ]
 intro b3 hb3 hf3
 refine k0 _ _ ?_
 refine AQ rfl fun K k0=>?_
 have zs:=Bd.mk C9
 refine Ah ?_
 refine Bq (Ej ⟨b,sb,LA,ln,lc,EA,en,ec,st,l,E⟩) (.cons _ (List.Sublist.refl _)) (fun _:Unit=>.int .i64 v) _ (fun w hw=>hv▸cz ⟨b,sb,LA,ln,lc,EA,en,ec,st,l,E⟩ e.h hl w hw) ?_
 intro _ _
 refine Ah ?_
 refine k0 _ _ ?_
 refine AV [0,3,5] fun G1 g1=>?_
 replace g1:=Bi g1
 have hv2:(l.findIdx? (fun o=>decide (o.h=e.h))=none/\v = -1)∨∃i:Nat,l.findIdx? (fun o=>decide (o.h=e.h))=some i/\v=i:=by
  rw [<-hv]
  unfold MN
  cases l.findIdx? (fun o=>decide (o.h=e.h)) with
  | none=>exact .inl ⟨rfl,rfl⟩
  | some i=>exact .inr ⟨i,rfl,rfl⟩
 rcases hv2 with ⟨hn,rfl⟩|⟨i,hi,rfl⟩
 ·refine AB fun K k0=>?_
  have zg:=Bd.mk g1
  refine BH ?_
  refine AL ?_
  refine AR ?_
  refine BH ?_
  refine AP (Br fun w hw=>?_)
  exact ⟨(false,⟨b,sb,LA,ln,lc,EA,en,ec,st,l,E⟩),rfl,⟨.AH2 hn rfl rfl,⟨rfl,rfl⟩⟩,hw.tail⟩
 have hil:i<l.length:=(List.findIdx?_eq_some_iff_getElem.1 hi).1
 obtain ⟨o,ho⟩:∃o,l[i]? = some o:=⟨_,List.getElem?_eq_getElem hil⟩
 have Yc:=h64 o (List.mem_of_getElem? ho)
 have hin:¬((i:Int)<0):=by omega
 refine AB fun K k0=>?_
 have zg:=Bd.mk g1
 refine BH ?_
 refine AL ?_
 refine Ap hin ?_
 refine AO (k0 _ _ ?_)
 refine BQ 3 rfl (by omega) fun g DJ hg Bl=>?_
 subst DJ
 simp only [List.eraseIdx_cons_zero,List.eraseIdx_cons_succ,BC,BD,BI,A_,and_true,List.not_mem_nil,or_false,C9] at Bl hg
 replace hg:=And.intro hg Bl
 clear Bl
 refine AQ rfl fun K k0=>?_
 refine AR ?_
 refine Aj (DX (i:=i*6) (vs:=boc o) (AZ (k:=3) rfl) (by kernel_rfl) (FB FR ho)) ?_
 refine AR ?_
 simp only [boc,List.length_cons,List.length_nil,true_and]
 refine AR ?_
 intro b6 hb6 hf6
 refine k0 _ _ ?_
 refine AQ rfl fun K k0=>?_
 refine AR ?_
 refine Aa (fun w hw=>CU o.h Yc w) ?_
 refine AR ?_
 refine k0 _ _ ?_
 obtain ⟨lo,hlo⟩:∃lo,Fa E (Ac o.h)=lo:=⟨_,rfl⟩
 refine AQ rfl fun K k0=>?_
 refine AR ?_
 refine Cn (fun A n c=>.slice A n c) (fun w hw=>(hlo▸Jv (JJ.of hw 2 5 rfl rfl hE) (Ac o.h))) ?_
 intro A1 n1 c1 hl1 hr1
 have hn1:lo.length=n1:=by rw [BV] at hl1;omega
 refine AR ?_
 refine k0 _ _ ?_
 refine BF [1,2,3,4,5,6] (by decide) ?_
 simp only [Ag,nth]
 refine AV [0,3,5,6,7,8] fun G2 g2=>?_
 replace g2:=Bg g2
 refine AB fun K k0=>?_
 refine A9 (fun _ _=>True) (fun F' L'=>Az F' G2 [0,3,5,6,7,8]/\F' 9 = .bool (N8 st e)/\L'=[.blk b6 105 [.int .u64 (o.h:Int),.int .i64 o.ow,.int .i64 0,.int .i64 0,.slice none 0 0,.slice none 0 0],.blk b3 68 [.int .i64 e.pl,.int .i64 e.op,.int .u64 (e.h:Int),.int .u64 (e.ar:Int),.int .i64 e.er],.blk b 159 [.slice (some ⟨sb,0,none⟩) 65 65,.slice (some ⟨g,0,none⟩) ln lc,.slice EA en ec],.row (.slice (some ⟨sb,0,none⟩) 65 65) 3 1 65 (CO st),.row (.slice (some ⟨g,0,none⟩) ln lc) 105 6 ln (BZ l),.row (.slice EA en ec) 163 4 en (Au E)]) ?_ ?_
 ·unfold N8
  obtain ⟨al,hal⟩:∃al,(decide (1<=e.ar)&&decide (e.ar<=64)&&decide (st[e.ar]? = some 1))=al:=⟨_,rfl⟩
  rw [hal]
  cases al with
  | false =>
   refine AF rfl ?_
   replace zg:=Bd.mk g2
   refine AR ?_
   refine Bq (Ej ⟨b,sb,some ⟨g,0,none⟩,ln,lc,EA,en,ec,st,l,E⟩) (.cons _ (.cons _ (List.Sublist.refl _))) (fun _:Unit=>.bool false) _ (fun w hw=>hal▸Qy ⟨b,sb,some ⟨g,0,none⟩,ln,lc,EA,en,ec,st,l,E⟩ e.ar w hw hs) ?_
   intro _ _
   exact MQ
  | true =>
   refine AF rfl ?_
   replace zg:=Bd.mk g2
   refine Ap hwp ?_
   refine Bq (Ej ⟨b,sb,some ⟨g,0,none⟩,ln,lc,EA,en,ec,st,l,E⟩) (.cons _ (.cons _ (List.Sublist.refl _))) (fun _:Unit=>.bool true) _ (fun w hw=>hal▸Qy ⟨b,sb,some ⟨g,0,none⟩,ln,lc,EA,en,ec,st,l,E⟩ e.ar w hw hs) ?_
   intro _ _
   exact NQ hwp
 intro G3 L' _ hF
 obtain ⟨zq,aa,rfl⟩:=hF
 replace zg:=Bd.mk g2
 have g3:=And.intro (Bg zq) aa
 refine k0 _ _ ?_
 replace zg:=Bd.mk g3
 refine BH ?_
 refine BF [1,2,3,4,5] (by decide) ?_
 simp only [Ag,nth]
 refine AB fun K k0=>?_
 refine BH ?_
 refine AV [0,3,5,7,8,9,10,51] fun G4 g4=>?_
 replace g4:=Bg g4
 refine Ad ?_
 by_cases h11:e.op=11
 ·have d11:decide (e.op=11)=true:=decide_eq_true h11
  replace zg:=Bd.mk g4
  refine FP d11 ?_
  refine AL ?_
  refine Ap d11 ?_
  refine AB fun K k1=>?_
  refine CF (Ag [0] _) (fun w hw=>hw.pick (by decide)) (by simp only [Ag,nth,Be,Bv,List.mem_cons,true_or,or_true,and_true,eq_self]) [(true,0),(true,1),(true,2),(true,3),(true,4),(true,5),(false,6),(true,7),(true,8)] [] CB rfl (by kernel_rfl) (by kernel_rfl) rfl rfl ?_
  refine AR ?_
  refine Af [.blk b3 68 [.int .i64 e.pl,.int .i64 e.op,.int .u64 (e.h:Int),.int .u64 (e.ar:Int),.int .i64 e.er],.row (.slice (some ⟨sb,0,none⟩) 65 65) 3 1 65 (CO st),.row (.slice (some ⟨g,0,none⟩) ln lc) 105 6 ln (BZ l)] (IL b (.slice (some ⟨sb,0,none⟩) 65 65) (.slice (some ⟨g,0,none⟩) ln lc) ⟨EA,en,ec,E⟩) (.cons _ (NJ _ _ _ _)) Xq (dF b (.slice (some ⟨sb,0,none⟩) 65 65) (.slice (some ⟨g,0,none⟩) ln lc)) _ (fun w hw=>Us b _ _ ⟨EA,en,ec,E⟩ (Ac o.h) e.pl hE hc w hw) ?_
  rintro ⟨rc,⟨l9,l_,mD,E2⟩⟩ hrc
  dsimp only at hrc
  simp -implicitDefEqProofs (disch:=first|omega|decide) only [seval, -Int.reducePow, -Nat.reducePow,cC,pv,Ao,Az,undef,C9,Xq,dF,IL,g4]
  refine k1 _ _ ?_
  refine AP (Br fun w hw=>?_)
  have hr:Ey ⟨b,sb,some ⟨g,0,none⟩,ln,lc,EA,en,ec,st,l,E⟩ e i o (decide (rc=0)) ⟨b,sb,some ⟨g,0,none⟩,ln,lc,l9,l_,mD,st,l,E2⟩:=by
   unfold Ey
   simp only [h11]
   exact ⟨rc,rfl,hrc,trivial⟩
  have h9:=hw.pick (ix:=[0,3,4,1]) (by decide)
  simp only [Ag,nth] at h9
  exact ⟨(decide (rc=0),⟨b,sb,some ⟨g,0,none⟩,ln,lc,l9,l_,mD,st,l,E2⟩),rfl,⟨.of hi ho hr rfl,⟨rfl,rfl⟩⟩,h9⟩
 replace zg:=Bd.mk g4
 refine FP h11 ?_
 refine AL ?_
 refine Ap h11 ?_
 by_cases h2:e.op=2
 ·have d2:decide (e.op=2)=true:=decide_eq_true h2
  refine FP d2 ?_
  refine AL ?_
  refine Ap d2 ?_
  refine AB fun K k1=>?_
  refine A9 (fun _ _=>True) (fun F' L'=>Az F' G4 [0,5]/\F' 69 = .bool (decide (o.ow=e.pl)&&decide (lo=[]))/\L'=[.blk b3 68 [.int .i64 e.pl,.int .i64 e.op,.int .u64 (e.h:Int),.int .u64 (e.ar:Int),.int .i64 e.er],.blk b 159 [.slice (some ⟨sb,0,none⟩) 65 65,.slice (some ⟨g,0,none⟩) ln lc,.slice EA en ec],.row (.slice (some ⟨sb,0,none⟩) 65 65) 3 1 65 (CO st),.row (.slice (some ⟨g,0,none⟩) ln lc) 105 6 ln (BZ l),.row (.slice EA en ec) 163 4 en (Au E)]) ?_ ?_
  ·cases hw1:decide (o.ow=e.pl) with
   | false =>
    rw [hw1] at g4
    refine AF rfl ?_
    replace zg:=Bd.mk g4
    exact MQ
   | true =>
    rw [hw1] at g4
    refine AF rfl ?_
    replace zg:=Bd.mk g4
    refine AR ?_
    rcases lo with _|⟨c0,lo⟩
    ·simp at hn1
     simp [<-hn1]
    ·simp at hn1
     simp
     omega
  intro G5 L' _ hF
  obtain ⟨zq,AH3,rfl⟩:=hF
  have g5:=And.intro (Bg zq) AH3
  refine k1 _ _ ?_
  refine AL ?_
  cases Fe:(decide (o.ow=e.pl)&&decide (lo=[])) with
  | true =>
   replace zg:=Bd.mk g5
   refine Ap Fe ?_
   refine AQ rfl fun K k1=>?_
   refine AR ?_
   refine Af [.blk b3 68 [.int .i64 e.pl,.int .i64 e.op,.int .u64 (e.h:Int),.int .u64 (e.ar:Int),.int .i64 e.er]] (Ej ⟨b,sb,some ⟨g,0,none⟩,ln,lc,EA,en,ec,st,l,E⟩) (List.Perm.refl _) XM Ej _ (fun w hw=>TT ⟨b,sb,some ⟨g,0,none⟩,ln,lc,EA,en,ec,st,l,E⟩ i o ho Yc hl hE w hw) ?_
   rintro y ⟨⟨hy1,hy2⟩,hy3,hy4,uP⟩
   simp -implicitDefEqProofs (disch:=first|omega|decide) only [seval, -Int.reducePow, -Nat.reducePow,cC,pv,Ao,Az,undef,C9,XM,g5]
   refine k1 _ _ ?_
   refine BH ?_
   refine AP (Br fun w hw=>?_)
   have hr:Ey ⟨b,sb,some ⟨g,0,none⟩,ln,lc,EA,en,ec,st,l,E⟩ e i o true y:=by
    unfold Ey
    rw [<-hlo] at Fe
    simp only [h2,Fe]
    exact ⟨trivial,hy4,uP⟩
   exact ⟨(true,y),rfl,⟨.of hi ho hr hy3,⟨hy1,hy2⟩⟩,hw.sub (List.sublist_append_left _ _)⟩
  | false =>
   have hr:Ey ⟨b,sb,some ⟨g,0,none⟩,ln,lc,EA,en,ec,st,l,E⟩ e i o false ⟨b,sb,some ⟨g,0,none⟩,ln,lc,EA,en,ec,st,l,E⟩:=by
    unfold Ey
    rw [<-hlo] at Fe
    simp [h2,Fe]
   replace zg:=Bd.mk g5
   refine Ap Fe ?_
   refine AO (k0 _ _ ?_)
   refine BH ?_
   refine AP (Br fun w hw=>?_)
   exact ⟨(false,⟨b,sb,some ⟨g,0,none⟩,ln,lc,EA,en,ec,st,l,E⟩),rfl,⟨.of hi ho hr rfl,⟨rfl,rfl⟩⟩,hw.tail⟩
 refine FP h2 ?_
 refine AL ?_
 refine Ap h2 ?_
 by_cases h8:e.op=8
 ·have d8:decide (e.op=8)=true:=decide_eq_true h8
  refine FP d8 ?_
  refine AL ?_
  refine Ap d8 ?_
  refine AB fun K k1=>?_
  refine A9 (fun _ _=>True) (fun F' L'=>Az F' G4 [0,3,5]/\F' 83 = .bool (decide (o.ow=e.pl)&&decide (lo=[])&&N8 st e)/\L'=[.blk b3 68 [.int .i64 e.pl,.int .i64 e.op,.int .u64 (e.h:Int),.int .u64 (e.ar:Int),.int .i64 e.er],.blk b 159 [.slice (some ⟨sb,0,none⟩) 65 65,.slice (some ⟨g,0,none⟩) ln lc,.slice EA en ec],.row (.slice (some ⟨sb,0,none⟩) 65 65) 3 1 65 (CO st),.row (.slice (some ⟨g,0,none⟩) ln lc) 105 6 ln (BZ l),.row (.slice EA en ec) 163 4 en (Au E)]) ?_ ?_
  ·cases hw1:decide (o.ow=e.pl) with
   | false =>
    rw [hw1] at g4
    refine AF rfl ?_
    replace zg:=Bd.mk g4
    exact MQ
   | true =>
    rw [hw1] at g4
    rcases lo with _|⟨c0,lo⟩
    ·simp at hn1
     rw [<-hn1] at g4
     refine AF rfl ?_
     replace zg:=Bd.mk g4
     exact MQ
    ·simp at hn1
     have hn0:decide ((n1:Int)=0)=false:=decide_eq_false (by omega)
     refine AF rfl ?_
     replace zg:=Bd.mk g4
     exact NQ hn0
  intro G6 L' _ hF
  obtain ⟨zq,AH4,rfl⟩:=hF
  have g6:=And.intro (Bg zq) AH4
  refine k1 _ _ ?_
  refine AL ?_
  cases Fe:(decide (o.ow=e.pl)&&decide (lo=[])&&N8 st e) with
  | true =>
   have har:=Ut (Bool.and_eq_true_iff.1 Fe).2
   have vT:IntKind.i64.wrap (e.ar:Int)=(e.ar:Int):=Ae (by omega) (by omega)
   have o1:=PK l
   have hput:=uQ ho e.ar
   replace zg:=Bd.mk g6
   refine Ap Fe ?_
   refine Tv 3 rfl fun hcap ABh=>?_
   refine AQ rfl fun K k1=>?_
   refine AR ?_
   intro bA KD hfA
   refine AR ?_
   refine CR 0 KL rfl rfl (fun w hw=>EU (AZ (k:=4) rfl) hw) o1 (by omega) (by omega) ?_
   intro A3 c3 hl3 hr3
   refine Ap (And.intro @Nat.zero_add @List.nil_append.{0}) ?_
   refine k1 _ _ ?_
   refine AV [0,3,5,11] fun G7 g7=>?_
   replace g7:=Bg g7
   refine BQ 0 rfl (by omega) fun g2 DJ hg2 Bl=>?_
   subst DJ
   simp only [List.eraseIdx_cons_zero,List.eraseIdx_cons_succ,BC,BD,BI,A_,and_true,List.not_mem_nil,or_false,C9] at Bl hg2
   replace hg2:=And.intro hg2 Bl
   clear Bl
   refine AQ rfl fun K k1=>?_
   replace zg:=Bd.mk g7
   refine Ap vT ?_
   refine Aj (EW 0 (i:=i*6+1) (v:=.int .i64 e.ar) rfl (by rw [CK];omega) (by kernel_rfl) rfl rfl) ?_
   refine Ap (And.intro vT hput) ?_
   refine k1 _ _ ?_
   refine BH ?_
   refine BH ?_
   refine AP (Br fun w hw=>?_)
   have hr:Ey ⟨b,sb,some ⟨g,0,none⟩,ln,lc,EA,en,ec,st,l,E⟩ e i o true ⟨b,sb,some ⟨g2,0,none⟩,ln,c3,EA,en,ec,st,l.set i ⟨o.h,e.ar⟩,E⟩:=by
    unfold Ey
    rw [<-hlo] at Fe
    simp only [h8,Fe]
    exact ⟨trivial,trivial,trivial⟩
   have h9:=hw.pick (ix:=[2,3,0,5]) (by decide)
   simp only [Ag,nth] at h9
   exact ⟨(true,⟨b,sb,some ⟨g2,0,none⟩,ln,c3,EA,en,ec,st,l.set i ⟨o.h,e.ar⟩,E⟩),rfl,⟨.of hi ho hr rfl,⟨rfl,rfl⟩⟩,h9⟩
  | false =>
   have hr:Ey ⟨b,sb,some ⟨g,0,none⟩,ln,lc,EA,en,ec,st,l,E⟩ e i o false ⟨b,sb,some ⟨g,0,none⟩,ln,lc,EA,en,ec,st,l,E⟩:=by
    unfold Ey
    rw [<-hlo] at Fe
    simp [h8,Fe]
   replace zg:=Bd.mk g6
   refine Ap Fe ?_
   refine AO (k0 _ _ ?_)
   refine BH ?_
   refine AP (Br fun w hw=>?_)
   exact ⟨(false,⟨b,sb,some ⟨g,0,none⟩,ln,lc,EA,en,ec,st,l,E⟩),rfl,⟨.of hi ho hr rfl,⟨rfl,rfl⟩⟩,hw.tail⟩
 refine FP h8 ?_
 refine AL ?_
 refine Ap h8 ?_
 by_cases h9:e.op=9
 ·have d9:decide (e.op=9)=true:=decide_eq_true h9
  refine FP d9 ?_
  refine AL ?_
  refine Ap d9 ?_
  cases Fe:(decide (o.ow=e.pl)&&N8 st e) with
  | false =>
   have hr:Ey ⟨b,sb,some ⟨g,0,none⟩,ln,lc,EA,en,ec,st,l,E⟩ e i o false ⟨b,sb,some ⟨g,0,none⟩,ln,lc,EA,en,ec,st,l,E⟩:=by
    unfold Ey Kn
    simp [h9,Fe]
   refine AB fun K k1=>?_
   refine A9 (fun _ _=>True) (fun F' L'=>F' 4 = .bool false/\L'=[.blk b3 68 [.int .i64 e.pl,.int .i64 e.op,.int .u64 (e.h:Int),.int .u64 (e.ar:Int),.int .i64 e.er],.blk b 159 [.slice (some ⟨sb,0,none⟩) 65 65,.slice (some ⟨g,0,none⟩) ln lc,.slice EA en ec],.row (.slice (some ⟨sb,0,none⟩) 65 65) 3 1 65 (CO st),.row (.slice (some ⟨g,0,none⟩) ln lc) 105 6 ln (BZ l),.row (.slice EA en ec) 163 4 en (Au E)]) ?_ ?_
   ·rcases Bool.eq_false_or_eq_true (decide (o.ow=e.pl)) with hw1|hw1
    ·rw [hw1,Bool.true_and] at Fe
     rw [hw1,Fe] at g4
     refine BR [(true,0),(true,1),(true,2),(true,3),(true,4),(true,5),(true,6),(true,7),(true,8),(true,9),(true,10),(true,11),(false,12),(true,13),(true,14),(true,15)] [] CB rfl (by kernel_rfl) (by kernel_rfl) rfl rfl ?_
     replace zg:=Bd.mk g4
     exact MQ
    ·rw [hw1] at g4
     refine BR [(true,0),(true,1),(true,2),(true,3),(true,4),(true,5),(true,6),(true,7),(true,8),(true,9),(true,10),(true,11),(false,12),(true,13),(true,14),(true,15)] [] CB rfl (by kernel_rfl) (by kernel_rfl) rfl rfl ?_
     replace zg:=Bd.mk g4
     exact MQ
   intro G8 L' _ hF
   obtain ⟨Ou,rfl⟩:=hF
   have g8:=Ou
   refine k1 _ _ ?_
   replace zg:=Bd.mk g8
   refine AP (Br fun w hw=>?_)
   exact ⟨(false,⟨b,sb,some ⟨g,0,none⟩,ln,lc,EA,en,ec,st,l,E⟩),rfl,⟨.of hi ho hr rfl,⟨rfl,rfl⟩⟩,hw.tail⟩
  | true =>
   obtain ⟨hw1,hw2⟩:=Bool.and_eq_true_iff.1 Fe
   have har:=Ut hw2
   have vT:IntKind.i64.wrap (e.ar:Int)=(e.ar:Int):=Ae (by omega) (by omega)
   rw [hw1,hw2] at g4
   refine AB fun K k1=>?_
   refine CF (Ag [0] _) (fun w hw=>hw.pick (by decide)) (by simp only [Ag,nth,Be,Bv,List.mem_cons,true_or,or_true,and_true,eq_self]) [(true,0),(true,1),(true,2),(true,3),(true,4),(true,5),(true,6),(true,7),(true,8),(true,9),(true,10),(true,11),(false,12),(true,13),(true,14),(true,15)] [] CB rfl (by kernel_rfl) (by kernel_rfl) rfl rfl ?_
   replace zg:=Bd.mk g4
   refine Ap vT ?_
   refine Af [.blk b3 68 [.int .i64 e.pl,.int .i64 e.op,.int .u64 (e.h:Int),.int .u64 (e.ar:Int),.int .i64 e.er],.row (.slice (some ⟨sb,0,none⟩) 65 65) 3 1 65 (CO st),.row (.slice (some ⟨g,0,none⟩) ln lc) 105 6 ln (BZ l)] (IL b (.slice (some ⟨sb,0,none⟩) 65 65) (.slice (some ⟨g,0,none⟩) ln lc) ⟨EA,en,ec,E⟩) (.cons _ (NJ _ _ _ _)) Xq (dF b (.slice (some ⟨sb,0,none⟩) 65 65) (.slice (some ⟨g,0,none⟩) ln lc)) _ (fun w hw=>TS b _ _ ⟨EA,en,ec,E⟩ (Ac o.h) e.ar 1 (by decide) hE hc w hw) ?_
   rintro ⟨rc,⟨l9,l_,mD,E2⟩⟩ hrc
   dsimp only at hrc
   simp -implicitDefEqProofs (disch:=first|omega|decide) only [seval, -Int.reducePow, -Nat.reducePow,cC,pv,Ao,Az,undef,C9,Xq,dF,IL,g4]
   refine k1 _ _ ?_
   refine AP (Br fun w hw=>?_)
   have hr:Ey ⟨b,sb,some ⟨g,0,none⟩,ln,lc,EA,en,ec,st,l,E⟩ e i o (decide (rc=0)) ⟨b,sb,some ⟨g,0,none⟩,ln,lc,l9,l_,mD,st,l,E2⟩:=by
    unfold Ey Kn
    simp only [h9,Fe]
    exact ⟨rc,rfl,hrc,trivial⟩
   have h9:=hw.pick (ix:=[0,3,4,1]) (by decide)
   simp only [Ag,nth] at h9
   exact ⟨(decide (rc=0),⟨b,sb,some ⟨g,0,none⟩,ln,lc,l9,l_,mD,st,l,E2⟩),rfl,⟨.of hi ho hr rfl,⟨rfl,rfl⟩⟩,h9⟩
 refine FP h9 ?_
 refine AL ?_
 refine Ap h9 ?_
 by_cases h10:e.op=10
 ·have d10:decide (e.op=10)=true:=decide_eq_true h10
  refine FP d10 ?_
  refine AL ?_
  refine Ap d10 ?_
  cases Fe:(decide (o.ow=e.pl)&&N8 st e) with
  | false =>
   have hr:Ey ⟨b,sb,some ⟨g,0,none⟩,ln,lc,EA,en,ec,st,l,E⟩ e i o false ⟨b,sb,some ⟨g,0,none⟩,ln,lc,EA,en,ec,st,l,E⟩:=by
    unfold Ey Kn
    simp [h10,Fe]
   refine AB fun K k1=>?_
   refine A9 (fun _ _=>True) (fun F' L'=>F' 4 = .bool false/\L'=[.blk b3 68 [.int .i64 e.pl,.int .i64 e.op,.int .u64 (e.h:Int),.int .u64 (e.ar:Int),.int .i64 e.er],.blk b 159 [.slice (some ⟨sb,0,none⟩) 65 65,.slice (some ⟨g,0,none⟩) ln lc,.slice EA en ec],.row (.slice (some ⟨sb,0,none⟩) 65 65) 3 1 65 (CO st),.row (.slice (some ⟨g,0,none⟩) ln lc) 105 6 ln (BZ l),.row (.slice EA en ec) 163 4 en (Au E)]) ?_ ?_
   ·rcases Bool.eq_false_or_eq_true (decide (o.ow=e.pl)) with hw1|hw1
    ·rw [hw1,Bool.true_and] at Fe
     rw [hw1,Fe] at g4
     refine BR [(true,0),(true,1),(true,2),(true,3),(true,4),(true,5),(true,6),(true,7),(true,8),(true,9),(true,10),(true,11),(false,12),(true,13),(true,14),(true,15)] [] CB rfl (by kernel_rfl) (by kernel_rfl) rfl rfl ?_
     replace zg:=Bd.mk g4
     exact MQ
    ·rw [hw1] at g4
     refine BR [(true,0),(true,1),(true,2),(true,3),(true,4),(true,5),(true,6),(true,7),(true,8),(true,9),(true,10),(true,11),(false,12),(true,13),(true,14),(true,15)] [] CB rfl (by kernel_rfl) (by kernel_rfl) rfl rfl ?_
     replace zg:=Bd.mk g4
     exact MQ
   intro G9 L' _ hF
   obtain ⟨Ou,rfl⟩:=hF
   have g9:=Ou
   refine k1 _ _ ?_
   replace zg:=Bd.mk g9
   refine AP (Br fun w hw=>?_)
   exact ⟨(false,⟨b,sb,some ⟨g,0,none⟩,ln,lc,EA,en,ec,st,l,E⟩),rfl,⟨.of hi ho hr rfl,⟨rfl,rfl⟩⟩,hw.tail⟩
  | true =>
   obtain ⟨hw1,hw2⟩:=Bool.and_eq_true_iff.1 Fe
   have har:=Ut hw2
   have vT:IntKind.i64.wrap (e.ar:Int)=(e.ar:Int):=Ae (by omega) (by omega)
   rw [hw1,hw2] at g4
   refine AB fun K k1=>?_
   refine CF (Ag [0] _) (fun w hw=>hw.pick (by decide)) (by simp only [Ag,nth,Be,Bv,List.mem_cons,true_or,or_true,and_true,eq_self]) [(true,0),(true,1),(true,2),(true,3),(true,4),(true,5),(true,6),(true,7),(true,8),(true,9),(true,10),(true,11),(false,12),(true,13),(true,14),(true,15)] [] CB rfl (by kernel_rfl) (by kernel_rfl) rfl rfl ?_
   replace zg:=Bd.mk g4
   refine Ap vT ?_
   refine Af [.blk b3 68 [.int .i64 e.pl,.int .i64 e.op,.int .u64 (e.h:Int),.int .u64 (e.ar:Int),.int .i64 e.er],.row (.slice (some ⟨sb,0,none⟩) 65 65) 3 1 65 (CO st),.row (.slice (some ⟨g,0,none⟩) ln lc) 105 6 ln (BZ l)] (IL b (.slice (some ⟨sb,0,none⟩) 65 65) (.slice (some ⟨g,0,none⟩) ln lc) ⟨EA,en,ec,E⟩) (.cons _ (NJ _ _ _ _)) Xq (dF b (.slice (some ⟨sb,0,none⟩) 65 65) (.slice (some ⟨g,0,none⟩) ln lc)) _ (fun w hw=>TS b _ _ ⟨EA,en,ec,E⟩ (Ac o.h) e.ar 2 (by decide) hE hc w hw) ?_
   rintro ⟨rc,⟨l9,l_,mD,E2⟩⟩ hrc
   dsimp only at hrc
   simp -implicitDefEqProofs (disch:=first|omega|decide) only [seval, -Int.reducePow, -Nat.reducePow,cC,pv,Ao,Az,undef,C9,Xq,dF,IL,g4]
   refine k1 _ _ ?_
   refine AP (Br fun w hw=>?_)
   have hr:Ey ⟨b,sb,some ⟨g,0,none⟩,ln,lc,EA,en,ec,st,l,E⟩ e i o (decide (rc=0)) ⟨b,sb,some ⟨g,0,none⟩,ln,lc,l9,l_,mD,st,l,E2⟩:=by
    unfold Ey Kn
    simp only [h10,Fe]
    exact ⟨rc,rfl,hrc,trivial⟩
   have h9:=hw.pick (ix:=[0,3,4,1]) (by decide)
   simp only [Ag,nth] at h9
   exact ⟨(decide (rc=0),⟨b,sb,some ⟨g,0,none⟩,ln,lc,l9,l_,mD,st,l,E2⟩),rfl,⟨.of hi ho hr rfl,⟨rfl,rfl⟩⟩,h9⟩
 refine FP h10 ?_
 refine AL ?_
 refine Ap h10 ?_
 have hr:Ey ⟨b,sb,some ⟨g,0,none⟩,ln,lc,EA,en,ec,st,l,E⟩ e i o false ⟨b,sb,some ⟨g,0,none⟩,ln,lc,EA,en,ec,st,l,E⟩:=by
  unfold Ey
  simp [h11,h2,h8,h9,h10]
 refine AO (k0 _ _ ?_)
 refine BH ?_
 refine AP (Br fun w hw=>?_)
 exact ⟨(false,⟨b,sb,some ⟨g,0,none⟩,ln,lc,EA,en,ec,st,l,E⟩),rfl,⟨.of hi ho hr rfl,⟨rfl,rfl⟩⟩,hw.tail⟩
def Eb (x:IX) (e:DZ) (r:Bool) (y:IX):Prop :=
 if e.pl<1\/64<e.pl then r=false
 else if e.op=32 then (if x.st[e.pl.toNat]? = some 0 then r=true/\y.st=x.st.set e.pl.toNat 1/\y.l=x.l/\y.E=x.E else r=false)
 else if ¬x.st[e.pl.toNat]? = some 1 then r=false
 else if e.op=33 then r=decide ((x.l.filter (ownB e.pl)).length=e.ar)/\y.st=x.st.set e.pl.toNat 2/\y.l=(x.l.filter fun o => !ownB e.pl o)/\y.E=(x.E.filter fun b => !decide (b.ho=e.pl)).filter fun b => !XN e.pl x.l b
 else if e.op=1 then (if (decide (0<F4 e.h/\0<Kh e.h) && !Qx x.l (Ac e.h))=true then r=true/\y.st=x.st/\(∃P Q,Qz ⟨e.h,e.pl⟩ x.l y.l P Q)/\y.E=x.E else r=false)
 else TU x e r y
theorem Q3 (e:DZ) (W:World):Calls Tryz.prog 115 #[NZ e] W fun en w'=>en = .returned (.bool (JA e))/\Below W.heap.size W w':=by
 refine Ab (M:=[]) Tryz.func115 [.tmp 2] (St.nil _ _) ?_
 refine AQ rfl fun K k0=>?_
 simp -implicitDefEqProofs (disch:=first|omega|decide) only [seval, -Int.reducePow, -Nat.reducePow,cC,pv,Ao,Az,undef,C9,NZ]
 intro b1 hb1
 refine k0 _ _ ?_
 refine AB fun K k0=>?_
 refine A9 (fun _ _=>True) (fun F' L'=>F' 2 = .bool (JA e)/\L'=[Dc b1 e]) ?_ ?_
 ·unfold JA
  by_cases h0:e.er=0
  ·by_cases h3:e.op=3
   ·refine AF rfl ?_
    have zs:=Bd.mk C9
    exact VW (And.intro h0 h3)
   by_cases h4:e.op=4
   ·refine AF rfl ?_
    have zs:=Bd.mk C9
    exact VW (And.intro h0 h4)
   by_cases h5:e.op=5
   ·refine AF rfl ?_
    have zs:=Bd.mk C9
    exact VW (And.intro h0 h5)
   by_cases h6:e.op=6
   ·refine AF rfl ?_
    have zs:=Bd.mk C9
    exact VW (And.intro h0 h6)
   by_cases h7:e.op=7
   ·refine AF rfl ?_
    have zs:=Bd.mk C9
    exact VW (And.intro h0 h7)
   have hd:¬(3<=e.op/\e.op<=7):=by omega
   refine AF rfl ?_
   have zs:=Bd.mk C9
   refine D_ (And.intro h0 (And.intro h3 (And.intro h4 (And.intro h5 (And.intro h6 (And.intro h7 hd)))))) ?_
   simp
  ·refine AF rfl ?_
   have zs:=Bd.mk C9
   exact VW h0
 intro G1 L' _ hF
 obtain ⟨rf,rfl⟩:=hF
 have g1:=rf
 refine k0 _ _ ?_
 have zs:=Bd.mk C9
 have zg:=Bd.mk g1
 refine AP (Br fun w hw=>?_)
 exact ⟨rfl,hw.below⟩
theorem dG (x:IX) (e:DZ) (he:e.ok) (hs:x.st.length=65) (h64:∀o∈x.l,o.h<18446744073709551616) (hl:x.l.length<=100000) (hE:x.E.length<=100000) (hc:∀c∈x.E,0<=c.co/\c.co<=4611686018427387904) (W:World) (hst:St (Ak (Ej x)) W (Ej x) W) :
  Calls Tryz.prog 116 #[.pointer (some ⟨x.b,0,none⟩),NZ e] W
  fun en w' => ∃i:Bool×IX,en = .returned (oM i)/\(Eb x e i.1 i.2/\Bks x i.2)/\St (Ak (Ej x)) W (Yb i) w':=by
 obtain ⟨M,hM⟩:∃M,Ak (Ej x)=M:=⟨_,rfl⟩
 rw [hM] at hst ⊢
 obtain ⟨b,sb,LA,ln,lc,EA,en,ec,st,l,E⟩:=x
 unfold Ej at hst
 dsimp only at hst hl hE hs h64 hc ⊢
 clear hM
 have hlen:l.length=ln:=by have:=(Sl.Av hst (AZ (k:=2) rfl)).len;rw [CK] at this;omega
 have he1:=he.1
 have hap:=hst.facts
 simp only [GN,GQ,Jm,Jl] at hap
 have hsb:sb≠b:=hap.2.2.1.1 sb rfl
 clear hap
 refine Ab (M:=M) Tryz.func116 [.tmp 4]  hst ?_
 refine AQ rfl fun K k0=>?_
 simp -implicitDefEqProofs (disch:=first|omega|decide) only [seval, -Int.reducePow, -Nat.reducePow,cC,pv,Ao,Az,undef,C9,NZ]
 intro b3 hb3 hf3
 refine k0 _ _ ?_
 refine BQ 2 rfl (by omega) fun gN_ DJ UQ hN=>?_
 cases DJ
 clear UQ
 simp only [List.eraseIdx_cons_zero,List.eraseIdx_cons_succ,BC,BD,BI,A_,and_true,C9] at hN
 refine AV [0,3] fun G2 g2=>?_
 have zs:=Bd.mk C9
 replace g2:=Bi g2
 refine AB fun K k0=>?_
 refine AB fun K k1=>?_
 by_cases hpl:e.pl<1\/64<e.pl
 ·have hr:Eb ⟨b,sb,LA,ln,lc,EA,en,ec,st,l,E⟩ e false ⟨b,sb,LA,ln,lc,EA,en,ec,st,l,E⟩:=by unfold Eb;rw [if_pos hpl]
  refine A9 (fun _ _=>True) (fun F' L'=>Az F' G2 [0,3]/\F' 12 = .bool true/\L'=[.blk b3 68 [.int .i64 e.pl,.int .i64 e.op,.int .u64 (e.h:Int),.int .u64 (e.ar:Int),.int .i64 e.er],.blk b 159 [.slice (some ⟨sb,0,none⟩) 65 65,.slice LA ln lc,.slice EA en ec],.row (.slice (some ⟨sb,0,none⟩) 65 65) 3 1 65 (CO st),.row (.slice LA ln lc) 105 6 ln (BZ l),.row (.slice EA en ec) 163 4 en (Au E)]) ?_ ?_
  ·by_cases hp1:e.pl<1
   ·refine AF rfl ?_
    have zg:=Bd.mk g2
    exact NQ hp1
   ·have hp2:64<e.pl:=hpl.resolve_left hp1
    refine AF rfl ?_
    have zg:=Bd.mk g2
    exact NQ (And.intro hp1 hp2)
  intro G3 L' _ hF
  obtain ⟨zq,iY,rfl⟩:=hF
  have zg:=Bd.mk g2
  have g3:=And.intro (Bg zq) iY
  refine k1 _ _ ?_
  refine AL ?_
  replace zg:=Bd.mk g3
  refine AR ?_
  refine BH ?_
  refine AP (Br fun w hw=>?_)
  exact ⟨(false,⟨b,sb,LA,ln,lc,EA,en,ec,st,l,E⟩),rfl,⟨hr,⟨rfl,rfl⟩⟩,hw.tail⟩
 have hp1:¬e.pl<1:=fun h=>hpl (.inl h)
 have hp2:¬64<e.pl:=fun h=>hpl (.inr h)
 refine AF rfl ?_
 have zg:=Bd.mk g2
 refine Ap (And.intro hp1 hp2) ?_
 refine k1 _ _ ?_
 refine AL ?_
 refine Ap (And.intro hp1 hp2) ?_
 refine AO (k0 _ _ ?_)
 obtain ⟨v,hv⟩:∃v,st[e.pl.toNat]? = some v:=⟨_,List.getElem?_eq_getElem (by omega)⟩
 have hvc:(CO st)[e.pl.toNat]? = some (.int .i64 v):=by unfold CO;rw [List.getElem?_map,hv];rfl
 have hput:(CO st).set e.pl.toNat (Value.int .i64 1)=CO (st.set e.pl.toNat 1):=by
  unfold CO
  rw [List.map_set]
 refine AV [0,3] fun G4 g4=>?_
 replace g4:=Bg g4
 refine AB fun K k0=>?_
 replace zg:=Bd.mk g4
 refine BH ?_
 refine AL ?_
 by_cases h32:e.op=32
 ·have d32:decide (e.op=32)=true:=decide_eq_true h32
  refine Ap d32 ?_
  refine AB fun K k1=>?_
  refine AB fun K k2=>?_
  refine BR [(true,0),(true,1),(true,2),(true,3),(true,4),(true,5),(true,6),(true,7),(true,8)] [] CB rfl (by kernel_rfl) (by kernel_rfl) rfl rfl ?_
  refine AR ?_
  refine Aj (BN (m:=1) (i:=e.pl.toNat) (v:=.int .i64 v) (AZ (k:=2) rfl) rfl hvc) ?_
  refine AR ?_
  refine k2 _ _ ?_
  refine AL ?_
  by_cases hv0:v=0
  ·subst hv0
   refine AR ?_
   refine AO (k1 _ _ ?_)
   refine AB fun K k1=>?_
   refine BR [(true,0),(true,1),(true,2),(true,3),(true,4),(true,5),(true,6),(false,7)] [7] CB rfl (by kernel_rfl) (by kernel_rfl) rfl rfl ?_
   refine AR ?_
   refine Aj (EW 2 (i:=e.pl.toNat) (v:=.int .i64 1) rfl (by unfold CO;rw [List.length_map,hs];omega) (by kernel_rfl) rfl rfl) ?_
   refine Ap hput ?_
   refine k1 _ _ ?_
   refine BH ?_
   refine AP (Br fun w hw=>?_)
   have hr:Eb ⟨b,sb,LA,ln,lc,EA,en,ec,st,l,E⟩ e true ⟨b,sb,LA,ln,lc,EA,en,ec,st.set e.pl.toNat 1,l,E⟩:=by
    unfold Eb
    rw [if_neg hpl,if_pos h32,if_pos hv]
    exact ⟨rfl,rfl,rfl,rfl⟩
   exact ⟨(true,⟨b,sb,LA,ln,lc,EA,en,ec,st.set e.pl.toNat 1,l,E⟩),rfl,⟨hr,⟨rfl,rfl⟩⟩,hw.tail⟩
  ·have hr:Eb ⟨b,sb,LA,ln,lc,EA,en,ec,st,l,E⟩ e false ⟨b,sb,LA,ln,lc,EA,en,ec,st,l,E⟩:=by
    unfold Eb
    rw [if_neg hpl,if_pos h32,if_neg (fun h=>hv0 (by rw [hv] at h;exact Option.some.inj h))]
   refine Ap hv0 ?_
   refine BH ?_
   refine AP (Br fun w hw=>?_)
   exact ⟨(false,⟨b,sb,LA,ln,lc,EA,en,ec,st,l,E⟩),rfl,⟨hr,⟨rfl,rfl⟩⟩,hw.tail⟩
 refine Ap h32 ?_
 refine AO (k0 _ _ ?_)
 refine AB fun K k0=>?_
 refine AB fun K k1=>?_
 refine BR [(true,0),(true,1),(true,2),(true,3),(true,4),(true,5),(true,6),(true,7),(true,8)] [] CB rfl (by kernel_rfl) (by kernel_rfl) rfl rfl ?_
 refine AR ?_
 refine Aj (BN (m:=1) (i:=e.pl.toNat) (v:=.int .i64 v) (AZ (k:=2) rfl) rfl hvc) ?_
 refine AR ?_
 refine k1 _ _ ?_
 refine AL ?_
 by_cases hv1:v=1
 case neg =>
  have hr:Eb ⟨b,sb,LA,ln,lc,EA,en,ec,st,l,E⟩ e false ⟨b,sb,LA,ln,lc,EA,en,ec,st,l,E⟩:=by
   unfold Eb
   rw [if_neg hpl,if_neg h32,if_pos (fun h=>hv1 (by rw [hv] at h;exact Option.some.inj h))]
  refine Ap hv1 ?_
  refine BH ?_
  refine AP (Br fun w hw=>?_)
  exact ⟨(false,⟨b,sb,LA,ln,lc,EA,en,ec,st,l,E⟩),rfl,⟨hr,⟨rfl,rfl⟩⟩,hw.tail⟩
 subst hv1
 refine AR ?_
 refine AO (k0 _ _ ?_)
 refine AB fun K k0=>?_
 refine BH ?_
 refine AV [0,3,42] fun G5 g5=>?_
 replace g5:=Bg g5
 refine Ad ?_
 by_cases dX:e.op=33
 ·have d33:decide (e.op=33)=true:=decide_eq_true dX
  replace zg:=Bd.mk g5
  refine FP d33 ?_
  refine AL ?_
  refine Ap d33 ?_
  refine AQ rfl fun K k1=>?_
  refine AR ?_
  refine Af [.blk b3 68 [.int .i64 e.pl,.int .i64 e.op,.int .u64 (e.h:Int),.int .u64 (e.ar:Int),.int .i64 e.er]] (Ej ⟨b,sb,LA,ln,lc,EA,en,ec,st,l,E⟩) (List.Perm.refl _) oM Yb _ (fun w hw=>j4 ⟨b,sb,LA,ln,lc,EA,en,ec,st,l,E⟩ e.pl e.ar (by omega) hs h64 hl hE w hw) ?_
  rintro ⟨r,y⟩ ⟨hy1,hy2,hy3,hy4,uP⟩
  simp -implicitDefEqProofs (disch:=first|omega|decide) only [seval, -Int.reducePow, -Nat.reducePow,cC,pv,Ao,Az,undef,C9,oM,g5]
  refine k1 _ _ ?_
  refine AP (Br fun w hw=>?_)
  have hr:Eb ⟨b,sb,LA,ln,lc,EA,en,ec,st,l,E⟩ e r y:=by
   unfold Eb
   rw [if_neg hpl,if_neg h32,if_neg (fun h=>h hv),if_pos dX]
   exact ⟨hy1,hy3,hy4,uP⟩
  exact ⟨(r,y),rfl,⟨hr,hy2⟩,hw.sub (List.sublist_append_left _ _)⟩
 replace zg:=Bd.mk g5
 refine FP dX ?_
 refine AL ?_
 refine Ap dX ?_
 by_cases h1:e.op=1
 ·have d1:decide (e.op=1)=true:=decide_eq_true h1
  refine FP d1 ?_
  refine AL ?_
  refine Ap d1 ?_
  refine AB fun K k1=>?_
  refine AB fun K k2=>?_
  refine A9 (fun _ _=>True) (fun F' L'=>Az F' G5 [0,3]/\F' 63 = .bool (!(decide (0<F4 e.h/\0<Kh e.h) && !Qx l (Ac e.h)))/\L'=[.blk b3 68 [.int .i64 e.pl,.int .i64 e.op,.int .u64 (e.h:Int),.int .u64 (e.ar:Int),.int .i64 e.er],.blk b 159 [.slice (some ⟨sb,0,none⟩) 65 65,.slice LA ln lc,.slice EA en ec],.row (.slice (some ⟨sb,0,none⟩) 65 65) 3 1 65 (CO st),.row (.slice LA ln lc) 105 6 ln (BZ l),.row (.slice EA en ec) 163 4 en (Au E)]) ?_ ?_
  ·cases hva:decide (0<F4 e.h/\0<Kh e.h) with
   | false =>
    refine AF rfl ?_
    refine AR ?_
    refine Aa (fun w hw=>hva▸Od e.h he1 w) ?_
    exact MQ
   | true =>
    refine AF rfl ?_
    refine AR ?_
    refine Aa (fun w hw=>hva▸Od e.h he1 w) ?_
    refine AR ?_
    refine Aa (fun w hw=>CU e.h he1 w) ?_
    refine AR ?_
    refine Bq (Ej ⟨b,sb,LA,ln,lc,EA,en,ec,st,l,E⟩) (.cons _ (List.Sublist.refl _)) (fun _:Unit=>.bool (Qx l (Ac e.h))) _ (fun w hw=>dA ⟨b,sb,LA,ln,lc,EA,en,ec,st,l,E⟩ (Ac e.h) h64 hl w hw) ?_
    intro _ _
    exact MQ
  intro G6 L' _ hF
  obtain ⟨zq,tZ,rfl⟩:=hF
  have g6:=And.intro (Bg zq) tZ
  refine k2 _ _ ?_
  refine AL ?_
  cases hok:(decide (0<F4 e.h/\0<Kh e.h) && !Qx l (Ac e.h)) with
  | true =>
   replace zg:=Bd.mk g6
   refine Ap hok ?_
   refine AO (k1 _ _ ?_)
   refine AQ rfl fun K k1=>?_
   refine AR ?_
   refine Af [.blk b3 68 [.int .i64 e.pl,.int .i64 e.op,.int .u64 (e.h:Int),.int .u64 (e.ar:Int),.int .i64 e.er]] (Ej ⟨b,sb,LA,ln,lc,EA,en,ec,st,l,E⟩) (List.Perm.refl _) XM Ej _ (fun w hw=>jr ⟨b,sb,LA,ln,lc,EA,en,ec,st,l,E⟩ ⟨e.h,e.pl⟩ he1 h64 hl w hw) ?_
   rintro y ⟨hy1,hy2,hy3,hy4⟩
   simp -implicitDefEqProofs (disch:=first|omega|decide) only [seval, -Int.reducePow, -Nat.reducePow,cC,pv,Ao,Az,undef,C9,XM,g6]
   refine k1 _ _ ?_
   refine BH ?_
   refine AP (Br fun w hw=>?_)
   have hr:Eb ⟨b,sb,LA,ln,lc,EA,en,ec,st,l,E⟩ e true y:=by
    unfold Eb
    rw [if_neg hpl,if_neg h32,if_neg (fun h=>h hv),if_neg dX,if_pos h1,if_pos hok]
    exact ⟨rfl,hy2,hy3,hy4⟩
   exact ⟨(true,y),rfl,⟨hr,hy1⟩,hw.sub (List.sublist_append_left _ _)⟩
  | false =>
   have hr:Eb ⟨b,sb,LA,ln,lc,EA,en,ec,st,l,E⟩ e false ⟨b,sb,LA,ln,lc,EA,en,ec,st,l,E⟩:=by
    unfold Eb
    rw [if_neg hpl,if_neg h32,if_neg (fun h=>h hv),if_neg dX,if_pos h1,if_neg (by rw [hok];decide)]
   replace zg:=Bd.mk g6
   refine Ap hok ?_
   refine BH ?_
   refine AP (Br fun w hw=>?_)
   exact ⟨(false,⟨b,sb,LA,ln,lc,EA,en,ec,st,l,E⟩),rfl,⟨hr,⟨rfl,rfl⟩⟩,hw.tail⟩
 refine FP h1 ?_
 refine AL ?_
 refine Ap h1 ?_
 refine AO (k0 _ _ ?_)
 refine AQ rfl fun K k0=>?_
 refine AR ?_
 refine Af [.blk b3 68 [.int .i64 e.pl,.int .i64 e.op,.int .u64 (e.h:Int),.int .u64 (e.ar:Int),.int .i64 e.er]] (Ej ⟨b,sb,LA,ln,lc,EA,en,ec,st,l,E⟩) (List.Perm.refl _) oM Yb _ (fun w hw=>XO ⟨b,sb,LA,ln,lc,EA,en,ec,st,l,E⟩ e he (by omega) hs h64 hl hE hc w hw) ?_
 rintro ⟨r,y⟩ ⟨hy1,hy2⟩
 simp -implicitDefEqProofs (disch:=first|omega|decide) only [seval, -Int.reducePow, -Nat.reducePow,cC,pv,Ao,Az,undef,C9,oM,g5]
 refine k0 _ _ ?_
 refine AP (Br fun w hw=>?_)
 have hr:Eb ⟨b,sb,LA,ln,lc,EA,en,ec,st,l,E⟩ e r y:=by
  unfold Eb
  rw [if_neg hpl,if_neg h32,if_neg (fun h=>h hv),if_neg dX,if_neg h1]
  exact hy1
 exact ⟨(r,y),rfl,⟨hr,hy2⟩,hw.sub (List.sublist_append_left _ _)⟩
theorem Uu {α:Type} {R:α->α->Prop} (has:∀a b,R a b→¬R b a):∀ {a b:List α},a.Pairwise R->b.Pairwise R->(∀x,x∈a↔x∈b)->a=b
 | [],[],_,_,_=>rfl
 | [],y::b,_,_,h=>absurd ((h y).2 (.head _)) (by simp)
 | x::a,[],_,_,h=>absurd ((h x).1 (.head _)) (by simp)
 | x::a,y::b,ha,hb,h=>by
  obtain ⟨a1,a2⟩:=List.pairwise_cons.1 ha
  obtain ⟨b1,b2⟩:=List.pairwise_cons.1 hb
  have irr:∀z,¬R z z:=fun z hz=>has z z hz hz
  have e:x=y:=by
   rcases List.mem_cons.1 ((h x).1 (.head _)) with e|hx
   ·exact e
   rcases List.mem_cons.1 ((h y).2 (.head _)) with e|hy
   ·exact e.symm
   exact absurd (b1 x hx) (has _ _ (a1 y hy))
  subst e
  have e2:a=b:=Uu has a2 b2 fun z=>by
   constructor
   ·intro hz
    rcases List.mem_cons.1 ((h z).1 (List.mem_cons_of_mem _ hz)) with e|hz'
    ·exact absurd (a1 z hz) (e▸irr z)
    ·exact hz'
   ·intro hz
    rcases List.mem_cons.1 ((h z).2 (List.mem_cons_of_mem _ hz)) with e|hz'
    ·exact absurd (b1 z hz) (e▸irr z)
    ·exact hz'
  rw [e2]
theorem LP {a b:Bw} : KT a b=true↔a.ob<b.ob\/(a.ob=b.ob/\a.ho<b.ho):=by unfold KT;simp
theorem j5 (a b:Bw) (h:KT a b=true):¬KT b a=true:=by
 rw [LP] at h ⊢
 omega
theorem uR {a b c:Bw} (h:KT a b=true) (h2:KT b c=true):KT a c=true:=by
 rw [LP] at h h2 ⊢
 omega
theorem oN {a b:Bw} (h:KT a b=false) (hne:¬(a.ob=b.ob/\a.ho=b.ho)):KT b a=true:=by
 have h1:¬KT a b=true:=by rw [h];decide
 rw [LP] at h1 ⊢
 omega
theorem Zm {α:Type} {R:α->α->Prop} (htr:∀a b c,R a b->R b c->R a c) {P:List α} (hP:P.Pairwise R) {e:α} (h:∀p,P.getLast? = some p->R p e):∀p∈P,R p e:=by
 rcases KU P with rfl|⟨P',q,rfl⟩
 ·intro p hp;cases hp
 intro p hp
 have hq:R q e:=h q (by simp)
 rcases List.mem_append.1 hp with hp|hp
 ·exact htr _ _ _ ((List.pairwise_append.1 hP).2.2 p hp q (by simp)) hq
 ·have:p=q:=by simpa using hp
  exact this▸hq
theorem Lh.mem {e:Bw} {rest out P Q:List Bw} (h:Lh e rest out P Q) (b:Bw):b∈out↔b=e\/b∈rest:=by
 rw [h.out,h.rest]
 simp only [List.mem_append,List.mem_cons]
 constructor
 ·rintro (h|h|h)
  ·exact .inr (.inl h)
  ·exact .inl h
  ·exact .inr (.inr h)
 ·rintro (h|h|h)
  ·exact .inr (.inl h)
  ·exact .inl h
  ·exact .inr (.inr h)
theorem Lh.len {e:Bw} {rest out P Q:List Bw} (h:Lh e rest out P Q):out.length=rest.length+1:=by
 rw [h.out,h.rest]
 simp
 omega
theorem Lh.srt {e:Bw} {rest out P Q:List Bw} (h:Lh e rest out P Q) (hs:rest.Pairwise fun a b=>KT a b=true) (hne:∀b∈rest,¬(b.ob=e.ob/\b.ho=e.ho)):out.Pairwise fun a b=>KT a b=true:=by
 have h1:=h.rest
 rw [h1] at hs hne
 obtain ⟨s1,s2,s3⟩:=List.pairwise_append.1 hs
 have hp:∀p∈P,KT p e=true:=Zm (R:=fun a b=>KT a b=true) (fun a b c=>uR) s1 h.lt
 have hq:∀q∈Q,KT e q=true:=fun q hq=>oN (h.gt q hq) (hne q (List.mem_append_right _ hq))
 rw [h.out]
 refine List.pairwise_append.2 ⟨s1,List.pairwise_cons.2 ⟨hq,s2⟩,fun a ha b hb=>?_⟩
 rcases List.mem_cons.1 hb with rfl|hb
 ·exact hp a ha
 ·exact s3 a ha b hb
theorem Ko {l:List Bw} {ob ho:Int} {b:Bw} : b∈Ev l ob ho↔b∈l∧¬(b.ob=ob/\b.ho=ho):=by
 unfold Ev Xp
 rw [List.mem_filter,Bool.not_eq_true',<-Bool.not_eq_true,Bool.and_eq_true,decide_eq_true_eq,decide_eq_true_eq]
theorem Qz.mem {o:BO} {l out P Q:List BO} (h:Qz o l out P Q) (b:BO):b∈out↔b=o\/b∈l:=by
 rw [h.out,h.rest]
 simp only [List.mem_append,List.mem_cons]
 constructor
 ·rintro (h|h|h)
  ·exact .inr (.inl h)
  ·exact .inl h
  ·exact .inr (.inr h)
 ·rintro (h|h|h)
  ·exact .inr (.inl h)
  ·exact .inl h
  ·exact .inr (.inr h)
theorem Qz.srt {o:BO} {l out P Q:List BO} (h:Qz o l out P Q) (hs:l.Pairwise fun a b=>Ac a.h<Ac b.h) (hne:∀b∈l,Ac b.h≠Ac o.h):out.Pairwise fun a b=>Ac a.h<Ac b.h:=by
 have h1:=h.rest
 rw [h1] at hs hne
 obtain ⟨s1,s2,s3⟩:=List.pairwise_append.1 hs
 have hp:∀p∈P,Ac p.h<Ac o.h:=Zm (R:=fun a b=>Ac a.h<Ac b.h) (fun a b c=>Nat.lt_trans) s1 fun p hp=>Nat.lt_of_le_of_ne (h.le p hp) (hne p (List.mem_append_left _ (List.mem_of_getLast? hp)))
 rw [h.out]
 refine List.pairwise_append.2 ⟨s1,List.pairwise_cons.2 ⟨h.gt,s2⟩,fun a ha b hb=>?_⟩
 rcases List.mem_cons.1 hb with rfl|hb
 ·exact hp a ha
 ·exact s3 a ha b hb
def vU:Option Bool->Int
 | none=>0
 | some true=>1
 | some false=>2
structure RelB (k:Nat) (s:HS) (x:IX):Prop where
 sl:x.st.length=65
 st:∀p:Int,1<=p->p<=64->x.st[p.toNat]? = some (vU (BL s.sd p))
 lS:x.l.Pairwise fun a b=>Ac a.h<Ac b.h
 lM:∀b,b∈x.l↔∃o,BL s.os (Ac b.h)=some o/\o.h=b.h/\o.ow=b.ow
 eS:x.E.Pairwise fun a b=>KT a b=true
 eM:∀b,b∈x.E↔∃o,BL s.os b.ob=some o/\BL o.cs b.ho=some b.co/\b.mo=o.mo
 eL:x.E.length<=k
section
variable {k:Nat} {s:HS} {x:IX}
theorem RelB.up (h:RelB k s x):RelB (k+1) s x:=⟨h.sl,h.st,h.lS,h.lM,h.eS,h.eM,Nat.le_succ_of_le h.eL⟩
theorem RelB.hold (h:RelB k s x) (ob ho:Int):holdB x.E ob ho=(BL s.os ob).bind fun o=>(BL o.cs ho).map fun c=>⟨ob,ho,o.mo,c⟩:=by
 cases hh:holdB x.E ob ho with
 | some b =>
  obtain ⟨h1,h2,h3⟩:=Gl hh
  obtain ⟨o,g1,g2,g3⟩:=(h.eM b).1 h1
  rw [h2] at g1
  rw [h3] at g2
  obtain ⟨b1,b2,b3,b4⟩:=b
  dsimp only at h2 h3 g2 g3
  subst h2 h3 g3
  rw [g1]
  simp [g2]
 | none =>
  cases g1:BL s.os ob with
  | none=>rfl
  | some o =>
   cases g2:BL o.cs ho with
   | none=>simp [g2]
   | some c =>
    have:=(h.eM ⟨ob,ho,o.mo,c⟩).2 ⟨o,g1,g2,rfl⟩
    unfold holdB at hh
    rw [List.find?_eq_none] at hh
    exact absurd (hh _ this) (by simp [Xp])
theorem RelB.of_nil (h:RelB k s x) {ob:Int} {o:Ob} (ho:BL s.os ob=some o):Fa x.E ob=[]↔o.cs=[]:=by
 constructor
 ·intro he
  cases hc:o.cs with
  | nil=>rfl
  | cons c cs =>
   have:(⟨ob,c.1,o.mo,c.2⟩:Bw)∈Fa x.E ob:=List.mem_filter.2 ⟨(h.eM _).2 ⟨o,ho,by rw [hc];simp [BL],rfl⟩,by simp⟩
   rw [he] at this
   cases this
 ·intro he
  cases hE:Fa x.E ob with
  | nil=>rfl
  | cons b l =>
   have hb:b∈Fa x.E ob:=by rw [hE];exact .head _
   obtain ⟨b1,b2⟩:=List.mem_filter.1 hb
   obtain ⟨o',g1,g2, -⟩:=(h.eM b).1 b1
   have:b.ob=ob:=by simpa using b2
   rw [this,ho] at g1
   cases g1
   rw [he] at g2
   cases g2
theorem RelB.Zn (h:RelB k s x) {ob:Int} {o:Ob} (ho:BL s.os ob=some o) (hne:Fa x.E ob≠[]):(Fa x.E ob).head?.map Bw.mo=some o.mo:=by
 cases hE:Fa x.E ob with
 | nil=>exact absurd hE hne
 | cons b l =>
  have hb:b∈Fa x.E ob:=by rw [hE];exact .head _
  obtain ⟨b1,b2⟩:=List.mem_filter.1 hb
  obtain ⟨o',g1,g2,g3⟩:=(h.eM b).1 b1
  have:b.ob=ob:=by simpa using b2
  rw [this,ho] at g1
  cases g1
  simp [g3]
theorem RelB.find (h:RelB k s x) (hI:Ed k s) (e:DZ):(x.l.findIdx? (fun o=>decide (o.h=e.h))=none/\KA s e.h=none) ∨
  ∃i b o,x.l.findIdx? (fun o=>decide (o.h=e.h))=some i/\x.l[i]? = some b/\b.h=e.h/\KA s e.h=some o/\BL s.os (Ac e.h)=some o/\o.h=e.h/\o.ow=b.ow:=by
 cases hf:x.l.findIdx? (fun o=>decide (o.h=e.h)) with
 | none =>
  refine .inl ⟨rfl, ?_⟩
  rw [List.findIdx?_eq_none_iff] at hf
  cases ho:KA s e.h with
  | none=>rfl
  | some o =>
   obtain ⟨g1,g2⟩:=Nw ho
   have:=hf ⟨o.h,o.ow⟩ ((h.lM _).2 ⟨o,by rw [g2];exact g1,rfl,rfl⟩)
   simp [g2] at this
 | some i =>
  obtain ⟨h1,h2, -⟩:=List.findIdx?_eq_some_iff_getElem.1 hf
  have h3:(x.l[i]).h=e.h:=by simpa using h2
  obtain ⟨o,g1,g2,g3⟩:=(h.lM x.l[i]).1 (List.getElem_mem h1)
  rw [h3] at g1 g2
  exact .inr ⟨i,x.l[i],o,rfl,List.getElem?_eq_getElem h1,h3,by unfold KA;rw [g1];simp [g2],g1,g2,g3⟩
end
def N9 (os:List (Int×Ob)) (E:List Bw):Prop := ∀b,b∈E↔∃o,BL os b.ob=some o/\BL o.cs b.ho=some b.co/\b.mo=o.mo
def kC (os:List (Int×Ob)) (l:List BO):Prop := ∀b,b∈l↔∃o,BL os (Ac b.h)=some o/\o.h=b.h/\o.ow=b.ow
theorem kC.set {os:List (Int×Ob)} {l:List BO} {sl:Int} {o o':Ob} (hM:kC os l) (hg:BL os sl=some o) (hh:o'.h=o.h) (hw:o'.ow=o.ow):kC (CS os sl o') l:=fun b=>by
 rw [hM b,DR]
 by_cases e:(Ac b.h:Int)=sl
 ·rw [if_pos e,e,hg]
  simp [hh,hw]
 ·rw [if_neg e]
theorem N9.put {os:List (Int×Ob)} {E E':List Bw} {sl q m c':Int} {o o':Ob} (hM:N9 os E) (hg:BL os sl=some o) (hcs:o'.cs=CS o.cs q c') (hm:o'.mo=m) (hmo:m=o.mo\/o.cs=[])
  (hE:∀b,b∈E'↔b=⟨sl,q,m,c'⟩\/(b∈E∧¬(b.ob=sl/\b.ho=q))):N9 (CS os sl o') E':=fun b=>by
 rw [hE b,hM b,DR]
 by_cases e1:b.ob=sl
 ·rw [if_pos e1,e1,hg]
  simp only [Option.some.injEq,exists_eq_left',true_and]
  rw [hcs,DR,hm]
  by_cases e2:b.ho=q
  ·rw [if_pos e2]
   constructor
   ·rintro (rfl|⟨-,h⟩)
    ·exact ⟨rfl,rfl⟩
    ·exact absurd e2 h
   ·rintro ⟨h1,h2⟩
    refine .inl ?_
    obtain ⟨b1,b2,b3,b4⟩:=b
    dsimp only at e1 e2 h1 h2
    cases h1
    rw [e1,e2,h2]
  ·rw [if_neg e2]
   constructor
   ·rintro (rfl|⟨⟨h1,h2⟩, -⟩)
    ·exact absurd rfl e2
    ·rcases hmo with hmo|hmo
     ·exact ⟨h1,hmo▸h2⟩
     ·rw [hmo] at h1
      cases h1
   ·rintro ⟨h1,h2⟩
    rcases hmo with hmo|hmo
    ·exact .inr ⟨⟨h1,hmo▸h2⟩,e2⟩
    ·rw [hmo] at h1
     cases h1
 ·rw [if_neg e1]
  constructor
  ·rintro (rfl|⟨h, -⟩)
   ·exact absurd rfl e1
   ·exact h
  ·exact fun h=>.inr ⟨h,fun h'=>e1 h'.1⟩
theorem N9.del {os:List (Int×Ob)} {E E':List Bw} {sl q:Int} {o o':Ob} (hM:N9 os E) (hg:BL os sl=some o) (hn:(keys o.cs).Nodup) (hcs:o'.cs=EI o.cs q) (hm:o'.mo=o.mo)
  (hE:∀b,b∈E'↔(b∈E∧¬(b.ob=sl/\b.ho=q))):N9 (CS os sl o') E':=fun b=>by
 rw [hE b,hM b,DR]
 by_cases e1:b.ob=sl
 ·rw [if_pos e1,e1,hg]
  simp only [Option.some.injEq,exists_eq_left',true_and]
  rw [hcs,JO hn,hm]
  by_cases e2:b.ho=q
  ·rw [if_pos e2]
   constructor
   ·rintro ⟨-,h⟩
    exact absurd e2 h
   ·rintro ⟨h, -⟩
    cases h
  ·rw [if_neg e2]
   exact ⟨fun h=>h.1,fun h=>⟨h,e2⟩⟩
 ·rw [if_neg e1]
  exact ⟨fun h=>h.1,fun h=>⟨h,fun h'=>e1 h'.1⟩⟩
theorem N9.same {os:List (Int×Ob)} {E:List Bw} {sl:Int} {o o':Ob} (hM:N9 os E) (hg:BL os sl=some o) (hcs:o'.cs=o.cs) (hm:o'.mo=o.mo):N9 (CS os sl o') E:=fun b=>by
 rw [hM b,DR]
 by_cases e1:b.ob=sl
 ·rw [if_pos e1,e1,hg]
  simp [hcs,hm]
 ·rw [if_neg e1]
section
variable {k:Nat} {s:HS} {x:IX} {e:DZ}
theorem oO (o:Option Bool):vU o=1↔o=some true:=by
 cases o with
 | none=>simp [vU]
 | some b=>cases b<;>simp [vU]
theorem RelB.jN (h:RelB k s x) {p:Int} (h1:1<=p) (h2:p<=64):x.st[p.toNat]? = some 1↔alive s p=true:=by
 rw [h.st p h1 h2,Option.some.injEq,oO]
 unfold alive
 cases BL s.sd p with
 | none=>simp
 | some b=>simp
theorem RelB.oth (h:RelB k s x) (hI:Ed k s):N8 x.st e=La s e:=by
 rw [Bool.eq_iff_iff]
 unfold N8 La
 simp only [Bool.and_eq_true,decide_eq_true_eq,Bool.not_eq_true',decide_eq_false_iff_not]
 constructor
 ·rintro ⟨⟨⟨h1,h2⟩,h3⟩,h4⟩
  exact ⟨⟨h2,h4⟩,(h.jN (p:=e.ar) (by omega) (by omega)).1 h3⟩
 ·rintro ⟨⟨h2,h4⟩,h5⟩
  have h1:=(hI.jN _ h5).1
  exact ⟨⟨⟨by omega,h2⟩,(h.jN (p:=e.ar) (by omega) (by omega)).2 h5⟩,h4⟩
theorem RelB.uS (h:RelB k s x) {ob ho:Int} {o:Ob} (hg:BL s.os ob=some o):((holdB x.E ob ho).getD Mw).co=(BL o.cs ho).getD 0:=by
 rw [h.hold,hg]
 cases hc:BL o.cs ho with
 | none=>simp [hc];rfl
 | some c=>simp [hc]
theorem RelB.rel {b:BO} {o:Ob} {rc:Int} {y:IX} (h:RelB k s x) (hI:Ed k s) (hh:b.h=e.h) (hg:BL s.os (Ac e.h)=some o)
  (hst:y.st=x.st) (hl:y.l=x.l) (hT:Gj x.E (Ac b.h) e.pl rc y.E) :
  decide (rc=0)=(YT s e o).isSome∧∀s',YT s e o=some s'→RelB (k+1) s' y:=by
 have LF:=hI.get hg
 rw [hh] at hT
 unfold Gj at hT
 rw [h.hold,hg] at hT
 unfold YT
 cases hc:BL o.cs e.pl with
 | none =>
  simp [hc] at hT
  subst hT
  simp
 | some c =>
  have hc1:=LF.cnt _ (Ec hc)
  simp only at hc1
  simp only [Option.bind_some,hc,Option.map_some] at hT
  obtain ⟨rfl,hT⟩:=hT
  have hc0:¬c=0:=by omega
  simp only [Option.getD_some,hc0,if_false]
  refine ⟨rfl,fun s' hs=>?_⟩
  injection hs with hs
  subst hs
  have hlen:y.E.length<=k+1:=by
   have h1:(Ev x.E (Ac e.h) e.pl).length<=x.E.length:=List.length_filter_le _ _
   have h2:=h.eL
   split at hT
   ·rw [hT];omega
   ·obtain ⟨P,Q,hP⟩:=hT
    rw [hP.len];omega
  have hsrt:y.E.Pairwise fun a b=>KT a b=true:=by
   split at hT
   ·rw [hT];exact h.eS.sublist List.filter_sublist
   ·obtain ⟨P,Q,hP⟩:=hT
    exact hP.srt (h.eS.sublist List.filter_sublist) fun b hb=>(Ko.1 hb).2
  refine ⟨by rw [hst];exact h.sl,by rw [hst];exact h.st,by rw [hl];exact h.lS,by rw [hl];exact kC.set h.lM hg rfl rfl,hsrt, ?_,hlen⟩
  split at hT
  ·rename_i h0
   refine N9.del (o':=Oy o e.pl) h.eM hg LF.nd ?_ rfl fun b=>by rw [hT];exact Ko
   unfold Oy
   rw [hc]
   simp [h0]
  ·rename_i h0
   obtain ⟨P,Q,hP⟩:=hT
   refine N9.put (o':=Oy o e.pl) (m:=o.mo) (c':=c-1) h.eM hg ?_ rfl (.inl rfl) fun b=>by rw [hP.mem];rw [Ko]
   unfold Oy
   rw [hc]
   simp [h0]
theorem RelB.UU {b:BO} {o:Ob} {m:Int} {r:Bool} {y:IX} (h:RelB k s x) (hI:Ed k s) (hm:m=1\/m=2) (hh:b.h=e.h) (hw:o.ow=b.ow) (hg:BL s.os (Ac e.h)=some o)
  (hst:y.st=x.st) (hT:Kn x e b m r y) :
  r=(Kk s e o m).isSome∧∀s',Kk s e o m=some s'→RelB (k+1) s' y:=by
 have LF:=hI.get hg
 unfold Kn at hT
 rw [h.oth hI,hh] at hT
 unfold Kk
 rw [hw.symm] at hT
 cases Fe:(decide (o.ow=e.pl)&&La s e) with
 | false =>
  rw [Fe,if_neg (by decide)] at hT
  have hb:Ip s e o m=false:=by
   unfold Ip
   rw [Bool.and_comm (La s e),Fe]
   rfl
  rw [hb,hT]
  simp
 | true =>
  rw [Fe,if_pos rfl] at hT
  obtain ⟨rc,rfl,hT,hl⟩:=hT
  have hb:Ip s e o m=(decide (o.cs=[])||(!decide (m=2) && !decide (o.mo=2))):=by
   unfold Ip
   rw [Bool.and_comm (La s e),Fe]
   rfl
  unfold GV at hT
  have hco:=h.uS (ho:=e.ar) hg
  rw [hco] at hT
  have hcond:(Fa x.E (Ac e.h)≠[]/\(m=2\/(Fa x.E (Ac e.h)).head?.map Bw.mo=some 2))↔Ip s e o m=false:=by
   rw [hb]
   constructor
   ·rintro ⟨h1,h2⟩
    have hcs:¬o.cs=[]:=fun h0=>h1 ((h.of_nil hg).2 h0)
    rw [h.Zn hg h1,Option.some.injEq] at h2
    rcases h2 with h2|h2<;>simp [hcs,h2]
   ·intro h2
    simp only [Bool.or_eq_false_iff,decide_eq_false_iff_not] at h2
    have h1:Fa x.E (Ac e.h)≠[]:=fun h0=>h2.1 ((h.of_nil hg).1 h0)
    refine ⟨h1, ?_⟩
    rw [h.Zn hg h1,Option.some.injEq]
    by_cases hm2:m=2
    ·exact .inl hm2
    ·refine .inr ?_
     simpa [hm2] using h2.2
  cases hlb:Ip s e o m with
  | false =>
   rw [if_pos (hcond.2 hlb)] at hT
   subst hT
   simp
  | true =>
   rw [if_neg (fun hc=>by rw [hcond.1 hc] at hlb;cases hlb)] at hT
   obtain ⟨rfl,P,Q,hP⟩:=hT
   simp only [if_true]
   refine ⟨rfl,fun s' hs=>?_⟩
   injection hs with hs
   subst hs
   have hlen:y.E.length<=k+1:=by
    have h1:(Ev x.E (Ac e.h) e.ar).length<=x.E.length:=List.length_filter_le _ _
    have h2:=h.eL
    rw [hP.len];omega
   refine ⟨by rw [hst];exact h.sl,by rw [hst];exact h.st,by rw [hl];exact h.lS,by rw [hl];exact kC.set h.lM hg rfl rfl,hP.srt (h.eS.sublist List.filter_sublist) fun b hb=>(Ko.1 hb).2, ?_,hlen⟩
   refine N9.put (o':=W9 o e.ar m) (m:=m) (c':=(BL o.cs e.ar).getD 0+1) h.eM hg rfl rfl ?_ fun b=>by rw [hP.mem];rw [Ko]
   by_cases hcs:o.cs=[]
   ·exact .inr hcs
   ·refine .inl ?_
    rw [hb] at hlb
    simp only [hcs,decide_false,Bool.false_or,Bool.and_eq_true,Bool.not_eq_true',decide_eq_false_iff_not] at hlb
    rcases LF.mode hcs with h1|h1
    ·simp only at h1
     omega
    ·exact absurd h1 hlb.2
end
theorem Q4 {α:Type} {l:List α} {i:Nat} {o:α} (h:l[i]? = some o):l=l.take i++o::l.drop (i+1):=by
 conv=>lhs;rw [<-List.take_append_drop i l]
 rw [drop_cons h]
theorem XP {α:Type} {l:List α} {i:Nat} : l.eraseIdx i=l.take i++l.drop (i+1):=List.eraseIdx_eq_take_drop_succ ..
theorem TV {α:Type} {l:List α} {i:Nat} {o:α} (h:l[i]? = some o) (v:α):l.set i v=l.take i++v::l.drop (i+1):=by
 have:=(List.getElem?_eq_some_iff.1 h).1
 rw [List.set_eq_take_append_cons_drop,if_pos this]
abbrev XQ (l:List BO):Prop:=l.Pairwise fun a b=>Ac a.h<Ac b.h
theorem TW {A B:List BO} {o:BO} (h:XQ (A++o::B)):∀b,b∈A\/b∈B->Ac b.h≠Ac o.h:=by
 obtain ⟨h1,h2,h3⟩:=List.pairwise_append.1 h
 obtain ⟨h4, -⟩:=List.pairwise_cons.1 h2
 rintro b (hb|hb)
 ·exact Nat.ne_of_lt (h3 b hb o (.head _))
 ·exact Nat.ne_of_gt (h4 b hb)
theorem dH {l:List BO} {i:Nat} {o:BO} (h:l[i]? = some o) (hs:XQ l) (b:BO):b∈l.eraseIdx i↔b∈l/\Ac b.h≠Ac o.h:=by
 have e:=Q4 h
 have hs':=hs
 rw [e] at hs'
 have ha:=TW hs'
 rw [XP]
 conv=>rhs;rw [e]
 simp only [List.mem_append,List.mem_cons]
 constructor
 ·intro hb
  exact ⟨hb.imp id .inr,ha b hb⟩
 ·rintro ⟨hb|rfl|hb,hn⟩
  ·exact .inl hb
  ·exact absurd rfl hn
  ·exact .inr hb
theorem oP {l:List BO} {i:Nat} {o v:BO} (h:l[i]? = some o) (hs:XQ l) (b:BO):b∈l.set i v↔b=v\/(b∈l/\Ac b.h≠Ac o.h):=by
 have e:=Q4 h
 have hs':=hs
 rw [e] at hs'
 have ha:=TW hs'
 rw [TV h]
 conv=>rhs;rw [e]
 simp only [List.mem_append,List.mem_cons]
 constructor
 ·rintro (hb|rfl|hb)
  ·exact .inr ⟨.inl hb,ha b (.inl hb)⟩
  ·exact .inl rfl
  ·exact .inr ⟨.inr (.inr hb),ha b (.inr hb)⟩
 ·rintro (rfl|⟨hb|rfl|hb,hn⟩)
  ·exact .inr (.inl rfl)
  ·exact .inl hb
  ·exact absurd rfl hn
  ·exact .inr (.inr hb)
theorem oQ {l:List BO} {i:Nat} {o v:BO} (h:l[i]? = some o) (hs:XQ l) (hv:Ac v.h=Ac o.h):XQ (l.set i v):=by
 have e:=Q4 h
 rw [TV h]
 rw [e] at hs
 obtain ⟨h1,h2,h3⟩:=List.pairwise_append.1 hs
 obtain ⟨h4,h5⟩:=List.pairwise_cons.1 h2
 refine List.pairwise_append.2 ⟨h1,List.pairwise_cons.2 ⟨fun b hb=>by rw [hv];exact h4 b hb,h5⟩,fun a ha b hb=>?_⟩
 rcases List.mem_cons.1 hb with rfl|hb
 ·rw [hv];exact h3 a ha o (.head _)
 ·exact h3 a ha b (List.mem_cons_of_mem _ hb)
section
variable {k:Nat} {s:HS} {x:IX} {e:DZ}
theorem RelB.free {b:BO} {o:Ob} {i:Nat} {y:IX} (h:RelB k s x) (hI:Ed k s) (hb:x.l[i]? = some b) (hh:b.h=e.h) (hg:BL s.os (Ac e.h)=some o)
  (hst:y.st=x.st) (hl:y.l=x.l.eraseIdx i) (hE:y.E=x.E.filter fun c => !decide (c.ob=(Ac b.h:Int))):RelB (k+1) { s with os:=EI s.os (Ac e.h) } y:=by
 refine ⟨by rw [hst];exact h.sl,by rw [hst];exact h.st,by rw [hl];exact h.lS.sublist (List.eraseIdx_sublist ..),fun c=>?_,by rw [hE];exact h.eS.sublist List.filter_sublist,fun c=>?_,by rw [hE];exact Nat.le_trans (List.length_filter_le _ _) (Nat.le_succ_of_le h.eL)⟩
 ·rw [hl,dH hb h.lS,h.lM c,JO hI.nd,hh]
  by_cases e1:Ac c.h=Ac e.h
  ·rw [if_pos (by rw [e1])]
   simp [e1]
  ·rw [if_neg (fun h'=>e1 (Int.ofNat_inj.1 h'))]
   simp [e1]
 ·rw [hE,List.mem_filter,h.eM c,JO hI.nd,hh]
  by_cases e1:c.ob=Ac e.h
  ·rw [if_pos e1]
   simp [e1]
  ·rw [if_neg e1]
   simp [e1]
theorem RelB.trans {b:BO} {o:Ob} {i:Nat} {y:IX} (h:RelB k s x) (hI:Ed k s) (hb:x.l[i]? = some b) (hh:b.h=e.h) (hg:BL s.os (Ac e.h)=some o) (hoh:o.h=e.h)
  (hst:y.st=x.st) (hl:y.l=x.l.set i ⟨b.h,e.ar⟩) (hE:y.E=x.E):RelB (k+1) { s with os:=CS s.os (Ac e.h) { o with ow:=e.ar } } y:=by
 refine ⟨by rw [hst];exact h.sl,by rw [hst];exact h.st,by rw [hl];exact oQ hb h.lS rfl,fun c=>?_,by rw [hE];exact h.eS,by rw [hE];exact N9.same h.eM hg rfl rfl,by rw [hE];exact Nat.le_succ_of_le h.eL⟩
 rw [hl,oP hb h.lS,h.lM c,DR,hh]
 by_cases e1:Ac c.h=Ac e.h
 ·rw [if_pos (by rw [e1])]
  obtain ⟨c1,c2⟩:=c
  simp only [BO.mk.injEq,Option.some.injEq,exists_eq_left',hoh,e1,ne_eq,not_true_eq_false,and_false,or_false]
  exact ⟨fun h=>⟨h.1.symm,h.2.symm⟩,fun h=>⟨h.1.symm,h.2.symm⟩⟩
 ·rw [if_neg (fun h'=>e1 (Int.ofNat_inj.1 h'))]
  simp only [ne_eq,e1,not_false_eq_true,and_true,or_iff_right_iff_imp]
  rintro rfl
  exact absurd rfl e1
theorem RelB.busy (h:RelB k s x) (hI:Ed k s) (sl:Int):Qx x.l sl=false↔BL s.os sl=none:=by
 unfold Qx
 rw [List.any_eq_false]
 constructor
 ·intro h1
  cases hg:BL s.os sl with
  | none=>rfl
  | some o =>
   have hsl:=(hI.get hg).slot
   simp only at hsl
   refine absurd ?_ (h1 ⟨o.h,o.ow⟩ ((h.lM _).2 ⟨o, ?_,rfl,rfl⟩))
   ·simpa using hsl.symm
   ·rw [<-hsl];exact hg
 ·intro h1 b hb
  obtain ⟨o,g1, -⟩:=(h.lM b).1 hb
  simp only [decide_eq_true_eq]
  intro e1
  rw [e1,h1] at g1
  cases g1
theorem RelB.alloc {y:IX} {P Q:List BO} (h:RelB k s x) (hI:Ed k s) (hg:BL s.os (Ac e.h)=none)
  (hst:y.st=x.st) (hl:Qz ⟨e.h,e.pl⟩ x.l y.l P Q) (hE:y.E=x.E):RelB (k+1) { s with os:=CS s.os (Ac e.h) ⟨e.h,e.pl,0,[]⟩ } y:=by
 have hbz:=(h.busy hI _).2 hg
 unfold Qx at hbz
 rw [List.any_eq_false] at hbz
 refine ⟨by rw [hst];exact h.sl,by rw [hst];exact h.st,hl.srt h.lS fun b hb hs=>hbz b hb (decide_eq_true (Int.ofNat_inj.2 hs)),fun c=>?_,by rw [hE];exact h.eS,fun c=>?_,by rw [hE];exact Nat.le_succ_of_le h.eL⟩
 ·rw [hl.mem,h.lM c,DR]
  by_cases e1:Ac c.h=Ac e.h
  ·rw [if_pos (by rw [e1]),e1,hg]
   obtain ⟨c1,c2⟩:=c
   simp only [BO.mk.injEq,Option.some.injEq,exists_eq_left',reduceCtorEq,false_and,exists_false,or_false]
   exact ⟨fun h=>⟨h.1.symm,h.2.symm⟩,fun h=>⟨h.1.symm,h.2.symm⟩⟩
  ·rw [if_neg (fun h'=>e1 (Int.ofNat_inj.1 h'))]
   refine or_iff_right ?_
   rintro rfl
   exact e1 rfl
 ·rw [hE,h.eM c,DR]
  by_cases e1:c.ob=Ac e.h
  ·rw [if_pos e1,e1,hg]
   simp [BL]
  ·rw [if_neg e1]
theorem TY {os:List (Int×Ob)} (hn:(keys os).Nodup) (p j:Int):BL (NB p os) j=(BL os j).bind fun o=>if o.ow=p then none else some { o with cs:=EI o.cs p } := by
 have e:NB p os=Bo (fun o => { o with cs:=EI o.cs p }) (os.filter fun q=>decide (¬q.2.ow=p)):=rfl
 rw [e,Ff,Oe hn]
 cases BL os j with
 | none=>rfl
 | some o=>by_cases h:o.ow=p<;>simp [h]
theorem Fh {α:Type} {l:List (Int×α)} (hn:(keys l).Nodup):(D9 l).Perm l:=by
 have nd:∀ {l:List (Int×α)},(keys l).Nodup->l.Nodup:=fun {l} h=>(List.pairwise_map.1 h).imp fun {a b} hne he=>hne (congrArg _ he)
 refine (List.perm_ext_iff_of_nodup (nd (F_ hn).nodup) (nd hn)).2 fun q=>?_
 constructor
 ·intro hq
  have:=LH (F_ hn).nodup hq
  rw [NA hn] at this
  exact Ec this
 ·intro hq
  have:=LH hn hq
  rw [<-NA hn] at this
  exact Ec this
def Yd (q:Int×Ob):BO:=⟨q.2.h,q.2.ow⟩
theorem GD {α:Type} {l:List (Int×α)} (hn:(keys l).Nodup) {q:Int×α} : q∈D9 l↔BL l q.1=some q.2:=by
 rw [(Fh hn).mem_iff]
 exact ⟨fun h=>LH hn h,fun h=>Ec h⟩
theorem RelB.uT (h:RelB k s x) (hI:Ed k s):x.l=(D9 s.os).map Yd:=by
 refine Uu (R:=fun a b=>Ac a.h<Ac b.h) (fun a b h1 h2=>by omega) h.lS ?_ fun b=>?_
 ·rw [List.pairwise_map]
  have h1:=F_ hI.nd
  unfold qI keys at h1
  rw [List.pairwise_map] at h1
  refine h1.imp_of_mem fun {a b} ha hb hab=>?_
  have h2:=(hI.obj a ((Fh hI.nd).mem_iff.1 ha)).slot
  have h3:=(hI.obj b ((Fh hI.nd).mem_iff.1 hb)).slot
  unfold Yd
  simp only
  omega
 ·rw [h.lM,List.mem_map]
  constructor
  ·rintro ⟨o,h1,h2,h3⟩
   exact ⟨(Ac b.h,o),(GD hI.nd).2 h1,by unfold Yd;simp only [h2,h3]⟩
  ·rintro ⟨q,h1,rfl⟩
   have h2:=(hI.obj q ((Fh hI.nd).mem_iff.1 h1)).slot
   exact ⟨q.2,by unfold Yd;simp only;rw [<-h2];exact (GD hI.nd).1 h1,rfl,rfl⟩
theorem RelB.len (h:RelB k s x) (hI:Ed k s):x.l.length<=k:=by
 rw [h.uT hI,List.length_map,(Fh hI.nd).length_eq]
 exact hI.len
theorem RelB.count (h:RelB k s x) (hI:Ed k s) (p:Int):(x.l.filter (ownB p)).length=bU p s.os:=by
 rw [h.uT hI,List.filter_map,List.length_map]
 exact ((Fh hI.nd).filter _).length_eq
theorem RelB.end {y:IX} (h:RelB k s x) (hI:Ed k s) (hp:1<=e.pl/\e.pl<=64) (hst:y.st=x.st.set e.pl.toNat 2) (hl:y.l=x.l.filter fun o => !ownB e.pl o)
  (hE:y.E=(x.E.filter fun b => !decide (b.ho=e.pl)).filter fun b => !XN e.pl x.l b):RelB (k+1) { sd:=CS s.sd e.pl false,os:=NB e.pl s.os } y:=by
 refine ⟨by rw [hst,List.length_set];exact h.sl,fun p h1 h2=>?_,by rw [hl];exact h.lS.sublist List.filter_sublist,fun c=>?_,by rw [hE];exact (h.eS.sublist List.filter_sublist).sublist List.filter_sublist,fun c=>?_,by rw [hE];exact Nat.le_trans (List.length_filter_le _ _) (Nat.le_trans (List.length_filter_le _ _) (Nat.le_succ_of_le h.eL))⟩
 ·rw [hst,DR]
  by_cases e1:p=e.pl
  ·rw [if_pos e1,e1,List.getElem?_set_self (by have:=h.sl;omega)]
   rfl
  ·rw [if_neg e1,List.getElem?_set_ne (by omega)]
   exact h.st p h1 h2
 ·rw [hl,List.mem_filter,h.lM c,TY hI.nd]
  constructor
  ·rintro ⟨⟨o,g1,g2,g3⟩,g4⟩
   have hn:¬o.ow=e.pl:=by rw [g3];unfold ownB at g4;simpa using g4
   exact ⟨{ o with cs:=EI o.cs e.pl },by rw [g1];simp [hn],g2,g3⟩
  ·rintro ⟨o',g1,g2,g3⟩
   cases g0:BL s.os (Ac c.h) with
   | none=>rw [g0] at g1;cases g1
   | some o =>
    rw [g0] at g1
    simp only [Option.bind_some] at g1
    split at g1
    ·cases g1
    ·rename_i hn
     injection g1 with g1
     subst g1
     exact ⟨⟨o,rfl,g2,g3⟩,by unfold ownB;simp only at g3;rw [g3] at hn;simpa using hn⟩
 ·have qP:∀o,BL s.os c.ob=some o->(XN e.pl x.l c=true↔o.ow=e.pl):=fun o ho=>by
   unfold XN
   rw [List.any_eq_true]
   constructor
   ·rintro ⟨b,hb,hb2⟩
    simp only [ownB,Bool.and_eq_true,decide_eq_true_eq] at hb2
    obtain ⟨o',g1,g2,g3⟩:=(h.lM b).1 hb
    rw [hb2.2,ho] at g1
    cases g1
    rw [g3];exact hb2.1
   ·intro how
    have hsl:=(hI.get ho).slot
    simp only at hsl
    exact ⟨⟨o.h,o.ow⟩,(h.lM _).2 ⟨o,by rw [<-hsl];exact ho,rfl,rfl⟩,by simp [ownB,how,hsl]⟩
  rw [hE,List.mem_filter,List.mem_filter,h.eM c,TY hI.nd]
  constructor
  ·rintro ⟨⟨⟨o,g1,g2,g3⟩,g4⟩,g5⟩
   have hn:¬o.ow=e.pl:=fun hw=>by rw [(qP o g1).2 hw] at g5;cases g5
   have hho:¬c.ho=e.pl:=by simpa using g4
   exact ⟨{ o with cs:=EI o.cs e.pl },by rw [g1];simp [hn],by rw [JO (hI.get g1).nd,if_neg hho];exact g2,g3⟩
  ·rintro ⟨o',g1,g2,g3⟩
   cases g0:BL s.os c.ob with
   | none=>rw [g0] at g1;cases g1
   | some o =>
    rw [g0] at g1
    simp only [Option.bind_some] at g1
    split at g1
    ·cases g1
    ·rename_i hn
     injection g1 with g1
     subst g1
     simp only at g2 g3
     rw [JO (hI.get g0).nd] at g2
     split at g2
     ·cases g2
     ·rename_i hho
      refine ⟨⟨⟨o,rfl,g2,g3⟩,by simpa using hho⟩, ?_⟩
      cases hgb:XN e.pl x.l c with
      | false=>rfl
      | true=>exact absurd ((qP o g0).1 hgb) hn
theorem RelB.start {y:IX} (h:RelB k s x) (hp:1<=e.pl/\e.pl<=64) (hst:y.st=x.st.set e.pl.toNat 1) (hl:y.l=x.l) (hE:y.E=x.E):RelB (k+1) { s with sd:=CS s.sd e.pl true } y:=by
 refine ⟨by rw [hst,List.length_set];exact h.sl,fun p h1 h2=>?_,by rw [hl];exact h.lS,by rw [hl];exact h.lM,by rw [hE];exact h.eS,by rw [hE];exact h.eM,by rw [hE];exact Nat.le_succ_of_le h.eL⟩
 rw [hst,DR]
 by_cases e1:p=e.pl
 ·rw [if_pos e1,e1,List.getElem?_set_self (by have:=h.sl;omega)]
  rfl
 ·rw [if_neg e1,List.getElem?_set_ne (by omega)]
  exact h.st p h1 h2
theorem RelB.step {r:Bool} {y:IX} (h:RelB k s x) (hI:Ed k s) (hsk:JA e=false) (hT:Eb x e r y) :
  r=(Eg s e).isSome∧∀s',Eg s e=some s'→RelB (k+1) s' y:=by
 have no:∀ {o:Option HS},o=none->r=false->r=o.isSome∧∀s',o=some s'→RelB (k+1) s' y:=fun ho hr=>by rw [ho,hr];exact ⟨rfl,fun s' hs=>by cases hs⟩
 have yes:∀ {o:Option HS} {s1:HS},o=some s1->r=true->RelB (k+1) s1 y->r=o.isSome∧∀s',o=some s'→RelB (k+1) s' y:=fun ho hr hrel=>by
  rw [ho,hr]
  exact ⟨rfl,fun s' hs=>by cases hs;exact hrel⟩
 unfold Eg
 unfold Eb at hT
 rw [hsk,if_neg Bool.false_ne_true]
 by_cases hpl:e.pl<1\/64<e.pl
 ·rw [if_pos hpl] at hT ⊢
  exact no rfl hT
 rw [if_neg hpl] at hT ⊢
 have hp:1<=e.pl/\e.pl<=64:=by omega
 by_cases h32:e.op=32
 ·rw [if_pos h32] at hT ⊢
  have hs:=h.st e.pl hp.1 hp.2
  unfold Nv
  cases hk:BL s.sd e.pl with
  | none =>
   rw [hk] at hs
   rw [if_pos (show x.st[e.pl.toNat]? = some 0 from hs)] at hT
   exact yes rfl hT.1 (h.start hp hT.2.1 hT.2.2.1 hT.2.2.2)
  | some b =>
   rw [hk] at hs
   rw [if_neg (fun h0=>by rw [hs] at h0;cases b<;>simp [vU] at h0)] at hT
   exact no rfl hT
 rw [if_neg h32] at hT ⊢
 have hal:=h.jN hp.1 hp.2
 cases b_:alive s e.pl with
 | false =>
  rw [if_pos (fun h0=>by rw [hal.1 h0] at b_;cases b_)] at hT
  rw [if_pos rfl]
  exact no rfl hT
 | true =>
 rw [if_neg (fun h0=>h0 (hal.2 b_))] at hT
 rw [if_neg (by decide)]
 by_cases dX:e.op=33
 ·rw [if_pos dX] at hT ⊢
  obtain ⟨hr,h1,h2,h3⟩:=hT
  rw [h.count hI] at hr
  unfold bV
  by_cases hc:bU e.pl s.os=e.ar
  ·rw [if_pos hc]
   exact yes rfl (by rw [hr];exact decide_eq_true hc) (h.end hI hp h1 h2 h3)
  ·rw [if_neg hc]
   exact no rfl (by rw [hr];exact decide_eq_false hc)
 rw [if_neg dX] at hT ⊢
 by_cases h1:e.op=1
 ·rw [if_pos h1] at hT ⊢
  unfold ML
  by_cases hc:(0<F4 e.h/\0<Kh e.h)/\BL s.os (Ac e.h)=none
  ·rw [if_pos hc]
   rw [if_pos (by rw [decide_eq_true hc.1,(h.busy hI _).2 hc.2];rfl)] at hT
   obtain ⟨hr,hst,⟨P,Q,hl⟩,hE⟩:=hT
   exact yes rfl hr (h.alloc hI hc.2 hst hl hE)
  ·rw [if_neg hc]
   rw [if_neg (fun h0=>hc (by
    simp only [Bool.and_eq_true,decide_eq_true_eq,Bool.not_eq_true'] at h0
    exact ⟨h0.1,(h.busy hI _).1 h0.2⟩))] at hT
   exact no rfl hT
 rw [if_neg h1] at hT ⊢
 rcases h.find (e:=e) hI with ⟨hn,hf⟩|⟨i,b,o,hi,hb,oU,hf,hg,hoh,how⟩
 ·have hr:=hT.no hn
  split
  ·refine no ?_ hr
   unfold Uk
   rw [hf]
  ·exact no rfl hr
 have hA:=hT.yes i b hi hb
 have hst:=hT.st
 unfold Ey at hA
 by_cases h11:e.op=11
 ·rw [if_pos h11] at hA
  obtain ⟨rc,rfl,hR,hl⟩:=hA
  rw [if_pos (by omega),LM hf]
  simp only [h11,Int.reduceEq,if_false]
  exact h.rel hI oU hg hst hl hR
 rw [if_neg h11] at hA
 by_cases h2:e.op=2
 ·rw [if_pos h2] at hA
  rw [if_pos (by omega),LM hf,if_pos h2]
  have hfb:(decide (b.ow=e.pl)&&decide (Fa x.E (Ac b.h)=[]))=JQ e o:=by
   unfold JQ
   rw [how,oU,show decide (Fa x.E (Ac e.h)=[])=decide (o.cs=[]) from decide_eq_decide.2 (h.of_nil hg)]
  rw [hfb] at hA
  split at hA
  ·rename_i hfr
   rw [if_pos hfr]
   exact yes rfl hA.1 (h.free hI hb oU hg hst hA.2.1 hA.2.2)
  ·rename_i hfr
   rw [if_neg hfr]
   exact no rfl hA
 rw [if_neg h2] at hA
 by_cases h8:e.op=8
 ·rw [if_pos h8] at hA
  rw [if_pos (by omega),LM hf,if_neg h2,if_pos h8]
  have hfb:(decide (b.ow=e.pl)&&decide (Fa x.E (Ac b.h)=[])&&N8 x.st e)=(JQ e o&&La s e):=by
   unfold JQ
   rw [how,oU,show decide (Fa x.E (Ac e.h)=[])=decide (o.cs=[]) from decide_eq_decide.2 (h.of_nil hg),h.oth hI]
  rw [hfb] at hA
  split at hA
  ·rename_i hfr
   rw [if_pos hfr]
   exact yes rfl hA.1 (h.trans hI hb oU hg hoh hst hA.2.1 hA.2.2)
  ·rename_i hfr
   rw [if_neg hfr]
   exact no rfl hA
 rw [if_neg h8] at hA
 by_cases h9:e.op=9
 ·rw [if_pos h9] at hA
  rw [if_pos (by omega),LM hf,if_neg h2,if_neg h8,if_pos h9]
  exact h.UU hI (.inl rfl) oU how hg hst hA
 rw [if_neg h9] at hA
 by_cases h10:e.op=10
 ·rw [if_pos h10] at hA
  rw [if_pos (by omega),LM hf,if_neg h2,if_neg h8,if_neg h9,if_pos h10]
  exact h.UU hI (.inr rfl) oU how hg hst hA
 rw [if_neg h10] at hA
 rw [if_neg (by omega)]
 exact no rfl hA
end
theorem RelB.ofEq {k:Nat} {s:HS} {x:IX} (h:RelB k s x) (hI:Ed k s) {ob:Int} {o:Ob} (hg:BL s.os ob=some o):Fa x.E ob=(D9 o.cs).map (Zk o):=by
 have LF:=hI.get hg
 have hsl:=LF.slot
 simp only at hsl
 refine Uu (R:=fun a b=>KT a b=true) j5 (h.eS.sublist List.filter_sublist) ?_ fun b=>?_
 ·rw [List.pairwise_map]
  have h1:=F_ LF.nd
  unfold qI keys at h1
  rw [List.pairwise_map] at h1
  refine List.Pairwise.imp ?_ h1
  intro a b hab
  exact LP.2 (.inr ⟨rfl,hab⟩)
 ·unfold Fa
  rw [List.mem_filter,h.eM b,List.mem_map]
  constructor
  ·rintro ⟨⟨o',g1,g2,g3⟩,g4⟩
   have g4':b.ob=ob:=by simpa using g4
   rw [g4',hg] at g1
   cases g1
   refine ⟨(b.ho,b.co),(GD LF.nd).2 g2, ?_⟩
   obtain ⟨b1,b2,b3,b4⟩:=b
   dsimp only at g2 g3 g4'
   unfold Zk
   simp only [<-hsl,g3,g4']
  ·rintro ⟨c,hc,rfl⟩
   have:=(GD LF.nd).1 hc
   unfold Zk
   simp only [<-hsl,decide_true,and_true]
   exact ⟨o,hg,this,rfl⟩
structure FbR where
 b:Nat
 sb:Nat
 LA:Option Addr
 ln:Nat
 lc:Nat
 EA:Option Addr
 en:Nat
 ec:Nat
 st:List Int
 DF:List RO
 E:List Bw
def uU:Option FbR->Value
 | none=>.tuple #[.pointer none,.int .i64 28]
 | some y=>.tuple #[.pointer (some ⟨y.b,0,none⟩),.int .i64 0]
def fbL (y:FbR):List Ai:=.blk y.b 159 [.slice (some ⟨y.sb,0,none⟩) 65 65,.slice y.LA y.ln y.lc,.slice y.EA y.en y.ec] :: .row (.slice (some ⟨y.sb,0,none⟩) 65 65) 3 1 65 (CO y.st) :: .row (.slice y.LA y.ln y.lc) 105 6 y.ln (BS y.DF) :: .row (.slice y.EA y.en y.ec) 163 4 y.en (Au y.E)::y.DF.map Dy
def uV:Option FbR->List Ai
 | none=>[]
 | some y=>fbL y
def AH8 (es:List DZ):Option FbR->Prop
 | none=>Fp hs0 es=none
 | some y => ∃s x,Fp hs0 es=some s/\y.DF.map RO.pl=O3 s/\RelB es.length s x/\Ed es.length s/\y.E=x.E
theorem AH9 {b sb:Nat} {LA EA:Option Addr} {ln lc en ec:Nat} : RelB 0 hs0 ⟨b,sb,LA,ln,lc,EA,en,ec,List.replicate 65 0,[],[]⟩:=by
 refine ⟨by simp,fun p h1 h2=>?_,.nil,fun c=>?_,.nil,fun c=>?_,Nat.le_refl _⟩
 ·simp only [hs0,BL,vU]
  rw [List.getElem?_replicate,if_pos (by omega)]
 ·simp [hs0,BL]
 ·simp [hs0,BL]
theorem st0:List.replicate 65 (Value.int .i64 0)=CO (List.replicate 65 0):=by unfold CO;rw [List.map_replicate]
theorem kD {DF:List RO} {l:List BO} {j:Nat} {o:BO} (hj:DF.length=j) (ho:l[j]? = some o):(BS DF++BZ (l.drop j))[j*6+0]? = some (.int .u64 (o.h:Int)):=by
 have hr:(BS DF).length=j*6:=by unfold BS;rw [Cr Dw,hj]
 rw [List.getElem?_append_right (by omega),hr,drop_cons ho]
 rw [show j*6+0-j*6=0 by omega]
 rfl
theorem kE {DF:List RO} {l:List BO} {j:Nat} {o:BO} {A:Option Addr} {n c:Nat} {bs:List Bw} (hj:DF.length=j) (ho:l[j]? = some o) :
  (BS DF++BZ (l.drop j)).set (j*6+5) (.slice A n c)=BS (DF++[⟨o.h,o.ow,A,n,c,bs⟩])++BZ (l.drop (j+1)):=by
 have hr:(BS DF).length=j*6:=by unfold BS;rw [Cr Dw,hj]
 rw [List.set_append_right _ _ (by omega),hr,drop_cons ho]
 rw [show j*6+5-j*6=5 by omega,ND,List.append_assoc]
 rfl
theorem kF {DF:List RO} {l:List BO} {j:Nat} (hj:DF.length=j) (hl:j<=l.length):(BS DF++BZ (l.drop j)).length=l.length*6:=by
 have hr:(BS DF).length=j*6:=by unfold BS;rw [Cr Dw,hj]
 rw [List.length_append,hr,CK,List.length_drop]
 omega
theorem JU:∀(DF:List RO) (g:Nat),look (DF.map Dy) g=none
 | [],g=>rfl
 | r::DF,g=>JU DF g
theorem EJ:type_of% (And.intro (And.intro (And.intro @Nat.mul_one @Ae) (And.intro @G_ (And.intro @cM @Ce))) (And.intro (And.intro @Cf @Cg) (And.intro @Ch (And.intro @Ci @JU)))):=(And.intro (And.intro (And.intro @Nat.mul_one @Ae) (And.intro @G_ (And.intro @cM @Ce))) (And.intro (And.intro @Cf @Cg) (And.intro @Ch (And.intro @Ci @JU))))
theorem TZ (A:Option Addr) (n c:Nat) (es:List DZ) (W:World) (hE:Sl W W.heap.size 5 A n c (Bc es)) (hok:∀e∈es,e.ok) (hn:n<=900) :
  Calls Tryz.prog 70 #[.slice A n c] W
  fun en w' => ∃i:Option FbR,en = .returned (uU i)/\AH8 es i/\St [] W (uV i) w':=by
 have hlen:es.length=n:=by
  have:=hE.len
  unfold Bc at this
  rw [Cr C8] at this
  omega
 refine Ab (M:=[]) Tryz.func70 [.tmp 2,.tmp 3] (St.nil _ _) ?_
 have zs:=Bd.mk EJ
 refine Aq ?_
 refine AQ rfl fun K k0=>?_
 refine Ah ?_
 refine mR (n:=65) (u:=.int .i64 0) J_ rfl rfl rfl (by decide) (by decide) ?_
 intro sb hsb hsf
 refine Ah ?_
 intro b hb hf
 refine k0 _ _ ?_
 refine AB fun K k0=>?_
 refine Aq ?_
 refine NY fun G1 hG=>?_
 have Kl:=congrFun hG 0
 have kG:=congrFun hG 4
 have Lb:=congrFun hG 5
 clear hG
 try simp -implicitDefEqProofs (disch:=first|omega|decide) only [seval, -Int.reducePow, -Nat.reducePow,cC,pv,Ao,Az,undef,EJ] at Kl kG Lb
 have g1:=And.intro Kl (And.intro kG Lb)
 refine D5 105 6 ?_
 refine D5 163 4 ?_
 refine Cq (Ej ⟨b,sb,none,0,0,none,0,0,List.replicate 65 0,[],[]⟩) (fun w hw=>?_) ?_
 ·have h1:St [] W (.blk sb 3 (List.replicate 65 (.int .i64 0)) :: .blk b 159 [.slice (some ⟨sb,0,none⟩) 65 65,.slice none 0 0,.slice none 0 0] :: .row (.slice none 0 0) 163 4 0 [] :: .row (.slice none 0 0) 105 6 0 []::[]) w:=hw.pick (ix:=[3,2,0,1]) (by decide)
  have h2:=h1.Fw (size:=1) (n:=65) (by rw [List.length_replicate]) (by decide)
  rw [st0] at h2
  exact h2.pick (ix:=[1,0,3,2]) (by decide)
 refine Ad ?_
 refine BP (fun F' L' => ∃(i:Nat) (s:HS) (x:IX),F' 0=G1 0/\F' 4 = .pointer (some ⟨x.b,0,none⟩)/\F' 5 = .int .i64 (i:Int)/\L'=Ej x/\i<=n/\Fp hs0 (es.take i)=some s/\RelB i s x/\Ed i s) (fun F' L'=>2000-(intOf (F' 5)).toNat) ?_ ?_
 ·refine ⟨0,hs0,⟨b,sb,none,0,0,none,0,0,List.replicate 65 0,[],[]⟩, ?_⟩
  have zg:=Bd.mk g1
  refine AR ?_
  exact ⟨by omega,rfl,AH9,Uq⟩
 intro G2 L' hI
 obtain ⟨i,s,x,q0,q4,q5,rfl,⟨hi,hrun,hR,hI⟩⟩:=hI
 have Oz:=q0.trans Kl
 have kH:=q4
 have ji:=q5
 clear q0 q4 q5
 have g2:=And.intro Oz (And.intro kH ji)
 refine AB fun K k1=>?_
 have zg:=Bd.mk (And.intro g1 g2)
 refine BH ?_
 refine Dl (fun hc=>?_) fun hc=>?_
 ·refine AO ?_
  try simp only [BJ,BX]
  have hit:i<n:=by have:=of_decide_eq_true ‹decide ((i:Int)<(n:Int))=true›;omega
  obtain ⟨e,he⟩:∃e,es[i]? = some e:=⟨_,List.getElem?_eq_getElem (by omega)⟩
  have heo:=hok e (List.mem_of_getElem? he)
  obtain ⟨bA,oA,rfl,KD, -⟩:=hE.cells (by omega)
  have hld:=FB C8 he
  have htk:es.take (i+1)=es.take i++[e]:=by rw [List.take_add_one,he];rfl
  have hrs:Fp hs0 (es.take (i+1))=Eg s e:=by rw [htk,Nz,hrun];rfl
  have hxl:=hR.len hI
  have hxE:=hR.eL
  have h64:∀o∈x.l,o.h<18446744073709551616:=fun o ho=>by
   obtain ⟨q,h1,h2, -⟩:=(hR.lM o).1 ho
   rw [<-h2]
   exact (hI.get h1).h64
  have hco:∀c∈x.E,0<=c.co/\c.co<=4611686018427387904:=fun c hc=>by
   obtain ⟨q,h1,h2, -⟩:=(hR.eM c).1 hc
   have:=(hI.get h1).cnt _ (Ec h2)
   simp only at this
   omega
  refine k1 _ _ ?_
  refine EK (look (Ej x) bA=none) (fun w hw=>hw.lookW KD) fun hlk=>?_
  refine AB fun K k1=>?_
  refine Ad ?_
  refine AB fun K k2=>?_
  cases hsk:JA e with
  | true =>
   refine AF rfl ?_
   refine Ap hlk ?_
   refine Aj (hE.ld (i:=i*5) (vs:=Xo e) (by omega) (by kernel_rfl) hld) ?_
   refine Ap hld ?_
   refine Aa (fun w hw=>hsk▸Q3 e w) ?_
   refine AR ?_
   refine k2 _ _ ?_
   refine AL ?_
   refine AR ?_
   refine AO (k1 _ _ ?_)
   refine AF rfl ?_
   refine AR ?_
   have hst:Eg s e=some s:=by unfold Eg;rw [hsk,if_pos rfl]
   refine ⟨⟨i+1,s,x, ?_⟩, ?_⟩
   ·refine Ap @Int.natCast_add ?_
    exact ⟨by omega,hrs.trans hst,hR.up,hI.up⟩
   ·simp only [intOf];omega
  | false =>
   refine AF rfl ?_
   refine Ap hlk ?_
   refine Aj (hE.ld (i:=i*5) (vs:=Xo e) (by omega) (by kernel_rfl) hld) ?_
   refine Ap hld ?_
   refine Aa (fun w hw=>hsk▸Q3 e w) ?_
   refine Ap hlk ?_
   refine Aj (hE.ld (i:=i*5) (vs:=Xo e) (by omega) (by kernel_rfl) hld) ?_
   refine Ap hld ?_
   refine Af [] (Ej x) (List.Perm.refl _) oM Yb _ (fun w hw=>dG x e heo hR.sl h64 (by omega) (by omega) hco w hw) ?_
   rintro ⟨r,y⟩ ⟨hT,hy⟩
   obtain ⟨hr,hst⟩:=hR.step hI hsk hT
   dsimp only at hr hst hy
   unfold oM Yb
   cases hs:Eg s e with
   | none =>
    rw [hs] at hr
    subst hr
    refine AR ?_
    refine k2 _ _ ?_
    refine AL ?_
    refine AR ?_
    refine BH ?_
    refine AP (Br fun w hw=>?_)
    refine ⟨none,rfl, ?_,hw.sub (List.nil_sublist _)⟩
    show Fp hs0 es=none
    rw [<-List.take_append_drop (i+1) es]
    exact N7 _ _ _ (hrs.trans hs)
   | some s' =>
    rw [hs] at hr
    subst hr
    refine AR ?_
    refine k2 _ _ ?_
    refine AL ?_
    refine AR ?_
    refine AO (k1 _ _ ?_)
    refine AF rfl ?_
    refine AR ?_
    refine ⟨⟨i+1,s',y, ?_⟩, ?_⟩
    ·refine Ap (And.intro @Int.natCast_add @List.append_nil.{0}) ?_
     exact ⟨by rw [hy.b],by omega,hrs.trans hs,hst s' hs,hI.step heo hs⟩
    ·simp only [intOf];omega
 refine BM (k0 _ _ ?_)
 have hin:i=n:=by have:=of_decide_eq_false ‹decide ((i:Int)<(n:Int))=false›;omega
 subst hin
 rw [List.take_of_length_le (by omega)] at hrun
 clear hE hi
 have kI:=hR.uT hI
 have hxl:=hR.len hI
 have hxE:=hR.eL
 have h64:∀o∈x.l,o.h<18446744073709551616:=fun o ho=>by
  obtain ⟨q,h1,h2, -⟩:=(hR.lM o).1 ho
  rw [<-h2]
  exact (hI.get h1).h64
 obtain ⟨b',sb',LA,ln,lc,EA,en,ec,st,l,E⟩:=x
 dsimp only at kI hxl hxE h64 kH g2
 unfold Ej
 dsimp only
 refine EX 2 rfl fun hlL=>?_
 rw [CK] at hlL
 refine AB fun K k0=>?_
 replace zg:=Bd.mk (And.intro g1 g2)
 refine BH ?_
 refine NY fun G3 hG=>?_
 have uW:=congrFun hG 4
 have bu:=congrFun hG 6
 clear hG
 try simp -implicitDefEqProofs (disch:=first|omega|decide) only [seval, -Int.reducePow, -Nat.reducePow,cC,pv,Ao,Az,undef,EJ,g1,g2] at uW bu
 have g3:=And.intro uW bu
 refine Ad ?_
 refine BP (fun F' L' => ∃(j:Nat) (DF:List RO),F' 4=G3 4/\F' 6 = .int .i64 (j:Int)/\L' = .blk b' 159 [.slice (some ⟨sb',0,none⟩) 65 65,.slice LA ln lc,.slice EA en ec] :: .row (.slice (some ⟨sb',0,none⟩) 65 65) 3 1 65 (CO st) :: .row (.slice LA ln lc) 105 6 ln (BS DF++BZ (l.drop j)) :: .row (.slice EA en ec) 163 4 en (Au E)::DF.map Dy/\j<=ln/\DF.map RO.pl=((D9 s.os).take j).map fun q=>Uo q.2) (fun F' L'=>2000-(intOf (F' 6)).toNat) ?_ ?_
 ·refine ⟨0,[], ?_⟩
  replace zg:=Bd.mk (And.intro g1 (And.intro g2 g3))
  refine AR ?_
  exact ⟨rfl,Nat.zero_le _⟩
 intro G4 L' hI
 obtain ⟨j,DF,q4,q6,rfl,⟨hj,J4⟩⟩:=hI
 have oV:=q4.trans uW
 have AH_:=q6
 clear q4 q6
 have g4:=And.intro oV AH_
 have hrl:DF.length=j:=by
  have h1:=congrArg List.length J4
  rw [List.length_map,List.length_map,List.length_take] at h1
  have h2:=congrArg List.length kI
  rw [List.length_map] at h2
  omega
 refine AB fun K k1=>?_
 replace zg:=Bd.mk (And.intro g1 (And.intro g2 (And.intro g3 g4)))
 refine BH ?_
 refine Dl (fun hc=>?_) fun hc=>?_
 ·refine AO ?_
  try simp only [BJ,BX]
  have hit:j<ln:=by have:=of_decide_eq_true ‹decide ((j:Int)<(ln:Int))=true›;omega
  obtain ⟨q,hq⟩:∃q,(D9 s.os)[j]? = some q:=⟨_,List.getElem?_eq_getElem (by have h2:=congrArg List.length kI;rw [List.length_map] at h2;omega)⟩
  have hlj:l[j]? = some (Yd q):=by rw [kI,List.getElem?_map,hq];rfl
  have hqg:=(GD hI.nd).1 (List.mem_of_getElem? hq)
  have hqs:=(hI.get hqg).slot
  simp only at hqs
  have Yc:=h64 _ (List.mem_of_getElem? hlj)
  have hof:Fa E (Ac (Yd q).h)=(Uo q.2).bs:=by
   have:=hR.ofEq hI hqg
   rw [hqs] at this
   exact this
  have qQ:=kD hrl hlj
  obtain ⟨bo,Zv⟩:∃bo,Yd q=bo:=⟨_,rfl⟩
  have oU:bo.h=q.2.h:=by rw [<-Zv];rfl
  have hbw:bo.ow=q.2.ow:=by rw [<-Zv];rfl
  rw [Zv] at hlj Yc hof qQ
  have htk:(D9 s.os).take (j+1)=(D9 s.os).take j++[q]:=by rw [List.take_add_one,hq];rfl
  have AK_:=kF (l:=l) hrl (by omega)
  refine k1 _ _ ?_
  refine BQ 2 rfl (by omega) fun g DJ hg Bl=>?_
  subst DJ
  simp only [List.eraseIdx_cons_zero,List.eraseIdx_cons_succ,BC,BD,BI,A_,and_true,List.not_mem_nil,or_false,EJ] at Bl hg
  replace hg:=And.intro hg Bl
  clear Bl
  refine AB fun K k1=>?_
  refine Ad ?_
  refine Jk ?_
  refine BR [(true,0),(true,1),(true,2),(true,3),(true,4),(true,5),(true,6),(true,7),(true,8),(true,9),(true,10),(true,11),(true,12),(true,13),(true,14),(true,15),(false,16),(false,17),(true,18),(true,19),(false,20)] [20] CB rfl (by kernel_rfl) (by kernel_rfl) rfl rfl ?_
  refine AR ?_
  refine Aj (BN (m:=1) (i:=j*6+0) (v:=.int .u64 (bo.h:Int)) (AZ (k:=2) rfl) rfl qQ) ?_
  refine AR ?_
  refine Aa (fun w hw=>CU bo.h Yc w) ?_
  refine AR ?_
  refine Cn (fun A n c=>.slice A n c) (fun w hw=>(Jv (JJ.of hw 0 3 rfl rfl (by omega)) (Ac bo.h))) ?_
  intro A1 n1 c1 hl1 hr1
  have hput:=kE (A:=A1) (n:=n1) (c:=c1) (bs:=Fa E (Ac bo.h)) hrl hlj
  refine AR ?_
  refine Aj (EW 3 (i:=j*6+5) (v:=.slice A1 n1 c1) rfl (by omega) (by kernel_rfl) rfl rfl) ?_
  refine Ap hput ?_
  refine k1 _ _ ?_
  refine Cq (.blk b' 159 [.slice (some ⟨sb',0,none⟩) 65 65,.slice (some ⟨g,0,none⟩) ln lc,.slice EA en ec] :: .row (.slice (some ⟨sb',0,none⟩) 65 65) 3 1 65 (CO st) :: .row (.slice (some ⟨g,0,none⟩) ln lc) 105 6 ln (BS (DF++[(⟨bo.h,bo.ow,A1,n1,c1,Fa E (Ac bo.h)⟩:RO)])++BZ (l.drop (j+1))) :: .row (.slice EA en ec) 163 4 en (Au E)::(DF++[(⟨bo.h,bo.ow,A1,n1,c1,Fa E (Ac bo.h)⟩:RO)]).map Dy) (fun w hw=>hw.perm ?_) ?_
  ·rw [List.map_append]
   exact List.perm_append_singleton _ (_::_::_::_::DF.map Dy)
  refine AF rfl ?_
  refine AR ?_
  refine ⟨⟨j+1,DF++[⟨bo.h,bo.ow,A1,n1,c1,Fa E (Ac bo.h)⟩], ?_⟩, ?_⟩
  ·refine Ap @Int.natCast_add ?_
   refine ⟨by omega, ?_⟩
   rw [List.map_append,J4,htk,List.map_append,hof,oU,hbw]
   rfl
  ·simp only [intOf];omega
 refine BM (k0 _ _ ?_)
 have hjn:j=ln:=by have:=of_decide_eq_false ‹decide ((j:Int)<(ln:Int))=false›;omega
 subst hjn
 refine BH ?_
 refine AP (Br fun w hw=>?_)
 rw [List.drop_of_length_le (by omega)] at hw
 have hfull:(D9 s.os).take j=D9 s.os:=List.take_of_length_le (by have h2:=congrArg List.length kI;rw [List.length_map] at h2;omega)
 rw [hfull] at J4
 have hap:BS DF++BZ []=BS DF:=List.append_nil _
 rw [hap] at hw
 refine ⟨some ⟨b',sb',LA,j,lc,EA,en,ec,st,DF,E⟩,rfl,⟨s,_,hrun,J4,hlen▸hR,hlen▸hI,rfl⟩,hw⟩
end Go.Proofs.YtegonkdandmolaaGreat
