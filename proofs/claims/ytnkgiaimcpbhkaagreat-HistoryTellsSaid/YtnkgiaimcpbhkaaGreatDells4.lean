import Derived.Test.YtnkgiaimcpbhkaaGreatDells3
import Derived.Test.YtnkgiaimcpbhkaaGreatDells2
set_option linter.all false
set_option maxRecDepth 100000
set_option maxHeartbeats 4000000
open List renaming nil_append→AR,length_take→Al,length_set→Bt
open Bool renaming false→ο,true→τ
open Go.Ending renaming returned→κ
open Go.IntKind renaming i64→ζ,u64→υ
open Option renaming none→ν,some→σ
open Go.Value renaming bool→θ,int→ε,pointer→π,slice→ξ
namespace Go.Proofs.YtnkgiaimcpbhkaaGreat
open Tryz renaming prog→AGm
open Go.RowKit Go.Shelf
def Qq(l:List Bw)(ob ho:Int)(r:Int)(l':List Bw):Prop:=match holdB l ob ho with
 |none=>r=13
 |some e=>r=0/\(if e.co-1=0 then l'=K6 l ob ho else ∃P Q,WX { e with co:=e.co-1 } (K6 l e.ob e.ho) l' P Q)
def lgV(i:Int×M4):Value:=ε ζ i.1
theorem Pj{l ob ho e}(h:holdB l ob ho=σ e):e∈l/\e.ob=ob/\e.ho=ho:=by
 have h1:=ASy h;have h2:=List.find?_some h;unfold fK at h2;simp only[Au,AT5]at h2;exact⟨h1,h2⟩
def Oa(l:List Bw)(ob ho mo:Int)(r:Int)(l':List Bw):Prop :=
 if NT l ob≠[]/\(mo=2\/((NT l ob).head?.map Bw.mo)=σ 2) then r=14
 else r=0∧∃P Q,WX ⟨ob,ho,mo,((holdB l ob ho).getD Xn).co+1⟩ (K6 l ob ho) l' P Q
structure BO where
 h:Nat
 ow:Int
structure BkR where
 b:Nat
 sb:Nat
 LA:Option Addr
 ln:Nat
 lc:Nat
 EA:Option Addr
 en:Nat
 ec:Nat
 st:List Int
 l:List BO
 E:List Bw
def ADh(l:List BO)(s:Int):Bool:=l.any λo=>decide ((De o.h:Int)=s)
structure ABY(o:BO)(l out P Q:List BO):Prop where
 rest:l=P++Q
 out:out=P++o::Q
 gt:∀q∈Q,De o.h<De q.h
 le:∀p,P.getLast?=σ p->De p.h<=De o.h
def ownB(p:Int)(o:BO):Bool:=decide (o.ow=p)
def ACy(p:Int)(l:List BO)(b:Bw):Bool:=l.any λo=>ownB p o&&decide ((De o.h:Int)=b.ob)
theorem drop_cons{α:Type}{l:List α}{j o}(h:l[j]?=σ o):l.drop j=o::l.drop (j+1):=by
 rw[BV (Ab.1 h).1,(Ab.1 h).2]
def ADN(st:List Int)(e:Gs):Bool:=(decide (1<=e.ar)&&decide (e.ar<=64)&&decide (st[e.ar]?=σ 1)) && !decide ((e.ar:Int)=e.pl)
def ABH(x:BkR)(e:Gs)(o:BO)(m:Int)(r:Bool)(y:BkR):Prop :=
 if (decide (o.ow=e.pl)&&ADN x.st e)=τ then ∃rc,r=decide (rc=0)/\Oa x.E (De o.h) e.ar m rc y.E/\y.l=x.l else r=ο
def ABf(x:BkR)(e:Gs)(i:Nat)(o:BO)(r:Bool)(y:BkR):Prop :=
 if e.op=11 then ∃rc,r=decide (rc=0)/\Qq x.E (De o.h) e.pl rc y.E/\y.l=x.l
 else if e.op=2 then (if (decide (o.ow=e.pl)&&decide (NT x.E (De o.h)=[]))=τ then r=τ/\y.l=x.l.eraseIdx i/\y.E=x.E.filter λb => !decide (b.ob=(De o.h:Int)) else r=ο)
 else if e.op=8 then (if (decide (o.ow=e.pl)&&decide (NT x.E (De o.h)=[])&&ADN x.st e)=τ then r=τ/\y.l=x.l.set i ⟨o.h,e.ar⟩/\y.E=x.E else r=ο)
 else if e.op=9 then ABH x e o 1 r y
 else if e.op=10 then ABH x e o 2 r y
 else r=ο
structure AEU(x:BkR)(e:Gs)(r:Bool)(y:BkR):Prop where
 no:x.l.findIdx? (λo=>decide (o.h=e.h))=ν->r=ο
 yes:∀i o,x.l.findIdx? (λo=>decide (o.h=e.h))=σ i->x.l[i]?=σ o->ABf x e i o r y
 st:y.st=x.st
theorem AEU.of{x e r y i o}(h:x.l.findIdx? (λo=>decide (o.h=e.h))=σ i)(ho:x.l[i]?=σ o)(hr:ABf x e i o r y)(hst:y.st=x.st):AEU x e r y:=⟨λhn=>(by rw[h]at hn;cases hn),λi' o' hi ho'=>(by
 rw[h]at hi;cases hi;rw[ho]at ho';cases ho';exact hr),hst⟩
def K7:=AO (AO @Ac @DT) (AO @KM (AO @cM @Gh.eq_1))
def AA4(x:BkR)(e:Gs)(r:Bool)(y:BkR):Prop :=
 if e.pl<1\/64<e.pl then r=ο
 else if e.op=32 then (if x.st[e.pl.toNat]?=σ 0 then r=τ/\y.st=x.st.set e.pl.toNat 1/\y.l=x.l/\y.E=x.E else r=ο)
 else if ¬x.st[e.pl.toNat]?=σ 1 then r=ο
 else if e.op=33 then r=decide ((x.l.filter (ownB e.pl)).length=e.ar)/\y.st=x.st.set e.pl.toNat 2/\y.l=(x.l.filter λo => !ownB e.pl o)/\y.E=(x.E.filter λb => !decide (b.ho=e.pl)).filter λb => !ACy e.pl x.l b
 else if e.op=1 then (if (decide (0<Mr e.h/\0<eB e.h) && !ADh x.l (De e.h))=τ then r=τ/\y.st=x.st/\(∃P Q,ABY ⟨e.h,e.pl⟩ x.l y.l P Q)/\y.E=x.E else r=ο)
 else AEU x e r y
theorem ABk{α:Type}{R:α->α->Prop}(has:∀a b,R a b→¬R b a):∀ {a b:List α},a.Pairwise R->b.Pairwise R->(∀x,x∈a↔x∈b)->a=b
 |[],[],_,_,_=>rfl
 |[],y::b,_,_,h=>absurd ((h y).2 (.head _)) AUq
 |x::a,[],_,_,h=>absurd ((h x).1 (.head _)) AUq
 | x::a,y::b,ha,hb,h=>by
  obtain⟨a1,a2⟩:=Ak.1 ha;obtain⟨b1,b2⟩:=Ak.1 hb;have irr:∀z,¬R z z:=λz hz=>has z z hz hz;have e:x=y:=by
   rcases AP.1 ((h x).1 (.head _))with e|hx
   ·exact e
   rcases AP.1 ((h y).2 (.head _))with e|hy
   ·exact e.symm
   exact absurd (b1 x hx) (has _ _ (a1 y hy))
  subst e;have e2:a=b:=ABk has a2 b2 λz=>by
   constructor
   ·intro hz;rcases AP.1 ((h z).1 (Bg _ hz))with e|hz'
    ·exact absurd (a1 z hz) (e▸irr z)
    ·exact hz'
   ·intro hz;rcases AP.1 ((h z).2 (Bg _ hz))with e|hz'
    ·exact absurd (b1 z hz) (e▸irr z)
    ·exact hz'
  rw[e2]
theorem AA9{a b} : ltB a b=τ↔a.ob<b.ob\/(a.ob=b.ob/\a.ho<b.ho):=by unfold ltB;simp
theorem AEZ a b(h:ltB a b=τ):¬ltB b a=τ:=by
 rw[AA9]at h ⊢;omega
theorem AGD{a b c}(h:ltB a b=τ)(h2:ltB b c=τ):ltB a c=τ:=by
 rw[AA9]at h h2 ⊢;omega
theorem AFu{a b}(h:ltB a b=ο)(hne:¬(a.ob=b.ob/\a.ho=b.ho)):ltB b a=τ:=by
 have h1:¬ltB a b=τ:=by rw[h];decide
 rw[AA9]at h1 ⊢;omega
theorem AD8{α:Type}{R}(htr:∀a b c,R a b->R b c->R a c){P:List α}(hP:P.Pairwise R){e}(h:∀p,P.getLast?=σ p->R p e):∀p∈P,R p e:=by
 rcases fM P with rfl|⟨P',q,rfl⟩
 ·intro p hp;cases hp
 intro p hp;have hq:R q e:=h q AUq;rcases AV.1 hp with hp|hp
 ·exact htr _ _ _ ((BN.1 hP).2.2 p hp q AUq) hq
 ·have:p=q:=by simpa using hp
  exact this▸hq
theorem WX.mem{e rest out P Q}(h:WX e rest out P Q)b:b∈out↔b=e\/b∈rest:=by
 rw[h.out,h.rest];simp only[AV,AP];constructor
 ·exact AWU
 ·exact AWU
theorem WX.len{e rest out P Q}(h:WX e rest out P Q):out.length=rest.length+1:=by
 rw[h.out,h.rest];simp;omega
theorem WX.srt{e rest out P Q}(h:WX e rest out P Q)(hs:rest.Pairwise λa b=>ltB a b=τ)(hne:∀b∈rest,¬(b.ob=e.ob/\b.ho=e.ho)):out.Pairwise λa b=>ltB a b=τ:=by
 have h1:=h.rest;rw[h1]at hs hne;obtain⟨s1,s2,s3⟩:=BN.1 hs;have hp:∀p∈P,ltB p e=τ:=AD8 (R:=λa b=>ltB a b=τ) (λa b c=>AGD) s1 h.lt;have hq:∀q∈Q,ltB e q=τ:=λq hq=>AFu (h.gt q hq) (hne q (ATe _ hq));rw[h.out];refine BN.2 ⟨s1,Ak.2 ⟨hq,s2⟩,λa ha b hb=>?_⟩;rcases AP.1 hb with rfl|hb
 ·exact hp a ha
 ·exact s3 a ha b hb
theorem AA6{l ob ho b} : b∈K6 l ob ho↔b∈l∧¬(b.ob=ob/\b.ho=ho):=by
 unfold K6 fK;rw[Bl,CJ,<-Bool.not_eq_true,Au,AT5,AT5]
theorem ABY.mem{o l out P Q}(h:ABY o l out P Q)b:b∈out↔b=o\/b∈l:=by
 rw[h.out,h.rest];simp only[AV,AP];constructor
 ·exact AWU
 ·exact AWU
theorem ABY.srt{o l out P Q}(h:ABY o l out P Q)(hs:l.Pairwise λa b=>De a.h<De b.h)(hne:∀b∈l,De b.h≠De o.h):out.Pairwise λa b=>De a.h<De b.h:=by
 have h1:=h.rest;rw[h1]at hs hne;obtain⟨s1,s2,s3⟩:=BN.1 hs;have hp:∀p∈P,De p.h<De o.h:=AD8 (R:=λa b=>De a.h<De b.h) (λa b c=>Nat.lt_trans) s1 λp hp=>AH9 (h.le p hp) (hne p (ATE _ (List.mem_of_getLast? hp)));rw[h.out];refine BN.2 ⟨s1,Ak.2 ⟨h.gt,s2⟩,λa ha b hb=>?_⟩;rcases AP.1 hb with rfl|hb
 ·exact hp a ha
 ·exact s3 a ha b hb
def stI:Option Bool->Int
 |none=>0
 |some τ=>1
 |some ο=>2
structure RelB(k:Nat)(s:HS)(x:BkR):Prop where
 sl:x.st.length=65
 st:∀p:Int,1<=p->p<=64->x.st[p.toNat]?=σ (stI (Er s.sd p))
 lS:x.l.Pairwise λa b=>De a.h<De b.h
 lM:∀b,b∈x.l↔∃o,Er s.os (De b.h)=σ o/\o.h=b.h/\o.ow=b.ow
 eS:x.E.Pairwise λa b=>ltB a b=τ
 eM:∀b,b∈x.E↔∃o,Er s.os b.ob=σ o/\Er o.cs b.ho=σ b.co/\b.mo=o.mo
 eL:x.E.length<=k
section
variable{k:Nat}{s:HS}{x:BkR}
theorem RelB.up(h:RelB k s x):RelB (k+1) s x:=⟨h.sl,h.st,h.lS,h.lM,h.eS,h.eM,AHL h.eL⟩
theorem RelB.hold(h:RelB k s x)ob ho:holdB x.E ob ho=(Er s.os ob).bind λo=>(Er o.cs ho).map λc=>⟨ob,ho,o.mo,c⟩:=by
 cases hh:holdB x.E ob ho with
 | some b =>
  obtain⟨h1,h2,h3⟩:=Pj hh;obtain⟨o,g1,g2,g3⟩:=(h.eM b).1 h1;rw[h2]at g1;rw[h3]at g2;obtain⟨b1,b2,b3,b4⟩:=b;dsimp only at h2 h3 g2 g3;subst h2 h3 g3;rw[g1];simp[g2]
 | none =>
  cases g1:Er s.os ob with
  |none=>rfl
  | some o =>
   cases g2:Er o.cs ho with
   |none=>simp[g2]
   | some c =>
    have:=(h.eM ⟨ob,ho,o.mo,c⟩).2 ⟨o,g1,g2,rfl⟩;unfold holdB at hh;rw[ATo]at hh;exact absurd (hh _ this) (by simp[fK])
theorem RelB.of_nil(h:RelB k s x){ob o}(ho:Er s.os ob=σ o):NT x.E ob=[]↔o.cs=[]:=by
 constructor
 ·intro he;cases hc:o.cs with
  |nil=>rfl
  | cons c cs =>
   have:(⟨ob,c.1,o.mo,c.2⟩:Bw)∈NT x.E ob:=Bl.2 ⟨(h.eM _).2 ⟨o,ho,by rw[hc];simp[Er],rfl⟩,by simp⟩;rw[he]at this;cases this
 ·intro he;cases hE:NT x.E ob with
  |nil=>rfl
  | cons b l =>
   have hb:b∈NT x.E ob:=by rw[hE];exact .head _
   obtain⟨b1,b2⟩:=Bl.1 hb;obtain⟨o',g1,g2,-⟩:=(h.eM b).1 b1;have:b.ob=ob:=by simpa using b2
   rw[this,ho]at g1;cases g1;rw[he]at g2;cases g2
theorem RelB.AD9(h:RelB k s x){ob o}(ho:Er s.os ob=σ o)(hne:NT x.E ob≠[]):(NT x.E ob).head?.map Bw.mo=σ o.mo:=by
 cases hE:NT x.E ob with
 |nil=>exact absurd hE hne
 | cons b l =>
  have hb:b∈NT x.E ob:=by rw[hE];exact .head _
  obtain⟨b1,b2⟩:=Bl.1 hb;obtain⟨o',g1,g2,g3⟩:=(h.eM b).1 b1;have:b.ob=ob:=by simpa using b2
  rw[this,ho]at g1;cases g1;simp[g3]
theorem RelB.find(h:RelB k s x)(hI:Nr k s)(e:Gs):(x.l.findIdx? (λo=>decide (o.h=e.h))=ν/\Uf s e.h=ν) ∨
  ∃i b o,x.l.findIdx? (λo=>decide (o.h=e.h))=σ i/\x.l[i]?=σ b/\b.h=e.h/\Uf s e.h=σ o/\Er s.os (De e.h)=σ o/\o.h=e.h/\o.ow=b.ow:=by
 cases hf:x.l.findIdx? (λo=>decide (o.h=e.h))with
 | none =>
  refine .inl ⟨rfl,?_⟩;rw[AHE]at hf;cases ho:Uf s e.h with
  |none=>rfl
  | some o =>
   obtain⟨g1,g2⟩:=Yj ho;have:=hf ⟨o.h,o.ow⟩ ((h.lM _).2 ⟨o,by rw[g2];exact g1,rfl,rfl⟩);simp[g2]at this
 | some i =>
  obtain⟨h1,h2,-⟩:=AG9.1 hf;have h3:(x.l[i]).h=e.h:=by simpa using h2
  obtain⟨o,g1,g2,g3⟩:=(h.lM x.l[i]).1 (Cf h1);rw[h3]at g1 g2;exact .inr ⟨i,x.l[i],o,rfl,AQ h1,h3,by unfold Uf;rw[g1];simp[g2],g1,g2,g3⟩
end
def ABJ(os:List (Int×Ob))(E:List Bw):Prop := ∀b,b∈E↔∃o,Er os b.ob=σ o/\Er o.cs b.ho=σ b.co/\b.mo=o.mo
def AEh(os:List (Int×Ob))(l:List BO):Prop := ∀b,b∈l↔∃o,Er os (De b.h)=σ o/\o.h=b.h/\o.ow=b.ow
theorem AEh.set{os l sl o o'}(hM:AEh os l)(hg:Er os sl=σ o)(hh:o'.h=o.h)(hw:o'.ow=o.ow):AEh (FY os sl o') l:=λb=>by
 rw[hM b,MJ];by_cases e:(De b.h:Int)=sl
 ·rw[ATv e,e,hg];simp[hh,hw]
 ·rw[ATt e]
theorem ABJ.put{os E E' sl q m c' o o'}(hM:ABJ os E)(hg:Er os sl=σ o)(hcs:o'.cs=FY o.cs q c')(hm:o'.mo=m)(hmo:m=o.mo\/o.cs=[])
  (hE:∀b,b∈E'↔b=⟨sl,q,m,c'⟩\/(b∈E∧¬(b.ob=sl/\b.ho=q))):ABJ (FY os sl o') E':=λb=>by
 rw[hE b,hM b,MJ];by_cases e1:b.ob=sl
 ·rw[ATv e1,e1,hg];simp only[Bn,AIO,AT1];rw[hcs,MJ,hm];by_cases e2:b.ho=q
  ·rw[ATv e2];constructor
   ·rintro(rfl|⟨-,h⟩)
    ·exact AWh
    ·exact absurd e2 h
   ·rintro⟨h1,h2⟩;refine .inl ?_;obtain⟨b1,b2,b3,b4⟩:=b;dsimp only at e1 e2 h1 h2;cases h1;rw[e1,e2,h2]
  ·rw[ATt e2];constructor
   ·rintro(rfl|⟨⟨h1,h2⟩,-⟩)
    ·exact absurd rfl e2
    ·rcases hmo with hmo|hmo
     ·exact⟨h1,hmo▸h2⟩
     ·rw[hmo]at h1;cases h1
   ·rintro⟨h1,h2⟩;rcases hmo with hmo|hmo
    ·exact .inr ⟨⟨h1,hmo▸h2⟩,e2⟩
    ·rw[hmo]at h1;cases h1
 ·rw[ATt e1];constructor
  ·rintro(rfl|⟨h,-⟩)
   ·exact absurd rfl e1
   ·exact h
  ·exact λh=>.inr ⟨h,λh'=>e1 h'.1⟩
theorem ABJ.del{os E E' sl q o o'}(hM:ABJ os E)(hg:Er os sl=σ o)(hn:(keys o.cs).Nodup)(hcs:o'.cs=IK o.cs q)(hm:o'.mo=o.mo)
  (hE:∀b,b∈E'↔(b∈E∧¬(b.ob=sl/\b.ho=q))):ABJ (FY os sl o') E':=λb=>by
 rw[hE b,hM b,MJ];by_cases e1:b.ob=sl
 ·rw[ATv e1,e1,hg];simp only[Bn,AIO,AT1];rw[hcs,AA5 hn,hm];by_cases e2:b.ho=q
  ·rw[ATv e2];constructor
   ·rintro⟨-,h⟩;exact absurd e2 h
   ·rintro⟨h,-⟩;cases h
  ·rw[ATt e2];exact⟨λh=>h.1,λh=>⟨h,e2⟩⟩
 ·rw[ATt e1];exact⟨λh=>h.1,λh=>⟨h,λh'=>e1 h'.1⟩⟩
theorem ABJ.same{os E sl o o'}(hM:ABJ os E)(hg:Er os sl=σ o)(hcs:o'.cs=o.cs)(hm:o'.mo=o.mo):ABJ (FY os sl o') E:=λb=>by
 rw[hM b,MJ];by_cases e1:b.ob=sl
 ·rw[ATv e1,e1,hg];simp[hcs,hm]
 ·rw[ATt e1]
section
variable{k:Nat}{s:HS}{x:BkR}{e:Gs}
theorem AFw o:stI o=1↔o=σ τ:=by
 cases o with
 |none=>simp[stI]
 |some b=>cases b<;>simp[stI]
theorem RelB.alv(h:RelB k s x){p}(h1:1<=p)(h2:p<=64):x.st[p.toNat]?=σ 1↔alive s p=τ:=by
 rw[h.st p h1 h2,Bn,AFw];unfold alive;cases Er s.sd p with
 |none=>simp
 |some b=>simp
theorem RelB.oth(h:RelB k s x)(hI:Nr k s):ADN x.st e=X4 s e:=by
 rw[Cs];unfold ADN X4;simp only[Au,AT5,CJ,AUA];constructor
 ·rintro⟨⟨⟨h1,h2⟩,h3⟩,h4⟩;exact⟨⟨h2,h4⟩,(h.alv (p:=e.ar) AL AL).1 h3⟩
 ·rintro⟨⟨h2,h4⟩,h5⟩;have h1:=(hI.alv _ h5).1;exact⟨⟨⟨by omega,h2⟩,(h.alv (p:=e.ar) AL AL).2 h5⟩,h4⟩
theorem RelB.AGE(h:RelB k s x){ob ho o}(hg:Er s.os ob=σ o):((holdB x.E ob ho).getD Xn).co=(Er o.cs ho).getD 0:=by
 rw[h.hold,hg];cases hc:Er o.cs ho with
 |none=>simp[hc];rfl
 |some c=>simp[hc]
theorem RelB.rel{b:BO}{o rc y}(h:RelB k s x)(hI:Nr k s)(hh:b.h=e.h)(hg:Er s.os (De e.h)=σ o)
  (hst:y.st=x.st) (hl:y.l=x.l) (hT:Qq x.E (De b.h) e.pl rc y.E):
  decide (rc=0)=(ABe s e o).isSome∧∀s',ABe s e o=σ s'→RelB (k+1) s' y:=by
 have U7:=hI.get hg;rw[hh]at hT;unfold Qq at hT;rw[h.hold,hg]at hT;unfold ABe;cases hc:Er o.cs e.pl with
 | none =>
  simp[hc]at hT;subst hT;simp
 | some c =>
  have hc1:=U7.cnt _ (J4 hc);simp only at hc1;simp only[ATT,hc,Cr]at hT;obtain⟨rfl,hT⟩:=hT;have hc0:¬c=0:=by omega
  simp only[Ce,hc0,ATz];refine⟨rfl,λs' hs=>?_⟩;injection hs with hs;subst hs;have hlen:y.E.length<=k+1:=by
   have h1:(K6 x.E (De e.h) e.pl).length<=x.E.length:=Ap _ _;have h2:=h.eL;split at hT
   ·rw[hT];omega
   ·obtain⟨P,Q,hP⟩:=hT;rw[hP.len];omega
  have hsrt:y.E.Pairwise λa b=>ltB a b=τ:=by
   split at hT
   ·rw[hT];exact h.eS.sublist AGp
   ·obtain⟨P,Q,hP⟩:=hT;exact hP.srt (h.eS.sublist AGp) λb hb=>(AA6.1 hb).2
  refine⟨by rw[hst];exact h.sl,by rw[hst];exact h.st,by rw[hl];exact h.lS,by rw[hl];exact AEh.set h.lM hg rfl rfl,hsrt,?_,hlen⟩;split at hT
  ·rename_i h0;refine ABJ.del (o':=eD o e.pl) h.eM hg U7.nd ?_ rfl λb=>by rw[hT];exact AA6
   unfold eD;rw[hc];simp[h0]
  ·rename_i h0;obtain⟨P,Q,hP⟩:=hT;refine ABJ.put (o':=eD o e.pl) (m:=o.mo) (c':=c-1) h.eM hg ?_ rfl (.inl rfl) λb=>by rw[hP.mem];rw[AA6]
   unfold eD;rw[hc];simp[h0]
theorem RelB.rP{b o m r y}(h:RelB k s x)(hI:Nr k s)(hm:m=1\/m=2)(hh:b.h=e.h)(hw:o.ow=b.ow)(hg:Er s.os (De e.h)=σ o)
  (hst:y.st=x.st) (hT:ABH x e b m r y):
  r=(Ug s e o m).isSome∧∀s',Ug s e o m=σ s'→RelB (k+1) s' y:=by
 have U7:=hI.get hg;unfold ABH at hT;rw[h.oth hI,hh]at hT;unfold Ug;rw[hw.symm]at hT;cases hoo:(decide (o.ow=e.pl)&&X4 s e)with
 | false =>
  rw[hoo,ATt AJ]at hT;have hb:AA3 s e o m=ο:=by
   unfold AA3;rw[AIA (X4 s e),hoo];rfl
  rw[hb,hT];simp
 | true =>
  rw[hoo,ATv rfl]at hT;obtain⟨rc,rfl,hT,hl⟩:=hT;have hb:AA3 s e o m=(decide (o.cs=[])||(!decide (m=2) && !decide (o.mo=2))):=by
   unfold AA3;rw[AIA (X4 s e),hoo];rfl
  unfold Oa at hT;have hco:=h.AGE (ho:=e.ar) hg;rw[hco]at hT;have hcond:(NT x.E (De e.h)≠[]/\(m=2\/(NT x.E (De e.h)).head?.map Bw.mo=σ 2))↔AA3 s e o m=ο:=by
   rw[hb];constructor
   ·rintro⟨h1,h2⟩;have hcs:¬o.cs=[]:=λh0=>h1 ((h.of_nil hg).2 h0);rw[h.AD9 hg h1,Bn]at h2;rcases h2 with h2|h2<;>simp[hcs,h2]
   ·intro h2;simp only[ASe,AUA]at h2;have h1:NT x.E (De e.h)≠[]:=λh0=>h2.1 ((h.of_nil hg).1 h0);refine⟨h1,?_⟩;rw[h.AD9 hg h1,Bn];by_cases hm2:m=2
    ·exact .inl hm2
    ·refine .inr ?_;simpa [hm2]using h2.2
  cases hlb:AA3 s e o m with
  | false =>
   rw[ATv (hcond.2 hlb)]at hT;subst hT;simp
  | true =>
   rw[ATt (λhc=>by rw[hcond.1 hc]at hlb;cases hlb)]at hT;obtain⟨rfl,P,Q,hP⟩:=hT;simp only[ATx];refine⟨rfl,λs' hs=>?_⟩;injection hs with hs;subst hs;have hlen:y.E.length<=k+1:=by
    have h1:(K6 x.E (De e.h) e.ar).length<=x.E.length:=Ap _ _;have h2:=h.eL;rw[hP.len];omega
   refine⟨by rw[hst];exact h.sl,by rw[hst];exact h.st,by rw[hl];exact h.lS,by rw[hl];exact AEh.set h.lM hg rfl rfl,hP.srt (h.eS.sublist AGp) λb hb=>(AA6.1 hb).2,?_,hlen⟩;refine ABJ.put (o':=oJ o e.ar m) (m:=m) (c':=(Er o.cs e.ar).getD 0+1) h.eM hg rfl rfl ?_ λb=>by rw[hP.mem];rw[AA6]
   by_cases hcs:o.cs=[]
   ·exact .inr hcs
   ·refine .inl ?_;rw[hb]at hlb;simp only[hcs,AUc,ATR,Au,CJ,AUA]at hlb;rcases U7.mode hcs with h1|h1
    ·simp only at h1;omega
    ·exact absurd h1 hlb.2
end
theorem ABn{α:Type}{l i}{o:α}(h:l[i]?=σ o):l=l.take i++o::l.drop (i+1):=by
 conv=>lhs;rw[<-List.take_append_drop i l]
 rw[drop_cons h]
theorem ADi{α:Type}{l:List α}{i} : l.eraseIdx i=l.take i++l.drop (i+1):=List.eraseIdx_eq_take_drop_succ ..
theorem ACz{α:Type}{l:List α}{i o}(h:l[i]?=σ o)v:l.set i v=l.take i++v::l.drop (i+1):=by
 have:=(Ab.1 h).1;rw[Bz,ATv this]
abbrev AA7(l:List BO):Prop:=l.Pairwise λa b=>De a.h<De b.h
theorem AC6{A B o}(h:AA7 (A++o::B)):∀b,b∈A\/b∈B->De b.h≠De o.h:=by
 obtain⟨h1,h2,h3⟩:=BN.1 h;obtain⟨h4,-⟩:=Ak.1 h2;rintro b (hb|hb)
 ·exact Nat.ne_of_lt (h3 b hb o (.head _))
 ·exact Nat.ne_of_gt (h4 b hb)
theorem ADB{l i o}(h:l[i]?=σ o)(hs:AA7 l)b:b∈l.eraseIdx i↔b∈l/\De b.h≠De o.h:=by
 have e:=ABn h;have hs':=hs;rw[e]at hs';have ha:=AC6 hs';rw[ADi]
 conv=>rhs;rw[e]
 simp only[AV,AP];constructor
 ·intro hb;exact⟨hb.imp id .inr,ha b hb⟩
 ·rintro⟨hb|rfl|hb,hn⟩
  ·exact .inl hb
  ·exact absurd rfl hn
  ·exact .inr hb
theorem AEA{l i o v}(h:l[i]?=σ o)(hs:AA7 l)b:b∈l.set i v↔b=v\/(b∈l/\De b.h≠De o.h):=by
 have e:=ABn h;have hs':=hs;rw[e]at hs';have ha:=AC6 hs';rw[ACz h]
 conv=>rhs;rw[e]
 simp only[AV,AP];constructor
 ·rintro(hb|rfl|hb)
  ·exact .inr ⟨.inl hb,ha b (.inl hb)⟩
  ·exact .inl rfl
  ·exact .inr ⟨.inr (.inr hb),ha b (.inr hb)⟩
 ·rintro(rfl|⟨hb|rfl|hb,hn⟩)
  ·exact .inr (.inl rfl)
  ·exact .inl hb
  ·exact absurd rfl hn
  ·exact .inr (.inr hb)
theorem AEB{l i o v}(h:l[i]?=σ o)(hs:AA7 l)(hv:De v.h=De o.h):AA7 (l.set i v):=by
 have e:=ABn h;rw[ACz h];rw[e]at hs;obtain⟨h1,h2,h3⟩:=BN.1 hs;obtain⟨h4,h5⟩:=Ak.1 h2;refine BN.2 ⟨h1,Ak.2 ⟨λb hb=>by rw[hv];exact h4 b hb,h5⟩,λa ha b hb=>?_⟩;rcases AP.1 hb with rfl|hb
 ·rw[hv];exact h3 a ha o (.head _)
 ·exact h3 a ha b (Bg _ hb)
section
variable{k:Nat}{s:HS}{x:BkR}{e:Gs}
theorem RelB.free{b o i y}(h:RelB k s x)(hI:Nr k s)(hb:x.l[i]?=σ b)(hh:b.h=e.h)(hg:Er s.os (De e.h)=σ o)
  (hst:y.st=x.st) (hl:y.l=x.l.eraseIdx i) (hE:y.E=x.E.filter λc => !decide (c.ob=(De b.h:Int))):RelB (k+1) { s with os:=IK s.os (De e.h) } y:=by
 refine⟨by rw[hst];exact h.sl,by rw[hst];exact h.st,by rw[hl];exact h.lS.sublist (List.eraseIdx_sublist ..),λc=>?_,by rw[hE];exact h.eS.sublist AGp,λc=>?_,by rw[hE];exact AGn (Ap _ _) (AHL h.eL)⟩
 ·rw[hl,ADB hb h.lS,h.lM c,AA5 hI.nd,hh];by_cases e1:De c.h=De e.h
  ·rw[ATv (by rw[e1])];simp[e1]
  ·rw[ATt (λh'=>e1 (AH3.1 h'))];simp[e1]
 ·rw[hE,Bl,h.eM c,AA5 hI.nd,hh];by_cases e1:c.ob=De e.h
  ·rw[ATv e1];simp[e1]
  ·rw[ATt e1];simp[e1]
theorem RelB.trans{b o i y}(h:RelB k s x)(hI:Nr k s)(hb:x.l[i]?=σ b)(hh:b.h=e.h)(hg:Er s.os (De e.h)=σ o)(hoh:o.h=e.h)
  (hst:y.st=x.st) (hl:y.l=x.l.set i ⟨b.h,e.ar⟩) (hE:y.E=x.E):RelB (k+1) { s with os:=FY s.os (De e.h) { o with ow:=e.ar } } y:=by
 refine⟨by rw[hst];exact h.sl,by rw[hst];exact h.st,by rw[hl];exact AEB hb h.lS rfl,λc=>?_,by rw[hE];exact h.eS,by rw[hE];exact ABJ.same h.eM hg rfl rfl,by rw[hE];exact AHL h.eL⟩;rw[hl,AEA hb h.lS,h.lM c,MJ,hh];by_cases e1:De c.h=De e.h
 ·rw[ATv (by rw[e1])];obtain⟨c1,c2⟩:=c;simp only[BO.mk.injEq,Bn,AIO,hoh,e1,ne_eq,ATy,AIL,AT7];exact AIZ
 ·rw[ATt (λh'=>e1 (AH3.1 h'))];simp only[ne_eq,e1,ATw,and_true,or_iff_right_iff_imp];rintro rfl;exact absurd rfl e1
theorem RelB.busy(h:RelB k s x)(hI:Nr k s)sl:ADh x.l sl=ο↔Er s.os sl=ν:=by
 unfold ADh;rw[AHr];constructor
 ·intro h1;cases hg:Er s.os sl with
  |none=>rfl
  | some o =>
   have hsl:=(hI.get hg).slot;simp only at hsl;refine absurd ?_ (h1 ⟨o.h,o.ow⟩ ((h.lM _).2 ⟨o,?_,rfl,rfl⟩))
   ·simpa using hsl.symm
   ·rw[<-hsl];exact hg
 ·intro h1 b hb;obtain⟨o,g1,-⟩:=(h.lM b).1 hb;simp only[AT5];intro e1;rw[e1,h1]at g1;cases g1
theorem RelB.alloc{y P Q}(h:RelB k s x)(hI:Nr k s)(hg:Er s.os (De e.h)=ν)
  (hst:y.st=x.st) (hl:ABY ⟨e.h,e.pl⟩ x.l y.l P Q) (hE:y.E=x.E):RelB (k+1) { s with os:=FY s.os (De e.h) ⟨e.h,e.pl,0,[]⟩ } y:=by
 have hbz:=(h.busy hI _).2 hg;unfold ADh at hbz;rw[AHr]at hbz;refine⟨by rw[hst];exact h.sl,by rw[hst];exact h.st,hl.srt h.lS λb hb hs=>hbz b hb (AUB (AH3.2 hs)),λc=>?_,by rw[hE];exact h.eS,λc=>?_,by rw[hE];exact AHL h.eL⟩
 ·rw[hl.mem,h.lM c,MJ];by_cases e1:De c.h=De e.h
  ·rw[ATv (by rw[e1]),e1,hg];obtain⟨c1,c2⟩:=c;simp only[BO.mk.injEq,Bn,AIO,reduceCtorEq,AIK,exists_false,AT7];exact AIZ
  ·rw[ATt (λh'=>e1 (AH3.1 h'))];refine or_iff_right ?_;rintro rfl;exact e1 rfl
 ·rw[hE,h.eM c,MJ];by_cases e1:c.ob=De e.h
  ·rw[ATv e1,e1,hg];simp[Er]
  ·rw[ATt e1]
theorem ADC{os}(hn:(keys os).Nodup)p j:Er (WK p os) j=(Er os j).bind λo=>if o.ow=p then ν else σ { o with cs:=IK o.cs p } := by
 have e:WK p os=Em (λo => { o with cs:=IK o.cs p }) (os.filter λq=>decide (¬q.2.ow=p)):=rfl;rw[e,Ka,ABK hn];cases Er os j with
 |none=>rfl
 |some o=>by_cases h:o.ow=p<;>simp[h]
theorem sH{α:Type}{l:List (Int×α)}(hn:(keys l).Nodup):(JC l).Perm l:=by
 have nd:∀ {l:List (Int×α)},(keys l).Nodup->l.Nodup:=fun {l} h=>(AG2.1 h).imp fun {a b} hne he=>hne (AT4 _ he);refine(List.perm_ext_iff_of_nodup (nd (Pf hn).nodup) (nd hn)).2 λq=>?_;constructor
 ·intro hq;have:=R8 (Pf hn).nodup hq;rw[R_ hn]at this;exact J4 this
 ·intro hq;have:=R8 hn hq;rw[<-R_ hn]at this;exact J4 this
def AEj(q:Int×Ob):BO:=⟨q.2.h,q.2.ow⟩
theorem AA0{α:Type}{l}(hn:(keys l).Nodup){q:Int×α} : q∈JC l↔Er l q.1=σ q.2:=by
 rw[(sH hn).mem_iff];exact⟨λh=>R8 hn h,λh=>J4 h⟩
theorem RelB.AGF(h:RelB k s x)(hI:Nr k s):x.l=(JC s.os).map AEj:=by
 refine ABk (R:=λa b=>De a.h<De b.h) (λa b h1 h2=>by omega) h.lS ?_ λb=>?_
 ·rw[AG2];have h1:=Pf hI.nd;unfold Srt keys at h1;rw[AG2]at h1;refine h1.imp_of_mem fun {a b} ha hb hab=>?_;have h2:=(hI.obj a ((sH hI.nd).mem_iff.1 ha)).slot;have h3:=(hI.obj b ((sH hI.nd).mem_iff.1 hb)).slot;unfold AEj;simp only;omega
 ·rw[h.lM,BL];constructor
  ·rintro⟨o,h1,h2,h3⟩;exact⟨(De b.h,o),(AA0 hI.nd).2 h1,by unfold AEj;simp only[h2,h3]⟩
  ·rintro⟨q,h1,rfl⟩;have h2:=(hI.obj q ((sH hI.nd).mem_iff.1 h1)).slot;exact⟨q.2,by unfold AEj;simp only;rw[<-h2];exact(AA0 hI.nd).1 h1,rfl,rfl⟩
theorem RelB.len(h:RelB k s x)(hI:Nr k s):x.l.length<=k:=by
 rw[h.AGF hI,BF,(sH hI.nd).length_eq];exact hI.len
theorem RelB.count(h:RelB k s x)(hI:Nr k s)p:(x.l.filter (ownB p)).length=ABd p s.os:=by
 rw[h.AGF hI,AHa,BF];exact((sH hI.nd).filter _).length_eq
theorem RelB.end{y}(h:RelB k s x)(hI:Nr k s)(hp:1<=e.pl/\e.pl<=64)(hst:y.st=x.st.set e.pl.toNat 2)(hl:y.l=x.l.filter λo => !ownB e.pl o)
  (hE:y.E=(x.E.filter λb => !decide (b.ho=e.pl)).filter λb => !ACy e.pl x.l b):RelB (k+1) { sd:=FY s.sd e.pl ο,os:=WK e.pl s.os } y:=by
 refine⟨by rw[hst,Bt];exact h.sl,λp h1 h2=>?_,by rw[hl];exact h.lS.sublist AGp,λc=>?_,by rw[hE];exact(h.eS.sublist AGp).sublist AGp,λc=>?_,by rw[hE];exact AGn (Ap _ _) (AGn (Ap _ _) (AHL h.eL))⟩
 ·rw[hst,MJ];by_cases e1:p=e.pl
  ·rw[ATv e1,e1,CY (by have:=h.sl;omega)];rfl
  ·rw[ATt e1,CX AL];exact h.st p h1 h2
 ·rw[hl,Bl,h.lM c,ADC hI.nd];constructor
  ·rintro⟨⟨o,g1,g2,g3⟩,g4⟩;have hn:¬o.ow=e.pl:=by rw[g3];unfold ownB at g4;simpa using g4
   exact⟨{ o with cs:=IK o.cs e.pl },by rw[g1];simp[hn],g2,g3⟩
  ·rintro⟨o',g1,g2,g3⟩;cases g0:Er s.os (De c.h)with
   |none=>rw[g0]at g1;cases g1
   | some o =>
    rw[g0]at g1;simp only[ATT]at g1;split at g1
    ·cases g1
    ·rename_i hn;injection g1 with g1;subst g1;exact⟨⟨o,rfl,g2,g3⟩,by unfold ownB;simp only at g3;rw[g3]at hn;simpa using hn⟩
 ·have AF_:∀o,Er s.os c.ob=σ o->(ACy e.pl x.l c=τ↔o.ow=e.pl):=λo ho=>by
   unfold ACy;rw[AHh];constructor
   ·rintro⟨b,hb,hb2⟩;simp only[ownB,Au,AT5]at hb2;obtain⟨o',g1,g2,g3⟩:=(h.lM b).1 hb;rw[hb2.2,ho]at g1;cases g1;rw[g3];exact hb2.1
   ·intro how;have hsl:=(hI.get ho).slot;simp only at hsl;exact⟨⟨o.h,o.ow⟩,(h.lM _).2 ⟨o,by rw[<-hsl];exact ho,rfl,rfl⟩,by simp[ownB,how,hsl]⟩
  rw[hE,Bl,Bl,h.eM c,ADC hI.nd];constructor
  ·rintro⟨⟨⟨o,g1,g2,g3⟩,g4⟩,g5⟩;have hn:¬o.ow=e.pl:=λhw=>by rw[(AF_ o g1).2 hw]at g5;cases g5
   have hho:¬c.ho=e.pl:=by simpa using g4
   exact⟨{ o with cs:=IK o.cs e.pl },by rw[g1];simp[hn],by rw[AA5 (hI.get g1).nd,ATt hho];exact g2,g3⟩
  ·rintro⟨o',g1,g2,g3⟩;cases g0:Er s.os c.ob with
   |none=>rw[g0]at g1;cases g1
   | some o =>
    rw[g0]at g1;simp only[ATT]at g1;split at g1
    ·cases g1
    ·rename_i hn;injection g1 with g1;subst g1;simp only at g2 g3;rw[AA5 (hI.get g0).nd]at g2;split at g2
     ·cases g2
     ·rename_i hho;refine⟨⟨⟨o,rfl,g2,g3⟩,by simpa using hho⟩,?_⟩;cases hgb:ACy e.pl x.l c with
      |false=>rfl
      |true=>exact absurd ((AF_ o g0).1 hgb) hn
theorem RelB.start{y}(h:RelB k s x)(hp:1<=e.pl/\e.pl<=64)(hst:y.st=x.st.set e.pl.toNat 1)(hl:y.l=x.l)(hE:y.E=x.E):RelB (k+1) { s with sd:=FY s.sd e.pl τ } y:=by
 refine⟨by rw[hst,Bt];exact h.sl,λp h1 h2=>?_,by rw[hl];exact h.lS,by rw[hl];exact h.lM,by rw[hE];exact h.eS,by rw[hE];exact h.eM,by rw[hE];exact AHL h.eL⟩;rw[hst,MJ];by_cases e1:p=e.pl
 ·rw[ATv e1,e1,CY (by have:=h.sl;omega)];rfl
 ·rw[ATt e1,CX AL];exact h.st p h1 h2
theorem RelB.step{r y}(h:RelB k s x)(hI:Nr k s)(hsk:Td e=ο)(hT:AA4 x e r y):
  r=(Jk s e).isSome∧∀s',Jk s e=σ s'→RelB (k+1) s' y:=by
 have no:∀ {o:Option HS},o=ν->r=ο->r=o.isSome∧∀s',o=σ s'→RelB (k+1) s' y:=λho hr=>by rw[ho,hr];exact⟨rfl,λs' hs=>by cases hs⟩
 have yes:∀ {o:Option HS} {s1:HS},o=σ s1->r=τ->RelB (k+1) s1 y->r=o.isSome∧∀s',o=σ s'→RelB (k+1) s' y:=λho hr hrel=>by
  rw[ho,hr];exact⟨rfl,λs' hs=>by cases hs;exact hrel⟩
 unfold Jk;unfold AA4 at hT;rw[hsk,ATt AUK];by_cases hpl:e.pl<1\/64<e.pl
 ·rw[ATv hpl]at hT ⊢;exact no rfl hT
 rw[ATt hpl]at hT ⊢;have hp:1<=e.pl/\e.pl<=64:=by omega
 by_cases h32:e.op=32
 ·rw[ATv h32]at hT ⊢;have hs:=h.st e.pl hp.1 hp.2;unfold WJ;cases hk:Er s.sd e.pl with
  | none =>
   rw[hk]at hs;rw[ATv (show x.st[e.pl.toNat]?=σ 0 from hs)]at hT;exact yes rfl hT.1 (h.start hp hT.2.1 hT.2.2.1 hT.2.2.2)
  | some b =>
   rw[hk]at hs;rw[ATt (λh0=>by rw[hs]at h0;cases b<;>simp[stI]at h0)]at hT;exact no rfl hT
 rw[ATt h32]at hT ⊢;have hal:=h.alv hp.1 hp.2;cases hav:alive s e.pl with
 | false =>
  rw[ATv (λh0=>by rw[hal.1 h0]at hav;cases hav)]at hT;rw[ATv rfl];exact no rfl hT
 |true =>
 rw[ATt (λh0=>h0 (hal.2 hav))]at hT;rw[ATt AJ];by_cases h33:e.op=33
 ·rw[ATv h33]at hT ⊢;obtain⟨hr,h1,h2,h3⟩:=hT;rw[h.count hI]at hr;unfold xH;by_cases hc:ABd e.pl s.os=e.ar
  ·rw[ATv hc];exact yes rfl (by rw[hr];exact AUB hc) (h.end hI hp h1 h2 h3)
  ·rw[ATt hc];exact no rfl (by rw[hr];exact AUC hc)
 rw[ATt h33]at hT ⊢;by_cases h1:e.op=1
 ·rw[ATv h1]at hT ⊢;unfold Te;by_cases hc:(0<Mr e.h/\0<eB e.h)/\Er s.os (De e.h)=ν
  ·rw[ATv hc];rw[ATv (by rw[AUB hc.1,(h.busy hI _).2 hc.2];rfl)]at hT;obtain⟨hr,hst,⟨P,Q,hl⟩,hE⟩:=hT;exact yes rfl hr (h.alloc hI hc.2 hst hl hE)
  ·rw[ATt hc];rw[ATt (λh0=>hc (by
    simp only[Au,AT5,CJ]at h0;exact⟨h0.1,(h.busy hI _).1 h0.2⟩))]at hT
   exact no rfl hT
 rw[ATt h1]at hT ⊢;rcases h.find (e:=e) hI with⟨hn,hf⟩|⟨i,b,o,hi,hb,hbh,hf,hg,hoh,how⟩
 ·have hr:=hT.no hn;split
  ·refine no ?_ hr;unfold eF;rw[hf]
  ·exact no rfl hr
 have hA:=hT.yes i b hi hb;have hst:=hT.st;unfold ABf at hA;by_cases h11:e.op=11
 ·rw[ATv h11]at hA;obtain⟨rc,rfl,hR,hl⟩:=hA;rw[ATv AL,ABj hf];simp only[h11,Int.reduceEq,ATz];exact h.rel hI hbh hg hst hl hR
 rw[ATt h11]at hA;by_cases h2:e.op=2
 ·rw[ATv h2]at hA;rw[ATv AL,ABj hf,ATv h2];have hfb:(decide (b.ow=e.pl)&&decide (NT x.E (De b.h)=[]))=SC e o:=by
   unfold SC;rw[how,hbh,show decide (NT x.E (De e.h)=[])=decide (o.cs=[]) from AUg.2 (h.of_nil hg)]
  rw[hfb]at hA;split at hA
  ·rename_i hfr;rw[ATv hfr];exact yes rfl hA.1 (h.free hI hb hbh hg hst hA.2.1 hA.2.2)
  ·rename_i hfr;rw[ATt hfr];exact no rfl hA
 rw[ATt h2]at hA;by_cases h8:e.op=8
 ·rw[ATv h8]at hA;rw[ATv AL,ABj hf,ATt h2,ATv h8];have hfb:(decide (b.ow=e.pl)&&decide (NT x.E (De b.h)=[])&&ADN x.st e)=(SC e o&&X4 s e):=by
   unfold SC;rw[how,hbh,show decide (NT x.E (De e.h)=[])=decide (o.cs=[]) from AUg.2 (h.of_nil hg),h.oth hI]
  rw[hfb]at hA;split at hA
  ·rename_i hfr;rw[ATv hfr];exact yes rfl hA.1 (h.trans hI hb hbh hg hoh hst hA.2.1 hA.2.2)
  ·rename_i hfr;rw[ATt hfr];exact no rfl hA
 rw[ATt h8]at hA;by_cases h9:e.op=9
 ·rw[ATv h9]at hA;rw[ATv AL,ABj hf,ATt h2,ATt h8,ATv h9];exact h.rP hI (.inl rfl) hbh how hg hst hA
 rw[ATt h9]at hA;by_cases h10:e.op=10
 ·rw[ATv h10]at hA;rw[ATv AL,ABj hf,ATt h2,ATt h8,ATt h9,ATv h10];exact h.rP hI (.inr rfl) hbh how hg hst hA
 rw[ATt h10]at hA;rw[ATt AL];exact no rfl hA
end
theorem RelB.ofEq{k s x}(h:RelB k s x)(hI:Nr k s){ob o}(hg:Er s.os ob=σ o):NT x.E ob=(JC o.cs).map (bwO o):=by
 have U7:=hI.get hg;have hsl:=U7.slot;simp only at hsl;refine ABk (R:=λa b=>ltB a b=τ) AEZ (h.eS.sublist AGp) ?_ λb=>?_
 ·rw[AG2];have h1:=Pf U7.nd;unfold Srt keys at h1;rw[AG2]at h1;refine AIB ?_ h1;intro a b hab;exact AA9.2 (.inr ⟨rfl,hab⟩)
 ·unfold NT;rw[Bl,h.eM b,BL];constructor
  ·rintro⟨⟨o',g1,g2,g3⟩,g4⟩;have g4':b.ob=ob:=by simpa using g4
   rw[g4',hg]at g1;cases g1;refine⟨(b.ho,b.co),(AA0 U7.nd).2 g2,?_⟩;obtain⟨b1,b2,b3,b4⟩:=b;dsimp only at g2 g3 g4';unfold bwO;simp only[<-hsl,g3,g4']
  ·rintro⟨c,hc,rfl⟩;have:=(AA0 U7.nd).1 hc;unfold bwO;simp only[<-hsl,AUb,and_true];exact⟨o,hg,this,rfl⟩
theorem AGd{b sb LA EA ln lc en ec} : RelB 0 hs0 ⟨b,sb,LA,ln,lc,EA,en,ec,List.replicate 65 0,[],[]⟩:=by
 refine⟨by simp,λp h1 h2=>?_,.nil,λc=>?_,.nil,λc=>?_,Ay _⟩
 ·simp only[hs0,Er,stI];rw[ASR,ATv AL]
 ·simp[hs0,Er]
 ·simp[hs0,Er]
theorem WY:∀(Le:List RO) (g:Nat),look (Le.map KN) g=ν
 |[],g=>rfl
 |r::Le,g=>WY Le g
def Ui:=AO (AO (AO @Ac @DT) (AO @KM (AO @cM @Ey))) (AO (AO @Ez @E5) (AO @E8 (AO @E9 @WY)))
theorem F6{P M W L}{ι:Sort _}{g args K}(f:ι->Value)(Lf:ι->List DW)(φ:ι->Prop)
  (h:∀w,St M W L w->Calls P g args w (λe w' => ∃i,e=κ (f i)/\φ i/\St [] w (Lf i) w'))
  (hK:∀i,φ i->K τ (f i) (Lf i++L)):I6 P M W g args L K:=λw hw =>
 Kb L [] f Lf φ (λw h1 _=>h w AIb) hK w (by simpa using hw)
theorem kv{W A A' n n' c c' bs}(h:Sl W W.heap.size 4 A n c (EN bs))(h':Sl W W.heap.size 4 A' n' c' (EN bs))(hn:n<=100000):
  Calls AGm 13 #[ξ A n c,ξ A' n' c'] W λe w'=>e=κ (θ τ)/\Below W.heap.size W w':=by
 have hlen:=h.len;have hlen':=h'.len;rw[FE]at hlen hlen';have hnn:n'=n:=by omega
 subst hnn;refine DL (M:=[]) Tryz.func13 [.tmp 4] (St.nil _ _) ?_;have zs:=Bd.mk Ui;refine DZ ?_;refine Cw λK k0=>DZ ?_;refine C_ (DR ?_);refine Cz (k0 _ _ (Cw λK k0=>DZ ?_));refine DC [0,1,5] λG1 g1=>?_;replace g1:=EK g1;refine DK ?_;refine Dv (λF' L' => ∃(i:Nat),EH F' G1 [0,1]/\F' 5=ε ζ (i:Int)/\L'=[]/\i<=n') (λF' L'=>200000-(intOf (F' 5)).toNat) ?_ ?_
 ·refine⟨0,?_⟩;have zg:=Bd.mk g1;refine DD ?_;exact Ar _
 intro G2 L' hI;obtain⟨i,zq,Mq,rfl,hi⟩:=hI;have zg:=Bd.mk g1;have g2:=AO (Dy zq) Mq;refine Cw λK k1=>?_;replace zg:=Bd.mk (AO g1 g2);refine Db ?_;refine Ec (λhc=>?_) λhc=>?_
 ·refine Cz ?_;try simp only[Di,Dq]
  have hit:i<n':=by have:=AT0 ‹decide ((i:Int)<(n':Int))=τ›;omega
  obtain⟨e,he⟩:∃e,bs[i]?=σ e:=⟨_,AQ AL⟩;have hld:=K5 FW he;obtain⟨bA,oA,rfl,Oz,-⟩:=h.cells AL;obtain⟨bA',oA',rfl,AJl,-⟩:=h'.cells AL;refine k1 _ _ (Cw λK k1=>DK (Cw λK k2=>EB [(τ,0),(τ,1),(τ,2),(τ,3),(τ,4),(τ,5),(τ,6),(τ,7),(τ,8)] [] ?_));refine DD ?_;refine DX (h.ld (i:=i*4) (vs:=oU e) AL AF hld) ?_;refine DD ?_;refine DX (h'.ld (i:=i*4) (vs:=oU e) AL AF hld) ?_;refine DD ?_;refine DU @oU.eq_1 (k2 _ _ ?_);refine C_ (DD ?_);refine Cz (k1 _ _ (Cy rfl (DD ?_)));refine⟨⟨i+1,?_⟩,?_⟩
  ·exact AU0
  ·exact AXo
 refine Dr (k0 _ _ (Db ?_));refine C8 (EP λw hw=>?_);exact⟨rfl,hw.below⟩
def ABC(l:List RP)(p:Int):Nat:=(l.filter λr=>decide (r.ow=p)).length
def ABs(p:Int)(r:RP):Bool:=r.bs.any λb=>decide (b.ho=p)
def ABB(l:List RP)(p:Int):Nat:=(l.filter (ABs p)).length
def lD(p:Int)(e:Gs):Bool:=decide (e.pl=p) && !decide (e.op=32) && !decide (e.op=33)
def SH(es:List Gs)(p:Int):Nat:=(es.filter (lD p)).length
def AEt(es:List Gs)(p:Int):Value:=.agg #[ε ζ 0,ε ζ (ABC (xm (Lb hs0 es)).1 p:Int),ε ζ (ABB (xm (Lb hs0 es)).1 p:Int),ε ζ (SH es p:Int),ε ζ 0]
section
variable{P:Program}{M:List Nat}{W:World}{L:List DW}
theorem AFB{F}{d:Option Nat}{f AGT ty pos af gd K}(hK:K τ (.func (.func f) #[] (AGT.map (ev F))) L):
  XV P M W ⟨d,.makeFunc (.func f) #[] AGT,ty,pos,af,gd⟩ F L K:=λw hw=>⟨_,_,w,by simp[execOp,Instr.makeFunc],hw,hK⟩
end
theorem ADk{W b3 p}(hP:Sl W W.heap.size 1 (σ ⟨b3,0,ν⟩) 1 1 [ε ζ p])b:
  Calls AGm 27 #[xw b,π (σ ⟨b3,0,ν⟩)] W λe w'=>e=κ (θ (decide (b.ho=p)))/\Below W.heap.size W w':=by
 refine DL (M:=[]) Tryz.func27 [.tmp 3] (St.nil _ _) ?_;refine C9 rfl λK k0=>?_;have zs:=Bd.mk Ui;refine Ed @xw.eq_1 ?_;intro b2 hb2;refine k0 _ _ ?_;have hlt:b3<W.heap.size:=by
  obtain⟨b',off',e,hb,-⟩:=hP.cells AL;cases e;exact hb
 refine C9 rfl λK k0=>DR ?_;refine DX (hP.ld1 (m:=1) (i:=0) AF rfl) ?_;refine DR (k0 _ _ ?_);refine C8 (Eg λw hw=>?_);exact⟨rfl,hw.below⟩
def ixH(bs:List Bw)(p:Int):Int:=match bs.findIdx? (λb=>decide (b.ho=p))with
 |some i=>i
 |none => -1
theorem ACY{l:List Bw}{p i e}(he:l[i]?=σ e)(hp:(l.take i).findIdx? p=ν)(h:p e=τ):l.findIdx? p=σ i:=by
 have hlt:=(Ab.1 he).1;have hge:=(Ab.1 he).2;rw[AG9];refine⟨hlt,by rw[hge];exact h,λj hj=>?_⟩;rw[AHE]at hp;have:=hp (l[j]'AL) (by rw[List.mem_take_iff_getElem];exact⟨j,by omega,rfl⟩);simpa using this
theorem ACc{l:List Bw}{p i e}(he:l[i]?=σ e)(hp:(l.take i).findIdx? p=ν)(h:p e=ο):(l.take (i+1)).findIdx? p=ν:=by
 rw[AHE]at hp ⊢;intro x hx;rw[Bi,he]at hx;rcases AV.1 hx with hx|hx
 ·exact hp x hx
 ·have:x=e:=by simpa using hx
  rw[this,h]
theorem ADy{W A n c b3 bs p}(h:Sl W W.heap.size 4 A n c (EN bs))(hn:n<=100000)(hP:Sl W W.heap.size 1 (σ ⟨b3,0,ν⟩) 1 1 [ε ζ p]):
  Calls AGm 50 #[ξ A n c,.func (.func 27) #[] #[π (σ ⟨b3,0,ν⟩)]] W λe w'=>e=κ (ε ζ (ixH bs p))/\Below W.heap.size W w':=by
 have hlen:=h.len;rw[FE]at hlen;refine DL (M:=[]) Tryz.func50 [.tmp 4] (St.nil _ _) ?_;have zs:=Bd.mk Ui;refine DZ ?_;refine Cw λK k0=>DZ ?_;refine DC [0,1,7,8] λG1 g1=>?_;replace g1:=EK g1;refine DK ?_;refine Dv (λF' L' => ∃(i:Nat),EH F' G1 [0,1,7]/\F' 8=ε ζ (i:Int)/\L'=[]/\i<=n/\(bs.take i).findIdx? (λb=>decide (b.ho=p))=ν) (λF' L'=>200000-(intOf (F' 8)).toNat) ?_ ?_
 ·refine⟨0,?_⟩;have zg:=Bd.mk g1;refine DD ?_;exact⟨Ar _,rfl⟩
 intro G2 L' hI;obtain⟨i,zq,SG,rfl,⟨hi,hfn⟩⟩:=hI;have zg:=Bd.mk g1;have g2:=AO (Dy zq) SG;replace zg:=Bd.mk (AO g1 g2);refine Db ?_;refine Cw λK k1=>?_;refine Ec (λhc=>?_) λhc=>?_
 ·refine Cz ?_;try simp only[Di,Dq]
  have hit:i<n:=by have:=AT0 ‹decide ((i:Int)<(n:Int))=τ›;omega
  obtain⟨e,he⟩:∃e,bs[i]?=σ e:=⟨_,AQ AL⟩;have hld:=K5 FW he;obtain⟨bA,oA,rfl,Oz,-⟩:=h.cells AL;refine k1 _ _ (Cw λK k1=>DK (Db ?_));refine C9 rfl λK k2=>DD ?_;refine DX (h.ld (i:=i*4) (vs:=oU e) AL AF hld) ?_;refine DD ?_;refine DI (λw hw=>ADk (hP.at hw) e) ?_;try refine DD ?_
  refine k2 _ _ (C_ ?_);by_cases h1:e.ho=p
  ·refine DU h1 ?_;refine Db ?_;refine C8 (EP λw hw=>?_);have hx:ixH bs p=i:=by unfold ixH;rw[ACY he hfn AIb]
   rw[hx];exact AVR
  ·refine DU h1 ?_;refine Cz (k1 _ _ (Cy rfl (DD ?_)));refine⟨⟨i+1,?_⟩,?_⟩
   ·refine DU @Af ?_;exact⟨by omega,ACc he hfn AIb⟩
   ·exact AXo
 refine Dr (k0 _ _ ?_);have hin:i=n:=by have:=AUD ‹decide ((i:Int)<(n:Int))=ο›;omega
 subst hin;rw[Aw AL]at hfn;refine Db ?_;refine C8 (EP λw hw=>?_);have hx:ixH bs p = -1:=by unfold ixH;rw[hfn]
 rw[hx];exact⟨rfl,hw.below⟩
theorem AGJ bs p:decide (0<=ixH bs p)=bs.any λb=>decide (b.ho=p):=by
 unfold ixH;cases h:bs.findIdx? (λb=>decide (b.ho=p))with
 | some i =>
  obtain⟨h1,h2,-⟩:=AG9.1 h;have:(bs.any λb=>decide (b.ho=p))=τ:=AHh.2 ⟨_,Cf h1,h2⟩;rw[this];simp
 | none =>
  rw[AHE]at h;have:(bs.any λb=>decide (b.ho=p))=ο:=AHr.2 λb hb=>by simpa using h b hb
  rw[this];rfl
theorem ACi{W A n c b3 bs p}(h:Sl W W.heap.size 4 A n c (EN bs))(hn:n<=100000)(hP:Sl W W.heap.size 1 (σ ⟨b3,0,ν⟩) 1 1 [ε ζ p]):
  Calls AGm 26 #[ξ A n c,.func (.func 27) #[] #[π (σ ⟨b3,0,ν⟩)]] W λe w'=>e=κ (θ (bs.any λb=>decide (b.ho=p)))/\Below W.heap.size W w':=by
 refine DL (M:=[]) Tryz.func26 [.tmp 4] (St.nil _ _) ?_;have zs:=Bd.mk Ui;refine DZ ?_;refine C9 rfl λK k0=>DR ?_;refine DI (λw hw=>ADy (h.at hw) hn (hP.at hw)) ?_;try refine DR ?_
 refine k0 _ _ ?_;refine C8 ⟨_,(by simp -implicitDefEqProofs (disch:=first|omega|decide) only [seval,-Int.reducePow,-Nat.reducePow,cC,pv,D5,EH,undef,Ui,AGJ];rfl),λw hw=>?_⟩;exact⟨rfl,hw.below⟩
theorem U_{α:Type}{l:List α}{i a}(h:l[i]?=σ a)p:((l.take (i+1)).filter p).length=((l.take i).filter p).length+if p a=τ then 1 else 0:=by
 rw[Il h,List.length_append];split<;>rfl
theorem WZ{α:Type}(l:List α)i p:((l.take i).filter p).length<=i:=by
 have h1:=Ap p (l.take i);have h2:=List.length_take_le i l;omega
theorem fT:∀(es:List Gs) (s0 s:HS) (k:Nat),Nr k s0->(∀e∈es,e.ok)->Lb s0 es=σ s->Nr (k+es.length) s
 | [],s0,s,k,h,_,hs=>by
  cases hs;exact h
 | e::es,s0,s,k,h,hok,hs=>by
  simp only[Lb]at hs;split at hs
  ·cases hs
  ·rename_i s1 h1;have:=fT es s1 s (k+1) (h.step (hok e (.head _)) h1) (λe he=>hok e (.tail _ he)) hs;rw[Av,show k+(es.length+1)=k+1+es.length by omega];exact this
theorem fU{α:Type}(l:List (Int×α)):(JC l).length=l.length:=by
 have:=AT4 List.length (MK (l:=l));rw[ATC]at this;unfold keys at this;rw[BF,BF]at this;exact this
theorem ABq{es rps}(hok:∀e∈es,e.ok)(h:(xm (Lb hs0 es)).1=rps):rps.length<=es.length∧∀r∈rps,r.bs.length<=es.length:=by
 subst h;cases hs:Lb hs0 es with
 |none=>exact⟨Ar _,λr hr=>by cases hr⟩
 | some s =>
  have hI:=fT es hs0 s 0 oV hok hs;rw[Ao]at hI;show (ABl s).length<=_/\_;refine⟨?_,λr hr=>?_⟩
  ·unfold ABl;rw[BF,fU];exact hI.len
  ·obtain⟨q,hq,rfl⟩:=BL.1 hr;unfold ry;simp only[BF,fU];exact(hI.obj q ((sH hI.nd).mem_iff.1 hq)).cl
theorem ACm A n c es p W(hE:Sl W W.heap.size 5 A n c (Eh es))(hok:∀e∈es,e.ok)(hn:n<=1000):
  Calls AGm 14 #[ξ A n c,ε ζ p] W λe w'=>e=κ (AEt es p)/\Below W.heap.size W w':=by
 have hlen:es.length=n:=by
  have:=hE.len;unfold Eh at this;rw[GN H8]at this;omega
 refine ER (M:=[]) (n:=66) [.cell 4 57] rfl Tryz.func14 rfl rfl (Am rfl) (St.nil _ _) ?_;refine C9 rfl λK k0=>?_;have zs:=Bd.mk Ui;refine DR ?_;intro b3 hb3 b4 hb4 jo;refine k0 _ _ (C9 rfl λK k0=>DR ?_);intro b5 hb5 Uj;refine k0 _ _ (C9 rfl λK k0=>DR ?_);refine F6 fJ AEi _ (λw hw=>Uh A n c es w (hE.at hw) hok hn) ?_;rintro⟨LA,ln,lc,Le,er⟩ hr;have ABm:=hr.Le;dsimp only at ABm;obtain⟨rps,AGL⟩:∃rps,(xm (Lb hs0 es)).1=rps:=⟨_,rfl⟩;have hav:AEt es p=.agg #[ε ζ 0,ε ζ (ABC rps p:Int),ε ζ (ABB rps p:Int),ε ζ (SH es p:Int),ε ζ 0]:=by unfold AEt;rw[AGL]
 rw[AGL]at ABm;unfold fJ AEi;dsimp only;refine DR (k0 _ _ ?_);obtain⟨AIr,AMv⟩:=ABq hok AGL;refine Eo (.blk b5 57 [ε ζ 0,ε ζ 0,ε ζ 0,ε ζ 0,ε ζ 0] :: .blk b4 57 [ε ζ 0,ε ζ 0,ε ζ 0,ε ζ 0,ε ζ 0] :: .blk b3 3 [ε ζ p] :: .row (ξ LA ln lc) 41 6 ln (H7 Le)::Le.map KN) (λw hw=>hw.perm (BQ (l₁:=[_,_,_]) (l₂:=_::_))) ?_;have hrl:Le.length=rps.length:=by rw[<-ABm,BF]
 refine F8 3 rfl λhlA=>?_;have hln:Le.length=ln:=by unfold H7 at hlA;rw[GN QN]at hlA;omega
 refine Cw λK k0=>DZ ?_;refine DC [0,3,4,5,17,18,19] λG3 g3=>?_;replace g3:=EK g3;refine DK ?_;refine Dv (λF' L' => ∃(j:Nat),EH F' G3 [0,3,4,5,17,18]/\F' 19=ε ζ (j:Int)/\L'=.blk b5 57 [ε ζ 0,ε ζ (ABC (rps.take j) p:Int),ε ζ (ABB (rps.take j) p:Int),ε ζ 0,ε ζ 0] :: .blk b4 57 [ε ζ 0,ε ζ 0,ε ζ 0,ε ζ 0,ε ζ 0] :: .blk b3 3 [ε ζ p] :: .row (ξ LA ln lc) 41 6 ln (H7 Le)::Le.map KN/\j<=ln) (λF' L'=>2000-(intOf (F' 19)).toNat) ?_ ?_
 ·refine⟨0,?_⟩;have zg:=Bd.mk g3;refine DD ?_;exact⟨rfl,Ar _⟩
 intro G4 L' hI;obtain⟨j,zq,aB,rfl,hj⟩:=hI;have zg:=Bd.mk g3;have g4:=AO (Dy zq) aB;replace zg:=Bd.mk (AO g3 g4);refine Db ?_;refine Cw λK k1=>?_;refine Ec (λhc=>?_) λhc=>?_
 ·refine Cz ?_;try simp only[Di,Dq]
  have hit:j<ln:=by have:=AT0 ‹decide ((j:Int)<(ln:Int))=τ›;omega
  obtain⟨r,hr1⟩:∃r,Le[j]?=σ r:=⟨_,AQ AL⟩;have hm1:=AU hr1;have hrp:rps[j]?=σ r.pl:=by rw[<-ABm,BZ,hr1];rfl
  have hld:=K5 QN hr1;have ho1:ABC (rps.take (j+1)) p=ABC (rps.take j) p+if r.ow=p then 1 else 0:=by
   have:=U_ hrp (λr=>decide (r.ow=p));simp only[AT5]at this;exact this
  have hb1:ABB (rps.take (j+1)) p=ABB (rps.take j) p+if ABs p r.pl=τ then 1 else 0:=U_ hrp (ABs p)
  have hcO:ABC (rps.take j) p<=j:=WZ ..;have hcB:ABB (rps.take j) p<=j:=WZ ..;have hrn:=AMv r.pl (AU hrp);refine k1 _ _ (EL 3 rfl AL λg F7 hg EX=>?_);subst F7;replace hg:=AAM (AO hg EX);clear EX;refine Cw λK k1=>DK (C9 rfl λK k2=>DD ?_);refine DX (IJ (i:=j*6) (vs:=roc r) (DN (k:=3) rfl) AF hld) ?_;refine DD ?_;simp only[roc,Av,Bf,AT1];refine DD ?_;intro b9 vT hf9;refine k2 _ _ (DC [0,3,4,5,9,17,18,19] λG5 g5=>?_);replace g5:=Dy g5;refine Cw λK k2=>?_;refine Df (λ_ _=>True) (λF' L'=>EH F' G5 [0,3,4,5,9,17,18,19]/\L'=.blk b9 41 [ε υ (r.h:Int),ε ζ r.ow,ε ζ 0,ε ζ 0,ξ ν 0 0,ξ r.A r.n r.c] :: .blk b5 57 [ε ζ 0,ε ζ (ABC (rps.take (j+1)) p:Int),ε ζ (ABB (rps.take j) p:Int),ε ζ 0,ε ζ 0] :: .blk b4 57 [ε ζ 0,ε ζ 0,ε ζ 0,ε ζ 0,ε ζ 0] :: .blk b3 3 [ε ζ p] :: .row (ξ (σ ⟨g,0,ν⟩) ln lc) 41 6 ln (H7 Le)::Le.map KN) ?_ ?_
  ·replace zg:=Bd.mk (AO g3 (AO g4 g5));refine Db ?_;refine C_ ?_;by_cases h1:r.ow=p
   ·have d1:decide (r.ow=p)=τ:=AUB h1;rw[ATv h1]at ho1;refine DU d1 ?_;refine DJ rfl ?_;exact Yc (AO ho1 @Af)
   ·rw[ATt h1]at ho1;refine DU h1 ?_;refine Cz ?_;try simp only[Di,Dq]
    exact Yc (AO ho1 @Cg)
  intro G6 L' _ hF;obtain⟨zq,rfl⟩:=hF;replace zg:=Bd.mk g5;have g6:=Dy zq;refine k2 _ _ (C9 rfl λK k2=>?_);replace zg:=Bd.mk (AO g3 (AO g4 g6));refine DD ?_;refine AFB (DD ?_);refine DI (λw hw=>ACi (Sl.EJ hw (.tail _ (.tail _ (.tail _ (.tail _ (.tail _ (BL.2 ⟨r,hm1,rfl⟩))))))) (by have:=(Sl.EJ hw (.tail _ (.tail _ (.tail _ (.tail _ (.tail _ (BL.2 ⟨r,hm1,rfl⟩))))))).len;rw[FE]at this;have h8:r.bs.length=r.pl.bs.length:=rfl;omega) (Sl.cell1 (by rw[hw.Gd (DN (k:=3) rfl)];rfl) (hw.own _ (DN (k:=3) rfl) b3 AUp).2)) ?_;refine DD (k2 _ _ ?_);refine C_ ?_;have hany:(r.bs.any λb=>decide (b.ho=p))=ABs p r.pl:=rfl;rw[hany];cases hh:ABs p r.pl with
  | true =>
   rw[hh,ATv rfl]at hb1;refine DD ?_;refine DJ rfl (DD (k1 _ _ ?_));refine Eo (.blk b5 57 [ε ζ 0,ε ζ (ABC (rps.take (j+1)) p:Int),ε ζ ((ABB (rps.take j) p:Int)+1),ε ζ 0,ε ζ 0] :: .blk b4 57 [ε ζ 0,ε ζ 0,ε ζ 0,ε ζ 0,ε ζ 0] :: .blk b3 3 [ε ζ p] :: .row (ξ (σ ⟨g,0,ν⟩) ln lc) 41 6 ln (H7 Le)::Le.map KN) (λw hw=>hw.tail) (Cy rfl (DD ?_));refine⟨⟨j+1,?_⟩,?_⟩
   ·refine DU (AO hb1 @Af) ?_;omega
   ·exact AXo
  | false =>
   rw[hh,ATt AJ]at hb1;refine DD ?_;refine Cz (k1 _ _ (Eo (.blk b5 57 [ε ζ 0,ε ζ (ABC (rps.take (j+1)) p:Int),ε ζ (ABB (rps.take j) p:Int),ε ζ 0,ε ζ 0] :: .blk b4 57 [ε ζ 0,ε ζ 0,ε ζ 0,ε ζ 0,ε ζ 0] :: .blk b3 3 [ε ζ p] :: .row (ξ (σ ⟨g,0,ν⟩) ln lc) 41 6 ln (H7 Le)::Le.map KN) (λw hw=>hw.tail) (Cy rfl (DD ?_))));refine⟨⟨j+1,?_⟩,?_⟩
   ·refine DU (AO hb1 (AO @Af @Cg)) ?_;omega
   ·exact AXo
 refine Dr (k0 _ _ ?_);have hjn:j=ln:=by have:=AUD ‹decide ((j:Int)<(ln:Int))=ο›;omega
 subst hjn;have hfull:rps.take j=rps:=Aw AL;rw[hfull];refine Eo [.blk b5 57 [ε ζ 0,ε ζ (ABC rps p:Int),ε ζ (ABB rps p:Int),ε ζ 0,ε ζ 0],.blk b4 57 [ε ζ 0,ε ζ 0,ε ζ 0,ε ζ 0,ε ζ 0],.blk b3 3 [ε ζ p]] (λw hw=>hw.sub (.cons_cons _ (.cons_cons _ (.cons_cons _ (AIE _))))) (Cw λK k0=>Db ?_);refine DC [3,4,5,40,41,42] λG7 g7=>?_;replace g7:=Dy g7;refine DK ?_;refine Dv (λF' L' => ∃(i:Nat),EH F' G7 [3,4,5,40,41]/\F' 42=ε ζ (i:Int)/\L'=[.blk b5 57 [ε ζ 0,ε ζ (ABC rps p:Int),ε ζ (ABB rps p:Int),ε ζ (SH (es.take i) p:Int),ε ζ 0],.blk b4 57 [ε ζ 0,ε ζ 0,ε ζ 0,ε ζ 0,ε ζ 0],.blk b3 3 [ε ζ p]]/\i<=n) (λF' L'=>2000-(intOf (F' 42)).toNat) ?_ ?_
 ·refine⟨0,?_⟩;replace zg:=Bd.mk (AO g3 (AO g4 g7));refine DD ?_;exact⟨rfl,Ar _⟩
 intro G8 L' hI;obtain⟨i,zq,AGe,rfl,hi⟩:=hI;replace zg:=Bd.mk g7;have g8:=AO (Dy zq) AGe;replace zg:=Bd.mk (AO g3 (AO g4 (AO g7 g8)));refine Db ?_;refine Cw λK k1=>?_;refine Ec (λhc=>?_) λhc=>?_
 ·refine Cz ?_;try simp only[Di,Dq]
  have hit:i<n:=by have:=AT0 ‹decide ((i:Int)<(n:Int))=τ›;omega
  obtain⟨e,he⟩:∃e,es[i]?=σ e:=⟨_,AQ AL⟩;have hld:=K5 H8 he;have hr1:SH (es.take (i+1)) p=SH (es.take i) p+if lD p e=τ then 1 else 0:=U_ he (lD p)
  have hcR:SH (es.take i) p<=i:=WZ ..;obtain⟨bA,oA,rfl,Oz,-⟩:=hE.cells AL;refine k1 _ _ (Cw λK k1=>DK (C9 rfl λK k2=>DD ?_));refine DX (hE.ld (i:=i*5) (vs:=oK e) AL AF hld) ?_;refine DD ?_;simp only[oK,Av,Bf,AT1];refine DD ?_;intro b11 yu AHV;refine k2 _ _ (DC [3,4,5,11,40,41,42] λG9 g9=>?_);replace g9:=Dy g9;refine Cw λK k2=>?_;refine Df (λ_ _=>True) (λF' L'=>EH F' G9 [3,4,5,40,41,42]/\F' 59=θ (lD p e)/\L'=[.blk b11 49 [ε ζ e.pl,ε ζ e.op,ε υ (e.h:Int),ε υ (e.ar:Int),ε ζ e.er],.blk b5 57 [ε ζ 0,ε ζ (ABC rps p:Int),ε ζ (ABB rps p:Int),ε ζ (SH (es.take i) p:Int),ε ζ 0],.blk b4 57 [ε ζ 0,ε ζ 0,ε ζ 0,ε ζ 0,ε ζ 0],.blk b3 3 [ε ζ p]]) ?_ ?_
  ·unfold lD;by_cases h1:e.pl=p
   ·have d1:decide (e.pl=p)=τ:=AUB h1;by_cases h2:e.op=32
    ·have d2:decide (e.op=32)=τ:=AUB h2;refine Cy rfl ?_;replace zg:=Bd.mk (AO g3 (AO g4 (AO g7 (AO g8 g9))));exact Yc (AO d1 d2)
    ·by_cases h3:e.op=33
     ·have d3:decide (e.op=33)=τ:=AUB h3;refine Cy rfl ?_;replace zg:=Bd.mk (AO g3 (AO g4 (AO g7 (AO g8 g9))));exact Yc (AO d1 (AO h2 d3))
     ·refine Cy rfl ?_;replace zg:=Bd.mk (AO g3 (AO g4 (AO g7 (AO g8 g9))));exact Yc (AO d1 (AO h2 h3))
   ·refine Cy rfl ?_;replace zg:=Bd.mk (AO g3 (AO g4 (AO g7 (AO g8 g9))));exact Yc h1
  intro Xo L' _ hF;obtain⟨zq,AKU,rfl⟩:=hF;replace zg:=Bd.mk g9;have g10:=AO (Dy zq) AKU;refine k2 _ _ (C_ ?_);cases hh:lD p e with
  | true =>
   rw[hh,ATv rfl]at hr1;replace zg:=Bd.mk (AO g3 (AO g4 (AO g7 (AO g8 g10))));refine DU hh ?_;refine DJ rfl (DD (k1 _ _ ?_));refine DY [1,2,3] ?_;refine Cy rfl (DD ?_);refine⟨⟨i+1,?_⟩,?_⟩
   ·refine DU (AO hr1 @Af) ?_;omega
   ·exact AXo
  | false =>
   rw[hh,ATt AJ]at hr1;replace zg:=Bd.mk (AO g3 (AO g4 (AO g7 (AO g8 g10))));refine DU hh ?_;refine Cz (k1 _ _ (DY [1,2,3] ?_));refine Cy rfl (DD ?_);refine⟨⟨i+1,?_⟩,?_⟩
   ·refine DU (AO hr1 (AO @Af @Cg)) ?_;omega
   ·exact AXo
 refine Dr (k0 _ _ ?_);have hin:i=n:=by have:=AUD ‹decide ((i:Int)<(n:Int))=ο›;omega
 subst hin;have AGM:es.take i=es:=Aw AL;rw[AGM];refine Db ?_;refine C8 (FF ?_);intro w hw;exact⟨by rw[hav],hw.below⟩
section
variable{M:List Nat}{W w:World}{L:List DW}
theorem Sl.Z0(hw:St M W L w)i{b t cs}(hi:nth L i=σ (.blk b t cs))off vs(hk:(cs.drop off).take vs.length=vs)(hm:vs.length<=1000):Sl w w.heap.size 1 (σ ⟨b,off,ν⟩) vs.length vs.length vs :=
 ⟨by omega,Ay _,by omega,λh0=>⟨b,off,rfl,(hw.own _ (DN hi) b AUp).2,λj u hu=>by
  rw[hw.Gd (DN hi)];have hlt:=(Ab.1 hu).1;rw[<-hk,Bu,ATv hlt,ASG]at hu;exact hu⟩⟩
end
theorem Sl.lt{w B b off size n c xs}(h:Sl w B size (σ ⟨b,off,ν⟩) n c xs)(hn:0<n):b<B:=by
 obtain⟨b',off',e,hb,-⟩:=h.cells hn;cases e;exact hb
def SI(e:Gs):Bool := !decide (e.op=32) && !decide (e.op=33)
def Qk(e:Gs):Int:=if e.pl<1\/64<e.pl\/e.er<0\/29<e.er then 1 else if (e.op<1\/11<e.op)∧¬e.op=32∧¬e.op=33 then 1 else 0
theorem ABr p e:lD p e=(decide (e.pl=p)&&SI e):=by unfold lD SI;rw[Bool.and_assoc]
structure Ti(w:World)(B b off:Nat)(cap:Int)(ms:Value)(A:Option Addr)(n c:Nat)(es:List Gs):Prop where
 cell:Sl w B 1 (σ ⟨b,off,ν⟩) 3 3 [ε ζ cap,ξ A n c,ms]
 row:Sl w B 5 A n c (Eh es)
 max:n<=100000
theorem Ti.at{W w L b off cap ms A n c es}(h:Ti W W.heap.size b off cap ms A n c es)(hw:St [] W L w):Ti w w.heap.size b off cap ms A n c es:=⟨h.cell.at hw,h.row.at hw,h.max⟩
theorem Ti.len{w B b off cap ms A n c es}(h:Ti w B b off cap ms A n c es):es.length=n:=by
 have:=h.row.len;unfold Eh at this;rw[GN H8]at this;omega
theorem Pk e W:Calls AGm 165 #[U6 e] W λen w'=>en=κ (θ (SI e))/\Below W.heap.size W w':=by
 refine DL (M:=[]) Tryz.func165 [.tmp 2] (St.nil _ _) ?_;refine C9 rfl λK k0=>?_;have zs:=Bd.mk K7;refine Ed @U6.eq_1 ?_;intro b1 hb1;refine k0 _ _ (Cw λK k0=>?_);refine Df (λ_ _=>True) (λF' L'=>F' 2=θ (SI e)/\L'=[Gh b1 e]) ?_ ?_
 ·unfold SI;by_cases h:e.op=32
  ·have d:decide (e.op=32)=τ:=AUB h;refine Cy rfl ?_;exact ABS d
  ·refine Cy rfl ?_;exact ABS h
 intro G1 L' _ hF;obtain⟨zq2,rfl⟩:=hF;have g1:=zq2;refine k0 _ _ ?_;have zg:=Bd.mk g1;refine C8 (EP λw hw=>?_);exact⟨rfl,hw.below⟩
theorem SK e W:Calls AGm 164 #[U6 e] W λen w'=>en=κ (ε ζ (Qk e))/\Below W.heap.size W w':=by
 refine DL (M:=[]) Tryz.func164 [.tmp 2] (St.nil _ _) ?_;refine C9 rfl λK k0=>?_;have zs:=Bd.mk K7;refine Ed @U6.eq_1 ?_;intro b1 hb1;refine k0 _ _ (DC [1] λG2 g2=>?_);replace g2:=EK g2;refine Cw λK k0=>Cw λK k1=>?_;refine Df (λ_ _=>True) (λF' L'=>F' 1=G2 1/\F' 20=θ (decide (e.pl<1\/64<e.pl\/e.er<0\/29<e.er))/\L'=[Gh b1 e]) ?_ ?_
 ·by_cases h1:e.pl<1
  ·refine Cy rfl ?_;have zg:=Bd.mk g2;refine DU h1 ?_;try simp
  ·by_cases h2:64<e.pl
   ·refine Cy rfl ?_;have zg:=Bd.mk g2;refine DU (AO h1 h2) ?_;try simp
   ·by_cases h3:e.er<0
    ·exact AWF
    ·exact AWF
 intro G3 L' _ hF;obtain⟨fV,AEn,rfl⟩:=hF;have zg:=Bd.mk g2;have g3:=AO (Dy fV) AEn;refine k1 _ _ (C_ ?_);by_cases hc1:e.pl<1\/64<e.pl\/e.er<0\/29<e.er
 ·have d:decide (e.pl<1\/64<e.pl\/e.er<0\/29<e.er)=τ:=AUB hc1;have hf:Qk e=1:=by unfold Qk;rw[ATv hc1]
  replace zg:=Bd.mk g3;exact AV4
 have d1:decide (e.pl<1\/64<e.pl\/e.er<0\/29<e.er)=ο:=AUC hc1;replace zg:=Bd.mk g3;refine DU d1 ?_;refine Cz (k0 _ _ (Cw λK k0=>Cw λK k1=>?_));refine Df (λ_ _=>True) (λF' L'=>F' 38=θ (decide ((e.op<1\/11<e.op)∧¬e.op=32∧¬e.op=33))/\L'=[Gh b1 e]) ?_ ?_
 ·by_cases h1:e.op<1
  ·have h32:¬e.op=32:=by omega
   have h33:¬e.op=33:=by omega
   refine Cy rfl (DU (AO h1 (AO h32 h33)) ?_);try simp
  ·by_cases h2:11<e.op
   ·by_cases h32:e.op=32
    ·have d32:decide (e.op=32)=τ:=AUB h32;refine Cy rfl (DU (AO h1 (AO h2 d32)) ?_);simp[h32]
    ·refine Cy rfl (DU (AO h1 (AO h2 h32)) ?_);simp[h32]
   ·refine Cy rfl (DU (AO h1 h2) ?_);try simp
 intro G4 L' _ hF;obtain⟨AEo,rfl⟩:=hF;have g4:=AEo;refine k1 _ _ (C_ ?_);by_cases hc2:(e.op<1\/11<e.op)∧¬e.op=32∧¬e.op=33
 ·have d:decide ((e.op<1\/11<e.op)∧¬e.op=32∧¬e.op=33)=τ:=AUB hc2;have hf:Qk e=1:=by unfold Qk;rw[ATt hc1,ATv hc2]
  replace zg:=Bd.mk g4;exact AV4
 have d2:decide ((e.op<1\/11<e.op)∧¬e.op=32∧¬e.op=33)=ο:=AUC hc2;have hf:Qk e=0:=by unfold Qk;rw[ATt hc1,ATt hc2]
 replace zg:=Bd.mk g4;refine DU d2 ?_;refine Cz (k0 _ _ (Db ?_));refine C8 (EP λw hw=>?_);exact⟨by rw[hf],hw.below⟩
theorem SL{W b off cap ms A n c es}(h:Ti W W.heap.size b off cap ms A n c es)p:
  Calls AGm 110 #[π (σ ⟨b,off,ν⟩),ε ζ p] W λen w'=>en=κ (ε ζ (SH es p:Int))/\Below W.heap.size W w':=by
 have hlen:=h.len;have hmax:=h.max;refine DL (M:=[]) Tryz.func110 [.tmp 4] (St.nil _ _) ?_;have zs:=Bd.mk K7;refine DZ ?_;refine DZ ?_;refine Cw λK k0=>DZ ?_;refine DC [0,1,5,6] λG5 g5=>?_;replace g5:=EK g5;refine DK ?_;refine Dv (λF' L' => ∃(i:Nat),EH F' G5 [0,1]/\F' 5=ε ζ (SH (es.take i) p:Int)/\F' 6=ε ζ (i:Int)/\L'=[]/\i<=n) (λF' L'=>200000-(intOf (F' 6)).toNat) ?_ ?_
 ·refine⟨0,?_⟩;have zg:=Bd.mk g5;refine DD ?_;exact⟨rfl,Ar _⟩
 intro G6 L' hI;obtain⟨i,zq,Mq,Ms,rfl,hi⟩:=hI;have zg:=Bd.mk g5;have g6:=AO (Dy zq) (AO Mq Ms);refine Cw λK k1=>C9 rfl λK k2=>?_;replace zg:=Bd.mk (AO g5 g6);refine DD ?_;refine DX (h.cell.ld1 (m:=1) (i:=1) AF rfl) ?_;refine DD (k2 _ _ ?_);refine Ec (λhc=>?_) λhc=>?_
 ·refine Cz ?_;try simp only[Di,Dq]
  have hit:i<n:=by have:=AT0 ‹decide ((i:Int)<(n:Int))=τ›;omega
  obtain⟨e,he⟩:∃e,es[i]?=σ e:=⟨_,AQ AL⟩;have hr1:SH (es.take (i+1)) p=SH (es.take i) p+if lD p e=τ then 1 else 0:=U_ he (lD p)
  have hcR:SH (es.take i) p<=i:=WZ ..;have hld:=K5 H8 he;have hrow:=h.row;obtain⟨bA,oA,rfl,Oz,-⟩:=hrow.cells AL;refine k1 _ _ (Cw λK k1=>DK (Cw λK k2=>?_));refine Df (λ_ _=>True) (λF' L'=>EH F' G6 [0,1,5,6]/\F' 35=θ (lD p e)/\L'=[]) ?_ ?_
  ·rw[ABr];refine Cy rfl (DD ?_);refine DX (h.cell.ld1 (m:=1) (i:=1) AF rfl) ?_;refine DD ?_;refine DX (hrow.ld1 (m:=1) (i:=i*5+0) AF (Gi H8 he AL)) ?_;refine DD ?_;by_cases h1:e.pl=p
   ·have d1:decide (e.pl=p)=τ:=AUB h1;refine DU d1 ?_;refine DX (h.cell.ld1 (m:=1) (i:=1) AF rfl) ?_;refine DU d1 ?_;refine DX (hrow.ld (i:=i*5) (vs:=oK e) AL AF hld) ?_;refine DU d1 ?_;refine DI (λw hw=>Pk e w) ?_;exact Yc d1
   ·exact Yc h1
  intro G7 L' _ hF;obtain⟨zq,xh,rfl⟩:=hF;have g7:=AO (Dy zq) xh;refine k2 _ _ (C_ ?_);cases hh:lD p e with
  | true =>
   rw[hh,ATv rfl]at hr1;replace zg:=Bd.mk (AO g5 (AO g6 g7));refine DU hh ?_;refine DJ rfl (DD (k1 _ _ ?_));refine Cy rfl (DD ?_);refine⟨⟨i+1,?_⟩,?_⟩
   ·refine DU (AO hr1 @Af) ?_;omega
   ·exact AXo
  | false =>
   rw[hh,ATt AJ]at hr1;replace zg:=Bd.mk (AO g5 (AO g6 g7));refine DU hh ?_;refine Cz (k1 _ _ (Cy rfl (DD ?_)));refine⟨⟨i+1,?_⟩,?_⟩
   ·refine DU (AO hr1 (AO @Af @Cg)) ?_;omega
   ·exact AXo
 refine Dr (k0 _ _ ?_);have hin:i=n:=by have:=AUD ‹decide ((i:Int)<(n:Int))=ο›;omega
 subst hin;have hfull:es.take i=es:=Aw AL;refine KU hfull ?_;refine C8 (EP λw hw=>?_);exact⟨rfl,hw.below⟩
theorem Yx{W b off cap ms A n c es}(h:Ti W W.heap.size b off cap ms A n c es)p:
  Calls AGm 182 #[π (σ ⟨b,off,ν⟩),ε ζ p] W λen w'=>en=κ (θ (decide ((SH es p:Int)<cap)))/\Below W.heap.size W w':=by
 refine DL (M:=[]) Tryz.func182 [.tmp 4] (St.nil _ _) ?_;have zs:=Bd.mk K7;refine DZ ?_;refine Cw λK k0=>EB [(τ,0),(τ,1),(τ,3),(τ,4),(τ,5),(τ,6),(ο,2),(τ,7),(τ,8)] [] ?_;refine DR ?_;refine DX (h.cell.ld1 (m:=1) (i:=0) AF rfl) ?_;refine DR ?_;refine DI (λw hw=>SL (h.at hw) p) ?_;try refine DR ?_
 refine k0 _ _ (C8 (Eg λw hw=>?_));exact⟨rfl,hw.below⟩
structure Qu where
 qb:Int
 qo:Int
 qr:Int
structure Sh where
 p:Int
 q:Qu
def quc(q:Qu):List Value:=[ε ζ q.qb,ε ζ q.qo,ε ζ q.qr]
def VB(q:Qu):Value:=.agg #[ε ζ q.qb,ε ζ q.qo,ε ζ q.qr]
def shc(s:Sh):List Value:=[ε ζ s.p,ε ζ s.q.qb,ε ζ s.q.qo,ε ζ s.q.qr]
theorem J5 s:(shc s).length=4:=rfl
def FC(l:List Sh):List Value:=l.flatMap shc
theorem SN l s:FC (l++[s])=FC l++[ε ζ s.p,ε ζ s.q.qb,ε ζ s.q.qo,ε ζ s.q.qr]:=by simp[FC,shc]
def Yy(p:Int)(s:Sh):Bool:=decide (s.p=p)
def HZ(l:List Sh)(p:Int):Qu:=match l.find? (Yy p)with
 |some s=>s.q
 |none=>⟨0,0,0⟩
def Wd(l:List Sh)(p:Int)(q:Qu):List Sh:=(l.filter λs => !Yy p s)++[⟨p,q⟩]
structure Qu.ok(q:Qu):Prop where
 b:0<=q.qb/\q.qb<=1099511627776
 o:0<=q.qo/\q.qo<=1099511627776
 r:0<=q.qr/\q.qr<=1099511627776
theorem VM{l}(h:∀s∈l,s.q.ok)p:(HZ l p).ok:=by
 unfold HZ;cases hf:l.find? (Yy p)with
 |none=>exact⟨by simp,by simp,by simp⟩
 |some s=>exact h s (ASy hf)
structure oZ(w:World)(B b off:Nat)(lim:Qu)(A:Option Addr)(n c:Nat)(l:List Sh):Prop where
 cell:Sl w B 1 (σ ⟨b,off,ν⟩) 4 4 [ε ζ lim.qb,ε ζ lim.qo,ε ζ lim.qr,ξ A n c]
 row:Sl w B 4 A n c (FC l)
 max:n<=100000
theorem oZ.at{W w L b off lim A n c l}(h:oZ W W.heap.size b off lim A n c l)(hw:St [] W L w):oZ w w.heap.size b off lim A n c l:=⟨h.cell.at hw,h.row.at hw,h.max⟩
theorem oZ.len{w B b off lim A n c l}(h:oZ w B b off lim A n c l):l.length=n:=by
 have:=h.row.len;unfold FC at this;rw[GN J5]at this;omega
theorem lF{α:Type}{l:List α}{p i e}(he:l[i]?=σ e)(hp:(l.take i).find? p=ν)(h:p e=τ):l.find? p=σ e:=by
 have h1:l=l.take i++e::l.drop (i+1):=by
  conv=>lhs;rw[<-List.take_append_drop i l]
  rw[BV (Ab.1 he).1,(Ab.1 he).2]
 rw[h1,AS8,hp];simp[h]
theorem lG{α:Type}{l:List α}{p i e}(he:l[i]?=σ e)(hp:(l.take i).find? p=ν)(h:p e=ο):(l.take (i+1)).find? p=ν:=by
 rw[Bi,he,AS8,hp];simp[h]
theorem SQ{W b off lim A n c l}(h:oZ W W.heap.size b off lim A n c l)p:
  Calls AGm 109 #[π (σ ⟨b,off,ν⟩),ε ζ p] W λen w'=>en=κ (VB (HZ l p))/\Below W.heap.size W w':=by
 have hlen:=h.len;have hmax:=h.max;have hbW:b<W.heap.size:=h.cell.lt AL;refine ER (M:=[]) (n:=34) [.cell 4 62] rfl Tryz.func109 rfl rfl (Am rfl) (St.nil _ _) ?_;refine C9 rfl λK k0=>?_;have zs:=Bd.mk K7;refine DR ?_;intro b4 hb4;refine k0 _ _ (Cw λK k0=>DZ ?_);refine DC [0,1,4,5] λG8 g8=>?_;replace g8:=EK g8;refine DK ?_;refine Dv (λF' L' => ∃(i:Nat),EH F' G8 [0,1,4]/\F' 5=ε ζ (i:Int)/\L'=[.blk b4 62 [ε ζ 0,ε ζ 0,ε ζ 0]]/\i<=n/\(l.take i).find? (Yy p)=ν) (λF' L'=>200000-(intOf (F' 5)).toNat) ?_ ?_
 ·exact AWS
 intro G9 L' hI;obtain⟨i,zq,Mq,rfl,⟨hi,hfn⟩⟩:=hI;have zg:=Bd.mk g8;have g9:=AO (Dy zq) Mq;refine Cw λK k1=>C9 rfl λK k2=>?_;replace zg:=Bd.mk (AO g8 g9);refine DD ?_;refine DX (h.cell.ld1 (m:=1) (i:=3) AF rfl) ?_;refine DD (k2 _ _ ?_);refine Ec (λhc=>?_) λhc=>?_
 ·refine Cz ?_;try simp only[Di,Dq]
  have hit:i<n:=by have:=AT0 ‹decide ((i:Int)<(n:Int))=τ›;omega
  obtain⟨e,he⟩:∃e,l[i]?=σ e:=⟨_,AQ AL⟩;have hld:((FC l).drop (i*4+1)).take 3=quc e.q:=by
   have:=AT4 (List.drop 1) (K5 J5 he);rw[AUY,ATJ]at this;exact this
  have hrow:=h.row;obtain⟨bA,oA,rfl,Oz,-⟩:=hrow.cells AL;refine k1 _ _ (Cw λK k1=>DK (C9 rfl λK k2=>DD ?_));refine DX (h.cell.ld1 (m:=1) (i:=3) AF rfl) ?_;refine DD ?_;refine DX (hrow.ld1 (m:=1) (i:=i*4+0) AF (Gi J5 he AL)) ?_;refine DD (k2 _ _ ?_);refine C_ ?_;by_cases h1:e.p=p
  ·have d1:decide (e.p=p)=τ:=AUB h1;have hq:HZ l p=e.q:=by unfold HZ;rw[lF he hfn d1]
   refine DU d1 ?_;refine C9 rfl λK k2=>DD ?_;refine DX (h.cell.ld1 (m:=1) (i:=3) AF rfl) ?_;refine DD ?_;refine DX (hrow.ld (i:=i*4+1) (vs:=quc e.q) AL AF hld) ?_;refine DD ?_;simp only[quc];refine DD (k2 _ _ ?_);refine C8 (FF ?_);intro w hw;rw[hq];exact⟨rfl,hw.below⟩
  ·refine DU h1 ?_;refine Cz (k1 _ _ (Cy rfl (DD ?_)));refine⟨⟨i+1,?_⟩,?_⟩
   ·refine DU @Af ?_;exact⟨by omega,lG he hfn (AUC h1)⟩
   ·exact AXo
 refine Dr (k0 _ _ ?_);have hin:i=n:=by have:=AUD ‹decide ((i:Int)<(n:Int))=ο›;omega
 subst hin;rw[Aw AL]at hfn;have hq:HZ l p=⟨0,0,0⟩:=by unfold HZ;rw[hfn]
 refine Db ?_;refine C8 (FF ?_);intro w hw;rw[hq];exact⟨rfl,hw.below⟩
def x_(a b l:Int):Bool:=decide (l<b)||decide (l-b<a)
theorem Oc a b l(hb:0<=b/\b<=1099511627776)(hl:0<=l/\l<=9223372036854775807)W:
  Calls AGm 235 #[ε ζ a,ε ζ b,ε ζ l] W λen w'=>en=κ (θ (x_ a b l))/\Below W.heap.size W w':=by
 refine DL (M:=[]) Tryz.func235 [.tmp 6] (St.nil _ _) ?_;have zs:=Bd.mk K7;refine DZ ?_;refine DC [0,1,2] λXo g10=>?_;replace g10:=EK g10;refine Cw λK k0=>?_;refine Df (λ_ _=>True) (λF' L'=>F' 6=θ (x_ a b l)/\L'=[]) ?_ ?_
 ·unfold x_;by_cases h:l<b
  ·refine Cy rfl ?_;have zg:=Bd.mk g10;exact Yc h
  ·refine Cy rfl ?_;have zg:=Bd.mk g10;exact Yc h
 intro bQ L' _ hF;obtain⟨Ms,rfl⟩:=hF;have g11:=Ms;refine k0 _ _ ?_;have zg:=Bd.mk g11;refine C8 (EP λw hw=>?_);exact⟨rfl,hw.below⟩
def Tj(lim x q:Qu):Bool:=x_ x.qb q.qb lim.qb||x_ x.qo q.qo lim.qo||x_ x.qr q.qr lim.qr
structure Qu.lim(q:Qu):Prop where
 b:0<=q.qb/\q.qb<=9223372036854775807
 o:0<=q.qo/\q.qo<=9223372036854775807
 r:0<=q.qr/\q.qr<=9223372036854775807
theorem Tk{W b off lim A n c l}(h:oZ W W.heap.size b off lim A n c l)(hl:lim.lim)p q(hq:q.ok):
  Calls AGm 219 #[π (σ ⟨b,off,ν⟩),ε ζ p,VB q] W λen w'=>en=κ (ε ζ (if Tj lim (HZ l p) q=τ then 16 else 0))/\Below W.heap.size W w':=by
 have hbW:b<W.heap.size:=h.cell.lt AL;obtain⟨⟨qb1,qb2⟩,⟨qo1,qo2⟩,⟨qr1,qr2⟩⟩:=hq;obtain⟨lb,lo,lr⟩:=hl;have n1:¬q.qb<0:=by omega
 have n2:¬q.qo<0:=by omega
 have n3:¬q.qr<0:=by omega
 have n4:¬lim.qb<0:=by omega
 have n5:¬lim.qo<0:=by omega
 have n6:¬lim.qr<0:=by omega
 obtain⟨x,hx⟩:∃x,HZ l p=x:=⟨_,rfl⟩;rw[hx];refine DL (M:=[]) Tryz.func219 [.tmp 6] (St.nil _ _) ?_;refine C9 rfl λK k0=>?_;have zs:=Bd.mk K7;refine Ed @VB.eq_1 ?_;intro b5 hb5;refine k0 _ _ (Cw λK k0=>Mo (AO n1 (AO n2 n3)) ?_);refine C_ (DR ?_);refine Cz (k0 _ _ (C9 rfl λK k0=>DR ?_));refine DI (λw hw=>hx▸SQ (h.at hw) p) ?_;try refine Ed @VB.eq_1 ?_
 intro b7 fZ hf7;refine k0 _ _ (DC [0,5,7] λvM g12=>?_);replace g12:=EK g12;refine Cw λK k0=>Cw λK k1=>?_;refine Df (λ_ _=>True) (λF' L'=>F' 81=θ (Tj lim x q)/\L'=[.blk b7 62 [ε ζ x.qb,ε ζ x.qo,ε ζ x.qr],.blk b5 62 [ε ζ q.qb,ε ζ q.qo,ε ζ q.qr]]) ?_ ?_
 ·unfold Tj;obtain⟨x1,hx1⟩:∃x1,x_ x.qb q.qb lim.qb=x1:=⟨_,rfl⟩;obtain⟨x2,hx2⟩:∃x2,x_ x.qo q.qo lim.qo=x2:=⟨_,rfl⟩;obtain⟨x3,hx3⟩:∃x3,x_ x.qr q.qr lim.qr=x3:=⟨_,rfl⟩;rw[hx1,hx2,hx3];refine EB [(τ,0),(τ,1),(τ,2),(τ,3),(τ,4),(τ,5),(τ,6),(τ,7),(τ,8),(τ,9),(τ,10),(τ,11),(τ,12),(τ,13),(τ,14),(τ,15),(τ,16),(τ,17),(τ,18),(τ,19),(τ,20),(τ,21),(τ,22),(τ,23),(τ,24),(τ,25),(τ,26),(τ,27),(τ,28),(τ,29),(τ,30),(τ,31),(ο,32),(τ,33),(τ,34),(τ,35),(τ,36),(τ,37),(τ,38),(τ,39),(τ,40),(τ,41),(τ,42),(τ,43),(ο,44),(τ,45),(τ,46),(τ,47),(τ,48),(τ,49),(τ,50),(τ,51),(τ,52),(τ,53),(τ,54),(τ,55),(ο,56),(τ,57)] [] ?_;have zg:=Bd.mk g12;refine DD ?_;refine DX (h.cell.ld1 (m:=1) (i:=0) AF rfl) ?_;refine DU n4 ?_;refine DX (h.cell.ld1 (m:=1) (i:=1) AF rfl) ?_;refine DU (AO n4 n5) ?_;refine DX (h.cell.ld1 (m:=1) (i:=2) AF rfl) ?_;refine DU (AO n4 (AO n5 n6)) ?_;refine DX (h.cell.ld1 (m:=1) (i:=0) AF rfl) ?_;refine DD ?_;refine DI (λw hw=>hx1▸Oc x.qb q.qb lim.qb ⟨by omega,by omega⟩ lb w) ?_;cases x1 with
  |true=>simp -implicitDefEqProofs (disch:=first|omega|decide) only [seval,-Int.reducePow,-Nat.reducePow,cC,pv,D5,EH,undef,K7,g12]
  | false =>
   refine DD ?_;refine DX (h.cell.ld1 (m:=1) (i:=1) AF rfl) ?_;refine DD ?_;refine DI (λw hw=>hx2▸Oc x.qo q.qo lim.qo ⟨by omega,by omega⟩ lo w) ?_;cases x2 with
   |true=>simp -implicitDefEqProofs (disch:=first|omega|decide) only [seval,-Int.reducePow,-Nat.reducePow,cC,pv,D5,EH,undef,K7,g12]
   | false =>
    refine DD ?_;refine DX (h.cell.ld1 (m:=1) (i:=2) AF rfl) ?_;refine DD ?_;refine DI (λw hw=>hx3▸Oc x.qr q.qr lim.qr ⟨by omega,by omega⟩ lr w) ?_;exact dP
 intro G13 L' _ hF;obtain⟨AJv,rfl⟩:=hF;have g13:=AJv;refine k1 _ _ (C_ ?_);cases hf:Tj lim x q with
 | true =>
  have zg:=Bd.mk g13;refine DU hf ?_;refine Db ?_;refine C8 (EP λw hw=>?_);exact⟨rfl,hw.below⟩
 | false =>
  have zg:=Bd.mk g13;refine DU hf ?_;refine Cz (k0 _ _ (Db ?_));refine C8 (EP λw hw=>?_);exact⟨by rw[hf];rfl,hw.below⟩
section
variable{M:List Nat}{W w:World}{L:List DW}
theorem St.ABu{A n c m size t xs}(h:St M W (.row (ξ A n c) t size n xs::L) w)(hm:m<=n):St M W (.row (ξ A m c) t size m (xs.take (m*size))::L) w:=by
 have hh:w.ownsRow 0 t size (ξ A n c) n xs:=h.holds _ (.head _);have ho:=h.own _ (.head _);have hap:=(Ak.1 h.apart).1;refine h.tail.add _ ?_ ?_ ?_
 ·obtain⟨hl,hc⟩:=hh;refine⟨by rw[Al,hl,CW (ASc _ hm)],?_⟩;rcases hc with⟨hv,hn⟩|⟨g,cap,cur,hv,h1,h2,h3,h4,h5,h6⟩
  ·refine .inl ⟨?_,by omega⟩;simp only[Value.slice.injEq]at hv ⊢;exact⟨hv.1,by omega,hv.2.2⟩
  ·simp only[Value.slice.injEq]at hv;obtain⟨rfl,-,rfl⟩:=hv;refine .inr ⟨g,_,cur,rfl,h1,h2,AGn hm h3,h4,h5,?_⟩;rw[<-h6,AIJ,CW (ASc _ hm)]
 ·intro b hb;refine ho b ?_;exact AVs
 ·intro s hs b hb;refine hap s hs b ?_;exact AVs
end
def D8(l:List Int):List Value:=l.map (Value.int ζ)
theorem EY l:(D8 l).length=l.length:=by simp[D8]
theorem GG{l}{i:Nat}{v}(h:l[i]?=σ v):(D8 l)[i]?=σ (ε ζ v):=by unfold D8;rw[BZ,h];rfl
theorem Ma l i v:(D8 l).set i (ε ζ v)=D8 (l.set i v):=by unfold D8;rw[ASO]
theorem Z4 l:ones (D8 l)=τ:=by simp[ones,D8,Value.oneCell']
def K8(l:List Int)(k:Nat):List Int:=(l.set k ((l[l.length-1]?).getD 0)).take (l.length-1)
theorem sJ l k:(K8 l k).length=l.length-1:=by unfold K8;rw[Al,Bt];omega
structure TkI where
 A:Option Addr
 n:Nat
 c:Nat
def tkV(x:Int)(i:TkI):Value:=.tuple #[ε ζ x,ξ i.A i.n i.c]
theorem sK{W A n c l}(h:Sl W W.heap.size 1 A n c (D8 l))d(hd:d<18446744073709551616)(hn:0<n/\n<=100000)x(hx:l[d % n]?=σ x):
  Calls AGm 241 #[ξ A n c,ε υ (d:Int)] W
  λen w' => ∃i:TkI,en=κ (tkV x i)/\i.n=n-1/\St [] W [.row (ξ i.A i.n i.c) 3 1 i.n (D8 (K8 l (d % n)))] w':=by
 have hlen:=h.len;rw[EY]at hlen;have hk:=ASo d hn.1;have hcap:=h.cap;have hmax:=h.max;have hw1:IntKind.u64.wrap (n:Int)=(n:Int):=wrap_u64 AL AL;have hdk:(d:Int) % (n:Int)=((d % n:Nat):Int):=by omega
 obtain⟨k,hkk⟩:∃k,d % n=k:=⟨_,rfl⟩;rw[hkk]at hk hx hdk;rw[hkk];have hn0:¬((n:Int)=0):=by omega
 obtain⟨z,hz⟩:∃z,l[n-1]?=σ z:=⟨_,AQ AL⟩;have htk:K8 l k=(l.set k z).take (n-1):=by unfold K8;rw[show l.length=n by omega,hz];rfl
 have ek:IntKind.i64.wrap ((n:Int)-1)=((n-1:Nat):Int):=by rw[DT AL AL];omega
 have o1:=Z4 l;refine DL (M:=[]) Tryz.func241 [.tmp 4,.tmp 5] (St.nil _ _) ?_;have zs:=Bd.mk FR;refine DZ ?_;refine Mo (AO hw1 (AO hn0 hdk)) ?_;obtain⟨bA,oA,rfl,Oz,-⟩:=h.cells AL;refine C9 rfl λK k0=>DR ?_;refine DX (h.ld1 (m:=1) (i:=k) (v:=ε ζ x) AF (GG hx)) ?_;refine DR (k0 _ _ ?_);refine C9 rfl λK k0=>DR ?_;intro b19 AOP;refine EI 0 GL rfl rfl (λw hw=>(h.at hw).reads) o1 AL AL ?_;intro A8 c8 vN hr8;refine Ed (AO @Ao @AR.{0}) (k0 _ _ ?_);refine DC [6,7,8] λG1 g1=>?_;replace g1:=EK g1;refine TV 0 rfl λAM4 AM5=>EL 0 rfl AL λg F7 hg EX=>?_;subst F7;replace hg:=AAM (AO hg EX);clear EX;have hset:(D8 l).set k (Value.int ζ z)=D8 (l.set k z):=Ma _ _ _;refine C9 rfl λK k0=>?_;have zg:=Bd.mk g1;refine DU ek ?_;refine DX (Dx (m:=1) (i:=n-1) (v:=ε ζ z) (DN (k:=0) rfl) rfl (GG hz)) ?_;refine DU ek ?_;refine DX (JB 0 (i:=k) (v:=ε ζ z) rfl AWk AF rfl rfl) ?_;refine DU (AO hset ek) (k0 _ _ ?_);refine Cw λK k0=>EB [(τ,0),(τ,1),(τ,2),(τ,3),(τ,4),(τ,5),(τ,6),(τ,7)] [] ?_;refine DU ek (k0 _ _ ?_);have hfin:(D8 (l.set k z)).take ((n-1)*1)=D8 (K8 l k):=by
  rw[htk];unfold D8;rw[<-List.map_take,Ac]
 refine Eo [.row (ξ (σ ⟨g,0,ν⟩) (n-1) c8) 3 1 (n-1) (D8 (K8 l k))] (λw hw=>hfin▸hw.ABu (m:=n-1) AL) (C8 (EP λw hw=>?_));exact⟨⟨σ ⟨g,0,ν⟩,n-1,c8⟩,rfl,rfl,hw⟩
def Hf(l:List Bool):List Value:=l.map Value.bool
theorem Kg l:(Hf l).length=l.length:=by simp[Hf]
theorem We{l}{i:Nat}{v}(h:l[i]?=σ v):(Hf l)[i]?=σ (θ v):=by unfold Hf;rw[BZ,h];rfl
theorem Wh l i v:(Hf l).set i (θ v)=Hf (l.set i v):=by unfold Hf;rw[ASO]
theorem Im l v:D8 (l++[v])=D8 l++[ε ζ v]:=by simp[D8]
structure X8 where
 sb:Nat
 first:Int
 GA:Option Addr
 gn:Nat
 gc:Nat
 VA:Option Addr
 vn:Nat
 vc:Nat
 FA:Option Addr
 fn:Nat
 fc:Nat
 gone:Int
 gen:List Int
 Fh:List Bool
 Fu:List Int
def Nt(x:X8):List DW:=[.blk x.sb 142 [ε ζ x.first,ξ x.GA x.gn x.gc,ξ x.VA x.vn x.vc,ξ x.FA x.fn x.fc,ε ζ x.gone],.row (ξ x.GA x.gn x.gc) 3 1 x.gn (D8 x.gen),.row (ξ x.VA x.vn x.vc) 4 1 x.vn (Hf x.Fh),.row (ξ x.FA x.fn x.fc) 3 1 x.fn (D8 x.Fu)]
def Ej(x:X8)(slot:Nat):Bool:=(x.Fh[slot]?).getD ο
def Gt(x:X8)(slot:Nat):Int:=(x.gen[slot]?).getD 0
def ofV(x:X8)(slot:Nat):Value:=if Ej x slot=τ then .tuple #[ε ζ (Gt x slot),θ τ] else .tuple #[ε ζ 0,θ ο]
structure Z5(x y:X8):Prop where
 sb:y.sb=x.sb
 first:y.first=x.first
 gl:y.gen.length=x.gen.length
 vl:y.Fh.length=x.Fh.length
theorem fq x(slot:Nat)(hN:x.gen.length=x.Fh.length)(hs:slot<16777216)W(hst:St (DV (Nt x)) W (Nt x) W):
  Calls AGm 231 #[π (σ ⟨x.sb,0,ν⟩),ε ζ (slot:Int)] W
  λen w' => ∃i:Unit,en=κ (ofV x slot)/\True/\St (DV (Nt x)) W (Nt x) w':=by
 obtain⟨M,hM⟩:∃M,DV (Nt x)=M:=⟨_,rfl⟩;rw[hM]at hst ⊢;obtain⟨sb,first,GA,gn,gc,VA,vn,vc,FA,fn,fc,gone,gen,Fh,Fu⟩:=x;unfold Nt at hst;dsimp only at *;clear hM;have hgl:gen.length=gn:=by have:=(Sl.EJ hst (DN (k:=1) rfl)).len;rw[EY]at this;omega
 have hvl:Fh.length=vn:=by have:=(Sl.EJ hst (DN (k:=2) rfl)).len;rw[Kg]at this;omega
 have hfl:Fu.length=fn:=by have:=(Sl.EJ hst (DN (k:=3) rfl)).len;rw[EY]at this;omega
 have hap:=hst.facts;simp only[Nc,Nf,Ro,Rn]at hap;refine DL (M:=M) Tryz.func231 [.tmp 4,.tmp 5]  hst ?_;have zs:=Bd.mk FR;refine DZ ?_;refine DC [0,1] λG1 g1=>?_;replace g1:=EK g1;have hn0:¬((slot:Int)<0):=by omega
 refine Cw λK k0=>Cw λK k1=>?_;refine Df (λ_ _=>True) (λF' L'=>EH F' G1 [0,1]/\F' 26=θ (!Ej ⟨sb,first,GA,gn,gc,VA,vn,vc,FA,fn,fc,gone,gen,Fh,Fu⟩ slot)/\L'=[.blk sb 142 [ε ζ first,ξ GA gn gc,ξ VA vn vc,ξ FA fn fc,ε ζ gone],.row (ξ GA gn gc) 3 1 gn (D8 gen),.row (ξ VA vn vc) 4 1 vn (Hf Fh),.row (ξ FA fn fc) 3 1 fn (D8 Fu)]) ?_ ?_
 ·unfold Ej;dsimp only;by_cases hlt:slot<vn
  ·have hge:¬((vn:Int)<=(slot:Int)):=by omega
   obtain⟨v,hv⟩:∃v,Fh[slot]?=σ v:=⟨_,AQ AL⟩;refine EL 2 rfl AL λg F7 hg EX=>?_;subst F7;replace hg:=AAM (AO hg EX);clear EX;refine Cy rfl ?_;have zg:=Bd.mk g1;refine DU (AO hn0 hge) ?_;refine DX (Dx (m:=1) (i:=slot) (v:=θ v) (DN (k:=2) rfl) rfl (We hv)) ?_;refine DU (AO hn0 hge) ?_;rw[hv];rfl
  ·have hge:((vn:Int)<=(slot:Int)):=by omega
   have hno:Fh[slot]?=ν:=List.getElem?_eq_none AL;refine Cy rfl ?_;have zg:=Bd.mk g1;refine DU (AO hn0 hge) ?_;rw[hno];rfl
 intro G2 L' _ hF;obtain⟨zq,AEp,rfl⟩:=hF;have zg:=Bd.mk g1;have g2:=AO (Dy zq) AEp;refine k1 _ _ (C_ ?_);cases hlv:Ej ⟨sb,first,GA,gn,gc,VA,vn,vc,FA,fn,fc,gone,gen,Fh,Fu⟩ slot with
 | false =>
  replace zg:=Bd.mk g2;refine DU hlv ?_;refine Db ?_;refine C8 (EP λw hw=>?_);refine⟨(),?_,hw⟩;unfold ofV;rw[hlv];rfl
 | true =>
  have hlt:slot<gn:=by
   unfold Ej at hlv;dsimp only at hlv;cases hq:Fh[slot]? with
   |none=>rw[hq]at hlv;cases hlv
   |some v=>have:=(Ab.1 hq).1;omega
  obtain⟨gv,hgv⟩:∃v,gen[slot]?=σ v:=⟨_,AQ AL⟩;replace zg:=Bd.mk g2;refine DU hlv ?_;refine Cz (k0 _ _ (EL 1 rfl AL λg F7 hg EX=>?_));subst F7;replace hg:=AAM (AO hg EX);clear EX;refine C9 rfl λK k0=>DD ?_;refine DX (Dx (m:=1) (i:=slot) (v:=ε ζ gv) (DN (k:=1) rfl) rfl (GG hgv)) ?_;refine DD (k0 _ _ ?_);refine C8 (EP λw hw=>?_);refine⟨(),?_,trivial,hw⟩;unfold ofV;rw[hlv];simp[Gt,hgv]
theorem sM x slot(hN:x.gen.length=x.Fh.length)(hs:slot<16777216)(hf:x.Fu.length<=100000)(hgo:0<=x.gone/\x.gone<=4611686018427387904)(hlv:Ej x slot=τ)W(hst:St (DV (Nt x)) W (Nt x) W):
  Calls AGm 214 #[π (σ ⟨x.sb,0,ν⟩),ε ζ (slot:Int)] W
  λen w' => ∃y:X8,en=κ (ε ζ 0)/\(Z5 x y/\y.gen=x.gen/\y.Fh=x.Fh.set slot ο/\(if Gt x slot=4294967295 then y.gone=x.gone+1/\y.Fu=x.Fu else y.gone=x.gone/\y.Fu=x.Fu++[(slot:Int)]))/\St (DV (Nt x)) W (Nt y) w':=by
 obtain⟨M,hM⟩:∃M,DV (Nt x)=M:=⟨_,rfl⟩;rw[hM]at hst ⊢;obtain⟨sb,first,GA,gn,gc,VA,vn,vc,FA,fn,fc,gone,gen,Fh,Fu⟩:=x;unfold Nt at hst;dsimp only at *;clear hM;have hgl:gen.length=gn:=by have:=(Sl.EJ hst (DN (k:=1) rfl)).len;rw[EY]at this;omega
 have hvl:Fh.length=vn:=by have:=(Sl.EJ hst (DN (k:=2) rfl)).len;rw[Kg]at this;omega
 have hfl:Fu.length=fn:=by have:=(Sl.EJ hst (DN (k:=3) rfl)).len;rw[EY]at this;omega
 have hlt:slot<vn:=by
  unfold Ej at hlv;dsimp only at hlv;cases hq:Fh[slot]? with
  |none=>rw[hq]at hlv;cases hlv
  |some v=>have:=(Ab.1 hq).1;omega
 obtain⟨gv,hgv⟩:∃v,gen[slot]?=σ v:=⟨_,AQ AL⟩;have hgi:Gt ⟨sb,first,GA,gn,gc,VA,vn,vc,FA,fn,fc,gone,gen,Fh,Fu⟩ slot=gv:=by unfold Gt;dsimp only;rw[hgv];rfl
 rw[hgi];have hof:ofV ⟨sb,first,GA,gn,gc,VA,vn,vc,FA,fn,fc,gone,gen,Fh,Fu⟩ slot=.tuple #[ε ζ gv,θ τ]:=by unfold ofV;rw[ATv hlv,hgi]
 have yA:(Hf Fh).set slot (Value.bool ο)=Hf (Fh.set slot ο):=Wh _ _ _;refine DL (M:=M) Tryz.func214 [.tmp 4]  hst ?_;have zs:=Bd.mk FR;refine DZ ?_;refine C9 rfl λK k0=>DR ?_;refine EW (Nt ⟨sb,first,GA,gn,gc,VA,vn,vc,FA,fn,fc,gone,gen,Fh,Fu⟩) (BB _) (λ_:Unit=>.tuple #[ε ζ gv,θ τ]) _ (λw hw=>hof▸fq ⟨sb,first,GA,gn,gc,VA,vn,vc,FA,fn,fc,gone,gen,Fh,Fu⟩ slot hN hs w hw) ?_;intro _ _;refine DR (k0 _ _ ?_);refine Cw λK k0=>DZ ?_;refine C_ (DR ?_);refine Cz (k0 _ _ (DC [0,1] λG3 g3=>?_));replace g3:=EK g3;refine EL 2 rfl AL λgb F7 hgb EX=>?_;subst F7;replace hgb:=AAM (AO hgb EX);clear EX;refine EL 1 rfl AL λgg F7 hgg EX=>?_;subst F7;replace hgg:=AAM (AO hgg EX);clear EX;refine C9 rfl λK k0=>?_;have zg:=Bd.mk g3;refine DD ?_;refine DX (JB 2 (i:=slot) (v:=θ ο) rfl (by rw[Kg];omega) AF rfl rfl) ?_;refine DU yA (k0 _ _ ?_);refine Cw λK k0=>C9 rfl λK k1=>DD ?_;refine DX (Dx (m:=1) (i:=slot) (v:=ε ζ gv) (DN (k:=1) rfl) rfl (GG hgv)) ?_;refine DD (k1 _ _ ?_);refine DC [0,1,28] λG4 g4=>?_;replace g4:=Dy g4;refine Df (λ_ _=>True) (λF' L' => ∃(O0:Option Addr)(O1 O3:Nat)(SS:Int)(Z6:List Int),L'=[.blk sb 142 [ε ζ first,ξ (σ ⟨gg,0,ν⟩) gn gc,ξ (σ ⟨gb,0,ν⟩) vn vc,ξ O0 O1 O3,ε ζ SS],.row (ξ (σ ⟨gg,0,ν⟩) gn gc) 3 1 gn (D8 gen),.row (ξ (σ ⟨gb,0,ν⟩) vn vc) 4 1 vn (Hf (Fh.set slot ο)),.row (ξ O0 O1 O3) 3 1 O1 (D8 Z6)]/\(if gv=4294967295 then SS=gone+1/\Z6=Fu else SS=gone/\Z6=Fu++[(slot:Int)])) ?_ ?_
 ·refine C_ ?_;by_cases hm:gv=4294967295
  ·have d:decide (gv=4294967295)=τ:=AUB hm;replace zg:=Bd.mk g4;refine DU d ?_;refine DJ rfl (DD ?_);refine⟨FA,fn,fc,gone+1,Fu,?_⟩;refine DD ?_;simp[hm]
  ·have o1:=Z4 Fu;replace zg:=Bd.mk g4;refine DU hm ?_;refine TV 3 rfl λhcap AEq=>ED [2,3,4,0] AJ (DJ rfl (DD ?_));intro b37 AOQ AOR;refine DD ?_;refine EI 0 GL rfl rfl (λw hw=>Hz (DN (k:=4) rfl) hw) o1 AL AL ?_;intro A3 c3 hl3 hr3;refine DU (AO @Ao @AR.{0}) ?_;intro b44 AOS AOT;refine D6 1 GL rfl (λw hw=>D_ (size:=1) (DN (k:=0) rfl) rfl hw) rfl AL AL ?_;intro A4 c4 hl4 hr4;refine DD ?_;exact⟨A4,fn+1,c4,gone,Fu++[(slot:Int)],by rw[Im],rfl,rfl⟩
 intro G5 L' _ hF;obtain⟨O0,O1,O3,SS,Z6,rfl,hc⟩:=hF;refine k0 _ _ (DZ ?_);refine C8 (Eg λw hw=>?_);exact⟨⟨sb,first,σ ⟨gg,0,ν⟩,gn,gc,σ ⟨gb,0,ν⟩,vn,vc,O0,O1,O3,SS,gen,Fh.set slot ο,Z6⟩,rfl,⟨⟨rfl,rfl,rfl,by simp⟩,rfl,rfl,hc⟩,hw⟩
def Od(x:X8)(s:Nat):Int:=if Gt x s=0 then x.first else Gt x s+1
def AEr(s:Nat)(g:Int)(y:X8):Value:=.tuple #[ε ζ (s:Int),ε ζ g,ε ζ 0]
theorem fw(x:X8)d(hd:d<18446744073709551616)(hN:x.gen.length=x.Fh.length)(hf:0<x.Fu.length/\x.Fu.length<=100000)(s:Nat)(hs:x.Fu[d % x.Fu.length]?=σ (s:Int))(hsl:s<x.gen.length)(hg:0<=Gt x s/\Gt x s<=4611686018427387904)W(hst:St (DV (Nt x)) W (Nt x) W):
  Calls AGm 238 #[π (σ ⟨x.sb,0,ν⟩),ε υ (d:Int)] W
  λen w' => ∃y:X8,en=κ (AEr s (Od x s) y)/\(Z5 x y/\y.gen=x.gen.set s (Od x s)/\y.Fh=x.Fh.set s τ/\y.gone=x.gone/\y.Fu=K8 x.Fu (d % x.Fu.length))/\St (DV (Nt x)) W (Nt y) w':=by
 obtain⟨M,hM⟩:∃M,DV (Nt x)=M:=⟨_,rfl⟩;rw[hM]at hst ⊢;obtain⟨sb,first,GA,gn,gc,VA,vn,vc,FA,fn,fc,gone,gen,Fh,Fu⟩:=x;unfold Nt at hst;dsimp only at *;clear hM;have hgl:gen.length=gn:=by have:=(Sl.EJ hst (DN (k:=1) rfl)).len;rw[EY]at this;omega
 have hvl:Fh.length=vn:=by have:=(Sl.EJ hst (DN (k:=2) rfl)).len;rw[Kg]at this;omega
 have hfl:Fu.length=fn:=by have:=(Sl.EJ hst (DN (k:=3) rfl)).len;rw[EY]at this;omega
 obtain⟨gv,hgv⟩:∃v,gen[s]?=σ v:=⟨_,AQ hsl⟩;have hgi:Gt ⟨sb,first,GA,gn,gc,VA,vn,vc,FA,fn,fc,gone,gen,Fh,Fu⟩ s=gv:=by unfold Gt;dsimp only;rw[hgv];rfl
 have hiG:Od ⟨sb,first,GA,gn,gc,VA,vn,vc,FA,fn,fc,gone,gen,Fh,Fu⟩ s=if gv=0 then first else gv+1:=by unfold Od;rw[hgi]
 rw[hgi]at hg;rw[hiG];have yA:(Hf Fh).set s (Value.bool τ)=Hf (Fh.set s τ):=Wh _ _ _;have AOV:s<gn:=by omega
 have hfn:¬((fn:Int)=0):=by omega
 rw[hfl]at hs hf ⊢;refine DL (M:=M) Tryz.func238 [.tmp 4,.tmp 5,.tmp 6]  hst ?_;have zs:=Bd.mk FR;refine DZ ?_;refine Cw λK k0=>DZ ?_;refine C_ (Ed hfn ?_);refine Cz (k0 _ _ (C9 rfl λK k0=>DR ?_));refine F6 (tkV (s:Int)) (λi:TkI=>[.row (ξ i.A i.n i.c) 3 1 i.n (D8 (K8 Fu (d % fn)))]) _ (λw hw=>sK (Sl.EJ hw (DN (k:=3) rfl)) d hd hf (s:Int) hs) ?_;rintro⟨O0,O1,O3⟩ AHF;dsimp only at AHF;subst AHF;unfold tkV;refine EM ?_;refine DR (k0 _ _ ?_);refine DZ ?_;refine DY [1,2,3,0] ?_;refine EL 1 rfl AL λgg F7 hgg EX=>?_;subst F7;replace hgg:=AAM (AO hgg EX);clear EX;refine Cw λK k0=>C9 rfl λK k1=>DR ?_;refine DX (Dx (m:=1) (i:=s) (v:=ε ζ gv) (DN (k:=1) rfl) rfl (GG hgv)) ?_;refine DR (k1 _ _ ?_);refine DC [0,7,35] λG6 g6=>?_;replace g6:=EK g6;refine Df (λ_ _=>True) (λF' L'=>EH F' G6 [0,7]/\L'=[.blk sb 142 [ε ζ first,ξ (σ ⟨gg,0,ν⟩) gn gc,ξ VA vn vc,ξ O0 (fn-1) O3,ε ζ gone],.row (ξ (σ ⟨gg,0,ν⟩) gn gc) 3 1 gn (D8 (gen.set s (if gv=0 then first else gv+1))),.row (ξ VA vn vc) 4 1 vn (Hf Fh),.row (ξ O0 (fn-1) O3) 3 1 (fn-1) (D8 (K8 Fu (d % fn)))]) ?_ ?_
 ·refine C_ ?_;by_cases h0:gv=0
  ·have d0:decide (gv=0)=τ:=AUB h0;have hset:(D8 gen).set s (Value.int ζ first)=D8 (gen.set s first):=Ma _ _ _;have zg:=Bd.mk g6;refine DU d0 ?_;refine K3 (EB [(τ,0),(τ,1),(τ,2),(τ,3),(τ,4),(τ,5),(τ,6),(τ,7),(τ,8),(τ,9),(ο,10)] [10] ?_);refine DD ?_;refine DX (JB 1 (i:=s) (v:=ε ζ first) rfl AWk AF rfl rfl) ?_;refine DU hset ?_;try simp[h0]
  ·have hset:(D8 gen).set s (Value.int ζ (gv+1))=D8 (gen.set s (gv+1)):=Ma _ _ _;have zg:=Bd.mk g6;refine DU h0 ?_;refine DJ rfl (DD ?_);refine DX (Dx (m:=1) (i:=s) (v:=ε ζ gv) (DN (k:=1) rfl) rfl (GG hgv)) ?_;refine DD ?_;refine DX (JB 1 (i:=s) (v:=ε ζ (gv+1)) rfl AWk AF rfl rfl) ?_;refine DU hset ?_;try simp[h0]
 intro G7 L' _ hF;obtain⟨zq,rfl⟩:=hF;have zg:=Bd.mk g6;have g7:=Dy zq;refine k0 _ _ (EL 2 rfl AL λgb F7 hgb EX=>?_);subst F7;replace hgb:=AAM (AO hgb EX);clear EX;refine C9 rfl λK k0=>?_;replace zg:=Bd.mk g7;refine DD ?_;refine DX (JB 2 (i:=s) (v:=θ τ) rfl (by rw[Kg];omega) AF rfl rfl) ?_;refine DU yA (k0 _ _ ?_);have hget:(gen.set s (if gv=0 then first else gv+1))[s]?=σ (if gv=0 then first else gv+1):=by rw[CY AL]
 obtain⟨G',hG'⟩:∃G',(if gv=0 then first else gv+1)=G':=⟨_,rfl⟩;rw[hG']at hget ⊢;refine Cw λK k0=>EB [(τ,0),(τ,1),(τ,2),(τ,3),(τ,4),(τ,5),(τ,6),(τ,7),(τ,8),(τ,9),(τ,10)] [] ?_;refine DD ?_;refine DX (Dx (m:=1) (i:=s) (v:=ε ζ G') (DN (k:=1) rfl) rfl (GG hget)) ?_;refine DD (k0 _ _ ?_);refine C8 (EP λw hw=>?_);exact⟨⟨sb,first,σ ⟨gg,0,ν⟩,gn,gc,σ ⟨gb,0,ν⟩,vn,vc,O0,fn-1,O3,gone,gen.set s G',Fh.set s τ,K8 Fu (d % fn)⟩,rfl,⟨⟨rfl,rfl,by simp,by simp⟩,rfl,rfl,rfl,rfl⟩,hw⟩
def pkV(r:Int×Int):Value:=.tuple #[ε υ r.1,ε ζ r.2]
def ABv:=@pkV.eq_1
theorem sN s g t W:Calls AGm 8 #[ε ζ s,ε ζ g,ε ζ t] W λe w'=>e=κ (pkV (pkF s g t))/\Below W.heap.size W w':=by
 refine DL (M:=[]) Tryz.func8 [.tmp 6,.tmp 7] (St.nil _ _) ?_;have zs:=Bd.mk ABv;refine DZ ?_;refine DC [0,1,2] λG1 g1=>?_;replace g1:=EK g1;refine Cw λK k0=>Cw λK k1=>?_;refine Df (λ_ _=>True) (λF' L'=>EH F' G1 [0,1,2]/\F' 29=θ (decide (s<0\/16777215<s\/g<1\/4294967295<g\/t<1\/255<t))/\L'=[]) ?_ ?_
 ·exact AWr
 intro G2 L' _ hF;obtain⟨zq,yB,rfl⟩:=hF;have zg:=Bd.mk g1;have g2:=AO (Dy zq) yB;refine k1 _ _ ?_;replace zg:=Bd.mk g2;refine Ec (λhc=>?_) λhc=>?_
 ·have h:=AT0 hc;refine Db ?_;refine C8 (EP λw hw=>?_);exact⟨by unfold pkF;rw[ATv h];try rfl,hw.below⟩
 have h:=AUD hc;have e1:∀x:Int,0<=x->x<18446744073709551616->IntKind.u64.wrap x=x:=λx h0 h1=>by rw[IntKind.wrap_u64];omega
 refine Cz (k0 _ _ (KU e1 ?_));refine C8 (EP λw hw=>?_);exact⟨by unfold pkF;rw[ATt h];rfl,hw.below⟩
structure En where
 h:Nat
 ow:Int
 tag:Int
 off:Int
 len:Int
def enc(e:En):List Value:=[ε υ (e.h:Int),ε ζ e.ow,ε ζ e.tag,ε ζ e.off,ε ζ e.len]
def sO(e:En):Value:=.agg #[ε υ (e.h:Int),ε ζ e.ow,ε ζ e.tag,ε ζ e.off,ε ζ e.len]
theorem Gu e:(enc e).length=5:=rfl
def FJ(l:List En):List Value:=l.flatMap enc
theorem K9 l:(FJ l).length=l.length*5:=GN Gu l
def en0:En:=⟨0,0,0,0,0⟩
structure Ir where
 tb:Nat
 EA:Option Addr
 en:Nat
 ec:Nat
 E:List En
 s:X8
def Mc(x:Ir):List DW:=.blk x.tb 146 [π (σ ⟨x.s.sb,0,ν⟩),ξ x.EA x.en x.ec] :: .row (ξ x.EA x.en x.ec) 182 5 x.en (FJ x.E)::Nt x.s
def ET(x:Ir)(slot:Nat):En:=(x.E[slot]?).getD en0
def GU(x:Ir)(h:Nat):Int:=if x.en<=De h then 10 else if ¬(Ej x.s (De h)=τ/\Gt x.s (De h)=(Mr h:Int)) then 11 else if ¬(ET x (De h)).h=h then 12 else 0
def Pm(x:Ir)(h:Nat):Value:=.tuple #[sO (if GU x h=0 then ET x (De h) else en0),ε ζ (GU x h)]
theorem Z7 x h v(hv:v≠0)(hr:GU x h=v):Pm x h=.tuple #[sO en0,ε ζ v]:=by
 unfold Pm;rw[hr,ATt hv]
theorem ABw x h s(hs:De h=s)(h10:x.en<=s):Pm x h=.tuple #[sO en0,ε ζ 10]:=by
 subst hs;exact Z7 x h 10 AJ (by unfold GU;rw[ATv h10])
theorem og x h s(hs:De h=s)(h10:¬x.en<=s)(h11:¬(Ej x.s s=τ/\Gt x.s s=(Mr h:Int))):Pm x h=.tuple #[sO en0,ε ζ 11]:=by
 subst hs;exact Z7 x h 11 AJ (by unfold GU;rw[ATt h10,ATv h11])
theorem ABx x h s e(hs:De h=s)(h10:¬x.en<=s)(hl:Ej x.s s=τ)(hg:Gt x.s s=(Mr h:Int))(he:x.E[s]?=σ e)(h12:¬e.h=h):Pm x h=.tuple #[sO en0,ε ζ 12]:=by
 subst hs;have hE:ET x (De h)=e:=by unfold ET;rw[he];rfl
 exact Z7 x h 12 AJ (by unfold GU;rw[ATt h10,ATt (λhn=>hn ⟨hl,hg⟩),hE,ATv h12])
theorem AEs x h s e(hs:De h=s)(h10:¬x.en<=s)(hl:Ej x.s s=τ)(hg:Gt x.s s=(Mr h:Int))(he:x.E[s]?=σ e)(h12:e.h=h):Pm x h=.tuple #[sO e,ε ζ 0]:=by
 subst hs;have hE:ET x (De h)=e:=by unfold ET;rw[he];rfl
 have hr:GU x h=0:=by unfold GU;rw[ATt h10,ATt (λhn=>hn ⟨hl,hg⟩),hE,ATt (λhn=>hn h12)]
 unfold Pm;rw[hr,ATv rfl,hE]
theorem f_ h:De h<16777216:=ASo _ AL
def Md:=AO (AO (AO @Ac @DT) (AO @KM @cM)) (AO (AO @Ey @Ez) (AO @E5 (AO @E8 @E9)))
theorem Oe x(h:Nat)(hh:h<18446744073709551616)(hN:x.s.gen.length=x.s.Fh.length)W(hst:St (DV (Mc x)) W (Mc x) W):
  Calls AGm 213 #[π (σ ⟨x.tb,0,ν⟩),ε υ (h:Int)] W
  λen w' => ∃i:Unit,en=κ (Pm x h)/\True/\St (DV (Mc x)) W (Mc x) w':=by
 obtain⟨M,hM⟩:∃M,DV (Mc x)=M:=⟨_,rfl⟩;rw[hM]at hst ⊢;obtain⟨tb,EA,en,ec,E,⟨sb,first,GA,gn,gc,VA,vn,vc,FA,fn,fc,gone,gen,Fh,Fu⟩⟩:=x;unfold Mc Nt at hst;dsimp only at *;clear hM;have hel:E.length=en:=by have:=(Sl.EJ hst (DN (k:=1) rfl)).len;unfold FJ at this;rw[GN Gu]at this;omega
 have AHG:=f_ h;obtain⟨s,hs⟩:∃s,De h=s:=⟨_,rfl⟩;rw[hs]at AHG;refine ER (M:=M) (n:=55) [.cell 4 182,.tmp 5] rfl Tryz.func213 rfl rfl (Am rfl)  hst ?_;refine C9 rfl λK k0=>?_;have zs:=Bd.mk Md;refine DR ?_;intro b4 hb4 jo;refine k0 _ _ (C9 rfl λK k0=>DR ?_);refine DI (λw hw=>hs▸F4 h hh w) ?_;try refine DR ?_
 refine k0 _ _ (Cw λK k0=>DZ ?_);refine C_ ?_;by_cases h10:en<=s
 ·have d10:decide ((en:Int)<=(s:Int))=τ:=AUB AL;refine Ed d10 ?_;refine DZ ?_;refine C8 (Ox ?_);intro w hw;refine⟨(),?_,hw.tail⟩;rw[ABw ⟨tb,EA,en,ec,E,⟨sb,first,GA,gn,gc,VA,vn,vc,FA,fn,fc,gone,gen,Fh,Fu⟩⟩ h s hs h10];rfl
 have d10:¬((en:Int)<=(s:Int)):=by omega
 refine Ed d10 ?_;refine Cz (k0 _ _ (C9 rfl λK k0=>DR ?_));refine EW (Nt ⟨sb,first,GA,gn,gc,VA,vn,vc,FA,fn,fc,gone,gen,Fh,Fu⟩) (.cons _ (.cons _ (.cons _ (BB _)))) (λ_:Unit=>ofV ⟨sb,first,GA,gn,gc,VA,vn,vc,FA,fn,fc,gone,gen,Fh,Fu⟩ s) _ (λw hw=>fq ⟨sb,first,GA,gn,gc,VA,vn,vc,FA,fn,fc,gone,gen,Fh,Fu⟩ s hN AHG w hw) ?_;intro _ _;cases hlv:Ej ⟨sb,first,GA,gn,gc,VA,vn,vc,FA,fn,fc,gone,gen,Fh,Fu⟩ s with
 | false =>
  unfold ofV;rw[hlv];refine DR (k0 _ _ ?_);refine Cw λK k0=>DZ ?_;refine C_ (DR ?_);refine DZ ?_;refine C8 (Ox ?_);intro w hw;refine⟨(),?_,hw.tail⟩;rw[og ⟨tb,EA,en,ec,E,⟨sb,first,GA,gn,gc,VA,vn,vc,FA,fn,fc,gone,gen,Fh,Fu⟩⟩ h s hs h10 (λhn=>AUK (hlv.symm.trans hn.1))];rfl
 | true =>
  unfold ofV;obtain⟨gI,hgI⟩:∃v,Gt ⟨sb,first,GA,gn,gc,VA,vn,vc,FA,fn,fc,gone,gen,Fh,Fu⟩ s=v:=⟨_,rfl⟩;obtain⟨e,he⟩:∃e,E[s]?=σ e:=⟨_,AQ AL⟩;rw[hlv,hgI];refine DR (k0 _ _ ?_);refine DC [0,1,4,6,7,8] λG1 g1=>?_;replace g1:=EK g1;refine Cw λK k0=>C9 rfl λK k1=>?_;have zg:=Bd.mk g1;refine DD ?_;refine DI (λw hw=>xF h hh w) ?_;try refine DD ?_
  refine k1 _ _ (C_ ?_);by_cases h11:gI=(Mr h:Int)
  case neg =>
   refine DU h11 ?_;refine Db ?_;refine C8 (FF ?_);intro w hw;refine⟨(),?_,hw.tail⟩;rw[og ⟨tb,EA,en,ec,E,⟨sb,first,GA,gn,gc,VA,vn,vc,FA,fn,fc,gone,gen,Fh,Fu⟩⟩ h s hs h10 (λhn=>h11 (hgI.symm.trans hn.2))];rfl
  have d11:decide (gI=(Mr h:Int))=τ:=AUB h11;refine DU d11 ?_;refine Cz (k0 _ _ (EL 2 rfl AL λg F7 hg EX=>?_));subst F7;replace hg:=AAM (AO hg EX);clear EX;refine Cw λK k0=>C9 rfl λK k1=>DD ?_;refine DX (Dx (m:=1) (i:=s*5+0) (v:=ε υ (e.h:Int)) (DN (k:=2) rfl) rfl (Gi Gu he AL)) ?_;refine DD (k1 _ _ ?_);refine C_ ?_;by_cases h12:e.h=h
  case neg =>
   have n12:¬((e.h:Int)=(h:Int)):=by omega
   refine DU @n12 ?_;refine Db ?_;refine C8 (FF ?_);intro w hw;refine⟨(),?_,hw.tail⟩;rw[ABx _ h s e hs h10 hlv (hgI.trans h11) he h12];rfl
  have d12:decide ((e.h:Int)=(h:Int))=τ:=AUB AL;refine DU d12 ?_;refine Cz (k0 _ _ (C9 rfl λK k0=>DD ?_));refine DX (IJ (i:=s*5) (vs:=enc e) (DN (k:=2) rfl) AF (K5 Gu he)) ?_;refine DD ?_;simp only[enc,Av,Bf,AT1];refine DD (k0 _ _ ?_);refine C8 (FF ?_);intro w hw;refine⟨(),?_,hw.tail⟩;rw[AEs _ h s e hs h10 hlv (hgI.trans h11) he h12];rfl
end Go.Proofs.YtnkgiaimcpbhkaaGreat
