import Derived.Test.YtnkgiaimcpbhkaaGreatDells8
import Derived.Test.YtnkgiaimcpbhkaaGreatDells12
import Derived.Test.YtnkgiaimcpbhkaaGreatDells11
import Derived.Test.YtnkgiaimcpbhkaaGreatDells10
import Derived.Test.YtnkgiaimcpbhkaaGreatDells7
import Derived.Test.YtnkgiaimcpbhkaaGreatDells9
set_option linter.all false
set_option maxRecDepth 100000
set_option maxHeartbeats 4000000
open List renaming length_append→Ag,length_take→Al,map_cons→BJ,length→CP,take_add→ATS,map_singleton→ATp
open Prod renaming ext→ASg
open Bool renaming false→ο,true→τ
open Go.Ending renaming returned→κ
open Go.IntKind renaming i64→ζ,u64→υ,u8→η
open Option renaming none→ν,some→σ
open Go.Value renaming bool→θ,int→ε,pointer→π,slice→ξ
namespace Go.Proofs.YtnkgiaimcpbhkaaGreat
open Tryz renaming prog→AGm
open Go.RowKit Go.Shelf
def Fz(l:List Nat)(at' most:Nat):Nat×Nat×Int :=
 if (uD 0 (l.drop at')).2.2=0 then (if most<(uD 0 (l.drop at')).1 then (0,0,4) else ((uD 0 (l.drop at')).1,at'+(uD 0 (l.drop at')).2.1,0)) else (0,0,(uD 0 (l.drop at')).2.2)
abbrev RD:=List Fd×Nat×Int
def jS(gs:List Fd)(r:RD):RD:=if r.2.2=0 then (gs++r.1,r.2.1,0) else ([],0,r.2.2)
def NV(l:List Nat):Nat->Nat->RD
 |0,p=>([],p,0)
 | j+1,p =>
  if (Fz l p 65536).2.2=0 then
   (if (Fz l (Fz l p 65536).2.1 65536).2.2=0 then jS [⟨((Fz l p 65536).1:Int),((Fz l (Fz l p 65536).2.1 65536).1:Int)⟩] (NV l j (Fz l (Fz l p 65536).2.1 65536).2.1)
   else ([],0,(Fz l (Fz l p 65536).2.1 65536).2.2))
  else ([],0,(Fz l p 65536).2.2)
def Gn(l:List Nat):Int×List Fd×Nat×Int :=
 if (Fz l 0 65536).2.2=0 then
  (if (Fz l (Fz l 0 65536).2.1 32).2.2=0 then
   (if (NV l (Fz l (Fz l 0 65536).2.1 32).1 (Fz l (Fz l 0 65536).2.1 32).2.1).2.2=0 then
    (if Ho ((Fz l 0 65536).1:Int) (NV l (Fz l (Fz l 0 65536).2.1 32).1 (Fz l (Fz l 0 65536).2.1 32).2.1).1=0 then
     (((Fz l 0 65536).1:Int),(NV l (Fz l (Fz l 0 65536).2.1 32).1 (Fz l (Fz l 0 65536).2.1 32).2.1).1,(NV l (Fz l (Fz l 0 65536).2.1 32).1 (Fz l (Fz l 0 65536).2.1 32).2.1).2.1,0)
    else (0,[],0,Ho ((Fz l 0 65536).1:Int) (NV l (Fz l (Fz l 0 65536).2.1 32).1 (Fz l (Fz l 0 65536).2.1 32).2.1).1))
   else (0,[],0,(NV l (Fz l (Fz l 0 65536).2.1 32).1 (Fz l (Fz l 0 65536).2.1 32).2.1).2.2))
  else (0,[],0,(Fz l (Fz l 0 65536).2.1 32).2.2))
 else (0,[],0,(Fz l 0 65536).2.2)
section
variable{l:List Nat}
theorem drop_byte(hb:∀x∈l,x<256)k:∀x∈l.drop k,x<256:=λx hx=>hb x (ASQ hx)
theorem Hm(hb:∀x∈l,x<256){p most}(hp:p<=l.length):
  (¬(Fz l p most).2.2=0/\(Fz l p most).1=0/\(Fz l p most).2.1=0) ∨
  ((Fz l p most).2.2=0/\(Fz l p most).1<=most/\p<(Fz l p most).2.1/\(Fz l p most).2.1<=l.length/\Gr (Fz l p most).1=(l.drop p).take ((Fz l p most).2.1-p)/\(Fz l p most).1<18446744073709551616):=by
 have hlt:=(dR (drop_byte hb p)).1;unfold Fz;rcases Ni (l.drop p) 0 AL (drop_byte hb p)with⟨h1,h2,h3⟩|⟨h1,h2,h3,h4,h5,h6,h7⟩
 ·rw[ATt AL];exact .inl ⟨by dsimp only;omega,rfl,rfl⟩
 ·rw[ATv h1];rw[CR]at h5;split
  ·exact .inl ⟨by simp,rfl,rfl⟩
  ·refine .inr ⟨rfl,by dsimp only;omega,by dsimp only;omega,by dsimp only;omega,?_,hlt⟩;dsimp only;rw[h7,Nat.add_sub_cancel_left]
theorem AC0 gs hs r:jS gs (jS hs r)=jS (gs++hs) r:=by
 unfold jS;by_cases h:r.2.2=0
 ·simp[h]
 ·simp[h]
theorem AAe:∀(j p:Nat),¬(NV l j p).2.2=0->NV l j p=([],0,(NV l j p).2.2)
 |0,p,h=>absurd rfl h
 | j+1,p,h=>by
  unfold NV;split
  ·split
   ·unfold jS;by_cases h2:(NV l j (Fz l (Fz l p 65536).2.1 65536).2.1).2.2=0
    ·exfalso;apply h;unfold NV jS;rw[ATv ‹_›,ATv ‹_›,ATv h2]
    ·rw[ATt h2]
   ·rfl
  ·rfl
theorem AC1 j p:jS [] (NV l j p)=NV l j p:=by
 by_cases h:(NV l j p).2.2=0
 ·unfold jS;rw[ATv h];exact ASg rfl (ASg rfl h.symm)
 ·have:=AAe j p h;unfold jS;rw[ATt h];exact this.symm
def uo(l:List Nat)(m p0 j:Nat)(gs:List Fd)(p:Nat):Prop:=j<=m/\gs.length=j/\p<=l.length/\jS gs (NV l (m-j) p)=NV l m p0
theorem mq{m p0}(h:p0<=l.length):uo l m p0 0 [] p0:=⟨by omega,rfl,h,AC1 _ _⟩
theorem uq{m p0 j p gs}(h:uo l m p0 j gs p)(hj:j<m)(e1:¬(Fz l p 65536).2.2=0):NV l m p0=([],0,(Fz l p 65536).2.2):=by
 obtain⟨ha,hg,hu,hI⟩:=h;obtain⟨d,rfl⟩:∃d,m=j+1+d:=⟨m-(j+1),by omega⟩;rw[show j+1+d-j=d+1 by omega,NV,ATt e1]at hI;rw[<-hI];unfold jS;rw[ATt e1]
theorem uu{m p0 j p gs}(h:uo l m p0 j gs p)(hj:j<m)(e1:(Fz l p 65536).2.2=0)(e2:¬(Fz l (Fz l p 65536).2.1 65536).2.2=0):NV l m p0=([],0,(Fz l (Fz l p 65536).2.1 65536).2.2):=by
 obtain⟨ha,hg,hu,hI⟩:=h;obtain⟨d,rfl⟩:∃d,m=j+1+d:=⟨m-(j+1),by omega⟩;rw[show j+1+d-j=d+1 by omega,NV,ATv e1,ATt e2]at hI;rw[<-hI];unfold jS;rw[ATt e2]
theorem uw(hb:∀x∈l,x<256){m p0 j p gs}(h:uo l m p0 j gs p)(hj:j<m)(e1:(Fz l p 65536).2.2=0)(e2:(Fz l (Fz l p 65536).2.1 65536).2.2=0):
  uo l m p0 (j+1) (gs++[⟨((Fz l p 65536).1:Int),((Fz l (Fz l p 65536).2.1 65536).1:Int)⟩]) (Fz l (Fz l p 65536).2.1 65536).2.1:=by
 obtain⟨ha,hg,hu,hI⟩:=h;obtain⟨d,rfl⟩:∃d,m=j+1+d:=⟨m-(j+1),by omega⟩;rw[show j+1+d-j=d+1 by omega,NV,ATv e1,ATv e2,AC0]at hI;rcases Hm hb hu (most:=65536)with h1|h1
 ·exact absurd e1 h1.1
 rcases Hm hb h1.2.2.2.1 (most:=65536)with h2|h2
 ·exact absurd e2 h2.1
 refine⟨by omega,by simp[hg],h2.2.2.2.1,?_⟩;rw[show j+1+d-(j+1)=d by omega];exact hI
theorem AC2{m p0 p gs}(h:jS gs (NV l (m-m) p)=NV l m p0):NV l m p0=(gs,p,0):=by
 rw[<-h,Nat.sub_self];simp[NV,jS]
end
section
variable{l:List Nat}
theorem qP(hb:∀x∈l,x<256):∀(j p:Nat),p<=l.length->(NV l j p).2.2=0->p<=(NV l j p).2.1/\(NV l j p).2.1<=l.length/\(NV l j p).1.length=j/\(l.drop p).take ((NV l j p).2.1-p)=(NV l j p).1.flatMap Oy
 |0,p,hp,h=>by simp[NV,hp]
 | j+1,p,hp,h=>by
  rw[NV]at h ⊢;by_cases e1:(Fz l p 65536).2.2=0
  ·rw[ATv e1]at h ⊢;by_cases e2:(Fz l (Fz l p 65536).2.1 65536).2.2=0
   ·rw[ATv e2]at h ⊢;rcases Hm hb hp (most:=65536)with h1|h1
    ·exact absurd e1 h1.1
    rcases Hm hb h1.2.2.2.1 (most:=65536)with h2|h2
    ·exact absurd e2 h2.1
    have h3:(NV l j (Fz l (Fz l p 65536).2.1 65536).2.1).2.2=0:=by
     unfold jS at h;by_cases e3:(NV l j (Fz l (Fz l p 65536).2.1 65536).2.1).2.2=0
     ·exact e3
     ·rw[ATt e3]at h;exact absurd h e3
    obtain⟨i1,i2,i3,i4⟩:=qP hb j _ h2.2.2.2.1 h3;unfold jS;rw[ATv h3];dsimp only;refine⟨by omega,i2,by simp[i3],?_⟩;rw[ATD,BK,<-i4];unfold Oy;dsimp only;rw[Bo,Bo,h1.2.2.2.2.1,h2.2.2.2.2.1];generalize (Fz l p 65536).2.1=a at *;generalize (Fz l a 65536).2.1=b at *;generalize (NV l j b).2.1=c at *;have e5:(l.drop p).take (c-p)=(l.drop p).take (a-p)++((l.drop p).drop (a-p)).take (c-a):=by
     rw[show c-p=(a-p)+(c-a) by omega,ATS]
    have e6:(l.drop p).drop (a-p)=l.drop a:=by rw[ATJ];congr 1;omega
    have e7:(l.drop a).take (c-a)=(l.drop a).take (b-a)++((l.drop a).drop (b-a)).take (c-b):=by
     rw[show c-a=(b-a)+(c-b) by omega,ATS]
    have e8:(l.drop a).drop (b-a)=l.drop b:=by rw[ATJ];congr 1;omega
    rw[e5,e6,e7,e8,Bh]
   ·rw[ATt e2]at h;exact absurd h e2
  ·rw[ATt e1]at h;exact absurd h e1
theorem uy(hb:∀x∈l,x<256)(h:(Gn l).2.2.2=0):Ho (Gn l).1 (Gn l).2.1=0/\WE (Gn l).1 (Gn l).2.1=l.take (Gn l).2.2.1/\(Gn l).2.2.1<=l.length:=by
 unfold Gn at *;by_cases e1:(Fz l 0 65536).2.2=0
 ·rw[ATv e1]at h ⊢;by_cases e2:(Fz l (Fz l 0 65536).2.1 32).2.2=0
  ·rw[ATv e2]at h ⊢;by_cases e3:(NV l (Fz l (Fz l 0 65536).2.1 32).1 (Fz l (Fz l 0 65536).2.1 32).2.1).2.2=0
   ·rw[ATv e3]at h ⊢;by_cases e4:Ho ((Fz l 0 65536).1:Int) (NV l (Fz l (Fz l 0 65536).2.1 32).1 (Fz l (Fz l 0 65536).2.1 32).2.1).1=0
    ·rw[ATv e4];dsimp only;rcases Hm hb (Ar _) (most:=65536)with h1|h1
     ·exact absurd e1 h1.1
     rcases Hm hb h1.2.2.2.1 (most:=32)with h2|h2
     ·exact absurd e2 h2.1
     obtain⟨i1,i2,i3,i4⟩:=qP hb _ _ h2.2.2.2.1 e3;refine⟨e4,?_,i2⟩;unfold WE;rw[Bo,i3,h1.2.2.2.2.1,h2.2.2.2.2.1,<-i4];generalize (Fz l 0 65536).2.1=a at *;generalize (Fz l a 32).2.1=b at *;generalize (Fz l a 32).1=j at *;generalize (NV l j b).2.1=c at *;rw[Aq,AUU];have e5:l.take c=l.take a++(l.drop a).take (c-a):=by
      conv=>lhs;rw[show c=a+(c-a) by omega,ATS]
     have e7:(l.drop a).take (c-a)=(l.drop a).take (b-a)++((l.drop a).drop (b-a)).take (c-b):=by
      rw[show c-a=(b-a)+(c-b) by omega,ATS]
     have e8:(l.drop a).drop (b-a)=l.drop b:=by rw[ATJ];congr 1;omega
     rw[e5,e7,e8,Bh]
    ·rw[ATt e4]at h;exact absurd h e4
   ·rw[ATt e3]at h;exact absurd h e3
  ·rw[ATt e2]at h;exact absurd h e2
 ·rw[ATt e1]at h;exact absurd h e1
end
abbrev Rs(α:Type):=Except Int (α×List Nat)
def jT(most:Nat)(l:List Nat):Rs Nat:=if (Fz l 0 most).2.2=0 then .ok ((Fz l 0 most).1,l.drop (Fz l 0 most).2.1) else .error (Fz l 0 most).2.2
def tyX(l:List Nat):Rs (Int×List Fd):=if (Gn l).2.2.2=0 then .ok (((Gn l).1,(Gn l).2.1),l.drop (Gn l).2.2.1) else .error (Gn l).2.2.2
def inX(l:List Nat):Rs Ins:=if (NM l).2.2=0 then .ok ((NM l).1,l.drop (NM l).2.1) else .error (NM l).2.2
def LP{α β:Type}(r:Rs α)(g:List Nat->Rs β):Rs (α×β) :=
 match r with
 |.error e=>.error e
 | .ok (a,l)=>match g l with
  |.error e=>.error e
  |.ok (b,l')=>.ok ((a,b),l')
def ZU{α:Type}(g:List Nat->Rs α):Nat->List Nat->Rs (List α)
 |0,l=>.ok ([],l)
 | k+1,l=>match g l with
  |.error e=>.error e
  | .ok (x,l')=>match ZU g k l' with
   |.error e=>.error e
   |.ok (xs,l'')=>.ok (x::xs,l'')
def bL{α:Type}(g:List Nat->Rs α)(most:Nat)(l:List Nat):Rs (List α) :=
 match jT most l with
 |.error e=>.error e
 |.ok (n,l')=>ZU g n l'
def AAf{α β:Type}(a:α)(xs:List β)(r:Rs (List β)):Rs (α×List β) :=
 match r with
 |.error e=>.error e
 |.ok (ys,l)=>.ok ((a,xs++ys),l)
abbrev FnQ:=(((Unit×Nat)×Nat)×Nat)×List Ins
def fnX(l:List Nat):Rs FnQ:=LP (LP (LP (LP (.ok ((),l)) (jT 1024)) (jT 1024)) (jT 1024)) (bL inX 1024)
abbrev u7:=(Unit×List (Int×List Fd))×List FnQ
def AC3(l:List Nat):Rs u7:=LP (LP (.ok ((),l)) (bL tyX 32)) (bL fnX 32)
def Out{α:Type}(r:Rs α)(a:α)(l:List Nat)(e:Int):Prop:=(e=0/\r=.ok (a,l))\/(¬e=0/\r=.error e)
def LQ(e:Int)(l:List Nat)(most:Nat):Nat×Nat×Int:=if e=0 then Fz l 0 most else (0,0,e)
section
variable{α β:Type}{l l':List Nat}{e e':Int}{a:α}{b:β}{r:Rs α}{g:List Nat->Rs β}
theorem qQ(hb:∀x∈l,x<256)most:(LQ e l most).1<=most/\(LQ e l most).2.1<=l.length/\(¬(LQ e l most).2.2=0->(LQ e l most).1=0/\(LQ e l most).2.1=0):=by
 unfold LQ;split
 ·rcases Hm hb (Ar _) (most:=most)with h|h
  ·exact⟨by omega,by omega,λ_=>h.2⟩
  ·exact⟨h.2.1,h.2.2.2.1,λh2=>absurd h.1 h2⟩
 ·exact⟨by simp,by simp,λ_=>⟨rfl,rfl⟩⟩
theorem Out.start(a:α)l:Out (.ok (a,l)) a l 0:=.inl ⟨rfl,rfl⟩
theorem Out.seq(h:Out r a l e)(h1:e=0->Out (g l) b l' e')(h2:¬e=0->e'=e):Out (LP r g) (a,b) l' e':=by
 rcases h with⟨he,rfl⟩|⟨he,rfl⟩
 ·rcases h1 he with⟨k1,k2⟩|⟨k1,k2⟩
  ·exact .inl ⟨k1,by unfold LP;simp only[k2]⟩
  ·exact .inr ⟨k1,by unfold LP;simp only[k2]⟩
 ·have:=h2 he;subst this;exact .inr ⟨he,rfl⟩
theorem jU{most q}(hq:LQ 0 l most=q):Out (jT most l) q.1 (l.drop q.2.1) q.2.2:=by
 unfold LQ at hq;rw[ATv rfl]at hq;subst hq;unfold jT;by_cases h:(Fz l 0 most).2.2=0
 ·exact .inl ⟨h,by rw[ATv h]⟩
 ·exact .inr ⟨h,by rw[ATt h]⟩
theorem Out.num{most q}(h:Out r a l e)(hq:LQ e l most=q):Out (LP r (jT most)) (a,q.1) (l.drop q.2.1) q.2.2:=by
 refine h.seq (λhe=>?_) (λhe=>?_)
 ·subst he;exact jU hq
 ·unfold LQ at hq;rw[ATt he]at hq;rw[<-hq]
theorem u_ xs y(r:Rs (List β)):AAf a (xs++[y]) r=AAf a xs (match r with | .error e=>.error e | .ok (ys,l)=>.ok (y::ys,l)):=by
 cases r with
 |error e=>rfl
 |ok p=>obtain⟨ys,l⟩:=p;simp[AAf]
def Lc(g:List Nat->Rs β)(T:Rs (α×List β))(a:α)(m j:Nat)(xs:List β)(l:List Nat)(e:Int):Prop :=
 j<=m/\xs.length=j/\((e=0/\T=AAf a xs (ZU g (m-j) l))\/(¬e=0/\T=.error e))
variable{T:Rs (α×List β)}{m j:Nat}{xs:List β}{x:β}
theorem Lc.start{most q}(h:Out r a l e)(hq:LQ e l most=q):Lc g (LP r (bL g most)) a q.1 0 [] (l.drop q.2.1) q.2.2:=by
 refine⟨by omega,rfl,?_⟩;rcases h with⟨he,rfl⟩|⟨he,rfl⟩
 ·subst he;rcases jU hq with⟨k1,k2⟩|⟨k1,k2⟩
  ·refine .inl ⟨k1,?_⟩;unfold LP bL;simp only[k2,AUU];cases ZU g q.1 (l.drop q.2.1)with
   |error e=>rfl
   |ok p=>rfl
  ·refine .inr ⟨k1,?_⟩;unfold LP bL;simp only[k2]
 ·unfold LQ at hq;rw[ATt he]at hq;subst hq;exact .inr ⟨he,rfl⟩
theorem Lc.step(h:Lc g T a m j xs l 0)(hj:j<m)(hx:Out (g l) x l' e'):Lc g T a m (j+1) (xs++[x]) l' e':=by
 obtain⟨h1,h2,h3⟩:=h;refine⟨by omega,by simp[h2],?_⟩;rcases h3 with⟨-,h3⟩|⟨h3,-⟩
 ·obtain⟨d,rfl⟩:∃d,m=j+1+d:=⟨m-(j+1),by omega⟩;rw[show j+1+d-j=d+1 by omega,ZU]at h3;rw[show j+1+d-(j+1)=d by omega];rcases hx with⟨k1,k2⟩|⟨k1,k2⟩
  ·simp only[k2]at h3;exact .inl ⟨k1,by rw[h3,u_]⟩
  ·simp only[k2]at h3;exact .inr ⟨k1,h3⟩
 ·exact absurd rfl h3
theorem Lc.fin(h:Lc g T a m j xs l e)(hj:¬j<m∨¬e=0):Out T (a,xs) l e:=by
 obtain⟨h1,h2,h3⟩:=h;rcases h3 with⟨k1,k2⟩|⟨k1,k2⟩
 ·obtain rfl:j=m:=by
   rcases hj with h|h
   ·omega
   ·exact absurd k1 h
  rw[Nat.sub_self]at k2;exact .inl ⟨k1,by rw[k2];simp[AAf,ZU]⟩
 ·exact .inr ⟨k1,k2⟩
theorem Lc.err(h:Lc g T a m j xs l e)(he:¬e=0):T=.error e:=by
 rcases h.2.2 with h|h
 ·exact absurd h.1 he
 ·exact h.2
theorem Lc.zero(h:Lc g T a m j xs l e)(he:e=0):Lc g T a m j xs l 0:=he▸h
theorem AC4 l:Out (tyX l) ((Gn l).1,(Gn l).2.1) (l.drop (Gn l).2.2.1) (Gn l).2.2.2:=by
 unfold tyX;by_cases h:(Gn l).2.2.2=0
 ·exact .inl ⟨h,by rw[ATv h]⟩
 ·exact .inr ⟨h,by rw[ATt h]⟩
theorem AC5 l:Out (inX l) (NM l).1 (l.drop (NM l).2.1) (NM l).2.2:=by
 unfold inX;by_cases h:(NM l).2.2=0
 ·exact .inl ⟨h,by rw[ATv h]⟩
 ·exact .inr ⟨h,by rw[ATt h]⟩
end
def fnD(g:Gc):Int×Int×Int×List Ins:=(g.p,g.r,g.l,g.code)
def UK(m:Ei):List (Int×List Fd)×List (Int×Int×Int×List Ins):=(m.ts.map λt=>(t.len,t.fs),m.gs.map fnD)
def qD(q:FnQ):Int×Int×Int×List Ins:=((q.1.1.1.2:Int),(q.1.1.2:Int),(q.1.2:Int),q.2)
def vB(q:u7):List (Int×List Fd)×List (Int×Int×Int×List Ins):=(q.1.2,q.2.map qD)
theorem Xg:∀ {ts us:List QU},(ts.map λt=>(t.len,t.fs))=(us.map λt=>(t.len,t.fs))->firstT ts=firstT us
 |[],[],_=>rfl
 |[],_::_,h=>by simp at h
 |_::_,[],h=>by simp at h
 | t::ts,u::us,h=>by
  simp only[BJ,ATb,ATN]at h;obtain⟨⟨h1,h2⟩,h3⟩:=h;rw[firstT,firstT,h1,h2,Xg h3]
theorem AF5{f g}(h:fnD f=fnD g):f.p=g.p/\f.r=g.r/\f.l=g.l/\f.code=g.code:=by
 unfold fnD at h;simpa using h
theorem AAg{i f g}(h:fnD f=fnD g):Mi i f=Mi i g:=by
 obtain⟨h1,h2,h3,h4⟩:=AF5 h;unfold Mi Lp;rw[h1,h2,h3,h4]
theorem Xh:∀ {i:Nat} {fs gs:List Gc},fs.map fnD=gs.map fnD->JE i fs=JE i gs
 |_,[],[],_=>rfl
 |_,[],_::_,h=>by simp at h
 |_,_::_,[],h=>by simp at h
 | i,f::fs,g::gs,h=>by
  simp only[BJ,ATb]at h;rw[JE,JE,AAg h.1,Xh h.2]
theorem qR{α β:Type}{f:α->β}{xs ys:List α}(h:xs.map f=ys.map f):xs.length=ys.length:=by
 have:=AT4 CP h;simpa using this
theorem AAh{m k}(h:UK m=UK k):Gx m=Gx k:=by
 unfold UK at h;simp only[ATN]at h;have h1:=qR h.1;have h2:=qR h.2;unfold Gx XK;rw[Xg h.1,Xh h.2,h1,h2]
def ofD(d:List (Int×List Fd)×List (Int×Int×Int×List Ins)):Ei:=⟨ν,0,0,d.1.map λt=>⟨t.1,ν,0,0,t.2⟩,ν,0,0,d.2.map λf=>⟨f.1,f.2.1,f.2.2.1,ν,0,0,f.2.2.2⟩⟩
theorem AAi d:UK (ofD d)=d:=by
 obtain⟨a,b⟩:=d;unfold ofD UK;simp only[ATG];congr 1
 ·exact(ATI λx _=>rfl).trans (List.map_id _)
 ·exact(ATI λx _=>rfl).trans (List.map_id _)
def mr(l:List Nat):Except Int u7 :=
 match AC3 l with
 |.error e=>.error e
 |.ok (q,r)=>if r=[] then .ok q else .error 3
theorem AAj{l e}(h:AC3 l=.error e):mr l=.error e:=by unfold mr;rw[h]
theorem AAk{l}(h:¬(Gn l).2.2.2=0):(Gn l).2.2.1=0:=by
 unfold Gn at *;by_cases h1:(Fz l 0 65536).2.2=0
 ·rw[ATv h1]at h ⊢;by_cases h2:(Fz l (Fz l 0 65536).2.1 32).2.2=0
  ·rw[ATv h2]at h ⊢;by_cases h3:(NV l (Fz l (Fz l 0 65536).2.1 32).1 (Fz l (Fz l 0 65536).2.1 32).2.1).2.2=0
   ·rw[ATv h3]at h ⊢;split
    ·rename_i h4;rw[ATv h4]at h;exact absurd rfl h
    ·rfl
   ·rw[ATt h3]
  ·rw[ATt h2]
 ·rw[ATt h1]
def AC7(r:Except Int u7):Except Int (List (Int×List Fd)×List (Int×Int×Int×List Ins)) :=
 match r with
 |.error e=>.error e
 |.ok q=>if (Gx (ofD (vB q))).1=0 then .ok (vB q) else .error (Gx (ofD (vB q))).1
def TE(b:List Nat):Except Int (List (Int×List Fd)×List (Int×Int×Int×List Ins)) :=
 if 65536<b.length then .error 4 else if ¬b.take 4=JH then .error 3 else AC7 (mr (b.drop 4))
theorem AC8{r:Except Int u7}{q m}(h:r=.ok q)(hm:UK m=vB q):AC7 r=if (Gx m).1=0 then .ok (UK m) else .error (Gx m).1:=by
 subst h;unfold AC7;dsimp only;rw[AAh (m:=ofD (vB q)) (k:=m) (by rw[AAi,hm]),hm]
def qU(A:Option Addr)(n c used:Nat)(err:Int):List Value:=[ξ A n c,ε ζ (used:Int),ε ζ err]
def vC(d:Int×List Fd×Nat×Int)(v:Value):Value:=.tuple #[.agg #[ε ζ d.1,v],ε ζ (d.2.2.1:Int),ε ζ d.2.2.2]
def qV(A:Option Addr)(n c:Nat)(err:Int):List Value:=[ξ A n c,ε ζ err]
structure Lt(W:World)(r:Nat)(A:Option Addr)(n c:Nat)(l:List Nat):Prop where
 sl:Sl W W.heap.size 1 A n c (Gf l)
 ap:0<n->TJ A [r]
 bt:∀x∈l,x<256
 sz:n<=4611686018427387904
structure jV(A:Option Addr)(n c:Nat)(l:List Nat)(e:Int)(most v:Nat)(A':Option Addr)(n' c':Nat)(l':List Nat)(e':Int):Prop where
 ex:∃k,LQ e l most=(v,k,e')/\A'=IV c k 1 A/\n'=n-k/\c'=c-k/\l'=l.drop k
 le:v<=most
 err:¬e'=0->v=0
 mo:most<=1000000
section
variable{W w:World}{r n c n' c' most v:Nat}{A A':Option Addr}{l l':List Nat}{e e':Int}{L:List DW}{α β:Type}{a:α}{R:Rs α}{g:List Nat->Rs β}
theorem Lt.len(h:Lt W r A n c l):l.length=n:=Ew h.sl.len
theorem Lt.drop(h:Lt W r A n c l){k}(hk:k<=n):Lt W r (IV c k 1 A) (n-k) (c-k) (l.drop k):=by
 have hsz:=h.sz;refine⟨h.sl.V7 hk,λhn=>?_,drop_byte h.bt k,by omega⟩;obtain⟨b0,off,e,-,-⟩:=h.sl.cells AL;exact(h.ap AL).IV (.inr ⟨b0,off,e⟩) _ _ _
theorem Lt.at(h:Lt W r A n c l)(hw:St [r] W L w):Lt w r A n c l:=⟨h.sl.Gq hw h.ap,h.ap,h.bt,h.sz⟩
def Sub(r:Nat)(A:Option Addr)(n c:Nat)(l:List Nat)(A':Option Addr)(n' c':Nat)(l':List Nat):Prop := ∀V,Lt V r A n c l->Lt V r A' n' c' l'
theorem Sub.drop{A0 n0 c0 l0}(h:Sub r A0 n0 c0 l0 A n c l){k}(hk:k<=n):Sub r A0 n0 c0 l0 (IV c k 1 A) (n-k) (c-k) (l.drop k):=λV hV=>(h V hV).drop hk
theorem jV.sub{A0 n0 c0 l0}(h:jV A n c l e most v A' n' c' l' e')(hs:Sub r A0 n0 c0 l0 A n c l):Sub r A0 n0 c0 l0 A' n' c' l':=λV hV=>by
 obtain⟨k,h1,rfl,rfl,rfl,rfl⟩:=h.ex;have hL:=hs V hV;have hq:=qQ (e:=e) hL.bt most;rw[h1]at hq;have hl:=hL.len;have hq2:k<=l.length:=hq.2.1;exact hL.drop (k:=k) AL
theorem Sub.refl:Sub r A n c l A n c l:=λ_ h=>h
theorem Lt.num(h:Lt W r A n c l)e most(hm:most<=1000000):∃v A' n' c' l' e',jV A n c l e most v A' n' c' l' e'∧Lt W r A' n' c' l':=by
 have hq:=qQ (e:=e) h.bt most;have hl:=h.len;exact⟨(LQ e l most).1,_,_,_,_,(LQ e l most).2.2,⟨⟨(LQ e l most).2.1,rfl,rfl,rfl,rfl,rfl⟩,hq.1,λh=>(hq.2.2 h).1,hm⟩,h.drop (k:=(LQ e l most).2.1) AL⟩
theorem jV.out(h:jV A n c l e most v A' n' c' l' e')(ho:Out R a l e):Out (LP R (jT most)) (a,v) l' e':=by
 obtain⟨k,h1,-,-,-,rfl⟩:=h.ex;exact ho.num h1
theorem jV.start(h:jV A n c l e most v A' n' c' l' e')(ho:Out R a l e):Lc g (LP R (bL g most)) a v 0 [] l' e':=by
 obtain⟨k,h1,-,-,-,rfl⟩:=h.ex;have:=Lc.start (g:=g) ho h1;exact this
theorem qW(hb:∀x∈l,x<256):(NM l).1.arg<18446744073709551616/\(NM l).2.1<=l.length/\(¬(NM l).2.2=0->(NM l).2.1=0):=by
 cases l with
 |nil=>exact⟨by decide,by decide,λ_=>rfl⟩
 | cons x l =>
  have hlt:=dR (l:=l) λy hy=>hb y AWo;rw[N7];split
  ·exact⟨by decide,by simp,λ_=>rfl⟩
  ·split
   ·exact⟨by simp,by simp,λh=>absurd rfl h⟩
   ·split
    ·refine⟨hlt.1,?_,λh=>absurd rfl h⟩;have:=hlt.2.1;rw[Av];dsimp only;omega
    ·exact⟨by simp,by simp,λ_=>rfl⟩
end
def UL:Ei:=⟨ν,0,0,[],ν,0,0,[]⟩
def tyD(t:QU):Int×List Fd:=(t.len,t.fs)
def ldP(l:List Nat)(m:Ei)(f:pz):Prop :=
 (∃e,¬e=0/\TE l=.error e/\m=UL/\f=(e,-1,-1))\/(∃k:Ei,TE l=.ok (UK k)/\((Mw k).1=0/\m=k/\f=Hl∨¬(Mw k).1=0/\m=UL/\f=Mw k))
def mdΦ(l:List Nat)(i:Ei×Int)(w w':World):Prop :=
 LH w' (Nw w w') i.1/\((i.2=0/\TE l=.ok (UK i.1))\/(¬i.2=0/\TE l=.error i.2/\i.1=UL))
def mdV(i:Ei×Int):Value:=.tuple #[Ie i.1,ε ζ i.2]
theorem m_ w D:LH w D UL:=⟨Sd.nil,by simp[UL],Sd.nil,by simp[UL],by simp[UL]⟩
theorem nC{l e}w w'(he:¬e=0)(h:TE l=.error e):mdΦ l (UL,e) w w':=⟨m_ _ _,.inr ⟨he,h,rfl⟩⟩
theorem GX A n c l(x:Nat)W(hE:Sl W W.heap.size 1 A n c (Gf l))(hn:n<=10000000)(hx:x<18446744073709551616):
  Calls AGm 82 #[ξ A n c,ε υ x] W (rowP 5 1 (λv=>v) (Gf (l++Gr x)) W):=by
 have hln:l.length=n:=Ew hE.len;have hp:=El hx;refine DL (M:=[]) Tryz.func82 [.tmp 4] (St.nil _ _) ?_;have zs:=Bd.mk VX;refine DZ ?_;refine C9 rfl λK k0=>DR ?_;intro b hb;refine EI 0 Vn rfl rfl (λw hw=>(hE.at hw).reads) (MQ _) AL AL ?_;intro A1 c1 hl1 _;refine DR (k0 _ _ ?_);refine DC [1,5] λG1 g1=>?_;replace g1:=EK g1;refine Cw λK k0=>DK ?_;refine Dv (λF' L' => ∃(y:Nat)(m:List Nat)(A6:Option Addr)(n6 c6:Nat),F' 1=ε υ (y:Int)/\F' 5=ξ A6 n6 c6/\L'=[.row (ξ A6 n6 c6) 5 1 n6 (Gf m)]/\y<=x/\m++Gr y=l++Gr x/\n6+(Gr y).length<=10000010) (λF' L'=>(intOf (F' 1)).toNat) ?_ ?_
 ·refine⟨x,l,A1,n,c1,?_⟩;have zg:=Bd.mk g1;refine DD ?_;omega
 ·intro G2 L' hI;obtain⟨y,m,A6,n6,c6,fV,Mq,rfl,⟨hy,hm,h6⟩⟩:=hI;have g2:=AO fV Mq;refine Cw λK k1=>?_;have zg:=Bd.mk (AO g1 g2);refine Db ?_;refine Ec (λhc=>?_) λhc=>?_
  ·refine Cz ?_;try simp only[Di,Dq]
   have hy1:¬y<128:=by simp at hc;omega
   rw[PU hy1]at hm h6;simp only[Av]at h6;have e1:IntKind.u64.wrap ((y:Int) % 128+128)=((y % 128+128:Nat):Int):=by rw[IntKind.wrap_u64];omega
   have e2:IntKind.u8.wrap ((y % 128+128:Nat):Int)=((y % 128+128:Nat):Int):=by rw[IntKind.wrap_u8];omega
   have e3:IntKind.u64.wrap ((y:Int) / 128)=((y / 128:Nat):Int):=by rw[IntKind.wrap_u64];omega
   refine k1 _ _ (DK (C9 rfl λK k1=>DU (AO e1 e2) ?_));intro b hb;refine D6 1 Vn rfl (λw hw=>D_ (size:=1) (.head _) rfl hw) rfl AL AL ?_;intro A' c' hl _;refine DD (k1 _ _ ?_);refine DY [0] ?_;refine DJ rfl (DU e3 ?_);refine⟨⟨y / 128,m++[y % 128+128],A',n6+1,c',?_⟩,?_⟩
   ·refine DU @V3 ?_;exact⟨by omega,by rw[<-hm];simp,by omega⟩
   ·simp -implicitDefEqProofs (disch:=first|omega|decide) only [seval,-Int.reducePow,-Nat.reducePow,cC,pv,D5,EH,undef,VX,intOf,g1,g2];omega
  ·refine Dr (k0 _ _ ?_);have hy1:y<128:=by simp at hc;omega
   rw[KV hy1]at hm h6;refine C9 rfl λK k0=>?_;simp -implicitDefEqProofs (disch:=first|omega|decide) only [seval,-Int.reducePow,-Nat.reducePow,cC,pv,D5,EH,undef,VX,AGz hy1,g1,g2];intro b hb;refine D6 1 Vn rfl (λw hw=>D_ (size:=1) (.head _) rfl hw) rfl (by (simp at h6;omega)) (by (simp at h6;omega)) ?_;intro A' c' hl _;refine DD (k0 _ _ ?_);refine C8 (EP λw hw=>?_);exact⟨A',_,c',rfl,by rw[<-hm,V3];exact Kz (hw.holds _ (.head _)) (hw.own _ (.head _)),hw.below⟩
theorem AAl{l:List Nat}{j x}(h:l[j]?=σ x):val (l.drop j)=x % 128+128*val (l.drop (j+1)):=by rw[drop_at h];rfl
theorem UM A n c l W(hE:Sl W W.heap.size 1 A n c (Gf l))(hb:∀x∈l,x<256):
  Calls AGm 176 #[ξ A n c] W λe w'=>e=κ (uV (uD 0 l))/\Below W.heap.size W w':=by
 have hln:l.length=n:=Ew hE.len;have hcap:=hE.cap;have hmax:=hE.max;refine DL (M:=[]) Tryz.func176 [.tmp 2,.tmp 3,.tmp 4] (St.nil _ _) ?_;have zs:=Bd.mk VX;refine DZ ?_;refine DZ ?_;refine DC [0,5] λG3 g3=>?_;replace g3:=EK g3;refine Cw λK k0=>DK ?_;refine Dv (λF' L' => ∃(k:Nat),F' 0=G3 0/\F' 5=ε ζ (k:Int)/\L'=[]/\k<=n/\k<=10/\(∀j,j<k->128<=l.getD j 0)) (λF' L'=>10-(intOf (F' 5)).toNat) ?_ ?_
 ·refine⟨0,?_⟩;have zg:=Bd.mk g3;refine DD ?_;exact⟨by omega,λj hj=>by omega⟩
 ·intro G4 L' hI;obtain⟨k,Nk,Mq,rfl,⟨hk,hk10,hl⟩⟩:=hI;have zg:=Bd.mk g3;have g4:=AO (Dy Nk) Mq;refine Cw λK k1=>Cw λK k2=>?_;refine Df (λ_ _=>True) (λF' L'=>EH F' G4 [0,5]/\F' 22=θ (decide (k<n/\k<10/\128<=l.getD k 0))/\L'=[]) ?_ ?_
  ·by_cases hlt:k<n
   ·obtain⟨b0,off,rfl,hb0,-⟩:=hE.cells AL;obtain⟨x,hx⟩:=Zg (l:=l) (i:=k) AL;have hlt':(k:Int)<n:=by omega
    by_cases h10:k<10
    ·have jW:(k:Int)<10:=by omega
     refine Cy rfl ?_;replace zg:=Bd.mk (AO g3 g4);refine DU (AO hlt' jW) ?_;refine DX (hE.ld1 (m:=1) AF (Kq hx)) ?_;refine DU (AO hlt' jW) ?_;rw[Zf hx];all_goals (repeat' refine AO ?_ ?_)
     all_goals exact Ev
    ·have jW:¬(k:Int)<10:=by omega
     refine Cy rfl ?_;replace zg:=Bd.mk (AO g3 g4);refine DU (AO hlt' jW) ?_;all_goals (first|(simp[h10];done)|(simp[h10];omega))
   ·have hlt':¬(k:Int)<n:=by omega
    refine Cy rfl ?_;replace zg:=Bd.mk (AO g3 g4);refine DU hlt' ?_;all_goals (first|(simp[hlt];done)|(simp[hlt];omega))
  ·intro G5 L' _ hF;obtain⟨zq,kr,rfl⟩:=hF;replace zg:=Bd.mk g4;have g5:=AO (Dy zq) kr;refine k2 _ _ ?_;replace zg:=Bd.mk (AO g3 (AO g4 g5));refine Ec (λhc=>?_) λhc=>?_
   ·refine Cz ?_;try simp only[Di,Dq]
    have hc:=AT0 hc;refine k1 _ _ (DK (DJ rfl (DU @DT ?_)));refine⟨⟨k+1,?_⟩,?_⟩
    ·refine DU @Af ?_;refine⟨by omega,by omega,λj hj=>?_⟩;by_cases e:j=k
     ·subst e;exact hc.2.2
     ·exact hl j AL
    ·exact AXo
   ·refine Dr (k0 _ _ ?_);have hc:=AUD hc;refine Cw λK k0=>Cw λK k1=>?_;refine Df (λ_ _=>True) (λF' L'=>EH F' G5 [0,5]/\F' 32=θ (decide (k=n/\k<10))/\L'=[]) ?_ ?_
    ·exact AWs
    ·intro G6 L' _ hF;obtain⟨zq,AEk,rfl⟩:=hF;have g6:=AO (Dy zq) AEk;refine k1 _ _ ?_;replace zg:=Bd.mk (AO g3 (AO g4 g6));refine Ec (λhc=>?_) λhc=>?_
     ·have h2:=AT0 ‹_›;refine Db ?_;refine C8 (EP λw hw=>?_);rw[wO hb hl AL h2.2];exact AVR
     ·have h2:=AUD ‹_›;refine Cz (k0 _ _ (Cw λK k0=>Cw λK k1=>?_));refine Df (λ_ _=>True) (λF' L'=>EH F' G6 [0,5]/\F' 55=θ (decide (k=10\/(k=9/\1<l.getD k 0)\/(0<k/\l.getD k 0=0)))/\L'=[]) ?_ ?_
      ·by_cases h10:k=10
       ·subst h10;refine Cy rfl (DD ?_);all_goals (first|(simp;done)|(simp;omega))
       ·obtain⟨b0,off,rfl,hb0,-⟩:=hE.cells AL;obtain⟨x,hx⟩:=Zg (l:=l) (i:=k) AL;have jW:¬(k:Int)=10:=by omega
        rw[Zf hx];by_cases h9:k=9
        ·subst h9;by_cases h1:1<x
         ·have h1':(1:Int)<x:=by omega
          refine Cy rfl (DU h1' ?_);refine DX (hE.ld1 (m:=1) AF (Kq hx)) ?_;exact AVe
         ·have h1':¬(1:Int)<x:=by omega
          refine Cy rfl (DU h1' ?_);refine DX (hE.ld1 (m:=1) AF (Kq hx)) ?_;refine DU h1' ?_;refine DX (hE.ld1 (m:=1) AF (Kq hx)) ?_;exact AVe
        ·have h9':¬(k:Int)=9:=by omega
         by_cases h0:0<k
         ·have h0':(0:Int)<k:=by omega
          refine Cy rfl (DU (AO jW (AO h9' h0')) ?_);refine DX (hE.ld1 (m:=1) AF (Kq hx)) ?_;refine DU (AO jW (AO h9' h0')) ?_;all_goals (repeat' refine AO ?_ ?_)
          all_goals exact Ev
         ·have h0':¬(0:Int)<k:=by omega
          refine Cy rfl (DU (AO jW (AO h9' h0')) ?_);all_goals (first|(simp[h10,h9,h0];done)|(simp[h10,h9,h0];omega))
      ·intro G7 L' _ hF;obtain⟨zq,AMD,rfl⟩:=hF;have g7:=AO (Dy zq) AMD;refine k1 _ _ ?_;replace zg:=Bd.mk (AO g3 (AO g4 g7));refine Ec (λhc=>?_) λhc=>?_
       ·have h3:=AT0 ‹_›;refine Db ?_;refine C8 (EP λw hw=>?_);have hU:uD 0 l=(0,0,3):=by
         by_cases h10:k=10
         ·exact wP hb hl AL h10
         ·exact AEO hb hl AL AL (by rcases h3 with h|h|h;exact absurd h h10;exact .inl h;exact .inr h)
        rw[hU];exact AVR
       ·have h3:=AUD ‹_›;have hk9:k<=9:=by omega
        have hU:=ABU hb hl (show k<l.length by omega) hk9 AL AL;have hlt:=(dR hb).1;rw[hU]at hlt;simp only at hlt;refine Cz (k0 _ _ (Db ?_));refine Cw λK k0=>Db ?_;refine DC [0,5,6,7] λG8 g8=>?_;replace g8:=Dy g8;refine DK ?_;refine Dv (λF' L' => ∃(i:Nat),EH F' G8 [0,5]/\F' 6=ε υ (val ((l.take (k+1)).drop i):Int)/\F' 7=ε ζ ((i:Int)-1)/\L'=[]/\i<=k+1) (λF' L'=>(intOf (F' 7)+1).toNat) ?_ ?_
        ·refine⟨k+1,?_⟩;have e0:val ((l.take (k+1)).drop (k+1))=0:=by rw[Br (by rw[Al];omega)];rfl
         replace zg:=Bd.mk (AO g3 (AO g4 g8));refine DU e0 ?_;exact AT4 (Value.int ζ) AL
        ·intro G9 L' hI;obtain⟨i,zq,Ms,Pg,rfl,hi⟩:=hI;replace zg:=Bd.mk g8;have g9:=AO (Dy zq) (AO Ms Pg);refine Cw λK k1=>?_;replace zg:=Bd.mk (AO g3 (AO g4 (AO g8 g9)));refine Db ?_;refine Ec (λhc=>?_) λhc=>?_
         ·refine Cz ?_;try simp only[Di,Dq]
          obtain⟨j,rfl⟩:∃j,i=j+1:=⟨i-1,by simp at hc;omega⟩;obtain⟨b0,off,rfl,hb0,-⟩:=hE.cells AL;obtain⟨x,hx⟩:=Zg (l:=l) (i:=j) AL;have hxb:=hb x (AU hx);have hx2:(l.take (k+1))[j]?=σ x:=by rw[Bu,ATv AL];exact hx
          have hs:=AAl hx2;have hle:=Ua (l.take (k+1)) j;generalize val ((l.take (k+1)).drop (j+1))=v at *;have e0:((j+1:Nat):Int)-1=(j:Int):=by omega
          have e1:IntKind.u64.wrap ((v:Int)*128)=((v*128:Nat):Int):=by rw[IntKind.wrap_u64];omega
          have e2:IntKind.u64.wrap ((x:Int) % 128)=((x % 128:Nat):Int):=by rw[IntKind.wrap_u64];omega
          have e3:IntKind.u64.wrap (((v*128:Nat):Int)+((x % 128:Nat):Int))=(val ((l.take (k+1)).drop j):Int):=by rw[IntKind.wrap_u64,hs];omega
          have e4:IntKind.i64.wrap ((j:Int)-1)=(j:Int)-1:=DT AL AL;refine k1 _ _ (Cw λK k1=>DK (DJ rfl (DU (AO e0 e1) ?_)));refine DX (hE.ld1 (m:=1) AF (Kq hx)) ?_;refine DU (AO e1 (AO e2 e3)) (k1 _ _ ?_);refine Cy rfl (DU (AO e0 e4) ?_);refine⟨⟨j,?_⟩,?_⟩
          ·refine DD ?_;omega
          ·exact AXo
         ·refine Dr (k0 _ _ ?_);obtain rfl:i=0:=by simp at hc;omega
          refine KU @DT ?_;refine C8 (EP λw hw=>?_);rw[hU];exact AVR
def iV(r:Nat×Nat×Int):Value:=.tuple #[ε ζ (r.1:Int),ε ζ (r.2.1:Int),ε ζ r.2.2]
def nD:=AO (AO (AO @LZ.eq_1 @G_.eq_1) (AO @Ub.eq_1 @PE.eq_1)) (AO (AO @qU.eq_1 @uV.eq_1) (AO @iV.eq_1 (AO @Ac @vC.eq_1)))
theorem Qb A n c l(p most:Nat)W(hE:Sl W W.heap.size 1 A n c (Gf l))(hb:∀x∈l,x<256)(hp:p<=n)(hn:n<=4611686018427387904)(hm:most<=1000000):
  Calls AGm 208 #[ξ A n c,ε ζ (p:Int),ε υ (most:Int)] W λe w'=>e=κ (iV (Fz l p most))/\Below W.heap.size W w':=by
 have hln:l.length=n:=Ew hE.len;have hcap:=hE.cap;have hmax:=hE.max;have hbd:=drop_byte hb p;obtain⟨q,hq⟩:∃q,uD 0 (l.drop p)=q:=⟨_,rfl⟩;have hqc:=Ni (l.drop p) 0 AL hbd;rw[hq,CR,hln]at hqc;refine DL (M:=[]) Tryz.func208 [.tmp 6,.tmp 7,.tmp 8] (St.nil _ _) ?_;have zs:=Bd.mk nD;refine DZ ?_;refine C9 rfl λK k0=>DR ?_;refine DI (λw hw=>UM (IV c p 1 A) (n-p) (c-p) (l.drop p) w ((hE.at hw).V7 hp) hbd) ?_;try refine Ed hq ?_
 refine k0 _ _ (Cw λK k0=>DZ ?_);refine NC (λhc=>?_) λhc=>?_
 ·have h0:¬q.2.2=0:=by simpa using hc
  refine DZ ?_;refine C8 (Eg λw hw=>?_);exact⟨by unfold Fz;rw[hq,ATt h0];rfl,hw.below⟩
 have h0:q.2.2=0:=by simpa using hc
 refine Cz (k0 _ _ (Cw λK k0=>DZ ?_));refine NC (λhc=>?_) λhc=>?_
 ·have hm1:most<q.1:=by have:=AT0 ‹_›;omega
  refine DZ ?_;refine C8 (Eg λw hw=>?_);exact⟨by unfold Fz;rw[hq,ATv h0,ATv hm1];rfl,hw.below⟩
 have hm1:¬most<q.1:=by have:=AUD ‹_›;omega
 have hql:p+q.2.1<=n:=by
  rcases hqc with h|h
  ·omega
  ·have:=h.2.2.2.2.1;omega
 have e9:IntKind.i64.wrap ((p:Int)+(q.2.1:Int))=((p+q.2.1:Nat):Int):=by rw[DT AL AL];omega
 have e8:IntKind.i64.wrap (q.1:Int)=(q.1:Int):=DT AL AL;refine Cz (k0 _ _ (Mo (AO e9 e8) ?_));refine C8 (Eg λw hw=>?_);exact⟨by unfold Fz;rw[hq,ATv h0,ATt hm1];rfl,hw.below⟩
theorem jX A n c l W(hE:Sl W W.heap.size 1 A n c (Gf l))(hb:∀x∈l,x<256)(hn:n<=4611686018427387904):
  Calls AGm 177 #[ξ A n c] W (rowP 258 2 (vC (Gn l)) (cl NR (Gn l).2.1) W):=by
 have hln:l.length=n:=Ew hE.len;obtain⟨q1,h1⟩:∃q,Fz l 0 65536=q:=⟨_,rfl⟩;have k1:=Hm hb (p:=0) (most:=65536) AL;rw[h1]at k1;refine ER (M:=[]) (n:=82) [.cell 2 216,.tmp 3,.tmp 4] rfl Tryz.func177 rfl rfl (Am rfl) (St.nil _ _) ?_;refine C9 rfl λK k0=>?_;have zs:=Bd.mk nD;refine DR ?_;intro b2 hb2;refine k0 _ _ (C9 rfl λK k0=>DR ?_);refine DI (λw hw=>Qb A n c l 0 65536 w (hE.at hw) hb AL hn AL) ?_;try refine Ed h1 ?_
 refine k0 _ _ (Cw λK k0=>DZ ?_);refine NC (λhc=>?_) λhc=>?_
 ·have h0:¬q1.2.2=0:=by simpa using hc
  have hD:Gn l=(0,[],0,q1.2.2):=by unfold Gn;rw[h1,ATt h0]
  exact AW5
 have h0:q1.2.2=0:=by simpa using hc
 have k1:=k1.resolve_left λh=>h.1 h0;obtain⟨q2,h2⟩:∃q,Fz l q1.2.1 32=q:=⟨_,rfl⟩;obtain⟨q3,h3⟩:∃q,Fz l q1.2.1 65536=q:=⟨_,rfl⟩;have k3:=Hm hb (p:=q1.2.1) (most:=65536) k1.2.2.2.1;rw[h3]at k3;have h23:q2=if q3.2.2=0 then (if 32<q3.1 then (0,0,4) else q3) else q3:=by
  rw[<-h2,<-h3];unfold Fz;by_cases e:(uD 0 (l.drop q1.2.1)).2.2=0
  ·simp only[ATv e];by_cases e2:65536<(uD 0 (l.drop q1.2.1)).1
   ·rw[ATv e2,ATv AL];simp
   ·rw[ATt e2];simp
  ·simp only[ATt e]
 refine Cz (k0 _ _ (C9 rfl λK k0=>DR ?_));refine DI (λw hw=>Qb A n c l q1.2.1 65536 w (hE.at hw) hb AL hn AL) ?_;try refine Ed h3 ?_
 refine k0 _ _ (Cw λK k0=>DZ ?_);refine NC (λhc=>?_) λhc=>?_
 ·have hz:¬q3.2.2=0:=by simpa using‹(!decide (q3.2.2=0))=τ›
  rw[ATt hz]at h23;have hD:Gn l=(0,[],0,q3.2.2):=by unfold Gn;rw[h1,h2,ATv h0,h23,ATt hz]
  exact AW5
 have hz:q3.2.2=0:=by simpa using‹(!decide (q3.2.2=0))=ο›
 rw[ATv hz]at h23;have k3:=k3.resolve_left λh=>h.1 hz;refine Cz (k0 _ _ (Cw λK k0=>DZ ?_));refine NC (λhc=>?_) λhc=>?_
 ·have hm:32<q3.1:=by have:=AT0 ‹_›;omega
  rw[ATv hm]at h23;have hD:Gn l=(0,[],0,4):=by unfold Gn;rw[h1,h2,ATv h0,h23,ATt AUq]
  exact AW5
 have hm:¬32<q3.1:=by have:=AUD ‹_›;omega
 rw[ATt hm]at h23;refine Cz (k0 _ _ (C9 rfl λK k0=>DR ?_));intro b9 vT h9;refine k0 _ _ (Cw λK k0=>DZ ?_);refine DC [0,2,6,8,9,10] λG1 g1=>?_;replace g1:=EK g1;refine DK (FB 258 2 ?_);refine Dv (λF' L' => ∃(j p c6:Nat)(A6:Option Addr)(gs:List Fd),EH F' G1 [0,2,8,9]/\F' 6=ε ζ (p:Int)/\F' 10=ε ζ (j:Int)/\L'=[.row (ξ A6 j c6) 258 2 j (cl NR gs),G_ b9 (q1.1:Int) A6 j c6,G_ b2 0 ν 0 0]/\uo l q3.1 q3.2.1 j gs p) (λF' L'=>40-(intOf (F' 10)).toNat) ?_ ?_
 ·refine⟨0,q3.2.1,0,ν,[],?_⟩;have zg:=Bd.mk g1;refine DU hz ?_;exact⟨rfl,mq k3.2.2.2.1⟩
 intro G2 L' hI;obtain⟨j,p,c6,A6,gs,zq,Ms,W9,rfl,hI⟩:=hI;have zg:=Bd.mk g1;have g2:=AO (Dy zq) (AO Ms W9);have hI1:=hI.1;have hp:=hI.2.2.1;refine Cw λK k1=>?_;replace zg:=Bd.mk (AO g1 g2);refine Db ?_;refine Ec (λhc=>?_) λhc=>?_
 ·refine Cz ?_;try simp only[Di,Dq]
  have hj:j<q3.1:=by have:=AT0 ‹_›;omega
  obtain⟨s1,e1⟩:∃q,Fz l p 65536=q:=⟨_,rfl⟩;have m1:=Hm hb (most:=65536) hp;rw[e1]at m1;refine k1 _ _ (Cw λK k1=>DK (C9 rfl λK k2=>DD ?_));intro b11 yu h11;refine k2 _ _ (C9 rfl λK k2=>DD ?_);refine DI (λw hw=>Qb A n c l p 65536 w (hE.at hw) hb AL hn AL) ?_;try refine DU e1 ?_
  refine k2 _ _ (Cw λK k2=>Db ?_);refine Ec (λhc=>?_) λhc=>?_
  ·have hz1:¬s1.2.2=0:=by simpa using‹(!decide (s1.2.2=0))=τ›
   have hr:=uq hI hj (by rw[e1];exact hz1);rw[e1]at hr;have hD:Gn l=(0,[],0,s1.2.2):=by unfold Gn;rw[h1,h2,ATv h0,h23,ATv hz,hr,ATt hz1]
   exact AW4
  have hz1:s1.2.2=0:=by simpa using‹(!decide (s1.2.2=0))=ο›
  have m1:=m1.resolve_left λh=>h.1 hz1;obtain⟨s2,e2⟩:∃q,Fz l s1.2.1 65536=q:=⟨_,rfl⟩;have m2:=Hm hb (most:=65536) m1.2.2.2.1;rw[e2]at m2;refine Cz (k2 _ _ (C9 rfl λK k2=>DD ?_));refine DI (λw hw=>Qb A n c l s1.2.1 65536 w (hE.at hw) hb AL hn AL) ?_;try refine DU e2 ?_
  refine k2 _ _ (Cw λK k2=>Db ?_);refine Ec (λhc=>?_) λhc=>?_
  ·have hz2:¬s2.2.2=0:=by simpa using‹(!decide (s2.2.2=0))=τ›
   have hr:=uu hI hj (by rw[e1];exact hz1) (by rw[e1,e2];exact hz2);rw[e1,e2]at hr;have hD:Gn l=(0,[],0,s2.2.2):=by unfold Gn;rw[h1,h2,ATv h0,h23,ATv hz,hr,ATt hz2]
   exact AW4
  have hz2:s2.2.2=0:=by simpa using‹(!decide (s2.2.2=0))=ο›
  have hI2:=uw hb hI hj (by rw[e1];exact hz1) (by rw[e1,e2];exact hz2);rw[e1,e2]at hI2;refine Cz (k2 _ _ (DJ rfl (DD ?_)));intro b8 vO h8;refine D6 2 wF rfl (λw hw=>D_ (size:=2) (.head _) rfl hw) rfl AL AL ?_;intro A' c' hl' hr';refine DD (k1 _ _ ?_);refine DY [0,3,4] ?_;refine Cy rfl (DU @DT ?_);refine⟨⟨j+1,s2.2.1,c',A',gs++[⟨(s1.1:Int),(s2.1:Int)⟩],?_⟩,?_⟩
  ·refine DU (AO @Af (AO @Kr (AO @NR.eq_1 hz2))) ?_;exact hI2
  ·exact AXo
 refine Dr (k0 _ _ ?_);have hj:j=q3.1:=by have:=AUD ‹_›;omega
 subst hj;have hr:=AC2 hI.2.2.2;have hD:Gn l=if Ho (q1.1:Int) gs=0 then ((q1.1:Int),gs,p,0) else (0,[],0,Ho (q1.1:Int) gs):=by
  unfold Gn;rw[h1,h2,ATv h0,h23,ATv hz,hr,ATv rfl]
 refine DC [2,6,9] λG3 g3=>?_;replace g3:=Dy g3;refine Cw λK k0=>C9 rfl λK k1=>?_;replace zg:=Bd.mk (AO g1 (AO g2 g3));refine DD ?_;refine DI (λw hw=>Jd A6 q3.1 c6 gs (q1.1:Int) w (hw.La 0 rfl)) ?_;try refine DD ?_
 refine k1 _ _ (Db ?_);refine Ec (λhc=>?_) λhc=>?_
 ·have hz:¬Ho (q1.1:Int) gs=0:=by simpa using‹(!decide (Ho (q1.1:Int) gs=0))=τ›
  rw[ATt hz]at hD;exact AW4
 have hz:Ho (q1.1:Int) gs=0:=by simpa using‹(!decide (Ho (q1.1:Int) gs=0))=ο›
 rw[ATv hz]at hD;refine Cz (k0 _ _ (Db ?_));refine C8 (FF ?_);intro w hw;rw[hD];exact⟨A6,q3.1,c6,rfl,hw.H6 AUq,hw.below⟩
theorem nE i W(hx:i.arg<18446744073709551616):Calls AGm 84 #[Li i] W (rowP 5 1 (λv=>.tuple #[v,ε ζ i.err]) (Gf (ZA i)) W):=by
 refine DL (M:=[]) Tryz.func84 [.tmp 2,.tmp 3] (St.nil _ _) ?_;refine C9 rfl λK k0=>?_;have zs:=Bd.mk pY;refine DR ?_;intro b hb;refine k0 _ _ (DC [1] λG1 g1=>?_);replace g1:=EK g1;refine Cw λK k0=>C9 rfl λK k1=>?_;have zg:=Bd.mk g1;refine DD ?_;refine DI (λw hw=>Su i w) ?_;try refine DD ?_
 refine k1 _ _ (Db ?_);refine Ec (λhc=>?_) λhc=>?_
 ·have hz:¬i.err=0:=by simpa using hc
  refine Db ?_;refine C8 (EP λw hw=>?_);exact⟨ν,0,0,rfl,by unfold ZA;rw[ATt hz];exact World.ownsRow_nil _ _ _ _,hw.below⟩
 have hz:i.err=0:=by simpa using hc
 have hz2:=Ins.JJ hz;have hE:ZA i=encI i:=by unfold ZA;rw[ATv hz]
 have e1:IntKind.u8.wrap i.op=((i.op.toNat:Nat):Int):=by
  have:=hz2.1;rw[IntKind.wrap_u8];omega
 refine Cz (k0 _ _ (C9 rfl λK k0=>DU e1 ?_));intro b5 hb5 h5;refine k0 _ _ (DC [1,5] λG2 g2=>?_);replace g2:=Dy g2;have hb1:Gf [i.op.toNat]=[ε η ((i.op.toNat:Nat):Int)]:=rfl;refine Cw λK k0=>?_;by_cases ha:Py i.op
 ·have ha':decide (Py i.op)=τ:=AUB ha;have hE2:encI i=[i.op.toNat]++Gr i.arg:=by unfold encI;rw[ATv ha];rfl
  refine C9 rfl λK k1=>?_;replace zg:=Bd.mk g2;refine DD ?_;refine DI (λw hw=>KA i.op w) ?_;try refine DU ha' ?_
  refine k1 _ _ (C_ (DD ?_));refine DJ rfl (DD ?_);refine D9 (λA' n' c'=>ξ A' n' c') (λw hw=>GX (σ ⟨b5,0,ν⟩) 1 1 [i.op.toNat] i.arg w (Sl.wM hw (.head _) rfl AL) AL hx) ?_;intro A1 n1 c1 hl1 _;refine DD (k0 _ _ ?_);refine Db ?_;refine C8 (EP λw hw=>?_);exact⟨A1,n1,c1,by rw[hz],by rw[hE,hE2];exact hw.H6 AUq,hw.below⟩
 ·have ha':decide (Py i.op)=ο:=AUC ha;have hE2:encI i=[i.op.toNat]:=by unfold encI;rw[ATt ha]
  refine C9 rfl λK k1=>?_;replace zg:=Bd.mk g2;refine DD ?_;refine DI (λw hw=>KA i.op w) ?_;try refine DU ha' ?_
  refine k1 _ _ (C_ (DD ?_));refine Cz (k0 _ _ (Db ?_));refine C8 (EP λw hw=>?_);have hr:=hw.JR (size:=1) (n:=1) rfl AL;exact⟨σ ⟨b5,0,ν⟩,1,1,by rw[hz],by rw[hE,hE2];exact hr.H6 AUq,hw.below⟩
theorem vD A n c l W(hE:Sl W W.heap.size 1 A n c (Gf l))(hb:∀x∈l,x<256):
  Calls AGm 178 #[ξ A n c] W λe w'=>e=κ (diV (NM l))/\Below W.heap.size W w':=by
 have hln:l.length=n:=Ew hE.len;have hcap:=hE.cap;have hmax:=hE.max;refine ER (M:=[]) (n:=42) [.cell 2 171,.tmp 3,.tmp 4] rfl Tryz.func178 rfl rfl (Am rfl) (St.nil _ _) ?_;refine C9 rfl λK k0=>?_;have zs:=Bd.mk AF2;refine DR ?_;intro b2 hb2;refine k0 _ _ (DC [0,2] λG3 g3=>?_);replace g3:=EK g3;refine Cw λK k0=>?_;have zg:=Bd.mk g3;refine Db ?_;refine Ec (λhc=>?_) λhc=>?_
 ·have hn:n=0:=by have:=AT0 hc;omega
  have hl:l=[]:=Bc AL;refine Db ?_;refine C8 (FF ?_);intro w hw;rw[hl];exact AVR
 have hn:0<n:=by have:=AUD hc;omega
 obtain⟨b0,off,rfl,hb0,-⟩:=hE.cells hn;obtain⟨x,r,rfl⟩:∃x r,l=x::r:=by
  cases l with
  |nil=>simp at hln;omega
  |cons x r=>exact⟨x,r,rfl⟩
 have hxb:=hb x AUq;have hbr:∀y∈r,y<256:=λy hy=>hb y AWo;have hl0:=hE.ld1 (L:=[.blk b2 171 [ε ζ 0,ε υ 0]]) (P:=AGm) (T:=5) (i:=0) (m:=1) AF (Kq (x:=x) rfl);rw[Cg]at hl0;refine Cz (k0 _ _ (C9 rfl λK k0=>DU @ASN ?_));refine DX (hl0) ?_;refine DU @DT (k0 _ _ ?_);refine DC [0,2,5] λG4 g4=>?_;replace g4:=Dy g4;refine Cw λK k0=>C9 rfl λK k1=>?_;replace zg:=Bd.mk g4;refine DD ?_;refine DI (λw hw=>P6 (x:Int) w) ?_;try refine DD ?_
 refine k1 _ _ ?_;refine Ec (λhc=>?_) λhc=>?_
 ·have h:¬Jf (x:Int):=Gl hc;refine Db ?_;refine C8 (FF ?_);intro w hw;rw[N7,ATv h];exact AVR
 have h:¬ ¬Jf (x:Int):=F_ hc;refine Cz (k0 _ _ (Cw λK k0=>C9 rfl λK k1=>DD ?_));refine DI (λw hw=>KA (x:Int) w) ?_;try refine DD ?_
 refine k1 _ _ ?_;refine Ec (λhc=>?_) λhc=>?_
 ·have ha:¬Py (x:Int):=Gl ‹(!decide (Py (x:Int)))=τ›;refine Db ?_;refine C8 (FF ?_);intro w hw;rw[N7,ATt h,ATv ha];exact AVR
 have ha:¬ ¬Py (x:Int):=F_ ‹(!decide (Py (x:Int)))=ο›;have hD:=hE.V7 (k:=1) AL;rw[Ai,Aq]at hD;have hqc:=dR hbr;obtain⟨q,hq⟩:∃q,uD 0 r=q:=⟨_,rfl⟩;rw[hq]at hqc;refine Cz (k0 _ _ (C9 rfl λK k0=>DD ?_));refine DI (λw hw=>UM (IV c 1 1 (σ ⟨b0,off,ν⟩)) (n-1) (c-1) r w (hD.at hw) hbr) ?_;try refine DU hq ?_
 refine k0 _ _ (DC [2,5,6,7,8] λG5 g5=>?_);replace g5:=Dy g5;refine Cw λK k0=>?_;replace zg:=Bd.mk g5;refine Db ?_;refine Ec (λhc=>?_) λhc=>?_
 ·have hz:¬q.2.2=0:=by simpa using‹(!decide (q.2.2=0))=τ›
  refine Db ?_;refine C8 (FF ?_);intro w hw;rw[N7,ATt h,ATt ha,hq,ATt hz];exact AVR
 have hz:q.2.2=0:=by simpa using‹(!decide (q.2.2=0))=ο›
 have e1:(1:Int)+(q.2.1:Int)=((1+q.2.1:Nat):Int):=by omega
 refine Cz (k0 _ _ (KU (AO e1 @DT) ?_));refine C8 (FF ?_);intro w hw;rw[N7,ATt h,ATt ha,hq,ATv hz];exact⟨rfl,hw.below⟩
def jY(r:Nat)(A:Option Addr)(n c:Nat)(err:Int):DW:=.blk r 263 [ξ A n c,ε ζ err]
def AAm:=AO (AO @Ac @qV.eq_1) (AO @jY.eq_1 @uV.eq_1)
theorem jZ r A n c l(most:Nat)err W(hW:W.heap[r]?=σ (.cells (qV A n c err).toArray 263 (0,0)))(hE:Sl W W.heap.size 1 A n c (Gf l))(ha:0<n->TJ A [r])(hb:∀x∈l,x<256)(hm:most<=1024):
  Calls AGm 132 #[π (σ ⟨r,0,ν⟩),ε ζ (most:Int)] W (qm r 263 (ε ζ ((LQ err l most).1:Int)) (qV (IV c (LQ err l most).2.1 1 A) (n-(LQ err l most).2.1) (c-(LQ err l most).2.1) (LQ err l most).2.2) W):=by
 have hln:l.length=n:=Ew hE.len;have hcap:=hE.cap;have hmax:=hE.max;have em:=ax most AL;refine DL (M:=[r]) Tryz.func132 [.tmp 4]  (St.one hW) ?_;have zs:=Bd.mk AAm;refine DZ ?_;refine Cw λK k0=>DZ ?_;refine NC (λhc=>?_) λhc=>?_
 ·have he:¬err=0:=by simpa using hc
  have hF:LQ err l most=(0,0,err):=by unfold LQ;rw[ATt he]
  refine DZ ?_;refine C8 (Eg λw hw=>?_);rw[hF,KS];exact⟨rfl,hw.hold 0 rfl,hw.ES⟩
 have he:err=0:=by simpa using hc
 subst he;refine Cz (k0 _ _ ?_);obtain⟨q,hq⟩:∃q,uD 0 l=q:=⟨_,rfl⟩;have hqc:=Ni l 0 AL hb;have hlt:=dR hb;rw[hq]at hqc hlt;rw[hln]at hqc;refine C9 rfl λK k0=>DR ?_;refine DI (λw hw=>UM A n c l w (hE.Gq hw ha) hb) ?_;try refine Ed hq ?_
 refine k0 _ _ (NB λG1 hG=>?_);have X7:=AUE hG 0;have zu:=AUE hG 1;have Qh:=AUE hG 5;have AIe:=AUE hG 6;have AIf:=AUE hG 7;clear hG;try simp -implicitDefEqProofs (disch:=first|omega|decide) only [seval,-Int.reducePow,-Nat.reducePow,cC,pv,D5,EH,undef,AAm,hq]at X7 zu Qh AIe AIf
 have g1:=AO X7 (AO zu (AO Qh (AO AIe AIf)));obtain⟨e',he'⟩:∃e',(if q.2.2=0 then (if most<q.1 then 4 else 0) else q.2.2:Int)=e':=⟨_,rfl⟩;refine Cw λK k0=>?_;refine Df (λ_ _=>True) (λF' L'=>EH F' G1 [0,5,6]/\F' 7=ε ζ e'∧L'=[jY r A n c 0]) ?_ ?_
 ·by_cases h0:q.2.2=0
  ·rw[ATv h0]at he';refine Cw λK k1=>?_;refine Df (λ_ _=>True) (λF' L'=>EH F' G1 [0,5,6,7]/\F' 33=θ (decide (most<q.1))/\L'=[jY r A n c 0]) ?_ ?_
   ·refine Cy rfl ?_;have zg:=Bd.mk g1;refine DU (AO h0 em) ?_;exact AUi
   intro G2 L' _ hF;obtain⟨zq,AFg,rfl⟩:=hF;have zg:=Bd.mk g1;have g2:=AO (Dy zq) AFg;refine k1 _ _ ?_;replace zg:=Bd.mk (AO g1 g2);refine Ec (λhc=>?_) λhc=>?_
   ·have hm1:=AT0 ‹_›;rw[ATv hm1]at he';refine DJ rfl (DD ?_);all_goals (first|(simp[<-he'];done)|(simp[<-he'];omega))
   ·have hm1:=AUD ‹_›;rw[ATt hm1]at he';refine Cz ?_;try simp only[Di,Dq]
    refine DD ?_;rw[<-he',h0]
  ·rw[ATt h0]at he';have zg:=Bd.mk g1;refine KU (AO h0 em) ?_;refine C_ (DD ?_);refine Cz ?_;try simp only[Di,Dq]
   refine DD ?_;rw[<-he']
 intro G3 L' _ hF;obtain⟨zq,Pg,rfl⟩:=hF;have zg:=Bd.mk g1;have g3:=AO (Dy zq) Pg;refine k0 _ _ ?_;have hS:LQ 0 l most=if e'=0 then (q.1,q.2.1,0) else (0,0,e'):=by
  unfold LQ Fz;rw[ATv rfl,Aq,hq];by_cases h0:q.2.2=0
  ·rw[ATv h0]at he' ⊢;by_cases hm1:most<q.1
   ·rw[ATv hm1]at he' ⊢;rw[<-he',ATt AL]
   ·rw[ATt hm1]at he' ⊢;rw[<-he',ATv rfl,Ao]
  ·rw[ATt h0]at he' ⊢;rw[<-he',ATt h0]
 have h0:e'=0->q.2.1<=n:=λh=>by
  rcases hqc with h3|h3
  ·omega
  ·exact h3.2.2.2.2.1
 have hq1:e'=0->q.1<=most:=λh=>by
  by_cases h0:q.2.2=0
  ·rw[ATv h0]at he';by_cases hm1:most<q.1
   ·rw[ATv hm1]at he';omega
   ·omega
  ·rw[ATt h0]at he';omega
 refine Cw λK k0=>?_;replace zg:=Bd.mk g3;refine Db ?_;refine Ec (λhc=>?_) λhc=>?_
 ·have h1:¬e'=0:=by simpa using hc
  rw[ATt h1]at hS;refine Db ?_;refine Db ?_;refine C8 (EP λw hw=>?_);rw[hS];dsimp only;rw[KS];exact⟨rfl,hw.hold 0 rfl,hw.ES⟩
 have h1:e'=0:=by simpa using hc
 rw[ATv h1]at hS;have:=hq1 h1;have:=h0 h1;refine Cz (k0 _ _ (Db ?_));refine KU @DT ?_;refine C8 (EP λw hw=>?_);rw[hS];exact⟨rfl,hw.hold 0 rfl,hw.ES⟩
theorem OH{W r n c n' c' most v A A' l l' e e'}(h:jV A n c l e most v A' n' c' l' e')(hW:W.heap[r]?=σ (.cells (qV A n c e).toArray 263 (0,0)))(hL:Lt W r A n c l)(hm:most<=1024):
  Calls AGm 132 #[π (σ ⟨r,0,ν⟩),ε ζ (most:Int)] W (qm r 263 (ε ζ (v:Int)) (qV A' n' c' e') W):=by
 obtain⟨k,h1,rfl,rfl,rfl,rfl⟩:=h.ex;have:=jZ r A n c l most e W hW hL.sl hL.ap hL.bt hm;rw[h1]at this;exact this
theorem qX{l}(hb:∀x∈l,x<256):(Gn l).2.2.1<=l.length:=by
 by_cases h:(Gn l).2.2.2=0
 ·exact(uy hb h).2.2
 ·rw[AAk h];omega
def AAn:=AO (AO @Ac (AO @qV.eq_1 @jY.eq_1)) (AO (AO @vC.eq_1 @G_.eq_1) (AO @diV.eq_1 @NL.eq_1))
theorem AAo r A n c l W(hW:W.heap[r]?=σ (.cells (qV A n c 0).toArray 263 (0,0)))(hL:Lt W r A n c l):
  Calls AGm 133 #[π (σ ⟨r,0,ν⟩)] W (Zb r 263 (qV (IV c (Gn l).2.2.1 1 A) (n-(Gn l).2.2.1) (c-(Gn l).2.2.1) (Gn l).2.2.2) 258 2 (λv=>.agg #[ε ζ (Gn l).1,v]) (cl NR (Gn l).2.1) W):=by
 have hcap:=hL.sl.cap;have hmax:=hL.sl.max;have hle:=qX hL.bt;rw[hL.len]at hle;obtain⟨d,hd⟩:∃d,Gn l=d:=⟨_,rfl⟩;rw[hd]at hle ⊢;refine ER (M:=[r]) (n:=35) [.cell 2 216] rfl Tryz.func133 rfl rfl (Am rfl)  (St.one hW) ?_;refine C9 rfl λK k0=>?_;have zs:=Bd.mk AAn;refine DR ?_;intro b2 hb2 h2;refine k0 _ _ (Cw λK k0=>DZ ?_);refine C_ (DR ?_);refine Cz (k0 _ _ (C9 rfl λK k0=>DR ?_));refine D9 (λA5 n5 c5=>vC (Gn l) (ξ A5 n5 c5)) (λw hw=>jX A n c l w (hL.at hw).sl hL.bt hL.sz) ?_;rw[hd];intro A5 n5 c5 hl5 iQ;refine DR ?_;intro b3 hb3 h3;refine k0 _ _ (DZ ?_);refine DZ ?_;refine DY [1,0,2,3] ?_;refine DZ ?_;refine C8 (Ox ?_);intro w hw;exact⟨A5,n5,c5,rfl,hw.H6 AUp,hw.hold 3 rfl,hw.ES⟩
theorem nG r A n c l W(hW:W.heap[r]?=σ (.cells (qV A n c 0).toArray 263 (0,0)))(hL:Lt W r A n c l):
  Calls AGm 134 #[π (σ ⟨r,0,ν⟩)] W (qm r 263 (Li (NM l).1) (qV (IV c (NM l).2.1 1 A) (n-(NM l).2.1) (c-(NM l).2.1) (NM l).2.2) W):=by
 have hcap:=hL.sl.cap;have hmax:=hL.sl.max;have hle:=(qW hL.bt).2.1;rw[hL.len]at hle;obtain⟨d,hd⟩:∃d,NM l=d:=⟨_,rfl⟩;rw[hd]at hle ⊢;refine ER (M:=[r]) (n:=35) [.cell 2 171] rfl Tryz.func134 rfl rfl (Am rfl)  (St.one hW) ?_;refine C9 rfl λK k0=>?_;have zs:=Bd.mk AAn;refine DR ?_;intro b2 hb2 h2;refine k0 _ _ (Cw λK k0=>DZ ?_);refine C_ (DR ?_);refine Cz (k0 _ _ (C9 rfl λK k0=>DR ?_));refine DI (λw hw=>vD A n c l w (hL.at hw).sl hL.bt) ?_;try refine Ed hd ?_
 intro b3 hb3 h3;refine k0 _ _ (DZ ?_);refine DZ ?_;refine DZ ?_;refine C8 (Ox ?_);intro w hw;exact⟨rfl,hw.hold 2 rfl,hw.ES⟩
theorem vE:Vg JH=⟨#[80,72,77,49]⟩:=by rw[Zc];rfl
def TF:=AO (AO @Ac (AO @qV.eq_1 @jY.eq_1)) (AO (AO @JF.eq_1 @Ie.eq_1) (AO @cS @MC.eq_1))
theorem vF A n c l W(hE:Sl W W.heap.size 1 A n c (Gf l))(hb:∀x∈l,x<256):
  Calls AGm 89 #[ξ A n c] W λe w' => ∃i,e=κ (mdV i)/\mdΦ l i W w'∧Below W.heap.size W w':=by
 have hln:l.length=n:=Ew hE.len;have hcap:=hE.cap;have hmax:=hE.max;refine ER (M:=[]) (n:=139) [.cell 2 129,.tmp 3] rfl Tryz.func89 rfl rfl (Am rfl) (St.nil _ _) ?_;refine C9 rfl λK k0=>?_;have zs:=Bd.mk TF;refine DR ?_;intro b2 hb2;refine k0 _ _ (Cw λK k0=>DZ ?_);refine NC (λhc=>?_) λhc=>?_
 ·have h:=AT0 hc;refine DZ ?_;refine C8 (Ox ?_);intro w hw;refine⟨(UL,4),rfl,nC _ _ AL ?_,hw.below⟩;unfold TE;rw[ATv AL]
 have hn:n<=65536:=by have:=AUD hc;omega
 refine Cz (k0 _ _ (DC [0,2] λG1 g1=>?_));replace g1:=EK g1;refine Cw λK k0=>Cw λK k1=>?_;refine Df (λ_ _=>True) (λF' L'=>EH F' G1 [0,2]/\F' 24=θ (decide (¬l.take 4=JH))/\L'=[.blk b2 129 [ξ ν 0 0,ξ ν 0 0]]) ?_ ?_
 ·by_cases h4:n<4
  ·have hd:decide ((n:Int)<4)=τ:=AUB AL;refine Cy rfl ?_;have zg:=Bd.mk g1;refine DU hd ?_;have h5:¬l.take 4=JH:=λh=>by
    have:=AT4 CP h;rw[Al]at this;simp[JH]at this;omega
   simp[h5]
  ·have hd:decide ((n:Int)<4)=ο:=AUC AL;refine Cy rfl ?_;have zg:=Bd.mk g1;refine DU hd ?_;refine DX (λw hw=>((hE.at hw).nk (k:=4) AL).reads) ?_;refine DD ?_;rw[<-vE,wL (λx hx=>hb x (BU hx)) AJ,decide_not]
 intro G2 L' _ hF;obtain⟨zq,AFP,rfl⟩:=hF;have zg:=Bd.mk g1;have g2:=AO (Dy zq) AFP;refine k1 _ _ ?_;replace zg:=Bd.mk g2;refine Ec (λhc=>?_) λhc=>?_
 ·have hp:=AT0 hc;refine Db ?_;refine C8 (FF ?_);intro w hw;refine⟨(UL,3),rfl,nC _ _ AL ?_,hw.below⟩;unfold TE;rw[ATt AL,ATv hp]
 have hp:=AUD hc;refine Cz (k0 _ _ ?_);have hm4:4<=n:=by
  have:=AT4 CP (Classical.not_not.1 hp);rw[Al]at this;simp[JH]at this;omega
 obtain⟨A0,hA0⟩:∃X,IV c 4 1 A=X:=⟨_,rfl⟩;have hE0:=hE.V7 hm4;rw[hA0]at hE0;have hdec:TE l=AC7 (mr (l.drop 4)):=by
  unfold TE;rw[ATt AL,ATt hp]
 refine C9 rfl λK k0=>DU hA0 ?_;intro r hb4 h4;refine k0 _ _ (C9 rfl λK k0=>DD ?_);intro b5 hb5 h5;refine k0 _ _ (DY [0,2,1] ?_);have hL:Lt W r A0 (n-4) (c-4) (l.drop 4):=⟨hE0,λh0=>TJ.of_below hE0 h0 AV1,drop_byte hb 4,by omega⟩;generalize hl4:l.drop 4=k at *;generalize n-4=n0 at *;generalize c-4=c0 at *;have hLw:∀ {L w},St [] W L w->Lt w r A0 n0 c0 k:=λhw=>⟨hE0.at hw,hL.ap,hL.bt,hL.sz⟩;obtain⟨v1,A1,n1,c1,l1,e1,s1,L1⟩:=hL.num 0 32 AL;have hS:Lc tyX (LP (.ok ((),k)) (bL tyX 32)) () v1 0 [] l1 e1:=s1.start (.start () k);have hv1:=s1.le;refine C9 rfl λK k0=>DD ?_;refine Dj 2 (λw hw=>OH (most:=32) s1 (hw.hold 2 rfl) (hLw hw) AL) rfl ?_;try refine DD ?_
 refine k0 _ _ (DC [2,4,5,6] λG3 g3=>?_);replace g3:=Dy g3;refine Cw λK k0=>?_;replace zg:=Bd.mk g3;refine Db ?_;refine DC [2,4,5,6,7] λG4 g4=>?_;replace g4:=Dy g4;refine DK (FB 216 2 (Kt [0,1,2,3] AJ λv0 f0 hv0 hf0=>?_));simp only[Dl,nth];refine Dv (λF' L' => ∃(j:Nat)(A6:Option Addr)(c6:Nat)(ts:List QU)(A':Option Addr)(n' c':Nat)(l':List Nat)(e':Int)(v:World)(f:List Nat),EH F' G4 [2,4,5,6]/\F' 7=ε ζ (j:Int)/\L'=[snap [] W v f,.row (ξ A6 j c6) 216 2 j (cl O8 ts),.blk b5 129 [ξ A6 j c6,ξ ν 0 0],.blk b2 129 [ξ ν 0 0,ξ ν 0 0],jY r A' n' c' e']/\Sub r A0 n0 c0 k A' n' c' l'∧Lc tyX (LP (.ok ((),k)) (bL tyX 32)) () v1 j (ts.map tyD) l' e'∧(∀t∈ts,Sd v (λy=>y∈f) 2 t.A t.n t.c (cl NR t.fs))) (λF' L'=>100-(intOf (F' 7)).toNat) ?_ ?_
 ·refine⟨0,ν,0,[],A1,n1,c1,l1,e1,v0,f0,?_⟩;replace zg:=Bd.mk g4;refine DD ?_;exact⟨rfl,s1.sub .refl,hS,by simp⟩
 intro G5 L' hI;obtain⟨j,A6,c6,ts,A',n',c',l',e',v,f,zq,Pg,rfl,⟨hsub,hS',hty⟩⟩:=hI;replace zg:=Bd.mk g4;have g5:=AO (Dy zq) Pg;refine Cw λK k1=>Cw λK k2=>?_;refine Df (λ_ _=>True) (λF' L'=>EH F' G5 [2,4,5,6,7]/\F' 41=θ (decide (j<v1/\e'=0))/\L'=[snap [] W v f,.row (ξ A6 j c6) 216 2 j (cl O8 ts),.blk b5 129 [ξ A6 j c6,ξ ν 0 0],.blk b2 129 [ξ ν 0 0,ξ ν 0 0],jY r A' n' c' e']) ?_ ?_
 ·refine Cy rfl ?_;replace zg:=Bd.mk (AO g4 g5);exact AXB
 intro G6 L' _ hF;obtain⟨zq,AFx,rfl⟩:=hF;replace zg:=Bd.mk g5;have g6:=AO (Dy zq) AFx;refine k2 _ _ ?_;replace zg:=Bd.mk (AO g4 (AO g5 g6));refine Ec (λhc=>?_) λhc=>?_
 ·obtain⟨hj,h0⟩:=AT0 hc;subst h0;have hL':=hsub W hL;have nH:∀ {L w},St [] W L w->Lt w r A' n' c' l':=λhw=>hsub _ (hLw hw);obtain⟨d,hd⟩:∃d,Gn l'=d:=⟨_,rfl⟩;have ho:=AC4 l';have hdl:=qX hL'.bt;rw[hL'.len]at hdl;rw[hd]at ho hdl;have hst:=hS'.step hj ho;have hk:=λw h1 h2=>AAo r A' n' c' l' w h1 h2;rw[hd]at hk;refine Cz (k1 _ _ (Cw λK k1=>DK (K3 (FD [2] [(τ,0),(τ,1),(τ,2),(ο,3),(ο,4),(ο,5),(τ,6),(ο,7)] [7] ?_))));refine DD ?_;refine Lv 4 (λw hw=>hk w (hw.hold 4 rfl) (nH hw)) rfl ?_;intro A5 n5 c5 hl5 iQ;refine DD ?_;intro b48 hb48 h48;refine D6 3 AGu rfl (λw hw=>D_ (size:=2) (.head _) rfl hw) rfl AL AL ?_;intro A7 c7 hl7 hr7;refine DD (k1 _ _ ?_);refine DC [2,4,5,6,7] λG7 g7=>?_;replace g7:=Dy g7;refine Kt [0,4,5,6] AJ λv' f' hv' hf'=>?_;simp only[Dl,nth];have k4:=hv'.Lm hf' (k:=2) rfl AJ AU4;obtain⟨k1,-⟩:=hv'.Ud hf' 3 rfl AJ AU4;have k3:=hv'.Lm hf' (k:=3) rfl AJ AU4;simp only[Iw]at k3;have AF6:∀t∈ts++[⟨d.1,A5,n5,c5,d.2.1⟩],Sd v' (λy=>y∈f') 2 t.A t.n t.c (cl NR t.fs):=by
   intro t ht;rcases AV.1 ht with ht|ht
   ·exact(hty t ht).same (λy hy=>k1 y (.inl hy)) k3
   ·obtain rfl:t=⟨d.1,A5,n5,c5,d.2.1⟩:=by simpa using ht
    exact Sd.JA (hv'.holds _ (.tail _ (.tail _ (.head _)))) λg hg=>k4 g AU7
  clear k4 k1 k3 hv' hf';refine Cy rfl ?_;replace zg:=Bd.mk (AO g4 (AO g5 g7));refine DU @DT ?_;refine⟨⟨j+1,A7,c7,ts++[⟨d.1,A5,n5,c5,d.2.1⟩],IV c' d.2.2.1 1 A',n'-d.2.2.1,c'-d.2.2.1,l'.drop d.2.2.1,d.2.2.2,v',f',?_⟩,?_⟩
  ·refine DU (AO @Af (AO @Kr @O8.eq_1)) ?_;refine⟨hsub.drop hdl,?_,AF6⟩;rw[Bj];exact hst
  ·exact AXo
 refine Dr (k0 _ _ ?_);have hj:¬j<v1∨¬e'=0:=by
  by_cases h:j<v1
  ·exact AWf
  ·exact .inl h
 have ho:=hS'.fin hj;have AQk:=hS'.1;have hL':=hsub W hL;obtain⟨v2,A2,n2,c2,l2,e2,s2,L2⟩:=hL'.num e' 32 AL;have hS2:Lc fnX (AC3 k) ((),ts.map tyD) v2 0 [] l2 e2:=s2.start ho;have hsub2:=s2.sub hsub;have hv2:=s2.le;have nH:∀ {L w},St [] W L w->Lt w r A' n' c' l':=λhw=>hsub _ (hLw hw);refine DC [2,4,5] λG8 g8=>?_;replace g8:=Dy g8;refine F8 1 rfl λhl6=>C9 rfl λK k0=>?_;replace zg:=Bd.mk (AO g4 (AO g5 g8));refine DD ?_;refine Dj 4 (λw hw=>OH (most:=32) s2 (hw.hold 4 rfl) (nH hw) AL) rfl ?_;try refine DD ?_
 refine k0 _ _ (Cw λK k0=>Db ?_);refine DC [2,4,5,6,8] λG9 g9=>?_;replace g9:=Dy g9;refine DK (Kt [2,3,4] AJ λv5 f5 hv5 Uj=>?_);simp only[Dl,nth];have k4:=hv5.Lm Uj (k:=1) rfl AJ AU4;obtain⟨k1,-⟩:=hv5.Ud Uj 0 rfl AJ AU4;have k3:=hv5.Lm Uj (k:=0) rfl AJ AU4;simp only[Iw]at k3;have hT5:Sd v5 (λy=>y∈f5) 2 A6 j c6 (cl O8 ts):=Sd.JA (hv5.holds _ (.tail _ (.head _))) λg hg=>k4 g AU7;have AIg:∀t∈ts,Sd v5 (λy=>y∈f5) 2 t.A t.n t.c (cl NR t.fs):=λt ht=>(hty t ht).same (λy hy=>k1 y (.inl hy)) k3;clear k4 k1 k3 hv5 Uj hty;refine FB 169 4 (DY [1,0,2,3,4] ?_);refine Dv (λF' L' => ∃(i:Nat)(A7:Option Addr)(c7:Nat)(gs:List Gc)(A':Option Addr)(n' c':Nat)(l':List Nat)(e':Int)(v:World)(f:List Nat),EH F' G9 [2,4,5,6]/\F' 8=ε ζ (i:Int)/\L'=[snap [] W v f,.row (ξ A7 i c7) 169 4 i (cl jw gs),.blk b5 129 [ξ A6 j c6,ξ A7 i c7],.blk b2 129 [ξ ν 0 0,ξ ν 0 0],jY r A' n' c' e']/\Sub r A0 n0 c0 k A' n' c' l'∧(∃qs,Lc fnX (AC3 k) ((),ts.map tyD) v2 i qs l' e'∧gs.map fnD=qs.map qD)/\Sd v (λy=>y∈f) 2 A6 j c6 (cl O8 ts)/\(∀t∈ts,Sd v (λy=>y∈f) 2 t.A t.n t.c (cl NR t.fs))/\(∀g∈gs,Sd v (λy=>y∈f) 2 g.A g.n g.c (cl J_ g.code)∧∀x∈g.code,x.arg<18446744073709551616)) (λF' L'=>100-(intOf (F' 8)).toNat) ?_ ?_
 ·refine⟨0,ν,0,[],A2,n2,c2,l2,e2,v5,f5,?_⟩;replace zg:=Bd.mk (AO g4 (AO g5 g9));refine DD ?_;exact⟨rfl,hsub2,⟨[],hS2,rfl⟩,hT5,AIg,by simp⟩
 clear hT5 AIg hS2 ho hL' hS' nH hsub hsub2;intro Xo L' hI;obtain⟨i,A7,c7,gs,A',n',c',l',e',v,f,zq,SG,rfl,⟨hsub,⟨qs,hS',hqs⟩,hT,hty,hfn⟩⟩:=hI;replace zg:=Bd.mk g9;have g10:=AO (Dy zq) SG;refine Cw λK k1=>Cw λK k2=>?_;refine Df (λ_ _=>True) (λF' L'=>EH F' Xo [2,4,5,6,8]/\F' 62=θ (decide (i<v2/\e'=0))/\L'=[snap [] W v f,.row (ξ A7 i c7) 169 4 i (cl jw gs),.blk b5 129 [ξ A6 j c6,ξ A7 i c7],.blk b2 129 [ξ ν 0 0,ξ ν 0 0],jY r A' n' c' e']) ?_ ?_
 ·refine Cy rfl ?_;replace zg:=Bd.mk (AO g4 (AO g5 (AO g9 g10)));exact AXB
 intro bQ L' _ hF;obtain⟨zq,AMF,rfl⟩:=hF;replace zg:=Bd.mk g10;have g11:=AO (Dy zq) AMF;refine k2 _ _ ?_;replace zg:=Bd.mk (AO g4 (AO g5 (AO g9 (AO g10 g11))));refine Ec (λhc=>?_) λhc=>?_
 ·obtain⟨hj,h0⟩:=AT0 hc;subst h0;have hL':=hsub W hL;have nH:∀ {L w},St [] W L w->Lt w r A' n' c' l':=λhw=>hsub _ (hLw hw);obtain⟨v3,A3,n3,c3,l3,e3,s3,L3⟩:=hL'.num 0 1024 AL;obtain⟨v4,A4,n4,c4,l4,e4,s4,L4⟩:=L3.num e3 1024 AL;obtain⟨v5,A5,n5,c5,l5,e5,s5,L5⟩:=L4.num e4 1024 AL;obtain⟨v6,A8,n8,c8,l8,e8,s6,L6⟩:=L5.num e5 1024 AL;have u3:=s3.sub hsub;have u4:=s4.sub u3;have u5:=s5.sub u4;have u6:=s6.sub u5;have hS6:Lc inX (fnX l') ((((),v3),v4),v5) v6 0 [] l8 e8:=s6.start (s5.out (s4.out (s3.out (.start () l'))));have hv6:=s6.le;refine Cz (k1 _ _ (Cw λK k1=>DK (C9 rfl λK k2=>DD ?_)));intro b9 vT h9;refine k2 _ _ (C9 rfl λK k2=>DD ?_);refine Dj 5 (λw hw=>OH (most:=1024) s3 (hw.hold 5 rfl) (nH hw) AL) rfl ?_;try refine DD ?_
  refine k2 _ _ (C9 rfl λK k2=>DD ?_);refine Dj 5 (λw hw=>OH (most:=1024) s4 (hw.hold 5 rfl) (u3 _ (hLw hw)) AL) rfl ?_;try refine DD ?_
  refine k2 _ _ (C9 rfl λK k2=>DD ?_);refine Dj 5 (λw hw=>OH (most:=1024) s5 (hw.hold 5 rfl) (u4 _ (hLw hw)) AL) rfl ?_;try refine DD ?_
  refine k2 _ _ (C9 rfl λK k2=>DD ?_);refine Dj 5 (λw hw=>OH (most:=1024) s6 (hw.hold 5 rfl) (u5 _ (hLw hw)) AL) rfl ?_;try refine DD ?_
  refine k2 _ _ (Cw λK k2=>Db ?_);refine DC [2,4,5,6,8,9,10,11] λvM g12=>?_;replace g12:=Dy g12;refine DK (FB 171 2 ?_);refine Dv (λF' L' => ∃(q:Nat)(A9:Option Addr)(c9:Nat)(cs:List Ins)(A':Option Addr)(n' c':Nat)(y':List Nat)(e':Int),EH F' vM [2,4,5,6,8,9,10]/\F' 11=ε ζ (q:Int)/\L'=[.row (ξ A9 q c9) 171 2 q (cl J_ cs),.blk b9 169 [ε ζ (v3:Int),ε ζ (v4:Int),ε ζ (v5:Int),ξ A9 q c9],snap [] W v f,.row (ξ A7 i c7) 169 4 i (cl jw gs),.blk b5 129 [ξ A6 j c6,ξ A7 i c7],.blk b2 129 [ξ ν 0 0,ξ ν 0 0],jY r A' n' c' e']/\Sub r A0 n0 c0 k A' n' c' y'∧Lc inX (fnX l') ((((),v3),v4),v5) v6 q cs y' e'∧(∀x∈cs,x.arg<18446744073709551616)) (λF' L'=>2000-(intOf (F' 11)).toNat) ?_ ?_
  ·refine⟨0,ν,0,[],A8,n8,c8,l8,e8,?_⟩;replace zg:=Bd.mk (AO g4 (AO g5 (AO g9 (AO g10 g12))));refine DD ?_;exact⟨rfl,u6,hS6,by simp⟩
  clear hS6 u6 u5 u4 u3 L6 L5 L4 L3 s6 s5 s4 s3 nH hL';intro G13 L' hI;obtain⟨q,A9,c9,cs,A',n',c',y',e',zq,ag,rfl,⟨hsq,hSq,AAR⟩⟩:=hI;replace zg:=Bd.mk g12;have g13:=AO (Dy zq) ag;refine Cw λK k3=>Cw λK k4=>?_;refine Df (λ_ _=>True) (λF' L'=>EH F' G13 [2,4,5,6,8,9,10,11]/\F' 85=θ (decide (q<v6/\e'=0))/\L'=[.row (ξ A9 q c9) 171 2 q (cl J_ cs),.blk b9 169 [ε ζ (v3:Int),ε ζ (v4:Int),ε ζ (v5:Int),ξ A9 q c9],snap [] W v f,.row (ξ A7 i c7) 169 4 i (cl jw gs),.blk b5 129 [ξ A6 j c6,ξ A7 i c7],.blk b2 129 [ξ ν 0 0,ξ ν 0 0],jY r A' n' c' e']) ?_ ?_
  ·refine Cy rfl ?_;replace zg:=Bd.mk (AO g4 (AO g5 (AO g9 (AO g10 (AO g12 g13)))));exact AXB
  intro G14 L' _ hF;obtain⟨zq,AMG,rfl⟩:=hF;replace zg:=Bd.mk g13;have g14:=AO (Dy zq) AMG;refine k4 _ _ ?_;replace zg:=Bd.mk (AO g4 (AO g5 (AO g9 (AO g10 (AO g12 (AO g13 g14))))));refine Ec (λhc=>?_) λhc=>?_
  ·obtain⟨hq,h0⟩:=AT0 hc;subst h0;have hLq:=hsq W hL;have AMH:∀ {L w},St [] W L w->Lt w r A' n' c' y':=λhw=>hsq _ (hLw hw);obtain⟨d,hd⟩:∃d,NM y'=d:=⟨_,rfl⟩;have ho:=AC5 y';have hdl:=qW hLq.bt;rw[hLq.len]at hdl;rw[hd]at ho hdl;have hst:=hSq.step hq ho;have hk:=λw h1 h2=>nG r A' n' c' y' w h1 h2;rw[hd]at hk;refine Cz (k3 _ _ (Cw λK k3=>DK (K3 (FD [1] [(τ,0),(τ,1),(τ,2),(ο,3),(ο,4),(ο,5),(τ,6),(ο,7)] [7] ?_))));refine DD ?_;refine Dj 6 (λw hw=>hk w (hw.hold 6 rfl) (AMH hw)) rfl ?_;try refine DU @Li.eq_1 ?_
   intro b92 AQl h92;refine D6 1 PR rfl (λw hw=>D_ (size:=2) (.head _) rfl hw) rfl AL AL ?_;intro A5 c5 hl5 iQ;refine DD (k3 _ _ ?_);refine DC [2,4,5,6,8,9,10,11] λG15 g15=>?_;replace g15:=Dy g15;refine DY [0,2,3,4,5,6,7] ?_;refine Cy rfl ?_;replace zg:=Bd.mk (AO g4 (AO g5 (AO g9 (AO g10 (AO g12 (AO g13 g15))))));refine DU @DT ?_;refine⟨⟨q+1,A5,c5,cs++[d.1],IV c' d.2.1 1 A',n'-d.2.1,c'-d.2.1,y'.drop d.2.1,d.2.2,?_⟩,?_⟩
   ·refine DU (AO @Af (AO @Kr @J_.eq_1)) ?_;repeat' (first|with_reducible exact trivial|with_reducible rfl|omega|refine AO ?_ ?_)
    ·exact hsq.drop hdl.2.1
    ·intro x hx;rcases AV.1 hx with hx|hx
     ·exact AAR x hx
     ·obtain rfl:x=d.1:=by simpa using hx
      exact hdl.1
   ·exact AXo
  refine Dr (k2 _ _ ?_);have hq:¬q<v6∨¬e'=0:=by
   by_cases h:q<v6
   ·exact AWf
   ·exact .inl h
  have ho:=hSq.fin hq;have hst:=hS'.step hj ho;refine DJ rfl (DD ?_);intro b98 AQm h98;refine D6 4 kL rfl (λw hw=>D_ (size:=4) (.head _) rfl hw) rfl AL AL ?_;intro A5 c5 hl5 iQ;refine DD (k1 _ _ ?_);refine DC [2,4,5,6,8] λG16 g16=>?_;replace g16:=Dy g16;refine Kt [0,5,6,7] AJ λv' f' hv' hf'=>?_;simp only[Dl,nth];obtain⟨k1,-⟩:=hv'.Ud hf' 4 rfl AJ AU4;have k3:=hv'.Lm hf' (k:=4) rfl AJ AU4;have k4:=hv'.Lm hf' (k:=2) rfl AJ AU4;simp only[Iw]at k3;have hT':Sd v' (λy=>y∈f') 2 A6 j c6 (cl O8 ts):=hT.same (λy hy=>k1 y (.inl hy)) k3;have AF6:∀t∈ts,Sd v' (λy=>y∈f') 2 t.A t.n t.c (cl NR t.fs):=λt ht=>(hty t ht).same (λy hy=>k1 y (.inl hy)) k3;have hfn':∀h∈gs++[⟨(v3:Int),(v4:Int),(v5:Int),A9,q,c9,cs⟩],Sd v' (λy=>y∈f') 2 h.A h.n h.c (cl J_ h.code)∧∀x∈h.code,x.arg<18446744073709551616:=by
   intro h hh;rcases AV.1 hh with hh|hh
   ·exact⟨(hfn h hh).1.same (λy hy=>k1 y (.inl hy)) k3,(hfn h hh).2⟩
   ·obtain rfl:h=⟨(v3:Int),(v4:Int),(v5:Int),A9,q,c9,cs⟩:=by simpa using hh
    exact⟨Sd.JA (hv'.holds _ (.tail _ (.tail _ (.head _)))) λg hg=>k4 g AU7,AAR⟩
  clear k1 k3 k4 hv' hf' hT hty hfn;refine Cy rfl ?_;replace zg:=Bd.mk (AO g4 (AO g5 (AO g9 (AO g10 (AO g12 (AO g13 g16))))));refine DU @DT ?_;refine⟨⟨i+1,A5,c5,gs++[⟨(v3:Int),(v4:Int),(v5:Int),A9,q,c9,cs⟩],A',n',c',y',e',v',f',?_⟩,?_⟩
  ·refine DU (AO @Af (AO @Kr @jw.eq_1)) ?_;refine⟨hsq,⟨_,hst,by rw[Bj,Bj,hqs,ATp,ATp];rfl⟩,hT',AF6,hfn'⟩
  ·exact AXo
 refine Dr (k0 _ _ ?_);have hj:¬i<v2∨¬e'=0:=by
  by_cases h:i<v2
  ·exact AWf
  ·exact .inl h
 have ho:=hS'.fin hj;have AQn:=hS'.1;have AIh:=(hsub W hL).len;refine DC [2,4,5] λG17 g17=>?_;replace g17:=Dy g17;refine Kt [2,3,4] AJ λv6 f6 hv6 jm=>?_;simp only[Dl,nth];have k4:=hv6.Lm jm (k:=1) rfl AJ AU4;obtain⟨k1,-⟩:=hv6.Ud jm 0 rfl AJ AU4;have k3:=hv6.Lm jm (k:=0) rfl AJ AU4;simp only[Iw]at k3;obtain⟨m,hm⟩:∃m:Ei,m=⟨A6,j,c6,ts,A7,i,c7,gs⟩:=⟨_,rfl⟩;have hk6:LH v6 (λy=>y∈f6) m:=by
  subst hm;exact⟨hT.same (λy hy=>k1 y (.inl hy)) k3,λt ht=>(hty t ht).same (λy hy=>k1 y (.inl hy)) k3,Sd.JA (hv6.holds _ (.tail _ (.head _))) λg hg=>k4 g AU7,λg hg=>(hfn g hg).1.same (λy hy=>k1 y (.inl hy)) k3,λg hg=>(hfn g hg).2⟩
 have hkD:LH v6 (Dm [] W f6) m:=hk6.mono λy hy=>.inl hy;clear k4 k1 k3 hv6 jm hT hty hfn;refine Cw λK k0=>?_;refine Df (λ_ _=>True) (λF' L' => ∃(e9:Int),EH F' G17 [2,4,5]/\L'=[snap [] W v6 f6,.blk b5 129 [ξ A6 j c6,ξ A7 i c7],.blk b2 129 [ξ ν 0 0,ξ ν 0 0],jY r A' n' c' e9]/\e9=if e'=0/\0<n' then 3 else e') ?_ ?_
 ·refine Cw λK k1=>?_;refine Df (λ_ _=>True) (λF' L'=>EH F' G17 [2,4,5]/\F' 113=θ (decide (e'=0/\0<n'))/\L'=[snap [] W v6 f6,.blk b5 129 [ξ A6 j c6,ξ A7 i c7],.blk b2 129 [ξ ν 0 0,ξ ν 0 0],jY r A' n' c' e']) ?_ ?_
  ·refine Cy rfl ?_;replace zg:=Bd.mk (AO g4 (AO g5 (AO g9 (AO g10 g17))));exact AXB
  intro G18 L' _ hF;obtain⟨zq,AIj,rfl⟩:=hF;replace zg:=Bd.mk g17;have g18:=AO (Dy zq) AIj;refine k1 _ _ ?_;replace zg:=Bd.mk (AO g4 (AO g5 (AO g9 (AO g10 (AO g17 g18)))));refine Ec (λhc=>?_) λhc=>?_
  ·have h9:=AT0 ‹_›;refine DJ rfl (DD ?_);exact⟨_,rfl,by rw[ATv h9]⟩
  ·have h9:=AUD ‹_›;refine Cz ?_;try simp only[Di,Dq]
   refine DD ?_;exact⟨_,rfl,by rw[ATt h9]⟩
 intro G19 L' _ hF;obtain⟨e9,zq,rfl,he9⟩:=hF;replace zg:=Bd.mk g17;have g19:=Dy zq;refine k0 _ _ ?_;have hres:(e9=0->TE l=if (Gx m).1=0 then .ok (UK m) else .error (Gx m).1)/\(¬e9=0->TE l=.error e9):=by
  rw[hdec];rcases ho with⟨h0,ho⟩|⟨h0,ho⟩
  ·by_cases h1:0<n'
   ·rw[ATv ⟨h0,h1⟩]at he9;refine⟨λh=>by omega,λ_=>?_⟩;have:mr k=.error 3:=by
     unfold mr;rw[ho];dsimp only;rw[ATt (λh=>by rw[h]at AIh;simp at AIh;omega)]
    rw[this,he9];rfl
   ·rw[ATt (λh=>h1 h.2)]at he9;have hl0:l'=[]:=AH2.1 AL;refine⟨λ_=>AC8 (q:=(((),ts.map tyD),qs)) ?_ ?_,λh=>absurd (he9.trans h0) h⟩
    ·unfold mr;rw[ho];dsimp only;rw[ATv hl0]
    ·subst hm;unfold UK vB;rw[hqs];rfl
  ·rw[ATt (λh=>h0 h.1)]at he9;refine⟨λh=>absurd (he9.symm.trans h) h0,λ_=>?_⟩;rw[AAj ho,he9];rfl
 clear he9 ho hS' hqs;have hmV:Ie m=.agg #[ξ A6 j c6,ξ A7 i c7]:=by rw[hm];rfl
 clear hm;refine Cw λK k0=>?_;refine Df (λ_ _=>True) (λF' L' => ∃(e3:Int),EH F' G19 [2,4,5]/\L'=[snap [] W v6 f6,.blk b5 129 [ξ A6 j c6,ξ A7 i c7],.blk b2 129 [ξ ν 0 0,ξ ν 0 0],jY r A' n' c' e3]/\e3=if e9=0 then (Gx m).1 else e9) ?_ ?_
 ·replace zg:=Bd.mk (AO g4 (AO g5 (AO g9 (AO g10 g19))));refine Db ?_;refine Ec (λhc=>?_) λhc=>?_
  ·have he:e9=0:=AT0 ‹_›;refine DJ rfl (DD ?_);rw[<-hmV];refine DI (λw hw=>M7 m w (hkD.at hw 0 rfl)) ?_;try refine DD ?_
   exact⟨_,rfl,by rw[ATv he]⟩
  ·have he:¬e9=0:=AUD ‹_›;refine Cz ?_;try simp only[Di,Dq]
   refine DD ?_;exact⟨_,rfl,by rw[ATt he]⟩
 intro G20 L' _ hF;obtain⟨e3,zq,rfl,he3⟩:=hF;replace zg:=Bd.mk g19;have g20:=Dy zq;refine k0 _ _ (Cw λK k0=>?_);replace zg:=Bd.mk (AO g4 (AO g5 (AO g9 (AO g10 g20))));refine Db ?_;refine Ec (λhc=>?_) λhc=>?_
 ·have hz:¬e3=0:=by simpa using‹(!decide (e3=0))=τ›
  have hD:TE l=.error e3:=by
   by_cases he:e9=0
   ·rw[ATv he]at he3;rw[hres.1 he,ATt (by rw[<-he3];exact hz),he3]
   ·rw[ATt he]at he3;rw[hres.2 he,he3]
  refine Cw λK k1=>FD [3] [(τ,0),(τ,1),(τ,2),(τ,3),(τ,4),(ο,5),(τ,6)] [] ?_;refine DD (k1 _ _ ?_);refine C8 (FF ?_);intro w hw;exact⟨(UL,e3),rfl,nC _ _ hz hD,hw.below⟩
 have hz:e3=0:=by simpa using‹(!decide (e3=0))=ο›
 have he:e9=0:=by
  by_cases he:e9=0
  ·exact he
  ·rw[ATt he]at he3;omega
 have hD:TE l=.ok (UK m):=by
  rw[ATv he]at he3;rw[hres.1 he,ATv (by rw[<-he3];exact hz)]
 refine Cz (k0 _ _ (Db ?_));refine C8 (FF ?_);intro w hw;exact⟨(m,0),by rw[mdV,hmV],⟨hk6.same (λy hy=>hw.KX (.head _) y (.inl hy)) (hw.Zl 0 rfl AUq),.inl ⟨rfl,hD⟩⟩,hw.below⟩
theorem AAp A n c fs len W(hE:Sl W W.heap.size 2 A n c (cl NR fs)):
  Calls AGm 83 #[PE len A n c] W (rowP 5 1 (λv=>.tuple #[v,ε ζ (Ho len fs)]) (Gf (kP len fs)) W):=by
 have hln:fs.length=n:=GM H5 AL hE.len;refine DL (M:=[]) Tryz.func83 [.tmp 2,.tmp 3] (St.nil _ _) ?_;refine C9 rfl λK k0=>?_;have zs:=Bd.mk l9;refine DR ?_;intro b hb;refine k0 _ _ (Cw λK k0=>C9 rfl λK k1=>DR ?_);refine DI (λw hw=>Jd A n c fs len w (hE.at hw)) ?_;try refine DR ?_
 refine k1 _ _ (DZ ?_);refine NC (λhc=>?_) λhc=>?_
 ·have hz:¬Ho len fs=0:=by simpa using hc
  refine DZ ?_;refine C8 (Eg λw hw=>?_);have hT:kP len fs=[]:=by unfold kP;rw[ATt hz]
  exact⟨ν,0,0,rfl,by rw[hT];exact World.ownsRow_nil _ _ _ _,hw.below⟩
 have hz:Ho len fs=0:=by simpa using hc
 have hT:kP len fs=WE len fs:=by unfold kP;rw[ATv hz]
 obtain⟨q1,q2,q3,q4,q5,q6,q7⟩:=J3 hz;have e1:IntKind.u64.wrap len=((len.toNat:Nat):Int):=TZ AL AL;have e2:IntKind.u64.wrap (n:Int)=(n:Int):=u64_in AL;refine Cz (k0 _ _ (C9 rfl λK k0=>Ed e1 ?_));refine D9 (λA' n' c'=>ξ A' n' c') (λw hw=>GX ν 0 0 [] len.toNat w (Sl.nil 1) AL AL) ?_;intro A1 n1 c1 hl1 _;refine DR (k0 _ _ ?_);have hn1:n1<=10:=by have:=Ew hl1;have:=El (n:=len.toNat) AL;simp at *;omega
 refine C9 rfl λK k0=>Ed e2 ?_;refine D9 (λA' n' c'=>ξ A' n' c') (λw hw=>GX A1 n1 c1 _ n w (hw.qy 0 rfl) AL AL) ?_;intro A2 n2 c2 hl2 _;refine DR (k0 _ _ ?_);refine DY [0,2] ?_;refine Cw λK k0=>DZ ?_;refine DC [1,5,6] λG1 g1=>?_;replace g1:=EK g1;refine DK ?_;refine Dv (λF' L' => ∃(k:Nat)(A6:Option Addr)(n6 c6:Nat),F' 1=G1 1/\F' 5=ξ A6 n6 c6/\F' 6=ε ζ (k:Int)/\L'=[.row (ξ A6 n6 c6) 5 1 n6 (Gf (Gr len.toNat++Gr n++(fs.take k).flatMap Oy)),G_ b len A n c]/\k<=n/\(Gr len.toNat++Gr n++(fs.take k).flatMap Oy).length=n6) (λF' L'=>40-(intOf (F' 6)).toNat) ?_ ?_
 ·refine⟨0,A2,n2,c2,?_⟩;have zg:=Bd.mk g1;refine DU @ASF.{0,0} ?_;exact⟨by omega,Ew hl2⟩
 intro G2 L' hI;obtain⟨k,A6,n6,c6,fV,Mq,Ms,rfl,⟨hk,h6⟩⟩:=hI;have zg:=Bd.mk g1;have g2:=AO (Dy fV) (AO Mq Ms);refine Cw λK k1=>?_;replace zg:=Bd.mk (AO g1 g2);refine Db ?_;refine Ec (λhc=>?_) λhc=>?_
 ·refine Cz ?_;try simp only[Di,Dq]
  have hlt:k<n:=by have:=AT0 ‹_›;omega
  obtain⟨b0,off,rfl,hb0,-⟩:=hE.cells AL;obtain⟨x,hx⟩:=Fg (l:=fs) (i:=k) AL;have hx0:=Fd.JJ (q6 x (AU hx));have e3:IntKind.u64.wrap x.kind=((x.kind.toNat:Nat):Int):=TZ AL AL;have hfl:=WG (Nj q6 k);have h20:n6<=300:=by
   have h1:=El (n:=len.toNat) AL;have h2:=El (n:=n) AL;rw[Ag,Ag]at h6;rw[Al]at hfl;omega
  have e4:IntKind.u64.wrap x.count=((x.count.toNat:Nat):Int):=TZ AL AL;refine k1 _ _ (Cw λK k1=>DK (C9 rfl λK k2=>DD ?_));refine DX (hE.ABV hx) ?_;refine DU e3 ?_;refine D9 (λA' n' c'=>ξ A' n' c') (λw hw=>GX A6 n6 c6 _ x.kind.toNat w (hw.qy 0 rfl) AL AL) ?_;intro A7 n7 c7 hl7 _;refine DD (k2 _ _ ?_);refine DY [0,2] ?_;refine DJ rfl (DD ?_);refine DX (hE.AJe hx) ?_;refine DU e4 ?_;have hn7:n7<=n6+10:=by
   have h1:=Ew hl7;have h2:=El (n:=x.kind.toNat) AL;rw[Ag]at h1;omega
  refine D9 (λA' n' c'=>ξ A' n' c') (λw hw=>GX A7 n7 c7 _ x.count.toNat w (hw.qy 0 rfl) AL AL) ?_;intro A8 n8 c8 vN _;refine DD (k1 _ _ ?_);refine DY [0,2] ?_;refine Cy rfl (DU @DT ?_);refine⟨⟨k+1,A8,n8,c8,?_⟩,?_⟩
  ·simp -implicitDefEqProofs (disch:=first|omega|decide) only [seval,-Int.reducePow,-Nat.reducePow,cC,pv,D5,EH,undef,l9,Af,q_ hx,<-List.append_assoc,g1,g2];exact⟨by omega,Ew vN⟩
  ·exact AXo
 refine Dr (k0 _ _ ?_);obtain rfl:n=k:=by have:=AUD ‹_›;omega
 rw[Aw AL]at *;refine Db ?_;refine C8 (EP λw hw=>?_);exact⟨A6,n6,c6,by rw[hz],by rw[hT];unfold WE;rw[hln];exact hw.H6 AUq,hw.below⟩
theorem vG m W(hM:Mod W W.heap.size m):Calls AGm 53 #[Ie m] W (rowP 5 1 (λv=>.tuple #[v,ε ζ (S_ m)]) (Gf (NN m)) W):=by
 have hlt:=hM.AFc;have sZ:=hM.Sr;have hE:=hM.ts;have hty:=hM.ty;have hG:=hM.gs;have hfn:=hM.fn;have AAR:=hM.arg;have hno:=ACe (m:=m);have hbig:=AAE (m:=m);have hok:=qH (m:=m);have Sv:=fun {L:List DW} {w:World} (hw:St [] W L w)=>hM.at hw;have AC9:=ME (m:=m);have henc:P8 m=JH++Gr m.ts.length++m.ts.flatMap P7++Gr m.gs.length++m.gs.flatMap Qt:=rfl;obtain⟨q,hq⟩:∃q,Gx m=q:=⟨_,rfl⟩;rw[hq]at hno hbig hok AC9;generalize hem:P8 m=em at *;generalize hme:NN m=me at *;generalize her:S_ m=er at *;obtain⟨TA,tn,tc,ts,FA,fn,fc,gs⟩:=m;dsimp only at *;refine DL (M:=[]) Tryz.func53 [.tmp 2,.tmp 3] (St.nil _ _) ?_;refine C9 rfl λK k0=>?_;have zs:=Bd.mk AF3;refine DR ?_;intro b1 hb1;refine k0 _ _ (C9 rfl λK k0=>DR ?_);refine DI (λw hw=>M7 ⟨TA,tn,tc,ts,FA,fn,fc,gs⟩ w (Sv hw)) ?_;try refine Ed hq ?_
 intro b4 hb4 h4;refine k0 _ _ (Cw λK k0=>DZ ?_);refine NC (λhc=>?_) λhc=>?_
 ·have hz:¬q.1=0:=Gl ‹(!decide (q.1=0))=τ›;refine Cw λK k1=>EB [(τ,0),(τ,1),(τ,2),(τ,3)] [] ?_;refine DR (k1 _ _ ?_);refine C8 (Eg λw hw=>?_);exact⟨ν,0,0,by rw[(hno hz).1],by rw[(hno hz).2];exact World.ownsRow_nil _ _ _ _,hw.below⟩
 have hz:q.1=0:=Bp.1 (F_ ‹(!decide (q.1=0))=ο›);obtain⟨k1,k2,k3,k4,k5⟩:=AC9 hz;have e1:=ax tn AL;have e2:=ax fn AL;refine Cz (k0 _ _ (C9 rfl λK k0=>DR ?_));intro b5 hb5 h5;refine ABZ 0 rfl Tryz.underlying38 Tryz.underlying5 rfl (Ed e1 ?_);refine D9 (λA' n' c'=>ξ A' n' c') (λw hw=>GX (σ ⟨b5,0,ν⟩) 4 4 JH tn w (AL_ b5 hw) AL AL) ?_;intro A1 n1 c1 hl1 _;refine DR (k0 _ _ ?_);have hn1:n1<=20:=by have:=Ew hl1;have:=El (n:=tn) AL;simp[JH]at *;omega
 refine DY [0,3] ?_;refine Cw λK k0=>DZ ?_;refine DC [1,5,6] λG1 g1=>?_;replace g1:=EK g1;refine DK ?_;refine Dv (λF' L' => ∃(k:Nat)(A6:Option Addr)(n6 c6:Nat),F' 1=G1 1/\F' 5=ξ A6 n6 c6/\F' 6=ε ζ (k:Int)/\L'=[.row (ξ A6 n6 c6) 5 1 n6 (Gf (JH++Gr tn++(ts.take k).flatMap P7)),JF b1 ⟨TA,tn,tc,ts,FA,fn,fc,gs⟩]/\k<=tn/\n6<=20+200*k) (λF' L'=>40-(intOf (F' 6)).toNat) ?_ ?_
 ·refine⟨0,A1,n1,c1,?_⟩;have zg:=Bd.mk g1;refine DD ?_;simp only[ASF,BX];repeat' (first|with_reducible exact trivial|with_reducible rfl|omega|refine AO ?_ ?_)
 intro G2 L' hI;obtain⟨k,A6,n6,c6,fV,Mq,Ms,rfl,⟨hk,h6⟩⟩:=hI;have zg:=Bd.mk g1;have g2:=AO (Dy fV) (AO Mq Ms);refine Cw λK k1=>?_;replace zg:=Bd.mk (AO g1 g2);refine Db ?_;refine Ec (λhc=>?_) λhc=>?_
 ·refine Cz ?_;try simp only[Di,Dq]
  have hlt2:k<tn:=by have:=AT0 ‹_›;omega
  obtain⟨b0,off,rfl,hb0,-⟩:=hE.cells AL;obtain⟨x,hx⟩:=Fg (l:=ts) (i:=k) AL;have hxm:=AU hx;have hX:=hty x hxm;have hxz:=k2 x hxm;have hxl:=(dV hxz).1;refine k1 _ _ (Cw λK k1=>DK (C9 rfl λK k2=>DD ?_));refine DX (hE.tyl hx) ?_;refine DD ?_;refine D9 (λA' n' c'=>.tuple #[ξ A' n' c',ε ζ (Ho x.len x.fs)]) (λw hw=>AAp x.A x.n x.c x.fs x.len w (hX.at hw)) ?_;intro A8 n8 c8 vN _;rw[ACf hxz]at *;have hn8:n8<=198:=by have:=Ew vN;unfold P7 at this;omega
  refine DD (k2 _ _ ?_);refine DJ rfl (DD ?_);refine D6 1 Vn rfl (λw hw=>Hz (.head _) hw) (MQ _) AL AL ?_;intro A9 c9 hl9 _;refine DD (k1 _ _ ?_);refine DY [0,2] ?_;refine Cy rfl (DU @DT ?_);refine⟨⟨k+1,A9,n6+n8,c9,?_⟩,?_⟩
  ·refine DU @Af ?_;rw[UC P7 hx,<-List.append_assoc (JH++Gr tn),XT _ (P7 x)];exact⟨rfl,by omega,by omega⟩
  ·exact AXo
 refine Dr (k0 _ _ ?_);obtain rfl:tn=k:=by have:=AUD ‹_›;omega
 rw[Aw AL];refine F8 0 rfl λhl6=>C9 rfl λK k0=>DU e2 ?_;refine D9 (λA' n' c'=>ξ A' n' c') (λw hw=>GX A6 n6 c6 _ fn w (hw.qy 0 rfl) AL AL) ?_;intro A9 n9 c9 hl9 _;refine DD (k0 _ _ ?_);have hn9:n9<=7000:=by have q1:=Ew hl9;have q2:=Ew hl6;have q3:=El (n:=fn) AL;rw[Ag]at q1;omega
 refine DY [0,2] ?_;generalize hpre:JH++Gr tn++ts.flatMap P7++Gr fn=pre at *;refine Cw λK k0=>Db ?_;refine DC [1,5,9] λG3 g3=>?_;replace g3:=Dy g3;refine DK ?_;refine Dv (λF' L' => ∃(k:Nat)(A6:Option Addr)(n6 c6:Nat),F' 1=G3 1/\F' 5=ξ A6 n6 c6/\F' 9=ε ζ (k:Int)/\L'=[.row (ξ A6 n6 c6) 5 1 n6 (Gf (pre++(gs.take k).flatMap Qt)),JF b1 ⟨TA,tn,tc,ts,FA,fn,fc,gs⟩]/\k<=fn/\n6<=7000+12000*k) (λF' L'=>40-(intOf (F' 9)).toNat) ?_ ?_
 ·refine⟨0,A9,n9,c9,?_⟩;replace zg:=Bd.mk (AO g1 (AO g2 g3));refine DD ?_;simp only[ASF,BX];repeat' (first|with_reducible exact trivial|with_reducible rfl|omega|refine AO ?_ ?_)
 intro G4 L' hI;obtain⟨k,A6,n6,c6,fV,Mq,lC,rfl,⟨hk,h6⟩⟩:=hI;replace zg:=Bd.mk g3;have g4:=AO (Dy fV) (AO Mq lC);refine Cw λK k1=>?_;replace zg:=Bd.mk (AO g1 (AO g2 (AO g3 g4)));refine Db ?_;refine Ec (λhc=>?_) λhc=>?_
 ·refine Cz ?_;try simp only[Di,Dq]
  have hlt2:k<fn:=by have:=AT0 ‹decide ((k:Int)<(fn:Int))=τ›;omega
  obtain⟨b0,off,rfl,hb0,-⟩:=hG.cells AL;obtain⟨x,hx⟩:=Fg (l:=gs) (i:=k) AL;have hxm:=AU hx;have hX:=hfn x hxm;have hxi:=k5 k x hx;have hxa:=AAR x hxm;have hxl:x.code.length=x.n:=GM Gw AL hX.len;have hsn:=UC Qt hx;have AF7:Qt x=[x.p.toNat,x.r.toNat,x.l.toNat,x.code.length].flatMap Gr++x.code.flatMap encI:=rfl;generalize hex:Qt x=ex at *;have hxf:=LG hxi.1;have hld:=hG.fnl (L:=[.row (ξ A6 n6 c6) 5 1 n6 (Gf (pre++(gs.take k).flatMap Qt)),JF b1 ⟨TA,tn,tc,ts,σ ⟨b0,off,ν⟩,fn,fc,gs⟩]) hx;have AMK:=hxi.2;clear hx hxm hxi;obtain⟨xp,xr,xl,xA,xn,xc,code⟩:=x;dsimp only at *;obtain⟨p,rfl⟩:=ASl hxf.1;obtain⟨r,rfl⟩:=ASl hxf.2.1;obtain⟨l,rfl⟩:=ASl hxf.2.2.1;simp only[Bo]at AF7;rw[hxl]at AF7;generalize hpg:pre++(gs.take k).flatMap Qt=pg at *;have ep:=ax p AL;have er:=ax r AL;have el:=ax l AL;have en:=ax xn AL;have bp:=El (n:=p) AL;have br:=El (n:=r) AL;have bl:=El (n:=l) AL;have bn:=El (n:=xn) AL;refine k1 _ _ (F8 0 rfl λhl0=>Cw λK k1=>DK (C9 rfl λK k2=>DD ?_));refine DX (hld) ?_;refine DD ?_;intro b11 yu h11;refine k2 _ _ (C9 rfl λK k2=>DU ep ?_);refine D9 (λA' n' c'=>ξ A' n' c') (λw hw=>GX A6 n6 c6 _ p w (hw.qy 1 rfl) AL AL) ?_;intro A7 n7 c7 hl7 _;have hn7:n7<=n6+10:=by have q1:=Ew hl7;have q2:=Ew hl0;rw[Ag]at q1;omega
  refine DD (k2 _ _ ?_);refine DY [0,1,3] ?_;refine C9 rfl λK k2=>DU er ?_;refine D9 (λA' n' c'=>ξ A' n' c') (λw hw=>GX A7 n7 c7 _ r w (hw.qy 0 rfl) AL AL) ?_;intro A8 n8 c8 vN _;have hn8:n8<=n7+10:=by have q1:=Ew vN;have q2:=Ew hl7;rw[Ag]at q1;omega
  refine DD (k2 _ _ ?_);refine DY [0,2,3] ?_;refine C9 rfl λK k2=>DU el ?_;refine D9 (λA' n' c'=>ξ A' n' c') (λw hw=>GX A8 n8 c8 _ l w (hw.qy 0 rfl) AL AL) ?_;intro A10 n10 c10 AIk _;have AQr:n10<=n8+10:=by have q1:=Ew AIk;have q2:=Ew vN;rw[Ag]at q1;omega
  refine DD (k2 _ _ ?_);refine DY [0,2,3] ?_;refine C9 rfl λK k2=>DU en ?_;refine D9 (λA' n' c'=>ξ A' n' c') (λw hw=>GX A10 n10 c10 _ xn w (hw.qy 0 rfl) AL AL) ?_;intro A11 n11 c11 AML _;have AQt:n11<=n10+10:=by have q1:=Ew AML;have q2:=Ew AIk;rw[Ag]at q1;omega
  refine DD (k2 _ _ ?_);refine DY [0,2,3] ?_;have hpe:pg++Gr p++Gr r++Gr l++Gr xn=pg++[p,r,l,xn].flatMap Gr:=by simp
  rw[hpe];refine Db ?_;refine DC [1,5,9,10,11] λG5 g5=>?_;replace g5:=Dy g5;refine DK ?_;refine Dv (λF' L' => ∃(j:Nat)(A7:Option Addr)(n7 c7:Nat),EH F' G5 [1,9,10]/\F' 5=ξ A7 n7 c7/\F' 11=ε ζ (j:Int)/\L'=[.row (ξ A7 n7 c7) 5 1 n7 (Gf (pg++[p,r,l,xn].flatMap Gr++(code.take j).flatMap encI)),.blk b11 169 [ε ζ (p:Int),ε ζ (r:Int),ε ζ (l:Int),ξ xA xn xc],JF b1 ⟨TA,tn,tc,ts,σ ⟨b0,off,ν⟩,fn,fc,gs⟩]/\j<=xn/\n7<=7000+12000*k+40+11*j) (λF' L'=>1100-(intOf (F' 11)).toNat) ?_ ?_
  ·refine⟨0,A11,n11,c11,?_⟩;replace zg:=Bd.mk (AO g1 (AO g2 (AO g3 (AO g4 g5))));refine DD ?_;simp only[ASF,BX];repeat' (first|with_reducible exact trivial|with_reducible rfl|omega|refine AO ?_ ?_)
  intro G6 L' hI;obtain⟨j,A7,n7,c7,zq,Mq,ag,rfl,⟨hj,h7⟩⟩:=hI;replace zg:=Bd.mk g5;have g6:=AO (Dy zq) (AO Mq ag);refine Cw λK k2=>?_;replace zg:=Bd.mk (AO g1 (AO g2 (AO g3 (AO g4 (AO g5 g6)))));refine Db ?_;refine Ec (λhc=>?_) λhc=>?_
  ·refine Cz ?_;try simp only[Di,Dq]
   have hjt:j<xn:=by have:=AT0 ‹decide ((j:Int)<(xn:Int))=τ›;omega
   obtain⟨xb,xo,hxA,hxb,-⟩:=hX.cells AL;subst hxA;obtain⟨y,hy⟩:=Fg (l:=code) (i:=j) AL;have hym:=AU hy;have hyz:=AMK y hym;have hya:=hxa y hym;refine k2 _ _ (Cw λK k2=>DK (C9 rfl λK k3=>DD ?_));refine DX (hX.ins hy) ?_;refine DD ?_;refine D9 (λA' n' c'=>.tuple #[ξ A' n' c',ε ζ y.err]) (λw hw=>nE y w hya) ?_;intro A8 n8 c8 vN _;rw[AAF hyz]at *;have hn8:n8<=11:=by have:=Ew vN;have:=jI hya;omega
   refine DD (k3 _ _ ?_);refine DJ rfl (DD ?_);refine D6 1 Vn rfl (λw hw=>Hz (.head _) hw) (MQ _) AL AL ?_;intro A9 c9 hl9 _;refine DD (k2 _ _ ?_);refine DY [0,2,3] ?_;refine Cy rfl (DU @DT ?_);refine⟨⟨j+1,A9,n7+n8,c9,?_⟩,?_⟩
   ·refine DU @Af ?_;rw[UC encI hy,<-List.append_assoc (pg++_),XT _ (encI y)];exact⟨rfl,by omega,by omega⟩
   ·exact AXo
  refine Dr (k1 _ _ ?_);obtain rfl:j=xn:=by have:=AUD ‹decide ((j:Int)<(xn:Int))=ο›;omega
  rw[Aw AL,Bh,<-AF7,<-hpg,Bh,<-hsn];refine DY [0,2] ?_;refine Cy rfl (DU @DT ?_);refine⟨⟨k+1,A7,n7,c7,?_⟩,?_⟩
  ·refine DU @Af ?_;repeat' (first|with_reducible exact trivial|with_reducible rfl|omega|refine AO ?_ ?_)
  ·exact AXo
 refine Dr (k0 _ _ ?_);obtain rfl:fn=k:=by have:=AUD ‹decide ((k:Int)<(fn:Int))=ο›;omega
 rw[Aw AL];rw[hlt,sZ,hpre]at henc;rw[<-henc];refine F8 0 rfl λhl=>?_;have hl:=Ew hl;refine Cw λK k0=>Db ?_;refine Ec (λhc=>?_) λhc=>?_
 ·have h2:65536<em.length:=by have:=AT0 ‹decide ((65536:Int)<(n6:Int))=τ›;omega
  refine Db ?_;refine C8 (EP λw hw=>?_);exact⟨ν,0,0,by rw[(hbig hz h2).1],by rw[(hbig hz h2).2];exact World.ownsRow_nil _ _ _ _,hw.below⟩
 have h2:¬65536<em.length:=by have:=AUD ‹decide ((65536:Int)<(n6:Int))=ο›;omega
 refine Cz (k0 _ _ (Db ?_));refine C8 (EP λw hw=>?_);exact⟨A6,n6,c6,by rw[(hok hz h2).1],by rw[(hok hz h2).2];exact hw.H6 AUq,hw.below⟩
def AF8(i:Ei×pz):Value:=.tuple #[Ie i.1,MC i.2]
def ldΦ(l:List Nat)(i:Ei×pz)(w w':World):Prop:=LH w' (Nw w w') i.1/\ldP l i.1 i.2
def AAq:=AO (AO (AO @JF.eq_1 @Ie.eq_1) (AO @GJ.eq_1 @MC.eq_1)) (AO (AO @Hl.eq_1 @mdV.eq_1) (AO @Ac (AO @cS @DT)))
theorem vH A n c l W(hE:Sl W W.heap.size 1 A n c (Gf l))(hb:∀x∈l,x<256):
  Calls AGm 57 #[ξ A n c] W λe w' => ∃i,e=κ (AF8 i)/\ldΦ l i W w'∧Below W.heap.size W w':=by
 have hmV:∀m:Ei,(Value.agg #[ξ m.TA m.tn m.tc,ξ m.FA m.fn m.fc])=Ie m:=λ_=>rfl;refine ER (M:=[]) (n:=26) [.cell 2 129,.cell 3 132] rfl Tryz.func57 rfl rfl (Am rfl) (St.nil _ _) ?_;refine C9 rfl λK k0=>?_;have zs:=Bd.mk AAq;refine DR ?_;intro b2 hb2 b3 hb3 hf3;refine k0 _ _ (C9 rfl λK k0=>DR ?_);refine WH mdV (mdΦ l) (λw hw=>vF A n c l w (hE.at hw) hb) ?_;rintro⟨k,e⟩ w0 w1 f1 hw0 hw1 ⟨hk,hd⟩ hNw;dsimp only at hk hd;have hkD:LH w1 (Dm [] W f1) k:=hk.mono λy hy=>.inl (hNw y hy);refine DR ?_;intro b4 hb4 jo;refine k0 _ _ (DC [2,3,4,5] λG1 g1=>?_);replace g1:=EK g1;refine Cw λK k0=>?_;have zg:=Bd.mk g1;refine Db ?_;refine Ec (λhc=>?_) λhc=>?_
 ·have hz:¬e=0:=Gl ‹(!decide (e=0))=τ›;refine C9 rfl λK k1=>DD ?_;refine DI (λw hw=>GI e (-1) (-1) w) ?_;try refine DD ?_
  refine k1 _ _ (C8 (FF ?_));intro w hw;exact⟨(UL,(e,-1,-1)),rfl,⟨m_ _ _,.inl ⟨e,hz,hd.elim (λh=>absurd h.1 hz) λh=>h.2.1,rfl,rfl⟩⟩,hw.below⟩
 have hz:e=0:=Bp.1 (F_ ‹(!decide (e=0))=ο›);have hdec:TE l=.ok (UK k):=hd.elim (λh=>h.2) λh=>absurd hz h.1;obtain⟨V,hV⟩:∃V,Mw k=V:=⟨_,rfl⟩;refine Cz (k0 _ _ (C9 rfl λK k0=>DD ?_));rw[hmV k];refine DI (λw hw=>U2 k w (hkD.at hw 1 rfl)) ?_;try refine DU hV ?_
 intro b6 hb6 jm;refine k0 _ _ (DC [2,3,4,6] λG2 g2=>?_);replace g2:=Dy g2;refine Cw λK k0=>?_;replace zg:=Bd.mk g2;refine Db ?_;refine Ec (λhc=>?_) λhc=>?_
 ·have hv:¬V.1=0:=Gl ‹(!decide (V.1=0))=τ›;refine Cw λK k1=>FD [0] [(τ,0),(τ,1),(ο,2),(ο,3)] [3] ?_;refine DD (k1 _ _ ?_);refine C8 (FF ?_);intro w hw;exact⟨(UL,V),rfl,⟨m_ _ _,.inr ⟨k,hdec,.inr ⟨by rw[hV];exact hv,rfl,hV.symm⟩⟩⟩,hw.below⟩
 have hv:V.1=0:=Bp.1 (F_ ‹(!decide (V.1=0))=ο›);refine Cz (k0 _ _ (Cw λK k0=>FD [1] [(τ,0),(ο,1),(ο,2),(ο,3)] [2,3] ?_));refine DD ?_;refine DI (λw hw=>Mj w) ?_;try refine DD ?_
 refine k0 _ _ (DY [2,0,1,3,4] ?_);refine C8 (FF ?_);intro w hw;exact⟨(k,Hl),rfl,⟨hk.same (λy hy=>hw.KX (.head _) y (.inl (hNw y hy))) λy hy=>hw.Zl 0 rfl AUq y (hNw y hy),.inr ⟨k,hdec,.inl ⟨by rw[hV];exact hv,rfl,rfl⟩⟩⟩,hw.below⟩
theorem ja m W(hM:Mod W W.heap.size m):Calls AGm 30 #[Ie m] W (rowP 5 1 (λv=>v) (Gf (NN m)) W):=by
 have hmV:∀m:Ei,(Value.agg #[ξ m.TA m.tn m.tc,ξ m.FA m.fn m.fc])=Ie m:=λ_=>rfl;refine DL (M:=[]) Tryz.func30 [.tmp 2] (St.nil _ _) ?_;refine C9 rfl λK k0=>?_;have zs:=Bd.mk AAq;refine DR ?_;intro b1 hb1;refine k0 _ _ (C9 rfl λK k0=>DR ?_);rw[hmV m];refine D9 (λA n c=>.tuple #[ξ A n c,ε ζ (S_ m)]) (λw hw=>vG m w (hM.at hw)) ?_;intro A n c hl hr;refine DR (k0 _ _ ?_);refine DZ ?_;refine C8 (Eg λw hw=>?_);exact⟨A,n,c,rfl,hw.H6 AUq,hw.below⟩
end Go.Proofs.YtnkgiaimcpbhkaaGreat
