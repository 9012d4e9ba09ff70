import Derived.Test.YtnkgiaimcpbhkaaGreatDells14
set_option linter.all false
set_option maxRecDepth 100000
set_option maxHeartbeats 4000000
open Prod renaming snd→ASY,fst→AH0
open Int renaming add_zero→AHR
open Bool renaming false→ο,true→τ
open Go.Ending renaming returned→κ
open Go.IntKind renaming i64→ζ
open Option renaming none→ν,some→σ
open Go.Value renaming bool→θ,int→ε
namespace Go.Proofs.YtnkgiaimcpbhkaaGreat
open Tryz renaming prog→AGm
open Go.RowKit Go.Shelf
def enB(e:En):BO:=⟨e.h,e.ow⟩
def bkO(x:Dc):BkR:=⟨0,0,ν,0,0,ν,0,0,x.sv,(KH x.tb x.tb.en).map enB,x.l⟩
theorem aA{x k}(hi:QR x.tb k)b:b∈(bkO x).l↔∃s,Ej x.tb.s s=τ/\b=enB (ET x.tb s):=by
 show b∈(KH x.tb x.tb.en).map enB↔_;rw[aP,ATG,BL];constructor
 ·rintro⟨s,hs,rfl⟩;exact⟨s,(Bl.1 hs).2,rfl⟩
 ·rintro⟨s,hs,rfl⟩;exact⟨s,Bl.2 ⟨ASs.2 (pQ hi hs),hs⟩,rfl⟩
theorem AA2{x}(hE:TbE x.tb):AA7 (bkO x).l:=by
 show ((KH x.tb x.tb.en).map enB).Pairwise _;rw[aP,ATG,AG2];have h1:(zC x.tb x.tb.en).Pairwise (· < ·):=List.Pairwise.sublist AGp List.pairwise_lt_range;refine h1.imp_of_mem fun {a b} ha hb hab=>?_;have h2:=(hE.live a (Bl.1 ha).2).sl;have h3:=(hE.live b (Bl.1 hb).2).sl;show De (ET x.tb a).h<De (ET x.tb b).h;omega
theorem AB0{a b}(ha:AA7 a)(hb:AA7 b)(h:∀x,x∈a↔x∈b):a=b:=ABk (R:=λa b=>De a.h<De b.h) (λa b h1 h2=>by omega) ha hb h
theorem ABO{x k}(hi:QR x.tb k)(hE:TbE x.tb){o i b}(hf:(bkO x).l.findIdx? (λa=>decide (a.h=o))=σ i)(hb:(bkO x).l[i]?=σ b):b=⟨o,(ET x.tb (De o)).ow⟩/\Ej x.tb.s (De o)=τ/\(ET x.tb (De o)).h=o:=by
 obtain⟨h1,h2,-⟩:=AG9.1 hf;have h3:(bkO x).l[i]=b:=(Ab.1 hb).2;rw[h3]at h2;have h4:b.h=o:=by simpa using h2
 obtain⟨s,hs,rfl⟩:=(aA hi b).1 (AU hb);have h5:=(hE.live s hs).sl;have h6:(ET x.tb s).h=o:=h4;rw[h6]at h5;rw[h5];exact⟨by unfold enB;rw[h6],hs,h6⟩
theorem ADc{x k}(hi:QR x.tb k){o}(he:GU x.tb o=0):¬(bkO x).l.findIdx? (λa=>decide (a.h=o))=ν:=by
 intro hn;rw[AHE]at hn;obtain⟨r1,r2,r3,r4⟩:=GZ he;have h1:=hn _ ((aA hi _).2 ⟨De o,r2,rfl⟩);unfold enB at h1;simp[r4]at h1
theorem ABG{sv p}(h:Fy sv p=τ):(1<=p/\p<=64)/\sv[p.toNat]?=σ 1:=by
 refine⟨GH h,?_⟩;unfold Fy at h;simp only[Au,AT5]at h;obtain⟨-,-,h⟩:=h;cases hq:sv[p.toNat]? with
 |none=>rw[hq]at h;cases h
 |some v=>rw[hq]at h;exact AT4 σ h
structure HSm(x z:Dc):Prop where
 tb:z.tb=x.tb
 l:z.l=x.l
 mt:z.mt=x.mt
 sv:z.sv=x.sv
theorem HSm.refl x:HSm x x:=⟨rfl,rfl,rfl,rfl⟩
theorem HSm.tr{x y z}(h:HSm x y)(k:HSm y z):HSm x z:=⟨k.tb.trans h.tb,k.l.trans h.l,k.mt.trans h.mt,k.sv.trans h.sv⟩
theorem HSm.bk{x z}(h:HSm x z):bkO z=bkO x:=by unfold bkO;rw[h.tb,h.l,h.sv]
theorem HSm.mtr{x z}(h:HSm x z)(hm:MtR x):MtR z:=λp=>by
 unfold usQ;rw[h.mt,h.tb,h.l];exact hm p
theorem W_.hsm{z y e}(h:W_ z y e):HSm z y:=by
 obtain⟨i,hi,hy⟩:=h;split at hy
 ·rw[hy];exact AWb
 ·obtain⟨j,hy⟩:=hy;rw[hy];exact AWb
theorem Pw.hsm{x y p}(h:Pw x y p):HSm x y:=by
 unfold Pw at h;split at h
 ·obtain⟨j,rfl⟩:=h;exact AWb
 ·rw[h];exact HSm.refl x
theorem EqM.hsm{x y}(h:EqM x y):HSm x y:=by
 rcases h with rfl|⟨i,rfl,hi⟩
 ·exact HSm.refl _
 ·exact⟨rfl,rfl,hi,rfl⟩
theorem EqU.hsm{x y}(h:EqU x y):HSm x y:=by
 rcases h with rfl|⟨i,rfl,hi⟩
 ·exact HSm.refl _
 ·exact AWb
theorem EqB.hsm{x y}(h:EqB x y):HSm x y:=by
 rcases h with rfl|⟨s,br,l,-,-,rfl⟩
 ·exact HSm.refl _
 ·exact AWb
theorem AB2{x z y e}(hr:W_ z y e)(hc:Qk e=0)(hb:Gm x e.pl=0)(hes:z.es=x.es)(hcap:z.cap=x.cap):y.es=x.es++[e]:=by
 obtain⟨i,hi,hy⟩:=hr;have hcn:(SH x.es e.pl:Int)<x.cap:=by
  unfold Gm at hb;split at hb
  ·cases hb
  ·split at hb
   ·cases hb
   ·rename_i h;simpa using h
 unfold Q9 at hi;rw[ATt (λh=>h hc),hes,hcap,AUB hcn,ATQ,ASU,ATt AJ]at hi;have h0:i.r=0:=AT4 AH0 hi;have h1:i.es=x.es++[e]:=AT4 ASY hi;rw[ATv h0]at hy;rw[hy];exact h1
structure HG(x:Dc)(n:Nat):Prop where
 s:∃s,Lb hs0 x.es=σ s/\Nr n s/\RelB n s (bkO x)
 m:MtR x
theorem HG.same{x y n}(h:HG x n)(k:HSm x y)(hes:y.es=x.es∨∃e,Td e=τ/\y.es=x.es++[e]):HG y (n+1):=by
 obtain⟨s,h1,h2,h3⟩:=h.s;refine⟨⟨s,?_,h2.up,by rw[k.bk];exact h3.up⟩,k.mtr h.m⟩;rcases hes with he|⟨e,hs,he⟩
 ·rw[he];exact h1
 ·rw[he,Yv,h1];show Jk s e=σ s;unfold Jk;rw[ATv hs]
theorem HG.took{x y n}(h:HG x n){e}(he:e.ok)(hsk:Td e=ο)(hT:AA4 (bkO x) e τ (bkO y))(hes:y.es=x.es++[e])(hm:MtR y):HG y (n+1):=by
 obtain⟨s,h1,h2,h3⟩:=h.s;obtain⟨h4,h5⟩:=h3.step h2 hsk hT;cases hs:Jk s e with
 |none=>rw[hs]at h4;cases h4
 | some s' =>
  refine⟨⟨s',?_,h2.step he hs,h5 s' hs⟩,hm⟩;rw[hes,Yv,h1];exact hs
theorem HG.st{x n}(h:HG x n):x.sv.length=65:=by
 obtain⟨s,-,-,h3⟩:=h.s;exact h3.sl
theorem AB9{p op er h ar}(hh:h<18446744073709551616)(ha:ar<18446744073709551616):(Gs.mk p op h ar er).ok:=⟨hh,ha⟩
theorem AA_{p op h ar}(h2:¬(3<=op/\op<=7)):Td ⟨p,op,h,ar,0⟩=ο:=by
 unfold Td;exact AUC λhn=>hn.elim (λh1=>h1 rfl) h2
theorem ADd{e}(h:¬e.er=0):Td e=τ:=by unfold Td;exact AUB (.inl h)
theorem AF4{e}(h:3<=e.op/\e.op<=7):Td e=τ:=by unfold Td;exact AUB (.inr h)
theorem ABD{p op er h ar}(hp:1<=p/\p<=64)(he:0<=er/\er<=29)(ho:(1<=op/\op<=11)\/op=32\/op=33):Qk ⟨p,op,h,ar,er⟩=0:=by
 unfold Qk;dsimp only;rw[ATt AL,ATt AL]
theorem HG.FL{x y n p}(h:HG x n)(hr:AFF x y p):HG y (n+1):=by
 have h1:=hr.r;by_cases h0:lZ x p=0
 ·rw[ATv h0]at h1;obtain⟨i,rfl,hi⟩:=h1;have hp:1<=p/\p<=64/\(x.sv[p.toNat]?).getD 0=0:=by
   unfold lZ at h0;split at h0
   ·cases h0
   ·split at h0
    ·cases h0
    ·rename_i a b;exact⟨by omega,by omega,CZ b⟩
  have hes:i.es=x.es++[⟨p,32,0,0,0⟩]:=by
   unfold Q9 at hi;rw[ATt (λhn=>hn (ABD ⟨hp.1,hp.2.1⟩ AJ (.inr (.inl rfl))))]at hi;exact AT4 ASY hi
  have hsv:x.sv[p.toNat]?=σ 0:=by
   have hl:p.toNat<x.sv.length:=by have:=h.st;omega
   have h2:=hp.2.2;rw[AQ hl]at h2 ⊢;exact AT4 σ h2
  refine h.took (e:=⟨p,32,0,0,0⟩) (AB9 AJ AJ) (AA_ AJ) ?_ hes (λa=>h.m a);unfold AA4;dsimp only;rw[ATt AL,ATv rfl,ATv (show (bkO x).st[p.toNat]?=σ 0 from hsv)];exact⟨rfl,rfl,rfl,rfl⟩
 ·rw[ATt h0]at h1;rw[h1];exact AIa
theorem HG.edd{x n p i k c k' c'}(h:HG x n)(hx:Ga x k c)(hy:Ga i.y k' c')(AGk:x.es.length<=1000)(hr:EdR x p i):HG i.y (n+1):=by
 have h0:=hr.r;by_cases ha:Fy x.sv p=ο
 ·rw[ATv ha]at h0;rw[h0.2.2];exact AIa
 rw[ATt ha]at h0;obtain⟨-,l,m,x3,es,ei,g⟩:=h0;have hal:=ABG (show Fy x.sv p=τ by simpa using ha);obtain⟨hp,hst⟩:=hal;have hmem:∀e∈es,∃s,Ej x.tb.s s=τ/\e=ET x.tb s/\e.ow=p:=λe he=>by
  rw[g.fe]at he;obtain⟨h1,h2⟩:=Bl.1 he;rw[aP]at h1;obtain⟨s,hs,rfl⟩:=BL.1 h1;exact⟨s,(Bl.1 hs).2,rfl,by simpa using h2⟩
 have hless:Uk (HZ x.mt p) (zG (IX x.l p))=ο:=by
  rw[h.m p];have:=ADX hx.te p;exact ABF this.1 this.2.1 (B_ _)
 have kE:m.l=(KI x.mt p (zG (IX x.l p))).2:=AT4 ASY g.fm;have hm1:MtR ((x.Hg l).E_ m):=λa=>by
  show HZ m.l a=_;rw[kE,ABE hless a,h.m p,h.m a];have hl:(IX l.l a:Int)=if a=p then 0 else (IX x.l a:Int):=by
   have h1:=ABA x.l (λb => !decide (b.ho=p)) a;rw[g.fl];have e1:(IX (x.l.filter λb => !decide (b.ho=p)) p)=0:=by
    unfold IX;rw[AHl,AH2,AHM];intro b _;by_cases hb:b.ho=p<;>simp[hb]
   have e2:¬a=p->IX (x.l.filter λb => !(!decide (b.ho=p))) a=0:=λhn=>by
    unfold IX;rw[AHl,AH2,AHM];intro b _;by_cases hb:b.ho=p
    ·have:¬p=a:=λe=>hn e.symm;simp[hb,this]
    ·simp[hb]
   by_cases hap:a=p
   ·rw[ATv hap,hap,e1];rfl
   ·rw[ATt hap];have:=e2 hap;omega
  show _=Qu.mk (ah (Cu x.tb a) x.tb.en) (ah (BG x.tb a) x.tb.en) (IX l.l a:Int);rw[hl];by_cases hap:a=p
  ·subst hap;rw[ATv rfl,ATv rfl];show Qu.mk (ah (Cu x.tb a) x.tb.en-0) (ah (BG x.tb a) x.tb.en-0) ((IX x.l a:Int)-(IX x.l a:Int))=_;rw[AHA,AHA,Int.sub_self]
  ·rw[ATt hap,ATt hap];rfl
 have k3:=g.fr.kp hm1 hx.te (λe he=>by
  obtain⟨s,hs,rfl,-⟩:=hmem e he;rw[(hx.te.live s hs).sl];rfl)
 have hyt:i.y.tb=x3.tb:=by rw[g.fy];rfl
 have hyl:i.y.l=x3.l:=by rw[g.fy];rfl
 have uP:i.y.es=x.es++[⟨p,33,0,i.n,0⟩]:=by
  rw[g.fy];have hev:=g.ev;unfold Q9 at hev;rw[ATt (λhn=>hn (ABD hp AJ (.inr (.inr rfl))))]at hev;exact AT4 ASY hev
 have hen:∀j,ET i.y.tb j=ET x.tb j:=λj=>by rw[hyt];exact Ty k3.E j
 have hlv:∀j,Ej i.y.tb.s j=τ↔Ej x.tb.s j=τ∧¬(ET x.tb j).ow=p:=λj=>by
  rw[hyt,k3.lv,Au];constructor
  ·rintro⟨h1,h2⟩;refine⟨h1,λho=>?_⟩;have h3:es.any (λe=>decide (De e.h=j))=τ:=AHh.2 ⟨ET x.tb j,by
    rw[g.fe];exact Bl.2 ⟨by rw[aP];exact BL.2 ⟨j,Bl.2 ⟨ASs.2 (pQ hx.tb h1),h1⟩,rfl⟩,by simpa using ho⟩,by simpa using(hx.te.live j h1).sl⟩
   rw[h3]at h2;cases h2
  ·rintro⟨h1,h2⟩;refine⟨h1,?_⟩;rw[CJ,AHr];intro e he;obtain⟨s,hs,rfl,ho⟩:=hmem e he;rw[(hx.te.live s hs).sl];intro hj;have hj:s=j:=by simpa using hj
   exact h2 (hj▸ho)
 have hin:i.n<=1000:=by
  rw[g.fn,g.fe];have h1:=Ap (λe=>decide (En.ow e=p)) (KH x.tb x.tb.en);rw[aP,BF]at h1;have h2:(zC x.tb x.tb.en).length<=_:=Ap _ _;rw[AIC]at h2;have:=hx.sm;rw[aP];omega
 refine h.took (e:=⟨p,33,0,i.n,0⟩) (AB9 AJ AL) (AA_ AJ) ?_ uP ?_
 ·unfold AA4;dsimp only;rw[ATt AL,ATt AJ,ATt (λhn:¬(bkO x).st[p.toNat]?=σ 1=>hn hst),ATv rfl];refine⟨?_,?_,?_,?_⟩
  ·refine(AUB ?_).symm;rw[g.fn,g.fe];show (((KH x.tb x.tb.en).map enB).filter (ownB p)).length=_;rw[AHa,BF];rfl
  ·rw[g.fy];rfl
  ·refine AB0 (AA2 hy.te) ((AA2 hx.te).sublist AGp) λb=>?_;rw[aA hy.tb,Bl,aA hx.tb];constructor
   ·rintro⟨s,hs,rfl⟩;rw[hen];obtain⟨h1,h2⟩:=(hlv s).1 hs;exact⟨⟨s,h1,rfl⟩,by unfold ownB enB;simpa using h2⟩
   ·rintro⟨⟨s,hs,rfl⟩,h2⟩;refine⟨s,(hlv s).2 ⟨hs,by unfold ownB enB at h2;simpa using h2⟩,by rw[hen]⟩
  ·show i.y.l=_;rw[hyl,k3.l];show l.l.filter _=_;rw[g.fl];congr 1;funext b;congr 1;rw[g.fe];unfold ACy;show _=((KH x.tb x.tb.en).map enB).any _;rw[List.any_map,List.any_filter];congr 1;funext e;show (decide (e.ow=p)&&decide (b.ob=(De e.h:Int)))=(decide (e.ow=p)&&decide ((De e.h:Int)=b.ob));congr 1;exact AUg.2 eq_comm
 ·intro a;have h1:=k3.m a;rw[g.fy];exact h1
theorem HG.wr{x y n p op v ar Core}(h:HG x n)(hr:NK x p op ar Core v y)
  (hno:∀z hh,Core z v hh->(¬v=0\/(3<=op/\op<=7))->HSm x z/\O9 x z)
  (uP:v=0→¬(3<=op/\op<=7)->Gm x p=0→∀z hh,Core z v hh->W_ z y ⟨p,op,hh,ar,v⟩->HG y (n+1)):HG y (n+1):=by
 unfold NK at hr;by_cases h0:Gm x p=0
 ·rw[ATv h0]at hr;obtain⟨z,hh,hc,hrec⟩:=hr;by_cases hv:¬v=0\/(3<=op/\op<=7)
  ·obtain⟨h1,h2⟩:=hno z hh hc hv;refine h.same (h1.tr hrec.hsm) ?_;rcases hrec.kp.1 with h3|h3
   ·exact .inl (h3.trans h2.es)
   ·refine .inr ⟨_,?_,h3.trans (by rw[h2.es])⟩;rcases hv with hv|hv
    ·exact ADd hv
    ·exact AF4 hv
  ·exact uP (CZ λhn=>hv (.inl hn)) (λhn=>hv (.inr hn)) h0 z hh hc hrec
 ·rw[ATt h0]at hr;exact h.same hr.2.hsm (.inl hr.2.kp.1)
theorem ACA{x p}(h:Gm x p=0):(1<=p/\p<=64)/\x.sv[p.toNat]?=σ 1:=ABG (Mh h)
theorem AEJ{q}(h:0<=q/\q<=64):(Ki q:Int)=q:=by
 rw[<-IA,IntKind.wrap_u64];omega
theorem ADq{l l' e P Q}(h:WX e (K6 l e.ob e.ho) l' P Q)a:(IX l' a:Int)=IX (K6 l e.ob e.ho) a+if e.ho=a then 1 else 0:=by
 have h1:=ADF P Q a;have h2:=XA e Q a;rw[h.out,h.rest,ADF];omega
theorem ADv{s n x}(h:RelB n s x)ob ho a:(IX (K6 x.E ob ho) a:Int)=IX x.E a-if (holdB x.E ob ho).isSome=τ/\ho=a then 1 else 0:=by
 have h1:=ABA x.E (fK ob ho) a;have h2:(IX (x.E.filter (fK ob ho)) a:Int)=if (holdB x.E ob ho).isSome=τ/\ho=a then 1 else 0:=by
  have hs:=h.eS;obtain⟨E,hE⟩:∃E,x.E=E:=⟨_,rfl⟩;unfold holdB;rw[hE]at hs ⊢;clear h1 hE
  induction E with
  |nil=>simp[IX]
  | cons b E ih =>
   obtain⟨s1,s2⟩:=Ak.1 hs;have ih:=ih s2;rw[Cv,List.find?_cons];cases hb:fK ob ho b with
   | false =>
    simp only[Be,ATz];exact ih
   | true =>
    simp only[ATx,ATK,AT1];have hbb:b.ob=ob/\b.ho=ho:=by unfold fK at hb;simpa using hb
    have hnil:E.filter (fK ob ho)=[]:=by
     rw[AHM];intro c hc hc2;have h3:=s1 c hc;have hcc:c.ob=ob/\c.ho=ho:=by unfold fK at hc2;simpa using hc2
     rw[AA9]at h3;omega
    rw[hnil,XA,hbb.2];simp[IX]
 unfold K6;omega
theorem AFM{l ob ho a}(h:(holdB l ob ho).isSome=τ)(ha:ho=a):1<=IX l a:=by
 cases hh:holdB l ob ho with
 |none=>rw[hh]at h;cases h
 | some e =>
  obtain⟨h1,h2,h3⟩:=Pj hh;unfold IX;exact List.length_pos_of_mem (Bl.2 ⟨h1,by simpa using h3.trans ha⟩)
theorem AGN{x t o q}(hr:gF x t o q)(hq:1<=q/\q<=64)(he:GU x o=0)(hl:De o<x.E.length):(∀j,j≠De o->ET t j=ET x j)/\ET t (De o) = { ET x (De o)with ow:=q } := by
 have hg:Pn x o q=0:=by
  unfold Pn;rw[ATt (λhn=>hn he),ATt AL]
 have hE:=hr.E;rw[ATv hg]at hE;constructor
 ·intro j hj;unfold ET;rw[hE,CX (AS5 hj)]
 ·unfold ET;rw[hE,CY hl];rfl
theorem HG.tra{x y n p q v o k c k' c'}(h:HG x n)(hx:Ga x k c)(hy:Ga y k' c')(ho:ic o)(hr:NK x p 8 (Ki q) (λz v h=>TrR x p o q ⟨v,z⟩/\h=o) v y):HG y (n+1):=by
 refine h.wr hr (λz hh hc hv=>?_) λhv hop hb z hh hc hrec=>?_
 ·have hv:¬v=0:=hv.elim id λh1=>by omega
  have h1:=hc.1.r;rw[ATt hv]at h1;exact⟨EqM.hsm h1,hc.1.q⟩
 subst hv;obtain⟨hc,rfl⟩:=hc;have hq:=hc.q;have hlv:=hc.lv rfl;have h1:=hc.r;rw[ATv rfl]at h1;obtain⟨i1,i2,t,g⟩:=h1;have hres:=g.ok;have AGg:=g.add;have AGh:=g.sub;have gz:=g.zero;have gg:=g.give;have gy:z=((x.E_ i1).E_ i2).Kh t:=g.y;clear g;obtain⟨r1,r2,r3,r4⟩:=GZ hres;obtain⟨hpr,ADf⟩:=ACA hb;obtain⟨⟨hqa,hqp⟩,hacc⟩:=hlv;obtain⟨hqr,AGP⟩:=ABG hqa;obtain⟨how,hnil⟩:=hacc.own rfl;have how:(ET x.tb (De hh)).ow=p:=AT0 how;have huq:=AEJ (q:=q) AL;have hlE:De hh<x.tb.E.length:=by rw[hx.el];exact r1
 obtain⟨e1,e2⟩:=AGN gg hqr hres hlE;have hs:=hrec.hsm;have hyt:y.tb=t:=by rw[hs.tb,gy];rfl
 have hyl:y.l=x.l:=by rw[hs.l,gy];rfl
 have hym:y.mt=i2.l:=by rw[hs.mt,gy];rfl
 have AD7:y.sv=x.sv:=by rw[hs.sv,gy];rfl
 have uP:y.es=x.es++[⟨p,8,hh,Ki q,0⟩]:=AB2 hrec (ABD hpr AJ (.inl AJ)) hb hq.es hq.cap;have hlv:∀j,Ej y.tb.s j=Ej x.tb.s j:=λj=>by rw[hyt,gg.s]
 have AFe:∀j,j≠De hh->ET y.tb j=ET x.tb j:=λj hj=>by rw[hyt];exact e1 j hj
 have AO8:ET y.tb (De hh) = { ET x.tb (De hh)with ow:=q } := by rw[hyt];exact e2
 refine h.took (e:=⟨p,8,hh,Ki q,0⟩) (AB9 ho (Ia q)) (AA_ AJ) ?_ uP ?_
 ·unfold AA4;dsimp only;rw[ATt AL,ATt AJ,ATt (λhn:¬(bkO x).st[p.toNat]?=σ 1=>hn ADf),ATt AJ,ATt AJ];refine⟨λhn=>absurd hn (ADc hx.tb hres),λi b hi hb=>?_,AD7⟩;obtain⟨hbe,-,-⟩:=ABO hx.tb hx.te hi hb;unfold ABf;dsimp only;rw[ATt AJ,ATt AJ,ATv rfl,ATv]
  ·refine⟨rfl,?_,hyl⟩;have hbs:AA7 ((bkO x).l.set i ⟨b.h,(Ki q:Int)⟩):=AEB hb (AA2 hx.te) rfl;refine AB0 (AA2 hy.te) hbs λa=>?_;rw[aA hy.tb,AEA hb (AA2 hx.te),aA hx.tb,hbe,huq];constructor
   ·rintro⟨s,hs,rfl⟩;rw[hlv]at hs;by_cases hj:s=De hh
    ·subst hj;refine .inl ?_;rw[AO8];unfold enB;rw[r4]
    ·refine .inr ⟨⟨s,hs,by rw[AFe s hj]⟩,?_⟩;rw[AFe s hj];show ¬De (ET x.tb s).h=De hh;rw[(hx.te.live s hs).sl];exact hj
   ·rintro(rfl|⟨⟨s,hs,rfl⟩,hne⟩)
    ·refine⟨De hh,by rw[hlv];exact r2,?_⟩;rw[AO8];unfold enB;rw[r4]
    ·have hj:s≠De hh:=λe=>hne (by show De (ET x.tb s).h=De hh;rw[(hx.te.live s hs).sl,e]);exact⟨s,by rw[hlv];exact hs,by rw[AFe s hj]⟩
  ·rw[hbe];dsimp only;have hoth:ADN (bkO x).st ⟨p,8,hh,Ki q,0⟩=τ:=by
    unfold ADN;dsimp only;have h5:(Ki q)=q.toNat:=by omega
    have h6:(bkO x).st[Ki q]?=σ 1:=by rw[h5];exact AGP
    rw[AUB (show 1<=Ki q by omega),AUB (show Ki q<=64 by omega),AUB h6,AUC AL];rfl
   rw[hoth,AUB how,AUB (show NT (bkO x).E (De hh)=[] from hnil)];rfl
 ·intro a;rw[hym];have hadd:=ADQ AGg gz;have hl:=hx.te.len (De hh);have hlp:Cu x.tb p (De hh)=(ET x.tb (De hh)).len:=by unfold Cu;rw[ATv ⟨r2,how⟩]
  have hop:BG x.tb p (De hh)=1:=by unfold BG;rw[ATv ⟨r2,how⟩]
  have hless:Uk (HZ i1.l p) (Tw (ET x.tb (De hh)))=ο:=by
   rw[hadd p,ATt (λe=>hqp e.symm),h.m p];refine ABF ?_ ?_ (ADX hx.te p).2.2
   ·have:=ABN (ADW hx.te p) r1;show (ET x.tb (De hh)).len<=ah (Cu x.tb p) x.tb.en;omega
   ·have:=ABN (ADV x.tb p) r1;show (1:Int)<=ah (BG x.tb p) x.tb.en;omega
  have hi2:i2.l=(KI i1.l p (Tw (ET x.tb (De hh)))).2:=AT4 ASY AGh;rw[hi2,ABE hless a,hadd a,hadd p,ATt (show ¬p=q from λe=>hqp e.symm),h.m a,h.m p,h.m q];have AGQ:y.tb.en=x.tb.en:=by rw[hyt];exact gg.k.en
  have hL:=AA8 (f:=Cu y.tb a) (g:=Cu x.tb a) (n:=x.tb.en) (s:=De hh) (λj hj=>by unfold Cu;rw[hlv,AFe j hj]) r1;have hO:=AA8 (f:=BG y.tb a) (g:=BG x.tb a) (n:=x.tb.en) (s:=De hh) (λj hj=>by unfold BG;rw[hlv,AFe j hj]) r1;have hL1:Cu y.tb a (De hh)=if a=q then (ET x.tb (De hh)).len else 0:=by
   unfold Cu;rw[hlv,AO8,r2];by_cases ha:a=q
   ·exact AIW
   ·exact AIV
  have hL2:Cu x.tb a (De hh)=if a=p then (ET x.tb (De hh)).len else 0:=by
   unfold Cu;rw[r2];by_cases ha:a=p
   ·rw[ATv ha,ATv ⟨rfl,how.trans ha.symm⟩]
   ·rw[ATt ha,ATt (λhn=>ha (hn.2.symm.trans how))]
  have hO1:BG y.tb a (De hh)=if a=q then 1 else 0:=by
   unfold BG;rw[hlv,AO8,r2];by_cases ha:a=q
   ·exact AIW
   ·exact AIV
  have hO2:BG x.tb a (De hh)=if a=p then 1 else 0:=by
   unfold BG;rw[r2];by_cases ha:a=p
   ·rw[ATv ha,ATv ⟨rfl,how.trans ha.symm⟩]
   ·rw[ATt ha,ATt (λhn=>ha (hn.2.symm.trans how))]
  rw[hL1,hL2]at hL;rw[hO1,hO2]at hO;unfold usQ;rw[AGQ,hL,hO,hyl];by_cases ha:a=p
  ·subst ha;have hne:¬a=q:=λe=>hqp e.symm;simp only[ATv,ATt hne,AE2,Tw,AHR,AHA]
  ·by_cases hb2:a=q
   ·subst hb2;simp only[ATv,ATt ha,AE1,Tw,AHR,AHA]
   ·simp only[ATt ha,ATt hb2,AHR,AHA]
theorem AHX.sm{x y q}(h:AHX x y q)(hm:y.mt=x.mt):HSm x y:=by
 obtain⟨x1,hx1,hy⟩:=h;have h1:x1.tb=x.tb/\x1.l=x.l/\x1.sv=x.sv:=by
  rcases hx1 with rfl|⟨j,-,rfl⟩<;>exact⟨rfl,rfl,rfl⟩
 rcases hy with rfl|⟨l,hl,rfl⟩
 ·exact⟨h1.1,h1.2.1,hm,h1.2.2⟩
 ·exact⟨h1.1,hl,hm,h1.2.2⟩
theorem HG.len{x y n p q ac mo op v o k c k' c'}(h:HG x n)(hx:Ga x k c)(hy:Ga y k' c')(h0:op=9/\ac=4/\mo=1\/op=10/\ac=3/\mo=2)(ho:ic o)(hr:NK x p op (Ki q) (λz v h=>LnR x p o q ac mo ⟨v,z⟩/\h=o) v y):HG y (n+1):=by
 refine h.wr hr (λz hh hc hv=>?_) λhv hop hb z hh hc hrec=>?_
 ·have hv:¬v=0:=hv.elim id λh1=>by omega
  have h1:=hc.1.r;rw[ATt hv]at h1;exact⟨h1.sm (hc.1.nm hv AL),hc.1.q⟩
 subst hv;obtain⟨hc,rfl⟩:=hc;have hq:=hc.q;obtain⟨hqa,hqp⟩:=hc.lv (.inl rfl);have hacc:=hc.acc rfl;have h1:=hc.r;rw[ATv rfl]at h1;obtain⟨x1,l,g⟩:=h1;have hres:=g.ok;have gm:=g.m;have ADx:=g.rP;have gy:z=x1.Hg l:=g.y;clear g;obtain⟨r1,r2,r3,r4⟩:=GZ hres;obtain⟨hpr,ADf⟩:=ACA hb;obtain⟨hqr,AGP⟩:=ABG hqa;have how:(ET x.tb (De hh)).ow=p:=by
  rcases h0 with⟨-,h4,-⟩|⟨-,h3,-⟩
  ·exact AT0 (hacc.grant h4).1
  ·exact AT0 (hacc.own h3).1
 have huq:=AEJ (q:=q) AL;have hx1:x1.tb=x.tb/\x1.sv=x.sv:=by
  split at gm
  ·rw[gm];exact AWh
  ·obtain⟨j,-,-,rfl⟩:=gm;exact AWh
 have hs:=hrec.hsm;have hyt:y.tb=x.tb:=by rw[hs.tb,gy];exact hx1.1
 have hyl:y.l=l.l:=by rw[hs.l,gy];rfl
 have hym:y.mt=x1.mt:=by rw[hs.mt,gy];rfl
 have AD7:y.sv=x.sv:=by rw[hs.sv,gy];exact hx1.2
 have uP:y.es=x.es++[⟨p,op,hh,Ki q,0⟩]:=AB2 hrec (ABD hpr AJ (.inl AL)) hb hq.es hq.cap;refine h.took (e:=⟨p,op,hh,Ki q,0⟩) (AB9 ho (Ia q)) (AA_ hop) ?_ uP ?_
 ·unfold AA4;dsimp only;rw[ATt AL,ATt AL,ATt (λhn:¬(bkO x).st[p.toNat]?=σ 1=>hn ADf),ATt AL,ATt AL];have hyb:(bkO y).l=(bkO x).l:=by unfold bkO;rw[hyt]
  refine⟨λhn=>absurd hn (ADc hx.tb hres),λi b hi hb=>?_,AD7⟩;obtain⟨hbe,-,-⟩:=ABO hx.tb hx.te hi hb;have hLA:ABH (bkO x) ⟨p,op,hh,Ki q,0⟩ b mo τ (bkO y):=by
   unfold ABH;rw[hbe];dsimp only;have hoth:ADN (bkO x).st ⟨p,op,hh,Ki q,0⟩=τ:=by
    unfold ADN;dsimp only;have h5:(Ki q)=q.toNat:=by omega
    have h6:(bkO x).st[Ki q]?=σ 1:=by rw[h5];exact AGP
    rw[AUB (show 1<=Ki q by omega),AUB (show Ki q<=64 by omega),AUB h6,AUC AL];rfl
   rw[hoth,AUB how,Bool.and_self,ATv rfl];refine⟨0,rfl,?_,hyb⟩;rw[huq];show Oa x.l (De hh) q mo 0 y.l;rw[hyl];exact ADx
  unfold ABf;dsimp only;rcases h0 with⟨rfl,-,rfl⟩|⟨rfl,-,rfl⟩
  ·rw[ATt AJ,ATt AJ,ATt AJ,ATv rfl];exact hLA
  ·rw[ATt AJ,ATt AJ,ATt AJ,ATt AJ,ATv rfl];exact hLA
 ·intro a;obtain⟨s,-,-,hrel⟩:=h.s;have hh1:(IX l.l a:Int)=IX x.l a+if (holdB x.l (De hh) q).isSome=τ then 0 else if q=a then 1 else 0:=by
   unfold Oa at ADx;split at ADx
   ·cases ADx
   ·obtain⟨-,P,Q,hP⟩:=ADx;have h2:=ADq hP a;have h3:=ADv hrel (De hh) q a;have h3:(IX (K6 x.l (De hh) q) a:Int)=IX x.l a-if (holdB x.l (De hh) q).isSome=τ/\q=a then 1 else 0:=h3
    dsimp only at h2;by_cases hs:(holdB x.l (De hh) q).isSome=τ
    ·rw[ATv hs];simp only[hs,AT1]at h3;omega
    ·rw[ATt hs];rw[ATt (λhn=>hs hn.1)]at h3;omega
  unfold usQ;rw[hym,hyt,hyl,hh1];split at gm
  ·rename_i hs;rw[ATv hs,gm,h.m a,AHR];rfl
  ·rename_i hs;obtain⟨j,hj,hj0,rfl⟩:=gm;show HZ j.l a=_;rw[ATt hs,ADQ hj hj0 a,h.m a,h.m q];by_cases ha:a=q
   ·subst ha;rw[ATv rfl,ATv rfl];unfold AE1 usQ Q1;dsimp only;rw[AHR,AHR]
   ·rw[ATt ha,ATt (λe=>ha e.symm),AHR];rfl
theorem HG.rel{x y n p v o k c k' c'}(h:HG x n)(hx:Ga x k c)(hy:Ga y k' c')(ho:ic o)(hr:NK x p 11 0 (λz v h=>RlR x p o ⟨v,z⟩/\h=o) v y):HG y (n+1):=by
 refine h.wr hr (λz hh hc hv=>?_) λhv hop hb z hh hc hrec=>?_
 ·have hv:¬v=0:=hv.elim id λh1=>by omega
  have h1:=hc.1.r;rw[ATt hv]at h1;refine⟨?_,hc.1.q⟩;rcases h1 with h1|⟨l,hl,h1⟩
  ·have h1:z=x:=h1;rw[h1];exact HSm.refl x
  ·have h1:z=x.Hg l:=h1;rw[h1];exact⟨rfl,hl,rfl,rfl⟩
 subst hv;obtain⟨hc,rfl⟩:=hc;have hq:=hc.q;have h1:=hc.r;rw[ATv rfl]at h1;obtain⟨l,g⟩:=h1;have hres:=g.ok;have ACv:=g.rel;have gy:if (holdB l.l (De hh) p).isSome=τ then z=x.Hg l else ∃j:Pp,(j.r,j.l)=KI x.mt p Q1/\z=(x.Hg l).E_ j:=g.y
 clear g;obtain⟨r1,r2,r3,r4⟩:=GZ hres;obtain⟨hpr,ADf⟩:=ACA hb;have hz:z.tb=x.tb/\z.l=l.l/\z.sv=x.sv:=by
  split at gy
  ·rw[gy];exact⟨rfl,rfl,rfl⟩
  ·obtain⟨j,-,gy⟩:=gy;rw[gy];exact⟨rfl,rfl,rfl⟩
 have hs:=hrec.hsm;have hyt:y.tb=x.tb:=hs.tb.trans hz.1;have hyl:y.l=l.l:=hs.l.trans hz.2.1;have AD7:y.sv=x.sv:=hs.sv.trans hz.2.2;have uP:y.es=x.es++[⟨p,11,hh,0,0⟩]:=AB2 hrec (ABD hpr AJ (.inl AJ)) hb hq.es hq.cap;refine h.took (e:=⟨p,11,hh,0,0⟩) (AB9 ho AJ) (AA_ AJ) ?_ uP ?_
 ·unfold AA4;dsimp only;rw[ATt AL,ATt AJ,ATt (λhn:¬(bkO x).st[p.toNat]?=σ 1=>hn ADf),ATt AJ,ATt AJ];have hyb:(bkO y).l=(bkO x).l:=by unfold bkO;rw[hyt]
  refine⟨λhn=>absurd hn (ADc hx.tb hres),λi b hi hb=>?_,AD7⟩;obtain⟨hbe,-,-⟩:=ABO hx.tb hx.te hi hb;unfold ABf;dsimp only;rw[ATv rfl,hbe];refine⟨0,rfl,?_,hyb⟩;show Qq x.l (De hh) p 0 y.l;rw[hyl];exact ACv
 ·intro a;obtain⟨s,-,-,hrel⟩:=h.s;have h3:(IX (K6 x.l (De hh) p) a:Int)=IX x.l a-if (holdB x.l (De hh) p).isSome=τ/\p=a then 1 else 0:=ADv hrel (De hh) p a
  unfold usQ;rw[hyt,hyl,hs.mt];unfold Qq at ACv;split at ACv
  ·cases ACv
  ·rename_i e he;obtain⟨-,ACv⟩:=ACv;obtain⟨m1,m2,m3⟩:=Pj he;rw[he,ATK]at h3;simp only[AT1]at h3;split at ACv
   ·have hn:¬(holdB l.l (De hh) p).isSome=τ:=by
     rw[ACv];unfold holdB;rw[List.find?_isSome];rintro⟨b,hb1,hb2⟩;have hb3:=(AA6.1 hb1).2;unfold fK at hb2;simp only[Au,AT5]at hb2;exact hb3 hb2
    rw[ATt hn]at gy;obtain⟨j,hj,rfl⟩:=gy;have hjl:j.l=(KI x.mt p Q1).2:=AT4 ASY hj;have hless:Uk (HZ x.mt p) Q1=ο:=by
     rw[h.m p];have h4:=ADX hx.te p;refine ABF h4.1 h4.2.1 ?_;show (1:Int)<=(IX x.l p:Int);have:=AFM (a:=p) (by rw[he];rfl:(holdB x.l (De hh) p).isSome=τ) rfl;omega
    show HZ j.l a=_;rw[hjl,ABE hless a,h.m a,h.m p,ACv,h3];by_cases ha:a=p
    ·subst ha;rw[ATv rfl,ATv rfl];unfold AE2 usQ Q1;dsimp only;rw[AHA,AHA]
    ·rw[ATt ha,ATt (λe=>ha e.symm),AHA];rfl
   ·obtain⟨P,Q,hP⟩:=ACv;have h4:=ADq (e := { e with co:=e.co-1 }) hP a;dsimp only at h4;have hm:(holdB l.l (De hh) p).isSome=τ:=by
     unfold holdB;rw[List.find?_isSome];exact⟨_,(hP.mem _).2 (.inl rfl),by unfold fK;simp[m2,m3]⟩
    rw[ATv hm]at gy;rw[m2,m3]at h4;have h5:(IX l.l a:Int)=IX x.l a:=by omega
    rw[gy,h5];exact h.m a
theorem HG.Fu{x y n p v o k c k' c'}(h:HG x n)(hx:Ga x k c)(hy:Ga y k' c')(ho:ic o)(hr:NK x p 2 0 (λz v h=>mF x z p o v/\h=o) v y):HG y (n+1):=by
 refine h.wr hr (λz hh hc hv=>?_) λhv hop hb z hh hc hrec=>?_
 ·have hv:¬v=0:=hv.elim id λh1=>by omega
  have h1:=hc.1.r;rw[ATt hv]at h1;rw[h1];exact⟨HSm.refl x,O9.refl x⟩
 subst hv;obtain⟨hc,rfl⟩:=hc;have hq:=hc.q;have h1:=hc.r;rw[ATv rfl]at h1;obtain⟨hres,hacc,l,m,u,t,hF⟩:=h1;obtain⟨r1,r2,r3,r4⟩:=GZ hres;obtain⟨hpr,ADf⟩:=ACA hb;obtain⟨how,hnil⟩:=hacc.own rfl;obtain⟨g1,g2,g3,g4,g5,g6,g7,g8⟩:=hF.mtr h.m hx.te r1 r2 (by rw[r4]) rfl (by rw[r4];exact hres);have hs:=hrec.hsm;have uP:y.es=x.es++[⟨p,2,hh,0,0⟩]:=AB2 hrec (ABD hpr AJ (.inl AJ)) hb hq.es hq.cap;refine h.took (e:=⟨p,2,hh,0,0⟩) (AB9 ho AJ) (AA_ AJ) ?_ uP (hs.mtr g1);have hen:∀j,ET y.tb j=ET x.tb j:=λj=>by rw[hs.tb];exact Ty g2 j
 unfold AA4;dsimp only;rw[ATt AL,ATt AJ,ATt (λhn:¬(bkO x).st[p.toNat]?=σ 1=>hn ADf),ATt AJ,ATt AJ];refine⟨λhn=>absurd hn (ADc hx.tb hres),λi b hi hb=>?_,hs.sv.trans g7⟩;obtain⟨hbe,-,-⟩:=ABO hx.tb hx.te hi hb;unfold ABf;dsimp only;rw[ATt AJ,ATv rfl,ATv]
 ·refine⟨rfl,?_,?_⟩
  ·refine AB0 (AA2 hy.te) ((AA2 hx.te).sublist (List.eraseIdx_sublist ..)) λa=>?_;rw[aA hy.tb,ADB hb (AA2 hx.te),aA hx.tb,hbe];constructor
   ·rintro⟨s,hs1,rfl⟩;rw[hs.tb,g4,Au]at hs1;refine⟨⟨s,hs1.1,by rw[hen]⟩,?_⟩;rw[hen];show ¬De (ET x.tb s).h=De hh;rw[(hx.te.live s hs1.1).sl];have:=hs1.2;simp only[CJ,AUA]at this;exact λe=>this e.symm
   ·rintro⟨⟨s,hs1,rfl⟩,hne⟩;have hj:¬De hh=s:=λe=>hne (by show De (ET x.tb s).h=De hh;rw[(hx.te.live s hs1).sl,e]);exact⟨s,by rw[hs.tb,g4,hs1,AUC hj];rfl,by rw[hen]⟩
  ·rw[hbe];show y.l=_;rw[hs.l,g5];rfl
 ·rw[hbe];dsimp only;rw[how,AUB (show NT (bkO x).E (De hh)=[] from hnil)];rfl
theorem AGR{l out o}(hl:AA7 l)(ho:AA7 out)(hm:∀b,b∈out↔b=o\/b∈l)(hne:∀b∈l,De b.h≠De o.h):∃P Q,ABY o l out P Q:=by
 have hP:∀b∈l.filter (λb=>decide (De b.h<De o.h)),De b.h<De o.h:=λb hb=>by simpa using(Bl.1 hb).2
 have hQ:∀b∈l.filter (λb=>decide (De o.h<De b.h)),De o.h<De b.h:=λb hb=>by simpa using(Bl.1 hb).2
 have sP:AA7 (l.filter λb=>decide (De b.h<De o.h)):=hl.sublist AGp;have sQ:AA7 (l.filter λb=>decide (De o.h<De b.h)):=hl.sublist AGp;refine⟨l.filter λb=>decide (De b.h<De o.h),l.filter λb=>decide (De o.h<De b.h),?_,?_,hQ,λp hp=>Nat.le_of_lt (hP p (List.mem_of_getLast? hp))⟩
 ·refine AB0 hl (BN.2 ⟨sP,sQ,λa ha b hb=>by have:=hP a ha;have:=hQ b hb;omega⟩) λb=>?_;rw[AV,Bl,Bl];constructor
  ·intro hb;have:=hne b hb;by_cases h:De b.h<De o.h
   ·exact .inl ⟨hb,AUB h⟩
   ·exact .inr ⟨hb,AUB AL⟩
  ·rintro(h|h)<;>exact h.1
 ·refine AB0 ho (BN.2 ⟨sP,Ak.2 ⟨hQ,sQ⟩,λa ha b hb=>?_⟩) λb=>?_
  ·have h1:=hP a ha;rcases AP.1 hb with rfl|hb
   ·exact h1
   ·have:=hQ b hb;omega
  ·rw[hm,AV,AP,Bl,Bl];constructor
   ·rintro(h|hb)
    ·exact .inr (.inl h)
    ·have:=hne b hb;by_cases h:De b.h<De o.h
     ·exact .inl ⟨hb,AUB h⟩
     ·exact .inr (.inr ⟨hb,AUB AL⟩)
   ·rintro(h|h|h)
    ·exact .inr h.1
    ·exact .inl h
    ·exact .inr h.1
theorem HG.all{x i n p tag d k c k' c'}(h:HG x n)(hx:Ga x k c)(hy:Ga i.y k' c')(hr:za x p tag d i):HG i.y (n+1):=by
 have hr1:=hr.r;by_cases hb:Gm x p=0
 case neg =>
  rw[ATt hb]at hr1;exact h.same hr1.2.hsm (.inl hr1.2.kp.1)
 rw[ATv hb]at hr1;obtain⟨z,hc,hrec⟩:=hr1;have hq:=hc.q;obtain⟨fr,tk,hI,j,hA,rfl,mJ,hjh⟩:=hc.r;have h1:=hA.r;by_cases h0:j.er=0
 case neg =>
  rw[ATt h0]at h1;refine h.same (h1.2.hsm.tr hrec.hsm) ?_;rcases hrec.kp.1 with h3|h3
  ·exact .inl (h3.trans hq.es)
  ·exact .inr ⟨_,ADd (λh9=>h0 (mJ.trans h9)),h3.trans (by rw[hq.es])⟩
 rw[ATv h0]at h1;obtain⟨lk,N,z,it,s,m,br,g⟩:=h1;obtain⟨gN,APR,gff,gz,gk,gi,gm,gbn,gbl,gh,gy,gs,gsl⟩:=g;obtain⟨fs,-,ph,phh,rr,EE⟩:=gi;have hsf:(s:Int)∈x.tb.s.Fu:=AU fs;have hge:=hx.isu s hsf;have hal:=hI.alloc gff;have htg:=(QW lk hx.tl).2;have htn:=hx.tn;obtain⟨hpr,ADf⟩:=ACA hb;obtain⟨e,he⟩:∃e,(Ex.findF fr N).1=e:=⟨_,rfl⟩;rw[he]at hal gz EE;obtain⟨r1,r2,r3,r4,r5⟩:=rr;have hsl:s<x.tb.s.Fh.length:=by rw[hx.tb.l];exact gs
 have hsE:s<x.tb.E.length:=by rw[hx.el];exact gs
 have hnl:Ej x.tb.s s=ο:=(hx.tf.fr s hsf).1;have hs:=hrec.hsm;have hjy:j.y.tb=it.y/\j.y.l=x.l/\j.y.mt=m.l/\j.y.sv=x.sv:=by rw[gy];exact⟨rfl,rfl,rfl,rfl⟩
 have hyt:i.y.tb=it.y:=hs.tb.trans hjy.1;have hyl:i.y.l=x.l:=hs.l.trans hjy.2.1;have hym:i.y.mt=m.l:=hs.mt.trans hjy.2.2.1;have AD7:i.y.sv=x.sv:=hs.sv.trans hjy.2.2.2;have hlv:∀a,Ej i.y.tb.s a=if a=s then τ else Ej x.tb.s a:=λa=>by
  rw[hyt];unfold Ej;rw[r3,iT];by_cases hj:a=s
  ·rw[ATv ⟨hj,hsl⟩,ATv hj]
  ·rw[ATt (λhn=>hj hn.1),ATt hj]
 have iU:ET i.y.tb s=⟨it.h,p,tag,e.off,e.len⟩:=by rw[hyt];unfold ET;rw[EE,CY hsE];rfl
 have mE:∀a,a≠s->ET i.y.tb a=ET x.tb a:=λa hj=>by rw[hyt];unfold ET;rw[EE,CX (AS5 hj)]
 have hih:i.h=it.h:=by rw[<-hjh,gh]
 have her:i.er=0:=by rw[<-mJ];exact h0
 rw[hih,her]at hrec;have hut:=IA tag;rw[IntKind.wrap_u64]at hut;have uP:i.y.es=x.es++[⟨p,1,it.h,Ki tag,0⟩]:=AB2 hrec (ABD hpr AJ (.inl AJ)) hb hq.es hq.cap;have AKg:=hx.tb.m;have hgt:0<Mr it.h/\0<eB it.h:=by
  unfold pkF at ph;rw[ATt AL]at ph;dsimp only at ph;unfold Mr eB;omega
 have hne:∀b∈(bkO x).l,De b.h≠s:=λb hb2=>by
  obtain⟨a,ha,rfl⟩:=(aA hx.tb b).1 hb2;show De (ET x.tb a).h≠s;rw[(hx.te.live a ha).sl];intro e;rw[e,hnl]at ha;cases ha
 refine h.took (e:=⟨p,1,it.h,Ki tag,0⟩) (AB9 phh (Ia tag)) (AA_ AJ) ?_ uP ?_
 ·unfold AA4;dsimp only;rw[ATt AL,ATt AJ,ATt (λhn:¬(bkO x).st[p.toNat]?=σ 1=>hn ADf),ATt AJ,ATv rfl,ATv]
  ·refine⟨rfl,AD7,?_,hyl⟩;refine AGR (AA2 hx.te) (AA2 hy.te) (λb=>?_) (λb hb2=>by rw[gsl];exact hne b hb2);rw[aA hy.tb,aA hx.tb];constructor
   ·rintro⟨a,ha,rfl⟩;by_cases hj:a=s
    ·subst hj;exact .inl (by rw[iU];rfl)
    ·rw[hlv,ATt hj]at ha;exact .inr ⟨a,ha,by rw[mE a hj]⟩
   ·rintro(rfl|⟨a,ha,rfl⟩)
    ·exact⟨s,by rw[hlv,ATv rfl],by rw[iU];rfl⟩
    ·have hj:a≠s:=λe=>by rw[e,hnl]at ha;cases ha
     exact⟨a,by rw[hlv,ATt hj];exact ha,by rw[mE a hj]⟩
  ·rw[AUB hgt,ASv,CJ];unfold ADh;rw[AHr];intro b hb2 hd;have:=hne b hb2;rw[gsl]at hd;exact this (AH3.1 (AT0 hd))
 ·intro a;have hm0:m.r=0:=by
   unfold Mt at gm;rw[APR]at gm;exact AT4 AH0 gm
  have hlen:e.len=Sz.QT N:=hal.2.2.2.1;rw[hym,ADQ gm hm0 a,h.m a,h.m p];have AGQ:i.y.tb.en=x.tb.en:=by rw[hyt];exact gk.en
  have hL:=AA8 (f:=Cu i.y.tb a) (g:=Cu x.tb a) (n:=x.tb.en) (s:=s) (λb hj=>by unfold Cu;rw[hlv,ATt hj,mE b hj]) gs;have hO:=AA8 (f:=BG i.y.tb a) (g:=BG x.tb a) (n:=x.tb.en) (s:=s) (λb hj=>by unfold BG;rw[hlv,ATt hj,mE b hj]) gs;have hL1:Cu i.y.tb a s=if a=p then e.len else 0:=by
   unfold Cu;rw[hlv,ATv rfl,iU];by_cases ha:a=p
   ·exact AIW
   ·exact AIV
  have hL2:Cu x.tb a s=0:=by unfold Cu;rw[hnl];simp
  have hO1:BG i.y.tb a s=if a=p then 1 else 0:=by
   unfold BG;rw[hlv,ATv rfl,iU];by_cases ha:a=p
   ·exact AIW
   ·exact AIV
  have hO2:BG x.tb a s=0:=by unfold BG;rw[hnl];simp
  rw[hL1,hL2]at hL;rw[hO1,hO2]at hO;unfold usQ;rw[AGQ,hL,hO,hyl];by_cases ha:a=p
  ·subst ha;simp only[ATv,AE1,vS,hlen,AHR,AHA]
  ·simp only[ATt ha,AHR,AHA]
theorem HG.step{x y n}(h:HG x n)(ht:IM x n)(hn:n<1000)(hs:LC x y):HG y (n+1):=by
 have hy:=(hs.keep ht hn).1.j;have hx:=ht.j;cases hs with
 |FL p hr=>exact h.FL hr
 |end_ p hr=>exact h.edd hx hy (by have:=ht.es;omega) hr
 | st p op v ar o h1 h2 h3 hr =>
  refine h.wr hr (λz hh hc hv=>⟨hc.1.r.hsm,hc.1.r.q⟩) λhv hop=>?_;exact absurd AL hop
 |tr p q v o h1 hr=>exact h.tra hx hy h1 hr
 |ln p q ac mo op v o h0 h1 hr=>exact h.len hx hy h0 h1 hr
 |rl p v o h1 hr=>exact h.rel hx hy h1 hr
 |fr p v o h1 hr=>exact h.Fu hx hy h1 hr
 |al p tag d hr=>exact h.all hx hy hr
 | rd p op er o ar h0 h1 h2 hr =>
  rcases hr with rfl|⟨h3,-,hr⟩
  ·exact h.same (HSm.refl _) (.inl rfl)
  ·refine h.same hr.hsm ?_;rcases hr.kp.1 with h4|h4
   ·exact .inl h4
   ·exact .inr ⟨_,ADd h3,h4⟩
 | rg len fs hr =>
  rename_i i;by_cases hc:Ho len fs=0/\i.er=0/\i.tag=x.tn+1
  ·obtain⟨-,A,c,t,-,-,hy⟩:=hr.new hc;rw[hy];exact h.same ⟨rfl,rfl,rfl,rfl⟩ (.inl rfl)
  ·rw[hr.old hc];exact AIa
theorem HG.run{x y n m}(h:HG x n)(ht:IM x n)(hr:LF x y m)(hn:n+m<=1000):HG y (n+m):=by
 induction hr with
 |nil=>exact h
 |snoc h1 h2 ih=>exact(ih AL).step (h1.keep ht AL).t AL h2
theorem uL.hg{c x}(h:uL c x):HG x 0:=by
 have hlv:∀s,Ej x.tb.s s=ο:=λs=>by
  unfold Ej;rw[h.tb.s.Fh,ASR];split<;>rfl
 refine⟨⟨hs0,by rw[h.es];rfl,oV,?_⟩,λp=>?_⟩
 ·have hb:bkO x=⟨0,0,ν,0,0,ν,0,0,List.replicate 65 0,[],[]⟩:=by
   unfold bkO;have h1:KH x.tb x.tb.en=[]:=by
    rw[aP,List.map_eq_nil_iff];unfold zC;rw[AHM];intro s _;rw[hlv];decide
   rw[h1,h.sv,h.l];rfl
  rw[hb];exact AGd
 ·rw[h.mt];unfold usQ;rw[h.l];have h1:∀n,ah (Cu x.tb p) n=0:=λn=>by
   induction n with
   |zero=>rfl
   |succ n ih=>simp only[ah];rw[ih];unfold Cu;rw[hlv];simp
  have h2:∀n,ah (BG x.tb p) n=0:=λn=>by
   induction n with
   |zero=>rfl
   |succ n ih=>simp only[ah];rw[ih];unfold BG;rw[hlv];simp
  rw[h1,h2];rfl
theorem HG.tell{x n}(h:HG x n)(ht:IM x n):∃s,Lb hs0 x.es=σ s/\(ABl s).map (λr=>(⟨r.h,r.ow,r.bs⟩:OP))=jf x/\(∀p,(ABC (ABl s) p:Int)=(HZ x.mt p).qo/\(ABB (ABl s) p:Int)=(HZ x.mt p).qr)∧∀a,Ej x.tb.s a=τ→∃o,Er s.os a=σ o:=by
 obtain⟨s,h1,h2,h3⟩:=h.s;have hx:=ht.j;have hle:=h3.AGF h2;refine⟨s,h1,?_,λp=>⟨?_,?_⟩,λa ha=>?_⟩
 ·have hm:(ABl s).map (λr=>(⟨r.h,r.ow,r.bs⟩:OP))=((JC s.os).map AEj).map λb=>(⟨b.h,b.ow,NT x.l (De b.h:Int)⟩:OP):=by
   unfold ABl;rw[ATG,ATG];refine ATI λq hq=>?_;have h4:=(AA0 h2.nd).1 hq;have h5:=(h2.get h4).slot;have h6:=h3.ofEq h2 h4;show OP.mk q.2.h q.2.ow ((JC q.2.cs).map (bwO q.2))=OP.mk q.2.h q.2.ow (NT x.l (De q.2.h:Int));rw[<-h6];show OP.mk q.2.h q.2.ow (NT x.l q.1)=_;rw[show q.1=(De q.2.h:Int) from h5]
  rw[hm,<-hle];show ((KH x.tb x.tb.en).map enB).map _=(KH x.tb x.tb.en).map (enP x);rw[ATG];rfl
 ·rw[h.m p];show _=ah (BG x.tb p) x.tb.en;have h4:ABC (ABl s) p=((bkO x).l.filter (ownB p)).length:=by
   rw[hle];unfold ABC ABl;rw[AHa,AHa,BF,BF];rfl
  rw[h4];show ((((KH x.tb x.tb.en).map enB).filter (ownB p)).length:Int)=_;rw[AHa,BF,aP,AHa,BF];unfold zC;rw[AHl];generalize x.tb.en=m
  induction m with
  |zero=>rfl
  | succ m ih =>
   rw[ASz,ASJ,List.length_append];simp only[ah];rw[<-ih,Af];congr 1;unfold BG;by_cases hc:Ej x.tb.s m=τ/\(ET x.tb m).ow=p
   ·rw[ATv hc,Cv,ATv]
    ·rfl
    ·rw[hc.1,AHj];exact AUB hc.2
   ·rw[ATt hc,Cv,ATt]
    ·rfl
    ·intro hn;rw[Au]at hn;exact hc ⟨hn.2,AT0 hn.1⟩
 ·rw[h.m p,<-h3.held h2 p];rfl
 ·obtain⟨o,g1,-⟩:=(h3.lM (enB (ET x.tb a))).1 ((aA hx.tb _).2 ⟨a,ha,rfl⟩);have h5:De (enB (ET x.tb a)).h=a:=(hx.te.live a ha).sl;rw[h5]at g1;exact⟨o,g1⟩
def ev2:List Gs:=[⟨1,32,0,0,0⟩,⟨1,1,72057594054705152,1,0⟩]
theorem AGG:∀e∈ev2,e.ok:=λe he=>by
 simp only[ev2,AP,Ae,AT7]at he;rcases he with rfl|rfl<;>exact⟨by decide,by decide⟩
theorem AMn:Lb hs0 ev2=σ ⟨[(1,τ)],[(0,⟨72057594054705152,1,0,[]⟩)]⟩:=by rfl
theorem AMo:xm (Lb hs0 ev2)=([⟨72057594054705152,1,[]⟩],0):=by
 rw[AMn];simp[xm,ABl,JC,keys,Er,ry]
theorem ji W:Calls AGm 7 #[] W λen w'=>en=κ (θ τ)/\Below W.heap.size W w':=by
 refine DL (M:=[]) Tryz.func7 [.tmp 0] (St.nil _ _) ?_;have zs:=Bd.mk Ui;refine DZ ?_;refine C9 rfl λK k0=>DR ?_;intro b6 hb6;refine F6 fJ AEi _ (λw hw=>Uh (σ ⟨b6,0,ν⟩) 2 2 ev2 w (Sl.EJ (hw.JR (size:=5) (n:=2) rfl AJ) (.head _)) AGG AJ) ?_;rintro⟨LA,ln,lc,Le,er⟩ ⟨h1,h2⟩;rw[AMo]at h1 h2;dsimp only at h1 h2;subst h2;obtain⟨r,rfl⟩:∃r,Le=[r]:=by
  have:=AT4 List.length h1;rw[BF]at this;exact List.length_eq_one_iff.1 this
 have how:r.ow=1:=by
  have h3:r.pl=⟨72057594054705152,1,[]⟩:=by simpa using h1
  exact AT4 RP.ow h3
 unfold fJ AEi;dsimp only[List.map_cons,List.map_nil,List.cons_append,List.nil_append];unfold KN;refine DR (k0 _ _ ?_);refine F8 0 rfl λhlA=>?_;have hln:ln=1:=by
  unfold H7 at hlA;rw[GN QN]at hlA;simp at hlA;omega
 subst hln;refine EL 0 rfl AL λg F7 hg EX=>?_;subst F7;replace hg:=AAM (AO hg EX);clear EX;refine C9 rfl λK k0=>DR ?_;refine DX (Dx (m:=1) (i:=0*6+1) (v:=ε ζ r.ow) (DN (k:=0) rfl) rfl (Gi QN (l:=[r]) (i:=0) rfl AL)) ?_;refine DR ?_;rw[how];refine DR (k0 _ _ ?_);refine C8 (Eg λw hw=>?_);exact⟨rfl,hw.below⟩
end Go.Proofs.YtnkgiaimcpbhkaaGreat
