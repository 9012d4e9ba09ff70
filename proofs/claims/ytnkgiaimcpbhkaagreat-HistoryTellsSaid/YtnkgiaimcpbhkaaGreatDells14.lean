import Derived.Test.YtnkgiaimcpbhkaaGreatDells12
import Derived.Test.YtnkgiaimcpbhkaaGreatDells13
import Derived.Test.YtnkgiaimcpbhkaaGreatDells9
import Derived.Test.YtnkgiaimcpbhkaaGreatDells4
set_option linter.all false
set_option maxRecDepth 100000
set_option maxHeartbeats 4000000
open List renaming length_append→Ag,nil_append→AR,cons_append→Ad
open Prod renaming fst→AH0
open Bool renaming false→ο,true→τ
open Go.Ending renaming returned→κ
open Go.IntKind renaming i64→ζ,u32→χ,u64→υ
open Option renaming none→ν,some→σ
open Go.Value renaming bool→θ,int→ε,pointer→π,slice→ξ
namespace Go.Proofs.YtnkgiaimcpbhkaaGreat
open Tryz renaming prog→AGm
open Go.RowKit Go.Shelf
def Jq:=AO (AO (AO (AO (AO @Ac @DT) (AO @KM @cM)) (AO (AO @Ey @Ez) (AO @E5 @E8))) (AO (AO (AO @E9 @Kw) (AO @Ky @Jg)) (AO (AO @NP @JO) (AO @JP @Et)))) (AO (AO (AO (AO @Eu @FK) (AO @FO @EZ)) (AO (AO @Ea @QY) (AO @QZ @UI))) (AO (AO (AO @UJ @OD) (AO @OE @MH)) (AO (AO @MI @Dt) (AO @R5 (AO @OZ @KW)))))
section
variable{M:List Nat}{W w v:World}{L:List DW}{ft:List Nat}{m:Ei}{x:Dc}
theorem eq_self(α:Type)(a:α):(a=a)=True:=eq_true rfl
theorem St.AC_(hM:LH v (λy=>y∈ft) m)(h:St M W (snap M W v ft::L) w):St M W (OO ft m::L) w:=by
 have hp:=Ak.1 h.apart;have hs:Ii M W v∧∀b∈ft,w.heap[b]?=v.heap[b]? := h.holds _ (.head _);refine⟨h.ES,?_,?_,Ak.2 ⟨hp.1,hp.2⟩⟩
 ·intro r hr;cases hr with
  |head=>exact hM.same (λy hy=>hs.2 y hy) λ_ h=>h
  |tail _ hr=>exact h.holds r (.tail _ hr)
 ·intro r hr;cases hr with
  |head=>exact h.own (snap M W v ft) (.head _)
  |tail _ hr=>exact h.own r (.tail _ hr)
theorem St.hpAt(hw:St M W L w){k}(hk:nth L k=σ (Go.Proofs.YtnkgiaimcpbhkaaGreat.Dk (Da x))):w.cell? ⟨x.b,7,ν⟩=σ x.y7/\w.cell? ⟨x.b,8,ν⟩=σ x.y8:=by
 have h1:∀r∈Da x,r.holds w:=(hw.holds _ (DN hk)).1;have h2:(Fj x).holds w:=h1 _ (.head _);exact⟨(cell_of_row w _ 7 _ _ _ h2).trans rfl,(cell_of_row w _ 8 _ _ _ h2).trans rfl⟩
theorem St.AMM(hw:St M W L w){k}(hk:nth L k=σ (Go.Proofs.YtnkgiaimcpbhkaaGreat.Dk (Da x))){j b t cs}(hj:nth L j=σ (.blk b t cs)):¬b=x.b:=by
 have hne:j≠k:=λe=>by rw[e,hk]at hj;cases hj
 exact λe=>Fs hw.apart hj hk hne b AUp (BM.2 ⟨Fj x,.head _,by rw[e];simp[DW.foot,Fj]⟩)
theorem St.AIl(hw:St M W L W){k}(hk:nth L k=σ (Go.Proofs.YtnkgiaimcpbhkaaGreat.Dk (Da x))):x.b<W.heap.size:=(hw.own _ (DN hk) _ (BM.2 ⟨Fj x,.head _,by simp[DW.foot,Fj]⟩)).2
end
structure NwI where
 x:Dc
 b:Nat
def nwO(i:NwI):Qa:=⟨i.b,ν,0,0,[]⟩
def nwV(i:NwI):Value:=.tuple #[π (σ ⟨i.b,0,ν⟩),ε ζ 0]
theorem ZT.nil{b} : ZT ⟨b,ν,0,0,[]⟩:=⟨Ar _,(λy h=>by cases h),(λk y h=>by cases h)⟩
theorem vI c(hc:c.ok)W:
  Calls AGm 17 #[zl c] W
  λen w' => ∃i:NwI,en=κ (nwV i)/\uL c i.x/\St [] W (IC i.x.b (nwO i)++[Dk (Da i.x)]) w':=by
 have hcv:(Value.agg #[])=(Value.agg #[]):=rfl;obtain⟨z,hz⟩:∃z,zl c=z:=⟨_,rfl⟩;have hz2:=hz;unfold zl at hz2;rw[hz,<-hz2];refine DL (M:=[]) Tryz.func17 [.tmp 2,.tmp 3] (St.nil _ _) ?_;refine C9 rfl λK BC=>?_;have zs:=Bd.mk Jq;refine DR ?_;intro b1 hb1;refine BC _ _ (DC [1] λG1 g1=>?_);replace g1:=EK g1;refine C9 rfl λK BC=>?_;have zg:=Bd.mk g1;refine DD ?_;rw[hz2,<-hz];refine F6 nhV (λx=>[Dk (Da x)]) (uL c) (λw hw=>(ACU c hc w).mono (by
  rintro e w' ⟨x,he,hx,hs⟩;exact⟨x,he,hx,St.Dk (by rw[BX];exact hs)⟩)) ?_
 intro x hx;unfold nhV;refine EM ?_;refine DD (BC _ _ ?_);refine DC [4,5] λG2 g2=>?_;replace g2:=Dy g2;refine Cw λK BC=>?_;replace zg:=Bd.mk g2;refine Db ?_;refine C_ (DD ?_);refine Cz (BC _ _ (C9 rfl λK BC=>DD ?_));intro b16 AHY AHZ;refine BC _ _ (FB 148 1 (Eo (Dk []::_) (λw hw=>St.Dk (R:=[]) hw) (C8 (EP λw hw=>?_))));exact⟨⟨x,b16⟩,rfl,hx,hw.pick (ix:=[2,1,0,3]) AJ⟩
theorem ZT.snoc{b PA A4 pn pc n4 c4 ps y}(h:ZT ⟨b,PA,pn,pc,ps⟩)(hl:ps.length<64)(hy:PgG y)(hi:y.id=(ps.length:Int)+1):ZT ⟨b,A4,n4,c4,ps++[y]⟩:=by
 refine⟨by show (ps++[y]).length<=64;rw[Ag];exact hl,λz hz=>?_,λk z hz=>?_⟩
 ·rcases AV.1 hz with hz|hz
  ·exact h.g z hz
  ·rw[BH.1 hz];exact hy
 ·have h4:(ps++[y])[k]?=σ z:=hz;by_cases hk:k<ps.length
  ·rw[ASd hk]at h4;exact h.id k z h4
  ·rw[AUT AL]at h4;have h5:k-ps.length=0:=by
    have:=(Ab.1 h4).1;simp at this;omega
   rw[h5]at h4;cases h4;rw[hi];omega
def poL(h:Nat):Option Mx->List DW
 |none=>[]
 |some y=>RY h y
theorem VF x{b}(hb:x.b=b)id ft m fz sz(hv:(Mw m).1=0){q}(ht:IM x q)(hq:q+40<=1000)W(hst:St (DV [OO ft m,Dk (Da x)]) W [OO ft m,Dk (Da x)] W):
  Calls AGm 58 #[π (σ ⟨b,0,ν⟩),ε ζ id,Ie m,ε ζ fz,ε ζ sz] W
  λen w' => ∃i:NpI,en=κ (npV i)/\NpR x id i/\St (DV [OO ft m,Dk (Da x)]) W [Dk (poL b i.p),Dk (Da i.y)] w':=by
 refine(Xf x hb id ft m fz sz hv ht hq W hst).mono ?_;rintro e w' ⟨⟨_|y,e,y2,k⟩,he,hr,hs⟩
 ·exact⟨_,he,hr,St.Dk (R:=[]) hs⟩
 ·exact⟨_,he,hr,hs⟩
structure HlI where
 n:Int
 f0:Int
 f1:Int
 f2:Int
 h:HxI
def hlV(i:HlI):Value:=.tuple #[ε ζ i.n,.agg #[ε ζ i.f0,ε ζ i.f1,ε ζ i.f2]]
structure HlR(x:Dc)(o:Qa)(i:HxI):Prop where
 r:LF x i.y i.k
 k:i.k<=34
 b:i.o.b=o.b
 g:ZT i.o
theorem nI x{hb}(hxb:x.b=hb)fz sz(h7:x.y7=ε ζ fz)(h8:x.y8=ε ζ sz)o{b}(U7:o.b=b)(hg:ZT o)ft cs c(hcc:c∈cs)(hok:mY c){q}(ht:IM x q)(hq:q+60<=1000)W(hst:St (DV (IC hb o++[KQ ft cs,Dk (Da x)])) W (IC hb o++[KQ ft cs,Dk (Da x)]) W):
  Calls AGm 33 #[π (σ ⟨b,0,ν⟩),ξ c.BA c.bn c.bc] W
  λen w' => ∃i:HlI,en=κ (hlV i)/\HlR x o i.h/\St (DV (IC hb o++[KQ ft cs,Dk (Da x)])) W (IC hb i.h.o++[KQ ft cs,Dk (Da i.h.y)]) w':=by
 subst U7;subst hxb;obtain⟨M,hM⟩:∃M,DV (IC x.b o++[KQ ft cs,Dk (Da x)])=M:=⟨_,rfl⟩;rw[hM]at hst ⊢;clear hM;have AF1:=hg.l;have hho:=hst.AIl (k:=4) rfl;have hhn:=hst.AMM (k:=4) rfl (j:=0) rfl;obtain⟨hb,hhb⟩:∃hb,x.b=hb:=⟨_,rfl⟩;rw[hhb]at hst hho hhn ⊢;obtain⟨b,PA,pn,pc,ps⟩:=o;dsimp only at *;unfold IC kC kD at hst;dsimp only[Ad,AR]at hst;have hln:ps.length=pn:=by have:=(hst.La 1 rfl).len;rw[TD]at this;omega
 refine ER (M:=M) (n:=79) [.tmp 4,.cell 5 132] rfl Tryz.func33 rfl rfl (Am rfl)  hst ?_;refine C9 rfl λK BC=>?_;have zs:=Bd.mk Jq;refine DR ?_;intro b5 hb5 Uj;refine BC _ _ (Cw λK BC=>DZ ?_);refine NC (λhc=>?_) λhc=>?_
 ·refine DZ ?_;refine C8 (Ox ?_);intro w hw;exact⟨⟨0,4,-1,-1,⟨0,⟨b,PA,pn,pc,ps⟩,x,0⟩⟩,rfl,⟨.nil x,Ar _,rfl,hg⟩,hw.pick (ix:=[1,2,3,4,5]) AJ⟩
 refine Cz ?_;try simp only[Di,Dq]
 have AQv:pn<64:=by have:=AUD hc;omega
 refine BC _ _ (DC [0,1,5] λG3 g3=>?_);replace g3:=EK g3;refine C9 rfl λK BC=>?_;have zg:=Bd.mk g3;refine DD ?_;refine WH AF8 (ldΦ c.bs) (λw hw=>vH c.BA c.bn c.bc c.bs w (hw.cmb (k:=4) rfl hcc) hok.bs) ?_;rintro⟨m,f⟩ w0 w1 f1 hw0 hw1 ⟨hmD,hlp⟩ hNw;dsimp only at hmD hlp;have hm1:LH w1 (λy=>y∈f1) m:=hmD.mono hNw;unfold AF8 Ie MC;refine DD ?_;intro b6 hb6 jm b7 fZ hf7;refine DD (BC _ _ ?_);obtain⟨f0,fa,fb⟩:=f;dsimp only;refine DY [2,0,1,3,4,5,6,7,8] ?_;refine Eo [OO f1 m,.blk b7 132 [ε ζ f0,ε ζ fa,ε ζ fb],.blk b6 129 [ξ m.TA m.tn m.tc,ξ m.FA m.fn m.fc],.blk b5 132 [ε ζ 0,ε ζ 0,ε ζ 0],.blk b 101 [π (σ ⟨hb,0,ν⟩),ξ PA pn pc],.row (ξ PA pn pc) 148 1 pn (TM ps),ZR hb ⟨b,PA,pn,pc,ps⟩,KQ ft cs,Dk (Da x)] (λw hw=>hw.AC_ hm1) (DC [0,5,6,7] λG4 g4=>?_);replace g4:=Dy g4;refine Cw λK BC=>?_;replace zg:=Bd.mk g4;refine Db ?_;refine C_ ?_;by_cases hf0:f0=0
 case neg =>
  have df:(!decide (f0=0))=τ:=by rw[AUC hf0];rfl
  refine DU df ?_;refine Cw λK BD=>FD [0,1,2] [(τ,0),(τ,1),(ο,2)] [2] ?_;refine DD (BD _ _ ?_);refine C8 (FF ?_);intro w hw;exact⟨⟨0,f0,fa,fb,⟨0,⟨b,PA,pn,pc,ps⟩,x,0⟩⟩,rfl,⟨.nil x,Ar _,rfl,hg⟩,hw.pick (ix:=[4,5,6,7,8]) AJ⟩
 have df:(!decide (f0=0))=ο:=by rw[AUB hf0];rfl
 have hv:(Mw m).1=0:=by
  rcases hlp with⟨e,he,-,-,h9⟩|⟨k,-,⟨h9,h10,-⟩|⟨h9,-,h10⟩⟩
  ·exact absurd ((Bq h9).1.symm.trans hf0) he
  ·rw[h10];exact h9
  ·rw[<-h10]at h9;exact absurd hf0 h9
 refine DU df ?_;refine Cz (BC _ _ (Cw λK BC=>?_));refine Df (λ_ _=>True) (λF' L' => ∃(p:Option Mx)(e:Int)(x2:Dc)(k2:Nat),EH F' G4 [0,5,7]/\F' 8=.pointer (p.map λy=>⟨y.b,0,ν⟩)/\F' 9=ε ζ e/\L'=[Dk (poL hb p),Dk (Da x2),.blk b7 132 [ε ζ f0,ε ζ fa,ε ζ fb],.blk b5 132 [ε ζ 0,ε ζ 0,ε ζ 0],.blk b 101 [π (σ ⟨hb,0,ν⟩),ξ PA pn pc],.row (ξ PA pn pc) 148 1 pn (TM ps),ZR hb ⟨b,PA,pn,pc,ps⟩,KQ ft cs]/\NpR x ((pn:Int)+1) ⟨p,e,x2,k2⟩) ?_ ?_
 ·refine JU [0,2,4,8] (.rd 0 (.rd 1 (.rd 2 (.rd 3 (.rd 4 (.rd 5 (.rd 6 (.rd 7 (.rd 8 (.rd 9 (.rd 10 (.rd 11 (.rd 12 (.rd 13 (.rd 14 (.rd 15 (.rd 16 (.rd 17 (.rd 18 (.rd 19 (.rd 20 (.rd 21 (.rd 22 (.rd 23 (.rd 24 (.rd 25 (.rd 26 (.act 27 (.act 28 (.more 29 (.more 30 (.act 31 (.act 32 (.done))) (.act 31 (.act 30 (.act 32 (.done))))) (.act 30 (.act 29 (.act 31 (.act 32 (.done))))))))))))))))))))))))))))))))))) [27,28,29,30,31,32] ?_;refine DD ?_;refine DX (Ha (m:=1) AF (λw hw=>by have h9:=(hw.hpAt (k:=3) rfl).1;rw[hhb,h7]at h9;exact h9)) ?_;refine DD ?_;refine DX (Ha (m:=1) AF (λw hw=>by have h9:=(hw.hpAt (k:=3) rfl).2;rw[hhb,h8]at h9;exact h9)) ?_;refine DD ?_;refine Jl [.blk b7 132 [ε ζ f0,ε ζ fa,ε ζ fb],.blk b6 129 [ξ m.TA m.tn m.tc,ξ m.FA m.fn m.fc],.blk b5 132 [ε ζ 0,ε ζ 0,ε ζ 0],.blk b 101 [π (σ ⟨hb,0,ν⟩),ξ PA pn pc],.row (ξ PA pn pc) 148 1 pn (TM ps),ZR hb ⟨b,PA,pn,pc,ps⟩,KQ ft cs] [OO f1 m,Dk (Da x)] CG npV (λi=>[Dk (poL hb i.p),Dk (Da i.y)]) (NpR x ((pn:Int)+1)) (λw hw=>VF x hhb ((pn:Int)+1) f1 m fz sz hv ht AL w hw) ?_;rintro⟨p,e,x2,k2⟩ hn2;unfold npV;refine EM ?_;refine DD ?_
  (repeat' refine AO ?_ ?_) <;>
  ·refine⟨[0,1,2,4,5,6,7,8],by decide,?_⟩;simp only[Dl,nth];exact⟨p,e,x2,k2,rfl,rfl,rfl,hn2⟩
 intro G5 L' _ hF;obtain⟨p,e,x2,k2,zq,SG,lC,rfl,hn2⟩:=hF;have g5:=AO (Dy zq) (AO SG lC);refine BC _ _ (DC [0,5,7,8,9] λG6 g6=>?_);replace zg:=Bd.mk g5;replace g6:=Dy g6;refine Cw λK BC=>?_;replace zg:=Bd.mk g6;refine Db ?_;refine C_ ?_;by_cases he0:e=0
 case neg =>
  have de:(!decide (e=0))=τ:=by rw[AUC he0];rfl
  refine DU de ?_;refine Db ?_;refine C8 (FF ?_);intro w hw;exact⟨⟨0,e,-1,-1,⟨0,⟨b,PA,pn,pc,ps⟩,x2,k2⟩⟩,rfl,⟨hn2.r,hn2.k,rfl,hg⟩,hw.pick (ix:=[4,5,6,7,1]) AJ⟩
 have de:(!decide (e=0))=ο:=by rw[AUB he0];rfl
 refine DU de ?_;refine Cz (BC _ _ ?_);obtain⟨y,hpy⟩:=hn2.ok he0;dsimp only at hpy;subst hpy;obtain⟨hgy,hiy⟩:=hn2.g y rfl;refine C9 rfl λK BC=>DD ?_;intro b62 AQy AQz;refine DD ?_;refine EI 0 ADK rfl rfl (λw hw=>(hw.La 6 rfl).reads) (AAd ps) AL AL ?_;intro A3 c3 hl3 hr3;refine DU (AO @Ao @AR.{0}) ?_;intro b69 AQ0 AQ1;refine D6 1 ADK rfl (λw hw=>D_ (size:=1) (DN (k:=0) rfl) rfl hw) rfl AL AL ?_;intro A4 c4 hl4 hr4;refine DD (BC _ _ ?_);refine DC [0,5,7] λG7 g7=>?_;replace g7:=Dy g7;refine Cw λK BC=>FD [4,6] [(τ,0),(τ,1),(τ,2),(τ,3),(τ,4),(τ,5),(τ,6),(ο,7)] [7] ?_;replace zg:=Bd.mk g7;refine DD (BC _ _ ?_);refine C8 (FF ?_);intro w hw;refine⟨⟨(pn:Int)+1,f0,fa,fb,⟨0,⟨b,A4,pn+1,c4,ps++[y]⟩,x2,k2⟩⟩,rfl,⟨hn2.r,hn2.k,rfl,hg.snoc (by show ps.length<64;omega) hgy (by show y.id=(ps.length:Int)+1;rw[hiy,hln])⟩,?_⟩;have h1:St M W (Dk (ps.map (bK hb))::Dk (RY hb y)::[.blk b 101 [π (σ ⟨hb,0,ν⟩),ξ A4 (pn+1) c4],.row (ξ A4 (pn+1) c4) 148 1 (pn+1) (TM ps++[π (σ ⟨y.b,0,ν⟩)]),KQ ft cs,Dk (Da x2)]) w:=hw.pick (ix:=[8,2,6,0,9,3]) AJ;have h2:St M W ((ps++[y]).map (bK hb)++[.blk b 101 [π (σ ⟨hb,0,ν⟩),ξ A4 (pn+1) c4],.row (ξ A4 (pn+1) c4) 148 1 (pn+1) (TM ps++[π (σ ⟨y.b,0,ν⟩)]),KQ ft cs,Dk (Da x2)]) w:=by
  rw[Bj,Bh];exact h1.GV
 have h3:=h2.Dk.pick (ix:=[1,2,0,3,4]) AJ;unfold IC kC kD;refine EM ?_;rw[show TM (ps++[y])=TM ps++[π (σ ⟨y.b,0,ν⟩)] by unfold TM;rw[Bj];rfl];exact h3
structure DoO where
 v:Value
 h:HxI
def AF9(i:DoO):Value:=i.v
structure HdR(x:Dc)(i:HxI)(b:Nat):Prop where
 r:LF x i.y i.k
 k:i.k<=52
 b:i.o.b=b
 g:ZT i.o
theorem HlR.d{x o i}(h:HlR x o i):HdR x i o.b:=⟨h.r,AGn h.k AJ,h.b,h.g⟩
theorem HxR.d{x o i m}(h:HxR x o i m)(hm:m<=52):HdR x i o.b:=⟨h.r,AGn h.k hm,h.b,h.g⟩
theorem St.AMR{M W w L hb o c z}(h:St M W (Go.Proofs.YtnkgiaimcpbhkaaGreat.Dk (IC hb o++[c,z])::L) w):St M W (Go.Proofs.YtnkgiaimcpbhkaaGreat.Dk (IC hb o++[z])::c::L) w :=
 St.Dk (R:=IC hb o++[z]) (h.GV.perm (Cc (IC hb o) (.swap c z L):(IC hb o++[z]++c::L).Perm (IC hb o++[c,z]++L)))
theorem St.AED{M W w L hb o c z}(h:St M W (Go.Proofs.YtnkgiaimcpbhkaaGreat.Dk (IC hb o++[z])::c::L) w):St M W (Go.Proofs.YtnkgiaimcpbhkaaGreat.Dk (IC hb o++[c,z])::L) w :=
 St.Dk (R:=IC hb o++[c,z]) (h.GV.perm (Cc (IC hb o) (.swap z c L):(IC hb o++[c,z]++L).Perm (IC hb o++[z]++c::L)))
theorem St.unb{M W w R}(h:St M W [Go.Proofs.YtnkgiaimcpbhkaaGreat.Dk R] w):St M W R w:=by
 have:=h.GV;rwa[BX]at this
theorem AAr x{hb}(hxb:x.b=hb)fz sz(h7:x.y7=ε ζ fz)(h8:x.y8=ε ζ sz)o{b}(U7:o.b=b)(hg:ZT o)ft cs c(hcc:c∈cs)(hok:mY c){q}(ht:IM x q)(hq:q+60<=1000)W(hst:St (DV (IC hb o++[KQ ft cs,Dk (Da x)])) W (IC hb o++[KQ ft cs,Dk (Da x)]) W):
  Calls AGm 19 #[π (σ ⟨b,0,ν⟩),.agg #[ε ζ c.k,ε ζ c.pl,ε ζ c.fu,ε υ (c.pk:Int),ξ c.DA c.dn c.dc,ξ c.BA c.bn c.bc]] W
  λen w' => ∃i:DoO,en=κ (AF9 i)/\HdR x i.h b/\St (DV (IC hb o++[KQ ft cs,Dk (Da x)])) W (IC hb i.h.o++[KQ ft cs,Dk (Da i.h.y)]) w':=by
 subst U7;obtain⟨M,hM⟩:∃M,DV (IC hb o++[KQ ft cs,Dk (Da x)])=M:=⟨_,rfl⟩;rw[hM]at hst ⊢;clear hM;have h2:St M W [Dk (IC hb o++[KQ ft cs,Dk (Da x)])] W:=St.Dk (by rw[BX];exact hst);clear hst;have hst:=h2;clear h2;refine ER (M:=M) (n:=63) [.cell 4 80] rfl Tryz.func19 rfl rfl (Am rfl)  hst ?_;refine C9 rfl λK BC=>?_;have zs:=Bd.mk Jq;refine DR ?_;intro b3 hb3;intro b4 hb4 jo;refine BC _ _ (DC [0,3,4] λG1 g1=>?_);replace g1:=EK g1;refine Cw λK BC=>?_;have zg:=Bd.mk g1;refine Db ?_;refine DK (Db ?_);refine C_ ?_;by_cases k1:c.k=1
 ·have d1:decide (c.k=1)=τ:=AUB k1;refine DU d1 ?_;refine C9 rfl λK BD=>DD ?_;refine Dh hlV (λi=>[Dk (IC hb i.h.o++[KQ ft cs,Dk (Da i.h.y)])]) _ (λw hw=>Es (λh=>nI x hxb fz sz h7 h8 o rfl hg ft cs c hcc hok ht hq w h) hw) ?_;rintro⟨n,f0,f1,f2,h⟩ hr;unfold hlV;dsimp only[Ad,AR]at hr ⊢;refine DD ?_;intro b6 hb6 jm;refine BD _ _ (Db ?_);refine C8 (FF ?_);intro w hw;exact⟨⟨_,h⟩,rfl,hr.d,St.unb (hw.pick (ix:=[1]) AJ)⟩
 have d1:decide (c.k=1)=ο:=AUC k1;refine DU d1 ?_;refine Db ?_;refine C_ ?_;by_cases k2:c.k=2
 ·have d2:decide (c.k=2)=τ:=AUB k2;refine DU d2 ?_;refine C9 rfl λK BD=>DD ?_;refine Dh hyV (λi=>[Dk (IC hb i.h.o++[KQ ft cs,Dk (Da i.h.y)])]) _ (λw hw=>Es (λh=>mg x hxb o rfl hg ft cs c hcc hok ht hq w h) hw) ?_;rintro⟨id,FL,tr,us,CA,cn,cc,h⟩ hr;unfold hyV hyS;dsimp only[Ad,AR]at hr ⊢;refine DD ?_;intro b7 fZ hf7;refine BD _ _ (Db ?_);refine C8 (FF ?_);intro w hw;exact⟨⟨_,h⟩,rfl,hr.d AJ,St.unb (hw.pick (ix:=[1]) AJ)⟩
 have d2:decide (c.k=2)=ο:=AUC k2;refine DU d2 ?_;refine Cw λK BD=>?_;refine Df (λ_ _=>True) (λF' L' => ∃(kq:Bool),EH F' G1 [0,3,4]/\F' 12=ε ζ c.k/\F' 44=θ kq/\L'=[.blk b4 80 [ε ζ 0,ε ζ 0,ε ζ 0,ε ζ 0,ε ζ 0,ξ ν 0 0,ε ζ 0],.blk b3 75 [ε ζ c.k,ε ζ c.pl,ε ζ c.fu,ε υ (c.pk:Int),ξ c.DA c.dn c.dc,ξ c.BA c.bn c.bc],Dk (IC hb o++[KQ ft cs,Dk (Da x)])]/\bR) ?_ ?_
 ·refine Db ?_;refine C_ ?_;by_cases k3:c.k=3
  ·have d3:decide (c.k=3)=τ:=AUB k3;refine DU d3 ?_;refine Cz ?_;try simp only[Di,Dq]
   refine DD ?_;exact⟨τ,rfl,ok1⟩
  ·have d3:decide (c.k=3)=ο:=AUC k3;refine DU d3 ?_;refine DJ rfl (DD ?_);exact⟨_,rfl,ok1⟩
 intro G2 L' _ hF;obtain⟨kq,zq,Wz,AE3,rfl,_⟩:=hF;have g2:=AO (Dy zq) (AO Wz AE3);refine BD _ _ (C_ ?_);cases kq with
 | false =>
  replace zg:=Bd.mk g2;refine DD ?_;refine Cz (BC _ _ (Db ?_));refine C8 (FF ?_);intro w hw;exact⟨⟨_,⟨0,o,x,0⟩⟩,rfl,⟨.nil x,Ar _,rfl,hg⟩,St.unb (hw.pick (ix:=[2]) AJ)⟩
 |true =>
 replace zg:=Bd.mk g2;refine DD ?_;refine Db ?_;refine Cw λK BD=>?_;refine Df (λ_ _=>True) (λF' L' => ∃(tp:Int),EH F' G2 [0,3,4]/\F' 9=ε ζ tp/\L'=[.blk b4 80 [ε ζ 0,ε ζ 0,ε ζ 0,ε ζ 0,ε ζ 0,ξ ν 0 0,ε ζ 0],.blk b3 75 [ε ζ c.k,ε ζ c.pl,ε ζ c.fu,ε υ (c.pk:Int),ξ c.DA c.dn c.dc,ξ c.BA c.bn c.bc],Dk (IC hb o++[KQ ft cs,Dk (Da x)])]/\1<=tp/\tp<=7) ?_ ?_
 ·refine Db ?_;refine C_ ?_;by_cases k4:c.k=4
  ·have d4:decide (c.k=4)=τ:=AUB k4;refine DU d4 ?_;refine DJ rfl (DD ?_);exact⟨7,rfl,by decide,by decide⟩
  ·have d4:decide (c.k=4)=ο:=AUC k4;refine DU d4 ?_;refine Cz ?_;try simp only[Di,Dq]
   refine DD ?_;exact⟨6,rfl,by decide,by decide⟩
 intro G3 L' _ hF;obtain⟨tp,zq,lC,rfl,htp⟩:=hF;have g3:=AO (Dy zq) lC;refine BD _ _ (DY [2,0,1] ?_);refine Eo [Dk (IC hb o++[Dk (Da x)]),KQ ft cs,.blk b4 80 [ε ζ 0,ε ζ 0,ε ζ 0,ε ζ 0,ε ζ 0,ξ ν 0 0,ε ζ 0],.blk b3 75 [ε ζ c.k,ε ζ c.pl,ε ζ c.fu,ε υ (c.pk:Int),ξ c.DA c.dn c.dc,ξ c.BA c.bn c.bc]] (λw hw=>hw.AMR) (C9 rfl λK BD=>?_);replace zg:=Bd.mk g3;refine DD ?_;refine Dh hsV (λi=>[Dk (IC hb i.o++[Dk (Da i.y)])]) _ (λw hw=>Es (λh=>mf x hxb o rfl hg c.pl tp htp ht AL w h) hw) ?_;intro h hr;unfold hsV;refine EM ?_;refine DD (BD _ _ ?_);refine Eo [Dk (IC hb h.o++[KQ ft cs,Dk (Da h.y)]),.blk b4 80 [ε ζ 0,ε ζ 0,ε ζ 0,ε ζ 0,ε ζ 0,ξ ν 0 0,ε ζ 0],.blk b3 75 [ε ζ c.k,ε ζ c.pl,ε ζ c.fu,ε υ (c.pk:Int),ξ c.DA c.dn c.dc,ξ c.BA c.bn c.bc]] (λw hw=>hw.AED) (Cw λK BD=>Db ?_);refine C_ ?_;by_cases he:h.e=0
 ·have de:(!decide (h.e=0))=ο:=by rw[AUB he];rfl
  refine DU de ?_;refine Cz (BD _ _ (Db ?_));exact AVv
 ·have de:(!decide (h.e=0))=τ:=by rw[AUC he];rfl
  refine DU de ?_;refine Db ?_;exact AVv
structure EeI where
 A:Option Addr
 n:Nat
 c:Nat
 l:List Nat
 e:Int
def eeV(i:EeI):Value:=.tuple #[ξ i.A i.n i.c,ε ζ i.e]
def eeL(i:EeI):List DW:=[.row (ξ i.A i.n i.c) 5 1 i.n (Gf i.l)]
theorem nJ e(hok:e.ok)W:Calls AGm 108 #[U6 e] W
  λen w' => ∃i:EeI,en=κ (eeV i)/\i.n<=50/\St [] W (eeL i) w':=by
 have hev:(Value.agg #[ε ζ e.pl,ε ζ e.op,ε υ (e.h:Int),ε υ (e.ar:Int),ε ζ e.er])=U6 e:=rfl;rw[<-hev];refine DL (M:=[]) Tryz.func108 [.tmp 2,.tmp 3] (St.nil _ _) ?_;refine C9 rfl λK BC=>?_;have zs:=Bd.mk Jq;refine DR ?_;intro b1 hb1;refine BC _ _ (DC [1] λG1 g1=>?_);replace g1:=EK g1;refine Cw λK BC=>C9 rfl λK BD=>?_;have zg:=Bd.mk g1;refine DD ?_;rw[hev];refine DI (λw hw=>SK e w) ?_;try refine DD ?_
 refine BD _ _ (Db ?_);refine C_ ?_;by_cases he:Qk e=0
 case neg =>
  have de:(!decide (Qk e=0))=τ:=by rw[AUC he];rfl
  refine DU de ?_;refine Db ?_;refine FB 5 1 (C8 (EP λw hw=>?_));exact⟨⟨ν,0,0,[],Qk e⟩,rfl,Ar _,hw.pick (ix:=[0]) AJ⟩
 have de:(!decide (Qk e=0))=ο:=by rw[AUB he];rfl
 refine DU de ?_;refine Cz (BC _ _ (DC [1] λG2 g2=>?_));replace g2:=Dy g2;refine C9 rfl λK BC=>?_;replace zg:=Bd.mk g2;refine DU @IA ?_;refine D9 (λA' n' c'=>ξ A' n' c') (λw hw=>GX ν 0 0 [] _ w (Sl.nil 1) AL (Ia e.pl)) ?_;intro A1 n1 c1 hl1 _;rw[AR]at hl1;have hn1:n1<=10:=by have q1:=Ew hl1;have q3:=El (Ia e.pl);omega
 refine DD (BC _ _ ?_);refine DC [1,5] λG3 g3=>?_;replace g3:=Dy g3;refine C9 rfl λK BC=>?_;replace zg:=Bd.mk g3;refine DU @IA ?_;refine D9 (λA' n' c'=>ξ A' n' c') (λw hw=>GX A1 n1 c1 _ _ w (hw.qy 0 rfl) AL (Ia e.op)) ?_;intro A2 n2 c2 hl2 _;have hn2:n2<=20:=by have q1:=Ew hl2;have q3:=El (Ia e.op);rw[Ag]at q1;have q2:=Ew hl1;omega
 refine DD (BC _ _ ?_);refine DC [1,5] λG4 g4=>?_;replace g4:=Dy g4;refine C9 rfl λK BC=>?_;replace zg:=Bd.mk g4;refine DU @IA ?_;refine D9 (λA' n' c'=>ξ A' n' c') (λw hw=>GX A2 n2 c2 _ _ w (hw.qy 0 rfl) AL (hok.1)) ?_;intro A3 n3 c3 hl3 _;have rq:n3<=30:=by have q1:=Ew hl3;have q3:=El (hok.1);rw[Ag]at q1;have q2:=Ew hl2;omega
 refine DD (BC _ _ ?_);refine DC [1,5] λG5 g5=>?_;replace g5:=Dy g5;refine C9 rfl λK BC=>?_;replace zg:=Bd.mk g5;refine DU @IA ?_;refine D9 (λA' n' c'=>ξ A' n' c') (λw hw=>GX A3 n3 c3 _ _ w (hw.qy 0 rfl) AL (hok.2)) ?_;intro A4 n4 c4 hl4 _;have hn4:n4<=40:=by have q1:=Ew hl4;have q3:=El (hok.2);rw[Ag]at q1;have q2:=Ew hl3;omega
 refine DD (BC _ _ ?_);refine DC [1,5] λG6 g6=>?_;replace g6:=Dy g6;refine C9 rfl λK BC=>?_;replace zg:=Bd.mk g6;refine DU @IA ?_;refine D9 (λA' n' c'=>ξ A' n' c') (λw hw=>GX A4 n4 c4 _ _ w (hw.qy 0 rfl) AL (Ia e.er)) ?_;intro A5 n5 c5 hl5 _;have hn5:n5<=50:=by have q1:=Ew hl5;have q3:=El (Ia e.er);rw[Ag]at q1;have q2:=Ew hl4;omega
 refine DD (BC _ _ ?_);refine C8 (EP λw hw=>?_);exact⟨⟨A5,n5,c5,_,0⟩,rfl,hn5,hw.pick (ix:=[0]) AJ⟩
theorem St.qY{M W w L R r}(h:St M W (r::Go.Proofs.YtnkgiaimcpbhkaaGreat.Dk R::L) w):St M W (Go.Proofs.YtnkgiaimcpbhkaaGreat.Dk (R++[r])::L) w :=
 St.Dk (R:=R++[r]) (by rw[Bh];exact h.swp.GV)
structure BzI where
 A:Option Addr
 n:Nat
 c:Nat
 Fw:List TL
def bzV(i:BzI):Value:=ξ i.A i.n i.c
def bzL(i:BzI):List DW:=[.row (ξ i.A i.n i.c) 38 1 i.n (i.Fw.flatMap O4),Dk (i.Fw.map FI)]
structure BzR(i:BzI):Prop where
 n:i.n<=1000
 s:∀t∈i.Fw,t.n<=50
theorem AAs l t:(l++[t]).flatMap O4=l.flatMap O4++[ξ t.A t.n t.c]:=by simp[O4]
theorem bN{W A n c es}(hE:Sl W W.heap.size 5 A n c (Eh es))(hn:n<=1000)(hok:∀e∈es,e.ok):
  Calls AGm 68 #[ξ A n c] W
  λen w' => ∃i:BzI,en=κ (bzV i)/\BzR i/\St [] W (bzL i) w':=by
 have hlen:es.length=n:=by
  have:=hE.len;unfold Eh at this;rw[GN H8]at this;omega
 have hev:∀e:Gs,(Value.agg #[ε ζ e.pl,ε ζ e.op,ε υ (e.h:Int),ε υ (e.ar:Int),ε ζ e.er])=U6 e:=λ_=>rfl;refine DL (M:=[]) Tryz.func68 [.tmp 2] (St.nil _ _) ?_;have zs:=Bd.mk Jq;refine DZ ?_;refine DZ ?_;refine DC [0,3] λG7 g7=>?_;replace g7:=EK g7;refine FB 38 1 (Eo (Dk []::[.row (ξ ν 0 0) 38 1 0 []]) (λw hw=>St.Dk (R:=[]) hw) (DY [1,0] ?_));refine Cw λK BC=>?_;have zg:=Bd.mk g7;refine Db ?_;refine DC [0,3,4] λG8 g8=>?_;replace g8:=Dy g8;refine DK ?_;refine Dv (λF' L' => ∃(i:Nat)(A3:Option Addr)(n3 c3:Nat)(Fw:List TL),F' 0=G8 0/\F' 3=ξ A3 n3 c3/\F' 4=ε ζ (i:Int)/\L'=[.row (ξ A3 n3 c3) 38 1 n3 (Fw.flatMap O4),Dk (Fw.map FI)]/\i<=n/\n3=i/\(∀t∈Fw,t.n<=50)) (λF' L'=>200000-(intOf (F' 4)).toNat) ?_ ?_
 ·refine⟨0,ν,0,0,[],?_⟩;replace zg:=Bd.mk g8;refine DD ?_;simp
 intro G9 L' hI;obtain⟨i,A3,n3,c3,Fw,Nk,Tn,Qd,rfl,⟨hi,hni,hs⟩⟩:=hI;replace zg:=Bd.mk g8;have g9:=AO (Dy Nk) (AO Tn Qd);refine Cw λK BD=>?_;replace zg:=Bd.mk (AO g8 g9);refine Db ?_;refine Ec (λhc=>?_) λhc=>?_
 ·refine Cz ?_;try simp only[Di,Dq]
  have hit:i<n:=by have:=AT0 hc;omega
  refine BD _ _ ?_;obtain⟨e,he⟩:∃e,es[i]?=σ e:=⟨_,AQ AL⟩;have hem:=AU he;obtain⟨bA,oA,rfl,Oz,-⟩:=hE.cells AL;refine Cw λK BD=>DK (C9 rfl λK QF=>DD ?_);refine DX (hE.ld (i:=i*5) (vs:=oK e) AL AF (K5 H8 he)) ?_;refine DD ?_;rw[show Value.agg (oK e).toArray=U6 e from rfl];refine F6 eeV eeL (λi=>i.n<=50) (λw hw=>nJ e (hok e hem) w) ?_;rintro⟨A5,n5,c5,l5,e5⟩ hn5;unfold eeV eeL;dsimp only[Ad,AR]at hn5 ⊢;refine DD (QF _ _ ?_);refine DJ rfl (DD ?_);intro bE Qi;refine D6 2 AGt rfl (λw hw=>D_ (size:=1) (DN (k:=0) rfl) rfl hw) rfl AL AL ?_;intro A4 c4 hl4 hr4;refine DD (BD _ _ ?_);refine DY [2,3,0] ?_;refine Eo [Dk ((Fw++[(⟨A5,n5,c5,l5⟩:TL)]).map FI),.row (ξ A4 (n3+1) c4) 38 1 (n3+1) (Fw.flatMap O4++[ξ A5 n5 c5])] (λw hw=>by rw[Bj];exact hw.qY) ?_;refine DY [1,0] ?_;refine Cy rfl (DD ?_);refine⟨⟨i+1,A4,n3+1,c4,Fw++[⟨A5,n5,c5,l5⟩],?_⟩,?_⟩
  ·refine DU (AO @Af @AAs) ?_;refine⟨by omega,by omega,λt ht=>?_⟩;rcases AV.1 ht with ht|ht
   ·exact hs t ht
   ·rw[BH.1 ht];exact hn5
  ·exact AXo
 refine Dr (BC _ _ (Db ?_));refine C8 (EP λw hw=>?_);exact⟨⟨A3,n3,c3,Fw⟩,rfl,⟨by show n3<=1000;omega,hs⟩,hw⟩
theorem nK{W}(p:Nat)(hp:p<18446744073709551616){A n c l}(hE:Sl W W.heap.size 1 A n c (Gf l))(hn:n<=1000):
  Calls AGm 107 #[ε υ (p:Int),ξ A n c] W
  λen w'=>(∃d:Nat,en=κ (ε υ (d:Int))/\d<18446744073709551616)/\Below W.heap.size W w':=by
 refine DL (M:=[]) Tryz.func107 [.tmp 4] (St.nil _ _) ?_;have zs:=Bd.mk Jq;refine DZ ?_;refine C9 rfl λK BC=>DR ?_;refine F6 bsV (λi=>[.row (ξ i.A i.n i.c) 5 1 i.n (Gf i.l)]) (λi=>i.n=8) (λw hw=>Xd p hp w) ?_;rintro⟨A1,n1,c1,l1⟩ hn1;dsimp only at hn1;unfold bsV;refine EM ?_;refine DR ?_;refine D6 0 Vn rfl (λw hw=>(hE.at hw).reads) (MQ l) AL AL ?_;intro A4 c4 hl4 hr4;rw[show Gf l1++Gf l=Gf (l1++l) by simp[Gf]];refine DR ?_;refine Ee (λz:Nat=>ε υ (z:Int)) (λz=>z<18446744073709551616) (λw hw=>XJ (hw.qy 0 rfl) AL) ?_;intro d hd;refine DR (BC _ _ ?_);refine C8 (Eg λw hw=>?_);exact⟨⟨d,rfl,hd⟩,hw.below⟩
theorem qZ{l:List TL}{i:Nat}{t}(h:l[i]?=σ t):(l.flatMap O4)[i]?=σ (ξ t.A t.n t.c):=by
 have h2:=Gi I4 h (show 0<1 by omega);rw[Ac,Cg]at h2;exact h2
theorem vJ l x:FU (l++[x])=FU l++[.int υ (x:Int)]:=by simp[FU]
structure DgI where
 A:Option Addr
 n:Nat
 c:Nat
 l:List Nat
def dgV(i:DgI):Value:=ξ i.A i.n i.c
structure BzW(w:World)(B:Nat)(A:Option Addr)(n c:Nat)(Fw:List TL):Prop where
 row:Sl w B 1 A n c (Fw.flatMap O4)
 bs:∀t∈Fw,Sl w B 1 t.A t.n t.c (Gf t.l)
theorem BzW.at{W w L A n c Fw}(h:BzW W W.heap.size A n c Fw)(hw:St [] W L w):BzW w w.heap.size A n c Fw:=⟨h.row.at hw,λt ht=>(h.bs t ht).at hw⟩
theorem BzW.of{M W w L i}(hw:St M W (bzL i++L) w):BzW w w.heap.size i.A i.n i.c i.Fw:=by
 have h1:St M W (Dk (i.Fw.map FI) :: .row (ξ i.A i.n i.c) 38 1 i.n (i.Fw.flatMap O4)::L) w:=St.swp hw;exact⟨Sl.EJ hw (.head _),λt ht=>Sl.EJ h1.GV (AV.2 (.inl (BL.2 ⟨t,ht,rfl⟩)))⟩
theorem bO{W A n c Fw}(hE:BzW W W.heap.size A n c Fw)(hn:n<=1000)(hs:∀t∈Fw,t.n<=50):
  Calls AGm 67 #[ξ A n c] W
  λen w' => ∃i:DgI,en=κ (dgV i)/\(i.n=n∧∀y∈i.l,y<18446744073709551616)/\St [] W [.row (ξ i.A i.n i.c) 29 1 i.n (FU i.l)] w':=by
 have hlen:Fw.length=n:=by
  have:=hE.row.len;rw[GN I4]at this;omega
 refine DL (M:=[]) Tryz.func67 [.tmp 2] (St.nil _ _) ?_;have zs:=Bd.mk Jq;refine DZ ?_;refine DZ ?_;refine C9 rfl λK BC=>DR ?_;refine Ee (λz:Nat=>ε υ (z:Int)) (λz=>z<18446744073709551616) (λw hw=>XJ (l:=[]) (Sl.nil 1) AL) ?_;intro d0 hd0;refine DR (BC _ _ ?_);refine FB 29 1 (DC [0,3,4] λXo g10=>?_);replace g10:=EK g10;refine Cw λK BC=>?_;have zg:=Bd.mk g10;refine Db ?_;refine DC [0,3,4,5] λbQ g11=>?_;replace g11:=Dy g11;refine DK ?_;refine Dv (λF' L' => ∃(i:Nat)(A3:Option Addr)(n3 c3 d:Nat)(l:List Nat),F' 0=bQ 0/\F' 3=ξ A3 n3 c3/\F' 4=ε υ (d:Int)/\F' 5=ε ζ (i:Int)/\L'=[.row (ξ A3 n3 c3) 29 1 n3 (FU l)]/\i<=n/\n3=i/\d<18446744073709551616/\(∀y∈l,y<18446744073709551616)) (λF' L'=>200000-(intOf (F' 5)).toNat) ?_ ?_
 ·refine⟨0,ν,0,0,d0,[],?_⟩;replace zg:=Bd.mk g11;refine DD ?_;exact⟨rfl,Ar _,hd0,(λy hy=>by cases hy)⟩
 intro vM L' hI;obtain⟨i,A3,n3,c3,d,l,Nk,Tn,Qd,Mq,rfl,⟨hi,hni,hd,hl⟩⟩:=hI;replace zg:=Bd.mk g11;have g12:=AO (Dy Nk) (AO Tn (AO Qd Mq));refine Cw λK BD=>?_;replace zg:=Bd.mk (AO g11 g12);refine Db ?_;refine Ec (λhc=>?_) λhc=>?_
 ·refine Cz ?_;try simp only[Di,Dq]
  have hit:i<n:=by have:=AT0 hc;omega
  refine BD _ _ ?_;obtain⟨t,ht⟩:∃t,Fw[i]?=σ t:=⟨_,AQ AL⟩;have htm:=AU ht;have hts:=hs t htm;have hrw:=hE.row;obtain⟨bA,oA,rfl,Oz,-⟩:=hrw.cells AL;refine Cw λK BD=>DK (C9 rfl λK QF=>DD ?_);refine DX (hrw.ld1 (m:=1) (i:=i) AF (qZ ht)) ?_;refine DD ?_;refine Ee (λz:Nat=>ε υ (z:Int)) (λz=>z<18446744073709551616) (λw hw=>nK d hd ((hE.bs t htm).at hw) AL) ?_;intro d1 hd1;refine DD (QF _ _ ?_);refine DJ rfl (DD ?_);intro bE Qi;refine D6 1 Ng rfl (λw hw=>D_ (size:=1) (DN (k:=0) rfl) rfl hw) rfl AL AL ?_;intro A4 c4 hl4 hr4;refine DD (BD _ _ ?_);refine DY [0] ?_;refine Cy rfl (DD ?_);refine⟨⟨i+1,A4,n3+1,c4,d1,l++[d1],?_⟩,?_⟩
  ·refine DU (AO @Af @vJ) ?_;refine⟨by omega,by omega,hd1,λy hy=>?_⟩;rcases AV.1 hy with hy|hy
   ·exact hl y hy
   ·rw[BH.1 hy];exact hd1
  ·exact AXo
 refine Dr (BC _ _ (Db ?_));refine C8 (EP λw hw=>?_);have hin:i=n:=by have:=AUD hc;omega
 exact⟨⟨A3,n3,c3,l⟩,rfl,⟨by show n3=n;omega,hl⟩,hw⟩
theorem Ef{W A n c es}(hE:Sl W W.heap.size 5 A n c (Eh es))(hn:n<=1000)(hok:∀e∈es,e.ok):
  Calls AGm 38 #[ξ A n c] W
  λen w'=>(∃d:Nat,en=κ (ε υ (d:Int))/\d<18446744073709551616)/\Below W.heap.size W w':=by
 refine DL (M:=[]) Tryz.func38 [.tmp 2] (St.nil _ _) ?_;have zs:=Bd.mk Jq;refine DZ ?_;refine C9 rfl λK BC=>DR ?_;refine F6 bzV bzL BzR (λw hw=>bN (hE.at hw) hn hok) ?_;intro i hi;have hin:=hi.n;unfold bzV;refine DR ?_;refine F6 dgV (λj=>[.row (ξ j.A j.n j.c) 29 1 j.n (FU j.l)]) (λj=>j.n=i.n∧∀y∈j.l,y<18446744073709551616) (λw hw=>bO (BzW.of hw) hin hi.s) ?_;rintro⟨A4,n4,c4,l4⟩ ⟨hn4,hb⟩;dsimp only at hn4 hb;unfold dgV bzL;refine EM ?_;refine DR (BC _ _ ?_);refine DY [0] ?_;refine DC [3] λG13 g13=>?_;replace g13:=EK g13;refine Cw λK BC=>?_;have zg:=Bd.mk g13;refine Db ?_;refine Ec (λhc=>?_) λhc=>?_
 ·refine C9 rfl λK BD=>DD ?_;refine Ee (λz:Nat=>ε υ (z:Int)) (λz=>z<18446744073709551616) (λw hw=>XJ (l:=[]) (Sl.nil 1) AL) ?_;intro d0 hd0;refine DD (BD _ _ ?_);refine C8 (EP λw hw=>?_);exact⟨⟨d0,rfl,hd0⟩,hw.below⟩
 ·refine Cz ?_;try simp only[Di,Dq]
  have hn0:¬n4=0:=by have:=AUD hc;omega
  refine BC _ _ (F8 0 rfl λhll=>?_);have AQ2:=Fv hll;refine EL 0 rfl AL λg F7 hg EX=>?_;subst F7;replace hg:=AAM (AO hg EX);clear EX;have hk1:(n4:Int)-1=((n4-1:Nat):Int):=by omega
  obtain⟨d,hd⟩:∃d,l4[n4-1]?=σ d:=⟨_,AQ AL⟩;refine C9 rfl λK BC=>DU hk1 ?_;refine DX (Dx (m:=1) (i:=n4-1) (v:=ε υ (d:Int)) (DN (k:=0) rfl) AF (FQ hd)) ?_;refine DD ?_;try refine DD ?_
  refine BC _ _ (C8 (EP λw hw=>?_));exact⟨⟨d,rfl,hb d (AU hd)⟩,hw.below⟩
theorem Dc.msl{M W w L x}(h:St M W (Fj x::Dk (Fx x)::L) w):Sl w w.heap.size 1 x.SA x.sn x.sc (D8 x.ms):=Sl.EJ (h.IG (k:=5) rfl) (DN (k:=1) rfl)
theorem jc{W b off cap SA sn sc A n c es ms}(h:Ti W W.heap.size b off cap (ξ SA sn sc) A n c es)(hs:Sl W W.heap.size 1 SA sn sc (D8 ms))(hn:sn<=100000)p:
  Calls AGm 111 #[π (σ ⟨b,off,ν⟩),ε ζ p] W λen w'=>(∃z:Nat,en=κ (ε ζ (z:Int))/\bR)/\Below W.heap.size W w':=by
 have hlen:ms.length=sn:=by have:=hs.len;rw[EY]at this;omega
 refine DL (M:=[]) Tryz.func111 [.tmp 4] (St.nil _ _) ?_;have zs:=Bd.mk Jq;refine DZ ?_;refine DZ ?_;refine Cw λK BC=>DZ ?_;refine DC [0,1,5,6] λG1 g1=>?_;replace g1:=EK g1;refine DK ?_;refine Dv (λF' L' => ∃(i z:Nat),EH F' G1 [0,1]/\F' 5=ε ζ (z:Int)/\F' 6=ε ζ (i:Int)/\L'=[]/\i<=sn/\z<=i) (λF' L'=>200000-(intOf (F' 6)).toNat) ?_ ?_
 ·refine⟨0,0,?_⟩;have zg:=Bd.mk g1;refine DD ?_;exact Ar _
 intro G2 L' hI;obtain⟨i,z,zq,Mq,Ms,rfl,⟨hi,hz⟩⟩:=hI;have zg:=Bd.mk g1;have g2:=AO (Dy zq) (AO Mq Ms);refine Cw λK BD=>C9 rfl λK QF=>?_;replace zg:=Bd.mk (AO g1 g2);refine DD ?_;refine DX (h.cell.ld1 (m:=1) (i:=2) AF rfl) ?_;refine DD (QF _ _ ?_);refine Ec (λhc=>?_) λhc=>?_
 ·refine Cz ?_;try simp only[Di,Dq]
  have hit:i<sn:=by have:=AT0 ‹decide ((i:Int)<(sn:Int))=τ›;omega
  obtain⟨e,he⟩:∃e,ms[i]?=σ e:=⟨_,AQ AL⟩;obtain⟨bA,oA,rfl,Oz,-⟩:=hs.cells AL;refine BD _ _ (Cw λK BD=>DK (C9 rfl λK QF=>DD ?_));refine DX (h.cell.ld1 (m:=1) (i:=2) AF rfl) ?_;refine DD ?_;refine DX (hs.ld1 (m:=1) (i:=i) AF (GG he)) ?_;refine DD ?_;try refine DD ?_
  refine QF _ _ ?_;refine Ec (λhc=>?_) λhc=>?_
  ·refine DJ rfl (DD (BD _ _ ?_));refine Cy rfl (DD ?_);refine⟨⟨i+1,z+1,?_⟩,?_⟩
   ·exact AU0
   ·exact AXo
  ·refine Cz (BD _ _ (Cy rfl (DD ?_)));refine⟨⟨i+1,z,?_⟩,?_⟩
   ·exact AU0
   ·exact AXo
 refine Dr (BC _ _ (Db ?_));refine C8 (EP λw hw=>?_);exact⟨⟨z,rfl,ok1⟩,hw.below⟩
structure ve where
 m:Int
def usV(x:Dc)(p:Int)(i:ve):Value:=.agg #[ε ζ (HZ x.mt p).qb,ε ζ (HZ x.mt p).qo,ε ζ (HZ x.mt p).qr,ε ζ (SH x.es p:Int),ε ζ i.m]
theorem vK x{b}(hb:x.b=b)p{q}(ht:IM x q)(hq:q<=1000)W(hst:St (DV (Da x)) W (Da x) W):
  Calls AGm 70 #[π (σ ⟨b,0,ν⟩),ε ζ p] W
  λen w' => ∃i:ve,en=κ (usV x p i)/\bR/\St (DV (Da x)) W (Da x) w':=by
 subst hb;have hes:=ht.es;have hms:=ht.ms;have hmt:x.mt.length<=100000:=by
  have h1:=ht.j.T9.len;have h2:=ht.j.XI;have h3:=ht.j.l;omega
 have hsn:x.sn=x.ms.length:=by have:=(Dc.msl (L:=[]) hst).len;rw[EY]at this;omega
 obtain⟨M,hM⟩:∃M,DV (Da x)=M:=⟨_,rfl⟩;rw[hM]at hst ⊢;clear hM;unfold Da Fj at hst;refine ER (M:=M) (n:=28) [.cell 4 57] rfl Tryz.func70 rfl rfl (Am rfl)  hst ?_;refine C9 rfl λK BC=>?_;have zs:=Bd.mk Jq;refine DR ?_;intro b4 hb4 jo;refine BC _ _ (DY [1,2,0] ?_);refine DC [0,1,4] λG3 g3=>?_;replace g3:=EK g3;refine C9 rfl λK BC=>?_;have zg:=Bd.mk g3;refine DD ?_;refine DI (λw hw=>SQ (Dc.mtw (x:=x) (L:=[.blk b4 57 [ε ζ 0,ε ζ 0,ε ζ 0,ε ζ 0,ε ζ 0]]) hw hmt) p) ?_;try refine DD ?_
 unfold VB;refine DD ?_;intro b5 hb5 Uj;refine BC _ _ (DY [1,2,0,3] ?_);refine DC [0,1,4,5] λG4 g4=>?_;replace g4:=Dy g4;refine Cw λK BC=>FD [0,2] [(τ,0),(τ,1),(τ,2),(τ,3),(τ,4),(τ,5),(τ,6),(τ,7),(τ,8),(τ,9),(τ,11),(τ,12),(τ,13),(τ,14),(ο,10),(ο,15),(τ,16),(ο,17)] [17] ?_;replace zg:=Bd.mk g4;refine DD ?_;refine DI (λw hw=>SL (Dc.evw (x:=x) (L:=[.blk b5 62 [ε ζ (HZ x.mt p).qb,ε ζ (HZ x.mt p).qo,ε ζ (HZ x.mt p).qr],.blk b4 57 [ε ζ 0,ε ζ 0,ε ζ 0,ε ζ 0,ε ζ 0]]) hw AL) p) ?_;try refine DD ?_
 refine Ee (λz:Nat=>ε ζ (z:Int)) (λ_=>bR) (λw hw=>jc (Dc.evw (x:=x) (L:=[.blk b5 62 [ε ζ (HZ x.mt p).qb,ε ζ (HZ x.mt p).qo,ε ζ (HZ x.mt p).qr],.blk b4 57 [ε ζ 0,ε ζ 0,ε ζ 0,ε ζ 0,ε ζ 0]]) hw AL) (Dc.msl (x:=x) (L:=[.blk b5 62 [ε ζ (HZ x.mt p).qb,ε ζ (HZ x.mt p).qo,ε ζ (HZ x.mt p).qr],.blk b4 57 [ε ζ 0,ε ζ 0,ε ζ 0,ε ζ 0,ε ζ 0]]) hw) AL p) ?_;intro z _;refine DD (BC _ _ ?_);refine C8 (FF ?_);intro w hw;exact⟨⟨z⟩,rfl,ok1,hw.pick (ix:=[0,1]) AJ⟩
def ssV(x:Dc)(y:Mx)(i:ve):Value:=.agg #[ε ζ y.x.p.FL,ε ζ y.x.p.tr,ε ζ (HZ x.mt y.id).qb,ε ζ (HZ x.mt y.id).qo,ε ζ (HZ x.mt y.id).qr,ε ζ (SH x.es y.id:Int),ε ζ i.m]
def ssC(x:Dc)(y:Mx)(i:ve):List Value:=[ε ζ y.x.p.FL,ε ζ y.x.p.tr,ε ζ (HZ x.mt y.id).qb,ε ζ (HZ x.mt y.id).qo,ε ζ (HZ x.mt y.id).qr,ε ζ (SH x.es y.id:Int),ε ζ i.m]
theorem jd x{hb}(hxb:x.b=hb)y{b}(hyb:y.b=b){q}(ht:IM x q)(hq:q<=1000)W(hst:St (DV [Dk (RY hb y),Dk (Da x)]) W [Dk (RY hb y),Dk (Da x)] W):
  Calls AGm 39 #[π (σ ⟨b,0,ν⟩)] W
  λen w' => ∃i:ve,en=κ (ssV x y i)/\bR/\St (DV [Dk (RY hb y),Dk (Da x)]) W [Dk (RY hb y),Dk (Da x)] w':=by
 subst hyb;obtain⟨M,hM⟩:∃M,DV [Dk (RY hb y),Dk (Da x)]=M:=⟨_,rfl⟩;rw[hM]at hst ⊢;clear hM;have h2:St M W (Dk (Ep y.x)::[j_ hb y,pgT y,Dk (Da x)]) W:=hst.GV.pick (ix:=[2,0,1,3]) AJ;have h3:=h2.GV;unfold Ep at h3;dsimp only[Ad,AR]at h3;have hpm:¬y.b=y.x.b:=λe=>Fs h3.apart (i:=4) (j:=0) rfl rfl AJ y.b (by simp[DW.foot,j_]) (by simp[DW.foot,JX,e]);have ho1:y.b<W.heap.size:=(h3.own _ (DN (k:=4) rfl) _ (by simp[DW.foot,j_])).2;have ho2:y.x.b<W.heap.size:=(h3.own _ (DN (k:=0) rfl) _ (by simp[DW.foot,JX])).2;unfold JX j_ at h3;refine ER (M:=M) (n:=29) [.cell 2 59] rfl Tryz.func39 rfl rfl (Am rfl)  h3 ?_;refine C9 rfl λK BC=>?_;have zs:=Bd.mk Jq;refine DR ?_;intro b2 hb2 hf2;refine BC _ _ (DC [0,2] λG5 g5=>?_);replace g5:=EK g5;refine Cw λK BC=>FD [1,5] [(τ,0),(τ,1),(τ,2),(τ,3),(τ,4),(τ,5),(τ,6),(τ,7),(τ,8),(τ,9),(τ,10),(τ,11),(τ,12),(τ,13),(τ,14),(τ,15),(τ,16),(τ,17),(τ,18),(τ,19),(τ,20),(τ,21),(τ,22),(τ,23),(ο,24),(τ,25),(ο,26)] [26] ?_;have zg:=Bd.mk g5;refine DD ?_;refine EW [Dk (Da x)] (List.singleton_sublist.2 (DN (k:=7) rfl)) (usV x y.id) (λ_=>bR) (λw hw=>Es (Lf:=λ_:ve=>Da x) (λh=>vK x hxb y.id ht hq w h) hw) ?_;intro i _;unfold usV;refine DU (AO @AP.{0} (AO true_or (AO or_true (AO and_true eq_self)))) (BC _ _ ?_);refine C8 (FF ?_);intro w hw;have h5:St M W (Ep y.x++[j_ hb y,pgT y,Dk (Da x)]) w:=hw.pick (ix:=[1,2,3,4,5,6,7]) AJ;have h6:St M W (Dk (Ep y.x)::[j_ hb y,pgT y,Dk (Da x)]) w:=h5.Dk;exact⟨i,rfl,ok1,St.Dk (R:=RY hb y) (h6.pick (ix:=[1,2,0,3]) AJ)⟩
structure OJ where
 h:Nat
 ow:Int
 e0:Int
 e1:Int
 BA:Option Addr
 bn:Nat
 bc:Nat
 A:Option Addr
 n:Nat
 c:Nat
 bs:List Bw
structure OP where
 h:Nat
 ow:Int
 bs:List Bw
def OJ.pl(o:OJ):OP:=⟨o.h,o.ow,o.bs⟩
def ojc(o:OJ):List Value:=[ε υ (o.h:Int),ε ζ o.ow,ε ζ o.e0,ε ζ o.e1,ξ o.BA o.bn o.bc,ξ o.A o.n o.c]
theorem AEC o:(ojc o).length=6:=rfl
def JY(os:List OJ):List Value:=os.flatMap ojc
theorem bP l o:JY (l++[o])=JY l++[ε υ (o.h:Int),ε ζ o.ow,ε ζ o.e0,ε ζ o.e1,ξ o.BA o.bn o.bc,ξ o.A o.n o.c]:=by simp[JY,ojc]
def TG(o:OJ):DW:=.row (ξ o.A o.n o.c) 117 4 o.n (EN o.bs)
def enP(x:Dc)(e:En):OP:=⟨e.h,e.ow,NT x.l (De e.h:Int)⟩
def jf(x:Dc):List OP:=(KH x.tb x.tb.en).map (enP x)
theorem ADA{l i e}(h:l[i]?=σ e):((FJ l).drop (i*5+3)).take 2=[ε ζ e.off,ε ζ e.len]:=by
 have h1:=K5 Gu h;have h2:((FJ l).drop (i*5)).take 5=enc e:=h1;rw[<-List.drop_drop];have h3:=AT4 (List.drop 3) h2;rw[AUY]at h3;exact h3
structure ObI where
 A:Option Addr
 n:Nat
 c:Nat
 os:List OJ
def Xi(i:ObI):Value:=ξ i.A i.n i.c
def TH(i:ObI):List DW:=[.row (ξ i.A i.n i.c) 41 6 i.n (JY i.os),Dk (i.os.map TG)]
theorem Dc.byR{M W w L x}(h:St M W (Fj x::Dk (Fx x)::L) w):Sl w w.heap.size 1 x.BA x.bn x.bc (x.Fw.flatMap O4):=Sl.EJ (h.IG (k:=6) rfl) (DN (k:=1) rfl)
theorem LU x{b}(hb:x.b=b){q}(ht:IM x q)(hq:q<=1000)W(hst:St (DV (Da x)) W (Da x) W):
  Calls AGm 36 #[π (σ ⟨b,0,ν⟩)] W
  λen w' => ∃i:ObI,en=κ (Xi i)/\i.os.map OJ.pl=jf x/\St (DV (Da x)) W (TH i++Da x) w':=by
 subst hb;have hj:=ht.j;have hbn:=hj.bn;have hbl:=hj.bl;have hsm:=hj.sm;have kE:(KH x.tb x.tb.en).length<=8:=by
  unfold KH;rw[BF];exact AGn (Ap _ _) (by rw[AIC];omega)
 have hll:x.l.length<=100000:=by have:=hj.l;omega
 have AMb:=Dc.byR (L:=[]) hst;obtain⟨M,hM⟩:∃M,DV (Da x)=M:=⟨_,rfl⟩;rw[hM]at hst ⊢;clear hM;have AMc:=hst;have AMd:∀ {L:List DW} {w:World} {t:TL},t∈x.Fw->St M W (Fj x::Dk (Fx x)::L) w->Sl w w.heap.size 1 t.A t.n t.c (Gf t.l):=λht hw=>Dc.YI hw ht;unfold Da Fj at hst;refine DL (M:=M) Tryz.func36 [.tmp 2]  hst ?_;have zs:=Bd.mk Jq;refine DZ ?_;refine DZ ?_;refine C9 rfl λK BC=>DR ?_;refine Dh lK (λi=>.row (ξ i.A i.n i.c) 182 5 i.n (FJ (KH x.tb x.tb.en))::Da x) (λi=>i.n=(KH x.tb x.tb.en).length) (λw hw=>pI x _ hj.tb w hw) ?_;rintro⟨A,n,c⟩ hn;dsimp only at hn;unfold lK Da Fj;refine EM ?_;refine DR (BC _ _ ?_);refine FB 41 6 (Eo (Dk []::_) (λw hw=>St.Dk (R:=[]) hw) (DY [3,4,2,1,0] ?_));refine DC [0,3,4] λG1 g1=>?_;replace g1:=EK g1;refine Cw λK BC=>?_;have zg:=Bd.mk g1;refine Db ?_;refine DC [0,3,4,5] λG2 g2=>?_;replace g2:=Dy g2;refine DK ?_;refine Dv (λF' L' => ∃(i:Nat)(A3:Option Addr)(n3 c3:Nat)(os:List OJ),EH F' G2 [0,4]/\F' 3=ξ A3 n3 c3/\F' 5=ε ζ (i:Int)/\L'=[.blk x.b 97 [x.y0,x.y1,x.y2,x.y3,x.y4,x.y5,x.y6,x.y7,x.y8,ξ x.TA x.tn x.tc,ε ζ x.N,ξ x.UA x.un x.uc,π (σ ⟨x.tb.tb,0,ν⟩),ξ x.LA x.ln x.lc,ε ζ x.lim.qb,ε ζ x.lim.qo,ε ζ x.lim.qr,ξ x.MA x.mn x.mc,ε ζ x.cap,ξ x.EA x.en x.ec,ξ x.SA x.sn x.sc,ξ x.BA x.bn x.bc,ξ (σ ⟨x.g,0,ν⟩) 65 65],Dk (Fx x),.row (ξ A n c) 182 5 n (FJ (KH x.tb x.tb.en)),.row (ξ A3 n3 c3) 41 6 n3 (JY os),Dk (os.map TG)]/\i<=n/\n3=i/\os.map OJ.pl=((KH x.tb x.tb.en).take i).map (enP x)) (λF' L'=>200000-(intOf (F' 5)).toNat) ?_ ?_
 ·refine⟨0,ν,0,0,[],?_⟩;replace zg:=Bd.mk g2;refine DD ?_;simp[JY]
 intro G3 L' hI;obtain⟨i,A3,n3,c3,os,zq,Tn,Mq,rfl,⟨hi,hni,hos⟩⟩:=hI;replace zg:=Bd.mk g2;have g3:=AO (Dy zq) (AO Tn Mq);refine Cw λK BD=>?_;replace zg:=Bd.mk (AO g2 g3);refine Db ?_;refine Ec (λhc=>?_) λhc=>?_
 ·refine Cz ?_;try simp only[Di,Dq]
  have hit:i<n:=by have:=AT0 hc;omega
  refine BD _ _ ?_;obtain⟨e,he⟩:∃e,(KH x.tb x.tb.en)[i]?=σ e:=⟨_,AQ AL⟩;have hem:=AU he;obtain⟨s,hsl,hes⟩:∃s,Ej x.tb.s s=τ/\e=ET x.tb s:=by
   rw[aP]at hem;obtain⟨s,hs,rfl⟩:=BL.1 hem;exact⟨s,(Bl.1 hs).2,rfl⟩
  have hse:De e.h=s:=by rw[hes];exact(hj.te.live s hsl).sl
  have heh:e.h<18446744073709551616:=by rw[hes];exact(hj.te.live s hsl).hh
  have hsb:=pQ hj.tb hsl;refine EL 2 rfl AL λg F7 hg EX=>?_;subst F7;replace hg:=AAM (AO hg EX);clear EX;obtain⟨gB,aO,-,AGA⟩:=N_ (AMc.IG (k:=6) rfl).swp AL;obtain⟨b',o',e',hgB,-⟩:=AMb.cells AL;rw[aO]at e';cases e';unfold Fj at AGA;rw[Du]at AGA;have hxg:=AGA.1;obtain⟨t,hty⟩:∃t,x.Fw[s]?=σ t:=⟨_,AQ AL⟩;have htm:=AU hty;obtain⟨br,hbr,-,AQ3⟩:=(hj.Uw s hsl).br;rw[hty]at hbr;cases hbr;have hcell:∀ {L:List DW} {w:World},St M W (Fj x::Dk (Fx x)::L) w->w.cell? ⟨gB,s,ν⟩=σ (ξ t.A t.n t.c):=λhw=>by
   obtain⟨b'',o'',e'',-,hc⟩:=(Dc.byR hw).cells AL;rw[aO]at e'';cases e'';have h5:=hc s _ (qZ hty);rw[Ao]at h5;exact h5
  refine Cw λK BD=>DK (C9 rfl λK QF=>DD ?_);refine DX (Dx (m:=1) (i:=i*5+0) (v:=ε υ (e.h:Int)) (DN (k:=2) rfl) AF (Gi Gu he AL)) ?_;refine DD ?_;refine DI (λw hw=>F4 e.h heh w) ?_;try refine DD ?_
  refine QF _ _ ?_;rw[hse];refine bJ λK hK=>FD [0,1,2] [(τ,0),(τ,1),(τ,2),(τ,3),(τ,4),(τ,5),(τ,6),(τ,7),(τ,8),(τ,9),(τ,10),(τ,11),(τ,12),(τ,13),(τ,14),(τ,15),(τ,17),(τ,18),(τ,19),(τ,20),(τ,21),(τ,22),(τ,23),(τ,25),(τ,26),(τ,27),(τ,28),(ο,16),(ο,24),(ο,29),(τ,30),(ο,31),(ο,32),(τ,33)] [] ?_;refine DD ?_;refine DX (Dx (m:=1) (i:=i*5+0) (v:=ε υ (e.h:Int)) (DN (k:=2) rfl) AF (Gi Gu he AL)) ?_;refine DD ?_;refine DX (Dx (m:=1) (i:=i*5+1) (v:=ε ζ e.ow) (DN (k:=2) rfl) AF (Gi Gu he AL)) ?_;refine DD ?_;refine DX (IJ (i:=i*5+3) (vs:=[ε ζ e.off,ε ζ e.len]) (DN (k:=2) rfl) AF (ADA he)) ?_;refine DU aO ?_;rw[<-aO];refine DX (Ha (m:=1) AF (λw hw=>hcell hw)) ?_;refine DD ?_;intro b40 AHm AHn;refine EI 0 Vn rfl rfl (λw hw=>(AMd (L:=_) htm hw.tail).reads) (MQ _) AL AL ?_;intro A6 c6 hl6 hr6;refine DU (AO @Ao @AR.{0}) ?_;refine D9 (λA' n' c'=>ξ A' n' c') (λw hw=>VL (Dc.lgw (x:=x) (L:=_) hw.tail hll) (s:Int)) ?_;intro A5 n5 c5 hl5 iQ;refine DU (AO @AP.{0} (AO true_or (AO or_true (AO and_true eq_self)))) ?_;intro bE Qi Tg;refine D6 6 ADH rfl (λw hw=>D_ (size:=6) (DN (k:=0) rfl) rfl hw) rfl AL AL ?_;intro A4 c4 hl4 hr4;refine DU (AO @AP.{0} (AO true_or (AO or_true (AO and_true eq_self)))) ?_;refine hK _ _ ?_;clear hK K;refine BD _ _ (DC [0,3,4,5] λG4 g4=>?_);replace g4:=Dy g4;refine DY [2,7,4,5,6,0] ?_;refine Eo (Dk ((os++[(⟨e.h,e.ow,e.off,e.len,A6,t.n,c6,A5,n5,c5,NT x.l (s:Int)⟩:OJ)]).map TG)::_) (λw hw=>by rw[Bj];exact hw.qY) ?_;refine DY [1,2,3,4,0] ?_;have AMe:(os++[(⟨e.h,e.ow,e.off,e.len,A6,t.n,c6,A5,n5,c5,NT x.l (s:Int)⟩:OJ)]).map OJ.pl=((KH x.tb x.tb.en).take (i+1)).map (enP x):=by
   rw[Bi,he,Bj,Bj,hos];show _++[(⟨e.h,e.ow,NT x.l (s:Int)⟩:OP)]=_++[(⟨e.h,e.ow,NT x.l (De e.h:Int)⟩:OP)];rw[hse]
  refine Cy rfl ?_;replace zg:=Bd.mk (AO g2 (AO g3 g4));refine DD ?_;refine⟨⟨i+1,A4,n3+1,c4,os++[(⟨e.h,e.ow,e.off,e.len,A6,t.n,c6,A5,n5,c5,NT x.l (s:Int)⟩:OJ)],?_⟩,?_⟩
  ·refine DU (AO @Af @bP) ?_;exact⟨by omega,by omega,AMe⟩
  ·exact AXo
 refine Dr (BC _ _ ?_);have hin:i=n:=by have:=AUD hc;omega
 refine Db ?_;refine C8 (EP λw hw=>?_);refine⟨⟨A3,n3,c3,os⟩,rfl,?_,hw.pick (ix:=[3,4,0,1]) AJ⟩;rw[hos,Aw AL];rfl
theorem Dc.AAt{M W w L x}(h:St M W (Fj x::Dk (Fx x)::L) w):w.cell? ⟨x.tb.s.sb,4,ν⟩=σ (ε ζ x.tb.s.gone):=(Dc.tbo h).Gd (AV.2 (.inl (.tail _ (.tail _ (.head _))))) 4
theorem Dc.AIo{M W w L x}(h:St M W (Fj x::Dk (Fx x)::L) w):Sl w w.heap.size 1 x.tb.s.FA x.tb.s.fn x.tb.s.fc (D8 x.tb.s.Fu):=Sl.EJ (Dc.tbo h) (AV.2 (.inl (.tail _ (.tail _ (.tail _ (.tail _ (.tail _ (.head _))))))))
theorem Dc.AIp{M W w L x}(h:St M W (Fj x::Dk (Fx x)::L) w):Sl w w.heap.size 5 x.EA x.en x.ec (Eh x.es):=Sl.EJ (h.IG (k:=4) rfl) (DN (k:=1) rfl)
def stc(x:Dc)(z:Mx×ve):List Value:=ssC x z.1 z.2
theorem AEF x z:(stc x z).length=7:=rfl
def stC(x:Dc)(zs:List (Mx×ve)):List Value:=zs.flatMap (stc x)
theorem AGX(a b c d e f g h i j:DW) : [a,c,d,f,g,h,i,j,b,e].Perm [a,b,c,d,e,f,g,h,i,j] :=
 .cons a ((BQ (l₁:=[c,d,f,g,h,i,j]) (l₂:=[b,e])).trans (.cons b ((CG (a:=e) (l₁:=[c,d]) (l₂:=[f,g,h,i,j])).symm.trans (CF _) |>.trans (CF _))))
theorem set_self{α:Type}{l:List α}{i y}(h:l[i]?=σ y):l.set i y=l:=by
 obtain⟨h1,rfl⟩:=Ab.1 h;exact List.set_getElem_self h1
theorem AAu x l y m:stC x (l++[(y,m)])=stC x l++ssC x y m:=by simp[stC,stc]
structure SnI where
 ob:ObI
 FA:Option Addr
 fn:Nat
 fc:Nat
 QA:Option Addr
 qn:Nat
 qc:Nat
 ret:Int
 SA:Option Addr
 sn:Nat
 sc:Nat
 zs:List (Mx×ve)
 dg:Nat
def snV(i:SnI):Value:=.agg #[ξ i.ob.A i.ob.n i.ob.c,ξ i.FA i.fn i.fc,ξ i.QA i.qn i.qc,ε ζ i.ret,ξ i.SA i.sn i.sc,ε υ (i.dg:Int)]
structure SnR(x:Dc)(o:Qa)(i:SnI):Prop where
 os:i.ob.os.map OJ.pl=jf x
 zs:i.zs.map AH0=o.ps
def snL(x:Dc)(i:SnI):List DW:=TH i.ob++[.row (ξ i.SA i.sn i.sc) 59 7 i.sn (stC x i.zs)]
theorem FT l:ones (D8 l)=τ:=by simp[ones,D8,Value.oneCell']
theorem vL x{hb}(hxb:x.b=hb)o{b}(U7:o.b=b)(hg:ZT o){q}(ht:IM x q)(hq:q<=1000)W(hst:St (DV (IC hb o++[Dk (Da x)])) W (IC hb o++[Dk (Da x)]) W):
  Calls AGm 20 #[π (σ ⟨b,0,ν⟩)] W
  λen w' => ∃i:SnI,en=κ (snV i)/\SnR x o i/\St (DV (IC hb o++[Dk (Da x)])) W (snL x i++(IC hb o++[Dk (Da x)])) w':=by
 subst U7;subst hxb;have hj:=ht.j;have hup:∀e∈x.us,e.prop:=by
  obtain⟨fr,tk,hI⟩:=hj.rm;exact λe he=>(hI.prop e he).1
 obtain⟨M,hM⟩:∃M,DV (IC x.b o++[Dk (Da x)])=M:=⟨_,rfl⟩;rw[hM]at hst ⊢;clear hM;have AF1:=hg.l;obtain⟨b,PA,pn,pc,ps⟩:=o;dsimp only at *;unfold IC kC kD at hst;dsimp only[Ad,AR]at hst;have h0:St M W (Dk (Da x)::[.blk b 101 [π (σ ⟨x.b,0,ν⟩),ξ PA pn pc],.row (ξ PA pn pc) 148 1 pn (TM ps),ZR x.b ⟨b,PA,pn,pc,ps⟩]) W:=hst.pick (ix:=[3,0,1,2]) AJ;have h1:St M W (Fj x::Dk (Fx x)::[.blk b 101 [π (σ ⟨x.b,0,ν⟩),ξ PA pn pc],.row (ξ PA pn pc) 148 1 pn (TM ps),ZR x.b ⟨b,PA,pn,pc,ps⟩]) W:=h0.GV;clear h0;have hln:ps.length=pn:=by have:=(h1.La 3 rfl).len;rw[TD]at this;omega
 obtain⟨hn1,hn2,rq,hn4⟩:=Dc.AHf h1;simp only[Du,Dz,FK,Dw,and_true]at rq hn4;have ht1:x.tb.tb<W.heap.size:=((Dc.tbo h1).own _ (AV.2 (.inl (.head _))) _ (.head _)).2;have ht2:x.tb.s.sb<W.heap.size:=((Dc.tbo h1).own _ (AV.2 (.inl (.tail _ (.tail _ (.head _))))) _ (.head _)).2;have hbx:¬b=x.b:=λe=>Fs h1.apart (i:=2) (j:=0) rfl rfl AJ b AUp (by simp[DW.foot,Fj,e]);have hen:x.en<=1000:=by
  have h3:=(Dc.AIp h1).len;unfold Eh at h3;rw[GN H8]at h3;have:=ht.es;omega
 have hfl:=hj.tb.fl;have hfn:=Dc.fnl h1;have hus:=hj.XI;have kE:∀ {w:World},St M W [Fj x,Dk (Fx x)] w->pF w w.heap.size ⟨x.b,x.N,x.UA,x.un,x.uc,x.us⟩:=λhw=>pF.of (hw.IG (k:=1) rfl) 0 1 rfl rfl AU5 hup;have hfs:∀ {w:World},St M W [Fj x,Dk (Fx x)] w->Sl w w.heap.size 1 x.tb.s.FA x.tb.s.fn x.tb.s.fc (D8 x.tb.s.Fu):=λhw=>Dc.AIo hw;have PD:∀ {w:World},St M W [Fj x,Dk (Fx x)] w->Sl w w.heap.size 5 x.EA x.en x.ec (Eh x.es):=λhw=>Dc.AIp hw;unfold Fj at h1;refine ER (M:=M) (n:=78) [.cell 2 31] rfl Tryz.func20 rfl rfl (Am rfl)  h1 ?_;refine C9 rfl λK BC=>?_;have zs:=Bd.mk Jq;refine DR ?_;intro b2 hb2 hf2;refine BC _ _ (DY [1,2,3,4,5,0] ?_);refine DC [0,2] λG1 g1=>?_;replace g1:=EK g1;refine Cw λK BC=>?_;refine Df (λ_ _=>True) (λF' L' => ∃(b3:Nat)(OA:Option Addr)(on oc:Nat)(os:List OJ)(FA:Option Addr)(fn fc:Nat)(QA:Option Addr)(qc:Nat)(dg:Nat),EH F' G1 [0,2]/\F' 3=π (σ ⟨b3,0,ν⟩)/\L'=[.blk x.b 97 [x.y0,x.y1,x.y2,x.y3,x.y4,x.y5,x.y6,x.y7,x.y8,ξ x.TA x.tn x.tc,ε ζ x.N,ξ x.UA x.un x.uc,π (σ ⟨x.tb.tb,0,ν⟩),ξ x.LA x.ln x.lc,ε ζ x.lim.qb,ε ζ x.lim.qo,ε ζ x.lim.qr,ξ x.MA x.mn x.mc,ε ζ x.cap,ξ x.EA x.en x.ec,ξ x.SA x.sn x.sc,ξ x.BA x.bn x.bc,ξ (σ ⟨x.g,0,ν⟩) 65 65],Dk (Fx x),.blk b 101 [π (σ ⟨x.b,0,ν⟩),ξ PA pn pc],.row (ξ PA pn pc) 148 1 pn (TM ps),ZR x.b ⟨b,PA,pn,pc,ps⟩,.blk b2 31 [ξ ν 0 0,ξ ν 0 0,ξ ν 0 0,ε ζ 0,ξ ν 0 0,ε υ 0],.blk b3 31 [ξ OA on oc,ξ FA fn fc,ξ QA x.tb.s.fn qc,ε ζ x.tb.s.gone,ξ ν 0 0,ε υ (dg:Int)],.row (ξ OA on oc) 41 6 on (JY os),Dk (os.map TG)]/\os.map OJ.pl=jf x/\W.heap.size<=b3/\b2<b3) ?_ ?_
 ·refine JU [0,1,2] (.rd 0 (.rd 1 (.rd 2 (.rd 3 (.rd 5 (.rd 6 (.rd 7 (.rd 8 (.rd 9 (.rd 10 (.rd 13 (.rd 14 (.rd 15 (.rd 16 (.rd 17 (.rd 18 (.rd 19 (.rd 20 (.rd 21 (.rd 22 (.rd 23 (.rd 24 (.rd 25 (.rd 27 (.rd 28 (.rd 29 (.rd 30 (.rd 31 (.rd 32 (.rd 33 (.rd 34 (.rd 35 (.rd 36 (.rd 37 (.rd 38 (.rd 39 (.rd 40 (.rd 41 (.rd 42 (.rd 43 (.rd 44 (.rd 45 (.rd 46 (.rd 47 (.more 4 (.more 11 (.more 12 (.more 26 (.more 48 (.rd 49 (.act 50 (.act 51 (.done)))) (.act 50 (.act 48 (.rd 49 (.act 51 (.done)))))) (.act 50 (.act 26 (.act 48 (.rd 49 (.act 51 (.done))))))) (.act 50 (.act 12 (.act 26 (.act 48 (.rd 49 (.act 51 (.done)))))))) (.more 12 (.more 11 (.more 26 (.more 48 (.rd 49 (.act 50 (.act 51 (.done)))) (.act 50 (.act 48 (.rd 49 (.act 51 (.done)))))) (.act 50 (.act 26 (.act 48 (.rd 49 (.act 51 (.done))))))) (.act 50 (.act 11 (.act 26 (.act 48 (.rd 49 (.act 51 (.done)))))))) (.act 50 (.more 11 (.act 12 (.act 26 (.act 48 (.rd 49 (.act 51 (.done)))))) (.act 12 (.act 11 (.act 26 (.act 48 (.rd 49 (.act 51 (.done))))))))))) (.more 12 (.more 4 (.more 11 (.more 26 (.more 48 (.rd 49 (.act 50 (.act 51 (.done)))) (.act 50 (.act 48 (.rd 49 (.act 51 (.done)))))) (.act 50 (.act 26 (.act 48 (.rd 49 (.act 51 (.done))))))) (.act 50 (.act 11 (.act 26 (.act 48 (.rd 49 (.act 51 (.done)))))))) (.act 50 (.act 4 (.act 11 (.act 26 (.act 48 (.rd 49 (.act 51 (.done))))))))) (.act 50 (.more 4 (.more 11 (.act 12 (.act 26 (.act 48 (.rd 49 (.act 51 (.done)))))) (.act 12 (.act 11 (.act 26 (.act 48 (.rd 49 (.act 51 (.done)))))))) (.act 12 (.act 4 (.act 11 (.act 26 (.act 48 (.rd 49 (.act 51 (.done)))))))))))))))))))))))))))))))))))))))))))))))))))))))) [51] ?_;obtain⟨pm,hpm⟩:∃pm:PM,pm=.more 4 (.more 11 (.more 12 (.more 26 (.more 48 (.rd 49 (.act 50 (.act 51 (.done)))) (.act 50 (.act 48 (.rd 49 (.act 51 (.done)))))) (.act 50 (.act 26 (.act 48 (.rd 49 (.act 51 (.done))))))) (.act 50 (.act 12 (.act 26 (.act 48 (.rd 49 (.act 51 (.done)))))))) (.more 12 (.more 11 (.more 26 (.more 48 (.rd 49 (.act 50 (.act 51 (.done)))) (.act 50 (.act 48 (.rd 49 (.act 51 (.done)))))) (.act 50 (.act 26 (.act 48 (.rd 49 (.act 51 (.done))))))) (.act 50 (.act 11 (.act 26 (.act 48 (.rd 49 (.act 51 (.done)))))))) (.act 50 (.more 11 (.act 12 (.act 26 (.act 48 (.rd 49 (.act 51 (.done)))))) (.act 12 (.act 11 (.act 26 (.act 48 (.rd 49 (.act 51 (.done))))))))))) (.more 12 (.more 4 (.more 11 (.more 26 (.more 48 (.rd 49 (.act 50 (.act 51 (.done)))) (.act 50 (.act 48 (.rd 49 (.act 51 (.done)))))) (.act 50 (.act 26 (.act 48 (.rd 49 (.act 51 (.done))))))) (.act 50 (.act 11 (.act 26 (.act 48 (.rd 49 (.act 51 (.done)))))))) (.act 50 (.act 4 (.act 11 (.act 26 (.act 48 (.rd 49 (.act 51 (.done))))))))) (.act 50 (.more 4 (.more 11 (.act 12 (.act 26 (.act 48 (.rd 49 (.act 51 (.done)))))) (.act 12 (.act 11 (.act 26 (.act 48 (.rd 49 (.act 51 (.done)))))))) (.act 12 (.act 4 (.act 11 (.act 26 (.act 48 (.rd 49 (.act 51 (.done))))))))))):=⟨_,rfl⟩;rw[<-hpm];have zg:=Bd.mk g1;refine DD ?_;refine DX (Ha (m:=1) AF (λw hw=>Dc.l6 hw)) ?_;refine DD ?_
  refine DX (Ha (m:=1) AF (λw hw=>Dc.pU hw)) ?_;refine DD ?_;refine DX (Ha (m:=1) AF (λw hw=>Dc.l6 hw)) ?_;refine DD ?_;refine DX (Ha (m:=1) AF (λw hw=>Dc.AAt hw)) ?_;refine DD ?_;subst hpm;refine DD ?_;refine AO ?_ ?_
  ·refine KY [2,3,4,5,0,1] AJ ?_;dsimp only[Dl,nth];refine Dh Xi (λi=>TH i++Da x) (λi=>i.os.map OJ.pl=jf x) (λw hw=>LU x rfl ht hq w hw) ?_;rintro⟨OA,on,oc,os⟩ hos;unfold Xi TH Da Fj;dsimp only[Ad,AR]at hos ⊢;refine DU (AO @AP.{0} (AO true_or (AO or_true (AO and_true eq_self)))) ?_;refine AO ?_ ?_
   ·refine D9 (λA' n' c'=>ξ A' n' c') (λw hw=>FN ⟨x.b,x.N,x.UA,x.un,x.uc,x.us⟩ w (kE (hw.pick (ix:=[2,3]) AJ))) ?_;intro FA fn fc hlF hrF;refine DU (AO @AP.{0} (AO true_or (AO or_true (AO and_true eq_self)))) ?_;refine AO ?_ ?_
    ·intro b17 aR aU;try refine DU (AO @AP.{0} (AO true_or (AO or_true (AO and_true eq_self)))) ?_
     refine AO ?_ ?_
     ·refine EI 0 GL rfl rfl (λw hw=>(hfs (hw.pick (ix:=[4,5]) AJ)).reads) (FT _) AL AL ?_;exact AUj
     intro b3 hb3 hf3;try refine DU (AO @AP.{0} (AO true_or (AO or_true (AO and_true eq_self)))) ?_
     refine EI 1 GL rfl rfl (λw hw=>(hfs (hw.pick (ix:=[5,6]) AJ)).reads) (FT _) AL AL ?_;intro QA qc qd qf;refine DU (AO @Ao (AO @AR.{0} (AO @AP.{0} (AO true_or (AO or_true (AO and_true eq_self)))))) ?_;refine Ee (λz:Nat=>ε υ (z:Int)) (λz=>z<18446744073709551616) (λw hw=>Ef (PD (hw.pick (ix:=[5,6]) AJ)) AL ht.ok) ?_;intro dg hdg;refine DU (AO @AP.{0} (AO true_or (AO or_true (AO and_true eq_self)))) ?_;refine⟨[5,6,7,8,9,10,1,3,4],by decide,?_⟩;simp only[Dl,nth];exact⟨b3,OA,on,oc,os,FA,fn,fc,QA,qc,dg,rfl,rfl,hos,hb3,by omega⟩
    intro b3 hb3 hf3;try refine DU (AO @AP.{0} (AO true_or (AO or_true (AO and_true eq_self)))) ?_
    intro b17 aR aU;try refine DU (AO @AP.{0} (AO true_or (AO or_true (AO and_true eq_self)))) ?_
    refine EI 0 GL rfl rfl (λw hw=>(hfs (hw.pick (ix:=[5,6]) AJ)).reads) (FT _) AL AL ?_;intro QA qc qd qf;refine DU (AO @Ao (AO @AR.{0} (AO @AP.{0} (AO true_or (AO or_true (AO and_true eq_self)))))) ?_;refine Ee (λz:Nat=>ε υ (z:Int)) (λz=>z<18446744073709551616) (λw hw=>Ef (PD (hw.pick (ix:=[5,6]) AJ)) AL ht.ok) ?_;intro dg hdg;refine DU (AO @AP.{0} (AO true_or (AO or_true (AO and_true eq_self)))) ?_;refine⟨[5,6,7,8,9,10,1,3,4],by decide,?_⟩;simp only[Dl,nth];exact⟨b3,OA,on,oc,os,FA,fn,fc,QA,qc,dg,rfl,rfl,hos,hb3,by omega⟩
   refine AO ?_ ?_
   ·intro b17 aR aU;try refine DU (AO @AP.{0} (AO true_or (AO or_true (AO and_true eq_self)))) ?_
    refine AO ?_ ?_
    ·refine D9 (λA' n' c'=>ξ A' n' c') (λw hw=>FN ⟨x.b,x.N,x.UA,x.un,x.uc,x.us⟩ w (kE (hw.pick (ix:=[3,4]) AJ))) ?_;intro FA fn fc hlF hrF;refine DU (AO @AP.{0} (AO true_or (AO or_true (AO and_true eq_self)))) ?_;refine AO ?_ ?_
     ·refine EI 1 GL rfl rfl (λw hw=>(hfs (hw.pick (ix:=[4,5]) AJ)).reads) (FT _) AL AL ?_;exact AUj
     intro b3 hb3 hf3;try refine DU (AO @AP.{0} (AO true_or (AO or_true (AO and_true eq_self)))) ?_
     refine EI 2 GL rfl rfl (λw hw=>(hfs (hw.pick (ix:=[5,6]) AJ)).reads) (FT _) AL AL ?_;intro QA qc qd qf;refine DU (AO @Ao (AO @AR.{0} (AO @AP.{0} (AO true_or (AO or_true (AO and_true eq_self)))))) ?_;refine Ee (λz:Nat=>ε υ (z:Int)) (λz=>z<18446744073709551616) (λw hw=>Ef (PD (hw.pick (ix:=[5,6]) AJ)) AL ht.ok) ?_;intro dg hdg;refine DU (AO @AP.{0} (AO true_or (AO or_true (AO and_true eq_self)))) ?_;refine⟨[5,6,7,8,9,10,1,3,4],by decide,?_⟩;simp only[Dl,nth];exact⟨b3,OA,on,oc,os,FA,fn,fc,QA,qc,dg,rfl,rfl,hos,hb3,by omega⟩
    intro b3 hb3 hf3;try refine DU (AO @AP.{0} (AO true_or (AO or_true (AO and_true eq_self)))) ?_
    refine D9 (λA' n' c'=>ξ A' n' c') (λw hw=>FN ⟨x.b,x.N,x.UA,x.un,x.uc,x.us⟩ w (kE (hw.pick (ix:=[4,5]) AJ))) ?_;intro FA fn fc hlF hrF;refine DU (AO @AP.{0} (AO true_or (AO or_true (AO and_true eq_self)))) ?_;refine EI 2 GL rfl rfl (λw hw=>(hfs (hw.pick (ix:=[5,6]) AJ)).reads) (FT _) AL AL ?_;intro QA qc qd qf;refine DU (AO @Ao (AO @AR.{0} (AO @AP.{0} (AO true_or (AO or_true (AO and_true eq_self)))))) ?_;refine Ee (λz:Nat=>ε υ (z:Int)) (λz=>z<18446744073709551616) (λw hw=>Ef (PD (hw.pick (ix:=[5,6]) AJ)) AL ht.ok) ?_;intro dg hdg;refine DU (AO @AP.{0} (AO true_or (AO or_true (AO and_true eq_self)))) ?_;refine⟨[5,6,7,8,9,10,2,3,4],by decide,?_⟩;simp only[Dl,nth];exact⟨b3,OA,on,oc,os,FA,fn,fc,QA,qc,dg,rfl,rfl,hos,hb3,by omega⟩
   intro b3 hb3 hf3;try refine DU (AO @AP.{0} (AO true_or (AO or_true (AO and_true eq_self)))) ?_
   refine AO ?_ ?_
   ·refine D9 (λA' n' c'=>ξ A' n' c') (λw hw=>FN ⟨x.b,x.N,x.UA,x.un,x.uc,x.us⟩ w (kE (hw.pick (ix:=[3,4]) AJ))) ?_;intro FA fn fc hlF hrF;refine DU (AO @AP.{0} (AO true_or (AO or_true (AO and_true eq_self)))) ?_;intro b17 aR aU;try refine DU (AO @AP.{0} (AO true_or (AO or_true (AO and_true eq_self)))) ?_
    refine EI 0 GL rfl rfl (λw hw=>(hfs (hw.pick (ix:=[5,6]) AJ)).reads) (FT _) AL AL ?_;intro QA qc qd qf;refine DU (AO @Ao (AO @AR.{0} (AO @AP.{0} (AO true_or (AO or_true (AO and_true eq_self)))))) ?_;refine Ee (λz:Nat=>ε υ (z:Int)) (λz=>z<18446744073709551616) (λw hw=>Ef (PD (hw.pick (ix:=[5,6]) AJ)) AL ht.ok) ?_;intro dg hdg;refine DU (AO @AP.{0} (AO true_or (AO or_true (AO and_true eq_self)))) ?_;refine⟨[5,6,7,8,9,10,2,3,4],by decide,?_⟩;simp only[Dl,nth];exact⟨b3,OA,on,oc,os,FA,fn,fc,QA,qc,dg,rfl,rfl,hos,hb3,by omega⟩
   intro b17 aR aU;try refine DU (AO @AP.{0} (AO true_or (AO or_true (AO and_true eq_self)))) ?_
   refine D9 (λA' n' c'=>ξ A' n' c') (λw hw=>FN ⟨x.b,x.N,x.UA,x.un,x.uc,x.us⟩ w (kE (hw.pick (ix:=[4,5]) AJ))) ?_;intro FA fn fc hlF hrF;refine DU (AO @AP.{0} (AO true_or (AO or_true (AO and_true eq_self)))) ?_;refine EI 1 GL rfl rfl (λw hw=>(hfs (hw.pick (ix:=[5,6]) AJ)).reads) (FT _) AL AL ?_;intro QA qc qd qf;refine DU (AO @Ao (AO @AR.{0} (AO @AP.{0} (AO true_or (AO or_true (AO and_true eq_self)))))) ?_;refine Ee (λz:Nat=>ε υ (z:Int)) (λz=>z<18446744073709551616) (λw hw=>Ef (PD (hw.pick (ix:=[5,6]) AJ)) AL ht.ok) ?_;intro dg hdg;refine DU (AO @AP.{0} (AO true_or (AO or_true (AO and_true eq_self)))) ?_;refine⟨[5,6,7,8,9,10,2,3,4],by decide,?_⟩;simp only[Dl,nth];exact⟨b3,OA,on,oc,os,FA,fn,fc,QA,qc,dg,rfl,rfl,hos,hb3,by omega⟩
  refine AO ?_ ?_
  ·intro b17 aR aU;try refine DU (AO @AP.{0} (AO true_or (AO or_true (AO and_true eq_self)))) ?_
   refine AO ?_ ?_
   ·refine KY [0,3,4,5,6,1,2] AJ ?_;dsimp only[Dl,nth];refine Dh Xi (λi=>TH i++Da x) (λi=>i.os.map OJ.pl=jf x) (λw hw=>LU x rfl ht hq w hw) ?_;rintro⟨OA,on,oc,os⟩ hos;unfold Xi TH Da Fj;dsimp only[Ad,AR]at hos ⊢;refine DU (AO @AP.{0} (AO true_or (AO or_true (AO and_true eq_self)))) ?_;refine AO ?_ ?_
    ·refine D9 (λA' n' c'=>ξ A' n' c') (λw hw=>FN ⟨x.b,x.N,x.UA,x.un,x.uc,x.us⟩ w (kE (hw.pick (ix:=[2,3]) AJ))) ?_;intro FA fn fc hlF hrF;refine DU (AO @AP.{0} (AO true_or (AO or_true (AO and_true eq_self)))) ?_;refine AO ?_ ?_
     ·refine EI 5 GL rfl rfl (λw hw=>(hfs (hw.pick (ix:=[3,4]) AJ)).reads) (FT _) AL AL ?_;exact AUj
     intro b3 hb3 hf3;try refine DU (AO @AP.{0} (AO true_or (AO or_true (AO and_true eq_self)))) ?_
     refine EI 6 GL rfl rfl (λw hw=>(hfs (hw.pick (ix:=[4,5]) AJ)).reads) (FT _) AL AL ?_;intro QA qc qd qf;refine DU (AO @Ao (AO @AR.{0} (AO @AP.{0} (AO true_or (AO or_true (AO and_true eq_self)))))) ?_;refine Ee (λz:Nat=>ε υ (z:Int)) (λz=>z<18446744073709551616) (λw hw=>Ef (PD (hw.pick (ix:=[5,6]) AJ)) AL ht.ok) ?_;intro dg hdg;refine DU (AO @AP.{0} (AO true_or (AO or_true (AO and_true eq_self)))) ?_;refine⟨[5,6,7,8,9,10,1,3,4],by decide,?_⟩;simp only[Dl,nth];exact⟨b3,OA,on,oc,os,FA,fn,fc,QA,qc,dg,rfl,rfl,hos,hb3,by omega⟩
    intro b3 hb3 hf3;try refine DU (AO @AP.{0} (AO true_or (AO or_true (AO and_true eq_self)))) ?_
    refine D9 (λA' n' c'=>ξ A' n' c') (λw hw=>FN ⟨x.b,x.N,x.UA,x.un,x.uc,x.us⟩ w (kE (hw.pick (ix:=[3,4]) AJ))) ?_;intro FA fn fc hlF hrF;refine DU (AO @AP.{0} (AO true_or (AO or_true (AO and_true eq_self)))) ?_;refine EI 6 GL rfl rfl (λw hw=>(hfs (hw.pick (ix:=[4,5]) AJ)).reads) (FT _) AL AL ?_;intro QA qc qd qf;refine DU (AO @Ao (AO @AR.{0} (AO @AP.{0} (AO true_or (AO or_true (AO and_true eq_self)))))) ?_;refine Ee (λz:Nat=>ε υ (z:Int)) (λz=>z<18446744073709551616) (λw hw=>Ef (PD (hw.pick (ix:=[5,6]) AJ)) AL ht.ok) ?_;intro dg hdg;refine DU (AO @AP.{0} (AO true_or (AO or_true (AO and_true eq_self)))) ?_;refine⟨[5,6,7,8,9,10,2,3,4],by decide,?_⟩;simp only[Dl,nth];exact⟨b3,OA,on,oc,os,FA,fn,fc,QA,qc,dg,rfl,rfl,hos,hb3,by omega⟩
   intro b3 hb3 hf3;try refine DU (AO @AP.{0} (AO true_or (AO or_true (AO and_true eq_self)))) ?_
   refine KY [0,1,4,5,6,7,2,3] AJ ?_;dsimp only[Dl,nth];refine Dh Xi (λi=>TH i++Da x) (λi=>i.os.map OJ.pl=jf x) (λw hw=>LU x rfl ht hq w hw) ?_;rintro⟨OA,on,oc,os⟩ hos;unfold Xi TH Da Fj;dsimp only[Ad,AR]at hos ⊢;refine DU (AO @AP.{0} (AO true_or (AO or_true (AO and_true eq_self)))) ?_;refine D9 (λA' n' c'=>ξ A' n' c') (λw hw=>FN ⟨x.b,x.N,x.UA,x.un,x.uc,x.us⟩ w (kE (hw.pick (ix:=[2,3]) AJ))) ?_;intro FA fn fc hlF hrF;refine DU (AO @AP.{0} (AO true_or (AO or_true (AO and_true eq_self)))) ?_;refine EI 6 GL rfl rfl (λw hw=>(hfs (hw.pick (ix:=[3,4]) AJ)).reads) (FT _) AL AL ?_;intro QA qc qd qf;refine DU (AO @Ao (AO @AR.{0} (AO @AP.{0} (AO true_or (AO or_true (AO and_true eq_self)))))) ?_;refine Ee (λz:Nat=>ε υ (z:Int)) (λz=>z<18446744073709551616) (λw hw=>Ef (PD (hw.pick (ix:=[4,5]) AJ)) AL ht.ok) ?_;intro dg hdg;refine DU (AO @AP.{0} (AO true_or (AO or_true (AO and_true eq_self)))) ?_;refine⟨[4,5,7,8,9,10,6,2,3],by decide,?_⟩;simp only[Dl,nth];exact⟨b3,OA,on,oc,os,FA,fn,fc,QA,qc,dg,rfl,rfl,hos,hb3,by omega⟩
  intro b3 hb3 hf3;try refine DU (AO @AP.{0} (AO true_or (AO or_true (AO and_true eq_self)))) ?_
  refine AO ?_ ?_
  ·refine KY [0,3,4,5,6,1,2] AJ ?_;dsimp only[Dl,nth];refine Dh Xi (λi=>TH i++Da x) (λi=>i.os.map OJ.pl=jf x) (λw hw=>LU x rfl ht hq w hw) ?_;rintro⟨OA,on,oc,os⟩ hos;unfold Xi TH Da Fj;dsimp only[Ad,AR]at hos ⊢;refine DU (AO @AP.{0} (AO true_or (AO or_true (AO and_true eq_self)))) ?_;refine AO ?_ ?_
   ·refine D9 (λA' n' c'=>ξ A' n' c') (λw hw=>FN ⟨x.b,x.N,x.UA,x.un,x.uc,x.us⟩ w (kE (hw.pick (ix:=[2,3]) AJ))) ?_;intro FA fn fc hlF hrF;refine DU (AO @AP.{0} (AO true_or (AO or_true (AO and_true eq_self)))) ?_;intro b17 aR aU;try refine DU (AO @AP.{0} (AO true_or (AO or_true (AO and_true eq_self)))) ?_
    refine EI 0 GL rfl rfl (λw hw=>(hfs (hw.pick (ix:=[4,5]) AJ)).reads) (FT _) AL AL ?_;intro QA qc qd qf;refine DU (AO @Ao (AO @AR.{0} (AO @AP.{0} (AO true_or (AO or_true (AO and_true eq_self)))))) ?_;refine Ee (λz:Nat=>ε υ (z:Int)) (λz=>z<18446744073709551616) (λw hw=>Ef (PD (hw.pick (ix:=[4,5]) AJ)) AL ht.ok) ?_;intro dg hdg;refine DU (AO @AP.{0} (AO true_or (AO or_true (AO and_true eq_self)))) ?_;refine⟨[4,5,7,8,9,10,6,2,3],by decide,?_⟩;simp only[Dl,nth];exact⟨b3,OA,on,oc,os,FA,fn,fc,QA,qc,dg,rfl,rfl,hos,hb3,by omega⟩
   intro b17 aR aU;try refine DU (AO @AP.{0} (AO true_or (AO or_true (AO and_true eq_self)))) ?_
   refine D9 (λA' n' c'=>ξ A' n' c') (λw hw=>FN ⟨x.b,x.N,x.UA,x.un,x.uc,x.us⟩ w (kE (hw.pick (ix:=[3,4]) AJ))) ?_;intro FA fn fc hlF hrF;refine DU (AO @AP.{0} (AO true_or (AO or_true (AO and_true eq_self)))) ?_;refine EI 1 GL rfl rfl (λw hw=>(hfs (hw.pick (ix:=[4,5]) AJ)).reads) (FT _) AL AL ?_;intro QA qc qd qf;refine DU (AO @Ao (AO @AR.{0} (AO @AP.{0} (AO true_or (AO or_true (AO and_true eq_self)))))) ?_;refine Ee (λz:Nat=>ε υ (z:Int)) (λz=>z<18446744073709551616) (λw hw=>Ef (PD (hw.pick (ix:=[4,5]) AJ)) AL ht.ok) ?_;intro dg hdg;refine DU (AO @AP.{0} (AO true_or (AO or_true (AO and_true eq_self)))) ?_;refine⟨[4,5,7,8,9,10,6,2,3],by decide,?_⟩;simp only[Dl,nth];exact⟨b3,OA,on,oc,os,FA,fn,fc,QA,qc,dg,rfl,rfl,hos,hb3,by omega⟩
  intro b17 aR aU;try refine DU (AO @AP.{0} (AO true_or (AO or_true (AO and_true eq_self)))) ?_
  refine KY [0,1,4,5,6,7,2,3] AJ ?_;dsimp only[Dl,nth];refine Dh Xi (λi=>TH i++Da x) (λi=>i.os.map OJ.pl=jf x) (λw hw=>LU x rfl ht hq w hw) ?_;rintro⟨OA,on,oc,os⟩ hos;unfold Xi TH Da Fj;dsimp only[Ad,AR]at hos ⊢;refine DU (AO @AP.{0} (AO true_or (AO or_true (AO and_true eq_self)))) ?_;refine D9 (λA' n' c'=>ξ A' n' c') (λw hw=>FN ⟨x.b,x.N,x.UA,x.un,x.uc,x.us⟩ w (kE (hw.pick (ix:=[2,3]) AJ))) ?_;intro FA fn fc hlF hrF;refine DU (AO @AP.{0} (AO true_or (AO or_true (AO and_true eq_self)))) ?_;refine EI 5 GL rfl rfl (λw hw=>(hfs (hw.pick (ix:=[3,4]) AJ)).reads) (FT _) AL AL ?_;intro QA qc qd qf;refine DU (AO @Ao (AO @AR.{0} (AO @AP.{0} (AO true_or (AO or_true (AO and_true eq_self)))))) ?_;refine Ee (λz:Nat=>ε υ (z:Int)) (λz=>z<18446744073709551616) (λw hw=>Ef (PD (hw.pick (ix:=[4,5]) AJ)) AL ht.ok) ?_;intro dg hdg;refine DU (AO @AP.{0} (AO true_or (AO or_true (AO and_true eq_self)))) ?_;refine⟨[4,5,7,8,9,10,6,2,3],by decide,?_⟩;simp only[Dl,nth];exact⟨b3,OA,on,oc,os,FA,fn,fc,QA,qc,dg,rfl,rfl,hos,hb3,by omega⟩
 intro G2 L' _ hF;obtain⟨b3,OA,on,oc,os,FA,fn,fc,QA,qc,dg,zq,Tn,rfl,⟨hos,hb3,AQ4⟩⟩:=hF;have zg:=Bd.mk g1;have g2:=AO (Dy zq) Tn;have nP:b<W.heap.size:=(h1.own _ (DN (k:=2) rfl) _ (.head _)).2;refine BC _ _ (Eo (Dk (Da x)::[.blk b 101 [π (σ ⟨x.b,0,ν⟩),ξ PA pn pc],.row (ξ PA pn pc) 148 1 pn (TM ps),ZR x.b ⟨b,PA,pn,pc,ps⟩,.blk b2 31 [ξ ν 0 0,ξ ν 0 0,ξ ν 0 0,ε ζ 0,ξ ν 0 0,ε υ 0],.blk b3 31 [ξ OA on oc,ξ FA fn fc,ξ QA x.tb.s.fn qc,ε ζ x.tb.s.gone,ξ ν 0 0,ε υ (dg:Int)],.row (ξ OA on oc) 41 6 on (JY os),Dk (os.map TG)]) (λw hw=>St.Dk (R:=Da x) hw) (FB 59 7 (DY [2,4,3,1,5,6,0,7,8] ?_)));refine DC [0,2,3] λG3 g3=>?_;replace zg:=Bd.mk g2;replace g3:=Dy g3;refine Cw λK BC=>?_;replace zg:=Bd.mk g3;refine Db ?_;refine DC [0,2,3,4] λG4 g4=>?_;replace g4:=Dy g4;refine DK ?_;refine Dv (λF' L' => ∃(i:Nat)(SA:Option Addr)(sn sc:Nat) (zsl:List (Mx×ve)),EH F' G4 [0,2,3]/\F' 4=ε ζ (i:Int)/\L'=[.blk b 101 [π (σ ⟨x.b,0,ν⟩),ξ PA pn pc],ZR x.b ⟨b,PA,pn,pc,ps⟩,.row (ξ PA pn pc) 148 1 pn (TM ps),Dk (Da x),.blk b2 31 [ξ ν 0 0,ξ ν 0 0,ξ ν 0 0,ε ζ 0,ξ ν 0 0,ε υ 0],.blk b3 31 [ξ OA on oc,ξ FA fn fc,ξ QA x.tb.s.fn qc,ε ζ x.tb.s.gone,ξ SA sn sc,ε υ (dg:Int)],.row (ξ SA sn sc) 59 7 sn (stC x zsl),.row (ξ OA on oc) 41 6 on (JY os),Dk (os.map TG)]/\i<=pn/\sn=i/\zsl.map AH0=ps.take i) (λF' L'=>200000-(intOf (F' 4)).toNat) ?_ ?_
 ·refine⟨0,ν,0,0,[],?_⟩;replace zg:=Bd.mk g4;refine DD ?_;simp[stC]
 intro G5 L' hI;obtain⟨i,SA,sn,sc,zsl,zq,Qd,rfl,⟨hi,hni,hzs⟩⟩:=hI;replace zg:=Bd.mk g4;have g5:=AO (Dy zq) Qd;refine Cw λK BD=>?_;replace zg:=Bd.mk (AO g4 g5);refine Db ?_;refine Ec (λhc=>?_) λhc=>?_
 ·refine Cz ?_;try simp only[Di,Dq]
  have hit:i<pn:=by have:=AT0 hc;omega
  refine BD _ _ ?_;obtain⟨y,hy⟩:∃y,ps[i]?=σ y:=⟨_,AQ AL⟩;have hym:=AU hy;refine EL 2 rfl AL λg F7 hgg EX=>?_;subst F7;replace hgg:=AAM (AO hgg EX);clear EX;refine Eo [.blk b 101 [π (σ ⟨x.b,0,ν⟩),ξ (σ ⟨g,0,ν⟩) pn pc],Dk (RY x.b y),Dk ((ps.map (bK x.b)).eraseIdx i),.row (ξ (σ ⟨g,0,ν⟩) pn pc) 148 1 pn (TM ps),Dk (Da x),.blk b2 31 [ξ ν 0 0,ξ ν 0 0,ξ ν 0 0,ε ζ 0,ξ ν 0 0,ε υ 0],.blk b3 31 [ξ OA on oc,ξ FA fn fc,ξ QA x.tb.s.fn qc,ε ζ x.tb.s.gone,ξ SA sn sc,ε υ (dg:Int)],.row (ξ SA sn sc) 59 7 sn (stC x zsl),.row (ξ OA on oc) 41 6 on (JY os),Dk (os.map TG)] (λw hw=>hw.IG (by rw[GY,BZ,hy];rfl)) ?_;refine DC [0,2,3,4] λG6 g6=>?_;replace g6:=Dy g6;refine Cw λK BD=>DK (bJ λK hK=>FD [0,3,6] [(τ,0),(τ,1),(τ,2),(τ,3),(τ,4),(τ,5),(τ,6),(τ,7),(τ,8),(ο,9),(ο,10),(ο,11),(τ,12),(ο,13)] [13] ?_);replace zg:=Bd.mk (AO g4 (AO g5 g6));refine DD ?_;refine DX (Dx (m:=1) (i:=i) (v:=π (σ ⟨y.b,0,ν⟩)) (DN (k:=1) rfl) AF (VW hy)) ?_;refine DD ?_;refine Jl [.blk b 101 [π (σ ⟨x.b,0,ν⟩),ξ (σ ⟨g,0,ν⟩) pn pc],Dk ((ps.map (bK x.b)).eraseIdx i),.row (ξ (σ ⟨g,0,ν⟩) pn pc) 148 1 pn (TM ps),.blk b2 31 [ξ ν 0 0,ξ ν 0 0,ξ ν 0 0,ε ζ 0,ξ ν 0 0,ε υ 0],.blk b3 31 [ξ OA on oc,ξ FA fn fc,ξ QA x.tb.s.fn qc,ε ζ x.tb.s.gone,ξ SA sn sc,ε υ (dg:Int)],.row (ξ SA sn sc) 59 7 sn (stC x zsl),.row (ξ OA on oc) 41 6 on (JY os),Dk (os.map TG)] [Dk (RY x.b y),Dk (Da x)] (AGX _ _ _ _ _ _ _ _ _ _) (ssV x y) (λ_=>[Dk (RY x.b y),Dk (Da x)]) (λ_=>bR) (λw hw=>jd x rfl y rfl ht hq w hw) ?_;intro m _;unfold ssV;refine EM ?_;refine DU (AO @AP.{0} (AO true_or (AO or_true (AO and_true eq_self)))) ?_;intro bE Qi Tg;refine D6 8 AGr rfl (λw hw=>D_ (size:=7) (DN (k:=0) rfl) rfl hw) rfl AL AL ?_;intro A4 c4 hl4 hr4;refine DU (AO @AP.{0} (AO true_or (AO or_true (AO and_true eq_self)))) ?_;refine hK _ _ ?_;clear hK K;refine BD _ _ (DC [0,2,3,4] λG7 g7=>?_);replace g7:=Dy g7;refine DY [4,2,5,6,3,7,8,0,9,10] ?_;refine Eo [.blk b 101 [π (σ ⟨x.b,0,ν⟩),ξ (σ ⟨g,0,ν⟩) pn pc],Dk (ps.map (bK x.b)),.row (ξ (σ ⟨g,0,ν⟩) pn pc) 148 1 pn (TM ps),Dk (Da x),.blk b2 31 [ξ ν 0 0,ξ ν 0 0,ξ ν 0 0,ε ζ 0,ξ ν 0 0,ε υ 0],.blk b3 31 [ξ OA on oc,ξ FA fn fc,ξ QA x.tb.s.fn qc,ε ζ x.tb.s.gone,ξ A4 (sn+1) c4,ε υ (dg:Int)],.row (ξ A4 (sn+1) c4) 59 7 (sn+1) (stC x zsl++ssC x y m),.row (ξ OA on oc) 41 6 on (JY os),Dk (os.map TG)] (λw hw=>by
   have h5:=St.IL (k:=i) (bK x.b y) AWl hw;rw[set_self (by rw[BZ,hy];rfl)]at h5;exact h5) ?_
  refine Cy rfl ?_;replace zg:=Bd.mk (AO g4 (AO g5 g7));refine DD ?_;refine⟨⟨i+1,A4,sn+1,c4,zsl++[(y,m)],?_⟩,?_⟩
  ·refine DU (AO @Af @AAu) ?_;exact⟨by omega,by omega,by rw[Bj,hzs,Bi,hy];rfl⟩
  ·exact AXo
 refine Dr (BC _ _ ?_);have hin:i=pn:=by have:=AUD hc;omega
 refine DC [2,3] λG8 g8=>?_;replace g8:=Dy g8;replace zg:=Bd.mk (AO g4 (AO g5 g8));refine Db ?_;refine C8 (FF ?_);intro w hw;refine⟨⟨⟨OA,on,oc,os⟩,FA,fn,fc,QA,x.tb.s.fn,qc,x.tb.s.gone,SA,sn,sc,zsl,dg⟩,rfl,⟨hos,by show zsl.map AH0=ps;rw[hzs,Aw AL]⟩,hw.pick (ix:=[7,8,6,0,2,1,3]) AJ⟩
def Xj(c:OC):DW:=.row (ξ c.DA c.dn c.dc) 29 1 c.dn (FU c.ds)
def Xk(c:OC):DW:=.row (ξ c.BA c.bn c.bc) 5 1 c.bn (Gf c.bs)
def II(c:OC):List DW:=[Xj c,Xk c]
theorem Sd.jg{w D A n c size t xs}(h:(DW.row (ξ A n c) t size n xs).holds w)(hs:Sl w w.heap.size size A n c xs)(hD:∀b∈(DW.row (ξ A n c) t size n xs).foot,D b):Sd w D size A n c xs:=by
 refine⟨hs.len,hs.cap,hs.max,λhn=>?_⟩;obtain⟨b,off,e,hb,hc⟩:=hs.cells hn;refine⟨b,off,e,hD b ?_,hc⟩;rcases h.2 with h0|⟨g,cap,cur,e2,-⟩
 ·exact absurd h0.1 (by intro e3;cases e3;omega)
 ·cases e2;cases e;simp[DW.foot,Value.ownBlock]
theorem St.AGC{M W w L cs}(h:St M W (Go.Proofs.YtnkgiaimcpbhkaaGreat.Dk (cs.flatMap II)::L) w):St M W (KQ (Go.Proofs.YtnkgiaimcpbhkaaGreat.Dk (cs.flatMap II)).foot cs::L) w:=by
 have hp:=Ak.1 h.apart;have h1:=h.GV;have hm:∀c∈cs,∀r∈II c,r∈cs.flatMap II:=λc hc r hr=>BM.2 ⟨c,hc,hr⟩;refine⟨h.ES,?_,?_,Ak.2 ⟨hp.1,hp.2⟩⟩
 ·intro r hr;cases hr with
  | head =>
   exact(⟨λc hc=>Sd.jg (h1.holds _ (AV.2 (.inl (hm c hc _ (.head _))))) (Sl.EJ h1 (AV.2 (.inl (hm c hc _ (.head _))))) (λb hb=>BM.2 ⟨_,hm c hc _ (.head _),hb⟩),λc hc=>Sd.jg (h1.holds _ (AV.2 (.inl (hm c hc _ (.tail _ (.head _)))))) (Sl.EJ h1 (AV.2 (.inl (hm c hc _ (.tail _ (.head _)))))) (λb hb=>BM.2 ⟨_,hm c hc _ (.tail _ (.head _)),hb⟩)⟩:CmD w _ cs)
  |tail _ hr=>exact h.holds r (.tail _ hr)
 ·intro r hr;cases hr with
  |head=>exact h.own (Go.Proofs.YtnkgiaimcpbhkaaGreat.Dk (cs.flatMap II)) (.head _)
  |tail _ hr=>exact h.own r (.tail _ hr)
def QE(l:List Nat):Prop := ∀x∈l,x<256
theorem jh t:QE (P7 t):=q9 _ _
theorem nL{i}(h:i.err=0):QE (encI i):=λx hx=>by
 obtain⟨hk,-⟩:=Ins.JJ h;unfold encI at hx;rcases AP.1 hx with rfl|hx
 ·omega
 ·split at hx
  ·exact Jj _ x hx
  ·cases hx
theorem Ow{α:Type}f:∀(l:List α),(∀x∈l,QE (f x))->QE (l.flatMap f):=λl h x hx=>by
 obtain⟨y,hy,hx⟩:=BM.1 hx;exact h y hy x hx
theorem OI{a b}(ha:QE a)(hb:QE b):QE (a++b):=λx hx=>(AV.1 hx).elim (ha x) (hb x)
theorem nM{m}(h:(Gx m).1=0):QE (P8 m):=by
 obtain⟨h1,h2,h3,h4,h5⟩:=ME h;unfold P8;refine OI (OI (OI (OI (show ∀x∈JH,x<256 by decide) (Jj _)) (Ow _ _ λt _=>jh t)) (Jj _)) (Ow _ _ λg hg=>?_);obtain⟨j,hj⟩:=List.mem_iff_getElem?.1 hg;exact OI (Ow _ _ λn _=>Jj n) (Ow _ _ λi hi=>nL ((h5 j g hj).2 i hi))
structure CsI where
 A:Option Addr
 n:Nat
 c:Nat
 cs:List OC
 i:Nat
def csV(i:CsI):Value:=ξ i.A i.n i.c
structure CsR(i:CsI):Prop where
 n:i.n<=18
 ok:∀c∈i.cs,mY c
theorem qg cs c:(cs++[c]).flatMap bI=cs.flatMap bI++[ε ζ c.k,ε ζ c.pl,ε ζ c.fu,ε υ (c.pk:Int),ξ c.DA c.dn c.dc,ξ c.BA c.bn c.bc]:=by simp[bI]
theorem St.AEE{M W w L cs}c(h:St M W (Xj c::Xk c::Go.Proofs.YtnkgiaimcpbhkaaGreat.Dk (cs.flatMap II)::L) w):St M W (Go.Proofs.YtnkgiaimcpbhkaaGreat.Dk ((cs++[c]).flatMap II)::L) w:=by
 have hp:(Go.Proofs.YtnkgiaimcpbhkaaGreat.Dk (cs.flatMap II)::Xj c::Xk c::L).Perm (Xj c::Xk c::Go.Proofs.YtnkgiaimcpbhkaaGreat.Dk (cs.flatMap II)::L):=(CG (l₁:=[Xj c,Xk c])).symm;have h1:=(h.perm hp).GV;have h2:(cs++[c]).flatMap II=cs.flatMap II++[Xj c,Xk c]:=by rw[ASS,List.flatMap_singleton];rfl
 rw[h2];exact St.Dk (R:=cs.flatMap II++[Xj c,Xk c]) (by rw[Bh];exact h1)
theorem YL b A n c l(fg:Nat)(hfg:fg<4294967296)W(hst:St [b] W [.blk b 122 (tape A n c 0)] W)(hE:Sl W W.heap.size 1 A n c (Ic l))(ha:0<n->TJ A [b])(hl:∀x∈l,x<65536)(hn:n<=340):
  Calls AGm 18 #[π (σ ⟨b,0,ν⟩),ε χ (fg:Int),ε ζ 18] W
  λen w' => ∃i:CsI,en=κ (csV i)/\CsR i/\St [b] W [.row (ξ i.A i.n i.c) 75 6 i.n (i.cs.flatMap bI),KQ (Dk (i.cs.flatMap II)).foot i.cs,.blk b 122 (tape A n c i.i)] w':=by
 unfold tape at hst;refine DL (M:=[b]) Tryz.func18 [.tmp 6]  hst ?_;have zs:=Bd.mk Jq;refine DZ ?_;refine DZ ?_;refine FB 75 6 (Eo (Dk (([]:List OC).flatMap II)::[.row (ξ ν 0 0) 75 6 0 [],.blk b 122 [ξ A n c,ε ζ 0]]) (λw hw=>St.Dk (R:=[]) hw) (DY [2,1,0] ?_));have q1:=EU (l:=l) (i:=0) (m:=3) AL;refine Cw λK BC=>C9 rfl λK BD=>DR ?_;refine Dj 0 (λw hw=>EC b A n c l 0 3 w (hw.hold 0 rfl) (hE.Gq hw ha) ha hl AL AL) rfl ?_;try refine DR ?_
 refine BD _ _ (DC [0,1,2,7,8] λG1 g1=>?_);replace g1:=EK g1;refine DK ?_;refine Dv (λF' L' => ∃(k i:Nat)(OA:Option Addr)(on oc:Nat)(cs:List OC),EH F' G1 [0,1,2]/\F' 7=ξ OA on oc/\F' 8=ε ζ (k:Int)/\L'=[.blk b 122 (tape A n c i),.row (ξ OA on oc) 75 6 on (cs.flatMap bI),Dk (cs.flatMap II)]/\k<=3/\on+k<=3/\i+60*k<=200/\(∀c∈cs,mY c)) (λF' L'=>(intOf (F' 8)).toNat) ?_ ?_
 ·refine⟨1+D7 l 0 3,1,ν,0,0,[],?_⟩;have zg:=Bd.mk g1;refine DU @Af ?_;exact⟨by simp,by omega,by omega,by omega,by simp⟩
 intro G2 L' hI;obtain⟨k,i,OA,on,oc,cs,zq,Pg,SG,rfl,⟨hk,hon,hi,hcs⟩⟩:=hI;have zg:=Bd.mk g1;have g2:=AO (Dy zq) (AO Pg SG);refine Cw λK BD=>?_;replace zg:=Bd.mk (AO g1 g2);refine Db ?_;refine Ec (λhc=>?_) λhc=>?_
 ·refine Cz ?_;try simp only[Di,Dq]
  have hk1:0<k:=by have:=AT0 hc;omega
  clear hc;refine BD _ _ (Cw λK BD=>DK (Db ?_));refine FB 125 1 (DY [1,2,3,0] ?_);refine Cw λK QF=>Db ?_;refine DK ?_;refine Dv (λF' L' => ∃(j i2:Nat)(MA:Option Addr)(mn mc:Nat)(ml:List Nat),EH F' G2 [0,1,2,7,8]/\F' 9=ξ MA mn mc/\F' 10=ε ζ (j:Int)/\L'=[.blk b 122 (tape A n c i2),.row (ξ OA on oc) 75 6 on (cs.flatMap bI),Dk (cs.flatMap II),.row (ξ MA mn mc) 125 1 mn (Ic ml)]/\j<=50/\mn=j/\i2<=i+j/\(∀x∈ml,x<65536)) (λF' L'=>200000-(intOf (F' 10)).toNat) ?_ ?_
  ·refine⟨0,i,ν,0,0,[],?_⟩;refine DD ?_;simp[Ic]
  intro G3 L' hI;obtain⟨j,i2,MA,mn,mc,ml,zq,lC,W9,rfl,⟨hj,hmn,hi2,kE⟩⟩:=hI;have g3:=AO (Dy zq) (AO lC W9);refine Cw λK QO=>?_;replace zg:=Bd.mk (AO g1 (AO g2 g3));refine Db ?_;refine Ec (λhc=>?_) λhc=>?_
  ·refine Cz ?_;try simp only[Di,Dq]
   have AMh:j<50:=by have:=AT0 hc;omega
   refine QO _ _ ?_;have q2:=EU (l:=l) (i:=i2) (m:=65536) AL;have e2:IntKind.u16.wrap ((D7 l i2 65536:Nat):Int)=((D7 l i2 65536:Nat):Int):=by rw[IntKind.wrap_u16];omega
   refine Cw λK QO=>DK (DJ rfl (DD ?_));refine Dj 0 (λw hw=>EC b A n c l i2 65536 w (hw.hold 0 rfl) (hE.Gq hw ha) ha hl AL AL) rfl ?_;try refine DU e2 ?_
   intro bE Qi Tg;refine D6 4 ADI rfl (λw hw=>D_ (size:=1) (DN (k:=0) rfl) rfl hw) rfl AL AL ?_;intro A4 c4 hl4 hr4;refine DD (QO _ _ ?_);refine DY [2,3,4,0] ?_;refine Cy rfl (DD ?_);refine⟨⟨j+1,i2+1,A4,mn+1,c4,ml++[D7 l i2 65536],?_⟩,?_⟩
   ·refine DU @Af ?_;refine⟨by simp[Ic],by omega,hmn,by omega,λx hx=>?_⟩;rcases AV.1 hx with hx|hx
    ·exact kE x hx
    ·rw[BH.1 hx];omega
   ·exact AXo
  refine Dr (QF _ _ ?_);have AMh:j=50:=by have:=AUD hc;omega
  have hk0:0<k:=by omega
  refine DC [0,1,2,7,8,9] λG4 g4=>?_;replace g4:=Dy g4;refine F8 3 rfl λAMi=>?_;have AQ7:=VI AMi;refine DJ rfl ?_;replace zg:=Bd.mk (AO g1 (AO g2 (AO g3 g4)));refine DD ?_;refine OY (λw hw=>kN MA mn mc ml 50 w (hw.La 3 rfl) AL) ?_;intro b32 A2 n2 c2 hl2 AQ8 AMj hr2;simp -implicitDefEqProofs (disch:=first|omega|decide) only [seval,-Int.reducePow,-Nat.reducePow,cC,pv,D5,EH,undef,Jq,g1,g2,g3,g4]at AMj;refine DD ?_;refine Ue 1 (λp:Ei×Nat=>Ie p.1) (λp w w'=>LH w' (Nw w w') p.1/\Good p.1) (λp=>tape A2 n2 c2 p.2) rfl (λw hw=>jL fg hfg b32 A2 n2 c2 (ml.take 50) 0 9 w (hw.hold 1 rfl) (hw.La 0 rfl) (λ_=>hr2.apt) (λx hx=>kE x (BU hx)) AL AL) ?_;rintro⟨k1,jj⟩ w0 w1 f1 hw0 hw1 ⟨hk1,hg⟩ hNw;dsimp only at *;have hkD:LH w1 (Dm [b] W f1) k1:=hk1.mono λy hy=>.inl (hNw y hy);have AC9:(Gx k1).1=0:=by rw[hg.Ho];rfl
  have hbb:∀x∈P8 k1,x<256:=nM AC9;obtain⟨he1,he2⟩:=hg.err;refine DD ?_;refine D9 (λA n c=>ξ A n c) (λw hw=>(by have:=ja k1 w (hkD.at hw 0 rfl);rw[he2]at this;exact this)) ?_;intro A4 n4 c4 hl4 hr4;refine DD ?_;intro bE Qi Tg;refine D6 6 ADJ rfl (λw hw=>D_ (size:=6) (DN (k:=0) rfl) rfl hw) rfl AL AL ?_;intro A5 c5 hl5 iQ;refine DD (BD _ _ ?_);refine DY [2,7,6,0] ?_;refine FB 29 1 ?_;have hfl:c4=c4:=rfl;refine Eo [Dk ((cs++[(⟨1,0,0,0,ν,0,0,[],A4,n4,c4,P8 k1⟩:OC)]).flatMap II),.blk b 122 (tape A n c i2),.row (ξ A5 (on+1) c5) 75 6 (on+1) ((cs++[(⟨1,0,0,0,ν,0,0,[],A4,n4,c4,P8 k1⟩:OC)]).flatMap bI)] (λw hw=>by rw[qg];exact St.AEE (⟨1,0,0,0,ν,0,0,[],A4,n4,c4,P8 k1⟩:OC) hw) ?_;refine DY [1,2,0] ?_;refine Cy rfl (DD ?_);refine⟨⟨k-1,i2,A5,on+1,c5,cs++[⟨1,0,0,0,ν,0,0,[],A4,n4,c4,P8 k1⟩],?_⟩,?_⟩
  ·refine DD ?_;refine⟨AT4 (Value.int ζ) AL,by omega,by omega,by omega,λc hc=>?_⟩;rcases AV.1 hc with hc|hc
   ·exact hcs c hc
   ·rw[BH.1 hc];exact⟨(by show (0:Nat)<_;decide),λy hy=>(by cases hy),hbb,(by show (0:Int)<=0/\(0:Int)<=400;decide),(by show (0:Nat)<=100;decide)⟩
  ·exact AXo
 refine Dr (BC _ _ (DC [0,2,7] λG5 g5=>?_));replace g5:=Dy g5;refine Cw λK BC=>DK ?_;refine Dv (λF' L' => ∃(i:Nat)(OA:Option Addr)(on oc:Nat)(cs:List OC),EH F' G5 [0,2]/\F' 7=ξ OA on oc/\L'=[.blk b 122 (tape A n c i),.row (ξ OA on oc) 75 6 on (cs.flatMap bI),Dk (cs.flatMap II)]/\on<=18/\i<=300+10*on/\(∀c∈cs,mY c)) (λF' L'=>2000-(match F' 7 with | .slice _ n _=>n|_=>0)) ?_ ?_
 ·refine⟨i,OA,on,oc,cs,?_⟩;replace zg:=Bd.mk (AO g1 (AO g2 g5));refine DD ?_;exact⟨by omega,by omega,hcs⟩
 intro G6 L' hI;obtain⟨i,OA,on,oc,cs,zq,Pg,rfl,⟨hon,hi,hcs⟩⟩:=hI;replace zg:=Bd.mk g5;have g6:=AO (Dy zq) Pg;refine Cw λK BD=>Cw λK QF=>?_;refine Df (λ_ _=>True) (λF' L' => ∃(r:Bool),EH F' G6 [0,2,7]/\F' 46=θ r/\L'=[.blk b 122 (tape A n c i),.row (ξ OA on oc) 75 6 on (cs.flatMap bI),Dk (cs.flatMap II)]/\(r=τ->on<18)) ?_ ?_
 ·refine Cy rfl ?_;replace zg:=Bd.mk (AO g1 (AO g2 (AO g5 g6)));refine DD ?_;refine Ee (λr:Bool=>θ r) (λ_=>True) (λw hw=>jJ b A n c i w (hw.hold 0 rfl)) ?_;intro r _;cases r with
  | false =>
   refine DD ?_;exact⟨ο,rfl,λh=>by cases h⟩
  | true =>
   refine DD ?_;exact⟨decide ((on:Int)<18),rfl,λh=>by have:=AT0 h;omega⟩
 intro G7 L' _ hF;obtain⟨r,zq,AEf,rfl,hr⟩:=hF;replace zg:=Bd.mk g6;have g7:=AO (Dy zq) AEf;refine QF _ _ (C_ ?_);cases r with
 | false =>
  replace zg:=Bd.mk (AO g1 (AO g2 (AO g5 (AO g6 g7))));refine DD ?_;refine Dr (BC _ _ (DY [2,1,0] ?_));refine Eo [KQ (Dk (cs.flatMap II)).foot cs,.row (ξ OA on oc) 75 6 on (cs.flatMap bI),.blk b 122 (tape A n c i)] (λw hw=>hw.AGC) (DY [1,0,2] ?_);refine Db ?_;refine C8 (EP λw hw=>?_);exact⟨⟨OA,on,oc,cs,i⟩,rfl,⟨hon,hcs⟩,hw⟩
 |true =>
 have AN7:=hr rfl;replace zg:=Bd.mk (AO g1 (AO g2 (AO g5 (AO g6 g7))));refine DD ?_;refine Cz (BD _ _ (DK ?_));have p5:=EU (l:=l) (i:=i) (m:=5) AL;have e5:IntKind.u64.wrap ((D7 l i 5:Nat):Int)=((D7 l i 5:Nat):Int):=by rw[IntKind.wrap_u64];omega
 have p70:=EU (l:=l) (i:=i+1) (m:=70) AL;refine C9 rfl λK BD=>DD ?_;refine Dj 0 (λw hw=>EC b A n c l i 5 w (hw.hold 0 rfl) (hE.Gq hw ha) ha hl AL AL) rfl ?_;try refine DU e5 ?_
 refine Dj 0 (λw hw=>EC b A n c l (i+1) 70 w (hw.hold 0 rfl) (hE.Gq hw ha) ha hl AL AL) rfl ?_;try refine DD ?_
 intro b11 yu AHV;refine BD _ _ ?_;generalize D7 l i 5=pk at *;generalize D7 l (i+1) 70=fu at *;have p3:=EU (l:=l) (i:=i+1+1) (m:=3) AL;refine Cw λK BD=>C9 rfl λK QF=>DD ?_;refine Dj 1 (λw hw=>EC b A n c l (i+1+1) 3 w (hw.hold 1 rfl) (hE.Gq hw ha) ha hl AL AL) rfl ?_;try refine DD ?_
 refine QF _ _ (DC [0,2,7,11,12] λG8 g8=>?_);replace g8:=Dy g8;refine DK (FB 29 1 (DY [1,0,2,3,4] ?_));refine Dv (λF' L' => ∃(kk i3:Nat)(DA:Option Addr)(dn dc:Nat)(ds:List Nat),EH F' G8 [0,2,7,11]/\F' 12=ε ζ (kk:Int)/\L'=[.blk b11 75 [ε ζ 2,ε ζ 0,ε ζ (fu:Int),ε υ (pk:Int),ξ DA dn dc,ξ ν 0 0],.row (ξ DA dn dc) 29 1 dn (FU ds),.blk b 122 (tape A n c i3),.row (ξ OA on oc) 75 6 on (cs.flatMap bI),Dk (cs.flatMap II)]/\kk<=2/\dn+kk<=2/\i3+kk<=i+5/\(∀y∈ds,y<18446744073709551616)) (λF' L'=>(intOf (F' 12)).toNat) ?_ ?_
 ·refine⟨D7 l (i+1+1) 3,i+1+1+1,ν,0,0,[],?_⟩;replace zg:=Bd.mk (AO g1 (AO g2 (AO g5 (AO g6 g8))));refine DD ?_;exact⟨by simp[FU],by omega,by omega,by omega,by simp⟩
 intro G9 L' hI;obtain⟨kk,i3,DA,dn,dc,ds,zq,Wz,rfl,⟨hkk,hdn,hi3,hds⟩⟩:=hI;replace zg:=Bd.mk g8;have g9:=AO (Dy zq) Wz;refine Cw λK QF=>?_;replace zg:=Bd.mk (AO g1 (AO g2 (AO g5 (AO g6 (AO g8 g9)))));refine Db ?_;refine Ec (λhc=>?_) λhc=>?_
 ·refine Cz ?_;try simp only[Di,Dq]
  have AQ9:0<kk:=by have:=AT0 hc;omega
  clear hc;refine QF _ _ ?_;have p6:=EU (l:=l) (i:=i3) (m:=65536) AL;have e6:IntKind.u64.wrap ((D7 l i3 65536:Nat):Int)=((D7 l i3 65536:Nat):Int):=by rw[IntKind.wrap_u64];omega
  refine Cw λK QF=>DK (K3 (FD [0] [(τ,0),(τ,1),(τ,2),(ο,3),(τ,4),(ο,5),(ο,6),(τ,7),(ο,8)] [8] ?_));refine DD ?_;refine Dj 2 (λw hw=>EC b A n c l i3 65536 w (hw.hold 2 rfl) (hE.Gq hw ha) ha hl AL AL) rfl ?_;try refine DU e6 ?_
  intro bE Qi Tg;refine D6 2 Ng rfl (λw hw=>D_ (size:=1) (DN (k:=0) rfl) rfl hw) rfl AL AL ?_;intro A4 c4 hl4 hr4;refine DU (AO @AP.{0} (AO true_or (AO or_true (AO and_true eq_self)))) (QF _ _ ?_);refine DY [2,0,3,4,5] ?_;refine Cy rfl (DD ?_);refine⟨⟨kk-1,i3+1,A4,dn+1,c4,ds++[D7 l i3 65536],?_⟩,?_⟩
  ·refine⟨AT4 (Value.int ζ) AL,by simp[FU],by omega,by omega,by omega,λy hy=>?_⟩;rcases AV.1 hy with hy|hy
   ·exact hds y hy
   ·rw[BH.1 hy];omega
  ·exact AXo
 refine Dr (BD _ _ (DC [0,2,7,11] λXo g10=>?_));replace g10:=Dy g10;refine Cw λK BD=>?_;refine Df (λ_ _=>True) (λF' L' => ∃(k2 pl2 fu2:Int)(pk2:Nat)(DA2:Option Addr)(dn2 dc2:Nat)(ds2:List Nat)(i4:Nat),EH F' Xo [0,2,7,11]/\L'=[.blk b11 75 [ε ζ k2,ε ζ pl2,ε ζ fu2,ε υ (pk2:Int),ξ DA2 dn2 dc2,ξ ν 0 0],.row (ξ DA2 dn2 dc2) 29 1 dn2 (FU ds2),.blk b 122 (tape A n c i4),.row (ξ OA on oc) 75 6 on (cs.flatMap bI),Dk (cs.flatMap II)]/\(0<=fu2/\fu2<=400)/\pk2<18446744073709551616/\dn2<=100/\i4<=i+8/\(∀y∈ds2,y<18446744073709551616)) ?_ ?_
 ·have p16:=EU (l:=l) (i:=i3) (m:=16) AL;have p4:=EU (l:=l) (i:=i3+1) (m:=4) AL;have AQ_:=EU (l:=l) (i:=i3+1) (m:=400) AL;refine C9 rfl λK QF=>?_;replace zg:=Bd.mk (AO g1 (AO g2 (AO g5 (AO g6 (AO g8 (AO g9 g10))))));refine DD ?_;refine Dj 2 (λw hw=>EC b A n c l i3 16 w (hw.hold 2 rfl) (hE.Gq hw ha) ha hl AL AL) rfl ?_;try refine DD ?_
  refine QF _ _ ?_;generalize D7 l i3 16=sw at *;refine DC [0,2,7,11,68] λbQ g11=>?_;replace g11:=Dy g11;refine DK ?_;replace zg:=Bd.mk (AO g1 (AO g2 (AO g5 (AO g6 (AO g8 (AO g9 (AO g10 g11)))))));refine Db ?_;refine C_ ?_;by_cases h0:sw=0
  ·have d0:decide ((sw:Int)=0)=τ:=AUB AL;refine DU d0 ?_;refine DY [0,2,3,4] ?_;refine FB 29 1 (DY [1,0,2,3,4] ?_);refine DJ rfl (DD ?_);refine Dj 2 (λw hw=>EC b A n c l (i3+1) 4 w (hw.hold 2 rfl) (hE.Gq hw ha) ha hl AL AL) rfl ?_;try refine DD ?_
   exact⟨3,((D7 l (i3+1) 4:Nat):Int),0,0,ν,0,0,[],i3+1+1,by simp[FU],⟨by decide,by decide⟩,by decide,by decide,by omega,λy hy=>by cases hy⟩
  have d0:decide ((sw:Int)=0)=ο:=AUC AL;refine DU d0 ?_;refine Db ?_;refine C_ ?_;by_cases h1:sw=1
  ·have d1:decide ((sw:Int)=1)=τ:=AUB AL;refine DU d1 ?_;refine DY [0,2,3,4] ?_;refine FB 29 1 (DY [1,0,2,3,4] ?_);refine DJ rfl (DD ?_);refine Dj 2 (λw hw=>EC b A n c l (i3+1) 4 w (hw.hold 2 rfl) (hE.Gq hw ha) ha hl AL AL) rfl ?_;try refine DD ?_
   exact⟨4,((D7 l (i3+1) 4:Nat):Int),0,0,ν,0,0,[],i3+1+1,by simp[FU],⟨by decide,by decide⟩,by decide,by decide,by omega,λy hy=>by cases hy⟩
  have d1:decide ((sw:Int)=1)=ο:=AUC AL;refine DU d1 ?_;refine Db ?_;refine C_ ?_;by_cases h2:sw=2
  ·have d2:decide ((sw:Int)=2)=τ:=AUB AL;refine DU d2 ?_;refine DJ rfl (DD ?_);refine Dj 2 (λw hw=>EC b A n c l (i3+1) 400 w (hw.hold 2 rfl) (hE.Gq hw ha) ha hl AL AL) rfl ?_;try refine DD ?_
   exact⟨2,0,_,pk,DA,dn,dc,ds,i3+1+1,rfl,⟨by omega,by omega⟩,by omega,by omega,by omega,hds⟩
  have d2:decide ((sw:Int)=2)=ο:=AUC AL;refine DU d2 ?_;refine Cz ?_;try simp only[Di,Dq]
  refine DD ?_;exact⟨2,0,_,pk,DA,dn,dc,ds,i3+1,rfl,⟨by omega,by omega⟩,by omega,by omega,by omega,hds⟩
 intro vM L' _ hF;obtain⟨k2,pl2,fu2,pk2,DA2,dn2,dc2,ds2,i4,zq,rfl,⟨hfu2,AMk,AMl,hi4,AMm⟩⟩:=hF;replace zg:=Bd.mk g10;have g12:=Dy zq;refine BD _ _ (FB 5 1 (DY [2,0,5,1,3,4] ?_));refine Eo [Dk ((cs++[(⟨k2,pl2,fu2,pk2,DA2,dn2,dc2,ds2,ν,0,0,[]⟩:OC)]).flatMap II),.blk b11 75 [ε ζ k2,ε ζ pl2,ε ζ fu2,ε υ (pk2:Int),ξ DA2 dn2 dc2,ξ ν 0 0],.blk b 122 (tape A n c i4),.row (ξ OA on oc) 75 6 on (cs.flatMap bI)] (λw hw=>St.AEE (⟨k2,pl2,fu2,pk2,DA2,dn2,dc2,ds2,ν,0,0,[]⟩:OC) hw) (DY [1,2,3,0] ?_);refine ED [3,0,4] AJ (DJ rfl ?_);replace zg:=Bd.mk (AO g1 (AO g2 (AO g5 (AO g6 (AO g8 (AO g9 g12))))));refine DD ?_;intro bE Qi Tg;refine D6 3 ADJ rfl (λw hw=>D_ (size:=6) (DN (k:=0) rfl) rfl hw) rfl AL AL ?_;intro A5 c5 hl5 iQ;refine DD ?_;refine⟨⟨i4,A5,on+1,c5,cs++[(⟨k2,pl2,fu2,pk2,DA2,dn2,dc2,ds2,ν,0,0,[]⟩:OC)],?_⟩,?_⟩
 ·refine DD ?_;refine⟨by rw[qg],by omega,by omega,λc hc=>?_⟩;rcases AV.1 hc with hc|hc
  ·exact hcs c hc
  ·rw[BH.1 hc];exact⟨AMk,AMm,λy hy=>(by cases hy),hfu2,AMl⟩
 ·omega
theorem AFH{o}(hn:(keys o.cs).Nodup):((JC o.cs).map (bwO o)).Pairwise λa b=>a.ho<b.ho:=by
 rw[AG2];have h1:=Pf hn;unfold Srt keys at h1;rw[AG2]at h1;exact h1
theorem filter_one{l:List Bw}(h:l.Pairwise λa b=>a.ho<b.ho)p:(l.filter λb=>decide (b.ho=p)).length=if (l.any λb=>decide (b.ho=p))=τ then 1 else 0:=by
 have h1:=h.sublist (AGp (p:=λb=>decide (b.ho=p)));cases hf:l.filter (λb=>decide (b.ho=p))with
 | nil =>
  have:¬(l.any λb=>decide (b.ho=p))=τ:=λha=>by
   obtain⟨b,hb,hb2⟩:=AHh.1 ha;have:b∈l.filter (λb=>decide (b.ho=p)):=Bl.2 ⟨hb,hb2⟩;rw[hf]at this;cases this
  rw[ATt this];rfl
 | cons a t =>
  have ha:=Bl.1 (show a∈l.filter (λb=>decide (b.ho=p)) by rw[hf];exact .head _);have:(l.any λb=>decide (b.ho=p))=τ:=AHh.2 ⟨a,ha⟩;rw[ATv this];cases t with
  |nil=>rfl
  | cons b t =>
   have hb:=Bl.1 (show b∈l.filter (λb=>decide (b.ho=p)) by rw[hf];exact .tail _ (.head _));rw[hf]at h1;have hab:=(Ak.1 h1).1 b (.head _);have e1:a.ho=p:=by simpa using ha.2
   have e2:b.ho=p:=by simpa using hb.2
   omega
theorem ADo(p:Int):∀l:List RP,(∀r∈l,r.bs.Pairwise λa b=>a.ho<b.ho)->IX (l.flatMap RP.bs) p=ABB l p
 |[],_=>rfl
 | r::l,h=>by
  have ih:=ADo p l λr hr=>h r (.tail _ hr);have h1:=filter_one (h r (.head _)) p;unfold IX at ih ⊢;unfold ABB at ih ⊢;rw[BK,ASJ,Ag,ih,h1,Cv];have e:ABs p r=r.bs.any λb=>decide (b.ho=p):=rfl;rw[<-e];by_cases hh:ABs p r=τ
  ·rw[ATv hh,ATv hh,Av];omega
  ·rw[ATt hh,ATt hh];omega
theorem RelB.held{k s x}(h:RelB k s x)(hI:Nr k s)p:IX x.E p=ABB (ABl s) p:=by
 have U7:∀q∈JC s.os,Zt k q:=λq hq=>hI.obj q ((sH hI.nd).mem_iff.1 hq);have hE:x.E=(ABl s).flatMap RP.bs:=by
  refine ABk (R:=λa b=>ltB a b=τ) AEZ h.eS ?_ λb=>?_
  ·unfold ABl;rw[List.flatMap_map,List.pairwise_flatMap];refine⟨λq hq=>AIB ?_ (List.Pairwise.and (AFH (U7 q hq).nd) (show ((JC q.2.cs).map (bwO q.2)).Pairwise λa b=>a.ob=b.ob from by rw[AG2];exact List.pairwise_of_forall λ_ _=>rfl)),?_⟩
   ·intro a b hab;exact AA9.2 (.inr ⟨hab.2,hab.1⟩)
   ·have h1:=Pf hI.nd;unfold Srt keys at h1;rw[AG2]at h1;refine h1.imp_of_mem fun {a b} ha hb hab x hx y hy=>?_;obtain⟨c,-,rfl⟩:=BL.1 hx;obtain⟨d,-,rfl⟩:=BL.1 hy;have h2:=(U7 a ha).slot;have h3:=(U7 b hb).slot;refine AA9.2 (.inl ?_);unfold bwO;simp only;omega
  ·rw[h.eM b,BM];constructor
   ·rintro⟨o,g1,g2,g3⟩;have hq:=(AA0 hI.nd (q:=(b.ob,o))).2 g1;refine⟨ry o,BL.2 ⟨(b.ob,o),hq,rfl⟩,BL.2 ⟨(b.ho,b.co),(AA0 (U7 _ hq).nd).2 g2,?_⟩⟩;have h2:=(U7 _ hq).slot;simp only at h2;unfold bwO;rw[<-h2];simp only[<-g3]
   ·rintro⟨r,hr,hb⟩;obtain⟨q,hq,rfl⟩:=BL.1 hr;obtain⟨c,hc,rfl⟩:=BL.1 hb;have h2:=(U7 q hq).slot;refine⟨q.2,?_,(AA0 (U7 q hq).nd).1 hc,rfl⟩;unfold bwO;simp only;rw[<-h2];exact(AA0 hI.nd).1 hq
 rw[hE];refine ADo p _ λr hr=>?_;obtain⟨q,hq,rfl⟩:=BL.1 hr;exact AFH (U7 q hq).nd
def ah(f:Nat->Int):Nat->Int
 |0=>0
 |n+1=>ah f n+f n
theorem AFI{f g n}(h:∀t,t<n->f t=g t):ah f n=ah g n:=by
 induction n with
 |zero=>rfl
 |succ n ih=>simp only[ah];rw[ih λt ht=>h t AL,h n AL]
theorem AA8{f g n s}(h:∀t,t≠s->f t=g t)(hs:s<n):ah f n=ah g n-g s+f s:=by
 induction n with
 |zero=>omega
 | succ n ih =>
  simp only[ah];by_cases e:s=n
  ·subst e;rw[AFI (g:=g) λt ht=>h t AL];omega
  ·rw[ih AL,h n (λe'=>e e'.symm)];omega
theorem ADO{f n}(h:∀t,0<=f t):0<=ah f n:=by
 induction n with
 |zero=>exact B_ 0
 |succ n ih=>simp only[ah];have:=h n;omega
theorem ABN{f n s}(h:∀t,0<=f t)(hs:s<n):f s<=ah f n:=by
 induction n with
 |zero=>omega
 | succ n ih =>
  simp only[ah];by_cases e:s=n
  ·subst e;have:=ADO (n:=s) h;omega
  ·have:=ih AL;have:=h n;omega
theorem ADp l p q a:HZ (Wd l p q) a=if a=p then q else HZ l a:=by
 unfold HZ Wd;rw[AS8];by_cases h:a=p
 ·subst h;rw[ATv rfl];have h1:(l.filter λs => !Yy a s).find? (Yy a)=ν:=by
   rw[ATo];intro s hs;have:=(Bl.1 hs).2;simpa using this
  rw[h1];simp[Yy]
 ·rw[ATt h];have h1:(l.filter λs => !Yy p s).find? (Yy a)=l.find? (Yy a):=by
   rw[List.find?_filter];congr 1;funext s;unfold Yy;by_cases hs:s.p=a
   ·have:¬s.p=p:=λe=>h (hs.symm.trans e);simp[hs,h]
   ·simp[hs]
  have h2:([⟨p,q⟩]:List Sh).find? (Yy a)=ν:=by
   rw[ATo];intro s hs;rw[BH.1 hs];unfold Yy;simpa using λe=>h e.symm
  rw[h1,h2,Option.or_none]
theorem ADQ{lim l p q r l'}(h:(r,l')=Mt lim l p q)(h0:r=0)a:HZ l' a=if a=p then AE1 (HZ l p) q else HZ l a:=by
 unfold Mt at h;split at h
 ·have:=AT4 AH0 h;dsimp only at this;omega
 ·have h1:l'=_:=AT4 Prod.snd h;rw[h1];exact ADp _ _ _ _
theorem ABE{l p q}(h:Uk (HZ l p) q=ο)a:HZ (KI l p q).2 a=if a=p then AE2 (HZ l p) q else HZ l a:=by
 unfold KI;rw[h];exact ADp _ _ _ _
theorem ABF{x q}(h1:q.qb<=x.qb)(h2:q.qo<=x.qo)(h3:q.qr<=x.qr):Uk x q=ο:=by
 unfold Uk;simp only[ASe,AUA];omega
theorem XA b l p:(IX (b::l) p:Int)=(if b.ho=p then 1 else 0)+IX l p:=by
 unfold IX;rw[Cv];by_cases h:b.ho=p
 ·simp only[h,AUb,ATx,Av];omega
 ·simp only[h,AUc,Be,ATz];omega
theorem ADF a b p:IX (a++b) p=IX a p+IX b p:=by
 unfold IX;rw[ASJ,Ag]
theorem ABA l f p:IX l p=IX (l.filter f) p+IX (l.filter λb => !f b) p:=by
 induction l with
 |nil=>rfl
 | cons b l ih =>
  have h1:=XA b l p;rw[Cv,Cv];cases hf:f b with
  | true =>
   have h2:=XA b (l.filter f) p;simp only[ATQ,Be,ATx,ATz];omega
  | false =>
   have h2:=XA b (l.filter λb => !f b) p;simp only[AHs,Be,ATx,ATz];omega
theorem ABt:∀(bs:List Bw) (l:List Sh),(∀p,(IX bs p:Int)<=(HZ l p).qr/\0<=(HZ l p).qb/\0<=(HZ l p).qo)→∀a,HZ (Je l bs) a=⟨(HZ l a).qb,(HZ l a).qo,(HZ l a).qr-IX bs a⟩
 | [],l,_,a=>by
  show HZ l a=_;have:(IX [] a:Int)=0:=rfl;rw[this,AHA]
 | b::bs,l,h,a=>by
  have h1:=h b.ho;have h2:=XA b bs b.ho;rw[ATv rfl]at h2;have hl:Uk (HZ l b.ho) Q1=ο:=ABF h1.2.1 h1.2.2 (by show (1:Int)<=_;omega);have hg:=ABE hl;have ih:=ABt bs (KI l b.ho Q1).2 (λp=>by
   rw[hg p];have h3:=h p;have h4:=XA b bs p;by_cases hp:p=b.ho
   ·rw[ATv hp];subst hp;show _<=(HZ l b.ho).qr-1/\0<=(HZ l b.ho).qb-0/\0<=(HZ l b.ho).qo-0;rw[ATv rfl]at h4;omega
   ·rw[ATt hp];rw[ATt (λe=>hp e.symm)]at h4;omega) a
  show HZ (Je (KI l b.ho Q1).2 bs) a=_;rw[ih,hg a];have h4:=XA b bs a;by_cases hp:a=b.ho
  ·rw[ATv hp];subst hp;rw[ATv rfl]at h4;unfold AE2;show Qu.mk ((HZ l b.ho).qb-0) ((HZ l b.ho).qo-0) ((HZ l b.ho).qr-1-_)=_;rw[Qu.mk.injEq];omega
  ·rw[ATt hp];rw[ATt (λe=>hp e.symm)]at h4;rw[Qu.mk.injEq];exact⟨rfl,rfl,by omega⟩
def BG(x:Ir)(p:Int)(s:Nat):Int:=if Ej x.s s=τ/\(ET x s).ow=p then 1 else 0
def Cu(x:Ir)(p:Int)(s:Nat):Int:=if Ej x.s s=τ/\(ET x s).ow=p then (ET x s).len else 0
def usQ(x:Dc)(p:Int):Qu:=⟨ah (Cu x.tb p) x.tb.en,ah (BG x.tb p) x.tb.en,(IX x.l p:Int)⟩
def MtR(x:Dc):Prop := ∀p,HZ x.mt p=usQ x p
theorem ADV x p s:0<=BG x p s:=by unfold BG;split<;>decide
theorem ADW{x}(h:TbE x)p s:0<=Cu x p s:=by
 unfold Cu;have:=h.len s;split
 ·exact this.1
 ·exact B_ 0
theorem ADX{x}(h:TbE x.tb)p:0<=(usQ x p).qb/\0<=(usQ x p).qo/\0<=(usQ x p).qr:=⟨ADO (ADW h p),ADO (ADV _ p),AH_ _⟩
theorem uA.mtr{x y e l m u t s}(h:uA x y e l m u t)(hm:MtR x)(hE:TbE x.tb)(hs:s<x.tb.en)(hl:Ej x.tb.s s=τ)(hsl:De e.h=s)(MZ:e=ET x.tb s)(he:GU x.tb e.h=0):
  MtR y/\y.tb.E=x.tb.E/\y.tb.en=x.tb.en/\(∀j,Ej y.tb.s j=(Ej x.tb.s j && !decide (s=j)))/\y.l=(x.l.filter λb => !decide (b.ob=(s:Int)))/\y.es=x.es/\y.sv=x.sv∧∀j,Gt y.tb.s j=Gt x.tb.s j:=by
 have hk:=h.keep he;have hfl:=h.fl;have hfm:=h.fm;have AFK:∀j,Ej y.tb.s j=(Ej x.tb.s j && !decide (s=j)):=λj=>by
  by_cases hj:j=s
  ·subst hj;have hr:=h.ft.r;rw[ATv he]at hr;have h6:y.tb=t:=by rw[h.fy];simp only[Dc.Mg,Dc.Kh,Dc.Mf,Dc.E_,Dc.Hg]
   rw[h6];unfold Ej;rw[hr.2.2.1,iT,hsl];simp only[AUb,ATQ,ASU];split
   ·rfl
   ·rename_i hn;have:x.tb.s.Fh[j]?=ν:=List.getElem?_eq_none (by
     by_cases hlt:j<x.tb.s.Fh.length
     ·exact absurd ⟨trivial,hlt⟩ hn
     ·omega)
    rw[this];rfl
  ·rw[h.AKY he j (by rw[hsl];exact hj),AUC (λe=>hj e.symm),AHs,AHj]
 have hyl:y.l=x.l.filter λb => !decide (b.ob=(s:Int)):=by
  rw[hsl]at hfl;rw[h.fy];exact hfl
 refine⟨λa=>?_,hk.E,hk.en,AFK,hyl,hk.es,hk.sv,λj=>by unfold Gt;rw[hk.gen]⟩;have hym:y.mt=m.l:=by rw[h.fy];simp only[Dc.Mg,Dc.Kh,Dc.Mf,Dc.E_,Dc.Hg]
 rw[hym,hfm,hsl];have hsp:∀p,(IX x.l p:Int)=IX (NT x.l s) p+IX y.l p:=λp=>by
  rw[hyl];have:=ABA x.l (λb=>decide (b.ob=(s:Int))) p;unfold NT;omega
 have hA:=ABt (NT x.l s) x.mt (λp=>by
  rw[hm p];have h1:=ADX hE p;refine⟨?_,h1.1,h1.2.1⟩;show _<=(IX x.l p:Int);have:=hsp p;omega)
 have hlf:Cu x.tb e.ow s=e.len:=by unfold Cu;rw[MZ,ATv ⟨hl,rfl⟩]
 have hof:BG x.tb e.ow s=1:=by unfold BG;rw[MZ,ATv ⟨hl,rfl⟩]
 have hless:Uk (HZ (Je x.mt (NT x.l s)) e.ow) (Tw e)=ο:=by
  rw[hA,hm];refine ABF ?_ ?_ ?_
  ·have:=ABN (ADW hE e.ow) hs;show e.len<=ah (Cu x.tb e.ow) x.tb.en;omega
  ·have:=ABN (ADV x.tb e.ow) hs;show (1:Int)<=ah (BG x.tb e.ow) x.tb.en;omega
  ·show (0:Int)<=(IX x.l e.ow:Int)-_;have:=hsp e.ow;omega
 rw[ABE hless a,hA a,hA e.ow,hm a,hm e.ow];have hen:∀j,ET y.tb j=ET x.tb j:=λj=>Ty hk.E j;have hL:ah (Cu y.tb a) y.tb.en=ah (Cu x.tb a) x.tb.en-Cu x.tb a s:=by
  rw[hk.en];have h1:=AA8 (f:=Cu y.tb a) (g:=Cu x.tb a) (n:=x.tb.en) (s:=s) (λj hj=>by
   unfold Cu;rw[hen,AFK,AUC (λe=>hj e.symm),AHs,AHj]) hs
  have h2:Cu y.tb a s=0:=by unfold Cu;rw[AFK,AUB rfl];simp
  omega
 have hO:ah (BG y.tb a) y.tb.en=ah (BG x.tb a) x.tb.en-BG x.tb a s:=by
  rw[hk.en];have h1:=AA8 (f:=BG y.tb a) (g:=BG x.tb a) (n:=x.tb.en) (s:=s) (λj hj=>by
   unfold BG;rw[hen,AFK,AUC (λe=>hj e.symm),AHs,AHj]) hs
  have h2:BG y.tb a s=0:=by unfold BG;rw[AFK,AUB rfl];simp
  omega
 unfold usQ;rw[hL,hO];have hsa:=hsp a;by_cases ha:a=e.ow
 ·rw[ATv ha];subst ha;rw[hlf,hof];show Qu.mk (_-e.len) (_-1) (((IX x.l e.ow:Int)-_)-0)=_;rw[Qu.mk.injEq];exact⟨rfl,rfl,by omega⟩
 ·rw[ATt ha];have h1:Cu x.tb a s=0:=by unfold Cu;rw[ATt (λhn=>ha (by rw[MZ];exact hn.2.symm))]
  have h2:BG x.tb a s=0:=by unfold BG;rw[ATt (λhn=>ha (by rw[MZ];exact hn.2.symm))]
  rw[h1,h2];rw[Qu.mk.injEq];dsimp only;exact⟨by omega,by omega,by omega⟩
structure AGf(x y:Dc)(es:List En):Prop where
 m:MtR y
 E:y.tb.E=x.tb.E
 en:y.tb.en=x.tb.en
 lv:∀j,Ej y.tb.s j=(Ej x.tb.s j && !(es.any λe=>decide (De e.h=j)))
 l:y.l=x.l.filter λb => !(es.any λe=>decide (b.ob=(De e.h:Int)))
 es:y.es=x.es
 sv:y.sv=x.sv
 gn:∀j,Gt y.tb.s j=Gt x.tb.s j
theorem Px.kp{x y es}(h:Px x y es)(hm:MtR x)(hE:TbE x.tb)(hes:∀e∈es,e=ET x.tb (De e.h)):AGf x y es:=by
 induction h with
 |nil=>exact⟨hm,rfl,rfl,λj=>by simp,(ASj.2 λb _=>rfl).symm,rfl,rfl,λj=>rfl⟩
 | snoc h1 h2 h3 ih =>
  rename_i y z es e l m u t;have k:=ih λa ha=>hes a (ATE _ ha);have he:=hes e AUq;obtain⟨r1,r2,r3,r4⟩:=GZ h3;have hEy:TbE y.tb:=⟨λj hj=>by
   rw[k.lv]at hj;have hj1:Ej x.tb.s j=τ:=by
    cases hh:Ej x.tb.s j with
    |true=>rfl
    |false=>rw[hh]at hj;cases hj
   have h4:=hE.live j hj1;have e1:ET y.tb j=ET x.tb j:=Ty k.E j;refine⟨by rw[e1];exact h4.sl,?_,by rw[e1];exact h4.hh⟩;rw[e1];obtain⟨q1,q2,q3,q4⟩:=GZ h4.ok;exact Sn (by rw[k.en];exact q1) (by rw[h4.sl,k.lv];exact hj) (by rw[k.gn];exact q3) (by rw[h4.sl,e1]),λj=>by rw[Ty k.E j];exact hE.len j⟩
  obtain⟨g1,g2,g3,g4,g5,g6,g7,g8⟩:=h2.mtr k.m hEy r1 r2 rfl (by rw[Ty k.E];exact he) h3;refine⟨g1,g2.trans k.E,g3.trans k.en,λj=>?_,?_,g6.trans k.es,g7.trans k.sv,λj=>(g8 j).trans (k.gn j)⟩
  ·rw[g4,k.lv,AIH,List.any_cons,List.any_nil,AUS,Bool.not_or,Bool.and_assoc]
  ·rw[g5,k.l,AHl];congr 1;funext b;rw[AIH,List.any_cons,List.any_nil,AUS,Bool.not_or,AIA]
end Go.Proofs.YtnkgiaimcpbhkaaGreat
