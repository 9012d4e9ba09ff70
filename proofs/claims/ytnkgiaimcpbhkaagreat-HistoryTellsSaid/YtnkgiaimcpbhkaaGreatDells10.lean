import Derived.Test.YtnkgiaimcpbhkaaGreatDells9
import Derived.Test.YtnkgiaimcpbhkaaGreatDells2
import Derived.Test.YtnkgiaimcpbhkaaGreatDells1
set_option linter.all false
set_option maxRecDepth 100000
set_option maxHeartbeats 4000000
open List renaming replicate→Ah,getElem?_eq_none→Cb,reverse_append→ATj
open Bool renaming false→ο,true→τ
open Go.Ending renaming returned→κ
open Go.IntKind renaming i64→ζ,u32→χ,u64→υ
open Option renaming none→ν,some→σ
open Go.Value renaming bool→θ,int→ε,pointer→π,slice→ξ
namespace Go.Proofs.YtnkgiaimcpbhkaaGreat
open Tryz renaming prog→AGm
open Go.RowKit Go.Shelf
def ae:=@Ac
theorem XO op W:Calls AGm 211 #[ε ζ op] W λe w'=>e=κ (θ (decide (Ip op)))/\Below W.heap.size W w':=by
 refine DL (M:=[]) Tryz.func211 [.tmp 2] (St.nil _ _) ?_;have zs:=Bd.mk ae;refine DZ ?_;refine DC [0] λG1 g1=>?_;replace g1:=EK g1;refine Cw λK k0=>?_;refine Df (λ_ _=>True) (λF' L'=>F' 2=θ (decide (Ip op))/\L'=[]) ?_ ?_
 ·refine Cy rfl ?_;have zg:=Bd.mk g1;refine DD ?_;repeat' ((first|refine EF (λhg=>?_) (λhg=>?_)|refine EG (λhg=>?_) (λhg=>?_))<;>((try replace hg:=Fe hg);(try refine DU hg ?_);(try exact trivial)))
  all_goals (repeat' refine AO ?_ ?_)
  all_goals exact ADM @Ip.eq_1
 intro G2 L' _ hF;obtain⟨zq2,rfl⟩:=hF;have g2:=zq2;refine k0 _ _ ?_;have zg:=Bd.mk g2;refine C8 (EP λw hw=>?_);exact⟨rfl,hw.below⟩
theorem Sw op W:Calls AGm 191 #[ε ζ op] W λe w'=>e=κ (.tuple #[ε ζ (Kk op:Int),ε ζ (Gy op:Int),θ (decide (ig op))])/\Below W.heap.size W w':=by
 refine DL (M:=[]) Tryz.func191 [.tmp 2,.tmp 3,.tmp 4] (St.nil _ _) ?_;have zs:=Bd.mk ae;refine DZ ?_;refine DC [0] λG3 g3=>?_;replace g3:=EK g3;refine Cw λK k0=>DK (Cw λK k1=>?_);refine Df (λ_ _=>True) (λF' L'=>F' 0=G3 0/\F' 5=θ (decide (op=1\/op=2))/\L'=[]) ?_ ?_
 ·refine Cy rfl ?_;have zg:=Bd.mk g3;exact AXB
 intro G4 L' _ hF;obtain⟨Nk,Mq,rfl⟩:=hF;have zg:=Bd.mk g3;have g4:=AO (Dy Nk) Mq;refine k1 _ _ ?_;replace zg:=Bd.mk g4;refine Ec (λhc=>?_) λhc=>?_
 ·have h0:=AT0 hc;refine Db ?_;refine C8 (EP λw hw=>?_);exact⟨by rw[show Kk op=0 by unfold Kk;rw[ATv AL],show Gy op=1 by unfold Gy;rw[ATv AL],AUB (show ig op by omega)]<;>rfl,hw.below⟩
 have h0:=AUD hc;refine Cw λK k1=>?_;refine Df (λ_ _=>True) (λF' L'=>F' 0=G4 0/\F' 12=θ (decide (op=3\/op=4\/op=20))/\L'=[]) ?_ ?_
 ·exact AWs
 intro G5 L' _ hF;obtain⟨Nk,Wz,rfl⟩:=hF;have g5:=AO (Dy Nk) Wz;refine k1 _ _ ?_;replace zg:=Bd.mk g5;refine Ec (λhc=>?_) λhc=>?_
 ·have h1:=AT0 hc;refine Db ?_;refine C8 (EP λw hw=>?_);exact⟨by rw[show Kk op=1 by unfold Kk;rw[ATt AL];rw[ATv AL],show Gy op=0 by unfold Gy;rw[ATt AL];rw[ATv AL],AUB (show ig op by omega)]<;>rfl,hw.below⟩
 have h1:=AUD hc;refine Cw λK k1=>?_;refine Df (λ_ _=>True) (λF' L'=>F' 0=G5 0/\F' 23=θ (decide (op=5))/\L'=[]) ?_ ?_
 ·exact AWs
 intro G6 L' _ hF;obtain⟨Nk,AEw,rfl⟩:=hF;have g6:=AO (Dy Nk) AEw;refine k1 _ _ ?_;replace zg:=Bd.mk g6;refine Ec (λhc=>?_) λhc=>?_
 ·have h2:=AT0 hc;refine Db ?_;refine C8 (EP λw hw=>?_);exact⟨by rw[show Kk op=1 by unfold Kk;rw[ATt AL];rw[ATt AL];rw[ATv AL],show Gy op=2 by unfold Gy;rw[ATt AL];rw[ATt AL];rw[ATv AL],AUB (show ig op by omega)]<;>rfl,hw.below⟩
 have h2:=AUD hc;refine Cw λK k1=>?_;refine Df (λ_ _=>True) (λF' L'=>F' 0=G6 0/\F' 26=θ (decide (6<=op/\op<=17))/\L'=[]) ?_ ?_
 ·exact AWs
 intro G7 L' _ hF;obtain⟨Nk,AEp,rfl⟩:=hF;have g7:=AO (Dy Nk) AEp;refine k1 _ _ ?_;replace zg:=Bd.mk g7;refine Ec (λhc=>?_) λhc=>?_
 ·have h3:=AT0 hc;refine Db ?_;refine C8 (EP λw hw=>?_);exact⟨by rw[show Kk op=2 by unfold Kk;rw[ATt AL];rw[ATt AL];rw[ATt AL];rw[ATt AL];rw[ATt AL];rw[ATv AL],show Gy op=1 by unfold Gy;rw[ATt AL];rw[ATt AL];rw[ATt AL];rw[ATt AL];rw[ATt AL];rw[ATv AL],AUB (show ig op by omega)]<;>rfl,hw.below⟩
 have h3:=AUD hc;refine Cw λK k1=>?_;refine Df (λ_ _=>True) (λF' L'=>F' 0=G7 0/\F' 33=θ (decide (op=18))/\L'=[]) ?_ ?_
 ·exact AWs
 intro G8 L' _ hF;obtain⟨Nk,AFg,rfl⟩:=hF;have g8:=AO (Dy Nk) AFg;refine k1 _ _ ?_;replace zg:=Bd.mk g8;refine Ec (λhc=>?_) λhc=>?_
 ·have h4:=AT0 hc;refine Db ?_;refine C8 (EP λw hw=>?_);exact⟨by rw[show Kk op=1 by unfold Kk;rw[ATt AL];rw[ATt AL];rw[ATt AL];rw[ATv AL],show Gy op=1 by unfold Gy;rw[ATt AL];rw[ATt AL];rw[ATt AL];rw[ATv AL],AUB (show ig op by omega)]<;>rfl,hw.below⟩
 have h4:=AUD hc;refine Cw λK k1=>?_;refine Df (λ_ _=>True) (λF' L'=>F' 36=θ (decide (op=19\/op=24\/op=25))/\L'=[]) ?_ ?_
 ·exact AWs
 intro G9 L' _ hF;obtain⟨AK5,rfl⟩:=hF;have g9:=AK5;refine k1 _ _ ?_;replace zg:=Bd.mk g9;refine Ec (λhc=>?_) λhc=>?_
 ·have h5:=AT0 hc;refine Db ?_;refine C8 (EP λw hw=>?_);exact⟨by rw[show Kk op=0 by unfold Kk;rw[ATt AL];rw[ATt AL];rw[ATt AL];rw[ATt AL];rw[ATv AL],show Gy op=0 by unfold Gy;rw[ATt AL];rw[ATt AL];rw[ATt AL];rw[ATt AL];rw[ATv AL],AUB (show ig op by omega)]<;>rfl,hw.below⟩
 have h5:=AUD hc;refine Cz (k0 _ _ (Db ?_));refine C8 (EP λw hw=>?_);exact⟨by rw[show Kk op=0 by unfold Kk;rw[ATt AL];rw[ATt AL];rw[ATt AL];rw[ATt AL];rw[ATt AL];rw[ATt AL],show Gy op=0 by unfold Gy;rw[ATt AL];rw[ATt AL];rw[ATt AL];rw[ATt AL];rw[ATt AL];rw[ATt AL],AUC (show ¬ig op by omega)]<;>rfl,hw.below⟩
theorem M8(c:Nat)W:Calls AGm 189 #[ε ζ (c:Int)] W λe w'=>e=κ (.tuple #[ε ζ (JG c:Int),θ (decide (Lr c))])/\Below W.heap.size W w':=by
 refine DL (M:=[]) Tryz.func189 [.tmp 2,.tmp 3] (St.nil _ _) ?_;have zs:=Bd.mk ae;refine DZ ?_;refine C9 rfl λK k0=>DR ?_;intro b hb;refine k0 _ _ (DC [0,4] λXo g10=>?_);replace g10:=EK g10;refine Cw λK k0=>Cw λK k1=>?_;refine Df (λ_ _=>True) (λF' L'=>EH F' Xo [0,4]/\F' 11=θ (decide (¬Lr c))/\L'=[.blk b 3 [ε ζ 0,ε ζ 1,ε ζ 1,ε ζ 2,ε ζ 3,ε ζ 3,ε ζ 4,ε ζ 5,ε ζ 2,ε ζ 2,ε ζ 2,ε ζ 1]]) ?_ ?_
 ·refine Cy rfl ?_;have zg:=Bd.mk g10;refine DD ?_;exact AVF
 intro bQ L' _ hF;obtain⟨zq,ag,rfl⟩:=hF;have zg:=Bd.mk g10;have g11:=AO (Dy zq) ag;refine k1 _ _ ?_;replace zg:=Bd.mk g11;refine Ec (λhc=>?_) λhc=>?_
 ·have h0:=AT0 hc;refine Db ?_;refine C8 (EP λw hw=>?_);exact⟨by rw[AUC h0,show JG c=0 by unfold JG;rw[ATt AL];rw[ATt AL];rw[ATt AL];rw[ATt AL];rw[ATt AL]]<;>rfl,hw.below⟩
 have h0:=AUD hc;have h1:Lr c:=Bp.1 h0;refine Cz (k0 _ _ ?_);have e:([Value.int ζ 0,ε ζ 1,ε ζ 1,ε ζ 2,ε ζ 3,ε ζ 3,ε ζ 4,ε ζ 5,ε ζ 2,ε ζ 2,ε ζ 2,ε ζ 1]:List Value)[c]?=σ (Value.int ζ (JG c:Int)):=by
  obtain⟨ha,hb⟩:=h1;have:c=1\/c=2\/c=3\/c=4\/c=5\/c=6\/c=7\/c=8\/c=9\/c=10\/c=11:=by omega
  rcases this with rfl|rfl|rfl|rfl|rfl|rfl|rfl|rfl|rfl|rfl|rfl<;>rfl
 refine KU e ?_;refine C8 (EP λw hw=>?_);exact⟨by rw[AUB h1],hw.below⟩
theorem zn{x}(h1:0<=x)(h2:x<=18446744073709551615):IntKind.u64.wrap x=x:=IntWalk.u64_in _ ⟨h1,h2⟩
def ai:=AO (AO (AO @LZ.eq_1 (AO @G_.eq_1 @NL.eq_1)) (AO (AO @JF.eq_1 @P5.eq_1) (AO @GJ.eq_1 @Ub.eq_1))) (AO (AO @PE.eq_1 (AO @Li.eq_1 @fnV.eq_1)) (AO (AO @Ie.eq_1 @MC.eq_1) (AO @Hl.eq_1 @Ac)))
section
variable{W:World}{L:List DW}{n c:Nat}{gs:List Gc}
theorem Sl.fnp{b off k x}(h:Sl W W.heap.size 4 (σ ⟨b,off,ν⟩) n c (cl jw gs))(hx:gs[k]?=σ x):LD AGm [] W L 3 ⟨b,off+k*4,ν⟩ (ε ζ x.p) :=
 h.ld1 (m:=1) (i:=k*4) AF (OX (j:=0) Kv hx rfl)
theorem Sl.fnr{b off k x}(h:Sl W W.heap.size 4 (σ ⟨b,off,ν⟩) n c (cl jw gs))(hx:gs[k]?=σ x):LD AGm [] W L 3 ⟨b,off+k*4+1,ν⟩ (ε ζ x.r):=by
 rw[Cn];exact h.ld1 (m:=1) (i:=k*4+1) AF (OX (j:=1) Kv hx rfl)
end
theorem uN m i W(hM:Mod W W.heap.size m)(hi:i.op=21->i.arg<m.gs.length)(hh:i.op=23->i.arg<=11):Calls AGm 180 #[Ie m,Li i] W λe w'=>e=κ (.tuple #[ε ζ (JW m.gs i).1,ε ζ (JW m.gs i).2])/\Below W.heap.size W w':=by
 have sZ:=hM.Sr;have hG:=hM.gs;obtain⟨TA,tn,tc,ts,FA,fn,fc,gs⟩:=m;dsimp only at *;refine DL (M:=[]) Tryz.func180 [.tmp 4,.tmp 5] (St.nil _ _) ?_;refine C9 rfl λK k0=>?_;have zs:=Bd.mk ai;refine DR ?_;intro b1 hb1 b2 hb2 h2;refine k0 _ _ (Cw λK k0=>DZ ?_);refine DC [2,3,12] λG1 g1=>?_;replace g1:=EK g1;refine DK ?_;have zg:=Bd.mk g1;refine Db ?_;refine Ec (λhc=>?_) λhc=>?_
 ·have q1:=AT0 ‹_›;have hlt:i.arg<fn:=by have:=hi q1;omega
  obtain⟨b0,off,rfl,hb0,-⟩:=hG.cells AL;obtain⟨x,hx⟩:=Fg (l:=gs) (i:=i.arg) AL;refine Cw λK k1=>EB [(τ,0),(τ,1),(τ,2),(τ,3),(τ,4),(τ,5),(τ,6),(τ,7),(τ,8),(τ,9),(τ,10),(τ,11),(τ,12),(τ,13),(τ,14),(τ,15)] [] ?_;refine DD ?_;refine DX (hG.fnp hx) ?_;refine DD ?_;refine DX (hG.fnr hx) ?_;refine DD (k1 _ _ ?_);refine C8 (EP λw hw=>?_);exact⟨by unfold JW;rw[ATv q1,hx]<;>rfl,hw.below⟩
 have q1:=AUD ‹_›;refine Db ?_;refine Ec (λhc=>?_) λhc=>?_
 ·have q2:=AT0 ‹_›;have:=hh q2;refine C9 rfl λK k1=>DU @DT ?_;refine DI (λw hw=>M8 i.arg w) ?_;try refine DD ?_
  refine k1 _ _ (Db ?_);refine C8 (EP λw hw=>?_);exact⟨by unfold JW;rw[ATt q1,ATv q2]<;>rfl,hw.below⟩
 have q2:=AUD ‹_›;refine Cz (k0 _ _ (C9 rfl λK k0=>DD ?_));refine DI (λw hw=>Sw i.op w) ?_;try refine DD ?_
 refine k0 _ _ (Db ?_);refine C8 (EP λw hw=>?_);exact⟨by unfold JW;rw[ATt q1,ATt q2]<;>rfl,hw.below⟩
theorem i_ m(f:Nat)x(k:Nat)i W(hM:Mod W W.heap.size m)(hf:m.gs[f]?=σ x)(hi:x.code[k]?=σ i)
  (hp:0<=x.p) (hl:0<=x.l) (hpl:x.p+x.l<=64) (h32:m.gs.length<=32) (zo:x.code.length<=1024):
  Calls AGm 210 #[Ie m,ε ζ (f:Int),ε ζ (k:Int)] W λe w'=>e=κ (ε ζ (Ux m.gs.length x k i))/\Below W.heap.size W w':=by
 have sZ:=hM.Sr;have hG:=hM.gs;have hX:=hM.fn x (AU hf);have hxl:x.code.length=x.n:=GM Gw AL hX.len;have hk:k<x.n:=by have:=(Ab.1 hi).1;omega
 obtain⟨TA,tn,tc,ts,FA,fn,fc,gs⟩:=m;obtain⟨xp,xr,xl,xA,xn,xc,code⟩:=x;dsimp only at *;have hfk:f<fn:=by have:=(Ab.1 hf).1;omega
 obtain⟨b0,off,rfl,hb0,-⟩:=hX.cells AL;obtain⟨b9,jA,rfl,vT,-⟩:=hG.cells AL;refine DL (M:=[]) Tryz.func210 [.tmp 6] (St.nil _ _) ?_;refine C9 rfl λK k0=>?_;have zs:=Bd.mk ai;refine DR ?_;intro b1 hb1;refine k0 _ _ (C9 rfl λK k0=>DR ?_);refine DX (hG.fnl hf) ?_;refine DR ?_;intro b2 hb2 h2;refine k0 _ _ (C9 rfl λK k0=>DR ?_);refine DX (hX.ins hi) ?_;refine DR ?_;intro b7 fZ h7;refine k0 _ _ (DC [2,3,7,8] λG2 g2=>?_);replace g2:=EK g2;refine Cw λK k0=>Cw λK k1=>?_;refine Df (λ_ _=>True) (λF' L'=>EH F' G2 [2,3,7,8]/\F' 35=θ (decide ((i.op=19\/i.op=20)/\code.length<=i.arg))/\L'=[NL b7 i,P5 b2 ⟨xp,xr,xl,σ ⟨b0,off,ν⟩,xn,xc,code⟩,JF b1 ⟨TA,tn,tc,ts,σ ⟨b9,jA,ν⟩,fn,fc,gs⟩]) ?_ ?_
 ·refine Cy rfl ?_;have zg:=Bd.mk g2;refine DD ?_;exact AUt
 intro G3 L' _ hF;obtain⟨zq,xh,rfl⟩:=hF;have zg:=Bd.mk g2;have g3:=AO (Dy zq) xh;refine k1 _ _ ?_;replace zg:=Bd.mk g3;refine Ec (λhc=>?_) λhc=>?_
 ·have q1:=AT0 ‹_›;refine Db ?_;refine C8 (EP λw hw=>?_);exact⟨by unfold Ux;rw[ATv q1],hw.below⟩
 have q1:=AUD ‹_›;refine Cz (k0 _ _ (Cw λK k0=>Cw λK k1=>?_));refine Df (λ_ _=>True) (λF' L'=>EH F' G3 [2,3,7,8]/\F' 54=θ (decide ((i.op=2\/i.op=3)/\xp+xl<=(i.arg:Int)))/\L'=[NL b7 i,P5 b2 ⟨xp,xr,xl,σ ⟨b0,off,ν⟩,xn,xc,code⟩,JF b1 ⟨TA,tn,tc,ts,σ ⟨b9,jA,ν⟩,fn,fc,gs⟩]) ?_ ?_
 ·refine Cy rfl (DD ?_);exact AUt
 intro G4 L' _ hF;obtain⟨zq,AK6,rfl⟩:=hF;have g4:=AO (Dy zq) AK6;refine k1 _ _ ?_;replace zg:=Bd.mk g4;refine Ec (λhc=>?_) λhc=>?_
 ·have q2:=AT0 ‹_›;refine Db ?_;refine C8 (EP λw hw=>?_);exact⟨by unfold Ux;rw[ATt q1,ATv q2],hw.below⟩
 have q2:=AUD ‹_›;refine Cz (k0 _ _ (Cw λK k0=>Cw λK k1=>?_));refine Df (λ_ _=>True) (λF' L'=>EH F' G4 [2,7,8]/\F' 66=θ (decide (i.op=21/\gs.length<=i.arg))/\L'=[NL b7 i,P5 b2 ⟨xp,xr,xl,σ ⟨b0,off,ν⟩,xn,xc,code⟩,JF b1 ⟨TA,tn,tc,ts,σ ⟨b9,jA,ν⟩,fn,fc,gs⟩]) ?_ ?_
 ·refine Cy rfl (DD ?_);exact AUt
 intro G5 L' _ hF;obtain⟨zq,AFG,rfl⟩:=hF;have g5:=AO (Dy zq) AFG;refine k1 _ _ ?_;replace zg:=Bd.mk g5;refine Ec (λhc=>?_) λhc=>?_
 ·have q3:=AT0 ‹_›;refine Db ?_;refine C8 (EP λw hw=>?_);exact⟨by unfold Ux;rw[ATt q1,ATt q2,ATv q3],hw.below⟩
 have q3:=AUD ‹_›;refine Cz (k0 _ _ (Cw λK k0=>Cw λK k1=>?_));refine Df (λ_ _=>True) (λF' L'=>EH F' G5 [2,7,8]/\F' 79=θ (decide (i.op=23∧¬Lr i.arg))/\L'=[NL b7 i,P5 b2 ⟨xp,xr,xl,σ ⟨b0,off,ν⟩,xn,xc,code⟩,JF b1 ⟨TA,tn,tc,ts,σ ⟨b9,jA,ν⟩,fn,fc,gs⟩]) ?_ ?_
 ·refine Cy rfl (DD ?_);exact AVF
 intro G6 L' _ hF;obtain⟨zq,AK7,rfl⟩:=hF;have g6:=AO (Dy zq) AK7;refine k1 _ _ ?_;replace zg:=Bd.mk g6;refine Ec (λhc=>?_) λhc=>?_
 ·have q4:=AT0 ‹_›;refine Db ?_;refine C8 (EP λw hw=>?_);exact⟨by unfold Ux;rw[ATt q1,ATt q2,ATt q3,ATv q4],hw.below⟩
 have q4:=AUD ‹_›;refine Cz (k0 _ _ (Cw λK k0=>Cw λK k1=>?_));refine Df (λ_ _=>True) (λF' L'=>F' 91=θ (decide (k+1=code.length∧¬Ip i.op))/\L'=[NL b7 i,P5 b2 ⟨xp,xr,xl,σ ⟨b0,off,ν⟩,xn,xc,code⟩,JF b1 ⟨TA,tn,tc,ts,σ ⟨b9,jA,ν⟩,fn,fc,gs⟩]) ?_ ?_
 ·by_cases ha:(k:Int)=(xn:Int)-1
  ·have ha':decide ((k:Int)=(xn:Int)-1)=τ:=AUB ha;refine Cy rfl (DU (AO ha' @DT) ?_);refine DI (λw hw=>XO i.op w) ?_;try refine DU ha' ?_
   all_goals (repeat' refine AO ?_ ?_)
   all_goals exact ADM @Ip.eq_1
  ·have ha':decide ((k:Int)=(xn:Int)-1)=ο:=AUC ha;refine Cy rfl (DU (AO ha' @DT) ?_);all_goals (repeat' refine AO ?_ ?_)
   all_goals exact Ev
 intro G7 L' _ hF;obtain⟨AK8,rfl⟩:=hF;have g7:=AK8;refine k1 _ _ ?_;replace zg:=Bd.mk g7;refine Ec (λhc=>?_) λhc=>?_
 ·have q5:=AT0 ‹_›;refine Db ?_;refine C8 (EP λw hw=>?_);exact⟨by unfold Ux;rw[ATt q1,ATt q2,ATt q3,ATt q4,ATv q5],hw.below⟩
 have q5:=AUD ‹_›;refine Cz (k0 _ _ (Db ?_));refine C8 (EP λw hw=>?_);exact⟨by unfold Ux;rw[ATt q1,ATt q2,ATt q3,ATt q4,ATt q5],hw.below⟩
theorem uO m f W(hM:Mod W W.heap.size m):Calls AGm 209 #[Ie m,ε ζ f] W λe w' =>
  e=κ (MC (if (Gx m).1=0 then (if (RQ m f).isSome then Hl else (26,-1,-1)) else Gx m))/\Below W.heap.size W w':=by
 have sZ:=hM.Sr;have Sv:=fun {L:List DW} {w:World} (hw:St [] W L w)=>hM.at hw;obtain⟨q,hq⟩:∃q,Gx m=q:=⟨_,rfl⟩;obtain⟨TA,tn,tc,ts,FA,fn,fc,gs⟩:=m;rw[hq];dsimp only at *;refine ER (M:=[]) (n:=23) [.cell 4 132] rfl Tryz.func209 rfl rfl (Am rfl) (St.nil _ _) ?_;refine C9 rfl λK k0=>?_;have zs:=Bd.mk ai;refine DR ?_;intro b1 hb1 b4 hb4 h4;refine k0 _ _ (C9 rfl λK k0=>DR ?_);refine DI (λw hw=>M7 ⟨TA,tn,tc,ts,FA,fn,fc,gs⟩ w (Sv hw)) ?_;try refine Ed hq ?_
 intro b6 hb6 h6;refine k0 _ _ (DC [1,2,4,5] λG8 g8=>?_);replace g8:=EK g8;refine Cw λK k0=>?_;have zg:=Bd.mk g8;refine Db ?_;refine Ec (λhc=>?_) λhc=>?_
 ·have hz:¬q.1=0:=Gl ‹(!decide (q.1=0))=τ›;refine Db ?_;refine C8 (FF ?_);intro w hw;exact⟨by rw[ATt hz]<;>rfl,hw.below⟩
 have hz:q.1=0:=Bp.1 (F_ ‹(!decide (q.1=0))=ο›);refine Cz (k0 _ _ (Cw λK k0=>Cw λK k1=>?_));refine Df (λ_ _=>True) (λF' L'=>F' 4=G8 4/\F' 20=θ (decide (f<0\/(fn:Int)<=f))/\L'=[GJ b6 q.1 q.2.1 q.2.2,GJ b4 0 0 0,JF b1 ⟨TA,tn,tc,ts,FA,fn,fc,gs⟩]) ?_ ?_
 ·exact AWs
 intro G9 L' _ hF;obtain⟨Qd,AEn,rfl⟩:=hF;have g9:=AO (Dy Qd) AEn;refine k1 _ _ ?_;replace zg:=Bd.mk g9;refine Ec (λhc=>?_) λhc=>?_
 ·have h1:=AT0 ‹_›;have hno:RQ ⟨TA,tn,tc,ts,FA,fn,fc,gs⟩ f=ν:=by
   unfold RQ;split
   ·rfl
   ·exact Cb AU5
  refine C9 rfl λK k1=>DD ?_;refine DI (λw hw=>GI 26 (-1) (-1) w) ?_;try refine DD ?_
  refine k1 _ _ (C8 (FF ?_));intro w hw;exact⟨by rw[hno,ATv hz]<;>rfl,hw.below⟩
 have h1:=AUD ‹_›;obtain⟨k,rfl⟩:∃k:Nat,f=(k:Int):=⟨f.toNat,by omega⟩;obtain⟨x,hx⟩:=Fg (l:=gs) (i:=k) AL;have uP:RQ ⟨TA,tn,tc,ts,FA,fn,fc,gs⟩ (k:Int)=σ x:=by rw[ik];exact hx
 refine Cz (k0 _ _ (C9 rfl λK k0=>DD ?_));refine DI (λw hw=>Mj w) ?_;try refine DD ?_
 refine k0 _ _ (C8 (FF ?_));intro w hw;exact⟨by rw[uP,ATv hz]<;>rfl,hw.below⟩
theorem jB m f W(hM:Mod W W.heap.size m):Calls AGm 179 #[Ie m,ε ζ f] W λe w'=>e=κ (MC (j3 m f))/\Below W.heap.size W w':=by
 have Sv:=fun {L:List DW} {w:World} (hw:St [] W L w)=>hM.at hw;have hfn:=hM.fn;have hG:=hM.gs;have sZ:=hM.Sr;obtain⟨q,hq⟩:∃q,(if (Gx m).1=0 then (if (RQ m f).isSome then Hl else (26,-1,-1)) else Gx m)=q:=⟨_,rfl⟩;obtain⟨TA,tn,tc,ts,FA,fn,fc,gs⟩:=m;dsimp only at *;refine ER (M:=[]) (n:=37) [.cell 4 132] rfl Tryz.func179 rfl rfl (Am rfl) (St.nil _ _) ?_;refine C9 rfl λK k0=>?_;have zs:=Bd.mk ai;refine DR ?_;intro b1 hb1 b4 hb4 h4;refine k0 _ _ (C9 rfl λK k0=>DR ?_);refine DI (λw hw=>(by have:=uO ⟨TA,tn,tc,ts,FA,fn,fc,gs⟩ f w (Sv hw);rwa[hq]at this)) ?_;refine DR ?_;intro b6 hb6 h6;refine k0 _ _ (DC [1,2,4,5] λXo g10=>?_);replace g10:=EK g10;refine Cw λK k0=>?_;have zg:=Bd.mk g10;refine Db ?_;refine Ec (λhc=>?_) λhc=>?_
 ·have hz:¬q.1=0:=Gl ‹(!decide (q.1=0))=τ›;have hS:j3 ⟨TA,tn,tc,ts,FA,fn,fc,gs⟩ f=q:=by
   unfold j3;rw[<-hq]at hz ⊢;split
   ·rename_i h0;rw[ATv h0]at hz;cases hf:RQ ⟨TA,tn,tc,ts,FA,fn,fc,gs⟩ f with
    |none=>rfl
    |some y=>rw[hf]at hz;exact absurd rfl hz
   ·rfl
  refine Db ?_;refine C8 (FF ?_);intro w hw;exact⟨by rw[hS]<;>rfl,hw.below⟩
 have hz:q.1=0:=Bp.1 (F_ ‹(!decide (q.1=0))=ο›);have h0:(Gx ⟨TA,tn,tc,ts,FA,fn,fc,gs⟩).1=0:=by
  refine CZ λh0=>?_;rw[<-hq,ATt h0]at hz;exact h0 hz
 obtain⟨x,hy⟩:∃y,RQ ⟨TA,tn,tc,ts,FA,fn,fc,gs⟩ f=σ y:=by
  cases hf:RQ ⟨TA,tn,tc,ts,FA,fn,fc,gs⟩ f with
  |none=>rw[<-hq,ATv h0,hf]at hz;exact absurd (show (26:Int)=0 from hz) AJ
  |some y=>exact⟨y,rfl⟩
 obtain⟨k,rfl,hk⟩:=ZK hy;dsimp only at hk;obtain⟨-,-,-,ACZ,hck⟩:=ME h0;obtain⟨hfe,hce⟩:=hck k x hk;obtain⟨hp0,-,hl0,-,hpl,-,-,zo,-⟩:=LG hfe;have hX:=hfn x (AU hk);have hxl:x.code.length=x.n:=GM Gw AL hX.len;have hS:j3 ⟨TA,tn,tc,ts,FA,fn,fc,gs⟩ (k:Int)=stX gs.length (k:Int) x:=by
  unfold j3;rw[ATv h0,hy]
 dsimp only at ACZ;have hkf:k<fn:=by have:=(Ab.1 hk).1;omega
 obtain⟨b9,jA,rfl,vT,-⟩:=hG.cells AL;refine Cz (k0 _ _ (Cw λK k0=>Db ?_));refine DC [1,2,4,6] λbQ g11=>?_;replace g11:=Dy g11;refine DK ?_;refine Dv (λF' L' => ∃(j:Nat),EH F' bQ [1,2,4]/\F' 6=ε ζ (j:Int)/\L'=[GJ b6 q.1 q.2.1 q.2.2,GJ b4 0 0 0,JF b1 ⟨TA,tn,tc,ts,σ ⟨b9,jA,ν⟩,fn,fc,gs⟩]/\j<=x.n/\Lj gs.length x 0 x.code=Lj gs.length x j (x.code.drop j)) (λF' L'=>1100-(intOf (F' 6)).toNat) ?_ ?_
 ·refine⟨0,?_⟩;replace zg:=Bd.mk g11;refine DD ?_;omega
 intro vM L' hI;obtain⟨j,zq,Ms,rfl,⟨hj,hi⟩⟩:=hI;replace zg:=Bd.mk g11;have g12:=AO (Dy zq) Ms;refine Cw λK k1=>C9 rfl λK k2=>?_;replace zg:=Bd.mk (AO g11 g12);refine DD ?_;refine DX (hG.fnf hk) ?_;refine DD (k2 _ _ ?_);refine Ec (λhc=>?_) λhc=>?_
 ·refine Cz ?_;try simp only[Di,Dq]
  have hjt:j<x.n:=by have:=AT0 ‹decide ((j:Int)<(x.n:Int))=τ›;omega
  obtain⟨y,hy⟩:=Fg (l:=x.code) (i:=j) AL;rw[Pz hy]at hi;obtain⟨s,hs⟩:∃s,Ux gs.length x j y=s:=⟨_,rfl⟩;refine k1 _ _ (Cw λK k1=>DK (C9 rfl λK k2=>DD ?_));refine DI (λw hw=>i_ ⟨TA,tn,tc,ts,σ ⟨b9,jA,ν⟩,fn,fc,gs⟩ k x j y w (Sv hw) hk hy hp0 hl0 hpl ACZ zo) ?_;try refine DU hs ?_
  refine k2 _ _ (Db ?_);refine Ec (λhc=>?_) λhc=>?_
  ·have hz3:¬s=0:=Gl ‹(!decide (s=0))=τ›;rw[ZI _ (by rw[hs];exact hz3),hs]at hi;refine C9 rfl λK k2=>DD ?_;refine DI (λw hw=>GI s (k:Int) (j:Int) w) ?_;try refine DD ?_
   refine k2 _ _ (C8 (FF ?_));intro w hw;exact⟨by rw[hS];unfold stX;rw[hi,ATt hz3]<;>rfl,hw.below⟩
  have hz3:s=0:=Bp.1 (F_ ‹(!decide (s=0))=ο›);rw[XM _ (by rw[hs];exact hz3)]at hi;refine Cz (k1 _ _ (Cy rfl (DU @DT ?_)));refine⟨⟨j+1,?_⟩,?_⟩
  ·refine DU @Af ?_;exact⟨by omega,hi⟩
  ·exact AXo
 refine Dr (k0 _ _ ?_);have mJ:j=x.n:=by have:=AUD ‹decide ((j:Int)<(x.n:Int))=ο›;omega
 rw[Br AL]at hi;refine C9 rfl λK k0=>DD ?_;refine DI (λw hw=>Mj w) ?_;try refine DD ?_
 refine k0 _ _ (C8 (FF ?_));intro w hw;exact⟨by rw[hS];unfold stX;rw[hi]<;>rfl,hw.below⟩
def Mk:=AO (AO (AO @LZ.eq_1 (AO @G_.eq_1 @NL.eq_1)) (AO (AO @JF.eq_1 @P5.eq_1) (AO @GJ.eq_1 @Ub.eq_1))) (AO (AO (AO @PE.eq_1 @Li.eq_1) (AO @fnV.eq_1 @Ie.eq_1)) (AO (AO @MC.eq_1 @Hl.eq_1) (AO @Ac @DT)))
theorem zt l:(LY l).length=l.length:=by simp[LY]
theorem Sy{l}{i x:Nat}(h:l[i]?=σ x):(LY l)[i]?=σ (ε ζ x):=by simp[LY,h]
theorem S9{W w L b c k cs l}(hw:St [] W (.blk b 3 cs::L) w)(hl:cs.length=c)(hk:k<=c)(hc:c<=9223372036854775807)(he:cs.take k=LY l):
  rowP 3 1 (λv=>v) (LY l) W (κ (ξ (σ ⟨b,0,ν⟩) k c)) w:=by
 have hr:=hw.ABa (size:=1) (n:=k) (c:=c) AL hk hc;rw[Ac,he]at hr;exact⟨_,_,_,rfl,hr.H6 AUq,hw.below⟩
theorem mO i(k:Nat)W(hk:k<=1024)(ha:i.op=19\/i.op=20->i.arg<=1024):Calls AGm 181 #[Li i,ε ζ (k:Int)] W (rowP 3 1 (λv=>v) (LY (Oq i k)) W):=by
 obtain⟨to,hto⟩:∃to,IntKind.i64.wrap (i.arg:Int)=to:=⟨_,rfl⟩;have hta:i.op=19\/i.op=20->to=(i.arg:Int):=λh=>by have:=ha h;rw[<-hto,DT AL AL]
 refine DL (M:=[]) Tryz.func181 [.tmp 4] (St.nil _ _) ?_;refine C9 rfl λK k0=>?_;have zs:=Bd.mk Mk;refine DR ?_;intro b2 hb2;refine k0 _ _ (Mo hto ?_);refine NB λG1 hG=>?_;have zu:=AUE hG 1;have AH5:=AUE hG 2;have Qh:=AUE hG 5;clear hG;try simp -implicitDefEqProofs (disch:=first|omega|decide) only [seval,-Int.reducePow,-Nat.reducePow,cC,pv,D5,EH,undef,Mk,hto]at zu AH5 Qh
 have g1:=AO zu (AO AH5 Qh);refine Cw λK k0=>DK ?_;have zg:=Bd.mk g1;refine Db ?_;refine Ec (λhc=>?_) λhc=>?_
 ·have q1:=AT0 ‹_›;have ha':=ha (.inl q1);have ht:=hta (.inl q1);subst ht;refine C9 rfl λK k1=>DD ?_;intro b13 AFh h13;refine k1 _ _ (C8 (EP λw hw=>?_));exact S9 hw AUq AL AL (by unfold Oq;rw[ATv q1]<;>rfl)
 have q1:=AUD ‹_›;refine Cw λK k1=>?_;refine Df (λ_ _=>True) (λF' L'=>EH F' G1 [1,2,5]/\F' 15=θ (decide (i.op=20/\to<(k:Int)+1))/\L'=[NL b2 i]) ?_ ?_
 ·exact AWs
 intro G2 L' _ hF;obtain⟨zq,AFi,rfl⟩:=hF;have g2:=AO (Dy zq) AFi;refine k1 _ _ ?_;replace zg:=Bd.mk g2;refine Ec (λhc=>?_) λhc=>?_
 ·obtain⟨q2,q3⟩:=AT0 ‹_›;have ha':=ha (.inr q2);have ht:=hta (.inr q2);subst ht;refine C9 rfl λK k1=>DD ?_;intro b13 AFh h13;refine k1 _ _ (C8 (EP λw hw=>?_));exact S9 hw AUq AL AL (by unfold Oq;rw[ATt q1,ATv q2,ATv AL]<;>rfl)
 have n2:=AUD ‹_›;refine Cw λK k1=>?_;refine Df (λ_ _=>True) (λF' L'=>EH F' G2 [1,2,5]/\F' 29=θ (decide (i.op=20/\(k:Int)+1<to))/\L'=[NL b2 i]) ?_ ?_
 ·exact AWs
 intro G3 L' _ hF;obtain⟨zq,yB,rfl⟩:=hF;have g3:=AO (Dy zq) yB;refine k1 _ _ ?_;replace zg:=Bd.mk g3;refine Ec (λhc=>?_) λhc=>?_
 ·obtain⟨q2,q3⟩:=AT0 ‹_›;have ha':=ha (.inr q2);have ht:=hta (.inr q2);subst ht;refine C9 rfl λK k1=>DD ?_;intro b13 AFh h13;refine k1 _ _ (C8 (EP λw hw=>?_));exact S9 hw AUq AL AL (by unfold Oq;rw[ATt q1,ATv q2,ATt AL,ATv AL]<;>rfl)
 have n3:=AUD ‹_›;refine C9 rfl λK k1=>DD ?_;refine DI (λw hw=>XO i.op w) ?_;try refine DD ?_
 refine k1 _ _ ?_;refine Ec (λhc=>?_) λhc=>?_
 ·have q4:Ip i.op:=AT0 ‹_›;refine Db ?_;refine C8 (EP λw hw=>?_);exact⟨ν,0,0,rfl,by unfold Ip at q4;unfold Oq;rw[ATt q1,ATt AL,ATv AL];exact⟨rfl,.inl ⟨rfl,rfl⟩⟩,hw.below⟩
 have q4:¬Ip i.op:=AUD ‹_›;refine Cz (k0 _ _ (C9 rfl λK k0=>DD ?_));intro b13 AFh h13;refine k0 _ _ (C8 (EP λw hw=>?_));refine S9 hw AUq AL AL ?_;unfold Ip at q4;by_cases q2:i.op=20
 ·have ht:=hta (.inr q2);unfold Oq;rw[ATt q1,ATv q2,ATt AL,ATt AL]<;>rfl
 ·unfold Oq;rw[ATt q1,ATt q2,ATt AL]<;>rfl
theorem ZL:∀ {l:List Nat} {v:Int} {h h':List Int},RS l v h=σ h'→v ≠ -1->(∀j∈l,j<h.length) →
  h'.length=h.length/\(∀j,hAt h j ≠ -1->hAt h' j=hAt h j)/\(∀j∈l,hAt h' j=v)∧∀j,hAt h' j=hAt h j\/(j∈l/\hAt h' j=v)
 | [],v,h,h',e,_,_=>by
  simp only[RS,Bn]at e;subst e;exact⟨rfl,λ_ _=>rfl,by simp,λ_=>.inl rfl⟩
 | k::l,v,h,h',e,hv,hl=>by
  simp only[RS]at e;split at e
  ·cases e
  ·rename_i hc;have hk:k<h.length:=hl k AUq;obtain⟨e1,e2,e3,e4⟩:=ZL e hv (λj hj=>by simpa using hl j (by simp[hj]));have hs:∀j,hAt (h.set k v) j=if k=j then v else hAt h j:=λj=>aa hk
   have hkk:hAt h' k=v:=by rw[e2 k (by rw[hs,ATv rfl];exact hv),hs,ATv rfl]
   refine⟨by simpa using e1,λj hj=>?_,λj hj=>?_,λj=>?_⟩
   ·by_cases hkj:k=j
    ·subst hkj;rw[hkk];by_cases hq:hAt h k=v
     ·exact hq.symm
     ·exact absurd ⟨hj,hq⟩ hc
    ·rw[e2 j (by rw[hs,ATt hkj];exact hj),hs,ATt hkj]
   ·rcases AP.1 hj with rfl|hj
    ·exact hkk
    ·exact e3 j hj
   ·by_cases hkj:k=j
    ·subst hkj;exact .inr ⟨by simp,hkk⟩
    ·rcases e4 j with h1|⟨h1,h2⟩
     ·rw[h1,hs,ATt hkj];exact .inl rfl
     ·exact .inr ⟨by simp[h1],h2⟩
structure ADr(gs:List Gc)(x:Gc)(h:List Int)(k:Nat):Prop where
 known:hAt h k ≠ -1
 ret:(Gp x k).op=22->hAt h k=x.r
 uQ:(JW gs (Gp x k)).1<=hAt h k
 most:hAt h k+(JW gs (Gp x k)).2-(JW gs (Gp x k)).1<=64
 next:∀j∈Oq (Gp x k) k,hAt h j=hAt h k+(JW gs (Gp x k)).2-(JW gs (Gp x k)).1
structure ZM(gs:List Gc)(x:Gc)(h:List Int)(d:List Bool):Prop where
 hlen:h.length=x.code.length
 uR:d.length=x.code.length
 Ql:∀k,hAt h k = -1\/(0<=hAt h k/\hAt h k<=64)
 done:∀k,d[k]?=σ τ->ADr gs x h k
theorem mP{gs x h h' k i}(e:Qs gs x h k i=σ h'):
  (i.op=22->hAt h k=x.r)/\(JW gs i).1<=hAt h k/\hAt h k+(JW gs i).2-(JW gs i).1<=64/\RS (Oq i k) (hAt h k+(JW gs i).2-(JW gs i).1) h=σ h':=by
 unfold Qs at e;split at e
 ·cases e
 ·rename_i hc;refine⟨λho=>?_,?_,?_,e⟩
  ·exact CZ λhq=>hc (.inl ⟨ho,hq⟩)
  ·exact Int.not_lt.1 λhq=>hc (.inr (.inl hq))
  ·exact Int.not_lt.1 λhq=>hc (.inr (.inr hq))
theorem jC{gs x h h' d k}(hr:ZM gs x h d)(hfx:∀k,k<x.code.length->0<=(JW gs (Gp x k)).2)(hnx:∀k,k<x.code.length→∀j∈Oq (Gp x k) k,j<x.code.length)
  (hk:Iq h d=σ k) (e:Qs gs x h k (Gp x k)=σ h'):
  ZM gs x h' (d.set k τ)/\(∀j,hAt h j ≠ -1->hAt h' j=hAt h j)/\(∀j,hAt h' j=hAt h j\/j∈Oq (Gp x k) k)/\hAt h k ≠ -1/\Ll d=Ll (d.set k τ)+1/\k<x.code.length:=by
 obtain⟨hlt,hop,-⟩:=mM hk;unfold I_ at hop;simp only[Au,AT5,CJ]at hop;obtain⟨hkn,hkd⟩:=hop;have hkl:k<x.code.length:=by have:=hr.hlen;omega
 have AK_:d[k]?=σ ο:=by
  have ALA:k<d.length:=by have:=hr.uR;omega
  rw[AQ ALA]at hkd ⊢;simpa using hkd
 obtain⟨s1,s2,s3,s4⟩:=mP e;have h0:0<=hAt h k:=by rcases hr.Ql k with q|q;exact absurd q hkn;exact q.1
 have hp:=hfx k hkl;have hv:hAt h k+(JW gs (Gp x k)).2-(JW gs (Gp x k)).1 ≠ -1:=by omega
 obtain⟨u1,u2,u3,u4⟩:=ZL s4 hv (λj hj=>by have:=hnx k hkl j hj;have:=hr.hlen;omega);refine⟨⟨by rw[u1];exact hr.hlen,by simpa using hr.uR,λj=>?_,λj hj=>?_⟩,u2,λj=>(u4 j).imp id And.left,hkn,XN AK_,hkl⟩
 ·rcases u4 j with q|⟨-,q⟩
  ·rw[q];exact hr.Ql j
  ·rw[q];right;omega
 ·by_cases hjk:k=j
  ·subst hjk;have:=u2 k hkn;exact⟨by rw[this];exact hkn,by rw[this];exact s1,by rw[this];exact s2,by rw[this];exact s3,by rw[this];exact u3⟩
  ·rw[CX hjk]at hj;have hg:=hr.done j hj;have:=u2 j hg.known;exact⟨by rw[this];exact hg.known,by rw[this];exact hg.ret,by rw[this];exact hg.uQ,by rw[this];exact hg.most,λi hi=>by
    rw[this,<-hg.next i hi];refine u2 i ?_;rw[hg.next i hi];have hjl:j<x.code.length:=by have:=(Ab.1 hj).1;have:=hr.uR;omega
    have:=hfx j hjl;have:=hg.uQ;omega⟩
theorem qA{gs:List Gc}{x:Gc}(hfx:∀k,k<x.code.length->0<=(JW gs (Gp x k)).2)(hnx:∀k,k<x.code.length→∀j∈Oq (Gp x k) k,j<x.code.length):
  ∀ {q:Nat} {h:List Int} {d:List Bool} {hf:List Int},Ll d<=q->ZM gs x h d->UB gs x q h d=.inl hf →
   (∃d',ZM gs x hf d'∧Iq hf d'=ν)/\(∀j,hAt h j ≠ -1->hAt hf j=hAt h j) ∧
   ∀S:Nat->Prop,(∀j,hAt h j ≠ -1->S j)->(∀k,k<x.code.length->S k→∀j∈Oq (Gp x k) k,S j)→∀j,hAt hf j ≠ -1->S j
 | 0,h,d,hf,hu,hr,e=>by
  simp only[UB,Sum.inl.injEq]at e;subst e;exact⟨⟨d,hr,iw AL h (by rw[hr.hlen,hr.uR])⟩,λ_ _=>rfl,λS hS _ j hj=>hS j hj⟩
 | q+1,h,d,hf,hu,hr,e=>by
  simp only[UB]at e;split at e
  ·rename_i hl;simp only[Sum.inl.injEq]at e;subst e;exact⟨⟨d,hr,hl⟩,λ_ _=>rfl,λS hS _ j hj=>hS j hj⟩
  ·rename_i k hl;split at e
   ·cases e
   ·rename_i h' hs;obtain⟨r1,r2,r3,r4,r5,r6⟩:=jC hr hfx hnx hl hs;obtain⟨a1,a2,a3⟩:=qA hfx hnx AL r1 e;refine⟨a1,λj hj=>by rw[a2 j (by rw[r2 j hj];exact hj),r2 j hj],λS hS hn j hj=>a3 S (λj hj=>?_) hn j hj⟩;rcases r3 j with q|q
    ·exact hS j (by rw[<-q];exact hj)
    ·exact hn k r6 (hS k r4) j q
theorem aj{n j}(hn:0<n):hAt (h0F n) j=if j=0 then 0 else -1:=by
 unfold h0F;rw[aa (by simpa using hn)];by_cases hj:j=0
 ·subst hj;rfl
 ·rw[ATt (λe=>hj e.symm),ATt hj];unfold hAt;rw[ASR];split<;>rfl
theorem jD{gs x}(hn:0<x.code.length):ZM gs x (h0F x.code.length) (Ah x.code.length ο) :=
 ⟨by simp[h0F],by simp,λk=>by
  rw[aj hn];split
  ·right;omega
  ·left;rfl,λk hk=>by
  rw[ASR]at hk;split at hk<;>cases hk⟩
theorem XP n:Ll (Ah n ο)=n:=by
 unfold Ll;rw[ASj.2 (λa ha=>by rw[ASP ha];rfl),CB]
theorem ADs{gl x}(h:∀j i,x.code[j]?=σ i->Ux gl x j i=0):∀k,k<x.code.length→∀j∈Oq (Gp x k) k,j<x.code.length:=by
 intro k hk j hj;have hi:x.code[k]?=σ (Gp x k):=by unfold Gp;rw[AQ hk];rfl
 have hs:=h k _ hi;unfold Ux at hs;generalize Gp x k=i at *;split at hs
 ·cases hs
 rename_i c1;split at hs
 ·cases hs
 split at hs
 ·cases hs
 split at hs
 ·cases hs
 split at hs
 ·cases hs
 rename_i c5;unfold Oq at hj;unfold Ip at c5;split at hj
 ·simp only[BH]at hj;omega
 split at hj
 ·split at hj
  ·simp only[AP,Ae,AT7]at hj;omega
  split at hj
  ·simp only[AP,Ae,AT7]at hj;omega
  ·simp only[BH]at hj;omega
 split at hj
 ·cases hj
 ·simp only[BH]at hj;omega
theorem ADt{gs}(h:∀g∈gs,0<=g.r)i:0<=(JW gs i).2:=by
 unfold JW;split
 ·exact AWE
 split
 ·exact AWx
 ·exact AWx
theorem zw{m}{k:Nat}{x hf}(hs:(j3 m (k:Int)).1=0)(hx:m.gs[k]?=σ x)(e:uM m.gs x=.inl hf):
  hf.length=x.code.length/\0<x.code.length/\hAt hf 0=0/\(∀j,hAt hf j = -1\/(0<=hAt hf j/\hAt hf j<=64))/\(∀j,hAt hf j ≠ -1->j<x.code.length/\ADr m.gs x hf j) ∧
  (∀k,k<x.code.length→∀j∈Oq (Gp x k) k,j<x.code.length) ∧
  ∀S:Nat->Prop,S 0->(∀k,k<x.code.length->S k→∀j∈Oq (Gp x k) k,S j)→∀j,hAt hf j ≠ -1->S j:=by
 obtain⟨hc,k',x',hk',hx',hst⟩:=mK hs;have hkk:k=k':=by omega
 subst hkk;rw[hx]at hx';cases hx';obtain⟨-,-,-,-,hck⟩:=ME hc;have hn:0<x.code.length:=by
  obtain⟨-,-,-,-,-,-,h1,-⟩:=LG (hck k x hx).1;omega
 have hfx:∀k,k<x.code.length->0<=(JW m.gs (Gp x k)).2:=λj _=>ADt (λg hg=>by
  obtain⟨i,hi⟩:=ATH hg;exact(LG (hck i g hi).1).2.1) _
 have hnx:=ADs hst;obtain⟨⟨d',hr,hl⟩,h2,h3⟩:=qA hfx hnx (Nat.le_of_eq (XP _)) (jD hn) e;have h00:hAt (h0F x.code.length) 0 ≠ -1:=by rw[aj hn];decide
 refine⟨hr.hlen,hn,by rw[h2 0 h00,aj hn];rfl,hr.Ql,λj hj=>?_,hnx,λS hS hc j hj=>h3 S (λj hj=>?_) hc j hj⟩
 ·have hjl:j<hf.length:=by
   refine Nat.lt_of_not_le λhge=>hj ?_;unfold hAt;rw[Cb hge];rfl
  have hop:=iq hl j hjl;have hjd:j<d'.length:=by rw[hr.uR,<-hr.hlen];exact hjl
  refine⟨by rw[<-hr.hlen];exact hjl,hr.done j ?_⟩;unfold I_ at hop;rw[AQ hjd]at hop ⊢;simpa [hj]using hop
 ·rw[aj hn]at hj;split at hj
  ·rename_i e;subst e;exact hS
  ·exact absurd rfl hj
section
variable{W:World}{B:Nat}{m:Ei}
theorem Mod.more{B'}(h:Mod W B m)(hB:B<=B'):Mod W B' m:=⟨h.ts.more hB,λt ht=>(h.ty t ht).more hB,h.gs.more hB,λg hg=>(h.fn g hg).more hB,h.arg⟩
end
def O_(l:List Int):List Value:=l.map (Value.int ζ)
theorem zx l:(O_ l).length=l.length:=by simp[O_]
theorem zy{h k}(hk:k<h.length):(O_ h)[k]?=σ (ε ζ (hAt h k)):=by
 unfold O_;rw[BZ,ACX hk];rfl
theorem ADu{h k}v(hk:k<h.length):List.take k (O_ h)++[Value.int ζ v]++List.drop (k+1) (O_ h)=O_ (h.set k v):=by
 unfold O_;rw[<-List.map_take,<-List.map_drop,Bz,ATv hk];simp
theorem ACa{k l v h}(hc:hAt h k ≠ -1/\hAt h k≠v):RS (k::l) v h=ν:=by rw[RS,ATv hc]
theorem zz{k l v h}(hc:¬(hAt h k ≠ -1/\hAt h k≠v)):RS (k::l) v h=RS l v (h.set k v):=by rw[RS,ATt hc]
theorem z8{gs x h k i v}(hv:hAt h k+((JW gs i).2-(JW gs i).1)=v):Qs gs x h k i=if (i.op=22/\hAt h k≠x.r)\/hAt h k<(JW gs i).1\/64<v then ν else RS (Oq i k) v h:=by
 unfold Qs;rw[show hAt h k+(JW gs i).2-(JW gs i).1=v by omega]
theorem AFj{i k N}(h:∀j∈Oq i k,j<N)(ho:i.op=19\/i.op=20):i.arg<N:=by
 by_cases h1:i.op=19
 ·exact h _ (by unfold Oq;rw[ATv h1];simp)
 ·have h2:i.op=20:=by omega
  by_cases c1:i.arg<k+1
  ·exact h _ (by unfold Oq;rw[ATt h1,ATv h2,ATv c1];simp)
  by_cases c2:k+1<i.arg
  ·exact h _ (by unfold Oq;rw[ATt h1,ATv h2,ATt c1,ATv c2];simp)
  ·have:=h (k+1) (by unfold Oq;rw[ATt h1,ATv h2,ATt c1,ATt c2];simp);omega
def ak(l:List Bool):List Value:=l.map Value.bool
theorem AFk l:(ak l).length=l.length:=by simp[ak]
theorem z_{d}{k:Nat}{b}(h:d[k]?=σ b):(ak d)[k]?=σ (θ b):=by simp[ak,h]
theorem AFl{d k}v(hk:k<d.length):List.take k (ak d)++[Value.bool v]++List.drop (k+1) (ak d)=ak (d.set k v):=by
 unfold ak;rw[<-List.map_take,<-List.map_drop,Bz,ATv hk];simp
def isF:Value->Bool
 |.bool ο=>τ
 |_=>ο
def au:List DW->Nat
 |.blk _ _ cs::_=>(cs.filter isF).length
 |_=>0
theorem jE b t d L:au (.blk b t (ak d)::L)=Ll d:=by
 simp only[au,Ll,ak,AHa,BF];congr 1;apply ASp;intro x _;cases x<;>rfl
theorem AH6{gs}(h:∀g∈gs,0<=g.p/\g.p<=64/\0<=g.r/\g.r<=64)i:0<=(JW gs i).1/\(JW gs i).1<=64/\0<=(JW gs i).2/\(JW gs i).2<=64:=by
 unfold JW;split
 ·exact AWE
 split
 ·have:=AFf i.arg;exact AWx
 ·dsimp only;have h1:Kk i.op<=2:=by
   unfold Kk;repeat' split
   all_goals omega
  have h2:Gy i.op<=2:=by
   unfold Gy;repeat' split
   all_goals omega
  omega
theorem AAA{gl x k i}(h:Ux gl x k i=0)(ho:i.op=21):i.arg<gl:=by
 unfold Ux at h;split at h
 ·cases h
 split at h
 ·cases h
 split at h
 ·cases h
 ·omega
theorem AAB{gs x q h d}(hl:Iq h d=ν):UB gs x q h d=.inl h:=by
 cases q with
 |zero=>rfl
 |succ q=>rw[UB,hl]
theorem jF{gs x q k h d}(hl:Iq h d=σ k)(hs:Qs gs x h k (Gp x k)=ν):UB gs x (q+1) h d=.inr k:=by rw[UB,hl];dsimp only;rw[hs]
theorem ACb{gs x q k h h' d}(hl:Iq h d=σ k)(hs:Qs gs x h k (Gp x k)=σ h'):UB gs x (q+1) h d=UB gs x q h' (d.set k τ):=by rw[UB,hl];dsimp only;rw[hs]
theorem AAC{W w L b n cs u}(hw:St [] W (.blk b 3 cs::L) w)(hl:cs.length=n)(hn:n<=9223372036854775807):
  rowP 3 1 (λv=>.tuple #[v,u]) cs W (κ (.tuple #[ξ (σ ⟨b,0,ν⟩) n n,u])) w:=by
 have hr:=hw.JR (size:=1) (n:=n) AL hn;exact⟨_,_,_,rfl,hr.H6 AUq,hw.below⟩
theorem rowP_nil{W w L u}(hw:St [] W L w):rowP 3 1 (λv=>.tuple #[v,u]) [] W (κ (.tuple #[ξ ν 0 0,u])) w:=⟨ν,0,0,rfl,⟨rfl,.inl ⟨rfl,rfl⟩⟩,hw.below⟩
theorem ALB:Jy AGm 140=σ (4,1,1):=by kernel_rfl
def XQ(m:Ei):Nat->Nat->pz
 |0,_=>Hl
 |q+1,f=>if (Ot m (f:Int)).2.1=0 then XQ m q (f+1) else (Ot m (f:Int)).2
def Mw(m:Ei):pz:=if (Gx m).1=0 then XQ m m.gs.length 0 else Gx m
theorem jG{m}{q f:Nat}(h:(Ot m (f:Int)).2.1=0):XQ m (q+1) f=XQ m q (f+1):=by rw[XQ,ATv h]
theorem qB{m}{q f:Nat}(h:¬(Ot m (f:Int)).2.1=0):XQ m (q+1) f=(Ot m (f:Int)).2:=by rw[XQ,ATt h]
theorem qC{m:Ei} : ∀ {q f:Nat},(XQ m q f).1=0->XQ m q f=Hl∧∀j,f<=j->j<f+q->(Ot m (j:Int)).2.1=0
 |0,f,_=>⟨rfl,λj h1 h2=>by omega⟩
 | q+1,f,h=>by
  by_cases h0:(Ot m (f:Int)).2.1=0
  ·rw[jG h0]at h ⊢;obtain⟨h1,h2⟩:=qC h;refine⟨h1,λj hj hj2=>?_⟩;rcases Nat.eq_or_lt_of_le hj with rfl|hlt
   ·exact h0
   ·exact h2 j hlt AL
  ·rw[qB h0]at h;exact absurd h h0
theorem av{m}(h:(Mw m).1=0):(Gx m).1=0/\Mw m=Hl∧∀j,j<m.gs.length->(Ot m (j:Int)).2.1=0:=by
 unfold Mw at h ⊢;split at h
 ·rename_i h0;rw[ATv h0];obtain⟨h1,h2⟩:=qC h;exact⟨h0,h1,λj hj=>h2 j (Ar _) AL⟩
 ·exact AVm
theorem AAD{m:Ei}{k}(hk:k<m.gs.length)(h:(Ot m (k:Int)).2.1=0):∃x hf,m.gs[k]?=σ x/\(j3 m (k:Int)).1=0/\uM m.gs x=.inl hf/\Ot m (k:Int)=(hf,Hl):=by
 by_cases h0:(j3 m (k:Int)).1=0
 ·obtain⟨x,hx⟩:∃x,m.gs[k]?=σ x:=⟨_,AQ hk⟩;have hy:=iy h0 hx;cases hr:uM m.gs x with
  |inl hf=>exact⟨x,hf,hx,h0,hr,by rw[hy,hr];rfl⟩
  | inr a =>
   rw[hy,hr]at h;exact absurd (show (24:Int)=0 from h) AJ
 ·rw[p_ h0]at h;exact absurd h h0
def Arr(m:Ei)(f p j:Nat):Prop := ∃(x:Gc)(i:Ins),m.gs[f]?=σ x/\x.code[p]?=σ i∧¬hAt (Ot m (f:Int)).1 p = -1/\i.op=21/\i.arg=j
def Rch(m:Ei)(j:Nat):Prop := ∀S:Nat->Prop,S 0->(∀f p j,S f->Arr m f p j->S j)->S j
open Classical in
noncomputable def APo (m:Ei):List Bool:=(List.range m.gs.length).map λj=>decide (Rch m j)
structure O5 where
 fn:Nat
 nx:Nat
 lo:Nat
 ba:Nat
structure MP where
 FL:Int
 tr:Int
 cl:Int
 fs:List O5
 ss:List Nat
def hgA(m:Ei)(f j:Nat):Int:=hAt (Ot m (f:Int)).1 j
structure FnK(m:Ei)(f:Nat)(g:Gc):Prop where
 h0:hgA m f 0=0
 Ql:∀j,hgA m f j = -1\/(0<=hgA m f j/\hgA m f j<=64)
 len:∀j,hgA m f j ≠ -1->j<g.code.length
 ret:∀(j:Nat) (i:Ins),hgA m f j ≠ -1->g.code[j]?=σ i->i.op=22->hgA m f j=g.r
 uQ:∀(j:Nat) (i:Ins),hgA m f j ≠ -1->g.code[j]?=σ i->(JW m.gs i).1<=hgA m f j
 next:∀(j:Nat) (i:Ins),hgA m f j ≠ -1->g.code[j]?=σ i→∀k∈Oq i j,hgA m f k=hgA m f j+(JW m.gs i).2-(JW m.gs i).1/\hgA m f k ≠ -1
 st:∀(j:Nat) (i:Ins),g.code[j]?=σ i->Ux m.gs.length g j i=0
 ins:∀(j:Nat) (i:Ins),g.code[j]?=σ i->i.err=0
 num:0<=g.p/\0<=g.r/\0<=g.l/\g.p<=64/\g.p+g.l<=64/\g.r<=8/\g.code.length<=1024
 zero:f=0->g.p=0/\g.r=0
theorem XR{m}(hv:(Mw m).1=0){f g}(hg:m.gs[f]?=σ g):FnK m f g:=by
 obtain⟨hc,-,hall⟩:=av hv;have hlt:=(Ab.1 hg).1;obtain⟨x,hf,hx,hs,hr,he⟩:=AAD hlt (hall f hlt);rw[hg]at hx;cases hx;obtain⟨h1,h2,h3,h4,h5,h6,-⟩:=zw hs hg hr;obtain⟨-,k',x',hk',hx',hst⟩:=mK hs;obtain rfl:f=k':=by omega
 rw[hg]at hx';cases hx';obtain⟨-,-,-,-,hck⟩:=ME hc;obtain⟨n1,n2⟩:=hck f g hg;obtain⟨p1,p2,p3,p4,p5,p6,p7,p8,p9⟩:=LG n1;have hA:∀j,hgA m f j=hAt hf j:=λj=>by unfold hgA;rw[he]
 refine⟨(hA 0).trans h3,λj=>by rw[hA];exact h4 j,λj hj=>(h5 j (by rw[<-hA];exact hj)).1,λj i hj hi ho=>?_,λj i hj hi=>?_,λj i hj hi k hk=>?_,hst,λj i hi=>n2 i (AU hi),⟨p1,p2,p3,p4,p5,p6,p8⟩,λe=>p9 (by rw[e];rfl)⟩
 ·rw[hA]at hj ⊢;exact(h5 j hj).2.ret (by rw[N8 hi];exact ho)
 ·rw[hA]at hj ⊢;have:=(h5 j hj).2.uQ;rwa[N8 hi]at this
 ·rw[hA]at hj;rw[hA,hA];have hgd:=(h5 j hj).2;have h7:=hgd.next k (by rw[N8 hi];exact hk);rw[N8 hi]at h7;have h8:=hgd.uQ;rw[N8 hi]at h8;refine⟨h7,?_⟩;have h9:0<=(JW m.gs i).2:=ADt (λg hg=>by
   obtain⟨q,hq⟩:=ATH hg;exact(LG (hck q g hq).1).2.1) _
  omega
inductive Ch(m:Ei):List O5->Int->Prop
 |nil (e:Int):Ch m [] e
 |cons {f:O5} {r:List O5} {g:Gc} {e:Int} : m.gs[f.fn]?=σ g->hgA m f.fn f.nx ≠ -1->(f.ba:Int)=(f.lo:Int)+g.p+g.l->(f.ba:Int)+hgA m f.fn f.nx=e->Ch m r ((f.lo:Int)+g.r)->Ch m (f::r) e
structure MN(m:Ei)(fl sl:Nat)(p:MP):Prop where
 hs:1<=p.FL/\p.FL<=4
 hsl:p.ss.length<=sl
 hfl:p.fs.length<=fl
 u:∀x∈p.ss,x<18446744073709551616
 run:p.FL=1->p.fs≠[]/\Ch m p.fs.reverse p.ss.length
 cal:p.FL=2->p.fs≠[]∧∃c:Nat,p.cl=c/\Lr c/\JG c<=p.ss.length/\p.ss.length-JG c+2<=sl/\Ch m p.fs.reverse ((p.ss.length:Int)-JG c+2)
structure jH(m:Ei)(fl sl:Nat)(p:MP):Prop where
 i:MN m fl sl p
 n:¬p.FL=2
theorem MN.n{m fl sl p}(h:MN m fl sl p)(hn:¬p.FL=2):jH m fl sl p:=⟨h,hn⟩
theorem n42:¬(4:Int)=2:=by decide
theorem n32:¬(3:Int)=2:=by decide
theorem n12:¬(1:Int)=2:=by decide
structure KJ(m:Ei)(p:MP)(r:List O5)(f:O5)(g:Gc)(i:Ins)(h:Nat):Prop where
 hfs:p.fs=r++[f]
 hg:m.gs[f.fn]?=σ g
 hK:FnK m f.fn g
 hi:g.code[f.nx]?=σ i
 hh:hgA m f.fn f.nx=h
 hba:(f.ba:Int)=(f.lo:Int)+g.p+g.l
 he:f.ba+h=p.ss.length
 hr:Ch m r.reverse ((f.lo:Int)+g.r)
theorem MN.top{m fl sl p}(hv:(Mw m).1=0)(hp:MN m fl sl p)(h1:p.FL=1):∃r f g i h,KJ m p r f g i h:=by
 obtain⟨hne,hc⟩:=hp.run h1;obtain⟨r,f,hrf⟩:∃r f,p.fs=r++[f]:=⟨p.fs.dropLast,p.fs.getLast hne,(AUQ hne).symm⟩;have hrev:p.fs.reverse=f::r.reverse:=by rw[hrf];simp
 rw[hrev]at hc;generalize he:(p.ss.length:Int)=e at hc;cases hc with
 | @cons _ _ g _ hg hk hb hs hr =>
  have hK:=XR hv hg;have hlt:=hK.len _ hk;refine⟨r,f,g,g.code[f.nx],(hgA m f.fn f.nx).toNat,hrf,hg,hK,AQ hlt,?_,hb,?_,hr⟩
  ·have:=hK.Ql f.nx;omega
  ·have:=hK.Ql f.nx;omega
section
variable{m:Ei}{fl sl:Nat}{p:MP}{r:List O5}{f:O5}{g:Gc}{i:Ins}{h:Nat}
theorem KJ.known(t:KJ m p r f g i h):1<=i.op/\i.op<=25:=(Ins.JJ (t.hK.ins _ _ t.hi)).1
theorem KJ.live(t:KJ m p r f g i h):hgA m f.fn f.nx ≠ -1:=by have:=t.hh;omega
theorem KJ.nx(t:KJ m p r f g i h):f.nx<1024:=by
 have h1:=t.hK.len _ t.live;have:=t.hK.num;omega
theorem KJ.AH7(t:KJ m p r f g i h):f.fn<m.gs.length:=(Ab.1 t.hg).1
theorem KJ.pop(t:KJ m p r f g i h):(JW m.gs i).1<=h:=by
 have:=t.hK.uQ _ _ t.live t.hi;have:=t.hh;omega
theorem KJ.loc(t:KJ m p r f g i h)(ho:i.op=2\/i.op=3):f.lo+i.arg<f.ba:=by
 have h1:=t.hK.st _ _ t.hi;have h2:=t.hba;unfold Ux at h1;repeat' split at h1
 all_goals first|(cases h1;done)|omega
theorem KJ.call(t:KJ m p r f g i h)(ho:i.op=21):i.arg<m.gs.length:=by
 have h1:=t.hK.st _ _ t.hi;unfold Ux at h1;repeat' split at h1
 all_goals first|(cases h1;done)|omega
theorem KJ.host(t:KJ m p r f g i h)(ho:i.op=23):Lr i.arg:=by
 have h1:=t.hK.st _ _ t.hi;unfold Ux at h1;repeat' split at h1
 all_goals first|(cases h1;done)|(unfold Lr at *;omega)
theorem MN.stop(hp:MN m fl sl p){s t c}(hs:s=3\/s=4){fs ss}(h1:ss.length<=sl)(h2:fs.length<=fl)(hu:∀x∈ss,x<18446744073709551616):MN m fl sl ⟨s,t,c,fs,ss⟩ :=
 ⟨by show 1<=s/\s<=4;omega,h1,h2,hu,λe=>by have e:s=1:=e;omega,λe=>by have e:s=2:=e;omega⟩
theorem MN.go(hp:MN m fl sl p)(t:KJ m p r f g i h){k}(hk:k∈Oq i f.nx){ss}(hl:(ss.length:Int)=p.ss.length+(JW m.gs i).2-(JW m.gs i).1)(hs:ss.length<=sl)(hu:∀x∈ss,x<18446744073709551616){tr c}:
  MN m fl sl ⟨1,tr,c,r++[{ f with nx:=k }],ss⟩:=by
 obtain⟨h1,h2⟩:=t.hK.next _ _ t.live t.hi k hk;have h3:=hp.hfl;rw[t.hfs]at h3;refine⟨AVZ,hs,by simpa using h3,hu,λ_=>⟨by simp,?_⟩,λe=>by cases e⟩;rw[ATj];refine Ch.cons (g:=g) t.hg h2 t.hba ?_ t.hr;have:=t.he;have:=t.hh;show (f.ba:Int)+hgA m f.fn k=(ss.length:Int);omega
theorem JM{k}(h1:¬i.op=19)(h2:¬Ip i.op):k+1∈Oq i k:=by
 unfold Ip at h2;unfold Oq;rw[ATt h1];split
 ·split
  ·simp
  ·split<;>simp
 ·rw[ATt AL];simp
theorem qE{k}(h1:i.op=19\/i.op=20):i.arg∈Oq i k:=by
 unfold Oq;by_cases h:i.op=19
 ·rw[ATv h];simp
 ·rw[ATt h,ATv AL];split
  ·simp
  ·split
   ·simp
   ·have:i.arg=k+1:=by omega
    simp[this]
theorem qF{x}(ho:i.op=21)(hx:m.gs[i.arg]?=σ x):JW m.gs i=(x.p,x.r):=by
 unfold JW;rw[ATv ho,hx];rfl
theorem ACd(ho:i.op=23):JW m.gs i=((JG i.arg:Int),2):=by
 unfold JW;rw[ATt AL,ATv ho]
theorem qG(h1:¬i.op=21)(h2:¬i.op=23):JW m.gs i=((Kk i.op:Int),(Gy i.op:Int)):=by
 unfold JW;rw[ATt h1,ATt h2]
theorem MN.call(hv:(Mw m).1=0)(hp:MN m fl sl p)(t:KJ m p r f g i h)(ho:i.op=21){x}(hx:m.gs[i.arg]?=σ x)(h1:p.fs.length<fl){ss}{lo:Nat}(hlo:(lo:Int)=p.ss.length-x.p)(hl:(ss.length:Int)=p.ss.length+x.l)(hs:ss.length<=sl)(hu:∀x∈ss,x<18446744073709551616){tr c}{b:Nat}(hb:(b:Int)=lo+x.p+x.l):
  MN m fl sl ⟨1,tr,c,r++[{ f with nx:=f.nx+1 }]++[⟨i.arg,0,lo,b⟩],ss⟩:=by
 have hK:=XR hv hx;have hfx:=qF ho hx;obtain⟨h2,h3⟩:=t.hK.next _ _ t.live t.hi (f.nx+1) (JM AL AVS);rw[hfx]at h2;rw[t.hfs]at h1;refine⟨AVZ,hs,by simp at h1 ⊢;omega,hu,λ_=>⟨by simp,?_⟩,λe=>by cases e⟩;have e1:(r++[{ f with nx:=f.nx+1 }]++[⟨i.arg,0,lo,b⟩]:List O5).reverse=⟨i.arg,0,lo,b⟩ :: { f with nx:=f.nx+1 } :: r.reverse:=by simp
 show Ch m (r++[{ f with nx:=f.nx+1 }]++[⟨i.arg,0,lo,b⟩]:List O5).reverse (ss.length:Int);rw[e1];have h0:=hK.h0;refine Ch.cons (g:=x) hx (by show hgA m i.arg 0 ≠ -1;omega) hb ?_ (Ch.cons (g:=g) t.hg h3 t.hba ?_ t.hr)
 ·show (b:Int)+hgA m i.arg 0=_;omega
 ·have:=t.he;have:=t.hh;show (f.ba:Int)+hgA m f.fn (f.nx+1)=(lo:Int)+x.r;dsimp only at h2;omega
theorem KJ.ret(t:KJ m p r f g i h)(ho:i.op=22):(h:Int)=g.r:=by rw[<-t.hh];exact t.hK.ret _ _ t.live t.hi ho
theorem MN.ret(hp:MN m fl sl p)(t:KJ m p r f g i h)(ho:i.op=22)(hr:r≠[]){ss}(hl:(ss.length:Int)=f.lo+g.r)(hu:∀x∈ss,x<18446744073709551616){tr c} : MN m fl sl ⟨1,tr,c,r,ss⟩:=by
 have h1:=t.ret ho;have h2:=t.he;have h3:=t.hba;have h4:=hp.hsl;have h5:=hp.hfl;have h6:=t.hK.num;rw[t.hfs,List.length_append,List.length_singleton]at h5;refine⟨AVZ,by show ss.length<=sl;omega,by show r.length<=fl;omega,hu,λ_=>⟨hr,?_⟩,λe=>by cases e⟩;show Ch m r.reverse (ss.length:Int);rw[hl];exact t.hr
theorem MN.host(hp:MN m fl sl p)(t:KJ m p r f g i h)(ho:i.op=23)(h1:¬(JG i.arg<2/\(sl:Int)<(p.ss.length:Int)-JG i.arg+2)){tr}:
  MN m fl sl ⟨2,tr,(i.arg:Int),r++[{ f with nx:=f.nx+1 }],p.ss⟩:=by
 have hfx:=ACd (m:=m) ho;obtain⟨h2,h3⟩:=t.hK.next _ _ t.live t.hi (f.nx+1) (JM AL AVS);rw[hfx]at h2;have KC:=t.pop;rw[hfx]at KC;dsimp only at h2 KC;have h4:=hp.hfl;have h5:=hp.hsl;have h6:=t.he;have h7:=t.hh;rw[t.hfs]at h4;refine⟨(by decide:(1:Int)<=2/\(2:Int)<=4),hp.hsl,(by simpa using h4),hp.u,(λe=>by cases e),λ_=>⟨by simp,i.arg,rfl,t.host ho,by show JG i.arg<=p.ss.length;omega,by show p.ss.length-JG i.arg+2<=sl;omega,?_⟩⟩;show Ch m (r++[{ f with nx:=f.nx+1 }]:List O5).reverse ((p.ss.length:Int)-JG i.arg+2);rw[ATj];refine Ch.cons (g:=g) t.hg h3 t.hba ?_ t.hr;show (f.ba:Int)+hgA m f.fn (f.nx+1)=_;omega
theorem MN.resume(hp:MN m fl sl p)(h2:p.FL=2){ss}{c:Nat}(hc:p.cl=c)(hl:ss.length=p.ss.length-JG c+2)(hu:∀x∈ss,x<18446744073709551616){tr} : MN m fl sl ⟨1,tr,0,p.fs,ss⟩:=by
 obtain⟨h3,c',h4,h5,h6,h7,h8⟩:=hp.cal h2;obtain rfl:c=c':=by omega
 refine⟨AVZ,by show ss.length<=sl;omega,hp.hfl,hu,λ_=>⟨h3,?_⟩,λe=>by cases e⟩;show Ch m p.fs.reverse (ss.length:Int);rwa[show (ss.length:Int)=(p.ss.length:Int)-JG c+2 by omega]
theorem MN.new(hv:(Mw m).1=0)(hg:m.gs[0]?=σ g){n:Nat}(hn:(n:Int)=g.l)(hs:n<=sl)(hf:1<=fl){ss}(hl:ss.length=n)(hu:∀x∈ss,x<18446744073709551616):MN m fl sl ⟨1,0,0,[⟨0,0,0,n⟩],ss⟩:=by
 have hK:=XR hv hg;refine⟨AVZ,(by show ss.length<=sl;omega),hf,hu,λ_=>⟨by simp,?_⟩,(λe=>by cases e)⟩;have h0:=hK.h0;have h1:=hK.zero rfl;refine Ch.cons (g:=g) hg (by show hgA m 0 0 ≠ -1;omega) (by show (n:Int)=((0:Nat):Int)+g.p+g.l;omega) (by show (n:Int)+hgA m 0 0=(ss.length:Int);omega) (Ch.nil _)
end
def P7(t:QU):List Nat:=WE t.len t.fs
def Qt(f:Gc):List Nat:=[f.p.toNat,f.r.toNat,f.l.toNat,f.code.length].flatMap Gr++f.code.flatMap encI
def JH:List Nat:=[80,72,77,49]
def P8(m:Ei):List Nat:=JH++Gr m.ts.length++m.ts.flatMap P7++Gr m.gs.length++m.gs.flatMap Qt
def S_(m:Ei):Int:=if (Gx m).1=0 then (if 65536<(P8 m).length then 4 else 0) else (Gx m).1
def NN(m:Ei):List Nat:=if S_ m=0 then P8 m else []
theorem UC{α β:Type}{l:List α}{k x}(f:α->List β)(h:l[k]?=σ x):(l.take (k+1)).flatMap f=(l.take k).flatMap f++f x:=by
 obtain⟨hk,hf⟩:=Ab.1 h;rw[CE hk,hf,ASS];simp
theorem XT l m:Gf (l++m)=Gf l++Gf m:=by simp[Gf]
theorem jI{i}(h:i.arg<18446744073709551616):(encI i).length<=11:=by
 have:=El h;unfold encI;split<;>simp<;>omega
theorem ACe{m}(h:¬(Gx m).1=0):S_ m=(Gx m).1/\NN m=[]:=by
 have h1:S_ m=(Gx m).1:=by unfold S_;rw[ATt h]
 exact⟨h1,by unfold NN;rw[h1,ATt h]⟩
theorem AAE{m}(h:(Gx m).1=0)(h2:65536<(P8 m).length):S_ m=4/\NN m=[]:=by
 have h1:S_ m=4:=by unfold S_;rw[ATv h,ATv h2]
 exact⟨h1,by unfold NN;rw[h1,ATt AJ]⟩
theorem qH{m}(h:(Gx m).1=0)(h2:¬65536<(P8 m).length):S_ m=0/\NN m=P8 m:=by
 have h1:S_ m=0:=by unfold S_;rw[ATv h,ATt h2]
 exact⟨h1,by unfold NN;rw[h1,ATv rfl]⟩
theorem ACf{t}(h:Ho t.len t.fs=0):kP t.len t.fs=P7 t:=by unfold kP P7;rw[ATv h]
theorem AAF{i}(h:i.err=0):ZA i=encI i:=by unfold ZA;rw[ATv h]
theorem ax(n:Nat)(h:n<=9223372036854775807):IntKind.u64.wrap (n:Int)=(n:Int):=u64_in AL
structure Cx where
 b:Nat
 tb:Nat
 TA:Option Addr
 tn:Nat
 tc:Nat
 l:List Nat
 loc:Nat
 fns:Nat
 first:Nat
structure ZN where
 A:Option Addr
 n:Nat
 c:Nat
 code:List Ins
 SA:Option Addr
 sn:Nat
 sc:Nat
 st:List Nat
theorem ACg{l}{i x:Nat}(h:l[i]?=σ x):(LY l)[i]?=σ (ε ζ x):=by simp[LY,h]
theorem ACh l:(LY l).length=l.length:=by simp[LY]
theorem qI{l n}(h:(LY l).length=n*1):l.length=n:=by rw[ACh]at h;omega
theorem XW l:ones (LY l)=τ:=by simp[ones,LY,Value.oneCell']
theorem XX l x:LY (l++[x])=LY l++[.int ζ x]:=by simp[LY]
def vU(x:Cx)(s:ZN):List Value:=[π (σ ⟨x.tb,0,ν⟩),ξ s.A s.n s.c,ξ s.SA s.sn s.sc,ε ζ (x.loc:Int),ε ζ (x.fns:Int),ε χ (x.first:Int)]
def Qv(x:Cx)(s:ZN):DW:=.blk x.b 166 (vU x s)
def M9(x:Cx)(i:Nat):DW:=.blk x.tb 122 (tape x.TA x.tn x.tc i)
def P9(i:Ins):Prop:=i.err=0/\i.arg<18446744073709551616
structure XY(w:World)(D E:Nat->Prop)(x:Cx)(s:ZN):Prop where
 code:Sd w D 2 s.A s.n s.c (cl J_ s.code)
 sts:Sd w D 1 s.SA s.sn s.sc (LY s.st)
 tape:Sd w E 1 x.TA x.tn x.tc (Ic x.l)
 ok:∀i∈s.code,P9 i
 sok:∀y∈s.st,y<=100000
structure Hu(w:World)(D E:Nat->Prop)(x:Cx)(s:ZN)(i:Nat):Prop where
 dat:XY w D E x s
 box:w.heap[x.b]?=σ (.cells (vU x s).toArray 166 (0,0))
 AAG:w.heap[x.tb]?=σ (.cells (tape x.TA x.tn x.tc i).toArray 122 (0,0))
 ne:x.b≠x.tb
 dom:∀y,D y\/E y->y<w.heap.size/\y≠x.b/\y≠x.tb
 KL:∀y∈x.l,y<65536
 loc:1<=x.loc/\x.loc<=100
 first:x.first<4294967296
def coP(x:Cx)(D E:Nat->Prop)(kc ki ks:Nat)(s:ZN)(i:Nat)(w:World)(e:Ending)(w':World):Prop :=
 ∃s' i',e=κ (.tuple #[])/\Hu w' (λy=>D y\/Nw w w' y) E x s' i'∧Ii [x.b,x.tb] w w'∧s'.code.length<=s.code.length+kc/\i'≤i+ki/\s'.st.length<=s.st.length+ks/\s.code.length+1 / kc<=s'.code.length/\s.st.length<=s'.st.length
def Dn(D:Nat->Prop)(foot:List Nat)(y:Nat):Prop:=y∈foot\/D y
section
variable{P:Program}{M:List Nat}{W w w' v:World}{L R:List DW}{D D' E:Nat->Prop}{x:Cx}{s s':ZN}{i i':Nat}{foot:List Nat}
theorem XY.same(h:XY w D E x s)(hs:∀y,D y\/E y->w'.heap[y]?=w.heap[y]?)(hD:∀y,D y->D' y):XY w' D' E x s :=
 ⟨h.code.same (λy hy=>hs y (.inl hy)) hD,h.sts.same (λy hy=>hs y (.inl hy)) hD,h.tape.same (λy hy=>hs y (.inr hy)) λ_ h=>h,h.ok,h.sok⟩
theorem Hu.st(h:Hu W D E x s i):St [x.b,x.tb] W [snap [x.b,x.tb] W W [],Qv x s,M9 x i] W:=by
 have h2:=St.two h.box h.AAG h.ne;exact h2.add (snap [x.b,x.tb] W W []) ⟨Ii.refl _ _,λb hb=>by cases hb⟩ (λb hb=>by cases hb) (λr hr b hb=>by cases hb)
theorem St.ACj{b d t u cs ds us es}(h:St M W (.blk b t cs :: .blk d u ds::R) w)(hp:Ii [b,d] w w')(hb:w'.heap[b]?=σ (.cells us.toArray t (0,0)))(hd:w'.heap[d]?=σ (.cells es.toArray u (0,0))):St M W (.blk b t us :: .blk d u es::R) w':=by
 have nP:=h.own (.blk b t cs) (.head _) b AUp;have hdo:=h.own (.blk d u ds) (.tail _ (.head _)) d AUp;have hap:=h.apart;rw[Ak,Ak]at hap;have hR:∀r∈R,∀c∈r.foot,c≠b/\c≠d:=λr hr c hc =>
  ⟨λe=>hap.1 r AU6 b AUp (e▸hc),λe=>hap.2.1 r hr d AUp (e▸hc)⟩
 refine⟨⟨hp.os.trans h.ES.os,hp.tape.trans h.ES.tape,hp.output.trans h.ES.output,AGn h.ES.size hp.size,λj hj hm=>?_⟩,?_,?_,?_⟩
 ·rw[hp.block j (BS hj h.ES.size) (by
   simp only[AP,Ae,AT7];rintro(rfl|rfl)
   ·rcases nP.1 with h1|h1
    ·omega
    ·exact hm h1
   ·rcases hdo.1 with h1|h1
    ·omega
    ·exact hm h1)]
  exact h.ES.block j hj hm
 ·intro r hr;rcases AP.1 hr with rfl|hr
  ·exact hb
  rcases AP.1 hr with rfl|hr
  ·exact hd
  ·exact r.keep (h.holds r AU6) λc hc=>hp.block c (h.own r AU6 c hc).2 (by
    have:=hR r hr c hc;simp[this])
 ·intro r hr c hc;rcases AP.1 hr with rfl|hr
  ·obtain rfl:c=b:=by simpa [DW.foot]using hc
   exact⟨nP.1,BS nP.2 hp.size⟩
  rcases AP.1 hr with rfl|hr
  ·obtain rfl:c=d:=by simpa [DW.foot]using hc
   exact⟨hdo.1,BS hdo.2 hp.size⟩
  ·have:=h.own r AU6 c hc;exact⟨this.1,BS this.2 hp.size⟩
 ·rw[Ak,Ak];refine⟨λr hr c hc=>?_,λr hr c hc=>hap.2.1 r hr c hc,hap.2.2⟩;rcases AP.1 hr with rfl|hr
  ·exact hap.1 (.blk d u ds) (.head _) c hc
  ·exact hap.1 r AU6 c hc
theorem XY.pre(h:XY v (Dn D foot) E x s)(HV:∀y,D y\/E y->y<W.heap.size/\y∉M)(hw:St M W (snap M W v foot::Qv x s::M9 x i::R) w)(KL:∀y∈x.l,y<65536)(loc:1<=x.loc/\x.loc<=100)(first:x.first<4294967296):Hu w (Dn D foot) E x s i:=by
 have hsame:=hw.KX (foot:=foot) (.head _);have hlt:=hw.Zk (foot:=foot) (.head _);have hap:=hw.apart;rw[Ak,Ak]at hap;have hdm:∀y,Dn D foot y\/E y->Dm M W foot y:=λy hy=>by
  rcases hy with(hy|hy)|hy
  ·exact .inl hy
  ·exact .inr (HV y (.inl hy))
  ·exact .inr (HV y (.inr hy))
 have hb:=hw.own (Qv x s) (.tail _ (.head _)) x.b (by simp[DW.foot,Qv]);have ht:=hw.own (M9 x i) (.tail _ (.tail _ (.head _))) x.tb (by simp[DW.foot,M9]);refine⟨h.same (λy hy=>hsame y (hdm y hy)) λ_ h=>h,hw.holds (Qv x s) (.tail _ (.head _)),hw.holds (M9 x i) (.tail _ (.tail _ (.head _))),λe=>?_,λy hy=>⟨hlt y (hdm y hy),?_,?_⟩,KL,loc,first⟩
 ·exact hap.2.1 (M9 x i) (.head _) x.b (by simp[DW.foot,Qv]) (by simp[DW.foot,M9,e])
 ·rintro rfl;rcases hdm _ hy with hy|⟨h1,h2⟩
  ·exact hap.1 (Qv x s) (.head _) x.b hy (by simp[DW.foot,Qv])
  ·rcases hb.1 with h3|h3
   ·omega
   ·exact h2 h3
 ·rintro rfl;rcases hdm _ hy with hy|⟨h1,h2⟩
  ·exact hap.1 (M9 x i) (.tail _ (.head _)) x.tb hy (by simp[DW.foot,M9])
  ·rcases ht.1 with h3|h3
   ·omega
   ·exact h2 h3
theorem EO{g args K kc ki ks}(hD:XY v (Dn D foot) E x s)(HV:∀y,D y\/E y->y<W.heap.size/\y∉M)(KL:∀y∈x.l,y<65536)(loc:1<=x.loc/\x.loc<=100)(first:x.first<4294967296)
  (h:∀w D,Hu w D E x s i->Calls P g args w (coP x D E kc ki ks s i w))
  (hK:∀s' i' v' ADw,XY v' (Dn D ADw) E x s'→s'.code.length<=s.code.length+kc->i'≤i+ki->s'.st.length<=s.st.length+ks->s.code.length+1 / kc<=s'.code.length->s.st.length<=s'.st.length->K τ (.tuple #[]) (snap M W v' ADw::Qv x s'::M9 x i'::R)):
  I6 P M W g args (snap M W v foot::Qv x s::M9 x i::R) K:=λw hw =>
 (h w _ (hD.pre HV hw KL loc first)).mono (by
  rintro e w' ⟨s',i',rfl,hpre,hp,k1,k2,k3,k4,k5⟩;have h1:St M W (Qv x s'::M9 x i'::R) w':=hw.tail.ACj hp hpre.box hpre.AAG;have hfo:=hw.own (snap M W v foot) (.head _);have hfa:=(Ak.1 hw.apart).1;have h2:St M W (snap M W w' (foot++List.range' w.heap.size (w'.heap.size-w.heap.size))::Qv x s'::M9 x i'::R) w':=by
   refine h1.add _ ⟨h1.ES,λ_ _=>rfl⟩ (λb hb=>?_) λr hr b hb hbr=>?_
   ·rcases AV.1 hb with hb|hb
    ·have:=hfo b hb;exact⟨this.1,BS this.2 hp.size⟩
    ·have:=ASa.1 hb;have:=hw.ES.size;exact⟨.inl AL,by omega⟩
   ·have hr':∃r'∈(Qv x s::M9 x i::R),r'.foot=r.foot:=by
     rcases AP.1 hr with rfl|hr
     ·exact⟨Qv x s,.head _,rfl⟩
     rcases AP.1 hr with rfl|hr
     ·exact⟨M9 x i,.tail _ (.head _),rfl⟩
     ·exact⟨r,by simp[hr],rfl⟩
    obtain⟨r',hr1,hr2⟩:=hr';rw[<-hr2]at hbr;rcases AV.1 hb with hb|hb
    ·exact hfa r' hr1 b hb hbr
    ·have:=ASa.1 hb;have:=(hw.own r' (Bg _ hr1) b hbr).2;omega
  refine⟨_,_,rfl,h2,hK s' i' w' _ (hpre.dat.same (λ_ _=>rfl) λy hy=>?_) k1 k2 k3 k4 k5⟩;rcases hy with(hy|hy)|hy
  ·exact .inl (AV.2 (.inl hy))
  ·exact .inr hy
  ·refine .inl (AV.2 (.inr (ASa.2 ?_)));unfold Nw at hy;omega)
theorem Hu.done(h0:Hu W D E x s i)(hw:St [x.b,x.tb] W (snap [x.b,x.tb] W v foot::Qv x s'::M9 x i'::R) w)(h:XY v (Dn D foot) E x s'){kc ki ks}(k1:s'.code.length<=s.code.length+kc)(k2:i'≤i+ki)(k3:s'.st.length<=s.st.length+ks)(k4:s.code.length+1 / kc<=s'.code.length)(k5:s.st.length<=s'.st.length):
  coP x D E kc ki ks s i W (κ (.tuple #[])) w:=by
 have hp:=h.pre (λy hy=>by have:=h0.dom y hy;exact⟨this.1,by simp[this]⟩) hw h0.KL h0.loc h0.first;have hfo:=hw.own (snap [x.b,x.tb] W v foot) (.head _);have hcv:∀y,Dn D foot y->D y\/Nw W w y:=λy hy=>by
  rcases hy with hy|hy
  ·have h1:=hfo y hy;have h2:=hp.dom y (.inl (.inl hy));refine .inr ⟨?_,h1.2⟩;rcases h1.1 with h3|h3
   ·exact h3
   ·simp[h2]at h3
  ·exact .inl hy
 refine⟨s',i',rfl,⟨hp.dat.same (λ_ _=>rfl) hcv,hp.box,hp.AAG,hp.ne,λy hy=>?_,hp.KL,hp.loc,hp.first⟩,hw.ES,k1,k2,k3,k4,k5⟩;rcases hy with(hy|hy)|hy
 ·exact hp.dom y (.inl (.inr hy))
 ·exact AVi
 ·exact hp.dom y (.inr hy)
theorem Hu.in0(h:Hu W D E x s i):XY W (Dn D []) E x s:=h.dat.same (λ_ _=>rfl) λy hy=>.inr hy
theorem Hu.HV(h:Hu W D E x s i):∀y,D y\/E y->y<W.heap.size/\y∉[x.b,x.tb]:=λy hy=>by
 have:=h.dom y hy;exact⟨this.1,by simp[this]⟩
theorem Hu.fin(h0:Hu W D E x s i)(hw:St [x.b,x.tb] W L w)(hb:w.heap[x.b]?=σ (.cells (vU x s').toArray 166 (0,0)))(ht:w.heap[x.tb]?=σ (.cells (tape x.TA x.tn x.tc i').toArray 122 (0,0)))
  (hc:Sd w (λy=>D y\/Nw W w y) 2 s'.A s'.n s'.c (cl J_ s'.code)) (hs:Sd w (λy=>D y\/Nw W w y) 1 s'.SA s'.sn s'.sc (LY s'.st)) (ok:∀i∈s'.code,P9 i) (sok:∀y∈s'.st,y<=100000)
  {kc ki ks} (k1:s'.code.length<=s.code.length+kc) (k2:i'≤i+ki) (k3:s'.st.length<=s.st.length+ks) (k4:s.code.length+1 / kc<=s'.code.length) (k5:s.st.length<=s'.st.length):coP x D E kc ki ks s i W (κ (.tuple #[])) w:=by
 have hE:∀y,E y->w.heap[y]?=W.heap[y]? := λy hy=>by
  have:=h0.dom y (.inr hy);exact hw.ES.block y this.1 (by simp[this])
 refine⟨s',i',rfl,⟨⟨hc,hs,h0.dat.tape.same hE λ_ h=>h,ok,sok⟩,hb,ht,h0.ne,λy hy=>?_,h0.KL,h0.loc,h0.first⟩,hw.ES,k1,k2,k3,k4,k5⟩;have hsz:=hw.ES.size;rcases hy with(hy|hy)|hy
 ·have:=h0.dom y (.inl hy);exact⟨by omega,this.2⟩
 ·exact AVi
 ·have:=h0.dom y (.inr hy);exact⟨by omega,this.2⟩
theorem Hu.old(h0:Hu W D E x s i)(hw:St [x.b,x.tb] W L w):∀y,D y->w.heap[y]?=W.heap[y]? := λy hy=>by
 have:=h0.dom y (.inl hy);exact hw.ES.block y this.1 (by simp[this])
theorem XY.tp(h:XY v (Dn D foot) E x s)(HV:∀y,D y\/E y->y<W.heap.size/\y∉M)(hw:St M W L w)k(hk:nth L k=σ (snap M W v foot)):Sl w w.heap.size 1 x.TA x.tn x.tc (Ic x.l) :=
 Sd.at (h.tape.mono λy hy=>.inr (HV y (.inr hy))) hw k hk
theorem XY.ay(h:XY v (Dn D foot) E x s)(hE:∀y,E y->y≠x.tb):0<x.tn->TJ x.TA [x.tb]:=λhn b o e=>by
 obtain⟨b',off,e',hb,_⟩:=h.tape.cells hn;rw[e']at e;cases e;simpa using hE _ hb
theorem XY.cd(h:XY v (Dn D foot) E x s)(HV:∀y,D y\/E y->y<W.heap.size/\y∉M)(hw:St M W L w)k(hk:nth L k=σ (snap M W v foot)):Sl w w.heap.size 2 s.A s.n s.c (cl J_ s.code) :=
 Sd.at (h.code.mono λy hy=>hy.imp id λhy=>HV y (.inl hy)) hw k hk
theorem XY.sd(h:XY v (Dn D foot) E x s)(HV:∀y,D y\/E y->y<W.heap.size/\y∉M)(hw:St M W L w)k(hk:nth L k=σ (snap M W v foot)):Sl w w.heap.size 1 s.SA s.sn s.sc (LY s.st) :=
 Sd.at (h.sts.mono λy hy=>hy.imp id λhy=>HV y (.inl hy)) hw k hk
end
def Gz:=AO (AO @Qv.eq_1 (AO @M9.eq_1 @vU.eq_1)) (AO (AO @tape.eq_1 @I7.eq_1) (AO @cS @Ac))
theorem KD x D E s0 i op(arg:Nat)W(hp:Hu W D E x s0 i)(hk:Jf op)(ha:Py op\/arg=0)(hb:arg<=9223372036854775807)(hl:s0.code.length<=10000):
  Calls AGm 56 #[π (σ ⟨x.b,0,ν⟩),ε ζ op,ε ζ (arg:Int)] W (coP x D E 1 0 0 s0 i W):=by
 have hne:=hp.ne;have hD0:=hp.in0;have HV:=hp.HV;have hln:s0.code.length=s0.n:=GM Gw AL hD0.code.len;have ea:=ax arg hb;have hio:P9 ⟨op,arg⟩:=⟨by unfold Ins.err;rw[ATt (by simpa using hk),ATt (by rintro⟨h1,h2⟩;exact ha.elim h1 h2)],by dsimp only;omega⟩;refine DL (M:=[x.b,x.tb]) Tryz.func56 []  hp.st ?_;refine DJ rfl ?_;have zs:=Bd.mk Gz;refine Ed ea ?_;intro b7 fZ h7;refine Ed ea ?_;refine EI 0 PR rfl rfl (λw hw=>by exact(hD0.cd HV hw 1 rfl).reads) (Zd Y_ _) AL AL ?_;intro A1 c1 hl1 hr1;refine Ed ea ?_;intro b8 vO h8;refine D6 1 PR rfl (λw hw=>D_ (size:=2) (.head _) rfl hw) rfl AL AL ?_;intro A2 c2 hl2 hr2;refine DR ?_;refine⟨_,rfl,λw hw=>?_⟩;refine hp.fin (s':=⟨A2,s0.n+1,c2,s0.code++[⟨op,arg⟩],s0.SA,s0.sn,s0.sc,s0.st⟩) (i':=i) hw (hw.hold 3 rfl) (hw.hold 4 rfl) ?_ ((hp.dat.sts.same (hp.old hw)) λy hy=>.inl hy) ?_ hp.dat.sok AUq AL AUq AUq AUq
 ·exact AVw
 ·intro y hy;rcases AV.1 hy with hy|hy
  ·exact hp.dat.ok y hy
  ·obtain rfl:y=⟨op,arg⟩:=by simpa using hy
   exact hio
theorem KE x D E s0(i n:Nat)W(hp:Hu W D E x s0 i)(hn:0<n/\n<=100000)(hi:i<=900000)(hl:s0.code.length<=10000):
  Calls AGm 86 #[π (σ ⟨x.b,0,ν⟩),ε ζ (n:Int)] W (coP x D E 1 1 0 s0 i W):=by
 have hne:=hp.ne;have hD0:=hp.in0;have HV:=hp.HV;have hE:=λy hy=>(hp.dom y (.inr hy)).2.2;have hnx:=EU (l:=x.l) (i:=i) (m:=n) hn.1;refine DL (M:=[x.b,x.tb]) Tryz.func86 []  hp.st ?_;refine DJ rfl ?_;have zs:=Bd.mk Gz;refine DR ?_;refine Dj 2 (λw hw=>EC x.tb x.TA x.tn x.tc x.l i n w (hw.hold 2 rfl) (hD0.tp HV hw 0 rfl) (hD0.ay hE) hp.KL AL AL) rfl ?_;try refine DR ?_
 refine EO (x:=x) (s:=s0) (i:=i+1) hD0 HV hp.KL hp.loc hp.first (λw D hp=>KD x D E s0 (i+1) 1 (D7 x.l i n) w hp AJ (.inl AJ) AL hl) ?_;intro s1 i1 v1 f1 hD1 ka1 kb1 kc1 kd1 ke1;refine DR ?_;refine⟨_,rfl,λw hw=>?_⟩;exact hp.done hw hD1 AL AL AL AL AL
theorem AH8 op a b:0<=bits op υ a b/\bits op υ a b<18446744073709551616:=by
 unfold bits;dsimp only;rw[IntKind.wrap_u64];omega
def AAH:=AO (AO (AO @Qv.eq_1 (AO @M9.eq_1 @vU.eq_1)) (AO (AO @tape.eq_1 @I7.eq_1) (AO @cS @Ac))) (AO (AO (AO @IntKind.bits.eq_1 @IntKind.bits.eq_2) (AO @IntKind.bits.eq_3 @IntKind.bits.eq_4)) (AO (AO @IntKind.bits.eq_5 @IntKind.bits.eq_6) (AO @IntKind.bits.eq_7 @IntKind.bits.eq_8)))
theorem AAI b A n c l(i first:Nat)W(hW:W.heap[b]?=σ (.cells (tape A n c i).toArray 122 (0,0)))(hE:Sl W W.heap.size 1 A n c (Ic l))(ha:0<n->TJ A [b])(hl:∀x∈l,x<65536)(hi:i<=900000):
  Calls AGm 175 #[π (σ ⟨b,0,ν⟩),ε χ (first:Int)] W (λe w' => ∃p:Nat×Nat,e=κ (ε υ (p.1:Int))/\(p.1<18446744073709551616/\p.2<=i+10)/\w'.heap[b]?=σ (.cells (tape A n c p.2).toArray 122 (0,0))/\Ii [b] W w'):=by
 have hn8:=EU (l:=l) (i:=i+1) (m:=8) AL;have APq:=EU (l:=l) (i:=i+1+1+1+1+1) (m:=64) AL;have e64:IntKind.u64.wrap ((D7 l (i+1+1+1+1+1) 64:Nat):Int)=((D7 l (i+1+1+1+1+1) 64:Nat):Int):=u64_in AL;have rq:=EU (l:=l) (i:=i+1+1) (m:=3) AL;have e1:IntKind.i64.wrap (1+((D7 l (i+1+1) 3:Nat):Int))=((1+D7 l (i+1+1) 3:Nat):Int):=by rw[DT AL AL];omega
 have e2:IntKind.u64.wrap ((1+D7 l (i+1+1) 3:Nat):Int)=((1+D7 l (i+1+1) 3:Nat):Int):=u64_in AL;obtain⟨U,hU⟩:∃U,IntKind.u64.wrap (((1+D7 l (i+1+1) 3:Nat):Int)*2 ^ 56)=U:=⟨_,rfl⟩;refine DL (M:=[b]) Tryz.func175 [.tmp 4]  (St.one hW) ?_;have zs:=Bd.mk AAH;refine DZ ?_;refine C9 rfl λK k0=>DR ?_;refine Dj 0 (λw hw=>EC b A n c l i 3 w (hw.hold 0 rfl) (hE.Gq hw ha) ha hl AL AL) rfl ?_;try refine DR ?_
 refine Dj 0 (λw hw=>EC b A n c l (i+1) 8 w (hw.hold 0 rfl) (hE.Gq hw ha) ha hl AL AL) rfl ?_;try refine DR ?_
 refine k0 _ _ (NB λG1 hG=>?_);have X7:=AUE hG 0;have Qh:=AUE hG 5;clear hG;try simp -implicitDefEqProofs (disch:=first|omega|decide) only [seval,-Int.reducePow,-Nat.reducePow,cC,pv,D5,EH,undef,AAH]at X7 Qh
 have g1:=AO X7 Qh;obtain⟨V5,Qh⟩:∃V:Int,G1 5=ε υ V:=⟨_,Qh⟩;have g1:=AO X7 Qh;rename_i zk;clear zk;have g1:=AO X7 Qh;obtain⟨B,hB⟩:∃B,bits .and υ V5 4294967295=B:=⟨_,rfl⟩;obtain⟨C,hC⟩:∃C,IntKind.u64.wrap (B*2 ^ 24)=C:=⟨_,rfl⟩;refine C9 rfl λK k0=>?_;have zg:=Bd.mk g1;refine DD ?_;refine Dj 0 (λw hw=>EC b A n c l (i+1+1) 3 w (hw.hold 0 rfl) (hE.Gq hw ha) ha hl AL AL) rfl ?_;try refine DU (AO e1 (AO e2 (AO hU (AO hB hC)))) ?_
 refine Dj 0 (λw hw=>EC b A n c l (i+1+1+1) 6 w (hw.hold 0 rfl) (hE.Gq hw ha) ha hl AL AL) rfl ?_;try refine DU (AO e1 (AO e2 (AO hU (AO hB hC)))) ?_
 refine k0 _ _ (NB λG2 hG=>?_);have kY:=AUE hG 0;have AAJ:=AUE hG 6;clear hG;try simp -implicitDefEqProofs (disch:=first|omega|decide) only [seval,-Int.reducePow,-Nat.reducePow,cC,pv,D5,EH,undef,AAH,g1]at kY AAJ
 have g2:=AO kY AAJ;obtain⟨V0,hV0,AAJ⟩:∃V:Int,(0<=V/\V<18446744073709551616)/\G2 6=ε υ V:=by
  refine⟨_,?_,AAJ⟩;exact AH8 _ _ _
 rename_i zk;clear zk;have g2:=AO kY AAJ;refine Cw λK k0=>?_;refine Df (λ_ _=>True) (λF' L' => ∃(V:Int)(j:Nat),F' 6=ε υ V/\L'=[I7 b A n c j]/\0<=V/\V<18446744073709551616/\j<=i+10) ?_ ?_
 ·refine C9 rfl λK k1=>?_;replace zg:=Bd.mk g2;refine DD ?_;refine Dj 0 (λw hw=>EC b A n c l (i+1+1+1+1) 20 w (hw.hold 0 rfl) (hE.Gq hw ha) ha hl AL AL) rfl ?_;try refine DD ?_
  refine k1 _ _ ?_;refine Ec (λhc=>?_) λhc=>?_
  ·refine DJ rfl (DD ?_);refine Dj 0 (λw hw=>EC b A n c l (i+1+1+1+1+1) 64 w (hw.hold 0 rfl) (hE.Gq hw ha) ha hl AL AL) rfl ?_;try refine DD ?_
   refine DU e64 ?_;have hx:=AH8 .xor V0 (IntKind.u64.wrap (1*2 ^ D7 l (i+1+1+1+1+1) 64));generalize bits .xor υ V0 (IntKind.u64.wrap (1*2 ^ D7 l (i+1+1+1+1+1) 64))=V1 at *;refine⟨V1,i+6,?_⟩;refine DD ?_;exact⟨hx.1,hx.2,by omega⟩
  ·refine Cz ?_;try simp only[Di,Dq]
   (try refine⟨trivial,?_⟩)
   refine⟨V0,i+5,?_⟩;refine DD ?_;exact⟨hV0.1,hV0.2,by omega⟩
 intro G3 L' _ hF;obtain⟨V,j,q6,rfl,⟨hV0,hV1,hj⟩⟩:=hF;have AEe:=q6;clear q6;have g3:=AEe;refine k0 _ _ ?_;obtain⟨y,rfl⟩:=ASl hV0;replace zg:=Bd.mk g3;refine Db ?_;refine C8 (EP λw hw=>?_);exact⟨(y,j),rfl,⟨by omega,hj⟩,hw.hold 0 rfl,hw.ES⟩
theorem JN x D E s0 i op W(hp:Hu W D E x s0 i)(hk:op=2\/op=3)(hi:i<=900000)(hl:s0.code.length<=10000):
  Calls AGm 87 #[π (σ ⟨x.b,0,ν⟩),ε ζ op] W (coP x D E 1 1 0 s0 i W):=by
 have hne:=hp.ne;have hD0:=hp.in0;have HV:=hp.HV;have hloc:=hp.loc;have hE:=λy hy=>(hp.dom y (.inr hy)).2.2;have hnx:=EU (l:=x.l) (i:=i) (m:=x.loc) AL;refine DL (M:=[x.b,x.tb]) Tryz.func87 []  hp.st ?_;refine K3 (FD [0,1] [(τ,0),(τ,1),(τ,2),(τ,3),(τ,4),(τ,5),(τ,6),(τ,7),(τ,8),(τ,9),(ο,10),(ο,11)] [11] ?_);have zs:=Bd.mk Gz;refine DR ?_;refine Dj 2 (λw hw=>EC x.tb x.TA x.tn x.tc x.l i x.loc w (hw.hold 2 rfl) (hD0.tp HV hw 0 rfl) (hD0.ay hE) hp.KL AL AL) rfl ?_;try refine DR ?_
 refine EO (x:=x) (s:=s0) (i:=i+1) hD0 HV hp.KL hp.loc hp.first (λw D hp=>KD x D E s0 (i+1) op (D7 x.l i x.loc) w hp AL (.inl AL) AL hl) ?_;intro s1 i1 v1 f1 hD1 ka1 kb1 kc1 kd1 ke1;refine DR ?_;refine⟨_,rfl,λw hw=>?_⟩;exact hp.done hw hD1 AL AL AL AL AL
theorem ACk x D E s0(i call:Nat)W(hp:Hu W D E x s0 i)(hc:call<=100)(hi:i<=800000)(hl:s0.code.length<=9000):
  Calls AGm 131 #[π (σ ⟨x.b,0,ν⟩),ε ζ (call:Int)] W (coP x D E 3 2 0 s0 i W):=by
 have hne:=hp.ne;have hD0:=hp.in0;have HV:=hp.HV;have hE:=λy hy=>(hp.dom y (.inr hy)).2.2;refine DL (M:=[x.b,x.tb]) Tryz.func131 []  hp.st ?_;refine C9 rfl λK k0=>?_;have zs:=Bd.mk Gz;refine DR ?_;refine EO (x:=x) (s:=s0) (i:=i) hD0 HV hp.KL hp.loc hp.first (λw D hp=>KD x D E s0 i 23 call w hp AJ (.inl AJ) AL AL) ?_;intro s1 i1 v1 f1 hD1 ka1 kb1 kc1 kd1 ke1;refine DR (k0 _ _ ?_);refine C9 rfl λK k0=>DR ?_;refine EO (x:=x) (s:=s1) (i:=i1) hD1 HV hp.KL hp.loc hp.first (λw D hp=>KD x D E s1 i1 4 0 w hp AJ (.inr rfl) AL AL) ?_;intro s2 i2 v2 f2 hD2 vV vW vX vY vZ;refine DR (k0 _ _ ?_);refine C9 rfl λK k0=>DR ?_;refine Dj 2 (λw hw=>EC x.tb x.TA x.tn x.tc x.l i2 3 w (hw.hold 2 rfl) (hD2.tp HV hw 0 rfl) (hD2.ay hE) hp.KL AL AL) rfl ?_;try refine DR ?_
 refine k0 _ _ ?_;refine NC (λhc=>?_) λhc=>?_
 ·refine DJ rfl (DR ?_);refine EO (x:=x) (s:=s2) (i:=i2+1) hD2 HV hp.KL hp.loc hp.first (λw D hp=>JN x D E s2 (i2+1) 3 w hp (.inr rfl) AL AL) ?_;exact AVk
 ·refine DJ rfl (DR ?_);refine EO (x:=x) (s:=s2) (i:=i2+1) hD2 HV hp.KL hp.loc hp.first (λw D hp=>KD x D E s2 (i2+1) 4 0 w hp AJ (.inr rfl) AL AL) ?_;exact AVk
theorem ZO x D E s0 i W(hp:Hu W D E x s0 i)(hi:i<=800000)(hl:s0.code.length<=9000):
  Calls AGm 130 #[π (σ ⟨x.b,0,ν⟩)] W (coP x D E 1 11 0 s0 i W):=by
 have hne:=hp.ne;have hD0:=hp.in0;have HV:=hp.HV;have hE:=λy hy=>(hp.dom y (.inr hy)).2.2;have hln:s0.code.length=s0.n:=GM Gw AL hD0.code.len;refine DL (M:=[x.b,x.tb]) Tryz.func130 []  hp.st ?_;refine Cw λK k0=>C9 rfl λK k1=>?_;have zs:=Bd.mk Gz;refine DR ?_;refine Dj 2 (λw hw=>EC x.tb x.TA x.tn x.tc x.l i 4 w (hw.hold 2 rfl) (hD0.tp HV hw 0 rfl) (hD0.ay hE) hp.KL AL AL) rfl ?_;try refine DR ?_
 refine k1 _ _ ?_;refine NC (λhc=>?_) λhc=>?_
 ·refine Cw λK k1=>FD [0,1] [(τ,0),(τ,2),(τ,3),(τ,4),(τ,5),(τ,7),(τ,8),(τ,9),(τ,10),(τ,11),(τ,12),(τ,13),(τ,14),(ο,1),(ο,6),(ο,15),(τ,16),(ο,17),(ο,18),(τ,19),(τ,20),(ο,21)] [21] ?_;refine DR ?_;intro b9 vT h9;refine EI 0 PR rfl rfl (λw hw=>by exact(hD0.cd HV hw 1 rfl).reads) (Zd Y_ _) AL AL ?_;intro A1 c1 hl1 hr1;refine DR ?_;refine Yd 3 (λp:Nat×Nat=>ε υ (p.1:Int)) (λp=>tape x.TA x.tn x.tc p.2) (λp=>p.1<18446744073709551616/\p.2<=i+1+10) rfl (λw hw=>AAI x.tb x.TA x.tn x.tc x.l (i+1) x.first w (hw.hold 3 rfl) (hD0.tp HV hw 1 rfl) (hD0.ay hE) hp.KL AL) ?_;rintro⟨y,j⟩ ⟨hy,hj⟩;dsimp only at hy hj;refine DR ?_;intro b10 NG h10;refine D6 1 PR rfl (λw hw=>D_ (size:=2) (.head _) rfl hw) rfl AL AL ?_;intro A2 c2 hl2 hr2;refine DR (k1 _ _ ?_);refine C8 (Eg λw hw=>?_);refine hp.fin (s':=⟨A2,s0.n+1,c2,s0.code++[⟨1,y⟩],s0.SA,s0.sn,s0.sc,s0.st⟩) (i':=j) hw (hw.hold 3 rfl) (hw.hold 4 rfl) ?_ ((hp.dat.sts.same (hp.old hw)) λy hy=>.inl hy) ?_ hp.dat.sok AUq AL AUq AUq AUq
  ·exact AVw
  ·intro z hz;rcases AV.1 hz with hz|hz
   ·exact hp.dat.ok z hz
   ·obtain rfl:z=⟨1,y⟩:=by simpa using hz
    exact⟨rfl,hy⟩
 refine Cz (k0 _ _ (DJ rfl (DR ?_)));refine EO (x:=x) (s:=s0) (i:=i+1) hD0 HV hp.KL hp.loc hp.first (λw D hp=>JN x D E s0 (i+1) 2 w hp (.inl rfl) AL AL) ?_;intro s1 i1 v1 f1 hD1 ka1 kb1 kc1 kd1 ke1;refine DR ?_;refine⟨_,rfl,λw hw=>?_⟩;exact hp.done hw hD1 AL AL AL AL AL
theorem uS x D E s0(i call:Nat)W(hp:Hu W D E x s0 i)(hc:call<=100)(hi:i<=700000)(hl:s0.code.length<=8000):
  Calls AGm 88 #[π (σ ⟨x.b,0,ν⟩),ε ζ (call:Int)] W (coP x D E 9 30 0 s0 i W):=by
 have hne:=hp.ne;have hD0:=hp.in0;have HV:=hp.HV;have hE:=λy hy=>(hp.dom y (.inr hy)).2.2;refine DL (M:=[x.b,x.tb]) Tryz.func88 []  hp.st ?_;refine C9 rfl λK k0=>?_;have zs:=Bd.mk Gz;refine DR ?_;refine EO (x:=x) (s:=s0) (i:=i) hD0 HV hp.KL hp.loc hp.first (λw D hp=>ZO x D E s0 i w hp AL AL) ?_;intro s1 i1 v1 f1 hD1 ka1 kb1 kc1 kd1 ke1;refine DR (k0 _ _ ?_);refine Cw λK k0=>DZ ?_;refine NB λG4 hG=>?_;have iY:=AUE hG 0;have ACl:=AUE hG 1;have AFn:=AUE hG 6;clear hG;try simp -implicitDefEqProofs (disch:=first|omega|decide) only [seval,-Int.reducePow,-Nat.reducePow,cC,pv,D5,EH,undef,Gz]at iY ACl AFn
 have g4:=AO iY (AO ACl AFn);refine Df (λ_ _=>True) (λF' L' => ∃(s9:ZN)(i9:Nat)(v9:World)(f9:List Nat),F' 0=G4 0/\F' 1=G4 1/\L'=[snap [x.b,x.tb] W v9 f9,Qv x s9,M9 x i9]/\XY v9 (Dn D f9) E x s9/\s9.code.length<=s1.code.length+5/\i9<=i1+16/\s9.st.length<=s1.st.length/\s1.code.length<=s9.code.length/\s1.st.length<=s9.st.length) ?_ ?_
 ·refine DK ?_;have zg:=Bd.mk g4;refine Db ?_;refine Ec (λhc=>?_) λhc=>?_
  ·refine DJ rfl (DD ?_);refine EO (x:=x) (s:=s1) (i:=i1) hD1 HV hp.KL hp.loc hp.first (λw D hp=>KE x D E s1 i1 5 w hp AL AL AL) ?_;exact AVn
  refine Db ?_;refine Ec (λhc=>?_) λhc=>?_
  ·refine C9 rfl λK k1=>DD ?_;refine EO (x:=x) (s:=s1) (i:=i1) hD1 HV hp.KL hp.loc hp.first (λw D hp=>KE x D E s1 i1 5 w hp AL AL AL) ?_;intro s2 i2 v2 f2 hD2 vV vW vX vY vZ;refine DD (k1 _ _ ?_);refine DJ rfl (DD ?_);refine EO (x:=x) (s:=s2) (i:=i2) hD2 HV hp.KL hp.loc hp.first (λw D hp=>KE x D E s2 i2 300 w hp AL AL AL) ?_;intro s3 i3 v3 f3 hD3 ka3 kb3 kc3 kd3 ke3;refine DD ?_;refine⟨s3,i3,v3,f3,?_⟩;refine DD ?_;exact⟨hD3,by omega⟩
  refine Db ?_;refine Ec (λhc=>?_) λhc=>?_
  ·refine C9 rfl λK k1=>DD ?_;refine EO (x:=x) (s:=s1) (i:=i1) hD1 HV hp.KL hp.loc hp.first (λw D hp=>KE x D E s1 i1 9 w hp AL AL AL) ?_;intro s2 i2 v2 f2 hD2 vV vW vX vY vZ;refine DD (k1 _ _ ?_);refine DJ rfl (DD ?_);refine EO (x:=x) (s:=s2) (i:=i2) hD2 HV hp.KL hp.loc hp.first (λw D hp=>KE x D E s2 i2 10 w hp AL AL AL) ?_;intro s3 i3 v3 f3 hD3 ka3 kb3 kc3 kd3 ke3;refine DD ?_;refine⟨s3,i3,v3,f3,?_⟩;refine DD ?_;exact⟨hD3,by omega⟩
  refine Db ?_;refine Ec (λhc=>?_) λhc=>?_
  ·refine C9 rfl λK k1=>DD ?_;refine EO (x:=x) (s:=s1) (i:=i1) hD1 HV hp.KL hp.loc hp.first (λw D hp=>KE x D E s1 i1 9 w hp AL AL AL) ?_;intro s2 i2 v2 f2 hD2 vV vW vX vY vZ;refine DD (k1 _ _ ?_);refine C9 rfl λK k1=>DD ?_;refine EO (x:=x) (s:=s2) (i:=i2) hD2 HV hp.KL hp.loc hp.first (λw D hp=>KE x D E s2 i2 10 w hp AL AL AL) ?_;intro s3 i3 v3 f3 hD3 ka3 kb3 kc3 kd3 ke3;refine DD (k1 _ _ ?_);refine DJ rfl (DD ?_);refine EO (x:=x) (s:=s3) (i:=i3) hD3 HV hp.KL hp.loc hp.first (λw D hp=>JN x D E s3 i3 2 w hp (.inl rfl) AL AL) ?_;intro s4 i4 v4 f4 hD4 ka4 kb4 kc4 kd4 ke4;refine DD ?_;refine⟨s4,i4,v4,f4,?_⟩;refine DD ?_;exact⟨hD4,by omega⟩
  refine Db ?_;refine Ec (λhc=>?_) λhc=>?_
  ·refine C9 rfl λK k1=>DD ?_;refine EO (x:=x) (s:=s1) (i:=i1) hD1 HV hp.KL hp.loc hp.first (λw D hp=>KE x D E s1 i1 9 w hp AL AL AL) ?_;intro s2 i2 v2 f2 hD2 vV vW vX vY vZ;refine DD (k1 _ _ ?_);refine C9 rfl λK k1=>DD ?_;refine EO (x:=x) (s:=s2) (i:=i2) hD2 HV hp.KL hp.loc hp.first (λw D hp=>ZO x D E s2 i2 w hp AL AL) ?_;intro s3 i3 v3 f3 hD3 ka3 kb3 kc3 kd3 ke3;refine DD (k1 _ _ ?_);refine C9 rfl λK k1=>DD ?_;refine EO (x:=x) (s:=s3) (i:=i3) hD3 HV hp.KL hp.loc hp.first (λw D hp=>KE x D E s3 i3 9 w hp AL AL AL) ?_;intro s4 i4 v4 f4 hD4 ka4 kb4 kc4 kd4 ke4;refine DD (k1 _ _ ?_);refine DJ rfl (DD ?_);refine EO (x:=x) (s:=s4) (i:=i4) hD4 HV hp.KL hp.loc hp.first (λw D hp=>KE x D E s4 i4 9 w hp AL AL AL) ?_;intro s5 i5 v5 f5 hD5 ka5 kb5 kc5 kd5 ke5;refine DD ?_;refine⟨s5,i5,v5,f5,?_⟩;refine DD ?_;exact⟨hD5,by omega⟩
  refine Cw λK k1=>?_;refine Df (λ_ _=>True) (λF' L'=>F' 0=G4 0/\F' 1=G4 1/\F' 6=G4 6/\F' 41=θ (decide (call=8\/call=9\/call=10))/\L'=[snap [x.b,x.tb] W v1 f1,Qv x s1,M9 x i1]) ?_ ?_
  ·refine Db ?_;refine Ec (λhc=>?_) λhc=>?_
   ·have q0:=AT0 ‹_›;exact AUm
   have q0:=AUD ‹_›;refine Db ?_;refine Ec (λhc=>?_) λhc=>?_
   ·have q1:=AT0 ‹_›;exact AUm
   have q1:=AUD ‹_›;refine DJ rfl (DD ?_);all_goals (repeat' refine AO ?_ ?_)
   all_goals exact Ev
  intro G5 L' _ hF;obtain⟨q0,q1,q6,q41,rfl⟩:=hF;have AFa:=q0.trans iY;have ALJ:=q1.trans ACl;have ALK:=q6.trans AFn;have AID:=q41;clear q0 q1 q6 q41;have g5:=AO AFa (AO ALJ (AO ALK AID));refine k1 _ _ ?_;replace zg:=Bd.mk (AO g4 g5);refine Ec (λhc=>?_) λhc=>?_
  ·refine DJ rfl (DD ?_);refine EO (x:=x) (s:=s1) (i:=i1) hD1 HV hp.KL hp.loc hp.first (λw D hp=>KE x D E s1 i1 4 w hp AL AL AL) ?_;exact AVn
  refine Cz ?_;try simp only[Di,Dq]
  (try refine⟨trivial,?_⟩)
  refine⟨s1,i1,v1,f1,?_⟩;refine DD ?_;exact⟨hD1,by omega⟩
 intro G6 L' _ hF;obtain⟨s9,i9,v9,f9,q0,q1,rfl,⟨hD9,k1,k2,k3,k4,k5⟩⟩:=hF;have zh:=q0.trans iY;have ALM:=q1.trans ACl;clear q0 q1;have g6:=AO zh ALM;refine k0 _ _ (DJ rfl ?_);have zg:=Bd.mk g6;refine DD ?_;refine EO (x:=x) (s:=s9) (i:=i9) hD9 HV hp.KL hp.loc hp.first (λw D hp=>ACk x D E s9 i9 call w hp hc AL AL) ?_;intro s10 i10 v10 f10 ALN APs APt APu APv APw;refine DD ?_;refine⟨_,rfl,λw hw=>?_⟩;exact hp.done hw ALN AL AL AL AL AL
theorem Hu.ALO{W w D E x s i L}(h0:Hu W D E x s i)(hw:St [x.b,x.tb] W L w):∀y,E y->w.heap[y]?=W.heap[y]? := λy hy=>by
 have:=h0.dom y (.inr hy);exact hw.ES.block y this.1 (by simp[this])
theorem Hu.note{W v D E x s s1 i L f}(h0:Hu W D E x s i)(hv:St [x.b,x.tb] W L v)(hst:Sd v (Dn D f) 1 s1.SA s1.sn s1.sc (LY s1.st))(e1:s1.A=s.A)(e2:s1.n=s.n)(e3:s1.c=s.c)(e4:s1.code=s.code)(sok:∀y∈s1.st,y<=100000):XY v (Dn D f) E x s1 :=
 ⟨by rw[e1,e2,e3,e4];exact h0.dat.code.same (h0.old hv) λy hy=>.inr hy,hst,h0.dat.tape.same (h0.ALO hv) λ_ h=>h,by rw[e4];exact h0.dat.ok,sok⟩
def Jp:=AO (AO (AO @Qv.eq_1 @M9.eq_1) (AO @vU.eq_1 @tape.eq_1)) (AO (AO @I7.eq_1 @cS) (AO @Ac @cT))
theorem a_ x D E s0 i W(hp:Hu W D E x s0 i)(hi:i<=600000)(hl:s0.code.length<=7000)(hl2:s0.st.length<=7000):
  Calls AGm 55 #[π (σ ⟨x.b,0,ν⟩)] W (coP x D E 12 50 1 s0 i W):=by
 have hne:=hp.ne;have hD0:=hp.in0;have HV:=hp.HV;have hE:=λy hy=>(hp.dom y (.inr hy)).2.2;have hln:s0.code.length=s0.n:=GM Gw AL hD0.code.len;have hlm:s0.st.length=s0.sn:=qI hD0.sts.len;refine DL (M:=[x.b,x.tb]) Tryz.func55 []  hp.st ?_;refine DC [0] λG1 g1=>?_;have zs:=Bd.mk Jp;replace g1:=EK g1;refine Cw λK k0=>?_;refine Df (λ_ _=>True) (λF' L' => ∃(A2:Option Addr)(c2:Nat),F' 0=G1 0/\L'=[.row (ξ A2 (s0.sn+1) c2) 3 1 (s0.sn+1) (LY (s0.st++[s0.n])),snap [x.b,x.tb] W W [],.blk x.b 166 [π (σ ⟨x.tb,0,ν⟩),ξ s0.A s0.n s0.c,ξ A2 (s0.sn+1) c2,ε ζ (x.loc:Int),ε ζ (x.fns:Int),ε χ (x.first:Int)],M9 x i]) ?_ ?_
 ·refine K3 (oO [0,1,2] (.rd 0 (.rd 2 (.rd 3 (.rd 4 (.rd 5 (.rd 7 (.rd 8 (.rd 9 (.rd 10 (.rd 11 (.alt 1 12 (.alt 6 12 (.act 12 (.act 13 (.rd 14 (.rd 15 (.act 16 (.done)))))) (.act 6 (.act 13 (.rd 14 (.rd 15 (.act 16 (.done))))))) (.act 1 (.act 6 (.act 13 (.rd 14 (.rd 15 (.act 16 (.done)))))))))))))))))) [16] ?_);have zg:=Bd.mk g1;refine DD ?_;refine⟨?_,?_⟩
  ·intro b7 fZ h7;refine⟨?_,?_⟩
   ·refine EI 0 GL rfl rfl (λw hw=>by exact(hD0.sd HV hw 1 rfl).reads) (XW _) AL AL ?_;intro A1 c1 hl1 hr1;refine DD ?_;intro b8 vO h8;refine D6 1 GL rfl (λw hw=>D_ (size:=1) (.head _) rfl hw) rfl AL AL ?_;intro A2 c2 hl2 hr2;refine DD ?_;refine⟨[0,2,3,4],by decide,?_⟩;simp only[Dl,nth];refine⟨A2,c2,?_⟩;exact Yc @XX
   ·intro b8 vO h8;refine EI 1 GL rfl rfl (λw hw=>by exact(hD0.sd HV hw 2 rfl).reads) (XW _) AL AL ?_;exact AU9
  ·intro b7 fZ h7 b8 vO h8;refine EI 0 GL rfl rfl (λw hw=>by exact(hD0.sd HV hw 2 rfl).reads) (XW _) AL AL ?_;exact AU9
 intro G2 L' _ hF;obtain⟨A2,c2,Nk,rfl⟩:=hF;have zg:=Bd.mk g1;have g2:=Dy Nk;refine k0 _ _ (Kt [2,3] AJ λv1 f1 hv1 hf1=>?_);simp only[Dl,nth];obtain⟨s1,hs1⟩:∃s:ZN,s=⟨s0.A,s0.n,s0.c,s0.code,A2,s0.sn+1,c2,s0.st++[s0.n]⟩:=⟨_,rfl⟩;have hD1:XY v1 (Dn D f1) E x s1:=by
  subst hs1;refine hp.note hv1 (Sd.JA (hv1.holds _ (.head _)) λg hg=>.inl (hv1.Lm hf1 (k:=0) rfl AJ (by simp[Dl,nth,DW.foot,M9]) g AU7)) rfl rfl rfl rfl ?_;intro y hy;rcases AV.1 hy with hy|hy
  ·exact hp.dat.sok y hy
  ·obtain rfl:y=s0.n:=by simpa using hy
   omega
 have h1c:s1.code.length=s0.code.length:=by rw[hs1]
 have h1s:s1.st.length=s0.st.length+1:=by rw[hs1];simp
 refine Ye (L':=[snap [x.b,x.tb] W v1 f1,Qv x s1,M9 x i]) (by rw[hs1];rfl) ?_;clear hs1 hv1 hf1;refine C9 rfl λK k0=>?_;replace zg:=Bd.mk g2;refine DD ?_;refine Dj 2 (λw hw=>EC x.tb x.TA x.tn x.tc x.l i 20 w (hw.hold 2 rfl) (hD1.tp HV hw 0 rfl) (hD1.ay hE) hp.KL AL AL) rfl ?_;try refine DD ?_
 refine k0 _ _ (DC [0,2] λG3 g3=>?_);replace g3:=Dy g3;have APx:=EU (l:=x.l) (i:=i) (m:=20) AL;generalize hk:D7 x.l i 20=k at *;obtain⟨i1,hi1⟩:∃j,i+1=j:=⟨_,rfl⟩;rw[hi1];refine DK ?_;replace zg:=Bd.mk g3;refine Db ?_;refine Ec (λhc=>?_) λhc=>?_
 ·refine C9 rfl λK k0=>DD ?_;refine EO (x:=x) (s:=s1) (i:=i1) hD1 HV hp.KL hp.loc hp.first (λw D hp=>KE x D E s1 i1 4 w hp AL AL AL) ?_;intro s2 i2 v2 f2 hD2 vV vW vX vY vZ;refine DD (k0 _ _ ?_);refine C9 rfl λK k0=>DD ?_;refine EO (x:=x) (s:=s2) (i:=i2) hD2 HV hp.KL hp.loc hp.first (λw D hp=>KD x D E s2 i2 23 1 w hp AJ (.inl AJ) AL AL) ?_;intro s3 i3 v3 f3 hD3 ka3 kb3 kc3 kd3 ke3;refine DD (k0 _ _ ?_);refine C9 rfl λK k0=>DD ?_;refine EO (x:=x) (s:=s3) (i:=i3) hD3 HV hp.KL hp.loc hp.first (λw D hp=>KD x D E s3 i3 4 0 w hp AJ (.inr rfl) AL AL) ?_;intro s4 i4 v4 f4 hD4 ka4 kb4 kc4 kd4 ke4;refine DD (k0 _ _ ?_);refine DJ rfl (DD ?_);refine EO (x:=x) (s:=s4) (i:=i4) hD4 HV hp.KL hp.loc hp.first (λw D hp=>JN x D E s4 i4 3 w hp AJ AL AL) ?_;intro s5 i5 v5 f5 hD5 ka5 kb5 kc5 kd5 ke5;refine DD ?_;refine⟨_,rfl,λw hw=>?_⟩;exact hp.done hw hD5 AL AL AL AL AL
 have q0:=AUD ‹_›;refine Db ?_;refine Ec (λhc=>?_) λhc=>?_
 ·have q1:=AT0 ‹_›;have e2:IntKind.i64.wrap ((k:Int)-2)=((k-2:Nat):Int):=by rw[DT AL AL];omega
  refine DJ rfl (DU e2 ?_);refine EO (x:=x) (s:=s1) (i:=i1) hD1 HV hp.KL hp.loc hp.first (λw D hp=>uS x D E s1 i1 (k-2) w hp AL AL AL) ?_;intro s2 i2 v2 f2 hD2 vV vW vX vY vZ;refine DD ?_;refine⟨_,rfl,λw hw=>?_⟩;exact hp.done hw hD2 AL AL AL AL AL
 have q1:=AUD ‹_›;refine Db ?_;refine Ec (λhc=>?_) λhc=>?_
 ·refine C9 rfl λK k0=>DD ?_;refine EO (x:=x) (s:=s1) (i:=i1) hD1 HV hp.KL hp.loc hp.first (λw D hp=>JN x D E s1 i1 2 w hp AJ AL AL) ?_;intro s2 i2 v2 f2 hD2 vV vW vX vY vZ;refine DD (k0 _ _ ?_);refine C9 rfl λK k0=>DD ?_;refine EO (x:=x) (s:=s2) (i:=i2) hD2 HV hp.KL hp.loc hp.first (λw D hp=>KE x D E s2 i2 70 w hp AL AL AL) ?_;intro s3 i3 v3 f3 hD3 ka3 kb3 kc3 kd3 ke3;refine DD (k0 _ _ ?_);have APy:=EU (l:=x.l) (i:=i3) (m:=12) AL;have e6:IntKind.i64.wrap (6+((D7 x.l i3 12:Nat):Int))=((6+D7 x.l i3 12:Nat):Int):=by rw[DT AL AL];omega
  refine C9 rfl λK k0=>DD ?_;refine Dj 2 (λw hw=>EC x.tb x.TA x.tn x.tc x.l i3 12 w (hw.hold 2 rfl) (hD3.tp HV hw 0 rfl) (hD3.ay hE) hp.KL AL AL) rfl ?_;try refine DU e6 ?_
  refine EO (x:=x) (s:=s3) (i:=i3+1) hD3 HV hp.KL hp.loc hp.first (λw D hp=>KD x D E s3 (i3+1) ((6+D7 x.l i3 12:Nat):Int) 0 w hp (by unfold Jf;omega) (.inr rfl) AL AL) ?_;intro s4 i4 v4 f4 hD4 ka4 kb4 kc4 kd4 ke4;refine DD (k0 _ _ ?_);refine DJ rfl (DD ?_);refine EO (x:=x) (s:=s4) (i:=i4) hD4 HV hp.KL hp.loc hp.first (λw D hp=>JN x D E s4 i4 3 w hp AJ AL AL) ?_;intro s5 i5 v5 f5 hD5 ka5 kb5 kc5 kd5 ke5;refine DD ?_;refine⟨_,rfl,λw hw=>?_⟩;exact hp.done hw hD5 AL AL AL AL AL
 have q2:=AUD ‹_›;refine Db ?_;refine Ec (λhc=>?_) λhc=>?_
 ·refine C9 rfl λK k0=>DD ?_;refine EO (x:=x) (s:=s1) (i:=i1) hD1 HV hp.KL hp.loc hp.first (λw D hp=>JN x D E s1 i1 2 w hp AJ AL AL) ?_;intro s2 i2 v2 f2 hD2 vV vW vX vY vZ;refine DD (k0 _ _ ?_);refine C9 rfl λK k0=>DD ?_;refine EO (x:=x) (s:=s2) (i:=i2) hD2 HV hp.KL hp.loc hp.first (λw D hp=>KD x D E s2 i2 5 0 w hp AJ (.inr rfl) AL AL) ?_;intro s3 i3 v3 f3 hD3 ka3 kb3 kc3 kd3 ke3;refine DD (k0 _ _ ?_);refine C9 rfl λK k0=>DD ?_;refine EO (x:=x) (s:=s3) (i:=i3) hD3 HV hp.KL hp.loc hp.first (λw D hp=>KD x D E s3 i3 8 0 w hp AJ (.inr rfl) AL AL) ?_;intro s4 i4 v4 f4 hD4 ka4 kb4 kc4 kd4 ke4;refine DD (k0 _ _ ?_);refine C9 rfl λK k0=>DD ?_;refine EO (x:=x) (s:=s4) (i:=i4) hD4 HV hp.KL hp.loc hp.first (λw D hp=>KD x D E s4 i4 18 0 w hp AJ (.inr rfl) AL AL) ?_;intro s5 i5 v5 f5 hD5 ka5 kb5 kc5 kd5 ke5;refine DD (k0 _ _ ?_);have hls:s5.st.length=s5.sn:=qI hD5.sts.len;have hnx:=EU (l:=x.l) (i:=i5) (m:=s5.sn) AL;obtain⟨b0,off,hSA,hb0,-⟩:=hD5.sts.cells AL;obtain⟨y,hy⟩:=Fg (l:=s5.st) (i:=D7 x.l i5 s5.sn) AL;have hyb:=hD5.sok y (AU hy);have hst:Sd v5 (Dm [x.b,x.tb] W f5) 1 (σ ⟨b0,off,ν⟩) s5.sn s5.sc (LY s5.st):=by
   have:=hD5.sts.mono (D':=Dm [x.b,x.tb] W f5) λy hy=>hy.imp id λhy=>HV y (.inl hy);rwa[hSA]at this
  refine IW (x.b≠b0) (λw hw=>λe=>((hD5.pre HV hw hp.KL hp.loc hp.first).dom b0 (.inl hb0)).2.1 e.symm) λhxb=>K3 (FD [0,1] [(τ,0),(τ,1),(τ,2),(τ,3),(τ,4),(τ,5),(τ,6),(τ,7),(τ,8),(τ,9),(τ,10),(τ,11),(τ,12),(τ,13),(ο,14),(τ,15),(τ,16),(ο,17)] [17] ?_);refine DU hSA ?_;refine Dj 2 (λw hw=>EC x.tb x.TA x.tn x.tc x.l i5 s5.sn w (hw.hold 2 rfl) (hD5.tp HV hw 0 rfl) (hD5.ay hE) hp.KL AL AL) rfl ?_;try refine DU hSA ?_
  refine DX (hst.ld1 (m:=1) 0 rfl AF (ACg hy)) ?_;refine DU hSA ?_;rw[<-hSA];refine EO (x:=x) (s:=s5) (i:=i5+1) hD5 HV hp.KL hp.loc hp.first (λw D hp=>KD x D E s5 (i5+1) 20 y w hp AJ (.inl AJ) AL AL) ?_;intro s6 i6 v6 f6 hD6 ka6 kb6 kc6 kd6 ke6;refine DD ?_;refine⟨_,rfl,λw hw=>?_⟩;exact hp.done hw hD6 AL AL AL AL AL
 have q3:=AUD ‹_›;refine Cw λK k0=>?_;refine Df (λ_ _=>True) (λF' L'=>F' 0=G3 0/\F' 92=θ (decide (k=17/\1<x.fns))/\L'=[snap [x.b,x.tb] W v1 f1,Qv x s1,M9 x i1]) ?_ ?_
 ·exact AWs
 intro G4 L' _ hF;obtain⟨Nk,ALP,rfl⟩:=hF;have g4:=AO (Dy Nk) ALP;refine k0 _ _ ?_;replace zg:=Bd.mk g4;refine Ec (λhc=>?_) λhc=>?_
 ·refine C9 rfl λK k0=>DD ?_;refine EO (x:=x) (s:=s1) (i:=i1) hD1 HV hp.KL hp.loc hp.first (λw D hp=>JN x D E s1 i1 2 w hp AJ AL AL) ?_;intro s2 i2 v2 f2 hD2 vV vW vX vY vZ;refine DD (k0 _ _ ?_);refine C9 rfl λK k0=>DD ?_;refine EO (x:=x) (s:=s2) (i:=i2) hD2 HV hp.KL hp.loc hp.first (λw D hp=>KD x D E s2 i2 21 1 w hp AJ (.inl AJ) AL AL) ?_;intro s3 i3 v3 f3 hD3 ka3 kb3 kc3 kd3 ke3;refine DD (k0 _ _ ?_);refine DJ rfl (DD ?_);refine EO (x:=x) (s:=s3) (i:=i3) hD3 HV hp.KL hp.loc hp.first (λw D hp=>JN x D E s3 i3 3 w hp AJ AL AL) ?_;intro s4 i4 v4 f4 hD4 ka4 kb4 kc4 kd4 ke4;refine DD ?_;refine⟨_,rfl,λw hw=>?_⟩;exact hp.done hw hD4 AL AL AL AL AL
 ·refine C9 rfl λK k0=>DD ?_;refine EO (x:=x) (s:=s1) (i:=i1) hD1 HV hp.KL hp.loc hp.first (λw D hp=>KE x D E s1 i1 65536 w hp AL AL AL) ?_;intro s2 i2 v2 f2 hD2 vV vW vX vY vZ;refine DD (k0 _ _ ?_);refine DJ rfl (DD ?_);refine EO (x:=x) (s:=s2) (i:=i2) hD2 HV hp.KL hp.loc hp.first (λw D hp=>JN x D E s2 i2 3 w hp AJ AL AL) ?_;intro s3 i3 v3 f3 hD3 ka3 kb3 kc3 kd3 ke3;refine DD ?_;refine⟨_,rfl,λw hw=>?_⟩;exact hp.done hw hD3 AL AL AL AL AL
end Go.Proofs.YtnkgiaimcpbhkaaGreat
