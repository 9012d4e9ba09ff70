import Derived.Test.YtnkgiaimcpbhkaaGreatDells10
import Derived.Test.YtnkgiaimcpbhkaaGreatDells11
import Derived.Test.YtnkgiaimcpbhkaaGreatDells9
import Derived.Test.YtnkgiaimcpbhkaaGreatDells1
import Derived.Test.YtnkgiaimcpbhkaaGreatDells0
import Derived.Test.YtnkgiaimcpbhkaaGreatDells8
import Derived.Test.YtnkgiaimcpbhkaaGreatDells2
set_option linter.all false
set_option maxRecDepth 100000
set_option maxHeartbeats 4000000
open List renaming length_append→Ag,nil_append→AR,replicate→Ah,cons_append→Ad,length_set→Bt
open List.Perm renaming swap→CL
open Int renaming toNat_of_nonneg→Ct
open Bool renaming false→ο,true→τ
open Go.Ending renaming returned→κ
open Go.IntKind renaming i64→ζ,u64→υ,u8→η
open Option renaming none→ν,some→σ
open Go.Value renaming bool→θ,int→ε,pointer→π,slice→ξ
namespace Go.Proofs.YtnkgiaimcpbhkaaGreat
open Tryz renaming prog→AGm
open Go.RowKit Go.Shelf
section
variable{W:World}{L:List DW}{n c:Nat}{is:List Ins}
theorem Sl.AIQ{b off k x}(h:Sl W W.heap.size 2 (σ ⟨b,off,ν⟩) n c (cl J_ is))(hx:is[k]?=σ x):LD AGm [] W L 3 ⟨b,off+k*2,ν⟩ (ε ζ x.op) :=
 h.ld1 (m:=1) (i:=k*2) AF (OX (j:=0) Gw hx rfl)
end
def h1F(n j:Nat):List Int:=0::(Ah (j-1) (-1)++Ah (n-j) 0)
theorem ACq{n j}(h1:1<=j)(h:j<=n):(h1F n j).length=n:=by simp[h1F];omega
theorem uf{n}(h:0<n):Ah n 0=h1F n 1:=by
 obtain⟨m,rfl⟩:∃m,n=m+1:=⟨n-1,by omega⟩;simp[h1F,Ci]
theorem ACr{n j}(h1:1<=j)(h:j<n):(h1F n j).set j (-1)=h1F n (j+1):=by
 obtain⟨i,rfl⟩:∃i,j=i+1:=⟨j-1,by omega⟩;unfold h1F;rw[List.set_cons_succ,AUO _ _ AUq];have e:i-(Ah (i+1-1) (-1:Int)).length=0:=by simp
 rw[e,show n-(i+1)=n-(i+1+1)+1 by omega,Ci,List.set_cons_zero,show i+1+1-1=i+1 by omega,List.replicate_succ',show i+1-1=i by omega];simp
theorem ACs{n}(h:0<n):h1F n n=h0F n:=by
 unfold h0F h1F;obtain⟨m,rfl⟩:∃m,n=m+1:=⟨n-1,by omega⟩;simp[Ci]
theorem AAW{gl x k i}(h:Ux gl x k i=0)(ho:i.op=23):i.arg<=11:=by
 unfold Ux Lr at h;split at h
 ·cases h
 split at h
 ·cases h
 split at h
 ·cases h
 split at h
 ·cases h
 ·omega
theorem bH m f W(hM:Mod W W.heap.size m):Calls AGm 135 #[Ie m,ε ζ f] W (rowP 3 1 (λv=>.tuple #[v,MC (Ot m f).2]) (O_ (Ot m f).1) W):=by
 have Sv:=fun {L:List DW} {w:World} (hw:St [] W L w)=>hM.at hw;have hfn:=hM.fn;have hG:=hM.gs;have sZ:=hM.Sr;obtain⟨q,hq⟩:∃q,j3 m f=q:=⟨_,rfl⟩;have hno:=λh=>p_ (m:=m) (f:=f) h;obtain⟨TA,tn,tc,ts,FA,fn,fc,gs⟩:=m;dsimp only at *;rw[hq]at hno;refine ER (M:=[]) (n:=165) [.tmp 4,.cell 5 132] rfl Tryz.func135 rfl rfl (Am rfl) (St.nil _ _) ?_;refine C9 rfl λK k0=>?_;have zs:=Bd.mk Mk;refine DR ?_;intro b2 hb2 b5 hb5 Uj;refine k0 _ _ (C9 rfl λK k0=>DR ?_);refine DI (λw hw=>jB ⟨TA,tn,tc,ts,FA,fn,fc,gs⟩ f w (Sv hw)) ?_;try refine Ed hq ?_
 intro b6 hb6 jm;refine k0 _ _ (DC [1,2,5,6] λG1 g1=>?_);replace g1:=EK g1;refine Cw λK k0=>?_;have zg:=Bd.mk g1;refine Db ?_;refine Ec (λhc=>?_) λhc=>?_
 ·have hz:¬q.1=0:=Gl ‹(!decide (q.1=0))=τ›;refine Cw λK k1=>EB [(τ,0),(τ,1),(ο,2)] [2] ?_;refine DD (k1 _ _ ?_);refine C8 (FF ?_);intro w hw;rw[hno hz];exact rowP_nil hw
 have hz:q.1=0:=Bp.1 (F_ ‹(!decide (q.1=0))=ο›);obtain⟨h0,k,x,rfl,hk,hst⟩:=mK AWV;have uP:=iy AWV hk;dsimp only at hk hst uP;obtain⟨-,-,-,ACZ,hck⟩:=ME h0;obtain⟨-,-,-,-,-,-,hc1,zo,-⟩:=LG (hck k x hk).1;have hX:=hfn x (AU hk);have hxl:x.code.length=x.n:=GM Gw AL hX.len;have hkf:k<fn:=by have:=(Ab.1 hk).1;omega
 have hnx:=ADs hst;have hfx:=AH6 (gs:=gs) (λg hg=>by
  obtain⟨i,hi⟩:=ATH hg;obtain⟨g1,g2,g3,g4,g5,g6,-⟩:=LG (hck i g hi).1;omega)
 obtain⟨b9,jA,rfl,vT,-⟩:=hG.cells AL;refine Cz (k0 _ _ (C9 rfl λK k0=>DD ?_));refine DX (hG.fnf hk) ?_;refine DD (k0 _ _ ?_);refine DC [1,2,5,7] λG2 g2=>?_;replace g2:=Dy g2;refine C9 rfl λK k0=>?_;replace zg:=Bd.mk g2;refine DD ?_;refine Zm (u:=ε ζ 0) GL rfl rfl rfl AL AL ?_;intro b8 vO hf8;refine DD ?_;simp -implicitDefEqProofs (disch:=first|omega|decide) only [seval,-Int.reducePow,-Nat.reducePow,cC,pv,D5,EH,undef,Mk,g2]at hf8;refine k0 _ _ (C9 rfl λK k0=>DD ?_);refine Zm (u:=θ ο) ALB rfl rfl rfl AL AL ?_;intro b10 NG NH;refine DD ?_;simp -implicitDefEqProofs (disch:=first|omega|decide) only [seval,-Int.reducePow,-Nat.reducePow,cC,pv,D5,EH,undef,Mk,g2]at NH;rw[show Ah x.n (Value.bool ο)=ak (Ah x.n ο) by unfold ak;rw[AS4],show Ah x.n (Value.int ζ 0)=O_ (Ah x.n 0) by unfold O_;rw[AS4]];refine k0 _ _ (DC [1,2,5,7,8,9] λG3 g3=>?_);replace g3:=Dy g3;refine Cw λK k0=>?_;replace zg:=Bd.mk g3;refine Db ?_;refine DK ?_;refine Dv (λF' L' => ∃(j:Nat),EH F' G3 [1,2,5,7,8,9]/\F' 10=ε ζ (j:Int)/\L'=[.blk b10 4 (ak (Ah x.n ο)),.blk b8 3 (O_ (h1F x.n j)),GJ b6 q.1 q.2.1 q.2.2,GJ b5 0 0 0,JF b2 ⟨TA,tn,tc,ts,σ ⟨b9,jA,ν⟩,fn,fc,gs⟩]/\1<=j/\j<=x.n) (λF' L'=>1100-(intOf (F' 10)).toNat) ?_ ?_
 ·refine⟨1,?_⟩;refine DD ?_;rw[uf AL];exact⟨rfl,by omega⟩
 intro G4 L' hI;obtain⟨j,zq,W9,rfl,⟨hj1,hj⟩⟩:=hI;have g4:=AO (Dy zq) W9;refine Cw λK k1=>?_;replace zg:=Bd.mk (AO g3 g4);refine Db ?_;refine Ec (λhc=>?_) λhc=>?_
 ·refine Cz ?_;try simp only[Di,Dq]
  have hlt:j<x.n:=by have:=AT0 ‹decide ((j:Int)<(x.n:Int))=τ›;omega
  have hln:=ACq hj1 hj;have hst:=ADu (h:=h1F x.n j) (k:=j) (-1) AL;rw[ACr hj1 hlt]at hst;refine k1 _ _ (Cw λK k1=>DK (K3 (Cy rfl (DU (AO hst (AO @zx hln)) ?_))));refine⟨by omega,?_⟩;refine k1 _ _ (Cy rfl (DD ?_));refine⟨⟨j+1,?_⟩,?_⟩
  ·exact AU0
  ·exact AXo
 refine Dr (k0 _ _ ?_);have mJ:j=x.n:=by have:=AUD ‹decide ((j:Int)<(x.n:Int))=ο›;omega
 rw[mJ,ACs AL];refine DC [1,2,5,7,8,9] λG5 g5=>?_;replace g5:=Dy g5;refine DK ?_;refine Dv (λF' L' => ∃(h:List Int)(d:List Bool)(fu:Nat),EH F' G5 [1,2,5,7,8,9]/\L'=[.blk b10 4 (ak d),.blk b8 3 (O_ h),GJ b6 q.1 q.2.1 q.2.2,GJ b5 0 0 0,JF b2 ⟨TA,tn,tc,ts,σ ⟨b9,jA,ν⟩,fn,fc,gs⟩]/\ZM gs x h d/\Ll d<=fu/\uM gs x=UB gs x fu h d) (λF' L'=>au L') ?_ ?_
 ·refine⟨h0F x.n,Ah x.n ο,x.n,?_⟩;replace zg:=Bd.mk (AO g3 (AO g4 g5));refine DD ?_;rw[<-hxl];exact⟨jD AL,Nat.le_of_eq (XP _),rfl⟩
 intro G6 L' hI;obtain⟨h,d,fu,zq,rfl,⟨hrun,hfu,hrr⟩⟩:=hI;replace zg:=Bd.mk g5;have g6:=Dy zq;have hhl:=hrun.hlen;have hdl:=hrun.uR;refine DK ?_;replace zg:=Bd.mk (AO g3 (AO g4 (AO g5 g6)));refine Db ?_;refine DC [1,2,5,7,8,9,11] λG7 g7=>?_;replace g7:=Dy g7;refine Cw λK k0=>DK ?_;refine Dv (λF' L' => ∃(at':Nat),EH F' G7 [1,2,5,7,8,9]/\F' 11=ε ζ (at':Int)/\L'=[.blk b10 4 (ak d),.blk b8 3 (O_ h),GJ b6 q.1 q.2.1 q.2.2,GJ b5 0 0 0,JF b2 ⟨TA,tn,tc,ts,σ ⟨b9,jA,ν⟩,fn,fc,gs⟩]/\at'≤x.n∧∀j,j<at'→I_ h d j=ο) (λF' L'=>1100-(intOf (F' 11)).toNat) ?_ ?_
 ·refine⟨0,?_⟩;replace zg:=Bd.mk (AO g3 (AO g4 (AO g5 (AO g6 g7))));refine DD ?_;exact⟨by omega,λj hj=>by omega⟩
 intro G8 L' hI;obtain⟨at',zq,ag,rfl,⟨hat,hop⟩⟩:=hI;replace zg:=Bd.mk g7;have g8:=AO (Dy zq) ag;refine Cw λK k1=>Cw λK k2=>?_;refine Df (λ_ _=>True) (λF' L'=>EH F' G8 [1,2,5,7,8,9,11]/\F' 61=θ (decide (at'<x.n/\I_ h d at'=ο))/\L'=[.blk b10 4 (ak d),.blk b8 3 (O_ h),GJ b6 q.1 q.2.1 q.2.2,GJ b5 0 0 0,JF b2 ⟨TA,tn,tc,ts,σ ⟨b9,jA,ν⟩,fn,fc,gs⟩]) ?_ ?_
 ·by_cases hlt:at'<x.n
  ·obtain⟨db,hdb⟩:=Fg (l:=d) (i:=at') AL;have qJ:=zy (h:=h) (k:=at') AL;have hdk:=z_ hdb;have hrk:=hrun.Ql at';obtain⟨H,hH⟩:∃H,hAt h at'=H:=⟨_,rfl⟩;rw[hH]at qJ hrk;have U7:I_ h d at'=(decide (¬H = -1) && !db):=by unfold I_;rw[hH,hdb]<;>rfl
   have h1':decide ((at':Int)<(x.n:Int))=τ:=AUB AL;by_cases hH0:H<0
   ·have h2':decide (H<0)=τ:=AUB hH0;have hof:I_ h d at'=ο:=by rw[U7,show H = -1 by omega];rfl
    refine Cy rfl ?_;replace zg:=Bd.mk (AO g3 (AO g4 (AO g5 (AO g6 (AO g7 g8)))));refine DU (AO qJ (AO hdk (AO h1' h2'))) ?_;rw[hof];all_goals (repeat' refine AO ?_ ?_)
    all_goals exact Ev
   ·have h2':decide (H<0)=ο:=AUC hH0;cases db
    ·have hof:I_ h d at'=τ:=by rw[U7];simp;omega
     exact AVM
    ·have hof:I_ h d at'=ο:=by rw[U7];simp
     exact AVM
  ·have h1':decide ((at':Int)<(x.n:Int))=ο:=AUC AL;refine Cy rfl ?_;replace zg:=Bd.mk (AO g3 (AO g4 (AO g5 (AO g6 (AO g7 g8)))));exact AVe
 intro G9 L' _ hF;obtain⟨zq,AE4,rfl⟩:=hF;replace zg:=Bd.mk g8;have g9:=AO (Dy zq) AE4;refine k2 _ _ ?_;replace zg:=Bd.mk (AO g3 (AO g4 (AO g5 (AO g6 (AO g7 (AO g8 g9))))));refine Ec (λhc=>?_) λhc=>?_
 ·refine Cz ?_;try simp only[Di,Dq]
  obtain⟨hlt,hof⟩:at'<x.n/\I_ h d at'=ο:=AT0 ‹_›;refine k1 _ _ (DK (DJ rfl (DU @DT ?_)));refine⟨⟨at'+1,?_⟩,?_⟩
  ·refine DU @Af ?_;refine⟨by omega,λj hj=>?_⟩;rcases ASq j at' with h1|h1
   ·exact hop j h1
   ·rw[show j=at' by omega];exact hof
  ·exact AXo
 refine Dr (k0 _ _ ?_);have hnl:¬(at'<x.n/\I_ h d at'=ο):=AUD ‹_›;by_cases hlt:at'<x.n
 ·have hot:I_ h d at'=τ:=by
   cases hx:I_ h d at'
   ·exact absurd ⟨hlt,hx⟩ hnl
   ·rfl
  have hE':decide ((at':Int)=(x.n:Int))=ο:=AUC AL;obtain⟨i,hi⟩:=Fg (l:=x.code) (i:=at') AL;obtain⟨db,hdb⟩:=Fg (l:=d) (i:=at') AL;have hii:Gp x at'=i:=N8 hi;have qJ:=zy (h:=h) (k:=at') AL;have hdk:=z_ hdb;have hlb:Iq h d=σ at':=il AL hot hop;have hrk:=hrun.Ql at';obtain⟨v,hv⟩:∃v,hAt h at'+((JW gs i).2-(JW gs i).1)=v:=⟨_,rfl⟩;have hS:=z8 (x:=x) hv;have hpb:=hfx i;obtain⟨pq,hpq⟩:∃pq,JW gs i=pq:=⟨_,rfl⟩;rw[hpq]at hS hv hpb;obtain⟨p,r⟩:=pq;dsimp only at hS hv hpb;obtain⟨H,hH⟩:∃H,hAt h at'=H:=⟨_,rfl⟩;have ACt:=hot;unfold I_ at ACt;rw[hH,hdb]at ACt;rw[hH]at qJ hrk hS hv;obtain⟨rfl,hHn⟩:db=ο∧¬H = -1:=by
   cases db
   ·exact⟨rfl,by simpa using ACt⟩
   ·simp at ACt
  have hv':H-p+r=v:=by omega
  have hds:=AFl (d:=d) (k:=at') τ AL;have hun:=XN hdb;obtain⟨fu,rfl⟩:∃fu',fu=fu'+1:=⟨fu-1,by omega⟩;have hci:=λho=>AAA (hst at' i hi) ho;have hch:=λho=>AAW (hst at' i hi) ho;have hnj:∀j∈Oq i at',j<x.code.length:=λj hj=>hnx at' AL j (by rwa[hii]);obtain⟨b0,off,hA,hb0,-⟩:=hX.cells AL;have hX':Sl W W.heap.size 2 (σ ⟨b0,off,ν⟩) x.n x.c (cl J_ x.code):=hA▸hX;refine Cw λK k0=>Db ?_;refine C_ (DU hE' ?_);refine Cz (k0 _ _ (C9 rfl λK k0=>DU (AO hds @AFk) ?_));refine⟨by omega,?_⟩;refine k0 _ _ (Cw λK k0=>EB [(τ,0),(τ,1),(τ,2),(τ,3),(τ,4),(ο,5),(τ,6),(τ,7),(τ,8),(τ,9),(τ,10)] [] ?_);refine DU hA ?_;refine DX (hX'.ins hi) ?_;refine DU hA ?_;refine DI (λw hw=>uN ⟨TA,tn,tc,ts,σ ⟨b9,jA,ν⟩,fn,fc,gs⟩ i w (Sv hw) hci hch) ?_;try refine DU hpq ?_
  refine k0 _ _ (KU (AO qJ hv') ?_);refine NB λXo hG=>?_;have AD0:=AUE hG 1;have AD1:=AUE hG 2;have AD2:=AUE hG 5;have AD3:=AUE hG 7;have AD4:=AUE hG 8;have AD5:=AUE hG 9;have AAX:=AUE hG 11;have AAY:=AUE hG 12;have AAZ:=AUE hG 14;clear hG;try simp -implicitDefEqProofs (disch:=first|omega|decide) only [seval,-Int.reducePow,-Nat.reducePow,cC,pv,D5,EH,undef,Mk,hA,g3,g4,g5,g6,g7,g8,g9]at AD0 AD1 AD2 AD3 AD4 AD5 AAX AAY AAZ
  have g10:=AO AD0 (AO AD1 (AO AD2 (AO AD3 (AO AD4 (AO AD5 (AO AAX (AO AAY AAZ)))))));refine Cw λK k0=>Cw λK k1=>?_;refine Df (λ_ _=>True) (λF' L'=>EH F' Xo [1,2,5,7,8,9,11,14]/\F' 120=θ (decide (H<p\/64<v\/(i.op=22∧¬H=x.r)))/\L'=[.blk b10 4 (ak (d.set at' τ)),.blk b8 3 (O_ h),GJ b6 q.1 q.2.1 q.2.2,GJ b5 0 0 0,JF b2 ⟨TA,tn,tc,ts,σ ⟨b9,jA,ν⟩,fn,fc,gs⟩]) ?_ ?_
  ·by_cases a1:H<p
   ·have a1':decide (H<p)=τ:=AUB a1;refine EB [(τ,0),(τ,1),(τ,2),(τ,3),(τ,4),(τ,5),(τ,6),(τ,7),(τ,8),(τ,9),(τ,10),(τ,11),(τ,12),(τ,13),(τ,14),(τ,15),(τ,16),(τ,17),(τ,18),(τ,19),(τ,20),(τ,21),(τ,22),(τ,23),(τ,24),(τ,25),(τ,26),(τ,27),(τ,28),(τ,29),(τ,30)] [] ?_;replace zg:=Bd.mk (AO g3 (AO g4 (AO g5 (AO g6 (AO g7 (AO g8 g10))))));refine DU (AO qJ a1') ?_;all_goals (repeat' refine AO ?_ ?_)
    all_goals exact Ev
   have a1':decide (H<p)=ο:=AUC a1;by_cases a2:64<v
   ·have tX:decide (64<v)=τ:=AUB a2;refine EB [(τ,0),(τ,1),(τ,2),(τ,3),(τ,4),(τ,5),(τ,6),(τ,7),(τ,8),(τ,9),(τ,10),(τ,11),(τ,12),(τ,13),(τ,14),(τ,15),(τ,16),(τ,17),(τ,18),(τ,19),(τ,20),(τ,21),(τ,22),(τ,23),(τ,24),(τ,25),(τ,26),(τ,27),(τ,28),(τ,29),(τ,30)] [] ?_;replace zg:=Bd.mk (AO g3 (AO g4 (AO g5 (AO g6 (AO g7 (AO g8 g10))))));refine DU (AO qJ (AO a1' tX)) ?_;all_goals (repeat' refine AO ?_ ?_)
    all_goals exact Ev
   have tX:decide (64<v)=ο:=AUC a2;by_cases a3:i.op=22
   ·have a3':decide (i.op=22)=τ:=AUB a3;refine EB [(τ,0),(τ,1),(τ,2),(τ,3),(τ,4),(τ,5),(τ,6),(τ,7),(τ,8),(τ,9),(τ,10),(τ,11),(τ,12),(τ,13),(τ,14),(τ,15),(τ,16),(τ,17),(τ,18),(τ,19),(τ,20),(τ,21),(τ,22),(τ,23),(τ,24),(τ,25),(τ,26),(τ,27),(τ,28),(τ,29),(τ,30)] [] ?_;replace zg:=Bd.mk (AO g3 (AO g4 (AO g5 (AO g6 (AO g7 (AO g8 g10))))));refine DU (AO qJ (AO a1' (AO tX (AO a3' hA)))) ?_;refine DX (hX'.AIQ hi) ?_;refine DU (AO qJ (AO a1' (AO tX a3'))) ?_;refine DX (hG.fnr hk) ?_;refine DU (AO qJ (AO a1' (AO tX a3'))) ?_;all_goals (repeat' refine AO ?_ ?_)
    all_goals exact Ev
   have a3':decide (i.op=22)=ο:=AUC a3;refine EB [(τ,0),(τ,1),(τ,2),(τ,3),(τ,4),(τ,5),(τ,6),(τ,7),(τ,8),(τ,9),(τ,10),(τ,11),(τ,12),(τ,13),(τ,14),(τ,15),(τ,16),(τ,17),(τ,18),(τ,19),(τ,20),(τ,21),(τ,22),(τ,23),(τ,24),(τ,25),(τ,26),(τ,27),(τ,28),(τ,29),(τ,30)] [] ?_;replace zg:=Bd.mk (AO g3 (AO g4 (AO g5 (AO g6 (AO g7 (AO g8 g10))))));refine DU (AO qJ (AO a1' (AO tX (AO a3' hA)))) ?_;refine DX (hX'.AIQ hi) ?_;refine DU (AO qJ (AO a1' (AO tX a3'))) ?_;all_goals (repeat' refine AO ?_ ?_)
   all_goals exact Ev
  intro bQ L' _ hF;obtain⟨zq,AIR,rfl⟩:=hF;replace zg:=Bd.mk g10;have g11:=AO (Dy zq) AIR;refine k1 _ _ ?_;replace zg:=Bd.mk (AO g3 (AO g4 (AO g5 (AO g6 (AO g7 (AO g8 g11))))));refine Ec (λhc=>?_) λhc=>?_
  ·have q1:=AT0 ‹_›;have hN:Qs gs x h at' i=ν:=by rw[hS,ATv AL]
   refine C9 rfl λK k1=>DD ?_;refine DI (λw hw=>GI 24 (k:Int) (at':Int) w) ?_;try refine DD ?_
   refine k1 _ _ (C8 (FF ?_));intro w hw;rw[uP,hrr,jF hlb (by rw[hii];exact hN)];exact rowP_nil hw
  have q1:=AUD ‹_›;rw[ATt AL]at hS;refine Cz (k0 _ _ (ED [1,2,3,4,5] AJ (C9 rfl λK k0=>DU hA ?_)));refine DX (hX'.ins hi) ?_;refine DU hA ?_;refine D9 (λA n c=>ξ A n c) (λw hw=>mO i at' w AL (λho=>by have:=AFj hnj ho;omega)) ?_;intro A6 n6 c6 hl6 hr6;refine DD (k0 _ _ ?_);have hn6:(Oq i at').length=n6:=by rw[zt]at hl6;omega
  have AQG:n6<=2:=by
   rw[<-hn6];unfold Oq;repeat' split
   all_goals simp
  refine Db ?_;refine DC [1,2,5,7,8,9,11,14,15,16] λvM g12=>?_;replace g12:=Dy g12;refine DK ?_;refine Dv (λF' L' => ∃(j:Nat)(h1:List Int),EH F' vM [1,2,5,7,8,9,11,14,15]/\F' 16=ε ζ (j:Int)/\L'=[.row (ξ A6 n6 c6) 3 1 n6 (LY (Oq i at')),.blk b10 4 (ak (d.set at' τ)),.blk b8 3 (O_ h1),GJ b6 q.1 q.2.1 q.2.2,GJ b5 0 0 0,JF b2 ⟨TA,tn,tc,ts,σ ⟨b9,jA,ν⟩,fn,fc,gs⟩]/\j<=n6/\h1.length=h.length/\(∀z,hAt h1 z = -1\/0<=hAt h1 z)/\RS (Oq i at') v h=RS ((Oq i at').drop j) v h1) (λF' L'=>1100-(intOf (F' 16)).toNat) ?_ ?_
  ·refine⟨0,h,?_⟩;replace zg:=Bd.mk (AO g3 (AO g4 (AO g5 (AO g6 (AO g7 (AO g8 g12))))));refine DD ?_;exact⟨by omega,λz=>(hrun.Ql z).imp id And.left⟩
  intro G13 L' hI;obtain⟨j,h1,zq,ku,rfl,⟨hj,hl1,hrz,hu⟩⟩:=hI;replace zg:=Bd.mk g12;have g13:=AO (Dy zq) ku;refine Cw λK k0=>?_;replace zg:=Bd.mk (AO g3 (AO g4 (AO g5 (AO g6 (AO g7 (AO g8 (AO g12 g13)))))));refine Db ?_;refine Ec (λhc=>?_) λhc=>?_
  ·refine Cz ?_;try simp only[Di,Dq]
   have hjt:j<n6:=by have:=AT0 ‹decide ((j:Int)<(n6:Int))=τ›;omega
   obtain⟨y,hy⟩:=Fg (l:=Oq i at') (i:=j) AL;rw[Pz hy]at hu;have hyc:=hnj y (AU hy);have hzy:=zy (h:=h1) (k:=y) AL;have hsy:=ADu (h:=h1) (k:=y) v AL;have hry:=hrz y;obtain⟨H1,hH1⟩:∃H1,hAt h1 y=H1:=⟨_,rfl⟩;rw[hH1]at hzy hry;refine k0 _ _ (Cw λK k0=>EL 0 rfl AL λg F7 hg EX=>?_);subst F7;replace hg:=AAz (AO hg EX);clear EX;refine DK (Cw λK k1=>Cw λK k2=>?_);refine Df (λ_ _=>True) (λF' L'=>EH F' G13 [1,2,5,7,8,9,11,14,15,16]/\F' 154=θ (decide (0<=H1∧¬H1=v))/\L'=[.row (ξ (σ ⟨g,0,ν⟩) n6 c6) 3 1 n6 (LY (Oq i at')),.blk b10 4 (ak (d.set at' τ)),.blk b8 3 (O_ h1),GJ b6 q.1 q.2.1 q.2.2,GJ b5 0 0 0,JF b2 ⟨TA,tn,tc,ts,σ ⟨b9,jA,ν⟩,fn,fc,gs⟩]) ?_ ?_
   ·by_cases a1:0<=H1
    ·have a1':decide (0<=H1)=τ:=AUB a1;refine Cy rfl (DU (AO hzy a1') ?_);refine DX (Dx (v:=ε ζ (y:Int)) (.head _) rfl (Sy hy)) ?_;refine DU (AO hzy a1') ?_;exact AVW
    ·have a1':decide (0<=H1)=ο:=AUC a1;refine Cy rfl (DU (AO hzy a1') ?_);exact AVW
   intro G14 L' _ hF;obtain⟨zq,AIS,rfl⟩:=hF;have g14:=AO (Dy zq) AIS;refine k2 _ _ ?_;replace zg:=Bd.mk (AO g3 (AO g4 (AO g5 (AO g6 (AO g7 (AO g8 (AO g12 (AO g13 g14))))))));refine Ec (λhc=>?_) λhc=>?_
   ·have q3:=AT0 ‹_›;rw[ACa (by rw[hH1];omega)]at hu;refine C9 rfl λK k2=>DD ?_;refine DI (λw hw=>GI 24 (k:Int) (at':Int) w) ?_;try refine DD ?_
    refine k2 _ _ (C8 (FF ?_));intro w hw;rw[uP,hrr,jF hlb (by rw[hii,hS,hu])];exact rowP_nil hw
   have q3:=AUD ‹_›;rw[zz (by rw[hH1];omega)]at hu;refine Cz (k1 _ _ (K3 (Cy rfl (DD ?_))));refine DX (Dx (v:=ε ζ (y:Int)) (.head _) rfl (Sy hy)) ?_;refine DD ?_;refine DU (AO hsy @zx) ?_;refine⟨by omega,?_⟩;refine k0 _ _ (Cy rfl (DD ?_));refine⟨⟨j+1,h1.set y v,?_⟩,?_⟩
   ·refine DU @Af ?_;refine⟨by omega,by rw[Bt];exact hl1,λz=>?_,hu⟩;rw[aa AL];split
    ·omega
    ·exact hrz z
   ·exact AXo
  refine Dr ?_;simp only[Di,Dq,ATx,ite_true];have mJ:j=n6:=by have:=AUD ‹decide ((j:Int)<(n6:Int))=ο›;omega
  rw[Br AL,RS]at hu;have hs1:Qs gs x h at' (Gp x at')=σ h1:=by rw[hii,hS,hu]
  rw[ACb hlb hs1]at hrr;obtain⟨r1,-,-,-,-,-⟩:=jC hrun (λk _=>(hfx _).2.2.1) hnx hlb hs1;refine⟨⟨h1,d.set at' τ,fu,?_⟩,?_⟩
  ·refine DU hA ?_;exact⟨r1,by omega,hrr⟩
  ·refine DU @jE ?_;omega
 ·have hE':decide ((at':Int)=(x.n:Int))=τ:=AUB AL;have hln:Iq h d=ν:=Uy (λj hj=>hop j AL);rw[AAB hln]at hrr;refine Cw λK k0=>Db ?_;refine C_ (DU hE' ?_);refine DY [1,3,0] ?_;refine C9 rfl λK k1=>DD ?_;refine DI (λw hw=>Mj w) ?_;try refine DD ?_
  refine k1 _ _ (C8 (FF ?_));intro w hw;rw[uP,hrr];exact AAC hw (by rw[zx];show h.length=_;omega) AL
theorem U2 m W(hM:Mod W W.heap.size m):Calls AGm 91 #[Ie m] W λe w'=>e=κ (MC (Mw m))/\Below W.heap.size W w':=by
 have Sv:=fun {L:List DW} {w:World} (hw:St [] W L w)=>hM.at hw;have sZ:=hM.Sr;obtain⟨q,hq⟩:∃q,Gx m=q:=⟨_,rfl⟩;have hok:=λh=>ME (m:=m) h;have AFy:Mw m=if q.1=0 then XQ m m.gs.length 0 else q:=by rw[<-hq];rfl
 rw[hq]at hok;obtain⟨TA,tn,tc,ts,FA,fn,fc,gs⟩:=m;dsimp only at *;refine ER (M:=[]) (n:=31) [.cell 2 132] rfl Tryz.func91 rfl rfl (Am rfl) (St.nil _ _) ?_;refine C9 rfl λK k0=>?_;have zs:=Bd.mk Mk;refine DR ?_;intro b1 hb1 b2 hb2 hf2;refine k0 _ _ (C9 rfl λK k0=>DR ?_);refine DI (λw hw=>M7 ⟨TA,tn,tc,ts,FA,fn,fc,gs⟩ w (Sv hw)) ?_;try refine Ed hq ?_
 intro b3 hb3 hf3;refine k0 _ _ (DC [1,2,3] λG1 g1=>?_);replace g1:=EK g1;refine Cw λK k0=>?_;have zg:=Bd.mk g1;refine Db ?_;refine Ec (λhc=>?_) λhc=>?_
 ·have hz:¬q.1=0:=Gl ‹(!decide (q.1=0))=τ›;refine Db ?_;refine C8 (FF ?_);intro w hw;rw[AFy,ATt hz];exact AVR
 have hz:q.1=0:=Bp.1 (F_ ‹(!decide (q.1=0))=ο›);rw[ATv hz]at AFy;obtain⟨-,-,-,ACZ,-⟩:=hok hz;refine Cz (k0 _ _ (Cw λK k0=>Db ?_));refine DC [1,2,4] λG2 g2=>?_;replace g2:=Dy g2;refine DK ?_;refine Dv (λF' L' => ∃(f:Nat),EH F' G2 [1,2]/\F' 4=ε ζ (f:Int)/\L'=[GJ b3 q.1 q.2.1 q.2.2,GJ b2 0 0 0,JF b1 ⟨TA,tn,tc,ts,FA,fn,fc,gs⟩]/\f<=fn/\Mw ⟨TA,tn,tc,ts,FA,fn,fc,gs⟩=XQ ⟨TA,tn,tc,ts,FA,fn,fc,gs⟩ (fn-f) f) (λF' L'=>50-(intOf (F' 4)).toNat) ?_ ?_
 ·refine⟨0,?_⟩;replace zg:=Bd.mk g2;refine DD ?_;exact⟨by omega,by rw[AFy,sZ]⟩
 intro G3 L' hI;obtain⟨f,zq,Qd,rfl,⟨hf,hvf⟩⟩:=hI;replace zg:=Bd.mk g2;have g3:=AO (Dy zq) Qd;refine Cw λK k1=>?_;replace zg:=Bd.mk (AO g2 g3);refine Db ?_;refine Ec (λhc=>?_) λhc=>?_
 ·refine Cz ?_;try simp only[Di,Dq]
  have hft:f<fn:=by have:=AT0 ‹decide ((f:Int)<(fn:Int))=τ›;omega
  obtain⟨u,hu⟩:∃u,Ot ⟨TA,tn,tc,ts,FA,fn,fc,gs⟩ (f:Int)=u:=⟨_,rfl⟩;refine k1 _ _ (Cw λK k1=>DK (C9 rfl λK k2=>DD ?_));refine D9 (λA n c=>.tuple #[ξ A n c,MC u.2]) (λw hw=>(by have:=bH ⟨TA,tn,tc,ts,FA,fn,fc,gs⟩ (f:Int) w (Sv hw);rw[hu]at this;exact this)) ?_;intro A n c hl hr;refine DD ?_;intro b6 hb6 jm;refine k2 _ _ (Db ?_);refine Ec (λhc=>?_) λhc=>?_
  ·have hz2:¬u.2.1=0:=Gl ‹(!decide (u.2.1=0))=τ›;refine Db ?_;refine C8 (FF ?_);intro w hw;rw[hvf,show fn-f=(fn-(f+1))+1 by omega,qB (by rw[hu];exact hz2),hu];exact AVR
  have hz2:u.2.1=0:=Bp.1 (F_ ‹(!decide (u.2.1=0))=ο›);refine Cz (k1 _ _ (DY [2,3,4] ?_));refine Cy rfl (DU @DT ?_);refine⟨⟨f+1,?_⟩,?_⟩
  ·refine DU @Af ?_;refine⟨by omega,?_⟩;rw[hvf,show fn-f=(fn-(f+1))+1 by omega,jG (by rw[hu];exact hz2)]
  ·exact AXo
 refine Dr (k0 _ _ ?_);have hft:¬f<fn:=by have:=AUD ‹decide ((f:Int)<(fn:Int))=ο›;omega
 refine C9 rfl λK k0=>DD ?_;refine DI (λw hw=>Mj w) ?_;try refine DD ?_
 refine k0 _ _ (C8 (FF ?_));intro w hw;rw[hvf,show fn-f=0 by omega];exact⟨rfl,hw.below⟩
structure AIT where
 j:Ov
 p:MP
 u:Nat
def AFz(i:AIT):Value:=ε ζ (i.u:Int)
structure AIU(m:Ei)(fl sl:Nat)(fuel:Int)(p:MP)(u:Nat):Prop where
 mi:MN m fl sl p
 le:(u:Int)<=fuel\/u=0
 ca:p.FL=2->8<=u
theorem ug{op}(h:1<=op/\op<=25):1<=QB op/\QB op<=8:=by
 unfold QB;repeat' split
 all_goals first|omega|(rename_i h3;exact absurd h h3)
theorem AAa x{b}(hb:x.b=b)fuel(hfu:fuel<=1048576 ∧ -1048576<=fuel)(hv:(Mw x.m).1=0)(hp:jH x.m x.fl x.sl x.p)(hfl:x.fl<=256)(hsl:x.sl<=16384)W(hst:St (DV (Ep x)) W (Ep x) W):
  Calls AGm 99 #[π (σ ⟨b,0,ν⟩),ε ζ fuel] W
  λen w' => ∃i:AIT,en=κ (AFz i)/\AIU x.m x.fl x.sl fuel i.p i.u/\St (DV (Ep x)) W (Ep (x.up i.j i.p)) w':=by
 subst hb;obtain⟨M,hM⟩:∃M,DV (Ep x)=M:=⟨_,rfl⟩;rw[hM]at hst ⊢;clear hM;obtain⟨b,ft,m,fl,sl,FA,fn,fc,SA,sn,sc,⟨FL,tr,cq,fs,ss⟩⟩:=x;dsimp only at *;unfold Ep JX KO KP at hst;dsimp only at hst;have hln:=KF (hst.La 1 rfl).len;have hls:=Fv (hst.La 2 rfl).len;refine DL (M:=M) Tryz.func99 [.tmp 4]  hst ?_;have zs:=Bd.mk Hw;refine DZ ?_;refine DZ ?_;refine DC [0,1,5] λG1 g1=>?_;replace g1:=EK g1;refine Cw λK k0=>DK ?_;refine Dv (λF' L' => ∃(u:Nat)(IP:Option Addr)(Hq IQ:Nat)(Ib:Option Addr)(Hr IU:Nat)(JQ RU RZ:Int)(Qx:List O5)(NU:List Nat),EH F' G1 [0,1]/\F' 5=ε ζ (u:Int)/\L'=[.blk b 195 [ξ m.TA m.tn m.tc,ξ m.FA m.fn m.fc,ε ζ (fl:Int),ε ζ (sl:Int),ε ζ JQ,ε ζ RU,ξ IP Hq IQ,ξ Ib Hr IU,ε ζ RZ],.row (ξ IP Hq IQ) 269 4 Hq (cl MF Qx),.row (ξ Ib Hr IU) 29 1 Hr (FU NU),OO ft m]/\AIU m fl sl fuel ⟨JQ,RU,RZ,Qx,NU⟩ u) (λF' L'=>fuel.toNat-(intOf (F' 5)).toNat) ?_ ?_
 ·refine⟨0,FA,fn,fc,SA,sn,sc,FL,tr,cq,fs,ss,?_⟩;have zg:=Bd.mk g1;refine DD ?_;exact⟨hp.i,.inr rfl,λe=>absurd e hp.n⟩
 intro G2 L' hI;obtain⟨u,IP,Hq,IQ,Ib,Hr,IU,JQ,RU,RZ,Qx,NU,zq,Mq,rfl,hR⟩:=hI;have zg:=Bd.mk g1;have g2:=AO (Dy zq) Mq;have hle:=hR.le;refine Cw λK k1=>?_;replace zg:=Bd.mk (AO g1 g2);refine Db ?_;refine Ec (λhc=>?_) λhc=>?_
 ·refine Cz (k1 _ _ ?_);have hs1:JQ=1:=AT0 hc;refine DK ?_;obtain⟨r,f,g,i,h,t⟩:=hR.mi.top hv hs1;have hkn:=t.known;have hcp:=ug hkn;have hl1:Qx.length<=fl:=hR.mi.hfl;refine C9 rfl λK k1=>DD ?_;refine EW (Ep ⟨b,ft,m,fl,sl,IP,Hq,IQ,Ib,Hr,IU,⟨JQ,RU,RZ,Qx,NU⟩⟩) (BB _) (λ_:Unit=>.tuple #[Xa f,Li i]) _ (λw hw=>jO ⟨b,ft,m,fl,sl,IP,Hq,IQ,Ib,Hr,IU,⟨JQ,RU,RZ,Qx,NU⟩⟩ rfl t (by show Qx.length<=_;omega) w hw) ?_;intro _ _;unfold Xa Li;refine DD ?_;intro b6 hb6 jm b7 fZ hf7;refine DD (k1 _ _ ?_);refine DC [0,1,5,7] λG3 g3=>?_;replace g3:=Dy g3;refine C9 rfl λK k1=>?_;replace zg:=Bd.mk (AO g1 (AO g2 g3));refine DD ?_;refine DI (λw hw=>uY i.op w) ?_;try refine DD ?_
  refine k1 _ _ (Cw λK k1=>Db ?_);refine Ec (λhc=>?_) λhc=>?_
  ·refine DY [2,3,4,5] ?_;refine Dr (k0 _ _ (Db ?_));refine C8 (EP λw hw=>?_);exact⟨⟨⟨IP,Hq,IQ,Ib,Hr,IU⟩,⟨JQ,RU,RZ,Qx,NU⟩,u⟩,rfl,hR,hw⟩
  have hcu:=AUD hc;refine Cz (k1 _ _ (Db ?_));refine ED [0,1,2,3] AJ (DJ rfl (DD ?_));refine Dh MG (λj:Ov×MP=>Ep (Gj.up ⟨b,ft,m,fl,sl,IP,Hq,IQ,Ib,Hr,IU,⟨JQ,RU,RZ,Qx,NU⟩⟩ j.1 j.2)) _ (λw hw=>AAU ⟨b,ft,m,fl,sl,IP,Hq,IQ,Ib,Hr,IU,⟨JQ,RU,RZ,Qx,NU⟩⟩ rfl hv hR.mi t hs1 hfl hsl w hw) ?_;rintro⟨⟨O0,O1,O3,VD,UH,VE⟩,⟨QD,qK,cq2,qL,UG⟩⟩ hm;unfold MG Gj.up Ep JX KO KP;refine EM ?_;refine DD ?_;refine⟨⟨u+QB i.op,O0,O1,O3,VD,UH,VE,QD,qK,cq2,qL,UG,?_⟩,?_⟩
  ·refine DU @Af ?_;exact⟨hm.mi,by omega,λe=>by have h23:=hm.mh e;have h24:QB i.op=8:=(by unfold QB;rw[ATv h23]);omega⟩
  ·exact AXo
 refine Dr (k0 _ _ (Db ?_));refine C8 (EP λw hw=>?_);exact⟨⟨⟨IP,Hq,IQ,Ib,Hr,IU⟩,⟨JQ,RU,RZ,Qx,NU⟩,u⟩,rfl,hR,hw⟩
structure RsJ where
 j:Ov
 p:MP
def rsV(_:RsJ):Value:=ε ζ 0
theorem jQ x{b}(hb:x.b=b)(v e:Nat)(hv:v<18446744073709551616)(he:e<18446744073709551616)(hp:MN x.m x.fl x.sl x.p)(h2:x.p.FL=2)(hfl:x.fl<=256)(hsl:x.sl<=16384)W(hst:St (DV (Ep x)) W (Ep x) W):
  Calls AGm 102 #[π (σ ⟨b,0,ν⟩),ε υ (v:Int),ε υ (e:Int)] W
  λen w' => ∃i:RsJ,en=κ (rsV i)/\jH x.m x.fl x.sl i.p/\St (DV (Ep x)) W (Ep (x.up i.j i.p)) w':=by
 subst hb;obtain⟨M,hM⟩:∃M,DV (Ep x)=M:=⟨_,rfl⟩;rw[hM]at hst ⊢;clear hM;obtain⟨b,ft,m,fl,sl,FA,fn,fc,SA,sn,sc,⟨FL,tr,cq,fs,ss⟩⟩:=x;dsimp only at *;unfold Ep JX KO KP at hst;dsimp only at hst;have hln:=KF (hst.La 1 rfl).len;have hls:=Fv (hst.La 2 rfl).len;obtain⟨-,c,h4,h5,h6,h7,-⟩:=hp.cal h2;dsimp only at h4 h6 h7;have h8:ss.length<=sl:=hp.hsl;subst h4;have d2:decide (FL=2)=τ:=AUB h2;obtain⟨q,hq⟩:∃q,ss.length=q+JG c:=⟨ss.length-JG c,by omega⟩;refine DL (M:=M) Tryz.func102 [.tmp 6]  hst ?_;have zs:=Bd.mk Hw;refine DZ ?_;refine Cw λK k0=>Mo d2 ?_;refine C_ (DR ?_);refine Cz (k0 _ _ (DC [0,1,2] λG4 g4=>?_));replace g4:=EK g4;refine C9 rfl λK k0=>?_;have zg:=Bd.mk g4;refine DD ?_;refine EW (Ep ⟨b,ft,m,fl,sl,FA,fn,fc,SA,sn,sc,⟨FL,tr,(c:Int),fs,ss⟩⟩) (BB _) (λ_:Unit=>ε ζ (JG c:Int)) _ (λw hw=>UE ⟨b,ft,m,fl,sl,FA,fn,fc,SA,sn,sc,⟨FL,tr,(c:Int),fs,ss⟩⟩ rfl rfl w hw) ?_;intro _ _;refine DD ?_;refine Dh (uU (JG c)) (λj=>j4 j.A (JG c) j.c (ss.drop q)::Ep (Gj.up ⟨b,ft,m,fl,sl,FA,fn,fc,SA,sn,sc,⟨FL,tr,(c:Int),fs,ss⟩⟩ j.j ⟨FL,tr,(c:Int),fs,ss.take q⟩)) _ (λw hw=>N9 ⟨b,ft,m,fl,sl,FA,fn,fc,SA,sn,sc,⟨FL,tr,(c:Int),fs,ss⟩⟩ rfl _ (JG c) q rfl AVc AVY w hw) ?_;rintro⟨A1,c1,IP,Hq,IQ,Ib,Hr,IU⟩ -;unfold uU j4 Gj.up Ep JX KO KP;refine EM ?_;refine DD (k0 _ _ ?_);refine DY [1,2,3,4] ?_;refine DC [0,1,2] λG5 g5=>?_;replace g5:=Dy g5;have hlt:(ss.take q).length=q:=by rw[List.length_take];omega
 refine C9 rfl λK k0=>?_;replace zg:=Bd.mk g5;refine DD ?_;refine Dh MG (λj:Ov=>Ep (Gj.up ⟨b,ft,m,fl,sl,IP,Hq,IQ,Ib,Hr,IU,⟨FL,tr,(c:Int),fs,ss.take q⟩⟩ j ⟨FL,tr,(c:Int),fs,ss.take q++[v]⟩)) _ (λw hw=>Km ⟨b,ft,m,fl,sl,IP,Hq,IQ,Ib,Hr,IU,⟨FL,tr,(c:Int),fs,ss.take q⟩⟩ rfl _ v rfl (by show (ss.take q).length<=_;omega) w hw) ?_;rintro⟨O0,O1,O3,VD,UH,VE⟩ -;unfold MG Gj.up Ep JX KO KP;refine EM ?_;refine DD (k0 _ _ ?_);refine DC [0,2] λG6 g6=>?_;replace g6:=Dy g6;refine C9 rfl λK k0=>?_;replace zg:=Bd.mk g6;refine DD ?_;refine Dh MG (λj:Ov=>Ep (Gj.up ⟨b,ft,m,fl,sl,O0,O1,O3,VD,UH,VE,⟨FL,tr,(c:Int),fs,ss.take q++[v]⟩⟩ j ⟨FL,tr,(c:Int),fs,ss.take q++[v]++[e]⟩)) _ (λw hw=>Km ⟨b,ft,m,fl,sl,O0,O1,O3,VD,UH,VE,⟨FL,tr,(c:Int),fs,ss.take q++[v]⟩⟩ rfl _ e rfl (by show (ss.take q++[v]).length<=_;rw[Ag,hlt];simp;omega) w hw) ?_;rintro⟨FA3,fn3,fc3,SA3,sn3,sc3⟩ -;unfold MG Gj.up Ep JX KO KP;refine EM ?_;refine DD (k0 _ _ ?_);refine Db ?_;refine Db ?_;refine Db ?_;refine C8 (EP λw hw=>?_);refine⟨⟨⟨FA3,fn3,fc3,SA3,sn3,sc3⟩,⟨1,tr,0,fs,ss.take q++[v]++[e]⟩⟩,rfl,(MN.resume hp h2 (c:=c) rfl ?_ ?_).n n12,hw⟩
 ·simp only[Ag,hlt,List.length_singleton];show q+1+1=ss.length-JG c+2;omega
 ·intro y hy;rcases AV.1 hy with hy|hy
  ·rcases AV.1 hy with hy|hy
   ·exact hp.u y (BU hy)
   ·rw[BH.1 hy];exact hv
  ·rw[BH.1 hy];exact he
structure SpJ where
 j:Ov
 p:MP
 er:Int
def spV(i:SpJ):Value:=ε ζ i.er
structure SpR(m:Ei)(fl sl:Nat)(i:SpJ):Prop where
 n:jH m fl sl i.p
 er:i.er=0\/i.er=28
theorem uh x{b}(hb:x.b=b)t(ht:1<=t/\t<=7)(hp:jH x.m x.fl x.sl x.p)W(hst:St (DV (Ep x)) W (Ep x) W):
  Calls AGm 103 #[π (σ ⟨b,0,ν⟩),ε ζ t] W
  λen w' => ∃i:SpJ,en=κ (spV i)/\SpR x.m x.fl x.sl i/\St (DV (Ep x)) W (Ep (x.up i.j i.p)) w':=by
 subst hb;obtain⟨M,hM⟩:∃M,DV (Ep x)=M:=⟨_,rfl⟩;rw[hM]at hst ⊢;clear hM;obtain⟨b,ft,m,fl,sl,FA,fn,fc,SA,sn,sc,⟨FL,tr,cq,fs,ss⟩⟩:=x;dsimp only at *;unfold Ep JX KO KP at hst;dsimp only at hst;have hln:=KF (hst.La 1 rfl).len;have hls:=Fv (hst.La 2 rfl).len;have hn2:¬FL=2:=hp.n;have ht1:¬t<1:=by omega
 have ht7:¬7<t:=by omega
 refine DL (M:=M) Tryz.func103 [.tmp 4]  hst ?_;have zs:=Bd.mk Hw;refine DZ ?_;refine DC [0,1] λG7 g7=>?_;replace g7:=EK g7;refine Cw λK k0=>C9 rfl λK k1=>?_;by_cases h1:FL=1
 ·have d1:decide (FL=1)=τ:=AUB h1;have zg:=Bd.mk g7;refine DU d1 (k1 _ _ ?_);refine C_ (DD ?_);refine Cz (k0 _ _ (Cw λK k0=>KU (AO ht1 ht7) ?_));refine C_ (DD ?_);refine Cz (k0 _ _ (Cw λK k0=>KU hn2 ?_));refine C_ (DD ?_);refine Cz (k0 _ _ (Db ?_));refine C9 rfl λK k0=>DD ?_;refine Dh MG (λj:Ov=>Ep (Gj.up ⟨b,ft,m,fl,sl,FA,fn,fc,SA,sn,sc,⟨FL,tr,0,fs,ss⟩⟩ j ⟨4,t,0,fs,ss⟩)) _ (λw hw=>Kl ⟨b,ft,m,fl,sl,FA,fn,fc,SA,sn,sc,⟨FL,tr,0,fs,ss⟩⟩ rfl t w hw) ?_;rintro⟨IP,Hq,IQ,Ib,Hr,IU⟩ -;unfold MG Gj.up Ep JX KO KP;refine EM ?_;refine DD (k0 _ _ ?_);refine Db ?_;refine C8 (EP λw hw=>?_);exact⟨⟨⟨IP,Hq,IQ,Ib,Hr,IU⟩,⟨4,t,0,fs,ss⟩,0⟩,rfl,⟨(MN.stop hp.i (.inr rfl) hp.i.hsl hp.i.hfl hp.i.u).n n42,.inl rfl⟩,hw⟩
 ·have zg:=Bd.mk g7;refine DU (AO h1 hn2) (k1 _ _ ?_);refine C_ (DD ?_);refine Db ?_;refine C8 (EP λw hw=>?_);exact⟨⟨⟨FA,fn,fc,SA,sn,sc⟩,⟨FL,tr,cq,fs,ss⟩,28⟩,rfl,⟨hp,.inr rfl⟩,hw⟩
def mV(s:Int):Bool:=decide (s=3)||decide (s=4)
theorem Xb x{b}(hb:x.b=b)W(hst:St (DV (Ep x)) W (Ep x) W):
  Calls AGm 96 #[π (σ ⟨b,0,ν⟩)] W
  λen w' => ∃_:Unit,en=κ (θ (mV x.p.FL))/\bR/\St (DV (Ep x)) W (Ep x) w':=by
 subst hb;obtain⟨M,hM⟩:∃M,DV (Ep x)=M:=⟨_,rfl⟩;rw[hM]at hst ⊢;clear hM;obtain⟨b,ft,m,fl,sl,FA,fn,fc,SA,sn,sc,⟨FL,tr,cq,fs,ss⟩⟩:=x;dsimp only at *;unfold Ep JX KO KP at hst;dsimp only at hst;have hln:=KF (hst.La 1 rfl).len;have hls:=Fv (hst.La 2 rfl).len;refine DL (M:=M) Tryz.func96 [.tmp 2]  hst ?_;have zs:=Bd.mk Hw;refine DZ ?_;refine Cw λK k0=>?_;refine Df (λ_ _=>True) (λF' L'=>F' 2=θ (mV FL)/\L'=[.blk b 195 [ξ m.TA m.tn m.tc,ξ m.FA m.fn m.fc,ε ζ (fl:Int),ε ζ (sl:Int),ε ζ FL,ε ζ tr,ξ FA fn fc,ξ SA sn sc,ε ζ cq],.row (ξ FA fn fc) 269 4 fn (cl MF fs),.row (ξ SA sn sc) 29 1 sn (FU ss),OO ft m]) ?_ ?_
 ·unfold mV;by_cases h3:FL=3
  ·have d3:decide (FL=3)=τ:=AUB h3;refine Cy rfl ?_;exact ABS d3
  ·refine Cy rfl ?_;exact ABS h3
 intro G8 L' _ hF;obtain⟨zq2,rfl⟩:=hF;have g8:=zq2;refine k0 _ _ ?_;have zg:=Bd.mk g8;refine C8 (EP λw hw=>?_);exact⟨(),rfl,ok1,hw⟩
def nmV:Option Gj->Value
 |none=>.tuple #[π ν,ε ζ 1]
 |some x=>.tuple #[π (σ ⟨x.b,0,ν⟩),ε ζ 0]
def nmL(ft:List Nat)(m:Ei):Option Gj->List DW
 |none=>[OO ft m]
 |some x=>Ep x
structure MaG(x:Gj):Prop where
 v:(Mw x.m).1=0
 fl:x.fl<=256
 sl:x.sl<=16384
 p:jH x.m x.fl x.sl x.p
structure NmR(ft:List Nat)(m:Ei)(x:Gj):Prop where
 ft:x.ft=ft
 m:x.m=m
 g:MaG x
def nmR(ft:List Nat)(m:Ei)(i:Option Gj):Prop := ∀x,i=σ x->NmR ft m x
theorem AAb ft m fz sz(hv:(Mw m).1=0)W(hst:St (DV [OO ft m]) W [OO ft m] W):
  Calls AGm 93 #[Ie m,ε ζ fz,ε ζ sz] W
  λen w' => ∃i:Option Gj,en=κ (nmV i)/\nmR ft m i/\St (DV [OO ft m]) W (nmL ft m i) w':=by
 have j5:=hst.md (k:=0) rfl;have hDm:=hst.mdD (k:=0) rfl;obtain⟨M,hM⟩:∃M,DV [OO ft m]=M:=⟨_,rfl⟩;rw[hM]at hst ⊢;clear hM;obtain⟨hc0,hv2,-⟩:=av hv;obtain⟨-,-,hg1,-,-⟩:=ME hc0;obtain⟨g,hg⟩:∃g,m.gs[0]?=σ g:=⟨_,AQ AL⟩;have hgl:=j5.Sr;have AFv:=(XR hv hg).num;obtain⟨n,hn⟩:∃n:Nat,g.l=n:=⟨g.l.toNat,by omega⟩;obtain⟨fb,fo,bG,hfb,-⟩:=hDm.gs.cells AL;have e1:fb<W.heap.size:=(hst.own _ (.head _) fb hfb).2;unfold Ie;refine DL (M:=M) Tryz.func93 [.tmp 6,.tmp 7]  hst ?_;refine C9 rfl λK k0=>?_;have zs:=Bd.mk Hw;refine DR ?_;intro b3 hb3;refine k0 _ _ (DC [1,2,3] λG9 g9=>?_);replace g9:=EK g9;refine C9 rfl λK k0=>?_;have zg:=Bd.mk g9;refine DD ?_;refine DI (λw hw=>U2 m w (hw.md (k:=1) rfl)) ?_;try refine DU hv2 ?_
 unfold MC Hl;refine DD ?_;intro b8 vO hf8;refine k0 _ _ (DC [1,2,3,8] λXo g10=>?_);replace g10:=Dy g10;refine Cw λK k0=>?_;replace zg:=Bd.mk g10;refine Db ?_;refine C_ (DD ?_);refine Cz (k0 _ _ (DY [1,2] ?_));refine DC [1,2,3] λbQ g11=>?_;replace g11:=Dy g11;refine Cw λK k0=>Cw λK k1=>?_;refine Df (λ_ _=>True) (λF' L' => ∃(r:Bool),EH F' bQ [1,2,3]/\F' 31=θ r/\L'=[.blk b3 129 [ξ m.TA m.tn m.tc,ξ m.FA m.fn m.fc],OO ft m]/\(r=ο->1<=fz/\fz<=256/\0<=sz/\sz<=16384)) ?_ ?_
 ·by_cases a1:fz<1
  ·have d1:decide (fz<1)=τ:=AUB a1;refine Cy rfl ?_;replace zg:=Bd.mk g11;refine DU d1 ?_;exact AWa
  ·by_cases a2:256<fz
   ·have d2:decide (256<fz)=τ:=AUB a2;refine Cy rfl ?_;replace zg:=Bd.mk g11;refine DU (AO a1 d2) ?_;exact AWa
   ·by_cases a3:sz<0
    ·have d3:decide (sz<0)=τ:=AUB a3;refine Cy rfl ?_;replace zg:=Bd.mk g11;refine DU (AO a1 (AO a2 d3)) ?_;exact AWa
    ·refine Cy rfl ?_;replace zg:=Bd.mk g11;refine DU (AO a1 (AO a2 a3)) ?_;exact⟨_,rfl,λe=>by have:=AUD e;omega⟩
 intro vM L' _ hF;obtain⟨r,zq,ALu,rfl,hr⟩:=hF;replace zg:=Bd.mk g11;have g12:=AO (Dy zq) ALu;refine k1 _ _ (C_ ?_);cases r with
 | true =>
  replace zg:=Bd.mk g12;refine DD ?_;refine Db ?_;refine C8 (EP λw hw=>?_);exact⟨ν,rfl,(λx e=>by cases e),hw.tail⟩
 |false =>
 replace zg:=Bd.mk g12;refine DD ?_;refine Cz (k0 _ _ ?_);obtain⟨f1,f2,s1,s2⟩:=hr rfl;obtain⟨fl,rfl⟩:∃fl:Nat,fz=fl:=⟨fz.toNat,by omega⟩;obtain⟨sl,rfl⟩:∃sl:Nat,sz=sl:=⟨sz.toNat,by omega⟩;refine C9 rfl λK k0=>DD ?_;intro b9 vT hf9;refine k0 _ _ (DC [2,3,9] λG13 g13=>?_);replace g13:=Dy g13;refine C9 rfl λK k0=>?_;replace zg:=Bd.mk g13;refine DU bG ?_;refine DX (bC (i:=2) (v:=ε ζ g.l) (λw hw=>(by rw[<-bG];exact(hw.md (k:=2) rfl).gs)) AL (m:=1) AF (OX (i:=0) (j:=2) Kv hg rfl)) ?_;refine DU bG ?_;refine DU hn (k0 _ _ ?_);rw[<-bG];refine DY [0,2] ?_;refine DC [2,9,10] λG14 g14=>?_;replace g14:=Dy g14;refine Cw λK k0=>?_;replace zg:=Bd.mk g14;refine Db ?_;refine Ec (λhc=>?_) λhc=>?_
 ·refine Db ?_;refine FB 29 1 (FB 269 4 (Db ?_));refine C8 (EP λw hw=>?_);have h9:=hw.pick (ix:=[2,0,1,3]) AJ;exact⟨σ ⟨b9,ft,m,fl,sl,ν,0,0,ν,0,0,⟨4,3,0,[],[]⟩⟩,rfl,(λx e=>by cases e;exact⟨rfl,rfl,⟨hv,by show fl<=256;omega,by show sl<=16384;omega,⟨⟨(by decide:(1:Int)<=4/\(4:Int)<=4),Ar _,Ar _,AUq,(λe=>by cases e),λe=>by cases e⟩,n42⟩⟩⟩),h9⟩
 have hc8:=AUD hc;refine Cz (k0 _ _ (C9 rfl λK k0=>DD ?_));intro bF hbF hfF;refine Zm (u:=ε υ 0) Ng rfl rfl rfl AL AL ?_;intro bS hbS hfS;simp -implicitDefEqProofs (disch:=first|omega|decide) only [seval,-Int.reducePow,-Nat.reducePow,cC,pv,D5,EH,undef,Hw,g14]at hfS;refine DD (k0 _ _ ?_);refine QJ 1 n AUq AL ?_;refine DY [1,0,2,3] ?_;refine QJ 4 1 rfl AL (Db ?_);refine C8 (EP λw hw=>?_);have h9:=hw.pick (ix:=[2,0,1,3]) AJ;have hz:FU (Ah n 0)=Ah n (ε υ 0):=by simp[FU]
 simp only[Dl,nth]at h9;rw[<-hz]at h9;exact⟨σ ⟨b9,ft,m,fl,sl,σ ⟨bF,0,ν⟩,1,1,σ ⟨bS,0,ν⟩,n,n,⟨1,0,0,[⟨0,0,0,n⟩],Ah n 0⟩⟩,rfl,(λx e=>by cases e;exact⟨rfl,rfl,⟨hv,(by show fl<=256;omega),(by show sl<=16384;omega),(MN.new hv hg hn.symm (by show n<=sl;omega) (by show 1<=fl;omega) AUq (λy hy=>by rw[ASP hy];decide)).n n12⟩⟩),h9⟩
def ZQ:=AO (AO (AO (AO @Ac @DT) (AO @KM (AO @cM @Ey))) (AO (AO @Ez @E5) (AO @E8 (AO @E9 @Kw)))) (AO (AO (AO @Ky @Jg) (AO @NP (AO @JO @JP))) (AO (AO @Et (AO @Eu @FK)) (AO @FO (AO @EZ @Ea))))
def j6(w:Nat):Int:=if 1048576<w then -1 else w
theorem ACu w : -1<=j6 w/\j6 w<=1048576:=by
 unfold j6;split<;>omega
theorem IB(w:Nat)W:Calls AGm 147 #[ε υ (w:Int)] W λe w'=>e=κ (ε ζ (j6 w))/\Below W.heap.size W w':=by
 refine DL (M:=[]) Tryz.func147 [.tmp 2] (St.nil _ _) ?_;have zs:=Bd.mk ZQ;refine DZ ?_;refine Cw λK BC=>DZ ?_;refine NC (λhc=>?_) λhc=>?_
 ·have h1:=AT0 hc;refine DZ ?_;refine C8 (Eg λw hw=>?_);exact⟨by unfold j6;rw[ATv AL],hw.below⟩
 have h1:=AUD hc;refine Cz (BC _ _ (DZ ?_));refine C8 (Eg λw hw=>?_);exact⟨by unfold j6;rw[ATt AL],hw.below⟩
theorem getD_some{az:List Nat}{i}(h:i<az.length):az[i]?=σ (az.getD i 0):=by
 rw[AQ h,BP,AQ h];rfl
theorem getD_lt{az:List Nat}(h:∀y∈az,y<18446744073709551616)i:az.getD i 0<18446744073709551616:=by
 rw[BP];cases hh:az[i]? with
 |none=>decide
 |some v=>exact h v (AU hh)
def ckF(c:Nat)(az:List Nat):Int:=if (c=5\/c=6)/\(j6 (az.getD 2 0)<0\/8<j6 (az.getD 2 0)) then 1 else 0
theorem Xc c(hh:Lr c)A n cc az(hn:az.length=JG c)W(hE:Sl W W.heap.size 1 A n cc (FU az)):
  Calls AGm 146 #[ε ζ (c:Int),ξ A n cc] W λe w'=>e=κ (ε ζ (ckF c az))/\Below W.heap.size W w':=by
 have hl:=Fv hE.len;have ha1:1<=JG c:=by
  unfold Lr at hh;unfold JG;repeat' split
  all_goals omega
 have dh:decide (Lr c)=τ:=AUB hh;obtain⟨ab,ao,rfl,hab,-⟩:=hE.cells AL;refine DL (M:=[]) Tryz.func146 [.tmp 4] (St.nil _ _) ?_;have zs:=Bd.mk ZQ;refine DZ ?_;refine C9 rfl λK BC=>DR ?_;refine DI (λw hw=>M8 c w) ?_;try refine Ed dh ?_
 refine BC _ _ (DC [0,1,5,6] λG1 g1=>?_);replace g1:=EK g1;refine Cw λK BC=>?_;have zg:=Bd.mk g1;refine Db ?_;refine C_ (DD ?_);refine Cz (BC _ _ ?_);have d4:(!decide ((n:Int)=((JG c:Nat):Int)))=ο:=by rw[AUB (show (n:Int)=_ by omega)];rfl
 refine Cw λK BC=>Db ?_;refine C_ (DU d4 ?_);refine Cz (BC _ _ (DC [0,1] λG2 g2=>?_));replace g2:=Dy g2;refine Cw λK BC=>Cw λK BD=>?_;refine Df (λ_ _=>True) (λF' L'=>F' 37=θ (decide ((c=5\/c=6)/\(j6 (az.getD 2 0)<0\/8<j6 (az.getD 2 0))))/\L'=[]) ?_ ?_
 ·have key:(c=5\/c=6)->2<n:=λh=>by
   have:JG c=3\/JG c=4:=by rcases h with rfl|rfl<;>decide
   omega
  by_cases k5:(c:Int)=5
  ·have d5:decide ((c:Int)=5)=τ:=AUB k5;have hg:=getD_some (az:=az) (i:=2) (by have:=key (.inl AL);omega);have hk2:=key (.inl AL);refine Cy rfl ?_;by_cases a1:j6 (az.getD 2 0)<0
   ·have e1:decide (j6 (az.getD 2 0)<0)=τ:=AUB a1;replace zg:=Bd.mk g2;refine DU d5 ?_;refine DX (hE.ld1 (i:=2) (m:=1) AF (FQ hg)) ?_;refine DU d5 ?_;refine DI (λw hw=>IB (az.getD 2 0) w) ?_;try refine DU (AO d5 e1) ?_
    exact AT4 Value.bool (AUB ⟨.inl AL,.inl a1⟩).symm
   ·replace zg:=Bd.mk g2;refine DU d5 ?_;refine DX (hE.ld1 (i:=2) (m:=1) AF (FQ hg)) ?_;refine DU d5 ?_;refine DI (λw hw=>IB (az.getD 2 0) w) ?_;try refine DU (AO d5 a1) ?_
    refine DX (hE.ld1 (i:=2) (m:=1) AF (FQ hg)) ?_;refine DU (AO d5 a1) ?_;refine DI (λw hw=>IB (az.getD 2 0) w) ?_;try refine DU (AO d5 a1) ?_
    simp[a1];omega
  ·by_cases k6:(c:Int)=6
   ·have d6:decide ((c:Int)=6)=τ:=AUB k6;have hg:=getD_some (az:=az) (i:=2) (by have:=key (.inr AL);omega);have hk2:=key (.inr AL);refine Cy rfl ?_;by_cases a1:j6 (az.getD 2 0)<0
    ·have e1:decide (j6 (az.getD 2 0)<0)=τ:=AUB a1;replace zg:=Bd.mk g2;refine DU (AO k5 d6) ?_;refine DX (hE.ld1 (i:=2) (m:=1) AF (FQ hg)) ?_;refine DU (AO k5 d6) ?_;refine DI (λw hw=>IB (az.getD 2 0) w) ?_;try refine DU (AO k5 (AO d6 e1)) ?_
     exact AT4 Value.bool (AUB ⟨.inr AL,.inl a1⟩).symm
    ·replace zg:=Bd.mk g2;refine DU (AO k5 d6) ?_;refine DX (hE.ld1 (i:=2) (m:=1) AF (FQ hg)) ?_;refine DU (AO k5 d6) ?_;refine DI (λw hw=>IB (az.getD 2 0) w) ?_;try refine DU (AO k5 (AO d6 a1)) ?_
     refine DX (hE.ld1 (i:=2) (m:=1) AF (FQ hg)) ?_;refine DU (AO k5 (AO d6 a1)) ?_;refine DI (λw hw=>IB (az.getD 2 0) w) ?_;try refine DU (AO k5 (AO d6 a1)) ?_
     simp[a1];omega
   ·refine Cy rfl ?_;replace zg:=Bd.mk g2;refine DU (AO k5 k6) ?_;simp;omega
 intro G3 L' _ hF;obtain⟨AFJ,rfl⟩:=hF;have g3:=AFJ;refine BD _ _ ?_;replace zg:=Bd.mk g3;refine Ec (λhc=>?_) λhc=>?_
 ·have h1:=AT0 hc;refine Db ?_;refine C8 (EP λw hw=>?_);exact⟨by unfold ckF;rw[ATv h1],hw.below⟩
 have h1:=AUD hc;refine Cz (BC _ _ (Db ?_));refine C8 (EP λw hw=>?_);exact⟨by unfold ckF;rw[ATt h1],hw.below⟩
theorem Xd(v:Nat)(hv:v<18446744073709551616)W:Calls AGm 155 #[ε υ (v:Int)] W
  λen w' => ∃i:BsI,en=κ (bsV i)/\i.n=8/\St [] W [.row (ξ i.A i.n i.c) 5 1 i.n (Gf i.l)] w':=by
 refine DL (M:=[]) Tryz.func155 [.tmp 2] (St.nil _ _) ?_;have zs:=Bd.mk ZQ;refine DZ ?_;refine DZ ?_;refine DC [0,3] λG1 g1=>?_;replace g1:=EK g1;refine FB 5 1 (Cw λK BC=>?_);have zg:=Bd.mk g1;refine Db ?_;refine DC [0,3,4] λG2 g2=>?_;replace g2:=Dy g2;refine DK ?_;refine Dv (λF' L' => ∃(A:Option Addr)(k c:Nat)(l:List Nat),F' 0=G2 0/\F' 3=ξ A k c/\F' 4=ε ζ (k:Int)/\L'=[.row (ξ A k c) 5 1 k (Gf l)]/\k<=8) (λF' L'=>200000-(intOf (F' 4)).toNat) ?_ ?_
 ·refine⟨ν,0,0,[],?_⟩;replace zg:=Bd.mk g2;refine DD ?_;exact rfl
 intro G3 L' hI;obtain⟨A,k,c,l,Nk,Tn,Qd,rfl,hk⟩:=hI;replace zg:=Bd.mk g2;have g3:=AO (Dy Nk) (AO Tn Qd);refine Cw λK BD=>?_;replace zg:=Bd.mk (AO g2 g3);refine Db ?_;refine Ec (λhc=>?_) λhc=>?_
 ·refine Cz ?_;try simp only[Di,Dq]
  have hit:k<8:=by have:=AT0 hc;omega
  refine BD _ _ (Cw λK BD=>DK (ED [0] AJ (DJ rfl (DU @AAN ?_))));generalize hz:IntKind.u8.wrap _=z;obtain⟨y,hy⟩:∃y:Nat,z=y:=⟨z.toNat,by rw[<-hz,IntKind.wrap_u8];omega⟩;rw[hy];intro bE Qi;refine D6 1 iK rfl (λw hw=>D_ (size:=1) (.head _) rfl hw) rfl AL AL ?_;intro A2 c2 hl2 hr2;refine DD (BD _ _ ?_);refine Cy rfl (DD ?_);refine⟨⟨A2,k+1,c2,l++[y],?_⟩,?_⟩
  ·refine DU @Af ?_;rw[V3];exact⟨rfl,by omega⟩
  ·exact AXo
 refine Dr (BC _ _ ?_);have hk8:k=8:=by have:=AUD hc;omega
 refine Db ?_;refine C8 (EP λw hw=>?_);exact⟨⟨A,k,c,l⟩,rfl,hk8,hw⟩
section
variable{M:List Nat}{W w:World}{L:List DW}
theorem ACw{G A n c m size t xs}(h:St M W (.row (ξ A n c) t size m xs::L) w)(hm:Dk G∈L):TJ A (DV G):=λb o e hb=>by
 have h1:=(Ak.1 h.apart).1 (Dk G) hm b (by subst e;simp[DW.foot,Value.ownBlock]);exact h1 hb
end
theorem z64:(0:Nat)<18446744073709551616:=by decide
theorem mW{P W}{ι:Sort _}{g args G}{f:ι->Value}{Lf ex:ι->List DW}{φ:ι->Prop}
  (h:St (DV G) W G W->Calls P g args W (λe w' => ∃i,e=κ (f i)/\φ i/\St (DV G) W (ex i++Lf i) w')) (hst:St (DV [Dk G]) W [Dk G] W):
  Calls P g args W (λe w' => ∃i,e=κ (f i)/\φ i/\St (DV [Dk G]) W (ex i++[Dk (Lf i)]) w'):=by
 rw[Tu]at hst ⊢;have h1:=hst.GV;rw[BX]at h1;refine(h h1).mono ?_;rintro e w' ⟨i,he,hi,hs⟩;exact⟨i,he,hi,((hs.perm BQ).Dk).perm BQ⟩
theorem RV{P M W L}{ι:Sort _}{g args K}A G(hp:(A++G).Perm L)(f:ι->Value)(Lf:ι->List DW)(φ:ι->Prop)
  (h:∀w,St M W L w->St (DV G) w G w->Calls P g args w (λe w' => ∃i,e=κ (f i)/\φ i/\St (DV G) w (Lf i) w'))
  (hK:∀i,φ i->K τ (f i) (Lf i++A)):I6 P M W g args L K:=λw hw=>Kb A G f Lf φ (λw h1 h2=>h w (h1.perm hp.symm) h2) hK w (hw.perm hp)
theorem mX{P M W L}{ι:Sort _}{g args K}(f:ι->Value)(Lf:ι->List DW)(φ:ι->Prop)
  (h:∀w,St M W L w->Calls P g args w (λe w' => ∃i,e=κ (f i)/\φ i/\St [] w (Lf i) w'))
  (hK:∀i,φ i->(∃w',St M W (Lf i++L) w')->K τ (f i) (Lf i++L)):I6 P M W g args L K:=λw hw =>
 (F6 (K:=λt v L'=>(∃w',St M W L' w')->K t v L') f Lf φ h hK w hw).mono (by
  rintro e w' ⟨v,L',rfl,hs,hk⟩;exact⟨v,L',rfl,hs,hk ⟨w',hs⟩⟩)
structure DoI where
 v:Nat
 e:Int
 y:Dc
def doV(i:DoI):Value:=.tuple #[ε υ (i.v:Int),ε ζ i.e]
structure DoR(x:Dc)(i:DoI):Prop where
 v:i.v<18446744073709551616
 s:LF x i.y 0\/LC x i.y
theorem DoR.run{x i}(h:DoR x i):∃k,k<=1/\LF x i.y k:=by
 rcases h.s with h|h
 ·exact⟨0,by omega,h⟩
 ·exact⟨1,Ay _,.one h⟩
theorem ACx x{b}(hb:x.b=b)p TA tn tc tg c(hh:Lr c)A n cc az(hn:az.length=JG c)(hz:∀y∈az,y<18446744073709551616)(d:Nat)(hd:d<18446744073709551616)(htn:tn<=100000){q}(ht:IM x q)(hq:q<1000)W(hst:St (DV [.row (ξ TA tn tc) 3 1 tn (D8 tg),.row (ξ A n cc) 29 1 n (FU az),Dk (Da x)]) W [.row (ξ TA tn tc) 3 1 tn (D8 tg),.row (ξ A n cc) 29 1 n (FU az),Dk (Da x)] W):
  Calls AGm 101 #[π (σ ⟨b,0,ν⟩),ε ζ p,ξ TA tn tc,ε ζ (c:Int),ξ A n cc,ε υ (d:Int)] W
  λen w' => ∃i:DoI,en=κ (doV i)/\DoR x i/\St (DV [.row (ξ TA tn tc) 3 1 tn (D8 tg),.row (ξ A n cc) 29 1 n (FU az),Dk (Da x)]) W [.row (ξ TA tn tc) 3 1 tn (D8 tg),.row (ξ A n cc) 29 1 n (FU az),Dk (Da i.y)] w':=by
 subst hb;obtain⟨M,hM⟩:∃M,DV [.row (ξ TA tn tc) 3 1 tn (D8 tg),.row (ξ A n cc) 29 1 n (FU az),Dk (Da x)]=M:=⟨_,rfl⟩;rw[hM]at hst ⊢;clear hM;have hl:az.length=n:=Fv (hst.La 1 rfl).len;have htl:tg.length=tn:=by have:=(hst.La 0 rfl).len;rw[EY]at this;omega
 have ha1:1<=JG c:=by
  unfold Lr at hh;unfold JG;repeat' split
  all_goals omega
 have hg0:=getD_some (az:=az) (i:=0) AL;have hz0:=getD_lt hz 0;have hz1:=getD_lt hz 1;have hz2:=getD_lt hz 2;have hz3:=getD_lt hz 3;have hi1:=ACu (az.getD 1 0);refine DL (M:=M) Tryz.func101 [.tmp 12,.tmp 13]  hst ?_;have zs:=Bd.mk ZQ;refine EL 1 rfl AL λg F7 hg EX=>?_;subst F7;replace hg:=AAM (AO hg EX);clear EX;refine DZ ?_;refine Cw λK BC=>C9 rfl λK BD=>DR ?_;refine DI (λw hw=>Xc c hh (σ ⟨g,0,ν⟩) n cc az hn w (hw.La 1 rfl)) ?_;try refine DR ?_
 refine BD _ _ (DC [0,1,2,3,4,5,14] λG4 g4=>?_);replace g4:=EK g4;have zg:=Bd.mk g4;refine Db ?_;refine C_ ?_;by_cases hck:ckF c az=0
 case neg =>
  have dk:(!decide (ckF c az=0))=τ:=by rw[AUC hck];rfl
  refine DU dk ?_;refine Db ?_;refine C8 (EP λw hw=>?_);exact⟨⟨0,ckF c az,x⟩,rfl,⟨z64,.inl (.nil x)⟩,hw⟩
 have dk:(!decide (ckF c az=0))=ο:=by rw[AUB hck];rfl
 refine DU dk ?_;refine Cz (BC _ _ (C9 rfl λK BC=>DD ?_));refine DX (Dx (m:=1) (i:=0) (v:=ε υ (az.getD 0 0:Nat)) (DN (k:=1) rfl) AF (FQ hg0)) ?_;refine DD (BC _ _ ?_);refine DC [0,1,2,3,4,5,15] λG5 g5=>?_;replace g5:=Dy g5;replace zg:=Bd.mk g5;refine Db ?_;refine Cw λK BC=>?_;refine Df (λ_ _=>True) (λF' L' => ∃(k:Int),EH F' G5 [0,1,2,3,4,5,15]/\F' 16=ε ζ k/\L'=[.row (ξ TA tn tc) 3 1 tn (D8 tg),.row (ξ (σ ⟨g,0,ν⟩) n cc) 29 1 n (FU az),Dk (Da x)] ∧ -1<=k/\k<=1048576) ?_ ?_
 ·refine Db ?_;refine Ec (λhc=>?_) λhc=>?_
  ·have hn2:1<n:=by have:=AT0 hc;omega
   refine DJ rfl (DD ?_);refine DX (Dx (m:=1) (i:=1) (v:=ε υ (az.getD 1 0:Nat)) (DN (k:=1) rfl) AF (FQ (getD_some AL))) ?_;refine DD ?_;refine DI (λw hw=>IB (az.getD 1 0) w) ?_;try refine DD ?_
   exact⟨_,rfl,hi1.1,hi1.2⟩
  ·refine Cz ?_;try simp only[Di,Dq]
   refine DD ?_;exact⟨0,rfl,by decide,by decide⟩
 intro G6 L' _ hF;obtain⟨k,zq,ku,rfl,hk⟩:=hF;have g6:=AO (Dy zq) ku;refine BC _ _ (DC [0,1,2,3,4,5,15,16] λG7 g7=>?_);replace zg:=Bd.mk g6;replace g7:=Dy g7;refine Cw λK BC=>?_;replace zg:=Bd.mk g7;refine Db ?_;refine DK (Db ?_);refine C_ ?_;by_cases k1:(c:Int)=1
 ·have d1:decide ((c:Int)=1)=τ:=AUB k1;have hac:JG c=1:=by rw[show c=1 by omega];rfl
  refine DU d1 ?_;refine Db ?_;refine Cw λK BD=>?_;refine Df (λ_ _=>True) (λF' L' => ∃(tag:Int),EH F' G7 [0,1,5]/\F' 17=ε ζ tag/\L'=[.row (ξ TA tn tc) 3 1 tn (D8 tg),.row (ξ (σ ⟨g,0,ν⟩) n cc) 29 1 n (FU az),Dk (Da x)]) ?_ ?_
  ·refine C9 rfl λK kK2=>DD ?_;refine DX (Dx (m:=1) (i:=0) (v:=ε υ (az.getD 0 0:Nat)) (DN (k:=1) rfl) AF (FQ (getD_some (az:=az) (i:=0) AL))) ?_;refine DD (kK2 _ _ ?_);refine Ec (λhc=>?_) λhc=>?_
   ·have hlt:az.getD 0 0<tn:=by have:=AT0 hc;rw[u64_in AL]at this;omega
    obtain⟨tv,htv⟩:∃tv,tg[az.getD 0 0]?=σ tv:=⟨_,AQ AL⟩;refine EL 0 rfl AL λgt F7 hgt EX=>?_;subst F7;replace hgt:=AAM (AO hgt EX);clear EX;refine DJ rfl (DD ?_);refine DX (Dx (m:=1) (i:=0) (v:=ε υ (az.getD 0 0:Nat)) (DN (k:=1) rfl) AF (FQ (getD_some (az:=az) (i:=0) AL))) ?_;refine DD ?_;refine DX (Dx (m:=1) (i:=az.getD 0 0) (v:=ε ζ tv) (DN (k:=0) rfl) AF (GG htv)) ?_;refine DD ?_;exact⟨tv,rfl⟩
   ·refine Cz ?_;try simp only[Di,Dq]
    refine DD ?_;exact⟨0,rfl⟩
  intro G8 L' _ hF;obtain⟨tag,zq,AE5,rfl⟩:=hF;have g8:=AO (Dy zq) AE5;refine BD _ _ (DC [0,1,5,17] λG9 g9=>?_);replace zg:=Bd.mk g8;replace g9:=Dy g9;refine C9 rfl λK BD=>?_;replace zg:=Bd.mk g9;refine DD ?_;refine Dh AFY (λi:mG=>[Dk (Da i.y)]) _ (λw hw=>Es (λh=>mH x rfl p tag d hd ht hq w h) hw) ?_;rintro i hi;unfold AFY;refine EM ?_;refine DD (BD _ _ ?_);refine Db ?_;refine C8 (EP λw hw=>?_);exact⟨⟨i.h,i.er,i.y⟩,rfl,⟨hi.hh,.inr (.al p tag d hi)⟩,hw.pick (ix:=[1,2,0]) AJ⟩
 refine DU k1 ?_;refine Db ?_;refine C_ ?_;by_cases k2:(c:Int)=2
 ·have d2:decide ((c:Int)=2)=τ:=AUB k2;have hac:JG c=1:=by rw[show c=2 by omega];rfl
  refine DU d2 ?_;refine C9 rfl λK BD=>DD ?_;refine Dh Gv (λi:JD=>[Dk (Da i.y)]) _ (λw hw=>Es (λh=>uJ x rfl p (az.getD 0 0) hz0 ht hq w h) hw) ?_;rintro i hi;unfold Gv;refine EM ?_;refine DD (BD _ _ ?_);refine C8 (EP λw hw=>?_);exact⟨⟨0,i.v,i.y⟩,rfl,⟨z64,.inr (.fr p i.v (az.getD 0 0) hz0 hi)⟩,hw.pick (ix:=[1,2,0]) AJ⟩
 refine DU k2 ?_;refine Db ?_;refine C_ ?_;by_cases k3:(c:Int)=3
 ·have d3:decide ((c:Int)=3)=τ:=AUB k3;have hac:JG c=2:=by rw[show c=3 by omega];rfl
  refine DU d3 ?_;refine C9 rfl λK BD=>DD ?_;refine Dh AFZ (λi:ACT=>[Dk (Da i.y)]) _ (λw hw=>Es (λh=>zb x rfl p (az.getD 0 0) k hz0 ht hq w h) hw) ?_;rintro i hi;unfold AFZ;refine EM ?_;refine DD (BD _ _ ?_);refine C8 (EP λw hw=>?_);exact⟨⟨i.v.toNat,i.er,i.y⟩,by unfold doV;dsimp only;rw[Ct hi.v.1],⟨by have:=hi.v;show i.v.toNat<_;omega,.inr (.rd p 3 i.er (az.getD 0 0) (Ki k) (.inl rfl) hz0 (Ia _) hi.r)⟩,hw.pick (ix:=[1,2,0]) AJ⟩
 refine DU k3 ?_;refine Db ?_;refine C_ ?_;by_cases k4:(c:Int)=4
 ·have d4:decide ((c:Int)=4)=τ:=AUB k4;have hac:JG c=3:=by rw[show c=4 by omega];rfl
  refine DU d4 ?_;refine C9 rfl λK BD=>DD ?_;refine DX (Dx (m:=1) (i:=2) (v:=ε υ (az.getD 2 0:Nat)) (DN (k:=1) rfl) AF (FQ (getD_some (az:=az) (i:=2) AL))) ?_;refine DD ?_;refine Dh Gv (λi:JD=>[Dk (Da i.y)]) _ (λw hw=>Es (λh=>ACS x rfl p (az.getD 0 0) k _ hz0 ht hq w h) hw) ?_;rintro i hi;unfold Gv;refine EM ?_;refine DD (BD _ _ ?_);refine C8 (EP λw hw=>?_);exact⟨⟨0,i.v,i.y⟩,rfl,⟨z64,.inr (.st p 4 i.v (Ki k) (az.getD 0 0) (.inl rfl) (Ia _) hz0 hi)⟩,hw.pick (ix:=[1,2,0]) AJ⟩
 refine DU k4 ?_;refine Db ?_;refine C_ ?_;by_cases k5:(c:Int)=5
 ·have d5:decide ((c:Int)=5)=τ:=AUB k5;have hac:JG c=3:=by rw[show c=5 by omega];rfl
  refine DU d5 ?_;have ha2:az.getD 2 0<=8:=by
   unfold ckF at hck;split at hck
   ·cases hck
   ·exact AV3
  refine C9 rfl λK BD=>DD ?_;refine DX (Dx (m:=1) (i:=2) (v:=ε υ (az.getD 2 0:Nat)) (DN (k:=1) rfl) AF (FQ (getD_some (az:=az) (i:=2) AL))) ?_;refine DD ?_;refine Dh (λi:LdI×Dc=>uC i.1) (λi:LdI×Dc=>[Uv i.1]++[Dk (Da i.2)]) _ (λw hw=>mW (ex:=λi:LdI×Dc=>[Uv i.1]) (Lf:=λi=>Da i.2) (λh=>uK x rfl p (az.getD 0 0) k _ hz0 ht hq w h) hw) ?_;rintro⟨i,y⟩ hi;unfold uC Uv;refine EM ?_;refine DD (BD _ _ ?_);refine DC [20,21] λXo g10=>?_;replace g10:=Dy g10;refine C9 rfl λK BD=>?_;replace zg:=Bd.mk g10;refine DD ?_;have hnb:=hi.l.nb;dsimp only at hnb;refine Ee (λv:Int=>ε υ v) (λv=>0<=v/\v<18446744073709551616) (λw hw=>Uu i.A i.n i.c i.l w (hw.La 0 rfl) AL) ?_;intro v hv;refine DD (BD _ _ ?_);refine C8 (EP λw hw=>?_);exact⟨⟨v.toNat,i.er,y⟩,by unfold doV;dsimp only;rw[Ct hv.1],⟨by show v.toNat<_;omega,.inr (.rd p 5 i.er (az.getD 0 0) (Ki k) (.inr rfl) hz0 (Ia _) hi.r)⟩,hw.pick (ix:=[2,3,1]) AJ⟩
 refine DU k5 ?_;refine Db ?_;refine C_ ?_;by_cases k6:(c:Int)=6
 ·have d6:decide ((c:Int)=6)=τ:=AUB k6;have hac:JG c=4:=by rw[show c=6 by omega];rfl
  refine DU d6 ?_;have ha2:az.getD 2 0<=8:=by
   unfold ckF at hck;split at hck
   ·cases hck
   ·exact AV3
  refine Cw λK BD=>FD [0,1] [(τ,0),(τ,1),(τ,2),(τ,3),(τ,4),(τ,5),(τ,6),(τ,8),(τ,9),(τ,10),(ο,7),(τ,11),(ο,12),(τ,13),(τ,14)] [] ?_;refine DD ?_;refine DX (Dx (m:=1) (i:=3) (v:=ε υ (az.getD 3 0:Nat)) (DN (k:=1) rfl) AF (FQ (getD_some (az:=az) (i:=3) AL))) ?_;refine DD ?_;refine DX (Dx (m:=1) (i:=2) (v:=ε υ (az.getD 2 0:Nat)) (DN (k:=1) rfl) AF (FQ (getD_some (az:=az) (i:=2) AL))) ?_;refine DD ?_;refine mX bsV (λi:BsI=>[.row (ξ i.A i.n i.c) 5 1 i.n (Gf i.l)]) _ (λw hw=>Xd _ hz3 w) ?_;rintro⟨EA,en,ec,el⟩ hen ⟨w9,hw9⟩;dsimp only at hen;subst hen;have hcp:=(hw9.La 0 rfl).cap;dsimp only at hcp;unfold bsV;refine EM ?_;refine DD ?_;refine RV [.row (ξ EA 8 ec) 5 1 8 (Gf el),.row (ξ TA tn tc) 3 1 tn (D8 tg),.row (ξ (σ ⟨g,0,ν⟩) n cc) 29 1 n (FU az)] [Dk (Da x)] (CF _) Gv (λi:JD=>[Dk (Da i.y)]) _ (λw hw0 hw=>Es (λh=>uI x rfl p (az.getD 0 0) k EA (az.getD 2 0) ec (el.take (az.getD 2 0)) hz0 AL ht hq w (by have h7:=(hw0.La 0 rfl).take (k:=az.getD 2 0) AL;rw[Ac,show (Gf el).take (az.getD 2 0)=Gf (el.take (az.getD 2 0)) by unfold Gf;simp]at h7;exact h7) (ACw hw0 AUq) h) hw) ?_;rintro i hi;unfold Gv;refine EM ?_;refine DD (BD _ _ ?_);refine C8 (EP λw hw=>?_);exact⟨⟨0,i.v,i.y⟩,rfl,⟨z64,.inr (.st p 6 i.v (Ki k) (az.getD 0 0) (.inr (.inl rfl)) (Ia _) hz0 hi)⟩,hw.pick (ix:=[2,3,0]) AJ⟩
 refine DU k6 ?_;refine Db ?_;refine C_ ?_;by_cases k7:(c:Int)=7
 ·have d7:decide ((c:Int)=7)=τ:=AUB k7;have hac:JG c=5:=by rw[show c=7 by omega];rfl
  refine DU d7 ?_;refine Cw λK BD=>FD [0,1] [(τ,0),(τ,1),(τ,2),(τ,3),(τ,4),(τ,5),(τ,6),(τ,7),(τ,8),(τ,9),(τ,11),(τ,12),(τ,13),(ο,10),(ο,14),(ο,15),(τ,16),(τ,17)] [] ?_;refine DD ?_;refine DX (Dx (m:=1) (i:=2) (v:=ε υ (az.getD 2 0:Nat)) (DN (k:=1) rfl) AF (FQ (getD_some (az:=az) (i:=2) AL))) ?_;refine DD ?_;refine DX (Dx (m:=1) (i:=3) (v:=ε υ (az.getD 3 0:Nat)) (DN (k:=1) rfl) AF (FQ (getD_some (az:=az) (i:=3) AL))) ?_;refine DD ?_;refine DX (Dx (m:=1) (i:=4) (v:=ε υ (az.getD 4 0:Nat)) (DN (k:=1) rfl) AF (FQ (getD_some (az:=az) (i:=4) AL))) ?_;refine DD ?_;refine DI (λw hw=>IB (az.getD 3 0) w) ?_;try refine DD ?_
  refine DI (λw hw=>IB (az.getD 4 0) w) ?_;try refine DD ?_
  refine Dh Gv (λi:JD=>[Dk (Da i.y)]) _ (λw hw=>Es (λh=>zY x rfl p (az.getD 0 0) k (az.getD 2 0) _ _ hz0 hz2 ht hq w h) hw) ?_;rintro i hi;unfold Gv;refine EM ?_;refine DD (BD _ _ ?_);refine C8 (EP λw hw=>?_);exact⟨⟨0,i.v,i.y⟩,rfl,⟨z64,.inr (.st p 7 i.v (az.getD 2 0) (az.getD 0 0) (.inr (.inr rfl)) hz2 hz0 hi)⟩,hw.pick (ix:=[1,2,0]) AJ⟩
 refine DU k7 ?_;refine Db ?_;refine C_ ?_;by_cases k8:(c:Int)=8
 ·have d8:decide ((c:Int)=8)=τ:=AUB k8;have hac:JG c=2:=by rw[show c=8 by omega];rfl
  refine DU d8 ?_;refine C9 rfl λK BD=>DD ?_;refine Dh Gv (λi:JD=>[Dk (Da i.y)]) _ (λw hw=>Es (λh=>uF x rfl p (az.getD 0 0) k hz0 ht hq w h) hw) ?_;rintro i hi;unfold Gv;refine EM ?_;refine DD (BD _ _ ?_);refine C8 (EP λw hw=>?_);exact⟨⟨0,i.v,i.y⟩,rfl,⟨z64,.inr (.tr p k i.v (az.getD 0 0) hz0 hi)⟩,hw.pick (ix:=[1,2,0]) AJ⟩
 refine DU k8 ?_;refine Db ?_;refine C_ ?_;by_cases k9:(c:Int)=9
 ·have d9:decide ((c:Int)=9)=τ:=AUB k9;have hac:JG c=2:=by rw[show c=9 by omega];rfl
  refine DU d9 ?_;refine C9 rfl λK BD=>DD ?_;refine Dh Gv (λi:JD=>[Dk (Da i.y)]) _ (λw hw=>Es (λh=>uG x rfl p (az.getD 0 0) k hz0 ht hq w h) hw) ?_;rintro i hi;unfold Gv;refine EM ?_;refine DD (BD _ _ ?_);refine C8 (EP λw hw=>?_);exact⟨⟨0,i.v,i.y⟩,rfl,⟨z64,.inr (.ln p k 4 1 9 i.v (az.getD 0 0) (.inl ⟨rfl,rfl,rfl⟩) hz0 hi)⟩,hw.pick (ix:=[1,2,0]) AJ⟩
 refine DU k9 ?_;refine Db ?_;refine C_ ?_;by_cases k10:(c:Int)=10
 ·have d10:decide ((c:Int)=10)=τ:=AUB k10;have hac:JG c=2:=by rw[show c=10 by omega];rfl
  refine DU d10 ?_;refine C9 rfl λK BD=>DD ?_;refine Dh Gv (λi:JD=>[Dk (Da i.y)]) _ (λw hw=>Es (λh=>uH x rfl p (az.getD 0 0) k hz0 ht hq w h) hw) ?_;rintro i hi;unfold Gv;refine EM ?_;refine DD (BD _ _ ?_);refine C8 (EP λw hw=>?_);exact⟨⟨0,i.v,i.y⟩,rfl,⟨z64,.inr (.ln p k 3 2 10 i.v (az.getD 0 0) (.inr ⟨rfl,rfl,rfl⟩) hz0 hi)⟩,hw.pick (ix:=[1,2,0]) AJ⟩
 refine DU k10 ?_;refine Cz (BC _ _ (C9 rfl λK BC=>DD ?_));refine Dh Gv (λi:JD=>[Dk (Da i.y)]) _ (λw hw=>Es (λh=>zZ x rfl p (az.getD 0 0) hz0 ht hq w h) hw) ?_;rintro i hi;unfold Gv;refine EM ?_;refine DD (BC _ _ ?_);refine C8 (EP λw hw=>?_);exact⟨⟨0,i.v,i.y⟩,rfl,⟨z64,.inr (.rl p i.v (az.getD 0 0) hz0 hi)⟩,hw.pick (ix:=[1,2,0]) AJ⟩
structure Mx where
 b:Nat
 id:Int
 TA:Option Addr
 tn:Nat
 tc:Nat
 tg:List Int
 x:Gj
def j_(h:Nat)(y:Mx):DW:=.blk y.b 198 [π (σ ⟨h,0,ν⟩),ε ζ y.id,π (σ ⟨y.x.b,0,ν⟩),ξ y.TA y.tn y.tc]
def pgT(y:Mx):DW:=.row (ξ y.TA y.tn y.tc) 3 1 y.tn (D8 y.tg)
def RY(h:Nat)(y:Mx):List DW:=[j_ h y,pgT y,Dk (Ep y.x)]
structure PgG(y:Mx):Prop where
 g:MaG y.x
 tn:y.tn<=1000
structure OC where
 k:Int
 pl:Int
 fu:Int
 pk:Nat
 DA:Option Addr
 dn:Nat
 dc:Nat
 ds:List Nat
 BA:Option Addr
 bn:Nat
 bc:Nat
 bs:List Nat
def bI(c:OC):List Value:=[ε ζ c.k,ε ζ c.pl,ε ζ c.fu,ε υ (c.pk:Int),ξ c.DA c.dn c.dc,ξ c.BA c.bn c.bc]
theorem qM c:(bI c).length=6:=rfl
structure CmD(w:World)(D:Nat->Prop)(cs:List OC):Prop where
 ds:∀c∈cs,Sd w D 1 c.DA c.dn c.dc (FU c.ds)
 bs:∀c∈cs,Sd w D 1 c.BA c.bn c.bc (Gf c.bs)
structure mY(c:OC):Prop where
 pk:c.pk<18446744073709551616
 ds:∀y∈c.ds,y<18446744073709551616
 bs:∀y∈c.bs,y<256
 fu:0<=c.fu/\c.fu<=400
 dl:c.dn<=100
theorem CmD.same{w w' D D' cs}(h:CmD w D cs)(hs:∀y,D y->w'.heap[y]?=w.heap[y]?)(hD:∀y,D y->D' y):CmD w' D' cs :=
 ⟨λc hc=>(h.ds c hc).same hs hD,λc hc=>(h.bs c hc).same hs hD⟩
def KQ(ft:List Nat)(cs:List OC):DW:=.dat ft (λw=>CmD w (λy=>y∈ft) cs) (λ_ _ hk h=>h.same (λy hy=>hk y hy) λ_ h=>h)
section
variable{M:List Nat}{W w:World}{L:List DW}{ft:List Nat}{cs:List OC}
theorem QY ft cs L k:look (KQ ft cs::L) k=look L k:=rfl
theorem QZ ft cs L k us:JI (KQ ft cs::L) k us=KQ ft cs::JI L k us:=rfl
theorem UI ft cs L b:Qc (KQ ft cs::L) b=Qc L b:=rfl
theorem UJ ft cs L b:UT (KQ ft cs::L) b=UT L b:=rfl
theorem OD ft cs L W' M':Ht W' M' (KQ ft cs::L)=Ht W' M' L:=rfl
theorem OE ft cs L k:fresh (KQ ft cs::L) k=fresh L k:=rfl
theorem St.cmd(h:St M W L w){k}(hk:nth L k=σ (KQ ft cs)){c}(hc:c∈cs):Sl w w.heap.size 1 c.DA c.dn c.dc (FU c.ds):=by
 have h1:CmD w (λy=>y∈ft) cs:=h.holds _ (DN hk);exact(h1.ds c hc).sl λy hy=>(h.own _ (DN hk) y hy).2
theorem St.cmb(h:St M W L w){k}(hk:nth L k=σ (KQ ft cs)){c}(hc:c∈cs):Sl w w.heap.size 1 c.BA c.bn c.bc (Gf c.bs):=by
 have h1:CmD w (λy=>y∈ft) cs:=h.holds _ (DN hk);exact(h1.bs c hc).sl λy hy=>(h.own _ (DN hk) y hy).2
end
theorem Xe x{b}(hb:x.b=b)p{n}(ht:IM x n)(hn:n<1000)W(hst:St (DV (Da x)) W (Da x) W):
  Calls AGm 97 #[π (σ ⟨b,0,ν⟩),ε ζ p] W
  λen w' => ∃i:ll,en=κ (Ut i)/\EdR x p i/\St (DV (Da x)) W (Da i.y) w':=by
 have hj:=ht.j;have hes:=ht.es;have hms:=ht.ms;have hl:=hj.l;have hmt:=hj.T9.len;have hu:=hj.XI;exact ACE x hb p _ AL hj.tb hj.te hj.sm AL AL hj.VT AL hj.bn AL W hst
def OG:=AO (AO (AO (AO @Ac (AO @DT @KM)) (AO @cM (AO @Ey @Ez))) (AO (AO @E5 (AO @E8 @E9)) (AO (AO @Kw @Ky) (AO @Jg @NP)))) (AO (AO (AO @JO (AO @JP @Et)) (AO (AO @Eu @FK) (AO @FO @EZ))) (AO (AO @Ea (AO @QY @QZ)) (AO (AO @UI @UJ) (AO @OD @OE))))
structure NpI where
 p:Option Mx
 e:Int
 y:Dc
 k:Nat
def npV(i:NpI):Value:=.tuple #[.pointer (i.p.map λy=>⟨y.b,0,ν⟩),ε ζ i.e]
def npL(h:Nat)(i:NpI):List DW:=match i.p with
 |none=>[Dk (Da i.y)]
 |some y=>Dk (RY h y)::[Dk (Da i.y)]
structure NpR(x:Dc)(id:Int)(i:NpI):Prop where
 r:LF x i.y i.k
 k:i.k<=34
 ok:i.e=0→∃y,i.p=σ y
 no:¬i.e=0->i.p=ν
 g:∀y,i.p=σ y->PgG y/\y.id=id
theorem Xf x{b}(hb:x.b=b)id ft m fz sz(hv:(Mw m).1=0){q}(ht:IM x q)(hq:q+40<=1000)W(hst:St (DV [OO ft m,Dk (Da x)]) W [OO ft m,Dk (Da x)] W):
  Calls AGm 58 #[π (σ ⟨b,0,ν⟩),ε ζ id,Ie m,ε ζ fz,ε ζ sz] W
  λen w' => ∃i:NpI,en=κ (npV i)/\NpR x id i/\St (DV [OO ft m,Dk (Da x)]) W (npL b i) w':=by
 subst hb;have j5:=hst.md (k:=0) rfl;have hDm:=hst.mdD (k:=0) rfl;obtain⟨M,hM⟩:∃M,DV [OO ft m,Dk (Da x)]=M:=⟨_,rfl⟩;rw[hM]at hst ⊢;clear hM;obtain⟨hc0,hv2,-⟩:=av hv;obtain⟨hts,hck,-,-,-⟩:=ME hc0;have htl:=j5.AFc;refine DL (M:=M) Tryz.func58 [.tmp 10,.tmp 11]  hst ?_;refine C9 rfl λK BC=>?_;unfold Ie;have zs:=Bd.mk OG;refine DR ?_;intro b7 fZ;refine BC _ _ (DC [0,1,3,4,7] λG1 g1=>?_);replace g1:=EK g1;refine C9 rfl λK BC=>?_;have zg:=Bd.mk g1;refine DD ?_;refine Dh nmV (nmL ft m) _ (λw hw=>AAb ft m fz sz hv w hw) ?_;rintro(_|z) hz
 ·unfold nmV nmL;refine EM ?_;refine DD (BC _ _ ?_);refine Cw λK BC=>Db ?_;refine C_ (DD ?_);refine Db ?_;refine C8 (EP λw hw=>?_);exact⟨⟨ν,1,x,0⟩,rfl,⟨.nil x,Ar _,(λe=>by cases e),(λ_=>rfl),(λy e=>by cases e)⟩,hw.pick (ix:=[2]) AJ⟩
 obtain⟨hz1,hz2,hzg⟩:=hz z rfl;unfold nmV nmL;refine DD (BC _ _ ?_);subst hz1;subst hz2;refine Eo [Dk [JX z,KO z,KP z],OO z.ft z.m,.blk b7 129 [ξ z.m.TA z.m.tn z.m.tc,ξ z.m.FA z.m.fn z.m.fc],Dk (Da x)] (λw hw=>St.Dk (R:=[JX z,KO z,KP z]) hw) (DC [0,1,7,12,13] λG2 g2=>?_);replace g2:=Dy g2;refine Cw λK BC=>?_;replace zg:=Bd.mk g2;refine Db ?_;refine C_ (DD ?_);refine Cz (BC _ _ (C9 rfl λK BC=>DD ?_));intro b14 AQS AQT;refine BC _ _ (FB 3 1 (DY [1,0,2,3,4,5] ?_));refine Cw λK BC=>Db ?_;refine DC [0,1,7,12,14,15] λG3 g3=>?_;replace g3:=Dy g3;refine DK ?_;refine Dv (λF' L' => ∃(i:Nat)(y:Dc)(TA:Option Addr)(tn tc:Nat)(tg:List Int),EH F' G3 [0,1,7,12,14]/\F' 15=ε ζ (i:Int)/\L'=[.blk b14 198 [π (σ ⟨x.b,0,ν⟩),ε ζ id,π (σ ⟨z.b,0,ν⟩),ξ TA tn tc],.row (ξ TA tn tc) 3 1 tn (D8 tg),Dk [JX z,KO z,KP z],OO z.ft z.m,.blk b7 129 [ξ z.m.TA z.m.tn z.m.tc,ξ z.m.FA z.m.fn z.m.fc],Dk (Da y)]/\i<=z.m.tn/\LF x y i/\tn=i) (λF' L'=>200000-(intOf (F' 15)).toNat) ?_ ?_
 ·refine⟨0,x,ν,0,0,[],?_⟩;replace zg:=Bd.mk g3;refine DD ?_;exact⟨rfl,Ar _,LF.nil x⟩
 intro G4 L' hI;obtain⟨i,y,TA,tn,tc,tg,zq,AFi,rfl,⟨hi,hr,htn⟩⟩:=hI;replace zg:=Bd.mk g3;have g4:=AO (Dy zq) AFi;have hky:=hr.keep ht AL;have hyb:=hky.b;refine Cw λK BD=>?_;replace zg:=Bd.mk (AO g3 g4);refine Db ?_;refine Ec (λhc=>?_) λhc=>?_
 ·refine Cz ?_;try simp only[Di,Dq]
  have hit:i<z.m.tn:=by have:=AT0 hc;omega
  refine BD _ _ ?_;obtain⟨t,hti⟩:∃t,z.m.ts[i]?=σ t:=⟨_,AQ AL⟩;have htm:=AU hti;have hct:=J3 (hck t htm);obtain⟨tb,to,hTA,htb,-⟩:=hDm.ts.cells AL;refine H_ (λw hw=>AO (hw.jM (k:=3) (j:=0) rfl rfl htb).2 (hw.jM (k:=3) (j:=4) rfl rfl htb).2) ?_;rintro⟨e1,e2⟩;refine Cw λK BD=>DK (Cw λK kK2=>FD [0,1,2,3,4] [(τ,0),(τ,1),(τ,2),(τ,3),(τ,4),(τ,5),(τ,6),(τ,7),(ο,8),(τ,9),(τ,10),(τ,11),(τ,12),(τ,13)] [] ?_);refine DU hTA ?_;refine DX (mR (i:=i*2) (vs:=O8 t) (λw hw=>(by rw[<-hTA];exact(hw.md (k:=3) rfl).ts)) AL AF (Rv Ol hti)) ?_;refine DU hTA ?_;simp only[O8,Av,Bf,AT1];rw[<-hTA];refine RV [.blk b14 198 [π (σ ⟨x.b,0,ν⟩),ε ζ id,π (σ ⟨z.b,0,ν⟩),ξ TA tn tc],.row (ξ TA tn tc) 3 1 tn (D8 tg),Dk [JX z,KO z,KP z],OO z.ft z.m,.blk b7 129 [ξ z.m.TA z.m.tn z.m.tc,ξ z.m.FA z.m.fn z.m.fc]] [Dk (Da y)] (CF _) rgV (λj=>[Dk (Da j.y)]) (RgR y t.len t.fs) (λw hw0 hw=>Es (λh=>aY y hyb t.A t.n t.c t.fs t.len (by have:=hky.t.j.tn;omega) w ((hw0.md (k:=3) rfl).ty t htm) (λbb oo e hm=>?_) h) hw) ?_
  ·obtain⟨b',o',e3,hb',-⟩:=((hw0.mdD (k:=3) rfl).ty t htm).cells (by have h9:=((hw0.mdD (k:=3) rfl).ty t htm).len;rw[V4 H5]at h9;omega);rw[e]at e3;cases e3;exact Fs hw0.apart (i:=3) (j:=5) rfl rfl AJ bb hb' (by show bb∈(Dk (Da y)).foot;exact hm)
  rintro⟨jt,je,jy⟩ hj;unfold rgV;refine EM ?_;refine DD (kK2 _ _ ?_);have hr2:LF x jy (i+1):=.snoc hr (.rg t.len t.fs hj);refine Cw λK kK2=>Db ?_;refine C_ ?_;by_cases mJ:je=0
  case neg =>
   have dj:(!decide (je=0))=τ:=by rw[AUC mJ];rfl
   refine DU dj ?_;refine Db ?_;refine C8 (EP λw hw=>?_);exact⟨⟨ν,je,jy,i+1⟩,rfl,⟨hr2,by show i+1<=34;omega,(λe=>absurd e mJ),(λ_=>rfl),(λy e=>by cases e)⟩,hw.pick (ix:=[0]) AJ⟩
  have dj:(!decide (je=0))=ο:=by rw[AUB mJ];rfl
  refine DU dj ?_;refine Cz (kK2 _ _ (ED [3,0,4,5,6,2] AJ (DJ rfl (DD ?_))));intro bE Qi Tg;refine D6 3 GL rfl (λw hw=>D_ (size:=1) (DN (k:=0) rfl) rfl hw) rfl AL AL ?_;intro A4 c4 hl4 hr4;refine DD (BD _ _ ?_);refine Cy rfl (DD ?_);refine⟨⟨i+1,jy,A4,tn+1,c4,tg++[jt],?_⟩,?_⟩
  ·refine DU (AO @Af @Im) ?_;exact⟨by omega,hr2,by omega⟩
  ·exact AXo
 refine Dr (BC _ _ ?_);have hi2:i=z.m.tn:=by have:=AUD hc;omega
 refine DY [2,3,0,1,5] ?_;refine Eo [Dk (Ep z),.blk b14 198 [π (σ ⟨x.b,0,ν⟩),ε ζ id,π (σ ⟨z.b,0,ν⟩),ξ TA tn tc],.row (ξ TA tn tc) 3 1 tn (D8 tg),Dk (Da y)] (λw hw=>St.Dk (R:=Ep z) hw.GV) (DY [1,2,0,3] ?_);refine DC [0,1,12,14] λG5 g5=>?_;replace g5:=Dy g5;have hes:=hky.t.es;refine Cw λK BC=>C9 rfl λK BD=>?_;replace zg:=Bd.mk (AO g3 (AO g4 g5));refine DD ?_;refine Dh (λ_:Dc=>ε ζ (lZ y id)) (λz=>[Dk (Da z)]) _ (λw hw=>Es (λh=>tu y hyb id AL w h) hw) ?_;intro y2 hy2;refine EM ?_;have hr2:LF x y2 (i+1):=.snoc hr (.FL id hy2);refine DD (BD _ _ ?_);refine DC [0,1,12,14,18] λG6 g6=>?_;replace g6:=Dy g6;replace zg:=Bd.mk (AO g3 (AO g4 g6));refine Db ?_;refine C_ ?_;by_cases mJ:lZ y id=0
 case neg =>
  have dj:(!decide (lZ y id=0))=τ:=by rw[AUC mJ];rfl
  refine DU dj ?_;refine Db ?_;refine C8 (EP λw hw=>?_);exact⟨⟨ν,lZ y id,y2,i+1⟩,rfl,⟨hr2,by show i+1<=34;omega,(λe=>absurd e mJ),(λ_=>rfl),(λy e=>by cases e)⟩,hw.pick (ix:=[0]) AJ⟩
 have dj:(!decide (lZ y id=0))=ο:=by rw[AUB mJ];rfl
 refine DU dj ?_;refine Cz (BC _ _ ?_);have hk2:=hr2.keep ht AL;refine DY [1,2,3,0] ?_;refine DC [0,1,12,14] λG7 g7=>?_;replace g7:=Dy g7;refine Cw λK BC=>?_;refine Df (λ_ _=>True) (λF' L' => ∃(y3:Dc)(k3:Nat),F' 14=G7 14/\L'=[.blk b14 198 [π (σ ⟨x.b,0,ν⟩),ε ζ id,π (σ ⟨z.b,0,ν⟩),ξ TA tn tc],.row (ξ TA tn tc) 3 1 tn (D8 tg),Dk (Ep z),Dk (Da y3)]/\LF x y3 k3/\k3<=34) ?_ ?_
 ·refine C9 rfl λK BD=>?_;replace zg:=Bd.mk (AO g3 (AO g4 g7));refine DD ?_;refine Dh (λ_:Unit=>θ (mV z.p.FL)) (λ_=>[Dk (Ep z)]) _ (λw hw=>Es (λh=>Xb z rfl w h) hw) ?_;intro _ _;refine EM ?_;refine DD (BD _ _ ?_);refine DY [1,2,0,3] ?_;refine C_ ?_;cases hen:mV z.p.FL with
  | false =>
   refine DU hen ?_;refine Cz ?_;try simp only[Di,Dq]
   refine DD ?_;exact⟨y2,i+1,rfl,hr2,by omega⟩
  | true =>
   refine DU hen ?_;refine ED [1,2,3,0] AJ (DJ rfl (DD ?_));refine Dh Ut (λi=>[Dk (Da i.y)]) _ (λw hw=>Es (λh=>Xe y2 hk2.b id hk2.t AL w h) hw) ?_;intro ei hei;unfold Ut;refine EM ?_;refine DD ?_;exact⟨ei.y,i+1+1,rfl,.snoc hr2 (.end_ id hei),by omega⟩
 intro G8 L' _ hF;obtain⟨y3,k3,zS,rfl,⟨hr3,hk3⟩⟩:=hF;replace zg:=Bd.mk g7;have g8:=Dy zS;refine BC _ _ ?_;replace zg:=Bd.mk (AO g3 (AO g4 g8));refine Db ?_;refine C8 (EP λw hw=>?_);exact⟨⟨σ ⟨b14,id,TA,tn,tc,tg,z⟩,0,y3,k3⟩,rfl,⟨hr3,hk3,(λ_=>⟨_,rfl⟩),(λe=>absurd rfl e),(λy e=>by cases e;exact⟨⟨hzg,by show tn<=1000;omega⟩,rfl⟩)⟩,St.Dk (R:=RY x.b ⟨b14,id,TA,tn,tc,tg,z⟩) hw⟩
structure StI where
 FL:Int
 tr:Int
 us:Int
 CA:Option Addr
 cn:Nat
 cc:Nat
 j:Ov
 p:MP
 y:Dc
 k:Nat
def AF0(id:Int)(i:StI):Value:=.agg #[ε ζ id,ε ζ i.FL,ε ζ i.tr,ε ζ i.us,ξ i.CA i.cn i.cc]
structure ALy(x:Dc)(z:Gj)(i:StI):Prop where
 r:LF x i.y i.k
 k:i.k<=52
 n:jH z.m z.fl z.sl i.p
structure PsI(m:Ei)(fl sl fu:Nat)(x y:Dc)(p:MP)(u it k0 m2 cn:Nat)(oc:List Value):Prop where
 hn:jH m fl sl p
 hu:u<=fu
 hi:8*it<=u
 hk:k0<=it
 hr:LF x y m2
 hm:m2<=it
 hc:cn=it
 ho:ones oc=τ
theorem AD_(a b c d e:DW) : [c,a,b,d,e].Perm [a,b,c,d,e]:=(CL a c [b,d,e]).trans (.cons a (CL b c [d,e]))
theorem bJ{P M W L n c F Q}(h:∀K:Fr->List DW->Prop,(∀F' L',Q .normal F' L'→K F' L')->CV P M W n c F L (Dq K Q)):CV P M W n c F L Q:=K3 (h _ λ_ _ hh=>hh)
def Mx.up(y:Mx)(j:Ov)(p:MP):Mx := { y with x:=y.x.up j p }
theorem mZ x{hb}(hxb:x.b=hb)y{b}(hyb:y.b=b)(hg:PgG y)ft cs c(hcc:c∈cs)(hok:mY c){q}(ht:IM x q)(hq:q+60<=1000)W(hst:St (DV [Dk (RY hb y),KQ ft cs,Dk (Da x)]) W [Dk (RY hb y),KQ ft cs,Dk (Da x)] W):
  Calls AGm 61 #[π (σ ⟨b,0,ν⟩),ε ζ c.fu,ξ c.DA c.dn c.dc] W
  λen w' => ∃i:StI,en=κ (AF0 y.id i)/\ALy x y.x i/\St (DV [Dk (RY hb y),KQ ft cs,Dk (Da x)]) W [Dk (RY hb (y.up i.j i.p)),KQ ft cs,Dk (Da i.y)] w':=by
 subst hxb;subst hyb;have hDs:=hst.cmd (k:=1) rfl hcc;obtain⟨M,hM⟩:∃M,DV [Dk (RY x.b y),KQ ft cs,Dk (Da x)]=M:=⟨_,rfl⟩;rw[hM]at hst ⊢;clear hM;obtain⟨hv,hfl,hsl,hpn⟩:=hg.g;have AQV:=hg.tn;obtain⟨fu,hfu⟩:∃fu:Nat,c.fu=fu:=⟨c.fu.toNat,by have:=hok.fu;omega⟩;have AQW:fu<=400:=by have:=hok.fu;omega
 have hdl:=hok.dl;have hdn:=Fv hDs.len;obtain⟨hb,hhb⟩:∃hb,x.b=hb:=⟨_,rfl⟩;rw[hhb]at hst ⊢;obtain⟨pb,id,TA,tn,tc,tg,⟨mb,Xr,m,fl,sl,FA,fn,fc,SA,sn,sc,⟨FL,tr,cq,fs,ss⟩⟩⟩:=y;dsimp only at *;rw[hfu];have h2:St M W [Dk (Ep ⟨mb,Xr,m,fl,sl,FA,fn,fc,SA,sn,sc,⟨FL,tr,cq,fs,ss⟩⟩),j_ hb ⟨pb,id,TA,tn,tc,tg,⟨mb,Xr,m,fl,sl,FA,fn,fc,SA,sn,sc,⟨FL,tr,cq,fs,ss⟩⟩⟩,pgT ⟨pb,id,TA,tn,tc,tg,⟨mb,Xr,m,fl,sl,FA,fn,fc,SA,sn,sc,⟨FL,tr,cq,fs,ss⟩⟩⟩,KQ ft cs,Dk (Da x)] W:=hst.GV.perm (AD_ _ _ _ _ _);have h3:St M W [.blk pb 198 [π (σ ⟨hb,0,ν⟩),ε ζ id,π (σ ⟨mb,0,ν⟩),ξ TA tn tc],.row (ξ TA tn tc) 3 1 tn (D8 tg),KQ ft cs,Dk (Da x),.blk mb 195 [ξ m.TA m.tn m.tc,ξ m.FA m.fn m.fc,ε ζ (fl:Int),ε ζ (sl:Int),ε ζ FL,ε ζ tr,ξ FA fn fc,ξ SA sn sc,ε ζ cq],.row (ξ FA fn fc) 269 4 fn (cl MF fs),.row (ξ SA sn sc) 29 1 sn (FU ss),OO Xr m] W:=h2.GV.perm (BQ (l₁:=[_,_,_,_]) (l₂:=[_,_,_,_]));have hpm:¬pb=mb:=λe=>Fs h3.apart (i:=0) (j:=4) rfl rfl AJ pb AUp AVN;have hCm:CmD W (λy=>y∈ft) cs:=h3.holds _ (DN (k:=2) rfl);have hCn:∀z∈ft,z<W.heap.size∧¬pb=z∧¬mb=z:=λz hz=>⟨(h3.own _ (DN (k:=2) rfl) z hz).2,λe=>Fs h3.apart (i:=2) (j:=0) rfl rfl AJ z hz AVN,λe=>Fs h3.apart (i:=2) (j:=4) rfl rfl AJ z hz AVN⟩;refine ER (M:=M) (n:=135) [.cell 6 78] rfl Tryz.func61 rfl rfl (Am rfl)  h3 ?_;refine C9 rfl λK BC=>?_;have zs:=Bd.mk OG;refine DR ?_;intro b6 hb6 jm;refine BC _ _ (C9 rfl λK BC=>DR ?_);intro b7 fZ hf7;refine BC _ _ (DC [0,1,2,6,7] λG1 g1=>?_);replace g1:=EK g1;refine Cw λK BC=>?_;refine Df (λ_ _=>True) (λF' L' => ∃(u:Nat)(k3:Nat)(y3:Dc)(ui:Option Addr)(bU uj:Nat)(IP:Option Addr)(Hq IQ:Nat)(Ib:Option Addr)(Hr IU:Nat)(JQ RU RZ:Int)(Qx:List O5)(NU:List Nat),EH F' G1 [0,6,7]/\L'=[.blk b7 78 [ε ζ id,ε ζ 0,ε ζ 0,ε ζ (u:Int),ξ ui bU uj],.blk b6 78 [ε ζ 0,ε ζ 0,ε ζ 0,ε ζ 0,ξ ν 0 0],.blk pb 198 [π (σ ⟨hb,0,ν⟩),ε ζ id,π (σ ⟨mb,0,ν⟩),ξ TA tn tc],.row (ξ TA tn tc) 3 1 tn (D8 tg),KQ ft cs,Dk (Da y3),.blk mb 195 [ξ m.TA m.tn m.tc,ξ m.FA m.fn m.fc,ε ζ (fl:Int),ε ζ (sl:Int),ε ζ JQ,ε ζ RU,ξ IP Hq IQ,ξ Ib Hr IU,ε ζ RZ],.row (ξ IP Hq IQ) 269 4 Hq (cl MF Qx),.row (ξ Ib Hr IU) 29 1 Hr (FU NU),OO Xr m]/\LF x y3 k3/\k3<=52/\jH m fl sl ⟨JQ,RU,RZ,Qx,NU⟩) ?_ ?_
 ·have zg:=Bd.mk g1;refine Db ?_;refine Ec (λhc=>?_) λhc=>?_
  ·have hs1:FL=1:=AT0 hc;refine Db ?_;refine FB 236 4 (DY [1,2,3,4,5,6,0,7,8,9,10] ?_);refine DC [0,1,2,6,7,8] λG2 g2=>?_;replace g2:=Dy g2;refine Cw λK BD=>DK ?_;refine fC (λ(it:Nat) F' L' => ∃(u k0 m2:Nat)(x2:Dc)(ui:Option Addr)(bU uj:Nat)(oc1:List Value)(IP:Option Addr)(Hq IQ:Nat)(Ib:Option Addr)(Hr IU:Nat)(JQ RU RZ:Int)(Qx:List O5)(NU:List Nat),EH F' G2 [0,1,2,6,7]/\F' 8=ε ζ (k0:Int)/\L'=[.blk b7 78 [ε ζ id,ε ζ 0,ε ζ 0,ε ζ (u:Int),ξ ui bU uj],.blk b6 78 [ε ζ 0,ε ζ 0,ε ζ 0,ε ζ 0,ξ ν 0 0],.blk pb 198 [π (σ ⟨hb,0,ν⟩),ε ζ id,π (σ ⟨mb,0,ν⟩),ξ TA tn tc],.row (ξ TA tn tc) 3 1 tn (D8 tg),KQ ft cs,Dk (Da x2),.row (ξ ui bU uj) 236 4 bU oc1,.blk mb 195 [ξ m.TA m.tn m.tc,ξ m.FA m.fn m.fc,ε ζ (fl:Int),ε ζ (sl:Int),ε ζ JQ,ε ζ RU,ξ IP Hq IQ,ξ Ib Hr IU,ε ζ RZ],.row (ξ IP Hq IQ) 269 4 Hq (cl MF Qx),.row (ξ Ib Hr IU) 29 1 Hr (FU NU),OO Xr m]/\PsI m fl sl fu x x2 ⟨JQ,RU,RZ,Qx,NU⟩ u it k0 m2 bU oc1) (λ(it:Nat)=>1000-it) (0) ?_ ?_
   ·refine⟨0,0,0,x,ν,0,0,[],FA,fn,fc,SA,sn,sc,FL,tr,cq,fs,ss,?_⟩;replace zg:=Bd.mk (AO g1 g2);refine DD ?_;exact⟨hpn,Ar _,Ar _,Ar _,.nil x,Ar _,rfl,rfl⟩
   intro it G3 L' hI;obtain⟨u,k0,m2,x2,ui,bU,uj,oc1,IP,Hq,IQ,Ib,Hr,IU,JQ,RU,RZ,Qx,NU,zq,SG,rfl,hI⟩:=hI;replace zg:=Bd.mk g2;have g3:=AO (Dy zq) SG;have hu8:=hI.hi;have huf:=hI.hu;have hk0:=hI.hk;have hm2:=hI.hm;have hcn:=hI.hc;have hkp:=hI.hr.keep ht AL;have AAc:=hkp.b;have hy4:=hI.ho;refine DK (Cw λK kK2=>FD [0,2] [(τ,0),(τ,1),(τ,2),(τ,3),(τ,4),(τ,5),(τ,6),(τ,7),(τ,8),(τ,9),(ο,10),(τ,11),(τ,12),(ο,13)] [13] ?_);replace zg:=Bd.mk (AO g1 (AO g2 g3));refine DD ?_;refine Dh AFz (λi=>Ep (Gj.up ⟨mb,Xr,m,fl,sl,IP,Hq,IQ,Ib,Hr,IU,⟨JQ,RU,RZ,Qx,NU⟩⟩ i.j i.p)) _ (λw hw=>AAa ⟨mb,Xr,m,fl,sl,IP,Hq,IQ,Ib,Hr,IU,⟨JQ,RU,RZ,Qx,NU⟩⟩ rfl _ AL hv hI.hn hfl hsl w hw) ?_;rintro⟨⟨O0,O1,O3,VD,UH,VE⟩,⟨QD,qK,cq2,qL,UG⟩,u2⟩ hR;have hle:=hR.le;dsimp only at hle;obtain⟨u3,hu3⟩:∃u3:Nat,(u:Int)+(u2:Int)=(u3:Int):=⟨u+u2,by omega⟩;unfold AFz Gj.up Ep JX KO KP;refine EM ?_;refine DU hu3 (kK2 _ _ ?_);refine DY [4,5,6,7,8,9,10,0,1,2,3] ?_;refine DC [0,1,2,6,7,8] λG4 g4=>?_;replace g4:=Dy g4;by_cases h22:QD=2
   case neg =>
    refine C9 rfl λK kK2=>?_;replace zg:=Bd.mk (AO g1 (AO g2 (AO g3 g4)));refine DD ?_;refine EW (Ep ⟨mb,Xr,m,fl,sl,O0,O1,O3,VD,UH,VE,⟨QD,qK,cq2,qL,UG⟩⟩) (ASL [_,_,_,_,_,_,_] _) (λ_:Unit=>.tuple #[ε ζ 0,ξ ν 0 0,θ ο]) _ (λw hw=>uW ⟨mb,Xr,m,fl,sl,O0,O1,O3,VD,UH,VE,⟨QD,qK,cq2,qL,UG⟩⟩ rfl h22 w hw) ?_;intro _ _;refine DD (kK2 _ _ ?_);refine Cw λK kK2=>Db ?_;refine C_ (DD ?_);refine DY [0,1,2,3,4,5,7,8,9,10] ?_;refine Dr (BD _ _ (DC [0,6,7] λG5 g5=>?_));replace g5:=Dy g5;refine C9 rfl λK BD=>?_;replace zg:=Bd.mk (AO g1 (AO g2 (AO g3 g5)));refine DD ?_;refine EW (Ep ⟨mb,Xr,m,fl,sl,O0,O1,O3,VD,UH,VE,⟨QD,qK,cq2,qL,UG⟩⟩) (ASL [_,_,_,_,_,_] _) (λ_:Unit=>θ (mV QD)) _ (λw hw=>Xb ⟨mb,Xr,m,fl,sl,O0,O1,O3,VD,UH,VE,⟨QD,qK,cq2,qL,UG⟩⟩ rfl w hw) ?_;intro _ _;refine DD (BD _ _ ?_);refine C_ ?_;cases hen:mV QD with
    | false =>
     refine DU hen ?_;refine Cz ?_;try simp only[Di,Dq]
     refine DD ?_;exact⟨u3,m2,x2,ui,bU,uj,O0,O1,O3,VD,UH,VE,QD,qK,cq2,qL,UG,rfl,hI.hr,by omega,hR.mi.n h22⟩
    | true =>
     refine DU hen ?_;refine DY [0,1,2,3,4,6,7,8,9,5] ?_;refine ED [1,2,3,4,5,0,6,7,8,9] AJ (bJ λK hK=>EB [(τ,0),(τ,1),(τ,2),(τ,3),(τ,4),(τ,5),(τ,6),(τ,7),(ο,8)] [8] ?_);refine DD ?_;refine Jl [.blk b7 78 [ε ζ id,ε ζ 0,ε ζ 0,ε ζ (u3:Int),ξ ui bU uj],.blk b6 78 [ε ζ 0,ε ζ 0,ε ζ 0,ε ζ 0,ξ ν 0 0],.blk pb 198 [π (σ ⟨hb,0,ν⟩),ε ζ id,π (σ ⟨mb,0,ν⟩),ξ TA tn tc],.row (ξ TA tn tc) 3 1 tn (D8 tg),KQ ft cs,.blk mb 195 [ξ m.TA m.tn m.tc,ξ m.FA m.fn m.fc,ε ζ (fl:Int),ε ζ (sl:Int),ε ζ QD,ε ζ qK,ξ O0 O1 O3,ξ VD UH VE,ε ζ cq2],.row (ξ O0 O1 O3) 269 4 O1 (cl MF qL),.row (ξ VD UH VE) 29 1 UH (FU UG),OO Xr m] [Dk (Da x2)] (CF _) Ut (λi=>[Dk (Da i.y)]) _ (λw hw=>Es (λh=>Xe x2 (AAc.trans hhb) id hkp.t AL w h) hw) ?_;intro ei hei;unfold Ut;refine EM ?_;refine DD ?_;refine hK _ _ (DD ?_);exact⟨u3,m2+1,ei.y,ui,bU,uj,O0,O1,O3,VD,UH,VE,QD,qK,cq2,qL,UG,rfl,.snoc hI.hr (.end_ id hei),by omega,hR.mi.n h22⟩
   have hca:=hR.ca h22;dsimp only at hca;obtain⟨-,c2,h4,hh,h6,h7,-⟩:=hR.mi.cal h22;dsimp only at h4 h6 h7;have h8:UG.length<=sl:=hR.mi.hsl;subst h4;obtain⟨q2,hq2⟩:∃q2,UG.length=q2+JG c2:=⟨UG.length-JG c2,by omega⟩;refine C9 rfl λK kK2=>?_;replace zg:=Bd.mk (AO g1 (AO g2 (AO g3 g4)));refine DD ?_;refine Dh (rqV c2) (λi=>j4 i.A (JG c2) i.c (UG.drop q2)::Ep ⟨mb,Xr,m,fl,sl,O0,O1,O3,VD,UH,VE,⟨QD,qK,(c2:Int),qL,UG⟩⟩) _ (λw hw=>uX ⟨mb,Xr,m,fl,sl,O0,O1,O3,VD,UH,VE,⟨QD,qK,(c2:Int),qL,UG⟩⟩ rfl h22 rfl q2 hq2 (by show UG.length<=_;omega) w hw) ?_;rintro⟨RA,rc⟩ -;unfold rqV j4 Ep JX KO KP;refine EM ?_;refine DD (kK2 _ _ ?_);refine Cw λK kK2=>Db ?_;refine C_ (DD ?_);refine Cz (kK2 _ _ (DY [1,2,3,4,5,6,7,9,11,8,0,10] ?_));refine Db ?_;refine DC [0,1,2,6,7,8,9,10,12] λG6 g6=>?_;replace g6:=Dy g6;refine Cw λK kK2=>?_;refine Df (λ_ _=>True) (λF' L' => ∃(d k2:Nat),EH F' G6 [0,1,2,6,7,9,10]/\F' 8=ε ζ (k2:Int)/\F' 12=ε υ (d:Int)/\L'=[.blk mb 195 [ξ m.TA m.tn m.tc,ξ m.FA m.fn m.fc,ε ζ (fl:Int),ε ζ (sl:Int),ε ζ QD,ε ζ qK,ξ O0 O1 O3,ξ VD UH VE,ε ζ (c2:Int)],.row (ξ O0 O1 O3) 269 4 O1 (cl MF qL),.row (ξ VD UH VE) 29 1 UH (FU UG),OO Xr m,.blk b7 78 [ε ζ id,ε ζ 0,ε ζ 0,ε ζ (u3:Int),ξ ui bU uj],.blk b6 78 [ε ζ 0,ε ζ 0,ε ζ 0,ε ζ 0,ξ ν 0 0],.blk pb 198 [π (σ ⟨hb,0,ν⟩),ε ζ id,π (σ ⟨mb,0,ν⟩),ξ TA tn tc],KQ ft cs,.row (ξ ui bU uj) 236 4 bU oc1,.row (ξ TA tn tc) 3 1 tn (D8 tg),.row (ξ RA (JG c2) rc) 29 1 (JG c2) (FU (UG.drop q2)),Dk (Da x2)]/\d<18446744073709551616/\k2<=k0+1) ?_ ?_
   ·replace zg:=Bd.mk (AO g1 (AO g2 (AO g3 g6)));refine Db ?_;refine C_ ?_;by_cases c1:(c2:Int)=1
    ·have d1:decide ((c2:Int)=1)=τ:=AUB c1;refine DU d1 ?_;refine Cw λK kK3=>?_;refine Df (λ_ _=>True) (λF' L' => ∃(d:Nat),EH F' G6 [0,1,2,6,7,8,9,10]/\F' 12=ε υ (d:Int)/\L'=[.blk mb 195 [ξ m.TA m.tn m.tc,ξ m.FA m.fn m.fc,ε ζ (fl:Int),ε ζ (sl:Int),ε ζ QD,ε ζ qK,ξ O0 O1 O3,ξ VD UH VE,ε ζ (c2:Int)],.row (ξ O0 O1 O3) 269 4 O1 (cl MF qL),.row (ξ VD UH VE) 29 1 UH (FU UG),OO Xr m,.blk b7 78 [ε ζ id,ε ζ 0,ε ζ 0,ε ζ (u3:Int),ξ ui bU uj],.blk b6 78 [ε ζ 0,ε ζ 0,ε ζ 0,ε ζ 0,ξ ν 0 0],.blk pb 198 [π (σ ⟨hb,0,ν⟩),ε ζ id,π (σ ⟨mb,0,ν⟩),ξ TA tn tc],KQ ft cs,.row (ξ ui bU uj) 236 4 bU oc1,.row (ξ TA tn tc) 3 1 tn (D8 tg),.row (ξ RA (JG c2) rc) 29 1 (JG c2) (FU (UG.drop q2)),Dk (Da x2)]/\d<18446744073709551616) ?_ ?_
     ·refine Db ?_;refine Ec (λhc=>?_) λhc=>?_
      ·have hkd:k0<c.dn:=by have:=AT0 hc;omega
       obtain⟨db,dof,hDA,hdb,-⟩:=(hCm.ds c hcc).cells AL;obtain⟨n1,n2,n3⟩:=hCn _ hdb;obtain⟨dv,hdv⟩:∃dv,c.ds[k0]?=σ dv:=⟨_,AQ AL⟩;refine DJ rfl (DU hDA ?_);refine DX (bC (i:=k0) (v:=ε υ (dv:Int)) (λw hw=>(by rw[<-hDA];exact hw.cmd (k:=7) rfl hcc)) AL (m:=1) AF (FQ hdv)) ?_;refine DU hDA ?_;exact⟨dv,rfl,hok.ds dv (AU hdv)⟩
      ·refine Cz ?_;try simp only[Di,Dq]
       refine DD ?_;exact⟨0,rfl,z64⟩
     intro G7 L' _ hF;obtain⟨d,zq,Wz,rfl,hd⟩:=hF;have g7:=AO (Dy zq) Wz;refine kK3 _ _ (DJ rfl ?_);replace zg:=Bd.mk (AO g1 (AO g2 (AO g3 (AO g6 g7))));refine DD ?_;exact⟨d,k0+1,rfl,rfl,hd,Ay _⟩
    ·refine DU c1 ?_;refine Cz ?_;try simp only[Di,Dq]
     refine DD ?_;exact⟨0,k0,rfl,rfl,z64,Co _⟩
   intro G8 L' _ hF;obtain⟨d,k2,zq,SG,Wz,rfl,⟨hd,hk2⟩⟩:=hF;replace zg:=Bd.mk g6;have g8:=AO (Dy zq) (AO SG Wz);refine kK2 _ _ (DC [0,1,2,6,7,8,9,10,12] λG9 g9=>?_);replace zg:=Bd.mk (AO g1 (AO g2 (AO g3 g8)));replace g9:=Dy g9;refine Cw λK kK2=>FD [6] [(τ,0),(τ,1),(τ,2),(τ,3),(τ,4),(τ,5),(τ,6),(τ,7),(τ,8),(τ,9),(τ,10),(τ,11),(τ,12),(τ,13),(τ,14),(ο,15),(τ,16),(τ,17),(τ,18),(τ,19),(τ,20)] [] ?_;replace zg:=Bd.mk (AO g1 (AO g2 (AO g3 g9)));refine DD ?_;refine Jl [.blk mb 195 [ξ m.TA m.tn m.tc,ξ m.FA m.fn m.fc,ε ζ (fl:Int),ε ζ (sl:Int),ε ζ QD,ε ζ qK,ξ O0 O1 O3,ξ VD UH VE,ε ζ (c2:Int)],.row (ξ O0 O1 O3) 269 4 O1 (cl MF qL),.row (ξ VD UH VE) 29 1 UH (FU UG),OO Xr m,.blk b7 78 [ε ζ id,ε ζ 0,ε ζ 0,ε ζ (u3:Int),ξ ui bU uj],.blk b6 78 [ε ζ 0,ε ζ 0,ε ζ 0,ε ζ 0,ξ ν 0 0],.blk pb 198 [π (σ ⟨hb,0,ν⟩),ε ζ id,π (σ ⟨mb,0,ν⟩),ξ TA tn tc],KQ ft cs,.row (ξ ui bU uj) 236 4 bU oc1] [.row (ξ TA tn tc) 3 1 tn (D8 tg),.row (ξ RA (JG c2) rc) 29 1 (JG c2) (FU (UG.drop q2)),Dk (Da x2)] (CF _) doV (λi=>[.row (ξ TA tn tc) 3 1 tn (D8 tg),.row (ξ RA (JG c2) rc) 29 1 (JG c2) (FU (UG.drop q2)),Dk (Da i.y)]) _ (λw hw=>ACx x2 (AAc.trans hhb) id TA tn tc tg c2 hh RA (JG c2) rc (UG.drop q2) (by rw[CR];omega) (λy hy=>hR.mi.u y (ASQ hy)) d hd AL hkp.t AL w hw) ?_;rintro⟨v,e,y2⟩ hdo;obtain⟨kd,hkd,hrd⟩:=hdo.run;have hv64:=hdo.v;dsimp only at hrd hv64;unfold doV;refine EM ?_;refine DD (kK2 _ _ ?_);refine DY [7,8,9,10,11,0,1,2,3,4,5,6] ?_;refine DC [0,1,2,6,7,8,9,10,13,14] λXo g10=>?_;replace g10:=Dy g10;refine C9 rfl λK kK2=>?_;replace zg:=Bd.mk (AO g1 (AO g2 (AO g3 g10)));refine DD ?_;intro bE Qi Tg;refine D6 5 AGs rfl (λw hw=>D_ (size:=4) (DN (k:=0) rfl) rfl hw) rfl AL AL ?_;intro A4 c4 hl4 hr4;refine DD (kK2 _ _ ?_);refine DY [2,3,4,6,5,8,0,9,10,11,12] ?_;refine DC [0,1,2,6,7,8,13,14] λbQ g11=>?_;replace g11:=Dy g11;have hue:=IA e;refine ED [4,5,6,7,8,9,10,0,1,2,3] AJ (bJ λK hK=>Cy rfl ?_);replace zg:=Bd.mk (AO g1 (AO g2 (AO g3 g11)));refine DU hue ?_;refine Dh rsV (λi=>Ep (Gj.up ⟨mb,Xr,m,fl,sl,O0,O1,O3,VD,UH,VE,⟨QD,qK,(c2:Int),qL,UG⟩⟩ i.j i.p)) _ (λw hw=>jQ ⟨mb,Xr,m,fl,sl,O0,O1,O3,VD,UH,VE,⟨QD,qK,(c2:Int),qL,UG⟩⟩ rfl v (Ki e) hv64 (Ia e) hR.mi h22 hfl hsl w hw) ?_;rintro⟨⟨FA3,fn3,fc3,SA3,sn3,sc3⟩,⟨AL0,tr3,cq3,fs3,ss3⟩⟩ rq;unfold rsV Gj.up Ep JX KO KP;refine EM ?_;refine DD ?_;refine hK _ _ ?_;refine⟨it+1,⟨u3,k2,m2+kd,y2,A4,bU+1,c4,oc1++[ε ζ (c2:Int),ξ RA (JG c2) rc,ε υ (v:Int),ε ζ e],FA3,fn3,fc3,SA3,sn3,sc3,AL0,tr3,cq3,fs3,ss3,?_⟩,?_⟩
   ·refine DD ?_;exact⟨rq,by omega,by omega,by omega,hI.hr.app hrd,by omega,by omega,by rw[XD,hy4];rfl⟩
   ·omega
  ·refine Cz ?_;try simp only[Di,Dq]
   refine DD ?_;exact⟨0,0,x,ν,0,0,FA,fn,fc,SA,sn,sc,FL,tr,cq,fs,ss,rfl,.nil x,Ar _,hpn⟩
 intro vM L' _ hF;obtain⟨u,k3,y3,ui,bU,uj,IP,Hq,IQ,Ib,Hr,IU,JQ,RU,RZ,Qx,NU,zq,rfl,⟨hr3,hk3,rq⟩⟩:=hF;have zg:=Bd.mk g1;have g12:=Dy zq;refine BC _ _ ?_;replace zg:=Bd.mk g12;refine Db ?_;refine Db ?_;refine Db ?_;refine C8 (FF ?_);intro w hw;have h5:St M W (Ep ⟨mb,Xr,m,fl,sl,IP,Hq,IQ,Ib,Hr,IU,⟨JQ,RU,RZ,Qx,NU⟩⟩++[j_ hb (Mx.up ⟨pb,id,TA,tn,tc,tg,⟨mb,Xr,m,fl,sl,FA,fn,fc,SA,sn,sc,⟨FL,tr,cq,fs,ss⟩⟩⟩ ⟨IP,Hq,IQ,Ib,Hr,IU⟩ ⟨JQ,RU,RZ,Qx,NU⟩),pgT (Mx.up ⟨pb,id,TA,tn,tc,tg,⟨mb,Xr,m,fl,sl,FA,fn,fc,SA,sn,sc,⟨FL,tr,cq,fs,ss⟩⟩⟩ ⟨IP,Hq,IQ,Ib,Hr,IU⟩ ⟨JQ,RU,RZ,Qx,NU⟩),KQ ft cs,Dk (Da y3)]) w:=hw.pick (ix:=[6,7,8,9,2,3,4,5]) AJ;have h6:=h5.Dk.perm (AD_ _ _ _ _ _).symm;exact⟨⟨JQ,RU,u,ui,bU,uj,⟨IP,Hq,IQ,Ib,Hr,IU⟩,⟨JQ,RU,RZ,Qx,NU⟩,y3,k3⟩,rfl,⟨hr3,hk3,rq⟩,St.Dk (R:=RY hb (Mx.up ⟨pb,id,TA,tn,tc,tg,⟨mb,Xr,m,fl,sl,FA,fn,fc,SA,sn,sc,⟨FL,tr,cq,fs,ss⟩⟩⟩ ⟨IP,Hq,IQ,Ib,Hr,IU⟩ ⟨JQ,RU,RZ,Qx,NU⟩)) h6⟩
structure PpI where
 er:Int
 j:Ov
 p:MP
 y:Dc
 k:Nat
def ppV(i:PpI):Value:=ε ζ i.er
structure PpR(x:Dc)(z:Gj)(i:PpI):Prop where
 r:LF x i.y i.k
 k:i.k<=1
 n:jH z.m z.fl z.sl i.p
theorem ma x{hb}(hxb:x.b=hb)y{b}(hyb:y.b=b)(hg:PgG y)t(htt:1<=t/\t<=7){q}(ht:IM x q)(hq:q+2<=1000)W(hst:St (DV [Dk (RY hb y),Dk (Da x)]) W [Dk (RY hb y),Dk (Da x)] W):
  Calls AGm 62 #[π (σ ⟨b,0,ν⟩),ε ζ t] W
  λen w' => ∃i:PpI,en=κ (ppV i)/\PpR x y.x i/\St (DV [Dk (RY hb y),Dk (Da x)]) W [Dk (RY hb (y.up i.j i.p)),Dk (Da i.y)] w':=by
 subst hxb;subst hyb;obtain⟨M,hM⟩:∃M,DV [Dk (RY x.b y),Dk (Da x)]=M:=⟨_,rfl⟩;rw[hM]at hst ⊢;clear hM;have h3:St M W [j_ x.b y,pgT y,Dk (Da x),Dk (Ep y.x)] W:=hst.GV.pick (ix:=[0,1,3,2]) AJ;unfold j_ at h3;refine DL (M:=M) Tryz.func62 [.tmp 4]  h3 ?_;have zs:=Bd.mk OG;refine DZ ?_;refine Cw λK BC=>C9 rfl λK BD=>DR ?_;refine Dh spV (λi=>[Dk (Ep (y.x.up i.j i.p))]) _ (λw hw=>Es (λh=>uh y.x rfl t htt hg.g.p w h) hw) ?_;rintro⟨j,p,er⟩ ⟨hjn,mJ⟩;dsimp only at hjn mJ;unfold spV pgT;refine EM ?_;refine DR (BD _ _ ?_);refine DZ ?_;refine C_ ?_;rcases mJ with h0|h0
 ·have d0:(!decide (er=0))=ο:=by rw[AUB h0];rfl
  refine Ed d0 ?_;refine Cz (BC _ _ (DC [0] λG1 g1=>?_));replace g1:=EK g1;refine Cw λK BC=>FD [0,1,2] [(τ,0),(τ,1),(τ,2),(τ,3),(τ,4),(τ,5),(τ,6),(τ,7),(ο,8)] [8] ?_;have zg:=Bd.mk g1;refine DD ?_;refine Dh Ut (λi=>[Dk (Da i.y)]) _ (λw hw=>Es (λh=>Xe x rfl y.id ht AL w h) hw) ?_;intro ei hei;unfold Ut;refine EM ?_;refine DD (BC _ _ ?_);refine Db ?_;refine C8 (EP λw hw=>?_);exact⟨⟨0,j,p,ei.y,1⟩,rfl,⟨.one (.end_ y.id hei),Ay _,hjn⟩,St.Dk (R:=RY x.b (y.up j p)) (hw.pick (ix:=[2,3,1,0]) AJ)⟩
 ·have d0:(!decide (er=0))=τ:=by rw[h0];rfl
  refine Ed d0 ?_;refine DZ ?_;refine C8 (Eg λw hw=>?_);exact⟨⟨er,j,p,x,0⟩,rfl,⟨.nil x,Ar _,hjn⟩,St.Dk (R:=RY x.b (y.up j p)) (hw.pick (ix:=[1,2,0,3]) AJ)⟩
structure Qa where
 b:Nat
 PA:Option Addr
 pn:Nat
 pc:Nat
 ps:List Mx
def TM(ps:List Mx):List Value:=ps.map λy=>π (σ ⟨y.b,0,ν⟩)
def kC(h:Nat)(o:Qa):DW:=.blk o.b 101 [π (σ ⟨h,0,ν⟩),ξ o.PA o.pn o.pc]
def kD(o:Qa):DW:=.row (ξ o.PA o.pn o.pc) 148 1 o.pn (TM o.ps)
def bK(h:Nat)(y:Mx):DW:=Dk (RY h y)
abbrev ZR(h:Nat)(o:Qa):DW:=Dk (o.ps.map (bK h))
theorem TD l:(TM l).length=l.length:=by simp[TM]
theorem VW{l}{i:Nat}{y}(h:l[i]?=σ y):(TM l)[i]?=σ (π (σ ⟨y.b,0,ν⟩)):=by unfold TM;rw[BZ,h];rfl
theorem AAd l:ones (TM l)=τ:=by simp[ones,TM,Value.oneCell']
section
variable{M:List Nat}{W w:World}{L:List DW}{h:Nat}{o:Qa}{y:Mx}
theorem St.AIX(hw:St M W L w){k}(hk:nth L k=σ (ZR h o))(hy:y∈o.ps):w.cell? ⟨y.b,2,ν⟩=σ (π (σ ⟨y.x.b,0,ν⟩))/\w.cell? ⟨y.x.b,4,ν⟩=σ (ε ζ y.x.p.FL):=by
 have h1:∀r∈o.ps.map (bK h),r.holds w:=(hw.holds _ (DN hk)).1;have h2:∀r∈RY h y,r.holds w:=(h1 (bK h y) (BL.2 ⟨y,hy,rfl⟩)).1;have h3:(j_ h y).holds w:=h2 _ (.head _);have h4:∀r∈Ep y.x,r.holds w:=(h2 (Go.Proofs.YtnkgiaimcpbhkaaGreat.Dk (Ep y.x)) (.tail _ (.tail _ (.head _)))).1;have h5:(JX y.x).holds w:=h4 _ (.head _);exact⟨(cell_of_row w _ 2 _ _ _ h3).trans rfl,(cell_of_row w _ 4 _ _ _ h5).trans rfl⟩
theorem St.AL3(hw:St M W L w){k}(hk:nth L k=σ (ZR h o))(hy:y∈o.ps){j b t cs}(hj:nth L j=σ (.blk b t cs)):¬b=y.b∧¬b=y.x.b:=by
 have hne:j≠k:=λe=>by rw[e,hk]at hj;cases hj
 have hap:=Fs hw.apart hj hk hne b AUp;have hm:∀c∈(bK h y).foot,c∈(ZR h o).foot:=λc hc=>BM.2 ⟨bK h y,BL.2 ⟨y,hy,rfl⟩,hc⟩;refine⟨λe=>hap (hm b (BM.2 ⟨j_ h y,.head _,by rw[e];simp[DW.foot,j_]⟩)),λe=>hap (hm b (BM.2 ⟨Go.Proofs.YtnkgiaimcpbhkaaGreat.Dk (Ep y.x),.tail _ (.tail _ (.head _)),BM.2 ⟨JX y.x,.head _,by rw[e];simp[DW.foot,JX]⟩⟩))⟩
theorem St.AIY(hw:St M W L W){k}(hk:nth L k=σ (ZR h o))(hy:y∈o.ps):y.b<W.heap.size/\y.x.b<W.heap.size:=by
 have hm:∀c∈(bK h y).foot,c∈(ZR h o).foot:=λc hc=>BM.2 ⟨bK h y,BL.2 ⟨y,hy,rfl⟩,hc⟩;exact⟨(hw.own _ (DN hk) _ (hm _ (BM.2 ⟨j_ h y,.head _,by simp[DW.foot,j_]⟩))).2,(hw.own _ (DN hk) _ (hm _ (BM.2 ⟨Go.Proofs.YtnkgiaimcpbhkaaGreat.Dk (Ep y.x),.tail _ (.tail _ (.head _)),BM.2 ⟨JX y.x,.head _,by simp[DW.foot,JX]⟩⟩))).2⟩
end
def YJ(ps:List Mx):List Int:=ps.map λy=>y.x.p.FL
structure IrI where
 A:Option Addr
 n:Nat
 c:Nat
def irV(i:IrI):Value:=ξ i.A i.n i.c
def bV(l:List Int)(i:IrI):DW:=.row (ξ i.A i.n i.c) 3 1 i.n (D8 l)
theorem uk{ps:List Mx}{i y}(h:ps[i]?=σ y):YJ (ps.take (i+1))=YJ (ps.take i)++[y.x.p.FL]:=by
 unfold YJ;rw[Bi,h,Bj];rfl
theorem jR h o{b}(hb:o.b=b)(hn:o.ps.length<=100)W(hst:St (DV [kC h o,kD o,ZR h o]) W [kC h o,kD o,ZR h o] W):
  Calls AGm 60 #[π (σ ⟨b,0,ν⟩)] W
  λen w' => ∃i:IrI,en=κ (irV i)/\bR/\St (DV [kC h o,kD o,ZR h o]) W [bV (YJ o.ps) i,kC h o,kD o,ZR h o] w':=by
 subst hb;have hold:=λy (hy:y∈o.ps)=>hst.AIY (k:=2) rfl hy;have AL4:=λy (hy:y∈o.ps)=>hst.AL3 (k:=2) rfl hy (j:=0) rfl;obtain⟨M,hM⟩:∃M,DV [kC h o,kD o,ZR h o]=M:=⟨_,rfl⟩;rw[hM]at hst ⊢;clear hM;obtain⟨b,PA,pn,pc,ps⟩:=o;dsimp only at *;unfold kC kD at hst;dsimp only at hst;have hln:ps.length=pn:=by have:=(hst.La 1 rfl).len;rw[TD]at this;omega
 refine DL (M:=M) Tryz.func60 [.tmp 2]  hst ?_;have zs:=Bd.mk OG;refine DZ ?_;refine DZ ?_;refine DC [0,3] λG2 g2=>?_;replace g2:=EK g2;refine FB 3 1 (Cw λK BC=>?_);have zg:=Bd.mk g2;refine Db ?_;refine DC [0,3,4] λG3 g3=>?_;replace g3:=Dy g3;refine DK ?_;refine Dv (λF' L' => ∃(i:Nat)(A:Option Addr)(n c:Nat),F' 0=G3 0/\F' 3=ξ A n c/\F' 4=ε ζ (i:Int)/\L'=[.row (ξ A n c) 3 1 n (D8 (YJ (ps.take i))),.blk b 101 [π (σ ⟨h,0,ν⟩),ξ PA pn pc],.row (ξ PA pn pc) 148 1 pn (TM ps),ZR h ⟨b,PA,pn,pc,ps⟩]/\i<=pn/\n=i) (λF' L'=>200000-(intOf (F' 4)).toNat) ?_ ?_
 ·refine⟨0,ν,0,0,?_⟩;replace zg:=Bd.mk g3;refine DD ?_;exact⟨rfl,Ar _⟩
 intro G4 L' hI;obtain⟨i,A,n,c,Nk,Tn,Qd,rfl,⟨hi,hni⟩⟩:=hI;replace zg:=Bd.mk g3;have g4:=AO (Dy Nk) (AO Tn Qd);refine Cw λK BD=>?_;replace zg:=Bd.mk (AO g3 g4);refine Db ?_;refine Ec (λhc=>?_) λhc=>?_
 ·refine Cz ?_;try simp only[Di,Dq]
  have hit:i<pn:=by have:=AT0 hc;omega
  refine BD _ _ ?_;obtain⟨y,hy⟩:∃y,ps[i]?=σ y:=⟨_,AQ AL⟩;have hym:=AU hy;obtain⟨n1,n2⟩:=AL4 y hym;obtain⟨o1,o2⟩:=hold y hym;refine EL 2 rfl AL λg F7 hg EX=>?_;subst F7;replace hg:=AAM (AO hg EX);clear EX;refine Cw λK BD=>DK (ED [0,2,3,4] AJ (DJ rfl (DD ?_)));refine DX (Dx (m:=1) (i:=i) (v:=π (σ ⟨y.b,0,ν⟩)) (DN (k:=2) rfl) AF (VW hy)) ?_;refine DD ?_;refine DX (Ha (m:=1) AF (λw hw=>(hw.AIX (k:=3) rfl hym).1)) ?_;refine DD ?_;refine DX (Ha (m:=1) AF (λw hw=>(hw.AIX (k:=3) rfl hym).2)) ?_;refine DD ?_;intro bE Qi Tg;refine D6 1 GL rfl (λw hw=>D_ (size:=1) (DN (k:=0) rfl) rfl hw) rfl AL AL ?_;intro A4 c4 hl4 hr4;refine DD (BD _ _ ?_);refine Cy rfl (DD ?_);refine⟨⟨i+1,A4,n+1,c4,?_⟩,?_⟩
  ·rw[uk hy,Im];exact AU0
  ·exact AXo
 refine Dr (BC _ _ (Db ?_));refine C8 (EP λw hw=>?_);have hpi:i=pn:=by have:=AUD hc;omega
 subst hpi;exact⟨⟨A,n,c⟩,rfl,trivial,by rw[Aw AL]at hw;exact hw⟩
structure RuI where
 i:IrI
 r:List Int
structure RuR(l:List Int)(j:RuI):Prop where
 h:∀v∈j.r,1<=v/\v<=l.length
 l:j.r.length<=l.length
theorem YK l i(hl:l.length<=100)W(hst:St (DV [bV l i]) W [bV l i] W):
  Calls AGm 98 #[irV i] W
  λen w' => ∃j:RuI,en=κ (irV j.i)/\RuR l j/\St (DV [bV l i]) W [bV j.r j.i,bV l i] w':=by
 obtain⟨M,hM⟩:∃M,DV [bV l i]=M:=⟨_,rfl⟩;rw[hM]at hst ⊢;clear hM;obtain⟨A0,n0,c0⟩:=i;unfold bV at hst;unfold irV;dsimp only at *;have hln:l.length=n0:=by have:=(hst.La 0 rfl).len;rw[EY]at this;omega
 refine DL (M:=M) Tryz.func98 [.tmp 2]  hst ?_;have zs:=Bd.mk OG;refine DZ ?_;refine DZ ?_;refine DC [0,3] λG1 g1=>?_;replace g1:=EK g1;refine FB 3 1 (Cw λK BC=>?_);have zg:=Bd.mk g1;refine Db ?_;refine DC [0,3,4] λG2 g2=>?_;replace g2:=Dy g2;refine DK ?_;refine Dv (λF' L' => ∃(i:Nat)(A:Option Addr)(n c:Nat)(r:List Int),F' 0=G2 0/\F' 3=ξ A n c/\F' 4=ε ζ (i:Int)/\L'=[.row (ξ A n c) 3 1 n (D8 r),.row (ξ A0 n0 c0) 3 1 n0 (D8 l)]/\i<=n0/\n<=i/\n=r.length/\(∀v∈r,1<=v/\v<=(n0:Int))) (λF' L'=>200000-(intOf (F' 4)).toNat) ?_ ?_
 ·refine⟨0,ν,0,0,[],?_⟩;replace zg:=Bd.mk g2;refine DD ?_;exact⟨rfl,Ar _,(λv hv=>by cases hv)⟩
 intro G3 L' hI;obtain⟨i,A,n,c,r,Nk,Tn,Qd,rfl,⟨hi,hni,hnr,hr⟩⟩:=hI;replace zg:=Bd.mk g2;have g3:=AO (Dy Nk) (AO Tn Qd);refine Cw λK BD=>?_;replace zg:=Bd.mk (AO g2 g3);refine Db ?_;refine Ec (λhc=>?_) λhc=>?_
 ·refine Cz ?_;try simp only[Di,Dq]
  have hit:i<n0:=by have:=AT0 hc;omega
  refine BD _ _ ?_;obtain⟨y,hy⟩:∃y,l[i]?=σ y:=⟨_,AQ AL⟩;refine EL 1 rfl AL λg F7 hg EX=>?_;subst F7;replace hg:=AAM (AO hg EX);clear EX;refine Cw λK BD=>DK (C9 rfl λK kK2=>DD ?_);refine DX (Dx (m:=1) (i:=i) (v:=ε ζ y) (DN (k:=1) rfl) AF (GG hy)) ?_;refine DD ?_;try refine DD ?_
  refine kK2 _ _ ?_;refine Ec (λhc=>?_) λhc=>?_
  ·refine ED [0,2] AJ (DJ rfl (DD ?_));intro bE Qi;refine D6 1 GL rfl (λw hw=>D_ (size:=1) (DN (k:=0) rfl) rfl hw) rfl AL AL ?_;intro A4 c4 hl4 hr4;refine DD (BD _ _ ?_);refine Cy rfl (DD ?_);refine⟨⟨i+1,A4,n+1,c4,r++[(i:Int)+1],?_⟩,?_⟩
   ·refine DU (AO @Af @Im) ?_;refine⟨by omega,by omega,by simp[hnr],λv hv=>?_⟩;rcases AV.1 hv with hv|hv
    ·exact hr v hv
    ·rw[BH.1 hv];omega
   ·exact AXo
  ·refine Cz (BD _ _ (Cy rfl (DD ?_)));refine⟨⟨i+1,A,n,c,r,?_⟩,?_⟩
   ·refine DU @Af ?_;exact⟨by omega,by omega,hnr,hr⟩
   ·exact AXo
 refine Dr (BC _ _ (Db ?_));refine C8 (EP λw hw=>?_);exact⟨⟨⟨A,n,c⟩,r⟩,rfl,⟨by rw[hln];exact hr,by show r.length<=l.length;omega⟩,hw⟩
structure PkJ where
 v:Int
 b:Bool
def pkW(i:PkJ):Value:=.tuple #[ε ζ i.v,θ i.b]
def PkP(l:List Int)(i:PkJ):Prop:=i.b=τ->1<=i.v/\i.v<=l.length
theorem um l i(hl:l.length<=100)(pk:Nat)(hpk:pk<18446744073709551616)W(hst:St (DV [bV l i]) W [bV l i] W):
  Calls AGm 59 #[irV i,ε υ (pk:Int)] W
  λen w' => ∃j:PkJ,en=κ (pkW j)/\PkP l j/\St (DV [bV l i]) W [bV l i] w':=by
 obtain⟨M,hM⟩:∃M,DV [bV l i]=M:=⟨_,rfl⟩;rw[hM]at hst ⊢;clear hM;refine DL (M:=M) Tryz.func59 [.tmp 4,.tmp 5]  hst ?_;have zs:=Bd.mk OG;refine DZ ?_;refine C9 rfl λK BC=>DR ?_;refine Dh (λj:RuI=>irV j.i) (λj:RuI=>[bV j.r j.i,bV l i]) _ (λw hw=>YK l i hl w hw) ?_;rintro⟨⟨A,n,c⟩,r⟩ ⟨h1,h2⟩;unfold irV bV;dsimp only[Ad,AR]at h1 h2 ⊢;refine DR (BC _ _ ?_);refine Cw λK BC=>DZ ?_;refine NC (λhc=>?_) λhc=>?_
 ·refine DZ ?_;refine C8 (Eg λw hw=>?_);exact⟨⟨0,ο⟩,rfl,(λe=>by cases e),hw.pick (ix:=[1]) AJ⟩
 ·refine Cz ?_;try simp only[Di,Dq]
  have hn0:¬n=0:=by have:=AUD hc;omega
  refine BC _ _ (F8 0 rfl λhlr=>?_);rw[EY]at hlr
  (try rw[Ac]at hlr)
  refine EL 0 rfl AL λg F7 hg EX=>?_;subst F7;replace hg:=AAM (AO hg EX);clear EX;obtain⟨y,hy⟩:∃y,r[pk % n]?=σ y:=⟨_,AQ (by have:=ASo pk (show 0<n by omega);omega)⟩;have kE:=ASo pk (show 0<n by omega);have hwn:IntKind.u64.wrap (n:Int)=(n:Int):=IntWalk.u64_in _ AL;have hmo:(pk:Int) % (n:Int)=((pk % n:Nat):Int):=(Int.natCast_emod pk n).symm;have hnz:¬(n:Int)=0:=by omega
  refine C9 rfl λK BC=>Ed (AO hwn (AO hmo hnz)) ?_;refine DX (Dx (m:=1) (i:=pk % n) (v:=ε ζ y) (DN (k:=0) rfl) AF (GG hy)) ?_;refine DR ?_;try refine DR ?_
  refine BC _ _ (C8 (Eg λw hw=>?_));exact⟨⟨y,τ⟩,rfl,(λ_=>h1 y (AU hy)),hw.pick (ix:=[1]) AJ⟩
structure ZT(o:Qa):Prop where
 l:o.ps.length<=64
 g:∀y∈o.ps,PgG y
 id:∀(k:Nat) (y:Mx),o.ps[k]?=σ y->y.id=(k:Int)+1
def IC(h:Nat)(o:Qa):List DW:=[kC h o,kD o,ZR h o]
def Qa.set(o:Qa)(k:Nat)(y:Mx):Qa := { o with ps:=o.ps.set k y }
theorem PgG.up{y}(h:PgG y)j p(hn:jH y.x.m y.x.fl y.x.sl p):PgG (y.up j p):=⟨⟨h.g.v,h.g.fl,h.g.sl,hn⟩,h.tn⟩
theorem ZT.set{o}(h:ZT o){k y}(hk:o.ps[k]?=σ y)j p(hn:jH y.x.m y.x.fl y.x.sl p):ZT (o.set k (y.up j p)):=by
 refine⟨by show (o.ps.set k _).length<=64;rw[Bt];exact h.l,λz hz=>?_,λi z hz=>?_⟩
 ·rcases Ck hz with hz|rfl
  ·exact h.g z hz
  ·exact(h.g y (AU hk)).up j p hn
 ·have h4:(o.ps.set k (y.up j p))[i]?=σ z:=hz;clear hz;rw[AUL]at h4;split at h4
  ·rename_i e;subst e;split at h4
   ·cases h4;exact h.id k y hk
   ·cases h4
  ·exact h.id i z h4
theorem qN{h k z}{ps:List Mx} : (ps.map (bK h)).set k (bK h z)=(ps.set k z).map (bK h):=by rw[ASO]
theorem qO{ps k y}(hk:ps[k]?=σ y)j p:TM (ps.set k (y.up j p))=TM ps:=by
 unfold TM;rw[ASO];refine AUJ λi=>?_;rw[AUL];split
 ·rename_i e;subst e;rw[BZ,hk,BF];have:=(Ab.1 hk).1;rw[ATv this];rfl
 ·rfl
theorem AGV(a b c d e:DW) : [a,c,d,b,e].Perm [a,b,c,d,e]:=.cons a (CG (l₁:=[c,d]) (a:=b) (l₂:=[e]))
structure HxI where
 e:Int
 o:Qa
 y:Dc
 k:Nat
def hsV(i:HxI):Value:=ε ζ i.e
structure HxR(x:Dc)(o:Qa)(i:HxI)(m:Nat):Prop where
 r:LF x i.y i.k
 k:i.k<=m
 b:i.o.b=o.b
 l:i.o.ps.length=o.ps.length
 g:ZT i.o
theorem mf x{hb}(hxb:x.b=hb)o{b}(U7:o.b=b)(hg:ZT o)pl t(htt:1<=t/\t<=7){q}(ht:IM x q)(hq:q+2<=1000)W(hst:St (DV (IC hb o++[Dk (Da x)])) W (IC hb o++[Dk (Da x)]) W):
  Calls AGm 35 #[π (σ ⟨b,0,ν⟩),ε ζ pl,ε ζ t] W
  λen w' => ∃i:HxI,en=κ (hsV i)/\HxR x o i 1/\St (DV (IC hb o++[Dk (Da x)])) W (IC hb i.o++[Dk (Da i.y)]) w':=by
 subst U7;obtain⟨M,hM⟩:∃M,DV (IC hb o++[Dk (Da x)])=M:=⟨_,rfl⟩;rw[hM]at hst ⊢;clear hM;have AF1:=hg.l;obtain⟨b,PA,pn,pc,ps⟩:=o;dsimp only at *;unfold IC kC kD at hst;dsimp only[Ad,AR]at hst;have hln:ps.length=pn:=by have:=(hst.La 1 rfl).len;rw[TD]at this;omega
 refine DL (M:=M) Tryz.func35 [.tmp 6]  hst ?_;have zs:=Bd.mk OG;refine DZ ?_;refine Cw λK BC=>Cw λK BD=>?_;by_cases h1:pl<1
 ·have d1:decide (pl<1)=τ:=AUB h1;refine Cy rfl (Ed d1 (BD _ _ ?_));exact AVb
 have d1:decide (pl<1)=ο:=AUC h1;by_cases h2:(pn:Int)<pl
 ·have d2:decide ((pn:Int)<pl)=τ:=AUB h2;refine Cy rfl (Ed (AO d1 d2) (BD _ _ ?_));exact AVb
 have d2:decide ((pn:Int)<pl)=ο:=AUC h2;refine Cy rfl (Ed (AO d1 d2) (BD _ _ ?_));refine C_ (DR ?_);refine Cz (BC _ _ ?_);obtain⟨kk,hkk⟩:∃kk:Nat,pl=(kk:Int)+1:=⟨(pl-1).toNat,by omega⟩;subst hkk;obtain⟨y,hy⟩:∃y,ps[kk]?=σ y:=⟨_,AQ AL⟩;have hym:=AU hy;have hid:=hg.id kk y hy;refine EL 1 rfl AL λg F7 hgg EX=>?_;subst F7;replace hgg:=AAM (AO hgg EX);clear EX;refine DY [0,2,1,3] ?_;refine Eo [.blk b 101 [π (σ ⟨hb,0,ν⟩),ξ (σ ⟨g,0,ν⟩) pn pc],Dk (RY hb y),Dk ((ps.map (bK hb)).eraseIdx kk),.row (ξ (σ ⟨g,0,ν⟩) pn pc) 148 1 pn (TM ps),Dk (Da x)] (λw hw=>hw.IG (by rw[GY,BZ,hy];rfl)) ?_;refine DC [0,1,2] λG1 g1=>?_;replace g1:=EK g1;have hk1:(kk:Int)+1-1=(kk:Int):=by omega
 refine C9 rfl λK BC=>?_;have zg:=Bd.mk g1;refine DU hk1 ?_;refine DX (Dx (m:=1) (i:=kk) (v:=π (σ ⟨y.b,0,ν⟩)) (DN (k:=3) rfl) AF (VW hy)) ?_;refine DD ?_;refine Jl [.blk b 101 [π (σ ⟨hb,0,ν⟩),ξ (σ ⟨g,0,ν⟩) pn pc],Dk ((ps.map (bK hb)).eraseIdx kk),.row (ξ (σ ⟨g,0,ν⟩) pn pc) 148 1 pn (TM ps)] [Dk (RY hb y),Dk (Da x)] (AGV _ _ _ _ _) ppV (λi=>[Dk (RY hb (y.up i.j i.p)),Dk (Da i.y)]) _ (λw hw=>ma x hxb y rfl (hg.g y hym) t htt ht hq w hw) ?_;rintro⟨er,j,p,y2,k2⟩ ⟨hr2,hk2,hn2⟩;unfold ppV;refine EM ?_;refine DD (BC _ _ ?_);refine C8 (EP λw hw=>?_);refine⟨⟨er,Qa.set ⟨b,σ ⟨g,0,ν⟩,pn,pc,ps⟩ kk (y.up j p),y2,k2⟩,rfl,⟨hr2,hk2,rfl,by show (ps.set kk _).length=_;rw[Bt],hg.set hy j p hn2⟩,?_⟩;have h5:=St.IL (k:=kk) (bK hb (y.up j p)) AWl (hw.pick (ix:=[2,0,3,4,1]) AJ);rw[qN]at h5;have h6:=h5.pick (ix:=[0,2,1,3]) AJ;unfold IC kC kD Qa.set;refine EM ?_;rw[qO hy];exact h6
theorem AGW(a b c d e f g:DW) : [a,c,d,g,b,e,f].Perm [a,b,c,d,e,f,g]:=.cons a ((BQ (l₁:=[c,d,g]) (l₂:=[b,e,f])).trans (.cons b ((BQ (l₁:=[e,f]) (l₂:=[c,d,g])).trans (.cons c (.cons d (BQ (l₁:=[g]) (l₂:=[e,f])))))))
structure HyI where
 id:Int
 FL:Int
 tr:Int
 us:Int
 CA:Option Addr
 cn:Nat
 cc:Nat
 h:HxI
def hyS(i:HyI):Value:=.agg #[ε ζ i.id,ε ζ i.FL,ε ζ i.tr,ε ζ i.us,ξ i.CA i.cn i.cc]
def hyV(i:HyI):Value:=.tuple #[hyS i,ε ζ i.h.e]
theorem mg x{hb}(hxb:x.b=hb)o{b}(U7:o.b=b)(hg:ZT o)ft cs c(hcc:c∈cs)(hok:mY c){q}(ht:IM x q)(hq:q+60<=1000)W(hst:St (DV (IC hb o++[KQ ft cs,Dk (Da x)])) W (IC hb o++[KQ ft cs,Dk (Da x)]) W):
  Calls AGm 34 #[π (σ ⟨b,0,ν⟩),ε υ (c.pk:Int),ε ζ c.fu,ξ c.DA c.dn c.dc] W
  λen w' => ∃i:HyI,en=κ (hyV i)/\HxR x o i.h 52/\St (DV (IC hb o++[KQ ft cs,Dk (Da x)])) W (IC hb i.h.o++[KQ ft cs,Dk (Da i.h.y)]) w':=by
 subst U7;obtain⟨M,hM⟩:∃M,DV (IC hb o++[KQ ft cs,Dk (Da x)])=M:=⟨_,rfl⟩;rw[hM]at hst ⊢;clear hM;have AF1:=hg.l;obtain⟨b,PA,pn,pc,ps⟩:=o;dsimp only at *;unfold IC kC kD at hst;dsimp only[Ad,AR]at hst;have hln:ps.length=pn:=by have:=(hst.La 1 rfl).len;rw[TD]at this;omega
 have hfu:=hok.fu;have hdl:=hok.dl;have d1:decide (c.fu<0)=ο:=AUC AL;have d2:decide (1048576<c.fu)=ο:=AUC AL;have d3:decide (256<(c.dn:Int))=ο:=AUC AL;have hCn:∀z∈ft,z<W.heap.size∧¬b=z:=λz hz=>⟨(hst.own _ (DN (k:=3) rfl) z hz).2,λe=>Fs hst.apart (i:=3) (j:=0) rfl rfl AJ z hz AVN⟩;refine ER (M:=M) (n:=45) [.cell 8 78,.tmp 9] rfl Tryz.func34 rfl rfl (Am rfl)  hst ?_;refine C9 rfl λK BC=>?_;have zs:=Bd.mk OG;refine DR ?_;intro b8 vO hf8;refine BC _ _ (Cw λK BC=>Mo (AO d1 (AO d2 d3)) ?_);refine C_ (DR ?_);refine Cz (BC _ _ (C9 rfl λK BC=>DR ?_));refine Dh irV (λi=>bV (YJ ps) i::IC hb ⟨b,PA,pn,pc,ps⟩) _ (λw hw=>jR hb ⟨b,PA,pn,pc,ps⟩ rfl (by show ps.length<=100;omega) w hw) ?_;rintro i0 -;unfold irV IC kC kD;refine EM ?_;refine DR ?_;refine Dh pkW (λ_=>[bV (YJ ps) i0]) _ (λw hw=>um (YJ ps) i0 (by unfold YJ;rw[BF];omega) c.pk hok.pk w hw) ?_;rintro⟨v,bb⟩ hv;unfold pkW;dsimp only[Ad,AR]at hv ⊢;refine DR (BC _ _ ?_);refine DY [4,1,2,3,5,6] ?_;refine DC [0,2,3,8,10,11] λG2 g2=>?_;replace g2:=EK g2;refine Cw λK BC=>?_;have zg:=Bd.mk g2;refine Db ?_;refine C_ ?_;cases bb
 ·refine DD ?_;refine Db ?_;refine C8 (FF ?_);intro w hw;exact⟨⟨0,0,0,0,ν,0,0,⟨28,⟨b,PA,pn,pc,ps⟩,x,0⟩⟩,rfl,⟨.nil x,Ar _,rfl,rfl,hg⟩,hw.pick (ix:=[1,2,3,4,5]) AJ⟩
 refine DD ?_;refine Cz (BC _ _ ?_);have hv1:=hv rfl;dsimp only at hv1;unfold YJ at hv1;rw[BF]at hv1;obtain⟨kk,hkk⟩:∃kk:Nat,v=(kk:Int)+1:=⟨(v-1).toNat,by omega⟩;subst hkk;obtain⟨y,hy⟩:∃y,ps[kk]?=σ y:=⟨_,AQ AL⟩;have hym:=AU hy;have hid:=hg.id kk y hy;refine EL 2 rfl AL λg F7 hgg EX=>?_;subst F7;replace hgg:=AAM (AO hgg EX);clear EX;refine DY [1,3,2,4,5,0] ?_;refine Eo [.blk b 101 [π (σ ⟨hb,0,ν⟩),ξ (σ ⟨g,0,ν⟩) pn pc],Dk (RY hb y),Dk ((ps.map (bK hb)).eraseIdx kk),.row (ξ (σ ⟨g,0,ν⟩) pn pc) 148 1 pn (TM ps),KQ ft cs,Dk (Da x),.blk b8 78 [ε ζ 0,ε ζ 0,ε ζ 0,ε ζ 0,ξ ν 0 0]] (λw hw=>hw.IG (by rw[GY,BZ,hy];rfl)) ?_;have hk1:(kk:Int)+1-1=(kk:Int):=by omega
 refine DC [0,2,3,8,10] λG3 g3=>?_;replace g3:=Dy g3;refine C9 rfl λK BC=>?_;replace zg:=Bd.mk g3;refine DU hk1 ?_;refine DX (Dx (m:=1) (i:=kk) (v:=π (σ ⟨y.b,0,ν⟩)) (DN (k:=3) rfl) AF (VW hy)) ?_;refine DD ?_;refine Jl [.blk b 101 [π (σ ⟨hb,0,ν⟩),ξ (σ ⟨g,0,ν⟩) pn pc],Dk ((ps.map (bK hb)).eraseIdx kk),.row (ξ (σ ⟨g,0,ν⟩) pn pc) 148 1 pn (TM ps),.blk b8 78 [ε ζ 0,ε ζ 0,ε ζ 0,ε ζ 0,ξ ν 0 0]] [Dk (RY hb y),KQ ft cs,Dk (Da x)] (AGW _ _ _ _ _ _ _) (AF0 y.id) (λi=>[Dk (RY hb (y.up i.j i.p)),KQ ft cs,Dk (Da i.y)]) _ (λw hw=>mZ x hxb y rfl (hg.g y hym) ft cs c hcc hok ht hq w hw) ?_;rintro⟨FL,tr,us,CA,cn,cc,j,p,y2,k2⟩ ⟨hr2,hk2,hn2⟩;unfold AF0;refine EM ?_;refine DD (BC _ _ ?_);refine C8 (FF ?_);intro w hw;refine⟨⟨y.id,FL,tr,us,CA,cn,cc,⟨0,Qa.set ⟨b,σ ⟨g,0,ν⟩,pn,pc,ps⟩ kk (y.up j p),y2,k2⟩⟩,rfl,⟨hr2,hk2,rfl,by show (ps.set kk _).length=_;rw[Bt],hg.set hy j p hn2⟩,?_⟩;have h5:=St.IL (k:=kk) (bK hb (y.up j p)) AWl (hw.pick (ix:=[3,0,4,5,1,2]) AJ);rw[qN]at h5;have h6:=h5.pick (ix:=[0,2,1,3,4]) AJ;unfold IC kC kD Qa.set;refine EM ?_;rw[qO hy];exact h6
def VX:=@Ac
def diV(r:Ins×Nat×Int):Value:=.tuple #[.agg #[ε ζ r.1.op,ε υ (r.1.arg:Int)],ε ζ (r.2.1:Int),ε ζ r.2.2]
def AF2:=AO (AO @NL.eq_1 @Li.eq_1) (AO @uV.eq_1 (AO @Ac @diV.eq_1))
theorem AL_ b{W w L M}(hw:St M W (rdR b 5 [ε η 80,ε η 72,ε η 77,ε η 49]::L) w):Sl w w.heap.size 1 (σ ⟨b,0,ν⟩) 4 4 (Gf JH) :=
 show Sl w w.heap.size 1 (σ ⟨b,0,ν⟩) 4 4 [ε η 80,ε η 72,ε η 77,ε η 49] from Sl.AG1 hw 0 rfl rfl AL
def AF3:=AO (AO (AO @LZ.eq_1 (AO @G_.eq_1 @NL.eq_1)) (AO (AO @JF.eq_1 @P5.eq_1) (AO @GJ.eq_1 @Ub.eq_1))) (AO (AO (AO @PE.eq_1 @Li.eq_1) (AO @fnV.eq_1 @Ie.eq_1)) (AO (AO @MC.eq_1 @Hl.eq_1) (AO @cS @Ac)))
end Go.Proofs.YtnkgiaimcpbhkaaGreat
