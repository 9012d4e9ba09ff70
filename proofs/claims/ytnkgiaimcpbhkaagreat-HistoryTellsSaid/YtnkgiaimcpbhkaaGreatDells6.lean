import Derived.Test.YtnkgiaimcpbhkaaGreatDells5
import Derived.Test.YtnkgiaimcpbhkaaGreatDells2
import Derived.Test.YtnkgiaimcpbhkaaGreatDells0
import Derived.Test.YtnkgiaimcpbhkaaGreatDells1
set_option linter.all false
set_option maxRecDepth 100000
set_option maxHeartbeats 4000000
open List renaming nil_append→AR,length_take→Al,cons_append→Ad,map_cons→BJ,getElem_of_mem→Ca,range→Cq
open Prod renaming ext→ASg
open List.Pairwise renaming nil→AS7
open Bool renaming false→ο,true→τ
open Go.Ending renaming returned→κ
open Go.IntKind renaming i64→ζ
open Option renaming none→ν,some→σ
open Go.Value renaming bool→θ,int→ε,pointer→π,slice→ξ
namespace Go.Proofs.YtnkgiaimcpbhkaaGreat
open Tryz renaming prog→AGm
open Go.RowKit Go.Shelf
namespace Ex
theorem Wp{xs s}(hv:OM xs)(h0:0<=s)(h1:s<=1048576)(h:∀i,i<xs.length->(get xs i).end_<=s):
  JL xs s=(cOut xs xs.length++(if lN xs xs.length<s then [⟨lN xs xs.length,s-lN xs xs.length⟩] else []),0):=by
 have hb:yS xs s=ο:=by
  unfold yS;rw[gP hv];by_cases hp:0<xs.length
  ·have:=h (xs.length-1) AL;simp only[hp,ATQ,ATR,AUb,ASv,ASe,AUA];omega
  ·simp only[hp,ATQ,ATR,AUc,ASH,AUS,ASe,AUA];omega
 unfold JL;rw[hb,ATt AUK,Ny,gU (Ay _)];unfold gT;rw[o6 (Ay _),yT]
theorem Yz{xs s}(h:¬OM xs\/s<0\/1048576<s∨∃i,i<xs.length/\s<(get xs i).end_):JL xs s=([],1):=by
 have hb:yS xs s=τ:=by
  unfold yS;by_cases hv:OM xs
  ·rcases h with h|h|h|⟨i,hi,h⟩
   ·exact absurd hv h
   ·simp[h]
   ·simp[h]
   ·have:=ADz hv (show i<=xs.length-1 by omega) AL;have h2:s<(get xs (xs.length-1)).end_:=by omega
    simp[h2,show 0<xs.length by omega]
  ·have:YC xs=ο:=by
    rw[Bool.eq_false_iff];intro h;exact hv ((K_ xs).1 h)
   simp[this]
 unfold JL;rw[hb];rfl
end Ex
theorem VC A n c xs s W(hE:Gb W W.heap.size A n c xs)(hn:n<=1000)(hR:∀i,i<n → -9223372036854775808<=(Ex.get xs i).len/\(Ex.get xs i).len<=9223372036854775807):
  Calls AGm 66 #[ξ A n c,ε ζ s] W (aF 37 2 (λv=>.tuple #[v,ε ζ (Ex.JL xs s).2]) (Eb (Ex.JL xs s).1) W):=by
 have hl:=hE.len;refine DL (M:=[]) Tryz.func66 [.tmp 4,.tmp 5] (St.nil _ _) ?_;have zs:=Bd.mk AE9;refine DZ ?_;refine DC [0,1] λG1 g1=>?_;replace g1:=EK g1;refine Cw λK k0=>Cw λK k1=>?_;refine Df (λ_ _=>True) (λF' L'=>EH F' G1 [0,1]/\F' 19=θ (!Ex.YC xs||decide (s<0)||decide (1048576<s))/\L'=[]) ?_ ?_
 ·refine Cy rfl ?_;have zg:=Bd.mk g1;refine DD ?_;refine DI (λw hw=>Wo A n c xs w (hE.at hw) hR) ?_;try refine DD ?_
  repeat' ((first|refine EF (λhg=>?_) (λhg=>?_)|refine EG (λhg=>?_) (λhg=>?_))<;>((try replace hg:=Fe hg);(try refine DU hg ?_);(try exact trivial)))
  all_goals (first|(simp[hg];done)|(simp[hg];omega))
 ·intro G2 L' _ hF;obtain⟨zq,aB,rfl⟩:=hF;have zg:=Bd.mk g1;have g2:=AO (Dy zq) aB;refine k1 _ _ ?_;replace zg:=Bd.mk g2;refine Ec (λhc=>?_) λhc=>?_
  ·refine Db ?_;refine C8 (EP λw hw=>?_);have hF:Ex.JL xs s=([],1):=by
    refine Ex.Yz ?_;rw[<-Ex.K_];simp only[CU,CJ,AT5]at hc;rcases hc with(h|h)|h
    ·left;rw[h];simp
    ·exact .inr (.inl h)
    ·exact .inr (.inr (.inl h))
   exact AVE
  ·refine Cz ?_;try simp only[Di,Dq]
   simp only[ASe,AS2,AUA]at hc;obtain⟨⟨hv,hs0⟩,hs1⟩:=hc;have hv:=(Ex.K_ xs).1 hv;refine k0 _ _ (Db ?_);refine Db ?_;refine Cw λK k0=>Db ?_;refine DC [0,1,6,7,8] λG3 g3=>?_;replace g3:=Dy g3;refine FB 37 2 (DK ?_);refine Dv (λF' L' => ∃(k:Nat)(A6:Option Addr)(n6 c6:Nat),EH F' G3 [0,1]/\F' 6=ξ A6 n6 c6/\F' 7=ε ζ (Ex.lN xs k)/\F' 8=ε ζ (k:Int)/\L'=[.row (ξ A6 n6 c6) 37 2 n6 (Eb (Ex.cOut xs k))]/\k<=n/\n6<=k∧∀i,i<k->(Ex.get xs i).end_<=s) (λF' L'=>n-(intOf (F' 8)).toNat) ?_ ?_
   ·refine⟨0,ν,0,0,?_⟩;have z1:Ex.lN xs 0=0:=rfl;have z2:Ex.cOut xs 0=[]:=rfl;replace zg:=Bd.mk g3;refine DU (AO z1 z2) ?_;exact⟨rfl,by omega,by omega⟩
   ·intro G4 L' hI;obtain⟨k,A6,n6,c6,zq,Ms,Pg,SG,rfl,⟨hk,h6,hle⟩⟩:=hI;replace zg:=Bd.mk g3;have g4:=AO (Dy zq) (AO Ms (AO Pg SG));refine Cw λK k1=>?_;replace zg:=Bd.mk (AO g3 g4);refine Db ?_;refine Ec (λhc=>?_) λhc=>?_
    ·refine Cz ?_;try simp only[Di,Dq]
     have hlt:k<n:=by have:=AT0 hc;omega
     obtain⟨b0,off,rfl,hb0,-⟩:=hE.cells AL;obtain⟨x,hx⟩:∃x,Ex.get xs k=x:=⟨_,rfl⟩;have hxb:0<=x.off/\0<x.len/\x.off+x.len<=1048576:=by rw[<-hx];exact FM hv AL
     have hab:=Ex.yU hv (show k<=xs.length by omega);have hS1:=Ex.Ny xs k;have hS2:Ex.lN xs (k+1)=x.off+x.len:=by rw[<-hx];rfl
     unfold Ex.gT at hS1;rw[hx]at hS1;refine k1 _ _ (Cw λK k1=>?_);refine Df (λ_ _=>True) (λF' L' => ∃(A6:Option Addr)(n6 c6:Nat),EH F' G4 [0,1,8]/\F' 6=ξ A6 n6 c6/\F' 7=ε ζ (Ex.lN xs (k+1))/\L'=[.row (ξ A6 n6 c6) 37 2 n6 (Eb (Ex.cOut xs (k+1)))]/\n6<=k+1/\x.off+x.len<=s) ?_ ?_
     ·refine DK (Cw λK k2=>Cw λK k3=>EB [(τ,0),(τ,1),(τ,2),(τ,3),(τ,4),(τ,5),(τ,6),(τ,7),(τ,8),(τ,9),(τ,10),(τ,11),(τ,12)] [] ?_);refine DD ?_;refine DX (hE.ld0 hlt) ?_;refine DD ?_;refine DX (hE.ld1 hlt) ?_;refine DU @DT ?_;rw[hx];refine k3 _ _ ?_;refine x_d @DT (λhc=>?_) λhc=>?_
      ·have hcs:s<x.off+x.len:=by simpa [DT (show -9223372036854775808<=x.off+x.len by omega) (show x.off+x.len<=9223372036854775807 by omega)]using hc
       refine Db ?_;refine C8 (EP λw hw=>?_);have hF:Ex.JL xs s=([],1):=Ex.Yz (.inr (.inr (.inr ⟨k,by omega,by rw[hx];exact hcs⟩)));exact AVE
      ·have hcs:¬s<x.off+x.len:=by simpa [DT (show -9223372036854775808<=x.off+x.len by omega) (show x.off+x.len<=9223372036854775807 by omega)]using hc
       refine Cz (k2 _ _ (DC [0,1,6,7,8] λG5 g5=>?_));replace g5:=Dy g5;refine Cw λK k2=>?_;refine Df (λ_ _=>True) (λF' L' => ∃(A8:Option Addr)(n8 c8:Nat),EH F' G5 [0,1,8]/\F' 6=ξ A8 n8 c8/\L'=[.row (ξ A8 n8 c8) 37 2 n8 (Eb (Ex.cOut xs (k+1)))]/\n8<=n6+1) ?_ ?_
       ·refine C9 rfl λK k3=>?_;replace zg:=Bd.mk (AO g3 (AO g4 g5));refine DD ?_;refine DX (hE.ld0 hlt) ?_;refine DD ?_;rw[hx];refine k3 _ _ ?_;refine Ec (λhc=>?_) λhc=>?_
        ·rw[ATv (AT0 hc)]at hS1;refine ED [0] AJ (DJ rfl (DD ?_));refine DX (hE.ld0 hlt) ?_;refine DU @DT ?_;rw[hx];refine DU @DT ?_;intro b5 hb5;refine D6 1 Nh rfl (λw hw=>D_ (size:=2) (.head _) rfl hw) rfl AL AL ?_;intro A' c' hl' _;refine DD ?_;exact⟨A',n6+1,c',rfl,by rw[hS1,I1],by omega⟩
        ·rw[ATt (AUD hc)]at hS1;refine Cz ?_;try simp only[Di,Dq]
         refine DD ?_;exact⟨A6,n6,c6,rfl,by rw[hS1,BX],by omega⟩
       ·intro G6 L' _ hF;obtain⟨A8,n8,c8,zq,Ms,rfl,h8⟩:=hF;replace zg:=Bd.mk g5;have g6:=AO (Dy zq) Ms;refine k2 _ _ (K3 (EB [(τ,0),(τ,1),(τ,2),(τ,3),(τ,4),(τ,5),(τ,6),(τ,7),(τ,8),(τ,9),(τ,10),(τ,11)] [] ?_));replace zg:=Bd.mk (AO g3 (AO g4 g6));refine DD ?_;refine DX (hE.ld0 hlt) ?_;refine DD ?_;refine DX (hE.ld1 hlt) ?_;refine DU @DT ?_;exact⟨A8,n8,c8,rfl,by rw[hS2,hx,DT AL AL],rfl,by omega,by omega⟩
     ·intro G7 L' _ hF;obtain⟨A6,n6,c6,zq,Ms,Pg,rfl,⟨h6,hcs⟩⟩:=hF;have g7:=AO (Dy zq) (AO Ms Pg);refine k1 _ _ (Cy rfl ?_);replace zg:=Bd.mk (AO g3 (AO g4 g7));refine DU @DT ?_;refine⟨⟨k+1,A6,n6,c6,?_⟩,?_⟩
      ·refine DU @Af ?_;refine⟨by omega,by omega,λi hi=>?_⟩;by_cases h:i<k
       ·exact hle i h
       ·have:i=k:=by omega
        rw[this,hx];exact hcs
      ·exact AXo
    ·refine Dr (k0 _ _ ?_);have hnk:n=k:=by have:=AUD hc;omega
     subst hnk;have hF:=Ex.Wp hv (show 0<=s by omega) (show s<=1048576 by omega) (by rw[hl];exact hle);rw[hl]at hF;have hab:=Ex.yU hv (show n<=xs.length by omega);refine DC [1,6,7] λG8 g8=>?_;replace g8:=Dy g8;refine Cw λK k0=>?_;refine Df (λ_ _=>True) (λF' L' => ∃(A8:Option Addr)(n8 c8:Nat),F' 6=ξ A8 n8 c8/\L'=[.row (ξ A8 n8 c8) 37 2 n8 (Eb (Ex.JL xs s).1)]) ?_ ?_
     ·replace zg:=Bd.mk (AO g3 (AO g4 g8));refine Db ?_;refine Ec (λhc=>?_) λhc=>?_
      ·rw[ATv (AT0 hc)]at hF;refine ED [0] AJ (DJ rfl (DU @DT ?_));intro b5 hb5;refine D6 1 Nh rfl (λw hw=>D_ (size:=2) (.head _) rfl hw) rfl AL AL ?_;intro A' c' hl' _;refine DD ?_;exact⟨A',n6+1,c',rfl,by rw[hF,I1]⟩
      ·rw[ATt (AUD hc),BX]at hF;refine Cz ?_;try simp only[Di,Dq]
       refine DD ?_;exact⟨A6,n6,c6,rfl,by rw[hF]⟩
     ·intro G9 L' _ hF;obtain⟨A8,n8,c8,Ms,rfl⟩:=hF;have g9:=Ms;refine k0 _ _ ?_;replace zg:=Bd.mk (AO g3 (AO g4 g9));refine Db ?_;refine C8 (EP λw hw=>?_);have hF2:(Ex.JL xs s).2=0:=by rw[hF]
      exact⟨A8,n8,c8,by rw[hF2],Kz (hw.holds _ (.head _)) (hw.own _ (.head _)),hw.below⟩
namespace Ex
def Mv(x:Ext)(o:Int):Prop:=x.off<=o/\o<x.off+x.len
def mem(xs:List Ext)(o:Int):Prop := ∃x∈xs,Mv x o
def tot:List Ext->Int
 |[]=>0
 |x::l=>x.len+tot l
def RR(a b:Ext):Prop:=a.off+a.len<b.off
def PP(x:Ext):Prop:=0<=x.off/\0<x.len/\x.off+x.len<=1048576
def ok(xs:List Ext):Prop:=(∀x∈xs,PP x)/\xs.Pairwise RR
theorem Oi o:mem [] o↔False:=by simp[mem]
theorem mem_cons x xs o:mem (x::xs) o↔Mv x o\/mem xs o:=by simp[mem]
theorem Sc xs ys o:mem (xs++ys) o↔mem xs o\/mem ys o:=by simp[mem,or_and_right,exists_or]
theorem VQ:∀(xs ys:List Ext),tot (xs++ys)=tot xs+tot ys
 |[],ys=>by simp[tot]
 |x::xs,ys=>by show x.len+tot (xs++ys)=x.len+tot xs+tot ys;rw[VQ xs ys];omega
theorem get_eq{xs i}(h:i<xs.length):get xs i=xs[i]:=by unfold get;rw[BP,AQ h];rfl
theorem gV{xs}(h:OM xs):ok xs:=by
 refine⟨λx hx=>?_,Cj.2 λi j hi hj hij=>?_⟩
 ·obtain⟨i,hi,rfl⟩:=Ca hx;rw[<-get_eq hi];exact FM h hi
 ·rw[<-get_eq hi,<-get_eq hj];exact IY h hij hj
theorem aI{xs}(h:ok xs):OM xs:=λi hi=>by
 refine⟨?_,λh0=>?_⟩
 ·rw[get_eq hi];exact h.1 _ (Cf hi)
 ·rw[get_eq hi,get_eq (show i-1<xs.length by omega)];exact Cj.1 h.2 (i-1) i AL hi AL
theorem Wq{x xs}(h:ok (x::xs)){o}(hm:mem xs o):x.off+x.len<o:=by
 obtain⟨y,hy,h1,h2⟩:=hm;have:=(Ak.1 h.2).1 y hy;unfold RR at this;omega
theorem aJ{x xs}(h:ok (x::xs)):ok xs:=⟨λy hy=>h.1 y (by simp[hy]),(Ak.1 h.2).2⟩
theorem yV:∀ {xs ys:List Ext},ok xs->ok ys->(∀o,mem xs o↔mem ys o)->xs=ys
 |[],[],_,_,_=>rfl
 | [],y::ys,_,hy,h=>by
  have hp:=hy.1 y (.head _);unfold PP at hp;exact absurd ((h y.off).2 ((mem_cons _ _ _).2 (.inl ⟨B_ _,by omega⟩))) (by simp[Oi])
 | x::xs,[],hx,_,h=>by
  have hp:=hx.1 x (.head _);unfold PP at hp;exact absurd ((h x.off).1 ((mem_cons _ _ _).2 (.inl ⟨B_ _,by omega⟩))) (by simp[Oi])
 | x::xs,y::ys,hx,hy,h=>by
  have hpx:=hx.1 x (.head _);have hpy:=hy.1 y (.head _);unfold PP at hpx hpy;have key:∀ {a b:Ext} {p q:List Ext},ok (a::p)->ok (b::q)->(∀o,mem (a::p) o->mem (b::q) o)->0<a.len->0<b.len->b.off<=a.off:=fun {a b p q} ha hb hh h1 h2=>by
   rcases(mem_cons _ _ _).1 (hh a.off ((mem_cons _ _ _).2 (.inl ⟨B_ _,by omega⟩)))with h|h
   ·exact h.1
   ·have:=Wq hb h;omega
  have h1:=key hx hy (λo=>(h o).1) hpx.2.1 hpy.2.1;have h2:=key hy hx (λo=>(h o).2) hpy.2.1 hpx.2.1;have AHO:∀ {a b:Ext} {p q:List Ext},ok (a::p)->ok (b::q)->(∀o,mem (b::q) o->mem (a::p) o)->a.off=b.off->0<a.len→¬a.len<b.len:=fun {a b p q} ha hb hh h0 h1 hlt=>by
   rcases(mem_cons _ _ _).1 (hh (a.off+a.len) ((mem_cons _ _ _).2 (.inl ⟨by omega,by omega⟩)))with h|h
   ·have:=h.2;omega
   ·have:=Wq ha h;omega
  have h3:=AHO hx hy (λo=>(h o).2) AL hpx.2.1;have h4:=AHO hy hx (λo=>(h o).1) AL hpy.2.1;have hxy:x=y:=by
   cases x;cases y;simp only[Ext.mk.injEq];dsimp only at *;omega
  subst hxy;refine AT4 _ (yV (aJ hx) (aJ hy) λo=>⟨λhm=>?_,λhm=>?_⟩)
  ·rcases(mem_cons _ _ _).1 ((h o).1 ((mem_cons _ _ _).2 (.inr hm)))with h5|h5
   ·have:=Wq hx hm;have:=h5.2;omega
   ·exact h5
  ·rcases(mem_cons _ _ _).1 ((h o).2 ((mem_cons _ _ _).2 (.inr hm)))with h5|h5
   ·have:=Wq hy hm;have:=h5.2;omega
   ·exact h5
theorem AB5{xs ys}(hx:OM xs)(hy:OM ys)(h:∀o,mem xs o↔mem ys o):xs=ys:=yV (gV hx) (gV hy) h
theorem Ws{xs k x}(h:x∈xs.take k):∃j,j<k/\j<xs.length/\get xs j=x:=by
 obtain⟨j,hj,rfl⟩:=Ca h;rw[Al]at hj;refine⟨j,by omega,by omega,?_⟩;rw[get_eq AL,List.getElem_take]
theorem Wt{xs k x}(h:x∈xs.drop k):∃j,k<=j/\j<xs.length/\get xs j=x:=by
 obtain⟨j,hj,rfl⟩:=Ca h;rw[CR]at hj;refine⟨k+j,by omega,by omega,?_⟩;rw[get_eq AL,List.getElem_drop]
theorem VR{xs i}(h:i<xs.length){o}(ho:Mv (get xs i) o):mem xs o:=⟨get xs i,by rw[get_eq h];exact Cf h,ho⟩
theorem Wu{xs i}(h:i<xs.length):xs.drop i=get xs i::xs.drop (i+1):=by rw[BV h,get_eq h]
theorem yX{xs e i}(hv:OM xs)(hp:e.prop)(hi:i<=xs.length)(hlo:∀k,k<i->(get xs k).end_<=e.off):
  ∃L,xs.take i=xs.take (Og xs e i).1++L/\((L=[]/\(Og xs e i).2=e)∨∃a,L=[a]/\PP a/\a.off+a.len=e.off/\(Og xs e i).2=⟨a.off,a.len+e.len⟩)∧∀x∈xs.take (Og xs e i).1,x.off+x.len<(Og xs e i).2.off:=by
 have hpe:0<=e.off/\0<e.len/\e.off+e.len<=1048576:=hp;unfold Og;split
 ·rename_i hc;obtain⟨j,rfl⟩:∃j,i=j+1:=⟨i-1,by omega⟩;simp only[Nat.add_sub_cancel]at *;refine⟨[get xs j],Wn AL,.inr ⟨_,rfl,FM hv AL,hc.2,rfl⟩,λx hx=>?_⟩;obtain⟨k,hk,hkl,rfl⟩:=Ws hx;exact IY hv hk AL
 ·rename_i hc;refine⟨[],by simp,.inl ⟨rfl,rfl⟩,λx hx=>?_⟩;obtain⟨k,hk,hkl,rfl⟩:=Ws hx;have h1:=hlo k hk;have h2:=hlo (i-1) AL;unfold Ext.end_ at *;dsimp only;by_cases hki:k=i-1
  ·subst hki;have:¬((get xs (i-1)).off+(get xs (i-1)).len=e.off):=λh=>hc ⟨by omega,h⟩;omega
  ·have h3:=IY hv (show k<i-1 by omega) AL;have h4:=FM hv (show i-1<xs.length by omega);unfold Ext.end_ at *;omega
theorem tH{xs e i}(hv:OM xs)(hp:0<e.len)(hi:i<=xs.length)(hhi:∀k,i<=k->k<xs.length->e.off+e.len<=(get xs k).off):
  ∃R,xs.drop i=R++xs.drop (Nv xs e i).1/\((R=[]/\(Nv xs e i).2=e)∨∃b,R=[b]/\PP b/\b.off=e.off+e.len/\(Nv xs e i).2=⟨e.off,e.len+b.len⟩)∧∀x∈xs.drop (Nv xs e i).1,(Nv xs e i).2.off+(Nv xs e i).2.len<x.off:=by
 unfold Nv;split
 ·rename_i hc;refine⟨[get xs i],Wu hc.1,.inr ⟨_,rfl,FM hv hc.1,hc.2,rfl⟩,λx hx=>?_⟩;obtain⟨k,hk,hkl,rfl⟩:=Wt hx;have:=IY hv (show i<k by omega) hkl;have h2:=hc.2;unfold Ext.end_ at *;dsimp only;omega
 ·rename_i hc;refine⟨[],by simp,.inl ⟨rfl,rfl⟩,λx hx=>?_⟩;obtain⟨k,hk,hkl,rfl⟩:=Wt hx;have h1:=hhi k hk hkl;dsimp only;by_cases hki:k=i
  ·subst hki;have:¬((get xs k).off=e.off+e.len):=λh=>hc ⟨hkl,h⟩;omega
  ·have h3:=IY hv (show i<k by omega) hkl;have h4:=FM hv (show i<xs.length by omega);have h5:=hhi i (Ay _) AL;unfold Ext.end_ at *;omega
theorem Tq{xs e}(hv:OM xs)(hp:e.prop):
  (J6 xs e=([],5)∧∃o,mem xs o/\Mv e o) ∨
  ((J6 xs e).2=0/\OM (J6 xs e).1/\(∀o,mem (J6 xs e).1 o↔mem xs o\/Mv e o)/\(∀o,mem xs o→¬Mv e o)/\tot (J6 xs e).1=tot xs+e.len):=by
 have hpe:0<=e.off/\0<e.len/\e.off+e.len<=1048576:=hp;obtain⟨i,hA⟩:=aH hv e.off;have hai:YD xs e.off=i:=aD hA.1 hA.2.1 (λh=>hA.2.2 i (Ay _) h);obtain⟨hi,hlo,hhi⟩:=hA;unfold J6;rw[ATt (by rintro(h|h);exact h hv;exact h hp),hai];split
 ·rename_i hc;left;refine⟨rfl,?_⟩;have h1:=hhi i (Ay _) hc.1;have h2:=FM hv hc.1;have h3:=hc.2;unfold Ext.end_ at h1 h3;by_cases h:(get xs i).off<=e.off
  ·exact⟨e.off,VR hc.1 ⟨h,h1⟩,B_ _,by omega⟩
  ·exact⟨(get xs i).off,VR hc.1 ⟨B_ _,by omega⟩,by omega,h3⟩
 ·rename_i hc;right;have hhi2:∀k,i<=k->k<xs.length->e.off+e.len<=(get xs k).off:=λk hk hkl=>by
   have h1:¬(get xs i).off<e.end_:=λh=>hc ⟨by omega,h⟩;unfold Ext.end_ at h1;by_cases hki:k=i
   ·subst hki;omega
   ·have h3:=IY hv (show i<k by omega) hkl;have h4:=FM hv (show i<xs.length by omega);unfold Ext.end_ at *;omega
  obtain⟨L,hL,vQ,hLa⟩:=yX hv hp hi hlo;obtain⟨f1,e1,hf1⟩:∃f1 e1,Og xs e i=(f1,e1):=⟨_,_,rfl⟩;rw[hf1]at hL vQ hLa ⊢;dsimp only at hL vQ hLa ⊢;have he1:e1.off+e1.len=e.off+e.len/\e1.off<=e.off/\0<=e1.off:=by
   rcases vQ with⟨-,rfl⟩|⟨a,-,ha,h1,rfl⟩
   ·exact⟨rfl,B_ _,hpe.1⟩
   ·unfold PP at ha;exact AWx
  obtain⟨R,hR,yQ,hRa⟩:=tH (e:=e1) hv AL hi (λk hk hkl=>by rw[he1.1];exact hhi2 k hk hkl);obtain⟨l2,e2,hl2⟩:∃l2 e2,Nv xs e1 i=(l2,e2):=⟨_,_,rfl⟩;rw[hl2]at hR yQ hRa ⊢;dsimp only at hR yQ hRa ⊢;have he2:PP e2/\e2.off=e1.off/\e1.off+e1.len<=e2.off+e2.len:=by
   unfold PP;rcases yQ with⟨-,rfl⟩|⟨b,-,hb,h1,rfl⟩
   ·exact⟨by omega,rfl,B_ _⟩
   ·unfold PP at hb;exact AWx
  have hx:xs=xs.take f1++(L++(R++xs.drop l2)):=by rw[<-List.append_assoc,<-hL,<-hR,ASI]
  have hok:=gV hv;generalize xs.take f1=A at *;generalize xs.drop l2=B at *;rw[hx]at hok;have yY:ok A:=⟨λx h=>hok.1 x (by simp[h]),(BN.1 hok.2).1⟩;have yZ:ok B:=⟨λx h=>hok.1 x (by simp[h]),(BN.1 (BN.1 (BN.1 hok.2).2.1).2.1).2.1⟩;refine⟨rfl,aI ⟨λx hxm=>?_,BN.2 ⟨yY.2,Ak.2 ⟨λb hb=>hRa b hb,yZ.2⟩,λa ha b hb=>?_⟩⟩,λo=>?_,λo hm hin=>?_,?_⟩
  ·simp only[AV,AP,Ae,AT7]at hxm;rcases hxm with h|rfl|h
   ·exact yY.1 x h
   ·exact he2.1
   ·exact yZ.1 x h
  ·have h1:=hLa a ha;simp only[AV,AP,Ae,AT7]at hb;unfold RR;rcases hb with rfl|h
   ·omega
   ·have h2:=hRa b h;unfold PP at he2;omega
  ·rw[hx];simp only[Sc,mem_cons,Oi,AT7];have e1':Mv e2 o↔mem L o\/Mv e o\/mem R o:=by
    rcases vQ with⟨rfl,rfl⟩|⟨a,rfl,ha,h1,rfl⟩<;>rcases yQ with⟨rfl,rfl⟩|⟨b,rfl,hb,h2,rfl⟩<;>simp only[Oi,mem_cons,AT7,AT6,Mv]<;>unfold PP at *<;>dsimp only at *<;>omega
   rw[e1'];constructor
   ·rintro(h|(h|h|h)|h)
    ·exact .inl (.inl h)
    ·exact .inl (.inr (.inl h))
    ·exact .inr h
    ·exact .inl (.inr (.inr (.inl h)))
    ·exact .inl (.inr (.inr (.inr h)))
   ·rintro((h|h|h|h)|h)
    ·exact .inl h
    ·exact .inr (.inl (.inl h))
    ·exact .inr (.inl (.inr (.inr h)))
    ·exact .inr (.inr h)
    ·exact .inr (.inl (.inr (.inl h)))
  ·obtain⟨x,hxm,h1,h2⟩:=hm;obtain⟨h3,h4⟩:=hin;obtain⟨k,hk,rfl⟩:=Ca hxm;rw[<-get_eq hk]at h1 h2;by_cases hki:k<i
   ·exact AV8
   ·have:=hhi2 k AL hk;omega
  ·rw[hx];simp only[VQ];have:e2.len=tot L+e.len+tot R:=by
    rcases vQ with⟨rfl,rfl⟩|⟨a,rfl,ha,h1,rfl⟩<;>rcases yQ with⟨rfl,rfl⟩|⟨b,rfl,hb,h2,rfl⟩<;>simp only[tot]<;>omega
   have h2:tot [e2]=e2.len:=by simp[tot]
   rw[h2,this];omega
theorem yc xs e:(J6 xs e).1.length<=xs.length+1:=by
 unfold J6;split
 ·simp
 ·split
  ·simp
  ·have h1:(Og xs e (YD xs e.off)).1<=YD xs e.off:=by unfold Og;split<;>dsimp only<;>omega
   have h2:∀e',YD xs e.off<=(Nv xs e' (YD xs e.off)).1:=λe'=>by unfold Nv;split<;>dsimp only<;>omega
   have h3:=h2 (Og xs e (YD xs e.off)).2;simp only[List.length_append,Al,CR,Av,Bf];omega
end Ex
namespace Ex
theorem lQ{xs o}(h:mem xs o):∃k,k<xs.length/\Mv (get xs k) o:=by
 obtain⟨x,hx,hi⟩:=h;obtain⟨k,hk,rfl⟩:=Ca hx;exact⟨k,hk,by rw[get_eq hk];exact hi⟩
theorem tJ{xs e}(hv:OM xs)(hp:e.prop):
  (aG xs e=([],6)∧∃o,Mv e o∧¬mem xs o) ∨
  ((aG xs e).2=0/\OM (aG xs e).1/\(∀o,mem (aG xs e).1 o↔mem xs o∧¬Mv e o)/\(∀o,Mv e o->mem xs o)/\tot (aG xs e).1=tot xs-e.len):=by
 have hpe:0<=e.off/\0<e.len/\e.off+e.len<=1048576:=hp;obtain⟨i,hA⟩:=aH hv e.off;have hai:YD xs e.off=i:=aD hA.1 hA.2.1 (λh=>hA.2.2 i (Ay _) h);obtain⟨hi,hlo,hhi⟩:=hA;unfold aG;rw[ATt (by rintro(h|h);exact h hv;exact h hp),hai];split
 ·rename_i hc;left;refine⟨rfl,?_⟩;by_cases hil:i=xs.length
  ·refine⟨e.off,⟨B_ _,by omega⟩,λhm=>?_⟩;obtain⟨k,hk,h1,h2⟩:=lQ hm;have:=hlo k AL;unfold Ext.end_ at this;omega
  ·have hil:i<xs.length:=by omega
   have hie:=hhi i (Ay _) hil;have hip:=FM hv hil;unfold Ext.end_ at hie;rcases hc with h|h|h
   ·omega
   ·refine⟨e.off,⟨B_ _,by omega⟩,λhm=>?_⟩;obtain⟨k,hk,h1,h2⟩:=lQ hm;by_cases hki:k<i
    ·exact AV8
    ·exact AVt
   ·unfold Ext.end_ at h;refine⟨(get xs i).off+(get xs i).len,⟨by omega,by omega⟩,λhm=>?_⟩;obtain⟨k,hk,h1,h2⟩:=lQ hm;by_cases hki:k<i
    ·exact AV8
    ·exact AVt
 ·rename_i hc;right;have hil:i<xs.length:=by
   have:¬i=xs.length:=λh=>hc (.inl h);omega
  have h1:(get xs i).off<=e.off:=by
   have:¬e.off<(get xs i).off:=λh=>hc (.inr (.inl h));omega
  have h2:e.off+e.len<=(get xs i).off+(get xs i).len:=by
   have:¬(get xs i).end_<e.end_:=λh=>hc (.inr (.inr h));unfold Ext.end_ at this;omega
  have hip:=FM hv hil;have hlo2:∀y∈xs.take i,y.off+y.len<(get xs i).off:=λy hy=>by
   obtain⟨k,hk,hkl,rfl⟩:=Ws hy;exact IY hv hk hil
  have hhi2:∀y∈xs.drop (i+1),(get xs i).off+(get xs i).len<y.off:=λy hy=>by
   obtain⟨k,hk,hkl,rfl⟩:=Wt hy;exact IY hv AL hkl
  have hx:xs=xs.take i++(get xs i::xs.drop (i+1)):=by rw[<-Wu hil,ASI]
  have hok:=gV hv;obtain⟨x,hxe⟩:∃x,get xs i=x:=⟨_,rfl⟩;rw[hxe]at h1 h2 hip hlo2 hhi2 hx ⊢;generalize xs.take i=A at *;generalize xs.drop (i+1)=B at *;rw[hx]at hok;have yY:ok A:=⟨λx h=>hok.1 x (by simp[h]),(BN.1 hok.2).1⟩;have yZ:ok B:=⟨λx h=>hok.1 x (by simp[h]),(Ak.1 (BN.1 hok.2).2.1).2⟩;have AE_:∀y∈J7 x e,PP y/\x.off<=y.off/\y.off+y.len<=x.off+x.len:=λy hy=>by
   unfold J7 Ext.end_ at hy;unfold PP;simp only[AV]at hy;rcases hy with hy|hy<;>split at hy<;>simp only[AP,Ae,AT7]at hy
   ·subst hy;exact AWx
   ·subst hy;exact AWx
  have hpw:(J7 x e).Pairwise RR:=by
   unfold J7 Ext.end_;split<;>split<;>simp only[AR,BX,Ad,Ak,Ae,false_implies,AUe,AS7,and_true,AP,AT7,forall_eq];unfold RR;dsimp only;omega
  have hpm:∀o,mem (J7 x e) o↔Mv x o∧¬Mv e o:=λo=>by
   unfold J7 Ext.end_;rw[Sc];split<;>split<;>simp only[mem_cons,Oi,AT7,AT6,Mv]<;>first|omega|(refine⟨λh=>h.elim,λh=>?_⟩;omega)
  have hpt:tot (J7 x e)=x.len-e.len:=by
   unfold J7 Ext.end_;rw[VQ];split<;>split<;>simp only[tot]<;>omega
  have hmx:∀o,mem xs o↔mem A o\/Mv x o\/mem B o:=λo=>by rw[hx];simp only[Sc,mem_cons]
  have hAe:∀o,mem A o->o<x.off:=λo ⟨y,hy,h3,h4⟩=>by have:=hlo2 y hy;omega
  have hBe:∀o,mem B o->x.off+x.len<o:=λo ⟨y,hy,h3,h4⟩=>by have:=hhi2 y hy;omega
  refine⟨rfl,aI ⟨λy hy=>?_,BN.2 ⟨yY.2,BN.2 ⟨hpw,yZ.2,λa ha b hb=>?_⟩,λa ha b hb=>?_⟩⟩,λo=>?_,λo ho=>?_,?_⟩
  ·simp only[AV]at hy;rcases hy with h|h|h
   ·exact yY.1 y h
   ·exact(AE_ y h).1
   ·exact yZ.1 y h
  ·have h3:=AE_ a ha;have h4:=hhi2 b hb;unfold RR;omega
  ·have h3:=hlo2 a ha;unfold RR;simp only[AV]at hb;rcases hb with h|h
   ·have h4:=AE_ b h;omega
   ·have h4:=hhi2 b h;omega
  ·rw[hmx];simp only[Sc,hpm];have h3:=hAe o;have h4:=hBe o;unfold Mv;constructor
   ·rintro(h|⟨h,h'⟩|h)
    ·exact⟨.inl h,by have:=h3 h;omega⟩
    ·exact⟨.inr (.inl h),h'⟩
    ·exact⟨.inr (.inr h),by have:=h4 h;omega⟩
   ·rintro⟨h|h|h,h'⟩
    ·exact .inl h
    ·exact .inr (.inl ⟨h,h'⟩)
    ·exact .inr (.inr h)
  ·rw[hmx];obtain⟨h3,h4⟩:=ho;exact .inr (.inl ⟨by omega,by omega⟩)
  ·rw[hx];simp only[VQ,tot,hpt];omega
def I8(at_:Int)(xs:List Ext)(s:Int):List Ext:=match xs with
 |[]=>if at_<s then [⟨at_,s-at_⟩] else []
 |x::xs=>(if at_<x.off then [⟨at_,x.off-at_⟩] else [])++I8 (x.off+x.len) xs s
theorem RB(xs:List Ext)(s:Int):∀k,k<=xs.length->cOut xs k++I8 (lN xs k) (xs.drop k) s=I8 0 xs s
 |0,_=>rfl
 | k+1,h=>by
  rw[<-RB xs s k AL,Ny,Wu (show k<xs.length by omega),Bh];rfl
theorem Wv{s:Int}(hs:s<=1048576):∀(xs:List Ext) (at_:Int),ok xs->(∀x∈xs,at_<=x.off/\x.off+x.len<=s)->0<=at_->at_<=s →
  ok (I8 at_ xs s)/\(∀y∈I8 at_ xs s,at_<=y.off)/\(∀o,mem (I8 at_ xs s) o↔at_<=o/\o<s∧¬mem xs o)/\tot (I8 at_ xs s)+tot xs=s-at_
 | [],a,_,_,h0,h1=>by
  unfold I8;split
  ·refine⟨⟨λx hx=>?_,by simp⟩,λy hy=>?_,λo=>?_,?_⟩
   ·simp only[AP,Ae,AT7]at hx;subst hx;unfold PP;exact AWx
   ·simp only[AP,Ae,AT7]at hy;subst hy;exact B_ _
   ·simp only[mem_cons,Oi,AT7,ATw,and_true,Mv];omega
   ·simp only[tot];omega
  ·refine⟨⟨by simp,by simp⟩,by simp,λo=>?_,?_⟩
   ·simp only[Oi,ATw,and_true];exact⟨λh=>h.elim,λh=>by omega⟩
   ·simp only[tot];omega
 | x::xs,a,hok,hb,h0,h1=>by
  have hx:=hb x (.head _);have hxp:=hok.1 x (.head _);unfold PP at hxp;obtain⟨i1,i2,i3,i4⟩:=Wv hs xs (x.off+x.len) (aJ hok) (λy hy=>⟨by have:=(Ak.1 hok.2).1 y hy;unfold RR at this;omega,(hb y AWo).2⟩) AL hx.2;have hgt:∀o,mem xs o->x.off+x.len<o:=λo h=>Wq hok h;have hm:∀o,mem (x::xs) o↔Mv x o\/mem xs o:=mem_cons x xs;have ht:tot (x::xs)=x.len+tot xs:=rfl;show ok ((if a<x.off then [⟨a,x.off-a⟩] else [])++I8 (x.off+x.len) xs s)/\(∀y∈(if a<x.off then [⟨a,x.off-a⟩] else [])++I8 (x.off+x.len) xs s,a<=y.off)/\(∀o,mem ((if a<x.off then [⟨a,x.off-a⟩] else [])++I8 (x.off+x.len) xs s) o↔a<=o/\o<s∧¬mem (x::xs) o)/\tot ((if a<x.off then [⟨a,x.off-a⟩] else [])++I8 (x.off+x.len) xs s)+tot (x::xs)=s-a;generalize I8 (x.off+x.len) xs s=C at *;split
  ·refine⟨⟨λy hy=>?_,Ak.2 ⟨λy hy=>?_,i1.2⟩⟩,λy hy=>?_,λo=>?_,?_⟩
   ·simp only[Ad,AR,AP]at hy;rcases hy with rfl|hy
    ·unfold PP;exact AWx
    ·exact i1.1 y hy
   ·have:=i2 y hy;unfold RR;exact AWx
   ·simp only[Ad,AR,AP]at hy;rcases hy with rfl|hy
    ·exact B_ _
    ·have:=i2 y hy;omega
   ·rw[ATD,mem_cons,i3,hm];have:=hgt o;simp only[Mv];constructor
    ·rintro(h|h)
     ·exact⟨by omega,by omega,λh'=>h'.elim (λh'=>by omega) (λh'=>by have:=hgt o h';omega)⟩
     ·exact⟨by omega,h.2.1,λh'=>h'.elim (λh'=>by omega) h.2.2⟩
    ·rintro⟨h2,h3,h4⟩;by_cases h5:o<x.off
     ·exact .inl AL
     ·exact .inr ⟨by have:¬(x.off<=o/\o<x.off+x.len):=λh=>h4 (.inl h);omega,h3,λh=>h4 (.inr h)⟩
   ·rw[ATD,ht];simp only[tot];omega
  ·rw[AR];refine⟨i1,λy hy=>?_,λo=>?_,?_⟩
   ·have:=i2 y hy;omega
   ·rw[i3,hm];simp only[Mv];constructor
    ·rintro h;exact⟨by omega,h.2.1,λh'=>h'.elim (λh'=>by omega) h.2.2⟩
    ·rintro⟨h2,h3,h4⟩;exact⟨by have:¬(x.off<=o/\o<x.off+x.len):=λh=>h4 (.inl h);omega,h3,λh=>h4 (.inr h)⟩
   ·rw[ht];omega
theorem AD6{xs s}(hv:OM xs)(h0:0<=s)(h1:s<=1048576)(h:∀i,i<xs.length->(get xs i).end_<=s):
  (JL xs s).2=0/\OM (JL xs s).1/\(∀o,mem (JL xs s).1 o↔0<=o/\o<s∧¬mem xs o)/\(∀i,i<(JL xs s).1.length->(get (JL xs s).1 i).end_<=s)/\tot (JL xs s).1+tot xs=s:=by
 have hF:=Wp hv h0 h1 h;have hC:=RB xs s xs.length (Ay _);rw[List.drop_length]at hC;have hF:JL xs s=(I8 0 xs s,0):=by rw[hF,<-hC];rfl
 rw[hF];dsimp only;have hok:=gV hv;obtain⟨i1,i2,i3,i4⟩:=Wv h1 xs 0 hok (λx hx=>by
  obtain⟨k,hk,rfl⟩:=Ca hx;rw[<-get_eq hk];have:=FM hv hk;have h2:=h k hk;unfold Ext.end_ at h2;exact⟨this.1,h2⟩) (B_ _) h0
 refine⟨rfl,aI i1,i3,λi hi=>?_,by omega⟩;have hp:=FM (aI i1) hi;have:=(i3 ((get (I8 0 xs s) i).off+(get (I8 0 xs s) i).len-1)).1 (VR hi ⟨by omega,by omega⟩);show (get (I8 0 xs s) i).off+(get (I8 0 xs s) i).len<=s;omega
end Ex
end Go.Proofs.YtnkgiaimcpbhkaaGreat
namespace Go.Proofs.YtnkgiaimcpbhkaaGreat.Sz
open Tryz renaming prog→AGm
def sz(k:Nat):Int:=if k<8 then 16*(k+1) else if k<12 then 256*2 ^ (k-8) else 2048*((k:Int)-10)
def stp(s:Int):Int:=if s<128 then 16 else if s<2048 then s else 2048
def QS(n:Int):Nat->Nat->Nat
 |0,k=>k
 |f+1,k=>if n<=sz k then k else QS n f (k+1)
def cls(n:Int):Nat:=QS n 43 0
def QT(n:Int):Int:=if n<1 then 0 else if 65536<n then 0 else sz (cls n)
def cla(n:Int):Int:=if n<1 then 0 else if 65536<n then 0 else (cls n:Int)
def err(n:Int):Int:=if n<1 then 1 else if 65536<n then 4 else 0
theorem AFA:∀k,k<43->(16<=sz k/\sz k<=65536)/\sz (k+1)=sz k+stp (sz k)/\sz k<sz (k+1):=by decide
theorem AB6:sz 42=65536:=by decide
theorem AHP{k}(h:k<43):16<=sz k/\sz k<=65536:=(AFA k h).1
theorem Sg(n:Int)(hn:n<=65536):∀(f k:Nat),k+f=43->(∀j,j<k->sz j<n)->k<=42 →
  QS n f k<=42/\n<=sz (QS n f k)∧∀j,j<QS n f k->sz j<n
 |0,k,h,_,hk=>by omega
 | f+1,k,h,hj,hk=>by
  unfold QS;by_cases hle:n<=sz k
  ·rw[ATv hle];exact⟨hk,hle,hj⟩
  ·rw[ATt hle];by_cases h42:k=42
   ·subst h42;rw[AB6]at hle;omega
   ·refine Sg n hn f (k+1) AL (λj hj'=>?_) AL;by_cases e:j=k
    ·subst e;omega
    ·exact hj j AL
theorem Ww{n}(hn:n<=65536):cls n<=42/\n<=sz (cls n)∧∀j,j<cls n->sz j<n :=
 Sg n hn 43 0 rfl (λj h=>by omega) AL
def all:List Int:=(Cq 43).map sz
end Go.Proofs.YtnkgiaimcpbhkaaGreat.Sz
namespace Go.Proofs.YtnkgiaimcpbhkaaGreat
open Tryz renaming prog→AGm
open Go.RowKit Go.Shelf
namespace Ex
def setOf(us:List Ext):List Ext:=us.foldl (λs e=>(J6 s e).1) []
def gW(N:Int)(us:List Ext):List Ext:=(JL (setOf us) N).1
theorem o7:∀(us s:List Ext),OM s->(∀e∈us,e.prop)->(∀e∈us,∀o,Mv e o→¬mem s o)->us.Pairwise (λa b => ∀o,Mv a o→¬Mv b o) →
  OM (us.foldl (λs e=>(J6 s e).1) s)/\(∀o,mem (us.foldl (λs e=>(J6 s e).1) s) o↔mem s o\/mem us o)
 |[],s,hv,_,_,_=>⟨hv,λo=>by simp[mem]⟩
 | e::us,s,hv,hp,hd,ha=>by
  obtain⟨a1,a2⟩:=Ak.1 ha;rcases Tq hv (hp e (.head _))with⟨-,o,ho,hi⟩|⟨h1,h2,h3,-,-⟩
  ·exact absurd ho (hd e (.head _) o hi)
  ·obtain⟨b1,b2⟩:=o7 us (J6 s e).1 h2 (λx hx=>hp x (.tail _ hx)) (λx hx o ho hm=>by
    rcases(h3 o).1 hm with h4|h4
    ·exact hd x (.tail _ hx) o ho h4
    ·exact a1 x hx o h4 ho) a2
   refine⟨b1,λo=>?_⟩;rw[ASM,b2,h3,mem_cons,or_assoc]
theorem Un:∀(us s:List Ext),(us.foldl (λs e=>(J6 s e).1) s).length<=s.length+us.length
 |[],s=>by simp
 | e::us,s=>by
  have h1:=Un us (J6 s e).1;have h2:=yc s e;rw[ASM,Av];omega
theorem Tt us:(setOf us).length<=us.length:=by have:=Un us [];simpa [setOf]using this
theorem setOf_snoc us e:setOf (us++[e])=(J6 (setOf us) e).1:=by simp[setOf]
theorem Y0(s:Int):∀(xs:List Ext) (a:Int),(I8 a xs s).length<=xs.length+1
 |[],a=>by unfold I8;split<;>simp
 | x::xs,a=>by
  have:=Y0 s xs (x.off+x.len);unfold I8;split<;>simp<;>omega
structure Inv(N:Int)(us fr:List Ext)(tk:List (Int×Int)):Prop where
 N0:0<=N
 N1:N<=1048576
 prop:∀e∈us,e.prop/\e.off+e.len<=N
 apart:us.Pairwise λa b => ∀o,Mv a o→¬Mv b o
 fr:fr=gW N us
 tak:∀o l,NF tk o=σ l↔(⟨o,l⟩:Ext)∈us
 nd:(tk.map (·.1)).Nodup
section
variable{N:Int}{us fr:List Ext}{tk:List (Int×Int)}
theorem Inv.set(h:Inv N us fr tk):OM (setOf us)∧∀o,mem (setOf us) o↔mem us o:=by
 obtain⟨h1,h2⟩:=o7 us [] (λi hi=>by simp at hi) (λe he=>(h.prop e he).1) (λe _ o _ hm=>by simp[mem]at hm) h.apart;exact⟨h1,λo=>by rw[setOf,h2];simp[mem]⟩
theorem Inv.yf(h:Inv N us fr tk):∀i,i<(setOf us).length->(get (setOf us) i).end_<=N:=λi hi=>by
 obtain⟨h1,h2⟩:=h.set;have hp:=FM h1 hi;obtain⟨x,hx,h3,h4⟩:=(h2 ((get (setOf us) i).off+(get (setOf us) i).len-1)).1 (VR hi ⟨by omega,by omega⟩);have:=(h.prop x hx).2;unfold Ext.end_;omega
theorem Inv.free(h:Inv N us fr tk):OM fr/\(∀o,mem fr o↔0<=o/\o<N∧¬mem us o)/\(JL (setOf us) N).2=0∧∀i,i<fr.length->(get fr i).end_<=N:=by
 obtain⟨h1,h2⟩:=h.set;obtain⟨a,b,c,d,-⟩:=AD6 h1 h.N0 h.N1 h.yf;rw[h.fr];exact⟨b,λo=>by rw[gW,c,h2],a,d⟩
theorem Inv.AHQ(h:Inv N us fr tk):fr.length<=us.length+1:=by
 obtain⟨h1,h2⟩:=h.set;have hF:=Wp h1 h.N0 h.N1 h.yf;have hC:=RB (setOf us) N (setOf us).length (Ay _);rw[List.drop_length]at hC;have hF:JL (setOf us) N=(I8 0 (setOf us) N,0):=by rw[hF,<-hC];rfl
 rw[h.fr,gW,hF];have:=Y0 N (setOf us) 0;have:=Tt us;dsimp only;omega
theorem inv_eq{fr' tk'}(h0:0<=N)(h1:N<=1048576)(hp:∀e∈us,e.prop/\e.off+e.len<=N)(ha:us.Pairwise λa b => ∀o,Mv a o→¬Mv b o)(hv:OM fr')(hm:∀o,mem fr' o↔0<=o/\o<N∧¬mem us o)
  (ht:∀o l,NF tk' o=σ l↔(⟨o,l⟩:Ext)∈us) (hn:(tk'.map (·.1)).Nodup):Inv N us fr' tk':=by
 have h2:Inv N us (gW N us) tk':=⟨h0,h1,hp,ha,rfl,ht,hn⟩;obtain⟨a,b,-,-⟩:=h2.free;exact⟨h0,h1,hp,ha,AB5 hv a λo=>by rw[hm,b],ht,hn⟩
end
def Jo(size:Int)(b x:Ext):Ext:=if size<=x.len/\(b.len=0\/x.len<b.len) then x else b
def Lg(size:Int)(fr:List Ext):Ext:=fr.foldl (Jo size) ⟨0,0⟩
theorem tK size fr x:Lg size (fr++[x])=Jo size (Lg size fr) x:=by simp[Lg]
theorem tL{size fr i}(h:i<fr.length):Lg size (fr.take (i+1))=Jo size (Lg size (fr.take i)) (get fr i):=by
 rw[Bi,AQ h,get_eq h];exact tK _ _ _
theorem Y1{size:Int}(hs:0<size):∀(fr:List Ext) (b:Ext),(b=⟨0,0⟩\/size<=b.len) →
  (fr.foldl (Jo size) b=b\/fr.foldl (Jo size) b∈fr/\size<=(fr.foldl (Jo size) b).len) ∧
  (∀x∈fr,size<=x.len->(fr.foldl (Jo size) b).len<=x.len∧¬(fr.foldl (Jo size) b).len=0)/\(size<=b.len->(fr.foldl (Jo size) b).len<=b.len/\size<=(fr.foldl (Jo size) b).len)
 |[],b,_=>⟨.inl rfl,by simp,λh=>⟨B_ _,h⟩⟩
 | x::fr,b,hb=>by
  have hb':Jo size b x=⟨0,0⟩\/size<=(Jo size b x).len:=by
   unfold Jo;split
   ·rename_i h;exact .inr h.1
   ·exact hb
  obtain⟨h1,h2,h3⟩:=Y1 hs fr (Jo size b x) hb';rw[ASM];generalize hq:fr.foldl (Jo size) (Jo size b x)=q at h1 h2 h3;by_cases hc:size<=x.len/\(b.len=0\/x.len<b.len)
  ·have hx:Jo size b x=x:=ATv hc;rw[hx]at h1 h3;obtain⟨h4,h5⟩:=h3 hc.1;refine⟨.inr ?_,λy hy hys=>?_,λhbs=>?_⟩
   ·rcases h1 with h1|h1
    ·rw[h1];exact⟨.head _,hc.1⟩
    ·exact⟨.tail _ h1.1,h1.2⟩
   ·rcases AP.1 hy with rfl|hy
    ·exact⟨h4,by omega⟩
    ·exact h2 y hy hys
   ·rcases hc.2 with h6|h6<;>exact⟨by omega,h5⟩
  ·have hx:Jo size b x=b:=ATt hc;rw[hx]at h1 h3;refine⟨h1.imp id λh=>⟨.tail _ h.1,h.2⟩,λy hy hys=>?_,h3⟩;rcases AP.1 hy with rfl|hy
   ·have h6:¬(b.len=0\/y.len<b.len):=λh=>hc ⟨hys,h⟩;have h7:size<=b.len:=by
     rcases hb with rfl|h
     ·exact absurd (.inl rfl) h6
     ·exact h
    have:=h3 h7;omega
   ·exact h2 y hy hys
theorem tN{size}(hs:0<size)fr:(Lg size fr=⟨0,0⟩∧∀x∈fr,¬size<=x.len)\/(Lg size fr∈fr/\size<=(Lg size fr).len∧∀x∈fr,size<=x.len->(Lg size fr).len<=x.len):=by
 obtain⟨h1,h2,-⟩:=Y1 hs fr ⟨0,0⟩ (.inl rfl);unfold Lg;rcases h1 with h1|h1
 ·refine .inl ⟨h1,λx hx hs'=>?_⟩;have:=(h2 x hx hs').2;rw[h1]at this;exact this rfl
 ·exact .inr ⟨h1.1,h1.2,λx hx hs'=>(h2 x hx hs').1⟩
def findF(fr:List Ext)(n:Int):Ext×Int:=if Sz.err n=0 then (if (Lg (Sz.QT n) fr).len=0 then (⟨0,0⟩,18) else (⟨(Lg (Sz.QT n) fr).off,Sz.QT n⟩,0)) else (⟨0,0⟩,Sz.err n)
theorem aK{n}(h:Sz.err n=0):16<=Sz.QT n/\Sz.QT n<=65536:=by
 unfold Sz.err at h;unfold Sz.QT;split at h
 ·cases h
 ·split at h
  ·cases h
  ·rename_i h1 h2;rw[ATt h1,ATt h2];exact Sz.AHP (by have:=(Sz.Ww (n:=n) AL).1;omega)
theorem tO{fr n}(h:¬(findF fr n).2=0):(findF fr n).1=⟨0,0⟩:=by
 unfold findF at h ⊢;split
 ·rename_i h0;rw[ATv h0]at h;split
  ·rfl
  ·rename_i h1;rw[ATt h1]at h;exact absurd rfl h
 ·rfl
theorem yg{tk o v} : ∀k,NF (Qe tk o v) k=if k=o then σ v else NF tk k:=by
 induction tk with
 |nil=>intro k;by_cases h:o=k<;>simp[Qe,NF,h,eq_comm]
 | cons p l ih =>
  intro k;by_cases hp:p.1=o
  ·by_cases hk:k=o
   ·subst hk;simp[Qe,NF,hp]
   ·have:¬o=k:=λe=>hk e.symm;simp[Qe,NF,hp,hk,this]
  ·by_cases hk:p.1=k
   ·have:¬k=o:=λe=>hp (hk.trans e);simp[Qe,NF,hp,hk,this]
   ·simp[Qe,NF,hp,hk,ih]
theorem yh{tk o v} : ∀k,k∈(Qe tk o v).map (·.1)->k∈tk.map (·.1)\/k=o:=by
 induction tk with
 |nil=>intro k hk;right;simpa [Qe]using hk
 | cons p l ih =>
  intro k hk;by_cases hp:p.1=o
  ·simp[Qe,hp]at hk ⊢;rcases hk with h|h
   ·exact .inr h
   ·exact .inl (.inr h)
  ·simp only[Qe,ATt hp,BJ,AP]at hk ⊢;rcases hk with h|h
   ·exact .inl (.inl h)
   ·exact(ih k h).imp .inr id
theorem AFC{tk o v}(h:(tk.map (·.1)).Nodup):((Qe tk o v).map (·.1)).Nodup:=by
 induction tk with
 |nil=>simp[Qe]
 | cons p l ih =>
  rw[BJ,CO]at h;by_cases hp:p.1=o
  ·simp only[Qe,ATv hp,BJ,CO];exact⟨by rw[<-hp];exact h.1,h.2⟩
  ·simp only[Qe,ATt hp,BJ,CO];refine⟨λhk=>?_,ih h.2⟩;rcases yh _ hk with h1|h1
   ·exact h.1 h1
   ·exact hp h1
theorem tQ{tk o}(h:o∉tk.map (·.1)):NF tk o=ν:=by
 induction tk with
 |nil=>rfl
 | cons p l ih =>
  simp only[BJ,AP,not_or]at h;rw[NF,ATt λe=>h.1 e.symm,ih h.2]
theorem yj{tk o}(h:(tk.map (·.1)).Nodup):∀k,NF (Xy tk o) k=if k=o then ν else NF tk k:=by
 induction tk with
 |nil=>intro k;simp[Xy,NF]
 | cons p l ih =>
  intro k;rw[BJ,CO]at h;by_cases hp:p.1=o
  ·rw[Xy,ATv hp,NF];by_cases hk:k=o
   ·rw[ATv hk,hk,<-hp,tQ h.1]
   ·rw[ATt hk,ATt λe=>hk (by rw[<-e,hp])]
  ·rw[Xy,ATt hp,NF,NF,ih h.2];by_cases hk:p.1=k
   ·rw[ATv hk,ATv hk,ATt λe=>hp (hk.trans e)]
   ·rw[ATt hk,ATt hk]
theorem AB7{tk o} : (Xy tk o).Sublist tk:=by
 induction tk with
 |nil=>exact BB _
 | cons p l ih =>
  by_cases hp:p.1=o
  ·rw[Xy,ATv hp];exact ASV _ _
  ·rw[Xy,ATt hp];exact ih.cons_cons _
theorem AFD{tk o}(h:(tk.map (·.1)).Nodup):((Xy tk o).map (·.1)).Nodup:=(AB7.map _).nodup h
theorem yl{us:List Ext}(h:us.Pairwise λa b => ∀o,Mv a o→¬Mv b o){x y}(hx:x∈us)(hy:y∈us)(hne:x≠y):∀o,Mv x o→¬Mv y o:=by
 obtain⟨i,hi,rfl⟩:=Ca hx;obtain⟨j,hj,rfl⟩:=Ca hy;have hp:=Cj.1 h;intro o h1 h2;rcases Nat.lt_trichotomy i j with hij|hij|hij
 ·exact hp i j hi hj hij o h1 h2
 ·subst hij;exact hne rfl
 ·exact hp j i hj hi hij o h2 h1
section
variable{N:Int}{us fr:List Ext}{tk:List (Int×Int)}
theorem ym(h:Inv N us fr tk){o l l'}(h1:(⟨o,l⟩:Ext)∈us)(h2:(⟨o,l'⟩:Ext)∈us):l=l':=by
 have e1:=(h.tak o l).2 h1;have e2:=(h.tak o l').2 h2;rw[e1]at e2;exact ASn e2
theorem Inv.alloc(h:Inv N us fr tk){n}(hf:(findF fr n).2=0):
  (findF fr n).1.prop/\aG fr (findF fr n).1=((aG fr (findF fr n).1).1,0)/\Inv N (us++[(findF fr n).1]) (aG fr (findF fr n).1).1 (Qe tk (findF fr n).1.off (findF fr n).1.len)/\(findF fr n).1.len=Sz.QT n/\Sz.err n=0/\(∀o,Mv (findF fr n).1 o->mem fr o)/\Lg (Sz.QT n) fr∈fr/\(findF fr n).1.off=(Lg (Sz.QT n) fr).off:=by
 have he:Sz.err n=0:=by
  unfold findF at hf;split at hf
  ·assumption
  ·rename_i h1;exact absurd hf h1
 have hb0:¬(Lg (Sz.QT n) fr).len=0:=by
  unfold findF at hf;rw[ATv he]at hf;split at hf
  ·cases hf
  ·assumption
 have hx:findF fr n=(⟨(Lg (Sz.QT n) fr).off,Sz.QT n⟩,0):=by unfold findF;rw[ATv he,ATt hb0]
 have hrb:=aK he;obtain⟨x,hxx⟩:∃x:Ext,(⟨(Lg (Sz.QT n) fr).off,Sz.QT n⟩:Ext)=x:=⟨_,rfl⟩;rw[hxx]at hx;rw[hx];dsimp only;obtain⟨hv,hm,-,hend⟩:=h.free;rcases tN (size:=Sz.QT n) AL fr with⟨h1,-⟩|⟨h1,h2,h3⟩
 ·rw[h1]at hb0;exact absurd rfl hb0
 obtain⟨k,hk,hkb⟩:=Ca h1;have hkg:get fr k=Lg (Sz.QT n) fr:=by rw[get_eq hk,hkb]
 have hpb:=FM hv hk;rw[hkg]at hpb;have hxo:x.off=(Lg (Sz.QT n) fr).off:=by rw[<-hxx]
 have hxl:x.len=Sz.QT n:=by rw[<-hxx]
 have hxp:x.prop:=by unfold Ext.prop;omega
 have hin:∀o,Mv x o->mem fr o:=λo ho=>⟨_,h1,by unfold Mv at *;omega⟩;have hxN:x.off+x.len<=N:=by
  have:=((hm (x.off+x.len-1)).1 (hin _ (by unfold Mv;omega))).2.1;omega
 rcases tJ hv hxp with⟨-,o,ho,hn⟩|⟨r1,r2,r3,r4,r5⟩
 ·exact absurd (hin o ho) hn
 have hus:∀e∈us,∀o,Mv e o→¬Mv x o:=λe he o ho hxo=>((hm o).1 (hin o hxo)).2.2 ⟨e,he,ho⟩;have hkey:NF tk x.off=ν:=by
  cases hg:NF tk x.off with
  |none=>rfl
  | some l =>
   have h4:=(h.tak _ _).1 hg;have h5:=(h.prop _ h4).1;unfold Ext.prop at h5;exact absurd (show Mv x x.off by unfold Mv;omega) (hus _ h4 x.off (by unfold Mv;dsimp only at *;omega))
 refine⟨hxp,ASg rfl r1,inv_eq h.N0 h.N1 (λe he=>?_) ?_ r2 (λo=>?_) (λo l=>?_) (AFC h.nd),hxl,he,hin,h1,hxo⟩
 ·rcases AV.1 he with he|he
  ·exact h.prop e he
  ·obtain rfl:e=x:=by simpa using he
   exact⟨hxp,hxN⟩
 ·refine BN.2 ⟨h.apart,by simp,λa ha b hb o ho=>?_⟩;obtain rfl:b=x:=by simpa using hb
  exact hus a ha o ho
 ·rw[r3,hm,Sc];constructor
  ·rintro⟨⟨a,b,c⟩,d⟩;refine⟨a,b,λhh=>?_⟩;rcases hh with hh|⟨y,hy,hi⟩
   ·exact c hh
   ·obtain rfl:y=x:=by simpa using hy
    exact d hi
  ·rintro⟨a,b,c⟩;exact⟨⟨a,b,λhh=>c (.inl hh)⟩,λhi=>c (.inr ⟨x,by simp,hi⟩)⟩
 ·rw[yg];split
  ·rename_i ho;subst ho;constructor
   ·intro hs;obtain rfl:x.len=l:=ASn hs;exact AV.2 (.inr AUq)
   ·intro hmm;rcases AV.1 hmm with h4|h4
    ·have:=(h.tak _ _).2 h4;rw[hkey]at this;cases this
    ·have:(⟨x.off,l⟩:Ext)=x:=by simpa using h4
     rw[<-this]
  ·rename_i ho;rw[h.tak];constructor
   ·exact λh4=>AV.2 (.inl h4)
   ·intro h4;rcases AV.1 h4 with h5|h5
    ·exact h5
    ·have:(⟨o,l⟩:Ext)=x:=by simpa using h5
     exact absurd (by rw[<-this]) ho
theorem Inv.has(h:Inv N us fr tk)e:NF tk e.off=σ e.len↔e∈us:=h.tak e.off e.len
theorem Inv.release(h:Inv N us fr tk){e}(he:e∈us):J6 fr e=((J6 fr e).1,0)/\Inv N (us.filter λx=>decide (x≠e)) (J6 fr e).1 (Xy tk e.off):=by
 obtain⟨hv,hm,-,-⟩:=h.free;obtain⟨hp,hN⟩:=h.prop e he;rcases Tq hv hp with⟨-,o,ho,hi⟩|⟨r1,r2,r3,-,-⟩
 ·exact absurd ⟨e,he,hi⟩ ((hm o).1 ho).2.2
 have hms:∀x,x∈(us.filter λx=>decide (x≠e))↔x∈us/\x≠e:=λx=>by simp[Bl]
 have hmm:∀o,mem (us.filter λx=>decide (x≠e)) o↔mem us o∧¬Mv e o:=λo=>by
  constructor
  ·rintro⟨x,hx,hi⟩;obtain⟨h1,h2⟩:=(hms x).1 hx;exact⟨⟨x,h1,hi⟩,yl h.apart h1 he h2 o hi⟩
  ·rintro⟨⟨x,hx,hi⟩,hn⟩;exact⟨x,(hms x).2 ⟨hx,λq=>hn (q▸hi)⟩,hi⟩
 have hpe:0<=e.off/\0<e.len/\e.off+e.len<=1048576:=hp;refine⟨ASg rfl r1,inv_eq h.N0 h.N1 (λx hx=>h.prop x ((hms x).1 hx).1) (h.apart.filter _) r2 (λo=>?_) (λo l=>?_) (AFD h.nd)⟩
 ·rw[r3,hm,hmm];constructor
  ·rintro(⟨a,b,c⟩|hi)
   ·exact⟨a,b,λq=>c q.1⟩
   ·have hi':e.off<=o/\o<e.off+e.len:=hi;exact⟨by omega,by omega,λq=>q.2 hi⟩
  ·rintro⟨a,b,c⟩;by_cases hi:Mv e o
   ·exact .inr hi
   ·exact .inl ⟨a,b,λq=>c ⟨q,hi⟩⟩
 ·rw[yj h.nd,hms];split
  ·rename_i ho;subst ho;constructor
   ·intro q;cases q
   ·rintro⟨h1,h2⟩;have:l=e.len:=ym h h1 he;exact absurd (by rw[this]) h2
  ·rename_i ho;rw[h.tak];exact⟨λh1=>⟨h1,λq=>ho (by rw[<-q])⟩,λh1=>h1.1⟩
theorem YE{us:List Ext}{e} : (us.filter λx=>decide (x≠e)).length=us.length↔e∉us:=by
 rw[AUI];constructor
 ·intro h he;have:=h e he;simp at this
 ·intro h x hx;simp;rintro rfl;exact h hx
end
end Ex
attribute [local go_sem] Oper.semAt_some
attribute [local go_sem] Oper.semAt_some
def Wx:=AO (AO @Oh.eq_1 @su.eq_1) (AO @Ac (AO @DT @cMp))
theorem tT(x e:Ext)W(hx:x.prop)(he:e.prop):
  Calls AGm 106 #[.agg #[ε ζ x.off,ε ζ x.len],.agg #[ε ζ e.off,ε ζ e.len]] W λen w'=>en=κ (θ (decide (x.off<e.end_/\e.off<x.end_)))/\Below W.heap.size W w':=by
 have hx':0<=x.off/\0<x.len/\x.off+x.len<=1048576:=hx;have he':0<=e.off/\0<e.len/\e.off+e.len<=1048576:=he;refine DL (M:=[]) Tryz.func106 [.tmp 4] (St.nil _ _) ?_;refine C9 rfl λK k0=>AJc ?_;intro b hb b2 hb2 h2;refine k0 _ _ (DC [2,3] λG1 g1=>?_);replace g1:=AGw g1;refine Cw λK k0=>?_;refine Df (λ_ _=>True) (λF' L'=>F' 4=θ (decide (x.off<e.end_/\e.off<x.end_))/\L'=[Oh b2 e,Oh b x]) ?_ ?_
 ·refine Cy rfl ?_;have zg:=Bd.mk g1;refine AGv (AO @DT @Oh.eq_1) ?_;repeat' ((first|refine EF (λhg=>?_) (λhg=>?_)|refine EG (λhg=>?_) (λhg=>?_))<;>((try replace hg:=Fe hg);(try refine AGv (AO hg (AO @DT @Oh.eq_1)) ?_);(try exact trivial)))
  all_goals (simp[Ext.end_,hg];done)
 ·intro G2 L' _ hF;obtain⟨Qd,rfl⟩:=hF;have g2:=Qd;refine k0 _ _ ?_;have zg:=Bd.mk g2;refine C8 (AEM λw hw=>?_);exact AVR
theorem gX A n c xs e W(hE:Gb W W.heap.size A n c xs)(hn:n<=1000)(hR:∀i,i<n → -9223372036854775808<=(Ex.get xs i).len/\(Ex.get xs i).len<=9223372036854775807)(hr1 : -9223372036854775808<=e.len)(hr2:e.len<=9223372036854775807):
  Calls AGm 65 #[ξ A n c,.agg #[ε ζ e.off,ε ζ e.len]] W (aF 37 2 (λv=>.tuple #[v,ε ζ (Ex.J6 xs e).2]) (Eb (Ex.J6 xs e).1) W):=by
 refine DL (M:=[]) Tryz.func65 [.tmp 4,.tmp 5] (St.nil _ _) ?_;refine C9 rfl λK k0=>?_;have zs:=Bd.mk AE7;refine DR ?_;intro b hb;refine k0 _ _ (DC [0,3] λG3 g3=>?_);replace g3:=EK g3;refine Cw λK k0=>Cw λK k1=>?_;refine Df (λ_ _=>True) (λF' L'=>EH F' G3 [0,3]/\F' 18=θ (!Ex.YC xs || !e.Ul)/\L'=[Oh b e]) ?_ ?_
 ·refine Cy rfl ?_;have zg:=Bd.mk g3;refine DD ?_;refine DI (λw hw=>Wo A n c xs w (hE.at hw) hR) ?_;try refine DD ?_
  repeat' ((first|refine EF (λhg=>?_) (λhg=>?_)|refine EG (λhg=>?_) (λhg=>?_))<;>((try replace hg:=Fe hg);(try refine DU hg ?_);(try exact trivial)))
  refine DI (λw hw=>Pq _ _ w hr1 hr2) ?_;try refine DD ?_
  all_goals (first|(simp[hg];done)|(simp[hg];omega))
 ·intro G4 L' _ hF;obtain⟨zq,AKH,rfl⟩:=hF;have zg:=Bd.mk g3;have g4:=AO (Dy zq) AKH;refine k1 _ _ ?_;replace zg:=Bd.mk g4;refine Ec (λhc=>?_) λhc=>?_
  ·refine Db ?_;refine C8 (EP λw hw=>?_);have hF:Ex.J6 xs e=([],1):=by
    unfold Ex.J6;rw[ATv];rw[<-Ex.K_];have:e.Ul=τ↔e.prop:=AUh;rw[<-this];simpa [CU]using hc
   exact AVE
  ·refine Cz ?_;try simp only[Di,Dq]
   simp only[ASe,AS2]at hc;obtain⟨hv,hp⟩:=hc;have hv:=(Ex.K_ xs).1 hv;have kX:e.prop:=AUh.1 hp;have hp:=(tC e).1 hp;refine k0 _ _ (Cw λK k0=>Db ?_);refine DC [0,3,6] λG5 g5=>?_;replace g5:=Dy g5;refine DK ?_;refine Dv (λF' L' => ∃k:Nat,EH F' G5 [0,3]/\F' 6=ε ζ (k:Int)/\L'=[Oh b e]/\k<=n∧∀j,j<k→¬((Ex.get xs j).off<e.end_/\e.off<(Ex.get xs j).end_)) (λF' L'=>n-(intOf (F' 6)).toNat) ?_ ?_
   ·refine⟨0,?_⟩;replace zg:=Bd.mk g5;refine DD ?_;exact⟨by omega,λj hj=>by omega⟩
   ·intro G6 L' hI;obtain⟨k,zq,Ms,rfl,⟨hk,hno⟩⟩:=hI;replace zg:=Bd.mk g5;have g6:=AO (Dy zq) Ms;refine Cw λK k1=>?_;replace zg:=Bd.mk (AO g5 g6);refine Db ?_;refine Ec (λhc=>?_) λhc=>?_
    ·refine Cz ?_;try simp only[Di,Dq]
     have hlt:k<n:=by simpa using hc
     obtain⟨b0,off,rfl,hb0,-⟩:=hE.cells AL;have hx:=(hv k (by rw[hE.len];omega)).1;refine k1 _ _ (Cw λK k1=>DK (Cw λK k2=>EB [(τ,0),(τ,1),(τ,2),(τ,3),(τ,4),(ο,5)] [5] ?_));refine DD ?_;refine DX (hE.ld hlt) ?_;refine DD ?_;refine DI (λw hw=>tT (Ex.get xs k) e w hx kX) ?_;try refine DD ?_
     refine k2 _ _ ?_;refine Ec (λhc=>?_) λhc=>?_
     ·refine Db ?_;refine C8 (EP λw hw=>?_);obtain⟨i,hA⟩:∃i,Aft xs e.off i:=aH hv e.off;have hai:Ex.YD xs e.off=i:=Ex.aD hA.1 hA.2.1 (λh=>hA.2.2 i (Ay _) h);have hF:Ex.J6 xs e=([],5):=by
       unfold Ex.J6;rw[ATt (by rintro(h|h);exact h hv;exact h kX),hai,ATv (yR hv hA (k:=k) (by rw[hE.len];exact hlt) (AT0 hc))]
      exact AVE
     ·refine Cz (k1 _ _ (Cy rfl (DU @DT ?_)));refine⟨⟨k+1,?_⟩,?_⟩
      ·refine DU @Af ?_;refine⟨by omega,λj hj=>?_⟩;by_cases hjk:j=k
       ·subst hjk;exact AUD hc
       ·exact hno j AL
      ·exact AXo
    ·refine Dr (k0 _ _ ?_);have hnk:n=k:=by have:=AUD hc;omega
     subst hnk;obtain⟨i,hA⟩:∃i,Aft xs e.off i:=aH hv e.off;have hai:Ex.YD xs e.off=i:=Ex.aD hA.1 hA.2.1 (λh=>hA.2.2 i (Ay _) h);have AHS:¬(i<xs.length/\(Ex.get xs i).off<e.end_):=λh=>hno i (by rw[<-hE.len];exact h.1) ⟨h.2,hA.2.2 i (Ay _) h.1⟩;obtain⟨f1,e1,hf1⟩:∃f1 e1,Ex.Og xs e i=(f1,e1):=⟨_,_,rfl⟩;obtain⟨l2,e2,hf2⟩:∃l2 e2,Ex.Nv xs e1 i=(l2,e2):=⟨_,_,rfl⟩;have hL1:=yL hA.1 hv kX hf1;have hR1:=tF hv hL1.1 hf2;have hlf:=yM hA.1 hf2;have hst:=λk (hk:k<xs.length)=>yP hv kX hA AHS hf1 hf2 hk;have hF:Ex.J6 xs e=(xs.take f1++([e2]++xs.drop l2),0):=by
      unfold Ex.J6;rw[ATt (by rintro(h|h);exact h hv;exact h kX),hai,ATt AHS,hf1,hf2]
     have hend:Ex.iE e e1 e2 f1 i n=e2/\f1<=n:=by
      have h1:=hA.1;rw[hE.len]at h1;have h3:=hL1.2;refine⟨?_,by omega⟩;unfold Ex.Nv at hf2;unfold Ex.Og at hf1;unfold Ex.iE;split
      ·split at hf2
       ·rename_i hc;have:=hc.1;rw[hE.len]at this;omega
       ·injection hf2 with _ h;split at hf1
        ·injection hf1 with h' _;omega
        ·injection hf1 with _ h';rw[<-h,<-h']
      ·split
       ·split at hf2
        ·rename_i hc;have:=hc.1;rw[hE.len]at this;omega
        ·injection hf2 with _ h
       ·rfl
     refine Db ?_;refine Cw λK k0=>Db ?_;refine DC [0,3,7,8,9] λG7 g7=>?_;replace g7:=Dy g7;refine FB 37 2 (FB 37 2 (DK ?_));refine Dv (λF' L' => ∃(k:Nat)(A7:Option Addr)(n7 c7:Nat)(A8:Option Addr)(n8 c8:Nat),EH F' G7 [0,3]/\F' 7=ξ A7 n7 c7/\F' 8=ξ A8 n8 c8/\F' 9=ε ζ (k:Int)/\L'=[.row (ξ A7 n7 c7) 37 2 n7 (Eb (Ex.iL xs f1 k)),.row (ξ A8 n8 c8) 37 2 n8 (Eb (Ex.iR xs l2 k)),Oh b (Ex.iE e e1 e2 f1 i k)]/\k<=n/\n7<=k/\n8<=k) (λF' L'=>n-(intOf (F' 9)).toNat) ?_ ?_
     ·refine⟨0,ν,0,0,ν,0,0,?_⟩;have z1:Ex.iE e e1 e2 f1 i 0=e:=by unfold Ex.iE;rw[ATv (Ar _)]
      have z2:Ex.iL xs f1 0=[]:=by unfold Ex.iL;simp
      have z3:Ex.iR xs l2 0=[]:=Q_ (Ar _);replace zg:=Bd.mk (AO g5 (AO g6 g7));refine DU (AO z1 (AO z2 z3)) ?_;exact⟨rfl,by omega⟩
     ·intro G8 L' hI;obtain⟨k,A7,n7,c7,A8,n8,c8,zq,Pg,SG,lC,rfl,⟨hk,h7,h8⟩⟩:=hI;replace zg:=Bd.mk g7;have g8:=AO (Dy zq) (AO Pg (AO SG lC));refine Cw λK k1=>?_;replace zg:=Bd.mk (AO g5 (AO g6 (AO g7 g8)));refine Db ?_;refine Ec (λhc=>?_) λhc=>?_
      ·refine Cz ?_;try simp only[Di,Dq]
       have hlt:k<n:=by simpa using hc
       obtain⟨b0,off,rfl,hb0,-⟩:=hE.cells AL;have hst:=hst k (by rw[hE.len];exact hlt);have hx:0<=(Ex.get xs k).off/\0<(Ex.get xs k).len/\(Ex.get xs k).off+(Ex.get xs k).len<=1048576:=FM hv (show k<xs.length by rw[hE.len];exact hlt);have hbe:0<=(Ex.iE e e1 e2 f1 i k).off/\0<(Ex.iE e e1 e2 f1 i k).len/\(Ex.iE e e1 e2 f1 i k).off+(Ex.iE e e1 e2 f1 i k).len<=1048576:=AB3 kX hL1.1 hR1;refine k1 _ _ (Cw λK k1=>?_);obtain⟨x,hxx⟩:∃x,Ex.get xs k=x:=⟨_,rfl⟩;obtain⟨E,hEE⟩:∃E,Ex.iE e e1 e2 f1 i k=E:=⟨_,rfl⟩;refine Df (λ_ _=>True) (λF' L' => ∃(A7:Option Addr)(n7 c7:Nat)(A8:Option Addr)(n8 c8:Nat),EH F' G8 [0,3,9]/\F' 7=ξ A7 n7 c7/\F' 8=ξ A8 n8 c8/\L'=[.row (ξ A7 n7 c7) 37 2 n7 (Eb (Ex.iL xs f1 (k+1))),.row (ξ A8 n8 c8) 37 2 n8 (Eb (Ex.iR xs l2 (k+1))),Oh b (Ex.iE e e1 e2 f1 i (k+1))]/\n7<=k+1/\n8<=k+1) ?_ ?_
       ·rw[hEE];rw[hxx]at hx;rw[hEE]at hbe;refine DK (C9 rfl λK k2=>DD ?_);refine DX (hE.ld hlt) ?_;refine DD ?_;intro b4 hb4 h4;rw[hxx];refine k2 _ _ (DC [0,3,7,8,9,10] λG9 g9=>?_);replace g9:=Dy g9;refine DK ?_;replace zg:=Bd.mk (AO g5 (AO g6 (AO g7 (AO g8 g9))));refine KU @DT ?_;refine Ec (λhc=>?_) λhc=>?_
        ·have ha:=AT0 hc;refine ED [1,2,3] AJ (DJ rfl (DU @DT ?_));obtain⟨q1,q2,q3⟩:Ex.iE e e1 e2 f1 i (k+1)=⟨x.off,x.len+E.len⟩/\Ex.iL xs f1 (k+1)=Ex.iL xs f1 k/\Ex.iR xs l2 (k+1)=Ex.iR xs l2 k:=by
          cases hst<;>simp_all [Ext.end_]<;>omega
         exact AWY
        ·have ha:=AUD hc;refine KU @DT ?_;refine Ec (λhc=>?_) λhc=>?_
         ·have ha2:=AT0 hc;refine ED [1,2,3] AJ (DJ rfl (DU @DT ?_));obtain⟨q1,q2,q3⟩:Ex.iE e e1 e2 f1 i (k+1)=⟨E.off,E.len+x.len⟩/\Ex.iL xs f1 (k+1)=Ex.iL xs f1 k/\Ex.iR xs l2 (k+1)=Ex.iR xs l2 k:=by
           cases hst<;>simp_all [Ext.end_]<;>omega
          exact AWY
         ·have ha2:=AUD hc;refine KU @DT ?_;refine Ec (λhc=>?_) λhc=>?_
          ·have ha3:=AT0 hc;refine ED [0,3,4] AJ (DJ rfl (DD ?_));intro b5 hb5 h5;refine D6 2 Nh rfl (λw hw=>D_ (size:=2) (.head _) rfl hw) rfl AL AL ?_;intro A' c' hl _;refine DD ?_;obtain⟨q1,q2,q3⟩:Ex.iE e e1 e2 f1 i (k+1)=E/\Ex.iL xs f1 (k+1)=Ex.iL xs f1 k++[x]/\Ex.iR xs l2 (k+1)=Ex.iR xs l2 k:=by
            cases hst<;>simp_all [Ext.end_]<;>omega
           exact AWT
          ·have ha3:=AUD hc;refine ED [3,0,4] AJ (DJ rfl (DD ?_));intro b5 hb5 h5;refine D6 3 Nh rfl (λw hw=>D_ (size:=2) (.head _) rfl hw) rfl AL AL ?_;intro A' c' hl _;refine DD ?_;obtain⟨q1,q2,q3⟩:Ex.iE e e1 e2 f1 i (k+1)=E/\Ex.iL xs f1 (k+1)=Ex.iL xs f1 k/\Ex.iR xs l2 (k+1)=Ex.iR xs l2 k++[x]:=by
            cases hst<;>simp_all [Ext.end_]<;>omega
           exact AWT
       ·intro Xo L' _ hF;obtain⟨A7,n7,c7,A8,n8,c8,zq,Pg,SG,rfl,⟨h7,h8⟩⟩:=hF;have g10:=AO (Dy zq) (AO Pg SG);refine k1 _ _ (Cy rfl ?_);replace zg:=Bd.mk (AO g5 (AO g6 (AO g7 (AO g8 g10))));refine DU @DT ?_;refine⟨⟨k+1,A7,n7,c7,A8,n8,c8,?_⟩,?_⟩
        ·refine DU @Af ?_;exact⟨by omega,by omega,by omega⟩
        ·exact AXo
      ·refine Dr (k0 _ _ ?_);have hnk:n=k:=by have:=AUD hc;omega
       subst hnk;have hEL:Ex.iL xs f1 n=xs.take f1:=by unfold Ex.iL;rw[AUM hend.2]
       have hER:Ex.iR xs l2 n=xs.drop l2:=by unfold Ex.iR;rw[<-hE.len,AUN]
       rw[hend.1,hEL,hER];refine C9 rfl λK k0=>DD ?_;intro b5 hb5 h5;refine D6 1 Nh rfl (λw hw=>D_ (size:=2) (.head _) rfl hw) rfl AL AL ?_;intro A5 c5 hl5 _;refine DD ?_;refine D6 0 Nh rfl (λw hw=>Hz (.tail _ (.tail _ (.head _))) hw) (L_ _) AL AL ?_;intro A6 c6 hl6 _;refine DD (k0 _ _ ?_);refine C8 (EP λw hw=>?_);have e5:Eb (xs.take f1++([e2]++xs.drop l2))=Eb (xs.take f1)++[ε ζ e2.off,ε ζ e2.len]++Eb (xs.drop l2):=by simp[Eb]
       exact⟨A6,_,c6,by rw[hF],by rw[hF];dsimp only;rw[e5];exact Kz (hw.holds _ (.head _)) (hw.own _ (.head _)),hw.below⟩
theorem yn:(AGm.info? 3).map (λi=>(i.zero,i.size,i.bytes))=σ (σ (ε ζ 0),1,8):=by kernel_rfl
def MB(k:Nat):List Value:=(Cq k).map λj=>ε ζ (Sz.sz j)
theorem Oj k:MB (k+1)=MB k++[ε ζ (Sz.sz k)]:=by simp[MB,ASz]
theorem AFE:∀k,8<=k->k<12->(256<=Sz.sz k/\Sz.sz k<=2048)/\Sz.sz (k+1)=2*Sz.sz k:=by
 intro k h1 h2;have:k=8\/k=9\/k=10\/k=11:=by omega
 rcases this with rfl|rfl|rfl|rfl<;>decide
theorem AB8 k(h1:12<=k)(h2:k<43):(4096<=Sz.sz k/\Sz.sz k<=65536)/\Sz.sz (k+1)=Sz.sz k+2048:=by
 unfold Sz.sz;rw[ATt AL,ATt AL,ATt AL,ATt AL];omega
theorem o_ w:Calls AGm 234 #[] w λe w' => ∃g cap,e=κ (ξ (σ ⟨g,0,ν⟩) 43 cap)/\w'.ownsRow w.heap.size 3 1 (ξ (σ ⟨g,0,ν⟩) 43 cap) 43 (MB 43)/\Below w.heap.size w w':=by
 obtain⟨i0,hi,hz0,hz1,hz2⟩:=info_parts yn
 go_enter Tryz.func234,Tryz.ntmps234
 go_wp2
 go_loopw [1,2] (λv n wr => ∃k:Nat,k<=8/\n=ε ζ (16*((k:Int)+1))/\wr.ownsRow w.heap.size 3 1 v k (MB k)/\Below w.heap.size w wr) (λ_ n _=>200-(intOf n).toNat)
 case atStart=>exact⟨0,by omega,rfl,World.ownsRow_nil _ _ _ _,Below.refl _ _⟩
 case round =>
  obtain⟨k,hk,rfl,hown,hB⟩:=hrel;by_cases hlt:k<8
  ·have hs:16*((k:Int)+1)=Sz.sz k:=by unfold Sz.sz;rw[ATv hlt]
   have H:=Lib.hid hs;clear hs
   go_wp2_with (at_builtin;go_must (refine Js _ rfl _ _ _ rfl w.heap.size 3 i0 _ 1 8 Tryz.underlying27 hi hz0 hz1 hz2 rfl AL _ k _ rfl (hown.alloc _) (wr.heap.size+1) _ 1 1 [ε ζ (16*((k:Int)+1))] rfl (TN wr _ _ 1 1 rfl _ AL) AWg AWX AL AVV ?_);intro v1 w1 hown1 hg1 AHT)
   go_roundw
   case rel=>exact⟨k+1,by omega,by go_num,by rw[Oj,<-H.out];exact hown1,(hB.alloc hB.size _).grown hg1 AVV (λj hj=>(hown.lt j hj).1)⟩
   case measure=>simp[intOf];omega
  ·obtain⟨N,hN⟩:∃N:Int,N=16*((k:Int)+1):=⟨_,rfl⟩;rw[<-hN];obtain rfl:k=8:=by omega
   have hN2:128<N:=by omega
   clear hk hN
   go_wp2
   go_loopw [1,3] (λv n wr => ∃k:Nat,8<=k/\k<=12/\n=ε ζ (Sz.sz k)/\wr.ownsRow w.heap.size 3 1 v k (MB k)/\Below w.heap.size w wr) (λ_ n _=>4096-(intOf n).toNat)
   case atStart=>exact⟨8,by omega,by omega,rfl,hown,hB⟩
   case round =>
    clear hown hB;obtain⟨k,hk1,hk2,rfl,hown,hB⟩:=hrel;by_cases hlt:k<12
    ·have hb:=AFE k hk1 hlt;have H:=Lib.hid hb.2;have hb1:=hb.1;clear hb
     go_wp2_with (at_builtin;go_must (refine Js _ rfl _ _ _ rfl w.heap.size 3 i0 _ 1 8 Tryz.underlying27 hi hz0 hz1 hz2 rfl AL _ k _ rfl (hown.alloc _) (wr.heap.size+1) _ 1 1 [ε ζ (Sz.sz k)] rfl (TN wr _ _ 1 1 rfl _ AL) AWg AWX AL AVV ?_);intro v1 w1 hown1 hg1 AHT)
     go_roundw
     case rel=>exact⟨k+1,by omega,by omega,by rw[H.out],by rw[Oj];exact hown1,(hB.alloc hB.size _).grown hg1 AVV (λj hj=>(hown.lt j hj).1)⟩
     case measure=>simp[intOf];omega
    ·obtain rfl:k=12:=by omega
     clear hk1 hk2;have hsz:Sz.sz 12=4096:=by decide
     have hsz':2048<Sz.sz 12:=by rw[hsz];decide
     clear hsz
     go_wp2
     go_loopw [1,4] (λv n wr => ∃k:Nat,12<=k/\k<=43/\n=ε ζ (Sz.sz k)/\wr.ownsRow w.heap.size 3 1 v k (MB k)/\Below w.heap.size w wr) (λ_ n _=>70000-(intOf n).toNat)
     case atStart=>exact⟨12,by omega,by omega,rfl,hown,hB⟩
     case round =>
      clear hown hB;obtain⟨k,hk1,hk2,rfl,hown,hB⟩:=hrel;by_cases hlt:k<43
      ·have hb:=AB8 k hk1 hlt;have H:=Lib.hid hb.2;have hb1:=hb.1;clear hb
       go_wp2_with (at_builtin;go_must (refine Js _ rfl _ _ _ rfl w.heap.size 3 i0 _ 1 8 Tryz.underlying27 hi hz0 hz1 hz2 rfl AL _ k _ rfl (hown.alloc _) (wr.heap.size+1) _ 1 1 [ε ζ (Sz.sz k)] rfl (TN wr _ _ 1 1 rfl _ AL) AWg AWX AL AVV ?_);intro v1 w1 hown1 hg1 AHT)
       go_roundw
       case rel=>exact⟨k+1,by omega,by omega,by rw[H.out],by rw[Oj];exact hown1,(hB.alloc hB.size _).grown hg1 AVV (λj hj=>(hown.lt j hj).1)⟩
       case measure=>simp[intOf];omega
      ·obtain rfl:k=43:=by omega
       have hsz:65536<Sz.sz 43:=by decide
       obtain⟨g,cap,rfl⟩:=ownsRow_succ (k:=42) hown
       go_wp2
       go_ret
       exact⟨g,cap,rfl,hown,hB⟩
theorem Uo{k}(h:k<43):(MB 43)[k]?=σ (ε ζ (Sz.sz k)):=by simp[MB,h]
theorem gY{w:World}{base e g n cap:Nat}{xs}(h:w.ownsRow base e 1 (ξ (σ ⟨g,0,ν⟩) n cap) n xs){j u}(hu:xs[j]?=σ u):w.cell? ⟨g,j,ν⟩=σ u:=by
 have:=h.cells (g:=g) rfl j u hu;have e:(⟨g,0,ν⟩:Addr).add j=⟨g,j,ν⟩:=by unfold Addr.add;split<;>simp_all
 rwa[e]at this
theorem tV x w(hx:x<1\/65536<x):Calls AGm 233 #[ε ζ x] w λe w'=>e=κ (.tuple #[ε ζ (Sz.cla x),ε ζ (Sz.err x)])/\Below w.heap.size w w':=by
 rcases hx with hx|hx
 ·have H:Sz.cla x=0/\Sz.err x=1:=by unfold Sz.cla Sz.err;rw[ATv hx,ATv hx];exact⟨rfl,rfl⟩
  rw[H.1,H.2];clear H
  go_enter Tryz.func233,Tryz.ntmps233
  go_wp2
  go_ret2
  exact⟨rfl,Below.refl _ _⟩
 ·have hn:¬x<1:=by omega
  have H:Sz.cla x=0/\Sz.err x=4:=by unfold Sz.cla Sz.err;rw[ATt hn,ATv hx,ATt hn,ATv hx];exact⟨rfl,rfl⟩
  rw[H.1,H.2];clear H
  go_enter Tryz.func233,Tryz.ntmps233
  go_wp2
  go_ret2
  exact⟨rfl,Below.refl _ _⟩
theorem Wy x w(h1:1<=x)(h2:x<=65536):Calls AGm 233 #[ε ζ x] w λe w'=>e=κ (.tuple #[ε ζ (Sz.cls x),ε ζ 0])/\Below w.heap.size w w':=by
 obtain⟨hc1,hc2,hc3⟩:=Sz.Ww h2;have d1:decide (x<1)=ο:=by simp;omega
 have d2:decide (65536<x)=ο:=by simp;omega
 obtain⟨c,hc⟩:∃c,Sz.cls x=c:=⟨_,rfl⟩;rw[hc]at hc1 hc2 hc3 ⊢;clear hc;have HC:=Lib.hid hc3;clear hc3
 go_enter Tryz.func233,Tryz.ntmps233
 go_wp2_with (go_at_call 234;refine(o_ _).mono ?_;rintro e w1 ⟨g,cap,rfl,hown,hb⟩)
 have HO:=Lib.hid hown;clear hown
 go_loop [5] (λi => ∃k:Nat,k<=c/\i=ε ζ (k:Int)) (λi=>43-(intOf i).toNat)
 case atStart=>exact⟨0,by omega,rfl⟩
 case round =>
  obtain⟨k,hk,rfl⟩:=hrel;have hcell:=gY HO.out (Uo (k:=k) AL);by_cases hlt:k<c
  ·have hs:=HC.out k hlt
   go_wp2
   go_round
   case rel=>exact⟨k+1,by omega,by go_num⟩
   case measure=>simp[intOf];omega
  ·obtain rfl:k=c:=by omega
   go_wp2
   go_ret2
   exact⟨rfl,hb⟩
theorem lT x w:Calls AGm 233 #[ε ζ x] w λe w'=>e=κ (.tuple #[ε ζ (Sz.cla x),ε ζ (Sz.err x)])/\Below w.heap.size w w':=by
 by_cases hx:x<1\/65536<x
 ·exact tV x w hx
 ·have H:Sz.cla x=Sz.cls x/\Sz.err x=0:=by
   unfold Sz.cla Sz.err;rw[ATt AL,ATt AL,ATt AL,ATt AL];exact⟨rfl,rfl⟩
  rw[H.1,H.2];exact Wy x w AL AL
theorem RF x w:Calls AGm 218 #[ε ζ x] w λe w'=>e=κ (.tuple #[ε ζ (Sz.QT x),ε ζ (Sz.err x)])/\Below w.heap.size w w':=by
 by_cases hx:x<1\/65536<x
 ·have H:Sz.QT x=0:=by
   unfold Sz.QT;rcases hx with hx|hx
   ·rw[ATv hx]
   ·rw[ATt AL,ATv hx]
  have he:(Sz.err x != 0)=τ:=by
   unfold Sz.err;rcases hx with hx|hx
   ·rw[ATv hx];rfl
   ·rw[ATt AL,ATv hx];rfl
  rw[H];clear H hx
  go_enter Tryz.func218,Tryz.ntmps218
  go_wp2_with (go_at_call 233;refine(lT _ _).mono ?_;rintro e w1 ⟨rfl,hb⟩)
  go_ret2
  exact⟨rfl,hb⟩
 ·have H:Sz.QT x=Sz.sz (Sz.cls x)/\Sz.err x=0:=by
   unfold Sz.QT Sz.err;rw[ATt AL,ATt AL,ATt AL,ATt AL];exact⟨rfl,rfl⟩
  rw[H.1,H.2];clear H;obtain⟨hc1,_⟩:=Sz.Ww (n:=x) AL;have hcl:=Wy x w AL AL;obtain⟨c,hc⟩:∃c,Sz.cls x=c:=⟨_,rfl⟩;rw[hc]at hc1 hcl ⊢;clear hc hx;have HL:=Lib.hid hcl;clear hcl
  go_enter Tryz.func218,Tryz.ntmps218
  go_wp2_with (go_at_call 233;refine HL.out.mono ?_;rintro e w1 ⟨rfl,hb⟩)
  refine(o_ _).mono ?_;rintro e w2 ⟨g,cap,rfl,hown,hb2⟩;have hcell:=gY hown (Uo (k:=c) AL);clear hown
  go_wp2
  go_ret2
  exact⟨rfl,hb.trans (hb2.mono hb.size)⟩
theorem Ex.Y2:∀(us s:List Ext),Ex.OM s->(∀e∈us,e.prop)->Ex.OM (us.foldl (λs e=>(Ex.J6 s e).1) s)
 |[],s,h,_=>h
 | e::us,s,h,hp=>by
  refine Ex.Y2 us _ ?_ λx hx=>hp x (.tail _ hx);show Ex.OM (Ex.J6 s e).1;rcases Ex.Tq h (hp e (.head _))with⟨h1,-⟩|⟨-,h2,-⟩
  ·rw[h1];intro i hi;simp at hi
  ·exact h2
theorem Ex.pE{xs}(h:Ex.OM xs){i}(hi:i<xs.length) : -9223372036854775808<=(Ex.get xs i).len/\(Ex.get xs i).len<=9223372036854775807:=by
 have:=FM h hi;omega
structure Si where
 bM:Nat
 N:Int
 UA:Option Addr
 un:Nat
 uc:Nat
 us:List Ext
def Ex.aL(n:Int)(l:List Ext):Int×Bool:=if (Ex.Lg n l).len=0 then (0,ο) else ((Ex.Lg n l).off,τ)
structure PlI(n:Int)(l:List Ext)(i:Nat)(b:Int):Prop where
 is:(b = -1/\Ex.Lg n (l.take i)=⟨0,0⟩)∨∃k:Nat,b=(k:Int)/\k<i/\Ex.get l k=Ex.Lg n (l.take i)
theorem gZ{n fr}(h:Sz.err n=0):(Ex.findF fr n).2=(if (Ex.aL (Sz.QT n) fr).2 then 0 else 18)/\((Ex.findF fr n).2=0->(Ex.findF fr n).1=⟨(Ex.aL (Sz.QT n) fr).1,Sz.QT n⟩):=by
 unfold Ex.findF Ex.aL;rw[ATv h];split
 ·exact⟨rfl,λh=>by cases h⟩
 ·exact⟨rfl,λ_=>rfl⟩
theorem gq{us e i}(h:i<us.length):(us.take (i+1)).filter (λx=>decide (x≠e))=(us.take i).filter (λx=>decide (x≠e))++(if Ex.get us i=e then [] else [Ex.get us i]):=by
 rw[Bi,AQ h,<-Ex.get_eq h];simp only[AUR,ASJ];congr 1;by_cases hc:Ex.get us i=e
 ·simp[hc]
 ·simp[hc]
structure pF(w:World)(B:Nat)(y:Si):Prop where
 blk:Sl w B 1 (σ ⟨y.bM,10,ν⟩) 2 2 [ε ζ y.N,ξ y.UA y.un y.uc]
 us:Gb w B y.UA y.un y.uc y.us
 len:y.us.length<=100
 prop:∀e∈y.us,e.prop
section
variable{W w:World}{L:List DW}{y:Si}
theorem pF.at(h:pF W W.heap.size y)(hw:St [] W L w):pF w w.heap.size y:=⟨h.blk.at hw,h.us.at hw,h.len,h.prop⟩
theorem pF.lt{w B}(h:pF w B y):y.bM<B:=by
 obtain⟨b',o',e,hb,-⟩:=h.blk.cells AL;cases e;exact hb
end
theorem FN y W(h:pF W W.heap.size y):Calls AGm 37 #[π (σ ⟨y.bM,10,ν⟩)] W
  (aF 37 2 (λv=>v) (Eb (Ex.gW y.N y.us)) W):=by
 have hbM:=h.lt;obtain⟨bM,N,UA,un,uc,us⟩:=y;have hE:=h.us;have hl:=hE.len;have AKI:=h.len;have hp:=h.prop;dsimp only at *;have AHU:∀i,Ex.OM (Ex.setOf (us.take i)):=λi=>Ex.Y2 (us.take i) [] (λi hi=>by simp at hi) λe he=>hp e (BU he);have hlen:=λi=>Ex.Tt (us.take i);have htl:∀i,(us.take i).length<=us.length:=λi=>by rw[Al];omega
 refine DL (M:=[]) Tryz.func37 [.tmp 2] (St.nil _ _) ?_;have zs:=Bd.mk Wx;refine DZ ?_;refine DZ ?_;refine Cw λK k0=>DZ ?_;refine DC [0,3,4] λG1 g1=>?_;replace g1:=EK g1;refine DK (FB 37 2 ?_);refine Dv (λF' L' => ∃(i:Nat)(A:Option Addr)(n c:Nat),F' 0=G1 0/\F' 3=ξ A n c/\F' 4=ε ζ (i:Int)/\L'=[.row (ξ A n c) 37 2 n (Eb (Ex.setOf (us.take i)))]/\i<=un) (λF' L'=>200-(intOf (F' 4)).toNat) ?_ ?_
 ·exact AWB
 intro G2 L' hI;obtain⟨i,A,n,c,Nk,Tn,Qd,rfl,hi⟩:=hI;have zg:=Bd.mk g1;have g2:=AO (Dy Nk) (AO Tn Qd);refine Cw λK k1=>C9 rfl λK k2=>?_;replace zg:=Bd.mk (AO g1 g2);refine DD ?_;refine DX (h.blk.ld1 (m:=1) (i:=1) AF rfl) ?_;refine DD (k2 _ _ ?_);refine Ec (λhc=>?_) λhc=>?_
 ·refine Cz ?_;try simp only[Di,Dq]
  have hit:i<un:=by have:=AT0 ‹decide ((i:Int)<(un:Int))=τ›;omega
  obtain⟨bF,oF,rfl,hbF,-⟩:=hE.cells AL;obtain⟨x,hx⟩:∃x,Ex.get us i=x:=⟨_,rfl⟩;have hxm:x∈us:=by rw[<-hx,Ex.get_eq AL];exact Cf _
  have hxp:=hp x hxm;have htk:us.take (i+1)=us.take i++[x]:=by rw[Bi,AQ AL,<-hx,Ex.get_eq AL];rfl
  have hsn:=Ex.setOf_snoc (us.take i) x;rw[<-htk]at hsn;have hv:=AHU i;have hln:=hlen i;have AOs:=htl i;refine k1 _ _ (Cw λK k1=>DK (DJ rfl (DD ?_)));refine DX (h.blk.ld1 (m:=1) (i:=1) AF rfl) ?_;refine DD ?_;refine DX (hE.ld hit) ?_;refine DU hx ?_;refine D9 (λA n c=>.tuple #[ξ A n c,ε ζ (Ex.J6 (Ex.setOf (us.take i)) x).2]) (λw hw=>(gX A n c (Ex.setOf (us.take i)) x w (Gb.EJ hw (.head _)) AVf (λj hj=>Ex.pE hv AVf) (by unfold Ext.prop at hxp;omega) (by unfold Ext.prop at hxp;omega))) ?_;intro A1 n1 c1 hl1 hr1;refine DD (k1 _ _ ?_);refine DY [0] ?_;refine Cy rfl (DU @DT ?_);refine⟨⟨i+1,A1,n1,c1,?_⟩,?_⟩
  ·refine DU (AO @Af hsn) ?_;omega
  ·exact AXo
 refine Dr (k0 _ _ ?_);have hit:¬i<un:=by have:=AUD ‹decide ((i:Int)<(un:Int))=ο›;omega
 rw[Aw AL];have hv:=AHU us.length;rw[AUN]at hv;have hln:=Ex.Tt us;refine C9 rfl λK k0=>DD ?_;refine DX (h.blk.ld1 (m:=1) (i:=0) AF rfl) ?_;refine DD ?_;refine D9 (λA n c=>.tuple #[ξ A n c,ε ζ (Ex.JL (Ex.setOf us) N).2]) (λw hw=>(VC A n c (Ex.setOf us) N w (Gb.EJ hw (.head _)) AVf (λj hj=>Ex.pE hv AVf))) ?_;intro A1 n1 c1 hl1 hr1;refine DD (k0 _ _ ?_);refine Db ?_;refine C8 (EP λw hw=>?_);exact⟨_,_,_,rfl,hw.H6 AUq,hw.below⟩
theorem Uq y n fr tk W(h:pF W W.heap.size y)(hI:Ex.Inv y.N y.us fr tk):Calls AGm 237 #[π (σ ⟨y.bM,10,ν⟩),ε ζ n] W
  λe w'=>e=κ (.tuple #[ε ζ (Ex.aL n fr).1,θ (Ex.aL n fr).2])/\Below W.heap.size W w':=by
 have hbM:=h.lt;have hfl:=hI.AHQ;have AKI:=h.len;obtain⟨hv,-,-,-⟩:=hI.free;have hfr:=hI.fr;refine DL (M:=[]) Tryz.func237 [.tmp 4,.tmp 5] (St.nil _ _) ?_;have zs:=Bd.mk Wx;refine DZ ?_;refine C9 rfl λK k0=>DR ?_;refine D9 (λA n c=>ξ A n c) (λw hw=>(by have:=FN y w (h.at hw);rw[<-hfr]at this;exact this)) ?_;intro A m c hl hr;refine DR (k0 _ _ ?_);have hlm:fr.length=m:=by rw[M5]at hl;omega
 refine DZ ?_;refine Cw λK k0=>DZ ?_;refine DC [1,6,7,8] λG3 g3=>?_;replace g3:=EK g3;refine DK ?_;refine Dv (λF' L' => ∃(i:Nat)(b:Int),EH F' G3 [1,6]/\F' 7=ε ζ b/\F' 8=ε ζ (i:Int)/\L'=[.row (ξ A m c) 37 2 m (Eb fr)]/\i<=m/\PlI n fr i b) (λF' L'=>200-(intOf (F' 8)).toNat) ?_ ?_
 ·refine⟨0,-1,?_⟩;have zg:=Bd.mk g3;refine DD ?_;exact⟨by omega,⟨.inl ⟨rfl,rfl⟩⟩⟩
 intro G4 L' hI;obtain⟨i,b,zq,Pg,SG,rfl,⟨hi,⟨hb⟩⟩⟩:=hI;have zg:=Bd.mk g3;have g4:=AO (Dy zq) (AO Pg SG);refine Cw λK k1=>?_;replace zg:=Bd.mk (AO g3 g4);refine Db ?_;refine Ec (λhc=>?_) λhc=>?_
 ·refine Cz ?_;try simp only[Di,Dq]
  have hit:i<m:=by have:=AT0 ‹decide ((i:Int)<(m:Int))=τ›;omega
  have hgi:=Io fr i AL;obtain⟨x,hx⟩:∃x,Ex.get fr i=x:=⟨_,rfl⟩;rw[hx]at hgi;have hbt:=Ex.tL (size:=n) (fr:=fr) (i:=i) AL;rw[hx]at hbt;obtain⟨B,hB⟩:∃B,Ex.Lg n (fr.take i)=B:=⟨_,rfl⟩;rw[hB]at hb hbt;refine k1 _ _ (EL 0 rfl AL λg F7 hg EX=>?_);subst F7;replace hg:=AAz (AO hg EX);clear EX;refine Cw λK k1=>DK (Cw λK k2=>?_);refine Df (λ_ _=>True) (λF' L'=>EH F' G4 [1,6,7,8]/\F' 40=θ (decide (n<=x.len/\(B.len=0\/x.len<B.len)))/\L'=[.row (ξ (σ ⟨g,0,ν⟩) m c) 37 2 m (Eb fr)]) ?_ ?_
  ·by_cases a1:n<=x.len
   ·have a1':decide (n<=x.len)=τ:=AUB a1;rcases hb with⟨rfl,rfl⟩|⟨k,rfl,hk,hgk⟩
    ·refine EB [(τ,0),(τ,1),(τ,2),(τ,3),(τ,4),(τ,5),(τ,6),(τ,7),(τ,8),(τ,9),(τ,10),(τ,11),(τ,12),(τ,13),(τ,14),(τ,15),(τ,16),(τ,17),(τ,18),(τ,19),(τ,20),(τ,21),(τ,22),(τ,23)] [] ?_;refine DD ?_;refine DX (Dx (m:=1) (v:=ε ζ x.len) (i:=i*2+1) (.head _) rfl hgi.2) ?_;exact Yc a1'
    ·have yo:=Io fr k AL;have hpk:=FM hv (show k<fr.length by omega);rw[hgk]at yo hpk;have tX:decide ((k:Int)<0)=ο:=AUC AL;refine EB [(τ,0),(τ,1),(τ,2),(τ,3),(τ,4),(τ,5),(τ,6),(τ,7),(τ,8),(τ,9),(τ,10),(τ,11),(τ,12),(τ,13),(τ,14),(τ,15),(τ,16),(τ,17),(τ,18),(τ,19),(τ,20),(τ,21),(τ,22),(τ,23)] [] ?_;refine DD ?_;refine DX (Dx (m:=1) (v:=ε ζ x.len) (i:=i*2+1) (.head _) rfl hgi.2) ?_;refine DU (AO a1' tX) ?_;refine DX (Dx (m:=1) (v:=ε ζ x.len) (i:=i*2+1) (.head _) rfl hgi.2) ?_;refine DU (AO a1' tX) ?_;refine DX (Dx (m:=1) (v:=ε ζ B.len) (i:=k*2+1) (.head _) rfl yo.2) ?_;refine DU (AO a1' tX) ?_;rw[show decide (n<=x.len/\(B.len=0\/x.len<B.len))=decide (x.len<B.len) by apply AUg.2;constructor<;>(intro h;omega)];all_goals (repeat' refine AO ?_ ?_)
     all_goals exact Ev
   ·have a1':decide (n<=x.len)=ο:=AUC a1;refine EB [(τ,0),(τ,1),(τ,2),(τ,3),(τ,4),(τ,5),(τ,6),(τ,7),(τ,8),(τ,9),(τ,10),(τ,11),(τ,12),(τ,13),(τ,14),(τ,15),(τ,16),(τ,17),(τ,18),(τ,19),(τ,20),(τ,21),(τ,22),(τ,23)] [] ?_;refine DD ?_;refine DX (Dx (m:=1) (v:=ε ζ x.len) (i:=i*2+1) (.head _) rfl hgi.2) ?_;refine DU a1' ?_;rw[show decide (n<=x.len/\(B.len=0\/x.len<B.len))=ο from AUC λh=>a1 h.1];all_goals (repeat' refine AO ?_ ?_)
    all_goals exact Ev
  intro G5 L' _ hF;obtain⟨zq,AKK,rfl⟩:=hF;have g5:=AO (Dy zq) AKK;refine k2 _ _ ?_;replace zg:=Bd.mk (AO g3 (AO g4 g5));refine Ec (λhc=>?_) λhc=>?_
  ·have q1:=AT0 hc;have hs:Ex.Jo n B x=x:=ATv q1;rw[hs]at hbt;refine DJ rfl (DD (k1 _ _ ?_));refine Cy rfl (DU @DT ?_);refine⟨⟨i+1,(i:Int),?_⟩,?_⟩
   ·refine DU @Af ?_;exact⟨by omega,⟨.inr ⟨i,rfl,by omega,by rw[hbt,hx]⟩⟩⟩
   ·exact AXo
  ·have q1:=AUD hc;have hs:Ex.Jo n B x=B:=ATt q1;rw[hs]at hbt;refine Cz (k1 _ _ (Cy rfl (DU @DT ?_)));refine⟨⟨i+1,b,?_⟩,?_⟩
   ·refine DU @Af ?_;refine⟨by omega,⟨?_⟩⟩;rw[hbt];exact hb.imp id λ⟨k,h1,h2,h3⟩=>⟨k,h1,by omega,h3⟩
   ·exact AXo
 refine Dr (k0 _ _ ?_);have hit:¬i<m:=by have:=AUD ‹decide ((i:Int)<(m:Int))=ο›;omega
 rw[Aw AL]at hb;rcases hb with⟨rfl,hb⟩|⟨k,rfl,hk,hgk⟩
 ·refine Cw λK k0=>Db ?_;refine C_ (DD ?_);refine Db ?_;refine C8 (EP λw hw=>?_);unfold Ex.aL;rw[hb];exact⟨rfl,hw.below⟩
 ·have yo:=Io fr k AL;have hpk:=FM hv (show k<fr.length by omega);rw[hgk]at yo hpk;have tX:decide ((k:Int)<0)=ο:=AUC AL;refine Cw λK k0=>KU tX ?_;refine C_ (DD ?_);refine Cz (k0 _ _ (EL 0 rfl AL λg F7 hg EX=>?_));subst F7;replace hg:=AAz (AO hg EX);clear EX;refine C9 rfl λK k0=>DD ?_;refine DX (Dx (m:=1) (v:=ε ζ (Ex.Lg n fr).off) (i:=k*2) (.head _) rfl yo.1) ?_;refine DD (k0 _ _ ?_);refine C8 (EP λw hw=>?_);unfold Ex.aL;rw[ATt AL];exact⟨rfl,hw.below⟩
theorem lU y n fr tk W(h:pF W W.heap.size y)(hI:Ex.Inv y.N y.us fr tk):Calls AGm 236 #[π (σ ⟨y.bM,10,ν⟩),ε ζ n] W
  λe w'=>e=κ (ε ζ (Ex.findF fr n).2)/\Below W.heap.size W w':=by
 obtain⟨e0,he⟩:∃e0,Sz.err n=e0:=⟨_,rfl⟩;have hpf:=gZ (n:=n) (fr:=fr);obtain⟨S,hS⟩:∃S,Sz.QT n=S:=⟨_,rfl⟩;have hfe:¬e0=0->(Ex.findF fr n).2=e0:=λh=>by unfold Ex.findF;rw[he,ATt h]
 rw[hS,he]at hpf;obtain⟨q,hq⟩:∃q,Ex.aL S fr=q:=⟨_,rfl⟩;rw[hq]at hpf;refine DL (M:=[]) Tryz.func236 [.tmp 4] (St.nil _ _) ?_;have zs:=Bd.mk Wx;refine DZ ?_;refine C9 rfl λK k0=>DR ?_;refine DI (λw hw=>RF n w) ?_;try refine Ed (AO hS he) ?_
 refine k0 _ _ (Cw λK k0=>DZ ?_);refine NC (λhc=>?_) λhc=>?_
 ·have hz:¬e0=0:=Gl ‹(!decide (e0=0))=τ›;refine DZ ?_;refine C8 (Eg λw hw=>?_);rw[hfe hz];exact AVR
 have hz:e0=0:=Bp.1 (F_ ‹(!decide (e0=0))=ο›);obtain⟨hp1,hp2⟩:=hpf hz;refine Cz (k0 _ _ (C9 rfl λK k0=>DR ?_));refine DI (λw hw=>Uq y S fr tk w (h.at hw) hI) ?_;try refine Ed hq ?_
 refine k0 _ _ (DC [8] λG6 g6=>?_);replace g6:=EK g6;refine Cw λK k0=>?_;have zg:=Bd.mk g6;refine Db ?_;refine Ec (λhc=>?_) λhc=>?_
 ·have q1:q.2=ο:=by simpa using‹(!q.2)=τ›
  refine Db ?_;refine C8 (EP λw hw=>?_);rw[hp1,q1];exact AVR
 have q1:q.2=τ:=by simpa using‹(!q.2)=ο›
 refine Cz (k0 _ _ (Db ?_));refine C8 (EP λw hw=>?_);rw[hp1,q1];exact⟨rfl,hw.below⟩
def jq(y0 y1 y2 y3 y4 y5 y6 y7 y8 ty tb ln q0 q1 q2 mt cp lg ms bt sv:Value)(y:Si):List DW:=[.blk y.bM 97 [y0,y1,y2,y3,y4,y5,y6,y7,y8,ty,ε ζ y.N,ξ y.UA y.un y.uc,tb,ln,q0,q1,q2,mt,cp,lg,ms,bt,sv],.row (ξ y.UA y.un y.uc) 37 2 y.un (Eb y.us)]
theorem pF.of{M W w L y y0 y1 y2 y3 y4 y5 y6 y7 y8 ty tb ln q0 q1 q2 mt cp lg ms bt sv}(hw:St M W L w)i k(hi:nth L i=σ (.blk y.bM 97 [y0,y1,y2,y3,y4,y5,y6,y7,y8,ty,ε ζ y.N,ξ y.UA y.un y.uc,tb,ln,q0,q1,q2,mt,cp,lg,ms,bt,sv]))
  (hk:nth L k=σ (.row (ξ y.UA y.un y.uc) 37 2 y.un (Eb y.us))) (hl:y.us.length<=100) (hp:∀e∈y.us,e.prop):pF w w.heap.size y :=
 ⟨Sl.Z0 hw i hi 10 [ε ζ y.N,ξ y.UA y.un y.uc] rfl AUq,Gb.EJ hw (DN hk),hl,hp⟩
def ADe:=AO (AO @Oh.eq_1 (AO @su.eq_1 @jq.eq_1)) (AO (AO @Ac @DT) (AO @cMp @cM))
theorem gu y0 y1 y2 y3 y4 y5 y6 y7 y8 ty tb ln q0 q1 q2 mt cp lg ms bt sv y n fr tk W(hst:St (DV (jq y0 y1 y2 y3 y4 y5 y6 y7 y8 ty tb ln q0 q1 q2 mt cp lg ms bt sv y)) W (jq y0 y1 y2 y3 y4 y5 y6 y7 y8 ty tb ln q0 q1 q2 mt cp lg ms bt sv y) W)(hI:Ex.Inv y.N y.us fr tk)(hl:y.us.length<=90):
  Calls AGm 220 #[π (σ ⟨y.bM,10,ν⟩),ε ζ n] W
  λe w' => ∃z:Si,e=κ (.tuple #[su (Ex.findF fr n).1,ε ζ (Ex.findF fr n).2]) ∧
   (z.bM=y.bM/\z.N=y.N/\z.us=(if (Ex.findF fr n).2=0 then y.us++[(Ex.findF fr n).1] else y.us))/\St (DV (jq y0 y1 y2 y3 y4 y5 y6 y7 y8 ty tb ln q0 q1 q2 mt cp lg ms bt sv y)) W (jq y0 y1 y2 y3 y4 y5 y6 y7 y8 ty tb ln q0 q1 q2 mt cp lg ms bt sv z) w':=by
 have hp:=λe he=>(hI.prop e he).1;obtain⟨M,hM⟩:∃M,DV (jq y0 y1 y2 y3 y4 y5 y6 y7 y8 ty tb ln q0 q1 q2 mt cp lg ms bt sv y)=M:=⟨_,rfl⟩;rw[hM]at hst ⊢;obtain⟨q,hq⟩:∃q,Ex.findF fr n=q:=⟨_,rfl⟩;have hfe:=Ex.tO (fr:=fr) (n:=n);have hpf:=gZ (n:=n) (fr:=fr);have hal:=hI.alloc (n:=n);obtain⟨S,hS⟩:∃S,Sz.QT n=S:=⟨_,rfl⟩;obtain⟨pq,hpq⟩:∃pq,Ex.aL S fr=pq:=⟨_,rfl⟩;rw[hS,hpq,hq]at hpf;rw[hq]at hfe hal;rw[hq];obtain⟨bM,N,UA,un,uc,us⟩:=y;dsimp only at hp hI hl hal;unfold jq at hst;dsimp only at hst;clear hM;refine ER (M:=M) (n:=46) [.cell 4 37,.tmp 5] rfl Tryz.func220 rfl rfl (Am rfl)  hst ?_;refine C9 rfl λK k0=>?_;have zs:=Bd.mk ADe;refine DR ?_;intro b4 hb4 jo;refine k0 _ _ (Cw λK k0=>C9 rfl λK k1=>DR ?_);refine DI (λw hw=>(lU ⟨bM,N,UA,un,uc,us⟩ n fr tk w (pF.of hw 1 2 rfl rfl AU5 hp) hI)) ?_;try refine Ed hq ?_
 refine k1 _ _ (DC [0,1,4,6] λG7 g7=>?_);replace g7:=EK g7;have zg:=Bd.mk g7;refine Db ?_;refine Ec (λhc=>?_) λhc=>?_
 ·have hz:¬q.2=0:=Gl ‹(!decide (q.2=0))=τ›;refine Db ?_;refine C8 (FF ?_);intro w hw;rw[hfe hz,ATt hz];exact⟨⟨bM,N,UA,un,uc,us⟩,rfl,⟨rfl,rfl,rfl⟩,hw.tail⟩
 have hz:q.2=0:=Bp.1 (F_ ‹(!decide (q.2=0))=ο›);obtain⟨a1,a2,a3,a4,a5,a6,a7,a8⟩:=hal hz;obtain⟨c1,c2⟩:=hpf a5;have c2:=c2 hz;have hul:∀ {w:World} {L:List DW} (hw:St M W (L++[.row (ξ UA un uc) 37 2 un (Eb us)]) w),un=us.length:=λhw=>by
  have:=(Gb.EJ hw (AV.2 (.inr (.head _)))).len;exact this.symm
 refine Cz (k0 _ _ (C9 rfl λK k0=>DD ?_));refine DI (λw hw=>RF n w) ?_;try refine DU (AO hS a5) ?_
 refine k0 _ _ (C9 rfl λK k0=>DD ?_);refine DI (λw hw=>(Uq ⟨bM,N,UA,un,uc,us⟩ S fr tk w (pF.of hw 1 2 rfl rfl AU5 hp) hI)) ?_;try refine DU hpq ?_
 refine k0 _ _ (C9 rfl λK k0=>DD ?_);intro b11 yu AHV;refine k0 _ _ (DC [0,4,11] λG8 g8=>?_);replace g8:=Dy g8;refine IW (un=us.length) (λw hw=>(Gb.EJ hw (.tail _ (.tail _ (.tail _ (.head _))))).len.symm) λhun=>Cw λK k0=>?_;refine Df (λ_ _=>True) (λF' L' => ∃(A1:Option Addr)(k1:Nat),EH F' G8 [4,11]/\L'=[Oh b11 ⟨pq.1,S⟩,Oh b4 ⟨0,0⟩,.blk bM 97 [y0,y1,y2,y3,y4,y5,y6,y7,y8,ty,ε ζ N,ξ A1 (un+1) k1,tb,ln,q0,q1,q2,mt,cp,lg,ms,bt,sv],.row (ξ A1 (un+1) k1) 37 2 (un+1) (Eb us++[ε ζ pq.1,ε ζ S])]) ?_ ?_
 ·refine JU [0,1,2,3] (.rd 0 (.rd 2 (.rd 3 (.rd 4 (.rd 5 (.rd 7 (.more 1 (.more 6 (.act 8 (.act 9 (.rd 10 (.rd 11 (.act 12 (.done)))))) (.act 8 (.act 6 (.act 9 (.rd 10 (.rd 11 (.act 12 (.done)))))))) (.act 8 (.act 1 (.act 6 (.act 9 (.rd 10 (.rd 11 (.act 12 (.done))))))))))))))) [12] ?_;replace zg:=Bd.mk g8;refine DD ?_;refine⟨λb hb hf=>⟨?_,λb' hb' hf'=>?_⟩,λb hb hf b' hb' hf'=>?_⟩
  ·refine EI 0 Nh rfl rfl (λw hw=>Hz (.tail _ (.tail _ (.tail _ (.tail _ (.head _))))) hw) (L_ _) AL AL ?_;intro A c hl hr;refine DD ?_;intro b' hb' hf';refine D6 1 Nh rfl (λw hw=>D_ (size:=2) (.head _) rfl hw) rfl AL AL ?_;intro A1 k1 hl hr;refine DD ?_;refine⟨[2,3,4,0],by decide,?_⟩;simp only[Dl,nth];refine⟨A1,k1,?_⟩;exact dP
  ·refine EI 1 Nh rfl rfl (λw hw=>Hz (.tail _ (.tail _ (.tail _ (.tail _ (.tail _ (.head _)))))) hw) (L_ _) AL AL ?_;exact AVD
  ·refine EI 0 Nh rfl rfl (λw hw=>Hz (.tail _ (.tail _ (.tail _ (.tail _ (.tail _ (.head _)))))) hw) (L_ _) AL AL ?_;exact AVD
 intro G9 L' _ hF;obtain⟨A1,k1,zq,rfl⟩:=hF;replace zg:=Bd.mk g8;have g9:=Dy zq;refine k0 _ _ ?_;replace zg:=Bd.mk g9;refine Db ?_;refine C8 (FF ?_);intro w hw;refine⟨⟨bM,N,A1,un+1,k1,us++[⟨pq.1,S⟩]⟩,by rw[hz,c2],⟨rfl,rfl,by rw[ATv hz,c2]⟩,?_⟩;have h9:=hw.pick (ix:=[2,3]) AJ;rw[I1];exact h9
theorem lV y0 y1 y2 y3 y4 y5 y6 y7 y8 ty tb ln q0 q1 q2 mt cp lg ms bt sv y e W(hst:St (DV (jq y0 y1 y2 y3 y4 y5 y6 y7 y8 ty tb ln q0 q1 q2 mt cp lg ms bt sv y)) W (jq y0 y1 y2 y3 y4 y5 y6 y7 y8 ty tb ln q0 q1 q2 mt cp lg ms bt sv y) W)(hl:y.us.length<=90):
  Calls AGm 186 #[π (σ ⟨y.bM,10,ν⟩),su e] W
  λen w' => ∃z:Si,en=κ (ε ζ (if e∈y.us then 0 else 6)) ∧
   (z.bM=y.bM/\z.N=y.N/\z.us=(y.us.filter λx=>decide (x≠e)))/\St (DV (jq y0 y1 y2 y3 y4 y5 y6 y7 y8 ty tb ln q0 q1 q2 mt cp lg ms bt sv y)) W (jq y0 y1 y2 y3 y4 y5 y6 y7 y8 ty tb ln q0 q1 q2 mt cp lg ms bt sv z) w':=by
 obtain⟨M,hM⟩:∃M,DV (jq y0 y1 y2 y3 y4 y5 y6 y7 y8 ty tb ln q0 q1 q2 mt cp lg ms bt sv y)=M:=⟨_,rfl⟩;rw[hM]at hst ⊢;obtain⟨bM,N,UA,un,uc,us⟩:=y;dsimp only at hl;unfold jq at hst;dsimp only at hst;clear hM;have hfl:=Ex.YE (us:=us) (e:=e);refine DL (M:=M) Tryz.func186 [.tmp 4]  hst ?_;refine C9 rfl λK k0=>?_;have zs:=Bd.mk ADe;refine DR ?_;intro b3 hb3 hf3;refine k0 _ _ (IW (un=us.length) (λw hw=>(Gb.EJ hw (.tail _ (.tail _ (.head _)))).len.symm) λhun=>DZ ?_);refine Cw λK k0=>DZ ?_;refine DC [0,3,5,6] λXo g10=>?_;replace g10:=EK g10;refine DK (FB 37 2 ?_);refine Dv (λF' L' => ∃(i:Nat)(A:Option Addr)(n c:Nat),EH F' Xo [0,3]/\F' 5=ξ A n c/\F' 6=ε ζ (i:Int)/\L'=[.row (ξ A n c) 37 2 n (Eb ((us.take i).filter λx=>decide (x≠e))),Oh b3 e,.blk bM 97 [y0,y1,y2,y3,y4,y5,y6,y7,y8,ty,ε ζ N,ξ UA un uc,tb,ln,q0,q1,q2,mt,cp,lg,ms,bt,sv],.row (ξ UA un uc) 37 2 un (Eb us)]/\i<=un) (λF' L'=>200-(intOf (F' 6)).toNat) ?_ ?_
 ·refine⟨0,ν,0,0,?_⟩;have zg:=Bd.mk g10;refine DD ?_;exact⟨rfl,by omega⟩
 intro bQ L' hI;obtain⟨i,A,n,c,zq,Mq,Ms,rfl,hi⟩:=hI;have zg:=Bd.mk g10;have g11:=AO (Dy zq) (AO Mq Ms);refine Cw λK k1=>?_;replace zg:=Bd.mk (AO g10 g11);refine Db ?_;refine Ec (λhc=>?_) λhc=>?_
 ·refine Cz ?_;try simp only[Di,Dq]
  have hit:i<un:=by have:=AT0 ‹decide ((i:Int)<(un:Int))=τ›;omega
  obtain⟨x,hx⟩:∃x,Ex.get us i=x:=⟨_,rfl⟩;have hgi:=Io us i AL;have htk:=gq (us:=us) (e:=e) (i:=i) AL;rw[hx]at hgi htk;have hxe:x=e↔x.off=e.off/\x.len=e.len:=by cases x;cases e;simp
  have hcx:((Eb us).drop (i*2)).take 2=[ε ζ x.off,ε ζ x.len]:=by
   apply AUJ;intro j;rw[Bu,ASG]
   match j with
   |0=>simpa using hgi.1
   |1=>simpa using hgi.2
   |j+2=>rw[ATt AL];rfl
  have hfn:((us.take i).filter λx=>decide (x≠e)).length<=i:=by
   have:=Ap (λx=>decide (x≠e)) (us.take i);rw[Al]at this;omega
  refine k1 _ _ ?_;refine IW (n<=100) (λw hw=>by have:=(Gb.EJ (xs:=(us.take i).filter λx=>decide (x≠e)) hw (.head _)).len;omega) λANC=>?_;refine EL 3 rfl AL λg F7 hg EX=>?_;subst F7;replace hg:=AAz (AO hg EX);clear EX;refine Cw λK k1=>DK (Cw λK k2=>EB [(τ,0),(τ,1),(τ,2),(τ,3),(τ,4),(τ,5),(τ,6),(τ,7),(τ,8)] [] ?_);refine DD ?_;refine DX (IJ (i:=i*2) (vs:=[ε ζ x.off,ε ζ x.len]) (.tail _ (.tail _ (.tail _ (.head _)))) rfl hcx) ?_;refine DD (k2 _ _ ?_);refine Ec (λhc=>?_) λhc=>?_
  ·have q1:¬x=e:=λh=>by have:=hxe.1 h;simp[this.1,this.2]at hc
   rw[ATt q1]at htk;refine DJ rfl (DD ?_);refine DX (IJ (i:=i*2) (vs:=[ε ζ x.off,ε ζ x.len]) (.tail _ (.tail _ (.tail _ (.head _)))) rfl hcx) ?_;refine DD ?_;intro b33 AOt AOu;refine D6 1 Nh rfl (λw hw=>D_ (size:=2) (.head _) rfl hw) rfl AL AL ?_;intro A1 c1 hl1 hr1;refine DD (k1 _ _ ?_);refine DY [0,2,3,4] ?_;refine Cy rfl (DU @DT ?_);refine⟨⟨i+1,A1,n+1,c1,?_⟩,?_⟩
   ·refine DU (AO @Af (AO htk @I1)) ?_;omega
   ·exact AXo
  ·have q1:x=e:=hxe.2 (by simpa using hc);rw[ATv q1,BX]at htk;refine Cz (k1 _ _ (Cy rfl (DU @DT ?_)));refine⟨⟨i+1,A,n,c,?_⟩,?_⟩
   ·refine DU (AO @Af htk) ?_;omega
   ·exact AXo
 refine Dr (k0 _ _ ?_);have hit:¬i<un:=by have:=AUD ‹decide ((i:Int)<(un:Int))=ο›;omega
 rw[Aw AL];refine IW (n=(us.filter λx=>decide (x≠e)).length) (λw hw=>(Gb.EJ hw (.head _)).len.symm) λhn=>Cw λK k0=>Db ?_;refine Ec (λhc=>?_) λhc=>?_
 ·have q1:e∉us:=hfl.1 (by have:=AT0 ‹_›;omega);refine Db ?_;refine C8 (EP λw hw=>?_);have hfe:(us.filter λx=>decide (x≠e))=us:=ASj.2 λx hx=>by simp;rintro rfl;exact q1 hx
  rw[ATt q1];exact⟨⟨bM,N,UA,un,uc,us⟩,rfl,⟨rfl,rfl,hfe.symm⟩,hw.pick (ix:=[2,3]) AJ⟩
 have q1:e∈us:=Classical.byContradiction λh=>by
  have:=hfl.2 h;have:=AUD ‹_›;omega
 refine Cz (k0 _ _ (Db ?_));refine Db ?_;refine C8 (EP λw hw=>?_);rw[ATv q1];exact⟨⟨bM,N,A,n,c,us.filter λx=>decide (x≠e)⟩,rfl,⟨rfl,rfl,rfl⟩,hw.pick (ix:=[2,0]) AJ⟩
end Go.Proofs.YtnkgiaimcpbhkaaGreat
