import Derived.Test.YtnkgiaimcpbhkaaGreatDells1
import Derived.Test.YtnkgiaimcpbhkaaGreatDells5
import Derived.Test.YtnkgiaimcpbhkaaGreatDells6
set_option linter.all false
set_option maxRecDepth 100000
set_option maxHeartbeats 4000000
open List renaming length_append→Ag,nil_append→AR,length_take→Al,length_singleton→BI,length→CP
open List.Perm renaming swap→CL
open Prod renaming snd→ASY,fst→AH0
open Bool renaming false→ο,true→τ
open Go.Ending renaming returned→κ
open Go.IntKind renaming i64→ζ,u64→υ,u8→η
open Option renaming none→ν,some→σ
open Go.Value renaming bool→θ,int→ε,pointer→π,slice→ξ
namespace Go.Proofs.YtnkgiaimcpbhkaaGreat
open Tryz renaming prog→AGm
open Go.RowKit Go.Shelf
theorem Me f W(he:f.err=0):Calls AGm 172 #[Ub f] W λe w'=>e=κ (.tuple #[ε ζ f.wid,ε ζ f.V8])/\Below W.heap.size W w':=by
 have hz:=Fd.JJ he;refine DL (M:=[]) Tryz.func172 [.tmp 2,.tmp 3] (St.nil _ _) ?_;refine C9 rfl λK k0=>?_;have zs:=Bd.mk V9;refine DR ?_;intro b hb;refine k0 _ _ (Cw λK k0=>DZ ?_);refine DC [1,5] λG1 g1=>?_;replace g1:=EK g1;refine DK ?_;have zg:=Bd.mk g1;refine Db ?_;refine Ec (λhc=>?_) λhc=>?_
 ·refine Db ?_;refine C8 (EP λw hw=>?_);exact⟨by simp[Fd.wid,Fd.V8,AT0 hc],hw.below⟩
 ·have q1:=AUD hc;refine Db ?_;refine Ec (λhc=>?_) λhc=>?_
  ·refine Db ?_;refine C8 (EP λw hw=>?_);exact⟨by simp[Fd.wid,Fd.V8,q1,AT0 ‹_›],hw.below⟩
  ·have q2:=AUD ‹_›;refine Db ?_;refine Ec (λhc=>?_) λhc=>?_
   ·refine Db ?_;refine C8 (EP λw hw=>?_);exact⟨by simp[Fd.wid,Fd.V8,q1,q2,AT0 ‹_›],hw.below⟩
   ·have q3:=AUD ‹_›;refine DC [1,5] λG2 g2=>?_;replace g2:=Dy g2;refine Cw λK k1=>?_;refine Df (λ_ _=>True) (λF' L'=>EH F' G2 [1,5]/\F' 12=θ (decide (f.kind=4\/f.kind=5))/\L'=[LZ b f]) ?_ ?_
    ·replace zg:=Bd.mk g2;refine Db ?_;refine Ec (λhc=>?_) λhc=>?_
     ·have q4:=AT0 ‹_›;exact AUm
     ·have q4:=AUD ‹_›;refine DJ rfl (DD ?_);all_goals (repeat' refine AO ?_ ?_)
      all_goals exact Ev
    ·intro G3 L' _ hF;obtain⟨zq,Wz,rfl⟩:=hF;replace zg:=Bd.mk g2;have g3:=AO (Dy zq) Wz;refine k1 _ _ ?_;replace zg:=Bd.mk g3;refine Ec (λhc=>?_) λhc=>?_
     ·have q5:=AT0 ‹_›;have q6:¬f.kind=6:=by omega
      refine Db ?_;refine C8 (EP λw hw=>?_);exact⟨by simp[Fd.wid,Fd.V8,q1,q2,q3,q6],hw.below⟩
     ·have q5:=AUD ‹_›;have q6:f.kind=6:=by omega
      refine Cz (k0 _ _ (Db ?_));refine C8 (EP λw hw=>?_);exact⟨by simp[Fd.wid,Fd.V8,q6],hw.below⟩
theorem VS n a W(hn:0<=n/\n<=1000000000)(ha:1<=a/\a<=100):Calls AGm 207 #[ε ζ n,ε ζ a] W λe w'=>e=κ (ε ζ (dU n a))/\Below W.heap.size W w':=by
 have hr:=Lx hn.1 ha.1;have h0:0<=(n+a-1) / a/\(n+a-1) / a<=n+a-1:=⟨Int.ediv_nonneg AL AL,Int.ediv_le_self _ AL⟩;have h1:IntKind.i64.wrap ((n+a-1) / a)=(n+a-1) / a:=DT AL AL;have h2:IntKind.i64.wrap ((n+a-1) / a*a)=dU n a:=DT (by unfold dU at hr;omega) (by unfold dU at hr;omega);refine DL (M:=[]) Tryz.func207 [.tmp 4] (St.nil _ _) ?_;have zs:=Bd.mk V9;refine DZ ?_;refine Mo (AO h1 (AO h2 @DT)) ?_;refine C8 (Eg λw hw=>?_);exact⟨rfl,hw.below⟩
theorem Ur A n c fs W(hE:Sl W W.heap.size 2 A n c (cl NR fs))(hn:n<=40)(hok:TT fs):
  Calls AGm 173 #[PE 0 A n c] W λe w'=>(∃v,e=κ (.tuple #[v,ε ζ (PW fs)])/\True)/\Below W.heap.size W w':=by
 have hln:fs.length=n:=GM H5 AL hE.len;refine DL (M:=[]) Tryz.func173 [.tmp 2,.tmp 3] (St.nil _ _) ?_;refine C9 rfl λK k0=>?_;have zs:=Bd.mk V9;refine DR ?_;intro b hb;refine k0 _ _ (DZ ?_);refine Cw λK k0=>DZ ?_;refine C_ (DR ?_);refine Cz (k0 _ _ (DZ ?_));refine DZ ?_;refine Cw λK k0=>DZ ?_;refine DC [1,4,8,9,10] λG4 g4=>?_;replace g4:=EK g4;refine DK (FB 328 3 ?_);refine Dv (λF' L' => ∃(k:Nat)(A6:Option Addr)(c6:Nat)(ps:List Value),F' 1=G4 1/\F' 4=ξ A6 k c6/\F' 8=ε ζ (lay (fs.take k)).1/\F' 9=ε ζ (lay (fs.take k)).2/\F' 10=ε ζ (k:Int)/\L'=[.row (ξ A6 k c6) 328 3 k ps,G_ b 0 A n c]/\k<=n) (λF' L'=>40-(intOf (F' 10)).toNat) ?_ ?_
 ·refine⟨0,ν,0,[],?_⟩;have zg:=Bd.mk g4;refine DD ?_;exact⟨rfl,rfl,by omega⟩
 ·intro G5 L' hI;obtain⟨k,A6,c6,ps,fV,Qd,SG,lC,W9,rfl,hk⟩:=hI;have zg:=Bd.mk g4;have g5:=AO (Dy fV) (AO Qd (AO SG (AO lC W9)));have hR:=Rz (Nj hok k);rw[Al,CW AL]at hR;refine Cw λK k1=>?_;replace zg:=Bd.mk (AO g4 g5);refine Db ?_;refine Ec (λhc=>?_) λhc=>?_
  ·refine Cz ?_;try simp only[Di,Dq]
   have hlt:k<n:=by have:=AT0 hc;omega
   obtain⟨b0,off,rfl,hb0,-⟩:=hE.cells AL;obtain⟨x,hx⟩:=Fg (l:=fs) (i:=k) AL;have hxe:=hok x (AU hx);have hxw:=Fd.J2 hxe;have hxa:=Fd.QI hxe;have hu:=Lx (n:=(lay (fs.take k)).1) (a:=x.V8) hR.1 hxa.1;have hs:=Ry hx;refine k1 _ _ (Cw λK k1=>DK (C9 rfl λK k2=>DD ?_));refine DX (hE.fld hx) ?_;refine DD ?_;refine DI (λw hw=>Me x w hxe) ?_;try refine DD ?_
   refine k2 _ _ (C9 rfl λK k2=>DD ?_);refine DI (λw hw=>VS _ _ w AL AL) ?_;try refine DD ?_
   refine k2 _ _ (C9 rfl λK k2=>DD ?_);refine DX (hE.ABV hx) ?_;refine DD ?_;intro b7 fZ h7;refine D6 1 wG rfl (λw hw=>D_ (size:=3) (.head _) rfl hw) rfl AL AL ?_;intro A' c' hl _;refine DD (k2 _ _ ?_);refine KU @DT ?_;refine DY [0,2] ?_;refine DJ rfl (DD (k1 _ _ ?_));refine Cy rfl (DU @DT ?_);refine⟨⟨k+1,A',c',ps++[ε ζ (dU (lay (fs.take k)).1 x.V8),ε ζ x.wid,ε ζ x.kind],?_⟩,?_⟩
   ·refine DU (AO @Af (AO hs @MS.eq_1)) ?_;omega
   ·exact AXo
  ·refine Dr (k0 _ _ ?_);obtain rfl:n=k:=by have:=AUD hc;omega
   rw[Aw AL]at *;refine C9 rfl λK k0=>DD ?_;refine DI (λw hw=>VS _ _ w AL AL) ?_;try refine DD ?_
   refine k0 _ _ (C8 (EP λw hw=>?_));exact⟨⟨_,rfl,trivial⟩,hw.below⟩
theorem Jd A n c fs len W(hE:Sl W W.heap.size 2 A n c (cl NR fs)):
  Calls AGm 125 #[PE len A n c] W λe w'=>e=κ (ε ζ (Ho len fs))/\Below W.heap.size W w':=by
 have hln:fs.length=n:=GM H5 AL hE.len;refine DL (M:=[]) Tryz.func125 [.tmp 2] (St.nil _ _) ?_;refine C9 rfl λK k0=>?_;have zs:=Bd.mk V9;refine DR ?_;intro b hb;refine k0 _ _ (DC [1] λG6 g6=>?_);replace g6:=EK g6;refine Cw λK k0=>?_;have zg:=Bd.mk g6;refine Db ?_;refine Ec (λhc=>?_) λhc=>?_
 ·refine Db ?_;refine C8 (EP λw hw=>?_);exact⟨by unfold Ho;rw[ATv (AT0 hc)],hw.below⟩
 have q1:=AUD hc;refine Cz (k0 _ _ (Cw λK k0=>Db ?_));refine Ec (λhc=>?_) λhc=>?_
 ·refine Db ?_;refine C8 (EP λw hw=>?_);exact⟨by unfold Ho;rw[ATt q1,ATv (AT0 ‹_›)],hw.below⟩
 have q2:=AUD ‹_›;refine Cz (k0 _ _ (DC [1] λG7 g7=>?_));replace g7:=Dy g7;refine Cw λK k0=>Cw λK k1=>?_;refine Df (λ_ _=>True) (λF' L'=>F' 1=G7 1/\F' 34=θ (decide ((len=0/\fs.length=0)\/(0<len∧¬fs.length=1)))/\L'=[G_ b len A n c]) ?_ ?_
 ·refine Cy rfl ?_;replace zg:=Bd.mk g7;exact AXB
 intro G8 L' _ hF;obtain⟨fV,AE6,rfl⟩:=hF;replace zg:=Bd.mk g7;have g8:=AO (Dy fV) AE6;refine k1 _ _ ?_;replace zg:=Bd.mk g8;refine Ec (λhc=>?_) λhc=>?_
 ·refine Db ?_;refine C8 (EP λw hw=>?_);exact⟨by unfold Ho;rw[ATt q1,ATt q2,ATv (AT0 ‹_›)],hw.below⟩
 have q3:=AUD ‹_›;refine Cz (k0 _ _ (Cw λK k0=>Db ?_));refine Ec (λhc=>?_) λhc=>?_
 ·have q4:32<fs.length:=by have:=AT0 ‹_›;omega
  refine Db ?_;refine C8 (EP λw hw=>?_);exact⟨by unfold Ho;rw[ATt q1,ATt q2,ATt q3,ATv q4],hw.below⟩
 have q4:¬32<fs.length:=by have:=AUD ‹_›;omega
 refine Cz (k0 _ _ (Cw λK k0=>Db ?_));refine DC [1,3] λG9 g9=>?_;replace g9:=Dy g9;refine DK ?_;refine Dv (λF' L' => ∃(k:Nat),F' 1=G9 1/\F' 3=ε ζ (k:Int)/\L'=[G_ b len A n c]/\k<=n/\Ff fs=Ff (fs.drop k)) (λF' L'=>40-(intOf (F' 3)).toNat) ?_ ?_
 ·refine⟨0,?_⟩;replace zg:=Bd.mk g9;refine DD ?_;omega
 intro Xo L' hI;obtain⟨k,fV,Tn,rfl,⟨hk,hf⟩⟩:=hI;replace zg:=Bd.mk g9;have g10:=AO (Dy fV) Tn;refine Cw λK k1=>?_;replace zg:=Bd.mk (AO g9 g10);refine Db ?_;refine Ec (λhc=>?_) λhc=>?_
 ·refine Cz ?_;try simp only[Di,Dq]
  have hlt:k<n:=by have:=AT0 ‹_›;omega
  obtain⟨b0,off,rfl,hb0,-⟩:=hE.cells AL;obtain⟨x,hx⟩:=Fg (l:=fs) (i:=k) AL;obtain⟨hkl,hxk⟩:=Ab.1 hx;rw[BV hkl,hxk]at hf;refine k1 _ _ (Cw λK k1=>DK (C9 rfl λK k2=>DD ?_));refine DX (hE.fld hx) ?_;refine DD ?_;intro b4 hb4 h4;refine k2 _ _ (DC [1,3,4] λbQ g11=>?_);replace g11:=Dy g11;refine Cw λK k2=>Cw λK k3=>?_;refine Df (λ_ _=>True) (λF' L'=>EH F' bQ [1,3,4]/\F' 58=θ (decide (x.kind<1\/6<x.kind))/\L'=[LZ b4 x,G_ b len (σ ⟨b0,off,ν⟩) n c]) ?_ ?_
  ·refine Cy rfl ?_;replace zg:=Bd.mk (AO g9 (AO g10 g11));exact AXB
  intro vM L' _ hF;obtain⟨zq,AKM,rfl⟩:=hF;replace zg:=Bd.mk g11;have g12:=AO (Dy zq) AKM;refine k3 _ _ ?_;replace zg:=Bd.mk (AO g9 (AO g10 g12));refine Ec (λhc=>?_) λhc=>?_
  ·have r1:=AT0 ‹_›;have hx8:x.err=8:=by unfold Fd.err;rw[ATv r1]
   exact AU3
  have r1:=AUD ‹_›;refine Cz (k2 _ _ (Cw λK k2=>Cw λK k3=>?_));refine Df (λ_ _=>True) (λF' L'=>EH F' vM [1,3,4]/\F' 76=θ (decide ((x.kind=6/\x.count<1)\/(¬x.kind=6∧¬x.count=0)))/\L'=[LZ b4 x,G_ b len (σ ⟨b0,off,ν⟩) n c]) ?_ ?_
  ·exact AWs
  intro G13 L' _ hF;obtain⟨zq,AKN,rfl⟩:=hF;have g13:=AO (Dy zq) AKN;refine k3 _ _ ?_;replace zg:=Bd.mk (AO g9 (AO g10 g13));refine Ec (λhc=>?_) λhc=>?_
  ·have r2:=AT0 ‹_›;have hx8:x.err=3:=by unfold Fd.err;rw[ATt r1,ATv r2]
   exact AU3
  have r2:=AUD ‹_›;refine Cz (k2 _ _ (Db ?_));refine Ec (λhc=>?_) λhc=>?_
  ·have r3:=AT0 ‹_›;have hx8:x.err=4:=by unfold Fd.err;rw[ATt r1,ATt r2,ATv r3]
   exact AU3
  have r3:=AUD ‹_›;have hx8:x.err=0:=by unfold Fd.err;rw[ATt r1,ATt r2,ATt r3]
  rw[Zh _ AL]at hf;refine Cz (k1 _ _ (DY [1] ?_));refine Cy rfl (DU @DT ?_);refine⟨⟨k+1,?_⟩,?_⟩
  ·exact AWN
  ·exact AXo
 refine Dr (k0 _ _ ?_);obtain rfl:n=k:=by have:=AUD ‹_›;omega
 rw[Br AL]at hf;have hok:=ND hf;have q5:¬ ¬Ff fs=0:=by rw[hf];simp[Ff]
 refine Cw λK k0=>Db ?_;refine Ec (λhc=>?_) λhc=>?_
 ·have hl:0<len:=AT0 ‹_›;obtain rfl:n=1:=by omega
  obtain⟨b0,off,rfl,hb0,-⟩:=hE.cells AL;obtain⟨x,hx⟩:=Fg (l:=fs) (i:=0) AL;have hhd:fs.headD ⟨0,0⟩=x:=by
   cases fs with
   |nil=>simp at hx
   |cons y r=>simpa using hx
  have hxe:=hok x (AU hx);have hxw:=Fd.J2 hxe;have hm:=TU (show 0<=len by omega) (show len<=65536 by omega) (show 0<=x.wid by omega) hxw.2;have hst:Gg len fs=x.wid*len:=by unfold Gg;rw[ATv hl,hhd,ATV]
  rw[ATV]at hm;have hx0:=hE.fld (L:=[G_ b len (σ ⟨b0,off,ν⟩) 1 c]) hx;simp only[ASN,Cg,G_]at hx0;refine C9 rfl λK k1=>DU @ASN ?_;refine DX (hx0) ?_;refine DU @ASN ?_;refine DI (λw hw=>Me x w hxe) ?_;try refine DD ?_
  refine k1 _ _ (Cw λK k1=>KU @DT ?_);refine Ec (λhc=>?_) λhc=>?_
  ·refine Db ?_;refine C8 (EP λw hw=>?_);exact⟨by unfold Ho;rw[ATt q1,ATt q2,ATt q3,ATt q4,ATt q5,ATv (by rw[hst];exact AT0 ‹_›)],hw.below⟩
  refine Cz (k1 _ _ (Db ?_));refine C8 (EP λw hw=>?_);exact⟨by unfold Ho;rw[ATt q1,ATt q2,ATt q3,ATt q4,ATt q5,ATt (by rw[hst];exact AUD ‹_›)],hw.below⟩
 have hl:¬0<len:=AUD ‹_›;obtain rfl:len=0:=by omega
 have hst:Gg 0 fs=PW fs:=by unfold Gg;rw[ATt hl]
 refine Cz (k0 _ _ (C9 rfl λK k0=>DD ?_));refine Ee (λv=>.tuple #[v,ε ζ (PW fs)]) (λ_=>True) (λw hw=>Ur A n c fs w (hE.at hw) AL hok) ?_;intro v _;refine DD (k0 _ _ ?_);refine Cw λK k0=>Db ?_;refine Ec (λhc=>?_) λhc=>?_
 ·refine Db ?_;refine C8 (EP λw hw=>?_);exact⟨by unfold Ho;rw[ATt q1,ATt q2,ATt q3,ATt q4,ATt q5,ATv (by rw[hst];exact AT0 ‹_›)],hw.below⟩
 refine Cz (k0 _ _ (Db ?_));refine C8 (EP λw hw=>?_);exact⟨by unfold Ho;rw[ATt q1,ATt q2,ATt q3,ATt q4,ATt q5,ATt (by rw[hst];exact AUD ‹_›)],hw.below⟩
structure QU where
 len:Int
 A:Option Addr
 n:Nat
 c:Nat
 fs:List Fd
def O8(t:QU):List Value:=[ε ζ t.len,ξ t.A t.n t.c]
theorem Ol t:(O8 t).length=2:=rfl
def Dk(R:List DW):DW:=.dat (DV R) (λw=>(∀r∈R,r.holds w)/\R.Pairwise (λ(r s:DW) => ∀b∈r.foot,b∉s.foot)) (λ_ _ hk h=>⟨λr hr=>r.keep (h.1 r hr) λb hb=>hk b (BM.2 ⟨r,hr,hb⟩),h.2⟩)
section
variable{P:Program}{M:List Nat}{W w:World}{L R:List DW}
theorem Et R L k:look (Dk R::L) k=look L k:=rfl
theorem Eu R L k us:JI (Dk R::L) k us=Dk R::JI L k us:=rfl
theorem FK R L b:Qc (Dk R::L) b=Qc L b:=rfl
theorem FO R L b:UT (Dk R::L) b=UT L b:=rfl
theorem EZ R L W' M':Ht W' M' (Dk R::L)=Ht W' M' L:=rfl
theorem Ea R L k:fresh (Dk R::L) k=fresh L k:=rfl
theorem yw R:(Dk R).foot=DV R:=rfl
theorem St.Dk(h:St M W (R++L) w):St M W (Dk R::L) w:=by
 have hp:=BN.1 h.apart;refine⟨h.ES,?_,?_,Ak.2 ⟨?_,hp.2.1⟩⟩
 ·intro r hr;cases hr with
  |head=>exact⟨λr hr=>h.holds r (AV.2 (.inl hr)),hp.1⟩
  |tail _ hr=>exact h.holds r (AV.2 (.inr hr))
 ·intro r hr b hb;cases hr with
  | head =>
   obtain⟨s,hs,hb⟩:=BM.1 hb;exact h.own s (AV.2 (.inl hs)) b hb
  |tail _ hr=>exact h.own r (AV.2 (.inr hr)) b hb
 ·intro s hs b hb;obtain⟨r,hr,hb⟩:=BM.1 hb;exact hp.2.2 r hr s hs b hb
theorem St.GV(h:St M W (Go.Proofs.YtnkgiaimcpbhkaaGreat.Dk R::L) w):St M W (R++L) w:=by
 have hp:=Ak.1 h.apart;have hh:(∀r∈R,r.holds w)/\R.Pairwise (λ(r s:DW) => ∀b∈r.foot,b∉s.foot):=h.holds _ (.head _);refine⟨h.ES,?_,?_,BN.2 ⟨hh.2,hp.2,λr hr s hs b hb=>hp.1 s hs b (BM.2 ⟨r,hr,hb⟩)⟩⟩
 ·intro r hr;cases AV.1 hr with
  |inl hr=>exact hh.1 r hr
  |inr hr=>exact h.holds r (.tail _ hr)
 ·intro r hr b hb;cases AV.1 hr with
  |inl hr=>exact h.own _ (.head _) b (BM.2 ⟨r,hr,hb⟩)
  |inr hr=>exact h.own r (.tail _ hr) b hb
theorem M6{ι:Sort _}{g args}A G(hp:(A++G).Perm L)(f:ι->Value)(Lf:ι->List DW)(φ:ι->Prop)
  (h:∀w,St (DV G) w G w->Calls P g args w (λe w' => ∃i,e=κ (f i)/\φ i/\St (DV G) w (Lf i) w')) (hst:St (DV L) W L W):
  Calls P g args W (λe w' => ∃i,e=κ (f i)/\φ i/\St (DV L) W (Lf i++A) w'):=by
 refine(Kb (K:=λt v L' => ∃i,v=f i/\φ i/\L'=Lf i++A) A G f Lf φ (λw _ h2=>h w h2) (λi hi=>⟨i,rfl,hi,rfl⟩) W (hst.perm hp)).mono ?_;rintro e w' ⟨v,L',he,hs,i,rfl,hi,rfl⟩;exact⟨i,he,hi,hs⟩
theorem Tu G:DV [Dk G]=DV G:=by unfold DV;rw[BK,ASF,BX];rfl
theorem Es{ι:Sort _}{g args G}{f:ι->Value}{Lf:ι->List DW}{φ:ι->Prop}
  (h:St (DV G) W G W->Calls P g args W (λe w' => ∃i,e=κ (f i)/\φ i/\St (DV G) W (Lf i) w')) (hst:St (DV [Dk G]) W [Dk G] W):
  Calls P g args W (λe w' => ∃i,e=κ (f i)/\φ i/\St (DV [Dk G]) W [Dk (Lf i)] w'):=by
 rw[Tu]at hst ⊢;have h1:=hst.GV;rw[BX]at h1;refine(h h1).mono ?_;rintro e w' ⟨i,he,hi,hs⟩;exact⟨i,he,hi,St.Dk (by rw[BX];exact hs)⟩
theorem tY{B r:DW}{R k}(hk:nth R k=σ r):(R.eraseIdx k++[B,r]).Perm (B::R):=by
 have h1:=FZ hk;exact(BQ (l₁:=R.eraseIdx k) (l₂:=[B,r])).trans (.cons B h1.symm)
theorem Pt{R:List DW}{k}(hk:k<R.length)r':(R.set k r').Perm (r'::R.eraseIdx k):=by
 have h1:nth (R.set k r') k=σ r':=by rw[GY,CY hk]
 have h2:=FZ h1;rwa[List.eraseIdx_set_eq]at h2
end
def Y3(t:QU):DW:=.row (ξ t.A t.n t.c) 258 2 t.n (cl NR t.fs)
structure TL where
 A:Option Addr
 n:Nat
 c:Nat
 l:List Nat
def O4(t:TL):List Value:=[ξ t.A t.n t.c]
theorem I4 t:(O4 t).length=1:=rfl
def FI(t:TL):DW:=.row (ξ t.A t.n t.c) 5 1 t.n (Gf t.l)
structure Dc where
 b:Nat
 y0:Value
 y1:Value
 y2:Value
 y3:Value
 y4:Value
 y5:Value
 y6:Value
 y7:Value
 y8:Value
 TA:Option Addr
 tn:Nat
 tc:Nat
 Lh:List QU
 N:Int
 UA:Option Addr
 un:Nat
 uc:Nat
 us:List Ext
 tb:Ir
 LA:Option Addr
 ln:Nat
 lc:Nat
 l:List Bw
 lim:Qu
 MA:Option Addr
 mn:Nat
 mc:Nat
 mt:List Sh
 cap:Int
 EA:Option Addr
 en:Nat
 ec:Nat
 es:List Gs
 SA:Option Addr
 sn:Nat
 sc:Nat
 ms:List Int
 BA:Option Addr
 bn:Nat
 bc:Nat
 Fw:List TL
 g:Nat
 sv:List Int
def Fj(x:Dc):DW:=.blk x.b 97 [x.y0,x.y1,x.y2,x.y3,x.y4,x.y5,x.y6,x.y7,x.y8,ξ x.TA x.tn x.tc,ε ζ x.N,ξ x.UA x.un x.uc,π (σ ⟨x.tb.tb,0,ν⟩),ξ x.LA x.ln x.lc,ε ζ x.lim.qb,ε ζ x.lim.qo,ε ζ x.lim.qr,ξ x.MA x.mn x.mc,ε ζ x.cap,ξ x.EA x.en x.ec,ξ x.SA x.sn x.sc,ξ x.BA x.bn x.bc,ξ (σ ⟨x.g,0,ν⟩) 65 65]
def Fx(x:Dc):List DW:=[.row (ξ x.TA x.tn x.tc) 216 2 x.tn (x.Lh.flatMap O8),.row (ξ x.UA x.un x.uc) 37 2 x.un (Eb x.us),.row (ξ x.LA x.ln x.lc) 117 4 x.ln (EN x.l),.row (ξ x.MA x.mn x.mc) 292 4 x.mn (FC x.mt),.row (ξ x.EA x.en x.ec) 49 5 x.en (Eh x.es),.row (ξ x.SA x.sn x.sc) 3 1 x.sn (D8 x.ms),.row (ξ x.BA x.bn x.bc) 38 1 x.bn (x.Fw.flatMap O4),.row (ξ (σ ⟨x.g,0,ν⟩) 65 65) 3 1 65 (D8 x.sv),Dk (Mc x.tb),Dk (x.Lh.map Y3),Dk (x.Fw.map FI)]
def Da(x:Dc):List DW:=[Fj x,Dk (Fx x)]
theorem AB_ x:DV (Da x)=DV (Fj x::Fx x):=by
 unfold Da DV;rw[BK,BK,BK,ASF,BX];rfl
section
variable{P:Program}{W:World}
theorem Tv{ι:Sort _}{g args}x k{r}(hk:nth (Fx x) k=σ r)(f:ι->Value)(Lf:ι->List DW)(φ:ι->Prop)(y:ι->Dc)(r':ι->DW)(ex:ι->List DW)
  (hy:∀i,φ i->Lf i=ex i++[Fj (y i),r' i]/\Fx (y i)=(Fx x).set k (r' i))
  (h:∀w,St (DV [Fj x,r]) w [Fj x,r] w->Calls P g args w (λe w' => ∃i,e=κ (f i)/\φ i/\St (DV [Fj x,r]) w (Lf i) w')) (hst:St (DV (Da x)) W (Da x) W):
  Calls P g args W (λe w' => ∃i,e=κ (f i)/\φ i/\St (DV (Da x)) W (ex i++Da (y i)) w'):=by
 rw[AB_]at hst ⊢;have h0:St (DV (Fj x::Fx x)) W (Fj x::Fx x) W:=by
  have h1:St (DV (Fj x::Fx x)) W (Dk (Fx x)::[Fj x]) W:=hst.perm (CL _ _ _);exact h1.GV.perm (BQ (l₁:=[Fj x]))
 refine(M6 ((Fx x).eraseIdx k) [Fj x,r] (tY hk) f Lf φ h h0).mono ?_;rintro e w' ⟨i,he,hi,hs⟩;obtain⟨h1,h2⟩:=hy i hi;refine⟨i,he,hi,?_⟩;rw[h1]at hs;have hlt:k<(Fx x).length:=by rw[GY]at hk;exact(Ab.1 hk).1
 have h3:St (DV (Fj x::Fx x)) W (Fx (y i)++([Fj (y i)]++ex i)) w':=hs.perm (by
  rw[h2];have p1:((Fx x).set k (r' i)++([Fj (y i)]++ex i)).Perm ((r' i::(Fx x).eraseIdx k)++([Fj (y i)]++ex i)):=(Pt hlt (r' i)).append_right _;refine p1.trans ?_;rw[Bh];refine BQ.trans ?_;rw[Bh];refine(CS _ _ _).trans ?_;exact CF _)
 refine h3.Dk.perm ?_;unfold Da;exact BQ.trans (CL _ _ _)
theorem J8{ι:Sort _}{g args}x k{r}(hk:nth (Fx x) k=σ r)(f:ι->Value)(Lf:ι->List DW)(φ:ι->Prop)(y:ι->Dc)(r':ι->DW)
  (hy:∀i,φ i->Lf i=[Fj (y i),r' i]/\Fx (y i)=(Fx x).set k (r' i))
  (h:∀w,St (DV [Fj x,r]) w [Fj x,r] w->Calls P g args w (λe w' => ∃i,e=κ (f i)/\φ i/\St (DV [Fj x,r]) w (Lf i) w')) (hst:St (DV (Da x)) W (Da x) W):
  Calls P g args W (λe w' => ∃i,e=κ (f i)/\φ i/\St (DV (Da x)) W (Da (y i)) w') :=
 Tv x k hk f Lf φ y r' (λ_=>[]) hy h hst
theorem QV{ι:Sort _}{g args}x k{r}(hk:nth (Fx x) k=σ r)(f:ι->Value)(Lf:ι->List DW)(φ:ι->Prop)(y:ι->Dc)(r':ι->DW)
  (hy:∀i,φ i->Lf i=[r' i]/\Fj (y i)=Fj x/\Fx (y i)=(Fx x).set k (r' i))
  (h:∀w,St (DV [r]) w [r] w->Calls P g args w (λe w' => ∃i,e=κ (f i)/\φ i/\St (DV [r]) w (Lf i) w')) (hst:St (DV (Da x)) W (Da x) W):
  Calls P g args W (λe w' => ∃i,e=κ (f i)/\φ i/\St (DV (Da x)) W (Da (y i)) w'):=by
 refine J8 x k hk f (λi=>[Fj (y i),r' i]) φ y r' (λi hi=>⟨rfl,(hy i hi).2.2⟩) (λw hw=>?_) hst;refine(M6 (L:=[Fj x,r]) [Fj x] [r] (CF _) f Lf φ h hw).mono ?_;rintro e w' ⟨i,he,hi,hs⟩;obtain⟨h1,h2,h3⟩:=hy i hi;rw[h1]at hs;exact⟨i,he,hi,by rw[h2];exact hs.perm (CL _ _ _)⟩
end
section
variable{P:Program}{W:World}
theorem lW{ι:Sort _}{g args G}{f:ι->Value}{Lf ex:ι->List DW}{φ:ι->Prop}
  (h:St (DV G) W G W->Calls P g args W (λe w' => ∃i,e=κ (f i)/\φ i/\St (DV G) W (ex i++Lf i) w')) (hst:St (DV [Dk G]) W [Dk G] W):
  Calls P g args W (λe w' => ∃i,e=κ (f i)/\φ i/\St (DV [Dk G]) W (ex i++[Dk (Lf i)]) w'):=by
 rw[Tu]at hst ⊢;have h1:=hst.GV;rw[BX]at h1;refine(h h1).mono ?_;rintro e w' ⟨i,he,hi,hs⟩;exact⟨i,he,hi,(St.Dk (hs.perm BQ)).perm BQ⟩
theorem lX{ι:Sort _}{g args}x k{r}(hk:nth (Fx x) k=σ r)(f:ι->Value)(Lf:ι->List DW)(φ:ι->Prop)(y:ι->Dc)(r':ι->DW)(ex:ι->List DW)
  (hy:∀i,φ i->Lf i=ex i++[r' i]/\Fj (y i)=Fj x/\Fx (y i)=(Fx x).set k (r' i))
  (h:∀w,St (DV [r]) w [r] w->Calls P g args w (λe w' => ∃i,e=κ (f i)/\φ i/\St (DV [r]) w (Lf i) w')) (hst:St (DV (Da x)) W (Da x) W):
  Calls P g args W (λe w' => ∃i,e=κ (f i)/\φ i/\St (DV (Da x)) W (ex i++Da (y i)) w'):=by
 refine Tv x k hk f (λi=>ex i++[Fj (y i),r' i]) φ y r' ex (λi hi=>⟨rfl,(hy i hi).2.2⟩) (λw hw=>?_) hst;refine(M6 (L:=[Fj x,r]) [Fj x] [r] (CF _) f Lf φ h hw).mono ?_;rintro e w' ⟨i,he,hi,hs⟩;obtain⟨h1,h2,h3⟩:=hy i hi;rw[h1,Bh]at hs;exact⟨i,he,hi,by rw[h2];exact hs.perm ((CL _ _ _).append_left _)⟩
end
def hpC(x:Dc):HpC:=⟨x.y0,x.y1,x.y2,x.y3,x.y4,x.y5,x.y6,x.y7,x.y8,ξ x.TA x.tn x.tc,ε ζ x.N,ξ x.UA x.un x.uc,π (σ ⟨x.tb.tb,0,ν⟩),ξ x.LA x.ln x.lc,ε ζ x.lim.qb,ε ζ x.lim.qo,ε ζ x.lim.qr,ξ x.MA x.mn x.mc,ε ζ x.cap,ξ x.EA x.en x.ec,ξ x.SA x.sn x.sc,ξ x.BA x.bn x.bc,ξ (σ ⟨x.g,0,ν⟩) 65 65⟩
def Dc.Hg(x:Dc)(y:M4):Dc := { x with LA:=y.A,ln:=y.n,lc:=y.c,l:=y.l }
def Dc.E_(x:Dc)(y:Pp):Dc := { x with MA:=y.A,mn:=y.n,mc:=y.c,mt:=y.l }
def Dc.NI(x:Dc)(y:vP):Dc := { x with EA:=y.A,en:=y.n,ec:=y.c,es:=y.es }
def Dc.Mf(x:Dc)(y:Si):Dc := { x with UA:=y.UA,un:=y.un,uc:=y.uc,us:=y.us }
def Dc.Kh(x:Dc)(y:Ir):Dc := { x with tb:=y }
def pG(y:M4):DW:=.row (ξ y.A y.n y.c) 117 4 y.n (EN y.l)
theorem YF x{b}(hb:x.b=b)ho(hl:x.l.length<=100000)W(hst:St (DV (Da x)) W (Da x) W):
  Calls AGm 140 #[π (σ ⟨b,13,ν⟩),ε ζ ho] W
  λen w' => ∃y:M4,en=κ (ε ζ (IX x.l ho:Int))/\y.l=(x.l.filter λb => !decide (b.ho=ho))/\St (DV (Da x)) W (Da (x.Hg y)) w' :=
 hb▸J8 x 2 rfl _ _ _ (λy=>x.Hg y) pG (λi hi=>⟨rfl,rfl⟩) (λw hw=>Wj x.b x.y0 x.y1 x.y2 x.y3 x.y4 x.y5 x.y6 x.y7 x.y8 (ξ x.TA x.tn x.tc) (ε ζ x.N) (ξ x.UA x.un x.uc) (π (σ ⟨x.tb.tb,0,ν⟩)) (ε ζ x.lim.qb) (ε ζ x.lim.qo) (ε ζ x.lim.qr) (ξ x.MA x.mn x.mc) (ε ζ x.cap) (ξ x.EA x.en x.ec) (ξ x.SA x.sn x.sc) (ξ x.BA x.bn x.bc) (ξ (σ ⟨x.g,0,ν⟩) 65 65) ⟨x.LA,x.ln,x.lc,x.l⟩ ho hl w hw) hst
theorem YG x{b}(hb:x.b=b)ob(hl:x.l.length<=100000)W(hst:St (DV (Da x)) W (Da x) W):
  Calls AGm 185 #[π (σ ⟨b,13,ν⟩),ε ζ ob] W
  λen w' => ∃i:(Option Addr×Nat×Nat)×M4,en=κ (fP i)/\i.2.l=(x.l.filter λb => !decide (b.ob=ob))/\St (DV (Da x)) W (.row (ξ i.1.1 i.1.2.1 i.1.2.2) 117 4 i.1.2.1 (EN (NT x.l ob))::Da (x.Hg i.2)) w' :=
 hb▸Tv x 2 rfl _ _ _ (λi:(Option Addr×Nat×Nat)×M4=>x.Hg i.2) (λi:(Option Addr×Nat×Nat)×M4=>pG i.2) (λi:(Option Addr×Nat×Nat)×M4=>[.row (ξ i.1.1 i.1.2.1 i.1.2.2) 117 4 i.1.2.1 (EN (NT x.l ob))]) (λi hi=>⟨rfl,rfl⟩) (λw hw=>Wl x.b x.y0 x.y1 x.y2 x.y3 x.y4 x.y5 x.y6 x.y7 x.y8 (ξ x.TA x.tn x.tc) (ε ζ x.N) (ξ x.UA x.un x.uc) (π (σ ⟨x.tb.tb,0,ν⟩)) (ε ζ x.lim.qb) (ε ζ x.lim.qo) (ε ζ x.lim.qr) (ξ x.MA x.mn x.mc) (ε ζ x.cap) (ξ x.EA x.en x.ec) (ξ x.SA x.sn x.sc) (ξ x.BA x.bn x.bc) (ξ (σ ⟨x.g,0,ν⟩) 65 65) ⟨x.LA,x.ln,x.lc,x.l⟩ ob hl w hw) hst
theorem g_ x{b}(hb:x.b=b)ob ho(hl:x.l.length<=100000)(hc:∀e∈x.l,0<=e.co/\e.co<=4611686018427387904)W(hst:St (DV (Da x)) W (Da x) W):
  Calls AGm 230 #[π (σ ⟨b,13,ν⟩),ε ζ ob,ε ζ ho] W
  λen w' => ∃i:Int×M4,en=κ (lgV i)/\(Qq x.l ob ho i.1 i.2.l/\(¬i.1=0->i.2.l=x.l))/\St (DV (Da x)) W (Da (x.Hg i.2)) w' :=
 hb▸J8 x 2 rfl _ _ _ (λi:Int×M4=>x.Hg i.2) (λi:Int×M4=>pG i.2) (λi hi=>⟨rfl,rfl⟩) (λw hw=>aC x.b x.y0 x.y1 x.y2 x.y3 x.y4 x.y5 x.y6 x.y7 x.y8 (ξ x.TA x.tn x.tc) (ε ζ x.N) (ξ x.UA x.un x.uc) (π (σ ⟨x.tb.tb,0,ν⟩)) (ε ζ x.lim.qb) (ε ζ x.lim.qo) (ε ζ x.lim.qr) (ξ x.MA x.mn x.mc) (ε ζ x.cap) (ξ x.EA x.en x.ec) (ξ x.SA x.sn x.sc) (ξ x.BA x.bn x.bc) (ξ (σ ⟨x.g,0,ν⟩) 65 65) ⟨x.LA,x.ln,x.lc,x.l⟩ ob ho hl hc w hw) hst
theorem yx x{b}(hb:x.b=b)ob ho mo(hmo:mo=1\/mo=2)(hl:x.l.length<=100000)(hc:∀e∈x.l,0<=e.co/\e.co<=4611686018427387904)W(hst:St (DV (Da x)) W (Da x) W):
  Calls AGm 229 #[π (σ ⟨b,13,ν⟩),ε ζ ob,ε ζ ho,ε ζ mo] W
  λen w' => ∃i:Int×M4,en=κ (lgV i)/\(Oa x.l ob ho mo i.1 i.2.l/\(¬i.1=0->i.2.l=x.l))/\St (DV (Da x)) W (Da (x.Hg i.2)) w' :=
 hb▸J8 x 2 rfl _ _ _ (λi:Int×M4=>x.Hg i.2) (λi:Int×M4=>pG i.2) (λi hi=>⟨rfl,rfl⟩) (λw hw=>si x.b x.y0 x.y1 x.y2 x.y3 x.y4 x.y5 x.y6 x.y7 x.y8 (ξ x.TA x.tn x.tc) (ε ζ x.N) (ξ x.UA x.un x.uc) (π (σ ⟨x.tb.tb,0,ν⟩)) (ε ζ x.lim.qb) (ε ζ x.lim.qo) (ε ζ x.lim.qr) (ξ x.MA x.mn x.mc) (ε ζ x.cap) (ξ x.EA x.en x.ec) (ξ x.SA x.sn x.sc) (ξ x.BA x.bn x.bc) (ξ (σ ⟨x.g,0,ν⟩) 65 65) ⟨x.LA,x.ln,x.lc,x.l⟩ ob ho mo hmo hl hc w hw) hst
theorem aM x{b}(hb:x.b=b)p q(hl:x.mt.length<=90000)(hlim:x.lim.lim)(hq:q.ok)(hok:∀s∈x.mt,s.q.ok)W(hst:St (DV (Da x)) W (Da x) W):
  Calls AGm 222 #[π (σ ⟨b,14,ν⟩),ε ζ p,VB q] W
  λen w' => ∃i:Pp,en=κ (Nu i)/\(i.r,i.l)=Mt x.lim x.mt p q/\St (DV (Da x)) W (Da (x.E_ i)) w' :=
 hb▸J8 x 3 rfl _ _ _ (λi:Pp=>x.E_ i) (λi:Pp=>.row (ξ i.A i.n i.c) 292 4 i.n (FC i.l)) (λi hi=>⟨rfl,rfl⟩) (λw hw=>yF x.b (hpC x) x.lim x.MA x.mn x.mc x.mt p q ⟨rfl,rfl,rfl,rfl⟩ hl hlim hq hok w hw) hst
theorem Sj x{b}(hb:x.b=b)p q(hl:x.mt.length<=90000)(hq:q.ok)(hok:∀s∈x.mt,s.q.ok)W(hst:St (DV (Da x)) W (Da x) W):
  Calls AGm 139 #[π (σ ⟨b,14,ν⟩),ε ζ p,VB q] W
  λen w' => ∃i:Pp,en=κ (Nu i)/\(i.r,i.l)=KI x.mt p q/\St (DV (Da x)) W (Da (x.E_ i)) w' :=
 hb▸J8 x 3 rfl _ _ _ (λi:Pp=>x.E_ i) (λi:Pp=>.row (ξ i.A i.n i.c) 292 4 i.n (FC i.l)) (λi hi=>⟨rfl,rfl⟩) (λw hw=>yG x.b (hpC x) x.lim x.MA x.mn x.mc x.mt p q ⟨rfl,rfl,rfl,rfl⟩ hl hq hok w hw) hst
theorem RG x{b}(hb:x.b=b)e(hl:x.es.length<=90000)W(hst:St (DV (Da x)) W (Da x) W):
  Calls AGm 137 #[π (σ ⟨b,18,ν⟩),U6 e] W
  λen w' => ∃i:vP,en=κ (Z_ i)/\(i.r,i.es)=Q9 x.cap x.es e/\St (DV (Da x)) W (Da (x.NI i)) w' :=
 hb▸J8 x 4 rfl _ _ _ (λi:vP=>x.NI i) (λi:vP=>.row (ξ i.A i.n i.c) 49 5 i.n (Eh i.es)) (λi hi=>⟨rfl,rfl⟩) (λw hw=>gK x.b (hpC x) x.cap x.EA x.en x.ec x.es e rfl rfl hl w hw) hst
theorem lY x{b}(hb:x.b=b)n fr tk(hI:Ex.Inv x.N x.us fr tk)(hl:x.us.length<=90)W(hst:St (DV (Da x)) W (Da x) W):
  Calls AGm 220 #[π (σ ⟨b,10,ν⟩),ε ζ n] W
  λen w' => ∃z:Si,en=κ (.tuple #[su (Ex.findF fr n).1,ε ζ (Ex.findF fr n).2])/\(z.bM=x.b/\z.N=x.N/\z.us=(if (Ex.findF fr n).2=0 then x.us++[(Ex.findF fr n).1] else x.us))/\St (DV (Da x)) W (Da (x.Mf z)) w' :=
 hb▸J8 x 1 rfl _ _ _ (λz=>x.Mf z) (λz=>.row (ξ z.UA z.un z.uc) 37 2 z.un (Eb z.us)) (λz hz=>by obtain⟨h1,h2,-⟩:=hz;refine⟨?_,rfl⟩;unfold jq;rw[h1,h2];rfl) (λw hw=>gu x.y0 x.y1 x.y2 x.y3 x.y4 x.y5 x.y6 x.y7 x.y8 (ξ x.TA x.tn x.tc) (π (σ ⟨x.tb.tb,0,ν⟩)) (ξ x.LA x.ln x.lc) (ε ζ x.lim.qb) (ε ζ x.lim.qo) (ε ζ x.lim.qr) (ξ x.MA x.mn x.mc) (ε ζ x.cap) (ξ x.EA x.en x.ec) (ξ x.SA x.sn x.sc) (ξ x.BA x.bn x.bc) (ξ (σ ⟨x.g,0,ν⟩) 65 65) ⟨x.b,x.N,x.UA,x.un,x.uc,x.us⟩ n fr tk w hw hI hl) hst
theorem tZ x{b}(hb:x.b=b)e(hl:x.us.length<=90)W(hst:St (DV (Da x)) W (Da x) W):
  Calls AGm 186 #[π (σ ⟨b,10,ν⟩),su e] W
  λen w' => ∃z:Si,en=κ (ε ζ (if e∈x.us then 0 else 6))/\(z.bM=x.b/\z.N=x.N/\z.us=(x.us.filter λy=>decide (y≠e)))/\St (DV (Da x)) W (Da (x.Mf z)) w' :=
 hb▸J8 x 1 rfl _ _ _ (λz=>x.Mf z) (λz=>.row (ξ z.UA z.un z.uc) 37 2 z.un (Eb z.us)) (λz hz=>by obtain⟨h1,h2,-⟩:=hz;refine⟨?_,rfl⟩;unfold jq;rw[h1,h2];rfl) (λw hw=>lV x.y0 x.y1 x.y2 x.y3 x.y4 x.y5 x.y6 x.y7 x.y8 (ξ x.TA x.tn x.tc) (π (σ ⟨x.tb.tb,0,ν⟩)) (ξ x.LA x.ln x.lc) (ε ζ x.lim.qb) (ε ζ x.lim.qo) (ε ζ x.lim.qr) (ξ x.MA x.mn x.mc) (ε ζ x.cap) (ξ x.EA x.en x.ec) (ξ x.SA x.sn x.sc) (ξ x.BA x.bn x.bc) (ξ (σ ⟨x.g,0,ν⟩) 65 65) ⟨x.b,x.N,x.UA,x.un,x.uc,x.us⟩ e w hw hl) hst
theorem Sk x y(h:y.tb=x.tb.tb):Fj (x.Kh y)=Fj x:=by unfold Fj Dc.Kh;dsimp only;rw[h]
theorem Us x(h:Nat)(hh:h<18446744073709551616)(hN:x.tb.s.gen.length=x.tb.s.Fh.length)W(hst:St (DV (Da x)) W (Da x) W):
  Calls AGm 213 #[π (σ ⟨x.tb.tb,0,ν⟩),ε υ (h:Int)] W
  λen w' => ∃i:Unit,en=κ (Pm x.tb h)/\True/\St (DV (Da x)) W (Da x) w' :=
 QV x 8 rfl _ _ _ (λ_=>x) (λ_=>Dk (Mc x.tb)) (λi hi=>⟨rfl,rfl,rfl⟩) (λw hw=>Es (λhw=>Oe x.tb h hh hN w hw) hw) hst
theorem yz x(h:Nat)(hh:h<18446744073709551616)k(hi:QR x.tb k)W(hst:St (DV (Da x)) W (Da x) W):
  Calls AGm 187 #[π (σ ⟨x.tb.tb,0,ν⟩),ε υ (h:Int)] W
  λen w' => ∃y:Ir,en=κ (ε ζ (GU x.tb h))/\gD x.tb y h/\St (DV (Da x)) W (Da (x.Kh y)) w' :=
 QV x 8 rfl _ _ _ (λy=>x.Kh y) (λy=>Dk (Mc y)) (λi hi=>⟨rfl,Sk x i hi.k.tb,rfl⟩) (λw hw=>Es (λhw=>AER x.tb h hh k hi w hw) hw) hst
theorem y9 x(h:Nat)ow(hh:h<18446744073709551616)k(hi:QR x.tb k)W(hst:St (DV (Da x)) W (Da x) W):
  Calls AGm 227 #[π (σ ⟨x.tb.tb,0,ν⟩),ε υ (h:Int),ε ζ ow] W
  λen w' => ∃y:Ir,en=κ (ε ζ (Pn x.tb h ow))/\gF x.tb y h ow/\St (DV (Da x)) W (Da (x.Kh y)) w' :=
 QV x 8 rfl _ _ _ (λy=>x.Kh y) (λy=>Dk (Mc y)) (λi hi=>⟨rfl,Sk x i hi.k.tb,rfl⟩) (λw hw=>Es (λhw=>AES x.tb h ow hh k hi w hw) hw) hst
theorem tq x ow tag off len(d:Nat)(hd:d<18446744073709551616)k(hi:QR x.tb k)W(hst:St (DV (Da x)) W (Da x) W):
  Calls AGm 221 #[π (σ ⟨x.tb.tb,0,ν⟩),ε ζ ow,ε ζ tag,.agg #[ε ζ off,ε ζ len],ε υ (d:Int)] W
  λen w' => ∃i:X9,en=κ (oq i)/\AHJ x.tb ow tag off len d i/\St (DV (Da x)) W (Da (x.Kh i.y)) w' :=
 QV x 8 rfl _ _ _ (λi:X9=>x.Kh i.y) (λi:X9=>Dk (Mc i.y)) (λi hi=>⟨rfl,Sk x i.y hi.k.tb,rfl⟩) (λw hw=>Es (λhw=>lI x.tb ow tag off len d hd k hi w hw) hw) hst
theorem pI x k(hi:QR x.tb k)W(hst:St (DV (Da x)) W (Da x) W):
  Calls AGm 63 #[π (σ ⟨x.tb.tb,0,ν⟩)] W
  λen w' => ∃i:lJ,en=κ (lK i)/\i.n=(KH x.tb x.tb.en).length/\St (DV (Da x)) W (.row (ξ i.A i.n i.c) 182 5 i.n (FJ (KH x.tb x.tb.en))::Da x) w' :=
 lX x 8 rfl _ _ _ (λ_:lJ=>x) (λ_:lJ=>Dk (Mc x.tb)) (λi:lJ=>[.row (ξ i.A i.n i.c) 182 5 i.n (FJ (KH x.tb x.tb.en))]) (λi hi=>⟨rfl,rfl,rfl⟩) (λw hw=>lW (ex:=λi:lJ=>[.row (ξ i.A i.n i.c) 182 5 i.n (FJ (KH x.tb x.tb.en))]) (Lf:=λ_=>Mc x.tb) (λhw=>yC x.tb k hi w hw) hw) hst
section
variable{M:List Nat}{W w:World}{L R:List DW}{K:DW}
theorem St.swp{a b}(h:St M W (a::b::L) w):St M W (b::a::L) w:=h.perm (CL _ _ _)
theorem St.IG{k r}(hk:nth R k=σ r)(h:St M W (K::Go.Proofs.YtnkgiaimcpbhkaaGreat.Dk R::L) w):St M W (K::r::Go.Proofs.YtnkgiaimcpbhkaaGreat.Dk (R.eraseIdx k)::L) w:=by
 have h2:St M W (R.eraseIdx k++(K::r::L)) w:=h.swp.GV.perm (((CL r K L).append_left (R.eraseIdx k)).trans (CG.trans ((FZ hk).symm.append_right (K::L))));exact h2.Dk.perm (CG (l₁:=[K,r]))
theorem St.IL{k}r'(hk:k<R.length)(h:St M W (K::r'::Go.Proofs.YtnkgiaimcpbhkaaGreat.Dk (R.eraseIdx k)::L) w):St M W (K::Go.Proofs.YtnkgiaimcpbhkaaGreat.Dk (R.set k r')::L) w:=by
 have h1:St M W (Go.Proofs.YtnkgiaimcpbhkaaGreat.Dk (R.eraseIdx k)::K::r'::L) w:=h.perm (CG (l₁:=[K,r'])).symm;have h2:St M W (R.set k r'++(K::L)) w:=h1.GV.perm (((Pt hk r').append_right (K::L)).trans (CG.symm.trans ((CL K r' L).append_left (R.eraseIdx k))));exact h2.Dk.swp
theorem Dc.lgw{x}(h:St M W (Fj x::Go.Proofs.YtnkgiaimcpbhkaaGreat.Dk (Fx x)::L) w)(hl:x.l.length<=100000):TK w w.heap.size x.b 13 x.LA x.ln x.lc x.l:=TK.yH (h.IG (k:=2) rfl) 0 1 rfl rfl hl
theorem Dc.mtw{x}(h:St M W (Fj x::Go.Proofs.YtnkgiaimcpbhkaaGreat.Dk (Fx x)::L) w)(hl:x.mt.length<=100000):oZ w w.heap.size x.b 14 x.lim x.MA x.mn x.mc x.mt:=oZ.of (h.IG (k:=3) rfl) 0 1 14 rfl rfl rfl hl
theorem Dc.evw{x}(h:St M W (Fj x::Go.Proofs.YtnkgiaimcpbhkaaGreat.Dk (Fx x)::L) w)(hl:x.es.length<=100000):Ti w w.heap.size x.b 18 x.cap (ξ x.SA x.sn x.sc) x.EA x.en x.ec x.es:=Ti.of (h.IG (k:=4) rfl) 0 1 18 rfl rfl rfl hl
theorem Dc.svl{x}(h:St M W (Fj x::Go.Proofs.YtnkgiaimcpbhkaaGreat.Dk (Fx x)::L) w):x.sv.length=65:=by
 have:=(Sl.EJ (h.IG (k:=7) rfl) (DN (k:=1) rfl)).len;rw[EY]at this;omega
theorem Dc.byl{x}(h:St M W (Fj x::Go.Proofs.YtnkgiaimcpbhkaaGreat.Dk (Fx x)::L) w):x.Fw.length=x.bn:=by
 have:=(Sl.EJ (h.IG (k:=6) rfl) (DN (k:=1) rfl)).len;rw[GN I4]at this;omega
theorem Dc.tyl{x}(h:St M W (Fj x::Go.Proofs.YtnkgiaimcpbhkaaGreat.Dk (Fx x)::L) w):x.Lh.length=x.tn:=by
 have:=(Sl.EJ (h.IG (k:=0) rfl) (DN (k:=1) rfl)).len;rw[GN Ol]at this;omega
theorem Dp{x b}(h:x.b=b):Fj x=.blk b 97 [x.y0,x.y1,x.y2,x.y3,x.y4,x.y5,x.y6,x.y7,x.y8,ξ x.TA x.tn x.tc,ε ζ x.N,ξ x.UA x.un x.uc,π (σ ⟨x.tb.tb,0,ν⟩),ξ x.LA x.ln x.lc,ε ζ x.lim.qb,ε ζ x.lim.qo,ε ζ x.lim.qr,ξ x.MA x.mn x.mc,ε ζ x.cap,ξ x.EA x.en x.ec,ξ x.SA x.sn x.sc,ξ x.BA x.bn x.bc,ξ (σ ⟨x.g,0,ν⟩) 65 65]:=by subst h;rfl
end
def IZ:=AO (AO (AO @Ac (AO @DT @KM)) (AO (AO @cM @Ey) (AO @Ez @E5))) (AO (AO (AO @E8 @E9) (AO @Et @Eu)) (AO (AO @FK @FO) (AO @EZ @Ea)))
def Fy(sv:List Int)(p:Int):Bool:=decide (1<=p)&&(decide (p<=64)&&decide ((sv[p.toNat]?).getD 0=1))
theorem MM x{b}(hb:x.b=b)p W(hst:St (DV (Da x)) W (Da x) W):
  Calls AGm 138 #[π (σ ⟨b,0,ν⟩),ε ζ p] W
  λen w' => ∃i:Unit,en=κ (θ (Fy x.sv p))/\True/\St (DV (Da x)) W (Da x) w':=by
 subst hb;have hl:=Dc.svl hst;obtain⟨M,hM⟩:∃M,DV (Da x)=M:=⟨_,rfl⟩;rw[hM]at hst ⊢;clear hM;have hst:=hst.IG (k:=7) rfl;have hU:∀ {w:World},St M W [Fj x,.row (ξ (σ ⟨x.g,0,ν⟩) 65 65) 3 1 65 (D8 x.sv),Dk ((Fx x).eraseIdx 7)] w->St M W (Da x) w:=λh=>h.IL (k:=7) _ AWQ;unfold Fj at hst;refine DL (M:=M) Tryz.func138 [.tmp 4]  hst ?_;have zs:=Bd.mk IZ;refine EL 1 rfl AL λgN_ F7 y_ hN=>?_;cases F7;clear y_;replace hN:=AAM hN;refine DZ ?_;by_cases h1:1<=p
 case neg =>
  have d1:¬(p≥1):=h1;have ha:Fy x.sv p=ο:=by unfold Fy;rw[AUC h1];rfl
  refine Mo d1 ?_;refine C8 (Eg λw hw=>?_);exact⟨(),by rw[ha],trivial,hU hw⟩
 have d1:p≥1:=h1;by_cases h2:p<=64
 case neg =>
  have ha:Fy x.sv p=ο:=by unfold Fy;rw[AUC h2,ASH,ASU]
  refine Mo (AO d1 h2) ?_;refine C8 (Eg λw hw=>?_);exact⟨(),by rw[ha],trivial,hU hw⟩
 obtain⟨n,rfl⟩:∃n:Nat,p=(n:Int):=⟨p.toNat,by omega⟩;obtain⟨v,hv⟩:∃v,x.sv[n]?=σ v:=⟨_,AQ AL⟩;have ha:Fy x.sv n=decide (v=1):=by unfold Fy;rw[AUB h1,AUB h2,Bo,hv];rfl
 have dd1:decide ((n:Int)≥1)=τ:=AUB d1;have dd2:decide ((n:Int)<=64)=τ:=AUB h2;refine C9 rfl λK k0=>Ed (AO dd1 dd2) ?_;refine DX (Dx (m:=1) (i:=n) (v:=ε ζ v) (DN (k:=1) rfl) rfl (GG hv)) ?_;refine DR (k0 _ _ ?_);refine C8 (Eg λw hw=>?_);exact⟨(),by rw[ha],trivial,hU hw⟩
def Dc.Sm(x:Dc)(sv:List Int):Dc := { x with sv:=sv }
def lZ(x:Dc)(p:Int):Int:=if p<1\/64<p then 15 else if ¬(x.sv[p.toNat]?).getD 0=0 then 28 else 0
structure AFF(x y:Dc)(p:Int):Prop where
 r:if lZ x p=0 then ∃i:vP,y=(x.Sm (x.sv.set p.toNat 1)).NI i/\(i.r,i.es)=Q9 x.cap x.es ⟨p,32,0,0,0⟩ else y=x
theorem tu x{b}(hb:x.b=b)p(hE:x.es.length<=90000)W(hst:St (DV (Da x)) W (Da x) W):
  Calls AGm 95 #[π (σ ⟨b,0,ν⟩),ε ζ p] W
  λen w' => ∃y:Dc,en=κ (ε ζ (lZ x p))/\AFF x y p/\St (DV (Da x)) W (Da y) w':=by
 subst hb;have hl:=Dc.svl hst;obtain⟨M,hM⟩:∃M,DV (Da x)=M:=⟨_,rfl⟩;rw[hM]at hst ⊢;clear hM;have hst:=hst.IG (k:=7) rfl;have hU:∀ {w:World} {sv:List Int},St M W [Fj x,.row (ξ (σ ⟨x.g,0,ν⟩) 65 65) 3 1 65 (D8 sv),Dk ((Fx x).eraseIdx 7)] w->St M W (Da (x.Sm sv)) w:=λh=>h.IL (k:=7) _ AWQ;have hU0:∀ {w:World},St M W [Fj x,.row (ξ (σ ⟨x.g,0,ν⟩) 65 65) 3 1 65 (D8 x.sv),Dk ((Fx x).eraseIdx 7)] w->St M W (Da x) w:=λh=>h.IL (k:=7) _ AWQ;unfold Fj at hst;refine DL (M:=M) Tryz.func95 [.tmp 4]  hst ?_;have zs:=Bd.mk IZ;refine EL 1 rfl AL λgN_ F7 y_ hN=>?_;cases F7;clear y_;replace hN:=AAM hN;refine DZ ?_;refine DC [0,1] λG1 g1=>?_;replace g1:=EK g1;refine Cw λK k0=>Cw λK k1=>?_;refine Df (λ_ _=>True) (λF' L'=>EH F' G1 [0,1]/\F' 10=θ (decide (p<1\/64<p))/\L'=[.blk x.b 97 [x.y0,x.y1,x.y2,x.y3,x.y4,x.y5,x.y6,x.y7,x.y8,ξ x.TA x.tn x.tc,ε ζ x.N,ξ x.UA x.un x.uc,π (σ ⟨x.tb.tb,0,ν⟩),ξ x.LA x.ln x.lc,ε ζ x.lim.qb,ε ζ x.lim.qo,ε ζ x.lim.qr,ξ x.MA x.mn x.mc,ε ζ x.cap,ξ x.EA x.en x.ec,ξ x.SA x.sn x.sc,ξ x.BA x.bn x.bc,ξ (σ ⟨x.g,0,ν⟩) 65 65],.row (ξ (σ ⟨x.g,0,ν⟩) 65 65) 3 1 65 (D8 x.sv),Dk ((Fx x).eraseIdx 7)]) ?_ ?_
 ·exact AWr
 intro G2 L' _ hF;obtain⟨zq,W9,rfl⟩:=hF;have zg:=Bd.mk g1;have g2:=AO (Dy zq) W9;refine k1 _ _ ?_;replace zg:=Bd.mk g2;refine Ec (λhc=>?_) λhc=>?_
 ·have hc':=AT0 hc;have hs:lZ x p=15:=by unfold lZ;rw[ATv hc']
  refine Db ?_;refine C8 (EP λw hw=>?_);exact⟨x,by rw[hs],⟨by rw[hs];rfl⟩,hU0 hw⟩
 have hc':=AUD hc;refine Cz (k0 _ _ ?_);obtain⟨n,rfl⟩:∃n:Nat,p=(n:Int):=⟨p.toNat,by omega⟩;obtain⟨v,hv⟩:∃v,x.sv[n]?=σ v:=⟨_,AQ AL⟩;refine Cw λK k0=>C9 rfl λK k1=>DD ?_;refine DX (Dx (m:=1) (i:=n) (v:=ε ζ v) (DN (k:=1) rfl) rfl (GG hv)) ?_;refine DD (k1 _ _ ?_);refine C_ ?_;by_cases h0:v=0
 case neg =>
  have hs:lZ x n=28:=by unfold lZ;rw[ATt hc',Bo,hv];exact ATv h0
  refine DU h0 ?_;refine Db ?_;refine C8 (EP λw hw=>?_);exact⟨x,by rw[hs],⟨by rw[hs];rfl⟩,hU0 hw⟩
 have hs:lZ x n=0:=by unfold lZ;rw[ATt hc',Bo,hv];exact ATt (λhn=>hn h0)
 have d0:decide (v=0)=τ:=AUB h0;refine DU d0 ?_;refine Cz (k0 _ _ ?_);have hset:(D8 x.sv).set n (ε ζ 1)=D8 (x.sv.set n 1):=Ma _ _ _;refine C9 rfl λK k0=>DD ?_;refine DX (JB 1 (i:=n) (v:=ε ζ 1) rfl AWk AF rfl rfl) ?_;refine DU hset (k0 _ _ ?_);refine Eo (Da (x.Sm (x.sv.set n 1))) (λw hw=>hU hw) ?_;unfold Da Fj;refine C9 rfl λK k0=>DD ?_;refine Dh Z_ (λi=>Da ((x.Sm (x.sv.set n 1)).NI i)) _ (λw hw=>RG (x.Sm (x.sv.set n 1)) rfl ⟨(n:Int),32,0,0,0⟩ hE w hw) ?_;intro i hi;unfold Z_;refine DD (k0 _ _ ?_);refine Db ?_;refine C8 (EP λw hw=>?_);exact⟨(x.Sm (x.sv.set n 1)).NI i,by rw[hs],⟨by rw[ATv hs];exact⟨i,rfl,hi⟩⟩,hw⟩
structure SlI where
 A:Option Addr
 n:Nat
 c:Nat
def Dc.RH(x:Dc)(i:SlI)(ms:List Int):Dc := { x with SA:=i.A,sn:=i.n,sc:=i.c,ms:=ms }
def W_(x y:Dc)(e:Gs):Prop := ∃i:vP,(i.r,i.es)=Q9 x.cap x.es e/\(if i.r=0 then y=x.NI i else ∃j:SlI,y=(x.NI i).RH j (x.ms++[e.pl]))
theorem GQ x{b}(hb:x.b=b)e(hE:x.es.length<=90000)(hm:x.ms.length<=90000)W(hst:St (DV (Da x)) W (Da x) W):
  Calls AGm 196 #[π (σ ⟨b,0,ν⟩),ε ζ e.pl,ε ζ e.op,ε υ (e.h:Int),ε υ (e.ar:Int),ε ζ e.er] W
  λen w' => ∃y:Dc,en=κ (ε ζ e.er)/\W_ x y e/\St (DV (Da x)) W (Da y) w':=by
 subst hb;obtain⟨M,hM⟩:∃M,DV (Da x)=M:=⟨_,rfl⟩;rw[hM]at hst ⊢;clear hM;unfold Da Fj at hst;refine DL (M:=M) Tryz.func196 [.tmp 12]  hst ?_;have zs:=Bd.mk IZ;refine DZ ?_;refine Cw λK k0=>C9 rfl λK k1=>DR ?_;refine Dh Z_ (λi=>Da (x.NI i)) _ (λw hw=>RG x rfl e hE w hw) ?_;intro i hi;unfold Z_;obtain⟨x1,hx1⟩:∃x1,x.NI i=x1:=⟨_,rfl⟩;have hb1:x1.b=x.b:=by rw[<-hx1];rfl
 rw[hx1];unfold Da;rw[Dp hb1];refine EM ?_;have hm1:x1.ms=x.ms:=by rw[<-hx1];rfl
 have hm2:x1.ms.length<=90000:=by rw[hm1];exact hm
 refine DR (k1 _ _ ?_);refine DC [0,1,5,23] λG1 g1=>?_;replace g1:=EK g1;refine C_ ?_;by_cases h0:i.r=0
 ·have d0:decide (i.r=0)=τ:=AUB h0;have zg:=Bd.mk g1;refine DU d0 ?_;refine Cz (k0 _ _ (Db ?_));refine C8 (EP λw hw=>?_);exact⟨x1,rfl,⟨i,hi,by rw[ATv h0];exact hx1.symm⟩,by unfold Da;rw[Dp hb1];exact hw⟩
 have zg:=Bd.mk g1;refine DU h0 ?_;have hbb:∀ {j:SlI} {l:List Int},(x1.RH j l).b=x.b:=hb1;have o1:=Z4 x1.ms;refine Eo [.blk x.b 97 [x1.y0,x1.y1,x1.y2,x1.y3,x1.y4,x1.y5,x1.y6,x1.y7,x1.y8,ξ x1.TA x1.tn x1.tc,ε ζ x1.N,ξ x1.UA x1.un x1.uc,π (σ ⟨x1.tb.tb,0,ν⟩),ξ x1.LA x1.ln x1.lc,ε ζ x1.lim.qb,ε ζ x1.lim.qo,ε ζ x1.lim.qr,ξ x1.MA x1.mn x1.mc,ε ζ x1.cap,ξ x1.EA x1.en x1.ec,ξ x1.SA x1.sn x1.sc,ξ x1.BA x1.bn x1.bc,ξ (σ ⟨x1.g,0,ν⟩) 65 65],.row (ξ x1.SA x1.sn x1.sc) 3 1 x1.sn (D8 x1.ms),Dk ((Fx x1).eraseIdx 5)] (λw hw=>hw.IG (k:=5) rfl) (F8 1 rfl λhln=>?_);rw[EY]at hln;refine ED [2,0,4] AJ (DJ rfl (DD ?_));intro bA Oz hfA;refine DD ?_;refine EI 0 GL rfl rfl (λw hw=>Hz (DN (k:=2) rfl) hw) o1 AL AL ?_;intro A3 c3 hl3 hr3;refine DU (AO @Ao @AR.{0}) ?_;intro bE Qi Tg;refine D6 1 GL rfl (λw hw=>D_ (size:=1) (DN (k:=0) rfl) rfl hw) rfl AL AL ?_;intro A4 c4 hl4 hr4;refine DD (k0 _ _ ?_);refine Eo (Da (x1.RH ⟨A4,x1.sn+1,c4⟩ (x1.ms++[e.pl]))) (λw hw=>by rw[<-Im]at hw;have h1:=hw.IL (k:=5) _ (by show 5<11;decide);unfold Da;rw[Dp (x:=x1.RH ⟨A4,x1.sn+1,c4⟩ (x1.ms++[e.pl])) (b:=x.b) hbb];exact h1) ?_;refine Db ?_;refine C8 (EP λw hw=>?_);exact⟨x1.RH ⟨A4,x1.sn+1,c4⟩ (x1.ms++[e.pl]),rfl,⟨i,hi,by rw[ATt h0,hx1,<-hm1];exact⟨_,rfl⟩⟩,hw⟩
def Gm(x:Dc)(p:Int):Int:=if Fy x.sv p=ο then 15 else if decide ((SH x.es p:Int)<x.cap)=ο then 19 else 0
def Pv(x:Dc)(p:Int):Value:=.tuple #[ε ζ (Gm x p),θ (decide (Gm x p=0))]
def Pw(x y:Dc)(p:Int):Prop:=if Gm x p=19 then ∃j:SlI,y=x.RH j (x.ms++[p]) else y=x
theorem I5 x{b}(hb:x.b=b)p(hE:x.es.length<=90000)(hm:x.ms.length<=90000)W(hst:St (DV (Da x)) W (Da x) W):
  Calls AGm 194 #[π (σ ⟨b,0,ν⟩),ε ζ p] W
  λen w' => ∃y:Dc,en=κ (Pv x p)/\Pw x y p/\St (DV (Da x)) W (Da y) w':=by
 subst hb;obtain⟨M,hM⟩:∃M,DV (Da x)=M:=⟨_,rfl⟩;rw[hM]at hst ⊢;clear hM;unfold Da Fj at hst;refine DL (M:=M) Tryz.func194 [.tmp 4,.tmp 5]  hst ?_;have zs:=Bd.mk IZ;refine DZ ?_;refine DC [0,1] λG2 g2=>?_;replace g2:=EK g2;refine Cw λK k0=>C9 rfl λK k1=>?_;have zg:=Bd.mk g2;refine DD ?_;refine EW (Da x) (BB _) (λ_:Unit=>θ (Fy x.sv p)) _ (λw hw=>MM x rfl p w hw) ?_;intro _ _;refine DD (k1 _ _ ?_);refine C_ ?_;cases ha:Fy x.sv p with
 | false =>
  have he:Gm x p=15:=by unfold Gm;rw[ATv ha]
  refine DU ha ?_;refine Db ?_;refine C8 (EP λw hw=>?_);exact⟨x,by unfold Pv;rw[he];rfl,by unfold Pw;rw[he];rfl,hw⟩
 |true =>
 refine DU ha ?_;refine Cz (k0 _ _ (Cw λK k0=>C9 rfl λK k1=>DD ?_));refine DI (λw hw=>Yx (Dc.evw (x:=x) (L:=[]) hw AL) p) ?_;try refine DD ?_
 refine k1 _ _ (C_ ?_);cases hr:decide ((SH x.es p:Int)<x.cap)with
 | true =>
  have he:Gm x p=0:=by unfold Gm;rw[ATt (by rw[ha];decide),ATt (by rw[hr];decide)]
  refine DU hr ?_;refine Cz (k0 _ _ (Db ?_));refine C8 (EP λw hw=>?_);exact⟨x,by unfold Pv;rw[he];rfl,by unfold Pw;rw[he];rfl,hw⟩
 |false =>
 have he:Gm x p=19:=by unfold Gm;rw[ATt (by rw[ha];decide),ATv hr]
 have hbb:∀ {j:SlI} {l:List Int},(x.RH j l).b=x.b:=rfl;refine DU hr ?_;have o1:=Z4 x.ms;refine Eo [.blk x.b 97 [x.y0,x.y1,x.y2,x.y3,x.y4,x.y5,x.y6,x.y7,x.y8,ξ x.TA x.tn x.tc,ε ζ x.N,ξ x.UA x.un x.uc,π (σ ⟨x.tb.tb,0,ν⟩),ξ x.LA x.ln x.lc,ε ζ x.lim.qb,ε ζ x.lim.qo,ε ζ x.lim.qr,ξ x.MA x.mn x.mc,ε ζ x.cap,ξ x.EA x.en x.ec,ξ x.SA x.sn x.sc,ξ x.BA x.bn x.bc,ξ (σ ⟨x.g,0,ν⟩) 65 65],.row (ξ x.SA x.sn x.sc) 3 1 x.sn (D8 x.ms),Dk ((Fx x).eraseIdx 5)] (λw hw=>hw.IG (k:=5) rfl) (F8 1 rfl λhln=>?_);rw[EY]at hln;refine C9 rfl λK k1=>DD ?_;intro bA Oz hfA;refine DD ?_;refine EI 0 GL rfl rfl (λw hw=>Hz (DN (k:=2) rfl) hw) o1 AL AL ?_;intro A3 c3 hl3 hr3;refine DU (AO @Ao @AR.{0}) ?_;intro bE Qi Tg;refine D6 1 GL rfl (λw hw=>D_ (size:=1) (DN (k:=0) rfl) rfl hw) rfl AL AL ?_;intro A4 c4 hl4 hr4;refine DD (k1 _ _ ?_);refine DY [2,0,4] ?_;refine Eo (Da (x.RH ⟨A4,x.sn+1,c4⟩ (x.ms++[p]))) (λw hw=>by rw[<-Im]at hw;have h1:=hw.IL (k:=5) _ (by show 5<11;decide);unfold Da;rw[Dp (x:=x.RH ⟨A4,x.sn+1,c4⟩ (x.ms++[p])) (b:=x.b) hbb];exact h1) ?_;refine Db ?_;refine C8 (EP λw hw=>?_);exact⟨x.RH ⟨A4,x.sn+1,c4⟩ (x.ms++[p]),by unfold Pv;rw[he];rfl,by unfold Pw;rw[he];exact⟨_,rfl⟩,hw⟩
def pJ:=AO (AO (AO (AO @Ac @DT) (AO @KM @cM)) (AO (AO @Ey @Ez) (AO @E5 @E8))) (AO (AO (AO @E9 @Et) (AO @Eu @FK)) (AO (AO @FO @EZ) (AO @Ea (AO @Ph.eq_1 @xw.eq_1))))
structure Y4(l:List Bw)(ob:Int)(ow:Bool)(ac:Int):Prop where
 own:ac=3->ow=τ/\NT l ob=[]
 grant:ac=4->ow=τ∧¬(NT l ob).head?.map Bw.mo=σ 2
theorem h_{W b off A n c l}(h:TK W W.heap.size b off A n c l)ob pl ow ac:
  Calls AGm 223 #[π (σ ⟨b,off,ν⟩),ε ζ ob,ε ζ pl,θ ow,ε ζ ac] W
  λen w'=>(∃v:Int,en=κ (ε ζ v)/\(0<=v/\v<=29)/\(v=0->Y4 l ob ow ac))/\Below W.heap.size W w':=by
 refine DL (M:=[]) Tryz.func223 [.tmp 10] (St.nil _ _) ?_;have zs:=Bd.mk pJ;refine DZ ?_;refine DC [0,1,2,3,4] λG1 g1=>?_;replace g1:=EK g1;refine Cw λK k0=>Cw λK k1=>?_;refine Df (λ_ _=>True) (λF' L'=>EH F' G1 [0,1,2,3,4]/\F' 19=θ (decide (ac<1\/4<ac))/\L'=[]) ?_ ?_
 ·exact AWr
 intro G2 L' _ hF;obtain⟨zq,aB,rfl⟩:=hF;have zg:=Bd.mk g1;have g2:=AO (Dy zq) aB;refine k1 _ _ ?_;replace zg:=Bd.mk g2;refine Ec (λhc=>?_) λhc=>?_
 ·refine Db ?_;refine C8 (EP λw hw=>?_);exact⟨⟨1,rfl,by decide,λh=>absurd h AJ⟩,hw.below⟩
 refine Cz (k0 _ _ (C9 rfl λK k0=>DD ?_));refine DI (λw hw=>Ke (h.at hw) ob pl) ?_;try refine DU (AO @Ph.eq_1 @xw.eq_1) ?_
 intro b11 yu;refine k0 _ _ (DC [0,1,3,4,11,12] λG3 g3=>?_);replace g3:=Dy g3;refine Cw λK k0=>?_;replace zg:=Bd.mk g3;refine Db ?_;refine C_ ?_;cases ow with
 | false =>
  refine DD ?_;refine Cw λK k1=>Cw λK k2=>?_;refine Df (λ_ _=>True) (λF' L' => ∃(bb:Bool),EH F' G3 [4,11]/\F' 38=θ bb/\L'=[.blk b11 117 [ε ζ ((holdB l ob pl).getD Xn).ob,ε ζ ((holdB l ob pl).getD Xn).ho,ε ζ ((holdB l ob pl).getD Xn).mo,ε ζ ((holdB l ob pl).getD Xn).co]]/\(bb=ο→¬(ac=3\/ac=4))) ?_ ?_
  ·by_cases h3:ac=3
   ·have d3:decide (ac=3)=τ:=AUB h3;refine Cy rfl (DU d3 ?_);exact AWz
   by_cases h4:ac=4
   ·have d4:decide (ac=4)=τ:=AUB h4;refine Cy rfl (DU (AO h3 d4) ?_);exact AWz
   refine Cy rfl (DU (AO h3 h4) ?_);exact⟨_,rfl,λ_=>by simp⟩
  intro G4 L' _ hF;obtain⟨bb,zq,AEo,rfl,hbb⟩:=hF;have g4:=AO (Dy zq) AEo;refine k2 _ _ (C_ ?_);cases bb with
  | true =>
   replace zg:=Bd.mk g4;refine DD ?_;refine Db ?_;refine C8 (EP λw hw=>?_);exact⟨⟨13,rfl,by decide,λh=>absurd h AJ⟩,hw.below⟩
  |false =>
  replace zg:=Bd.mk g4;refine DD ?_;refine Cz (k1 _ _ (Cw λK k1=>Cw λK k2=>?_));refine Df (λ_ _=>True) (λF' L' => ∃(bb:Bool),F' 45=θ bb/\L'=[.blk b11 117 [ε ζ ((holdB l ob pl).getD Xn).ob,ε ζ ((holdB l ob pl).getD Xn).ho,ε ζ ((holdB l ob pl).getD Xn).mo,ε ζ ((holdB l ob pl).getD Xn).co]]) ?_ ?_
  ·refine Cy rfl (DD ?_);repeat' ((first|refine EF (λhg=>?_) (λhg=>?_)|refine EG (λhg=>?_) (λhg=>?_))<;>((try replace hg:=Fe hg);(try refine DU hg ?_);(try exact trivial)))
   all_goals exact⟨_,rfl⟩
  intro G5 L' _ hF;obtain⟨bb,AKT,rfl⟩:=hF;have g5:=AKT;refine k2 _ _ (C_ ?_);cases bb with
  | true =>
   replace zg:=Bd.mk g5;refine DD ?_;refine Db ?_;refine C8 (EP λw hw=>?_);exact⟨⟨14,rfl,by decide,λh=>absurd h AJ⟩,hw.below⟩
  |false =>
  replace zg:=Bd.mk g5;refine DD ?_;refine Cz (k1 _ _ (Db ?_));refine C8 (EP λw hw=>?_);have hb1:=hbb rfl;exact⟨⟨0,rfl,by decide,λ_=>⟨λh=>absurd (.inl h) hb1,λh=>absurd (.inr h) hb1⟩⟩,hw.below⟩
 |true =>
 refine DD ?_;refine Cz (k0 _ _ (C9 rfl λK k0=>DD ?_));refine D9 (λA n c=>ξ A n c) (λw hw=>(VL (h.at hw) ob)) ?_;intro A1 n1 c1 hl1 hr1;have hn1:(NT l ob).length=n1:=by rw[FE]at hl1;omega
 refine DD (k0 _ _ ?_);refine DC [4,13] λG6 g6=>?_;replace g6:=Dy g6;refine Cw λK k0=>Cw λK k1=>?_;refine Df (λ_ _=>True) (λF' L' => ∃(bb:Bool),F' 66=θ bb/\L'=[.row (ξ A1 n1 c1) 117 4 n1 (EN (NT l ob)),.blk b11 117 [ε ζ ((holdB l ob pl).getD Xn).ob,ε ζ ((holdB l ob pl).getD Xn).ho,ε ζ ((holdB l ob pl).getD Xn).mo,ε ζ ((holdB l ob pl).getD Xn).co]]/\(bb=ο->(ac=3->NT l ob=[])/\(ac=4→¬(NT l ob).head?.map Bw.mo=σ 2))) ?_ ?_
 ·by_cases hn:n1=0
  ·refine Cy rfl ?_;have d0:¬((n1:Int)>0):=by omega
   replace zg:=Bd.mk g6;refine DU d0 ?_;have hnil:NT l ob=[]:=Bc AL;exact⟨_,rfl,λ_=>⟨λ_=>hnil,λ_=>by rw[hnil];simp⟩⟩
  ·obtain⟨e,he⟩:∃e,(NT l ob)[0]?=σ e:=⟨_,AQ AL⟩;have d0:decide ((n1:Int)>0)=τ:=AUB AL;refine EL 0 rfl AL λg F7 hg EX=>?_;subst F7;replace hg:=AAM (AO hg EX);clear EX;by_cases h3:ac=3
   ·have d3:decide (ac=3)=τ:=AUB h3;have d2:decide (ac=2)=ο:=AUC AL;by_cases hm:e.mo=2
    ·have dm:decide (e.mo=2)=τ:=AUB hm;exact AVI
    ·have dm:decide (e.mo=2)=ο:=AUC hm;exact AVI
   ·by_cases hm:e.mo=2
    ·have dm:decide (e.mo=2)=τ:=AUB hm;refine Cy rfl ?_;replace zg:=Bd.mk g6;refine DU d0 ?_;refine DX (Dx (m:=1) (i:=0*4+2) (v:=ε ζ e.mo) (DN (k:=0) rfl) rfl (Gi FW he AL)) ?_;refine DU dm ?_;exact AWz
    ·have dm:decide (e.mo=2)=ο:=AUC hm;have hne:¬(NT l ob).head?.map Bw.mo=σ 2:=by
      rw[List.head?_eq_getElem?,he];simpa using hm
     refine Cy rfl ?_;replace zg:=Bd.mk g6;refine DU d0 ?_;refine DX (Dx (m:=1) (i:=0*4+2) (v:=ε ζ e.mo) (DN (k:=0) rfl) rfl (Gi FW he AL)) ?_;refine DU dm ?_;repeat' ((first|refine EF (λhg=>?_) (λhg=>?_)|refine EG (λhg=>?_) (λhg=>?_))<;>((try replace hg:=Fe hg);(try refine DU hg ?_);(try exact trivial)))
     all_goals (first|exact⟨_,rfl,λ_=>⟨λh=>absurd h h3,λ_=>hne⟩⟩|exact⟨_,rfl⟩)
 intro G7 L' _ hF;obtain⟨bb,AFG,rfl,hbb⟩:=hF;have g7:=AFG;refine k1 _ _ (C_ ?_);cases bb with
 | true =>
  replace zg:=Bd.mk g7;refine DD ?_;refine Db ?_;refine C8 (EP λw hw=>?_);exact⟨⟨14,rfl,by decide,λh=>absurd h AJ⟩,hw.below⟩
 |false =>
 replace zg:=Bd.mk g7;refine DD ?_;refine Cz (k0 _ _ (Db ?_));refine C8 (EP λw hw=>?_);have hb1:=hbb rfl;exact⟨⟨0,rfl,by decide,λ_=>⟨λh=>⟨rfl,hb1.1 h⟩,λh=>⟨rfl,hb1.2 h⟩⟩⟩,hw.below⟩
def pK(x:Dc)(o:Nat)(v:Int):Value:=.tuple #[sO (if v=0 then ET x.tb (De o) else en0),ε ζ v]
structure AcR(x:Dc)(o:Nat)(p ac:Int)(v:Int):Prop where
 Ql:0<=v/\v<=29
 ok:v=0->GU x.tb o=0
 acc:v=0->Y4 x.l (De o) (decide ((ET x.tb (De o)).ow=p)) ac
theorem J9{x o v}(hv:¬v=0):pK x o v=.tuple #[.agg #[ε υ 0,ε ζ 0,ε ζ 0,ε ζ 0,ε ζ 0],ε ζ v]:=by
 unfold pK;rw[ATt hv];rfl
theorem NJ{x o} : pK x o 0=.tuple #[.agg #[ε υ ((ET x.tb (De o)).h:Int),ε ζ (ET x.tb (De o)).ow,ε ζ (ET x.tb (De o)).tag,ε ζ (ET x.tb (De o)).off,ε ζ (ET x.tb (De o)).len],ε ζ 0]:=by
 unfold pK;rw[ATv rfl];rfl
theorem iA x h:0<=GU x h/\GU x h<=29:=by
 unfold GU;split
 ·decide
 ·split
  ·decide
  ·split
   ·decide
   ·decide
theorem H9 x{b}(hb:x.b=b)p(o:Nat)ac(ho:o<18446744073709551616)(hN:x.tb.s.gen.length=x.tb.s.Fh.length)(hl:x.l.length<=90000)W(hst:St (DV (Da x)) W (Da x) W):
  Calls AGm 197 #[π (σ ⟨b,0,ν⟩),ε ζ p,ε υ (o:Int),ε ζ ac] W
  λen w' => ∃v:Int,en=κ (pK x o v)/\AcR x o p ac v/\St (DV (Da x)) W (Da x) w':=by
 subst hb;obtain⟨M,hM⟩:∃M,DV (Da x)=M:=⟨_,rfl⟩;rw[hM]at hst ⊢;clear hM;unfold Da Fj at hst;refine ER (M:=M) (n:=43) [.cell 8 182,.tmp 9] rfl Tryz.func197 rfl rfl (Am rfl)  hst ?_;refine C9 rfl λK k0=>?_;have zs:=Bd.mk pJ;refine DR ?_;intro b8 vO hf8;refine k0 _ _ (C9 rfl λK k0=>DR ?_);refine Dh (λ_:Unit=>Pm x.tb o) (λ_=>Da x) _ (λw hw=>Us x o ho hN w hw) ?_;intro _ _;unfold Da;rw[Dp rfl];refine EM ?_;by_cases he:GU x.tb o=0
 case neg =>
  rw[SX he];refine DR ?_;intro b10 NG NH;refine k0 _ _ (Cw λK k0=>DZ ?_);refine C_ (Ed he ?_);refine DZ ?_;refine C8 (Ox ?_);intro w hw;have hv:=iA x.tb o;exact⟨GU x.tb o,by rw[J9 he],⟨hv,λh=>absurd h he,λh=>absurd h he⟩,hw.pick (ix:=[1,2]) AJ⟩
 rw[VN he];refine DR ?_;intro b10 NG NH;refine k0 _ _ (Cw λK k0=>DZ ?_);refine C_ (DR ?_);refine Cz (k0 _ _ (DY [1,2,3,0] ?_));refine DC [0,1,2,3,8,10] λG8 g8=>?_;replace g8:=EK g8;refine Cw λK k0=>Cw λK k1=>FD [3] [(τ,0),(τ,1),(τ,2),(τ,3),(τ,5),(τ,6),(τ,7),(τ,8),(τ,9),(τ,10),(ο,4),(ο,11),(τ,12)] [] ?_;have zg:=Bd.mk g8;refine DD ?_;refine DI (λw hw=>F4 o ho w) ?_;try refine DD ?_
 refine Ee (λv:Int=>ε ζ v) (λv=>(0<=v/\v<=29)/\(v=0->Y4 x.l (De o) (decide ((ET x.tb (De o)).ow=p)) ac)) (λw hw=>h_ (Dc.lgw (x:=x) (L:=[]) (hw.pick (ix:=[0,1]) AJ) AL) (De o) p _ ac) ?_;intro v hv;refine DD (k1 _ _ ?_);refine Db ?_;refine DC [8,10,12,39] λG9 g9=>?_;replace g9:=Dy g9;refine C_ ?_;by_cases h0:v=0
 case neg =>
  replace zg:=Bd.mk g9;refine DU h0 ?_;refine Db ?_;refine C8 (FF ?_);intro w hw;exact⟨v,by rw[J9 h0],⟨hv.1,λh=>absurd h h0,λh=>absurd h h0⟩,hw.pick (ix:=[0,1]) AJ⟩
 have d0:decide (v=0)=τ:=AUB h0;replace zg:=Bd.mk g9;refine DU d0 ?_;refine Cz (k0 _ _ (Db ?_));refine C8 (FF ?_);intro w hw;exact⟨0,by rw[NJ],⟨by decide,λ_=>he,λ_=>hv.2 h0⟩,hw.pick (ix:=[0,1]) AJ⟩
def AHW:=AO (AO (AO (AO @Ac @DT) (AO @KM @cM)) (AO (AO @Ey @Ez) (AO @E5 @E8))) (AO (AO (AO @E9 @Et) (AO @Eu @FK)) (AO (AO @FO @EZ) (AO @Ea @VB.eq_1)))
structure JD where
 v:Int
 y:Dc
def Gv(i:JD):Value:=ε ζ i.v
def Tw(e:En):Qu:=⟨e.len,1,0⟩
def EqM(x y:Dc):Prop:=y=x∨∃i:Pp,y=x.E_ i/\i.l=x.mt
structure TrG(x y:Dc)(p:Int)(o:Nat)(q:Int)(i1 i2:Pp)(t:Ir):Prop where
 ok:GU x.tb o=0
 add:(i1.r,i1.l)=Mt x.lim x.mt q (Tw (ET x.tb (De o)))
 zero:i1.r=0
 sub:(i2.r,i2.l)=KI i1.l p (Tw (ET x.tb (De o)))
 give:gF x.tb t o q
 y:y=((x.E_ i1).E_ i2).Kh t
def LvQ(x:Dc)(p q:Int):Prop:=Fy x.sv q=τ/\q≠p
structure TrR(x:Dc)(p:Int)(o:Nat)(q:Int)(i:JD):Prop where
 Ql:0<=i.v/\i.v<=29
 lv:i.v=0->LvQ x p q/\Y4 x.l (De o) (decide ((ET x.tb (De o)).ow=p)) 3
 r:if i.v=0 then ∃i1 i2 t,TrG x i.y p o q i1 i2 t else EqM x i.y
theorem iB l p q:(Wd l p q).length<=l.length+1:=by
 unfold Wd;rw[Ag,BI];have:=Ap (λs => !Yy p s) l;omega
theorem pM{l p q}(h:∀s∈l,s.q.ok)(hq:q.ok):∀s∈Wd l p q,s.q.ok:=λs hs=>by
 cases AV.1 hs with
 |inl h1=>exact h s (Bl.1 h1).1
 |inr h1=>rw[BH.1 h1];exact hq
theorem zA{a b l}(h:x_ a b l=ο):b<=l/\a+b<=l:=by
 unfold x_ at h;simp at h;omega
theorem lh{lim l p q r l'}(hlim:lim.ok)(hq:q.ok)(hok:∀s∈l,s.q.ok)(h:Mt lim l p q=(r,l')):(∀s∈l',s.q.ok)/\l'.length<=l.length+1:=by
 unfold Mt at h;have hg:=VM hok p;split at h
 ·cases h;exact⟨hok,by omega⟩
 ·rename_i hf;cases h;have hf:Tj lim (HZ l p) q=ο:=by simpa using hf
  unfold Tj at hf;simp only[ASe]at hf;have h1:=zA hf.1.1;have h2:=zA hf.1.2;have h3:=zA hf.2;refine⟨pM hok ⟨?_,?_,?_⟩,iB _ _ _⟩
  ·have:=hg.b;have:=hq.b;have:=hlim.b;show 0<=_+_/\_+_<=_;omega
  ·have:=hg.o;have:=hq.o;have:=hlim.o;show 0<=_+_/\_+_<=_;omega
  ·have:=hg.r;have:=hq.r;have:=hlim.r;show 0<=_+_/\_+_<=_;omega
theorem XB{l p q r l'}(hq:q.ok)(hok:∀s∈l,s.q.ok)(h:KI l p q=(r,l')):(∀s∈l',s.q.ok)/\l'.length<=l.length+1:=by
 unfold KI at h;have hg:=VM hok p;split at h
 ·cases h;exact⟨hok,by omega⟩
 ·rename_i hf;cases h;have hf:Uk (HZ l p) q=ο:=by simpa using hf
  unfold Uk at hf;simp at hf;refine⟨pM hok ⟨?_,?_,?_⟩,iB _ _ _⟩
  ·have:=hg.b;have:=hq.b;show 0<=_-_/\_-_<=_;omega
  ·have:=hg.o;have:=hq.o;show 0<=_-_/\_-_<=_;omega
  ·have:=hg.r;have:=hq.r;show 0<=_-_/\_-_<=_;omega
theorem aN x{b}(hb:x.b=b)p(o:Nat)q(ho:o<18446744073709551616)k(hi:QR x.tb k)(hl:x.l.length<=90000)(hm:x.mt.length<=80000)(hlim:x.lim.lim)(hlo:x.lim.ok)(hok:∀s∈x.mt,s.q.ok)(hen:∀s,0<=(ET x.tb s).len/\(ET x.tb s).len<=65536)W(hst:St (DV (Da x)) W (Da x) W):
  Calls AGm 203 #[π (σ ⟨b,0,ν⟩),ε ζ p,ε υ (o:Int),ε ζ q] W
  λen w' => ∃i:JD,en=κ (Gv i)/\TrR x p o q i/\St (DV (Da x)) W (Da i.y) w':=by
 subst hb;have hN:x.tb.s.gen.length=x.tb.s.Fh.length:=hi.n.trans hi.l.symm;obtain⟨M,hM⟩:∃M,DV (Da x)=M:=⟨_,rfl⟩;rw[hM]at hst ⊢;clear hM;unfold Da Fj at hst;refine DL (M:=M) Tryz.func203 [.tmp 8]  hst ?_;have zs:=Bd.mk AHW;refine DZ ?_;refine C9 rfl λK k0=>DR ?_;refine EW (Da x) (BB _) (λv:Int=>pK x o v) _ (λw hw=>H9 x rfl p o 3 ho hN hl w hw) ?_;intro v hv;by_cases hv0:v=0
 case neg =>
  rw[J9 hv0];refine DR ?_;intro b1 hb1 hf1;refine k0 _ _ (Cw λK k0=>DZ ?_);refine C_ (Ed hv0 ?_);refine DZ ?_;refine C8 (Eg λw hw=>?_);exact⟨⟨v,x⟩,rfl,⟨hv.Ql,λh=>absurd h hv0,by rw[ATt hv0];exact .inl rfl⟩,hw.tail⟩
 have he:=hv.ok hv0;subst hv0;obtain⟨r1,r2,r3,r4⟩:=GZ he;obtain⟨e,MZ⟩:∃e,ET x.tb (De o)=e:=⟨_,rfl⟩;rw[NJ,MZ];refine DR ?_;intro b1 hb1 hf1;refine k0 _ _ (Cw λK k0=>DZ ?_);refine C_ (DR ?_);refine Cz (k0 _ _ (DC [0,1,2,3,9] λG1 g1=>?_));replace g1:=EK g1;have hel:=hen (De o);rw[MZ]at hel;refine Cw λK k0=>Cw λK k1=>?_;refine Df (λ_ _=>True) (λF' L' => ∃(bb:Bool),EH F' G1 [0,1,2,3,9]/\F' 30=θ bb/\L'=[.blk x.b 97 [x.y0,x.y1,x.y2,x.y3,x.y4,x.y5,x.y6,x.y7,x.y8,ξ x.TA x.tn x.tc,ε ζ x.N,ξ x.UA x.un x.uc,π (σ ⟨x.tb.tb,0,ν⟩),ξ x.LA x.ln x.lc,ε ζ x.lim.qb,ε ζ x.lim.qo,ε ζ x.lim.qr,ξ x.MA x.mn x.mc,ε ζ x.cap,ξ x.EA x.en x.ec,ξ x.SA x.sn x.sc,ξ x.BA x.bn x.bc,ξ (σ ⟨x.g,0,ν⟩) 65 65],Dk (Fx x),.blk b1 182 [ε υ (e.h:Int),ε ζ e.ow,ε ζ e.tag,ε ζ e.off,ε ζ e.len]]/\(bb=ο->LvQ x p q)) ?_ ?_
 ·refine DY [1,2,0] ?_;refine Cy rfl ?_;have zg:=Bd.mk g1;refine DD ?_;refine EW (Da x) (Az (Da x) _) (λ_:Unit=>θ (Fy x.sv q)) _ (λw hw=>MM x rfl q w hw) ?_;exact AVL
 intro G2 L' _ hF;obtain⟨bb,zq,AEy,rfl,hqq⟩:=hF;have zg:=Bd.mk g1;have g2:=AO (Dy zq) AEy;refine k1 _ _ (C_ ?_);cases bb with
 | true =>
  replace zg:=Bd.mk g2;refine DD ?_;refine Db ?_;refine C8 (EP λw hw=>?_);exact⟨⟨15,x⟩,rfl,⟨AV7,λh=>absurd h (show ¬(15:Int)=0 by decide),.inl rfl⟩,hw.pick (ix:=[0,1]) AJ⟩
 |false =>
 replace zg:=Bd.mk g2;refine DD ?_;refine Cz (k0 _ _ (C9 rfl λK k0=>DD ?_));intro b11 yu AHV;refine k0 _ _ (DY [1,2,3,0] ?_);refine Cw λK k0=>Cw λK k1=>FD [3] [(τ,0),(τ,1),(τ,2),(τ,3),(τ,4),(ο,5),(τ,6)] [] ?_;refine DD ?_;refine Dh Nu (λi=>Da (x.E_ i)) _ (λw hw=>aM x rfl q (Tw e) AL hlim ⟨hel.imp id (λh=>by show e.len<=_;omega),AUu,AUn⟩ hok w hw) ?_;intro i1 hi1;unfold Nu;obtain⟨x1,hx1⟩:∃x1,x.E_ i1=x1:=⟨_,rfl⟩;have hb1:x1.b=x.b:=by rw[<-hx1];rfl
 rw[hx1];unfold Da;rw[Dp hb1];refine EM ?_;refine DD (k1 _ _ ?_);refine DC [0,1,2,3,11,41] λG3 g3=>?_;replace g3:=Dy g3;refine C_ ?_;have hfa:Mt x.lim x.mt q (Tw e)=(i1.r,i1.l):=hi1.symm;by_cases h0:i1.r=0
 case neg =>
  replace zg:=Bd.mk g3;refine DU h0 ?_;refine Db ?_;refine C8 (EP λw hw=>?_);have hsame:i1.l=x.mt:=by
   unfold Mt at hfa;split at hfa
   ·exact(AT4 ASY hfa).symm
   ·exact absurd (AT4 AH0 hfa).symm h0
  exact⟨⟨16,x1⟩,rfl,⟨AV6,λh=>absurd h (show ¬(16:Int)=0 by decide),.inr ⟨i1,hx1.symm,hsame⟩⟩,by unfold Da;rw[Dp hb1];exact hw.pick (ix:=[0,1]) AJ⟩
 have d0:decide (i1.r=0)=τ:=AUB h0;have ham:=lh hlo ⟨hel.imp id (λh=>by show e.len<=_;omega),AUu,AUn⟩ hok hfa;have hm1:x1.mt=i1.l:=by rw[<-hx1];rfl
 replace zg:=Bd.mk g3;refine DU d0 ?_;refine Cz (k0 _ _ (Cw λK k0=>FD [3] [(τ,0),(τ,1),(τ,2),(τ,3),(τ,4),(ο,5)] [5] ?_));refine DD ?_;refine Jl [.blk b1 182 [ε υ (e.h:Int),ε ζ e.ow,ε ζ e.tag,ε ζ e.off,ε ζ e.len],.blk b11 62 [ε ζ e.len,ε ζ 1,ε ζ 0]] (Da x1) AWI Nu (λi=>Da (x1.E_ i)) _ (λw hw=>Sj x1 hb1 p (Tw e) (by rw[hm1];omega) ⟨hel.imp id (λh=>by show e.len<=_;omega),AUu,AUn⟩ (by rw[hm1];exact ham.1) w hw) ?_;intro i2 hi2;unfold Nu;obtain⟨x2,hx2⟩:∃x2,x1.E_ i2=x2:=⟨_,rfl⟩;have hb2:x2.b=x.b:=by rw[<-hx2];exact hb1
 rw[hx2];unfold Da;rw[Dp hb2];refine EM ?_;have ht2:x2.tb=x.tb:=by rw[<-hx2,<-hx1];rfl
 refine DD (k0 _ _ ?_);refine DY [0,1] ?_;refine C9 rfl λK k0=>DD ?_;refine Jl [] (Da x2) (by unfold Da;rw[Dp hb2];exact CF _) (λ_:Ir=>ε ζ (Pn x2.tb o q)) (λt=>Da (x2.Kh t)) _ (λw hw=>y9 x2 o q ho k (by rw[ht2];exact hi) w hw) ?_;intro t ht;refine DD (k0 _ _ ?_);refine Db ?_;refine C8 (EP λw hw=>?_);exact⟨⟨0,x2.Kh t⟩,rfl,⟨AUs,λ_=>⟨hqq rfl,hv.acc rfl⟩,by rw[ATv rfl];exact⟨i1,i2,t,he,by rw[MZ];exact hi1,h0,by rw[MZ,<-hm1];exact hi2,by rw[<-ht2];exact ht,by rw[<-hx2,<-hx1]⟩⟩,hw⟩
def ADg:=AO (AO (AO (AO @Ac @DT) (AO @KM @cM)) (AO (AO @Ey @Ez) (AO @E5 (AO @E8 @E9)))) (AO (AO (AO @Et @Eu) (AO @FK @FO)) (AO (AO @EZ @Ea) (AO @VB.eq_1 (AO @Ph.eq_1 @xw.eq_1))))
def Q1:Qu:=⟨0,0,1⟩
structure LnG(x y:Dc)(o:Nat)(q mo:Int)(x1:Dc)(l:M4):Prop where
 ok:GU x.tb o=0
 m:if (holdB x.l (De o) q).isSome=τ then x1=x else ∃j:Pp,(j.r,j.l)=Mt x.lim x.mt q Q1/\j.r=0/\x1=x.E_ j
 rP:Oa x.l (De o) q mo 0 l.l
 y:y=x1.Hg l
def AHX(x y:Dc)(q:Int):Prop := ∃x1,(x1=x∨∃j:Pp,(j.r,j.l)=Mt x.lim x.mt q Q1/\x1=x.E_ j)/\(y=x1∨∃l:M4,l.l=x.l/\y=x1.Hg l)
structure LnR(x:Dc)(p:Int)(o:Nat)(q ac mo:Int)(i:JD):Prop where
 Ql:0<=i.v/\i.v<=29
 lv:i.v=0∨¬i.y=x->LvQ x p q
 acc:i.v=0->Y4 x.l (De o) (decide ((ET x.tb (De o)).ow=p)) ac
 r:if i.v=0 then ∃x1 l,LnG x i.y o q mo x1 l else AHX x i.y q
 nm:¬i.v=0->(ac=4/\mo=1\/ac=3/\mo=2)->i.y.mt=x.mt
theorem pO x{b}(hb:x.b=b)p(o:Nat)q ac mo(hmo:mo=1\/mo=2)(ho:o<18446744073709551616)(hN:x.tb.s.gen.length=x.tb.s.Fh.length)(hl:x.l.length<=90000)(hc:∀e∈x.l,0<=e.co/\e.co<=4611686018427387904)(hm:x.mt.length<=80000)(hlim:x.lim.lim)(hok:∀s∈x.mt,s.q.ok)W(hst:St (DV (Da x)) W (Da x) W):
  Calls AGm 204 #[π (σ ⟨b,0,ν⟩),ε ζ p,ε υ (o:Int),ε ζ q,ε ζ ac,ε ζ mo] W
  λen w' => ∃i:JD,en=κ (Gv i)/\LnR x p o q ac mo i/\St (DV (Da x)) W (Da i.y) w':=by
 subst hb;obtain⟨M,hM⟩:∃M,DV (Da x)=M:=⟨_,rfl⟩;rw[hM]at hst ⊢;clear hM;unfold Da Fj at hst;refine DL (M:=M) Tryz.func204 [.tmp 12]  hst ?_;have zs:=Bd.mk ADg;refine DZ ?_;refine C9 rfl λK k0=>DR ?_;refine EW (Da x) (BB _) (λv:Int=>pK x o v) _ (λw hw=>H9 x rfl p o ac ho hN hl w hw) ?_;intro v hv;by_cases hv0:v=0
 case neg =>
  rw[J9 hv0];refine DR ?_;intro b1 hb1 hf1;refine k0 _ _ (Cw λK k0=>DZ ?_);refine C_ (Ed hv0 ?_);refine DZ ?_;refine C8 (Eg λw hw=>?_);exact⟨⟨v,x⟩,rfl,⟨hv.Ql,λh=>h.elim (λh=>absurd h hv0) (λh=>absurd rfl h),λh=>absurd h hv0,by rw[ATt hv0];exact⟨x,.inl rfl,.inl rfl⟩,λ_ _=>rfl⟩,hw.tail⟩
 have he:=hv.ok hv0;subst hv0;obtain⟨r1,r2,r3,r4⟩:=GZ he;obtain⟨e,MZ⟩:∃e,ET x.tb (De o)=e:=⟨_,rfl⟩;rw[NJ,MZ];refine DR ?_;intro b1 hb1 hf1;refine k0 _ _ (Cw λK k0=>DZ ?_);refine C_ (DR ?_);refine Cz (k0 _ _ (DC [0,1,2,3,5] λG1 g1=>?_));replace g1:=EK g1;refine Cw λK k0=>Cw λK k1=>?_;refine Df (λ_ _=>True) (λF' L' => ∃(bb:Bool),EH F' G1 [0,2,3,5]/\F' 37=θ bb/\L'=[.blk x.b 97 [x.y0,x.y1,x.y2,x.y3,x.y4,x.y5,x.y6,x.y7,x.y8,ξ x.TA x.tn x.tc,ε ζ x.N,ξ x.UA x.un x.uc,π (σ ⟨x.tb.tb,0,ν⟩),ξ x.LA x.ln x.lc,ε ζ x.lim.qb,ε ζ x.lim.qo,ε ζ x.lim.qr,ξ x.MA x.mn x.mc,ε ζ x.cap,ξ x.EA x.en x.ec,ξ x.SA x.sn x.sc,ξ x.BA x.bn x.bc,ξ (σ ⟨x.g,0,ν⟩) 65 65],Dk (Fx x)]/\(bb=ο->LvQ x p q)) ?_ ?_
 ·refine DY [1,2] ?_;refine Cy rfl ?_;have zg:=Bd.mk g1;refine DD ?_;refine EW (Da x) (BB _) (λ_:Unit=>θ (Fy x.sv q)) _ (λw hw=>MM x rfl q w hw) ?_;exact AVL
 intro G2 L' _ hF;obtain⟨bb,zq,AFJ,rfl,hqq⟩:=hF;have zg:=Bd.mk g1;have g2:=AO (Dy zq) AFJ;refine k1 _ _ (C_ ?_);cases bb with
 | true =>
  replace zg:=Bd.mk g2;refine DD ?_;refine Db ?_;refine C8 (EP λw hw=>?_);exact⟨⟨15,x⟩,rfl,⟨AV7,λh=>h.elim (λh=>absurd h (show ¬(15:Int)=0 by decide)) (λh=>absurd rfl h),λh=>absurd h (show ¬(15:Int)=0 by decide),⟨x,.inl rfl,.inl rfl⟩,λ_ _=>rfl⟩,hw⟩
 |false =>
 replace zg:=Bd.mk g2;refine DD ?_;refine Cz (k0 _ _ (C9 rfl λK k0=>DD ?_));refine DI (λw hw=>F4 o ho w) ?_;try refine DD ?_
 refine k0 _ _ (DC [0,3,5,15] λG3 g3=>?_);replace g3:=Dy g3;refine C9 rfl λK k0=>?_;replace zg:=Bd.mk g3;refine DD ?_;refine DI (λw hw=>Ke (Dc.lgw (x:=x) (L:=[]) hw AL) (De o) q) ?_;try refine DD ?_
 intro b16 AHY AHZ;refine k0 _ _ ?_;obtain⟨hd,hhd⟩:∃hd,(holdB x.l (De o) q).isSome=hd:=⟨_,rfl⟩;rw[hhd];refine DY [1,2] ?_;refine DC [0,3,5,15,17] λG4 g4=>?_;replace g4:=Dy g4;refine Cw λK k0=>Cw λK k1=>?_;refine Df (λ_ _=>True) (λF' L' => ∃(x1:Dc)(bb:Bool),EH F' G4 [0,3,5,15]/\F' 59=θ bb/\L'=[.blk x.b 97 [x1.y0,x1.y1,x1.y2,x1.y3,x1.y4,x1.y5,x1.y6,x1.y7,x1.y8,ξ x1.TA x1.tn x1.tc,ε ζ x1.N,ξ x1.UA x1.un x1.uc,π (σ ⟨x1.tb.tb,0,ν⟩),ξ x1.LA x1.ln x1.lc,ε ζ x1.lim.qb,ε ζ x1.lim.qo,ε ζ x1.lim.qr,ξ x1.MA x1.mn x1.mc,ε ζ x1.cap,ξ x1.EA x1.en x1.ec,ξ x1.SA x1.sn x1.sc,ξ x1.BA x1.bn x1.bc,ξ (σ ⟨x1.g,0,ν⟩) 65 65],Dk (Fx x1)]/\x1.b=x.b/\x1.l=x.l/\(if hd=τ then x1=x/\bb=ο else ∃j:Pp,(j.r,j.l)=Mt x.lim x.mt q Q1/\bb = !decide (j.r=0)/\x1=x.E_ j)) ?_ ?_
 ·cases hd with
  | true =>
   refine Cy rfl ?_;replace zg:=Bd.mk g4;refine DD ?_;refine⟨x,ο,?_⟩;exact dP
  | false =>
   refine Cy rfl ?_;replace zg:=Bd.mk g4;refine DD ?_;refine Dh Nu (λi=>Da (x.E_ i)) _ (λw hw=>aM x rfl q Q1 AL hlim ⟨AUn,AUn,AUu⟩ hok w hw) ?_;intro j hj;unfold Nu;obtain⟨x1,hx1⟩:∃x1,x.E_ j=x1:=⟨_,rfl⟩;have hb1:x1.b=x.b:=by rw[<-hx1];rfl
   rw[hx1];unfold Da;rw[Dp hb1];refine EM ?_;refine DD ?_;refine⟨x1, !decide (j.r=0),rfl,rfl,hb1,by rw[<-hx1];rfl,?_⟩;exact⟨j,hj,rfl,hx1.symm⟩
 intro G5 L' _ hF;obtain⟨x1,bb,zq,AKU,rfl,⟨hb1,hl1,hx1⟩⟩:=hF;replace zg:=Bd.mk g4;have g5:=AO (Dy zq) AKU;refine k1 _ _ (C_ ?_);have hm1:x1=x∨∃j:Pp,(j.r,j.l)=Mt x.lim x.mt q Q1/\x1=x.E_ j:=by
  split at hx1
  ·exact .inl hx1.1
  ·obtain⟨j,h1,-,h2⟩:=hx1;exact .inr ⟨j,h1,h2⟩
 cases bb with
 | true =>
  have hmt:x1.mt=x.mt:=by
   split at hx1
   ·cases hx1.2
   ·obtain⟨j,h1,h2,h3⟩:=hx1;have h2:¬j.r=0:=by simpa using h2
    rw[h3];show j.l=x.mt;unfold Mt at h1;split at h1
    ·exact AT4 ASY h1
    ·exact absurd (AT4 AH0 h1) h2
  replace zg:=Bd.mk g5;refine DD ?_;refine Db ?_;refine C8 (EP λw hw=>?_);exact⟨⟨16,x1⟩,rfl,⟨AV6,λ_=>hqq rfl,λh=>absurd h (show ¬(16:Int)=0 by decide),⟨x1,hm1,.inl rfl⟩,λ_ _=>hmt⟩,by unfold Da;rw[Dp hb1];exact hw⟩
 |false =>
 replace zg:=Bd.mk g5;refine DD ?_;refine Cz (k0 _ _ (C9 rfl λK k0=>DD ?_));refine Jl [] (Da x1) AV_ lgV (λi=>Da (x1.Hg i.2)) _ (λw hw=>yx x1 hb1 (De o) q mo hmo (by rw[hl1];omega) (by rw[hl1];exact hc) w hw) ?_;rintro⟨r,l⟩ ⟨hi1,hi2⟩;unfold lgV;dsimp only at *;refine DD (k0 _ _ ?_);refine C8 (EP λw hw=>?_);rw[hl1]at hi1 hi2;have hr:r=0\/r=14:=by
  unfold Oa at hi1;split at hi1
  ·exact .inr hi1
  ·exact .inl hi1.1
 refine⟨⟨r,x1.Hg l⟩,rfl,⟨?_,λ_=>hqq rfl,λ_=>hv.acc rfl,?_,λh0 ham=>?_⟩,hw⟩
 ·show 0<=r/\r<=29;omega
 ·show if r=0 then _ else _
  by_cases h0:r=0
  ·rw[ATv h0];subst h0;refine⟨x1,l,he,?_,hi1,rfl⟩;rw[hhd];split at hx1
   ·rw[ATv (by assumption)];exact hx1.1
   ·rename_i hn;rw[ATt hn];obtain⟨j,h1,h2,h3⟩:=hx1;exact⟨j,h1,by simpa using h2,h3⟩
  ·rw[ATt h0];exact⟨x1,hm1,.inr ⟨l,hi2 h0,rfl⟩⟩
 ·exfalso;have h0:¬r=0:=h0;have hac:=hv.acc rfl;unfold Oa at hi1;split at hi1
  ·rename_i hc1;rcases ham with⟨h4,h1⟩|⟨h3,h2⟩
   ·rcases hc1.2 with h5|h5
    ·omega
    ·exact(hac.grant h4).2 h5
   ·exact hc1.1 (hac.own h3).2
  ·exact h0 hi1.1
structure RlG(x y:Dc)(p:Int)(o:Nat)(l:M4):Prop where
 ok:GU x.tb o=0
 rel:Qq x.l (De o) p 0 l.l
 y:if (holdB l.l (De o) p).isSome=τ then y=x.Hg l else ∃j:Pp,(j.r,j.l)=KI x.mt p Q1/\y=(x.Hg l).E_ j
structure RlR(x:Dc)(p:Int)(o:Nat)(i:JD):Prop where
 Ql:0<=i.v/\i.v<=29
 r:if i.v=0 then ∃l,RlG x i.y p o l else (i.y=x∨∃l:M4,l.l=x.l/\i.y=x.Hg l)
theorem t_{l ob ho r l'}(h:Qq l ob ho r l')(hr:r=0):l'.length<=l.length:=by
 unfold Qq at h;split at h
 ·omega
 ·rename_i e hh;have hw:∀ob ho:Int,(K6 l ob ho).length<=l.length:=λob ho=>Ap _ _;obtain⟨-,h⟩:=h;split at h
  ·rw[h];exact hw _ _
  ·obtain⟨P,Q,h⟩:=h;have h1:=AT4 CP h.rest;have h2:=AT4 CP h.out;rw[Ag]at h1;rw[Ag,Av]at h2;have hm:=Pj hh;have:(K6 l e.ob e.ho).length<l.length:=by
    unfold K6;refine AH9 (Ap _ _) λhn=>?_;have:=(AUI.1 hn) e hm.1;simp[fK]at this
   omega
theorem ACB x{b}(hb:x.b=b)p(o:Nat)(ho:o<18446744073709551616)(hN:x.tb.s.gen.length=x.tb.s.Fh.length)(hl:x.l.length<=90000)(hc:∀e∈x.l,0<=e.co/\e.co<=4611686018427387904)(hm:x.mt.length<=80000)(hok:∀s∈x.mt,s.q.ok)W(hst:St (DV (Da x)) W (Da x) W):
  Calls AGm 205 #[π (σ ⟨b,0,ν⟩),ε ζ p,ε υ (o:Int)] W
  λen w' => ∃i:JD,en=κ (Gv i)/\RlR x p o i/\St (DV (Da x)) W (Da i.y) w':=by
 subst hb;obtain⟨M,hM⟩:∃M,DV (Da x)=M:=⟨_,rfl⟩;rw[hM]at hst ⊢;clear hM;unfold Da Fj at hst;refine DL (M:=M) Tryz.func205 [.tmp 6]  hst ?_;have zs:=Bd.mk ADg;refine DZ ?_;refine Cw λK k0=>C9 rfl λK k1=>DR ?_;refine EW (Da x) (BB _) (λ_:Unit=>Pm x.tb o) _ (λw hw=>Us x o ho hN w hw) ?_;intro _ _;by_cases he:GU x.tb o=0
 case neg =>
  rw[SX he];refine DR ?_;intro b7 fZ hf7;refine k1 _ _ (DZ ?_);refine C_ (Ed he ?_);refine DZ ?_;refine C8 (Eg λw hw=>?_);have hv:=iA x.tb o;exact⟨⟨GU x.tb o,x⟩,rfl,⟨hv,by rw[ATt he];exact .inl rfl⟩,hw.tail⟩
 rw[VN he];refine DR ?_;intro b7 fZ hf7;refine k1 _ _ (DZ ?_);refine C_ (DR ?_);refine Cz (k0 _ _ (DY [1,2] ?_));refine DC [0,1,2] λG1 g1=>?_;replace g1:=EK g1;refine C9 rfl λK k0=>?_;have zg:=Bd.mk g1;refine DD ?_;refine DI (λw hw=>F4 o ho w) ?_;try refine DD ?_
 refine k0 _ _ (Cw λK k0=>C9 rfl λK k1=>DD ?_);refine Dh lgV (λi=>Da (x.Hg i.2)) _ (λw hw=>g_ x rfl (De o) p AL hc w hw) ?_;rintro⟨r,l⟩ ⟨hi1,hi2⟩;unfold lgV;dsimp only at hi1 hi2;obtain⟨x1,hx1⟩:∃x1,x.Hg l=x1:=⟨_,rfl⟩;have hb1:x1.b=x.b:=by rw[<-hx1];rfl
 rw[hx1];unfold Da;rw[Dp hb1];refine EM ?_;have hl1:x1.l=l.l:=by rw[<-hx1];rfl
 have hm1:x1.mt=x.mt:=by rw[<-hx1];rfl
 refine DD (k1 _ _ ?_);refine DC [0,1,9,32] λG2 g2=>?_;replace g2:=Dy g2;refine C_ ?_;by_cases h0:r=0
 case neg =>
  replace zg:=Bd.mk g2;refine DU h0 ?_;refine Db ?_;refine C8 (EP λw hw=>?_);exact⟨⟨13,x1⟩,rfl,⟨(by decide:(0:Int)<=13/\(13:Int)<=29),.inr ⟨l,hi2 h0,hx1.symm⟩⟩,by unfold Da;rw[Dp hb1];exact hw⟩
 have hlen:=t_ hi1 h0;subst h0;replace zg:=Bd.mk g2;refine DD ?_;refine Cz (k0 _ _ ?_);have hl2:x1.l.length<=90000:=by rw[hl1];omega
 refine C9 rfl λK k0=>DD ?_;refine DI (λw hw=>hb1▸Ke (Dc.lgw (x:=x1) (L:=[]) (by rw[Dp hb1];exact hw) AL) (De o) p) ?_;try refine DD ?_
 intro b10 NG NH;refine k0 _ _ ?_;obtain⟨hd,hhd⟩:∃hd,(holdB x1.l (De o) p).isSome=hd:=⟨_,rfl⟩;rw[hhd];refine DY [1,2] ?_;refine DC [0,1,11] λG3 g3=>?_;replace g3:=Dy g3;refine Cw λK k0=>?_;replace zg:=Bd.mk g3;refine Db ?_;refine C_ ?_;cases hd with
 | true =>
  refine DD ?_;refine Cz (k0 _ _ (Db ?_));refine C8 (EP λw hw=>?_);exact⟨⟨0,x1⟩,rfl,⟨AUs,⟨l,he,hi1,by rw[<-hl1,ATv hhd];exact hx1.symm⟩⟩,by unfold Da;rw[Dp hb1];exact hw⟩
 |false =>
 refine DD ?_;refine DJ rfl (DD ?_);refine Jl [] (Da x1) AV_ Nu (λi=>Da (x1.E_ i)) _ (λw hw=>Sj x1 hb1 p Q1 (by rw[hm1];omega) ⟨AUn,AUn,AUu⟩ (by rw[hm1];exact hok) w hw) ?_;intro j hj;unfold Nu;refine DD (k0 _ _ ?_);refine Db ?_;refine C8 (EP λw hw=>?_);exact⟨⟨0,x1.E_ j⟩,rfl,⟨AUs,⟨l,he,hi1,by rw[<-hl1,ATt (by rw[hhd];decide)];exact⟨j,by rw[<-hm1];exact hj,by rw[<-hx1]⟩⟩⟩,hw⟩
def I9:TL:=⟨ν,0,0,[]⟩
theorem ACC{M W w L}{l:List TL}{s}(hs:s<l.length)(h:St M W (Dk (l.map FI)::L) w):St M W (Dk ((l.set s I9).map FI)::L) w:=by
 rw[ASO];have hlt:s<(l.map FI).length:=by rw[BF];exact hs
 have hk:nth (l.map FI) s=σ (l.map FI)[s]:=by rw[GY];exact AQ hlt
 have h1:St M W ((l.map FI)[s]::((l.map FI).eraseIdx s++L)) w:=h.GV.perm (((FZ hk).symm).append_right L);have h2:St M W (FI I9::((l.map FI).eraseIdx s++L)) w:=h1.tail.add _ (World.ownsRow_nil w 0 _ _) (by simp[DW.foot,FI,I9,Value.ownBlock]) (by simp[DW.foot,FI,I9,Value.ownBlock]);exact(h2.perm ((Pt hlt (FI I9)).append_right L)).Dk
def Je(l:List Sh)(bs:List Bw):List Sh:=bs.foldl (λl b=>(KI l b.ho Q1).2) l
theorem iC{l}{bs:List Bw}{i e}(h:bs[i]?=σ e):Je l (bs.take (i+1))=(KI (Je l (bs.take i)) e.ho Q1).2:=by
 unfold Je;rw[Bi,h,List.foldl_append];rfl
theorem Tx{l}(hok:∀s∈l,s.q.ok):∀bs:List Bw,(∀s∈Je l bs,s.q.ok)/\(Je l bs).length<=l.length+bs.length:=by
 intro bs
 induction bs generalizing l with
 |nil=>exact⟨hok,by simp[Je]⟩
 | cons b bs ih =>
  have h1:=XB (p:=b.ho) (q:=Q1) (r:=(KI l b.ho Q1).1) (l':=(KI l b.ho Q1).2) ⟨AUn,AUn,AUu⟩ hok rfl;have h2:=ih h1.1;refine⟨h2.1,?_⟩;have h3:Je l (b::bs)=Je (KI l b.ho Q1).2 bs:=rfl;rw[h3,Av];omega
def Dc.Mg(x:Dc)(l:List TL):Dc := { x with Fw:=l }
structure uA(x y:Dc)(e:En)(l:M4)(m:Pp)(u:Si)(t:Ir):Prop where
 fl:l.l=x.l.filter λb => !decide (b.ob=(De e.h:Int))
 fm:m.l=(KI (Je x.mt (NT x.l (De e.h))) e.ow (Tw e)).2
 fu:u.us=x.us.filter λz=>decide (z≠⟨e.off,e.len⟩)
 ft:gD x.tb t e.h
 fy:y=((((x.Hg l).E_ m).Mf u).Kh t).Mg (x.Fw.set (De e.h) I9)
def zB:=AO (AO (AO (AO @Ac @DT) (AO @KM @cM)) (AO (AO @Ey @Ez) (AO @E5 @E8))) (AO (AO (AO @E9 @Et) (AO @Eu @FK)) (AO (AO @FO @EZ) (AO @Ea (AO @VB.eq_1 @fP.eq_1))))
theorem iD x{b}(hb:x.b=b)e(he:GU x.tb e.h=0)(hh:e.h<18446744073709551616)k(hi:QR x.tb k)(hl:x.l.length<=1000)(hm:x.mt.length<=80000)(hok:∀s∈x.mt,s.q.ok)(hu:x.us.length<=90)(hel:0<=e.len/\e.len<=65536)(hbn:x.bn=x.tb.en)W(hst:St (DV (Da x)) W (Da x) W):
  Calls AGm 141 #[π (σ ⟨b,0,ν⟩),sO e] W
  λen w' => ∃y:Dc,en=κ (.tuple #[])/\(∃l m u t,uA x y e l m u t)/\St (DV (Da x)) W (Da y) w':=by
 subst hb;have hs:=(GZ he).1;have AKV:=Dc.byl hst;obtain⟨M,hM⟩:∃M,DV (Da x)=M:=⟨_,rfl⟩;rw[hM]at hst ⊢;clear hM;unfold Da Fj at hst;unfold sO;refine DL (M:=M) Tryz.func141 []  hst ?_;refine C9 rfl λK k0=>?_;have zs:=Bd.mk zB;refine DR ?_;intro b3 hb3 hf3;refine k0 _ _ (C9 rfl λK k0=>DR ?_);refine DI (λw hw=>F4 e.h hh w) ?_;try refine DR ?_
 refine k0 _ _ (DY [1,2,0] ?_);refine DC [0,3,4] λG1 g1=>?_;replace g1:=EK g1;refine C9 rfl λK k0=>?_;have zg:=Bd.mk g1;refine DD ?_;refine Dh fP (λi=>.row (ξ i.1.1 i.1.2.1 i.1.2.2) 117 4 i.1.2.1 (EN (NT x.l (De e.h)))::Da (x.Hg i.2)) _ (λw hw=>YG x rfl (De e.h) AL w hw) ?_;rintro⟨⟨A,n,c⟩,l⟩ hl1;dsimp only at hl1 ⊢;obtain⟨x1,hx1⟩:∃x1,x.Hg l=x1:=⟨_,rfl⟩;have hb1:x1.b=x.b:=by rw[<-hx1];rfl
 rw[hx1];unfold Da;rw[Dp hb1];refine EM ?_;have ht1:x1.tb=x.tb:=by rw[<-hx1];rfl
 have hm1:x1.mt=x.mt:=by rw[<-hx1];rfl
 have hu1:x1.us=x.us:=by rw[<-hx1];rfl
 have AO0:x1.Fw=x.Fw:=by rw[<-hx1];rfl
 have AO1:x1.bn=x.bn:=by rw[<-hx1];rfl
 refine DD (k0 _ _ ?_);obtain⟨lo,hlo⟩:∃lo,NT x.l (De e.h)=lo:=⟨_,rfl⟩;have AHN:lo.length<=1000:=by
  have h1:(NT x.l (De e.h)).length<=x.l.length:=Ap _ _;rw[hlo]at h1;omega
 rw[hlo];refine F8 0 rfl λhln=>?_;rw[FE]at hln;have hsu:=λi=>Tx hok (lo.take i);refine Cw λK k0=>Db ?_;refine DC [0,3,4,5,6] λG2 g2=>?_;replace g2:=Dy g2;refine DK ?_;refine Dv (λF' L' => ∃(i:Nat)(j:Pp),EH F' G2 [0,3,4,5]/\F' 6=ε ζ (i:Int)/\L'=[.row (ξ A n c) 117 4 n (EN lo),.blk x.b 97 [(x1.E_ j).y0,(x1.E_ j).y1,(x1.E_ j).y2,(x1.E_ j).y3,(x1.E_ j).y4,(x1.E_ j).y5,(x1.E_ j).y6,(x1.E_ j).y7,(x1.E_ j).y8,ξ (x1.E_ j).TA (x1.E_ j).tn (x1.E_ j).tc,ε ζ (x1.E_ j).N,ξ (x1.E_ j).UA (x1.E_ j).un (x1.E_ j).uc,π (σ ⟨(x1.E_ j).tb.tb,0,ν⟩),ξ (x1.E_ j).LA (x1.E_ j).ln (x1.E_ j).lc,ε ζ (x1.E_ j).lim.qb,ε ζ (x1.E_ j).lim.qo,ε ζ (x1.E_ j).lim.qr,ξ (x1.E_ j).MA (x1.E_ j).mn (x1.E_ j).mc,ε ζ (x1.E_ j).cap,ξ (x1.E_ j).EA (x1.E_ j).en (x1.E_ j).ec,ξ (x1.E_ j).SA (x1.E_ j).sn (x1.E_ j).sc,ξ (x1.E_ j).BA (x1.E_ j).bn (x1.E_ j).bc,ξ (σ ⟨(x1.E_ j).g,0,ν⟩) 65 65],Dk (Fx (x1.E_ j)),.blk b3 182 [ε υ (e.h:Int),ε ζ e.ow,ε ζ e.tag,ε ζ e.off,ε ζ e.len]]/\i<=n/\j.l=Je x.mt (lo.take i)) (λF' L'=>200000-(intOf (F' 6)).toNat) ?_ ?_
 ·refine⟨0,⟨0,x1.MA,x1.mn,x1.mc,x1.mt⟩,?_⟩;replace zg:=Bd.mk g2;refine DD ?_;exact⟨rfl,Ar _,by rw[hm1];rfl⟩
 intro G3 L' hI;obtain⟨i,j,zq,Ms,rfl,⟨hin,hj⟩⟩:=hI;replace zg:=Bd.mk g2;have g3:=AO (Dy zq) Ms;have hsi:=hsu i;rw[<-hj]at hsi;have hti:(lo.take i).length<=lo.length:=by rw[Al];omega
 refine Cw λK k1=>?_;replace zg:=Bd.mk (AO g2 g3);refine Db ?_;refine Ec (λhc=>?_) λhc=>?_
 ·refine Cz ?_;try simp only[Di,Dq]
  have hit:i<n:=by have:=AT0 ‹decide ((i:Int)<(n:Int))=τ›;omega
  obtain⟨bw,hbw⟩:∃bw,lo[i]?=σ bw:=⟨_,AQ AL⟩;have xC:=iC (l:=x.mt) hbw;refine k1 _ _ (EL 0 rfl AL λg F7 hg EX=>?_);subst F7;replace hg:=AAM (AO hg EX);clear EX;refine DY [1,2,3,0] ?_;refine Cw λK k1=>DK (K3 (FD [3] [(τ,0),(τ,1),(τ,2),(τ,3),(τ,4),(τ,5),(τ,6),(τ,7),(τ,8),(ο,9)] [9] ?_));refine DD ?_;refine DX (Dx (m:=1) (i:=i*4+1) (v:=ε ζ bw.ho) (DN (k:=0) rfl) rfl (Gi FW hbw AL)) ?_;refine DD ?_;refine Jl [.blk b3 182 [ε υ (e.h:Int),ε ζ e.ow,ε ζ e.tag,ε ζ e.off,ε ζ e.len],.row (ξ (σ ⟨g,0,ν⟩) n c) 117 4 n (EN lo)] (Da (x1.E_ j)) (by unfold Da;rw[Dp (x:=x1.E_ j) (b:=x.b) hb1];exact BQ (l₁:=[_,_]) (l₂:=[_,_])) Nu (λi=>Da (x1.E_ i)) _ (λw hw=>Sj (x1.E_ j) (b:=x.b) hb1 bw.ho Q1 (show j.l.length<=_ by omega) ⟨AUn,AUn,AUu⟩ (show ∀s∈j.l,s.q.ok from hsi.1) w hw) ?_;intro j2 hj2;unfold Da Nu;rw[Dp (x:=x1.E_ j2) (b:=x.b) hb1];refine EM ?_;have hj3:j2.l=(KI j.l bw.ho Q1).2:=AT4 ASY hj2;refine DD (k1 _ _ ?_);refine DY [3,0,1,2] ?_;refine Cy rfl (DD ?_);refine⟨⟨i+1,j2,?_⟩,?_⟩
  ·refine DU @Af ?_;exact⟨by omega,by rw[xC,<-hj];exact hj3⟩
  ·exact AXo
 refine Dr (k0 _ _ ?_);have hin2:i=n:=by have:=AUD ‹decide ((i:Int)<(n:Int))=ο›;omega
 subst hin2;rw[Aw AL]at hj hsi;refine DY [1,2,3] ?_;refine DC [0,3,4] λG4 g4=>?_;replace g4:=Dy g4;obtain⟨x2,hx2⟩:∃x2,x1.E_ j=x2:=⟨_,rfl⟩;have hb2:x2.b=x.b:=by rw[<-hx2];exact hb1
 have hm2:x2.mt=j.l:=by rw[<-hx2];rfl
 rw[hx2];refine Cw λK k0=>FD [2] [(τ,0),(τ,1),(τ,2),(τ,3),(τ,4),(τ,5),(τ,6),(τ,7),(τ,8),(ο,9)] [9] ?_;replace zg:=Bd.mk (AO g2 (AO g3 g4));refine DD ?_;refine Jl [.blk b3 182 [ε υ (e.h:Int),ε ζ e.ow,ε ζ e.tag,ε ζ e.off,ε ζ e.len]] (Da x2) (by unfold Da;rw[Dp hb2];exact BQ (l₁:=[_]) (l₂:=[_,_])) Nu (λi=>Da (x2.E_ i)) _ (λw hw=>Sj x2 hb2 e.ow (Tw e) (by rw[hm2];omega) ⟨⟨hel.1,by show e.len<=_;omega⟩,AUu,AUn⟩ (by rw[hm2];exact hsi.1) w hw) ?_;intro m hmm;unfold Nu;obtain⟨x3,hx3⟩:∃x3,x2.E_ m=x3:=⟨_,rfl⟩;have hb3:x3.b=x.b:=by rw[<-hx3];exact hb2
 rw[hx3];unfold Da;rw[Dp hb3];refine EM ?_;have hu3:x3.us=x.us:=by rw[<-hx3,<-hx2,<-hx1];rfl
 have ht3:x3.tb=x.tb:=by rw[<-hx3,<-hx2,<-hx1];rfl
 refine DD (k0 _ _ ?_);refine Cw λK k0=>FD [2] [(τ,0),(τ,1),(τ,2),(τ,3),(τ,4),(ο,5)] [5] ?_;refine DD ?_;refine Jl [.blk b3 182 [ε υ (e.h:Int),ε ζ e.ow,ε ζ e.tag,ε ζ e.off,ε ζ e.len]] (Da x3) (by unfold Da;rw[Dp hb3];exact BQ (l₁:=[_]) (l₂:=[_,_])) (λ_:Si=>ε ζ (if (⟨e.off,e.len⟩:Ext)∈x3.us then 0 else 6)) (λu=>Da (x3.Mf u)) _ (λw hw=>tZ x3 hb3 ⟨e.off,e.len⟩ (by rw[hu3];exact hu) w hw) ?_;rintro u ⟨-,-,huu⟩;rw[hu3]at huu;obtain⟨x4,hx4⟩:∃x4,x3.Mf u=x4:=⟨_,rfl⟩;have hb4:x4.b=x.b:=by rw[<-hx4];exact hb3
 rw[hx4];unfold Da;rw[Dp hb4];refine EM ?_;have ht4:x4.tb=x.tb:=by rw[<-hx4];exact ht3
 refine DD (k0 _ _ ?_);refine Cw λK k0=>FD [0,2] [(τ,0),(τ,1),(τ,2),(τ,3),(τ,4),(τ,5),(ο,6)] [6] ?_;refine DD ?_;refine Jl [.blk b3 182 [ε υ (e.h:Int),ε ζ e.ow,ε ζ e.tag,ε ζ e.off,ε ζ e.len]] (Da x4) (by unfold Da;rw[Dp hb4];exact BQ (l₁:=[_]) (l₂:=[_,_])) (λ_:Ir=>ε ζ (GU x4.tb e.h)) (λt=>Da (x4.Kh t)) _ (λw hw=>yz x4 e.h hh k (by rw[ht4];exact hi) w hw) ?_;intro t htt;rw[ht4]at htt;obtain⟨x5,hx5⟩:∃x5,x4.Kh t=x5:=⟨_,rfl⟩;have hb5:x5.b=x.b:=by rw[<-hx5];exact hb4
 rw[hx5];unfold Da;rw[Dp hb5];refine EM ?_;have ACD:x5.Fw=x.Fw:=by rw[<-hx5,<-hx4,<-hx3,<-hx2,<-hx1];rfl
 have AO3:x5.bn=x.bn:=by rw[<-hx5,<-hx4,<-hx3,<-hx2,<-hx1];rfl
 refine DD (k0 _ _ ?_);refine DY [0,1] ?_;refine DC [0,4] λG5 g5=>?_;replace g5:=Dy g5;refine Eo [.blk x.b 97 [x5.y0,x5.y1,x5.y2,x5.y3,x5.y4,x5.y5,x5.y6,x5.y7,x5.y8,ξ x5.TA x5.tn x5.tc,ε ζ x5.N,ξ x5.UA x5.un x5.uc,π (σ ⟨x5.tb.tb,0,ν⟩),ξ x5.LA x5.ln x5.lc,ε ζ x5.lim.qb,ε ζ x5.lim.qo,ε ζ x5.lim.qr,ξ x5.MA x5.mn x5.mc,ε ζ x5.cap,ξ x5.EA x5.en x5.ec,ξ x5.SA x5.sn x5.sc,ξ x5.BA x5.bn x5.bc,ξ (σ ⟨x5.g,0,ν⟩) 65 65],.row (ξ x5.BA x5.bn x5.bc) 38 1 x5.bn (x5.Fw.flatMap O4),Dk ((Fx x5).eraseIdx 6)] (λw hw=>hw.IG (k:=6) rfl) ?_;obtain⟨BA,aO⟩:∃BA,x5.BA=BA:=⟨_,rfl⟩;rw[aO];have hsl:De e.h<x5.bn:=by omega
 refine EL 1 rfl AL λgB F7 hgB EX=>?_;subst F7;replace hgB:=AAM (AO hgB EX);clear EX;have hset:(x5.Fw.flatMap O4).set (De e.h) (ξ ν 0 0)=(x5.Fw.set (De e.h) I9).flatMap O4:=by
  have hsl2:De e.h<x5.Fw.length:=by rw[ACD];omega
  have h9:=Tm (f:=O4) (s:=1) I4 (k:=0) AL (v:=ξ ν 0 0) (x:=x5.Fw[De e.h]) (y:=I9) rfl (AQ hsl2);simpa using h9
 refine DJ rfl ?_;replace zg:=Bd.mk (AO g2 (AO g3 g5));refine DD ?_;refine DX (JB 1 (i:=De e.h) (v:=ξ ν 0 0) rfl (by rw[GN I4,ACD];omega) AF rfl rfl) ?_;refine DU hset ?_;refine⟨_,rfl,λw hw=>?_⟩;rw[<-aO]at hw;have h6:=hw.IL (k:=6) _ (by show 6<11;decide);have h10:=(h6.IG (k:=10) rfl).swp;have h11:=(ACC (s:=De e.h) (by rw[ACD];omega) h10).swp.IL (k:=10) _ (by show 10<11;decide);refine⟨x5.Mg (x5.Fw.set (De e.h) I9),rfl,⟨l,m,u,t,⟨hl1,?_,huu,htt,?_⟩⟩,?_⟩
 ·rw[hlo,<-hj,<-hm2];exact AT4 ASY hmm
 ·rw[ACD,<-hx5,<-hx4,<-hx3,<-hx2,<-hx1];rfl
 ·unfold Da;rw[Dp (x:=x5.Mg (x5.Fw.set (De e.h) I9)) (b:=x.b) hb5];exact h11
theorem Sn{x h}(h1:De h<x.en)(h2:Ej x.s (De h)=τ)(h3:Gt x.s (De h)=(Mr h:Int))(h4:(ET x (De h)).h=h):GU x h=0:=by
 unfold GU;rw[ATt AL,ATt (λhn=>hn ⟨h2,h3⟩),ATt (λhn=>hn h4)]
structure EnI(x:Ir)(s:Nat):Prop where
 sl:De (ET x s).h=s
 ok:GU x (ET x s).h=0
 hh:(ET x s).h<18446744073709551616
structure TbE(x:Ir):Prop where
 live:∀s,Ej x.s s=τ->EnI x s
 len:∀s,0<=(ET x s).len/\(ET x s).len<=65536
theorem pQ{x k s}(hi:QR x k)(h:Ej x.s s=τ):s<x.en:=by
 unfold Ej at h;cases hq:x.s.Fh[s]? with
 |none=>rw[hq]at h;cases h
 |some v=>have:=(Ab.1 hq).1;have:=hi.l;omega
def zC(x:Ir)(k:Nat):List Nat:=(List.range k).filter λi=>Ej x.s i
theorem aP x k:KH x k=(zC x k).map λi=>ET x i:=rfl
structure FrK(x y:Dc):Prop where
 b:y.b=x.b
 E:y.tb.E=x.tb.E
 gen:y.tb.s.gen=x.tb.s.gen
 en:y.tb.en=x.tb.en
 tb:y.tb.tb=x.tb.tb
 bn:y.bn=x.bn
 us:y.us.length<=x.us.length
 l:y.l.length<=x.l.length
 sv:y.sv=x.sv
 es:y.es=x.es
 ms:y.ms=x.ms
 cap:y.cap=x.cap
theorem uA.keep{x y e l m u t}(h:uA x y e l m u t)(he:GU x.tb e.h=0):FrK x y:=by
 have hr:=h.ft.r;rw[ATv he]at hr;have h1:l.l.length<=x.l.length:=by rw[h.fl];exact Ap _ _
 have h2:u.us.length<=x.us.length:=by rw[h.fu];exact Ap _ _
 have h3:=h.ft.E;have h4:=h.ft.k.en;have h5:=h.ft.k.tb;have h6:=hr.2.1;rw[h.fy];clear h;constructor<;>simp only[Dc.Mg,Dc.Kh,Dc.Mf,Dc.E_,Dc.Hg]<;>assumption
theorem uA.AKX{x y e l m u t}(h:uA x y e l m u t)(hok:∀s∈x.mt,s.q.ok)(hel:0<=e.len/\e.len<=65536):(∀s∈y.mt,s.q.ok)/\y.mt.length<=x.mt.length+x.l.length+1:=by
 have h1:=Tx hok (NT x.l (De e.h));obtain⟨q2,hq2⟩:∃q2,KI (Je x.mt (NT x.l (De e.h))) e.ow (Tw e)=q2:=⟨_,rfl⟩;have hfm:=h.fm;rw[hq2]at hfm;have h2:=XB (p:=e.ow) (q:=Tw e) (r:=q2.1) (l':=q2.2) ⟨⟨hel.1,by show e.len<=_;omega⟩,AUu,AUn⟩ h1.1 (hq2.trans (Prod.eta q2).symm);have h3:(NT x.l (De e.h)).length<=x.l.length:=Ap _ _;rw[<-hfm]at h2;have h4:=h2.2;have h5:=h1.2;have h6:y.mt=m.l:=by rw[h.fy];simp only[Dc.Mg,Dc.Kh,Dc.Mf,Dc.E_,Dc.Hg]
 rw[h6];exact⟨h2.1,by omega⟩
theorem uA.AKY{x y e l m u t}(h:uA x y e l m u t)(he:GU x.tb e.h=0)s(hs:s≠De e.h):Ej y.tb.s s=Ej x.tb.s s:=by
 have hr:=h.ft.r;rw[ATv he]at hr;have h6:y.tb=t:=by rw[h.fy];simp only[Dc.Mg,Dc.Kh,Dc.Mf,Dc.E_,Dc.Hg]
 rw[h6];unfold Ej;rw[hr.2.2.1,CX (AS5 hs)]
inductive Px:Dc->Dc->List En->Prop
 |nil (x:Dc):Px x x []
 |snoc {x y z:Dc} {es:List En} {e:En} {l:M4} {m:Pp} {u:Si} {t:Ir} : Px x y es->uA y z e l m u t->GU y.tb e.h=0->Px x z (es++[e])
structure zD(x y:Dc)(k i:Nat)(L:List Nat):Prop where
 b:y.b=x.b
 E:y.tb.E=x.tb.E
 gen:y.tb.s.gen=x.tb.s.gen
 en:y.tb.en=x.tb.en
 bn:y.bn=x.bn
 us:y.us.length<=x.us.length
 l:y.l.length<=x.l.length
 sv:y.sv=x.sv
 es:y.es=x.es
 ms:y.ms=x.ms
 cap:y.cap=x.cap
 tb:QR y.tb (k+i)
 mt:y.mt.length<=x.mt.length+i*(x.l.length+1)
 VT:∀s∈y.mt,s.q.ok
 Fh:∀j,i<=j→∀s,L[j]?=σ s->Ej y.tb.s s=τ
theorem Ty{x y}(h:y.E=x.E)s:ET y s=ET x s:=by unfold ET;rw[h]
theorem zD.res{x y k i L}(h:zD x y k i L)(hE:TbE x.tb)(hL:∀s∈L,Ej x.tb.s s=τ){s}(hs:L[i]?=σ s):GU y.tb (ET x.tb s).h=0/\De (ET x.tb s).h=s:=by
 have h1:=hE.live s (hL s (AU hs));obtain⟨r1,r2,r3,r4⟩:=GZ h1.ok;refine⟨Sn (by rw[h.en];exact r1) (by rw[h1.sl];exact h.Fh i (Ay _) s hs) ?_ ?_,h1.sl⟩
 ·rw[<-r3];unfold Gt;rw[h.gen]
 ·rw[Ty h.E];exact r4
theorem zD.skip{x y k i L}(h:zD x y k i L)(hk:k+i<10000):zD x y k (i+1) L :=
 ⟨h.b,h.E,h.gen,h.en,h.bn,h.us,h.l,h.sv,h.es,h.ms,h.cap,h.tb.up AL hk,by have:=h.mt;rw[ASh];omega,h.VT,λj hj=>h.Fh j AL⟩
theorem zD.free{x y z k i L}(h:zD x y k i L)(hk:k+i<10000)(hE:TbE x.tb)(hL:∀s∈L,Ej x.tb.s s=τ)(hnd:L.Nodup){s}(hs:L[i]?=σ s){l m u t}(hr:uA y z (ET x.tb s) l m u t):zD x z k (i+1) L:=by
 obtain⟨h1,h2⟩:=h.res hE hL hs;have hk1:=hr.keep h1;have hm:=hr.AKX h.VT (hE.len s);refine⟨hk1.b.trans h.b,hk1.E.trans h.E,hk1.gen.trans h.gen,hk1.en.trans h.en,hk1.bn.trans h.bn,AGn hk1.us h.us,AGn hk1.l h.l,hk1.sv.trans h.sv,hk1.es.trans h.es,hk1.ms.trans h.ms,hk1.cap.trans h.cap,?_,?_,hm.1,?_⟩
 ·have h3:=QR.drop h.tb hk hr.ft;have h6:z.tb=t:=by rw[hr.fy];simp only[Dc.Mg,Dc.Kh,Dc.Mf,Dc.E_,Dc.Hg]
  rw[h6];exact h3
 ·have:=h.mt;have:=h.l;have:=hm.2;rw[ASh];omega
 ·intro j hj s2 hs2;have hne:s2≠s:=by
   intro e;subst e;obtain⟨a1,a2⟩:=Ab.1 hs;obtain⟨b1,b2⟩:=Ab.1 hs2;exact Cj.1 hnd i j a1 b1 AL (a2.trans b2.symm)
  rw[hr.AKY h1 s2 (by rw[h2];exact hne)];exact h.Fh j AL s2 hs2
def zF:=AO (AO (AO (AO @Ac @DT) (AO @KM @cM)) (AO (AO @Ey @Ez) (AO @E5 (AO @E8 @E9)))) (AO (AO (AO @Et @Eu) (AO @FK @FO)) (AO (AO @EZ @Ea) (AO @VB.eq_1 (AO @lK.eq_1 @sO.eq_1))))
def zG(n:Nat):Qu:=⟨0,0,(n:Int)⟩
structure ll where
 n:Nat
 er:Int
 y:Dc
def Ut(i:ll):Value:=.tuple #[ε ζ (i.n:Int),ε ζ i.er]
structure EdG(x y:Dc)(p:Int)(n:Nat)(l:M4)(m:Pp)(x3:Dc)(es:List En)(ei:vP):Prop where
 fl:l.l=x.l.filter λb => !decide (b.ho=p)
 fm:(m.r,m.l)=KI x.mt p (zG (IX x.l p))
 fe:es=(KH x.tb x.tb.en).filter λe=>decide (e.ow=p)
 fr:Px ((x.Hg l).E_ m) x3 es
 lp:∃k i,zD ((x.Hg l).E_ m) x3 k i (zC x.tb x.tb.en)
 fn:n=es.length
 ev:(ei.r,ei.es)=Q9 x.cap x.es ⟨p,33,0,n,0⟩
 fy:y=(x3.Sm (x.sv.set p.toNat 2)).NI ei
structure EdR(x:Dc)(p:Int)(i:ll):Prop where
 r:if Fy x.sv p=ο then i.n=0/\i.er=15/\i.y=x else i.er=0∧∃l m x3 es ei,EdG x i.y p i.n l m x3 es ei
theorem GH{sv p}(h:Fy sv p=τ):1<=p/\p<=64:=by
 unfold Fy at h;simp at h;exact⟨h.1,h.2.1⟩
theorem Y5 l p:IX l p<=l.length:=Ap _ _
theorem ACE x{b}(hb:x.b=b)p k(hk:k<=9900)(hi:QR x.tb k)(hE:TbE x.tb)(hsm:x.tb.en<=8)(hl:x.l.length<=1000)(hm:x.mt.length<=60000)(hok:∀s∈x.mt,s.q.ok)(hu:x.us.length<=90)(hbn:x.bn=x.tb.en)(hes:x.es.length<=80000)W(hst:St (DV (Da x)) W (Da x) W):
  Calls AGm 97 #[π (σ ⟨b,0,ν⟩),ε ζ p] W
  λen w' => ∃i:ll,en=κ (Ut i)/\EdR x p i/\St (DV (Da x)) W (Da i.y) w':=by
 subst hb;have hsv:=Dc.svl hst;obtain⟨M,hM⟩:∃M,DV (Da x)=M:=⟨_,rfl⟩;rw[hM]at hst ⊢;clear hM;unfold Da Fj at hst;refine DL (M:=M) Tryz.func97 [.tmp 4,.tmp 5]  hst ?_;have zs:=Bd.mk zF;refine DZ ?_;refine DC [0,1] λG1 g1=>?_;replace g1:=EK g1;refine Cw λK k0=>C9 rfl λK k1=>?_;have zg:=Bd.mk g1;refine DD ?_;refine EW (Da x) (BB _) (λ_:Unit=>θ (Fy x.sv p)) _ (λw hw=>MM x rfl p w hw) ?_;intro _ _;refine DD (k1 _ _ ?_);refine C_ ?_;cases ha:Fy x.sv p with
 | false =>
  refine DU ha ?_;refine Db ?_;refine C8 (EP λw hw=>?_);exact⟨⟨0,15,x⟩,rfl,⟨by rw[ATv ha];exact⟨rfl,rfl,rfl⟩⟩,hw⟩
 |true =>
 refine DU ha ?_;refine Cz (k0 _ _ ?_);have hpr:=GH ha;refine Cw λK k0=>FD [] [(τ,0),(τ,1),(τ,2),(τ,3),(τ,4),(τ,5),(τ,6),(τ,7),(ο,8),(τ,9),(ο,10)] [10] ?_;refine DD ?_;refine Dh (λ_:M4=>ε ζ (IX x.l p:Int)) (λl=>Da (x.Hg l)) _ (λw hw=>YF x rfl p AL w hw) ?_;intro l hll;obtain⟨x1,hx1⟩:∃x1,x.Hg l=x1:=⟨_,rfl⟩;have hb1:x1.b=x.b:=by rw[<-hx1];rfl
 rw[hx1];unfold Da;rw[Dp hb1];refine EM ?_;have hm1:x1.mt=x.mt:=by rw[<-hx1];rfl
 have hhl:=Y5 x.l p;refine DD ?_;refine Jl [] (Da x1) AV_ Nu (λi=>Da (x1.E_ i)) _ (λw hw=>Sj x1 hb1 p (zG (IX x.l p)) (by rw[hm1];omega) ⟨AUn,AUn,AWO⟩ (by rw[hm1];exact hok) w hw) ?_;intro m hmm;unfold Nu;obtain⟨x2,hx2⟩:∃x2,x1.E_ m=x2:=⟨_,rfl⟩;have hb2:x2.b=x.b:=by rw[<-hx2];exact hb1
 rw[hx2];unfold Da;rw[Dp hb2];refine EM ?_;have ht2:x2.tb=x.tb:=by rw[<-hx2,<-hx1];rfl
 refine DD (k0 _ _ ?_);refine DC [0,1] λG2 g2=>?_;replace g2:=Dy g2;refine C9 rfl λK k0=>?_;replace zg:=Bd.mk g2;refine DD ?_;refine Jl [] (Da x2) (by unfold Da;rw[Dp hb2];exact CF _) lK (λi=>.row (ξ i.A i.n i.c) 182 5 i.n (FJ (KH x2.tb x2.tb.en))::Da x2) _ (λw hw=>pI x2 k (by rw[ht2];exact hi) w hw) ?_;rintro⟨A,n,c⟩ hn;dsimp only at hn ⊢;unfold Da;rw[Dp hb2];refine EM ?_;refine DD (k0 _ _ ?_);obtain⟨S,hS⟩:∃S,zC x2.tb x2.tb.en=S:=⟨_,rfl⟩;obtain⟨E0,hE0⟩:∃E0,KH x2.tb x2.tb.en=E0:=⟨_,rfl⟩;have hES:E0=S.map λi=>ET x2.tb i:=by rw[<-hE0,<-hS];exact aP _ _
 have hlen:=SY x2.tb x2.tb.en;rw[hE0]at hn hlen;rw[hE0];have AO8:x2.tb.en<=8:=by rw[ht2];exact hsm
 have hSl:∀s∈S,Ej x2.tb.s s=τ:=λs hs=>by rw[<-hS]at hs;exact(Bl.1 hs).2
 have hSn:S.Nodup:=by rw[<-hS];exact List.Pairwise.filter _ List.nodup_range
 have hE2:TbE x2.tb:=by rw[ht2];exact hE
 have hl2:x2.l.length<=1000:=by
  rw[<-hx2,<-hx1];show l.l.length<=1000;rw[hll];exact AGn (Ap _ _) hl
 have hm2:=XB (p:=p) (q:=zG (IX x.l p)) (r:=m.r) (l':=m.l) ⟨AUn,AUn,AWO⟩ hok (by rw[<-hm1];exact hmm.symm);have AHb:x2.mt=m.l:=by rw[<-hx2];rfl
 have AKZ:x2.us=x.us:=by rw[<-hx2,<-hx1];rfl
 have AKa:x2.bn=x.bn:=by rw[<-hx2,<-hx1];rfl
 have AKb:x2.sv=x.sv:=by rw[<-hx2,<-hx1];rfl
 have zH:x2.es=x.es:=by rw[<-hx2,<-hx1];rfl
 have hcp2:x2.cap=x.cap:=by rw[<-hx2,<-hx1];rfl
 have h0:zD x2 x2 k 0 S:=⟨rfl,rfl,rfl,rfl,rfl,Ay _,Ay _,rfl,rfl,rfl,rfl,by rw[ht2];exact hi,by omega,by rw[AHb];exact hm2.1,λj _ s hs=>hSl s (AU hs)⟩;refine Db ?_;refine Cw λK k0=>Db ?_;refine DC [0,1,6,7,8] λG3 g3=>?_;replace g3:=Dy g3;refine DK ?_;refine Dv (λF' L' => ∃(i:Nat)(y:Dc)(cn:Nat),EH F' G3 [0,1,6]/\F' 7=ε ζ (cn:Int)/\F' 8=ε ζ (i:Int)/\L'=[.row (ξ A n c) 182 5 n (FJ E0),.blk x.b 97 [y.y0,y.y1,y.y2,y.y3,y.y4,y.y5,y.y6,y.y7,y.y8,ξ y.TA y.tn y.tc,ε ζ y.N,ξ y.UA y.un y.uc,π (σ ⟨y.tb.tb,0,ν⟩),ξ y.LA y.ln y.lc,ε ζ y.lim.qb,ε ζ y.lim.qo,ε ζ y.lim.qr,ξ y.MA y.mn y.mc,ε ζ y.cap,ξ y.EA y.en y.ec,ξ y.SA y.sn y.sc,ξ y.BA y.bn y.bc,ξ (σ ⟨y.g,0,ν⟩) 65 65],Dk (Fx y)]/\i<=n/\zD x2 y k i S/\Px x2 y ((E0.take i).filter λe=>decide (e.ow=p))/\cn=((E0.take i).filter λe=>decide (e.ow=p)).length) (λF' L'=>200000-(intOf (F' 8)).toNat) ?_ ?_
 ·refine⟨0,x2,0,?_⟩;replace zg:=Bd.mk g3;refine DD ?_;exact⟨Ar _,h0,Px.nil _,rfl⟩
 intro G4 L' hI;obtain⟨i,y,cn,zq,Pg,SG,rfl,⟨hin,hlp,hfa,hcn⟩⟩:=hI;replace zg:=Bd.mk g3;have g4:=AO (Dy zq) (AO Pg SG);refine Cw λK k1=>?_;replace zg:=Bd.mk (AO g3 g4);refine Db ?_;refine Ec (λhc=>?_) λhc=>?_
 ·refine Cz ?_;try simp only[Di,Dq]
  have hit:i<n:=by have:=AT0 ‹decide ((i:Int)<(n:Int))=τ›;omega
  have AO_:E0.length=n:=by omega
  obtain⟨s,hs⟩:∃s,S[i]?=σ s:=⟨_,AQ (by have:=AT4 CP hES;rw[BF]at this;omega)⟩;obtain⟨e,he⟩:∃e,ET x2.tb s=e:=⟨_,rfl⟩;have MZ:E0[i]?=σ e:=by rw[hES,BZ,hs,<-he];rfl
  obtain⟨r1,r2⟩:=hlp.res hE2 hSl hs;have hEs:=hE2.live s (hSl s (AU hs));have hfs:=Il MZ (λe=>decide (e.ow=p));rw[he]at r1 r2;have hh:=hEs.hh;have hel:=hE2.len s;rw[he]at hh hel;have hi8:i<8:=by omega
  have hcb:cn<=8:=by
   have h1:=Ap (λe:En=>decide (e.ow=p)) (E0.take i);rw[<-hcn,Al]at h1;omega
  have APB:y.mt.length<=70000:=by
   have h1:=hlp.mt;have h2:=hm2.2;rw[<-AHb]at h2;have h3:i*(x2.l.length+1)<=8*1001:=Nat.mul_le_mul AL AL;omega
  refine k1 _ _ (EL 0 rfl AL λg F7 hg EX=>?_);subst F7;replace hg:=AAM (AO hg EX);clear EX;refine Cw λK k1=>DK (C9 rfl λK k2=>DD ?_);refine DX (Dx (m:=1) (i:=i*5+1) (v:=ε ζ e.ow) (DN (k:=0) rfl) rfl (Gi Gu MZ AL)) ?_;refine DD (k2 _ _ ?_);refine C_ ?_;by_cases hp:e.ow=p
  case neg =>
   rw[ATt (by simpa using hp),BX]at hfs;refine DU hp ?_;refine Cz (k1 _ _ (Cy rfl (DD ?_)));refine⟨⟨i+1,y,cn,?_⟩,?_⟩
   ·refine DU @Af ?_;exact⟨by omega,hlp.skip AL,by rw[hfs];exact hfa,by rw[hfs];exact hcn⟩
   ·exact AXo
  rw[ATv (by simpa using hp)]at hfs;have dp:decide (e.ow=p)=τ:=AUB hp;refine DU dp ?_;refine C9 rfl λK k2=>DD ?_;refine DX (IJ (i:=i*5) (vs:=enc e) (DN (k:=0) rfl) AF (K5 Gu MZ)) ?_;refine DD ?_;simp only[enc,Av,Bf,AT1];refine Jl [.row (ξ (σ ⟨g,0,ν⟩) n c) 182 5 n (FJ E0)] (Da y) (by unfold Da;rw[Dp (hlp.b.trans hb2)];exact CF _) (λ_:Dc=>.tuple #[]) (λz=>Da z) _ (λw hw=>iD y (hlp.b.trans hb2) e r1 hh (k+i) hlp.tb (AGn hlp.l hl2) AL hlp.VT (by have:=hlp.us;rw[AKZ]at this;omega) hel (by rw[hlp.bn,AKa,hbn,hlp.en,ht2]) w hw) ?_;rintro z ⟨lz,mz,uz,tz,hz⟩;have hzb:z.b=x.b:=(hz.keep r1).b.trans (hlp.b.trans hb2);unfold Da;rw[Dp hzb];refine EM ?_;refine DD (k2 _ _ ?_);refine DY [2,0,1] ?_;refine DJ rfl (DD (k1 _ _ ?_));refine Cy rfl (DD ?_);refine⟨⟨i+1,z,cn+1,?_⟩,?_⟩
  ·refine DU @Af ?_;refine⟨by omega,hlp.free AL hE2 hSl hSn hs (by rw[he];exact hz),by rw[hfs];exact hfa.snoc hz r1,by rw[hfs,Ag,BI,<-hcn]⟩
  ·exact AXo
 refine Dr (k0 _ _ ?_);have hin2:i=n:=by have:=AUD ‹decide ((i:Int)<(n:Int))=ο›;omega
 subst hin2;rw[Aw AL]at hfa hcn;have hcb:cn<=8:=by
  have h1:=Ap (λe:En=>decide (e.ow=p)) E0;rw[<-hcn]at h1;omega
 obtain⟨np,hnp⟩:∃np:Nat,p=(np:Int):=⟨p.toNat,by omega⟩;have hyv:y.sv=x.sv:=hlp.sv.trans AKb;have hyb:y.b=x.b:=hlp.b.trans hb2;refine DY [1,2] ?_;refine DC [0,1,7] λG5 g5=>?_;replace g5:=Dy g5;refine Eo [.blk x.b 97 [y.y0,y.y1,y.y2,y.y3,y.y4,y.y5,y.y6,y.y7,y.y8,ξ y.TA y.tn y.tc,ε ζ y.N,ξ y.UA y.un y.uc,π (σ ⟨y.tb.tb,0,ν⟩),ξ y.LA y.ln y.lc,ε ζ y.lim.qb,ε ζ y.lim.qo,ε ζ y.lim.qr,ξ y.MA y.mn y.mc,ε ζ y.cap,ξ y.EA y.en y.ec,ξ y.SA y.sn y.sc,ξ y.BA y.bn y.bc,ξ (σ ⟨y.g,0,ν⟩) 65 65],.row (ξ (σ ⟨y.g,0,ν⟩) 65 65) 3 1 65 (D8 y.sv),Dk ((Fx y).eraseIdx 7)] (λw hw=>hw.IG (k:=7) rfl) (EL 1 rfl AL λgN_ F7 y_ hN=>?_);cases F7;clear y_;replace hN:=AAM hN;have hset:(D8 y.sv).set np (ε ζ 2)=D8 (y.sv.set np 2):=Ma _ _ _;refine C9 rfl λK k0=>?_;replace zg:=Bd.mk (AO g3 (AO g4 g5));refine DU hnp ?_;refine DX (JB 1 (i:=np) (v:=ε ζ 2) rfl (by rw[EY,hyv];omega) AF rfl rfl) ?_;refine DU hset (k0 _ _ ?_);obtain⟨y1,hy1⟩:∃y1,y.Sm (y.sv.set np 2)=y1:=⟨_,rfl⟩;have AFL:y1.b=x.b:=by rw[<-hy1];exact hyb
 have AHc:y1.es=x.es:=by rw[<-hy1];exact hlp.es.trans zH
 have AKc:y1.cap=x.cap:=by rw[<-hy1];exact hlp.cap.trans hcp2
 refine Eo (Da y1) (λw hw=>by have h1:=hw.IL (k:=7) _ AWQ;unfold Da;rw[Dp AFL,<-hy1];exact h1) ?_;unfold Da;rw[Dp AFL];have hw64:IntKind.u64.wrap (cn:Int)=(cn:Int):=xE AL;refine C9 rfl λK k0=>DU hw64 ?_;refine Jl [] (Da y1) (by unfold Da;rw[Dp AFL];exact CF _) Z_ (λi=>Da (y1.NI i)) _ (λw hw=>RG y1 AFL ⟨p,33,0,cn,0⟩ (AHc▸(AGn hes AJ)) w hw) ?_;intro ei hei;unfold Z_;refine DD (k0 _ _ ?_);refine Db ?_;refine C8 (EP λw hw=>?_);rw[AHc,AKc]at hei;rw[ht2]at hE0 hS;have hfy:y1.NI ei=(y.Sm (x.sv.set p.toNat 2)).NI ei:=by rw[<-hy1,hnp,Bo,hyv]
 exact⟨⟨cn,0,y1.NI ei⟩,rfl,⟨by rw[ATt (by rw[ha];decide)];exact⟨rfl,l,m,y,E0.filter λe=>decide (e.ow=p),ei,⟨hll,by rw[<-hm1];exact hmm,by rw[hE0],by rw[hx1,hx2];exact hfa,⟨k,i,by rw[hx1,hx2,hS];exact hlp⟩,hcn,hei,hfy⟩⟩⟩,hw⟩
theorem AHd op a b:0<=bits op υ a b/\bits op υ a b<18446744073709551616:=by
 unfold bits;dsimp only;rw[IntKind.wrap_u64];omega
def zI(off n:Int)(size:Nat):Bool:=decide (0<=off/\off<=(size:Int)/\n<=(size:Int)-off)
theorem LB off n(size:Nat)(hs:size<=4611686018427387904)W:Calls AGm 226 #[ε ζ off,ε ζ n,ε ζ (size:Int)] W λen w'=>en=κ (θ (zI off n size))/\Below W.heap.size W w':=by
 refine DL (M:=[]) Tryz.func226 [.tmp 6] (St.nil _ _) ?_;have zs:=Bd.mk FR;refine DZ ?_;by_cases h1:0<=off
 case neg =>
  have d1:¬(off≥0):=h1;have ha:zI off n size=ο:=AUC (λh=>h1 h.1);refine Mo d1 ?_;refine C8 (Eg λw hw=>?_);exact⟨by rw[ha],hw.below⟩
 have d1:decide (off≥0)=τ:=AUB h1;by_cases h2:off<=(size:Int)
 case neg =>
  have ha:zI off n size=ο:=AUC (λh=>h2 h.2.1);refine Mo (AO d1 h2) ?_;refine C8 (Eg λw hw=>?_);exact⟨by rw[ha],hw.below⟩
 have d2:decide (off<=(size:Int))=τ:=AUB h2;have ha:zI off n size=decide (n<=(size:Int)-off):=by
  unfold zI;exact AUg.2 ⟨λh=>h.2.2,λh=>⟨h1,h2,h⟩⟩
 refine Mo (AO d1 d2) ?_;refine C8 (Eg λw hw=>?_);exact⟨by rw[ha],hw.below⟩
theorem zJ v(wd:Nat)W:Calls AGm 225 #[ε υ v,ε ζ (wd:Int)] W λen w'=>(∃b:Bool,en=κ (θ b)/\True)/\Below W.heap.size W w':=by
 refine DL (M:=[]) Tryz.func225 [.tmp 4] (St.nil _ _) ?_;have zs:=Bd.mk FR;refine DZ ?_;by_cases h1:8<=wd
 ·have d1:decide ((wd:Int)≥8)=τ:=AUB AL;refine Mo d1 ?_;refine C8 (Eg λw hw=>?_);exact⟨⟨τ,rfl,trivial⟩,hw.below⟩
 have d1:¬((wd:Int)≥8):=by omega
 refine C9 rfl λK k0=>?_;simp -implicitDefEqProofs (disch:=first|omega|decide) only [seval,-Int.reducePow,-Nat.reducePow,cC,pv,D5,EH,undef,FR,d1,IntKind.bits];refine k0 _ _ (C8 (Eg λw hw=>?_));exact⟨⟨_,rfl,trivial⟩,hw.below⟩
theorem Uu A n c l W(hE:Sl W W.heap.size 1 A n c (Gf l))(hn:n<=100000):Calls AGm 153 #[ξ A n c] W λen w'=>(∃v:Int,en=κ (ε υ v)/\0<=v/\v<18446744073709551616)/\Below W.heap.size W w':=by
 have hlen:l.length=n:=by have:=hE.len;rw[Jz]at this;omega
 refine DL (M:=[]) Tryz.func153 [.tmp 2] (St.nil _ _) ?_;have zs:=Bd.mk FR;refine DZ ?_;refine DZ ?_;refine Cw λK k0=>DZ ?_;refine DC [0,3,4] λG1 g1=>?_;replace g1:=EK g1;refine DK ?_;refine Dv (λF' L' => ∃(j:Nat)(v:Int),F' 0=G1 0/\F' 3=ε υ v/\F' 4=ε ζ ((j:Int)-1)/\L'=[]/\j<=n/\0<=v/\v<18446744073709551616) (λF' L'=>(intOf (F' 4)+1).toNat) ?_ ?_
 ·refine⟨n,0,?_⟩;have zg:=Bd.mk g1;exact dP
 intro G2 L' hI;obtain⟨j,v,Nk,Tn,Qd,rfl,⟨hj,hv0,hv1⟩⟩:=hI;have zg:=Bd.mk g1;have g2:=AO (Dy Nk) (AO Tn Qd);refine Cw λK k1=>?_;replace zg:=Bd.mk (AO g1 g2);refine Db ?_;refine Ec (λhc=>?_) λhc=>?_
 ·refine Cz ?_;try simp only[Di,Dq]
  have hj1:1<=j:=by have:=AT0 ‹decide ((j:Int)-1≥0)=τ›;omega
  obtain⟨m,rfl⟩:∃m,j=m+1:=⟨j-1,by omega⟩;have hm1:((m+1:Nat):Int)-1=(m:Int):=by omega
  obtain⟨b,off,rfl,-⟩:=hE.cells AL;obtain⟨e,he⟩:∃e,l[m]?=σ e:=⟨_,AQ AL⟩;refine k1 _ _ (Cw λK k1=>DK (DJ rfl ?_));simp -implicitDefEqProofs (disch:=first|omega|decide) only [seval,-Int.reducePow,-Nat.reducePow,cC,pv,D5,EH,undef,FR,hm1,IntKind.bits,g1,g2];refine DX (hE.ld1 (m:=1) (i:=m) (v:=ε η e) rfl (Kq he)) ?_;simp -implicitDefEqProofs (disch:=first|omega|decide) only [seval,-Int.reducePow,-Nat.reducePow,cC,pv,D5,EH,undef,FR,IntKind.bits,g1,g2];refine k1 _ _ (Cy rfl (DU hm1 ?_));refine⟨⟨m,_,rfl,?_⟩,?_⟩
  ·exact⟨rfl,by omega,(AHd _ _ _).1,(AHd _ _ _).2⟩
  ·exact AXo
 refine Dr (k0 _ _ (Db ?_));refine C8 (EP λw hw=>?_);exact⟨⟨v,rfl,hv0,hv1⟩,hw.below⟩
def zK:QU:=⟨0,ν,0,0,[]⟩
def VU(x:Dc)(tag:Int):QU:=(x.Lh[(tag-1).toNat]?).getD zK
def YH(x:Dc)(tag:Int):Int:=if tag<1\/(x.tn:Int)<tag then 20 else 0
def aQ(t:QU):Value:=.agg #[ε ζ t.len,ξ t.A t.n t.c]
def vR(x:Dc)(tag:Int):Value:=.tuple #[aQ (if YH x tag=0 then VU x tag else zK),ε ζ (YH x tag)]
theorem RI x{b}(hb:x.b=b)tag W(hst:St (DV (Da x)) W (Da x) W):
  Calls AGm 216 #[π (σ ⟨b,9,ν⟩),ε ζ tag] W
  λen w' => ∃i:Unit,en=κ (vR x tag)/\True/\St (DV (Da x)) W (Da x) w':=by
 subst hb;have hl:=Dc.tyl hst;have hmx:x.tn<=9223372036854775807:=by
  have h9:=Sl.EJ (hst.IG (k:=0) rfl) (DN (k:=1) rfl);have:=h9.cap;have:=h9.max;omega
 obtain⟨M,hM⟩:∃M,DV (Da x)=M:=⟨_,rfl⟩;rw[hM]at hst ⊢;clear hM;have hst:=hst.IG (k:=0) rfl;have hU:∀ {w:World},St M W [Fj x,.row (ξ x.TA x.tn x.tc) 216 2 x.tn (x.Lh.flatMap O8),Dk ((Fx x).eraseIdx 0)] w->St M W (Da x) w:=λh=>h.IL (k:=0) _ (by show 0<11;decide);unfold Fj at hst;refine ER (M:=M) (n:=26) [.cell 4 216,.tmp 5] rfl Tryz.func216 rfl rfl (Am rfl)  hst ?_;refine C9 rfl λK k0=>?_;have zs:=Bd.mk IZ;refine DR ?_;intro b4 hb4 jo;refine k0 _ _ (DC [0,1,4] λG1 g1=>?_);replace g1:=EK g1;refine Cw λK k0=>Cw λK k1=>?_;refine Df (λ_ _=>True) (λF' L'=>EH F' G1 [0,1,4]/\F' 16=θ (decide (tag<1\/(x.tn:Int)<tag))/\L'=[.blk b4 216 [ε ζ 0,ξ ν 0 0],.blk x.b 97 [x.y0,x.y1,x.y2,x.y3,x.y4,x.y5,x.y6,x.y7,x.y8,ξ x.TA x.tn x.tc,ε ζ x.N,ξ x.UA x.un x.uc,π (σ ⟨x.tb.tb,0,ν⟩),ξ x.LA x.ln x.lc,ε ζ x.lim.qb,ε ζ x.lim.qo,ε ζ x.lim.qr,ξ x.MA x.mn x.mc,ε ζ x.cap,ξ x.EA x.en x.ec,ξ x.SA x.sn x.sc,ξ x.BA x.bn x.bc,ξ (σ ⟨x.g,0,ν⟩) 65 65],.row (ξ x.TA x.tn x.tc) 216 2 x.tn (x.Lh.flatMap O8),Dk ((Fx x).eraseIdx 0)]) ?_ ?_
 ·exact AWr
 intro G2 L' _ hF;obtain⟨zq,ku,rfl⟩:=hF;have zg:=Bd.mk g1;have g2:=AO (Dy zq) ku;refine k1 _ _ ?_;replace zg:=Bd.mk g2;refine Ec (λhc=>?_) λhc=>?_
 ·have hc':=AT0 hc;have he:YH x tag=20:=by unfold YH;rw[ATv hc']
  refine Db ?_;refine C8 (FF ?_);intro w hw;exact⟨(),by unfold vR;rw[he];rfl,hU hw.tail⟩
 have hc':=AUD hc;have he:YH x tag=0:=by unfold YH;rw[ATt hc']
 refine Cz (k0 _ _ ?_);obtain⟨n,rfl⟩:∃n:Nat,tag=(n:Int)+1:=⟨(tag-1).toNat,by omega⟩;obtain⟨t,ht⟩:∃t,x.Lh[n]?=σ t:=⟨_,AQ AL⟩;have hk:VU x ((n:Int)+1)=t:=by
  unfold VU;have:((n:Int)+1-1).toNat=n:=by omega
  rw[this,ht];rfl
 have hn1:(n:Int)+1-1=(n:Int):=by omega
 obtain⟨TA,hTA⟩:∃TA,x.TA=TA:=⟨_,rfl⟩;rw[hTA];refine EL 2 rfl AL λg F7 hg EX=>?_;subst F7;replace hg:=AAM (AO hg EX);clear EX;refine C9 rfl λK k0=>DU hn1 ?_;refine DX (IJ (i:=n*2) (vs:=O8 t) (DN (k:=2) rfl) AF (K5 Ol ht)) ?_;refine DU hn1 ?_;simp only[O8,Av,Bf,AT1];refine DD (k0 _ _ ?_);refine C8 (FF ?_);intro w hw;rw[<-hTA]at hw;exact⟨(),by unfold vR;rw[he,ATv rfl,hk];rfl,hU hw.tail⟩
section
variable{M:List Nat}{W w:World}{L:List DW}
theorem Dc.AFN{x}(h:St M W (Fj x::Dk (Fx x)::L) w){t}(ht:t∈x.Lh):Sl w w.heap.size 2 t.A t.n t.c (cl NR t.fs):=by
 have h1:=(h.IG (k:=9) rfl).swp.GV;exact Sl.EJ h1 (AV.2 (.inl (BL.2 ⟨t,ht,rfl⟩)))
theorem Dc.YI{x}(h:St M W (Fj x::Dk (Fx x)::L) w){t}(ht:t∈x.Fw):Sl w w.heap.size 1 t.A t.n t.c (Gf t.l):=by
 have h1:=(h.IG (k:=10) rfl).swp.GV;exact Sl.EJ h1 (AV.2 (.inl (BL.2 ⟨t,ht,rfl⟩)))
end
def ADj:=AO (AO @G_.eq_1 (AO @Ub.eq_1 @PE.eq_1)) (AO (AO @Ac @DT) (AO @KM @cM))
theorem uB A n c fs len W(hE:Sl W W.heap.size 2 A n c (cl NR fs))(hck:Ho len fs=0):
  Calls AGm 217 #[PE len A n c] W λe w'=>e=κ (.tuple #[ε ζ (Gg len fs),ε ζ 0])/\Below W.heap.size W w':=by
 have hln:fs.length=n:=GM H5 AL hE.len;obtain⟨c1,c2,c3,c4,c5,c6,c7⟩:=J3 hck;refine DL (M:=[]) Tryz.func217 [.tmp 2,.tmp 3] (St.nil _ _) ?_;refine C9 rfl λK k0=>?_;have zs:=Bd.mk ADj;refine DR ?_;intro b1 hb1;refine k0 _ _ (Cw λK k0=>C9 rfl λK k1=>DR ?_);refine DI (λw hw=>Jd A n c fs len w (hE.at hw)) ?_;try refine Ed hck ?_
 refine k1 _ _ (DZ ?_);refine C_ (DR ?_);refine Cz (k0 _ _ (DC [1] λG1 g1=>?_));replace g1:=EK g1;refine Cw λK k0=>?_;have zg:=Bd.mk g1;refine Db ?_;refine C_ ?_;by_cases h0:0<len
 ·have d0:decide (len>0)=τ:=AUB h0;obtain⟨f,hf⟩:∃f,fs=[f]:=by
   have:=c5 h0
   match fs,this with
   |[f],_=>exact⟨f,rfl⟩
  subst hf;have hfe:f.err=0:=c6 f (.head _);have hsz:Gg len [f]=len*f.wid:=by unfold Gg;rw[ATv h0];rfl
  have hw1:=Fd.J2 hfe;have hms:=TU (a:=len) (b:=f.wid) AL c2 AL hw1.2;obtain⟨b,off,rfl,hbW,-⟩:=hE.cells AL;refine DU d0 ?_;refine C9 rfl λK k1=>DD ?_;refine DX ((show LD _ _ _ _ _ ⟨b,off,ν⟩ _ from hE.fld (k:=0) (x:=f) rfl)) ?_;refine DD ?_;refine DI (λw hw=>Me f w hfe) ?_;try refine DD ?_
  refine k1 _ _ (Db ?_);refine C8 (EP λw hw=>?_);exact⟨by rw[hsz,ATV,DT AL AL],hw.below⟩
 have hsz:Gg len fs=PW fs:=by unfold Gg;rw[ATt h0]
 have hl0:len=0:=by omega
 have d0:¬(len>0):=by omega
 refine DU d0 ?_;refine Cz (k0 _ _ (C9 rfl λK k0=>DU hl0 ?_));refine Ee (λv:Value=>.tuple #[v,ε ζ (PW fs)]) (λ_=>True) (λw hw=>Ur A n c fs w (hE.at hw) AL c6) ?_;intro v _;refine DD (k0 _ _ ?_);refine Db ?_;refine C8 (EP λw hw=>?_);exact⟨by rw[hsz],hw.below⟩
end Go.Proofs.YtnkgiaimcpbhkaaGreat
