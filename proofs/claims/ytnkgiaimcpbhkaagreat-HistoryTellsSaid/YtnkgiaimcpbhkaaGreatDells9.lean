import Derived.Test.YtnkgiaimcpbhkaaGreatDells8
import Derived.Test.YtnkgiaimcpbhkaaGreatDells1
import Derived.Test.YtnkgiaimcpbhkaaGreatDells3
import Derived.Test.YtnkgiaimcpbhkaaGreatDells4
import Derived.Test.YtnkgiaimcpbhkaaGreatDells2
import Derived.Test.YtnkgiaimcpbhkaaGreatDells7
set_option linter.all false
set_option maxRecDepth 100000
set_option maxHeartbeats 4000000
open List renaming length_append→Ag,replicate→Ah,length_singleton→BI,find?_range_eq_some→ATY
open Prod renaming snd→ASY
open List.Pairwise renaming nil→AS7
open Bool renaming false→ο,true→τ
open Go.Ending renaming returned→κ
open Go.IntKind renaming i64→ζ,u32→χ,u64→υ,u8→η
open Option renaming none→ν,some→σ
open Go.Value renaming bool→θ,int→ε,pointer→π,slice→ξ
namespace Go.Proofs.YtnkgiaimcpbhkaaGreat
open Tryz renaming prog→AGm
open Go.RowKit Go.Shelf
theorem ACS x{b}(hb:x.b=b)p(o:Nat)fi v0(ho:o<18446744073709551616){n}(ht:IM x n)(hn:n<1000)W(hst:St (DV (Da x)) W (Da x) W):
  Calls AGm 151 #[π (σ ⟨b,0,ν⟩),ε ζ p,ε υ (o:Int),ε ζ fi,ε υ v0] W
  λen w' => ∃i:JD,en=κ (Gv i)/\NK x p 4 (Ki fi) (λz v h=>StR x ⟨v,z⟩/\h=o) i.v i.y/\St (DV (Da x)) W (Da i.y) w':=by
 subst hb;have hj:=ht.j;have hes:=ht.es;have hms:=ht.ms;have hN:x.tb.s.gen.length=x.tb.s.Fh.length:=hj.tb.n.trans hj.tb.l.symm;have hl:=hj.l;have hm:=hj.T9.len;have hc:∀e∈x.l,0<=e.co/\e.co<=4611686018427387904:=λe he=>by have:=hj.lc e he;omega
 obtain⟨M,hM⟩:∃M,DV (Da x)=M:=⟨_,rfl⟩;rw[hM]at hst ⊢;clear hM;unfold Da Fj at hst;have hbn:=hj.bn;have hby:=hj.Uw;have hck:=hj.ck;have h64:=IA fi;refine DL (M:=M) Tryz.func151 [.tmp 10]  hst ?_;have zs:=Bd.mk IZ;refine DZ ?_;refine C9 rfl λK k0=>DR ?_;refine Dh (λ_:Dc=>Pv x p) (λy=>Da y) _ (λw hw=>I5 x rfl p AL AL w hw) ?_;intro y1 hy1;by_cases he:Gm x p=0
 case neg =>
  have hyb:y1.b=x.b:=hy1.kp.2.2.1;rw[Oo he];unfold Da;rw[Dp hyb];refine EM ?_;refine DR (k0 _ _ ?_);refine Cw λK k0=>DZ ?_;refine C_ (DR ?_);refine DZ ?_;refine C8 (Eg λw hw=>?_);exact⟨⟨Gm x p,y1⟩,rfl,by unfold NK;rw[ATt he];exact⟨rfl,hy1⟩,by show St M W (Da y1) w;unfold Da;rw[Dp hyb];exact hw⟩
 rw[hy1.zero he,Om he];have hpr:=GH (Mh he);unfold Da;rw[Dp rfl];refine EM ?_;refine DR (k0 _ _ ?_);refine Cw λK k0=>DZ ?_;refine C_ (DR ?_);refine Cz (k0 _ _ (DC [0,1,2,3,4] λG1 g1=>?_));replace g1:=EK g1;refine C9 rfl λK k0=>?_;have zg:=Bd.mk g1;refine DU h64 ?_;refine Dh Gv (λi=>Da i.y) _ (λw hw=>ACN x rfl p o fi v0 ho hN AL hck hby hbn w hw) ?_;rintro⟨v,z⟩ hi;have hq:O9 x z:=hi.r.q;have hzb:z.b=x.b:=hq.b;unfold Gv;dsimp only;unfold Da;rw[Dp hzb];refine EM ?_;refine DD ?_;refine Jl [] (Da z) AUz (λ_:Dc=>ε ζ v) (λy=>Da y) _ (λw hw=>GQ z hzb ⟨p,4,o,(Ki fi),v⟩ AVK AVJ w hw) ?_;intro y hy;have hyb:y.b=x.b:=hy.kp.2.2.1.trans hzb;unfold Da;rw[Dp hyb];refine EM ?_;refine DD (k0 _ _ ?_);refine C8 (EP λw hw=>?_);exact⟨⟨v,y⟩,rfl,by unfold NK;rw[ATv he];exact⟨z,o,⟨hi,rfl⟩,hy⟩,by show St M W (Da y) w;unfold Da;rw[Dp hyb];exact hw⟩
theorem zY x{b}(hb:x.b=b)p(d:Nat)to(o:Nat)off m(hd:d<18446744073709551616)(ho:o<18446744073709551616){n}(ht:IM x n)(hn:n<1000)W(hst:St (DV (Da x)) W (Da x) W):
  Calls AGm 156 #[π (σ ⟨b,0,ν⟩),ε ζ p,ε υ (d:Int),ε ζ to,ε υ (o:Int),ε ζ off,ε ζ m] W
  λen w' => ∃i:JD,en=κ (Gv i)/\NK x p 7 o (λz v h=>StR x ⟨v,z⟩/\h=d) i.v i.y/\St (DV (Da x)) W (Da i.y) w':=by
 subst hb;have hj:=ht.j;have hes:=ht.es;have hms:=ht.ms;have hN:x.tb.s.gen.length=x.tb.s.Fh.length:=hj.tb.n.trans hj.tb.l.symm;have hl:=hj.l;have hm:=hj.T9.len;have hc:∀e∈x.l,0<=e.co/\e.co<=4611686018427387904:=λe he=>by have:=hj.lc e he;omega
 obtain⟨M,hM⟩:∃M,DV (Da x)=M:=⟨_,rfl⟩;rw[hM]at hst ⊢;clear hM;unfold Da Fj at hst;have hbn:=hj.bn;have hby:=hj.Uw;have hck:=hj.ck;have h64:=xE ho;refine DL (M:=M) Tryz.func156 [.tmp 14]  hst ?_;have zs:=Bd.mk IZ;refine DZ ?_;refine C9 rfl λK k0=>DR ?_;refine Dh (λ_:Dc=>Pv x p) (λy=>Da y) _ (λw hw=>I5 x rfl p AL AL w hw) ?_;intro y1 hy1;by_cases he:Gm x p=0
 case neg =>
  have hyb:y1.b=x.b:=hy1.kp.2.2.1;rw[Oo he];unfold Da;rw[Dp hyb];refine EM ?_;refine DR (k0 _ _ ?_);refine Cw λK k0=>DZ ?_;refine C_ (DR ?_);refine DZ ?_;refine C8 (Eg λw hw=>?_);exact⟨⟨Gm x p,y1⟩,rfl,by unfold NK;rw[ATt he];exact⟨rfl,hy1⟩,by show St M W (Da y1) w;unfold Da;rw[Dp hyb];exact hw⟩
 rw[hy1.zero he,Om he];have hpr:=GH (Mh he);unfold Da;rw[Dp rfl];refine EM ?_;refine DR (k0 _ _ ?_);refine Cw λK k0=>DZ ?_;refine C_ (DR ?_);refine Cz (k0 _ _ (DC [0,1,2,3,4,5,6] λG2 g2=>?_));replace g2:=EK g2;refine C9 rfl λK k0=>?_;have zg:=Bd.mk g2;refine DD ?_;refine Dh Gv (λi=>Da i.y) _ (λw hw=>l7 x rfl p d to o off m hd ho hN AL hby hbn w hw) ?_;rintro⟨v,z⟩ hi;have hq:O9 x z:=hi.r.q;have hzb:z.b=x.b:=hq.b;unfold Gv;dsimp only;unfold Da;rw[Dp hzb];refine EM ?_;refine DD ?_;refine Jl [] (Da z) AUz (λ_:Dc=>ε ζ v) (λy=>Da y) _ (λw hw=>GQ z hzb ⟨p,7,d,o,v⟩ AVK AVJ w hw) ?_;intro y hy;have hyb:y.b=x.b:=hy.kp.2.2.1.trans hzb;unfold Da;rw[Dp hyb];refine EM ?_;refine DD (k0 _ _ ?_);refine C8 (EP λw hw=>?_);exact⟨⟨v,y⟩,rfl,by unfold NK;rw[ATv he];exact⟨z,d,⟨hi,rfl⟩,hy⟩,by show St M W (Da y) w;unfold Da;rw[Dp hyb];exact hw⟩
theorem uF x{b}(hb:x.b=b)p(o:Nat)q(ho:o<18446744073709551616){n}(ht:IM x n)(hn:n<1000)W(hst:St (DV (Da x)) W (Da x) W):
  Calls AGm 157 #[π (σ ⟨b,0,ν⟩),ε ζ p,ε υ (o:Int),ε ζ q] W
  λen w' => ∃i:JD,en=κ (Gv i)/\NK x p 8 (Ki q) (λz v h=>TrR x p o q ⟨v,z⟩/\h=o) i.v i.y/\St (DV (Da x)) W (Da i.y) w':=by
 subst hb;have hj:=ht.j;have hes:=ht.es;have hms:=ht.ms;have hN:x.tb.s.gen.length=x.tb.s.Fh.length:=hj.tb.n.trans hj.tb.l.symm;have hl:=hj.l;have hm:=hj.T9.len;have hc:∀e∈x.l,0<=e.co/\e.co<=4611686018427387904:=λe he=>by have:=hj.lc e he;omega
 obtain⟨M,hM⟩:∃M,DV (Da x)=M:=⟨_,rfl⟩;rw[hM]at hst ⊢;clear hM;unfold Da Fj at hst;have h64:=IA q;refine DL (M:=M) Tryz.func157 [.tmp 8]  hst ?_;have zs:=Bd.mk IZ;refine DZ ?_;refine C9 rfl λK k0=>DR ?_;refine Dh (λ_:Dc=>Pv x p) (λy=>Da y) _ (λw hw=>I5 x rfl p AL AL w hw) ?_;intro y1 hy1;by_cases he:Gm x p=0
 case neg =>
  have hyb:y1.b=x.b:=hy1.kp.2.2.1;rw[Oo he];unfold Da;rw[Dp hyb];refine EM ?_;refine DR (k0 _ _ ?_);refine Cw λK k0=>DZ ?_;refine C_ (DR ?_);refine DZ ?_;refine C8 (Eg λw hw=>?_);exact⟨⟨Gm x p,y1⟩,rfl,by unfold NK;rw[ATt he];exact⟨rfl,hy1⟩,by show St M W (Da y1) w;unfold Da;rw[Dp hyb];exact hw⟩
 rw[hy1.zero he,Om he];have hpr:=GH (Mh he);unfold Da;rw[Dp rfl];refine EM ?_;refine DR (k0 _ _ ?_);refine Cw λK k0=>DZ ?_;refine C_ (DR ?_);refine Cz (k0 _ _ (DC [0,1,2,3] λG3 g3=>?_));replace g3:=EK g3;refine C9 rfl λK k0=>?_;have zg:=Bd.mk g3;refine DU h64 ?_;refine Dh Gv (λi=>Da i.y) _ (λw hw=>aN x rfl p o q ho _ hj.tb AL AL hj.lim hj.lok hj.VT hj.te.len w hw) ?_;rintro⟨v,z⟩ hi;have hq:O9 x z:=hi.q;have hzb:z.b=x.b:=hq.b;unfold Gv;dsimp only;unfold Da;rw[Dp hzb];refine EM ?_;refine DD ?_;refine Jl [] (Da z) AUz (λ_:Dc=>ε ζ v) (λy=>Da y) _ (λw hw=>GQ z hzb ⟨p,8,o,(Ki q),v⟩ AVK AVJ w hw) ?_;intro y hy;have hyb:y.b=x.b:=hy.kp.2.2.1.trans hzb;unfold Da;rw[Dp hyb];refine EM ?_;refine DD (k0 _ _ ?_);refine C8 (EP λw hw=>?_);exact⟨⟨v,y⟩,rfl,by unfold NK;rw[ATv he];exact⟨z,o,⟨hi,rfl⟩,hy⟩,by show St M W (Da y) w;unfold Da;rw[Dp hyb];exact hw⟩
theorem uG x{b}(hb:x.b=b)p(o:Nat)q(ho:o<18446744073709551616){n}(ht:IM x n)(hn:n<1000)W(hst:St (DV (Da x)) W (Da x) W):
  Calls AGm 158 #[π (σ ⟨b,0,ν⟩),ε ζ p,ε υ (o:Int),ε ζ q] W
  λen w' => ∃i:JD,en=κ (Gv i)/\NK x p 9 (Ki q) (λz v h=>LnR x p o q 4 1 ⟨v,z⟩/\h=o) i.v i.y/\St (DV (Da x)) W (Da i.y) w':=by
 subst hb;have hj:=ht.j;have hes:=ht.es;have hms:=ht.ms;have hN:x.tb.s.gen.length=x.tb.s.Fh.length:=hj.tb.n.trans hj.tb.l.symm;have hl:=hj.l;have hm:=hj.T9.len;have hc:∀e∈x.l,0<=e.co/\e.co<=4611686018427387904:=λe he=>by have:=hj.lc e he;omega
 obtain⟨M,hM⟩:∃M,DV (Da x)=M:=⟨_,rfl⟩;rw[hM]at hst ⊢;clear hM;unfold Da Fj at hst;have h64:=IA q;refine DL (M:=M) Tryz.func158 [.tmp 8]  hst ?_;have zs:=Bd.mk IZ;refine DZ ?_;refine C9 rfl λK k0=>DR ?_;refine Dh (λ_:Dc=>Pv x p) (λy=>Da y) _ (λw hw=>I5 x rfl p AL AL w hw) ?_;intro y1 hy1;by_cases he:Gm x p=0
 case neg =>
  have hyb:y1.b=x.b:=hy1.kp.2.2.1;rw[Oo he];unfold Da;rw[Dp hyb];refine EM ?_;refine DR (k0 _ _ ?_);refine Cw λK k0=>DZ ?_;refine C_ (DR ?_);refine DZ ?_;refine C8 (Eg λw hw=>?_);exact⟨⟨Gm x p,y1⟩,rfl,by unfold NK;rw[ATt he];exact⟨rfl,hy1⟩,by show St M W (Da y1) w;unfold Da;rw[Dp hyb];exact hw⟩
 rw[hy1.zero he,Om he];have hpr:=GH (Mh he);unfold Da;rw[Dp rfl];refine EM ?_;refine DR (k0 _ _ ?_);refine Cw λK k0=>DZ ?_;refine C_ (DR ?_);refine Cz (k0 _ _ (DC [0,1,2,3] λG4 g4=>?_));replace g4:=EK g4;refine C9 rfl λK k0=>?_;have zg:=Bd.mk g4;refine DU h64 ?_;refine Dh Gv (λi=>Da i.y) _ (λw hw=>pO x rfl p o q 4 1 (.inl rfl) ho hN AL hc AL hj.lim hj.VT w hw) ?_;rintro⟨v,z⟩ hi;have hq:O9 x z:=hi.q;have hzb:z.b=x.b:=hq.b;unfold Gv;dsimp only;unfold Da;rw[Dp hzb];refine EM ?_;refine DD ?_;refine Jl [] (Da z) AUz (λ_:Dc=>ε ζ v) (λy=>Da y) _ (λw hw=>GQ z hzb ⟨p,9,o,(Ki q),v⟩ AVK AVJ w hw) ?_;intro y hy;have hyb:y.b=x.b:=hy.kp.2.2.1.trans hzb;unfold Da;rw[Dp hyb];refine EM ?_;refine DD (k0 _ _ ?_);refine C8 (EP λw hw=>?_);exact⟨⟨v,y⟩,rfl,by unfold NK;rw[ATv he];exact⟨z,o,⟨hi,rfl⟩,hy⟩,by show St M W (Da y) w;unfold Da;rw[Dp hyb];exact hw⟩
theorem uH x{b}(hb:x.b=b)p(o:Nat)q(ho:o<18446744073709551616){n}(ht:IM x n)(hn:n<1000)W(hst:St (DV (Da x)) W (Da x) W):
  Calls AGm 159 #[π (σ ⟨b,0,ν⟩),ε ζ p,ε υ (o:Int),ε ζ q] W
  λen w' => ∃i:JD,en=κ (Gv i)/\NK x p 10 (Ki q) (λz v h=>LnR x p o q 3 2 ⟨v,z⟩/\h=o) i.v i.y/\St (DV (Da x)) W (Da i.y) w':=by
 subst hb;have hj:=ht.j;have hes:=ht.es;have hms:=ht.ms;have hN:x.tb.s.gen.length=x.tb.s.Fh.length:=hj.tb.n.trans hj.tb.l.symm;have hl:=hj.l;have hm:=hj.T9.len;have hc:∀e∈x.l,0<=e.co/\e.co<=4611686018427387904:=λe he=>by have:=hj.lc e he;omega
 obtain⟨M,hM⟩:∃M,DV (Da x)=M:=⟨_,rfl⟩;rw[hM]at hst ⊢;clear hM;unfold Da Fj at hst;have h64:=IA q;refine DL (M:=M) Tryz.func159 [.tmp 8]  hst ?_;have zs:=Bd.mk IZ;refine DZ ?_;refine C9 rfl λK k0=>DR ?_;refine Dh (λ_:Dc=>Pv x p) (λy=>Da y) _ (λw hw=>I5 x rfl p AL AL w hw) ?_;intro y1 hy1;by_cases he:Gm x p=0
 case neg =>
  have hyb:y1.b=x.b:=hy1.kp.2.2.1;rw[Oo he];unfold Da;rw[Dp hyb];refine EM ?_;refine DR (k0 _ _ ?_);refine Cw λK k0=>DZ ?_;refine C_ (DR ?_);refine DZ ?_;refine C8 (Eg λw hw=>?_);exact⟨⟨Gm x p,y1⟩,rfl,by unfold NK;rw[ATt he];exact⟨rfl,hy1⟩,by show St M W (Da y1) w;unfold Da;rw[Dp hyb];exact hw⟩
 rw[hy1.zero he,Om he];have hpr:=GH (Mh he);unfold Da;rw[Dp rfl];refine EM ?_;refine DR (k0 _ _ ?_);refine Cw λK k0=>DZ ?_;refine C_ (DR ?_);refine Cz (k0 _ _ (DC [0,1,2,3] λG5 g5=>?_));replace g5:=EK g5;refine C9 rfl λK k0=>?_;have zg:=Bd.mk g5;refine DU h64 ?_;refine Dh Gv (λi=>Da i.y) _ (λw hw=>pO x rfl p o q 3 2 (.inr rfl) ho hN AL hc AL hj.lim hj.VT w hw) ?_;rintro⟨v,z⟩ hi;have hq:O9 x z:=hi.q;have hzb:z.b=x.b:=hq.b;unfold Gv;dsimp only;unfold Da;rw[Dp hzb];refine EM ?_;refine DD ?_;refine Jl [] (Da z) AUz (λ_:Dc=>ε ζ v) (λy=>Da y) _ (λw hw=>GQ z hzb ⟨p,10,o,(Ki q),v⟩ AVK AVJ w hw) ?_;intro y hy;have hyb:y.b=x.b:=hy.kp.2.2.1.trans hzb;unfold Da;rw[Dp hyb];refine EM ?_;refine DD (k0 _ _ ?_);refine C8 (EP λw hw=>?_);exact⟨⟨v,y⟩,rfl,by unfold NK;rw[ATv he];exact⟨z,o,⟨hi,rfl⟩,hy⟩,by show St M W (Da y) w;unfold Da;rw[Dp hyb];exact hw⟩
theorem zZ x{b}(hb:x.b=b)p(o:Nat)(ho:o<18446744073709551616){n}(ht:IM x n)(hn:n<1000)W(hst:St (DV (Da x)) W (Da x) W):
  Calls AGm 160 #[π (σ ⟨b,0,ν⟩),ε ζ p,ε υ (o:Int)] W
  λen w' => ∃i:JD,en=κ (Gv i)/\NK x p 11 0 (λz v h=>RlR x p o ⟨v,z⟩/\h=o) i.v i.y/\St (DV (Da x)) W (Da i.y) w':=by
 subst hb;have hj:=ht.j;have hes:=ht.es;have hms:=ht.ms;have hN:x.tb.s.gen.length=x.tb.s.Fh.length:=hj.tb.n.trans hj.tb.l.symm;have hl:=hj.l;have hm:=hj.T9.len;have hc:∀e∈x.l,0<=e.co/\e.co<=4611686018427387904:=λe he=>by have:=hj.lc e he;omega
 obtain⟨M,hM⟩:∃M,DV (Da x)=M:=⟨_,rfl⟩;rw[hM]at hst ⊢;clear hM;unfold Da Fj at hst;refine DL (M:=M) Tryz.func160 [.tmp 6]  hst ?_;have zs:=Bd.mk IZ;refine DZ ?_;refine C9 rfl λK k0=>DR ?_;refine Dh (λ_:Dc=>Pv x p) (λy=>Da y) _ (λw hw=>I5 x rfl p AL AL w hw) ?_;intro y1 hy1;by_cases he:Gm x p=0
 case neg =>
  have hyb:y1.b=x.b:=hy1.kp.2.2.1;rw[Oo he];unfold Da;rw[Dp hyb];refine EM ?_;refine DR (k0 _ _ ?_);refine Cw λK k0=>DZ ?_;refine C_ (DR ?_);refine DZ ?_;refine C8 (Eg λw hw=>?_);exact⟨⟨Gm x p,y1⟩,rfl,by unfold NK;rw[ATt he];exact⟨rfl,hy1⟩,by show St M W (Da y1) w;unfold Da;rw[Dp hyb];exact hw⟩
 rw[hy1.zero he,Om he];have hpr:=GH (Mh he);unfold Da;rw[Dp rfl];refine EM ?_;refine DR (k0 _ _ ?_);refine Cw λK k0=>DZ ?_;refine C_ (DR ?_);refine Cz (k0 _ _ (DC [0,1,2] λG6 g6=>?_));replace g6:=EK g6;refine C9 rfl λK k0=>?_;have zg:=Bd.mk g6;refine DD ?_;refine Dh Gv (λi=>Da i.y) _ (λw hw=>ACB x rfl p o ho hN AL hc AL hj.VT w hw) ?_;rintro⟨v,z⟩ hi;have hq:O9 x z:=hi.q;have hzb:z.b=x.b:=hq.b;unfold Gv;dsimp only;unfold Da;rw[Dp hzb];refine EM ?_;refine DD ?_;refine Jl [] (Da z) AUz (λ_:Dc=>ε ζ v) (λy=>Da y) _ (λw hw=>GQ z hzb ⟨p,11,o,0,v⟩ AVK AVJ w hw) ?_;intro y hy;have hyb:y.b=x.b:=hy.kp.2.2.1.trans hzb;unfold Da;rw[Dp hyb];refine EM ?_;refine DD (k0 _ _ ?_);refine C8 (EP λw hw=>?_);exact⟨⟨v,y⟩,rfl,by unfold NK;rw[ATv he];exact⟨z,o,⟨hi,rfl⟩,hy⟩,by show St M W (Da y) w;unfold Da;rw[Dp hyb];exact hw⟩
theorem uI x{b}(hb:x.b=b)p(o:Nat)off A m c bs(ho:o<18446744073709551616)(hm8:m<=65536){n}(ht:IM x n)(hn:n<1000)W(hE:Sl W W.heap.size 1 A m c (Gf bs))(ha:TJ A (DV (Da x)))(hst:St (DV (Da x)) W (Da x) W):
  Calls AGm 154 #[π (σ ⟨b,0,ν⟩),ε ζ p,ε υ (o:Int),ε ζ off,ξ A m c] W
  λen w' => ∃i:JD,en=κ (Gv i)/\NK x p 6 (Ki off) (λz v h=>StR x ⟨v,z⟩/\h=o) i.v i.y/\St (DV (Da x)) W (Da i.y) w':=by
 subst hb;have hj:=ht.j;have hes:=ht.es;have hms:=ht.ms;have hN:x.tb.s.gen.length=x.tb.s.Fh.length:=hj.tb.n.trans hj.tb.l.symm;have hl:=hj.l;have hm:=hj.T9.len;have hc:∀e∈x.l,0<=e.co/\e.co<=4611686018427387904:=λe he=>by have:=hj.lc e he;omega
 have haM:=ha;obtain⟨M,hM⟩:∃M,DV (Da x)=M:=⟨_,rfl⟩;rw[hM]at hst ha ⊢;clear hM;unfold Da Fj at hst;have hbn:=hj.bn;have hby:=hj.Uw;have hck:=hj.ck;have h64:=IA off;refine DL (M:=M) Tryz.func154 [.tmp 10]  hst ?_;have zs:=Bd.mk IZ;refine DZ ?_;refine C9 rfl λK k0=>DR ?_;refine Dh (λ_:Dc=>Pv x p) (λy=>Da y) _ (λw hw=>I5 x rfl p AL AL w hw) ?_;intro y1 hy1;by_cases he:Gm x p=0
 case neg =>
  have hyb:y1.b=x.b:=hy1.kp.2.2.1;rw[Oo he];unfold Da;rw[Dp hyb];refine EM ?_;refine DR (k0 _ _ ?_);refine Cw λK k0=>DZ ?_;refine C_ (DR ?_);refine DZ ?_;refine C8 (Eg λw hw=>?_);exact⟨⟨Gm x p,y1⟩,rfl,by unfold NK;rw[ATt he];exact⟨rfl,hy1⟩,by show St M W (Da y1) w;unfold Da;rw[Dp hyb];exact hw⟩
 rw[hy1.zero he,Om he];have hpr:=GH (Mh he);unfold Da;rw[Dp rfl];refine EM ?_;refine DR (k0 _ _ ?_);refine Cw λK k0=>DZ ?_;refine C_ (DR ?_);refine Cz (k0 _ _ (DC [0,1,2,3,4] λG7 g7=>?_));replace g7:=EK g7;refine C9 rfl λK k0=>?_;have zg:=Bd.mk g7;refine DU h64 ?_;refine Kb [] (Da x) Gv (λi=>Da i.y) _ (λw hw0 hw=>uE x rfl p o off A m c bs ho hN AL hby hbn hm8 w (hE.atM hw0 ha) haM hw) ?_;rintro⟨v,z⟩ hi;have hq:O9 x z:=hi.r.q;have hzb:z.b=x.b:=hq.b;unfold Gv;dsimp only;unfold Da;rw[Dp hzb];refine EM ?_;refine DD ?_;refine Jl [] (Da z) AUz (λ_:Dc=>ε ζ v) (λy=>Da y) _ (λw hw=>GQ z hzb ⟨p,6,o,(Ki off),v⟩ AVK AVJ w hw) ?_;intro y hy;have hyb:y.b=x.b:=hy.kp.2.2.1.trans hzb;unfold Da;rw[Dp hyb];refine EM ?_;refine DD (k0 _ _ ?_);refine C8 (EP λw hw=>?_);exact⟨⟨v,y⟩,rfl,by unfold NK;rw[ATv he];exact⟨z,o,⟨hi,rfl⟩,hy⟩,by show St M W (Da y) w;unfold Da;rw[Dp hyb];exact hw⟩
def pW:=AO (AO (AO (AO @Ac @DT) (AO @KM @cM)) (AO (AO @Ey @Ez) (AO @E5 @E8))) (AO (AO (AO @E9 @Et) (AO @Eu @FK)) (AO (AO @FO @EZ) (AO @Ea @su.eq_1)))
structure mF(x z:Dc)(p:Int)(o:Nat)(v:Int):Prop where
 Ql:0<=v/\v<=29
 r:if v=0 then GU x.tb o=0/\Y4 x.l (De o) (decide ((ET x.tb (De o)).ow=p)) 3∧∃l m u t,uA x z (ET x.tb (De o)) l m u t else z=x
theorem mF.q{x z p o v}(h:mF x z p o v):O9 x z:=by
 have h1:=h.r;split at h1
 ·obtain⟨-,-,l,m,u,t,h2⟩:=h1;exact h2.q
 ·rw[h1];exact O9.refl x
theorem mF.j{x z p o v k c}(h:mF x z p o v)(hj:Ga x k c)(hk:k<10000):Ga z (k+1) c:=by
 have h1:=h.r;split at h1
 ·obtain⟨he,-,l,m,u,t,h2⟩:=h1;have h3:=(GZ he).2.2.2;exact hj.free hk (by rw[h3];exact he) (by rw[h3]) h2
 ·rw[h1];exact hj.up (Co _) (Ay _) hk
theorem uJ x{b}(hb:x.b=b)p(o:Nat)(ho:o<18446744073709551616){n}(ht:IM x n)(hn:n<1000)W(hst:St (DV (Da x)) W (Da x) W):
  Calls AGm 149 #[π (σ ⟨b,0,ν⟩),ε ζ p,ε υ (o:Int)] W
  λen w' => ∃i:JD,en=κ (Gv i)/\NK x p 2 0 (λz v h=>mF x z p o v/\h=o) i.v i.y/\St (DV (Da x)) W (Da i.y) w':=by
 subst hb;have hj:=ht.j;have hes:=ht.es;have hms:=ht.ms;have hN:x.tb.s.gen.length=x.tb.s.Fh.length:=hj.tb.n.trans hj.tb.l.symm;have hl:=hj.l;have hm:=hj.T9.len;have hu:=hj.XI;have hc:∀e∈x.l,0<=e.co/\e.co<=4611686018427387904:=λe he=>by have:=hj.lc e he;omega
 have hbn:=hj.bn;have hby:=hj.Uw;have hck:=hj.ck;obtain⟨M,hM⟩:∃M,DV (Da x)=M:=⟨_,rfl⟩;rw[hM]at hst ⊢;clear hM;unfold Da Fj at hst;refine DL (M:=M) Tryz.func149 [.tmp 6]  hst ?_;have zs:=Bd.mk pW;refine DZ ?_;refine C9 rfl λK k0=>DR ?_;refine Dh (λ_:Dc=>Pv x p) (λy=>Da y) _ (λw hw=>I5 x rfl p AL AL w hw) ?_;intro y1 hy1;by_cases he:Gm x p=0
 case neg =>
  have hyb:y1.b=x.b:=hy1.kp.2.2.1;rw[Oo he];unfold Da;rw[Dp hyb];refine EM ?_;refine DR (k0 _ _ ?_);refine Cw λK k0=>DZ ?_;refine C_ (DR ?_);refine DZ ?_;refine C8 (Eg λw hw=>?_);exact⟨⟨Gm x p,y1⟩,rfl,by unfold NK;rw[ATt he];exact⟨rfl,hy1⟩,by show St M W (Da y1) w;unfold Da;rw[Dp hyb];exact hw⟩
 rw[hy1.zero he,Om he];have hpr:=GH (Mh he);unfold Da;rw[Dp rfl];refine EM ?_;refine DR (k0 _ _ ?_);refine Cw λK k0=>DZ ?_;refine C_ (DR ?_);refine Cz (k0 _ _ (DC [0,1,2] λG1 g1=>?_));replace g1:=EK g1;refine C9 rfl λK k0=>?_;have zg:=Bd.mk g1;refine DD ?_;refine EW (Da x) (BB _) (λv:Int=>pK x o v) _ (λw hw=>H9 x rfl p o 3 ho hN AL w hw) ?_;intro v hv;by_cases hv0:v=0
 case neg =>
  rw[J9 hv0];refine DD ?_;intro b9 vT hf9;refine k0 _ _ (DY [1,2] ?_);refine DC [0,1,2,7,9] λG2 g2=>?_;replace g2:=Dy g2;refine Cw λK k0=>?_;replace zg:=Bd.mk g2;refine Db ?_;refine C_ (DU hv0 ?_);refine Cz (k0 _ _ ?_);have hq:O9 x x:=O9.refl x;have hzb:x.b=x.b:=rfl;refine C9 rfl λK k0=>DD ?_;refine Jl [] (Da x) AUz (λ_:Dc=>ε ζ v) (λy=>Da y) _ (λw hw=>GQ x hzb ⟨p,2,o,0,v⟩ AVK AVJ w hw) ?_;intro y hy;have hyb:y.b=x.b:=hy.kp.2.2.1.trans hzb;unfold Da;rw[Dp hyb];refine EM ?_;refine DD (k0 _ _ ?_);refine C8 (EP λw hw=>?_);exact⟨⟨v,y⟩,rfl,by unfold NK;rw[ATv he];exact⟨x,o,⟨⟨hv.Ql,by rw[ATt hv0]⟩,rfl⟩,hy⟩,by show St M W (Da y) w;unfold Da;rw[Dp hyb];exact hw⟩
 have her:=hv.ok hv0;subst hv0;have hacc:=hv.acc rfl;have hho:=(GZ her).2.2.2;obtain⟨e,MZ⟩:∃e,ET x.tb (De o)=e:=⟨_,rfl⟩;have hlen:=hj.te.len (De o);rw[MZ]at hho hlen;rw[NJ,MZ];refine DD ?_;intro b9 vT hf9;refine k0 _ _ (DY [1,2,0] ?_);refine DC [0,1,2,7,9] λG3 g3=>?_;replace g3:=Dy g3;refine Cw λK k0=>?_;replace zg:=Bd.mk g3;refine Db ?_;refine C_ (DD ?_);refine K3 (Cy rfl (DD ?_));refine Dh (λ_:Dc=>.tuple #[]) (λy=>Da y) _ (λw hw=>iD x rfl e (by rw[hho];exact her) (by rw[hho];exact ho) _ hj.tb AL AL hj.VT AL hlen hbn w hw) ?_;rintro z ⟨l,m,u,t,hz⟩;have hq:O9 x z:=hz.q;have hzb:z.b=x.b:=hq.b;unfold Da;rw[Dp hzb];refine EM ?_;refine DD (k0 _ _ ?_);refine DY [0,1] ?_;refine DC [0,1,2,7] λG4 g4=>?_;replace g4:=Dy g4;refine C9 rfl λK k0=>?_;replace zg:=Bd.mk g4;refine DD ?_;refine Jl [] (Da z) AUz (λ_:Dc=>ε ζ 0) (λy=>Da y) _ (λw hw=>GQ z hzb ⟨p,2,o,0,0⟩ AVK AVJ w hw) ?_;intro y hy;have hyb:y.b=x.b:=hy.kp.2.2.1.trans hzb;unfold Da;rw[Dp hyb];refine EM ?_;refine DD (k0 _ _ ?_);refine C8 (EP λw hw=>?_);exact⟨⟨0,y⟩,rfl,by unfold NK;rw[ATv he];exact⟨z,o,⟨⟨AUs,by rw[ATv rfl];exact⟨her,hacc,l,m,u,t,by rw[MZ];exact hz⟩⟩,rfl⟩,hy⟩,by show St M W (Da y) w;unfold Da;rw[Dp hyb];exact hw⟩
structure mG where
 h:Nat
 er:Int
 y:Dc
def AFY(i:mG):Value:=.tuple #[ε υ (i.h:Int),ε ζ i.er]
structure iX(x z:Dc)(p tag:Int)(d:Nat)(v:Int)(h:Nat):Prop where
 r:∃fr tk,Ex.Inv x.N x.us fr tk∧∃i:iM,zP x p tag d fr i/\i.y=z/\i.er=v/\i.h=h
theorem iX.q{x z p tag v d h}(hc:iX x z p tag d v h):O9 x z:=by
 obtain⟨fr,tk,-,i,h1,rfl,-,-⟩:=hc.r;exact h1.q
theorem iX.hh{x z p tag v d h}(hc:iX x z p tag d v h):h<18446744073709551616:=by
 obtain⟨fr,tk,-,i,h1,-,-,rfl⟩:=hc.r;exact h1.hh
theorem iX.j{x z p tag v d h k c}(hc:iX x z p tag d v h)(hj:Ga x k c)(hk:k<10000)(hp:1<=p/\p<=64):Ga z (k+1) c:=by
 obtain⟨fr,tk,hI,i,h1,rfl,-,-⟩:=hc.r;exact hj.alc hk hI hp h1
structure za(x:Dc)(p tag:Int)(d:Nat)(i:mG):Prop where
 hh:i.h<18446744073709551616
 no:Gm x p=0\/i.h=0
 r:if Gm x p=0 then ∃z,iX x z p tag d i.er i.h/\W_ z i.y ⟨p,1,i.h,Ki tag,i.er⟩ else i.er=Gm x p/\Pw x i.y p
theorem mH x{b}(hb:x.b=b)p tag(d:Nat)(hd:d<18446744073709551616){n}(ht:IM x n)(hn:n<1000)W(hst:St (DV (Da x)) W (Da x) W):
  Calls AGm 148 #[π (σ ⟨b,0,ν⟩),ε ζ p,ε ζ tag,ε υ (d:Int)] W
  λen w' => ∃i:mG,en=κ (AFY i)/\za x p tag d i/\St (DV (Da x)) W (Da i.y) w':=by
 subst hb;have hj:=ht.j;have hes:=ht.es;have hms:=ht.ms;have hN:x.tb.s.gen.length=x.tb.s.Fh.length:=hj.tb.n.trans hj.tb.l.symm;have hl:=hj.l;have hm:=hj.T9.len;have hu:=hj.XI;have hc:∀e∈x.l,0<=e.co/\e.co<=4611686018427387904:=λe he=>by have:=hj.lc e he;omega
 have hbn:=hj.bn;have hby:=hj.Uw;have hck:=hj.ck;obtain⟨M,hM⟩:∃M,DV (Da x)=M:=⟨_,rfl⟩;rw[hM]at hst ⊢;clear hM;unfold Da Fj at hst;have h64:=IA tag;obtain⟨fr,tk,hI⟩:=hj.rm;refine DL (M:=M) Tryz.func148 [.tmp 8,.tmp 9]  hst ?_;have zs:=Bd.mk pW;refine DZ ?_;refine C9 rfl λK k0=>DR ?_;refine Dh (λ_:Dc=>Pv x p) (λy=>Da y) _ (λw hw=>I5 x rfl p AL AL w hw) ?_;intro y1 hy1;by_cases he:Gm x p=0
 case neg =>
  have hyb:y1.b=x.b:=hy1.kp.2.2.1;rw[Oo he];unfold Da;rw[Dp hyb];refine EM ?_;refine DR (k0 _ _ ?_);refine Cw λK k0=>DZ ?_;refine C_ (DR ?_);refine DZ ?_;refine C8 (Eg λw hw=>?_);exact⟨⟨0,Gm x p,y1⟩,rfl,⟨AU_,.inr rfl,by rw[ATt he];exact⟨rfl,hy1⟩⟩,by show St M W (Da y1) w;unfold Da;rw[Dp hyb];exact hw⟩
 rw[hy1.zero he,Om he];have hpr:=GH (Mh he);unfold Da;rw[Dp rfl];refine EM ?_;refine DR (k0 _ _ ?_);refine Cw λK k0=>DZ ?_;refine C_ (DR ?_);refine Cz (k0 _ _ (DC [0,1,2,3] λG5 g5=>?_));replace g5:=EK g5;refine C9 rfl λK k0=>?_;have zg:=Bd.mk g5;refine DD ?_;refine Dh AFS (λi=>Da i.y) _ (λw hw=>ACH x rfl p tag d hd _ hj.tb hpr hj.tn hck AL hj.lim hj.VT AL fr tk hI hbn hj.isu w hw) ?_;rintro⟨h,v,z⟩ hi;have hq:O9 x z:=hi.q;have hzb:z.b=x.b:=hq.b;unfold AFS;dsimp only;unfold Da;rw[Dp hzb];refine EM ?_;refine DD (k0 _ _ ?_);refine C9 rfl λK k0=>DU h64 ?_;refine Jl [] (Da z) AUz (λ_:Dc=>ε ζ v) (λy=>Da y) _ (λw hw=>GQ z hzb ⟨p,1,h,(Ki tag),v⟩ AVK AVJ w hw) ?_;intro y hy;have hyb:y.b=x.b:=hy.kp.2.2.1.trans hzb;unfold Da;rw[Dp hyb];refine EM ?_;refine DD (k0 _ _ ?_);refine C8 (EP λw hw=>?_);exact⟨⟨h,v,y⟩,rfl,⟨hi.hh,.inl he,by rw[ATv he];exact⟨z,⟨fr,tk,hI,_,hi,rfl,rfl,rfl⟩,hy⟩⟩,by show St M W (Da y) w;unfold Da;rw[Dp hyb];exact hw⟩
theorem IM.alw{x n}(h:IM x n)(hn:n<1000){p tag d i}(hr:za x p tag d i):IM i.y (n+1):=by
 refine h.wr (p:=p) (op:=1) (ar:=Ki tag) (Core:=λz v hh=>iX x z p tag d v hh) (v:=i.er) hn (Ia tag) (λz hh h0 hc=>?_) ?_
 ·exact⟨hc.q,(hc.j h.j AL (GH (Mh h0))).up AL AL AL,hc.hh⟩
 ·have h1:=hr.r;unfold NK;by_cases h0:Gm x p=0
  ·rw[ATv h0]at h1 ⊢;obtain⟨z,h2,h3⟩:=h1;exact⟨z,i.h,h2,h3⟩
  ·rw[ATt h0]at h1 ⊢;exact h1
structure ACT where
 v:Int
 er:Int
 y:Dc
def AFZ(i:ACT):Value:=.tuple #[ε υ i.v,ε ζ i.er]
def RdR(x:Dc)(p op:Int)(o ar:Nat)(er:Int)(y:Dc):Prop:=y=x\/(¬er=0/\Fy x.sv p=τ/\W_ x y ⟨p,op,o,ar,er⟩)
structure AKw(x:Dc)(p:Int)(o:Nat)(fi:Int)(i:ACT):Prop where
 Ql:0<=i.er/\i.er<=29
 v:0<=i.v/\i.v<18446744073709551616
 r:RdR x p 3 o (Ki fi) i.er i.y
theorem IM.rd{x y n}(h:IM x n)(hn:n<1000){p op er o ar}(ho:o<18446744073709551616)(har:ar<18446744073709551616)(hr:RdR x p op o ar er y):IM y (n+1):=by
 rcases hr with rfl|⟨-,-,hr⟩
 ·exact h.up (Co n) hn
 ·exact h.rcd hn (O9.refl x) (h.j.up AL (Co n) AL) ⟨ho,har⟩ hr
theorem zb x{b}(hb:x.b=b)p(o:Nat)fi(ho:o<18446744073709551616){n}(ht:IM x n)(hn:n<1000)W(hst:St (DV (Da x)) W (Da x) W):
  Calls AGm 150 #[π (σ ⟨b,0,ν⟩),ε ζ p,ε υ (o:Int),ε ζ fi] W
  λen w' => ∃i:ACT,en=κ (AFZ i)/\AKw x p o fi i/\St (DV (Da x)) W (Da i.y) w':=by
 subst hb;have hj:=ht.j;have hes:=ht.es;have hms:=ht.ms;have hN:x.tb.s.gen.length=x.tb.s.Fh.length:=hj.tb.n.trans hj.tb.l.symm;have hl:=hj.l;have hm:=hj.T9.len;have hu:=hj.XI;have hc:∀e∈x.l,0<=e.co/\e.co<=4611686018427387904:=λe he=>by have:=hj.lc e he;omega
 have hbn:=hj.bn;have hby:=hj.Uw;have hck:=hj.ck;obtain⟨M,hM⟩:∃M,DV (Da x)=M:=⟨_,rfl⟩;rw[hM]at hst ⊢;clear hM;unfold Da Fj at hst;have h64:=IA fi;refine DL (M:=M) Tryz.func150 [.tmp 8,.tmp 9]  hst ?_;have zs:=Bd.mk pW;refine DZ ?_;refine Cw λK k0=>C9 rfl λK k1=>DR ?_;refine EW (Da x) (BB _) (λ_:Unit=>θ (Fy x.sv p)) _ (λw hw=>MM x rfl p w hw) ?_;intro _ _;refine DR (k1 _ _ ?_);refine C_ ?_;cases ha:Fy x.sv p with
 | false =>
  refine Ed ha ?_;refine DZ ?_;refine C8 (Eg λw hw=>?_);exact⟨⟨0,15,x⟩,rfl,⟨AV7,v0,.inl rfl⟩,hw⟩
 |true =>
 refine Ed ha ?_;refine Cz (k0 _ _ (C9 rfl λK k0=>DR ?_));refine EW (Da x) (BB _) gtV _ (λw hw=>ACK x rfl p o fi ho hN AL hck hby hbn w hw) ?_;rintro⟨gv,v⟩ hi;have AKx:0<=v/\v<=29:=hi.Ql;unfold gtV;dsimp only;refine DR (k0 _ _ ?_);refine DC [0,1,2,3,10,11] λG6 g6=>?_;replace g6:=EK g6;refine Cw λK k0=>?_;have zg:=Bd.mk g6;refine Db ?_;refine C_ ?_;by_cases hv0:v=0
 ·have d0:decide (v=0)=τ:=AUB hv0;refine DU d0 ?_;refine Cz (k0 _ _ (Db ?_));refine C8 (EP λw hw=>?_);exact⟨⟨gv,v,x⟩,rfl,⟨hi.Ql,hi.v,.inl rfl⟩,hw⟩
 refine DU hv0 ?_;have hq:O9 x x:=O9.refl x;have hzb:x.b=x.b:=rfl;refine K3 (Cy rfl (DU h64 ?_));refine Jl [] (Da x) AUz (λ_:Dc=>ε ζ v) (λy=>Da y) _ (λw hw=>GQ x hzb ⟨p,3,o,(Ki fi),v⟩ AVK AVJ w hw) ?_;intro y hy;have hyb:y.b=x.b:=hy.kp.2.2.1.trans hzb;unfold Da;rw[Dp hyb];refine EM ?_;refine DD (k0 _ _ ?_);refine DC [10,11] λG7 g7=>?_;replace g7:=Dy g7;replace zg:=Bd.mk g7;refine Db ?_;refine C8 (EP λw hw=>?_);exact⟨⟨gv,v,y⟩,rfl,⟨hi.Ql,hi.v,.inr ⟨hv0,ha,hy⟩⟩,by show St M W (Da y) w;unfold Da;rw[Dp hyb];exact hw⟩
structure AKy(x:Dc)(p:Int)(o:Nat)(off n:Int)(i:LdI)(y:Dc):Prop where
 l:LdR i n
 r:RdR x p 5 o (Ki off) i.er y
theorem uK x{b}(hb:x.b=b)p(o:Nat)off m(ho:o<18446744073709551616){n}(ht:IM x n)(hn:n<1000)W(hst:St (DV (Da x)) W (Da x) W):
  Calls AGm 152 #[π (σ ⟨b,0,ν⟩),ε ζ p,ε υ (o:Int),ε ζ off,ε ζ m] W
  λen w' => ∃i:LdI×Dc,en=κ (uC i.1)/\AKy x p o off m i.1 i.2/\St (DV (Da x)) W (Uv i.1::Da i.2) w':=by
 subst hb;have hj:=ht.j;have hes:=ht.es;have hms:=ht.ms;have hN:x.tb.s.gen.length=x.tb.s.Fh.length:=hj.tb.n.trans hj.tb.l.symm;have hl:=hj.l;have hm:=hj.T9.len;have hu:=hj.XI;have hc:∀e∈x.l,0<=e.co/\e.co<=4611686018427387904:=λe he=>by have:=hj.lc e he;omega
 have hbn:=hj.bn;have hby:=hj.Uw;have hck:=hj.ck;obtain⟨M,hM⟩:∃M,DV (Da x)=M:=⟨_,rfl⟩;rw[hM]at hst ⊢;clear hM;unfold Da Fj at hst;have h64:=IA off;refine DL (M:=M) Tryz.func152 [.tmp 10,.tmp 11]  hst ?_;have zs:=Bd.mk pW;refine DZ ?_;refine Cw λK k0=>C9 rfl λK k1=>DR ?_;refine EW (Da x) (BB _) (λ_:Unit=>θ (Fy x.sv p)) _ (λw hw=>MM x rfl p w hw) ?_;intro _ _;refine DR (k1 _ _ ?_);refine C_ ?_;cases ha:Fy x.sv p with
 | false =>
  refine Ed ha ?_;refine DZ ?_;refine C8 (Eg λw hw=>?_);exact⟨⟨ldN 15,x⟩,rfl,⟨aW AJ AJ,.inl rfl⟩,hw.addN _ _⟩
 |true =>
 refine Ed ha ?_;refine Cz (k0 _ _ (C9 rfl λK k0=>DR ?_));refine Dh uC (λi=>Uv i::Da x) _ (λw hw=>zT x rfl p o off m ho hN AL hby hbn w hw) ?_;rintro⟨A,rn,rc,rl,v⟩ hi;have AKx:0<=v/\v<=29:=hi.Ql;unfold uC Uv;dsimp only;unfold Da;rw[Dp rfl];refine EM ?_;refine DR (k0 _ _ ?_);refine DY [1,2,0] ?_;refine DC [0,1,2,3,12,13] λG8 g8=>?_;replace g8:=EK g8;refine Cw λK k0=>?_;have zg:=Bd.mk g8;refine Db ?_;refine C_ ?_;by_cases hv0:v=0
 ·have d0:decide (v=0)=τ:=AUB hv0;refine DU d0 ?_;refine Cz (k0 _ _ (Db ?_));refine C8 (EP λw hw=>?_);exact⟨⟨⟨A,rn,rc,rl,v⟩,x⟩,rfl,⟨hi,.inl rfl⟩,hw.pick (ix:=[2,0,1]) AJ⟩
 refine DU hv0 ?_;have hq:O9 x x:=O9.refl x;have hzb:x.b=x.b:=rfl;refine K3 (Cy rfl (DU h64 ?_));refine Dh (λ_:Dc=>ε ζ v) (λy=>Da y) _ (λw hw=>GQ x hzb ⟨p,5,o,(Ki off),v⟩ AVK AVJ w hw) ?_;intro y hy;have hyb:y.b=x.b:=hy.kp.2.2.1.trans hzb;unfold Da;rw[Dp hyb];refine EM ?_;refine DD (k0 _ _ ?_);refine DC [12,13] λG9 g9=>?_;replace g9:=Dy g9;replace zg:=Bd.mk g9;refine Db ?_;refine C8 (EP λw hw=>?_);exact⟨⟨⟨A,rn,rc,rl,v⟩,y⟩,rfl,⟨hi,.inr ⟨hv0,ha,hy⟩⟩,by show St M W (Uv ⟨A,rn,rc,rl,v⟩::Da y) w;unfold Da;rw[Dp hyb];exact hw.pick (ix:=[2,0,1]) AJ⟩
def zf:=AO @Ac @DT
theorem XJ{W A n c}{l:List Nat}(hE:Sl W W.heap.size 1 A n c (l.map λx:Nat=>Value.int η (x:Int)))(hn:n<=100000):
  Calls AGm 69 #[ξ A n c] W λe w'=>(∃d:Nat,e=κ (ε υ (d:Int))/\d<18446744073709551616)/\Below W.heap.size W w':=by
 have hlen:=hE.len;rw[BF]at hlen;refine DL (M:=[]) Tryz.func69 [.tmp 2] (St.nil _ _) ?_;have zs:=Bd.mk zf;refine DZ ?_;refine DZ ?_;refine Cw λK k0=>DZ ?_;refine NB λG4 hG=>?_;have iY:=AUE hG 0;have AHu:=AUE hG 3;have AHv:=AUE hG 4;clear hG;try simp -implicitDefEqProofs (disch:=first|omega|decide) only [seval,-Int.reducePow,-Nat.reducePow,cC,pv,D5,EH,undef,zf]at iY AHu AHv
 have g4:=AO iY (AO AHu AHv);refine DK ?_;refine Dv (λF' L' => ∃(i:Nat)(d:Nat),F' 0=G4 0/\F' 3=ε υ (d:Int)/\F' 4=ε ζ (i:Int)/\L'=[]/\i<=n/\d<18446744073709551616) (λF' L'=>200000-(intOf (F' 4)).toNat) ?_ ?_
 ·refine⟨0,14695981039346656037,?_⟩;have zg:=Bd.mk g4;refine DD ?_;exact Ar _
 intro G5 L' hI;obtain⟨i,d,q0,q3,q4,rfl,⟨hi,hd⟩⟩:=hI;have AFa:=q0.trans iY;have AKz:=q3;have AK0:=q4;clear q0 q3 q4;have g5:=AO AFa (AO AKz AK0);refine Cw λK k1=>?_;have zg:=Bd.mk (AO g4 g5);refine Db ?_;refine Ec (λhc=>?_) λhc=>?_
 ·refine Cz ?_;try simp only[Di,Dq]
  have hit:i<n:=by have:=AT0 ‹decide ((i:Int)<(n:Int))=τ›;omega
  obtain⟨e,he⟩:∃e,l[i]?=σ e:=⟨_,AQ AL⟩;obtain⟨bA,oA,rfl,Oz,-⟩:=hE.cells AL;refine k1 _ _ (Cw λK k1=>DK (DJ rfl (DD ?_)));refine DX (hE.ld1 (m:=1) (i:=i) (v:=ε η (e:Int)) AF (by rw[BZ,he];rfl)) ?_;refine DD (k1 _ _ ?_);refine NB λG6 hG=>?_;have zh:=AUE hG 0;have zi:=AUE hG 3;have AFb:=AUE hG 4;clear hG;try simp -implicitDefEqProofs (disch:=first|omega|decide) only [seval,-Int.reducePow,-Nat.reducePow,cC,pv,D5,EH,undef,zf,g4,g5]at zh zi AFb
  have g6:=AO zh (AO zi AFb);obtain⟨V,hV,zi⟩:∃V:Nat,V<18446744073709551616/\G6 3=ε υ (V:Int):=by
   have hr:∀a:Int,∃V:Nat,V<18446744073709551616/\IntKind.u64.wrap a=V:=λa=>⟨(IntKind.u64.wrap a).toNat,by rw[IntKind.wrap_u64];omega,by rw[IntKind.wrap_u64];omega⟩;obtain⟨V,hV,hVe⟩:=hr _;exact⟨V,hV,zi.trans (AT4 (Value.int υ) hVe)⟩
  rename_i zk;clear zk;have g6:=AO zh (AO zi AFb);refine Cy rfl ?_;replace zg:=Bd.mk (AO g4 (AO g5 g6));refine DD ?_;refine⟨⟨i+1,V,?_⟩,?_⟩
  ·refine DU @Af ?_;exact⟨by omega,hV⟩
  ·exact AXo
 refine Dr (k0 _ _ (Db ?_));refine C8 (EP λw hw=>?_);exact⟨⟨d,rfl,hd⟩,hw.below⟩
section
variable{M:List Nat}{W w:World}{L:List DW}
theorem St.AHw(hw:St M W L w)i j{A n c size m b t t' xs cs}(hi:nth L i=σ (.row (ξ A n c) t size m xs))(hj:nth L j=σ (.blk b t' cs))(hne:i≠j):TJ A [b]:=λb' o e hb=>by
 have hb':b'=b:=by simpa using hb
 subst e hb';exact Fs hw.apart hi hj hne b' AVB AUp
end
def AHx:=AO (AO (AO @tape.eq_1 (AO @I7.eq_1 @Ac)) (AO @IntKind.bits.eq_1 (AO @IntKind.bits.eq_2 @IntKind.bits.eq_3))) (AO (AO @IntKind.bits.eq_4 (AO @IntKind.bits.eq_5 @IntKind.bits.eq_6)) (AO (AO @IntKind.bits.eq_7 @IntKind.bits.eq_8) (AO @KM @cM)))
structure jv where
 sl:Nat
 ar:Nat
 fg:Nat
 lg:Nat
 qb:Nat
 qo:Nat
 qr:Nat
 fr:Nat
 st:Nat
def zl(c:jv):Value:=.agg #[ε ζ (c.sl:Int),ε ζ (c.ar:Int),ε χ (c.fg:Int),ε ζ (c.lg:Int),ε ζ (c.qb:Int),ε ζ (c.qo:Int),ε ζ (c.qr:Int),ε ζ (c.fr:Int),ε ζ (c.st:Int)]
structure jv.ok(c:jv):Prop where
 sl:1<=c.sl/\c.sl<=5
 ar:c.ar<=4096
 fg:1<=c.fg/\c.fg<=4294967295
 lg:c.lg<=200
 qb:c.qb<=4000
 qo:c.qo<=9
 qr:c.qr<=9
 fr:1<=c.fr/\c.fr<=6
 st:4<=c.st/\c.st<=63
theorem iZ b A n c l i W(hW:W.heap[b]?=σ (.cells (tape A n c i).toArray 122 (0,0)))(hE:Sl W W.heap.size 1 A n c (Ic l))(ha:0<n->TJ A [b])(hl:∀x∈l,x<65536)(hi:i<=900000):
  Calls AGm 15 #[π (σ ⟨b,0,ν⟩)] W (λe w' => ∃p:jv×Nat,e=κ (zl p.1)/\(p.1.ok/\p.2<=i+20)/\w'.heap[b]?=σ (.cells (tape A n c p.2).toArray 122 (0,0))/\Ii [b] W w'):=by
 have L5:=EU (l:=l) (i:=i) (m:=5) AL;have L9:=EU (l:=l) (i:=i+1) (m:=9) AL;have L24:=EU (l:=l) (i:=i+1+1) (m:=24) AL;have L6:=EU (l:=l) (i:=i+1+1+1) (m:=6) AL;have L60:=EU (l:=l) (i:=i+1+1+1+1) (m:=60) AL;have L12:=EU (l:=l) (i:=i+1+1+1+1+1) (m:=12) AL;have L6b:=EU (l:=l) (i:=i+1+1+1+1+1+1) (m:=6) AL;have L4:=EU (l:=l) (i:=i+1+1+1+1+1+1+1) (m:=4) AL;have e5:IntKind.i64.wrap (1+((D7 l (i) 5:Nat):Int))=((1+D7 l (i) 5:Nat):Int):=by rw[DT AL AL];omega
 have e64:IntKind.i64.wrap (64*((D7 l (i+1) 9:Nat):Int))=((64*D7 l (i+1) 9:Nat):Int):=by rw[DT AL AL];omega
 have e6:IntKind.i64.wrap (1+((D7 l (i+1+1+1) 6:Nat):Int))=((1+D7 l (i+1+1+1) 6:Nat):Int):=by rw[DT AL AL];omega
 have e4:IntKind.i64.wrap (4+((D7 l (i+1+1+1+1) 60:Nat):Int))=((4+D7 l (i+1+1+1+1) 60:Nat):Int):=by rw[DT AL AL];omega
 have e32:IntKind.i64.wrap (32*((D7 l (i+1+1+1+1+1) 12:Nat):Int))=((32*D7 l (i+1+1+1+1+1) 12:Nat):Int):=by rw[DT AL AL];omega
 refine ER (M:=[b]) (n:=47) [.cell 2 64] rfl Tryz.func15 rfl rfl (Am rfl)  (St.one hW) ?_;refine C9 rfl λK k0=>?_;have zs:=Bd.mk AHx;refine DR ?_;intro b2 hb2 hf2;refine k0 _ _ (DC [0,2] λG1 g1=>?_);replace g1:=EK g1;refine Cw λK k0=>?_;refine Df (λ_ _=>True) (λF' L' => ∃(b3:Nat)(o:jv),EH F' G1 [0,2]/\F' 3=π (σ ⟨b3,0,ν⟩)/\L'=[.blk b3 64 [ε ζ (o.sl:Int),ε ζ (o.ar:Int),ε χ (o.fg:Int),ε ζ (o.lg:Int),ε ζ (o.qb:Int),ε ζ (o.qo:Int),ε ζ (o.qr:Int),ε ζ (o.fr:Int),ε ζ (o.st:Int)],.blk b2 64 [ε ζ 0,ε ζ 0,ε χ 0,ε ζ 0,ε ζ 0,ε ζ 0,ε ζ 0,ε ζ 0,ε ζ 0],I7 b A n c (i+1+1+1+1+1)]/\o.ok/\b3≠b2) ?_ ?_
 ·refine Cy rfl ?_;have zg:=Bd.mk g1;refine DD ?_;refine Dj 1 (λw hw=>EC b A n c l (i) 5 w (hw.hold 1 rfl) (hE.Gq hw ha) ha hl AL AL) rfl ?_;try refine DU (AO e5 (AO e64 (AO e6 (AO e4 e32)))) ?_
  refine Dj 1 (λw hw=>EC b A n c l (i+1) 9 w (hw.hold 1 rfl) (hE.Gq hw ha) ha hl AL AL) rfl ?_;try refine DU (AO e5 (AO e64 (AO e6 (AO e4 e32)))) ?_
  refine Dj 1 (λw hw=>EC b A n c l (i+1+1) 24 w (hw.hold 1 rfl) (hE.Gq hw ha) ha hl AL AL) rfl ?_;try refine DU (AO e5 (AO e64 (AO e6 (AO e4 e32)))) ?_
  refine Dj 1 (λw hw=>EC b A n c l (i+1+1+1) 6 w (hw.hold 1 rfl) (hE.Gq hw ha) ha hl AL AL) rfl ?_;try refine DU (AO e5 (AO e64 (AO e6 (AO e4 e32)))) ?_
  refine Dj 1 (λw hw=>EC b A n c l (i+1+1+1+1) 60 w (hw.hold 1 rfl) (hE.Gq hw ha) ha hl AL AL) rfl ?_;try refine DU (AO e5 (AO e64 (AO e6 (AO e4 e32)))) ?_
  intro b3 hb3 hf3;exact⟨b3,⟨1+D7 l (i) 5,64*D7 l (i+1) 9,1,D7 l (i+1+1) 24,0,0,0,1+D7 l (i+1+1+1) 6,4+D7 l (i+1+1+1+1) 60⟩,rfl,rfl,⟨(by show 1<=1+D7 l _ 5/\1+D7 l _ 5<=5;omega),(by show 64*D7 l _ 9<=4096;omega),(by decide:1<=1/\1<=4294967295),(by show D7 l _ 24<=200;omega),(by decide:0<=4000),(by decide:0<=9),(by decide:0<=9),(by show 1<=1+D7 l _ 6/\1+D7 l _ 6<=6;omega),(by show 4<=4+D7 l _ 60/\4+D7 l _ 60<=63;omega)⟩,by omega⟩
 intro G2 L' _ hF;obtain⟨b3,o,zq,Tn,rfl,⟨ho,hne⟩⟩:=hF;have zg:=Bd.mk g1;have g2:=AO (Dy zq) Tn;refine k0 _ _ (Cw λK k0=>?_);refine Df (λ_ _=>True) (λF' L' => ∃(o1:jv),EH F' G2 [0,2,3]/\L'=[.blk b3 64 [ε ζ (o1.sl:Int),ε ζ (o1.ar:Int),ε χ (o1.fg:Int),ε ζ (o1.lg:Int),ε ζ (o1.qb:Int),ε ζ (o1.qo:Int),ε ζ (o1.qr:Int),ε ζ (o1.fr:Int),ε ζ (o1.st:Int)],.blk b2 64 [ε ζ 0,ε ζ 0,ε χ 0,ε ζ 0,ε ζ 0,ε ζ 0,ε ζ 0,ε ζ 0,ε ζ 0],I7 b A n c (i+1+1+1+1+1+1+1+1)]/\o1.ok) ?_ ?_
 ·refine Cy rfl ?_;replace zg:=Bd.mk g2;refine DD ?_;refine Dj 2 (λw hw=>EC b A n c l (i+1+1+1+1+1) 12 w (hw.hold 2 rfl) (hE.Gq hw ha) ha hl AL AL) rfl ?_;try refine DU (AO e5 (AO e64 (AO e6 (AO e4 e32)))) ?_
  refine Dj 2 (λw hw=>EC b A n c l (i+1+1+1+1+1+1) 6 w (hw.hold 2 rfl) (hE.Gq hw ha) ha hl AL AL) rfl ?_;try refine DU (AO e5 (AO e64 (AO e6 (AO e4 e32)))) ?_
  refine Dj 2 (λw hw=>EC b A n c l (i+1+1+1+1+1+1+1) 4 w (hw.hold 2 rfl) (hE.Gq hw ha) ha hl AL AL) rfl ?_;try refine DU (AO e5 (AO e64 (AO e6 (AO e4 e32)))) ?_
  exact⟨{ o with qb:=32*D7 l (i+1+1+1+1+1) 12,qo:=D7 l (i+1+1+1+1+1+1) 6,qr:=D7 l (i+1+1+1+1+1+1+1) 4 },rfl,ho.sl,ho.ar,ho.fg,ho.lg,(by show 32*D7 l _ 12<=4000;omega),(by show D7 l _ 6<=9;omega),(by show D7 l _ 4<=9;omega),ho.fr,ho.st⟩
 intro G3 L' _ hF;obtain⟨o1,zq,rfl,ho1⟩:=hF;replace zg:=Bd.mk g2;have g3:=Dy zq;refine k0 _ _ (Cw λK k0=>?_);refine Df (λ_ _=>True) (λF' L' => ∃(o2:jv),EH F' G3 [0,2,3]/\L'=[.blk b3 64 [ε ζ (o2.sl:Int),ε ζ (o2.ar:Int),ε χ (o2.fg:Int),ε ζ (o2.lg:Int),ε ζ (o2.qb:Int),ε ζ (o2.qo:Int),ε ζ (o2.qr:Int),ε ζ (o2.fr:Int),ε ζ (o2.st:Int)],.blk b2 64 [ε ζ 0,ε ζ 0,ε χ 0,ε ζ 0,ε ζ 0,ε ζ 0,ε ζ 0,ε ζ 0,ε ζ 0],I7 b A n c (i+1+1+1+1+1+1+1+1+1)]/\o2.ok) ?_ ?_
 ·refine C9 rfl λK k1=>?_;replace zg:=Bd.mk g3;refine DD ?_;refine Dj 2 (λw hw=>EC b A n c l (i+1+1+1+1+1+1+1+1) 6 w (hw.hold 2 rfl) (hE.Gq hw ha) ha hl AL AL) rfl ?_;try refine DU (AO e5 (AO e64 (AO e6 (AO e4 e32)))) ?_
  refine k1 _ _ (DK (Db ?_));refine C_ ?_;by_cases k0:D7 l (i+1+1+1+1+1+1+1+1) 6=0
  ·have d0:decide (((D7 l (i+1+1+1+1+1+1+1+1) 6:Nat):Int)=0)=τ:=AUB AL;refine DU d0 ?_;refine DJ rfl (DD ?_);exact⟨{ o1 with fg:=4294967295 },rfl,ho1.sl,ho1.ar,(by decide:1<=4294967295/\4294967295<=4294967295),ho1.lg,ho1.qb,ho1.qo,ho1.qr,ho1.fr,ho1.st⟩
  have d0:decide (((D7 l (i+1+1+1+1+1+1+1+1) 6:Nat):Int)=0)=ο:=AUC AL;refine DU d0 ?_;refine Db ?_;refine C_ ?_;by_cases k1:D7 l (i+1+1+1+1+1+1+1+1) 6=1
  ·have d1:decide (((D7 l (i+1+1+1+1+1+1+1+1) 6:Nat):Int)=1)=τ:=AUB AL;refine DU d1 ?_;refine DJ rfl (DD ?_);exact⟨{ o1 with fg:=4294967294 },rfl,ho1.sl,ho1.ar,(by decide:1<=4294967294/\4294967294<=4294967295),ho1.lg,ho1.qb,ho1.qo,ho1.qr,ho1.fr,ho1.st⟩
  have d1:decide (((D7 l (i+1+1+1+1+1+1+1+1) 6:Nat):Int)=1)=ο:=AUC AL;refine DU d1 ?_;refine Db ?_;refine C_ ?_;by_cases k2:D7 l (i+1+1+1+1+1+1+1+1) 6=2
  ·have d2:decide (((D7 l (i+1+1+1+1+1+1+1+1) 6:Nat):Int)=2)=τ:=AUB AL;refine DU d2 ?_;refine DJ rfl (DD ?_);exact⟨{ o1 with fg:=77 },rfl,ho1.sl,ho1.ar,(by decide:1<=77/\77<=4294967295),ho1.lg,ho1.qb,ho1.qo,ho1.qr,ho1.fr,ho1.st⟩
  have d2:decide (((D7 l (i+1+1+1+1+1+1+1+1) 6:Nat):Int)=2)=ο:=AUC AL;refine DU d2 ?_;refine Cz ?_;try simp only[Di,Dq]
  refine DD ?_;exact⟨o1,rfl,ho1⟩
 intro G4 L' _ hF;obtain⟨o2,zq,rfl,ho2⟩:=hF;replace zg:=Bd.mk g3;have g4:=Dy zq;refine k0 _ _ (Cw λK k0=>?_);refine Df (λ_ _=>True) (λF' L' => ∃(o3:jv),EH F' G4 [2,3]/\L'=[.blk b3 64 [ε ζ (o3.sl:Int),ε ζ (o3.ar:Int),ε χ (o3.fg:Int),ε ζ (o3.lg:Int),ε ζ (o3.qb:Int),ε ζ (o3.qo:Int),ε ζ (o3.qr:Int),ε ζ (o3.fr:Int),ε ζ (o3.st:Int)],.blk b2 64 [ε ζ 0,ε ζ 0,ε χ 0,ε ζ 0,ε ζ 0,ε ζ 0,ε ζ 0,ε ζ 0,ε ζ 0],I7 b A n c (i+1+1+1+1+1+1+1+1+1+1)]/\o3.ok) ?_ ?_
 ·refine C9 rfl λK k1=>?_;replace zg:=Bd.mk g4;refine DD ?_;refine Dj 2 (λw hw=>EC b A n c l (i+1+1+1+1+1+1+1+1+1) 3 w (hw.hold 2 rfl) (hE.Gq hw ha) ha hl AL AL) rfl ?_;try refine DU (AO e5 (AO e64 (AO e6 (AO e4 e32)))) ?_
  refine k1 _ _ (C_ ?_);by_cases k0:D7 l (i+1+1+1+1+1+1+1+1+1) 3=0
  ·have d0:decide (((D7 l (i+1+1+1+1+1+1+1+1+1) 3:Nat):Int)>0)=ο:=AUC AL;refine DU d0 ?_;refine Cz ?_;try simp only[Di,Dq]
   refine DD ?_;exact⟨o2,rfl,ho2⟩
  have d0:decide (((D7 l (i+1+1+1+1+1+1+1+1+1) 3:Nat):Int)>0)=τ:=AUB AL;refine DU d0 ?_;refine Db ?_;refine Db ?_;refine DJ rfl (DD ?_);exact⟨{ o2 with ar:=4096,qb:=4000,qo:=9,qr:=9,lg:=200 },rfl,ho2.sl,(by decide:4096<=4096),ho2.fg,(by decide:200<=200),(by decide:4000<=4000),(by decide:9<=9),(by decide:9<=9),ho2.fr,ho2.st⟩
 intro G5 L' _ hF;obtain⟨o3,zq,rfl,ho3⟩:=hF;replace zg:=Bd.mk g4;have g5:=Dy zq;refine k0 _ _ ?_;replace zg:=Bd.mk g5;refine KU hne ?_;refine C8 (FF ?_);intro w hw;exact⟨(o3,i+1+1+1+1+1+1+1+1+1+1),rfl,⟨ho3,by omega⟩,hw.hold 2 rfl,hw.ES⟩
theorem T_ c(hc:c.ok)W:Calls AGm 51 #[zl c] W λe w'=>e=κ (ε ζ 0)/\Below W.heap.size W w':=by
 obtain⟨⟨a1,a2⟩,a3,⟨a4,a5⟩,a6,a7,a8,a9,⟨a10,a11⟩,⟨a12,a13⟩⟩:=hc;have d1:¬((c.sl:Int)<0):=by omega
 have d2:¬((c.sl:Int)>4096):=by omega
 have d3:¬((c.ar:Int)<0):=by omega
 have d4:¬((c.ar:Int)>1048576):=by omega
 have d5:¬((c.fg:Int)=0):=by omega
 have d6:¬((c.lg:Int)<0):=by omega
 have d7:¬((c.lg:Int)>65536):=by omega
 have d8:¬((c.qb:Int)<0):=by omega
 have d9:¬((c.qo:Int)<0):=by omega
 have d10:¬((c.qr:Int)<0):=by omega
 have d11:¬((c.fr:Int)<1):=by omega
 have d12:¬((c.fr:Int)>256):=by omega
 have d13:¬((c.st:Int)<0):=by omega
 have d14:¬((c.st:Int)>16384):=by omega
 unfold zl;refine DL (M:=[]) Tryz.func51 [.tmp 2] (St.nil _ _) ?_;refine C9 rfl λK k0=>?_;have zs:=Bd.mk IZ;refine DR ?_;intro b1 hb1;refine k0 _ _ (Cw λK k0=>C9 rfl λK k1=>?_);simp only[ASt,List.cons_append,List.nil_append];simp -implicitDefEqProofs (maxSteps:=1000000) (disch:=first|omega|decide) only [seval,-Int.reducePow,-Nat.reducePow,cC,pv,D5,EH,undef,IZ,d1,d2,d3,d4,d5,d6,d7,d8,d9,d10,d11,d12,d13,d14];refine k1 _ _ (C_ (DR ?_));refine Cz (k0 _ _ (DZ ?_));refine C8 (Eg λw hw=>?_);exact⟨rfl,hw.below⟩
structure uL(c:jv)(x:Dc):Prop where
 N:x.N=c.ar
 Lh:x.Lh=[]
 tn:x.tn=0
 us:x.us=[]
 l:x.l=[]
 lim:x.lim=⟨c.qb,c.qo,c.qr⟩
 mt:x.mt=[]
 cap:x.cap=c.lg
 es:x.es=[]
 ms:x.ms=[]
 bn:x.bn=c.sl
 Fw:x.Fw=Ah c.sl I9
 sv:x.sv=Ah 65 0
 tb:gJ c.sl c.fg x.tb
 y7:x.y7=ε ζ (c.fr:Int)
 y8:x.y8=ε ζ (c.st:Int)
def nhV(x:Dc):Value:=.tuple #[π (σ ⟨x.b,0,ν⟩),ε ζ 0]
theorem AHy:Jy AGm 95=σ (38,1,24):=by kernel_rfl
theorem AHz:Jy AGm 27=σ (3,1,8):=by kernel_rfl
def iz(a:Int):List Value:=[ε ζ a]
theorem zm l:l.flatMap iz=D8 l:=by
 induction l with
 |nil=>rfl
 |cons a l ih=>rw[BK,ih];rfl
section
variable{M:List Nat}{W w:World}{L R:List DW}
theorem mI n(h:St M W L w):St M W (Dk ((Ah n I9).map FI)::L) w:=by
 induction n with
 |zero=>exact St.Dk (R:=[]) h
 | succ n ih =>
  have h1:St M W (FI I9::Dk ((Ah n I9).map FI)::L) w:=ih.addN _ _;have h2:=iP h1;have h3:(Ah (n+1) I9).map FI=(Ah n I9).map FI++[FI I9]:=by rw[List.replicate_succ',Bj];rfl
  rw[h3];exact h2
end
theorem ACU c(hc:c.ok)W:
  Calls AGm 29 #[zl c] W
  λen w' => ∃x:Dc,en=κ (nhV x)/\uL c x/\St [] W (Da x) w':=by
 have hcc:=hc;obtain⟨⟨a1,a2⟩,a3,⟨a4,a5⟩,a6,a7,a8,a9,⟨a10,a11⟩,⟨a12,a13⟩⟩:=hc;have e64:IntKind.i64.wrap (c.fg:Int)=(c.fg:Int):=DT AL AL;unfold zl;refine DL (M:=[]) Tryz.func29 [.tmp 2,.tmp 3] (St.nil _ _) ?_;refine C9 rfl λK k0=>?_;have zs:=Bd.mk IZ;refine DR ?_;intro b1 hb1;refine k0 _ _ (DC [1] λG1 g1=>?_);replace g1:=EK g1;refine Cw λK k0=>C9 rfl λK k1=>?_;have zg:=Bd.mk g1;refine DD ?_;refine DI (λw hw=>T_ c hcc w) ?_;try refine DD ?_
 refine k1 _ _ (Db ?_);refine C_ (DD ?_);refine Cz (k0 _ _ (C9 rfl λK k0=>DD ?_));intro b5 hb5 Uj;refine k0 _ _ (DC [1,5] λG2 g2=>?_);replace g2:=Dy g2;replace zg:=Bd.mk g2;refine Db ?_;refine C9 rfl λK k0=>DU e64 ?_;refine F6 AE0 (λx=>Mc x) (λt=>gJ c.sl c.fg t/\b5<t.tb/\b5<t.s.sb/\b1<t.tb/\b1<t.s.sb) (λw hw=>(YB c.sl (c.fg:Int) AL ⟨by omega,by omega⟩ w).mono (by
  rintro en w2 ⟨t,h1,h2,h3⟩;have o5:=(hw.own _ (DN (k:=0) rfl) b5 AUp).2;have o1:=(hw.own _ (DN (k:=1) rfl) b1 AUp).2;have ot:=(h3.own _ (DN (k:=0) rfl) t.tb AUp).1;have os:=(h3.own _ (DN (k:=2) rfl) t.s.sb AUp).1;simp only[Ae,AT7]at ot os;exact⟨t,h1,⟨h2,by omega,by omega,by omega,by omega⟩,h3⟩)) ?_
 rintro t ⟨htn,n1,n2,n3,n4⟩;unfold AE0 Mc Nt;refine EM ?_;refine DD (k0 _ _ ?_);refine DY [6,7,0,1,2,3,4,5] ?_;refine DC [1,5] λG3 g3=>?_;replace g3:=Dy g3;replace zg:=Bd.mk g3;refine Db ?_;refine Db ?_;refine C9 rfl λK k0=>DD ?_;refine Sq (n:=c.sl) (kl:=ζ) (kc:=ζ) O4 I9 AHy AF rfl AL AUw AUw AL AL ?_;intro gB APa AK1 APb;simp -implicitDefEqProofs (disch:=first|omega|decide) only [seval,-Int.reducePow,-Nat.reducePow,cC,pv,D5,EH,undef,IZ,g3]at AK1;refine DD (k0 _ _ ?_);refine C9 rfl λK k0=>DD ?_;refine Sq (n:=65) (kl:=ζ) (kc:=ζ) iz (0:Int) AHz AF rfl AL AUw AUw AL AL ?_;intro gS APc AK2 APd;simp -implicitDefEqProofs (disch:=first|omega|decide) only [seval,-Int.reducePow,-Nat.reducePow,cC,pv,D5,EH,undef,IZ,g3]at AK2;obtain⟨z,hz⟩:∃z,Ah 65 (0:Int)=z:=⟨_,rfl⟩;rw[zm,hz];refine DD (k0 _ _ ?_);obtain⟨x,hx⟩:∃x:Dc,(⟨b5,ε ζ (c.sl:Int),ε ζ (c.ar:Int),ε χ (c.fg:Int),ε ζ (c.lg:Int),ε ζ (c.qb:Int),ε ζ (c.qo:Int),ε ζ (c.qr:Int),ε ζ (c.fr:Int),ε ζ (c.st:Int),ν,0,0,[],c.ar,ν,0,0,[],t,ν,0,0,[],⟨c.qb,c.qo,c.qr⟩,ν,0,0,[],c.lg,ν,0,0,[],ν,0,0,[],σ ⟨gB,0,ν⟩,c.sl,c.sl,Ah c.sl I9,gS,z⟩:Dc)=x:=⟨_,rfl⟩;refine Eo (Da x) (λw hw=>?_) ?_
 ·have h1:=St.JR (t:=3) (size:=1) (n:=65) hw (by rw[EY,<-hz,CB]) AL;have h2:=St.JR (t:=38) (size:=1) (n:=c.sl) h1.swp (by rw[GN I4,CB]) AL;have h3:=St.Dk (R:=Mc t) (h2.pick (ix:=[4,5,6,7,8,9,0,1,2,3]) AJ);have h4:=mI c.sl (St.Dk (R:=[]) h3);have h5:=(((((h4.addN 3 1).addN 49 5).addN 292 4).addN 117 4).addN 37 2).addN 216 2;have h6:=h5.pick (ix:=[0,1,2,3,4,5,9,10,8,7,6,11]) AJ;have h7:=St.Dk (R:=Fx x) (L:=[Fj x]) (by rw[<-hx];exact h6);exact h7.swp
 have hxb:x.b=b5:=by rw[<-hx]
 unfold Da;rw[Dp hxb];refine Db ?_;refine C8 (EP λw hw=>?_);refine⟨x,by unfold nhV;rw[hxb],?_,by show St [] W (Da x) w;unfold Da;rw[Dp hxb];exact hw⟩;rw[<-hx];exact⟨rfl,rfl,rfl,rfl,rfl,rfl,rfl,rfl,rfl,rfl,rfl,rfl,hz.symm,htn,rfl,rfl⟩
theorem ACV n:(X_ n).Nodup:=by
 unfold X_;rw[List.nodup_iff_pairwise_ne,AG2];exact(List.nodup_range (n:=n)).imp λh e=>h AL
theorem uL.t{c x}(h:uL c x)(hc:c.ok):IM x 0:=by
 obtain⟨⟨a1,a2⟩,a3,⟨a4,a5⟩,a6,a7,a8,a9,⟨a10,a11⟩,⟨a12,a13⟩⟩:=hc;have htb:=h.tb.inv AL ⟨by omega,by omega⟩;have hlv:∀s,Ej x.tb.s s=ο:=λs=>by
  unfold Ej;rw[h.tb.s.Fh,ASR];split<;>rfl
 have hen:∀s,ET x.tb s=en0:=λs=>by
  unfold ET;rw[h.tb.E,ASR];split<;>rfl
 have hnl:∀s,¬Ej x.tb.s s=τ:=λs hs=>by rw[hlv]at hs;cases hs
 refine⟨{ tb:=htb,te:=⟨λs hs=>absurd hs (hnl s),λs=>by rw[hen];decide⟩,sm:=by rw[h.tb.en];omega,tf:=⟨λs hs=>⟨hlv s,?_⟩,?_,by rw[h.tb.s.first];omega⟩,l:=by rw[h.l];exact Ay _,lc:=λb hb=>(by rw[h.l]at hb;cases hb),T9:=by rw[h.mt];exact Xq.nil,VT:=λs hs=>(by rw[h.mt]at hs;cases hs),lim := ?_,lok := ?_,rm := ?_,ru:=λu hu=>(by rw[h.us]at hu;cases hu),bn:=by rw[h.bn,h.tb.en],bl:=by rw[h.Fw,h.bn,CB],ck:=λt ht=>(by rw[h.Lh]at ht;cases ht),tn:=by rw[h.tn];omega,tl:=by rw[h.Lh,h.tn];rfl,Uw:=λs hs=>absurd hs (hnl s),el:=by rw[h.tb.E,h.tb.en,CB] },by rw[h.es];exact Ay _,by rw[h.ms];exact Ay _,λe he=>(by rw[h.es]at he;cases he)⟩
 ·unfold Gt;rw[h.tb.s.gen,ASR];split<;>decide
 ·rw[h.tb.s.Fu];exact ACV _
 ·exact AVC
 ·exact AVC
 ·rw[h.us,h.N];exact⟨_,[],by omega,by omega,λe he=>(by cases he),AS7,rfl,λo l=>⟨λh=>(by cases h),λh=>(by cases h)⟩,List.nodup_nil⟩
theorem IM.wr2{x y n}(h:IM x n)(hn:n<1000){p op ar Core v}(har:ar<18446744073709551616)
  (hC:∀z h,Gm x p=0->Core z v h->O9 x z/\Ga z (9*n+9) (n+1)/\h<18446744073709551616) (hr:NK x p op ar Core v y):IM y (n+1)/\y.b=x.b:=by
 refine⟨h.wr hn har hC hr,?_⟩;unfold NK at hr;by_cases h0:Gm x p=0
 ·rw[ATv h0]at hr;obtain⟨z,hh,hc,hrec⟩:=hr;exact hrec.kp.2.2.1.trans (hC z hh h0 hc).1.b
 ·rw[ATt h0]at hr;exact hr.2.kp.2.2.1
theorem IM.wSt{x y n}(h:IM x n)(hn:n<1000){p op v ar o}(har:ar<18446744073709551616)(ho:o<18446744073709551616)(hr:NK x p op ar (λz v h=>StR x ⟨v,z⟩/\h=o) v y):IM y (n+1)/\y.b=x.b :=
 h.wr2 hn har (λz hh h0 hc=>⟨hc.1.r.q,(h.j.eqB hc.1.r).up AL AL AL,by rw[hc.2];exact ho⟩) hr
theorem IM.wTr{x y n}(h:IM x n)(hn:n<1000){p q op v ar o}(har:ar<18446744073709551616)(ho:o<18446744073709551616)(hr:NK x p op ar (λz v h=>TrR x p o q ⟨v,z⟩/\h=o) v y):IM y (n+1)/\y.b=x.b :=
 h.wr2 hn har (λz hh h0 hc=>⟨hc.1.q,(h.j.zW (GH (Mh h0)) hc.1).up AL AL AL,by rw[hc.2];exact ho⟩) hr
theorem IM.wLn{x y n}(h:IM x n)(hn:n<1000){p q ac mo op v ar o}(har:ar<18446744073709551616)(ho:o<18446744073709551616)(hr:NK x p op ar (λz v h=>LnR x p o q ac mo ⟨v,z⟩/\h=o) v y):IM y (n+1)/\y.b=x.b :=
 h.wr2 hn har (λz hh h0 hc=>⟨hc.1.q,(h.j.rP hc.1).up AL AL AL,by rw[hc.2];exact ho⟩) hr
theorem IM.wRl{x y n}(h:IM x n)(hn:n<1000){p op v ar o}(har:ar<18446744073709551616)(ho:o<18446744073709551616)(hr:NK x p op ar (λz v h=>RlR x p o ⟨v,z⟩/\h=o) v y):IM y (n+1)/\y.b=x.b :=
 h.wr2 hn har (λz hh h0 hc=>⟨hc.1.q,(h.j.rls hc.1).up AL AL AL,by rw[hc.2];exact ho⟩) hr
theorem IM.wFr{x y n}(h:IM x n)(hn:n<1000){p op v ar o}(har:ar<18446744073709551616)(ho:o<18446744073709551616)(hr:NK x p op ar (λz v h=>mF x z p o v/\h=o) v y):IM y (n+1)/\y.b=x.b :=
 h.wr2 hn har (λz hh h0 hc=>⟨hc.1.q,(hc.1.j h.j AL).up AL AL AL,by rw[hc.2];exact ho⟩) hr
theorem za.b{x p tag d i}(hr:za x p tag d i):i.y.b=x.b:=by
 have h1:=hr.r;by_cases h0:Gm x p=0
 ·rw[ATv h0]at h1;obtain⟨z,h2,h3⟩:=h1;exact h3.kp.2.2.1.trans h2.q.b
 ·rw[ATt h0]at h1;exact h1.2.kp.2.2.1
theorem RdR.b{x y p op er o ar}(hr:RdR x p op o ar er y):y.b=x.b:=by
 rcases hr with rfl|⟨-,-,hr⟩
 ·rfl
 ·exact hr.kp.2.2.1
theorem pX{cap es es' e r}(h:(r,es')=Q9 cap es e):es'=es\/es'=es++[e]:=by
 unfold Q9 at h;split at h
 ·exact .inl (AT4 ASY h)
 ·split at h
  ·exact .inl (AT4 ASY h)
  ·exact .inr (AT4 ASY h)
theorem IM.FL{x y n}(h:IM x n)(hn:n<1000){p}(hr:AFF x y p):IM y (n+1)/\y.b=x.b:=by
 have h1:=hr.r;by_cases h0:lZ x p=0
 ·rw[ATv h0]at h1;obtain⟨i,rfl,hi⟩:=h1;have he:=pX hi;have h3:=h.es;have h4:=h.ms;refine⟨⟨((h.j.Sm _).NI i).up AL AL AL,?_,?_,?_⟩,rfl⟩
  ·show i.es.length<=n+1;rcases he with he|he<;>rw[he]
   ·omega
   ·rw[Ag,BI];omega
  ·show x.ms.length<=n+1;omega
  ·show ∀e∈i.es,e.ok;intro e hm;rcases he with he|he<;>rw[he]at hm
   ·exact h.ok e hm
   ·rcases AV.1 hm with hm|hm
    ·exact h.ok e hm
    ·rw[BH.1 hm];exact⟨AU_,AU_⟩
 ·rw[ATt h0]at h1;rw[h1];exact⟨h.up (Co n) hn,rfl⟩
theorem Px.q{x y es}(hr:Px x y es):O9 x y:=by
 induction hr with
 |nil=>exact O9.refl _
 | snoc h1 h2 h3 ih =>
  have h4:=h2.q;exact⟨h4.b.trans ih.b,h4.es.trans ih.es,h4.ms.trans ih.ms,h4.cap.trans ih.cap,h4.sv.trans ih.sv,h4.y7.trans ih.y7,h4.y8.trans ih.y8⟩
theorem IM.end_{x n}(h:IM x n)(hn:n<1000){p i}(hr:EdR x p i):IM i.y (n+1)/\i.y.b=x.b:=by
 have hj:=(h.j.end_ AL AL hr).up (k':=9*(n+1)) (c':=n+1) AL AL AL;have h0:=hr.r;by_cases ha:Fy x.sv p=ο
 ·rw[ATv ha]at h0;rw[h0.2.2];exact⟨h.up (Co n) hn,rfl⟩
 rw[ATt ha]at h0;obtain⟨-,l,m,x3,es,ei,g⟩:=h0;have hq:=g.fr.q;have hy:=g.fy;have he:=pX g.ev;have h3:=h.es;have h4:=h.ms;have hsm:=h.j.sm;have hfn:i.n<=8:=by
  rw[g.fn,g.fe];have h5:=Ap (λe:En=>decide (e.ow=p)) (KH x.tb x.tb.en);have h6:=SY x.tb x.tb.en;omega
 have hyb:i.y.b=x.b:=by rw[hy];exact hq.b
 have hys:i.y.es=ei.es:=by rw[hy];rfl
 have hym:i.y.ms=x.ms:=by rw[hy];exact hq.ms
 refine⟨⟨hj,?_,?_,?_⟩,hyb⟩
 ·rw[hys];rcases he with he|he<;>rw[he]
  ·omega
  ·rw[Ag,BI];omega
 ·rw[hym];omega
 ·rw[hys];intro e hm;rcases he with he|he<;>rw[he]at hm
  ·exact h.ok e hm
  ·rcases AV.1 hm with hm|hm
   ·exact h.ok e hm
   ·rw[BH.1 hm];exact⟨AU_,(by show i.n<_;omega)⟩
theorem IM.reg{x n}(h:IM x n){len fs i}(hr:RgR x len fs i):IM i.y n/\i.y.b=x.b:=by
 have hj:=h.j.reg hr;by_cases hc:Ho len fs=0/\i.er=0/\i.tag=x.tn+1
 ·obtain⟨-,A,c,t,-,-,hy⟩:=hr.new hc;have e1:i.y.es=x.es:=by rw[hy];rfl
  have e2:i.y.ms=x.ms:=by rw[hy];rfl
  have e3:i.y.b=x.b:=by rw[hy];rfl
  exact⟨⟨hj,by rw[e1];exact h.es,by rw[e2];exact h.ms,by rw[e1];exact h.ok⟩,e3⟩
 ·rw[hr.old hc];exact⟨h,rfl⟩
structure BsI where
 A:Option Addr
 n:Nat
 c:Nat
 l:List Nat
def bsV(i:BsI):Value:=ξ i.A i.n i.c
abbrev ic(o:Nat):Prop:=o<18446744073709551616
inductive LC:Dc->Dc->Prop
 |FL {x y:Dc} (p:Int):AFF x y p->LC x y
 |end_ {x:Dc} {i:ll} (p:Int):EdR x p i->LC x i.y
 |st {x y:Dc} (p op v:Int) (ar o:Nat):(op=4\/op=6\/op=7)->ic ar->ic o->NK x p op ar (λz v h=>StR x ⟨v,z⟩/\h=o) v y->LC x y
 |tr {x y:Dc} (p q v:Int) (o:Nat):ic o->NK x p 8 (Ki q) (λz v h=>TrR x p o q ⟨v,z⟩/\h=o) v y->LC x y
 |ln {x y:Dc} (p q ac mo op v:Int) (o:Nat):(op=9/\ac=4/\mo=1\/op=10/\ac=3/\mo=2)->ic o->NK x p op (Ki q) (λz v h=>LnR x p o q ac mo ⟨v,z⟩/\h=o) v y->LC x y
 |rl {x y:Dc} (p v:Int) (o:Nat):ic o->NK x p 11 0 (λz v h=>RlR x p o ⟨v,z⟩/\h=o) v y->LC x y
 |fr {x y:Dc} (p v:Int) (o:Nat):ic o->NK x p 2 0 (λz v h=>mF x z p o v/\h=o) v y->LC x y
 |al {x:Dc} {i:mG} (p tag:Int) (d:Nat):za x p tag d i->LC x i.y
 |rd {x y:Dc} (p op er:Int) (o ar:Nat):(op=3\/op=5)->ic o->ic ar->RdR x p op o ar er y->LC x y
 |rg {x:Dc} {i:RgI} (len:Int) (fs:List Fd):RgR x len fs i->LC x i.y
inductive LF:Dc->Dc->Nat->Prop
 |nil (x:Dc):LF x x 0
 |snoc {x y z:Dc} {n:Nat} : LF x y n->LC y z->LF x z (n+1)
structure Cfg(x y:Dc):Prop where
 y7:y.y7=x.y7
 y8:y.y8=x.y8
theorem Cfg.trans{x y z}(h:Cfg x y)(k:Cfg y z):Cfg x z:=⟨k.y7.trans h.y7,k.y8.trans h.y8⟩
theorem O9.cfg{x y}(h:O9 x y):Cfg x y:=⟨h.y7,h.y8⟩
theorem W_.cfg{x y e}(h:W_ x y e):Cfg x y:=⟨h.kp.2.2.2.2.2.1,h.kp.2.2.2.2.2.2⟩
theorem Pw.cfg{x y p}(h:Pw x y p):Cfg x y:=⟨h.kp.2.2.2.2.2.1,h.kp.2.2.2.2.2.2⟩
theorem NK.cfg{x y p op v ar Core}(hC:∀z h,Core z v h->O9 x z)(hr:NK x p op ar Core v y):Cfg x y:=by
 unfold NK at hr;by_cases h0:Gm x p=0
 ·rw[ATv h0]at hr;obtain⟨z,hh,hc,hrec⟩:=hr;exact(hC z hh hc).cfg.trans hrec.cfg
 ·rw[ATt h0]at hr;exact hr.2.cfg
theorem LC.cfg{x y}(h:LC x y):Cfg x y:=by
 cases h with
 | FL p h =>
  have h1:=h.r;by_cases h0:lZ x p=0
  ·rw[ATv h0]at h1;obtain⟨i,rfl,-⟩:=h1;exact AWh
  ·rw[ATt h0]at h1;rw[h1];exact AWh
 | end_ p h =>
  have h0:=h.r;by_cases ha:Fy x.sv p=ο
  ·rw[ATv ha]at h0;rw[h0.2.2];exact AWh
  ·rw[ATt ha]at h0;obtain⟨-,l,m,x3,es,ei,g⟩:=h0;have hq:=g.fr.q;rw[g.fy];exact⟨hq.y7,hq.y8⟩
 |st p op v ar o h1 h2 h3 h=>exact h.cfg λz hh hc=>hc.1.r.q
 |tr p q v o h1 h=>exact h.cfg λz hh hc=>hc.1.q
 |ln p q ac mo op v o h0 h1 h=>exact h.cfg λz hh hc=>hc.1.q
 |rl p v o h1 h=>exact h.cfg λz hh hc=>hc.1.q
 |fr p v o h1 h=>exact h.cfg λz hh hc=>hc.1.q
 | al p tag d h =>
  have h1:=h.r;by_cases h0:Gm x p=0
  ·rw[ATv h0]at h1;obtain⟨z,h2,h3⟩:=h1;exact h2.q.cfg.trans h3.cfg
  ·rw[ATt h0]at h1;exact h1.2.cfg
 | rd p op er o ar h0 h1 h2 h =>
  rcases h with rfl|⟨-,-,h⟩
  ·exact AWh
  ·exact h.cfg
 | rg len fs h =>
  rename_i i;by_cases hc:Ho len fs=0/\i.er=0/\i.tag=x.tn+1
  ·obtain⟨-,A,c,t,-,-,hy⟩:=h.new hc;rw[hy];exact AWh
  ·rw[h.old hc];exact AWh
theorem LC.keep{x y n}(h:IM x n)(hn:n<1000)(hs:LC x y):IM y (n+1)/\y.b=x.b:=by
 cases hs with
 |FL p hs=>exact h.FL hn hs
 |end_ p hs=>exact h.end_ hn hs
 |st p op v ar o h1 h2 h3 hs=>exact h.wSt hn h2 h3 hs
 |tr p q v o h1 hs=>exact h.wTr hn (Ia q) h1 hs
 |ln p q ac mo op v o h0 h1 hs=>exact h.wLn hn (Ia q) h1 hs
 |rl p v o h1 hs=>exact h.wRl hn AJ h1 hs
 |fr p v o h1 hs=>exact h.wFr hn AJ h1 hs
 |al p tag d hs=>exact⟨h.alw hn hs,hs.b⟩
 |rd p op er o ar h0 h1 h2 hs=>exact⟨h.rd hn h1 h2 hs,hs.b⟩
 |rg len fs hs=>exact⟨(h.reg hs).1.up (Co n) hn,(h.reg hs).2⟩
structure AH1(x y:Dc)(n:Nat):Prop where
 t:IM y n
 b:y.b=x.b
 c:Cfg x y
theorem LF.keep{x y n m}(h:IM x n)(hr:LF x y m)(hn:n+m<=1000):AH1 x y (n+m):=by
 induction hr with
 |nil=>exact⟨h,rfl,rfl,rfl⟩
 | snoc h1 h2 ih =>
  have h3:=ih AL;have h4:=h2.keep h3.t AL;exact⟨h4.1,h4.2.trans h3.b,h3.c.trans h2.cfg⟩
theorem LF.one{x y}(h:LC x y):LF x y 1:=.snoc (.nil x) h
theorem LF.app{x y z n m}(h:LF x y n)(k:LF y z m):LF x z (n+m):=by
 induction k with
 |nil=>exact h
 |snoc h1 h2 ih=>exact .snoc ih h2
def s2(x y:Int):List Value:=if y<x then [ε ζ y,ε ζ x] else [ε ζ x,ε ζ y]
structure Ins where
 op:Int
 arg:Nat
 deriving DecidableEq
def J_(i:Ins):List Value:=[ε ζ i.op,ε υ (i.arg:Int)]
def Li(i:Ins):Value:=.agg #[ε ζ i.op,ε υ (i.arg:Int)]
def NL(b:Nat)(i:Ins):DW:=.blk b 171 [ε ζ i.op,ε υ (i.arg:Int)]
theorem Gw i:(J_ i).length=2:=rfl
theorem Y_ i:ones (J_ i)=τ:=rfl
abbrev Jf(op:Int):Prop:=1<=op/\op<=25
abbrev Py(op:Int):Prop:=op=1\/op=2\/op=3\/op=19\/op=20\/op=21\/op=23
namespace Ins
def err(i:Ins):Int:=if ¬Jf i.op then 22 else if ¬Py i.op∧¬i.arg=0 then 1 else 0
theorem JJ{i:Ins}(h:i.err=0):Jf i.op/\(¬Py i.op->i.arg=0):=by
 unfold err at h;split at h
 ·cases h
 split at h
 ·cases h
 exact⟨by omega,by omega⟩
end Ins
def encI(i:Ins):List Nat:=i.op.toNat::(if Py i.op then Gr i.arg else [])
def ZA(i:Ins):List Nat:=if i.err=0 then encI i else []
def NM:List Nat->Ins×Nat×Int
 |[]=>(⟨0,0⟩,0,2)
 | c::r=>if ¬Jf (c:Int) then (⟨0,0⟩,0,22) else if ¬Py (c:Int) then (⟨(c:Int),0⟩,1,0) else
   if (uD 0 r).2.2=0 then (⟨(c:Int),(uD 0 r).1⟩,1+(uD 0 r).2.1,0) else (⟨0,0⟩,0,(uD 0 r).2.2)
theorem N7 c r:NM (c::r)=if ¬Jf (c:Int) then (⟨0,0⟩,0,22) else if ¬Py (c:Int) then (⟨(c:Int),0⟩,1,0) else
   if (uD 0 r).2.2=0 then (⟨(c:Int),(uD 0 r).1⟩,1+(uD 0 r).2.1,0) else (⟨0,0⟩,0,(uD 0 r).2.2):=rfl
section
variable{W:World}{L:List DW}{n c:Nat}{is:List Ins}
theorem Sl.ins{b off k x}(h:Sl W W.heap.size 2 (σ ⟨b,off,ν⟩) n c (cl J_ is))(hx:is[k]?=σ x):LD AGm [] W L 171 ⟨b,off+k*2,ν⟩ (.agg #[ε ζ x.op,ε υ (x.arg:Int)]) :=
 h.ld (vs:=J_ x) (by
  have:=GM Gw AL h.len;have:=(Ab.1 hx).1;omega) AF (Rv Gw hx)
end
def pY:=AO (AO @NL.eq_1 @Li.eq_1) (AO @uV.eq_1 @Ac)
theorem Pz{α:Type}{l:List α}{i x}(h:l[i]?=σ x):l.drop i=x::l.drop (i+1):=by
 obtain⟨hi,hx⟩:=Ab.1 h;rw[BV hi,hx]
structure Gc where
 p:Int
 r:Int
 l:Int
 A:Option Addr
 n:Nat
 c:Nat
 code:List Ins
structure Ei where
 TA:Option Addr
 tn:Nat
 tc:Nat
 ts:List QU
 FA:Option Addr
 fn:Nat
 fc:Nat
 gs:List Gc
def jw(f:Gc):List Value:=[ε ζ f.p,ε ζ f.r,ε ζ f.l,ξ f.A f.n f.c]
def fnV(f:Gc):Value:=.agg #[ε ζ f.p,ε ζ f.r,ε ζ f.l,ξ f.A f.n f.c]
def Ie(m:Ei):Value:=.agg #[ξ m.TA m.tn m.tc,ξ m.FA m.fn m.fc]
theorem Kv f:(jw f).length=4:=rfl
structure Mod(w:World)(B:Nat)(m:Ei):Prop where
 ts:Sl w B 2 m.TA m.tn m.tc (cl O8 m.ts)
 ty:∀t∈m.ts,Sl w B 2 t.A t.n t.c (cl NR t.fs)
 gs:Sl w B 4 m.FA m.fn m.fc (cl jw m.gs)
 fn:∀g∈m.gs,Sl w B 2 g.A g.n g.c (cl J_ g.code)
 arg:∀g∈m.gs,∀i∈g.code,i.arg<18446744073709551616
section
variable{W w:World}{L:List DW}{n c:Nat}{A:Option Addr}{m:Ei}{ts:List QU}{gs:List Gc}
theorem Mod.at(h:Mod W W.heap.size m)(hw:St [] W L w):Mod w w.heap.size m:=⟨h.ts.at hw,λt ht=>(h.ty t ht).at hw,h.gs.at hw,λg hg=>(h.fn g hg).at hw,h.arg⟩
theorem Mod.AFc{B}(h:Mod w B m):m.ts.length=m.tn:=GM Ol AL h.ts.len
theorem Mod.Sr{B}(h:Mod w B m):m.gs.length=m.fn:=GM Kv AL h.gs.len
theorem Sl.tyl{b off k x}(h:Sl W W.heap.size 2 (σ ⟨b,off,ν⟩) n c (cl O8 ts))(hx:ts[k]?=σ x):LD AGm [] W L 216 ⟨b,off+k*2,ν⟩ (.agg #[ε ζ x.len,ξ x.A x.n x.c]) :=
 h.ld (vs:=O8 x) (by
  have:=GM Ol AL h.len;have:=(Ab.1 hx).1;omega) AF (Rv Ol hx)
theorem Sl.fnl{b off k x}(h:Sl W W.heap.size 4 (σ ⟨b,off,ν⟩) n c (cl jw gs))(hx:gs[k]?=σ x):LD AGm [] W L 169 ⟨b,off+k*4,ν⟩ (.agg #[ε ζ x.p,ε ζ x.r,ε ζ x.l,ξ x.A x.n x.c]) :=
 h.ld (vs:=jw x) (by
  have:=GM Kv AL h.len;have:=(Ab.1 hx).1;omega) AF (Rv Kv hx)
end
def firstT:List QU->Int
 |[]=>0
 |t::r=>if Ho t.len t.fs=0 then firstT r else Ho t.len t.fs
theorem ZB{t}r(h:¬Ho t.len t.fs=0):firstT (t::r)=Ho t.len t.fs:=by rw[firstT,ATt h]
theorem RJ{t}r(h:Ho t.len t.fs=0):firstT (t::r)=firstT r:=by rw[firstT,ATv h]
def Kj:Nat->List Ins->Int×Int
 |_,[]=>(0,-1)
 |k,x::r=>if x.err=0 then Kj (k+1) r else (x.err,(k:Int))
theorem ZC{k x}r(h:¬x.err=0):Kj k (x::r)=(x.err,(k:Int)):=by rw[Kj,ATt h]
theorem RL{k x}r(h:x.err=0):Kj k (x::r)=Kj (k+1) r:=by rw[Kj,ATv h]
def Lp(i:Int)(f:Gc):Int :=
 if f.p<0\/f.r<0\/f.l<0 then 3 else if 64<f.p\/64-f.p<f.l\/8<f.r then 4 else if i=0/\(¬f.p=0∨¬f.r=0) then 3
 else if f.code.length=0 then 3 else if 1024<f.code.length then 4 else 0
abbrev pz:=Int×Int×Int
def MC(f:pz):Value:=.agg #[ε ζ f.1,ε ζ f.2.1,ε ζ f.2.2]
def Hl:pz:=(0,-1,-1)
def Mi(i:Nat)(f:Gc):pz:=if Lp i f=0 then (if (Kj 0 f.code).1=0 then Hl else ((Kj 0 f.code).1,(i:Int),(Kj 0 f.code).2)) else (Lp i f,(i:Int),-1)
def JE:Nat->List Gc->pz
 |_,[]=>Hl
 |i,f::r=>if (Mi i f).1=0 then JE (i+1) r else Mi i f
theorem ZE{i f}r(h:¬(Mi i f).1=0):JE i (f::r)=Mi i f:=by rw[JE,ATt h]
theorem RN{i f}r(h:(Mi i f).1=0):JE i (f::r)=JE (i+1) r:=by rw[JE,ATv h]
def XK(m:Ei):Int:=if 32<m.ts.length then 4 else if firstT m.ts=0 then (if m.gs.length=0 then 3 else if 32<m.gs.length then 4 else 0) else firstT m.ts
def Gx(m:Ei):pz:=if XK m=0 then JE 0 m.gs else (XK m,-1,-1)
theorem ZF:∀ {ts:List QU},firstT ts=0→∀t∈ts,Ho t.len t.fs=0
 |[],_,t,h=>by cases h
 | t::r,h,u,hu=>by
  by_cases h0:Ho t.len t.fs=0
  ·rw[RJ r h0]at h;rcases AP.1 hu with rfl|hu
   ·exact h0
   ·exact ZF h u hu
  ·rw[ZB r h0]at h;exact absurd h h0
theorem ZG:∀ {k:Nat} {l:List Ins},(Kj k l).1=0→∀x∈l,x.err=0
 |_,[],_,x,h=>by cases h
 | k,y::r,h,x,hx=>by
  by_cases h0:y.err=0
  ·rw[RL r h0]at h;rcases AP.1 hx with rfl|hx
   ·exact h0
   ·exact ZG h x hx
  ·rw[ZC r h0]at h;exact absurd h h0
theorem LG{i f}(h:Lp i f=0):0<=f.p/\0<=f.r/\0<=f.l/\f.p<=64/\f.p+f.l<=64/\f.r<=8/\1<=f.code.length/\f.code.length<=1024/\(i=0->f.p=0/\f.r=0):=by
 unfold Lp at h;repeat' split at h
 all_goals first|(cases h;done)|omega
theorem ACW{i f}(h:(Mi i f).1=0):Lp i f=0∧∀x∈f.code,x.err=0:=by
 unfold Mi at h;split at h
 ·rename_i h0;split at h
  ·rename_i h1;exact⟨h0,ZG h1⟩
  ·rename_i h1;exact absurd h h1
 ·exact AVm
theorem ZH:∀ {i:Nat} {l:List Gc},(JE i l).1=0→∀(j:Nat) (f:Gc),l[j]?=σ f->(Mi (i+j) f).1=0
 |_,[],_,j,f,h=>by simp at h
 | i,g::r,h,j,f,hj=>by
  by_cases h0:(Mi i g).1=0
  ·rw[RN r h0]at h;cases j with
   |zero=>simp at hj;subst hj;exact h0
   | succ j =>
    have:=ZH h j f AWD;rwa[show i+(j+1)=i+1+j by omega]
  ·rw[ZE r h0]at h;exact absurd h h0
theorem ME{m}(h:(Gx m).1=0):m.ts.length<=32/\(∀t∈m.ts,Ho t.len t.fs=0)/\1<=m.gs.length/\m.gs.length<=32∧∀(j:Nat) f,m.gs[j]?=σ f->Lp j f=0∧∀x∈f.code,x.err=0:=by
 unfold Gx at h;split at h
 ·rename_i h0;unfold XK at h0;split at h0
  ·cases h0
  split at h0
  ·rename_i h1 h2;split at h0
   ·cases h0
   split at h0
   ·cases h0
   exact⟨by omega,ZF h2,by omega,by omega,λj f hj=>by have:=ZH h j f hj;rw[Ao]at this;exact ACW this⟩
  ·rename_i h1 h2;exact absurd h0 h2
 ·exact AVm
section
variable{W:World}{L:List DW}{n c:Nat}{A:Option Addr}{gs:List Gc}
theorem Sl.fnf{b off k x}(h:Sl W W.heap.size 4 (σ ⟨b,off,ν⟩) n c (cl jw gs))(hx:gs[k]?=σ x):LD AGm [] W L 164 ⟨b,off+k*4+3,ν⟩ (ξ x.A x.n x.c):=by
 have:=h.ld1 (L:=L) (P:=AGm) (T:=164) (m:=1) AF (OX (j:=3) Kv hx rfl);rwa[<-Nat.add_assoc]at this
end
def JF(b:Nat)(m:Ei):DW:=.blk b 129 [ξ m.TA m.tn m.tc,ξ m.FA m.fn m.fc]
def P5(b:Nat)(f:Gc):DW:=.blk b 169 [ε ζ f.p,ε ζ f.r,ε ζ f.l,ξ f.A f.n f.c]
def GJ(b:Nat)(e f a:Int):DW:=.blk b 132 [ε ζ e,ε ζ f,ε ζ a]
theorem P6 op W:Calls AGm 174 #[ε ζ op] W λe w'=>e=κ (θ (decide (Jf op)))/\Below W.heap.size W w':=by
 refine DL (M:=[]) Tryz.func174 [.tmp 2] (St.nil _ _) ?_;have zs:=Bd.mk pY;refine DZ ?_;refine DC [0] λG1 g1=>?_;replace g1:=EK g1;refine Cw λK k0=>?_;refine Df (λ_ _=>True) (λF' L'=>F' 2=θ (decide (Jf op))/\L'=[]) ?_ ?_
 ·refine Cy rfl ?_;have zg:=Bd.mk g1;refine DD ?_;repeat' ((first|refine EF (λhg=>?_) (λhg=>?_)|refine EG (λhg=>?_) (λhg=>?_))<;>((try replace hg:=Fe hg);(try refine DU hg ?_);(try exact trivial)))
  all_goals (repeat' refine AO ?_ ?_)
  all_goals exact ADM @Jf.eq_1
 intro G2 L' _ hF;obtain⟨zq2,rfl⟩:=hF;have g2:=zq2;refine k0 _ _ ?_;have zg:=Bd.mk g2;refine C8 (EP λw hw=>?_);exact⟨rfl,hw.below⟩
theorem KA op W:Calls AGm 128 #[ε ζ op] W λe w'=>e=κ (θ (decide (Py op)))/\Below W.heap.size W w':=by
 refine DL (M:=[]) Tryz.func128 [.tmp 2] (St.nil _ _) ?_;have zs:=Bd.mk pY;refine DZ ?_;refine Cw λK k0=>DZ ?_;refine DC [3] λG3 g3=>?_;replace g3:=EK g3;refine DK (Cw λK k1=>?_);refine Df (λ_ _=>True) (λF' L'=>F' 3=G3 3/\F' 4=θ (decide (op=1\/op=2\/op=3\/op=19\/op=20\/op=21\/op=23))/\L'=[]) ?_ ?_
 ·have zg:=Bd.mk g3;refine Db ?_;refine Ec (λhc=>?_) λhc=>?_
  ·have q0:=AT0 ‹_›;exact AUm
  have q0:=AUD ‹_›;refine Db ?_;refine Ec (λhc=>?_) λhc=>?_
  ·have q1:=AT0 ‹_›;exact AUm
  have q1:=AUD ‹_›;refine Db ?_;refine Ec (λhc=>?_) λhc=>?_
  ·have q2:=AT0 ‹_›;exact AUm
  have q2:=AUD ‹_›;refine Db ?_;refine Ec (λhc=>?_) λhc=>?_
  ·have q3:=AT0 ‹_›;exact AUm
  have q3:=AUD ‹_›;refine Db ?_;refine Ec (λhc=>?_) λhc=>?_
  ·have q4:=AT0 ‹_›;exact AUm
  have q4:=AUD ‹_›;refine Db ?_;refine Ec (λhc=>?_) λhc=>?_
  ·have q5:=AT0 ‹_›;exact AUm
  have q5:=AUD ‹_›;refine DJ rfl (DD ?_);all_goals (repeat' refine AO ?_ ?_)
  all_goals exact Ev
 intro G4 L' _ hF;obtain⟨Tn,Qd,rfl⟩:=hF;have zg:=Bd.mk g3;have g4:=AO (Dy Tn) Qd;refine k1 _ _ ?_;replace zg:=Bd.mk g4;refine Ec (λhc=>?_) λhc=>?_
 ·have h:=AT0 hc;refine Db ?_;refine C8 (EP λw hw=>?_);exact⟨by rw[AUB h],hw.below⟩
 have h:=AUD hc;refine Cz (k0 _ _ (Db ?_));refine C8 (EP λw hw=>?_);exact⟨by rw[AUC h],hw.below⟩
theorem Su i W:Calls AGm 127 #[Li i] W λe w'=>e=κ (ε ζ i.err)/\Below W.heap.size W w':=by
 refine DL (M:=[]) Tryz.func127 [.tmp 2] (St.nil _ _) ?_;refine C9 rfl λK k0=>?_;have zs:=Bd.mk pY;refine DR ?_;intro b hb;refine k0 _ _ (DC [1] λG5 g5=>?_);replace g5:=EK g5;refine Cw λK k0=>C9 rfl λK k1=>?_;have zg:=Bd.mk g5;refine DD ?_;refine DI (λw hw=>P6 i.op w) ?_;try refine DD ?_
 refine k1 _ _ ?_;refine Ec (λhc=>?_) λhc=>?_
 ·have h:¬Jf i.op:=Gl hc;refine Db ?_;refine C8 (EP λw hw=>?_);exact⟨by unfold Ins.err;rw[ATv h],hw.below⟩
 have h:¬ ¬Jf i.op:=F_ hc;refine Cz (k0 _ _ (Cw λK k0=>Cw λK k1=>?_));by_cases ha:Py i.op
 ·have ha':decide (Py i.op)=τ:=AUB ha;refine Cy rfl (DD ?_);refine DI (λw hw=>KA i.op w) ?_;try refine DU ha' ?_
  refine k1 _ _ (C_ (DD ?_));refine Cz (k0 _ _ (Db ?_));refine C8 (EP λw hw=>?_);exact⟨by unfold Ins.err;rw[ATt h,ATt (by rintro⟨h1,-⟩;exact h1 ha)],hw.below⟩
 ·have ha':decide (Py i.op)=ο:=AUC ha;refine Cy rfl (DD ?_);refine DI (λw hw=>KA i.op w) ?_;try refine DU ha' ?_
  refine k1 _ _ ?_;refine Ec (λhc=>?_) λhc=>?_
  ·have hz:¬i.arg=0:=by simp at hc;omega
   refine Db ?_;refine C8 (EP λw hw=>?_);exact⟨by unfold Ins.err;rw[ATt h,ATv ⟨ha,hz⟩],hw.below⟩
  have hz:i.arg=0:=by simp at hc;omega
  refine Cz (k0 _ _ (Db ?_));refine C8 (EP λw hw=>?_);exact⟨by unfold Ins.err;rw[ATt h,ATt (by rintro⟨-,h1⟩;exact h1 hz)],hw.below⟩
def VV:=AO (AO (AO @LZ.eq_1 (AO @G_.eq_1 @NL.eq_1)) (AO @JF.eq_1 (AO @P5.eq_1 @GJ.eq_1))) (AO (AO @Ub.eq_1 (AO @PE.eq_1 @Li.eq_1)) (AO (AO @fnV.eq_1 @Ie.eq_1) (AO @MC.eq_1 @Hl.eq_1)))
theorem GI e f a W:Calls AGm 90 #[ε ζ e,ε ζ f,ε ζ a] W λen w'=>en=κ (MC (e,f,a))/\Below W.heap.size W w':=by
 refine ER (M:=[]) (n:=11) [.cell 6 132] rfl Tryz.func90 rfl rfl (Am rfl) (St.nil _ _) ?_;refine C9 rfl λK k0=>?_;have zs:=Bd.mk VV;refine DR ?_;intro b hb;refine k0 _ _ (DZ ?_);refine C8 (Ox ?_);intro w hw;exact hw.below
theorem Mj W:Calls AGm 92 #[] W λen w'=>en=κ (MC Hl)/\Below W.heap.size W w':=by
 refine ER (M:=[]) (n:=2) [.cell 0 132] rfl Tryz.func92 rfl rfl (Am rfl) (St.nil _ _) ?_;refine C9 rfl λK k0=>?_;have zs:=Bd.mk VV;refine DR ?_;intro b hb;refine k0 _ _ (DZ ?_);refine C8 (Ox ?_);intro w hw;exact hw.below
theorem XL m(k:Nat)x W(hM:Mod W W.heap.size m)(hx:m.gs[k]?=σ x):Calls AGm 126 #[Ie m,ε ζ (k:Int)] W λe w'=>e=κ (MC (Mi k x))/\Below W.heap.size W w':=by
 have sZ:=hM.Sr;have hG:=hM.gs;have hfn:=hM.fn;obtain⟨TA,tn,tc,ts,FA,fn,fc,gs⟩:=m;dsimp only at *;have hlt:k<fn:=by have:=(Ab.1 hx).1;omega
 obtain⟨b0,off,rfl,hb0,-⟩:=hG.cells AL;have hX:=hfn x (AU hx);have hxl:x.code.length=x.n:=GM Gw AL hX.len;refine ER (M:=[]) (n:=97) [.cell 4 132] rfl Tryz.func126 rfl rfl (Am rfl) (St.nil _ _) ?_;refine C9 rfl λK k0=>?_;have zs:=Bd.mk VV;refine DR ?_;intro b1 hb1 b2 hb2 h2;refine k0 _ _ (C9 rfl λK k0=>DR ?_);refine DX (hG.fnl hx) ?_;refine DR ?_;intro b5 hb5 h5;refine k0 _ _ (DC [1,4,5] λG1 g1=>?_);replace g1:=EK g1;refine Cw λK k0=>DK (Cw λK k1=>?_);refine Df (λ_ _=>True) (λF' L'=>EH F' G1 [1,4,5]/\F' 13=θ (decide (x.p<0\/x.r<0\/x.l<0))/\L'=[P5 b5 x,GJ b2 0 0 0]) ?_ ?_
 ·refine DY [0,1] ?_;exact AWr
 intro G2 L' _ hF;obtain⟨zq,AFd,rfl⟩:=hF;have zg:=Bd.mk g1;have g2:=AO (Dy zq) AFd;refine k1 _ _ ?_;replace zg:=Bd.mk g2;refine Ec (λhc=>?_) λhc=>?_
 ·have q1:=AT0 ‹_›;refine C9 rfl λK k1=>DD ?_;refine DI (λw hw=>GI 3 (k:Int) (-1) w) ?_;try refine DD ?_
  refine k1 _ _ (C8 (FF ?_));intro w hw;exact⟨by unfold Mi Lp;rw[ATv q1]<;>rfl,hw.below⟩
 have q1:=AUD ‹_›;refine Cw λK k1=>?_;refine Df (λ_ _=>True) (λF' L'=>EH F' G2 [1,4,5]/\F' 29=θ (decide (64<x.p\/64-x.p<x.l\/8<x.r))/\L'=[P5 b5 x,GJ b2 0 0 0]) ?_ ?_
 ·refine Cy rfl (DD ?_);repeat' ((first|refine EF (λhg=>?_) (λhg=>?_)|refine EG (λhg=>?_) (λhg=>?_))<;>((try replace hg:=Fe hg);(try refine DU (AO hg @DT) ?_);(try exact trivial)))
  all_goals (repeat' refine AO ?_ ?_)
  all_goals exact Ev
 intro G3 L' _ hF;obtain⟨zq,yB,rfl⟩:=hF;have g3:=AO (Dy zq) yB;refine k1 _ _ ?_;replace zg:=Bd.mk g3;refine Ec (λhc=>?_) λhc=>?_
 ·have q2:=AT0 ‹_›;refine C9 rfl λK k1=>DD ?_;refine DI (λw hw=>GI 4 (k:Int) (-1) w) ?_;try refine DD ?_
  refine k1 _ _ (C8 (FF ?_));intro w hw;exact⟨by unfold Mi Lp;rw[ATt q1,ATv q2]<;>rfl,hw.below⟩
 have q2:=AUD ‹_›;refine Cw λK k1=>?_;refine Df (λ_ _=>True) (λF' L'=>EH F' G3 [1,4,5]/\F' 48=θ (decide ((k:Int)=0/\(¬x.p=0∨¬x.r=0)))/\L'=[P5 b5 x,GJ b2 0 0 0]) ?_ ?_
 ·exact AWs
 intro G4 L' _ hF;obtain⟨zq,AEY,rfl⟩:=hF;have g4:=AO (Dy zq) AEY;refine k1 _ _ ?_;replace zg:=Bd.mk g4;refine Ec (λhc=>?_) λhc=>?_
 ·have q3:=AT0 ‹_›;refine C9 rfl λK k1=>DD ?_;refine DI (λw hw=>GI 3 (k:Int) (-1) w) ?_;try refine DD ?_
  refine k1 _ _ (C8 (FF ?_));intro w hw;exact⟨by unfold Mi Lp;rw[ATt q1,ATt q2,ATv q3]<;>rfl,hw.below⟩
 have q3:=AUD ‹_›;refine Db ?_;refine Ec (λhc=>?_) λhc=>?_
 ·have q4:x.code.length=0:=by have:=AT0 ‹_›;omega
  refine C9 rfl λK k1=>DD ?_;refine DI (λw hw=>GI 3 (k:Int) (-1) w) ?_;try refine DD ?_
  refine k1 _ _ (C8 (FF ?_));intro w hw;exact⟨by unfold Mi Lp;rw[ATt q1,ATt q2,ATt q3,ATv q4]<;>rfl,hw.below⟩
 have q4:¬x.code.length=0:=by have:=AUD ‹_›;omega
 refine Db ?_;refine Ec (λhc=>?_) λhc=>?_
 ·have q5:1024<x.code.length:=by have:=AT0 ‹_›;omega
  refine C9 rfl λK k1=>DD ?_;refine DI (λw hw=>GI 4 (k:Int) (-1) w) ?_;try refine DD ?_
  refine k1 _ _ (C8 (FF ?_));intro w hw;exact⟨by unfold Mi Lp;rw[ATt q1,ATt q2,ATt q3,ATt q4,ATv q5]<;>rfl,hw.below⟩
 have q5:¬1024<x.code.length:=by have:=AUD ‹_›;omega
 have hz2:Lp k x=0:=by unfold Lp;rw[ATt q1,ATt q2,ATt q3,ATt q4,ATt q5]
 have AK4:x.code.length<=1024:=by omega
 refine Cz (k0 _ _ (Cw λK k0=>Db ?_));refine DC [1,4,5,6] λG5 g5=>?_;replace g5:=Dy g5;refine DK ?_;refine Dv (λF' L' => ∃(j:Nat),EH F' G5 [1,4,5]/\F' 6=ε ζ (j:Int)/\L'=[P5 b5 x,GJ b2 0 0 0]/\j<=x.n/\Kj 0 x.code=Kj j (x.code.drop j)) (λF' L'=>1100-(intOf (F' 6)).toNat) ?_ ?_
 ·refine⟨0,?_⟩;replace zg:=Bd.mk g5;refine DD ?_;omega
 intro G6 L' hI;obtain⟨j,zq,Ms,rfl,⟨hj,hi⟩⟩:=hI;replace zg:=Bd.mk g5;have g6:=AO (Dy zq) Ms;refine Cw λK k1=>?_;replace zg:=Bd.mk (AO g5 g6);refine Db ?_;refine Ec (λhc=>?_) λhc=>?_
 ·refine Cz ?_;try simp only[Di,Dq]
  have hjt:j<x.n:=by have:=AT0 ‹decide ((j:Int)<(x.n:Int))=τ›;omega
  obtain⟨xb,xo,hxA,hxb,-⟩:=hX.cells AL;obtain⟨y,hy⟩:=Fg (l:=x.code) (i:=j) AL;rw[Pz hy]at hi;have hX':=hX;rw[hxA]at hX';refine k1 _ _ (Cw λK k1=>DK (C9 rfl λK k2=>DU hxA ?_));refine DX (hX'.ins hy) ?_;refine DD ?_;refine DI (λw hw=>Su y w) ?_;try refine DD ?_
  refine k2 _ _ (Db ?_);refine Ec (λhc=>?_) λhc=>?_
  ·have hz3:¬y.err=0:=Gl ‹(!decide (y.err=0))=τ›;rw[ZC _ hz3]at hi;refine C9 rfl λK k2=>DD ?_;refine DI (λw hw=>GI y.err (k:Int) (j:Int) w) ?_;try refine DD ?_
   refine k2 _ _ (C8 (FF ?_));intro w hw;exact⟨by unfold Mi;rw[ATv hz2,hi,ATt hz3]<;>rfl,hw.below⟩
  have hz3:y.err=0:=Bp.1 (F_ ‹(!decide (y.err=0))=ο›);rw[RL _ hz3]at hi;refine Cz (k1 _ _ (Cy rfl (DU @DT ?_)));refine⟨⟨j+1,?_⟩,?_⟩
  ·refine DU @Af ?_;exact⟨by first|rfl|rw[hxA],by omega,hi⟩
  ·exact AXo
 refine Dr (k0 _ _ ?_);have mJ:j=x.n:=by have:=AUD ‹decide ((j:Int)<(x.n:Int))=ο›;omega
 rw[Br AL]at hi;refine C9 rfl λK k0=>DD ?_;refine DI (λw hw=>Mj w) ?_;try refine DD ?_
 refine k0 _ _ (C8 (FF ?_));intro w hw;exact⟨by unfold Mi;rw[ATv hz2,hi]<;>rfl,hw.below⟩
theorem M7 m W(hM:Mod W W.heap.size m):Calls AGm 81 #[Ie m] W λe w'=>e=κ (MC (Gx m))/\Below W.heap.size W w':=by
 have hlt:=hM.AFc;have sZ:=hM.Sr;have hE:=hM.ts;have hty:=hM.ty;have Sv:=fun {L:List DW} {w:World} (hw:St [] W L w)=>hM.at hw;obtain⟨TA,tn,tc,ts,FA,fn,fc,gs⟩:=m;dsimp only at *;refine ER (M:=[]) (n:=54) [.cell 2 132] rfl Tryz.func81 rfl rfl (Am rfl) (St.nil _ _) ?_;refine C9 rfl λK k0=>?_;have zs:=Bd.mk VV;refine DR ?_;intro b hb b2 hb2 h2;refine k0 _ _ (DC [1,2] λG7 g7=>?_);replace g7:=EK g7;refine Cw λK k0=>?_;have zg:=Bd.mk g7;refine Db ?_;refine Ec (λhc=>?_) λhc=>?_
 ·have q1:32<ts.length:=by have:=AT0 hc;omega
  refine C9 rfl λK k1=>DD ?_;refine DI (λw hw=>GI 4 (-1) (-1) w) ?_;try refine DD ?_
  refine k1 _ _ (C8 (FF ?_));intro w hw;exact⟨by unfold Gx XK;dsimp only;rw[ATv q1]<;>rfl,hw.below⟩
 have q1:¬32<ts.length:=by have:=AUD hc;omega
 refine Cz (k0 _ _ (Cw λK k0=>Db ?_));refine DC [1,2,3] λG8 g8=>?_;replace g8:=Dy g8;refine DK ?_;refine Dv (λF' L' => ∃(k:Nat),EH F' G8 [1,2]/\F' 3=ε ζ (k:Int)/\L'=[GJ b2 0 0 0,JF b ⟨TA,tn,tc,ts,FA,fn,fc,gs⟩]/\k<=tn/\firstT ts=firstT (ts.drop k)) (λF' L'=>40-(intOf (F' 3)).toNat) ?_ ?_
 ·refine⟨0,?_⟩;replace zg:=Bd.mk g8;refine DD ?_;omega
 intro G9 L' hI;obtain⟨k,zq,Tn,rfl,⟨hk,hf⟩⟩:=hI;replace zg:=Bd.mk g8;have g9:=AO (Dy zq) Tn;refine Cw λK k1=>?_;replace zg:=Bd.mk (AO g8 g9);refine Db ?_;refine Ec (λhc=>?_) λhc=>?_
 ·refine Cz ?_;try simp only[Di,Dq]
  have hlt2:k<tn:=by have:=AT0 ‹_›;omega
  obtain⟨b0,off,rfl,hb0,-⟩:=hE.cells AL;obtain⟨x,hx⟩:=Fg (l:=ts) (i:=k) AL;have hX:=hty x (AU hx);rw[Pz hx]at hf;refine k1 _ _ (Cw λK k1=>DK (C9 rfl λK k2=>DD ?_));refine DX (hE.tyl hx) ?_;refine DD ?_;refine DI (λw hw=>Jd x.A x.n x.c x.fs x.len w (hX.at hw)) ?_;try refine DD ?_
  refine k2 _ _ (Db ?_);refine Ec (λhc=>?_) λhc=>?_
  ·have hz:¬Ho x.len x.fs=0:=Gl ‹(!decide (Ho x.len x.fs=0))=τ›;rw[ZB _ hz]at hf;refine C9 rfl λK k2=>DD ?_;refine DI (λw hw=>GI (Ho x.len x.fs) (-1) (-1) w) ?_;try refine DD ?_
   refine k2 _ _ (C8 (FF ?_));intro w hw;exact⟨by unfold Gx XK;dsimp only;rw[ATt q1,hf,ATt hz,ATt hz]<;>rfl,hw.below⟩
  have hz:Ho x.len x.fs=0:=Bp.1 (F_ ‹(!decide (Ho x.len x.fs=0))=ο›);rw[RJ _ hz]at hf;refine Cz (k1 _ _ (Cy rfl (DU @DT ?_)));refine⟨⟨k+1,?_⟩,?_⟩
  ·exact AWN
  ·exact AXo
 refine Dr (k0 _ _ ?_);obtain rfl:tn=k:=by have:=AUD ‹_›;omega
 rw[Br AL]at hf;have hf:firstT ts=0:=hf;refine Cw λK k0=>Db ?_;refine Ec (λhc=>?_) λhc=>?_
 ·have q2:gs.length=0:=by have:=AT0 ‹_›;omega
  refine C9 rfl λK k1=>DD ?_;refine DI (λw hw=>GI 3 (-1) (-1) w) ?_;try refine DD ?_
  refine k1 _ _ (C8 (FF ?_));intro w hw;exact⟨by unfold Gx XK;dsimp only;rw[ATt q1,ATv hf,ATv q2]<;>rfl,hw.below⟩
 have q2:¬gs.length=0:=by have:=AUD ‹_›;omega
 refine Cz (k0 _ _ (Cw λK k0=>Db ?_));refine Ec (λhc=>?_) λhc=>?_
 ·have q3:32<gs.length:=by have:=AT0 ‹_›;omega
  refine C9 rfl λK k1=>DD ?_;refine DI (λw hw=>GI 4 (-1) (-1) w) ?_;try refine DD ?_
  refine k1 _ _ (C8 (FF ?_));intro w hw;exact⟨by unfold Gx XK;dsimp only;rw[ATt q1,ATv hf,ATt q2,ATv q3]<;>rfl,hw.below⟩
 have q3:¬32<gs.length:=by have:=AUD ‹_›;omega
 have hC:Gx ⟨TA,tn,tc,ts,FA,fn,fc,gs⟩=JE 0 gs:=by unfold Gx XK;dsimp only;rw[ATt q1,ATv hf,ATt q2,ATt q3,ATv rfl]
 refine Cz (k0 _ _ (Cw λK k0=>Db ?_));refine DC [1,2,5] λXo g10=>?_;replace g10:=Dy g10;refine DK ?_;refine Dv (λF' L' => ∃(k:Nat),EH F' Xo [1,2]/\F' 5=ε ζ (k:Int)/\L'=[GJ b2 0 0 0,JF b ⟨TA,tn,tc,ts,FA,fn,fc,gs⟩]/\k<=fn/\JE 0 gs=JE k (gs.drop k)) (λF' L'=>40-(intOf (F' 5)).toNat) ?_ ?_
 ·refine⟨0,?_⟩;replace zg:=Bd.mk (AO g8 (AO g9 g10));refine DD ?_;omega
 intro bQ L' hI;obtain⟨k,zq,Mq,rfl,⟨hk,hf⟩⟩:=hI;replace zg:=Bd.mk g10;have g11:=AO (Dy zq) Mq;refine Cw λK k1=>?_;replace zg:=Bd.mk (AO g8 (AO g9 (AO g10 g11)));refine Db ?_;refine Ec (λhc=>?_) λhc=>?_
 ·refine Cz ?_;try simp only[Di,Dq]
  have hlt2:k<fn:=by have:=AT0 ‹_›;omega
  obtain⟨x,hx⟩:=Fg (l:=gs) (i:=k) AL;obtain⟨q,hq⟩:∃q,Mi k x=q:=⟨_,rfl⟩;rw[Pz hx]at hf;refine k1 _ _ (Cw λK k1=>DK (C9 rfl λK k2=>DD ?_));refine DI (λw hw=>XL ⟨TA,tn,tc,ts,FA,fn,fc,gs⟩ k x w (Sv hw) hx) ?_;try refine DU hq ?_
  intro b6 hb6 h6;refine k2 _ _ (Db ?_);refine Ec (λhc=>?_) λhc=>?_
  ·have hz:¬q.1=0:=Gl ‹(!decide (q.1=0))=τ›;rw[ZE _ AWV,hq]at hf;refine Db ?_;refine C8 (FF ?_);intro w hw;exact⟨by rw[hC,hf]<;>rfl,hw.below⟩
  have hz:q.1=0:=Bp.1 (F_ ‹(!decide (q.1=0))=ο›);rw[RN _ AWV]at hf;refine Cz (k1 _ _ (DY [1,2] ?_));refine Cy rfl (DU @DT ?_);refine⟨⟨k+1,?_⟩,?_⟩
  ·exact AWN
  ·exact AXo
 refine Dr (k0 _ _ ?_);obtain rfl:fn=k:=by have:=AUD ‹_›;omega
 rw[Br AL]at hf;refine C9 rfl λK k0=>DD ?_;refine DI (λw hw=>Mj w) ?_;try refine DD ?_
 refine k0 _ _ (C8 (FF ?_));intro w hw;exact⟨by rw[hC,hf]<;>rfl,hw.below⟩
def JG(c:Nat):Nat:=if c=1\/c=2\/c=11 then 1 else if c=3\/c=8\/c=9\/c=10 then 2 else if c=4\/c=5 then 3 else if c=6 then 4 else if c=7 then 5 else 0
abbrev Lr(c:Nat):Prop:=1<=c/\c<=11
theorem AFf c:JG c<=5:=by
 unfold JG;repeat' split
 all_goals omega
def Kk(op:Int):Nat:=if op=1\/op=2 then 0 else if op=3\/op=4\/op=20 then 1 else if op=5 then 1 else if op=18 then 1 else if op=19\/op=24\/op=25 then 0 else if 6<=op/\op<=17 then 2 else 0
def Gy(op:Int):Nat:=if op=1\/op=2 then 1 else if op=3\/op=4\/op=20 then 0 else if op=5 then 2 else if op=18 then 1 else if op=19\/op=24\/op=25 then 0 else if 6<=op/\op<=17 then 1 else 0
abbrev ig(op:Int):Prop:=op=1\/op=2\/op=3\/op=4\/op=20\/op=5\/op=18\/op=19\/op=24\/op=25\/(6<=op/\op<=17)
def JW(gs:List Gc)(i:Ins):Int×Int :=
 if i.op=21 then ((gs[i.arg]?.map Gc.p).getD 0,(gs[i.arg]?.map Gc.r).getD 0) else if i.op=23 then ((JG i.arg:Int),2) else ((Kk i.op:Int),(Gy i.op:Int))
abbrev Ip(op:Int):Prop:=op=19\/op=22\/op=24\/op=25
def Oq(i:Ins)(k:Nat):List Nat :=
 if i.op=19 then [i.arg] else if i.op=20 then (if i.arg<k+1 then [i.arg,k+1] else if k+1<i.arg then [k+1,i.arg] else [k+1]) else if i.op=22\/i.op=24\/i.op=25 then [] else [k+1]
def Ux(gl:Nat)(x:Gc)(k:Nat)(i:Ins):Int :=
 if (i.op=19\/i.op=20)/\x.code.length<=i.arg then 23 else if (i.op=2\/i.op=3)/\x.p+x.l<=(i.arg:Int) then 25 else if i.op=21/\gl<=i.arg then 26
 else if i.op=23∧¬Lr i.arg then 22 else if k+1=x.code.length∧¬Ip i.op then 27 else 0
def Lj(gl:Nat)(x:Gc):Nat->List Ins->Int×Int
 |_,[]=>(0,-1)
 |k,i::r=>if Ux gl x k i=0 then Lj gl x (k+1) r else (Ux gl x k i,(k:Int))
theorem ZI{gl x k i}r(h:¬Ux gl x k i=0):Lj gl x k (i::r)=(Ux gl x k i,(k:Int)):=by rw[Lj,ATt h]
theorem XM{gl x k i}r(h:Ux gl x k i=0):Lj gl x k (i::r)=Lj gl x (k+1) r:=by rw[Lj,ATv h]
theorem ZJ{gl:Nat}{x:Gc} : ∀ {k:Nat} {l:List Ins},(Lj gl x k l).1=0→∀(j:Nat) (i:Ins),l[j]?=σ i->Ux gl x (k+j) i=0
 |_,[],_,j,i,h=>by simp at h
 | k,y::r,h,j,i,hj=>by
  by_cases h0:Ux gl x k y=0
  ·rw[XM r h0]at h;cases j with
   |zero=>simp at hj;subst hj;exact h0
   | succ j =>
    have:=ZJ h j i AWD;rwa[show k+(j+1)=k+1+j by omega]
  ·rw[ZI r h0]at h;exact absurd h h0
def RQ(m:Ei)(f:Int):Option Gc:=if f<0 then ν else m.gs[f.toNat]?
theorem ZK{m f x}(h:RQ m f=σ x):∃k:Nat,f=(k:Int)/\m.gs[k]?=σ x:=by
 unfold RQ at h;split at h
 ·cases h
 ·exact⟨f.toNat,by omega,h⟩
theorem ik{m}(k:Nat):RQ m (k:Int)=m.gs[k]? := by
 unfold RQ;rw[ATt AL,Bo]
def stX(gl:Nat)(f:Int)(x:Gc):pz:=if (Lj gl x 0 x.code).1=0 then Hl else ((Lj gl x 0 x.code).1,f,(Lj gl x 0 x.code).2)
def j3(m:Ei)(f:Int):pz:=if (Gx m).1=0 then (match RQ m f with|none=>(26,-1,-1)|some x=>stX m.gs.length f x) else Gx m
theorem mK{m f}(h:(j3 m f).1=0):(Gx m).1=0∧∃(k:Nat)(x:Gc),f=(k:Int)/\m.gs[k]?=σ x∧∀j i,x.code[j]?=σ i->Ux m.gs.length x j i=0:=by
 unfold j3 at h;split at h
 ·rename_i h0;cases hx:RQ m f with
  |none=>rw[hx]at h;exact absurd (show (26:Int)=0 from h) AJ
  | some x =>
   rw[hx]at h;obtain⟨k,rfl,hk⟩:=ZK hx;refine⟨h0,k,x,rfl,hk,λj i hj=>?_⟩;simp only[stX]at h;split at h
   ·rename_i h1;have:=ZJ h1 j i hj;rwa[Ao]at this
   ·rename_i h1;exact absurd h h1
 ·exact AVm
def hAt(h:List Int)(k:Nat):Int:=(h[k]?).getD (-1)
theorem ACX{h k}(hk:k<h.length):h[k]?=σ (hAt h k):=by
 unfold hAt;rw[AQ hk];rfl
theorem aa{h k j v}(hk:k<h.length):hAt (h.set k v) j=if k=j then v else hAt h j:=by
 unfold hAt;rw[AUL];split
 ·rename_i e;subst e
  first|rfl|(rw[ATv hk];rfl)
 ·rfl
def I_(h:List Int)(d:List Bool)(k:Nat):Bool:=decide (hAt h k ≠ -1) && !((d[k]?).getD τ)
def Iq(h:List Int)(d:List Bool):Option Nat:=(List.range h.length).find? (I_ h d)
theorem il{h d k}(hk:k<h.length)(ho:I_ h d k=τ)(hb:∀j,j<k->I_ h d j=ο):Iq h d=σ k:=by
 unfold Iq;rw[ATY];exact⟨ho,by simpa using hk,λj hj=>by rw[hb j hj];rfl⟩
theorem Uy{h d}(hb:∀j,j<h.length->I_ h d j=ο):Iq h d=ν:=by
 unfold Iq;rw[ATo];intro j hj;rw[hb j (ASs.1 hj)];decide
theorem mM{h d k}(hk:Iq h d=σ k):k<h.length/\I_ h d k=τ∧∀j,j<k->I_ h d j=ο:=by
 unfold Iq at hk;rw[ATY]at hk;exact⟨by simpa using hk.2.1,hk.1,λj hj=>by simpa using hk.2.2 j hj⟩
theorem iq{h d}(hk:Iq h d=ν):∀j,j<h.length->I_ h d j=ο:=by
 unfold Iq at hk;rw[ATo]at hk;intro j hj;have:=hk j (ASs.2 hj);simpa using this
def RS:List Nat->Int->List Int->Option (List Int)
 |[],_,h=>σ h
 |k::l,v,h=>if hAt h k ≠ -1/\hAt h k≠v then ν else RS l v (h.set k v)
def Qs(gs:List Gc)(x:Gc)(h:List Int)(k:Nat)(i:Ins):Option (List Int) :=
 if (i.op=22/\hAt h k≠x.r)\/hAt h k<(JW gs i).1\/64<hAt h k+(JW gs i).2-(JW gs i).1 then ν else RS (Oq i k) (hAt h k+(JW gs i).2-(JW gs i).1) h
def Gp(x:Gc)(k:Nat):Ins:=(x.code[k]?).getD ⟨0,0⟩
theorem N8{x k i}(h:x.code[k]?=σ i):Gp x k=i:=by unfold Gp;rw[h];rfl
def UB(gs:List Gc)(x:Gc):Nat->List Int->List Bool->List Int ⊕ Nat
 |0,h,_=>.inl h
 | q+1,h,d=>match Iq h d with
  |none=>.inl h
  | some k=>match Qs gs x h k (Gp x k)with
   |none=>.inr k
   |some h'=>UB gs x q h' (d.set k τ)
def Ll(d:List Bool):Nat:=(d.filter λb => !b).length
theorem XN{d k}(h:d[k]?=σ ο):Ll d=Ll (d.set k τ)+1:=by
 unfold Ll
 induction d generalizing k with
 |nil=>simp at h
 | cons b d ih =>
  cases k with
  |zero=>simp at h;subst h;simp
  | succ k =>
   have:=ih AVU;cases b<;>simp[this]
theorem iw{d}(h:Ll d=0)h'(hl:h'.length=d.length):Iq h' d=ν:=by
 refine Uy λj hj=>?_;have hjd:j<d.length:=by omega
 have hd:d[j]?=σ τ:=by
  rw[AQ hjd];have h0:=Bc h;rw[AHM]at h0;have:=h0 _ (Cf hjd);simpa using this
 unfold I_;rw[hd];simp
def h0F(n:Nat):List Int:=(Ah n (-1)).set 0 0
def uM(gs:List Gc)(x:Gc):List Int ⊕ Nat:=UB gs x x.code.length (h0F x.code.length) (Ah x.code.length ο)
def AH4(f:Int):List Int ⊕ Nat->List Int×pz
 |.inl h=>(h,Hl)
 |.inr k=>([],(24,f,(k:Int)))
def Ot(m:Ei)(f:Int):List Int×pz:=if (j3 m f).1=0 then (match RQ m f with|none=>([],Hl)|some x=>AH4 f (uM m.gs x)) else ([],j3 m f)
theorem p_{m f}(h:¬(j3 m f).1=0):Ot m f=([],j3 m f):=by unfold Ot;rw[ATt h]
theorem iy{m}{k:Nat}{x}(h:(j3 m (k:Int)).1=0)(hx:m.gs[k]?=σ x):Ot m (k:Int)=AH4 (k:Int) (uM m.gs x):=by
 unfold Ot;rw[ATv h,ik,hx]
end Go.Proofs.YtnkgiaimcpbhkaaGreat
