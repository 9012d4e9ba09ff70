import Derived.Test.YtnkgiaimcpbhkaaGreatDells4
import Derived.Test.YtnkgiaimcpbhkaaGreatDells2
import Derived.Test.YtnkgiaimcpbhkaaGreatDells0
import Derived.Deep.RegionHeld3
import Derived.BigQuiet
import Derived.Deep.QuietTactic
import Derived.Lib.AppendZeros
set_option linter.all false
set_option maxRecDepth 100000
set_option maxHeartbeats 4000000
open List renaming length_append→Ag,nil_append→AR,replicate→Ah,length_take→Al,setIfInBounds_toArray→BR,set_cons_zero→Ba,set_cons_succ→Bb,getElem?_eq_none→Cb,range→Cq
open Bool renaming false→ο,true→τ
open Go.Ending renaming returned→κ
open Go.IntKind renaming i64→ζ,u64→υ
open Option renaming none→ν,some→σ
open Go.Value renaming bool→θ,int→ε,pointer→π,slice→ξ
namespace Go.Proofs.YtnkgiaimcpbhkaaGreat
open Tryz renaming prog→AGm
open Go.RowKit Go.Shelf
theorem ABy{α:Type}{f:α->List Value}{s}(hf:∀a,(f a).length=s)(l:List α)i(hi:i<l.length)y:(l.flatMap f).take (i*s)++f y++(l.flatMap f).drop (i*s+s)=(l.set i y).flatMap f:=by
 have h1:l=l.take i++l[i]::l.drop (i+1):=by rw[List.getElem_cons_drop,ASI]
 have h2:(l.take i).length=i:=by rw[Al];omega
 have h:=xy hf (l.take i) (l.drop (i+1)) l[i] y;rw[h2,<-h1]at h;rw[h,Bz,ATv hi]
theorem Tm{α:Type}{f:α->List Value}{s:Nat}(hf:∀a,(f a).length=s){k:Nat}(hk:k<s){v:Value}{x y:α}(hy:f y=(f x).set k v):∀ {l:List α} {i:Nat},l[i]?=σ x->(l.flatMap f).set (i*s+k) v=(l.set i y).flatMap f
 |[],i,h=>by simp at h
 | a::l,0,h=>by
  have h1:a=x:=by simpa using h
  subst h1;rw[BK,ASN,Ao,List.set_append_left _ _ (by rw[hf];exact hk),Ba,BK,hy]
 | a::l,i+1,h=>by
  rw[BK,AUO _ _ (by rw[hf,ASh];omega),Bb,BK,hf,<-Tm hf hk hy (l:=l) (i:=i) AVU];congr 2;rw[ASh];omega
structure QR(x:Ir)(k:Nat):Prop where
 n:x.s.gen.length=x.en
 l:x.s.Fh.length=x.en
 m:x.en<=4096
 kb:k<=10000
 fr:∀v∈x.s.Fu,∃i:Nat,v=(i:Int)/\i<x.en
 fl:x.s.Fu.length<=4096+k
 go:0<=x.s.gone/\x.s.gone<=k
 fi:0<=x.s.first/\x.s.first<=4294967295
 gn:∀v∈x.s.gen,0<=v/\v<=4294967295+k
theorem QR.Gt{x:Ir}{k:Nat}(h:QR x k)(s:Nat):0<=Gt x.s s/\Gt x.s s<=4294967295+k:=by
 unfold Go.Proofs.YtnkgiaimcpbhkaaGreat.Gt;cases hq:x.s.gen[s]? with
 |none=>have:=h.kb;exact⟨by decide,by show (0:Int)<=_;omega⟩
 |some v=>exact h.gn v (AU hq)
theorem QR.up{x k k'}(h:QR x k)(hk:k<=k')(h2:k'≤10000):QR x k' :=
 ⟨h.n,h.l,h.m,h2,h.fr,AGn h.fl AL,⟨h.go.1,by have:=h.go.2;omega⟩,h.fi,λv hv=>by have:=h.gn v hv;omega⟩
def AJz(x y:X8)(s:Nat):Prop:=Z5 x y/\y.gen=x.gen/\y.Fh=x.Fh.set s ο/\(if Gt x s=4294967295 then y.gone=x.gone+1/\y.Fu=x.Fu else y.gone=x.gone/\y.Fu=x.Fu++[(s:Int)])
def AHH(x y:X8)(s d:Nat):Prop:=Z5 x y/\y.gen=x.gen.set s (Od x s)/\y.Fh=x.Fh.set s τ/\y.gone=x.gone/\y.Fu=K8 x.Fu (d % x.Fu.length)
structure Wi(x y:Ir):Prop where
 tb:y.tb=x.tb
 en:y.en=x.en
structure gD(x y:Ir)(h:Nat):Prop where
 k:Wi x y
 E:y.E=x.E
 r:if GU x h=0 then AJz x.s y.s (De h) else y.s=x.s
theorem GZ{x h}(he:GU x h=0):De h<x.en/\Ej x.s (De h)=τ/\Gt x.s (De h)=(Mr h:Int)/\(ET x (De h)).h=h:=by
 unfold GU at he;by_cases h1:x.en<=De h
 ·rw[ATv h1]at he;exact absurd he AJ
 rw[ATt h1]at he;by_cases h2:Ej x.s (De h)=τ/\Gt x.s (De h)=(Mr h:Int)
 ·rw[ATt (λhn=>hn h2)]at he;by_cases h3:(ET x (De h)).h=h
  ·exact⟨by omega,h2.1,h2.2,h3⟩
  ·rw[ATv h3]at he;exact absurd he AJ
 ·rw[ATv h2]at he;exact absurd he AJ
theorem QR.drop{x y k h}(hi:QR x k)(hk:k<10000)(hr:gD x y h):QR y (k+1):=by
 have hr2:=hr.r;by_cases he:GU x h=0
 ·rw[ATv he]at hr2;obtain⟨r1,r2,r3,r4⟩:=hr2;have hs:=(GZ he).1;refine⟨by rw[r2,hi.n,hr.k.en],by rw[r1.vl,hi.l,hr.k.en],by rw[hr.k.en];exact hi.m,hk,?_,?_,?_,r1.first▸hi.fi,λv hv=>by have:=hi.gn v (r2▸hv);omega⟩
  ·intro v hv;rw[hr.k.en];by_cases hg:Go.Proofs.YtnkgiaimcpbhkaaGreat.Gt x.s (De h)=4294967295
   ·rw[ATv hg]at r4;exact hi.fr v (r4.2▸hv)
   ·rw[ATt hg]at r4;rw[r4.2]at hv;cases AV.1 hv with
    |inl h=>exact hi.fr v h
    |inr h=>exact⟨De _,BH.1 h,hs⟩
  ·have:=hi.fl;by_cases hg:Go.Proofs.YtnkgiaimcpbhkaaGreat.Gt x.s (De h)=4294967295
   ·rw[ATv hg]at r4;rw[r4.2];omega
   ·rw[ATt hg]at r4;rw[r4.2,Ag,List.length_singleton];omega
  ·have:=hi.go;by_cases hg:Go.Proofs.YtnkgiaimcpbhkaaGreat.Gt x.s (De h)=4294967295
   ·rw[ATv hg]at r4;rw[r4.1];omega
   ·rw[ATt hg]at r4;rw[r4.1];omega
 ·rw[ATt he]at hr2;have h2:=hi.up (Co k) hk;exact⟨by rw[hr2,hr.k.en];exact h2.n,by rw[hr2,hr.k.en];exact h2.l,by rw[hr.k.en];exact h2.m,h2.kb,by rw[hr2,hr.k.en];exact h2.fr,by rw[hr2];exact h2.fl,by rw[hr2];exact h2.go,by rw[hr2];exact h2.fi,by rw[hr2];exact h2.gn⟩
theorem SX{x h}(he:¬GU x h=0):Pm x h=.tuple #[.agg #[ε υ 0,ε ζ 0,ε ζ 0,ε ζ 0,ε ζ 0],ε ζ (GU x h)]:=by
 unfold Pm;rw[ATt he];rfl
theorem VN{x h}(he:GU x h=0):Pm x h=.tuple #[.agg #[ε υ ((ET x (De h)).h:Int),ε ζ (ET x (De h)).ow,ε ζ (ET x (De h)).tag,ε ζ (ET x (De h)).off,ε ζ (ET x (De h)).len],ε ζ 0]:=by
 unfold Pm;rw[ATv he,he];rfl
theorem AER x(h:Nat)(hh:h<18446744073709551616)k(hi:QR x k)W(hst:St (DV (Mc x)) W (Mc x) W):
  Calls AGm 187 #[π (σ ⟨x.tb,0,ν⟩),ε υ (h:Int)] W
  λen w' => ∃y:Ir,en=κ (ε ζ (GU x h))/\gD x y h/\St (DV (Mc x)) W (Mc y) w':=by
 obtain⟨M,hM⟩:∃M,DV (Mc x)=M:=⟨_,rfl⟩;rw[hM]at hst ⊢;have hI:=hi;obtain⟨tb,EA,en,ec,E,⟨sb,first,GA,gn,gc,VA,vn,vc,FA,fn,fc,gone,gen,Fh,Fu⟩⟩:=x;unfold Mc Nt at hst;dsimp only at *;clear hM;have hel:E.length=en:=by have:=(Sl.EJ hst (DN (k:=1) rfl)).len;unfold FJ at this;rw[GN Gu]at this;omega
 have hgl:gen.length=en:=hi.n;have hvl:Fh.length=en:=hi.l;have hm:=hi.m;dsimp only at hm;refine DL (M:=M) Tryz.func187 [.tmp 4]  hst ?_;have zs:=Bd.mk Md;refine DZ ?_;refine C9 rfl λK k0=>DR ?_;refine EW (Mc ⟨tb,EA,en,ec,E,⟨sb,first,GA,gn,gc,VA,vn,vc,FA,fn,fc,gone,gen,Fh,Fu⟩⟩) (BB _) (λ_:Unit=>Pm ⟨tb,EA,en,ec,E,⟨sb,first,GA,gn,gc,VA,vn,vc,FA,fn,fc,gone,gen,Fh,Fu⟩⟩ h) _ (λw hw=>Oe ⟨tb,EA,en,ec,E,⟨sb,first,GA,gn,gc,VA,vn,vc,FA,fn,fc,gone,gen,Fh,Fu⟩⟩ h hh (hgl.trans hvl.symm) w hw) ?_;intro _ _;by_cases he:GU ⟨tb,EA,en,ec,E,⟨sb,first,GA,gn,gc,VA,vn,vc,FA,fn,fc,gone,gen,Fh,Fu⟩⟩ h=0
 case neg =>
  rw[SX he];refine DR ?_;intro b5 hb5 Uj;refine k0 _ _ (Cw λK k0=>DZ ?_);refine C_ (Ed he ?_);refine DZ ?_;refine C8 (Eg λw hw=>?_);exact⟨⟨tb,EA,en,ec,E,⟨sb,first,GA,gn,gc,VA,vn,vc,FA,fn,fc,gone,gen,Fh,Fu⟩⟩,rfl,⟨⟨rfl,rfl⟩,rfl,by rw[ATt he]⟩,hw.tail⟩
 obtain⟨r1,r2,r3,r4⟩:=GZ he;rw[VN he];refine DR ?_;intro b5 hb5 Uj;refine k0 _ _ (Cw λK k0=>DZ ?_);refine C_ (DR ?_);refine Cz (k0 _ _ (DY [1,2,3,4,5,6] ?_));refine Cw λK k0=>FD [0] [(τ,0),(τ,1),(τ,2),(τ,3),(τ,4),(ο,5),(ο,6),(τ,7)] [] ?_;refine DR ?_;refine DI (λw hw=>F4 h hh w) ?_;try refine DR ?_
 refine Dh (λ_:X8=>ε ζ 0) Nt _ (λw hw=>sM ⟨sb,first,GA,gn,gc,VA,vn,vc,FA,fn,fc,gone,gen,Fh,Fu⟩ (De h) (hgl.trans hvl.symm) (f_ h) (by have:=hi.fl;have:=hi.kb;dsimp only at *;omega) (by have:=hi.go;have:=hi.kb;dsimp only at *;omega) r2 w hw) ?_;rintro⟨sb2,lH,GA2,gn2,gc2,VA2,vn2,vc2,O0,O1,O3,SS,AEu,AEv,Z6⟩ hy;obtain rfl:sb2=sb:=hy.1.sb;unfold Nt;refine EM ?_;refine DR (k0 _ _ ?_);refine DY [4,5,0,1,2,3] ?_;refine C8 (Eg λw hw=>?_);exact⟨⟨tb,EA,en,ec,E,⟨sb2,lH,GA2,gn2,gc2,VA2,vn2,vc2,O0,O1,O3,SS,AEu,AEv,Z6⟩⟩,by rw[he],⟨⟨rfl,rfl⟩,rfl,by rw[ATv he];exact hy⟩,hw⟩
def Pn(x:Ir)(h:Nat)(ow:Int):Int:=if ¬GU x h=0 then GU x h else if ow<1\/64<ow then 1 else 0
structure gF(x y:Ir)(h:Nat)(ow:Int):Prop where
 k:Wi x y
 s:y.s=x.s
 E:y.E=if Pn x h ow=0 then x.E.set (De h) { ET x (De h)with ow:=ow } else x.E
theorem QR.give{x y k h ow}(hi:QR x k)(hr:gF x y h ow):QR y k :=
 ⟨by rw[hr.s,hr.k.en];exact hi.n,by rw[hr.s,hr.k.en];exact hi.l,by rw[hr.k.en];exact hi.m,hi.kb,by rw[hr.s,hr.k.en];exact hi.fr,by rw[hr.s];exact hi.fl,by rw[hr.s];exact hi.go,by rw[hr.s];exact hi.fi,by rw[hr.s];exact hi.gn⟩
theorem AES x(h:Nat)ow(hh:h<18446744073709551616)k(hi:QR x k)W(hst:St (DV (Mc x)) W (Mc x) W):
  Calls AGm 227 #[π (σ ⟨x.tb,0,ν⟩),ε υ (h:Int),ε ζ ow] W
  λen w' => ∃y:Ir,en=κ (ε ζ (Pn x h ow))/\gF x y h ow/\St (DV (Mc x)) W (Mc y) w':=by
 obtain⟨M,hM⟩:∃M,DV (Mc x)=M:=⟨_,rfl⟩;rw[hM]at hst ⊢;have hI:=hi;obtain⟨tb,EA,en,ec,E,⟨sb,first,GA,gn,gc,VA,vn,vc,FA,fn,fc,gone,gen,Fh,Fu⟩⟩:=x;unfold Mc Nt at hst;dsimp only at *;clear hM;have hel:E.length=en:=by have:=(Sl.EJ hst (DN (k:=1) rfl)).len;unfold FJ at this;rw[GN Gu]at this;omega
 have hfl:Fu.length=fn:=by have:=(Sl.EJ hst (DN (k:=5) rfl)).len;rw[EY]at this;omega
 have hgl:gen.length=en:=hi.n;have hvl:Fh.length=en:=hi.l;have hm:=hi.m;have hkb:=hi.kb;dsimp only at hm;refine DL (M:=M) Tryz.func227 [.tmp 6]  hst ?_;have zs:=Bd.mk Md;refine DZ ?_;refine C9 rfl λK k0=>DR ?_;refine EW (Mc ⟨tb,EA,en,ec,E,⟨sb,first,GA,gn,gc,VA,vn,vc,FA,fn,fc,gone,gen,Fh,Fu⟩⟩) (BB _) (λ_:Unit=>Pm ⟨tb,EA,en,ec,E,⟨sb,first,GA,gn,gc,VA,vn,vc,FA,fn,fc,gone,gen,Fh,Fu⟩⟩ h) _ (λw hw=>Oe ⟨tb,EA,en,ec,E,⟨sb,first,GA,gn,gc,VA,vn,vc,FA,fn,fc,gone,gen,Fh,Fu⟩⟩ h hh (hgl.trans hvl.symm) w hw) ?_;intro _ _;by_cases he:GU ⟨tb,EA,en,ec,E,⟨sb,first,GA,gn,gc,VA,vn,vc,FA,fn,fc,gone,gen,Fh,Fu⟩⟩ h=0
 case neg =>
  have hge:Pn ⟨tb,EA,en,ec,E,⟨sb,first,GA,gn,gc,VA,vn,vc,FA,fn,fc,gone,gen,Fh,Fu⟩⟩ h ow=GU ⟨tb,EA,en,ec,E,⟨sb,first,GA,gn,gc,VA,vn,vc,FA,fn,fc,gone,gen,Fh,Fu⟩⟩ h:=by unfold Pn;rw[ATv he]
  rw[SX he];refine DR ?_;intro b5 hb5 Uj;refine k0 _ _ (Cw λK k0=>DZ ?_);refine C_ (Ed he ?_);refine DZ ?_;refine C8 (Eg λw hw=>?_);exact⟨⟨tb,EA,en,ec,E,⟨sb,first,GA,gn,gc,VA,vn,vc,FA,fn,fc,gone,gen,Fh,Fu⟩⟩,by rw[hge],⟨⟨rfl,rfl⟩,rfl,by rw[hge,ATt he]⟩,hw.tail⟩
 obtain⟨r1,r2,r3,r4⟩:=GZ he;dsimp only at r1;rw[VN he];refine DR ?_;intro b5 hb5 Uj;refine k0 _ _ (Cw λK k0=>DZ ?_);refine C_ (DR ?_);refine Cz (k0 _ _ (DY [1,2,3,4,5,6] ?_));refine DC [0,1,2] λG1 g1=>?_;replace g1:=EK g1;refine Cw λK k0=>Cw λK k1=>?_;refine Df (λ_ _=>True) (λF' L'=>EH F' G1 [0,1,2]/\F' 23=θ (decide (ow<1\/64<ow))/\L'=[.blk tb 146 [π (σ ⟨sb,0,ν⟩),ξ EA en ec],.row (ξ EA en ec) 182 5 en (FJ E),.blk sb 142 [ε ζ first,ξ GA gn gc,ξ VA vn vc,ξ FA fn fc,ε ζ gone],.row (ξ GA gn gc) 3 1 gn (D8 gen),.row (ξ VA vn vc) 4 1 vn (Hf Fh),.row (ξ FA fn fc) 3 1 fn (D8 Fu)]) ?_ ?_
 ·exact AWr
 intro G2 L' _ hF;obtain⟨zq,AEw,rfl⟩:=hF;have zg:=Bd.mk g1;have g2:=AO (Dy zq) AEw;refine k1 _ _ ?_;replace zg:=Bd.mk g2;refine Ec (λhc=>?_) λhc=>?_
 ·have hc':=AT0 hc;refine Db ?_;refine C8 (EP λw hw=>?_);have hge:Pn ⟨tb,EA,en,ec,E,⟨sb,first,GA,gn,gc,VA,vn,vc,FA,fn,fc,gone,gen,Fh,Fu⟩⟩ h ow=1:=by unfold Pn;rw[ATt (λhn=>hn he),ATv hc']
  exact⟨⟨tb,EA,en,ec,E,⟨sb,first,GA,gn,gc,VA,vn,vc,FA,fn,fc,gone,gen,Fh,Fu⟩⟩,by rw[hge],⟨⟨rfl,rfl⟩,rfl,by rw[hge];rfl⟩,hw⟩
 have hc':=AUD hc;refine Cz (k0 _ _ (EL 1 rfl AL λg F7 hg EX=>?_));subst F7;replace hg:=AAM (AO hg EX);clear EX;obtain⟨e,MZ⟩:∃e,E[De h]?=σ e:=⟨_,AQ AL⟩;have hen:ET ⟨tb,σ ⟨g,0,ν⟩,en,ec,E,⟨sb,first,GA,gn,gc,VA,vn,vc,FA,fn,fc,gone,gen,Fh,Fu⟩⟩ (De h)=e:=by unfold ET;rw[MZ];rfl
 have hset:(FJ E).set (De h*5+1) (ε ζ ow)=FJ (E.set (De h) { e with ow:=ow }):=Tm Gu AL rfl MZ;have hcl:(FJ E).length=en*5:=by rw[K9,hel]
 refine Cw λK k0=>FD [0] [(τ,0),(τ,1),(τ,2),(τ,3),(τ,4),(τ,6),(ο,5),(τ,7),(τ,8),(ο,9)] [9] ?_;refine DD ?_;refine DI (λw hw=>F4 h hh w) ?_;try refine DD ?_
 refine DX (JB 1 (i:=De h*5+1) (v:=ε ζ ow) rfl (by rw[hcl];omega) AF rfl rfl) ?_;refine DU hset (k0 _ _ ?_);refine Db ?_;refine C8 (EP λw hw=>?_);have hge:Pn ⟨tb,σ ⟨g,0,ν⟩,en,ec,E,⟨sb,first,GA,gn,gc,VA,vn,vc,FA,fn,fc,gone,gen,Fh,Fu⟩⟩ h ow=0:=by unfold Pn;rw[ATt (λhn=>hn he),ATt hc']
 exact⟨⟨tb,σ ⟨g,0,ν⟩,en,ec,E.set (De h) { e with ow:=ow },⟨sb,first,GA,gn,gc,VA,vn,vc,FA,fn,fc,gone,gen,Fh,Fu⟩⟩,by rw[hge],⟨⟨rfl,rfl⟩,rfl,by rw[hge,ATv rfl,hen]⟩,hw⟩
theorem Z8 x(d:Nat)(hf:x.Fu.length=0)W(hst:St (DV (Nt x)) W (Nt x) W):
  Calls AGm 238 #[π (σ ⟨x.sb,0,ν⟩),ε υ (d:Int)] W
  λen w' => ∃i:Unit,en=κ (.tuple #[ε ζ 0,ε ζ 0,ε ζ 17])/\True/\St (DV (Nt x)) W (Nt x) w':=by
 obtain⟨M,hM⟩:∃M,DV (Nt x)=M:=⟨_,rfl⟩;rw[hM]at hst ⊢;obtain⟨sb,first,GA,gn,gc,VA,vn,vc,FA,fn,fc,gone,gen,Fh,Fu⟩:=x;unfold Nt at hst;dsimp only at *;clear hM;have hfl:Fu.length=fn:=by have:=(Sl.EJ hst (DN (k:=3) rfl)).len;rw[EY]at this;omega
 have hf0:(fn:Int)=0:=by omega
 refine DL (M:=M) Tryz.func238 [.tmp 4,.tmp 5,.tmp 6]  hst ?_;have zs:=Bd.mk Md;refine DZ ?_;refine Cw λK k0=>DZ ?_;refine C_ (Ed hf0 ?_);refine DZ ?_;refine C8 (Eg λw hw=>?_);exact⟨(),rfl,hw⟩
def sS(ow tag:Int):Prop:=ow<1\/64<ow\/tag<1\/255<tag
instance (ow tag:Int):Decidable (sS ow tag):=by unfold sS;infer_instance
structure X9 where
 y:Ir
 h:Nat
 er:Int
def oq(i:X9):Value:=.tuple #[ε υ (i.h:Int),ε ζ i.er]
structure AEx(x:Ir)(ow tag off len:Int)(d:Nat)(i:X9)(s:Nat):Prop where
 fs:x.s.Fu[d % x.s.Fu.length]?=σ (s:Int)
 e:i.er=0
 h:(i.h:Int)=(pkF (s:Int) (Od x.s s) tag).1
 hh:i.h<18446744073709551616
 rr:AHH x.s i.y.s s d
 EE:i.y.E=x.E.set s ⟨i.h,ow,tag,off,len⟩
structure AHI(x:Ir)(i:X9)(v:Int):Prop where
 h:i.h=0
 e:i.er=v
 s:i.y.s=x.s
 E:i.y.E=x.E
structure AHJ(x:Ir)(ow tag off len:Int)(d:Nat)(i:X9):Prop where
 k:Wi x i.y
 r:if sS ow tag then AHI x i 1 else if x.s.Fu.length=0 then AHI x i 17 else ∃s:Nat,s<x.en/\AEx x ow tag off len d i s
theorem ABz s g t:∃n:Nat,(pkF s g t).1=(n:Int)/\n<18446744073709551616:=by
 unfold pkF;by_cases h:s<0\/16777215<s\/g<1\/4294967295<g\/t<1\/255<t
 ·rw[ATv h];exact⟨0,rfl,by omega⟩
 ·rw[ATt h];exact⟨(t*72057594037927936+g*16777216+s).toNat,by dsimp only;omega,by omega⟩
theorem sU{l i v}(h:v∈K8 l i):v∈l:=by
 unfold K8 at h;cases Ck (BU h)with
 |inl h2=>exact h2
 | inr h2 =>
  cases l with
  |nil=>simp at h
  | cons a l =>
   rw[h2,AQ AUq];exact Cf _
theorem lI x ow tag off len(d:Nat)(hd:d<18446744073709551616)k(hi:QR x k)W(hst:St (DV (Mc x)) W (Mc x) W):
  Calls AGm 221 #[π (σ ⟨x.tb,0,ν⟩),ε ζ ow,ε ζ tag,.agg #[ε ζ off,ε ζ len],ε υ (d:Int)] W
  λen w' => ∃i:X9,en=κ (oq i)/\AHJ x ow tag off len d i/\St (DV (Mc x)) W (Mc i.y) w':=by
 obtain⟨M,hM⟩:∃M,DV (Mc x)=M:=⟨_,rfl⟩;rw[hM]at hst ⊢;have hI:=hi;obtain⟨tb,EA,en,ec,E,⟨sb,first,GA,gn,gc,VA,vn,vc,FA,fn,fc,gone,gen,Fh,Fu⟩⟩:=x;unfold Mc Nt at hst;dsimp only at *;clear hM;have hel:E.length=en:=by have:=(Sl.EJ hst (DN (k:=1) rfl)).len;unfold FJ at this;rw[GN Gu]at this;omega
 have hfl:Fu.length=fn:=by have:=(Sl.EJ hst (DN (k:=5) rfl)).len;rw[EY]at this;omega
 have hgl:gen.length=en:=hi.n;have hvl:Fh.length=en:=hi.l;have hm:=hi.m;have hkb:=hi.kb;dsimp only at hm;refine DL (M:=M) Tryz.func221 [.tmp 10,.tmp 11]  hst ?_;refine C9 rfl λK k0=>?_;have zs:=Bd.mk Md;refine DR ?_;intro b8 vO hf8;refine k0 _ _ (DC [0,1,2,4,8] λG1 g1=>?_);replace g1:=EK g1;refine Cw λK k0=>Cw λK k1=>?_;refine Df (λ_ _=>True) (λF' L'=>EH F' G1 [0,1,2,4,8]/\F' 30=θ (decide (ow<1\/64<ow\/tag<1\/255<tag))/\L'=.blk b8 37 [ε ζ off,ε ζ len]::[.blk tb 146 [π (σ ⟨sb,0,ν⟩),ξ EA en ec],.row (ξ EA en ec) 182 5 en (FJ E),.blk sb 142 [ε ζ first,ξ GA gn gc,ξ VA vn vc,ξ FA fn fc,ε ζ gone],.row (ξ GA gn gc) 3 1 gn (D8 gen),.row (ξ VA vn vc) 4 1 vn (Hf Fh),.row (ξ FA fn fc) 3 1 fn (D8 Fu)]) ?_ ?_
 ·exact AWr
 intro G2 L' _ hF;obtain⟨zq,AEy,rfl⟩:=hF;have zg:=Bd.mk g1;have g2:=AO (Dy zq) AEy;refine k1 _ _ ?_;replace zg:=Bd.mk g2;refine Ec (λhc=>?_) λhc=>?_
 ·have hc':sS ow tag:=AT0 hc;refine Db ?_;refine C8 (EP λw hw=>?_);exact⟨⟨⟨tb,EA,en,ec,E,⟨sb,first,GA,gn,gc,VA,vn,vc,FA,fn,fc,gone,gen,Fh,Fu⟩⟩,0,1⟩,rfl,⟨⟨rfl,rfl⟩,by rw[ATv hc'];exact⟨rfl,rfl,rfl,rfl⟩⟩,hw.tail⟩
 have hc':¬sS ow tag:=AUD hc;refine Cz (k0 _ _ ?_);by_cases hf0:Fu.length=0
 ·refine C9 rfl λK k0=>DD ?_;refine EW (Nt ⟨sb,first,GA,gn,gc,VA,vn,vc,FA,fn,fc,gone,gen,Fh,Fu⟩) (.cons _ (.cons _ (.cons _ (BB _)))) (λ_:Unit=>.tuple #[ε ζ 0,ε ζ 0,ε ζ 17]) _ (λw hw=>Z8 ⟨sb,first,GA,gn,gc,VA,vn,vc,FA,fn,fc,gone,gen,Fh,Fu⟩ d hf0 w hw) ?_;intro _ _;refine DD (k0 _ _ ?_);refine Cw λK k0=>Db ?_;refine C_ (DD ?_);refine Db ?_;refine C8 (EP λw hw=>?_);exact⟨⟨⟨tb,EA,en,ec,E,⟨sb,first,GA,gn,gc,VA,vn,vc,FA,fn,fc,gone,gen,Fh,Fu⟩⟩,0,17⟩,rfl,⟨⟨rfl,rfl⟩,by rw[ATt hc',ATv hf0];exact⟨rfl,rfl,rfl,rfl⟩⟩,hw.tail⟩
 have hpos:0<Fu.length:=by omega
 obtain⟨v,hv⟩:∃v,Fu[d % Fu.length]?=σ v:=⟨_,AQ (ASo _ hpos)⟩;obtain⟨s,hsv,hsl⟩:=hi.fr v (AU hv);rw[hsv]at hv;dsimp only at hsl;have hgb:=hi.Gt s;dsimp only at hgb;have AJ6:=hi.fl;dsimp only at AJ6;obtain⟨hN,hpk,hlt⟩:=ABz (s:Int) (Od ⟨sb,first,GA,gn,gc,VA,vn,vc,FA,fn,fc,gone,gen,Fh,Fu⟩ s) tag;refine C9 rfl λK k0=>DD ?_;refine Dh (λy:X8=>AEr s (Od ⟨sb,first,GA,gn,gc,VA,vn,vc,FA,fn,fc,gone,gen,Fh,Fu⟩ s) y) Nt _ (λw hw=>fw ⟨sb,first,GA,gn,gc,VA,vn,vc,FA,fn,fc,gone,gen,Fh,Fu⟩ d hd (hgl.trans hvl.symm) ⟨hpos,by dsimp only;omega⟩ s hv AU5 ⟨hgb.1,by omega⟩ w hw) ?_;rintro⟨sb2,lH,GA2,gn2,gc2,VA2,vn2,vc2,O0,O1,O3,SS,AEu,AEv,Z6⟩ hy;obtain rfl:sb2=sb:=hy.1.sb;unfold Nt AEr;refine EM ?_;obtain⟨gI,hgI⟩:∃v,Od ⟨sb2,first,GA,gn,gc,VA,vn,vc,FA,fn,fc,gone,gen,Fh,Fu⟩ s=v:=⟨_,rfl⟩;rw[hgI]at hpk ⊢;refine DD (k0 _ _ ?_);refine DY [5,6,0,1,2,3,4] ?_;refine DC [0,1,2,8,12,13,14] λG3 g3=>?_;replace g3:=Dy g3;refine Cw λK k0=>?_;replace zg:=Bd.mk g3;refine Db ?_;refine C_ (DD ?_);refine Cz (k0 _ _ (C9 rfl λK k0=>DD ?_));refine DI (λw hw=>sN (s:Int) gI tag w) ?_;try refine DD ?_
 unfold pkV;rw[hpk];refine DD (k0 _ _ ?_);refine EL 1 rfl AL λg F7 hg EX=>?_;subst F7;replace hg:=AAM (AO hg EX);clear EX;have hcl:(FJ E).length=en*5:=by rw[K9,hel]
 have hset:(FJ E).take (s*5)++[ε υ (hN:Int),ε ζ ow,ε ζ tag,ε ζ off,ε ζ len]++(FJ E).drop (s*5+5)=FJ (E.set s ⟨hN,ow,tag,off,len⟩):=ABy Gu E s AL ⟨hN,ow,tag,off,len⟩;have ek : [Value.int υ (hN:Int),ε ζ ow,ε ζ tag,ε ζ off,ε ζ len].length=5:=rfl;refine Cw λK k0=>FD [0,6] [(τ,0),(τ,1),(τ,2),(τ,3),(τ,4),(τ,5),(τ,6),(τ,7),(τ,8),(τ,9),(τ,10),(ο,11)] [11] ?_;refine DD ?_;refine DX (SE 1 (i:=s*5) (vs:=[ε υ (hN:Int),ε ζ ow,ε ζ tag,ε ζ off,ε ζ len]) rfl (by rw[hcl];show _+5<=_;omega) AF rfl) ?_;refine DU (AO hset ek) (k0 _ _ ?_);refine DY [0,1,2,3,4,5] ?_;refine Db ?_;refine C8 (EP λw hw=>?_);exact⟨⟨⟨tb,σ ⟨g,0,ν⟩,en,ec,E.set s ⟨hN,ow,tag,off,len⟩,⟨sb2,lH,GA2,gn2,gc2,VA2,vn2,vc2,O0,O1,O3,SS,AEu,AEv,Z6⟩⟩,hN,0⟩,rfl,⟨⟨rfl,rfl⟩,by rw[ATt hc',ATt hf0];exact⟨s,hsl,hv,rfl,by rw[hgI];exact hpk.symm,hlt,hy,rfl⟩⟩,hw⟩
theorem ADY{α:Type}f(a:α)n(hs:0<(f a).length):(madeCells (f a).toArray (n*(f a).length)).toList=(Ah n a).flatMap f:=by
 apply AUJ;intro j;have hfl:∀m:Nat,((Ah m a).flatMap f).length=m*(f a).length:=by
  intro m
  induction m with
  |zero=>simp
  |succ m ih=>rw[Ci,BK,Ag,ih,ASh];omega
 have hget:∀(m i:Nat),i<m*(f a).length->((Ah m a).flatMap f)[i]?=(f a)[i % (f a).length]? := by
  intro m
  induction m with
  |zero=>intro i hi;simp at hi
  | succ m ih =>
   intro i hi;rw[Ci,BK];by_cases h:i<(f a).length
   ·rw[ASd h,ATA h]
   ·rw[AUT AL,ih (i-(f a).length) (by rw[ASh]at hi;omega),<-Nat.mod_eq_sub_mod AL]
 by_cases h:j<n*(f a).length
 ·rw[hget n j h];have hm:=ASo j hs;simp[madeCells,h,hm]
 ·exact(Cb (by simp[madeCells];omega)).trans (Cb (by rw[hfl];omega)).symm
section
variable{P:Program}{M:List Nat}{W:World}{L:List DW}
theorem Po{α:Type}f(a:α){F}{d:Option Nat}{t e ty pos af gd l c K}{bytes n s:Nat}{kl kc}
  (ht:Jy P t=σ (e,s,bytes)) (hu:Fb P e=σ (f a)) (hs:(f a).length=s) (h0:0<s) (hl:ev F l=ε kl (n:Int)) (hc:ev F c=ε kc (n:Int)) (hb:bytes*n<=281474976710656) (h63:n<=9223372036854775807)
  (hK:∀b,W.heap.size<=b->fresh L b->K τ (ξ (σ ⟨b,0,ν⟩) n n) (.blk b e ((Ah n a).flatMap f)::L)):
  XV P M W ⟨d,.makeSlice t l c,ty,pos,af,gd⟩ F L K:=by
 intro w hw;obtain⟨hut,i,z,hi,hz,hsz,hby,hzs,hsz0⟩:=QG ht;have hzc:z.cells=(f a).toArray:=by
  unfold Fb at hu;rw[hi]at hu;simp only[hz]at hu;have:z.cells.toList=f a:=by simpa using hu
  rw[<-this]
 have hb':(i.bytes:Int)*(n:Int)<=281474976710656:=by
  rw[hby];have h:((bytes*n:Nat):Int)<=281474976710656:=by omega
  rwa[AUW]at h
 have hr:=run_make (P:=P) w t e i z hut hi hz kl kc n n AL (B_ _) hb' AL;have e1:=ADY f a n AL;rw[hs]at e1;simp only[Bo,hsz,hzc]at hr;refine⟨_,_,_,?_,hw.alloc e ((Ah n a).flatMap f),hK w.heap.size hw.ES.size (Ju hw)⟩;have e2:((Ah n a).flatMap f).toArray=madeCells (f a).toArray (n*s):=by rw[<-e1]
 simp only[execOp,hl,hc,Sem.run_bind,hr,Result.andThen_ok,Sem.run_pure,e2]
end
theorem ADZ:Jy AGm 140=σ (4,1,1):=by kernel_rfl
theorem gG n(v:Value):((Ah n ()).flatMap λ_=>[v])=Ah n v:=by
 induction n with
 |zero=>rfl
 |succ n ih=>rw[Ci,BK,ih,Ci];rfl
def X_(n:Nat):List Int:=(Cq n).map (λi:Nat=>(i:Int))
theorem sV n:X_ (n+1)=X_ n++[(n:Int)]:=by unfold X_;rw[ASz,Bj];rfl
theorem gH n:(X_ n).length=n:=by simp[X_]
structure ADa(n:Nat)(first:Int)(x:X8):Prop where
 first:x.first=first
 gen:x.gen=Ah n 0
 Fh:x.Fh=Ah n ο
 Fu:x.Fu=X_ n
 gone:x.gone=0
def AEz(x:X8):Value:=.tuple #[π (σ ⟨x.sb,0,ν⟩),ε ζ 0]
theorem YA(n:Nat)first(hn:n<=4096)(hf:1<=first/\first<=4294967295)W:
  Calls AGm 80 #[ε ζ (n:Int),ε ζ first] W
  λen w' => ∃x:X8,en=κ (AEz x)/\ADa n first x/\St [] W (Nt x) w':=by
 refine DL (M:=[]) Tryz.func80 [.tmp 4,.tmp 5] (St.nil _ _) ?_;have zs:=Bd.mk Md;refine DZ ?_;refine DC [0,1] λG1 g1=>?_;replace g1:=EK g1;refine Cw λK k0=>Cw λK k1=>?_;refine Df (λ_ _=>True) (λF' L'=>EH F' G1 [0,1]/\F' 21=θ ο/\L'=[]) ?_ ?_
 ·exact AWr
 intro G2 L' _ hF;obtain⟨zq,AJ7,rfl⟩:=hF;have zg:=Bd.mk g1;have g2:=AO (Dy zq) AJ7;refine k1 _ _ (C_ ?_);replace zg:=Bd.mk g2;refine DD ?_;refine Cz (k0 _ _ (Cw λK k0=>?_));refine Df (λ_ _=>True) (λF' L' => ∃(b1 b2 b3:Nat),F' 0=G2 0/\F' 6=π (σ ⟨b3,0,ν⟩)/\L'=[.blk b3 142 [ε ζ first,ξ (σ ⟨b1,0,ν⟩) n n,ξ (σ ⟨b2,0,ν⟩) n n,ξ ν 0 0,ε ζ 0],.blk b1 3 ((Ah n ()).flatMap λ_=>[Value.int ζ 0]),.blk b2 4 ((Ah n ()).flatMap λ_=>[Value.bool ο])]) ?_ ?_
 ·refine JU [] (.rd 0 (.rd 1 (.rd 3 (.more 2 (.act 4 (.rd 5 (.act 6 (.rd 7 (.done))))) (.act 4 (.act 2 (.rd 5 (.act 6 (.rd 7 (.done)))))))))) [] ?_;refine DD ?_;refine AO ?_ ?_
  ·refine Po (λ_:Unit=>[Value.int ζ 0]) () (n:=n) (s:=1) GL rfl rfl AJ rfl rfl AL AL ?_;intro b1 hb1 hf1;refine DD ?_;refine Po (λ_:Unit=>[Value.bool ο]) () (n:=n) (s:=1) ADZ rfl rfl AJ rfl rfl AL AL ?_;intro b2 hb2 hf2;refine DD ?_;intro b3 hb3 hf3;refine⟨[0,2,1],by decide,?_⟩;simp only[Dl,nth];exact⟨b1,b2,b3,rfl,rfl⟩
  ·refine Po (λ_:Unit=>[Value.bool ο]) () (n:=n) (s:=1) ADZ rfl rfl AJ rfl rfl AL AL ?_;intro b2 hb2 hf2;refine DD ?_;refine Po (λ_:Unit=>[Value.int ζ 0]) () (n:=n) (s:=1) GL rfl rfl AJ rfl rfl AL AL ?_;intro b1 hb1 hf1;refine DD ?_;intro b3 hb3 hf3;refine⟨[0,1,2],by decide,?_⟩;simp only[Dl,nth];exact⟨b1,b2,b3,rfl,rfl⟩
 intro G3 L' _ hF;obtain⟨b1,b2,b3,Nk,Ms,rfl⟩:=hF;have g3:=AO (Dy Nk) Ms;refine k0 _ _ (Cw λK k0=>?_);replace zg:=Bd.mk g3;refine Db ?_;refine DC [0,6,7] λG4 g4=>?_;replace g4:=Dy g4;refine FB 3 1 (DK ?_);refine Dv (λF' L' => ∃(i:Nat)(FA:Option Addr)(fn fc:Nat),EH F' G4 [0,6]/\F' 7=ε ζ (i:Int)/\L'=[.row (ξ FA fn fc) 3 1 fn (D8 (X_ i)),.blk b3 142 [ε ζ first,ξ (σ ⟨b1,0,ν⟩) n n,ξ (σ ⟨b2,0,ν⟩) n n,ξ FA fn fc,ε ζ 0],.blk b1 3 ((Ah n ()).flatMap λ_=>[Value.int ζ 0]),.blk b2 4 ((Ah n ()).flatMap λ_=>[Value.bool ο])]/\i<=n) (λF' L'=>200000-(intOf (F' 7)).toNat) ?_ ?_
 ·refine⟨0,ν,0,0,?_⟩;replace zg:=Bd.mk g4;refine DD ?_;exact⟨rfl,Ar _⟩
 intro G5 L' hI;obtain⟨i,FA,fn,fc,zq,Pg,rfl,hi⟩:=hI;replace zg:=Bd.mk g4;have g5:=AO (Dy zq) Pg;refine Cw λK k1=>?_;replace zg:=Bd.mk (AO g4 g5);refine Db ?_;refine Ec (λhc=>?_) λhc=>?_
 ·refine Cz ?_;try simp only[Di,Dq]
  have hit:i<n:=by have:=AT0 ‹decide ((i:Int)<(n:Int))=τ›;omega
  refine k1 _ _ (F8 0 rfl λhlA=>?_);rw[EY,gH]at hlA;refine Cw λK k1=>DK (ED [0,2,3,4] AJ (DJ rfl (DD ?_)));intro bE Qi Tg;refine D6 1 GL rfl (λw hw=>D_ (size:=1) (DN (k:=0) rfl) rfl hw) rfl AL AL ?_;intro A2 c2 hl2 hr2;refine DD (k1 _ _ ?_);refine Cy rfl (DD ?_);refine⟨⟨i+1,A2,fn+1,c2,?_⟩,?_⟩
  ·rw[sV,Im];exact AU0
  ·exact AXo
 refine Dr (k0 _ _ ?_);have hin:i=n:=by have:=AUD ‹decide ((i:Int)<(n:Int))=ο›;omega
 subst hin;refine Db ?_;refine C8 (EP λw hw=>?_);rw[gG,gG]at hw;have h1:=hw.pick (ix:=[2,1,0,3]) AJ;simp only[Dl,nth]at h1;have h2:=(h1.JR (size:=1) (n:=i) AUq AL).pick (ix:=[3,1,0,2]) AJ;simp only[Dl,nth]at h2;have h3:=(h2.JR (size:=1) (n:=i) AUq AL).pick (ix:=[1,2,0,3]) AJ;simp only[Dl,nth]at h3;have e1:D8 (Ah i 0)=Ah i (Value.int ζ 0):=by unfold D8;rw[AS4]
 have e2:Hf (Ah i ο)=Ah i (Value.bool ο):=by unfold Hf;rw[AS4]
 rw[<-e1,<-e2]at h3;exact⟨⟨b3,first,σ ⟨b1,0,ν⟩,i,i,σ ⟨b2,0,ν⟩,i,i,FA,fn,fc,0,Ah i 0,Ah i ο,X_ i⟩,rfl,⟨rfl,rfl,rfl,rfl,rfl⟩,h3⟩
theorem ADb:Jy AGm 144=σ (182,5,40):=by kernel_rfl
structure gJ(n:Nat)(first:Int)(x:Ir):Prop where
 en:x.en=n
 E:x.E=Ah n en0
 s:ADa n first x.s
def AE0(x:Ir):Value:=.tuple #[π (σ ⟨x.tb,0,ν⟩),ε ζ 0]
theorem gJ.inv{n first x}(h:gJ n first x)(hn:n<=4096)(hf:1<=first/\first<=4294967295):QR x 0:=by
 refine⟨by rw[h.s.gen,h.en,CB],by rw[h.s.Fh,h.en,CB],by rw[h.en];exact hn,by omega,?_,by rw[h.s.Fu,gH];omega,by rw[h.s.gone];omega,by rw[h.s.first];omega,?_⟩
 ·intro v hv;rw[h.s.Fu]at hv;obtain⟨i,hi,rfl⟩:=BL.1 hv;exact⟨i,rfl,by rw[h.en];exact ASs.1 hi⟩
 ·intro v hv;rw[h.s.gen]at hv;rw[ASP hv];omega
theorem YB(n:Nat)first(hn:n<=4096)(hf:1<=first/\first<=4294967295)W:
  Calls AGm 52 #[ε ζ (n:Int),ε ζ first] W
  λen w' => ∃x:Ir,en=κ (AE0 x)/\gJ n first x/\St [] W (Mc x) w':=by
 refine DL (M:=[]) Tryz.func52 [.tmp 4,.tmp 5] (St.nil _ _) ?_;have zs:=Bd.mk Md;refine DZ ?_;refine C9 rfl λK k0=>DR ?_;refine F6 AEz Nt _ (λw hw=>YA n first hn hf w) ?_;rintro⟨sb,first,GA,gn,gc,VA,vn,vc,FA,fn,fc,gone,gen,Fh,Fu⟩ hx;unfold AEz Nt;refine EM ?_;refine DR (k0 _ _ ?_);refine Cw λK k0=>DZ ?_;refine C_ (DR ?_);refine Cz (k0 _ _ (C9 rfl λK k0=>DR ?_));refine Po enc en0 (n:=n) (s:=5) ADb rfl rfl AJ rfl rfl AL AL ?_;intro be hbe hfe;refine DR ?_;intro tb htb hft;refine k0 _ _ (C8 (Eg λw hw=>?_));have h1:=hw.pick (ix:=[1,0,2,3,4,5]) AJ;simp only[Dl,nth]at h1;have h2:=(h1.JR (size:=5) (n:=n) (K9 _ |>.trans (by rw[CB])) AL).pick (ix:=[1,0,2,3,4,5]) AJ;simp only[Dl,nth]at h2;exact⟨⟨tb,σ ⟨be,0,ν⟩,n,n,Ah n en0,⟨sb,first,GA,gn,gc,VA,vn,vc,FA,fn,fc,gone,gen,Fh,Fu⟩⟩,rfl,⟨rfl,rfl,hx⟩,h2⟩
structure lJ where
 A:Option Addr
 n:Nat
 c:Nat
def lK(i:lJ):Value:=ξ i.A i.n i.c
def KH(x:Ir)(k:Nat):List En:=((Cq k).filter λi=>Ej x.s i).map λi=>ET x i
theorem sW x k:KH x (k+1)=KH x k++(if Ej x.s k=τ then [ET x k] else []):=by
 unfold KH;rw[ASz,ASJ,Bj,Cv];by_cases h:Ej x.s k=τ
 ·rw[ATv h,ATv h];rfl
 ·rw[ATt h,ATt h];rfl
theorem SY x k:(KH x k).length<=k:=by
 unfold KH;rw[BF];exact AGn (Ap _ _) (Nat.le_of_eq AIC)
theorem Z9 l e:FJ (l++[e])=FJ l++enc e:=by simp[FJ]
theorem yC x k(hi:QR x k)W(hst:St (DV (Mc x)) W (Mc x) W):
  Calls AGm 63 #[π (σ ⟨x.tb,0,ν⟩)] W
  λen w' => ∃i:lJ,en=κ (lK i)/\i.n=(KH x x.en).length/\St (DV (Mc x)) W (.row (ξ i.A i.n i.c) 182 5 i.n (FJ (KH x x.en))::Mc x) w':=by
 obtain⟨M,hM⟩:∃M,DV (Mc x)=M:=⟨_,rfl⟩;rw[hM]at hst ⊢;have hI:=hi;obtain⟨tb,EA,en,ec,E,⟨sb,first,GA,gn,gc,VA,vn,vc,FA,fn,fc,gone,gen,Fh,Fu⟩⟩:=x;unfold Mc Nt at hst;dsimp only at *;clear hM;have hel:E.length=en:=by have:=(Sl.EJ hst (DN (k:=1) rfl)).len;unfold FJ at this;rw[GN Gu]at this;omega
 have hfl:Fu.length=fn:=by have:=(Sl.EJ hst (DN (k:=5) rfl)).len;rw[EY]at this;omega
 have hgl:gen.length=en:=hi.n;have hvl:Fh.length=en:=hi.l;have hm:=hi.m;have hkb:=hi.kb;dsimp only at hm;have hvn:Fh.length=vn:=by have:=(Sl.EJ hst (DN (k:=4) rfl)).len;rw[Kg]at this;omega
 refine DL (M:=M) Tryz.func63 [.tmp 2]  hst ?_;have zs:=Bd.mk Md;refine DZ ?_;refine DZ ?_;refine Cw λK k0=>DZ ?_;refine DC [0,3,4] λG1 g1=>?_;replace g1:=EK g1;refine Rp λhap=>?_;simp only[QH,Nc,Nf,Rn,VG,Ro,Dw,Du,Dz,and_true,AT1,Ae,AT7,Md]at hap;obtain hap:=hap;obtain⟨X0,hX0⟩:∃X0:Ir,X0=⟨tb,EA,en,ec,E,⟨sb,first,GA,gn,gc,VA,vn,vc,FA,fn,fc,gone,gen,Fh,Fu⟩⟩:=⟨_,rfl⟩;refine FB 182 5 (DK ?_);refine Dv (λF' L' => ∃(i:Nat)(A1:Option Addr)(n1 c1:Nat),F' 0=G1 0/\F' 3=ξ A1 n1 c1/\F' 4=ε ζ (i:Int)/\L'=.row (ξ A1 n1 c1) 182 5 n1 (FJ (KH X0 i))::[.blk tb 146 [π (σ ⟨sb,0,ν⟩),ξ EA en ec],.row (ξ EA en ec) 182 5 en (FJ E),.blk sb 142 [ε ζ first,ξ GA gn gc,ξ VA vn vc,ξ FA fn fc,ε ζ gone],.row (ξ GA gn gc) 3 1 gn (D8 gen),.row (ξ VA vn vc) 4 1 vn (Hf Fh),.row (ξ FA fn fc) 3 1 fn (D8 Fu)]/\i<=en) (λF' L'=>200000-(intOf (F' 4)).toNat) ?_ ?_
 ·exact AVG
 intro G2 L' hI;obtain⟨i,A1,n1,c1,Nk,Tn,Qd,rfl,hi2⟩:=hI;have zg:=Bd.mk g1;have g2:=AO (Dy Nk) (AO Tn Qd);refine Cw λK k1=>?_;replace zg:=Bd.mk (AO g1 g2);refine Db ?_;refine Ec (λhc=>?_) λhc=>?_
 ·refine Cz ?_;try simp only[Di,Dq]
  have hit:i<en:=by have:=AT0 ‹decide ((i:Int)<(en:Int))=τ›;omega
  obtain⟨e,he⟩:∃e,E[i]?=σ e:=⟨_,AQ AL⟩;obtain⟨lv,hlv⟩:∃lv,Fh[i]?=σ lv:=⟨_,AQ AL⟩;have hld:=K5 Gu he;have hal:=SY X0 i;have hen:ET X0 i=e:=by rw[hX0];unfold ET;rw[he];rfl
  have hli:Ej X0.s i=lv:=by rw[hX0];unfold Ej;rw[hlv];rfl
  have hs:=sW X0 i;rw[hen,hli]at hs;refine k1 _ _ (F8 0 rfl λhlA=>?_);have hn1:n1<=100000:=by
   rw[K9]at hlA;omega
  refine EL 5 rfl AL λgb F7 hgb EX=>?_;subst F7;replace hgb:=AAM (AO hgb EX);clear EX;refine EL 2 rfl AL λg F7 hg EX=>?_;subst F7;replace hg:=AAM (AO hg EX);clear EX;refine Cw λK k1=>DK (C9 rfl λK k2=>DD ?_);refine DX (Dx (m:=1) (i:=i) (v:=θ lv) (DN (k:=5) rfl) rfl (We hlv)) ?_;refine DD (k2 _ _ ?_);refine C_ ?_;cases lv with
  | false =>
   rw[ATt AJ,BX]at hs;refine DD ?_;refine Cz (k1 _ _ (Cy rfl (DD ?_)));refine⟨⟨i+1,A1,n1,c1,?_⟩,?_⟩
   ·rw[hs];exact AU0
   ·exact AXo
  | true =>
   rw[ATv rfl]at hs;refine DD ?_;refine ED [0,2,3,4,5,6,7] AJ (DJ rfl (DD ?_));refine DX (IJ (i:=i*5) (vs:=enc e) (DN (k:=2) rfl) AF hld) ?_;refine DD ?_;simp only[enc,Av,Bf,AT1];refine DD ?_;intro bE Qi Tg;refine D6 1 ADb rfl (λw hw=>D_ (size:=5) (DN (k:=0) rfl) rfl hw) rfl AL AL ?_;intro A2 c2 hl2 hr2;refine DD (k1 _ _ ?_);refine Cy rfl (DD ?_);refine⟨⟨i+1,A2,n1+1,c2,?_⟩,?_⟩
   ·rw[hs,Z9];refine DU (AO @Af @enc.eq_1) ?_;omega
   ·exact AXo
 refine Dr (k0 _ _ ?_);have hin:i=en:=by have:=AUD ‹decide ((i:Int)<(en:Int))=ο›;omega
 subst hin;refine Db ?_;refine F8 0 rfl λhlA=>C8 (EP λw hw=>?_);rw[hX0]at hlA hw;exact⟨⟨A1,n1,c1⟩,rfl,by rw[K9]at hlA;dsimp only;omega,hw⟩
structure HpC where
 y0:Value
 y1:Value
 y2:Value
 y3:Value
 y4:Value
 y5:Value
 y6:Value
 y7:Value
 y8:Value
 ty:Value
 sz:Value
 us:Value
 tb:Value
 ln:Value
 q0:Value
 q1:Value
 q2:Value
 mt:Value
 cp:Value
 lg:Value
 ms:Value
 bt:Value
 sv:Value
def Xp(b:Nat)(x:HpC):DW:=.blk b 97 [x.y0,x.y1,x.y2,x.y3,x.y4,x.y5,x.y6,x.y7,x.y8,x.ty,x.sz,x.us,x.tb,x.ln,x.q0,x.q1,x.q2,x.mt,x.cp,x.lg,x.ms,x.bt,x.sv]
section
variable{M:List Nat}{W w:World}{L:List DW}
theorem oZ.of(hw:St M W L w)i j{b t cs}off{lim A n c l}(hi:nth L i=σ (.blk b t cs))(hk:(cs.drop off).take 4=[ε ζ lim.qb,ε ζ lim.qo,ε ζ lim.qr,ξ A n c])
  (hj:nth L j=σ (.row (ξ A n c) 292 4 n (FC l))) (hl:l.length<=100000):oZ w w.heap.size b off lim A n c l :=
 ⟨Sl.Z0 hw i hi off [ε ζ lim.qb,ε ζ lim.qo,ε ζ lim.qr,ξ A n c] hk AUq,Sl.EJ hw (DN hj),by
  have:=(Sl.EJ hw (DN hj)).len;unfold FC at this;rw[GN J5]at this;omega⟩
theorem Ti.of(hw:St M W L w)i j{b t cs}off{cap ms A n c es}(hi:nth L i=σ (.blk b t cs))(hk:(cs.drop off).take 3=[ε ζ cap,ξ A n c,ms])
  (hj:nth L j=σ (.row (ξ A n c) 49 5 n (Eh es))) (hl:es.length<=100000):Ti w w.heap.size b off cap ms A n c es :=
 ⟨Sl.Z0 hw i hi off [ε ζ cap,ξ A n c,ms] hk AUq,Sl.EJ hw (DN hj),by
  have:=(Sl.EJ hw (DN hj)).len;unfold Eh at this;rw[GN H8]at this;omega⟩
end
theorem AB1 l:ones (Eh l)=τ:=by
 induction l with
 |nil=>rfl
 |cons o l ih=>simp only[Eh,BK,ones,AUV,oK,ASX,List.all_nil,Value.oneCell',AHj,ASv]at ih ⊢;exact ih
theorem Ku l e:Eh (l++[e])=Eh l++[ε ζ e.pl,ε ζ e.op,ε υ (e.h:Int),ε υ (e.ar:Int),ε ζ e.er]:=by simp[Eh,oK]
def Q9(cap:Int)(es:List Gs)(e:Gs):Int×List Gs :=
 if ¬Qk e=0 then (Qk e,es) else if (SI e && !decide ((SH es e.pl:Int)<cap))=τ then (19,es) else (0,es++[e])
structure vP where
 r:Int
 A:Option Addr
 n:Nat
 c:Nat
 es:List Gs
def Z_(i:vP):Value:=ε ζ i.r
def AHK(b:Nat)(x:HpC)(i:vP):List DW:=[Xp b { x with lg:=ξ i.A i.n i.c },.row (ξ i.A i.n i.c) 49 5 i.n (Eh i.es)]
theorem gK b x cap A n c es e(hcp:x.cp=ε ζ cap)(sZ:x.lg=ξ A n c)(hl:es.length<=90000)W(hst:St (DV [Xp b x,.row (ξ A n c) 49 5 n (Eh es)]) W [Xp b x,.row (ξ A n c) 49 5 n (Eh es)] W):
  Calls AGm 137 #[π (σ ⟨b,18,ν⟩),U6 e] W
  λen w' => ∃i:vP,en=κ (Z_ i)/\(i.r,i.es)=Q9 cap es e/\St (DV [Xp b x,.row (ξ A n c) 49 5 n (Eh es)]) W (AHK b x i) w':=by
 obtain⟨M,hM⟩:∃M,DV [Xp b x,.row (ξ A n c) 49 5 n (Eh es)]=M:=⟨_,rfl⟩;rw[hM]at hst ⊢;obtain⟨y0,y1,y2,y3,y4,y5,y6,y7,y8,ty,sz,us,tb,ln,q0,q1,q2,mt,cp,lg,ms,bt,sv⟩:=x;dsimp only at hcp sZ;subst hcp sZ;unfold Xp at hst;dsimp only at hst;clear hM;have hlen:es.length=n:=by have:=(Sl.EJ hst (DN (k:=1) rfl)).len;unfold Eh at this;rw[GN H8]at this;omega
 refine DL (M:=M) Tryz.func137 [.tmp 4]  hst ?_;refine C9 rfl λK k0=>?_;have zs:=Bd.mk K7;refine Ed @U6.eq_1 ?_;intro b3 hb3 hf3;refine k0 _ _ (Cw λK k0=>C9 rfl λK k1=>DR ?_);refine DI (λw hw=>SK e w) (DR (k1 _ _ ?_));refine DC [0,3,5] λG1 g1=>?_;replace g1:=EK g1;have zg:=Bd.mk g1;refine Db ?_;refine C_ ?_;by_cases hk:Qk e=0
 case neg =>
  have hap:Q9 cap es e=(Qk e,es):=by unfold Q9;rw[ATv hk]
  refine DU hk ?_;refine Db ?_;refine C8 (EP λw hw=>?_);exact⟨⟨Qk e,A,n,c,es⟩,rfl,hap.symm,hw.tail⟩
 refine DU hk ?_;refine Cz (k0 _ _ (Cw λK k0=>Cw λK k1=>?_));refine Df (λ_ _=>True) (λF' L'=>EH F' G1 [0,3]/\F' 19=θ (SI e && !decide ((SH es e.pl:Int)<cap))/\L'=[.blk b3 49 [ε ζ e.pl,ε ζ e.op,ε υ (e.h:Int),ε υ (e.ar:Int),ε ζ e.er],.blk b 97 [y0,y1,y2,y3,y4,y5,y6,y7,y8,ty,sz,us,tb,ln,q0,q1,q2,mt,ε ζ cap,ξ A n c,ms,bt,sv],.row (ξ A n c) 49 5 n (Eh es)]) ?_ ?_
 ·cases hcn:SI e with
  | false =>
   refine Cy rfl (DD ?_);refine DI (λw hw=>hcn▸Pk e w) ?_;exact dP
  | true =>
   refine Cy rfl (DD ?_);refine DI (λw hw=>hcn▸Pk e w) (DD ?_);refine DI (λw hw=>Yx (cap:=cap) (ms:=ms) (Ti.of hw 1 2 18 rfl rfl rfl AL) e.pl) ?_;exact dP
 intro G2 L' _ hF;obtain⟨zq,aB,rfl⟩:=hF;have g2:=AO (Dy zq) aB;refine k1 _ _ (C_ ?_);cases hrm:(SI e && !decide ((SH es e.pl:Int)<cap))with
 | true =>
  have hap:Q9 cap es e=(19,es):=by unfold Q9;rw[ATt (λh=>h hk),ATv hrm]
  replace zg:=Bd.mk g2;refine DU hrm ?_;refine Db ?_;refine C8 (EP λw hw=>?_);exact⟨⟨19,A,n,c,es⟩,rfl,hap.symm,hw.tail⟩
 |false =>
 have hap:Q9 cap es e=(0,es++[e]):=by unfold Q9;rw[ATt (λh=>h hk),ATt (by rw[hrm];decide)]
 replace zg:=Bd.mk g2;refine DU hrm ?_;refine Cz (k0 _ _ ?_);have o1:=AB1 es;have hend:∀(A4:Option Addr) (c4:Nat) (w:World),St M W [.blk b 97 [y0,y1,y2,y3,y4,y5,y6,y7,y8,ty,sz,us,tb,ln,q0,q1,q2,mt,ε ζ cap,ξ A4 (n+1) c4,ms,bt,sv],.row (ξ A4 (n+1) c4) 49 5 (n+1) (Eh (es++[e]))] w →
   ∃i:vP,(Ending.returned (Value.int ζ 0))=κ (Z_ i)/\(i.r,i.es)=Q9 cap es e/\St M W (AHK b ⟨y0,y1,y2,y3,y4,y5,y6,y7,y8,ty,sz,us,tb,ln,q0,q1,q2,mt,ε ζ cap,ξ A n c,ms,bt,sv⟩ i) w:=λA4 c4 w hw=>⟨⟨0,A4,n+1,c4,es++[e]⟩,rfl,hap.symm,hw⟩
 refine Cw λK k0=>?_;refine Df (λ_ _=>True) (λF' L' => ∃(A4:Option Addr)(c4:Nat),L'=[.blk b 97 [y0,y1,y2,y3,y4,y5,y6,y7,y8,ty,sz,us,tb,ln,q0,q1,q2,mt,ε ζ cap,ξ A4 (n+1) c4,ms,bt,sv],.row (ξ A4 (n+1) c4) 49 5 (n+1) (Eh (es++[e]))]) ?_ ?_
 ·refine JU [0,1,2] (.rd 0 (.rd 2 (.rd 3 (.rd 4 (.rd 5 (.rd 7 (.more 1 (.more 6 (.act 8 (.act 9 (.rd 10 (.rd 11 (.act 12 (.done)))))) (.act 8 (.act 6 (.act 9 (.rd 10 (.rd 11 (.act 12 (.done)))))))) (.act 8 (.act 1 (.act 6 (.act 9 (.rd 10 (.rd 11 (.act 12 (.done))))))))))))))) [12] ?_;refine DD ?_;refine AO ?_ ?_
  ·intro bA Oz hfA;refine AO ?_ ?_
   ·refine EI 0 Vm rfl rfl (λw hw=>Hz (DN (k:=3) rfl) hw) o1 AL AL ?_;intro A3 c3 hl3 hr3;refine DU (AO @Ao @AR.{0}) ?_;intro bE Qi Tg;refine D6 1 Vm rfl (λw hw=>D_ (size:=5) (DN (k:=0) rfl) rfl hw) rfl AL AL ?_;intro A4 c4 hl4 hr4;refine DD ?_;refine⟨[3,0],by decide,?_⟩;simp only[Dl,nth];exact⟨A4,c4,by rw[Ku]⟩
   ·intro bE Qi Tg;refine EI 1 Vm rfl rfl (λw hw=>Hz (DN (k:=4) rfl) hw) o1 AL AL ?_;exact AU8
  ·intro bE Qi Tg bA Oz hfA;refine EI 0 Vm rfl rfl (λw hw=>Hz (DN (k:=4) rfl) hw) o1 AL AL ?_;exact AU8
 intro G3 L' _ hF;obtain⟨A4,c4,rfl⟩:=hF;refine k0 _ _ (DZ ?_);refine C8 (Eg λw hw=>?_);exact hend A4 c4 _ hw
structure MtX(x:HpC)(lim:Qu)(A:Option Addr)(n c:Nat):Prop where
 q0:x.q0=ε ζ lim.qb
 q1:x.q1=ε ζ lim.qo
 q2:x.q2=ε ζ lim.qr
 mt:x.mt=ξ A n c
structure Pp where
 r:Int
 A:Option Addr
 n:Nat
 c:Nat
 l:List Sh
def Nu(i:Pp):Value:=ε ζ i.r
def yD(i:Pp):Value:=.tuple #[]
def yE(b:Nat)(x:HpC)(i:Pp):List DW:=[Xp b { x with mt:=ξ i.A i.n i.c },.row (ξ i.A i.n i.c) 292 4 i.n (FC i.l)]
theorem gL b x lim A n c l p q(hx:MtX x lim A n c)(hl:l.length<=90000)W(hst:St (DV [Xp b x,.row (ξ A n c) 292 4 n (FC l)]) W [Xp b x,.row (ξ A n c) 292 4 n (FC l)] W):
  Calls AGm 183 #[π (σ ⟨b,14,ν⟩),ε ζ p,VB q] W
  λen w' => ∃i:Pp,en=κ (yD i)/\i.l=Wd l p q/\St (DV [Xp b x,.row (ξ A n c) 292 4 n (FC l)]) W (yE b x i) w':=by
 obtain⟨M,hM⟩:∃M,DV [Xp b x,.row (ξ A n c) 292 4 n (FC l)]=M:=⟨_,rfl⟩;rw[hM]at hst ⊢;obtain⟨y0,y1,y2,y3,y4,y5,y6,y7,y8,ty,sz,us,tb,ln,q0,q1,q2,mt,cp,lg,ms,bt,sv⟩:=x;obtain⟨h0,h1,h2,h3⟩:=hx;dsimp only at h0 h1 h2 h3;subst h0 h1 h2 h3;unfold Xp at hst;dsimp only at hst;clear hM;have hlen:l.length=n:=by have:=(Sl.EJ hst (DN (k:=1) rfl)).len;unfold FC at this;rw[GN J5]at this;omega
 refine DL (M:=M) Tryz.func183 []  hst ?_;refine C9 rfl λK k0=>?_;have zs:=Bd.mk FR;refine Ed @VB.eq_1 ?_;intro b5 hb5 Uj;refine k0 _ _ (DZ ?_);refine Cw λK k0=>DZ ?_;refine DC [0,1,5,6,7] λG1 g1=>?_;replace g1:=EK g1;refine FB 292 4 (DK ?_);refine Dv (λF' L' => ∃(i:Nat)(A1:Option Addr)(n1 c1:Nat),EH F' G1 [0,1,5]/\F' 6=ξ A1 n1 c1/\F' 7=ε ζ (i:Int)/\L'=[.row (ξ A1 n1 c1) 292 4 n1 (FC ((l.take i).filter λs => !Yy p s)),.blk b5 62 [ε ζ q.qb,ε ζ q.qo,ε ζ q.qr],.blk b 97 [y0,y1,y2,y3,y4,y5,y6,y7,y8,ty,sz,us,tb,ln,ε ζ lim.qb,ε ζ lim.qo,ε ζ lim.qr,ξ A n c,cp,lg,ms,bt,sv],.row (ξ A n c) 292 4 n (FC l)]/\i<=n) (λF' L'=>200000-(intOf (F' 7)).toNat) ?_ ?_
 ·exact AVG
 intro G2 L' hI;obtain⟨i,A1,n1,c1,zq,Ms,Pg,rfl,hi⟩:=hI;have zg:=Bd.mk g1;have g2:=AO (Dy zq) (AO Ms Pg);refine Cw λK k1=>?_;replace zg:=Bd.mk (AO g1 g2);refine Db ?_;refine Ec (λhc=>?_) λhc=>?_
 ·refine Cz ?_;try simp only[Di,Dq]
  have hit:i<n:=by have:=AT0 ‹decide ((i:Int)<(n:Int))=τ›;omega
  obtain⟨e,he⟩:∃e,l[i]?=σ e:=⟨_,AQ AL⟩;have hld:=K5 J5 he;have hfs:=Il he (λs => !Yy p s);refine k1 _ _ (F8 0 rfl λhlA=>?_);have hn1:n1<=100000:=by
   unfold FC at hlA;rw[GN J5]at hlA;have h1:((l.take i).filter λs => !Yy p s).length<=(l.take i).length:=Ap _ _;rw[Al]at h1;omega
  refine EL 3 rfl AL λg F7 hg EX=>?_;subst F7;replace hg:=AAM (AO hg EX);clear EX;refine Cw λK k1=>DK (C9 rfl λK k2=>DD ?_);refine DX (Dx (m:=1) (i:=i*4+0) (v:=ε ζ e.p) (DN (k:=3) rfl) rfl (Gi J5 he AL)) ?_;refine DD (k2 _ _ ?_);refine C_ ?_;by_cases h1:e.p=p
  ·have d1:decide (e.p=p)=τ:=AUB h1;have hof:((l.take (i+1)).filter λs => !Yy p s)=((l.take i).filter λs => !Yy p s):=by rw[hfs];simp[Yy,h1]
   refine DU d1 ?_;exact AWv
  ·have hof:((l.take (i+1)).filter λs => !Yy p s)=((l.take i).filter λs => !Yy p s)++[e]:=by rw[hfs];simp[Yy,h1]
   refine DU h1 ?_;refine ED [0,2,3,4] AJ (DJ rfl (DD ?_));refine DX (IJ (i:=i*4) (vs:=shc e) (DN (k:=3) rfl) AF hld) ?_;refine DD ?_;simp only[shc,Av,Bf,AT1];refine DD ?_;intro bE Qi Tg;refine D6 1 ADL rfl (λw hw=>D_ (size:=4) (DN (k:=0) rfl) rfl hw) rfl AL AL ?_;intro A2 c2 hl2 hr2;refine DD (k1 _ _ ?_);refine Cy rfl (DD ?_);refine⟨⟨i+1,A2,n1+1,c2,?_⟩,?_⟩
   ·rw[hof,SN];exact AU0
   ·exact AXo
 refine Dr (k0 _ _ ?_);have hin:i=n:=by have:=AUD ‹decide ((i:Int)<(n:Int))=ο›;omega
 subst hin;rw[Aw AL];refine F8 0 rfl λhlA=>?_;have hn1:n1<=100000:=by
  unfold FC at hlA;rw[GN J5]at hlA;have h1:(l.filter λs => !Yy p s).length<=l.length:=Ap _ _;omega
 refine DJ rfl (DD ?_);intro bE Qi Tg;refine D6 1 ADL rfl (λw hw=>D_ (size:=4) (DN (k:=0) rfl) rfl hw) rfl AL AL ?_;intro A2 c2 hl2 hr2;refine DD ?_;refine⟨_,rfl,λw hw=>?_⟩;have hsn:FC ((l.filter λs => !Yy p s)++[⟨p,q⟩])=FC (l.filter λs => !Yy p s)++[ε ζ p,ε ζ q.qb,ε ζ q.qo,ε ζ q.qr]:=SN _ _;rw[<-hsn]at hw;have h9:=hw.pick (ix:=[3,0]) AJ;simp only[Dl,nth]at h9;exact⟨⟨0,A2,n1+1,c2,Wd l p q⟩,rfl,rfl,h9⟩
def AE1(x q:Qu):Qu:=⟨x.qb+q.qb,x.qo+q.qo,x.qr+q.qr⟩
def AE2(x q:Qu):Qu:=⟨x.qb-q.qb,x.qo-q.qo,x.qr-q.qr⟩
def Mt(lim:Qu)(l:List Sh)(p:Int)(q:Qu):Int×List Sh:=if Tj lim (HZ l p) q=τ then (16,l) else (0,Wd l p (AE1 (HZ l p) q))
def Uk(x q:Qu):Bool:=decide (x.qb<q.qb)||decide (x.qo<q.qo)||decide (x.qr<q.qr)
def KI(l:List Sh)(p:Int)(q:Qu):Int×List Sh:=if Uk (HZ l p) q=τ then (1,l) else (0,Wd l p (AE2 (HZ l p) q))
theorem yF b x lim A n c l p q(hx:MtX x lim A n c)(hl:l.length<=90000)(hlim:lim.lim)(hq:q.ok)(hok:∀s∈l,s.q.ok)W(hst:St (DV [Xp b x,.row (ξ A n c) 292 4 n (FC l)]) W [Xp b x,.row (ξ A n c) 292 4 n (FC l)] W):
  Calls AGm 222 #[π (σ ⟨b,14,ν⟩),ε ζ p,VB q] W
  λen w' => ∃i:Pp,en=κ (Nu i)/\(i.r,i.l)=Mt lim l p q/\St (DV [Xp b x,.row (ξ A n c) 292 4 n (FC l)]) W (yE b x i) w':=by
 have hxq:=VM hok p;obtain⟨M,hM⟩:∃M,DV [Xp b x,.row (ξ A n c) 292 4 n (FC l)]=M:=⟨_,rfl⟩;rw[hM]at hst ⊢;obtain⟨y0,y1,y2,y3,y4,y5,y6,y7,y8,ty,sz,us,tb,ln,q0,q1,q2,mt,cp,lg,ms,bt,sv⟩:=x;obtain⟨h0,h1,h2,h3⟩:=hx;dsimp only at h0 h1 h2 h3;subst h0 h1 h2 h3;unfold Xp at hst;dsimp only at hst;clear hM;have hlen:l.length=n:=by have:=(Sl.EJ hst (DN (k:=1) rfl)).len;unfold FC at this;rw[GN J5]at this;omega
 obtain⟨X,hX⟩:∃X,HZ l p=X:=⟨_,rfl⟩;rw[hX]at hxq;obtain⟨⟨qb1,qb2⟩,⟨qo1,qo2⟩,⟨qr1,qr2⟩⟩:=hq;obtain⟨⟨xb1,xb2⟩,⟨xo1,xo2⟩,⟨xr1,xr2⟩⟩:=hxq;have w1:IntKind.i64.wrap (X.qb+q.qb)=X.qb+q.qb:=DT AL AL;have w2:IntKind.i64.wrap (X.qo+q.qo)=X.qo+q.qo:=DT AL AL;have w3:IntKind.i64.wrap (X.qr+q.qr)=X.qr+q.qr:=DT AL AL;refine DL (M:=M) Tryz.func222 [.tmp 6]  hst ?_;refine C9 rfl λK k0=>?_;have zs:=Bd.mk FR;refine Ed @VB.eq_1 ?_;intro b5 hb5 Uj;refine k0 _ _ (Cw λK k0=>C9 rfl λK k1=>DR ?_);refine DI (λw hw=>Tk (oZ.of (l:=l) (lim:=lim) hw 1 2 14 rfl rfl rfl AL) hlim p q ⟨⟨qb1,qb2⟩,⟨qo1,qo2⟩,⟨qr1,qr2⟩⟩) ?_;try refine DR ?_
 rw[hX];refine k1 _ _ (DZ ?_);refine C_ ?_;cases hf:Tj lim X q with
 | true =>
  have ha:Mt lim l p q=(16,l):=by unfold Mt;rw[hX,ATv hf]
  refine Ed hf ?_;refine DZ ?_;refine C8 (Eg λw hw=>?_);exact⟨⟨16,A,n,c,l⟩,rfl,ha.symm,hw.tail⟩
 |false =>
 have ha:Mt lim l p q=(0,Wd l p (AE1 X q)):=by unfold Mt;rw[hX,ATt (by rw[hf];decide)]
 refine Ed hf ?_;refine Cz (k0 _ _ (C9 rfl λK k0=>DR ?_));refine DI (λw hw=>hX▸SQ (oZ.of (l:=l) (lim:=lim) hw 1 2 14 rfl rfl rfl AL) p) ?_;try refine Ed @VB.eq_1 ?_
 intro b8 vO hf8;refine k0 _ _ (C9 rfl λK k0=>Ed (AO w1 (AO w2 w3)) ?_);refine Dh yD (yE b ⟨y0,y1,y2,y3,y4,y5,y6,y7,y8,ty,sz,us,tb,ln,ε ζ lim.qb,ε ζ lim.qo,ε ζ lim.qr,ξ A n c,cp,lg,ms,bt,sv⟩) _ (λw hw=>gL b ⟨y0,y1,y2,y3,y4,y5,y6,y7,y8,ty,sz,us,tb,ln,ε ζ lim.qb,ε ζ lim.qo,ε ζ lim.qr,ξ A n c,cp,lg,ms,bt,sv⟩ lim A n c l p (AE1 X q) ⟨rfl,rfl,rfl,rfl⟩ hl w hw) ?_;rintro⟨r1,A1,n1,c1,l1⟩ hl1;dsimp only at hl1;subst hl1;refine Ed @yD.eq_1 (k0 _ _ ?_);refine DZ ?_;refine C8 (Eg λw hw=>?_);exact⟨⟨0,A1,n1,c1,_⟩,rfl,ha.symm,hw.sub (Az _ _)⟩
theorem yG b x lim A n c l p q(hx:MtX x lim A n c)(hl:l.length<=90000)(hq:q.ok)(hok:∀s∈l,s.q.ok)W(hst:St (DV [Xp b x,.row (ξ A n c) 292 4 n (FC l)]) W [Xp b x,.row (ξ A n c) 292 4 n (FC l)] W):
  Calls AGm 139 #[π (σ ⟨b,14,ν⟩),ε ζ p,VB q] W
  λen w' => ∃i:Pp,en=κ (Nu i)/\(i.r,i.l)=KI l p q/\St (DV [Xp b x,.row (ξ A n c) 292 4 n (FC l)]) W (yE b x i) w':=by
 have hxq:=VM hok p;obtain⟨M,hM⟩:∃M,DV [Xp b x,.row (ξ A n c) 292 4 n (FC l)]=M:=⟨_,rfl⟩;rw[hM]at hst ⊢;obtain⟨y0,y1,y2,y3,y4,y5,y6,y7,y8,ty,sz,us,tb,ln,q0,q1,q2,mt,cp,lg,ms,bt,sv⟩:=x;obtain⟨h0,h1,h2,h3⟩:=hx;dsimp only at h0 h1 h2 h3;subst h0 h1 h2 h3;unfold Xp at hst;dsimp only at hst;clear hM;have hlen:l.length=n:=by have:=(Sl.EJ hst (DN (k:=1) rfl)).len;unfold FC at this;rw[GN J5]at this;omega
 obtain⟨X,hX⟩:∃X,HZ l p=X:=⟨_,rfl⟩;rw[hX]at hxq;obtain⟨⟨qb1,qb2⟩,⟨qo1,qo2⟩,⟨qr1,qr2⟩⟩:=hq;obtain⟨⟨xb1,xb2⟩,⟨xo1,xo2⟩,⟨xr1,xr2⟩⟩:=hxq;have n1':¬q.qb<0:=by omega
 have n2':¬q.qo<0:=by omega
 have n3':¬q.qr<0:=by omega
 have w1:IntKind.i64.wrap (X.qb-q.qb)=X.qb-q.qb:=DT AL AL;have w2:IntKind.i64.wrap (X.qo-q.qo)=X.qo-q.qo:=DT AL AL;have w3:IntKind.i64.wrap (X.qr-q.qr)=X.qr-q.qr:=DT AL AL;refine DL (M:=M) Tryz.func139 [.tmp 6]  hst ?_;refine C9 rfl λK k0=>?_;have zs:=Bd.mk FR;refine Ed @VB.eq_1 ?_;intro b5 hb5 Uj;refine k0 _ _ (C9 rfl λK k0=>DR ?_);refine DI (λw hw=>hX▸SQ (oZ.of (l:=l) (lim:=lim) hw 1 2 14 rfl rfl rfl AL) p) ?_;try refine Ed @VB.eq_1 ?_
 intro b7 fZ hf7;refine k0 _ _ (DC [0,1,5,7] λG3 g3=>?_);replace g3:=EK g3;refine Cw λK k0=>Cw λK k1=>?_;refine Df (λ_ _=>True) (λF' L'=>EH F' G3 [0,1,5,7]/\F' 44=θ (Uk X q)/\L'=[.blk b7 62 [ε ζ X.qb,ε ζ X.qo,ε ζ X.qr],.blk b5 62 [ε ζ q.qb,ε ζ q.qo,ε ζ q.qr],.blk b 97 [y0,y1,y2,y3,y4,y5,y6,y7,y8,ty,sz,us,tb,ln,ε ζ lim.qb,ε ζ lim.qo,ε ζ lim.qr,ξ A n c,cp,lg,ms,bt,sv],.row (ξ A n c) 292 4 n (FC l)]) ?_ ?_
 ·unfold Uk;by_cases g1':X.qb<q.qb
  ·refine Cy rfl ?_;have zg:=Bd.mk g3;exact Yc (AO n1' (AO n2' (AO n3' g1')))
  ·by_cases g2':X.qo<q.qo
   ·exact AV5
   ·exact AV5
 intro G4 L' _ hF;obtain⟨zq,AE3,rfl⟩:=hF;have zg:=Bd.mk g3;have g4:=AO (Dy zq) AE3;refine k1 _ _ (C_ ?_);cases hf:Uk X q with
 | true =>
  have ha:KI l p q=(1,l):=by unfold KI;rw[hX,ATv hf]
  replace zg:=Bd.mk g4;refine DU hf ?_;refine Db ?_;refine C8 (EP λw hw=>?_);exact⟨⟨1,A,n,c,l⟩,rfl,ha.symm,hw.tail.tail⟩
 |false =>
 have ha:KI l p q=(0,Wd l p (AE2 X q)):=by unfold KI;rw[hX,ATt (by rw[hf];decide)]
 replace zg:=Bd.mk g4;refine DU hf ?_;refine Cz (k0 _ _ (C9 rfl λK k0=>DU (AO w1 (AO w2 w3)) ?_));refine Dh yD (yE b ⟨y0,y1,y2,y3,y4,y5,y6,y7,y8,ty,sz,us,tb,ln,ε ζ lim.qb,ε ζ lim.qo,ε ζ lim.qr,ξ A n c,cp,lg,ms,bt,sv⟩) _ (λw hw=>gL b ⟨y0,y1,y2,y3,y4,y5,y6,y7,y8,ty,sz,us,tb,ln,ε ζ lim.qb,ε ζ lim.qo,ε ζ lim.qr,ξ A n c,cp,lg,ms,bt,sv⟩ lim A n c l p (AE2 X q) ⟨rfl,rfl,rfl,rfl⟩ hl w hw) ?_;rintro⟨r1,A1,n1,c1,l1⟩ hl1;dsimp only at hl1;subst hl1;refine DU @yD.eq_1 (k0 _ _ ?_);refine Db ?_;refine C8 (EP λw hw=>?_);exact⟨⟨0,A1,n1,c1,_⟩,rfl,ha.symm,hw.sub (Az _ _)⟩
def Qr(b:Nat)(y0 y1 y2 y3 y4 y5 y6 y7 y8 ty sz us tb q0 q1 q2 mt cp lg ms bt sv:Value)(x:M4):List DW:=[.blk b 97 [y0,y1,y2,y3,y4,y5,y6,y7,y8,ty,sz,us,tb,ξ x.A x.n x.c,q0,q1,q2,mt,cp,lg,ms,bt,sv],.row (ξ x.A x.n x.c) 117 4 x.n (EN x.l)]
theorem TK.yH{M W w L b t y0 y1 y2 y3 y4 y5 y6 y7 y8 ty sz us tb q0 q1 q2 mt cp lg ms bt sv A n c l}(hw:St M W L w)i j(hi:nth L i=σ (.blk b t [y0,y1,y2,y3,y4,y5,y6,y7,y8,ty,sz,us,tb,ξ A n c,q0,q1,q2,mt,cp,lg,ms,bt,sv]))(hj:nth L j=σ (.row (ξ A n c) 117 4 n (EN l)))(hl:l.length<=100000):TK w w.heap.size b 13 A n c l:=by
 have hr:=Sl.EJ hw (DN hj);refine⟨Sl.cell1 (by rw[hw.Gd (DN hi)];rfl) (hw.own _ (DN hi) b AUp).2,hr,?_⟩;have:=hr.len;rw[FE]at this;omega
theorem Wj b y0 y1 y2 y3 y4 y5 y6 y7 y8 ty sz us tb q0 q1 q2 mt cp lg ms bt sv x ho(hl:x.l.length<=100000)W(hst:St (DV (Qr b y0 y1 y2 y3 y4 y5 y6 y7 y8 ty sz us tb q0 q1 q2 mt cp lg ms bt sv x)) W (Qr b y0 y1 y2 y3 y4 y5 y6 y7 y8 ty sz us tb q0 q1 q2 mt cp lg ms bt sv x) W):
  Calls AGm 140 #[π (σ ⟨b,13,ν⟩),ε ζ ho] W
  λen w' => ∃y:M4,en=κ (ε ζ (IX x.l ho:Int))/\y.l=(x.l.filter λb => !decide (b.ho=ho))/\St (DV (Qr b y0 y1 y2 y3 y4 y5 y6 y7 y8 ty sz us tb q0 q1 q2 mt cp lg ms bt sv x)) W (Qr b y0 y1 y2 y3 y4 y5 y6 y7 y8 ty sz us tb q0 q1 q2 mt cp lg ms bt sv y) w':=by
 obtain⟨M,hM⟩:∃M,DV (Qr b y0 y1 y2 y3 y4 y5 y6 y7 y8 ty sz us tb q0 q1 q2 mt cp lg ms bt sv x)=M:=⟨_,rfl⟩;rw[hM]at hst ⊢;obtain⟨A,n,c,l⟩:=x;unfold Qr at hst;dsimp only at hst hl ⊢;clear hM;have hlen:l.length=n:=by have:=(Sl.EJ hst (DN (k:=1) rfl)).len;rw[FE]at this;omega
 refine DL (M:=M) Tryz.func140 [.tmp 4]  hst ?_;have zs:=Bd.mk FR;refine DZ ?_;refine C9 rfl λK k0=>DR ?_;refine DI (λw hw=>r_ (TK.yH hw 0 1 rfl rfl hl) ho) ?_;try refine DR ?_
 refine k0 _ _ (DZ ?_);refine Cw λK k0=>DZ ?_;refine DC [0,1,5,6,7] λG1 g1=>?_;replace g1:=EK g1;refine FB 117 4 (DK ?_);refine Dv (λF' L' => ∃(i:Nat)(A1:Option Addr)(n1 c1:Nat),EH F' G1 [0,1,5]/\F' 6=ξ A1 n1 c1/\F' 7=ε ζ (i:Int)/\L'=[.row (ξ A1 n1 c1) 117 4 n1 (EN ((l.take i).filter λb => !decide (b.ho=ho))),.blk b 97 [y0,y1,y2,y3,y4,y5,y6,y7,y8,ty,sz,us,tb,ξ A n c,q0,q1,q2,mt,cp,lg,ms,bt,sv],.row (ξ A n c) 117 4 n (EN l)]/\i<=n) (λF' L'=>200000-(intOf (F' 7)).toNat) ?_ ?_
 ·exact AVG
 intro G2 L' hI;obtain⟨i,A1,n1,c1,zq,Ms,Pg,rfl,hi⟩:=hI;have zg:=Bd.mk g1;have g2:=AO (Dy zq) (AO Ms Pg);refine Cw λK k1=>?_;replace zg:=Bd.mk (AO g1 g2);refine Db ?_;refine Ec (λhc=>?_) λhc=>?_
 ·refine Cz ?_;try simp only[Di,Dq]
  have hit:i<n:=by have:=AT0 ‹decide ((i:Int)<(n:Int))=τ›;omega
  obtain⟨e,he⟩:∃e,l[i]?=σ e:=⟨_,AQ AL⟩;have hld:=K5 FW he;have hfs:=Il he (λb => !decide (b.ho=ho));refine k1 _ _ (F8 0 rfl λhlA=>?_);have hn1:n1<=100000:=by
   rw[FE]at hlA;have h1:((l.take i).filter λb => !decide (b.ho=ho)).length<=(l.take i).length:=Ap _ _;rw[Al]at h1;omega
  refine EL 2 rfl AL λg F7 hg EX=>?_;subst F7;replace hg:=AAM (AO hg EX);clear EX;refine Cw λK k1=>DK (C9 rfl λK k2=>DD ?_);refine DX (Dx (i:=i*4+1) (v:=ε ζ e.ho) (.tail _ (.tail _ (.head _))) rfl (Gi FW he AL)) ?_;refine DD (k2 _ _ ?_);refine C_ ?_;by_cases he1:e.ho=ho
  ·have hof:((l.take (i+1)).filter λb => !decide (b.ho=ho))=((l.take i).filter λb => !decide (b.ho=ho)):=by rw[hfs];simp[he1]
   refine DU he1 ?_;exact AWv
  ·have hof:((l.take (i+1)).filter λb => !decide (b.ho=ho))=((l.take i).filter λb => !decide (b.ho=ho))++[e]:=by rw[hfs];simp[he1]
   refine DU he1 ?_;refine ED [0,2,3] AJ (DJ rfl (DD ?_));refine DX (IJ (i:=i*4) (vs:=oU e) (.tail _ (.tail _ (.head _))) AF hld) ?_;refine DD ?_;simp only[oU,Av,Bf,AT1];refine DD ?_;intro bE Qi Tg;exact AWu
 refine Dr (k0 _ _ ?_);have hin:i=n:=by have:=AUD ‹decide ((i:Int)<(n:Int))=ο›;omega
 subst hin;rw[Aw AL];refine Db ?_;refine Db ?_;refine C8 (EP λw hw=>?_);have h9:=hw.pick (ix:=[1,0]) AJ;simp only[Dl,nth]at h9;exact⟨⟨A1,n1,c1,_⟩,rfl,rfl,h9⟩
theorem gM b y0 y1 y2 y3 y4 y5 y6 y7 y8 ty sz us tb q0 q1 q2 mt cp lg ms bt sv x e(hl:x.l.length<=100000)W(hst:St (DV (Qr b y0 y1 y2 y3 y4 y5 y6 y7 y8 ty sz us tb q0 q1 q2 mt cp lg ms bt sv x)) W (Qr b y0 y1 y2 y3 y4 y5 y6 y7 y8 ty sz us tb q0 q1 q2 mt cp lg ms bt sv x) W):
  Calls AGm 240 #[π (σ ⟨b,13,ν⟩),xw e] W
  λen w' => ∃y:M4,en=κ (.tuple #[])/\(∃P Q,WX e (K6 x.l e.ob e.ho) y.l P Q)/\St (DV (Qr b y0 y1 y2 y3 y4 y5 y6 y7 y8 ty sz us tb q0 q1 q2 mt cp lg ms bt sv x)) W (Qr b y0 y1 y2 y3 y4 y5 y6 y7 y8 ty sz us tb q0 q1 q2 mt cp lg ms bt sv y) w':=by
 obtain⟨M,hM⟩:∃M,DV (Qr b y0 y1 y2 y3 y4 y5 y6 y7 y8 ty sz us tb q0 q1 q2 mt cp lg ms bt sv x)=M:=⟨_,rfl⟩;rw[hM]at hst ⊢;obtain⟨A,n,c,l⟩:=x;unfold Qr at hst;dsimp only at hst hl ⊢;clear hM;obtain⟨l0,hl0⟩:∃l0,K6 l e.ob e.ho=l0:=⟨_,rfl⟩;have AOd:l0.length<=100000:=by
  have h1:(K6 l e.ob e.ho).length<=l.length:=Ap _ _;rw[hl0]at h1;omega
 rw[hl0];refine DL (M:=M) Tryz.func240 []  hst ?_;refine C9 rfl λK k0=>?_;have zs:=Bd.mk FR;refine Ed @xw.eq_1 ?_;intro b3 hb3 hf3;refine k0 _ _ (DC [0,3] λG3 g3=>?_);replace g3:=EK g3;refine Cw λK k0=>?_;refine Df (λ_ _=>True) (λF' L' => ∃(A2:Option Addr)(n2 c2:Nat),F' 0=G3 0/\F' 4=ξ A2 n2 c2/\L'=[.row (ξ A2 n2 c2) 117 4 n2 (EN (l0++[e])),.blk b 97 [y0,y1,y2,y3,y4,y5,y6,y7,y8,ty,sz,us,tb,ξ A n c,q0,q1,q2,mt,cp,lg,ms,bt,sv]]/\n2=l0.length+1) ?_ ?_
 ·refine JU [0] (.rd 0 (.rd 1 (.rd 2 (.rd 3 (.rd 4 (.rd 6 (.more 5 (.act 7 (.act 8 (.rd 9 (.done)))) (.act 7 (.act 5 (.act 8 (.rd 9 (.done)))))))))))) [] ?_;have zg:=Bd.mk g3;refine DD ?_;refine AO ?_ ?_
  ·refine D9 (λA n c=>ξ A n c) (λw hw=>(hl0▸L8 (TK.yH hw 1 2 rfl rfl hl) e.ob e.ho)) ?_;intro A1 n1 c1 hl1 hr1;have hn1:l0.length=n1:=by rw[FE]at hl1;omega
   refine DD ?_;intro bE Qi Tg;refine D6 1 YY rfl (λw hw=>D_ (size:=4) (.head _) rfl hw) rfl AL AL ?_;exact AVd
  ·intro bE Qi Tg;refine D9 (λA n c=>ξ A n c) (λw hw=>(hl0▸L8 (TK.yH hw 2 3 rfl rfl hl) e.ob e.ho)) ?_;intro A1 n1 c1 hl1 hr1;have hn1:l0.length=n1:=by rw[FE]at hl1;omega
   refine DD ?_;refine D6 0 YY rfl (λw hw=>D_ (size:=4) (.tail _ (.head _)) rfl hw) rfl AL AL ?_;exact AVd
 intro G4 L' _ hF;obtain⟨A2,n2,c2,Nk,Qd,rfl,hn2⟩:=hF;have zg:=Bd.mk g3;have g4:=AO (Dy Nk) Qd;refine k0 _ _ (Cw λK k0=>?_);replace zg:=Bd.mk g4;refine Db ?_;refine DC [0,4,5] λG5 g5=>?_;replace g5:=Dy g5;refine EL 0 rfl AL λg F7 hg EX=>?_;subst F7;replace hg:=AAM (AO hg EX);clear EX;refine DK ?_;refine Dv (λF' L' => ∃(k:Nat)(P Q:List Bw),EH F' G5 [0,4]/\F' 5=ε ζ (k:Int)/\L'=[.row (ξ (σ ⟨g,0,ν⟩) n2 c2) 117 4 n2 (EN (P++e::Q)),.blk b 97 [y0,y1,y2,y3,y4,y5,y6,y7,y8,ty,sz,us,tb,ξ A n c,q0,q1,q2,mt,cp,lg,ms,bt,sv]]/\k=P.length/\l0=P++Q∧∀q∈Q,ltB q e=ο) (λF' L'=>(intOf (F' 5)).toNat) ?_ ?_
 ·refine⟨l0.length,l0,[],?_⟩;replace zg:=Bd.mk g5;refine DU (AO hn2 @Af) ?_;exact⟨AT4 (Value.int _) AL,λq hq=>by cases hq⟩
 intro G6 L' hI;obtain⟨k,P,Q,zq,Mq,rfl,⟨hk,hPQ,hQ⟩⟩:=hI;replace zg:=Bd.mk g5;have g6:=AO (Dy zq) Mq;have hPl:P.length+Q.length=l0.length:=by rw[hPQ,Ag]
 refine Cw λK k1=>?_;replace zg:=Bd.mk (AO g5 g6);refine Db ?_;refine Ec (λhc=>?_) λhc=>?_
 case refine_2 =>
  have hk0:P=[]:=Bc (by have:=AUD hc;omega);subst hk0;refine Dr (k0 _ _ (DJ rfl (DD ?_)));refine⟨_,rfl,λw hw=>?_⟩;have h9:=hw.pick (ix:=[1,0]) AJ;simp only[Dl,nth]at h9;exact⟨⟨σ ⟨g,0,ν⟩,n2,c2,_⟩,rfl,⟨[],Q,hPQ,rfl,hQ,λq hq=>by simp at hq⟩,h9⟩
 have hkp:=AT0 hc;rcases fM P with rfl|⟨P',p,rfl⟩
 ·simp at hk;omega
 have hk2:k=P'.length+1:=by simpa using hk
 have ek:IntKind.i64.wrap ((k:Int)-1)=(P'.length:Int):=by rw[DT AL AL];omega
 have hP2:P'.length<n2/\k<n2:=by simp at hPl;omega
 refine Cz (k1 _ _ (Cw λK k1=>DK (Cw λK k2=>Cw λK k3=>?_)));refine Df (λ_ _=>True) (λF' L'=>EH F' G6 [0,4,5]/\F' 61=θ (ltB p e)/\L'=[.row (ξ (σ ⟨g,0,ν⟩) n2 c2) 117 4 n2 (EN ((P'++[p])++e::Q)),.blk b 97 [y0,y1,y2,y3,y4,y5,y6,y7,y8,ty,sz,us,tb,ξ A n c,q0,q1,q2,mt,cp,lg,ms,bt,sv]]) ?_ ?_
 ·have r1:((P'++[p])++e::Q)[P'.length]?=σ p:=fO P' Q p e;have r2:((P'++[p])++e::Q)[k]?=σ e:=by
   have:=oW (P'++[p]) Q e;rwa[<-hk]at this
  have q10:=Gi (k:=0) FW r1 AL;have q11:=Gi (k:=1) FW r1 AL;have q20:=Gi (k:=0) FW r2 AL;have q21:=Gi (k:=1) FW r2 AL;obtain⟨E,hE1⟩:∃E,EN ((P'++[p])++e::Q)=E:=⟨_,rfl⟩;rw[hE1];rw[<-EN,hE1]at q10 q11 q20 q21;refine EB [(τ,0),(τ,1),(τ,2),(τ,3),(τ,4),(τ,5),(τ,6),(τ,7),(τ,8),(τ,9),(τ,10),(τ,11),(τ,12),(τ,13),(τ,14),(τ,15),(τ,16),(τ,17),(τ,18),(τ,19),(τ,20),(τ,21),(τ,22),(τ,23),(τ,24),(τ,25),(τ,26),(τ,27),(τ,28),(τ,29),(τ,30),(τ,31),(τ,32),(τ,33),(τ,34),(τ,35),(τ,36),(τ,37),(τ,38),(τ,39)] [] ?_;refine DU ek ?_;refine DX (Dx (m:=1) (v:=ε ζ p.ob) (i:=P'.length*4+0) (.head _) rfl q10) ?_;refine DU ek ?_;refine DX (Dx (m:=1) (v:=ε ζ e.ob) (i:=k*4+0) (.head _) rfl q20) ?_;refine DU ek ?_;by_cases c1:p.ob<e.ob
  ·refine DU c1 ?_;unfold ltB;simp[c1]
  refine DU (AO c1 ek) ?_;refine DX (Dx (m:=1) (v:=ε ζ p.ob) (i:=P'.length*4+0) (.head _) rfl q10) ?_;refine DU (AO ek c1) ?_;refine DX (Dx (m:=1) (v:=ε ζ e.ob) (i:=k*4+0) (.head _) rfl q20) ?_;refine DU (AO ek c1) ?_;by_cases c2:p.ob=e.ob
  ·have c2':decide (p.ob=e.ob)=τ:=AUB c2;refine DU (AO c1 (AO c2' ek)) ?_;refine DX (Dx (m:=1) (v:=ε ζ p.ho) (i:=P'.length*4+1) (.head _) rfl q11) ?_;refine DU (AO ek (AO c1 c2')) ?_;refine DX (Dx (m:=1) (v:=ε ζ e.ho) (i:=k*4+1) (.head _) rfl q21) ?_;refine DU (AO ek (AO c1 c2')) ?_;unfold ltB;simp[c2]
  refine DU (AO c1 c2) ?_;unfold ltB;simp[c1,c2]
 intro G7 L' _ hF;obtain⟨zq,AE4,rfl⟩:=hF;have g7:=AO (Dy zq) AE4;refine k3 _ _ (C_ ?_);cases hlt:ltB p e with
 | true =>
  replace zg:=Bd.mk (AO g5 (AO g6 g7));refine DU hlt ?_;refine Dr ?_;simp only[Di,Dq];rw[ATt AJ];simp only[ATx];refine k0 _ _ (DJ rfl (DD ?_));refine⟨_,rfl,λw hw=>?_⟩;have h9:=hw.pick (ix:=[1,0]) AJ;simp only[Dl,nth]at h9;exact⟨⟨σ ⟨g,0,ν⟩,n2,c2,_⟩,rfl,⟨P'++[p],Q,hPQ,rfl,hQ,λq hq=>by simp at hq;exact hq▸hlt⟩,h9⟩
 | false =>
  replace zg:=Bd.mk (AO g5 (AO g6 g7));refine DU hlt ?_;refine Cz (k2 _ _ ?_);have r1:((P'++[p])++e::Q)[P'.length]?=σ p:=fO P' Q p e;have r2:((P'++[p])++e::Q)[k]?=σ e:=by
   have:=oW (P'++[p]) Q e;rwa[<-hk]at this
  have q3:=K5 FW r1;have q4:=K5 FW r2;have hQ2:∀q∈p::Q,ltB q e=ο:=λq hq=>by
   rcases AP.1 hq with rfl|hq
   ·exact hlt
   ·exact hQ q hq
  obtain⟨E,hE1⟩:∃E,EN ((P'++[p])++e::Q)=E:=⟨_,rfl⟩;obtain⟨E1,hE2⟩:∃E1,EN (P'++e::e::Q)=E1:=⟨_,rfl⟩;rw[hE1];rw[<-EN,hE1]at q3 q4;have w1:E.take (P'.length*4)++[Value.int ζ e.ob,ε ζ e.ho,ε ζ e.mo,ε ζ e.co]++E.drop (P'.length*4+4)=E1:=by
   have:=xy FW P' (e::Q) p e;rw[show P'++p::e::Q=(P'++[p])++e::Q by simp,<-EN,<-EN,hE1,hE2]at this;exact this
  have w2:E1.take (k*4)++[Value.int ζ p.ob,ε ζ p.ho,ε ζ p.mo,ε ζ p.co]++E1.drop (k*4+4)=EN (P'++e::p::Q):=by
   have:=xy FW (P'++[e]) Q e p;rw[show (P'++[e]).length=k by simp;omega,show (P'++[e])++e::Q=P'++e::e::Q by simp,show (P'++[e])++p::Q=P'++e::p::Q by simp,<-EN,<-EN,hE2]at this;exact this
  have l1:E.length=n2*4:=by rw[<-hE1,FE];simp at hPl ⊢;omega
  have l2:E1.length=n2*4:=by rw[<-hE2,FE];simp at hPl ⊢;omega
  refine K3 (JU [] (.rd 0 (.rd 1 (.rd 2 (.rd 3 (.rd 4 (.rd 5 (.rd 6 (.rd 7 (.rd 9 (.rd 10 (.rd 11 (.rd 12 (.more 8 (.act 13 (.rd 14 (.act 15 (.rd 16 (.act 17 (.done)))))) (.act 13 (.act 8 (.rd 14 (.act 15 (.rd 16 (.act 17 (.done)))))))))))))))))))) [17] ?_);refine DU ek ?_;refine⟨?_,?_⟩
  ·refine DX (IJ (i:=k*4) (vs:=[ε ζ e.ob,ε ζ e.ho,ε ζ e.mo,ε ζ e.co]) (.head _) AF q4) ?_;refine DU ek ?_;refine DX (IJ (i:=P'.length*4) (vs:=[ε ζ p.ob,ε ζ p.ho,ε ζ p.mo,ε ζ p.co]) (.head _) AF q3) ?_;exact AWq
  ·refine DX (IJ (i:=P'.length*4) (vs:=[ε ζ p.ob,ε ζ p.ho,ε ζ p.mo,ε ζ p.co]) (.head _) AF q3) ?_;refine DU ek ?_;refine DX (IJ (i:=k*4) (vs:=[ε ζ e.ob,ε ζ e.ho,ε ζ e.mo,ε ζ e.co]) (.head _) AF q4) ?_;exact AWq
theorem Wl b y0 y1 y2 y3 y4 y5 y6 y7 y8 ty sz us tb q0 q1 q2 mt cp lg ms bt sv x ob(hl:x.l.length<=100000)W(hst:St (DV (Qr b y0 y1 y2 y3 y4 y5 y6 y7 y8 ty sz us tb q0 q1 q2 mt cp lg ms bt sv x)) W (Qr b y0 y1 y2 y3 y4 y5 y6 y7 y8 ty sz us tb q0 q1 q2 mt cp lg ms bt sv x) W):
  Calls AGm 185 #[π (σ ⟨b,13,ν⟩),ε ζ ob] W
  λen w' => ∃i:(Option Addr×Nat×Nat)×M4,en=κ (fP i)/\i.2.l=(x.l.filter λb => !decide (b.ob=ob))/\St (DV (Qr b y0 y1 y2 y3 y4 y5 y6 y7 y8 ty sz us tb q0 q1 q2 mt cp lg ms bt sv x)) W (.row (ξ i.1.1 i.1.2.1 i.1.2.2) 117 4 i.1.2.1 (EN (NT x.l ob))::Qr b y0 y1 y2 y3 y4 y5 y6 y7 y8 ty sz us tb q0 q1 q2 mt cp lg ms bt sv i.2) w':=by
 obtain⟨M,hM⟩:∃M,DV (Qr b y0 y1 y2 y3 y4 y5 y6 y7 y8 ty sz us tb q0 q1 q2 mt cp lg ms bt sv x)=M:=⟨_,rfl⟩;rw[hM]at hst ⊢;obtain⟨A,n,c,l⟩:=x;unfold Qr at hst;dsimp only at hst hl ⊢;clear hM;obtain⟨lo,hlo⟩:∃lo,NT l ob=lo:=⟨_,rfl⟩;have AHN:lo.length<=100000:=by
  have h1:(NT l ob).length<=l.length:=Ap _ _;rw[hlo]at h1;omega
 refine DL (M:=M) Tryz.func185 [.tmp 4]  hst ?_;have zs:=Bd.mk FR;refine DZ ?_;refine C9 rfl λK k0=>DR ?_;refine D9 (λA n c=>ξ A n c) (λw hw=>(hlo▸VL (TK.yH hw 0 1 rfl rfl hl) ob)) ?_;intro A1 n1 c1 hl1 hr1;have hn1:lo.length=n1:=by rw[FE]at hl1;omega
 refine DR (k0 _ _ ?_);refine Cw λK k0=>DZ ?_;refine DC [0,1,5,6] λG8 g8=>?_;replace g8:=EK g8;refine DK ?_;refine Dv (λF' L' => ∃(i:Nat)(A2:Option Addr)(n2 c2:Nat),EH F' G8 [0,1,5]/\F' 6=ε ζ (i:Int)/\L'=[.row (ξ A1 n1 c1) 117 4 n1 (EN lo),.blk b 97 [y0,y1,y2,y3,y4,y5,y6,y7,y8,ty,sz,us,tb,ξ A2 n2 c2,q0,q1,q2,mt,cp,lg,ms,bt,sv],.row (ξ A2 n2 c2) 117 4 n2 (EN (l.filter (Zy l ob i)))]/\i<=n1) (λF' L'=>200000-(intOf (F' 6)).toNat) ?_ ?_
 ·refine⟨0,A,n,c,?_⟩;have:l.filter (Zy l ob 0)=l:=ASj.2 λb _=>by simp[Zy]
  rw[this];have zg:=Bd.mk g8;refine DD ?_;exact Ar _
 intro G9 L' hI;obtain⟨i,A2,n2,c2,zq,Ms,rfl,hi⟩:=hI;have zg:=Bd.mk g8;have g9:=AO (Dy zq) Ms;refine Cw λK k1=>?_;replace zg:=Bd.mk (AO g8 g9);refine Db ?_;refine Ec (λhc=>?_) λhc=>?_
 ·refine Cz ?_;try simp only[Di,Dq]
  have hit:i<n1:=by have:=AT0 ‹decide ((i:Int)<(n1:Int))=τ›;omega
  obtain⟨e,he⟩:∃e,lo[i]?=σ e:=⟨_,AQ AL⟩;have hcl:(l.filter (Zy l ob i)).length<=100000:=AGn (Ap _ _) hl;have hcs:K6 (l.filter (Zy l ob i)) ob e.ho=l.filter (Zy l ob (i+1)):=by
   rw[sG];refine ASp λb _=>?_;unfold Zy fK;rw[hlo,Bi,he];simp only[AUR,AIH,List.any_cons,List.any_nil,AUS];rw[show decide (b.ho=e.ho)=decide (e.ho=b.ho) from AUg.2 ⟨Eq.symm,Eq.symm⟩];cases decide (b.ob=ob)<;>simp
  refine k1 _ _ (EL 0 rfl AL λg F7 hg EX=>?_);subst F7;replace hg:=AAM (AO hg EX);clear EX;refine Cw λK k1=>DK (DJ rfl (DD ?_));refine DX (Dx (i:=i*4+1) (v:=ε ζ e.ho) (.head _) rfl (Gi FW he AL)) ?_;refine DD ?_;refine D9 (λA n c=>ξ A n c) (λw hw=>(hcs▸L8 (TK.yH hw 1 2 rfl rfl hcl) ob e.ho)) ?_;intro A3 n3 c3 hl3 hr3;refine DD (k1 _ _ ?_);refine DY [1,2,0] ?_;refine Cy rfl (DD ?_);refine⟨⟨i+1,A3,n3,c3,?_⟩,?_⟩
  ·exact AU0
  ·exact AXo
 refine Dr (k0 _ _ ?_);have hin:i=n1:=by have:=AUD ‹decide ((i:Int)<(n1:Int))=ο›;omega
 subst hin;have hfin:l.filter (Zy l ob i)=l.filter λb => !decide (b.ob=ob):=by
  refine ASp λb hb=>?_;unfold Zy;rw[hlo,Aw AL,<-hlo];by_cases h:b.ob=ob
  ·have:(NT l ob).any (λo=>decide (o.ho=b.ho))=τ:=AHh.2 ⟨b,Bl.2 ⟨hb,by simpa using h⟩,by simp⟩;rw[this];simp[h]
  ·simp[h]
 rw[hfin];refine Db ?_;refine C8 (EP λw hw=>?_);exact⟨((A1,i,c1),⟨A2,n2,c2,_⟩),rfl,rfl,by rw[hlo];exact hw⟩
theorem aC b y0 y1 y2 y3 y4 y5 y6 y7 y8 ty sz us tb q0 q1 q2 mt cp lg ms bt sv x ob ho(hl:x.l.length<=100000)(hc:∀e∈x.l,0<=e.co/\e.co<=4611686018427387904)W(hst:St (DV (Qr b y0 y1 y2 y3 y4 y5 y6 y7 y8 ty sz us tb q0 q1 q2 mt cp lg ms bt sv x)) W (Qr b y0 y1 y2 y3 y4 y5 y6 y7 y8 ty sz us tb q0 q1 q2 mt cp lg ms bt sv x) W):
  Calls AGm 230 #[π (σ ⟨b,13,ν⟩),ε ζ ob,ε ζ ho] W
  λen w' => ∃i:Int×M4,en=κ (lgV i)/\(Qq x.l ob ho i.1 i.2.l/\(¬i.1=0->i.2.l=x.l))/\St (DV (Qr b y0 y1 y2 y3 y4 y5 y6 y7 y8 ty sz us tb q0 q1 q2 mt cp lg ms bt sv x)) W (Qr b y0 y1 y2 y3 y4 y5 y6 y7 y8 ty sz us tb q0 q1 q2 mt cp lg ms bt sv i.2) w':=by
 obtain⟨M,hM⟩:∃M,DV (Qr b y0 y1 y2 y3 y4 y5 y6 y7 y8 ty sz us tb q0 q1 q2 mt cp lg ms bt sv x)=M:=⟨_,rfl⟩;rw[hM]at hst ⊢;obtain⟨A,n,c,l⟩:=x;unfold Qr at hst;dsimp only at hst hl hc ⊢;clear hM;refine DL (M:=M) Tryz.func230 [.tmp 6]  hst ?_;have zs:=Bd.mk FR;refine DZ ?_;cases hh:holdB l ob ho with
 | none =>
  refine C9 rfl λK k0=>DR ?_;refine DI (λw hw=>Ke (TK.yH hw 0 1 rfl rfl hl) ob ho) ?_;try refine DR ?_
  refine Ed (AO @Ph.eq_1 (AO hh (AO @xw.eq_1 @Xn.eq_1))) ?_;intro b7 fZ hf7;refine k0 _ _ (Cw λK k0=>DZ ?_);refine C_ (DR ?_);refine DZ ?_;refine C8 (Eg λw hw=>?_);exact⟨(13,⟨A,n,c,l⟩),rfl,⟨(by unfold Qq;rw[hh]),λh=>rfl⟩,hw.tail⟩
 | some e =>
  obtain⟨he1,he2,he3⟩:=Pj hh;have hb:=hc e he1;have hwr:=DT (x:=e.co-1) AL AL;refine C9 rfl λK k0=>DR ?_;refine DI (λw hw=>Ke (TK.yH hw 0 1 rfl rfl hl) ob ho) ?_;try refine DR ?_
  refine Ed (AO @Ph.eq_1 (AO hh @xw.eq_1)) ?_;intro b7 fZ hf7;refine k0 _ _ (Cw λK k0=>DZ ?_);refine C_ (DR ?_);refine Cz (k0 _ _ (DC [0,1,2,7] λXo g10=>?_));replace g10:=EK g10;have zg:=Bd.mk g10;refine KU hwr ?_;refine Cw λK k0=>Db ?_;refine C_ ?_;by_cases h0:e.co-1=0
  ·refine DU h0 ?_;refine DJ rfl (DD ?_);refine D9 (λA n c=>ξ A n c) (λw hw=>(L8 (TK.yH hw 1 2 rfl rfl hl) ob ho)) ?_;intro A3 n3 c3 hl3 hr3;refine DD (k0 _ _ ?_);refine Db ?_;refine C8 (EP λw hw=>?_);have h9:=hw.pick (ix:=[2,0]) AJ;simp only[Dl,nth]at h9;exact⟨(0,⟨A3,n3,c3,K6 l ob ho⟩),rfl,⟨(by unfold Qq;rw[hh];exact⟨rfl,by rw[ATv h0]⟩),λh=>absurd rfl h⟩,h9⟩
  ·refine DU h0 ?_;refine DJ rfl (DD ?_);refine Dh ABo (Qr b y0 y1 y2 y3 y4 y5 y6 y7 y8 ty sz us tb q0 q1 q2 mt cp lg ms bt sv) _ (λw hw=>gM b y0 y1 y2 y3 y4 y5 y6 y7 y8 ty sz us tb q0 q1 q2 mt cp lg ms bt sv ⟨A,n,c,l⟩ { e with co:=e.co-1 } hl w hw) ?_;intro y hy;refine DU @ABo.eq_1 (k0 _ _ ?_);refine Db ?_;refine C8 (EP λw hw=>?_);exact⟨(0,y),rfl,⟨(by unfold Qq;rw[hh];exact⟨rfl,by rw[ATt h0];exact hy⟩),λh=>absurd rfl h⟩,hw.sub (Az _ _)⟩
theorem si b y0 y1 y2 y3 y4 y5 y6 y7 y8 ty sz us tb q0 q1 q2 mt cp lg ms bt sv x ob ho mo(hmo:mo=1\/mo=2)(hl:x.l.length<=100000)(hc:∀e∈x.l,0<=e.co/\e.co<=4611686018427387904)W(hst:St (DV (Qr b y0 y1 y2 y3 y4 y5 y6 y7 y8 ty sz us tb q0 q1 q2 mt cp lg ms bt sv x)) W (Qr b y0 y1 y2 y3 y4 y5 y6 y7 y8 ty sz us tb q0 q1 q2 mt cp lg ms bt sv x) W):
  Calls AGm 229 #[π (σ ⟨b,13,ν⟩),ε ζ ob,ε ζ ho,ε ζ mo] W
  λen w' => ∃i:Int×M4,en=κ (lgV i)/\(Oa x.l ob ho mo i.1 i.2.l/\(¬i.1=0->i.2.l=x.l))/\St (DV (Qr b y0 y1 y2 y3 y4 y5 y6 y7 y8 ty sz us tb q0 q1 q2 mt cp lg ms bt sv x)) W (Qr b y0 y1 y2 y3 y4 y5 y6 y7 y8 ty sz us tb q0 q1 q2 mt cp lg ms bt sv i.2) w':=by
 obtain⟨M,hM⟩:∃M,DV (Qr b y0 y1 y2 y3 y4 y5 y6 y7 y8 ty sz us tb q0 q1 q2 mt cp lg ms bt sv x)=M:=⟨_,rfl⟩;rw[hM]at hst ⊢;obtain⟨A,n,c,l⟩:=x;unfold Qr at hst;dsimp only at hst hl hc ⊢;clear hM;obtain⟨lo,hlo⟩:∃lo,NT l ob=lo:=⟨_,rfl⟩;have AHN:lo.length<=100000:=by
  have h1:(NT l ob).length<=l.length:=Ap _ _;rw[hlo]at h1;omega
 have hhc:0<=((holdB l ob ho).getD Xn).co/\((holdB l ob ho).getD Xn).co<=4611686018427387904:=by
  cases hh:holdB l ob ho with
  |none=>simp[Xn]
  |some e=>exact hc e (Pj hh).1
 have hwr:=DT (x:=((holdB l ob ho).getD Xn).co+1) AL AL;have hm1:(mo≠1->mo≠2->False):=by omega
 refine DL (M:=M) Tryz.func229 [.tmp 8]  hst ?_;have zs:=Bd.mk FR;refine DZ ?_;refine DC [0,1,2,3] λbQ g11=>?_;replace g11:=EK g11;refine Cw λK k0=>Cw λK k1=>?_;refine Df (λ_ _=>True) (λF' L'=>EH F' bQ [0,1,2,3]/\F' 17=θ ο/\L'=[.blk b 97 [y0,y1,y2,y3,y4,y5,y6,y7,y8,ty,sz,us,tb,ξ A n c,q0,q1,q2,mt,cp,lg,ms,bt,sv],.row (ξ A n c) 117 4 n (EN l)]) ?_ ?_
 ·rcases hmo with rfl|rfl
  ·refine Cy rfl ?_;have zg:=Bd.mk g11;exact dP
  ·refine Cy rfl ?_;have zg:=Bd.mk g11;exact dP
 intro vM L' _ hF;obtain⟨zq,AE5,rfl⟩:=hF;have zg:=Bd.mk g11;have g12:=AO (Dy zq) AE5;refine k1 _ _ (C_ ?_);replace zg:=Bd.mk g12;refine DD ?_;refine Cz (k0 _ _ (C9 rfl λK k0=>DD ?_));refine D9 (λA n c=>ξ A n c) (λw hw=>(hlo▸VL (TK.yH hw 0 1 rfl rfl hl) ob)) ?_;intro A1 n1 c1 hl1 hr1;have hn1:lo.length=n1:=by rw[FE]at hl1;omega
 refine DD (k0 _ _ ?_);refine DC [0,1,2,3,9] λG13 g13=>?_;replace g13:=Dy g13;refine Cw λK k0=>Cw λK k1=>?_;refine Df (λ_ _=>True) (λF' L'=>EH F' G13 [0,1,2,3]/\F' 34=θ (decide (lo≠[]/\(mo=2\/(lo.head?.map Bw.mo)=σ 2)))/\L'=[.blk b 97 [y0,y1,y2,y3,y4,y5,y6,y7,y8,ty,sz,us,tb,ξ A n c,q0,q1,q2,mt,cp,lg,ms,bt,sv],.row (ξ A n c) 117 4 n (EN l)]) ?_ ?_
 ·refine ED [1,2] AJ ?_;rcases lo with _|⟨e0,lo⟩
  ·simp at hn1;subst hn1;refine DJ rfl ?_;replace zg:=Bd.mk g13;exact dP
  ·simp only[Av]at hn1;have hpos:decide ((0:Int)<(n1:Int))=τ:=AUB AL;refine EL 0 rfl AL λg F7 hg EX=>?_;subst F7;replace hg:=AAM (AO hg EX);clear EX;by_cases hm2:mo=2
   ·have hd2:decide (mo=2)=τ:=AUB hm2;refine DJ rfl ?_;replace zg:=Bd.mk g13;refine DU (AO hpos hd2) ?_;simp[hm2]
   ·refine DJ rfl ?_;replace zg:=Bd.mk g13;refine DU (AO hpos hm2) ?_;refine DX (Dx (m:=1) (i:=0*4+2) (v:=ε ζ e0.mo) (.head _) rfl (Gi FW (l:=e0::lo) (i:=0) rfl AL)) ?_;refine DD ?_;simp[hm2]
 intro G14 L' _ hF;obtain⟨zq,AE6,rfl⟩:=hF;replace zg:=Bd.mk g13;have g14:=AO (Dy zq) AE6;refine k1 _ _ (C_ ?_);by_cases hcd:lo≠[]/\(mo=2\/(lo.head?.map Bw.mo)=σ 2)
 ·have hd:decide (lo≠[]/\(mo=2\/(lo.head?.map Bw.mo)=σ 2))=τ:=AUB hcd;replace zg:=Bd.mk g14;refine DU hd ?_;refine Db ?_;refine C8 (EP λw hw=>?_);exact⟨(14,⟨A,n,c,l⟩),rfl,⟨(by unfold Oa;rw[hlo,ATv hcd]),λh=>rfl⟩,hw⟩
 have hd:decide (lo≠[]/\(mo=2\/(lo.head?.map Bw.mo)=σ 2))=ο:=AUC hcd;replace zg:=Bd.mk g14;refine DU hd ?_;refine Cz (k0 _ _ ?_);obtain⟨e,he⟩:∃e,(holdB l ob ho).getD Xn=e:=⟨_,rfl⟩;rw[he]at hwr;refine C9 rfl λK k0=>DD ?_;refine DI (λw hw=>Ke (TK.yH hw 0 1 rfl rfl hl) ob ho) ?_;try refine DD ?_
 refine DU (AO @Ph.eq_1 (AO he @xw.eq_1)) ?_;intro b10 NG NH;refine k0 _ _ (DC [0,1,2,3,10] λG15 g15=>?_);replace g15:=Dy g15;refine C9 rfl λK k0=>?_;replace zg:=Bd.mk g15;refine DU hwr ?_;refine Dh ABo (Qr b y0 y1 y2 y3 y4 y5 y6 y7 y8 ty sz us tb q0 q1 q2 mt cp lg ms bt sv) _ (λw hw=>gM b y0 y1 y2 y3 y4 y5 y6 y7 y8 ty sz us tb q0 q1 q2 mt cp lg ms bt sv ⟨A,n,c,l⟩ ⟨ob,ho,mo,e.co+1⟩ hl w hw) ?_;intro y hy;refine DU @ABo.eq_1 (k0 _ _ ?_);refine Db ?_;refine C8 (EP λw hw=>?_);exact⟨(0,y),rfl,⟨(by unfold Oa;rw[hlo,ATt hcd,he];exact⟨rfl,hy⟩),λh=>absurd rfl h⟩,hw.sub (Az _ _)⟩
structure Ext where
 off:Int
 len:Int
deriving DecidableEq,Repr
namespace Ext
def end_(e:Ext):Int:=e.off+e.len
def prop(e:Ext):Prop:=0<=e.off/\0<e.len/\e.off+e.len<=1048576
instance (e:Ext):Decidable e.prop:=by unfold prop;exact inferInstance
def Ul(e:Ext):Bool:=decide e.prop
end Ext
namespace Ex
def get(xs:List Ext)(i:Nat):Ext:=xs.getD i ⟨0,0⟩
def sj(xs:List Ext)(i:Nat):Prop:=(get xs i).prop/\(0<i->(get xs (i-1)).end_<(get xs i).off)
instance (xs:List Ext) (i:Nat):Decidable (sj xs i):=by unfold sj;exact inferInstance
def Tp(xs:List Ext)(k:Nat):Prop := ∀i,i<k->sj xs i
def OM(xs:List Ext):Prop:=Tp xs xs.length
def YC(xs:List Ext):Bool:=(Cq xs.length).all λi=>decide (sj xs i)
theorem K_ xs:YC xs=τ↔OM xs:=by simp[YC,OM,Tp]
theorem gP{xs}(h:Tp xs xs.length):YC xs=τ:=(K_ xs).2 h
theorem ou{xs i}(hi:i<xs.length)(h:¬sj xs i):YC xs=ο:=by
 cases hv:YC xs with
 |false=>rfl
 |true=>exact absurd ((K_ xs).1 hv i hi) h
theorem Um{xs k}(h:Tp xs k)(hk:sj xs k):Tp xs (k+1):=λi hi=>by
 rcases ASq i k with h'|h'
 ·exact h i h'
 ·obtain rfl:i=k:=by omega
  exact hk
def Sa(xs:List Ext)(o:Int):Nat->Nat->Nat
 |0,k=>k
 |f+1,k=>if (get xs k).end_<=o then Sa xs o f (k+1) else k
def YD(xs:List Ext)(o:Int):Nat:=Sa xs o xs.length 0
theorem Wm(xs:List Ext)(o:Int)(i:Nat)(hi:i<=xs.length)(h1:∀k,k<i->(get xs k).end_<=o)(h2:i<xs.length->o<(get xs i).end_):
  ∀f k,k+f=xs.length->k<=i->Sa xs o f k=i
 |0,k,h,hk=>by unfold Sa;omega
 | f+1,k,h,hk=>by
  unfold Sa;by_cases hlt:k<i
  ·rw[ATv (h1 k hlt)];exact Wm xs o i hi h1 h2 f (k+1) AL AL
  ·obtain rfl:k=i:=by omega
   rw[ATt (by have:=h2 AL;omega)]
theorem aD{xs o i}(hi:i<=xs.length)(h1:∀k,k<i->(get xs k).end_<=o)(h2:i<xs.length->o<(get xs i).end_):YD xs o=i :=
 Wm xs o i hi h1 h2 _ 0 AL AL
def Og(xs:List Ext)(e:Ext)(i:Nat):Nat×Ext:=if 0<i/\(get xs (i-1)).end_=e.off then (i-1,⟨(get xs (i-1)).off,(get xs (i-1)).len+e.len⟩) else (i,e)
def Nv(xs:List Ext)(e:Ext)(i:Nat):Nat×Ext:=if i<xs.length/\(get xs i).off=e.end_ then (i+1,⟨e.off,e.len+(get xs i).len⟩) else (i,e)
instance (xs:List Ext):Decidable (OM xs):=decidable_of_iff _ (K_ xs)
def J6(xs:List Ext)(e:Ext):List Ext×Int :=
 if ¬OM xs∨¬e.prop then ([],1)
 else if YD xs e.off<xs.length/\(get xs (YD xs e.off)).off<e.end_ then ([],5)
 else (xs.take (Og xs e (YD xs e.off)).1++([(Nv xs (Og xs e (YD xs e.off)).2 (YD xs e.off)).2]++xs.drop (Nv xs (Og xs e (YD xs e.off)).2 (YD xs e.off)).1),0)
end Ex
theorem yI{o l}(a:0<=o)(b:0<l)(c:l<=1048576)(d:o<=1048576-l):Ext.Ul ⟨o,l⟩=τ:=AUB (by unfold Ext.prop;dsimp only;omega)
theorem VO{o l}(h:o<0\/l<=0\/1048576<l\/1048576-l<o):Ext.Ul ⟨o,l⟩=ο:=AUC (by unfold Ext.prop;dsimp only;omega)
theorem Pq o l w(bl1 : -9223372036854775808<=l)(bl2:l<=9223372036854775807):
  Calls AGm 105 #[.agg #[ε ζ o,ε ζ l]] w λe w'=>e=κ (θ (Ext.Ul ⟨o,l⟩))/\Below w.heap.size w w':=by
 by_cases a:0<=o
 ·by_cases b:0<l
  ·by_cases c:o<=1048576
   ·by_cases d:l<=1048576-o
    ·rw[yI a b AL AL]
     go_enter Tryz.func105,Tryz.ntmps105
     go_wp2
     go_ret
     exact⟨rfl,(Below.refl _ _).alloc (Ay _) _⟩
    ·rw[VO AL]
     go_enter Tryz.func105,Tryz.ntmps105
     go_wp2
     go_ret
     exact⟨rfl,(Below.refl _ _).alloc (Ay _) _⟩
   ·rw[VO AL]
    go_enter Tryz.func105,Tryz.ntmps105
    go_wp2
    go_ret
    exact⟨rfl,(Below.refl _ _).alloc (Ay _) _⟩
  ·rw[VO AL]
   go_enter Tryz.func105,Tryz.ntmps105
   go_wp2
   go_ret
   exact⟨rfl,(Below.refl _ _).alloc (Ay _) _⟩
 ·rw[VO AL]
  go_enter Tryz.func105,Tryz.ntmps105
  go_wp2
  go_ret
  exact⟨rfl,(Below.refl _ _).alloc (Ay _) _⟩
theorem Ps(x:Ext)w(h:x.prop):Calls AGm 105 #[.agg #[ε ζ x.off,ε ζ x.len]] w λe w'=>e=κ (θ τ)/\Below w.heap.size w w':=by
 have:=Pq x.off x.len w (by have:=h.2.1;omega) (by have:=h.2.2;have:=h.1;omega);rwa[show Ext.Ul ⟨x.off,x.len⟩=τ from AUB h]at this
theorem lL(x:Ext)w(b1 : -9223372036854775808<=x.len)(b2:x.len<=9223372036854775807)(h:¬x.prop):Calls AGm 105 #[.agg #[ε ζ x.off,ε ζ x.len]] w λe w'=>e=κ (θ ο)/\Below w.heap.size w w':=by
 have:=Pq x.off x.len w b1 b2;rwa[show Ext.Ul ⟨x.off,x.len⟩=ο from AUC h]at this
structure Gb(w:World)(B:Nat)(A:Option Addr)(n c:Nat)(xs:List Ext):Prop where
 len:xs.length=n
 cap:n<=c
 max:c<=9223372036854775807
 cells:0<n→∃b off,A=σ ⟨b,off,ν⟩/\b<B∧∀i,i<n->w.cell? ⟨b,off+i*2,ν⟩=σ (ε ζ (Ex.get xs i).off)/\w.cell? ⟨b,off+i*2+1,ν⟩=σ (ε ζ (Ex.get xs i).len)
theorem Gb.below{w w' B n c A xs}(h:Gb w B A n c xs)(hb:Below B w w'):Gb w' B A n c xs :=
 ⟨h.len,h.cap,h.max,λhn=>by
  obtain⟨b,off,e,hB,hc⟩:=h.cells hn;exact⟨b,off,e,hB,λi hi=>⟨((vg hb).1 _ _ hB).trans (hc i hi).1,((vg hb).1 _ _ hB).trans (hc i hi).2⟩⟩⟩
theorem Gb.more{w B B' n c A xs}(h:Gb w B A n c xs)(hB:B<=B'):Gb w B' A n c xs :=
 ⟨h.len,h.cap,h.max,λhn=>by
  obtain⟨b,off,e,hb,hc⟩:=h.cells hn;exact⟨b,off,e,by omega,hc⟩⟩
theorem Gb.at_{w B n c b off A xs}(h:Gb w B A n c xs)(hA:A=σ ⟨b,off,ν⟩){i}(hi:i<n):
  w.cell? ⟨b,off+i*2,ν⟩=σ (ε ζ (Ex.get xs i).off)/\w.cell? ⟨b,off+i*2+1,ν⟩=σ (ε ζ (Ex.get xs i).len):=by
 obtain⟨b',off',e,_,hc⟩:=h.cells AL;rw[hA]at e;cases e;exact hc i hi
theorem JV{w w' a v}(h:w.cell? a=σ v)(hb:Below w.heap.size w w'):w'.cell? a=σ v:=(hb.cell (World.block_lt_of_cell? w a h)).trans h
theorem Sb{n W w w'}(h:Below n W w)(hn:n<=W.heap.size)(hb:Below w.heap.size w w'):Below n W w':=h.trans (hb.mono (AGn hn h.size))
def hit(x:Ext)(o:Int):Prop:=x.off<=o/\IntKind.i64.wrap (o-x.off)<x.len
instance (x:Ext) (o:Int):Decidable (hit x o):=by unfold hit;exact inferInstance
def Aft(xs:List Ext)(o:Int)(i:Nat):Prop:=i<=xs.length/\(∀k,k<i->(Ex.get xs k).end_<=o)∧∀k,i<=k->k<xs.length->o<(Ex.get xs k).end_
theorem gQ{xs:List Ext}(h:Ex.OM xs):∀d k,k+d<xs.length->(Ex.get xs k).end_<=(Ex.get xs (k+d)).end_
 |0,_,_=>B_ _
 | d+1,k,hd=>by
  have h1:=gQ h d k AL;have h2:=(h (k+d+1) AL).2 AL;have h3:=(h (k+d+1) AL).1;rw[show k+d+1-1=k+d from rfl]at h2;unfold Ext.prop at h3;unfold Ext.end_ at *;rw[show k+(d+1)=k+d+1 from rfl];omega
theorem ADz{xs}(h:Ex.OM xs){j k}(hj:j<=k)(hk:k<xs.length):(Ex.get xs j).end_<=(Ex.get xs k).end_:=by
 obtain⟨d,rfl⟩:=Nat.le.dest hj;exact gQ h d j hk
def Eb(xs:List Ext):List Value:=xs.flatMap λe=>[ε ζ e.off,ε ζ e.len]
theorem M5 xs:(Eb xs).length=xs.length*2:=by
 induction xs with
 |nil=>rfl
 |cons x xs ih=>simp[Eb]at ih ⊢;omega
theorem I1 xs x:Eb (xs++[x])=Eb xs++[ε ζ x.off,ε ζ x.len]:=by simp[Eb]
theorem Io:∀(xs:List Ext) (i:Nat),i<xs.length->(Eb xs)[i*2]?=σ (ε ζ (Ex.get xs i).off)/\(Eb xs)[i*2+1]?=σ (ε ζ (Ex.get xs i).len)
 |[],i,h=>by simp at h
 |x::xs,0,_=>by simp[Eb,Ex.get]
 | x::xs,i+1,h=>by
  have:=Io xs i AVU;have e1:(i+1)*2=i*2+1+1:=by omega
  rw[e1];simpa [Eb,Ex.get]using this
theorem Gb.JA{w base n c A xs}(h:w.ownsRow base 37 2 (ξ A n c) n (Eb xs)):Gb w w.heap.size A n c xs:=by
 have hl:xs.length=n:=by have:=h.1;rw[M5]at this;omega
 rcases h.2 with⟨hv,hn⟩|⟨g,cap,cur,hv,hb,hg,hnc,hcm,hsz,htk⟩
 ·cases hv;exact⟨hl,by omega,by omega,λh=>by omega⟩
 ·cases hv;refine⟨hl,hnc,hcm,λhn=>⟨g,0,rfl,h.lt g rfl |>.2,λi hi=>?_⟩⟩;have hc:=Io xs i AL;have e1:(⟨g,0,ν⟩:Addr).add (i*2)=⟨g,i*2,ν⟩:=by unfold Addr.add;split<;>simp_all
  have e2:(⟨g,0,ν⟩:Addr).add (i*2+1)=⟨g,i*2+1,ν⟩:=by unfold Addr.add;split<;>simp_all
  have h1:=h.cells (g:=g) rfl _ _ hc.1;have h2:=h.cells (g:=g) rfl _ _ hc.2;rw[e1]at h1;rw[e2]at h2;simpa using⟨h1,h2⟩
theorem Gb.reads{w B n c A xs}(h:Gb w B A n c xs):Reads w B 2 A n (Eb xs) :=
 ⟨by rw[M5,h.len],λhn=>by
  obtain⟨b,off,e,hB,hc⟩:=h.cells hn;refine⟨_,e,hB,λj u hu=>?_⟩;have hj:j<n*2:=by
   have:=(Ab.1 hu).1;rw[M5,h.len]at this;omega
  have e1:∀i,(⟨b,off,ν⟩:Addr).add i=⟨b,off+i,ν⟩:=λi=>by unfold Addr.add;split<;>simp_all
  rw[e1];have hd:=Io xs (j / 2) (by have:=h.len;omega);have hcc:=hc (j / 2) AL;rcases Nat.mod_two_eq_zero_or_one j with h0|h1
  ·have e2:j / 2*2=j:=by omega
   rw[e2]at hd hcc;rw[hcc.1,<-hu,hd.1]
  ·have e2:j / 2*2+1=j:=by omega
   rw[Cn,e2]at hcc;rw[e2]at hd;rw[hcc.2,<-hu,hd.2]⟩
section
variable{W w:World}{L:List DW}{n c:Nat}{A:Option Addr}{xs:List Ext}
theorem Gb.at(h:Gb W W.heap.size A n c xs)(hw:St [] W L w):Gb w w.heap.size A n c xs:=(h.below hw.below).more hw.ES.size
def su(e:Ext):Value:=.agg #[ε ζ e.off,ε ζ e.len]
theorem Gb.ld{b off i}(h:Gb W W.heap.size (σ ⟨b,off,ν⟩) n c xs)(hi:i<n):LD AGm [] W L 37 ⟨b,off+i*2,ν⟩ (.agg #[ε ζ (Ex.get xs i).off,ε ζ (Ex.get xs i).len]):=λw hw=>by
 obtain⟨b',off',e,hb,hc⟩:=h.cells AL;cases e;obtain⟨h1,h2⟩:=hc i hi;refine KT (P:=AGm) (m:=2) AF [ε ζ (Ex.get xs i).off,ε ζ (Ex.get xs i).len] rfl λj v hv=>?_;rw[Addr.add_lit,hw.Jh hb AUq]
 match j,hv with
 |0,hv=>cases hv;exact h1
 |1,hv=>cases hv;exact h2
theorem Gb.ld0{b off i}(h:Gb W W.heap.size (σ ⟨b,off,ν⟩) n c xs)(hi:i<n):LD AGm [] W L 3 ⟨b,off+i*2,ν⟩ (ε ζ (Ex.get xs i).off):=λw hw=>by
 obtain⟨b',off',e,hb,hc⟩:=h.cells AL;cases e;exact Hy (P:=AGm) (m:=1) AF ((hw.Jh hb AUq).trans (hc i hi).1)
theorem Gb.ld1{b off i}(h:Gb W W.heap.size (σ ⟨b,off,ν⟩) n c xs)(hi:i<n):LD AGm [] W L 3 ⟨b,off+i*2+1,ν⟩ (ε ζ (Ex.get xs i).len):=λw hw=>by
 obtain⟨b',off',e,hb,hc⟩:=h.cells AL;cases e;exact Hy (P:=AGm) (m:=1) AF ((hw.Jh hb AUq).trans (hc i hi).2)
end
theorem yJ{xs k i}(h:i<k):Ex.get (xs.take k) i=Ex.get xs i:=by
 unfold Ex.get;rw[BP,BP,Bu,ATv h]
theorem yK{xs k i} : Ex.get (xs.drop k) i=Ex.get xs (k+i):=by
 unfold Ex.get;rw[BP,BP,ASG]
theorem Gb.take{w B n c A xs}(h:Gb w B A n c xs){k}(hk:k<=n):Gb w B A k c (xs.take k) :=
 ⟨by rw[Al,h.len];omega,by have:=h.cap;omega,h.max,λhn=>by
  obtain⟨b,off,e,hb,hc⟩:=h.cells AL;exact⟨b,off,e,hb,λi hi=>by rw[yJ hi];exact hc i AL⟩⟩
theorem Gb.drop{w B n c A xs}(h:Gb w B A n c xs){k}(hk:k<=n):Gb w B (IV c k 2 A) (n-k) (c-k) (xs.drop k) :=
 ⟨by rw[CR,h.len],by have:=h.cap;omega,by have:=h.max;omega,λhn=>by
  obtain⟨b,off,e,hb,hc⟩:=h.cells AL;have:=h.cap;refine⟨b,off+k*2,by rw[e,Vd AL,Addr.add_lit],hb,λi hi=>?_⟩;rw[yK];have e1:off+k*2+i*2=off+(k+i)*2:=by omega
  rw[e1];exact hc (k+i) AL⟩
theorem Gb.wM{M W w L b t e}(hw:St M W L w)(hm:DW.blk b t [ε ζ e.off,ε ζ e.len]∈L):Gb w w.heap.size (σ ⟨b,0,ν⟩) 1 1 [e] :=
 ⟨rfl,Ay _,by omega,λ_=>⟨_,_,rfl,(hw.own _ hm b AUp).2,λi hi=>by
  obtain rfl:i=0:=by omega
  exact⟨(hw.Gd hm 0).trans rfl,(hw.Gd hm 1).trans rfl⟩⟩⟩
theorem tC(e:Ext):e.Ul=τ↔0<=e.off/\0<e.len/\e.off+e.len<=1048576:=AUh
theorem L_ l:ones (Eb l)=τ:=by
 unfold ones Eb;simp[List.all_flatMap,Value.oneCell']
def aF(T:TypeId)(size:Nat)(f:Value->Value)(xs:List Value)(w:World)(e:Ending)(w':World):Prop :=
 ∃A n c,e=κ (f (ξ A n c))/\w'.ownsRow w.heap.size T size (ξ A n c) n xs/\Below w.heap.size w w'
def Oh(b:Nat)(e:Ext):DW:=.blk b 37 [ε ζ e.off,ε ζ e.len]
theorem yL{xs e e1 i f1}(hi:i<=xs.length)(hv:Ex.OM xs)(hp:e.prop)(h:Ex.Og xs e i=(f1,e1)):e1.prop/\f1<=i:=by
 unfold Ex.Og at h;split at h
 ·rename_i hc;have hx:=(hv (i-1) AL).1;exact AVr
 ·obtain⟨rfl,rfl⟩:=Bq h;exact⟨hp,Ay _⟩
theorem yM{xs e1 e2 i l2}(hi:i<=xs.length)(h:Ex.Nv xs e1 i=(l2,e2)):i<=l2/\l2<=xs.length:=by
 unfold Ex.Nv at h;split at h
 ·rename_i hc;obtain⟨rfl,rfl⟩:=Bq h;omega
 ·obtain⟨rfl,rfl⟩:=Bq h;omega
def AE7:=@Oh.eq_1
theorem Gb.EJ{M W w L A n c xs}(hw:St M W L w)(hm:DW.row (ξ A n c) 37 2 n (Eb xs)∈L):Gb w w.heap.size A n c xs:=Gb.JA (hw.holds _ hm)
namespace Ex
def J7(x e:Ext):List Ext:=(if x.off<e.off then [⟨x.off,e.off-x.off⟩] else [])++(if e.end_<x.end_ then [⟨e.end_,x.end_-e.end_⟩] else [])
def yN(xs:List Ext)(e:Ext)(i:Nat):Prop:=i=xs.length\/e.off<(get xs i).off\/(get xs i).end_<e.end_
instance (xs:List Ext) (e:Ext) (i:Nat):Decidable (yN xs e i):=by unfold yN;exact inferInstance
def aG(xs:List Ext)(e:Ext):List Ext×Int :=
 if ¬OM xs∨¬e.prop then ([],1)
 else if yN xs e (YD xs e.off) then ([],6)
 else (xs.take (YD xs e.off)++(J7 (get xs (YD xs e.off)) e++xs.drop (YD xs e.off+1)),0)
end Ex
theorem IY{xs}(h:Ex.OM xs){j k}(hj:j<k)(hk:k<xs.length):(Ex.get xs j).end_<(Ex.get xs k).off:=by
 have h1:=ADz h (show j<=k-1 by omega) AL;have h2:=(h k hk).2 AL;omega
theorem FM{xs}(h:Ex.OM xs){k}(hk:k<xs.length):0<=(Ex.get xs k).off/\0<(Ex.get xs k).len/\(Ex.get xs k).off+(Ex.get xs k).len<=1048576:=(h k hk).1
def Ex.iL(xs:List Ext)(f1 k:Nat):List Ext:=xs.take (min k f1)
def Ex.iR(xs:List Ext)(l2 k:Nat):List Ext:=(xs.take k).drop l2
def Ex.iE(e e1 e2:Ext)(f1 i k:Nat):Ext:=if k<=f1 then e else if k<=i then e1 else e2
theorem tF{xs e1 e2 i l2}(hv:Ex.OM xs)(hp:e1.prop)(h:Ex.Nv xs e1 i=(l2,e2)):e2.prop:=by
 unfold Ex.Nv at h;split at h
 ·rename_i hc;have hx:=FM hv hc.1;exact AVr
 ·obtain⟨rfl,rfl⟩:=Bq h;exact hp
theorem AB3{e e1 e2 f1 i k}(h:e.prop)(h1:e1.prop)(h2:e2.prop):(Ex.iE e e1 e2 f1 i k).prop:=by
 unfold Ex.iE;split
 ·exact h
 ·split
  ·exact h1
  ·exact h2
theorem Wn{xs k}(hk:k<xs.length):xs.take (k+1)=xs.take k++[Ex.get xs k]:=by
 rw[Bi];simp[Ex.get,hk]
theorem VP{xs f1 k}(h:f1<=k):Ex.iL xs f1 (k+1)=Ex.iL xs f1 k:=by
 unfold Ex.iL;rw[AUM h,AUM AL]
theorem AE8{xs f1 k}(hk:k<xs.length)(h:k<f1):Ex.iL xs f1 (k+1)=Ex.iL xs f1 k++[Ex.get xs k]:=by
 unfold Ex.iL;rw[CW AL,CW AL,Wn hk]
theorem Q_{xs l2 k}(h:k<=l2):Ex.iR xs l2 k=[]:=by
 unfold Ex.iR;rw[List.drop_eq_nil_iff,Al];omega
theorem yO{xs l2 k}(hk:k<xs.length)(h:l2<=k):Ex.iR xs l2 (k+1)=Ex.iR xs l2 k++[Ex.get xs k]:=by
 unfold Ex.iR;rw[Wn hk,List.drop_append_of_le_length (by rw[Al];omega)]
inductive AB4(xs:List Ext)(e e1 e2:Ext)(f1 l2 i k:Nat):Prop
 |left (a:(Ex.get xs k).end_=(Ex.iE e e1 e2 f1 i k).off) (b:Ex.iE e e1 e2 f1 i (k+1)=⟨(Ex.get xs k).off,(Ex.get xs k).len+(Ex.iE e e1 e2 f1 i k).len⟩) (c:Ex.iL xs f1 (k+1)=Ex.iL xs f1 k) (d:Ex.iR xs l2 (k+1)=Ex.iR xs l2 k)
 |right (a:(Ex.get xs k).end_≠(Ex.iE e e1 e2 f1 i k).off) (a2:(Ex.iE e e1 e2 f1 i k).end_=(Ex.get xs k).off) (b:Ex.iE e e1 e2 f1 i (k+1)=⟨(Ex.iE e e1 e2 f1 i k).off,(Ex.iE e e1 e2 f1 i k).len+(Ex.get xs k).len⟩) (c:Ex.iL xs f1 (k+1)=Ex.iL xs f1 k) (d:Ex.iR xs l2 (k+1)=Ex.iR xs l2 k)
 |low (a:(Ex.get xs k).end_≠(Ex.iE e e1 e2 f1 i k).off) (a2:(Ex.iE e e1 e2 f1 i k).end_≠(Ex.get xs k).off) (a3:(Ex.get xs k).off<(Ex.iE e e1 e2 f1 i k).off) (b:Ex.iE e e1 e2 f1 i (k+1)=Ex.iE e e1 e2 f1 i k) (c:Ex.iL xs f1 (k+1)=Ex.iL xs f1 k++[Ex.get xs k]) (d:Ex.iR xs l2 (k+1)=Ex.iR xs l2 k)
 |high (a:(Ex.get xs k).end_≠(Ex.iE e e1 e2 f1 i k).off) (a2:(Ex.iE e e1 e2 f1 i k).end_≠(Ex.get xs k).off) (a3:¬(Ex.get xs k).off<(Ex.iE e e1 e2 f1 i k).off) (b:Ex.iE e e1 e2 f1 i (k+1)=Ex.iE e e1 e2 f1 i k) (c:Ex.iL xs f1 (k+1)=Ex.iL xs f1 k) (d:Ex.iR xs l2 (k+1)=Ex.iR xs l2 k++[Ex.get xs k])
theorem yP{xs e e1 e2 i f1 l2}(hv:Ex.OM xs)(hp:e.prop)(hA:Aft xs e.off i)(hno:¬(i<xs.length/\(Ex.get xs i).off<e.end_))(hL:Ex.Og xs e i=(f1,e1))(hR:Ex.Nv xs e1 i=(l2,e2)){k}(hk:k<xs.length):
  AB4 xs e e1 e2 f1 l2 i k:=by
 obtain⟨hi,hlo,hhi⟩:=hA;have hxk:=FM hv hk;have hpe:0<=e.off/\0<e.len/\e.off+e.len<=1048576:=hp;have vQ:(f1=i/\e1=e∧¬(0<i/\(Ex.get xs (i-1)).end_=e.off))\/(f1+1=i/\(Ex.get xs f1).end_=e.off/\e1=⟨(Ex.get xs f1).off,(Ex.get xs f1).len+e.len⟩):=by
  unfold Ex.Og at hL;split at hL
  ·rename_i hc;obtain⟨rfl,rfl⟩:=Bq hL;exact .inr ⟨by omega,hc.2,rfl⟩
  ·rename_i hc;obtain⟨rfl,rfl⟩:=Bq hL;exact .inl ⟨rfl,rfl,hc⟩
 have yQ:(l2=i/\e2=e1∧¬(i<xs.length/\(Ex.get xs i).off=e1.end_))\/(l2=i+1/\i<xs.length/\(Ex.get xs i).off=e1.end_/\e2=⟨e1.off,e1.len+(Ex.get xs i).len⟩):=by
  unfold Ex.Nv at hR;split at hR
  ·rename_i hc;obtain⟨rfl,rfl⟩:=Bq hR;exact .inr ⟨rfl,hc.1,hc.2,rfl⟩
  ·rename_i hc;obtain⟨rfl,rfl⟩:=Bq hR;exact .inl ⟨rfl,rfl,hc⟩
 have he1:e1.off<=e.off/\e1.off+e1.len=e.off+e.len:=by
  rcases vQ with⟨_,rfl,_⟩|⟨h1,h2,rfl⟩
  ·exact⟨B_ _,rfl⟩
  ·have:=FM hv (show f1<xs.length by omega);unfold Ext.end_ at h2;exact AWx
 have hend:(Ex.get xs k).end_=(Ex.get xs k).off+(Ex.get xs k).len:=rfl;by_cases h1:k<f1
 ·have hE:Ex.iE e e1 e2 f1 i k=e:=ATv AL;have hE':Ex.iE e e1 e2 f1 i (k+1)=e:=ATv AL;have hki:k<i:=by rcases vQ with⟨h,_⟩|⟨h,_⟩<;>omega
  have hle:=hlo k hki;have hne:(Ex.get xs k).end_≠e.off:=by
   rcases vQ with⟨h,_,hc⟩|⟨h,hc,_⟩
   ·intro hq;by_cases hk1:k=i-1
    ·subst hk1;exact hc ⟨by omega,hq⟩
    ·have g1:=IY hv (show k<i-1 by omega) AL;have g2:=hlo (i-1) AL;have g3:=FM hv (show i-1<xs.length by omega);have:(Ex.get xs (i-1)).end_=(Ex.get xs (i-1)).off+(Ex.get xs (i-1)).len:=rfl;omega
   ·intro hq;have g1:=IY hv h1 AL;have g3:=FM hv (show f1<xs.length by omega);have:(Ex.get xs f1).end_=(Ex.get xs f1).off+(Ex.get xs f1).len:=rfl;omega
  have MZ:e.end_=e.off+e.len:=rfl;refine .low ?_ ?_ ?_ ?_ (AE8 hk h1) AWL<;>simp only[hE,hE']
  ·exact hne
  ·omega
  ·omega
 ·by_cases h2:k<i
  ·have hf:k=f1/\(Ex.get xs f1).end_=e.off/\e1=⟨(Ex.get xs f1).off,(Ex.get xs f1).len+e.len⟩:=by
    rcases vQ with⟨h,_⟩|⟨h,h3,h4⟩
    ·omega
    ·exact⟨by omega,h3,h4⟩
   obtain⟨rfl,h3,h4⟩:=hf;have hE:Ex.iE e e1 e2 k i k=e:=ATv AL;have hE':Ex.iE e e1 e2 k i (k+1)=e1:=by unfold Ex.iE;rw[ATt AL,ATv AL]
   refine .left ?_ ?_ (VP AL) AWL<;>simp only[hE,hE']
   ·exact h3
   ·exact h4
  ·
   have hf1:f1<=i:=by rcases vQ with⟨h,_⟩|⟨h,_⟩<;>omega
   have hgt:=hhi k AL hk;have hEe:k=i->Ex.iE e e1 e2 f1 i k=e1:=λhki=>by
    subst hki;unfold Ex.iE;rcases vQ with⟨h,h',_⟩|⟨h,_⟩
    ·rw[ATv AL,h']
    ·rw[ATt AL,ATv AL]
   have hE2:k≠i->Ex.iE e e1 e2 f1 i k=e2:=λhki=>by
    unfold Ex.iE;rw[ATt AL,ATt AL]
   have hE':Ex.iE e e1 e2 f1 i (k+1)=e2:=by
    unfold Ex.iE;rw[ATt AL,ATt AL]
   by_cases hki:k=i
   ·have hE:=hEe hki;subst hki;have hov:e.end_<=(Ex.get xs k).off:=by
     have:¬(Ex.get xs k).off<e.end_:=λh=>hno ⟨hk,h⟩;omega
    have MZ:e.end_=e.off+e.len:=rfl;have AKE:e1.end_=e1.off+e1.len:=rfl;rcases yQ with⟨h,h',hc⟩|⟨h,_,hc,h'⟩
    ·refine .high ?_ ?_ ?_ ?_ (VP hf1) (yO hk AL)<;>simp only[hE,hE']
     ·omega
     ·intro hq;exact hc ⟨hk,hq.symm⟩
     ·omega
     ·exact h'
    ·refine .right ?_ ?_ ?_ (VP hf1) (by rw[Q_,Q_]<;>omega)<;>simp only[hE,hE']
     ·omega
     ·exact hc.symm
     ·exact h'
   ·have hE:=hE2 hki;have g1:=IY hv (show i<k by omega) hk;have g2:=FM hv (show i<xs.length by omega);have g3:(Ex.get xs i).end_=(Ex.get xs i).off+(Ex.get xs i).len:=rfl;have hov:e.end_<=(Ex.get xs i).off:=by
     have:¬(Ex.get xs i).off<e.end_:=λh=>hno ⟨by omega,h⟩;omega
    have MZ:e.end_=e.off+e.len:=rfl;have AKE:e1.end_=e1.off+e1.len:=rfl;have AOf:e2.end_=e2.off+e2.len:=rfl;have he2:e2.off=e1.off/\e2.off+e2.len<=(Ex.get xs i).end_:=by
     rcases yQ with⟨h,h',hc⟩|⟨h,_,hc,h'⟩
     ·subst h';exact⟨rfl,by omega⟩
     ·subst h';exact⟨rfl,by dsimp only;omega⟩
    refine .high ?_ ?_ ?_ ?_ (VP AL) (yO hk (by rcases yQ with⟨h,_⟩|⟨h,_⟩<;>omega))<;>simp only[hE,hE']
    ·omega
    ·omega
    ·omega
theorem aH{xs}(hv:Ex.OM xs)o:∃i,Aft xs o i:=by
 suffices h:∀d i,i+d=xs.length->(∀k,k<i->(Ex.get xs k).end_<=o)→∃i,Aft xs o i from h xs.length 0 AL (λk hk=>by omega)
 intro d
 induction d with
 |zero=>exact λi hi h=>⟨i,by omega,h,λk h1 h2=>by omega⟩
 | succ d ih =>
  intro i hi h;by_cases hc:o<(Ex.get xs i).end_
  ·exact⟨i,by omega,h,λk h1 h2=>by have:=ADz hv h1 h2;omega⟩
  ·exact ih (i+1) AL (λk hk=>by
    by_cases hki:k=i
    ·subst hki;omega
    ·exact h k AL)
theorem yR{xs}{e:Ext}{i}(hv:Ex.OM xs)(hA:Aft xs e.off i){k}(hk:k<xs.length)(h:(Ex.get xs k).off<e.end_/\e.off<(Ex.get xs k).end_):i<xs.length/\(Ex.get xs i).off<e.end_:=by
 obtain⟨hi,hlo,hhi⟩:=hA;by_cases hki:k<i
 ·have:=hlo k hki;omega
 ·refine⟨by omega,?_⟩;by_cases hq:k=i
  ·subst hq;exact h.1
  ·have g1:=IY hv (show i<k by omega) hk;have g2:=FM hv (show i<xs.length by omega);have g3:(Ex.get xs i).end_=(Ex.get xs i).off+(Ex.get xs i).len:=rfl;omega
namespace Ex
def lN(xs:List Ext):Nat->Int
 |0=>0
 |k+1=>(get xs k).end_
def gT(xs:List Ext)(k:Nat):List Ext:=if lN xs k<(get xs k).off then [⟨lN xs k,(get xs k).off-lN xs k⟩] else []
def cOut(xs:List Ext)(k:Nat):List Ext:=(Cq k).flatMap (gT xs)
theorem Ny xs k:cOut xs (k+1)=cOut xs k++gT xs k:=by simp[cOut,ASz]
def yS(xs:List Ext)(s:Int):Bool := !YC xs||decide (s<0)||decide (1048576<s)||(decide (0<xs.length)&&decide (s<(get xs (xs.length-1)).end_))
def JL(xs:List Ext)(s:Int):List Ext×Int:=if yS xs s then ([],1) else (cOut (xs++[⟨s,0⟩]) (xs.length+1),0)
theorem oz{xs ys i}(h:i<xs.length):get (xs++ys) i=get xs i:=by
 unfold get;rw[BP,BP,ASd h]
theorem yT xs x:get (xs++[x]) xs.length=x:=by
 unfold get;rw[BP];simp
theorem o6{xs ys k}(h:k<=xs.length):lN (xs++ys) k=lN xs k:=by
 cases k with
 |zero=>rfl
 |succ k=>show (get (xs++ys) k).end_=(get xs k).end_;rw[oz AL]
theorem gU{xs ys:List Ext} : ∀ {k:Nat},k<=xs.length->cOut (xs++ys) k=cOut xs k
 |0,_=>rfl
 |k+1,h=>by rw[Ny,Ny,gU AL];unfold gT;rw[o6 AL,oz AL]
theorem yU{xs}(hv:OM xs){k}(hk:k<=xs.length):0<=lN xs k/\lN xs k<=1048576:=by
 cases k with
 |zero=>exact⟨B_ 0,show (0:Int)<=1048576 by omega⟩
 | succ k =>
  have:0<=(get xs k).off/\0<(get xs k).len/\(get xs k).off+(get xs k).len<=1048576:=(hv k AL).1;show 0<=(get xs k).off+(get xs k).len/\(get xs k).off+(get xs k).len<=1048576;omega
end Ex
def AE9:=@Oh.eq_1
theorem Wo A n c xs w(hE:Gb w w.heap.size A n c xs)(hR:Hid (∀i,i<n → -9223372036854775808<=(Ex.get xs i).len/\(Ex.get xs i).len<=9223372036854775807)):
  Calls AGm 104 #[ξ A n c] w λe w'=>e=κ (θ (Ex.YC xs))/\Below w.heap.size w w':=by
 have hlen:=hE.len;have hn:n<=9223372036854775807:=AGn hE.cap hE.max;have HE:=Lib.hid hE;have HL:=Lib.hid hlen;clear hE hlen
 go_enter Tryz.func104,Tryz.ntmps104
 go_wp2
 go_loopw [3] (λi wr => ∃k:Nat,k<=n/\i=ε ζ (k:Int)/\Hid (Ex.Tp xs k)/\Below w.heap.size w wr) (λi _=>n-(intOf i).toNat)
 case atStart=>exact⟨0,by omega,rfl,λi hi=>by omega,Below.refl _ _⟩
 case round =>
  obtain⟨k,hk,rfl,hok,hB⟩:=hrel;by_cases hlt:k<n
  ·obtain⟨b,off,rfl,hb,hc⟩:=(HE.out.below hB).cells AL;obtain⟨hc1,hc2⟩:=hc k hlt;have hxr:=hR.out k hlt;obtain⟨x,hx⟩:∃x,Ex.get xs k=x:=⟨_,rfl⟩;rw[hx]at hc1 hc2 hxr;have HX:=Lib.hid hx;clear hx hc;have hk0:(0:Int)<=k:=by omega
   have hkn:(k:Int)<n:=by omega
   go_wp2
   by_cases hp:x.prop
   ·by_cases h0:0<k
    ·obtain⟨j,rfl⟩:∃j,k=j+1:=⟨k-1,by omega⟩;have hyp:=(hok.out j AL).1;obtain⟨y,hy⟩:∃y,Ex.get xs j=y:=⟨_,rfl⟩;obtain⟨hd1,hd2⟩:=(HE.out.below hB).at_ rfl (i:=j) AL;rw[hy]at hd1 hd2 hyp;have HY:=Lib.hid hy;clear hy;have hwj:IntKind.i64.wrap (j:Int)=j:=IntWalk.i64_in _ AL;have hjn:(j:Int)<n:=by omega
     have hj0:(0:Int)<=j:=by omega
     have hjk:(j:Int)+1<n:=by omega
     have hj1:(0:Int)<=(j:Int)+1:=by omega
     have hyb:0<=y.off/\0<y.len/\y.off+y.len<=1048576:=hyp;have hwy:IntKind.i64.wrap (y.off+y.len)=y.off+y.len:=IntWalk.i64_in _ AL;have hS:wr.drew.cell? ⟨b,off+(j+1)*2,ν⟩=σ (ε ζ x.off)/\wr.drew.cell? ⟨b,off+(j+1)*2+1,ν⟩=σ (ε ζ x.len)/\wr.drew.cell? ⟨b,off+j*2,ν⟩=σ (ε ζ y.off)/\wr.drew.cell? ⟨b,off+j*2+1,ν⟩=σ (ε ζ y.len)/\Below w.heap.size w wr.drew:=⟨hc1,hc2,hd1,hd2,hB.drew⟩;by_cases hg:y.off+y.len<x.off
     ·have hgd:decide (x.off<=y.off+y.len)=ο:=by simp;omega
      refine Ih [(τ,0),(τ,1),(τ,2),(τ,3),(ο,4),(τ,5),(τ,6),(τ,7),(τ,8),(τ,9),(τ,10),(τ,11),(τ,12),(τ,13),(τ,14),(τ,15),(τ,16),(τ,17),(τ,18),(τ,19),(τ,20),(τ,21),(τ,22),(τ,23),(τ,24),(τ,25),(τ,26),(τ,27),(τ,28),(τ,29),(τ,30)] (λw'=>w'.cell? ⟨b,off+(j+1)*2,ν⟩=σ (ε ζ x.off)/\w'.cell? ⟨b,off+(j+1)*2+1,ν⟩=σ (ε ζ x.len)/\w'.cell? ⟨b,off+j*2,ν⟩=σ (ε ζ y.off)/\w'.cell? ⟨b,off+j*2+1,ν⟩=σ (ε ζ y.len)/\Below w.heap.size w w') [] AF AF AF rfl AVh ?_
      iterate 4 ((refine Ig (v := ?_) hS rfl AWP (λW hW=>?_) ?_;rotate_left;focus ((try dsimp only at hW);go_simp;(try with_reducible rfl);done));(try simp only[Act.put,BR,Ba,Bb]))
      refine Rc rfl (λK hK=>?_)
      go_wp2_with (go_at_call 105;refine(Ps x _ hp).mono ?_;rintro e w1 ⟨rfl,hb1⟩)
      have hS1:w1.cell? ⟨b,off+(j+1)*2,ν⟩=σ (ε ζ x.off)/\w1.cell? ⟨b,off+(j+1)*2+1,ν⟩=σ (ε ζ x.len)/\w1.cell? ⟨b,off+j*2,ν⟩=σ (ε ζ y.off)/\w1.cell? ⟨b,off+j*2+1,ν⟩=σ (ε ζ y.len)/\Below w.heap.size w w1:=⟨JV hS.1 hb1,JV hS.2.1 hb1,JV hS.2.2.1 hb1,JV hS.2.2.2.1 hb1,Sb hS.2.2.2.2 (Ay _) hb1⟩;refine hK _ _ (λ_=>hS1) ?_;clear hS;clear hK K
      (try simp only[Act.put,BR,Ba,Bb])
      iterate 26 ((refine Ig (v := ?_) hS1 rfl AWP (λW hW=>?_) ?_;rotate_left;focus ((try dsimp only at hW);go_simp;(try with_reducible rfl);done));(try simp only[Act.put,BR,Ba,Bb]))
      refine NW ?_;clear hwj hwy
      go_wp2
      go_roundw
      case rel=>exact⟨j+1+1,by omega,by go_num,Ex.Um hok.out ⟨by rw[HX.out];exact hp,λh=>by rw[HX.out,show j+1-1=j from rfl,HY.out];exact hg⟩,hS1.2.2.2.2⟩
      case measure=>simp[intOf];omega
     ·have hgd:decide (x.off<=y.off+y.len)=τ:=by simp;omega
      refine Ih [(τ,0),(τ,1),(τ,2),(τ,3),(ο,4),(τ,5),(τ,6),(τ,7),(τ,8),(τ,9),(τ,10),(τ,11),(τ,12),(τ,13),(τ,14),(τ,15),(τ,16),(τ,17),(τ,18),(τ,19),(τ,20),(τ,21),(τ,22),(τ,23),(τ,24),(τ,25),(τ,26),(τ,27),(τ,28),(τ,29),(τ,30)] (λw'=>w'.cell? ⟨b,off+(j+1)*2,ν⟩=σ (ε ζ x.off)/\w'.cell? ⟨b,off+(j+1)*2+1,ν⟩=σ (ε ζ x.len)/\w'.cell? ⟨b,off+j*2,ν⟩=σ (ε ζ y.off)/\w'.cell? ⟨b,off+j*2+1,ν⟩=σ (ε ζ y.len)/\Below w.heap.size w w') [] AF AF AF rfl AVh ?_
      iterate 4 ((refine Ig (v := ?_) hS rfl AWP (λW hW=>?_) ?_;rotate_left;focus ((try dsimp only at hW);go_simp;(try with_reducible rfl);done));(try simp only[Act.put,BR,Ba,Bb]))
      refine Rc rfl (λK hK=>?_)
      go_wp2_with (go_at_call 105;refine(Ps x _ hp).mono ?_;rintro e w1 ⟨rfl,hb1⟩)
      have hS1:w1.cell? ⟨b,off+(j+1)*2,ν⟩=σ (ε ζ x.off)/\w1.cell? ⟨b,off+(j+1)*2+1,ν⟩=σ (ε ζ x.len)/\w1.cell? ⟨b,off+j*2,ν⟩=σ (ε ζ y.off)/\w1.cell? ⟨b,off+j*2+1,ν⟩=σ (ε ζ y.len)/\Below w.heap.size w w1:=⟨JV hS.1 hb1,JV hS.2.1 hb1,JV hS.2.2.1 hb1,JV hS.2.2.2.1 hb1,Sb hS.2.2.2.2 (Ay _) hb1⟩;refine hK _ _ (λ_=>hS1) ?_;clear hS;clear hK K
      (try simp only[Act.put,BR,Ba,Bb])
      iterate 26 ((refine Ig (v := ?_) hS1 rfl AWP (λW hW=>?_) ?_;rotate_left;focus ((try dsimp only at hW);go_simp;(try with_reducible rfl);done));(try simp only[Act.put,BR,Ba,Bb]))
      refine NW ?_;clear hwj hwy
      go_wp2
      go_ret
      exact⟨VY (Ex.ou (i:=j+1) (by rw[HL.out];exact hlt) (λh=>by have h2:=h.2 AL;rw[HX.out,show j+1-1=j from rfl,HY.out]at h2;unfold Ext.end_ at h2;omega)).symm,hS1.2.2.2.2⟩
    ·have hS:wr.drew.cell? ⟨b,off+k*2,ν⟩=σ (ε ζ x.off)/\wr.drew.cell? ⟨b,off+k*2+1,ν⟩=σ (ε ζ x.len)/\Below w.heap.size w wr.drew:=⟨hc1,hc2,hB.drew⟩;refine Ih [(τ,0),(τ,1),(τ,2),(τ,3),(ο,4),(τ,5),(τ,6),(τ,7),(τ,8),(τ,9),(τ,10),(τ,11),(τ,12),(τ,13),(τ,14),(τ,15),(τ,16),(τ,17),(τ,18),(τ,19),(τ,20),(τ,21),(τ,22),(τ,23),(τ,24),(τ,25),(τ,26),(τ,27),(τ,28),(τ,29),(τ,30)] (λw'=>w'.cell? ⟨b,off+k*2,ν⟩=σ (ε ζ x.off)/\w'.cell? ⟨b,off+k*2+1,ν⟩=σ (ε ζ x.len)/\Below w.heap.size w w') [] AF AF AF rfl AVh ?_
     iterate 4 ((refine Ig (v := ?_) hS rfl AWP (λW hW=>?_) ?_;rotate_left;focus ((try dsimp only at hW);go_simp;(try with_reducible rfl);done));(try simp only[Act.put,BR,Ba,Bb]))
     refine Rc rfl (λK hK=>?_)
     go_wp2_with (go_at_call 105;refine(Ps x _ hp).mono ?_;rintro e w1 ⟨rfl,hb1⟩)
     have hS1:w1.cell? ⟨b,off+k*2,ν⟩=σ (ε ζ x.off)/\w1.cell? ⟨b,off+k*2+1,ν⟩=σ (ε ζ x.len)/\Below w.heap.size w w1:=⟨JV hS.1 hb1,JV hS.2.1 hb1,Sb hS.2.2 (Ay _) hb1⟩;refine hK _ _ (λ_=>hS1) ?_;clear hS;clear hK K
     (try simp only[Act.put,BR,Ba,Bb])
     iterate 5 ((refine Ig (v := ?_) hS1 rfl AWP (λW hW=>?_) ?_;rotate_left;focus ((try dsimp only at hW);go_simp;(try with_reducible rfl);done));(try simp only[Act.put,BR,Ba,Bb]))
     iterate 19 (refine ZW hS1 rfl AWP ?_;(try simp only[Act.put,BR,Ba,Bb]))
     iterate 2 ((refine Ig (v := ?_) hS1 rfl AWP (λW hW=>?_) ?_;rotate_left;focus ((try dsimp only at hW);go_simp;(try with_reducible rfl);done));(try simp only[Act.put,BR,Ba,Bb]))
     refine NW ?_
     go_wp2
     go_roundw
     case rel=>exact⟨k+1,by omega,by go_num,Ex.Um hok.out ⟨by rw[HX.out];exact hp,λh=>absurd h h0⟩,hS1.2.2⟩
     case measure=>simp[intOf];omega
   ·have hS:wr.drew.cell? ⟨b,off+k*2,ν⟩=σ (ε ζ x.off)/\wr.drew.cell? ⟨b,off+k*2+1,ν⟩=σ (ε ζ x.len)/\Below w.heap.size w wr.drew:=⟨hc1,hc2,hB.drew⟩;refine Ih [(τ,0),(τ,1),(τ,2),(τ,3),(ο,4),(τ,5),(τ,6),(τ,7),(τ,8),(τ,9),(τ,10),(τ,11),(τ,12),(τ,13),(τ,14),(τ,15),(τ,16),(τ,17),(τ,18),(τ,19),(τ,20),(τ,21),(τ,22),(τ,23),(τ,24),(τ,25),(τ,26),(τ,27),(τ,28),(τ,29),(τ,30)] (λw'=>w'.cell? ⟨b,off+k*2,ν⟩=σ (ε ζ x.off)/\w'.cell? ⟨b,off+k*2+1,ν⟩=σ (ε ζ x.len)/\Below w.heap.size w w') [] AF AF AF rfl AVh ?_
    iterate 4 ((refine Ig (v := ?_) hS rfl AWP (λW hW=>?_) ?_;rotate_left;focus ((try dsimp only at hW);go_simp;(try with_reducible rfl);done));(try simp only[Act.put,BR,Ba,Bb]))
    refine Rc rfl (λK hK=>?_)
    go_wp2_with (go_at_call 105;refine(lL x _ hxr.1 hxr.2 hp).mono ?_;rintro e w1 ⟨rfl,hb1⟩)
    have hS1:w1.cell? ⟨b,off+k*2,ν⟩=σ (ε ζ x.off)/\w1.cell? ⟨b,off+k*2+1,ν⟩=σ (ε ζ x.len)/\Below w.heap.size w w1:=⟨JV hS.1 hb1,JV hS.2.1 hb1,Sb hS.2.2 (Ay _) hb1⟩;refine hK _ _ (λ_=>hS1) ?_;clear hS;clear hK K
    (try simp only[Act.put,BR,Ba,Bb])
    iterate 2 ((refine Ig (v := ?_) hS1 rfl AWP (λW hW=>?_) ?_;rotate_left;focus ((try dsimp only at hW);go_simp;(try with_reducible rfl);done));(try simp only[Act.put,BR,Ba,Bb]))
    iterate 23 (refine ZW hS1 rfl AWP ?_;(try simp only[Act.put,BR,Ba,Bb]))
    iterate 1 ((refine Ig (v := ?_) hS1 rfl AWP (λW hW=>?_) ?_;rotate_left;focus ((try dsimp only at hW);go_simp;(try with_reducible rfl);done));(try simp only[Act.put,BR,Ba,Bb]))
    refine NW ?_
    go_wp2
    go_ret
    exact⟨VY (Ex.ou (i:=k) (by rw[HL.out];exact hlt) (λh=>hp (by rw[<-HX.out];exact h.1))).symm,hS1.2.2⟩
  ·obtain rfl:k=n:=by omega
   go_wp2
   go_ret
   exact⟨VY (Ex.gP (by rw[HL.out];exact hok.out)).symm,hB⟩
end Go.Proofs.YtnkgiaimcpbhkaaGreat
