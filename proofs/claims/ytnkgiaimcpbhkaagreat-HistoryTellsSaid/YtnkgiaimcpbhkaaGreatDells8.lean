import Derived.Test.YtnkgiaimcpbhkaaGreatDells7
import Derived.Test.YtnkgiaimcpbhkaaGreatDells1
import Derived.Test.YtnkgiaimcpbhkaaGreatDells4
set_option linter.all false
set_option maxRecDepth 100000
set_option maxHeartbeats 4000000
open List renaming length_append→Ag,nil_append→AR,replicate→Ah,length_singleton→BI,length_set→Bt,range→Cq
open List.Perm renaming swap→CL
open Prod renaming snd→ASY
open Bool renaming false→ο,true→τ
open Go.Ending renaming returned→κ
open Go.IntKind renaming i64→ζ,u64→υ,u8→η
open Option renaming none→ν,some→σ
open Go.Value renaming bool→θ,int→ε,pointer→π,slice→ξ
namespace Go.Proofs.YtnkgiaimcpbhkaaGreat
open Tryz renaming prog→AGm
open Go.RowKit Go.Shelf
structure Pl where
 at_:Int
 wd:Int
 kd:Int
def aL(p:Pl):List Value:=[ε ζ p.at_,ε ζ p.wd,ε ζ p.kd]
theorem ACF p:(aL p).length=3:=rfl
def jr(fs:List Fd)(i:Nat):Pl:=⟨dU (lay (fs.take i)).1 ((fs[i]?).getD ⟨1,0⟩).V8,((fs[i]?).getD ⟨1,0⟩).wid,((fs[i]?).getD ⟨1,0⟩).kind⟩
def plL(fs:List Fd)(k:Nat):List Pl:=(Cq k).map (jr fs)
theorem zL{fs k x}(h:fs[k]?=σ x):plL fs (k+1)=plL fs k++[⟨dU (lay (fs.take k)).1 x.V8,x.wid,x.kind⟩]:=by
 unfold plL;rw[ASz,Bj];have:jr fs k=⟨dU (lay (fs.take k)).1 x.V8,x.wid,x.kind⟩:=by unfold jr;rw[h];rfl
 rw[List.map_cons,List.map_nil,this]
theorem zM l a b c:(l++[(⟨a,b,c⟩:Pl)]).flatMap aL=l.flatMap aL++[ε ζ a,ε ζ b,ε ζ c]:=by simp[aL]
def plV(fs:List Fd)(i:SlI):Value:=.tuple #[ξ i.A i.n i.c,ε ζ (PW fs)]
theorem iG{fs:List Fd}(hok:TT fs):∀(d k:Nat),k+d<=fs.length->(lay (fs.take k)).1<=(lay (fs.take (k+d))).1
 |0,k,h=>B_ _
 | d+1,k,h=>by
  have h1:=iG hok d k AL;obtain⟨x,hx⟩:=Fg (l:=fs) (i:=k+d) AL;have hxe:=hok x (AU hx);have hw:=Fd.J2 hxe;have ha:=Fd.QI hxe;have hr:=Rz (Nj hok (k+d));have hs:=Ry hx;have hu:=Lx (n:=(lay (fs.take (k+d))).1) (a:=x.V8) hr.1 ha.1;have h2:(lay (fs.take (k+(d+1)))).1=dU (lay (fs.take (k+d))).1 x.V8+x.wid:=by rw[<-Nat.add_assoc,hs];rfl
  omega
theorem ADl{fs}(hok:TT fs){i}(hi:i<fs.length):0<=(jr fs i).at_/\1<=(jr fs i).wd/\(jr fs i).at_+(jr fs i).wd<=PW fs:=by
 obtain⟨x,hx⟩:=Fg hi;have hxe:=hok x (AU hx);have hw:=Fd.J2 hxe;have ha:=Fd.QI hxe;have hr:=Rz (Nj hok i);have hu:=Lx (n:=(lay (fs.take i)).1) (a:=x.V8) hr.1 ha.1;have hs:=Ry hx;have h2:(lay (fs.take (i+1))).1=dU (lay (fs.take i)).1 x.V8+x.wid:=by rw[hs];rfl
 have h3:=iG hok (fs.length-(i+1)) (i+1) AL;rw[show i+1+(fs.length-(i+1))=fs.length by omega,AUN]at h3;have hra:=Rz hok;have h4:=Lx (n:=(lay fs).1) (a:=(lay fs).2) hra.1 hra.2.2.1;have e1:jr fs i=⟨dU (lay (fs.take i)).1 x.V8,x.wid,x.kind⟩:=by unfold jr;rw[hx];rfl
 rw[e1];unfold PW;dsimp only;omega
theorem iH A n c fs W(hE:Sl W W.heap.size 2 A n c (cl NR fs))(hn:n<=40)(hok:TT fs):
  Calls AGm 173 #[PE 0 A n c] W λe w' => ∃i:SlI,e=κ (plV fs i)/\i.n=fs.length/\St [] W [.row (ξ i.A i.n i.c) 328 3 i.n ((plL fs fs.length).flatMap aL)] w':=by
 have hln:fs.length=n:=GM H5 AL hE.len;refine DL (M:=[]) Tryz.func173 [.tmp 2,.tmp 3] (St.nil _ _) ?_;refine C9 rfl λK k0=>?_;have zs:=Bd.mk V9;refine DR ?_;intro b hb;refine k0 _ _ (DZ ?_);refine Cw λK k0=>DZ ?_;refine C_ (DR ?_);refine Cz (k0 _ _ (DZ ?_));refine DZ ?_;refine Cw λK k0=>DZ ?_;refine DC [1,4,8,9,10] λG1 g1=>?_;replace g1:=EK g1;refine DK (FB 328 3 ?_);refine Dv (λF' L' => ∃(k:Nat)(A6:Option Addr)(c6:Nat),F' 1=G1 1/\F' 4=ξ A6 k c6/\F' 8=ε ζ (lay (fs.take k)).1/\F' 9=ε ζ (lay (fs.take k)).2/\F' 10=ε ζ (k:Int)/\L'=[.row (ξ A6 k c6) 328 3 k ((plL fs k).flatMap aL),G_ b 0 A n c]/\k<=n) (λF' L'=>40-(intOf (F' 10)).toNat) ?_ ?_
 ·refine⟨0,ν,0,?_⟩;have zg:=Bd.mk g1;refine DD ?_;exact⟨rfl,rfl,rfl,by omega⟩
 ·intro G2 L' hI;obtain⟨k,A6,c6,fV,Qd,SG,lC,W9,rfl,hk⟩:=hI;have zg:=Bd.mk g1;have g2:=AO (Dy fV) (AO Qd (AO SG (AO lC W9)));have hR:=Rz (Nj hok k);rw[List.length_take,CW AL]at hR;refine Cw λK k1=>?_;replace zg:=Bd.mk (AO g1 g2);refine Db ?_;refine Ec (λhc=>?_) λhc=>?_
  ·refine Cz ?_;try simp only[Di,Dq]
   have hlt:k<n:=by have:=AT0 hc;omega
   obtain⟨b0,off,rfl,hb0,-⟩:=hE.cells AL;obtain⟨x,hx⟩:=Fg (l:=fs) (i:=k) AL;have hxe:=hok x (AU hx);have hxw:=Fd.J2 hxe;have hxa:=Fd.QI hxe;have hu:=Lx (n:=(lay (fs.take k)).1) (a:=x.V8) hR.1 hxa.1;have hs:=Ry hx;refine k1 _ _ (Cw λK k1=>DK (C9 rfl λK k2=>DD ?_));refine DX (hE.fld hx) ?_;refine DD ?_;refine DI (λw hw=>Me x w hxe) ?_;try refine DD ?_
   refine k2 _ _ (C9 rfl λK k2=>DD ?_);refine DI (λw hw=>VS _ _ w AL AL) ?_;try refine DD ?_
   refine k2 _ _ (C9 rfl λK k2=>DD ?_);refine DX (hE.ABV hx) ?_;refine DD ?_;intro b7 fZ h7;refine D6 1 wG rfl (λw hw=>D_ (size:=3) (.head _) rfl hw) rfl AL AL ?_;intro A' c' hl _;refine DD (k2 _ _ ?_);refine KU @DT ?_;refine DY [0,2] ?_;refine DJ rfl (DD (k1 _ _ ?_));refine Cy rfl (DU @DT ?_);refine⟨⟨k+1,A',c',?_⟩,?_⟩
   ·rw[zL hx,zM];refine DU (AO @Af (AO hs @MS.eq_1)) ?_;omega
   ·exact AXo
  ·refine Dr (k0 _ _ ?_);obtain rfl:n=k:=by have:=AUD hc;omega
   rw[Aw AL]at *;refine C9 rfl λK k0=>DD ?_;refine DI (λw hw=>VS _ _ w AL AL) ?_;try refine DD ?_
   refine k0 _ _ (C8 (EP λw hw=>?_));exact⟨⟨A6,_,c6⟩,rfl,hln.symm,by rw[hln];exact hw.sub (Az [_] _)⟩
def iI(len:Int)(fs:List Fd):Int:=if 0<len then len else (fs.length:Int)
theorem lq A n c fs len W(hE:Sl W W.heap.size 2 A n c (cl NR fs))(hck:Ho len fs=0):
  Calls AGm 242 #[PE len A n c] W λe w'=>e=κ (ε ζ (iI len fs))/\Below W.heap.size W w':=by
 have hln:fs.length=n:=GM H5 AL hE.len;refine DL (M:=[]) Tryz.func242 [.tmp 2] (St.nil _ _) ?_;refine C9 rfl λK k0=>?_;have zs:=Bd.mk ADj;refine DR ?_;intro b1 hb1;refine k0 _ _ (Cw λK k0=>C9 rfl λK k1=>DR ?_);refine DI (λw hw=>Jd A n c fs len w (hE.at hw)) ?_;try refine Ed hck ?_
 refine k1 _ _ (C_ (DR ?_));refine Cz (k0 _ _ (Cw λK k0=>DZ ?_));refine C_ ?_;by_cases h0:0<len
 ·have d0:decide (len>0)=τ:=AUB h0;refine Ed d0 ?_;refine DZ ?_;refine C8 (Eg λw hw=>?_);exact⟨by unfold iI;rw[ATv h0],hw.below⟩
 have d0:¬(len>0):=by omega
 refine Ed d0 ?_;refine Cz (k0 _ _ (DZ ?_));refine C8 (Eg λw hw=>?_);exact⟨by unfold iI;rw[ATt h0,hln],hw.below⟩
structure zN where
 p:Pl
 er:Int
def iJ(q:zN):Value:=.tuple #[.agg #[ε ζ q.p.at_,ε ζ q.p.wd,ε ζ q.p.kd],ε ζ q.er]
theorem Fd.pR{f:Fd}(hk:f.kind≠6):f.wid<=8:=by
 unfold Fd.wid;split
 ·omega
 split
 ·omega
 split
 ·omega
 omega
theorem AFO{fs i}(hi:i<fs.length)(hk:(jr fs i).kd≠6):(jr fs i).wd<=8:=by
 obtain⟨x,hx⟩:=Fg hi;have e1:jr fs i=⟨dU (lay (fs.take i)).1 x.V8,x.wid,x.kind⟩:=by unfold jr;rw[hx];rfl
 rw[e1]at hk ⊢;exact Fd.pR hk
structure AHe(len:Int)(fs:List Fd)(q:zN):Prop where
 er:q.er=0\/q.er=6
 ok:q.er=0->0<=q.p.at_/\1<=q.p.wd/\q.p.at_+q.p.wd<=Gg len fs
 w8:q.er=0->q.p.kd≠6->q.p.wd<=8
def ADm:=AO (AO (AO @G_.eq_1 @Ub.eq_1) (AO @PE.eq_1 @Xx.eq_1)) (AO (AO @Ac @DT) (AO @KM @cM))
theorem lu A n c fs len i W(hE:Sl W W.heap.size 2 A n c (cl NR fs))(hck:Ho len fs=0):
  Calls AGm 239 #[PE len A n c,ε ζ i] W λe w'=>(∃q:zN,e=κ (iJ q)/\AHe len fs q)/\Below W.heap.size W w':=by
 have hln:fs.length=n:=GM H5 AL hE.len;obtain⟨c1,c2,c3,c4,c5,c6,c7⟩:=J3 hck;refine ER (M:=[]) (n:=56) [.cell 4 328,.tmp 5] rfl Tryz.func239 rfl rfl (Am rfl) (St.nil _ _) ?_;refine C9 rfl λK k0=>?_;have zs:=Bd.mk ADm;refine DR ?_;intro b2 hb2 b4 hb4 jo;refine k0 _ _ (Cw λK k0=>C9 rfl λK k1=>DR ?_);refine DI (λw hw=>Jd A n c fs len w (hE.at hw)) ?_;try refine Ed hck ?_
 refine k1 _ _ (DZ ?_);refine C_ (DR ?_);refine Cz (k0 _ _ (DC [1,2,4] λG1 g1=>?_));replace g1:=EK g1;refine Cw λK k0=>Cw λK k1=>?_;refine Df (λ_ _=>True) (λF' L'=>EH F' G1 [1,2,4]/\F' 24=θ (decide (i<0\/iI len fs<=i))/\L'=[.blk b4 328 [ε ζ 0,ε ζ 0,ε ζ 0],.blk b2 216 [ε ζ len,ξ A n c]]) ?_ ?_
 ·by_cases h1:i<0
  ·have d1:decide (i<0)=τ:=AUB h1;refine Cy rfl ?_;have zg:=Bd.mk g1;refine DU d1 ?_;rw[AUB (.inl h1)]
  ·refine Cy rfl ?_;have zg:=Bd.mk g1;refine DU h1 ?_;refine DI (λw hw=>lq A n c fs len w (hE.at hw) hck) ?_;try refine DD ?_
   refine AT4 Value.bool ?_;simp
 intro G2 L' _ hF;obtain⟨zq,AFP,rfl⟩:=hF;have zg:=Bd.mk g1;have g2:=AO (Dy zq) AFP;refine k1 _ _ ?_;replace zg:=Bd.mk g2;refine Ec (λhc=>?_) λhc=>?_
 ·refine Db ?_;refine C8 (FF ?_);intro w hw;exact⟨⟨⟨⟨0,0,0⟩,6⟩,rfl,⟨.inr rfl,λh=>absurd h AJ,λh=>absurd h AJ⟩⟩,hw.below⟩
 have hc':=AUD hc;refine Cz (k0 _ _ (DC [1,2,4] λG3 g3=>?_));replace g3:=Dy g3;refine Cw λK k0=>?_;replace zg:=Bd.mk g3;refine Db ?_;refine C_ ?_;by_cases h0:0<len
 ·have d0:decide (len>0)=τ:=AUB h0;have hci:iI len fs=len:=by unfold iI;rw[ATv h0]
  obtain⟨f,hf⟩:∃f,fs=[f]:=by
   have:=c5 h0
   match fs,this with
   |[f],_=>exact⟨f,rfl⟩
  subst hf;have hfe:f.err=0:=c6 f (.head _);have hsz:Gg len [f]=len*f.wid:=by unfold Gg;rw[ATv h0];rfl
  have hw1:=Fd.J2 hfe;have hms:=TU (a:=i) (b:=f.wid) AL AL AL hw1.2;have hle:i*f.wid+f.wid<=len*f.wid:=by
   have h1:(i+1)*f.wid<=len*f.wid:=Int.mul_le_mul_of_nonneg_right AL AL;rw[Int.add_mul,Int.one_mul]at h1;exact h1
  obtain⟨b,off,rfl,hbW,-⟩:=hE.cells AL;refine DU d0 ?_;refine C9 rfl λK k1=>DD ?_;refine DX ((show LD _ _ _ _ _ ⟨b,off,ν⟩ _ from hE.fld (k:=0) (x:=f) rfl)) ?_;refine DD ?_;refine DI (λw hw=>Me f w hfe) ?_;try refine DD ?_
  refine k1 _ _ (C9 rfl λK k1=>DD ?_);refine DX ((show LD _ _ _ _ _ ⟨b,off,ν⟩ _ from hE.ABV (k:=0) (x:=f) rfl)) ?_;refine DD (k1 _ _ ?_);refine C8 (FF ?_);intro w hw;exact⟨⟨⟨⟨i*f.wid,f.wid,f.kind⟩,0⟩,rfl,⟨.inl rfl,λ_=>⟨hms.1,hw1.1,by rw[hsz];exact hle⟩,λ_ hk=>Fd.pR hk⟩⟩,hw.below⟩
 have hci:iI len fs=fs.length:=by unfold iI;rw[ATt h0]
 have hsz:Gg len fs=PW fs:=by unfold Gg;rw[ATt h0]
 have hl0:len=0:=by omega
 have d0:¬(len>0):=by omega
 obtain⟨k,rfl⟩:∃k:Nat,i=(k:Int):=⟨i.toNat,by omega⟩;have hkn:k<fs.length:=by omega
 have hpi:=ADl c6 hkn;have hget:(plL fs fs.length)[k]?=σ (jr fs k):=by unfold plL;rw[BZ,List.getElem?_range hkn];rfl
 refine DU d0 ?_;refine Cz (k0 _ _ (C9 rfl λK k0=>DU hl0 ?_));refine F6 (plV fs) (λi:SlI=>[.row (ξ i.A i.n i.c) 328 3 i.n ((plL fs fs.length).flatMap aL)]) _ (λw hw=>iH A n c fs w (hE.at hw) AL c6) ?_;rintro⟨PA,pn,pc⟩ hpn;dsimp only at hpn;unfold plV;refine EM ?_;refine DD (k0 _ _ ?_);refine EL 0 rfl AL λg F7 hg EX=>?_;subst F7;replace hg:=AAM (AO hg EX);clear EX;refine C9 rfl λK k0=>DD ?_;refine DX (IJ (i:=k*3) (vs:=aL (jr fs k)) (DN (k:=0) rfl) AF (K5 ACF hget)) ?_;refine DD ?_;simp only[aL,Av,Bf,AT1];refine DD (k0 _ _ ?_);refine C8 (FF ?_);intro w hw;exact⟨⟨⟨jr fs k,0⟩,rfl,⟨.inl rfl,λ_=>⟨hpi.1,hpi.2.1,by rw[hsz];exact hpi.2.2⟩,λ_ hk=>AFO hkn hk⟩⟩,hw.below⟩
def ADn:=AO (AO (AO (AO @Ac @DT) (AO @KM @cM)) (AO (AO @Ey @Ez) (AO @E5 @E8))) (AO (AO (AO @E9 @Et) (AO @Eu @FK)) (AO (AO @FO @EZ) (AO @Ea (AO @aQ.eq_1 @zK.eq_1))))
structure FdR(x:Dc)(e:En)(q:zN):Prop where
 er:0<=q.er/\q.er<=29
 ok:q.er=0->0<=q.p.at_/\1<=q.p.wd/\q.p.at_+q.p.wd<=Gg (VU x e.tag).len (VU x e.tag).fs
 w8:q.er=0->q.p.wd<=8
theorem Y6 x{b}(hb:x.b=b)e fi(hk:YH x e.tag=0)(hm:VU x e.tag∈x.Lh)(hck:Ho (VU x e.tag).len (VU x e.tag).fs=0)W(hst:St (DV (Da x)) W (Da x) W):
  Calls AGm 224 #[π (σ ⟨b,0,ν⟩),sO e,ε ζ fi] W
  λen w' => ∃q:zN,en=κ (iJ q)/\FdR x e q/\St (DV (Da x)) W (Da x) w':=by
 subst hb;obtain⟨M,hM⟩:∃M,DV (Da x)=M:=⟨_,rfl⟩;rw[hM]at hst ⊢;clear hM;unfold Da Fj at hst;unfold sO;obtain⟨t,ht⟩:∃t,VU x e.tag=t:=⟨_,rfl⟩;rw[ht]at hm hck;have hlv:vR x e.tag=.tuple #[.agg #[ε ζ t.len,ξ t.A t.n t.c],ε ζ 0]:=by unfold vR;rw[hk,ATv rfl,ht];rfl
 refine ER (M:=M) (n:=35) [.cell 6 328,.tmp 7] rfl Tryz.func224 rfl rfl (Am rfl)  hst ?_;refine C9 rfl λK k0=>?_;have zs:=Bd.mk ADn;refine DR ?_;intro b4 hb4 jo b6 hb6 jm;refine k0 _ _ (DC [0,2,4,6] λG1 g1=>?_);replace g1:=EK g1;refine DY [2,3,0,1] ?_;refine Cw λK k0=>?_;refine Df (λ_ _=>True) (λF' L' => ∃(b8:Nat),EH F' G1 [2,6]/\F' 8=π (σ ⟨b8,0,ν⟩)/\L'=[.blk x.b 97 [x.y0,x.y1,x.y2,x.y3,x.y4,x.y5,x.y6,x.y7,x.y8,ξ x.TA x.tn x.tc,ε ζ x.N,ξ x.UA x.un x.uc,π (σ ⟨x.tb.tb,0,ν⟩),ξ x.LA x.ln x.lc,ε ζ x.lim.qb,ε ζ x.lim.qo,ε ζ x.lim.qr,ξ x.MA x.mn x.mc,ε ζ x.cap,ξ x.EA x.en x.ec,ξ x.SA x.sn x.sc,ξ x.BA x.bn x.bc,ξ (σ ⟨x.g,0,ν⟩) 65 65],Dk (Fx x),.blk b8 216 [ε ζ t.len,ξ t.A t.n t.c],.blk b6 328 [ε ζ 0,ε ζ 0,ε ζ 0]]) ?_ ?_
 ·refine JU [3] (.rd 0 (.rd 1 (.rd 2 (.rd 3 (.rd 4 (.more 5 (.rd 6 (.rd 7 (.rd 8 (.act 9 (.act 10 (.rd 11 (.done))))))) (.act 9 (.act 5 (.rd 6 (.rd 7 (.rd 8 (.act 10 (.rd 11 (.done)))))))))))))) [] ?_;have zg:=Bd.mk g1;refine DD ?_;refine AO ?_ ?_
  ·refine EW (Da x) (Az (Da x) _) (λ_:Unit=>vR x e.tag) _ (λw hw=>RI x rfl e.tag w hw) ?_;intro _ _;rw[hlv];refine DD ?_;intro b8 vO hf8;exact AWH
  ·intro b8 vO hf8;refine EW (Da x) (.cons _ (Az (Da x) _)) (λ_:Unit=>vR x e.tag) _ (λw hw=>RI x rfl e.tag w hw) ?_;intro _ _;rw[hlv];refine DD ?_;exact AWH
 intro G2 L' _ hF;obtain⟨b8,zq,SG,rfl⟩:=hF;have zg:=Bd.mk g1;have g2:=AO (Dy zq) SG;refine k0 _ _ (Rp λhap=>?_);simp only[QH,Nc,Nf,Rn,VG,Ro,Dw,Du,Dz,and_true,AT1,Ae,AT7,ADn]at hap;obtain hap:=hap;refine C9 rfl λK k0=>?_;replace zg:=Bd.mk g2;refine DD ?_;refine Ee iJ (AHe t.len t.fs) (λw hw=>lu t.A t.n t.c t.fs t.len fi w (Dc.AFN (x:=x) (L:=[]) (hw.pick (ix:=[0,1]) AJ) hm) hck) ?_;rintro⟨q,er⟩ hq;unfold iJ;dsimp only;refine DD ?_;intro b10 NG NH;refine k0 _ _ ?_;have hqe:er=0\/er=6:=hq.er;have hqo:er=0->0<=q.at_/\1<=q.wd/\q.at_+q.wd<=Gg t.len t.fs:=hq.ok;refine DC [6,10,11] λG3 g3=>?_;replace g3:=Dy g3;refine Cw λK k0=>?_;replace zg:=Bd.mk g3;refine Db ?_;refine C_ ?_;by_cases h0:er=0
 case neg =>
  refine DU h0 ?_;refine Db ?_;refine C8 (FF ?_);intro w hw;exact⟨⟨⟨0,0,0⟩,6⟩,rfl,⟨(by decide:(0:Int)<=6/\(6:Int)<=29),λh=>absurd h AJ,λh=>absurd h AJ⟩,hw.pick (ix:=[1,2]) AJ⟩
 have d0:decide (er=0)=τ:=AUB h0;refine DU d0 ?_;refine Cz (k0 _ _ (Cw λK k0=>Db ?_));refine C_ ?_;by_cases h6:q.kd=6
 ·have d6:decide (q.kd=6)=τ:=AUB h6;refine DU d6 ?_;refine Db ?_;refine C8 (FF ?_);intro w hw;exact⟨⟨⟨0,0,0⟩,8⟩,rfl,⟨(by decide:(0:Int)<=8/\(8:Int)<=29),λh=>absurd h AJ,λh=>absurd h AJ⟩,hw.pick (ix:=[1,2]) AJ⟩
 refine DU h6 ?_;refine Cz (k0 _ _ (Db ?_));refine C8 (FF ?_);intro w hw;exact⟨⟨q,0⟩,rfl,⟨AUs,λ_=>by rw[ht];exact hqo h0,λ_=>hq.w8 h0 h6⟩,hw.pick (ix:=[1,2]) AJ⟩
def Y7:=AO (AO (AO (AO @Ac @DT) (AO @KM @cM)) (AO (AO @Ey @Ez) (AO @E5 (AO @E8 @E9)))) (AO (AO (AO @Et @Eu) (AO @FK (AO @FO @EZ))) (AO (AO @Ea @aQ.eq_1) (AO @zK.eq_1 (AO @su.eq_1 @VB.eq_1))))
section
variable{P:Program}{M:List Nat}{W w:World}{L:List DW}
theorem H_{c nn F Q}{p:Prop}(h:∀w,St M W L w->p)(hk:p->CV P M W nn c F L Q):CV P M W nn c F L Q:=λa w ha hw=>hk (h w hw) a w ha hw
theorem Ha{T m a v}(ht:Hd P T=σ (ο,m))(h:∀w,St M W L w->w.cell? a=σ v):LD P M W L T a v:=λw hw=>Hy ht (h w hw)
theorem Dc.tbo{x}(h:St M W (Fj x::Dk (Fx x)::L) w):St M W (Mc x.tb++(Fj x::Dk ((Fx x).eraseIdx 8)::L)) w:=(h.IG (k:=8) rfl).swp.GV
theorem Dc.l6{x}(h:St M W (Fj x::Dk (Fx x)::L) w):w.cell? ⟨x.tb.tb,0,ν⟩=σ (π (σ ⟨x.tb.s.sb,0,ν⟩)):=(Dc.tbo h).Gd (AV.2 (.inl (.head _))) 0
theorem Dc.pU{x}(h:St M W (Fj x::Dk (Fx x)::L) w):w.cell? ⟨x.tb.s.sb,3,ν⟩=σ (ξ x.tb.s.FA x.tb.s.fn x.tb.s.fc):=(Dc.tbo h).Gd (AV.2 (.inl (.tail _ (.tail _ (.head _))))) 3
theorem Dc.AHf{x}(h:St M W (Fj x::Dk (Fx x)::L) w):x.b≠x.tb.tb/\x.b≠x.tb.s.sb/\Qc L x.tb.tb/\Qc L x.tb.s.sb:=by
 have h1:=(Dc.tbo h);have hp:=BN.1 h1.apart;have h2:∀b,b∈DV (Mc x.tb)→∀s∈(Fj x::Dk ((Fx x).eraseIdx 8)::L),b∉s.foot:=λb hb s hs=>by
  obtain⟨r,hr,hb⟩:=BM.1 hb;exact hp.2.2 r hr s hs b hb
 have m1:x.tb.tb∈DV (Mc x.tb):=BM.2 ⟨_,.head _,.head _⟩;have m2:x.tb.s.sb∈DV (Mc x.tb):=BM.2 ⟨_,.tail _ (.tail _ (.head _)),.head _⟩;refine⟨λe=>h2 _ m1 _ (.head _) (e ▸ .head _),λe=>h2 _ m2 _ (.head _) (e ▸ .head _),Qz λr hr=>h2 _ m1 r (.tail _ (.tail _ hr)),Qz λr hr=>h2 _ m2 r (.tail _ (.tail _ hr))⟩
theorem Dc.fnl{x}(h:St M W (Fj x::Dk (Fx x)::L) w):x.tb.s.Fu.length=x.tb.s.fn:=by
 have:=(Sl.EJ (Dc.tbo h) (t:=3) (A:=x.tb.s.FA) (n:=x.tb.s.fn) (c:=x.tb.s.fc) (size:=1) (xs:=D8 x.tb.s.Fu) (AV.2 (.inl (.tail _ (.tail _ (.tail _ (.tail _ (.tail _ (.head _))))))))).len;rw[EY]at this;omega
theorem Sq{α:Type}f(a:α){F}{d:Option Nat}{t e ty pos af gd l c K}{bytes n s:Nat}{kl kc}
  (ht:Jy P t=σ (e,s,bytes)) (hu:Fb P e=σ (f a)) (hs:(f a).length=s) (h0:0<s) (hl:ev F l=ε kl (n:Int)) (hc:ev F c=ε kc (n:Int)) (hb:bytes*n<=281474976710656) (h63:n<=9223372036854775807)
  (hK:∀b,W.heap.size<=b->fresh L b->(∀r∈L,b∉r.foot)->K τ (ξ (σ ⟨b,0,ν⟩) n n) (.blk b e ((Ah n a).flatMap f)::L)):
  XV P M W ⟨d,.makeSlice t l c,ty,pos,af,gd⟩ F L K:=by
 intro w hw;obtain⟨hut,i,z,hi,hz,hsz,hby,hzs,hsz0⟩:=QG ht;have hzc:z.cells=(f a).toArray:=by
  unfold Fb at hu;rw[hi]at hu;simp only[hz]at hu;have:z.cells.toList=f a:=by simpa using hu
  rw[<-this]
 have hb':(i.bytes:Int)*(n:Int)<=281474976710656:=by
  rw[hby];have h:((bytes*n:Nat):Int)<=281474976710656:=by omega
  rwa[AUW]at h
 have hr:=run_make (P:=P) w t e i z hut hi hz kl kc n n AL (B_ _) hb' AL;have e1:=ADY f a n AL;rw[hs]at e1;simp only[Bo,hsz,hzc]at hr;refine⟨_,_,_,?_,hw.alloc e ((Ah n a).flatMap f),hK w.heap.size hw.ES.size (Ju hw) λr hr hb=>ASm _ (hw.own r hr _ hb).2⟩;have e2:((Ah n a).flatMap f).toArray=madeCells (f a).toArray (n*s):=by rw[<-e1]
 simp only[execOp,hl,hc,Sem.run_bind,hr,Result.andThen_ok,Sem.run_pure,e2]
theorem ACG{l:List TL}{s}br(hs:s<l.length)(h:St M W (FI br::Dk (l.map FI)::L) w):St M W (Dk ((l.set s br).map FI)::L) w:=by
 rw[ASO];have hlt:s<(l.map FI).length:=by rw[BF];exact hs
 have hk:nth (l.map FI) s=σ (l.map FI)[s]:=by rw[GY];exact AQ hlt
 have h1:St M W ((l.map FI)[s]::((l.map FI).eraseIdx s++(FI br::L))) w:=h.swp.GV.perm ((FZ hk).symm.append_right (FI br::L));have h2:St M W (FI br::((l.map FI).eraseIdx s++L)) w:=h1.tail.perm CG.symm;exact(h2.perm ((Pt hlt (FI br)).append_right L)).Dk
end
theorem QW{x tag}(hk:YH x tag=0)(hl:x.Lh.length=x.tn):VU x tag∈x.Lh/\1<=tag/\tag<=x.tn:=by
 unfold YH at hk;by_cases h:tag<1\/(x.tn:Int)<tag
 ·rw[ATv h]at hk;exact absurd hk AJ
 ·have h1:(tag-1).toNat<x.Lh.length:=by omega
  unfold VU;rw[AQ h1];exact⟨Cf h1,by omega,by omega⟩
theorem AFQ{x tag}(hk:¬YH x tag=0):YH x tag=20:=by
 unfold YH at hk ⊢;by_cases h:tag<1\/(x.tn:Int)<tag
 ·rw[ATv h]
 ·rw[ATt h]at hk;exact absurd rfl hk
def bz(a:Nat):List Value:=[ε η (a:Int)]
theorem zO n:(Ah n 0).flatMap bz=Gf (Ah n 0):=by
 induction n with
 |zero=>rfl
 |succ n ih=>rw[Ci,BK,ih];rfl
theorem iK:Jy AGm 38=σ (5,1,1):=by kernel_rfl
theorem Y8{len fs}(h:Ho len fs=0):1<=Gg len fs:=by
 obtain⟨c1,c2,c3,c4,c5,c6,c7⟩:=J3 h;unfold Gg;by_cases h0:0<len
 ·rw[ATv h0];obtain⟨f,rfl⟩:∃f,fs=[f]:=by
   have:=c5 h0
   match fs,this with
   |[f],_=>exact⟨f,rfl⟩
  have h1:=Fd.J2 (c6 f (.head _));have h2:0<len*f.wid:=Int.mul_pos h0 AL;show 1<=len*f.wid;omega
 ·rw[ATt h0];have:=ADl c6 (i:=0) AL;omega
theorem AFR{N}(h1:1<=N)(h2:N<=65536):Sz.err N=0:=by unfold Sz.err;rw[ATt AL,ATt AL]
structure iM where
 h:Nat
 er:Int
 y:Dc
def AFS(i:iM):Value:=.tuple #[ε υ (i.h:Int),ε ζ i.er]
def vS(S:Int):Qu:=⟨S,1,0⟩
structure AHg(x:Dc)(p tag:Int)(d:Nat)(fr:List Ext)(i:iM)(N:Int)(z:Si)(it:X9)(s:Nat)(m:Pp)(br:TL):Prop where
 n:N=Gg (VU x tag).len (VU x tag).fs
 fit:Tj x.lim (HZ x.mt p) (vS (Sz.QT N))=ο
 ff:(Ex.findF fr N).2=0
 fz:z.us=x.us++[(Ex.findF fr N).1]
 isk:Wi x.tb it.y
 iss:AEx x.tb p tag (Ex.findF fr N).1.off (Ex.findF fr N).1.len d it s
 fm:(m.r,m.l)=Mt x.lim x.mt p (vS (Sz.QT N))
 bn:br.n=N.toNat
 bl:br.l=Ah N.toNat 0
 h:i.h=it.h
 y:i.y=(((x.Mf z).Kh it.y).E_ m).Mg (x.Fw.set s br)
 sn:s<x.tb.en
 sl:De it.h=s
def EqU(x y:Dc):Prop:=y=x∨∃z:Si,y=x.Mf z/\z.us=x.us
structure zP(x:Dc)(p tag:Int)(d:Nat)(fr:List Ext)(i:iM):Prop where
 Ql:0<=i.er/\i.er<=29
 hh:i.h<18446744073709551616
 r:if i.er=0 then YH x tag=0∧∃N z it s m br,AHg x p tag d fr i N z it s m br else i.h=0/\EqU x i.y
theorem ACH x{b}(hb:x.b=b)p tag(d:Nat)(hd:d<18446744073709551616)k(hi:QR x.tb k)(hp:1<=p/\p<=64)(htn:x.tn<=255)(hck:∀t∈x.Lh,Ho t.len t.fs=0)(hm:x.mt.length<=80000)(hlim:x.lim.lim)(hok:∀s∈x.mt,s.q.ok)(hu:x.us.length<=90)fr tk(hI:Ex.Inv x.N x.us fr tk)(hbn:x.bn=x.tb.en)(hge:∀s:Nat,(s:Int)∈x.tb.s.Fu->1<=Od x.tb.s s/\Od x.tb.s s<=4294967295)W(hst:St (DV (Da x)) W (Da x) W):
  Calls AGm 195 #[π (σ ⟨b,0,ν⟩),ε ζ p,ε ζ tag,ε υ (d:Int)] W
  λen w' => ∃i:iM,en=κ (AFS i)/\zP x p tag d fr i/\St (DV (Da x)) W (Da i.y) w':=by
 subst hb;have htl:=Dc.tyl hst;have AKV:=Dc.byl hst;have hfn:=Dc.fnl hst;obtain⟨M,hM⟩:∃M,DV (Da x)=M:=⟨_,rfl⟩;rw[hM]at hst ⊢;clear hM;unfold Da Fj at hst;refine DL (M:=M) Tryz.func195 [.tmp 8,.tmp 9]  hst ?_;have zs:=Bd.mk Y7;refine DZ ?_;refine C9 rfl λK k0=>DR ?_;refine EW (Da x) (BB _) (λ_:Unit=>vR x tag) _ (λw hw=>RI x rfl tag w hw) ?_;intro _ _;by_cases hk:YH x tag=0
 case neg =>
  have h20:=AFQ hk;have hlv:vR x tag=.tuple #[.agg #[ε ζ 0,ξ ν 0 0],ε ζ 20]:=by unfold vR;rw[ATt hk,h20];rfl
  rw[hlv];refine DR ?_;intro b10 NG NH;refine k0 _ _ (Cw λK k0=>DZ ?_);refine C_ (DR ?_);refine DZ ?_;refine C8 (Eg λw hw=>?_);exact⟨⟨0,20,x⟩,rfl,⟨(by decide:(0:Int)<=20/\(20:Int)<=29),AU_,by rw[ATt (show ¬(20:Int)=0 by decide)];exact⟨rfl,.inl rfl⟩⟩,hw.tail⟩
 obtain⟨hm0,tg1,tg2⟩:=QW hk htl;have ACI:=hck _ hm0;obtain⟨t,ht⟩:∃t,VU x tag=t:=⟨_,rfl⟩;rw[ht]at hm0 ACI;have hlv:vR x tag=.tuple #[.agg #[ε ζ t.len,ξ t.A t.n t.c],ε ζ 0]:=by unfold vR;rw[hk,ATv rfl,ht];rfl
 rw[hlv];refine DR ?_;intro b10 NG NH;refine k0 _ _ (DY [1,2,0] ?_);refine DC [0,1,2,3,10,11] λG1 g1=>?_;replace g1:=EK g1;refine Cw λK k0=>?_;have zg:=Bd.mk g1;refine Db ?_;refine C_ (DD ?_);refine Cz (k0 _ _ ?_);obtain⟨N,hN⟩:∃N,Gg t.len t.fs=N:=⟨_,rfl⟩;have hsz:1<=N/\N<=65536:=by rw[<-hN];exact⟨Y8 ACI,(J3 ACI).2.2.2.2.2.2⟩
 refine C9 rfl λK k0=>DD ?_;refine DI (λw hw=>uB t.A t.n t.c t.fs t.len w (Dc.AFN (x:=x) (L:=[.blk b10 216 [ε ζ t.len,ξ t.A t.n t.c]]) hw hm0) ACI) ?_;try refine DU hN ?_
 refine k0 _ _ (DY [0,1] ?_);refine DC [0,1,2,3,12] λG2 g2=>?_;replace g2:=Dy g2;obtain⟨S,hS⟩:∃S,Sz.QT N=S:=⟨_,rfl⟩;have hSr:0<=S/\S<=65536:=by
  have h0:Sz.err N=0:=AFR hsz.1 hsz.2;have:=Ex.aK h0;omega
 refine C9 rfl λK k0=>?_;replace zg:=Bd.mk g2;refine DD ?_;refine DI (λw hw=>RF N w) ?_;try refine DU hS ?_
 refine k0 _ _ (C9 rfl λK k0=>DD ?_);intro b16 AHY AHZ;refine k0 _ _ (DY [1,2,0] ?_);refine DC [0,1,2,3,12,16] λG3 g3=>?_;replace g3:=Dy g3;have hqk:(vS S).ok:=⟨(by show 0<=S/\S<=_;omega),AUu,AUn⟩;refine Cw λK k0=>Cw λK k1=>?_;by_cases hfit:Tj x.lim (HZ x.mt p) (vS S)=τ
 ·have hfv:(if Tj x.lim (HZ x.mt p) (vS S)=τ then (16:Int) else 0)=16:=ATv hfit;refine EB [(τ,0),(τ,1),(τ,2),(τ,3),(τ,4),(ο,5),(τ,6)] [] ?_;replace zg:=Bd.mk g3;refine DD ?_;refine DI (λw hw=>Tk (Dc.mtw (x:=x) (L:=[.blk b16 62 [ε ζ S,ε ζ 1,ε ζ 0]]) hw AL) hlim p (vS S) hqk) ?_;try refine DU hfv ?_
  refine k1 _ _ (C_ (DD ?_));refine Db ?_;refine C8 (EP λw hw=>?_);exact⟨⟨0,16,x⟩,rfl,⟨AV6,AU_,by rw[ATt (show ¬(16:Int)=0 by decide)];exact⟨rfl,.inl rfl⟩⟩,hw.pick (ix:=[0,1]) AJ⟩
 have hfv:(if Tj x.lim (HZ x.mt p) (vS S)=τ then (16:Int) else 0)=0:=ATt hfit;have hff:Tj x.lim (HZ x.mt p) (vS S)=ο:=by simpa using hfit
 refine EB [(τ,0),(τ,1),(τ,2),(τ,3),(τ,4),(ο,5),(τ,6)] [] ?_;replace zg:=Bd.mk g3;refine DD ?_;refine DI (λw hw=>Tk (Dc.mtw (x:=x) (L:=[.blk b16 62 [ε ζ S,ε ζ 1,ε ζ 0]]) hw AL) hlim p (vS S) hqk) ?_;try refine DU hfv ?_
 refine k1 _ _ (C_ (DD ?_));refine Cz (k0 _ _ (DC [0,1,2,3,12,16] λG4 g4=>?_));replace g4:=Dy g4;refine H_ (λw hw=>Dc.AHf (x:=x) hw) ?_;simp only[Du,Dw,and_true];rintro⟨n1,n2,n3,n4⟩;refine Cw λK k0=>C9 rfl λK k1=>?_;replace zg:=Bd.mk g4;refine DD ?_;refine DX (Ha (m:=1) rfl (λw hw=>Dc.l6 (x:=x) hw)) ?_;refine DD ?_;refine DX (Ha (m:=1) rfl (λw hw=>Dc.pU (x:=x) hw)) ?_;refine DD (k1 _ _ ?_);refine C_ ?_;by_cases h0:x.tb.s.fn=0
 ·have d0:decide ((x.tb.s.fn:Int)=0)=τ:=AUB AL;refine DU d0 ?_;refine Db ?_;refine C8 (EP λw hw=>?_);exact⟨⟨0,17,x⟩,rfl,⟨(by decide:(0:Int)<=17/\(17:Int)<=29),AU_,by rw[ATt (show ¬(17:Int)=0 by decide)];exact⟨rfl,.inl rfl⟩⟩,hw.pick (ix:=[0,1]) AJ⟩
 have d0:decide ((x.tb.s.fn:Int)=0)=ο:=AUC AL;refine DU d0 ?_;refine Cz (k0 _ _ (DC [0,1,2,3,12,16] λG5 g5=>?_));replace g5:=Dy g5;obtain⟨⟨e,er⟩,hq⟩:∃q,Ex.findF fr N=q:=⟨_,rfl⟩;refine C9 rfl λK k0=>?_;replace zg:=Bd.mk g5;refine DD ?_;refine Jl [.blk b16 62 [ε ζ S,ε ζ 1,ε ζ 0]] (Da x) (BQ (l₁:=[_]) (l₂:=[_,_])) (λ_:Si=>.tuple #[su e,ε ζ er]) (λz=>Da (x.Mf z)) (λz=>z.us=(if er=0 then x.us++[e] else x.us)) (λw hw=>by
  have h1:=lY x rfl N fr tk hI hu w hw;rw[hq]at h1;refine h1.mono ?_;rintro en w2 ⟨z,h2,h3,h4⟩;exact⟨z,h2,h3.2.2,h4⟩) ?_
 intro z hz;obtain⟨x1,hx1⟩:∃x1,x.Mf z=x1:=⟨_,rfl⟩;have hb1:x1.b=x.b:=by rw[<-hx1];rfl
 rw[hx1];unfold Da;rw[Dp hb1];refine EM ?_;have ht1:x1.tb=x.tb:=by rw[<-hx1];rfl
 have hm1:x1.mt=x.mt:=by rw[<-hx1];rfl
 have hl1:x1.lim=x.lim:=by rw[<-hx1];rfl
 refine DD ?_;intro b17 aR aU;refine k0 _ _ (Cw λK k0=>Db ?_);refine C_ ?_;by_cases her:er=0
 case neg =>
  refine DU her ?_;refine Db ?_;refine C8 (EP λw hw=>?_);rw[ATt her]at hz;exact⟨⟨0,18,x1⟩,rfl,⟨(by decide:(0:Int)<=18/\(18:Int)<=29),AU_,by rw[ATt (show ¬(18:Int)=0 by decide)];exact⟨rfl,.inr ⟨z,hx1.symm,hz⟩⟩⟩,by unfold Da;rw[Dp hb1];exact hw.pick (ix:=[1,2]) AJ⟩
 have d1:decide (er=0)=τ:=AUB her;rw[ATv her]at hz;refine DU d1 ?_;refine Cz (k0 _ _ (DY [1,2,0,3] ?_));refine DC [0,1,2,3,12,16,17] λG6 g6=>?_;replace g6:=Dy g6;refine Cw λK k0=>FD [0,2] [(τ,0),(τ,1),(τ,2),(τ,3),(τ,4),(τ,5),(τ,6),(τ,7),(ο,8),(τ,9),(τ,10),(τ,11),(τ,12),(τ,13)] [] ?_;replace zg:=Bd.mk g6;refine DD ?_;refine Jl [.blk b17 37 [ε ζ e.off,ε ζ e.len],.blk b16 62 [ε ζ S,ε ζ 1,ε ζ 0]] (Da x1) AWI oq (λi=>Da (x1.Kh i.y)) _ (λw hw=>tq x1 p tag e.off e.len d hd k (by rw[ht1];exact hi) w hw) ?_;intro it hit;rw[ht1]at hit;unfold oq;obtain⟨x2,hx2⟩:∃x2,x1.Kh it.y=x2:=⟨_,rfl⟩;have hb2:x2.b=x.b:=by rw[<-hx2];exact hb1
 have hk2:Fj x2=Fj x1:=by rw[<-hx2];exact Sk x1 it.y (hit.k.tb.trans (by rw[ht1]))
 rw[hx2];unfold Da;rw[hk2,Dp hb1];refine EM ?_;refine DD (k0 _ _ ?_);refine Eo [.blk x.b 97 [x2.y0,x2.y1,x2.y2,x2.y3,x2.y4,x2.y5,x2.y6,x2.y7,x2.y8,ξ x2.TA x2.tn x2.tc,ε ζ x2.N,ξ x2.UA x2.un x2.uc,π (σ ⟨x2.tb.tb,0,ν⟩),ξ x2.LA x2.ln x2.lc,ε ζ x2.lim.qb,ε ζ x2.lim.qo,ε ζ x2.lim.qr,ξ x2.MA x2.mn x2.mc,ε ζ x2.cap,ξ x2.EA x2.en x2.ec,ξ x2.SA x2.sn x2.sc,ξ x2.BA x2.bn x2.bc,ξ (σ ⟨x2.g,0,ν⟩) 65 65],Dk (Fx x2),.blk b17 37 [ε ζ e.off,ε ζ e.len],.blk b16 62 [ε ζ S,ε ζ 1,ε ζ 0]] (λw hw=>by rw[<-Dp hb2,hk2,Dp hb1];exact hw) ?_;have hm2:x2.mt=x.mt:=by rw[<-hx2];exact hm1
 have hl2:x2.lim=x.lim:=by rw[<-hx2];exact hl1
 obtain⟨s,hsn,hg⟩:∃s:Nat,s<x.tb.en/\AEx x.tb p tag e.off e.len d it s:=by
  have h1:=hit.r;rw[ATt (by unfold sS;omega),ATt AL]at h1;exact h1
 have hgs:=hge s (AU hg.fs);have AKg:=hi.m;have hgh:=hg.h;have hsl:De it.h=s:=by
  unfold pkF at hgh;rw[ATt AL]at hgh;dsimp only at hgh;unfold De;omega
 have hih:=hg.hh;refine DC [0,1,12,16,19] λG7 g7=>?_;replace g7:=Dy g7;refine Cw λK k0=>EB [(τ,0),(τ,1),(τ,2),(τ,3),(τ,4),(ο,5)] [5] ?_;replace zg:=Bd.mk g7;refine DD ?_;refine Jl [.blk b17 37 [ε ζ e.off,ε ζ e.len],.blk b16 62 [ε ζ S,ε ζ 1,ε ζ 0]] (Da x2) (by unfold Da;rw[Dp hb2];exact BQ (l₁:=[_,_]) (l₂:=[_,_])) Nu (λi=>Da (x2.E_ i)) _ (λw hw=>aM x2 hb2 p (vS S) (by rw[hm2];omega) (by rw[hl2];exact hlim) hqk (by rw[hm2];exact hok) w hw) ?_;intro m hmm;rw[hm2,hl2]at hmm;unfold Nu;obtain⟨x3,hx3⟩:∃x3,x2.E_ m=x3:=⟨_,rfl⟩;have hb3:x3.b=x.b:=by rw[<-hx3];exact hb2
 rw[hx3];unfold Da;rw[Dp hb3];refine EM ?_;refine DD (k0 _ _ ?_);have zQ:x3.Fw=x.Fw:=by rw[<-hx3,<-hx2,<-hx1];rfl
 have APE:x3.bn=x.bn:=by rw[<-hx3,<-hx2,<-hx1];rfl
 refine DY [0,1] ?_;refine DC [0,12,19] λG8 g8=>?_;replace g8:=Dy g8;refine Eo [.blk x.b 97 [x3.y0,x3.y1,x3.y2,x3.y3,x3.y4,x3.y5,x3.y6,x3.y7,x3.y8,ξ x3.TA x3.tn x3.tc,ε ζ x3.N,ξ x3.UA x3.un x3.uc,π (σ ⟨x3.tb.tb,0,ν⟩),ξ x3.LA x3.ln x3.lc,ε ζ x3.lim.qb,ε ζ x3.lim.qo,ε ζ x3.lim.qr,ξ x3.MA x3.mn x3.mc,ε ζ x3.cap,ξ x3.EA x3.en x3.ec,ξ x3.SA x3.sn x3.sc,ξ x3.BA x3.bn x3.bc,ξ (σ ⟨x3.g,0,ν⟩) 65 65],.row (ξ x3.BA x3.bn x3.bc) 38 1 x3.bn (x3.Fw.flatMap O4),Dk ((Fx x3).eraseIdx 6)] (λw hw=>hw.IG (k:=6) rfl) ?_;obtain⟨BA,aO⟩:∃BA,x3.BA=BA:=⟨_,rfl⟩;rw[aO];have APF:s<x3.bn:=by omega
 have hNn:N=((N.toNat:Nat):Int):=by omega
 obtain⟨n,hn⟩:∃n,N.toNat=n:=⟨_,rfl⟩;rw[hn]at hNn;refine EL 1 rfl AL λgB F7 hgB EX=>?_;subst F7;replace hgB:=AAM (AO hgB EX);clear EX;have hset:∀g:Nat,(x3.Fw.flatMap O4).set s (ξ (σ ⟨g,0,ν⟩) n n)=(x3.Fw.set s ⟨σ ⟨g,0,ν⟩,n,n,Ah n 0⟩).flatMap O4:=λg=>by
  have hsl2:s<x3.Fw.length:=by rw[zQ];omega
  have h9:=Tm (f:=O4) (s:=1) I4 (k:=0) AL (v:=ξ (σ ⟨g,0,ν⟩) n n) (x:=x3.Fw[s]) (y:=⟨σ ⟨g,0,ν⟩,n,n,Ah n 0⟩) rfl (AQ hsl2);simpa using h9
 refine Cw λK k0=>?_;refine Df (λ_ _=>True) (λF' L' => ∃(g:Nat),F' 19=G8 19/\L'=[.blk g 5 (Gf (Ah n 0)),.blk x.b 97 [x3.y0,x3.y1,x3.y2,x3.y3,x3.y4,x3.y5,x3.y6,x3.y7,x3.y8,ξ x3.TA x3.tn x3.tc,ε ζ x3.N,ξ x3.UA x3.un x3.uc,π (σ ⟨x3.tb.tb,0,ν⟩),ξ x3.LA x3.ln x3.lc,ε ζ x3.lim.qb,ε ζ x3.lim.qo,ε ζ x3.lim.qr,ξ x3.MA x3.mn x3.mc,ε ζ x3.cap,ξ x3.EA x3.en x3.ec,ξ x3.SA x3.sn x3.sc,ξ (σ ⟨gB,0,ν⟩) x3.bn x3.bc,ξ (σ ⟨x3.g,0,ν⟩) 65 65],.row (ξ (σ ⟨gB,0,ν⟩) x3.bn x3.bc) 38 1 x3.bn ((x3.Fw.set s ⟨σ ⟨g,0,ν⟩,n,n,Ah n 0⟩).flatMap O4),Dk ((Fx x3).eraseIdx 6)]) ?_ ?_
 ·refine JU [0] (.rd 0 (.rd 1 (.rd 2 (.rd 3 (.rd 4 (.rd 6 (.more 5 (.act 7 (.rd 8 (.act 9 (.done)))) (.act 7 (.act 5 (.rd 8 (.act 9 (.done)))))))))))) [9] ?_;replace zg:=Bd.mk g8;refine DD ?_;refine AO ?_ ?_
  ·refine DI (λw hw=>F4 it.h hih w) ?_;try refine DU hsl ?_
   refine Sq (n:=n) (kl:=ζ) (kc:=ζ) bz (0:Nat) iK AF rfl AL AUv AUv AL AL ?_;intro g hg1 hg2 hg3;have hgg:g≠gB:=λe=>hg3 _ (DN (k:=1) rfl) (by rw[e];simp[DW.foot,Value.ownBlock]);rw[zO];refine DD ?_;refine DX (JB 2 (i:=s) (v:=ξ (σ ⟨g,0,ν⟩) n n) rfl (by rw[GN I4,zQ];omega) AF rfl rfl) ?_;refine DU hset ?_;refine⟨[0,1,2,3],by decide,?_⟩;simp only[Dl,nth];exact⟨g,rfl⟩
  ·refine Sq (n:=n) (kl:=ζ) (kc:=ζ) bz (0:Nat) iK AF rfl AL AUv AUv AL AL ?_;intro g hg1 hg2 hg3;have hgg:g≠gB:=λe=>hg3 _ (DN (k:=1) rfl) (by rw[e];simp[DW.foot,Value.ownBlock]);rw[zO];refine DD ?_;refine DI (λw hw=>F4 it.h hih w) ?_;try refine DU hsl ?_
   refine DX (JB 2 (i:=s) (v:=ξ (σ ⟨g,0,ν⟩) n n) rfl (by rw[GN I4,zQ];omega) AF rfl rfl) ?_;refine DU hset ?_;refine⟨[0,1,2,3],by decide,?_⟩;simp only[Dl,nth];exact⟨g,rfl⟩
 intro G9 L' _ hF;obtain⟨g,aB,rfl⟩:=hF;replace zg:=Bd.mk g8;have g9:=Dy aB;refine k0 _ _ ?_;obtain⟨br,hbr⟩:∃br:TL,(⟨σ ⟨g,0,ν⟩,n,n,Ah n 0⟩:TL)=br:=⟨_,rfl⟩;obtain⟨x4,hx4⟩:∃x4,x3.Mg (x.Fw.set s br)=x4:=⟨_,rfl⟩;have hb4:x4.b=x.b:=by rw[<-hx4];exact hb3
 refine Eo (Da x4) (λw hw=>?_) ?_
 ·have h1:=St.JR (t:=5) (size:=1) (n:=n) hw (by rw[Jz,CB,Ac]) AL;rw[<-aO]at h1;have h2:=St.IL (R:=Fx x3) (k:=6) _ (by show 6<11;decide) (h1.perm (BQ (l₁:=[_,_,_]) (l₂:=[_])));have h3:=h2.IG (k:=10) rfl;have h4:=ACG (l:=x3.Fw) (s:=s) ⟨σ ⟨g,0,ν⟩,n,n,Ah n 0⟩ (by rw[zQ];omega) ((h3.perm (BQ (l₁:=[_]) (l₂:=[_,_,_]))).perm (.cons _ (CL _ _ _)));have h5:=h4.swp.IL (k:=10) _ (by show 10<11;decide);unfold Da;rw[Dp hb4,<-hx4,<-hbr,<-zQ];exact h5
 unfold Da;rw[Dp hb4];replace zg:=Bd.mk g9;refine Db ?_;refine C8 (EP λw hw=>?_);refine⟨⟨it.h,0,x4⟩,rfl,⟨AUs,hih,?_⟩,by show St M W (Da x4) w;unfold Da;rw[Dp hb4];exact hw⟩;rw[ATv rfl];exact⟨hk,N,z,it,s,m,br,⟨by rw[ht,hN],by rw[hS];exact hff,by rw[hq];exact her,by rw[hq];exact hz,hit.k,by rw[hq];exact hg,by rw[hS];exact hmm,by rw[<-hbr];exact hn.symm,by rw[<-hbr,hn],rfl,by rw[<-hx4,<-hx3,<-hx2,<-hx1],hsn,hsl⟩⟩
def Nz:=AO (AO (AO (AO @Ac @DT) (AO @KM @cM)) (AO (AO @Ey @Ez) (AO @E5 (AO @E8 @E9)))) (AO (AO (AO @Et @Eu) (AO @FK @FO)) (AO (AO @EZ @Ea) (AO @aQ.eq_1 (AO @zK.eq_1 @KS))))
section
variable{M:List Nat}{W w:World}{L:List DW}
theorem Dc.ACJ{x}(h:St M W (Fj x::Dk (Fx x)::L) w)(hn:0<x.bn):∃g,x.BA=σ ⟨g,0,ν⟩/\x.b≠g/\Qc L g:=by
 have h1:=(h.IG (k:=6) rfl).swp;rcases h1.LX with⟨-,h0⟩|⟨g,e,-,hne⟩
 ·omega
 ·exact⟨g,e,hne⟩
theorem Dc.XC{x}(h:St M W (Fj x::Dk (Fx x)::L) w){g s br}(hA:x.BA=σ ⟨g,0,ν⟩)(hs:x.Fw[s]?=σ br):w.cell? ⟨g,s,ν⟩=σ (ξ br.A br.n br.c):=by
 have h1:=Sl.EJ (h.IG (k:=6) rfl) (DN (k:=1) rfl);have hl:=Dc.byl h;have hlt:=(Ab.1 hs).1;obtain⟨b,off,e,-,hc⟩:=h1.cells AL;rw[hA]at e;cases e;have h2:=hc (s*1+0) _ (Gi I4 hs AJ);simpa using h2
end
structure zR(x:Dc)(s:Nat):Prop where
 lk:YH x (ET x.tb s).tag=0
 br:∃br,x.Fw[s]?=σ br/\Gg (VU x (ET x.tb s).tag).len (VU x (ET x.tb s).tag).fs<=br.n/\br.n<=65536
structure GtI where
 v:Int
 er:Int
def gtV(i:GtI):Value:=.tuple #[ε υ i.v,ε ζ i.er]
structure GtR(i:GtI):Prop where
 Ql:0<=i.er/\i.er<=29
 v:0<=i.v/\i.v<18446744073709551616
theorem v0:(0:Int)<=0/\(0:Int)<18446744073709551616:=by decide
theorem ACK x{b}(hb:x.b=b)p(o:Nat)fi(ho:o<18446744073709551616)(hN:x.tb.s.gen.length=x.tb.s.Fh.length)(hl:x.l.length<=90000)(hck:∀t∈x.Lh,Ho t.len t.fs=0)(hby:∀s,Ej x.tb.s s=τ->zR x s)(hbn:x.bn=x.tb.en)W(hst:St (DV (Da x)) W (Da x) W):
  Calls AGm 198 #[π (σ ⟨b,0,ν⟩),ε ζ p,ε υ (o:Int),ε ζ fi] W
  λen w' => ∃i:GtI,en=κ (gtV i)/\GtR i/\St (DV (Da x)) W (Da x) w':=by
 subst hb;have htl:=Dc.tyl hst;obtain⟨M,hM⟩:∃M,DV (Da x)=M:=⟨_,rfl⟩;rw[hM]at hst ⊢;clear hM;unfold Da Fj at hst;refine DL (M:=M) Tryz.func198 [.tmp 8,.tmp 9]  hst ?_;have zs:=Bd.mk Nz;refine DZ ?_;refine C9 rfl λK k0=>DR ?_;refine EW (Da x) (BB _) (λv:Int=>pK x o v) _ (λw hw=>H9 x rfl p o 1 ho hN hl w hw) ?_;intro v hv;by_cases hv0:v=0
 case neg =>
  rw[J9 hv0];refine DR ?_;intro b10 NG NH;refine k0 _ _ (Cw λK k0=>DZ ?_);refine C_ (Ed hv0 ?_);refine DZ ?_;refine C8 (Eg λw hw=>?_);exact⟨⟨0,v⟩,rfl,⟨hv.Ql,v0⟩,hw.tail⟩
 have he:=hv.ok hv0;subst hv0;obtain⟨r1,r2,r3,r4⟩:=GZ he;obtain⟨e,MZ⟩:∃e,ET x.tb (De o)=e:=⟨_,rfl⟩;rw[NJ,MZ];refine DR ?_;intro b10 NG NH;refine k0 _ _ (Cw λK k0=>DZ ?_);refine C_ (DR ?_);refine Cz (k0 _ _ (DY [1,2,0] ?_));refine DC [0,2,3,10] λG1 g1=>?_;replace g1:=EK g1;obtain⟨lk,br,hbr,hbs,hbm⟩:=hby _ r2;rw[MZ]at lk hbs;have hm0:=(QW lk htl).1;refine C9 rfl λK k0=>?_;have zg:=Bd.mk g1;refine DD ?_;refine EW (Da x) (Az (Da x) _) iJ (FdR x e) (λw hw=>Y6 x rfl e fi lk hm0 (hck _ hm0) w hw) ?_;rintro⟨⟨qa,qw,kd⟩,er⟩ ⟨hq1,hq2,hq3⟩;dsimp only at hq1 hq2 hq3;unfold iJ;dsimp only;refine DD ?_;intro b12 AKj AKk;refine k0 _ _ (Cw λK k0=>Db ?_);refine C_ ?_;by_cases h0:er=0
 case neg =>
  refine DU h0 ?_;refine Db ?_;refine C8 (EP λw hw=>?_);exact⟨⟨0,er⟩,rfl,⟨hq1,v0⟩,hw.pick (ix:=[1,2]) AJ⟩
 obtain⟨q1,q2,q3⟩:=hq2 h0;obtain⟨a,rfl⟩:∃a:Nat,qa=(a:Int):=⟨qa.toNat,by omega⟩;obtain⟨wd,rfl⟩:∃wd:Nat,qw=(wd:Int):=⟨qw.toNat,by omega⟩;have d0:decide (er=0)=τ:=AUB h0;refine DU d0 ?_;refine Cz (k0 _ _ (DY [1,2,0] ?_));refine DC [0,2,12] λG2 g2=>?_;replace g2:=Dy g2;refine H_ (λw hw=>Dc.ACJ (x:=x) hw AL) ?_;simp only[Du,Dw,and_true];rintro⟨g,hA,n1,n2⟩;obtain⟨s,hs⟩:∃s,De o=s:=⟨_,rfl⟩;rw[hs]at r1 hbr;have hin:a+wd<=br.n:=by omega
 have hwd:((a:Int)+(wd:Int)).toNat-a=wd:=by omega
 refine H_ (λw hw=>(Dc.YI (x:=x) hw (AU hbr)).cap) ?_;intro hcp;refine Cw λK k0=>EB [(τ,0),(τ,1),(τ,2),(τ,3),(τ,4),(τ,8),(τ,9),(τ,10),(τ,11),(τ,12),(τ,13),(τ,14),(ο,5),(τ,6),(τ,7),(τ,15),(ο,16),(τ,17),(τ,18)] [] ?_;replace zg:=Bd.mk g2;refine DU hA ?_;refine DI (λw hw=>F4 o ho w) ?_;try refine DU (AO hs hA) ?_
 refine DX (Ha (m:=1) rfl (λw hw=>Dc.XC (M:=M) (W:=W) (x:=x) (L:=[.blk b12 328 [ε ζ (a:Int),ε ζ (wd:Int),ε ζ kd]]) AVO hA hbr)) ?_;refine DU hwd ?_;refine Ee (λv:Int=>ε υ v) (λv=>0<=v/\v<18446744073709551616) (λw hw=>Uu _ _ _ _ w (((Dc.YI (M:=M) (W:=W) (x:=x) (L:=[.blk b12 328 [ε ζ (a:Int),ε ζ (wd:Int),ε ζ kd]]) AVO (AU hbr)).V7 (k:=a) AL).nk (k:=wd) AL) AL) ?_;intro v hv2;refine DD (k0 _ _ ?_);refine C8 (EP λw hw=>?_);rw[<-hA]at hw;exact⟨⟨v,0⟩,rfl,⟨AUs,hv2⟩,hw.pick (ix:=[0,1]) AJ⟩
section
variable{M:List Nat}{W w:World}{L:List DW}{K:DW}
theorem Dc.opn{x s br}(hs:x.Fw[s]?=σ br)(h:St M W (K::Dk (Fx x)::L) w):St M W (FI br::K :: .row (ξ x.BA x.bn x.bc) 38 1 x.bn (x.Fw.flatMap O4)::Dk ((x.Fw.map FI).eraseIdx s)::Dk (((Fx x).eraseIdx 10).eraseIdx 6)::L) w:=by
 have hk:nth (x.Fw.map FI) s=σ (FI br):=by rw[GY,BZ,hs];rfl
 have h2:=(h.IG (k:=10) rfl).swp.GV;have h3:=h2.perm (CG.trans ((FZ hk).symm.append_right _));have h5:=h3.Dk.perm (((BQ (l₁:=[_,_]) (l₂:=[_,_])).append_right L).trans (CL _ _ _));have h6:=St.IG (R:=(Fx x).eraseIdx 10) (k:=6) rfl h5;exact h6.perm ((CG (l₁:=[_,_])).symm.trans (.cons _ (.cons _ (CG (l₁:=[_,_])))))
theorem Dc.cls{x s br}l(hs:x.Fw[s]?=σ br)(h:St M W (FI { br with l:=l } :: K :: .row (ξ x.BA x.bn x.bc) 38 1 x.bn (x.Fw.flatMap O4)::Dk ((x.Fw.map FI).eraseIdx s)::Dk (((Fx x).eraseIdx 10).eraseIdx 6)::L) w):St M W (K::Dk (Fx (x.Mg (x.Fw.set s { br with l:=l })))::L) w:=by
 have hlt:=(Ab.1 hs).1;have hf:(x.Fw.set s { br with l:=l }).flatMap O4=x.Fw.flatMap O4:=by
  have h9:=Tm (f:=O4) (s:=1) I4 (k:=0) AL (v:=ξ br.A br.n br.c) (x:=br) (y := { br with l:=l }) rfl hs;rw[<-h9];have h8:(x.Fw.flatMap O4)[s*1+0]?=σ (ξ br.A br.n br.c):=Gi I4 hs AJ;obtain⟨h7,h6⟩:=Ab.1 h8;rw[<-h6,List.set_getElem_self]
 have h1:=h.perm ((CG (l₁:=[_,_])).symm.trans (.cons _ (.cons _ (CG (l₁:=[_,_]))))).symm;have h2:=St.IL (R:=(Fx x).eraseIdx 10) (k:=6) _ (by show 6<10;decide) h1;have h3:=(h2.perm (((BQ (l₁:=[_,_]) (l₂:=[_,_])).append_right L).trans (CL _ _ _)).symm).GV;have h4:=h3.perm (((Pt (by rw[BF];exact hlt) _).append_right _).trans CG.symm);have h5:=St.IL (R:=Fx x) (k:=10) _ (by show 10<11;decide) h4.Dk.swp;have h6:Fx (x.Mg (x.Fw.set s { br with l:=l }))=((Fx x).set 10 (Dk ((x.Fw.map FI).set s (FI { br with l:=l })))):=by
  unfold Fx Dc.Mg;dsimp only;rw[hf,ASO];rfl
 rw[h6];exact h5
end
theorem iO l j y:(Gf l).set j (ε η (IntKind.u8.wrap y))=Gf (l.set j (IntKind.u8.wrap y).toNat):=by
 have h:0<=IntKind.u8.wrap y:=by
  rw[IntKind.wrap_u8];omega
 have h2:((IntKind.u8.wrap y).toNat:Int)=IntKind.u8.wrap y:=Int.toNat_of_nonneg h;unfold Gf;rw[ASO,h2]
def EqB(x y:Dc):Prop:=y=x∨∃s br l,x.Fw[s]?=σ br/\l.length=br.l.length/\y=x.Mg (x.Fw.set s { br with l:=l })
structure StR(x:Dc)(i:JD):Prop where
 Ql:0<=i.v/\i.v<=29
 r:EqB x i.y
theorem ACN x{b}(hb:x.b=b)p(o:Nat)fi v(ho:o<18446744073709551616)(hN:x.tb.s.gen.length=x.tb.s.Fh.length)(hl:x.l.length<=90000)(hck:∀t∈x.Lh,Ho t.len t.fs=0)(hby:∀s,Ej x.tb.s s=τ->zR x s)(hbn:x.bn=x.tb.en)W(hst:St (DV (Da x)) W (Da x) W):
  Calls AGm 199 #[π (σ ⟨b,0,ν⟩),ε ζ p,ε υ (o:Int),ε ζ fi,ε υ v] W
  λen w' => ∃i:JD,en=κ (Gv i)/\StR x i/\St (DV (Da x)) W (Da i.y) w':=by
 subst hb;have htl:=Dc.tyl hst;obtain⟨M,hM⟩:∃M,DV (Da x)=M:=⟨_,rfl⟩;rw[hM]at hst ⊢;clear hM;unfold Da Fj at hst;refine DL (M:=M) Tryz.func199 [.tmp 10]  hst ?_;have zs:=Bd.mk Nz;refine DZ ?_;refine C9 rfl λK k0=>DR ?_;refine EW (Da x) (BB _) (λv:Int=>pK x o v) _ (λw hw=>H9 x rfl p o 2 ho hN hl w hw) ?_;intro v1 hv;by_cases hv0:v1=0
 case neg =>
  rw[J9 hv0];refine DR ?_;intro b10 NG NH;refine k0 _ _ (Cw λK k0=>DZ ?_);refine C_ (Ed hv0 ?_);refine DZ ?_;refine C8 (Eg λw hw=>?_);exact⟨⟨v1,x⟩,rfl,⟨hv.Ql,.inl rfl⟩,hw.tail⟩
 have he:=hv.ok hv0;subst hv0;obtain⟨r1,r2,r3,r4⟩:=GZ he;obtain⟨e,MZ⟩:∃e,ET x.tb (De o)=e:=⟨_,rfl⟩;rw[NJ,MZ];refine DR ?_;intro b10 NG NH;refine k0 _ _ (Cw λK k0=>DZ ?_);refine C_ (DR ?_);refine Cz (k0 _ _ (DY [1,2,0] ?_));refine DC [0,2,3,4,11] λG1 g1=>?_;replace g1:=EK g1;obtain⟨lk,br,hbr,hbs,hbm⟩:=hby _ r2;rw[MZ]at lk hbs;have hm0:=(QW lk htl).1;refine C9 rfl λK k0=>?_;have zg:=Bd.mk g1;refine DD ?_;refine EW (Da x) (Az (Da x) _) iJ (FdR x e) (λw hw=>Y6 x rfl e fi lk hm0 (hck _ hm0) w hw) ?_;rintro⟨⟨qa,qw,kd⟩,er⟩ ⟨hq1,hq2,hq3⟩;dsimp only at hq1 hq2 hq3;unfold iJ;dsimp only;refine DD ?_;intro b12 AKj AKk;refine k0 _ _ (Cw λK k0=>Db ?_);refine C_ ?_;by_cases h0:er=0
 case neg =>
  refine DU h0 ?_;refine Db ?_;refine C8 (EP λw hw=>?_);exact⟨⟨er,x⟩,rfl,⟨hq1,.inl rfl⟩,hw.pick (ix:=[1,2]) AJ⟩
 obtain⟨q1,q2,q3⟩:=hq2 h0;have q4:=hq3 h0;obtain⟨a,rfl⟩:∃a:Nat,qa=(a:Int):=⟨qa.toNat,by omega⟩;obtain⟨wd,rfl⟩:∃wd:Nat,qw=(wd:Int):=⟨qw.toNat,by omega⟩;have d0:decide (er=0)=τ:=AUB h0;refine DU d0 ?_;refine Cz (k0 _ _ (DY [1,2,0] ?_));refine DC [0,2,4,13] λG2 g2=>?_;replace g2:=Dy g2;have hin:a+wd<=br.n:=by omega
 refine Cw λK k0=>C9 rfl λK k1=>?_;replace zg:=Bd.mk g2;refine DD ?_;refine Ee (λb:Bool=>θ b) (λ_=>True) (λw hw=>zJ v wd w) ?_;intro fb _;refine DD (k1 _ _ ?_);refine C_ ?_;cases fb with
 | false =>
  refine DD ?_;refine Db ?_;refine C8 (EP λw hw=>?_);exact⟨⟨9,x⟩,rfl,⟨(by decide:(0:Int)<=9/\(9:Int)<=29),.inl rfl⟩,hw.pick (ix:=[0,1]) AJ⟩
 |true =>
 refine DD ?_;refine Cz (k0 _ _ ?_);obtain⟨s,hs⟩:∃s,De o=s:=⟨_,rfl⟩;rw[hs]at r1 hbr;refine H_ (λw hw=>(Dc.YI (x:=x) hw (AU hbr)).len) ?_;rw[Jz,Ac];intro AHi;refine Eo [.row (ξ br.A br.n br.c) 5 1 br.n (Gf br.l),.blk x.b 97 [x.y0,x.y1,x.y2,x.y3,x.y4,x.y5,x.y6,x.y7,x.y8,ξ x.TA x.tn x.tc,ε ζ x.N,ξ x.UA x.un x.uc,π (σ ⟨x.tb.tb,0,ν⟩),ξ x.LA x.ln x.lc,ε ζ x.lim.qb,ε ζ x.lim.qo,ε ζ x.lim.qr,ξ x.MA x.mn x.mc,ε ζ x.cap,ξ x.EA x.en x.ec,ξ x.SA x.sn x.sc,ξ x.BA x.bn x.bc,ξ (σ ⟨x.g,0,ν⟩) 65 65],.row (ξ x.BA x.bn x.bc) 38 1 x.bn (x.Fw.flatMap O4),Dk ((x.Fw.map FI).eraseIdx s),Dk (((Fx x).eraseIdx 10).eraseIdx 6),.blk b12 328 [ε ζ (a:Int),ε ζ (wd:Int),ε ζ kd]] (λw hw=>Dc.opn hbr hw) ?_;obtain⟨BA,aO⟩:∃BA,x.BA=BA:=⟨_,rfl⟩;obtain⟨bA,Oz⟩:∃bA,br.A=bA:=⟨_,rfl⟩;rw[aO,Oz];refine EL 2 rfl AL λgB F7 hgB EX=>?_;subst F7;replace hgB:=AAM (AO hgB EX);clear EX;refine EL 0 rfl AL λgb F7 hgb EX=>?_;subst F7;replace hgb:=AAM (AO hgb EX);clear EX;have hget:(x.Fw.flatMap O4)[s]?=σ (ξ (σ ⟨gb,0,ν⟩) br.n br.c):=by
  have h9:=Gi I4 hbr (show 0<1 by decide);rw[Ac,Cg]at h9;rw[h9];show σ (Value.slice br.A br.n br.c)=_;rw[Oz]
 refine Cw λK k0=>Db ?_;refine DC [0,2,4,13,14] λG3 g3=>?_;replace g3:=Dy g3;refine DK ?_;refine Dv (λF' L' => ∃(i:Nat)(l:List Nat),EH F' G3 [0,2,4,13]/\F' 14=ε ζ (i:Int)/\L'=[.row (ξ (σ ⟨gb,0,ν⟩) br.n br.c) 5 1 br.n (Gf l),.blk x.b 97 [x.y0,x.y1,x.y2,x.y3,x.y4,x.y5,x.y6,x.y7,x.y8,ξ x.TA x.tn x.tc,ε ζ x.N,ξ x.UA x.un x.uc,π (σ ⟨x.tb.tb,0,ν⟩),ξ x.LA x.ln x.lc,ε ζ x.lim.qb,ε ζ x.lim.qo,ε ζ x.lim.qr,ξ x.MA x.mn x.mc,ε ζ x.cap,ξ x.EA x.en x.ec,ξ x.SA x.sn x.sc,ξ (σ ⟨gB,0,ν⟩) x.bn x.bc,ξ (σ ⟨x.g,0,ν⟩) 65 65],.row (ξ (σ ⟨gB,0,ν⟩) x.bn x.bc) 38 1 x.bn (x.Fw.flatMap O4),Dk ((x.Fw.map FI).eraseIdx s),Dk (((Fx x).eraseIdx 10).eraseIdx 6),.blk b12 328 [ε ζ (a:Int),ε ζ (wd:Int),ε ζ kd]]/\i<=wd/\l.length=br.l.length) (λF' L'=>200000-(intOf (F' 14)).toNat) ?_ ?_
 ·refine⟨0,br.l,?_⟩;replace zg:=Bd.mk g3;refine DD ?_;exact Ar _
 intro G4 L' hI;obtain⟨i,l,zq,zS,rfl,⟨hin,hll⟩⟩:=hI;replace zg:=Bd.mk g3;have g4:=AO (Dy zq) zS;refine Cw λK k1=>?_;replace zg:=Bd.mk (AO g3 g4);refine Db ?_;refine Ec (λhc=>?_) λhc=>?_
 ·refine Cz ?_;try simp only[Di,Dq]
  have hit:i<wd:=by have:=AT0 ‹decide ((i:Int)<(wd:Int))=τ›;omega
  refine k1 _ _ (Cw λK k1=>DK (K3 (EB [(τ,0),(τ,1),(τ,2),(τ,3),(τ,4),(τ,8),(τ,9),(τ,10),(τ,11),(τ,12),(τ,13),(τ,14),(τ,15),(τ,16),(ο,5),(τ,6),(τ,7),(τ,17),(ο,18)] [18] ?_)));simp -implicitDefEqProofs (disch:=first|omega|decide) only [seval,-Int.reducePow,-Nat.reducePow,cC,pv,D5,EH,undef,Nz,IntKind.bits,g3,g4];refine DI (λw hw=>F4 o ho w) ?_;try refine DU hs ?_
  refine DX (Dx (m:=1) (i:=s) (v:=ξ (σ ⟨gb,0,ν⟩) br.n br.c) (DN (k:=2) rfl) rfl hget) ?_;refine DU @iO ?_;refine DX (JB 0 (i:=a+i) rfl (by rw[Jz];omega) AF rfl rfl) ?_;refine DU @iO (k1 _ _ ?_);refine Cy rfl (DD ?_);refine⟨⟨i+1,l.set (a+i) (IntKind.u8.wrap (v / 2 ^ (8*(i:Int)).toNat)).toNat,?_⟩,?_⟩
  ·exact AVo
  ·exact AXo
 refine Dr (k0 _ _ ?_);have hfin:∀ {w},St M W [.row (ξ (σ ⟨gb,0,ν⟩) br.n br.c) 5 1 br.n (Gf l),.blk x.b 97 [x.y0,x.y1,x.y2,x.y3,x.y4,x.y5,x.y6,x.y7,x.y8,ξ x.TA x.tn x.tc,ε ζ x.N,ξ x.UA x.un x.uc,π (σ ⟨x.tb.tb,0,ν⟩),ξ x.LA x.ln x.lc,ε ζ x.lim.qb,ε ζ x.lim.qo,ε ζ x.lim.qr,ξ x.MA x.mn x.mc,ε ζ x.cap,ξ x.EA x.en x.ec,ξ x.SA x.sn x.sc,ξ (σ ⟨gB,0,ν⟩) x.bn x.bc,ξ (σ ⟨x.g,0,ν⟩) 65 65],.row (ξ (σ ⟨gB,0,ν⟩) x.bn x.bc) 38 1 x.bn (x.Fw.flatMap O4),Dk ((x.Fw.map FI).eraseIdx s),Dk (((Fx x).eraseIdx 10).eraseIdx 6),.blk b12 328 [ε ζ (a:Int),ε ζ (wd:Int),ε ζ kd]] w->St M W [.blk x.b 97 [x.y0,x.y1,x.y2,x.y3,x.y4,x.y5,x.y6,x.y7,x.y8,ξ x.TA x.tn x.tc,ε ζ x.N,ξ x.UA x.un x.uc,π (σ ⟨x.tb.tb,0,ν⟩),ξ x.LA x.ln x.lc,ε ζ x.lim.qb,ε ζ x.lim.qo,ε ζ x.lim.qr,ξ x.MA x.mn x.mc,ε ζ x.cap,ξ x.EA x.en x.ec,ξ x.SA x.sn x.sc,ξ x.BA x.bn x.bc,ξ (σ ⟨x.g,0,ν⟩) 65 65],Dk (Fx (x.Mg (x.Fw.set s { br with l:=l }))),.blk b12 328 [ε ζ (a:Int),ε ζ (wd:Int),ε ζ kd]] w:=λh=>by
  rw[<-aO,<-Oz]at h;exact Dc.cls l hbr h
 refine Db ?_;refine C8 (EP λw hw=>?_);exact⟨⟨0,x.Mg (x.Fw.set s { br with l:=l })⟩,rfl,⟨AUs,.inr ⟨s,br,l,hbr,hll,rfl⟩⟩,(hfin hw).pick (ix:=[0,1]) AJ⟩
section
variable{M:List Nat}{W w:World}{L:List DW}
theorem St.addN t size(h:St M W L w):St M W (.row (ξ ν 0 0) t size 0 []::L) w:=h.add _ (World.ownsRow_nil w 0 _ _) (by simp[DW.foot,Value.ownBlock]) (by simp[DW.foot,Value.ownBlock])
end
theorem pV l(j x:Nat):(Gf l).set j (ε η (x:Int))=Gf (l.set j x):=by unfold Gf;rw[ASO]
structure LdI where
 A:Option Addr
 n:Nat
 c:Nat
 l:List Nat
 er:Int
def uC(i:LdI):Value:=.tuple #[ξ i.A i.n i.c,ε ζ i.er]
def Uv(i:LdI):DW:=.row (ξ i.A i.n i.c) 5 1 i.n (Gf i.l)
structure LdR(i:LdI)(n:Int):Prop where
 Ql:0<=i.er/\i.er<=29
 nb:i.n<=65536
 ok:i.er=0->(i.n:Int)=n
 no:¬i.er=0->i.n=0
theorem aV{off n size}(h:zI off n size=τ):0<=off/\off<=(size:Int)/\n<=(size:Int)-off:=AT0 h
def ldN(er:Int):LdI:=⟨ν,0,0,[],er⟩
theorem aW{er n}(h:0<=er/\er<=29)(h0:¬er=0):LdR (ldN er) n:=⟨h,Ar _,λh1=>absurd h1 h0,λ_=>rfl⟩
theorem zT x{b}(hb:x.b=b)p(o:Nat)off n(ho:o<18446744073709551616)(hN:x.tb.s.gen.length=x.tb.s.Fh.length)(hl:x.l.length<=90000)(hby:∀s,Ej x.tb.s s=τ->zR x s)(hbn:x.bn=x.tb.en)W(hst:St (DV (Da x)) W (Da x) W):
  Calls AGm 200 #[π (σ ⟨b,0,ν⟩),ε ζ p,ε υ (o:Int),ε ζ off,ε ζ n] W
  λen w' => ∃i:LdI,en=κ (uC i)/\LdR i n/\St (DV (Da x)) W (Uv i::Da x) w':=by
 subst hb;obtain⟨M,hM⟩:∃M,DV (Da x)=M:=⟨_,rfl⟩;rw[hM]at hst ⊢;clear hM;unfold Da Fj at hst;refine DL (M:=M) Tryz.func200 [.tmp 10,.tmp 11]  hst ?_;have zs:=Bd.mk Nz;refine DZ ?_;refine C9 rfl λK k0=>DR ?_;refine EW (Da x) (BB _) (λv:Int=>pK x o v) _ (λw hw=>H9 x rfl p o 1 ho hN hl w hw) ?_;intro v hv;by_cases hv0:v=0
 case neg =>
  rw[J9 hv0];refine DR ?_;intro b10 NG NH;refine k0 _ _ (Cw λK k0=>DZ ?_);refine C_ (Ed hv0 ?_);refine DZ ?_;refine C8 (Eg λw hw=>?_);exact⟨ldN v,rfl,aW hv.Ql hv0,hw.tail.addN _ _⟩
 have he:=hv.ok hv0;subst hv0;obtain⟨r1,r2,r3,r4⟩:=GZ he;obtain⟨e,MZ⟩:∃e,ET x.tb (De o)=e:=⟨_,rfl⟩;rw[NJ,MZ];refine DR ?_;intro b10 NG NH;refine k0 _ _ (Cw λK k0=>DZ ?_);refine C_ (DR ?_);refine Cz (k0 _ _ (DY [1,2] ?_));refine DC [0,2,3,4] λG1 g1=>?_;replace g1:=EK g1;obtain⟨lk,br,hbr,hbs,hbm⟩:=hby _ r2;refine Cw λK k0=>?_;have zg:=Bd.mk g1;refine Db ?_;refine Ec (λhc=>?_) λhc=>?_
 ·refine Db ?_;refine C8 (EP λw hw=>?_);exact⟨ldN 1,rfl,aW AJ AJ,hw.addN _ _⟩
 have hn0:=AUD hc;obtain⟨n,rfl⟩:∃n':Nat,n=(n':Int):=⟨n.toNat,by omega⟩;refine Cz (k0 _ _ (H_ (λw hw=>Dc.ACJ (x:=x) hw AL) ?_));simp only[Du,Dw,and_true];rintro⟨g,hA,n1⟩;obtain⟨s,hs⟩:∃s,De o=s:=⟨_,rfl⟩;rw[hs]at r1 hbr;refine H_ (λw hw=>(Dc.YI (x:=x) hw (AU hbr)).cap) ?_;intro hcp;refine Cw λK k0=>EB [(τ,0),(τ,1),(τ,2),(τ,3),(τ,4),(ο,5),(τ,6),(τ,7),(τ,8)] [] ?_;refine DU hA ?_;refine DI (λw hw=>F4 o ho w) ?_;try refine DU (AO hs hA) ?_
 refine DX (Ha (m:=1) rfl (λw hw=>Dc.XC (M:=M) (W:=W) (x:=x) (L:=[]) AVO hA hbr)) ?_;refine DD (k0 _ _ ?_);rw[<-hA];refine DC [3,4,14] λG2 g2=>?_;replace g2:=Dy g2;refine Cw λK k0=>C9 rfl λK k1=>?_;replace zg:=Bd.mk g2;refine DD ?_;refine DI (λw hw=>LB off n br.n AL w) ?_;try refine DD ?_
 refine k1 _ _ (C_ ?_);cases hwi:zI off n br.n with
 | false =>
  refine DD ?_;refine Db ?_;refine C8 (EP λw hw=>?_);exact⟨ldN 7,rfl,aW AJ AJ,hw.addN _ _⟩
 |true =>
 obtain⟨w1,w2,w3⟩:=aV hwi;obtain⟨off,rfl⟩:∃o':Nat,off=(o':Int):=⟨off.toNat,by omega⟩;refine DD ?_;refine Cz (k0 _ _ ?_);have hwd:((off:Int)+(n:Int)).toNat-off=n:=by omega
 refine C9 rfl λK k0=>DU hwd ?_;intro bE Qi Tg;refine EI 0 iK rfl rfl (λw hw=>(((Dc.YI (M:=M) (W:=W) (x:=x) (L:=[]) hw.tail (AU hbr)).V7 (k:=off) AL).nk (k:=n) AL).reads) (MQ _) AL AL ?_;intro A3 c3 hl3 hr3;refine DU (AO @Ao @AR.{0}) (k0 _ _ ?_);refine C8 (EP λw hw=>?_);exact⟨⟨A3,n,c3,(br.l.drop off).take n,0⟩,rfl,⟨AUs,by show n<=65536;omega,λ_=>rfl,λh=>absurd rfl h⟩,hw⟩
theorem uE x{b}(hb:x.b=b)p(o:Nat)off A n c bs(ho:o<18446744073709551616)(hN:x.tb.s.gen.length=x.tb.s.Fh.length)(hl:x.l.length<=90000)(hby:∀s,Ej x.tb.s s=τ->zR x s)(hbn:x.bn=x.tb.en)(hn:n<=65536)W(hE:Sl W W.heap.size 1 A n c (Gf bs))(ha:TJ A (DV (Da x)))(hst:St (DV (Da x)) W (Da x) W):
  Calls AGm 201 #[π (σ ⟨b,0,ν⟩),ε ζ p,ε υ (o:Int),ε ζ off,ξ A n c] W
  λen w' => ∃i:JD,en=κ (Gv i)/\StR x i/\St (DV (Da x)) W (Da i.y) w':=by
 subst hb;have hM0:x.b∈DV (Da x):=BM.2 ⟨_,.head _,.head _⟩;obtain⟨M,hM⟩:∃M,DV (Da x)=M:=⟨_,rfl⟩;rw[hM]at hst ha hM0 ⊢;clear hM;unfold Da Fj at hst;refine DL (M:=M) Tryz.func201 [.tmp 10]  hst ?_;have zs:=Bd.mk Nz;refine DZ ?_;refine C9 rfl λK k0=>DR ?_;refine EW (Da x) (BB _) (λv:Int=>pK x o v) _ (λw hw=>H9 x rfl p o 2 ho hN hl w hw) ?_;intro v hv;by_cases hv0:v=0
 case neg =>
  rw[J9 hv0];refine DR ?_;intro b10 NG NH;refine k0 _ _ (Cw λK k0=>DZ ?_);refine C_ (Ed hv0 ?_);refine DZ ?_;refine C8 (Eg λw hw=>?_);exact⟨⟨v,x⟩,rfl,⟨hv.Ql,.inl rfl⟩,hw.tail⟩
 have he:=hv.ok hv0;subst hv0;obtain⟨r1,r2,r3,r4⟩:=GZ he;obtain⟨e,MZ⟩:∃e,ET x.tb (De o)=e:=⟨_,rfl⟩;rw[NJ,MZ];refine DR ?_;intro b10 NG NH;refine k0 _ _ (Cw λK k0=>DZ ?_);refine C_ (DR ?_);refine Cz (k0 _ _ (DY [1,2] ?_));refine DC [0,2,3,4] λG3 g3=>?_;replace g3:=EK g3;obtain⟨lk,br,hbr,hbs,hbm⟩:=hby _ r2;refine H_ (λw hw=>Dc.ACJ (x:=x) hw AL) ?_;simp only[Du,Dw,and_true];rintro⟨g,hA,n1⟩;obtain⟨s,hs⟩:∃s,De o=s:=⟨_,rfl⟩;rw[hs]at r1 hbr;refine Cw λK k0=>EB [(τ,0),(τ,1),(τ,2),(τ,3),(τ,4),(ο,5),(τ,6),(τ,7),(τ,8)] [] ?_;have zg:=Bd.mk g3;refine DU hA ?_;refine DI (λw hw=>F4 o ho w) ?_;try refine DU (AO hs hA) ?_
 refine DX (Ha (m:=1) rfl (λw hw=>Dc.XC (M:=M) (W:=W) (x:=x) (L:=[]) AVO hA hbr)) ?_;refine DD (k0 _ _ ?_);rw[<-hA];refine DC [3,4,13] λG4 g4=>?_;replace g4:=Dy g4;refine Cw λK k0=>C9 rfl λK k1=>?_;replace zg:=Bd.mk g4;refine DD ?_;refine DI (λw hw=>LB off n br.n AL w) ?_;try refine DD ?_
 refine k1 _ _ (C_ ?_);cases hwi:zI off n br.n with
 | false =>
  refine DD ?_;refine Db ?_;refine C8 (EP λw hw=>?_);exact⟨⟨7,x⟩,rfl,⟨(by decide:(0:Int)<=7/\(7:Int)<=29),.inl rfl⟩,hw⟩
 |true =>
 obtain⟨w1,w2,w3⟩:=aV hwi;obtain⟨off,rfl⟩:∃o':Nat,off=(o':Int):=⟨off.toNat,by omega⟩;refine DD ?_;refine Cz (k0 _ _ ?_);by_cases AKm:br.n=0
 ·have hn0:n=0:=by omega
  refine Cw λK k0=>Db ?_;refine DC [3,4,13,14] λG5 g5=>?_;replace g5:=Dy g5;refine DK ?_;refine Dv (λF' L'=>EH F' G5 [3,4,13,14]/\L'=[.blk x.b 97 [x.y0,x.y1,x.y2,x.y3,x.y4,x.y5,x.y6,x.y7,x.y8,ξ x.TA x.tn x.tc,ε ζ x.N,ξ x.UA x.un x.uc,π (σ ⟨x.tb.tb,0,ν⟩),ξ x.LA x.ln x.lc,ε ζ x.lim.qb,ε ζ x.lim.qo,ε ζ x.lim.qr,ξ x.MA x.mn x.mc,ε ζ x.cap,ξ x.EA x.en x.ec,ξ x.SA x.sn x.sc,ξ x.BA x.bn x.bc,ξ (σ ⟨x.g,0,ν⟩) 65 65],Dk (Fx x)]) (λF' L'=>0) ?_ ?_
  ·replace zg:=Bd.mk g5;exact dP
  intro G6 L' hI;obtain⟨zq,rfl⟩:=hI;replace zg:=Bd.mk g5;have g6:=Dy zq;refine Cw λK k1=>?_;replace zg:=Bd.mk (AO g5 g6);refine Db ?_;refine Ec (λhc=>?_) λhc=>?_
  ·exact absurd (AT0 hc) AL
  refine Dr (k0 _ _ (Db ?_));refine C8 (EP λw hw=>?_);exact⟨⟨0,x⟩,rfl,⟨AUs,.inl rfl⟩,hw⟩
 refine H_ (λw hw=>(Dc.YI (x:=x) hw (AU hbr)).len) ?_;rw[Jz,Ac];intro AHi;refine Eo [.row (ξ br.A br.n br.c) 5 1 br.n (Gf br.l),.blk x.b 97 [x.y0,x.y1,x.y2,x.y3,x.y4,x.y5,x.y6,x.y7,x.y8,ξ x.TA x.tn x.tc,ε ζ x.N,ξ x.UA x.un x.uc,π (σ ⟨x.tb.tb,0,ν⟩),ξ x.LA x.ln x.lc,ε ζ x.lim.qb,ε ζ x.lim.qo,ε ζ x.lim.qr,ξ x.MA x.mn x.mc,ε ζ x.cap,ξ x.EA x.en x.ec,ξ x.SA x.sn x.sc,ξ x.BA x.bn x.bc,ξ (σ ⟨x.g,0,ν⟩) 65 65],.row (ξ x.BA x.bn x.bc) 38 1 x.bn (x.Fw.flatMap O4),Dk ((x.Fw.map FI).eraseIdx s),Dk (((Fx x).eraseIdx 10).eraseIdx 6)] (λw hw=>Dc.opn hbr hw) ?_;obtain⟨BA,aO⟩:∃BA,x.BA=BA:=⟨_,rfl⟩;obtain⟨bA,Oz⟩:∃bA,br.A=bA:=⟨_,rfl⟩;rw[aO,Oz];refine EL 2 rfl AL λgB F7 hgB EX=>?_;subst F7;replace hgB:=AAM (AO hgB EX);clear EX;refine EL 0 rfl AL λgb F7 hgb EX=>?_;subst F7;replace hgb:=AAM (AO hgb EX);clear EX;refine Cw λK k0=>Db ?_;refine DC [3,4,13,14] λG7 g7=>?_;replace g7:=Dy g7;refine DK ?_;refine Dv (λF' L' => ∃(i:Nat)(l:List Nat),EH F' G7 [3,4,13]/\F' 14=ε ζ (i:Int)/\L'=[.row (ξ (σ ⟨gb,0,ν⟩) br.n br.c) 5 1 br.n (Gf l),.blk x.b 97 [x.y0,x.y1,x.y2,x.y3,x.y4,x.y5,x.y6,x.y7,x.y8,ξ x.TA x.tn x.tc,ε ζ x.N,ξ x.UA x.un x.uc,π (σ ⟨x.tb.tb,0,ν⟩),ξ x.LA x.ln x.lc,ε ζ x.lim.qb,ε ζ x.lim.qo,ε ζ x.lim.qr,ξ x.MA x.mn x.mc,ε ζ x.cap,ξ x.EA x.en x.ec,ξ x.SA x.sn x.sc,ξ (σ ⟨gB,0,ν⟩) x.bn x.bc,ξ (σ ⟨x.g,0,ν⟩) 65 65],.row (ξ (σ ⟨gB,0,ν⟩) x.bn x.bc) 38 1 x.bn (x.Fw.flatMap O4),Dk ((x.Fw.map FI).eraseIdx s),Dk (((Fx x).eraseIdx 10).eraseIdx 6)]/\i<=n/\l.length=br.l.length) (λF' L'=>200000-(intOf (F' 14)).toNat) ?_ ?_
 ·refine⟨0,br.l,?_⟩;replace zg:=Bd.mk g7;refine DD ?_;exact Ar _
 intro G8 L' hI;obtain⟨i,l,zq,zS,rfl,⟨hin,hll⟩⟩:=hI;replace zg:=Bd.mk g7;have g8:=AO (Dy zq) zS;refine Cw λK k1=>?_;replace zg:=Bd.mk (AO g7 g8);refine Db ?_;refine Ec (λhc=>?_) λhc=>?_
 ·refine Cz ?_;try simp only[Di,Dq]
  have hit:i<n:=by have:=AT0 ‹decide ((i:Int)<(n:Int))=τ›;omega
  have APH:bs.length=n:=by have:=hE.len;rw[Jz]at this;omega
  obtain⟨eb,heb⟩:∃eb,bs[i]?=σ eb:=⟨_,AQ AL⟩;obtain⟨ab,ao,hAe,hab,-⟩:=hE.cells AL;have API:x.b≠ab:=λh=>ha _ _ hAe (h▸hM0);refine k1 _ _ (Cw λK k1=>DK (DJ rfl (DU (AO hAe Oz) ?_)));refine DX ((Sl.AGy (hAe▸hE) (hAe▸ha) (m:=1) (i:=i) (v:=ε η eb) rfl (Kq heb))) ?_;refine DD ?_;refine DX (JB 0 (i:=off+i) rfl (by rw[Jz];omega) AF rfl rfl) ?_;refine DU @pV (k1 _ _ ?_);refine Cy rfl (DD ?_);refine⟨⟨i+1,l.set (off+i) eb,?_⟩,?_⟩
  ·exact AVo
  ·exact AXo
 refine Dr (k0 _ _ ?_);have hfin:∀ {w},St M W [.row (ξ (σ ⟨gb,0,ν⟩) br.n br.c) 5 1 br.n (Gf l),.blk x.b 97 [x.y0,x.y1,x.y2,x.y3,x.y4,x.y5,x.y6,x.y7,x.y8,ξ x.TA x.tn x.tc,ε ζ x.N,ξ x.UA x.un x.uc,π (σ ⟨x.tb.tb,0,ν⟩),ξ x.LA x.ln x.lc,ε ζ x.lim.qb,ε ζ x.lim.qo,ε ζ x.lim.qr,ξ x.MA x.mn x.mc,ε ζ x.cap,ξ x.EA x.en x.ec,ξ x.SA x.sn x.sc,ξ (σ ⟨gB,0,ν⟩) x.bn x.bc,ξ (σ ⟨x.g,0,ν⟩) 65 65],.row (ξ (σ ⟨gB,0,ν⟩) x.bn x.bc) 38 1 x.bn (x.Fw.flatMap O4),Dk ((x.Fw.map FI).eraseIdx s),Dk (((Fx x).eraseIdx 10).eraseIdx 6)] w->St M W [.blk x.b 97 [x.y0,x.y1,x.y2,x.y3,x.y4,x.y5,x.y6,x.y7,x.y8,ξ x.TA x.tn x.tc,ε ζ x.N,ξ x.UA x.un x.uc,π (σ ⟨x.tb.tb,0,ν⟩),ξ x.LA x.ln x.lc,ε ζ x.lim.qb,ε ζ x.lim.qo,ε ζ x.lim.qr,ξ x.MA x.mn x.mc,ε ζ x.cap,ξ x.EA x.en x.ec,ξ x.SA x.sn x.sc,ξ x.BA x.bn x.bc,ξ (σ ⟨x.g,0,ν⟩) 65 65],Dk (Fx (x.Mg (x.Fw.set s { br with l:=l })))] w:=λh=>by
  rw[<-aO,<-Oz]at h;exact Dc.cls l hbr h
 refine Db ?_;refine C8 (EP λw hw=>?_);exact⟨⟨0,x.Mg (x.Fw.set s { br with l:=l })⟩,rfl,⟨AUs,.inr ⟨s,br,l,hbr,hll,rfl⟩⟩,hfin hw⟩
theorem l7 x{b}(hb:x.b=b)p(d:Nat)to(o:Nat)off n(hd:d<18446744073709551616)(ho:o<18446744073709551616)(hN:x.tb.s.gen.length=x.tb.s.Fh.length)(hl:x.l.length<=90000)(hby:∀s,Ej x.tb.s s=τ->zR x s)(hbn:x.bn=x.tb.en)W(hst:St (DV (Da x)) W (Da x) W):
  Calls AGm 202 #[π (σ ⟨b,0,ν⟩),ε ζ p,ε υ (d:Int),ε ζ to,ε υ (o:Int),ε ζ off,ε ζ n] W
  λen w' => ∃i:JD,en=κ (Gv i)/\StR x i/\St (DV (Da x)) W (Da i.y) w':=by
 subst hb;obtain⟨M,hM⟩:∃M,DV (Da x)=M:=⟨_,rfl⟩;rw[hM]at hst ⊢;clear hM;unfold Da Fj at hst;refine DL (M:=M) Tryz.func202 [.tmp 14]  hst ?_;have zs:=Bd.mk Nz;refine DZ ?_;refine Cw λK k0=>C9 rfl λK k1=>DR ?_;refine EW (Da x) (BB _) (λv:Int=>pK x d v) _ (λw hw=>H9 x rfl p d 2 hd hN hl w hw) ?_;intro v hv;by_cases hv0:v=0
 case neg =>
  rw[J9 hv0];refine DR ?_;intro b10 NG NH;refine k1 _ _ (DZ ?_);refine C_ (Ed hv0 ?_);refine DZ ?_;refine C8 (Eg λw hw=>?_);exact⟨⟨v,x⟩,rfl,⟨hv.Ql,.inl rfl⟩,hw.tail⟩
 have he:=hv.ok hv0;subst hv0;obtain⟨r1,r2,-,-⟩:=GZ he;obtain⟨e1,he1⟩:∃e1,ET x.tb (De d)=e1:=⟨_,rfl⟩;rw[NJ,he1];refine DR ?_;intro b10 NG NH;refine k1 _ _ (DZ ?_);refine C_ (DR ?_);refine Cz (k0 _ _ (DY [1,2] ?_));refine DC [0,1,2,3,4,5,6] λG1 g1=>?_;replace g1:=EK g1;refine Cw λK k0=>C9 rfl λK k1=>?_;have zg:=Bd.mk g1;refine DD ?_;refine EW (Da x) (BB _) (λv:Int=>pK x o v) _ (λw hw=>H9 x rfl p o 1 ho hN hl w hw) ?_;intro v hv;by_cases hv0:v=0
 case neg =>
  rw[J9 hv0];refine DD ?_;intro b10 NG NH;refine k1 _ _ (Db ?_);refine C_ (DU hv0 ?_);refine Db ?_;refine C8 (EP λw hw=>?_);exact⟨⟨v,x⟩,rfl,⟨hv.Ql,.inl rfl⟩,hw.tail⟩
 have he:=hv.ok hv0;subst hv0;obtain⟨r3,r4,-,-⟩:=GZ he;obtain⟨e,MZ⟩:∃e,ET x.tb (De o)=e:=⟨_,rfl⟩;rw[NJ,MZ];refine DD ?_;intro b10 NG NH;refine k1 _ _ (Db ?_);refine C_ (DD ?_);refine Cz (k0 _ _ (DY [1,2] ?_));refine DC [0,2,3,4,5,6] λG2 g2=>?_;replace g2:=Dy g2;obtain⟨-,br,hbr,-,hbm⟩:=hby _ r2;obtain⟨-,bo,nP,-,hbp⟩:=hby _ r4;refine Cw λK k0=>?_;replace zg:=Bd.mk g2;refine Db ?_;refine Ec (λhc=>?_) λhc=>?_
 ·refine Db ?_;refine C8 (EP λw hw=>?_);exact⟨⟨1,x⟩,rfl,⟨(by decide:(0:Int)<=1/\(1:Int)<=29),.inl rfl⟩,hw⟩
 have hn0:=AUD hc;obtain⟨n,rfl⟩:∃n':Nat,n=(n':Int):=⟨n.toNat,by omega⟩;refine Cz (k0 _ _ (H_ (λw hw=>Dc.ACJ (x:=x) hw AL) ?_));simp only[Du,Dw,and_true];rintro⟨g,hA,n1⟩;obtain⟨s,hs⟩:∃s,De d=s:=⟨_,rfl⟩;obtain⟨s2,hs2⟩:∃s,De o=s:=⟨_,rfl⟩;rw[hs]at r1 hbr;rw[hs2]at r3 nP;refine H_ (λw hw=>(Dc.YI (x:=x) hw (AU nP)).cap) ?_;intro hcp;refine Cw λK k0=>EB [(τ,0),(τ,1),(τ,2),(τ,3),(τ,4),(τ,8),(τ,9),(τ,10),(τ,11),(τ,12),(ο,5),(τ,6),(τ,7),(ο,13),(τ,14),(τ,15),(τ,16),(τ,17)] [] ?_;refine DU hA ?_;refine DI (λw hw=>F4 d hd w) ?_;try refine DU (AO hs hA) ?_
 refine DX (Ha (m:=1) rfl (λw hw=>Dc.XC (M:=M) (W:=W) (x:=x) (L:=[]) AVO hA hbr)) ?_;refine DU hA ?_;refine DI (λw hw=>F4 o ho w) ?_;try refine DU (AO hs2 hA) ?_
 refine DX (Ha (m:=1) rfl (λw hw=>Dc.XC (M:=M) (W:=W) (x:=x) (L:=[]) AVO hA nP)) ?_;refine DU hA (k0 _ _ ?_);rw[<-hA];refine DC [3,5,6,19,20] λG3 g3=>?_;replace g3:=Dy g3;refine Cw λK k0=>Cw λK k1=>?_;obtain⟨cb,hcb⟩:∃cb,(zI to n br.n&&zI off n bo.n)=cb:=⟨_,rfl⟩;refine Df (λ_ _=>True) (λF' L'=>EH F' G3 [3,5,6,19,20]/\F' 74=θ (!cb)/\L'=[.blk x.b 97 [x.y0,x.y1,x.y2,x.y3,x.y4,x.y5,x.y6,x.y7,x.y8,ξ x.TA x.tn x.tc,ε ζ x.N,ξ x.UA x.un x.uc,π (σ ⟨x.tb.tb,0,ν⟩),ξ x.LA x.ln x.lc,ε ζ x.lim.qb,ε ζ x.lim.qo,ε ζ x.lim.qr,ξ x.MA x.mn x.mc,ε ζ x.cap,ξ x.EA x.en x.ec,ξ x.SA x.sn x.sc,ξ x.BA x.bn x.bc,ξ (σ ⟨x.g,0,ν⟩) 65 65],Dk (Fx x)]) ?_ ?_
 ·subst hcb;refine Cy rfl ?_;cases hwi:zI to n br.n with
  | false =>
   replace zg:=Bd.mk g3;refine DD ?_;refine DI (λw hw=>LB to n br.n AL w) ?_;try exact Yc hwi
  | true =>
   replace zg:=Bd.mk g3;refine DD ?_;refine DI (λw hw=>LB to n br.n AL w) ?_;try refine DU hwi ?_
   refine DI (λw hw=>LB off n bo.n AL w) ?_;try exact dP
 intro G4 L' _ hF;obtain⟨zq,AKn,rfl⟩:=hF;replace zg:=Bd.mk g3;have g4:=AO (Dy zq) AKn;refine k1 _ _ (C_ ?_);cases cb with
 | false =>
  replace zg:=Bd.mk g4;refine DD ?_;refine Db ?_;refine C8 (EP λw hw=>?_);exact⟨⟨7,x⟩,rfl,⟨(by decide:(0:Int)<=7/\(7:Int)<=29),.inl rfl⟩,hw⟩
 |true =>
 rw[Au]at hcb;obtain⟨w1,w2,w3⟩:=aV hcb.1;obtain⟨w4,w5,w6⟩:=aV hcb.2;obtain⟨to,rfl⟩:∃o':Nat,to=(o':Int):=⟨to.toNat,by omega⟩;obtain⟨off,rfl⟩:∃o':Nat,off=(o':Int):=⟨off.toNat,by omega⟩;replace zg:=Bd.mk g4;refine DD ?_;refine Cz (k0 _ _ ?_);have hwd:((off:Int)+(n:Int)).toNat-off=n:=by omega
 refine C9 rfl λK k0=>DU hwd ?_;intro bE Qi Tg;refine EI 0 iK rfl rfl (λw hw=>(((Dc.YI (M:=M) (W:=W) (x:=x) (L:=[]) hw.tail (AU nP)).V7 (k:=off) AL).nk (k:=n) AL).reads) (MQ _) AL AL ?_;intro AX cx hlx hrx;refine DU (AO @Ao @AR.{0}) (k0 _ _ ?_);obtain⟨lx,AKo⟩:∃lx,(bo.l.drop off).take n=lx:=⟨_,rfl⟩;rw[AKo];refine DY [1,2,0] ?_;refine H_ (λw hw=>(Sl.EJ hw (DN (k:=2) rfl)).len) ?_;rw[Jz,Ac];intro APJ;refine DC [3,6,19,21] λG5 g5=>?_;replace g5:=Dy g5;by_cases AKm:br.n=0
 ·have hn0:n=0:=by omega
  refine Cw λK k0=>?_;replace zg:=Bd.mk g5;refine Db ?_;refine DC [3,6,19,21,22] λG6 g6=>?_;replace g6:=Dy g6;refine DK ?_;refine Dv (λF' L'=>EH F' G6 [3,6,19,21,22]/\L'=[.blk x.b 97 [x.y0,x.y1,x.y2,x.y3,x.y4,x.y5,x.y6,x.y7,x.y8,ξ x.TA x.tn x.tc,ε ζ x.N,ξ x.UA x.un x.uc,π (σ ⟨x.tb.tb,0,ν⟩),ξ x.LA x.ln x.lc,ε ζ x.lim.qb,ε ζ x.lim.qo,ε ζ x.lim.qr,ξ x.MA x.mn x.mc,ε ζ x.cap,ξ x.EA x.en x.ec,ξ x.SA x.sn x.sc,ξ x.BA x.bn x.bc,ξ (σ ⟨x.g,0,ν⟩) 65 65],Dk (Fx x),.row (ξ AX n cx) 5 1 n (Gf lx)]) (λF' L'=>0) ?_ ?_
  ·replace zg:=Bd.mk g6;exact dP
  intro G7 L' hI;obtain⟨zq,rfl⟩:=hI;replace zg:=Bd.mk g6;have g7:=Dy zq;refine Cw λK k1=>?_;replace zg:=Bd.mk (AO g6 g7);refine Db ?_;refine Ec (λhc=>?_) λhc=>?_
  ·exact absurd (AT0 hc) AL
  refine Dr (k0 _ _ (Db ?_));refine C8 (EP λw hw=>?_);exact⟨⟨0,x⟩,rfl,⟨AUs,.inl rfl⟩,hw.pick (ix:=[0,1]) AJ⟩
 refine H_ (λw hw=>(Dc.YI (x:=x) hw (AU hbr)).len) ?_;rw[Jz,Ac];intro AHi;refine Eo [.row (ξ br.A br.n br.c) 5 1 br.n (Gf br.l),.blk x.b 97 [x.y0,x.y1,x.y2,x.y3,x.y4,x.y5,x.y6,x.y7,x.y8,ξ x.TA x.tn x.tc,ε ζ x.N,ξ x.UA x.un x.uc,π (σ ⟨x.tb.tb,0,ν⟩),ξ x.LA x.ln x.lc,ε ζ x.lim.qb,ε ζ x.lim.qo,ε ζ x.lim.qr,ξ x.MA x.mn x.mc,ε ζ x.cap,ξ x.EA x.en x.ec,ξ x.SA x.sn x.sc,ξ x.BA x.bn x.bc,ξ (σ ⟨x.g,0,ν⟩) 65 65],.row (ξ x.BA x.bn x.bc) 38 1 x.bn (x.Fw.flatMap O4),Dk ((x.Fw.map FI).eraseIdx s),Dk (((Fx x).eraseIdx 10).eraseIdx 6),.row (ξ AX n cx) 5 1 n (Gf lx)] (λw hw=>Dc.opn hbr hw) ?_;obtain⟨BA,aO⟩:∃BA,x.BA=BA:=⟨_,rfl⟩;obtain⟨bA,Oz⟩:∃bA,br.A=bA:=⟨_,rfl⟩;rw[aO,Oz];refine EL 2 rfl AL λgB F7 hgB EX=>?_;subst F7;replace hgB:=AAM (AO hgB EX);clear EX;refine EL 0 rfl AL λgb F7 hgb EX=>?_;subst F7;replace hgb:=AAM (AO hgb EX);clear EX;refine Cw λK k0=>?_;replace zg:=Bd.mk g5;refine Db ?_;refine DC [3,6,19,21,22] λG8 g8=>?_;replace g8:=Dy g8;refine DK ?_;refine Dv (λF' L' => ∃(i:Nat)(l:List Nat),EH F' G8 [3,6,19,21]/\F' 22=ε ζ (i:Int)/\L'=[.row (ξ (σ ⟨gb,0,ν⟩) br.n br.c) 5 1 br.n (Gf l),.blk x.b 97 [x.y0,x.y1,x.y2,x.y3,x.y4,x.y5,x.y6,x.y7,x.y8,ξ x.TA x.tn x.tc,ε ζ x.N,ξ x.UA x.un x.uc,π (σ ⟨x.tb.tb,0,ν⟩),ξ x.LA x.ln x.lc,ε ζ x.lim.qb,ε ζ x.lim.qo,ε ζ x.lim.qr,ξ x.MA x.mn x.mc,ε ζ x.cap,ξ x.EA x.en x.ec,ξ x.SA x.sn x.sc,ξ (σ ⟨gB,0,ν⟩) x.bn x.bc,ξ (σ ⟨x.g,0,ν⟩) 65 65],.row (ξ (σ ⟨gB,0,ν⟩) x.bn x.bc) 38 1 x.bn (x.Fw.flatMap O4),Dk ((x.Fw.map FI).eraseIdx s),Dk (((Fx x).eraseIdx 10).eraseIdx 6),.row (ξ AX n cx) 5 1 n (Gf lx)]/\i<=n/\l.length=br.l.length) (λF' L'=>200000-(intOf (F' 22)).toNat) ?_ ?_
 ·refine⟨0,br.l,?_⟩;replace zg:=Bd.mk g8;refine DD ?_;exact Ar _
 intro G9 L' hI;obtain⟨i,l,zq,kr,rfl,⟨hin,hll⟩⟩:=hI;replace zg:=Bd.mk g8;have g9:=AO (Dy zq) kr;refine Cw λK k1=>?_;replace zg:=Bd.mk (AO g8 g9);refine Db ?_;refine Ec (λhc=>?_) λhc=>?_
 ·refine Cz ?_;try simp only[Di,Dq]
  have hit:i<n:=by have:=AT0 ‹decide ((i:Int)<(n:Int))=τ›;omega
  obtain⟨eb,heb⟩:∃eb,lx[i]?=σ eb:=⟨_,AQ AL⟩;refine k1 _ _ ?_;obtain⟨AY,hAY⟩:∃AY,AX=AY:=⟨_,rfl⟩;rw[hAY];refine EL 5 rfl AL λgx F7 hgx EX=>?_;subst F7;replace hgx:=AAM (AO hgx EX);clear EX;refine Cw λK k1=>DK (DJ rfl (DU (AO Oz hAY) ?_));refine DX (Dx (m:=1) (i:=i) (v:=ε η eb) (DN (k:=5) rfl) rfl (Kq heb)) ?_;refine DD ?_;refine DX (JB 0 (i:=to+i) rfl (by rw[Jz];omega) AF rfl rfl) ?_;refine DU @pV (k1 _ _ ?_);rw[<-hAY];refine Cy rfl (DD ?_);refine⟨⟨i+1,l.set (to+i) eb,?_⟩,?_⟩
  ·exact AVo
  ·exact AXo
 refine Dr (k0 _ _ ?_);have hfin:∀ {w},St M W [.row (ξ (σ ⟨gb,0,ν⟩) br.n br.c) 5 1 br.n (Gf l),.blk x.b 97 [x.y0,x.y1,x.y2,x.y3,x.y4,x.y5,x.y6,x.y7,x.y8,ξ x.TA x.tn x.tc,ε ζ x.N,ξ x.UA x.un x.uc,π (σ ⟨x.tb.tb,0,ν⟩),ξ x.LA x.ln x.lc,ε ζ x.lim.qb,ε ζ x.lim.qo,ε ζ x.lim.qr,ξ x.MA x.mn x.mc,ε ζ x.cap,ξ x.EA x.en x.ec,ξ x.SA x.sn x.sc,ξ (σ ⟨gB,0,ν⟩) x.bn x.bc,ξ (σ ⟨x.g,0,ν⟩) 65 65],.row (ξ (σ ⟨gB,0,ν⟩) x.bn x.bc) 38 1 x.bn (x.Fw.flatMap O4),Dk ((x.Fw.map FI).eraseIdx s),Dk (((Fx x).eraseIdx 10).eraseIdx 6),.row (ξ AX n cx) 5 1 n (Gf lx)] w->St M W [.blk x.b 97 [x.y0,x.y1,x.y2,x.y3,x.y4,x.y5,x.y6,x.y7,x.y8,ξ x.TA x.tn x.tc,ε ζ x.N,ξ x.UA x.un x.uc,π (σ ⟨x.tb.tb,0,ν⟩),ξ x.LA x.ln x.lc,ε ζ x.lim.qb,ε ζ x.lim.qo,ε ζ x.lim.qr,ξ x.MA x.mn x.mc,ε ζ x.cap,ξ x.EA x.en x.ec,ξ x.SA x.sn x.sc,ξ x.BA x.bn x.bc,ξ (σ ⟨x.g,0,ν⟩) 65 65],Dk (Fx (x.Mg (x.Fw.set s { br with l:=l }))),.row (ξ AX n cx) 5 1 n (Gf lx)] w:=λh=>by
  rw[<-aO,<-Oz]at h;exact Dc.cls l hbr h
 refine Db ?_;refine C8 (EP λw hw=>?_);exact⟨⟨0,x.Mg (x.Fw.set s { br with l:=l })⟩,rfl,⟨AUs,.inr ⟨s,br,l,hbr,hll,rfl⟩⟩,(hfin hw).pick (ix:=[0,1]) AJ⟩
def l9:=AO (AO @LZ.eq_1 @G_.eq_1) (AO @Ub.eq_1 (AO @PE.eq_1 @Ac))
theorem aX A B n c m d fs gs x y W(hE:Sl W W.heap.size 2 A n c (cl NR fs))(hF:Sl W W.heap.size 2 B m d (cl NR gs)):
  Calls AGm 136 #[PE x A n c,PE y B m d] W λe w'=>e=κ (θ (decide (x=y/\fs=gs)))/\Below W.heap.size W w':=by
 have hln:fs.length=n:=GM H5 AL hE.len;have hlm:gs.length=m:=GM H5 AL hF.len;have hmax:=hE.max;have hcap:=hE.cap;refine DL (M:=[]) Tryz.func136 [.tmp 4] (St.nil _ _) ?_;refine C9 rfl λK k0=>?_;have zs:=Bd.mk l9;refine DR ?_;intro b2 hb2 b3 hb3 h3;refine k0 _ _ (DC [2,3] λG1 g1=>?_);replace g1:=EK g1;refine Cw λK k0=>Cw λK k1=>?_;refine Df (λ_ _=>True) (λF' L'=>EH F' G1 [2,3]/\F' 19=θ (decide (¬x=y∨¬n=m))/\L'=[G_ b3 y B m d,G_ b2 x A n c]) ?_ ?_
 ·exact AWr
 intro G2 L' _ hF;obtain⟨zq,aB,rfl⟩:=hF;have zg:=Bd.mk g1;have g2:=AO (Dy zq) aB;refine k1 _ _ ?_;replace zg:=Bd.mk g2;refine Ec (λhc=>?_) λhc=>?_
 ·have q1:=AT0 hc;refine Db ?_;refine C8 (EP λw hw=>?_);refine⟨?_,hw.below⟩;rw[AUC];rintro⟨h1,h2⟩;subst h2;omega
 have q1:=AUD hc;obtain⟨rfl,rfl⟩:x=y/\n=m:=by omega
 refine Cz (k0 _ _ (Cw λK k0=>Db ?_));refine DC [2,3,5] λG3 g3=>?_;replace g3:=Dy g3;refine DK ?_;refine Dv (λF' L' => ∃(k:Nat),EH F' G3 [2,3]/\F' 5=ε ζ (k:Int)/\L'=[G_ b3 x B n d,G_ b2 x A n c]/\k<=n/\fs.take k=gs.take k) (λF' L'=>n-(intOf (F' 5)).toNat) ?_ ?_
 ·refine⟨0,?_⟩;replace zg:=Bd.mk g3;refine DD ?_;omega
 intro G4 L' hI;obtain⟨k,zq,Mq,rfl,⟨hk,hq⟩⟩:=hI;replace zg:=Bd.mk g3;have g4:=AO (Dy zq) Mq;refine Cw λK k1=>?_;replace zg:=Bd.mk (AO g3 g4);refine Db ?_;refine Ec (λhc=>?_) λhc=>?_
 ·refine Cz ?_;try simp only[Di,Dq]
  have hlt:k<n:=by have:=AT0 ‹_›;omega
  obtain⟨b0,off,rfl,hb0,-⟩:=hE.cells AL;obtain⟨b1,APK,rfl,hb1,-⟩:=hF.cells AL;obtain⟨u,hu⟩:=Fg (l:=fs) (i:=k) AL;obtain⟨v,hv⟩:=Fg (l:=gs) (i:=k) AL;refine k1 _ _ (Cw λK k1=>DK (Cw λK k2=>EB [(τ,0),(τ,1),(τ,2),(τ,3),(τ,4),(τ,5),(τ,6),(τ,7),(τ,8),(τ,9),(τ,10)] [] ?_));refine DD ?_;refine DX (hE.fld hu) ?_;refine DD ?_;refine DX (hF.fld hv) ?_;refine DD (k2 _ _ ?_);refine Ec (λhc=>?_) λhc=>?_
  ·have hne:¬u=v:=by
    rintro rfl;simp at hc
   refine Db ?_;refine C8 (EP λw hw=>?_);refine⟨?_,hw.below⟩;rw[AUC];rintro⟨-,rfl⟩;rw[hu]at hv;injection hv with hv;exact hne hv
  have huv:u=v:=by
   obtain⟨u1,u2⟩:=u;obtain⟨v1,v2⟩:=v;simpa using hc
  subst huv;refine Cz (k1 _ _ (Cy rfl (DU @DT ?_)));refine⟨⟨k+1,?_⟩,?_⟩
  ·refine DU @Af ?_;refine⟨by omega,?_⟩;obtain⟨h1,h2⟩:=Ab.1 hu;obtain⟨h3,h4⟩:=Ab.1 hv;rw[CE h1,CE h3,h2,h4,hq]
  ·exact AXo
 refine Dr (k0 _ _ ?_);have hkn:k=n:=by have:=AUD ‹_›;omega
 subst hkn;rw[Aw AL,Aw AL]at hq;refine Db ?_;refine C8 (EP λw hw=>?_);exact⟨by simp[hq],hw.below⟩
def AHk:=AO (AO (AO (AO @Ac @DT) (AO @KM @cM)) (AO (AO @Ey @Ez) (AO @E5 (AO @E8 @E9)))) (AO (AO (AO @Et @Eu) (AO @FK (AO @FO @EZ))) (AO (AO @Ea @aQ.eq_1) (AO @zK.eq_1 (AO @PE.eq_1 @cMp))))
section
variable{P:Program}{M:List Nat}{W w:World}{L R:List DW}
theorem Dc.AKq{x}(h:St M W (Fj x::Dk (Fx x)::L) w)(hn:0<x.tn):∃g,x.TA=σ ⟨g,0,ν⟩/\x.b≠g/\Qc L g:=by
 have h1:=(h.IG (k:=0) rfl).swp;rcases h1.LX with⟨-,h0⟩|⟨g,e,-,hne⟩
 ·omega
 ·exact⟨g,e,hne⟩
theorem Dc.AKr{x T g i t}(ht:Hd P T=σ (τ,2))(hA:x.TA=σ ⟨g,0,ν⟩)(hi:x.Lh[i]?=σ t)(hw:St M W (Fj x::Dk (Fx x)::L) w):(Instr.loadAt T (π (σ ⟨g,i*2,ν⟩))).run P w=.ok (.agg #[ε ζ t.len,ξ t.A t.n t.c]) w:=by
 have h1:=hw.IG (k:=0) rfl;rw[hA]at h1;exact IJ (M:=M) (W:=W) (vs:=O8 t) (DN (k:=1) rfl) ht (K5 Ol hi) w h1
theorem Dc.AFT{x}(hw:St M W (Fj x::Dk (Fx x)::L) w):Reads w w.heap.size 2 x.TA x.tn (x.Lh.flatMap O8):=(Sl.EJ (hw.IG (k:=0) rfl) (DN (k:=1) rfl)).reads
theorem iP{r}(h:St M W (r::Dk R::L) w):St M W (Dk (R++[r])::L) w:=by
 have h1:=h.swp.GV;have h2:St M W ((R++[r])++L) w:=by rw[Bh];exact h1
 exact h2.Dk
end
theorem XD a b:ones (a++b)=(ones a&&ones b):=by unfold ones;rw[AUV]
theorem XE(l:List QU):ones (l.flatMap O8)=τ:=by
 induction l with
 |nil=>rfl
 |cons a l ih=>rw[BK,XD,ih];rfl
theorem XF l:ones (cl NR l)=τ:=by
 unfold cl
 induction l with
 |nil=>rfl
 |cons a l ih=>rw[BK,XD,ih];rfl
theorem Y9:Jy AGm 84=σ (216,2,32):=by kernel_rfl
theorem zU:Jy AGm 214=σ (258,2,16):=by kernel_rfl
def Dc.XG(x:Dc)(A:Option Addr)(n c:Nat)(l:List QU):Dc := { x with TA:=A,tn:=n,tc:=c,Lh:=l }
structure RgI where
 tag:Int
 er:Int
 y:Dc
def rgV(i:RgI):Value:=.tuple #[ε ζ i.tag,ε ζ i.er]
structure RgR(x:Dc)(len:Int)(fs:List Fd)(i:RgI):Prop where
 Ql:0<=i.er/\i.er<=29
 old:¬(Ho len fs=0/\i.er=0/\i.tag=x.tn+1)->i.y=x
 ok:i.er=0->Ho len fs=0/\1<=i.tag
 new:Ho len fs=0/\i.er=0/\i.tag=x.tn+1->x.tn<255∧∃A c t,t.len=len/\t.fs=fs/\i.y=x.XG A (x.tn+1) c (x.Lh++[t])
 tag:i.er=0->i.tag<=x.tn+1
theorem Dc.cly{M W w L K x t A c}(h:St M W (K::Dk (Fx x) :: .row (ξ A (x.tn+1) c) 216 2 (x.tn+1) ((x.Lh++[t]).flatMap O8)::Y3 t::L) w):St M W (K::Dk (Fx (x.XG A (x.tn+1) c (x.Lh++[t])))::L) w:=by
 have h1:St M W (_::K::Dk ((Fx x).eraseIdx 0) :: .row (ξ A (x.tn+1) c) 216 2 (x.tn+1) ((x.Lh++[t]).flatMap O8)::Y3 t::L) w:=(h.IG (k:=0) rfl).swp;have h2:=St.IL (R:=Fx x) (k:=0) _ (by show 0<11;decide) (h1.tail.perm (.cons _ (CL _ _ _)));have h3:=St.IG (R:=(Fx x).set 0 (.row (ξ A (x.tn+1) c) 216 2 (x.tn+1) ((x.Lh++[t]).flatMap O8))) (k:=9) rfl h2;have h4:=iP (h3.perm ((CG (l₁:=[_,_,_])).trans (.cons _ (CL _ _ _))).symm);have h5:=St.IL (R:=(Fx x).set 0 (.row (ξ A (x.tn+1) c) 216 2 (x.tn+1) ((x.Lh++[t]).flatMap O8))) (k:=9) _ (by show 9<11;decide) h4.swp;have h6:Fx (x.XG A (x.tn+1) c (x.Lh++[t]))=(((Fx x).set 0 (.row (ξ A (x.tn+1) c) 216 2 (x.tn+1) ((x.Lh++[t]).flatMap O8))).set 9 (Dk (x.Lh.map Y3++[Y3 t]))):=by
  unfold Fx Dc.XG;dsimp only;rw[Bj];rfl
 rw[h6];exact h5
theorem aY x{b}(hb:x.b=b)A n c fs len(htn:x.tn<=255)W(hE:Sl W W.heap.size 2 A n c (cl NR fs))(ha:TJ A (DV (Da x)))(hst:St (DV (Da x)) W (Da x) W):
  Calls AGm 94 #[π (σ ⟨b,9,ν⟩),PE len A n c] W
  λen w' => ∃i:RgI,en=κ (rgV i)/\RgR x len fs i/\St (DV (Da x)) W (Da i.y) w':=by
 subst hb;have htl:=Dc.tyl hst;have hln:fs.length=n:=GM H5 AL hE.len;obtain⟨M,hM⟩:∃M,DV (Da x)=M:=⟨_,rfl⟩;rw[hM]at hst ha ⊢;clear hM;unfold Da Fj at hst;refine DL (M:=M) Tryz.func94 [.tmp 4,.tmp 5]  hst ?_;refine C9 rfl λK k0=>?_;have zs:=Bd.mk AHk;refine DR ?_;intro b3 hb3 hf3;refine k0 _ _ (DY [1,2,0] ?_);refine Cw λK k0=>C9 rfl λK k1=>DR ?_;refine DI (λw hw=>Jd A n c fs len w (hE.atM hw ha)) ?_;try refine DR ?_
 refine k1 _ _ (DC [0,3,6] λG1 g1=>?_);replace g1:=EK g1;have zg:=Bd.mk g1;refine Db ?_;refine C_ ?_;by_cases hck:Ho len fs=0
 case neg =>
  have hr:=qx len fs;refine DU hck ?_;refine Db ?_;refine C8 (EP λw hw=>?_);exact⟨⟨0,Ho len fs,x⟩,rfl,⟨(by show 0<=Ho len fs/\Ho len fs<=29;omega),λ_=>rfl,λh=>absurd h hck,λh=>absurd h.1 hck,λh=>absurd h hck⟩,hw.pick (ix:=[0,1]) AJ⟩
 have d0:decide (Ho len fs=0)=τ:=AUB hck;obtain⟨c1,c2,c3,c4,c5,c6,c7⟩:=J3 hck;refine DU d0 ?_;refine Cz (k0 _ _ (Cw λK k0=>Db ?_));refine DC [0,3,7] λG2 g2=>?_;replace g2:=Dy g2;refine DK ?_;refine Dv (λF' L' => ∃(i:Nat),EH F' G2 [0,3]/\F' 7=ε ζ (i:Int)/\L'=[.blk x.b 97 [x.y0,x.y1,x.y2,x.y3,x.y4,x.y5,x.y6,x.y7,x.y8,ξ x.TA x.tn x.tc,ε ζ x.N,ξ x.UA x.un x.uc,π (σ ⟨x.tb.tb,0,ν⟩),ξ x.LA x.ln x.lc,ε ζ x.lim.qb,ε ζ x.lim.qo,ε ζ x.lim.qr,ξ x.MA x.mn x.mc,ε ζ x.cap,ξ x.EA x.en x.ec,ξ x.SA x.sn x.sc,ξ x.BA x.bn x.bc,ξ (σ ⟨x.g,0,ν⟩) 65 65],Dk (Fx x),.blk b3 216 [ε ζ len,ξ A n c]]/\i<=x.tn) (λF' L'=>200000-(intOf (F' 7)).toNat) ?_ ?_
 ·refine⟨0,?_⟩;replace zg:=Bd.mk g2;refine DD ?_;exact Ar _
 intro G3 L' hI;obtain⟨i,zq,Pg,rfl,hin⟩:=hI;replace zg:=Bd.mk g2;have g3:=AO (Dy zq) Pg;refine Cw λK k1=>?_;replace zg:=Bd.mk (AO g2 g3);refine Db ?_;refine Ec (λhc=>?_) λhc=>?_
 ·refine Cz ?_;try simp only[Di,Dq]
  have hit:i<x.tn:=by have:=AT0 ‹decide ((i:Int)<(x.tn:Int))=τ›;omega
  obtain⟨t,ht⟩:∃t,x.Lh[i]?=σ t:=⟨_,AQ AL⟩;refine k1 _ _ (H_ (λw hw=>Dc.AKq (x:=x) hw AL) ?_);simp only[Du,Dw,and_true];rintro⟨g,hA,n1,n2⟩;refine Cw λK k1=>DK (Cw λK k2=>EB [(τ,0),(τ,1),(τ,2),(τ,3),(τ,4),(τ,5),(τ,6),(τ,7),(ο,8)] [8] ?_);refine DU hA ?_;refine DX ((λw hw=>Dc.AKr (M:=M) (W:=W) (x:=x) (L:=[.blk b3 216 [ε ζ len,ξ A n c]]) rfl hA ht AVO)) ?_;refine DD ?_;refine DI (λw hw=>aX t.A A t.n t.c n c t.fs fs t.len len w (Dc.AFN (M:=M) (W:=W) (x:=x) (L:=[.blk b3 216 [ε ζ len,ξ A n c]]) AVO (AU ht)) (hE.atM hw ha)) ?_;try refine DD ?_
  refine k2 _ _ ?_;rw[<-hA];refine C_ ?_;by_cases hs:t.len=len/\t.fs=fs
  ·rw[AUB hs];refine DD ?_;refine Db ?_;refine C8 (EP λw hw=>?_);exact⟨⟨(i:Int)+1,0,x⟩,rfl,⟨AUs,λ_=>rfl,λ_=>⟨hck,by show 1<=(i:Int)+1;omega⟩,λh=>by have:(i:Int)+1=x.tn+1:=h.2.2;omega,λ_=>by show (i:Int)+1<=x.tn+1;omega⟩,hw.pick (ix:=[0,1]) AJ⟩
  rw[AUC hs];refine DD ?_;refine Cz (k1 _ _ (Cy rfl (DD ?_)));refine⟨⟨i+1,?_⟩,?_⟩
  ·exact AU0
  ·exact AXo
 refine Dr (k0 _ _ (DC [0,3] λG4 g4=>?_));replace g4:=Dy g4;refine Cw λK k0=>?_;replace zg:=Bd.mk (AO g2 (AO g3 g4));refine Db ?_;refine C_ ?_;by_cases APM:x.tn=255
 ·have d1:decide ((x.tn:Int)≥255)=τ:=AUB AL;refine DU d1 ?_;refine Db ?_;refine C8 (EP λw hw=>?_);have h40:¬(4:Int)=0:=by decide
  exact⟨⟨0,4,x⟩,rfl,⟨(by decide:(0:Int)<=4/\(4:Int)<=29),λ_=>rfl,λh=>absurd h h40,λh=>absurd h.2.1 h40,λh=>absurd h h40⟩,hw.pick (ix:=[0,1]) AJ⟩
 have d1:decide ((x.tn:Int)≥255)=ο:=AUC AL;refine DU d1 ?_;refine Cz (k0 _ _ (DC [0,3] λG5 g5=>?_));replace g5:=Dy g5;refine Cw λK k0=>?_;refine Df (λ_ _=>True) (λF' L' => ∃(A2 A4:Option Addr)(c2 c4:Nat),F' 0=G5 0/\L'=[.blk x.b 97 [x.y0,x.y1,x.y2,x.y3,x.y4,x.y5,x.y6,x.y7,x.y8,ξ A4 (x.tn+1) c4,ε ζ x.N,ξ x.UA x.un x.uc,π (σ ⟨x.tb.tb,0,ν⟩),ξ x.LA x.ln x.lc,ε ζ x.lim.qb,ε ζ x.lim.qo,ε ζ x.lim.qr,ξ x.MA x.mn x.mc,ε ζ x.cap,ξ x.EA x.en x.ec,ξ x.SA x.sn x.sc,ξ x.BA x.bn x.bc,ξ (σ ⟨x.g,0,ν⟩) 65 65],Dk (Fx x),.row (ξ A4 (x.tn+1) c4) 216 2 (x.tn+1) (x.Lh.flatMap O8++[ε ζ len,ξ A2 n c2]),.row (ξ A2 n c2) 258 2 n (cl NR fs)]) ?_ ?_
 ·refine JU [0,2] (.rd 0 (.rd 2 (.rd 3 (.rd 4 (.rd 5 (.rd 7 (.rd 8 (.rd 10 (.rd 11 (.more 1 (.more 6 (.act 9 (.act 12 (.rd 13 (.act 14 (.act 15 (.rd 16 (.rd 17 (.act 18 (.done))))))))) (.act 9 (.act 6 (.act 12 (.rd 13 (.act 14 (.act 15 (.rd 16 (.rd 17 (.act 18 (.done))))))))))) (.act 9 (.act 1 (.act 6 (.act 12 (.rd 13 (.act 14 (.act 15 (.rd 16 (.rd 17 (.act 18 (.done))))))))))))))))))))) [18] ?_;replace zg:=Bd.mk (AO g2 (AO g3 g5));refine DD ?_;refine AO ?_ ?_
  ·intro b40 AHm AHn;refine AO ?_ ?_
   ·refine EI 0 Y9 rfl rfl (λw hw=>Dc.AFT (M:=M) (W:=W) (x:=x) (L:=[.blk b3 216 [ε ζ len,ξ A n c]]) hw.tail) (XE _) AL AL ?_;intro A5 c5' hl5 iQ;refine DU (AO @Ao @AR.{0}) ?_;intro b48 hb48 AHo;refine EI 0 zU rfl rfl (λw hw=>(hE.atM hw ha).reads) (XF _) AL AL ?_;exact AUr
   ·intro b48 hb48 AHo;refine EI 1 Y9 rfl rfl (λw hw=>Dc.AFT (M:=M) (W:=W) (x:=x) (L:=[.blk b3 216 [ε ζ len,ξ A n c]]) hw.tail.tail) (XE _) AL AL ?_;exact AWw
  ·intro b48 hb48 AHo;intro b40 AHm AHn;refine EI 0 Y9 rfl rfl (λw hw=>Dc.AFT (M:=M) (W:=W) (x:=x) (L:=[.blk b3 216 [ε ζ len,ξ A n c]]) hw.tail.tail) (XE _) AL AL ?_;exact AWw
 intro G6 L' _ hF;obtain⟨A2,A4,c2,c4,Nk,rfl⟩:=hF;replace zg:=Bd.mk g5;have g6:=Dy Nk;refine k0 _ _ ?_;obtain⟨t0,ht0⟩:∃t0:QU,(⟨len,A2,n,c2,fs⟩:QU)=t0:=⟨_,rfl⟩;obtain⟨x1,hx1⟩:∃x1,x.XG A4 (x.tn+1) c4 (x.Lh++[t0])=x1:=⟨_,rfl⟩;have hb1:x1.b=x.b:=by rw[<-hx1];rfl
 have hn1:x1.tn=x.tn+1:=by rw[<-hx1];rfl
 refine Eo (Da x1) (λw hw=>by
  have h1:x.Lh.flatMap O8++[ε ζ len,ξ A2 n c2]=(x.Lh++[t0]).flatMap O8:=by rw[ASS,<-ht0];rfl
  have h2:DW.row (ξ A2 n c2) 258 2 n (cl NR fs)=Y3 t0:=by rw[<-ht0];rfl
  rw[h1,h2]at hw;have h3:=Dc.cly (t:=t0) hw;have h4:Da x1=[Fj (x.XG A4 (x.tn+1) c4 (x.Lh++[t0])),Dk (Fx (x.XG A4 (x.tn+1) c4 (x.Lh++[t0])))]:=by rw[hx1];rfl
  rw[h4];exact h3) ?_
 unfold Da;rw[Dp hb1];replace zg:=Bd.mk (AO g2 (AO g3 g6));refine KU (AO hn1 @Af) ?_;refine C8 (EP λw hw=>?_);refine⟨⟨(x.tn:Int)+1,0,x1⟩,rfl,⟨AUs,λh=>absurd ⟨hck,rfl,rfl⟩ h,λ_=>⟨hck,by show 1<=(x.tn:Int)+1;omega⟩,λ_=>⟨by omega,A4,c4,t0,by rw[<-ht0],by rw[<-ht0],hx1.symm⟩,λ_=>by show (x.tn:Int)+1<=x.tn+1;omega⟩,?_⟩;show St M W (Da x1) w;unfold Da;rw[Dp hb1,hn1];exact hw
theorem Tz{α:Type} [DecidableEq α]:∀ {l m:List α},l.Nodup->(∀x∈l,x∈m)->l.length<=m.length
 |[],m,_,_=>Ar _
 | a::l,m,hn,h=>by
  have ha:=h a (.head _);have hn2:=CO.1 hn;have h1:=Tz (l:=l) (m:=m.erase a) hn2.2 λx hx=>(List.mem_erase_of_ne (λe=>hn2.1 (by rw[<-e];exact hx))).2 (h x (.tail _ hx));have h2:=List.length_erase_of_mem ha;have h3:0<m.length:=List.length_pos_of_mem ha;rw[Av];omega
structure Xq(l:List Sh):Prop where
 nd:(l.map Sh.p).Nodup
 rg:∀s∈l,1<=s.p/\s.p<=64
theorem Xq.len{l}(h:Xq l):l.length<=64:=by
 have h1:=Tz (m:=(Cq 64).map λi:Nat=>(i:Int)+1) h.nd λv hv=>by
  obtain⟨s,hs,rfl⟩:=BL.1 hv;have:=h.rg s hs;exact BL.2 ⟨(s.p-1).toNat,ASs.2 AL,by omega⟩
 simpa using h1
theorem Xq.nil:Xq []:=⟨List.nodup_nil,λs hs=>by cases hs⟩
theorem Xq.set{l}(h:Xq l){p}q(hp:1<=p/\p<=64):Xq (Wd l p q):=by
 unfold Wd;refine⟨?_,λs hs=>?_⟩
 ·rw[Bj,ASb];refine⟨(AGp.map _).nodup h.nd,by simp,λa ha b hb e=>?_⟩;obtain⟨s,hs,rfl⟩:=BL.1 ha;have h2:=(Bl.1 hs).2;simp[Yy]at h2;simp at hb;exact h2 (e.trans hb)
 ·cases AV.1 hs with
  |inl h1=>exact h.rg s (Bl.1 h1).1
  |inr h1=>rw[BH.1 h1];exact hp
theorem Xq.add{l}(h:Xq l){lim p}q(hp:1<=p/\p<=64):Xq (Mt lim l p q).2:=by
 unfold Mt;split
 ·exact h
 ·exact h.set _ hp
theorem Xq.sub{l}(h:Xq l){p}q(hp:1<=p/\p<=64):Xq (KI l p q).2:=by
 unfold KI;split
 ·exact h
 ·exact h.set _ hp
theorem Xq.AFU{l}(h:Xq l)p{q}(hq:0<q.qo\/0<q.qr):Xq (KI l p q).2:=by
 by_cases hl:Uk (HZ l p) q=τ
 ·unfold KI;rw[ATv hl];exact h
 ·refine h.sub q ?_;unfold HZ at hl;cases hf:l.find? (Yy p)with
  | none =>
   rw[hf]at hl;simp[Uk]at hl;omega
  | some s =>
   have h1:=h.rg s (ASy hf);have h2:=List.find?_some hf;simp[Yy]at h2;rw[<-h2];exact h1
theorem Xq.Je{l}(h:Xq l):∀bs:List Bw,Xq (Go.Proofs.YtnkgiaimcpbhkaaGreat.Je l bs):=by
 intro bs
 induction bs generalizing l with
 |nil=>exact h
 |cons b bs ih=>exact ih (h.AFU b.ho (q:=Q1) (.inr AJ))
structure TbF(x:Ir):Prop where
 fr:∀s:Nat,(s:Int)∈x.s.Fu->Ej x.s s=ο/\Gt x.s s<4294967295
 nd:x.s.Fu.Nodup
 fi:1<=x.s.first
theorem iT{l:List Bool}{s b}t:((l.set s b)[t]?).getD ο=if t=s/\s<l.length then b else (l[t]?).getD ο:=by
 by_cases h:t=s
 ·subst h;by_cases h2:t<l.length
  ·rw[ATv ⟨rfl,h2⟩,CY h2];rfl
  ·rw[ATt (λhn=>h2 hn.2),AS0 AL]
 ·rw[ATt (λhn=>h hn.1),CX (AS5 h)]
theorem ACO h:Mr h<4294967296:=ASo _ AL
def XH(x:Ir)(s:Nat):Ext:=⟨(ET x s).off,(ET x s).len⟩
theorem l_{l i v}(hn:l.Nodup)(hi:l[i]?=σ v):(K8 l i).Nodup∧∀u∈K8 l i,u∈l/\u≠v:=by
 obtain⟨hil,hv⟩:=Ab.1 hi;obtain⟨m,a,rfl⟩:∃m a,l=m++[a]:=⟨l.dropLast,l.getLast (by intro h;rw[h]at hil;simp at hil),(AUQ _).symm⟩;rw[Ag,BI]at hil;have hna:=ASb.1 hn;have hlast:(((m++[a])[(m++[a]).length-1]?).getD 0)=a:=by simp
 unfold K8;rw[hlast];by_cases h:i<m.length
 ·have h1:((m++[a]).set i a).take ((m++[a]).length-1)=m.set i a:=by
   rw[List.set_append_left _ _ h];simp
  rw[h1];have hmi:m[i]=v:=by rw[List.getElem_append_left h]at hv;exact hv
  have hsp:m=m.take i++v::m.drop (i+1):=by rw[<-hmi,List.getElem_cons_drop,ASI]
  have hset:m.set i a=m.take i++a::m.drop (i+1):=by rw[Bz,ATv h]
  rw[hset];have hnm:=hna.1;rw[hsp]at hnm;have h2:=ASb.1 hnm;have h3:=CO.1 h2.2.1;have hv1:v∉m.take i:=λhm=>h2.2.2 v hm v (.head _) rfl;have ham:a∉m:=λhm=>hna.2.2 a hm a (.head _) rfl;have hmem:∀u,u∈m.take i++m.drop (i+1)->u∈m:=λu hu=>by
   rcases AV.1 hu with h4|h4
   ·exact BU h4
   ·exact ASQ h4
  refine⟨?_,λu hu=>?_⟩
  ·rw[ASb];refine⟨h2.1,CO.2 ⟨λhm=>ham (ASQ hm),h3.2⟩,λx hx y hy e=>?_⟩;subst e;cases hy with
   |head=>exact ham (BU hx)
   |tail _ hy=>exact h2.2.2 x hx x (.tail _ hy) rfl
  ·rcases AV.1 hu with h4|h4
   ·exact⟨AV.2 (.inl (BU h4)),λe=>hv1 (e▸h4)⟩
   ·cases h4 with
    |head=>exact⟨AV.2 (.inr (.head _)),λe=>ham (e▸hmi▸Cf h)⟩
    |tail _ h4=>exact⟨AV.2 (.inl (ASQ h4)),λe=>h3.1 (e▸h4)⟩
 ·have hie:i=m.length:=by omega
  subst hie;have hva:a=v:=by simpa using hv
  have h1:((m++[a]).set m.length a).take ((m++[a]).length-1)=m:=by simp
  rw[h1];exact⟨hna.1,λu hu=>⟨AV.2 (.inl hu),λe=>hna.2.2 u hu a (.head _) (e.trans hva.symm)⟩⟩
structure Ga(x:Dc)(k c:Nat):Prop where
 tb:QR x.tb k
 te:TbE x.tb
 sm:x.tb.en<=8
 tf:TbF x.tb
 l:x.l.length<=c
 lc:∀b∈x.l,1<=b.co/\b.co<=c
 T9:Xq x.mt
 VT:∀s∈x.mt,s.q.ok
 lim:x.lim.lim
 lok:x.lim.ok
 rm:∃fr tk,Ex.Inv x.N x.us fr tk
 ru:∀u∈x.us,∃s,Ej x.tb.s s=τ/\u=XH x.tb s
 bn:x.bn=x.tb.en
 bl:x.Fw.length=x.bn
 ck:∀t∈x.Lh,Ho t.len t.fs=0
 tn:x.tn<=255
 tl:x.Lh.length=x.tn
 Uw:∀s,Ej x.tb.s s=τ->zR x s
 el:x.tb.E.length=x.tb.en
theorem Ga.up{x k c k' c'}(h:Ga x k c)(hk:k<=k')(hc:c<=c')(h2:k'≤10000):Ga x k' c' :=
 { h with tb:=h.tb.up hk h2,l:=AGn h.l hc,lc:=λb hb=>by have:=h.lc b hb;omega }
theorem Ga.XI{x k c}(h:Ga x k c):x.us.length<=8:=by
 obtain⟨fr,tk,hI⟩:=h.rm;have hn:x.us.Nodup:=hI.apart.imp_of_mem (fun {a b} ha hb hab e=>by
  subst e;have hp:=(hI.prop a ha).1;have h1:Ex.Mv a a.off:=⟨B_ _,by have:=hp.2;omega⟩;exact hab _ h1 h1)
 have h1:=Tz (l:=x.us) (m:=(Cq x.tb.en).map (XH x.tb)) hn λu hu=>by
  obtain⟨s,hs,rfl⟩:=h.ru u hu;exact BL.2 ⟨s,ASs.2 (pQ h.tb hs),rfl⟩
 have:=h.sm;simp at h1;omega
theorem zR.same{x y s}(h:zR x s)(ht:(ET y.tb s).tag=(ET x.tb s).tag)(hb:y.Fw[s]?=x.Fw[s]?)(hy:y.Lh=x.Lh)(hn:y.tn=x.tn):zR y s:=by
 obtain⟨lk,b2,h1,h2,h3⟩:=h;refine⟨?_,b2,hb.trans h1,?_,h3⟩
 ·rw[ht];unfold YH at lk ⊢;rw[hn];exact lk
 ·rw[ht];unfold VU at h2 ⊢;rw[hy];exact h2
theorem Ga.Fw{x k c}(h:Ga x k c)y(h1:y.tb=x.tb)(h2:y.Fw=x.Fw)(h3:y.Lh=x.Lh)(h4:y.tn=x.tn):∀s,Ej y.tb.s s=τ->zR y s:=λs hs=>(h.Uw s (by rw[<-h1];exact hs)).same (by rw[h1]) (by rw[h2]) h3 h4
theorem Ga.NI{x k c}(h:Ga x k c)i:Ga (x.NI i) k c := { h with Uw:=h.Fw (x.NI i) rfl rfl rfl rfl }
theorem Ga.RH{x k c}(h:Ga x k c)i ms:Ga (x.RH i ms) k c := { h with Uw:=h.Fw (x.RH i ms) rfl rfl rfl rfl }
theorem Ga.Sm{x k c}(h:Ga x k c)sv:Ga (x.Sm sv) k c := { h with Uw:=h.Fw (x.Sm sv) rfl rfl rfl rfl }
theorem Ga.E_{x k c}(h:Ga x k c)i(hk:Xq i.l)(ho:∀s∈i.l,s.q.ok):Ga (x.E_ i) k c := { h with T9:=hk,VT:=ho,Uw:=h.Fw (x.E_ i) rfl rfl rfl rfl }
theorem Ga.Hg{x k c}(h:Ga x k c)(i:M4)(hl:i.l.length<=c)(hc:∀b∈i.l,1<=b.co/\b.co<=c):Ga (x.Hg i) k c := { h with l:=hl,lc:=hc,Uw:=h.Fw (x.Hg i) rfl rfl rfl rfl }
theorem Ga.Mf{x k c}(h:Ga x k c)z(hz:z.us=x.us):Ga (x.Mf z) k c := { h with Uw:=h.Fw (x.Mf z) rfl rfl rfl rfl,rm:=(show ∃fr tk,Ex.Inv x.N z.us fr tk from hz▸h.rm),ru:=(show ∀u∈z.us,_ from hz▸h.ru) }
theorem Ga.eqU{x y k c}(h:Ga x k c)(hy:EqU x y):Ga y k c:=by
 rcases hy with rfl|⟨z,rfl,hz⟩
 ·exact h
 ·exact h.Mf z hz
theorem Ga.eqM{x y k c}(h:Ga x k c)(hy:EqM x y):Ga y k c:=by
 rcases hy with rfl|⟨i,rfl,hi⟩
 ·exact h
 ·exact h.E_ i (hi▸h.T9) (hi▸h.VT)
theorem Ga.eqB{x y k c}(h:Ga x k c)(hy:EqB x y):Ga y k c:=by
 rcases hy with rfl|⟨s,br,l,hs,hl,rfl⟩
 ·exact h
 ·refine { h with bl:=(show (x.Fw.set s _).length=x.bn from by rw[Bt];exact h.bl),Uw:=λt ht=>?_ };obtain⟨lk,b2,h1,h2,h3⟩:=h.Uw t ht;by_cases hts:t=s
  ·subst hts;rw[hs]at h1;cases h1;exact⟨lk,{ br with l:=l },CY (Ab.1 hs).1,h2,h3⟩
  ·exact⟨lk,b2,(CX (AS5 hts)).trans h1,h2,h3⟩
theorem aZ{x k c}(h:Ga x k c)s:(Tw (ET x.tb s)).ok:=⟨⟨(h.te.len s).1,by have:=(h.te.len s).2;show (ET x.tb s).len<=_;omega⟩,(by decide:(0:Int)<=1/\(1:Int)<=1099511627776),(by decide:(0:Int)<=0/\(0:Int)<=1099511627776)⟩
theorem zV:Q1.ok:=⟨(by decide:(0:Int)<=0/\(0:Int)<=1099511627776),(by decide:(0:Int)<=0/\(0:Int)<=1099511627776),(by decide:(0:Int)<=1/\(1:Int)<=1099511627776)⟩
theorem AFV{S}(h:0<=S/\S<=65536):(vS S).ok:=⟨(by show 0<=S/\S<=_;omega),(by decide:(0:Int)<=1/\(1:Int)<=1099511627776),(by decide:(0:Int)<=0/\(0:Int)<=1099511627776)⟩
theorem Ga.AFW{x k c}(h:Ga x k c){i p q}(hi:(i.r,i.l)=Mt x.lim x.mt p q)(hp:1<=p/\p<=64)(hq:q.ok):Ga (x.E_ i) k c:=by
 have h1:i.l=(Mt x.lim x.mt p q).2:=AT4 ASY hi;exact h.E_ i (h1▸h.T9.add q hp) (lh h.lok hq h.VT hi.symm).1
theorem Ga.AFX{x k c}(h:Ga x k c){i p q}(hi:(i.r,i.l)=KI x.mt p q)(hp:(1<=p/\p<=64)\/0<q.qo\/0<q.qr)(hq:q.ok):Ga (x.E_ i) k c:=by
 have h1:i.l=(KI x.mt p q).2:=AT4 ASY hi;refine h.E_ i ?_ (XB hq h.VT hi.symm).1;rw[h1];rcases hp with hp|hp
 ·exact h.T9.sub q hp
 ·exact h.T9.AFU p hp
theorem Ga.give{x k c}(h:Ga x k c){t o q}(hr:gF x.tb t o q):Ga (x.Kh t) k c:=by
 have hk:=hr.k;have hE:=hr.E;have hen:∀s,(ET t s).h=(ET x.tb s).h/\(ET t s).tag=(ET x.tb s).tag/\(ET t s).off=(ET x.tb s).off/\(ET t s).len=(ET x.tb s).len:=by
  intro s;by_cases hg:Pn x.tb o q=0
  ·rw[ATv hg]at hE;unfold ET;rw[hE];by_cases hs:s=De o
   ·subst hs;by_cases hl:De o<x.tb.E.length
    ·rw[CY hl];exact AWb
    ·rw[AS0 AL];exact AWb
   ·rw[CX (AS5 hs)];exact AWb
  ·rw[ATt hg]at hE;unfold ET;rw[hE];exact AWb
 have hlen:t.E.length=x.tb.E.length:=by rw[hE];split<;>simp
 have hlv:∀s,Ej t.s s=Ej x.tb.s s:=λs=>by rw[hr.s]
 refine { h with tb:=QR.give h.tb hr,te:=⟨λs hs=>?_,λs=>by show 0<=(ET t s).len/\(ET t s).len<=65536;rw[(hen s).2.2.2];exact h.te.len s⟩,sm:=(show t.en<=8 by rw[hk.en];exact h.sm),tf:=⟨?_,?_,?_⟩,ru:=λu hu=>?_,bn:=(show x.bn=t.en by rw[hk.en];exact h.bn),Uw:=λs hs=>?_,el:=(show t.E.length=t.en by rw[hlen,hk.en];exact h.el) }
 ·have h1:=h.te.live s (by rw[<-hlv];exact hs);have e1:=(hen s).1;refine⟨by show De (ET t s).h=s;rw[e1];exact h1.sl,?_,by show (ET t s).h<_;rw[e1];exact h1.hh⟩;show GU t (ET t s).h=0;rw[e1];obtain⟨r1,r2,r3,r4⟩:=GZ h1.ok;exact Sn (by rw[hk.en];exact r1) (by rw[hr.s];exact r2) (by rw[hr.s];exact r3) (by rw[(hen _).1];exact r4)
 ·show ∀s:Nat,(s:Int)∈t.s.Fu->Ej t.s s=ο/\Gt t.s s<4294967295;rw[hr.s];exact h.tf.fr
 ·show t.s.Fu.Nodup;rw[hr.s];exact h.tf.nd
 ·show 1<=t.s.first;rw[hr.s];exact h.tf.fi
 ·obtain⟨s,h1,h2⟩:=h.ru u hu;refine⟨s,by show Ej t.s s=τ;rw[hlv];exact h1,?_⟩;rw[h2];show XH x.tb s=XH t s;unfold XH;rw[(hen s).2.2.1,(hen s).2.2.2]
 ·have h1:=h.Uw s (by rw[<-hlv];exact hs);have e2:=(hen s).2.1;obtain⟨lk,b2,h2,h3,h4⟩:=h1;exact zR.same (x:=x) (y:=x.Kh t) ⟨lk,b2,h2,h3,h4⟩ e2 rfl rfl rfl
theorem Ga.zW{x k c}(h:Ga x k c){p q o i}(hp:1<=p/\p<=64)(hr:TrR x p o q i):Ga i.y k c:=by
 by_cases h0:i.v=0
 ·have h1:=hr.r;rw[ATv h0]at h1;obtain⟨i1,i2,t,g⟩:=h1;rw[g.y];have a1:=h.AFW g.add (GH (hr.lv h0).1.1) (aZ h _);have a2:=a1.AFX (i:=i2) (p:=p) (q:=Tw (ET x.tb (De o))) g.sub (.inl hp) (aZ h _);exact a2.give (t:=t) (o:=o) (q:=q) g.give
 ·have h1:=hr.r;rw[ATt h0]at h1;exact h.eqM h1
theorem mD{l}(hok:∀s∈l,s.q.ok)bs:∀s∈Je l bs,s.q.ok:=(Tx hok bs).1
theorem ACP{l p q}(hq:q.ok)(hok:∀s∈l,s.q.ok):∀s∈(KI l p q).2,s.q.ok:=(XB (p:=p) (q:=q) (r:=(KI l p q).1) (l':=(KI l p q).2) hq hok rfl).1
theorem Ga.drop{x k c}(h:Ga x k c)(hk:k<10000){e t u}(he:GU x.tb e.h=0)(MZ:e=ET x.tb (De e.h))(ft:gD x.tb t e.h)(fu:u.us=x.us.filter λz=>decide (z≠⟨e.off,e.len⟩)):
  Ga (((x.Mf u).Kh t).Mg (x.Fw.set (De e.h) I9)) (k+1) c:=by
 obtain⟨s,hs⟩:∃s,De e.h=s:=⟨_,rfl⟩;obtain⟨r1,r2,r3,r4⟩:=GZ he;have hr:=ft.r;rw[ATv he]at hr;obtain⟨a1,a2,a3,a4⟩:=hr;have hk2:=ft.k;have hE:=ft.E;have htb:=QR.drop h.tb hk ft;rw[hs]at r1 r2 r3 MZ a3 a4 ⊢;have hsl:s<x.tb.s.Fh.length:=by rw[h.tb.l];exact r1
 have hlv:∀j,Ej t.s j=if j=s then ο else Ej x.tb.s j:=λj=>by
  unfold Ej;rw[a3,iT];by_cases hj:j=s
  ·rw[ATv ⟨hj,hsl⟩,ATv hj]
  ·rw[ATt (λhn=>hj hn.1),ATt hj]
 have hgn:∀j,Gt t.s j=Gt x.tb.s j:=λj=>by unfold Gt;rw[a2]
 have hen:∀j,ET t j=ET x.tb j:=λj=>Ty hE j;have hl2:∀j,Ej t.s j=τ->j≠s/\Ej x.tb.s j=τ:=λj hj=>by
  rw[hlv]at hj;by_cases hjs:j=s
  ·rw[ATv hjs]at hj;cases hj
  ·rw[ATt hjs]at hj;exact⟨hjs,hj⟩
 refine { tb:=htb,te:=⟨λj hj=>?_,λj=>by show 0<=(ET t j).len/\(ET t j).len<=65536;rw[hen];exact h.te.len j⟩,sm:=(show t.en<=8 by rw[hk2.en];exact h.sm),tf:=⟨?_,?_,?_⟩,l:=h.l,lc:=h.lc,T9:=h.T9,VT:=h.VT,lim:=h.lim,lok:=h.lok,rm := ?_,ru := ?_,bn:=(show x.bn=t.en by rw[hk2.en];exact h.bn),bl:=(show (x.Fw.set s I9).length=x.bn by rw[Bt];exact h.bl),ck:=h.ck,tn:=h.tn,tl:=h.tl,Uw:=λj hj=>?_,el:=(show t.E.length=t.en by rw[hE,hk2.en];exact h.el) }
 ·obtain⟨hjs,hjl⟩:=hl2 j hj;have h1:=h.te.live j hjl;refine⟨by show De (ET t j).h=j;rw[hen];exact h1.sl,?_,by show (ET t j).h<_;rw[hen];exact h1.hh⟩;show GU t (ET t j).h=0;rw[hen];obtain⟨q1,q2,q3,q4⟩:=GZ h1.ok;exact Sn (by rw[hk2.en];exact q1) (by rw[h1.sl];exact hj) (by rw[hgn];exact q3) (by rw[hen];exact q4)
 ·show ∀j:Nat,(j:Int)∈t.s.Fu->Ej t.s j=ο/\Gt t.s j<4294967295;intro j hj;rw[hlv,hgn];have key:(j:Int)∈x.tb.s.Fu\/(j=s/\Gt x.tb.s s≠4294967295):=by
   by_cases hg:Gt x.tb.s s=4294967295
   ·rw[ATv hg]at a4;rw[a4.2]at hj;exact .inl hj
   ·rw[ATt hg]at a4;rw[a4.2]at hj;rcases AV.1 hj with h1|h1
    ·exact .inl h1
    ·rw[BH]at h1;exact .inr ⟨by omega,hg⟩
  rcases key with h1|⟨h1,h2⟩
  ·have h3:=h.tf.fr j h1;refine⟨?_,h3.2⟩;split
   ·rfl
   ·exact h3.1
  ·subst h1;rw[ATv rfl];have:=ACO e.h;exact⟨rfl,by omega⟩
 ·show t.s.Fu.Nodup;by_cases hg:Gt x.tb.s s=4294967295
  ·rw[ATv hg]at a4;rw[a4.2];exact h.tf.nd
  ·rw[ATt hg]at a4;rw[a4.2,ASb];refine⟨h.tf.nd,by simp,λv hv w hw e=>?_⟩;rw[BH]at hw;rw[e,hw]at hv;have:=(h.tf.fr s hv).1;rw[this]at r2;cases r2
 ·show 1<=t.s.first;rw[a1.first];exact h.tf.fi
 ·obtain⟨fr,tk,hI⟩:=h.rm;show ∃fr tk,Ex.Inv x.N u.us fr tk;rw[fu];by_cases hm:(⟨e.off,e.len⟩:Ext)∈x.us
  ·exact⟨_,_,(hI.release hm).2⟩
  ·have:(x.us.filter λz=>decide (z≠⟨e.off,e.len⟩))=x.us:=ASj.2 λz hz=>AUB λhe=>hm (he▸hz);rw[this];exact⟨fr,tk,hI⟩
 ·show ∀v∈u.us,∃j,Ej t.s j=τ/\v=XH t j;intro v hv;rw[fu]at hv;obtain⟨h1,h2⟩:=Bl.1 hv;have h2:=AT0 h2;obtain⟨j,h3,h4⟩:=h.ru v h1;refine⟨j,?_,by unfold XH;rw[hen];exact h4⟩;rw[hlv,ATt ?_]
  ·exact h3
  ·intro hjs;subst hjs;apply h2;rw[h4];unfold XH;rw[<-MZ]
 ·obtain⟨hjs,hjl⟩:=hl2 j hj;exact(h.Uw j hjl).same (by show (ET t j).tag=_;rw[hen]) (by show (x.Fw.set s I9)[j]?=_;rw[CX (AS5 hjs)]) rfl rfl
theorem Ga.free{x y k c}(h:Ga x k c)(hk:k<10000){e l m u t}(he:GU x.tb e.h=0)(MZ:e=ET x.tb (De e.h))(hr:uA x y e l m u t):Ga y (k+1) c:=by
 obtain⟨fl,fm,fu,ft,rfl⟩:=hr;have hq:(Tw e).ok:=by rw[MZ];exact aZ h _
 have h1:=h.drop hk he MZ ft fu;have hl:l.l.length<=c:=by rw[fl];exact AGn (Ap _ _) h.l
 have h2:=h1.Hg l hl (λb hb=>by rw[fl]at hb;exact h.lc b (Bl.1 hb).1);exact h2.E_ m (by rw[fm];exact(h.T9.Je _).AFU e.ow (q:=Tw e) (.inl (show (0:Int)<1 by decide))) (by rw[fm];exact ACP hq (mD h.VT _))
theorem Px.keep{x y es}(hr:Px x y es):y.tb.E=x.tb.E/\y.tb.en=x.tb.en:=by
 induction hr with
 |nil=>exact⟨rfl,rfl⟩
 | snoc h1 h2 h3 ih =>
  have h4:=h2.keep h3;exact⟨h4.E.trans ih.1,h4.en.trans ih.2⟩
theorem Ga.frees{x y k c}(h:Ga x k c){es}(hk:k+es.length<=10000)(MZ:∀e∈es,e=ET x.tb (De e.h))(hr:Px x y es):Ga y (k+es.length) c:=by
 induction hr with
 |nil=>exact h
 | snoc h1 h2 h3 ih =>
  rename_i y z es e l m u t;rw[Ag,BI]at hk ⊢;have h4:=ih AL (λe he=>MZ e (AV.2 (.inl he)));have h5:=MZ e (AV.2 (.inr (.head _)));have h6:=h1.keep;exact h4.free AL h3 (by rw[Ty h6.1];exact h5) h2
theorem zX{x}(hE:TbE x){k e}(he:e∈KH x k):e=ET x (De e.h):=by
 rw[aP]at he;obtain⟨s,hs,rfl⟩:=BL.1 he;have hl:=(Bl.1 hs).2;rw[(hE.live s hl).sl]
theorem ACQ n(h:n<=1099511627776):(zG n).ok:=⟨(by decide:(0:Int)<=0/\(0:Int)<=1099511627776),(by decide:(0:Int)<=0/\(0:Int)<=1099511627776),(by show (0:Int)<=(n:Int)/\(n:Int)<=_;omega)⟩
theorem Ga.end_{x k c}(h:Ga x k c)(hk:k+8<=10000)(hc:c<=1000){p i}(hr:EdR x p i):Ga i.y (k+8) c:=by
 have h0:=hr.r;by_cases ha:Fy x.sv p=ο
 ·rw[ATv ha]at h0;rw[h0.2.2];exact h.up AL (Ay _) hk
 rw[ATt ha]at h0;obtain⟨-,l,m,x3,es,ei,g⟩:=h0;have hp:=GH (sv:=x.sv) (p:=p) (by cases hh:Fy x.sv p with
  |true=>rfl
  |false=>exact absurd hh ha)
 have h1:=h.Hg l (by rw[g.fl];exact AGn (Ap _ _) h.l) (λb hb=>by rw[g.fl]at hb;exact h.lc b (Bl.1 hb).1);have hh:=Y5 x.l p;have hl:=h.l;have h2:=h1.AFX (i:=m) (p:=p) (q:=zG (IX x.l p)) g.fm (.inl hp) (ACQ _ AL);have hlen:es.length<=8:=by
  rw[g.fe];have h3:=Ap (λe:En=>decide (e.ow=p)) (KH x.tb x.tb.en);have h4:=SY x.tb x.tb.en;have:=h.sm;omega
 have h5:=h2.frees (es:=es) (y:=x3) AL (λe he=>by
  rw[g.fe]at he;exact zX h.te (Bl.1 he).1) g.fr
 rw[g.fy];exact((h5.Sm _).NI _).up AL (Ay _) hk
theorem QR.iss{x y k s d}(hi:QR x k)(hk:k<10000)(hs:s<x.en)(hkp:Wi x y)(hr:AHH x.s y.s s d)(hg:1<=Od x.s s/\Od x.s s<=4294967295):QR y (k+1):=by
 obtain⟨r1,r2,r3,r4,r5⟩:=hr;refine⟨by rw[r2,Bt,hi.n,hkp.en],by rw[r3,Bt,hi.l,hkp.en],by rw[hkp.en];exact hi.m,hk,?_,?_,?_,by rw[r1.first];exact hi.fi,?_⟩
 ·intro v hv;rw[r5]at hv;rw[hkp.en];exact hi.fr v (sU hv)
 ·rw[r5,sJ];have:=hi.fl;omega
 ·rw[r4];have:=hi.go;omega
 ·intro v hv;rw[r2]at hv;cases Ck hv with
  |inl h1=>have:=hi.gn v h1;omega
  |inr h1=>rw[h1];omega
theorem Ga.alloc{x k c}(h:Ga x k c)(hk:k<10000){p tag d fr tk}(hI:Ex.Inv x.N x.us fr tk){i N z it s m br}(hp:1<=p/\p<=64)(lk:YH x tag=0)(hge:∀s:Nat,(s:Int)∈x.tb.s.Fu->1<=Od x.tb.s s/\Od x.tb.s s<=4294967295)(hr:AHg x p tag d fr i N z it s m br):Ga i.y (k+1) c:=by
 obtain⟨gN,APR,gff,gz,gk,gi,gm,gbn,gbl,gh,gy,gs,gsl⟩:=hr;obtain⟨fs,-,ph,phh,rr,EE⟩:=gi;have hsf:(s:Int)∈x.tb.s.Fu:=AU fs;have hg:=hge s hsf;have htb:=QR.iss h.tb hk gs gk rr hg;have hal:=hI.alloc gff;obtain⟨e,he⟩:∃e,(Ex.findF fr N).1=e:=⟨_,rfl⟩;rw[he]at hal gz EE;obtain⟨r1,r2,r3,r4,r5⟩:=rr;have hsl:s<x.tb.s.Fh.length:=by rw[h.tb.l];exact gs
 have hsg:s<x.tb.s.gen.length:=by rw[h.tb.n];exact gs
 have hsE:s<x.tb.E.length:=by rw[h.el];exact gs
 have hnl:Ej x.tb.s s=ο:=(h.tf.fr s hsf).1;have hlv:∀j,Ej it.y.s j=if j=s then τ else Ej x.tb.s j:=λj=>by
  unfold Ej;rw[r3,iT];by_cases hj:j=s
  ·rw[ATv ⟨hj,hsl⟩,ATv hj]
  ·rw[ATt (λhn=>hj hn.1),ATt hj]
 have hgn:∀j,Gt it.y.s j=if j=s then Od x.tb.s s else Gt x.tb.s j:=λj=>by
  unfold Gt;rw[r2];by_cases hj:j=s
  ·subst hj;rw[ATv rfl,CY hsg];rfl
  ·rw[ATt hj,CX (AS5 hj)]
 have iU:ET it.y s=⟨it.h,p,tag,e.off,e.len⟩:=by unfold ET;rw[EE,CY hsE];rfl
 have mE:∀j,j≠s->ET it.y j=ET x.tb j:=λj hj=>by unfold ET;rw[EE,CX (AS5 hj)]
 have hlo:∀j,Ej x.tb.s j=τ->j≠s:=λj hj hjs=>by rw[hjs,hnl]at hj;cases hj
 have hSz:0<=e.len/\e.len<=65536:=by
  have h1:=Ex.aK hal.2.2.2.2.1;rw[hal.2.2.2.1];omega
 have hSr:0<=Sz.QT N/\Sz.QT N<=65536:=by
  have h1:=Ex.aK hal.2.2.2.2.1;omega
 have htk:=l_ h.tf.nd fs;have h1:Ga (((x.Mf z).Kh it.y).Mg (x.Fw.set s br)) (k+1) c:=by
  refine { tb:=htb,te:=⟨λj hj=>?_,λj=>?_⟩,sm:=(show it.y.en<=8 by rw[gk.en];exact h.sm),tf:=⟨?_,?_,?_⟩,l:=h.l,lc:=h.lc,T9:=h.T9,VT:=h.VT,lim:=h.lim,lok:=h.lok,rm := ?_,ru := ?_,bn:=(show x.bn=it.y.en by rw[gk.en];exact h.bn),bl:=(show (x.Fw.set s br).length=x.bn by rw[Bt];exact h.bl),ck:=h.ck,tn:=h.tn,tl:=h.tl,Uw:=λj hj=>?_,el:=(show it.y.E.length=it.y.en by rw[EE,Bt,gk.en];exact h.el) }
  ·have hj:Ej it.y.s j=τ:=hj;by_cases hjs:j=s
   ·subst hjs;refine⟨by show De (ET it.y j).h=j;rw[iU];exact gsl,?_,by show (ET it.y j).h<_;rw[iU];exact phh⟩;show GU it.y (ET it.y j).h=0;rw[iU];show GU it.y it.h=0;have AKg:=h.tb.m;have htg:=(QW lk h.tl).2;have htn:=h.tn;refine Sn (by rw[gsl,gk.en];exact gs) (by rw[gsl];exact hj) ?_ (by rw[gsl,iU]);rw[gsl,hgn,ATv rfl];unfold pkF at ph;rw[ATt AL]at ph;dsimp only at ph;unfold Mr;omega
   ·rw[hlv,ATt hjs]at hj;have h2:=h.te.live j hj;refine⟨by show De (ET it.y j).h=j;rw[mE j hjs];exact h2.sl,?_,by show (ET it.y j).h<_;rw[mE j hjs];exact h2.hh⟩;show GU it.y (ET it.y j).h=0;rw[mE j hjs];obtain⟨q1,q2,q3,q4⟩:=GZ h2.ok;rw[h2.sl]at q1 q2 q3 q4;exact Sn (by rw[h2.sl,gk.en];exact q1) (by rw[h2.sl,hlv,ATt hjs];exact q2) (by rw[h2.sl,hgn,ATt hjs];exact q3) (by rw[h2.sl,mE j hjs])
  ·show 0<=(ET it.y j).len/\(ET it.y j).len<=65536;by_cases hjs:j=s
   ·rw[hjs,iU];exact hSz
   ·rw[mE j hjs];exact h.te.len j
  ·show ∀j:Nat,(j:Int)∈it.y.s.Fu->Ej it.y.s j=ο/\Gt it.y.s j<4294967295;intro j hj;rw[r5]at hj;obtain⟨h2,h3⟩:=htk.2 _ hj;have hjs:j≠s:=λe=>h3 (by rw[e]);rw[hlv,hgn,ATt hjs,ATt hjs];exact h.tf.fr j h2
  ·show it.y.s.Fu.Nodup;rw[r5];exact htk.1
  ·show 1<=it.y.s.first;rw[r1.first];exact h.tf.fi
  ·show ∃fr tk,Ex.Inv x.N z.us fr tk;rw[gz];exact⟨_,_,hal.2.2.1⟩
  ·show ∀v∈z.us,∃j,Ej it.y.s j=τ/\v=XH it.y j;intro v hv;rw[gz]at hv;rcases AV.1 hv with h2|h2
   ·obtain⟨j,h3,h4⟩:=h.ru v h2;have hjs:=hlo j h3;exact⟨j,by rw[hlv,ATt hjs];exact h3,by unfold XH;rw[mE j hjs];exact h4⟩
   ·rw[BH.1 h2];exact⟨s,by rw[hlv,ATv rfl],by unfold XH;rw[iU]⟩
  ·have hj:Ej it.y.s j=τ:=hj;by_cases hjs:j=s
   ·subst hjs;have htg:=(QW lk h.tl);have hck:=h.ck _ htg.1;have hsz:=Y8 hck;have hsm:=(J3 hck).2.2.2.2.2.2;refine⟨?_,br,?_,?_,?_⟩
    ·show YH x (ET it.y j).tag=0;rw[iU];exact lk
    ·show (x.Fw.set j br)[j]?=σ br;rw[CY (by rw[h.bl,h.bn];exact gs)]
    ·show Gg (VU x (ET it.y j).tag).len (VU x (ET it.y j).tag).fs<=br.n;rw[iU,gbn,<-gN];omega
    ·rw[gbn];omega
   ·rw[hlv,ATt hjs]at hj;exact(h.Uw j hj).same (by show (ET it.y j).tag=_;rw[mE j hjs]) (by show (x.Fw.set s br)[j]?=_;rw[CX (AS5 hjs)]) rfl rfl
 rw[gy];exact h1.E_ m (by rw[show m.l=(Mt x.lim x.mt p (vS (Sz.QT N))).2 from AT4 ASY gm];exact h.T9.add _ hp) (lh h.lok (AFV hSr) h.VT gm.symm).1
theorem Ga.isu{x k c}(h:Ga x k c):∀s:Nat,(s:Int)∈x.tb.s.Fu->1<=Od x.tb.s s/\Od x.tb.s s<=4294967295:=λs hs=>by
 have h1:=(h.tf.fr s hs).2;have h2:=h.tf.fi;have h3:=h.tb.fi;have h4:=h.tb.Gt s;unfold Od;split<;>omega
theorem Ga.alc{x k c}(h:Ga x k c)(hk:k<10000){p tag d fr tk}(hI:Ex.Inv x.N x.us fr tk){i}(hp:1<=p/\p<=64)(hr:zP x p tag d fr i):Ga i.y (k+1) c:=by
 have h1:=hr.r;by_cases h0:i.er=0
 ·rw[ATv h0]at h1;obtain⟨lk,N,z,it,s,m,br,g⟩:=h1;exact h.alloc hk hI hp lk h.isu g
 ·rw[ATt h0]at h1;exact(h.eqU h1.2).up AL (Ay _) AL
theorem iW l ob ho:(K6 l ob ho).length<=l.length:=Ap _ _
theorem ACR{x k c}(h:Ga x k c){ob ho} : 0<=((holdB x.l ob ho).getD Xn).co/\((holdB x.l ob ho).getD Xn).co<=c:=by
 cases hh:holdB x.l ob ho with
 |none=>exact⟨(by decide:(0:Int)<=0),(by show (0:Int)<=_;omega)⟩
 | some e =>
  have h1:=h.lc e (Pj hh).1;exact⟨by show 0<=e.co;omega,by show e.co<=_;omega⟩
theorem Ga.AHt{x k c}(h:Ga x k c){ob ho mo r l}(hr:Oa x.l ob ho mo r l.l)(h0:r=0):Ga (x.Hg l) k (c+1):=by
 unfold Oa at hr;split at hr
 ·omega
 ·obtain⟨-,P,Q,hp⟩:=hr;have h1:=h.l;have h2:=iW x.l ob ho;have h3:=ACR h (ob:=ob) (ho:=ho);have h4:=hp.len;refine(h.up (Ay _) (Co c) h.tb.kb).Hg l AL λb hb=>?_;rcases(hp.mem b).1 hb with h5|h5
  ·rw[h5];show 1<=_+1/\_+1<=((c+1:Nat):Int);omega
  ·have:=h.lc b (Bl.1 h5).1;omega
theorem Ga.rP{x k c}(h:Ga x k c){o q mo i p ac}(hr:LnR x p o q ac mo i):Ga i.y k (c+1):=by
 have hup:=h.up (Ay _) (Co c) h.tb.kb;by_cases hyx:i.y=x
 ·rw[hyx];exact hup
 have hqq:=GH (hr.lv (.inr hyx)).1;have h1:=hr.r;by_cases h0:i.v=0
 ·rw[ATv h0]at h1;obtain⟨x1,l,g⟩:=h1;have hm:=g.m;rw[g.y];have hx1:Ga x1 k c/\x1.l=x.l:=by
   split at hm
   ·rw[hm];exact⟨h,rfl⟩
   ·obtain⟨j,hj,-,rfl⟩:=hm;exact⟨h.AFW hj hqq zV,rfl⟩
  exact hx1.1.AHt (l:=l) (by rw[hx1.2];exact g.rP) rfl
 ·rw[ATt h0]at h1;obtain⟨x1,hx1,hy⟩:=h1;have h2:Ga x1 k c/\x1.l=x.l:=by
   rcases hx1 with rfl|⟨j,hj,rfl⟩
   ·exact⟨h,rfl⟩
   ·exact⟨h.AFW hj hqq zV,rfl⟩
  have h3:Ga i.y k c:=by
   rcases hy with hy|⟨l,hl,hy⟩
   ·rw[hy];exact h2.1
   ·rw[hy];exact h2.1.Hg l (by rw[hl];exact h.l) (by rw[hl];exact h.lc)
  exact h3.up (Ay _) (Co c) h.tb.kb
theorem Ga.AKv{x k c}(h:Ga x k c){ob ho r l}(hr:Qq x.l ob ho r l.l)(h0:r=0):Ga (x.Hg l) k c:=by
 unfold Qq at hr;split at hr
 ·omega
 ·rename_i e he;have hm:=Pj he;have hce:=h.lc e hm.1;have h1:=h.l;have h2:=iW x.l ob ho;obtain⟨-,hr⟩:=hr;split at hr
  ·rw[<-hr]at h2;exact h.Hg l AL λb hb=>by rw[hr]at hb;exact h.lc b (Bl.1 hb).1
  ·obtain⟨P,Q,hp⟩:=hr;rw[hm.2.1,hm.2.2]at hp;have h4:=hp.len;have h5:(K6 x.l ob ho).length<x.l.length:=by
    unfold K6;refine AH9 (Ap _ _) λe1=>?_;have e2:=AUI.1 e1 e hm.1;simp[fK,hm.2.1,hm.2.2]at e2
   refine h.Hg l AL λb hb=>?_;rcases(hp.mem b).1 hb with h5|h5
   ·rw[h5];show 1<=e.co-1/\e.co-1<=_;omega
   ·exact h.lc b (Bl.1 h5).1
theorem Ga.rls{x k c}(h:Ga x k c){o p i}(hr:RlR x p o i):Ga i.y k c:=by
 have h1:=hr.r;by_cases h0:i.v=0
 ·rw[ATv h0]at h1;obtain⟨l,g⟩:=h1;have h2:=h.AKv (l:=l) g.rel rfl;have hy:=g.y;split at hy
  ·rw[hy];exact h2
  ·obtain⟨j,hj,hy⟩:=hy;rw[hy];exact h2.AFX (i:=j) (p:=p) (q:=Q1) hj (.inr (.inr AJ)) zV
 ·rw[ATt h0]at h1;rcases h1 with hy|⟨l,hl,hy⟩
  ·rw[hy];exact h
  ·rw[hy];exact h.Hg l (by rw[hl];exact h.l) (by rw[hl];exact h.lc)
theorem Ga.reg{x k c}(h:Ga x k c){len fs i}(hr:RgR x len fs i):Ga i.y k c:=by
 by_cases hc:Ho len fs=0/\i.er=0/\i.tag=x.tn+1
 ·obtain⟨h1,A,c2,t,h2,h3,h4⟩:=hr.new hc;rw[h4];have hlk:∀tag,YH x tag=0->YH (x.XG A (x.tn+1) c2 (x.Lh++[t])) tag=0/\VU (x.XG A (x.tn+1) c2 (x.Lh++[t])) tag=VU x tag:=λtag htag=>by
   obtain⟨-,h5,h6⟩:=QW htag h.tl;constructor
   ·unfold YH;rw[ATt];show ¬(tag<1\/((x.tn+1:Nat):Int)<tag);omega
   ·have hlt:(tag-1).toNat<x.Lh.length:=by rw[h.tl];omega
    unfold VU;show ((x.Lh++[t])[(tag-1).toNat]?).getD zK=_;rw[ASd hlt]
  refine { tb:=h.tb,te:=h.te,sm:=h.sm,tf:=h.tf,l:=h.l,lc:=h.lc,T9:=h.T9,VT:=h.VT,lim:=h.lim,lok:=h.lok,rm:=h.rm,ru:=h.ru,bn:=h.bn,bl:=h.bl,ck:=λt2 ht2=>?_,tn:=(show x.tn+1<=255 by omega),tl:=(show (x.Lh++[t]).length=x.tn+1 by rw[Ag,h.tl];rfl),Uw:=λs hs=>?_,el:=h.el }
  ·rcases AV.1 ht2 with h5|h5
   ·exact h.ck t2 h5
   ·rw[BH.1 h5,h2,h3];exact hc.1
  ·obtain⟨lk,br,h5,h6,h7⟩:=h.Uw s hs;have h8:=hlk _ lk;exact⟨h8.1,br,h5,(by show Gg (VU (x.XG A (x.tn+1) c2 (x.Lh++[t])) (ET x.tb s).tag).len (VU (x.XG A (x.tn+1) c2 (x.Lh++[t])) (ET x.tb s).tag).fs<=_;rw[h8.2];exact h6),h7⟩
 ·rw[hr.old hc];exact h
def Ki(z:Int):Nat:=(IntKind.u64.wrap z).toNat
theorem IA z:IntKind.u64.wrap z=((Ki z:Nat):Int):=by
 have h:0<=IntKind.u64.wrap z:=by rw[IntKind.wrap_u64];omega
 unfold Ki;omega
theorem Ia z:Ki z<18446744073709551616:=by
 have h:=IA z;rw[IntKind.wrap_u64]at h;omega
structure O9(x z:Dc):Prop where
 b:z.b=x.b
 es:z.es=x.es
 ms:z.ms=x.ms
 cap:z.cap=x.cap
 sv:z.sv=x.sv
 y7:z.y7=x.y7
 y8:z.y8=x.y8
theorem O9.refl x:O9 x x:=⟨rfl,rfl,rfl,rfl,rfl,rfl,rfl⟩
theorem EqM.q{x z}(h:EqM x z):O9 x z:=by
 rcases h with rfl|⟨i,rfl,-⟩<;>exact⟨rfl,rfl,rfl,rfl,rfl,rfl,rfl⟩
theorem EqU.q{x z}(h:EqU x z):O9 x z:=by
 rcases h with rfl|⟨i,rfl,-⟩<;>exact⟨rfl,rfl,rfl,rfl,rfl,rfl,rfl⟩
theorem EqB.q{x z}(h:EqB x z):O9 x z:=by
 rcases h with rfl|⟨s,br,l,-,-,rfl⟩<;>exact⟨rfl,rfl,rfl,rfl,rfl,rfl,rfl⟩
theorem TrR.q{x p q o i}(h:TrR x p o q i):O9 x i.y:=by
 have h1:=h.r;by_cases h0:i.v=0
 ·rw[ATv h0]at h1;obtain⟨i1,i2,t,g⟩:=h1;rw[g.y];exact AVg
 ·rw[ATt h0]at h1;exact h1.q
theorem LnR.q{x p q ac mo o i}(h:LnR x p o q ac mo i):O9 x i.y:=by
 have h1:=h.r;by_cases h0:i.v=0
 ·rw[ATv h0]at h1;obtain⟨x1,l,g⟩:=h1;have hm:=g.m;rw[g.y];split at hm
  ·rw[hm];exact AVg
  ·obtain⟨j,-,-,rfl⟩:=hm;exact AVg
 ·rw[ATt h0]at h1;obtain⟨x1,hx1,hy⟩:=h1;rcases hx1 with rfl|⟨j,-,rfl⟩<;>rcases hy with hy|⟨l,-,hy⟩<;>rw[hy]<;>exact⟨rfl,rfl,rfl,rfl,rfl,rfl,rfl⟩
theorem RlR.q{x p o i}(h:RlR x p o i):O9 x i.y:=by
 have h1:=h.r;by_cases h0:i.v=0
 ·rw[ATv h0]at h1;obtain⟨l,g⟩:=h1;have hy:=g.y;split at hy
  ·rw[hy];exact AVg
  ·obtain⟨j,-,hy⟩:=hy;rw[hy];exact AVg
 ·rw[ATt h0]at h1;rcases h1 with hy|⟨l,-,hy⟩<;>rw[hy]<;>exact⟨rfl,rfl,rfl,rfl,rfl,rfl,rfl⟩
theorem uA.q{x y e l m u t}(h:uA x y e l m u t):O9 x y:=by
 obtain⟨-,-,-,-,rfl⟩:=h;constructor<;>simp only[Dc.Mg,Dc.Kh,Dc.Mf,Dc.E_,Dc.Hg]
theorem zP.q{x p tag d fr i}(h:zP x p tag d fr i):O9 x i.y:=by
 have h1:=h.r;by_cases h0:i.er=0
 ·rw[ATv h0]at h1;obtain⟨-,N,z,it,s,m,br,g⟩:=h1;rw[g.y];constructor<;>simp only[Dc.Mg,Dc.Kh,Dc.Mf,Dc.E_]
 ·rw[ATt h0]at h1;exact h1.2.q
theorem W_.kp{z y e}(h:W_ z y e):(y.es=z.es\/y.es=z.es++[e])/\y.ms.length<=z.ms.length+1/\y.b=z.b/\y.cap=z.cap/\y.sv=z.sv/\y.y7=z.y7/\y.y8=z.y8:=by
 obtain⟨i,hi,hy⟩:=h;have he:i.es=z.es\/i.es=z.es++[e]:=by
  unfold Q9 at hi;split at hi
  ·exact .inl (AT4 ASY hi)
  ·split at hi
   ·exact .inl (AT4 ASY hi)
   ·exact .inr (AT4 ASY hi)
 split at hy
 ·rw[hy];exact⟨he,Co _,rfl,rfl,rfl,rfl,rfl⟩
 ·obtain⟨j,hy⟩:=hy;rw[hy];refine⟨he,?_,rfl,rfl,rfl,rfl,rfl⟩;show (z.ms++[e.pl]).length<=_;rw[Ag,BI];exact Ay _
theorem W_.j{z y e k c}(h:W_ z y e)(hz:Ga z k c):Ga y k c:=by
 obtain⟨i,hi,hy⟩:=h;split at hy
 ·rw[hy];exact hz.NI i
 ·obtain⟨j,hy⟩:=hy;rw[hy];exact(hz.NI i).RH _ _
theorem Pw.kp{x y p}(h:Pw x y p):y.es=x.es/\y.ms.length<=x.ms.length+1/\y.b=x.b/\y.cap=x.cap/\y.sv=x.sv/\y.y7=x.y7/\y.y8=x.y8:=by
 unfold Pw at h;split at h
 ·obtain⟨j,rfl⟩:=h;refine⟨rfl,?_,rfl,rfl,rfl,rfl,rfl⟩;show (x.ms++[p]).length<=_;rw[Ag,BI];exact Ay _
 ·rw[h];exact⟨rfl,Co _,rfl,rfl,rfl,rfl,rfl⟩
theorem Pw.j{x y p k c}(h:Pw x y p)(hx:Ga x k c):Ga y k c:=by
 unfold Pw at h;split at h
 ·obtain⟨j,rfl⟩:=h;exact hx.RH _ _
 ·rw[h];exact hx
theorem Pw.zero{x y p}(h:Pw x y p)(h0:Gm x p=0):y=x:=by
 unfold Pw at h;rw[h0]at h;exact h
theorem Om{x p}(h0:Gm x p=0):Pv x p=.tuple #[ε ζ 0,θ τ]:=by unfold Pv;rw[h0];rfl
theorem Oo{x p}(h0:¬Gm x p=0):Pv x p=.tuple #[ε ζ (Gm x p),θ ο]:=by unfold Pv;rw[AUC h0]
theorem Mh{x p}(h0:Gm x p=0):Fy x.sv p=τ:=by
 unfold Gm at h0;split at h0
 ·cases h0
 ·rename_i h;simpa using h
def NK(x:Dc)(p op:Int)(ar:Nat)(Core:Dc->Int->Nat->Prop)(v:Int)(y:Dc):Prop :=
 if Gm x p=0 then ∃z h,Core z v h/\W_ z y ⟨p,op,h,ar,v⟩ else v=Gm x p/\Pw x y p
structure IM(x:Dc)(n:Nat):Prop where
 j:Ga x (9*n) n
 es:x.es.length<=n
 ms:x.ms.length<=n
 ok:∀e∈x.es,e.ok
theorem IM.up{x n m}(h:IM x n)(hm:n<=m)(hb:m<=1000):IM x m:=⟨h.j.up AL hm AL,AGn h.es hm,AGn h.ms hm,h.ok⟩
theorem IM.rcd{x z y n}(h:IM x n)(hn:n<1000)(hq:O9 x z)(hz:Ga z (9*n+9) (n+1)){e}(he:e.ok)(hr:W_ z y e):IM y (n+1):=by
 obtain⟨h1,h2,-⟩:=hr.kp;have h3:=h.es;have h4:=h.ms;have h5:=h.ok;refine⟨hr.j hz,?_,?_,?_⟩
 ·rcases h1 with h1|h1<;>rw[h1,hq.es]
  ·omega
  ·rw[Ag,BI];omega
 ·rw[hq.ms]at h2;omega
 ·intro a ha;rcases h1 with h1|h1<;>rw[h1,hq.es]at ha
  ·exact h5 a ha
  ·rcases AV.1 ha with ha|ha
   ·exact h5 a ha
   ·rw[BH.1 ha];exact he
theorem IM.wr{x y n}(h:IM x n)(hn:n<1000){p op ar Core v}(har:ar<18446744073709551616)
  (hC:∀z h,Gm x p=0->Core z v h->O9 x z/\Ga z (9*n+9) (n+1)/\h<18446744073709551616) (hr:NK x p op ar Core v y):IM y (n+1):=by
 unfold NK at hr;by_cases h0:Gm x p=0
 ·rw[ATv h0]at hr;obtain⟨z,hh,hc,hrec⟩:=hr;obtain⟨h1,h2,h3⟩:=hC z hh h0 hc;exact h.rcd hn h1 h2 ⟨h3,har⟩ hrec
 ·rw[ATt h0]at hr;obtain⟨-,hb⟩:=hr;obtain⟨h1,h2,-⟩:=hb.kp;have h3:=h.es;have h4:=h.ms;have h5:=h.ok;exact⟨hb.j (h.j.up AL AL AL),by rw[h1];omega,by omega,by rw[h1];exact h5⟩
end Go.Proofs.YtnkgiaimcpbhkaaGreat
