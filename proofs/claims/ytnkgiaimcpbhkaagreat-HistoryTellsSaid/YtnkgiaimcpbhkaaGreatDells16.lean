import Derived.Test.YtnkgiaimcpbhkaaGreatDells14
import Derived.Test.YtnkgiaimcpbhkaaGreatDells15
import Derived.Test.YtnkgiaimcpbhkaaGreatDells4
set_option linter.all false
set_option maxRecDepth 100000
set_option maxHeartbeats 4000000
open Bool renaming false→ο,true→τ
open Go.Ending renaming returned→κ
open Go.IntKind renaming i64→ζ,u32→χ,u64→υ
open Option renaming none→ν,some→σ
open Go.Value renaming bool→θ,int→ε,pointer→π,slice→ξ
namespace Go.Proofs.YtnkgiaimcpbhkaaGreat
open Tryz renaming prog→AGm
open Go.RowKit Go.Shelf
theorem HG.up{x n}(h:HG x n){m}(hm:n<=m):HG x m:=by
 induction hm with
 |refl=>exact h
 | step _ ih =>
  obtain⟨s,h1,h2,h3⟩:=ih.s;exact⟨⟨s,h1,h2.up,h3.up⟩,ih.m⟩
def AEG(x:Dc):DW:=.row (ξ x.EA x.en x.ec) 49 5 x.en (Eh x.es)
structure MdI where
 x:Dc
 o:Qa
 s:SnI
 q:Nat
def AGH(i:MdI):Value:=.tuple #[ξ i.x.EA i.x.en i.x.ec,snV i.s]
def AGI(i:MdI):List DW:=snL i.x i.s++[AEG i.x]
structure MdR(i:MdI):Prop where
 q:i.q<=936
 t:IM i.x i.q
 h:HG i.x i.q
 s:SnR i.x i.o i.s
 g:ZT i.o
structure MkI(y0:Dc)(hb0:Nat)(c:jv)(i on:Nat)(x:Dc)(o:Qa):Prop where
 le:i<=on
 t:IM x (52*i)
 h:HG x (52*i)
 b:x.b=y0.b
 y7:x.y7=ε ζ (c.fr:Int)
 y8:x.y8=ε ζ (c.st:Int)
 g:ZT o
 ob:o.b=hb0
theorem nN c(hc:c.ok)W:
  Calls AGm 17 #[zl c] W
  λen w' => ∃i:NwI,en=κ (nwV i)/\uL c i.x/\St [] W [Dk (IC i.x.b (nwO i)++[Dk (Da i.x)])] w' :=
 (vI c hc W).mono (by
  rintro en w' ⟨i,h1,h2,h3⟩;exact⟨i,h1,h2,St.Dk (by rw[BX];exact h3)⟩)
theorem jk hb o x:DV (Fj x::Dk (Fx x)::IC hb o)=DV (Dk (Da x)::IC hb o):=by
 simp only[DV,Da,yw,BK,ASF,BX,Bh]
theorem nO x{hb}(hxb:x.b=hb)o{b}(U7:o.b=b)(hg:ZT o){q}(ht:IM x q)(hq:q<=1000)W(hst:St (DV (Fj x::Dk (Fx x)::IC hb o)) W (Fj x::Dk (Fx x)::IC hb o) W):
  Calls AGm 20 #[π (σ ⟨b,0,ν⟩)] W
  λen w' => ∃i:SnI,en=κ (snV i)/\SnR x o i/\St (DV (Fj x::Dk (Fx x)::IC hb o)) W (snL x i++(Fj x::Dk (Fx x)::IC hb o)) w':=by
 have h1:St (DV (Dk (Da x)::IC hb o)) W (Dk (Da x)::IC hb o) W:=by
  rw[<-jk];exact St.Dk (R:=Da x) hst
 rw[jk];refine(M6 [] (IC hb o++[Dk (Da x)]) (show ([]++(IC hb o++[Dk (Da x)])).Perm (Dk (Da x)::IC hb o) from BQ (l₁:=IC hb o) (l₂:=[Dk (Da x)])) snV (λi=>snL x i++(IC hb o++[Dk (Da x)])) (SnR x o) (λw hw=>vL x hxb o U7 hg ht hq w hw) h1).mono ?_;rintro en w' ⟨i,h2,h3,h4⟩;refine⟨i,h2,h3,?_⟩;rw[BX]at h4;have hp:(Dk (Da x)::(snL x i++IC hb o)).Perm (snL x i++(IC hb o++[Dk (Da x)])):=by
  rw[<-List.append_assoc];exact BQ (l₁:=[_])
 have h5:=(h4.perm hp).GV;exact h5.perm (CS (snL x i) (Da x) (IC hb o))
theorem AAv A0 n0 c0 x0 A1 n1 c1 x1 W(e0:Sl W W.heap.size 1 A0 n0 c0 (Ic x0))(g0:∀x∈x0,x<65536)(e1:Sl W W.heap.size 1 A1 n1 c1 (Ic x1))(g1:∀x∈x1,x<65536):
  Calls AGm 6 #[ξ A0 n0 c0,ξ A1 n1 c1] W
  λen w' => ∃i:MdI,en=κ (AGH i)/\MdR i/\St [] W (AGI i) w':=by
 have g0':∀x∈x0.take 12,x<65536:=λx hx=>g0 x (BU hx);have g1':∀x∈x1.take 340,x<65536:=λx hx=>g1 x (BU hx);refine ER (M:=[]) (n:=46) [.tmp 4,.cell 5 31] rfl Tryz.func6 rfl rfl (Am rfl) (St.nil _ _) ?_;refine C9 rfl λK BC=>?_;have zs:=Bd.mk Jq;refine DR ?_;intro b5 hb5;refine BC _ _ (DC [0,1,5] λG1 g1=>?_);replace g1:=EK g1;refine C9 rfl λK BC=>?_;have zg:=Bd.mk g1;refine DD ?_;refine OY (λw hw=>kN A0 n0 c0 x0 12 w (e0.at hw) AL) ?_;intro b1 TA tn tc ARC ARD ARF ARG;refine DD ?_;refine Yd 1 (λp:jv×Nat=>zl p.1) (λp=>tape TA tn tc p.2) (λp=>p.1.ok/\p.2<=0+20) rfl (λw hw=>iZ b1 TA tn tc (x0.take 12) 0 w (hw.hold 1 rfl) (Sl.EJ hw (DN (k:=0) rfl)) (λ_=>hw.AHw 0 1 rfl rfl AJ) g0' AL) ?_;rintro⟨c,j⟩ ⟨hc,hj⟩;dsimp only at hc hj;unfold zl;dsimp only;refine DD ?_;intro b6 hb6 jm;refine BC _ _ (DY [0,3] ?_);refine DC [1,5,6] λG2 g2=>?_;replace g2:=Dy g2;refine C9 rfl λK BC=>?_;replace zg:=Bd.mk g2;refine DD ?_;refine F6 nwV (λi=>[Dk (IC i.x.b (nwO i)++[Dk (Da i.x)])]) _ (λw hw=>nN c hc w) ?_;rintro⟨y0,hb0⟩ hn0;dsimp only at hn0;unfold nwV nwO;refine EM ?_;refine DD (BC _ _ ?_);refine DC [1,5,6,7,8] λG3 g3=>?_;replace g3:=Dy g3;refine Cw λK BC=>?_;replace zg:=Bd.mk g3;refine Db ?_;refine C_ (DD ?_);refine Cz (BC _ _ (DC [1,5,6,7] λG4 g4=>?_));replace g4:=Dy g4;refine Cw λK BC=>Cw λK BD=>FD [1] [(τ,0),(τ,2),(τ,3),(τ,6),(ο,1),(ο,4),(τ,5)] [] ?_;replace zg:=Bd.mk g4;refine DD ?_;refine OY (λw hw=>kN A1 n1 c1 x1 340 w (e1.at hw) AL) ?_;intro b2 TB un uc AMp ARH ARI ARJ;refine DD ?_;have hun:un<=340:=by
  have h1:=VI AMp;rw[List.length_take]at h1;omega
 refine RV [.row (ξ TB un uc) 125 1 un (Ic (x1.take 340)),Dk (IC y0.b ⟨hb0,ν,0,0,[]⟩++[Dk (Da y0)]),.blk b6 64 [ε ζ (c.sl:Int),ε ζ (c.ar:Int),ε χ (c.fg:Int),ε ζ (c.lg:Int),ε ζ (c.qb:Int),ε ζ (c.qo:Int),ε ζ (c.qr:Int),ε ζ (c.fr:Int),ε ζ (c.st:Int)],.blk b5 31 [ξ ν 0 0,ξ ν 0 0,ξ ν 0 0,ε ζ 0,ξ ν 0 0,ε υ 0]] [.blk b2 122 (tape TB un uc 0)] (.cons _ (BQ (l₁:=[_,_,_]) (l₂:=[_]))) csV (λi=>[.row (ξ i.A i.n i.c) 75 6 i.n (i.cs.flatMap bI),KQ (Dk (i.cs.flatMap II)).foot i.cs,.blk b2 122 (tape TB un uc i.i)]) _ (λw h1 h2=>YL b2 TB un uc (x1.take 340) c.fg (by have:=hc.fg;omega) w h2 (Sl.EJ h1 (DN (k:=0) rfl)) (λ_=>h1.AHw 0 1 rfl rfl AJ) g1' hun) ?_;rintro⟨OA,on,oc,cs,ti⟩ ⟨hon,hcs⟩;dsimp only at hon hcs;unfold csV;refine EM ?_;refine DD (BD _ _ ?_);refine DY [4,1,0,6] ?_;obtain⟨ft,hft⟩:∃ft,(Dk (cs.flatMap II)).foot=ft:=⟨_,rfl⟩;rw[hft];clear hft;refine Eo [Dk (IC y0.b ⟨hb0,ν,0,0,[]⟩++[KQ ft cs,Dk (Da y0)]),.row (ξ OA on oc) 75 6 on (cs.flatMap bI),.blk b5 31 [ξ ν 0 0,ξ ν 0 0,ξ ν 0 0,ε ζ 0,ξ ν 0 0,ε υ 0]] (λw hw=>hw.AED) (H_ (λw hw=>(Sl.EJ hw (DN (k:=1) rfl)).len) ?_);intro hol;rw[GN qM]at hol;refine DC [5,7,26,27,28] λG5 g5=>?_;replace g5:=Dy g5;refine DK ?_;refine Dv (λF' L' => ∃(i:Nat)(x:Dc)(o:Qa),EH F' G5 [5,7,26,27]/\F' 28=ε ζ (i:Int)/\L'=[Dk (IC y0.b o++[KQ ft cs,Dk (Da x)]),.row (ξ OA on oc) 75 6 on (cs.flatMap bI),.blk b5 31 [ξ ν 0 0,ξ ν 0 0,ξ ν 0 0,ε ζ 0,ξ ν 0 0,ε υ 0]]/\MkI y0 hb0 c i on x o) (λF' L'=>on-(intOf (F' 28)).toNat) ?_ ?_
 ·refine⟨0,y0,⟨hb0,ν,0,0,[]⟩,?_⟩;replace zg:=Bd.mk g5;refine DD ?_;exact⟨Ar _,hn0.t hc,hn0.hg,rfl,hn0.y7,hn0.y8,ZT.nil,rfl⟩
 intro G6 L' hI;obtain⟨i,x,o,zq,AMq,rfl,⟨hi,hxt,hxg,hxb,hx7,hx8,hog,U7⟩⟩:=hI;replace zg:=Bd.mk g5;have g6:=AO (Dy zq) AMq;replace zg:=Bd.mk (AO g5 g6);refine Db ?_;refine Cw λK BD=>?_;refine Ec (λhc=>?_) λhc=>?_
 ·refine Cz ?_;try simp only[Di,Dq]
  have hit:i<on:=by have:=AT0 ‹decide ((i:Int)<(on:Int))=τ›;omega
  obtain⟨cm,hci⟩:∃cm,cs[i]?=σ cm:=⟨_,AQ AL⟩;have hcm:=AU hci;have hok:=hcs cm hcm;refine BD _ _ ?_;obtain⟨OB,hOB⟩:∃OB,OA=OB:=⟨_,rfl⟩;rw[hOB];refine EL 1 rfl AL λgO F7 hgO EX=>?_;subst F7;replace hgO:=AAM (AO hgO EX);clear EX;refine Cw λK BD=>DK (C9 rfl λK QF=>DU hOB ?_);refine DX (IJ (i:=i*6) (vs:=bI cm) (DN (k:=1) rfl) AF (K5 qM hci)) ?_;refine DD ?_;simp only[bI,Av,Bf,AT1];refine DD ?_;intro b10 NG NH;refine QF _ _ ?_;rw[<-hOB];refine ED [0,2,3] AJ (DJ rfl (DD ?_));refine Dh AF9 (λi=>[Dk (IC y0.b i.h.o++[KQ ft cs,Dk (Da i.h.y)])]) _ (λw hw=>Es (λh=>AAr x hxb c.fr c.st hx7 hx8 o U7 hog ft cs cm hcm hok hxt AL w h) hw) ?_;rintro⟨v,h⟩ hd;unfold AF9;dsimp only[List.cons_append,List.nil_append]at hd ⊢;refine DD (BD _ _ ?_);refine Cy rfl (DD ?_);have hkp:=hd.r.keep hxt (by have:=hd.k;omega);refine⟨⟨i+1,h.y,h.o,?_⟩,?_⟩
  ·refine DU @Af ?_;have hk:=hd.k;refine⟨by rw[hOB],by omega,hkp.t.up AL AL,(hxg.run hxt hd.r AL).up AL,hkp.b.trans hxb,hkp.c.y7.trans hx7,hkp.c.y8.trans hx8,hd.g,hd.b⟩
  ·exact AXo
 refine Dr (BC _ _ ?_);have AMr:52*i<=936:=by omega
 obtain⟨b,PA,pn,pc,ps⟩:=o;dsimp only at U7;subst U7;rw[<-hxb];refine DY [0,2] ?_;refine Eo [.blk x.b 97 [x.y0,x.y1,x.y2,x.y3,x.y4,x.y5,x.y6,x.y7,x.y8,ξ x.TA x.tn x.tc,ε ζ x.N,ξ x.UA x.un x.uc,π (σ ⟨x.tb.tb,0,ν⟩),ξ x.LA x.ln x.lc,ε ζ x.lim.qb,ε ζ x.lim.qo,ε ζ x.lim.qr,ξ x.MA x.mn x.mc,ε ζ x.cap,ξ x.EA x.en x.ec,ξ x.SA x.sn x.sc,ξ x.BA x.bn x.bc,ξ (σ ⟨x.g,0,ν⟩) 65 65],Dk (Fx x),.blk b 101 [π (σ ⟨x.b,0,ν⟩),ξ PA pn pc],.row (ξ PA pn pc) 148 1 pn (TM ps),ZR x.b ⟨b,PA,pn,pc,ps⟩,.blk b5 31 [ξ ν 0 0,ξ ν 0 0,ξ ν 0 0,ε ζ 0,ξ ν 0 0,ε υ 0]] (λw hw=>by
  have h1:=(St.GV hw).pick (ix:=[4,0,1,2,5]) AJ;exact St.GV (R:=Da x) h1) ?_
 refine H_ (λw hw=>(λe=>Fs hw.apart (i:=2) (j:=0) rfl rfl AJ b AUp AVN:¬b=x.b)) ?_;intro hbx;have AAc:¬x.b=b:=λe=>hbx e.symm;refine H_ (λw hw=>(λe=>Fs hw.apart (i:=5) (j:=0) rfl rfl AJ b5 AUp AVN:¬b5=x.b)) ?_;intro h51;have h52:¬x.b=b5:=λe=>h51 e.symm;refine H_ (λw hw=>(λe=>Fs hw.apart (i:=5) (j:=2) rfl rfl AJ b5 AUp AVN:¬b5=b)) ?_;intro h53;have h54:¬b=b5:=λe=>h53 e.symm;refine DC [5,7] λG7 g7=>?_;replace g7:=Dy g7;refine Cw λK BC=>FD [0,2] [(τ,0),(τ,1),(τ,2),(τ,3),(τ,4),(τ,5),(τ,6),(τ,7),(τ,8),(ο,9),(τ,10),(ο,11)] [11] ?_;replace zg:=Bd.mk (AO g5 (AO g6 g7));refine DU (AO hbx AAc) ?_;refine Dh snV (λi=>snL x i++(Fj x::Dk (Fx x)::IC x.b ⟨b,PA,pn,pc,ps⟩)) _ (λw hw=>nO x rfl ⟨b,PA,pn,pc,ps⟩ rfl hog hxt AL w hw) ?_;rintro sn hsn;unfold snL TH IC kC kD Fj;refine EM ?_;unfold snV;refine DU (AO @AP.{0} (AO true_or (AO or_true (AO and_true (AO eq_self (AO hbx (AO AAc (AO h51 (AO h52 (AO h53 h54)))))))))) (BC _ _ ?_);refine DY [0,1,2,3,4,8] ?_;refine C8 (FF ?_);intro w hw;refine⟨⟨x,⟨b,PA,pn,pc,ps⟩,sn,52*i⟩,rfl,⟨AMr,hxt,hxg,hsn,hog⟩,?_⟩;have h1:St [] W (Fj x::Dk (Fx x)::[.row (ξ sn.ob.A sn.ob.n sn.ob.c) 41 6 sn.ob.n (JY sn.ob.os),Dk (sn.ob.os.map TG),.row (ξ sn.SA sn.sn sn.sc) 59 7 sn.sn (stC x sn.zs)]) w:=hw.pick (ix:=[3,4,0,1,2]) AJ;exact(h1.IG (k:=4) rfl).pick (ix:=[3,4,5,1]) AJ
def AGY:=AO (AO (AO (AO (AO @Ac @DT) (AO @KM @cM)) (AO (AO @Ey @Ez) (AO @E5 (AO @E8 @E9)))) (AO (AO (AO @Kw @Ky) (AO @Jg (AO @NP @JO))) (AO (AO @JP @Et) (AO @Eu (AO @FK @FO))))) (AO (AO (AO (AO @EZ @Ea) (AO @QY (AO @QZ @UI))) (AO (AO @UJ @OD) (AO @OE (AO @MH @MI)))) (AO (AO (AO @Dt @R5) (AO @OZ (AO @KW @VJ))) (AO (AO @VK @Zo) (AO @Zp (AO @R6 @R7)))))
def AAx(i:r9):List DW:=[.row (ξ i.A i.n i.c) 41 6 i.n (H7 i.Le),Dk (i.Le.map KN)]
theorem TI A n c es W(hE:Sl W W.heap.size 5 A n c (Eh es))(hok:∀e∈es,e.ok)(hn:n<=1000):
  Calls AGm 10 #[ξ A n c] W
  λen w' => ∃i:r9,en=κ (fJ i)/\ADU es i/\St [] W (AAx i) w' :=
 (Uh A n c es W hE hok hn).mono (by
  rintro en w' ⟨i,h1,h2,h3⟩;refine⟨i,h1,h2,?_⟩;have h4:St [] W (i.Le.map KN++[.row (ξ i.A i.n i.c) 41 6 i.n (H7 i.Le)]) w':=h3.perm (BQ (l₂:=[_]));exact h4.Dk.swp)
theorem AFm{M W w L R k}(hw:St M W L w)(h2:nth L k=σ (Dk R)){A n c size t cs}(hr:DW.row (ξ A n c) t size n cs∈R):Sl w w.heap.size size A n c cs:=by
 have h3:=(hw.perm (FZ h2).symm).GV;exact Sl.EJ h3 (AV.2 (.inl hr))
theorem AFt{W w L}(hw:St [] W L w){k k2}{rA:List RO}{os:List OJ}{r j}(h2:nth L k=σ (Dk (rA.map KN)))(h5:nth L k2=σ (Dk (os.map TG)))(hr:r∈rA)(hj:j∈os)(hjb:r.bs=j.bs)(hb:r.bs.length<=1000):
  Calls AGm 13 #[ξ r.A r.n r.c,ξ j.A j.n j.c] w λe w'=>e=κ (θ τ)/\Below w.heap.size w w':=by
 have h1:Sl w w.heap.size 4 r.A r.n r.c (EN r.bs):=AFm hw h2 (BL.2 ⟨r,hr,rfl⟩);have h3:Sl w w.heap.size 4 j.A j.n j.c (EN j.bs):=AFm hw h5 (BL.2 ⟨j,hj,rfl⟩);have h4:=h1.len;rw[FE]at h4;rw[hjb]at h1;exact kv h1 h3 AL
theorem AGS{l i r}(h:l[i]?=σ r):((H7 l).drop (i*6+2)).take 2=[ε ζ 0,ε ζ 0]:=by
 have h1:=K5 QN h;have h2:((H7 l).drop (i*6)).take 6=roc r:=h1;rw[<-List.drop_drop];have h3:=AT4 (List.take 2) (AT4 (List.drop 2) h2);rw[AUY,AIJ]at h3;exact h3
theorem AGB W A0 n0 c0 x0(e0:Sl W W.heap.size 1 A0 n0 c0 (Ic x0))(g0:∀x∈x0,x<65536)A1 n1 c1 x1(e1:Sl W W.heap.size 1 A1 n1 c1 (Ic x1))(g1:∀x∈x1,x<65536):
  Calls AGm 5 #[ξ A0 n0 c0,ξ A1 n1 c1] W λe w'=>e=κ (θ τ)/\Below W.heap.size W w':=by
 refine DL (M:=[]) Tryz.func5 [.tmp 4] (St.nil _ _) ?_;have zs:=Bd.mk AGY;refine DZ ?_;refine C9 rfl λK BC=>DR ?_;refine F6 AGH AGI _ (λw hw=>AAv A0 n0 c0 x0 A1 n1 c1 x1 w (e0.at hw) g0 (e1.at hw) g1) ?_;rintro⟨x,o,⟨⟨OA,on,oc,os⟩,FA,fn,fc,QA,qn,qc,ret,SA,sn,sc,zsl,dg⟩,q⟩ ⟨hq,ht,hg,hs,ho⟩;dsimp only at hq ht hg hs ho;obtain⟨hos,hzs⟩:=hs;dsimp only at hos hzs;have AGZ:=ho.id;obtain⟨st,hrun,AGa,hcnt,-⟩:=hg.tell ht;unfold AGH AGI snL TH AEG snV;refine EM ?_;refine DR ?_;intro b6 hb6;refine BC _ _ ?_;have hok:=ht.ok;have AMt:=ht.es;refine F8 4 rfl λhel=>?_;have hel:x.es.length=x.en:=by unfold Eh at hel;rw[GN H8]at hel;omega
 refine F8 1 rfl λhol=>?_;have hol:os.length=on:=by unfold JY at hol;rw[GN AEC]at hol;omega
 refine F8 3 rfl λhzl=>?_;have hzl:zsl.length=sn:=by unfold stC at hzl;rw[GN (AEF x)]at hzl;omega
 have hsn:sn<=64:=by
  have h1:=ho.l;rw[<-hzs,BF]at h1;omega
 have hid:∀(k:Nat) (z:Mx×ve),zsl[k]?=σ z->z.1.id=(k:Int)+1:=λk z hz=>AGZ k z.1 (by rw[<-hzs,BZ,hz];rfl);refine DC [5,6] λG1 g1=>?_;replace g1:=EK g1;refine C9 rfl λK BC=>?_;have zg:=Bd.mk g1;refine DD ?_;refine F6 fJ AAx _ (λw hw=>TI x.EA x.en x.ec x.es w (Sl.EJ hw (DN (k:=4) rfl)) hok AL) ?_;rintro⟨AA,an,ac,rA,erA⟩ ⟨hA1,hA2⟩;dsimp only at hA1 hA2;rw[hrun]at hA1 hA2;have hA1:rA.map RO.pl=ABl st:=hA1;have ARN:rA.length<=x.es.length:=by
  have h1:=(ABq hok (show (xm (Lb hs0 x.es)).1=ABl st by rw[hrun];rfl)).1;rw[<-hA1,BF]at h1;exact h1
 have AMw:∀r∈rA,r.bs.length<=1000:=λr hr=>by
  have h1:=(ABq hok (show (xm (Lb hs0 x.es)).1=ABl st by rw[hrun];rfl)).2 r.pl (by rw[<-hA1];exact BL.2 ⟨r,hr,rfl⟩);have h8:r.bs.length=r.pl.bs.length:=rfl;omega
 have hA2:erA=0:=hA2;subst hA2;have hpr:rA.map (λr=>(⟨r.h,r.ow,r.bs⟩:OP))=os.map OJ.pl:=by rw[hos,<-AGa,<-hA1,ATG];rfl
 unfold fJ AAx;refine EM ?_;refine DD (BC _ _ ?_);refine F8 0 rfl λhal=>?_;have hal:rA.length=an:=by unfold H7 at hal;rw[GN QN]at hal;omega
 have han:an=on:=by
  have h1:=AT4 List.length hpr;rw[BF,BF]at h1;omega
 subst han;obtain⟨on,hon⟩:∃on,an=on:=⟨_,rfl⟩;rw[hon]at hal hol ⊢;have hrep:(xm (Lb hs0 x.es)).1=ABl st:=by rw[hrun];rfl
 have AGb:=hcnt;clear hg ht ho hos hzs AGZ hrun AGa;refine DC [5,6,7,8] λG2 g2=>?_;replace g2:=Dy g2;refine Cw λK BC=>?_;replace zg:=Bd.mk g2;refine Db ?_;refine C_ (DD ?_);refine Cz (BC _ _ (DC [5,6,7] λG3 g3=>?_));replace g3:=Dy g3;refine Cw λK BC=>?_;replace zg:=Bd.mk g3;refine Db ?_;refine DC [5,6,7,36,37] λG4 g4=>?_;replace g4:=Dy g4;refine DK ?_;refine Dv (λF' L' => ∃(i:Nat),EH F' G4 [5,6,7,36]/\F' 37=ε ζ (i:Int)/\L'=[.row (ξ AA on ac) 41 6 on (H7 rA),Dk (rA.map KN),.blk b6 31 [ξ OA on oc,ξ FA fn fc,ξ QA qn qc,ε ζ ret,ξ SA sn sc,ε υ (dg:Int)],.row (ξ OA on oc) 41 6 on (JY os),Dk (os.map TG),.row (ξ SA sn sc) 59 7 sn (stC x zsl),.row (ξ x.EA x.en x.ec) 49 5 x.en (Eh x.es)]/\i<=on) (λF' L'=>on-(intOf (F' 37)).toNat) ?_ ?_
 ·refine⟨0,?_⟩;replace zg:=Bd.mk g4;refine DD ?_;exact Ar _
 intro G5 L' hI;obtain⟨i,zq,AFJ,rfl,hi⟩:=hI;replace zg:=Bd.mk g4;have g5:=AO (Dy zq) AFJ;replace zg:=Bd.mk (AO g4 g5);refine Db ?_;refine Cw λK BD=>?_;refine Ec (λhc=>?_) λhc=>?_
 ·refine Cz ?_;try simp only[Di,Dq]
  have hit:i<on:=by have:=AT0 ‹decide ((i:Int)<(on:Int))=τ›;omega
  obtain⟨j,hj⟩:∃j,os[i]?=σ j:=⟨_,AQ AL⟩;obtain⟨r,hr⟩:∃r,rA[i]?=σ r:=⟨_,AQ AL⟩;have hjr:(⟨r.h,r.ow,r.bs⟩:OP)=j.pl:=by
   have h1:(rA.map (λr=>(⟨r.h,r.ow,r.bs⟩:OP)))[i]?=(os.map OJ.pl)[i]? := by rw[hpr]
   rw[BZ,BZ,hj,hr]at h1;exact ASn h1
  have hjh:r.h=j.h:=AT4 OP.h hjr;have hjo:r.ow=j.ow:=AT4 OP.ow hjr;have hjb:r.bs=j.bs:=AT4 OP.bs hjr;refine BD _ _ ?_;obtain⟨OB,hOB⟩:∃OB,OA=OB:=⟨_,rfl⟩;rw[hOB];refine EL 3 rfl AL λgO F7 hgO EX=>?_;subst F7;replace hgO:=AAM (AO hgO EX);clear EX;obtain⟨AB,hAB⟩:∃AB,AA=AB:=⟨_,rfl⟩;rw[hAB];refine EL 0 rfl AL λgA F7 hgA EX=>?_;subst F7;replace hgA:=AAM (AO hgA EX);clear EX;refine Cw λK BD=>DK (Db ?_);refine C9 rfl λK QF=>DU (AO hOB hAB) ?_;refine DX (IJ (i:=i*6) (vs:=ojc j) (DN (k:=3) rfl) AF (K5 AEC hj)) ?_;refine DU (AO hOB hAB) ?_;simp only[ojc,Av,Bf,AT1];refine DU (AO hOB hAB) ?_;intro b10 NG NH;refine QF _ _ (DC [5,6,7,9,10,36,37] λG6 g6=>?_);replace g6:=Dy g6;refine Cw λK QF=>?_;refine Df (λ_ _=>True) (λF' L'=>EH F' G6 [5,6,7,36,37]/\F' 91=θ ο/\L'=[.blk b10 41 [ε υ (j.h:Int),ε ζ j.ow,ε ζ j.e0,ε ζ j.e1,ξ j.BA j.bn j.bc,ξ j.A j.n j.c],.row (ξ (σ ⟨gA,0,ν⟩) on ac) 41 6 on (H7 rA),Dk (rA.map KN),.blk b6 31 [ξ (σ ⟨gO,0,ν⟩) on oc,ξ FA fn fc,ξ QA qn qc,ε ζ ret,ξ SA sn sc,ε υ (dg:Int)],.row (ξ (σ ⟨gO,0,ν⟩) on oc) 41 6 on (JY os),Dk (os.map TG),.row (ξ SA sn sc) 59 7 sn (stC x zsl),.row (ξ x.EA x.en x.ec) 49 5 x.en (Eh x.es)]) ?_ ?_
  ·refine EL 1 rfl AL λgN_ F7 y_ hN=>?_;cases F7;clear y_;replace hN:=AAM hN;have q0:(H7 rA)[i*6]?=σ (ε υ (j.h:Int)):=by rw[<-hjh];exact Gi QN (k:=0) hr AJ
   have q1:(H7 rA)[i*6+1]?=σ (ε ζ j.ow):=by rw[<-hjo];exact Gi QN (k:=1) hr AJ
   have q4:(H7 rA)[i*6+4]?=σ (ξ ν 0 0):=Gi QN (k:=4) hr AJ;have q5:(H7 rA)[i*6+5]?=σ (ξ r.A r.n r.c):=Gi QN (k:=5) hr AJ;have q2:(H7 rA)[i*6+2]?=σ (ε ζ 0):=Gi QN (k:=2) hr AJ;have q3:(H7 rA)[i*6+3]?=σ (ε ζ 0):=Gi QN (k:=3) hr AJ;obtain⟨hN1,hN2⟩:=hN;have hN3:¬gA=b10:=λe=>hN1 e.symm;refine FD [0,1] [(τ,0),(τ,1),(τ,2),(τ,3),(τ,4),(τ,5),(τ,6),(τ,7),(τ,8),(τ,9),(τ,10),(τ,11),(τ,12),(τ,13),(τ,14),(τ,15),(τ,16),(τ,17),(τ,18),(τ,19),(τ,20),(τ,21),(τ,22),(τ,23),(τ,24),(τ,25),(ο,26),(τ,27),(τ,28),(τ,29),(τ,30),(τ,31),(τ,32),(τ,33),(τ,34),(τ,35),(τ,36),(τ,37),(τ,38),(τ,39),(τ,40),(τ,41),(τ,42),(τ,43),(τ,44),(τ,45),(τ,46)] [] ?_;replace zg:=Bd.mk (AO g4 (AO g5 g6));refine DU (AO hOB (AO hAB (AO hN1 hN3))) ?_;refine DX (Dx (m:=1) (i:=i*6) (v:=ε υ (j.h:Int)) (DN (k:=1) rfl) rfl q0) ?_;refine DU (AO hOB (AO hAB (AO hN1 hN3))) ?_;refine DX (Dx (m:=1) (i:=i*6+1) (v:=ε ζ j.ow) (DN (k:=1) rfl) rfl q1) ?_;refine DU (AO hOB (AO hAB (AO hN1 hN3))) ?_;refine DX (Dx (m:=1) (i:=i*6+5) (v:=ξ r.A r.n r.c) (DN (k:=1) rfl) rfl q5) ?_;refine DU (AO hOB (AO hAB (AO hN1 hN3))) ?_;refine DI (λw hw=>AFt hw (k:=2) (k2:=5) rfl rfl (AU hr) (AU hj) hjb (AMw r (AU hr))) ?_;try refine DU (AO hOB (AO hAB (AO hN1 hN3))) ?_
   refine DX (Dx (m:=1) (i:=i*6+4) (v:=ξ ν 0 0) (DN (k:=1) rfl) rfl q4) ?_;refine DU (AO hOB (AO hAB (AO hN1 hN3))) ?_;refine DX (IJ (i:=i*6+2) (vs:=[ε ζ 0,ε ζ 0]) (DN (k:=1) rfl) AF (AGS hr)) ?_;exact Yc (AO hOB (AO hAB (AO hN1 hN3)))
  intro G7 L' _ hF;obtain⟨zq,AK8,rfl⟩:=hF;replace zg:=Bd.mk g6;have g7:=AO (Dy zq) AK8;refine QF _ _ (C_ ?_);replace zg:=Bd.mk (AO g4 (AO g5 g7));refine DD ?_;refine Cz (BD _ _ (DY [1,2,3,4,5,6,7] ?_));refine Cy rfl (DD ?_);refine⟨⟨i+1,?_⟩,?_⟩
  ·exact AU0
  ·exact AXo
 refine Dr (BC _ _ ?_);clear AGb;refine DC [5,6] λG8 g8=>?_;replace g8:=Dy g8;refine Cw λK BC=>?_;replace zg:=Bd.mk (AO g4 (AO g5 g8));refine Db ?_;refine DY [5,6] ?_;refine DC [5,94,95,96] λG9 g9=>?_;replace g9:=Dy g9;refine DK ?_;refine Dv (λF' L' => ∃(i:Nat),EH F' G9 [5,94,95]/\F' 96=ε ζ (i:Int)/\L'=[.row (ξ SA sn sc) 59 7 sn (stC x zsl),.row (ξ x.EA x.en x.ec) 49 5 x.en (Eh x.es)]/\i<=sn) (λF' L'=>sn-(intOf (F' 96)).toNat) ?_ ?_
 ·refine⟨0,?_⟩;replace zg:=Bd.mk (AO g4 (AO g5 g9));refine DD ?_;exact Ar _
 intro Xo L' hI;obtain⟨i,zq,AGi,rfl,hi⟩:=hI;replace zg:=Bd.mk g9;have g10:=AO (Dy zq) AGi;replace zg:=Bd.mk (AO g4 (AO g5 (AO g9 g10)));refine Db ?_;refine Cw λK BD=>?_;refine Ec (λhc=>?_) λhc=>?_
 ·refine Cz ?_;try simp only[Di,Dq]
  have hit:i<sn:=by have:=AT0 ‹decide ((i:Int)<(sn:Int))=τ›;omega
  obtain⟨z,hz⟩:∃z,zsl[i]?=σ z:=⟨_,AQ AL⟩;have AGj:=hid i z hz;have hc:=hcnt ((i:Int)+1);have hact:AEt x.es ((i:Int)+1)=.agg #[ε ζ 0,ε ζ (HZ x.mt ((i:Int)+1)).qo,ε ζ (HZ x.mt ((i:Int)+1)).qr,ε ζ (SH x.es ((i:Int)+1):Int),ε ζ 0]:=by
   unfold AEt;rw[hrep,hc.1,hc.2]
  refine BD _ _ ?_;obtain⟨SB,hSB⟩:∃SB,SA=SB:=⟨_,rfl⟩;rw[hSB];refine EL 0 rfl AL λgS F7 hgS EX=>?_;subst F7;replace hgS:=AAM (AO hgS EX);clear EX;refine Cw λK BD=>DK (C9 rfl λK QF=>DU hSB ?_);refine DX (IJ (i:=i*7) (vs:=stc x z) (DN (k:=0) rfl) AF (K5 (AEF x) hz)) ?_;refine DU hSB ?_;simp only[stc,ssC,Av,Bf,AT1];refine DU (AO hSB AGj) ?_;intro b12 AKj;refine QF _ _ (C9 rfl λK QF=>DD ?_);refine DI (λw hw=>ACm x.EA x.en x.ec x.es ((i:Int)+1) w (Sl.EJ hw (DN (k:=2) rfl)) hok AL) ?_;try refine DU hact ?_
  intro b13 AFh AGl;refine QF _ _ (DC [5,12,13,94,95,96] λbQ g11=>?_);replace g11:=Dy g11;refine Cw λK QF=>?_;refine Df (λ_ _=>True) (λF' L'=>EH F' bQ [5,94,95,96]/\F' 126=θ ο/\L'=[.blk b13 57 [ε ζ 0,ε ζ (HZ x.mt ((i:Int)+1)).qo,ε ζ (HZ x.mt ((i:Int)+1)).qr,ε ζ (SH x.es ((i:Int)+1):Int),ε ζ 0],.blk b12 59 [ε ζ z.1.x.p.FL,ε ζ z.1.x.p.tr,ε ζ (HZ x.mt ((i:Int)+1)).qb,ε ζ (HZ x.mt ((i:Int)+1)).qo,ε ζ (HZ x.mt ((i:Int)+1)).qr,ε ζ (SH x.es ((i:Int)+1):Int),ε ζ z.2.m],.row (ξ (σ ⟨gS,0,ν⟩) sn sc) 59 7 sn (stC x zsl),.row (ξ x.EA x.en x.ec) 49 5 x.en (Eh x.es)]) ?_ ?_
  ·refine Cy rfl ?_;replace zg:=Bd.mk (AO g4 (AO g5 (AO g9 (AO g10 g11))));exact dP
  intro vM L' _ hF;obtain⟨zq,AGc,rfl⟩:=hF;replace zg:=Bd.mk g11;have g12:=AO (Dy zq) AGc;refine QF _ _ (C_ ?_);replace zg:=Bd.mk (AO g4 (AO g5 (AO g9 (AO g10 g12))));refine DD ?_;refine Cz (BD _ _ (DY [2,3] ?_));refine Cy rfl (DD ?_);refine⟨⟨i+1,?_⟩,?_⟩
  ·exact AU0
  ·exact AXo
 refine Dr (BC _ _ (C9 rfl λK BC=>DD ?_));refine DI (λw hw=>ji w) ?_;try refine DD ?_
 refine BC _ _ (C8 (EP λw hw=>?_));exact⟨rfl,hw.below⟩
end Go.Proofs.YtnkgiaimcpbhkaaGreat
