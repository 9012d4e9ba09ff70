import Derived.Test.YtnkgiaimcpbhkaaGreatDlots14
import Derived.Test.YtnkgiaimcpbhkaaGreatDlots15
import Derived.Test.YtnkgiaimcpbhkaaGreatDlots4
set_option linter.all false
set_option maxRecDepth 100000
set_option maxHeartbeats 4000000
open List renaming nil_append→AR
open Bool renaming false→ο,true→τ
open Go.Ending renaming returned→κ
open Go.IntKind renaming i64→ζ,u32→χ,u64→υ,u8→η
open Option renaming none→ν,some→σ
open Go.Value renaming bool→θ,int→ε,pointer→π,slice→ξ
namespace Go.Proofs.YtnkgiaimcpbhkaaGreat
open Tryz renaming prog→AB
open Go.RowKit Go.Shelf
theorem HG.up{x n}(h:HG x n){m}(hm:n<=m):HG x m:=by
 induction hm with
 |refl=>exact h
 | step _ ih =>
  obtain⟨s,h1,h2,h3⟩:=ih.s;exact⟨⟨s,h1,h2.up,h3.up⟩,ih.m⟩
def AEG(x:Dc):DW:=.row (ξ x.EA x.en x.ec) 49 5 x.en (Eh x.es)
structure MdI where
 x:Dc
 o:Qa
 s:SnI
 q:Nat
def AGH(i:MdI):Value:=.tuple #[ξ i.x.EA i.x.en i.x.ec,snV i.s]
def AGI(i:MdI):List DW:=snL i.x i.s++[AEG i.x]
structure MdR(i:MdI):Prop where
 q:i.q<=936
 t:IM i.x i.q
 h:HG i.x i.q
 s:SnR i.x i.o i.s
 g:ZT i.o
structure MkI(y0:Dc)(hb0:Nat)(c:jv)(i on:Nat)(x:Dc)(o:Qa):Prop where
 le:i<=on
 t:IM x (52*i)
 h:HG x (52*i)
 b:x.b=y0.b
 y7:x.y7=ε ζ (c.fr:Int)
 y8:x.y8=ε ζ (c.st:Int)
 g:ZT o
 ob:o.b=hb0
theorem nN c(hc:c.ok)W:
  Calls AB 17 #[zl c] W
  λen w' => ∃i:NwI,en=κ (nwV i)/\uL c i.x/\St [] W [Dk (IC i.x.b (nwO i)++[Dk (Da i.x)])] w' :=
 (vI c hc W).mono (by
  rintro en w' ⟨i,h1,h2,h3⟩;exact⟨i,h1,h2,St.Dk (by rw[BX];exact h3)⟩)
theorem jk hb o x:DV (Fj x::Dk (Fx x)::IC hb o)=DV (Dk (Da x)::IC hb o):=by
 simp only[DV,Da,yw,BK,ASF,BX,Bh]
theorem nO x{hb}(hxb:x.b=hb)o{b}(U7:o.b=b)(hg:ZT o){q}(ht:IM x q)(hq:q<=1000)W(hst:St (DV (Fj x::Dk (Fx x)::IC hb o)) W (Fj x::Dk (Fx x)::IC hb o) W):
  Calls AB 20 #[π (σ ⟨b,0,ν⟩)] W
  λen w' => ∃i:SnI,en=κ (snV i)/\SnR x o i/\St (DV (Fj x::Dk (Fx x)::IC hb o)) W (snL x i++(Fj x::Dk (Fx x)::IC hb o)) w':=by
 have h1:St (DV (Dk (Da x)::IC hb o)) W (Dk (Da x)::IC hb o) W:=by
  rw[<-jk];exact St.Dk (R:=Da x) hst
 rw[jk];refine(M6 [] (IC hb o++[Dk (Da x)]) (show ([]++(IC hb o++[Dk (Da x)])).Perm (Dk (Da x)::IC hb o) from BQ (l₁:=IC hb o) (l₂:=[Dk (Da x)])) snV (λi=>snL x i++(IC hb o++[Dk (Da x)])) (SnR x o) (λw hw=>vL x hxb o U7 hg ht hq w hw) h1).mono ?_;rintro en w' ⟨i,h2,h3,h4⟩;refine⟨i,h2,h3,?_⟩;rw[BX]at h4;have hp:(Dk (Da x)::(snL x i++IC hb o)).Perm (snL x i++(IC hb o++[Dk (Da x)])):=by
  rw[<-List.append_assoc];exact BQ (l₁:=[_])
 have h5:=(h4.perm hp).GV;exact h5.perm (CS (snL x i) (Da x) (IC hb o))
theorem AAv A0 n0 c0 x0 A1 n1 c1 x1 W(e0:Sl W W.heap.size 1 A0 n0 c0 (Ic x0))(g0:∀x∈x0,x<65536)(e1:Sl W W.heap.size 1 A1 n1 c1 (Ic x1))(g1:∀x∈x1,x<65536):
  Calls AB 6 #[ξ A0 n0 c0,ξ A1 n1 c1] W
  λen w' => ∃i:MdI,en=κ (AGH i)/\MdR i/\St [] W (AGI i) w':=by
 have g0':∀x∈x0.take 12,x<65536:=λx hx=>g0 x (BU hx);have g1':∀x∈x1.take 340,x<65536:=λx hx=>g1 x (BU hx);refine ER (M:=[]) (n:=46) [.tmp 4,.cell 5 31] rfl Tryz.func6 rfl rfl (Am rfl) (St.nil _ _) ?_;refine C9 rfl λK BC=>?_;have zs:=Bd.mk Jq;refine DR ?_;intro b5 hb5;refine BC _ _ (DC [0,1,5] λG1 g1=>?_);replace g1:=EK g1;refine C9 rfl λK BC=>?_;have zg:=Bd.mk g1;refine DD ?_;refine OY (λw hw=>kN A0 n0 c0 x0 12 w (e0.at hw) AL) ?_;intro b1 TA tn tc ARC ARD ARF ARG;refine DD ?_;refine Yd 1 (λp:jv×Nat=>zl p.1) (λp=>tape TA tn tc p.2) (λp=>p.1.ok/\p.2<=0+20) rfl (λw hw=>iZ b1 TA tn tc (x0.take 12) 0 w (hw.hold 1 rfl) (Sl.EJ hw (DN (k:=0) rfl)) (λ_=>hw.AHw 0 1 rfl rfl AJ) g0' AL) ?_;rintro⟨c,j⟩ ⟨hc,hj⟩;dsimp only at hc hj;unfold zl;dsimp only;refine DD ?_;intro b6 hb6 jm;refine BC _ _ (DY [0,3] ?_);refine DC [1,5,6] λG2 g2=>?_;replace g2:=Dy g2;refine C9 rfl λK BC=>?_;replace zg:=Bd.mk g2;refine DD ?_;refine F6 nwV (λi=>[Dk (IC i.x.b (nwO i)++[Dk (Da i.x)])]) _ (λw hw=>nN c hc w) ?_;rintro⟨y0,hb0⟩ hn0;dsimp only at hn0;unfold nwV nwO;refine EM ?_;refine DD (BC _ _ ?_);refine DC [1,5,6,7,8] λG3 g3=>?_;replace g3:=Dy g3;refine Cw λK BC=>?_;replace zg:=Bd.mk g3;refine Db ?_;refine C_ (DD ?_);refine Cz (BC _ _ (DC [1,5,6,7] λG4 g4=>?_));replace g4:=Dy g4;refine Cw λK BC=>Cw λK BD=>FD [1] [(τ,0),(τ,2),(τ,3),(τ,6),(ο,1),(ο,4),(τ,5)] [] ?_;replace zg:=Bd.mk g4;refine DD ?_;refine OY (λw hw=>kN A1 n1 c1 x1 340 w (e1.at hw) AL) ?_;intro b2 TB un uc AMp ARH ARI ARJ;refine DD ?_;have hun:un<=340:=by
  have h1:=VI AMp;rw[List.length_take]at h1;omega
 refine RV [.row (ξ TB un uc) 125 1 un (Ic (x1.take 340)),Dk (IC y0.b ⟨hb0,ν,0,0,[]⟩++[Dk (Da y0)]),.blk b6 64 [ε ζ (c.sl:Int),ε ζ (c.ar:Int),ε χ (c.fg:Int),ε ζ (c.lg:Int),ε ζ (c.qb:Int),ε ζ (c.qo:Int),ε ζ (c.qr:Int),ε ζ (c.fr:Int),ε ζ (c.st:Int)],.blk b5 31 [ξ ν 0 0,ξ ν 0 0,ξ ν 0 0,ε ζ 0,ξ ν 0 0,ε υ 0]] [.blk b2 122 (tape TB un uc 0)] (.cons _ (BQ (l₁:=[_,_,_]) (l₂:=[_]))) csV (λi=>[.row (ξ i.A i.n i.c) 75 6 i.n (i.cs.flatMap bI),KQ (Dk (i.cs.flatMap II)).foot i.cs,.blk b2 122 (tape TB un uc i.i)]) _ (λw h1 h2=>YL b2 TB un uc (x1.take 340) c.fg (by have:=hc.fg;omega) w h2 (Sl.EJ h1 (DN (k:=0) rfl)) (λ_=>h1.AHw 0 1 rfl rfl AJ) g1' hun) ?_;rintro⟨OA,on,oc,cs,ti⟩ ⟨hon,hcs⟩;dsimp only at hon hcs;unfold csV;refine EM ?_;refine DD (BD _ _ ?_);refine DY [4,1,0,6] ?_;obtain⟨ft,hft⟩:∃ft,(Dk (cs.flatMap II)).foot=ft:=⟨_,rfl⟩;rw[hft];clear hft;refine Eo [Dk (IC y0.b ⟨hb0,ν,0,0,[]⟩++[KQ ft cs,Dk (Da y0)]),.row (ξ OA on oc) 75 6 on (cs.flatMap bI),.blk b5 31 [ξ ν 0 0,ξ ν 0 0,ξ ν 0 0,ε ζ 0,ξ ν 0 0,ε υ 0]] (λw hw=>hw.AED) (H_ (λw hw=>(Sl.EJ hw (DN (k:=1) rfl)).len) ?_);intro hol;rw[GN qM]at hol;refine DC [5,7,26,27,28] λG5 g5=>?_;replace g5:=Dy g5;refine DK ?_;refine Dv (λF' L' => ∃(i:Nat)(x:Dc)(o:Qa),EH F' G5 [5,7,26,27]/\F' 28=ε ζ (i:Int)/\L'=[Dk (IC y0.b o++[KQ ft cs,Dk (Da x)]),.row (ξ OA on oc) 75 6 on (cs.flatMap bI),.blk b5 31 [ξ ν 0 0,ξ ν 0 0,ξ ν 0 0,ε ζ 0,ξ ν 0 0,ε υ 0]]/\MkI y0 hb0 c i on x o) (λF' L'=>on-(intOf (F' 28)).toNat) ?_ ?_
 ·refine⟨0,y0,⟨hb0,ν,0,0,[]⟩,?_⟩;replace zg:=Bd.mk g5;refine DD ?_;exact⟨Ar _,hn0.t hc,hn0.hg,rfl,hn0.y7,hn0.y8,ZT.nil,rfl⟩
 intro G6 L' hI;obtain⟨i,x,o,zq,AMq,rfl,⟨hi,hxt,hxg,hxb,hx7,hx8,hog,U7⟩⟩:=hI;replace zg:=Bd.mk g5;have g6:=AO (Dy zq) AMq;replace zg:=Bd.mk (AO g5 g6);refine Db ?_;refine Cw λK BD=>?_;refine Ec (λhc=>?_) λhc=>?_
 ·refine Cz ?_;try simp only[Di,Dq]
  have hit:i<on:=by have:=AT0 ‹decide ((i:Int)<(on:Int))=τ›;omega
  obtain⟨cm,hci⟩:∃cm,cs[i]?=σ cm:=⟨_,AQ AL⟩;have hcm:=AU hci;have hok:=hcs cm hcm;refine BD _ _ ?_;obtain⟨OB,hOB⟩:∃OB,OA=OB:=⟨_,rfl⟩;rw[hOB];refine EL 1 rfl AL λgO F7 hgO EX=>?_;subst F7;replace hgO:=AAM (AO hgO EX);clear EX;refine Cw λK BD=>DK (C9 rfl λK QF=>DU hOB ?_);refine DX (IJ (i:=i*6) (vs:=bI cm) (DN (k:=1) rfl) AF (K5 qM hci)) ?_;refine DD ?_;simp only[bI,Av,Bf,AT1];refine DD ?_;intro b10 NG NH;refine QF _ _ ?_;rw[<-hOB];refine ED [0,2,3] AJ (DJ rfl (DD ?_));refine Dh AF9 (λi=>[Dk (IC y0.b i.h.o++[KQ ft cs,Dk (Da i.h.y)])]) _ (λw hw=>Es (λh=>AAr x hxb c.fr c.st hx7 hx8 o U7 hog ft cs cm hcm hok hxt AL w h) hw) ?_;rintro⟨v,h⟩ hd;unfold AF9;dsimp only[List.cons_append,AR]at hd ⊢;refine DD (BD _ _ ?_);refine Cy rfl (DD ?_);have hkp:=hd.r.keep hxt (by have:=hd.k;omega);refine⟨⟨i+1,h.y,h.o,?_⟩,?_⟩
  ·refine DU @Af ?_;have hk:=hd.k;refine⟨by rw[hOB],by omega,hkp.t.up AL AL,(hxg.run hxt hd.r AL).up AL,hkp.b.trans hxb,hkp.c.y7.trans hx7,hkp.c.y8.trans hx8,hd.g,hd.b⟩
  ·exact AXo
 refine Dr (BC _ _ ?_);have AMr:52*i<=936:=by omega
 obtain⟨b,PA,pn,pc,ps⟩:=o;dsimp only at U7;subst U7;rw[<-hxb];refine DY [0,2] ?_;refine Eo [.blk x.b 97 [x.y0,x.y1,x.y2,x.y3,x.y4,x.y5,x.y6,x.y7,x.y8,ξ x.TA x.tn x.tc,ε ζ x.N,ξ x.UA x.un x.uc,π (σ ⟨x.tb.tb,0,ν⟩),ξ x.LA x.ln x.lc,ε ζ x.lim.qb,ε ζ x.lim.qo,ε ζ x.lim.qr,ξ x.MA x.mn x.mc,ε ζ x.cap,ξ x.EA x.en x.ec,ξ x.SA x.sn x.sc,ξ x.BA x.bn x.bc,ξ (σ ⟨x.g,0,ν⟩) 65 65],Dk (Fx x),.blk b 101 [π (σ ⟨x.b,0,ν⟩),ξ PA pn pc],.row (ξ PA pn pc) 148 1 pn (TM ps),ZR x.b ⟨b,PA,pn,pc,ps⟩,.blk b5 31 [ξ ν 0 0,ξ ν 0 0,ξ ν 0 0,ε ζ 0,ξ ν 0 0,ε υ 0]] (λw hw=>by
  have h1:=(St.GV hw).pick (ix:=[4,0,1,2,5]) AJ;exact St.GV (R:=Da x) h1) ?_
 refine H_ (λw hw=>(λe=>Fs hw.apart (i:=2) (j:=0) rfl rfl AJ b AUp AVN:¬b=x.b)) ?_;intro hbx;have AAc:¬x.b=b:=λe=>hbx e.symm;refine H_ (λw hw=>(λe=>Fs hw.apart (i:=5) (j:=0) rfl rfl AJ b5 AUp AVN:¬b5=x.b)) ?_;intro h51;have h52:¬x.b=b5:=λe=>h51 e.symm;refine H_ (λw hw=>(λe=>Fs hw.apart (i:=5) (j:=2) rfl rfl AJ b5 AUp AVN:¬b5=b)) ?_;intro h53;have h54:¬b=b5:=λe=>h53 e.symm;refine DC [5,7] λG7 g7=>?_;replace g7:=Dy g7;refine Cw λK BC=>FD [0,2] [(τ,0),(τ,1),(τ,2),(τ,3),(τ,4),(τ,5),(τ,6),(τ,7),(τ,8),(ο,9),(τ,10),(ο,11)] [11] ?_;replace zg:=Bd.mk (AO g5 (AO g6 g7));refine DU (AO hbx AAc) ?_;refine Dh snV (λi=>snL x i++(Fj x::Dk (Fx x)::IC x.b ⟨b,PA,pn,pc,ps⟩)) _ (λw hw=>nO x rfl ⟨b,PA,pn,pc,ps⟩ rfl hog hxt AL w hw) ?_;rintro sn hsn;unfold snL TH IC kC kD Fj;refine EM ?_;unfold snV;refine DU (AO @AP.{0} (AO true_or (AO or_true (AO and_true (AO eq_self (AO hbx (AO AAc (AO h51 (AO h52 (AO h53 h54)))))))))) (BC _ _ ?_);refine DY [0,1,2,3,4,8] ?_;refine C8 (FF ?_);intro w hw;refine⟨⟨x,⟨b,PA,pn,pc,ps⟩,sn,52*i⟩,rfl,⟨AMr,hxt,hxg,hsn,hog⟩,?_⟩;have h1:St [] W (Fj x::Dk (Fx x)::[.row (ξ sn.ob.A sn.ob.n sn.ob.c) 41 6 sn.ob.n (JY sn.ob.os),Dk (sn.ob.os.map TG),.row (ξ sn.SA sn.sn sn.sc) 59 7 sn.sn (stC x sn.zs)]) w:=hw.pick (ix:=[3,4,0,1,2]) AJ;exact(h1.IG (k:=4) rfl).pick (ix:=[3,4,5,1]) AJ
def AGJ:=AO (AO (AO (AO (AO @Ac @DT) (AO @KM @cM)) (AO (AO @Ey @Ez) (AO @E5 (AO @E8 @E9)))) (AO (AO (AO @Kw @Ky) (AO @Jg (AO @NP @JO))) (AO (AO @JP @Et) (AO @Eu (AO @FK @FO))))) (AO (AO (AO (AO @EZ @Ea) (AO @QY (AO @QZ @UI))) (AO (AO @UJ @OD) (AO @OE (AO @MH @MI)))) (AO (AO (AO @Dt @R5) (AO @OZ (AO @KW @VJ))) (AO (AO @VK @Zo) (AO @Zp (AO @R6 @R7)))))
def AAx(i:r9):List DW:=[.row (ξ i.A i.n i.c) 41 6 i.n (H7 i.Le),Dk (i.Le.map KN)]
theorem TI A n c es W(hE:Sl W W.heap.size 5 A n c (Eh es))(hok:∀e∈es,e.ok)(hn:n<=1000):
  Calls AB 10 #[ξ A n c] W
  λen w' => ∃i:r9,en=κ (fJ i)/\ADU es i/\St [] W (AAx i) w' :=
 (Uh A n c es W hE hok hn).mono (by
  rintro en w' ⟨i,h1,h2,h3⟩;refine⟨i,h1,h2,?_⟩;have h4:St [] W (i.Le.map KN++[.row (ξ i.A i.n i.c) 41 6 i.n (H7 i.Le)]) w':=h3.perm (BQ (l₂:=[_]));exact h4.Dk.swp)
theorem AD7{x q}(ht:IM x q)(hg:HG x q){o}(ho:o∈jf x)p{g t:Nat}(hg1:1<=g/\g<=1000)(ht1:1<=t/\t<=9){w:Nat}(hw:(w:Int)=(pkF (De o.h:Int) (g:Int) (t:Int)).1):Lb hs0 (x.es++[⟨p,1,w,0,0⟩])=ν:=by
 obtain⟨s,h1,-,-,h2⟩:=hg.tell ht;unfold jf at ho;obtain⟨e,he,rfl⟩:=BL.1 ho;rw[aP]at he;obtain⟨a,ha,rfl⟩:=BL.1 he;have hl:=(Bl.1 ha).2;have hs:=(ht.j.te.live a hl).sl;obtain⟨ob,U7⟩:=h2 a hl;have hlt:=pQ ht.j.tb hl;have hm:=ht.j.tb.m;have hw2:De w=a:=by
  have h3:De (enP x (ET x.tb a)).h=a:=hs;rw[h3]at hw;unfold pkF at hw;rw[ATt AL]at hw;dsimp only at hw;unfold De;omega
 rw[Yv,h1];show Jk s ⟨p,1,w,0,0⟩=ν;unfold Jk;rw[AA4 AJ,ATt AJ];split
 ·rfl
 rw[ATt (show ¬(1:Int)=32 by decide)];split
 ·rfl
 rw[ATt (show ¬(1:Int)=33 by decide),ATv rfl];unfold Te;rw[ATt];rintro⟨-,h4⟩;dsimp only at h4;rw[hw2,U7]at h4;cases h4
theorem wf_u32{n}(h:(Lit.int χ n).wf=τ):0<=n/\n<=4294967295:=by
 simp only[Lit.wf,Au,AT5]at h;exact h
theorem AFH(a b:Nat):((a:Int) % (b:Int)).toNat=a % b:=by rw[<-Int.natCast_emod,Bo]
theorem AFK W A0 n0 c0 x0(e0:Sl W W.heap.size 1 A0 n0 c0 (Ic x0))(g0:∀x∈x0,x<65536)A1 n1 c1 x1(e1:Sl W W.heap.size 1 A1 n1 c1 (Ic x1))(g1:∀x∈x1,x<65536)gn(hgn:0<=gn/\gn<=4294967295)at_(hat:0<=at_/\at_<=255):
  Calls AB 3 #[ξ A0 n0 c0,ξ A1 n1 c1,ε χ gn,ε η at_] W λe w'=>e=κ (θ τ)/\Below W.heap.size W w':=by
 obtain⟨gn,rfl⟩:∃a':Nat,gn=(a':Int):=⟨gn.toNat,by omega⟩;obtain⟨at_,rfl⟩:∃a':Nat,at_=(a':Int):=⟨at_.toNat,by omega⟩;refine DL (M:=[]) Tryz.func3 [.tmp 8] (St.nil _ _) ?_;have zs:=Bd.mk AGJ;refine DZ ?_;refine C9 rfl λK BC=>DR ?_;refine F6 AGH AGI _ (λw hw=>AAv A0 n0 c0 x0 A1 n1 c1 x1 w (e0.at hw) g0 (e1.at hw) g1) ?_;rintro⟨x,o,⟨⟨OA,on,oc,os⟩,FA,fn,fc,QA,qn,qc,ret,SA,sn,sc,zsl,dg⟩,q⟩ ⟨hq,ht,hg,hs,ho⟩;dsimp only at hq ht hg hs ho;have hos:=hs.os;dsimp only at hos;unfold AGH AGI snL TH AEG snV;refine EM ?_;refine DR ?_;intro b10 NG;refine BC _ _ (DY [0,1,4] ?_);have hok:=ht.ok;have AMt:=ht.es;have AEZ:=λ(o:OP) (h:o∈jf x) (p:Int)=>@AD7 x q ht hg o h p;rw[<-hos]at AEZ;obtain⟨es,hes⟩:∃es,x.es=es:=⟨_,rfl⟩;obtain⟨EA,hEA⟩:∃EA,x.EA=EA:=⟨_,rfl⟩;obtain⟨n,hn⟩:∃n,x.en=n:=⟨_,rfl⟩;obtain⟨ec,hec⟩:∃ec,x.ec=ec:=⟨_,rfl⟩;rw[hes,hEA,hn,hec];rw[hes]at hok AMt AEZ;refine F8 2 rfl λhel=>?_;have hel:es.length=n:=by unfold Eh at hel;rw[GN H8]at hel;omega
 refine F8 1 rfl λhol=>?_;have hol:os.length=on:=by unfold JY at hol;rw[GN ADx]at hol;omega
 have hoh:∀j∈os,j.h<18446744073709551616:=λj hj=>by
  have h1:j.pl∈jf x:=by rw[<-hos];exact BL.2 ⟨j,hj,rfl⟩
  obtain⟨e,he,h2⟩:=BL.1 (show j.pl∈(KH x.tb x.tb.en).map (enP x) from h1);rw[aP]at he;obtain⟨a,ha,rfl⟩:=BL.1 he;have h3:=(ht.j.te.live a (Bl.1 ha).2).hh;have h4:j.h=(ET x.tb a).h:=(AT4 OP.h h2).symm;omega
 clear ht hg hs ho hes hEA hn hec hos;refine DC [2,3,9,10] λG1 g1=>?_;replace g1:=EK g1;refine Cw λK BC=>?_;have zg:=Bd.mk g1;refine Db ?_;refine C_ ?_;by_cases h0:on=0
 ·have d0:decide ((on:Int)=0)=τ:=AUB AL;refine DU d0 ?_;refine C9 rfl λK BD=>DD ?_;refine DI (λw hw=>ji w) ?_;try refine DD ?_
  refine BD _ _ (C8 (EP λw hw=>?_));exact⟨rfl,hw.below⟩
 have d0:decide ((on:Int)=0)=ο:=AUC AL;refine DU d0 ?_;refine Cz (BC _ _ ?_);have hlt:at_ % on<on:=ASo _ AL;have hmod:=AFH at_ on;obtain⟨k,hk⟩:∃k,at_ % on=k:=⟨_,rfl⟩;rw[hk]at hlt hmod;obtain⟨j,hj⟩:∃j,os[k]?=σ j:=⟨_,AQ AL⟩;have hjm:=AU hj;obtain⟨OB,hOB⟩:∃OB,OA=OB:=⟨_,rfl⟩;rw[hOB];refine EL 1 rfl AL λgO F7 hgO EX=>?_;subst F7;replace hgO:=AAM (AO hgO EX);clear EX;refine DC [2,3,9,10] λG2 g2=>?_;replace g2:=Dy g2;refine Cw λK BC=>FD [0,1] [(τ,0),(τ,1),(τ,2),(τ,3),(τ,4),(τ,5),(τ,6),(τ,7),(τ,8),(τ,9),(ο,10),(ο,11)] [11] ?_;replace zg:=Bd.mk g2;refine DU (AO hOB (AO hmod d0)) ?_;refine DX (IJ (i:=k*6) (vs:=ojc j) (DN (k:=1) rfl) AF (K5 ADx hj)) ?_;refine DD ?_;simp only[ojc,Av,Bf,AT1];refine DD ?_;intro b11 yu AHV;refine BC _ _ (DY [0,3] ?_);refine DC [2,3,9,11] λG3 g3=>?_;replace g3:=Dy g3;refine C9 rfl λK BC=>?_;replace zg:=Bd.mk g3;refine DD ?_;refine DI (λw hw=>F4 j.h (hoh j hjm) w) ?_;try refine DD ?_
 obtain⟨wv,AGL,AGS⟩:=ABz (De j.h:Int) (1+(gn:Int) % 1000) (1+(at_:Int) % 9);obtain⟨pe,hpe⟩:∃pe,(pkF (De j.h:Int) (1+(gn:Int) % 1000) (1+(at_:Int) % 9)).2=pe:=⟨_,rfl⟩;refine DI (λw hw=>sN (De j.h:Int) (1+(gn:Int) % 1000) (1+(at_:Int) % 9) w) ?_;try refine DU (AO @pkV.eq_1 (AO AGL hpe)) ?_
 refine BC _ _ ?_;have hbz:=AEZ j.pl (BL.2 ⟨j,hjm,rfl⟩) j.ow (g:=1+gn % 1000) (t:=1+at_ % 9) AL AL (w:=wv) (by rw[<-AGL];rfl);have hok2:∀e∈es++[(⟨j.ow,1,wv,0,0⟩:Gs)],e.ok:=λe he=>by
  rcases AV.1 he with he|he
  ·exact hok e he
  ·rw[BH.1 he];exact ABJ AGS AJ
 refine DC [9,11,12] λG4 g4=>?_;replace g4:=Dy g4;refine Cw λK BC=>?_;refine Df (λ_ _=>True) (λF' L'=>F' 15=ε ζ 28/\L'=[]) ?_ ?_
 ·refine JU [0] (.rd 1 (.rd 3 (.rd 4 (.rd 5 (.rd 6 (.more 0 (.more 2 (.act 7 (.act 8 (.act 9 (.rd 10 (.rd 11 (.rd 12 (.rd 13 (.rd 14 (.done))))))))) (.act 7 (.act 2 (.act 8 (.act 9 (.rd 10 (.rd 11 (.rd 12 (.rd 13 (.rd 14 (.done))))))))))) (.act 7 (.act 0 (.act 2 (.act 8 (.act 9 (.rd 10 (.rd 11 (.rd 12 (.rd 13 (.rd 14 (.done))))))))))))))))) [] ?_;replace zg:=Bd.mk g4;refine DD ?_;refine AO ?_ ?_
  ·intro b12 AKj AKk;refine AO ?_ ?_
   ·skip
    refine EI 0 Vm rfl rfl (λw hw=>(Sl.EJ hw (DN (k:=2) rfl)).reads) (AB1 _) AL AL ?_;intro XA xc hlx hrx;try refine DU (AO @Ao (AO @AR.{0} (AO @AP.{0} (AO true_or (AO or_true (AO and_true eq_self)))))) ?_
    intro b13 AFh AGM;try refine DU (AO @Ao (AO @AR.{0} (AO @AP.{0} (AO true_or (AO or_true (AO and_true eq_self)))))) ?_
    refine D6 1 Vm rfl (λw hw=>D_ (size:=5) (DN (k:=0) rfl) rfl hw) rfl AL AL ?_;intro A5 c5 hl5 iQ;try refine DU (AO @Ao (AO @AR.{0} (AO @AP.{0} (AO true_or (AO or_true (AO and_true eq_self)))))) ?_
    refine F6 fJ AAx _ (λw hw=>TI A5 (n+1) c5 (es++[⟨j.ow,1,wv,0,0⟩]) w AHR hok2 AL) ?_;rintro⟨AA,an,ac,rA,erA⟩ ⟨hA1,hA2⟩;dsimp only at hA1 hA2;rw[hbz]at hA2;have hA2:erA=28:=hA2;subst hA2;unfold fJ AAx;refine EM ?_;try refine DU (AO @Ao (AO @AR.{0} (AO @AP.{0} (AO true_or (AO or_true (AO and_true eq_self)))))) ?_
    refine⟨[],by decide,?_⟩;simp only[Dl,nth]
    (try exact⟨rfl,rfl⟩)
   ·skip
    intro b13 AFh AGM;try refine DU (AO @Ao (AO @AR.{0} (AO @AP.{0} (AO true_or (AO or_true (AO and_true eq_self)))))) ?_
    refine EI 1 Vm rfl rfl (λw hw=>(Sl.EJ hw (DN (k:=3) rfl)).reads) (AB1 _) AL AL ?_;intro XA xc hlx hrx;try refine DU (AO @Ao (AO @AR.{0} (AO @AP.{0} (AO true_or (AO or_true (AO and_true eq_self)))))) ?_
    refine D6 0 Vm rfl (λw hw=>D_ (size:=5) (DN (k:=1) rfl) rfl hw) rfl AL AL ?_;intro A5 c5 hl5 iQ;try refine DU (AO @Ao (AO @AR.{0} (AO @AP.{0} (AO true_or (AO or_true (AO and_true eq_self)))))) ?_
    refine F6 fJ AAx _ (λw hw=>TI A5 (n+1) c5 (es++[⟨j.ow,1,wv,0,0⟩]) w AHR hok2 AL) ?_;rintro⟨AA,an,ac,rA,erA⟩ ⟨hA1,hA2⟩;dsimp only at hA1 hA2;rw[hbz]at hA2;have hA2:erA=28:=hA2;subst hA2;unfold fJ AAx;refine EM ?_;try refine DU (AO @Ao (AO @AR.{0} (AO @AP.{0} (AO true_or (AO or_true (AO and_true eq_self)))))) ?_
    refine⟨[],by decide,?_⟩;simp only[Dl,nth]
    (try exact⟨rfl,rfl⟩)
  ·intro b13 AFh AGM;intro b12 AKj AKk;try refine DU (AO @Ao (AO @AR.{0} (AO @AP.{0} (AO true_or (AO or_true (AO and_true eq_self)))))) ?_
   refine EI 0 Vm rfl rfl (λw hw=>(Sl.EJ hw (DN (k:=3) rfl)).reads) (AB1 _) AL AL ?_;intro XA xc hlx hrx;try refine DU (AO @Ao (AO @AR.{0} (AO @AP.{0} (AO true_or (AO or_true (AO and_true eq_self)))))) ?_
   refine D6 0 Vm rfl (λw hw=>D_ (size:=5) (DN (k:=1) rfl) rfl hw) rfl AL AL ?_;intro A5 c5 hl5 iQ;try refine DU (AO @Ao (AO @AR.{0} (AO @AP.{0} (AO true_or (AO or_true (AO and_true eq_self)))))) ?_
   refine F6 fJ AAx _ (λw hw=>TI A5 (n+1) c5 (es++[⟨j.ow,1,wv,0,0⟩]) w AHR hok2 AL) ?_;rintro⟨AA,an,ac,rA,erA⟩ ⟨hA1,hA2⟩;dsimp only at hA1 hA2;rw[hbz]at hA2;have hA2:erA=28:=hA2;subst hA2;unfold fJ AAx;refine EM ?_;try refine DU (AO @Ao (AO @AR.{0} (AO @AP.{0} (AO true_or (AO or_true (AO and_true eq_self)))))) ?_
   refine⟨[],by decide,?_⟩;simp only[Dl,nth]
   (try exact⟨rfl,rfl⟩)
 intro G5 L' _ hF;obtain⟨AFi,rfl⟩:=hF;have g5:=AFi;refine BC _ _ (C9 rfl λK BC=>?_);replace zg:=Bd.mk g5;refine DD ?_;refine DI (λw hw=>ji w) ?_;try refine DD ?_
 refine BC _ _ (C8 (EP λw hw=>?_));exact⟨rfl,hw.below⟩
end Go.Proofs.YtnkgiaimcpbhkaaGreat
