import Derived.Test.YtnkgiaimcpbhkaaGreatDkips14
import Derived.Test.YtnkgiaimcpbhkaaGreatDkips15
import Derived.Test.YtnkgiaimcpbhkaaGreatDkips4
set_option linter.all false
set_option maxRecDepth 100000
set_option maxHeartbeats 4000000
namespace Go.Proofs.YtnkgiaimcpbhkaaGreat
open Tryz renaming prog→AB
open Go.RowKit Go.Shelf
def AEG(x:Dc):DW:=.row (.slice x.EA x.en x.ec) 49 5 x.en (Eh x.es)
structure MdI where
 x:Dc
 o:Qa
 s:SnI
 q:Nat
def AGH(i:MdI):Value:=.tuple #[.slice i.x.EA i.x.en i.x.ec,snV i.s]
def AGI(i:MdI):List DW:=snL i.x i.s++[AEG i.x]
structure MdR(i:MdI):Prop where
 q:i.q<=936
 t:IM i.x i.q
 s:SnR i.x i.o i.s
 g:ZT i.o
structure MkI(y0:Dc)(hb0:Nat)(c:jv)(i on:Nat)(x:Dc)(o:Qa):Prop where
 le:i<=on
 t:IM x (52*i)
 b:x.b=y0.b
 y7:x.y7=.int .i64 (c.fr:Int)
 y8:x.y8=.int .i64 (c.st:Int)
 g:ZT o
 ob:o.b=hb0
theorem nN(c:jv)(hc:c.ok)(W:World):
  Calls AB 17 #[zl c] W
  λen w' => ∃i:NwI,en=.returned (nwV i)/\uL c i.x/\St [] W [Dk (IC i.x.b (nwO i)++[Dk (Da i.x)])] w' :=
 (vI c hc W).mono (by
  rintro en w' ⟨i,h1,h2,h3⟩;exact⟨i,h1,h2,St.Dk (by rw[BX];exact h3)⟩)
theorem jk(hb:Nat)(o:Qa)(x:Dc):DV (Fj x::Dk (Fx x)::IC hb o)=DV (Dk (Da x)::IC hb o):=by
 simp only[DV,Da,yw,BK,ASF,BX,Bh]
theorem nO(x:Dc){hb:Nat}(hxb:x.b=hb)(o:Qa){b:Nat}(U7:o.b=b)(hg:ZT o){q:Nat}(ht:IM x q)(hq:q<=1000)(W:World)(hst:St (DV (Fj x::Dk (Fx x)::IC hb o)) W (Fj x::Dk (Fx x)::IC hb o) W):
  Calls AB 20 #[.pointer (some ⟨b,0,none⟩)] W
  λen w' => ∃i:SnI,en=.returned (snV i)/\SnR x o i/\St (DV (Fj x::Dk (Fx x)::IC hb o)) W (snL x i++(Fj x::Dk (Fx x)::IC hb o)) w':=by
 have h1:St (DV (Dk (Da x)::IC hb o)) W (Dk (Da x)::IC hb o) W:=by
  rw[<-jk];exact St.Dk (R:=Da x) hst
 rw[jk];refine(M6 [] (IC hb o++[Dk (Da x)]) (show ([]++(IC hb o++[Dk (Da x)])).Perm (Dk (Da x)::IC hb o) from BQ (l₁:=IC hb o) (l₂:=[Dk (Da x)])) snV (λi=>snL x i++(IC hb o++[Dk (Da x)])) (SnR x o) (λw hw=>vL x hxb o U7 hg ht hq w hw) h1).mono ?_;rintro en w' ⟨i,h2,h3,h4⟩;refine⟨i,h2,h3,?_⟩;rw[BX]at h4;have hp:(Dk (Da x)::(snL x i++IC hb o)).Perm (snL x i++(IC hb o++[Dk (Da x)])):=by
  rw[<-List.append_assoc];exact BQ (l₁:=[_])
 have h5:=(h4.perm hp).GV;exact h5.perm (CS (snL x i) (Da x) (IC hb o))
theorem AAv(A0:Option Addr)(n0 c0:Nat)(x0:List Nat)(A1:Option Addr)(n1 c1:Nat)(x1:List Nat)(W:World)(e0:Sl W W.heap.size 1 A0 n0 c0 (Ic x0))(g0:∀x∈x0,x<65536)(e1:Sl W W.heap.size 1 A1 n1 c1 (Ic x1))(g1:∀x∈x1,x<65536):
  Calls AB 6 #[.slice A0 n0 c0,.slice A1 n1 c1] W
  λen w' => ∃i:MdI,en=.returned (AGH i)/\MdR i/\St [] W (AGI i) w':=by
 have g0':∀x∈x0.take 12,x<65536:=λx hx=>g0 x (BU hx);have g1':∀x∈x1.take 340,x<65536:=λx hx=>g1 x (BU hx);refine ER (M:=[]) (n:=46) [.tmp 4,.cell 5 31] rfl Tryz.func6 rfl rfl (Am rfl) (St.nil _ _) ?_;refine C9 rfl λK BC=>?_;have zs:=Bd.mk Jq;refine DR ?_;intro b5 hb5;refine BC _ _ (DC [0,1,5] λG1 g1=>?_);replace g1:=EK g1;refine C9 rfl λK BC=>?_;have zg:=Bd.mk g1;refine DD ?_;refine OY (λw hw=>kN A0 n0 c0 x0 12 w (e0.at hw) AL) ?_;intro b1 TA tn tc ARC ARD ARF ARG;refine DD ?_;refine Yd 1 (λp:jv×Nat=>zl p.1) (λp=>tape TA tn tc p.2) (λp=>p.1.ok/\p.2<=0+20) rfl (λw hw=>iZ b1 TA tn tc (x0.take 12) 0 w (hw.hold 1 rfl) (Sl.EJ hw (DN (k:=0) rfl)) (λ_=>hw.AHw 0 1 rfl rfl AJ) g0' AL) ?_;rintro⟨c,j⟩ ⟨hc,hj⟩;dsimp only at hc hj;unfold zl;dsimp only;refine DD ?_;intro b6 hb6 jm;refine BC _ _ (DY [0,3] ?_);refine DC [1,5,6] λG2 g2=>?_;replace g2:=Dy g2;refine C9 rfl λK BC=>?_;replace zg:=Bd.mk g2;refine DD ?_;refine F6 nwV (λi=>[Dk (IC i.x.b (nwO i)++[Dk (Da i.x)])]) _ (λw hw=>nN c hc w) ?_;rintro⟨y0,hb0⟩ hn0;dsimp only at hn0;unfold nwV nwO;refine EM ?_;refine DD (BC _ _ ?_);refine DC [1,5,6,7,8] λG3 g3=>?_;replace g3:=Dy g3;refine Cw λK BC=>?_;replace zg:=Bd.mk g3;refine Db ?_;refine C_ (DD ?_);refine Cz (BC _ _ (DC [1,5,6,7] λG4 g4=>?_));replace g4:=Dy g4;refine Cw λK BC=>Cw λK BD=>FD [1] [(true,0),(true,2),(true,3),(true,6),(false,1),(false,4),(true,5)] [] ?_;replace zg:=Bd.mk g4;refine DD ?_;refine OY (λw hw=>kN A1 n1 c1 x1 340 w (e1.at hw) AL) ?_;intro b2 TB un uc AMp ARH ARI ARJ;refine DD ?_;have hun:un<=340:=by
  have h1:=VI AMp;rw[List.length_take]at h1;omega
 refine RV [.row (.slice TB un uc) 125 1 un (Ic (x1.take 340)),Dk (IC y0.b ⟨hb0,none,0,0,[]⟩++[Dk (Da y0)]),.blk b6 64 [.int .i64 (c.sl:Int),.int .i64 (c.ar:Int),.int .u32 (c.fg:Int),.int .i64 (c.lg:Int),.int .i64 (c.qb:Int),.int .i64 (c.qo:Int),.int .i64 (c.qr:Int),.int .i64 (c.fr:Int),.int .i64 (c.st:Int)],.blk b5 31 [.slice none 0 0,.slice none 0 0,.slice none 0 0,.int .i64 0,.slice none 0 0,.int .u64 0]] [.blk b2 122 (tape TB un uc 0)] (.cons _ (BQ (l₁:=[_,_,_]) (l₂:=[_]))) csV (λi=>[.row (.slice i.A i.n i.c) 75 6 i.n (i.cs.flatMap bI),KQ (Dk (i.cs.flatMap II)).foot i.cs,.blk b2 122 (tape TB un uc i.i)]) _ (λw h1 h2=>YL b2 TB un uc (x1.take 340) c.fg (by have:=hc.fg;omega) w h2 (Sl.EJ h1 (DN (k:=0) rfl)) (λ_=>h1.AHw 0 1 rfl rfl AJ) g1' hun) ?_;rintro⟨OA,on,oc,cs,ti⟩ ⟨hon,hcs⟩;dsimp only at hon hcs;unfold csV;refine EM ?_;refine DD (BD _ _ ?_);refine DY [4,1,0,6] ?_;obtain⟨ft,hft⟩:∃ft,(Dk (cs.flatMap II)).foot=ft:=⟨_,rfl⟩;rw[hft];clear hft;refine Eo [Dk (IC y0.b ⟨hb0,none,0,0,[]⟩++[KQ ft cs,Dk (Da y0)]),.row (.slice OA on oc) 75 6 on (cs.flatMap bI),.blk b5 31 [.slice none 0 0,.slice none 0 0,.slice none 0 0,.int .i64 0,.slice none 0 0,.int .u64 0]] (λw hw=>hw.AED) (H_ (λw hw=>(Sl.EJ hw (DN (k:=1) rfl)).len) ?_);intro hol;rw[GN qM]at hol;refine DC [5,7,26,27,28] λG5 g5=>?_;replace g5:=Dy g5;refine DK ?_;refine Dv (λF' L' => ∃(i:Nat)(x:Dc)(o:Qa),EH F' G5 [5,7,26,27]/\F' 28=.int .i64 (i:Int)/\L'=[Dk (IC y0.b o++[KQ ft cs,Dk (Da x)]),.row (.slice OA on oc) 75 6 on (cs.flatMap bI),.blk b5 31 [.slice none 0 0,.slice none 0 0,.slice none 0 0,.int .i64 0,.slice none 0 0,.int .u64 0]]/\MkI y0 hb0 c i on x o) (λF' L'=>on-(intOf (F' 28)).toNat) ?_ ?_
 ·refine⟨0,y0,⟨hb0,none,0,0,[]⟩,?_⟩;replace zg:=Bd.mk g5;refine DD ?_;exact⟨Ar _,hn0.t hc,rfl,hn0.y7,hn0.y8,ZT.nil,rfl⟩
 intro G6 L' hI;obtain⟨i,x,o,zq,AMq,rfl,⟨hi,hxt,hxb,hx7,hx8,hog,U7⟩⟩:=hI;replace zg:=Bd.mk g5;have g6:=AO (Dy zq) AMq;replace zg:=Bd.mk (AO g5 g6);refine Db ?_;refine Cw λK BD=>?_;refine Ec (λhc=>?_) λhc=>?_
 ·refine Cz ?_;try simp only[Di,Dq]
  have hit:i<on:=by have:=AT0 ‹decide ((i:Int)<(on:Int))=true›;omega
  obtain⟨cm,hci⟩:∃cm,cs[i]?=some cm:=⟨_,AQ AL⟩;have hcm:=AU hci;have hok:=hcs cm hcm;refine BD _ _ ?_;obtain⟨OB,hOB⟩:∃OB,OA=OB:=⟨_,rfl⟩;rw[hOB];refine EL 1 rfl AL λgO F7 hgO EX=>?_;subst F7;replace hgO:=AAM (AO hgO EX);clear EX;refine Cw λK BD=>DK (C9 rfl λK BG=>DU hOB ?_);refine DX (IJ (i:=i*6) (vs:=bI cm) (DN (k:=1) rfl) AF (K5 qM hci)) ?_;refine DD ?_;simp only[bI,Av,Bf,AT1];refine DD ?_;intro b10 NG NH;refine BG _ _ ?_;rw[<-hOB];refine ED [0,2,3] AJ (DJ rfl (DD ?_));refine Dh AF9 (λi=>[Dk (IC y0.b i.h.o++[KQ ft cs,Dk (Da i.h.y)])]) _ (λw hw=>Es (λh=>AAr x hxb c.fr c.st hx7 hx8 o U7 hog ft cs cm hcm hok hxt AL w h) hw) ?_;rintro⟨v,h⟩ hd;unfold AF9;dsimp only[List.cons_append,List.nil_append]at hd ⊢;refine DD (BD _ _ ?_);refine Cy rfl (DD ?_);have hkp:=hd.r.keep hxt (by have:=hd.k;omega);refine⟨⟨i+1,h.y,h.o,?_⟩,?_⟩
  ·refine DU @Af ?_;have hk:=hd.k;refine⟨by rw[hOB],by omega,hkp.t.up AL AL,hkp.b.trans hxb,hkp.c.y7.trans hx7,hkp.c.y8.trans hx8,hd.g,hd.b⟩
  ·exact AXo
 refine Dr (BC _ _ ?_);have AMr:52*i<=936:=by omega
 obtain⟨b,PA,pn,pc,ps⟩:=o;dsimp only at U7;subst U7;rw[<-hxb];refine DY [0,2] ?_;refine Eo [.blk x.b 97 [x.y0,x.y1,x.y2,x.y3,x.y4,x.y5,x.y6,x.y7,x.y8,.slice x.TA x.tn x.tc,.int .i64 x.N,.slice x.UA x.un x.uc,.pointer (some ⟨x.tb.tb,0,none⟩),.slice x.LA x.ln x.lc,.int .i64 x.lim.qb,.int .i64 x.lim.qo,.int .i64 x.lim.qr,.slice x.MA x.mn x.mc,.int .i64 x.cap,.slice x.EA x.en x.ec,.slice x.SA x.sn x.sc,.slice x.BA x.bn x.bc,.slice (some ⟨x.g,0,none⟩) 65 65],Dk (Fx x),.blk b 101 [.pointer (some ⟨x.b,0,none⟩),.slice PA pn pc],.row (.slice PA pn pc) 148 1 pn (TM ps),ZR x.b ⟨b,PA,pn,pc,ps⟩,.blk b5 31 [.slice none 0 0,.slice none 0 0,.slice none 0 0,.int .i64 0,.slice none 0 0,.int .u64 0]] (λw hw=>by
  have h1:=(St.GV hw).pick (ix:=[4,0,1,2,5]) AJ;exact St.GV (R:=Da x) h1) ?_
 refine H_ (λw hw=>(λe=>Fs hw.apart (i:=2) (j:=0) rfl rfl AJ b AUp AVN:¬b=x.b)) ?_;intro hbx;have AAc:¬x.b=b:=λe=>hbx e.symm;refine H_ (λw hw=>(λe=>Fs hw.apart (i:=5) (j:=0) rfl rfl AJ b5 AUp AVN:¬b5=x.b)) ?_;intro h51;have h52:¬x.b=b5:=λe=>h51 e.symm;refine H_ (λw hw=>(λe=>Fs hw.apart (i:=5) (j:=2) rfl rfl AJ b5 AUp AVN:¬b5=b)) ?_;intro h53;have h54:¬b=b5:=λe=>h53 e.symm;refine DC [5,7] λG7 g7=>?_;replace g7:=Dy g7;refine Cw λK BC=>FD [0,2] [(true,0),(true,1),(true,2),(true,3),(true,4),(true,5),(true,6),(true,7),(true,8),(false,9),(true,10),(false,11)] [11] ?_;replace zg:=Bd.mk (AO g5 (AO g6 g7));refine DU (AO hbx AAc) ?_;refine Dh snV (λi=>snL x i++(Fj x::Dk (Fx x)::IC x.b ⟨b,PA,pn,pc,ps⟩)) _ (λw hw=>nO x rfl ⟨b,PA,pn,pc,ps⟩ rfl hog hxt AL w hw) ?_;rintro sn hsn;unfold snL TH IC kC kD Fj;refine EM ?_;unfold snV;refine DU (AO @AP.{0} (AO true_or (AO or_true (AO and_true (AO eq_self (AO hbx (AO AAc (AO h51 (AO h52 (AO h53 h54)))))))))) (BC _ _ ?_);refine DY [0,1,2,3,4,8] ?_;refine C8 (FF ?_);intro w hw;refine⟨⟨x,⟨b,PA,pn,pc,ps⟩,sn,52*i⟩,rfl,⟨AMr,hxt,hsn,hog⟩,?_⟩;have h1:St [] W (Fj x::Dk (Fx x)::[.row (.slice sn.ob.A sn.ob.n sn.ob.c) 41 6 sn.ob.n (JY sn.ob.os),Dk (sn.ob.os.map TG),.row (.slice sn.SA sn.sn sn.sc) 59 7 sn.sn (stC x sn.zs)]) w:=hw.pick (ix:=[3,4,0,1,2]) AJ;exact(h1.IG (k:=4) rfl).pick (ix:=[3,4,5,1]) AJ
def AEH:=AO (AO (AO (AO (AO @Ac @DT) (AO @KM @cM)) (AO (AO @Ey @Ez) (AO @E5 (AO @E8 @E9)))) (AO (AO (AO @Kw @Ky) (AO @Jg (AO @NP @JO))) (AO (AO @JP @Et) (AO @Eu (AO @FK @FO))))) (AO (AO (AO (AO @EZ @Ea) (AO @QY (AO @QZ @UI))) (AO (AO @UJ @OD) (AO @OE (AO @MH @MI)))) (AO (AO (AO @Dt @R5) (AO @OZ (AO @KW @VJ))) (AO (AO @VK @Zo) (AO @Zp (AO @R6 @R7)))))
def QF(e:Gs):Bool:=((decide (e.er=0) && !decide (e.op=4)) && !decide (e.op=6)) && !decide (e.op=7)
theorem Xl:∀(l:List Gs) (s:HS),Lb s (l.filter QF)=Lb s l
 |[],s=>rfl
 | e::l,s=>by
  rw[Cv];cases hk:QF e with
  | true =>
   rw[ATv rfl];simp only[Lb];cases Jk s e with
   |none=>rfl
   |some s'=>exact Xl l s'
  | false =>
   rw[ATt AUK];have hs:Jk s e=some s:=by
    unfold Jk;rw[ATv];unfold Td;refine AUB ?_;unfold QF at hk;by_cases h0:e.er=0
    ·refine .inr ?_;simp[h0]at hk;omega
    ·exact .inl h0
   simp only[Lb,hs];exact Xl l s
theorem AAw:∀l:List Gs,(∀e∈l,e.er=0)->Q7 l=[]:=by
 refine fQ (λ_=>rfl) λl e ih h=>?_;rw[QP,ih λa ha=>h a (ATE _ ha)];unfold QO;rw[ATv (h e AUq)]
def AAx(i:r9):List DW:=[.row (.slice i.A i.n i.c) 41 6 i.n (H7 i.Le),Dk (i.Le.map KN)]
theorem TI(A:Option Addr)(n c:Nat)(es:List Gs)(W:World)(hE:Sl W W.heap.size 5 A n c (Eh es))(hok:∀e∈es,e.ok)(hn:n<=1000):
  Calls AB 10 #[.slice A n c] W
  λen w' => ∃i:r9,en=.returned (fJ i)/\ADU es i/\St [] W (AAx i) w' :=
 (Uh A n c es W hE hok hn).mono (by
  rintro en w' ⟨i,h1,h2,h3⟩;refine⟨i,h1,h2,?_⟩;have h4:St [] W (i.Le.map KN++[.row (.slice i.A i.n i.c) 41 6 i.n (H7 i.Le)]) w':=h3.perm (BQ (l₂:=[_]));exact h4.Dk.swp)
theorem Qj.AGK{W w:World}{L:List DW}{A:Option Addr}{n c:Nat}{Le:List RO}(hw:St [] W L w)(k1 k2:Nat)(h1:nth L k1=some (.row (.slice A n c) 41 6 n (H7 Le)))(h2:nth L k2=some (Dk (Le.map KN))):Qj w w.heap.size A n c Le:=by
 refine⟨Sl.EJ hw (DN h1),λr hr=>?_⟩;have h3:=(hw.perm (FZ h2).symm).GV;exact Sl.EJ h3 (AV.2 (.inl (BL.2 ⟨r,hr,rfl⟩)))
structure SkI(es:List Gs)(n i:Nat)(xn:Nat)(es2:List Gs):Prop where
 le:i<=n
 k:es2=(es.take i).filter QF
theorem SkI.bd{es es2:List Gs}{n i xn:Nat}(h:SkI es n i xn es2):es2.length<=i:=by
 rw[h.k];exact BO (Ap _ _) (List.length_take_le _ _)
theorem AEI(W:World)(A0:Option Addr)(n0 c0:Nat)(x0:List Nat)(e0:Sl W W.heap.size 1 A0 n0 c0 (Ic x0))(g0:∀x∈x0,x<65536)(A1:Option Addr)(n1 c1:Nat)(x1:List Nat)(e1:Sl W W.heap.size 1 A1 n1 c1 (Ic x1))(g1:∀x∈x1,x<65536):
  Calls AB 4 #[.slice A0 n0 c0,.slice A1 n1 c1] W λe w'=>e=.returned (.bool true)/\Below W.heap.size W w':=by
 refine DL (M:=[]) Tryz.func4 [.tmp 4] (St.nil _ _) ?_;have zs:=Bd.mk AEH;refine DZ ?_;refine C9 rfl λK BC=>DR ?_;refine F6 AGH AGI _ (λw hw=>AAv A0 n0 c0 x0 A1 n1 c1 x1 w (e0.at hw) g0 (e1.at hw) g1) ?_;rintro⟨x,o,s,q⟩ ⟨hq,ht,hs,ho⟩;dsimp only at hq ht hs ho;unfold AGH AGI snL TH AEG snV;refine EM ?_;refine DR ?_;intro b6 hb6;refine BC _ _ (DY [4] ?_);have hok:=ht.ok;have AMt:=ht.es;obtain⟨es,hes⟩:∃es,x.es=es:=⟨_,rfl⟩;obtain⟨EA,hEA⟩:∃EA,x.EA=EA:=⟨_,rfl⟩;obtain⟨n,hn⟩:∃n,x.en=n:=⟨_,rfl⟩;obtain⟨ec,hec⟩:∃ec,x.ec=ec:=⟨_,rfl⟩;rw[hes,hEA,hn,hec];rw[hes]at hok AMt;refine F8 0 rfl λhel=>?_;have hel:es.length=n:=by unfold Eh at hel;rw[GN H8]at hel;omega
 clear ht hs ho hes hEA hn hec;refine DC [5] λG1 g1=>?_;replace g1:=EK g1;have zg:=Bd.mk g1;refine Db ?_;refine FB 49 5 (DY [1,0] ?_);refine Cw λK BC=>Db ?_;refine DC [5,7,20,21,22] λG2 g2=>?_;replace g2:=Dy g2;refine DK ?_;refine Dv (λF' L' => ∃(i:Nat)(XA:Option Addr)(xn xc:Nat)(es2:List Gs),EH F' G2 [5,20,21]/\F' 7=.slice XA xn xc/\F' 22=.int .i64 (i:Int)/\L'=[.row (.slice EA n ec) 49 5 n (Eh es),.row (.slice XA xn xc) 49 5 xn (Eh es2)]/\SkI es n i xn es2) (λF' L'=>n-(intOf (F' 22)).toNat) ?_ ?_
 ·refine⟨0,none,0,0,[],?_⟩;replace zg:=Bd.mk g2;refine DD ?_;exact⟨by simp[Eh],Ar _,rfl⟩
 intro G3 L' hI;obtain⟨i,XA,xn,xc,es2,zq,Pg,kr,rfl,hI⟩:=hI;replace zg:=Bd.mk g2;have g3:=AO (Dy zq) (AO Pg kr);have hi:=hI.le;have hbd:=hI.bd;refine F8 1 rfl λhxl=>?_;have hxl:es2.length=xn:=by unfold Eh at hxl;rw[GN H8]at hxl;omega
 replace zg:=Bd.mk (AO g2 g3);refine Db ?_;refine Cw λK BD=>?_;refine Ec (λhc=>?_) λhc=>?_
 ·refine Cz ?_;try simp only[Di,Dq]
  have hit:i<n:=by have:=AT0 ‹decide ((i:Int)<(n:Int))=true›;omega
  obtain⟨e,hci⟩:∃e,es[i]?=some e:=⟨_,AQ AL⟩;refine BD _ _ ?_;obtain⟨OB,hOB⟩:∃OB,EA=OB:=⟨_,rfl⟩;rw[hOB];refine EL 0 rfl AL λgO F7 hgO EX=>?_;subst F7;replace hgO:=AAM (AO hgO EX);clear EX;refine Cw λK BD=>DK (C9 rfl λK BG=>DU hOB ?_);refine DX (IJ (i:=i*5) (vs:=oK e) (DN (k:=0) rfl) AF (K5 H8 hci)) ?_;refine DD ?_;simp only[oK,Av,Bf,AT1];refine DD ?_;intro b9 vT;refine BG _ _ ?_;rw[<-hOB];refine DC [5,7,9,20,21,22] λG4 g4=>?_;replace g4:=Dy g4;refine Cw λK BG=>?_;refine Df (λ_ _=>True) (λF' L'=>EH F' G4 [5,7,9,20,21,22]/\F' 43=.bool (QF e)/\L'=[.blk b9 49 [.int .i64 e.pl,.int .i64 e.op,.int .u64 (e.h:Int),.int .u64 (e.ar:Int),.int .i64 e.er],.row (.slice EA n ec) 49 5 n (Eh es),.row (.slice XA xn xc) 49 5 xn (Eh es2)]) ?_ ?_
  ·unfold QF;by_cases h0:e.er=0
   ·by_cases h4:e.op=4
    ·refine Cy rfl ?_;replace zg:=Bd.mk (AO g2 (AO g3 g4));exact Yc (AO h0 h4)
    by_cases h6:e.op=6
    ·refine Cy rfl ?_;replace zg:=Bd.mk (AO g2 (AO g3 g4));exact Yc (AO h0 (AO h4 h6))
    by_cases h7:e.op=7
    ·refine Cy rfl ?_;replace zg:=Bd.mk (AO g2 (AO g3 g4));exact Yc (AO h0 (AO h4 (AO h6 h7)))
    refine Cy rfl ?_;replace zg:=Bd.mk (AO g2 (AO g3 g4));exact Yc (AO h0 (AO h4 (AO h6 h7)))
   ·refine Cy rfl ?_;replace zg:=Bd.mk (AO g2 (AO g3 g4));exact Yc h0
  intro G5 L' _ hF;obtain⟨zq,AMu,rfl⟩:=hF;replace zg:=Bd.mk g4;have g5:=AO (Dy zq) AMu;refine BG _ _ (C_ ?_);cases hk:QF e with
  | true =>
   have hnx:(es.take (i+1)).filter QF=es2++[e]:=by rw[Bi,hci,ASJ,<-hI.k];simp[hk]
   replace zg:=Bd.mk (AO g2 (AO g3 g5));refine DU hk ?_;refine ED [3,0] AJ (DJ rfl (DD ?_));intro bE Qi Tg;refine D6 3 Vm rfl (λw hw=>D_ (size:=5) (DN (k:=0) rfl) rfl hw) rfl AL AL ?_;intro A5 c5 hl5 iQ;refine DD (BD _ _ ?_);refine Cy rfl (DD ?_);refine⟨⟨i+1,A5,xn+1,c5,es2++[e],?_⟩,?_⟩
   ·refine DU @Af ?_;exact⟨by rw[Ku,hOB],by omega,hnx.symm⟩
   ·exact AXo
  | false =>
   have hnx:(es.take (i+1)).filter QF=es2:=by rw[Bi,hci,ASJ,<-hI.k];simp[hk]
   replace zg:=Bd.mk (AO g2 (AO g3 g5));refine DU hk ?_;refine Cz (BD _ _ (DY [1,2] ?_));refine Cy rfl (DD ?_);refine⟨⟨i+1,XA,xn,xc,es2,?_⟩,?_⟩
   ·refine DU @Af ?_;exact⟨by rw[hOB],by omega,hnx.symm⟩
   ·exact AXo
 refine Dr (BC _ _ ?_);have hin:i=n:=by have:=AUD ‹decide ((i:Int)<(n:Int))=false›;omega
 have zH:es2=es.filter QF:=by rw[hI.k,Aw AL]
 have hok2:∀e∈es2,e.ok:=λe he=>by rw[zH]at he;exact hok e (Bl.1 he).1
 have hz2:∀e∈es2,e.er=0:=λe he=>by
  rw[zH]at he;have:=(Bl.1 he).2;unfold QF at this;simp at this;exact this.1.1.1
 have hrun:Lb hs0 es2=Lb hs0 es:=by rw[zH];exact Xl es hs0
 refine DC [5,7] λG6 g6=>?_;replace g6:=Dy g6;refine C9 rfl λK BC=>?_;replace zg:=Bd.mk (AO g2 (AO g3 g6));refine DD ?_;refine F6 fJ AAx _ (λw hw=>TI EA n ec es w (Sl.EJ hw (DN (k:=0) rfl)) hok AL) ?_;rintro⟨AA,an,ac,rA,erA⟩ ⟨hA1,hA2⟩;dsimp only at hA1 hA2;subst hA2;unfold fJ AAx;refine EM ?_;refine DD (BC _ _ ?_);refine DC [7,10,11] λG7 g7=>?_;replace g7:=Dy g7;refine C9 rfl λK BC=>?_;replace zg:=Bd.mk (AO g2 (AO g3 g7));refine DD ?_;refine F6 fJ AAx _ (λw hw=>TI XA xn xc es2 w (Sl.EJ hw (DN (k:=3) rfl)) hok2 AL) ?_;rintro⟨BA,bn,bc,rB,erB⟩ ⟨hB1,hB2⟩;dsimp only at hB1 hB2;rw[hrun]at hB1 hB2;subst hB2;unfold fJ AAx;refine EM ?_;refine DD (BC _ _ ?_);obtain⟨AIr,AMv⟩:=ABq hok rfl;have ARN:rA.length<=es.length:=by rw[<-hA1,BF]at AIr;exact AIr
 have AMw:∀r∈rA,r.bs.length<=100000:=λr hr=>by
  have:=AMv r.pl (by rw[<-hA1];exact BL.2 ⟨r,hr,rfl⟩);have h8:r.bs.length=r.pl.bs.length:=rfl;omega
 refine H_ (λw hw=>(Qj.AGK hw 2 3 rfl rfl).len) ?_;intro han;refine DC [7,10,11,12,13] λG8 g8=>?_;replace g8:=Dy g8;refine C9 rfl λK BC=>?_;replace zg:=Bd.mk (AO g2 (AO g3 g8));refine DD ?_;refine DI (λw hw=>ji w) ?_;try refine DD ?_
 refine DI (λw hw=>k_ (Qj.AGK hw 2 3 rfl rfl) (Qj.AGK hw 0 1 rfl rfl) (hA1.trans hB1.symm) AL AMw) ?_;try refine DD ?_
 refine F6 AEm (λb=>[JS b (Em (Value.int .i64) (Q7 es2))]) _ (λw hw=>Zz (Sl.EJ hw (DN (k:=5) rfl)) AL) ?_;intro bm _;rw[AAw es2 hz2];unfold AEm;refine EM ?_;refine DD ?_;refine oD AEl rfl (λw hw=>hw.U5 0 rfl) ?_;rw[Pb];refine DU (AO @Bf.{0} @Int.natCast_zero) (BC _ _ ?_);refine C8 (EP λw hw=>?_);exact⟨rfl,hw.below⟩
end Go.Proofs.YtnkgiaimcpbhkaaGreat
