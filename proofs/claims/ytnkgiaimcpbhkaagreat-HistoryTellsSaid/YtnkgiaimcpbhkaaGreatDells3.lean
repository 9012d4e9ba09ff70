import Derived.Test.YtnkgiaimcpbhkaaGreatDells2
import Derived.Test.YtnkgiaimcpbhkaaGreatSortLay
import Derived.RangeFuncNested
import Derived.RangeFuncCalls
import Derived.RangeFuncLeaves
set_option linter.all false
set_option maxRecDepth 100000
set_option maxHeartbeats 4000000
open List renaming length_append→Ag,nil_append→AR,length_take→Al,cons_append→Ad,map_cons→BJ,length→CP
open Classical renaming choose→ATX,choose_spec→ATg
open Bool renaming false→ο,true→τ
open Go.Ending renaming returned→κ
open Go.IntKind renaming i64→ζ,u64→υ
open Option renaming none→ν,some→σ
open Go.Value renaming bool→θ,int→ε,pointer→π,slice→ξ
namespace Go.Proofs.YtnkgiaimcpbhkaaGreat
open Tryz renaming prog→AGm
open Go.RowKit Go.Shelf
theorem rY{α:Type}l k(v:α)(hn:Er l k≠ν):IK (FY l k v) k=IK l k:=by
 induction l with
 |nil=>exact absurd rfl hn
 | cons p l ih =>
  unfold Er at hn;unfold FY IK;by_cases h:p.1=k
  ·rw[ATv h,ATv h];simp
  ·rw[ATt h]at hn;rw[ATt h,ATt h];simp only[ATt h,ih hn]
theorem AEW{bS b1 b2 sd os k}o(hg:Er os k=ν):(OL o++(.blk bS 107 [.map (σ b1),.map (σ b2)]::JS b1 (Em Value.bool sd)::JS b2 (Em NS (FY os k o))::JK os)).Perm (hsL ⟨bS,b1,b2,sd,FY os k o⟩):=by
 rw[xG hg];have h1:(OL o++((.blk bS 107 [.map (σ b1),.map (σ b2)]::JS b1 (Em Value.bool sd)::JS b2 (Em NS (os++[(k,o)]))::[])++JK os)).Perm ((.blk bS 107 [.map (σ b1),.map (σ b2)]::JS b1 (Em Value.bool sd)::JS b2 (Em NS (os++[(k,o)]))::[])++(OL o++JK os)):=CS _ _ _;refine h1.trans ?_;have h2:=QM os [] k o;rw[BX]at h2;exact Cc _ h2
theorem xQ{os pre post k o o'}(he:os=pre++(k,o)::post)(hb:o'.b=o.b):Em NS (pre++(k,o')::post)=Em NS os:=by
 rw[he];simp[Em,NS,hb]
theorem AEX{bS b1 b2 sd os pre post k o o'}(he:os=pre++(k,o)::post)(hs:∀v',FY os k v'=pre++(k,v')::post)(hb:o'.b=o.b):(hsF bS b1 b2 sd os o' (pre++post)).Perm (hsL ⟨bS,b1,b2,sd,FY os k o'⟩):=by
 have h:=Ns (bS:=bS) (b1:=b1) (b2:=b2) (sd:=sd) (hs o');unfold hsF at h ⊢;rw[hs o',xQ he hb]at h;rw[hs o'];exact h
theorem Yp{α β:Type}(f:α->β)l k v:Em f (FY l k v)=FY (Em f l) k (f v):=(Yh f l k v).symm
def Jn:=AO (AO (AO @Gh.eq_1 @NS.eq_1) (AO @Ac @KM)) (AO (AO @Ey @Ez) (AO @E5 (AO @E8 @E9)))
theorem kV x e(he:e.ok)W(hst:St (DV (hsL x)) W (hsL x) W):
  Calls AGm 43 #[π (σ ⟨x.bS,0,ν⟩),U6 e] W
  λen w' => ∃i:Bool×MW,en=κ (Q5 i)/\Did x.bS (Te x.pl e) i/\St (DV (hsL x)) W (X5 i) w':=by
 obtain⟨M,hM⟩:∃M,DV (hsL x)=M:=⟨_,rfl⟩;rw[hM]at hst ⊢;obtain⟨bS,b1,b2,sd,os⟩:=x;have he1:=he.1;unfold hsL at hst;dsimp only at hst ⊢;clear hM;refine DL (M:=M) Tryz.func43 [.tmp 4]  hst ?_;refine C9 rfl λK k0=>?_;have zs:=Bd.mk Jn;refine Ed @U6.eq_1 ?_;intro b3 hb3 hf3;refine k0 _ _ (C9 rfl λK k0=>DR ?_);refine DI (λw hw=>PZ e.h he1 w) (DR (k0 _ _ ?_));by_cases hv:(0<Mr e.h/\0<eB e.h)
 case neg =>
  refine Cw λK k0=>C9 rfl λK k1=>DR ?_;refine DI (λw hw=>Q0 e.h he1 w) (Ed hv (k1 _ _ ?_));refine C_ (DR ?_);refine DZ ?_;refine C8 (Eg λw hw=>?_);exact⟨(ο,⟨bS,b1,b2,sd,os⟩),rfl,.no (by unfold Te;rw[ATt (λh=>hv h.1)]) rfl,hw.tail⟩
 cases hg:Er os (De e.h)with
 | some o =>
  refine Cw λK k0=>C9 rfl λK k1=>DR ?_;refine DI (λw hw=>Q0 e.h he1 w) (Ed hv ?_);refine GD Zv rfl rfl (λw hw=>hw.U5 3 rfl) ?_;rw[F5,hg,Cr,Ce];refine DR (k1 _ _ ?_);refine C_ (DR ?_);refine DZ ?_;refine C8 (Eg λw hw=>?_);exact⟨(ο,⟨bS,b1,b2,sd,os⟩),rfl,.no (by unfold Te MW.pl;rw[ATt];rw[Ka,hg];simp) rfl,hw.tail⟩
 | none =>
  refine Cw λK k0=>C9 rfl λK k1=>DR ?_;refine DI (λw hw=>Q0 e.h he1 w) (Ed hv ?_);refine GD Zv rfl rfl (λw hw=>hw.U5 3 rfl) ?_;rw[F5,hg,ASx,Option.getD_none];refine DR (k1 _ _ ?_);refine C_ (DR ?_);refine Cz (k0 _ _ (Cw λK k0=>EB [(τ,0),(τ,1),(τ,2),(τ,3),(τ,4),(τ,5),(τ,6),(τ,7),(τ,8),(ο,9),(τ,10),(ο,11),(ο,12)] [12] ?_));refine DR ?_;refine Zr λbm hbm hfm=>DR ?_;intro bo nP hfo;refine QK 5 (y:=π (σ ⟨bo,0,ν⟩)) Zv rfl rfl rfl rfl ?_;rw[show (Value.pointer (σ ⟨bo,0,ν⟩))=NS ⟨bo,bm,⟨e.h,e.pl,0,[]⟩⟩ from rfl,ML];refine DR (k0 _ _ ?_);refine DZ ?_;refine C8 (Eg λw hw=>?_);refine⟨(τ,⟨bS,b1,b2,sd,FY os (De e.h) ⟨bo,bm,⟨e.h,e.pl,0,[]⟩⟩⟩),rfl,.yes (s:=⟨sd,FY (Em Jr.o os) (De e.h) ⟨e.h,e.pl,0,[]⟩⟩) (by unfold Te MW.pl;rw[ATv ⟨hv,by rw[Ka,hg];rfl⟩]) (by unfold MW.pl;rw[Yp]) rfl,?_⟩;refine St.perm ?_ (AEW _ hg).symm;exact hw.sub (.cons_cons _ (.cons_cons _ (.cons _ (BB _))))
def fB(i:Bool×Ob):Value:=θ i.1
theorem K4 cs p:((Er cs p).map (Value.int ζ)).getD (ε ζ 0)=ε ζ ((Er cs p).getD 0):=by cases Er cs p<;>rfl
theorem Zw o p W(hc:∀c∈o.o.cs,0<=c.2/\c.2<=4611686018427387904)(hst:St (DV (OL o)) W (OL o) W):
  Calls AGm 75 #[π (σ ⟨o.b,0,ν⟩),ε ζ p] W
  λen w' => ∃i:Bool×Ob,en=κ (fB i)/\(i.1 = !decide ((Er o.o.cs p).getD 0=0)/\(i.1=τ->i.2=eD o.o p))/\St (DV (OL o)) W (OL ⟨o.b,o.bc,i.2⟩) w':=by
 obtain⟨M,hM⟩:∃M,DV (OL o)=M:=⟨_,rfl⟩;rw[hM]at hst ⊢;obtain⟨b,bc,o⟩:=o;obtain⟨h,ow,mo,cs⟩:=o;unfold OL at hst;dsimp only at hst hc ⊢;clear hM;have hr:0<=(Er cs p).getD 0/\(Er cs p).getD 0<=4611686018427387904:=by
  cases hg:Er cs p with
  |none=>simp
  |some c=>exact hc _ (J4 hg)
 have hwr:=DT (x:=(Er cs p).getD 0-1) AL AL;refine DL (M:=M) Tryz.func75 [.tmp 4]  hst ?_;have zs:=Bd.mk Jn;refine DZ ?_;by_cases h0:(Er cs p).getD 0=0
 ·refine Cw λK k0=>C9 rfl λK k1=>DR ?_;refine GD Tf rfl rfl (λw hw=>hw.U5 1 rfl) ?_;rw[F5,K4];refine Ed h0 (k1 _ _ ?_);refine C_ (DR ?_);refine DZ ?_;refine C8 (Eg λw hw=>?_);refine⟨(ο,⟨h,ow,mo,cs⟩),rfl,⟨by simp[h0],λh=>by cases h⟩,hw⟩
 have hn:Er cs p≠ν:=λe=>h0 (by rw[e];rfl);refine Cw λK k0=>C9 rfl λK k1=>DR ?_;refine GD Tf rfl rfl (λw hw=>hw.U5 1 rfl) ?_;rw[F5,K4];refine Ed h0 (k1 _ _ ?_);refine C_ (DR ?_);refine Cz (k0 _ _ (DC [0,1] λG1 g1=>?_));replace g1:=EK g1;refine C9 rfl λK k0=>?_;have zg:=Bd.mk g1;refine DD ?_;refine GD Tf rfl rfl (λw hw=>hw.U5 1 rfl) ?_;rw[F5,K4];refine DU hwr ?_;refine QK 1 (y:=ε ζ ((Er cs p).getD 0-1)) Tf rfl rfl rfl rfl ?_;rw[ML];refine DD (k0 _ _ ?_);refine DC [0,1] λG2 g2=>?_;replace g2:=Dy g2;by_cases h1:(Er cs p).getD 0-1=0
 ·refine Cw λK k0=>C9 rfl λK k1=>?_;replace zg:=Bd.mk g2;refine DD ?_;refine GD Tf rfl rfl (λw hw=>hw.U5 1 rfl) ?_;rw[F5,K4,MJ,ATv rfl,Ce];refine DU h1 (k1 _ _ ?_);refine C_ (DD ?_);refine DJ rfl (DD ?_);refine Zq 1 Tf rfl rfl rfl ?_;rw[QL,rY _ _ _ hn];refine DD (k0 _ _ ?_);refine Db ?_;refine C8 (EP λw hw=>?_);refine⟨(τ,⟨h,ow,mo,IK cs p⟩),rfl,⟨by simp[h0],λ_=>by unfold eD;rw[ATv h1]⟩,hw⟩
 refine Cw λK k0=>C9 rfl λK k1=>?_;replace zg:=Bd.mk g2;refine DD ?_;refine GD Tf rfl rfl (λw hw=>hw.U5 1 rfl) ?_;rw[F5,K4,MJ,ATv rfl,Ce];refine DU h1 (k1 _ _ ?_);refine C_ (DD ?_);refine Cz (k0 _ _ (Db ?_));refine C8 (EP λw hw=>?_);refine⟨(τ,⟨h,ow,mo,FY cs p ((Er cs p).getD 0-1)⟩),rfl,⟨by simp[h0],λ_=>by unfold eD;rw[ATt h1]⟩,hw⟩
theorem Yq x o e m(he:e.ok)W(hc:∀c∈o.o.cs,0<=c.2/\c.2<=4611686018427387904)(hst:St (DV (OL o++O7 x)) W (OL o++O7 x) W):
  Calls AGm 74 #[π (σ ⟨x.bS,0,ν⟩),π (σ ⟨o.b,0,ν⟩),U6 e,ε ζ m] W
  λen w' => ∃i:Bool×Ob,en=κ (fB i)/\(i.1=AA3 x.pl e o.o m/\(i.1=τ->i.2=oJ o.o e.ar m))/\St (DV (OL o++O7 x)) W (OL ⟨o.b,o.bc,i.2⟩++O7 x) w':=by
 obtain⟨M,hM⟩:∃M,DV (OL o++O7 x)=M:=⟨_,rfl⟩;rw[hM]at hst ⊢;obtain⟨bS,b1,b2,sd,os⟩:=x;obtain⟨b,bc,o⟩:=o;obtain⟨h,ow,mo,cs⟩:=o;unfold OL O7 at hst ⊢;dsimp only at hst hc ⊢;clear hM;have hne:b≠bS:=St.AG7 (o:=⟨b,bc,⟨h,ow,mo,cs⟩⟩) hst;have hr:0<=(Er cs e.ar).getD 0/\(Er cs e.ar).getD 0<=4611686018427387904:=by
  cases hg:Er cs e.ar with
  |none=>simp
  |some c=>exact hc _ (J4 hg)
 have hwr:=DT (x:=(Er cs e.ar).getD 0+1) AL AL;refine DL (M:=M) Tryz.func74 [.tmp 8]  hst ?_;refine C9 rfl λK k0=>?_;have zs:=Bd.mk Jn;refine Ed @U6.eq_1 ?_;intro b6 hb6 jm;refine k0 _ _ (C9 rfl λK k0=>DR ?_);refine EW (O7 ⟨bS,b1,b2,sd,os⟩) (.cons _ (.cons _ (.cons _ (BB _)))) xP _ (λw hw=>WT ⟨bS,b1,b2,sd,os⟩ e he w hw) ?_;rintro⟨q,ok⟩ ⟨hok,hq⟩;dsimp only at hok hq;refine Ed @xP.eq_1 (k0 _ _ ?_);refine DC [1,3,6,9,10] λG3 g3=>?_;replace g3:=EK g3;refine C9 rfl λK k0=>?_;have zg:=Bd.mk g3;refine DD ?_;refine oD Tf rfl (λw hw=>hw.U5 2 rfl) ?_;rw[Pb];have hlen:decide (0<(cs.length:Int)) = !decide (cs=[]):=by cases cs<;>simp
 refine DU hlen (k0 _ _ ?_);refine DC [1,3,6,9,10,11] λG4 g4=>?_;replace g4:=Dy g4;have hB:AA3 (MW.pl ⟨bS,b1,b2,sd,os⟩) e ⟨h,ow,mo,cs⟩ m=(ok&&decide (ow=e.pl)&&(decide (cs=[])||(!decide (m=2) && !decide (mo=2)))):=by unfold AA3;rw[hok]
 refine Cw λK k0=>Cw λK k1=>?_;refine Df (λ_ _=>True) (λF' L'=>EH F' G4 [1,3,9]/\F' 48=θ (!AA3 (MW.pl ⟨bS,b1,b2,sd,os⟩) e ⟨h,ow,mo,cs⟩ m)/\L'=[Gh b6 e,.blk b 154 [ε υ (h:Int),ε ζ ow,ε ζ mo,.map (σ bc)],JS bc (Em (Value.int ζ) cs),.blk bS 107 [.map (σ b1),.map (σ b2)],JS b1 (Em Value.bool sd)]) ?_ ?_
 ·rw[hB];refine EB [(τ,0),(τ,1),(τ,2),(τ,3),(τ,4),(τ,5),(τ,6),(τ,7),(τ,8),(τ,9),(τ,10),(τ,11),(τ,12),(τ,13),(τ,14),(τ,15),(τ,16),(τ,17),(τ,18),(τ,19),(τ,20),(τ,21),(τ,22),(τ,23),(τ,24)] [] ?_;replace zg:=Bd.mk g4;refine DD ?_;repeat' ((first|refine EF (λhg=>?_) (λhg=>?_)|refine EG (λhg=>?_) (λhg=>?_))<;>((try replace hg:=Fe hg);(try refine DU hg ?_);(try exact trivial)))
  all_goals (repeat' refine AO ?_ ?_)
  all_goals first|with_reducible rfl|(clear hB hlen g3 g4;simp_all;done)|skip
 intro G5 L' _ hF;obtain⟨zq,AEY,rfl⟩:=hF;replace zg:=Bd.mk g4;have g5:=AO (Dy zq) AEY;refine k1 _ _ (C_ ?_);replace zg:=Bd.mk g5;refine DD ?_;refine⟨λhc2=>?_,λhc2=>?_⟩
 ·refine Db ?_;refine C8 (EP λw hw=>?_);refine⟨(ο,⟨h,ow,mo,cs⟩),rfl,⟨by simpa using hc2,λh=>by cases h⟩,hw.tail⟩
 refine Cz (k0 _ _ ?_);have hlb:AA3 (MW.pl ⟨bS,b1,b2,sd,os⟩) e ⟨h,ow,mo,cs⟩ m=τ:=by simpa using hc2
 have hqa:q=e.ar:=hq (by rw[hB]at hlb;simp only[Au]at hlb;exact hlb.1.1);subst hqa;refine Db ?_;refine DC [1,9] λG6 g6=>?_;replace g6:=Dy g6;refine C9 rfl λK k0=>?_;replace zg:=Bd.mk g6;refine DD ?_;refine GD Tf rfl rfl (λw hw=>hw.U5 2 rfl) ?_;rw[F5,K4];refine DU hwr ?_;refine QK 2 (y:=ε ζ ((Er cs e.ar).getD 0+1)) Tf rfl rfl rfl rfl ?_;rw[ML];refine DD (k0 _ _ ?_);refine Db ?_;refine C8 (EP λw hw=>?_);refine⟨(τ,oJ ⟨h,ow,mo,cs⟩ e.ar m),rfl,⟨hlb.symm,λ_=>rfl⟩,hw.tail⟩
section
variable{P:Program}{M:List Nat}{W w:World}{L:List DW}{n:Nat}{F:Fr}{Q:Exit->Fr->List DW->Prop}
theorem xR{ι:Type}(p:ι->Prop)(μ:ι->Nat):∀m i,μ i=m->p i→∃i,p i∧∀j,p j->μ i<=μ j:=by
 intro m
 induction m using Nat.strongRecOn with
 | _ m ih =>
  intro i hm hi;by_cases h:∃j,p j/\μ j<m
  ·obtain⟨j,hj,hlt⟩:=h;exact ih (μ j) hlt j rfl hj
  ·exact⟨i,hi,λj hj=>CZ λhn=>h ⟨j,hj,by omega⟩⟩
theorem fC{ι:Type}{c}(I:ι->Fr->List DW->Prop)(μ:ι->Nat)i0(h₀:I i0 F L)
  (round:∀i F' L',I i F' L'→CV P M W n c F' L' (Dq (λF'' L'' => ∃j,I j F'' L''∧μ j<μ i) Q)):CV P M W n (.loop c) F L Q:=by
 classical
 have hl:∀F' L',(∃i,I i F' L')→∃i,I i F' L'∧∀j,I j F' L'→μ i<=μ j:=λF' L' ⟨i,hi⟩=>xR (λi=>I i F' L') μ _ i rfl hi;refine Dv (λF' L' => ∃i,I i F' L') (λF' L'=>if h:∃i,I i F' L' then μ (ATX (hl F' L' h)) else 0) ⟨i0,h₀⟩ λF' L' h=>?_;have hs:=ATg (hl F' L' h);refine(round _ F' L' hs.1).mono λe F'' L'' hh=>?_;cases e with
 | normal =>
  obtain⟨j,hj,hlt⟩:=hh;have hx:∃i,I i F'' L'':=⟨j,hj⟩;refine⟨hx,?_⟩;show (if h:∃i,I i F'' L'' then μ (ATX (hl F'' L'' h)) else 0)<(if h:∃i,I i F' L' then μ (ATX (hl F' L' h)) else 0);rw[AUZ hx,AUZ h];exact Nat.lt_of_le_of_lt ((ATg (hl F'' L'' hx)).2 j hj) hlt
 |exit id=>exact hh
 |goto l=>exact hh
 |ret=>exact hh
 |panic ch=>exact hh
 |outgrown=>exact hh
theorem St.bNe(hw:St M W L w)i j{b b' t t' cs cs'}(hi:nth L i=σ (.blk b t cs))(hj:nth L j=σ (.blk b' t' cs'))(hne:i≠j):b≠b':=λe=>by
 have:=Fs hw.apart hi hj hne b AUp;exact this AVN
theorem WU H pre post k o:(OL o++(H++JK (pre++post))).Perm (H++JK (pre++(k,o)::post)) :=
 (CS _ _ _).trans (Cc _ (QM pre post k o))
end
def X6(p:Int)(q:Int×Jr):Option (Int×Jr):=if q.2.o.ow=p then ν else σ (q.1,⟨q.2.b,q.2.bc,{ q.2.o with cs:=IK q.2.o.cs p }⟩)
def GR(p:Int)(dn:List Int)(os:List (Int×Jr)):List (Int×Jr):=os.filterMap λq=>if q.1∈dn then X6 p q else σ q
def Ld(p:Int)(dn:List Int)(os:List (Int×Jr)):Nat:=(os.filter λq=>decide (q.1∈dn/\q.2.o.ow=p)).length
theorem xS p os:GR p [] os=os:=by
 unfold GR;simp
theorem xU p os:Ld p [] os=0:=by
 unfold Ld;simp
theorem WV p dn a b:GR p dn (a++b)=GR p dn a++GR p dn b:=by simp[GR]
theorem fD{p dn k a}(h:k∉keys a):GR p (k::dn) a=GR p dn a:=by
 unfold GR
 induction a with
 |nil=>rfl
 | cons q a ih =>
  simp only[keys,BJ,AP,not_or]at h;have hq:¬q.1=k:=λe=>h.1 e.symm;have ih2:=ih h.2;simp only[AP]at ih2;simp only[ASk,AP,hq,AT6,ih2]
theorem SF p dn a b:Ld p dn (a++b)=Ld p dn a+Ld p dn b:=by simp[Ld]
theorem fE{p dn k a}(h:k∉keys a):Ld p (k::dn) a=Ld p dn a:=by
 unfold Ld;refine AT4 CP (ASp λq hq=>?_);have:¬q.1=k:=λe=>h (e▸BL.2 ⟨q,hq,rfl⟩);simp[this]
theorem rZ{p dn a k}(h:k∈keys (GR p dn a)):k∈keys a:=by
 obtain⟨q,hq,rfl⟩:=BL.1 h;obtain⟨q0,h0,h1⟩:=AS3.1 hq;refine BL.2 ⟨q0,h0,?_⟩;unfold X6 at h1;split at h1
 ·split at h1
  ·cases h1
  ·injection h1 with h1;rw[<-h1]
 ·injection h1 with h1;rw[h1]
theorem xV{p dn a q}(h:q∈GR p dn a)(hd:q.1∉dn):q∈a:=by
 obtain⟨q0,h0,h1⟩:=AS3.1 h;unfold X6 at h1;split at h1
 ·split at h1
  ·cases h1
  ·injection h1 with h1;subst h1;exact absurd ‹_› hd
 ·injection h1 with h1;exact h1▸h0
theorem xW{p dn a}(h:∀q∈Em NS (GR p dn a),q.1∈dn):(∀q∈a,q.1∈dn):=λq hq=>CZ λhn=>by
 have h1:q∈GR p dn a:=AS3.2 ⟨q,hq,by rw[ATt hn]⟩;exact hn (h (q.1,NS q.2) (BL.2 ⟨q,h1,rfl⟩))
theorem xX{p dn a}(h:∀q∈a,q.1∈dn):Em Jr.o (GR p dn a)=WK p (Em Jr.o a)/\Ld p dn a=ABd p (Em Jr.o a):=by
 induction a with
 |nil=>exact⟨rfl,rfl⟩
 | cons q a ih =>
  obtain⟨h1,h2⟩:=ih λr hr=>h r (Bg _ hr);have hq:=h q (.head _);simp only[GR,Ld,WK,ABd,Em,X6,ASk,Cv,BJ,ATv hq,hq,AT1]at h1 h2 ⊢;by_cases hp:q.2.o.ow=p
  ·simp only[hp,ATx,ATy,AUc,AUb,Be,ATz];exact⟨h1,by simp only[Av];rw[h2]⟩
  ·simp only[hp,ATz,ATw,AUc,AUb,Be,ATx,BJ];exact⟨by rw[h1],h2⟩
theorem rf{α:Type}{A B k}{o:α}(h:(keys (A++(k,o)::B)).Nodup):k∉keys A/\k∉keys B:=by
 simp only[keys,Bj,BJ]at h ⊢;obtain⟨h1,h2,h3⟩:=ASb.1 h;exact⟨λhm=>h3 k hm k (.head _) rfl,(CO.1 h2).1⟩
theorem xY{α:Type}{A B k}{o:α}(h:k∉keys A):IK (A++(k,o)::B) k=A++B:=by
 induction A with
 |nil=>simp[IK]
 | cons q A ih =>
  simp only[keys,BJ,AP,not_or]at h;rw[Ad,IK,ATt (λe=>h.1 e.symm),ih h.2];rfl
def Yr(dn:List Int)(os:List (Int×Jr)):Nat:=(os.filter λq=>decide (¬q.1∈dn)).length
theorem xZ{dn A B k o}(hk:k∉dn):Yr (k::dn) (A++(k,o)::B)<Yr dn (A++(k,o)::B):=by
 unfold Yr;have hle:∀a:List (Int×Jr),(a.filter λq=>decide (¬q.1∈k::dn)).length<=(a.filter λq=>decide (¬q.1∈dn)).length:=by
  intro a
  induction a with
  |nil=>simp
  | cons q a ih =>
   simp only[Cv,AP,not_or];by_cases h1:q.1∈dn
   ·simp[h1];simpa using ih
   ·by_cases h2:q.1=k
    ·simp[h2,hk];have:=ih;simp at this;omega
    ·simp[h1,h2];simpa using ih
 have h1:=hle A;have h2:=hle B;simp only[ASJ,Ag,Cv,AP,true_or,ATy,AUc,Be,ATz,hk,ATw,AUb,ATx,Av]at h1 h2 ⊢;omega
def fF:=AO (AO (AO @Gh.eq_1 @NS.eq_1) (AO @Ac (AO @KM @cRg))) (AO (AO @Ey @Ez) (AO @E5 (AO @E8 @E9)))
theorem wrap_u64{x}(h1:0<=x)(h2:x<18446744073709551616):IntKind.u64.wrap x=x:=by rw[IntKind.wrap_u64];omega
theorem xe x e k(hI:Nr k x.pl)(hk:k<=1000000)(he:e.ok)W(hst:St (DV (hsL x)) W (hsL x) W):
  Calls AGm 42 #[π (σ ⟨x.bS,0,ν⟩),U6 e] W
  λen w' => ∃i:Bool×MW,en=κ (Q5 i)/\Did x.bS (xH x.pl e) i/\St (DV (hsL x)) W (X5 i) w':=by
 obtain⟨M,hM⟩:∃M,DV (hsL x)=M:=⟨_,rfl⟩;rw[hM]at hst ⊢;have hnd:=hI.nd;have hln:=hI.len;obtain⟨bS,b1,b2,sd,os⟩:=x;have hnd:(keys os).Nodup:=by have:=hnd;unfold MW.pl at this;rw[Nq]at this;exact this
 have hln:os.length<=k:=by have:=hln;unfold MW.pl at this;rw[Pb]at this;exact this
 unfold hsL at hst;dsimp only at hst ⊢;clear hM;refine DL (M:=M) Tryz.func42 [.tmp 4]  hst ?_;refine C9 rfl λK k0=>?_;have zs:=Bd.mk fF;refine Ed @U6.eq_1 ?_;intro b3 hb3 hf3;refine k0 _ _ (DZ ?_);refine Cw λK k0=>C9 rfl λK k1=>DR ?_;refine rM 3 Zv rfl rfl λr hr hfr=>DR (k1 _ _ ?_);refine DC [0,3,5,12] λG1 g1=>?_;replace g1:=EK g1;refine DK ?_;refine fC (λ(dn:List Int) F' L' => ∃(la:Option Int),EH F' G1 [0,3,12]/\F' 5=ε υ (Ld e.pl dn os:Int)/\L'=Xz b2 r (Em NS (GR e.pl dn os)) dn la::Gh b3 e :: .blk bS 107 [.map (σ b1),.map (σ b2)]::JS b1 (Em Value.bool sd)::JK (GR e.pl dn os)) (λ(dn:List Int)=>Yr dn os) ([]) ?_ ?_
 ·refine⟨ν,?_⟩;rw[xU,xS];have zg:=Bd.mk g1;exact dP
 intro dn G2 L' hI;obtain⟨la,zq,Mq,rfl⟩:=hI;have zg:=Bd.mk g1;have g2:=AO (Dy zq) Mq;refine C9 rfl λK k1=>?_;replace zg:=Bd.mk (AO g1 g2);refine DD ?_;refine xB (b:=b2) (r:=r) (l:=Em NS (GR e.pl dn os)) (dn:=dn) (la:=la) 0 AVX rfl ?_ ?_
 ·intro hall;refine DD (k1 _ _ ?_);refine Cw λK k1=>C_ (DD ?_);refine Dr (k0 _ _ ?_);have hd:=xW hall;obtain⟨e1,e2⟩:=xX (p:=e.pl) hd;have hen:Ld e.pl dn os<18446744073709551616:=by
   have:Ld e.pl dn os<=os.length:=Ap _ _;omega
  refine Eo (JS b2 (Em NS (GR e.pl dn os))::Gh b3 e :: .blk bS 107 [.map (σ b1),.map (σ b2)]::JS b1 (Em Value.bool sd)::JK (GR e.pl dn os)) (λw hw=>hw.AG4 (k:=0) rfl) (Cw λK k0=>EB [(τ,0),(τ,1),(τ,2),(τ,3),(τ,4),(τ,5),(ο,6)] [6] ?_);refine DD ?_;refine QK 3 (y:=θ ο) xL rfl rfl rfl rfl ?_;rw[ML];refine DD (k0 _ _ ?_);refine Db ?_;refine C8 (EP λw hw=>?_);have hpl:MW.pl ⟨bS,b1,b2,FY sd e.pl ο,GR e.pl dn os⟩=⟨FY sd e.pl ο,WK e.pl (Em Jr.o os)⟩:=by unfold MW.pl;rw[e1]
  have hperm:St M W (hsL ⟨bS,b1,b2,FY sd e.pl ο,GR e.pl dn os⟩) w:=(hw.sub (.cons_cons _ (.cons _ (BB _)))).perm (CG (l₁:=[_,_]));by_cases hn:ABd e.pl (Em Jr.o os)=e.ar
  ·refine⟨(τ,⟨bS,b1,b2,FY sd e.pl ο,GR e.pl dn os⟩),?_,.yes (s:=⟨FY sd e.pl ο,WK e.pl (Em Jr.o os)⟩) (by unfold xH;exact ATv hn) hpl rfl,hperm⟩;refine AT4 Ending.returned (AT4 Value.bool ?_);simp[e2,hn]
  ·refine⟨(ο,⟨bS,b1,b2,FY sd e.pl ο,GR e.pl dn os⟩),?_,.no (by unfold xH;exact ATt hn) rfl,hperm⟩;refine AT4 Ending.returned (AT4 Value.bool ?_);simp[e2];omega
 ·intro p hp hpd;obtain⟨⟨kk,o⟩,hq,rfl⟩:=BL.1 hp;have hm:=xV hq hpd;dsimp only at hpd hm;obtain⟨A,B,hos⟩:=List.append_of_mem hm;subst hos;obtain⟨nA,nB⟩:=rf hnd;have ABT:GR e.pl dn (A++(kk,o)::B)=GR e.pl dn A++(kk,o)::GR e.pl dn B:=by rw[WV];simp[GR,hpd]
  rw[ABT];dsimp only;refine DD (k1 _ _ ?_);refine Cw λK k1=>C_ (DD ?_);refine Cz (k1 _ _ (DK (C9 rfl λK k1=>DD ?_)));refine rO (b:=b2) (r:=r) (p:=(kk,NS o)) 0 AVX rfl (by simp[Em,NS]) ?_;refine DD (k1 _ _ ?_);refine Eo (OL o++([Xz b2 r (Em NS (GR e.pl dn A++(kk,o)::GR e.pl dn B)) (kk::dn) (σ kk),Gh b3 e,.blk bS 107 [.map (σ b1),.map (σ b2)],JS b1 (Em Value.bool sd)]++JK (GR e.pl dn A++GR e.pl dn B))) (λw hw=>hw.perm (WU _ _ _ kk o)) ?_;unfold OL;refine EM ?_;refine IW (o.b≠b3) (λw hw=>hw.bNe 0 3 rfl rfl AJ) λhn1=>IW (o.b≠bS) (λw hw=>hw.bNe 0 4 rfl rfl AJ) λhn2=>DC [0,3,5,6,7,12] λG3 g3=>?_;replace g3:=Dy g3;refine Cw λK k1=>EB [(τ,0),(τ,1),(τ,2),(τ,3),(τ,4),(τ,5),(ο,6)] [6] ?_;replace zg:=Bd.mk (AO g1 (AO g2 g3));refine DD ?_;refine Zq 1 Tf rfl rfl rfl ?_;rw[QL];refine DD (k1 _ _ ?_);refine DC [0,3,5,6,7,12] λG4 g4=>?_;replace g4:=Dy g4;have ADS:∀X:List (Int×Jr),GR e.pl (kk::dn) (A++(kk,o)::B)=GR e.pl dn A++((X6 e.pl (kk,o)).toList++GR e.pl dn B):=λ_=>by
   rw[WV,fD nA];show _++GR e.pl (kk::dn) ([(kk,o)]++B)=_;rw[WV,fD nB];congr 2;cases hqq:X6 e.pl (kk,o)<;>simp[GR,hqq]
  have hlt:Yr (kk::dn) (A++(kk,o)::B)<Yr dn (A++(kk,o)::B):=xZ hpd;have hK1:Ld e.pl (kk::dn) (A++(kk,o)::B)=Ld e.pl dn (A++(kk,o)::B)+(if o.o.ow=e.pl then 1 else 0):=by
   rw[SF,fE nA,SF];show _+Ld e.pl (kk::dn) ([(kk,o)]++B)=_+Ld e.pl dn ([(kk,o)]++B)+_;rw[SF,fE nB,SF];have h1:Ld e.pl (kk::dn) [(kk,o)]=if o.o.ow=e.pl then 1 else 0:=by
    unfold Ld;by_cases h:o.o.ow=e.pl<;>simp[h]
   have h2:Ld e.pl dn [(kk,o)]=0:=by
    unfold Ld;simp[hpd]
   rw[h1,h2];omega
  have hen:Ld e.pl (kk::dn) (A++(kk,o)::B)<=1000000:=by
   have:Ld e.pl (kk::dn) (A++(kk,o)::B)<=(A++(kk,o)::B).length:=Ap _ _;omega
  have nA2:kk∉keys (GR e.pl dn A):=λh=>nA (rZ h);by_cases hp:o.o.ow=e.pl
  ·refine Cw λK k1=>EB [(τ,0),(τ,1),(τ,2),(τ,3),(τ,4),(τ,5),(τ,6)] [] ?_;replace zg:=Bd.mk (AO g1 (AO g2 g4));refine DU hp (k1 _ _ ?_);refine C_ (DD ?_);refine C9 rfl λK k1=>DD ?_;refine xD (x:=kk) 2 Zv rfl (by simp -implicitDefEqProofs (disch:=first|omega|decide) only [seval,-Int.reducePow,-Nat.reducePow,cC,pv,D5,EH,undef,fF,g1,g2,g4]) rfl ?_;rw[QL,xY nA2];refine DD (k1 _ _ ?_);rw[ATv hp]at hK1;have hwu:=wrap_u64 (x:=(Ld e.pl dn (A++(kk,o)::B):Int)+1) AL AL;refine Eo (Xz b2 r (Em NS (GR e.pl dn A++GR e.pl dn B)) (kk::dn) ν::Gh b3 e :: .blk bS 107 [.map (σ b1),.map (σ b2)]::JS b1 (Em Value.bool sd)::JK (GR e.pl dn A++GR e.pl dn B)) (λw hw=>hw.tail.tail) (DJ rfl (DU hwu ?_));refine⟨kk::dn,⟨ν,?_⟩,hlt⟩;rw[ADS [],hK1];have hqq:X6 e.pl (kk,o)=ν:=by unfold X6;rw[ATv hp]
   rw[hqq];exact Yc (AO @Af @Option.toList_none.{0})
  ·refine Cw λK k1=>EB [(τ,0),(τ,1),(τ,2),(τ,3),(τ,4),(τ,5),(τ,6)] [] ?_;replace zg:=Bd.mk (AO g1 (AO g2 g4));refine DU hp (k1 _ _ ?_);refine C_ (DD ?_);rw[ATt hp]at hK1;obtain⟨b,bc,⟨oh,ow,om,oc⟩⟩:=o;refine Eo ([Xz b2 r (Em NS (GR e.pl dn A++(kk,⟨b,bc,⟨oh,ow,om,IK oc e.pl⟩⟩)::GR e.pl dn B)) (kk::dn) (σ kk),Gh b3 e,.blk bS 107 [.map (σ b1),.map (σ b2)],JS b1 (Em Value.bool sd)]++JK (GR e.pl dn A++(kk,⟨b,bc,⟨oh,ow,om,IK oc e.pl⟩⟩)::GR e.pl dn B)) (λw hw=>?_) ?_
   ·have hkk:Em NS (GR e.pl dn A++(kk,⟨b,bc,⟨oh,ow,om,IK oc e.pl⟩⟩)::GR e.pl dn B)=Em NS (GR e.pl dn A++(kk,⟨b,bc,⟨oh,ow,om,oc⟩⟩)::GR e.pl dn B):=by simp[Em,NS]
    rw[hkk];exact hw.perm (WU _ _ _ kk ⟨b,bc,⟨oh,ow,om,IK oc e.pl⟩⟩).symm
   refine Cz ?_;try simp only[Di,Dq]
   refine⟨kk::dn,⟨σ kk,?_⟩,hlt⟩;rw[ADS [],hK1];have hqq:X6 e.pl (kk,⟨b,bc,⟨oh,ow,om,oc⟩⟩)=σ (kk,⟨b,bc,⟨oh,ow,om,IK oc e.pl⟩⟩):=by unfold X6;rw[ATt hp]
   rw[hqq];exact Yc @AUR.{0}
section
variable{P:Program}{M:List Nat}{W w:World}
theorem ABi{F L0}{d:Option Nat}{t ty pos af gd m b l z K}
  (ht:jl P t z) (hm:ev F m=.map (σ b)) (h:∀w,St M W L0 w->rH w b l) (hK:K τ (ε ζ (l.length:Int))):
  RX P M W ⟨d,.call { callee:=.builtin .len,args := #[m],argTypes := #[t] },ty,pos,af,gd⟩ F L0 K:=by
 refine⟨_,λw hw=>?_,λtok xf=>by subst xf;exact hK⟩;obtain⟨kt,et,i,h1,h2,h3,h4⟩:=M3 ht;obtain⟨es,cl,h5,h6,-⟩:=h w hw;have hl:es.size=l.length:=by
  have:=AT4 CP h6;simpa using this
 simp[execOp,resolve,invoke,builtin,hm,Builtin.len_,run_underlying h1,MapKept.run_getObj_map h5,Result.andThen,goInt,hl]
end
theorem kW x h:(Yo x h=π ν/\Uf x.pl h=ν)∨∃o,Er x.os (De h)=σ o/\o.o.h=h/\Yo x h=NS o/\Uf x.pl h=σ o.o:=by
 unfold Yo Uf MW.pl;cases hg:Er x.os (De h)with
 |none=>exact .inl ⟨rfl,by simp[Ka,hg]⟩
 | some o =>
  by_cases hh:o.o.h=h
  ·exact .inr ⟨o,rfl,hh,by simp[hh],by simp[Ka,hg,hh]⟩
  ·exact .inl ⟨by simp[hh],by simp[Ka,hg,hh]⟩
theorem ABj{s e o}(h:Uf s e.h=σ o):eF s e=if e.op=2 then (if SC e o=τ then σ { s with os:=IK s.os (De e.h) } else ν)
  else if e.op=8 then (if (SC e o&&X4 s e)=τ then σ { s with os:=FY s.os (De e.h) { o with ow:=e.ar } } else ν)
  else if e.op=9 then Ug s e o 1
  else if e.op=10 then Ug s e o 2
  else ABe s e o:=by unfold eF;rw[h]
theorem xg x e k(hI:Nr k x.pl)(hk:k<=1000000)(he:e.ok)W(hst:St (DV (hsL x)) W (hsL x) W):
  Calls AGm 44 #[π (σ ⟨x.bS,0,ν⟩),U6 e] W
  λen w' => ∃i:Bool×MW,en=κ (Q5 i)/\Did x.bS (eF x.pl e) i/\St (DV (hsL x)) W (X5 i) w':=by
 have he1:=he.1;obtain⟨M,hM⟩:∃M,DV (hsL x)=M:=⟨_,rfl⟩;rw[hM]at hst ⊢;have hfc:=kW x e.h;have U7:∀o,Uf x.pl e.h=σ o->Zt k (De e.h,o):=λo ho=>hI.get (Yj ho).1;obtain⟨s,hs⟩:∃s,x.pl=s:=⟨_,rfl⟩;rw[hs]at hfc U7 ⊢;clear hM;refine DL (M:=M) Tryz.func44 [.tmp 4]  hst ?_;refine C9 rfl λK k0=>?_;have zs:=Bd.mk Jn;refine Ed @U6.eq_1 ?_;intro b3 hb3 hf3;refine k0 _ _ (C9 rfl λK k0=>DR ?_);refine EW (hsL x) (.cons _ (BB _)) (λ_:Unit=>Yo x e.h) _ (λw hw=>rX x e.h he1 w hw) ?_;intro _ _;refine DR (k0 _ _ ?_);refine NB λG1 hG=>?_;have X7:=AUE hG 0;have AG_:=AUE hG 3;have Qh:=AUE hG 5;clear hG;try simp -implicitDefEqProofs (disch:=first|omega|decide) only [seval,-Int.reducePow,-Nat.reducePow,cC,pv,D5,EH,undef,Jn]at X7 AG_ Qh
 have g1:=AO X7 (AO AG_ Qh);rcases hfc with⟨hv,hfo⟩|⟨o,hg,hh,hv,hfo⟩
 ·rw[hv]at g1;have Qh:=g1.2.2;refine Cw λK k0=>?_;have zg:=Bd.mk g1;refine Db ?_;refine C_ (DD ?_);refine Db ?_;refine C8 (EP λw hw=>?_);exact⟨(ο,x),rfl,.no (by unfold eF;rw[hfo]) rfl,hw.tail⟩
 rw[hv]at g1;have AEa:=U7 o.o hfo;refine Cw λK k0=>?_;have zg:=Bd.mk g1;refine Db ?_;refine C_ (DD ?_);refine Cz (k0 _ _ ?_);obtain⟨bS,b1,b2,sd,os⟩:=x;dsimp only at hg g1 ⊢;obtain⟨pre,post,kX,-,hset,hdel⟩:=kR hg;refine Eo (Gh b3 e::hsF bS b1 b2 sd os o (pre++post)) (λw hw=>hw.perm (.cons _ (Ns kX))) ?_;unfold hsF;refine IW (o.b≠b3) (λw hw=>hw.bNe 1 0 rfl rfl AJ) λhn1=>IW (o.b≠bS) (λw hw=>hw.bNe 1 3 rfl rfl AJ) λhn2=>IW (bS≠b3) (λw hw=>hw.bNe 3 0 rfl rfl AJ) λrq=>?_;have hput:∀(o':Jr) w,o'.b=o.b->St M W (hsF bS b1 b2 sd os o' (pre++post)) w->St M W (hsL ⟨bS,b1,b2,sd,FY os (De e.h) o'⟩) w:=λo' w hb hw=>hw.perm (AEX kX hset hb).symm;have AEb:∀o':Jr,MW.pl ⟨bS,b1,b2,sd,FY os (De e.h) o'⟩ = { s with os:=FY s.os (De e.h) o'.o } := λo'=>by
  rw[<-hs];unfold MW.pl;rw[Yp]
 have hue:=ABj hfo;refine NB λG2 hG=>?_;have kY:=AUE hG 0;have AEc:=AUE hG 3;have AEd:=AUE hG 5;clear hG;try simp -implicitDefEqProofs (disch:=first|omega|decide) only [seval,-Int.reducePow,-Nat.reducePow,cC,pv,D5,EH,undef,Jn,g1]at kY AEc AEd
 have g2:=AO kY (AO AEc AEd);refine Cw λK k0=>?_;refine Df (λ_ _=>True) (λF' L'=>F' 0=G2 0/\F' 3=G2 3/\F' 5=G2 5/\F' 6=θ (SC e o.o)/\L'=[Gh b3 e,.blk o.b 154 [ε υ (o.o.h:Int),ε ζ o.o.ow,ε ζ o.o.mo,.map (σ o.bc)],JS o.bc (Em (Value.int ζ) o.o.cs),.blk bS 107 [.map (σ b1),.map (σ b2)],JS b1 (Em Value.bool sd),JS b2 (Em NS os)]++JK (pre++post)) ?_ ?_
 ·by_cases hp:o.o.ow=e.pl
  ·refine EB [(τ,0),(τ,1),(τ,2),(τ,3),(τ,4),(τ,5),(τ,6),(τ,7),(τ,8),(τ,9),(τ,10),(τ,11),(τ,12),(τ,13),(τ,14),(τ,15)] [] ?_;replace zg:=Bd.mk g2;refine DU hp ?_;refine ABi Tf rfl (λw hw=>hw.U5 2 rfl) ?_;rw[Pb];refine DD ?_;unfold SC;simp[hp]
  ·refine EB [(τ,0),(τ,1),(τ,2),(τ,3),(τ,4),(τ,5),(τ,6),(τ,7),(τ,8),(τ,9),(τ,10),(τ,11),(τ,12),(τ,13),(τ,14),(τ,15)] [] ?_;replace zg:=Bd.mk g2;refine DU hp ?_;unfold SC;simp[hp]
 intro G3 L' _ hF;obtain⟨q0,q3,q5,q6,rfl⟩:=hF;have AJh:=q0.trans kY;have AJi:=q3.trans AEc;have AJj:=q5.trans AEd;have AEe:=q6;clear q0 q3 q5 q6;have g3:=AO AJh (AO AJi (AO AJj AEe));refine EM (k0 _ _ ?_);have hcnt:∀c∈o.o.cs,0<=c.2/\c.2<=4611686018427387904:=λc hc=>by have:=AEa.cnt c hc;omega
 have hsd:∀os',MW.pl ⟨bS,b1,b2,sd,os'⟩ = { s with os:=Em Jr.o os' } := λos'=>by rw[<-hs];rfl
 by_cases o2:e.op=2
 ·have d2:decide (e.op=2)=τ:=by simp[o2]
  rw[ATv o2]at hue;refine Cw λK k0=>?_;replace zg:=Bd.mk g3;refine Db ?_;refine DK (KU d2 ?_);refine C_ (DD ?_);refine Cw λK k1=>Db ?_;refine C_ ?_;cases hfr:SC e o.o with
  | false =>
   refine DD ?_;refine Cz (k1 _ _ (Db ?_));refine C8 (EP λw hw=>?_);rw[hfr]at hue;exact⟨(ο,⟨bS,b1,b2,sd,os⟩),(by rw[hfr];rfl),.no hue rfl,hw.tail.perm (Ns kX).symm⟩
  | true =>
   refine DD ?_;refine K3 (EB [(τ,0),(τ,1),(τ,2),(τ,3),(τ,4),(τ,5),(ο,6),(ο,7)] [7] ?_);refine DD ?_;refine DI (λw hw=>PZ e.h he1 w) (DD ?_);refine Zq 5 Zv rfl rfl rfl ?_;rw[QL,hdel];refine DD (k1 _ _ ?_);refine Db ?_;refine C8 (EP λw hw=>?_);rw[hfr]at hue;refine⟨(τ,⟨bS,b1,b2,sd,pre++post⟩),(by rw[hfr];rfl),.yes hue ?_ rfl,hw.tail.tail.tail⟩;rw[hsd,<-hdel,<-Yi,<-hs];rfl
 rw[ATt o2]at hue;by_cases o8:e.op=8
 ·have d8:decide (e.op=8)=τ:=by simp[o8]
  rw[ATv o8]at hue;refine Cw λK k0=>?_;replace zg:=Bd.mk g3;refine Db ?_;refine DK (KU o2 ?_);refine C_ (DD ?_);refine KU d8 ?_;refine C_ (DD ?_);refine C9 rfl λK k1=>DD ?_;refine EW (O7 ⟨bS,b1,b2,sd,os⟩) (.cons _ (.cons _ (.cons _ (.cons_cons _ (.cons_cons _ (AIE _)))))) xP _ (λw hw=>WT ⟨bS,b1,b2,sd,os⟩ e he w hw) ?_;rintro⟨q,ok⟩ ⟨hok,hq⟩;dsimp only at hok hq;refine DU @xP.eq_1 (k1 _ _ ?_);rw[hs]at hok;cases hfr:SC e o.o with
  | false =>
   refine Cw λK k1=>KU hfr ?_;refine C_ (DD ?_);refine Cz (k1 _ _ (KU hfr ?_));refine C8 (EP λw hw=>?_);rw[hfr]at hue;exact⟨(ο,⟨bS,b1,b2,sd,os⟩),rfl,.no hue rfl,hw.tail.perm (Ns kX).symm⟩
  | true =>
   rw[hfr,ASv,<-hok]at hue;cases ok with
   | false =>
    refine Cw λK k1=>KU hfr ?_;refine C_ (DD ?_);refine Cz (k1 _ _ (KU hfr ?_));refine C8 (EP λw hw=>?_);exact⟨(ο,⟨bS,b1,b2,sd,os⟩),rfl,.no hue rfl,hw.tail.perm (Ns kX).symm⟩
   | true =>
    have hqa:=hq rfl;subst hqa;refine Cw λK k1=>KU hfr ?_;refine C_ (DD ?_);refine DJ rfl (DD (k1 _ _ ?_));refine KU hfr ?_;refine C8 (EP λw hw=>?_);exact⟨(τ,⟨bS,b1,b2,sd,FY os (De e.h) ⟨o.b,o.bc,{ o.o with ow:=e.ar }⟩⟩),rfl,.yes hue (AEb _) rfl,hput ⟨o.b,o.bc,{ o.o with ow:=e.ar }⟩ _ rfl hw.tail⟩
 rw[ATt o8]at hue;have ADT:∀(m:Int) (i:Bool×Ob),i.1=AA3 s e o.o m->(i.1=τ->i.2=oJ o.o e.ar m)->eF s e=Ug s e o.o m->Did bS (eF s e) (i.1,⟨bS,b1,b2,sd,FY os (De e.h) ⟨o.b,o.bc,i.2⟩⟩):=by
  intro m i h1 h2 h3;rw[h3];unfold Ug;cases hb:AA3 s e o.o m with
  |false=>exact⟨by rw[h1,hb];rfl,λs' hs'=>by simp at hs',rfl⟩
  | true =>
   refine⟨by rw[h1,hb];rfl,λs' hs'=>?_,rfl⟩;rw[ATv rfl]at hs';injection hs' with hs';rw[<-hs',AEb];show _=_;rw[h2 (h1.trans hb)]
 by_cases o9:e.op=9
 ·have d9:decide (e.op=9)=τ:=by simp[o9]
  rw[ATv o9]at hue;refine Cw λK k0=>?_;replace zg:=Bd.mk g3;refine Db ?_;refine DK (KU o2 ?_);refine C_ (DD ?_);refine KU o8 ?_;refine C_ (DD ?_);refine KU d9 ?_;refine C_ (DD ?_);refine C9 rfl λK k1=>DD ?_;refine Dh fB (λi:Bool×Ob=>OL ⟨o.b,o.bc,i.2⟩++O7 ⟨bS,b1,b2,sd,os⟩) _ (λw hw=>Yq ⟨bS,b1,b2,sd,os⟩ o e 1 he w hcnt hw) ?_;rintro i ⟨hi1,hi2⟩;rw[hs]at hi1;unfold OL O7;refine DU @fB.eq_1 (k1 _ _ ?_);refine C8 (EP λw hw=>?_);exact⟨(i.1,⟨bS,b1,b2,sd,FY os (De e.h) ⟨o.b,o.bc,i.2⟩⟩),rfl,ADT 1 i hi1 hi2 hue,hput ⟨o.b,o.bc,i.2⟩ _ rfl (hw.sub (.cons_cons _ (.cons_cons _ (.cons_cons _ (.cons_cons _ (.cons _ (BB _)))))))⟩
 rw[ATt o9]at hue;by_cases o10:e.op=10
 ·have d10:decide (e.op=10)=τ:=by simp[o10]
  rw[ATv o10]at hue;refine Cw λK k0=>?_;replace zg:=Bd.mk g3;refine Db ?_;refine DK (KU o2 ?_);refine C_ (DD ?_);refine KU o8 ?_;refine C_ (DD ?_);refine KU o9 ?_;refine C_ (DD ?_);refine KU d10 ?_;refine C_ (DD ?_);refine C9 rfl λK k1=>DD ?_;refine Dh fB (λi:Bool×Ob=>OL ⟨o.b,o.bc,i.2⟩++O7 ⟨bS,b1,b2,sd,os⟩) _ (λw hw=>Yq ⟨bS,b1,b2,sd,os⟩ o e 2 he w hcnt hw) ?_;rintro i ⟨hi1,hi2⟩;rw[hs]at hi1;unfold OL O7;refine DU @fB.eq_1 (k1 _ _ ?_);refine C8 (EP λw hw=>?_);exact⟨(i.1,⟨bS,b1,b2,sd,FY os (De e.h) ⟨o.b,o.bc,i.2⟩⟩),rfl,ADT 2 i hi1 hi2 hue,hput ⟨o.b,o.bc,i.2⟩ _ rfl (hw.sub (.cons_cons _ (.cons_cons _ (.cons_cons _ (.cons_cons _ (.cons _ (BB _)))))))⟩
 rw[ATt o10]at hue;refine Cw λK k0=>?_;replace zg:=Bd.mk g3;refine Db ?_;refine DK (KU o2 ?_);refine C_ (DD ?_);refine KU o8 ?_;refine C_ (DD ?_);refine KU o9 ?_;refine C_ (DD ?_);refine KU o10 ?_;refine C_ (DD ?_);refine Cz (k0 _ _ (C9 rfl λK k0=>DD ?_));refine Dh fB (λi:Bool×Ob=>OL ⟨o.b,o.bc,i.2⟩) _ (λw hw=>Zw o e.pl w hcnt hw) ?_;rintro i ⟨hi1,hi2⟩;unfold OL;refine DU @fB.eq_1 (k0 _ _ ?_);refine C8 (EP λw hw=>?_);refine⟨(i.1,⟨bS,b1,b2,sd,FY os (De e.h) ⟨o.b,o.bc,i.2⟩⟩),rfl,?_,hput ⟨o.b,o.bc,i.2⟩ _ rfl (hw.sub (.cons_cons _ (.cons_cons _ (.cons _ (BB _)))))⟩;rw[hue];unfold ABe;by_cases h0:(Er o.o.cs e.pl).getD 0=0
 ·exact⟨by rw[hi1];simp[h0],λs' hs'=>by simp[h0]at hs',rfl⟩
 ·refine⟨by rw[hi1];simp[h0],λs' hs'=>?_,rfl⟩;rw[ATt h0]at hs';injection hs' with hs';rw[<-hs',AEb];show _=_;rw[hi2 (by rw[hi1];simp[h0])]
theorem kZ x e k(hI:Nr k x.pl)(hk:k<=1000000)(he:e.ok)W(hst:St (DV (hsL x)) W (hsL x) W):
  Calls AGm 21 #[π (σ ⟨x.bS,0,ν⟩),U6 e] W
  λen w' => ∃i:Bool×MW,en=κ (Q5 i)/\Did x.bS (Jk x.pl e) i/\St (DV (hsL x)) W (X5 i) w':=by
 obtain⟨M,hM⟩:∃M,DV (hsL x)=M:=⟨_,rfl⟩;rw[hM]at hst ⊢;obtain⟨s,hs⟩:∃s,x.pl=s:=⟨_,rfl⟩;rw[hs];clear hM;have hstep:Jk s e=Jk s e:=rfl
 conv at hstep=>rhs;unfold Jk
 refine DL (M:=M) Tryz.func21 [.tmp 4]  hst ?_;refine C9 rfl λK k0=>?_;have zs:=Bd.mk Jn;refine Ed @U6.eq_1 ?_;intro b3 hb3 hf3;refine k0 _ _ (Cw λK k0=>DK (C9 rfl λK k1=>DR ?_));refine DI (λw hw=>rR e w) ?_;try refine DR ?_
 refine k1 _ _ (C_ ?_);cases hsk:Td e with
 | true =>
  refine DR ?_;refine DZ ?_;refine C8 (Eg λw hw=>?_);rw[hsk,ATv rfl]at hstep;exact⟨(τ,x),rfl,.yes hstep hs rfl,hw.tail⟩
 |false =>
 rw[hsk,ATt AUK]at hstep;refine DR ?_;by_cases hpl:e.pl<1\/64<e.pl
 ·rw[ATv hpl]at hstep;refine C9 rfl λK k1=>DR ?_;by_cases hp1:e.pl<1
  ·refine Ed hp1 (k1 _ _ ?_);exact AVp
  ·have hp2:64<e.pl:=hpl.resolve_left hp1;refine Ed (AO hp1 hp2) (k1 _ _ ?_);exact AVp
 rw[ATt hpl]at hstep;have hp1:¬e.pl<1:=λh=>hpl (.inl h);have hp2:¬64<e.pl:=λh=>hpl (.inr h);refine Mo (AO hp1 hp2) ?_;refine C_ (DR ?_);by_cases o32:e.op=32
 ·have d32:decide (e.op=32)=τ:=by simp[o32]
  rw[ATv o32]at hstep;refine Mo d32 ?_;refine C_ (DR ?_);refine C9 rfl λK k1=>DR ?_;refine Jl [Gh b3 e] (hsL x) (CF _) Q5 X5 _ (λw hw=>kS x e.pl w hw) ?_;intro i hi;refine Ed @Q5.eq_1 (k1 _ _ ?_);refine C8 (Eg λw hw=>?_);rw[hs]at hi;exact⟨i,rfl,hstep▸hi,hw.sub (Az _ _)⟩
 rw[ATt o32]at hstep;refine Mo o32 ?_;refine C_ (DR ?_);refine Ye (L':=Gh b3 e :: .blk x.bS 107 [.map (σ x.b1),.map (σ x.b2)]::JS x.b1 (Em Value.bool x.sd)::JS x.b2 (Em NS x.os)::JK x.os) rfl (IW (x.bS≠b3) (λw hw=>hw.bNe 1 0 rfl rfl AJ) λhn1=>?_);have hal:((Er x.sd e.pl).map Value.bool).getD (θ ο)=θ (alive s e.pl):=by
  rw[<-hs];unfold alive MW.pl;cases Er x.sd e.pl<;>rfl
 refine Cw λK k1=>EB [(τ,0),(τ,1),(τ,2),(τ,3),(τ,4),(τ,5),(ο,6),(τ,7),(τ,8)] [] ?_;refine DR ?_;refine GD xL rfl rfl (λw hw=>hw.U5 2 rfl) ?_;rw[F5,hal];refine DR (k1 _ _ ?_);refine C_ ?_;cases hav:alive s e.pl with
 | false =>
  rw[hav,ATv rfl]at hstep;refine DR ?_;refine DZ ?_;refine C8 (Eg λw hw=>?_);exact⟨(ο,x),rfl,.no hstep rfl,hw.tail⟩
 |true =>
 rw[hav,ATt (by decide:¬(τ=ο))]at hstep;refine DR ?_;refine Cz (k0 _ _ (Ye (L':=Gh b3 e::hsL x) rfl (DC [0,3] λG1 g1=>?_)));replace g1:=EK g1;refine Cw λK k0=>?_;have zg:=Bd.mk g1;refine Db ?_;refine DK ?_;by_cases o33:e.op=33
 ·have d33:decide (e.op=33)=τ:=by simp[o33]
  rw[ATv o33]at hstep;refine KU d33 ?_;refine C_ (DD ?_);refine C9 rfl λK k1=>DD ?_;refine Jl [Gh b3 e] (hsL x) (CF _) Q5 X5 _ (λw hw=>xe x e k hI hk he w hw) ?_;intro i hi;refine DU @Q5.eq_1 (k1 _ _ ?_);refine C8 (EP λw hw=>?_);rw[hs]at hi;exact⟨i,rfl,hstep▸hi,hw.sub (Az _ _)⟩
 rw[ATt o33]at hstep;refine KU o33 ?_;refine C_ (DD ?_);by_cases o1:e.op=1
 ·have d1:decide (e.op=1)=τ:=by simp[o1]
  rw[ATv o1]at hstep;refine KU d1 ?_;refine C_ (DD ?_);refine C9 rfl λK k1=>DD ?_;refine Jl [Gh b3 e] (hsL x) (CF _) Q5 X5 _ (λw hw=>kV x e he w hw) ?_;intro i hi;refine DU @Q5.eq_1 (k1 _ _ ?_);refine C8 (EP λw hw=>?_);rw[hs]at hi;exact⟨i,rfl,hstep▸hi,hw.sub (Az _ _)⟩
 rw[ATt o1]at hstep;refine KU o1 ?_;refine C_ (DD ?_);refine Cw λK k1=>?_;refine Df (λ_ _=>True) (λF' L'=>EH F' G1 [0,3]/\F' 35=ε ζ e.op/\F' 46=θ (decide (e.op=2\/e.op=8\/e.op=9\/e.op=10\/e.op=11))/\L'=Gh b3 e::hsL x) ?_ ?_
 ·by_cases o2:e.op=2
  ·have d2:decide (e.op=2)=τ:=by simp[o2]
   refine KU d2 ?_;refine C_ (DD ?_);refine Cz ?_;try simp only[Di,Dq]
   refine DD ?_;simp[o2]
  refine KU o2 ?_;refine C_ (DD ?_);by_cases o8:e.op=8
  ·have d8:decide (e.op=8)=τ:=by simp[o8]
   refine KU d8 ?_;refine C_ (DD ?_);refine Cz ?_;try simp only[Di,Dq]
   refine DD ?_;simp[o8]
  refine KU o8 ?_;refine C_ (DD ?_);by_cases o9:e.op=9
  ·have d9:decide (e.op=9)=τ:=by simp[o9]
   refine KU d9 ?_;refine C_ (DD ?_);refine Cz ?_;try simp only[Di,Dq]
   refine DD ?_;simp[o9]
  refine KU o9 ?_;refine C_ (DD ?_);by_cases o10:e.op=10
  ·have d10:decide (e.op=10)=τ:=by simp[o10]
   refine KU d10 ?_;refine C_ (DD ?_);refine Cz ?_;try simp only[Di,Dq]
   refine DD ?_;simp[o10]
  refine KU o10 ?_;refine C_ (DD ?_);refine DJ rfl (DD ?_);simp[o2,o8,o9,o10]
 intro G2 L' _ hF;obtain⟨zq,xh,AEf,rfl⟩:=hF;have g2:=AO (Dy zq) (AO xh AEf);refine k1 _ _ (C_ ?_);by_cases hu:e.op=2\/e.op=8\/e.op=9\/e.op=10\/e.op=11
 ·rw[ATv hu]at hstep;replace zg:=Bd.mk g2;refine DU hu ?_;refine C9 rfl λK k1=>DD ?_;refine Jl [Gh b3 e] (hsL x) (CF _) Q5 X5 _ (λw hw=>xg x e k hI hk he w hw) ?_;intro i hi;refine DU @Q5.eq_1 (k1 _ _ ?_);refine C8 (EP λw hw=>?_);rw[hs]at hi;exact⟨i,rfl,hstep▸hi,hw.sub (Az _ _)⟩
 rw[ATt hu]at hstep;replace zg:=Bd.mk g2;refine DU hu ?_;refine Cz (k0 _ _ (Db ?_));refine C8 (EP λw hw=>?_);exact⟨(ο,x),rfl,.no hstep rfl,hw.tail⟩
open Go.RowKit Go.Shelf Go.Maps Go.Sort
theorem Yt m:AnyZI.SortsIn AGm sortedLay_ren Fence.wide m :=
 ⟨λblk off cap ss W hH hblk hsz=>callsIn_wide.2 (AnyM.slices_Sort_int sortLay blk off cap ss W hH hblk hsz),
  λp cap W=>callsIn_wide.2 (AnyM.slices_Sort_int_none sortLay p cap W)⟩
def blind(_:Value):Option (DataW Unit×List MemPlace):=σ (.nil,[])
def KsH(w:World)(b:Nat)(ks:List Int):Prop := ∃(es:Array MapEntry)(cl:Nat),w.heap[b]?=σ (.map es cl)/\es.toList.map (·.key)=ks.map (Value.int ζ)/\MapKept.Stamped es cl
theorem rH.ks{w b l}(h:rH w b l):KsH w b (keys l):=by
 obtain⟨es,cl,h1,h2,h3⟩:=h;refine⟨es,cl,h1,?_,h3⟩;have:=AT4 (List.map Prod.fst) h2;simp only[ATG]at this;unfold keys;rw[ATG];exact this
theorem WW{w b ks P k}(hk:P.underlying k=σ (.int ζ))(h:KsH w b ks)(hwf:∀x∈ks,(Lit.int ζ x).wf=τ)(hl:ks.length<=maxLen):
  ∃D0:DataW Unit,w.ownsMap P k blind b ks.length D0/\(intKeys D0).Perm ks/\Maps.size D0=ks.length:=by
 obtain⟨es,cl,h1,h2,h3⟩:=h;have hlen:es.size=ks.length:=by have:=AT4 CP h2;simpa using this
 have hrd:∀x∈es.toList,∃a:Int,a∈ks/\x.key=ε ζ a/\WideElems.rd P k blind x=σ (.int ζ a,.nil):=λx hx=>by
  have hm:x.key∈ks.map (Value.int ζ):=by rw[<-h2];exact BL.2 ⟨x,hx,rfl⟩
  obtain⟨a,ha,hax⟩:=BL.1 hm;refine⟨a,ha,hax.symm,?_⟩;simp[WideElems.rd,<-hax,Maps.keyOf_int_mk hk (hwf a ha),blind]
 refine⟨_,⟨es,cl,h1,⟨by rw[hlen];exact hl,h3,λx hx=>?_⟩,by omega,rfl⟩,?_,?_⟩
 ·obtain⟨a,-,-,h⟩:=hrd x hx;exact⟨_,h⟩
 ·have hp:=(WideShapes.sorted_perm (es.toList.map (WideElems.rg P k blind))).map λp=>Go.intOf p.1;refine hp.trans (List.Perm.of_eq ?_);rw[ATG];have:(es.toList.map λx=>Go.intOf (WideElems.rg P k blind x).1).map (Value.int ζ)=ks.map (Value.int ζ):=by
   rw[<-h2,ATG];refine ATI λx hx=>?_;obtain⟨a,-,h4,h5⟩:=hrd x hx;simp[WideElems.rg,h5,h4,Go.intOf]
  exact(List.map_inj_right λa b h=>by simpa using h).1 this
 ·rw[Maps.size_eq,(WideShapes.sorted_perm (es.toList.map (WideElems.rg P k blind))).length_eq,BF,ASw,hlen]
theorem kg mb W:Calls AGm 23 #[.map mb] W λe w'=>e=κ (.func (.func 47) #[] #[π (σ ⟨W.heap.size,0,ν⟩)])/\w'=W.alloc (.cells #[.map mb] 105) :=
 callsIn_wide.1 (AnyZI.keys_in keysLay0 Fence.wide 5 trivial rfl mb W)
theorem U8 Bm b ks w(hm:w.cell? ⟨Bm,0,ν⟩=σ (.map (σ b)))(hB:Bm<w.heap.size)(hM:KsH w b ks)(hwf:∀x∈ks,(Lit.int ζ x).wf=τ)(hl:ks.length<=1000):
  Calls AGm 22 #[.func (.func 47) #[] #[π (σ ⟨Bm,0,ν⟩)]] w λe w' => ∃A n c,e=κ (ξ A n c) ∧
   w'.ownsRow w.heap.size 3 1 (ξ A n c) n ((ks.mergeSort leI).map (Value.int ζ))/\Below w.heap.size w w':=by
 obtain⟨D0,hown,hp,hs⟩:=WW (P:=AGm) (k:=3) Tryz.underlying3 hM hwf (AGn hl AJ);have hseq:SeqGives Fence.wide 2 AGm 47 #[π (σ ⟨Bm,0,ν⟩)] encZ (λss=>ss.Perm (intKeys D0)) (Maps.size D0) w :=
  AnyZI.keys_gives (ρ:=keysLay0_ren) { keysLay0 with } Fence.wide _ trivial rfl AL Bm b ks.length D0 _ hB hm hown
 have cS:=AnyZI.sorted_in sortedLay Fence.wide 5 trivial trivial trivial trivial rfl AL (Yt _) (enters_of Tryz.func46 AF rfl) 47 #[π (σ ⟨Bm,0,ν⟩)] trivial (enters_of Tryz.func47 AF rfl) _ (Maps.size D0) (by rw[hs];exact AGn hl AJ) (by rw[hs];omega) w hseq;refine(callsIn_wide.1 cS).mono ?_;rintro e w' ⟨v,ss,rfl,hS,hrow,-,hb⟩;obtain⟨A,c,rfl⟩:=Lu hrow;rw[mergeSort_of_perm_i (hS.trans hp)]at hrow;exact⟨A,ss.length,c,rfl,hrow,hb⟩
theorem ko mb W:Calls AGm 48 #[.map mb] W λe w'=>e=κ (.func (.func 79) #[] #[π (σ ⟨W.heap.size,0,ν⟩)])/\w'=W.alloc (.cells #[.map mb] 152) :=
 callsIn_wide.1 (AnyZI.keys_in keysLay1 Fence.wide 5 trivial rfl mb W)
theorem U9 Bm b ks w(hm:w.cell? ⟨Bm,0,ν⟩=σ (.map (σ b)))(hB:Bm<w.heap.size)(hM:KsH w b ks)(hwf:∀x∈ks,(Lit.int ζ x).wf=τ)(hl:ks.length<=1000):
  Calls AGm 22 #[.func (.func 79) #[] #[π (σ ⟨Bm,0,ν⟩)]] w λe w' => ∃A n c,e=κ (ξ A n c) ∧
   w'.ownsRow w.heap.size 3 1 (ξ A n c) n ((ks.mergeSort leI).map (Value.int ζ))/\Below w.heap.size w w':=by
 obtain⟨D0,hown,hp,hs⟩:=WW (P:=AGm) (k:=3) Tryz.underlying3 hM hwf (AGn hl AJ);have hseq:SeqGives Fence.wide 2 AGm 79 #[π (σ ⟨Bm,0,ν⟩)] encZ (λss=>ss.Perm (intKeys D0)) (Maps.size D0) w :=
  AnyZI.keys_gives (ρ:=keysLay1_ren) { keysLay1 with } Fence.wide _ trivial rfl AL Bm b ks.length D0 _ hB hm hown
 have cS:=AnyZI.sorted_in sortedLay Fence.wide 5 trivial trivial trivial trivial rfl AL (Yt _) (enters_of Tryz.func46 AF rfl) 79 #[π (σ ⟨Bm,0,ν⟩)] trivial (enters_of Tryz.func79 AF rfl) _ (Maps.size D0) (by rw[hs];exact AGn hl AJ) (by rw[hs];omega) w hseq;refine(callsIn_wide.1 cS).mono ?_;rintro e w' ⟨v,ss,rfl,hS,hrow,-,hb⟩;obtain⟨A,c,rfl⟩:=Lu hrow;rw[mergeSort_of_perm_i (hS.trans hp)]at hrow;exact⟨A,ss.length,c,rfl,hrow,hb⟩
theorem AEg:leI=λx y=>decide (x<=y):=rfl
theorem fG{α:Type}(l:List (Int×α)):(keys l).mergeSort leI=keys (JC l):=by rw[MK,AEg]
def ApL(L:List DW):Prop:=L.Pairwise λr s => ∀b∈r.foot,b∉s.foot
def fH(L:List DW):DW:=.dat (L.flatMap DW.foot) (λw => ∀r∈L,r.holds w) (λw w' hk h r hr=>r.keep (h r hr) λb hb=>hk b (BM.2 ⟨r,hr,hb⟩))
section
variable{M:List Nat}{W w:World}{A L:List DW}
theorem St.unfold(h:St M W (A++[fH L]) w)(ha:ApL L):St M W (A++L) w:=by
 obtain⟨h1,h2,h3⟩:=BN.1 h.apart;have hm:fH L∈A++[fH L]:=by simp
 have hf:∀r∈L,∀b∈r.foot,b∈(fH L).foot:=λr hr b hb=>BM.2 ⟨r,hr,hb⟩;refine⟨h.ES,λr hr=>?_,λr hr b hb=>?_,BN.2 ⟨h1,ha,λr hr s hs b hb hbs=>?_⟩⟩
 ·rcases AV.1 hr with hr|hr
  ·exact h.holds r AU6
  ·exact h.holds _ hm r hr
 ·rcases AV.1 hr with hr|hr
  ·exact h.own r AU6 b hb
  ·exact h.own _ hm b (hf r hr b hb)
 ·exact h3 r hr (fH L) AUq b hb (hf s hs b hbs)
end
section
variable{P:Program}{M:List Nat}{W:World}{L:List DW}
theorem Yu{g args K}{f:Nat->Value}{t cs}(h:∀w,St M W L w->Calls P g args w λe w'=>e=κ (f w.heap.size)/\w'=w.alloc (.cells cs.toArray t))
  (hk:∀b,W.heap.size<=b->fresh L b->K τ (f b) (.blk b t cs::L)):I6 P M W g args L K:=λw hw=>by
 refine(h w hw).mono ?_;rintro e w' ⟨rfl,rfl⟩;exact⟨_,_,rfl,hw.alloc t cs,hk _ hw.ES.size (Ju hw)⟩
end
structure Bw where
 ob:Int
 ho:Int
 mo:Int
 co:Int
deriving DecidableEq
def oU(b:Bw):List Value:=[ε ζ b.ob,ε ζ b.ho,ε ζ b.mo,ε ζ b.co]
def EN(l:List Bw):List Value:=l.flatMap oU
theorem FE l:(EN l).length=l.length*4:=by
 induction l with
 |nil=>rfl
 |cons b l ih=>rw[EN,BK,Ag,Av,<-EN,ih,oU];simp;omega
theorem fI a b:EN (a++b)=EN a++EN b:=by simp[EN]
theorem Iz l b:EN (l++[b])=EN l++[ε ζ b.ob,ε ζ b.ho,ε ζ b.mo,ε ζ b.co]:=by rw[fI];rfl
structure RO where
 h:Nat
 ow:Int
 A:Option Addr
 n:Nat
 c:Nat
 bs:List Bw
structure RP where
 h:Nat
 ow:Int
 bs:List Bw
deriving DecidableEq
def RO.pl(o:RO):RP:=⟨o.h,o.ow,o.bs⟩
def roV(o:RO):Value:=.agg #[ε υ (o.h:Int),ε ζ o.ow,ε ζ 0,ε ζ 0,ξ ν 0 0,ξ o.A o.n o.c]
def roc(o:RO):List Value:=[ε υ (o.h:Int),ε ζ o.ow,ε ζ 0,ε ζ 0,ξ ν 0 0,ξ o.A o.n o.c]
def KN(o:RO):DW:=.row (ξ o.A o.n o.c) 117 4 o.n (EN o.bs)
def bwO(o:Ob)(c:Int×Int):Bw:=⟨De o.h,c.1,o.mo,c.2⟩
def ry(o:Ob):RP:=⟨o.h,o.ow,(JC o.cs).map (bwO o)⟩
theorem xk{x}(h : -9223372036854775808<=x/\x<=9223372036854775807):(Lit.int ζ x).wf=τ:=by
 simp only[Lit.wf,Au,AT5];exact h
def Qp:=AO (AO (AO @Gh.eq_1 @NS.eq_1) (AO @Ac (AO @DT @KM))) (AO (AO @cM (AO @Ey @Ez)) (AO @E5 (AO @E8 @E9)))
theorem rz o k sl(hk:k<=1000)(hok:Zt k (sl,o.o))W(hst:St (DV (OL o)) W (OL o) W):
  Calls AGm 24 #[π (σ ⟨o.b,0,ν⟩)] W
  λen w' => ∃i:RO,en=κ (roV i)/\i.pl=ry o.o/\St (DV (OL o)) W (KN i::OL o) w':=by
 obtain⟨M,hM⟩:∃M,DV (OL o)=M:=⟨_,rfl⟩;rw[hM]at hst ⊢;have hnd:=hok.nd;have hcn:=hok.cnt;have AHB:=hok.h64;obtain⟨b,bc,o⟩:=o;obtain⟨h,ow,mo,cs⟩:=o;unfold OL at hst;dsimp only at hst hnd hcn AHB ⊢;clear hM;have hlen:cs.length<=k:=hok.cl;have hks:∀y∈keys cs,(Lit.int ζ y).wf=τ:=λy hy=>by
  obtain⟨p,hp,rfl⟩:=BL.1 hy;have:=hcn p hp;exact xk AL
 refine ER (M:=M) (n:=50) [.cell 2 41] rfl Tryz.func24 rfl rfl (Am rfl)  hst ?_;refine C9 rfl λK k0=>?_;have zs:=Bd.mk Qp;refine DR ?_;intro b2 hb2 hf2;refine k0 _ _ (Cw λK k0=>EB [(τ,0),(τ,1),(τ,2),(τ,3),(τ,4),(τ,5),(τ,6),(τ,7),(τ,8),(ο,9),(ο,10)] [10] ?_);refine DR ?_;intro b3 hb3 hf3;refine k0 _ _ (Cw λK k0=>C9 rfl λK k1=>DR ?_);refine Yu (f:=λb=>.func (.func 79) #[] #[π (σ ⟨b,0,ν⟩)]) (t:=152) (cs:=[.map (σ bc)]) (λw hw=>ko (σ bc) w) ?_;intro bk hbk hfk;refine DR ?_;refine D9 (λA n c=>ξ A n c) (λw hw=>(U9 bk bc (keys cs) w (by rw[hw.Gd (.head _)];rfl) (hw.own _ (.head _) bk AUp).2 (by have:=(hw.U5 4 rfl).ks;rw[Nq]at this;exact this) hks (by unfold keys;rw[BF];omega)).mono λe w' ⟨A,n,c,q1,q2,q3⟩=>⟨A,n,c,q1,q2,q3⟩) ?_;intro A2 n2 c2 hl2 hr2;rw[fG]at hl2 ⊢;refine DR (k1 _ _ ?_);refine DC [0,2,3,20,21,22] λG1 g1=>?_;replace g1:=EK g1;have hn2:(JC cs).length=n2:=by rw[BF]at hl2;unfold keys at hl2;rw[BF]at hl2;omega
 have hsl:(JC cs).length=cs.length:=by have:=AT4 CP (MK (l:=cs));rw[ATC]at this;unfold keys at this;rw[BF,BF]at this;exact this
 refine FB 117 4 (DY [0,3,4,1,5,6] ?_);refine DK ?_;refine Dv (λF' L' => ∃(i:Nat)(A:Option Addr)(n c:Nat),EH F' G1 [0,2,3,20,21]/\F' 22=ε ζ (i:Int)/\L'=[.row (ξ A n c) 117 4 n (EN (((JC cs).map (bwO ⟨h,ow,mo,cs⟩)).take i)),.blk b3 41 [ε υ (h:Int),ε ζ ow,ε ζ 0,ε ζ 0,ξ ν 0 0,ξ A n c],.blk b2 41 [ε υ 0,ε ζ 0,ε ζ 0,ε ζ 0,ξ ν 0 0,ξ ν 0 0],.row (ξ A2 n2 c2) 3 1 n2 ((keys (JC cs)).map (Value.int ζ)),.blk b 154 [ε υ (h:Int),ε ζ ow,ε ζ mo,.map (σ bc)],JS bc (Em (Value.int ζ) cs)]/\i<=n2) (λF' L'=>2000-(intOf (F' 22)).toNat) ?_ ?_
 ·exact AWB
 intro G2 L' hI;obtain⟨i,A,n,c,zq,kr,rfl,hi⟩:=hI;have zg:=Bd.mk g1;have g2:=AO (Dy zq) kr;replace zg:=Bd.mk (AO g1 g2);refine Db ?_;refine Cw λK k1=>?_;refine Ec (λhc=>?_) λhc=>?_
 ·refine Cz ?_;try simp only[Di,Dq]
  have hit:i<n2:=by have:=AT0 ‹decide ((i:Int)<(n2:Int))=τ›;omega
  obtain⟨p,hp⟩:∃p,(JC cs)[i]?=σ p:=⟨_,AQ AL⟩;have hkv:((keys (JC cs)).map (Value.int ζ))[i]?=σ (ε ζ p.1):=by unfold keys;rw[BZ,BZ,hp];rfl
  have htk:((JC cs).map (bwO ⟨h,ow,mo,cs⟩)).take (i+1)=((JC cs).map (bwO ⟨h,ow,mo,cs⟩)).take i++[bwO ⟨h,ow,mo,cs⟩ p]:=by
   rw[Bi,BZ,hp];rfl
  have hpg:Er cs p.1=σ p.2:=by
   rw[<-R_ hnd,<-R8 (Pf hnd).nodup (AU hp)]
  refine k1 _ _ (F8 0 rfl λhlA=>?_);have AHC:n<=1000:=by
   rw[FE,Al,BF]at hlA;omega
  refine EL 3 rfl AL λg F7 hg EX=>?_;subst F7;replace hg:=AAM (AO hg EX);clear EX;refine Rp λhap=>?_;simp only[QH,Nc,Nf,Rn,VG,Ro,Dw,Du,Dz,and_true,AT1,Ae,AT7,Qp]at hap;obtain hap:=hap;refine Cw λK k1=>DK (C9 rfl λK k2=>DD ?_);refine DX (Dx (i:=i) (v:=ε ζ p.1) (.tail _ (.tail _ (.tail _ (.head _)))) rfl hkv) ?_;refine DD (k2 _ _ ?_);refine K3 (JU [1,4,5] (.rd 0 (.rd 1 (.rd 2 (.rd 3 (.rd 4 (.rd 5 (.rd 7 (.rd 8 (.rd 9 (.rd 10 (.rd 11 (.rd 12 (.rd 13 (.rd 14 (.rd 15 (.rd 16 (.more 6 (.act 17 (.rd 18 (.act 19 (.act 20 (.rd 21 (.act 22 (.done))))))) (.act 17 (.act 6 (.rd 18 (.act 19 (.act 20 (.rd 21 (.act 22 (.done))))))))))))))))))))))))) [22] ?_);refine DD ?_;repeat' (first
   |refine AO ?_ ?_
   |(refine DI (λw hw=>PZ h AHB w) ?_;simp -implicitDefEqProofs (disch:=first|omega|decide) only [seval,-Int.reducePow,-Nat.reducePow,cC,pv,D5,EH,undef,Qp,g1,g2])
   |(refine GD Tf rfl rfl (λw hw=>hw.U5 5 rfl) ?_;rw[F5,K4,hpg,Ce];simp -implicitDefEqProofs (disch:=first|omega|decide) only [seval,-Int.reducePow,-Nat.reducePow,cC,pv,D5,EH,undef,Qp,g1,g2]))
  all_goals
   intro bE Qi Tg;refine D6 1 YY rfl (λw hw=>D_ (size:=4) (.head _) rfl hw) rfl AL AL ?_;intro A1 c1 hl1 hr1;refine DD ?_;refine⟨[0,2,3,4,5,6],by decide,?_⟩;simp only[Dl,nth];refine k1 _ _ (Cy rfl (DD ?_));refine⟨⟨i+1,A1,n+1,c1,?_⟩,?_⟩
   ·rw[htk,Iz];refine DU @Af ?_;exact⟨rfl,by omega⟩
   ·exact AXo
 refine Dr (k0 _ _ ?_);have hin:i=n2:=by have:=AUD ‹decide ((i:Int)<(n2:Int))=ο›;omega
 subst hin;rw[Aw AWl];refine Db ?_;refine C8 (FF ?_);intro w hw;have h9:=hw.pick (ix:=[0,4,5]) AJ;simp only[Dl,nth]at h9;exact⟨⟨h,ow,A,n,c,(JC cs).map (bwO ⟨h,ow,mo,cs⟩)⟩,rfl,rfl,h9⟩
theorem K5{α:Type}{f:α->List Value}{s:Nat}(hf:∀a,(f a).length=s):∀ {l:List α} {i:Nat} {a:α},l[i]?=σ a->((l.flatMap f).drop (i*s)).take s=f a
 |[],i,a,h=>by simp at h
 | x::l,0,a,h=>by
  have h:x=a:=by simpa using h
  subst h;rw[ASN,Aq,BK,List.take_append_of_le_length (by rw[hf];exact Ay _),Aw (by rw[hf];exact Ay _)]
 | x::l,i+1,a,h=>by
  have h:l[i]?=σ a:=by simpa using h
  rw[BK,show (i+1)*s=s+i*s by rw[ASh,AUP],List.drop_append,Br (by rw[hf];omega),hf,Nat.add_sub_cancel_left,AR];exact K5 hf h
theorem GN{α:Type}{f:α->List Value}{s}(hf:∀a,(f a).length=s)(l:List α):(l.flatMap f).length=l.length*s:=by
 induction l with
 |nil=>simp
 |cons x l ih=>rw[BK,Ag,hf,ih,Av,ASh,AUP]
def Eh(es:List Gs):List Value:=es.flatMap oK
def H7(os:List RO):List Value:=os.flatMap roc
theorem H8 e:(oK e).length=5:=rfl
theorem QN o:(roc o).length=6:=rfl
theorem Zx l o:H7 (l++[o])=H7 l++[ε υ (o.h:Int),ε ζ o.ow,ε ζ 0,ε ζ 0,ξ ν 0 0,ξ o.A o.n o.c]:=by simp[H7,roc]
theorem Yv:∀(l:List Gs) (s:HS) (e:Gs),Lb s (l++[e])=(Lb s l).bind λs'=>Jk s' e
 | [],s,e=>by
  simp only[AR,Lb];show _=Jk s e;cases Jk s e<;>rfl
 | x::l,s,e=>by
  simp only[Ad,Lb];cases Jk s x with
  |none=>rfl
  |some s'=>exact Yv l s' e
theorem Yw:∀(l r:List Gs) (s:HS),Lb s l=ν->Lb s (l++r)=ν
 |[],r,s,h=>by cases h
 | x::l,r,s,h=>by
  simp only[Ad,Lb]at h ⊢;cases hs:Jk s x with
  |none=>rfl
  | some s' =>
   rw[hs]at h;exact Yw l r s' h
def hs0:HS:=⟨[],[]⟩
theorem oV:Nr 0 hs0:=⟨by simp[hs0,keys],by simp[hs0],λq hq=>by simp[hs0]at hq,λp hp=>by simp[hs0,alive,Er]at hp⟩
def ABl(s:HS):List RP:=(JC s.os).map λq=>ry q.2
structure r9 where
 A:Option Addr
 n:Nat
 c:Nat
 Le:List RO
 err:Int
def fJ(i:r9):Value:=.tuple #[ξ i.A i.n i.c,ε ζ i.err]
def AEi(i:r9):List DW:=.row (ξ i.A i.n i.c) 41 6 i.n (H7 i.Le)::i.Le.map KN
def xm(o:Option HS):List RP×Int:=match o with
 |none=>([],28)
 |some s=>(ABl s,0)
structure ADU(es:List Gs)(i:r9):Prop where
 Le:i.Le.map RO.pl=(xm (Lb hs0 es)).1
 err:i.err=(xm (Lb hs0 es)).2
theorem xq{r:DW}{B C R O} : (C++((R++[r])++(B++O))).Perm ((r::B)++(C++(R++O))):=by
 have h:(C++R++((r::B)++O)).Perm ((r::B)++(C++R++O)):=CS _ _ _;simpa [Bh]using h
theorem xu{α β:Type}(f:α->β)l:JC (Em f l)=Em f (JC l):=by
 have key:∀ks:List Int,(ks.filterMap λk=>(Er (Em f l) k).map λv=>(k,v))=Em f (ks.filterMap λk=>(Er l k).map λv=>(k,v)):=by
  intro ks
  induction ks with
  |nil=>rfl
  | cons k ks ih =>
   rw[ASk,ASk,Ka];cases Er l k with
   |none=>exact ih
   | some v =>
    simp only[Cr];rw[ih];rfl
 unfold JC;rw[Nq];exact key _
theorem St.lookW{W w L b}(hw:St [] W L w)(hb:b<W.heap.size):look L b=ν:=by
 cases h:look L b with
 |none=>rfl
 | some cs =>
  obtain⟨t,ht⟩:=NY h;have:=(hw.own _ ht b AUp).1;simp at this;omega
theorem St.AHD{M W w a r b c d T}(hw:St M W (a::r::b::c::d::T) w){g}(hg:g∈r.foot):look T g=ν:=by
 cases h:look T g with
 |none=>rfl
 | some cs =>
  obtain⟨t,ht⟩:=NY h;have h1:=(Ak.1 hw.apart).2;exact absurd (show g∈(DW.blk g t cs).foot by simp[DW.foot]) ((Ak.1 h1).1 _ (by simp[ht]) g hg)
theorem Uh A n c es W(hE:Sl W W.heap.size 5 A n c (Eh es))(hok:∀e∈es,e.ok)(hn:n<=1000):
  Calls AGm 10 #[ξ A n c] W
  λen w' => ∃i:r9,en=κ (fJ i)/\ADU es i/\St [] W (AEi i) w':=by
 have hlen:es.length=n:=by
  have:=hE.len;unfold Eh at this;rw[GN H8]at this;omega
 refine DL (M:=[]) Tryz.func10 [.tmp 2,.tmp 3] (St.nil _ _) ?_;have zs:=Bd.mk Qp;refine DZ ?_;refine C9 rfl λK k0=>DR ?_;refine Zr λb1 hb1 hf1=>DR ?_;refine Zr λb2 hb2 hf2=>DR ?_;intro bS hbS;refine k0 _ _ (Cw λK k0=>DZ ?_);refine DC [4,14,15,16] λG1 g1=>?_;replace g1:=EK g1;refine DY [0,2,1] ?_;refine Ye (L':=hsL ⟨bS,b1,b2,[],[]⟩) rfl (DK ?_);refine Dv (λF' L' => ∃(i:Nat)(x:MW),EH F' G1 [4,14,15]/\F' 16=ε ζ (i:Int)/\L'=hsL x/\(i<=n/\x.bS=bS)/\Nr i x.pl/\Lb hs0 (es.take i)=σ x.pl) (λF' L'=>2000-(intOf (F' 16)).toNat) ?_ ?_
 ·refine⟨0,⟨bS,b1,b2,[],[]⟩,?_⟩;have zg:=Bd.mk g1;refine DD ?_;exact⟨by omega,oV,rfl⟩
 intro G2 L' hI;obtain⟨i,x,zq,ku,rfl,⟨⟨hi,hxb⟩,hI,hrun⟩⟩:=hI;have zg:=Bd.mk g1;have g2:=AO (Dy zq) ku;replace zg:=Bd.mk (AO g1 g2);refine Db ?_;refine Cw λK k1=>?_;refine Ec (λhc=>?_) λhc=>?_
 ·refine Cz ?_;try simp only[Di,Dq]
  have hit:i<n:=by have:=AT0 ‹decide ((i:Int)<(n:Int))=τ›;omega
  obtain⟨e,he⟩:∃e,es[i]?=σ e:=⟨_,AQ AL⟩;have heo:=hok e (AU he);obtain⟨bA,oA,rfl,Oz,-⟩:=hE.cells AL;have hld:=K5 H8 he;have htk:es.take (i+1)=es.take i++[e]:=by rw[Bi,he];rfl
  refine k1 _ _ (IW (look (hsL x) bA=ν) (λw hw=>hw.lookW Oz) λhlk=>?_);subst hxb;refine Cw λK k1=>DK (C9 rfl λK k2=>DU hlk ?_);refine DX (hE.ld (i:=i*5) (vs:=oK e) AL AF hld) ?_;refine DU hld ?_;intro b6 hb6 jm;refine⟨rfl,rfl,?_⟩;refine k2 _ _ (DC [4,6,14,15,16] λG3 g3=>?_);replace g3:=Dy g3;have hrs:Lb hs0 (es.take (i+1))=Jk x.pl e:=by rw[htk,Yv,hrun];rfl
  refine C9 rfl λK k2=>?_;replace zg:=Bd.mk (AO g1 (AO g2 g3));refine DU @oK.eq_1 ?_;refine Jl [.blk b6 49 (oK e)] (hsL x) (CF _) Q5 X5 _ (λw hw=>kZ x e i hI AL heo w hw) ?_;rintro⟨r,y⟩ hy;refine DU @Q5.eq_1 (k2 _ _ ?_);refine C_ ?_;cases r with
  | false =>
   have hsn:Jk x.pl e=ν:=by have:=hy.res;cases h:Jk x.pl e with
    |none=>rfl
    |some s=>rw[h]at this;cases this
   refine DD ?_;refine Db ?_;refine FB 41 6 (C8 (EP λw hw=>?_));refine⟨⟨ν,0,0,[],28⟩,rfl,⟨?_,?_⟩,hw.sub (.cons_cons _ (AIE _))⟩;all_goals
    have hnn:Lb hs0 es=ν:=by
     rw[<-List.take_append_drop (i+1) es];exact Yw _ _ _ (hrs.trans hsn)
    rw[hnn];rfl
  | true =>
   obtain⟨s',hs'⟩:∃s',Jk x.pl e=σ s':=by
    have:=hy.res;cases h:Jk x.pl e with
    |none=>rw[h]at this;cases this
    |some s=>exact⟨s,rfl⟩
   have hyp:=hy.st s' hs';have hyb:=hy.bS;dsimp only at hyp hyb;refine DD ?_;refine Cz (k1 _ _ (Eo (hsL y) (λw hw=>hw.sub (Az _ _)) (Cy rfl (DD ?_))));refine⟨⟨i+1,y,?_⟩,?_⟩
   ·refine DU @Af ?_;refine⟨⟨by omega,hyb⟩,?_,?_⟩
    ·rw[hyp];exact hI.step heo hs'
    ·rw[hrs,hs',hyp]
   ·exact AXo
 refine Dr (k0 _ _ ?_);have hin:i=n:=by have:=AUD ‹decide ((i:Int)<(n:Int))=ο›;omega
 subst hin;rw[Aw AL]at hrun;clear hE hi;refine Db ?_;obtain⟨bS',b1,b2,sd,os⟩:=x;dsimp only at hxb;subst hxb;have hnd:(keys os).Nodup:=by have:=hI.nd;unfold MW.pl at this;rw[Nq]at this;exact this
 have hol:os.length<=i:=by have:=hI.len;unfold MW.pl at this;rw[Pb]at this;exact this
 have U7:∀q∈os,Zt i (q.1,q.2.o):=λq hq=>hI.obj _ (BL.2 ⟨q,hq,rfl⟩);have hks:∀y∈keys os,(Lit.int ζ y).wf=τ:=λy hy=>by
  obtain⟨p,hp,rfl⟩:=BL.1 hy;have h1:=(U7 p hp).slot;simp only at h1;have:De p.2.o.h<16777216:=ASo _ AL;exact xk AL
 refine Ye (L':=.blk bS' 107 [.map (σ b1),.map (σ b2)]::JS b1 (Em Value.bool sd)::JS b2 (Em NS os)::JK os) rfl (DC [4,7] λG4 g4=>?_);replace g4:=Dy g4;refine Cw λK k0=>C9 rfl λK k1=>?_;replace zg:=Bd.mk (AO g1 (AO g2 g4));refine DD ?_;refine Yu (f:=λb=>.func (.func 47) #[] #[π (σ ⟨b,0,ν⟩)]) (t:=105) (cs:=[.map (σ b2)]) (λw hw=>kg (σ b2) w) ?_;intro bk hbk hfk;refine DD ?_;refine D9 (λA n c=>ξ A n c) (λw hw=>(U8 bk b2 (keys os) w (by rw[hw.Gd (.head _)];rfl) (hw.own _ (.head _) bk AUp).2 (by have:=(hw.U5 3 rfl).ks;rw[Nq]at this;exact this) hks (by unfold keys;rw[BF];omega)).mono λe w' ⟨A,n,c,q1,q2,q3⟩=>⟨A,n,c,q1,q2,q3⟩) ?_;intro A2 n2 c2 hl2 hr2;rw[fG]at hl2 ⊢;refine DD (k1 _ _ ?_);refine DC [4,7,30,31,32] λG5 g5=>?_;replace g5:=Dy g5;have hn2:(JC os).length=n2:=by rw[BF]at hl2;unfold keys at hl2;rw[BF]at hl2;omega
 have hsl:(JC os).length=os.length:=by have:=AT4 CP (MK (l:=os));rw[ATC]at this;unfold keys at this;rw[BF,BF]at this;exact this
 refine FB 41 6 (Eo (.row (ξ ν 0 0) 41 6 0 [] :: .row (ξ A2 n2 c2) 3 1 n2 ((keys (JC os)).map (Value.int ζ)) :: .blk bS' 107 [.map (σ b1),.map (σ b2)]::JS b1 (Em Value.bool sd)::JS b2 (Em NS os)::JK os) (λw hw=>hw.sub (.cons_cons _ (.cons_cons _ (.cons _ (BB _))))) (DK ?_));refine Dv (λF' L' => ∃(j:Nat)(A:Option Addr)(n c:Nat)(Le:List RO),EH F' G5 [4,30,31]/\F' 7=ξ A n c/\F' 32=ε ζ (j:Int)/\L'=.row (ξ A n c) 41 6 n (H7 Le) :: .row (ξ A2 n2 c2) 3 1 n2 ((keys (JC os)).map (Value.int ζ)) :: .blk bS' 107 [.map (σ b1),.map (σ b2)]::JS b1 (Em Value.bool sd)::JS b2 (Em NS os)::(Le.map KN++JK os)/\j<=n2/\Le.map RO.pl=((JC os).take j).map λq=>ry q.2.o) (λF' L'=>2000-(intOf (F' 32)).toNat) ?_ ?_
 ·refine⟨0,ν,0,0,[],?_⟩;replace zg:=Bd.mk (AO g1 (AO g2 g5));refine DD ?_;exact⟨rfl,by omega⟩
 intro G6 L' hI;obtain⟨j,A,n,c,Le,zq,Pg,AEk,rfl,⟨hj,ABm⟩⟩:=hI;replace zg:=Bd.mk g5;have g6:=AO (Dy zq) (AO Pg AEk);replace zg:=Bd.mk (AO g1 (AO g2 (AO g5 g6)));refine Db ?_;refine Cw λK k1=>?_;refine Ec (λhc=>?_) λhc=>?_
 ·refine Cz ?_;try simp only[Di,Dq]
  have hit:j<n2:=by have:=AT0 ‹decide ((j:Int)<(n2:Int))=τ›;omega
  obtain⟨⟨kk,o⟩,hp⟩:∃p,(JC os)[j]?=σ p:=⟨_,AQ AL⟩;have hkv:((keys (JC os)).map (Value.int ζ))[j]?=σ (ε ζ kk):=by unfold keys;rw[BZ,BZ,hp];rfl
  have hpg:Er os kk=σ o:=by
   have:=R8 (Pf hnd).nodup (AU hp);rw[R_ hnd]at this;exact this
  have AEa:=U7 _ (J4 hpg);refine k1 _ _ (F8 0 rfl λhlA=>?_);have AHC:n<=1000:=by
   unfold H7 at hlA;rw[GN QN]at hlA;have:=AT4 CP ABm;rw[BF,BF,Al]at this;omega
  refine EL 1 rfl AL λg F7 hg EX=>?_;subst F7;replace hg:=AAM (AO hg EX);clear EX;refine Rp λhap=>?_;simp only[QH,Nc,Nf,Rn,VG,Ro,Dw,Du,Dz,and_true,AT1,Ae,AT7,Qp]at hap;obtain hap:=hap;obtain⟨pre,post,kX,-,-,-⟩:=kR hpg;have hPm:∀H:List DW,(OL o++(H++(Le.map KN++JK (pre++post)))).Perm (H++(Le.map KN++JK os)):=λH=>by
   have:=WU (H++Le.map KN) pre post kk o;rw[<-kX]at this;simpa [Bh]using this
  refine IW (look (Le.map KN++JK os) g=ν) (λw hw=>hw.AHD AVB) λhlk=>?_;refine Cw λK k1=>DK (C9 rfl λK k2=>DU hlk ?_);refine DX (Dx (i:=j) (v:=ε ζ kk) (.tail _ (.head _)) rfl hkv) ?_;refine DD (k2 _ _ ?_);refine Eo (OL o++([.row (ξ A n c) 41 6 n (H7 Le),.row (ξ (σ ⟨g,0,ν⟩) n2 c2) 3 1 n2 ((keys (JC os)).map (Value.int ζ)),.blk bS' 107 [.map (σ b1),.map (σ b2)],JS b1 (Em Value.bool sd),JS b2 (Em NS os)]++(Le.map KN++JK (pre++post)))) (λw hw=>hw.perm (hPm _)) ?_;unfold OL;refine EM ?_;refine IW (o.b≠bS') (λw hw=>hw.bNe 0 4 rfl rfl AJ) λhn1=>DJ rfl (DD ?_);refine GD Zv rfl rfl (λw hw=>hw.U5 6 rfl) ?_;rw[F5,hpg,Cr,Ce];refine DD ?_;refine Dh roV (λr:RO=>KN r::OL o) _ (λw hw=>rz o i kk AL AEa w hw) ?_;intro r hr;unfold OL roV;refine DD ?_;intro bE Qi Tg;refine D6 4 ADH rfl (λw hw=>D_ (size:=6) (.head _) rfl hw) rfl AL AL ?_;intro A1 c1 hl1 hr1;refine DD (k1 _ _ ?_);refine Eo (.row (ξ A1 (n+1) c1) 41 6 (n+1) (H7 (Le++[r])) :: .row (ξ (σ ⟨g,0,ν⟩) n2 c2) 3 1 n2 ((keys (JC os)).map (Value.int ζ)) :: .blk bS' 107 [.map (σ b1),.map (σ b2)]::JS b1 (Em Value.bool sd)::JS b2 (Em NS os)::((Le++[r]).map KN++JK os)) (λw hw=>?_) ?_
  ·have h1:=hw.sub (.cons_cons _ (.cons _ (BB _)));rw[Zx];refine h1.perm (.cons _ ?_);have h2:=QM pre post kk o;rw[<-kX]at h2;have h3:=Cc [.row (ξ (σ ⟨g,0,ν⟩) n2 c2) 3 1 n2 ((keys (JC os)).map (Value.int ζ)),.blk bS' 107 [.map (σ b1),.map (σ b2)],JS b1 (Em Value.bool sd),JS b2 (Em NS os)] (Cc (Le.map KN++[KN r]) h2.symm);rw[Bj];exact h3.trans xq
  refine Cy rfl (DD ?_);refine⟨⟨j+1,A1,n+1,c1,Le++[r],?_⟩,?_⟩
  ·refine DU @Af ?_;refine⟨by omega,?_⟩;rw[Bj,ABm,Bi,hp];simp[hr]
  ·exact AXo
 refine Dr (k0 _ _ ?_);have hjn:j=n2:=by have:=AUD ‹decide ((j:Int)<(n2:Int))=ο›;omega
 subst hjn;rw[Aw AL]at ABm;refine Db ?_;refine C8 (EP λw hw=>?_);refine⟨⟨A,n,c,Le,0⟩,rfl,⟨?_,?_⟩,?_⟩
 ·rw[hrun];show Le.map RO.pl=(JC (Em Jr.o os)).map λq=>ry q.2;rw[ABm,xu];simp[Em]
 ·rw[hrun];rfl
 ·refine hw.sub (.cons_cons _ (.cons _ (.cons _ (.cons _ (.cons _ (Az _ _))))))
theorem FW b:(oU b).length=4:=rfl
theorem Sl.cell1{w B b off v}(hc:w.cell? ⟨b,off,ν⟩=σ v)(hb:b<B):Sl w B 1 (σ ⟨b,off,ν⟩) 1 1 [v] :=
 ⟨rfl,Ay _,by omega,λ_=>⟨b,off,rfl,hb,λi u hi=>by
  cases i with
  | zero =>
   have:v=u:=by simpa using hi
   subst this;exact hc
  |succ i=>simp at hi⟩⟩
structure TK(w:World)(B b off:Nat)(A:Option Addr)(n c:Nat)(l:List Bw):Prop where
 cell:Sl w B 1 (σ ⟨b,off,ν⟩) 1 1 [ξ A n c]
 row:Sl w B 4 A n c (EN l)
 max:n<=100000
theorem TK.at{W w L b off A n c l}(h:TK W W.heap.size b off A n c l)(hw:St [] W L w):TK w w.heap.size b off A n c l:=⟨h.cell.at hw,h.row.at hw,h.max⟩
theorem TK.len{w B b off A n c l}(h:TK w B b off A n c l):l.length=n:=by have:=h.row.len;rw[FE]at this;omega
theorem TK.lt{w B b off A n c l}(h:TK w B b off A n c l):b<B:=by
 obtain⟨b',off',e,hb,-⟩:=h.cell.cells AL;cases e;exact hb
def NT(l:List Bw)(ob:Int):List Bw:=l.filter λb=>decide (b.ob=ob)
def IX(l:List Bw)(ho:Int):Nat:=(l.filter λb=>decide (b.ho=ho)).length
def fK(ob ho:Int)(b:Bw):Bool:=decide (b.ob=ob)&&decide (b.ho=ho)
def K6(l:List Bw)(ob ho:Int):List Bw:=l.filter λb => !fK ob ho b
def holdB(l:List Bw)(ob ho:Int):Option Bw:=l.find? (fK ob ho)
def xw(b:Bw):Value:=.agg #[ε ζ b.ob,ε ζ b.ho,ε ζ b.mo,ε ζ b.co]
theorem Gi{α:Type}{f:α->List Value}{s}(hf:∀a,(f a).length=s){l:List α}{i k a}(h:l[i]?=σ a)(hk:k<s):(l.flatMap f)[i*s+k]?=(f a)[k]? := by
 have h1:=AT4 (λx:List Value=>x[k]?) (K5 hf h);simp only[Bu,ASG,hk,ATx]at h1;exact h1
theorem Il{α:Type}{l:List α}{i a}(h:l[i]?=σ a)p:(l.take (i+1)).filter p=(l.take i).filter p++(if p a=τ then [a] else []):=by
 rw[Bi,h,ASJ];simp[Cv]
def FR:=AO (AO @Ac @DT) (AO @KM @cM)
theorem VL{W b off A n c l}(h:TK W W.heap.size b off A n c l)ob:
  Calls AGm 64 #[π (σ ⟨b,off,ν⟩),ε ζ ob] W (rowP 117 4 (λv=>v) (EN (NT l ob)) W):=by
 have hlen:=h.len;have hmax:=h.max;refine DL (M:=[]) Tryz.func64 [.tmp 4] (St.nil _ _) ?_;have zs:=Bd.mk FR;refine DZ ?_;refine DZ ?_;refine Cw λK k0=>DZ ?_;refine DC [0,1,5,6] λG1 g1=>?_;replace g1:=EK g1;refine FB 117 4 (DK ?_);refine Dv (λF' L' => ∃(i:Nat)(A1:Option Addr)(n1 c1:Nat),EH F' G1 [0,1]/\F' 5=ξ A1 n1 c1/\F' 6=ε ζ (i:Int)/\L'=[.row (ξ A1 n1 c1) 117 4 n1 (EN (NT (l.take i) ob))]/\i<=n) (λF' L'=>200000-(intOf (F' 6)).toNat) ?_ ?_
 ·exact AVG
 intro G2 L' hI;obtain⟨i,A1,n1,c1,zq,Mq,Ms,rfl,hi⟩:=hI;have zg:=Bd.mk g1;have g2:=AO (Dy zq) (AO Mq Ms);refine Cw λK k1=>C9 rfl λK k2=>?_;replace zg:=Bd.mk (AO g1 g2);refine DD ?_;refine DX (h.cell.ld1 (m:=1) (i:=0) AF rfl) ?_;refine DD (k2 _ _ ?_);refine Ec (λhc=>?_) λhc=>?_
 ·refine Cz ?_;try simp only[Di,Dq]
  have hit:i<n:=by have:=AT0 ‹decide ((i:Int)<(n:Int))=τ›;omega
  obtain⟨e,he⟩:∃e,l[i]?=σ e:=⟨_,AQ AL⟩;have hld:=K5 FW he;have hfs:=Il he (λb=>decide (b.ob=ob));have hrow:=h.row;obtain⟨bA,oA,rfl,Oz,-⟩:=hrow.cells AL;refine k1 _ _ (F8 0 rfl λhlA=>?_);have hn1:n1<=100000:=by
   rw[FE]at hlA;have h1:(NT (l.take i) ob).length<=(l.take i).length:=Ap _ _;rw[Al]at h1;omega
  refine Cw λK k1=>DK (C9 rfl λK k2=>DD ?_);refine DX (h.cell.ld1 (m:=1) (i:=0) AF rfl) ?_;refine DD ?_;refine DX (hrow.ld1 (m:=1) (i:=i*4+0) AF (Gi FW he AL)) ?_;refine DD (k2 _ _ ?_);refine C_ ?_;by_cases he1:e.ob=ob
  ·have hof:NT (l.take (i+1)) ob=NT (l.take i) ob++[e]:=by unfold NT;rw[hfs];simp[he1]
   refine DU he1 ?_;refine ED [0] AJ (DJ rfl (DD ?_));refine DX (h.cell.ld1 (m:=1) (i:=0) AF rfl) ?_;refine DD ?_;refine DX (hrow.ld (i:=i*4) (vs:=oU e) AL AF hld) ?_;refine DD ?_;simp only[oU,Av,Bf,AT1];refine DD ?_;intro bE Qi;exact AWu
  ·have hof:NT (l.take (i+1)) ob=NT (l.take i) ob:=by unfold NT;rw[hfs];simp[he1]
   refine DU he1 ?_;exact AWv
 refine Dr (k0 _ _ ?_);have hin:i=n:=by have:=AUD ‹decide ((i:Int)<(n:Int))=ο›;omega
 subst hin;rw[Aw AL];refine Db ?_;refine C8 (EP λw hw=>?_);exact⟨A1,n1,c1,rfl,Kz (hw.holds _ (.head _)) (hw.own _ (.head _)),hw.below⟩
theorem L8{W b off A n c l}(h:TK W W.heap.size b off A n c l)ob ho:
  Calls AGm 212 #[π (σ ⟨b,off,ν⟩),ε ζ ob,ε ζ ho] W (rowP 117 4 (λv=>v) (EN (K6 l ob ho)) W):=by
 have hlen:=h.len;have hmax:=h.max;refine DL (M:=[]) Tryz.func212 [.tmp 6] (St.nil _ _) ?_;have zs:=Bd.mk FR;refine DZ ?_;refine DZ ?_;refine Cw λK k0=>DZ ?_;refine DC [0,1,2,7,8] λG3 g3=>?_;replace g3:=EK g3;refine FB 117 4 (DK ?_);refine Dv (λF' L' => ∃(i:Nat)(A1:Option Addr)(n1 c1:Nat),EH F' G3 [0,1,2]/\F' 7=ξ A1 n1 c1/\F' 8=ε ζ (i:Int)/\L'=[.row (ξ A1 n1 c1) 117 4 n1 (EN (K6 (l.take i) ob ho))]/\i<=n) (λF' L'=>200000-(intOf (F' 8)).toNat) ?_ ?_
 ·refine⟨0,ν,0,0,?_⟩;have zg:=Bd.mk g3;refine DD ?_;exact⟨rfl,Ar _⟩
 intro G4 L' hI;obtain⟨i,A1,n1,c1,zq,Pg,SG,rfl,hi⟩:=hI;have zg:=Bd.mk g3;have g4:=AO (Dy zq) (AO Pg SG);refine Cw λK k1=>C9 rfl λK k2=>?_;replace zg:=Bd.mk (AO g3 g4);refine DD ?_;refine DX (h.cell.ld1 (m:=1) (i:=0) AF rfl) ?_;refine DD (k2 _ _ ?_);refine Ec (λhc=>?_) λhc=>?_
 ·refine Cz ?_;try simp only[Di,Dq]
  have hit:i<n:=by have:=AT0 ‹decide ((i:Int)<(n:Int))=τ›;omega
  obtain⟨e,he⟩:∃e,l[i]?=σ e:=⟨_,AQ AL⟩;have hld:=K5 FW he;have hfs:=Il he (λb => !fK ob ho b);have hrow:=h.row;obtain⟨bA,oA,rfl,Oz,-⟩:=hrow.cells AL;refine k1 _ _ (F8 0 rfl λhlA=>?_);have hn1:n1<=100000:=by
   rw[FE]at hlA;have h1:(K6 (l.take i) ob ho).length<=(l.take i).length:=Ap _ _;rw[Al]at h1;omega
  refine Cw λK k1=>DK (Cw λK k2=>?_);refine Df (λ_ _=>True) (λF' L'=>EH F' G4 [0,1,2,7,8]/\F' 39=θ (!fK ob ho e)/\L'=[.row (ξ A1 n1 c1) 117 4 n1 (EN (K6 (l.take i) ob ho))]) ?_ ?_
  ·exact AUx
  intro G5 L' _ hF;obtain⟨zq,xx,rfl⟩:=hF;have g5:=AO (Dy zq) xx;refine k2 _ _ (C_ ?_);cases hb:fK ob ho e with
  | false =>
   have hof:K6 (l.take (i+1)) ob ho=K6 (l.take i) ob ho++[e]:=by unfold K6;rw[hfs];simp[hb]
   replace zg:=Bd.mk (AO g3 (AO g4 g5));refine DU hb ?_;refine ED [0] AJ (DJ rfl (DD ?_));refine DX (h.cell.ld1 (m:=1) (i:=0) AF rfl) ?_;refine DD ?_;refine DX (hrow.ld (i:=i*4) (vs:=oU e) AL AF hld) ?_;refine DD ?_;simp only[oU,Av,Bf,AT1];refine DD ?_;intro bE Qi;refine D6 1 YY rfl (λw hw=>D_ (size:=4) (.head _) rfl hw) rfl AL AL ?_;intro A2 c2 hl2 hr2;refine DD (k1 _ _ ?_);refine Cy rfl (DD ?_);refine⟨⟨i+1,A2,n1+1,c2,?_⟩,?_⟩
   ·rw[hof,Iz];exact AU0
   ·exact AXo
  | true =>
   have hof:K6 (l.take (i+1)) ob ho=K6 (l.take i) ob ho:=by unfold K6;rw[hfs];simp[hb]
   replace zg:=Bd.mk (AO g3 (AO g4 g5));refine DU hb ?_;refine Cz (k1 _ _ (Cy rfl (DD ?_)));refine⟨⟨i+1,A1,n1,c1,?_⟩,?_⟩
   ·rw[hof];exact AU0
   ·exact AXo
 refine Dr (k0 _ _ ?_);have hin:i=n:=by have:=AUD ‹decide ((i:Int)<(n:Int))=ο›;omega
 subst hin;rw[Aw AL];refine Db ?_;refine C8 (EP λw hw=>?_);exact⟨A1,n1,c1,rfl,Kz (hw.holds _ (.head _)) (hw.own _ (.head _)),hw.below⟩
theorem r_{W b off A n c l}(h:TK W W.heap.size b off A n c l)ho:
  Calls AGm 184 #[π (σ ⟨b,off,ν⟩),ε ζ ho] W λe w'=>e=κ (ε ζ (IX l ho:Int))/\Below W.heap.size W w':=by
 have hlen:=h.len;have hmax:=h.max;refine DL (M:=[]) Tryz.func184 [.tmp 4] (St.nil _ _) ?_;have zs:=Bd.mk FR;refine DZ ?_;refine DZ ?_;refine Cw λK k0=>DZ ?_;refine DC [0,1,5,6] λG6 g6=>?_;replace g6:=EK g6;refine DK ?_;refine Dv (λF' L' => ∃(i:Nat),EH F' G6 [0,1]/\F' 5=ε ζ (IX (l.take i) ho:Int)/\F' 6=ε ζ (i:Int)/\L'=[]/\i<=n) (λF' L'=>200000-(intOf (F' 6)).toNat) ?_ ?_
 ·refine⟨0,?_⟩;have zg:=Bd.mk g6;refine DD ?_;exact⟨rfl,Ar _⟩
 intro G7 L' hI;obtain⟨i,zq,Mq,Ms,rfl,hi⟩:=hI;have zg:=Bd.mk g6;have g7:=AO (Dy zq) (AO Mq Ms);refine Cw λK k1=>C9 rfl λK k2=>?_;replace zg:=Bd.mk (AO g6 g7);refine DD ?_;refine DX (h.cell.ld1 (m:=1) (i:=0) AF rfl) ?_;refine DD (k2 _ _ ?_);refine Ec (λhc=>?_) λhc=>?_
 ·refine Cz ?_;try simp only[Di,Dq]
  have hit:i<n:=by have:=AT0 ‹decide ((i:Int)<(n:Int))=τ›;omega
  obtain⟨e,he⟩:∃e,l[i]?=σ e:=⟨_,AQ AL⟩;have hfs:=Il he (λb=>decide (b.ho=ho));have hrow:=h.row;obtain⟨bA,oA,rfl,Oz,-⟩:=hrow.cells AL;have hn1:IX (l.take i) ho<=100000:=by
   have h1:IX (l.take i) ho<=(l.take i).length:=Ap _ _;rw[Al]at h1;omega
  refine k1 _ _ (Cw λK k1=>DK (C9 rfl λK k2=>DD ?_));refine DX (h.cell.ld1 (m:=1) (i:=0) AF rfl) ?_;refine DD ?_;refine DX (hrow.ld1 (m:=1) (i:=i*4+1) AF (Gi FW he AL)) ?_;refine DD (k2 _ _ ?_);refine C_ ?_;by_cases he1:e.ho=ho
  ·have hof:IX (l.take (i+1)) ho=IX (l.take i) ho+1:=by unfold IX;rw[hfs];simp[he1]
   refine DU he1 ?_;refine DJ rfl (DD (k1 _ _ ?_));refine Cy rfl (DD ?_);exact AXA
  ·have hof:IX (l.take (i+1)) ho=IX (l.take i) ho:=by unfold IX;rw[hfs];simp[he1]
   refine DU he1 ?_;refine Cz (k1 _ _ (Cy rfl (DD ?_)));exact AXA
 refine Dr (k0 _ _ ?_);have hin:i=n:=by have:=AUD ‹decide ((i:Int)<(n:Int))=ο›;omega
 subst hin;have hl:IX (l.take i) ho=IX l ho:=by rw[Aw AL]
 refine KU hl ?_;refine C8 (EP λw hw=>?_);exact⟨rfl,hw.below⟩
def Xn:Bw:=⟨0,0,0,0⟩
def Ph(l:List Bw)(ob ho:Int):Value:=.tuple #[xw ((holdB l ob ho).getD Xn),θ (holdB l ob ho).isSome]
theorem sD{l:List Bw}{p i e}(he:l[i]?=σ e)(hp:(l.take i).find? p=ν)(h:p e=τ):l.find? p=σ e:=by
 have h1:l=l.take i++e::l.drop (i+1):=by
  conv=>lhs;rw[<-List.take_append_drop i l]
  congr 1;rw[BV (Ab.1 he).1];congr 1;have:=(Ab.1 he).2;exact this
 rw[h1,AS8,hp];simp[h]
theorem sF{l:List Bw}{p i e}(he:l[i]?=σ e)(hp:(l.take i).find? p=ν)(h:p e=ο):(l.take (i+1)).find? p=ν:=by
 rw[Bi,he,AS8,hp];simp[h]
theorem Ke{W b off A n c l}(h:TK W W.heap.size b off A n c l)ob ho:
  Calls AGm 228 #[π (σ ⟨b,off,ν⟩),ε ζ ob,ε ζ ho] W λe w'=>e=κ (Ph l ob ho)/\Below W.heap.size W w':=by
 have hlen:=h.len;have hmax:=h.max;have hbW:b<W.heap.size:=h.lt;refine ER (M:=[]) (n:=48) [.cell 6 117,.tmp 7] rfl Tryz.func228 rfl rfl (Am rfl) (St.nil _ _) ?_;refine C9 rfl λK k0=>?_;have zs:=Bd.mk FR;refine DR ?_;intro b6 hb6;refine k0 _ _ (Cw λK k0=>DZ ?_);refine DC [0,1,2,6,8] λG8 g8=>?_;replace g8:=EK g8;refine DK ?_;refine Dv (λF' L' => ∃(i:Nat),EH F' G8 [0,1,2,6]/\F' 8=ε ζ (i:Int)/\L'=[.blk b6 117 [ε ζ 0,ε ζ 0,ε ζ 0,ε ζ 0]]/\i<=n/\(l.take i).find? (fK ob ho)=ν) (λF' L'=>200000-(intOf (F' 8)).toNat) ?_ ?_
 ·exact AWS
 intro G9 L' hI;obtain⟨i,zq,SG,rfl,⟨hi,hfn⟩⟩:=hI;have zg:=Bd.mk g8;have g9:=AO (Dy zq) SG;refine Cw λK k1=>C9 rfl λK k2=>?_;replace zg:=Bd.mk (AO g8 g9);refine DD ?_;refine DX (h.cell.ld1 (m:=1) (i:=0) AF rfl) ?_;refine DD (k2 _ _ ?_);refine Ec (λhc=>?_) λhc=>?_
 ·refine Cz ?_;try simp only[Di,Dq]
  have hit:i<n:=by have:=AT0 ‹decide ((i:Int)<(n:Int))=τ›;omega
  obtain⟨e,he⟩:∃e,l[i]?=σ e:=⟨_,AQ AL⟩;have hld:=K5 FW he;have hrow:=h.row;obtain⟨bA,oA,rfl,Oz,-⟩:=hrow.cells AL;refine k1 _ _ (Cw λK k1=>DK (Cw λK k2=>?_));refine Df (λ_ _=>True) (λF' L'=>EH F' G9 [0,1,2,6,8]/\F' 39=θ (fK ob ho e)/\L'=[.blk b6 117 [ε ζ 0,ε ζ 0,ε ζ 0,ε ζ 0]]) ?_ ?_
  ·exact AUx
  intro Xo L' _ hF;obtain⟨zq,xx,rfl⟩:=hF;have g10:=AO (Dy zq) xx;refine k2 _ _ (C_ ?_);cases hb:fK ob ho e with
  | true =>
   replace zg:=Bd.mk (AO g8 (AO g9 g10));refine DU hb ?_;refine C9 rfl λK k2=>DD ?_;refine DX (h.cell.ld1 (m:=1) (i:=0) AF rfl) ?_;refine DD ?_;refine DX (hrow.ld (i:=i*4) (vs:=oU e) AL AF hld) ?_;refine DD ?_;simp only[oU];refine DD (k2 _ _ ?_);refine C8 (FF ?_);intro w hw;have vw:holdB l ob ho=σ e:=sD he hfn hb;exact⟨by unfold Ph;rw[vw];rfl,hw.below⟩
  | false =>
   replace zg:=Bd.mk (AO g8 (AO g9 g10));refine DU hb ?_;refine Cz (k1 _ _ (Cy rfl (DD ?_)));refine⟨⟨i+1,?_⟩,?_⟩
   ·refine DU @Af ?_;exact⟨by omega,sF he hfn hb⟩
   ·exact AXo
 refine Dr (k0 _ _ ?_);have hin:i=n:=by have:=AUD ‹decide ((i:Int)<(n:Int))=ο›;omega
 subst hin;rw[Aw AL]at hfn;refine Db ?_;refine C8 (FF ?_);intro w hw;have vw:holdB l ob ho=ν:=hfn;exact⟨by unfold Ph;rw[vw];rfl,hw.below⟩
structure M4 where
 A:Option Addr
 n:Nat
 c:Nat
 l:List Bw
theorem TK.of{M W w L b t s0 s1 A n c l}(hw:St M W L w)i j(hi:nth L i=σ (.blk b t [s0,s1,ξ A n c]))(hj:nth L j=σ (.row (ξ A n c) 117 4 n (EN l)))(hl:l.length<=100000):TK w w.heap.size b 2 A n c l:=by
 have hr:=Sl.EJ hw (DN hj);refine⟨Sl.cell1 (by rw[hw.Gd (DN hi)];rfl) (hw.own _ (DN hi) b AUp).2,hr,?_⟩;have:=hr.len;rw[FE]at this;omega
def ltB(a b:Bw):Bool:=decide (a.ob<b.ob)||(decide (a.ob=b.ob)&&decide (a.ho<b.ho))
structure WX(e:Bw)(rest out P Q:List Bw):Prop where
 rest:rest=P++Q
 out:out=P++e::Q
 gt:∀q∈Q,ltB q e=ο
 lt:∀p,P.getLast?=σ p->ltB p e=τ
theorem xy{α:Type}{f:α->List Value}{s}(hf:∀a,(f a).length=s)P Q x y:((P++x::Q).flatMap f).take (P.length*s)++f y++((P++x::Q).flatMap f).drop (P.length*s+s)=(P++y::Q).flatMap f:=by
 have h:=GN hf P;rw[ASS,ASS,List.take_left' h,<-List.drop_drop,List.drop_left' h,BK,BK,List.drop_left' (hf x)];simp[Bh]
theorem fM{α:Type}(P:List α):P=[]∨∃P' p,P=P'++[p]:=(List.eq_nil_or_concat P).imp id λ⟨P',p,h⟩=>⟨P',p,h.trans (List.concat_eq_append ..)⟩
theorem oW{α:Type}P Q(x:α):(P++x::Q)[P.length]?=σ x:=by simp
theorem fO{α:Type}P Q(p x:α):((P++[p])++x::Q)[P.length]?=σ p:=by simp
def ABo(_:M4):Value:=.tuple #[]
theorem sG{l:List Bw}{ob ho p} : K6 (l.filter p) ob ho=l.filter λb=>p b && !fK ob ho b:=by
 unfold K6;rw[AHl];exact ASp λb _=>AIA _ _
def fP(i:(Option Addr×Nat×Nat)×M4):Value:=ξ i.1.1 i.1.2.1 i.1.2.2
def Zy(l:List Bw)(ob:Int)(i:Nat)(b:Bw):Bool := !(decide (b.ob=ob)&&((NT l ob).take i).any λo=>decide (o.ho=b.ho))
end Go.Proofs.YtnkgiaimcpbhkaaGreat
