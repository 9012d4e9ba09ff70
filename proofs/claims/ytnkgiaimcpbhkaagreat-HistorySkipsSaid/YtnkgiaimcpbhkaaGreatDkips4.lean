import Derived.Test.YtnkgiaimcpbhkaaGreatDkips3
import Derived.Test.YtnkgiaimcpbhkaaGreatDkips2
set_option linter.all false
set_option maxRecDepth 100000
set_option maxHeartbeats 4000000
open List renaming length_append→Ag,nil_append→AR,length_take→Al,length→CP
namespace Go.Proofs.YtnkgiaimcpbhkaaGreat
open Tryz renaming prog→AB
open Go.RowKit Go.Shelf
def Qq(l:List Bw)(ob ho:Int)(r:Int)(l':List Bw):Prop:=match holdB l ob ho with
 |none=>r=13
 |some e=>r=0/\(if e.co-1=0 then l'=K6 l ob ho else ∃P Q,WX { e with co:=e.co-1 } (K6 l e.ob e.ho) l' P Q)
def lgV(i:Int×M4):Value:=.int .i64 i.1
theorem Pj{l:List Bw}{ob ho:Int}{e:Bw}(h:holdB l ob ho=some e):e∈l/\e.ob=ob/\e.ho=ho:=by
 have h1:=ASy h;have h2:=List.find?_some h;unfold fK at h2;simp only[Au,AT5]at h2;exact⟨h1,h2⟩
def Oa(l:List Bw)(ob ho mo:Int)(r:Int)(l':List Bw):Prop :=
 if NT l ob≠[]/\(mo=2\/((NT l ob).head?.map Bw.mo)=some 2) then r=14
 else r=0∧∃P Q,WX ⟨ob,ho,mo,((holdB l ob ho).getD Xn).co+1⟩ (K6 l ob ho) l' P Q
def K7:=AO (AO @Ac @DT) (AO @KM (AO @cM @Gh.eq_1))
theorem WX.mem{e:Bw}{rest out P Q:List Bw}(h:WX e rest out P Q)(b:Bw):b∈out↔b=e\/b∈rest:=by
 rw[h.out,h.rest];simp only[AV,AP];constructor
 ·exact AWU
 ·exact AWU
theorem WX.len{e:Bw}{rest out P Q:List Bw}(h:WX e rest out P Q):out.length=rest.length+1:=by
 rw[h.out,h.rest];simp;omega
theorem sH{α:Type}{l:List (Int×α)}(hn:(keys l).Nodup):(JC l).Perm l:=by
 have nd:∀ {l:List (Int×α)},(keys l).Nodup->l.Nodup:=fun {l} h=>(List.pairwise_map.1 h).imp fun {a b} hne he=>hne (AT4 _ he);refine(List.perm_ext_iff_of_nodup (nd (Pf hn).nodup) (nd hn)).2 λq=>?_;constructor
 ·intro hq;have:=R8 (Pf hn).nodup hq;rw[R_ hn]at this;exact J4 this
 ·intro hq;have:=R8 hn hq;rw[<-R_ hn]at this;exact J4 this
theorem WY:∀(Le:List RO) (g:Nat),look (Le.map KN) g=none
 |[],g=>rfl
 |r::Le,g=>WY Le g
def Ui:=AO (AO (AO @Ac @DT) (AO @KM (AO @cM @Ey))) (AO (AO @Ez @E5) (AO @E8 (AO @E9 @WY)))
theorem reads_nil(w:World)(B:Nat):Reads w B 1 none 0 []:=Reads.none_
theorem F6{P:Program}{M:List Nat}{W:World}{L:List DW}{ι:Sort _}{g:FuncId}{args:Array Value}{K:Bool->Value->List DW->Prop}(f:ι->Value)(Lf:ι->List DW)(φ:ι->Prop)
  (h:∀w,St M W L w->Calls P g args w (λe w' => ∃i,e=.returned (f i)/\φ i/\St [] w (Lf i) w'))
  (hK:∀i,φ i->K true (f i) (Lf i++L)):I6 P M W g args L K:=λw hw =>
 Kb L [] f Lf φ (λw h1 _=>h w (by simpa using h1)) hK w (by simpa using hw)
theorem kv{W:World}{A A':Option Addr}{n n' c c':Nat}{bs:List Bw}(h:Sl W W.heap.size 4 A n c (EN bs))(h':Sl W W.heap.size 4 A' n' c' (EN bs))(hn:n<=100000):
  Calls AB 13 #[.slice A n c,.slice A' n' c'] W λe w'=>e=.returned (.bool true)/\Below W.heap.size W w':=by
 have hlen:=h.len;have hlen':=h'.len;rw[FE]at hlen hlen';have hnn:n'=n:=by omega
 subst hnn;refine DL (M:=[]) Tryz.func13 [.tmp 4] (St.nil _ _) ?_;have zs:=Bd.mk Ui;refine DZ ?_;refine Cw λK k0=>DZ ?_;refine C_ (DR ?_);refine Cz (k0 _ _ (Cw λK k0=>DZ ?_));refine DC [0,1,5] λG1 g1=>?_;replace g1:=EK g1;refine DK ?_;refine Dv (λF' L' => ∃(i:Nat),EH F' G1 [0,1]/\F' 5=.int .i64 (i:Int)/\L'=[]/\i<=n') (λF' L'=>200000-(intOf (F' 5)).toNat) ?_ ?_
 ·refine⟨0,?_⟩;have zg:=Bd.mk g1;refine DD ?_;exact Ar _
 intro G2 L' hI;obtain⟨i,zq,Mq,rfl,hi⟩:=hI;have zg:=Bd.mk g1;have g2:=AO (Dy zq) Mq;refine Cw λK k1=>?_;replace zg:=Bd.mk (AO g1 g2);refine Db ?_;refine Ec (λhc=>?_) λhc=>?_
 ·refine Cz ?_;try simp only[Di,Dq]
  have hit:i<n':=by have:=AT0 ‹decide ((i:Int)<(n':Int))=true›;omega
  obtain⟨e,he⟩:∃e,bs[i]?=some e:=⟨_,AQ AL⟩;have hld:=K5 FW he;obtain⟨bA,oA,rfl,Oz,-⟩:=h.cells AL;obtain⟨bA',oA',rfl,AJl,-⟩:=h'.cells AL;refine k1 _ _ (Cw λK k1=>DK (Cw λK k2=>EB [(true,0),(true,1),(true,2),(true,3),(true,4),(true,5),(true,6),(true,7),(true,8)] [] ?_));refine DD ?_;refine DX (h.ld (i:=i*4) (vs:=oU e) AL AF hld) ?_;refine DD ?_;refine DX (h'.ld (i:=i*4) (vs:=oU e) AL AF hld) ?_;refine DD ?_;refine DU @oU.eq_1 (k2 _ _ ?_);exact AWy
 refine Dr (k0 _ _ (Db ?_));refine C8 (EP λw hw=>?_);exact⟨rfl,hw.below⟩
theorem ky{W:World}{a b:RO}(he:a.pl=b.pl)(h:Sl W W.heap.size 4 a.A a.n a.c (EN a.bs))(h':Sl W W.heap.size 4 b.A b.n b.c (EN b.bs))(hn:a.n<=100000):
  Calls AB 25 #[roV a,roV b] W λe w'=>e=.returned (.bool true)/\Below W.heap.size W w':=by
 obtain⟨ah,aw,aA,an,ac,abs⟩:=a;obtain⟨bh,bw,bA,bn,bc,bbs⟩:=b;unfold RO.pl at he;simp only[RP.mk.injEq]at he;obtain⟨rfl,rfl,rfl⟩:=he;dsimp only at h h' hn;refine DL (M:=[]) Tryz.func25 [.tmp 4] (St.nil _ _) ?_;refine C9 rfl λK k0=>?_;have zs:=Bd.mk Ui;refine Ed @roV.eq_1 ?_;intro b2 hb2 b3 hb3 hf3;refine k0 _ _ (C9 rfl λK k0=>DR ?_);refine⟨[],λw hw=>reads_nil w _,λtok xf=>?_⟩;subst xf;refine DR ?_;refine⟨[],λw hw=>reads_nil w _,λtok xf=>?_⟩;subst xf;refine DR ?_;refine DI (λw hw=>kv (h.at hw) (h'.at hw) hn) ?_;try refine DR ?_
 refine k0 _ _ (C8 (Eg λw hw=>?_));exact⟨rfl,hw.below⟩
structure Qj(w:World)(B:Nat)(A:Option Addr)(n c:Nat)(Le:List RO):Prop where
 row:Sl w B 6 A n c (H7 Le)
 bs:∀r∈Le,Sl w B 4 r.A r.n r.c (EN r.bs)
theorem Qj.at{W w:World}{L:List DW}{A:Option Addr}{n c:Nat}{Le:List RO}(h:Qj W W.heap.size A n c Le)(hw:St [] W L w):Qj w w.heap.size A n c Le:=⟨h.row.at hw,λr hr=>(h.bs r hr).at hw⟩
theorem Qj.len{w:World}{B:Nat}{A:Option Addr}{n c:Nat}{Le:List RO}(h:Qj w B A n c Le):Le.length=n:=by
 have:=h.row.len;unfold H7 at this;rw[GN QN]at this;omega
theorem Qj.rn{w:World}{B:Nat}{A:Option Addr}{n c:Nat}{Le:List RO}(h:Qj w B A n c Le){r:RO}(hr:r∈Le):r.bs.length=r.n:=by
 have:=(h.bs r hr).len;rw[FE]at this;omega
theorem k_{W:World}{A A':Option Addr}{n n' c c':Nat}{a b:List RO}(h:Qj W W.heap.size A n c a)(h':Qj W W.heap.size A' n' c' b)(he:a.map RO.pl=b.map RO.pl)(hn:n<=100000)(hb:∀r∈a,r.bs.length<=100000):
  Calls AB 11 #[.slice A n c,.slice A' n' c'] W λe w'=>e=.returned (.bool true)/\Below W.heap.size W w':=by
 have hlen:=h.len;have hlen':=h'.len;have hab:=AT4 CP he;rw[BF,BF]at hab;have hnn:n'=n:=by omega
 subst hnn;refine DL (M:=[]) Tryz.func11 [.tmp 4] (St.nil _ _) ?_;have zs:=Bd.mk Ui;refine DZ ?_;refine Cw λK k0=>DZ ?_;refine C_ (DR ?_);refine Cz (k0 _ _ (Cw λK k0=>DZ ?_));refine DC [0,1,5] λG3 g3=>?_;replace g3:=EK g3;refine DK ?_;refine Dv (λF' L' => ∃(i:Nat),EH F' G3 [0,1]/\F' 5=.int .i64 (i:Int)/\L'=[]/\i<=n') (λF' L'=>200000-(intOf (F' 5)).toNat) ?_ ?_
 ·refine⟨0,?_⟩;have zg:=Bd.mk g3;refine DD ?_;exact Ar _
 intro G4 L' hI;obtain⟨i,zq,Mq,rfl,hi⟩:=hI;have zg:=Bd.mk g3;have g4:=AO (Dy zq) Mq;refine Cw λK k1=>?_;replace zg:=Bd.mk (AO g3 g4);refine Db ?_;refine Ec (λhc=>?_) λhc=>?_
 ·refine Cz ?_;try simp only[Di,Dq]
  have hit:i<n':=by have:=AT0 ‹decide ((i:Int)<(n':Int))=true›;omega
  obtain⟨e,he1⟩:∃e,a[i]?=some e:=⟨_,AQ AL⟩;obtain⟨e',he2⟩:∃e,b[i]?=some e:=⟨_,AQ AL⟩;have MZ:e.pl=e'.pl:=by
   have:=AT4 (λl=>l[i]?) he;simpa [he1,he2]using this
  have hld:=K5 QN he1;have AJm:=K5 QN he2;have hm1:=AU he1;have hm2:=AU he2;have hen:=h.rn hm1;have heb:=hb e hm1;obtain⟨bA,oA,rfl,Oz,-⟩:=h.row.cells AL;obtain⟨bA',oA',rfl,AJl,-⟩:=h'.row.cells AL;refine k1 _ _ (Cw λK k1=>DK (Cw λK k2=>EB [(true,0),(true,1),(true,2),(true,3),(true,4),(true,5),(true,6),(true,7),(false,8),(true,9)] [] ?_));refine DD ?_;refine DX (h.row.ld (i:=i*6) (vs:=roc e) AL AF hld) ?_;refine DD ?_;refine DX (h'.row.ld (i:=i*6) (vs:=roc e') AL AF AJm) ?_;refine DD ?_;refine DI (λw hw=>ky MZ ((h.bs e hm1).at hw) ((h'.bs e' hm2).at hw) AL) (DD (k2 _ _ ?_));exact AWy
 refine Dr (k0 _ _ (Db ?_));refine C8 (EP λw hw=>?_);exact⟨rfl,hw.below⟩
def QO(m:List (Int×Int))(e:Gs):List (Int×Int):=if e.er=0 then m else FY m e.er ((Er m e.er).getD 0+1)
def Q7(es:List Gs):List (Int×Int):=es.foldl QO []
def Q8(es:List Gs)(x:Int):Nat:=(es.filter λe=>decide (e.er=x)).length
theorem QP(es:List Gs)(e:Gs):Q7 (es++[e])=QO (Q7 es) e:=by unfold Q7;rw[List.foldl_append];rfl
theorem sI(es:List Gs)(e:Gs)(x:Int):Q8 (es++[e]) x=Q8 es x+(if e.er=x then 1 else 0):=by
 unfold Q8;rw[ASJ,Ag];by_cases h:e.er=x<;>simp[h]
theorem ABp(es:List Gs)(x:Int):Q8 es x<=es.length:=Ap _ _
theorem fQ{α:Type}{p:List α->Prop}(h0:p [])(h1:∀l a,p l->p (l++[a]))(l:List α):p l:=by
 have:∀n (l:List α),l.length=n->p l:=by
  intro n
  induction n with
  |zero=>intro l hl;rw[Bc hl];exact h0
  | succ n ih =>
   intro l hl;rcases fM l with rfl|⟨l',a,rfl⟩
   ·simp at hl
   ·exact h1 l' a (ih l' (by simpa using hl))
 exact this _ l rfl
theorem xz(es:List Gs):∀x:Int,x≠0->Er (Q7 es) x=if Q8 es x=0 then none else some (Q8 es x:Int):=by
 refine fQ (p:=λes => ∀x:Int,x≠0->Er (Q7 es) x=if Q8 es x=0 then none else some (Q8 es x:Int)) ?_ ?_ es
 ·intro x hx;rfl
 ·intro es e ih x hx;rw[QP,sI];unfold QO;by_cases h0:e.er=0
  ·have hne:¬e.er=x:=λh=>hx (by rw[<-h,h0]);simp only[h0,ATx,hne,ATz,Cg];have hne0:¬(0:Int)=x:=λh=>hx h.symm;simp only[hne0,ATz,Cg];exact ih x hx
  ·rw[ATt h0,MJ,ih _ h0];by_cases h1:x=e.er
   ·subst h1;have hne:¬Q8 es e.er+(if e.er=e.er then 1 else 0)=0:=by simp
    rw[ATv rfl,ATt hne];by_cases h2:Q8 es e.er=0
    ·simp[h2]
    ·simp[h2]
   ·have hne:¬e.er=x:=λh=>h1 h.symm;simp only[h1,hne,ATz,Cg];exact ih x hx
theorem AEl:jl AB 52 (.int .i64 0):=Zu AF
def AEm(b:Nat):Value:=.map (some b)
theorem Zz{W:World}{A:Option Addr}{n c:Nat}{es:List Gs}(hE:Sl W W.heap.size 5 A n c (Eh es))(hn:n<=100000):
  Calls AB 12 #[.slice A n c] W λe w' => ∃b:Nat,e=.returned (AEm b)/\True/\St [] W [JS b (Em (Value.int .i64) (Q7 es))] w':=by
 have hlen:es.length=n:=by
  have:=hE.len;unfold Eh at this;rw[GN H8]at this;omega
 refine DL (M:=[]) Tryz.func12 [.tmp 2] (St.nil _ _) ?_;have zs:=Bd.mk Ui;refine DZ ?_;refine C9 rfl λK k0=>DR ?_;refine Zr λb hb1 hf1=>DR (k0 _ _ ?_);refine Cw λK k0=>DZ ?_;refine DC [3,7,8,9] λG1 g1=>?_;replace g1:=EK g1;refine DK ?_;refine Dv (λF' L' => ∃(i:Nat),EH F' G1 [3,7,8]/\F' 9=.int .i64 (i:Int)/\L'=[JS b (Em (Value.int .i64) (Q7 (es.take i)))]/\i<=n) (λF' L'=>200000-(intOf (F' 9)).toNat) ?_ ?_
 ·refine⟨0,?_⟩;have zg:=Bd.mk g1;refine DD ?_;exact⟨rfl,Ar _⟩
 intro G2 L' hI;obtain⟨i,zq,lC,rfl,hi⟩:=hI;have zg:=Bd.mk g1;have g2:=AO (Dy zq) lC;replace zg:=Bd.mk (AO g1 g2);refine Db ?_;refine Cw λK k1=>?_;refine Ec (λhc=>?_) λhc=>?_
 ·refine Cz ?_;try simp only[Di,Dq]
  have hit:i<n:=by have:=AT0 ‹decide ((i:Int)<(n:Int))=true›;omega
  obtain⟨e,he⟩:∃e,es[i]?=some e:=⟨_,AQ AL⟩;have htk:es.take (i+1)=es.take i++[e]:=by rw[Bi,he];rfl
  have hld:=K5 H8 he;obtain⟨bA,oA,rfl,Oz,-⟩:=hE.cells AL;refine k1 _ _ (Cw λK k1=>DK (C9 rfl λK k2=>DD ?_));refine DX (hE.ld (i:=i*5) (vs:=oK e) AL AF hld) ?_;refine DD ?_;simp only[oK,Av,Bf,AT1];refine DD ?_;intro b5 hb5;refine k2 _ _ (Db ?_);refine C_ ?_;by_cases h1:e.er=0
  ·have hr:Q7 (es.take (i+1))=Q7 (es.take i):=by rw[htk,QP];unfold QO;rw[ATv h1]
   refine DU h1 ?_;refine Cz (k1 _ _ (DY [1] ?_));refine Cy rfl (DD ?_);refine⟨⟨i+1,?_⟩,?_⟩
   ·rw[hr];exact AU0
   ·exact AXo
  ·have hr:Q7 (es.take (i+1))=FY (Q7 (es.take i)) e.er ((Er (Q7 (es.take i)) e.er).getD 0+1):=by rw[htk,QP];unfold QO;rw[ATt h1]
   have hle:=ABp (es.take i) e.er;rw[Al]at hle;have hgd:(Er (Q7 (es.take i)) e.er).getD 0=(Q8 (es.take i) e.er:Int):=by
    rw[xz _ _ h1];by_cases h0:Q8 (es.take i) e.er=0<;>simp[h0]
   have hwr:IntKind.i64.wrap ((Q8 (es.take i) e.er:Int)+1)=(Q8 (es.take i) e.er:Int)+1:=DT AL AL;rw[hgd]at hr;refine DU h1 ?_;refine DJ rfl (DD ?_);refine GD AEl rfl rfl (λw hw=>hw.U5 1 rfl) ?_;rw[F5,K4,hgd];refine DU hwr ?_;refine QK 1 (y:=.int .i64 ((Q8 (es.take i) e.er:Int)+1)) AEl rfl rfl rfl rfl ?_;rw[ML,<-hr];refine DD (k1 _ _ ?_);refine DY [1] ?_;refine Cy rfl (DD ?_);refine⟨⟨i+1,?_⟩,?_⟩
   ·exact AU0
   ·exact AXo
 refine Dr (k0 _ _ ?_);have hin:i=n:=by have:=AUD ‹decide ((i:Int)<(n:Int))=false›;omega
 subst hin;have hfull:es.take i=es:=Aw AL;refine Db ?_;refine C8 (EP λw hw=>?_);rw[hfull]at hw;exact⟨b,rfl,trivial,hw⟩
def lD(p:Int)(e:Gs):Bool:=decide (e.pl=p) && !decide (e.op=32) && !decide (e.op=33)
def SH(es:List Gs)(p:Int):Nat:=(es.filter (lD p)).length
theorem U_{α:Type}{l:List α}{i:Nat}{a:α}(h:l[i]?=some a)(p:α->Bool):((l.take (i+1)).filter p).length=((l.take i).filter p).length+if p a=true then 1 else 0:=by
 rw[Il h,Ag];split<;>rfl
theorem WZ{α:Type}(l:List α)(i:Nat)(p:α->Bool):((l.take i).filter p).length<=i:=by
 have h1:=Ap p (l.take i);have h2:=List.length_take_le i l;omega
theorem fT:∀(es:List Gs) (s0 s:HS) (k:Nat),Nr k s0->(∀e∈es,e.ok)->Lb s0 es=some s->Nr (k+es.length) s
 | [],s0,s,k,h,_,hs=>by
  cases hs;exact h
 | e::es,s0,s,k,h,hok,hs=>by
  simp only[Lb]at hs;split at hs
  ·cases hs
  ·rename_i s1 h1;have:=fT es s1 s (k+1) (h.step (hok e (.head _)) h1) (λe he=>hok e (.tail _ he)) hs;rw[Av,show k+(es.length+1)=k+1+es.length by omega];exact this
theorem fU{α:Type}(l:List (Int×α)):(JC l).length=l.length:=by
 have:=AT4 CP (MK (l:=l));rw[ATC]at this;unfold keys at this;rw[BF,BF]at this;exact this
theorem ABq{es:List Gs}{rps:List RP}(hok:∀e∈es,e.ok)(h:(xm (Lb hs0 es)).1=rps):rps.length<=es.length∧∀r∈rps,r.bs.length<=es.length:=by
 subst h;cases hs:Lb hs0 es with
 |none=>exact⟨Ar _,λr hr=>by cases hr⟩
 | some s =>
  have hI:=fT es hs0 s 0 oV hok hs;rw[Ao]at hI;show (ABl s).length<=_/\_;refine⟨?_,λr hr=>?_⟩
  ·unfold ABl;rw[BF,fU];exact hI.len
  ·obtain⟨q,hq,rfl⟩:=BL.1 hr;unfold ry;simp only[BF,fU];exact(hI.obj q ((sH hI.nd).mem_iff.1 hq)).cl
section
variable{M:List Nat}{W w:World}{L:List DW}
theorem Sl.Z0(hw:St M W L w)(i:Nat){b:Nat}{t:TypeId}{cs:List Value}(hi:nth L i=some (.blk b t cs))(off:Nat)(vs:List Value)(hk:(cs.drop off).take vs.length=vs)(hm:vs.length<=1000):Sl w w.heap.size 1 (some ⟨b,off,none⟩) vs.length vs.length vs :=
 ⟨by omega,Ay _,by omega,λh0=>⟨b,off,rfl,(hw.own _ (DN hi) b AUp).2,λj u hu=>by
  rw[hw.Gd (DN hi)];have hlt:=(Ab.1 hu).1;rw[<-hk,Bu,ATv hlt,ASG]at hu;exact hu⟩⟩
end
theorem Sl.lt{w:World}{B b off size n c:Nat}{xs:List Value}(h:Sl w B size (some ⟨b,off,none⟩) n c xs)(hn:0<n):b<B:=by
 obtain⟨b',off',e,hb,-⟩:=h.cells hn;cases e;exact hb
def SI(e:Gs):Bool := !decide (e.op=32) && !decide (e.op=33)
def Qk(e:Gs):Int:=if e.pl<1\/64<e.pl\/e.er<0\/29<e.er then 1 else if (e.op<1\/11<e.op)∧¬e.op=32∧¬e.op=33 then 1 else 0
theorem ABr(p:Int)(e:Gs):lD p e=(decide (e.pl=p)&&SI e):=by unfold lD SI;rw[Bool.and_assoc]
structure Ti(w:World)(B b off:Nat)(cap:Int)(ms:Value)(A:Option Addr)(n c:Nat)(es:List Gs):Prop where
 cell:Sl w B 1 (some ⟨b,off,none⟩) 3 3 [.int .i64 cap,.slice A n c,ms]
 row:Sl w B 5 A n c (Eh es)
 max:n<=100000
theorem Ti.at{W w:World}{L:List DW}{b off:Nat}{cap:Int}{ms:Value}{A:Option Addr}{n c:Nat}{es:List Gs}(h:Ti W W.heap.size b off cap ms A n c es)(hw:St [] W L w):Ti w w.heap.size b off cap ms A n c es:=⟨h.cell.at hw,h.row.at hw,h.max⟩
theorem Ti.len{w:World}{B b off:Nat}{cap:Int}{ms:Value}{A:Option Addr}{n c:Nat}{es:List Gs}(h:Ti w B b off cap ms A n c es):es.length=n:=by
 have:=h.row.len;unfold Eh at this;rw[GN H8]at this;omega
theorem Pk(e:Gs)(W:World):Calls AB 165 #[U6 e] W λen w'=>en=.returned (.bool (SI e))/\Below W.heap.size W w':=by
 refine DL (M:=[]) Tryz.func165 [.tmp 2] (St.nil _ _) ?_;refine C9 rfl λK k0=>?_;have zs:=Bd.mk K7;refine Ed @U6.eq_1 ?_;intro b1 hb1;refine k0 _ _ (Cw λK k0=>?_);refine Df (λ_ _=>True) (λF' L'=>F' 2=.bool (SI e)/\L'=[Gh b1 e]) ?_ ?_
 ·unfold SI;by_cases h:e.op=32
  ·have d:decide (e.op=32)=true:=AUB h;refine Cy rfl ?_;exact ABS d
  ·refine Cy rfl ?_;exact ABS h
 intro G1 L' _ hF;obtain⟨zq2,rfl⟩:=hF;have g1:=zq2;refine k0 _ _ ?_;have zg:=Bd.mk g1;refine C8 (EP λw hw=>?_);exact⟨rfl,hw.below⟩
theorem SK(e:Gs)(W:World):Calls AB 164 #[U6 e] W λen w'=>en=.returned (.int .i64 (Qk e))/\Below W.heap.size W w':=by
 refine DL (M:=[]) Tryz.func164 [.tmp 2] (St.nil _ _) ?_;refine C9 rfl λK k0=>?_;have zs:=Bd.mk K7;refine Ed @U6.eq_1 ?_;intro b1 hb1;refine k0 _ _ (DC [1] λG2 g2=>?_);replace g2:=EK g2;refine Cw λK k0=>Cw λK k1=>?_;refine Df (λ_ _=>True) (λF' L'=>F' 1=G2 1/\F' 20=.bool (decide (e.pl<1\/64<e.pl\/e.er<0\/29<e.er))/\L'=[Gh b1 e]) ?_ ?_
 ·by_cases h1:e.pl<1
  ·refine Cy rfl ?_;have zg:=Bd.mk g2;refine DU h1 ?_;try simp
  ·by_cases h2:64<e.pl
   ·refine Cy rfl ?_;have zg:=Bd.mk g2;refine DU (AO h1 h2) ?_;try simp
   ·by_cases h3:e.er<0
    ·exact AWF
    ·exact AWF
 intro G3 L' _ hF;obtain⟨fV,AEn,rfl⟩:=hF;have zg:=Bd.mk g2;have g3:=AO (Dy fV) AEn;refine k1 _ _ (C_ ?_);by_cases hc1:e.pl<1\/64<e.pl\/e.er<0\/29<e.er
 ·have d:decide (e.pl<1\/64<e.pl\/e.er<0\/29<e.er)=true:=AUB hc1;have hf:Qk e=1:=by unfold Qk;rw[ATv hc1]
  replace zg:=Bd.mk g3;exact AV4
 have d1:decide (e.pl<1\/64<e.pl\/e.er<0\/29<e.er)=false:=AUC hc1;replace zg:=Bd.mk g3;refine DU d1 ?_;refine Cz (k0 _ _ (Cw λK k0=>Cw λK k1=>?_));refine Df (λ_ _=>True) (λF' L'=>F' 38=.bool (decide ((e.op<1\/11<e.op)∧¬e.op=32∧¬e.op=33))/\L'=[Gh b1 e]) ?_ ?_
 ·by_cases h1:e.op<1
  ·have h32:¬e.op=32:=by omega
   have h33:¬e.op=33:=by omega
   refine Cy rfl (DU (AO h1 (AO h32 h33)) ?_);try simp
  ·by_cases h2:11<e.op
   ·by_cases h32:e.op=32
    ·have d32:decide (e.op=32)=true:=AUB h32;refine Cy rfl (DU (AO h1 (AO h2 d32)) ?_);simp[h32]
    ·refine Cy rfl (DU (AO h1 (AO h2 h32)) ?_);simp[h32]
   ·refine Cy rfl (DU (AO h1 h2) ?_);try simp
 intro G4 L' _ hF;obtain⟨AEo,rfl⟩:=hF;have g4:=AEo;refine k1 _ _ (C_ ?_);by_cases hc2:(e.op<1\/11<e.op)∧¬e.op=32∧¬e.op=33
 ·have d:decide ((e.op<1\/11<e.op)∧¬e.op=32∧¬e.op=33)=true:=AUB hc2;have hf:Qk e=1:=by unfold Qk;rw[ATt hc1,ATv hc2]
  replace zg:=Bd.mk g4;exact AV4
 have d2:decide ((e.op<1\/11<e.op)∧¬e.op=32∧¬e.op=33)=false:=AUC hc2;have hf:Qk e=0:=by unfold Qk;rw[ATt hc1,ATt hc2]
 replace zg:=Bd.mk g4;refine DU d2 ?_;refine Cz (k0 _ _ (Db ?_));refine C8 (EP λw hw=>?_);exact⟨by rw[hf],hw.below⟩
theorem SL{W:World}{b off:Nat}{cap:Int}{ms:Value}{A:Option Addr}{n c:Nat}{es:List Gs}(h:Ti W W.heap.size b off cap ms A n c es)(p:Int):
  Calls AB 110 #[.pointer (some ⟨b,off,none⟩),.int .i64 p] W λen w'=>en=.returned (.int .i64 (SH es p:Int))/\Below W.heap.size W w':=by
 have hlen:=h.len;have hmax:=h.max;refine DL (M:=[]) Tryz.func110 [.tmp 4] (St.nil _ _) ?_;have zs:=Bd.mk K7;refine DZ ?_;refine DZ ?_;refine Cw λK k0=>DZ ?_;refine DC [0,1,5,6] λG5 g5=>?_;replace g5:=EK g5;refine DK ?_;refine Dv (λF' L' => ∃(i:Nat),EH F' G5 [0,1]/\F' 5=.int .i64 (SH (es.take i) p:Int)/\F' 6=.int .i64 (i:Int)/\L'=[]/\i<=n) (λF' L'=>200000-(intOf (F' 6)).toNat) ?_ ?_
 ·refine⟨0,?_⟩;have zg:=Bd.mk g5;refine DD ?_;exact⟨rfl,Ar _⟩
 intro G6 L' hI;obtain⟨i,zq,Mq,Ms,rfl,hi⟩:=hI;have zg:=Bd.mk g5;have g6:=AO (Dy zq) (AO Mq Ms);refine Cw λK k1=>C9 rfl λK k2=>?_;replace zg:=Bd.mk (AO g5 g6);refine DD ?_;refine DX (h.cell.ld1 (m:=1) (i:=1) AF rfl) ?_;refine DD (k2 _ _ ?_);refine Ec (λhc=>?_) λhc=>?_
 ·refine Cz ?_;try simp only[Di,Dq]
  have hit:i<n:=by have:=AT0 ‹decide ((i:Int)<(n:Int))=true›;omega
  obtain⟨e,he⟩:∃e,es[i]?=some e:=⟨_,AQ AL⟩;have hr1:SH (es.take (i+1)) p=SH (es.take i) p+if lD p e=true then 1 else 0:=U_ he (lD p)
  have hcR:SH (es.take i) p<=i:=WZ ..;have hld:=K5 H8 he;have hrow:=h.row;obtain⟨bA,oA,rfl,Oz,-⟩:=hrow.cells AL;refine k1 _ _ (Cw λK k1=>DK (Cw λK k2=>?_));refine Df (λ_ _=>True) (λF' L'=>EH F' G6 [0,1,5,6]/\F' 35=.bool (lD p e)/\L'=[]) ?_ ?_
  ·rw[ABr];refine Cy rfl (DD ?_);refine DX (h.cell.ld1 (m:=1) (i:=1) AF rfl) ?_;refine DD ?_;refine DX (hrow.ld1 (m:=1) (i:=i*5+0) AF (Gi H8 he AL)) ?_;refine DD ?_;by_cases h1:e.pl=p
   ·have d1:decide (e.pl=p)=true:=AUB h1;refine DU d1 ?_;refine DX (h.cell.ld1 (m:=1) (i:=1) AF rfl) ?_;refine DU d1 ?_;refine DX (hrow.ld (i:=i*5) (vs:=oK e) AL AF hld) ?_;refine DU d1 ?_;refine DI (λw hw=>Pk e w) ?_;exact Yc d1
   ·exact Yc h1
  intro G7 L' _ hF;obtain⟨zq,xh,rfl⟩:=hF;have g7:=AO (Dy zq) xh;refine k2 _ _ (C_ ?_);cases hh:lD p e with
  | true =>
   rw[hh,ATv rfl]at hr1;replace zg:=Bd.mk (AO g5 (AO g6 g7));refine DU hh ?_;refine DJ rfl (DD (k1 _ _ ?_));refine Cy rfl (DD ?_);refine⟨⟨i+1,?_⟩,?_⟩
   ·refine DU (AO hr1 @Af) ?_;omega
   ·exact AXo
  | false =>
   rw[hh,ATt AJ]at hr1;replace zg:=Bd.mk (AO g5 (AO g6 g7));refine DU hh ?_;refine Cz (k1 _ _ (Cy rfl (DD ?_)));refine⟨⟨i+1,?_⟩,?_⟩
   ·refine DU (AO hr1 (AO @Af @Cg)) ?_;omega
   ·exact AXo
 refine Dr (k0 _ _ ?_);have hin:i=n:=by have:=AUD ‹decide ((i:Int)<(n:Int))=false›;omega
 subst hin;have hfull:es.take i=es:=Aw AL;refine KU hfull ?_;refine C8 (EP λw hw=>?_);exact⟨rfl,hw.below⟩
theorem Yx{W:World}{b off:Nat}{cap:Int}{ms:Value}{A:Option Addr}{n c:Nat}{es:List Gs}(h:Ti W W.heap.size b off cap ms A n c es)(p:Int):
  Calls AB 182 #[.pointer (some ⟨b,off,none⟩),.int .i64 p] W λen w'=>en=.returned (.bool (decide ((SH es p:Int)<cap)))/\Below W.heap.size W w':=by
 refine DL (M:=[]) Tryz.func182 [.tmp 4] (St.nil _ _) ?_;have zs:=Bd.mk K7;refine DZ ?_;refine Cw λK k0=>EB [(true,0),(true,1),(true,3),(true,4),(true,5),(true,6),(false,2),(true,7),(true,8)] [] ?_;refine DR ?_;refine DX (h.cell.ld1 (m:=1) (i:=0) AF rfl) ?_;refine DR ?_;refine DI (λw hw=>SL (h.at hw) p) ?_;try refine DR ?_
 refine k0 _ _ (C8 (Eg λw hw=>?_));exact⟨rfl,hw.below⟩
structure Qu where
 qb:Int
 qo:Int
 qr:Int
structure Sh where
 p:Int
 q:Qu
def quc(q:Qu):List Value:=[.int .i64 q.qb,.int .i64 q.qo,.int .i64 q.qr]
def VB(q:Qu):Value:=.agg #[.int .i64 q.qb,.int .i64 q.qo,.int .i64 q.qr]
def shc(s:Sh):List Value:=[.int .i64 s.p,.int .i64 s.q.qb,.int .i64 s.q.qo,.int .i64 s.q.qr]
theorem J5(s:Sh):(shc s).length=4:=rfl
def FC(l:List Sh):List Value:=l.flatMap shc
theorem SN(l:List Sh)(s:Sh):FC (l++[s])=FC l++[.int .i64 s.p,.int .i64 s.q.qb,.int .i64 s.q.qo,.int .i64 s.q.qr]:=by simp[FC,shc]
def Yy(p:Int)(s:Sh):Bool:=decide (s.p=p)
def HZ(l:List Sh)(p:Int):Qu:=match l.find? (Yy p)with
 |some s=>s.q
 |none=>⟨0,0,0⟩
def Wd(l:List Sh)(p:Int)(q:Qu):List Sh:=(l.filter λs => !Yy p s)++[⟨p,q⟩]
structure Qu.ok(q:Qu):Prop where
 b:0<=q.qb/\q.qb<=1099511627776
 o:0<=q.qo/\q.qo<=1099511627776
 r:0<=q.qr/\q.qr<=1099511627776
theorem VM{l:List Sh}(h:∀s∈l,s.q.ok)(p:Int):(HZ l p).ok:=by
 unfold HZ;cases hf:l.find? (Yy p)with
 |none=>exact⟨by simp,by simp,by simp⟩
 |some s=>exact h s (ASy hf)
structure oZ(w:World)(B b off:Nat)(lim:Qu)(A:Option Addr)(n c:Nat)(l:List Sh):Prop where
 cell:Sl w B 1 (some ⟨b,off,none⟩) 4 4 [.int .i64 lim.qb,.int .i64 lim.qo,.int .i64 lim.qr,.slice A n c]
 row:Sl w B 4 A n c (FC l)
 max:n<=100000
theorem oZ.at{W w:World}{L:List DW}{b off:Nat}{lim:Qu}{A:Option Addr}{n c:Nat}{l:List Sh}(h:oZ W W.heap.size b off lim A n c l)(hw:St [] W L w):oZ w w.heap.size b off lim A n c l:=⟨h.cell.at hw,h.row.at hw,h.max⟩
theorem oZ.len{w:World}{B b off:Nat}{lim:Qu}{A:Option Addr}{n c:Nat}{l:List Sh}(h:oZ w B b off lim A n c l):l.length=n:=by
 have:=h.row.len;unfold FC at this;rw[GN J5]at this;omega
theorem lF{α:Type}{l:List α}{p:α->Bool}{i:Nat}{e:α}(he:l[i]?=some e)(hp:(l.take i).find? p=none)(h:p e=true):l.find? p=some e:=by
 have h1:l=l.take i++e::l.drop (i+1):=by
  conv=>lhs;rw[<-List.take_append_drop i l]
  rw[BV (Ab.1 he).1,(Ab.1 he).2]
 rw[h1,AS8,hp];simp[h]
theorem lG{α:Type}{l:List α}{p:α->Bool}{i:Nat}{e:α}(he:l[i]?=some e)(hp:(l.take i).find? p=none)(h:p e=false):(l.take (i+1)).find? p=none:=by
 rw[Bi,he,AS8,hp];simp[h]
theorem SQ{W:World}{b off:Nat}{lim:Qu}{A:Option Addr}{n c:Nat}{l:List Sh}(h:oZ W W.heap.size b off lim A n c l)(p:Int):
  Calls AB 109 #[.pointer (some ⟨b,off,none⟩),.int .i64 p] W λen w'=>en=.returned (VB (HZ l p))/\Below W.heap.size W w':=by
 have hlen:=h.len;have hmax:=h.max;have hbW:b<W.heap.size:=h.cell.lt AL;refine ER (M:=[]) (n:=34) [.cell 4 62] rfl Tryz.func109 rfl rfl (Am rfl) (St.nil _ _) ?_;refine C9 rfl λK k0=>?_;have zs:=Bd.mk K7;refine DR ?_;intro b4 hb4;refine k0 _ _ (Cw λK k0=>DZ ?_);refine DC [0,1,4,5] λG8 g8=>?_;replace g8:=EK g8;refine DK ?_;refine Dv (λF' L' => ∃(i:Nat),EH F' G8 [0,1,4]/\F' 5=.int .i64 (i:Int)/\L'=[.blk b4 62 [.int .i64 0,.int .i64 0,.int .i64 0]]/\i<=n/\(l.take i).find? (Yy p)=none) (λF' L'=>200000-(intOf (F' 5)).toNat) ?_ ?_
 ·exact AWS
 intro G9 L' hI;obtain⟨i,zq,Mq,rfl,⟨hi,hfn⟩⟩:=hI;have zg:=Bd.mk g8;have g9:=AO (Dy zq) Mq;refine Cw λK k1=>C9 rfl λK k2=>?_;replace zg:=Bd.mk (AO g8 g9);refine DD ?_;refine DX (h.cell.ld1 (m:=1) (i:=3) AF rfl) ?_;refine DD (k2 _ _ ?_);refine Ec (λhc=>?_) λhc=>?_
 ·refine Cz ?_;try simp only[Di,Dq]
  have hit:i<n:=by have:=AT0 ‹decide ((i:Int)<(n:Int))=true›;omega
  obtain⟨e,he⟩:∃e,l[i]?=some e:=⟨_,AQ AL⟩;have hld:((FC l).drop (i*4+1)).take 3=quc e.q:=by
   have:=AT4 (List.drop 1) (K5 J5 he);rw[AUY,ATJ]at this;exact this
  have hrow:=h.row;obtain⟨bA,oA,rfl,Oz,-⟩:=hrow.cells AL;refine k1 _ _ (Cw λK k1=>DK (C9 rfl λK k2=>DD ?_));refine DX (h.cell.ld1 (m:=1) (i:=3) AF rfl) ?_;refine DD ?_;refine DX (hrow.ld1 (m:=1) (i:=i*4+0) AF (Gi J5 he AL)) ?_;refine DD (k2 _ _ ?_);refine C_ ?_;by_cases h1:e.p=p
  ·have d1:decide (e.p=p)=true:=AUB h1;have hq:HZ l p=e.q:=by unfold HZ;rw[lF he hfn d1]
   refine DU d1 ?_;refine C9 rfl λK k2=>DD ?_;refine DX (h.cell.ld1 (m:=1) (i:=3) AF rfl) ?_;refine DD ?_;refine DX (hrow.ld (i:=i*4+1) (vs:=quc e.q) AL AF hld) ?_;refine DD ?_;simp only[quc];refine DD (k2 _ _ ?_);refine C8 (FF ?_);intro w hw;rw[hq];exact⟨rfl,hw.below⟩
  ·refine DU h1 ?_;refine Cz (k1 _ _ (Cy rfl (DD ?_)));refine⟨⟨i+1,?_⟩,?_⟩
   ·refine DU @Af ?_;exact⟨by omega,lG he hfn (AUC h1)⟩
   ·exact AXo
 refine Dr (k0 _ _ ?_);have hin:i=n:=by have:=AUD ‹decide ((i:Int)<(n:Int))=false›;omega
 subst hin;rw[Aw AL]at hfn;have hq:HZ l p=⟨0,0,0⟩:=by unfold HZ;rw[hfn]
 refine Db ?_;refine C8 (FF ?_);intro w hw;rw[hq];exact⟨rfl,hw.below⟩
def x_(a b l:Int):Bool:=decide (l<b)||decide (l-b<a)
theorem Oc(a b l:Int)(hb:0<=b/\b<=1099511627776)(hl:0<=l/\l<=9223372036854775807)(W:World):
  Calls AB 235 #[.int .i64 a,.int .i64 b,.int .i64 l] W λen w'=>en=.returned (.bool (x_ a b l))/\Below W.heap.size W w':=by
 refine DL (M:=[]) Tryz.func235 [.tmp 6] (St.nil _ _) ?_;have zs:=Bd.mk K7;refine DZ ?_;refine DC [0,1,2] λXo g10=>?_;replace g10:=EK g10;refine Cw λK k0=>?_;refine Df (λ_ _=>True) (λF' L'=>F' 6=.bool (x_ a b l)/\L'=[]) ?_ ?_
 ·unfold x_;by_cases h:l<b
  ·refine Cy rfl ?_;have zg:=Bd.mk g10;exact Yc h
  ·refine Cy rfl ?_;have zg:=Bd.mk g10;exact Yc h
 intro bQ L' _ hF;obtain⟨Ms,rfl⟩:=hF;have g11:=Ms;refine k0 _ _ ?_;have zg:=Bd.mk g11;refine C8 (EP λw hw=>?_);exact⟨rfl,hw.below⟩
def Tj(lim x q:Qu):Bool:=x_ x.qb q.qb lim.qb||x_ x.qo q.qo lim.qo||x_ x.qr q.qr lim.qr
structure Qu.lim(q:Qu):Prop where
 b:0<=q.qb/\q.qb<=9223372036854775807
 o:0<=q.qo/\q.qo<=9223372036854775807
 r:0<=q.qr/\q.qr<=9223372036854775807
theorem Tk{W:World}{b off:Nat}{lim:Qu}{A:Option Addr}{n c:Nat}{l:List Sh}(h:oZ W W.heap.size b off lim A n c l)(hl:lim.lim)(p:Int)(q:Qu)(hq:q.ok):
  Calls AB 219 #[.pointer (some ⟨b,off,none⟩),.int .i64 p,VB q] W λen w'=>en=.returned (.int .i64 (if Tj lim (HZ l p) q=true then 16 else 0))/\Below W.heap.size W w':=by
 have hbW:b<W.heap.size:=h.cell.lt AL;obtain⟨⟨qb1,qb2⟩,⟨qo1,qo2⟩,⟨qr1,qr2⟩⟩:=hq;obtain⟨lb,lo,lr⟩:=hl;have n1:¬q.qb<0:=by omega
 have n2:¬q.qo<0:=by omega
 have n3:¬q.qr<0:=by omega
 have n4:¬lim.qb<0:=by omega
 have n5:¬lim.qo<0:=by omega
 have n6:¬lim.qr<0:=by omega
 obtain⟨x,hx⟩:∃x,HZ l p=x:=⟨_,rfl⟩;rw[hx];refine DL (M:=[]) Tryz.func219 [.tmp 6] (St.nil _ _) ?_;refine C9 rfl λK k0=>?_;have zs:=Bd.mk K7;refine Ed @VB.eq_1 ?_;intro b5 hb5;refine k0 _ _ (Cw λK k0=>Mo (AO n1 (AO n2 n3)) ?_);refine C_ (DR ?_);refine Cz (k0 _ _ (C9 rfl λK k0=>DR ?_));refine DI (λw hw=>hx▸SQ (h.at hw) p) ?_;try refine Ed @VB.eq_1 ?_
 intro b7 fZ hf7;refine k0 _ _ (DC [0,5,7] λvM g12=>?_);replace g12:=EK g12;refine Cw λK k0=>Cw λK k1=>?_;refine Df (λ_ _=>True) (λF' L'=>F' 81=.bool (Tj lim x q)/\L'=[.blk b7 62 [.int .i64 x.qb,.int .i64 x.qo,.int .i64 x.qr],.blk b5 62 [.int .i64 q.qb,.int .i64 q.qo,.int .i64 q.qr]]) ?_ ?_
 ·unfold Tj;obtain⟨x1,hx1⟩:∃x1,x_ x.qb q.qb lim.qb=x1:=⟨_,rfl⟩;obtain⟨x2,hx2⟩:∃x2,x_ x.qo q.qo lim.qo=x2:=⟨_,rfl⟩;obtain⟨x3,hx3⟩:∃x3,x_ x.qr q.qr lim.qr=x3:=⟨_,rfl⟩;rw[hx1,hx2,hx3];refine EB [(true,0),(true,1),(true,2),(true,3),(true,4),(true,5),(true,6),(true,7),(true,8),(true,9),(true,10),(true,11),(true,12),(true,13),(true,14),(true,15),(true,16),(true,17),(true,18),(true,19),(true,20),(true,21),(true,22),(true,23),(true,24),(true,25),(true,26),(true,27),(true,28),(true,29),(true,30),(true,31),(false,32),(true,33),(true,34),(true,35),(true,36),(true,37),(true,38),(true,39),(true,40),(true,41),(true,42),(true,43),(false,44),(true,45),(true,46),(true,47),(true,48),(true,49),(true,50),(true,51),(true,52),(true,53),(true,54),(true,55),(false,56),(true,57)] [] ?_;have zg:=Bd.mk g12;refine DD ?_;refine DX (h.cell.ld1 (m:=1) (i:=0) AF rfl) ?_;refine DU n4 ?_;refine DX (h.cell.ld1 (m:=1) (i:=1) AF rfl) ?_;refine DU (AO n4 n5) ?_;refine DX (h.cell.ld1 (m:=1) (i:=2) AF rfl) ?_;refine DU (AO n4 (AO n5 n6)) ?_;refine DX (h.cell.ld1 (m:=1) (i:=0) AF rfl) ?_;refine DD ?_;refine DI (λw hw=>hx1▸Oc x.qb q.qb lim.qb ⟨by omega,by omega⟩ lb w) ?_;cases x1 with
  |true=>simp -implicitDefEqProofs (disch:=first|omega|decide) only [seval,-Int.reducePow,-Nat.reducePow,cC,pv,D5,EH,undef,K7,g12]
  | false =>
   refine DD ?_;refine DX (h.cell.ld1 (m:=1) (i:=1) AF rfl) ?_;refine DD ?_;refine DI (λw hw=>hx2▸Oc x.qo q.qo lim.qo ⟨by omega,by omega⟩ lo w) ?_;cases x2 with
   |true=>simp -implicitDefEqProofs (disch:=first|omega|decide) only [seval,-Int.reducePow,-Nat.reducePow,cC,pv,D5,EH,undef,K7,g12]
   | false =>
    refine DD ?_;refine DX (h.cell.ld1 (m:=1) (i:=2) AF rfl) ?_;refine DD ?_;refine DI (λw hw=>hx3▸Oc x.qr q.qr lim.qr ⟨by omega,by omega⟩ lr w) ?_;exact dP
 intro G13 L' _ hF;obtain⟨AJv,rfl⟩:=hF;have g13:=AJv;refine k1 _ _ (C_ ?_);cases hf:Tj lim x q with
 | true =>
  have zg:=Bd.mk g13;refine DU hf ?_;refine Db ?_;refine C8 (EP λw hw=>?_);exact⟨rfl,hw.below⟩
 | false =>
  have zg:=Bd.mk g13;refine DU hf ?_;refine Cz (k0 _ _ (Db ?_));refine C8 (EP λw hw=>?_);exact⟨by rw[hf];rfl,hw.below⟩
section
variable{M:List Nat}{W w:World}{L:List DW}
theorem St.ABu{A:Option Addr}{n c m size:Nat}{t:TypeId}{xs:List Value}(h:St M W (.row (.slice A n c) t size n xs::L) w)(hm:m<=n):St M W (.row (.slice A m c) t size m (xs.take (m*size))::L) w:=by
 have hh:w.ownsRow 0 t size (.slice A n c) n xs:=h.holds _ (.head _);have ho:=h.own _ (.head _);have hap:=(Ak.1 h.apart).1;refine h.tail.add _ ?_ ?_ ?_
 ·obtain⟨hl,hc⟩:=hh;refine⟨by rw[Al,hl,CW (ASc _ hm)],?_⟩;rcases hc with⟨hv,hn⟩|⟨g,cap,cur,hv,h1,h2,h3,h4,h5,h6⟩
  ·refine .inl ⟨?_,by omega⟩;simp only[Value.slice.injEq]at hv ⊢;exact⟨hv.1,by omega,hv.2.2⟩
  ·simp only[Value.slice.injEq]at hv;obtain⟨rfl,-,rfl⟩:=hv;refine .inr ⟨g,_,cur,rfl,h1,h2,BO hm h3,h4,h5,?_⟩;rw[<-h6,List.take_take,CW (ASc _ hm)]
 ·intro b hb;refine ho b ?_;exact AVs
 ·intro s hs b hb;refine hap s hs b ?_;exact AVs
end
def D8(l:List Int):List Value:=l.map (Value.int .i64)
theorem EY(l:List Int):(D8 l).length=l.length:=by simp[D8]
theorem GG{l:List Int}{i:Nat}{v:Int}(h:l[i]?=some v):(D8 l)[i]?=some (.int .i64 v):=by unfold D8;rw[BZ,h];rfl
theorem Ma(l:List Int)(i:Nat)(v:Int):(D8 l).set i (.int .i64 v)=D8 (l.set i v):=by unfold D8;rw[ASO]
theorem Z4(l:List Int):ones (D8 l)=true:=by simp[ones,D8,Value.oneCell']
def K8(l:List Int)(k:Nat):List Int:=(l.set k ((l[l.length-1]?).getD 0)).take (l.length-1)
theorem sJ(l:List Int)(k:Nat):(K8 l k).length=l.length-1:=by unfold K8;rw[Al,List.length_set];omega
structure TkI where
 A:Option Addr
 n:Nat
 c:Nat
def tkV(x:Int)(i:TkI):Value:=.tuple #[.int .i64 x,.slice i.A i.n i.c]
theorem sK{W:World}{A:Option Addr}{n c:Nat}{l:List Int}(h:Sl W W.heap.size 1 A n c (D8 l))(d:Nat)(hd:d<18446744073709551616)(hn:0<n/\n<=100000)(x:Int)(hx:l[d % n]?=some x):
  Calls AB 241 #[.slice A n c,.int .u64 (d:Int)] W
  λen w' => ∃i:TkI,en=.returned (tkV x i)/\i.n=n-1/\St [] W [.row (.slice i.A i.n i.c) 3 1 i.n (D8 (K8 l (d % n)))] w':=by
 have hlen:=h.len;rw[EY]at hlen;have hk:=ASo d hn.1;have hcap:=h.cap;have hmax:=h.max;have hw1:IntKind.u64.wrap (n:Int)=(n:Int):=wrap_u64 AL AL;have hdk:(d:Int) % (n:Int)=((d % n:Nat):Int):=by omega
 obtain⟨k,hkk⟩:∃k,d % n=k:=⟨_,rfl⟩;rw[hkk]at hk hx hdk;rw[hkk];have hn0:¬((n:Int)=0):=by omega
 obtain⟨z,hz⟩:∃z,l[n-1]?=some z:=⟨_,AQ AL⟩;have htk:K8 l k=(l.set k z).take (n-1):=by unfold K8;rw[show l.length=n by omega,hz];rfl
 have ek:IntKind.i64.wrap ((n:Int)-1)=((n-1:Nat):Int):=by rw[DT AL AL];omega
 have o1:=Z4 l;refine DL (M:=[]) Tryz.func241 [.tmp 4,.tmp 5] (St.nil _ _) ?_;have zs:=Bd.mk FR;refine DZ ?_;refine Mo (AO hw1 (AO hn0 hdk)) ?_;obtain⟨bA,oA,rfl,Oz,-⟩:=h.cells AL;refine C9 rfl λK k0=>DR ?_;refine DX (h.ld1 (m:=1) (i:=k) (v:=.int .i64 x) AF (GG hx)) ?_;refine DR (k0 _ _ ?_);refine C9 rfl λK k0=>DR ?_;intro b19 AOP;refine EI 0 GL rfl rfl (λw hw=>(h.at hw).reads) o1 AL AL ?_;intro A8 c8 vN hr8;refine Ed (AO @Ao @AR.{0}) (k0 _ _ ?_);refine DC [6,7,8] λG1 g1=>?_;replace g1:=EK g1;refine TV 0 rfl λAM4 AM5=>EL 0 rfl AL λg F7 hg EX=>?_;subst F7;replace hg:=AAM (AO hg EX);clear EX;have hset:(D8 l).set k (Value.int .i64 z)=D8 (l.set k z):=Ma _ _ _;refine C9 rfl λK k0=>?_;have zg:=Bd.mk g1;refine DU ek ?_;refine DX (Dx (m:=1) (i:=n-1) (v:=.int .i64 z) (DN (k:=0) rfl) rfl (GG hz)) ?_;refine DU ek ?_;refine DX (JB 0 (i:=k) (v:=.int .i64 z) rfl AWk AF rfl rfl) ?_;refine DU (AO hset ek) (k0 _ _ ?_);refine Cw λK k0=>EB [(true,0),(true,1),(true,2),(true,3),(true,4),(true,5),(true,6),(true,7)] [] ?_;refine DU ek (k0 _ _ ?_);have hfin:(D8 (l.set k z)).take ((n-1)*1)=D8 (K8 l k):=by
  rw[htk];unfold D8;rw[<-List.map_take,Ac]
 refine Eo [.row (.slice (some ⟨g,0,none⟩) (n-1) c8) 3 1 (n-1) (D8 (K8 l k))] (λw hw=>hfin▸hw.ABu (m:=n-1) AL) (C8 (EP λw hw=>?_));exact⟨⟨some ⟨g,0,none⟩,n-1,c8⟩,rfl,rfl,hw⟩
def Hf(l:List Bool):List Value:=l.map Value.bool
theorem Kg(l:List Bool):(Hf l).length=l.length:=by simp[Hf]
theorem We{l:List Bool}{i:Nat}{v:Bool}(h:l[i]?=some v):(Hf l)[i]?=some (.bool v):=by unfold Hf;rw[BZ,h];rfl
theorem Wh(l:List Bool)(i:Nat)(v:Bool):(Hf l).set i (.bool v)=Hf (l.set i v):=by unfold Hf;rw[ASO]
theorem Im(l:List Int)(v:Int):D8 (l++[v])=D8 l++[.int .i64 v]:=by simp[D8]
structure X8 where
 sb:Nat
 first:Int
 GA:Option Addr
 gn:Nat
 gc:Nat
 VA:Option Addr
 vn:Nat
 vc:Nat
 FA:Option Addr
 fn:Nat
 fc:Nat
 gone:Int
 gen:List Int
 Fh:List Bool
 Fu:List Int
def Nt(x:X8):List DW:=[.blk x.sb 142 [.int .i64 x.first,.slice x.GA x.gn x.gc,.slice x.VA x.vn x.vc,.slice x.FA x.fn x.fc,.int .i64 x.gone],.row (.slice x.GA x.gn x.gc) 3 1 x.gn (D8 x.gen),.row (.slice x.VA x.vn x.vc) 4 1 x.vn (Hf x.Fh),.row (.slice x.FA x.fn x.fc) 3 1 x.fn (D8 x.Fu)]
def Ej(x:X8)(slot:Nat):Bool:=(x.Fh[slot]?).getD false
def Gt(x:X8)(slot:Nat):Int:=(x.gen[slot]?).getD 0
def ofV(x:X8)(slot:Nat):Value:=if Ej x slot=true then .tuple #[.int .i64 (Gt x slot),.bool true] else .tuple #[.int .i64 0,.bool false]
structure Z5(x y:X8):Prop where
 sb:y.sb=x.sb
 first:y.first=x.first
 gl:y.gen.length=x.gen.length
 vl:y.Fh.length=x.Fh.length
theorem fq(x:X8)(slot:Nat)(hN:x.gen.length=x.Fh.length)(hs:slot<16777216)(W:World)(hst:St (DV (Nt x)) W (Nt x) W):
  Calls AB 231 #[.pointer (some ⟨x.sb,0,none⟩),.int .i64 (slot:Int)] W
  λen w' => ∃i:Unit,en=.returned (ofV x slot)/\True/\St (DV (Nt x)) W (Nt x) w':=by
 obtain⟨M,hM⟩:∃M,DV (Nt x)=M:=⟨_,rfl⟩;rw[hM]at hst ⊢;obtain⟨sb,first,GA,gn,gc,VA,vn,vc,FA,fn,fc,gone,gen,Fh,Fu⟩:=x;unfold Nt at hst;dsimp only at *;clear hM;have hgl:gen.length=gn:=by have:=(Sl.EJ hst (DN (k:=1) rfl)).len;rw[EY]at this;omega
 have hvl:Fh.length=vn:=by have:=(Sl.EJ hst (DN (k:=2) rfl)).len;rw[Kg]at this;omega
 have hfl:Fu.length=fn:=by have:=(Sl.EJ hst (DN (k:=3) rfl)).len;rw[EY]at this;omega
 have hap:=hst.facts;simp only[Nc,Nf,Ro,Rn]at hap;refine DL (M:=M) Tryz.func231 [.tmp 4,.tmp 5]  hst ?_;have zs:=Bd.mk FR;refine DZ ?_;refine DC [0,1] λG1 g1=>?_;replace g1:=EK g1;have hn0:¬((slot:Int)<0):=by omega
 refine Cw λK k0=>Cw λK k1=>?_;refine Df (λ_ _=>True) (λF' L'=>EH F' G1 [0,1]/\F' 26=.bool (!Ej ⟨sb,first,GA,gn,gc,VA,vn,vc,FA,fn,fc,gone,gen,Fh,Fu⟩ slot)/\L'=[.blk sb 142 [.int .i64 first,.slice GA gn gc,.slice VA vn vc,.slice FA fn fc,.int .i64 gone],.row (.slice GA gn gc) 3 1 gn (D8 gen),.row (.slice VA vn vc) 4 1 vn (Hf Fh),.row (.slice FA fn fc) 3 1 fn (D8 Fu)]) ?_ ?_
 ·unfold Ej;dsimp only;by_cases hlt:slot<vn
  ·have hge:¬((vn:Int)<=(slot:Int)):=by omega
   obtain⟨v,hv⟩:∃v,Fh[slot]?=some v:=⟨_,AQ AL⟩;refine EL 2 rfl AL λg F7 hg EX=>?_;subst F7;replace hg:=AAM (AO hg EX);clear EX;refine Cy rfl ?_;have zg:=Bd.mk g1;refine DU (AO hn0 hge) ?_;refine DX (Dx (m:=1) (i:=slot) (v:=.bool v) (DN (k:=2) rfl) rfl (We hv)) ?_;refine DU (AO hn0 hge) ?_;rw[hv];rfl
  ·have hge:((vn:Int)<=(slot:Int)):=by omega
   have hno:Fh[slot]?=none:=List.getElem?_eq_none AL;refine Cy rfl ?_;have zg:=Bd.mk g1;refine DU (AO hn0 hge) ?_;rw[hno];rfl
 intro G2 L' _ hF;obtain⟨zq,AEp,rfl⟩:=hF;have zg:=Bd.mk g1;have g2:=AO (Dy zq) AEp;refine k1 _ _ (C_ ?_);cases hlv:Ej ⟨sb,first,GA,gn,gc,VA,vn,vc,FA,fn,fc,gone,gen,Fh,Fu⟩ slot with
 | false =>
  replace zg:=Bd.mk g2;refine DU hlv ?_;refine Db ?_;refine C8 (EP λw hw=>?_);refine⟨(),?_,hw⟩;unfold ofV;rw[hlv];rfl
 | true =>
  have hlt:slot<gn:=by
   unfold Ej at hlv;dsimp only at hlv;cases hq:Fh[slot]? with
   |none=>rw[hq]at hlv;cases hlv
   |some v=>have:=(Ab.1 hq).1;omega
  obtain⟨gv,hgv⟩:∃v,gen[slot]?=some v:=⟨_,AQ AL⟩;replace zg:=Bd.mk g2;refine DU hlv ?_;refine Cz (k0 _ _ (EL 1 rfl AL λg F7 hg EX=>?_));subst F7;replace hg:=AAM (AO hg EX);clear EX;refine C9 rfl λK k0=>DD ?_;refine DX (Dx (m:=1) (i:=slot) (v:=.int .i64 gv) (DN (k:=1) rfl) rfl (GG hgv)) ?_;refine DD (k0 _ _ ?_);refine C8 (EP λw hw=>?_);refine⟨(),?_,trivial,hw⟩;unfold ofV;rw[hlv];simp[Gt,hgv]
theorem sM(x:X8)(slot:Nat)(hN:x.gen.length=x.Fh.length)(hs:slot<16777216)(hf:x.Fu.length<=100000)(hgo:0<=x.gone/\x.gone<=4611686018427387904)(hlv:Ej x slot=true)(W:World)(hst:St (DV (Nt x)) W (Nt x) W):
  Calls AB 214 #[.pointer (some ⟨x.sb,0,none⟩),.int .i64 (slot:Int)] W
  λen w' => ∃y:X8,en=.returned (.int .i64 0)/\(Z5 x y/\y.gen=x.gen/\y.Fh=x.Fh.set slot false/\(if Gt x slot=4294967295 then y.gone=x.gone+1/\y.Fu=x.Fu else y.gone=x.gone/\y.Fu=x.Fu++[(slot:Int)]))/\St (DV (Nt x)) W (Nt y) w':=by
 obtain⟨M,hM⟩:∃M,DV (Nt x)=M:=⟨_,rfl⟩;rw[hM]at hst ⊢;obtain⟨sb,first,GA,gn,gc,VA,vn,vc,FA,fn,fc,gone,gen,Fh,Fu⟩:=x;unfold Nt at hst;dsimp only at *;clear hM;have hgl:gen.length=gn:=by have:=(Sl.EJ hst (DN (k:=1) rfl)).len;rw[EY]at this;omega
 have hvl:Fh.length=vn:=by have:=(Sl.EJ hst (DN (k:=2) rfl)).len;rw[Kg]at this;omega
 have hfl:Fu.length=fn:=by have:=(Sl.EJ hst (DN (k:=3) rfl)).len;rw[EY]at this;omega
 have hlt:slot<vn:=by
  unfold Ej at hlv;dsimp only at hlv;cases hq:Fh[slot]? with
  |none=>rw[hq]at hlv;cases hlv
  |some v=>have:=(Ab.1 hq).1;omega
 obtain⟨gv,hgv⟩:∃v,gen[slot]?=some v:=⟨_,AQ AL⟩;have hgi:Gt ⟨sb,first,GA,gn,gc,VA,vn,vc,FA,fn,fc,gone,gen,Fh,Fu⟩ slot=gv:=by unfold Gt;dsimp only;rw[hgv];rfl
 rw[hgi];have hof:ofV ⟨sb,first,GA,gn,gc,VA,vn,vc,FA,fn,fc,gone,gen,Fh,Fu⟩ slot=.tuple #[.int .i64 gv,.bool true]:=by unfold ofV;rw[ATv hlv,hgi]
 have yA:(Hf Fh).set slot (Value.bool false)=Hf (Fh.set slot false):=Wh _ _ _;refine DL (M:=M) Tryz.func214 [.tmp 4]  hst ?_;have zs:=Bd.mk FR;refine DZ ?_;refine C9 rfl λK k0=>DR ?_;refine EW (Nt ⟨sb,first,GA,gn,gc,VA,vn,vc,FA,fn,fc,gone,gen,Fh,Fu⟩) (BB _) (λ_:Unit=>.tuple #[.int .i64 gv,.bool true]) _ (λw hw=>hof▸fq ⟨sb,first,GA,gn,gc,VA,vn,vc,FA,fn,fc,gone,gen,Fh,Fu⟩ slot hN hs w hw) ?_;intro _ _;refine DR (k0 _ _ ?_);refine Cw λK k0=>DZ ?_;refine C_ (DR ?_);refine Cz (k0 _ _ (DC [0,1] λG3 g3=>?_));replace g3:=EK g3;refine EL 2 rfl AL λgb F7 hgb EX=>?_;subst F7;replace hgb:=AAM (AO hgb EX);clear EX;refine EL 1 rfl AL λgg F7 hgg EX=>?_;subst F7;replace hgg:=AAM (AO hgg EX);clear EX;refine C9 rfl λK k0=>?_;have zg:=Bd.mk g3;refine DD ?_;refine DX (JB 2 (i:=slot) (v:=.bool false) rfl (by rw[Kg];omega) AF rfl rfl) ?_;refine DU yA (k0 _ _ ?_);refine Cw λK k0=>C9 rfl λK k1=>DD ?_;refine DX (Dx (m:=1) (i:=slot) (v:=.int .i64 gv) (DN (k:=1) rfl) rfl (GG hgv)) ?_;refine DD (k1 _ _ ?_);refine DC [0,1,28] λG4 g4=>?_;replace g4:=Dy g4;refine Df (λ_ _=>True) (λF' L' => ∃(O0:Option Addr)(O1 O3:Nat)(SS:Int)(Z6:List Int),L'=[.blk sb 142 [.int .i64 first,.slice (some ⟨gg,0,none⟩) gn gc,.slice (some ⟨gb,0,none⟩) vn vc,.slice O0 O1 O3,.int .i64 SS],.row (.slice (some ⟨gg,0,none⟩) gn gc) 3 1 gn (D8 gen),.row (.slice (some ⟨gb,0,none⟩) vn vc) 4 1 vn (Hf (Fh.set slot false)),.row (.slice O0 O1 O3) 3 1 O1 (D8 Z6)]/\(if gv=4294967295 then SS=gone+1/\Z6=Fu else SS=gone/\Z6=Fu++[(slot:Int)])) ?_ ?_
 ·refine C_ ?_;by_cases hm:gv=4294967295
  ·have d:decide (gv=4294967295)=true:=AUB hm;replace zg:=Bd.mk g4;refine DU d ?_;refine DJ rfl (DD ?_);refine⟨FA,fn,fc,gone+1,Fu,?_⟩;refine DD ?_;simp[hm]
  ·have o1:=Z4 Fu;replace zg:=Bd.mk g4;refine DU hm ?_;refine TV 3 rfl λhcap AEq=>ED [2,3,4,0] AJ (DJ rfl (DD ?_));intro b37 AOQ AOR;refine DD ?_;refine EI 0 GL rfl rfl (λw hw=>Hz (DN (k:=4) rfl) hw) o1 AL AL ?_;intro A3 c3 hl3 hr3;refine DU (AO @Ao @AR.{0}) ?_;intro b44 AOS AOT;refine D6 1 GL rfl (λw hw=>D_ (size:=1) (DN (k:=0) rfl) rfl hw) rfl AL AL ?_;intro A4 c4 hl4 hr4;refine DD ?_;exact⟨A4,fn+1,c4,gone,Fu++[(slot:Int)],by rw[Im],rfl,rfl⟩
 intro G5 L' _ hF;obtain⟨O0,O1,O3,SS,Z6,rfl,hc⟩:=hF;refine k0 _ _ (DZ ?_);refine C8 (Eg λw hw=>?_);exact⟨⟨sb,first,some ⟨gg,0,none⟩,gn,gc,some ⟨gb,0,none⟩,vn,vc,O0,O1,O3,SS,gen,Fh.set slot false,Z6⟩,rfl,⟨⟨rfl,rfl,rfl,by simp⟩,rfl,rfl,hc⟩,hw⟩
def Od(x:X8)(s:Nat):Int:=if Gt x s=0 then x.first else Gt x s+1
def AEr(s:Nat)(g:Int)(y:X8):Value:=.tuple #[.int .i64 (s:Int),.int .i64 g,.int .i64 0]
theorem fw(x:X8)(d:Nat)(hd:d<18446744073709551616)(hN:x.gen.length=x.Fh.length)(hf:0<x.Fu.length/\x.Fu.length<=100000)(s:Nat)(hs:x.Fu[d % x.Fu.length]?=some (s:Int))(hsl:s<x.gen.length)(hg:0<=Gt x s/\Gt x s<=4611686018427387904)(W:World)(hst:St (DV (Nt x)) W (Nt x) W):
  Calls AB 238 #[.pointer (some ⟨x.sb,0,none⟩),.int .u64 (d:Int)] W
  λen w' => ∃y:X8,en=.returned (AEr s (Od x s) y)/\(Z5 x y/\y.gen=x.gen.set s (Od x s)/\y.Fh=x.Fh.set s true/\y.gone=x.gone/\y.Fu=K8 x.Fu (d % x.Fu.length))/\St (DV (Nt x)) W (Nt y) w':=by
 obtain⟨M,hM⟩:∃M,DV (Nt x)=M:=⟨_,rfl⟩;rw[hM]at hst ⊢;obtain⟨sb,first,GA,gn,gc,VA,vn,vc,FA,fn,fc,gone,gen,Fh,Fu⟩:=x;unfold Nt at hst;dsimp only at *;clear hM;have hgl:gen.length=gn:=by have:=(Sl.EJ hst (DN (k:=1) rfl)).len;rw[EY]at this;omega
 have hvl:Fh.length=vn:=by have:=(Sl.EJ hst (DN (k:=2) rfl)).len;rw[Kg]at this;omega
 have hfl:Fu.length=fn:=by have:=(Sl.EJ hst (DN (k:=3) rfl)).len;rw[EY]at this;omega
 obtain⟨gv,hgv⟩:∃v,gen[s]?=some v:=⟨_,AQ hsl⟩;have hgi:Gt ⟨sb,first,GA,gn,gc,VA,vn,vc,FA,fn,fc,gone,gen,Fh,Fu⟩ s=gv:=by unfold Gt;dsimp only;rw[hgv];rfl
 have hiG:Od ⟨sb,first,GA,gn,gc,VA,vn,vc,FA,fn,fc,gone,gen,Fh,Fu⟩ s=if gv=0 then first else gv+1:=by unfold Od;rw[hgi]
 rw[hgi]at hg;rw[hiG];have yA:(Hf Fh).set s (Value.bool true)=Hf (Fh.set s true):=Wh _ _ _;have AOV:s<gn:=by omega
 have hfn:¬((fn:Int)=0):=by omega
 rw[hfl]at hs hf ⊢;refine DL (M:=M) Tryz.func238 [.tmp 4,.tmp 5,.tmp 6]  hst ?_;have zs:=Bd.mk FR;refine DZ ?_;refine Cw λK k0=>DZ ?_;refine C_ (Ed hfn ?_);refine Cz (k0 _ _ (C9 rfl λK k0=>DR ?_));refine F6 (tkV (s:Int)) (λi:TkI=>[.row (.slice i.A i.n i.c) 3 1 i.n (D8 (K8 Fu (d % fn)))]) _ (λw hw=>sK (Sl.EJ hw (DN (k:=3) rfl)) d hd hf (s:Int) hs) ?_;rintro⟨O0,O1,O3⟩ AHF;dsimp only at AHF;subst AHF;unfold tkV;refine EM ?_;refine DR (k0 _ _ ?_);refine DZ ?_;refine DY [1,2,3,0] ?_;refine EL 1 rfl AL λgg F7 hgg EX=>?_;subst F7;replace hgg:=AAM (AO hgg EX);clear EX;refine Cw λK k0=>C9 rfl λK k1=>DR ?_;refine DX (Dx (m:=1) (i:=s) (v:=.int .i64 gv) (DN (k:=1) rfl) rfl (GG hgv)) ?_;refine DR (k1 _ _ ?_);refine DC [0,7,35] λG6 g6=>?_;replace g6:=EK g6;refine Df (λ_ _=>True) (λF' L'=>EH F' G6 [0,7]/\L'=[.blk sb 142 [.int .i64 first,.slice (some ⟨gg,0,none⟩) gn gc,.slice VA vn vc,.slice O0 (fn-1) O3,.int .i64 gone],.row (.slice (some ⟨gg,0,none⟩) gn gc) 3 1 gn (D8 (gen.set s (if gv=0 then first else gv+1))),.row (.slice VA vn vc) 4 1 vn (Hf Fh),.row (.slice O0 (fn-1) O3) 3 1 (fn-1) (D8 (K8 Fu (d % fn)))]) ?_ ?_
 ·refine C_ ?_;by_cases h0:gv=0
  ·have d0:decide (gv=0)=true:=AUB h0;have hset:(D8 gen).set s (Value.int .i64 first)=D8 (gen.set s first):=Ma _ _ _;have zg:=Bd.mk g6;refine DU d0 ?_;refine K3 (EB [(true,0),(true,1),(true,2),(true,3),(true,4),(true,5),(true,6),(true,7),(true,8),(true,9),(false,10)] [10] ?_);refine DD ?_;refine DX (JB 1 (i:=s) (v:=.int .i64 first) rfl AWk AF rfl rfl) ?_;refine DU hset ?_;try simp[h0]
  ·have hset:(D8 gen).set s (Value.int .i64 (gv+1))=D8 (gen.set s (gv+1)):=Ma _ _ _;have zg:=Bd.mk g6;refine DU h0 ?_;refine DJ rfl (DD ?_);refine DX (Dx (m:=1) (i:=s) (v:=.int .i64 gv) (DN (k:=1) rfl) rfl (GG hgv)) ?_;refine DD ?_;refine DX (JB 1 (i:=s) (v:=.int .i64 (gv+1)) rfl AWk AF rfl rfl) ?_;refine DU hset ?_;try simp[h0]
 intro G7 L' _ hF;obtain⟨zq,rfl⟩:=hF;have zg:=Bd.mk g6;have g7:=Dy zq;refine k0 _ _ (EL 2 rfl AL λgb F7 hgb EX=>?_);subst F7;replace hgb:=AAM (AO hgb EX);clear EX;refine C9 rfl λK k0=>?_;replace zg:=Bd.mk g7;refine DD ?_;refine DX (JB 2 (i:=s) (v:=.bool true) rfl (by rw[Kg];omega) AF rfl rfl) ?_;refine DU yA (k0 _ _ ?_);have hget:(gen.set s (if gv=0 then first else gv+1))[s]?=some (if gv=0 then first else gv+1):=by rw[CY AL]
 obtain⟨G',hG'⟩:∃G',(if gv=0 then first else gv+1)=G':=⟨_,rfl⟩;rw[hG']at hget ⊢;refine Cw λK k0=>EB [(true,0),(true,1),(true,2),(true,3),(true,4),(true,5),(true,6),(true,7),(true,8),(true,9),(true,10)] [] ?_;refine DD ?_;refine DX (Dx (m:=1) (i:=s) (v:=.int .i64 G') (DN (k:=1) rfl) rfl (GG hget)) ?_;refine DD (k0 _ _ ?_);refine C8 (EP λw hw=>?_);exact⟨⟨sb,first,some ⟨gg,0,none⟩,gn,gc,some ⟨gb,0,none⟩,vn,vc,O0,fn-1,O3,gone,gen.set s G',Fh.set s true,K8 Fu (d % fn)⟩,rfl,⟨⟨rfl,rfl,by simp,by simp⟩,rfl,rfl,rfl,rfl⟩,hw⟩
def pkV(r:Int×Int):Value:=.tuple #[.int .u64 r.1,.int .i64 r.2]
def ABv:=@pkV.eq_1
theorem sN(s g t:Int)(W:World):Calls AB 8 #[.int .i64 s,.int .i64 g,.int .i64 t] W λe w'=>e=.returned (pkV (pkF s g t))/\Below W.heap.size W w':=by
 refine DL (M:=[]) Tryz.func8 [.tmp 6,.tmp 7] (St.nil _ _) ?_;have zs:=Bd.mk ABv;refine DZ ?_;refine DC [0,1,2] λG1 g1=>?_;replace g1:=EK g1;refine Cw λK k0=>Cw λK k1=>?_;refine Df (λ_ _=>True) (λF' L'=>EH F' G1 [0,1,2]/\F' 29=.bool (decide (s<0\/16777215<s\/g<1\/4294967295<g\/t<1\/255<t))/\L'=[]) ?_ ?_
 ·exact AWr
 intro G2 L' _ hF;obtain⟨zq,yB,rfl⟩:=hF;have zg:=Bd.mk g1;have g2:=AO (Dy zq) yB;refine k1 _ _ ?_;replace zg:=Bd.mk g2;refine Ec (λhc=>?_) λhc=>?_
 ·have h:=AT0 hc;refine Db ?_;refine C8 (EP λw hw=>?_);exact⟨by unfold pkF;rw[ATv h];try rfl,hw.below⟩
 have h:=AUD hc;have e1:∀x:Int,0<=x->x<18446744073709551616->IntKind.u64.wrap x=x:=λx h0 h1=>by rw[IntKind.wrap_u64];omega
 refine Cz (k0 _ _ (KU e1 ?_));refine C8 (EP λw hw=>?_);exact⟨by unfold pkF;rw[ATt h];rfl,hw.below⟩
structure En where
 h:Nat
 ow:Int
 tag:Int
 off:Int
 len:Int
def enc(e:En):List Value:=[.int .u64 (e.h:Int),.int .i64 e.ow,.int .i64 e.tag,.int .i64 e.off,.int .i64 e.len]
def sO(e:En):Value:=.agg #[.int .u64 (e.h:Int),.int .i64 e.ow,.int .i64 e.tag,.int .i64 e.off,.int .i64 e.len]
theorem Gu(e:En):(enc e).length=5:=rfl
def FJ(l:List En):List Value:=l.flatMap enc
theorem K9(l:List En):(FJ l).length=l.length*5:=GN Gu l
def en0:En:=⟨0,0,0,0,0⟩
structure Ir where
 tb:Nat
 EA:Option Addr
 en:Nat
 ec:Nat
 E:List En
 s:X8
def Mc(x:Ir):List DW:=.blk x.tb 146 [.pointer (some ⟨x.s.sb,0,none⟩),.slice x.EA x.en x.ec] :: .row (.slice x.EA x.en x.ec) 182 5 x.en (FJ x.E)::Nt x.s
def ET(x:Ir)(slot:Nat):En:=(x.E[slot]?).getD en0
def GU(x:Ir)(h:Nat):Int:=if x.en<=De h then 10 else if ¬(Ej x.s (De h)=true/\Gt x.s (De h)=(Mr h:Int)) then 11 else if ¬(ET x (De h)).h=h then 12 else 0
def Pm(x:Ir)(h:Nat):Value:=.tuple #[sO (if GU x h=0 then ET x (De h) else en0),.int .i64 (GU x h)]
theorem Z7(x:Ir)(h:Nat)(v:Int)(hv:v≠0)(hr:GU x h=v):Pm x h=.tuple #[sO en0,.int .i64 v]:=by
 unfold Pm;rw[hr,ATt hv]
theorem ABw(x:Ir)(h s:Nat)(hs:De h=s)(h10:x.en<=s):Pm x h=.tuple #[sO en0,.int .i64 10]:=by
 subst hs;exact Z7 x h 10 AJ (by unfold GU;rw[ATv h10])
theorem og(x:Ir)(h s:Nat)(hs:De h=s)(h10:¬x.en<=s)(h11:¬(Ej x.s s=true/\Gt x.s s=(Mr h:Int))):Pm x h=.tuple #[sO en0,.int .i64 11]:=by
 subst hs;exact Z7 x h 11 AJ (by unfold GU;rw[ATt h10,ATv h11])
theorem ABx(x:Ir)(h s:Nat)(e:En)(hs:De h=s)(h10:¬x.en<=s)(hl:Ej x.s s=true)(hg:Gt x.s s=(Mr h:Int))(he:x.E[s]?=some e)(h12:¬e.h=h):Pm x h=.tuple #[sO en0,.int .i64 12]:=by
 subst hs;have hE:ET x (De h)=e:=by unfold ET;rw[he];rfl
 exact Z7 x h 12 AJ (by unfold GU;rw[ATt h10,ATt (λhn=>hn ⟨hl,hg⟩),hE,ATv h12])
theorem AEs(x:Ir)(h s:Nat)(e:En)(hs:De h=s)(h10:¬x.en<=s)(hl:Ej x.s s=true)(hg:Gt x.s s=(Mr h:Int))(he:x.E[s]?=some e)(h12:e.h=h):Pm x h=.tuple #[sO e,.int .i64 0]:=by
 subst hs;have hE:ET x (De h)=e:=by unfold ET;rw[he];rfl
 have hr:GU x h=0:=by unfold GU;rw[ATt h10,ATt (λhn=>hn ⟨hl,hg⟩),hE,ATt (λhn=>hn h12)]
 unfold Pm;rw[hr,ATv rfl,hE]
theorem f_(h:Nat):De h<16777216:=ASo _ AL
def Md:=AO (AO (AO @Ac @DT) (AO @KM @cM)) (AO (AO @Ey @Ez) (AO @E5 (AO @E8 @E9)))
theorem Oe(x:Ir)(h:Nat)(hh:h<18446744073709551616)(hN:x.s.gen.length=x.s.Fh.length)(W:World)(hst:St (DV (Mc x)) W (Mc x) W):
  Calls AB 213 #[.pointer (some ⟨x.tb,0,none⟩),.int .u64 (h:Int)] W
  λen w' => ∃i:Unit,en=.returned (Pm x h)/\True/\St (DV (Mc x)) W (Mc x) w':=by
 obtain⟨M,hM⟩:∃M,DV (Mc x)=M:=⟨_,rfl⟩;rw[hM]at hst ⊢;obtain⟨tb,EA,en,ec,E,⟨sb,first,GA,gn,gc,VA,vn,vc,FA,fn,fc,gone,gen,Fh,Fu⟩⟩:=x;unfold Mc Nt at hst;dsimp only at *;clear hM;have hel:E.length=en:=by have:=(Sl.EJ hst (DN (k:=1) rfl)).len;unfold FJ at this;rw[GN Gu]at this;omega
 have AHG:=f_ h;obtain⟨s,hs⟩:∃s,De h=s:=⟨_,rfl⟩;rw[hs]at AHG;refine ER (M:=M) (n:=55) [.cell 4 182,.tmp 5] rfl Tryz.func213 rfl rfl (Am rfl)  hst ?_;refine C9 rfl λK k0=>?_;have zs:=Bd.mk Md;refine DR ?_;intro b4 hb4 jo;refine k0 _ _ (C9 rfl λK k0=>DR ?_);refine DI (λw hw=>hs▸F4 h hh w) ?_;try refine DR ?_
 refine k0 _ _ (Cw λK k0=>DZ ?_);refine C_ ?_;by_cases h10:en<=s
 ·have d10:decide ((en:Int)<=(s:Int))=true:=AUB AL;refine Ed d10 ?_;refine DZ ?_;refine C8 (Ox ?_);intro w hw;refine⟨(),?_,hw.tail⟩;rw[ABw ⟨tb,EA,en,ec,E,⟨sb,first,GA,gn,gc,VA,vn,vc,FA,fn,fc,gone,gen,Fh,Fu⟩⟩ h s hs h10];rfl
 have d10:¬((en:Int)<=(s:Int)):=by omega
 refine Ed d10 ?_;refine Cz (k0 _ _ (C9 rfl λK k0=>DR ?_));refine EW (Nt ⟨sb,first,GA,gn,gc,VA,vn,vc,FA,fn,fc,gone,gen,Fh,Fu⟩) (.cons _ (.cons _ (.cons _ (BB _)))) (λ_:Unit=>ofV ⟨sb,first,GA,gn,gc,VA,vn,vc,FA,fn,fc,gone,gen,Fh,Fu⟩ s) _ (λw hw=>fq ⟨sb,first,GA,gn,gc,VA,vn,vc,FA,fn,fc,gone,gen,Fh,Fu⟩ s hN AHG w hw) ?_;intro _ _;cases hlv:Ej ⟨sb,first,GA,gn,gc,VA,vn,vc,FA,fn,fc,gone,gen,Fh,Fu⟩ s with
 | false =>
  unfold ofV;rw[hlv];refine DR (k0 _ _ ?_);refine Cw λK k0=>DZ ?_;refine C_ (DR ?_);refine DZ ?_;refine C8 (Ox ?_);intro w hw;refine⟨(),?_,hw.tail⟩;rw[og ⟨tb,EA,en,ec,E,⟨sb,first,GA,gn,gc,VA,vn,vc,FA,fn,fc,gone,gen,Fh,Fu⟩⟩ h s hs h10 (λhn=>AUK (hlv.symm.trans hn.1))];rfl
 | true =>
  unfold ofV;obtain⟨gI,hgI⟩:∃v,Gt ⟨sb,first,GA,gn,gc,VA,vn,vc,FA,fn,fc,gone,gen,Fh,Fu⟩ s=v:=⟨_,rfl⟩;obtain⟨e,he⟩:∃e,E[s]?=some e:=⟨_,AQ AL⟩;rw[hlv,hgI];refine DR (k0 _ _ ?_);refine DC [0,1,4,6,7,8] λG1 g1=>?_;replace g1:=EK g1;refine Cw λK k0=>C9 rfl λK k1=>?_;have zg:=Bd.mk g1;refine DD ?_;refine DI (λw hw=>xF h hh w) ?_;try refine DD ?_
  refine k1 _ _ (C_ ?_);by_cases h11:gI=(Mr h:Int)
  case neg =>
   refine DU h11 ?_;refine Db ?_;refine C8 (FF ?_);intro w hw;refine⟨(),?_,hw.tail⟩;rw[og ⟨tb,EA,en,ec,E,⟨sb,first,GA,gn,gc,VA,vn,vc,FA,fn,fc,gone,gen,Fh,Fu⟩⟩ h s hs h10 (λhn=>h11 (hgI.symm.trans hn.2))];rfl
  have d11:decide (gI=(Mr h:Int))=true:=AUB h11;refine DU d11 ?_;refine Cz (k0 _ _ (EL 2 rfl AL λg F7 hg EX=>?_));subst F7;replace hg:=AAM (AO hg EX);clear EX;refine Cw λK k0=>C9 rfl λK k1=>DD ?_;refine DX (Dx (m:=1) (i:=s*5+0) (v:=.int .u64 (e.h:Int)) (DN (k:=2) rfl) rfl (Gi Gu he AL)) ?_;refine DD (k1 _ _ ?_);refine C_ ?_;by_cases h12:e.h=h
  case neg =>
   have n12:¬((e.h:Int)=(h:Int)):=by omega
   refine DU @n12 ?_;refine Db ?_;refine C8 (FF ?_);intro w hw;refine⟨(),?_,hw.tail⟩;rw[ABx _ h s e hs h10 hlv (hgI.trans h11) he h12];rfl
  have d12:decide ((e.h:Int)=(h:Int))=true:=AUB AL;refine DU d12 ?_;refine Cz (k0 _ _ (C9 rfl λK k0=>DD ?_));refine DX (IJ (i:=s*5) (vs:=enc e) (DN (k:=2) rfl) AF (K5 Gu he)) ?_;refine DD ?_;simp only[enc,Av,Bf,AT1];refine DD (k0 _ _ ?_);refine C8 (FF ?_);intro w hw;refine⟨(),?_,hw.tail⟩;rw[AEs _ h s e hs h10 hlv (hgI.trans h11) he h12];rfl
end Go.Proofs.YtnkgiaimcpbhkaaGreat
