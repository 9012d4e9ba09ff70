import Derived.Test.YtegonkdandmolaaGreatDlays6
import Derived.Test.YtegonkdandmolaaGreatDlays4
import Derived.Test.YtegonkdandmolaaGreatDlays1
set_option linter.unusedVariables false
set_option linter.unusedSimpArgs false
set_option maxRecDepth 100000
set_option maxHeartbeats 4000000
namespace Go.Proofs.YtegonkdandmolaaGreat
open Go.RowKit Go.Shelf
theorem reads_nil (w:World) (B:Nat):Reads w B 1 none 0 []:=Reads.none_
theorem DN {P:Program} {M:List Nat} {W:World} {L:List Ai} {ι:Sort _} {g:FuncId} {args:Array Value} {K:Bool->Value->List Ai->Prop} (f:ι->Value) (Lf:ι->List Ai) (φ:ι->Prop)
  (h:∀w,St M W L w->Calls P g args w (fun e w' => ∃i,e = .returned (f i)/\φ i/\St [] w (Lf i) w'))
  (hK:∀i,φ i->K true (f i) (Lf i++L)):Ia P M W g args L K:=fun w hw =>
 GX L [] f Lf φ (fun w h1 _=>h w (by simpa using h1)) hK w (by simpa using hw)
theorem XR (A:Option Addr) (n c:Nat) (es:List DZ) (W:World) (hE:Sl W W.heap.size 5 A n c (Bc es)) (hok:∀e∈es,e.ok) (hn:n<=900) :
  Calls Tryz.prog 35 #[.slice A n c] W
  fun en w' => ∃i:cO,en = .returned (O4 i)/\jl es i/\St [] W (NF i) w':=by
 refine Ab (M:=[]) Tryz.func35 [.tmp 2,.tmp 3] (St.nil _ _) ?_
 have zs:=Bd.mk EJ
 refine Aq ?_
 refine AQ rfl fun K k0=>?_
 refine Ah ?_
 refine DN uU uV _ (fun w hw=>TZ A n c es w (hE.at hw) hok hn) ?_
 rintro (_|⟨b,sb,LA,ln,lc,EA,en,ec,st,DF,E⟩) hr
 ·have hr':Fp hs0 es=none:=hr
  simp -implicitDefEqProofs (disch:=first|omega|decide) only [seval, -Int.reducePow, -Nat.reducePow,cC,pv,Ao,Az,undef,EJ,uU,uV]
  refine k0 _ _ ?_
  refine AB fun K k0=>?_
  refine Aq ?_
  refine AL ?_
  refine Ah ?_
  refine Aq ?_
  refine D5 105 6 ?_
  refine AP (Cc fun w hw=>?_)
  exact ⟨⟨none,0,0,[],28⟩,rfl,⟨by rw [hr'];rfl,by rw [hr'];rfl⟩,hw⟩
 ·obtain ⟨s,x,h1,h2, -, -, -⟩:=hr
  dsimp only at h2
  unfold uU uV fbL
  dsimp only [List.cons_append]
  refine Ah ?_
  refine k0 _ _ ?_
  refine AB fun K k0=>?_
  refine Aq ?_
  refine AL ?_
  refine Ah ?_
  refine AO (k0 _ _ ?_)
  refine Aq ?_
  refine AP (Cc fun w hw=>?_)
  exact ⟨⟨LA,ln,lc,DF,0⟩,rfl,⟨by rw [h1];exact h2,by rw [h1];rfl⟩,hw.sub (.cons _ (.cons _ (.cons_cons _ (.cons _ (List.Sublist.refl _)))))⟩
theorem Ye {W:World} {A A':Option Addr} {n n' c c':Nat} {bs:List Bw} (h:Sl W W.heap.size 4 A n c (Au bs)) (h':Sl W W.heap.size 4 A' n' c' (Au bs)) (hn:n<=100000) :
  Calls Tryz.prog 118 #[.slice A n c,.slice A' n' c'] W fun e w'=>e = .returned (.bool true)/\Below W.heap.size W w':=by
 have hlen:=h.len
 have hlen':=h'.len
 rw [BV] at hlen hlen'
 have hnn:n'=n:=by omega
 subst hnn
 refine Ab (M:=[]) Tryz.func118 [.tmp 4] (St.nil _ _) ?_
 have zs:=Bd.mk EJ
 refine Aq ?_
 refine AB fun K k0=>?_
 refine Aq ?_
 refine AL ?_
 refine Ah ?_
 refine AO (k0 _ _ ?_)
 refine AB fun K k0=>?_
 refine Aq ?_
 refine AV [0,1,5] fun G1 g1=>?_
 replace g1:=Bi g1
 refine Ad ?_
 refine BP (fun F' L' => ∃(i:Nat),Az F' G1 [0,1]/\F' 5 = .int .i64 (i:Int)/\L'=[]/\i<=n') (fun F' L'=>200000-(intOf (F' 5)).toNat) ?_ ?_
 ·refine ⟨0, ?_⟩
  have zg:=Bd.mk g1
  refine AR ?_
  exact Nat.zero_le _
 intro G2 L' hI
 obtain ⟨i,zq,KO,rfl,hi⟩:=hI
 have zg:=Bd.mk g1
 have g2:=And.intro (Bg zq) KO
 refine AB fun K k1=>?_
 replace zg:=Bd.mk (And.intro g1 g2)
 refine BH ?_
 refine Dl (fun hc=>?_) fun hc=>?_
 ·refine AO ?_
  try simp only [BJ,BX]
  have hit:i<n':=by have:=of_decide_eq_true ‹decide ((i:Int)<(n':Int))=true›;omega
  obtain ⟨e,he⟩:∃e,bs[i]? = some e:=⟨_,List.getElem?_eq_getElem (by omega)⟩
  have hld:=FB Bu he
  obtain ⟨bA,oA,rfl,KD, -⟩:=h.cells (by omega)
  obtain ⟨bA',oA',rfl,AIA, -⟩:=h'.cells (by omega)
  refine k1 _ _ ?_
  refine AB fun K k1=>?_
  refine Ad ?_
  refine AB fun K k2=>?_
  refine BR [(true,0),(true,1),(true,2),(true,3),(true,4),(true,5),(true,6),(true,7),(true,8)] [] CB rfl (by kernel_rfl) (by kernel_rfl) rfl rfl ?_
  refine AR ?_
  refine Aj (h.ld (i:=i*4) (vs:=V7 e) (by omega) (by kernel_rfl) hld) ?_
  refine AR ?_
  refine Aj (h'.ld (i:=i*4) (vs:=V7 e) (by omega) (by kernel_rfl) hld) ?_
  refine AR ?_
  simp -implicitDefEqProofs (disch:=first|omega|decide) only [seval, -Int.reducePow, -Nat.reducePow,cC,pv,Ao,Az,undef,EJ,V7,g1,g2]
  refine k2 _ _ ?_
  refine AL ?_
  refine AR ?_
  refine AO (k1 _ _ ?_)
  refine AF rfl ?_
  refine AR ?_
  refine ⟨⟨i+1, ?_⟩, ?_⟩
  ·refine Ap @Int.natCast_add ?_
   omega
  ·simp only [intOf];omega
 refine BM (k0 _ _ ?_)
 refine BH ?_
 refine AP (Br fun w hw=>?_)
 exact ⟨rfl,hw.below⟩
theorem Yf {W:World} {a b:RO} (he:a.pl=b.pl) (h:Sl W W.heap.size 4 a.A a.n a.c (Au a.bs)) (h':Sl W W.heap.size 4 b.A b.n b.c (Au b.bs)) (hn:a.n<=100000) :
  Calls Tryz.prog 71 #[vO a,vO b] W fun e w'=>e = .returned (.bool true)/\Below W.heap.size W w':=by
 obtain ⟨ah,aw,aA,an,ac,abs⟩:=a
 obtain ⟨bh,bw,bA,bn,bc,bbs⟩:=b
 unfold RO.pl at he
 simp only [RP.mk.injEq] at he
 obtain ⟨rfl,rfl,rfl⟩:=he
 dsimp only at h h' hn
 refine Ab (M:=[]) Tryz.func71 [.tmp 4] (St.nil _ _) ?_
 refine AQ rfl fun K k0=>?_
 simp -implicitDefEqProofs (disch:=first|omega|decide) only [seval, -Int.reducePow, -Nat.reducePow,cC,pv,Ao,Az,undef,EJ,vO]
 intro b2 hb2 b3 hb3 hf3
 refine k0 _ _ ?_
 refine AQ rfl fun K k0=>?_
 have zs:=Bd.mk EJ
 refine Ah ?_
 refine ⟨[],fun w hw=>reads_nil w _,fun tok jf=>?_⟩
 subst jf
 refine Ah ?_
 refine ⟨[],fun w hw=>reads_nil w _,fun tok jf=>?_⟩
 subst jf
 refine Ah ?_
 refine Aa (fun w hw=>Ye (h.at hw) (h'.at hw) hn) ?_
 try refine Ah ?_
 refine k0 _ _ ?_
 refine AP (Cc fun w hw=>?_)
 exact ⟨rfl,hw.below⟩
structure N_ (w:World) (B:Nat) (A:Option Addr) (n c:Nat) (DF:List RO):Prop where
 row:Sl w B 6 A n c (BS DF)
 bs:∀r∈DF,Sl w B 4 r.A r.n r.c (Au r.bs)
theorem N_.at {W w:World} {L:List Ai} {A:Option Addr} {n c:Nat} {DF:List RO} (h:N_ W W.heap.size A n c DF) (hw:St [] W L w):N_ w w.heap.size A n c DF:=⟨h.row.at hw,fun r hr=>(h.bs r hr).at hw⟩
theorem N_.len {w:World} {B:Nat} {A:Option Addr} {n c:Nat} {DF:List RO} (h:N_ w B A n c DF):DF.length=n:=by
 have:=h.row.len
 unfold BS at this
 rw [Cr Dw] at this
 omega
theorem N_.rn {w:World} {B:Nat} {A:Option Addr} {n c:Nat} {DF:List RO} (h:N_ w B A n c DF) {r:RO} (hr:r∈DF):r.bs.length=r.n:=by
 have:=(h.bs r hr).len
 rw [BV] at this
 omega
theorem Yg {W:World} {A A':Option Addr} {n n' c c':Nat} {a b:List RO} (h:N_ W W.heap.size A n c a) (h':N_ W W.heap.size A' n' c' b) (he:a.map RO.pl=b.map RO.pl) (hn:n<=100000) (hb:∀r∈a,r.bs.length<=100000) :
  Calls Tryz.prog 36 #[.slice A n c,.slice A' n' c'] W fun e w'=>e = .returned (.bool true)/\Below W.heap.size W w':=by
 have hlen:=h.len
 have hlen':=h'.len
 have hab:=congrArg List.length he
 rw [List.length_map,List.length_map] at hab
 have hnn:n'=n:=by omega
 subst hnn
 refine Ab (M:=[]) Tryz.func36 [.tmp 4] (St.nil _ _) ?_
 have zs:=Bd.mk EJ
 refine Aq ?_
 refine AB fun K k0=>?_
 refine Aq ?_
 refine AL ?_
 refine Ah ?_
 refine AO (k0 _ _ ?_)
 refine AB fun K k0=>?_
 refine Aq ?_
 refine AV [0,1,5] fun G3 g3=>?_
 replace g3:=Bi g3
 refine Ad ?_
 refine BP (fun F' L' => ∃(i:Nat),Az F' G3 [0,1]/\F' 5 = .int .i64 (i:Int)/\L'=[]/\i<=n') (fun F' L'=>200000-(intOf (F' 5)).toNat) ?_ ?_
 ·refine ⟨0, ?_⟩
  have zg:=Bd.mk g3
  refine AR ?_
  exact Nat.zero_le _
 intro G4 L' hI
 obtain ⟨i,zq,KO,rfl,hi⟩:=hI
 have zg:=Bd.mk g3
 have g4:=And.intro (Bg zq) KO
 refine AB fun K k1=>?_
 replace zg:=Bd.mk (And.intro g3 g4)
 refine BH ?_
 refine Dl (fun hc=>?_) fun hc=>?_
 ·refine AO ?_
  try simp only [BJ,BX]
  have hit:i<n':=by have:=of_decide_eq_true ‹decide ((i:Int)<(n':Int))=true›;omega
  obtain ⟨e,he1⟩:∃e,a[i]? = some e:=⟨_,List.getElem?_eq_getElem (by omega)⟩
  obtain ⟨e',he2⟩:∃e,b[i]? = some e:=⟨_,List.getElem?_eq_getElem (by omega)⟩
  have IM:e.pl=e'.pl:=by
   have:=congrArg (fun l=>l[i]?) he
   simpa [he1,he2] using this
  have hld:=FB Dw he1
  have AIB:=FB Dw he2
  have hm1:=List.mem_of_getElem? he1
  have hm2:=List.mem_of_getElem? he2
  have hen:=h.rn hm1
  have heb:=hb e hm1
  obtain ⟨bA,oA,rfl,KD, -⟩:=h.row.cells (by omega)
  obtain ⟨bA',oA',rfl,AIA, -⟩:=h'.row.cells (by omega)
  refine k1 _ _ ?_
  refine AB fun K k1=>?_
  refine Ad ?_
  refine AB fun K k2=>?_
  refine BR [(true,0),(true,1),(true,2),(true,3),(true,4),(true,5),(true,6),(true,7),(false,8),(true,9)] [] CB rfl (by kernel_rfl) (by kernel_rfl) rfl rfl ?_
  refine AR ?_
  refine Aj (h.row.ld (i:=i*6) (vs:=oL e) (by omega) (by kernel_rfl) hld) ?_
  refine AR ?_
  refine Aj (h'.row.ld (i:=i*6) (vs:=oL e') (by omega) (by kernel_rfl) AIB) ?_
  refine AR ?_
  refine Aa (fun w hw=>Yf IM ((h.bs e hm1).at hw) ((h'.bs e' hm2).at hw) (by omega)) ?_
  refine AR ?_
  refine k2 _ _ ?_
  refine AL ?_
  refine AR ?_
  refine AO (k1 _ _ ?_)
  refine AF rfl ?_
  refine AR ?_
  refine ⟨⟨i+1, ?_⟩, ?_⟩
  ·refine Ap @Int.natCast_add ?_
   omega
  ·simp only [intOf];omega
 refine BM (k0 _ _ ?_)
 refine BH ?_
 refine AP (Br fun w hw=>?_)
 exact ⟨rfl,hw.below⟩
section
variable {M:List Nat} {W w:World} {L:List Ai}
theorem St.GK (hw:St M W L w) (i j:Nat) {A:Option Addr} {n c size m b:Nat} {t t':TypeId} {xs cs:List Value} (hi:nth L i=some (.row (.slice A n c) t size m xs)) (hj:nth L j=some (.blk b t' cs)) (hne:i≠j):U4 A [b]:=fun b' o e hb=>by
 have hb':b'=b:=by simpa using hb
 subst e hb'
 exact SX hw.apart hi hj hne b' (by simp [Ai.foot,Value.ownBlock]) (by simp [Ai.foot])
end
structure ALC where
 A:Option Addr
 n:Nat
 c:Nat
 es:List DZ
 j:Nat
def LQ (m:List (Int×Int)) (e:DZ):List (Int×Int):=if e.er=0 then m else CS m e.er ((BL m e.er).getD 0+1)
def Gz (es:List DZ):List (Int×Int):=es.foldl LQ []
def IY (es:List DZ) (x:Int):Nat:=(es.filter fun e=>decide (e.er=x)).length
theorem LU (es:List DZ) (e:DZ):Gz (es++[e])=LQ (Gz es) e:=by unfold Gz;rw [List.foldl_append];rfl
theorem OC (es:List DZ) (e:DZ) (x:Int):IY (es++[e]) x=IY es x+(if e.er=x then 1 else 0):=by
 unfold IY
 rw [List.filter_append,List.length_append]
 by_cases h:e.er=x<;>simp [h]
theorem Zo (es:List DZ) (x:Int):IY es x<=es.length:=List.length_filter_le _ _
theorem XT {α:Type} {p:List α->Prop} (h0:p []) (h1:∀l a,p l->p (l++[a])) (l:List α):p l:=by
 have:∀n (l:List α),l.length=n->p l:=by
  intro n
  induction n with
  | zero=>intro l hl;rw [List.eq_nil_of_length_eq_zero hl];exact h0
  | succ n ih =>
   intro l hl
   rcases KU l with rfl|⟨l',a,rfl⟩
   ·simp at hl
   ·exact h1 l' a (ih l' (by simpa using hl))
 exact this _ l rfl
theorem Q5 (es:List DZ):∀x:Int,x≠0->BL (Gz es) x=if IY es x=0 then none else some (IY es x:Int):=by
 refine XT (p:=fun es => ∀x:Int,x≠0->BL (Gz es) x=if IY es x=0 then none else some (IY es x:Int)) ?_ ?_ es
 ·intro x hx
  rfl
 ·intro es e ih x hx
  rw [LU,OC]
  unfold LQ
  by_cases h0:e.er=0
  ·have hne:¬e.er=x:=fun h=>hx (by rw [<-h,h0])
   simp only [h0,if_true,hne,if_false,Nat.add_zero]
   have hne0:¬(0:Int)=x:=fun h=>hx h.symm
   simp only [hne0,if_false,Nat.add_zero]
   exact ih x hx
  ·rw [if_neg h0,DR,ih _ h0]
   by_cases h1:x=e.er
   ·subst h1
    have hne:¬IY es e.er+(if e.er=e.er then 1 else 0)=0:=by simp
    rw [if_pos rfl,if_neg hne]
    by_cases h2:IY es e.er=0
    ·simp [h2]
    ·simp [h2]
   ·have hne:¬e.er=x:=fun h=>h1 h.symm
    simp only [h1,hne,if_false,Nat.add_zero]
    exact ih x hx
theorem XW (es:List DZ) {x:Int} (hx:x≠0):BL (Gz es) x=none↔∀e∈es,¬e.er=x:=by
 rw [Q5 es x hx]
 have h:IY es x=0↔∀e∈es,¬e.er=x:=by
  unfold IY
  rw [List.length_eq_zero_iff,List.filter_eq_nil_iff]
  simp
 by_cases h0:IY es x=0
 ·rw [if_pos h0]
  exact ⟨fun _=>h.1 h0,fun _=>rfl⟩
 ·rw [if_neg h0]
  exact ⟨fun hn=>(by cases hn),fun hn=>absurd (h.2 hn) h0⟩
theorem XX {α:Type} (l:List (Int×α)) (k:Int) (v:α):(CS l k v).length=l.length+if BL l k=none then 1 else 0:=by
 induction l with
 | nil=>simp [CS,BL]
 | cons p l ih =>
  unfold CS BL
  by_cases h:p.1=k
  ·rw [if_pos h,if_pos h];simp
  ·rw [if_neg h,if_neg h,List.length_cons,ih];simp;omega
theorem XY (es:List DZ) (e:DZ):(Gz (es++[e])).length=(Gz es).length+if e.er≠0/\(∀f∈es,¬f.er=e.er) then 1 else 0:=by
 rw [LU]
 unfold LQ
 by_cases h0:e.er=0
 ·rw [if_pos h0,if_neg (fun h=>h.1 h0)];rfl
 ·rw [if_neg h0,XX]
  by_cases h1:∀f∈es,¬f.er=e.er
  ·rw [if_pos ((XW es h0).2 h1),if_pos ⟨h0,h1⟩]
  ·rw [if_neg (fun h=>h1 ((XW es h0).1 h)),if_neg (fun h=>h1 h.2)]
theorem kJ:Xu Tryz.prog 115 (.int .i64 0):=Ul (by kernel_rfl)
def uX (b:Nat):Value:=.map (some b)
theorem NK {W:World} {A:Option Addr} {n c:Nat} {es:List DZ} (hE:Sl W W.heap.size 5 A n c (Bc es)) (hn:n<=100000) (x:Int) :
  Calls Tryz.prog 41 #[.slice A n c,.int .i64 x] W fun e w'=>e = .returned (.int .i64 (IY es x:Int))/\Below W.heap.size W w':=by
 have hlen:es.length=n:=by
  have:=hE.len
  unfold Bc at this
  rw [Cr C8] at this
  omega
 refine Ab (M:=[]) Tryz.func41 [.tmp 4] (St.nil _ _) ?_
 have zs:=Bd.mk EJ
 refine Aq ?_
 refine Aq ?_
 refine AB fun K k0=>?_
 refine Aq ?_
 refine AV [0,1,5,6] fun G1 g1=>?_
 replace g1:=Bi g1
 refine Ad ?_
 refine BP (fun F' L' => ∃(i:Nat),Az F' G1 [0,1]/\F' 5 = .int .i64 (IY (es.take i) x:Int)/\F' 6 = .int .i64 (i:Int)/\L'=[]/\i<=n) (fun F' L'=>200000-(intOf (F' 6)).toNat) ?_ ?_
 ·refine ⟨0, ?_⟩
  have zg:=Bd.mk g1
  refine AR ?_
  exact ⟨rfl,Nat.zero_le _⟩
 intro G2 L' hI
 obtain ⟨i,zq,KO,Jq,rfl,hi⟩:=hI
 have zg:=Bd.mk g1
 have g2:=And.intro (Bg zq) (And.intro KO Jq)
 refine AB fun K k1=>?_
 replace zg:=Bd.mk (And.intro g1 g2)
 refine BH ?_
 refine Dl (fun hc=>?_) fun hc=>?_
 ·refine AO ?_
  try simp only [BJ,BX]
  have hit:i<n:=by have:=of_decide_eq_true ‹decide ((i:Int)<(n:Int))=true›;omega
  obtain ⟨e,he⟩:∃e,es[i]? = some e:=⟨_,List.getElem?_eq_getElem (by omega)⟩
  have htk:es.take (i+1)=es.take i++[e]:=by rw [List.take_add_one,he];rfl
  have hle:=Zo (es.take i) x
  rw [List.length_take] at hle
  obtain ⟨bA,oA,rfl,KD, -⟩:=hE.cells (by omega)
  refine k1 _ _ ?_
  refine AB fun K k1=>?_
  refine Ad ?_
  refine AQ rfl fun K k2=>?_
  refine AR ?_
  refine Aj (hE.ld1 (m:=1) (i:=i*5+4) (by kernel_rfl) (Co C8 he (by omega))) ?_
  refine AR ?_
  refine k2 _ _ ?_
  refine AL ?_
  by_cases h1:e.er=x
  ·refine Ap h1 ?_
   refine AU rfl ?_
   refine AR ?_
   refine k1 _ _ ?_
   refine AF rfl ?_
   refine AR ?_
   refine ⟨⟨i+1, ?_⟩, ?_⟩
   ·rw [htk,OC,if_pos h1]
    refine Ap @Int.natCast_add ?_
    omega
   ·simp only [intOf];omega
  ·refine Ap h1 ?_
   refine AO (k1 _ _ ?_)
   refine AF rfl ?_
   refine AR ?_
   refine ⟨⟨i+1, ?_⟩, ?_⟩
   ·rw [htk,OC,if_neg h1]
    refine Ap @Int.natCast_add ?_
    omega
   ·simp only [intOf];omega
 refine BM (k0 _ _ ?_)
 have hin:i=n:=by have:=of_decide_eq_false ‹decide ((i:Int)<(n:Int))=false›;omega
 subst hin
 have hfull:es.take i=es:=List.take_of_length_le (by omega)
 refine FP hfull ?_
 refine AP (Br fun w hw=>?_)
 exact ⟨rfl,hw.below⟩
theorem Uv {W:World} {A:Option Addr} {n c:Nat} {es:List DZ} (hE:Sl W W.heap.size 5 A n c (Bc es)) (hn:n<=100000) :
  Calls Tryz.prog 40 #[.slice A n c] W fun e w' => ∃b:Nat,e = .returned (uX b)/\True/\St [] W [Ef b (Bo (Value.int .i64) (Gz es))] w':=by
 have hlen:es.length=n:=by
  have:=hE.len
  unfold Bc at this
  rw [Cr C8] at this
  omega
 refine Ab (M:=[]) Tryz.func40 [.tmp 2] (St.nil _ _) ?_
 have zs:=Bd.mk EJ
 refine Aq ?_
 refine AQ rfl fun K k0=>?_
 refine Ah ?_
 refine Uj fun b hb1 hf1=>?_
 refine Ah ?_
 refine k0 _ _ ?_
 refine AB fun K k0=>?_
 refine Aq ?_
 refine AV [3,7,8,9] fun G3 g3=>?_
 replace g3:=Bi g3
 refine Ad ?_
 refine BP (fun F' L' => ∃(i:Nat),Az F' G3 [3,7,8]/\F' 9 = .int .i64 (i:Int)/\L'=[Ef b (Bo (Value.int .i64) (Gz (es.take i)))]/\i<=n) (fun F' L'=>200000-(intOf (F' 9)).toNat) ?_ ?_
 ·refine ⟨0, ?_⟩
  have zg:=Bd.mk g3
  refine AR ?_
  exact ⟨rfl,Nat.zero_le _⟩
 intro G4 L' hI
 obtain ⟨i,zq,aa,rfl,hi⟩:=hI
 have zg:=Bd.mk g3
 have g4:=And.intro (Bg zq) aa
 replace zg:=Bd.mk (And.intro g3 g4)
 refine BH ?_
 refine AB fun K k1=>?_
 refine Dl (fun hc=>?_) fun hc=>?_
 ·refine AO ?_
  try simp only [BJ,BX]
  have hit:i<n:=by have:=of_decide_eq_true ‹decide ((i:Int)<(n:Int))=true›;omega
  obtain ⟨e,he⟩:∃e,es[i]? = some e:=⟨_,List.getElem?_eq_getElem (by omega)⟩
  have htk:es.take (i+1)=es.take i++[e]:=by rw [List.take_add_one,he];rfl
  have hld:=FB C8 he
  obtain ⟨bA,oA,rfl,KD, -⟩:=hE.cells (by omega)
  refine k1 _ _ ?_
  refine AB fun K k1=>?_
  refine Ad ?_
  refine AQ rfl fun K k2=>?_
  refine AR ?_
  refine Aj (hE.ld (i:=i*5) (vs:=Xo e) (by omega) (by kernel_rfl) hld) ?_
  refine AR ?_
  simp only [Xo,List.length_cons,List.length_nil,true_and]
  refine AR ?_
  intro b5 hb5
  refine k2 _ _ ?_
  refine BH ?_
  refine AL ?_
  by_cases h1:e.er=0
  ·have hr:Gz (es.take (i+1))=Gz (es.take i):=by rw [htk,LU];unfold LQ;rw [if_pos h1]
   refine Ap h1 ?_
   refine AO (k1 _ _ ?_)
   refine BF [1] (by decide) ?_
   simp only [Ag,nth]
   refine AF rfl ?_
   refine AR ?_
   refine ⟨⟨i+1, ?_⟩, ?_⟩
   ·rw [hr]
    refine Ap @Int.natCast_add ?_
    omega
   ·simp only [intOf];omega
  ·have hr:Gz (es.take (i+1))=CS (Gz (es.take i)) e.er ((BL (Gz (es.take i)) e.er).getD 0+1):=by rw [htk,LU];unfold LQ;rw [if_neg h1]
   have hle:=Zo (es.take i) e.er
   rw [List.length_take] at hle
   have hgd:(BL (Gz (es.take i)) e.er).getD 0=(IY (es.take i) e.er:Int):=by
    rw [Q5 _ _ h1]
    by_cases h0:IY (es.take i) e.er=0<;>simp [h0]
   have hwr:IntKind.i64.wrap ((IY (es.take i) e.er:Int)+1)=(IY (es.take i) e.er:Int)+1:=Ae (by omega) (by omega)
   rw [hgd] at hr
   refine Ap h1 ?_
   refine AU rfl ?_
   refine AR ?_
   refine DD kJ rfl rfl (fun w hw=>hw.Nu 1 rfl) ?_
   rw [Cu,FO,hgd]
   refine Ap hwr ?_
   refine LG 1 (y:=.int .i64 ((IY (es.take i) e.er:Int)+1)) kJ rfl rfl rfl rfl ?_
   rw [Hu,<-hr]
   refine AR ?_
   refine k1 _ _ ?_
   refine BF [1] (by decide) ?_
   simp only [Ag,nth]
   refine AF rfl ?_
   refine AR ?_
   refine ⟨⟨i+1, ?_⟩, ?_⟩
   ·refine Ap @Int.natCast_add ?_
    omega
   ·simp only [intOf];omega
 refine BM (k0 _ _ ?_)
 have hin:i=n:=by have:=of_decide_eq_false ‹decide ((i:Int)<(n:Int))=false›;omega
 subst hin
 have hfull:es.take i=es:=List.take_of_length_le (by omega)
 refine BH ?_
 refine AP (Br fun w hw=>?_)
 rw [hfull] at hw
 exact ⟨b,rfl,trivial,hw⟩
def Kq (l:List RP) (p:Int):Nat:=(l.filter fun r=>decide (r.ow=p)).length
def Q6 (p:Int) (r:RP):Bool:=r.bs.any fun b=>decide (b.ho=p)
def Lc (l:List RP) (p:Int):Nat:=(l.filter (Q6 p)).length
def KM (p:Int) (e:DZ):Bool:=decide (e.pl=p) && !decide (e.op=32) && !decide (e.op=33)
def GR (es:List DZ) (p:Int):Nat:=(es.filter (KM p)).length
def Uw (es:List DZ) (p:Int):Value:=.agg #[.int .i64 0,.int .i64 (Kq (Ur (Fp hs0 es)).1 p:Int),.int .i64 (Lc (Ur (Fp hs0 es)).1 p:Int),.int .i64 (GR es p:Int),.int .i64 0]
section
variable {P:Program} {M:List Nat} {W:World} {L:List Ai}
theorem XZ {F:Fr} {d:Option Nat} {f:FuncId} {ACl:Array Operand} {ty:TypeId} {pos:String} {af:Array Edge} {gd:Option (Nat×Bool)} {K:Bool->Value->List Ai->Prop} (hK:K true (.func (.func f) #[] (ACl.map (ev F))) L) :
  XV P M W ⟨d,.makeFunc (.func f) #[] ACl,ty,pos,af,gd⟩ F L K:=fun w hw=>⟨_,_,w,by simp [execOp,Instr.makeFunc],hw,hK⟩
end
theorem Xa {W:World} {b3:Nat} {p:Int} (hP:Sl W W.heap.size 1 (some ⟨b3,0,none⟩) 1 1 [.int .i64 p]) (b:Bw) :
  Calls Tryz.prog 73 #[U5 b,.pointer (some ⟨b3,0,none⟩)] W fun e w'=>e = .returned (.bool (decide (b.ho=p)))/\Below W.heap.size W w':=by
 refine Ab (M:=[]) Tryz.func73 [.tmp 3] (St.nil _ _) ?_
 refine AQ rfl fun K k0=>?_
 simp -implicitDefEqProofs (disch:=first|omega|decide) only [seval, -Int.reducePow, -Nat.reducePow,cC,pv,Ao,Az,undef,EJ,U5]
 intro b2 hb2
 refine k0 _ _ ?_
 have hlt:b3<W.heap.size:=by
  obtain ⟨b',off',e,hb, -⟩:=hP.cells (by omega)
  cases e
  exact hb
 refine AQ rfl fun K k0=>?_
 have zs:=Bd.mk EJ
 refine Ah ?_
 refine Aj (hP.ld1 (m:=1) (i:=0) (by kernel_rfl) rfl) ?_
 refine Ah ?_
 refine k0 _ _ ?_
 refine AP (Cc fun w hw=>?_)
 exact ⟨rfl,hw.below⟩
def uY (bs:List Bw) (p:Int):Int:=match bs.findIdx? (fun b=>decide (b.ho=p)) with
 | some i=>i
 | none => -1
theorem Rv {l:List Bw} {p:Bw->Bool} {i:Nat} {e:Bw} (he:l[i]? = some e) (hp:(l.take i).findIdx? p=none) (h:p e=true):l.findIdx? p=some i:=by
 have hlt:=(List.getElem?_eq_some_iff.1 he).1
 have hge:=(List.getElem?_eq_some_iff.1 he).2
 rw [List.findIdx?_eq_some_iff_getElem]
 refine ⟨hlt,by rw [hge];exact h,fun j hj=>?_⟩
 rw [List.findIdx?_eq_none_iff] at hp
 have:=hp (l[j]'(by omega)) (by rw [List.mem_take_iff_getElem];exact ⟨j,by omega,rfl⟩)
 simpa using this
theorem Rx {l:List Bw} {p:Bw->Bool} {i:Nat} {e:Bw} (he:l[i]? = some e) (hp:(l.take i).findIdx? p=none) (h:p e=false):(l.take (i+1)).findIdx? p=none:=by
 rw [List.findIdx?_eq_none_iff] at hp ⊢
 intro x hx
 rw [List.take_add_one,he] at hx
 rcases List.mem_append.1 hx with hx|hx
 ·exact hp x hx
 ·have:x=e:=by simpa using hx
  rw [this,h]
theorem Yh {W:World} {A:Option Addr} {n c b3:Nat} {bs:List Bw} {p:Int} (h:Sl W W.heap.size 4 A n c (Au bs)) (hn:n<=100000) (hP:Sl W W.heap.size 1 (some ⟨b3,0,none⟩) 1 1 [.int .i64 p]) :
  Calls Tryz.prog 119 #[.slice A n c,.func (.func 73) #[] #[.pointer (some ⟨b3,0,none⟩)]] W fun e w'=>e = .returned (.int .i64 (uY bs p))/\Below W.heap.size W w':=by
 have hlen:=h.len
 rw [BV] at hlen
 refine Ab (M:=[]) Tryz.func119 [.tmp 4] (St.nil _ _) ?_
 have zs:=Bd.mk EJ
 refine Aq ?_
 refine AB fun K k0=>?_
 refine Aq ?_
 refine AV [0,1,7,8] fun G1 g1=>?_
 replace g1:=Bi g1
 refine Ad ?_
 refine BP (fun F' L' => ∃(i:Nat),Az F' G1 [0,1,7]/\F' 8 = .int .i64 (i:Int)/\L'=[]/\i<=n/\(bs.take i).findIdx? (fun b=>decide (b.ho=p))=none) (fun F' L'=>200000-(intOf (F' 8)).toNat) ?_ ?_
 ·refine ⟨0, ?_⟩
  have zg:=Bd.mk g1
  refine AR ?_
  exact ⟨Nat.zero_le _,rfl⟩
 intro G2 L' hI
 obtain ⟨i,zq,QU,rfl,⟨hi,hfn⟩⟩:=hI
 have zg:=Bd.mk g1
 have g2:=And.intro (Bg zq) QU
 replace zg:=Bd.mk (And.intro g1 g2)
 refine BH ?_
 refine AB fun K k1=>?_
 refine Dl (fun hc=>?_) fun hc=>?_
 ·refine AO ?_
  try simp only [BJ,BX]
  have hit:i<n:=by have:=of_decide_eq_true ‹decide ((i:Int)<(n:Int))=true›;omega
  obtain ⟨e,he⟩:∃e,bs[i]? = some e:=⟨_,List.getElem?_eq_getElem (by omega)⟩
  have hld:=FB Bu he
  obtain ⟨bA,oA,rfl,KD, -⟩:=h.cells (by omega)
  refine k1 _ _ ?_
  refine AB fun K k1=>?_
  refine Ad ?_
  refine BH ?_
  refine AQ rfl fun K k2=>?_
  refine AR ?_
  refine Aj (h.ld (i:=i*4) (vs:=V7 e) (by omega) (by kernel_rfl) hld) ?_
  refine AR ?_
  refine Aa (fun w hw=>Xa (hP.at hw) e) ?_
  try refine AR ?_
  refine k2 _ _ ?_
  refine AL ?_
  by_cases h1:e.ho=p
  ·refine Ap h1 ?_
   refine BH ?_
   refine AP (Br fun w hw=>?_)
   have hx:uY bs p=i:=by unfold uY;rw [Rv he hfn (by simpa using h1)]
   rw [hx]
   exact ⟨rfl,hw.below⟩
  ·refine Ap h1 ?_
   refine AO (k1 _ _ ?_)
   refine AF rfl ?_
   refine AR ?_
   refine ⟨⟨i+1, ?_⟩, ?_⟩
   ·refine Ap @Int.natCast_add ?_
    exact ⟨by omega,Rx he hfn (by simpa using h1)⟩
   ·simp only [intOf];omega
 refine BM (k0 _ _ ?_)
 have hin:i=n:=by have:=of_decide_eq_false ‹decide ((i:Int)<(n:Int))=false›;omega
 subst hin
 rw [List.take_of_length_le (by omega)] at hfn
 refine BH ?_
 refine AP (Br fun w hw=>?_)
 have hx:uY bs p = -1:=by unfold uY;rw [hfn]
 rw [hx]
 exact ⟨rfl,hw.below⟩
theorem uZ (bs:List Bw) (p:Int):decide (0<=uY bs p)=bs.any fun b=>decide (b.ho=p):=by
 unfold uY
 cases h:bs.findIdx? (fun b=>decide (b.ho=p)) with
 | some i =>
  obtain ⟨h1,h2, -⟩:=List.findIdx?_eq_some_iff_getElem.1 h
  have:(bs.any fun b=>decide (b.ho=p))=true:=List.any_eq_true.2 ⟨_,List.getElem_mem h1,h2⟩
  rw [this]
  simp
 | none =>
  rw [List.findIdx?_eq_none_iff] at h
  have:(bs.any fun b=>decide (b.ho=p))=false:=List.any_eq_false.2 fun b hb=>by simpa using h b hb
  rw [this]
  rfl
theorem Ry {W:World} {A:Option Addr} {n c b3:Nat} {bs:List Bw} {p:Int} (h:Sl W W.heap.size 4 A n c (Au bs)) (hn:n<=100000) (hP:Sl W W.heap.size 1 (some ⟨b3,0,none⟩) 1 1 [.int .i64 p]) :
  Calls Tryz.prog 72 #[.slice A n c,.func (.func 73) #[] #[.pointer (some ⟨b3,0,none⟩)]] W fun e w'=>e = .returned (.bool (bs.any fun b=>decide (b.ho=p)))/\Below W.heap.size W w':=by
 refine Ab (M:=[]) Tryz.func72 [.tmp 4] (St.nil _ _) ?_
 have zs:=Bd.mk EJ
 refine Aq ?_
 refine AQ rfl fun K k0=>?_
 refine Ah ?_
 refine Aa (fun w hw=>Yh (h.at hw) hn (hP.at hw)) ?_
 try refine Ah ?_
 refine k0 _ _ ?_
 refine AP ⟨_,(by simp -implicitDefEqProofs (disch:=first|omega|decide) only [seval, -Int.reducePow, -Nat.reducePow,cC,pv,Ao,Az,undef,EJ,uZ];rfl),fun w hw=>?_⟩
 exact ⟨rfl,hw.below⟩
theorem EB {α:Type} {l:List α} {i:Nat} {a:α} (h:l[i]? = some a) (p:α->Bool):((l.take (i+1)).filter p).length=((l.take i).filter p).length+if p a=true then 1 else 0:=by
 rw [ET h,List.length_append]
 split<;>rfl
theorem EN {α:Type} (l:List α) (i:Nat) (p:α->Bool):((l.take i).filter p).length<=i:=by
 have h1:=List.length_filter_le p (l.take i)
 have h2:=List.length_take_le i l
 omega
theorem Xb:∀(es:List DZ) (s0 s:HS) (k:Nat),Ed k s0->(∀e∈es,e.ok)->Fp s0 es=some s->Ed (k+es.length) s
 | [],s0,s,k,h,_,hs=>by
  cases hs
  exact h
 | e::es,s0,s,k,h,hok,hs=>by
  simp only [Fp] at hs
  split at hs
  ·cases hs
  ·rename_i s1 h1
   have:=Xb es s1 s (k+1) (h.step (hok e (.head _)) h1) (fun e he=>hok e (.tail _ he)) hs
   rw [List.length_cons,show k+(es.length+1)=k+1+es.length by omega]
   exact this
theorem Xc {α:Type} (l:List (Int×α)):(D9 l).length=l.length:=by
 have:=congrArg List.length (Ht (l:=l))
 rw [List.length_mergeSort] at this
 unfold keys at this
 rw [List.length_map,List.length_map] at this
 exact this
theorem Ux {es:List DZ} {JB:List RP} (hok:∀e∈es,e.ok) (h:(Ur (Fp hs0 es)).1=JB):JB.length<=es.length∧∀r∈JB,r.bs.length<=es.length:=by
 subst h
 cases hs:Fp hs0 es with
 | none=>exact ⟨Nat.zero_le _,fun r hr=>by cases hr⟩
 | some s =>
  have hI:=Xb es hs0 s 0 Uq hok hs
  rw [Nat.zero_add] at hI
  show (O3 s).length<=_/\_
  refine ⟨?_,fun r hr=>?_⟩
  ·unfold O3
   rw [List.length_map,Xc]
   exact hI.len
  ·obtain ⟨q,hq,rfl⟩:=List.mem_map.1 hr
   unfold Uo
   simp only [List.length_map,Xc]
   exact (hI.obj q ((Fh hI.nd).mem_iff.1 hq)).cl
theorem Rz (A:Option Addr) (n c:Nat) (es:List DZ) (p:Int) (W:World) (hE:Sl W W.heap.size 5 A n c (Bc es)) (hok:∀e∈es,e.ok) (hn:n<=900) :
  Calls Tryz.prog 37 #[.slice A n c,.int .i64 p] W fun e w'=>e = .returned (Uw es p)/\Below W.heap.size W w':=by
 have hlen:es.length=n:=by
  have:=hE.len
  unfold Bc at this
  rw [Cr C8] at this
  omega
 refine DY (M:=[]) (n:=66) [.cell 4 110] rfl Tryz.func37 rfl rfl (Nat.le_of_ble_eq_true rfl) (St.nil _ _) ?_
 refine AQ rfl fun K k0=>?_
 have zs:=Bd.mk EJ
 refine Ah ?_
 intro b3 hb3 b4 hb4 r_
 refine k0 _ _ ?_
 refine AQ rfl fun K k0=>?_
 refine Ah ?_
 intro b5 hb5 mi
 refine k0 _ _ ?_
 refine AQ rfl fun K k0=>?_
 refine Ah ?_
 refine DN O4 NF _ (fun w hw=>Ir A n c es w (hE.at hw) hok hn) ?_
 rintro ⟨LA,ln,lc,DF,er⟩ hr
 have J4:=hr.DF
 dsimp only at J4
 obtain ⟨JB,Yi⟩:∃JB,(Ur (Fp hs0 es)).1=JB:=⟨_,rfl⟩
 have b_:Uw es p = .agg #[.int .i64 0,.int .i64 (Kq JB p:Int),.int .i64 (Lc JB p:Int),.int .i64 (GR es p:Int),.int .i64 0]:=by unfold Uw;rw [Yi]
 rw [Yi] at J4
 unfold O4 NF
 dsimp only
 refine Ah ?_
 refine k0 _ _ ?_
 obtain ⟨kK,kL⟩:=Ux hok Yi
 refine Cq (.blk b5 110 [.int .i64 0,.int .i64 0,.int .i64 0,.int .i64 0,.int .i64 0] :: .blk b4 110 [.int .i64 0,.int .i64 0,.int .i64 0,.int .i64 0,.int .i64 0] :: .blk b3 3 [.int .i64 p] :: .row (.slice LA ln lc) 105 6 ln (BS DF)::DF.map Dy) (fun w hw=>hw.perm (List.perm_append_comm (l₁:=[_,_,_]) (l₂:=_::_))) ?_
 have hrl:DF.length=JB.length:=by rw [<-J4,List.length_map]
 refine EX 3 rfl fun hlA=>?_
 have hln:DF.length=ln:=by unfold BS at hlA;rw [Cr Dw] at hlA;omega
 refine AB fun K k0=>?_
 refine Aq ?_
 refine AV [0,3,4,5,17,18,19] fun G3 g3=>?_
 replace g3:=Bi g3
 refine Ad ?_
 refine BP (fun F' L' => ∃(j:Nat),Az F' G3 [0,3,4,5,17,18]/\F' 19 = .int .i64 (j:Int)/\L' = .blk b5 110 [.int .i64 0,.int .i64 (Kq (JB.take j) p:Int),.int .i64 (Lc (JB.take j) p:Int),.int .i64 0,.int .i64 0] :: .blk b4 110 [.int .i64 0,.int .i64 0,.int .i64 0,.int .i64 0,.int .i64 0] :: .blk b3 3 [.int .i64 p] :: .row (.slice LA ln lc) 105 6 ln (BS DF)::DF.map Dy/\j<=ln) (fun F' L'=>2000-(intOf (F' 19)).toNat) ?_ ?_
 ·refine ⟨0, ?_⟩
  have zg:=Bd.mk g3
  refine AR ?_
  exact ⟨rfl,Nat.zero_le _⟩
 intro G4 L' hI
 obtain ⟨j,zq,QO,rfl,hj⟩:=hI
 have zg:=Bd.mk g3
 have g4:=And.intro (Bg zq) QO
 replace zg:=Bd.mk (And.intro g3 g4)
 refine BH ?_
 refine AB fun K k1=>?_
 refine Dl (fun hc=>?_) fun hc=>?_
 ·refine AO ?_
  try simp only [BJ,BX]
  have hit:j<ln:=by have:=of_decide_eq_true ‹decide ((j:Int)<(ln:Int))=true›;omega
  obtain ⟨r,hr1⟩:∃r,DF[j]? = some r:=⟨_,List.getElem?_eq_getElem (by omega)⟩
  have hm1:=List.mem_of_getElem? hr1
  have hrp:JB[j]? = some r.pl:=by rw [<-J4,List.getElem?_map,hr1];rfl
  have hld:=FB Dw hr1
  have ho1:Kq (JB.take (j+1)) p=Kq (JB.take j) p+if r.ow=p then 1 else 0:=by
   have:=EB hrp (fun r=>decide (r.ow=p))
   simp only [decide_eq_true_eq] at this
   exact this
  have hb1:Lc (JB.take (j+1)) p=Lc (JB.take j) p+if Q6 p r.pl=true then 1 else 0:=EB hrp (Q6 p)
  have hcO:Kq (JB.take j) p<=j:=EN ..
  have hcB:Lc (JB.take j) p<=j:=EN ..
  have hrn:=kL r.pl (List.mem_of_getElem? hrp)
  refine k1 _ _ ?_
  refine BQ 3 rfl (by omega) fun g DJ hg Bl=>?_
  subst DJ
  simp only [List.eraseIdx_cons_zero,List.eraseIdx_cons_succ,BC,BD,BI,A_,and_true,List.not_mem_nil,or_false,EJ] at Bl hg
  replace hg:=And.intro hg Bl
  clear Bl
  refine AB fun K k1=>?_
  refine Ad ?_
  refine AQ rfl fun K k2=>?_
  refine AR ?_
  refine Aj (DX (i:=j*6) (vs:=oL r) (AZ (k:=3) rfl) (by kernel_rfl) hld) ?_
  refine AR ?_
  simp only [oL,List.length_cons,List.length_nil,true_and]
  refine AR ?_
  intro b9 pK hf9
  refine k2 _ _ ?_
  refine AV [0,3,4,5,9,17,18,19] fun G5 g5=>?_
  replace g5:=Bg g5
  refine AB fun K k2=>?_
  refine A9 (fun _ _=>True) (fun F' L'=>Az F' G5 [0,3,4,5,9,17,18,19]/\L' = .blk b9 105 [.int .u64 (r.h:Int),.int .i64 r.ow,.int .i64 0,.int .i64 0,.slice none 0 0,.slice r.A r.n r.c] :: .blk b5 110 [.int .i64 0,.int .i64 (Kq (JB.take (j+1)) p:Int),.int .i64 (Lc (JB.take j) p:Int),.int .i64 0,.int .i64 0] :: .blk b4 110 [.int .i64 0,.int .i64 0,.int .i64 0,.int .i64 0,.int .i64 0] :: .blk b3 3 [.int .i64 p] :: .row (.slice (some ⟨g,0,none⟩) ln lc) 105 6 ln (BS DF)::DF.map Dy) ?_ ?_
  ·replace zg:=Bd.mk (And.intro g3 (And.intro g4 g5))
   refine BH ?_
   refine AL ?_
   by_cases h1:r.ow=p
   ·have d1:decide (r.ow=p)=true:=decide_eq_true h1
    rw [if_pos h1] at ho1
    refine Ap d1 ?_
    refine AU rfl ?_
    exact NQ (And.intro ho1 @Int.natCast_add)
   ·rw [if_neg h1] at ho1
    refine Ap h1 ?_
    refine AO ?_
    try simp only [BJ,BX]
    exact NQ (And.intro ho1 @Nat.add_zero)
  intro G6 L' _ hF
  obtain ⟨zq,rfl⟩:=hF
  replace zg:=Bd.mk g5
  have g6:=Bg zq
  refine k2 _ _ ?_
  refine AQ rfl fun K k2=>?_
  replace zg:=Bd.mk (And.intro g3 (And.intro g4 g6))
  refine AR ?_
  refine XZ ?_
  refine AR ?_
  refine Aa (fun w hw=>Ry (Sl.Av hw (.tail _ (.tail _ (.tail _ (.tail _ (.tail _ (List.mem_map.2 ⟨r,hm1,rfl⟩))))))) (by have:=(Sl.Av hw (.tail _ (.tail _ (.tail _ (.tail _ (.tail _ (List.mem_map.2 ⟨r,hm1,rfl⟩))))))).len;rw [BV] at this;have h8:r.bs.length=r.pl.bs.length:=rfl;omega) (Sl.cell1 (by rw [hw.Dz (AZ (k:=3) rfl)];rfl) (hw.own _ (AZ (k:=3) rfl) b3 (by simp [Ai.foot])).2)) ?_
  refine AR ?_
  refine k2 _ _ ?_
  refine AL ?_
  have hany:(r.bs.any fun b=>decide (b.ho=p))=Q6 p r.pl:=rfl
  rw [hany]
  cases hh:Q6 p r.pl with
  | true =>
   rw [hh,if_pos rfl] at hb1
   refine AR ?_
   refine AU rfl ?_
   refine AR ?_
   refine k1 _ _ ?_
   refine Cq (.blk b5 110 [.int .i64 0,.int .i64 (Kq (JB.take (j+1)) p:Int),.int .i64 ((Lc (JB.take j) p:Int)+1),.int .i64 0,.int .i64 0] :: .blk b4 110 [.int .i64 0,.int .i64 0,.int .i64 0,.int .i64 0,.int .i64 0] :: .blk b3 3 [.int .i64 p] :: .row (.slice (some ⟨g,0,none⟩) ln lc) 105 6 ln (BS DF)::DF.map Dy) (fun w hw=>hw.tail) ?_
   refine AF rfl ?_
   refine AR ?_
   refine ⟨⟨j+1, ?_⟩, ?_⟩
   ·refine Ap (And.intro hb1 @Int.natCast_add) ?_
    omega
   ·simp only [intOf];omega
  | false =>
   rw [hh,if_neg (by decide)] at hb1
   refine AR ?_
   refine AO (k1 _ _ ?_)
   refine Cq (.blk b5 110 [.int .i64 0,.int .i64 (Kq (JB.take (j+1)) p:Int),.int .i64 (Lc (JB.take j) p:Int),.int .i64 0,.int .i64 0] :: .blk b4 110 [.int .i64 0,.int .i64 0,.int .i64 0,.int .i64 0,.int .i64 0] :: .blk b3 3 [.int .i64 p] :: .row (.slice (some ⟨g,0,none⟩) ln lc) 105 6 ln (BS DF)::DF.map Dy) (fun w hw=>hw.tail) ?_
   refine AF rfl ?_
   refine AR ?_
   refine ⟨⟨j+1, ?_⟩, ?_⟩
   ·refine Ap (And.intro hb1 (And.intro @Int.natCast_add @Nat.add_zero)) ?_
    omega
   ·simp only [intOf];omega
 refine BM (k0 _ _ ?_)
 have hjn:j=ln:=by have:=of_decide_eq_false ‹decide ((j:Int)<(ln:Int))=false›;omega
 subst hjn
 have hfull:JB.take j=JB:=List.take_of_length_le (by omega)
 rw [hfull]
 refine Cq [.blk b5 110 [.int .i64 0,.int .i64 (Kq JB p:Int),.int .i64 (Lc JB p:Int),.int .i64 0,.int .i64 0],.blk b4 110 [.int .i64 0,.int .i64 0,.int .i64 0,.int .i64 0,.int .i64 0],.blk b3 3 [.int .i64 p]] (fun w hw=>hw.sub (.cons_cons _ (.cons_cons _ (.cons_cons _ (List.nil_sublist _))))) ?_
 refine AB fun K k0=>?_
 refine BH ?_
 refine AV [3,4,5,40,41,42] fun G7 g7=>?_
 replace g7:=Bg g7
 refine Ad ?_
 refine BP (fun F' L' => ∃(i:Nat),Az F' G7 [3,4,5,40,41]/\F' 42 = .int .i64 (i:Int)/\L'=[.blk b5 110 [.int .i64 0,.int .i64 (Kq JB p:Int),.int .i64 (Lc JB p:Int),.int .i64 (GR (es.take i) p:Int),.int .i64 0],.blk b4 110 [.int .i64 0,.int .i64 0,.int .i64 0,.int .i64 0,.int .i64 0],.blk b3 3 [.int .i64 p]]/\i<=n) (fun F' L'=>2000-(intOf (F' 42)).toNat) ?_ ?_
 ·refine ⟨0, ?_⟩
  replace zg:=Bd.mk (And.intro g3 (And.intro g4 g7))
  refine AR ?_
  exact ⟨rfl,Nat.zero_le _⟩
 intro G8 L' hI
 obtain ⟨i,zq,AIC,rfl,hi⟩:=hI
 replace zg:=Bd.mk g7
 have g8:=And.intro (Bg zq) AIC
 replace zg:=Bd.mk (And.intro g3 (And.intro g4 (And.intro g7 g8)))
 refine BH ?_
 refine AB fun K k1=>?_
 refine Dl (fun hc=>?_) fun hc=>?_
 ·refine AO ?_
  try simp only [BJ,BX]
  have hit:i<n:=by have:=of_decide_eq_true ‹decide ((i:Int)<(n:Int))=true›;omega
  obtain ⟨e,he⟩:∃e,es[i]? = some e:=⟨_,List.getElem?_eq_getElem (by omega)⟩
  have hld:=FB C8 he
  have hr1:GR (es.take (i+1)) p=GR (es.take i) p+if KM p e=true then 1 else 0:=EB he (KM p)
  have hcR:GR (es.take i) p<=i:=EN ..
  obtain ⟨bA,oA,rfl,KD, -⟩:=hE.cells (by omega)
  refine k1 _ _ ?_
  refine AB fun K k1=>?_
  refine Ad ?_
  refine AQ rfl fun K k2=>?_
  refine AR ?_
  refine Aj (hE.ld (i:=i*5) (vs:=Xo e) (by omega) (by kernel_rfl) hld) ?_
  refine AR ?_
  simp only [Xo,List.length_cons,List.length_nil,true_and]
  refine AR ?_
  intro b11 eU ABu
  refine k2 _ _ ?_
  refine AV [3,4,5,11,40,41,42] fun G9 g9=>?_
  replace g9:=Bg g9
  refine AB fun K k2=>?_
  refine A9 (fun _ _=>True) (fun F' L'=>Az F' G9 [3,4,5,40,41,42]/\F' 59 = .bool (KM p e)/\L'=[.blk b11 68 [.int .i64 e.pl,.int .i64 e.op,.int .u64 (e.h:Int),.int .u64 (e.ar:Int),.int .i64 e.er],.blk b5 110 [.int .i64 0,.int .i64 (Kq JB p:Int),.int .i64 (Lc JB p:Int),.int .i64 (GR (es.take i) p:Int),.int .i64 0],.blk b4 110 [.int .i64 0,.int .i64 0,.int .i64 0,.int .i64 0,.int .i64 0],.blk b3 3 [.int .i64 p]]) ?_ ?_
  ·unfold KM
   by_cases h1:e.pl=p
   ·have d1:decide (e.pl=p)=true:=decide_eq_true h1
    by_cases h2:e.op=32
    ·have d2:decide (e.op=32)=true:=decide_eq_true h2
     refine AF rfl ?_
     replace zg:=Bd.mk (And.intro g3 (And.intro g4 (And.intro g7 (And.intro g8 g9))))
     exact NQ (And.intro d1 d2)
    ·by_cases h3:e.op=33
     ·have d3:decide (e.op=33)=true:=decide_eq_true h3
      refine AF rfl ?_
      replace zg:=Bd.mk (And.intro g3 (And.intro g4 (And.intro g7 (And.intro g8 g9))))
      exact NQ (And.intro d1 (And.intro h2 d3))
     ·refine AF rfl ?_
      replace zg:=Bd.mk (And.intro g3 (And.intro g4 (And.intro g7 (And.intro g8 g9))))
      exact NQ (And.intro d1 (And.intro h2 h3))
   ·refine AF rfl ?_
    replace zg:=Bd.mk (And.intro g3 (And.intro g4 (And.intro g7 (And.intro g8 g9))))
    exact NQ h1
  intro pW L' _ hF
  obtain ⟨zq,sU,rfl⟩:=hF
  replace zg:=Bd.mk g9
  have g10:=And.intro (Bg zq) sU
  refine k2 _ _ ?_
  refine AL ?_
  cases hh:KM p e with
  | true =>
   rw [hh,if_pos rfl] at hr1
   replace zg:=Bd.mk (And.intro g3 (And.intro g4 (And.intro g7 (And.intro g8 g10))))
   refine Ap hh ?_
   refine AU rfl ?_
   refine AR ?_
   refine k1 _ _ ?_
   refine BF [1,2,3] (by decide) ?_
   simp only [Ag,nth]
   refine AF rfl ?_
   refine AR ?_
   refine ⟨⟨i+1, ?_⟩, ?_⟩
   ·refine Ap (And.intro hr1 @Int.natCast_add) ?_
    omega
   ·simp only [intOf];omega
  | false =>
   rw [hh,if_neg (by decide)] at hr1
   replace zg:=Bd.mk (And.intro g3 (And.intro g4 (And.intro g7 (And.intro g8 g10))))
   refine Ap hh ?_
   refine AO (k1 _ _ ?_)
   refine BF [1,2,3] (by decide) ?_
   simp only [Ag,nth]
   refine AF rfl ?_
   refine AR ?_
   refine ⟨⟨i+1, ?_⟩, ?_⟩
   ·refine Ap (And.intro hr1 (And.intro @Int.natCast_add @Nat.add_zero)) ?_
    omega
   ·simp only [intOf];omega
 refine BM (k0 _ _ ?_)
 have hin:i=n:=by have:=of_decide_eq_false ‹decide ((i:Int)<(n:Int))=false›;omega
 subst hin
 have Yj:es.take i=es:=List.take_of_length_le (by omega)
 rw [Yj]
 refine BH ?_
 refine AP ?_
 simp -implicitDefEqProofs (disch:=first|omega|decide) only [seval, -Int.reducePow, -Nat.reducePow,cC,pv,Ao,Az,undef,EJ,Dx,Cx,Cw,g3,g4,g7,g8]
 intro w hw
 exact ⟨by rw [b_],hw.below⟩
theorem kM {o:Ob} (hn:(keys o.cs).Nodup):((D9 o.cs).map (Zk o)).Pairwise fun a b=>a.ho<b.ho:=by
 rw [List.pairwise_map]
 have h1:=F_ hn
 unfold qI keys at h1
 rw [List.pairwise_map] at h1
 exact h1
theorem filter_one {l:List Bw} (h:l.Pairwise fun a b=>a.ho<b.ho) (p:Int):(l.filter fun b=>decide (b.ho=p)).length=if (l.any fun b=>decide (b.ho=p))=true then 1 else 0:=by
 have h1:=h.sublist (List.filter_sublist (p:=fun b=>decide (b.ho=p)))
 cases hf:l.filter (fun b=>decide (b.ho=p)) with
 | nil =>
  have:¬(l.any fun b=>decide (b.ho=p))=true:=fun ha=>by
   obtain ⟨b,hb,hb2⟩:=List.any_eq_true.1 ha
   have:b∈l.filter (fun b=>decide (b.ho=p)):=List.mem_filter.2 ⟨hb,hb2⟩
   rw [hf] at this
   cases this
  rw [if_neg this]
  rfl
 | cons a t =>
  have ha:=List.mem_filter.1 (show a∈l.filter (fun b=>decide (b.ho=p)) by rw [hf];exact .head _)
  have:(l.any fun b=>decide (b.ho=p))=true:=List.any_eq_true.2 ⟨a,ha⟩
  rw [if_pos this]
  cases t with
  | nil=>rfl
  | cons b t =>
   have hb:=List.mem_filter.1 (show b∈l.filter (fun b=>decide (b.ho=p)) by rw [hf];exact .tail _ (.head _))
   rw [hf] at h1
   have hab:=(List.pairwise_cons.1 h1).1 b (.head _)
   have e1:a.ho=p:=by simpa using ha.2
   have e2:b.ho=p:=by simpa using hb.2
   omega
theorem Xd (p:Int):∀l:List RP,(∀r∈l,r.bs.Pairwise fun a b=>a.ho<b.ho)->ED (l.flatMap RP.bs) p=Lc l p
 | [],_=>rfl
 | r::l,h=>by
  have ih:=Xd p l fun r hr=>h r (.tail _ hr)
  have h1:=filter_one (h r (.head _)) p
  unfold ED at ih ⊢
  unfold Lc at ih ⊢
  rw [List.flatMap_cons,List.filter_append,List.length_append,ih,h1,List.filter_cons]
  have e:Q6 p r=r.bs.any fun b=>decide (b.ho=p):=rfl
  rw [<-e]
  by_cases hh:Q6 p r=true
  ·rw [if_pos hh,if_pos hh,List.length_cons];omega
  ·rw [if_neg hh,if_neg hh];omega
theorem RelB.held {k:Nat} {s:HS} {x:IX} (h:RelB k s x) (hI:Ed k s) (p:Int):ED x.E p=Lc (O3 s) p:=by
 have LF:∀q∈D9 s.os,Rs k q:=fun q hq=>hI.obj q ((Fh hI.nd).mem_iff.1 hq)
 have hE:x.E=(O3 s).flatMap RP.bs:=by
  refine Uu (R:=fun a b=>KT a b=true) j5 h.eS ?_ fun b=>?_
  ·unfold O3
   rw [List.flatMap_map,List.pairwise_flatMap]
   refine ⟨fun q hq=>List.Pairwise.imp ?_ (List.Pairwise.and (kM (LF q hq).nd) (show ((D9 q.2.cs).map (Zk q.2)).Pairwise fun a b=>a.ob=b.ob from by rw [List.pairwise_map];exact List.pairwise_of_forall fun _ _=>rfl)), ?_⟩
   ·intro a b hab
    exact LP.2 (.inr ⟨hab.2,hab.1⟩)
   ·have h1:=F_ hI.nd
    unfold qI keys at h1
    rw [List.pairwise_map] at h1
    refine h1.imp_of_mem fun {a b} ha hb hab x hx y hy=>?_
    obtain ⟨c, -,rfl⟩:=List.mem_map.1 hx
    obtain ⟨d, -,rfl⟩:=List.mem_map.1 hy
    have h2:=(LF a ha).slot
    have h3:=(LF b hb).slot
    refine LP.2 (.inl ?_)
    unfold Zk
    simp only
    omega
  ·rw [h.eM b,List.mem_flatMap]
   constructor
   ·rintro ⟨o,g1,g2,g3⟩
    have hq:=(GD hI.nd (q:=(b.ob,o))).2 g1
    refine ⟨Uo o,List.mem_map.2 ⟨(b.ob,o),hq,rfl⟩,List.mem_map.2 ⟨(b.ho,b.co),(GD (LF _ hq).nd).2 g2, ?_⟩⟩
    have h2:=(LF _ hq).slot
    simp only at h2
    unfold Zk
    rw [<-h2]
    simp only [<-g3]
   ·rintro ⟨r,hr,hb⟩
    obtain ⟨q,hq,rfl⟩:=List.mem_map.1 hr
    obtain ⟨c,hc,rfl⟩:=List.mem_map.1 hb
    have h2:=(LF q hq).slot
    refine ⟨q.2, ?_,(GD (LF q hq).nd).1 hc,rfl⟩
    unfold Zk
    simp only
    rw [<-h2]
    exact (GD hI.nd).1 hq
 rw [hE]
 refine Xd p _ fun r hr=>?_
 obtain ⟨q,hq,rfl⟩:=List.mem_map.1 hr
 exact kM (LF q hq).nd
theorem R3 (A:Option Addr) (n c:Nat) (es:List DZ) (p:Int) (W:World) (hE:Sl W W.heap.size 5 A n c (Bc es)) (hok:∀e∈es,e.ok) (hn:n<=900) :
  Calls Tryz.prog 38 #[.slice A n c,.int .i64 p] W fun e w'=>e = .returned (Uw es p)/\Below W.heap.size W w':=by
 have hlen:es.length=n:=by
  have:=hE.len
  unfold Bc at this
  rw [Cr C8] at this
  omega
 refine DY (M:=[]) (n:=81) [.cell 4 110] rfl Tryz.func38 rfl rfl (Nat.le_of_ble_eq_true rfl) (St.nil _ _) ?_
 refine AQ rfl fun K k0=>?_
 have zs:=Bd.mk EJ
 refine Ah ?_
 intro b4 hb4
 refine k0 _ _ ?_
 refine AQ rfl fun K k0=>?_
 refine Ah ?_
 intro b5 hb5 mi
 refine k0 _ _ ?_
 refine AB fun K k0=>?_
 refine Aq ?_
 refine AV [0,1,4,5,6] fun G1 g1=>?_
 replace g1:=Bi g1
 refine Ad ?_
 refine BP (fun F' L' => ∃(i:Nat),Az F' G1 [0,1,4,5]/\F' 6 = .int .i64 (i:Int)/\L'=[.blk b5 110 [.int .i64 0,.int .i64 0,.int .i64 0,.int .i64 (GR (es.take i) p:Int),.int .i64 0],.blk b4 110 [.int .i64 0,.int .i64 0,.int .i64 0,.int .i64 0,.int .i64 0]]/\i<=n) (fun F' L'=>2000-(intOf (F' 6)).toNat) ?_ ?_
 ·refine ⟨0, ?_⟩
  have zg:=Bd.mk g1
  refine AR ?_
  exact ⟨rfl,Nat.zero_le _⟩
 intro G2 L' hI
 obtain ⟨i,zq,Jq,rfl,hi⟩:=hI
 have zg:=Bd.mk g1
 have g2:=And.intro (Bg zq) Jq
 refine AB fun K k1=>?_
 replace zg:=Bd.mk (And.intro g1 g2)
 refine BH ?_
 refine Dl (fun hc=>?_) fun hc=>?_
 ·refine AO ?_
  try simp only [BJ,BX]
  have hit:i<n:=by have:=of_decide_eq_true ‹decide ((i:Int)<(n:Int))=true›;omega
  obtain ⟨e,he⟩:∃e,es[i]? = some e:=⟨_,List.getElem?_eq_getElem (by omega)⟩
  have hr1:GR (es.take (i+1)) p=GR (es.take i) p+if KM p e=true then 1 else 0:=EB he (KM p)
  have hcR:GR (es.take i) p<=i:=EN ..
  obtain ⟨bA,oA,rfl,KD, -⟩:=hE.cells (by omega)
  refine k1 _ _ ?_
  refine AB fun K k1=>?_
  refine Ad ?_
  refine AB fun K k2=>?_
  refine A9 (fun _ _=>True) (fun F' L'=>Az F' G2 [0,1,4,5,6]/\F' 38 = .bool (KM p e)/\L'=[.blk b5 110 [.int .i64 0,.int .i64 0,.int .i64 0,.int .i64 (GR (es.take i) p:Int),.int .i64 0],.blk b4 110 [.int .i64 0,.int .i64 0,.int .i64 0,.int .i64 0,.int .i64 0]]) ?_ ?_
  ·unfold KM
   refine AF rfl ?_
   refine AR ?_
   refine Aj (hE.ld1 (m:=1) (i:=i*5+0) (by kernel_rfl) (Co C8 he (by omega))) ?_
   refine AR ?_
   by_cases h1:e.pl=p
   ·have d1:decide (e.pl=p)=true:=decide_eq_true h1
    refine Ap d1 ?_
    refine Aj (hE.ld1 (m:=1) (i:=i*5+1) (by kernel_rfl) (Co C8 he (by omega))) ?_
    refine Ap d1 ?_
    by_cases h2:e.op=32
    ·have d2:decide (e.op=32)=true:=decide_eq_true h2
     exact NQ (And.intro d1 d2)
    ·refine Ap (And.intro d1 h2) ?_
     refine Aj (hE.ld1 (m:=1) (i:=i*5+1) (by kernel_rfl) (Co C8 he (by omega))) ?_
     exact NQ (And.intro d1 h2)
   ·exact NQ h1
  intro G3 L' _ hF
  obtain ⟨zq,fM,rfl⟩:=hF
  have g3:=And.intro (Bg zq) fM
  refine k2 _ _ ?_
  refine AL ?_
  cases hh:KM p e with
  | true =>
   rw [hh,if_pos rfl] at hr1
   replace zg:=Bd.mk (And.intro g1 (And.intro g2 g3))
   refine Ap hh ?_
   refine AU rfl ?_
   refine AR ?_
   refine k1 _ _ ?_
   refine AF rfl ?_
   refine AR ?_
   refine ⟨⟨i+1, ?_⟩, ?_⟩
   ·refine Ap (And.intro hr1 @Int.natCast_add) ?_
    omega
   ·simp only [intOf];omega
  | false =>
   rw [hh,if_neg (by decide)] at hr1
   replace zg:=Bd.mk (And.intro g1 (And.intro g2 g3))
   refine Ap hh ?_
   refine AO (k1 _ _ ?_)
   refine AF rfl ?_
   refine AR ?_
   refine ⟨⟨i+1, ?_⟩, ?_⟩
   ·refine Ap (And.intro hr1 (And.intro @Int.natCast_add @Nat.add_zero)) ?_
    omega
   ·simp only [intOf];omega
 refine BM (k0 _ _ ?_)
 have hin:i=n:=by have:=of_decide_eq_false ‹decide ((i:Int)<(n:Int))=false›;omega
 subst hin
 have Yj:es.take i=es:=List.take_of_length_le (by omega)
 rw [Yj]
 refine AQ rfl fun K k0=>?_
 refine AR ?_
 refine DN uU uV _ (fun w hw=>TZ A i c es w (hE.at hw) hok hn) ?_
 rintro (_|⟨bb,sb,LA,ln,lc,EA,en,ec,st,DF,E⟩) hr
 ·have hr':Fp hs0 es=none:=hr
  have b_:Uw es p = .agg #[.int .i64 0,.int .i64 0,.int .i64 0,.int .i64 (GR es p:Int),.int .i64 0]:=by unfold Uw;rw [hr'];rfl
  unfold uU uV
  dsimp only [List.nil_append]
  refine AR ?_
  refine k0 _ _ ?_
  refine AB fun K k0=>?_
  refine BH ?_
  refine AL ?_
  refine AR ?_
  refine BH ?_
  refine AP ?_
  simp -implicitDefEqProofs (disch:=first|omega|decide) only [seval, -Int.reducePow, -Nat.reducePow,cC,pv,Ao,Az,undef,EJ,Dx,Cx,Cw,g1,g2]
  intro w hw
  exact ⟨by rw [b_],hw.below⟩
 obtain ⟨s,x,h1,J4,h3,h4,h5⟩:=hr
 dsimp only at J4 h5
 subst h5
 have Yi:(Ur (Fp hs0 es)).1=O3 s:=by rw [h1];rfl
 obtain ⟨kK,kL⟩:=Ux hok Yi
 have b_:Uw es p = .agg #[.int .i64 0,.int .i64 (Kq (O3 s) p:Int),.int .i64 (Lc (O3 s) p:Int),.int .i64 (GR es p:Int),.int .i64 0]:=by unfold Uw;rw [Yi]
 have kN:=h3.held h4 p
 have hEl:=h3.eL
 obtain ⟨E,hEE⟩:∃E,x.E=E:=⟨_,rfl⟩
 rw [hEE] at kN hEl
 obtain ⟨JB,hrr⟩:∃JB,O3 s=JB:=⟨_,rfl⟩
 rw [hrr] at J4 Yi kK kL b_ kN
 unfold uU uV fbL
 dsimp only
 rw [hEE]
 refine AR ?_
 refine k0 _ _ ?_
 refine Cq (.blk b5 110 [.int .i64 0,.int .i64 0,.int .i64 0,.int .i64 (GR es p:Int),.int .i64 0] :: .blk b4 110 [.int .i64 0,.int .i64 0,.int .i64 0,.int .i64 0,.int .i64 0] :: .blk bb 159 [.slice (some ⟨sb,0,none⟩) 65 65,.slice LA ln lc,.slice EA en ec] :: .row (.slice (some ⟨sb,0,none⟩) 65 65) 3 1 65 (CO st) :: .row (.slice LA ln lc) 105 6 ln (BS DF) :: .row (.slice EA en ec) 163 4 en (Au E)::DF.map Dy) (fun w hw=>hw.perm (List.perm_append_comm (l₁:=[_,_]) (l₂:=_::_))) ?_
 have hrl:DF.length=JB.length:=by rw [<-J4,List.length_map]
 refine EX 4 rfl fun hlA=>?_
 have hln:DF.length=ln:=by unfold BS at hlA;rw [Cr Dw] at hlA;omega
 refine AB fun K k0=>?_
 refine BH ?_
 refine AL ?_
 refine AR ?_
 refine AO (k0 _ _ ?_)
 refine AB fun K k0=>?_
 refine BH ?_
 refine AV [1,4,5,7,9] fun G4 g4=>?_
 replace g4:=Bg g4
 refine Ad ?_
 refine BP (fun F' L' => ∃(j:Nat),Az F' G4 [1,4,5,7]/\F' 9 = .int .i64 (j:Int)/\L' = .blk b5 110 [.int .i64 0,.int .i64 (Kq (JB.take j) p:Int),.int .i64 0,.int .i64 (GR es p:Int),.int .i64 0] :: .blk b4 110 [.int .i64 0,.int .i64 0,.int .i64 0,.int .i64 0,.int .i64 0] :: .blk bb 159 [.slice (some ⟨sb,0,none⟩) 65 65,.slice LA ln lc,.slice EA en ec] :: .row (.slice (some ⟨sb,0,none⟩) 65 65) 3 1 65 (CO st) :: .row (.slice LA ln lc) 105 6 ln (BS DF) :: .row (.slice EA en ec) 163 4 en (Au E)::DF.map Dy/\j<=ln) (fun F' L'=>2000-(intOf (F' 9)).toNat) ?_ ?_
 ·refine ⟨0, ?_⟩
  replace zg:=Bd.mk (And.intro g1 (And.intro g2 g4))
  refine AR ?_
  exact ⟨rfl,Nat.zero_le _⟩
 intro G5 L' hI
 obtain ⟨j,zq,aa,rfl,hj⟩:=hI
 replace zg:=Bd.mk g4
 have g5:=And.intro (Bg zq) aa
 refine EK (bb≠b5) (fun w hw=>hw.l8 2 0 rfl rfl (by decide)) fun hn5=>?_
 refine EK (bb≠b4) (fun w hw=>hw.l8 2 1 rfl rfl (by decide)) fun hn4=>?_
 refine AB fun K k1=>?_
 replace zg:=Bd.mk (And.intro g1 (And.intro g2 (And.intro g4 g5)))
 refine BH ?_
 refine Dl (fun hc=>?_) fun hc=>?_
 ·refine AO ?_
  try simp only [BJ,BX]
  have hit:j<ln:=by have:=of_decide_eq_true ‹decide ((j:Int)<(ln:Int))=true›;omega
  obtain ⟨r,hr1⟩:∃r,DF[j]? = some r:=⟨_,List.getElem?_eq_getElem (by omega)⟩
  have hrp:JB[j]? = some r.pl:=by rw [<-J4,List.getElem?_map,hr1];rfl
  have ho1:Kq (JB.take (j+1)) p=Kq (JB.take j) p+if r.ow=p then 1 else 0:=by
   have:=EB hrp (fun r=>decide (r.ow=p))
   simp only [decide_eq_true_eq] at this
   exact this
  have hcO:Kq (JB.take j) p<=j:=EN ..
  refine k1 _ _ ?_
  refine BQ 4 rfl (by omega) fun g DJ hg Bl=>?_
  subst DJ
  simp only [List.eraseIdx_cons_zero,List.eraseIdx_cons_succ,BC,BD,BI,A_,and_true,List.not_mem_nil,or_false,EJ] at Bl hg
  replace hg:=And.intro hg Bl
  clear Bl
  refine AB fun K k1=>?_
  refine Ad ?_
  refine AQ rfl fun K k2=>?_
  refine AR ?_
  refine Aj (BN (m:=1) (i:=j*6+1) (v:=.int .i64 r.ow) (AZ (k:=4) rfl) rfl (Co Dw hr1 (by omega))) ?_
  refine AR ?_
  refine k2 _ _ ?_
  refine AL ?_
  by_cases h1:r.ow=p
  ·have d1:decide (r.ow=p)=true:=decide_eq_true h1
   rw [if_pos h1] at ho1
   refine Ap d1 ?_
   refine AU rfl ?_
   refine AR ?_
   refine k1 _ _ ?_
   refine AF rfl ?_
   refine AR ?_
   refine ⟨⟨j+1, ?_⟩, ?_⟩
   ·refine Ap (And.intro ho1 @Int.natCast_add) ?_
    omega
   ·simp only [intOf];omega
  ·rw [if_neg h1] at ho1
   refine Ap h1 ?_
   refine AO (k1 _ _ ?_)
   refine AF rfl ?_
   refine AR ?_
   refine ⟨⟨j+1, ?_⟩, ?_⟩
   ·refine Ap (And.intro ho1 (And.intro @Int.natCast_add @Nat.add_zero)) ?_
    omega
   ·simp only [intOf];omega
 refine BM (k0 _ _ ?_)
 have hjn:j=ln:=by have:=of_decide_eq_false ‹decide ((j:Int)<(ln:Int))=false›;omega
 subst hjn
 have hfull:JB.take j=JB:=List.take_of_length_le (by omega)
 rw [hfull]
 refine AQ rfl fun K k0=>?_
 refine AR ?_
 refine Aa (fun w hw=>Nf (JJ.of hw 2 5 rfl rfl (by omega)) p) ?_
 rw [kN]
 refine AR ?_
 refine k0 _ _ ?_
 refine BH ?_
 refine AP ?_
 simp -implicitDefEqProofs (disch:=first|omega|decide) only [seval, -Int.reducePow, -Nat.reducePow,cC,pv,Ao,Az,undef,EJ,Dx,Cx,Cw,g1,g2,g4,g5]
 intro w hw
 exact ⟨by rw [b_],hw.below⟩
def ACo (P:Program) (t:TypeId):Bool:=match P.underlying t with
 | some (.func ..)=>true
 | _=>false
theorem oW {P:Program} {M:List Nat} {W:World} {L:List Ai} {F:Fr} {d:Option Nat} {t u ty:TypeId} {pos:String} {af:Array Edge} {gd:Option (Nat×Bool)} {x y:Operand} {f:Fn} {first cap:Array Value} {K:Bool->Value->List Ai->Prop}
  (ht:ACo P t=true) (hx:ev F x = .func f first cap) (hy:ev F y = .nilFunc) (hK:K true (.bool false) L):XV P M W ⟨d,.binOp .eql t x y u,ty,pos,af,gd⟩ F L K:=fun w hw=>by
 unfold ACo at ht
 split at ht
 ·rename_i a b c hu
  refine ⟨_,_,w, ?_,hw,hK⟩
  have key:∀d,(Op.equalIn (d+1) t (.func f first cap) .nilFunc).run P w = .ok false w:=fun d=>by simp [Op.equalIn,run_underlying hu]
  have hq:(Op.equalIn Op.maxDepth t (.func f first cap) .nilFunc).run P w = .ok false w:=key 9999
  simp [execOp,hx,hy,eqGuard,binOp,Op.equal,hq]
 ·cases ht
theorem Xe {P:Program} {ro:Option Nat} {M:List Nat} {W:World} {n:Nat} {D:List Nat} {F:Fr} {L:List Ai} {Q:Exit->List Nat->Fr->List Ai->Prop} {id:Nat} {l:List Oper} (ix:List Nat) (hnd:ix.Nodup) (hsub:JC (Ag ix L) L) (p:PM) (fin:List Nat) (hm:P.follows .mixedOrders=true) (hd:l.all (fun o=>HV n o.dst)=true) (hs:Region.noSelect l.toArray=true)
  (hp:p.ok .any l.toArray fin 0 (Array.replicate l.toArray.size false)=true) (hz:p.Fx l.toArray.size=true) (hf:p.Db fin=true) (hu:FQ l=true) {K:List Nat->Fr->List Ai->Prop}
  (h:LY P M W n l (Ag ix L) fin true p F L (fun F' L' => ∃jx:List Nat,jx.Nodup/\K D F' (Ag jx L'))):JD P ro M W n (.region id l.toArray true) D F L (ES K Q):=fun a w ha hw=>by
 have h1:fC P l.toArray (Tx M W n (K D)) (St M W (Ag ix L)) fin p { a with defers:=[] } w.drew :=
  E8 (ops:=l.toArray) (JH (by simpa using hd)) (hw.pick hnd).apart p (by simpa using h) ha.ok hw.drew hf (.inr hsub) fun F' L' a' w' hK h1 h2=>by
   obtain ⟨jx,hj,hk⟩:=hK
   exact ⟨F',_,h1,h2.pick hj,hk⟩
 have h2:=Ga _ _ _ _ ((P7 hs (Q:=Tx M W n (K D)) (by intro c d v a w hh;exact hh) p).1 _ _ _ _ hp hz h1)
 have h3:=fF (ro:=ro) (k:=0) (ds:=D.map X5) K3 (by simpa using hu) _ _ _ _ h2
 rw [ha.eta] at h3
 exact wpIn_mono (wpIn_region_any hm h3) (QD fun _ _ h=>h)
structure OwR where
 bx:Nat
 rep:cO
def owV (i:OwR):Value:=.func (.func 75) #[] #[.pointer (some ⟨i.bx,0,none⟩)]
def owL (i:OwR):List Ai:=.blk i.bx 99 [.slice i.rep.A i.rep.n i.rep.c]::NF i.rep
theorem Xf (A:Option Addr) (n c:Nat) (es:List DZ) (W:World) (hE:Sl W W.heap.size 5 A n c (Bc es)) (hok:∀e∈es,e.ok) (hn:n<=900) :
  Calls Tryz.prog 39 #[.slice A n c] W fun en w' => ∃i:OwR,en = .returned (owV i)/\jl es i.rep/\St [] W (owL i) w':=by
 refine Ab (M:=[]) Tryz.func39 [.tmp 2] (St.nil _ _) ?_
 have zs:=Bd.mk EJ
 refine Aq ?_
 refine AQ rfl fun K k0=>?_
 refine Ah ?_
 refine DN O4 NF _ (fun w hw=>Ir A n c es w (hE.at hw) hok hn) ?_
 rintro ⟨LA,ln,lc,DF,er⟩ hr
 unfold O4 NF
 dsimp only
 refine Ah ?_
 intro bx hbx hfx
 refine k0 _ _ ?_
 refine AQ rfl fun K k0=>?_
 refine Ah ?_
 refine XZ ?_
 refine Ah ?_
 refine k0 _ _ ?_
 refine AP (Cc fun w hw=>?_)
 exact ⟨⟨bx,⟨LA,ln,lc,DF,er⟩⟩,rfl,hr,hw⟩
def Xg (r:RO):Array Value := #[.int .u64 (r.h:Int),.int .i64 r.ow]
theorem GL:type_of% (And.intro (And.intro @Nat.mul_one @Ae) (And.intro @cM @cF)):=(And.intro (And.intro @Nat.mul_one @Ae) (And.intro @cM @cF))
theorem kP {W:World} (LA:Option Addr) (ln lc:Nat) (DF:List RO) (bx:Nat) (hn:ln<=1000) (hl:DF.length=ln) :
  pU Tryz.prog [] W 75 #[.pointer (some ⟨bx,0,none⟩)] Xg (fun pre x=>pre++[x] <+: DF) (fun l=>l=DF) (fun pre=>pre <+: DF) [.blk bx 99 [.slice LA ln lc],.row (.slice LA ln lc) 105 6 ln (BS DF)]:=by
 intro l I Ix hdt hY R w hI hw
 obtain ⟨fR,pR,lR,rfl⟩:=hdt _ _ hI
 show Calls Tryz.prog 75 #[.func (.yield l) #[] #[],.pointer (some ⟨bx,0,none⟩)] w _
 refine Si (n:=19) [] rfl Tryz.func75 rfl rfl (Nat.le_of_ble_eq_true rfl)  hw ?_
 refine BU fun K k0=>?_
 refine Ay rfl rfl ?_
 simp -implicitDefEqProofs (disch:=first|omega|decide) only [seval, -Int.reducePow, -Nat.reducePow,cC,pv,Ao,Az,undef,GL]
 refine k0 _ _ _ ?_
 refine Mj fun G1 hG=>?_
 have Kl:=congrFun hG 0
 have Lb:=congrFun hG 5
 have ACp:=congrFun hG 6
 have kQ:=congrFun hG 7
 clear hG
 try simp -implicitDefEqProofs (disch:=first|omega|decide) only [seval, -Int.reducePow, -Nat.reducePow,cC,pv,Ao,Az,undef,GL] at Kl Lb ACp kQ
 have g1:=And.intro Kl (And.intro Lb (And.intro ACp kQ))
 refine FZ ?_
 refine QC (fun F' L' => ∃(i:Nat) (R:Ai),F' 0=G1 0/\F' 5=G1 5/\F' 6=G1 6/\F' 7 = .int .i64 (i:Int)/\L'=[.blk bx 99 [.slice LA ln lc],.row (.slice LA ln lc) 105 6 ln (BS DF),R]/\I (DF.take i) R/\i<=ln) (fun F' L'=>2000-(intOf (F' 7)).toNat) ?_ ?_
 ·refine ⟨0,.dat fR pR lR, ?_⟩
  simp -implicitDefEqProofs (disch:=first|omega|decide) only [seval, -Int.reducePow, -Nat.reducePow,cC,pv,Ao,Az,undef,GL,g1]
  exact ⟨hI,by omega⟩
 intro G2 L' hI
 obtain ⟨i,R,q0,q5,q6,q7,rfl,⟨hIR,hi⟩⟩:=hI
 have g2:=And.intro (q0.trans g1.1) (And.intro (q5.trans g1.2.1) (And.intro (q6.trans g1.2.2.1) q7))
 clear q0 q5 q6 q7
 obtain ⟨fR2,pR2,lR2,rfl⟩:=hdt _ _ hIR
 refine BU fun K k0=>?_
 refine Ay rfl rfl ?_
 simp -implicitDefEqProofs (disch:=first|omega|decide) only [seval, -Int.reducePow, -Nat.reducePow,cC,pv,Ao,Az,undef,GL,g1,g2]
 refine k0 _ _ _ ?_
 refine BU fun K k0=>?_
 refine FL ?_
 simp -implicitDefEqProofs (disch:=first|omega|decide) only [seval, -Int.reducePow, -Nat.reducePow,cC,pv,Ao,Az,undef,GL,g1,g2]
 refine ⟨fun hc=>?_,fun hc=>?_⟩
 ·refine Fy ?_
  try simp only [EM,ES]
  have hit:i<ln:=by have:=of_decide_eq_true ‹decide ((i:Int)<(ln:Int))=true›;omega
  obtain ⟨r,hr1⟩:∃r,DF[i]? = some r:=⟨_,List.getElem?_eq_getElem (by omega)⟩
  have hld:=FB Dw hr1
  have htk:DF.take (i+1)=DF.take i++[r]:=by rw [List.take_add_one,hr1];rfl
  have hpre:DF.take i++[r] <+: DF:=by rw [<-htk];exact List.take_prefix _ _
  refine k0 _ _ _ ?_
  refine Vn 1 rfl (by omega) fun g DJ hg Bl=>?_
  subst DJ
  simp only [List.eraseIdx_cons_zero,List.eraseIdx_cons_succ,BC,BD,BI,A_,and_true,List.not_mem_nil,or_false,GL] at Bl hg
  replace hg:=And.intro hg Bl
  clear Bl
  refine BU fun K k0=>?_
  refine FZ ?_
  refine BU fun K k1=>?_
  refine Ay rfl rfl ?_
  simp -implicitDefEqProofs (disch:=first|omega|decide) only [seval, -Int.reducePow, -Nat.reducePow,cC,pv,Ao,Az,undef,GL,g1,g2]
  refine Aj (DX (i:=i*6) (vs:=oL r) (AZ (k:=1) rfl) (by kernel_rfl) hld) ?_
  simp -implicitDefEqProofs (disch:=first|omega|decide) only [seval, -Int.reducePow, -Nat.reducePow,cC,pv,Ao,Az,undef,GL,g1,g2]
  simp only [oL,List.length_cons,List.length_nil,true_and]
  simp -implicitDefEqProofs (disch:=first|omega|decide) only [seval, -Int.reducePow, -Nat.reducePow,cC,pv,Ao,Az,undef,GL,g1,g2]
  intro b4 hb4 r_
  refine k1 _ _ _ ?_
  refine BU fun K k1=>?_
  refine Z9 (l1:=[_,_,_,_,_]) (l2:=[_]) rfl rfl rfl ?_
  simp -implicitDefEqProofs (disch:=first|omega|decide) only [seval, -Int.reducePow, -Nat.reducePow,cC,pv,Ao,Az,undef,GL,g1,g2]
  refine ⟨l,Xg r,by simp [vB,ev,NT,Xg], ?_⟩
  refine YV.mono (hY (DF.take i) r [_,_,_] (.dat fR2 pR2 lR2) hpre hIR) ?_
  rw [<-htk]
  rintro v L' (⟨rfl,R',hI',rfl⟩|⟨rfl,R',hI',rfl⟩)
  ·obtain ⟨fR4,pR4,lR4,rfl⟩:=hdt _ _ hI'
   simp only [List.cons_append,List.nil_append]
   simp -implicitDefEqProofs (disch:=first|omega|decide) only [seval, -Int.reducePow, -Nat.reducePow,cC,pv,Ao,Az,undef,GL,g1,g2]
   refine k1 _ _ _ ?_
   refine FL ?_
   simp -implicitDefEqProofs (disch:=first|omega|decide) only [seval, -Int.reducePow, -Nat.reducePow,cC,pv,Ao,Az,undef,GL,g1,g2]
   refine Fy ?_
   try simp only [EM,ES]
   refine k0 _ _ _ ?_
   refine Mk [1,2,3] (by decide) ?_
   simp only [Ag,nth]
   refine Ay rfl rfl ?_
   simp -implicitDefEqProofs (disch:=first|omega|decide) only [seval, -Int.reducePow, -Nat.reducePow,cC,pv,Ao,Az,undef,GL,g1,g2]
   refine ⟨⟨i+1,.dat fR4 pR4 lR4, ?_⟩, ?_⟩
   ·simp -implicitDefEqProofs (disch:=first|omega|decide) only [seval, -Int.reducePow, -Nat.reducePow,cC,pv,Ao,Az,undef,GL,Int.natCast_add,g1,g2]
    exact ⟨hI',by omega⟩
   ·simp only [intOf];omega
  ·simp only [List.cons_append,List.nil_append]
   simp -implicitDefEqProofs (disch:=first|omega|decide) only [seval, -Int.reducePow, -Nat.reducePow,cC,pv,Ao,Az,undef,GL,g1,g2]
   refine k1 _ _ _ ?_
   refine FL ?_
   simp -implicitDefEqProofs (disch:=first|omega|decide) only [seval, -Int.reducePow, -Nat.reducePow,cC,pv,Ao,Az,undef,GL,g1,g2]
   refine Y6 ?_
   simp only [mX,ES,EM]
   refine ⟨_,rfl, ?_⟩
   simp -implicitDefEqProofs (disch:=first|omega|decide) only [seval, -Int.reducePow, -Nat.reducePow,cC,pv,Ao,Az,undef,GL,Cx,Cw,g1,g2]
   intro w hw
   exact ⟨⟨_,rfl⟩,.inr ⟨_,_,List.take_prefix _ _,hI',hw.pick (ix:=[1,2,3]) (by decide)⟩⟩
 refine QB ?_
 simp only [EM,ES,if_true,ite_true]
 have hit:¬i<ln:=by have:=of_decide_eq_false ‹decide ((i:Int)<(ln:Int))=false›;omega
 rw [List.take_of_length_le (by omega)] at hIR
 simp only [mX,ES,EM]
 refine ⟨_,rfl, ?_⟩
 simp -implicitDefEqProofs (disch:=first|omega|decide) only [seval, -Int.reducePow, -Nat.reducePow,cC,pv,Ao,Az,undef,GL,Cx,Cw,g1,g2]
 intro w hw
 exact ⟨⟨_,rfl⟩,.inl ⟨_,_,rfl,hIR,hw.pick (ix:=[0,1,2]) (by decide)⟩⟩
theorem PL {P:Program} {ro:Option Nat} {M:List Nat} {W:World} {n:Nat} {c:Code} {D:List Nat} {F:Fr} {L:List Ai} {Q:Exit->List Nat->Fr->List Ai->Prop} (L':List Ai) (h:∀w,St M W L w->St M W L' w) (hc:JD P ro M W n c D F L' Q):JD P ro M W n c D F L Q:=fun a w ha hw=>hc a w ha (h w hw)
theorem N_.of {M:List Nat} {W w:World} {L:List Ai} {A:Option Addr} {n c:Nat} {DF:List RO} (hw:St M W L w) (h1:Ai.row (.slice A n c) 105 6 n (BS DF)∈L) (h2:∀r∈DF,Dy r∈L):N_ w w.heap.size A n c DF:=⟨Sl.Av hw h1,fun r hr=>Sl.Av hw (h2 r hr)⟩
def ev2:List DZ:=[⟨1,32,0,0,0⟩,⟨1,1,72057594054705152,1,0⟩]
theorem uf:∀e∈ev2,e.ok:=fun e he=>by
 simp only [ev2,List.mem_cons,List.not_mem_nil,or_false] at he
 rcases he with rfl|rfl<;>exact ⟨by decide,by decide⟩
theorem AIH:Fp hs0 ev2=some ⟨[(1,true)],[(0,⟨72057594054705152,1,0,[]⟩)]⟩:=by rfl
theorem AII:Ur (Fp hs0 ev2)=([⟨72057594054705152,1,[]⟩],0):=by
 rw [AIH]
 simp [Ur,O3,D9,keys,BL,Uo]
theorem Ws (W:World):Calls Tryz.prog 10 #[] W fun en w'=>en = .returned (.bool true)/\Below W.heap.size W w':=by
 refine Ab (M:=[]) Tryz.func10 [.tmp 0] (St.nil _ _) ?_
 have zs:=Bd.mk EJ
 refine Aq ?_
 refine AQ rfl fun K k0=>?_
 refine Ah ?_
 intro b6 hb6
 refine DN O4 NF _ (fun w hw=>Ir (some ⟨b6,0,none⟩) 2 2 ev2 w (Sl.Av (hw.Fw (size:=5) (n:=2) rfl (by decide)) (.head _)) uf (by decide)) ?_
 rintro ⟨LA,ln,lc,DF,er⟩ ⟨h1,h2⟩
 rw [AII] at h1 h2
 dsimp only at h1 h2
 subst h2
 obtain ⟨r,rfl⟩:∃r,DF=[r]:=by
  have:=congrArg List.length h1
  rw [List.length_map] at this
  exact List.length_eq_one_iff.1 this
 have how:r.ow=1:=by
  have h3:r.pl=⟨72057594054705152,1,[]⟩:=by simpa using h1
  exact congrArg RP.ow h3
 unfold O4 NF
 dsimp only [List.map_cons,List.map_nil,List.cons_append,List.nil_append]
 unfold Dy
 refine Ah ?_
 refine k0 _ _ ?_
 refine EX 0 rfl fun hlA=>?_
 have hln:ln=1:=by
  unfold BS at hlA
  rw [Cr Dw] at hlA
  simp at hlA
  omega
 subst hln
 refine BQ 0 rfl (by omega) fun g DJ hg Bl=>?_
 subst DJ
 simp only [List.eraseIdx_cons_zero,List.eraseIdx_cons_succ,BC,BD,BI,A_,and_true,List.not_mem_nil,or_false,EJ] at Bl hg
 replace hg:=And.intro hg Bl
 clear Bl
 refine AQ rfl fun K k0=>?_
 refine Ah ?_
 refine Aj (BN (m:=1) (i:=0*6+1) (v:=.int .i64 r.ow) (AZ (k:=0) rfl) rfl (Co Dw (l:=[r]) (i:=0) rfl (by omega))) ?_
 refine Ah ?_
 rw [how]
 refine Ah ?_
 refine k0 _ _ ?_
 refine AP (Cc fun w hw=>?_)
 exact ⟨rfl,hw.below⟩
theorem St.ACr {M:List Nat} {W w:World} {a b c r:Ai} {T:List Ai} (hw:St M W (a::b::c::r::T) w) {g:Nat} (hg:g∈r.foot):look T g=none:=by
 cases h:look T g with
 | none=>rfl
 | some cs =>
  obtain ⟨t,ht⟩:=Hy h
  have h1:=(List.pairwise_cons.1 (List.pairwise_cons.1 (List.pairwise_cons.1 hw.apart).2).2).2
  exact absurd (show g∈(Ai.blk g t cs).foot by simp [Ai.foot]) ((List.pairwise_cons.1 h1).1 _ (by simp [ht]) g hg)
def R4 (es:List DZ) (j:Nat) (x:Int):Bool:=(es.take j).all fun f => !decide (f.er=x)
theorem dI {es:List DZ} {j:Nat} {f:DZ} (h:es[j]? = some f) (x:Int):R4 es (j+1) x=(R4 es j x && !decide (f.er=x)):=by
 unfold R4
 rw [List.take_add_one,h]
 simp
theorem Xh {es:List DZ} {j:Nat} {x:Int} : R4 es j x=true↔∀f∈es.take j,¬f.er=x:=by
 unfold R4
 rw [List.all_eq_true]
 simp
theorem oZ (es:List DZ):(Gz es).length<=es.length:=by
 refine XT (p:=fun es=>(Gz es).length<=es.length) (Nat.le_refl _) (fun l a ih=>?_) es
 rw [XY,List.length_append,List.length_singleton]
 split<;>omega
theorem ug (x y u v:Ai) (P Q:List Ai):(x::u::y::v::(P++Q)).Perm (x::y::(P++(u::v::Q))):=by
 have h1:(P++u::v::Q).Perm (u::v::(P++Q)):=List.perm_middle.trans (List.Perm.cons _ List.perm_middle)
 exact List.Perm.cons _ ((List.Perm.swap y u _).trans (h1.symm.cons y))
theorem OD:∀(DF kR:List RO) (g:Nat),look (DF.map Dy++kR.map Dy) g=none
 | [],kR,g=>JU kR g
 | r::DF,kR,g=>OD DF kR g
theorem Bh:type_of% (And.intro (And.intro (And.intro @Nat.mul_one (And.intro @Ae @G_)) (And.intro @cM (And.intro @cF @Ce))) (And.intro (And.intro @Cf (And.intro @Cg @Ch)) (And.intro @Ci (And.intro @JU @OD)))):=(And.intro (And.intro (And.intro @Nat.mul_one (And.intro @Ae @G_)) (And.intro @cM (And.intro @cF @Ce))) (And.intro (And.intro @Cf (And.intro @Cg @Ch)) (And.intro @Ci (And.intro @JU @OD))))
theorem MH (A:Option Addr) (n c:Nat) (es:List DZ) (p:Int) (W:World) (hE:Sl W W.heap.size 5 A n c (Bc es)) (hok:∀e∈es,e.ok) (hn:n<=900) :
  Calls Tryz.prog 11 #[.slice A n c,.int .i64 p] W fun en w'=>en = .returned (.bool true)/\Below W.heap.size W w':=by
 have hlen:es.length=n:=by
  have:=hE.len
  unfold Bc at this
  rw [Cr C8] at this
  omega
 have hw:St [] W [] W:=St.nil [] W
 refine Si (n:=134) [.cell 4 4] rfl Tryz.func11 rfl rfl (Nat.le_of_ble_eq_true rfl)  hw ?_
 refine BU fun K k0=>?_
 refine Ay rfl rfl ?_
 simp -implicitDefEqProofs (disch:=first|omega|decide) only [seval, -Int.reducePow, -Nat.reducePow,cC,pv,Ao,Az,undef,Bh]
 intro b4 hb4
 refine k0 _ _ _ ?_
 refine BU fun K k0=>?_
 refine Ay rfl rfl ?_
 simp -implicitDefEqProofs (disch:=first|omega|decide) only [seval, -Int.reducePow, -Nat.reducePow,cC,pv,Ao,Az,undef,Bh]
 refine DN O4 NF _ (fun w hw=>Ir A n c es w (hE.at hw) hok hn) ?_
 rintro ⟨AA,an,ac,rA,erA⟩ ⟨hA1,hA2⟩
 dsimp only at hA1 hA2
 subst hA2
 unfold O4 NF
 dsimp only
 simp -implicitDefEqProofs (disch:=first|omega|decide) only [seval, -Int.reducePow, -Nat.reducePow,cC,pv,Ao,Az,undef,Bh]
 refine k0 _ _ _ ?_
 refine PL (.blk b4 4 [.bool false] :: .row (.slice AA an ac) 105 6 an (BS rA)::rA.map Dy) (fun w hw=>hw.perm (List.perm_append_singleton _ (_::_)).symm) ?_
 refine BU fun K k0=>?_
 refine Ay rfl rfl ?_
 simp -implicitDefEqProofs (disch:=first|omega|decide) only [seval, -Int.reducePow, -Nat.reducePow,cC,pv,Ao,Az,undef,Bh]
 refine DN O4 NF _ (fun w hw=>XR A n c es w (hE.at hw) hok hn) ?_
 rintro ⟨BA,bn,bc,rB,erB⟩ ⟨hB1,hB2⟩
 dsimp only at hB1 hB2
 subst hB2
 unfold O4 NF
 dsimp only
 simp -implicitDefEqProofs (disch:=first|omega|decide) only [seval, -Int.reducePow, -Nat.reducePow,cC,pv,Ao,Az,undef,Bh]
 intro b7 Z0 mZ
 refine k0 _ _ _ ?_
 refine PL (.blk b7 99 [.slice BA bn bc] :: .blk b4 4 [.bool false] :: .row (.slice BA bn bc) 105 6 bn (BS rB) :: .row (.slice AA an ac) 105 6 an (BS rA)::(rB.map Dy++rA.map Dy)) (fun w hw=>hw.perm (ug _ _ _ _ _ _)) ?_
 obtain ⟨kK,kL⟩:=Ux hok rfl
 have ALK:rA.length<=es.length:=by rw [<-hA1,List.length_map] at kK;exact kK
 have hAB:rA.map RO.pl=rB.map RO.pl:=hA1.trans hB1.symm
 have ALM:rB.length<=es.length:=by have:=congrArg List.length hAB;rw [List.length_map,List.length_map] at this;omega
 refine T9 2 rfl fun hlB=>?_
 refine T9 3 rfl fun hlA=>?_
 have hbn:rB.length=bn:=by unfold BS at hlB;rw [Cr Dw] at hlB;omega
 have han:rA.length=an:=by unfold BS at hlA;rw [Cr Dw] at hlA;omega
 have AIJ:∀r∈rA,r.bs.length<=100000:=fun r hr=>by
  have:=kL r.pl (by rw [<-hA1];exact List.mem_map.2 ⟨r,hr,rfl⟩)
  have h8:r.bs.length=r.pl.bs.length:=rfl
  omega
 refine BU fun K k0=>?_
 refine BU fun K k1=>?_
 refine Ay rfl rfl ?_
 simp -implicitDefEqProofs (disch:=first|omega|decide) only [seval, -Int.reducePow, -Nat.reducePow,cC,pv,Ao,Az,undef,Bh]
 refine Aa (fun w hw=>Yg (N_.of hw (.tail _ (.tail _ (.tail _ (.head _)))) fun r hr=>.tail _ (.tail _ (.tail _ (.tail _ (List.mem_append_right _ (List.mem_map.2 ⟨r,hr,rfl⟩)))))) (N_.of hw (.tail _ (.tail _ (.head _))) fun r hr=>.tail _ (.tail _ (.tail _ (.tail _ (List.mem_append_left _ (List.mem_map.2 ⟨r,hr,rfl⟩)))))) hAB (by omega) AIJ) ?_
 simp -implicitDefEqProofs (disch:=first|omega|decide) only [seval, -Int.reducePow, -Nat.reducePow,cC,pv,Ao,Az,undef,Bh]
 refine Aa (fun w hw=>Rz A n c es p w (hE.at hw) hok hn) ?_
 simp -implicitDefEqProofs (disch:=first|omega|decide) only [seval, -Int.reducePow, -Nat.reducePow,cC,pv,Ao,Az,undef,Bh]
 refine Aa (fun w hw=>R3 A n c es p w (hE.at hw) hok hn) ?_
 simp -implicitDefEqProofs (disch:=first|omega|decide) only [seval, -Int.reducePow, -Nat.reducePow,cC,pv,Ao,Az,undef,Bh,Uw]
 refine k1 _ _ _ ?_
 refine FL ?_
 simp -implicitDefEqProofs (disch:=first|omega|decide) only [seval, -Int.reducePow, -Nat.reducePow,cC,pv,Ao,Az,undef,Bh]
 refine Fy ?_
 try simp only [EM,ES]
 refine k0 _ _ _ ?_
 refine PL [.blk b7 99 [.slice BA bn bc],.blk b4 4 [.bool false],.row (.slice BA bn bc) 105 6 bn (BS rB)] (fun w hw=>hw.sub (.cons_cons _ (.cons_cons _ (.cons_cons _ (List.nil_sublist _))))) ?_
 refine BU fun K k0=>?_
 refine Ay rfl rfl ?_
 simp -implicitDefEqProofs (disch:=first|omega|decide) only [seval, -Int.reducePow, -Nat.reducePow,cC,pv,Ao,Az,undef,Bh]
 refine DN owV owL _ (fun w hw=>Xf A n c es w (hE.at hw) hok hn) ?_
 rintro ⟨bx,⟨OA,qR,oc,rO,erO⟩⟩ ⟨hO1, -⟩
 dsimp only at hO1
 unfold owV owL NF
 dsimp only
 simp -implicitDefEqProofs (disch:=first|omega|decide) only [seval, -Int.reducePow, -Nat.reducePow,cC,pv,Ao,Az,undef,Bh]
 refine k0 _ _ _ ?_
 refine PL [.blk bx 99 [.slice OA qR oc],.row (.slice OA qR oc) 105 6 qR (BS rO),.blk b7 99 [.slice BA bn bc],.blk b4 4 [.bool false],.row (.slice BA bn bc) 105 6 bn (BS rB)] (fun w hw=>hw.sub (.cons_cons _ (.cons_cons _ (List.sublist_append_right _ _)))) ?_
 refine BU fun K k0=>?_
 refine BU fun K k1=>?_
 refine Ay rfl rfl ?_
 simp -implicitDefEqProofs (disch:=first|omega|decide) only [seval, -Int.reducePow, -Nat.reducePow,cC,pv,Ao,Az,undef,Bh]
 refine oW (by kernel_rfl) rfl rfl ?_
 simp -implicitDefEqProofs (disch:=first|omega|decide) only [seval, -Int.reducePow, -Nat.reducePow,cC,pv,Ao,Az,undef,Bh]
 refine k1 _ _ _ ?_
 refine FL ?_
 simp -implicitDefEqProofs (disch:=first|omega|decide) only [seval, -Int.reducePow, -Nat.reducePow,cC,pv,Ao,Az,undef,Bh]
 refine Fy ?_
 try simp only [EM,ES]
 refine k0 _ _ _ ?_
 refine BU fun K k0=>?_
 refine Ay rfl rfl ?_
 simp -implicitDefEqProofs (disch:=first|omega|decide) only [seval, -Int.reducePow, -Nat.reducePow,cC,pv,Ao,Az,undef,Bh]
 intro b10 IU JK
 refine k0 _ _ _ ?_
 have uD:rO.map RO.pl=rB.map RO.pl:=hO1.trans hB1.symm
 have hlO:rO.length=rB.length:=by have:=congrArg List.length uD;rw [List.length_map,List.length_map] at this;exact this
 refine T9 2 rfl fun ACs=>?_
 have hon:rO.length=qR:=by unfold BS at ACs;rw [Cr Dw] at ACs;omega
 refine Mk [1,2,0,3,4,5] (by decide) ?_
 simp only [Ag,nth]
 refine Mj fun G1 hG=>?_
 have Kl:=congrFun hG 0
 have kG:=congrFun hG 4
 have kQ:=congrFun hG 7
 have ACt:=congrFun hG 9
 have qU:=congrFun hG 10
 clear hG
 try simp -implicitDefEqProofs (disch:=first|omega|decide) only [seval, -Int.reducePow, -Nat.reducePow,cC,pv,Ao,Az,undef,Bh] at Kl kG kQ ACt qU
 have g1:=And.intro Kl (And.intro kG (And.intro kQ (And.intro ACt qU)))
 refine BU fun K k0=>?_
 refine BU fun K k1=>?_
 refine Ay rfl rfl ?_
 simp -implicitDefEqProofs (disch:=first|omega|decide) only [seval, -Int.reducePow, -Nat.reducePow,cC,pv,Ao,Az,undef,Bh,g1]
 refine k1 _ _ _ ?_
 refine FZ ?_
 refine X7 (α:=RO) (gf:=75) (lb := #[.pointer (some ⟨bx,0,none⟩)]) (encs:=Xg) (Pn:=fun pre x=>pre++[x] <+: rO) (S:=fun l=>l=rO) (Sp:=fun pre=>pre <+: rO) (A:=[.blk bx 99 [.slice OA qR oc],.row (.slice OA qR oc) 105 6 qR (BS rO)]) [.blk b10 3 [.int .i64 0],.blk b7 99 [.slice BA bn bc],.blk b4 4 [.bool false],.row (.slice BA bn bc) 105 6 bn (BS rB)] ?g ?gb ?it ?ps ?pn ?L
  (fun pre B => ∃(k:Int),k=(pre.length:Int)/\B=[.blk b10 3 [.int .i64 k],.blk b7 99 [.slice BA bn bc],.blk b4 4 [.bool false],.row (.slice BA bn bc) 105 6 bn (BS rB)]) (fun _ _ _=>False) ?h0 ?body ?done ?stop
 case g=>simp -implicitDefEqProofs (disch:=first|omega|decide) only [seval, -Int.reducePow, -Nat.reducePow,cC,pv,Ao,Az,undef,Bh,g1]
 case gb=>kernel_rfl
 case it=>exact kP OA qR oc rO bx (by omega) (by omega)
 case ps=>exact fun _=>rfl
 case pn=>rfl
 case L=>rfl
 case h0=>exact ⟨_,rfl,rfl⟩
 case stop=>exact fun _ _ _ _ _ h=>h.elim
 case body =>
  rintro l pre r R B' hpre ⟨k,hk,rfl⟩
  have hpl:=hpre.length_le
  rw [List.length_append] at hpl
  simp only [List.length_singleton] at hpl
  have hrO:rO[pre.length]? = some r:=by
   obtain ⟨t,ht⟩:=hpre
   rw [<-ht,List.append_assoc]
   simp
  obtain ⟨r',hr'⟩:∃r',rB[pre.length]? = some r':=⟨_,List.getElem?_eq_getElem (by omega)⟩
  have U8:r.pl=r'.pl:=by
   have:=congrArg (fun l=>l[pre.length]?) uD
   simpa [hrO,hr'] using this
  have hph:r.h=r'.h:=congrArg RP.h U8
  have hpw:r.ow=r'.ow:=congrArg RP.ow U8
  subst hk
  simp only [Xg,List.toList_toArray,List.zip_cons_cons,List.zip_nil_right,Vi]
  refine BU fun K k1=>?_
  refine Ay rfl rfl ?_
  simp -implicitDefEqProofs (disch:=first|omega|decide) only [seval, -Int.reducePow, -Nat.reducePow,cC,pv,Ao,Az,undef,Bh,g1]
  refine k1 _ _ _ ?_
  refine Ha rfl rfl ?_
  simp -implicitDefEqProofs (disch:=first|omega|decide) only [seval, -Int.reducePow, -Nat.reducePow,cC,pv,Ao,Az,undef,Bh,g1]
  refine ⟨rfl,[.blk b10 3 [.int .i64 (pre.length:Int)],.blk b7 99 [.slice BA bn bc],.blk b4 4 [.bool false],.row (.slice BA bn bc) 105 6 bn (BS rB)],rfl,fun R'=>?_⟩
  simp only [List.cons_append,List.nil_append]
  refine Vn 3 rfl (by omega) fun g DJ hg Bl=>?_
  subst DJ
  simp only [List.eraseIdx_cons_zero,List.eraseIdx_cons_succ,BC,BD,BI,A_,and_true,List.not_mem_nil,or_false,Bh] at Bl hg
  replace hg:=And.intro hg Bl
  clear Bl
  refine Vo (look [R'] g=none) (fun w hw=>hw.ACr (by simp [Ai.foot,Value.ownBlock])) fun hlk=>?_
  have hge:decide ((bn:Int)<=(pre.length:Int))=false:=decide_eq_false (by omega)
  refine FZ ?_
  refine BU fun K k1=>?_
  refine BU fun K k2=>?_
  refine Ay rfl rfl ?_
  simp -implicitDefEqProofs (disch:=first|omega|decide) only [seval, -Int.reducePow, -Nat.reducePow,cC,pv,Ao,Az,undef,Bh,hge,hlk,g1]
  refine Aj (BN (m:=1) (i:=pre.length*6+0) (v:=.int .u64 (r'.h:Int)) (AZ (k:=3) rfl) rfl (Co Dw hr' (by omega))) ?_
  simp -implicitDefEqProofs (disch:=first|omega|decide) only [seval, -Int.reducePow, -Nat.reducePow,cC,pv,Ao,Az,undef,Bh,hlk,g1]
  rw [hph]
  simp -implicitDefEqProofs (disch:=first|omega|decide) only [seval, -Int.reducePow, -Nat.reducePow,cC,pv,Ao,Az,undef,Bh,hlk,g1]
  refine Aj (BN (m:=1) (i:=pre.length*6+1) (v:=.int .i64 r'.ow) (AZ (k:=3) rfl) rfl (Co Dw hr' (by omega))) ?_
  simp -implicitDefEqProofs (disch:=first|omega|decide) only [seval, -Int.reducePow, -Nat.reducePow,cC,pv,Ao,Az,undef,Bh,hlk,g1]
  rw [hpw]
  simp -implicitDefEqProofs (disch:=first|omega|decide) only [seval, -Int.reducePow, -Nat.reducePow,cC,pv,Ao,Az,undef,Bh,hlk,g1]
  refine k2 _ _ _ ?_
  refine FL ?_
  simp -implicitDefEqProofs (disch:=first|omega|decide) only [seval, -Int.reducePow, -Nat.reducePow,cC,pv,Ao,Az,undef,Bh,g1]
  refine Fy ?_
  try simp only [EM,ES]
  refine k1 _ _ _ ?_
  refine Ha rfl rfl ?_
  simp -implicitDefEqProofs (disch:=first|omega|decide) only [seval, -Int.reducePow, -Nat.reducePow,cC,pv,Ao,Az,undef,Bh,g1]
  refine ⟨_,rfl,_, ?_,rfl⟩
  rw [List.length_append]
  rfl
 case done =>
  rintro d xs' B' rfl ⟨k,hk,rfl⟩
  rw [hlO] at hk
  subst hk
  simp only [List.cons_append,List.nil_append]
  simp -implicitDefEqProofs (disch:=first|omega|decide) only [seval, -Int.reducePow, -Nat.reducePow,cC,pv,Ao,Az,undef,Bh,g1]
  refine k0 _ _ _ ?_
  refine Mk [3,4,5,6,0] (by decide) ?_
  simp only [Ag,nth]
  refine BU fun K k0=>?_
  refine Ay rfl rfl ?_
  simp -implicitDefEqProofs (disch:=first|omega|decide) only [seval, -Int.reducePow, -Nat.reducePow,cC,pv,Ao,Az,undef,Bh,g1]
  refine DN uX (fun b=>[Ef b (Bo (Value.int .i64) (Gz es))]) _ (fun w hw=>Uv (hE.at hw) (by omega)) ?_
  intro bm _
  unfold uX
  dsimp only [List.cons_append,List.nil_append]
  simp -implicitDefEqProofs (disch:=first|omega|decide) only [seval, -Int.reducePow, -Nat.reducePow,cC,pv,Ao,Az,undef,Bh,g1]
  refine k0 _ _ _ ?_
  refine BU fun K k0=>?_
  refine Ay rfl rfl ?_
  simp -implicitDefEqProofs (disch:=first|omega|decide) only [seval, -Int.reducePow, -Nat.reducePow,cC,pv,Ao,Az,undef,Bh,g1]
  refine k0 _ _ _ ?_
  refine BU fun K k0=>?_
  refine BU fun K k1=>?_
  refine Ay rfl rfl ?_
  simp -implicitDefEqProofs (disch:=first|omega|decide) only [seval, -Int.reducePow, -Nat.reducePow,cC,pv,Ao,Az,undef,Bh,g1]
  refine k1 _ _ _ ?_
  refine Mj fun G2 hG=>?_
  have Oz:=congrFun hG 0
  have kH:=congrFun hG 4
  have ACu:=congrFun hG 7
  have qV:=congrFun hG 10
  have qW:=congrFun hG 13
  have qX:=congrFun hG 14
  have qY:=congrFun hG 81
  have qZ:=congrFun hG 82
  clear hG
  try simp -implicitDefEqProofs (disch:=first|omega|decide) only [seval, -Int.reducePow, -Nat.reducePow,cC,pv,Ao,Az,undef,Bh,g1] at Oz kH ACu qV qW qX qY qZ
  have g2:=And.intro Oz (And.intro kH (And.intro ACu (And.intro qV (And.intro qW (And.intro qX (And.intro qY qZ))))))
  refine FZ ?_
  refine QC (fun F' L' => ∃(i:Nat),F' 0=G2 0/\F' 4=G2 4/\F' 7=G2 7/\F' 10=G2 10/\F' 13=G2 13/\F' 14 = .int .i64 ((Gz (es.take i)).length:Int)/\F' 81=G2 81/\F' 82 = .int .i64 (i:Int)/\L'=[Ef bm (Bo (Value.int .i64) (Gz es)),.blk b10 3 [.int .i64 (rB.length:Int)],.blk b7 99 [.slice BA bn bc],.blk b4 4 [.bool false],.row (.slice BA bn bc) 105 6 bn (BS rB),HZ d]/\i<=n) (fun F' L'=>2000-(intOf (F' 82)).toNat) ?_ ?_
  ·refine ⟨0, ?_⟩
   simp -implicitDefEqProofs (disch:=first|omega|decide) only [seval, -Int.reducePow, -Nat.reducePow,cC,pv,Ao,Az,undef,Bh,g2]
   exact ⟨rfl,Nat.zero_le _⟩
  intro G3 L' hI
  obtain ⟨i,q0,q4,q7,RN,kS,kT,kU,kV,rfl,hi⟩:=hI
  have g3:=And.intro (q0.trans g2.1) (And.intro (q4.trans g2.2.1) (And.intro (q7.trans g2.2.2.1) (And.intro (RN.trans g2.2.2.2.1) (And.intro (kS.trans g2.2.2.2.2.1) (And.intro kT (And.intro (kU.trans g2.2.2.2.2.2.2.1) kV))))))
  clear q0 q4 q7 RN kS kT kU kV
  refine BU fun K k1=>?_
  refine Ay rfl rfl ?_
  simp -implicitDefEqProofs (disch:=first|omega|decide) only [seval, -Int.reducePow, -Nat.reducePow,cC,pv,Ao,Az,undef,Bh,g2,g3]
  refine k1 _ _ _ ?_
  refine BU fun K k1=>?_
  refine FL ?_
  simp -implicitDefEqProofs (disch:=first|omega|decide) only [seval, -Int.reducePow, -Nat.reducePow,cC,pv,Ao,Az,undef,Bh,g2,g3]
  refine ⟨fun hc=>?_,fun hc=>?_⟩
  ·refine Fy ?_
   try simp only [EM,ES]
   have hit:i<n:=by have:=of_decide_eq_true ‹decide ((i:Int)<(n:Int))=true›;omega
   obtain ⟨e,he⟩:∃e,es[i]? = some e:=⟨_,List.getElem?_eq_getElem (by omega)⟩
   have htk:es.take (i+1)=es.take i++[e]:=by rw [List.take_add_one,he];rfl
   have hrl:=XY (es.take i) e
   rw [<-htk] at hrl
   have AIK:=oZ (es.take i)
   rw [List.length_take] at AIK
   have hgd:¬e.er=0->(BL (Gz es) e.er).getD 0=(IY es e.er:Int):=fun h1=>by
    rw [Q5 _ _ h1]
    by_cases h0:IY es e.er=0<;>simp [h0]
   have hEA:=hE
   obtain ⟨bA,oA,rfl,KD, -⟩:=hE.cells (by omega)
   refine k1 _ _ _ ?_
   refine BU fun K k1=>?_
   refine FZ ?_
   refine BU fun K k2=>?_
   refine Ay rfl rfl ?_
   simp -implicitDefEqProofs (disch:=first|omega|decide) only [seval, -Int.reducePow, -Nat.reducePow,cC,pv,Ao,Az,undef,Bh,g2,g3]
   refine k2 _ _ _ ?_
   refine BU fun K k2=>?_
   refine Ay rfl rfl ?_
   simp -implicitDefEqProofs (disch:=first|omega|decide) only [seval, -Int.reducePow, -Nat.reducePow,cC,pv,Ao,Az,undef,Bh,g2,g3]
   refine Aj (hE.ld1 (m:=1) (i:=i*5+4) (v:=.int .i64 e.er) (by kernel_rfl) (Co C8 he (by omega))) ?_
   simp -implicitDefEqProofs (disch:=first|omega|decide) only [seval, -Int.reducePow, -Nat.reducePow,cC,pv,Ao,Az,undef,Bh,g2,g3]
   refine k2 _ _ _ ?_
   refine Mj fun G4 hG=>?_
   have ACv:=congrFun hG 0
   have oV:=congrFun hG 4
   have ACw:=congrFun hG 7
   have qc:=congrFun hG 10
   have qd:=congrFun hG 13
   have qf:=congrFun hG 14
   have qg:=congrFun hG 15
   have qh:=congrFun hG 16
   have qi:=congrFun hG 81
   have qj:=congrFun hG 82
   clear hG
   try simp -implicitDefEqProofs (disch:=first|omega|decide) only [seval, -Int.reducePow, -Nat.reducePow,cC,pv,Ao,Az,undef,Bh,g2,g3] at ACv oV ACw qc qd qf qg qh qi qj
   have g4:=And.intro ACv (And.intro oV (And.intro ACw (And.intro qc (And.intro qd (And.intro qf (And.intro qg (And.intro qh (And.intro qi qj))))))))
   refine BU fun K k2=>?_
   refine BU fun K k3=>?_
   refine Y5 (fun _ _=>True) (fun F' L'=>F' 0=G4 0/\F' 4=G4 4/\F' 7=G4 7/\F' 10=G4 10/\F' 13=G4 13/\F' 14=G4 14/\F' 15=G4 15/\F' 16=G4 16/\F' 81=G4 81/\F' 82=G4 82/\F' 100 = .bool false/\L'=[Ef bm (Bo (Value.int .i64) (Gz es)),.blk b10 3 [.int .i64 (rB.length:Int)],.blk b7 99 [.slice BA bn bc],.blk b4 4 [.bool false],.row (.slice BA bn bc) 105 6 bn (BS rB),HZ d]) ?_ ?_
   ·by_cases h0:e.er=0
    ·refine Xe [] (by decide) (by simp only [Ag,nth,Be,Bv,List.mem_cons,true_or,or_true,and_true,eq_self]) (.rd 0 (.rd 1 (.rd 2 (.rd 3 (.rd 4 (.rd 6 (.rd 7 (.more 5 (.act 8 (.rd 9 (.rd 10 (.done)))) (.act 8 (.act 5 (.rd 9 (.rd 10 (.done))))))))))))) [] CB rfl (by kernel_rfl) (by kernel_rfl) (by kernel_rfl) (by kernel_rfl) rfl ?_
     simp only [Ag,nth]
     simp -implicitDefEqProofs (disch:=first|omega|decide) only [seval, -Int.reducePow, -Nat.reducePow,cC,pv,Ao,Az,undef,Bh,h0,g2,g3,g4]
     exact ⟨⟨[0,1,2,3,4,5],by decide,rfl⟩,[0,1,2,3,4,5],by decide,rfl⟩
    ·refine Xe [] (by decide) (by simp only [Ag,nth,Be,Bv,List.mem_cons,true_or,or_true,and_true,eq_self]) (.rd 0 (.rd 1 (.rd 2 (.rd 3 (.rd 4 (.rd 6 (.rd 7 (.more 5 (.act 8 (.rd 9 (.rd 10 (.done)))) (.act 8 (.act 5 (.rd 9 (.rd 10 (.done))))))))))))) [] CB rfl (by kernel_rfl) (by kernel_rfl) (by kernel_rfl) (by kernel_rfl) rfl ?_
     simp only [Ag,nth]
     simp -implicitDefEqProofs (disch:=first|omega|decide) only [seval, -Int.reducePow, -Nat.reducePow,cC,pv,Ao,Az,undef,Bh,h0,g2,g3,g4]
     refine And.intro ?_ ?_
     ·refine DD kJ rfl rfl (fun w hw=>hw.Nu 0 rfl) ?_
      rw [Cu,FO,hgd h0]
      simp -implicitDefEqProofs (disch:=first|omega|decide) only [seval, -Int.reducePow, -Nat.reducePow,cC,pv,Ao,Az,undef,Bh,h0,g2,g3,g4]
      refine Aa (fun w hw=>NK (hE.at hw) (by omega) e.er) ?_
      simp -implicitDefEqProofs (disch:=first|omega|decide) only [seval, -Int.reducePow, -Nat.reducePow,cC,pv,Ao,Az,undef,Bh,h0,g2,g3,g4]
      refine ⟨[0,1,2,3,4,5],by decide, ?_⟩
      simp only [Ag,nth]
     ·refine Aa (fun w hw=>NK (hE.at hw) (by omega) e.er) ?_
      simp -implicitDefEqProofs (disch:=first|omega|decide) only [seval, -Int.reducePow, -Nat.reducePow,cC,pv,Ao,Az,undef,Bh,h0,g2,g3,g4]
      refine DD kJ rfl rfl (fun w hw=>hw.Nu 0 rfl) ?_
      rw [Cu,FO,hgd h0]
      simp -implicitDefEqProofs (disch:=first|omega|decide) only [seval, -Int.reducePow, -Nat.reducePow,cC,pv,Ao,Az,undef,Bh,h0,g2,g3,g4]
      refine ⟨[0,1,2,3,4,5],by decide, ?_⟩
      simp only [Ag,nth]
   intro G5 L' _ hF
   obtain ⟨q0,q4,q7,RN,kS,kT,q15,q16,kU,kV,ACy,rfl⟩:=hF
   have g5:=And.intro (q0.trans g4.1) (And.intro (q4.trans g4.2.1) (And.intro (q7.trans g4.2.2.1) (And.intro (RN.trans g4.2.2.2.1) (And.intro (kS.trans g4.2.2.2.2.1) (And.intro (kT.trans g4.2.2.2.2.2.1) (And.intro (q15.trans g4.2.2.2.2.2.2.1) (And.intro (q16.trans g4.2.2.2.2.2.2.2.1) (And.intro (kU.trans g4.2.2.2.2.2.2.2.2.1) (And.intro (kV.trans g4.2.2.2.2.2.2.2.2.2) ACy)))))))))
   clear q0 q4 q7 RN kS kT q15 q16 kU kV ACy
   refine k3 _ _ _ ?_
   refine FL ?_
   simp -implicitDefEqProofs (disch:=first|omega|decide) only [seval, -Int.reducePow, -Nat.reducePow,cC,pv,Ao,Az,undef,Bh,g2,g3,g5]
   refine Fy ?_
   try simp only [EM,ES]
   refine k2 _ _ _ ?_
   refine BU fun K k2=>?_
   refine Ay rfl rfl ?_
   simp -implicitDefEqProofs (disch:=first|omega|decide) only [seval, -Int.reducePow, -Nat.reducePow,cC,pv,Ao,Az,undef,Bh,g2,g3,g5]
   refine k2 _ _ _ ?_
   refine BU fun K k2=>?_
   refine BU fun K k3=>?_
   refine Ay rfl rfl ?_
   simp -implicitDefEqProofs (disch:=first|omega|decide) only [seval, -Int.reducePow, -Nat.reducePow,cC,pv,Ao,Az,undef,Bh,g2,g3,g5]
   refine k3 _ _ _ ?_
   refine Mj fun G6 hG=>?_
   have ACz:=congrFun hG 0
   have AC0:=congrFun hG 4
   have AC1:=congrFun hG 7
   have ql:=congrFun hG 10
   have qm:=congrFun hG 13
   have qp:=congrFun hG 14
   have qx:=congrFun hG 15
   have qy:=congrFun hG 16
   have qz:=congrFun hG 17
   have q9:=congrFun hG 18
   have q_:=congrFun hG 81
   have rC:=congrFun hG 82
   clear hG
   try simp -implicitDefEqProofs (disch:=first|omega|decide) only [seval, -Int.reducePow, -Nat.reducePow,cC,pv,Ao,Az,undef,Bh,g2,g3,g5] at ACz AC0 AC1 ql qm qp qx qy qz q9 q_ rC
   have g6:=And.intro ACz (And.intro AC0 (And.intro AC1 (And.intro ql (And.intro qm (And.intro qp (And.intro qx (And.intro qy (And.intro qz (And.intro q9 (And.intro q_ rC))))))))))
   refine FZ ?_
   refine QC (fun F' L' => ∃(j:Nat),F' 0=G6 0/\F' 4=G6 4/\F' 7=G6 7/\F' 10=G6 10/\F' 13=G6 13/\F' 14=G6 14/\F' 15=G6 15/\F' 16=G6 16/\F' 17 = .bool (R4 es j e.er)/\F' 18 = .int .i64 (j:Int)/\F' 81=G6 81/\F' 82=G6 82/\L'=[Ef bm (Bo (Value.int .i64) (Gz es)),.blk b10 3 [.int .i64 (rB.length:Int)],.blk b7 99 [.slice BA bn bc],.blk b4 4 [.bool false],.row (.slice BA bn bc) 105 6 bn (BS rB),HZ d]/\j<=i) (fun F' L'=>2000-(intOf (F' 18)).toNat) ?_ ?_
   ·refine ⟨0, ?_⟩
    simp -implicitDefEqProofs (disch:=first|omega|decide) only [seval, -Int.reducePow, -Nat.reducePow,cC,pv,Ao,Az,undef,Bh,g2,g3,g6]
    exact ⟨rfl,Nat.zero_le _⟩
   intro G7 L' hI
   obtain ⟨j,q0,q4,q7,RN,kS,kT,q15,q16,q17,q18,kU,kV,rfl,hj⟩:=hI
   have g7:=And.intro (q0.trans g6.1) (And.intro (q4.trans g6.2.1) (And.intro (q7.trans g6.2.2.1) (And.intro (RN.trans g6.2.2.2.1) (And.intro (kS.trans g6.2.2.2.2.1) (And.intro (kT.trans g6.2.2.2.2.2.1) (And.intro (q15.trans g6.2.2.2.2.2.2.1) (And.intro (q16.trans g6.2.2.2.2.2.2.2.1) (And.intro q17 (And.intro q18 (And.intro (kU.trans g6.2.2.2.2.2.2.2.2.2.2.1) (kV.trans g6.2.2.2.2.2.2.2.2.2.2.2)))))))))))
   clear q0 q4 q7 RN kS kT q15 q16 q17 q18 kU kV
   refine BU fun K k3=>?_
   refine BU fun K k4=>?_
   refine Ay rfl rfl ?_
   simp -implicitDefEqProofs (disch:=first|omega|decide) only [seval, -Int.reducePow, -Nat.reducePow,cC,pv,Ao,Az,undef,Bh,g2,g3,g6,g7]
   refine k4 _ _ _ ?_
   refine FL ?_
   simp -implicitDefEqProofs (disch:=first|omega|decide) only [seval, -Int.reducePow, -Nat.reducePow,cC,pv,Ao,Az,undef,Bh,g2,g3,g6,g7]
   refine ⟨fun hc=>?_,fun hc=>?_⟩
   ·have hjt:j<i:=by have:=of_decide_eq_true hc;omega
    obtain ⟨f,hf⟩:∃f,es[j]? = some f:=⟨_,List.getElem?_eq_getElem (by omega)⟩
    have hfs:=dI hf e.er
    refine Fy ?_
    try simp only [EM,ES]
    refine k3 _ _ _ ?_
    refine BU fun K k3=>?_
    refine FZ ?_
    refine Ha rfl rfl ?_
    cases vI:R4 es j e.er with
    | false =>
     rw [vI] at hfs
     simp -implicitDefEqProofs (disch:=first|omega|decide) only [seval, -Int.reducePow, -Nat.reducePow,cC,pv,Ao,Az,undef,Bh,vI,g2,g3,g6,g7]
     refine k3 _ _ _ ?_
     refine Ay rfl rfl ?_
     simp -implicitDefEqProofs (disch:=first|omega|decide) only [seval, -Int.reducePow, -Nat.reducePow,cC,pv,Ao,Az,undef,Bh,g2,g3,g6,g7]
     refine ⟨⟨j+1, ?_⟩, ?_⟩
     ·simp -implicitDefEqProofs (disch:=first|omega|decide) only [seval, -Int.reducePow, -Nat.reducePow,cC,pv,Ao,Az,undef,Bh,hfs,Int.natCast_add,g2,g3,g6,g7]
      omega
     ·simp only [intOf];omega
    | true =>
     rw [vI] at hfs
     simp -implicitDefEqProofs (disch:=first|omega|decide) only [seval, -Int.reducePow, -Nat.reducePow,cC,pv,Ao,Az,undef,Bh,vI,g2,g3,g6,g7]
     refine Aj (hE.ld1 (m:=1) (i:=j*5+4) (v:=.int .i64 f.er) (by kernel_rfl) (Co C8 hf (by omega))) ?_
     simp -implicitDefEqProofs (disch:=first|omega|decide) only [seval, -Int.reducePow, -Nat.reducePow,cC,pv,Ao,Az,undef,Bh,g2,g3,g6,g7]
     refine k3 _ _ _ ?_
     refine Ay rfl rfl ?_
     simp -implicitDefEqProofs (disch:=first|omega|decide) only [seval, -Int.reducePow, -Nat.reducePow,cC,pv,Ao,Az,undef,Bh,g2,g3,g6,g7]
     refine ⟨⟨j+1, ?_⟩, ?_⟩
     ·simp -implicitDefEqProofs (disch:=first|omega|decide) only [seval, -Int.reducePow, -Nat.reducePow,cC,pv,Ao,Az,undef,Bh,hfs,Int.natCast_add,g2,g3,g6,g7]
      omega
     ·simp only [intOf];omega
   refine QB ?_
   simp only [EM,ES,if_true,ite_true]
   refine k2 _ _ _ ?_
   have hji:j=i:=by have:=of_decide_eq_false hc;omega
   subst hji
   refine BU fun K k2=>?_
   refine Y5 (fun _ _=>True) (fun F' L'=>F' 0=G7 0/\F' 4=G7 4/\F' 7=G7 7/\F' 10=G7 10/\F' 13=G7 13/\F' 14=G7 14/\F' 81=G7 81/\F' 82=G7 82/\F' 120 = .bool (!decide (e.er=0)&&R4 es j e.er)/\L'=[Ef bm (Bo (Value.int .i64) (Gz es)),.blk b10 3 [.int .i64 (rB.length:Int)],.blk b7 99 [.slice BA bn bc],.blk b4 4 [.bool false],.row (.slice BA bn bc) 105 6 bn (BS rB),HZ d]) ?_ ?_
   ·by_cases h0:e.er=0
    ·refine Ay rfl rfl ?_
     simp -implicitDefEqProofs (disch:=first|omega|decide) only [seval, -Int.reducePow, -Nat.reducePow,cC,pv,Ao,Az,undef,Bh,h0,g2,g3,g6,g7]
    ·refine Ay rfl rfl ?_
     simp -implicitDefEqProofs (disch:=first|omega|decide) only [seval, -Int.reducePow, -Nat.reducePow,cC,pv,Ao,Az,undef,Bh,h0,g2,g3,g6,g7]
   intro G8 L' _ hF
   obtain ⟨q0,q4,q7,RN,kS,kT,kU,kV,AC2,rfl⟩:=hF
   have g8:=And.intro (q0.trans g7.1) (And.intro (q4.trans g7.2.1) (And.intro (q7.trans g7.2.2.1) (And.intro (RN.trans g7.2.2.2.1) (And.intro (kS.trans g7.2.2.2.2.1) (And.intro (kT.trans g7.2.2.2.2.2.1) (And.intro (kU.trans g7.2.2.2.2.2.2.2.2.2.2.1) (And.intro (kV.trans g7.2.2.2.2.2.2.2.2.2.2.2) AC2)))))))
   clear q0 q4 q7 RN kS kT kU kV AC2
   refine k2 _ _ _ ?_
   refine FL ?_
   cases hb:(!decide (e.er=0)&&R4 es j e.er) with
   | true =>
    obtain ⟨hb1,hb2⟩:=Bool.and_eq_true_iff.1 hb
    rw [if_pos ⟨fun h0=>(by rw [h0] at hb1;cases hb1),Xh.1 hb2⟩] at hrl
    simp -implicitDefEqProofs (disch:=first|omega|decide) only [seval, -Int.reducePow, -Nat.reducePow,cC,pv,Ao,Az,undef,Bh,hb,g2,g3,g6,g7,g8]
    refine Ha rfl rfl ?_
    simp -implicitDefEqProofs (disch:=first|omega|decide) only [seval, -Int.reducePow, -Nat.reducePow,cC,pv,Ao,Az,undef,Bh,g2,g3,g6,g7,g8]
    refine k1 _ _ _ ?_
    refine Ay rfl rfl ?_
    simp -implicitDefEqProofs (disch:=first|omega|decide) only [seval, -Int.reducePow, -Nat.reducePow,cC,pv,Ao,Az,undef,Bh,g2,g3,g6,g7,g8]
    refine ⟨⟨j+1, ?_⟩, ?_⟩
    ·simp -implicitDefEqProofs (disch:=first|omega|decide) only [seval, -Int.reducePow, -Nat.reducePow,cC,pv,Ao,Az,undef,Bh,hrl,Int.natCast_add,g2,g3,g6,g7,g8]
     omega
    ·simp only [intOf];omega
   | false =>
    rw [if_neg (fun h0=>by
     have h1:(!decide (e.er=0)&&R4 es j e.er)=true:=Bool.and_eq_true_iff.2 ⟨by rw [decide_eq_false h0.1];rfl,Xh.2 h0.2⟩
     rw [hb] at h1
     cases h1)] at hrl
    simp -implicitDefEqProofs (disch:=first|omega|decide) only [seval, -Int.reducePow, -Nat.reducePow,cC,pv,Ao,Az,undef,Bh,hb,g2,g3,g6,g7,g8]
    refine Fy ?_
    try simp only [EM,ES]
    refine k1 _ _ _ ?_
    refine Ay rfl rfl ?_
    simp -implicitDefEqProofs (disch:=first|omega|decide) only [seval, -Int.reducePow, -Nat.reducePow,cC,pv,Ao,Az,undef,Bh,g2,g3,g6,g7,g8]
    refine ⟨⟨j+1, ?_⟩, ?_⟩
    ·simp -implicitDefEqProofs (disch:=first|omega|decide) only [seval, -Int.reducePow, -Nat.reducePow,cC,pv,Ao,Az,undef,Bh,hrl,Int.natCast_add,Nat.add_zero,g2,g3,g6,g7,g8]
     omega
    ·simp only [intOf];omega
  refine QB ?_
  simp only [EM,ES,if_true,ite_true]
  refine k0 _ _ _ ?_
  have hin:i=n:=by have:=of_decide_eq_false ‹decide ((i:Int)<(n:Int))=false›;omega
  subst hin
  have hfull:es.take i=es:=List.take_of_length_le (by omega)
  refine Vo (b7≠b4) (fun w hw=>hw.l8 2 3 rfl rfl (by decide)) fun ALQ=>?_
  refine BU fun K k0=>?_
  refine Ay rfl rfl ?_
  simp -implicitDefEqProofs (disch:=first|omega|decide) only [seval, -Int.reducePow, -Nat.reducePow,cC,pv,Ao,Az,undef,Bh,hfull,hbn,g2,g3]
  refine Zd kJ rfl (fun w hw=>hw.Nu 0 rfl) ?_
  rw [Kj]
  simp -implicitDefEqProofs (disch:=first|omega|decide) only [seval, -Int.reducePow, -Nat.reducePow,cC,pv,Ao,Az,undef,Bh,hfull,g2,g3]
  refine k0 _ _ _ ?_
  refine Mk [5,0,1,2,3,4] (by decide) ?_
  simp only [Ag,nth]
  refine Y6 ?_
  simp only [mX,ES,EM]
  refine ⟨_,rfl, ?_⟩
  simp -implicitDefEqProofs (disch:=first|omega|decide) only [seval, -Int.reducePow, -Nat.reducePow,cC,pv,Ao,Az,undef,Bh,Cx,Cw,g2,g3]
  intro w hw
  exact hw.below
end Go.Proofs.YtegonkdandmolaaGreat
