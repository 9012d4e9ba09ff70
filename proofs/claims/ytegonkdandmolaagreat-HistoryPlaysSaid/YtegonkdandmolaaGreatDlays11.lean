import Derived.Test.YtegonkdandmolaaGreatDlays10
import Derived.Test.YtegonkdandmolaaGreatDlays5
import Derived.Test.YtegonkdandmolaaGreatDlays9
set_option linter.unusedVariables false
set_option linter.unusedSimpArgs false
set_option maxRecDepth 100000
set_option maxHeartbeats 4000000
namespace Go.Proofs.YtegonkdandmolaaGreat
open Go.RowKit Go.Shelf
structure m_ where
 y0:Value
 y1:Value
 y2:Value
 y3:Value
 y4:Value
 y5:Value
 y6:Value
 y7:Value
 y8:Value
 ty:Value
 sz:Value
 us:Value
 tb:Value
 ln:Value
 q0:Value
 q1:Value
 q2:Value
 mt:Value
 cp:Value
 lg:Value
 ms:Value
 bt:Value
 sv:Value
def RL (b:Nat) (x:m_):Ai:=.blk b 65 [x.y0,x.y1,x.y2,x.y3,x.y4,x.y5,x.y6,x.y7,x.y8,x.ty,x.sz,x.us,x.tb,x.ln,x.q0,x.q1,x.q2,x.mt,x.cp,x.lg,x.ms,x.bt,x.sv]
section
variable {M:List Nat} {W w:World} {L:List Ai}
theorem ZE.of (hw:St M W L w) (i j:Nat) {b:Nat} {t:TypeId} {cs:List Value} (off:Nat) {lim:Qu} {A:Option Addr} {n c:Nat} {l:List Sh} (hi:nth L i=some (.blk b t cs)) (hk:(cs.drop off).take 4=[.int .i64 lim.qb,.int .i64 lim.qo,.int .i64 lim.qr,.slice A n c])
  (hj:nth L j=some (.row (.slice A n c) 213 4 n (CE l))) (hl:l.length<=100000):ZE w w.heap.size b off lim A n c l :=
 ⟨Sl.UB hw i hi off [.int .i64 lim.qb,.int .i64 lim.qo,.int .i64 lim.qr,.slice A n c] hk (by simp),Sl.Av hw (AZ hj),by
  have:=(Sl.Av hw (AZ hj)).len
  unfold CE at this
  rw [Cr Fz] at this
  omega⟩
theorem Ot.of (hw:St M W L w) (i j:Nat) {b:Nat} {t:TypeId} {cs:List Value} (off:Nat) {cap:Int} {ms:Value} {A:Option Addr} {n c:Nat} {es:List DZ} (hi:nth L i=some (.blk b t cs)) (hk:(cs.drop off).take 3=[.int .i64 cap,.slice A n c,ms])
  (hj:nth L j=some (.row (.slice A n c) 68 5 n (Bc es))) (hl:es.length<=100000):Ot w w.heap.size b off cap ms A n c es :=
 ⟨Sl.UB hw i hi off [.int .i64 cap,.slice A n c,ms] hk (by simp),Sl.Av hw (AZ hj),by
  have:=(Sl.Av hw (AZ hj)).len
  unfold Bc at this
  rw [Cr C8] at this
  omega⟩
end
theorem ZH (l:List DZ):ones (Bc l)=true:=by
 induction l with
 | nil=>rfl
 | cons o l ih=>simp only [Bc,List.flatMap_cons,ones,List.all_append,Xo,List.all_cons,List.all_nil,Value.oneCell',Bool.and_true,Bool.true_and] at ih ⊢;exact ih
theorem I5 (l:List DZ) (e:DZ):Bc (l++[e])=Bc l++[.int .i64 e.pl,.int .i64 e.op,.int .u64 (e.h:Int),.int .u64 (e.ar:Int),.int .i64 e.er]:=by simp [Bc,Xo]
def Lx (cap:Int) (es:List DZ) (e:DZ):Int×List DZ :=
 if ¬Oq e=0 then (Oq e,es) else if (Mm e && !decide ((GR es e.pl:Int)<cap))=true then (19,es) else (0,es++[e])
structure df where
 r:Int
 A:Option Addr
 n:Nat
 c:Nat
 es:List DZ
def UK (i:df):Value:=.int .i64 i.r
def ABn (b:Nat) (x:m_) (i:df):List Ai:=[RL b { x with lg:=.slice i.A i.n i.c },.row (.slice i.A i.n i.c) 68 5 i.n (Bc i.es)]
theorem V4 (b:Nat) (x:m_) (cap:Int) (A:Option Addr) (n c:Nat) (es:List DZ) (e:DZ) (hcp:x.cp = .int .i64 cap) (hlg:x.lg = .slice A n c) (hl:es.length<=90000) (W:World) (hst:St (Ak [RL b x,.row (.slice A n c) 68 5 n (Bc es)]) W [RL b x,.row (.slice A n c) 68 5 n (Bc es)] W) :
  Calls Tryz.prog 48 #[.pointer (some ⟨b,18,none⟩),NZ e] W
  fun en w' => ∃i:df,en = .returned (UK i)/\(i.r,i.es)=Lx cap es e/\St (Ak [RL b x,.row (.slice A n c) 68 5 n (Bc es)]) W (ABn b x i) w':=by
 obtain ⟨M,hM⟩:∃M,Ak [RL b x,.row (.slice A n c) 68 5 n (Bc es)]=M:=⟨_,rfl⟩
 rw [hM] at hst ⊢
 obtain ⟨y0,y1,y2,y3,y4,y5,y6,y7,y8,ty,sz,us,tb,ln,q0,q1,q2,mt,cp,lg,ms,bt,sv⟩:=x
 dsimp only at hcp hlg
 subst hcp hlg
 unfold RL at hst
 dsimp only at hst
 clear hM
 have hlen:es.length=n:=by have:=(Sl.Av hst (AZ (k:=1) rfl)).len;unfold Bc at this;rw [Cr C8] at this;omega
 refine Ab (M:=M) Tryz.func48 [.tmp 4]  hst ?_
 refine AQ rfl fun K k0=>?_
 simp -implicitDefEqProofs (disch:=first|omega|decide) only [seval, -Int.reducePow, -Nat.reducePow,cC,pv,Ao,Az,undef,C9,NZ]
 intro b3 hb3 hf3
 refine k0 _ _ ?_
 refine AB fun K k0=>?_
 refine AQ rfl fun K k1=>?_
 have zs:=Bd.mk C9
 refine Ah ?_
 refine Aa (fun w hw=>UC e w) ?_
 refine Ah ?_
 refine k1 _ _ ?_
 refine AV [0,3,5] fun G1 g1=>?_
 replace g1:=Bi g1
 have zg:=Bd.mk g1
 refine BH ?_
 refine AL ?_
 by_cases hk:Oq e=0
 case neg =>
  have hap:Lx cap es e=(Oq e,es):=by unfold Lx;rw [if_pos hk]
  refine Ap hk ?_
  refine BH ?_
  refine AP (Br fun w hw=>?_)
  exact ⟨⟨Oq e,A,n,c,es⟩,rfl,hap.symm,hw.tail⟩
 refine Ap hk ?_
 refine AO (k0 _ _ ?_)
 refine AB fun K k0=>?_
 refine AB fun K k1=>?_
 refine A9 (fun _ _=>True) (fun F' L'=>Az F' G1 [0,3]/\F' 19 = .bool (Mm e && !decide ((GR es e.pl:Int)<cap))/\L'=[.blk b3 68 [.int .i64 e.pl,.int .i64 e.op,.int .u64 (e.h:Int),.int .u64 (e.ar:Int),.int .i64 e.er],.blk b 65 [y0,y1,y2,y3,y4,y5,y6,y7,y8,ty,sz,us,tb,ln,q0,q1,q2,mt,.int .i64 cap,.slice A n c,ms,bt,sv],.row (.slice A n c) 68 5 n (Bc es)]) ?_ ?_
 ·cases hcn:Mm e with
  | false =>
   refine AF rfl ?_
   refine AR ?_
   refine Aa (fun w hw=>hcn▸KN e w) ?_
   exact MQ
  | true =>
   refine AF rfl ?_
   refine AR ?_
   refine Aa (fun w hw=>hcn▸KN e w) ?_
   refine AR ?_
   refine Aa (fun w hw=>Su (cap:=cap) (ms:=ms) (Ot.of hw 1 2 18 rfl rfl rfl (by omega)) e.pl) ?_
   exact MQ
 intro G2 L' _ hF
 obtain ⟨zq,QO,rfl⟩:=hF
 have g2:=And.intro (Bg zq) QO
 refine k1 _ _ ?_
 refine AL ?_
 cases hrm:(Mm e && !decide ((GR es e.pl:Int)<cap)) with
 | true =>
  have hap:Lx cap es e=(19,es):=by unfold Lx;rw [if_neg (fun h=>h hk),if_pos hrm]
  replace zg:=Bd.mk g2
  refine Ap hrm ?_
  refine BH ?_
  refine AP (Br fun w hw=>?_)
  exact ⟨⟨19,A,n,c,es⟩,rfl,hap.symm,hw.tail⟩
 | false =>
 have hap:Lx cap es e=(0,es++[e]):=by unfold Lx;rw [if_neg (fun h=>h hk),if_neg (by rw [hrm];decide)]
 replace zg:=Bd.mk g2
 refine Ap hrm ?_
 refine AO (k0 _ _ ?_)
 have o1:=ZH es
 have hend:∀(A4:Option Addr) (c4:Nat) (w:World),St M W [.blk b 65 [y0,y1,y2,y3,y4,y5,y6,y7,y8,ty,sz,us,tb,ln,q0,q1,q2,mt,.int .i64 cap,.slice A4 (n+1) c4,ms,bt,sv],.row (.slice A4 (n+1) c4) 68 5 (n+1) (Bc (es++[e]))] w →
   ∃i:df,(Ending.returned (Value.int .i64 0)) = .returned (UK i)/\(i.r,i.es)=Lx cap es e/\St M W (ABn b ⟨y0,y1,y2,y3,y4,y5,y6,y7,y8,ty,sz,us,tb,ln,q0,q1,q2,mt,.int .i64 cap,.slice A n c,ms,bt,sv⟩ i) w:=fun A4 c4 w hw=>⟨⟨0,A4,n+1,c4,es++[e]⟩,rfl,hap.symm,hw⟩
 refine AB fun K k0=>?_
 refine A9 (fun _ _=>True) (fun F' L' => ∃(A4:Option Addr) (c4:Nat),L'=[.blk b 65 [y0,y1,y2,y3,y4,y5,y6,y7,y8,ty,sz,us,tb,ln,q0,q1,q2,mt,.int .i64 cap,.slice A4 (n+1) c4,ms,bt,sv],.row (.slice A4 (n+1) c4) 68 5 (n+1) (Bc (es++[e]))]) ?_ ?_
 ·refine E9 [0,1,2] (by decide) (by simp only [Ag,nth,Be,Bv,List.mem_cons,true_or,or_true,and_true,eq_self]) (.rd 0 (.rd 2 (.rd 3 (.rd 4 (.rd 5 (.rd 7 (.more 1 (.more 6 (.act 8 (.act 9 (.rd 10 (.rd 11 (.act 12 (.done)))))) (.act 8 (.act 6 (.act 9 (.rd 10 (.rd 11 (.act 12 (.done)))))))) (.act 8 (.act 1 (.act 6 (.act 9 (.rd 10 (.rd 11 (.act 12 (.done))))))))))))))) [12] CB rfl (by kernel_rfl) (by kernel_rfl) (by kernel_rfl) (by kernel_rfl) ?_
  simp only [Ag,nth]
  refine AR ?_
  refine And.intro ?_ ?_
  ·intro bA KD hfA
   refine And.intro ?_ ?_
   ·refine CR 0 OP rfl rfl (fun w hw=>EU (AZ (k:=3) rfl) hw) o1 (by omega) (by omega) ?_
    intro A3 c3 hl3 hr3
    refine Ap (And.intro @Nat.zero_add @List.nil_append.{0}) ?_
    intro bE PE Rj
    refine Bj 1 OP rfl (fun w hw=>Bp (size:=5) (AZ (k:=0) rfl) rfl hw) rfl (by omega) (by omega) ?_
    intro A4 c4 hl4 hr4
    refine AR ?_
    refine ⟨[3,0],by decide, ?_⟩
    simp only [Ag,nth]
    exact ⟨A4,c4,by rw [I5]⟩
   ·intro bE PE Rj
    refine CR 1 OP rfl rfl (fun w hw=>EU (AZ (k:=4) rfl) hw) o1 (by omega) (by omega) ?_
    intro A3 c3 hl3 hr3
    refine Ap (And.intro @Nat.zero_add @List.nil_append.{0}) ?_
    refine Bj 0 OP rfl (fun w hw=>Bp (size:=5) (AZ (k:=1) rfl) rfl hw) rfl (by omega) (by omega) ?_
    intro A4 c4 hl4 hr4
    refine AR ?_
    refine ⟨[3,0],by decide, ?_⟩
    simp only [Ag,nth]
    exact ⟨A4,c4,by rw [I5]⟩
  ·intro bE PE Rj bA KD hfA
   refine CR 0 OP rfl rfl (fun w hw=>EU (AZ (k:=4) rfl) hw) o1 (by omega) (by omega) ?_
   intro A3 c3 hl3 hr3
   refine Ap (And.intro @Nat.zero_add @List.nil_append.{0}) ?_
   refine Bj 0 OP rfl (fun w hw=>Bp (size:=5) (AZ (k:=1) rfl) rfl hw) rfl (by omega) (by omega) ?_
   intro A4 c4 hl4 hr4
   refine AR ?_
   refine ⟨[3,0],by decide, ?_⟩
   simp only [Ag,nth]
   exact ⟨A4,c4,by rw [I5]⟩
 intro G3 L' _ hF
 obtain ⟨A4,c4,rfl⟩:=hF
 refine k0 _ _ ?_
 refine Aq ?_
 refine AP (Cc fun w hw=>?_)
 exact hend A4 c4 _ hw
structure MtX (x:m_) (lim:Qu) (A:Option Addr) (n c:Nat):Prop where
 q0:x.q0 = .int .i64 lim.qb
 q1:x.q1 = .int .i64 lim.qo
 q2:x.q2 = .int .i64 lim.qr
 mt:x.mt = .slice A n c
structure KS where
 r:Int
 A:Option Addr
 n:Nat
 c:Nat
 l:List Sh
def JI (i:KS):Value:=.int .i64 i.r
def fU (i:KS):Value:=.tuple #[]
def fV (b:Nat) (x:m_) (i:KS):List Ai:=[RL b { x with mt:=.slice i.A i.n i.c },.row (.slice i.A i.n i.c) 213 4 i.n (CE i.l)]
theorem V6 (b:Nat) (x:m_) (lim:Qu) (A:Option Addr) (n c:Nat) (l:List Sh) (p:Int) (q:Qu) (hx:MtX x lim A n c) (hl:l.length<=90000) (W:World) (hst:St (Ak [RL b x,.row (.slice A n c) 213 4 n (CE l)]) W [RL b x,.row (.slice A n c) 213 4 n (CE l)] W) :
  Calls Tryz.prog 83 #[.pointer (some ⟨b,14,none⟩),.int .i64 p,O9 q] W
  fun en w' => ∃i:KS,en = .returned (fU i)/\i.l=QH l p q/\St (Ak [RL b x,.row (.slice A n c) 213 4 n (CE l)]) W (fV b x i) w':=by
 obtain ⟨M,hM⟩:∃M,Ak [RL b x,.row (.slice A n c) 213 4 n (CE l)]=M:=⟨_,rfl⟩
 rw [hM] at hst ⊢
 obtain ⟨y0,y1,y2,y3,y4,y5,y6,y7,y8,ty,sz,us,tb,ln,q0,q1,q2,mt,cp,lg,ms,bt,sv⟩:=x
 obtain ⟨h0,h1,h2,h3⟩:=hx
 dsimp only at h0 h1 h2 h3
 subst h0 h1 h2 h3
 unfold RL at hst
 dsimp only at hst
 clear hM
 have hlen:l.length=n:=by have:=(Sl.Av hst (AZ (k:=1) rfl)).len;unfold CE at this;rw [Cr Fz] at this;omega
 refine Ab (M:=M) Tryz.func83 []  hst ?_
 refine AQ rfl fun K k0=>?_
 simp -implicitDefEqProofs (disch:=first|omega|decide) only [seval, -Int.reducePow, -Nat.reducePow,cC,pv,Ao,Az,undef,Bb,O9]
 intro b5 hb5 mi
 refine k0 _ _ ?_
 have zs:=Bd.mk Bb
 refine Aq ?_
 refine AB fun K k0=>?_
 refine Aq ?_
 refine AV [0,1,5,6,7] fun G1 g1=>?_
 replace g1:=Bi g1
 refine D5 213 4 ?_
 refine Ad ?_
 refine BP (fun F' L' => ∃(i:Nat) (A1:Option Addr) (n1 c1:Nat),Az F' G1 [0,1,5]/\F' 6 = .slice A1 n1 c1/\F' 7 = .int .i64 (i:Int)/\L'=[.row (.slice A1 n1 c1) 213 4 n1 (CE ((l.take i).filter fun s => !pV p s)),.blk b5 25 [.int .i64 q.qb,.int .i64 q.qo,.int .i64 q.qr],.blk b 65 [y0,y1,y2,y3,y4,y5,y6,y7,y8,ty,sz,us,tb,ln,.int .i64 lim.qb,.int .i64 lim.qo,.int .i64 lim.qr,.slice A n c,cp,lg,ms,bt,sv],.row (.slice A n c) 213 4 n (CE l)]/\i<=n) (fun F' L'=>200000-(intOf (F' 7)).toNat) ?_ ?_
 ·refine ⟨0,none,0,0, ?_⟩
  have zg:=Bd.mk g1
  refine AR ?_
  exact ⟨rfl,Nat.zero_le _⟩
 intro G2 L' hI
 obtain ⟨i,A1,n1,c1,zq,Jq,Lv,rfl,hi⟩:=hI
 have zg:=Bd.mk g1
 have g2:=And.intro (Bg zq) (And.intro Jq Lv)
 refine AB fun K k1=>?_
 replace zg:=Bd.mk (And.intro g1 g2)
 refine BH ?_
 refine Dl (fun hc=>?_) fun hc=>?_
 ·refine AO ?_
  try simp only [BJ,BX]
  have hit:i<n:=by have:=of_decide_eq_true ‹decide ((i:Int)<(n:Int))=true›;omega
  obtain ⟨e,he⟩:∃e,l[i]? = some e:=⟨_,List.getElem?_eq_getElem (by omega)⟩
  have hld:=FB Fz he
  have hfs:=ET he (fun s => !pV p s)
  refine k1 _ _ ?_
  refine EX 0 rfl fun hlA=>?_
  have hn1:n1<=100000:=by
   unfold CE at hlA
   rw [Cr Fz] at hlA
   have h1:((l.take i).filter fun s => !pV p s).length<=(l.take i).length:=List.length_filter_le _ _
   rw [List.length_take] at h1
   omega
  refine BQ 3 rfl (by omega) fun g DJ hg Bl=>?_
  subst DJ
  simp only [List.eraseIdx_cons_zero,List.eraseIdx_cons_succ,BC,BD,BI,A_,and_true,List.not_mem_nil,or_false,Bb] at Bl hg
  replace hg:=And.intro hg Bl
  clear Bl
  refine AB fun K k1=>?_
  refine Ad ?_
  refine AQ rfl fun K k2=>?_
  refine AR ?_
  refine Aj (BN (m:=1) (i:=i*4+0) (v:=.int .i64 e.p) (AZ (k:=3) rfl) rfl (Co Fz he (by omega))) ?_
  refine AR ?_
  refine k2 _ _ ?_
  refine AL ?_
  by_cases h1:e.p=p
  ·have d1:decide (e.p=p)=true:=decide_eq_true h1
   have hof:((l.take (i+1)).filter fun s => !pV p s)=((l.take i).filter fun s => !pV p s):=by rw [hfs];simp [pV,h1]
   refine Ap d1 ?_
   refine AO (k1 _ _ ?_)
   refine AF rfl ?_
   refine AR ?_
   refine ⟨⟨i+1,A1,n1,c1, ?_⟩, ?_⟩
   ·rw [hof]
    refine Ap @Int.natCast_add ?_
    omega
   ·simp only [intOf];omega
  ·have hof:((l.take (i+1)).filter fun s => !pV p s)=((l.take i).filter fun s => !pV p s)++[e]:=by rw [hfs];simp [pV,h1]
   refine Ap h1 ?_
   refine BG [0,2,3,4] (by decide) ?_
   refine AU rfl ?_
   refine AR ?_
   refine Aj (DX (i:=i*4) (vs:=shc e) (AZ (k:=3) rfl) (by kernel_rfl) hld) ?_
   refine AR ?_
   simp only [shc,List.length_cons,List.length_nil,true_and]
   refine AR ?_
   intro bE PE Rj
   refine Bj 1 eT rfl (fun w hw=>Bp (size:=4) (AZ (k:=0) rfl) rfl hw) rfl (by omega) (by omega) ?_
   intro A2 c2 hl2 hr2
   refine AR ?_
   refine k1 _ _ ?_
   refine AF rfl ?_
   refine AR ?_
   refine ⟨⟨i+1,A2,n1+1,c2, ?_⟩, ?_⟩
   ·rw [hof,Mo]
    refine Ap @Int.natCast_add ?_
    omega
   ·simp only [intOf];omega
 refine BM (k0 _ _ ?_)
 have hin:i=n:=by have:=of_decide_eq_false ‹decide ((i:Int)<(n:Int))=false›;omega
 subst hin
 rw [List.take_of_length_le (by omega)]
 refine EX 0 rfl fun hlA=>?_
 have hn1:n1<=100000:=by
  unfold CE at hlA
  rw [Cr Fz] at hlA
  have h1:(l.filter fun s => !pV p s).length<=l.length:=List.length_filter_le _ _
  omega
 refine AU rfl ?_
 refine AR ?_
 intro bE PE Rj
 refine Bj 1 eT rfl (fun w hw=>Bp (size:=4) (AZ (k:=0) rfl) rfl hw) rfl (by omega) (by omega) ?_
 intro A2 c2 hl2 hr2
 refine AR ?_
 refine ⟨_,rfl,fun w hw=>?_⟩
 have hsn:CE ((l.filter fun s => !pV p s)++[⟨p,q⟩])=CE (l.filter fun s => !pV p s)++[.int .i64 p,.int .i64 q.qb,.int .i64 q.qo,.int .i64 q.qr]:=Mo _ _
 rw [<-hsn] at hw
 have h9:=hw.pick (ix:=[3,0]) (by decide)
 simp only [Ag,nth] at h9
 exact ⟨⟨0,A2,n1+1,c2,QH l p q⟩,rfl,rfl,h9⟩
def sN (x q:Qu):Qu:=⟨x.qb+q.qb,x.qo+q.qo,x.qr+q.qr⟩
def sO (x q:Qu):Qu:=⟨x.qb-q.qb,x.qo-q.qo,x.qr-q.qr⟩
def I6 (lim:Qu) (l:List Sh) (p:Int) (q:Qu):Int×List Sh:=if Na lim (Hd l p) q=true then (16,l) else (0,QH l p (sN (Hd l p) q))
def OW (x q:Qu):Bool:=decide (x.qb<q.qb)||decide (x.qo<q.qo)||decide (x.qr<q.qr)
def GI (l:List Sh) (p:Int) (q:Qu):Int×List Sh:=if OW (Hd l p) q=true then (1,l) else (0,QH l p (sO (Hd l p) q))
theorem fZ (b:Nat) (x:m_) (lim:Qu) (A:Option Addr) (n c:Nat) (l:List Sh) (p:Int) (q:Qu) (hx:MtX x lim A n c) (hl:l.length<=90000) (hlim:lim.lim) (hq:q.ok) (hok:∀s∈l,s.q.ok) (W:World) (hst:St (Ak [RL b x,.row (.slice A n c) 213 4 n (CE l)]) W [RL b x,.row (.slice A n c) 213 4 n (CE l)] W) :
  Calls Tryz.prog 94 #[.pointer (some ⟨b,14,none⟩),.int .i64 p,O9 q] W
  fun en w' => ∃i:KS,en = .returned (JI i)/\(i.r,i.l)=I6 lim l p q/\St (Ak [RL b x,.row (.slice A n c) 213 4 n (CE l)]) W (fV b x i) w':=by
 have hxq:=O_ hok p
 obtain ⟨M,hM⟩:∃M,Ak [RL b x,.row (.slice A n c) 213 4 n (CE l)]=M:=⟨_,rfl⟩
 rw [hM] at hst ⊢
 obtain ⟨y0,y1,y2,y3,y4,y5,y6,y7,y8,ty,sz,us,tb,ln,q0,q1,q2,mt,cp,lg,ms,bt,sv⟩:=x
 obtain ⟨h0,h1,h2,h3⟩:=hx
 dsimp only at h0 h1 h2 h3
 subst h0 h1 h2 h3
 unfold RL at hst
 dsimp only at hst
 clear hM
 have hlen:l.length=n:=by have:=(Sl.Av hst (AZ (k:=1) rfl)).len;unfold CE at this;rw [Cr Fz] at this;omega
 obtain ⟨X,hX⟩:∃X,Hd l p=X:=⟨_,rfl⟩
 rw [hX] at hxq
 obtain ⟨⟨qb1,qb2⟩,⟨qo1,qo2⟩,⟨qr1,qr2⟩⟩:=hq
 obtain ⟨⟨xb1,xb2⟩,⟨xo1,xo2⟩,⟨xr1,xr2⟩⟩:=hxq
 have w1:IntKind.i64.wrap (X.qb+q.qb)=X.qb+q.qb:=Ae (by omega) (by omega)
 have w2:IntKind.i64.wrap (X.qo+q.qo)=X.qo+q.qo:=Ae (by omega) (by omega)
 have w3:IntKind.i64.wrap (X.qr+q.qr)=X.qr+q.qr:=Ae (by omega) (by omega)
 refine Ab (M:=M) Tryz.func94 [.tmp 6]  hst ?_
 refine AQ rfl fun K k0=>?_
 simp -implicitDefEqProofs (disch:=first|omega|decide) only [seval, -Int.reducePow, -Nat.reducePow,cC,pv,Ao,Az,undef,Bb,O9]
 intro b5 hb5 mi
 refine k0 _ _ ?_
 refine AB fun K k0=>?_
 refine AQ rfl fun K k1=>?_
 have zs:=Bd.mk Bb
 refine Ah ?_
 refine Aa (fun w hw=>Nb (ZE.of (l:=l) (lim:=lim) hw 1 2 14 rfl rfl rfl (by omega)) hlim p q ⟨⟨qb1,qb2⟩,⟨qo1,qo2⟩,⟨qr1,qr2⟩⟩) ?_
 try refine Ah ?_
 rw [hX]
 refine k1 _ _ ?_
 refine Aq ?_
 refine AL ?_
 cases hf:Na lim X q with
 | true =>
  have ha:I6 lim l p q=(16,l):=by unfold I6;rw [hX,if_pos hf]
  refine D_ hf ?_
  refine Aq ?_
  refine AP (Cc fun w hw=>?_)
  exact ⟨⟨16,A,n,c,l⟩,rfl,ha.symm,hw.tail⟩
 | false =>
 have ha:I6 lim l p q=(0,QH l p (sN X q)):=by unfold I6;rw [hX,if_neg (by rw [hf];decide)]
 refine D_ hf ?_
 refine AO (k0 _ _ ?_)
 refine AQ rfl fun K k0=>?_
 refine Ah ?_
 refine Aa (fun w hw=>hX▸QI (ZE.of (l:=l) (lim:=lim) hw 1 2 14 rfl rfl rfl (by omega)) p) ?_
 try simp -implicitDefEqProofs (disch:=first|omega|decide) only [seval, -Int.reducePow, -Nat.reducePow,cC,pv,Ao,Az,undef,Bb,O9]
 intro b8 u6 hf8
 refine k0 _ _ ?_
 refine AQ rfl fun K k0=>?_
 refine D_ (And.intro w1 (And.intro w2 w3)) ?_
 refine Af [.blk b8 25 [.int .i64 X.qb,.int .i64 X.qo,.int .i64 X.qr],.blk b5 25 [.int .i64 q.qb,.int .i64 q.qo,.int .i64 q.qr]] [.blk b 65 [y0,y1,y2,y3,y4,y5,y6,y7,y8,ty,sz,us,tb,ln,.int .i64 lim.qb,.int .i64 lim.qo,.int .i64 lim.qr,.slice A n c,cp,lg,ms,bt,sv],.row (.slice A n c) 213 4 n (CE l)] (List.Perm.refl _) fU (fV b ⟨y0,y1,y2,y3,y4,y5,y6,y7,y8,ty,sz,us,tb,ln,.int .i64 lim.qb,.int .i64 lim.qo,.int .i64 lim.qr,.slice A n c,cp,lg,ms,bt,sv⟩) _ (fun w hw=>V6 b ⟨y0,y1,y2,y3,y4,y5,y6,y7,y8,ty,sz,us,tb,ln,.int .i64 lim.qb,.int .i64 lim.qo,.int .i64 lim.qr,.slice A n c,cp,lg,ms,bt,sv⟩ lim A n c l p (sN X q) ⟨rfl,rfl,rfl,rfl⟩ hl w hw) ?_
 rintro ⟨r1,A1,n1,c1,l1⟩ hl1
 dsimp only at hl1
 subst hl1
 simp -implicitDefEqProofs (disch:=first|omega|decide) only [seval, -Int.reducePow, -Nat.reducePow,cC,pv,Ao,Az,undef,Bb,fU]
 refine k0 _ _ ?_
 refine Aq ?_
 refine AP (Cc fun w hw=>?_)
 exact ⟨⟨0,A1,n1,c1,_⟩,rfl,ha.symm,hw.sub (List.sublist_append_left _ _)⟩
theorem fo (b:Nat) (x:m_) (lim:Qu) (A:Option Addr) (n c:Nat) (l:List Sh) (p:Int) (q:Qu) (hx:MtX x lim A n c) (hl:l.length<=90000) (hq:q.ok) (hok:∀s∈l,s.q.ok) (W:World) (hst:St (Ak [RL b x,.row (.slice A n c) 213 4 n (CE l)]) W [RL b x,.row (.slice A n c) 213 4 n (CE l)] W) :
  Calls Tryz.prog 50 #[.pointer (some ⟨b,14,none⟩),.int .i64 p,O9 q] W
  fun en w' => ∃i:KS,en = .returned (JI i)/\(i.r,i.l)=GI l p q/\St (Ak [RL b x,.row (.slice A n c) 213 4 n (CE l)]) W (fV b x i) w':=by
 have hxq:=O_ hok p
 obtain ⟨M,hM⟩:∃M,Ak [RL b x,.row (.slice A n c) 213 4 n (CE l)]=M:=⟨_,rfl⟩
 rw [hM] at hst ⊢
 obtain ⟨y0,y1,y2,y3,y4,y5,y6,y7,y8,ty,sz,us,tb,ln,q0,q1,q2,mt,cp,lg,ms,bt,sv⟩:=x
 obtain ⟨h0,h1,h2,h3⟩:=hx
 dsimp only at h0 h1 h2 h3
 subst h0 h1 h2 h3
 unfold RL at hst
 dsimp only at hst
 clear hM
 have hlen:l.length=n:=by have:=(Sl.Av hst (AZ (k:=1) rfl)).len;unfold CE at this;rw [Cr Fz] at this;omega
 obtain ⟨X,hX⟩:∃X,Hd l p=X:=⟨_,rfl⟩
 rw [hX] at hxq
 obtain ⟨⟨qb1,qb2⟩,⟨qo1,qo2⟩,⟨qr1,qr2⟩⟩:=hq
 obtain ⟨⟨xb1,xb2⟩,⟨xo1,xo2⟩,⟨xr1,xr2⟩⟩:=hxq
 have n1':¬q.qb<0:=by omega
 have n2':¬q.qo<0:=by omega
 have n3':¬q.qr<0:=by omega
 have w1:IntKind.i64.wrap (X.qb-q.qb)=X.qb-q.qb:=Ae (by omega) (by omega)
 have w2:IntKind.i64.wrap (X.qo-q.qo)=X.qo-q.qo:=Ae (by omega) (by omega)
 have w3:IntKind.i64.wrap (X.qr-q.qr)=X.qr-q.qr:=Ae (by omega) (by omega)
 refine Ab (M:=M) Tryz.func50 [.tmp 6]  hst ?_
 refine AQ rfl fun K k0=>?_
 simp -implicitDefEqProofs (disch:=first|omega|decide) only [seval, -Int.reducePow, -Nat.reducePow,cC,pv,Ao,Az,undef,Bb,O9]
 intro b5 hb5 mi
 refine k0 _ _ ?_
 refine AQ rfl fun K k0=>?_
 have zs:=Bd.mk Bb
 refine Ah ?_
 refine Aa (fun w hw=>hX▸QI (ZE.of (l:=l) (lim:=lim) hw 1 2 14 rfl rfl rfl (by omega)) p) ?_
 try simp -implicitDefEqProofs (disch:=first|omega|decide) only [seval, -Int.reducePow, -Nat.reducePow,cC,pv,Ao,Az,undef,Bb,O9]
 intro b7 Z0 mZ
 refine k0 _ _ ?_
 refine AV [0,1,5,7] fun G3 g3=>?_
 replace g3:=Bi g3
 refine AB fun K k0=>?_
 refine AB fun K k1=>?_
 refine A9 (fun _ _=>True) (fun F' L'=>Az F' G3 [0,1,5,7]/\F' 44 = .bool (OW X q)/\L'=[.blk b7 25 [.int .i64 X.qb,.int .i64 X.qo,.int .i64 X.qr],.blk b5 25 [.int .i64 q.qb,.int .i64 q.qo,.int .i64 q.qr],.blk b 65 [y0,y1,y2,y3,y4,y5,y6,y7,y8,ty,sz,us,tb,ln,.int .i64 lim.qb,.int .i64 lim.qo,.int .i64 lim.qr,.slice A n c,cp,lg,ms,bt,sv],.row (.slice A n c) 213 4 n (CE l)]) ?_ ?_
 ·unfold OW
  by_cases g1':X.qb<q.qb
  ·refine AF rfl ?_
   have zg:=Bd.mk g3
   exact NQ (And.intro n1' (And.intro n2' (And.intro n3' g1')))
  ·by_cases g2':X.qo<q.qo
   ·refine AF rfl ?_
    have zg:=Bd.mk g3
    exact NQ (And.intro n1' (And.intro n2' (And.intro n3' (And.intro g1' g2'))))
   ·refine AF rfl ?_
    have zg:=Bd.mk g3
    exact NQ (And.intro n1' (And.intro n2' (And.intro n3' (And.intro g1' g2'))))
 intro G4 L' _ hF
 obtain ⟨zq,AGh,rfl⟩:=hF
 have zg:=Bd.mk g3
 have g4:=And.intro (Bg zq) AGh
 refine k1 _ _ ?_
 refine AL ?_
 cases hf:OW X q with
 | true =>
  have ha:GI l p q=(1,l):=by unfold GI;rw [hX,if_pos hf]
  replace zg:=Bd.mk g4
  refine Ap hf ?_
  refine BH ?_
  refine AP (Br fun w hw=>?_)
  exact ⟨⟨1,A,n,c,l⟩,rfl,ha.symm,hw.tail.tail⟩
 | false =>
 have ha:GI l p q=(0,QH l p (sO X q)):=by unfold GI;rw [hX,if_neg (by rw [hf];decide)]
 replace zg:=Bd.mk g4
 refine Ap hf ?_
 refine AO (k0 _ _ ?_)
 refine AQ rfl fun K k0=>?_
 refine Ap (And.intro w1 (And.intro w2 w3)) ?_
 refine Af [.blk b7 25 [.int .i64 X.qb,.int .i64 X.qo,.int .i64 X.qr],.blk b5 25 [.int .i64 q.qb,.int .i64 q.qo,.int .i64 q.qr]] [.blk b 65 [y0,y1,y2,y3,y4,y5,y6,y7,y8,ty,sz,us,tb,ln,.int .i64 lim.qb,.int .i64 lim.qo,.int .i64 lim.qr,.slice A n c,cp,lg,ms,bt,sv],.row (.slice A n c) 213 4 n (CE l)] (List.Perm.refl _) fU (fV b ⟨y0,y1,y2,y3,y4,y5,y6,y7,y8,ty,sz,us,tb,ln,.int .i64 lim.qb,.int .i64 lim.qo,.int .i64 lim.qr,.slice A n c,cp,lg,ms,bt,sv⟩) _ (fun w hw=>V6 b ⟨y0,y1,y2,y3,y4,y5,y6,y7,y8,ty,sz,us,tb,ln,.int .i64 lim.qb,.int .i64 lim.qo,.int .i64 lim.qr,.slice A n c,cp,lg,ms,bt,sv⟩ lim A n c l p (sO X q) ⟨rfl,rfl,rfl,rfl⟩ hl w hw) ?_
 rintro ⟨r1,A1,n1,c1,l1⟩ hl1
 dsimp only at hl1
 subst hl1
 simp -implicitDefEqProofs (disch:=first|omega|decide) only [seval, -Int.reducePow, -Nat.reducePow,cC,pv,Ao,Az,undef,Bb,fU,g4]
 refine k0 _ _ ?_
 refine BH ?_
 refine AP (Br fun w hw=>?_)
 exact ⟨⟨0,A1,n1,c1,_⟩,rfl,ha.symm,hw.sub (List.sublist_append_left _ _)⟩
def K5 (b:Nat) (y0 y1 y2 y3 y4 y5 y6 y7 y8 ty sz us tb q0 q1 q2 mt cp lg ms bt sv:Value) (x:GJ):List Ai:=[.blk b 65 [y0,y1,y2,y3,y4,y5,y6,y7,y8,ty,sz,us,tb,.slice x.A x.n x.c,q0,q1,q2,mt,cp,lg,ms,bt,sv],.row (.slice x.A x.n x.c) 163 4 x.n (Au x.l)]
theorem JJ.fq {M:List Nat} {W w:World} {L:List Ai} {b:Nat} {t:TypeId} {y0 y1 y2 y3 y4 y5 y6 y7 y8 ty sz us tb q0 q1 q2 mt cp lg ms bt sv:Value} {A:Option Addr} {n c:Nat} {l:List Bw} (hw:St M W L w) (i j:Nat) (hi:nth L i=some (.blk b t [y0,y1,y2,y3,y4,y5,y6,y7,y8,ty,sz,us,tb,.slice A n c,q0,q1,q2,mt,cp,lg,ms,bt,sv])) (hj:nth L j=some (.row (.slice A n c) 163 4 n (Au l))) (hl:l.length<=100000):JJ w w.heap.size b 13 A n c l:=by
 have hr:=Sl.Av hw (AZ hj)
 refine ⟨Sl.cell1 (by rw [hw.Dz (AZ hi)];rfl) (hw.own _ (AZ hi) b (by simp [Ai.foot])).2,hr, ?_⟩
 have:=hr.len
 rw [BV] at this
 omega
theorem QP (b:Nat) (y0 y1 y2 y3 y4 y5 y6 y7 y8 ty sz us tb q0 q1 q2 mt cp lg ms bt sv:Value) (x:GJ) (ho:Int) (hl:x.l.length<=100000) (W:World) (hst:St (Ak (K5 b y0 y1 y2 y3 y4 y5 y6 y7 y8 ty sz us tb q0 q1 q2 mt cp lg ms bt sv x)) W (K5 b y0 y1 y2 y3 y4 y5 y6 y7 y8 ty sz us tb q0 q1 q2 mt cp lg ms bt sv x) W) :
  Calls Tryz.prog 51 #[.pointer (some ⟨b,13,none⟩),.int .i64 ho] W
  fun en w' => ∃y:GJ,en = .returned (.int .i64 (ED x.l ho:Int))/\y.l=(x.l.filter fun b => !decide (b.ho=ho))/\St (Ak (K5 b y0 y1 y2 y3 y4 y5 y6 y7 y8 ty sz us tb q0 q1 q2 mt cp lg ms bt sv x)) W (K5 b y0 y1 y2 y3 y4 y5 y6 y7 y8 ty sz us tb q0 q1 q2 mt cp lg ms bt sv y) w':=by
 obtain ⟨M,hM⟩:∃M,Ak (K5 b y0 y1 y2 y3 y4 y5 y6 y7 y8 ty sz us tb q0 q1 q2 mt cp lg ms bt sv x)=M:=⟨_,rfl⟩
 rw [hM] at hst ⊢
 obtain ⟨A,n,c,l⟩:=x
 unfold K5 at hst
 dsimp only at hst hl ⊢
 clear hM
 have hlen:l.length=n:=by have:=(Sl.Av hst (AZ (k:=1) rfl)).len;rw [BV] at this;omega
 refine Ab (M:=M) Tryz.func51 [.tmp 4]  hst ?_
 have zs:=Bd.mk Bb
 refine Aq ?_
 refine AQ rfl fun K k0=>?_
 refine Ah ?_
 refine Aa (fun w hw=>Nf (JJ.fq hw 0 1 rfl rfl hl) ho) ?_
 try refine Ah ?_
 refine k0 _ _ ?_
 refine Aq ?_
 refine AB fun K k0=>?_
 refine Aq ?_
 refine AV [0,1,5,6,7] fun G1 g1=>?_
 replace g1:=Bi g1
 refine D5 163 4 ?_
 refine Ad ?_
 refine BP (fun F' L' => ∃(i:Nat) (A1:Option Addr) (n1 c1:Nat),Az F' G1 [0,1,5]/\F' 6 = .slice A1 n1 c1/\F' 7 = .int .i64 (i:Int)/\L'=[.row (.slice A1 n1 c1) 163 4 n1 (Au ((l.take i).filter fun b => !decide (b.ho=ho))),.blk b 65 [y0,y1,y2,y3,y4,y5,y6,y7,y8,ty,sz,us,tb,.slice A n c,q0,q1,q2,mt,cp,lg,ms,bt,sv],.row (.slice A n c) 163 4 n (Au l)]/\i<=n) (fun F' L'=>200000-(intOf (F' 7)).toNat) ?_ ?_
 ·refine ⟨0,none,0,0, ?_⟩
  have zg:=Bd.mk g1
  refine AR ?_
  exact ⟨rfl,Nat.zero_le _⟩
 intro G2 L' hI
 obtain ⟨i,A1,n1,c1,zq,Jq,Lv,rfl,hi⟩:=hI
 have zg:=Bd.mk g1
 have g2:=And.intro (Bg zq) (And.intro Jq Lv)
 refine AB fun K k1=>?_
 replace zg:=Bd.mk (And.intro g1 g2)
 refine BH ?_
 refine Dl (fun hc=>?_) fun hc=>?_
 ·refine AO ?_
  try simp only [BJ,BX]
  have hit:i<n:=by have:=of_decide_eq_true ‹decide ((i:Int)<(n:Int))=true›;omega
  obtain ⟨e,he⟩:∃e,l[i]? = some e:=⟨_,List.getElem?_eq_getElem (by omega)⟩
  have hld:=FB Bu he
  have hfs:=ET he (fun b => !decide (b.ho=ho))
  refine k1 _ _ ?_
  refine EX 0 rfl fun hlA=>?_
  have hn1:n1<=100000:=by
   rw [BV] at hlA
   have h1:((l.take i).filter fun b => !decide (b.ho=ho)).length<=(l.take i).length:=List.length_filter_le _ _
   rw [List.length_take] at h1
   omega
  refine BQ 2 rfl (by omega) fun g DJ hg Bl=>?_
  subst DJ
  simp only [List.eraseIdx_cons_zero,List.eraseIdx_cons_succ,BC,BD,BI,A_,and_true,List.not_mem_nil,or_false,Bb] at Bl hg
  replace hg:=And.intro hg Bl
  clear Bl
  refine AB fun K k1=>?_
  refine Ad ?_
  refine AQ rfl fun K k2=>?_
  refine AR ?_
  refine Aj (BN (i:=i*4+1) (v:=.int .i64 e.ho) (.tail _ (.tail _ (.head _))) rfl (Co Bu he (by omega))) ?_
  refine AR ?_
  refine k2 _ _ ?_
  refine AL ?_
  by_cases he1:e.ho=ho
  ·have hof:((l.take (i+1)).filter fun b => !decide (b.ho=ho))=((l.take i).filter fun b => !decide (b.ho=ho)):=by rw [hfs];simp [he1]
   refine Ap he1 ?_
   refine AO (k1 _ _ ?_)
   refine AF rfl ?_
   refine AR ?_
   refine ⟨⟨i+1,A1,n1,c1, ?_⟩, ?_⟩
   ·rw [hof]
    refine Ap @Int.natCast_add ?_
    omega
   ·simp only [intOf];omega
  ·have hof:((l.take (i+1)).filter fun b => !decide (b.ho=ho))=((l.take i).filter fun b => !decide (b.ho=ho))++[e]:=by rw [hfs];simp [he1]
   refine Ap he1 ?_
   refine BG [0,2,3] (by decide) ?_
   refine AU rfl ?_
   refine AR ?_
   refine Aj (DX (i:=i*4) (vs:=V7 e) (.tail _ (.tail _ (.head _))) (by kernel_rfl) hld) ?_
   refine AR ?_
   simp only [V7,List.length_cons,List.length_nil,true_and]
   refine AR ?_
   intro bE PE Rj
   refine Bj 1 Ld rfl (fun w hw=>Bp (size:=4) (.head _) rfl hw) rfl (by omega) (by omega) ?_
   intro A2 c2 hl2 hr2
   refine AR ?_
   refine k1 _ _ ?_
   refine AF rfl ?_
   refine AR ?_
   refine ⟨⟨i+1,A2,n1+1,c2, ?_⟩, ?_⟩
   ·rw [hof,Dt]
    refine Ap @Int.natCast_add ?_
    omega
   ·simp only [intOf];omega
 refine BM (k0 _ _ ?_)
 have hin:i=n:=by have:=of_decide_eq_false ‹decide ((i:Int)<(n:Int))=false›;omega
 subst hin
 rw [List.take_of_length_le (by omega)]
 refine BH ?_
 refine BH ?_
 refine AP (Br fun w hw=>?_)
 have h9:=hw.pick (ix:=[1,0]) (by decide)
 simp only [Ag,nth] at h9
 exact ⟨⟨A1,n1,c1,_⟩,rfl,rfl,h9⟩
theorem V8 (b:Nat) (y0 y1 y2 y3 y4 y5 y6 y7 y8 ty sz us tb q0 q1 q2 mt cp lg ms bt sv:Value) (x:GJ) (e:Bw) (hl:x.l.length<=100000) (W:World) (hst:St (Ak (K5 b y0 y1 y2 y3 y4 y5 y6 y7 y8 ty sz us tb q0 q1 q2 mt cp lg ms bt sv x)) W (K5 b y0 y1 y2 y3 y4 y5 y6 y7 y8 ty sz us tb q0 q1 q2 mt cp lg ms bt sv x) W) :
  Calls Tryz.prog 134 #[.pointer (some ⟨b,13,none⟩),U5 e] W
  fun en w' => ∃y:GJ,en = .returned (.tuple #[])/\(∃P Q,Lh e (Ev x.l e.ob e.ho) y.l P Q)/\St (Ak (K5 b y0 y1 y2 y3 y4 y5 y6 y7 y8 ty sz us tb q0 q1 q2 mt cp lg ms bt sv x)) W (K5 b y0 y1 y2 y3 y4 y5 y6 y7 y8 ty sz us tb q0 q1 q2 mt cp lg ms bt sv y) w':=by
 obtain ⟨M,hM⟩:∃M,Ak (K5 b y0 y1 y2 y3 y4 y5 y6 y7 y8 ty sz us tb q0 q1 q2 mt cp lg ms bt sv x)=M:=⟨_,rfl⟩
 rw [hM] at hst ⊢
 obtain ⟨A,n,c,l⟩:=x
 unfold K5 at hst
 dsimp only at hst hl ⊢
 clear hM
 obtain ⟨l0,hl0⟩:∃l0,Ev l e.ob e.ho=l0:=⟨_,rfl⟩
 have AGi:l0.length<=100000:=by
  have h1:(Ev l e.ob e.ho).length<=l.length:=List.length_filter_le _ _
  rw [hl0] at h1
  omega
 rw [hl0]
 refine Ab (M:=M) Tryz.func134 []  hst ?_
 refine AQ rfl fun K k0=>?_
 simp -implicitDefEqProofs (disch:=first|omega|decide) only [seval, -Int.reducePow, -Nat.reducePow,cC,pv,Ao,Az,undef,Bb,U5]
 intro b3 hb3 hf3
 refine k0 _ _ ?_
 refine AV [0,3] fun G3 g3=>?_
 have zs:=Bd.mk Bb
 replace g3:=Bi g3
 refine AB fun K k0=>?_
 refine A9 (fun _ _=>True) (fun F' L' => ∃(A2:Option Addr) (n2 c2:Nat),F' 0=G3 0/\F' 4 = .slice A2 n2 c2/\L'=[.row (.slice A2 n2 c2) 163 4 n2 (Au (l0++[e])),.blk b 65 [y0,y1,y2,y3,y4,y5,y6,y7,y8,ty,sz,us,tb,.slice A n c,q0,q1,q2,mt,cp,lg,ms,bt,sv]]/\n2=l0.length+1) ?_ ?_
 ·refine E9 [0] (by decide) (by simp only [Ag,nth,Be,Bv,List.mem_cons,true_or,or_true,and_true,eq_self]) (.rd 0 (.rd 1 (.rd 2 (.rd 3 (.rd 4 (.rd 6 (.more 5 (.act 7 (.act 8 (.rd 9 (.done)))) (.act 7 (.act 5 (.act 8 (.rd 9 (.done)))))))))))) [] CB rfl (by kernel_rfl) (by kernel_rfl) (by kernel_rfl) (by kernel_rfl) ?_
  simp only [Ag,nth]
  have zg:=Bd.mk g3
  refine AR ?_
  refine And.intro ?_ ?_
  ·refine Cn (fun A n c=>.slice A n c) (fun w hw=>(hl0▸EF (JJ.fq hw 1 2 rfl rfl hl) e.ob e.ho)) ?_
   intro A1 n1 c1 hl1 hr1
   have hn1:l0.length=n1:=by rw [BV] at hl1;omega
   refine AR ?_
   intro bE PE Rj
   refine Bj 1 Ld rfl (fun w hw=>Bp (size:=4) (.head _) rfl hw) rfl (by omega) (by omega) ?_
   intro A2 c2 hl2 hr2
   refine AR ?_
   refine ⟨[0,3],by decide, ?_⟩
   simp only [Ag,nth]
   refine ⟨A2,n1+1,c2, ?_⟩
   rw [Dt]
   refine AR ?_
   omega
  ·intro bE PE Rj
   refine Cn (fun A n c=>.slice A n c) (fun w hw=>(hl0▸EF (JJ.fq hw 2 3 rfl rfl hl) e.ob e.ho)) ?_
   intro A1 n1 c1 hl1 hr1
   have hn1:l0.length=n1:=by rw [BV] at hl1;omega
   refine AR ?_
   refine Bj 0 Ld rfl (fun w hw=>Bp (size:=4) (.tail _ (.head _)) rfl hw) rfl (by omega) (by omega) ?_
   intro A2 c2 hl2 hr2
   refine AR ?_
   refine ⟨[0,3],by decide, ?_⟩
   simp only [Ag,nth]
   refine ⟨A2,n1+1,c2, ?_⟩
   rw [Dt]
   refine AR ?_
   omega
 intro G4 L' _ hF
 obtain ⟨A2,n2,c2,Vz,Ou,rfl,hn2⟩:=hF
 have zg:=Bd.mk g3
 have g4:=And.intro (Bg Vz) Ou
 refine k0 _ _ ?_
 refine AB fun K k0=>?_
 replace zg:=Bd.mk g4
 refine BH ?_
 refine AV [0,4,5] fun G5 g5=>?_
 replace g5:=Bg g5
 refine BQ 0 rfl (by omega) fun g DJ hg Bl=>?_
 subst DJ
 simp only [List.eraseIdx_cons_zero,List.eraseIdx_cons_succ,BC,BD,BI,A_,and_true,List.not_mem_nil,or_false,Bb] at Bl hg
 replace hg:=And.intro hg Bl
 clear Bl
 refine Ad ?_
 refine BP (fun F' L' => ∃(k:Nat) (P Q:List Bw),Az F' G5 [0,4]/\F' 5 = .int .i64 (k:Int)/\L'=[.row (.slice (some ⟨g,0,none⟩) n2 c2) 163 4 n2 (Au (P++e::Q)),.blk b 65 [y0,y1,y2,y3,y4,y5,y6,y7,y8,ty,sz,us,tb,.slice A n c,q0,q1,q2,mt,cp,lg,ms,bt,sv]]/\k=P.length/\l0=P++Q∧∀q∈Q,KT q e=false) (fun F' L'=>(intOf (F' 5)).toNat) ?_ ?_
 ·refine ⟨l0.length,l0,[], ?_⟩
  replace zg:=Bd.mk g5
  refine Ap (And.intro hn2 @Int.natCast_add) ?_
  exact ⟨congrArg (Value.int _) (by omega),fun q hq=>by cases hq⟩
 intro G6 L' hI
 obtain ⟨k,P,Q,zq,KO,rfl,⟨hk,U6,hQ⟩⟩:=hI
 replace zg:=Bd.mk g5
 have g6:=And.intro (Bg zq) KO
 have fw:P.length+Q.length=l0.length:=by rw [U6,List.length_append]
 refine AB fun K k1=>?_
 replace zg:=Bd.mk (And.intro g5 g6)
 refine BH ?_
 refine Dl (fun hc=>?_) fun hc=>?_
 case refine_2 =>
  have hk0:P=[]:=List.eq_nil_of_length_eq_zero (by have:=of_decide_eq_false hc;omega)
  subst hk0
  refine BM (k0 _ _ ?_)
  refine AU rfl ?_
  refine AR ?_
  refine ⟨_,rfl,fun w hw=>?_⟩
  have h9:=hw.pick (ix:=[1,0]) (by decide)
  simp only [Ag,nth] at h9
  exact ⟨⟨some ⟨g,0,none⟩,n2,c2,_⟩,rfl,⟨[],Q,U6,rfl,hQ,fun q hq=>by simp at hq⟩,h9⟩
 have hkp:=of_decide_eq_true hc
 rcases KU P with rfl|⟨P',p,rfl⟩
 ·simp at hk;omega
 have hk2:k=P'.length+1:=by simpa using hk
 have ek:IntKind.i64.wrap ((k:Int)-1)=(P'.length:Int):=by rw [Ae (by omega) (by omega)];omega
 have hP2:P'.length<n2/\k<n2:=by simp at fw;omega
 refine AO (k1 _ _ ?_)
 refine AB fun K k1=>?_
 refine Ad ?_
 refine AB fun K k2=>?_
 refine AB fun K k3=>?_
 refine A9 (fun _ _=>True) (fun F' L'=>Az F' G6 [0,4,5]/\F' 61 = .bool (KT p e)/\L'=[.row (.slice (some ⟨g,0,none⟩) n2 c2) 163 4 n2 (Au ((P'++[p])++e::Q)),.blk b 65 [y0,y1,y2,y3,y4,y5,y6,y7,y8,ty,sz,us,tb,.slice A n c,q0,q1,q2,mt,cp,lg,ms,bt,sv]]) ?_ ?_
 ·have r1:((P'++[p])++e::Q)[P'.length]? = some p:=KV P' Q p e
  have r2:((P'++[p])++e::Q)[k]? = some e:=by
   have:=Mv (P'++[p]) Q e
   rwa [<-hk] at this
  have RN:=Co (k:=0) Bu r1 (by omega)
  have q11:=Co (k:=1) Bu r1 (by omega)
  have lq:=Co (k:=0) Bu r2 (by omega)
  have q21:=Co (k:=1) Bu r2 (by omega)
  obtain ⟨E,hE1⟩:∃E,Au ((P'++[p])++e::Q)=E:=⟨_,rfl⟩
  rw [hE1]
  rw [<-Au,hE1] at RN q11 lq q21
  refine BR [(true,0),(true,1),(true,2),(true,3),(true,4),(true,5),(true,6),(true,7),(true,8),(true,9),(true,10),(true,11),(true,12),(true,13),(true,14),(true,15),(true,16),(true,17),(true,18),(true,19),(true,20),(true,21),(true,22),(true,23),(true,24),(true,25),(true,26),(true,27),(true,28),(true,29),(true,30),(true,31),(true,32),(true,33),(true,34),(true,35),(true,36),(true,37),(true,38),(true,39)] [] CB rfl (by kernel_rfl) (by kernel_rfl) rfl rfl ?_
  refine Ap ek ?_
  refine Aj (BN (m:=1) (v:=.int .i64 p.ob) (i:=P'.length*4+0) (.head _) rfl RN) ?_
  refine Ap ek ?_
  refine Aj (BN (m:=1) (v:=.int .i64 e.ob) (i:=k*4+0) (.head _) rfl lq) ?_
  refine Ap ek ?_
  by_cases c1:p.ob<e.ob
  ·refine Ap c1 ?_
   unfold KT
   simp [c1]
  refine Ap (And.intro c1 ek) ?_
  refine Aj (BN (m:=1) (v:=.int .i64 p.ob) (i:=P'.length*4+0) (.head _) rfl RN) ?_
  refine Ap (And.intro ek c1) ?_
  refine Aj (BN (m:=1) (v:=.int .i64 e.ob) (i:=k*4+0) (.head _) rfl lq) ?_
  refine Ap (And.intro ek c1) ?_
  by_cases c2:p.ob=e.ob
  ·have c2':decide (p.ob=e.ob)=true:=decide_eq_true c2
   refine Ap (And.intro c1 (And.intro c2' ek)) ?_
   refine Aj (BN (m:=1) (v:=.int .i64 p.ho) (i:=P'.length*4+1) (.head _) rfl q11) ?_
   refine Ap (And.intro ek (And.intro c1 c2')) ?_
   refine Aj (BN (m:=1) (v:=.int .i64 e.ho) (i:=k*4+1) (.head _) rfl q21) ?_
   refine Ap (And.intro ek (And.intro c1 c2')) ?_
   unfold KT
   simp [c2]
  refine Ap (And.intro c1 c2) ?_
  unfold KT
  simp [c1,c2]
 intro G7 L' _ hF
 obtain ⟨zq,sP,rfl⟩:=hF
 have g7:=And.intro (Bg zq) sP
 refine k3 _ _ ?_
 refine AL ?_
 cases hlt:KT p e with
 | true =>
  replace zg:=Bd.mk (And.intro g5 (And.intro g6 g7))
  refine Ap hlt ?_
  refine BM ?_
  simp only [BJ,BX]
  rw [if_neg (by decide)]
  simp only [if_true]
  refine k0 _ _ ?_
  refine AU rfl ?_
  refine AR ?_
  refine ⟨_,rfl,fun w hw=>?_⟩
  have h9:=hw.pick (ix:=[1,0]) (by decide)
  simp only [Ag,nth] at h9
  exact ⟨⟨some ⟨g,0,none⟩,n2,c2,_⟩,rfl,⟨P'++[p],Q,U6,rfl,hQ,fun q hq=>by simp at hq;exact hq▸hlt⟩,h9⟩
 | false =>
  replace zg:=Bd.mk (And.intro g5 (And.intro g6 g7))
  refine Ap hlt ?_
  refine AO (k2 _ _ ?_)
  have r1:((P'++[p])++e::Q)[P'.length]? = some p:=KV P' Q p e
  have r2:((P'++[p])++e::Q)[k]? = some e:=by
   have:=Mv (P'++[p]) Q e
   rwa [<-hk] at this
  have q3:=FB Bu r1
  have q4:=FB Bu r2
  have p_:∀q∈p::Q,KT q e=false:=fun q hq=>by
   rcases List.mem_cons.1 hq with rfl|hq
   ·exact hlt
   ·exact hQ q hq
  obtain ⟨E,hE1⟩:∃E,Au ((P'++[p])++e::Q)=E:=⟨_,rfl⟩
  obtain ⟨E1,hE2⟩:∃E1,Au (P'++e::e::Q)=E1:=⟨_,rfl⟩
  rw [hE1]
  rw [<-Au,hE1] at q3 q4
  have w1:E.take (P'.length*4)++[Value.int .i64 e.ob,.int .i64 e.ho,.int .i64 e.mo,.int .i64 e.co]++E.drop (P'.length*4+4)=E1:=by
   have:=QM Bu P' (e::Q) p e
   rw [show P'++p::e::Q=(P'++[p])++e::Q by simp,<-Au,<-Au,hE1,hE2] at this
   exact this
  have w2:E1.take (k*4)++[Value.int .i64 p.ob,.int .i64 p.ho,.int .i64 p.mo,.int .i64 p.co]++E1.drop (k*4+4)=Au (P'++e::p::Q):=by
   have:=QM Bu (P'++[e]) Q e p
   rw [show (P'++[e]).length=k by simp;omega,show (P'++[e])++e::Q=P'++e::e::Q by simp,show (P'++[e])++p::Q=P'++e::p::Q by simp,<-Au,<-Au,hE2] at this
   exact this
  have l1:E.length=n2*4:=by rw [<-hE1,BV];simp at fw ⊢;omega
  have l2:E1.length=n2*4:=by rw [<-hE2,BV];simp at fw ⊢;omega
  refine Jk ?_
  refine E9 [] (by decide) (by simp only [Ag,nth,Be,Bv,List.mem_cons,true_or,or_true,and_true,eq_self]) (.rd 0 (.rd 1 (.rd 2 (.rd 3 (.rd 4 (.rd 5 (.rd 6 (.rd 7 (.rd 9 (.rd 10 (.rd 11 (.rd 12 (.more 8 (.act 13 (.rd 14 (.act 15 (.rd 16 (.act 17 (.done)))))) (.act 13 (.act 8 (.rd 14 (.act 15 (.rd 16 (.act 17 (.done)))))))))))))))))))) [17] CB rfl (by kernel_rfl) (by kernel_rfl) (by kernel_rfl) (by kernel_rfl) ?_
  simp only [Ag,nth]
  refine Ap ek ?_
  refine ⟨?_, ?_⟩
  ·refine Aj (DX (i:=k*4) (vs:=[.int .i64 e.ob,.int .i64 e.ho,.int .i64 e.mo,.int .i64 e.co]) (.head _) (by kernel_rfl) q4) ?_
   refine Ap ek ?_
   refine Aj (DX (i:=P'.length*4) (vs:=[.int .i64 p.ob,.int .i64 p.ho,.int .i64 p.mo,.int .i64 p.co]) (.head _) (by kernel_rfl) q3) ?_
   refine Ap ek ?_
   refine Aj (E_ 0 (i:=P'.length*4) (vs:=[.int .i64 e.ob,.int .i64 e.ho,.int .i64 e.mo,.int .i64 e.co]) rfl (by rw [l1];show _+4<=_;omega) (by kernel_rfl) rfl) ?_
   refine Ap (And.intro w1 ek) ?_
   refine Aj (E_ 0 (i:=k*4) (vs:=[.int .i64 p.ob,.int .i64 p.ho,.int .i64 p.mo,.int .i64 p.co]) rfl (by rw [l2];show _+4<=_;omega) (by kernel_rfl) rfl) ?_
   refine Ap (And.intro w2 ek) ?_
   refine ⟨[0,1],by decide, ?_⟩
   simp only [Ag,nth]
   refine k1 _ _ ?_
   refine AF rfl ?_
   refine Ap ek ?_
   refine ⟨⟨P'.length,P',p::Q, ?_⟩, ?_⟩
   ·refine AR ?_
    exact ⟨by rw [U6];simp,fun q hq=>p_ q (by simpa using hq)⟩
   ·simp only [intOf];omega
  ·refine Aj (DX (i:=P'.length*4) (vs:=[.int .i64 p.ob,.int .i64 p.ho,.int .i64 p.mo,.int .i64 p.co]) (.head _) (by kernel_rfl) q3) ?_
   refine Ap ek ?_
   refine Aj (DX (i:=k*4) (vs:=[.int .i64 e.ob,.int .i64 e.ho,.int .i64 e.mo,.int .i64 e.co]) (.head _) (by kernel_rfl) q4) ?_
   refine Ap ek ?_
   refine Aj (E_ 0 (i:=P'.length*4) (vs:=[.int .i64 e.ob,.int .i64 e.ho,.int .i64 e.mo,.int .i64 e.co]) rfl (by rw [l1];show _+4<=_;omega) (by kernel_rfl) rfl) ?_
   refine Ap (And.intro w1 ek) ?_
   refine Aj (E_ 0 (i:=k*4) (vs:=[.int .i64 p.ob,.int .i64 p.ho,.int .i64 p.mo,.int .i64 p.co]) rfl (by rw [l2];show _+4<=_;omega) (by kernel_rfl) rfl) ?_
   refine Ap (And.intro w2 ek) ?_
   refine ⟨[0,1],by decide, ?_⟩
   simp only [Ag,nth]
   refine k1 _ _ ?_
   refine AF rfl ?_
   refine Ap ek ?_
   refine ⟨⟨P'.length,P',p::Q, ?_⟩, ?_⟩
   ·refine AR ?_
    exact ⟨by rw [U6];simp,fun q hq=>p_ q (by simpa using hq)⟩
   ·simp only [intOf];omega
theorem QQ (b:Nat) (y0 y1 y2 y3 y4 y5 y6 y7 y8 ty sz us tb q0 q1 q2 mt cp lg ms bt sv:Value) (x:GJ) (ob:Int) (hl:x.l.length<=100000) (W:World) (hst:St (Ak (K5 b y0 y1 y2 y3 y4 y5 y6 y7 y8 ty sz us tb q0 q1 q2 mt cp lg ms bt sv x)) W (K5 b y0 y1 y2 y3 y4 y5 y6 y7 y8 ty sz us tb q0 q1 q2 mt cp lg ms bt sv x) W) :
  Calls Tryz.prog 85 #[.pointer (some ⟨b,13,none⟩),.int .i64 ob] W
  fun en w' => ∃i:(Option Addr×Nat×Nat)×GJ,en = .returned (QR i)/\i.2.l=(x.l.filter fun b => !decide (b.ob=ob))/\St (Ak (K5 b y0 y1 y2 y3 y4 y5 y6 y7 y8 ty sz us tb q0 q1 q2 mt cp lg ms bt sv x)) W (.row (.slice i.1.1 i.1.2.1 i.1.2.2) 163 4 i.1.2.1 (Au (Fa x.l ob))::K5 b y0 y1 y2 y3 y4 y5 y6 y7 y8 ty sz us tb q0 q1 q2 mt cp lg ms bt sv i.2) w':=by
 obtain ⟨M,hM⟩:∃M,Ak (K5 b y0 y1 y2 y3 y4 y5 y6 y7 y8 ty sz us tb q0 q1 q2 mt cp lg ms bt sv x)=M:=⟨_,rfl⟩
 rw [hM] at hst ⊢
 obtain ⟨A,n,c,l⟩:=x
 unfold K5 at hst
 dsimp only at hst hl ⊢
 clear hM
 obtain ⟨lo,hlo⟩:∃lo,Fa l ob=lo:=⟨_,rfl⟩
 have nC:lo.length<=100000:=by
  have h1:(Fa l ob).length<=l.length:=List.length_filter_le _ _
  rw [hlo] at h1
  omega
 refine Ab (M:=M) Tryz.func85 [.tmp 4]  hst ?_
 have zs:=Bd.mk Bb
 refine Aq ?_
 refine AQ rfl fun K k0=>?_
 refine Ah ?_
 refine Cn (fun A n c=>.slice A n c) (fun w hw=>(hlo▸Jv (JJ.fq hw 0 1 rfl rfl hl) ob)) ?_
 intro A1 n1 c1 hl1 hr1
 have hn1:lo.length=n1:=by rw [BV] at hl1;omega
 refine Ah ?_
 refine k0 _ _ ?_
 refine AB fun K k0=>?_
 refine Aq ?_
 refine AV [0,1,5,6] fun G8 g8=>?_
 replace g8:=Bi g8
 refine Ad ?_
 refine BP (fun F' L' => ∃(i:Nat) (A2:Option Addr) (n2 c2:Nat),Az F' G8 [0,1,5]/\F' 6 = .int .i64 (i:Int)/\L'=[.row (.slice A1 n1 c1) 163 4 n1 (Au lo),.blk b 65 [y0,y1,y2,y3,y4,y5,y6,y7,y8,ty,sz,us,tb,.slice A2 n2 c2,q0,q1,q2,mt,cp,lg,ms,bt,sv],.row (.slice A2 n2 c2) 163 4 n2 (Au (l.filter (KE l ob i)))]/\i<=n1) (fun F' L'=>200000-(intOf (F' 6)).toNat) ?_ ?_
 ·refine ⟨0,A,n,c, ?_⟩
  have:l.filter (KE l ob 0)=l:=List.filter_eq_self.2 fun b _=>by simp [KE]
  rw [this]
  have zg:=Bd.mk g8
  refine AR ?_
  exact Nat.zero_le _
 intro G9 L' hI
 obtain ⟨i,A2,n2,c2,zq,Jq,rfl,hi⟩:=hI
 have zg:=Bd.mk g8
 have g9:=And.intro (Bg zq) Jq
 refine AB fun K k1=>?_
 replace zg:=Bd.mk (And.intro g8 g9)
 refine BH ?_
 refine Dl (fun hc=>?_) fun hc=>?_
 ·refine AO ?_
  try simp only [BJ,BX]
  have hit:i<n1:=by have:=of_decide_eq_true ‹decide ((i:Int)<(n1:Int))=true›;omega
  obtain ⟨e,he⟩:∃e,lo[i]? = some e:=⟨_,List.getElem?_eq_getElem (by omega)⟩
  have hcl:(l.filter (KE l ob i)).length<=100000:=Nat.le_trans (List.length_filter_le _ _) hl
  have hcs:Ev (l.filter (KE l ob i)) ob e.ho=l.filter (KE l ob (i+1)):=by
   rw [Sv]
   refine List.filter_congr fun b _=>?_
   unfold KE Xp
   rw [hlo,List.take_add_one,he]
   simp only [Option.toList_some,List.any_append,List.any_cons,List.any_nil,Bool.or_false]
   rw [show decide (b.ho=e.ho)=decide (e.ho=b.ho) from decide_eq_decide.2 ⟨Eq.symm,Eq.symm⟩]
   cases decide (b.ob=ob)<;>simp
  refine k1 _ _ ?_
  refine BQ 0 rfl (by omega) fun g DJ hg Bl=>?_
  subst DJ
  simp only [List.eraseIdx_cons_zero,List.eraseIdx_cons_succ,BC,BD,BI,A_,and_true,List.not_mem_nil,or_false,Bb] at Bl hg
  replace hg:=And.intro hg Bl
  clear Bl
  refine AB fun K k1=>?_
  refine Ad ?_
  refine AU rfl ?_
  refine AR ?_
  refine Aj (BN (i:=i*4+1) (v:=.int .i64 e.ho) (.head _) rfl (Co Bu he (by omega))) ?_
  refine AR ?_
  refine Cn (fun A n c=>.slice A n c) (fun w hw=>(hcs▸EF (JJ.fq hw 1 2 rfl rfl hcl) ob e.ho)) ?_
  intro A3 n3 c3 hl3 hr3
  refine AR ?_
  refine k1 _ _ ?_
  refine BF [1,2,0] (by decide) ?_
  simp only [Ag,nth]
  refine AF rfl ?_
  refine AR ?_
  refine ⟨⟨i+1,A3,n3,c3, ?_⟩, ?_⟩
  ·refine Ap @Int.natCast_add ?_
   omega
  ·simp only [intOf];omega
 refine BM (k0 _ _ ?_)
 have hin:i=n1:=by have:=of_decide_eq_false ‹decide ((i:Int)<(n1:Int))=false›;omega
 subst hin
 have hfin:l.filter (KE l ob i)=l.filter fun b => !decide (b.ob=ob):=by
  refine List.filter_congr fun b hb=>?_
  unfold KE
  rw [hlo,List.take_of_length_le (by omega),<-hlo]
  by_cases h:b.ob=ob
  ·have:(Fa l ob).any (fun o=>decide (o.ho=b.ho))=true:=List.any_eq_true.2 ⟨b,List.mem_filter.2 ⟨hb,by simpa using h⟩,by simp⟩
   rw [this]
   simp [h]
  ·simp [h]
 rw [hfin]
 refine BH ?_
 refine AP (Br fun w hw=>?_)
 exact ⟨((A1,i,c1),⟨A2,n2,c2,_⟩),rfl,rfl,by rw [hlo];exact hw⟩
theorem UL (b:Nat) (y0 y1 y2 y3 y4 y5 y6 y7 y8 ty sz us tb q0 q1 q2 mt cp lg ms bt sv:Value) (x:GJ) (ob ho:Int) (hl:x.l.length<=100000) (hc:∀e∈x.l,0<=e.co/\e.co<=4611686018427387904) (W:World) (hst:St (Ak (K5 b y0 y1 y2 y3 y4 y5 y6 y7 y8 ty sz us tb q0 q1 q2 mt cp lg ms bt sv x)) W (K5 b y0 y1 y2 y3 y4 y5 y6 y7 y8 ty sz us tb q0 q1 q2 mt cp lg ms bt sv x) W) :
  Calls Tryz.prog 104 #[.pointer (some ⟨b,13,none⟩),.int .i64 ob,.int .i64 ho] W
  fun en w' => ∃i:Int×GJ,en = .returned (Xq i)/\(Gj x.l ob ho i.1 i.2.l/\(¬i.1=0->i.2.l=x.l))/\St (Ak (K5 b y0 y1 y2 y3 y4 y5 y6 y7 y8 ty sz us tb q0 q1 q2 mt cp lg ms bt sv x)) W (K5 b y0 y1 y2 y3 y4 y5 y6 y7 y8 ty sz us tb q0 q1 q2 mt cp lg ms bt sv i.2) w':=by
 obtain ⟨M,hM⟩:∃M,Ak (K5 b y0 y1 y2 y3 y4 y5 y6 y7 y8 ty sz us tb q0 q1 q2 mt cp lg ms bt sv x)=M:=⟨_,rfl⟩
 rw [hM] at hst ⊢
 obtain ⟨A,n,c,l⟩:=x
 unfold K5 at hst
 dsimp only at hst hl hc ⊢
 clear hM
 refine Ab (M:=M) Tryz.func104 [.tmp 6]  hst ?_
 have zs:=Bd.mk Bb
 refine Aq ?_
 cases hh:holdB l ob ho with
 | none =>
  refine AQ rfl fun K k0=>?_
  refine Ah ?_
  refine Aa (fun w hw=>EZ (JJ.fq hw 0 1 rfl rfl hl) ob ho) ?_
  try refine Ah ?_
  simp -implicitDefEqProofs (disch:=first|omega|decide) only [seval, -Int.reducePow, -Nat.reducePow,cC,pv,Ao,Az,undef,Bb,Ij,hh,U5,Mw]
  intro b7 Z0 mZ
  refine k0 _ _ ?_
  refine AB fun K k0=>?_
  refine Aq ?_
  refine AL ?_
  refine Ah ?_
  refine Aq ?_
  refine AP (Cc fun w hw=>?_)
  exact ⟨(13,⟨A,n,c,l⟩),rfl,⟨(by unfold Gj;rw [hh]),fun h=>rfl⟩,hw.tail⟩
 | some e =>
  obtain ⟨he1,he2,he3⟩:=Gl hh
  have hb:=hc e he1
  have hwr:=Ae (x:=e.co-1) (by omega) (by omega)
  refine AQ rfl fun K k0=>?_
  refine Ah ?_
  refine Aa (fun w hw=>EZ (JJ.fq hw 0 1 rfl rfl hl) ob ho) ?_
  try refine Ah ?_
  simp -implicitDefEqProofs (disch:=first|omega|decide) only [seval, -Int.reducePow, -Nat.reducePow,cC,pv,Ao,Az,undef,Bb,Ij,hh,U5]
  intro b7 Z0 mZ
  refine k0 _ _ ?_
  refine AB fun K k0=>?_
  refine Aq ?_
  refine AL ?_
  refine Ah ?_
  refine AO (k0 _ _ ?_)
  refine AV [0,1,2,7] fun pW g10=>?_
  replace g10:=Bi g10
  have zg:=Bd.mk g10
  refine FP hwr ?_
  refine AB fun K k0=>?_
  refine BH ?_
  refine AL ?_
  by_cases h0:e.co-1=0
  ·refine Ap h0 ?_
   refine AU rfl ?_
   refine AR ?_
   refine Cn (fun A n c=>.slice A n c) (fun w hw=>(EF (JJ.fq hw 1 2 rfl rfl hl) ob ho)) ?_
   intro A3 n3 c3 hl3 hr3
   refine AR ?_
   refine k0 _ _ ?_
   refine BH ?_
   refine AP (Br fun w hw=>?_)
   have h9:=hw.pick (ix:=[2,0]) (by decide)
   simp only [Ag,nth] at h9
   exact ⟨(0,⟨A3,n3,c3,Ev l ob ho⟩),rfl,⟨(by unfold Gj;rw [hh];exact ⟨rfl,by rw [if_pos h0]⟩),fun h=>absurd rfl h⟩,h9⟩
  ·refine Ap h0 ?_
   refine AU rfl ?_
   refine AR ?_
   refine Af [.blk b7 163 [.int .i64 e.ob,.int .i64 e.ho,.int .i64 e.mo,.int .i64 (e.co-1)]] (K5 b y0 y1 y2 y3 y4 y5 y6 y7 y8 ty sz us tb q0 q1 q2 mt cp lg ms bt sv ⟨A,n,c,l⟩) (List.Perm.refl _) V9 (K5 b y0 y1 y2 y3 y4 y5 y6 y7 y8 ty sz us tb q0 q1 q2 mt cp lg ms bt sv) _ (fun w hw=>V8 b y0 y1 y2 y3 y4 y5 y6 y7 y8 ty sz us tb q0 q1 q2 mt cp lg ms bt sv ⟨A,n,c,l⟩ { e with co:=e.co-1 } hl w hw) ?_
   intro y hy
   simp -implicitDefEqProofs (disch:=first|omega|decide) only [seval, -Int.reducePow, -Nat.reducePow,cC,pv,Ao,Az,undef,Bb,V9,g10]
   refine k0 _ _ ?_
   refine BH ?_
   refine AP (Br fun w hw=>?_)
   exact ⟨(0,y),rfl,⟨(by unfold Gj;rw [hh];exact ⟨rfl,by rw [if_neg h0];exact hy⟩),fun h=>absurd rfl h⟩,hw.sub (List.sublist_append_left _ _)⟩
theorem aN (b:Nat) (y0 y1 y2 y3 y4 y5 y6 y7 y8 ty sz us tb q0 q1 q2 mt cp lg ms bt sv:Value) (x:GJ) (ob ho mo:Int) (hmo:mo=1\/mo=2) (hl:x.l.length<=100000) (hc:∀e∈x.l,0<=e.co/\e.co<=4611686018427387904) (W:World) (hst:St (Ak (K5 b y0 y1 y2 y3 y4 y5 y6 y7 y8 ty sz us tb q0 q1 q2 mt cp lg ms bt sv x)) W (K5 b y0 y1 y2 y3 y4 y5 y6 y7 y8 ty sz us tb q0 q1 q2 mt cp lg ms bt sv x) W) :
  Calls Tryz.prog 103 #[.pointer (some ⟨b,13,none⟩),.int .i64 ob,.int .i64 ho,.int .i64 mo] W
  fun en w' => ∃i:Int×GJ,en = .returned (Xq i)/\(GV x.l ob ho mo i.1 i.2.l/\(¬i.1=0->i.2.l=x.l))/\St (Ak (K5 b y0 y1 y2 y3 y4 y5 y6 y7 y8 ty sz us tb q0 q1 q2 mt cp lg ms bt sv x)) W (K5 b y0 y1 y2 y3 y4 y5 y6 y7 y8 ty sz us tb q0 q1 q2 mt cp lg ms bt sv i.2) w':=by
 obtain ⟨M,hM⟩:∃M,Ak (K5 b y0 y1 y2 y3 y4 y5 y6 y7 y8 ty sz us tb q0 q1 q2 mt cp lg ms bt sv x)=M:=⟨_,rfl⟩
 rw [hM] at hst ⊢
 obtain ⟨A,n,c,l⟩:=x
 unfold K5 at hst
 dsimp only at hst hl hc ⊢
 clear hM
 obtain ⟨lo,hlo⟩:∃lo,Fa l ob=lo:=⟨_,rfl⟩
 have nC:lo.length<=100000:=by
  have h1:(Fa l ob).length<=l.length:=List.length_filter_le _ _
  rw [hlo] at h1
  omega
 have hhc:0<=((holdB l ob ho).getD Mw).co/\((holdB l ob ho).getD Mw).co<=4611686018427387904:=by
  cases hh:holdB l ob ho with
  | none=>simp [Mw]
  | some e=>exact hc e (Gl hh).1
 have hwr:=Ae (x:=((holdB l ob ho).getD Mw).co+1) (by omega) (by omega)
 have hm1:(mo≠1->mo≠2->False):=by omega
 refine Ab (M:=M) Tryz.func103 [.tmp 8]  hst ?_
 have zs:=Bd.mk Bb
 refine Aq ?_
 refine AV [0,1,2,3] fun ry g11=>?_
 replace g11:=Bi g11
 refine AB fun K k0=>?_
 refine AB fun K k1=>?_
 refine A9 (fun _ _=>True) (fun F' L'=>Az F' ry [0,1,2,3]/\F' 17 = .bool false/\L'=[.blk b 65 [y0,y1,y2,y3,y4,y5,y6,y7,y8,ty,sz,us,tb,.slice A n c,q0,q1,q2,mt,cp,lg,ms,bt,sv],.row (.slice A n c) 163 4 n (Au l)]) ?_ ?_
 ·rcases hmo with rfl|rfl
  ·refine AF rfl ?_
   have zg:=Bd.mk g11
   exact MQ
  ·refine AF rfl ?_
   have zg:=Bd.mk g11
   exact MQ
 intro G12 L' _ hF
 obtain ⟨zq,sQ,rfl⟩:=hF
 have zg:=Bd.mk g11
 have g12:=And.intro (Bg zq) sQ
 refine k1 _ _ ?_
 refine AL ?_
 replace zg:=Bd.mk g12
 refine AR ?_
 refine AO (k0 _ _ ?_)
 refine AQ rfl fun K k0=>?_
 refine AR ?_
 refine Cn (fun A n c=>.slice A n c) (fun w hw=>(hlo▸Jv (JJ.fq hw 0 1 rfl rfl hl) ob)) ?_
 intro A1 n1 c1 hl1 hr1
 have hn1:lo.length=n1:=by rw [BV] at hl1;omega
 refine AR ?_
 refine k0 _ _ ?_
 refine AV [0,1,2,3,9] fun G13 g13=>?_
 replace g13:=Bg g13
 refine AB fun K k0=>?_
 refine AB fun K k1=>?_
 refine A9 (fun _ _=>True) (fun F' L'=>Az F' G13 [0,1,2,3]/\F' 34 = .bool (decide (lo≠[]/\(mo=2\/(lo.head?.map Bw.mo)=some 2)))/\L'=[.blk b 65 [y0,y1,y2,y3,y4,y5,y6,y7,y8,ty,sz,us,tb,.slice A n c,q0,q1,q2,mt,cp,lg,ms,bt,sv],.row (.slice A n c) 163 4 n (Au l)]) ?_ ?_
 ·refine BG [1,2] (by decide) ?_
  rcases lo with _|⟨e0,lo⟩
  ·simp at hn1
   subst hn1
   refine AU rfl ?_
   replace zg:=Bd.mk g13
   exact MQ
  ·simp only [List.length_cons] at hn1
   have hpos:decide ((0:Int)<(n1:Int))=true:=decide_eq_true (by omega)
   refine BQ 0 rfl (by omega) fun g DJ hg Bl=>?_
   subst DJ
   simp only [List.eraseIdx_cons_zero,List.eraseIdx_cons_succ,BC,BD,BI,A_,and_true,List.not_mem_nil,or_false,Bb] at Bl hg
   replace hg:=And.intro hg Bl
   clear Bl
   by_cases hm2:mo=2
   ·have hd2:decide (mo=2)=true:=decide_eq_true hm2
    refine AU rfl ?_
    replace zg:=Bd.mk g13
    refine Ap (And.intro hpos hd2) ?_
    simp [hm2]
   ·refine AU rfl ?_
    replace zg:=Bd.mk g13
    refine Ap (And.intro hpos hm2) ?_
    refine Aj (BN (m:=1) (i:=0*4+2) (v:=.int .i64 e0.mo) (.head _) rfl (Co Bu (l:=e0::lo) (i:=0) rfl (by omega))) ?_
    refine AR ?_
    simp [hm2]
 intro G14 L' _ hF
 obtain ⟨zq,f_,rfl⟩:=hF
 replace zg:=Bd.mk g13
 have g14:=And.intro (Bg zq) f_
 refine k1 _ _ ?_
 refine AL ?_
 by_cases hcd:lo≠[]/\(mo=2\/(lo.head?.map Bw.mo)=some 2)
 ·have hd:decide (lo≠[]/\(mo=2\/(lo.head?.map Bw.mo)=some 2))=true:=decide_eq_true hcd
  replace zg:=Bd.mk g14
  refine Ap hd ?_
  refine BH ?_
  refine AP (Br fun w hw=>?_)
  exact ⟨(14,⟨A,n,c,l⟩),rfl,⟨(by unfold GV;rw [hlo,if_pos hcd]),fun h=>rfl⟩,hw⟩
 have hd:decide (lo≠[]/\(mo=2\/(lo.head?.map Bw.mo)=some 2))=false:=decide_eq_false hcd
 replace zg:=Bd.mk g14
 refine Ap hd ?_
 refine AO (k0 _ _ ?_)
 obtain ⟨e,he⟩:∃e,(holdB l ob ho).getD Mw=e:=⟨_,rfl⟩
 rw [he] at hwr
 refine AQ rfl fun K k0=>?_
 refine AR ?_
 refine Aa (fun w hw=>EZ (JJ.fq hw 0 1 rfl rfl hl) ob ho) ?_
 try refine AR ?_
 simp -implicitDefEqProofs (disch:=first|omega|decide) only [seval, -Int.reducePow, -Nat.reducePow,cC,pv,Ao,Az,undef,Bb,Ij,he,U5,g14]
 intro b10 IU JK
 refine k0 _ _ ?_
 refine AV [0,1,2,3,10] fun G15 g15=>?_
 replace g15:=Bg g15
 refine AQ rfl fun K k0=>?_
 replace zg:=Bd.mk g15
 refine Ap hwr ?_
 refine Af [.blk b10 163 [.int .i64 e.ob,.int .i64 e.ho,.int .i64 e.mo,.int .i64 e.co]] (K5 b y0 y1 y2 y3 y4 y5 y6 y7 y8 ty sz us tb q0 q1 q2 mt cp lg ms bt sv ⟨A,n,c,l⟩) (List.Perm.refl _) V9 (K5 b y0 y1 y2 y3 y4 y5 y6 y7 y8 ty sz us tb q0 q1 q2 mt cp lg ms bt sv) _ (fun w hw=>V8 b y0 y1 y2 y3 y4 y5 y6 y7 y8 ty sz us tb q0 q1 q2 mt cp lg ms bt sv ⟨A,n,c,l⟩ ⟨ob,ho,mo,e.co+1⟩ hl w hw) ?_
 intro y hy
 simp -implicitDefEqProofs (disch:=first|omega|decide) only [seval, -Int.reducePow, -Nat.reducePow,cC,pv,Ao,Az,undef,Bb,V9,g15]
 refine k0 _ _ ?_
 refine BH ?_
 refine AP (Br fun w hw=>?_)
 exact ⟨(0,y),rfl,⟨(by unfold GV;rw [hlo,if_neg hcd,he];exact ⟨rfl,hy⟩),fun h=>absurd rfl h⟩,hw.sub (List.sublist_append_left _ _)⟩
structure dh (w:World) (B:Nat) (y:Li):Prop where
 blk:Sl w B 1 (some ⟨y.bM,10,none⟩) 2 2 [.int .i64 y.N,.slice y.UA y.un y.uc]
 us:Di w B y.UA y.un y.uc y.us
 len:y.us.length<=100
 prop:∀e∈y.us,e.prop
section
variable {W w:World} {L:List Ai} {y:Li}
theorem dh.at (h:dh W W.heap.size y) (hw:St [] W L w):dh w w.heap.size y:=⟨h.blk.at hw,h.us.at hw,h.len,h.prop⟩
theorem dh.lt {w:World} {B:Nat} (h:dh w B y):y.bM<B:=by
 obtain ⟨b',o',e,hb, -⟩:=h.blk.cells (by omega)
 cases e
 exact hb
end
theorem QS (y:Li) (W:World) (h:dh W W.heap.size y):Calls Tryz.prog 149 #[.pointer (some ⟨y.bM,10,none⟩)] W
  (UM 103 2 (fun v=>v) (Bn (Ex.V_ y.N y.us)) W):=by
 have hbM:=h.lt
 obtain ⟨bM,N,UA,un,uc,us⟩:=y
 have hE:=h.us
 have hl:=hE.len
 have AGj:=h.len
 have hp:=h.prop
 dsimp only at *
 have ABr:∀i,Ex.JX (Ex.setOf (us.take i)):=fun i=>Ex.Sw (us.take i) [] (fun i hi=>by simp at hi) fun e he=>hp e (List.mem_of_mem_take he)
 have hlen:=fun i=>Ex.Ng (us.take i)
 have htl:∀i,(us.take i).length<=us.length:=fun i=>by rw [List.length_take];omega
 refine Ab (M:=[]) Tryz.func149 [.tmp 2] (St.nil _ _) ?_
 have zs:=Bd.mk QT
 refine Aq ?_
 refine Aq ?_
 refine AB fun K k0=>?_
 refine Aq ?_
 refine AV [0,3,4] fun G1 g1=>?_
 replace g1:=Bi g1
 refine Ad ?_
 refine D5 103 2 ?_
 refine BP (fun F' L' => ∃(i:Nat) (A:Option Addr) (n c:Nat),F' 0=G1 0/\F' 3 = .slice A n c/\F' 4 = .int .i64 (i:Int)/\L'=[.row (.slice A n c) 103 2 n (Bn (Ex.setOf (us.take i)))]/\i<=un) (fun F' L'=>200-(intOf (F' 4)).toNat) ?_ ?_
 ·refine ⟨0,none,0,0, ?_⟩
  have zg:=Bd.mk g1
  refine AR ?_
  exact ⟨rfl,by omega⟩
 intro G2 L' hI
 obtain ⟨i,A,n,c,Vz,mr,Ou,rfl,hi⟩:=hI
 have zg:=Bd.mk g1
 have g2:=And.intro (Bg Vz) (And.intro mr Ou)
 refine AB fun K k1=>?_
 refine AQ rfl fun K k2=>?_
 replace zg:=Bd.mk (And.intro g1 g2)
 refine AR ?_
 refine Aj (h.blk.ld1 (m:=1) (i:=1) (by kernel_rfl) rfl) ?_
 refine AR ?_
 refine k2 _ _ ?_
 refine Dl (fun hc=>?_) fun hc=>?_
 ·refine AO ?_
  try simp only [BJ,BX]
  have hit:i<un:=by have:=of_decide_eq_true ‹decide ((i:Int)<(un:Int))=true›;omega
  obtain ⟨bF,oF,rfl,hbF, -⟩:=hE.cells (by omega)
  obtain ⟨x,hx⟩:∃x,Ex.get us i=x:=⟨_,rfl⟩
  have hxm:x∈us:=by rw [<-hx,Ex.get_eq (by omega)];exact List.getElem_mem _
  have hxp:=hp x hxm
  have htk:us.take (i+1)=us.take i++[x]:=by rw [List.take_add_one,List.getElem?_eq_getElem (by omega),<-hx,Ex.get_eq (by omega)];rfl
  have hsn:=Ex.setOf_snoc (us.take i) x
  rw [<-htk] at hsn
  have hv:=ABr i
  have hln:=hlen i
  have AJj:=htl i
  refine k1 _ _ ?_
  refine AB fun K k1=>?_
  refine Ad ?_
  refine AU rfl ?_
  refine AR ?_
  refine Aj (h.blk.ld1 (m:=1) (i:=1) (by kernel_rfl) rfl) ?_
  refine AR ?_
  refine Aj (hE.ld hit) ?_
  refine Ap hx ?_
  refine Cn (fun A n c=>.tuple #[.slice A n c,.int .i64 (Ex.F5 (Ex.setOf (us.take i)) x).2]) (fun w hw=>(WA A n c (Ex.setOf (us.take i)) x w (Di.Av hw (.head _)) (by have:=(Di.Av hw (.head _)).len;omega) (fun j hj=>Ex.ZI hv (by have:=(Di.Av hw (.head _)).len;omega)) (by unfold Ext.prop at hxp;omega) (by unfold Ext.prop at hxp;omega))) ?_
  intro A1 n1 c1 hl1 hr1
  refine AR ?_
  refine k1 _ _ ?_
  refine BF [0] (by decide) ?_
  simp only [Ag,nth]
  refine AF rfl ?_
  refine Ap @Ae ?_
  refine ⟨⟨i+1,A1,n1,c1, ?_⟩, ?_⟩
  ·refine Ap (And.intro @Int.natCast_add hsn) ?_
   omega
  ·simp only [intOf];omega
 refine BM (k0 _ _ ?_)
 have hit:¬i<un:=by have:=of_decide_eq_false ‹decide ((i:Int)<(un:Int))=false›;omega
 rw [List.take_of_length_le (by omega)]
 have hv:=ABr us.length
 rw [List.take_length] at hv
 have hln:=Ex.Ng us
 refine AQ rfl fun K k0=>?_
 refine AR ?_
 refine Aj (h.blk.ld1 (m:=1) (i:=0) (by kernel_rfl) rfl) ?_
 refine AR ?_
 refine Cn (fun A n c=>.tuple #[.slice A n c,.int .i64 (Ex.FM (Ex.setOf us) N).2]) (fun w hw=>(Ov A n c (Ex.setOf us) N w (Di.Av hw (.head _)) (by have:=(Di.Av hw (.head _)).len;omega) (fun j hj=>Ex.ZI hv (by have:=(Di.Av hw (.head _)).len;omega)))) ?_
 intro A1 n1 c1 hl1 hr1
 refine AR ?_
 refine k0 _ _ ?_
 refine BH ?_
 refine AP (Br fun w hw=>?_)
 exact ⟨_,_,_,rfl,hw.Tu (by simp),hw.below⟩
theorem OX (y:Li) (n:Int) (fr:List Ext) (tk:List (Int×Int)) (W:World) (h:dh W W.heap.size y) (hI:Ex.Inv y.N y.us fr tk):Calls Tryz.prog 128 #[.pointer (some ⟨y.bM,10,none⟩),.int .i64 n] W
  fun e w'=>e = .returned (.tuple #[.int .i64 (Ex.UN n fr).1,.bool (Ex.UN n fr).2])/\Below W.heap.size W w':=by
 have hbM:=h.lt
 have hfl:=hI.ABs
 have AGj:=h.len
 obtain ⟨hv, -, -, -⟩:=hI.free
 have hfr:=hI.fr
 refine Ab (M:=[]) Tryz.func128 [.tmp 4,.tmp 5] (St.nil _ _) ?_
 have zs:=Bd.mk QT
 refine Aq ?_
 refine AQ rfl fun K k0=>?_
 refine Ah ?_
 refine Cn (fun A n c=>.slice A n c) (fun w hw=>(by have:=QS y w (h.at hw);rw [<-hfr] at this;exact this)) ?_
 intro A m c hl hr
 refine Ah ?_
 refine k0 _ _ ?_
 have hlm:fr.length=m:=by rw [Ik] at hl;omega
 refine Aq ?_
 refine AB fun K k0=>?_
 refine Aq ?_
 refine AV [1,6,7,8] fun G3 g3=>?_
 replace g3:=Bi g3
 refine Ad ?_
 refine BP (fun F' L' => ∃(i:Nat) (b:Int),Az F' G3 [1,6]/\F' 7 = .int .i64 b/\F' 8 = .int .i64 (i:Int)/\L'=[.row (.slice A m c) 103 2 m (Bn fr)]/\i<=m/\PlI n fr i b) (fun F' L'=>200-(intOf (F' 8)).toNat) ?_ ?_
 ·refine ⟨0, -1, ?_⟩
  have zg:=Bd.mk g3
  refine AR ?_
  exact ⟨by omega,⟨.inl ⟨rfl,rfl⟩⟩⟩
 intro G4 L' hI
 obtain ⟨i,b,zq,Lv,QU,rfl,⟨hi,⟨hb⟩⟩⟩:=hI
 have zg:=Bd.mk g3
 have g4:=And.intro (Bg zq) (And.intro Lv QU)
 refine AB fun K k1=>?_
 replace zg:=Bd.mk (And.intro g3 g4)
 refine BH ?_
 refine Dl (fun hc=>?_) fun hc=>?_
 ·refine AO ?_
  try simp only [BJ,BX]
  have hit:i<m:=by have:=of_decide_eq_true ‹decide ((i:Int)<(m:Int))=true›;omega
  have hgi:=Ew fr i (by omega)
  obtain ⟨x,hx⟩:∃x,Ex.get fr i=x:=⟨_,rfl⟩
  rw [hx] at hgi
  have hbt:=Ex.aO (size:=n) (fr:=fr) (i:=i) (by omega)
  rw [hx] at hbt
  obtain ⟨B,hB⟩:∃B,Ex.Gv n (fr.take i)=B:=⟨_,rfl⟩
  rw [hB] at hb hbt
  refine k1 _ _ ?_
  refine BQ 0 rfl (by omega) fun g DJ hg Bl=>?_
  subst DJ
  simp only [List.eraseIdx_cons_zero,List.eraseIdx_cons_succ,BC,BD,BI,A_,and_true,List.not_mem_nil,or_false] at Bl hg
  replace hg:=And.intro hg Bl
  clear Bl
  refine AB fun K k1=>?_
  refine Ad ?_
  refine AB fun K k2=>?_
  refine A9 (fun _ _=>True) (fun F' L'=>Az F' G4 [1,6,7,8]/\F' 40 = .bool (decide (n<=x.len/\(B.len=0\/x.len<B.len)))/\L'=[.row (.slice (some ⟨g,0,none⟩) m c) 103 2 m (Bn fr)]) ?_ ?_
  ·by_cases a1:n<=x.len
   ·have a1':decide (n<=x.len)=true:=decide_eq_true a1
    rcases hb with ⟨rfl,rfl⟩|⟨k,rfl,hk,hgk⟩
    ·refine BR [(true,0),(true,1),(true,2),(true,3),(true,4),(true,5),(true,6),(true,7),(true,8),(true,9),(true,10),(true,11),(true,12),(true,13),(true,14),(true,15),(true,16),(true,17),(true,18),(true,19),(true,20),(true,21),(true,22),(true,23)] [] CB rfl (by kernel_rfl) (by kernel_rfl) rfl rfl ?_
     refine AR ?_
     refine Aj (BN (m:=1) (v:=.int .i64 x.len) (i:=i*2+1) (.head _) rfl hgi.2) ?_
     exact NQ a1'
    ·have gD:=Ew fr k (by omega)
     have hpk:=CZ hv (show k<fr.length by omega)
     rw [hgk] at gD hpk
     have a2':decide ((k:Int)<0)=false:=decide_eq_false (by omega)
     refine BR [(true,0),(true,1),(true,2),(true,3),(true,4),(true,5),(true,6),(true,7),(true,8),(true,9),(true,10),(true,11),(true,12),(true,13),(true,14),(true,15),(true,16),(true,17),(true,18),(true,19),(true,20),(true,21),(true,22),(true,23)] [] CB rfl (by kernel_rfl) (by kernel_rfl) rfl rfl ?_
     refine AR ?_
     refine Aj (BN (m:=1) (v:=.int .i64 x.len) (i:=i*2+1) (.head _) rfl hgi.2) ?_
     refine Ap (And.intro a1' a2') ?_
     refine Aj (BN (m:=1) (v:=.int .i64 x.len) (i:=i*2+1) (.head _) rfl hgi.2) ?_
     refine Ap (And.intro a1' a2') ?_
     refine Aj (BN (m:=1) (v:=.int .i64 B.len) (i:=k*2+1) (.head _) rfl gD.2) ?_
     refine Ap (And.intro a1' a2') ?_
     rw [show decide (n<=x.len/\(B.len=0\/x.len<B.len))=decide (x.len<B.len) by apply decide_eq_decide.2;constructor<;>(intro h;omega)]
     all_goals (repeat' refine And.intro ?_ ?_)
     all_goals (first|with_reducible rfl|(refine congrArg Value.bool ?_;rw [Bool.eq_iff_iff];(try simp only [decide_eq_true_eq,eq_self,true_and,and_true,false_and,and_false,true_or,or_true,false_or,or_false,not_true_eq_false,not_false_eq_true,true_iff,iff_true,false_iff,iff_false,Bool.false_eq_true,Bool.not_eq_true',Bool.not_eq_true,decide_eq_false_iff_not,Bool.and_eq_true,Bool.or_eq_true])<;>omega)|(refine congrArg (Value.int _) ?_;omega)|omega)
   ·have a1':decide (n<=x.len)=false:=decide_eq_false a1
    refine BR [(true,0),(true,1),(true,2),(true,3),(true,4),(true,5),(true,6),(true,7),(true,8),(true,9),(true,10),(true,11),(true,12),(true,13),(true,14),(true,15),(true,16),(true,17),(true,18),(true,19),(true,20),(true,21),(true,22),(true,23)] [] CB rfl (by kernel_rfl) (by kernel_rfl) rfl rfl ?_
    refine AR ?_
    refine Aj (BN (m:=1) (v:=.int .i64 x.len) (i:=i*2+1) (.head _) rfl hgi.2) ?_
    refine Ap a1' ?_
    rw [show decide (n<=x.len/\(B.len=0\/x.len<B.len))=false from decide_eq_false fun h=>a1 h.1]
    all_goals (repeat' refine And.intro ?_ ?_)
    all_goals (first|with_reducible rfl|(refine congrArg Value.bool ?_;rw [Bool.eq_iff_iff];(try simp only [decide_eq_true_eq,eq_self,true_and,and_true,false_and,and_false,true_or,or_true,false_or,or_false,not_true_eq_false,not_false_eq_true,true_iff,iff_true,false_iff,iff_false,Bool.false_eq_true,Bool.not_eq_true',Bool.not_eq_true,decide_eq_false_iff_not,Bool.and_eq_true,Bool.or_eq_true])<;>omega)|(refine congrArg (Value.int _) ?_;omega)|omega)
  intro G5 L' _ hF
  obtain ⟨zq,AGl,rfl⟩:=hF
  have g5:=And.intro (Bg zq) AGl
  refine k2 _ _ ?_
  replace zg:=Bd.mk (And.intro g3 (And.intro g4 g5))
  refine Dl (fun hc=>?_) fun hc=>?_
  ·have q1:=of_decide_eq_true hc
   have hs:Ex.Fb n B x=x:=if_pos q1
   rw [hs] at hbt
   refine AU rfl ?_
   refine AR ?_
   refine k1 _ _ ?_
   refine AF rfl ?_
   refine Ap @Ae ?_
   refine ⟨⟨i+1,(i:Int), ?_⟩, ?_⟩
   ·refine Ap @Int.natCast_add ?_
    exact ⟨by omega,⟨.inr ⟨i,rfl,by omega,by rw [hbt,hx]⟩⟩⟩
   ·simp only [intOf];omega
  ·have q1:=of_decide_eq_false hc
   have hs:Ex.Fb n B x=B:=if_neg q1
   rw [hs] at hbt
   refine AO (k1 _ _ ?_)
   refine AF rfl ?_
   refine Ap @Ae ?_
   refine ⟨⟨i+1,b, ?_⟩, ?_⟩
   ·refine Ap @Int.natCast_add ?_
    refine ⟨by omega,⟨?_⟩⟩
    rw [hbt]
    exact hb.imp id fun ⟨k,h1,h2,h3⟩=>⟨k,h1,by omega,h3⟩
   ·simp only [intOf];omega
 refine BM (k0 _ _ ?_)
 have hit:¬i<m:=by have:=of_decide_eq_false ‹decide ((i:Int)<(m:Int))=false›;omega
 rw [List.take_of_length_le (by omega)] at hb
 rcases hb with ⟨rfl,hb⟩|⟨k,rfl,hk,hgk⟩
 ·refine AB fun K k0=>?_
  refine BH ?_
  refine AL ?_
  refine AR ?_
  refine BH ?_
  refine AP (Br fun w hw=>?_)
  unfold Ex.UN
  rw [hb]
  exact ⟨rfl,hw.below⟩
 ·have gD:=Ew fr k (by omega)
  have hpk:=CZ hv (show k<fr.length by omega)
  rw [hgk] at gD hpk
  have a2':decide ((k:Int)<0)=false:=decide_eq_false (by omega)
  refine AB fun K k0=>?_
  refine FP a2' ?_
  refine AL ?_
  refine AR ?_
  refine AO (k0 _ _ ?_)
  refine BQ 0 rfl (by omega) fun g DJ hg Bl=>?_
  subst DJ
  simp only [List.eraseIdx_cons_zero,List.eraseIdx_cons_succ,BC,BD,BI,A_,and_true,List.not_mem_nil,or_false] at Bl hg
  replace hg:=And.intro hg Bl
  clear Bl
  refine AQ rfl fun K k0=>?_
  refine AR ?_
  refine Aj (BN (m:=1) (v:=.int .i64 (Ex.Gv n fr).off) (i:=k*2) (.head _) rfl gD.1) ?_
  refine AR ?_
  refine k0 _ _ ?_
  refine AP (Br fun w hw=>?_)
  unfold Ex.UN
  rw [if_neg (by omega)]
  exact ⟨rfl,hw.below⟩
theorem YC (y:Li) (n:Int) (fr:List Ext) (tk:List (Int×Int)) (W:World) (h:dh W W.heap.size y) (hI:Ex.Inv y.N y.us fr tk):Calls Tryz.prog 127 #[.pointer (some ⟨y.bM,10,none⟩),.int .i64 n] W
  fun e w'=>e = .returned (.int .i64 (Ex.findF fr n).2)/\Below W.heap.size W w':=by
 obtain ⟨e0,he⟩:∃e0,Sz.err n=e0:=⟨_,rfl⟩
 have vE:=WB (n:=n) (fr:=fr)
 obtain ⟨S,hS⟩:∃S,Sz.K6 n=S:=⟨_,rfl⟩
 have hfe:¬e0=0->(Ex.findF fr n).2=e0:=fun h=>by unfold Ex.findF;rw [he,if_neg h]
 rw [hS,he] at vE
 obtain ⟨q,hq⟩:∃q,Ex.UN S fr=q:=⟨_,rfl⟩
 rw [hq] at vE
 refine Ab (M:=[]) Tryz.func127 [.tmp 4] (St.nil _ _) ?_
 have zs:=Bd.mk QT
 refine Aq ?_
 refine AQ rfl fun K k0=>?_
 refine Ah ?_
 refine Aa (fun w hw=>L_ n w) ?_
 try refine D_ (And.intro hS he) ?_
 refine k0 _ _ ?_
 refine AB fun K k0=>?_
 refine Aq ?_
 refine ABS (fun hc=>?_) fun hc=>?_
 ·have hz:¬e0=0:=ZA ‹(!decide (e0=0))=true›
  refine Aq ?_
  refine AP (Cc fun w hw=>?_)
  rw [hfe hz]
  exact ⟨rfl,hw.below⟩
 have hz:e0=0:=Decidable.not_not.1 (Vp ‹(!decide (e0=0))=false›)
 obtain ⟨hp1,hp2⟩:=vE hz
 refine AO (k0 _ _ ?_)
 refine AQ rfl fun K k0=>?_
 refine Ah ?_
 refine Aa (fun w hw=>OX y S fr tk w (h.at hw) hI) ?_
 try refine D_ hq ?_
 refine k0 _ _ ?_
 refine AV [8] fun G6 g6=>?_
 replace g6:=Bi g6
 refine AB fun K k0=>?_
 have zg:=Bd.mk g6
 refine BH ?_
 refine Dl (fun hc=>?_) fun hc=>?_
 ·have q1:q.2=false:=by simpa using ‹(!q.2)=true›
  refine BH ?_
  refine AP (Br fun w hw=>?_)
  rw [hp1,q1]
  exact ⟨rfl,hw.below⟩
 have q1:q.2=true:=by simpa using ‹(!q.2)=false›
 refine AO (k0 _ _ ?_)
 refine BH ?_
 refine AP (Br fun w hw=>?_)
 rw [hp1,q1]
 exact ⟨rfl,hw.below⟩
def Xr (y0 y1 y2 y3 y4 y5 y6 y7 y8 ty tb ln q0 q1 q2 mt cp lg ms bt sv:Value) (y:Li):List Ai:=[.blk y.bM 65 [y0,y1,y2,y3,y4,y5,y6,y7,y8,ty,.int .i64 y.N,.slice y.UA y.un y.uc,tb,ln,q0,q1,q2,mt,cp,lg,ms,bt,sv],.row (.slice y.UA y.un y.uc) 103 2 y.un (Bn y.us)]
theorem dh.of {M:List Nat} {W w:World} {L:List Ai} {y:Li} {y0 y1 y2 y3 y4 y5 y6 y7 y8 ty tb ln q0 q1 q2 mt cp lg ms bt sv:Value} (hw:St M W L w) (i k:Nat) (hi:nth L i=some (.blk y.bM 65 [y0,y1,y2,y3,y4,y5,y6,y7,y8,ty,.int .i64 y.N,.slice y.UA y.un y.uc,tb,ln,q0,q1,q2,mt,cp,lg,ms,bt,sv]))
  (hk:nth L k=some (.row (.slice y.UA y.un y.uc) 103 2 y.un (Bn y.us))) (hl:y.us.length<=100) (hp:∀e∈y.us,e.prop):dh w w.heap.size y :=
 ⟨Sl.UB hw i hi 10 [.int .i64 y.N,.slice y.UA y.un y.uc] rfl (by simp),Di.Av hw (AZ hk),hl,hp⟩
theorem ZJ:type_of% (And.intro (And.intro @Jw.eq_1 (And.intro @aP.eq_1 @Xr.eq_1)) (And.intro (And.intro @Nat.mul_one @Ae) (And.intro @vC @cM))):=(And.intro (And.intro @Jw.eq_1 (And.intro @aP.eq_1 @Xr.eq_1)) (And.intro (And.intro @Nat.mul_one @Ae) (And.intro @vC @cM)))
theorem WC (y0 y1 y2 y3 y4 y5 y6 y7 y8 ty tb ln q0 q1 q2 mt cp lg ms bt sv:Value) (y:Li) (n:Int) (fr:List Ext) (tk:List (Int×Int)) (W:World) (hst:St (Ak (Xr y0 y1 y2 y3 y4 y5 y6 y7 y8 ty tb ln q0 q1 q2 mt cp lg ms bt sv y)) W (Xr y0 y1 y2 y3 y4 y5 y6 y7 y8 ty tb ln q0 q1 q2 mt cp lg ms bt sv y) W) (hI:Ex.Inv y.N y.us fr tk) (hl:y.us.length<=90) :
  Calls Tryz.prog 92 #[.pointer (some ⟨y.bM,10,none⟩),.int .i64 n] W
  fun e w' => ∃z:Li,e = .returned (.tuple #[aP (Ex.findF fr n).1,.int .i64 (Ex.findF fr n).2]) ∧
   (z.bM=y.bM/\z.N=y.N/\z.us=(if (Ex.findF fr n).2=0 then y.us++[(Ex.findF fr n).1] else y.us))/\St (Ak (Xr y0 y1 y2 y3 y4 y5 y6 y7 y8 ty tb ln q0 q1 q2 mt cp lg ms bt sv y)) W (Xr y0 y1 y2 y3 y4 y5 y6 y7 y8 ty tb ln q0 q1 q2 mt cp lg ms bt sv z) w':=by
 have hp:=fun e he=>(hI.prop e he).1
 obtain ⟨M,hM⟩:∃M,Ak (Xr y0 y1 y2 y3 y4 y5 y6 y7 y8 ty tb ln q0 q1 q2 mt cp lg ms bt sv y)=M:=⟨_,rfl⟩
 rw [hM] at hst ⊢
 obtain ⟨q,hq⟩:∃q,Ex.findF fr n=q:=⟨_,rfl⟩
 have hfe:=Ex.aQ (fr:=fr) (n:=n)
 have vE:=WB (n:=n) (fr:=fr)
 have hal:=hI.alloc (n:=n)
 obtain ⟨S,hS⟩:∃S,Sz.K6 n=S:=⟨_,rfl⟩
 obtain ⟨pq,hpq⟩:∃pq,Ex.UN S fr=pq:=⟨_,rfl⟩
 rw [hS,hpq,hq] at vE
 rw [hq] at hfe hal
 rw [hq]
 obtain ⟨bM,N,UA,un,uc,us⟩:=y
 dsimp only at hp hI hl hal
 unfold Xr at hst
 dsimp only at hst
 clear hM
 refine DY (M:=M) (n:=46) [.cell 4 103,.tmp 5] rfl Tryz.func92 rfl rfl (Nat.le_of_ble_eq_true rfl)  hst ?_
 refine AQ rfl fun K k0=>?_
 have zs:=Bd.mk ZJ
 refine Ah ?_
 intro b4 hb4 r_
 refine k0 _ _ ?_
 refine AB fun K k0=>?_
 refine AQ rfl fun K k1=>?_
 refine Ah ?_
 refine Aa (fun w hw=>(YC ⟨bM,N,UA,un,uc,us⟩ n fr tk w (dh.of hw 1 2 rfl rfl (by dsimp only;omega) hp) hI)) ?_
 try refine D_ hq ?_
 refine k1 _ _ ?_
 refine AV [0,1,4,6] fun G7 g7=>?_
 replace g7:=Bi g7
 have zg:=Bd.mk g7
 refine BH ?_
 refine Dl (fun hc=>?_) fun hc=>?_
 ·have hz:¬q.2=0:=ZA ‹(!decide (q.2=0))=true›
  refine BH ?_
  refine AP ?_
  simp -implicitDefEqProofs (disch:=first|omega|decide) only [seval, -Int.reducePow, -Nat.reducePow,cC,pv,Ao,Az,undef,ZJ,Dx,Cx,Cw,g7]
  intro w hw
  rw [hfe hz,if_neg hz]
  exact ⟨⟨bM,N,UA,un,uc,us⟩,rfl,⟨rfl,rfl,rfl⟩,hw.tail⟩
 have hz:q.2=0:=Decidable.not_not.1 (Vp ‹(!decide (q.2=0))=false›)
 obtain ⟨a1,a2,a3,a4,a5,a6,a7,a8⟩:=hal hz
 obtain ⟨c1,c2⟩:=vE a5
 have c2:=c2 hz
 have hul:∀ {w:World} {L:List Ai} (hw:St M W (L++[.row (.slice UA un uc) 103 2 un (Bn us)]) w),un=us.length:=fun hw=>by
  have:=(Di.Av hw (List.mem_append.2 (.inr (.head _)))).len
  exact this.symm
 refine AO (k0 _ _ ?_)
 refine AQ rfl fun K k0=>?_
 refine AR ?_
 refine Aa (fun w hw=>L_ n w) ?_
 try refine Ap (And.intro hS a5) ?_
 refine k0 _ _ ?_
 refine AQ rfl fun K k0=>?_
 refine AR ?_
 refine Aa (fun w hw=>(OX ⟨bM,N,UA,un,uc,us⟩ S fr tk w (dh.of hw 1 2 rfl rfl (by dsimp only;omega) hp) hI)) ?_
 try refine Ap hpq ?_
 refine k0 _ _ ?_
 refine AQ rfl fun K k0=>?_
 refine AR ?_
 intro b11 eU ABu
 refine k0 _ _ ?_
 refine AV [0,4,11] fun G8 g8=>?_
 replace g8:=Bg g8
 refine EK (un=us.length) (fun w hw=>(Di.Av hw (.tail _ (.tail _ (.tail _ (.head _))))).len.symm) fun hun=>?_
 refine AB fun K k0=>?_
 refine A9 (fun _ _=>True) (fun F' L' => ∃(A1:Option Addr) (k1:Nat),Az F' G8 [4,11]/\L'=[Jw b11 ⟨pq.1,S⟩,Jw b4 ⟨0,0⟩,.blk bM 65 [y0,y1,y2,y3,y4,y5,y6,y7,y8,ty,.int .i64 N,.slice A1 (un+1) k1,tb,ln,q0,q1,q2,mt,cp,lg,ms,bt,sv],.row (.slice A1 (un+1) k1) 103 2 (un+1) (Bn us++[.int .i64 pq.1,.int .i64 S])]) ?_ ?_
 ·refine E9 [0,1,2,3] (by decide) (by simp only [Ag,nth,Be,Bv,List.mem_cons,true_or,or_true,and_true,eq_self]) (.rd 0 (.rd 2 (.rd 3 (.rd 4 (.rd 5 (.rd 7 (.more 1 (.more 6 (.act 8 (.act 9 (.rd 10 (.rd 11 (.act 12 (.done)))))) (.act 8 (.act 6 (.act 9 (.rd 10 (.rd 11 (.act 12 (.done)))))))) (.act 8 (.act 1 (.act 6 (.act 9 (.rd 10 (.rd 11 (.act 12 (.done))))))))))))))) [12] CB rfl (by kernel_rfl) (by kernel_rfl) (by kernel_rfl) (by kernel_rfl) ?_
  simp only [Ag,nth]
  replace zg:=Bd.mk g8
  refine AR ?_
  refine ⟨fun b hb hf=>⟨?_,fun b' hb' hf'=>?_⟩,fun b hb hf b' hb' hf'=>?_⟩
  ·refine CR 0 Ie rfl rfl (fun w hw=>EU (.tail _ (.tail _ (.tail _ (.tail _ (.head _))))) hw) (He _) (by omega) (by omega) ?_
   intro A c hl hr
   refine AR ?_
   intro b' hb' hf'
   refine Bj 1 Ie rfl (fun w hw=>Bp (size:=2) (.head _) rfl hw) rfl (by omega) (by omega) ?_
   intro A1 k1 hl hr
   refine AR ?_
   refine ⟨[2,3,4,0],by decide, ?_⟩
   simp only [Ag,nth]
   refine ⟨A1,k1, ?_⟩
   exact MQ
  ·refine CR 1 Ie rfl rfl (fun w hw=>EU (.tail _ (.tail _ (.tail _ (.tail _ (.tail _ (.head _)))))) hw) (He _) (by omega) (by omega) ?_
   intro A c hl hr
   refine AR ?_
   refine Bj 0 Ie rfl (fun w hw=>Bp (size:=2) (.tail _ (.head _)) rfl hw) rfl (by omega) (by omega) ?_
   intro A1 k1 hl hr
   refine AR ?_
   refine ⟨[2,3,4,0],by decide, ?_⟩
   simp only [Ag,nth]
   refine ⟨A1,k1, ?_⟩
   exact MQ
  ·refine CR 0 Ie rfl rfl (fun w hw=>EU (.tail _ (.tail _ (.tail _ (.tail _ (.tail _ (.head _)))))) hw) (He _) (by omega) (by omega) ?_
   intro A c hl hr
   refine AR ?_
   refine Bj 0 Ie rfl (fun w hw=>Bp (size:=2) (.tail _ (.head _)) rfl hw) rfl (by omega) (by omega) ?_
   intro A1 k1 hl hr
   refine AR ?_
   refine ⟨[2,3,4,0],by decide, ?_⟩
   simp only [Ag,nth]
   refine ⟨A1,k1, ?_⟩
   exact MQ
 intro G9 L' _ hF
 obtain ⟨A1,k1,zq,rfl⟩:=hF
 replace zg:=Bd.mk g8
 have g9:=Bg zq
 refine k0 _ _ ?_
 replace zg:=Bd.mk g9
 refine BH ?_
 refine AP ?_
 simp -implicitDefEqProofs (disch:=first|omega|decide) only [seval, -Int.reducePow, -Nat.reducePow,cC,pv,Ao,Az,undef,ZJ,Dx,Cx,Cw,g9]
 intro w hw
 refine ⟨⟨bM,N,A1,un+1,k1,us++[⟨pq.1,S⟩]⟩,by rw [hz,c2],⟨rfl,rfl,by rw [if_pos hz,c2]⟩, ?_⟩
 have h9:=hw.pick (ix:=[2,3]) (by decide)
 rw [FD]
 exact h9
theorem YD (y0 y1 y2 y3 y4 y5 y6 y7 y8 ty tb ln q0 q1 q2 mt cp lg ms bt sv:Value) (y:Li) (e:Ext) (W:World) (hst:St (Ak (Xr y0 y1 y2 y3 y4 y5 y6 y7 y8 ty tb ln q0 q1 q2 mt cp lg ms bt sv y)) W (Xr y0 y1 y2 y3 y4 y5 y6 y7 y8 ty tb ln q0 q1 q2 mt cp lg ms bt sv y) W) (hl:y.us.length<=90) :
  Calls Tryz.prog 86 #[.pointer (some ⟨y.bM,10,none⟩),aP e] W
  fun en w' => ∃z:Li,en = .returned (.int .i64 (if e∈y.us then 0 else 6)) ∧
   (z.bM=y.bM/\z.N=y.N/\z.us=(y.us.filter fun x=>decide (x≠e)))/\St (Ak (Xr y0 y1 y2 y3 y4 y5 y6 y7 y8 ty tb ln q0 q1 q2 mt cp lg ms bt sv y)) W (Xr y0 y1 y2 y3 y4 y5 y6 y7 y8 ty tb ln q0 q1 q2 mt cp lg ms bt sv z) w':=by
 obtain ⟨M,hM⟩:∃M,Ak (Xr y0 y1 y2 y3 y4 y5 y6 y7 y8 ty tb ln q0 q1 q2 mt cp lg ms bt sv y)=M:=⟨_,rfl⟩
 rw [hM] at hst ⊢
 obtain ⟨bM,N,UA,un,uc,us⟩:=y
 dsimp only at hl
 unfold Xr at hst
 dsimp only at hst
 clear hM
 have hfl:=Ex.Rl (us:=us) (e:=e)
 refine Ab (M:=M) Tryz.func86 [.tmp 4]  hst ?_
 refine AQ rfl fun K k0=>?_
 have zs:=Bd.mk ZJ
 refine Ah ?_
 intro b3 hb3 hf3
 refine k0 _ _ ?_
 refine EK (un=us.length) (fun w hw=>(Di.Av hw (.tail _ (.tail _ (.head _)))).len.symm) fun hun=>?_
 refine Aq ?_
 refine AB fun K k0=>?_
 refine Aq ?_
 refine AV [0,3,5,6] fun pW g10=>?_
 replace g10:=Bi g10
 refine Ad ?_
 refine D5 103 2 ?_
 refine BP (fun F' L' => ∃(i:Nat) (A:Option Addr) (n c:Nat),Az F' pW [0,3]/\F' 5 = .slice A n c/\F' 6 = .int .i64 (i:Int)/\L'=[.row (.slice A n c) 103 2 n (Bn ((us.take i).filter fun x=>decide (x≠e))),Jw b3 e,.blk bM 65 [y0,y1,y2,y3,y4,y5,y6,y7,y8,ty,.int .i64 N,.slice UA un uc,tb,ln,q0,q1,q2,mt,cp,lg,ms,bt,sv],.row (.slice UA un uc) 103 2 un (Bn us)]/\i<=un) (fun F' L'=>200-(intOf (F' 6)).toNat) ?_ ?_
 ·refine ⟨0,none,0,0, ?_⟩
  have zg:=Bd.mk g10
  refine AR ?_
  exact ⟨rfl,by omega⟩
 intro ry L' hI
 obtain ⟨i,A,n,c,zq,KO,Jq,rfl,hi⟩:=hI
 have zg:=Bd.mk g10
 have g11:=And.intro (Bg zq) (And.intro KO Jq)
 refine AB fun K k1=>?_
 replace zg:=Bd.mk (And.intro g10 g11)
 refine BH ?_
 refine Dl (fun hc=>?_) fun hc=>?_
 ·refine AO ?_
  try simp only [BJ,BX]
  have hit:i<un:=by have:=of_decide_eq_true ‹decide ((i:Int)<(un:Int))=true›;omega
  obtain ⟨x,hx⟩:∃x,Ex.get us i=x:=⟨_,rfl⟩
  have hgi:=Ew us i (by omega)
  have htk:=WE (us:=us) (e:=e) (i:=i) (by omega)
  rw [hx] at hgi htk
  have hxe:x=e↔x.off=e.off/\x.len=e.len:=by cases x;cases e;simp
  have hcx:((Bn us).drop (i*2)).take 2=[.int .i64 x.off,.int .i64 x.len]:=by
   apply List.ext_getElem?
   intro j
   rw [List.getElem?_take,List.getElem?_drop]
   match j with
   | 0=>simpa using hgi.1
   | 1=>simpa using hgi.2
   | j+2=>rw [if_neg (by omega)];rfl
  have hfn:((us.take i).filter fun x=>decide (x≠e)).length<=i:=by
   have:=List.length_filter_le (fun x=>decide (x≠e)) (us.take i)
   rw [List.length_take] at this
   omega
  refine k1 _ _ ?_
  refine EK (n<=100) (fun w hw=>by have:=(Di.Av (xs:=(us.take i).filter fun x=>decide (x≠e)) hw (.head _)).len;omega) fun AIX=>?_
  refine BQ 3 rfl (by omega) fun g DJ hg Bl=>?_
  subst DJ
  simp only [List.eraseIdx_cons_zero,List.eraseIdx_cons_succ,BC,BD,BI,A_,and_true,List.not_mem_nil,or_false] at Bl hg
  replace hg:=And.intro hg Bl
  clear Bl
  refine AB fun K k1=>?_
  refine Ad ?_
  refine AB fun K k2=>?_
  refine BR [(true,0),(true,1),(true,2),(true,3),(true,4),(true,5),(true,6),(true,7),(true,8)] [] CB rfl (by kernel_rfl) (by kernel_rfl) rfl rfl ?_
  refine AR ?_
  refine Aj (DX (i:=i*2) (vs:=[.int .i64 x.off,.int .i64 x.len]) (.tail _ (.tail _ (.tail _ (.head _)))) rfl hcx) ?_
  refine AR ?_
  refine k2 _ _ ?_
  refine Dl (fun hc=>?_) fun hc=>?_
  ·have q1:¬x=e:=fun h=>by have:=hxe.1 h;simp [this.1,this.2] at hc
   rw [if_neg q1] at htk
   refine AU rfl ?_
   refine AR ?_
   refine Aj (DX (i:=i*2) (vs:=[.int .i64 x.off,.int .i64 x.len]) (.tail _ (.tail _ (.tail _ (.head _)))) rfl hcx) ?_
   refine AR ?_
   intro b33 zy AJl
   refine Bj 1 Ie rfl (fun w hw=>Bp (size:=2) (.head _) rfl hw) rfl (by omega) (by omega) ?_
   intro A1 c1 hl1 hr1
   refine AR ?_
   refine k1 _ _ ?_
   refine BF [0,2,3,4] (by decide) ?_
   simp only [Ag,nth]
   refine AF rfl ?_
   refine Ap @Ae ?_
   refine ⟨⟨i+1,A1,n+1,c1, ?_⟩, ?_⟩
   ·refine Ap (And.intro @Int.natCast_add (And.intro htk @FD)) ?_
    omega
   ·simp only [intOf];omega
  ·have q1:x=e:=hxe.2 (by simpa using hc)
   rw [if_pos q1,List.append_nil] at htk
   refine AO (k1 _ _ ?_)
   refine AF rfl ?_
   refine Ap @Ae ?_
   refine ⟨⟨i+1,A,n,c, ?_⟩, ?_⟩
   ·refine Ap (And.intro @Int.natCast_add htk) ?_
    omega
   ·simp only [intOf];omega
 refine BM (k0 _ _ ?_)
 have hit:¬i<un:=by have:=of_decide_eq_false ‹decide ((i:Int)<(un:Int))=false›;omega
 rw [List.take_of_length_le (by omega)]
 refine EK (n=(us.filter fun x=>decide (x≠e)).length) (fun w hw=>(Di.Av hw (.head _)).len.symm) fun hn=>?_
 refine AB fun K k0=>?_
 refine BH ?_
 refine Dl (fun hc=>?_) fun hc=>?_
 ·have q1:e∉us:=hfl.1 (by have:=of_decide_eq_true ‹_›;omega)
  refine BH ?_
  refine AP (Br fun w hw=>?_)
  have hfe:(us.filter fun x=>decide (x≠e))=us:=List.filter_eq_self.2 fun x hx=>by simp;rintro rfl;exact q1 hx
  rw [if_neg q1]
  exact ⟨⟨bM,N,UA,un,uc,us⟩,rfl,⟨rfl,rfl,hfe.symm⟩,hw.pick (ix:=[2,3]) (by decide)⟩
 have q1:e∈us:=Classical.byContradiction fun h=>by
  have:=hfl.2 h
  have:=of_decide_eq_false ‹_›
  omega
 refine AO (k0 _ _ ?_)
 refine BH ?_
 refine BH ?_
 refine AP (Br fun w hw=>?_)
 rw [if_pos q1]
 exact ⟨⟨bM,N,A,n,c,us.filter fun x=>decide (x≠e)⟩,rfl,⟨rfl,rfl,rfl⟩,hw.pick (ix:=[2,0]) (by decide)⟩
end Go.Proofs.YtegonkdandmolaaGreat
