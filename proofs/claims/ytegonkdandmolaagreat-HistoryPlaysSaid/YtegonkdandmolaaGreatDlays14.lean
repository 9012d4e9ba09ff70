import Derived.Test.YtegonkdandmolaaGreatDlays13
import Derived.Test.YtegonkdandmolaaGreatDlays2
set_option linter.unusedVariables false
set_option linter.unusedSimpArgs false
set_option maxRecDepth 100000
set_option maxHeartbeats 4000000
namespace Go.Proofs.YtegonkdandmolaaGreat
open Go.RowKit Go.Shelf
theorem TE:type_of% (And.intro (And.intro (And.intro (And.intro @Nat.mul_one @Ae) (And.intro @G_ @cM)) (And.intro (And.intro @Ce @Cf) (And.intro @Cg (And.intro @Ch @Ci)))) (And.intro (And.intro (And.intro @Cs @Ct) (And.intro @DT (And.intro @DU @CW))) (And.intro (And.intro @CX @UW.eq_1) (And.intro @gq.eq_1 (And.intro @aP.eq_1 @O9.eq_1))))):=(And.intro (And.intro (And.intro (And.intro @Nat.mul_one @Ae) (And.intro @G_ @cM)) (And.intro (And.intro @Ce @Cf) (And.intro @Cg (And.intro @Ch @Ci)))) (And.intro (And.intro (And.intro @Cs @Ct) (And.intro @DT (And.intro @DU @CW))) (And.intro (And.intro @CX @UW.eq_1) (And.intro @gq.eq_1 (And.intro @aP.eq_1 @O9.eq_1)))))
section
variable {P:Program} {M:List Nat} {W w:World} {L:List Ai}
theorem FJ {c:Code} {nn:Nat} {F:Fr} {Q:Exit->Fr->List Ai->Prop} {p:Prop} (h:∀w,St M W L w->p) (hk:p->CV P M W nn c F L Q):CV P M W nn c F L Q:=fun a w ha hw=>hk (h w hw) a w ha hw
theorem Jz {T:TypeId} {m:Nat} {a:Addr} {v:Value} (ht:Dk P T=some (false,m)) (h:∀w,St M W L w->w.cell? a=some v):LD P M W L T a v:=fun w hw=>Es ht (h w hw)
theorem Aw.tbo {x:Aw} (h:St M W (Du x::Cj (DW x)::L) w):St M W (H9 x.tb++(Du x::Cj ((DW x).eraseIdx 8)::L)) w:=(h.Fj (k:=8) rfl).swp.Il
theorem Aw.sj {x:Aw} (h:St M W (Du x::Cj (DW x)::L) w):w.cell? ⟨x.tb.tb,0,none⟩=some (.pointer (some ⟨x.tb.s.sb,0,none⟩)):=(Aw.tbo h).Dz (List.mem_append.2 (.inl (.head _))) 0
theorem Aw.nO {x:Aw} (h:St M W (Du x::Cj (DW x)::L) w):w.cell? ⟨x.tb.s.sb,3,none⟩=some (.slice x.tb.s.FA x.tb.s.fn x.tb.s.fc):=(Aw.tbo h).Dz (List.mem_append.2 (.inl (.tail _ (.tail _ (.head _))))) 3
theorem Aw.AG8 {x:Aw} (h:St M W (Du x::Cj (DW x)::L) w):x.b≠x.tb.tb/\x.b≠x.tb.s.sb/\LW L x.tb.tb/\LW L x.tb.s.sb:=by
 have h1:=(Aw.tbo h)
 have hp:=List.pairwise_append.1 h1.apart
 have h2:∀b,b∈Ak (H9 x.tb)→∀s∈(Du x::Cj ((DW x).eraseIdx 8)::L),b∉s.foot:=fun b hb s hs=>by
  obtain ⟨r,hr,hb⟩:=List.mem_flatMap.1 hb
  exact hp.2.2 r hr s hs b hb
 have m1:x.tb.tb∈Ak (H9 x.tb):=List.mem_flatMap.2 ⟨_,.head _,.head _⟩
 have m2:x.tb.s.sb∈Ak (H9 x.tb):=List.mem_flatMap.2 ⟨_,.tail _ (.tail _ (.head _)),.head _⟩
 refine ⟨fun e=>h2 _ m1 _ (.head _) (e ▸ .head _),fun e=>h2 _ m2 _ (.head _) (e ▸ .head _),Lu fun r hr=>h2 _ m1 r (.tail _ (.tail _ hr)),Lu fun r hr=>h2 _ m2 r (.tail _ (.tail _ hr))⟩
theorem Aw.fnl {x:Aw} (h:St M W (Du x::Cj (DW x)::L) w):x.tb.s.DC.length=x.tb.s.fn:=by
 have:=(Sl.Av (Aw.tbo h) (t:=3) (A:=x.tb.s.FA) (n:=x.tb.s.fn) (c:=x.tb.s.fc) (size:=1) (xs:=Bf x.tb.s.DC) (List.mem_append.2 (.inl (.tail _ (.tail _ (.tail _ (.tail _ (.tail _ (.head _))))))))).len
 rw [CG] at this
 omega
theorem M8 {α:Type} (f:α->List Value) (a:α) {F:Fr} {d:Option Nat} {t e ty:TypeId} {pos:String} {af:Array Edge} {gd:Option (Nat×Bool)} {l c:Operand} {K:Bool->Value->List Ai->Prop} {bytes n s:Nat} {kl kc:IntKind}
  (ht:IQ P t=some (e,s,bytes)) (hu:CY P e=some (f a)) (hs:(f a).length=s) (h0:0<s) (hl:ev F l = .int kl (n:Int)) (hc:ev F c = .int kc (n:Int)) (hb:bytes*n<=281474976710656) (h63:n<=9223372036854775807)
  (hK:∀b,W.heap.size<=b->fresh L b->(∀r∈L,b∉r.foot)->K true (.slice (some ⟨b,0,none⟩) n n) (.blk b e ((List.replicate n a).flatMap f)::L)) :
  XV P M W ⟨d,.makeSlice t l c,ty,pos,af,gd⟩ F L K:=by
 intro w hw
 obtain ⟨hut,i,z,hi,hz,hsz,hby,hzs,hsz0⟩:=O6 ht
 have hzc:z.cells=(f a).toArray:=by
  unfold CY at hu
  rw [hi] at hu
  simp only [hz] at hu
  have:z.cells.toList=f a:=by simpa using hu
  rw [<-this]
 have hb':(i.bytes:Int)*(n:Int)<=281474976710656:=by
  rw [hby]
  have h:((bytes*n:Nat):Int)<=281474976710656:=by omega
  rwa [Int.natCast_mul] at h
 have hr:=run_make (P:=P) w t e i z hut hi hz kl kc n n (by omega) (Int.le_refl _) hb' (by omega)
 have e1:=pg f a n (by omega)
 rw [hs] at e1
 simp only [Int.toNat_natCast,hsz,hzc] at hr
 refine ⟨_,_,_, ?_,hw.alloc e ((List.replicate n a).flatMap f),hK w.heap.size hw.Bz.size (Fv hw) fun r hr hb=>Nat.lt_irrefl _ (hw.own r hr _ hb).2⟩
 have e2:((List.replicate n a).flatMap f).toArray=madeCells (f a).toArray (n*s):=by rw [<-e1]
 simp only [execOp,hl,hc,Sem.run_bind,hr,Result.andThen_ok,Sem.run_pure,e2]
theorem nP {l:List WG} {s:Nat} (br:WG) (hs:s<l.length) (h:St M W (Cb br::Cj (l.map Cb)::L) w):St M W (Cj ((l.set s br).map Cb)::L) w:=by
 rw [List.map_set]
 have hlt:s<(l.map Cb).length:=by rw [List.length_map];exact hs
 have hk:nth (l.map Cb) s=some (l.map Cb)[s]:=by rw [EL];exact List.getElem?_eq_getElem hlt
 have h1:St M W ((l.map Cb)[s]::((l.map Cb).eraseIdx s++(Cb br::L))) w:=h.swp.Il.perm ((DI hk).symm.append_right (Cb br::L))
 have h2:St M W (Cb br::((l.map Cb).eraseIdx s++L)) w:=h1.tail.perm List.perm_middle.symm
 exact (h2.perm ((KX hlt (Cb br)).append_right L)).Cj
end
theorem LB {x:Aw} {tag:Int} (hk:Ro x tag=0) (hl:x.Gw.length=x.tn):PH x tag∈x.Gw/\1<=tag/\tag<=x.tn:=by
 unfold Ro at hk
 by_cases h:tag<1\/(x.tn:Int)<tag
 ·rw [if_pos h] at hk;exact absurd hk (by decide)
 ·have h1:(tag-1).toNat<x.Gw.length:=by omega
  unfold PH
  rw [List.getElem?_eq_getElem h1]
  exact ⟨List.getElem_mem h1,by omega,by omega⟩
theorem su {x:Aw} {tag:Int} (hk:¬Ro x tag=0):Ro x tag=20:=by
 unfold Ro at hk ⊢
 by_cases h:tag<1\/(x.tn:Int)<tag
 ·rw [if_pos h]
 ·rw [if_neg h] at hk;exact absurd rfl hk
def bz (a:Nat):List Value:=[.int .u8 (a:Int)]
theorem iA (n:Nat):(List.replicate n 0).flatMap bz=Gs (List.replicate n 0):=by
 induction n with
 | zero=>rfl
 | succ n ih=>rw [List.replicate_succ,List.flatMap_cons,ih];rfl
theorem WX:IQ Tryz.prog 42=some (5,1,1):=by kernel_rfl
theorem TF {len:Int} {fs:List Fd} (h:I9 len fs=0):1<=D6 len fs:=by
 obtain ⟨c1,c2,c3,c4,c5,c6,c7⟩:=IB h
 unfold D6
 by_cases h0:0<len
 ·rw [if_pos h0]
  obtain ⟨f,rfl⟩:∃f,fs=[f]:=by
   have:=c5 h0
   match fs,this with
   | [f],_=>exact ⟨f,rfl⟩
  have h1:=Fd.F9 (c6 f (.head _))
  have h2:0<len*f.wid:=Int.mul_pos h0 (by omega)
  show 1<=len*f.wid
  omega
 ·rw [if_neg h0]
  have:=qE c6 (i:=0) (by omega)
  omega
theorem sw {N:Int} (h1:1<=N) (h2:N<=65536):Sz.err N=0:=by unfold Sz.err;rw [if_neg (by omega),if_neg (by omega)]
structure WY where
 h:Nat
 er:Int
 y:Aw
def tC (i:WY):Value:=.tuple #[.int .u64 (i.h:Int),.int .i64 i.er]
def dw (S:Int):Qu:=⟨S,1,0⟩
structure AB4 (x:Aw) (p tag:Int) (d:Nat) (fr:List Ext) (i:WY) (N:Int) (z:Li) (it:Rf) (s:Nat) (m:KS) (br:WG):Prop where
 n:N=D6 (PH x tag).len (PH x tag).fs
 fit:Na x.lim (Hd x.mt p) (dw (Sz.K6 N))=false
 ff:(Ex.findF fr N).2=0
 fz:z.us=x.us++[(Ex.findF fr N).1]
 isk:QN x.tb it.y
 iss:sH x.tb p tag (Ex.findF fr N).1.off (Ex.findF fr N).1.len d it s
 fm:(m.r,m.l)=I6 x.lim x.mt p (dw (Sz.K6 N))
 bn:br.n=N.toNat
 bl:br.l=List.replicate N.toNat 0
 h:i.h=it.h
 y:i.y=(((x.H_ z).GY it.y).CJ m).IA (x.D8.set s br)
 sn:s<x.tb.en
 sl:Ac it.h=s
def EqU (x y:Aw):Prop:=y=x∨∃z:Li,y=x.H_ z/\z.us=x.us
structure iB (x:Aw) (p tag:Int) (d:Nat) (fr:List Ext) (i:WY):Prop where
 QW:0<=i.er/\i.er<=29
 hh:i.h<18446744073709551616
 r:if i.er=0 then Ro x tag=0∧∃N z it s m br,AB4 x p tag d fr i N z it s m br else i.h=0/\EqU x i.y
theorem nQ (x:Aw) {b:Nat} (hb:x.b=b) (p tag:Int) (d:Nat) (hd:d<18446744073709551616) (k:Nat) (hi:K4 x.tb k) (hp:1<=p/\p<=64) (htn:x.tn<=255) (hck:∀t∈x.Gw,I9 t.len t.fs=0) (hm:x.mt.length<=80000) (hlim:x.lim.lim) (hok:∀s∈x.mt,s.q.ok) (hu:x.us.length<=90) (fr:List Ext) (tk:List (Int×Int)) (hI:Ex.Inv x.N x.us fr tk) (hbn:x.bn=x.tb.en) (hge:∀s:Nat,(s:Int)∈x.tb.s.DC->1<=Js x.tb.s s/\Js x.tb.s s<=4294967295) (W:World) (hst:St (Ak (Al x)) W (Al x) W) :
  Calls Tryz.prog 55 #[.pointer (some ⟨b,0,none⟩),.int .i64 p,.int .i64 tag,.int .u64 (d:Int)] W
  fun en w' => ∃i:WY,en = .returned (tC i)/\iB x p tag d fr i/\St (Ak (Al x)) W (Al i.y) w':=by
 subst hb
 have htl:=Aw.tyl hst
 have AGu:=Aw.byl hst
 have hfn:=Aw.fnl hst
 obtain ⟨M,hM⟩:∃M,Ak (Al x)=M:=⟨_,rfl⟩
 rw [hM] at hst ⊢
 clear hM
 unfold Al Du at hst
 refine Ab (M:=M) Tryz.func55 [.tmp 8,.tmp 9]  hst ?_
 have zs:=Bd.mk TE
 refine Aq ?_
 refine AQ rfl fun K k0=>?_
 refine Ah ?_
 refine Bq (Al x) (List.Sublist.refl _) (fun _:Unit=>di x tag) _ (fun w hw=>MG x rfl tag w hw) ?_
 intro _ _
 by_cases hk:Ro x tag=0
 case neg =>
  have h20:=su hk
  have hlv:di x tag = .tuple #[.agg #[.int .i64 0,.slice none 0 0],.int .i64 20]:=by unfold di;rw [if_neg hk,h20];rfl
  rw [hlv]
  refine Ah ?_
  intro b10 IU JK
  refine k0 _ _ ?_
  refine AB fun K k0=>?_
  refine Aq ?_
  refine AL ?_
  refine Ah ?_
  refine Aq ?_
  refine AP (Cc fun w hw=>?_)
  exact ⟨⟨0,20,x⟩,rfl,⟨(by decide:(0:Int)<=20/\(20:Int)<=29),(by decide:0<18446744073709551616),by rw [if_neg (show ¬(20:Int)=0 by decide)];exact ⟨rfl,.inl rfl⟩⟩,hw.tail⟩
 obtain ⟨hm0,tg1,tg2⟩:=LB hk htl
 have nR:=hck _ hm0
 obtain ⟨t,ht⟩:∃t,PH x tag=t:=⟨_,rfl⟩
 rw [ht] at hm0 nR
 have hlv:di x tag = .tuple #[.agg #[.int .i64 t.len,.slice t.A t.n t.c],.int .i64 0]:=by unfold di;rw [hk,if_pos rfl,ht];rfl
 rw [hlv]
 refine Ah ?_
 intro b10 IU JK
 refine k0 _ _ ?_
 refine BF [1,2,0] (by decide) ?_
 simp only [Ag,nth]
 refine AV [0,1,2,3,10,11] fun G1 g1=>?_
 replace g1:=Bi g1
 refine AB fun K k0=>?_
 have zg:=Bd.mk g1
 refine BH ?_
 refine AL ?_
 refine AR ?_
 refine AO (k0 _ _ ?_)
 obtain ⟨N,hN⟩:∃N,D6 t.len t.fs=N:=⟨_,rfl⟩
 have hsz:1<=N/\N<=65536:=by rw [<-hN];exact ⟨TF nR,(IB nR).2.2.2.2.2.2⟩
 refine AQ rfl fun K k0=>?_
 refine AR ?_
 refine Aa (fun w hw=>aZ t.A t.n t.c t.fs t.len w (Aw.sW (x:=x) (L:=[.blk b10 81 [.int .i64 t.len,.slice t.A t.n t.c]]) hw hm0) nR) ?_
 try refine Ap hN ?_
 refine k0 _ _ ?_
 refine BF [0,1] (by decide) ?_
 simp only [Ag,nth]
 refine AV [0,1,2,3,12] fun G2 g2=>?_
 replace g2:=Bg g2
 obtain ⟨S,hS⟩:∃S,Sz.K6 N=S:=⟨_,rfl⟩
 have hSr:0<=S/\S<=65536:=by
  have h0:Sz.err N=0:=sw hsz.1 hsz.2
  have:=Ex.UY h0
  omega
 refine AQ rfl fun K k0=>?_
 replace zg:=Bd.mk g2
 refine AR ?_
 refine Aa (fun w hw=>L_ N w) ?_
 try refine Ap hS ?_
 refine k0 _ _ ?_
 refine AQ rfl fun K k0=>?_
 refine AR ?_
 intro b16 rJ AGt
 refine k0 _ _ ?_
 refine BF [1,2,0] (by decide) ?_
 simp only [Ag,nth]
 refine AV [0,1,2,3,12,16] fun G3 g3=>?_
 replace g3:=Bg g3
 have hqk:(dw S).ok:=⟨(by show 0<=S/\S<=_;omega),(by decide:(0:Int)<=1/\(1:Int)<=1099511627776),(by decide:(0:Int)<=0/\(0:Int)<=1099511627776)⟩
 refine AB fun K k0=>?_
 refine AB fun K k1=>?_
 by_cases hfit:Na x.lim (Hd x.mt p) (dw S)=true
 ·have hfv:(if Na x.lim (Hd x.mt p) (dw S)=true then (16:Int) else 0)=16:=if_pos hfit
  refine BR [(true,0),(true,1),(true,2),(true,3),(true,4),(false,5),(true,6)] [] CB rfl (by kernel_rfl) (by kernel_rfl) rfl rfl ?_
  replace zg:=Bd.mk g3
  refine AR ?_
  refine Aa (fun w hw=>Nb (Aw.mtw (x:=x) (L:=[.blk b16 25 [.int .i64 S,.int .i64 1,.int .i64 0]]) hw (by omega)) hlim p (dw S) hqk) ?_
  try refine Ap hfv ?_
  refine k1 _ _ ?_
  refine AL ?_
  refine AR ?_
  refine BH ?_
  refine AP (Br fun w hw=>?_)
  exact ⟨⟨0,16,x⟩,rfl,⟨(by decide:(0:Int)<=16/\(16:Int)<=29),(by decide:0<18446744073709551616),by rw [if_neg (show ¬(16:Int)=0 by decide)];exact ⟨rfl,.inl rfl⟩⟩,hw.pick (ix:=[0,1]) (by decide)⟩
 have hfv:(if Na x.lim (Hd x.mt p) (dw S)=true then (16:Int) else 0)=0:=if_neg hfit
 have vI:Na x.lim (Hd x.mt p) (dw S)=false:=by simpa using hfit
 refine BR [(true,0),(true,1),(true,2),(true,3),(true,4),(false,5),(true,6)] [] CB rfl (by kernel_rfl) (by kernel_rfl) rfl rfl ?_
 replace zg:=Bd.mk g3
 refine AR ?_
 refine Aa (fun w hw=>Nb (Aw.mtw (x:=x) (L:=[.blk b16 25 [.int .i64 S,.int .i64 1,.int .i64 0]]) hw (by omega)) hlim p (dw S) hqk) ?_
 try refine Ap hfv ?_
 refine k1 _ _ ?_
 refine AL ?_
 refine AR ?_
 refine AO (k0 _ _ ?_)
 refine AV [0,1,2,3,12,16] fun G4 g4=>?_
 replace g4:=Bg g4
 refine FJ (fun w hw=>Aw.AG8 (x:=x) hw) ?_
 simp only [BD,BC,and_true]
 rintro ⟨n1,n2,n3,n4⟩
 refine AB fun K k0=>?_
 refine AQ rfl fun K k1=>?_
 replace zg:=Bd.mk g4
 refine AR ?_
 refine Aj (Jz (m:=1) rfl (fun w hw=>Aw.sj (x:=x) hw)) ?_
 refine AR ?_
 refine Aj (Jz (m:=1) rfl (fun w hw=>Aw.nO (x:=x) hw)) ?_
 refine AR ?_
 refine k1 _ _ ?_
 refine AL ?_
 by_cases h0:x.tb.s.fn=0
 ·have d0:decide ((x.tb.s.fn:Int)=0)=true:=decide_eq_true (by omega)
  refine Ap d0 ?_
  refine BH ?_
  refine AP (Br fun w hw=>?_)
  exact ⟨⟨0,17,x⟩,rfl,⟨(by decide:(0:Int)<=17/\(17:Int)<=29),(by decide:0<18446744073709551616),by rw [if_neg (show ¬(17:Int)=0 by decide)];exact ⟨rfl,.inl rfl⟩⟩,hw.pick (ix:=[0,1]) (by decide)⟩
 have d0:decide ((x.tb.s.fn:Int)=0)=false:=decide_eq_false (by omega)
 refine Ap d0 ?_
 refine AO (k0 _ _ ?_)
 refine AV [0,1,2,3,12,16] fun G5 g5=>?_
 replace g5:=Bg g5
 obtain ⟨⟨e,er⟩,hq⟩:∃q,Ex.findF fr N=q:=⟨_,rfl⟩
 refine AQ rfl fun K k0=>?_
 replace zg:=Bd.mk g5
 refine AR ?_
 refine Af [.blk b16 25 [.int .i64 S,.int .i64 1,.int .i64 0]] (Al x) (List.perm_append_comm (l₁:=[_]) (l₂:=[_,_])) (fun _:Li=>.tuple #[aP e,.int .i64 er]) (fun z=>Al (x.H_ z)) (fun z=>z.us=(if er=0 then x.us++[e] else x.us)) (fun w hw=>by
  have h1:=YG x rfl N fr tk hI hu w hw
  rw [hq] at h1
  refine h1.mono ?_
  rintro en w2 ⟨z,h2,h3,h4⟩
  exact ⟨z,h2,h3.2.2,h4⟩) ?_
 intro z hz
 obtain ⟨x1,hx1⟩:∃x1,x.H_ z=x1:=⟨_,rfl⟩
 have hb1:x1.b=x.b:=by rw [<-hx1];rfl
 rw [hx1]
 unfold Al
 rw [Am hb1]
 dsimp only [List.cons_append,List.nil_append]
 have ht1:x1.tb=x.tb:=by rw [<-hx1];rfl
 have hm1:x1.mt=x.mt:=by rw [<-hx1];rfl
 have hl1:x1.lim=x.lim:=by rw [<-hx1];rfl
 refine AR ?_
 intro b17 zw AJ6
 refine k0 _ _ ?_
 refine AB fun K k0=>?_
 refine BH ?_
 refine AL ?_
 by_cases her:er=0
 case neg =>
  refine Ap her ?_
  refine BH ?_
  refine AP (Br fun w hw=>?_)
  rw [if_neg her] at hz
  exact ⟨⟨0,18,x1⟩,rfl,⟨(by decide:(0:Int)<=18/\(18:Int)<=29),(by decide:0<18446744073709551616),by rw [if_neg (show ¬(18:Int)=0 by decide)];exact ⟨rfl,.inr ⟨z,hx1.symm,hz⟩⟩⟩,by unfold Al;rw [Am hb1];exact hw.pick (ix:=[1,2]) (by decide)⟩
 have d1:decide (er=0)=true:=decide_eq_true her
 rw [if_pos her] at hz
 refine Ap d1 ?_
 refine AO (k0 _ _ ?_)
 refine BF [1,2,0,3] (by decide) ?_
 simp only [Ag,nth]
 refine AV [0,1,2,3,12,16,17] fun G6 g6=>?_
 replace g6:=Bg g6
 refine AB fun K k0=>?_
 refine CF (Ag [0,2] _) (fun w hw=>hw.pick (by decide)) (by simp only [Ag,nth,Be,Bv,List.mem_cons,true_or,or_true,and_true,eq_self]) [(true,0),(true,1),(true,2),(true,3),(true,4),(true,5),(true,6),(true,7),(false,8),(true,9),(true,10),(true,11),(true,12),(true,13)] [] CB rfl (by kernel_rfl) (by kernel_rfl) rfl rfl ?_
 replace zg:=Bd.mk g6
 refine AR ?_
 refine Af [.blk b17 103 [.int .i64 e.off,.int .i64 e.len],.blk b16 25 [.int .i64 S,.int .i64 1,.int .i64 0]] (Al x1) (by unfold Al;rw [Am hb1];exact List.perm_append_comm (l₁:=[_,_]) (l₂:=[_,_])) ZG (fun i=>Al (x1.GY i.y)) _ (fun w hw=>aV x1 p tag e.off e.len d hd k (by rw [ht1];exact hi) w hw) ?_
 intro it hit
 rw [ht1] at hit
 unfold ZG
 obtain ⟨x2,hx2⟩:∃x2,x1.GY it.y=x2:=⟨_,rfl⟩
 have hb2:x2.b=x.b:=by rw [<-hx2];exact hb1
 have hk2:Du x2=Du x1:=by rw [<-hx2];exact M3 x1 it.y (hit.k.tb.trans (by rw [ht1]))
 rw [hx2]
 unfold Al
 rw [hk2,Am hb1]
 dsimp only [List.cons_append,List.nil_append]
 refine AR ?_
 refine k0 _ _ ?_
 refine Cq [.blk x.b 65 [x2.y0,x2.y1,x2.y2,x2.y3,x2.y4,x2.y5,x2.y6,x2.y7,x2.y8,.slice x2.TA x2.tn x2.tc,.int .i64 x2.N,.slice x2.UA x2.un x2.uc,.pointer (some ⟨x2.tb.tb,0,none⟩),.slice x2.LA x2.ln x2.lc,.int .i64 x2.lim.qb,.int .i64 x2.lim.qo,.int .i64 x2.lim.qr,.slice x2.MA x2.mn x2.mc,.int .i64 x2.cap,.slice x2.EA x2.en x2.ec,.slice x2.SA x2.sn x2.sc,.slice x2.BA x2.bn x2.bc,.slice (some ⟨x2.g,0,none⟩) 65 65],Cj (DW x2),.blk b17 103 [.int .i64 e.off,.int .i64 e.len],.blk b16 25 [.int .i64 S,.int .i64 1,.int .i64 0]] (fun w hw=>by rw [<-Am hb2,hk2,Am hb1];exact hw) ?_
 have hm2:x2.mt=x.mt:=by rw [<-hx2];exact hm1
 have hl2:x2.lim=x.lim:=by rw [<-hx2];exact hl1
 obtain ⟨s,hsn,hg⟩:∃s:Nat,s<x.tb.en/\sH x.tb p tag e.off e.len d it s:=by
  have h1:=hit.r
  rw [if_neg (by unfold aI;omega),if_neg (by omega)] at h1
  exact h1
 have hgs:=hge s (List.mem_of_getElem? hg.fs)
 have AG9:=hi.m
 have hgh:=hg.h
 have hsl:Ac it.h=s:=by
  unfold pY at hgh
  rw [if_neg (by omega)] at hgh
  dsimp only at hgh
  unfold Ac
  omega
 have hih:=hg.hh
 refine AV [0,1,12,16,19] fun G7 g7=>?_
 replace g7:=Bg g7
 refine AB fun K k0=>?_
 refine BR [(true,0),(true,1),(true,2),(true,3),(true,4),(false,5)] [5] CB rfl (by kernel_rfl) (by kernel_rfl) rfl rfl ?_
 replace zg:=Bd.mk g7
 refine AR ?_
 refine Af [.blk b17 103 [.int .i64 e.off,.int .i64 e.len],.blk b16 25 [.int .i64 S,.int .i64 1,.int .i64 0]] (Al x2) (by unfold Al;rw [Am hb2];exact List.perm_append_comm (l₁:=[_,_]) (l₂:=[_,_])) JI (fun i=>Al (x2.CJ i)) _ (fun w hw=>UO x2 hb2 p (dw S) (by rw [hm2];omega) (by rw [hl2];exact hlim) hqk (by rw [hm2];exact hok) w hw) ?_
 intro m hmm
 rw [hm2,hl2] at hmm
 unfold JI
 obtain ⟨x3,hx3⟩:∃x3,x2.CJ m=x3:=⟨_,rfl⟩
 have hb3:x3.b=x.b:=by rw [<-hx3];exact hb2
 rw [hx3]
 unfold Al
 rw [Am hb3]
 dsimp only [List.cons_append,List.nil_append]
 refine AR ?_
 refine k0 _ _ ?_
 have iC:x3.D8=x.D8:=by rw [<-hx3,<-hx2,<-hx1];rfl
 have AJ7:x3.bn=x.bn:=by rw [<-hx3,<-hx2,<-hx1];rfl
 refine BF [0,1] (by decide) ?_
 simp only [Ag,nth]
 refine AV [0,12,19] fun G8 g8=>?_
 replace g8:=Bg g8
 refine Cq [.blk x.b 65 [x3.y0,x3.y1,x3.y2,x3.y3,x3.y4,x3.y5,x3.y6,x3.y7,x3.y8,.slice x3.TA x3.tn x3.tc,.int .i64 x3.N,.slice x3.UA x3.un x3.uc,.pointer (some ⟨x3.tb.tb,0,none⟩),.slice x3.LA x3.ln x3.lc,.int .i64 x3.lim.qb,.int .i64 x3.lim.qo,.int .i64 x3.lim.qr,.slice x3.MA x3.mn x3.mc,.int .i64 x3.cap,.slice x3.EA x3.en x3.ec,.slice x3.SA x3.sn x3.sc,.slice x3.BA x3.bn x3.bc,.slice (some ⟨x3.g,0,none⟩) 65 65],.row (.slice x3.BA x3.bn x3.bc) 42 1 x3.bn (x3.D8.flatMap NR),Cj ((DW x3).eraseIdx 6)] (fun w hw=>hw.Fj (k:=6) rfl) ?_
 obtain ⟨BA,ZO⟩:∃BA,x3.BA=BA:=⟨_,rfl⟩
 rw [ZO]
 have AJ8:s<x3.bn:=by omega
 have hNn:N=((N.toNat:Nat):Int):=by omega
 obtain ⟨n,hn⟩:∃n,N.toNat=n:=⟨_,rfl⟩
 rw [hn] at hNn
 refine BQ 1 rfl (by omega) fun gB DJ hgB Bl=>?_
 subst DJ
 simp only [List.eraseIdx_cons_zero,List.eraseIdx_cons_succ,BC,BD,BI,A_,and_true,List.not_mem_nil,or_false,TE] at Bl hgB
 replace hgB:=And.intro hgB Bl
 clear Bl
 have hset:∀g:Nat,(x3.D8.flatMap NR).set s (.slice (some ⟨g,0,none⟩) n n)=(x3.D8.set s ⟨some ⟨g,0,none⟩,n,n,List.replicate n 0⟩).flatMap NR:=fun g=>by
  have hsl2:s<x3.D8.length:=by rw [iC];omega
  have h9:=Nc (f:=NR) (s:=1) F6 (k:=0) (by omega) (v:=.slice (some ⟨g,0,none⟩) n n) (x:=x3.D8[s]) (y:=⟨some ⟨g,0,none⟩,n,n,List.replicate n 0⟩) rfl (List.getElem?_eq_getElem hsl2)
  simpa using h9
 refine AB fun K k0=>?_
 refine A9 (fun _ _=>True) (fun F' L' => ∃(g:Nat),F' 19=G8 19/\L'=[.blk g 5 (Gs (List.replicate n 0)),.blk x.b 65 [x3.y0,x3.y1,x3.y2,x3.y3,x3.y4,x3.y5,x3.y6,x3.y7,x3.y8,.slice x3.TA x3.tn x3.tc,.int .i64 x3.N,.slice x3.UA x3.un x3.uc,.pointer (some ⟨x3.tb.tb,0,none⟩),.slice x3.LA x3.ln x3.lc,.int .i64 x3.lim.qb,.int .i64 x3.lim.qo,.int .i64 x3.lim.qr,.slice x3.MA x3.mn x3.mc,.int .i64 x3.cap,.slice x3.EA x3.en x3.ec,.slice x3.SA x3.sn x3.sc,.slice (some ⟨gB,0,none⟩) x3.bn x3.bc,.slice (some ⟨x3.g,0,none⟩) 65 65],.row (.slice (some ⟨gB,0,none⟩) x3.bn x3.bc) 42 1 x3.bn ((x3.D8.set s ⟨some ⟨g,0,none⟩,n,n,List.replicate n 0⟩).flatMap NR),Cj ((DW x3).eraseIdx 6)]) ?_ ?_
 ·refine E9 [0] (by decide) (by simp only [Ag,nth,Be,Bv,List.mem_cons,true_or,or_true,and_true,eq_self]) (.rd 0 (.rd 1 (.rd 2 (.rd 3 (.rd 4 (.rd 6 (.more 5 (.act 7 (.rd 8 (.act 9 (.done)))) (.act 7 (.act 5 (.rd 8 (.act 9 (.done)))))))))))) [9] CB rfl (by kernel_rfl) (by kernel_rfl) (by kernel_rfl) (by kernel_rfl) ?_
  simp only [Ag,nth]
  replace zg:=Bd.mk g8
  refine AR ?_
  refine And.intro ?_ ?_
  ·refine Aa (fun w hw=>CU it.h hih w) ?_
   try refine Ap hsl ?_
   refine M8 (n:=n) (kl:=.i64) (kc:=.i64) bz (0:Nat) WX (by kernel_rfl) rfl (by omega) (by simp -implicitDefEqProofs (disch:=first|omega|decide) only [seval, -Int.reducePow, -Nat.reducePow,cC,pv,Ao,Az,undef,TE,hNn,g8]) (by simp -implicitDefEqProofs (disch:=first|omega|decide) only [seval, -Int.reducePow, -Nat.reducePow,cC,pv,Ao,Az,undef,TE,hNn,g8]) (by omega) (by omega) ?_
   intro g hg1 hg2 hg3
   have hgg:g≠gB:=fun e=>hg3 _ (AZ (k:=1) rfl) (by rw [e];simp [Ai.foot,Value.ownBlock])
   rw [iA]
   refine AR ?_
   refine Aj (EW 2 (i:=s) (v:=.slice (some ⟨g,0,none⟩) n n) rfl (by rw [Cr F6,iC];omega) (by kernel_rfl) rfl rfl) ?_
   refine Ap hset ?_
   refine ⟨[0,1,2,3],by decide, ?_⟩
   simp only [Ag,nth]
   exact ⟨g,rfl⟩
  ·refine M8 (n:=n) (kl:=.i64) (kc:=.i64) bz (0:Nat) WX (by kernel_rfl) rfl (by omega) (by simp -implicitDefEqProofs (disch:=first|omega|decide) only [seval, -Int.reducePow, -Nat.reducePow,cC,pv,Ao,Az,undef,TE,hNn,g8]) (by simp -implicitDefEqProofs (disch:=first|omega|decide) only [seval, -Int.reducePow, -Nat.reducePow,cC,pv,Ao,Az,undef,TE,hNn,g8]) (by omega) (by omega) ?_
   intro g hg1 hg2 hg3
   have hgg:g≠gB:=fun e=>hg3 _ (AZ (k:=1) rfl) (by rw [e];simp [Ai.foot,Value.ownBlock])
   rw [iA]
   refine AR ?_
   refine Aa (fun w hw=>CU it.h hih w) ?_
   try refine Ap hsl ?_
   refine Aj (EW 2 (i:=s) (v:=.slice (some ⟨g,0,none⟩) n n) rfl (by rw [Cr F6,iC];omega) (by kernel_rfl) rfl rfl) ?_
   refine Ap hset ?_
   refine ⟨[0,1,2,3],by decide, ?_⟩
   simp only [Ag,nth]
   exact ⟨g,rfl⟩
 intro G9 L' _ hF
 obtain ⟨g,QO,rfl⟩:=hF
 replace zg:=Bd.mk g8
 have g9:=Bg QO
 refine k0 _ _ ?_
 obtain ⟨br,hbr⟩:∃br:WG,(⟨some ⟨g,0,none⟩,n,n,List.replicate n 0⟩:WG)=br:=⟨_,rfl⟩
 obtain ⟨x4,hx4⟩:∃x4,x3.IA (x.D8.set s br)=x4:=⟨_,rfl⟩
 have hb4:x4.b=x.b:=by rw [<-hx4];exact hb3
 refine Cq (Al x4) (fun w hw=>?_) ?_
 ·have h1:=St.Fw (t:=5) (size:=1) (n:=n) hw (by rw [Gc,List.length_replicate,Nat.mul_one]) (by omega)
  rw [<-ZO] at h1
  have h2:=St.FV (R:=DW x3) (k:=6) _ (by show 6<11;decide) (h1.perm (List.perm_append_comm (l₁:=[_,_,_]) (l₂:=[_])))
  have h3:=h2.Fj (k:=10) rfl
  have h4:=nP (l:=x3.D8) (s:=s) ⟨some ⟨g,0,none⟩,n,n,List.replicate n 0⟩ (by rw [iC];omega) ((h3.perm (List.perm_append_comm (l₁:=[_]) (l₂:=[_,_,_]))).perm (.cons _ (List.Perm.swap _ _ _)))
  have h5:=h4.swp.FV (k:=10) _ (by show 10<11;decide)
  unfold Al
  rw [Am hb4,<-hx4,<-hbr,<-iC]
  exact h5
 unfold Al
 rw [Am hb4]
 replace zg:=Bd.mk g9
 refine BH ?_
 refine AP (Br fun w hw=>?_)
 refine ⟨⟨it.h,0,x4⟩,rfl,⟨(by decide:(0:Int)<=0/\(0:Int)<=29),hih, ?_⟩,by show St M W (Al x4) w;unfold Al;rw [Am hb4];exact hw⟩
 rw [if_pos rfl]
 exact ⟨hk,N,z,it,s,m,br,⟨by rw [ht,hN],by rw [hS];exact vI,by rw [hq];exact her,by rw [hq];exact hz,hit.k,by rw [hq];exact hg,by rw [hS];exact hmm,by rw [<-hbr];exact hn.symm,by rw [<-hbr,hn],rfl,by rw [<-hx4,<-hx3,<-hx2,<-hx1],hsn,hsl⟩⟩
theorem JL:type_of% (And.intro (And.intro (And.intro (And.intro @Nat.mul_one @Ae) (And.intro @G_ @cM)) (And.intro (And.intro @Ce @Cf) (And.intro @Cg (And.intro @Ch @Ci)))) (And.intro (And.intro (And.intro @Cs @Ct) (And.intro @DT @DU)) (And.intro (And.intro @CW @CX) (And.intro @UW.eq_1 (And.intro @gq.eq_1 @Jd))))):=(And.intro (And.intro (And.intro (And.intro @Nat.mul_one @Ae) (And.intro @G_ @cM)) (And.intro (And.intro @Ce @Cf) (And.intro @Cg (And.intro @Ch @Ci)))) (And.intro (And.intro (And.intro @Cs @Ct) (And.intro @DT @DU)) (And.intro (And.intro @CW @CX) (And.intro @UW.eq_1 (And.intro @gq.eq_1 @Jd)))))
section
variable {P:Program} {M:List Nat} {W w:World} {L:List Ai}
theorem Aw.nS {x:Aw} (h:St M W (Du x::Cj (DW x)::L) w) (hn:0<x.bn):∃g,x.BA=some ⟨g,0,none⟩/\x.b≠g/\LW L g:=by
 have h1:=(h.Fj (k:=6) rfl).swp
 rcases h1.Ji with ⟨-,h0⟩|⟨g,e, -,hne⟩
 ·omega
 ·exact ⟨g,e,hne⟩
theorem Aw.Qa {x:Aw} (h:St M W (Du x::Cj (DW x)::L) w) {g s:Nat} {br:WG} (hA:x.BA=some ⟨g,0,none⟩) (hs:x.D8[s]? = some br):w.cell? ⟨g,s,none⟩=some (.slice br.A br.n br.c):=by
 have h1:=Sl.Av (h.Fj (k:=6) rfl) (AZ (k:=1) rfl)
 have hl:=Aw.byl h
 have hlt:=(List.getElem?_eq_some_iff.1 hs).1
 obtain ⟨b,off,e, -,hc⟩:=h1.cells (by omega)
 rw [hA] at e
 cases e
 have h2:=hc (s*1+0) _ (Co F6 hs (by decide))
 simpa using h2
end
structure iD (x:Aw) (s:Nat):Prop where
 lk:Ro x (Ba x.tb s).tag=0
 br:∃br,x.D8[s]? = some br/\D6 (PH x (Ba x.tb s).tag).len (PH x (Ba x.tb s).tag).fs<=br.n/\br.n<=65536
structure GtI where
 v:Int
 er:Int
def gtV (i:GtI):Value:=.tuple #[.int .u64 i.v,.int .i64 i.er]
structure GtR (i:GtI):Prop where
 QW:0<=i.er/\i.er<=29
 v:0<=i.v/\i.v<18446744073709551616
theorem v0:(0:Int)<=0/\(0:Int)<18446744073709551616:=by decide
theorem nT (x:Aw) {b:Nat} (hb:x.b=b) (p:Int) (o:Nat) (fi:Int) (ho:o<18446744073709551616) (hN:x.tb.s.gen.length=x.tb.s.Cz.length) (hl:x.l.length<=90000) (hck:∀t∈x.Gw,I9 t.len t.fs=0) (hby:∀s,B_ x.tb.s s=true->iD x s) (hbn:x.bn=x.tb.en) (W:World) (hst:St (Ak (Al x)) W (Al x) W) :
  Calls Tryz.prog 58 #[.pointer (some ⟨b,0,none⟩),.int .i64 p,.int .u64 (o:Int),.int .i64 fi] W
  fun en w' => ∃i:GtI,en = .returned (gtV i)/\GtR i/\St (Ak (Al x)) W (Al x) w':=by
 subst hb
 have htl:=Aw.tyl hst
 obtain ⟨M,hM⟩:∃M,Ak (Al x)=M:=⟨_,rfl⟩
 rw [hM] at hst ⊢
 clear hM
 unfold Al Du at hst
 refine Ab (M:=M) Tryz.func58 [.tmp 8,.tmp 9]  hst ?_
 have zs:=Bd.mk JL
 refine Aq ?_
 refine AQ rfl fun K k0=>?_
 refine Ah ?_
 refine Bq (Al x) (List.Sublist.refl _) (fun v:Int=>ZL x o v) _ (fun w hw=>Ea x rfl p o 1 ho hN hl w hw) ?_
 intro v hv
 by_cases hv0:v=0
 case neg =>
  rw [F8 hv0]
  refine Ah ?_
  intro b10 IU JK
  refine k0 _ _ ?_
  refine AB fun K k0=>?_
  refine Aq ?_
  refine AL ?_
  refine D_ hv0 ?_
  refine Aq ?_
  refine AP (Cc fun w hw=>?_)
  exact ⟨⟨0,v⟩,rfl,⟨hv.QW,v0⟩,hw.tail⟩
 have he:=hv.ok hv0
 subst hv0
 obtain ⟨r1,r2,r3,r4⟩:=Dr he
 obtain ⟨e,IM⟩:∃e,Ba x.tb (Ac o)=e:=⟨_,rfl⟩
 rw [I8,IM]
 refine Ah ?_
 intro b10 IU JK
 refine k0 _ _ ?_
 refine AB fun K k0=>?_
 refine Aq ?_
 refine AL ?_
 refine Ah ?_
 refine AO (k0 _ _ ?_)
 refine BF [1,2,0] (by decide) ?_
 simp only [Ag,nth]
 refine AV [0,2,3,10] fun G1 g1=>?_
 replace g1:=Bi g1
 obtain ⟨lk,br,hbr,hbs,pM⟩:=hby _ r2
 rw [IM] at lk hbs
 have hm0:=(LB lk htl).1
 refine AQ rfl fun K k0=>?_
 have zg:=Bd.mk g1
 refine AR ?_
 refine Bq (Al x) (List.sublist_append_left (Al x) _) WT (FdR x e) (fun w hw=>TD x rfl e fi lk hm0 (hck _ hm0) w hw) ?_
 rintro ⟨⟨qa,qw,kd⟩,er⟩ ⟨hq1,hq2,hq3⟩
 dsimp only at hq1 hq2 hq3
 unfold WT
 dsimp only
 refine AR ?_
 intro b12 rH AHB
 refine k0 _ _ ?_
 refine AB fun K k0=>?_
 refine BH ?_
 refine AL ?_
 by_cases h0:er=0
 case neg =>
  refine Ap h0 ?_
  refine BH ?_
  refine AP (Br fun w hw=>?_)
  exact ⟨⟨0,er⟩,rfl,⟨hq1,v0⟩,hw.pick (ix:=[1,2]) (by decide)⟩
 obtain ⟨q1,q2,q3⟩:=hq2 h0
 obtain ⟨a,rfl⟩:∃a:Nat,qa=(a:Int):=⟨qa.toNat,by omega⟩
 obtain ⟨wd,rfl⟩:∃wd:Nat,qw=(wd:Int):=⟨qw.toNat,by omega⟩
 have d0:decide (er=0)=true:=decide_eq_true h0
 refine Ap d0 ?_
 refine AO (k0 _ _ ?_)
 refine BF [1,2,0] (by decide) ?_
 simp only [Ag,nth]
 refine AV [0,2,12] fun G2 g2=>?_
 replace g2:=Bg g2
 refine FJ (fun w hw=>Aw.nS (x:=x) hw (by omega)) ?_
 simp only [BD,BC,and_true]
 rintro ⟨g,hA,n1,n2⟩
 obtain ⟨s,hs⟩:∃s,Ac o=s:=⟨_,rfl⟩
 rw [hs] at r1 hbr
 have hin:a+wd<=br.n:=by omega
 have hwd:((a:Int)+(wd:Int)).toNat-a=wd:=by omega
 refine FJ (fun w hw=>(Aw.UX (x:=x) hw (List.mem_of_getElem? hbr)).cap) ?_
 intro hcp
 refine AB fun K k0=>?_
 refine BR [(true,0),(true,1),(true,2),(true,3),(true,4),(true,8),(true,9),(true,10),(true,11),(true,12),(true,13),(true,14),(false,5),(true,6),(true,7),(true,15),(false,16),(true,17),(true,18)] [] CB rfl (by kernel_rfl) (by kernel_rfl) rfl rfl ?_
 replace zg:=Bd.mk g2
 refine Ap hA ?_
 refine Aa (fun w hw=>CU o ho w) ?_
 try refine Ap (And.intro hs hA) ?_
 refine Aj (Jz (m:=1) rfl (fun w hw=>Aw.Qa (M:=M) (W:=W) (x:=x) (L:=[.blk b12 194 [.int .i64 (a:Int),.int .i64 (wd:Int),.int .i64 kd]]) (by rw [<-hA] at hw;exact hw) hA hbr)) ?_
 refine Ap hwd ?_
 refine Et (fun v:Int=>.int .u64 v) (fun v=>0<=v/\v<18446744073709551616) (fun w hw=>WN _ _ _ _ w (((Aw.UX (M:=M) (W:=W) (x:=x) (L:=[.blk b12 194 [.int .i64 (a:Int),.int .i64 (wd:Int),.int .i64 kd]]) (by rw [<-hA] at hw;exact hw) (List.mem_of_getElem? hbr)).iG (k:=a) (by omega)).iH (k:=wd) (by omega)) (by omega)) ?_
 intro v hv2
 refine AR ?_
 refine k0 _ _ ?_
 refine AP (Br fun w hw=>?_)
 rw [<-hA] at hw
 exact ⟨⟨v,0⟩,rfl,⟨(by decide:(0:Int)<=0/\(0:Int)<=29),hv2⟩,hw.pick (ix:=[0,1]) (by decide)⟩
section
variable {P:Program} {M:List Nat} {W w:World} {L:List Ai} {K:Ai}
theorem Aw.opn {x:Aw} {s:Nat} {br:WG} (hs:x.D8[s]? = some br) (h:St M W (K::Cj (DW x)::L) w):St M W (Cb br::K :: .row (.slice x.BA x.bn x.bc) 42 1 x.bn (x.D8.flatMap NR)::Cj ((x.D8.map Cb).eraseIdx s)::Cj (((DW x).eraseIdx 10).eraseIdx 6)::L) w:=by
 have hk:nth (x.D8.map Cb) s=some (Cb br):=by rw [EL,List.getElem?_map,hs];rfl
 have h2:=(h.Fj (k:=10) rfl).swp.Il
 have h3:=h2.perm (List.perm_middle.trans ((DI hk).symm.append_right _))
 have h5:=h3.Cj.perm (((List.perm_append_comm (l₁:=[_,_]) (l₂:=[_,_])).append_right L).trans (List.Perm.swap _ _ _))
 have h6:=St.Fj (R:=(DW x).eraseIdx 10) (k:=6) rfl h5
 exact h6.perm ((List.perm_middle (l₁:=[_,_])).symm.trans (.cons _ (.cons _ (List.perm_middle (l₁:=[_,_])))))
theorem Aw.cls {x:Aw} {s:Nat} {br:WG} (l:List Nat) (hs:x.D8[s]? = some br) (h:St M W (Cb { br with l:=l } :: K :: .row (.slice x.BA x.bn x.bc) 42 1 x.bn (x.D8.flatMap NR)::Cj ((x.D8.map Cb).eraseIdx s)::Cj (((DW x).eraseIdx 10).eraseIdx 6)::L) w):St M W (K::Cj (DW (x.IA (x.D8.set s { br with l:=l })))::L) w:=by
 have hlt:=(List.getElem?_eq_some_iff.1 hs).1
 have hf:(x.D8.set s { br with l:=l }).flatMap NR=x.D8.flatMap NR:=by
  have h9:=Nc (f:=NR) (s:=1) F6 (k:=0) (by omega) (v:=.slice br.A br.n br.c) (x:=br) (y := { br with l:=l }) rfl hs
  rw [<-h9]
  have h8:(x.D8.flatMap NR)[s*1+0]? = some (.slice br.A br.n br.c):=Co F6 hs (by decide)
  obtain ⟨h7,h6⟩:=List.getElem?_eq_some_iff.1 h8
  rw [<-h6,List.set_getElem_self]
 have h1:=h.perm ((List.perm_middle (l₁:=[_,_])).symm.trans (.cons _ (.cons _ (List.perm_middle (l₁:=[_,_]))))).symm
 have h2:=St.FV (R:=(DW x).eraseIdx 10) (k:=6) _ (by show 6<10;decide) h1
 have h3:=(h2.perm (((List.perm_append_comm (l₁:=[_,_]) (l₂:=[_,_])).append_right L).trans (List.Perm.swap _ _ _)).symm).Il
 have h4:=h3.perm (((KX (by rw [List.length_map];exact hlt) _).append_right _).trans List.perm_middle.symm)
 have h5:=St.FV (R:=DW x) (k:=10) _ (by show 10<11;decide) h4.Cj.swp
 have h6:DW (x.IA (x.D8.set s { br with l:=l }))=((DW x).set 10 (Cj ((x.D8.map Cb).set s (Cb { br with l:=l })))):=by
  unfold DW Aw.IA
  dsimp only
  rw [hf,List.map_set]
  rfl
 rw [h6]
 exact h5
end
theorem WZ (l:List Nat) (j:Nat) (y:Int):(Gs l).set j (.int .u8 (IntKind.u8.wrap y))=Gs (l.set j (IntKind.u8.wrap y).toNat):=by
 have h:0<=IntKind.u8.wrap y:=by
  rw [IntKind.wrap_u8]
  omega
 have h2:((IntKind.u8.wrap y).toNat:Int)=IntKind.u8.wrap y:=Int.toNat_of_nonneg h
 unfold Gs
 rw [List.map_set,h2]
def EqB (x y:Aw):Prop:=y=x∨∃s br l,x.D8[s]? = some br/\l.length=br.l.length/\y=x.IA (x.D8.set s { br with l:=l })
structure tF (x:Aw) (i:Gx):Prop where
 QW:0<=i.v/\i.v<=29
 r:EqB x i.y
theorem nU (x:Aw) {b:Nat} (hb:x.b=b) (p:Int) (o:Nat) (fi v:Int) (ho:o<18446744073709551616) (hN:x.tb.s.gen.length=x.tb.s.Cz.length) (hl:x.l.length<=90000) (hck:∀t∈x.Gw,I9 t.len t.fs=0) (hby:∀s,B_ x.tb.s s=true->iD x s) (hbn:x.bn=x.tb.en) (W:World) (hst:St (Ak (Al x)) W (Al x) W) :
  Calls Tryz.prog 59 #[.pointer (some ⟨b,0,none⟩),.int .i64 p,.int .u64 (o:Int),.int .i64 fi,.int .u64 v] W
  fun en w' => ∃i:Gx,en = .returned (EH i)/\tF x i/\St (Ak (Al x)) W (Al i.y) w':=by
 subst hb
 have htl:=Aw.tyl hst
 obtain ⟨M,hM⟩:∃M,Ak (Al x)=M:=⟨_,rfl⟩
 rw [hM] at hst ⊢
 clear hM
 unfold Al Du at hst
 refine Ab (M:=M) Tryz.func59 [.tmp 10]  hst ?_
 have zs:=Bd.mk JL
 refine Aq ?_
 refine AQ rfl fun K k0=>?_
 refine Ah ?_
 refine Bq (Al x) (List.Sublist.refl _) (fun v:Int=>ZL x o v) _ (fun w hw=>Ea x rfl p o 2 ho hN hl w hw) ?_
 intro v1 hv
 by_cases hv0:v1=0
 case neg =>
  rw [F8 hv0]
  refine Ah ?_
  intro b10 IU JK
  refine k0 _ _ ?_
  refine AB fun K k0=>?_
  refine Aq ?_
  refine AL ?_
  refine D_ hv0 ?_
  refine Aq ?_
  refine AP (Cc fun w hw=>?_)
  exact ⟨⟨v1,x⟩,rfl,⟨hv.QW,.inl rfl⟩,hw.tail⟩
 have he:=hv.ok hv0
 subst hv0
 obtain ⟨r1,r2,r3,r4⟩:=Dr he
 obtain ⟨e,IM⟩:∃e,Ba x.tb (Ac o)=e:=⟨_,rfl⟩
 rw [I8,IM]
 refine Ah ?_
 intro b10 IU JK
 refine k0 _ _ ?_
 refine AB fun K k0=>?_
 refine Aq ?_
 refine AL ?_
 refine Ah ?_
 refine AO (k0 _ _ ?_)
 refine BF [1,2,0] (by decide) ?_
 simp only [Ag,nth]
 refine AV [0,2,3,4,11] fun G1 g1=>?_
 replace g1:=Bi g1
 obtain ⟨lk,br,hbr,hbs,pM⟩:=hby _ r2
 rw [IM] at lk hbs
 have hm0:=(LB lk htl).1
 refine AQ rfl fun K k0=>?_
 have zg:=Bd.mk g1
 refine AR ?_
 refine Bq (Al x) (List.sublist_append_left (Al x) _) WT (FdR x e) (fun w hw=>TD x rfl e fi lk hm0 (hck _ hm0) w hw) ?_
 rintro ⟨⟨qa,qw,kd⟩,er⟩ ⟨hq1,hq2,hq3⟩
 dsimp only at hq1 hq2 hq3
 unfold WT
 dsimp only
 refine AR ?_
 intro b12 rH AHB
 refine k0 _ _ ?_
 refine AB fun K k0=>?_
 refine BH ?_
 refine AL ?_
 by_cases h0:er=0
 case neg =>
  refine Ap h0 ?_
  refine BH ?_
  refine AP (Br fun w hw=>?_)
  exact ⟨⟨er,x⟩,rfl,⟨hq1,.inl rfl⟩,hw.pick (ix:=[1,2]) (by decide)⟩
 obtain ⟨q1,q2,q3⟩:=hq2 h0
 have q4:=hq3 h0
 obtain ⟨a,rfl⟩:∃a:Nat,qa=(a:Int):=⟨qa.toNat,by omega⟩
 obtain ⟨wd,rfl⟩:∃wd:Nat,qw=(wd:Int):=⟨qw.toNat,by omega⟩
 have d0:decide (er=0)=true:=decide_eq_true h0
 refine Ap d0 ?_
 refine AO (k0 _ _ ?_)
 refine BF [1,2,0] (by decide) ?_
 simp only [Ag,nth]
 refine AV [0,2,4,13] fun G2 g2=>?_
 replace g2:=Bg g2
 have hin:a+wd<=br.n:=by omega
 refine AB fun K k0=>?_
 refine AQ rfl fun K k1=>?_
 replace zg:=Bd.mk g2
 refine AR ?_
 refine Et (fun b:Bool=>.bool b) (fun _=>True) (fun w hw=>gp v wd w) ?_
 intro fb _
 refine AR ?_
 refine k1 _ _ ?_
 refine AL ?_
 cases fb with
 | false =>
  refine AR ?_
  refine BH ?_
  refine AP (Br fun w hw=>?_)
  exact ⟨⟨9,x⟩,rfl,⟨(by decide:(0:Int)<=9/\(9:Int)<=29),.inl rfl⟩,hw.pick (ix:=[0,1]) (by decide)⟩
 | true =>
 refine AR ?_
 refine AO (k0 _ _ ?_)
 obtain ⟨s,hs⟩:∃s,Ac o=s:=⟨_,rfl⟩
 rw [hs] at r1 hbr
 refine FJ (fun w hw=>(Aw.UX (x:=x) hw (List.mem_of_getElem? hbr)).len) ?_
 rw [Gc,Nat.mul_one]
 intro AB6
 refine Cq [.row (.slice br.A br.n br.c) 5 1 br.n (Gs br.l),.blk x.b 65 [x.y0,x.y1,x.y2,x.y3,x.y4,x.y5,x.y6,x.y7,x.y8,.slice x.TA x.tn x.tc,.int .i64 x.N,.slice x.UA x.un x.uc,.pointer (some ⟨x.tb.tb,0,none⟩),.slice x.LA x.ln x.lc,.int .i64 x.lim.qb,.int .i64 x.lim.qo,.int .i64 x.lim.qr,.slice x.MA x.mn x.mc,.int .i64 x.cap,.slice x.EA x.en x.ec,.slice x.SA x.sn x.sc,.slice x.BA x.bn x.bc,.slice (some ⟨x.g,0,none⟩) 65 65],.row (.slice x.BA x.bn x.bc) 42 1 x.bn (x.D8.flatMap NR),Cj ((x.D8.map Cb).eraseIdx s),Cj (((DW x).eraseIdx 10).eraseIdx 6),.blk b12 194 [.int .i64 (a:Int),.int .i64 (wd:Int),.int .i64 kd]] (fun w hw=>Aw.opn hbr hw) ?_
 obtain ⟨BA,ZO⟩:∃BA,x.BA=BA:=⟨_,rfl⟩
 obtain ⟨bA,KD⟩:∃bA,br.A=bA:=⟨_,rfl⟩
 rw [ZO,KD]
 refine BQ 2 rfl (by omega) fun gB DJ hgB Bl=>?_
 subst DJ
 simp only [List.eraseIdx_cons_zero,List.eraseIdx_cons_succ,BC,BD,BI,A_,and_true,List.not_mem_nil,or_false,JL] at Bl hgB
 replace hgB:=And.intro hgB Bl
 clear Bl
 refine BQ 0 rfl (by omega) fun gb DJ hgb Bl=>?_
 subst DJ
 simp only [List.eraseIdx_cons_zero,List.eraseIdx_cons_succ,BC,BD,BI,A_,and_true,List.not_mem_nil,or_false,JL] at Bl hgb
 replace hgb:=And.intro hgb Bl
 clear Bl
 have hget:(x.D8.flatMap NR)[s]? = some (.slice (some ⟨gb,0,none⟩) br.n br.c):=by
  have h9:=Co F6 hbr (show 0<1 by decide)
  rw [Nat.mul_one,Nat.add_zero] at h9
  rw [h9]
  show some (Value.slice br.A br.n br.c)=_
  rw [KD]
 refine AB fun K k0=>?_
 refine BH ?_
 refine AV [0,2,4,13,14] fun G3 g3=>?_
 replace g3:=Bg g3
 refine Ad ?_
 refine BP (fun F' L' => ∃(i:Nat) (l:List Nat),Az F' G3 [0,2,4,13]/\F' 14 = .int .i64 (i:Int)/\L'=[.row (.slice (some ⟨gb,0,none⟩) br.n br.c) 5 1 br.n (Gs l),.blk x.b 65 [x.y0,x.y1,x.y2,x.y3,x.y4,x.y5,x.y6,x.y7,x.y8,.slice x.TA x.tn x.tc,.int .i64 x.N,.slice x.UA x.un x.uc,.pointer (some ⟨x.tb.tb,0,none⟩),.slice x.LA x.ln x.lc,.int .i64 x.lim.qb,.int .i64 x.lim.qo,.int .i64 x.lim.qr,.slice x.MA x.mn x.mc,.int .i64 x.cap,.slice x.EA x.en x.ec,.slice x.SA x.sn x.sc,.slice (some ⟨gB,0,none⟩) x.bn x.bc,.slice (some ⟨x.g,0,none⟩) 65 65],.row (.slice (some ⟨gB,0,none⟩) x.bn x.bc) 42 1 x.bn (x.D8.flatMap NR),Cj ((x.D8.map Cb).eraseIdx s),Cj (((DW x).eraseIdx 10).eraseIdx 6),.blk b12 194 [.int .i64 (a:Int),.int .i64 (wd:Int),.int .i64 kd]]/\i<=wd/\l.length=br.l.length) (fun F' L'=>200000-(intOf (F' 14)).toNat) ?_ ?_
 ·refine ⟨0,br.l, ?_⟩
  replace zg:=Bd.mk g3
  refine AR ?_
  exact Nat.zero_le _
 intro G4 L' hI
 obtain ⟨i,l,zq,tH,rfl,⟨hin,hll⟩⟩:=hI
 replace zg:=Bd.mk g3
 have g4:=And.intro (Bg zq) tH
 refine AB fun K k1=>?_
 replace zg:=Bd.mk (And.intro g3 g4)
 refine BH ?_
 refine Dl (fun hc=>?_) fun hc=>?_
 ·refine AO ?_
  try simp only [BJ,BX]
  have hit:i<wd:=by have:=of_decide_eq_true ‹decide ((i:Int)<(wd:Int))=true›;omega
  refine k1 _ _ ?_
  refine AB fun K k1=>?_
  refine Ad ?_
  refine Jk ?_
  refine BR [(true,0),(true,1),(true,2),(true,3),(true,4),(true,8),(true,9),(true,10),(true,11),(true,12),(true,13),(true,14),(true,15),(true,16),(false,5),(true,6),(true,7),(true,17),(false,18)] [18] CB rfl (by kernel_rfl) (by kernel_rfl) rfl rfl ?_
  simp -implicitDefEqProofs (disch:=first|omega|decide) only [seval, -Int.reducePow, -Nat.reducePow,cC,pv,Ao,Az,undef,JL,IntKind.bits,g3,g4]
  refine Aa (fun w hw=>CU o ho w) ?_
  try refine Ap hs ?_
  refine Aj (BN (m:=1) (i:=s) (v:=.slice (some ⟨gb,0,none⟩) br.n br.c) (AZ (k:=2) rfl) rfl hget) ?_
  refine Ap @WZ ?_
  refine Aj (EW 0 (i:=a+i) rfl (by rw [Gc];omega) (by kernel_rfl) rfl rfl) ?_
  refine Ap @WZ ?_
  refine k1 _ _ ?_
  refine AF rfl ?_
  refine AR ?_
  refine ⟨⟨i+1,l.set (a+i) (IntKind.u8.wrap (v / 2 ^ (8*(i:Int)).toNat)).toNat, ?_⟩, ?_⟩
  ·refine Ap @Int.natCast_add ?_
   exact ⟨by omega,by rw [List.length_set];exact hll⟩
  ·simp only [intOf];omega
 refine BM (k0 _ _ ?_)
 have hfin:∀ {w},St M W [.row (.slice (some ⟨gb,0,none⟩) br.n br.c) 5 1 br.n (Gs l),.blk x.b 65 [x.y0,x.y1,x.y2,x.y3,x.y4,x.y5,x.y6,x.y7,x.y8,.slice x.TA x.tn x.tc,.int .i64 x.N,.slice x.UA x.un x.uc,.pointer (some ⟨x.tb.tb,0,none⟩),.slice x.LA x.ln x.lc,.int .i64 x.lim.qb,.int .i64 x.lim.qo,.int .i64 x.lim.qr,.slice x.MA x.mn x.mc,.int .i64 x.cap,.slice x.EA x.en x.ec,.slice x.SA x.sn x.sc,.slice (some ⟨gB,0,none⟩) x.bn x.bc,.slice (some ⟨x.g,0,none⟩) 65 65],.row (.slice (some ⟨gB,0,none⟩) x.bn x.bc) 42 1 x.bn (x.D8.flatMap NR),Cj ((x.D8.map Cb).eraseIdx s),Cj (((DW x).eraseIdx 10).eraseIdx 6),.blk b12 194 [.int .i64 (a:Int),.int .i64 (wd:Int),.int .i64 kd]] w->St M W [.blk x.b 65 [x.y0,x.y1,x.y2,x.y3,x.y4,x.y5,x.y6,x.y7,x.y8,.slice x.TA x.tn x.tc,.int .i64 x.N,.slice x.UA x.un x.uc,.pointer (some ⟨x.tb.tb,0,none⟩),.slice x.LA x.ln x.lc,.int .i64 x.lim.qb,.int .i64 x.lim.qo,.int .i64 x.lim.qr,.slice x.MA x.mn x.mc,.int .i64 x.cap,.slice x.EA x.en x.ec,.slice x.SA x.sn x.sc,.slice x.BA x.bn x.bc,.slice (some ⟨x.g,0,none⟩) 65 65],Cj (DW (x.IA (x.D8.set s { br with l:=l }))),.blk b12 194 [.int .i64 (a:Int),.int .i64 (wd:Int),.int .i64 kd]] w:=fun h=>by
  rw [<-ZO,<-KD] at h
  exact Aw.cls l hbr h
 refine BH ?_
 refine AP (Br fun w hw=>?_)
 exact ⟨⟨0,x.IA (x.D8.set s { br with l:=l })⟩,rfl,⟨(by decide:(0:Int)<=0/\(0:Int)<=29),.inr ⟨s,br,l,hbr,hll,rfl⟩⟩,(hfin hw).pick (ix:=[0,1]) (by decide)⟩
section
variable {P:Program} {M:List Nat} {W w:World} {L:List Ai} {K:Ai}
theorem St.addN (t:TypeId) (size:Nat) (h:St M W L w):St M W (.row (.slice none 0 0) t size 0 []::L) w:=h.add _ (World.ownsRow_nil w 0 _ _) (by simp [Ai.foot,Value.ownBlock]) (by simp [Ai.foot,Value.ownBlock])
end
theorem ZT (l:List Nat) (j x:Nat):(Gs l).set j (.int .u8 (x:Int))=Gs (l.set j x):=by unfold Gs;rw [List.map_set]
structure nV where
 A:Option Addr
 n:Nat
 c:Nat
 l:List Nat
 er:Int
def ae (i:nV):Value:=.tuple #[.slice i.A i.n i.c,.int .i64 i.er]
def Qb (i:nV):Ai:=.row (.slice i.A i.n i.c) 5 1 i.n (Gs i.l)
structure LdR (i:nV) (n:Int):Prop where
 QW:0<=i.er/\i.er<=29
 nb:i.n<=65536
 ok:i.er=0->(i.n:Int)=n
 no:¬i.er=0->i.n=0
theorem UZ {off n:Int} {size:Nat} (h:gZ off n size=true):0<=off/\off<=(size:Int)/\n<=(size:Int)-off:=of_decide_eq_true h
def ldN (er:Int):nV:=⟨none,0,0,[],er⟩
theorem Ua {er n:Int} (h:0<=er/\er<=29) (h0:¬er=0):LdR (ldN er) n:=⟨h,Nat.zero_le _,fun h1=>absurd h1 h0,fun _=>rfl⟩
theorem iI (x:Aw) {b:Nat} (hb:x.b=b) (p:Int) (o:Nat) (off n:Int) (ho:o<18446744073709551616) (hN:x.tb.s.gen.length=x.tb.s.Cz.length) (hl:x.l.length<=90000) (hby:∀s,B_ x.tb.s s=true->iD x s) (hbn:x.bn=x.tb.en) (W:World) (hst:St (Ak (Al x)) W (Al x) W) :
  Calls Tryz.prog 60 #[.pointer (some ⟨b,0,none⟩),.int .i64 p,.int .u64 (o:Int),.int .i64 off,.int .i64 n] W
  fun en w' => ∃i:nV,en = .returned (ae i)/\LdR i n/\St (Ak (Al x)) W (Qb i::Al x) w':=by
 subst hb
 obtain ⟨M,hM⟩:∃M,Ak (Al x)=M:=⟨_,rfl⟩
 rw [hM] at hst ⊢
 clear hM
 unfold Al Du at hst
 refine Ab (M:=M) Tryz.func60 [.tmp 10,.tmp 11]  hst ?_
 have zs:=Bd.mk JL
 refine Aq ?_
 refine AQ rfl fun K k0=>?_
 refine Ah ?_
 refine Bq (Al x) (List.Sublist.refl _) (fun v:Int=>ZL x o v) _ (fun w hw=>Ea x rfl p o 1 ho hN hl w hw) ?_
 intro v hv
 by_cases hv0:v=0
 case neg =>
  rw [F8 hv0]
  refine Ah ?_
  intro b10 IU JK
  refine k0 _ _ ?_
  refine AB fun K k0=>?_
  refine Aq ?_
  refine AL ?_
  refine D_ hv0 ?_
  refine Aq ?_
  refine AP (Cc fun w hw=>?_)
  exact ⟨ldN v,rfl,Ua hv.QW hv0,hw.tail.addN _ _⟩
 have he:=hv.ok hv0
 subst hv0
 obtain ⟨r1,r2,r3,r4⟩:=Dr he
 obtain ⟨e,IM⟩:∃e,Ba x.tb (Ac o)=e:=⟨_,rfl⟩
 rw [I8,IM]
 refine Ah ?_
 intro b10 IU JK
 refine k0 _ _ ?_
 refine AB fun K k0=>?_
 refine Aq ?_
 refine AL ?_
 refine Ah ?_
 refine AO (k0 _ _ ?_)
 refine BF [1,2] (by decide) ?_
 simp only [Ag,nth]
 refine AV [0,2,3,4] fun G1 g1=>?_
 replace g1:=Bi g1
 obtain ⟨lk,br,hbr,hbs,pM⟩:=hby _ r2
 refine AB fun K k0=>?_
 have zg:=Bd.mk g1
 refine BH ?_
 refine Dl (fun hc=>?_) fun hc=>?_
 ·refine BH ?_
  refine AP (Br fun w hw=>?_)
  exact ⟨ldN 1,rfl,Ua (by decide) (by decide),hw.addN _ _⟩
 have hn0:=of_decide_eq_false hc
 obtain ⟨n,rfl⟩:∃n':Nat,n=(n':Int):=⟨n.toNat,by omega⟩
 refine AO (k0 _ _ ?_)
 refine FJ (fun w hw=>Aw.nS (x:=x) hw (by omega)) ?_
 simp only [BD,BC,and_true]
 rintro ⟨g,hA,n1⟩
 obtain ⟨s,hs⟩:∃s,Ac o=s:=⟨_,rfl⟩
 rw [hs] at r1 hbr
 refine FJ (fun w hw=>(Aw.UX (x:=x) hw (List.mem_of_getElem? hbr)).cap) ?_
 intro hcp
 refine AB fun K k0=>?_
 refine BR [(true,0),(true,1),(true,2),(true,3),(true,4),(false,5),(true,6),(true,7),(true,8)] [] CB rfl (by kernel_rfl) (by kernel_rfl) rfl rfl ?_
 refine Ap hA ?_
 refine Aa (fun w hw=>CU o ho w) ?_
 try refine Ap (And.intro hs hA) ?_
 refine Aj (Jz (m:=1) rfl (fun w hw=>Aw.Qa (M:=M) (W:=W) (x:=x) (L:=[]) (by rw [<-hA] at hw;exact hw) hA hbr)) ?_
 refine AR ?_
 refine k0 _ _ ?_
 rw [<-hA]
 refine AV [3,4,14] fun G2 g2=>?_
 replace g2:=Bg g2
 refine AB fun K k0=>?_
 refine AQ rfl fun K k1=>?_
 replace zg:=Bd.mk g2
 refine AR ?_
 refine Aa (fun w hw=>Gm off n br.n (by omega) w) ?_
 try refine AR ?_
 refine k1 _ _ ?_
 refine AL ?_
 cases lu:gZ off n br.n with
 | false =>
  refine AR ?_
  refine BH ?_
  refine AP (Br fun w hw=>?_)
  exact ⟨ldN 7,rfl,Ua (by decide) (by decide),hw.addN _ _⟩
 | true =>
 obtain ⟨w1,w2,w3⟩:=UZ lu
 obtain ⟨off,rfl⟩:∃o':Nat,off=(o':Int):=⟨off.toNat,by omega⟩
 refine AR ?_
 refine AO (k0 _ _ ?_)
 have hwd:((off:Int)+(n:Int)).toNat-off=n:=by omega
 refine AQ rfl fun K k0=>?_
 refine Ap hwd ?_
 intro bE PE Rj
 refine CR 0 WX rfl rfl (fun w hw=>(((Aw.UX (M:=M) (W:=W) (x:=x) (L:=[]) hw.tail (List.mem_of_getElem? hbr)).iG (k:=off) (by omega)).iH (k:=n) (by omega)).reads) (VY _) (by omega) (by omega) ?_
 intro A3 c3 hl3 hr3
 refine Ap (And.intro @Nat.zero_add @List.nil_append.{0}) ?_
 refine k0 _ _ ?_
 refine AP (Br fun w hw=>?_)
 exact ⟨⟨A3,n,c3,(br.l.drop off).take n,0⟩,rfl,⟨(by decide:(0:Int)<=0/\(0:Int)<=29),by show n<=65536;omega,fun _=>rfl,fun h=>absurd rfl h⟩,hw⟩
theorem ag (x:Aw) {b:Nat} (hb:x.b=b) (p:Int) (o:Nat) (off:Int) (A:Option Addr) (n c:Nat) (bs:List Nat) (ho:o<18446744073709551616) (hN:x.tb.s.gen.length=x.tb.s.Cz.length) (hl:x.l.length<=90000) (hby:∀s,B_ x.tb.s s=true->iD x s) (hbn:x.bn=x.tb.en) (hn:n<=65536) (W:World) (hE:Sl W W.heap.size 1 A n c (Gs bs)) (ha:U4 A (Ak (Al x))) (hst:St (Ak (Al x)) W (Al x) W) :
  Calls Tryz.prog 61 #[.pointer (some ⟨b,0,none⟩),.int .i64 p,.int .u64 (o:Int),.int .i64 off,.slice A n c] W
  fun en w' => ∃i:Gx,en = .returned (EH i)/\tF x i/\St (Ak (Al x)) W (Al i.y) w':=by
 subst hb
 have hM0:x.b∈Ak (Al x):=List.mem_flatMap.2 ⟨_,.head _,.head _⟩
 obtain ⟨M,hM⟩:∃M,Ak (Al x)=M:=⟨_,rfl⟩
 rw [hM] at hst ha hM0 ⊢
 clear hM
 unfold Al Du at hst
 refine Ab (M:=M) Tryz.func61 [.tmp 10]  hst ?_
 have zs:=Bd.mk JL
 refine Aq ?_
 refine AQ rfl fun K k0=>?_
 refine Ah ?_
 refine Bq (Al x) (List.Sublist.refl _) (fun v:Int=>ZL x o v) _ (fun w hw=>Ea x rfl p o 2 ho hN hl w hw) ?_
 intro v hv
 by_cases hv0:v=0
 case neg =>
  rw [F8 hv0]
  refine Ah ?_
  intro b10 IU JK
  refine k0 _ _ ?_
  refine AB fun K k0=>?_
  refine Aq ?_
  refine AL ?_
  refine D_ hv0 ?_
  refine Aq ?_
  refine AP (Cc fun w hw=>?_)
  exact ⟨⟨v,x⟩,rfl,⟨hv.QW,.inl rfl⟩,hw.tail⟩
 have he:=hv.ok hv0
 subst hv0
 obtain ⟨r1,r2,r3,r4⟩:=Dr he
 obtain ⟨e,IM⟩:∃e,Ba x.tb (Ac o)=e:=⟨_,rfl⟩
 rw [I8,IM]
 refine Ah ?_
 intro b10 IU JK
 refine k0 _ _ ?_
 refine AB fun K k0=>?_
 refine Aq ?_
 refine AL ?_
 refine Ah ?_
 refine AO (k0 _ _ ?_)
 refine BF [1,2] (by decide) ?_
 simp only [Ag,nth]
 refine AV [0,2,3,4] fun G3 g3=>?_
 replace g3:=Bi g3
 obtain ⟨lk,br,hbr,hbs,pM⟩:=hby _ r2
 refine FJ (fun w hw=>Aw.nS (x:=x) hw (by omega)) ?_
 simp only [BD,BC,and_true]
 rintro ⟨g,hA,n1⟩
 obtain ⟨s,hs⟩:∃s,Ac o=s:=⟨_,rfl⟩
 rw [hs] at r1 hbr
 refine AB fun K k0=>?_
 refine BR [(true,0),(true,1),(true,2),(true,3),(true,4),(false,5),(true,6),(true,7),(true,8)] [] CB rfl (by kernel_rfl) (by kernel_rfl) rfl rfl ?_
 have zg:=Bd.mk g3
 refine Ap hA ?_
 refine Aa (fun w hw=>CU o ho w) ?_
 try refine Ap (And.intro hs hA) ?_
 refine Aj (Jz (m:=1) rfl (fun w hw=>Aw.Qa (M:=M) (W:=W) (x:=x) (L:=[]) (by rw [<-hA] at hw;exact hw) hA hbr)) ?_
 refine AR ?_
 refine k0 _ _ ?_
 rw [<-hA]
 refine AV [3,4,13] fun G4 g4=>?_
 replace g4:=Bg g4
 refine AB fun K k0=>?_
 refine AQ rfl fun K k1=>?_
 replace zg:=Bd.mk g4
 refine AR ?_
 refine Aa (fun w hw=>Gm off n br.n (by omega) w) ?_
 try refine AR ?_
 refine k1 _ _ ?_
 refine AL ?_
 cases lu:gZ off n br.n with
 | false =>
  refine AR ?_
  refine BH ?_
  refine AP (Br fun w hw=>?_)
  exact ⟨⟨7,x⟩,rfl,⟨(by decide:(0:Int)<=7/\(7:Int)<=29),.inl rfl⟩,hw⟩
 | true =>
 obtain ⟨w1,w2,w3⟩:=UZ lu
 obtain ⟨off,rfl⟩:∃o':Nat,off=(o':Int):=⟨off.toNat,by omega⟩
 refine AR ?_
 refine AO (k0 _ _ ?_)
 by_cases AHD:br.n=0
 ·have hn0:n=0:=by omega
  refine AB fun K k0=>?_
  refine BH ?_
  refine AV [3,4,13,14] fun G5 g5=>?_
  replace g5:=Bg g5
  refine Ad ?_
  refine BP (fun F' L'=>Az F' G5 [3,4,13,14]/\L'=[.blk x.b 65 [x.y0,x.y1,x.y2,x.y3,x.y4,x.y5,x.y6,x.y7,x.y8,.slice x.TA x.tn x.tc,.int .i64 x.N,.slice x.UA x.un x.uc,.pointer (some ⟨x.tb.tb,0,none⟩),.slice x.LA x.ln x.lc,.int .i64 x.lim.qb,.int .i64 x.lim.qo,.int .i64 x.lim.qr,.slice x.MA x.mn x.mc,.int .i64 x.cap,.slice x.EA x.en x.ec,.slice x.SA x.sn x.sc,.slice x.BA x.bn x.bc,.slice (some ⟨x.g,0,none⟩) 65 65],Cj (DW x)]) (fun F' L'=>0) ?_ ?_
  ·replace zg:=Bd.mk g5
   exact MQ
  intro G6 L' hI
  obtain ⟨zq,rfl⟩:=hI
  replace zg:=Bd.mk g5
  have g6:=Bg zq
  refine AB fun K k1=>?_
  replace zg:=Bd.mk (And.intro g5 g6)
  refine BH ?_
  refine Dl (fun hc=>?_) fun hc=>?_
  ·exact absurd (of_decide_eq_true hc) (by omega)
  refine BM (k0 _ _ ?_)
  refine BH ?_
  refine AP (Br fun w hw=>?_)
  exact ⟨⟨0,x⟩,rfl,⟨(by decide:(0:Int)<=0/\(0:Int)<=29),.inl rfl⟩,hw⟩
 refine FJ (fun w hw=>(Aw.UX (x:=x) hw (List.mem_of_getElem? hbr)).len) ?_
 rw [Gc,Nat.mul_one]
 intro AB6
 refine Cq [.row (.slice br.A br.n br.c) 5 1 br.n (Gs br.l),.blk x.b 65 [x.y0,x.y1,x.y2,x.y3,x.y4,x.y5,x.y6,x.y7,x.y8,.slice x.TA x.tn x.tc,.int .i64 x.N,.slice x.UA x.un x.uc,.pointer (some ⟨x.tb.tb,0,none⟩),.slice x.LA x.ln x.lc,.int .i64 x.lim.qb,.int .i64 x.lim.qo,.int .i64 x.lim.qr,.slice x.MA x.mn x.mc,.int .i64 x.cap,.slice x.EA x.en x.ec,.slice x.SA x.sn x.sc,.slice x.BA x.bn x.bc,.slice (some ⟨x.g,0,none⟩) 65 65],.row (.slice x.BA x.bn x.bc) 42 1 x.bn (x.D8.flatMap NR),Cj ((x.D8.map Cb).eraseIdx s),Cj (((DW x).eraseIdx 10).eraseIdx 6)] (fun w hw=>Aw.opn hbr hw) ?_
 obtain ⟨BA,ZO⟩:∃BA,x.BA=BA:=⟨_,rfl⟩
 obtain ⟨bA,KD⟩:∃bA,br.A=bA:=⟨_,rfl⟩
 rw [ZO,KD]
 refine BQ 2 rfl (by omega) fun gB DJ hgB Bl=>?_
 subst DJ
 simp only [List.eraseIdx_cons_zero,List.eraseIdx_cons_succ,BC,BD,BI,A_,and_true,List.not_mem_nil,or_false,JL] at Bl hgB
 replace hgB:=And.intro hgB Bl
 clear Bl
 refine BQ 0 rfl (by omega) fun gb DJ hgb Bl=>?_
 subst DJ
 simp only [List.eraseIdx_cons_zero,List.eraseIdx_cons_succ,BC,BD,BI,A_,and_true,List.not_mem_nil,or_false,JL] at Bl hgb
 replace hgb:=And.intro hgb Bl
 clear Bl
 refine AB fun K k0=>?_
 refine BH ?_
 refine AV [3,4,13,14] fun G7 g7=>?_
 replace g7:=Bg g7
 refine Ad ?_
 refine BP (fun F' L' => ∃(i:Nat) (l:List Nat),Az F' G7 [3,4,13]/\F' 14 = .int .i64 (i:Int)/\L'=[.row (.slice (some ⟨gb,0,none⟩) br.n br.c) 5 1 br.n (Gs l),.blk x.b 65 [x.y0,x.y1,x.y2,x.y3,x.y4,x.y5,x.y6,x.y7,x.y8,.slice x.TA x.tn x.tc,.int .i64 x.N,.slice x.UA x.un x.uc,.pointer (some ⟨x.tb.tb,0,none⟩),.slice x.LA x.ln x.lc,.int .i64 x.lim.qb,.int .i64 x.lim.qo,.int .i64 x.lim.qr,.slice x.MA x.mn x.mc,.int .i64 x.cap,.slice x.EA x.en x.ec,.slice x.SA x.sn x.sc,.slice (some ⟨gB,0,none⟩) x.bn x.bc,.slice (some ⟨x.g,0,none⟩) 65 65],.row (.slice (some ⟨gB,0,none⟩) x.bn x.bc) 42 1 x.bn (x.D8.flatMap NR),Cj ((x.D8.map Cb).eraseIdx s),Cj (((DW x).eraseIdx 10).eraseIdx 6)]/\i<=n/\l.length=br.l.length) (fun F' L'=>200000-(intOf (F' 14)).toNat) ?_ ?_
 ·refine ⟨0,br.l, ?_⟩
  replace zg:=Bd.mk g7
  refine AR ?_
  exact Nat.zero_le _
 intro G8 L' hI
 obtain ⟨i,l,zq,tH,rfl,⟨hin,hll⟩⟩:=hI
 replace zg:=Bd.mk g7
 have g8:=And.intro (Bg zq) tH
 refine AB fun K k1=>?_
 replace zg:=Bd.mk (And.intro g7 g8)
 refine BH ?_
 refine Dl (fun hc=>?_) fun hc=>?_
 ·refine AO ?_
  try simp only [BJ,BX]
  have hit:i<n:=by have:=of_decide_eq_true ‹decide ((i:Int)<(n:Int))=true›;omega
  have AJ_:bs.length=n:=by have:=hE.len;rw [Gc] at this;omega
  obtain ⟨eb,heb⟩:∃eb,bs[i]? = some eb:=⟨_,List.getElem?_eq_getElem (by omega)⟩
  obtain ⟨ab,ao,vJ,hab, -⟩:=hE.cells (by omega)
  have AKA:x.b≠ab:=fun h=>ha _ _ vJ (h▸hM0)
  refine k1 _ _ ?_
  refine AB fun K k1=>?_
  refine Ad ?_
  refine AU rfl ?_
  refine Ap (And.intro vJ KD) ?_
  refine Aj ((Sl.ABT (vJ▸hE) (vJ▸ha) (m:=1) (i:=i) (v:=.int .u8 eb) rfl (Tp heb))) ?_
  refine AR ?_
  refine Aj (EW 0 (i:=off+i) rfl (by rw [Gc];omega) (by kernel_rfl) rfl rfl) ?_
  refine Ap @ZT ?_
  refine k1 _ _ ?_
  refine AF rfl ?_
  refine AR ?_
  refine ⟨⟨i+1,l.set (off+i) eb, ?_⟩, ?_⟩
  ·refine Ap @Int.natCast_add ?_
   exact ⟨by omega,by rw [List.length_set];exact hll⟩
  ·simp only [intOf];omega
 refine BM (k0 _ _ ?_)
 have hfin:∀ {w},St M W [.row (.slice (some ⟨gb,0,none⟩) br.n br.c) 5 1 br.n (Gs l),.blk x.b 65 [x.y0,x.y1,x.y2,x.y3,x.y4,x.y5,x.y6,x.y7,x.y8,.slice x.TA x.tn x.tc,.int .i64 x.N,.slice x.UA x.un x.uc,.pointer (some ⟨x.tb.tb,0,none⟩),.slice x.LA x.ln x.lc,.int .i64 x.lim.qb,.int .i64 x.lim.qo,.int .i64 x.lim.qr,.slice x.MA x.mn x.mc,.int .i64 x.cap,.slice x.EA x.en x.ec,.slice x.SA x.sn x.sc,.slice (some ⟨gB,0,none⟩) x.bn x.bc,.slice (some ⟨x.g,0,none⟩) 65 65],.row (.slice (some ⟨gB,0,none⟩) x.bn x.bc) 42 1 x.bn (x.D8.flatMap NR),Cj ((x.D8.map Cb).eraseIdx s),Cj (((DW x).eraseIdx 10).eraseIdx 6)] w->St M W [.blk x.b 65 [x.y0,x.y1,x.y2,x.y3,x.y4,x.y5,x.y6,x.y7,x.y8,.slice x.TA x.tn x.tc,.int .i64 x.N,.slice x.UA x.un x.uc,.pointer (some ⟨x.tb.tb,0,none⟩),.slice x.LA x.ln x.lc,.int .i64 x.lim.qb,.int .i64 x.lim.qo,.int .i64 x.lim.qr,.slice x.MA x.mn x.mc,.int .i64 x.cap,.slice x.EA x.en x.ec,.slice x.SA x.sn x.sc,.slice x.BA x.bn x.bc,.slice (some ⟨x.g,0,none⟩) 65 65],Cj (DW (x.IA (x.D8.set s { br with l:=l })))] w:=fun h=>by
  rw [<-ZO,<-KD] at h
  exact Aw.cls l hbr h
 refine BH ?_
 refine AP (Br fun w hw=>?_)
 exact ⟨⟨0,x.IA (x.D8.set s { br with l:=l })⟩,rfl,⟨(by decide:(0:Int)<=0/\(0:Int)<=29),.inr ⟨s,br,l,hbr,hll,rfl⟩⟩,hfin hw⟩
theorem YK (x:Aw) {b:Nat} (hb:x.b=b) (p:Int) (d:Nat) (to:Int) (o:Nat) (off n:Int) (hd:d<18446744073709551616) (ho:o<18446744073709551616) (hN:x.tb.s.gen.length=x.tb.s.Cz.length) (hl:x.l.length<=90000) (hby:∀s,B_ x.tb.s s=true->iD x s) (hbn:x.bn=x.tb.en) (W:World) (hst:St (Ak (Al x)) W (Al x) W) :
  Calls Tryz.prog 62 #[.pointer (some ⟨b,0,none⟩),.int .i64 p,.int .u64 (d:Int),.int .i64 to,.int .u64 (o:Int),.int .i64 off,.int .i64 n] W
  fun en w' => ∃i:Gx,en = .returned (EH i)/\tF x i/\St (Ak (Al x)) W (Al i.y) w':=by
 subst hb
 obtain ⟨M,hM⟩:∃M,Ak (Al x)=M:=⟨_,rfl⟩
 rw [hM] at hst ⊢
 clear hM
 unfold Al Du at hst
 refine Ab (M:=M) Tryz.func62 [.tmp 14]  hst ?_
 have zs:=Bd.mk JL
 refine Aq ?_
 refine AB fun K k0=>?_
 refine AQ rfl fun K k1=>?_
 refine Ah ?_
 refine Bq (Al x) (List.Sublist.refl _) (fun v:Int=>ZL x d v) _ (fun w hw=>Ea x rfl p d 2 hd hN hl w hw) ?_
 intro v hv
 by_cases hv0:v=0
 case neg =>
  rw [F8 hv0]
  refine Ah ?_
  intro b10 IU JK
  refine k1 _ _ ?_
  refine Aq ?_
  refine AL ?_
  refine D_ hv0 ?_
  refine Aq ?_
  refine AP (Cc fun w hw=>?_)
  exact ⟨⟨v,x⟩,rfl,⟨hv.QW,.inl rfl⟩,hw.tail⟩
 have he:=hv.ok hv0
 subst hv0
 obtain ⟨r1,r2, -, -⟩:=Dr he
 obtain ⟨e1,he1⟩:∃e1,Ba x.tb (Ac d)=e1:=⟨_,rfl⟩
 rw [I8,he1]
 refine Ah ?_
 intro b10 IU JK
 refine k1 _ _ ?_
 refine Aq ?_
 refine AL ?_
 refine Ah ?_
 refine AO (k0 _ _ ?_)
 refine BF [1,2] (by decide) ?_
 simp only [Ag,nth]
 refine AV [0,1,2,3,4,5,6] fun G1 g1=>?_
 replace g1:=Bi g1
 refine AB fun K k0=>?_
 refine AQ rfl fun K k1=>?_
 have zg:=Bd.mk g1
 refine AR ?_
 refine Bq (Al x) (List.Sublist.refl _) (fun v:Int=>ZL x o v) _ (fun w hw=>Ea x rfl p o 1 ho hN hl w hw) ?_
 intro v hv
 by_cases hv0:v=0
 case neg =>
  rw [F8 hv0]
  refine AR ?_
  intro b10 IU JK
  refine k1 _ _ ?_
  refine BH ?_
  refine AL ?_
  refine Ap hv0 ?_
  refine BH ?_
  refine AP (Br fun w hw=>?_)
  exact ⟨⟨v,x⟩,rfl,⟨hv.QW,.inl rfl⟩,hw.tail⟩
 have he:=hv.ok hv0
 subst hv0
 obtain ⟨r3,r4, -, -⟩:=Dr he
 obtain ⟨e,IM⟩:∃e,Ba x.tb (Ac o)=e:=⟨_,rfl⟩
 rw [I8,IM]
 refine AR ?_
 intro b10 IU JK
 refine k1 _ _ ?_
 refine BH ?_
 refine AL ?_
 refine AR ?_
 refine AO (k0 _ _ ?_)
 refine BF [1,2] (by decide) ?_
 simp only [Ag,nth]
 refine AV [0,2,3,4,5,6] fun G2 g2=>?_
 replace g2:=Bg g2
 obtain ⟨-,br,hbr, -,pM⟩:=hby _ r2
 obtain ⟨-,bo,Zv, -,hbp⟩:=hby _ r4
 refine AB fun K k0=>?_
 replace zg:=Bd.mk g2
 refine BH ?_
 refine Dl (fun hc=>?_) fun hc=>?_
 ·refine BH ?_
  refine AP (Br fun w hw=>?_)
  exact ⟨⟨1,x⟩,rfl,⟨(by decide:(0:Int)<=1/\(1:Int)<=29),.inl rfl⟩,hw⟩
 have hn0:=of_decide_eq_false hc
 obtain ⟨n,rfl⟩:∃n':Nat,n=(n':Int):=⟨n.toNat,by omega⟩
 refine AO (k0 _ _ ?_)
 refine FJ (fun w hw=>Aw.nS (x:=x) hw (by omega)) ?_
 simp only [BD,BC,and_true]
 rintro ⟨g,hA,n1⟩
 obtain ⟨s,hs⟩:∃s,Ac d=s:=⟨_,rfl⟩
 obtain ⟨s2,hs2⟩:∃s,Ac o=s:=⟨_,rfl⟩
 rw [hs] at r1 hbr
 rw [hs2] at r3 Zv
 refine FJ (fun w hw=>(Aw.UX (x:=x) hw (List.mem_of_getElem? Zv)).cap) ?_
 intro hcp
 refine AB fun K k0=>?_
 refine BR [(true,0),(true,1),(true,2),(true,3),(true,4),(true,8),(true,9),(true,10),(true,11),(true,12),(false,5),(true,6),(true,7),(false,13),(true,14),(true,15),(true,16),(true,17)] [] CB rfl (by kernel_rfl) (by kernel_rfl) rfl rfl ?_
 refine Ap hA ?_
 refine Aa (fun w hw=>CU d hd w) ?_
 try refine Ap (And.intro hs hA) ?_
 refine Aj (Jz (m:=1) rfl (fun w hw=>Aw.Qa (M:=M) (W:=W) (x:=x) (L:=[]) (by rw [<-hA] at hw;exact hw) hA hbr)) ?_
 refine Ap hA ?_
 refine Aa (fun w hw=>CU o ho w) ?_
 try refine Ap (And.intro hs2 hA) ?_
 refine Aj (Jz (m:=1) rfl (fun w hw=>Aw.Qa (M:=M) (W:=W) (x:=x) (L:=[]) (by rw [<-hA] at hw;exact hw) hA Zv)) ?_
 refine Ap hA ?_
 refine k0 _ _ ?_
 rw [<-hA]
 refine AV [3,5,6,19,20] fun G3 g3=>?_
 replace g3:=Bg g3
 refine AB fun K k0=>?_
 refine AB fun K k1=>?_
 obtain ⟨cb,hcb⟩:∃cb,(gZ to n br.n&&gZ off n bo.n)=cb:=⟨_,rfl⟩
 refine A9 (fun _ _=>True) (fun F' L'=>Az F' G3 [3,5,6,19,20]/\F' 74 = .bool (!cb)/\L'=[.blk x.b 65 [x.y0,x.y1,x.y2,x.y3,x.y4,x.y5,x.y6,x.y7,x.y8,.slice x.TA x.tn x.tc,.int .i64 x.N,.slice x.UA x.un x.uc,.pointer (some ⟨x.tb.tb,0,none⟩),.slice x.LA x.ln x.lc,.int .i64 x.lim.qb,.int .i64 x.lim.qo,.int .i64 x.lim.qr,.slice x.MA x.mn x.mc,.int .i64 x.cap,.slice x.EA x.en x.ec,.slice x.SA x.sn x.sc,.slice x.BA x.bn x.bc,.slice (some ⟨x.g,0,none⟩) 65 65],Cj (DW x)]) ?_ ?_
 ·subst hcb
  refine AF rfl ?_
  cases lu:gZ to n br.n with
  | false =>
   replace zg:=Bd.mk g3
   refine AR ?_
   refine Aa (fun w hw=>Gm to n br.n (by omega) w) ?_
   try exact NQ lu
  | true =>
   replace zg:=Bd.mk g3
   refine AR ?_
   refine Aa (fun w hw=>Gm to n br.n (by omega) w) ?_
   try refine Ap lu ?_
   refine Aa (fun w hw=>Gm off n bo.n (by omega) w) ?_
   try exact MQ
 intro G4 L' _ hF
 obtain ⟨zq,AHE,rfl⟩:=hF
 replace zg:=Bd.mk g3
 have g4:=And.intro (Bg zq) AHE
 refine k1 _ _ ?_
 refine AL ?_
 cases cb with
 | false =>
  replace zg:=Bd.mk g4
  refine AR ?_
  refine BH ?_
  refine AP (Br fun w hw=>?_)
  exact ⟨⟨7,x⟩,rfl,⟨(by decide:(0:Int)<=7/\(7:Int)<=29),.inl rfl⟩,hw⟩
 | true =>
 rw [Bool.and_eq_true] at hcb
 obtain ⟨w1,w2,w3⟩:=UZ hcb.1
 obtain ⟨w4,w5,w6⟩:=UZ hcb.2
 obtain ⟨to,rfl⟩:∃o':Nat,to=(o':Int):=⟨to.toNat,by omega⟩
 obtain ⟨off,rfl⟩:∃o':Nat,off=(o':Int):=⟨off.toNat,by omega⟩
 replace zg:=Bd.mk g4
 refine AR ?_
 refine AO (k0 _ _ ?_)
 have hwd:((off:Int)+(n:Int)).toNat-off=n:=by omega
 refine AQ rfl fun K k0=>?_
 refine Ap hwd ?_
 intro bE PE Rj
 refine CR 0 WX rfl rfl (fun w hw=>(((Aw.UX (M:=M) (W:=W) (x:=x) (L:=[]) hw.tail (List.mem_of_getElem? Zv)).iG (k:=off) (by omega)).iH (k:=n) (by omega)).reads) (VY _) (by omega) (by omega) ?_
 intro AX cx hlx hrx
 refine Ap (And.intro @Nat.zero_add @List.nil_append.{0}) ?_
 refine k0 _ _ ?_
 obtain ⟨lx,AHF⟩:∃lx,(bo.l.drop off).take n=lx:=⟨_,rfl⟩
 rw [AHF]
 refine BF [1,2,0] (by decide) ?_
 simp only [Ag,nth]
 refine FJ (fun w hw=>(Sl.Av hw (AZ (k:=2) rfl)).len) ?_
 rw [Gc,Nat.mul_one]
 intro AKB
 refine AV [3,6,19,21] fun G5 g5=>?_
 replace g5:=Bg g5
 by_cases AHD:br.n=0
 ·have hn0:n=0:=by omega
  refine AB fun K k0=>?_
  replace zg:=Bd.mk g5
  refine BH ?_
  refine AV [3,6,19,21,22] fun G6 g6=>?_
  replace g6:=Bg g6
  refine Ad ?_
  refine BP (fun F' L'=>Az F' G6 [3,6,19,21,22]/\L'=[.blk x.b 65 [x.y0,x.y1,x.y2,x.y3,x.y4,x.y5,x.y6,x.y7,x.y8,.slice x.TA x.tn x.tc,.int .i64 x.N,.slice x.UA x.un x.uc,.pointer (some ⟨x.tb.tb,0,none⟩),.slice x.LA x.ln x.lc,.int .i64 x.lim.qb,.int .i64 x.lim.qo,.int .i64 x.lim.qr,.slice x.MA x.mn x.mc,.int .i64 x.cap,.slice x.EA x.en x.ec,.slice x.SA x.sn x.sc,.slice x.BA x.bn x.bc,.slice (some ⟨x.g,0,none⟩) 65 65],Cj (DW x),.row (.slice AX n cx) 5 1 n (Gs lx)]) (fun F' L'=>0) ?_ ?_
  ·replace zg:=Bd.mk g6
   exact MQ
  intro G7 L' hI
  obtain ⟨zq,rfl⟩:=hI
  replace zg:=Bd.mk g6
  have g7:=Bg zq
  refine AB fun K k1=>?_
  replace zg:=Bd.mk (And.intro g6 g7)
  refine BH ?_
  refine Dl (fun hc=>?_) fun hc=>?_
  ·exact absurd (of_decide_eq_true hc) (by omega)
  refine BM (k0 _ _ ?_)
  refine BH ?_
  refine AP (Br fun w hw=>?_)
  exact ⟨⟨0,x⟩,rfl,⟨(by decide:(0:Int)<=0/\(0:Int)<=29),.inl rfl⟩,hw.pick (ix:=[0,1]) (by decide)⟩
 refine FJ (fun w hw=>(Aw.UX (x:=x) hw (List.mem_of_getElem? hbr)).len) ?_
 rw [Gc,Nat.mul_one]
 intro AB6
 refine Cq [.row (.slice br.A br.n br.c) 5 1 br.n (Gs br.l),.blk x.b 65 [x.y0,x.y1,x.y2,x.y3,x.y4,x.y5,x.y6,x.y7,x.y8,.slice x.TA x.tn x.tc,.int .i64 x.N,.slice x.UA x.un x.uc,.pointer (some ⟨x.tb.tb,0,none⟩),.slice x.LA x.ln x.lc,.int .i64 x.lim.qb,.int .i64 x.lim.qo,.int .i64 x.lim.qr,.slice x.MA x.mn x.mc,.int .i64 x.cap,.slice x.EA x.en x.ec,.slice x.SA x.sn x.sc,.slice x.BA x.bn x.bc,.slice (some ⟨x.g,0,none⟩) 65 65],.row (.slice x.BA x.bn x.bc) 42 1 x.bn (x.D8.flatMap NR),Cj ((x.D8.map Cb).eraseIdx s),Cj (((DW x).eraseIdx 10).eraseIdx 6),.row (.slice AX n cx) 5 1 n (Gs lx)] (fun w hw=>Aw.opn hbr hw) ?_
 obtain ⟨BA,ZO⟩:∃BA,x.BA=BA:=⟨_,rfl⟩
 obtain ⟨bA,KD⟩:∃bA,br.A=bA:=⟨_,rfl⟩
 rw [ZO,KD]
 refine BQ 2 rfl (by omega) fun gB DJ hgB Bl=>?_
 subst DJ
 simp only [List.eraseIdx_cons_zero,List.eraseIdx_cons_succ,BC,BD,BI,A_,and_true,List.not_mem_nil,or_false,JL] at Bl hgB
 replace hgB:=And.intro hgB Bl
 clear Bl
 refine BQ 0 rfl (by omega) fun gb DJ hgb Bl=>?_
 subst DJ
 simp only [List.eraseIdx_cons_zero,List.eraseIdx_cons_succ,BC,BD,BI,A_,and_true,List.not_mem_nil,or_false,JL] at Bl hgb
 replace hgb:=And.intro hgb Bl
 clear Bl
 refine AB fun K k0=>?_
 replace zg:=Bd.mk g5
 refine BH ?_
 refine AV [3,6,19,21,22] fun G8 g8=>?_
 replace g8:=Bg g8
 refine Ad ?_
 refine BP (fun F' L' => ∃(i:Nat) (l:List Nat),Az F' G8 [3,6,19,21]/\F' 22 = .int .i64 (i:Int)/\L'=[.row (.slice (some ⟨gb,0,none⟩) br.n br.c) 5 1 br.n (Gs l),.blk x.b 65 [x.y0,x.y1,x.y2,x.y3,x.y4,x.y5,x.y6,x.y7,x.y8,.slice x.TA x.tn x.tc,.int .i64 x.N,.slice x.UA x.un x.uc,.pointer (some ⟨x.tb.tb,0,none⟩),.slice x.LA x.ln x.lc,.int .i64 x.lim.qb,.int .i64 x.lim.qo,.int .i64 x.lim.qr,.slice x.MA x.mn x.mc,.int .i64 x.cap,.slice x.EA x.en x.ec,.slice x.SA x.sn x.sc,.slice (some ⟨gB,0,none⟩) x.bn x.bc,.slice (some ⟨x.g,0,none⟩) 65 65],.row (.slice (some ⟨gB,0,none⟩) x.bn x.bc) 42 1 x.bn (x.D8.flatMap NR),Cj ((x.D8.map Cb).eraseIdx s),Cj (((DW x).eraseIdx 10).eraseIdx 6),.row (.slice AX n cx) 5 1 n (Gs lx)]/\i<=n/\l.length=br.l.length) (fun F' L'=>200000-(intOf (F' 22)).toNat) ?_ ?_
 ·refine ⟨0,br.l, ?_⟩
  replace zg:=Bd.mk g8
  refine AR ?_
  exact Nat.zero_le _
 intro G9 L' hI
 obtain ⟨i,l,zq,tJ,rfl,⟨hin,hll⟩⟩:=hI
 replace zg:=Bd.mk g8
 have g9:=And.intro (Bg zq) tJ
 refine AB fun K k1=>?_
 replace zg:=Bd.mk (And.intro g8 g9)
 refine BH ?_
 refine Dl (fun hc=>?_) fun hc=>?_
 ·refine AO ?_
  try simp only [BJ,BX]
  have hit:i<n:=by have:=of_decide_eq_true ‹decide ((i:Int)<(n:Int))=true›;omega
  obtain ⟨eb,heb⟩:∃eb,lx[i]? = some eb:=⟨_,List.getElem?_eq_getElem (by omega)⟩
  refine k1 _ _ ?_
  obtain ⟨AY,hAY⟩:∃AY,AX=AY:=⟨_,rfl⟩
  rw [hAY]
  refine BQ 5 rfl (by omega) fun gx DJ hgx Bl=>?_
  subst DJ
  simp only [List.eraseIdx_cons_zero,List.eraseIdx_cons_succ,BC,BD,BI,A_,and_true,List.not_mem_nil,or_false,JL] at Bl hgx
  replace hgx:=And.intro hgx Bl
  clear Bl
  refine AB fun K k1=>?_
  refine Ad ?_
  refine AU rfl ?_
  refine Ap (And.intro KD hAY) ?_
  refine Aj (BN (m:=1) (i:=i) (v:=.int .u8 eb) (AZ (k:=5) rfl) rfl (Tp heb)) ?_
  refine AR ?_
  refine Aj (EW 0 (i:=to+i) rfl (by rw [Gc];omega) (by kernel_rfl) rfl rfl) ?_
  refine Ap @ZT ?_
  refine k1 _ _ ?_
  rw [<-hAY]
  refine AF rfl ?_
  refine AR ?_
  refine ⟨⟨i+1,l.set (to+i) eb, ?_⟩, ?_⟩
  ·refine Ap @Int.natCast_add ?_
   exact ⟨by omega,by rw [List.length_set];exact hll⟩
  ·simp only [intOf];omega
 refine BM (k0 _ _ ?_)
 have hfin:∀ {w},St M W [.row (.slice (some ⟨gb,0,none⟩) br.n br.c) 5 1 br.n (Gs l),.blk x.b 65 [x.y0,x.y1,x.y2,x.y3,x.y4,x.y5,x.y6,x.y7,x.y8,.slice x.TA x.tn x.tc,.int .i64 x.N,.slice x.UA x.un x.uc,.pointer (some ⟨x.tb.tb,0,none⟩),.slice x.LA x.ln x.lc,.int .i64 x.lim.qb,.int .i64 x.lim.qo,.int .i64 x.lim.qr,.slice x.MA x.mn x.mc,.int .i64 x.cap,.slice x.EA x.en x.ec,.slice x.SA x.sn x.sc,.slice (some ⟨gB,0,none⟩) x.bn x.bc,.slice (some ⟨x.g,0,none⟩) 65 65],.row (.slice (some ⟨gB,0,none⟩) x.bn x.bc) 42 1 x.bn (x.D8.flatMap NR),Cj ((x.D8.map Cb).eraseIdx s),Cj (((DW x).eraseIdx 10).eraseIdx 6),.row (.slice AX n cx) 5 1 n (Gs lx)] w->St M W [.blk x.b 65 [x.y0,x.y1,x.y2,x.y3,x.y4,x.y5,x.y6,x.y7,x.y8,.slice x.TA x.tn x.tc,.int .i64 x.N,.slice x.UA x.un x.uc,.pointer (some ⟨x.tb.tb,0,none⟩),.slice x.LA x.ln x.lc,.int .i64 x.lim.qb,.int .i64 x.lim.qo,.int .i64 x.lim.qr,.slice x.MA x.mn x.mc,.int .i64 x.cap,.slice x.EA x.en x.ec,.slice x.SA x.sn x.sc,.slice x.BA x.bn x.bc,.slice (some ⟨x.g,0,none⟩) 65 65],Cj (DW (x.IA (x.D8.set s { br with l:=l }))),.row (.slice AX n cx) 5 1 n (Gs lx)] w:=fun h=>by
  rw [<-ZO,<-KD] at h
  exact Aw.cls l hbr h
 refine BH ?_
 refine AP (Br fun w hw=>?_)
 exact ⟨⟨0,x.IA (x.D8.set s { br with l:=l })⟩,rfl,⟨(by decide:(0:Int)<=0/\(0:Int)<=29),.inr ⟨s,br,l,hbr,hll,rfl⟩⟩,(hfin hw).pick (ix:=[0,1]) (by decide)⟩
theorem AB8:type_of% (And.intro (And.intro (And.intro (And.intro @Nat.mul_one @Ae) (And.intro @G_ @cM)) (And.intro (And.intro @Ce @Cf) (And.intro @Cg (And.intro @Ch @Ci)))) (And.intro (And.intro (And.intro @Cs @Ct) (And.intro @DT (And.intro @DU @CW))) (And.intro (And.intro @CX @UW.eq_1) (And.intro @gq.eq_1 (And.intro @QY.eq_1 @vC))))):=(And.intro (And.intro (And.intro (And.intro @Nat.mul_one @Ae) (And.intro @G_ @cM)) (And.intro (And.intro @Ce @Cf) (And.intro @Cg (And.intro @Ch @Ci)))) (And.intro (And.intro (And.intro @Cs @Ct) (And.intro @DT (And.intro @DU @CW))) (And.intro (And.intro @CX @UW.eq_1) (And.intro @gq.eq_1 (And.intro @QY.eq_1 @vC)))))
section
variable {P:Program} {M:List Nat} {W w:World} {L R:List Ai} {K:Ai}
theorem Aw.AHH {x:Aw} (h:St M W (Du x::Cj (DW x)::L) w) (hn:0<x.tn):∃g,x.TA=some ⟨g,0,none⟩/\x.b≠g/\LW L g:=by
 have h1:=(h.Fj (k:=0) rfl).swp
 rcases h1.Ji with ⟨-,h0⟩|⟨g,e, -,hne⟩
 ·omega
 ·exact ⟨g,e,hne⟩
theorem Aw.AHI {x:Aw} {T:TypeId} {g i:Nat} {t:U7} (ht:Dk P T=some (true,2)) (hA:x.TA=some ⟨g,0,none⟩) (hi:x.Gw[i]? = some t) (hw:St M W (Du x::Cj (DW x)::L) w):(Instr.loadAt T (.pointer (some ⟨g,i*2,none⟩))).run P w = .ok (.agg #[.int .i64 t.len,.slice t.A t.n t.c]) w:=by
 have h1:=hw.Fj (k:=0) rfl
 rw [hA] at h1
 exact DX (M:=M) (W:=W) (vs:=RQ t) (AZ (k:=1) rfl) ht (FB M4 hi) w h1
theorem Aw.tK {x:Aw} (hw:St M W (Du x::Cj (DW x)::L) w):Reads w w.heap.size 2 x.TA x.tn (x.Gw.flatMap RQ):=(Sl.Av (hw.Fj (k:=0) rfl) (AZ (k:=1) rfl)).reads
theorem Wd {r:Ai} (h:St M W (r::Cj R::L) w):St M W (Cj (R++[r])::L) w:=by
 have h1:=h.swp.Il
 have h2:St M W ((R++[r])++L) w:=by rw [List.append_assoc];exact h1
 exact h2.Cj
end
theorem We (a b:List Value):ones (a++b)=(ones a&&ones b):=by unfold ones;rw [List.all_append]
theorem Qc (l:List U7):ones (l.flatMap RQ)=true:=by
 induction l with
 | nil=>rfl
 | cons a l ih=>rw [List.flatMap_cons,We,ih];rfl
theorem Qd (l:List Fd):ones (cl QV l)=true:=by
 unfold cl
 induction l with
 | nil=>rfl
 | cons a l ih=>rw [List.flatMap_cons,We,ih];rfl
theorem TG:IQ Tryz.prog 33=some (81,2,32):=by kernel_rfl
theorem iJ:IQ Tryz.prog 79=some (126,2,16):=by kernel_rfl
def Aw.Qe (x:Aw) (A:Option Addr) (n c:Nat) (l:List U7):Aw := { x with TA:=A,tn:=n,tc:=c,Gw:=l }
structure RgI where
 tag:Int
 er:Int
 y:Aw
def rgV (i:RgI):Value:=.tuple #[.int .i64 i.tag,.int .i64 i.er]
structure RgR (x:Aw) (len:Int) (fs:List Fd) (i:RgI):Prop where
 QW:0<=i.er/\i.er<=29
 old:¬(I9 len fs=0/\i.er=0/\i.tag=x.tn+1)->i.y=x
 ok:i.er=0->I9 len fs=0/\1<=i.tag
 new:I9 len fs=0/\i.er=0/\i.tag=x.tn+1->x.tn<255∧∃A c t,t.len=len/\t.fs=fs/\i.y=x.Qe A (x.tn+1) c (x.Gw++[t])
 tag:i.er=0->i.tag<=x.tn+1
theorem Aw.cly {M:List Nat} {W w:World} {L:List Ai} {K:Ai} {x:Aw} {t:U7} {A:Option Addr} {c:Nat} (h:St M W (K::Cj (DW x) :: .row (.slice A (x.tn+1) c) 81 2 (x.tn+1) ((x.Gw++[t]).flatMap RQ)::Mx t::L) w):St M W (K::Cj (DW (x.Qe A (x.tn+1) c (x.Gw++[t])))::L) w:=by
 have h1:St M W (_::K::Cj ((DW x).eraseIdx 0) :: .row (.slice A (x.tn+1) c) 81 2 (x.tn+1) ((x.Gw++[t]).flatMap RQ)::Mx t::L) w:=(h.Fj (k:=0) rfl).swp
 have h2:=St.FV (R:=DW x) (k:=0) _ (by show 0<11;decide) (h1.tail.perm (.cons _ (List.Perm.swap _ _ _)))
 have h3:=St.Fj (R:=(DW x).set 0 (.row (.slice A (x.tn+1) c) 81 2 (x.tn+1) ((x.Gw++[t]).flatMap RQ))) (k:=9) rfl h2
 have h4:=Wd (h3.perm ((List.perm_middle (l₁:=[_,_,_])).trans (.cons _ (List.Perm.swap _ _ _))).symm)
 have h5:=St.FV (R:=(DW x).set 0 (.row (.slice A (x.tn+1) c) 81 2 (x.tn+1) ((x.Gw++[t]).flatMap RQ))) (k:=9) _ (by show 9<11;decide) h4.swp
 have h6:DW (x.Qe A (x.tn+1) c (x.Gw++[t]))=(((DW x).set 0 (.row (.slice A (x.tn+1) c) 81 2 (x.tn+1) ((x.Gw++[t]).flatMap RQ))).set 9 (Cj (x.Gw.map Mx++[Mx t]))):=by
  unfold DW Aw.Qe
  dsimp only
  rw [List.map_append]
  rfl
 rw [h6]
 exact h5
theorem Ub (x:Aw) {b:Nat} (hb:x.b=b) (A:Option Addr) (n c:Nat) (fs:List Fd) (len:Int) (htn:x.tn<=255) (W:World) (hE:Sl W W.heap.size 2 A n c (cl QV fs)) (ha:U4 A (Ak (Al x))) (hst:St (Ak (Al x)) W (Al x) W) :
  Calls Tryz.prog 14 #[.pointer (some ⟨b,9,none⟩),QY len A n c] W
  fun en w' => ∃i:RgI,en = .returned (rgV i)/\RgR x len fs i/\St (Ak (Al x)) W (Al i.y) w':=by
 subst hb
 have htl:=Aw.tyl hst
 have hln:fs.length=n:=Iy FF (by omega) hE.len
 obtain ⟨M,hM⟩:∃M,Ak (Al x)=M:=⟨_,rfl⟩
 rw [hM] at hst ha ⊢
 clear hM
 unfold Al Du at hst
 refine Ab (M:=M) Tryz.func14 [.tmp 4,.tmp 5]  hst ?_
 refine AQ rfl fun K k0=>?_
 have zs:=Bd.mk AB8
 refine Ah ?_
 intro b3 hb3 hf3
 refine k0 _ _ ?_
 refine BF [1,2,0] (by decide) ?_
 simp only [Ag,nth]
 refine AB fun K k0=>?_
 refine AQ rfl fun K k1=>?_
 refine Ah ?_
 refine Aa (fun w hw=>Jy A n c fs len w (hE.u7 hw ha)) ?_
 try refine Ah ?_
 refine k1 _ _ ?_
 refine AV [0,3,6] fun G1 g1=>?_
 replace g1:=Bi g1
 have zg:=Bd.mk g1
 refine BH ?_
 refine AL ?_
 by_cases hck:I9 len fs=0
 case neg =>
  have hr:=ai len fs
  refine Ap hck ?_
  refine BH ?_
  refine AP (Br fun w hw=>?_)
  exact ⟨⟨0,I9 len fs,x⟩,rfl,⟨(by show 0<=I9 len fs/\I9 len fs<=29;omega),fun _=>rfl,fun h=>absurd h hck,fun h=>absurd h.1 hck,fun h=>absurd h hck⟩,hw.pick (ix:=[0,1]) (by decide)⟩
 have d0:decide (I9 len fs=0)=true:=decide_eq_true hck
 obtain ⟨c1,c2,c3,c4,c5,c6,c7⟩:=IB hck
 refine Ap d0 ?_
 refine AO (k0 _ _ ?_)
 refine AB fun K k0=>?_
 refine BH ?_
 refine AV [0,3,7] fun G2 g2=>?_
 replace g2:=Bg g2
 refine Ad ?_
 refine BP (fun F' L' => ∃(i:Nat),Az F' G2 [0,3]/\F' 7 = .int .i64 (i:Int)/\L'=[.blk x.b 65 [x.y0,x.y1,x.y2,x.y3,x.y4,x.y5,x.y6,x.y7,x.y8,.slice x.TA x.tn x.tc,.int .i64 x.N,.slice x.UA x.un x.uc,.pointer (some ⟨x.tb.tb,0,none⟩),.slice x.LA x.ln x.lc,.int .i64 x.lim.qb,.int .i64 x.lim.qo,.int .i64 x.lim.qr,.slice x.MA x.mn x.mc,.int .i64 x.cap,.slice x.EA x.en x.ec,.slice x.SA x.sn x.sc,.slice x.BA x.bn x.bc,.slice (some ⟨x.g,0,none⟩) 65 65],Cj (DW x),.blk b3 81 [.int .i64 len,.slice A n c]]/\i<=x.tn) (fun F' L'=>200000-(intOf (F' 7)).toNat) ?_ ?_
 ·refine ⟨0, ?_⟩
  replace zg:=Bd.mk g2
  refine AR ?_
  exact Nat.zero_le _
 intro G3 L' hI
 obtain ⟨i,zq,Lv,rfl,hin⟩:=hI
 replace zg:=Bd.mk g2
 have g3:=And.intro (Bg zq) Lv
 refine AB fun K k1=>?_
 replace zg:=Bd.mk (And.intro g2 g3)
 refine BH ?_
 refine Dl (fun hc=>?_) fun hc=>?_
 ·refine AO ?_
  try simp only [BJ,BX]
  have hit:i<x.tn:=by have:=of_decide_eq_true ‹decide ((i:Int)<(x.tn:Int))=true›;omega
  obtain ⟨t,ht⟩:∃t,x.Gw[i]? = some t:=⟨_,List.getElem?_eq_getElem (by omega)⟩
  refine k1 _ _ ?_
  refine FJ (fun w hw=>Aw.AHH (x:=x) hw (by omega)) ?_
  simp only [BD,BC,and_true]
  rintro ⟨g,hA,n1,n2⟩
  refine AB fun K k1=>?_
  refine Ad ?_
  refine AB fun K k2=>?_
  refine BR [(true,0),(true,1),(true,2),(true,3),(true,4),(true,5),(true,6),(true,7),(false,8)] [8] CB rfl (by kernel_rfl) (by kernel_rfl) rfl rfl ?_
  refine Ap hA ?_
  refine Aj ((fun w hw=>Aw.AHI (M:=M) (W:=W) (x:=x) (L:=[.blk b3 81 [.int .i64 len,.slice A n c]]) rfl hA ht (by rw [<-hA] at hw;exact hw))) ?_
  refine AR ?_
  refine Aa (fun w hw=>Uc t.A A t.n t.c n c t.fs fs t.len len w (Aw.sW (M:=M) (W:=W) (x:=x) (L:=[.blk b3 81 [.int .i64 len,.slice A n c]]) (by rw [<-hA] at hw;exact hw) (List.mem_of_getElem? ht)) (hE.u7 hw ha)) ?_
  try refine AR ?_
  refine k2 _ _ ?_
  rw [<-hA]
  refine AL ?_
  by_cases hs:t.len=len/\t.fs=fs
  ·rw [decide_eq_true hs]
   refine AR ?_
   refine BH ?_
   refine AP (Br fun w hw=>?_)
   exact ⟨⟨(i:Int)+1,0,x⟩,rfl,⟨(by decide:(0:Int)<=0/\(0:Int)<=29),fun _=>rfl,fun _=>⟨hck,by show 1<=(i:Int)+1;omega⟩,fun h=>by have:(i:Int)+1=x.tn+1:=h.2.2;omega,fun _=>by show (i:Int)+1<=x.tn+1;omega⟩,hw.pick (ix:=[0,1]) (by decide)⟩
  rw [decide_eq_false hs]
  refine AR ?_
  refine AO (k1 _ _ ?_)
  refine AF rfl ?_
  refine AR ?_
  refine ⟨⟨i+1, ?_⟩, ?_⟩
  ·refine Ap @Int.natCast_add ?_
   omega
  ·simp only [intOf];omega
 refine BM (k0 _ _ ?_)
 refine AV [0,3] fun G4 g4=>?_
 replace g4:=Bg g4
 refine AB fun K k0=>?_
 replace zg:=Bd.mk (And.intro g2 (And.intro g3 g4))
 refine BH ?_
 refine AL ?_
 by_cases AKD:x.tn=255
 ·have d1:decide ((x.tn:Int)≥255)=true:=decide_eq_true (by omega)
  refine Ap d1 ?_
  refine BH ?_
  refine AP (Br fun w hw=>?_)
  have h40:¬(4:Int)=0:=by decide
  exact ⟨⟨0,4,x⟩,rfl,⟨(by decide:(0:Int)<=4/\(4:Int)<=29),fun _=>rfl,fun h=>absurd h h40,fun h=>absurd h.2.1 h40,fun h=>absurd h h40⟩,hw.pick (ix:=[0,1]) (by decide)⟩
 have d1:decide ((x.tn:Int)≥255)=false:=decide_eq_false (by omega)
 refine Ap d1 ?_
 refine AO (k0 _ _ ?_)
 refine AV [0,3] fun G5 g5=>?_
 replace g5:=Bg g5
 refine AB fun K k0=>?_
 refine A9 (fun _ _=>True) (fun F' L' => ∃(A2 A4:Option Addr) (c2 c4:Nat),F' 0=G5 0/\L'=[.blk x.b 65 [x.y0,x.y1,x.y2,x.y3,x.y4,x.y5,x.y6,x.y7,x.y8,.slice A4 (x.tn+1) c4,.int .i64 x.N,.slice x.UA x.un x.uc,.pointer (some ⟨x.tb.tb,0,none⟩),.slice x.LA x.ln x.lc,.int .i64 x.lim.qb,.int .i64 x.lim.qo,.int .i64 x.lim.qr,.slice x.MA x.mn x.mc,.int .i64 x.cap,.slice x.EA x.en x.ec,.slice x.SA x.sn x.sc,.slice x.BA x.bn x.bc,.slice (some ⟨x.g,0,none⟩) 65 65],Cj (DW x),.row (.slice A4 (x.tn+1) c4) 81 2 (x.tn+1) (x.Gw.flatMap RQ++[.int .i64 len,.slice A2 n c2]),.row (.slice A2 n c2) 126 2 n (cl QV fs)]) ?_ ?_
 ·refine E9 [0,2] (by decide) (by simp only [Ag,nth,Be,Bv,List.mem_cons,true_or,or_true,and_true,eq_self]) (.rd 0 (.rd 2 (.rd 3 (.rd 4 (.rd 5 (.rd 7 (.rd 8 (.rd 10 (.rd 11 (.more 1 (.more 6 (.act 9 (.act 12 (.rd 13 (.act 14 (.act 15 (.rd 16 (.rd 17 (.act 18 (.done))))))))) (.act 9 (.act 6 (.act 12 (.rd 13 (.act 14 (.act 15 (.rd 16 (.rd 17 (.act 18 (.done))))))))))) (.act 9 (.act 1 (.act 6 (.act 12 (.rd 13 (.act 14 (.act 15 (.rd 16 (.rd 17 (.act 18 (.done))))))))))))))))))))) [18] CB rfl (by kernel_rfl) (by kernel_rfl) (by kernel_rfl) (by kernel_rfl) ?_
  simp only [Ag,nth]
  replace zg:=Bd.mk (And.intro g2 (And.intro g3 g5))
  refine AR ?_
  refine And.intro ?_ ?_
  ·intro b40 rM AHL
   refine And.intro ?_ ?_
   ·refine CR 0 TG rfl rfl (fun w hw=>Aw.tK (M:=M) (W:=W) (x:=x) (L:=[.blk b3 81 [.int .i64 len,.slice A n c]]) hw.tail) (Qc _) (by omega) (by omega) ?_
    intro A5 c5' hl5 hr5
    refine Ap (And.intro @Nat.zero_add @List.nil_append.{0}) ?_
    intro b48 hb48 AB_
    refine CR 0 iJ rfl rfl (fun w hw=>(hE.u7 hw ha).reads) (Qd _) (by omega) (by omega) ?_
    intro A2 c2' hl2 hr2
    refine Ap (And.intro @Nat.zero_add @List.nil_append.{0}) ?_
    intro b53 mH ACA
    refine Bj 2 TG rfl (fun w hw=>Bp (size:=2) (AZ (k:=0) rfl) rfl hw) rfl (by omega) (by omega) ?_
    intro A4 c4' hl4 hr4
    refine AR ?_
    refine ⟨[3,4,0,2],by decide, ?_⟩
    simp only [Ag,nth]
    exact ⟨A2,A4,c2',c4',rfl⟩
   ·intro b48 hb48 AB_
    refine CR 1 TG rfl rfl (fun w hw=>Aw.tK (M:=M) (W:=W) (x:=x) (L:=[.blk b3 81 [.int .i64 len,.slice A n c]]) hw.tail.tail) (Qc _) (by omega) (by omega) ?_
    intro A5 c5' hl5 hr5
    refine Ap (And.intro @Nat.zero_add @List.nil_append.{0}) ?_
    refine CR 1 iJ rfl rfl (fun w hw=>(hE.u7 hw ha).reads) (Qd _) (by omega) (by omega) ?_
    intro A2 c2' hl2 hr2
    refine Ap (And.intro @Nat.zero_add @List.nil_append.{0}) ?_
    intro b53 mH ACA
    refine Bj 2 TG rfl (fun w hw=>Bp (size:=2) (AZ (k:=0) rfl) rfl hw) rfl (by omega) (by omega) ?_
    intro A4 c4' hl4 hr4
    refine AR ?_
    refine ⟨[3,4,0,2],by decide, ?_⟩
    simp only [Ag,nth]
    exact ⟨A2,A4,c2',c4',rfl⟩
  ·intro b48 hb48 AB_
   intro b40 rM AHL
   refine CR 0 TG rfl rfl (fun w hw=>Aw.tK (M:=M) (W:=W) (x:=x) (L:=[.blk b3 81 [.int .i64 len,.slice A n c]]) hw.tail.tail) (Qc _) (by omega) (by omega) ?_
   intro A5 c5' hl5 hr5
   refine Ap (And.intro @Nat.zero_add @List.nil_append.{0}) ?_
   refine CR 1 iJ rfl rfl (fun w hw=>(hE.u7 hw ha).reads) (Qd _) (by omega) (by omega) ?_
   intro A2 c2' hl2 hr2
   refine Ap (And.intro @Nat.zero_add @List.nil_append.{0}) ?_
   intro b53 mH ACA
   refine Bj 2 TG rfl (fun w hw=>Bp (size:=2) (AZ (k:=0) rfl) rfl hw) rfl (by omega) (by omega) ?_
   intro A4 c4' hl4 hr4
   refine AR ?_
   refine ⟨[3,4,0,2],by decide, ?_⟩
   simp only [Ag,nth]
   exact ⟨A2,A4,c2',c4',rfl⟩
 intro G6 L' _ hF
 obtain ⟨A2,A4,c2,c4,Vz,rfl⟩:=hF
 replace zg:=Bd.mk g5
 have g6:=Bg Vz
 refine k0 _ _ ?_
 obtain ⟨t0,ht0⟩:∃t0:U7,(⟨len,A2,n,c2,fs⟩:U7)=t0:=⟨_,rfl⟩
 obtain ⟨x1,hx1⟩:∃x1,x.Qe A4 (x.tn+1) c4 (x.Gw++[t0])=x1:=⟨_,rfl⟩
 have hb1:x1.b=x.b:=by rw [<-hx1];rfl
 have hn1:x1.tn=x.tn+1:=by rw [<-hx1];rfl
 refine Cq (Al x1) (fun w hw=>by
  have h1:x.Gw.flatMap RQ++[.int .i64 len,.slice A2 n c2]=(x.Gw++[t0]).flatMap RQ:=by rw [List.flatMap_append,<-ht0];rfl
  have h2:Ai.row (.slice A2 n c2) 126 2 n (cl QV fs)=Mx t0:=by rw [<-ht0];rfl
  rw [h1,h2] at hw
  have h3:=Aw.cly (t:=t0) hw
  have h4:Al x1=[Du (x.Qe A4 (x.tn+1) c4 (x.Gw++[t0])),Cj (DW (x.Qe A4 (x.tn+1) c4 (x.Gw++[t0])))]:=by rw [hx1];rfl
  rw [h4]
  exact h3) ?_
 unfold Al
 rw [Am hb1]
 replace zg:=Bd.mk (And.intro g2 (And.intro g3 g6))
 refine FP (And.intro hn1 @Int.natCast_add) ?_
 refine AP (Br fun w hw=>?_)
 refine ⟨⟨(x.tn:Int)+1,0,x1⟩,rfl,⟨(by decide:(0:Int)<=0/\(0:Int)<=29),fun h=>absurd ⟨hck,rfl,rfl⟩ h,fun _=>⟨hck,by show 1<=(x.tn:Int)+1;omega⟩,fun _=>⟨by omega,A4,c4,t0,by rw [<-ht0],by rw [<-ht0],hx1.symm⟩,fun _=>by show (x.tn:Int)+1<=x.tn+1;omega⟩, ?_⟩
 show St M W (Al x1) w
 unfold Al
 rw [Am hb1,hn1]
 exact hw
end Go.Proofs.YtegonkdandmolaaGreat
