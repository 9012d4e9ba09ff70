import Derived.Test.YtnkgiaimcpbhkaaGreatDells10
import Derived.Test.YtnkgiaimcpbhkaaGreatDells4
import Derived.Test.YtnkgiaimcpbhkaaGreatDells5
import Derived.Test.YtnkgiaimcpbhkaaGreatDells2
import Derived.Lib.AppendZerosOnto
import Derived.Lib.AppendZeros
set_option linter.all false
set_option maxRecDepth 100000
set_option maxHeartbeats 4000000
open List renaming length_append→Ag,nil_append→AR,replicate→Ah,length_take→Al,cons_append→Ad,map_cons→BJ,length_singleton→BI,length_set→Bt,map_nil→ASW
open Array renaming toList_append→ATk,size_append→ATq
open Bool renaming false→ο,true→τ
open Go.Ending renaming returned→κ
open Go.IntKind renaming i64→ζ,u32→χ,u64→υ
open Option renaming none→ν,some→σ
open Go.Value renaming bool→θ,int→ε,pointer→π,slice→ξ
namespace Go.Proofs.YtnkgiaimcpbhkaaGreat
open Tryz renaming prog→AGm
open Go.RowKit Go.Shelf
structure LH(w:World)(D:Nat->Prop)(m:Ei):Prop where
 ts:Sd w D 2 m.TA m.tn m.tc (cl O8 m.ts)
 ty:∀t∈m.ts,Sd w D 2 t.A t.n t.c (cl NR t.fs)
 gs:Sd w D 4 m.FA m.fn m.fc (cl jw m.gs)
 fn:∀g∈m.gs,Sd w D 2 g.A g.n g.c (cl J_ g.code)
 arg:∀g∈m.gs,∀i∈g.code,i.arg<18446744073709551616
structure Good(m:Ei):Prop where
 ts:m.ts.length=3
 ty:∀t∈m.ts,Ho t.len t.fs=0
 g1:1<=m.gs.length
 g2:m.gs.length<=2
 gs:∀(j:Nat) (g:Gc),m.gs[j]?=σ g->(0<=g.p/\g.p<=1/\0<=g.r/\g.r<=1/\0<=g.l/\g.l<=3)/\(j=0->g.p=0/\g.r=0)/\1<=g.code.length/\g.code.length<=200∧∀i∈g.code,P9 i
section
variable{w w' W v:World}{D D':Nat->Prop}{m:Ei}{M:List Nat}{L:List DW}{foot:List Nat}
theorem LH.same(h:LH w D m)(hs:∀y,D y->w'.heap[y]?=w.heap[y]?)(hD:∀y,D y->D' y):LH w' D' m :=
 ⟨h.ts.same hs hD,λt ht=>(h.ty t ht).same hs hD,h.gs.same hs hD,λg hg=>(h.fn g hg).same hs hD,h.arg⟩
theorem LH.mono(h:LH w D m)(hD:∀y,D y->D' y):LH w D' m:=h.same (λ_ _=>rfl) hD
theorem LH.mod{B}(h:LH w D m)(hD:∀y,D y->y<B):Mod w B m :=
 ⟨h.ts.sl hD,λt ht=>(h.ty t ht).sl hD,h.gs.sl hD,λg hg=>(h.fn g hg).sl hD,h.arg⟩
theorem LH.at(h:LH v (Dm M W foot) m)(hw:St M W L w)k(hk:nth L k=σ (snap M W v foot)):Mod w w.heap.size m :=
 (h.same (hw.KX (DN hk)) λb hb=>hw.Zk (DN hk) b hb).mod λ_ h=>h
end
theorem Uz:∀ {ts:List QU},(∀t∈ts,Ho t.len t.fs=0)->firstT ts=0
 |[],_=>rfl
 |t::r,h=>by rw[RJ r (h t AUq),Uz λu hu=>h u (by simp[hu])]
theorem U0:∀ {k:Nat} {l:List Ins},(∀x∈l,x.err=0)->(Kj k l).1=0
 |_,[],_=>rfl
 |k,x::r,h=>by rw[RL r (h x AUq)];exact U0 λu hu=>h u (by simp[hu])
theorem U1:∀ {i:Nat} {l:List Gc},(∀(j:Nat) (g:Gc),l[j]?=σ g->(Mi (i+j) g).1=0)->JE i l=Hl
 |_,[],_=>rfl
 | i,f::r,h=>by
  rw[RN r (by have:=h 0 f rfl;rwa[Cg]at this)];exact U1 λj g hj=>by
   have:=h (j+1) g AWD;rwa[show i+(j+1)=i+1+j by omega]at this
theorem Good.Ho{m}(h:Good m):Gx m=Hl:=by
 have hP:XK m=0:=by
  unfold XK;rw[ATt (by have:=h.ts;omega),ATv (Uz h.ty),ATt (by have:=h.g1;omega),ATt (by have:=h.g2;omega)]
 unfold Gx;rw[ATv hP];refine U1 λj g hj=>?_;obtain⟨⟨p0,p1,r0,r1,l0,l1⟩,hz,c1,c2,hc⟩:=h.gs j g hj;rw[Ao];have hf:Lp (j:Int) g=0:=by
  unfold Lp;rw[ATt AL,ATt AL,ATt (by rintro⟨h0,h1⟩;have:=hz AL;omega),ATt AL,ATt AL]
 unfold Mi;rw[ATv hf,ATv (U0 λx hx=>(hc x hx).1)];rfl
theorem Ou{α:Type}(f:α->List Nat)(B:Nat):∀(l:List α),(∀x∈l,(f x).length<=B)->(l.flatMap f).length<=B*l.length
 |[],_=>by simp
 | x::l,h=>by
  have h1:=h x AUq;have h2:=Ou f B l λy hy=>h y AWo;rw[BK,Ag,Av,Nat.mul_succ];omega
theorem Good.len{m}(h:Good m):(P8 m).length<=65536:=by
 have h1:=Ou P7 198 m.ts λt ht=>(dV (h.ty t ht)).1;have h2:=Ou Qt 3000 m.gs λg hg=>by
  obtain⟨j,hj⟩:=List.mem_iff_getElem?.1 hg;obtain⟨⟨p0,p1,r0,r1,l0,l1⟩,hz,c1,c2,hc⟩:=h.gs j g hj;have h3:=Ou encI 11 g.code λx hx=>jI (hc x hx).2;have q1:=El (n:=g.p.toNat) AL;have q2:=El (n:=g.r.toNat) AL;have q3:=El (n:=g.l.toNat) AL;have q4:=El (n:=g.code.length) AL;unfold Qt;simp only[BK,ASF,Ag,Bf];omega
 have q1:=El (n:=m.ts.length) (by have:=h.ts;omega);have q2:=El (n:=m.gs.length) (by have:=h.g2;omega);have h3:=h.ts;have h4:=h.g2;unfold P8;simp only[Ag,JH,Av,Bf];rw[h3]at h1;omega
theorem Good.err{m}(h:Good m):S_ m=0/\NN m=P8 m:=qH (by rw[h.Ho];rfl) (by have:=h.len;omega)
def AIF:=AO (AO (AO @LZ.eq_1 @G_.eq_1) (AO @Xx.eq_1 @Ub.eq_1)) (AO (AO @PE.eq_1 @I7.eq_1) (AO @tape.eq_1 (AO @Ac @cS)))
theorem uT b A n c l i W(hW:W.heap[b]?=σ (.cells (tape A n c i).toArray 122 (0,0)))(hE:Sl W W.heap.size 1 A n c (Ic l))(ha:0<n->TJ A [b])(hl:∀x∈l,x<65536)(hi:i<=700000):
  Calls AGm 54 #[π (σ ⟨b,0,ν⟩)] W (λe w' => ∃p:(Nat×List QU)×Nat,e=κ (ξ (σ ⟨p.1.1,0,ν⟩) 3 3) ∧
   (Sd w' (Nw W w') 2 (σ ⟨p.1.1,0,ν⟩) 3 3 (cl O8 p.1.2)/\(∀t∈p.1.2,Sd w' (Nw W w') 2 t.A t.n t.c (cl NR t.fs)/\Ho t.len t.fs=0)/\p.1.2.length=3/\p.2<=i+40)/\w'.heap[b]?=σ (.cells (tape A n c p.2).toArray 122 (0,0))/\Ii [b] W w'):=by
 have t1:=WA l i;obtain⟨i1,hi1⟩:∃j,(He l i).2.2=j:=⟨_,rfl⟩;have t2:=WA l i1;obtain⟨i2,hi2⟩:∃j,(He l i1).2.2=j:=⟨_,rfl⟩;have t3:=WA l i2;obtain⟨i3,hi3⟩:∃j,(He l i2).2.2=j:=⟨_,rfl⟩;rw[hi1]at t1;rw[hi2]at t2;rw[hi3]at t3;refine DL (M:=[b]) Tryz.func54 [.tmp 2]  (St.one hW) ?_;have zs:=Bd.mk AIF;refine DZ ?_;refine C9 rfl λK k0=>DR ?_;refine Lv 0 (λw hw=>TY b A n c l i w (hw.hold 0 rfl) (hE.Gq hw ha) ha hl AL) rfl ?_;rw[hi1];intro A1 n1 c1 hl1 hr1;refine DR ?_;refine Lv 1 (λw hw=>TY b A n c l i1 w (hw.hold 1 rfl) (hE.Gq hw ha) ha hl AL) rfl ?_;rw[hi2];intro A2 n2 c2 hl2 hr2;refine DR ?_;refine Lv 2 (λw hw=>TY b A n c l i2 w (hw.hold 2 rfl) (hE.Gq hw ha) ha hl AL) rfl ?_;rw[hi3];intro A3 n3 c3 hl3 hr3;refine DR ?_;intro b9 vT h9;refine k0 _ _ (C8 (Eg λw hw=>?_));refine⟨((b9,[⟨(He l i).1,A1,n1,c1,(He l i).2.1⟩,⟨(He l i1).1,A2,n2,c2,(He l i1).2.1⟩,⟨(He l i2).1,A3,n3,c3,(He l i2).2.1⟩]),i3),rfl,⟨?_,?_,rfl,by dsimp only;omega⟩,hw.hold 4 rfl,hw.ES⟩
 ·exact⟨rfl,by omega,by omega,λ_=>⟨_,_,rfl,⟨vT,(hw.own _ (.head _) b9 AUp).2⟩,λj v hv=>by rw[Ao,hw.Gd (.head _)];exact hv⟩⟩
 ·intro t ht;simp only[AP,Ae,AT7]at ht;rcases ht with rfl|rfl|rfl
  ·exact⟨Sd.Ta (hw.tail.tail.tail.H6 AUp),t1.1⟩
  ·exact⟨Sd.Ta (hw.tail.tail.H6 AUp),t2.1⟩
  ·exact⟨Sd.Ta (hw.tail.H6 AUp),t3.1⟩
theorem mQ{W w b}(h:Ii [b] W w)(hb:w.heap[b]?=W.heap[b]?):Below W.heap.size W w :=
 ⟨h.os,h.tape,h.output,h.size,λk hk=>by
  by_cases e:k=b
  ·subst e;exact hb
  ·exact h.block k hk (by simpa using e)⟩
theorem jJ b A n c i W(hW:W.heap[b]?=σ (.cells (tape A n c i).toArray 122 (0,0))):
  Calls AGm 32 #[π (σ ⟨b,0,ν⟩)] W (λe w'=>(∃r:Bool,e=κ (θ r)/\True)/\Below W.heap.size W w'):=by
 refine DL (M:=[b]) Tryz.func32 [.tmp 2]  (St.one hW) ?_;have zs:=Bd.mk AIF;refine DZ ?_;refine Cw λK k0=>EB [(τ,0),(τ,1),(τ,2),(τ,3),(τ,4),(τ,5),(τ,6),(τ,7),(τ,8),(τ,9),(τ,10)] [] ?_;refine DR (k0 _ _ ?_);refine C8 (Eg λw hw=>?_);have:=mQ hw.ES ((hw.hold 0 rfl).trans hW.symm);exact⟨⟨_,rfl,trivial⟩,this⟩
theorem AAK{q}(h:q<6):∃op:Int,([ε ζ 24,ε ζ 22,ε ζ 19,ε ζ 25,ε ζ 25,ε ζ 25]:List Value)[q]?=σ (ε ζ op)/\Jf op:=by
 have:q=0\/q=1\/q=2\/q=3\/q=4\/q=5:=by omega
 rcases this with rfl|rfl|rfl|rfl|rfl|rfl
 ·exact⟨24,rfl,by decide⟩
 ·exact⟨22,rfl,by decide⟩
 ·exact⟨19,rfl,by decide⟩
 ·exact⟨25,rfl,by decide⟩
 ·exact⟨25,rfl,by decide⟩
 ·exact⟨25,rfl,by decide⟩
theorem AAL{n}(h:n<18446744073709551616):∀i∈([⟨2,0⟩,⟨1,n⟩,⟨6,0⟩]:List Ins),P9 i:=by
 intro i hi;simp only[AP,Ae,AT7]at hi;rcases hi with rfl|rfl|rfl
 ·exact AWm
 ·exact⟨rfl,h⟩
 ·exact AWm
theorem AFo{n}(h:n<18446744073709551616):∀i∈([⟨2,0⟩,⟨1,n⟩,⟨6,0⟩,⟨21,1⟩]:List Ins),P9 i:=by
 intro i hi;have:i∈([⟨2,0⟩,⟨1,n⟩,⟨6,0⟩]:List Ins)\/i=⟨21,1⟩:=by
  simp only[AP,Ae,AT7]at hi ⊢;rcases hi with h|h|h|h<;>simp[h]
 rcases this with h2|rfl
 ·exact AAL h i h2
 ·exact AWm
theorem XZ{W v w f x j A c tb ts gs R n}
  (hw:St [x.tb] W (snap [x.tb] W v f :: .row (ξ A n c) 169 4 n (cl jw gs)::M9 x j::R) w)
  (hT:Sd v (λy=>y∈f) 2 (σ ⟨tb,0,ν⟩) 3 3 (cl O8 ts)) (hTy:∀t∈ts,Sd v (λy=>y∈f) 2 t.A t.n t.c (cl NR t.fs)) (hC:∀g∈gs,Sd v (λy=>y∈f) 2 g.A g.n g.c (cl J_ g.code)) (hok:∀g∈gs,∀i∈g.code,P9 i):
  LH w (Nw W w) ⟨σ ⟨tb,0,ν⟩,3,3,ts,A,n,c,gs⟩:=by
 have hnew:=hw.Zl 0 rfl λm hm=>⟨2,_,rfl,by simpa [M9,DW.foot]using hm,by omega⟩;have hs:=hw.KX (.head _);refine⟨hT.same (λy hy=>hs y (.inl hy)) hnew,λt ht=>(hTy t ht).same (λy hy=>hs y (.inl hy)) hnew,Sd.Ta (hw.tail.H6 λm hm=>⟨_,.head _,by simpa [M9,DW.foot]using hm⟩),λg hg=>(hC g hg).same (λy hy=>hs y (.inl hy)) hnew,λg hg i hi=>(hok g hg i hi).2⟩
theorem jK{W v w f x j A A7}{c c7 tb q3:Nat}{ts}{s2:ZN}{cs R}
  (hw:St [x.tb] W (snap [x.tb] W v f :: .row (ξ A 2 c) 169 4 2 [Value.int IntKind.i64 0,Value.int IntKind.i64 0,Value.int IntKind.i64 x.loc,Value.slice s2.A s2.n s2.c,Value.int IntKind.i64 1,Value.int IntKind.i64 1,Value.int IntKind.i64 q3,Value.slice A7 (cs.length+1) c7]::M9 x j::R) w)
  (hT:Sd v (λy=>y∈f) 2 (σ ⟨tb,0,ν⟩) 3 3 (cl O8 ts)) (hTy:∀t∈ts,Sd v (λy=>y∈f) 2 t.A t.n t.c (cl NR t.fs)) (hC:Sd v (λy=>y∈f) 2 s2.A s2.n s2.c (cl J_ s2.code)) (hB:Sd v (λy=>y∈f) 2 A7 (cs.length+1) c7 (cl J_ (cs++[⟨22,0⟩])))
  (hTc:∀t∈ts,Ho t.len t.fs=0) (ht3:ts.length=3) (hok:∀i∈s2.code,P9 i) (h1:1<=s2.code.length) (h2:s2.code.length<=200) (hl:x.loc<=3) (hcs:∀i∈cs,P9 i) (h3:3<=cs.length) (h4:cs.length<=4) (hq:q3<3) (hll:1<=x.loc):
  ∃p:Ei×Nat,Ending.returned (.agg #[ξ (σ ⟨tb,0,ν⟩) 3 3,ξ A 2 c])=κ (Ie p.1)/\(LH w (Nw W w) p.1/\Good p.1)/\w.heap[x.tb]?=σ (.cells (tape x.TA x.tn x.tc p.2).toArray 122 (0,0))/\Ii [x.tb] W w:=by
 have hB':∀i∈cs++[(⟨22,0⟩:Ins)],P9 i:=λi hi=>by
  rcases AV.1 hi with hi|hi
  ·exact hcs i hi
  ·obtain rfl:i=⟨22,0⟩:=by simpa using hi
   exact AWm
 refine⟨(⟨σ ⟨tb,0,ν⟩,3,3,ts,A,2,c,[⟨0,0,x.loc,s2.A,s2.n,s2.c,s2.code⟩,⟨1,1,q3,A7,cs.length+1,c7,cs++[⟨22,0⟩]⟩]⟩,j),rfl,⟨XZ (x:=x) (j:=j) (gs:=[⟨0,0,x.loc,s2.A,s2.n,s2.c,s2.code⟩,⟨1,1,q3,A7,cs.length+1,c7,cs++[⟨22,0⟩]⟩]) hw hT hTy ?_ ?_,?_⟩,hw.hold 2 rfl,hw.ES⟩
 ·intro g hg;simp only[AP,Ae,AT7]at hg;rcases hg with rfl|rfl
  ·exact hC
  ·exact hB
 ·intro g hg;simp only[AP,Ae,AT7]at hg;rcases hg with rfl|rfl
  ·exact hok
  ·exact hB'
 refine⟨ht3,hTc,by simp,by simp,λq g hg=>?_⟩;rcases q with _|_|q
 ·obtain rfl:⟨0,0,x.loc,s2.A,s2.n,s2.c,s2.code⟩=g:=by simpa using hg
  dsimp only;exact⟨by omega,λ_=>⟨rfl,rfl⟩,by omega,by omega,hok⟩
 ·obtain rfl:⟨1,1,q3,A7,cs.length+1,c7,cs++[⟨22,0⟩]⟩=g:=by simpa using hg
  dsimp only;rw[Ag,BI];exact⟨by omega,λh=>by omega,by omega,by omega,hB'⟩
 ·simp at hg
def AFp:=AO (AO (AO @LZ.eq_1 (AO @G_.eq_1 @Xx.eq_1)) (AO @Ub.eq_1 (AO @PE.eq_1 @I7.eq_1))) (AO (AO @tape.eq_1 (AO @Ac @cS)) (AO (AO @Qv.eq_1 @M9.eq_1) (AO @vU.eq_1 @cT)))
theorem jL(fg:Nat)(hfg:fg<4294967296)b A n c l(i most:Nat)W(hW:W.heap[b]?=σ (.cells (tape A n c i).toArray 122 (0,0)))(hE:Sl W W.heap.size 1 A n c (Ic l))(ha:0<n->TJ A [b])(hl:∀x∈l,x<65536)(hi:i<=500000)(hm:most<=10):
  Calls AGm 31 #[π (σ ⟨b,0,ν⟩),ε χ (fg:Int),ε ζ (most:Int)] W (λe w' => ∃p:Ei×Nat,e=κ (Ie p.1)/\(LH w' (Nw W w') p.1/\Good p.1)/\w'.heap[b]?=σ (.cells (tape A n c p.2).toArray 122 (0,0))/\Ii [b] W w'):=by
 obtain⟨E,hEe⟩:∃E:Nat->Prop,E=λy=>y<W.heap.size/\y≠b:=⟨_,rfl⟩;have HV:∀y,(λ_:Nat=>False) y\/E y->y<W.heap.size/\y∉[b]:=λy hy=>by
  subst hEe;rcases hy with hy|hy
  ·exact hy.elim
  ·exact⟨hy.1,by simpa using hy.2⟩
 have htp:Sd W E 1 A n c (Ic l):=by
  subst hEe;refine⟨hE.len,hE.cap,hE.max,λhn=>?_⟩;obtain⟨b0,off,e,hb,hc⟩:=hE.cells hn;exact⟨b0,off,e,⟨hb,by simpa using ha hn b0 off e⟩,hc⟩
 have hEb:∀y,E y->y≠b:=λy hy=>by subst hEe;exact hy.2
 refine ER (M:=[b]) (n:=89) [.cell 6 129] rfl Tryz.func31 rfl rfl (Am rfl)  (St.one hW) ?_;refine C9 rfl λK k0=>?_;have zs:=Bd.mk AFp;refine DR ?_;intro b6 hb6 h6;refine k0 _ _ (C9 rfl λK k0=>DR ?_);refine Ue 1 (λp:(Nat×List QU)×Nat=>ξ (σ ⟨p.1.1,0,ν⟩) 3 3) (λp w w'=>Sd w' (Nw w w') 2 (σ ⟨p.1.1,0,ν⟩) 3 3 (cl O8 p.1.2)/\(∀t∈p.1.2,Sd w' (Nw w w') 2 t.A t.n t.c (cl NR t.fs)/\Ho t.len t.fs=0)/\p.1.2.length=3/\p.2<=i+40) (λp=>tape A n c p.2) rfl (λw hw=>uT b A n c l i w (hw.hold 1 rfl) (hE.Gq hw ha) ha hl AL) ?_;rintro⟨⟨tb,ts⟩,i1⟩ w0 w1 f1 hw0 hw1 ⟨ht1,ht2,ht3,ht4⟩ hNw;dsimp only at *;have hT:Sd w1 (λy=>y∈f1) 2 (σ ⟨tb,0,ν⟩) 3 3 (cl O8 ts):=ht1.mono hNw;have hTy:∀t∈ts,Sd w1 (λy=>y∈f1) 2 t.A t.n t.c (cl NR t.fs):=λt ht=>(ht2 t ht).1.mono hNw;have hTc:∀t∈ts,Ho t.len t.fs=0:=λt ht=>(ht2 t ht).2;clear ht1 ht2 hNw hw0 hw1 w0;try simp -implicitDefEqProofs (disch:=first|omega|decide) only [seval,-Int.reducePow,-Nat.reducePow,cC,pv,D5,EH,undef,AFp]
 intro b7 fZ h7;try simp -implicitDefEqProofs (disch:=first|omega|decide) only [seval,-Int.reducePow,-Nat.reducePow,cC,pv,D5,EH,undef,AFp]
 refine k0 _ _ ?_;have q2:=EU (l:=l) (i:=i1) (m:=2) AL;have q3:=EU (l:=l) (i:=i1+1) (m:=3) AL;have e2:IntKind.i64.wrap (1+((D7 l i1 2:Nat):Int))=((1+D7 l i1 2:Nat):Int):=by rw[DT AL AL];omega
 have e3:IntKind.i64.wrap (1+((D7 l (i1+1) 3:Nat):Int))=((1+D7 l (i1+1) 3:Nat):Int):=by rw[DT AL AL];omega
 obtain⟨fns,ALQ⟩:∃q,1+D7 l i1 2=q:=⟨_,rfl⟩;obtain⟨loc,hloc⟩:∃q,1+D7 l (i1+1) 3=q:=⟨_,rfl⟩;rw[ALQ]at e2;rw[hloc]at e3;refine C9 rfl λK k0=>DR ?_;refine Dj 3 (λw hw=>EC b A n c l i1 2 w (hw.hold 3 rfl) (hE.Gq hw ha) ha hl AL AL) rfl ?_;try refine Ed e2 ?_
 refine k0 _ _ (C9 rfl λK k0=>DR ?_);refine Dj 3 (λw hw=>EC b A n c l (i1+1) 3 w (hw.hold 3 rfl) (hE.Gq hw ha) ha hl AL AL) rfl ?_;try refine Ed e3 ?_
 refine k0 _ _ (C9 rfl λK k0=>DR ?_);intro b28 AP0 h28;refine k0 _ _ (DC [0,2,6,7,8,9,10] λG1 g1=>?_);replace g1:=EK g1;refine Kt [0,4,1,2,3] AJ λv2 f2 hv2 hf2=>?_;simp only[Dl,nth];have AII:Sd v2 E 1 A n c (Ic l):=htp.same (λy hy=>hv2.ES.block y (HV y (.inr hy)).1 (HV y (.inr hy)).2) λ_ h=>h;obtain⟨x,hx⟩:∃x:Cx,x=⟨b28,b,A,n,c,l,loc,fns,fg⟩:=⟨_,rfl⟩;have x1:b28=x.b:=by rw[hx]
 have x2:b=x.tb:=by rw[hx]
 have x3:A=x.TA:=by rw[hx]
 have x4:n=x.tn:=by rw[hx]
 have x5:c=x.tc:=by rw[hx]
 have x6:l=x.l:=by rw[hx]
 have x7:loc=x.loc:=by rw[hx]
 have x8:fns=x.fns:=by rw[hx]
 have x9:x.first=fg:=by rw[hx]
 clear hx;subst x1 x2 x3 x4 x5 x6 x7 x8;obtain⟨s0,hs0⟩:∃s:ZN,s=⟨ν,0,0,[],ν,0,0,[]⟩:=⟨_,rfl⟩;have hD0:XY v2 (Dn (λ_=>False) f2) E x s0:=by subst hs0;exact⟨Sd.nil,Sd.nil,AII,by simp,by simp⟩
 have AFq:=hl;have hlc:1<=x.loc/\x.loc<=100:=by omega
 have hfi:x.first<4294967296:=by omega
 have ALR:s0.code.length=0/\s0.st.length=0:=by rw[hs0];exact⟨rfl,rfl⟩
 refine Ye (L':=[snap [x.tb] W v2 f2,Qv x s0,M9 x (i1+1+1),.blk b7 129 [ξ (σ ⟨tb,0,ν⟩) 3 3,ξ ν 0 0],snap [x.tb] W w1 f1,.blk b6 129 [ξ ν 0 0,ξ ν 0 0]]) (by rw[hs0];simp only[Qv,vU,x9];rfl) ?_;clear hs0;refine Cw λK k0=>?_;have zg:=Bd.mk g1;refine Db ?_;refine DC [0,2,6,7,8,9,10,11] λG2 g2=>?_;replace g2:=Dy g2;refine DK ?_;refine Dv (λF' L' => ∃(k:Nat)(s:ZN)(j:Nat)(v:World)(f:List Nat),EH F' G2 [0,2,6,7,8,9,10]/\F' 11=ε ζ (k:Int)/\L'=[snap [x.tb] W v f,Qv x s,M9 x j,.blk b7 129 [ξ (σ ⟨tb,0,ν⟩) 3 3,ξ ν 0 0],snap [x.tb] W w1 f1,.blk b6 129 [ξ ν 0 0,ξ ν 0 0]]/\XY v (Dn (λ_=>False) f) E x s/\s.code.length<=12*k/\s.st.length<=k/\j<=i1+2+50*k/\k<=most) (λF' L'=>20-(intOf (F' 11)).toNat) ?_ ?_
 ·refine⟨0,s0,i1+1+1,v2,f2,?_⟩;replace zg:=Bd.mk g2;refine DD ?_;repeat' (first|with_reducible exact trivial|with_reducible rfl|omega|refine AO ?_ ?_)
  all_goals first|exact hD0|omega|skip
 intro G3 L' hI;obtain⟨k,s,j,v,f,zq,ag,rfl,⟨hD,hc1,hs1,hj1,hk1⟩⟩:=hI;replace zg:=Bd.mk g2;have g3:=AO (Dy zq) ag;refine Cw λK k1=>Cw λK k2=>?_;refine Df (λ_ _=>True) (λF' L' => ∃(r:Bool),EH F' G3 [0,2,6,7,8,9,10,11]/\F' 39=θ r/\L'=[snap [x.tb] W v f,Qv x s,M9 x j,.blk b7 129 [ξ (σ ⟨tb,0,ν⟩) 3 3,ξ ν 0 0],snap [x.tb] W w1 f1,.blk b6 129 [ξ ν 0 0,ξ ν 0 0]]/\(r=τ->k<most)) ?_ ?_
 ·by_cases hkm:k<most
  ·have hkd:decide ((k:Int)<(most:Int))=τ:=AUB AL;refine Cy rfl ?_;replace zg:=Bd.mk (AO g2 g3);refine DU hkd ?_;refine Ee (λr:Bool=>θ r) (λ_=>True) (λw hw=>jJ x.tb x.TA x.tn x.tc j w (hw.hold 2 rfl)) ?_;intro r _;cases r
   ·refine DU hkd ?_;exact⟨_,rfl,λ_=>hkm⟩
   ·refine DU hkd ?_;exact⟨_,rfl,λ_=>hkm⟩
  ·have hkd:decide ((k:Int)<(most:Int))=ο:=AUC AL;refine Cy rfl ?_;replace zg:=Bd.mk (AO g2 g3);refine DU hkd ?_;exact AWz
 intro G4 L' _ hF;obtain⟨r,zq,xx,rfl,hr⟩:=hF;replace zg:=Bd.mk g3;have g4:=AO (Dy zq) xx;refine k2 _ _ ?_;replace zg:=Bd.mk (AO g2 (AO g3 g4));refine Ec (λhc=>?_) λhc=>?_
 ·refine Cz (k1 _ _ (Cw λK k1=>DK (DJ rfl (DD ?_))));refine EO (x:=x) (s:=s) (i:=j) hD HV AFq hlc hfi (λw D hp=>a_ x D E s j w hp AL AL AL) ?_;intro s' j' v' f' hD' ka kb kc kd ke;refine DD (k1 _ _ ?_);refine Cy rfl (DU @DT ?_);refine⟨⟨k+1,s',j',v',f',?_⟩,?_⟩
  ·refine DU @Af ?_;repeat' (first|with_reducible exact trivial|with_reducible rfl|omega|refine AO ?_ ?_)
   all_goals (have:=hr hc;omega)
  ·exact AXo
 refine Dr (k0 _ _ (C9 rfl λK k0=>DD ?_));intro b9 vT h9;refine k0 _ _ (DC [0,6,7,8,9,10,12] λG5 g5=>?_);replace g5:=Dy g5;have ALS:=EU (l:=x.l) (i:=j) (m:=6) AL;obtain⟨op,hop,hkn⟩:=AAK ALS;refine C9 rfl λK k0=>?_;replace zg:=Bd.mk (AO g2 (AO g3 g5));refine DD ?_;refine Dj 3 (λw hw=>EC x.tb x.TA x.tn x.tc x.l j 6 w (hw.hold 3 rfl) (hD.tp HV hw 1 rfl) (hD.ay hEb) AFq AL AL) rfl ?_;try refine DD ?_
 refine DU hop ?_;refine KY [1,2,3,4,5,6] AJ ?_;simp only[Dl,nth];refine EO (x:=x) (s:=s) (i:=j+1) hD HV AFq hlc hfi (λw D hp=>KD x D E s (j+1) op 0 w hp hkn (.inr rfl) AL AL) ?_;intro s2 j2 v3 f3 hD2 ka kb kc kd ke;refine DD (k0 _ _ ?_);refine C9 rfl λK k0=>DD ?_;intro b58 AP1 h58;refine DD (k0 _ _ ?_);refine DC [0,6,7,8] λG6 g6=>?_;replace g6:=Dy g6;refine QJ 4 1 rfl AL (Kt [0,4,6,3] AJ λv4 f4 hv4 jo=>?_);simp only[Dl,nth];have hM4:∀m∈[x.tb],∃r∈Dl [0,4,6,3] [DW.row (ξ (σ ⟨b58,0,ν⟩) 1 1) 169 4 1 [Value.int IntKind.i64 0,Value.int IntKind.i64 0,Value.int IntKind.i64 x.loc,Value.slice s2.A s2.n s2.c],snap [x.tb] W v3 f3,Qv x s2,M9 x j2,.blk b7 129 [ξ (σ ⟨tb,0,ν⟩) 3 3,ξ (σ ⟨b58,0,ν⟩) 1 1],snap [x.tb] W w1 f1,.blk b6 129 [ξ ν 0 0,ξ ν 0 0]],m∈r.foot:=by simp[Dl,nth,DW.foot,M9]
 obtain⟨k1,k2⟩:=hv4.Ud jo 5 rfl AJ hM4;have k3:=hv4.Lm jo (k:=5) rfl AJ hM4;obtain⟨k4,k5⟩:=hv4.Ud jo 1 rfl AJ hM4;have k6:=hv4.Lm jo (k:=1) rfl AJ hM4;simp only[Iw]at k3 k6;have hT4:Sd v4 (λy=>y∈f4) 2 (σ ⟨tb,0,ν⟩) 3 3 (cl O8 ts):=hT.same (λy hy=>k1 y (.inl hy)) k3;have AFr:∀t∈ts,Sd v4 (λy=>y∈f4) 2 t.A t.n t.c (cl NR t.fs):=λt ht=>(hTy t ht).same (λy hy=>k1 y (.inl hy)) k3;have hC4:Sd v4 (λy=>y∈f4) 2 s2.A s2.n s2.c (cl J_ s2.code):=hD2.code.same (λy hy=>k4 y (.inl (hy.elim id False.elim))) λy hy=>k6 y (hy.elim id False.elim);have hok:=hD2.ok;have hn2:s2.code.length=s2.n:=GM Gw AL hC4.len;clear hM4 k1 k2 k3 k4 k5 k6 hv4 jo hT hTy hD0 hD2 AII hop hv2 hf2 ALR;refine Cw λK k0=>?_;replace zg:=Bd.mk (AO g2 (AO g3 g6));refine Db ?_;refine Ec (λhc=>?_) λhc=>?_
 ·have hn5:=EU (l:=x.l) (i:=j2) (m:=5) AL;have e5:=ax (D7 x.l j2 5) AL;refine C9 rfl λK k1=>DD ?_;refine Dj 4 (λw hw=>EC x.tb x.TA x.tn x.tc x.l j2 5 w (hw.hold 4 rfl) (hE.Gq hw ha) ha hl AL AL) rfl ?_;try refine DU e5 ?_
  intro b68 AP3 h68;refine k1 _ _ (DC [0,6,7,13] λG7 g7=>?_);replace g7:=Dy g7;refine QJ 2 3 rfl AL (Cw λK k1=>?_);refine Df (λ_ _=>True) (λF' L' => ∃(cs:List Ins)(A6:Option Addr)(c6:Nat),EH F' G7 [0,6,7]/\F' 13=ξ A6 cs.length c6/\L'=[.row (ξ A6 cs.length c6) 171 2 cs.length (cl J_ cs),snap [x.tb] W v4 f4,.row (ξ (σ ⟨b58,0,ν⟩) 1 1) 169 4 1 [Value.int IntKind.i64 0,Value.int IntKind.i64 0,Value.int IntKind.i64 x.loc,Value.slice s2.A s2.n s2.c],.blk b7 129 [ξ (σ ⟨tb,0,ν⟩) 3 3,ξ (σ ⟨b58,0,ν⟩) 1 1],.blk b6 129 [ξ ν 0 0,ξ ν 0 0],M9 x (j2+1+1)]/\(∀i∈cs,P9 i)/\3<=cs.length/\cs.length<=4) ?_ ?_
  ·refine C9 rfl λK k2=>?_;replace zg:=Bd.mk (AO g2 (AO g3 g7));refine DD ?_;refine Dj 5 (λw hw=>EC x.tb x.TA x.tn x.tc x.l (j2+1) 4 w (hw.hold 5 rfl) (hE.Gq hw ha) ha hl AL AL) rfl ?_;try refine DD ?_
   refine k2 _ _ ?_;refine Ec (λhc=>?_) λhc=>?_
   ·refine ED [0,2,3,4,5,6] AJ (DJ rfl (DD ?_));intro b74 AP4 h74;refine D6 1 PR rfl (λw hw=>D_ (size:=2) (.head _) rfl hw) rfl AL AL ?_;intro A6 c6 hl6 hr6;refine DD ?_;refine⟨[⟨2,0⟩,⟨1,D7 x.l j2 5⟩,⟨6,0⟩,⟨21,1⟩],A6,c6,?_⟩;exact⟨rfl,rfl,AFo AL,by simp,by simp⟩
   ·refine Cz ?_;try simp only[Di,Dq]
    (try refine⟨trivial,?_⟩)
    refine⟨[⟨2,0⟩,⟨1,D7 x.l j2 5⟩,⟨6,0⟩],σ ⟨b68,0,ν⟩,3,?_⟩;refine DD ?_;exact⟨rfl,by simpa using AAL (n:=D7 x.l j2 5) AL⟩
  intro G8 L' _ hF;obtain⟨cs,A6,c6,zq,AFd,rfl,⟨hcs,AP5,AP6⟩⟩:=hF;replace zg:=Bd.mk g7;have g8:=AO (Dy zq) AFd;refine k1 _ _ (K3 (oO [3] (.rd 0 (.rd 1 (.rd 2 (.rd 4 (.rd 5 (.alt 3 6 (.act 6 (.act 7 (.rd 8 (.act 9 (.act 10 (.rd 11 (.act 12 (.done)))))))) (.act 3 (.act 7 (.rd 8 (.act 9 (.act 10 (.rd 11 (.act 12 (.done)))))))))))))) [12] ?_));replace zg:=Bd.mk (AO g2 (AO g3 g8));refine DD ?_;have rq:=EU (l:=x.l) (i:=j2+1+1) (m:=3) AL;obtain⟨q3,hq3⟩:∃q,D7 x.l (j2+1+1) 3=q:=⟨_,rfl⟩;rw[hq3]at rq;refine⟨?_,?_⟩
  ·refine Dj 5 (λw hw=>EC x.tb x.TA x.tn x.tc x.l (j2+1+1) 3 w (hw.hold 5 rfl) (hE.Gq hw ha) ha hl AL AL) rfl ?_;try refine DU hq3 ?_
   intro b82 ALV h82;refine D6 1 PR rfl (λw hw=>D_ (size:=2) (.head _) rfl hw) rfl AL AL ?_;intro A7 c7 hl7 hr7;refine DD ?_;intro b85 ALX h85;refine D6 4 kL rfl (λw hw=>D_ (size:=4) (.head _) rfl hw) rfl AL AL ?_;intro A8 c8 vN hr8;refine DD ?_;refine⟨[0,4,2,5,6,7],by decide,?_⟩;simp only[Dl,nth];refine k0 _ _ (DC [6,7] λG9 g9=>?_);replace g9:=Dy g9;refine Kt [0,3,4,5] AJ λv5 f5 hv5 Uj=>?_;simp only[Dl,nth];have hM5:∀m∈[x.tb],∃r∈Dl [0,3,4,5] [DW.row (Value.slice A8 2 c8) 169 4 2 [Value.int IntKind.i64 0,Value.int IntKind.i64 0,Value.int IntKind.i64 x.loc,Value.slice s2.A s2.n s2.c,Value.int IntKind.i64 1,Value.int IntKind.i64 1,Value.int IntKind.i64 q3,Value.slice A7 (cs.length+1) c7],snap [x.tb] W v4 f4,DW.row (Value.slice A7 (cs.length+1) c7) 171 2 (cs.length+1) (cl J_ cs++[Value.int IntKind.i64 22,Value.int IntKind.u64 0]),.blk b7 129 [ξ (σ ⟨tb,0,ν⟩) 3 3,Value.slice A8 2 c8],.blk b6 129 [ξ ν 0 0,ξ ν 0 0],M9 x (j2+1+1+1)],m∈r.foot:=by simp[Dl,nth,DW.foot,M9]
   obtain⟨k1,k2⟩:=hv5.Ud Uj 1 rfl AJ hM5;have k3:=hv5.Lm Uj (k:=1) rfl AJ hM5;have k4:=hv5.Lm Uj (k:=2) rfl AJ hM5;simp only[Iw]at k3;have hT5:Sd v5 (λy=>y∈f5) 2 (σ ⟨tb,0,ν⟩) 3 3 (cl O8 ts):=hT4.same (λy hy=>k1 y (.inl hy)) k3;have AFs:∀t∈ts,Sd v5 (λy=>y∈f5) 2 t.A t.n t.c (cl NR t.fs):=λt ht=>(AFr t ht).same (λy hy=>k1 y (.inl hy)) k3;have hC5:Sd v5 (λy=>y∈f5) 2 s2.A s2.n s2.c (cl J_ s2.code):=hC4.same (λy hy=>k1 y (.inl hy)) k3;have hB5:Sd v5 (λy=>y∈f5) 2 A7 (cs.length+1) c7 (cl J_ (cs++[⟨22,0⟩])):=by
    rw[Kr];exact Sd.JA (hv5.holds _ (.tail _ (.tail _ (.head _)))) λg hg=>k4 g AU7
   clear hM5 k1 k2 k3 k4 hv5 Uj;refine DY [0,1,4,2,3] ?_;replace zg:=Bd.mk (AO g2 (AO g3 g9));refine Db ?_;refine C8 (FF ?_);intro w hw;exact jK hw hT5 AFs hC5 hB5 hTc ht3 hok AL AL AL hcs AL AL rq AL
  ·intro b82 ALV h82;refine Dj 6 (λw hw=>EC x.tb x.TA x.tn x.tc x.l (j2+1+1) 3 w (hw.hold 6 rfl) (hE.Gq hw ha) ha hl AL AL) rfl ?_;try refine DU hq3 ?_
   refine D6 1 PR rfl (λw hw=>D_ (size:=2) (.head _) rfl hw) rfl AL AL ?_;intro A7 c7 hl7 hr7;refine DD ?_;intro b85 ALX h85;refine D6 4 kL rfl (λw hw=>D_ (size:=4) (.head _) rfl hw) rfl AL AL ?_;intro A8 c8 vN hr8;refine DD ?_;refine⟨[0,4,2,5,6,7],by decide,?_⟩;simp only[Dl,nth];refine k0 _ _ (DC [6,7] λXo g10=>?_);replace g10:=Dy g10;refine Kt [0,3,4,5] AJ λv5 f5 hv5 Uj=>?_;simp only[Dl,nth];have hM5:∀m∈[x.tb],∃r∈Dl [0,3,4,5] [DW.row (Value.slice A8 2 c8) 169 4 2 [Value.int IntKind.i64 0,Value.int IntKind.i64 0,Value.int IntKind.i64 x.loc,Value.slice s2.A s2.n s2.c,Value.int IntKind.i64 1,Value.int IntKind.i64 1,Value.int IntKind.i64 q3,Value.slice A7 (cs.length+1) c7],snap [x.tb] W v4 f4,DW.row (Value.slice A7 (cs.length+1) c7) 171 2 (cs.length+1) (cl J_ cs++[Value.int IntKind.i64 22,Value.int IntKind.u64 0]),.blk b7 129 [ξ (σ ⟨tb,0,ν⟩) 3 3,Value.slice A8 2 c8],.blk b6 129 [ξ ν 0 0,ξ ν 0 0],M9 x (j2+1+1+1)],m∈r.foot:=by simp[Dl,nth,DW.foot,M9]
   obtain⟨k1,k2⟩:=hv5.Ud Uj 1 rfl AJ hM5;have k3:=hv5.Lm Uj (k:=1) rfl AJ hM5;have k4:=hv5.Lm Uj (k:=2) rfl AJ hM5;simp only[Iw]at k3;have hT5:Sd v5 (λy=>y∈f5) 2 (σ ⟨tb,0,ν⟩) 3 3 (cl O8 ts):=hT4.same (λy hy=>k1 y (.inl hy)) k3;have AFs:∀t∈ts,Sd v5 (λy=>y∈f5) 2 t.A t.n t.c (cl NR t.fs):=λt ht=>(AFr t ht).same (λy hy=>k1 y (.inl hy)) k3;have hC5:Sd v5 (λy=>y∈f5) 2 s2.A s2.n s2.c (cl J_ s2.code):=hC4.same (λy hy=>k1 y (.inl hy)) k3;have hB5:Sd v5 (λy=>y∈f5) 2 A7 (cs.length+1) c7 (cl J_ (cs++[⟨22,0⟩])):=by
    rw[Kr];exact Sd.JA (hv5.holds _ (.tail _ (.tail _ (.head _)))) λg hg=>k4 g AU7
   clear hM5 k1 k2 k3 k4 hv5 Uj;refine DY [0,1,4,2,3] ?_;replace zg:=Bd.mk (AO g2 (AO g3 g10));refine Db ?_;refine C8 (FF ?_);intro w hw;exact jK hw hT5 AFs hC5 hB5 hTc ht3 hok AL AL AL hcs AL AL rq AL
 refine Cz (k0 _ _ (DC [6,7] λbQ g11=>?_));replace g11:=Dy g11;refine DY [0,1,4,2,3] ?_;replace zg:=Bd.mk (AO g2 (AO g3 g11));refine Db ?_;refine C8 (FF ?_);intro w hw;refine⟨(⟨σ ⟨tb,0,ν⟩,3,3,ts,σ ⟨b58,0,ν⟩,1,1,[⟨0,0,x.loc,s2.A,s2.n,s2.c,s2.code⟩]⟩,j2),rfl,⟨XZ (x:=x) (j:=j2) (gs:=[⟨0,0,x.loc,s2.A,s2.n,s2.c,s2.code⟩]) hw hT4 AFr (by simpa using hC4) (by simpa using hok),?_⟩,hw.hold 2 rfl,hw.ES⟩;refine⟨ht3,hTc,by simp,by simp,λq g hg=>?_⟩;obtain⟨rfl,rfl⟩:q=0/\g=⟨0,0,x.loc,s2.A,s2.n,s2.c,s2.code⟩:=by
  cases q with
  |zero=>exact⟨rfl,by simpa using hg.symm⟩
  |succ q=>simp at hg
 dsimp only;exact⟨by omega,λ_=>⟨rfl,rfl⟩,by omega,by omega,hok⟩
def bR:Prop:=True
theorem ok1:bR:=True.intro
def OO(ft:List Nat)(m:Ei):DW:=.dat ft (λw=>LH w (λy=>y∈ft) m) (λ_ _ hk h=>h.same (λy hy=>hk y hy) λ_ h=>h)
section
variable{P:Program}{M:List Nat}{W w:World}{L:List DW}{ft:List Nat}{m:Ei}
theorem Kw ft m L k:look (OO ft m::L) k=look L k:=rfl
theorem Ky ft m L k us:JI (OO ft m::L) k us=OO ft m::JI L k us:=rfl
theorem Jg ft m L b:Qc (OO ft m::L) b=Qc L b:=rfl
theorem NP ft m L b:UT (OO ft m::L) b=UT L b:=rfl
theorem JO ft m L W' M':Ht W' M' (OO ft m::L)=Ht W' M' L:=rfl
theorem JP ft m L k:fresh (OO ft m::L) k=fresh L k:=rfl
theorem St.md(h:St M W L w){k}(hk:nth L k=σ (OO ft m)):Mod w w.heap.size m:=by
 have h1:LH w (λy=>y∈ft) m:=h.holds _ (DN hk);exact h1.mod λy hy=>(h.own _ (DN hk) y hy).2
theorem St.mdD(h:St M W L w){k}(hk:nth L k=σ (OO ft m)):LH w (λy=>y∈ft) m:=h.holds _ (DN hk)
theorem St.jM(h:St M W L w){k j b y t cs}(hk:nth L k=σ (OO ft m))(hj:nth L j=σ (.blk b t cs))(hy:y∈ft):y<w.heap.size∧¬b=y:=by
 refine⟨(h.own _ (DN hk) y hy).2,λe=>?_⟩;subst e;have hne:j≠k:=λe=>by rw[e,hk]at hj;cases hj
 exact Fs h.apart hj hk hne b AUp hy
theorem mR{size n c b off i T vs xs}(h:∀w,St M W L w->Sl w w.heap.size size (σ ⟨b,off,ν⟩) n c xs)(hn:0<n)(ht:Hd P T=σ (τ,vs.length))(hv:(xs.drop i).take vs.length=vs):LD P M W L T ⟨b,off+i,ν⟩ (.agg vs.toArray):=λw hw=>by
 obtain⟨b',off',e,hb,hc⟩:=(h w hw).cells hn;cases e;have hv':∀(j:Nat) v,vs[j]?=σ v->xs[i+j]?=σ v:=λj v h=>by
  rw[<-hv,Bu]at h;split at h
  ·simpa using h
  ·cases h
 refine KT ht vs rfl λj v hj=>?_;rw[Addr.add_lit,Cn];exact hc _ _ (hv' j v hj)
theorem bC{size n c b off i m T v xs}(h:∀w,St M W L w->Sl w w.heap.size size (σ ⟨b,off,ν⟩) n c xs)(hn:0<n)(ht:Hd P T=σ (ο,m))(hv:xs[i]?=σ v):LD P M W L T ⟨b,off+i,ν⟩ v:=λw hw=>by
 obtain⟨b',off',e,hb,hc⟩:=(h w hw).cells hn;cases e;exact Hy ht (hc _ _ hv)
end
def Hw:=AO (AO (AO @Ac (AO @DT @KM)) (AO (AO @cM @Ey) (AO @Ez @E5))) (AO (AO (AO @E8 @E9) (AO @Kw @Ky)) (AO (AO @Jg @NP) (AO @JO @JP)))
structure Gj where
 b:Nat
 ft:List Nat
 m:Ei
 fl:Nat
 sl:Nat
 FA:Option Addr
 fn:Nat
 fc:Nat
 SA:Option Addr
 sn:Nat
 sc:Nat
 p:MP
def MF(f:O5):List Value:=[ε ζ (f.fn:Int),ε ζ (f.nx:Int),ε ζ (f.lo:Int),ε ζ (f.ba:Int)]
def Xa(f:O5):Value:=.agg #[ε ζ (f.fn:Int),ε ζ (f.nx:Int),ε ζ (f.lo:Int),ε ζ (f.ba:Int)]
theorem P_ f:(MF f).length=4:=rfl
def JX(x:Gj):DW:=.blk x.b 195 [ξ x.m.TA x.m.tn x.m.tc,ξ x.m.FA x.m.fn x.m.fc,ε ζ (x.fl:Int),ε ζ (x.sl:Int),ε ζ x.p.FL,ε ζ x.p.tr,ξ x.FA x.fn x.fc,ξ x.SA x.sn x.sc,ε ζ x.p.cl]
def KO(x:Gj):DW:=.row (ξ x.FA x.fn x.fc) 269 4 x.fn (cl MF x.p.fs)
def KP(x:Gj):DW:=.row (ξ x.SA x.sn x.sc) 29 1 x.sn (FU x.p.ss)
def Ep(x:Gj):List DW:=[JX x,KO x,KP x,OO x.ft x.m]
structure Ov where
 FA:Option Addr
 fn:Nat
 fc:Nat
 SA:Option Addr
 sn:Nat
 sc:Nat
def Gj.up(x:Gj)(i:Ov)(p:MP):Gj:=⟨x.b,x.ft,x.m,x.fl,x.sl,i.FA,i.fn,i.fc,i.SA,i.sn,i.sc,p⟩
def MG{α:Type}(_:α):Value:=.tuple #[]
theorem jN l:ones (cl MF l)=τ:=Zd (λ_=>rfl) l
theorem KF{l n}(h:(cl MF l).length=n*4):l.length=n:=by rw[V4 P_]at h;omega
theorem LJ l:ones (FU l)=τ:=by simp[ones,FU,Value.oneCell']
theorem TC l k:(FU l).take k=FU (l.take k):=by simp[FU]
theorem LK l k:(FU l).drop k=FU (l.drop k):=by simp[FU]
theorem bD l m:FU (l++m)=FU l++FU m:=by simp[FU]
theorem Kl x{b}(hb:x.b=b)t W(hst:St (DV (Ep x)) W (Ep x) W):
  Calls AGm 163 #[π (σ ⟨b,0,ν⟩),ε ζ t] W
  λen w' => ∃i:Ov,en=κ (MG i)/\bR/\St (DV (Ep x)) W (Ep (x.up i { x.p with FL:=4,tr:=t })) w':=by
 subst hb;obtain⟨M,hM⟩:∃M,DV (Ep x)=M:=⟨_,rfl⟩;rw[hM]at hst ⊢;clear hM;unfold Ep JX KO KP at hst;refine DL (M:=M) Tryz.func163 []  hst ?_;have zs:=Bd.mk Hw;refine DZ ?_;refine DJ rfl (DR ?_);refine⟨_,rfl,λw hw=>?_⟩;exact⟨⟨x.FA,x.fn,x.fc,x.SA,x.sn,x.sc⟩,rfl,ok1,hw⟩
theorem UD x{b}(hb:x.b=b)(kz:Int)(k:Nat)(hkz:kz=k){r f}(hf:x.p.fs=r++[f])(hl:x.p.fs.length<=10000)W(hst:St (DV (Ep x)) W (Ep x) W):
  Calls AGm 190 #[π (σ ⟨b,0,ν⟩),ε ζ kz] W
  λen w' => ∃i:Ov,en=κ (MG i)/\bR/\St (DV (Ep x)) W (Ep (x.up i { x.p with fs:=r++[{ f with nx:=k }] })) w':=by
 subst hb;subst hkz;obtain⟨M,hM⟩:∃M,DV (Ep x)=M:=⟨_,rfl⟩;rw[hM]at hst ⊢;clear hM;unfold Ep JX KO KP at hst;have hlen:=KF (hst.La 1 rfl).len;have ho:=jN x.p.fs;have hl2:x.p.fs.length=r.length+1:=by rw[hf];simp
 refine DL (M:=M) Tryz.func190 []  hst ?_;refine C9 rfl λK k0=>?_;have zs:=Bd.mk Hw;refine DR ?_;intro bA Oz hfA;refine DR ?_;refine EI 0 kM rfl rfl (λw hw=>Hz (DN (k:=2) rfl) hw) ho AL AL ?_;intro A3 c3 hl3 hr3;refine Ed (AO @Ao @AR.{0}) (k0 _ _ ?_);refine DY [0,1,3,4] ?_;refine DC [0,1,4] λG1 g1=>?_;replace g1:=EK g1;refine EL 0 rfl AL λg F7 hg EX=>?_;subst F7;replace hg:=AAM (AO hg EX);clear EX;have hi:x.p.fs[r.length]?=σ f:=by rw[hf];simp
 have hset:(cl MF x.p.fs).set (r.length*4+1) (ε ζ (k:Int))=cl MF (r++[{ f with nx:=k }]):=by
  have h9:=Tm (f:=MF) (s:=4) P_ (k:=1) AL (v:=ε ζ (k:Int)) (x:=f) (y := { f with nx:=k }) rfl hi;unfold cl;rw[h9,hf,AUO _ _ (Ay _),Nat.sub_self];rfl
 have hn:((x.fn:Int)-1).toNat=r.length:=by omega
 refine C9 rfl λK k0=>?_;have zg:=Bd.mk g1;refine DU hn ?_;refine DX (JB 0 (i:=r.length*4+1) (v:=ε ζ (k:Int)) rfl (by rw[V4 P_];omega) AF rfl rfl) ?_;refine DU hset (k0 _ _ ?_);refine DJ rfl (DD ?_);refine⟨_,rfl,λw hw=>?_⟩;have h1:=hw.pick (ix:=[1,0,2,3]) AJ;exact⟨⟨σ ⟨g,0,ν⟩,x.fn,c3,x.SA,x.sn,x.sc⟩,rfl,ok1,h1⟩
structure CtI where
 A:Option Addr
 c:Nat
 j:Ov
def uU(k:Nat)(i:CtI):Value:=ξ i.A k i.c
def j4(A:Option Addr)(n c:Nat)(l:List Nat):DW:=.row (ξ A n c) 29 1 n (FU l)
theorem N9 x{b}(hb:x.b=b)(kz:Int)(k q:Nat)(hkz:kz=k)(hk:x.p.ss.length=q+k)(hl:x.p.ss.length<=100000)W(hst:St (DV (Ep x)) W (Ep x) W):
  Calls AGm 161 #[π (σ ⟨b,0,ν⟩),ε ζ kz] W
  λen w' => ∃i:CtI,en=κ (uU k i)/\bR/\St (DV (Ep x)) W (j4 i.A k i.c (x.p.ss.drop q)::Ep (x.up i.j { x.p with ss:=x.p.ss.take q })) w':=by
 subst hb;subst hkz;obtain⟨M,hM⟩:∃M,DV (Ep x)=M:=⟨_,rfl⟩;rw[hM]at hst ⊢;clear hM;unfold Ep JX KO KP at hst;have hlen:=Fv (hst.La 2 rfl).len;refine DL (M:=M) Tryz.func161 [.tmp 4]  hst ?_;refine TV 2 rfl λhcap AEq=>?_;have zs:=Bd.mk Hw;refine DZ ?_;refine DZ ?_;refine DC [0,5] λG2 g2=>?_;replace g2:=EK g2;have hn:((x.sn:Int)-(k:Int)).toNat=q:=by omega
 have hn2:x.sn-q=k:=by omega
 refine C9 rfl λK k0=>?_;have zg:=Bd.mk g2;refine DD ?_;intro bA Oz hfA;refine DU hn ?_;refine EI 0 Ng rfl rfl (λw hw=>((hw.La 3 rfl).drop (k:=q) AL).reads) (by rw[Ac,LK];exact LJ _) AL AL ?_;intro A3 c3 hl3 hr3;refine DU (AO @Ao @AR.{0}) (k0 _ _ ?_);refine DC [0,5,6] λG3 g3=>?_;replace g3:=Dy g3;refine C9 rfl λK k0=>?_;replace zg:=Bd.mk g3;refine DD ?_;intro bB hbB hfB;refine DU hn ?_;refine EI 0 Ng rfl rfl (λw hw=>((hw.La 4 rfl).take (k:=q) AL).reads) (by rw[Ac,TC];exact LJ _) AL AL ?_;intro A4 c4 hl4 hr4;refine DU (AO @Ao @AR.{0}) (k0 _ _ ?_);refine Db ?_;refine C8 (EP λw hw=>?_);rw[LK,TC,hn2]at hw;have h1:=hw.pick (ix:=[1,2,3,0,5]) AJ;exact⟨⟨A3,c3,⟨x.FA,x.fn,x.fc,A4,q,c4⟩⟩,by rw[hn2];rfl,ok1,h1⟩
theorem Km x{b}(hb:x.b=b)(vz:Int)(v:Nat)(hvz:vz=v)(hl:x.p.ss.length<=100000)W(hst:St (DV (Ep x)) W (Ep x) W):
  Calls AGm 162 #[π (σ ⟨b,0,ν⟩),ε υ vz] W
  λen w' => ∃i:Ov,en=κ (MG i)/\bR/\St (DV (Ep x)) W (Ep (x.up i { x.p with ss:=x.p.ss++[v] })) w':=by
 subst hb;subst hvz;obtain⟨M,hM⟩:∃M,DV (Ep x)=M:=⟨_,rfl⟩;rw[hM]at hst ⊢;clear hM;unfold Ep JX KO KP at hst;have hlen:=Fv (hst.La 2 rfl).len;have ho:=LJ x.p.ss;refine DL (M:=M) Tryz.func162 []  hst ?_;refine DJ rfl ?_;have zs:=Bd.mk Hw;refine DR ?_;intro bA Oz hfA;refine DR ?_;refine EI 0 Ng rfl rfl (λw hw=>Hz (DN (k:=3) rfl) hw) ho AL AL ?_;intro A3 c3 hl3 hr3;refine Ed (AO @Ao @AR.{0}) ?_;intro bE Qi Tg;refine D6 1 Ng rfl (λw hw=>D_ (size:=1) (DN (k:=0) rfl) rfl hw) rfl AL AL ?_;intro A4 c4 hl4 hr4;refine DR ?_;refine⟨_,rfl,λw hw=>?_⟩;have h0:FU (x.p.ss++[v])=FU x.p.ss++[ε υ (v:Int)]:=bD _ _;rw[<-h0]at hw;have h1:=hw.pick (ix:=[2,3,0,5]) AJ;exact⟨⟨x.FA,x.fn,x.fc,A4,x.sn+1,c4⟩,rfl,ok1,h1⟩
theorem jO x{b}(hb:x.b=b){r f g i h}(t:KJ x.m x.p r f g i h)(hl:x.p.fs.length<=10000)W(hst:St (DV (Ep x)) W (Ep x) W):
  Calls AGm 142 #[π (σ ⟨b,0,ν⟩)] W
  λen w' => ∃_:Unit,en=κ (.tuple #[Xa f,Li i])/\bR/\St (DV (Ep x)) W (Ep x) w':=by
 subst hb;have j5:=hst.md (k:=3) rfl;obtain⟨M,hM⟩:∃M,DV (Ep x)=M:=⟨_,rfl⟩;rw[hM]at hst ⊢;clear hM;obtain⟨b,ft,m,fl,sl,FA,fn,fc,SA,sn,sc,⟨FL,tr,cq,fs,ss⟩⟩:=x;dsimp only at *;unfold Ep JX KO KP at hst;dsimp only at hst;have hlen:=KF (hst.La 1 rfl).len;have hfs:fs=r++[f]:=t.hfs;have hl2:fs.length=r.length+1:=by rw[hfs];simp
 have hi:fs[r.length]?=σ f:=by rw[hfs];simp
 have hgl:=j5.Sr;have hfl:=t.AH7;have hgm:=AU t.hg;have hcd:=j5.fn g hgm;have hcl:=GM Gw AL hcd.len;have hnl:=(Ab.1 t.hi).1;have hNm:=λy hy=>hst.jM (k:=3) (j:=0) rfl rfl (y:=y) hy;obtain⟨fb,fo,bG,hfb,-⟩:=(hst.mdD (k:=3) rfl).gs.cells AL;obtain⟨cb,co,hCA,hcb,-⟩:=((hst.mdD (k:=3) rfl).fn g hgm).cells AL;obtain⟨e1,e2⟩:=hNm _ hfb;obtain⟨e3,e4⟩:=hNm _ hcb;have hn:((fn:Int)-1).toNat=r.length:=by omega
 refine ER (M:=M) (n:=34) [.cell 2 269,.cell 3 171] rfl Tryz.func142 rfl rfl (Am rfl)  hst ?_;refine C9 rfl λK k0=>?_;have zs:=Bd.mk Hw;refine DR ?_;intro b2 hb2 hf2 b3 hb3 hf3;refine k0 _ _ (EL 3 rfl AL λq F7 hq EX=>?_);subst F7;replace hq:=AAM (AO hq EX);clear EX;refine Cw λK k0=>EB [(τ,0),(τ,1),(τ,2),(τ,3),(τ,4),(τ,5),(τ,6),(τ,7),(τ,8),(τ,9),(τ,10),(τ,11),(τ,12),(τ,13),(ο,14),(ο,15)] [15] ?_;refine Ed hn ?_;refine DX (IJ (i:=r.length*4) (vs:=MF f) (DN (k:=3) rfl) AF (Rv P_ hi)) ?_;refine Ed hn ?_;simp only[MF,Av,Bf,AT1];refine Ed hn ?_;intro b4 hb4 jo;refine k0 _ _ (DC [0,2,3,4] λG1 g1=>?_);replace g1:=EK g1;refine Cw λK k0=>FD [0,3,4,5,6] [(τ,0),(τ,1),(τ,2),(τ,3),(τ,4),(τ,5),(τ,6),(τ,7),(τ,8),(τ,9),(τ,10),(τ,11),(τ,12),(τ,13),(τ,14),(ο,15),(ο,16)] [16] ?_;have zg:=Bd.mk g1;refine DU bG ?_;refine DX ((by rw[Cn];exact bC (i:=f.fn*4+3) (λw hw=>AVy) AL (m:=1) AF (OX (j:=3) Kv t.hg rfl))) ?_;refine DU bG ?_;refine DU hCA ?_;refine DX (mR (i:=f.nx*2) (vs:=J_ i) (λw hw=>(by rw[<-hCA];exact(hw.md (k:=4) rfl).fn g hgm)) AL AF (Rv Gw t.hi)) ?_;refine DU hCA ?_;simp only[J_,Av,Bf,AT1];refine DD (k0 _ _ ?_);refine C8 (FF ?_);intro w hw;rw[<-bG]at hw;exact⟨(),rfl,ok1,hw.pick (ix:=[3,4,5,6]) AJ⟩
theorem UE(x:Gj){b}(hb:x.b=b){c:Nat}(hc:x.p.cl=c)W(hst:St (DV (Ep x)) W (Ep x) W):
  Calls AGm 145 #[π (σ ⟨b,0,ν⟩)] W
  λen w' => ∃_:Unit,en=κ (ε ζ (JG c:Int))/\bR/\St (DV (Ep x)) W (Ep x) w':=by
 subst hb;obtain⟨M,hM⟩:∃M,DV (Ep x)=M:=⟨_,rfl⟩;rw[hM]at hst ⊢;clear hM;obtain⟨b,ft,m,fl,sl,FA,fn,fc,SA,sn,sc,⟨FL,tr,cq,fs,ss⟩⟩:=x;dsimp only at *;subst hc;unfold Ep JX KO KP at hst;dsimp only at hst;refine DL (M:=M) Tryz.func145 [.tmp 2]  hst ?_;have zs:=Bd.mk Hw;refine DZ ?_;refine C9 rfl λK k0=>DR ?_;refine DI (λw hw=>M8 c w) ?_;try refine DR ?_
 refine k0 _ _ (DZ ?_);refine C8 (Eg λw hw=>?_);exact⟨(),rfl,ok1,hw⟩
structure RqI where
 A:Option Addr
 c:Nat
theorem uW x{b}(hb:x.b=b)(h2:¬x.p.FL=2)W(hst:St (DV (Ep x)) W (Ep x) W):
  Calls AGm 100 #[π (σ ⟨b,0,ν⟩)] W
  λen w' => ∃_:Unit,en=κ (.tuple #[ε ζ 0,ξ ν 0 0,θ ο])/\bR/\St (DV (Ep x)) W (Ep x) w':=by
 subst hb;obtain⟨M,hM⟩:∃M,DV (Ep x)=M:=⟨_,rfl⟩;rw[hM]at hst ⊢;clear hM;obtain⟨b,ft,m,fl,sl,FA,fn,fc,SA,sn,sc,⟨FL,tr,cq,fs,ss⟩⟩:=x;dsimp only at *;unfold Ep JX KO KP at hst;dsimp only at hst;have d2:(!decide (FL=2))=τ:=by rw[AUC h2];rfl
 refine DL (M:=M) Tryz.func100 [.tmp 2,.tmp 3,.tmp 4]  hst ?_;have zs:=Bd.mk Hw;refine DZ ?_;refine Cw λK k0=>DZ ?_;refine C_ (Ed d2 ?_);refine DZ ?_;refine C8 (Eg λw hw=>?_);exact⟨(),rfl,ok1,hw⟩
def rqV(c:Nat)(i:RqI):Value:=.tuple #[ε ζ (c:Int),ξ i.A (JG c) i.c,θ τ]
theorem uX(x:Gj){b}(hb:x.b=b)(h2:x.p.FL=2){c:Nat}(hc:x.p.cl=c)q(hq:x.p.ss.length=q+JG c)(hl:x.p.ss.length<=100000)W(hst:St (DV (Ep x)) W (Ep x) W):
  Calls AGm 100 #[π (σ ⟨b,0,ν⟩)] W
  λen w' => ∃i:RqI,en=κ (rqV c i)/\bR/\St (DV (Ep x)) W (j4 i.A (JG c) i.c (x.p.ss.drop q)::Ep x) w':=by
 subst hb;obtain⟨M,hM⟩:∃M,DV (Ep x)=M:=⟨_,rfl⟩;rw[hM]at hst ⊢;clear hM;obtain⟨b,ft,m,fl,sl,FA,fn,fc,SA,sn,sc,⟨FL,tr,cq,fs,ss⟩⟩:=x;dsimp only at *;unfold Ep JX KO KP at hst;dsimp only at hst;have hlen:=Fv (hst.La 2 rfl).len;subst hc;have d2:decide (FL=2)=τ:=AUB h2;refine DL (M:=M) Tryz.func100 [.tmp 2,.tmp 3,.tmp 4]  hst ?_;refine TV 2 rfl λhcap AEq=>?_;have zs:=Bd.mk Hw;refine DZ ?_;refine Cw λK k0=>DZ ?_;refine C_ (Ed d2 ?_);refine Cz (k0 _ _ (DC [0] λG2 g2=>?_));replace g2:=EK g2;have hn:((sn:Int)-(JG c:Int)).toNat=q:=by omega
 have hn2:sn-q=JG c:=by omega
 refine Cw λK k0=>JU [0] (.rd 0 (.rd 1 (.rd 2 (.rd 3 (.rd 4 (.rd 6 (.rd 7 (.rd 8 (.rd 9 (.rd 10 (.rd 11 (.rd 12 (.rd 13 (.rd 14 (.rd 15 (.rd 16 (.rd 17 (.more 5 (.act 18 (.rd 19 (.rd 20 (.act 21 (.rd 22 (.rd 23 (.rd 24 (.done)))))))) (.act 18 (.rd 19 (.rd 20 (.act 5 (.act 21 (.rd 22 (.rd 23 (.rd 24 (.done))))))))))))))))))))))))))) [] ?_;have zg:=Bd.mk g2;refine DD ?_;refine AO ?_ ?_
 ·intro bA Oz hfA;refine EW (Ep ⟨b,ft,m,fl,sl,FA,fn,fc,SA,sn,sc,⟨FL,tr,(c:Int),fs,ss⟩⟩) (ASL [_] _) (λ_:Unit=>ε ζ (JG c:Int)) _ (λw hw=>UE _ rfl rfl w hw) ?_;intro _ _;refine DU hn ?_;exact AU1
 ·refine EW (Ep ⟨b,ft,m,fl,sl,FA,fn,fc,SA,sn,sc,⟨FL,tr,(c:Int),fs,ss⟩⟩) (BB _) (λ_:Unit=>ε ζ (JG c:Int)) _ (λw hw=>UE _ rfl rfl w hw) ?_;intro _ _;refine DU hn ?_;intro bA Oz hfA;exact AU1
def QB(op:Int):Nat:=if op=23 then 8 else if op=21 then 2 else if Jf op then 1 else 0
theorem uY op W:Calls AGm 143 #[ε ζ op] W λe w'=>e=κ (ε ζ (QB op:Int))/\Below W.heap.size W w':=by
 refine DL (M:=[]) Tryz.func143 [.tmp 2] (St.nil _ _) ?_;have zs:=Bd.mk Hw;refine DZ ?_;refine Cw λK k0=>DK (DZ ?_);refine C_ ?_;by_cases m1:op=23
 ·have d1:decide (op=23)=τ:=AUB m1;refine Ed d1 ?_;refine DZ ?_;refine C8 (Eg λw hw=>?_);exact⟨by unfold QB;rw[ATv m1];rfl,hw.below⟩
 refine Ed m1 ?_;refine DZ ?_;refine C_ ?_;by_cases m2:op=21
 ·have d2:decide (op=21)=τ:=AUB m2;refine Ed d2 ?_;refine DZ ?_;refine C8 (Eg λw hw=>?_);exact⟨by unfold QB;rw[ATt m1,ATv m2];rfl,hw.below⟩
 refine Ed m2 ?_;refine C9 rfl λK k1=>DR ?_;refine DI (λw hw=>P6 op w) ?_;try refine DR ?_
 refine k1 _ _ ?_;refine NC (λhc=>?_) λhc=>?_
 ·have m3:=AT0 hc;refine DZ ?_;refine C8 (Eg λw hw=>?_);exact⟨by unfold QB;rw[ATt m1,ATt m2,ATv m3];rfl,hw.below⟩
 have m3:=AUD hc;refine Cz (k0 _ _ (DZ ?_));refine C8 (Eg λw hw=>?_);exact⟨by unfold QB;rw[ATt m1,ATt m2,ATt m3];rfl,hw.below⟩
theorem AAN:((IntKind.u64.bits:Nat):Int)=64:=rfl
theorem Qm{W w' v}(hw:St [] W [] w')(h:0<=v/\v<18446744073709551616):(∃z:Nat,Ending.returned (ε υ v)=κ (ε υ (z:Int))/\z<18446744073709551616)/\Below W.heap.size W w' :=
 ⟨⟨v.toNat,by rw[Int.toNat_of_nonneg h.1],by omega⟩,hw.below⟩
theorem KG z:0<=IntKind.u64.wrap z/\IntKind.u64.wrap z<18446744073709551616:=by rw[IntKind.wrap_u64];omega
theorem LM op a b:0<=bits op υ a b/\bits op υ a b<18446744073709551616:=KG _
theorem NQ{a:Nat}(ha:a<18446744073709551616)n:0<=(a:Int) / 2 ^ n/\(a:Int) / 2 ^ n<18446744073709551616:=by
 have h1:(0:Int)<=(2:Int) ^ n:=Int.pow_nonneg AJ;have h2:=Int.ediv_nonneg (AH_ a) h1;have h3:=Int.ediv_le_self ((2:Int) ^ n) (AH_ a);omega
theorem QC{a b:Nat}(ha:a<18446744073709551616):0<=(a:Int) % (b:Int)/\(a:Int) % (b:Int)<18446744073709551616:=by
 rw[<-Int.natCast_emod];have:=Nat.mod_le a b;omega
theorem ZP op(a b:Nat)(ha:a<18446744073709551616)(hb:b<18446744073709551616)(hz:op=9\/op=10→¬b=0)W:
  Calls AGm 215 #[ε ζ op,ε υ (a:Int),ε υ (b:Int)] W λe w'=>(∃z:Nat,e=κ (ε υ (z:Int))/\z<18446744073709551616)/\Below W.heap.size W w':=by
 refine DL (M:=[]) Tryz.func215 [.tmp 6] (St.nil _ _) ?_;have zs:=Bd.mk Hw;refine DZ ?_;refine Cw λK k0=>DZ ?_;refine DK (DZ ?_);refine C_ ?_;by_cases k6:op=6
 ·have d6:decide (op=6)=τ:=AUB k6;refine Ed d6 ?_;exact AUo
 refine Ed k6 ?_;refine DZ ?_;refine C_ ?_;by_cases k7:op=7
 ·have d7:decide (op=7)=τ:=AUB k7;refine Ed d7 ?_;exact AUo
 refine Ed k7 ?_;refine DZ ?_;refine C_ ?_;by_cases k8:op=8
 ·have d8:decide (op=8)=τ:=AUB k8;refine Ed d8 ?_;exact AUo
 refine Ed k8 ?_;refine DZ ?_;refine C_ ?_;by_cases k9:op=9
 ·have d9:decide (op=9)=τ:=AUB k9;refine Ed d9 ?_;have hb0:=hz AL;exact AUo
 refine Ed k9 ?_;refine DZ ?_;refine C_ ?_;by_cases k10:op=10
 ·have d10:decide (op=10)=τ:=AUB k10;refine Ed d10 ?_;have hb0:=hz AL;exact AUo
 refine Ed k10 ?_;refine DZ ?_;refine C_ ?_;by_cases k11:op=11
 ·have d11:decide (op=11)=τ:=AUB k11;refine Ed d11 ?_;exact AUo
 refine Ed k11 ?_;refine DZ ?_;refine C_ ?_;by_cases k12:op=12
 ·have d12:decide (op=12)=τ:=AUB k12;refine Ed d12 ?_;exact AUo
 refine Ed k12 ?_;refine DZ ?_;refine C_ ?_;by_cases k13:op=13
 ·have d13:decide (op=13)=τ:=AUB k13;refine Ed d13 ?_;exact AUo
 refine Ed k13 ?_;refine DZ ?_;refine C_ ?_;by_cases k14:op=14
 ·have d14:decide (op=14)=τ:=AUB k14;refine Ed d14 ?_;exact AVA
 refine Ed k14 ?_;refine DZ ?_;refine C_ ?_;by_cases k15:op=15
 ·have d15:decide (op=15)=τ:=AUB k15;refine Ed d15 ?_;exact AVA
 refine Ed k15 ?_;refine DZ ?_;refine C_ ?_;by_cases k16:op=16
 ·have d16:decide (op=16)=τ:=AUB k16;refine Ed d16 ?_;refine Cw λK k1=>DZ ?_;refine NC (λhc=>?_) λhc=>?_
  ·refine DZ ?_;refine C8 (Eg λw hw=>?_);exact Qm hw AJ
  refine Cz (k1 _ _ (DZ ?_));refine C8 (Eg λw hw=>?_);exact Qm hw AJ
 refine Ed k16 ?_;refine Cz (k0 _ _ (Cw λK k0=>DZ ?_));refine NC (λhc=>?_) λhc=>?_
 ·refine DZ ?_;refine C8 (Eg λw hw=>?_);exact Qm hw AJ
 refine Cz (k0 _ _ (DZ ?_));refine C8 (Eg λw hw=>?_);exact Qm hw AJ
section
variable{P:Program}
theorem UF w t tn ty e i z kq kn(ht:P.underlying t=σ (.slice e))(htn:P.underlying tn=σ (.int kn))(hi:P.info? e=σ i)(hz:i.zero=σ z)
  (hzs:z.cells.size=i.size) (hsz:0<i.size) g n cap xs (hown:w.ownsRow 0 e i.size (ξ (σ ⟨g,0,ν⟩) n cap) n xs) k (h0:0<k) (h1:∀u∈(Builtin.zeroCells z.cells k).toList,u.oneCell'=τ)
  (h63:n+k<=maxLen) (h48:k*i.bytes<=281474976710656) (hbytes:(n+k)*i.bytes<=140737488355328):
  ∃v' w',(Builtin.append_ #[t,tn] ty #[ξ (σ ⟨g,0,ν⟩) n cap,ε kq k]).run P w=.ok v' w'∧w'.ownsRow 0 e i.size v' (n+k) (xs++(Builtin.zeroCells z.cells k).toList)/\w.grownBy w' (σ g) ∧
   (v'.ownBlock=σ g\/v'.ownBlock=σ w.heap.size):=by
 have hl:(Builtin.zeroCells z.cells k).toList.length=k*i.size:=by rw[ASw,size_zeroCells,hzs]
 have hlen:(xs++(Builtin.zeroCells z.cells k).toList).length=(n+k)*i.size:=by rw[Ag,hown.1,hl,AS9]
 rcases hown.2 with⟨hv,-⟩|⟨g',cap',cur,hv,-,hg,hnc,hcm,hcs,htake⟩
 ·cases hv
 cases hv;by_cases hroom:n+k<=cap
 ·have hfit:n*i.size+(Builtin.zeroCells z.cells k).toList.length<=cur.size:=by rw[hl,hcs,<-Nat.add_mul];exact ASc _ hroom
  have hst:=run_storeCells_at P g (n*i.size) e (Builtin.zeroCells z.cells k).toList 0 cur w hg AL h1;obtain⟨new,hnew⟩:∃X,(cur.toList.take (n*i.size+0)++(Builtin.zeroCells z.cells k).toList++cur.toList.drop (n*i.size+0+(Builtin.zeroCells z.cells k).toList.length)).toArray=X:=⟨_,rfl⟩;rw[hnew]at hst;have hk:k≠0:=by omega
  have hw:IntKind.i64.wrap (k:Int)=k:=by rw[IntKind.wrap_i64];unfold maxLen at h63;omega
  have h48i:¬(281474976710656<(k:Int)*(i.bytes:Int)):=by
   rw[<-Int.natCast_mul];omega
  have hneg:¬((k:Int)<0):=by omega
  have hns:¬(k*i.size=0):=Nat.mul_ne_zero hk AL;refine⟨ξ (σ ⟨g,0,ν⟩) (n+k) cap,w.setRow g new,?_,⟨hlen,.inr ⟨g,cap,new,rfl,Ar _,setRow_heap w g cur _ e _ hg,hroom,hcm,?_,?_⟩⟩,⟨rfl,rfl,rfl,by simp,λj _ hj=>setRow_other w g j _ (λe=>hj (by rw[e]))⟩,.inl rfl⟩
  ·simp[Builtin.append_,run_underlying ht,run_underlying htn,sizeOf,typeInfo,zeroValue,hi,hz,asInt,asIntOf,hw,hneg,hns,h48i,hk,hroom,Addr.add_lit];rw[hst];rfl
  ·rw[<-hnew];simp only[ASZ,Ag,Al,CR,ASw]at *;omega
  ·rw[<-hnew];simp only[ASi,Cg];rw[htake,<-hlen];exact List.take_left
 ·have hfc:=run_firstCells_some (P:=P) w.drew i.size n ⟨g,0,ν⟩ n cap xs hown.1 (by simpa using hown.cells (g:=g) rfl);have hge:=grownCap_ge w (n+k) cap e;have hcm':grownCap w (n+k) cap e<=maxLen:=grownCap_le_maxLen w (n+k) cap e h63;have hr:=Lib.run_append_grow_zeros (P:=P) w t tn ty e i z kq kn ht htn hi hz (σ ⟨g,0,ν⟩) n cap xs hfc k h0 hsz AL (by unfold maxLen at h63;omega) h48 (growslice_fits AL hbytes);refine⟨_,_,hr,⟨hlen,.inr ⟨w.heap.size,_,_,rfl,Ar _,heap_alloc_new w.drew _,hge,hcm',?_,?_⟩⟩,⟨rfl,rfl,rfl,by simp,λj hj _=>heap_alloc_old w.drew _ j hj⟩,.inr rfl⟩
  ·simp only[ATq,ASZ,size_zeroCells,hzs,hown.1,<-Nat.add_mul];congr 1;omega
  ·simp only[ATk,Bh];rw[<-List.append_assoc,<-hlen];exact List.take_left
theorem Qw u k:(Builtin.zeroCells #[u] k).toList=Ah k u:=by
 apply AUJ;intro j;by_cases hj:j<k
 ·have h1:j % 1=0:=Nat.mod_one j;simp[Builtin.zeroCells,hj,h1,Array.getElem?_range]
 ·simp[Builtin.zeroCells,hj]
variable{M:List Nat}{W:World}{L:List DW}
theorem ACn kx{F}{d:Option Nat}{t tn e ty pos af gd s x K}{bytes g n c k:Nat}{kq kn u xs}
  (ht:Jy P t=σ (e,1,bytes)) (htn:P.underlying tn=σ (.int kn)) (hu:Fb P e=σ [u]) (hu1:u.oneCell'=τ) (hs:ev F s=ξ (σ ⟨g,0,ν⟩) n c) (hx:ev F x=ε kq (k:Int)) (h0:0<k)
  (hrow:nth L kx=σ (.row (ξ (σ ⟨g,0,ν⟩) n c) e 1 n xs)) (h63:n+k<=9223372036854775807) (h48:k*bytes<=281474976710656) (hbytes:(n+k)*bytes<=140737488355328)
  (hK:∀A' c',(xs++Ah k u).length=(n+k)*1->rowAt A' (n+k) W M (L.eraseIdx kx)->K τ (ξ A' (n+k) c') (.row (ξ A' (n+k) c') e 1 (n+k) (xs++Ah k u)::L.eraseIdx kx)):
  XV P M W ⟨d,.call { callee:=.builtin .append,args := #[s,x],argTypes := #[t,tn] },ty,pos,af,gd⟩ F L K:=by
 intro w hw;obtain⟨hut,i,z,hi,hz,hsz,hby,hzs,hsz0⟩:=QG ht;have hzc:z.cells = #[u]:=by
  unfold Fb at hu;rw[hi]at hu;simp only[hz]at hu;have:z.cells.toList=[u]:=by simpa using hu
  rw[<-this]
 have hst:St M W (.row (ξ (σ ⟨g,0,ν⟩) n c) e 1 n xs::L.eraseIdx kx) w:=hw.perm (FZ hrow).symm;have hown:w.ownsRow 0 e 1 (ξ (σ ⟨g,0,ν⟩) n c) n xs:=hst.holds (.row (ξ (σ ⟨g,0,ν⟩) n c) e 1 n xs) AUq;rw[<-hsz]at hown;have hzl:(Builtin.zeroCells z.cells k).toList=Ah k u:=by rw[hzc,Qw]
 obtain⟨v',w',hrun,hown',hg,hblk⟩:=UF (P:=P) w t tn ty e i z kq kn hut htn hi hz (by rw[hzs,hsz]) AL g n c xs hown k h0 (by rw[hzl];intro y hy;rw[ASP hy];exact hu1) AWi (by rw[hby];exact h48) (by rw[hby];exact hbytes);rw[hsz,hzl]at hown';obtain⟨A',c',rfl⟩:=Lu hown'
 suffices hfin:St M W (.row (ξ A' (n+k) c') e 1 (n+k) (xs++Ah k u)::L.eraseIdx kx) w' by
  refine⟨_,_,w',?_,hfin,hK A' c' hown'.1 hfin.LX⟩;simp only[execOp,resolve,Sem.run_bind,Sem.run_pure,Result.andThen_ok,invoke,builtin,AST,BJ,ASW,hs,hx,hrun]
 have hfo:=hst.own (.row (ξ (σ ⟨g,0,ν⟩) n c) e 1 n xs) AUq;have hfa:=(Ak.1 hst.apart).1;have hkeep:∀r∈L.eraseIdx kx,∀b∈r.foot,w'.heap[b]?=w.heap[b]? := λr hr b hb=>hg.block b (hst.own r AU6 b hb).2 (by
  intro he;injection he with he;exact hfa r hr b (by simp[DW.foot,Value.ownBlock,he]) hb)
 have dG:Ii M W w':=⟨hg.os.trans hw.ES.os,hg.tape.trans hw.ES.tape,hg.output.trans hw.ES.output,AGn hw.ES.size hg.size,λj hj hm=>by
  rw[hg.block j (BS hj hw.ES.size) (by
   intro he;injection he with he;rcases(hfo j (by simp[DW.foot,Value.ownBlock,he])).1 with h|h
   ·omega
   ·exact hm h)]
  exact hw.ES.block j hj hm⟩
 have hL':St M W (L.eraseIdx kx) w':=⟨dG,λr hr=>r.keep (hst.holds r AU6) (hkeep r hr),λr hr b hb=>⟨(hst.own r AU6 b hb).1,BS (hst.own r AU6 b hb).2 hg.size⟩,(Ak.1 hst.apart).2⟩;refine hL'.add _ hown' ?_ ?_
 ·intro b hb;have hb':(Value.slice A' (n+k) c').ownBlock=σ b:=by simpa [DW.foot]using hb
  have hlt:=(hown'.lt b hb').2;refine⟨?_,hlt⟩;rcases hblk with h|h
  ·rw[hb']at h;injection h with h;exact(hfo b (by simp[DW.foot,Value.ownBlock,h])).1
  ·exact AWd
 ·intro s hs b hb hbs;have hb':(Value.slice A' (n+k) c').ownBlock=σ b:=by simpa [DW.foot]using hb
  rcases hblk with h|h
  ·rw[hb']at h;injection h with h;exact hfa s hs b (by simp[DW.foot,Value.ownBlock,h]) hbs
  ·exact AVu
end
section
variable{P:Program}{M:List Nat}{W:World}{L:List DW}
theorem AAO(w:World)e(i:TypeInfo)(z:Value)k u(hs:i.size=1)(hzc:z.cells = #[u])(h63:k<=maxLen):
  (w.drew.alloc (.cells (Builtin.zeroCells z.cells k++Builtin.zeroCells z.cells (grownCap w k 0 e-k)) e)).ownsRow 0 e 1 (ξ (σ ⟨w.heap.size,0,ν⟩) k (grownCap w k 0 e)) k (Ah k u):=by
 have hge:=grownCap_ge w k 0 e;have hcm':grownCap w k 0 e<=maxLen:=grownCap_le_maxLen w k 0 e h63;refine⟨by simp,.inr ⟨w.heap.size,_,_,rfl,Ar _,heap_alloc_new w.drew _,hge,hcm',?_,?_⟩⟩
 ·simp only[ATq,size_zeroCells,hzc];simp;omega
 ·rw[hzc];simp only[ATk,Qw];rw[List.take_left' AUq]
theorem AAP kx{F}{d:Option Nat}{t tn e ty pos af gd s x K}{bytes n c k:Nat}{A kq kn u xs}
  (ht:Jy P t=σ (e,1,bytes)) (htn:P.underlying tn=σ (.int kn)) (hu:Fb P e=σ [u]) (hu1:u.oneCell'=τ) (hs:ev F s=ξ A n c) (hx:ev F x=ε kq (k:Int))
  (hrow:nth L kx=σ (.row (ξ A n c) e 1 n xs)) (h63:n+k<=9223372036854775807) (h48:k*bytes<=281474976710656) (hbytes:(n+k)*bytes<=140737488355328)
  (hK:∀A' c',(xs++Ah k u).length=(n+k)*1->rowAt A' (n+k) W M (L.eraseIdx kx)->K τ (ξ A' (n+k) c') (.row (ξ A' (n+k) c') e 1 (n+k) (xs++Ah k u)::L.eraseIdx kx)):
  XV P M W ⟨d,.call { callee:=.builtin .append,args := #[s,x],argTypes := #[t,tn] },ty,pos,af,gd⟩ F L K:=by
 intro w hw;obtain⟨hut,i,z,hi,hz,hsz,hby,hzs,hsz0⟩:=QG ht;have hzc:z.cells = #[u]:=by
  unfold Fb at hu;rw[hi]at hu;simp only[hz]at hu;have:z.cells.toList=[u]:=by simpa using hu
  rw[<-this]
 have hst:St M W (.row (ξ A n c) e 1 n xs::L.eraseIdx kx) w:=hw.perm (FZ hrow).symm;have hown:w.ownsRow 0 e 1 (ξ A n c) n xs:=hst.holds (.row (ξ A n c) e 1 n xs) AUq;rcases Cm k with hk0|hk0
 ·subst hk0;have hnc:=(Sl.JA hown).cap;refine⟨ξ A n c,.row (ξ A n c) e 1 n xs::L.eraseIdx kx,w,?_,hst,?_⟩
  ·simp only[execOp,resolve,Sem.run_bind,Sem.run_pure,Result.andThen_ok,invoke,builtin,AST,BJ,ASW,hs,hx];have hw0:IntKind.i64.wrap 0=0:=by decide
   cases A<;>simp[Builtin.append_,run_underlying hut,run_underlying htn,sizeOf,typeInfo,zeroValue,hi,hz,asInt,asIntOf,hw0,hnc,storeCells]
  ·have h2:=hK A c (by simpa using hown.1) (by simpa using hst.LX);simpa using h2
 ·cases A with
  | some a =>
   obtain⟨g,rfl⟩:∃g,a=⟨g,0,ν⟩:=by
    rcases hown.2 with⟨hv,-⟩|⟨g,cap,cur,hv,-⟩
    ·cases hv
    ·cases hv;exact⟨g,rfl⟩
   exact ACn kx ht htn hu hu1 hs hx hk0 hrow h63 h48 hbytes hK w hw
  | none =>
   obtain⟨rfl,rfl⟩:n=0/\c=0:=by
    rcases hown.2 with⟨hv,-⟩|⟨g,cap,cur,hv,-⟩
    ·cases hv;exact⟨rfl,rfl⟩
    ·cases hv
   have hxs:xs=[]:=Bc (by simpa using hown.1);subst hxs;have hr:=Lib.run_append_nil_zeros (P:=P) w t tn ty e i z kq kn hut htn hi hz k hk0 AL AL (by rw[hby];exact h48);have ho:=AAO w e i z k u hsz hzc AWi;have hb:Below w.heap.size w (w.drew.alloc (.cells (Builtin.zeroCells z.cells k++Builtin.zeroCells z.cells (grownCap w k 0 e-k)) e)):=(Below.refl _ _).drew.alloc (Ay _) _;have hq:St M W (L.eraseIdx kx) _:=(hst.tail).quiet hb
   suffices hfin:St M W (.row (ξ (σ ⟨w.heap.size,0,ν⟩) (0+k) (grownCap w k 0 e)) e 1 (0+k) ([]++Ah k u)::L.eraseIdx kx) (w.drew.alloc (.cells (Builtin.zeroCells z.cells k++Builtin.zeroCells z.cells (grownCap w k 0 e-k)) e)) by
    refine⟨_,_,_,?_,hfin,hK _ _ AUq hfin.LX⟩;simp only[execOp,resolve,Sem.run_bind,Sem.run_pure,Result.andThen_ok,invoke,builtin,AST,BJ,ASW,hs,hx,hr,Ao]
   rw[Ao,AR];refine hq.add _ ho ?_ ?_
   ·intro b hb;obtain rfl:b=w.heap.size:=by simpa [DW.foot,Value.ownBlock]using hb
    exact AWe
   ·intro s hs b hb hbs;obtain rfl:b=w.heap.size:=by simpa [DW.foot,Value.ownBlock]using hb
    exact absurd (hst.own s (by simp[hs]) _ hbs).2 (ASm _)
end
theorem uZ x{b}(hb:x.b=b)(hv:(Mw x.m).1=0){r f g i h}(hp:MN x.m x.fl x.sl x.p)(t:KJ x.m x.p r f g i h)(h1s:x.p.FL=1)(ho:i.op=21)(hfl:x.fl<=256)(hsl:x.sl<=16384)W(hst:St (DV (Ep x)) W (Ep x) W):
  Calls AGm 188 #[π (σ ⟨b,0,ν⟩),Xa f,ε ζ (i.arg:Int)] W
  λen w' => ∃j:Ov×MP,en=κ (MG j)/\jH x.m x.fl x.sl j.2/\St (DV (Ep x)) W (Ep (x.up j.1 j.2)) w':=by
 subst hb;have j5:=hst.md (k:=3) rfl;have hNm:=λy hy=>hst.jM (k:=3) (j:=0) rfl rfl (y:=y) hy;have hDm:=hst.mdD (k:=3) rfl;obtain⟨M,hM⟩:∃M,DV (Ep x)=M:=⟨_,rfl⟩;rw[hM]at hst ⊢;clear hM;obtain⟨b,ft,m,fl,sl,FA,fn,fc,SA,sn,sc,⟨FL,tr,cq,fs,ss⟩⟩:=x;dsimp only at *;unfold Ep JX KO KP at hst;dsimp only at hst;have hln:=KF (hst.La 1 rfl).len;have hls:=Fv (hst.La 2 rfl).len;have ALd:=t.call ho;obtain⟨gx,hgx⟩:∃gx,m.gs[i.arg]?=σ gx:=⟨_,AQ ALd⟩;have hgl:=j5.Sr;obtain⟨fb,fo,bG,hfb,-⟩:=hDm.gs.cells AL;obtain⟨e1,e2⟩:=hNm _ hfb;have AFv:=(XR hv hgx).num;obtain⟨gp,hgp⟩:∃n:Nat,gx.p=n:=⟨gx.p.toNat,by omega⟩;obtain⟨gl,hgq⟩:∃n:Nat,gx.l=n:=⟨gx.l.toNat,by omega⟩;have KC:=t.pop;rw[qF ho hgx]at KC;dsimp only at KC;have MZ:f.ba+h=ss.length:=t.he;have hnx:=t.nx;have hfs:fs=r++[f]:=t.hfs;have h1:fs.length<=fl:=hp.hfl;have h2:ss.length<=sl:=hp.hsl;have h3:fs.length=r.length+1:=by rw[hfs];simp
 obtain⟨lo,hlo⟩:∃lo:Nat,(sn:Int)-(gp:Int)=lo:=⟨sn-gp,by omega⟩;have hbq:(lo:Int)+(gp:Int)+(gl:Int)=((lo+gp+gl:Nat):Int):=by omega
 unfold Xa;refine DL (M:=M) Tryz.func188 []  hst ?_;refine C9 rfl λK k0=>?_;have zs:=Bd.mk Hw;refine DR ?_;intro b4 hb4 jo;refine k0 _ _ (C9 rfl λK k0=>Ed bG ?_);refine DX (mR (i:=i.arg*4) (vs:=jw gx) (λw hw=>AVy) AL AF (Rv Kv hgx)) ?_;refine Ed bG ?_;simp only[jw,Av,Bf,AT1,hgp,hgq];refine DR ?_;intro b6 hb6 jm;refine k0 _ _ ?_;rw[<-bG];refine DC [0,2,4,6] λG1 g1=>?_;replace g1:=EK g1;refine Cw λK k0=>Cw λK k1=>EB [(τ,0),(τ,1),(τ,2),(τ,3),(τ,4),(τ,5),(τ,6),(τ,7),(τ,8),(τ,9),(τ,10)] [] ?_;have zg:=Bd.mk g1;refine DD (k1 _ _ ?_);refine Ec (λhc=>?_) λhc=>?_
 ·refine C9 rfl λK k1=>DD ?_;refine Dh MG (λj:Ov=>Ep (Gj.up ⟨b,ft,m,fl,sl,FA,fn,fc,SA,sn,sc,⟨FL,tr,cq,fs,ss⟩⟩ j ⟨4,4,cq,fs,ss⟩)) _ (λw hw=>Kl ⟨b,ft,m,fl,sl,FA,fn,fc,SA,sn,sc,⟨FL,tr,cq,fs,ss⟩⟩ rfl 4 w hw) ?_;rintro⟨IP,Hq,IQ,Ib,Hr,IU⟩ -;unfold MG Gj.up Ep JX KO KP;refine EM ?_;refine DD (k1 _ _ ?_);refine C8 (EP λw hw=>?_);exact⟨(⟨IP,Hq,IQ,Ib,Hr,IU⟩,⟨4,4,cq,fs,ss⟩),rfl,(MN.stop hp (.inr rfl) hp.hsl hp.hfl hp.u).n n42,hw.sub (Az [_,_,_,_] _)⟩
 have hc1:=AUD hc;refine Cz (k0 _ _ (Cw λK k0=>Cw λK k1=>EB [(τ,0),(τ,1),(τ,2),(τ,3),(τ,4),(τ,5),(τ,6),(τ,7),(τ,8),(τ,9),(τ,10),(τ,11),(τ,12),(τ,13)] [] ?_));refine DD (k1 _ _ ?_);refine Ec (λhc=>?_) λhc=>?_
 ·refine C9 rfl λK k1=>DD ?_;refine Dh MG (λj:Ov=>Ep (Gj.up ⟨b,ft,m,fl,sl,FA,fn,fc,SA,sn,sc,⟨FL,tr,cq,fs,ss⟩⟩ j ⟨4,3,cq,fs,ss⟩)) _ (λw hw=>Kl ⟨b,ft,m,fl,sl,FA,fn,fc,SA,sn,sc,⟨FL,tr,cq,fs,ss⟩⟩ rfl 3 w hw) ?_;rintro⟨IP,Hq,IQ,Ib,Hr,IU⟩ -;unfold MG Gj.up Ep JX KO KP;refine EM ?_;refine DD (k1 _ _ ?_);refine C8 (EP λw hw=>?_);exact⟨(⟨IP,Hq,IQ,Ib,Hr,IU⟩,⟨4,3,cq,fs,ss⟩),rfl,(MN.stop hp (.inr rfl) hp.hsl hp.hfl hp.u).n n42,hw.sub (Az [_,_,_,_] _)⟩
 have hc2:=AUD hc;refine Cz (k0 _ _ (C9 rfl λK k0=>DD ?_));refine Dh MG (λj:Ov=>Ep (Gj.up ⟨b,ft,m,fl,sl,FA,fn,fc,SA,sn,sc,⟨FL,tr,cq,fs,ss⟩⟩ j ⟨FL,tr,cq,r++[{ f with nx:=f.nx+1 }],ss⟩)) _ (λw hw=>UD ⟨b,ft,m,fl,sl,FA,fn,fc,SA,sn,sc,⟨FL,tr,cq,fs,ss⟩⟩ rfl _ (f.nx+1) AL hfs AVx w hw) ?_;rintro⟨IP,Hq,IQ,Ib,Hr,IU⟩ -;unfold MG Gj.up Ep JX KO KP;refine EM ?_;refine DD (k0 _ _ ?_);refine DY [4,5,0,1,2,3] ?_;refine F8 4 rfl λhl1=>?_;have hl2:=Fv hl1;have hsn:Hr=sn:=by omega
 subst hsn;refine F8 3 rfl λhl3=>?_;have hl4:=KF hl3;have hl5:Hq=fs.length:=by rw[<-hl4,hfs];simp
 refine DC [0,2,6] λG2 g2=>?_;replace g2:=Dy g2;refine Cw λK k0=>EB [(τ,0),(τ,1),(τ,2),(τ,3),(τ,4),(τ,5),(τ,6),(τ,7),(τ,8),(τ,9)] [] ?_;replace zg:=Bd.mk g2;refine DU hlo (k0 _ _ ?_);refine DC [0,2,6,7] λG3 g3=>?_;replace g3:=Dy g3;have ho1:=LJ ss;refine Cw λK k0=>FD [0,2] [(τ,0),(τ,2),(τ,3),(τ,4),(τ,5),(τ,6),(τ,8),(τ,9),(ο,1),(ο,7),(ο,10),(τ,11),(τ,12),(τ,13),(ο,14)] [14] ?_;replace zg:=Bd.mk g3;refine DD ?_;intro bA Oz hfA;refine EI 0 Ng rfl rfl (λw hw=>Hz (DN (k:=5) rfl) hw) ho1 AL AL ?_;intro A3 c3 hl6 hr6;refine DU (AO @Ao @AR.{0}) ?_;refine AAP 0 (k:=gl) (u:=ε υ 0) Ng Tryz.underlying3 AF rfl rfl rfl rfl AL AL AL ?_;intro A4 c4 hl7 hr7;refine DD (k0 _ _ ?_);refine DY [1,3,4,0,6] ?_;refine DC [0,2,6,7] λG4 g4=>?_;replace g4:=Dy g4;refine K3 (FD [0,1] [(τ,0),(τ,1),(τ,2),(τ,3),(τ,4),(τ,5),(τ,6),(τ,7),(τ,8),(τ,9),(τ,10),(τ,11),(τ,12),(τ,13),(τ,14),(τ,15),(ο,16),(ο,17),(τ,18),(τ,19),(τ,20),(ο,21)] [21] ?_);replace zg:=Bd.mk g4;refine DU hbq ?_;intro bE Qi Tg;refine D6 3 kM rfl (λw hw=>D_ (size:=4) (DN (k:=0) rfl) rfl hw) rfl AL AL ?_;intro A5 c5 vN hr8;refine DD ?_;refine⟨_,rfl,λw hw=>?_⟩;have hcs:cl MF (r++[{ f with nx:=f.nx+1 }]++[⟨i.arg,0,lo,lo+gp+gl⟩])=cl MF (r++[{ f with nx:=f.nx+1 }])++[ε ζ (i.arg:Int),ε ζ 0,ε ζ (lo:Int),ε ζ ((lo+gp+gl:Nat):Int)]:=Kr _ _;have hus:FU (ss++Ah gl 0)=FU ss++Ah gl (ε υ 0):=by rw[bD];simp[FU]
 rw[<-hcs,<-hus]at hw;have h9:=hw.pick (ix:=[3,0,4,5]) AJ;refine⟨((⟨A5,Hq+1,c5,A4,Hr+gl,c4⟩:Ov),(⟨FL,tr,cq,r++[(⟨f.fn,f.nx+1,f.lo,f.ba⟩:O5)]++[(⟨i.arg,0,lo,lo+gp+gl⟩:O5)],ss++Ah gl 0⟩:MP)),rfl,?_,h9⟩;have xC:FL=1:=h1s;subst xC;refine MN.n ?_ n12;exact MN.call hv hp t ho hgx (by show fs.length<fl;omega) (lo:=lo) (by show (lo:Int)=(ss.length:Int)-gx.p;omega) (by rw[Ag,CB];show ((ss.length+gl:Nat):Int)=(ss.length:Int)+gx.l;omega) (by rw[Ag,CB];omega) (λy hy=>by
  rcases AV.1 hy with hy|hy
  ·exact hp.u y hy
  ·rw[ASP hy];decide) (by rw[hgp,hgq];omega)
theorem AAQ x{b}(hb:x.b=b){r f g i h}(hp:MN x.m x.fl x.sl x.p)(t:KJ x.m x.p r f g i h)(h1s:x.p.FL=1)(ho:i.op=22)(hfl:x.fl<=256)(hsl:x.sl<=16384)W(hst:St (DV (Ep x)) W (Ep x) W):
  Calls AGm 192 #[π (σ ⟨b,0,ν⟩),Xa f] W
  λen w' => ∃j:Ov×MP,en=κ (MG j)/\jH x.m x.fl x.sl j.2/\St (DV (Ep x)) W (Ep (x.up j.1 j.2)) w':=by
 subst hb;have j5:=hst.md (k:=3) rfl;have hNm:=λy hy=>hst.jM (k:=3) (j:=0) rfl rfl (y:=y) hy;have hDm:=hst.mdD (k:=3) rfl;obtain⟨M,hM⟩:∃M,DV (Ep x)=M:=⟨_,rfl⟩;rw[hM]at hst ⊢;clear hM;obtain⟨b,ft,m,fl,sl,FA,fn,fc,SA,sn,sc,⟨FL,tr,cq,fs,ss⟩⟩:=x;dsimp only at *;unfold Ep JX KO KP at hst;dsimp only at hst;have hln:=KF (hst.La 1 rfl).len;have hls:=Fv (hst.La 2 rfl).len;have hgl:=j5.Sr;have hfn:=t.AH7;obtain⟨fb,fo,bG,hfb,-⟩:=hDm.gs.cells AL;obtain⟨e1,e2⟩:=hNm _ hfb;have AFv:=t.hK.num;obtain⟨gr,hgr⟩:∃n:Nat,g.r=n:=⟨g.r.toNat,by omega⟩;have hret:=t.ret ho;have MZ:f.ba+h=ss.length:=t.he;have hba:=t.hba;have hfs:fs=r++[f]:=t.hfs;have h1:fs.length<=fl:=hp.hfl;have h2:ss.length<=sl:=hp.hsl;have h3:fs.length=r.length+1:=by rw[hfs];simp
 have hlo:f.lo<=ss.length:=by omega
 have hn1:((sn:Int)-(gr:Int)).toNat=sn-gr:=by omega
 have hn2:((fn:Int)-1).toNat=r.length:=by omega
 have rq:(fn:Int)-1=(r.length:Int):=by omega
 have hn4:sn-(sn-gr)=gr:=by omega
 have htk:(cl MF fs).take (r.length*4)=cl MF r:=by rw[nZ P_,hfs];simp
 unfold Xa;refine DL (M:=M) Tryz.func192 []  hst ?_;refine C9 rfl λK k0=>?_;have zs:=Bd.mk Hw;refine DR ?_;intro b3 hb3 hf3;refine k0 _ _ (Cw λK k0=>EB [(τ,0),(τ,1),(τ,2),(τ,3),(τ,4),(τ,5),(τ,6),(τ,7),(τ,8),(τ,9),(τ,10)] [] ?_);refine Ed bG ?_;refine DX ((by rw[Cn];exact bC (i:=f.fn*4+1) (v:=ε ζ g.r) (λw hw=>AVy) AL (m:=1) AF (OX (j:=1) Kv t.hg rfl))) ?_;refine Ed bG ?_;refine Ed hgr (k0 _ _ ?_);rw[<-bG];refine DC [0,3,4] λG1 g1=>?_;replace g1:=EK g1;refine TV 3 rfl λhcap AEq=>Cw λK k0=>FD [0,1,3] [(τ,1),(τ,2),(τ,3),(τ,4),(τ,5),(τ,6),(τ,7),(τ,8),(ο,0),(ο,9),(τ,10)] [] ?_;have zg:=Bd.mk g1;refine DD ?_;intro bA Oz hfA;refine EI 0 Ng rfl rfl (λw hw=>((hw.La 4 rfl).take (k:=f.lo) AL).reads) (by rw[Ac,TC];exact LJ _) AL AL ?_;intro A3 c3 hl3 hr3;refine DU (AO @Ao @AR.{0}) (k0 _ _ ?_);refine DC [0,4,5] λG2 g2=>?_;replace g2:=Dy g2;refine Cw λK k0=>FD [1,2,4] [(τ,0),(τ,1),(τ,2),(τ,3),(τ,4),(τ,5),(τ,6),(τ,7),(τ,8),(τ,9),(τ,10),(τ,11),(τ,12),(τ,13),(τ,14),(ο,15),(τ,16)] [] ?_;replace zg:=Bd.mk g2;refine DU hn1 ?_;refine D6 0 Ng rfl (λw hw=>((hw.La 4 rfl).drop (k:=sn-gr) AL).reads) (by rw[Ac,LK];exact LJ _) AL AL ?_;intro A4 c4 hl4 hr4;refine DU hn4 (k0 _ _ ?_);refine DY [0,1,2,3,5] ?_;refine DC [0,5] λG3 g3=>?_;replace g3:=Dy g3;refine TV 3 rfl λhcap2 ANk=>Cw λK k0=>FD [2,3] [(τ,0),(τ,2),(τ,3),(τ,4),(τ,5),(τ,6),(τ,7),(τ,8),(τ,9),(τ,10),(τ,11),(τ,12),(τ,13),(τ,14),(ο,1),(ο,15),(τ,16),(τ,17),(τ,18),(ο,19)] [19] ?_;replace zg:=Bd.mk g3;refine DD ?_;intro bB hbB hfB;refine DU hn2 ?_;refine EI 0 kM rfl rfl (λw hw=>((hw.La 4 rfl).take (k:=r.length) AL).reads) (by rw[htk];exact jN _) AL AL ?_;intro A5 c5 hl5 iQ;refine DU (AO @Ao @AR.{0}) (k0 _ _ ?_);rw[htk];refine DY [0,1,3,5] ?_;refine DC [0,5] λG4 g4=>?_;replace g4:=Dy g4;replace zg:=Bd.mk g4;refine Db ?_;refine DC [0] λG5 g5=>?_;replace g5:=Dy g5;have hss:(FU ss).take f.lo++(FU ss).drop (sn-gr)=FU (ss.take f.lo++ss.drop (sn-gr)):=by rw[bD,TC,LK]
 have AIM:(ss.take f.lo++ss.drop (sn-gr)).length=f.lo+gr:=by rw[Ag,Al,CR];omega
 have AIN:∀y∈ss.take f.lo++ss.drop (sn-gr),y<18446744073709551616:=λy hy=>by
  rcases AV.1 hy with hy|hy
  ·exact hp.u y (BU hy)
  ·exact hp.u y (ASQ hy)
 rw[hss];obtain⟨UG,ALe⟩:∃UG,ss.take f.lo++ss.drop (sn-gr)=UG:=⟨_,rfl⟩;rw[ALe]at AIM AIN ⊢;replace zg:=Bd.mk g5;refine Db ?_;refine Ec (λhc=>?_) λhc=>?_
 ·have hr0:r=[]:=Bc (by have:=AT0 hc;omega);refine Db ?_;refine FB 29 1 (DJ rfl (DD ?_));refine⟨_,rfl,λw hw=>?_⟩;have h9:=hw.pick (ix:=[3,1,0,4]) AJ;subst hr0;exact⟨((⟨A5,0,c5,ν,0,0⟩:Ov),(⟨3,tr,cq,[],[]⟩:MP)),rfl,(MN.stop hp (.inl rfl) (Ar _) (Ar _) AUq).n n32,h9⟩
 ·have hr0:r≠[]:=λe=>by have:=AUD hc;rw[e]at this;exact this rfl
  refine Cz ?_;try simp only[Di,Dq]
  refine⟨_,rfl,λw hw=>?_⟩;have h9:=hw.pick (ix:=[2,0,1,3]) AJ;subst h1s;exact⟨((⟨A5,r.length,c5,A4,f.lo+gr,c4⟩:Ov),(⟨1,tr,cq,r,UG⟩:MP)),rfl,(MN.ret hp t ho hr0 (by rw[AIM,hgr];omega) AIN).n n12,h9⟩
section
variable{P:Program}{M:List Nat}{W w:World}{L:List DW}
theorem Ml{ι:Sort _}{g args K}A G(hp:(A++G).Perm L)(f:ι->Value)(Lf:ι->List DW)(φ:ι->Prop)
  (h:∀w,St (DV G) w G w->Calls P g args w (λe w' => ∃i,e=κ (f i)/\φ i/\St (DV G) w (Lf i) w'))
  (hK:∀i,φ i->(∃w',St M W (Lf i++A) w')->K τ (f i) (Lf i++A)):I6 P M W g args L K:=λw hw =>
 (Jl (K:=λt v L'=>(∃w',St M W L' w')->K t v L') A G hp f Lf φ h hK w hw).mono (by
  rintro e w' ⟨v,L',rfl,hs,hk⟩;exact⟨v,L',rfl,hs,hk ⟨w',hs⟩⟩)
theorem N_{A n c size t xs}(hw:St M W (.row (ξ A n c) t size n xs::L) w)(hn:0<n):∃g,A=σ ⟨g,0,ν⟩/\(W.heap.size<=g\/g∈M)/\Qc L g:=by
 rcases hw.LX with⟨-,h0⟩|⟨g,e,hb,hne⟩
 ·omega
 ·exact⟨g,e,hb,hne⟩
end
theorem ACo l(j v:Nat):(FU l).set j (ε υ (v:Int))=FU (l.set j v):=by unfold FU;rw[ASO]
theorem QX{l:List Nat}{q}(h:l.length=q+1):∃v,l.drop q=[v]/\v∈l/\l[q]?=σ v:=by
 have hq:q<l.length:=by omega
 refine⟨l[q],?_,Cf hq,AQ hq⟩;rw[BV hq,Br AL]
theorem mU{l:List Nat}{q}(h:l.length=q+2):∃u v,l.drop q=[u,v]/\u∈l/\v∈l/\l[q+1]?=σ v:=by
 have hq:q<l.length:=by omega
 have hq2:q+1<l.length:=by omega
 refine⟨l[q],l[q+1],?_,Cf hq,Cf hq2,AQ hq2⟩;rw[BV hq,BV hq2,Br AL]
structure SmR(m:Ei)(sl:Nat)(i:Ins)(nx:Nat)(ss:List Nat)(q:Nat)(NU:List Nat):Prop where
 nx:q∈Oq i nx
 len:(NU.length:Int)=ss.length+(JW m.gs i).2-(JW m.gs i).1
 le:NU.length<=sl
 u:∀y∈NU,y<18446744073709551616
theorem jP x{b}(hb:x.b=b){r f g i h}(hp:MN x.m x.fl x.sl x.p)(t:KJ x.m x.p r f g i h)(h1s:x.p.FL=1)(ho:¬(i.op=21\/i.op=22\/i.op=23\/i.op=24\/i.op=25))(hov:Kk i.op<Gy i.op->x.p.ss.length-Kk i.op+Gy i.op<=x.sl)(hfl:x.fl<=256)(hsl:x.sl<=16384)W(hst:St (DV (Ep x)) W (Ep x) W):
  Calls AGm 193 #[π (σ ⟨b,0,ν⟩),Xa f,Li i] W
  λen w' => ∃j:Ov×MP,en=κ (MG j)/\jH x.m x.fl x.sl j.2/\St (DV (Ep x)) W (Ep (x.up j.1 j.2)) w':=by
 subst hb;have j5:=hst.md (k:=3) rfl;have ALf:i.arg<18446744073709551616:=j5.arg g (AU t.hg) i (AU t.hi);obtain⟨M,hM⟩:∃M,DV (Ep x)=M:=⟨_,rfl⟩;rw[hM]at hst ⊢;clear hM;obtain⟨b,ft,m,fl,sl,FA,fn,fc,SA,sn,sc,⟨FL,tr,cq,fs,ss⟩⟩:=x;dsimp only at *;unfold Ep JX KO KP at hst;dsimp only at hst;have hln:=KF (hst.La 1 rfl).len;have hls:=Fv (hst.La 2 rfl).len;have MZ:f.ba+h=ss.length:=t.he;have KC:=t.pop;have hkn:=t.known;have hba:=t.hba;have AFv:=t.hK.num;have hfx:=qG (m:=m) (i:=i) AL AL;have hnx:=t.nx;have hfs:fs=r++[f]:=t.hfs;have h1:fs.length<=fl:=hp.hfl;have h2:ss.length<=sl:=hp.hsl;have hu:∀y∈ss,y<18446744073709551616:=hp.u;have AAR:=(Ins.JJ (t.hK.ins _ _ t.hi)).2;rw[hfx]at KC;dsimp only at KC;unfold Xa Li;refine DL (M:=M) Tryz.func193 []  hst ?_;refine C9 rfl λK k0=>?_;have zs:=Bd.mk Hw;refine DR ?_;intro b4 hb4 jo b5 hb5 Uj;refine k0 _ _ (DZ ?_);refine DZ ?_;refine DC [0,4,5,6,7] λG1 g1=>?_;replace g1:=EK g1;refine Cw λK k0=>?_;refine Df (λ_ _=>True) (λF' L' => ∃(q:Nat)(IP:Option Addr)(Hq IQ:Nat)(Ib:Option Addr)(Hr IU:Nat)(NU:List Nat),F' 0=G1 0/\F' 6=ε ζ (q:Int)/\L'=[.blk b 195 [ξ m.TA m.tn m.tc,ξ m.FA m.fn m.fc,ε ζ (fl:Int),ε ζ (sl:Int),ε ζ FL,ε ζ tr,ξ IP Hq IQ,ξ Ib Hr IU,ε ζ cq],.row (ξ IP Hq IQ) 269 4 Hq (cl MF fs),.row (ξ Ib Hr IU) 29 1 Hr (FU NU),OO ft m,.blk b5 171 [ε ζ i.op,ε υ (i.arg:Int)],.blk b4 269 [ε ζ (f.fn:Int),ε ζ (f.nx:Int),ε ζ (f.lo:Int),ε ζ (f.ba:Int)]]/\SmR m sl i f.nx ss q NU) ?_ ?_
 ·have zg:=Bd.mk g1;refine Db ?_;refine DK (Db ?_);refine C_ ?_;by_cases k1:i.op=1
  ·have d1:decide (i.op=1)=τ:=AUB k1;have bT:JW m.gs i=((0:Int),(1:Int)):=by rw[hfx,k1];rfl
   rw[k1]at KC hov;change ((0:Nat):Int)<=h at KC;refine DU d1 ?_;refine DJ rfl (DD ?_);refine Dh MG (λj=>Ep (Gj.up ⟨b,ft,m,fl,sl,FA,fn,fc,SA,sn,sc,⟨FL,tr,cq,fs,ss⟩⟩ j ⟨FL,tr,cq,fs,ss++[i.arg]⟩)) _ (λw hw=>Km ⟨b,ft,m,fl,sl,FA,fn,fc,SA,sn,sc,⟨FL,tr,cq,fs,ss⟩⟩ rfl _ i.arg rfl AWR w hw) ?_;rintro⟨IP,Hq,IQ,Ib,Hr,IU⟩ -;unfold MG Gj.up Ep JX KO KP;refine EM ?_;refine DD ?_;have AAS:=hov AJ;refine⟨f.nx+1,IP,Hq,IQ,Ib,Hr,IU,ss++[i.arg],rfl,rfl,⟨JM AL AVS,?_,?_,?_⟩⟩
   ·exact AW_
   ·simp only[Ag,BI];change ss.length-0+1<=sl at AAS;omega
   ·intro y hy;rcases AV.1 hy with hy|hy
    ·exact hu y hy
    ·rw[BH.1 hy];exact ALf
  refine DU k1 ?_;refine Db ?_;refine C_ ?_;by_cases k2:i.op=2
  ·have d2:decide (i.op=2)=τ:=AUB k2;have bT:JW m.gs i=((0:Int),(1:Int)):=by rw[hfx,k2];rfl
   rw[k2]at KC hov;change ((0:Nat):Int)<=h at KC;refine DU d2 ?_;have hlc:=t.loc (.inl k2);have hidx:((f.lo:Int)+(i.arg:Int)).toNat=f.lo+i.arg:=by omega
   obtain⟨v,hv⟩:∃v,ss[f.lo+i.arg]?=σ v:=⟨_,AQ AL⟩;refine EL 4 rfl AL λq2 F7 hq2 EX=>?_;subst F7;replace hq2:=AAM (AO hq2 EX);clear EX;refine K3 (EB [(τ,0),(τ,1),(τ,2),(τ,3),(τ,4),(τ,5),(τ,6),(τ,7),(τ,8),(τ,9),(τ,10),(τ,11),(τ,12),(τ,13),(ο,14)] [14] ?_);refine DU hidx ?_;refine DX (Dx (m:=1) (i:=f.lo+i.arg) (v:=ε υ (v:Int)) (DN (k:=4) rfl) AF (FQ hv)) ?_;refine DU hidx ?_;refine Dh MG (λj=>Ep (Gj.up ⟨b,ft,m,fl,sl,FA,fn,fc,σ ⟨q2,0,ν⟩,sn,sc,⟨FL,tr,cq,fs,ss⟩⟩ j ⟨FL,tr,cq,fs,ss++[v]⟩)) _ (λw hw=>Km ⟨b,ft,m,fl,sl,FA,fn,fc,σ ⟨q2,0,ν⟩,sn,sc,⟨FL,tr,cq,fs,ss⟩⟩ rfl _ v rfl AWR w hw) ?_;rintro⟨IP,Hq,IQ,Ib,Hr,IU⟩ -;unfold MG Gj.up Ep JX KO KP;refine EM ?_;refine DD ?_;have AAS:=hov AJ;refine⟨f.nx+1,IP,Hq,IQ,Ib,Hr,IU,ss++[v],rfl,rfl,⟨JM AL AVS,?_,?_,?_⟩⟩
   ·exact AW_
   ·simp only[Ag,BI];change ss.length-0+1<=sl at AAS;omega
   ·exact AV9
  refine DU k2 ?_;refine Db ?_;refine C_ ?_;by_cases k3:i.op=3
  ·have d3:decide (i.op=3)=τ:=AUB k3;have bT:JW m.gs i=((1:Int),(0:Int)):=by rw[hfx,k3];rfl
   rw[k3]at KC hov;change ((1:Nat):Int)<=h at KC;refine DU d3 ?_;have hlc:=t.loc (.inr k3);have hidx:((f.lo:Int)+(i.arg:Int)).toNat=f.lo+i.arg:=by omega
   refine C9 rfl λK k1=>DD ?_;obtain⟨qk,hqk⟩:∃qk,ss.length=qk+1:=⟨ss.length-1,by omega⟩;obtain⟨v,hdv,hvm,hvk⟩:=QX hqk;refine Ml [.blk b5 171 [ε ζ i.op,ε υ (i.arg:Int)],.blk b4 269 [ε ζ (f.fn:Int),ε ζ (f.nx:Int),ε ζ (f.lo:Int),ε ζ (f.ba:Int)]] (Ep ⟨b,ft,m,fl,sl,FA,fn,fc,SA,sn,sc,⟨FL,tr,cq,fs,ss⟩⟩) (CF _) (uU 1) (λj=>j4 j.A 1 j.c (ss.drop qk)::Ep (Gj.up ⟨b,ft,m,fl,sl,FA,fn,fc,SA,sn,sc,⟨FL,tr,cq,fs,ss⟩⟩ j.j ⟨FL,tr,cq,fs,ss.take qk⟩)) _ (λw hw=>N9 ⟨b,ft,m,fl,sl,FA,fn,fc,SA,sn,sc,⟨FL,tr,cq,fs,ss⟩⟩ rfl _ 1 qk rfl AVc AVY w hw) ?_;rintro⟨A1,c1,IP,Hq,IQ,Ib,Hr,IU⟩-⟨w1,hw1⟩;have ACp:=Fv (hw1.La 3 rfl).len;obtain⟨g1z,hA1,hB1,hN1⟩:=N_ hw1 AJ;unfold Gj.up Ep JX KO KP at hN1;dsimp only at hA1;subst hA1;simp only[ASt,Ad,AR,Dw,Du,Dz,Jg,and_true]at hN1;rw[hdv];unfold uU j4 Gj.up Ep JX KO KP;refine EM ?_;refine DD ?_;refine DX (Dx (m:=1) (i:=0) (v:=ε υ (v:Int)) (.head _) AF (FQ (l:=[v]) rfl)) ?_;refine DD (k1 _ _ ?_);refine DY [1,2,3,4,5,6] ?_;refine F8 2 rfl λhlx=>?_;have hly:=Fv hlx;rw[Al]at hly;refine EL 2 rfl AL λq3 F7 hq3 EX=>?_;subst F7;replace hq3:=AAM (AO hq3 EX);clear EX;refine DC [0,4,5,6,8] λG2 g2=>?_;replace g2:=Dy g2;refine K3 (EB [(τ,0),(τ,1),(τ,2),(τ,3),(τ,4),(τ,5),(τ,6),(τ,7),(τ,8),(τ,9),(τ,10),(τ,11),(τ,12),(ο,13)] [13] ?_);replace zg:=Bd.mk (AO g1 g2);refine DU hidx ?_;refine DX (JB 2 (i:=f.lo+i.arg) (v:=ε υ (v:Int)) rfl (by rw[nu,Al];omega) AF rfl rfl) ?_;refine DU @ACo ?_;refine⟨f.nx+1,IP,Hq,IQ,σ ⟨q3,0,ν⟩,Hr,IU,(ss.take qk).set (f.lo+i.arg) v,rfl,rfl,⟨JM AL AVS,?_,?_,?_⟩⟩
   ·rw[bT,Bt,Al];exact AVj
   ·rw[Bt,Al];omega
   ·intro y hy;rcases Ck hy with hy|hy
    ·exact hu y (BU hy)
    ·rw[hy];exact hu v hvm
  refine DU k3 ?_;refine Db ?_;refine C_ ?_;by_cases k4:i.op=4
  ·have d4:decide (i.op=4)=τ:=AUB k4;have bT:JW m.gs i=((1:Int),(0:Int)):=by rw[hfx,k4];rfl
   rw[k4]at KC hov;change ((1:Nat):Int)<=h at KC;refine DU d4 ?_;refine ED [1,2,3,4,5,6] AJ (DJ rfl (DD ?_));obtain⟨qk,hqk⟩:∃qk,ss.length=qk+1:=⟨ss.length-1,by omega⟩;obtain⟨v,hdv,hvm,hvk⟩:=QX hqk;refine Ml [.blk b5 171 [ε ζ i.op,ε υ (i.arg:Int)],.blk b4 269 [ε ζ (f.fn:Int),ε ζ (f.nx:Int),ε ζ (f.lo:Int),ε ζ (f.ba:Int)]] (Ep ⟨b,ft,m,fl,sl,FA,fn,fc,SA,sn,sc,⟨FL,tr,cq,fs,ss⟩⟩) (CF _) (uU 1) (λj=>j4 j.A 1 j.c (ss.drop qk)::Ep (Gj.up ⟨b,ft,m,fl,sl,FA,fn,fc,SA,sn,sc,⟨FL,tr,cq,fs,ss⟩⟩ j.j ⟨FL,tr,cq,fs,ss.take qk⟩)) _ (λw hw=>N9 ⟨b,ft,m,fl,sl,FA,fn,fc,SA,sn,sc,⟨FL,tr,cq,fs,ss⟩⟩ rfl _ 1 qk rfl AVc AVY w hw) ?_;rintro⟨A1,c1,IP,Hq,IQ,Ib,Hr,IU⟩-⟨w1,hw1⟩;have ACp:=Fv (hw1.La 3 rfl).len;obtain⟨g1z,hA1,hB1,hN1⟩:=N_ hw1 AJ;unfold Gj.up Ep JX KO KP at hN1;dsimp only at hA1;subst hA1;simp only[ASt,Ad,AR,Dw,Du,Dz,Jg,and_true]at hN1;rw[hdv];unfold uU j4 Gj.up Ep JX KO KP;refine EM ?_;refine DD ?_;refine⟨f.nx+1,IP,Hq,IQ,Ib,Hr,IU,ss.take qk,rfl,rfl,⟨JM AL AVS,?_,?_,?_⟩⟩
   ·rw[bT,Al];exact AVj
   ·rw[Al];omega
   ·exact λy hy=>hu y (BU hy)
  refine DU k4 ?_;refine Db ?_;refine C_ ?_;by_cases k5:i.op=5
  ·have d5:decide (i.op=5)=τ:=AUB k5;have bT:JW m.gs i=((1:Int),(2:Int)):=by rw[hfx,k5];rfl
   rw[k5]at KC hov;change ((1:Nat):Int)<=h at KC;refine DU d5 ?_;have hidx:((sn:Int)-1).toNat=sn-1:=by omega
   obtain⟨v,hv⟩:∃v,ss[sn-1]?=σ v:=⟨_,AQ AL⟩;refine EL 4 rfl AL λq2 F7 hq2 EX=>?_;subst F7;replace hq2:=AAM (AO hq2 EX);clear EX;refine DJ rfl (DU hidx ?_);refine DX (Dx (m:=1) (i:=sn-1) (v:=ε υ (v:Int)) (DN (k:=4) rfl) AF (FQ hv)) ?_;refine DU hidx ?_;refine Dh MG (λj=>Ep (Gj.up ⟨b,ft,m,fl,sl,FA,fn,fc,σ ⟨q2,0,ν⟩,sn,sc,⟨FL,tr,cq,fs,ss⟩⟩ j ⟨FL,tr,cq,fs,ss++[v]⟩)) _ (λw hw=>Km ⟨b,ft,m,fl,sl,FA,fn,fc,σ ⟨q2,0,ν⟩,sn,sc,⟨FL,tr,cq,fs,ss⟩⟩ rfl _ v rfl AWR w hw) ?_;rintro⟨IP,Hq,IQ,Ib,Hr,IU⟩ -;unfold MG Gj.up Ep JX KO KP;refine EM ?_;refine DD ?_;have AAS:=hov AJ;refine⟨f.nx+1,IP,Hq,IQ,Ib,Hr,IU,ss++[v],rfl,rfl,⟨JM AL AVS,?_,?_,?_⟩⟩
   ·exact AW_
   ·simp only[Ag,BI];change ss.length-1+2<=sl at AAS;omega
   ·exact AV9
  refine DU k5 ?_;refine Db ?_;refine C_ ?_;by_cases k18:i.op=18
  ·have d18:decide (i.op=18)=τ:=AUB k18;have bT:JW m.gs i=((1:Int),(1:Int)):=by rw[hfx,k18];rfl
   rw[k18]at KC hov;change ((1:Nat):Int)<=h at KC;refine DU d18 ?_;refine C9 rfl λK k1=>DD ?_;obtain⟨qk,hqk⟩:∃qk,ss.length=qk+1:=⟨ss.length-1,by omega⟩;obtain⟨v,hdv,hvm,hvk⟩:=QX hqk;refine Ml [.blk b5 171 [ε ζ i.op,ε υ (i.arg:Int)],.blk b4 269 [ε ζ (f.fn:Int),ε ζ (f.nx:Int),ε ζ (f.lo:Int),ε ζ (f.ba:Int)]] (Ep ⟨b,ft,m,fl,sl,FA,fn,fc,SA,sn,sc,⟨FL,tr,cq,fs,ss⟩⟩) (CF _) (uU 1) (λj=>j4 j.A 1 j.c (ss.drop qk)::Ep (Gj.up ⟨b,ft,m,fl,sl,FA,fn,fc,SA,sn,sc,⟨FL,tr,cq,fs,ss⟩⟩ j.j ⟨FL,tr,cq,fs,ss.take qk⟩)) _ (λw hw=>N9 ⟨b,ft,m,fl,sl,FA,fn,fc,SA,sn,sc,⟨FL,tr,cq,fs,ss⟩⟩ rfl _ 1 qk rfl AVc AVY w hw) ?_;rintro⟨A1,c1,IP,Hq,IQ,Ib,Hr,IU⟩-⟨w1,hw1⟩;have ACp:=Fv (hw1.La 3 rfl).len;obtain⟨g1z,hA1,hB1,hN1⟩:=N_ hw1 AJ;unfold Gj.up Ep JX KO KP at hN1;dsimp only at hA1;subst hA1;simp only[ASt,Ad,AR,Dw,Du,Dz,Jg,and_true]at hN1;rw[hdv];unfold uU j4 Gj.up Ep JX KO KP;refine EM ?_;refine DD ?_;refine DX (Dx (m:=1) (i:=0) (v:=ε υ (v:Int)) (.head _) AF (FQ (l:=[v]) rfl)) ?_;refine DD (k1 _ _ ?_);refine DY [5,6,1,2,3,4] ?_;refine DC [0,6,9] λG3 g3=>?_;replace g3:=Dy g3;refine F8 4 rfl λhlx=>?_;have hly:=Fv hlx;rw[Al]at hly;refine DJ rfl ?_;replace zg:=Bd.mk (AO g1 g3);refine DD ?_;refine Ee (λz:Nat=>ε υ (z:Int)) (λz=>z<18446744073709551616) (λw hw=>ZP 16 v 0 (hu v hvm) AJ AL w) ?_;intro z hz;refine DD ?_;refine Dh MG (λj=>Ep (Gj.up ⟨b,ft,m,fl,sl,IP,Hq,IQ,Ib,Hr,IU,⟨FL,tr,cq,fs,ss.take qk⟩⟩ j ⟨FL,tr,cq,fs,ss.take qk++[z]⟩)) _ (λw hw=>Km ⟨b,ft,m,fl,sl,IP,Hq,IQ,Ib,Hr,IU,⟨FL,tr,cq,fs,ss.take qk⟩⟩ rfl _ z rfl AWj w hw) ?_;rintro⟨O0,O1,O3,VD,UH,VE⟩ -;unfold MG Gj.up Ep JX KO KP;refine EM ?_;refine DD ?_;refine⟨f.nx+1,O0,O1,O3,VD,UH,VE,ss.take qk++[z],rfl,rfl,⟨JM AL AVS,?_,?_,?_⟩⟩
   ·rw[bT];simp only[Ag,BI,Al];exact AVj
   ·simp only[Ag,BI,Al];omega
   ·intro y hy;rcases AV.1 hy with hy|hy
    ·exact hu y (BU hy)
    ·rw[BH.1 hy];exact hz
  refine DU k18 ?_;refine Db ?_;refine C_ ?_;by_cases k19:i.op=19
  ·have d19:decide (i.op=19)=τ:=AUB k19;have bT:JW m.gs i=((0:Int),(0:Int)):=by rw[hfx,k19];rfl
   rw[k19]at KC hov;change ((0:Nat):Int)<=h at KC;refine DU d19 ?_;have hja:=qE (i:=i) (k:=f.nx) (.inl k19);have hjl:=(t.hK.next _ _ t.live t.hi _ hja).2;have hjl:=t.hK.len _ hjl;refine ED [2,3,4,5,0,1] AJ (DJ rfl (DD ?_));refine⟨i.arg,FA,fn,fc,SA,sn,sc,ss,rfl,rfl,⟨hja,?_,h2,hu⟩⟩;rw[bT];(try dsimp only);omega
  refine DU k19 ?_;refine Db ?_;refine C_ ?_;by_cases k20:i.op=20
  ·have d20:decide (i.op=20)=τ:=AUB k20;have bT:JW m.gs i=((1:Int),(0:Int)):=by rw[hfx,k20];rfl
   rw[k20]at KC hov;change ((1:Nat):Int)<=h at KC;refine DU d20 ?_;have hja:=qE (i:=i) (k:=f.nx) (.inr k20);have hjl:=(t.hK.next _ _ t.live t.hi _ hja).2;have hjl:=t.hK.len _ hjl;refine C9 rfl λK k1=>DD ?_;obtain⟨qk,hqk⟩:∃qk,ss.length=qk+1:=⟨ss.length-1,by omega⟩;obtain⟨v,hdv,hvm,hvk⟩:=QX hqk;refine Ml [.blk b5 171 [ε ζ i.op,ε υ (i.arg:Int)],.blk b4 269 [ε ζ (f.fn:Int),ε ζ (f.nx:Int),ε ζ (f.lo:Int),ε ζ (f.ba:Int)]] (Ep ⟨b,ft,m,fl,sl,FA,fn,fc,SA,sn,sc,⟨FL,tr,cq,fs,ss⟩⟩) (CF _) (uU 1) (λj=>j4 j.A 1 j.c (ss.drop qk)::Ep (Gj.up ⟨b,ft,m,fl,sl,FA,fn,fc,SA,sn,sc,⟨FL,tr,cq,fs,ss⟩⟩ j.j ⟨FL,tr,cq,fs,ss.take qk⟩)) _ (λw hw=>N9 ⟨b,ft,m,fl,sl,FA,fn,fc,SA,sn,sc,⟨FL,tr,cq,fs,ss⟩⟩ rfl _ 1 qk rfl AVc AVY w hw) ?_;rintro⟨A1,c1,IP,Hq,IQ,Ib,Hr,IU⟩-⟨w1,hw1⟩;have ACp:=Fv (hw1.La 3 rfl).len;obtain⟨g1z,hA1,hB1,hN1⟩:=N_ hw1 AJ;unfold Gj.up Ep JX KO KP at hN1;dsimp only at hA1;subst hA1;simp only[ASt,Ad,AR,Dw,Du,Dz,Jg,and_true]at hN1;rw[hdv];unfold uU j4 Gj.up Ep JX KO KP;refine EM ?_;refine DD ?_;refine DX (Dx (m:=1) (i:=0) (v:=ε υ (v:Int)) (.head _) AF (FQ (l:=[v]) rfl)) ?_;refine DD (k1 _ _ ?_);refine DY [1,2,3,4,5,6] ?_;refine DC [0,5,6,137] λG4 g4=>?_;replace g4:=Dy g4;replace zg:=Bd.mk (AO g1 g4);refine Ec (λhc=>?_) λhc=>?_
   ·refine DJ rfl (DD ?_);refine⟨i.arg,IP,Hq,IQ,Ib,Hr,IU,ss.take qk,rfl,rfl,⟨hja,?_,?_,?_⟩⟩
    ·rw[bT,Al];exact AVj
    ·rw[Al];omega
    ·exact λy hy=>hu y (BU hy)
   ·refine Cz ?_;try simp only[Di,Dq]
    refine DD ?_;refine⟨f.nx+1,IP,Hq,IQ,Ib,Hr,IU,ss.take qk,rfl,rfl,⟨JM AL AVS,?_,?_,?_⟩⟩
    ·rw[bT,Al];exact AVj
    ·rw[Al];omega
    ·exact λy hy=>hu y (BU hy)
  refine DU k20 ?_;have hop:6<=i.op/\i.op<=17:=by omega
  have hp2:Kk i.op=2:=by unfold Kk;repeat' (first|rfl|rw[ATv AL]|rw[ATt AL])
  have hp1:Gy i.op=1:=by unfold Gy;repeat' (first|rfl|rw[ATv AL]|rw[ATt AL])
  have bT:JW m.gs i=((2:Int),(1:Int)):=by rw[hfx,hp2,hp1];rfl
  rw[hp2]at KC;change ((2:Nat):Int)<=h at KC;obtain⟨qk,hqk⟩:∃qk,ss.length=qk+2:=⟨ss.length-2,by omega⟩;obtain⟨u,v,hdv,hum,hvm,hvk⟩:=mU hqk;have hsk:sn-1=qk+1:=by omega
  have hidx:((sn:Int)-1).toNat=qk+1:=by omega
  refine EL 4 rfl AL λq2 F7 hq2 EX=>?_;subst F7;replace hq2:=AAM (AO hq2 EX);clear EX;refine Cw λK k1=>Cw λK k2=>?_;refine Df (λ_ _=>True) (λF' L' => ∃(r5:Bool),EH F' G1 [0,5,6]/\F' 41=θ r5/\L'=[.blk b5 171 [ε ζ i.op,ε υ (i.arg:Int)],.blk b4 269 [ε ζ (f.fn:Int),ε ζ (f.nx:Int),ε ζ (f.lo:Int),ε ζ (f.ba:Int)],.blk b 195 [ξ m.TA m.tn m.tc,ξ m.FA m.fn m.fc,ε ζ (fl:Int),ε ζ (sl:Int),ε ζ FL,ε ζ tr,ξ FA fn fc,ξ (σ ⟨q2,0,ν⟩) sn sc,ε ζ cq],.row (ξ FA fn fc) 269 4 fn (cl MF fs),.row (ξ (σ ⟨q2,0,ν⟩) sn sc) 29 1 sn (FU ss),OO ft m]/\(r5=ο->(i.op=9\/i.op=10)→¬v=0)) ?_ ?_
  ·by_cases k9:i.op=9
   ·have d9:decide (i.op=9)=τ:=AUB k9;refine Cy rfl (DU (AO d9 hidx) ?_);refine DX (Dx (m:=1) (i:=qk+1) (v:=ε υ (v:Int)) (DN (k:=4) rfl) AF (FQ hvk)) ?_;refine DU (AO d9 hidx) ?_;exact⟨_,rfl,λe _=>by have:=AUD e;omega⟩
   ·by_cases k10:i.op=10
    ·have d10:decide (i.op=10)=τ:=AUB k10;refine Cy rfl (DU (AO k9 (AO d10 hidx)) ?_);refine DX (Dx (m:=1) (i:=qk+1) (v:=ε υ (v:Int)) (DN (k:=4) rfl) AF (FQ hvk)) ?_;refine DU (AO k9 (AO d10 hidx)) ?_;exact⟨_,rfl,λe _=>by have:=AUD e;omega⟩
    ·refine Cy rfl (DU (AO k9 k10) ?_);refine⟨ο,rfl,?_⟩;simp[k9,k10]
  intro G5 L' _ hF;obtain⟨r5,zq,AFx,rfl,iQ⟩:=hF;have g5:=AO (Dy zq) AFx;refine k2 _ _ (C_ ?_);cases r5 with
  | true =>
   replace zg:=Bd.mk (AO g1 g5);refine DD ?_;refine C9 rfl λK k2=>DD ?_;refine Dh MG (λj:Ov=>Ep (Gj.up ⟨b,ft,m,fl,sl,FA,fn,fc,σ ⟨q2,0,ν⟩,sn,sc,⟨FL,tr,cq,fs,ss⟩⟩ j ⟨4,2,cq,fs,ss⟩)) _ (λw hw=>Kl ⟨b,ft,m,fl,sl,FA,fn,fc,σ ⟨q2,0,ν⟩,sn,sc,⟨FL,tr,cq,fs,ss⟩⟩ rfl 2 w hw) ?_;rintro⟨IP,Hq,IQ,Ib,Hr,IU⟩ -;unfold MG Gj.up Ep JX KO KP;refine EM ?_;refine DD (k2 _ _ ?_);refine C8 (EP λw hw=>?_);exact⟨(⟨IP,Hq,IQ,Ib,Hr,IU⟩,⟨4,2,cq,fs,ss⟩),rfl,(MN.stop hp (.inr rfl) hp.hsl hp.hfl hp.u).n n42,hw.sub (Az [_,_,_,_] _)⟩
  |false =>
  replace zg:=Bd.mk (AO g1 g5);refine DD ?_;refine Cz (k1 _ _ ?_);have hz:=iQ rfl;refine DC [0,5,6] λG6 g6=>?_;replace g6:=Dy g6;refine C9 rfl λK k1=>?_;replace zg:=Bd.mk (AO g1 g6);refine DD ?_;refine Ml [.blk b5 171 [ε ζ i.op,ε υ (i.arg:Int)],.blk b4 269 [ε ζ (f.fn:Int),ε ζ (f.nx:Int),ε ζ (f.lo:Int),ε ζ (f.ba:Int)]] (Ep ⟨b,ft,m,fl,sl,FA,fn,fc,σ ⟨q2,0,ν⟩,sn,sc,⟨FL,tr,cq,fs,ss⟩⟩) (CF _) (uU 2) (λj=>j4 j.A 2 j.c (ss.drop qk)::Ep (Gj.up ⟨b,ft,m,fl,sl,FA,fn,fc,σ ⟨q2,0,ν⟩,sn,sc,⟨FL,tr,cq,fs,ss⟩⟩ j.j ⟨FL,tr,cq,fs,ss.take qk⟩)) _ (λw hw=>N9 ⟨b,ft,m,fl,sl,FA,fn,fc,σ ⟨q2,0,ν⟩,sn,sc,⟨FL,tr,cq,fs,ss⟩⟩ rfl _ 2 qk rfl AVc AVY w hw) ?_;rintro⟨A1,c1,IP,Hq,IQ,Ib,Hr,IU⟩-⟨w1,hw1⟩;have ACp:=Fv (hw1.La 3 rfl).len;obtain⟨g1z,hA1,hB1,hN1⟩:=N_ hw1 AJ;unfold Gj.up Ep JX KO KP at hN1;dsimp only at hA1;subst hA1;simp only[ASt,Ad,AR,Dw,Du,Dz,Jg,and_true]at hN1;rw[hdv];unfold uU j4 Gj.up Ep JX KO KP;refine EM ?_;refine DD (k1 _ _ ?_);refine DY [0,5,6,1,2,3,4] ?_;refine DC [0,5,6,10] λG7 g7=>?_;replace g7:=Dy g7;refine F8 5 rfl λhlx=>?_;have hly:=Fv hlx;rw[Al]at hly;refine ED [0,1,2,3,5,6] AJ (K3 (EB [(τ,0),(τ,1),(τ,2),(τ,3),(τ,4),(τ,5),(τ,6),(τ,7),(τ,8),(ο,9),(ο,10)] [10] ?_));replace zg:=Bd.mk (AO g1 g7);refine DD ?_;refine DX (Dx (m:=1) (i:=0) (v:=ε υ (u:Int)) (.head _) AF (FQ (l:=[u,v]) rfl)) ?_;refine DD ?_;refine DX (Dx (m:=1) (i:=1) (v:=ε υ (v:Int)) (.head _) AF (FQ (l:=[u,v]) rfl)) ?_;refine DD ?_;refine Ee (λz:Nat=>ε υ (z:Int)) (λz=>z<18446744073709551616) (λw hw=>ZP i.op u v (hu u hum) (hu v hvm) hz w) ?_;intro z hz2;refine DD ?_;refine Dh MG (λj=>Ep (Gj.up ⟨b,ft,m,fl,sl,IP,Hq,IQ,Ib,Hr,IU,⟨FL,tr,cq,fs,ss.take qk⟩⟩ j ⟨FL,tr,cq,fs,ss.take qk++[z]⟩)) _ (λw hw=>Km ⟨b,ft,m,fl,sl,IP,Hq,IQ,Ib,Hr,IU,⟨FL,tr,cq,fs,ss.take qk⟩⟩ rfl _ z rfl AWj w hw) ?_;rintro⟨O0,O1,O3,VD,UH,VE⟩ -;unfold MG Gj.up Ep JX KO KP;refine EM ?_;refine DD ?_;refine⟨f.nx+1,O0,O1,O3,VD,UH,VE,ss.take qk++[z],rfl,rfl,⟨JM AL AVS,?_,?_,?_⟩⟩
  ·rw[bT];simp only[Ag,BI,Al];exact AVj
  ·simp only[Ag,BI,Al];omega
  ·intro y hy;rcases AV.1 hy with hy|hy
   ·exact hu y (BU hy)
   ·rw[BH.1 hy];exact hz2
 intro G8 L' _ hF;obtain⟨q,IP,Hq,IQ,Ib,Hr,IU,NU,Nk,Ms,rfl,hsm⟩:=hF;have zg:=Bd.mk g1;have g8:=AO (Dy Nk) Ms;refine k0 _ _ (DY [4,5,0,1,2,3] ?_);refine DC [0,6] λG9 g9=>?_;replace zg:=Bd.mk g8;replace g9:=Dy g9;refine DJ rfl ?_;replace zg:=Bd.mk g9;refine DD ?_;refine Dh MG (λj:Ov=>Ep (Gj.up ⟨b,ft,m,fl,sl,IP,Hq,IQ,Ib,Hr,IU,⟨FL,tr,cq,fs,NU⟩⟩ j ⟨FL,tr,cq,r++[(⟨f.fn,q,f.lo,f.ba⟩:O5)],NU⟩)) _ (λw hw=>UD ⟨b,ft,m,fl,sl,IP,Hq,IQ,Ib,Hr,IU,⟨FL,tr,cq,fs,NU⟩⟩ rfl _ q rfl hfs AVx w hw) ?_;rintro⟨O0,O1,O3,VD,UH,VE⟩ -;unfold MG Gj.up Ep JX KO KP;refine EM ?_;refine DD ?_;refine⟨_,rfl,λw hw=>?_⟩;subst h1s;exact⟨((⟨O0,O1,O3,VD,UH,VE⟩:Ov),(⟨1,tr,cq,r++[(⟨f.fn,q,f.lo,f.ba⟩:O5)],NU⟩:MP)),rfl,(MN.go hp t hsm.nx hsm.len hsm.le hsm.u).n n12,hw.sub (Az [_,_,_,_] _)⟩
structure AIP(m:Ei)(fl sl:Nat)(i:Ins)(p:MP):Prop where
 mi:MN m fl sl p
 mh:p.FL=2->i.op=23
theorem jH.one{m fl sl i p}(h:jH m fl sl p):AIP m fl sl i p:=⟨h.i,λe=>absurd e h.n⟩
theorem AAT op:Gy op<=2:=by
 unfold Gy;repeat' split
 all_goals omega
theorem AAU x{b}(hb:x.b=b)(hv:(Mw x.m).1=0){r f g i h}(hp:MN x.m x.fl x.sl x.p)(t:KJ x.m x.p r f g i h)(h1s:x.p.FL=1)(hfl:x.fl<=256)(hsl:x.sl<=16384)W(hst:St (DV (Ep x)) W (Ep x) W):
  Calls AGm 144 #[π (σ ⟨b,0,ν⟩)] W
  λen w' => ∃j:Ov×MP,en=κ (MG j)/\AIP x.m x.fl x.sl i j.2/\St (DV (Ep x)) W (Ep (x.up j.1 j.2)) w':=by
 subst hb;have j5:=hst.md (k:=3) rfl;obtain⟨M,hM⟩:∃M,DV (Ep x)=M:=⟨_,rfl⟩;rw[hM]at hst ⊢;clear hM;obtain⟨b,ft,m,fl,sl,FA,fn,fc,SA,sn,sc,⟨FL,tr,cq,fs,ss⟩⟩:=x;dsimp only at *;unfold Ep JX KO KP at hst;dsimp only at hst;have hln:=KF (hst.La 1 rfl).len;have hls:=Fv (hst.La 2 rfl).len;have hgl:=j5.Sr;have hgc:=j5.gs.cap;have hgm:=j5.gs.max;have hkn:=t.known;have hfs:fs=r++[f]:=t.hfs;have h1:fs.length<=fl:=hp.hfl;have h2:ss.length<=sl:=hp.hsl;have KC:=t.pop;have MZ:f.ba+h=ss.length:=t.he;have hnx:=t.nx;refine DL (M:=M) Tryz.func144 []  hst ?_;refine C9 rfl λK k0=>?_;have zs:=Bd.mk Hw;refine DR ?_;refine EW (Ep ⟨b,ft,m,fl,sl,FA,fn,fc,SA,sn,sc,⟨FL,tr,cq,fs,ss⟩⟩) (BB _) (λ_:Unit=>.tuple #[Xa f,Li i]) _ (λw hw=>jO ⟨b,ft,m,fl,sl,FA,fn,fc,SA,sn,sc,⟨FL,tr,cq,fs,ss⟩⟩ rfl t AVx w hw) ?_;intro _ _;unfold Xa Li;refine DR ?_;intro b2 hb2 hf2 b3 hb3 hf3;refine DR (k0 _ _ ?_);refine DC [0,2,3] λG1 g1=>?_;replace g1:=EK g1;refine Cw λK k0=>?_;have zg:=Bd.mk g1;refine Db ?_;refine C_ ?_;by_cases k21:i.op=21
 ·have d21:decide (i.op=21)=τ:=AUB k21;have hcl:=t.call k21;refine DU d21 ?_;refine C9 rfl λK k1=>DD ?_;refine Dh MG (λj:Ov×MP=>Ep (Gj.up ⟨b,ft,m,fl,sl,FA,fn,fc,SA,sn,sc,⟨FL,tr,cq,fs,ss⟩⟩ j.1 j.2)) _ (λw hw=>uZ ⟨b,ft,m,fl,sl,FA,fn,fc,SA,sn,sc,⟨FL,tr,cq,fs,ss⟩⟩ rfl hv hp t h1s k21 hfl hsl w hw) ?_;rintro⟨⟨IP,Hq,IQ,Ib,Hr,IU⟩,⟨JQ,RU,RZ,Qx,NU⟩⟩ hm1;unfold MG Gj.up Ep JX KO KP;refine EM ?_;refine DD (k1 _ _ ?_);refine C8 (EP λw hw=>?_);exact⟨(⟨IP,Hq,IQ,Ib,Hr,IU⟩,⟨JQ,RU,RZ,Qx,NU⟩),rfl,hm1.one,hw.sub (Az [_,_,_,_] _)⟩
 refine DU k21 ?_;refine Cz (k0 _ _ (Cw λK k0=>Db ?_));refine C_ ?_;by_cases k23:i.op=23
 ·have d23:decide (i.op=23)=τ:=AUB k23;have hh:=t.host k23;refine DU d23 ?_;refine DC [0,2,3] λG2 g2=>?_;replace g2:=Dy g2;refine C9 rfl λK k1=>?_;replace zg:=Bd.mk g2;refine DD ?_;refine DI (λw hw=>M8 i.arg w) ?_;try refine DD ?_
  refine k1 _ _ (DC [0,2,3,4] λG3 g3=>?_);replace g3:=Dy g3;refine Cw λK k1=>Cw λK k2=>?_;refine Df (λ_ _=>True) (λF' L' => ∃(r5:Bool),EH F' G3 [0,2,3]/\F' 50=θ r5/\L'=[.blk b3 171 [ε ζ i.op,ε υ (i.arg:Int)],.blk b2 269 [ε ζ (f.fn:Int),ε ζ (f.nx:Int),ε ζ (f.lo:Int),ε ζ (f.ba:Int)],.blk b 195 [ξ m.TA m.tn m.tc,ξ m.FA m.fn m.fc,ε ζ (fl:Int),ε ζ (sl:Int),ε ζ FL,ε ζ tr,ξ FA fn fc,ξ SA sn sc,ε ζ cq],.row (ξ FA fn fc) 269 4 fn (cl MF fs),.row (ξ SA sn sc) 29 1 sn (FU ss),OO ft m]/\(r5=ο→¬(JG i.arg<2/\(sl:Int)<(ss.length:Int)-JG i.arg+2))) ?_ ?_
  ·by_cases hA:((JG i.arg:Nat):Int)<2
   ·have dA:decide (((JG i.arg:Nat):Int)<2)=τ:=AUB hA;refine EB [(τ,0),(τ,1),(τ,2),(τ,3),(τ,4),(τ,5),(τ,6),(τ,7),(τ,8),(τ,9),(τ,10),(τ,11),(τ,12),(τ,13),(τ,14),(τ,15),(τ,16),(τ,17)] [] ?_;replace zg:=Bd.mk g3;exact AWc
   ·refine EB [(τ,0),(τ,1),(τ,2),(τ,3),(τ,4),(τ,5),(τ,6),(τ,7),(τ,8),(τ,9),(τ,10),(τ,11),(τ,12),(τ,13),(τ,14),(τ,15),(τ,16),(τ,17)] [] ?_;replace zg:=Bd.mk g3;refine DU hA ?_;exact⟨ο,rfl,λ_ hh=>by omega⟩
  intro G4 L' _ hF;obtain⟨r5,zq,ALg,rfl,iQ⟩:=hF;replace zg:=Bd.mk g3;have g4:=AO (Dy zq) ALg;refine k2 _ _ (C_ ?_);cases r5 with
  | true =>
   replace zg:=Bd.mk g4;refine DD ?_;refine C9 rfl λK k2=>DD ?_;refine Dh MG (λj:Ov=>Ep (Gj.up ⟨b,ft,m,fl,sl,FA,fn,fc,SA,sn,sc,⟨FL,tr,cq,fs,ss⟩⟩ j ⟨4,3,cq,fs,ss⟩)) _ (λw hw=>Kl ⟨b,ft,m,fl,sl,FA,fn,fc,SA,sn,sc,⟨FL,tr,cq,fs,ss⟩⟩ rfl 3 w hw) ?_;rintro⟨IP,Hq,IQ,Ib,Hr,IU⟩ -;unfold MG Gj.up Ep JX KO KP;refine EM ?_;refine DD (k2 _ _ ?_);refine C8 (EP λw hw=>?_);exact⟨(⟨IP,Hq,IQ,Ib,Hr,IU⟩,⟨4,3,cq,fs,ss⟩),rfl,((MN.stop hp (.inr rfl) hp.hsl hp.hfl hp.u).n n42).one,hw.sub (Az [_,_,_,_] _)⟩
  |false =>
  replace zg:=Bd.mk g4;refine DD ?_;refine Cz (k1 _ _ (Db ?_));refine Db ?_;refine C9 rfl λK k1=>DD ?_;refine Dh MG (λj:Ov=>Ep (Gj.up ⟨b,ft,m,fl,sl,FA,fn,fc,SA,sn,sc,⟨2,tr,(i.arg:Int),fs,ss⟩⟩ j ⟨2,tr,(i.arg:Int),r++[(⟨f.fn,f.nx+1,f.lo,f.ba⟩:O5)],ss⟩)) _ (λw hw=>UD ⟨b,ft,m,fl,sl,FA,fn,fc,SA,sn,sc,⟨2,tr,(i.arg:Int),fs,ss⟩⟩ rfl _ (f.nx+1) AL hfs AVx w hw) ?_;rintro⟨IP,Hq,IQ,Ib,Hr,IU⟩ -;unfold MG Gj.up Ep JX KO KP;refine EM ?_;refine DD (k1 _ _ ?_);refine C8 (EP λw hw=>?_);exact⟨((⟨IP,Hq,IQ,Ib,Hr,IU⟩:Ov),(⟨2,tr,(i.arg:Int),r++[(⟨f.fn,f.nx+1,f.lo,f.ba⟩:O5)],ss⟩:MP)),rfl,⟨MN.host hp t k23 (iQ rfl),λ_=>k23⟩,hw.sub (Az [_,_,_,_] _)⟩
 refine DU k23 ?_;refine Cz (k0 _ _ (DC [0,2,3] λG5 g5=>?_));replace g5:=Dy g5;refine C9 rfl λK k0=>?_;replace zg:=Bd.mk g5;refine DD ?_;refine DI (λw hw=>Sw i.op w) ?_;try refine DD ?_
 refine k0 _ _ (DC [0,2,3,6,7] λG6 g6=>?_);replace g6:=Dy g6;have hfx:=qG (m:=m) (i:=i) k21 k23;rw[hfx]at KC;dsimp only at KC;refine Cw λK k0=>Cw λK k1=>?_;refine Df (λ_ _=>True) (λF' L' => ∃(r5:Bool),EH F' G6 [0,2,3]/\F' 95=θ r5/\L'=[.blk b3 171 [ε ζ i.op,ε υ (i.arg:Int)],.blk b2 269 [ε ζ (f.fn:Int),ε ζ (f.nx:Int),ε ζ (f.lo:Int),ε ζ (f.ba:Int)],.blk b 195 [ξ m.TA m.tn m.tc,ξ m.FA m.fn m.fc,ε ζ (fl:Int),ε ζ (sl:Int),ε ζ FL,ε ζ tr,ξ FA fn fc,ξ SA sn sc,ε ζ cq],.row (ξ FA fn fc) 269 4 fn (cl MF fs),.row (ξ SA sn sc) 29 1 sn (FU ss),OO ft m]/\(r5=ο->Kk i.op<Gy i.op->ss.length-Kk i.op+Gy i.op<=sl)) ?_ ?_
 ·by_cases hA:((Kk i.op:Nat):Int)<((Gy i.op:Nat):Int)
  ·have dA:decide (((Kk i.op:Nat):Int)<((Gy i.op:Nat):Int))=τ:=AUB hA;have hp9:=AAT i.op;refine EB [(τ,0),(τ,1),(τ,2),(τ,3),(τ,4),(τ,5),(τ,6),(τ,7),(τ,8),(τ,9),(τ,10),(τ,11),(τ,12),(τ,13),(τ,14),(τ,15),(τ,16),(τ,17),(τ,18),(τ,19)] [] ?_;replace zg:=Bd.mk g6;exact AWc
  ·refine EB [(τ,0),(τ,1),(τ,2),(τ,3),(τ,4),(τ,5),(τ,6),(τ,7),(τ,8),(τ,9),(τ,10),(τ,11),(τ,12),(τ,13),(τ,14),(τ,15),(τ,16),(τ,17),(τ,18),(τ,19)] [] ?_;replace zg:=Bd.mk g6;refine DU hA ?_;exact⟨ο,rfl,λ_ hh=>by omega⟩
 intro G7 L' _ hF;obtain⟨r5,zq,ALh,rfl,iQ⟩:=hF;replace zg:=Bd.mk g6;have g7:=AO (Dy zq) ALh;refine k1 _ _ (C_ ?_);cases r5 with
 | true =>
  replace zg:=Bd.mk g7;refine DD ?_;refine C9 rfl λK k1=>DD ?_;refine Dh MG (λj:Ov=>Ep (Gj.up ⟨b,ft,m,fl,sl,FA,fn,fc,SA,sn,sc,⟨FL,tr,cq,fs,ss⟩⟩ j ⟨4,3,cq,fs,ss⟩)) _ (λw hw=>Kl ⟨b,ft,m,fl,sl,FA,fn,fc,SA,sn,sc,⟨FL,tr,cq,fs,ss⟩⟩ rfl 3 w hw) ?_;rintro⟨IP,Hq,IQ,Ib,Hr,IU⟩ -;unfold MG Gj.up Ep JX KO KP;refine EM ?_;refine DD (k1 _ _ ?_);refine C8 (EP λw hw=>?_);exact⟨(⟨IP,Hq,IQ,Ib,Hr,IU⟩,⟨4,3,cq,fs,ss⟩),rfl,((MN.stop hp (.inr rfl) hp.hsl hp.hfl hp.u).n n42).one,hw.sub (Az [_,_,_,_] _)⟩
 |false =>
 replace zg:=Bd.mk g7;refine DD ?_;refine Cz (k0 _ _ ?_);have hov:=iQ rfl;refine DC [0,2,3] λG8 g8=>?_;replace g8:=Dy g8;replace zg:=Bd.mk g8;refine Db ?_;refine DK (Db ?_);refine C_ ?_;by_cases k22:i.op=22
 ·have d22:decide (i.op=22)=τ:=AUB k22;refine DU d22 ?_;refine DJ rfl (DD ?_);refine Dh MG (λj:Ov×MP=>Ep (Gj.up ⟨b,ft,m,fl,sl,FA,fn,fc,SA,sn,sc,⟨FL,tr,cq,fs,ss⟩⟩ j.1 j.2)) _ (λw hw=>AAQ ⟨b,ft,m,fl,sl,FA,fn,fc,SA,sn,sc,⟨FL,tr,cq,fs,ss⟩⟩ rfl hp t h1s k22 hfl hsl w hw) ?_;rintro⟨⟨IP,Hq,IQ,Ib,Hr,IU⟩,⟨JQ,RU,RZ,Qx,NU⟩⟩ hm1;unfold MG Gj.up Ep JX KO KP;refine EM ?_;refine DD ?_;refine⟨_,rfl,λw hw=>?_⟩;exact⟨(⟨IP,Hq,IQ,Ib,Hr,IU⟩,⟨JQ,RU,RZ,Qx,NU⟩),rfl,hm1.one,hw.sub (Az [_,_,_,_] _)⟩
 refine DU k22 ?_;refine Db ?_;refine C_ ?_;by_cases k24:i.op=24
 ·have d24:decide (i.op=24)=τ:=AUB k24;refine DU d24 ?_;refine DJ rfl (DD ?_);refine Dh MG (λj:Ov=>Ep (Gj.up ⟨b,ft,m,fl,sl,FA,fn,fc,SA,sn,sc,⟨FL,tr,cq,fs,ss⟩⟩ j ⟨4,1,cq,fs,ss⟩)) _ (λw hw=>Kl ⟨b,ft,m,fl,sl,FA,fn,fc,SA,sn,sc,⟨FL,tr,cq,fs,ss⟩⟩ rfl 1 w hw) ?_;rintro⟨IP,Hq,IQ,Ib,Hr,IU⟩ -;unfold MG Gj.up Ep JX KO KP;refine EM ?_;refine DD ?_;refine⟨_,rfl,λw hw=>?_⟩;exact⟨(⟨IP,Hq,IQ,Ib,Hr,IU⟩,⟨4,1,cq,fs,ss⟩),rfl,((MN.stop hp (.inr rfl) hp.hsl hp.hfl hp.u).n n42).one,hw.sub (Az [_,_,_,_] _)⟩
 refine DU k24 ?_;refine Db ?_;refine C_ ?_;by_cases k25:i.op=25
 ·have d25:decide (i.op=25)=τ:=AUB k25;refine DU d25 ?_;refine DJ rfl (DD ?_);refine⟨_,rfl,λw hw=>?_⟩;exact⟨(⟨FA,fn,fc,SA,sn,sc⟩,⟨3,tr,cq,fs,ss⟩),rfl,((MN.stop hp (.inl rfl) hp.hsl hp.hfl hp.u).n n32).one,hw.sub (ASL [_,_] _)⟩
 refine DU k25 ?_;refine DJ rfl (DD ?_);refine Dh MG (λj:Ov×MP=>Ep (Gj.up ⟨b,ft,m,fl,sl,FA,fn,fc,SA,sn,sc,⟨FL,tr,cq,fs,ss⟩⟩ j.1 j.2)) _ (λw hw=>jP ⟨b,ft,m,fl,sl,FA,fn,fc,SA,sn,sc,⟨FL,tr,cq,fs,ss⟩⟩ rfl hp t h1s AL hov hfl hsl w hw) ?_;rintro⟨⟨IP,Hq,IQ,Ib,Hr,IU⟩,⟨JQ,RU,RZ,Qx,NU⟩⟩ hm1;unfold MG Gj.up Ep JX KO KP;refine EM ?_;refine DD ?_;refine⟨_,rfl,λw hw=>?_⟩;exact⟨(⟨IP,Hq,IQ,Ib,Hr,IU⟩,⟨JQ,RU,RZ,Qx,NU⟩),rfl,hm1.one,hw.sub (Az [_,_,_,_] _)⟩
end Go.Proofs.YtnkgiaimcpbhkaaGreat
