import Derived.Test.YtnkgiaimcpbhkaaGreatDells1
import Derived.Lib.SlBytesConst
import Derived.ArgAppend
import Derived.Laws.CopyRow
import Derived.Laws.MakeOwn
import Derived.Deep.OwnRows
import Derived.MapKept
import Derived.Maps.RangeRun
import Derived.Test.YtnkgiaimcpbhkaaGreatDells0
import Derived.Laws.BitsLemmas
import Derived.Laws.Bits64b
set_option linter.all false
set_option maxRecDepth 100000
set_option maxHeartbeats 4000000
open List renaming length_append→Ag,replicate→Ah,length_take→Al,cons_append→Ad,map_cons→BJ,length→CP,mem_mergeSort→ATM
open Array renaming replicate→CQ,getElem?_modify→ATB,eraseIdxIfInBounds→ATW,toList_eraseIdx→ATf
open Bool renaming false→ο,true→τ
open Go.Ending renaming returned→κ
open Go.IntKind renaming i64→ζ,u64→υ,u8→η
open Option renaming none→ν,some→σ
open Go.Value renaming bool→θ,int→ε,pointer→π,slice→ξ
namespace Go.Proofs.YtnkgiaimcpbhkaaGreat
open Tryz renaming prog→AGm
open Go.RowKit Go.Shelf
structure Sd(w:World)(D:Nat->Prop)(size:Nat)(A:Option Addr)(n c:Nat)(xs:List Value):Prop where
 len:xs.length=n*size
 cap:n<=c
 max:c<=9223372036854775807
 cells:0<n→∃b off,A=σ ⟨b,off,ν⟩/\D b∧∀i v,xs[i]?=σ v->w.cell? ⟨b,off+i,ν⟩=σ v
section
variable{W w w' v v0:World}{D D':Nat->Prop}{B size n c:Nat}{A:Option Addr}{xs:List Value}{L:List DW}{M:List Nat}{P:Program}
theorem Sd.sl(h:Sd w D size A n c xs)(hD:∀b,D b->b<B):Sl w B size A n c xs :=
 ⟨h.len,h.cap,h.max,λhn=>by
  obtain⟨b,off,e,hb,hc⟩:=h.cells hn;exact⟨b,off,e,hD b hb,hc⟩⟩
theorem Sl.sd(h:Sl w B size A n c xs)(hD:∀b,b<B->D b):Sd w D size A n c xs :=
 ⟨h.len,h.cap,h.max,λhn=>by
  obtain⟨b,off,e,hb,hc⟩:=h.cells hn;exact⟨b,off,e,hD b hb,hc⟩⟩
theorem Sd.same(h:Sd w D size A n c xs)(hs:∀b,D b->w'.heap[b]?=w.heap[b]?)(hD:∀b,D b->D' b):Sd w' D' size A n c xs :=
 ⟨h.len,h.cap,h.max,λhn=>by
  obtain⟨b,off,e,hb,hc⟩:=h.cells hn;exact⟨b,off,e,hD b hb,λi u hu=>(World.cell?_of_block (a:=⟨b,off+i,ν⟩) (hs b hb)).trans (hc i u hu)⟩⟩
theorem Sd.mono(h:Sd w D size A n c xs)(hD:∀b,D b->D' b):Sd w D' size A n c xs:=h.same (λ_ _=>rfl) hD
theorem Sd.nil:Sd w D size ν 0 0 []:=⟨by simp,Ay _,by omega,λh=>by omega⟩
theorem Sd.JA{base t}(h:w.ownsRow base t size (ξ A n c) n xs)(hD:∀g,(Value.slice A n c).ownBlock=σ g->D g):Sd w D size A n c xs:=by
 have hs:=Sl.JA h;refine⟨hs.len,hs.cap,hs.max,λhn=>?_⟩;obtain⟨b,off,e,hb,hc⟩:=hs.cells hn;refine⟨b,off,e,hD b ?_,hc⟩;rw[e];rcases h.2 with⟨hv,_⟩|⟨g,cap,cur,hv,_⟩
 ·rw[e]at hv;cases hv
 ·rw[e]at hv;cases hv;simp[Value.ownBlock]
theorem Sd.Ta{base t}(h:w.ownsRow base t size (ξ A n c) n xs):Sd w (λb=>base<=b/\b<w.heap.size) size A n c xs:=Sd.JA h λg hg=>h.lt g hg
def snap(M:List Nat)(W v:World)(foot:List Nat):DW:=.dat foot (λw=>Ii M W v∧∀b∈foot,w.heap[b]?=v.heap[b]?) (λ_ _ hk h=>⟨h.1,λb hb=>(hk b hb).trans (h.2 b hb)⟩)
def Dm(M:List Nat)(W:World)(foot:List Nat)(b:Nat):Prop:=b∈foot\/(b<W.heap.size/\b∉M)
def rG(W v:World)(K:List DW)(foot:List Nat):Prop := ∀b,b∈foot↔W.heap.size<=b/\b<v.heap.size∧∀r∈K,b∉r.foot
theorem Iw M W v foot:(snap M W v foot).foot=foot:=rfl
theorem MH M W v foot L k:look (snap M W v foot::L) k=look L k:=rfl
theorem MI M W v foot L k us:JI (snap M W v foot::L) k us=snap M W v foot::JI L k us:=rfl
theorem Dt M W v foot L b:Qc (snap M W v foot::L) b=Qc L b:=rfl
theorem R5 M W v foot L b:UT (snap M W v foot::L) b=UT L b:=rfl
theorem OZ W' M' M W v foot L:Ht W' M' (snap M W v foot::L)=Ht W' M' L:=rfl
theorem KW M W v foot L k:fresh (snap M W v foot::L) k=fresh L k:=rfl
theorem St.KX{foot}(hw:St M W L w)(hm:snap M W v foot∈L):∀b,Dm M W foot b->w.heap[b]?=v.heap[b]? := λb hb=>by
 have hh:Ii M W v∧∀b∈foot,w.heap[b]?=v.heap[b]? := hw.holds _ hm;rcases hb with hb|⟨hb,hbm⟩
 ·exact hh.2 b hb
 ·exact(hw.ES.block b hb hbm).trans (hh.1.block b hb hbm).symm
theorem St.Zk{foot}(hw:St M W L w)(hm:snap M W v foot∈L):∀b,Dm M W foot b->b<w.heap.size:=λb hb=>by
 rcases hb with hb|⟨hb,_⟩
 ·exact(hw.own _ hm b hb).2
 ·exact BS hb hw.ES.size
theorem Sd.at{foot}(h:Sd v (Dm M W foot) size A n c xs)(hw:St M W L w)k(hk:nth L k=σ (snap M W v foot)):Sl w w.heap.size size A n c xs:=by
 have hm:snap M W v foot∈L:=by rw[GY]at hk;exact AU hk
 exact(h.same (hw.KX hm) λb hb=>hw.Zk hm b hb).sl λb hb=>hb
theorem Sd.ld1{foot b off i m T u}(h:Sd v (Dm M W foot) size (σ ⟨b,off,ν⟩) n c xs)k(hk:nth L k=σ (snap M W v foot))(ht:Hd P T=σ (ο,m))(hv:xs[i]?=σ u):LD P M W L T ⟨b,off+i,ν⟩ u:=λw hw=>by
 have hs:=h.at hw k hk;have hn:0<n:=by
  rcases Cm n with h0|h0
  ·have h1:=hs.len;exact AWM
  ·exact h0
 obtain⟨b',off',e,hb,hc⟩:=hs.cells hn;cases e;exact Hy ht (hc i u hv)
theorem Sd.ld{foot b off i T vs}(h:Sd v (Dm M W foot) size (σ ⟨b,off,ν⟩) n c xs)k(hk:nth L k=σ (snap M W v foot))(hn:0<n)(ht:Hd P T=σ (τ,vs.length))(hv:(xs.drop i).take vs.length=vs):LD P M W L T ⟨b,off+i,ν⟩ (.agg vs.toArray):=λw hw=>by
 obtain⟨b',off',e,hb,hc⟩:=(h.at hw k hk).cells hn;cases e;have hv':∀(j:Nat) v,vs[j]?=σ v->xs[i+j]?=σ v:=λj v h=>by
  rw[<-hv,Bu]at h;split at h
  ·simpa using h
  ·cases h
 refine KT ht vs rfl λj v hj=>?_;rw[Addr.add_lit,Cn];exact hc _ _ (hv' j v hj)
theorem DN{L k}{r:DW}(h:nth L k=σ r):r∈L:=by rw[GY]at h;exact AU h
theorem Fs(hap:L.Pairwise (λr s => ∀b∈r.foot,b∉s.foot)){i j r s}(hi:nth L i=σ r)(hj:nth L j=σ s)(hne:i≠j):∀b∈r.foot,b∉s.foot:=by
 rw[GY]at hi hj;obtain⟨hi1,hi2⟩:=Ab.1 hi;obtain⟨hj1,hj2⟩:=Ab.1 hj;have hp:=Cj.1 hap;intro b hb hbs;rcases Nat.lt_or_gt_of_ne hne with hlt|hlt
 ·exact hp i j hi1 hj1 hlt b (hi2▸hb) (hj2▸hbs)
 ·exact hp j i hj1 hi1 hlt b (hj2▸hbs) (hi2▸hb)
theorem St.Lm{foot jx k r}(hv:St M W L v)(hf:rG W v (Dl jx L) foot)(hk:nth L k=σ r)(hkj:k∉jx)(hM:∀m∈M,∃s∈Dl jx L,m∈s.foot):∀b∈r.foot,b∈foot:=λb hb=>by
 have hap:∀s∈Dl jx L,b∉s.foot:=λs hs=>by
  obtain⟨j,hj,hjs⟩:=Nb hs;exact Fs hv.apart hk hjs (λe=>hkj (e▸hj)) b hb
 have ho:=hv.own r (DN hk) b hb;refine(hf b).2 ⟨?_,ho.2,hap⟩;rcases ho.1 with h1|h1
 ·exact h1
 ·obtain⟨s,hs,hms⟩:=hM b h1;exact absurd hms (hap s hs)
theorem St.Ud{foot wX jx}(hv:St M W L v)(hf:rG W v (Dl jx L) foot)k(hk:nth L k=σ (snap M W v0 wX))(hkj:k∉jx)(hM:∀m∈M,∃s∈Dl jx L,m∈s.foot):(∀b,Dm M W wX b->v.heap[b]?=v0.heap[b]?)/\(∀b,Dm M W wX b->Dm M W foot b) :=
 ⟨hv.KX (DN hk),λb hb=>hb.imp (hv.Lm hf hk hkj hM b) id⟩
theorem Dm.base{foot b}(hb:b<W.heap.size):Dm [] W foot b:=.inr ⟨hb,by simp⟩
theorem rG.all{foot}(hf:rG W v [] foot){b}(hb:b<v.heap.size):Dm [] W foot b:=by
 rcases ASq b W.heap.size with h|h
 ·exact Dm.base h
 ·exact .inl ((hf b).2 ⟨h,hb,by simp⟩)
theorem Kt{n c F Q}jx(hnd:jx.Nodup)
  (h:∀v foot,St M W L v->rG W v (Dl jx L) foot->CV P M W n c F (snap M W v foot::Dl jx L) Q):CV P M W n c F L Q:=λa w ha hw=>by
 classical
 have hw2:=hw.pick hnd;have hf:rG W w (Dl jx L) ((List.range w.heap.size).filter λb=>decide (W.heap.size<=b∧∀r∈Dl jx L,b∉r.foot)):=λb=>by
  simp only[Bl,ASs,AT5];exact⟨λh=>⟨h.2.1,h.1,h.2.2⟩,λh=>⟨h.2.1,h.1,h.2.2⟩⟩
 refine h w _ hw hf a w ha (hw2.add _ ⟨hw.ES,λ_ _=>rfl⟩ (λb hb=>?_) λs hs b hb=>?_)
 ·have:=(hf b).1 hb;exact⟨.inl this.1,this.2.1⟩
 ·exact((hf b).1 hb).2.2 s hs
theorem F8{c nn F Q}k{A m d size t xs}(hk:nth L k=σ (.row (ξ A m d) t size m xs))
  (h:xs.length=m*size->CV P M W nn c F L Q):CV P M W nn c F L Q:=λa w ha hw=>h (hw.La k hk).len a w ha hw
def Nw(w w':World)(b:Nat):Prop:=w.heap.size<=b/\b<w'.heap.size
theorem St.ny(hs:St M W L w')(hsz:W.heap.size<=w.heap.size)(hlt:∀r∈L,∀b∈r.foot,b<w.heap.size)(hle:w.heap.size<=w'.heap.size):∃foot,St M W (snap M W w' foot::L) w'∧∀b,b∈foot↔Nw w w' b:=by
 refine⟨List.range' w.heap.size (w'.heap.size-w.heap.size),hs.add _ ⟨hs.ES,λ_ _=>rfl⟩ (λb hb=>?_) λs hs' b hb hbs=>?_,λb=>?_⟩
 ·have:=ASa.1 hb;exact⟨.inl AL,by omega⟩
 ·have:=ASa.1 hb;have:=hlt s hs' b hbs;omega
 ·rw[ASa];unfold Nw;omega
theorem WH{ι:Sort _}{g args K}(f:ι->Value)(Φ:ι->World->World->Prop)
  (h:∀w,St M W L w->Calls P g args w (λe w' => ∃i,e=κ (f i)/\Φ i w w'∧Below w.heap.size w w'))
  (hK:∀i w w' foot,St M W L w->St M W (snap M W w' foot::L) w'→Φ i w w'→(∀b,Nw w w' b->b∈foot)->K τ (f i) (snap M W w' foot::L)):I6 P M W g args L K:=λw hw =>
 (h w hw).mono (by
  rintro e w' ⟨i,rfl,hi,hb⟩;obtain⟨foot,hs,hf⟩:=(hw.quiet hb).ny hw.ES.size (λr hr b hb=>(hw.own r hr b hb).2) hb.size;exact⟨_,_,rfl,hs,hK i w w' foot hw hs hi λb hb=>(hf b).2 hb⟩)
theorem Ue{ι:Sort _}{g args K}k(f:ι->Value)(Φ:ι->World->World->Prop)(us:ι->List Value){b t cs}(hk:nth L k=σ (.blk b t cs))
  (h:∀w,St M W L w->Calls P g args w (λe w' => ∃i,e=κ (f i)/\Φ i w w'∧w'.heap[b]?=σ (.cells (us i).toArray t (0,0))/\Ii [b] w w'))
  (hK:∀i w w' foot,St M W L w->St M W (snap M W w' foot::L.set k (.blk b t (us i))) w'→Φ i w w'→(∀b,Nw w w' b->b∈foot)->K τ (f i) (snap M W w' foot::L.set k (.blk b t (us i)))):I6 P M W g args L K:=λw hw =>
 (h w hw).mono (by
  rintro e w' ⟨i,rfl,hi,hc,hb⟩;have hs0:=hw.mod hk hb hc;obtain⟨foot,hs,hf⟩:=hs0.ny hw.ES.size (λr hr c hc=>by
   rcases Ck hr with h5|rfl
   ·exact(hw.own r h5 c hc).2
   ·exact(hw.own _ (DN hk) c hc).2) hb.size
  exact⟨_,_,rfl,hs,hK i w w' foot hw hs hi λb hb=>(hf b).2 hb⟩)
theorem KY{g args K}ix(hnd:ix.Nodup)(h:I6 P M W g args (Dl ix L) K):I6 P M W g args L K:=λw hw=>h w (hw.pick hnd)
theorem QJ{c nn F Q b t cs}size n(hl:cs.length=n*size)(hn:n<=9223372036854775807)(h:CV P M W nn c F (.row (ξ (σ ⟨b,0,ν⟩) n n) t size n cs::L) Q):CV P M W nn c F (.blk b t cs::L) Q:=λa w ha hw=>h a w ha (hw.JR hl hn)
theorem St.Zl{foot}(hw:St M W L w)k(hk:nth L k=σ (snap M W v foot))(hM:∀m∈M,∃j r,nth L j=σ r/\m∈r.foot/\j≠k):∀y∈foot,Nw W w y:=λy hy=>by
 have ho:=hw.own _ (DN hk) y hy;refine⟨?_,ho.2⟩;rcases ho.1 with h1|h1
 ·exact h1
 ·obtain⟨j,r,hj,hr,hne⟩:=hM y h1;exact absurd hy (Fs hw.apart hj hk hne y hr)
theorem IW{c nn F Q}(p:Prop)(h:∀w,St M W L w->p)(hk:p->CV P M W nn c F L Q):CV P M W nn c F L Q:=λa w ha hw=>hk (h w hw) a w ha hw
theorem Ye{c nn F Q L'}(e:L=L')(h:CV P M W nn c F L' Q):CV P M W nn c F L Q:=e▸h
def rdR(b:Nat)(t:TypeId)(cs:List Value):DW:=.dat [b] (λw=>w.heap[b]?=σ (.cells cs.toArray t (cs.length,cs.length+1))) (λ_ _ hk h=>(hk b (by simp)).trans h)
theorem wY b t cs:(rdR b t cs).foot=[b]:=rfl
theorem dX b t cs L k:look (rdR b t cs::L) k=look L k:=rfl
theorem dY b t cs L k us:JI (rdR b t cs::L) k us=rdR b t cs::JI L k us:=rfl
theorem nz b t cs L k:Qc (rdR b t cs::L) k=Qc L k:=rfl
theorem Yf b t cs L k:fresh (rdR b t cs::L) k=fresh L k:=rfl
theorem Sl.AG1{b t cs}(hw:St M W L w)k(hk:nth L k=σ (rdR b t cs))(hl:cs.length=n*size)(hn:n<=9223372036854775807):Sl w w.heap.size size (σ ⟨b,0,ν⟩) n n cs:=by
 have hm:=DN hk;have hh:w.heap[b]?=σ (.cells cs.toArray t (cs.length,cs.length+1)):=hw.holds _ hm;exact⟨hl,Ay _,hn,λ_=>⟨_,_,rfl,(hw.own _ hm b (by simp[wY])).2,λi v hv=>by rw[Ao,cell_of_row w b i cs.toArray t _ hh];simpa using hv⟩⟩
theorem ABZ k{F}{d:Option Nat}{t e e' ty pos af gd x b cs K}
  (hk:nth L k=σ (.blk b e' cs)) (ht:P.underlying t=σ (.slice e)) (he:P.underlying e=σ (.int η)) (hx:ev F x=ξ (σ ⟨b,0,ν⟩) n c)
  (hK:K τ (ξ (σ ⟨b,0,ν⟩) n c) (L.set k (rdR b e' cs))):XV P M W ⟨d,.convert t t x,ty,pos,af,gd⟩ F L K:=λw hw=>by
 have hh:w.heap[b]?=σ (.cells cs.toArray e' (0,0)):=hw.holds _ (DN hk);have hsh:w.shape? b=σ (e',cs.length):=by unfold World.shape?;rw[hh];simp
 refine⟨_,_,w.freeze ⟨b,cs.length,ν⟩ 1,?_,?_,hK⟩
 ·simp only[execOp,hx];have:(convert t t (ξ (σ ⟨b,0,ν⟩) n c)).run P w=.ok (ξ (σ ⟨b,0,ν⟩) n c) (w.freeze ⟨b,cs.length,ν⟩ 1):=by
   simp[convert,run_underlying ht,run_underlying he,markStringish,hsh]
  simp[this]
 ·have hblk:(w.freeze ⟨b,cs.length,ν⟩ 1).heap[b]?=σ (.cells cs.toArray e' (cs.length,cs.length+1)):=by
   simp[World.freeze,ATB,hh]
  refine hw.replace hk rfl hblk (λc hc=>?_) (by simp[World.freeze]) rfl rfl rfl;have hne:b≠c:=λe=>hc AVN;simp[World.freeze,ATB,hne]
end
def cS:=AO (AO (AO @MH @MI) (AO @Dt @dX)) (AO (AO @dY @nz) (AO @KW @Yf))
section
variable{P:Program}{M:List Nat}{W:World}{L:List DW}
theorem Zm{F}{d:Option Nat}{t e ty pos af gd l c K}{bytes n:Nat}{kl kc u}
  (ht:Jy P t=σ (e,1,bytes)) (hu:Fb P e=σ [u]) (hl:ev F l=ε kl (n:Int)) (hc:ev F c=ε kc (n:Int)) (hb:bytes*n<=281474976710656) (h63:n<=9223372036854775807)
  (hK:∀b,W.heap.size<=b->fresh L b->K τ (ξ (σ ⟨b,0,ν⟩) n n) (.blk b e (Ah n u)::L)):
  XV P M W ⟨d,.makeSlice t l c,ty,pos,af,gd⟩ F L K:=by
 intro w hw;obtain⟨hut,i,z,hi,hz,hsz,hby,hzs,hsz0⟩:=QG ht;have hzc:z.cells = #[u]:=by
  unfold Fb at hu;rw[hi]at hu;simp only[hz]at hu;have:z.cells.toList=[u]:=by simpa using hu
  rw[<-this]
 have hb':(i.bytes:Int)*(n:Int)<=281474976710656:=by
  rw[hby];have h:((bytes*n:Nat):Int)<=281474976710656:=by omega
  rwa[AUW]at h
 have hr:=run_make (P:=P) w t e i z hut hi hz kl kc n n AL (B_ _) hb' AL;simp only[Bo,hsz,Ac,hzc]at hr;refine⟨_,_,_,?_,hw.alloc e (Ah n u),hK w.heap.size hw.ES.size (Ju hw)⟩;have e1:(Ah n u).toArray=madeCells #[u] n:=by rw[<-toList_madeCells_one]
 simp only[execOp,hl,hc,Sem.run_bind,hr,Result.andThen_ok,Sem.run_pure,e1]
variable{n:Nat}{F:Fr}
theorem St.ABa{w b t size n c cs}(h:St M W (.blk b t cs::L) w)(hl:cs.length=c*size)(hnc:n<=c)(hn:c<=9223372036854775807):St M W (.row (ξ (σ ⟨b,0,ν⟩) n c) t size n (cs.take (n*size))::L) w:=by
 have ho:=h.own _ (.head _);refine h.tail.add _ ⟨by rw[Al,hl,CW (ASc _ hnc)],.inr ⟨b,c,cs.toArray,rfl,Ar _,h.holds _ (.head _),hnc,by unfold maxLen;omega,by simpa using hl,by simp⟩⟩ ?_ ?_
 ·intro b' hb';exact ho b' AVa
 ·exact AW9
end
theorem Gl{p:Prop} [Decidable p](h:(!decide p)=τ):¬p:=by simpa using h
theorem F_{p:Prop} [Decidable p](h:(!decide p)=ο):¬ ¬p:=by simpa using h
def NF:List (Int×Int)->Int->Option Int
 |[],_=>ν
 |p::l,k=>if p.1=k then σ p.2 else NF l k
def Qe:List (Int×Int)->Int->Int->List (Int×Int)
 |[],k,v=>[(k,v)]
 |p::l,k,v=>if p.1=k then (k,v)::l else p::Qe l k v
def Xy:List (Int×Int)->Int->List (Int×Int)
 |[],_=>[]
 |p::l,k=>if p.1=k then l else p::Xy l k
def prV(p:Int×Int):Value×Value:=(ε ζ p.1,ε ζ p.2)
def MpH(w:World)(b:Nat)(l:List (Int×Int)):Prop := ∃(es:Array MapEntry)(cl:Nat),w.heap[b]?=σ (.map es cl)/\es.toList.map (λe=>(e.key,e.val))=l.map prV/\MapKept.Stamped es cl
theorem MpH.same{w w' b l}(h:MpH w b l)(e:w'.heap[b]?=w.heap[b]?):MpH w' b l:=by
 obtain⟨es,cl,h1,h2⟩:=h;exact⟨es,cl,e.trans h1,h2⟩
def mpR(b:Nat)(l:List (Int×Int)):DW:=.dat [b] (λw=>MpH w b l) (λ_ _ hk h=>h.same (hk b (by simp)))
theorem n_ b l L k:look (mpR b l::L) k=look L k:=rfl
theorem oC b l L k us:JI (mpR b l::L) k us=mpR b l::JI L k us:=rfl
theorem wZ b l L k:Qc (mpR b l::L) k=Qc L k:=rfl
theorem wh b l L k:UT (mpR b l::L) k=UT L k:=rfl
theorem dZ W M b l L:Ht W M (mpR b l::L)=Ht W M L:=rfl
theorem di b l L k:fresh (mpR b l::L) k=fresh L k:=rfl
theorem cMp:type_of% (AO @n_ (AO @oC (AO @wZ (AO @wh (AO @dZ @di))))):=AO @n_ (AO @oC (AO @wZ (AO @wh (AO @dZ @di))))
section
variable{M:List Nat}{W w:World}{L:List DW}
def DV(L:List DW):List Nat:=L.flatMap DW.foot
theorem St.self(hw:St M W L w):St (DV L) w L w :=
 ⟨Ii.refl _ _,hw.holds,λr hr b hb=>⟨.inr (BM.2 ⟨r,hr,hb⟩),(hw.own r hr b hb).2⟩,hw.apart⟩
end
def O6:List (Int×Value)->Int->Option Value
 |[],_=>ν
 |p::l,k=>if p.1=k then σ p.2 else O6 l k
def WI:List (Int×Value)->Int->Value->List (Int×Value)
 |[],k,v=>[(k,v)]
 |p::l,k,v=>if p.1=k then (k,v)::l else p::WI l k v
def Tc:List (Int×Value)->Int->List (Int×Value)
 |[],_=>[]
 |p::l,k=>if p.1=k then l else p::Tc l k
theorem MU{α β:Type}(f:α->β):∀(l:List α) (j:Nat),(l.eraseIdx j).map f=(l.map f).eraseIdx j
 |[],j=>by simp
 |a::l,0=>by simp
 |a::l,j+1=>by simp[MU f l j]
def Zn(p:Int×Value):Value×Value:=(ε ζ p.1,p.2)
theorem KZ(k:Int)(v:Value):∀(es:List MapEntry) (l:List (Int×Value)) (i:Nat),es.map (λe=>(e.key,e.val))=l.map Zn →
  (O6 l k=ν/\Instr.findNow (.int ζ) (ε ζ k) es i=σ ν/\WI l k v=l++[(k,v)]/\Tc l k=l) ∨
  (∃j x,O6 l k=σ x/\Instr.findNow (.int ζ) (ε ζ k) es i=σ (σ (i+j,x))/\l[j]?=σ (k,x)/\WI l k v=l.set j (k,v)/\Tc l k=l.eraseIdx j)
 |[],[],i,_=>.inl ⟨rfl,rfl,rfl,rfl⟩
 |[],p::l,i,h=>by simp at h
 |e::es,[],i,h=>by simp at h
 | e::es,p::l,i,h=>by
  obtain⟨⟨h1,h2⟩,h3⟩:(e.key=ε ζ p.1/\e.val=p.2)/\es.map (λe=>(e.key,e.val))=l.map Zn:=by simpa [Zn]using h
  by_cases hk:p.1=k
  ·refine .inr ⟨0,p.2,by simp[O6,hk],by simp[Instr.findNow,Instr.sameNow,h1,h2,hk],?_,by simp[WI,hk],by simp[Tc,hk]⟩;rw[<-hk];rfl
  ·have hk2:(k == p.1)=ο:=by simpa using λe:k=p.1=>hk e.symm
   rcases KZ k v es l (i+1) h3 with⟨a,b,c,d⟩|⟨j,x,a,b,c,d,e'⟩
   ·exact .inl ⟨by simp[O6,hk,a],by simp[Instr.findNow,Instr.sameNow,h1,hk2,b],by simp[WI,hk,c],by simp[Tc,hk,d]⟩
   ·refine .inr ⟨j+1,x,by simp[O6,hk,a],?_,by simpa using c,by simp[WI,hk,d],by simp[Tc,hk,e']⟩;rw[show i+(j+1)=i+1+j by omega];simp[Instr.findNow,Instr.sameNow,h1,hk2,b]
def rH(w:World)(b:Nat)(l:List (Int×Value)):Prop := ∃(es:Array MapEntry)(cl:Nat),w.heap[b]?=σ (.map es cl)/\es.toList.map (λe=>(e.key,e.val))=l.map Zn/\MapKept.Stamped es cl
theorem rH.same{w w' b l}(h:rH w b l)(e:w'.heap[b]?=w.heap[b]?):rH w' b l:=by
 obtain⟨es,cl,h1,h2⟩:=h;exact⟨es,cl,e.trans h1,h2⟩
theorem wm{l k}(h:O6 l k=ν):∀p∈l,p.1≠k:=by
 induction l with
 |nil=>simp
 | cons q l ih =>
  intro p hp;by_cases hq:q.1=k
  ·simp[O6,hq]at h
  ·rw[O6,ATt hq]at h;rcases AP.1 hp with rfl|hp
   ·exact hq
   ·exact ih h p hp
theorem wo{es:Array MapEntry}{l k}(h6:es.toList.map (λe=>(e.key,e.val))=l.map Zn)(h:O6 l k=ν):∀x∈es.toList,x.key ≠ ε ζ k:=λx hx e=>by
 have hm:(x.key,x.val)∈l.map Zn:=by rw[<-h6];exact BL.2 ⟨x,hx,rfl⟩
 obtain⟨p,hp,hpe⟩:=BL.1 hm;have h1:=(Bq hpe).1;rw[e]at h1;exact wm h p hp AIb
def JS(b:Nat)(l:List (Int×Value)):DW:=.dat [b] (λw=>rH w b l) (λ_ _ hk h=>h.same (hk b (by simp)))
theorem MV b l:(JS b l).foot=[b]:=rfl
theorem VJ b l L k:look (JS b l::L) k=look L k:=rfl
theorem VK b l L k us:JI (JS b l::L) k us=JS b l::JI L k us:=rfl
theorem Zo b l L k:Qc (JS b l::L) k=Qc L k:=rfl
theorem Zp b l L k:UT (JS b l::L) k=UT L k:=rfl
theorem R6 W M b l L:Ht W M (JS b l::L)=Ht W M L:=rfl
theorem R7 b l L k:fresh (JS b l::L) k=fresh L k:=rfl
theorem KM:type_of% (AO @VJ (AO @VK (AO @Zo (AO @Zp (AO @R6 @R7))))):=AO @VJ (AO @VK (AO @Zo (AO @Zp (AO @R6 @R7))))
def jl(P:Program)(t:TypeId)(z:Value):Prop := ∃k e i,P.underlying t=σ (.map k e)/\P.underlying k=σ (.int ζ)/\P.info? e=σ i/\i.zero=σ z
section
variable{P:Program}{M:List Nat}{W w:World}{L:List DW}
theorem M3{t z}(h:jl P t z):∃k e i,P.underlying t=σ (.map k e)/\P.underlying k=σ (.int ζ)/\P.info? e=σ i/\i.zero=σ z:=h
theorem dw{t b l k z}(ht:jl P t z)(h:rH w b l):
  (Instr.lookup t (.map (σ b)) (ε ζ k) τ).run P w=.ok (.tuple #[(O6 l k).getD z,θ (O6 l k).isSome]) w:=by
 obtain⟨kt,et,i,h1,h2,h3,h4⟩:=M3 ht;obtain⟨es,cl,h5,h6,-⟩:=h;have hk:MapKept.IsKey (.int ζ) (ε ζ k):=rfl;rcases KZ k (θ τ) es.toList l 0 h6 with⟨a,b',-,-⟩|⟨j,x,a,b',-,-,-⟩
 ·simp[Instr.lookup,run_underlying h1,MapKept.run_getObj_map h5,MapKept.run_checkKey h2 hk,MapKept.run_findKey h2 b',Result.andThen,zeroValue,typeInfo,h3,h4,a]
 ·simp[Instr.lookup,run_underlying h1,MapKept.run_getObj_map h5,MapKept.run_checkKey h2 hk,MapKept.run_findKey h2 b',Result.andThen,a]
theorem rJ{F}{d:Option Nat}{t ty pos af gd m k b l x z K}
  (ht:jl P t z) (hm:ev F m=.map (σ b)) (hk:ev F k=ε ζ x) (h:∀w,St M W L w->rH w b l) (hK:K τ (.tuple #[(O6 l x).getD z,θ (O6 l x).isSome]) L):
  XV P M W ⟨d,.lookup t m k τ,ty,pos,af,gd⟩ F L K:=λw hw =>
 ⟨_,_,w,by simp[execOp,hm,hk,dw ht (h w hw)],hw,hK⟩
theorem St.U5{b l}(hw:St M W L w)k(hk:nth L k=σ (JS b l)):rH w b l:=hw.holds _ (DN hk)
theorem dx{t b l k v z}(ht:jl P t z)(h:rH w b l):
  ∃es' cl',(Instr.mapUpdate t (.map (σ b)) (ε ζ k) v).run P w=.ok () { w with heap:=w.heap.setIfInBounds b (.map es' cl') } ∧ es'.toList.map (λe=>(e.key,e.val))=(WI l k v).map Zn/\MapKept.Stamped es' cl':=by
 obtain⟨kt,et,i,h1,h2,h3,h4⟩:=M3 ht;obtain⟨es,cl,h5,h6,hst⟩:=h;have hk:MapKept.IsKey (.int ζ) (ε ζ k):=rfl;rcases KZ k v es.toList l 0 h6 with⟨a,b',c,-⟩|⟨j,x,a,b',c,e,-⟩
 ·refine⟨_,_,by simp[Instr.mapUpdate,run_underlying h1,MapKept.run_getObj_map h5,MapKept.run_checkKey h2 hk,MapKept.run_findKey h2 b',MapKept.run_setObj_map _ h5,Result.andThen];exact rfl,?_,MapKept.stamped_push hst (wo h6 a)⟩;rw[c];simp[h6,Zn]
 ·rw[Ao]at b';have hlj:(es.toList.map (λe=>(e.key,e.val)))[j]?=σ (Zn (k,x)):=by rw[h6,BZ,c];rfl
  obtain⟨en,he,hen⟩:∃en,es[j]?=σ en/\(en.key,en.val)=Zn (k,x):=by
   rw[BZ]at hlj;obtain⟨en,he,hen⟩:=CK.1 hlj;exact⟨en,by simpa using he,hen⟩
  have hkey:en.key=ε ζ k:=(Bq hen).1;refine⟨_,_,by simp[Instr.mapUpdate,run_underlying h1,MapKept.run_getObj_map h5,MapKept.run_checkKey h2 hk,MapKept.run_findKey h2 b',he,hkey,MapKept.run_keyThatStays hk,MapKept.run_setObj_map _ h5,Result.andThen];exact rfl,?_,?_⟩
  rotate_left
  ·exact MapKept.stamped_modify hst j _ (λ_ _=>rfl) (λe2 _ h2=>by rw[he]at h2;cases h2;exact hkey.symm)
  rw[e];apply AUJ;intro q;have hq:(es.toList.map (λe=>(e.key,e.val)))[q]?=(l.map Zn)[q]? := by rw[h6]
  simp only[BZ,Array.getElem?_toList,ATB,AUL]at hq ⊢;by_cases hjq:j=q
  ·subst hjq;have hlt:=(Ab.1 c).1;simp[he,hlt,Zn]
  ·simp[hjq,hq]
theorem St.wu{b kk l l' es cl}(hw:St M W L w)(hk:nth L kk=σ (JS b l))(he:es.toList.map (λe=>(e.key,e.val))=l'.map Zn)(hs:MapKept.Stamped es cl):St M W (L.set kk (JS b l')) { w with heap:=w.heap.setIfInBounds b (.map es cl) } := by
 obtain⟨es0,cl0,h5,-⟩:=hw.U5 kk hk;obtain⟨q1,q2⟩:=MapKept.heap_set (o':=.map es cl) h5;refine hw.replace hk rfl ⟨es,cl,q1,he,hs⟩ (λc hc=>q2 c λe=>hc (by rw[e,MV];simp)) AUq rfl rfl rfl
theorem QK kk{F}{d:Option Nat}{t ty pos af gd m k v b l x y z K}
  (ht:jl P t z) (hm:ev F m=.map (σ b)) (hk:ev F k=ε ζ x) (hv:ev F v=y) (hL:nth L kk=σ (JS b l)) (hK:K τ undef (L.set kk (JS b (WI l x y)))):
  XU P M W ⟨d,.mapUpdate t m k v,ty,pos,af,gd⟩ F L K:=λw hw=>by
 obtain⟨es,cl,hr,he,hs⟩:=dx (k:=x) (v:=y) ht (hw.U5 kk hL);exact⟨_,_,by simp[execOp,hm,hk,hv,hr],hw.wu hL he hs,hK⟩
theorem Zq kk{F}{d:Option Nat}{t t2 ty pos af gd m k b l x z K}
  (ht:jl P t z) (hm:ev F m=.map (σ b)) (hk:ev F k=ε ζ x) (hL:nth L kk=σ (JS b l)) (hK:K τ (.tuple #[]) (L.set kk (JS b (Tc l x)))):
  XV P M W ⟨d,.call { callee:=.builtin .delete,args := #[m,k],argTypes := #[t,t2] },ty,pos,af,gd⟩ F L K:=λw hw=>by
 obtain⟨kt,et,i,h1,h2,h3,h4⟩:=M3 ht;obtain⟨es,cl,h5,h6,hst⟩:=hw.U5 kk hL;have hkk:MapKept.IsKey (.int ζ) (ε ζ x):=rfl;rcases KZ x (θ τ) es.toList l 0 h6 with⟨a,b',-,c⟩|⟨j,y,a,b',c,-,e⟩
 ·refine⟨_,_,_,by simp[execOp,resolve,invoke,builtin,hm,hk,Builtin.delete_,run_underlying h1,MapKept.run_getObj_map h5,MapKept.run_checkKey h2 hkk,MapKept.run_findKey h2 b',MapKept.run_setObj_map _ h5,Result.andThen],hw.wu hL (by rw[h6,c]) hst,hK⟩
 ·rw[Ao]at b';refine⟨_,_,_,by simp[execOp,resolve,invoke,builtin,hm,hk,Builtin.delete_,run_underlying h1,MapKept.run_getObj_map h5,MapKept.run_checkKey h2 hkk,MapKept.run_findKey h2 b',MapKept.run_setObj_map _ h5,Result.andThen],hw.wu hL ?_ (MapKept.stamped_erase hst j),hK⟩;have hlt:j<es.size:=by
   have h7:=AT4 CP h6;have:=(Ab.1 c).1;simp at h7;omega
  rw[e];unfold ATW;rw[AUZ hlt,ATf,MU,h6,MU]
theorem Zr{F}{d:Option Nat}{t ty pos af gd K}
  (hK:∀b,W.heap.size<=b->fresh L b->K τ (.map (σ b)) (JS b []::L)):XV P M W ⟨d,.makeMap t ν,ty,pos,af,gd⟩ F L K:=λw hw=>by
 refine⟨_,_,w.alloc (.map #[] 0),by simp[execOp,Instr.makeMap],?_,hK w.heap.size hw.ES.size (Ju hw)⟩;refine(hw.vk _).add _ ⟨#[],0,(MapKept.heap_alloc w _).1,rfl,MapKept.stamped_empty 0⟩ (λb hb=>?_) λs hs b hb hbs=>?_
 ·obtain rfl:b=w.heap.size:=by simpa [MV]using hb
  exact AWe
 ·obtain rfl:b=w.heap.size:=by simpa [MV]using hb
  exact absurd (hw.own s hs _ hbs).2 (ASm _)
theorem GD{F}{d:Option Nat}{t ty pos af gd m k b l x z K}
  (ht:jl P t z) (hm:ev F m=.map (σ b)) (hk:ev F k=ε ζ x) (h:∀w,St M W L w->rH w b l) (hK:K τ ((O6 l x).getD z) L):
  XV P M W ⟨d,.lookup t m k ο,ty,pos,af,gd⟩ F L K:=λw hw=>by
 obtain⟨kt,et,i,h1,h2,h3,h4⟩:=M3 ht;obtain⟨es,cl,h5,h6,-⟩:=h w hw;have hkk:MapKept.IsKey (.int ζ) (ε ζ x):=rfl;refine⟨_,_,w,?_,hw,hK⟩;rcases KZ x (θ τ) es.toList l 0 h6 with⟨a,b',-,-⟩|⟨j,y,a,b',-,-,-⟩
 ·simp[execOp,hm,hk,Instr.lookup,run_underlying h1,MapKept.run_getObj_map h5,MapKept.run_checkKey h2 hkk,MapKept.run_findKey h2 b',Result.andThen,zeroValue,typeInfo,h3,h4,a]
 ·simp[execOp,hm,hk,Instr.lookup,run_underlying h1,MapKept.run_getObj_map h5,MapKept.run_checkKey h2 hkk,MapKept.run_findKey h2 b',Result.andThen,a]
theorem oD{F}{d:Option Nat}{t ty pos af gd m b l z K}
  (ht:jl P t z) (hm:ev F m=.map (σ b)) (h:∀w,St M W L w->rH w b l) (hK:K τ (ε ζ (l.length:Int)) L):
  XV P M W ⟨d,.call { callee:=.builtin .len,args := #[m],argTypes := #[t] },ty,pos,af,gd⟩ F L K:=λw hw=>by
 obtain⟨kt,et,i,h1,h2,h3,h4⟩:=M3 ht;obtain⟨es,cl,h5,h6,-⟩:=h w hw;have hl:es.size=l.length:=by
  have:=AT4 CP h6;simpa using this
 exact⟨_,_,w,by simp[execOp,resolve,invoke,builtin,hm,Builtin.len_,run_underlying h1,MapKept.run_getObj_map h5,Result.andThen,goInt,hl],hw,hK⟩
end
def RgH(w:World)(b r:Nat)(l:List (Int×Value))(done:List Int)(last:Option Int):Prop :=
 ∃(es:Array MapEntry)(cl since:Nat)(seen:Array Nat)(c0:Nat),w.heap[b]?=σ (.map es cl)/\es.toList.map (λe=>(e.key,e.val))=l.map Zn/\MapKept.Stamped es cl ∧
  w.heap[r]?=σ (.mapIter (σ b) since seen c0)/\(∀e∈es.toList,e.born<since)/\since<=c0/\c0<=cl ∧
  (∀e∈es.toList,∀k,e.key=ε ζ k->(seen.contains e.born=τ↔k∈done)) ∧
  (∀k,last=σ k->c0=cl∧∃e∈es.toList,e.key=ε ζ k∧∃wy:Array Nat,seen=wy.push e.born)
theorem RgH.same{w w' b r l done last}(h:RgH w b r l done last)(e1:w'.heap[b]?=w.heap[b]?)(e2:w'.heap[r]?=w.heap[r]?):RgH w' b r l done last:=by
 obtain⟨es,cl,since,seen,c0,h1,h2,h3,h4,h5⟩:=h;exact⟨es,cl,since,seen,c0,e1.trans h1,h2,h3,e2.trans h4,h5⟩
def Xz(b r:Nat)(l:List (Int×Value))(done:List Int)(last:Option Int):DW:=.dat [b,r] (λw=>RgH w b r l done last) (λ_ _ hk h=>h.same (hk b (by simp)) (hk r (by simp)))
theorem Nl b r l done last:(Xz b r l done last).foot=[b,r]:=rfl
theorem oG b r l dn la L k:look (Xz b r l dn la::L) k=look L k:=rfl
theorem oH b r l dn la L k us:JI (Xz b r l dn la::L) k us=Xz b r l dn la::JI L k us:=rfl
theorem wz b r l dn la L k:Qc (Xz b r l dn la::L) k=Qc L k:=rfl
theorem w_ b r l dn la L k:UT (Xz b r l dn la::L) k=UT L k:=rfl
theorem dz W M b r l dn la L:Ht W M (Xz b r l dn la::L)=Ht W M L:=rfl
theorem d_ b r l dn la L k:fresh (Xz b r l dn la::L) k=fresh L k:=rfl
theorem cRg:type_of% (AO @oG (AO @oH (AO @wz (AO @w_ (AO @dz @d_))))):=AO @oG (AO @oH (AO @wz (AO @w_ (AO @dz @d_))))
theorem AG3{es:Array MapEntry}{l:List (Int×Value)}(h6:es.toList.map (λe=>(e.key,e.val))=l.map Zn){e}(he:e∈es.toList):∃p∈l,e.key=ε ζ p.1/\e.val=p.2:=by
 have hm:(e.key,e.val)∈l.map Zn:=by rw[<-h6];exact BL.2 ⟨e,he,rfl⟩
 obtain⟨p,hp,hpe⟩:=BL.1 hm;exact⟨p,hp,(Bq hpe).1.symm,(Bq hpe).2.symm⟩
theorem ADP{es:Array MapEntry}{l:List (Int×Value)}(h6:es.toList.map (λe=>(e.key,e.val))=l.map Zn){p}(hp:p∈l):∃e∈es.toList,e.key=ε ζ p.1/\e.val=p.2:=by
 have hm:Zn p∈es.toList.map (λe=>(e.key,e.val)):=by rw[h6];exact BL.2 ⟨p,hp,rfl⟩
 obtain⟨e,he,hpe⟩:=BL.1 hm;exact⟨e,he,(Bq hpe).1,(Bq hpe).2⟩
theorem key_inj{es cl}(h:MapKept.Stamped es cl){x y}(hx:x∈es.toList)(hy:y∈es.toList)(e:x.key=y.key):x=y:=by
 have hn:=h.2.2;generalize es.toList=l at hx hy hn
 induction l with
 |nil=>cases hx
 | cons a l ih =>
  simp only[BJ,CO]at hn;obtain⟨n1,n2⟩:=hn;rcases AP.1 hx with h1|h1
  ·rcases AP.1 hy with h2|h2
   ·rw[h1,h2]
   ·exact absurd (BL.2 ⟨y,h2,by rw[<-e,h1]⟩) n1
  ·rcases AP.1 hy with h2|h2
   ·exact absurd (BL.2 ⟨x,h1,by rw[e,h2]⟩) n1
   ·exact ih h1 h2 n2
section
variable{P:Program}{M:List Nat}{W w:World}{L:List DW}
theorem rM kk{F}{d:Option Nat}{t ty pos af gd m b l z K}
  (ht:jl P t z) (hm:ev F m=.map (σ b)) (hL:nth L kk=σ (JS b l)) (hK:∀r,W.heap.size<=r->fresh L r->K τ (π (σ ⟨r,0,ν⟩)) (Xz b r l [] ν::L.eraseIdx kk)):
  XV P M W ⟨d,.range t m,ty,pos,af,gd⟩ F L K:=λw hw=>by
 obtain⟨kt,et,i,h1,h2,h3,h4⟩:=M3 ht;obtain⟨es,cl,h5,h6,h7⟩:=hw.U5 kk hL;have hp:=(hw.perm (FZ hL).symm).vk (.mapIter (σ b) cl #[] cl);have hbl:b<w.heap.size:=(Bv.1 h5).1;have hown:=λs hs c hc=>((hw.perm (FZ hL).symm).own s hs c hc).2;refine⟨_,_,w.alloc (.mapIter (σ b) cl #[] cl),by simp[execOp,hm,run_range_map w t kt et b es cl h1 h5,Result.andThen],?_,hK w.heap.size hw.ES.size (Ju hw)⟩;obtain⟨q1,q2,q3,q4⟩:=hp;refine⟨q1,λs hs=>?_,λs hs c hc=>?_,Ak.2 ⟨λs hs c hc hcs=>?_,(Ak.1 q4).2⟩⟩
 ·rcases AP.1 hs with rfl|hs
  ·exact⟨es,cl,cl, #[],cl,(heap_alloc_old w _ b hbl).trans h5,h6,h7,heap_alloc_new w _,h7.1,Ay _,Ay _,λe he k hk=>by simp,λk hk=>by cases hk⟩
  ·exact q2 s (Bg _ hs)
 ·rcases AP.1 hs with rfl|hs
  ·rw[Nl]at hc;rcases AP.1 hc with rfl|hc
   ·exact q3 _ (.head _) c (by simp[MV])
   ·obtain rfl:c=w.heap.size:=by simpa using hc
    exact AWe
  ·exact q3 s (Bg _ hs) c hc
 ·rw[Nl]at hc;rcases AP.1 hc with rfl|hc
  ·exact(Ak.1 q4).1 s hs c (by simp[MV]) hcs
  ·obtain rfl:c=w.heap.size:=by simpa using hc
   exact absurd (hown s (Bg _ hs) _ hcs) (ASm _)
theorem St.rgH{b r l dn la}(hw:St M W L w)k(hk:nth L k=σ (Xz b r l dn la)):RgH w b r l dn la:=hw.holds _ (DN hk)
theorem xB kk{F}{d:Option Nat}{ty pos af gd it b r l dn la K}
  (hit:ev F it=π (σ ⟨r,0,ν⟩)) (hL:nth L kk=σ (Xz b r l dn la)) (h0:(∀p∈l,p.1∈dn)->K τ (.tuple #[θ ο]) L)
  (hm:∀p∈l,p.1∉dn->K τ (.tuple #[θ τ,ε ζ p.1,p.2]) (L.set kk (Xz b r l (p.1::dn) (σ p.1)))):XV P M W ⟨d,.next it ο,ty,pos,af,gd⟩ F L K:=λw hw=>by
 obtain⟨es,cl,since,seen,c0,hb,h6,hst,hr,hold,hsc,hcc,Yg,-⟩:=hw.rgH kk hL;rcases run_next_at (P:=P) w ty r b since c0 seen es cl hr hb hold hsc with⟨hz,hrun⟩|⟨e,he,w1,hw1,hrun⟩
 ·refine⟨_,_,w,by simp[execOp,hit,hrun,Result.andThen],hw,h0 λp hp=>?_⟩;obtain⟨e,he,hk,-⟩:=ADP h6 hp;exact(Yg e he p.1 hk).1 (all_seen es seen hz e he)
 ·obtain⟨hem,hes⟩:=mem_left he;obtain⟨p,hp,hk,hv⟩:=AG3 h6 hem;have hnd:p.1∉dn:=λh=>by
   have:=(Yg e hem p.1 hk).2 h;rw[hes]at this;cases this
  have xC:St M W L w1:=by rcases hw1 with rfl|rfl;exact hw;exact hw.drew
  have hh:w1.heap=w.heap:=by rcases hw1 with rfl|rfl<;>rfl
  have hr1:w1.heap[r]?=σ (.mapIter (σ b) since seen c0):=by rw[hh];exact hr
  have hrb:b≠r:=λe=>by subst e;rw[hb]at hr;cases hr
  obtain⟨q1,q2⟩:=MapKept.heap_set (o':=.mapIter (σ b) since (seen.push e.born) cl) hr1;refine⟨_,_,_,by simp[execOp,hit,hrun,Result.andThen];exact⟨rfl,rfl⟩,?_,by rw[hk,hv];exact hm p hp hnd⟩;refine xC.replace hL rfl ⟨es,cl,since,seen.push e.born,cl,?_,h6,hst,q1,hold,AGn hsc hcc,Ay _,?_,?_⟩ (λc hc=>q2 c λe=>hc (by rw[e,Nl];simp)) (by simp[Go.ChangeMaps.setBlock]) rfl rfl rfl
  ·exact(q2 b hrb).trans (by rw[hh];exact hb)
  ·intro e' he' k hk';rw[contains_push,CU,ATu,AP,Yg e' he' k hk'];constructor
   ·rintro(h|h)
    ·exact .inr h
    ·have:=born_inj hst.2.1 he' hem h;subst this;rw[hk]at hk';injection hk' with _ hk';exact .inl hk'.symm
   ·rintro(h|h)
    ·have:=key_inj hst he' hem (by rw[hk',hk,h]);exact .inr (by rw[this])
    ·exact .inl h
  ·intro k hk';injection hk' with hk';exact⟨rfl,e,hem,by rw[hk,hk'],seen,rfl⟩
theorem rO kk{F}{d:Option Nat}{ty pos af gd it b r l dn p K}
  (hit:ev F it=π (σ ⟨r,0,ν⟩)) (hL:nth L kk=σ (Xz b r l dn (σ p.1))) (hp:p∈l)
  (hK:K τ (.tuple #[ε ζ p.1,p.2]) L):XV P M W ⟨d,.entry it,ty,pos,af,gd⟩ F L K:=λw hw=>by
 obtain⟨es,cl,since,seen,c0,hb,h6,hst,hr,hold,hsc,hcc,Yg,hla⟩:=hw.rgH kk hL;obtain⟨rfl,e,he,hk,wy,rfl⟩:=hla p.1 rfl;obtain⟨e2,he2,hk2,hv2⟩:=ADP h6 hp;have:=key_inj hst he2 he (by rw[hk2,hk]);subst this;have hrun:=run_entry_at (P:=P) w r b since wy es c0 e2 hr hb he hst.2.1;exact⟨_,_,w,by simp[execOp,hit,hrun,Result.andThen];rw[hk2,hv2];exact⟨rfl,rfl⟩,hw,hK⟩
theorem xD kk{F}{d:Option Nat}{t t2 ty pos af gd m k b r l dn la x z K}
  (ht:jl P t z) (hm:ev F m=.map (σ b)) (hk:ev F k=ε ζ x) (hL:nth L kk=σ (Xz b r l dn la)) (hK:K τ (.tuple #[]) (L.set kk (Xz b r (Tc l x) dn ν))):
  XV P M W ⟨d,.call { callee:=.builtin .delete,args := #[m,k],argTypes := #[t,t2] },ty,pos,af,gd⟩ F L K:=λw hw=>by
 obtain⟨kt,et,i,h1,h2,h3,h4⟩:=M3 ht;obtain⟨es,cl,since,seen,c0,h5,h6,hst,hr,hold,hsc,hcc,Yg,-⟩:=hw.rgH kk hL;have hkk:MapKept.IsKey (.int ζ) (ε ζ x):=rfl;have hrb:r≠b:=λe=>by subst e;rw[h5]at hr;cases hr
 have fin:∀es':Array MapEntry,es'.toList.map (λe=>(e.key,e.val))=(Tc l x).map Zn->MapKept.Stamped es' cl->(∀e∈es'.toList,e∈es.toList)->St M W (L.set kk (Xz b r (Tc l x) dn ν)) { w with heap:=w.heap.setIfInBounds b (.map es' cl) } := by
  intro es' e1 e2 e3;obtain⟨q1,q2⟩:=MapKept.heap_set (o':=.map es' cl) h5;exact hw.replace hL rfl ⟨es',cl,since,seen,c0,q1,e1,e2,(q2 r hrb).trans hr,λe he=>hold e (e3 e he),hsc,hcc,λe he=>Yg e (e3 e he),λk hk=>by cases hk⟩ (λc hc=>q2 c λe=>hc (by rw[e,Nl];simp)) AUq rfl rfl rfl
 rcases KZ x (θ τ) es.toList l 0 h6 with⟨a,b',-,c⟩|⟨j,y,a,b',c,-,e⟩
 ·refine⟨_,_,_,by simp[execOp,resolve,invoke,builtin,hm,hk,Builtin.delete_,run_underlying h1,MapKept.run_getObj_map h5,MapKept.run_checkKey h2 hkk,MapKept.run_findKey h2 b',MapKept.run_setObj_map _ h5,Result.andThen],fin es (by rw[h6,c]) hst λ_ h=>h,hK⟩
 ·rw[Ao]at b';have hlt:j<es.size:=by
   have h7:=AT4 CP h6;have:=(Ab.1 c).1;simp at h7;omega
  have hel:(es.eraseIdxIfInBounds j).toList=es.toList.eraseIdx j:=by
   unfold ATW;rw[AUZ hlt,ATf]
  refine⟨_,_,_,by simp[execOp,resolve,invoke,builtin,hm,hk,Builtin.delete_,run_underlying h1,MapKept.run_getObj_map h5,MapKept.run_checkKey h2 hkk,MapKept.run_findKey h2 b',MapKept.run_setObj_map _ h5,Result.andThen],fin _ ?_ (MapKept.stamped_erase hst j) ?_,hK⟩
  ·rw[e,hel,MU,h6,MU]
  ·rw[hel];exact λe he=>List.mem_of_mem_eraseIdx he
theorem St.AG4{b r l dn la k}(hw:St M W L w)(hk:nth L k=σ (Xz b r l dn la)):St M W (JS b l::L.eraseIdx k) w:=by
 obtain⟨es,cl,since,seen,c0,h5,h6,hst,-⟩:=hw.rgH k hk;obtain⟨q1,q2,q3,q4⟩:=hw.perm (FZ hk).symm;refine⟨q1,λs hs=>?_,λs hs c hc=>?_,Ak.2 ⟨λs hs c hc hcs=>?_,(Ak.1 q4).2⟩⟩
 ·rcases AP.1 hs with rfl|hs
  ·exact⟨es,cl,h5,h6,hst⟩
  ·exact q2 s (Bg _ hs)
 ·rcases AP.1 hs with rfl|hs
  ·rw[MV]at hc;obtain rfl:c=b:=by simpa using hc
   exact q3 _ (.head _) c (by simp[Nl])
  ·exact q3 s (Bg _ hs) c hc
 ·rw[MV]at hc;obtain rfl:c=b:=by simpa using hc
  exact(Ak.1 q4).1 s hs c (by simp[Nl]) hcs
end
def De(h:Nat):Nat:=h % 16777216
def Mr(h:Nat):Nat:=h / 16777216 % 4294967296
def eB(h:Nat):Nat:=h / 72057594037927936
theorem wraps_u64 n(h0:0<=n)(h1:n<2 ^ 64):IntKind.u64.wrap n=n:=by rw[IntKind.wrap_u64];omega
theorem xE{y:Nat}(h:y<18446744073709551616):IntKind.u64.wrap (y:Int)=(y:Int):=by rw[IntKind.wrap_u64];omega
theorem AG5{h:Nat}(hh:h<18446744073709551616):bits .and υ (h:Int) 16777215=((De h:Nat):Int):=by
 have:=bits_mask υ 64 AJ wraps_u64 24 AJ (h:Int) AL AL;rw[show ((2:Int) ^ 24-1)=16777215 by decide,show ((2:Int) ^ 24)=16777216 by decide]at this;rw[this];unfold De;omega
theorem AG6{h:Nat}(hh:h<18446744073709551616):bits .and υ (h:Int) 4294967295=((h % 4294967296:Nat):Int):=by
 have:=bits_mask υ 64 AJ wraps_u64 32 AJ (h:Int) AL AL;rw[show ((2:Int) ^ 32-1)=4294967295 by decide,show ((2:Int) ^ 32)=4294967296 by decide]at this;rw[this];omega
theorem Nn{h}(hh:h<18446744073709551616):De h<16777216/\Mr h<4294967296/\eB h<256:=by
 unfold De Mr eB;omega
def pkF(s g t:Int):Int×Int:=if s<0\/16777215<s\/g<1\/4294967295<g\/t<1\/255<t then (0,1) else (t*72057594037927936+g*16777216+s,0)
theorem PZ(h:Nat)(hh:h<18446744073709551616)W:Calls AGm 49 #[ε υ (h:Int)] W λe w'=>e=κ (ε ζ (De h:Int))/\Below W.heap.size W w':=by
 have hp:=Nn hh;refine DL (M:=[]) Tryz.func49 [.tmp 2] (St.nil _ _) ?_;refine ql ?_;refine C9 rfl λK k0=>?_;simp -implicitDefEqProofs (disch:=first|omega|decide) only [seval,-Int.reducePow,-Nat.reducePow,cC,pv,D5,EH,undef,AG5 hh,DT];refine k0 _ _ (C8 (wH λw hw=>?_));exact⟨rfl,hw.below⟩
theorem oI(h:Nat)(hh:h<18446744073709551616)W:Calls AGm 112 #[ε υ (h:Int)] W λe w'=>e=κ (ε ζ (Mr h:Int))/\Below W.heap.size W w':=by
 have hp:=Nn hh;have e1:(h:Int) / 2 ^ 24=((h / 16777216:Nat):Int):=by omega
 have e2:bits .and υ ((h / 16777216:Nat):Int) 4294967295=((Mr h:Nat):Int):=AG6 AL;refine DL (M:=[]) Tryz.func112 [.tmp 2] (St.nil _ _) ?_;refine ql ?_;refine C9 rfl λK k0=>?_;simp -implicitDefEqProofs (disch:=first|omega|decide) only [seval,-Int.reducePow,-Nat.reducePow,cC,pv,D5,EH,undef,e1,e2,DT,IntKind.bits];refine k0 _ _ (C8 (wH λw hw=>?_));exact⟨rfl,hw.below⟩
theorem ABb(h:Nat)(hh:h<18446744073709551616)W:Calls AGm 113 #[ε υ (h:Int)] W λe w'=>e=κ (ε ζ (eB h:Int))/\Below W.heap.size W w':=by
 have hp:=Nn hh;have e1:(h:Int) / 2 ^ 56=((eB h:Nat):Int):=by unfold eB;omega
 refine DL (M:=[]) Tryz.func113 [.tmp 2] (St.nil _ _) ?_;refine ql ?_;refine C9 rfl λK k0=>?_;simp -implicitDefEqProofs (disch:=first|omega|decide) only [seval,-Int.reducePow,-Nat.reducePow,cC,pv,D5,EH,undef,e1,DT,IntKind.bits];refine k0 _ _ (C8 (wH λw hw=>?_));exact⟨rfl,hw.below⟩
theorem F4(h:Nat)(hh:h<18446744073709551616)W:Calls AGm 9 #[ε υ (h:Int)] W λe w'=>e=κ (ε ζ (De h:Int))/\Below W.heap.size W w':=by
 have hp:=Nn hh;have e1:(h:Int) % 16777216=((De h:Nat):Int):=by unfold De;omega
 refine DL (M:=[]) Tryz.func9 [.tmp 2] (St.nil _ _) ?_;refine ql ?_;refine AGx (AO e1 @DT) ?_;refine C8 (wH λw hw=>?_);exact⟨rfl,hw.below⟩
theorem xF(h:Nat)(hh:h<18446744073709551616)W:Calls AGm 232 #[ε υ (h:Int)] W λe w'=>e=κ (ε ζ (Mr h:Int))/\Below W.heap.size W w':=by
 have hp:=Nn hh;have e0:IntKind.u64.wrap ((h:Int) / 16777216)=((h / 16777216:Nat):Int):=by rw[IntKind.wrap_u64];omega
 have e1:((h / 16777216:Nat):Int) % 4294967296=((Mr h:Nat):Int):=by unfold Mr;omega
 refine DL (M:=[]) Tryz.func232 [.tmp 2] (St.nil _ _) ?_;refine ql ?_;refine AGx (AO e0 (AO e1 @DT)) ?_;refine C8 (wH λw hw=>?_);exact⟨rfl,hw.below⟩
theorem Q0(h:Nat)(hh:h<18446744073709551616)W:Calls AGm 71 #[ε υ (h:Int)] W λe w'=>e=κ (θ (decide (0<Mr h/\0<eB h)))/\Below W.heap.size W w':=by
 refine DL (M:=[]) Tryz.func71 [.tmp 2] (St.nil _ _) ?_;refine ql ?_;refine DC [0] λG1 g1=>?_;replace g1:=AGw g1;by_cases hg:(Mr h:Int)=0
 ·refine C9 rfl λK k0=>?_;have zg:=Bd.mk g1;refine AEL ?_;refine DI (λw hw=>oI h hh w) ?_;try refine AGv hg ?_
  refine k0 _ _ (C8 (AEM λw hw=>?_));exact⟨by rw[AUC AL],hw.below⟩
 ·refine C9 rfl λK k0=>?_;have zg:=Bd.mk g1;refine AEL ?_;refine DI (λw hw=>oI h hh w) ?_;try refine AGv hg ?_
  refine DI (λw hw=>ABb h hh w) ?_;try refine AEL ?_
  refine k0 _ _ (C8 (AEM λw hw=>?_));refine⟨AT4 (λb=>Ending.returned (θ b)) ?_,hw.below⟩;rw[Cs];simp;omega
section
variable{α β:Type}
def Er:List (Int×α)->Int->Option α
 |[],_=>ν
 |p::l,k=>if p.1=k then σ p.2 else Er l k
def FY:List (Int×α)->Int->α->List (Int×α)
 |[],k,v=>[(k,v)]
 |p::l,k,v=>if p.1=k then (k,v)::l else p::FY l k v
def IK:List (Int×α)->Int->List (Int×α)
 |[],_=>[]
 |p::l,k=>if p.1=k then l else p::IK l k
def keys(l:List (Int×α)):List Int:=l.map (·.1)
theorem Np{l:List (Int×α)}{k} : Er l k=ν↔k∉keys l:=by
 induction l with
 |nil=>simp[Er,keys]
 | cons p l ih =>
  unfold Er;simp only[keys,BJ,AP,not_or];by_cases h:p.1=k
  ·simp[h]
  ·rw[ATt h,ih];exact⟨λhh=>⟨λe=>h e.symm,hh⟩,λhh=>hh.2⟩
theorem J4{l k}{v:α}(h:Er l k=σ v):(k,v)∈l:=by
 induction l with
 |nil=>cases h
 | cons p l ih =>
  unfold Er at h;split at h
  ·rename_i e;injection h with h;subst e h;exact .head _
  ·exact Bg _ (ih h)
theorem R8{l}(hn:(keys l).Nodup){p:Int×α}(h:p∈l):Er l p.1=σ p.2:=by
 induction l with
 |nil=>cases h
 | cons q l ih =>
  simp only[keys,BJ,CO]at hn;unfold Er;rcases AP.1 h with rfl|h
  ·rw[ATv rfl]
  ·rw[ATt (λe=>hn.1 (BL.2 ⟨p,h,e.symm⟩)),ih hn.2 h]
theorem MJ l k(v:α)j:Er (FY l k v) j=if j=k then σ v else Er l j:=by
 induction l with
 | nil =>
  simp only[FY,Er];by_cases h:k=j
  ·rw[ATv h,ATv h.symm]
  ·rw[ATt h,ATt (λe=>h e.symm)]
 | cons p l ih =>
  unfold FY;by_cases h:p.1=k
  ·rw[ATv h];simp only[Er];by_cases hj:k=j
   ·rw[ATv hj,ATv hj.symm]
   ·rw[ATt hj,ATt (λe=>hj e.symm),ATt (λe=>hj (h.symm.trans e))]
  ·rw[ATt h];simp only[Er];by_cases hj:p.1=j
   ·rw[ATv hj,ATv hj,ATt (λe=>h (hj.trans e))]
   ·rw[ATt hj,ATt hj,ih]
theorem X3 l k(v:α)j:j∈keys (FY l k v)↔j=k\/j∈keys l:=by
 have h1:=Np (l:=FY l k v) (k:=j);have h2:=Np (l:=l) (k:=j);rw[MJ]at h1;by_cases hj:j=k
 ·rw[ATv hj]at h1;refine⟨λ_=>.inl hj,λ_=>CZ λhn=>?_⟩;have:=h1.2 hn;cases this
 ·rw[ATt hj]at h1;refine⟨λh=>.inr (CZ λhn=>(h1.1 (h2.2 hn)) h),λh=>h.elim (λe=>absurd e hj) λh=>CZ λhn=>(h2.1 (h1.2 hn)) h⟩
theorem Q3{l}(hn:(keys l).Nodup)k(v:α):(keys (FY l k v)).Nodup:=by
 induction l with
 |nil=>simp[FY,keys]
 | cons p l ih =>
  obtain⟨n1,n2⟩:=CO.1 (show (p.1::keys l).Nodup from hn);unfold FY;split
  ·rename_i e;show (k::keys l).Nodup;rw[<-e];exact hn
  ·rename_i e;show (p.1::keys (FY l k v)).Nodup;refine CO.2 ⟨λhm=>?_,ih n2⟩;rcases(X3 l k v p.1).1 hm with h|h
   ·exact e h
   ·exact n1 h
theorem ABc{l:List (Int×α)}(hn:(keys l).Nodup)k:IK l k=l.filter λp=>decide (p.1≠k):=by
 induction l with
 |nil=>rfl
 | cons p l ih =>
  simp only[keys,BJ,CO]at hn;unfold IK;by_cases h:p.1=k
  ·rw[ATv h,Cv,ATt (by simp[h])];refine(ASj.2 λq hq=>?_).symm;refine AUB λe=>hn.1 ?_;rw[h,<-e];exact BL.2 ⟨q,hq,rfl⟩
  ·rw[ATt h,Cv,ATv AVU,ih hn.2]
theorem R9{l:List (Int×α)}(hn:(keys l).Nodup)f:(keys (l.filter f)).Nodup:=hn.sublist (AGp.map _)
theorem Q4{l:List (Int×α)}(hn:(keys l).Nodup)k:(keys (IK l k)).Nodup:=by rw[ABc hn];exact R9 hn _
theorem ABK{l:List (Int×α)}(hn:(keys l).Nodup)(f:Int×α->Bool)(j:Int):Er (l.filter f) j=match Er l j with
  |none=>ν
  |some v=>if f (j,v) then σ v else ν:=by
 induction l with
 |nil=>rfl
 | cons p l ih =>
  simp only[keys,BJ,CO]at hn;rw[Cv];by_cases h:p.1=j
  ·have e:(j,p.2)=p:=by rw[<-h]
   simp only[Er,ATv h,e];split
   ·simp[Er,h]
   ·rw[ih hn.2];have:Er l j=ν:=Np.2 (h▸hn.1);rw[this]
  ·simp only[Er,ATt h];rw[<-ih hn.2];split
   ·simp[Er,h]
   ·rfl
theorem AA5{l:List (Int×α)}(hn:(keys l).Nodup)k j:Er (IK l k) j=if j=k then ν else Er l j:=by
 rw[ABc hn,ABK hn];cases h:Er l j with
 |none=>simp
 | some v =>
  by_cases e:j=k
  ·simp[e]
  ·simp[e]
def Em(f:α->β)(l:List (Int×α)):List (Int×β):=l.map λp=>(p.1,f p.2)
theorem Ka(f:α->β)l k:Er (Em f l) k=(Er l k).map f:=by
 induction l with
 |nil=>rfl
 | cons p l ih =>
  simp only[Em,BJ,Er]at ih ⊢;split
  ·rfl
  ·exact ih
theorem Yh(f:α->β)l k v:FY (Em f l) k (f v)=Em f (FY l k v):=by
 induction l with
 |nil=>rfl
 | cons p l ih =>
  simp only[Em,BJ,FY]at ih ⊢;split
  ·rfl
  ·rw[BJ,ih]
theorem Yi(f:α->β)l k:IK (Em f l) k=Em f (IK l k):=by
 induction l with
 |nil=>rfl
 | cons p l ih =>
  simp only[Em,BJ,IK]at ih ⊢;split
  ·rfl
  ·rw[BJ,ih]
theorem Nq(f:α->β)l:keys (Em f l)=keys l:=by simp[keys,Em]
theorem Pb(f:α->β)l:(Em f l).length=l.length:=by simp[Em]
theorem kR{l k}{v:α}(h:Er l k=σ v):∃pre post,l=pre++(k,v)::post/\k∉keys pre/\(∀v',FY l k v'=pre++(k,v')::post)/\IK l k=pre++post:=by
 induction l with
 |nil=>cases h
 | cons p l ih =>
  unfold Er at h;split at h
  ·rename_i e;injection h with h;subst e h;exact⟨[],l,rfl,by simp[keys],λv'=>by simp[FY],by simp[IK]⟩
  ·rename_i e;obtain⟨pre,post,h1,h2,h3,h4⟩:=ih h;refine⟨p::pre,post,by rw[h1];rfl,?_,λv'=>?_,?_⟩
   ·simp only[keys,BJ,AP,not_or];exact⟨λe'=>e e'.symm,h2⟩
   ·simp only[FY,ATt e,h3 v',Ad]
   ·simp only[IK,ATt e,h4,Ad]
theorem xG{l k}(h:Er l k=ν)(v:α):FY l k v=l++[(k,v)]:=by
 induction l with
 |nil=>rfl
 | cons p l ih =>
  unfold Er at h;split at h
  ·cases h
  ·rename_i e;rw[FY,ATt e,ih h];rfl
def Srt(l:List (Int×α)):Prop:=(keys l).Pairwise (· < ·)
theorem Srt.nodup{l:List (Int×α)}(h:Srt l):(keys l).Nodup:=AIB (fun {a b} h=>by omega) h
def JC(l:List (Int×α)):List (Int×α):=((keys l).mergeSort λx y=>decide (x<=y)).filterMap λk=>(Er l k).map λv=>(k,v)
theorem MK{l:List (Int×α)} : keys (JC l)=(keys l).mergeSort λx y=>decide (x<=y):=by
 have key:∀ks:List Int,(∀k∈ks,k∈keys l)->keys (ks.filterMap λk=>(Er l k).map λv=>(k,v))=ks:=by
  intro ks
  induction ks with
  |nil=>intro _;rfl
  | cons k ks ih =>
   intro h;cases hk:Er l k with
   |none=>exact absurd (h k AUq) (Np.1 hk)
   | some v =>
    rw[ASk];simp only[hk,Cr];show k::keys _=_;rw[ih λj hj=>h j (by simp[hj])]
 exact key _ λk hk=>(ATM).1 hk
theorem Pf{l:List (Int×α)}(hn:(keys l).Nodup):Srt (JC l):=by
 unfold Srt;rw[MK];have h1:((keys l).mergeSort λx y=>decide (x<=y)).Pairwise λx y=>decide (x<=y)=τ:=List.pairwise_mergeSort (λa b c h1 h2=>by simp at *;omega) (λa b=>by simp;omega) _;have h2:((keys l).mergeSort λx y=>decide (x<=y)).Nodup:=(List.mergeSort_perm _ _).nodup_iff.2 hn;exact List.Pairwise.imp₂ (λa b h1 h2=>by simp at h1;omega) h1 h2
theorem R_{l:List (Int×α)}(hn:(keys l).Nodup)k:Er (JC l) k=Er l k:=by
 cases h:Er l k with
 | none =>
  refine Np.2 λhm=>Np.1 h ?_;rw[MK]at hm;exact(ATM).1 hm
 | some v =>
  have hm:(k,v)∈JC l:=AS3.2 ⟨k,(ATM).2 (BL.2 ⟨_,J4 h,rfl⟩),by rw[h];rfl⟩;exact R8 (Pf hn).nodup hm
end
structure Gs where
 pl:Int
 op:Int
 h:Nat
 ar:Nat
 er:Int
structure Ob where
 h:Nat
 ow:Int
 mo:Int
 cs:List (Int×Int)
structure HS where
 sd:List (Int×Bool)
 os:List (Int×Ob)
def Td(e:Gs):Bool:=decide (¬e.er=0\/(3<=e.op/\e.op<=7))
def alive(s:HS)(p:Int):Bool:=(Er s.sd p).getD ο
def X4(s:HS)(e:Gs):Bool:=decide (e.ar<=64) && !decide ((e.ar:Int)=e.pl)&&alive s e.ar
def Uf(s:HS)(h:Nat):Option Ob :=
 match Er s.os (De h)with
 |none=>ν
 |some o=>if o.h=h then σ o else ν
def WJ(s:HS)(p:Int):Option HS :=
 match Er s.sd p with
 |some _=>ν
 |none=>σ { s with sd:=FY s.sd p τ }
def WK(p:Int)(os:List (Int×Ob)):List (Int×Ob):=(os.filter λq=>decide (¬q.2.ow=p)).map λq=>(q.1,{ q.2 with cs:=IK q.2.cs p })
def ABd(p:Int)(os:List (Int×Ob)):Nat:=(os.filter λq=>decide (q.2.ow=p)).length
def xH(s:HS)(e:Gs):Option HS:=if ABd e.pl s.os=e.ar then σ { sd:=FY s.sd e.pl ο,os:=WK e.pl s.os } else ν
def Te(s:HS)(e:Gs):Option HS :=
 if (0<Mr e.h/\0<eB e.h)/\Er s.os (De e.h)=ν then σ { s with os:=FY s.os (De e.h) ⟨e.h,e.pl,0,[]⟩ } else ν
def oJ(o:Ob)(q:Nat)(m:Int):Ob := { o with mo:=m,cs:=FY o.cs q ((Er o.cs q).getD 0+1) }
def AA3(s:HS)(e:Gs)(o:Ob)(m:Int):Bool:=X4 s e&&decide (o.ow=e.pl)&&(decide (o.cs=[])||(!decide (m=2) && !decide (o.mo=2)))
def Ug(s:HS)(e:Gs)(o:Ob)(m:Int):Option HS :=
 if AA3 s e o m=τ then σ { s with os:=FY s.os (De e.h) (oJ o e.ar m) } else ν
def eD(o:Ob)(p:Int):Ob := { o with cs:=if (Er o.cs p).getD 0-1=0 then IK o.cs p else FY o.cs p ((Er o.cs p).getD 0-1) }
def ABe(s:HS)(e:Gs)(o:Ob):Option HS :=
 if (Er o.cs e.pl).getD 0=0 then ν else σ { s with os:=FY s.os (De e.h) (eD o e.pl) }
def SC(e:Gs)(o:Ob):Bool:=decide (o.ow=e.pl)&&decide (o.cs=[])
def eF(s:HS)(e:Gs):Option HS :=
 match Uf s e.h with
 |none=>ν
 | some o =>
  if e.op=2 then (if SC e o=τ then σ { s with os:=IK s.os (De e.h) } else ν)
  else if e.op=8 then (if (SC e o&&X4 s e)=τ then σ { s with os:=FY s.os (De e.h) { o with ow:=e.ar } } else ν)
  else if e.op=9 then Ug s e o 1
  else if e.op=10 then Ug s e o 2
  else ABe s e o
def Jk(s:HS)(e:Gs):Option HS :=
 if Td e=τ then σ s
 else if e.pl<1\/64<e.pl then ν
 else if e.op=32 then WJ s e.pl
 else if alive s e.pl=ο then ν
 else if e.op=33 then xH s e
 else if e.op=1 then Te s e
 else if e.op=2\/e.op=8\/e.op=9\/e.op=10\/e.op=11 then eF s e
 else ν
def Lb:HS->List Gs->Option HS
 |s,[]=>σ s
 | s,e::l=>match Jk s e with
  |none=>ν
  |some s'=>Lb s' l
def Gs.ok(e:Gs):Prop:=e.h<18446744073709551616/\e.ar<18446744073709551616
structure Zt(k:Nat)(q:Int×Ob):Prop where
 slot:q.1=De q.2.h
 h64:q.2.h<18446744073709551616
 ow:1<=q.2.ow/\q.2.ow<=64
 nd:(keys q.2.cs).Nodup
 cnt:∀c∈q.2.cs,(1<=c.1/\c.1<=64)/\1<=c.2/\c.2<=k
 mode:q.2.cs≠[]->q.2.mo=1\/q.2.mo=2
 cl:q.2.cs.length<=k
structure Nr(k:Nat)(s:HS):Prop where
 nd:(keys s.os).Nodup
 len:s.os.length<=k
 obj:∀q∈s.os,Zt k q
 alv:∀p,alive s p=τ->1<=p/\p<=64
theorem Zt.up{k q}(h:Zt k q):Zt (k+1) q:=⟨h.slot,h.h64,h.ow,h.nd,λc hc=>by have:=h.cnt c hc;omega,h.mode,AHL h.cl⟩
theorem Nr.up{k s}(h:Nr k s):Nr (k+1) s:=⟨h.nd,by have:=h.len;omega,λq hq=>(h.obj q hq).up,h.alv⟩
theorem Nr.get{k s}(h:Nr k s){j o}(hg:Er s.os j=σ o):Zt k (j,o):=h.obj _ (J4 hg)
theorem WL{α:Type}{l k}{v:α}{q}(h:q∈FY l k v):q=(k,v)\/q∈l:=by
 induction l with
 |nil=>exact .inl (by simpa [FY]using h)
 | cons p l ih =>
  unfold FY at h;split at h
  ·rcases AP.1 h with h|h
   ·exact .inl h
   ·exact .inr (Bg _ h)
  ·rcases AP.1 h with h|h
   ·exact .inr (h ▸ .head _)
   ·exact(ih h).imp id (Bg _)
theorem WM{α:Type}l k(v:α):(FY l k v).length<=l.length+1:=by
 induction l with
 |nil=>simp[FY]
 | cons p l ih =>
  unfold FY;split
  ·simp
  ·simp only[Av];omega
theorem WN{α:Type}(l:List (Int×α))k:(IK l k).length<=l.length:=by
 induction l with
 |nil=>simp[IK]
 | cons p l ih =>
  unfold IK;split
  ·simp
  ·simp only[Av];omega
theorem WO{α:Type}{l k}{q:Int×α}(h:q∈IK l k):q∈l:=by
 induction l with
 |nil=>cases h
 | cons p l ih =>
  unfold IK at h;split at h
  ·exact Bg _ h
  ·rcases AP.1 h with h|h
   ·exact h ▸ .head _
   ·exact Bg _ (ih h)
theorem Nr.set{k s}(h:Nr k s){j o}(ho:Zt (k+1) (j,o)):Nr (k+1) { s with os:=FY s.os j o } :=
 ⟨Q3 h.nd _ _,by have:=WM s.os j o;have:=h.len;show (FY s.os j o).length<=_;omega,λq hq=>by
  rcases WL hq with rfl|hq
  ·exact ho
  ·exact(h.obj q hq).up,h.alv⟩
theorem eG{k s e}(h:Nr k s)(ho:X4 s e=τ):(1:Int)<=e.ar/\(e.ar:Int)<=64:=by
 unfold X4 at ho;simp only[Au]at ho;exact h.alv _ ho.2
theorem Yj{s h o}(hf:Uf s h=σ o):Er s.os (De h)=σ o/\o.h=h:=by
 unfold Uf at hf;split at hf
 ·cases hf
 ·rename_i o' ho;split at hf
  ·rename_i e;injection hf with hf;subst hf;exact⟨ho,e⟩
  ·cases hf
theorem Nr.step{k s s' e}(h:Nr k s)(he:e.ok)(hs:Jk s e=σ s'):Nr (k+1) s':=by
 unfold Jk at hs;split at hs
 ·injection hs with hs;subst hs;exact h.up
 split at hs
 ·cases hs
 rename_i hpl;have hpl:1<=e.pl/\e.pl<=64:=by omega
 split at hs
 ·unfold WJ at hs;split at hs
  ·cases hs
  ·injection hs with hs;subst hs;refine⟨h.nd,by have:=h.len;show s.os.length<=_;omega,λq hq=>(h.obj q hq).up,λp hp=>?_⟩;unfold alive at hp;rw[MJ]at hp;split at hp
   ·rename_i e';omega
   ·exact h.alv p hp
 split at hs
 ·cases hs
 split at hs
 ·unfold xH at hs;split at hs
  ·injection hs with hs;subst hs;have hk:keys (WK e.pl s.os)=keys (s.os.filter λq=>decide (¬q.2.ow=e.pl)):=by simp[WK,keys]
   refine⟨?_,?_,λq hq=>?_,λp hp=>?_⟩
   ·show (keys (WK e.pl s.os)).Nodup;rw[hk];exact R9 h.nd _
   ·show (WK e.pl s.os).length<=_;have:=Ap (λq=>decide (¬q.2.ow=e.pl)) s.os;have:=h.len;simp only[WK,BF];omega
   ·obtain⟨q0,hq0,rfl⟩:=BL.1 (show q∈WK e.pl s.os from hq);have ho:=(h.obj q0 (Bl.1 hq0).1).up;refine⟨ho.slot,ho.h64,ho.ow,Q4 ho.nd _,λc hc=>ho.cnt c (WO hc),λhne=>ho.mode λe0=>hne ?_,AGn (WN _ _) ho.cl⟩;show IK q0.2.cs e.pl=[];rw[e0];rfl
   ·unfold alive at hp;rw[MJ]at hp;split at hp
    ·cases hp
    ·exact h.alv p hp
  ·cases hs
 split at hs
 ·unfold Te at hs;split at hs
  ·injection hs with hs;subst hs;exact h.set ⟨rfl,he.1,hpl,by simp[keys],λc hc=>(by cases hc),λhh=>absurd rfl hh,Ar _⟩
  ·cases hs
 split at hs
 ·unfold eF at hs;split at hs
  ·cases hs
  rename_i o hf;obtain⟨hg,hh⟩:=Yj hf;have ho:=(h.get hg).up;split at hs
  ·split at hs
   ·injection hs with hs;subst hs;refine⟨Q4 h.nd _,?_,λq hq=>(h.obj q (WO hq)).up,h.alv⟩;have:=WN s.os (De e.h);have:=h.len;show (IK s.os (De e.h)).length<=_;omega
   ·cases hs
  split at hs
  ·split at hs
   ·rename_i hc;injection hs with hs;subst hs;simp only[Au]at hc;have hr:=eG h hc.2;exact h.set ⟨ho.slot,ho.h64,hr,ho.nd,ho.cnt,ho.mode,ho.cl⟩
   ·cases hs
  have rP:∀m:Int,(m=1\/m=2)->Ug s e o m=σ s'→Nr (k+1) s':=by
   intro m hm hs;unfold Ug at hs;split at hs
   ·rename_i hc;injection hs with hs;subst hs;have hb:X4 s e=τ:=by
     unfold AA3 at hc;simp only[Au]at hc;exact hc.1.1
    have hr:=eG h hb;refine h.set ⟨ho.slot,ho.h64,ho.ow,Q3 ho.nd _ _,λc hc=>?_,λ_=>hm,(by have h1:=WM o.cs e.ar ((Er o.cs e.ar).getD 0+1);have h2:=(h.get hg).cl;show (FY o.cs e.ar ((Er o.cs e.ar).getD 0+1)).length<=_;simp only at h2;omega)⟩;rcases WL hc with rfl|hc
    ·refine⟨hr,?_⟩;show 1<=(Er o.cs e.ar).getD 0+1/\(Er o.cs e.ar).getD 0+1<=_;cases hg2:Er o.cs e.ar with
     |none=>simp;omega
     | some c =>
      have:=(h.get hg).cnt _ (J4 hg2);simp only[Ce];simp only at this;omega
    ·exact ho.cnt c hc
   ·cases hs
  split at hs
  ·exact rP 1 (.inl rfl) hs
  split at hs
  ·exact rP 2 (.inr rfl) hs
  unfold ABe at hs;split at hs
  ·cases hs
  rename_i hc0;injection hs with hs;subst hs;have hcs:∀c∈(eD o e.pl).cs,c∈o.cs\/c=(e.pl,(Er o.cs e.pl).getD 0-1)∧¬(Er o.cs e.pl).getD 0-1=0:=λc hc=>by
   simp only[eD]at hc;split at hc
   ·exact .inl (WO hc)
   ·rename_i h1;rcases WL hc with h2|h2
    ·exact .inr ⟨h2,h1⟩
    ·exact .inl h2
  refine h.set ⟨ho.slot,ho.h64,ho.ow,?_,λc hc=>?_,λhne=>ho.mode λe0=>?_,?_⟩
  ·simp only[eD];split
   ·exact Q4 ho.nd _
   ·exact Q3 ho.nd _ _
  ·rcases hcs c hc with hc|⟨rfl,h1⟩
   ·exact ho.cnt c hc
   ·refine⟨hpl,?_⟩;show 1<=(Er o.cs e.pl).getD 0-1/\(Er o.cs e.pl).getD 0-1<=_;cases hg2:Er o.cs e.pl with
    |none=>rw[hg2]at hc0;exact absurd rfl hc0
    | some c =>
     have:=(h.get hg).cnt _ (J4 hg2);rw[hg2]at h1;simp only[Ce]at h1 ⊢;simp only at this;omega
  ·rw[e0]at hc0;exact hc0 rfl
  ·have h2:=(h.get hg).cl;simp only at h2;simp only[eD];split
   ·have:=WN o.cs e.pl;omega
   ·have:=WM o.cs e.pl ((Er o.cs e.pl).getD 0-1);omega
 ·cases hs
section
variable{P:Program}{M:List Nat}{W w:World}{L:List DW}
theorem Kb{ι:Sort _}{g args K}A G(f:ι->Value)(Lf:ι->List DW)(φ:ι->Prop)
  (h:∀w,St M W (A++G) w->St (DV G) w G w->Calls P g args w (λe w' => ∃i,e=κ (f i)/\φ i/\St (DV G) w (Lf i) w'))
  (hK:∀i,φ i->K τ (f i) (Lf i++A)):I6 P M W g args (A++G) K:=λw hw=>by
 have hp:St M W (G++A) w:=hw.perm BQ;have h1:St M W G w:=hp.sub (Az _ _);have h2:St M W (A) w:=hp.sub (ASL _ _);have hap:=BN.1 hp.apart;refine(h w hw h1.self).mono ?_;rintro e w' ⟨i,rfl,hi,hs⟩;have hout:∀b,b<w.heap.size->b∉DV G->w'.heap[b]?=w.heap[b]? := λb hb hn=>hs.ES.block b hb hn;have ADR:∀b,b∈DV G->(W.heap.size<=b\/b∈M)/\b<w.heap.size:=λb hb=>by
  obtain⟨r,hr,hbr⟩:=BM.1 hb;exact h1.own r hr b hbr
 have hj:∀r∈A,∀b∈r.foot,b∉DV G:=λr hr b hb hn=>by
  obtain⟨s,hs',hbs⟩:=BM.1 hn;exact hap.2.2 s hs' r hr b hbs hb
 have dG:Ii M W w':=⟨hs.ES.os.trans hw.ES.os,hs.ES.tape.trans hw.ES.tape,hs.ES.output.trans hw.ES.output,AGn hw.ES.size hs.ES.size,λk hk hm=>by
  rw[hout k (BS hk hw.ES.size) (λhn=>by
   rcases(ADR k hn).1 with h3|h3
   ·omega
   ·exact hm h3)]
  exact hw.ES.block k hk hm⟩
 refine⟨_,_,rfl,⟨dG,λr hr=>?_,λr hr b hb=>?_,?_⟩,hK i hi⟩
 ·rcases AV.1 hr with hr|hr
  ·exact hs.holds r hr
  ·exact r.keep (h2.holds r hr) λb hb=>hout b (h2.own r hr b hb).2 (hj r hr b hb)
 ·rcases AV.1 hr with hr|hr
  ·have:=hs.own r hr b hb;refine⟨?_,this.2⟩;rcases this.1 with h3|h3
   ·exact .inl (AGn hw.ES.size h3)
   ·exact(ADR b h3).1
  ·exact⟨(h2.own r hr b hb).1,BS (h2.own r hr b hb).2 hs.ES.size⟩
 ·refine BN.2 ⟨hs.apart,hap.2.1,λr hr s hs' b hb hbs=>?_⟩;rcases(hs.own r hr b hb).1 with h3|h3
  ·have:=(h2.own s hs' b hbs).2;omega
  ·exact hj s hs' b hbs h3
theorem Jl{ι:Sort _}{g args K}A G(hp:(A++G).Perm L)(f:ι->Value)(Lf:ι->List DW)(φ:ι->Prop)
  (h:∀w,St (DV G) w G w->Calls P g args w (λe w' => ∃i,e=κ (f i)/\φ i/\St (DV G) w (Lf i) w'))
  (hK:∀i,φ i->K τ (f i) (Lf i++A)):I6 P M W g args L K:=λw hw=>Kb A G f Lf φ (λw _ h2=>h w h2) hK w (hw.perm hp)
theorem EW{ι:Sort _}{g args K}G(hs:G.Sublist L)(f:ι->Value)(φ:ι->Prop)
  (h:∀w,St (DV G) w G w->Calls P g args w (λe w' => ∃i,e=κ (f i)/\φ i/\St (DV G) w G w'))
  (hK:∀i,φ i->K τ (f i) L):I6 P M W g args L K:=λw hw=>by
 obtain⟨A,hA⟩:=hs.exists_perm_append;refine(Kb (K:=λt v L'=>L'=G++A/\K t v L) A G f (λ_=>G) φ (λw _ h2=>h w h2) (λi hi=>⟨rfl,hK i hi⟩) w (hw.perm (BQ.trans hA.symm))).mono ?_;rintro e w' ⟨v,L',he,hst,rfl,hk⟩;exact⟨v,L,he,hst.perm hA,hk⟩
theorem Eo{n c F Q}L'(h:∀w,St M W L w->St M W L' w)(hc:CV P M W n c F L' Q):CV P M W n c F L Q:=λa w ha hw=>hc a w ha (h w hw)
end
theorem xI:∀(l:List (Int×Value)) (k:Int),O6 l k=Er l k
 |[],k=>rfl
 |p::l,k=>by unfold O6 Er;rw[xI l k]
theorem xJ:∀(l:List (Int×Value)) (k:Int) (v:Value),WI l k v=FY l k v
 |[],k,v=>rfl
 |p::l,k,v=>by unfold WI FY;rw[xJ l k v]
theorem xK:∀(l:List (Int×Value)) (k:Int),Tc l k=IK l k
 |[],k=>rfl
 |p::l,k=>by unfold Tc IK;rw[xK l k]
section
variable{α:Type}
theorem F5(f:α->Value)l k:O6 (Em f l) k=(Er l k).map f:=by rw[xI,Ka]
theorem ML f l k(v:α):WI (Em f l) k (f v)=Em f (FY l k v):=by rw[xJ,Yh]
theorem QL(f:α->Value)l k:Tc (Em f l) k=Em f (IK l k):=by rw[xK,Yi]
end
def mvC(P:Program)(t:TypeId):Option Value :=
 match P.underlying t with
 | some (.map k e)=>(match P.underlying k with
  |some (.int ζ)=>(P.info? e).bind λi=>i.zero
  |_=>ν)
 |_=>ν
theorem Zu{P t z}(h:mvC P t=σ z):jl P t z:=by
 unfold mvC at h;split at h
 ·rename_i k e hu;split at h
  ·rename_i hk;obtain⟨i,hi,hz⟩:=AS6.1 h;exact⟨k,e,i,hu,hk,hi,hz⟩
  ·cases h
 ·cases h
theorem xL:jl AGm 104 (θ ο):=Zu AF
theorem Zv:jl AGm 105 (π ν):=Zu AF
theorem Tf:jl AGm 152 (ε ζ 0):=Zu AF
def oK(e:Gs):List Value:=[ε ζ e.pl,ε ζ e.op,ε υ (e.h:Int),ε υ (e.ar:Int),ε ζ e.er]
def U6(e:Gs):Value:=.agg #[ε ζ e.pl,ε ζ e.op,ε υ (e.h:Int),ε υ (e.ar:Int),ε ζ e.er]
def Gh(b:Nat)(e:Gs):DW:=.blk b 49 [ε ζ e.pl,ε ζ e.op,ε υ (e.h:Int),ε υ (e.ar:Int),ε ζ e.er]
structure Jr where
 b:Nat
 bc:Nat
 o:Ob
def OL(x:Jr):List DW:=[.blk x.b 154 [ε υ (x.o.h:Int),ε ζ x.o.ow,ε ζ x.o.mo,.map (σ x.bc)],JS x.bc (Em (Value.int ζ) x.o.cs)]
def JK(os:List (Int×Jr)):List DW:=os.flatMap λp=>OL p.2
def NS(x:Jr):Value:=π (σ ⟨x.b,0,ν⟩)
structure MW where
 bS:Nat
 b1:Nat
 b2:Nat
 sd:List (Int×Bool)
 os:List (Int×Jr)
def hsL(x:MW):List DW:=.blk x.bS 107 [.map (σ x.b1),.map (σ x.b2)]::JS x.b1 (Em Value.bool x.sd)::JS x.b2 (Em NS x.os)::JK x.os
def MW.pl(x:MW):HS:=⟨x.sd,Em Jr.o x.os⟩
structure Did(bS:Nat)(o:Option HS)(i:Bool×MW):Prop where
 res:i.1=o.isSome
 st:∀s,o=σ s->i.2.pl=s
 bS:i.2.bS=bS
theorem Did.no{bS o y}(h:o=ν)(hb:y.bS=bS):Did bS o (ο,y):=⟨by rw[h];rfl,λs hs=>(by rw[h]at hs;cases hs),hb⟩
theorem Did.yes{bS o s y}(h:o=σ s)(hy:y.pl=s)(hb:y.bS=bS):Did bS o (τ,y):=⟨by rw[h];rfl,λs' hs=>(by rw[h]at hs;cases hs;exact hy),hb⟩
def Q5(i:Bool×MW):Value:=θ i.1
def X5(i:Bool×MW):List DW:=hsL i.2
theorem eH a b:JK (a++b)=JK a++JK b:=by simp[JK]
theorem rQ p a:JK (p::a)=OL p.2++JK a:=rfl
theorem QM pre post k o:(OL o++JK (pre++post)).Perm (JK (pre++(k,o)::post)):=by
 rw[eH,eH,rQ];exact(CS _ _ _)
def hsF(bS b1 b2:Nat)(sd:List (Int×Bool))(os:List (Int×Jr))(o:Jr)(rest:List (Int×Jr)):List DW :=
 .blk o.b 154 [ε υ (o.o.h:Int),ε ζ o.o.ow,ε ζ o.o.mo,.map (σ o.bc)]::JS o.bc (Em (Value.int ζ) o.o.cs) :: .blk bS 107 [.map (σ b1),.map (σ b2)]::JS b1 (Em Value.bool sd)::JS b2 (Em NS os)::JK rest
theorem Ns{bS b1 b2 sd os pre post k o}(e:os=pre++(k,o)::post):(hsF bS b1 b2 sd os o (pre++post)).Perm (hsL ⟨bS,b1,b2,sd,os⟩):=by
 have h1:(OL o++((.blk bS 107 [.map (σ b1),.map (σ b2)]::JS b1 (Em Value.bool sd)::JS b2 (Em NS os)::[])++JK (pre++post))).Perm ((.blk bS 107 [.map (σ b1),.map (σ b2)]::JS b1 (Em Value.bool sd)::JS b2 (Em NS os)::[])++(OL o++JK (pre++post))):=CS _ _ _;refine List.Perm.trans h1 ?_;have h2:=(QM pre post k o);rw[<-e]at h2;exact Cc _ h2
theorem St.AG7{M W w}{o:Jr}{bS cs ds t t' r B}(h:St M W (.blk o.b t cs::r :: .blk bS t' ds::B) w):o.b≠bS:=λe=>by
 have:=(Ak.1 h.apart).1 (.blk bS t' ds) AUq o.b AUp;exact this AVN
theorem Ey a b c T:Jc T (a::b::c::T)=True:=by simp only[AUf,AT8];intro r hr;simp[hr]
theorem Ez a b c d T:Jc T (a::b::c::d::T)=True:=by simp only[AUf,AT8];intro r hr;simp[hr]
theorem E5 a b c d e T:Jc T (a::b::c::d::e::T)=True:=by simp only[AUf,AT8];intro r hr;simp[hr]
theorem E8 a b c d e f T:Jc T (a::b::c::d::e::f::T)=True:=by simp only[AUf,AT8];intro r hr;simp[hr]
theorem E9 a b c d e f g T:Jc T (a::b::c::d::e::f::g::T)=True:=by simp only[AUf,AT8];intro r hr;simp[hr]
def oL:=AO (AO @Gh.eq_1 @DT) (AO @Ac @KM)
theorem kS x p W(hst:St (DV (hsL x)) W (hsL x) W):
  Calls AGm 41 #[π (σ ⟨x.bS,0,ν⟩),ε ζ p] W
  λen w' => ∃i:Bool×MW,en=κ (Q5 i)/\Did x.bS (WJ x.pl p) i/\St (DV (hsL x)) W (X5 i) w':=by
 obtain⟨M,hM⟩:∃M,DV (hsL x)=M:=⟨_,rfl⟩;rw[hM]at hst ⊢;obtain⟨bS,b1,b2,sd,os⟩:=x;unfold hsL at hst;dsimp only at hst ⊢;clear hM;refine DL (M:=M) Tryz.func41 [.tmp 4]  hst ?_;have zs:=Bd.mk oL;refine DZ ?_;refine Cw λK k0=>C9 rfl λK k1=>DR ?_;refine rJ xL rfl rfl (λw hw=>hw.U5 1 rfl) ?_;rw[F5];refine DR (k1 _ _ ?_);cases hg:Er sd p with
 | some b =>
  refine Mo (AO @Cr.{0,0} @ATK.{0}) ?_;refine C_ (DR ?_);refine DZ ?_;refine C8 (Eg λw hw=>?_);exact⟨(ο,⟨bS,b1,b2,sd,os⟩),rfl,.no (by unfold WJ MW.pl;rw[hg]) rfl,hw⟩
 | none =>
  refine Mo (AO @ASx.{0,0} @ATL.{0}) ?_;refine C_ (DR ?_);refine Cz (k0 _ _ (C9 rfl λK k0=>DR ?_));refine QK 1 (y:=θ τ) xL rfl rfl rfl rfl ?_;rw[ML];refine DR (k0 _ _ ?_);refine DZ ?_;refine C8 (Eg λw hw=>?_);exact⟨(τ,⟨bS,b1,b2,FY sd p τ,os⟩),rfl,.yes (s:=⟨FY sd p τ,Em Jr.o os⟩) (by unfold WJ MW.pl;rw[hg]) rfl rfl,hw⟩
theorem rR e W:Calls AGm 40 #[U6 e] W λen w'=>en=κ (θ (Td e))/\Below W.heap.size W w':=by
 refine DL (M:=[]) Tryz.func40 [.tmp 2] (St.nil _ _) ?_;refine C9 rfl λK k0=>?_;have zs:=Bd.mk oL;refine Ed @U6.eq_1 ?_;intro b1 hb1;refine k0 _ _ (Cw λK k0=>?_);refine Df (λ_ _=>True) (λF' L'=>F' 2=θ (Td e)/\L'=[Gh b1 e]) ?_ ?_
 ·refine Cy rfl (DR ?_);repeat' ((first|refine EF (λhg=>?_) (λhg=>?_)|refine EG (λhg=>?_) (λhg=>?_))<;>((try replace hg:=Fe hg);(try refine Ed hg ?_);(try exact trivial)))
  all_goals (repeat' refine AO ?_ ?_)
  all_goals exact ADM @Td.eq_1
 intro G1 L' _ hF;obtain⟨zq2,rfl⟩:=hF;have g1:=zq2;refine k0 _ _ ?_;have zg:=Bd.mk g1;refine C8 (EP λw hw=>?_);exact⟨rfl,hw.below⟩
theorem AAV{L G:List DW}(h:L=G:=by conv=>lhs;simp only[Aj,Ai,A_,Aq,List.cons_append,List.nil_append,List.drop_nil,List.take_nil,Nat.reduceAdd]):L=G:=h
section
variable{P:Program}{M:List Nat}{W:World}{L:List DW}
theorem AET s m(L:List DW):((L.take s++L.drop (s+m))++(L.drop s).take m).Perm L:=by
 have h1:L=L.take s++((L.drop s).take m++L.drop (s+m)):=by rw[<-List.drop_drop,ASI,ASI]
 conv=>rhs;rw[h1]
 rw[Bh];exact Cc _ BQ
theorem Dh{ι:Sort _}{g:FuncId}{args:Array Value}{K:Bool->Value->List DW->Prop}{A G:List DW}(f:ι->Value)(Lf:ι->List DW)(φ:ι->Prop)(h:∀w,St (DV G) w G w->Calls P g args w (λe w' => ∃i,e=κ (f i)/\φ i/\St (DV G) w (Lf i) w'))(hK:∀i,φ i->K τ (f i) (Lf i++A))(hp:∃s m:Nat,(L.drop s).take m=G/\L.take s++L.drop (s+m)=A:=by first|exact⟨0,1,rfl,AAV⟩|exact⟨0,2,rfl,AAV⟩|exact⟨0,3,rfl,AAV⟩|exact⟨0,4,rfl,AAV⟩|exact⟨0,5,rfl,AAV⟩|exact⟨1,1,rfl,AAV⟩|exact⟨1,2,rfl,AAV⟩|exact⟨1,3,rfl,AAV⟩|exact⟨1,4,rfl,AAV⟩|exact⟨1,5,rfl,AAV⟩|exact⟨2,1,rfl,AAV⟩|exact⟨2,2,rfl,AAV⟩|exact⟨2,3,rfl,AAV⟩|exact⟨2,4,rfl,AAV⟩|exact⟨2,5,rfl,AAV⟩|exact⟨3,1,rfl,AAV⟩|exact⟨3,2,rfl,AAV⟩|exact⟨3,3,rfl,AAV⟩|exact⟨3,4,rfl,AAV⟩|exact⟨3,5,rfl,AAV⟩|exact⟨4,1,rfl,AAV⟩|exact⟨4,2,rfl,AAV⟩|exact⟨4,3,rfl,AAV⟩|exact⟨4,4,rfl,AAV⟩|exact⟨4,5,rfl,AAV⟩|exact⟨5,1,rfl,AAV⟩|exact⟨5,2,rfl,AAV⟩|exact⟨5,3,rfl,AAV⟩|exact⟨5,4,rfl,AAV⟩|exact⟨5,5,rfl,AAV⟩|exact⟨6,1,rfl,AAV⟩|exact⟨6,2,rfl,AAV⟩|exact⟨6,3,rfl,AAV⟩|exact⟨6,4,rfl,AAV⟩|exact⟨6,5,rfl,AAV⟩|exact⟨7,1,rfl,AAV⟩|exact⟨7,2,rfl,AAV⟩|exact⟨7,3,rfl,AAV⟩|exact⟨7,4,rfl,AAV⟩|exact⟨7,5,rfl,AAV⟩|exact⟨8,1,rfl,AAV⟩|exact⟨8,2,rfl,AAV⟩|exact⟨8,3,rfl,AAV⟩|exact⟨8,4,rfl,AAV⟩|exact⟨8,5,rfl,AAV⟩):I6 P M W g args L K:=by
 obtain⟨s,m,rfl,rfl⟩:=hp;exact Jl _ _ (AET s m L) f Lf φ h hK
end
inductive PT where
 |done
 |rd (i:Nat) (r:PT)
 |act (i:Nat) (r:PT)
 |alt (i j:Nat) (p q:PT)
def PT.ok(md:Region.Mode)(ops:Array Oper)(fin:List Nat):PT->Array Bool->Bool
 |.done,listed=>(Region.ready md ops listed).isEmpty
 |.rd i r,listed=>waited md ops fin i listed&&Region.free md ops listed i&&(Region.ready md ops listed).contains i&&PT.ok md ops fin r (listed.setIfInBounds i τ)
 |.act i r,listed=>(Region.ready md ops listed == [i])&&PT.ok md ops fin r (listed.setIfInBounds i τ)
 |.alt i j p q,listed=>(Region.ready md ops listed == [i,j])&&PT.ok md ops fin p (listed.setIfInBounds i τ)&&PT.ok md ops fin q (listed.setIfInBounds j τ)
def PT.IE:PT->Nat->Bool
 |.done,n=>n == 0
 |.rd _ r,n+1=>r.IE n
 |.act _ r,n+1=>r.IE n
 |.alt _ _ p q,n+1=>p.IE n&&q.IE n
 |_,0=>ο
section
variable{P:Program}{ops:Array Oper}{Q:Exit->Act->World->Prop}{md:Region.Mode}{S:World->Prop}{fin:List Nat}
def wpT(P:Program)(ops:Array Oper)(Q:Exit->Act->World->Prop)(S:World->Prop)(fin:List Nat):PT->Act->World->Prop
 |.done,a,w=>Q .normal a w
 |.rd i r,a,w=>S w∧∃o v,ops[i]?=σ o/\YieldsIf P ops S o v a/\wpT P ops Q S fin r (a.put o.dst v) w
 |.act i r,a,w => ∃o,ops[i]?=σ o/\wpList P ops (Exit.then (λa' w'=>(fin.contains i=ο->S w')/\wpT P ops Q S fin r a' w') Q) [o] a w
 | .alt i j p q,a,w=>(∃o,ops[i]?=σ o/\wpList P ops (Exit.then (λa' w'=>(fin.contains i=ο->S w')/\wpT P ops Q S fin p a' w') Q) [o] a w) ∧
   (∃o,ops[j]?=σ o/\wpList P ops (Exit.then (λa' w'=>(fin.contains j=ο->S w')/\wpT P ops Q S fin q a' w') Q) [o] a w)
theorem MX(hs:Region.noSelect ops=τ)(hQ:∀c d v (a:Act) w,Q (.panic c) (a.put d v) w->Q (.panic c) a w):
  ∀(p:PT) (n:Nat) (listed:Array Bool) (a:Act) (w:World),p.ok md ops fin listed=τ->p.IE n=τ->wpT P ops Q S fin p a w->LV P md ops Q S fin n listed a w
 | .done,n,listed,a,w,hp,hl,h=>by
  simp only[PT.IE,ATu]at hl;subst hl;exact⟨by simpa [PT.ok]using hp,h⟩
 |.rd i r,0,listed,a,w,hp,hl,h=>by cases hl
 |.act i r,0,listed,a,w,hp,hl,h=>by cases hl
 |.alt i j p q,0,listed,a,w,hp,hl,h=>by cases hl
 | .rd i r,n+1,listed,a,w,hp,hl,h=>by
  simp only[PT.ok,Au]at hp;obtain⟨⟨⟨h1,h2⟩,h3⟩,h4⟩:=hp;obtain⟨hS,o,v,ho,hy,hr⟩:=h;exact PI ho h1 hs h2 h3 (λc a w=>hQ c _ _ a w) hy hS (MX hs hQ r n _ _ _ h4 hl hr)
 | .act i r,n+1,listed,a,w,hp,hl,h=>by
  simp only[PT.ok,Au,ATu]at hp;obtain⟨h1,h2⟩:=hp;obtain⟨o,ho,kT⟩:=h;refine⟨λh0=>AWA,λj hj=>?_⟩;rw[h1]at hj;obtain rfl:j=i:=by simpa using hj
  exact wpOp_mono (λa' w' h'=>⟨h'.1,MX hs hQ r n _ _ _ h2 hl h'.2⟩) (Iu ho kT)
 | .alt i j p q,n+1,listed,a,w,hp,hl,h=>by
  simp only[PT.ok,Au,ATu]at hp;simp only[PT.IE,Au]at hl;obtain⟨⟨h1,h2⟩,h3⟩:=hp;obtain⟨⟨o,ho,kT⟩,⟨o2,ho2,AG8⟩⟩:=h;refine⟨λh0=>AWA,λk hk=>?_⟩;rw[h1]at hk;simp only[AP,Ae,AT7]at hk;rcases hk with rfl|rfl
  ·exact wpOp_mono (λa' w' h'=>⟨h'.1,MX hs hQ p n _ _ _ h2 hl.1 h'.2⟩) (Iu ho kT)
  ·exact wpOp_mono (λa' w' h'=>⟨h'.1,MX hs hQ q n _ _ _ h3 hl.2 h'.2⟩) (Iu ho2 AG8)
theorem WQ{id a w}p S fin(hm:P.follows .mixedOrders=τ)(hs:Region.noSelect ops=τ)
  (hp:p.ok .any ops fin (CQ ops.size ο)=τ) (hz:p.IE ops.size=τ) (hQ:∀c d v (a:Act) w,Q (.panic c) (a.put d v) w->Q (.panic c) a w)
  (h:wpT P ops Q S fin p a w.drew):(Code.region id ops τ).wp P Q a w :=
 wp_region_any hm (Kn _ _ _ _ (MX hs hQ p _ _ _ _ hp hz h))
end
section
variable{P:Program}{M:List Nat}{W:World}{n:Nat}
def Qf(P:Program)(M:List Nat)(W:World)(n:Nat)(os:List Oper)(L0:List DW)(fin:List Nat)(tok:Bool):PT->Fr->List DW->(Fr->List DW->Prop)->Prop
 |.done,F,L,K=>K F L
 | .rd i r,F,L,K=>match nth os i with
  |some o=>Ja os F o.guard (Jv P M W o F L0 λtok v=>Qf P M W n os L0 fin tok r (Fq F o.dst v) L K) (Qf P M W n os L0 fin tok r (Fq F o.dst undef) L K)
  |none=>False
 | .act i r,F,L,K=>match nth os i with
  |some o=>Ja os F o.guard (FP P M W o F L λtok v L'=>(fin.contains i=ο->Jc L0 L')/\Qf P M W n os L0 fin tok r (Fq F o.dst v) L' K) (Qf P M W n os L0 fin tok r (Fq F o.dst undef) L K)
  |none=>False
 | .alt i j p q,F,L,K=>(match nth os i with
  |some o=>Ja os F o.guard (FP P M W o F L λtok v L'=>(fin.contains i=ο->Jc L0 L')/\Qf P M W n os L0 fin tok p (Fq F o.dst v) L' K) (Qf P M W n os L0 fin tok p (Fq F o.dst undef) L K)
  |none=>False)/\(match nth os j with
  |some o=>Ja os F o.guard (FP P M W o F L λtok v L'=>(fin.contains j=ο->Jc L0 L')/\Qf P M W n os L0 fin tok q (Fq F o.dst v) L' K) (Qf P M W n os L0 fin tok q (Fq F o.dst undef) L K)
  |none=>False)
def vtg(P:Program)(M:List Nat)(W:World)(n:Nat)(os:List Oper)(L0:List DW)(fin:List Nat)(x:Bool)(i:Nat)(s:Option Bool)(o:Oper)(r:PT)(F:Fr)(L:List DW)(K:Fr->List DW->Prop):Prop :=
 match s,x with
 |some t,τ=>(t=τ->Jv P M W o F L0 λtok v=>Qf P M W n os L0 fin tok r (Fq F o.dst v) L K)/\(t=ο->Qf P M W n os L0 fin τ r (Fq F o.dst undef) L K)
 |some t,ο=>(t=τ->FP P M W o F L λtok v L'=>(fin.contains i=ο->Jc L0 L')/\Qf P M W n os L0 fin tok r (Fq F o.dst v) L' K)/\(t=ο->Qf P M W n os L0 fin τ r (Fq F o.dst undef) L K)
 |none,_=>False
def xM(P:Program)(M:List Nat)(W:World)(n:Nat)(os:List Oper)(L0:List DW)(fin:List Nat)(x:Bool)(i:Nat)(o:Option Oper)(r:PT)(F:Fr)(L:List DW)(K:Fr->List DW->Prop):Prop :=
 match o with
 |none=>False
 | some o=>match o.guard with
  | none=>(match x with
   |true=>Jv P M W o F L0 λtok v=>Qf P M W n os L0 fin tok r (Fq F o.dst v) L K
   |false=>FP P M W o F L λtok v L'=>(fin.contains i=ο->Jc L0 L')/\Qf P M W n os L0 fin tok r (Fq F o.dst v) L' K)
  |some (j,b)=>vtg P M W n os L0 fin x i (bu os F j b) o r F L K
section
variable{os:List Oper}{L0:List DW}{fin:List Nat}{x:Bool}{i j:Nat}{o:Oper}{r p q:PT}{F:Fr}{L:List DW}{K:Fr->List DW->Prop}
theorem rT:xM P M W n os L0 fin τ i (nth os i) r F L K=Qf P M W n os L0 fin τ (.rd i r) F L K:=by
 simp only[Qf,xM];cases nth os i with
 |none=>rfl
 | some o =>
  simp only;cases hg:o.guard with
  |none=>rfl
  | some jb =>
   obtain⟨j,b⟩:=jb;simp only;rw[Jb];unfold vtg;cases bu os F j b<;>rfl
theorem Q6:xM P M W n os L0 fin ο i (nth os i) r F L K=Qf P M W n os L0 fin τ (.act i r) F L K:=by
 simp only[Qf,xM];cases nth os i with
 |none=>rfl
 | some o =>
  simp only;cases hg:o.guard with
  |none=>rfl
  | some jb =>
   obtain⟨j,b⟩:=jb;simp only;rw[Jb];unfold vtg;cases bu os F j b<;>rfl
theorem eO:Qf P M W n os L0 fin τ .done F L K=K F L:=rfl
theorem xN:Qf P M W n os L0 fin τ (.rd i r) F L K=xM P M W n os L0 fin τ i (nth os i) r F L K:=rT.symm
theorem oM:Qf P M W n os L0 fin τ (.act i r) F L K=xM P M W n os L0 fin ο i (nth os i) r F L K:=Q6.symm
theorem oN:Qf P M W n os L0 fin τ (.alt i j p q) F L K=(xM P M W n os L0 fin ο i (nth os i) p F L K/\xM P M W n os L0 fin ο j (nth os j) q F L K):=by
 rw[Q6,Q6];rfl
variable{d:Option Nat}{op:Op}{ty:TypeId}{pos:String}{af:Array Edge}{b:Bool}
theorem eP:xM P M W n os L0 fin τ i (σ ⟨d,op,ty,pos,af,ν⟩) r F L K=Jv P M W ⟨d,op,ty,pos,af,ν⟩ F L0 λtok v=>Qf P M W n os L0 fin tok r (Fq F d v) L K:=rfl
theorem eQ:xM P M W n os L0 fin ο i (σ ⟨d,op,ty,pos,af,ν⟩) r F L K=FP P M W ⟨d,op,ty,pos,af,ν⟩ F L λtok v L'=>(fin.contains i=ο->Jc L0 L')/\Qf P M W n os L0 fin tok r (Fq F d v) L' K:=rfl
theorem Yk:xM P M W n os L0 fin x i (σ ⟨d,op,ty,pos,af,σ (j,b)⟩) r F L K=vtg P M W n os L0 fin x i (bu os F j b) ⟨d,op,ty,pos,af,σ (j,b)⟩ r F L K:=rfl
theorem eT:vtg P M W n os L0 fin τ i (σ τ) o r F L K=Jv P M W o F L0 λtok v=>Qf P M W n os L0 fin tok r (Fq F o.dst v) L K:=by simp[vtg]
theorem eU:vtg P M W n os L0 fin ο i (σ τ) o r F L K=FP P M W o F L λtok v L'=>(fin.contains i=ο->Jc L0 L')/\Qf P M W n os L0 fin tok r (Fq F o.dst v) L' K:=by simp[vtg]
theorem Yl:vtg P M W n os L0 fin x i (σ ο) o r F L K=Qf P M W n os L0 fin τ r (Fq F o.dst undef) L K:=by cases x<;>simp[vtg]
end
def PT.Fa(fin:List Nat):PT->Bool
 |.done=>τ
 |.rd _ _=>ο
 |.act i r=>fin.contains i&&r.Fa fin
 |.alt i j p q=>fin.contains i&&fin.contains j&&p.Fa fin&&q.Fa fin
def PT.FV(fin:List Nat):PT->Bool
 |.done=>τ
 |.rd _ r=>r.FV fin
 |.act i r=>if fin.contains i then r.Fa fin else r.FV fin
 |.alt i j p q=>(if fin.contains i then p.Fa fin else p.FV fin)&&(if fin.contains j then q.Fa fin else q.FV fin)
theorem PT.Kc{fin:List Nat} : ∀(p:PT),p.Fa fin=τ->p.FV fin=τ
 |.done,_=>rfl
 |.rd _ _,h=>by cases h
 | .act i r,h=>by
  simp only[PT.Fa,Au]at h;simp only[PT.FV];rw[ATv h.1];exact h.2
 | .alt i j p q,h=>by
  simp only[PT.Fa,Au]at h;simp only[PT.FV];rw[ATv h.1.1.1,ATv h.1.1.2,h.1.2,h.2];rfl
theorem Iy{ops:Array Oper}{Q:Exit->Act->World->Prop}{L0:List DW}{fin:List Nat}(hn:∀j o d,nth ops.toList j=σ o->o.dst=σ d->d<n)(hap:L0.Pairwise (λr s => ∀b∈r.foot,b∉s.foot)):∀(p:PT) {F:Fr} {L:List DW} {K:Fr->List DW->Prop} {a:Act} {w:World},
  Qf P M W n ops.toList L0 fin τ p F L K->OT n a F->St M W L w->p.FV fin=τ->(p.Fa fin=τ\/Jc L0 L)->(∀F' L' a' w',K F' L'→OT n a' F'→St M W L' w'→Q .normal a' w')->wpT P ops Q (St M W L0) fin p a w
 |.done,F,L,K,a,w,h,ha,hw,hf,NA,hq=>hq _ _ _ _ h ha hw
 | .rd i r,F,L,K,a,w,h,ha,hw,hf,NA,hq=>by
  simp only[Qf]at h;have PQ:Jc L0 L:=NA.resolve_left (by simp[PT.Fa]);have hS:St M W L0 w:=hw.Jw PQ hap;split at h
  ·rename_i o ho;have hd:PK n o.dst:=by
    cases hdo:o.dst with
    |none=>trivial
    |some d=>exact hn i o d ho hdo
   rcases GK ha hn h with⟨hwt,h⟩|⟨hwt,h⟩
   ·obtain⟨v,hr,hk⟩:=PN h;exact⟨hS,o,v,Jt ho,.inl ⟨hwt,λw' hw'=>by rw[ha.eval];exact hr w' hw'⟩,Iy hn hap r hk (ha.put hd v) hw hf (.inr PQ) hq⟩
   ·exact⟨hS,o,undef,Jt ho,.inr ⟨hwt,rfl⟩,Iy hn hap r h (ha.put hd undef) hw hf (.inr PQ) hq⟩
  ·exact AVz
 | .act i r,F,L,K,a,w,h,ha,hw,hf,NA,hq=>by
  simp only[Qf]at h;split at h
  ·rename_i o ho;have hd:PK n o.dst:=by
    cases hdo:o.dst with
    |none=>trivial
    |some d=>exact hn i o d ho hdo
   have hf':r.FV fin=τ:=by
    simp only[PT.FV]at hf;split at hf
    ·exact r.Kc hf
    ·exact hf
   have hnext:∀L',(fin.contains i=ο->Jc L0 L')->(r.Fa fin=τ\/Jc L0 L'):=by
    intro L' hL;cases hc:fin.contains i with
    | true =>
     simp only[PT.FV,hc,ATx]at hf;exact .inl hf
    |false=>exact .inr (hL hc)
   have hsame:fin.contains i=ο->Jc L0 L:=λhc=>NA.resolve_left AV2;refine⟨o,Jt ho,?_⟩;rcases GK ha hn h with⟨hwt,h⟩|⟨hwt,h⟩
   ·unfold wpList;rw[ATv hwt];refine .inl (JZ h ha.eval hw λv L' w' hk hs=>?_);exact⟨λhc=>hs.Jw (hk.1 hc) hap,Iy hn hap r hk.2 (ha.put hd v) hs hf' (hnext L' hk.1) hq⟩
   ·unfold wpList;rw[hwt];exact⟨λhc=>hw.Jw (hsame hc) hap,Iy hn hap r h (ha.put hd undef) hw hf' (hnext L hsame) hq⟩
  ·exact AVz
 | .alt i j p q,F,L,K,a,w,h,ha,hw,hf,NA,hq=>by
  simp only[Qf]at h;obtain⟨h1,h2⟩:=h;simp only[PT.FV,Au]at hf;refine⟨?_,?_⟩
  ·split at h1
   ·rename_i o ho;have hd:PK n o.dst:=by
     cases hdo:o.dst with
     |none=>trivial
     |some d=>exact hn i o d ho hdo
    have hf':p.FV fin=τ:=by
     have:=hf.1;split at this
     ·exact p.Kc this
     ·exact this
    have hnext:∀L',(fin.contains i=ο->Jc L0 L')->(p.Fa fin=τ\/Jc L0 L'):=by
     intro L' hL;cases hc:fin.contains i with
     | true =>
      have:=hf.1;rw[hc,ATv rfl]at this;exact .inl this
     |false=>exact .inr (hL hc)
    have hsame:fin.contains i=ο->Jc L0 L:=λhc=>NA.resolve_left AV2;refine⟨o,Jt ho,?_⟩;rcases GK ha hn h1 with⟨hwt,h⟩|⟨hwt,h⟩
    ·unfold wpList;rw[ATv hwt];refine .inl (JZ h ha.eval hw λv L' w' hk hs=>?_);exact⟨λhc=>hs.Jw (hk.1 hc) hap,Iy hn hap p hk.2 (ha.put hd v) hs hf' (hnext L' hk.1) hq⟩
    ·unfold wpList;rw[hwt];exact⟨λhc=>hw.Jw (hsame hc) hap,Iy hn hap p h (ha.put hd undef) hw hf' (hnext L hsame) hq⟩
   ·exact h1.elim
  ·split at h2
   ·rename_i o ho;have hd:PK n o.dst:=by
     cases hdo:o.dst with
     |none=>trivial
     |some d=>exact hn j o d ho hdo
    have hf':q.FV fin=τ:=by
     have:=hf.2;split at this
     ·exact q.Kc this
     ·exact this
    have hnext:∀L',(fin.contains j=ο->Jc L0 L')->(q.Fa fin=τ\/Jc L0 L'):=by
     intro L' hL;cases hc:fin.contains j with
     | true =>
      have:=hf.2;rw[hc,ATv rfl]at this;exact .inl this
     |false=>exact .inr (hL hc)
    have hsame:fin.contains j=ο->Jc L0 L:=λhc=>NA.resolve_left AV2;refine⟨o,Jt ho,?_⟩;rcases GK ha hn h2 with⟨hwt,h⟩|⟨hwt,h⟩
    ·unfold wpList;rw[ATv hwt];refine .inl (JZ h ha.eval hw λv L' w' hk hs=>?_);exact⟨λhc=>hs.Jw (hk.1 hc) hap,Iy hn hap q hk.2 (ha.put hd v) hs hf' (hnext L' hk.1) hq⟩
    ·unfold wpList;rw[hwt];exact⟨λhc=>hw.Jw (hsame hc) hap,Iy hn hap q h (ha.put hd undef) hw hf' (hnext L hsame) hq⟩
   ·exact h2.elim
theorem ABg{F L Q id l}ix(hnd:ix.Nodup)(hsub:Jc (Dl ix L) L)p fin(hm:P.follows .mixedOrders=τ)(hd:l.all (λo=>Mm n o.dst)=τ)(hs:Region.noSelect l.toArray=τ)
  (hp:p.ok .any l.toArray fin (CQ l.toArray.size ο)=τ) (hz:p.IE l.toArray.size=τ) (hf:p.FV fin=τ) {K}
  (h:Qf P M W n l (Dl ix L) fin τ p F L (λF' L' => ∃jx:List Nat,jx.Nodup/\K F' (Dl jx L'))):CV P M W n (.region id l.toArray τ) F L (Dq K Q):=λa w ha hw =>
 WQ p (St M W (Dl ix L)) fin hm hs hp hz AWK
  (Iy (ops:=l.toArray) (Rl AWZ) (hw.pick hnd).apart p AVU ha hw.drew hf (.inr hsub) λF' L' a' w' hK h1 h2=>by
   obtain⟨jx,hj,hk⟩:=hK;exact⟨F',_,h1,h2.pick hj,hk⟩)
end
def cT:=AO (AO (AO @eO @xN) (AO @oM (AO @oN @eP))) (AO (AO @eQ @Yk) (AO @eT (AO @eU @Yl)))
section
variable{P:Program}{M:List Nat}{W:World}{n i:Nat}{l:List Oper}{F:Fr}{L L2:List DW}{Q:Exit->Fr->List DW->Prop}{K:Fr->List DW->Prop}{p:Prop}
theorem oO(ix:List Nat)(p:PT)(fin:List Nat)(h:Qf P M W n l L2 fin τ p F L (λF' L' => ∃jx:List Nat,jx.Nodup/\K F' (Dl jx L')))(e:Dl ix L=L2:=by conv=>lhs;simp only[Dl,nth])(hsub:Jc L2 L:=by simp only[PO,Rj,AP,true_or,or_true,and_true,eq_self])(hn:ix.Nodup:=by decide)(hm:P.follows .mixedOrders=τ:=by exact ABR)(hd:l.all (λo=>Mm n o.dst)=τ:=by rfl)(hs:Region.noSelect l.toArray=τ:=by kernel_rfl)(hp:p.ok .any l.toArray fin (Array.replicate l.toArray.size ο)=τ:=by kernel_rfl)(hz:p.IE l.toArray.size=τ:=by kernel_rfl)(hf:p.FV fin=τ:=by kernel_rfl):CV P M W n (.region i l.toArray τ) F L (Dq K Q):=ABg ix hn (e▸hsub) p fin hm hd hs hp hz hf (e▸h)
end
inductive PM where
 |done
 |rd (i:Nat) (r:PM)
 |act (i:Nat) (r:PM)
 |more (i:Nat) (p q:PM)
def PM.ok(md:Region.Mode)(ops:Array Oper)(fin:List Nat):PM->Nat->Array Bool->Bool
 |.done,sk,listed=>sk == 0&&(Region.ready md ops listed).isEmpty
 |.rd i r,sk,listed=>sk == 0&&waited md ops fin i listed&&Region.free md ops listed i&&(Region.ready md ops listed).contains i&&PM.ok md ops fin r 0 (listed.setIfInBounds i τ)
 |.act i r,sk,listed=>((Region.ready md ops listed).drop sk == [i])&&PM.ok md ops fin r 0 (listed.setIfInBounds i τ)
 |.more i p q,sk,listed=>(((Region.ready md ops listed).drop sk).head? == σ i)&&PM.ok md ops fin p 0 (listed.setIfInBounds i τ)&&PM.ok md ops fin q (sk+1) listed
def PM.IE:PM->Nat->Bool
 |.done,n=>n == 0
 |.rd _ r,n+1=>r.IE n
 |.act _ r,n+1=>r.IE n
 |.more _ p q,n+1=>p.IE n&&q.IE (n+1)
 |_,0=>ο
def PM.spine:PM->Bool
 |.act _ _=>τ
 |.more _ _ q=>q.spine
 |_=>ο
section
variable{P:Program}{ops:Array Oper}{Q:Exit->Act->World->Prop}{md:Region.Mode}{S:World->Prop}{fin:List Nat}
def wpM(P:Program)(ops:Array Oper)(Q:Exit->Act->World->Prop)(S:World->Prop)(fin:List Nat):PM->Act->World->Prop
 |.done,a,w=>Q .normal a w
 |.rd i r,a,w=>S w∧∃o v,ops[i]?=σ o/\YieldsIf P ops S o v a/\wpM P ops Q S fin r (a.put o.dst v) w
 |.act i r,a,w => ∃o,ops[i]?=σ o/\wpList P ops (Exit.then (λa' w'=>(fin.contains i=ο->S w')/\wpM P ops Q S fin r a' w') Q) [o] a w
 |.more i p q,a,w=>(∃o,ops[i]?=σ o/\wpList P ops (Exit.then (λa' w'=>(fin.contains i=ο->S w')/\wpM P ops Q S fin p a' w') Q) [o] a w)/\wpM P ops Q S fin q a w
theorem rU{α:Type}{l:List α}{k x}(h:(l.drop k).head?=σ x):l.drop k=x::l.drop (k+1):=by
 rw[<-List.tail_drop];cases hl:l.drop k with
 |nil=>rw[hl]at h;cases h
 |cons y r=>rw[hl]at h;simp at h;rw[h];rfl
theorem kU(hs:Region.noSelect ops=τ)(hQ:∀c d v (a:Act) w,Q (.panic c) (a.put d v) w->Q (.panic c) a w):
  ∀p,(∀n listed a w,p.ok md ops fin 0 listed=τ->p.IE n=τ->wpM P ops Q S fin p a w->LV P md ops Q S fin n listed a w) ∧
   (∀n sk listed a w,(0<sk\/p.spine=τ)->p.ok md ops fin sk listed=τ->p.IE (n+1)=τ->wpM P ops Q S fin p a w →
    (Region.ready md ops listed).drop sk≠[]∧∀j∈(Region.ready md ops listed).drop sk,wpOp P ops Q j (λa' w'=>(fin.contains j=ο->S w')/\LV P md ops Q S fin n (listed.setIfInBounds j τ) a' w') a w):=by
 intro p
 induction p with
 | done =>
  refine⟨λn listed a w hp hl h=>?_,λn sk listed a w hk hp hl h=>?_⟩
  ·simp only[PM.IE,ATu]at hl;subst hl;simp only[PM.ok,AUa,ASv]at hp;exact⟨by simpa using hp,h⟩
  ·simp[PM.IE]at hl
 | rd i r ih =>
  refine⟨λn listed a w hp hl h=>?_,λn sk listed a w hk hp hl h=>?_⟩
  ·cases n with
   |zero=>cases hl
   | succ n =>
    simp only[PM.ok,Au]at hp;obtain⟨⟨⟨⟨-,h1⟩,h2⟩,h3⟩,h4⟩:=hp;obtain⟨hS,o,v,ho,hy,hr⟩:=h;exact PI ho h1 hs h2 h3 (λc a w=>hQ c _ _ a w) hy hS (ih.1 n _ _ _ h4 hl hr)
  ·simp only[PM.ok,Au,ATu]at hp;rcases hk with hk|hk
   ·omega
   ·cases hk
 | act i r ih =>
  have main:∀(n sk:Nat) (listed:Array Bool) (a:Act) (w:World),(PM.act i r).ok md ops fin sk listed=τ->(PM.act i r).IE (n+1)=τ->wpM P ops Q S fin (.act i r) a w →
    (Region.ready md ops listed).drop sk≠[]∧∀j∈(Region.ready md ops listed).drop sk,wpOp P ops Q j (λa' w'=>(fin.contains j=ο->S w')/\LV P md ops Q S fin n (listed.setIfInBounds j τ) a' w') a w:=by
   intro n sk listed a w hp hl h;simp only[PM.ok,Au,ATu]at hp;obtain⟨h1,h2⟩:=hp;obtain⟨o,ho,kT⟩:=h;refine⟨λh0=>AWA,λj hj=>?_⟩;rw[h1]at hj;obtain rfl:j=i:=by simpa using hj
   exact wpOp_mono (λa' w' h'=>⟨h'.1,ih.1 n _ _ _ h2 hl h'.2⟩) (Iu ho kT)
  refine⟨λn listed a w hp hl h=>?_,λn sk listed a w hk hp hl h=>main n sk listed a w hp hl h⟩;cases n with
  |zero=>cases hl
  | succ n =>
   obtain⟨h1,h2⟩:=main n 0 listed a w hp hl h;rw[Aq]at h1 h2;exact⟨λh0=>absurd h0 h1,h2⟩
 | more i p q ihp ihq =>
  have main:∀(n sk:Nat) (listed:Array Bool) (a:Act) (w:World),(PM.more i p q).ok md ops fin sk listed=τ->(PM.more i p q).IE (n+1)=τ->wpM P ops Q S fin (.more i p q) a w →
    (Region.ready md ops listed).drop sk≠[]∧∀j∈(Region.ready md ops listed).drop sk,wpOp P ops Q j (λa' w'=>(fin.contains j=ο->S w')/\LV P md ops Q S fin n (listed.setIfInBounds j τ) a' w') a w:=by
   intro n sk listed a w hp hl h;simp only[PM.ok,Au,ATu]at hp;obtain⟨⟨h1,h2⟩,h3⟩:=hp;simp only[PM.IE,Au]at hl;obtain⟨⟨o,ho,kT⟩,hq⟩:=h;have hd:=rU h1;refine⟨λh0=>(by rw[h0]at hd;cases hd),λj hj=>?_⟩;rw[hd]at hj;rcases AP.1 hj with rfl|hj
   ·exact wpOp_mono (λa' w' h'=>⟨h'.1,ihp.1 n _ _ _ h2 hl.1 h'.2⟩) (Iu ho kT)
   ·exact(ihq.2 n (sk+1) listed a w (.inl (Nat.succ_pos _)) h3 hl.2 hq).2 j hj
  refine⟨λn listed a w hp hl h=>?_,λn sk listed a w hk hp hl h=>main n sk listed a w hp hl h⟩;cases n with
  |zero=>cases hl
  | succ n =>
   obtain⟨h1,h2⟩:=main n 0 listed a w hp hl h;rw[Aq]at h1 h2;exact⟨λh0=>absurd h0 h1,h2⟩
theorem WR{id a w}p S fin(hm:P.follows .mixedOrders=τ)(hs:Region.noSelect ops=τ)
  (hp:p.ok .any ops fin 0 (CQ ops.size ο)=τ) (hz:p.IE ops.size=τ) (hQ:∀c d v (a:Act) w,Q (.panic c) (a.put d v) w->Q (.panic c) a w)
  (h:wpM P ops Q S fin p a w.drew):(Code.region id ops τ).wp P Q a w :=
 wp_region_any hm (Kn _ _ _ _ ((kU hs hQ p).1 _ _ _ _ hp hz h))
end
section
variable{P:Program}{M:List Nat}{W:World}{n:Nat}
def Qg(P:Program)(M:List Nat)(W:World)(n:Nat)(os:List Oper)(L0:List DW)(fin:List Nat)(tok:Bool):PM->Fr->List DW->(Fr->List DW->Prop)->Prop
 |.done,F,L,K=>K F L
 | .rd i r,F,L,K=>match nth os i with
  |some o=>Ja os F o.guard (Jv P M W o F L0 λtok v=>Qg P M W n os L0 fin tok r (Fq F o.dst v) L K) (Qg P M W n os L0 fin tok r (Fq F o.dst undef) L K)
  |none=>False
 | .act i r,F,L,K=>match nth os i with
  |some o=>Ja os F o.guard (FP P M W o F L λtok v L'=>(fin.contains i=ο->Jc L0 L')/\Qg P M W n os L0 fin tok r (Fq F o.dst v) L' K) (Qg P M W n os L0 fin tok r (Fq F o.dst undef) L K)
  |none=>False
 | .more i p q,F,L,K=>(match nth os i with
  |some o=>Ja os F o.guard (FP P M W o F L λtok v L'=>(fin.contains i=ο->Jc L0 L')/\Qg P M W n os L0 fin tok p (Fq F o.dst v) L' K) (Qg P M W n os L0 fin tok p (Fq F o.dst undef) L K)
  |none=>False)/\Qg P M W n os L0 fin tok q F L K
def vmg(P:Program)(M:List Nat)(W:World)(n:Nat)(os:List Oper)(L0:List DW)(fin:List Nat)(x:Bool)(i:Nat)(s:Option Bool)(o:Oper)(r:PM)(F:Fr)(L:List DW)(K:Fr->List DW->Prop):Prop :=
 match s,x with
 |some t,τ=>(t=τ->Jv P M W o F L0 λtok v=>Qg P M W n os L0 fin tok r (Fq F o.dst v) L K)/\(t=ο->Qg P M W n os L0 fin τ r (Fq F o.dst undef) L K)
 |some t,ο=>(t=τ->FP P M W o F L λtok v L'=>(fin.contains i=ο->Jc L0 L')/\Qg P M W n os L0 fin tok r (Fq F o.dst v) L' K)/\(t=ο->Qg P M W n os L0 fin τ r (Fq F o.dst undef) L K)
 |none,_=>False
def vmo(P:Program)(M:List Nat)(W:World)(n:Nat)(os:List Oper)(L0:List DW)(fin:List Nat)(x:Bool)(i:Nat)(o:Option Oper)(r:PM)(F:Fr)(L:List DW)(K:Fr->List DW->Prop):Prop :=
 match o with
 |none=>False
 | some o=>match o.guard with
  | none=>(match x with
   |true=>Jv P M W o F L0 λtok v=>Qg P M W n os L0 fin tok r (Fq F o.dst v) L K
   |false=>FP P M W o F L λtok v L'=>(fin.contains i=ο->Jc L0 L')/\Qg P M W n os L0 fin tok r (Fq F o.dst v) L' K)
  |some (j,b)=>vmg P M W n os L0 fin x i (bu os F j b) o r F L K
section
variable{os:List Oper}{L0:List DW}{fin:List Nat}{x:Bool}{i j:Nat}{o:Oper}{r p q:PM}{F:Fr}{L:List DW}{K:Fr->List DW->Prop}
theorem rV:vmo P M W n os L0 fin τ i (nth os i) r F L K=Qg P M W n os L0 fin τ (.rd i r) F L K:=by
 simp only[Qg,vmo];cases nth os i with
 |none=>rfl
 | some o =>
  simp only;cases hg:o.guard with
  |none=>rfl
  | some jb =>
   obtain⟨j,b⟩:=jb;simp only;rw[Jb];unfold vmg;cases bu os F j b<;>rfl
theorem WS:vmo P M W n os L0 fin ο i (nth os i) r F L K=Qg P M W n os L0 fin τ (.act i r) F L K:=by
 simp only[Qg,vmo];cases nth os i with
 |none=>rfl
 | some o =>
  simp only;cases hg:o.guard with
  |none=>rfl
  | some jb =>
   obtain⟨j,b⟩:=jb;simp only;rw[Jb];unfold vmg;cases bu os F j b<;>rfl
theorem eX:Qg P M W n os L0 fin τ .done F L K=K F L:=rfl
theorem xO:Qg P M W n os L0 fin τ (.rd i r) F L K=vmo P M W n os L0 fin τ i (nth os i) r F L K:=rV.symm
theorem oP:Qg P M W n os L0 fin τ (.act i r) F L K=vmo P M W n os L0 fin ο i (nth os i) r F L K:=WS.symm
theorem eY:Qg P M W n os L0 fin τ (.more i p q) F L K=(vmo P M W n os L0 fin ο i (nth os i) p F L K/\Qg P M W n os L0 fin τ q F L K):=by
 rw[WS];rfl
variable{d:Option Nat}{op:Op}{ty:TypeId}{pos:String}{af:Array Edge}{b:Bool}
theorem eZ:vmo P M W n os L0 fin τ i (σ ⟨d,op,ty,pos,af,ν⟩) r F L K=Jv P M W ⟨d,op,ty,pos,af,ν⟩ F L0 λtok v=>Qg P M W n os L0 fin tok r (Fq F d v) L K:=rfl
theorem ed:vmo P M W n os L0 fin ο i (σ ⟨d,op,ty,pos,af,ν⟩) r F L K=FP P M W ⟨d,op,ty,pos,af,ν⟩ F L λtok v L'=>(fin.contains i=ο->Jc L0 L')/\Qg P M W n os L0 fin tok r (Fq F d v) L' K:=rfl
theorem Ym:vmo P M W n os L0 fin x i (σ ⟨d,op,ty,pos,af,σ (j,b)⟩) r F L K=vmg P M W n os L0 fin x i (bu os F j b) ⟨d,op,ty,pos,af,σ (j,b)⟩ r F L K:=rfl
theorem eu:vmg P M W n os L0 fin τ i (σ τ) o r F L K=Jv P M W o F L0 λtok v=>Qg P M W n os L0 fin tok r (Fq F o.dst v) L K:=by simp[vmg]
theorem fA:vmg P M W n os L0 fin ο i (σ τ) o r F L K=FP P M W o F L λtok v L'=>(fin.contains i=ο->Jc L0 L')/\Qg P M W n os L0 fin tok r (Fq F o.dst v) L' K:=by simp[vmg]
theorem Yn:vmg P M W n os L0 fin x i (σ ο) o r F L K=Qg P M W n os L0 fin τ r (Fq F o.dst undef) L K:=by cases x<;>simp[vmg]
end
def PM.Fa(fin:List Nat):PM->Bool
 |.done=>τ
 |.rd _ _=>ο
 |.act i r=>fin.contains i&&r.Fa fin
 |.more i p q=>fin.contains i&&p.Fa fin&&q.Fa fin
def PM.FV(fin:List Nat):PM->Bool
 |.done=>τ
 |.rd _ r=>r.FV fin
 |.act i r=>if fin.contains i then r.Fa fin else r.FV fin
 |.more i p q=>(if fin.contains i then p.Fa fin else p.FV fin)&&q.FV fin
theorem PM.Kc{fin:List Nat} : ∀(p:PM),p.Fa fin=τ->p.FV fin=τ
 |.done,_=>rfl
 |.rd _ _,h=>by cases h
 | .act i r,h=>by
  simp only[PM.Fa,Au]at h;simp only[PM.FV];rw[ATv h.1];exact h.2
 | .more i p q,h=>by
  simp only[PM.Fa,Au]at h;simp only[PM.FV];rw[ATv h.1.1,h.1.2,q.Kc h.2];rfl
theorem Jm{ops:Array Oper}{Q:Exit->Act->World->Prop}{L0:List DW}{fin:List Nat}(hn:∀j o d,nth ops.toList j=σ o->o.dst=σ d->d<n)(hap:L0.Pairwise (λr s => ∀b∈r.foot,b∉s.foot)):∀(p:PM) {F:Fr} {L:List DW} {K:Fr->List DW->Prop} {a:Act} {w:World},
  Qg P M W n ops.toList L0 fin τ p F L K->OT n a F->St M W L w->p.FV fin=τ->(p.Fa fin=τ\/Jc L0 L)->(∀F' L' a' w',K F' L'→OT n a' F'→St M W L' w'→Q .normal a' w')->wpM P ops Q (St M W L0) fin p a w
 |.done,F,L,K,a,w,h,ha,hw,hf,NA,hq=>hq _ _ _ _ h ha hw
 | .rd i r,F,L,K,a,w,h,ha,hw,hf,NA,hq=>by
  simp only[Qg]at h;have PQ:Jc L0 L:=NA.resolve_left (by simp[PM.Fa]);have hS:St M W L0 w:=hw.Jw PQ hap;split at h
  ·rename_i o ho;have hd:PK n o.dst:=by
    cases hdo:o.dst with
    |none=>trivial
    |some d=>exact hn i o d ho hdo
   rcases GK ha hn h with⟨hwt,h⟩|⟨hwt,h⟩
   ·obtain⟨v,hr,hk⟩:=PN h;exact⟨hS,o,v,Jt ho,.inl ⟨hwt,λw' hw'=>by rw[ha.eval];exact hr w' hw'⟩,Jm hn hap r hk (ha.put hd v) hw hf (.inr PQ) hq⟩
   ·exact⟨hS,o,undef,Jt ho,.inr ⟨hwt,rfl⟩,Jm hn hap r h (ha.put hd undef) hw hf (.inr PQ) hq⟩
  ·exact AVz
 | .act i r,F,L,K,a,w,h,ha,hw,hf,NA,hq=>by
  simp only[Qg]at h;split at h
  ·rename_i o ho;have hd:PK n o.dst:=by
    cases hdo:o.dst with
    |none=>trivial
    |some d=>exact hn i o d ho hdo
   have hf':r.FV fin=τ:=by
    simp only[PM.FV]at hf;split at hf
    ·exact r.Kc hf
    ·exact hf
   have hnext:∀L',(fin.contains i=ο->Jc L0 L')->(r.Fa fin=τ\/Jc L0 L'):=by
    intro L' hL;cases hc:fin.contains i with
    | true =>
     simp only[PM.FV,hc,ATx]at hf;exact .inl hf
    |false=>exact .inr (hL hc)
   have hsame:fin.contains i=ο->Jc L0 L:=λhc=>NA.resolve_left (by simp only[PM.Fa,hc,ASH,ASU,Be,ATw]);refine⟨o,Jt ho,?_⟩;rcases GK ha hn h with⟨hwt,h⟩|⟨hwt,h⟩
   ·unfold wpList;rw[ATv hwt];refine .inl (JZ h ha.eval hw λv L' w' hk hs=>?_);exact⟨λhc=>hs.Jw (hk.1 hc) hap,Jm hn hap r hk.2 (ha.put hd v) hs hf' (hnext L' hk.1) hq⟩
   ·unfold wpList;rw[hwt];exact⟨λhc=>hw.Jw (hsame hc) hap,Jm hn hap r h (ha.put hd undef) hw hf' (hnext L hsame) hq⟩
  ·exact AVz
 | .more i p q,F,L,K,a,w,h,ha,hw,hf,NA,hq=>by
  simp only[Qg]at h;obtain⟨h1,h2⟩:=h;simp only[PM.FV,Au]at hf;refine⟨?_,?_⟩
  ·split at h1
   ·rename_i o ho;have hd:PK n o.dst:=by
     cases hdo:o.dst with
     |none=>trivial
     |some d=>exact hn i o d ho hdo
    have hf':p.FV fin=τ:=by
     have:=hf.1;split at this
     ·exact p.Kc this
     ·exact this
    have hnext:∀L',(fin.contains i=ο->Jc L0 L')->(p.Fa fin=τ\/Jc L0 L'):=by
     intro L' hL;cases hc:fin.contains i with
     | true =>
      have:=hf.1;rw[hc,ATv rfl]at this;exact .inl this
     |false=>exact .inr (hL hc)
    have hsame:fin.contains i=ο->Jc L0 L:=λhc=>NA.resolve_left (by simp only[PM.Fa,hc,ASH,ASU,Be,ATw]);refine⟨o,Jt ho,?_⟩;rcases GK ha hn h1 with⟨hwt,h⟩|⟨hwt,h⟩
    ·unfold wpList;rw[ATv hwt];refine .inl (JZ h ha.eval hw λv L' w' hk hs=>?_);exact⟨λhc=>hs.Jw (hk.1 hc) hap,Jm hn hap p hk.2 (ha.put hd v) hs hf' (hnext L' hk.1) hq⟩
    ·unfold wpList;rw[hwt];exact⟨λhc=>hw.Jw (hsame hc) hap,Jm hn hap p h (ha.put hd undef) hw hf' (hnext L hsame) hq⟩
   ·exact h1.elim
  ·refine Jm hn hap q h2 ha hw hf.2 ?_ hq;rcases NA with h|h
   ·simp only[PM.Fa,Au]at h;exact .inl h.2
   ·exact .inr h
theorem ABh{F L Q id l}ix(hnd:ix.Nodup)(hsub:Jc (Dl ix L) L)p fin(hm:P.follows .mixedOrders=τ)(hd:l.all (λo=>Mm n o.dst)=τ)(hs:Region.noSelect l.toArray=τ)
  (hp:p.ok .any l.toArray fin 0 (CQ l.toArray.size ο)=τ) (hz:p.IE l.toArray.size=τ) (hf:p.FV fin=τ) {K}
  (h:Qg P M W n l (Dl ix L) fin τ p F L (λF' L' => ∃jx:List Nat,jx.Nodup/\K F' (Dl jx L'))):CV P M W n (.region id l.toArray τ) F L (Dq K Q):=λa w ha hw =>
 WR p (St M W (Dl ix L)) fin hm hs hp hz AWK
  (Jm (ops:=l.toArray) (Rl AWZ) (hw.pick hnd).apart p AVU ha hw.drew hf (.inr hsub) λF' L' a' w' hK h1 h2=>by
   obtain⟨jx,hj,hk⟩:=hK;exact⟨F',_,h1,h2.pick hj,hk⟩)
end
def cM:=AO (AO (AO @eX @xO) (AO @oP (AO @eY @eZ))) (AO (AO @ed @Ym) (AO @eu (AO @fA @Yn)))
section
variable{P:Program}{M:List Nat}{W:World}{L:List DW}
theorem EL{nn co F Q}k{A n c size t xs}(hk:nth L k=σ (.row (ξ A n c) t size n xs))(hn:0<n)
  (h:∀g,A=σ ⟨g,0,ν⟩->(W.heap.size<=g\/g∈M)->Qc (L.eraseIdx k) g->CV P M W nn co F L Q):CV P M W nn co F L Q:=λa w ha hw=>by
 rcases(hw.perm (FZ hk).symm).LX with⟨-,h0⟩|⟨g,e,hb,hne⟩
 ·omega
 ·exact h g e hb hne a w ha hw
theorem SE k{t T g n c size i xs vs}(hk:nth L k=σ (.row (ξ (σ ⟨g,0,ν⟩) n c) T size n xs))(hi:i+vs.length<=xs.length)(ht:Hd P t=σ (τ,vs.length))(h1:ones vs=τ):
  SV P M W t ⟨g,i,ν⟩ (.agg vs.toArray) L (L.set k (.row (ξ (σ ⟨g,0,ν⟩) n c) T size n (xs.take i++vs++xs.drop (i+vs.length)))):=λw hw=>by
 have hk':=hk;rw[GY]at hk';have hm:=AU hk';have hh:w.ownsRow 0 T size (ξ (σ ⟨g,0,ν⟩) n c) n xs:=hw.holds _ hm;obtain⟨hlen,hh2⟩:=hh;rcases hh2 with⟨hn,_⟩|⟨g',cap,cur,he,hg0,hheap,hnc,hcm,hsz,htk⟩
 ·cases hn
 cases he;have ABT:xs.length<=cur.toList.length:=by rw[<-htk,Al];omega
 have hcs:cur.toList.length=cur.size:=ASw;have hs:=run_storeCells_at P g i T vs 0 cur w hheap AL (λu hu=>ASu.1 h1 u hu);have hsz2:=(OV ht w).2;refine⟨w.setRow g (cur.toList.take (i+0)++vs++cur.toList.drop (i+0+vs.length)).toArray,?_,?_⟩
 ·simp only[Instr.storeAt,Instr.sureAddr,Sem.run_bind,Sem.run_pure,Result.andThen_ok,storeVar,hsz2,Value.cells,ASZ,ne_eq,ATy,ATz];exact hs
 ·rw[Cg];refine hw.replace hk rfl ?_ (λc hc=>setRow_other w g c _ AWn) AWp rfl rfl rfl;refine⟨?_,.inr ⟨g,_,(cur.toList.take i++vs++cur.toList.drop (i+vs.length)).toArray,rfl,hg0,?_,hnc,hcm,?_,?_⟩⟩
  ·simp only[Ag,Al,CR];omega
  ·exact setRow_heap w g cur _ T (0,0) hheap
  ·simp only[ASZ,Ag,Al,CR];omega
  ·simp only[ASi];have e1:xs.take i=cur.toList.take i:=by rw[<-htk,AIJ,CW AL]
   have e2:xs.drop (i+vs.length)=(cur.toList.drop (i+vs.length)).take (n*size-(i+vs.length)):=by rw[<-htk,AUY]
   have e3:(cur.toList.take i++vs).length=i+vs.length:=by rw[Ag,Al,CW AL]
   rw[e1,e2,List.take_append,e3,Aw AL]
end
section
variable{P:Program}{M:List Nat}{W:World}{n i:Nat}{l:List Oper}{F:Fr}{L L2:List DW}{Q:Exit->Fr->List DW->Prop}{K:Fr->List DW->Prop}{p:Prop}
theorem JU(ix:List Nat)(p:PM)(fin:List Nat)(h:Qg P M W n l L2 fin τ p F L (λF' L' => ∃jx:List Nat,jx.Nodup/\K F' (Dl jx L')))(e:Dl ix L=L2:=by conv=>lhs;simp only[Dl,nth])(hsub:Jc L2 L:=by simp only[PO,Rj,AP,true_or,or_true,and_true,eq_self])(hn:ix.Nodup:=by decide)(hm:P.follows .mixedOrders=τ:=by exact ABR)(hd:l.all (λo=>Mm n o.dst)=τ:=by rfl)(hs:Region.noSelect l.toArray=τ:=by kernel_rfl)(hp:p.ok .any l.toArray fin 0 (Array.replicate l.toArray.size ο)=τ:=by kernel_rfl)(hz:p.IE l.toArray.size=τ:=by kernel_rfl)(hf:p.FV fin=τ:=by kernel_rfl):CV P M W n (.region i l.toArray τ) F L (Dq K Q):=ABh ix hn (e▸hsub) p fin hm hd hs hp hz hf (e▸h)
end
def Yo(x:MW)(h:Nat):Value:=match Er x.os (De h)with
 |none=>π ν
 |some o=>if o.o.h=h then NS o else π ν
def oQ:=AO (AO (AO @Gh.eq_1 @NS.eq_1) (AO @DT (AO @Ac @KM))) (AO (AO @Ey @Ez) (AO @E5 (AO @E8 @E9)))
theorem rX x(h:Nat)(hh:h<18446744073709551616)W(hst:St (DV (hsL x)) W (hsL x) W):
  Calls AGm 72 #[π (σ ⟨x.bS,0,ν⟩),ε υ (h:Int)] W
  λen w' => ∃i:Unit,en=κ (Yo x h)/\True/\St (DV (hsL x)) W (hsL x) w':=by
 obtain⟨M,hM⟩:∃M,DV (hsL x)=M:=⟨_,rfl⟩;rw[hM]at hst ⊢;obtain⟨bS,b1,b2,sd,os⟩:=x;unfold Yo;dsimp only at hst ⊢;clear hM;cases hg:Er os (De h)with
 | none =>
  unfold hsL at hst;dsimp only at hst;refine DL (M:=M) Tryz.func72 [.tmp 4]  hst ?_;have zs:=Bd.mk oQ;refine DZ ?_;refine Cw λK k0=>EB [(τ,0),(τ,1),(τ,2),(τ,3),(τ,4),(ο,5),(ο,6),(τ,7)] [] ?_;refine DR ?_;refine DI (λw hw=>PZ h hh w) (DR ?_);refine GD Zv rfl rfl (λw hw=>hw.U5 2 rfl) ?_;rw[F5,hg,ASx,Option.getD_none];refine DR (k0 _ _ ?_);refine Cw λK k0=>DZ ?_;refine C_ (DR ?_);refine DZ ?_;refine C8 (Eg λw hw=>?_)
  first|exact⟨(),rfl,hw⟩|exact⟨(),rfl,trivial,hw⟩
 | some o =>
  obtain⟨pre,post,he,-,-,-⟩:=kR hg;have hp:=Ns (bS:=bS) (b1:=b1) (b2:=b2) (sd:=sd) he;have AEV:=hst.perm hp;clear hst;unfold hsF at AEV;have hne:=AEV.AG7;refine DL (M:=M) Tryz.func72 [.tmp 4]  AEV ?_;have zs:=Bd.mk oQ;refine DZ ?_;refine Cw λK k0=>EB [(τ,0),(τ,1),(τ,2),(τ,3),(τ,4),(ο,5),(ο,6),(τ,7)] [] ?_;refine DR ?_;refine DI (λw hw=>PZ h hh w) (DR ?_);refine GD Zv rfl rfl (λw hw=>hw.U5 4 rfl) ?_;rw[F5,hg,Cr,Ce];refine DR (k0 _ _ ?_);dsimp only;by_cases hc:o.o.h=h
  ·rw[ATv hc];subst hc;refine Cw λK k0=>DZ ?_;refine C_ (DR ?_);refine Cz (k0 _ _ (DZ ?_));refine C8 (Eg λw hw=>?_)
   first|exact⟨(),rfl,hw.perm hp.symm⟩|exact⟨(),rfl,trivial,hw.perm hp.symm⟩
  ·rw[ATt hc];have hc2:¬(o.o.h:Int)=(h:Int):=by omega
   refine Cw λK k0=>Mo hc2 ?_;refine C_ (DR ?_);refine DZ ?_;refine C8 (Eg λw hw=>?_)
   first|exact⟨(),rfl,hw.perm hp.symm⟩|exact⟨(),rfl,trivial,hw.perm hp.symm⟩
def O7(x:MW):List DW:=[.blk x.bS 107 [.map (σ x.b1),.map (σ x.b2)],JS x.b1 (Em Value.bool x.sd)]
def xP(i:Int×Bool):Value:=.tuple #[ε ζ i.1,θ i.2]
theorem WT x e(he:e.ok)W(hst:St (DV (O7 x)) W (O7 x) W):
  Calls AGm 73 #[π (σ ⟨x.bS,0,ν⟩),U6 e] W
  λen w' => ∃i:Int×Bool,en=κ (xP i)/\(i.2=X4 x.pl e/\(i.2=τ->i.1=e.ar))/\St (DV (O7 x)) W (O7 x) w':=by
 obtain⟨M,hM⟩:∃M,DV (O7 x)=M:=⟨_,rfl⟩;rw[hM]at hst ⊢;obtain⟨bS,b1,b2,sd,os⟩:=x;unfold O7 at hst ⊢;dsimp only at hst ⊢;clear hM;have he2:=he.2;refine DL (M:=M) Tryz.func73 [.tmp 4,.tmp 5]  hst ?_;refine C9 rfl λK k0=>?_;have zs:=Bd.mk oQ;refine Ed @U6.eq_1 ?_;intro b3 hb3 hf3;refine k0 _ _ (Cw λK k0=>DZ ?_);refine NC (λhc=>?_) λhc=>?_
 ·refine DZ ?_;refine C8 (Eg λw hw=>?_);have hc:=AT0 hc;refine⟨(0,ο),rfl,⟨?_,λh=>by cases h⟩,hw.tail⟩;unfold X4;have:¬e.ar<=64:=by omega
  simp[this]
 refine Cz (k0 _ _ ?_);have ha:e.ar<=64:=by have hc:=AUD hc;omega
 have hwr:IntKind.i64.wrap (e.ar:Int)=(e.ar:Int):=DT AL AL;refine Mo hwr ?_;by_cases hq:(e.ar:Int)=e.pl
 ·refine Cw λK k0=>EB [(τ,0),(τ,1),(τ,2),(τ,3),(τ,4),(τ,5),(τ,6),(τ,7),(τ,8),(τ,9),(τ,10),(τ,13),(ο,11),(τ,12),(τ,14)] [] ?_;refine Ed hq (k0 _ _ ?_);refine C8 (Eg λw hw=>?_);refine⟨(e.pl,ο),rfl,⟨?_,λh=>by cases h⟩,hw.tail⟩;unfold X4;simp[hq]
 ·refine Cw λK k0=>EB [(τ,0),(τ,1),(τ,2),(τ,3),(τ,4),(τ,5),(τ,6),(τ,7),(τ,8),(τ,9),(τ,10),(τ,13),(ο,11),(τ,12),(τ,14)] [] ?_;refine Ed hq ?_;refine GD xL rfl rfl (λw hw=>hw.U5 2 rfl) ?_;rw[F5];have hal:((Er sd (e.ar:Int)).map Value.bool).getD (θ ο)=θ (alive (MW.pl ⟨bS,b1,b2,sd,os⟩) e.ar):=by
   unfold alive MW.pl;cases Er sd (e.ar:Int)<;>rfl
  rw[hal];refine DR (k0 _ _ ?_);refine C8 (Eg λw hw=>?_);refine⟨(e.ar,alive (MW.pl ⟨bS,b1,b2,sd,os⟩) e.ar),rfl,⟨?_,λh=>rfl⟩,hw.tail⟩;unfold X4;simp[hq,ha]
end Go.Proofs.YtnkgiaimcpbhkaaGreat
