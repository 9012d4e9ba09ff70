import Derived.Test.YtnkgiaimcpbhkaaGreatDells0
import Derived.Carry
import Derived.ProofKit
import Derived.OpenShut
import Derived.Deep.Slices
import Derived.Deep.Fields
import Derived.ChangeSame
import Derived.Lib.SmallJoins
import Derived.Laws.BitsLemmas
import Derived.Laws.Bits64b
set_option linter.all false
set_option maxRecDepth 100000
set_option maxHeartbeats 4000000
open List renaming length_append→Ag,length_take→Al,map_cons→BJ,getElem?_eq_none→Cb
open Prod renaming ext→ASg
open UInt8 renaming ofNat→AS_
open Nat renaming pow_succ→ATF,mul_comm→ATU,mul_add→ATr
open Bool renaming false→ο,true→τ
open Go.Ending renaming returned→κ
open Go.IntKind renaming i64→ζ,u64→υ,u8→η
open Option renaming none→ν,some→σ
open Go.Value renaming int→ε,pointer→π,slice→ξ,tuple→ω
namespace Go.Proofs.YtnkgiaimcpbhkaaGreat
open Tryz renaming prog→AGm
open Go.ChangeShapes Go.WideShapes Go.ChangeAt Go.RowKit Go.Deep Go.Joins
section
variable{H:Type}{enc:TypeId×Value->H}{P:Program}
def readAll(P:Program)(ts:List TypeId):Bool:=ts.all λt=>P.readableRec t&&decide (t<P.types.size)
theorem Qo(hl:laidOutB P=τ){W W':World}(hb:Below W.heap.size W W'){sp:Nat->Bool} : ∀ {ts:List TypeId} {vs:List Value} {ds:List (DataW H)} {ps:List MemPlace},readAll P ts=τ →
  DataW.TrodAll enc P W 0 (λ_=>τ) τ ts vs ds ps->(∀x∈ps,x.block<W.heap.size)->(∀x∈ps,sp x.block=τ)->DataW.TrodAll enc P W' 0 sp τ ts vs ds ps
 | [],vs,ds,ps,_,h,_,_=>by
  obtain⟨rfl,rfl,rfl⟩:=trodAll_nil h;exact trodAll_mk0
 | t::ts,vs,ds,ps,hr,h,hlt,hs=>by
  obtain⟨v,vs',d,ds',p,q,rfl,rfl,rfl,h1,h2⟩:=trodAll_cons h;simp only[readAll,ASX,Au,AT5]at hr;refine trodAll_cons_mk (WideElems.Trod_stays hl hr.1.1 hr.1.2 h1 (λx hx=>hb.same (hlt x (ATE _ hx))) (λx hx=>hs x (ATE _ hx))) ?_;exact Qo hl hb hr.2 h2 (λx hx=>hlt x (ATe _ hx)) (λx hx=>hs x (ATe _ hx))
theorem AAy{f}{s:ChangeSpec}{apart fresh handsOn again W W' args v ds before}
  (hl:laidOutB P=τ) (hr:readAll P f.params.toList=τ) (hsv:s.vars=[])
  (hW:DataW.Whole enc P f.params.toList s.vars apart W args.toList ds [] before)
  (hA:DataW.TrodAll enc P W 0 (λ_=>τ) τ f.params.toList args.toList ds before)
  (hres:∀b sp hd,DataW.TrodAll enc P W' b sp hd f.resultTypes.toList (v.resultList f.resultTypes.size) (s.fn H (ds++[])).results [])
  (hargs:(s.fn H (ds++[])).args=ds) (hvars:(s.fn H (ds++[])).vars=[]) (hb:Below W.heap.size W W')
  (hok:∀(j:Nat) t r,f.resultTypes[j]?=σ t->(v.resultList f.resultTypes.size)[j]?=σ r->Value.okWide P W' .any 0 t r):
  s.post enc P f apart fresh handsOn again W args v W' :=
 Xu (pa:=before) (pv:=[]) hW hres (λsp hsp=>by
  rw[hargs];exact Qo hl hb hr hA (λx hx=>hW.lt x hx) hsp) (λsp _=>by rw[hsv,hvars];rfl) AUq hb hok
end
open Go.RowKit Go.Shelf
def UY:List Value->Value
 |[v]=>v
 |vs=>ω vs.toArray
def UZ(P:Program)(M:List Nat)(W:World)(L:List DW)(F:Fr):List ResultVar->(Bool->List Value->Prop)->Prop
 |[],K=>K τ []
 |.tmp t::r,K=>UZ P M W L F r λtok vs=>K tok (F t::vs)
 | .cell a t::r,K=>(match F a with
  |.pointer (σ ad)=>ldV P M W t ad L λAOD v=>UZ P M W L F r λtok vs=>K tok (v::vs)
  |_=>False)
def Vz(tmps:Array Value):ResultVar->Sem Value
 |.tmp t=>pure (tmps.getD t undef)
 |.cell c t=>do loadVar t (← asAddr (tmps.getD c undef))
theorem PS{P:Program}{M:List Nat}{W:World}{L:List DW}{F:Fr}{n:Nat}{a:Act}(ha:OT n a F):∀ {rs:List ResultVar} {K:Bool->List Value->Prop},UZ P M W L F rs K →
  ∃vs,K τ vs∧∀w,St M W L w->(rs.mapM (Vz a.tmps)).run P w=Result.ok vs w
 |[],K,h=>⟨[],h,λw hw=>by simp⟩
 | .tmp t::r,K,h=>by
  obtain⟨vs,hk,hr⟩:=PS ha (rs:=r) h;refine⟨_,hk,λw hw=>?_⟩;have hg:=ha.get t;simp only[AUX,Vz,Sem.run_bind,Sem.run_pure,Result.andThen_ok,hr w hw,hg]
 | .cell c t::r,K,h=>by
  simp only[UZ]at h;split at h
  ·rename_i ad had;obtain⟨v,hl,h2⟩:=TR h;obtain⟨vs,hk,hr⟩:=PS ha (rs:=r) h2;refine⟨_,hk,λw hw=>?_⟩;have hg:=ha.get c;have hl':=hl w hw;simp only[Instr.loadAt,Instr.sureAddr,Sem.run_bind,Sem.run_pure,Result.andThen_ok]at hl';simp only[AUX,Vz,Sem.run_bind,hg,had,asAddr,Sem.run_pure,Result.andThen_ok,hl',hr w hw]
  ·exact AVz
def wI(P:Program)(M:List Nat)(W:World)(rs:List ResultVar)(R:Ending->World->Prop):Exit->Fr->List DW->Prop
 |.normal,F,L=>UZ P M W L F rs λtok vs=>tok=τ→∀w,St M W L w->R (κ (UY vs)) w
 |.ret,F,L=>UZ P M W L F rs λtok vs=>tok=τ→∀w,St M W L w->R (κ (UY vs)) w
 |_,_,_=>False
theorem Za{P fn tmps w vs}
  (h:(fn.results.toList.mapM (Vz tmps)).run P w=Result.ok vs w):(results fn tmps).run P w=.ok (UY vs) w:=by
 have hr:fn.results=fn.results.toList.toArray:=by simp
 have he:results fn tmps=(do
   let vs ← fn.results.mapM (Vz tmps)
   pure (if h:vs.size=1 then vs[0] else ω vs)):=by
  unfold results;congr 1
 rw[he,hr,List.mapM_toArray];simp only[Sem.run_bind,map_eq_pure_bind,h,Result.andThen_ok,Sem.run_pure];congr 1
 match vs with
 |[]=>simp[UY]
 |[v]=>simp[UY]
 |a::b::r=>simp[UY]
theorem ER{P M W n f fn c args R L}rs(hrs:fn.results=rs.toArray)(hf:P.funcs[f]?=σ fn)(hb:fn.body=σ c)(hn:fn.ntmps=n)(hl:args.length<=n)(hw:St M W L W)
  (h:CV P M W n c (mkF args) L (wI P M W rs R)):Calls P f args.toArray W R:=by
 obtain rfl:fn.results.toList=rs:=by rw[hrs]
 refine calls_of_wp hf hb (wp_mono (h _ W ⟨rfl,by simp[hn];omega,λi=>?_⟩ hw) ?_)
 ·simp only[mkF];rcases ASq i args.length with h1|h1
  ·have h2:i<(args.toArray++Array.replicate (fn.ntmps-args.toArray.size) undef).size:=by simp;omega
   simp[ASr,h1]
  ·have h2:args[i]?=ν:=Cb h1;simp[ASr,Nat.not_lt.2 h1,Array.getElem?_replicate,h2];split<;>rfl
 ·intro e a w hh;cases e<;>first
   |exact hh.elim
   | (obtain⟨F',L',h1,h2,h3⟩:=hh
      first
       |exact h3.elim
       | (obtain⟨vs,hk,hr⟩:=PS h1 h3
          exact⟨h1.defers,_,Za (hr w h2),hk rfl w h2⟩))
section
variable{P:Program}{M:List Nat}{W w w':World}{L:List DW}{K:Bool->Value->List DW->Prop}{g:FuncId}{args:Array Value}
theorem Ii.trans{w''}(h:Ii M W w')(h2:Ii M w' w''):Ii M W w'' :=
 ⟨h2.os.trans h.os,h2.tape.trans h.tape,h2.output.trans h.output,AGn h.size h2.size,λk hk hm=>(h2.block k (BS hk h.size) hm).trans (h.block k hk hm)⟩
theorem St.one{b t cs}(h:W.heap[b]?=σ (.cells cs.toArray t (0,0))):St [b] W [.blk b t cs] W:=by
 have hb:b<W.heap.size:=(Bv.1 h).1;refine⟨Ii.refl _ _,?_,?_,List.pairwise_singleton _ _⟩
 ·intro r hr;obtain rfl:r=.blk b t cs:=by simpa using hr
  exact h
 ·intro r hr c hc;obtain rfl:r=.blk b t cs:=by simpa using hr
  exact AW7
theorem St.two{b d t u cs ds}(h:W.heap[b]?=σ (.cells cs.toArray t (0,0)))(h2:W.heap[d]?=σ (.cells ds.toArray u (0,0)))(hne:b≠d):St [b,d] W [.blk b t cs,.blk d u ds] W:=by
 have hb:b<W.heap.size:=(Bv.1 h).1;have hd:d<W.heap.size:=(Bv.1 h2).1;refine⟨Ii.refl _ _,?_,?_,?_⟩
 ·intro r hr;simp only[AP,Ae,AT7]at hr;rcases hr with rfl|rfl
  ·exact h
  ·exact h2
 ·intro r hr c hc;simp only[AP,Ae,AT7]at hr;rcases hr with rfl|rfl
  ·exact AW7
  ·obtain rfl:c=d:=by simpa [DW.foot]using hc
   exact⟨.inr AUq,hd⟩
 ·simp[DW.foot,hne]
theorem St.mod{k b t cs us}(h:St M W L w)(hk:nth L k=σ (.blk b t cs))(hp:Ii [b] w w')(hb:w'.heap[b]?=σ (.cells us.toArray t (0,0))):St M W (L.set k (.blk b t us)) w':=by
 rw[GY]at hk;obtain⟨hlt,hget⟩:=Ab.1 hk;have hL:L=L.take k ++ .blk b t cs::L.drop (k+1):=by
  conv=>lhs;rw[<-List.take_append_drop k L,BV hlt,hget]
 rw[Bz,ATv hlt];generalize L.take k=A at *;generalize L.drop (k+1)=B at *;subst hL;clear hk hlt hget;have hmem:DW.blk b t cs∈A ++ .blk b t cs::B:=by simp
 have nP:=h.own _ hmem b AUp;have hap:=h.apart;have VZ:∀r∈A++B,b∉r.foot:=by
  intro r hr hbr;rw[BN]at hap;rcases AV.1 hr with hr|hr
  ·exact hap.2.2 r hr (.blk b t cs) AUq b hbr AUp
  ·exact(Ak.1 hap.2.1).1 r hr b AUp hbr
 have hkeep:∀r∈A++B,r∈A ++ .blk b t cs::B→∀c∈r.foot,w'.heap[c]?=w.heap[c]? := λr hr hr2 c hc =>
  hp.block c (h.own r hr2 c hc).2 (by simp only[BH];rintro rfl;exact VZ r hr hc)
 refine⟨⟨hp.os.trans h.ES.os,hp.tape.trans h.ES.tape,hp.output.trans h.ES.output,AGn h.ES.size hp.size,λj hj hm=>?_⟩,?_,?_,?_⟩
 ·rw[hp.block j (BS hj h.ES.size) (by
   simp only[BH];rintro rfl;rcases nP.1 with h1|h1
   ·omega
   ·exact hm h1)]
  exact h.ES.block j hj hm
 ·intro r hr;rcases AV.1 hr with hr1|hr1
  ·exact r.keep (h.holds r AVQ) (hkeep r AVQ AVQ)
  ·rcases AP.1 hr1 with rfl|hr1
   ·exact hb
   ·exact r.keep (h.holds r AVQ) (hkeep r AVQ AVQ)
 ·intro r hr c hc;rcases AV.1 hr with hr1|hr1
  ·exact AW8
  ·rcases AP.1 hr1 with rfl|hr1
   ·exact⟨(h.own _ hmem c hc).1,BS (h.own _ hmem c hc).2 hp.size⟩
   ·exact AW8
 ·exact AWt
theorem St.replace{k r r'}(h:St M W L w)(hk:nth L k=σ r)(hf:r'.foot=r.foot)(hh:r'.holds w')
  (hp:∀c,c∉r.foot->w'.heap[c]?=w.heap[c]?) (hs:w'.heap.size=w.heap.size) (ho:w'.os=w.os) (ht:w'.tape=w.tape) (hu:w'.output=w.output):St M W (L.set k r') w':=by
 rw[GY]at hk;obtain⟨hlt,hget⟩:=Ab.1 hk;have hL:L=L.take k++r::L.drop (k+1):=by
  conv=>lhs;rw[<-List.take_append_drop k L,BV hlt,hget]
 rw[Bz,ATv hlt];generalize L.take k=A at *;generalize L.drop (k+1)=B at *;subst hL;clear hk hlt hget;have hmem:r∈A++r::B:=by simp
 have hap:=h.apart;have VZ:∀s∈A++B,∀c∈s.foot,c∉r.foot:=by
  intro s hs c hc hcr;rw[BN]at hap;rcases AV.1 hs with hs|hs
  ·exact hap.2.2 s hs r AUq c hc hcr
  ·exact(Ak.1 hap.2.1).1 s hs c hcr hc
 refine⟨⟨ho.trans h.ES.os,ht.trans h.ES.tape,hu.trans h.ES.output,by rw[hs];exact h.ES.size,λj hj hm=>?_⟩,?_,?_,?_⟩
 ·rw[hp j (λhjr=>by
   rcases(h.own r hmem j hjr).1 with h1|h1
   ·omega
   ·exact hm h1)]
  exact h.ES.block j hj hm
 ·intro s hs1;rcases AV.1 hs1 with hs1|hs1
  ·exact AWC
  ·rcases AP.1 hs1 with rfl|hs1
   ·exact hh
   ·exact AWC
 ·intro s hs1 c hc;rw[hs];rcases AV.1 hs1 with hs1|hs1
  ·exact h.own s (by simp[hs1]) c hc
  ·rcases AP.1 hs1 with rfl|hs1
   ·exact h.own r hmem c (hf▸hc)
   ·exact h.own s (by simp[hs1]) c hc
 ·rw[BN]at hap ⊢;rw[Ak]at hap ⊢;refine⟨hap.1,⟨λs hs c hc=>hap.2.1.1 s hs c (hf▸hc),hap.2.1.2⟩,λs hs t ht=>?_⟩;rcases AP.1 ht with rfl|ht
  ·intro c hc;rw[hf];exact hap.2.2 s hs r AUq c hc
  ·exact hap.2.2 s hs t (by simp[ht])
theorem JB k{t T g n c size i xs v}(hk:nth L k=σ (.row (ξ (σ ⟨g,0,ν⟩) n c) T size n xs))(hi:i<xs.length)(ht:Hd P t=σ (ο,1))(hv:v.cells.toList=[v])(h1:v.oneCell'=τ):
  SV P M W t ⟨g,i,ν⟩ v L (L.set k (.row (ξ (σ ⟨g,0,ν⟩) n c) T size n (xs.set i v))):=λw hw=>by
 have hk':=hk;rw[GY]at hk';have hm:=AU hk';have hh:w.ownsRow 0 T size (ξ (σ ⟨g,0,ν⟩) n c) n xs:=hw.holds _ hm;obtain⟨hlen,hh2⟩:=hh;rcases hh2 with⟨hn,_⟩|⟨g',cap,cur,he,hg0,hheap,hnc,hcm,hsz,htk⟩
 ·cases hn
 cases he;have ABT:i<cur.size:=by
  have:xs.length<=cur.toList.length:=by rw[<-htk,Al];omega
  simp at this;omega
 have hs:=run_storeCells_at P g i T [v] 0 cur w hheap AV1 (by intro u hu;simp at hu;subst hu;exact h1);have hsz2:=(OV ht w).2;refine⟨w.setRow g (cur.toList.take (i+0)++[v]++cur.toList.drop (i+0+[v].length)).toArray,?_,?_⟩
 ·have h1':v.cells.size=1:=by
   have:=AT4 List.length hv;simpa using this
  simp only[Instr.storeAt,Instr.sureAddr,Sem.run_bind,Sem.run_pure,Result.andThen_ok,storeVar,hsz2,h1',ne_eq,ATy,ATz,hv];exact hs
 ·have hnew:(cur.toList.take (i+0)++[v]++cur.toList.drop (i+0+[v].length))=cur.toList.set i v:=by
   rw[Bz,ATv (by simpa using ABT)];simp
  refine hw.replace hk rfl ?_ (λc hc=>setRow_other w g c _ AWn) AWp rfl rfl rfl;refine⟨by simp[hlen],.inr ⟨g,_,(cur.toList.set i v).toArray,rfl,hg0,?_,hnc,hcm,by simpa using hsz,?_⟩⟩
  ·rw[hnew];exact setRow_heap w g cur _ T (0,0) hheap
  ·have e:(cur.toList.set i v).take (n*size)=(cur.toList.take (n*size)).set i v:=by rw[List.take_set]
   simp only[ASi];rw[e,htk]
theorem St.wJ{k b t cs us}(h:St M W L w)(hk:nth L k=σ (.blk b t cs))(hp:Ii [b] w w')(hb:w'.heap[b]?=σ (.cells us.toArray t (0,0)))
  {T size n v xs} (ho:w'.ownsRow w.heap.size T size v n xs):St M W (.row v T size n xs::L.set k (.blk b t us)) w':=by
 have h2:=h.mod hk hp hb;refine h2.add _ (OW ho (Ar _)) (λc hc=>?_) (λs hs c hc hcs=>?_)
 ·have:=ho.lt c (by simpa [DW.foot]using hc);have h3:=h.ES.size;exact⟨.inl AL,this.2⟩
 ·have h1:=ho.lt c (by simpa [DW.foot]using hc);have h4:c<w.heap.size:=by
   rcases Ck hs with h5|rfl
   ·exact(h.own s h5 c hcs).2
   ·rw[GY]at hk;exact(h.own _ (AU hk) c hcs).2
  omega
theorem Yd{ι:Sort _}k(f:ι->Value)(us:ι->List Value)(φ:ι->Prop){b t cs}(hk:nth L k=σ (.blk b t cs))
  (h:∀w,St M W L w->Calls P g args w (λe w' => ∃i,e=κ (f i)/\φ i/\w'.heap[b]?=σ (.cells (us i).toArray t (0,0))/\Ii [b] w w'))
  (hK:∀i,φ i->K τ (f i) (L.set k (.blk b t (us i)))):I6 P M W g args L K:=λw hw =>
 (h w hw).mono (by rintro e w' ⟨i,rfl,hi,hb,hp⟩;exact⟨_,_,rfl,hw.mod hk hp hb,hK i hi⟩)
def qm(b:Nat)(t:TypeId)(v:Value)(us:List Value)(w:World)(e:Ending)(w':World):Prop :=
 e=κ v/\w'.heap[b]?=σ (.cells us.toArray t (0,0))/\Ii [b] w w'
theorem Dj k{v us b t cs}(h:∀w,St M W L w->Calls P g args w (qm b t v us w))(hk:nth L k=σ (.blk b t cs))
  (hK:K τ v (L.set k (.blk b t us))):I6 P M W g args L K:=λw hw =>
 (h w hw).mono (by rintro e w' ⟨rfl,hb,hp⟩;exact⟨_,_,rfl,hw.mod hk hp hb,hK⟩)
def Zb(b:Nat)(t:TypeId)(us:List Value)(T:TypeId)(size:Nat)(f:Value->Value)(xs:List Value)(w:World)(e:Ending)(w':World):Prop :=
 ∃A n c,e=κ (f (ξ A n c))/\w'.ownsRow w.heap.size T size (ξ A n c) n xs/\w'.heap[b]?=σ (.cells us.toArray t (0,0))/\Ii [b] w w'
theorem Lv k{us b t cs T size f xs}(h:∀w,St M W L w->Calls P g args w (Zb b t us T size f xs w))(hk:nth L k=σ (.blk b t cs))
  (hK:∀A n c,xs.length=n*size->rowAt A n W M (L.set k (.blk b t us))->K τ (f (ξ A n c)) (.row (ξ A n c) T size n xs::L.set k (.blk b t us))):I6 P M W g args L K:=λw hw =>
 (h w hw).mono (by
  rintro e w' ⟨A,n,c,rfl,ho,hb,hp⟩;exact⟨_,_,rfl,hw.wJ hk hp hb ho,hK A n c ho.1 (hw.wJ hk hp hb ho).LX⟩)
end
theorem Zc l:Vg l=⟨(l.map λx=>AS_ x).toArray⟩:=by
 have key:∀(l:List Nat) (s:ByteArray),(l.map λx:Nat=>(x:Int)).foldl (λr n=>r.push (AS_ n.toNat)) s=⟨s.data++(l.map λx=>AS_ x).toArray⟩:=by
  intro l
  induction l with
  |nil=>intro s;simp
  | cons x l ih =>
   intro s;simp only[BJ,ASM,Bo];rw[ih];simp[ByteArray.push]
 unfold Vg;rw[key];show (⟨#[]++_⟩:ByteArray)=_;simp
theorem wK{l m}(hl:∀x∈l,x<256)(hm:∀x∈m,x<256)(h:Vg l=Vg m):l=m:=by
 rw[Zc,Zc]at h;injection h with h;have h2:l.map (λx=>AS_ x)=m.map (λx=>AS_ x):=by simpa using h
 clear h
 induction l generalizing m with
 | nil=>cases m with
  |nil=>rfl
  |cons y m=>simp at h2
 | cons x l ih=>cases m with
  |nil=>simp at h2
  | cons y m =>
   simp only[BJ,ATb]at h2;have hx:=hl x AUq;have hy:=hm y AUq;have h3:x=y:=by
    have:=AT4 UInt8.toNat h2.1;simpa [ATA hx,ATA hy]using this
   rw[h3,ih (λz hz=>hl z (by simp[hz])) (λz hz=>hm z (by simp[hz])) h2.2]
theorem wL{l m}(hl:∀x∈l,x<256)(hm:∀x∈m,x<256):((Vg l).toList == (Vg m).toList)=decide (l=m):=by
 by_cases h:l=m
 ·subst h;rw[AUB rfl,AUa]
 ·rw[AUC h,beq_eq_false_iff_ne];intro e;rw[ByteArray.toList_eq,ByteArray.toList_eq]at e;refine h (wK hl hm ?_);generalize Vg l=a at e;generalize Vg m=b at e;obtain⟨⟨x⟩⟩:=a;obtain⟨⟨y⟩⟩:=b;exact AT4 (λl:List UInt8=>ByteArray.mk ⟨l⟩) e
section
variable{p q:Prop}
theorem FF(hq:q)(h:p=q:=by conv=>lhs;simp -implicitDefEqProofs (disch:=first|omega|decide) only [seval,-Int.reducePow,-Nat.reducePow,cC,pv,D5,EH,undef,wI,UZ,UY,zs.o,zg.o]):p:=h▸hq
theorem Ox(hq:q)(h:p=q:=by conv=>lhs;simp -implicitDefEqProofs (disch:=first|omega|decide) only [seval,-Int.reducePow,-Nat.reducePow,cC,pv,D5,EH,undef,wI,UZ,UY,zs.o]):p:=h▸hq
end
structure Sl(w:World)(B:Nat)(size:Nat)(A:Option Addr)(n c:Nat)(xs:List Value):Prop where
 len:xs.length=n*size
 cap:n<=c
 max:c<=9223372036854775807
 cells:0<n→∃b off,A=σ ⟨b,off,ν⟩/\b<B∧∀i v,xs[i]?=σ v->w.cell? ⟨b,off+i,ν⟩=σ v
section
variable{W w w':World}{B B' size n c:Nat}{A:Option Addr}{xs:List Value}{L:List DW}{M:List Nat}{P:Program}
theorem Sl.below(h:Sl w B size A n c xs)(hb:Below B w w'):Sl w' B size A n c xs :=
 ⟨h.len,h.cap,h.max,λhn=>by
  obtain⟨b,off,e,hB,hc⟩:=h.cells hn;exact⟨b,off,e,hB,λi v hv=>((vg hb).1 _ _ hB).trans (hc i v hv)⟩⟩
theorem Sl.more(h:Sl w B size A n c xs)(hB:B<=B'):Sl w B' size A n c xs :=
 ⟨h.len,h.cap,h.max,λhn=>by
  obtain⟨b,off,e,hb,hc⟩:=h.cells hn;exact⟨b,off,e,by omega,hc⟩⟩
theorem Sl.at(h:Sl W W.heap.size size A n c xs)(hw:St [] W L w):Sl w w.heap.size size A n c xs:=(h.below hw.below).more hw.ES.size
theorem Sl.ld1{b off i m T v}(h:Sl W W.heap.size size (σ ⟨b,off,ν⟩) n c xs)(ht:Hd P T=σ (ο,m))(hv:xs[i]?=σ v):LD P [] W L T ⟨b,off+i,ν⟩ v:=λw hw=>by
 have hn:0<n:=by
  rcases Cm n with h0|h0
  ·have h1:=h.len;exact AWM
  ·exact h0
 obtain⟨b',off',e,hb,hc⟩:=h.cells hn;cases e;exact Hy ht ((hw.Jh hb AUq).trans (hc i v hv))
theorem Sl.ld{b off i T vs}(h:Sl W W.heap.size size (σ ⟨b,off,ν⟩) n c xs)(hn:0<n)(ht:Hd P T=σ (τ,vs.length))(hv:(xs.drop i).take vs.length=vs):LD P [] W L T ⟨b,off+i,ν⟩ (.agg vs.toArray):=λw hw=>by
 obtain⟨b',off',e,hb,hc⟩:=h.cells hn;cases e;have hv':∀(j:Nat) v,vs[j]?=σ v->xs[i+j]?=σ v:=λj v h=>by
  rw[<-hv,Bu]at h;split at h
  ·simpa using h
  ·cases h
 refine KT ht vs rfl λj v hj=>?_;rw[Addr.add_lit,hw.Jh hb AUq,Cn];exact hc _ _ (hv' j v hj)
theorem Sl.take(h:Sl w B size A n c xs){k}(hk:k<=n):Sl w B size A k c (xs.take (k*size)) :=
 ⟨by rw[Al,h.len];exact CW (ASc _ hk),AGn hk h.cap,h.max,λhn=>by
  obtain⟨b,off,e,hb,hc⟩:=h.cells AL;refine⟨b,off,e,hb,λi v hv=>hc i v ?_⟩;rw[Bu]at hv;split at hv
  ·exact hv
  ·cases hv⟩
theorem Sl.drop(h:Sl w B size A n c xs){k}(hk:k<=n):Sl w B size (IV c k size A) (n-k) (c-k) (xs.drop (k*size)) :=
 ⟨by rw[CR,h.len,Nat.sub_mul],by have:=h.cap;omega,by have:=h.max;omega,λhn=>by
  obtain⟨b,off,e,hb,hc⟩:=h.cells AL;have:=h.cap;refine⟨b,off+k*size,by rw[e,Vd AL,Addr.add_lit],hb,λi v hv=>?_⟩;rw[ASG]at hv;rw[Cn];exact hc _ _ hv⟩
theorem Sl.reads(h:Sl w B size A n c xs):Reads w B size A n xs :=
 ⟨h.len,λhn=>by
  obtain⟨b,off,e,hB,hc⟩:=h.cells hn;exact⟨_,e,hB,λj u hu=>by rw[Addr.add_lit];exact hc j u hu⟩⟩
theorem Sl.JA{t base}(h:w.ownsRow base t size (ξ A n c) n xs):Sl w w.heap.size size A n c xs:=by
 rcases h.2 with⟨hv,hn⟩|⟨g,cap,cur,hv,hb,hg,hnc,hcm,hsz,htk⟩
 ·cases hv;exact⟨h.1,by omega,by omega,λh=>by omega⟩
 ·cases hv;refine⟨h.1,hnc,hcm,λhn=>⟨g,0,rfl,(h.lt g rfl).2,λi v hv=>?_⟩⟩;have h1:=h.cells (g:=g) rfl _ _ hv;rw[Addr.add_lit]at h1;exact h1
theorem Sl.EJ{t}(hw:St M W L w)(hm:DW.row (ξ A n c) t size n xs∈L):Sl w w.heap.size size A n c xs:=Sl.JA (hw.holds _ hm)
end
def rowP(T:TypeId)(size:Nat)(f:Value->Value)(xs:List Value)(w:World)(e:Ending)(w':World):Prop :=
 ∃A n c,e=κ (f (ξ A n c))/\w'.ownsRow w.heap.size T size (ξ A n c) n xs/\Below w.heap.size w w'
def Gf(l:List Nat):List Value:=l.map λx:Nat=>Value.int η (x:Int)
def LY(l:List Nat):List Value:=l.map λx:Nat=>Value.int ζ (x:Int)
theorem Jz l:(Gf l).length=l.length:=by simp[Gf]
theorem V3 l x:Gf (l++[x])=Gf l++[.int η x]:=by simp[Gf]
theorem MQ l:ones (Gf l)=τ:=by simp[ones,Gf,Value.oneCell']
theorem Kq{l}{i x:Nat}(h:l[i]?=σ x):(Gf l)[i]?=σ (ε η x):=by simp[Gf,h]
theorem Ew{l n}(h:(Gf l).length=n*1):l.length=n:=by rw[Jz]at h;omega
def TJ(A:Option Addr)(M:List Nat):Prop := ∀b o,A=σ ⟨b,o,ν⟩->b∉M
section
variable{W w:World}{B size n c:Nat}{A:Option Addr}{xs:List Value}{L:List DW}{M:List Nat}{P:Program}
theorem TJ.nil A:TJ A []:=λb o _=>by simp
theorem TJ.IV(h:TJ A M)(hA:A=ν∨∃b o,A=σ ⟨b,o,Option.none⟩)c l size:TJ (Go.Proofs.YtnkgiaimcpbhkaaGreat.IV c l size A) M:=λb o e=>by
 unfold Go.Proofs.YtnkgiaimcpbhkaaGreat.IV at e;split at e
 ·exact h b o e
 ·rcases hA with rfl|⟨b',o',rfl⟩
  ·cases e
  ·simp only[Cr,Bn,Addr.add_lit,Addr.mk.injEq]at e;obtain⟨rfl,_⟩:=e;exact h b' o' rfl
theorem TJ.of_below(h:Sl w B size A n c xs)(hn:0<n)(hM:∀m∈M,B<=m):TJ A M:=λb o e hm=>by
 obtain⟨b',off,e',hb,_⟩:=h.cells hn;rw[e']at e;injection e with e;injection e with e1;have:=hM b hm;omega
theorem Sl.atM(h:Sl W W.heap.size size A n c xs)(hw:St M W L w)(ha:TJ A M):Sl w w.heap.size size A n c xs :=
 ⟨h.len,h.cap,h.max,λhn=>by
  obtain⟨b,off,e,hb,hc⟩:=h.cells hn;exact⟨b,off,e,BS hb hw.ES.size,λi v hv=>(hw.Jh hb (ha _ _ e)).trans (hc i v hv)⟩⟩
theorem Sl.Gq(h:Sl W W.heap.size size A n c xs)(hw:St M W L w)(ha:0<n->TJ A M):Sl w w.heap.size size A n c xs :=
 ⟨h.len,h.cap,h.max,λhn=>by
  obtain⟨b,off,e,hb,hc⟩:=h.cells hn;exact⟨b,off,e,BS hb hw.ES.size,λi v hv=>(hw.Jh hb (ha hn _ _ e)).trans (hc i v hv)⟩⟩
theorem Sl.AGy{b off i m T v}(h:Sl W W.heap.size size (σ ⟨b,off,ν⟩) n c xs)(ha:TJ (σ ⟨b,off,ν⟩) M)(ht:Hd P T=σ (ο,m))(hv:xs[i]?=σ v):LD P M W L T ⟨b,off+i,ν⟩ v:=λw hw=>by
 have hn:0<n:=by
  rcases Cm n with h0|h0
  ·have h1:=h.len;exact AWM
  ·exact h0
 obtain⟨b',off',e,hb,hc⟩:=h.cells hn;cases e;exact Hy ht ((hw.Jh hb (ha _ _ rfl)).trans (hc i v hv))
theorem Sl.nil size:Sl w B size ν 0 0 []:=⟨by simp,Ay _,by omega,λh=>by omega⟩
theorem Sl.wM{b t cs}(hw:St M W L w)(hm:DW.blk b t cs∈L)(hl:cs.length=n*size)(hn:n<=9223372036854775807):Sl w w.heap.size size (σ ⟨b,0,Option.none⟩) n n cs :=
 ⟨hl,Ay _,hn,λ_=>⟨_,_,rfl,(hw.own _ hm b AUp).2,λi v hv=>by rw[Ao,hw.Gd hm];exact hv⟩⟩
theorem Sl.zero(h:Sl w B size A n c xs)(hn:n=0):xs=[]:=Bc (by rw[h.len,hn,ASN])
theorem Sl.isNone(h:Sl w B size A n c xs)(hA:A.isNone=τ):n=0/\xs=[]:=by
 have:n=0:=by
  rcases Cm n with h0|h0
  ·exact h0
  ·obtain⟨b,off,rfl,_⟩:=h.cells h0;simp at hA
 exact⟨this,h.zero this⟩
end
def cl{α:Type}(f:α->List Value)(l:List α):List Value:=l.flatMap f
section
variable{α:Type}{f:α->List Value}{k:Nat}{l:List α}
theorem V4(hf:∀x,(f x).length=k):∀l:List α,(cl f l).length=l.length*k
 |[]=>by simp[cl]
 | x::l=>by
  have:=V4 hf l;unfold cl at *;simp only[BK,Ag,hf,this,Av,AS9];omega
theorem Ru x l:cl f (x::l)=f x++cl f l:=by simp[cl]
theorem Kr l x:cl f (l++[x])=cl f l++f x:=by simp[cl]
theorem nY(hf:∀x,(f x).length=k):∀(i:Nat) (l:List α),(cl f l).drop (i*k)=cl f (l.drop i)
 |0,l=>by simp
 |i+1,[]=>by simp[cl]
 | i+1,x::l=>by
  rw[Ru,Ai,<-nY hf i l,AS9,Nat.one_mul,AUP (i*k),<-List.drop_drop];congr 1;rw[<-hf x];simp
theorem nZ(hf:∀x,(f x).length=k):∀(i:Nat) (l:List α),(cl f l).take (i*k)=cl f (l.take i)
 |0,l=>by simp[cl]
 |i+1,[]=>by simp[cl]
 | i+1,x::l=>by
  rw[Ru,Aj,Ru,<-nZ hf i l,AS9,Nat.one_mul,AUP (i*k),<-hf x,List.take_length_add_append]
theorem Rv(hf:∀x,(f x).length=k){i x}(h:l[i]?=σ x):((cl f l).drop (i*k)).take k=f x:=by
 rw[nY hf];obtain⟨hlt,hx⟩:=Ab.1 h;rw[BV hlt,hx,Ru,<-hf x];simp
theorem OX(hf:∀x,(f x).length=k){i j x v}(h:l[i]?=σ x)(hv:(f x)[j]?=σ v):(cl f l)[i*k+j]?=σ v:=by
 have h1:=Rv hf h;have hj:j<k:=by rw[<-hf x];exact(Ab.1 hv).1
 have h2:(((cl f l).drop (i*k)).take k)[j]?=σ v:=by rw[h1];exact hv
 rw[Bu,ATv hj,ASG]at h2;exact h2
theorem Zd(hf:∀x,ones (f x)=τ)l:ones (cl f l)=τ:=by
 induction l with
 |nil=>rfl
 | cons x l ih =>
  rw[Ru];unfold ones at *;rw[AUV,hf,ih];rfl
theorem GM(hf:∀x,(f x).length=k)(hk:0<k){n}(h:(cl f l).length=n*k):l.length=n:=by
 rw[V4 hf]at h;exact Nat.eq_of_mul_eq_mul_right hk h
end
def Gr(n:Nat):List Nat:=if h:n<128 then [n] else (n % 128+128)::Gr (n / 128)
termination_by n
decreasing_by omega
theorem KV{n}(h:n<128):Gr n=[n]:=by rw[Gr,AUZ h]
theorem PU{n}(h:¬n<128):Gr n=(n % 128+128)::Gr (n / 128):=by rw[Gr,dif_neg h]
theorem V6:∀(k n:Nat),n<128 ^ (k+1)->(Gr n).length<=k+1
 |0,n,h=>by rw[KV AL];simp
 | k+1,n,h=>by
  by_cases hn:n<128
  ·rw[KV hn];simp
  ·rw[PU hn];have:=V6 k (n / 128) (by rw[ATF]at h;omega);simp;omega
theorem El{n}(h:n<18446744073709551616):(Gr n).length<=10:=V6 9 n (by rw[show (128:Nat) ^ (9+1)=1180591620717411303424 by decide];omega)
theorem dQ n:0<(Gr n).length:=by
 by_cases hn:n<128
 ·rw[KV hn];simp
 ·rw[PU hn];simp
theorem Jj:∀n,∀x∈Gr n,x<256:=by
 intro n
 induction n using Nat.strongRecOn with
 | _ n ih =>
  intro x hx;by_cases hn:n<128
  ·rw[KV hn]at hx;simp at hx;omega
  ·rw[PU hn]at hx;rcases AP.1 hx with rfl|hx
   ·omega
   ·exact ih (n / 128) AL x hx
def uD:Nat->List Nat->Nat×Nat×Int
 |_,[]=>(0,0,2)
 | i,c::r=>if (i=9/\1<c)\/(0<i/\c=0) then (0,0,3) else if c<128 then (c,1,0) else
   if (uD (i+1) r).2.2=0 then (c % 128+128*(uD (i+1) r).1,(uD (i+1) r).2.1+1,0) else (0,0,(uD (i+1) r).2.2)
theorem AEN i:uD i []=(0,0,2):=rfl
theorem Ze{i c}r(h:(i=9/\1<c)\/(0<i/\c=0)):uD i (c::r)=(0,0,3):=by rw[uD,ATv h]
theorem ng{i c}r(h:¬((i=9/\1<c)\/(0<i/\c=0)))(hc:c<128):uD i (c::r)=(c,1,0):=by rw[uD,ATt h,ATv hc]
theorem ni{i c}r(h:¬((i=9/\1<c)\/(0<i/\c=0)))(hc:¬c<128):
  uD i (c::r)=if (uD (i+1) r).2.2=0 then (c % 128+128*(uD (i+1) r).1,(uD (i+1) r).2.1+1,0) else (0,0,(uD (i+1) r).2.2):=by rw[uD,ATt h,ATt hc]
theorem Ni:∀(l:List Nat) (i:Nat),i<=9->(∀x∈l,x<256) →
  ((uD i l).1=0/\(uD i l).2.1=0/\((uD i l).2.2=2\/(uD i l).2.2=3)) ∨
  ((uD i l).2.2=0/\(uD i l).1<2*128 ^ (9-i)/\(0<i->0<(uD i l).1)/\0<(uD i l).2.1/\(uD i l).2.1<=l.length/\(uD i l).2.1<=10-i/\Gr (uD i l).1=l.take (uD i l).2.1)
 |[],i,hi,_=>.inl ⟨rfl,rfl,.inl rfl⟩
 | c::r,i,hi,hb=>by
  by_cases h:(i=9/\1<c)\/(0<i/\c=0)
  ·rw[Ze r h];exact .inl ⟨rfl,rfl,.inr rfl⟩
  ·by_cases hc:c<128
   ·rw[ng r h hc];have hp:1<=128 ^ (9-i):=Nat.pow_pos AL;refine .inr ⟨rfl,?_,λh0=>?_,by simp,by simp,by simp;omega,by simp[KV hc]⟩
    ·dsimp only;by_cases h9:i=9
     ·subst h9;simp;omega
     ·have:128 ^ 1<=128 ^ (9-i):=Nat.pow_le_pow_right AL AL;omega
    ·exact AWx
   ·have h9:i<=8:=by omega
    have hcb:=hb c AUq;rw[ni r h hc];rcases Ni r (i+1) AL (λx hx=>hb x (by simp[hx]))with⟨h1,h2,h3⟩|⟨h1,h2,h3,h4,h5,h6,h7⟩
    ·rw[ATt AL];exact .inl ⟨rfl,rfl,h3⟩
    ·rw[ATv h1];have hpw:128 ^ (9-i)=128*128 ^ (9-(i+1)):=by
      rw[show 9-i=(9-(i+1))+1 by omega,ATF,ATU]
     have hv:=h3 AL;refine .inr ⟨rfl,?_,λ_=>?_,by simp,by simp;omega,by simp;omega,?_⟩
     ·dsimp only;rw[hpw];generalize 128 ^ (9-(i+1))=p at *;omega
     ·exact AWx
     ·dsimp only;rw[PU AL];have e1:(c % 128+128*(uD (i+1) r).1) % 128+128=c:=by omega
      have e2:(c % 128+128*(uD (i+1) r).1) / 128=(uD (i+1) r).1:=by omega
      rw[e1,e2,h7,Aj]
theorem dR{l}(hb:∀x∈l,x<256):(uD 0 l).1<18446744073709551616/\(uD 0 l).2.1<=l.length/\(uD 0 l).2.1<=10:=by
 rcases Ni l 0 AL hb with⟨h1,h2,h3⟩|⟨h1,h2,h3,h4,h5,h6,h7⟩
 ·omega
 ·simp at h2 h6;omega
def fin(i n:Nat)(r:Nat×Nat×Int):Nat×Nat×Int:=if r.2.2=0 then (n+128 ^ i*r.1,i+r.2.1,0) else (0,0,r.2.2)
theorem Rx{l}(hb:∀x∈l,x<256):fin 0 0 (uD 0 l)=uD 0 l:=by
 unfold fin;rcases Ni l 0 AL hb with⟨h1,h2,h3⟩|⟨h1,h2,h3,h4,h5,h6,h7⟩
 ·rw[ATt AL];exact ASg h1.symm (ASg h2.symm rfl)
 ·rw[ATv h1];exact ASg AUq (ASg AUq h1.symm)
theorem wN{i n c}r(h:¬((i=9/\1<c)\/(0<i/\c=0)))(hc:¬c<128):fin i n (uD i (c::r))=fin (i+1) (n+c % 128*128 ^ i) (uD (i+1) r):=by
 rw[ni r h hc];unfold fin;split
 ·simp only[ATx];refine ASg ?_ (ASg ?_ rfl)
  ·dsimp only;rw[ATF,ATr,ATU (128 ^ i) (c % 128),Nat.mul_assoc];omega
  ·exact AWx
 ·rfl
def val:List Nat->Nat
 |[]=>0
 |c::r=>c % 128+128*val r
theorem Ua:∀(l:List Nat) (i:Nat),val (l.drop i)<=val l
 |l,0=>by simp
 |[],i+1=>by simp
 | c::r,i+1=>by
  have:=Ua r i;simp only[Ai,val];omega
theorem VH:∀(k i:Nat) (l:List Nat),k<=l.length->(∀j,j<k->128<=l.getD j 0)->i+k<=9->fin i 0 (uD i l)=fin (i+k) (128 ^ i*val (l.take k)) (uD (i+k) (l.drop k))
 |0,i,l,_,_,_=>by simp[val]
 |k+1,i,[],h,_,_=>by simp at h
 | k+1,i,c::r,h,hl,hi=>by
  have hc:128<=c:=by simpa using hl 0 AL
  have key:∀(n:Nat) (k i:Nat) (l:List Nat),k<=l.length->(∀j,j<k->128<=l.getD j 0)->i+k<=9->fin i n (uD i l)=fin (i+k) (n+128 ^ i*val (l.take k)) (uD (i+k) (l.drop k)):=by
   intro n k
   induction k generalizing n with
   |zero=>intro i l _ _ _;simp[val]
   | succ k ih =>
    intro i l h hl hi;cases l with
    |nil=>simp at h
    | cons c r =>
     have hc:128<=c:=by simpa using hl 0 AL
     rw[wN r AL AL,ih _ (i+1) r AVU (λj hj=>by simpa using hl (j+1) AL) AL];rw[Aj,Ai,val];rw[show i+1+k=i+(k+1) by omega];congr 1;rw[ATF,ATr,ATU (128 ^ i) (c % 128),Nat.mul_assoc];omega
  have:=key 0 (k+1) i (c::r) h hl hi;rw[Ao]at this;exact this
theorem MR{l:List Nat}{k}(h:k<l.length):l.drop k=l.getD k 0::l.drop (k+1):=by
 rw[BV h,BP,AQ h];rfl
theorem dS:∀(l:List Nat) (c:Nat),val (l++[c])=val l+128 ^ l.length*(c % 128)
 |[],c=>by simp[val]
 | x::l,c=>by
  rw[List.cons_append,val,val,dS l c,Av,ATF,ATr,<-Nat.mul_assoc,ATU 128 (128 ^ l.length)];omega
section
variable{l:List Nat}{k:Nat}
theorem wO(hb:∀x∈l,x<256)(hl:∀j,j<k->128<=l.getD j 0)(hk:k=l.length)(h:k<10):uD 0 l=(0,0,2):=by
 rw[<-Rx hb,VH k 0 l AL hl AL,Br AL,AEN];rfl
theorem wP(hb:∀x∈l,x<256)(hl:∀j,j<k->128<=l.getD j 0)(hk:k<=l.length)(h:k=10):uD 0 l=(0,0,3):=by
 rw[<-Rx hb,VH 9 0 l AL (λj hj=>hl j AL) AL,MR AL,Ze _ (.inl ⟨rfl,by have:=hl 9 AL;omega⟩)];rfl
theorem AEO(hb:∀x∈l,x<256)(hl:∀j,j<k->128<=l.getD j 0)(hk:k<l.length)(h:k<=9)(hc:(k=9/\1<l.getD k 0)\/(0<k/\l.getD k 0=0)):uD 0 l=(0,0,3):=by
 rw[<-Rx hb,VH k 0 l AL hl AL,MR hk,Ze _ (by rw[Ao];exact hc)];rfl
theorem ABU(hb:∀x∈l,x<256)(hl:∀j,j<k->128<=l.getD j 0)(hk:k<l.length)(h:k<=9)(hc:¬((k=9/\1<l.getD k 0)\/(0<k/\l.getD k 0=0)))(hs:l.getD k 0<128):uD 0 l=(val (l.take (k+1)),k+1,0):=by
 rw[<-Rx hb,VH k 0 l AL hl AL,MR hk,ng _ (by rw[Ao];exact hc) hs];unfold fin;simp only[ATx];refine ASg ?_ (ASg AU5 rfl);dsimp only;have e:l.take (k+1)=l.take k++[l.getD k 0]:=by
  rw[CE hk,BP,AQ hk];rfl
 rw[e,dS,Al,CW AL,ATA hs];simp
end
theorem wQ l k:(Gf l).drop (k*1)=Gf (l.drop k):=by rw[Ac];simp[Gf]
theorem wR l k:(Gf l).take (k*1)=Gf (l.take k):=by rw[Ac];simp[Gf]
theorem Sl.V7{w B n c A l}(h:Sl w B 1 A n c (Gf l)){k}(hk:k<=n):Sl w B 1 (IV c k 1 A) (n-k) (c-k) (Gf (l.drop k)):=by
 rw[<-wQ];exact h.drop hk
theorem Sl.nk{w B n c A l}(h:Sl w B 1 A n c (Gf l)){k}(hk:k<=n):Sl w B 1 A k c (Gf (l.take k)):=by
 rw[<-wR];exact h.take hk
theorem u64_in{y:Nat}(h:y<18446744073709551616):IntKind.u64.wrap (y:Int)=(y:Int):=by rw[IntKind.wrap_u64];omega
theorem Zf{l:List Nat}{i x}(h:l[i]?=σ x):l.getD i 0=x:=by rw[BP,h];rfl
theorem Zg{l:List Nat}{i}(h:i<l.length):∃x,l[i]?=σ x:=⟨_,AQ h⟩
theorem drop_at{l:List Nat}{i x}(h:l[i]?=σ x):l.drop i=x::l.drop (i+1):=by
 obtain⟨hi,hx⟩:=Ab.1 h;rw[BV hi,hx]
def uV(r:Nat×Nat×Int):Value:=.tuple #[ε υ (r.1:Int),ε ζ (r.2.1:Int),ε ζ r.2.2]
theorem AGz{y:Nat}(h:y<128):IntKind.u8.wrap (y:Int)=(y:Int):=by rw[IntKind.wrap_u8];omega
structure Fd where
 kind:Int
 count:Int
 deriving DecidableEq
def NR(f:Fd):List Value:=[ε ζ f.kind,ε ζ f.count]
def Ub(f:Fd):Value:=.agg #[ε ζ f.kind,ε ζ f.count]
theorem H5 f:(NR f).length=2:=rfl
namespace Fd
def wid(f:Fd):Int:=if f.kind=1 then 1 else if f.kind=2 then 2 else if f.kind=3 then 4 else if f.kind=6 then f.count else 8
def V8(f:Fd):Int:=if f.kind=6 then 1 else f.wid
def err(f:Fd):Int:=if f.kind<1\/6<f.kind then 8 else if (f.kind=6/\f.count<1)\/(¬f.kind=6∧¬f.count=0) then 3 else if 65536<f.count then 4 else 0
theorem JJ{f:Fd}(h:f.err=0):1<=f.kind/\f.kind<=6/\(f.kind=6->1<=f.count)/\(f.kind≠6->f.count=0)/\f.count<=65536/\0<=f.count:=by
 unfold err at h;split at h
 ·cases h
 ·split at h
  ·cases h
  ·split at h
   ·cases h
   ·omega
theorem qp(f:Fd):f.err=0\/f.err=3\/f.err=4\/f.err=8:=by
 unfold err;split
 ·omega
 ·split
  ·omega
  ·split<;>omega
theorem J2{f:Fd}(h:f.err=0):1<=f.wid/\f.wid<=65536:=by
 have:=JJ h;unfold wid;split
 ·omega
 ·split
  ·omega
  ·split
   ·omega
   ·split<;>omega
theorem QI{f:Fd}(h:f.err=0):1<=f.V8/\f.V8<=8:=by
 have:=JJ h;unfold V8 wid;repeat' split
 all_goals omega
end Fd
def dU(n a:Int):Int:=(n+a-1) / a*a
theorem Lx{n a}(hn:0<=n)(ha:1<=a):n<=dU n a/\dU n a<=n+a-1:=by
 unfold dU;have h1:=Int.emod_add_mul_ediv (n+a-1) a;have h2:=Int.emod_lt_of_pos (n+a-1) (show 0<a by omega);have h3:=Int.emod_nonneg (n+a-1) (show a≠0 by omega);rw[ATV]at h1;generalize (n+a-1) / a*a=q at *;generalize (n+a-1) % a=r at *;omega
def MS(s:Int×Int)(f:Fd):Int×Int:=(dU s.1 f.V8+f.wid,max s.2 f.V8)
def lay(fs:List Fd):Int×Int:=fs.foldl MS (0,1)
def PW(fs:List Fd):Int:=dU (lay fs).1 (lay fs).2
theorem wS fs f:lay (fs++[f])=MS (lay fs) f:=by simp[lay]
theorem Ry{fs:List Fd}{k f}(h:fs[k]?=σ f):lay (fs.take (k+1))=MS (lay (fs.take k)) f:=by
 obtain⟨hk,hf⟩:=Ab.1 h;rw[CE hk,hf,wS]
def TT(fs:List Fd):Prop := ∀f∈fs,f.err=0
theorem Nj{fs}(h:TT fs)k:TT (fs.take k):=λf hf=>h f (BU hf)
theorem Rz{fs}(h:TT fs):0<=(lay fs).1/\(lay fs).1<=65600*fs.length/\1<=(lay fs).2/\(lay fs).2<=8:=by
 have key:∀(fs:List Fd) (s:Int×Int) (k:Nat),TT fs->0<=s.1->s.1<=65600*k->1<=s.2->s.2<=8 →
   0<=(fs.foldl MS s).1/\(fs.foldl MS s).1<=65600*(k+fs.length:Nat)/\1<=(fs.foldl MS s).2/\(fs.foldl MS s).2<=8:=by
  intro fs
  induction fs with
  |nil=>intro s k _ h1 h2 h3 h4;exact⟨h1,by simpa using h2,h3,h4⟩
  | cons f fs ih =>
   intro s k h h1 h2 h3 h4;have hf:=h f AUq;have hw:=Fd.J2 hf;have ha:=Fd.QI hf;have hu:=Lx h1 ha.1;have:=ih (MS s f) (k+1) (λx hx=>h x (by simp[hx])) AVH AVH AVH AVH;rw[ASM,Av,show k+(fs.length+1)=k+1+fs.length by omega];exact this
 have:=key fs (0,1) 0 h AJ AJ AJ AJ;rwa[Ao]at this
def Ff:List Fd->Int
 |[]=>0
 |f::r=>if f.err=0 then Ff r else f.err
theorem PX{f}r(h:¬f.err=0):Ff (f::r)=f.err:=by rw[Ff,ATt h]
theorem Zh{f}r(h:f.err=0):Ff (f::r)=Ff r:=by rw[Ff,ATv h]
theorem ND:∀ {fs:List Fd},Ff fs=0->TT fs
 |[],_=>λf hf=>by cases hf
 | f::r,h=>by
  unfold Ff at h;split at h
  ·rename_i h0;intro g hg;rcases AP.1 hg with rfl|hg
   ·exact h0
   ·exact ND h g hg
  ·exact AVm
theorem Uc:∀ {fs:List Fd},TT fs->Ff fs=0
 |[],_=>rfl
 | f::r,h=>by
  unfold Ff;rw[ATv (h f AUq)];exact Uc λg hg=>h g (by simp[hg])
theorem PY:∀fs:List Fd,Ff fs=0\/Ff fs=3\/Ff fs=4\/Ff fs=8
 |[]=>.inl rfl
 | f::r=>by
  unfold Ff;split
  ·exact PY r
  ·exact f.qp
def Gg(len:Int)(fs:List Fd):Int:=if 0<len then len*(fs.headD ⟨0,0⟩).wid else PW fs
def Ho(len:Int)(fs:List Fd):Int :=
 if len<0 then 3 else if 65536<len then 4 else if (len=0/\fs.length=0)\/(0<len∧¬fs.length=1) then 3 else if 32<fs.length then 4
 else if ¬Ff fs=0 then Ff fs else if 65536<Gg len fs then 4 else 0
theorem J3{len fs}(h:Ho len fs=0):0<=len/\len<=65536/\fs.length<=32/\1<=fs.length/\(0<len->fs.length=1)/\TT fs/\Gg len fs<=65536:=by
 unfold Ho at h;split at h
 ·cases h
 split at h
 ·cases h
 split at h
 ·cases h
 split at h
 ·cases h
 split at h
 ·exact AVm
 rename_i h0;split at h
 ·cases h
 exact⟨by omega,by omega,by omega,by omega,by omega,ND AL,by omega⟩
theorem wT{len fs}(h1:0<=len)(h2:len<=65536)(h3:fs.length<=32)(h4:1<=fs.length)(h5:0<len->fs.length=1)(h6:TT fs)(h7:Gg len fs<=65536):Ho len fs=0:=by
 unfold Ho;rw[ATt AL,ATt AL,ATt AL,ATt AL,ATt (by rw[Uc h6];simp),ATt AL]
theorem qx len fs:Ho len fs=0\/Ho len fs=3\/Ho len fs=4\/Ho len fs=8:=by
 unfold Ho;have:=PY fs;repeat' split
 all_goals omega
theorem TU{a b:Int}(h1:0<=a)(h2:a<=65536)(h3:0<=b)(h4:b<=65536):0<=a*b/\a*b<=4294967296 :=
 ⟨Int.mul_nonneg h1 h3,Int.le_trans (Int.mul_le_mul h2 h4 h3 AL) AJ⟩
section
variable{W:World}{L:List DW}{n c:Nat}{fs:List Fd}
theorem Sl.fld{b off k x}(h:Sl W W.heap.size 2 (σ ⟨b,off,ν⟩) n c (cl NR fs))(hx:fs[k]?=σ x):LD AGm [] W L 258 ⟨b,off+k*2,ν⟩ (.agg #[ε ζ x.kind,ε ζ x.count]) :=
 h.ld (vs:=NR x) (by
  have:=GM H5 AL h.len;have:=(Ab.1 hx).1;omega) AF (Rv H5 hx)
theorem Sl.ABV{b off k x}(h:Sl W W.heap.size 2 (σ ⟨b,off,ν⟩) n c (cl NR fs))(hx:fs[k]?=σ x):LD AGm [] W L 3 ⟨b,off+k*2,ν⟩ (ε ζ x.kind) :=
 h.ld1 (m:=1) (i:=k*2) AF (OX (j:=0) H5 hx rfl)
theorem Sl.AJe{b off k x}(h:Sl W W.heap.size 2 (σ ⟨b,off,ν⟩) n c (cl NR fs))(hx:fs[k]?=σ x):LD AGm [] W L 3 ⟨b,off+k*2+1,ν⟩ (ε ζ x.count):=by
 rw[Cn];exact h.ld1 (m:=1) (i:=k*2+1) AF (OX (j:=1) H5 hx rfl)
end
def LZ(b:Nat)(f:Fd):DW:=.blk b 258 [ε ζ f.kind,ε ζ f.count]
def G_(b:Nat)(len:Int)(A:Option Addr)(n c:Nat):DW:=.blk b 216 [ε ζ len,ξ A n c]
def Xx(b:Nat):DW:=.blk b 328 [ε ζ 0,ε ζ 0,ε ζ 0]
def PE(len:Int)(A:Option Addr)(n c:Nat):Value:=.agg #[ε ζ len,ξ A n c]
theorem Fg{α:Type}{l:List α}{i}(h:i<l.length):∃x,l[i]?=σ x:=⟨_,AQ h⟩
def V9:=AO (AO @LZ.eq_1 @G_.eq_1) (AO @Xx.eq_1 (AO @Ub.eq_1 @PE.eq_1))
section
variable{P:Program}{M:List Nat}{W w w':World}{L:List DW}{K:Bool->Value->List DW->Prop}{g:FuncId}{args:Array Value}
theorem R3{B b:Nat}(hB:B<=b):∀ {L:List DW},(∀r∈L,∀c∈r.foot,c<B)->fresh L b
 |[],_=>trivial
 |.blk b' t cs::L,h=>⟨BS (h (.blk b' t cs) AUq b' AUp) hB,R3 hB λr hr=>h r AU6⟩
 |.row v t s n xs::L,h=>R3 (L:=L) hB λr hr=>h r AU6
 |.dat f p l::L,h=>R3 (L:=L) hB λr hr=>h r AU6
theorem St.AEP{b t us}(hw:St M W L w)(hB:Below w.heap.size w w')(hlt:w.heap.size<=b)(hb:w'.heap[b]?=σ (.cells us.toArray t (0,0))):St M W (.blk b t us::L) w' :=
 (hw.quiet hB).add (.blk b t us) hb (λc hc=>by
  obtain rfl:c=b:=by simpa [DW.foot]using hc
  exact⟨.inl (AGn hw.ES.size hlt),(Bv.1 hb).1⟩) (λs hs c hc hcs=>by
  obtain rfl:c=b:=by simpa [DW.foot]using hc
  have:=(hw.own s hs _ hcs).2;omega)
theorem St.hold{b t cs}(hw:St M W L w)k(h:nth L k=σ (.blk b t cs)):w.heap[b]?=σ (.cells cs.toArray t (0,0)):=by
 rw[GY]at h;exact hw.holds _ (AU h)
def Zi(t:TypeId)(us:Value->List Value)(T:TypeId)(size:Nat)(xs:List Value)(w:World)(e:Ending)(w':World):Prop :=
 ∃b A n c,e=κ (π (σ ⟨b,0,ν⟩))/\w'.ownsRow w.heap.size T size (ξ A n c) n xs/\w'.heap[b]?=σ (.cells (us (ξ A n c)).toArray t (0,0))/\w.heap.size<=b/\(∀g,(Value.slice A n c).ownBlock=σ g->g≠b)/\Below w.heap.size w w'
theorem OY{t T us size xs}(h:∀w,St M W L w->Calls P g args w (Zi t us T size xs w))
  (hK:∀b A n c,xs.length=n*size->W.heap.size<=b->fresh L b->rowAt A n W M (.blk b t (us (ξ A n c))::L)->K τ (π (σ ⟨b,0,ν⟩)) (.row (ξ A n c) T size n xs :: .blk b t (us (ξ A n c))::L)):I6 P M W g args L K:=λw hw =>
 (h w hw).mono (by
  rintro e w' ⟨b,A,n,c,rfl,ho,hb,hlt,hne,hB⟩;have h1:=hw.AEP hB hlt hb;have h2:St M W (.row (ξ A n c) T size n xs :: .blk b t (us (ξ A n c))::L) w':=h1.add _ (OW ho (Ar _)) (λg hg=>by
   have:=ho.lt g AU7;have h3:=hw.ES.size;exact⟨.inl AL,this.2⟩) (λs hs g hg hgs=>by
   have h4:=ho.lt g AU7;rcases AP.1 hs with rfl|hs
   ·exact hne g AU7 (by simpa [DW.foot]using hgs)
   ·have:=(hw.own s hs g hgs).2;omega)
  exact⟨_,_,rfl,h2,hK b A n c ho.1 (AGn hw.ES.size hlt) (R3 hlt λr hr c hc=>(hw.own r hr c hc).2) h2.LX⟩)
theorem St.H6{t size n v xs}(h:St M W (.row v t size n xs::L) w)(hM:∀m∈M,∃r∈L,m∈r.foot):w.ownsRow W.heap.size t size v n xs:=by
 have hh:w.ownsRow 0 t size v n xs:=h.holds _ (.head _);refine⟨hh.1,?_⟩;rcases hh.2 with hn|⟨g,cap,cur,rfl,h2,h3⟩
 ·exact .inl hn
 ·have hf:g∈(DW.row (ξ (σ ⟨g,0,ν⟩) n cap) t size n xs).foot:=by simp[DW.foot,Value.ownBlock]
  rcases(h.own _ (.head _) g hf).1 with h4|h4
  ·exact .inr ⟨g,cap,cur,rfl,h4,h3⟩
  ·obtain⟨r,hr,hg⟩:=hM g h4;exact absurd hg ((Ak.1 h.apart).1 r hr g hf)
theorem St.AEQ{t T us size n c b A xs}(h:St [] W (.blk b t (us (ξ A n c)) :: .row (ξ A n c) T size n xs::L) w):Zi t us T size xs W (κ (π (σ ⟨b,0,ν⟩))) w :=
 ⟨b,A,n,c,rfl,h.tail.H6 AUq,h.holds _ (.head _),by simpa using(h.own _ (.head _) b AUp).1,λg hg e=>(Ak.1 h.apart).1 _ (.head _) b AUp (by simp[DW.foot,<-e,hg]),h.below⟩
theorem St.qy{A n c t l}(hw:St M W L w)k(h:nth L k=σ (.row (ξ A n c) t 1 n (Gf l))):Sl w w.heap.size 1 A n c (Gf l):=by
 rw[GY]at h;exact Sl.EJ hw (AU h)
theorem St.La{A n c size t xs}(hw:St M W L w)k(h:nth L k=σ (.row (ξ A n c) t size n xs)):Sl w w.heap.size size A n c xs:=by
 rw[GY]at h;exact Sl.EJ hw (AU h)
theorem rowAt.apt{A n b t cs}(h:rowAt A n W M (.blk b t cs::L)):TJ A [b]:=λg o e=>by
 rcases h with⟨rfl,_⟩|⟨g',rfl,_,hne,_⟩
 ·cases e
 ·injection e with e;injection e with e1;subst e1;simp only[BH];exact λe=>hne e.symm
end
theorem TV{P M W n c F L Q}k{A m d size t xs}(hk:nth L k=σ (.row (ξ A m d) t size m xs))
  (h:m<=d->d<=9223372036854775807->CV P M W n c F L Q):CV P M W n c F L Q:=λa w ha hw=>by
 have:=hw.La k hk;exact h this.cap this.max a w ha hw
def Ic(l:List Nat):List Value:=l.map λx:Nat=>Value.int .u16 (x:Int)
theorem ABW{l}{i x:Nat}(h:l[i]?=σ x):(Ic l)[i]?=σ (ε .u16 x):=by simp[Ic,h]
theorem ABX l:(Ic l).length=l.length:=by simp[Ic]
theorem VI{l n}(h:(Ic l).length=n*1):l.length=n:=by rw[ABX]at h;omega
theorem wU l:ones (Ic l)=τ:=by simp[ones,Ic,Value.oneCell']
def FU(l:List Nat):List Value:=l.map λx:Nat=>Value.int υ (x:Int)
theorem FQ{l}{i x:Nat}(h:l[i]?=σ x):(FU l)[i]?=σ (ε υ x):=by simp[FU,h]
theorem nu l:(FU l).length=l.length:=by simp[FU]
theorem Fv{l n}(h:(FU l).length=n*1):l.length=n:=by rw[nu]at h;omega
theorem wV l k:(Ic l).take (k*1)=Ic (l.take k):=by rw[Ac];simp[Ic]
theorem Sl.AG0{w B n c A l}(h:Sl w B 1 A n c (Ic l)){k}(hk:k<=n):Sl w B 1 A k c (Ic (l.take k)):=by
 rw[<-wV];exact h.take hk
def D7(l:List Nat)(i m:Nat):Nat:=l.getD i 0 % m
theorem EU{l i m}(h:0<m):D7 l i m<m:=ASo _ h
def F3(l:List Nat)(i:Nat):Fd×Nat:=if 1+D7 l i 6=6 then (⟨6,((1+D7 l (i+1) 9:Nat):Int)⟩,i+2) else (⟨((1+D7 l i 6:Nat):Int),0⟩,i+1)
def F9(l:List Nat):Nat->Nat->List Fd×Nat
 |0,i=>([],i)
 |n+1,i=>((F3 l i).1::(F9 l n (F3 l i).2).1,(F9 l n (F3 l i).2).2)
def He(l:List Nat)(i:Nat):Int×List Fd×Nat :=
 if D7 l i 4=0 then (((1+D7 l (i+1) 5:Nat):Int),[(F3 l (i+2)).1],(F3 l (i+2)).2)
 else (0,(F9 l (1+D7 l (i+1) 4) (i+2)).1,(F9 l (1+D7 l (i+1) 4) (i+2)).2)
theorem TW l i:(F3 l i).1.err=0/\(F3 l i).1.wid<=9/\i<(F3 l i).2/\(F3 l i).2<=i+2:=by
 have h1:=EU (l:=l) (i:=i) (m:=6) AL;have h2:=EU (l:=l) (i:=i+1) (m:=9) AL;unfold F3;split
 ·exact AVT
 ·exact AVT
theorem V_(l:List Nat):∀(n i:Nat),(∀f∈(F9 l n i).1,f.err=0/\f.wid<=9)/\(F9 l n i).1.length=n/\i<=(F9 l n i).2/\(F9 l n i).2<=i+2*n
 |0,i=>⟨by simp[F9],rfl,Ay _,Ay _⟩
 | n+1,i=>by
  have h1:=TW l i;have h2:=V_ l n (F3 l i).2;simp only[F9];refine⟨λf hf=>?_,by simp[h2.2.1],by omega,by omega⟩;rcases AP.1 hf with rfl|hf
  ·exact⟨h1.1,h1.2.1⟩
  ·exact h2.1 f hf
theorem qz{fs}(h:∀f∈fs,f.err=0/\f.wid<=9):0<=(lay fs).1/\(lay fs).1<=17*fs.length/\1<=(lay fs).2/\(lay fs).2<=8:=by
 have key:∀(fs:List Fd) (s:Int×Int) (k:Nat),(∀f∈fs,f.err=0/\f.wid<=9)->0<=s.1->s.1<=17*k->1<=s.2->s.2<=8 →
   0<=(fs.foldl MS s).1/\(fs.foldl MS s).1<=17*(k+fs.length:Nat)/\1<=(fs.foldl MS s).2/\(fs.foldl MS s).2<=8:=by
  intro fs
  induction fs with
  |nil=>intro s k _ h1 h2 h3 h4;exact⟨h1,by simpa using h2,h3,h4⟩
  | cons f fs ih =>
   intro s k h h1 h2 h3 h4;have hf:=h f AUq;have hw:=Fd.J2 hf.1;have ha:=Fd.QI hf.1;have hu:=Lx h1 ha.1;have:=ih (MS s f) (k+1) (λx hx=>h x (by simp[hx])) AVH AVH AVH AVH;rw[ASM,Av,show k+(fs.length+1)=k+1+fs.length by omega];exact this
 have:=key fs (0,1) 0 h AJ AJ AJ AJ;rwa[Ao]at this
theorem WA l i:Ho (He l i).1 (He l i).2.1=0/\i+2<=(He l i).2.2/\(He l i).2.2<=i+12/\0<=(He l i).1/\(He l i).1<=5/\(He l i).2.1.length<=4/\Gg (He l i).1 (He l i).2.1<=120/\(∀f∈(He l i).2.1,f.err=0/\f.wid<=9):=by
 have h1:=EU (l:=l) (i:=i+1) (m:=5) AL;have h2:=EU (l:=l) (i:=i+1) (m:=4) AL;unfold He;split
 ·have hf:=TW l (i+2);have hw:=Fd.J2 hf.1;have hs:Gg ((1+D7 l (i+1) 5:Nat):Int) [(F3 l (i+2)).1]<=45:=by
   unfold Gg;rw[ATv AL];simp only[List.headD_cons];exact Int.le_trans (Int.mul_le_mul (show (_:Int)<=5 by omega) hf.2.1 AL AL) AJ
  refine⟨wT AU5 AU5 AUq AUq AUq ?_ ?_,by dsimp only;omega,by dsimp only;omega,by dsimp only;omega,by dsimp only;omega,by simp,by dsimp only;omega,?_⟩
  ·intro f h;obtain rfl:f=(F3 l (i+2)).1:=by simpa using h
   exact hf.1
  ·exact AWx
  ·intro f h;obtain rfl:f=(F3 l (i+2)).1:=by simpa using h
   exact⟨hf.1,hf.2.1⟩
 ·obtain⟨ha,hl,hi1,hi2⟩:=V_ l (1+D7 l (i+1) 4) (i+2);have hy:=qz ha;have hu:=Lx hy.1 hy.2.2.1;have hs:Gg 0 (F9 l (1+D7 l (i+1) 4) (i+2)).1<=100:=by
   unfold Gg PW;rw[ATt AL];omega
  refine⟨wT AU5 AU5 AU5 AU5 AU5 (λf h=>(ha f h).1) AU5,by dsimp only;omega,by dsimp only;omega,by dsimp only;omega,by dsimp only;omega,by dsimp only;omega,by dsimp only;omega,ha⟩
theorem Zj l y i gs:(gs++(F9 l (y+1) i).1,(F9 l (y+1) i).2)=((gs++[(F3 l i).1])++(F9 l y (F3 l i).2).1,(F9 l y (F3 l i).2).2):=by simp[F9]
def tape(A:Option Addr)(n c i:Nat):List Value:=[ξ A n c,ε ζ (i:Int)]
def I7(b:Nat)(A:Option Addr)(n c i:Nat):DW:=.blk b 122 [ξ A n c,ε ζ (i:Int)]
def WB:=AO (AO (AO @LZ.eq_1 @G_.eq_1) (AO @Xx.eq_1 @Ub.eq_1)) (AO (AO @PE.eq_1 @I7.eq_1) (AO @tape.eq_1 @Ac))
theorem EC b A n c l(i m:Nat)W(hW:W.heap[b]?=σ (.cells (tape A n c i).toArray 122 (0,0)))(hE:Sl W W.heap.size 1 A n c (Ic l))(ha:0<n->TJ A [b])(hl:∀x∈l,x<65536)(hi:i<=1000000)(hm:0<m/\m<=100000):
  Calls AGm 28 #[π (σ ⟨b,0,ν⟩),ε ζ (m:Int)] W (qm b 122 (ε ζ (D7 l i m:Int)) (tape A n c (i+1)) W):=by
 have hln:l.length=n:=VI hE.len;have hx16:∀j,l.getD j 0<65536:=λj=>by
  rw[BP];cases hq:l[j]? with
  |none=>simp
  |some z=>exact hl z (AU hq)
 refine DL (M:=[b]) Tryz.func28 [.tmp 4]  (St.one hW) ?_;have zs:=Bd.mk WB;refine DZ ?_;refine DZ ?_;refine DC [0,1,5] λG1 g1=>?_;replace g1:=EK g1;refine Cw λK k0=>Cw λK k1=>EB [(τ,0),(τ,1),(τ,2),(τ,3),(τ,4),(τ,5),(τ,6),(τ,7),(τ,8),(τ,9)] [] ?_;have zg:=Bd.mk g1;refine DD (k1 _ _ ?_);refine Df (λ_ _=>True) (λF' L'=>EH F' G1 [0,1]/\F' 5=ε ζ ((l.getD i 0:Nat):Int)/\L'=[I7 b A n c i]) ?_ ?_
 ·refine Ec (λhc=>?_) λhc=>?_
  ·have hlt:i<n:=by have:=AT0 hc;omega
   obtain⟨b0,off,rfl,hb0,-⟩:=hE.cells AL;obtain⟨x,hx⟩:=Fg (l:=l) (i:=i) AL;have hxb:=hl x (AU hx);have hbb:b≠b0:=λe=>ha AL b0 off rfl (by simp[e]);rw[Zf hx];refine K3 (EB [(τ,0),(τ,1),(τ,2),(τ,3),(τ,4),(τ,5),(τ,6),(τ,7),(τ,8),(τ,9),(τ,10),(τ,11)] [] ?_);refine DD ?_;refine DX (hE.AGy (m:=1) (ha AL) AF (ABW hx)) ?_;exact Yc @DT
  ·have hge:¬i<n:=by have:=AUD hc;omega
   rw[BP,Cb AL];exact AV0
 ·intro G2 L' _ hF;obtain⟨zq,Mq,rfl⟩:=hF;have g2:=AO (Dy zq) Mq;refine k0 _ _ ?_;have hv:((l.getD i 0:Nat):Int) % (m:Int)=(D7 l i m:Int):=by unfold D7;rw[Int.natCast_emod]
  have h16:=hx16 i;replace zg:=Bd.mk g2;refine KU @DT ?_;refine KU hv ?_;refine C8 (EP λw hw=>?_);exact⟨rfl,hw.holds _ (.head _),hw.ES⟩
theorem WC b A n c l i W(hW:W.heap[b]?=σ (.cells (tape A n c i).toArray 122 (0,0)))(hE:Sl W W.heap.size 1 A n c (Ic l))(ha:0<n->TJ A [b])(hl:∀x∈l,x<65536)(hi:i<=900000):
  Calls AGm 129 #[π (σ ⟨b,0,ν⟩)] W (qm b 122 (Ub (F3 l i).1) (tape A n c (F3 l i).2) W):=by
 have h6:=EU (l:=l) (i:=i) (m:=6) AL;have h9:=EU (l:=l) (i:=i+1) (m:=9) AL;have e6:(1:Int)+((D7 l i 6:Nat):Int)=((1+D7 l i 6:Nat):Int):=by omega
 have e9:(1:Int)+((D7 l (i+1) 9:Nat):Int)=((1+D7 l (i+1) 9:Nat):Int):=by omega
 refine ER (M:=[b]) (n:=16) [.cell 2 258] rfl Tryz.func129 rfl rfl (Am rfl)  (St.one hW) ?_;refine C9 rfl λK k0=>?_;have zs:=Bd.mk WB;refine DR ?_;intro b2 hb2 h2;refine k0 _ _ (C9 rfl λK k0=>DR ?_);refine Dj 1 (λw hw=>EC b A n c l i 6 w (hw.hold 1 rfl) (hE.Gq hw ha) ha hl AL AL) rfl ?_;try refine DR ?_
 refine Ed (AO e6 @DT) ?_;intro b3 hb3 h3;refine k0 _ _ (DC [0,2,3] λG3 g3=>?_);replace g3:=EK g3;refine Cw λK k0=>?_;have zg:=Bd.mk g3;refine Db ?_;refine Df (λ_ _=>True) (λF' L'=>EH F' G3 [2,3]/\L'=[LZ b3 (F3 l i).1,LZ b2 ⟨0,0⟩,I7 b A n c (F3 l i).2]) ?_ ?_
 ·refine Ec (λhc=>?_) λhc=>?_
  ·have hk:1+D7 l i 6=6:=by have:=AT0 hc;omega
   have hF:F3 l i=(⟨6,((1+D7 l (i+1) 9:Nat):Int)⟩,i+2):=by unfold F3;rw[ATv hk]
   rw[hF,hk];refine DJ rfl (DD ?_);refine Dj 2 (λw hw=>EC b A n c l (i+1) 9 w (hw.hold 2 rfl) (hE.Gq hw ha) ha hl AL AL) rfl ?_;try refine DD ?_
   refine DU (AO e9 @DT) ?_;all_goals (first|(simp;done)|(simp;omega))
  ·have hk:¬1+D7 l i 6=6:=by have:=AUD hc;omega
   have hF:F3 l i=(⟨((1+D7 l i 6:Nat):Int),0⟩,i+1):=by unfold F3;rw[ATt hk]
   rw[hF];exact AV0
 ·intro G4 L' _ hF;obtain⟨zq,rfl⟩:=hF;have g4:=Dy zq;refine k0 _ _ ?_;replace zg:=Bd.mk g4;refine Db ?_;refine C8 (FF ?_);intro w hw;exact⟨rfl,hw.hold 2 rfl,hw.ES⟩
theorem TY b A n c l i W(hW:W.heap[b]?=σ (.cells (tape A n c i).toArray 122 (0,0)))(hE:Sl W W.heap.size 1 A n c (Ic l))(ha:0<n->TJ A [b])(hl:∀x∈l,x<65536)(hi:i<=800000):
  Calls AGm 85 #[π (σ ⟨b,0,ν⟩)] W (Zb b 122 (tape A n c (He l i).2.2) 258 2 (λv=>.agg #[ε ζ (He l i).1,v]) (cl NR (He l i).2.1) W):=by
 have h5:=EU (l:=l) (i:=i+1) (m:=5) AL;have h4:=EU (l:=l) (i:=i+1) (m:=4) AL;have e5:(1:Int)+((D7 l (i+1) 5:Nat):Int)=((1+D7 l (i+1) 5:Nat):Int):=by omega
 have e4:(1:Int)+((D7 l (i+1) 4:Nat):Int)=((1+D7 l (i+1) 4:Nat):Int):=by omega
 refine ER (M:=[b]) (n:=31) [.cell 2 216] rfl Tryz.func85 rfl rfl (Am rfl)  (St.one hW) ?_;refine C9 rfl λK k0=>?_;have zs:=Bd.mk WB;refine DR ?_;intro b2 hb2 h2;refine k0 _ _ (DC [0,2] λG5 g5=>?_);replace g5:=EK g5;refine Cw λK k0=>C9 rfl λK k1=>?_;have zg:=Bd.mk g5;refine DD ?_;refine Dj 1 (λw hw=>EC b A n c l i 4 w (hw.hold 1 rfl) (hE.Gq hw ha) ha hl AL AL) rfl ?_;try refine DD ?_
 refine k1 _ _ ?_;refine Ec (λhc=>?_) λhc=>?_
 ·have hk:D7 l i 4=0:=by have:=AT0 hc;omega
  have hT:He l i=(((1+D7 l (i+1) 5:Nat):Int),[(F3 l (i+2)).1],(F3 l (i+2)).2):=by unfold He;rw[ATv hk]
  rw[hT];refine C9 rfl λK k1=>DD ?_;refine Dj 1 (λw hw=>EC b A n c l (i+1) 5 w (hw.hold 1 rfl) (hE.Gq hw ha) ha hl AL AL) rfl ?_;try refine DD ?_
  refine DU (AO e5 @DT) ?_;refine Dj 1 (λw hw=>WC b A n c l (i+2) w (hw.hold 1 rfl) (hE.Gq hw ha) ha hl AL) rfl ?_;try refine DD ?_
  intro b5 hb5 h5;refine DD (k1 _ _ ?_);refine C8 (FF ?_);intro w hw;have hr:=hw.JR (size:=2) (n:=1) rfl AL;exact⟨σ ⟨b5,0,ν⟩,1,1,rfl,hr.H6 AUp,hw.hold 2 rfl,hw.ES⟩
 ·have hk:¬D7 l i 4=0:=by have:=AUD hc;omega
  have hT:He l i=(0,(F9 l (1+D7 l (i+1) 4) (i+2)).1,(F9 l (1+D7 l (i+1) 4) (i+2)).2):=by unfold He;rw[ATt hk]
  rw[hT];refine Cz (k0 _ _ (C9 rfl λK k0=>DD ?_));intro b3 hb3 h3;refine k0 _ _ (Cw λK k0=>C9 rfl λK k1=>DD ?_);refine Dj 2 (λw hw=>EC b A n c l (i+1) 4 w (hw.hold 2 rfl) (hE.Gq hw ha) ha hl AL AL) rfl ?_;try refine DD ?_
  refine DU (AO e4 @DT) (k1 _ _ ?_);refine DC [0,2,3,4] λG6 g6=>?_;replace g6:=Dy g6;refine DK (FB 258 2 ?_);refine Dv (λF' L' => ∃(y j:Nat)(A6:Option Addr)(n6 c6:Nat)(gs:List Fd),EH F' G6 [0,2,3]/\F' 4=ε ζ (y:Int)/\L'=[.row (ξ A6 n6 c6) 258 2 n6 (cl NR gs),G_ b3 0 A6 n6 c6,G_ b2 0 ν 0 0,I7 b A n c j]/\y<=4/\n6+y<=4/\j+2*y<=i+10/\(gs++(F9 l y j).1,(F9 l y j).2)=F9 l (1+D7 l (i+1) 4) (i+2)) (λF' L'=>(intOf (F' 4)).toNat) ?_ ?_
  ·refine⟨1+D7 l (i+1) 4,i+2,ν,0,0,[],?_⟩;replace zg:=Bd.mk g6;refine DD ?_;exact⟨rfl,by omega,by omega,by omega⟩
  ·intro G7 L' hI;obtain⟨y,j,A6,n6,c6,gs,zq,Qd,rfl,⟨hy,h6,hj,hF⟩⟩:=hI;replace zg:=Bd.mk g6;have g7:=AO (Dy zq) Qd;refine Cw λK k1=>?_;replace zg:=Bd.mk (AO g6 g7);refine Db ?_;refine Ec (λhc=>?_) λhc=>?_
   ·refine Cz ?_;try simp only[Di,Dq]
    obtain⟨z,rfl⟩:∃z,y=z+1:=⟨y-1,by have:=AT0 hc;omega⟩;rw[Zj]at hF;have hfo:=TW l j;refine k1 _ _ (Cw λK k1=>DK (K3 (FD [1] [(τ,0),(τ,1),(τ,2),(ο,3),(ο,4),(ο,5),(τ,6),(ο,7)] [7] ?_)));refine DD ?_;refine Dj 3 (λw hw=>WC b A n c l j w (hw.hold 3 rfl) (hE.Gq hw ha) ha hl AL) rfl ?_;try refine DD ?_
    intro b5 hb5 h5;refine D6 1 wF rfl (λw hw=>D_ (size:=2) (.head _) rfl hw) rfl AL AL ?_;intro A' c' hl' hr';refine DD (k1 _ _ ?_);refine DY [0,2,3,4] ?_;refine Cy rfl (DU @DT ?_);refine⟨⟨z,(F3 l j).2,A',n6+1,c',gs++[(F3 l j).1],?_⟩,?_⟩
    ·refine DU (AO @Af (AO @Kr @NR.eq_1)) ?_;exact⟨AT4 _ AL,by omega,by omega,by omega,hF⟩
    ·exact AXo
   ·refine Dr (k0 _ _ ?_);obtain rfl:y=0:=by have:=AUD hc;omega
    simp only[F9,BX]at hF;rw[hT,<-hF];refine Db ?_;refine C8 (FF ?_);intro w hw;exact⟨A6,n6,c6,rfl,hw.H6 AUp,hw.hold 3 rfl,hw.ES⟩
theorem kN A n c l(m:Nat)W(hE:Sl W W.heap.size 1 A n c (Ic l))(hm:m<=100000):
  Calls AGm 16 #[ξ A n c,ε ζ (m:Int)] W (Zi 122 (λv=>[v,ε ζ 0]) 125 1 (Ic (l.take m)) W):=by
 have hln:l.length=n:=VI hE.len;have hcap:=hE.cap;have hmax:=hE.max;refine DL (M:=[]) Tryz.func16 [.tmp 4] (St.nil _ _) ?_;have zs:=Bd.mk WB;refine DZ ?_;refine DC [0,1] λG8 g8=>?_;replace g8:=EK g8;refine Cw λK k0=>?_;have zg:=Bd.mk g8;refine Db ?_;refine Df (λ_ _=>True) (λF' L'=>F' 0=ξ A (min n m) c/\L'=[]) ?_ ?_
 ·refine Ec (λhc=>?_) λhc=>?_
  ·have hlt:m<n:=by have:=AT0 hc;omega
   rw[AUM AL];refine DJ rfl ?_;exact dP
  ·have hge:¬m<n:=by have:=AUD hc;omega
   rw[CW AL];refine Cz ?_;try simp only[Di,Dq]
   exact dP
 ·intro G9 L' _ hF;obtain⟨Nk,rfl⟩:=hF;have g9:=Nk;refine k0 _ _ ?_;have hE2:Sl W W.heap.size 1 A (min n m) c (Ic (l.take m)):=by
   have:=hE.AG0 (k:=min n m) AL;rwa[show l.take (min n m)=l.take m by rw[<-hln,Nat.min_comm,<-List.take_take,AUN]]at this
  refine C9 rfl λK k0=>?_;replace zg:=Bd.mk g9;refine DD ?_;intro b5 hb5;refine EI 0 ADI rfl rfl (λw hw=>(hE2.at hw).reads) (wU _) AL AL ?_;intro A' c' hl' _;refine DD ?_;intro b6 hb6;refine k0 _ _ (C8 (EP λw hw=>?_));exact hw.AEQ (us:=λv=>[v,ε ζ 0])
def Oy(f:Fd):List Nat:=Gr f.kind.toNat++Gr f.count.toNat
def WE(len:Int)(fs:List Fd):List Nat:=Gr len.toNat++Gr fs.length++fs.flatMap Oy
def kP(len:Int)(fs:List Fd):List Nat:=if Ho len fs=0 then WE len fs else []
theorem R4{n}(h:n<=65536):(Gr n).length<=3:=V6 2 n (by rw[show (128:Nat) ^ (2+1)=2097152 by decide];omega)
theorem q8{f}(h:f.err=0):(Oy f).length<=6:=by
 have:=Fd.JJ h;have h1:=R4 (n:=f.kind.toNat) AL;have h2:=R4 (n:=f.count.toNat) AL;unfold Oy;rw[Ag];omega
theorem WG:∀ {fs:List Fd},TT fs->(fs.flatMap Oy).length<=6*fs.length
 |[],_=>by simp
 | f::r,h=>by
  have h1:=q8 (h f AUq);have h2:=WG (fs:=r) λx hx=>h x (by simp[hx]);rw[BK,Ag,Av];omega
theorem dV{len fs}(h:Ho len fs=0):(WE len fs).length<=198/\2<=(WE len fs).length:=by
 obtain⟨h1,h2,h3,h4,h5,h6,h7⟩:=J3 h;have q1:=R4 (n:=len.toNat) AL;have q2:=R4 (n:=fs.length) AL;have q3:=WG h6;have q4:=dQ len.toNat;have q5:=dQ fs.length;unfold WE;rw[Ag,Ag];omega
theorem kQ f:∀x∈Oy f,x<256:=λx hx=>by
 rcases AV.1 hx with h|h
 ·exact Jj _ x h
 ·exact Jj _ x h
theorem q9 len fs:∀x∈WE len fs,x<256:=λx hx=>by
 unfold WE at hx;rcases AV.1 hx with h|h
 ·rcases AV.1 h with h|h
  ·exact Jj _ x h
  ·exact Jj _ x h
 ·obtain⟨f,_,hf⟩:=BM.1 h;exact kQ f x hf
theorem q_{fs:List Fd}{k x}(h:fs[k]?=σ x):(fs.take (k+1)).flatMap Oy=(fs.take k).flatMap Oy++Gr x.kind.toNat++Gr x.count.toNat:=by
 obtain⟨hk,hf⟩:=Ab.1 h;rw[CE hk,hf,ASS];simp[Oy]
theorem TZ{x}(h0:0<=x)(h1:x<=9223372036854775807):IntKind.u64.wrap x=(x.toNat:Int):=by rw[IntKind.wrap_u64];omega
section
variable{H:Type}{enc:TypeId×Value->H}{P:Program}{w:World}{base:Nat}{held:Bool}
theorem rC{w:World}{a v}(h:w.cell? a=σ v):a.spot=ν:=by
 unfold World.cell? at h;split at h
 ·split at h
  ·cases h
  ·rename_i hs;simpa using hs
 ·cases h
theorem dW{a:Addr}(hs:a.spot=ν)k:a.add k=⟨a.block,a.off+k,ν⟩:=by
 obtain⟨ab,ao,sq⟩:=a;dsimp only at hs;subst hs;unfold Addr.add;split
 ·rename_i h;subst h;rfl
 ·rfl
theorem Sl.of_cells{a n c size xs}(hl:xs.length=n*size)(hs:0<size)(hc:n<=c)(hm:c<=maxLen)(h:∀i v,xs[i]?=σ v->w.cell? (a.add i)=σ v):Sl w w.heap.size size (σ a) n c xs :=
 ⟨hl,hc,by unfold maxLen at hm;omega,λhn=>by
  have hpos:0<xs.length:=by rw[hl];exact Nat.mul_pos hn hs
  have h0:=h 0 _ (AQ hpos);have hsp:a.spot=ν:=by rw[Addr.add_zero']at h0;exact rC h0
  refine⟨a.block,a.off,?_,?_,λi v hv=>?_⟩
  ·obtain⟨ab,ao,sq⟩:=a;dsimp only at hsp;subst hsp;rfl
  ·have:=World.block_lt_of_cell? w _ h0;rwa[dW hsp]at this
  ·have:=h i v hv;rwa[dW hsp]at this⟩
theorem rD{t e k fuel cs x}(ht:P.underlying t=σ (.slice e))(he:P.underlying e=σ (.int k))(hC:P.cellsOf e=1)
  (h:DataW.trod enc P w base (λ_=>τ) held fuel t cs=σ x):
  ∃A n c,∃L:List Int,cs=[ξ A n c]/\Sl w w.heap.size 1 A n c (L.map (Value.int k))∧∀x∈L,(Lit.int k x).wf=τ:=by
 rcases open_ints ht he hC h with⟨hcs,hx⟩|⟨a,len,cap,zs,hcs,_,hl,hm,hz,hx,hcell,hwz⟩
 ·exact⟨ν,0,0,[],hcs,Sl.nil _,by simp⟩
 ·simp only[ATx]at hz;refine⟨σ a,len,cap,zs.take len,hcs,Sl.of_cells AV1 AL hl hm λi v hv=>?_,λy hy=>hwz y (BU hy)⟩;rw[BZ,Bu]at hv;split at hv
  ·rename_i hi;obtain⟨z,hz1,rfl⟩:=CK.1 hv;rw[hcell i AL,BP,hz1];rfl
  ·cases hv
theorem AJf{n}(h:(Lit.int .u16 n).wf=τ):0<=n/\n<=65535:=by
 simp only[Lit.wf,Au,AT5]at h;exact h
theorem wW{k:IntKind} : ∀ {L:List Int},(∀x∈L,0<=x)->L.map (Value.int k)=(L.map Int.toNat).map λx:Nat=>Value.int k (x:Int)
 |[],_=>rfl
 | x::L,h=>by
  have h1:=h x AUq;rw[BJ,BJ,BJ,wW λy hy=>h y AWo];rw[Int.toNat_of_nonneg h1]
variable{b0:Nat}{v:Value}{d:DataW H}{p:List MemPlace}{fuel:Nat}{x:DataW H×List MemPlace}{cs:List Value}
theorem rE{e k t B}(ht:P.underlying t=σ (.slice e))(he:P.underlying e=σ (.int k))(hC:P.cellsOf e=1)(hwf:∀n:Int,(Lit.int k n).wf=τ->0<=n/\n<B)
  (h:DataW.trod enc P w base (λ_=>τ) held fuel t cs=σ x):∃(A:Option Addr)(n c:Nat)(l:List Nat),cs=[ξ A n c]/\Sl w w.heap.size 1 A n c (l.map λx:Nat=>Value.int k (x:Int))∧∀x∈l,(x:Int)<B:=by
 obtain⟨A,n,c,L,hcs,hE,hwz⟩:=rD ht he hC h;rw[wW λy hy=>(hwf y (hwz y hy)).1]at hE;refine⟨A,n,c,_,hcs,hE,λy hy=>?_⟩;obtain⟨z,hz,rfl⟩:=BL.1 hy;have:=hwf z (hwz z hz);omega
theorem rF{t e}(ht:P.underlying t=σ (.slice e))(hval:Value.okWide P w .any b0 t v){Q:List Value->Prop}(h:Q v.cells.toList){A n c}(hv:v.cells.toList=[ξ A n c]):v=ξ A n c:=by
 obtain⟨a0,len,cap,rfl⟩:=okWide_slice ht hval;simpa [Value.cells]using hv
theorem AGO(hval:Value.okWide AGm w .any b0 22 v)(h:DataW.Trod enc AGm w base (λ_=>τ) held 22 v d p):
  ∃A n c l,v=ξ A n c/\Sl w w.heap.size 1 A n c (Ic l)∧∀x∈l,x<65536:=by
 obtain⟨fuel,hf⟩:=h;obtain⟨A,n,c,l,hcs,hE,hl⟩:=rE (B:=65536) Tryz.underlying22 Tryz.underlying125 AF (λn h=>by have:=AJf h;omega) hf;exact⟨A,n,c,l,rF (Q:=λ_=>True) Tryz.underlying22 hval trivial hcs,hE,λx hx=>by have:=hl x hx;omega⟩
end
end Go.Proofs.YtnkgiaimcpbhkaaGreat
