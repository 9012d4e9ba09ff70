import Derived.RangeFuncNested
import Derived.RangeFuncBound
import Derived.RangeFuncCalls
import Derived.RangeFuncLeaves
import Derived.Shelf.Abstract
import Derived.Shelf.RegionOpen
import Derived.WalkKit
import Derived.OwnWalkIn
import Derived.TacticsInMore
import Derived.LoopNIn
import Derived.LoopIn
import Derived.Lib.Hide
import Derived.OpenShut
import Derived.WalkSpells
import Derived.Laws.OwnMore
import Derived.Deep.AppendLies
import Derived.Deep.Draws
import Derived.Deep.OwnRows
import Derived.Laws.Rows
import Derived.Maps.AppendAt
import Derived.ChangeSame
import Derived.RegionTactic
import Derived.OwnWalk
import Derived.Test.YtegonkdandmolaaGreatChecked
import Derived.OrdersHeld
import Derived.Tactics
import Derived.LoopTactic
import Derived.Laws.StructEq
import Derived.Laws.Tables
import Derived.Laws.BytesString
set_option linter.unusedVariables false
set_option linter.unusedSimpArgs false
set_option maxRecDepth 100000
set_option maxHeartbeats 4000000
namespace Go.Proofs.YtegonkdandmolaaGreat
open Go.RowKit Go.Shelf Go.ChangeShapes Go.WideShapes
theorem Te (a:Addr) (n:Nat):(a.add n).block=a.block:=by unfold Addr.add;split<;>rfl
def Reads (w:World) (B size:Nat) (A:Option Addr) (n:Nat) (xs:List Value):Prop :=
 xs.length=n*size/\(0<n→∃ad,A=some ad/\ad.block<B∧∀j u,xs[j]? = some u->w.cell? (ad.add j)=some u)
section
variable {w w':World} {B B' size n:Nat} {A:Option Addr} {xs:List Value}
theorem Reads.none_:Reads w B size A 0 []:=⟨by simp,fun h=>absurd h (by omega)⟩
theorem Reads.at_ {k:Nat} (h:Reads w B 1 A n xs) (hk:k<n):∃ad u,A=some ad/\ad.block<B/\xs[k]? = some u/\w.cell? (ad.add k)=some u:=by
 obtain ⟨ad,e,hb,hc⟩:=h.2 (by omega)
 have hl:k<xs.length:=by have:=h.1;omega
 exact ⟨ad,xs[k],e,hb,List.getElem?_eq_getElem hl,hc k _ (List.getElem?_eq_getElem hl)⟩
theorem Reads.keep (h:Reads w B size A n xs) (hk:∀p:Addr,p.block<B->w'.cell? p=w.cell? p):Reads w' B size A n xs :=
 ⟨h.1,fun hn=>by
  obtain ⟨ad,e,hb,hc⟩:=h.2 hn
  exact ⟨ad,e,hb,fun j u hu=>(hk _ (by rw [Te];exact hb)).trans (hc j u hu)⟩⟩
theorem Reads.more (h:Reads w B size A n xs) (hB:B<=B'):Reads w B' size A n xs :=
 ⟨h.1,fun hn=>by
  obtain ⟨ad,e,hb,hc⟩:=h.2 hn
  exact ⟨ad,e,by omega,hc⟩⟩
theorem Reads.below (h:Reads w B size A n xs) (hb:Below B w w'):Reads w' B size A n xs:=h.keep fun _ hp=>hb.cell hp
theorem Reads.drew (h:Reads w B size A n xs):Reads w.drew B size A n xs:=h
theorem Reads.alloc (h:Reads w B size A n xs) (hB:B<=w.heap.size) (o:Obj):Reads (w.alloc o) B size A n xs:=h.keep fun p hp=>World.cell?_alloc_lt w o p (by omega)
theorem Reads.grown (h:Reads w B size A n xs) {row:Option Nat} (hg:w.grownBy w' row) (hB:B<=w.heap.size) (hr:∀g,row=some g->B<=g):Reads w' B size A n xs :=
 h.keep fun p hp=>World.cell?_of_block (hg.block p.block (by omega) (fun e=>by have:=hr _ e.symm;omega))
theorem Reads.Lr {base:Nat} {e:TypeId} {c:Nat} (h:w.ownsRow base e size (.slice A n c) n xs):Reads w w.heap.size size A n xs:=by
 refine ⟨h.1,fun hn=>?_⟩
 obtain ⟨g,cap,hv,_,hlt⟩:=h.form hn
 have hA:A=some ⟨g,0,none⟩:=by injection hv
 subst hA
 exact ⟨_,rfl,hlt,h.cells (g:=g) rfl⟩
end
def RJ (w:World) (g:Nat) (t:TypeId) (cs:Array Value):Prop:=w.heap[g]? = some (.cells cs t (0,0))
section
variable {w w':World} {g:Nat} {t:TypeId} {cs:Array Value}
theorem RJ.lt (h:RJ w g t cs):g<w.heap.size:=by
 rcases Nat.lt_or_ge g w.heap.size with hlt|hge
 ·exact hlt
 ·unfold RJ at h;rw [Array.getElem?_eq_none hge] at h;cases h
theorem RJ.cell (h:RJ w g t cs) (i:Nat):w.cell? ⟨g,i,none⟩=cs[i]? := cell_of_row w g i cs t (0,0) h
theorem RJ.frozen (h:RJ w g t cs) (i:Nat):w.frozen? ⟨g,i,none⟩=false:=by
 unfold RJ at h
 simp [World.frozen?,h]
theorem RJ.new (w:World) (t:TypeId) (cs:Array Value):RJ (w.alloc (.cells cs t)) w.heap.size t cs:=heap_alloc_new w _
theorem RJ.drew (h:RJ w g t cs):RJ w.drew g t cs:=h
theorem RJ.alloc (h:RJ w g t cs) (o:Obj):RJ (w.alloc o) g t cs:=(Below.heap_alloc w o g h.lt).trans h
theorem RJ.below {B:Nat} (h:RJ w g t cs) (hb:Below B w w') (hg:g<B):RJ w' g t cs:=(hb.block g hg).trans h
theorem RJ.grown {row:Option Nat} (h:RJ w g t cs) (hb:w.grownBy w' row) (hg:some g≠row):RJ w' g t cs:=(hb.block g h.lt hg).trans h
end
section
variable {P:Program} (w:World)
theorem MR (base:Nat) (t ty e:TypeId) (i:TypeInfo) (size:Nat) (ht:P.underlying t=some (.slice e)) (hi:P.info? e=some i)
  (v:Value) (n:Nat) (xs:List Value) (hown:w.ownsRow base e size v n xs) (c:Nat):(Builtin.append_ #[t,t] ty #[v,.slice none 0 c]).run P w = .ok v w:=by
 rcases hown.2 with ⟨rfl,rfl⟩|⟨g,cap,cur,rfl,_,_,hnc,_⟩
 ·simp [Builtin.append_,run_underlying ht,sizeOf,typeInfo,hi,Builtin.lenOf,Builtin.firstCells]
 ·simp [Builtin.append_,run_underlying ht,sizeOf,typeInfo,hi,Builtin.lenOf,Builtin.firstCells,hnc,storeCells]
theorem KG (base:Nat) (t ty e:TypeId) (i:TypeInfo) (z:Value) (size bytes:Nat) (ht:P.underlying t=some (.slice e)) (hi:P.info? e=some i) (hz:i.zero=some z)
  (hsize:i.size=size) (hby:i.bytes=bytes) (hzs:z.cells.size=size) (hsz:0<size)
  (v:Value) (n:Nat) (xs:List Value) (hown:w.ownsRow base e size v n xs)
  (B:Nat) (A:Option Addr) (m c:Nat) (news:List Value) (hr:Reads w B size A m news) (h1:∀u∈news,u.oneCell'=true)
  (h63:n+m<=maxLen) (hbytes:(n+m)*bytes<=140737488355328) (hbase:base<=w.heap.size) :
  ∃v' w',(Builtin.append_ #[t,t] ty #[v,.slice A m c]).run P w = .ok v' w'∧w'.ownsRow base e size v' (n+m) (xs++news)/\w.grownBy w' v.ownBlock ∧
   (v'.ownBlock=v.ownBlock\/v'.ownBlock=some w.heap.size):=by
 rcases A with _|ad
 ·have hm:m=0:=by
   rcases Nat.eq_zero_or_pos m with h0|h0
   ·exact h0
   ·obtain ⟨ad,h,_⟩:=hr.2 h0
    cases h
  subst hm
  have hn:news=[]:=List.eq_nil_of_length_eq_zero (by simpa using hr.1)
  subst hn
  exact ⟨v,w,MR w base t ty e i size ht hi v n xs hown c,by simpa using hown,World.grownBy.refl w _,.inl rfl⟩
 ·have hcells:∀j u,news[j]? = some u->w.cell? (ad.add j)=some u:=by
   intro j u hu
   rcases Nat.eq_zero_or_pos m with h0|h0
   ·subst h0
    have hn:news=[]:=List.eq_nil_of_length_eq_zero (by simpa using hr.1)
    subst hn
    simp at hu
   ·obtain ⟨ad',h,_,hc⟩:=hr.2 h0
    injection h with h
    subst h
    exact hc j u hu
  obtain ⟨v',w',hrun,h2,h3,_,h5⟩:=run_append_own_at (P:=P) w base t ty e i z size bytes ht hi hz hsize hby hzs hsz v n xs hown ad m c news hr.1 hcells h1 h63 hbytes hbase
  exact ⟨v',w',hrun,h2,h3,h5⟩
theorem RY {o:Oper} {a:Act} {K:Act->World->Prop} {Q:Exit->Act->World->Prop} (s x:Operand) (t:TypeId)
  (ho:o.op = .call { callee:=.builtin .append,args := #[s,x],argTypes := #[t,t] })
  (base:Nat) (e:TypeId) (i:TypeInfo) (z:Value) (size bytes:Nat) (ht:P.underlying t=some (.slice e)) (hi:P.info? e=some i) (hz:i.zero=some z)
  (hsize:i.size=size) (hby:i.bytes=bytes) (hzs:z.cells.size=size) (hsz:0<size)
  (v:Value) (n:Nat) (xs:List Value) (hs:a.eval s=v) (hown:w.ownsRow base e size v n xs)
  (B:Nat) (A:Option Addr) (m c:Nat) (news:List Value) (hx:a.eval x = .slice A m c) (hr:Reads w B size A m news) (h1:∀u∈news,u.oneCell'=true)
  (h63:n+m<=maxLen) (hbytes:(n+m)*bytes<=140737488355328) (hbase:base<=w.heap.size)
  (h:∀v' w',w'.ownsRow base e size v' (n+m) (xs++news)->w.grownBy w' v.ownBlock->(v'.ownBlock=v.ownBlock\/v'.ownBlock=some w.heap.size)->K (a.put o.dst v') w'):o.wp P a w K Q:=by
 obtain ⟨v',w',hrun,h2,h3,h4⟩:=KG (P:=P) w base t o.type e i z size bytes ht hi hz hsize hby hzs hsz v n xs hown B A m c news hr h1 h63 hbytes hbase
 unfold Oper.wp execOp
 simp only [ho,resolve,invoke,builtin,Sem.run_bind,Sem.run_pure,Result.andThen_ok,List.map_toArray,List.map_cons,List.map_nil,hs,hx,hrun]
 exact h v' w' h2 h3 h4
theorem Fu {ops:Array Oper} {rest:List Oper} {o:Oper} {a:Act} {Q:Exit->Act->World->Prop} (hgd:o.guard=none) (s x:Operand) (t:TypeId)
  (ho:o.op = .call { callee:=.builtin .append,args := #[s,x],argTypes := #[t,t] })
  (base:Nat) (e:TypeId) (i:TypeInfo) (z:Value) (size bytes:Nat) (ht:P.underlying t=some (.slice e)) (hi:P.info? e=some i) (hz:i.zero=some z)
  (hsize:i.size=size) (hby:i.bytes=bytes) (hzs:z.cells.size=size) (hsz:0<size)
  (v:Value) (n:Nat) (xs:List Value) (hs:a.eval s=v) (hown:w.ownsRow base e size v n xs)
  (B:Nat) (A:Option Addr) (m c:Nat) (news:List Value) (hx:a.eval x = .slice A m c) (hr:Reads w B size A m news) (h1:∀u∈news,u.oneCell'=true)
  (h63:n+m<=maxLen) (hbytes:(n+m)*bytes<=140737488355328) (hbase:base<=w.heap.size)
  (h:∀v' w',w'.ownsRow base e size v' (n+m) (xs++news)->w.grownBy w' v.ownBlock->(v'.ownBlock=v.ownBlock\/v'.ownBlock=some w.heap.size)->wpList P ops Q rest (a.put o.dst v') w'):wpList P ops Q (o::rest) a w :=
 wpList_plain hgd fun _ hK=>RY w s x t ho base e i z size bytes ht hi hz hsize hby hzs hsz v n xs hs hown B A m c news hx hr h1 h63 hbytes hbase fun v' w' h2 h3 h4=>hK _ _ (h v' w' h2 h3 h4)
end
theorem NS (w:World) (cs:Array Value) (t:TypeId) (size m:Nat) (h:cs.size=m*size) (B:Nat) (hB:w.heap.size<B):Reads (w.alloc (.cells cs t)) B size (some ⟨w.heap.size,0,none⟩) m cs.toList :=
 ⟨by simpa using h,fun _=>⟨_,rfl,hB,fun j u hu=>by
  have e:(⟨w.heap.size,0,none⟩:Addr).add j=⟨w.heap.size,j,none⟩:=by unfold Addr.add;split<;>simp_all
  rw [e,cell_of_row _ _ _ cs t (0,0) (heap_alloc_new w _)]
  simpa using hu⟩⟩
theorem PS {a b:Bool} (h:a=b):Ending.returned (.bool a) = .returned (.bool b):=by rw [h]
theorem dz {n:Nat} {W w1:World} (hb:Below n W w1):(∀b o,b<n->w1.cell? ⟨b,o,none⟩=W.cell? ⟨b,o,none⟩)/\(∀b o,b<n->w1.frozen? ⟨b,o,none⟩=W.frozen? ⟨b,o,none⟩) :=
 ⟨fun b o h=>hb.cell (p:=⟨b,o,none⟩) h,fun b o h=>hb.frozen (p:=⟨b,o,none⟩) h⟩
section
variable {H:Type} {enc:TypeId×Value->H} {P:Program}
theorem RZ {f:Func} {s:ChangeSpec} {apart fresh handsOn again:Bool} {W W':World} {args:Array Value} {v:Value} {ds gs:List (DataW H)} {before pa pv:List MemPlace}
  (hW:DataW.Whole enc P f.params.toList s.vars apart W args.toList ds gs before)
  (hres:∀(b:Nat) (sp:Nat->Bool) (hd:Bool),DataW.TrodAll enc P W' b sp hd f.resultTypes.toList (v.resultList f.resultTypes.size) (s.fn H (ds++gs)).results [])
  (hargs:∀sp:Nat->Bool,(∀p∈before,sp p.block=true)->DataW.TrodAll enc P W' 0 sp true f.params.toList args.toList (s.fn H (ds++gs)).args pa)
  (hvars:∀sp:Nat->Bool,(∀p∈before,sp p.block=true)->DataW.TrodVars enc P W' sp s.vars (s.fn H (ds++gs)).vars pv)
  (hps:before=pa++pv) (hb:Below W.heap.size W W')
  (hok:∀(j:Nat) (t:TypeId) (r:Value),f.resultTypes[j]? = some t->(v.resultList f.resultTypes.size)[j]? = some r->Value.okWide P W' .any 0 t r) :
  s.post enc P f apart fresh handsOn again W args v W':=by
 have hlt:∀p∈before,p.block<W.heap.size:=fun p hp=>hW.lt p hp
 have hold:∀p∈before,(fun b=>decide (b<W.heap.size)) p.block=true:=fun p hp=>by simpa using hlt p hp
 refine ⟨ds,gs,before,[],pa,pv,hW,hres _ _ _,hargs _ hold,hvars _ hold,World.keptBut_mono (fun p hp=>⟨hp, ?_⟩) (hb.frame (· ∈ before)),fun _=>?_⟩
 ·rw [hps,List.mem_append] at hp
  exact Or.inr hp
 ·obtain ⟨_,_,_,_,_,hz,hn⟩:=hW
  refine ⟨hok,_,_,([]++pa)++pv,⟨[]++pa,pv,trodAll_append (hargs _ (fun _ _=>rfl)) (hres _ _ _),hvars _ (fun _ _=>rfl),rfl, ?_, ?_⟩, ?_⟩
  ·intro b off hp
   have hin:MemPlace.cell b off∈before:=by rw [hps];simpa using hp
   rw [hb.frozen (hlt _ hin)]
   exact hz b off hin
  ·intro ha
   have:=hn ha
   rw [hps] at this
   simpa using this
  ·intro p hp _
   rw [hps]
   simpa using hp
end
section
variable {P:Program} {ops:Array Oper} {Q:Exit->Act->World->Prop} {md:Region.Mode} {S:World->Prop} {fin:List Nat}
def Hw (P:Program) (md:Region.Mode) (ops:Array Oper) (Q:Exit->Act->World->Prop) (S:World->Prop) (fin:List Nat):Nat->Array Bool->Act->World->Prop
 | 0,listed,a,w=>Region.ready md ops listed=[]/\Q .normal a w
 | fuel+1,listed,a,w =>
  (Region.ready md ops listed=[]->Q .normal a w) ∧
  ∀i∈Region.ready md ops listed,wpOp P ops Q i (fun a' w'=>(fin.contains i=false->S w')/\Hw P md ops Q S fin fuel (listed.setIfInBounds i true) a' w') a w
theorem Ga:∀(fuel:Nat) (listed:Array Bool) (a:Act) (w:World),Hw P md ops Q S fin fuel listed a w->wpAny P md ops Q fuel listed a w
 | 0,_,_,_,h=>h
 | fuel+1,_,_,_,h=>⟨h.1,fun i hi=>wpOp_mono (fun a' w' h'=>Ga fuel _ a' w' h'.2) (h.2 i hi)⟩
def behind (md:Region.Mode) (ops:Array Oper) (i:Nat):List Nat :=
 (List.range ops.size).foldl (fun C k=>if ((ops[k]?).any fun o=>o.after.any fun e=>Region.binds md e&&(e.on == i||C.contains e.on)) then k::C else C) []
def waited (md:Region.Mode) (ops:Array Oper) (fin:List Nat) (i:Nat) (listed:Array Bool):Bool :=
 let C:=behind md ops i
 (fin.all fun j=>C.contains j)&&C.all fun k => !(listed.getD k true)&&match ops[k]? with
  | none=>false
  | some o=>o.after.any fun e=>Region.binds md e&&(e.on == i||C.contains e.on)
theorem KH {fin:List Nat} {i:Nat} {listed:Array Bool} (h:waited md ops fin i listed=true):(∀j,fin.contains j=true->j∈behind md ops i) ∧
  (∀k∈behind md ops i,listed.getD k true=false)∧∀k∈behind md ops i,∀o,ops[k]? = some o→∃e∈o.after,Region.binds md e=true/\(e.on=i\/e.on∈behind md ops i):=by
 simp only [waited,Bool.and_eq_true,List.all_eq_true] at h
 refine ⟨fun j hj=>by simpa using h.1 j (by simpa using hj),fun k hk=>by simpa using (h.2 k hk).1,fun k hk o ho=>?_⟩
 have:=(h.2 k hk).2
 rw [ho] at this
 obtain ⟨m,hm,hm2⟩:=Array.any_eq_true.1 this
 have h2:=Bool.and_eq_true_iff.1 hm2
 refine ⟨o.after[m],Array.getElem_mem hm,h2.1, ?_⟩
 have h3:=h2.2
 simp only [Bool.or_eq_true,beq_iff_eq,List.contains_iff_mem] at h3
 exact h3
theorem Tf {i:Nat} {oi:Oper} {v:Value} (hi:ops[i]? = some oi) (C:List Nat) (hn:∀j,fin.contains j=true->j∈C) (hC:∀k∈C,∀o,ops[k]? = some o→∃e∈o.after,Region.binds md e=true/\(e.on=i\/e.on∈C)) (hsel:∀(j:Nat) (o:Oper) cs b,ops[j]? = some o->o.op ≠ .select cs b)
  (hQ:∀c a w,Q (.panic c) (a.put oi.dst v) w->Q (.panic c) a w) :
  ∀(fuel:Nat) (listed:Array Bool) (a:Act) (w:World),
   (∀j oj,ops[j]? = some oj->j≠i->listed.getD j true=false->(∀e∈oj.after,Region.binds md e=true->e.on≠i)->oi.apart ops oj=true) →
   (∀k∈C,listed.getD k true=false) →
   i∈Region.ready md ops listed->YieldsIf P ops S oi v a->S w →
   Hw P md ops Q S fin fuel (listed.setIfInBounds i true) (a.put oi.dst v) w->Hw P md ops Q S fin (fuel+1) listed a w:=by
 intro fuel
 induction fuel with
 | zero =>
  intro listed a w _ _ hr hy hS H
  refine ⟨fun h=>(by rw [h] at hr;cases hr),fun j hj=>?_⟩
  by_cases hji:j=i
  ·subst hji;exact hy.wpOp hi hS ⟨fun _=>hS,H⟩
  ·have:=ready_mono hj hji
   rw [H.1] at this
   cases this
 | succ fuel ih =>
  intro listed a w hfree vX hr hy hS H
  refine ⟨fun h=>(by rw [h] at hr;cases hr),fun j hj=>?_⟩
  by_cases hji:j=i
  ·subst hji;exact hy.wpOp hi hS ⟨fun _=>hS,H⟩
  ·have h1:=H.2 j (ready_mono hj hji)
   obtain ⟨hjun,oj,hoj,hall⟩:=mem_ready.1 hj
   have hnot:∀e∈oj.after,Region.binds md e=true->e.on≠i:=fun e he hb heq=>by
    have h1:=hall e he hb
    have h0:=(mem_ready.1 hr).1
    rw [heq] at h1
    rcases Nat.lt_or_ge i listed.size with h'|h'
    ·simp [h'] at h0 h1;rw [h0] at h1;cases h1
    ·simp [Array.getElem?_eq_none h'] at h1
   have hjC:j∉C:=fun hjC=>by
    obtain ⟨e,he,hb,heq⟩:=hC j hjC oj hoj
    rcases heq with heq|heq
    ·exact hnot e he hb heq
    ·have h1:=hall e he hb
     have h0:=vX _ heq
     rcases Nat.lt_or_ge e.on listed.size with h'|h'
     ·simp [h'] at h0 h1;rw [h0] at h1;cases h1
     ·simp [Array.getElem?_eq_none h'] at h1
   have hfin:fin.contains j=false:=by
    cases hc:fin.contains j with
    | false=>rfl
    | true=>exact absurd (hn j hc) hjC
   have ADZ:∀k∈C,(listed.setIfInBounds j true).getD k true=false:=fun k hk=>by
    rw [getD_set_ne true (show ¬j=k by rintro rfl;exact hjC hk)]
    exact vX k hk
   have h2:=wpOp_putIf hoj (hfree j oj hoj hji hjun hnot) (fun cs b=>hsel i oi cs b hi) (fun cs b=>hsel j oj cs b hoj) hQ hy h1
   have hfree':∀k ok,ops[k]? = some ok->k≠i->(listed.setIfInBounds j true).getD k true=false →
     (∀e∈ok.after,Region.binds md e=true->e.on≠i)->oi.apart ops ok=true:=fun k ok hk hki hun hno=>by
    refine hfree k ok hk hki ?_ hno
    by_cases hjk:j=k
    ·subst hjk;exact hjun
    ·rw [getD_set_ne true hjk] at hun;exact hun
   refine wpOp_mono (fun a' w' h3=>⟨h3.2.1,ih (listed.setIfInBounds j true) a' w' hfree' ADZ (ready_mono hr (Ne.symm hji)) h3.1 (h3.2.1 hfin) ?_⟩) h2
   rw [Array.setIfInBounds_comm _ _ hji]
   exact h3.2.2
theorem OH {i:Nat} {oi:Oper} {v:Value} {fuel:Nat} {listed:Array Bool} {a:Act} {w:World} (hi:ops[i]? = some oi) (hn:waited md ops fin i listed=true)
  (hs:Region.noSelect ops=true) (hf:Region.free md ops listed i=true) (hr:(Region.ready md ops listed).contains i=true)
  (hQ:∀c a w,Q (.panic c) (a.put oi.dst v) w->Q (.panic c) a w) (hy:YieldsIf P ops S oi v a) (hS:S w)
  (h:Hw P md ops Q S fin fuel (listed.setIfInBounds i true) (a.put oi.dst v) w):Hw P md ops Q S fin (fuel+1) listed a w :=
 Tf hi (behind md ops i) (KH hn).1 (KH hn).2.2 (Region.noSelect_spec hs) hQ fuel listed a w (Region.free_spec hi hf) (KH hn).2.1 (by simpa using hr) hy hS h
def JY (md:Region.Mode) (ops:Array Oper) (fin:List Nat):List (Bool×Nat)->Array Bool->Bool
 | [],listed=>(Region.ready md ops listed).isEmpty
 | (true,i)::r,listed=>waited md ops fin i listed&&Region.free md ops listed i&&(Region.ready md ops listed).contains i&&JY md ops fin r (listed.setIfInBounds i true)
 | (false,i)::r,listed=>(Region.ready md ops listed == [i])&&JY md ops fin r (listed.setIfInBounds i true)
def Gt (P:Program) (ops:Array Oper) (Q:Exit->Act->World->Prop) (S:World->Prop) (fin:List Nat):List (Bool×Nat)->Act->World->Prop
 | [],a,w=>Q .normal a w
 | (true,i)::r,a,w=>S w∧∃o v,ops[i]? = some o/\YieldsIf P ops S o v a/\Gt P ops Q S fin r (a.put o.dst v) w
 | (false,i)::r,a,w => ∃o,ops[i]? = some o/\wpList P ops (Exit.then (fun a' w'=>(fin.contains i=false->S w')/\Gt P ops Q S fin r a' w') Q) [o] a w
theorem JE {a:Act} {w:World} (h:Q .normal a w):Gt P ops Q S fin [] a w:=h
def nth {α:Type} : List α->Nat->Option α
 | [],_=>none
 | x::_,0=>some x
 | _::l,n+1=>nth l n
theorem EL {α:Type} : ∀(l:List α) (n:Nat),nth l n=l[n]?
 | [],n=>by simp [nth]
 | x::l,0=>by simp [nth]
 | x::l,n+1=>by simp [nth,EL l n]
theorem JZ {i:Nat} {o:Oper} (h:nth ops.toList i=some o):ops[i]? = some o:=by rw [EL] at h;simpa using h
theorem El {i:Nat} {r:List (Bool×Nat)} {o:Oper} {v:Value} {a:Act} {w:World} (hS:S w) (ho:nth ops.toList i=some o) (hw:Region.wanted o (yielded ops a.tmps)=true)
  (hy:∀w,S w->(execOp a.eval o).run P w = .ok (.value v) w) (h:Gt P ops Q S fin r (a.put o.dst v) w):Gt P ops Q S fin ((true,i)::r) a w:=⟨hS,o,v,JZ ho,.inl ⟨hw,hy⟩,h⟩
theorem Tg {i:Nat} {r:List (Bool×Nat)} {o:Oper} {a:Act} {w:World} (hS:S w) (ho:nth ops.toList i=some o) (hw:Region.wanted o (yielded ops a.tmps)=false)
  (h:Gt P ops Q S fin r (a.put o.dst undef) w):Gt P ops Q S fin ((true,i)::r) a w:=⟨hS,o,undef,JZ ho,.inr ⟨hw,rfl⟩,h⟩
theorem MS {i:Nat} {r:List (Bool×Nat)} {o:Oper} {a:Act} {w:World} (ho:nth ops.toList i=some o)
  (h:∀K:Act->World->Prop,(∀a' w',(fin.contains i=false->S w')->Gt P ops Q S fin r a' w'→K a' w')->wpList P ops (Exit.then K Q) [o] a w):Gt P ops Q S fin ((false,i)::r) a w :=
 ⟨o,JZ ho,h _ fun a' w' h1 h2=>⟨h1,h2⟩⟩
theorem Ja {i:Nat} {o:Oper} {K:Act->World->Prop} {a:Act} {w:World} (ho:ops[i]? = some o) (h:wpList P ops (Exit.then K Q) [o] a w):wpOp P ops Q i K a w:=by
 unfold wpOp
 simp only [ho]
 unfold wpList at h
 split
 ·rename_i hw
  rw [if_pos hw] at h
  rcases h with h|h
  ·refine .inl ?_
   unfold Oper.wp at *
   generalize (execOp a.eval o).run P w=res at *
   cases res with
   | ok n w' =>
    cases n<;>simp only [Oper.upon] at h ⊢<;>first
     | exact h
     | exact Calls.mono h (fun e w'' he=>by cases e<;>exact he)
     | exact Rows.mono h (fun _ _ he=>he)
   | halt x w'=>cases x<;>simp only [Oper.upon] at h ⊢<;>exact h
  ·exact .inr h
 ·rename_i hw
  rw [if_neg hw] at h
  exact h
theorem Ls (hs:Region.noSelect ops=true) (hQ:∀c d v (a:Act) w,Q (.panic c) (a.put d v) w->Q (.panic c) a w) :
  ∀(p:List (Bool×Nat)) (listed:Array Bool) (a:Act) (w:World),JY md ops fin p listed=true->Gt P ops Q S fin p a w->Hw P md ops Q S fin p.length listed a w
 | [],listed,a,w,hp,h=>⟨by simpa [JY] using hp,h⟩
 | (true,i)::r,listed,a,w,hp,h=>by
  simp only [JY,Bool.and_eq_true] at hp
  obtain ⟨⟨⟨h1,h2⟩,h3⟩,h4⟩:=hp
  obtain ⟨hS,o,v,ho,hy,hr⟩:=h
  exact OH ho h1 hs h2 h3 (fun c a w=>hQ c _ _ a w) hy hS (Ls hs hQ r _ _ _ h4 hr)
 | (false,i)::r,listed,a,w,hp,h=>by
  simp only [JY,Bool.and_eq_true,beq_iff_eq] at hp
  obtain ⟨h1,h2⟩:=hp
  obtain ⟨o,ho,hl⟩:=h
  refine ⟨fun h0=>(by rw [h0] at h1;cases h1),fun j hj=>?_⟩
  rw [h1] at hj
  obtain rfl:j=i:=by simpa using hj
  exact wpOp_mono (fun a' w' h'=>⟨h'.1,Ls hs hQ r _ _ _ h2 h'.2⟩) (Ja ho hl)
theorem Em {id:Nat} {a:Act} {w:World} (p:List (Bool×Nat)) (S:World->Prop) (fin:List Nat) (hm:P.follows .mixedOrders=true) (hs:Region.noSelect ops=true)
  (hp:JY .any ops fin p (Array.replicate ops.size false)=true) (hz:p.length=ops.size) (hQ:∀c d v (a:Act) w,Q (.panic c) (a.put d v) w->Q (.panic c) a w)
  (h:Gt P ops Q S fin p a w.drew):(Code.region id ops true).wp P Q a w :=
 wp_region_any hm (Ga _ _ _ _ (by rw [<-hz];exact Ls hs hQ p _ _ _ (by rw [hz];exact hp) h))
end
open Go.RowKit Go.Shelf
inductive Ai where
 | blk (b:Nat) (t:TypeId) (cs:List Value)
 | row (v:Value) (t:TypeId) (size n:Nat) (xs:List Value)
 | dat (foot:List Nat) (holds:World->Prop) (loc:∀w w':World,(∀b∈foot,w'.heap[b]? = w.heap[b]?)->holds w->holds w')
def Ai.foot:Ai->List Nat
 | .blk b _ _=>[b]
 | .row v _ _ _ _=>v.ownBlock.toList
 | .dat f _ _=>f
def Ai.holds (w:World):Ai->Prop
 | .blk b t cs=>w.heap[b]? = some (.cells cs.toArray t (0,0))
 | .row v t size n xs=>w.ownsRow 0 t size v n xs
 | .dat _ h _=>h w
structure Gf (M:List Nat) (W w:World):Prop where
 os:w.os=W.os
 tape:w.tape=W.tape
 output:w.output=W.output
 size:W.heap.size<=w.heap.size
 block:∀k,k<W.heap.size->k∉M->w.heap[k]? = W.heap[k]?
structure St (M:List Nat) (W:World) (L:List Ai) (w:World):Prop where
 Bz:Gf M W w
 holds:∀r∈L,r.holds w
 own:∀r∈L,∀b∈r.foot,(W.heap.size<=b\/b∈M)/\b<w.heap.size
 apart:L.Pairwise (fun r s => ∀b∈r.foot,b∉s.foot)
theorem Ai.keep {w w':World} (r:Ai) (h:r.holds w) (hk:∀b∈r.foot,w'.heap[b]? = w.heap[b]?):r.holds w':=by
 cases r with
 | blk b t cs=>exact (hk b (by simp [Ai.foot])).trans h
 | row v t size n xs =>
  refine ⟨h.1, ?_⟩
  rcases h.2 with hn|⟨g,cap,cur,rfl,h1,h2,h3⟩
  ·exact .inl hn
  ·exact .inr ⟨g,cap,cur,rfl,h1,(hk g (by simp [Ai.foot,Value.ownBlock])).trans h2,h3⟩
 | dat f p loc=>exact loc w w' hk h
section
variable {M:List Nat} {W w w':World} {L L':List Ai}
theorem Gf.refl (M:List Nat) (W:World):Gf M W W:=⟨rfl,rfl,rfl,Nat.le_refl _,fun _ _ _=>rfl⟩
theorem Gf.below (h:Gf [] W w):Below W.heap.size W w:=⟨h.os,h.tape,h.output,h.size,fun k hk=>h.block k hk (by simp)⟩
theorem Below.Bz (h:Below W.heap.size W w) (M:List Nat):Gf M W w:=⟨h.os,h.tape,h.output,h.size,fun k hk _=>h.block k hk⟩
theorem St.below (h:St [] W L w):Below W.heap.size W w:=h.Bz.below
theorem St.nil (M:List Nat) (W:World):St M W [] W:=⟨Gf.refl _ _,by simp,by simp,List.Pairwise.nil⟩
theorem St.drew (h:St M W L w):St M W L w.drew :=
 ⟨⟨h.Bz.os,h.Bz.tape,h.Bz.output,h.Bz.size,h.Bz.block⟩,fun r hr=>r.keep (h.holds r hr) (fun _ _=>rfl),h.own,h.apart⟩
theorem St.quiet (h:St M W L w) (hb:Below w.heap.size w w'):St M W L w' :=
 ⟨⟨hb.os.trans h.Bz.os,hb.tape.trans h.Bz.tape,hb.output.trans h.Bz.output,Nat.le_trans h.Bz.size hb.size,fun k hk hm=>(hb.block k (Nat.lt_of_lt_of_le hk h.Bz.size)).trans (h.Bz.block k hk hm)⟩,
  fun r hr=>r.keep (h.holds r hr) (fun b hbf=>hb.block b (h.own r hr b hbf).2),
  fun r hr b hbf=>⟨(h.own r hr b hbf).1,Nat.lt_of_lt_of_le (h.own r hr b hbf).2 hb.size⟩,h.apart⟩
theorem St.sub (h:St M W L w) (hs:L'.Sublist L):St M W L' w :=
 ⟨h.Bz,fun r hr=>h.holds r (hs.subset hr),fun r hr=>h.own r (hs.subset hr),h.apart.sublist hs⟩
theorem St.perm (h:St M W L w) (hs:L'.Perm L):St M W L' w :=
 ⟨h.Bz,fun r hr=>h.holds r (hs.subset hr),fun r hr=>h.own r (hs.subset hr),(hs.symm.pairwise h.apart (by
  intro r s hrs b hb hb'
  exact hrs b hb' hb))⟩
theorem St.tail {r:Ai} (h:St M W (r::L) w):St M W L w:=h.sub (List.sublist_cons_self _ _)
theorem St.add (h:St M W L w) (r:Ai) (hr:r.holds w) (hf:∀b∈r.foot,(W.heap.size<=b\/b∈M)/\b<w.heap.size) (ha:∀s∈L,∀b∈r.foot,b∉s.foot):St M W (r::L) w :=
 ⟨h.Bz,by
  intro s hs
  rcases List.mem_cons.1 hs with rfl|hs
  ·exact hr
  ·exact h.holds s hs,by
  intro s hs
  rcases List.mem_cons.1 hs with rfl|hs
  ·exact hf
  ·exact h.own s hs,List.pairwise_cons.2 ⟨ha,h.apart⟩⟩
theorem St.alloc (h:St M W L w) (t:TypeId) (cs:List Value):St M W (.blk w.heap.size t cs::L) (w.alloc (.cells cs.toArray t)):=by
 have hb:Below w.heap.size w (w.alloc (.cells cs.toArray t)):=(Below.refl _ _).alloc (Nat.le_refl _) _
 refine (h.quiet hb).add _ (heap_alloc_new w _) ?_ ?_
 ·intro b hbf
  obtain rfl:b=w.heap.size:=by simpa [Ai.foot] using hbf
  exact ⟨.inl h.Bz.size,by simp⟩
 ·intro s hs b hbf hbs
  obtain rfl:b=w.heap.size:=by simpa [Ai.foot] using hbf
  exact absurd (h.own s hs _ hbs).2 (Nat.lt_irrefl _)
theorem St.Xv (h:St M W L w) (o:Obj):St M W L (w.alloc o):=h.quiet ((Below.refl _ _).alloc (Nat.le_refl _) _)
theorem St.Dz {b:Nat} {t:TypeId} {cs:List Value} (h:St M W L w) (hm:Ai.blk b t cs∈L) (i:Nat):w.cell? ⟨b,i,none⟩=cs[i]? := by
 rw [cell_of_row w b i cs.toArray t (0,0) (h.holds _ hm)]
 simp
theorem St.base {k:Nat} (h:St M W L w) (hk:k<W.heap.size) (hm:k∉M):w.heap[k]? = W.heap[k]? := h.Bz.block k hk hm
theorem St.FX {a:Addr} (h:St M W L w) (hk:a.block<W.heap.size) (hm:a.block∉M):w.cell? a=W.cell? a:=World.cell?_of_block (h.base hk hm)
def look:List Ai->Nat->Option (List Value)
 | [],_=>none
 | .blk b _ cs::L,k=>if b=k then some cs else look L k
 | .row _ _ _ _ _::L,k=>look L k
 | .dat _ _ _::L,k=>look L k
def FK:List Ai->Nat->List Value->List Ai
 | [],_,_=>[]
 | .blk b t cs::L,k,us=>if b=k then .blk b t us::L else .blk b t cs::FK L k us
 | .row v t s n xs::L,k,us=>.row v t s n xs::FK L k us
 | .dat f p l::L,k,us=>.dat f p l::FK L k us
theorem Hy:∀ {L:List Ai} {k:Nat} {cs:List Value},look L k=some cs→∃t,Ai.blk k t cs∈L
 | .blk b t cs'::L,k,cs,h=>by
  simp only [look] at h
  split at h
  ·rename_i hb
   subst hb
   cases h
   exact ⟨t,by simp⟩
  ·obtain ⟨t,ht⟩:=Hy h
   exact ⟨t,List.mem_cons_of_mem _ ht⟩
 | .row _ _ _ _ _::L,k,cs,h=>by obtain ⟨t,ht⟩:=Hy (L:=L) h;exact ⟨t,List.mem_cons_of_mem _ ht⟩
 | .dat _ _ _::L,k,cs,h=>by obtain ⟨t,ht⟩:=Hy (L:=L) h;exact ⟨t,List.mem_cons_of_mem _ ht⟩
theorem Jb:∀ {L:List Ai} {k:Nat} {cs us:List Value},look L k=some cs→∃t A B,L=A++Ai.blk k t cs::B/\FK L k us=A++Ai.blk k t us::B
 | .blk b t cs'::L,k,cs,us,h=>by
  simp only [look] at h
  split at h
  ·rename_i hb
   subst hb
   cases h
   exact ⟨t,[],L,rfl,by simp [FK]⟩
  ·rename_i hb
   obtain ⟨t',A,B,h1,h2⟩:=Jb (us:=us) h
   exact ⟨t',.blk b t cs'::A,B,by rw [h1];rfl,by simp only [FK,if_neg hb,h2];rfl⟩
 | .row v t s n xs::L,k,cs,us,h=>by
  obtain ⟨t',A,B,h1,h2⟩:=Jb (L:=L) (us:=us) h
  exact ⟨t',.row v t s n xs::A,B,by rw [h1];rfl,by simp only [FK,h2];rfl⟩
 | .dat f p l::L,k,cs,us,h=>by
  obtain ⟨t',A,B,h1,h2⟩:=Jb (L:=L) (us:=us) h
  exact ⟨t',.dat f p l::A,B,by rw [h1];rfl,by simp only [FK,h2];rfl⟩
theorem St.write {b:Nat} {t:TypeId} {cs us:List Value} {A B:List Ai} (h:St M W (A ++ .blk b t cs::B) w)
  (hp:∀k,k≠b->w'.heap[k]? = w.heap[k]?) (hb:w'.heap[b]? = some (.cells us.toArray t (0,0))) (hs:w'.heap.size=w.heap.size) (ho:w'.os=w.os) (ht:w'.tape=w.tape) (hu:w'.output=w.output) :
  St M W (A ++ .blk b t us::B) w':=by
 have hmem:Ai.blk b t cs∈A ++ .blk b t cs::B:=by simp
 have Zv:=h.own _ hmem b (by simp [Ai.foot])
 have hap:=h.apart
 have PU:∀r∈A++B,b∉r.foot:=by
  intro r hr hbr
  rw [List.pairwise_append] at hap
  rcases List.mem_append.1 hr with hr|hr
  ·exact hap.2.2 r hr (.blk b t cs) (by simp) b hbr (by simp [Ai.foot])
  ·exact (List.pairwise_cons.1 hap.2.1).1 r hr b (by simp [Ai.foot]) hbr
 refine ⟨⟨ho.trans h.Bz.os,ht.trans h.Bz.tape,hu.trans h.Bz.output,by rw [hs];exact h.Bz.size,fun k hk hm=>?_⟩, ?_, ?_, ?_⟩
 ·rw [hp k (by
   rintro rfl
   rcases Zv.1 with h1|h1
   ·omega
   ·exact hm h1)]
  exact h.Bz.block k hk hm
 ·intro r hr
  rcases List.mem_append.1 hr with hr1|hr1
  ·exact r.keep (h.holds r (by simp [hr1])) (fun c hc=>hp c (fun e=>PU r (by simp [hr1]) (e▸hc)))
  ·rcases List.mem_cons.1 hr1 with rfl|hr1
   ·exact hb
   ·exact r.keep (h.holds r (by simp [hr1])) (fun c hc=>hp c (fun e=>PU r (by simp [hr1]) (e▸hc)))
 ·intro r hr c hc
  rw [hs]
  rcases List.mem_append.1 hr with hr1|hr1
  ·exact h.own r (by simp [hr1]) c hc
  ·rcases List.mem_cons.1 hr1 with rfl|hr1
   ·exact h.own _ hmem c hc
   ·exact h.own r (by simp [hr1]) c hc
 ·rw [List.pairwise_append] at hap ⊢
  rw [List.pairwise_cons] at hap ⊢
  refine ⟨hap.1,⟨fun r hr c hc=>hap.2.1.1 r hr c hc,hap.2.1.2⟩,fun r hr s hs=>?_⟩
  rcases List.mem_cons.1 hs with rfl|hs
  ·exact hap.2.2 r hr (.blk b t cs) (by simp)
  ·exact hap.2.2 r hr s (by simp [hs])
end
abbrev Fr:=Nat->Value
def upd (F:Fr) (d:Nat) (v:Value):Fr:=fun i=>if i=d then v else F i
def D7 (F:Fr) (d:Option Nat) (v:Value):Fr:=match d with|some d=>upd F d v|none=>F
def d_ (vs:List Value):Fr:=fun i=>vs.getD i undef
theorem NT (F:Fr) (d:Nat) (v:Value) (i:Nat):upd F d v i=if i=d then v else F i:=rfl
theorem R6 (F:Fr) (d:Nat) (v:Value):D7 F (some d) v=upd F d v:=rfl
theorem R7 (F:Fr) (v:Value):D7 F none v=F:=rfl
theorem U9 (v:Value) (vs:List Value):d_ (v::vs) 0=v:=rfl
theorem U_ (v:Value) (vs:List Value) (n:Nat):d_ (v::vs) (n+1)=d_ vs n:=rfl
theorem Yq (n:Nat):d_ [] n=undef:=rfl
def ev (F:Fr):Operand->Value
 | .tmp t=>F t
 | .const v=>v
 | .global g=>.pointer (some ⟨g,0,none⟩)
 | .func f=>.func (.func f) #[] #[]
structure Gu (n:Nat) (a:Act) (F:Fr):Prop where
 defers:a.defers=[]
 size:a.tmps.size=n
 get:∀i,a.tmps.getD i undef=F i
theorem Gu.eval {n:Nat} {a:Act} {F:Fr} (h:Gu n a F):a.eval=ev F:=by
 funext x
 cases x with
 | tmp t=>exact h.get t
 | const v=>rfl
 | global g=>rfl
 | func f=>rfl
def OI (n:Nat):Option Nat->Prop
 | none=>True
 | some d=>d<n
theorem Gu.put {n:Nat} {a:Act} {F:Fr} (h:Gu n a F) {d:Option Nat} (hd:OI n d) (v:Value):Gu n (a.put d v) (D7 F d v):=by
 cases d with
 | none=>exact h
 | some d =>
  refine ⟨h.defers,by simp [Act.put,h.size],fun i=>?_⟩
  have hd':d<a.tmps.size:=by rw [h.size];exact hd
  simp only [Act.put,D7,upd]
  by_cases e:i=d
  ·subst e
   simp [hd']
  ·rw [if_neg e,<-h.get i]
   simp [Ne.symm e]
def Xw:TypeDesc->Bool
 | .struct _ | .array _ _=>true
 | _=>false
def Dk (P:Program) (t:TypeId):Option (Bool×Nat) :=
 match P.underlying t,P.info? t with
 | some d,some i=>some (Xw d,i.size)
 | _,_=>none
def CY (P:Program) (t:TypeId):Option (List Value) :=
 match P.info? t with
 | some i=>i.zero.map (·.cells.toList)
 | none=>none
def KC (P:Program) (t:TypeId):Option (TypeId×Nat) :=
 match P.underlying t with
 | some (.slice e)=>(P.info? e).map fun i=>(e,i.size)
 | _=>none
def CL (P:Program) (s:TypeId) (f:Nat):Option Nat :=
 match P.underlying s with
 | some (.struct fs)=>match fs[f]? with
  | some fd=>match P.info? fd.type with
   | some i=>if i.size=0 then none else some fd.offset
   | none=>none
  | none=>none
 | _=>none
def Jc (P:Program) (t:TypeId):Option IntKind :=
 match P.underlying t with
 | some (.int k)=>some k
 | _=>none
def Eo (P:Program) (t:TypeId):Option (Nat×Nat) :=
 match P.underlying t with
 | some (.array n e)=>(P.info? e).map fun i=>(n,i.size)
 | _=>none
def Bt (P:Program) (t:TypeId):Nat :=
 match P.underlying t with
 | some .bool=>1
 | some (.pointer _)=>2
 | some (.slice _)=>3
 | some .string=>4
 | _=>0
theorem PW {P:Program} {t:TypeId} (h:Bt P t=1):P.underlying t=some .bool:=by
 unfold Bt at h
 split at h<;>first|assumption|cases h
theorem R8 {P:Program} {t:TypeId} (h:Bt P t=2):P.underlying t=some (.pointer (P.pointee t)):=by
 unfold Bt at h
 split at h<;>first|(rename_i e he;simp [Program.pointee,he];done)|cases h
theorem KI {P:Program} {t:TypeId} (h:Bt P t=3):P.underlying t=some (.slice (P.elem t)):=by
 unfold Bt at h
 split at h<;>first|(rename_i e he;simp [Program.elem,he];done)|cases h
inductive PV where
 | need (p:Prop) (v:Value)
 | no
def Ol (op:BinOp) (a b:Int):Bool :=
 match op with
 | .eql=>decide (a=b)
 | .neq => !decide (a=b)
 | .lss=>decide (a<b)
 | .leq=>decide (a<=b)
 | .gtr=>decide (b<a)
 | .geq=>decide (b<=a)
 | _=>false
def GM:List Value->List Value->Option Bool
 | [],[]=>some true
 | .int k a::xs,.int k' b::ys=>if k=k' then (GM xs ys).map fun r=>decide (a=b)&&r else none
 | _,_=>none
def MU (P:Program):Nat->List Field->Bool
 | _,[]=>true
 | i, f :: fs => f.name != "_" && f.offset == i && (Dk P f.type == some (false, 1)) && (Jc P f.type).isSome && MU P (i + 1) fs
def Om (P:Program) (t:TypeId):Option Nat :=
 match P.underlying t with
 | some (.struct fs)=>if MU P 0 fs.toList && !P.stoodInHeld t && !P.eqGuardType P.depth t then some fs.size else none
 | _=>none
def Ao (P:Program) (op:BinOp) (t:TypeId) (x y:Value):PV :=
 match op with
 | .add=>match x,y with
  | .int k a,.int k' b=>.need (k=k') (.int k (k.wrap (a+b)))
  | .string a,.string b=>.need (a.size+b.size<=9223372036854775807) (.string (a++b))
  | _,_=>.no
 | .sub=>match x,y with | .int k a,.int k' b=>.need (k=k') (.int k (k.wrap (a-b)))|_,_=>.no
 | .mul=>match x,y with | .int k a,.int k' b=>.need (k=k') (.int k (k.wrap (a*b)))|_,_=>.no
 | .quo=>match x,y with | .int k a,.int k' b=>.need (k=k'∧b≠0) (.int k (k.wrap (a.tdiv b)))|_,_=>.no
 | .rem=>match x,y with | .int k a,.int k' b=>.need (k=k'∧b≠0) (.int k (a.tmod b))|_,_=>.no
 | .and=>match x,y with | .int k a,.int k' b=>.need (k=k') (.int k (bits .and k a b))|_,_=>.no
 | .or=>match x,y with | .int k a,.int k' b=>.need (k=k') (.int k (bits .or k a b))|_,_=>.no
 | .xor=>match x,y with | .int k a,.int k' b=>.need (k=k') (.int k (bits .xor k a b))|_,_=>.no
 | .andNot=>match x,y with | .int k a,.int k' b=>.need (k=k') (.int k (bits .andNot k a b))|_,_=>.no
 | .shl=>match x,y with | .int k a,.int k' b=>.need (0<=b/\b<=k.bits) (.int k (k.wrap (a*2 ^ b.toNat)))|_,_=>.no
 | .shr=>match x,y with | .int k a,.int k' b=>.need (0<=b/\b<=k.bits) (.int k (a / 2 ^ b.toNat))|_,_=>.no
 | .eql=>match x,y with
  | .int k a,.int k' b=>.need (k=k') (.bool (decide (a=b)))
  | .bool a,.bool b=>.need (Bt P t=1) (.bool (a == b))
  | .string a,.string b=>.need True (.bool (a.toList == b.toList))
  | .pointer a,.pointer none=>.need (Bt P t=2) (.bool a.isNone)
  | .slice a n c,.slice none 0 0=>.need (Bt P t=3) (.bool a.isNone)
  | .agg xs,.agg ys=>match Om P t,GM xs.toList ys.toList with
   | some n,some r=>.need (xs.size=n/\ys.size=n) (.bool r)
   | _,_=>.no
  | _,_=>.no
 | .neq=>match x,y with
  | .int k a,.int k' b=>.need (k=k') (.bool (!decide (a=b)))
  | .bool a,.bool b=>.need (Bt P t=1) (.bool (!(a == b)))
  | .string a,.string b=>.need True (.bool (!(a.toList == b.toList)))
  | .pointer a,.pointer none=>.need (Bt P t=2) (.bool a.isSome)
  | .slice a n c,.slice none 0 0=>.need (Bt P t=3) (.bool a.isSome)
  | .agg xs,.agg ys=>match Om P t,GM xs.toList ys.toList with
   | some n,some r=>.need (xs.size=n/\ys.size=n) (.bool (!r))
   | _,_=>.no
  | _,_=>.no
 | .lss=>match x,y with | .int k a,.int k' b=>.need (k=k') (.bool (decide (a<b)))|_,_=>.no
 | .leq=>match x,y with | .int k a,.int k' b=>.need (k=k') (.bool (decide (a<=b)))|_,_=>.no
 | .gtr=>match x,y with | .int k a,.int k' b=>.need (k=k') (.bool (decide (b<a)))|_,_=>.no
 | .geq=>match x,y with | .int k a,.int k' b=>.need (k=k') (.bool (decide (b<=a)))|_,_=>.no
theorem MV (P:Program) (w:World) (d:Nat):∀(fs:List Field) (i:Nat) (xs ys:Array Value) (r:Bool),MU P i fs=true->xs.size=i+fs.length->ys.size=i+fs.length →
  GM (xs.toList.drop i) (ys.toList.drop i)=some r->(Op.eqFields (d+1) xs ys fs).run P w = .ok r w
 | [],i,xs,ys,r,_,hx,hy,h=>by
  have e1:xs.toList.drop i=[]:=List.drop_eq_nil_of_le (by simp at hx ⊢;omega)
  have e2:ys.toList.drop i=[]:=List.drop_eq_nil_of_le (by simp at hy ⊢;omega)
  rw [e1,e2] at h
  simp only [GM,Option.some.injEq] at h
  subst h
  simp [Op.eqFields]
 | f::fs,i,xs,ys,r,hf,hx,hy,h=>by
  simp only [MU,Bool.and_eq_true,bne_iff_ne,beq_iff_eq] at hf
  obtain ⟨⟨⟨⟨h1,h2⟩,h3⟩,h4⟩,h5⟩:=hf
  simp only [List.length_cons] at hx hy
  have lx:i<xs.size:=by omega
  have ly:i<ys.size:=by omega
  have q1:xs.toList.drop i=xs[i]::xs.toList.drop (i+1):=by rw [List.drop_eq_getElem_cons (by simpa using lx)];simp
  have q2:ys.toList.drop i=ys[i]::ys.toList.drop (i+1):=by rw [List.drop_eq_getElem_cons (by simpa using ly)];simp
  rw [q1,q2] at h
  clear q1 q2
  generalize hxi:xs[i]=u at h
  generalize hyi:ys[i]=v at h
  cases u<;>try (simp [GM] at h;done)
  cases v<;>try (simp [GM] at h;done)
  rename_i k a k' b
  simp only [GM] at h
  split at h
  case isFalse=>cases h
  rename_i hkk
  subst hkk
  obtain ⟨r',hr',rfl⟩:=Option.map_eq_some_iff.1 h
  obtain ⟨ki,hki⟩:=Option.isSome_iff_exists.1 h4
  have hu:P.underlying f.type=some (.int ki):=by
   unfold Jc at hki
   split at hki
   ·rename_i k0 hk0;rw [hk0];injection hki with hki;rw [hki]
   ·cases hki
  have hsz:(sizeOf f.type).run P w = .ok 1 w:=by
   unfold Dk at h3
   split at h3
   ·rename_i d0 i0 hd0 hi0
    simp only [Option.some.injEq,Prod.mk.injEq] at h3
    simp [sizeOf,typeInfo,hi0,h3.2]
   ·cases h3
  have hagg:(isAgg f.type).run P w = .ok false w:=by
   simp [isAgg,run_underlying hu]
  have p1:∀(zs:Array Value) (hz:i<zs.size),(part f.type zs f.offset).run P w = .ok zs[i] w:=by
   intro zs hz
   simp [part,h2,hsz,hagg,hz]
  have ih:=MV P w d fs (i+1) xs ys r' h5 (by omega) (by omega) hr'
  have hq:(Op.equalIn (d+1) f.type (.int k a) (.int k b)).run P w = .ok (a == b) w:=by simp [Op.equalIn,run_underlying hu]
  simp only [Op.eqFields,h1,ne_eq,not_false_eq_true,if_true,Sem.run_bind,p1 xs lx,p1 ys ly,Result.andThen_ok,hxi,hyi,hq,Sem.run_ite]
  by_cases hab:a=b
  ·subst hab;simpa using ih
  ·simp [hab]
theorem PX {P:Program} (w:World) {t:TypeId} {xs ys:Array Value} {n:Nat} {r:Bool} (h:Om P t=some n) (hx:xs.size=n) (hy:ys.size=n) (hr:GM xs.toList ys.toList=some r) (x y:Operand) (op:BinOp) (hop:op = .eql\/op = .neq) :
  (do eqGuard op t x y (.agg xs) (.agg ys);binOp op t (.agg xs) (.agg ys):Sem Value).run P w = .ok (.bool (if op = .eql then r else !r)) w:=by
 unfold Om at h
 split at h
 ·rename_i fs hfs
  split at h
  ·rename_i hc
   simp only [Bool.and_eq_true,Bool.not_eq_true'] at hc
   injection h with h
   subst h
   have hf:P.fieldsOf t=fs:=by simp [Program.fieldsOf,hfs]
   have hg:=run_eqGuard_agg (P:=P) w op t x y xs ys hc.2
   have he:(Op.equalIn 10000 t (.agg xs) (.agg ys)).run P w = .ok r w:=by
    rw [run_equalIn_struct (P:=P) w 9999 t xs ys (by rw [hf];exact hfs) hc.1.2,hf]
    exact MV P w 9998 fs.toList 0 xs ys r hc.1.1 (by simpa using hx) (by simpa using hy) (by simpa using hr)
   rcases hop with rfl|rfl
   ·simp [Sem.run_bind,hg,run_eql_struct,he]
   ·simp [Sem.run_bind,hg,run_neq_struct,he]
  ·cases h
 ·cases h
theorem CQ {α:Type} {P:Program} {w:World} {s:Sem α} {u:Sem Unit} (h:u=pure ()):(do u;s).run P w=s.run P w:=by rw [h];simp
theorem Xx {P:Program} {op:BinOp} {t:TypeId} {x y v:Value} {p:Prop} (h:Ao P op t x y = .need p v) (hp:p) (X Y:Operand) (w:World) :
  (do eqGuard op t X Y x y;binOp op t x y:Sem Value).run P w = .ok v w:=by
 cases op
 case eql =>
  simp only [Ao] at h
  split at h
  ·cases h;subst hp;simp [eqGuard_at_int,binOp_eql];rfl
  ·cases h
   rw [CQ (eqGuard_at_bool _ _ _ _ _ _)]
   exact run_eql_bool w t _ _ (PW hp)
  ·cases h;simp [eqGuard_at_string,binOp,Op.stringOp,beq_toListBytes]
  ·cases h
   rw [CQ (eqGuard_at_pointer _ _ _ _ _ _)]
   exact run_eql_pointer_nil w t _ (R8 hp)
  ·cases h
   rw [CQ (eqGuard_at_slice _ _ _ _ _ _ _ _)]
   exact Lib.run_eql_slice_nil w t _ _ _ _ 0 0 (KI hp)
  ·split at h
   ·cases h
    rw [PX w ‹_› hp.1 hp.2 ‹_› X Y .eql (.inl rfl)]
    rfl
   ·cases h
  ·cases h
 case neq =>
  simp only [Ao] at h
  split at h
  ·cases h;subst hp;rw [CQ (eqGuard_at_int _ _ _ _ _ _ _),binOp_neq];simp [bne];rfl
  ·cases h
   rw [CQ (eqGuard_at_bool _ _ _ _ _ _)]
   exact run_neq_bool w t _ _ (PW hp)
  ·cases h;simp [eqGuard_at_string,binOp,Op.stringOp,beq_toListBytes]
  ·cases h
   rw [CQ (eqGuard_at_pointer _ _ _ _ _ _)]
   rw [run_neq_pointer_nil w t _ (R8 hp)]
   simp
  ·cases h
   rw [CQ (eqGuard_at_slice _ _ _ _ _ _ _ _)]
   rw [run_neq_slice_nil_any w t _ _ _ _ 0 0 (KI hp)]
   simp
  ·split at h
   ·cases h
    rw [PX w ‹_› hp.1 hp.2 ‹_› X Y .neq (.inr rfl)]
    rfl
   ·cases h
  ·cases h
 case add =>
  simp only [Ao] at h
  split at h
  ·cases h
   subst hp
   rw [CQ (eqGuard_at_int _ _ _ _ _ _ _)]
   simp only [binOp_add,Op.intArith]
   rfl
  ·rename_i a b
   cases h
   rw [CQ (eqGuard_at_string _ _ _ _ _ _)]
   have hm:IntKind.i64.max=9223372036854775807:=by decide
   have hle:¬(((a.size+b.size:Nat):Int)>IntKind.i64.max):=by rw [hm];omega
   rw [binOp_string_add]
   simp only [Op.stringOp,if_neg hle,Sem.run_pure]
  ·cases h
 case shl =>
  cases x<;>try (simp only [Ao] at h;cases h)
  cases y<;>simp only [Ao] at h<;>cases h
  rw [CQ (eqGuard_at_int _ _ _ _ _ _ _),binOp_shl,shift_shl _ _ _ _ hp.1 hp.2]
  simp
 case shr =>
  cases x<;>try (simp only [Ao] at h;cases h)
  cases y<;>simp only [Ao] at h<;>cases h
  rw [CQ (eqGuard_at_int _ _ _ _ _ _ _),binOp_shr,shift_shr _ _ _ _ hp.1 hp.2]
  simp
 case quo =>
  cases x<;>try (simp only [Ao] at h;cases h)
  cases y<;>simp only [Ao] at h<;>cases h
  obtain ⟨rfl,hb⟩:=hp
  rw [CQ (eqGuard_at_int _ _ _ _ _ _ _),binOp_quo]
  simp [Op.intDiv,hb]
 case rem =>
  cases x<;>try (simp only [Ao] at h;cases h)
  cases y<;>simp only [Ao] at h<;>cases h
  obtain ⟨rfl,hb⟩:=hp
  rw [CQ (eqGuard_at_int _ _ _ _ _ _ _),binOp_rem]
  simp [Op.intDiv,hb]
 all_goals
  cases x<;>try (simp only [Ao] at h;cases h)
  cases y<;>simp only [Ao] at h<;>cases h
  subst hp
  rw [CQ (eqGuard_at_int _ _ _ _ _ _ _)]
  first
   | (simp only [binOp_add,Op.intArith];rfl)
   | (simp only [binOp_sub,Op.intArith];rfl)
   | (simp only [binOp_mul,Op.intArith];rfl)
   | (simp only [binOp_and,intBits_and];rfl)
   | (simp only [binOp_or,intBits_or];rfl)
   | (simp only [binOp_xor,intBits_xor];rfl)
   | (simp only [binOp_andNot,intBits_andNot];rfl)
   | (simp only [binOp_lss];rfl)
   | (simp only [binOp_leq];rfl)
   | (simp only [binOp_gtr];rfl)
   | (simp only [binOp_geq];rfl)
theorem Ra (l:List Value) (m:Nat) (v:Value) (h:m<l.length):(l.set m v).take (m+1)=l.take m++[v]:=by
 rw [List.take_succ_eq_append_getElem (by simpa using h),List.getElem_set_self,List.take_set,List.set_eq_of_length_le (by simp;omega)]
theorem OJ (off:Nat):∀(vs:List Value) (j:Nat) (l:List Value),off+j+vs.length<=l.length →
  (vs.zipIdx j).foldl (fun l (x:Value×Nat)=>l.set (off+x.2) x.1) l=l.take (off+j)++vs++l.drop (off+j+vs.length)
 | [],j,l,h=>by simp
 | v::vs,j,l,h=>by
  simp only [List.length_cons] at h
  simp only [List.zipIdx_cons,List.foldl_cons]
  rw [OJ off vs (j+1) (l.set (off+j) v) (by simp;omega),<-Nat.add_assoc,Ra _ _ _ (by omega),List.drop_set_of_lt (by omega)]
  simp [List.length_cons,Nat.add_assoc,Nat.add_comm 1]
theorem Ti (off:Nat) (vs:Array Value) (cs:Array Value) (h:off+vs.size<=cs.size) :
  vs.zipIdx.foldl (fun cs (x:Value×Nat)=>cs.setIfInBounds (off+x.2) x.1) cs=(cs.toList.take off++vs.toList++cs.toList.drop (off+vs.size)).toArray:=by
 have key:∀(l:List (Value×Nat)) (cs:Array Value),(l.foldl (fun cs (x:Value×Nat)=>cs.setIfInBounds (off+x.2) x.1) cs).toList=l.foldl (fun l (x:Value×Nat)=>l.set (off+x.2) x.1) cs.toList:=by
  intro l
  induction l with
  | nil=>intro cs;rfl
  | cons x l ih=>intro cs;simp only [List.foldl_cons];rw [ih];simp
 apply Array.ext'
 rw [<-Array.foldl_toList,key,Array.toList_zipIdx,OJ off vs.toList 0 cs.toList (by simpa using h)]
 simp
def JF (place:Nat->Option (Nat×Nat)) (cells:List Value):List (Nat×Value)->Option (List Value)
 | []=>some cells
 | (i,v)::rest =>
  match place i with
  | none=>none
  | some (off,size)=>if v.cells.size=size/\off+size<=cells.length then JF place (cells.take off++v.cells.toList++cells.drop (off+size)) rest else none
theorem IZ (place:Nat->Option (Nat×Nat)):∀(parts:List (Nat×Value)) (cells:List Value) (cs:List Value),JF place cells parts=some cs->Instr.fill place cells.toArray parts=some cs.toArray
 | [],cells,cs,h=>by simp only [JF,Option.some.injEq] at h;simp [Instr.fill,h]
 | (i,v)::rest,cells,cs,h=>by
  simp only [JF] at h
  simp only [Instr.fill]
  split at h
  ·cases h
  ·rename_i off size hp
   split at h
   ·rename_i hc
    rw [hp]
    obtain ⟨rfl,h2⟩:=hc
    simp only
    rw [if_neg (by simp;omega),Ti off v.cells cells.toArray (by simpa using h2)]
    simpa using IZ place rest _ cs h
   ·cases h
def Ep (size:Nat):Nat->List (Nat×Value)->Option (List Value)
 | _,[]=>some []
 | k,(i,v)::rest=>if i=k/\v.cells.size=size then (Ep size (k+1) rest).map (v.cells.toList ++ ·) else none
theorem Iw (size:Nat):∀(parts:List (Nat×Value)) (k:Nat) (pre mE:List Value) (cs:List Value),Ep size k parts=some cs->pre.length=k*size->mE.length=parts.length*size →
  JF (fun i=>some (i*size,size)) (pre++mE) parts=some (pre++cs)
 | [],k,pre,mE,cs,h,hp,hs=>by
  simp only [Ep,Option.some.injEq] at h
  have:mE=[]:=List.eq_nil_of_length_eq_zero (by simpa using hs)
  subst this;subst h
  simp [JF]
 | (i,v)::rest,k,pre,mE,cs,h,hp,hs=>by
  simp only [Ep] at h
  split at h
  ·rename_i hc
   obtain ⟨rfl,rfl⟩:=hc
   obtain ⟨cs',hcs,rfl⟩:=Option.map_eq_some_iff.1 h
   simp only [List.length_cons,Nat.add_mul,Nat.one_mul] at hs
   simp only [JF]
   rw [if_pos ⟨trivial,by simp [hp,hs]⟩]
   have h1:(pre++mE).take (i*v.cells.size)=pre:=by rw [<-hp];simp
   have h2:(pre++mE).drop (i*v.cells.size+v.cells.size)=mE.drop v.cells.size:=by rw [<-hp,<-List.drop_drop];simp
   rw [h1,h2,Iw v.cells.size rest (i+1) (pre++v.cells.toList) (mE.drop v.cells.size) cs' hcs (by simp [hp,Nat.add_mul]) (by simp [hs])]
   simp
  ·cases h
def tst (P:Program) (t:TypeId):Option (List (Nat×Nat)×List Value) :=
 match P.info? t,P.underlying t with
 | some it,some (.struct fields) =>
  match it.zero,fields.toList.mapM (fun f=>(P.info? f.type).map fun i=>(f.offset,i.size)) with
  | some z,some places=>some (places,z.cells.toList)
  | _,_=>none
 | _,_=>none
theorem VB {P:Program} {t:TypeId} {places:List (Nat×Nat)} {z:List Value} {parts:Array (Nat×Value)} {cs:List Value} (h:tst P t=some (places,z)) (hf:JF (places[·]?) z parts.toList=some cs) (w:World) :
  (Instr.build t parts).run P w = .ok (.agg cs.toArray) w:=by
 refine run_build w t parts _ ?_
 unfold tst at h
 split at h
 ·rename_i it fields hi hu
  split at h
  ·rename_i z' places' hz hp
   obtain ⟨rfl,rfl⟩:=Prod.mk.inj (Option.some.inj h)
   have:=IZ _ _ _ _ hf
   simp only [Program.built,hi,hu,hz,hp]
   simpa using this
  ·cases h
 ·cases h
def tab (P:Program) (t:TypeId):Option (Nat×Nat) :=
 match P.info? t,P.underlying t with
 | some it,some (.array n e) =>
  match it.zero,P.info? e with
  | some z,some ie=>if z.cells.size=n*ie.size then some (n,ie.size) else none
  | _,_=>none
 | _,_=>none
theorem VC {P:Program} {t:TypeId} {n size:Nat} {parts:Array (Nat×Value)} {cs:List Value} (h:tab P t=some (n,size)) (hn:parts.toList.length=n) (hf:Ep size 0 parts.toList=some cs) (w:World) :
  (Instr.build t parts).run P w = .ok (.agg cs.toArray) w:=by
 refine run_build w t parts _ ?_
 unfold tab at h
 split at h
 ·rename_i it m e hi hu
  split at h
  ·rename_i z ie hz he
   split at h
   ·rename_i hsz
    obtain ⟨rfl,rfl⟩:=Prod.mk.inj (Option.some.inj h)
    have:=IZ _ _ _ _ (Iw ie.size parts.toList 0 [] z.cells.toList cs hf (by simp) (by simp [hsz,hn] at *))
    simp only [Program.built,hi,hu,hz,he]
    simpa using this
   ·cases h
  ·cases h
 ·cases h
def J9 (c l size:Nat) (A:Option Addr):Option Addr:=if c=l then A else A.map (·.add (l*size))
theorem Jd (c size:Nat) (A:Option Addr):J9 c 0 size A=A:=by
 unfold J9
 split
 ·rfl
 ·cases A<;>simp [Addr.add_zero']
theorem PY {c l size:Nat} {a:Addr} (h:c≠l):J9 c l size (some a)=some (a.add (l*size)):=by simp [J9,h]
def VD (t:Bool) (a b:Value):Value:=if t then a else b
theorem PZ (a b:Value):VD true a b=a:=rfl
theorem OL (a b:Value):VD false a b=b:=rfl
theorem Pb (t p q:Bool):VD t (.bool p) (.bool q) = .bool (if t then p else q):=by cases t<;>rfl
def Gb (F:Fr):List (Nat×Operand)->List (Nat×Value)
 | []=>[]
 | (i,x)::r=>(i,ev F x)::Gb F r
theorem Je (F:Fr):∀l:List (Nat×Operand),Gb F l=l.map fun x=>(x.1,ev F x.2)
 | []=>rfl
 | (i,x)::r=>by rw [Gb,Je F r];rfl
def pv (P:Program) (F:Fr):Op->PV
 | .move x=>.need True (ev F x)
 | .assign x=>.need True (ev F x)
 | .pick c a b=>match ev F c with
  | .bool t=>.need True (VD t (ev F a) (ev F b))
  | _=>.no
 | .build t parts=>match tst P t with
  | some (places,z)=>match JF (places[·]?) z (Gb F parts.toList) with
   | some cs=>.need True (.agg cs.toArray)
   | none=>.no
  | none=>match tab P t,Ep ((tab P t).getD (0,0)).2 0 (Gb F parts.toList) with
   | some (n,size),some cs=>.need (parts.toList.length=n) (.agg cs.toArray)
   | _,_=>.no
 | .nilCheck x=>match ev F x with
  | .pointer (some a)=>.need True (.pointer (some a))
  | _=>.no
 | .binOp op t x y _=>Ao P op t (ev F x) (ev F y)
 | .unOp .not _ x=>match ev F x with
  | .bool b=>.need True (.bool (!b))
  | _=>.no
 | .unOp .neg _ x=>match ev F x with
  | .int k n=>.need True (.int k (k.wrap (0-n)))
  | _=>.no
 | .unOp .xor _ x=>match ev F x with
  | .int k n=>.need True (.int k (bits .xor k (if k.signed then -1 else k.max) n))
  | _=>.no
 | .convert s d x=>match ev F x with
  | .int k n=>match Jc P d with
   | some k'=>.need ((P.underlying s).isSome=true) (.int k' (k'.wrap n))
   | none=>.no
  | _=>.no
 | .slice t x lo hi mx=>match mx with
  | some _=>.no
  | none=>match ev F x,KC P t with
   | .slice A n c,some (_,size)=>match (match lo with|none=>some 0|some l=>(match ev F l with | .int _ i=>some i|_=>none)),(match hi with|none=>some (n:Int)|some h=>(match ev F h with | .int _ i=>some i|_=>none)) with
    | some l,some h=>.need (0<=l/\l<=h/\h<=c/\n<=c) (.slice (J9 c l.toNat size A) (h.toNat-l.toNat) (c-l.toNat))
    | _,_=>.no
   | .string s,none=>match (match lo with|none=>some 0|some l=>(match ev F l with | .int _ i=>some i|_=>none)),(match hi with|none=>some (s.size:Int)|some h=>(match ev F h with | .int _ i=>some i|_=>none)) with
    | some l,some h=>.need (Bt P t=4/\0<=l/\l<=h/\h<=s.size) (.string (s.extract l.toNat h.toNat))
    | _,_=>.no
   | _,_=>.no
 | .fieldAddr s x f=>match ev F x,CL P s f with
  | .pointer (some a),some o=>.need True (.pointer (some (a.add o)))
  | _,_=>.no
 | .field s x f=>match ev F x,tst P s with
  | .agg cs,some (places,_)=>match places[f]? with
   | some (off,size)=>match tpt P s f with
    | some false=>match cs.toList[off]? with
     | some v=>.need True v
     | none=>.no
    | some true=>.need True (.agg ((cs.toList.drop off).take size).toArray)
    | none=>.no
   | none=>.no
  | _,_=>.no
 | .indexAddr t x i=>match ev F x,ev F i,KC P t,Eo P t with
  | .slice (some a) n _,.int _ k,some (_,size),_=>.need (0<=k/\k<n) (.pointer (some (a.add (k.toNat*size))))
  | .pointer (some a),.int _ k,none,some (n,size)=>.need (0<=k/\k<n) (.pointer (some (a.add (k.toNat*size))))
  | _,_,_,_=>.no
 | .index t x i=>match ev F x,ev F i with
  | .string s,.int _ k=>.need (Bt P t=4/\0<=k/\k<s.size) (.int .u8 ((s.data.toList.getD k.toNat 0).toNat:Int))
  | _,_=>.no
 | .extract x i=>match ev F x with
  | .tuple vs=>match vs.toList[i]? with
   | some v=>.need True v
   | none=>.no
  | _=>.no
 | .call c=>match c.callee with
  | .builtin .len=>match c.args.toList,c.argTypes.toList with
   | [x],[t]=>match ev F x with
    | .slice _ n _=>.need (Bt P t=3) (.int .i64 n)
    | .string s=>.need (Bt P t=4) (.int .i64 s.size)
    | _=>.no
   | _,_=>.no
  | .builtin .max=>match c.args.toList with
   | [x,y]=>match ev F x,ev F y with
    | .int k a,.int k' b=>.need True (.int k (max a b))
    | _,_=>.no
   | _=>.no
  | .builtin .min=>match c.args.toList with
   | [x,y]=>match ev F x,ev F y with
    | .int k a,.int k' b=>.need True (.int k (min a b))
    | _,_=>.no
   | _=>.no
  | _=>.no
 | _=>.no
where
 tpt (P:Program) (s:TypeId) (f:Nat):Option Bool :=
  match P.underlying s with
  | some (.struct fs)=>match fs[f]? with
   | some fd=>(Dk P fd.type).map (·.1)
   | none=>none
  | _=>none
theorem FY {P:Program} {w:World} {s:Sem Value} {v:Value} (h:s.run P w = .ok v w):(do pure (.value (← s)):Sem Next).run P w = .ok (.value v) w:=by
 simp [h]
theorem Er {P:Program} {t:TypeId} {i:TypeInfo} (h:P.info? t=some i) (w:World):(sizeOf t).run P w = .ok i.size w:=by simp [sizeOf,typeInfo,h]
theorem Zw {P:Program} {t:TypeId} {d:TypeDesc} (h:P.underlying t=some d) (w:World):(isAgg t).run P w = .ok (Xw d) w:=by
 cases d<;>simp [isAgg,run_underlying h,Xw]
theorem Jf {P:Program} {t:TypeId} {b:Bool} {n:Nat} (h:Dk P t=some (b,n)) (w:World):(isAgg t).run P w = .ok b w/\(sizeOf t).run P w = .ok n w:=by
 unfold Dk at h
 split at h
 ·rename_i d i hd hi
  obtain ⟨rfl,rfl⟩:=Prod.mk.inj (Option.some.inj h)
  exact ⟨Zw hd w,Er hi w⟩
 ·cases h
theorem Tj {P:Program} {t e:TypeId} {n:Nat} (h:KC P t=some (e,n)):P.underlying t=some (.slice e)∧∃i,P.info? e=some i/\i.size=n:=by
 unfold KC at h
 split at h
 ·rename_i e' he
  obtain ⟨i,hi,hh⟩:=Option.map_eq_some_iff.1 h
  obtain ⟨rfl,rfl⟩:=Prod.mk.inj hh
  exact ⟨he,i,hi,rfl⟩
 ·cases h
theorem eB {P:Program} {t:TypeId} {m n:Nat} (h:Eo P t=some (m,n)):∃e,P.underlying t=some (.array m e)∧∃i,P.info? e=some i/\i.size=n:=by
 unfold Eo at h
 split at h
 ·rename_i n' e' he
  obtain ⟨i,hi,hh⟩:=Option.map_eq_some_iff.1 h
  obtain ⟨rfl,rfl⟩:=Prod.mk.inj hh
  exact ⟨e',he,i,hi,rfl⟩
 ·cases h
theorem eD {P:Program} {t:TypeId} {k:IntKind} (h:Jc P t=some k):P.underlying t=some (.int k):=by
 unfold Jc at h
 split at h
 ·rename_i k' hk;rw [hk];simpa using h
 ·cases h
theorem NU {P:Program} {t:TypeId} (h:Bt P t=4):P.underlying t=some .string:=by
 unfold Bt at h
 split at h<;>first|assumption|cases h
theorem mapM_some_get {P:Program} : ∀(fs:List Field) (places:List (Nat×Nat)),fs.mapM (fun f=>(P.info? f.type).map fun i=>(f.offset,i.size))=some places→∀i:Nat,(fs[i]?).bind (fun f=>(P.info? f.type).map fun i=>(f.offset,i.size))=places[i]?
 | [],places,h,i=>by simp at h;subst h;simp
 | f::fs,places,h,i=>by
  simp only [List.mapM_cons,Option.bind_eq_bind,Option.pure_def,Option.bind_eq_some_iff] at h
  obtain ⟨p,hp,ps,hps,h⟩:=h
  cases h
  cases i with
  | zero=>simpa using hp
  | succ i=>simpa using mapM_some_get fs ps hps i
theorem VE {P:Program} {F:Fr} {o:Oper} {p:Prop} {v:Value} (h:pv P F o.op = .need p v) (hp:p) (w:World):(execOp (ev F) o).run P w = .ok (.value v) w:=by
 obtain ⟨dst,op,ty,pos,after,guard⟩:=o
 cases op with
 | move x=>simp only [pv] at h;cases h;simp [execOp]
 | assign x=>simp only [pv] at h;cases h;simp [execOp]
 | pick c a b =>
  simp only [pv] at h
  split at h
  ·rename_i t ht
   cases h
   cases t<;>simp [execOp,ht,asBool,VD]
  ·cases h
 | build t parts =>
  simp only [pv] at h
  split at h
  ·rename_i places z ht
   split at h
   ·rename_i cs hcs
    cases h
    have:=VB (parts:=parts.map fun x=>(x.1,ev F x.2)) ht (cs:=cs) (by rw [Je] at hcs;simpa using hcs) w
    exact FY this
   ·cases h
  ·split at h
   ·rename_i n size cs ht hcs
    cases h
    rw [ht] at hcs
    have:=VC (parts:=parts.map fun x=>(x.1,ev F x.2)) ht (cs:=cs) (by simpa using hp) (by rw [Je] at hcs;simpa using hcs) w
    exact FY this
   ·cases h
 | nilCheck x =>
  simp only [pv] at h
  split at h
  ·rename_i a ha;cases h;simp [execOp,ha]
  ·cases h
 | binOp op t x y yt =>
  exact FY (Xx h hp x y w)
 | unOp u t x =>
  cases u<;>simp only [pv] at h
  all_goals first
   | (cases h;done)
   | (split at h
      ·rename_i n hn
       cases h
       first
        | (simp [execOp,hn,unary_not];done)
        | (simp [execOp,hn,unary_neg,Op.intArith];done)
        | (simp [execOp,hn,unary_xor,intBits_xor];done)
      ·cases h)
 | convert s d x =>
  simp only [pv] at h
  split at h
  ·rename_i k n hn
   split at h
   ·rename_i k' hk
    cases h
    have hd:=eD hk
    obtain ⟨ds,hs⟩:=Option.isSome_iff_exists.1 hp
    simp [execOp,hn,convert,run_underlying hs,run_underlying hd,Conv.intToInt]
   ·cases h
  ·cases h
 | slice t x lo hi mx =>
  simp only [pv] at h
  cases mx with
  | some m=>cases h
  | none =>
   simp only at h
   split at h
   ·rename_i A n c e size hx hsl
    obtain ⟨hu,inf,Rb,rfl⟩:=Tj hsl
    split at h
    ·rename_i l hh hl Oo
     cases h
     obtain ⟨h0,h1,h2,h3⟩:=hp
     have e1:(hh.toNat:Int)=hh:=Int.toNat_of_nonneg (by omega)
     have hlo:∀w,(Instr.sliceBounds true n c (lo.map (ev F)) (hi.map (ev F)) none).run P w = .ok (l.toNat,hh.toNat,c) w:=by
      intro w
      cases lo with
      | none =>
       simp only [Option.some.injEq] at hl
       subst hl
       cases hi with
       | none =>
        simp only [Option.some.injEq] at Oo
        subst Oo
        simp [Instr.sliceBounds]
       | some b =>
        simp only at Oo
        split at Oo
        ·rename_i kb ib hb
         cases Oo
         simp [Instr.sliceBounds,hb,run_sliceBound,h1,h2]
        ·cases Oo
      | some a =>
       simp only at hl
       split at hl
       ·rename_i ka ia ha
        cases hl
        cases hi with
        | none =>
         simp only [Option.some.injEq] at Oo
         subst Oo
         simp [Instr.sliceBounds,ha,run_sliceBound,h0,h1]
        | some b =>
         simp only at Oo
         split at Oo
         ·rename_i kb ib hb
          cases Oo
          have h4:(0:Int)<=hh:=by omega
          simp [Instr.sliceBounds,ha,hb,run_sliceBound,h0,h1,h2,h4,e1]
         ·cases Oo
       ·cases hl
     refine FY ?_
     simp [hx,Instr.sliceAt,run_underlying hu,Instr.slice,hlo,Er Rb,J9]
    ·cases h
   ·rename_i s0 hx hsl
    split at h
    ·rename_i l hh hl Oo
     cases h
     obtain ⟨hk,h0,h1,h2⟩:=hp
     have hu:=NU hk
     have e1:(hh.toNat:Int)=hh:=Int.toNat_of_nonneg (by omega)
     have hlo:∀w,(Instr.sliceBounds false s0.size s0.size (lo.map (ev F)) (hi.map (ev F)) none).run P w = .ok (l.toNat,hh.toNat,s0.size) w:=by
      intro w
      cases lo with
      | none =>
       simp only [Option.some.injEq] at hl
       subst hl
       cases hi with
       | none =>
        simp only [Option.some.injEq] at Oo
        subst Oo
        simp [Instr.sliceBounds]
       | some b =>
        simp only at Oo
        split at Oo
        ·rename_i kb ib hb
         cases Oo
         simp [Instr.sliceBounds,hb,run_sliceBound,h1,h2]
        ·cases Oo
      | some a =>
       simp only at hl
       split at hl
       ·rename_i ka ia ha
        cases hl
        cases hi with
        | none =>
         simp only [Option.some.injEq] at Oo
         subst Oo
         simp [Instr.sliceBounds,ha,run_sliceBound,h0,h1]
        | some b =>
         simp only at Oo
         split at Oo
         ·rename_i kb ib hb
          cases Oo
          have h4:(0:Int)<=hh:=by omega
          simp [Instr.sliceBounds,ha,hb,run_sliceBound,h0,h1,h2,h4,e1]
         ·cases Oo
       ·cases hl
     refine FY ?_
     simp [hx,Instr.sliceAt,run_underlying hu,Instr.slice,hlo]
    ·cases h
   ·cases h
 | fieldAddr s x f =>
  simp only [pv] at h
  split at h
  ·rename_i a off ha ho
   cases h
   unfold CL at ho
   split at ho
   ·rename_i fs hfs
    split at ho
    ·rename_i fd Tk
     split at ho
     ·rename_i i hi
      split at ho
      ·cases ho
      ·rename_i hz
       cases ho
       simp [execOp,ha,Instr.fieldAt,run_underlying hfs,Tk,Instr.sureAddr,fieldPlace,Er hi,hz]
     ·cases ho
    ·cases ho
   ·cases ho
  ·cases h
 | field s x f =>
  simp only [pv] at h
  split at h
  ·rename_i cs places z hx hst
   split at h
   ·rename_i off size hpl
    unfold tst at hst
    split at hst
    ·rename_i it fields hit hu
     split at hst
     ·rename_i z' places' hz hpm
      obtain ⟨rfl,rfl⟩:=Prod.mk.inj (Option.some.inj hst)
      have hlen:=mapM_some_get fields.toList places' hpm f
      rw [hpl] at hlen
      split at h
      ·rename_i ht
       unfold pv.tpt at ht
       simp only [hu] at ht
       split at ht
       ·rename_i fd Tk
        obtain ⟨bn,hbn,hb⟩:=Option.map_eq_some_iff.1 ht
        obtain ⟨h1,h2⟩:=Jf (b:=bn.1) (n:=bn.2) hbn w
        rw [hb] at h1
        have hoff:fd.offset=off:=by
         simp [Tk] at hlen
         obtain ⟨inf,_,e1,_⟩:=hlen
         exact e1
        split at h
        ·rename_i u hu2
         cases h
         refine FY ?_
         have h5:cs[off]? = some v:=by simpa using hu2
         simp [hx,Instr.field,run_underlying hu,Tk,asAgg,part,h1,hoff,h5]
        ·cases h
       ·cases ht
      ·rename_i ht
       unfold pv.tpt at ht
       simp only [hu] at ht
       split at ht
       ·rename_i fd Tk
        obtain ⟨bn,hbn,hb⟩:=Option.map_eq_some_iff.1 ht
        obtain ⟨h1,h2⟩:=Jf (b:=bn.1) (n:=bn.2) hbn w
        rw [hb] at h1
        have hoff:fd.offset=off/\bn.2=size:=by
         simp [Tk] at hlen
         obtain ⟨inf,Rb,e1,e2⟩:=hlen
         refine ⟨e1, ?_⟩
         have:=h2
         rw [Er Rb] at this
         injection this with h6 h7
         omega
        cases h
        refine FY ?_
        obtain ⟨e1,e2⟩:=hoff
        subst e1
        subst e2
        simp [hx,Instr.field,run_underlying hu,Tk,asAgg,part,h1,h2]
        apply Array.ext'
        simp
       ·cases ht
      ·cases h
     ·cases hst
    ·cases hst
   ·cases h
  ·cases h
 | indexAddr t x i =>
  simp only [pv] at h
  split at h
  ·rename_i a n c k kk e size hx hi hsl
   cases h
   obtain ⟨hu,inf,Rb,rfl⟩:=Tj hsl
   simp [execOp,hx,hi,Instr.indexAt,run_underlying hu,asIntOf,hp,Er Rb]
  ·rename_i a k kk m size hx hi hsl harr
   cases h
   obtain ⟨e,hu,inf,Rb,rfl⟩:=eB harr
   simp [execOp,hx,hi,Instr.indexAt,run_underlying hu,asIntOf,hp,Er Rb,Instr.sureAddr]
  ·cases h
 | index t x i =>
  simp only [pv] at h
  split at h
  ·rename_i s0 kk k hx hi
   cases h
   obtain ⟨hk,h0,h1⟩:=hp
   have hlt:k.toNat<s0.data.size:=by have:s0.data.size=s0.size:=rfl;omega
   refine FY ?_
   rw [hx,hi,run_index_string _ _ _ _ _ (NU hk)]
   have h1':k.toNat<s0.size:=by omega
   have hg:s0[k.toNat]'h1'=s0.data.toList.getD k.toNat 0:=by
    rw [List.getD_eq_getElem?_getD,List.getElem?_eq_getElem (by simpa using hlt)]
    simp
    rfl
   rw [dif_pos ⟨h0,h1⟩,hg]
  ·cases h
 | extract x i =>
  simp only [pv] at h
  split at h
  ·rename_i vs hvs
   split at h
   ·rename_i u hu
    cases h
    have:vs[i]? = some v:=by simpa using hu
    simp [execOp,hvs,Instr.extract,this]
   ·cases h
  ·cases h
 | call c =>
  obtain ⟨callee,args,ats⟩:=c
  cases callee with
  | builtin b =>
   cases b
   case len =>
    simp only [pv] at h
    split at h
    ·rename_i x t hx ht
     have ea:args = #[x]:=by cases args;simp_all
     have et:ats = #[t]:=by cases ats;simp_all
     subst ea
     subst et
     split at h
     ·rename_i A n c hv
      cases h
      simp [execOp,resolve,invoke,builtin,hv,Builtin.len_,run_underlying (KI hp),goInt]
     ·rename_i s hv
      cases h
      simp [execOp,resolve,invoke,builtin,hv,Builtin.len_,run_underlying (NU hp),goInt]
     ·cases h
    ·cases h
   case max =>
    simp only [pv] at h
    split at h
    ·rename_i x y hx
     split at h
     ·rename_i k a k' b ha hb
      cases h
      have ea:args = #[x,y]:=by cases args;simp_all
      subst ea
      have e:(if b>a then b else a)=max a b:=by
       rw [Int.max_def]
       split<;>split<;>omega
      simp [execOp,resolve,invoke,builtin,ha,hb,Builtin.max_,Builtin.max2,e]
     ·cases h
    ·cases h
   case min =>
    simp only [pv] at h
    split at h
    ·rename_i x y hx
     split at h
     ·rename_i k a k' b ha hb
      cases h
      have ea:args = #[x,y]:=by cases args;simp_all
      subst ea
      have e:(if b<a then b else a)=min a b:=by
       rw [Int.min_def]
       split<;>split<;>omega
      simp [execOp,resolve,invoke,builtin,ha,hb,Builtin.min_,Builtin.min2,e]
     ·cases h
    ·cases h
   all_goals
    simp only [pv] at h
    cases h
  | value f=>simp only [pv] at h;cases h
  | invoke r m=>simp only [pv] at h;cases h
 | _=>simp only [pv] at h;cases h
def LD (P:Program) (M:List Nat) (W:World) (L:List Ai) (t:TypeId) (a:Addr) (v:Value):Prop := ∀w,St M W L w->(Instr.loadAt t (.pointer (some a))).run P w = .ok v w
def rE (P:Program) (M:List Nat) (W:World) (t:TypeId) (a:Addr) (L:List Ai) (K:Bool->Value->Prop):Prop :=
 match look L a.block with
 | some cs=>a.spot=none/\(match Dk P t with
  | some (true,m)=>a.off+m<=cs.length/\K true (.agg ((cs.drop a.off).take m).toArray)
  | some (false,_)=>(match cs[a.off]? with
   | some v=>K true v
   | none=>False)
  | none=>False)
 | none => ∃v,LD P M W L t a v∧∀tok,tok=true->K tok v
def ones (vs:List Value):Bool:=vs.all (·.oneCell')
def SV (P:Program) (M:List Nat) (W:World) (t:TypeId) (a:Addr) (v:Value) (L L':List Ai):Prop := ∀w,St M W L w→∃w',(Instr.storeAt t (.pointer (some a)) v).run P w = .ok () w'∧St M W L' w'
def vY (P:Program) (M:List Nat) (W:World) (t:TypeId) (a:Addr) (v:Value) (L:List Ai) (K:Bool->List Ai->Prop):Prop :=
 match look L a.block with
 | some cs=>a.spot=none/\(match Dk P t with
  | some (_,m)=>v.cells.toList.length=m/\a.off+m<=cs.length/\ones v.cells.toList=true/\K true (FK L a.block (cs.take a.off++v.cells.toList++cs.drop (a.off+m)))
  | none=>False)
 | none => ∃L',SV P M W t a v L L'∧∀tok,tok=true->K tok L'
def Ia (P:Program) (M:List Nat) (W:World) (g:FuncId) (args:Array Value) (L:List Ai) (K:Bool->Value->List Ai->Prop):Prop :=
 ∀w,St M W L w->Calls P g args w (fun e w' => ∃v L',e = .returned v/\St M W L' w'∧K true v L')
def XV (P:Program) (M:List Nat) (W:World) (o:Oper) (F:Fr) (L:List Ai) (K:Bool->Value->List Ai->Prop):Prop :=
 ∀w,St M W L w→∃v L' w',(execOp (ev F) o).run P w = .ok (.value v) w'∧St M W L' w'∧K true v L'
def XU (P:Program) (M:List Nat) (W:World) (o:Oper) (F:Fr) (L:List Ai) (K:Bool->Value->List Ai->Prop):Prop :=
 ∀w,St M W L w→∃L' w',(execOp (ev F) o).run P w = .ok .skip w'∧St M W L' w'∧K true undef L'
def mF (P:Program) (M:List Nat) (W:World) (ty t:TypeId) (L:List Ai) (v x:Value) (K:Bool->Value->List Ai->Prop):Prop :=
 ∀w,St M W L w→∃v' L' w',(Builtin.append_ #[t,t] ty #[v,x]).run P w = .ok v' w'∧St M W L' w'∧K true v' L'
def vZ (l:List Nat):ByteArray:=(l.map fun x:Nat=>(x:Int)).foldl (fun r n=>r.push (UInt8.ofNat n.toNat)) ByteArray.empty
def uw (P:Program) (s d:TypeId):Bool :=
 match P.underlying s,P.underlying d with
 | some (.slice e),some .string=>(match P.underlying e with
  | some (.int .u8)=>true
  | _=>false)
 | _,_=>false
def eF (P:Program) (M:List Nat) (W:World) (s d:TypeId) (A:Option Addr) (n:Nat) (L:List Ai) (K:Bool->Value->List Ai->Prop):Prop :=
 uw P s d=true∧∃l:List Nat,(∀w,St M W L w->Reads w w.heap.size 1 A n (l.map fun x:Nat=>Value.int .u8 (x:Int)))∧∀tok,tok=true->K tok (.string (vZ l)) L
def AJ (P:Program) (g:FuncId):Bool :=
 match P.funcs[g]? with
 | some fn => fn.name != "runtime.NumGoroutine" && fn.body.isSome
 | none=>false
def fresh:List Ai->Nat->Prop
 | [],_=>True
 | .blk b _ _::L,k=>b<k/\fresh L k
 | _::L,k=>fresh L k
def eG (p:Prop):Prop:=p
theorem R9:eG True=True:=rfl
theorem Yr {p:Prop} (h:p):eG p=True:=eq_true h
def pE (P:Program) (F:Fr) (o:Op) (K:Value->Prop):Prop :=
 match pv P F o with
 | .need p v=>eG p/\K v
 | .no=>False
def MW (P:Program) (M:List Nat) (W:World) (o:Oper) (F:Fr) (L:List Ai) (K:Bool->Value->List Ai->Prop):Prop :=
 match pv P F o.op with
 | .need p v=>eG p/\K true v L
 | .no=>XV P M W o F L K
def Cv (P:Program) (M:List Nat) (W:World) (o:Oper) (F:Fr) (L:List Ai) (K:Bool->Value->List Ai->Prop):Prop :=
 match o.op with
 | .load t x=>(match ev F x with
  | .pointer (some a)=>rE P M W t a L (fun tok v=>K tok v L)
  | _=>False)
 | .store t x y=>(match ev F x with
  | .pointer (some a)=>vY P M W t a (ev F y) L (fun tok L'=>K tok undef L')
  | _=>False)
 | .alloc t=>(match CY P t with
  | some cs => ∀b,W.heap.size<=b->fresh L b->K true (.pointer (some ⟨b,0,none⟩)) (.blk b t cs::L)
  | none=>False)
 | .box t x => ∀b,W.heap.size<=b->fresh L b->K true (.pointer (some ⟨b,0,none⟩)) (.blk b t (ev F x).cells.toList::L)
 | .buildSlice t len parts=>(match KC P t with
  | some (e,size)=>(CY P e).isSome=true/\parts.toList.length=len/\len*size<=16777216/\(match Ep size 0 (Gb F parts.toList) with
   | some cs => ∀b,W.heap.size<=b->fresh L b->K true (.slice (some ⟨b,0,none⟩) len len) (.blk b e cs::L)
   | none=>False)
  | none=>False)
 | .call c=>(match c.callee with
  | .value f=>(match ev F f with
   | .func (.func g) first cap=>AJ P g=true/\Ia P M W g (first++c.args.map (ev F)++cap) L K
   | _=>False)
  | .builtin .len=>MW P M W o F L K
  | .builtin .max=>MW P M W o F L K
  | .builtin .min=>MW P M W o F L K
  | .builtin .append=>(match c.args.toList,c.argTypes.toList with
   | [s,x],[t,t']=>(match decide (t=t') with
    | true=>mF P M W o.type t L (ev F s) (ev F x) K
    | false=>XV P M W o F L K)
   | _,_=>False)
  | _=>XV P M W o F L K)
 | .convert s d x=>(match ev F x with
  | .slice A n _=>(match uw P s d with
   | true=>eF P M W s d A n L K
   | false=>XV P M W o F L K)
  | _=>MW P M W o F L K)
 | .move _ | .assign _ | .pick _ _ _ | .build _ _ | .nilCheck _ | .binOp _ _ _ _ _ | .unOp _ _ _ | .slice _ _ _ _ _ | .fieldAddr _ _ _ | .field _ _ _ | .indexAddr _ _ _ | .index _ _ _ | .extract _ _=>MW P M W o F L K
 | .mapUpdate _ _ _ _=>XU P M W o F L K
 | _=>XV P M W o F L K
theorem mG {P:Program} {s d:TypeId} (h:uw P s d=true):∃e,P.underlying s=some (.slice e)/\P.underlying e=some (.int .u8)/\P.underlying d=some .string:=by
 unfold uw at h
 split at h
 ·rename_i e hs hd
  split at h
  ·rename_i he
   exact ⟨e,hs,he,hd⟩
  ·cases h
 ·cases h
theorem Pf {P:Program} {M:List Nat} {W:World} {s d:TypeId} {A:Option Addr} {n c:Nat} {L:List Ai} {K:Bool->Value->List Ai->Prop} (h:eF P M W s d A n L K) :
  ∃v,(∀w,St M W L w->(convert s d (.slice A n c)).run P w = .ok v w)/\K true v L:=by
 obtain ⟨ht,l,hr,hk⟩:=h
 obtain ⟨e,h1,h2,h3⟩:=mG ht
 refine ⟨_,fun w hw=>?_,hk true rfl⟩
 rw [run_convert_bytes_string w s d e A n c h1 h2 h3]
 obtain ⟨hl,hc⟩:=hr w hw
 simp only [List.length_map,Nat.mul_one] at hl
 cases A with
 | none =>
  have h0:l=[]:=by
   cases l with
   | nil=>rfl
   | cons x l =>
    simp at hl
    obtain ⟨a,ha,_⟩:=hc (by omega)
    cases ha
  subst h0
  simp [Conv.bytesToString,vZ]
 | some a =>
  refine run_bytesToString w a n c _ ?_
  have:=run_loadCells_list (P:=P) w a ((l.map fun x:Nat=>(x:Int)).map (Value.int .u8)) (fun j v hj=>by
   rcases Nat.eq_zero_or_pos n with h0|h0
   ·obtain rfl:l=[]:=List.eq_nil_of_length_eq_zero (by omega)
    simp at hj
   ·obtain ⟨a',ha,_,hcell⟩:=hc h0
    cases ha
    exact hcell j v (by simpa using hj))
  simpa [hl] using this
theorem Fv {M:List Nat} {W w:World} {L:List Ai} (h:St M W L w):fresh L w.heap.size:=by
 have key:∀(L:List Ai),(∀r∈L,∀b∈r.foot,b<w.heap.size)->fresh L w.heap.size:=by
  intro L
  induction L with
  | nil=>intro _;trivial
  | cons r L ih =>
   intro hL
   have ih':=ih fun s hs=>hL s (List.mem_cons_of_mem _ hs)
   cases r with
   | blk b t cs=>exact ⟨hL (.blk b t cs) (by simp) b (by simp [Ai.foot]),ih'⟩
   | row v t s n xs=>exact ih'
   | dat f p l=>exact ih'
 exact key L fun r hr b hb=>(h.own r hr b hb).2
theorem Hz {P:Program} {t:TypeId} {m:Nat} (h:Dk P t=some (true,m)) {w:World} {a:Addr} (vs:List Value) (hl:vs.length=m) (hc:∀(j:Nat) v,vs[j]? = some v->w.cell? (a.add j)=some v) :
  (Instr.loadAt t (.pointer (some a))).run P w = .ok (.agg vs.toArray) w:=by
 obtain ⟨h1,h2⟩:=Jf h w
 subst hl
 simp [Instr.loadAt,Instr.sureAddr,loadVar,h1,h2,run_loadCells_list (P:=P) w a vs hc]
theorem Es {P:Program} {t:TypeId} {m:Nat} (h:Dk P t=some (false,m)) {w:World} {a:Addr} {v:Value} (hc:w.cell? a=some v) :
  (Instr.loadAt t (.pointer (some a))).run P w = .ok v w:=by
 obtain ⟨h1,h2⟩:=Jf h w
 simp [Instr.loadAt,Instr.sureAddr,loadVar,h1,hc]
theorem Pg {a:Addr} (h:a.spot=none):a=⟨a.block,a.off,none⟩:=by cases a;simp_all
theorem NV {P:Program} {M:List Nat} {W:World} {t:TypeId} {a:Addr} {L:List Ai} {K:Bool->Value->Prop} (h:rE P M W t a L K):∃v,LD P M W L t a v/\K true v:=by
 unfold rE at h
 split at h
 ·rename_i cs hcs
  obtain ⟨hsp,h⟩:=h
  obtain ⟨ty,hm⟩:=Hy hcs
  split at h
  ·rename_i m hm2
   obtain ⟨hle,hk⟩:=h
   refine ⟨_,fun w hw=>Hz hm2 _ (by simp;omega) ?_,hk⟩
   intro j v hv
   rw [Pg hsp,Addr.add_lit,hw.Dz hm]
   rw [List.getElem?_take] at hv
   split at hv
   ·simpa using hv
   ·cases hv
  ·rename_i m hm2
   split at h
   ·rename_i v hv
    exact ⟨v,fun w hw=>Es hm2 (by rw [Pg hsp,hw.Dz hm];exact hv),h⟩
   ·exact h.elim
  ·exact h.elim
 ·obtain ⟨v,h1,h2⟩:=h
  exact ⟨v,h1,h2 true rfl⟩
theorem Zx {P:Program} {M:List Nat} {W w:World} {t:TypeId} {a:Addr} {v:Value} {L:List Ai} {K:Bool->List Ai->Prop} (h:vY P M W t a v L K) (hw:St M W L w) :
  ∃L' w',(Instr.storeAt t (.pointer (some a)) v).run P w = .ok () w'∧St M W L' w'∧K true L':=by
 unfold vY at h
 split at h
 ·rename_i cs hcs
  obtain ⟨hsp,h⟩:=h
  split at h
  ·rename_i g m hm
   obtain ⟨h1,h2,h3,hk⟩:=h
   obtain ⟨ty,A,B,e1,e2⟩:=Jb (us:=cs.take a.off++v.cells.toList++cs.drop (a.off+m)) hcs
   have hh:w.heap[a.block]? = some (.cells cs.toArray ty (0,0)):=hw.holds (.blk a.block ty cs) (by rw [e1];simp)
   have hs:=run_storeCells_at P a.block a.off ty v.cells.toList 0 cs.toArray w hh (by simp [h1];omega) (by intro u hu;exact List.all_eq_true.1 h3 u hu)
   have hsz:=(Jf hm w).2
   refine ⟨_,w.setRow a.block (cs.toArray.toList.take (a.off+0)++v.cells.toList++cs.toArray.toList.drop (a.off+0+v.cells.toList.length)).toArray, ?_, ?_,hk⟩
   ·have h1':v.cells.size=m:=by simpa using h1
    rw [Pg hsp]
    simp only [Instr.storeAt,Instr.sureAddr,Sem.run_bind,Sem.run_pure,Result.andThen_ok,storeVar,hsz,h1',ne_eq,not_true_eq_false,if_false]
    exact hs
   ·rw [e2]
    have hw':=e1▸hw
    refine hw'.write (fun k hk=>setRow_other w a.block k _ hk) ?_ (by simp [World.setRow]) rfl rfl rfl
    rw [setRow_heap w a.block cs.toArray _ ty (0,0) hh]
    simp [h1]
  ·exact h.elim
 ·obtain ⟨L',h1,h2⟩:=h
  obtain ⟨w',hr,hs⟩:=h1 w hw
  exact ⟨L',w',hr,hs,h2 true rfl⟩
theorem KJ {P:Program} {g:FuncId} (h:AJ P g=true) (args:Array Value) (w:World):(callFunc g args).run P w = .ok (.enter g args) w:=by
 unfold AJ at h
 split at h
 ·rename_i fn hfn
  simp only [Bool.and_eq_true,bne_iff_ne,ne_eq] at h
  obtain ⟨b,hb⟩:=Option.isSome_iff_exists.1 h.2
  simp [callFunc,run_program,hfn,h.1,hb]
 ·cases h
section
variable {P:Program} {M:List Nat} {W:World} {n:Nat}
theorem Jg {o:Oper} {F:Fr} {L:List Ai} {K:Bool->Value->List Ai->Prop} (h:Cv P M W o F L K) {a:Act} {w:World} (ha:a.eval=ev F) (hw:St M W L w)
  {next:Act->World->Prop} {Q:Exit->Act->World->Prop} (hn:∀v L' w',K true v L'→St M W L' w'→next (a.put o.dst v) w'):o.wp P a w next Q:=by
 have hx:XV P M W o F L K->o.wp P a w next Q:=by
  intro hX
  obtain ⟨v,L',w',hr,hs,hk⟩:=hX w hw
  unfold Oper.wp
  rw [ha,hr]
  exact hn _ _ _ hk hs
 have hp:MW P M W o F L K->o.wp P a w next Q:=by
  intro hP
  unfold MW at hP
  split at hP
  ·rename_i p v hpv
   unfold Oper.wp
   rw [ha,VE hpv hP.1 w]
   exact hn _ _ _ hP.2 hw
  ·exact hx hP
 obtain ⟨dst,op,ty,pos,after,guard⟩:=o
 cases op with
 | load t x =>
  simp only [Cv] at h
  split at h
  ·rename_i ad had
   obtain ⟨v,hl,hk⟩:=NV h
   unfold Oper.wp
   rw [ha]
   simp only [execOp,had,Sem.run_bind,hl w hw,Result.andThen_ok,Sem.run_pure]
   exact hn _ _ _ hk hw
  ·exact h.elim
 | store t x y =>
  simp only [Cv] at h
  split at h
  ·rename_i ad had
   obtain ⟨L',w',hr,hs,hk⟩:=Zx h hw
   unfold Oper.wp
   rw [ha]
   simp only [execOp,had,Sem.run_bind,hr,Result.andThen_ok,Sem.run_pure]
   exact hn _ _ _ hk hs
  ·exact h.elim
 | alloc t =>
  simp only [Cv] at h
  split at h
  ·rename_i cs hcs
   unfold Oper.wp
   rw [ha]
   have hz:(zeroValue t).run P w = .ok (((P.info? t).bind (·.zero)).getD undef) w/\((((P.info? t).bind (·.zero)).getD undef).cells).toList=cs:=by
    unfold CY at hcs
    split at hcs
    ·rename_i i hi
     obtain ⟨z,hz,rfl⟩:=Option.map_eq_some_iff.1 hcs
     simp [zeroValue,typeInfo,hi,hz]
    ·cases hcs
   simp only [execOp,Instr.alloc,Sem.run_bind,hz.1,Result.andThen_ok,newVar,newRow,run_newObj_alloc,Sem.run_pure]
   have:=hn _ _ _ (h w.heap.size hw.Bz.size (Fv hw)) (hw.alloc t cs)
   rw [<-hz.2] at this
   rw [Array.toArray_toList] at this
   exact this
  ·exact h.elim
 | box t x =>
  simp only [Cv] at h
  unfold Oper.wp
  rw [ha]
  simp only [execOp,Instr.box,Sem.run_bind,Result.andThen_ok,newVar,newRow,run_newObj_alloc,Sem.run_pure]
  have:=hn _ _ _ (h w.heap.size hw.Bz.size (Fv hw)) (hw.alloc t (ev F x).cells.toList)
  rw [Array.toArray_toList] at this
  exact this
 | buildSlice t len parts =>
  simp only [Cv] at h
  split at h
  ·rename_i e size hsl
   obtain ⟨hu,inf,Rb,rfl⟩:=Tj hsl
   obtain ⟨hz,hlen,hle,h⟩:=h
   split at h
   ·rename_i cs hcs
    rw [Je] at hcs
    unfold Oper.wp
    rw [ha]
    obtain ⟨z,hz'⟩:=Option.isSome_iff_exists.1 hz
    have hzv:∃zv,∀w,(zeroValue e).run P w = .ok zv w:=by
     unfold CY at hz'
     split at hz'
     ·rename_i i hi
      obtain ⟨z0,hz0,_⟩:=Option.map_eq_some_iff.1 hz'
      exact ⟨z0,fun w=>by simp [zeroValue,typeInfo,hi,hz0]⟩
     ·cases hz'
    obtain ⟨zv,hzv⟩:=hzv
    have hf:∀z:Array Value,z.size=len*inf.size->Instr.fill (fun i=>some (i*inf.size,inf.size)) z (parts.map fun x=>(x.1,ev F x.2)).toList=some cs.toArray:=by
     intro z hzs
     have:=IZ _ _ _ _ (Iw inf.size (parts.toList.map fun x=>(x.1,ev F x.2)) 0 [] z.toList cs hcs (by simp) (by simp [hzs,hlen] at *))
     simpa using this
    have hrun:(Instr.buildSlice t len (parts.map fun x=>(x.1,ev F x.2))).run P w = .ok (.slice (some ⟨w.heap.size,0,none⟩) len len) (w.alloc (.cells cs.toArray e)):=by
     have ve:¬(len*inf.size>2 ^ 24):=by omega
     by_cases h0:len*inf.size=0
     ·simp only [Instr.buildSlice,Sem.run_bind,run_underlying hu,Result.andThen_ok,Er Rb,ve,if_false,h0,if_true,Sem.run_pure,Sem.run_ite]
      rw [hf _ (by simp [h0])]
      simp [newRow]
     ·simp only [Instr.buildSlice,Sem.run_bind,run_underlying hu,Result.andThen_ok,Er Rb,ve,if_false,h0,Sem.run_pure,Sem.run_ite,hzv]
      rw [hf _ (by simp)]
      simp [newRow]
    simp only [execOp,Sem.run_bind,hrun,Result.andThen_ok,Sem.run_pure]
    exact hn _ _ _ (h w.heap.size hw.Bz.size (Fv hw)) (hw.alloc e cs)
   ·exact h.elim
  ·exact h.elim
 | call c =>
  obtain ⟨callee,args,ats⟩:=c
  cases callee with
  | value f =>
   simp only [Cv] at h
   split at h
   ·rename_i g first cap hf
    obtain ⟨hb,hc⟩:=h
    unfold Oper.wp
    rw [ha]
    simp only [execOp,resolve,hf,Deferred.ofValue,Sem.run_bind,Sem.run_pure,Result.andThen_ok,invoke,KJ hb,Oper.upon_enter]
    refine (hc w hw).mono ?_
    rintro e w' ⟨v,L',rfl,hs,hk⟩
    exact hn _ _ _ hk hs
   ·exact h.elim
  | builtin b =>
   cases b
   case append =>
    simp only [Cv] at h
    split at h
    ·rename_i s x t t' hargs AJD
     split at h
     ·rename_i hd
      obtain rfl:=of_decide_eq_true hd
      have ea:args = #[s,x]:=by cases args;simp_all
      have et:ats = #[t,t]:=by cases ats;simp_all
      subst ea
      subst et
      obtain ⟨v,L',w',hr,hs,hk⟩:=h w hw
      unfold Oper.wp
      rw [ha]
      simp only [execOp,resolve,Sem.run_bind,Sem.run_pure,Result.andThen_ok,invoke,builtin,List.map_toArray,List.map_cons,List.map_nil,hr]
      exact hn _ _ _ hk hs
     ·exact hx h
    ·exact h.elim
   all_goals
    simp only [Cv] at h
    first
     | exact hp h
     | exact hx h
  | invoke r m=>simp only [Cv] at h;exact hx h
 | move x=>simp only [Cv] at h;exact hp h
 | assign x=>simp only [Cv] at h;exact hp h
 | pick a b c=>simp only [Cv] at h;exact hp h
 | build a b=>simp only [Cv] at h;exact hp h
 | nilCheck x=>simp only [Cv] at h;exact hp h
 | binOp a b c d e=>simp only [Cv] at h;exact hp h
 | unOp a b c=>simp only [Cv] at h;exact hp h
 | convert s d x =>
  simp only [Cv] at h
  split at h
  ·rename_i A m c hx2
   split at h
   ·obtain ⟨v,hr,hk⟩:=Pf (c:=c) h
    unfold Oper.wp
    rw [ha]
    simp only [execOp,hx2,Sem.run_bind,hr w hw,Result.andThen_ok,Sem.run_pure]
    exact hn _ _ _ hk hw
   ·exact hx h
  ·exact hp h
 | slice a b c d e=>simp only [Cv] at h;exact hp h
 | fieldAddr a b c=>simp only [Cv] at h;exact hp h
 | field a b c=>simp only [Cv] at h;exact hp h
 | indexAddr a b c=>simp only [Cv] at h;exact hp h
 | index a b c=>simp only [Cv] at h;exact hp h
 | extract a b=>simp only [Cv] at h;exact hp h
 | mapUpdate t m k x =>
  simp only [Cv] at h
  obtain ⟨L',w',hr,hs,hk⟩:=h w hw
  unfold Oper.wp
  rw [ha,hr]
  exact hn _ _ _ hk hs
 | _=>simp only [Cv] at h;exact hx h
end
def HV (n:Nat):Option Nat->Bool
 | none=>true
 | some d=>Nat.ble (d+1) n
theorem Tm {n:Nat} {d:Option Nat} (h:HV n d=true):OI n d:=by
 cases d with
 | none=>trivial
 | some d=>exact Nat.le_of_ble_eq_true h
def H5 (os:List Oper) (F:Fr) (g:Option (Nat×Bool)) (A B:Prop):Prop :=
 match g with
 | none=>A
 | some (j,b)=>match (nth os j).bind (·.dst) with
  | some d=>(match F d with
   | .bool t=>(t=b->A)/\(t=(!b)->B)
   | .tuple _=>B
   | _=>False)
  | none=>False
section
variable {P:Program} {M:List Nat} {W:World} {n:Nat}
theorem E5 {ops:Array Oper} {a:Act} {F:Fr} {o:Oper} {A B:Prop} (ha:Gu n a F) (hn:∀j o d,nth ops.toList j=some o->o.dst=some d->d<n) (h:H5 ops.toList F o.guard A B) :
  (Region.wanted o (yielded ops a.tmps)=true/\A)\/(Region.wanted o (yielded ops a.tmps)=false/\B):=by
 unfold H5 at h
 split at h
 ·rename_i hg
  exact .inl ⟨by simp [Region.wanted,hg],h⟩
 ·rename_i j b hg
  split at h
  ·rename_i d hd
   obtain ⟨oj,hoj,hdj⟩:=Option.bind_eq_some_iff.1 hd
   have hlt:=hn j oj d hoj hdj
   have ADb:ops[j]? = some oj:=JZ hoj
   have hget:a.tmps[d]? = some (F d):=by
    have h1:=ha.get d
    have h2:d<a.tmps.size:=by rw [ha.size];exact hlt
    rw [Array.getElem?_eq_getElem h2,<-h1]
    simp [h2]
   have hy:∀x,F d=x->yielded ops a.tmps j=(match x with | .bool b=>some b|_=>none):=by
    intro x hx
    unfold yielded
    rw [ADb]
    simp only [Option.bind_some,hdj]
    rw [hget,hx]
    cases x<;>rfl
   split at h
   ·rename_i t ht
    have:=hy _ ht
    by_cases e:t=b
    ·exact .inl ⟨by simp [Region.wanted,hg,this,e],h.1 e⟩
    ·exact .inr ⟨by simp [Region.wanted,hg,this,e],h.2 (by cases t<;>cases b<;>simp_all)⟩
   ·rename_i t ht
    have:=hy _ ht
    exact .inr ⟨by simp [Region.wanted,hg,this],h⟩
   ·exact h.elim
  ·exact h.elim
def MX (P:Program) (M:List Nat) (W:World) (n:Nat) (os:List Oper) (tok:Bool):List Oper->Fr->List Ai->(Fr->List Ai->Prop)->Prop
 | [],F,L,K=>K F L
 | o::r,F,L,K=>H5 os F o.guard (Cv P M W o F L fun tok v L'=>MX P M W n os tok r (D7 F o.dst v) L' K) (MX P M W n os tok r (D7 F o.dst undef) L K)
def Zy (os:List Oper) (F:Fr) (j:Nat) (b:Bool):Option Bool :=
 match (nth os j).bind (·.dst) with
 | some d=>(match F d with
  | .bool t=>(match b with|true=>some t|false=>some (!t))
  | .tuple _=>some false
  | _=>none)
 | none=>none
def pF (P:Program) (M:List Nat) (W:World) (n:Nat) (os:List Oper) (s:Option Bool) (o:Oper) (r:List Oper) (F:Fr) (L:List Ai) (K:Fr->List Ai->Prop):Prop :=
 match s with
 | some t=>(t=true->Cv P M W o F L fun tok v L'=>MX P M W n os tok r (D7 F o.dst v) L' K)/\(t=false->MX P M W n os true r (D7 F o.dst undef) L K)
 | none=>False
theorem H6 {os:List Oper} {F:Fr} {j:Nat} {b:Bool} {A B:Prop} : H5 os F (some (j,b)) A B=(match Zy os F j b with|some t=>(t=true->A)/\(t=false->B)|none=>False):=by
 unfold H5 Zy
 cases hd:(nth os j).bind (·.dst) with
 | none=>simp [hd]
 | some d =>
  simp only [hd]
  cases F d<;>simp
  cases b<;>simp
theorem Yt {os:List Oper} {F:Fr} {L:List Ai} {K:Fr->List Ai->Prop} : MX P M W n os true [] F L K=K F L:=rfl
theorem VF {os:List Oper} {d:Option Nat} {op:Op} {ty:TypeId} {pos:String} {af:Array Edge} {r:List Oper} {F:Fr} {L:List Ai} {K:Fr->List Ai->Prop} :
  MX P M W n os true (⟨d,op,ty,pos,af,none⟩::r) F L K=Cv P M W ⟨d,op,ty,pos,af,none⟩ F L fun tok v L'=>MX P M W n os tok r (D7 F d v) L' K:=rfl
theorem R_ {os:List Oper} {d:Option Nat} {op:Op} {ty:TypeId} {pos:String} {af:Array Edge} {j:Nat} {b:Bool} {r:List Oper} {F:Fr} {L:List Ai} {K:Fr->List Ai->Prop} :
  MX P M W n os true (⟨d,op,ty,pos,af,some (j,b)⟩::r) F L K=pF P M W n os (Zy os F j b) ⟨d,op,ty,pos,af,some (j,b)⟩ r F L K:=by
 show H5 os F (some (j,b)) _ _=_
 rw [H6]
 rfl
theorem VG {os:List Oper} {o:Oper} {r:List Oper} {F:Fr} {L:List Ai} {K:Fr->List Ai->Prop} : pF P M W n os (some true) o r F L K=Cv P M W o F L fun tok v L'=>MX P M W n os tok r (D7 F o.dst v) L' K:=by simp [pF]
theorem SB {os:List Oper} {o:Oper} {r:List Oper} {F:Fr} {L:List Ai} {K:Fr->List Ai->Prop} : pF P M W n os (some false) o r F L K=MX P M W n os true r (D7 F o.dst undef) L K:=by simp [pF]
theorem Ck {os:List Oper} {t:Bool} {o:Oper} {r:List Oper} {F:Fr} {L:List Ai} {K:Fr->List Ai->Prop} (h1:t=true->pF P M W n os (some true) o r F L K) (h2:t=false->pF P M W n os (some false) o r F L K):pF P M W n os (some t) o r F L K:=by
 cases t
 ·exact h2 rfl
 ·exact h1 rfl
theorem Hm {ops:Array Oper} {Q:Exit->Act->World->Prop} (hn:∀j o d,nth ops.toList j=some o->o.dst=some d->d<n):∀(r:List Oper) {F:Fr} {L:List Ai} {K:Fr->List Ai->Prop} {a:Act} {w:World},
  r.all (fun o=>HV n o.dst)=true->MX P M W n ops.toList true r F L K->Gu n a F->St M W L w->(∀F' L' a' w',K F' L'→Gu n a' F'→St M W L' w'→Q .normal a' w')->wpList P ops Q r a w
 | [],F,L,K,a,w,_,h,ha,hw,hq=>hq _ _ _ _ h ha hw
 | o::r,F,L,K,a,w,hdd,h,ha,hw,hq=>by
  simp only [List.all_cons,Bool.and_eq_true] at hdd
  have hd:=Tm hdd.1
  rcases E5 ha hn h with ⟨hwt,h⟩|⟨hwt,h⟩
  ·unfold wpList
   rw [if_pos hwt]
   exact .inl (Jg h ha.eval hw fun v L' w' hk hs=>Hm hn r hdd.2 hk (ha.put hd v) hs hq)
  ·unfold wpList
   rw [hwt]
   exact Hm hn r hdd.2 h (ha.put hd undef) hw hq
def RX (P:Program) (M:List Nat) (W:World) (o:Oper) (F:Fr) (L0:List Ai) (K:Bool->Value->Prop):Prop :=
 ∃v,(∀w,St M W L0 w->(execOp (ev F) o).run P w = .ok (.value v) w)∧∀tok,tok=true->K tok v
def SC (P:Program) (M:List Nat) (W:World) (o:Oper) (F:Fr) (L0:List Ai) (K:Bool->Value->Prop):Prop :=
 match pv P F o.op with
 | .need p v=>eG p/\K true v
 | .no=>RX P M W o F L0 K
def Ib (P:Program) (M:List Nat) (W:World) (o:Oper) (F:Fr) (L0:List Ai) (K:Bool->Value->Prop):Prop :=
 match o.op with
 | .load t x=>(match ev F x with
  | .pointer (some a)=>rE P M W t a L0 K
  | _=>False)
 | .convert s d x=>(match ev F x with
  | .slice A n _=>eF P M W s d A n L0 (fun tok v _=>K tok v)
  | _=>SC P M W o F L0 K)
 | _=>SC P M W o F L0 K
theorem OM {P:Program} {M:List Nat} {W:World} {o:Oper} {F:Fr} {L0:List Ai} {K:Bool->Value->Prop} (h:SC P M W o F L0 K):∃v,(∀w,St M W L0 w->(execOp (ev F) o).run P w = .ok (.value v) w)/\K true v:=by
 unfold SC at h
 split at h
 ·rename_i p v hp
  exact ⟨v,fun w _=>VE hp h.1 w,h.2⟩
 ·obtain ⟨v,h1,h2⟩:=h
  exact ⟨v,h1,h2 true rfl⟩
theorem OO {o:Oper} {F:Fr} {L0:List Ai} {K:Bool->Value->Prop} (h:Ib P M W o F L0 K):∃v,(∀w,St M W L0 w->(execOp (ev F) o).run P w = .ok (.value v) w)/\K true v:=by
 unfold Ib at h
 split at h
 ·rename_i t x hop
  split at h
  ·rename_i a ha
   obtain ⟨v,hl,hk⟩:=NV h
   refine ⟨v,fun w hw=>?_,hk⟩
   obtain ⟨dst,op,ty,pos,after,guard⟩:=o
   subst hop
   simp only [execOp,ha,Sem.run_bind,hl w hw,Result.andThen_ok,Sem.run_pure]
  ·exact h.elim
 ·rename_i s d x hop
  split at h
  ·rename_i A m c hx2
   obtain ⟨v,hr,hk⟩:=Pf (c:=c) h
   refine ⟨v,fun w hw=>?_,hk⟩
   obtain ⟨dst,op,ty,pos,after,guard⟩:=o
   subst hop
   simp only [execOp,hx2,Sem.run_bind,hr w hw,Result.andThen_ok,Sem.run_pure]
  ·exact OM h
 ·exact OM h
def JC (L0 L:List Ai):Prop := ∀r∈L0,r∈L
theorem Ph (L:List Ai):JC L L=True:=by simp [JC]
theorem Bv (L:List Ai):JC [] L=True:=by simp [JC]
theorem Be (r:Ai) (L0 L:List Ai):JC (r::L0) L=(r∈L/\JC L0 L):=by simp [JC]
theorem St.Lt {M:List Nat} {W w:World} {L0 L:List Ai} (h:St M W L w) (hs:JC L0 L) (ha:L0.Pairwise (fun r s => ∀b∈r.foot,b∉s.foot)):St M W L0 w :=
 ⟨h.Bz,fun r hr=>h.holds r (hs r hr),fun r hr=>h.own r (hs r hr),ha⟩
def O5 (P:Program) (M:List Nat) (W:World) (n:Nat) (os:List Oper) (L0:List Ai) (fin:List Nat) (tok:Bool):List (Bool×Nat)->Fr->List Ai->(Fr->List Ai->Prop)->Prop
 | [],F,L,K=>K F L
 | (true,i)::r,F,L,K=>match nth os i with
  | some o=>H5 os F o.guard (Ib P M W o F L0 fun tok v=>O5 P M W n os L0 fin tok r (D7 F o.dst v) L K) (O5 P M W n os L0 fin tok r (D7 F o.dst undef) L K)
  | none=>False
 | (false,i)::r,F,L,K=>match nth os i with
  | some o=>H5 os F o.guard (Cv P M W o F L fun tok v L'=>(fin.contains i=false->JC L0 L')/\O5 P M W n os L0 fin tok r (D7 F o.dst v) L' K) (O5 P M W n os L0 fin tok r (D7 F o.dst undef) L K)
  | none=>False
def Zz (P:Program) (M:List Nat) (W:World) (n:Nat) (os:List Oper) (L0:List Ai) (fin:List Nat) (x:Bool) (i:Nat) (s:Option Bool) (o:Oper) (r:List (Bool×Nat)) (F:Fr) (L:List Ai) (K:Fr->List Ai->Prop):Prop :=
 match s,x with
 | some t,true=>(t=true->Ib P M W o F L0 fun tok v=>O5 P M W n os L0 fin tok r (D7 F o.dst v) L K)/\(t=false->O5 P M W n os L0 fin true r (D7 F o.dst undef) L K)
 | some t,false=>(t=true->Cv P M W o F L fun tok v L'=>(fin.contains i=false->JC L0 L')/\O5 P M W n os L0 fin tok r (D7 F o.dst v) L' K)/\(t=false->O5 P M W n os L0 fin true r (D7 F o.dst undef) L K)
 | none,_=>False
def uy (P:Program) (M:List Nat) (W:World) (n:Nat) (os:List Oper) (L0:List Ai) (fin:List Nat) (x:Bool) (i:Nat) (o:Option Oper) (r:List (Bool×Nat)) (F:Fr) (L:List Ai) (K:Fr->List Ai->Prop):Prop :=
 match o with
 | none=>False
 | some o=>match o.guard with
  | none=>(match x with
   | true=>Ib P M W o F L0 fun tok v=>O5 P M W n os L0 fin tok r (D7 F o.dst v) L K
   | false=>Cv P M W o F L fun tok v L'=>(fin.contains i=false->JC L0 L')/\O5 P M W n os L0 fin tok r (D7 F o.dst v) L' K)
  | some (j,b)=>Zz P M W n os L0 fin x i (Zy os F j b) o r F L K
section
variable {os:List Oper} {L0:List Ai} {fin:List Nat} {x:Bool} {i:Nat} {o:Oper} {r:List (Bool×Nat)} {F:Fr} {L:List Ai} {K:Fr->List Ai->Prop}
theorem Yu:O5 P M W n os L0 fin true [] F L K=K F L:=rfl
theorem VH:O5 P M W n os L0 fin true ((x,i)::r) F L K=uy P M W n os L0 fin x i (nth os i) r F L K:=by
 cases x
 ·simp only [O5,uy]
  cases nth os i with
  | none=>rfl
  | some o =>
   simp only
   cases hg:o.guard with
   | none=>rfl
   | some jb =>
    obtain ⟨j,b⟩:=jb
    simp only
    rw [H6]
    unfold Zz
    cases Zy os F j b<;>rfl
 ·simp only [O5,uy]
  cases nth os i with
  | none=>rfl
  | some o =>
   simp only
   cases hg:o.guard with
   | none=>rfl
   | some jb =>
    obtain ⟨j,b⟩:=jb
    simp only
    rw [H6]
    unfold Zz
    cases Zy os F j b<;>rfl
variable {d:Option Nat} {op:Op} {ty:TypeId} {pos:String} {af:Array Edge} {j:Nat} {b:Bool}
theorem VI:uy P M W n os L0 fin true i (some ⟨d,op,ty,pos,af,none⟩) r F L K=Ib P M W ⟨d,op,ty,pos,af,none⟩ F L0 fun tok v=>O5 P M W n os L0 fin tok r (D7 F d v) L K:=rfl
theorem VJ:uy P M W n os L0 fin false i (some ⟨d,op,ty,pos,af,none⟩) r F L K=Cv P M W ⟨d,op,ty,pos,af,none⟩ F L fun tok v L'=>(fin.contains i=false->JC L0 L')/\O5 P M W n os L0 fin tok r (D7 F d v) L' K:=rfl
theorem SE:uy P M W n os L0 fin x i (some ⟨d,op,ty,pos,af,some (j,b)⟩) r F L K=Zz P M W n os L0 fin x i (Zy os F j b) ⟨d,op,ty,pos,af,some (j,b)⟩ r F L K:=rfl
theorem VK:Zz P M W n os L0 fin true i (some true) o r F L K=Ib P M W o F L0 fun tok v=>O5 P M W n os L0 fin tok r (D7 F o.dst v) L K:=by simp [Zz]
theorem VL:Zz P M W n os L0 fin false i (some true) o r F L K=Cv P M W o F L fun tok v L'=>(fin.contains i=false->JC L0 L')/\O5 P M W n os L0 fin tok r (D7 F o.dst v) L' K:=by simp [Zz]
theorem SF:Zz P M W n os L0 fin x i (some false) o r F L K=O5 P M W n os L0 fin true r (D7 F o.dst undef) L K:=by cases x<;>simp [Zz]
theorem Cm {t:Bool} (h1:t=true->Zz P M W n os L0 fin x i (some true) o r F L K) (h2:t=false->Zz P M W n os L0 fin x i (some false) o r F L K):Zz P M W n os L0 fin x i (some t) o r F L K:=by
 cases t
 ·exact h2 rfl
 ·exact h1 rfl
end
def Db (fin:List Nat):List (Bool×Nat)->Bool
 | []=>true
 | (true,_)::r=>Db fin r
 | (false,i)::r=>if fin.contains i then r.all (fun x => !x.1&&fin.contains x.2) else Db fin r
theorem MZ {fin:List Nat} : ∀(r:List (Bool×Nat)),r.all (fun x => !x.1&&fin.contains x.2)=true->Db fin r=true
 | [],_=>rfl
 | (true,_)::r,h=>by simp at h
 | (false,i)::r,h=>by
  simp only [List.all_cons,Bool.and_eq_true] at h
  simp only [Db]
  split
  ·exact h.2
  ·exact MZ r h.2
theorem JG {ops:Array Oper} {Q:Exit->Act->World->Prop} {L0:List Ai} {fin:List Nat} (hn:∀j o d,nth ops.toList j=some o->o.dst=some d->d<n) (hap:L0.Pairwise (fun r s => ∀b∈r.foot,b∉s.foot)):∀(p:List (Bool×Nat)) {F:Fr} {L:List Ai} {K:Fr->List Ai->Prop} {a:Act} {w:World},
  O5 P M W n ops.toList L0 fin true p F L K->Gu n a F->St M W L w->Db fin p=true->(p.all (fun x => !x.1&&fin.contains x.2)=true\/JC L0 L)->(∀F' L' a' w',K F' L'→Gu n a' F'→St M W L' w'→Q .normal a' w')->Gt P ops Q (St M W L0) fin p a w
 | [],F,L,K,a,w,h,ha,hw,hf,NW,hq=>JE (hq _ _ _ _ h ha hw)
 | (true,i)::r,F,L,K,a,w,h,ha,hw,hf,NW,hq=>by
  simp only [O5] at h
  have Pj:JC L0 L:=NW.resolve_left (by simp)
  have hS:St M W L0 w:=hw.Lt Pj hap
  split at h
  ·rename_i o ho
   have hd:OI n o.dst:=by
    cases hdo:o.dst with
    | none=>trivial
    | some d=>exact hn i o d ho hdo
   rcases E5 ha hn h with ⟨hwt,h⟩|⟨hwt,h⟩
   ·obtain ⟨v,hr,hk⟩:=OO h
    exact El (v:=v) hS ho hwt (fun w' hw'=>by rw [ha.eval];exact hr w' hw') (JG hn hap r hk (ha.put hd v) hw hf (.inr Pj) hq)
   ·exact Tg hS ho hwt (JG hn hap r h (ha.put hd undef) hw hf (.inr Pj) hq)
  ·exact h.elim
 | (false,i)::r,F,L,K,a,w,h,ha,hw,hf,NW,hq=>by
  simp only [O5] at h
  have hr:(r.all (fun x => !x.1&&fin.contains x.2)=true/\fin.contains i=true)\/(fin.contains i=false/\JC L0 L/\Db fin r=true):=by
   cases hc:fin.contains i with
   | true =>
    refine .inl ⟨?_,rfl⟩
    rcases NW with h1|h1
    ·simp only [List.all_cons,Bool.and_eq_true] at h1
     exact h1.2
    ·simp only [Db,hc,if_true] at hf
     exact hf
   | false =>
    refine .inr ⟨rfl, ?_, ?_⟩
    ·rcases NW with h1|h1
     ·simp only [List.all_cons,Bool.and_eq_true] at h1
      rw [hc] at h1
      exact absurd h1.1.2 (by simp)
     ·exact h1
    ·simp only [Db,hc,Bool.false_eq_true,if_false] at hf
     exact hf
  have hf':Db fin r=true:=by
   rcases hr with ⟨h1,_⟩|⟨_,_,h1⟩
   ·exact MZ r h1
   ·exact h1
  have hS:∀L' w',(fin.contains i=false->JC L0 L')->St M W L' w'→fin.contains i=false->St M W L0 w':=by
   intro L' w' hL hw' hc
   exact hw'.Lt (hL hc) hap
  have hnext:∀L',(fin.contains i=false->JC L0 L')->(r.all (fun x => !x.1&&fin.contains x.2)=true\/JC L0 L'):=by
   intro L' hL
   rcases hr with ⟨h1,_⟩|⟨h1,_,_⟩
   ·exact .inl h1
   ·exact .inr (hL h1)
  have hsame:fin.contains i=false->JC L0 L:=by
   intro hc
   rcases hr with ⟨_,h1⟩|⟨_,h1,_⟩
   ·rw [hc] at h1;cases h1
   ·exact h1
  split at h
  ·rename_i o ho
   have hd:OI n o.dst:=by
    cases hdo:o.dst with
    | none=>trivial
    | some d=>exact hn i o d ho hdo
   refine ⟨o,JZ ho, ?_⟩
   rcases E5 ha hn h with ⟨hwt,h⟩|⟨hwt,h⟩
   ·unfold wpList
    rw [if_pos hwt]
    refine .inl (Jg h ha.eval hw fun v L' w' hk hs=>?_)
    exact ⟨hS L' w' hk.1 hs,JG hn hap r hk.2 (ha.put hd v) hs hf' (hnext L' hk.1) hq⟩
   ·unfold wpList
    rw [hwt]
    exact ⟨hS L w hsame hw,JG hn hap r h (ha.put hd undef) hw hf' (hnext L hsame) hq⟩
  ·exact h.elim
def pG (M:List Nat) (W:World) (n:Nat) (Q:Exit->Fr->List Ai->Prop):Exit->Act->World->Prop
 | .panic _,_,_=>False
 | .outgrown,_,_=>False
 | e,a,w => ∃F L,Gu n a F/\St M W L w/\Q e F L
def CV (P:Program) (M:List Nat) (W:World) (n:Nat) (c:Code) (F:Fr) (L:List Ai) (Q:Exit->Fr->List Ai->Prop):Prop :=
 ∀a w,Gu n a F->St M W L w->c.wp P (pG M W n Q) a w
def BX (K:Fr->List Ai->Prop) (Q:Exit->Fr->List Ai->Prop):Exit->Fr->List Ai->Prop
 | .normal,F,L=>K F L
 | e,F,L=>Q e F L
def BJ (id:Nat) (Q:Exit->Fr->List Ai->Prop):Exit->Fr->List Ai->Prop
 | .exit id',F,L=>if id'=id then Q .normal F L else Q (.exit id') F L
 | e,F,L=>Q e F L
variable {F:Fr} {L:List Ai} {Q Q':Exit->Fr->List Ai->Prop}
theorem CV.mono {c:Code} (h:CV P M W n c F L Q) (hq:∀e F' L',Q e F' L'→Q' e F' L'):CV P M W n c F L Q':=fun a w ha hw =>
 wp_mono (h a w ha hw) (by
  intro e a' w' hh
  cases e<;>first
   | exact hh
   | (obtain ⟨F',L',h1,h2,h3⟩:=hh;exact ⟨F',L',h1,h2,hq _ _ _ h3⟩))
theorem NY {c:Code} (h:∀G:Fr,G=F->CV P M W n c G L Q):CV P M W n c F L Q:=h F rfl
theorem rF {x y:Code} (h:CV P M W n x F L (BX (fun F' L'=>CV P M W n y F' L' Q) Q)):CV P M W n (.seq x y) F L Q:=fun a w ha hw =>
 wp_seq (wp_mono (h a w ha hw) (by
  intro e a' w' hh
  cases e<;>first
   | exact hh
   | (obtain ⟨F',L',h1,h2,h3⟩:=hh;exact h3 _ _ h1 h2)))
theorem AB {x y:Code} (h:∀K:Fr->List Ai->Prop,(∀F' L',CV P M W n y F' L' Q->K F' L')->CV P M W n x F L (BX K Q)):CV P M W n (.seq x y) F L Q:=rF (h _ fun _ _ h=>h)
theorem A9 {c:Code} {K:Fr->List Ai->Prop} (D:Fr->Fr->Prop) (R:Fr->List Ai->Prop) (h:CV P M W n c F L (BX (fun F' L'=>D F F'∧R F' L') Q)) (hk:∀F' L',D F F'→R F' L'→K F' L'):CV P M W n c F L (BX K Q) :=
 h.mono fun e F' L' hh=>by
  cases e<;>first
   | exact hh
   | exact hk _ _ hh.1 hh.2
theorem AO (h:Q .normal F L):CV P M W n .skip F L Q:=fun a w ha hw=>wp_skip ⟨F,L,ha,hw,h⟩
theorem AP (h:Q .ret F L):CV P M W n .ret F L Q:=fun a w ha hw=>wp_ret ⟨F,L,ha,hw,h⟩
theorem BM {id:Nat} (h:Q (.exit id) F L):CV P M W n (.exit id) F L Q:=fun a w ha hw=>wp_exit ⟨F,L,ha,hw,h⟩
theorem Ad {id:Nat} {c:Code} (h:CV P M W n c F L (BJ id Q)):CV P M W n (.block id c) F L Q:=fun a w ha hw =>
 wp_block (wp_mono (h a w ha hw) (by
  intro e a' w' hh
  cases e with
  | exit id' =>
   obtain ⟨F',L',h1,h2,h3⟩:=hh
   simp only [BJ] at h3
   simp only [Exit.inBlock]
   split
   ·rename_i he;rw [if_pos he] at h3;exact ⟨F',L',h1,h2,h3⟩
   ·rename_i he;rw [if_neg he] at h3;exact ⟨F',L',h1,h2,h3⟩
  | _=>exact hh))
def Pk (v:Value) (A B:Prop):Prop :=
 match v with
 | .bool t=>(t=true->A)/\(t=false->B)
 | _=>False
theorem AL {c:Operand} {x y:Code} (h:Pk (ev F c) (CV P M W n x F L Q) (CV P M W n y F L Q)):CV P M W n (.cond c x y) F L Q:=fun a w ha hw=>by
 unfold Pk at h
 split at h
 ·rename_i t ht
  have he:a.eval c = .bool t:=by rw [ha.eval];exact ht
  exact wp_cond_split he (fun e=>h.1 e a w ha hw) (fun e=>h.2 e a w ha hw)
 ·exact h.elim
theorem BP {c:Code} (I:Fr->List Ai->Prop) (μ:Fr->List Ai->Nat) (h₀:I F L)
  (round:∀F' L',I F' L'→CV P M W n c F' L' (BX (fun dV dW=>I dV dW/\μ dV dW<μ F' L') Q)):CV P M W n (.loop c) F L Q:=fun a w ha hw=>by
 intro b k cs
 have key:∀m F L a w,μ F L=m->I F L->Gu n a F->St M W L w →
   ∃e a' w',pG M W n Q e a' w'∧Arrives P (lone (b.at a (.code c :: .inLoop c::k)) cs w) b k cs e a' w':=by
  intro m
  induction m using Nat.strongRecOn with
  | _ m ih =>
   intro F L a w hm hI ha hw
   obtain ⟨e,a₁,w₁,hq,harr⟩:=round F L hI a w ha hw b (.inLoop c::k) cs
   cases e with
   | normal =>
    obtain ⟨F',L',h1,h2,hI₁,hlt⟩:=hq
    obtain ⟨e₂,a₂,w₂,hq₂,harr₂⟩:=ih (μ F' L') (hm▸hlt) F' L' a₁ w₁ rfl hI₁ h1 h2
    exact ⟨e₂,a₂,w₂,hq₂,.of_steps (Steps.trans harr (.one step_inLoop)) harr₂⟩
   | exit id=>exact ⟨.exit id,a₁,w₁,hq,.pass (x:=.inLoop c) rfl (fun _ _=>.inl (by simp)) harr⟩
   | goto l=>exact ⟨.goto l,a₁,w₁,hq,.pass (x:=.inLoop c) rfl (fun _ _=>.inl (by simp)) harr⟩
   | ret=>exact ⟨.ret,a₁,w₁,hq,.pass (x:=.inLoop c) rfl (fun _ _=>.inl (by simp)) harr⟩
   | panic ch=>exact hq.elim
   | outgrown=>exact hq.elim
 obtain ⟨e,a',w',hq,harr⟩:=key _ F L a w rfl h₀ ha hw
 exact ⟨e,a',w',hq,.of_steps (.one step_loop) harr⟩
theorem JH {ops:Array Oper} (h:ops.toList.all (fun o=>HV n o.dst)=true):∀j o d,nth ops.toList j=some o->o.dst=some d->d<n:=by
 intro j o d ho hd
 rw [EL] at ho
 have:=List.all_eq_true.1 h o (List.mem_of_getElem? ho)
 rw [hd] at this
 exact Tm this
theorem SG {id:Nat} {l:List Oper} (hd:l.all (fun o=>HV n o.dst)=true) {K:Fr->List Ai->Prop} (h:MX P M W n l true l F L K) (hk:∀F' L',K F' L'→Q .normal F' L'):CV P M W n (.region id l.toArray false) F L Q:=fun a w ha hw =>
 wp_region_list (Hm (ops:=l.toArray) (JH (by simpa using hd)) l hd (by simpa using h) ha hw fun F' L' a' w' hK h1 h2=>⟨F',L',h1,h2,hk _ _ hK⟩)
theorem AF {id:Nat} {l:List Oper} (hd:l.all (fun o=>HV n o.dst)=true) {K:Fr->List Ai->Prop} (h:MX P M W n l true l F L K):CV P M W n (.region id l.toArray false) F L (BX K Q):=SG hd h fun _ _ h=>h
theorem CF {id:Nat} {l:List Oper} (L0:List Ai) (hL0:∀w,St M W L w->St M W L0 w) (hsub:JC L0 L) (p:List (Bool×Nat)) (fin:List Nat) (hm:P.follows .mixedOrders=true) (hd:l.all (fun o=>HV n o.dst)=true) (hs:Region.noSelect l.toArray=true)
  (hp:JY .any l.toArray fin p (Array.replicate l.toArray.size false)=true) (hz:p.length=l.toArray.size) (hf:Db fin p=true) {K:Fr->List Ai->Prop} (h:O5 P M W n l L0 fin true p F L K):CV P M W n (.region id l.toArray true) F L (BX K Q):=fun a w ha hw =>
 Em p (St M W L0) fin hm hs hp hz (by intro c d v a w hh;exact hh)
  (JG (ops:=l.toArray) (K:=K) (JH (by simpa using hd)) (hL0 w hw).apart p (by simpa using h) ha hw.drew hf (.inr hsub) fun F' L' a' w' hK h1 h2=>⟨F',L',h1,h2,hK⟩)
theorem BR {id:Nat} {l:List Oper} (p:List (Bool×Nat)) (fin:List Nat) (hm:P.follows .mixedOrders=true) (hd:l.all (fun o=>HV n o.dst)=true) (hs:Region.noSelect l.toArray=true)
  (hp:JY .any l.toArray fin p (Array.replicate l.toArray.size false)=true) (hz:p.length=l.toArray.size) (hf:Db fin p=true) {K:Fr->List Ai->Prop} (h:O5 P M W n l L fin true p F L K):CV P M W n (.region id l.toArray true) F L (BX K Q) :=
 CF L (fun _ h=>h) (by rw [Ph];trivial) p fin hm hd hs hp hz hf h
def Ma:List ResultVar->Fr->Option Value
 | [.tmp t],F=>some (F t)
 | [.tmp t,.tmp u],F=>some (.tuple #[F t,F u])
 | [.tmp t,.tmp u,.tmp v],F=>some (.tuple #[F t,F u,F v])
 | [],F=>some (.tuple #[])
 | _,_=>none
theorem Xy {fn:Func} {a:Act} {v:Value} (ha:Gu n a F) (h:Ma fn.results.toList F=some v) (w:World):(results fn a.tmps).run P w = .ok v w:=by
 have hr:fn.results=fn.results.toList.toArray:=by simp
 revert h hr
 generalize fn.results.toList=l
 intro h hr
 unfold Ma at h
 split at h
 ·cases h;rw [results_tmp hr,<-ha.get]
 ·cases h;rw [results_tmp2 hr,<-ha.get,<-ha.get]
 ·cases h
  simp [results,hr]
  exact ⟨by simpa using ha.get _,by simpa using ha.get _,by simpa using ha.get _⟩
 ·cases h;rw [results_none hr]
 ·cases h
def eH (M:List Nat) (W:World) (rs:List ResultVar) (R:Ending->World->Prop):Exit->Fr->List Ai->Prop
 | .normal,F,L => ∃v,Ma rs F=some v∧∀w,St M W L w->R (.returned v) w
 | .ret,F,L => ∃v,Ma rs F=some v∧∀w,St M W L w->R (.returned v) w
 | _,_,_=>False
theorem eO {f:FuncId} {fn:Func} {c:Code} {args:List Value} {R:Ending->World->Prop} {L:List Ai} (rs:List ResultVar) (hrs:fn.results=rs.toArray) (hf:P.funcs[f]? = some fn) (hb:fn.body=some c) (hn:fn.ntmps=n) (hl:args.length<=n) (hw:St M W L W)
  (h:CV P M W n c (d_ args) L (eH M W rs R)):Calls P f args.toArray W R:=by
 obtain rfl:fn.results.toList=rs:=by rw [hrs]
 refine calls_of_wp hf hb (wp_mono (h _ W ⟨rfl,by simp [hn];omega,fun i=>?_⟩ hw) ?_)
 ·simp only [d_]
  rcases Nat.lt_or_ge i args.length with h1|h1
  ·have h2:i<(args.toArray++Array.replicate (fn.ntmps-args.toArray.size) undef).size:=by simp;omega
   simp [Array.getElem?_append,h1]
  ·have h2:args[i]? = none:=List.getElem?_eq_none h1
   simp [Array.getElem?_append,Nat.not_lt.2 h1,Array.getElem?_replicate,h2]
   split<;>rfl
 ·intro e a w hh
  cases e<;>first
   | exact hh.elim
   | (obtain ⟨F',L',h1,h2,h3⟩:=hh
      first
       | exact h3.elim
       | (obtain ⟨v,hv,hr⟩:=h3
          exact ⟨h1.defers,v,Xy h1 hv w,hr w h2⟩))
end
def inI:List (Nat×Nat)->Nat->Bool
 | [],_=>false
 | (a,b)::r,i=>(Nat.ble a i&&Nat.ble i b)||inI r i
def Only (D:List (Nat×Nat)) (F F':Fr):Prop := ∀i,inI D i=false->F' i=F i
theorem Only.get {D:List (Nat×Nat)} {F F':Fr} (h:Only D F F'):∀i,inI D i=false->F' i=F i:=h
theorem Only.refl (D:List (Nat×Nat)) (F:Fr):Only D F F:=fun _ _=>rfl
theorem Only.upd {D:List (Nat×Nat)} {F F':Fr} (h:Only D F F') {d:Nat} (hd:inI D d=true) (v:Value):Only D F (upd F' d v):=fun i hi=>by
 unfold Go.Proofs.YtegonkdandmolaaGreat.upd
 by_cases e:i=d
 ·subst e;rw [hd] at hi;cases hi
 ·rw [if_neg e];exact h i hi
theorem Ae {x:Int} (h1 : -9223372036854775808<=x) (h2:x<=9223372036854775807):IntKind.i64.wrap x=x:=IntWalk.i64_in _ ⟨h1,h2⟩
theorem look_eq (k:Nat) (t:TypeId) (cs:List Value) (L:List Ai):look (.blk k t cs::L) k=some cs:=by simp [look]
theorem Yv {b k:Nat} (h:b≠k) (t:TypeId) (cs:List Value) (L:List Ai):look (.blk b t cs::L) k=look L k:=by simp [look,h]
theorem VM (v:Value) (t:TypeId) (s n:Nat) (xs:List Value) (L:List Ai) (k:Nat):look (.row v t s n xs::L) k=look L k:=rfl
theorem look_nil (k:Nat):look [] k=none:=rfl
theorem Yw (k:Nat) (t:TypeId) (cs us:List Value) (L:List Ai):FK (.blk k t cs::L) k us = .blk k t us::L:=by simp [FK]
theorem Yx {b k:Nat} (h:b≠k) (t:TypeId) (cs us:List Value) (L:List Ai):FK (.blk b t cs::L) k us = .blk b t cs::FK L k us:=by simp [FK,h]
theorem VN (v:Value) (t:TypeId) (s n:Nat) (xs us:List Value) (L:List Ai) (k:Nat):FK (.row v t s n xs::L) k us = .row v t s n xs::FK L k us:=rfl
section
variable {P:Program} {M:List Nat} {W:World} {L:List Ai} {K:Bool->Value->List Ai->Prop} {g:FuncId} {args:Array Value}
theorem Aa {v:Value} (h:∀w,St M W L w->Calls P g args w (fun e w'=>e = .returned v/\Below w.heap.size w w')) (hk:K true v L):Ia P M W g args L K:=fun w hw =>
 (h w hw).mono (by rintro e w' ⟨rfl,hb⟩;exact ⟨v,L,rfl,hw.quiet hb,hk⟩)
theorem Et {ι:Sort _} (f:ι->Value) (φ:ι->Prop) (h:∀w,St M W L w->Calls P g args w (fun e w'=>(∃i,e = .returned (f i)/\φ i)/\Below w.heap.size w w')) (hk:∀i,φ i->K true (f i) L):Ia P M W g args L K:=fun w hw =>
 (h w hw).mono (by rintro e w' ⟨⟨i,rfl,hi⟩,hb⟩;exact ⟨f i,L,rfl,hw.quiet hb,hk i hi⟩)
theorem Jh {w:World} {base base':Nat} {t:TypeId} {size n:Nat} {v:Value} {xs:List Value} (h:w.ownsRow base t size v n xs) (hb:base'≤base):w.ownsRow base' t size v n xs:=by
 refine ⟨h.1, ?_⟩
 rcases h.2 with hn|⟨g,cap,cur,h1,h2,h3⟩
 ·exact .inl hn
 ·exact .inr ⟨g,cap,cur,h1,by omega,h3⟩
theorem Ic {w:World} {B:Nat} {t:TypeId} {size n:Nat} {v:Value} {xs:List Value} (h:Ai.holds w (.row v t size n xs)) (ho:∀b∈(Ai.row v t size n xs).foot,(B<=b\/b∈([]:List Nat))/\b<w.heap.size):w.ownsRow B t size v n xs:=by
 refine ⟨h.1, ?_⟩
 rcases h.2 with hn|⟨g,cap,cur,rfl,h2,h3⟩
 ·exact .inl hn
 ·have:=(ho g (by simp [Ai.foot,Value.ownBlock])).1
  exact .inr ⟨g,cap,cur,rfl,by simpa using this,h3⟩
theorem St.eP {w w':World} (hw:St M W L w) (hb:Below w.heap.size w w') {t:TypeId} {size n:Nat} {v:Value} {xs:List Value} (h:w'.ownsRow w.heap.size t size v n xs):St M W (.row v t size n xs::L) w' :=
 (hw.quiet hb).add _ (Jh h (Nat.zero_le _)) (fun b hbf=>by
  have:=h.lt b (by simpa [Ai.foot] using hbf)
  have h2:=hw.Bz.size
  exact ⟨.inl (by omega),this.2⟩) (fun s hs b hbf hbs=>by
  have:=h.lt b (by simpa [Ai.foot] using hbf)
  have h2:=(hw.own s hs b hbs).2
  omega)
def LW:List Ai->Nat->Prop
 | [],_=>True
 | .blk b _ _::L,k=>b≠k/\LW L k
 | _::L,k=>LW L k
theorem BC (k:Nat):LW [] k=True:=rfl
theorem BD (b:Nat) (t:TypeId) (cs:List Value) (L:List Ai) (k:Nat):LW (.blk b t cs::L) k=(b≠k/\LW L k):=rfl
theorem BI (v:Value) (t:TypeId) (s n:Nat) (xs:List Value) (L:List Ai) (k:Nat):LW (.row v t s n xs::L) k=LW L k:=rfl
theorem Lu:∀ {L:List Ai} {k:Nat},(∀r∈L,k∉r.foot)->LW L k
 | [],_,_=>trivial
 | .blk b t cs::L,k,h=>⟨fun e=>h (.blk b t cs) (by simp) (by simp [Ai.foot,e]),Lu fun r hr=>h r (by simp [hr])⟩
 | .row v t s n xs::L,k,h=>Lu (L:=L) fun r hr=>h r (by simp [hr])
 | .dat f p l::L,k,h=>Lu (L:=L) fun r hr=>h r (by simp [hr])
def rowAt (A:Option Addr) (n:Nat) (W:World) (M:List Nat) (L:List Ai):Prop:=(A=none/\n=0)∨∃g,A=some ⟨g,0,none⟩/\(W.heap.size<=g\/g∈M)/\LW L g
theorem St.Ji {w:World} {A:Option Addr} {n c:Nat} {t:TypeId} {size:Nat} {xs:List Value} (hw:St M W (.row (.slice A n c) t size n xs::L) w):rowAt A n W M L:=by
 rcases (hw.holds _ (.head _)).2 with ⟨h,hn⟩|⟨g,cap,cur,h,_⟩
 ·left
  injection h with h1
  exact ⟨h1,hn⟩
 ·right
  injection h with h1
  subst h1
  refine ⟨g,rfl,(hw.own _ (.head _) g (by simp [Ai.foot,Value.ownBlock])).1,Lu fun r hr hg=>?_⟩
  exact (List.pairwise_cons.1 hw.apart).1 r hr g (by simp [Ai.foot,Value.ownBlock]) hg
theorem Cn (f:Option Addr->Nat->Nat->Value) {t:TypeId} {size:Nat} {xs:List Value}
  (h:∀w,St M W L w->Calls P g args w (fun e w' => ∃A n c,e = .returned (f A n c)/\w'.ownsRow w.heap.size t size (.slice A n c) n xs/\Below w.heap.size w w'))
  (hk:∀A n c,xs.length=n*size->rowAt A n W M L->K true (f A n c) (.row (.slice A n c) t size n xs::L)):Ia P M W g args L K:=fun w hw =>
 (h w hw).mono (by rintro e w' ⟨A,n,c,rfl,ho,hb⟩;exact ⟨_,_,rfl,hw.eP hb ho,hk A n c ho.1 (hw.eP hb ho).Ji⟩)
def IQ (P:Program) (t:TypeId):Option (TypeId×Nat×Nat) :=
 match P.underlying t with
 | some (.slice e)=>match P.info? e with
  | some i=>match i.zero with
   | some z=>if z.cells.size=i.size/\0<i.size then some (e,i.size,i.bytes) else none
   | none=>none
  | none=>none
 | _=>none
theorem O6 {t e:TypeId} {size bytes:Nat} (h:IQ P t=some (e,size,bytes)):P.underlying t=some (.slice e)∧∃i z,P.info? e=some i/\i.zero=some z/\i.size=size/\i.bytes=bytes/\z.cells.size=size/\0<size:=by
 unfold IQ at h
 split at h
 ·rename_i e' he
  split at h
  ·rename_i i hi
   split at h
   ·rename_i z hz
    split at h
    ·rename_i hc
     simp only [Option.some.injEq,Prod.mk.injEq] at h
     obtain ⟨rfl,rfl,rfl⟩:=h
     exact ⟨he,i,z,hi,hz,rfl,rfl,hc.1,hc.2⟩
    ·cases h
   ·cases h
  ·cases h
 ·cases h
theorem Jj {w:World} {base:Nat} {t:TypeId} {size n:Nat} {v:Value} {xs:List Value} (h:w.ownsRow base t size v n xs):∃A c,v = .slice A n c:=by
 rcases h.2 with ⟨rfl,rfl⟩|⟨g,cap,cur,rfl,_⟩
 ·exact ⟨none,0,rfl⟩
 ·exact ⟨_,_,rfl⟩
theorem VO {ty t e:TypeId} {size bytes:Nat} {L':List Ai} {v:Value} {n m c:Nat} {A:Option Addr} {xs news:List Value} (ht:IQ P t=some (e,size,bytes))
  (hrow:∀w,St M W L w->St M W (.row v e size n xs::L') w) (hsrc:∀w,St M W L w->Reads w w.heap.size size A m news) (h1:ones news=true)
  (h63:n+m<=9223372036854775807) (hbytes:(n+m)*bytes<=140737488355328)
  (hk:∀A' c',(xs++news).length=(n+m)*size->rowAt A' (n+m) W M L'→K true (.slice A' (n+m) c') (.row (.slice A' (n+m) c') e size (n+m) (xs++news)::L')):mF P M W ty t L v (.slice A m c) K:=by
 intro w hw
 obtain ⟨hu,i,z,hi,hz,hs,hby,hzs,hsz⟩:=O6 ht
 have hst:St M W (.row v e size n xs::L') w:=hrow w hw
 have hown:w.ownsRow 0 e size v n xs:=hst.holds (.row v e size n xs) (by simp)
 obtain ⟨v',w',hrun,hown',hg,hblk⟩:=KG (P:=P) w 0 t ty e i z size bytes hu hi hz hs hby hzs hsz v n xs hown w.heap.size A m c news (hsrc w hw) (fun u hu=>List.all_eq_true.1 h1 u hu) (by unfold maxLen;omega) hbytes (Nat.zero_le _)
 obtain ⟨A',c',rfl⟩:=Jj hown'
 suffices hfin:St M W (.row (.slice A' (n+m) c') e size (n+m) (xs++news)::L') w' from ⟨_,_,w',hrun,hfin,hk A' c' hown'.1 hfin.Ji⟩
 have hfo:=hst.own (.row v e size n xs) (by simp)
 have hfa:=(List.pairwise_cons.1 hst.apart).1
 have hkeep:∀r∈L',∀b∈r.foot,w'.heap[b]? = w.heap[b]? := fun r hr b hb=>hg.block b (hst.own r (by simp [hr]) b hb).2 (by
  intro he
  exact hfa r hr b (by simp [Ai.foot,<-he]) hb)
 have eQ:Gf M W w':=⟨hg.os.trans hw.Bz.os,hg.tape.trans hw.Bz.tape,hg.output.trans hw.Bz.output,Nat.le_trans hw.Bz.size hg.size,fun k hk hm=>by
  rw [hg.block k (Nat.lt_of_lt_of_le hk hw.Bz.size) (by
   intro he
   rcases (hfo k (by simp [Ai.foot,<-he])).1 with h|h
   ·omega
   ·exact hm h)]
  exact hw.Bz.block k hk hm⟩
 have hL':St M W L' w':=⟨eQ,fun r hr=>r.keep (hst.holds r (by simp [hr])) (hkeep r hr),fun r hr b hb=>⟨(hst.own r (by simp [hr]) b hb).1,Nat.lt_of_lt_of_le (hst.own r (by simp [hr]) b hb).2 hg.size⟩,(List.pairwise_cons.1 hst.apart).2⟩
 refine hL'.add _ hown' ?_ ?_
 ·intro b hb
  have hb':(Value.slice A' (n+m) c').ownBlock=some b:=by simpa [Ai.foot] using hb
  have hlt:=(hown'.lt b hb').2
  refine ⟨?_,hlt⟩
  rcases hblk with h|h
  ·exact (hfo b (by simp [Ai.foot,<-h,hb'])).1
  ·rw [hb'] at h
   injection h with h
   subst h
   exact .inl hw.Bz.size
 ·intro s hs b hb hbs
  have hb':(Value.slice A' (n+m) c').ownBlock=some b:=by simpa [Ai.foot] using hb
  rcases hblk with h|h
  ·exact hfa s hs b (by simp [Ai.foot,<-h,hb']) hbs
  ·rw [hb'] at h
   injection h with h
   subst h
   exact absurd (hst.own s (by simp [hs]) _ hbs).2 (Nat.lt_irrefl _)
theorem DI:∀ {L:List Ai} {k:Nat} {r:Ai},nth L k=some r->L.Perm (r::L.eraseIdx k)
 | x::L,0,r,h=>by cases h;exact List.Perm.refl _
 | x::L,k+1,r,h=>by
  have:=DI (L:=L) (k:=k) (r:=r) h
  exact (List.Perm.cons x this).trans (List.Perm.swap r x _)
theorem Bj (k:Nat) {ty t e:TypeId} {size bytes:Nat} {v:Value} {n m c:Nat} {A:Option Addr} {xs news:List Value} (ht:IQ P t=some (e,size,bytes))
  (hrow:nth L k=some (.row v e size n xs)) (hsrc:∀w,St M W L w->Reads w w.heap.size size A m news) (h1:ones news=true)
  (h63:n+m<=9223372036854775807) (hbytes:(n+m)*bytes<=140737488355328)
  (hk:∀A' c',(xs++news).length=(n+m)*size->rowAt A' (n+m) W M (L.eraseIdx k)->K true (.slice A' (n+m) c') (.row (.slice A' (n+m) c') e size (n+m) (xs++news)::L.eraseIdx k)):mF P M W ty t L v (.slice A m c) K:=by
 exact VO ht (fun w hw=>hw.perm (DI hrow).symm) hsrc h1 h63 hbytes hk
theorem St.Fw {w:World} {b:Nat} {t:TypeId} {size n:Nat} {cs:List Value} (h:St M W (.blk b t cs::L) w) (hl:cs.length=n*size) (hn:n<=9223372036854775807):St M W (.row (.slice (some ⟨b,0,none⟩) n n) t size n cs::L) w:=by
 have ho:=h.own _ (.head _)
 refine h.tail.add _ ⟨hl,.inr ⟨b,n,cs.toArray,rfl,Nat.zero_le _,h.holds _ (.head _),Nat.le_refl _,by unfold maxLen;omega,by simpa using hl,by simp [<-hl]⟩⟩ ?_ ?_
 ·intro b' hb'
  exact ho b' (by simpa [Ai.foot,Value.ownBlock] using hb')
 ·intro s hs b' hb' hbs
  exact (List.pairwise_cons.1 h.apart).1 s hs b' (by simpa [Ai.foot,Value.ownBlock] using hb') hbs
theorem CR (k:Nat) {ty t e:TypeId} {size bytes b:Nat} {n m c:Nat} {A:Option Addr} {cs news:List Value} (ht:IQ P t=some (e,size,bytes))
  (hrow:nth L k=some (.blk b e cs)) (hl:cs.length=n*size) (hsrc:∀w,St M W L w->Reads w w.heap.size size A m news) (h1:ones news=true)
  (h63:n+m<=9223372036854775807) (hbytes:(n+m)*bytes<=140737488355328)
  (hk:∀A' c',(cs++news).length=(n+m)*size->rowAt A' (n+m) W M (L.eraseIdx k)->K true (.slice A' (n+m) c') (.row (.slice A' (n+m) c') e size (n+m) (cs++news)::L.eraseIdx k)):mF P M W ty t L (.slice (some ⟨b,0,none⟩) n n) (.slice A m c) K :=
 VO ht (fun w hw=>(hw.perm (DI hrow).symm).Fw hl (by omega)) hsrc h1 h63 hbytes hk
theorem DX {t T:TypeId} {g n c size i:Nat} {xs vs:List Value} (hm:Ai.row (.slice (some ⟨g,0,none⟩) n c) t size n xs∈L) (ht:Dk P T=some (true,vs.length)) (hv:(xs.drop i).take vs.length=vs) :
  LD P M W L T ⟨g,i,none⟩ (.agg vs.toArray):=fun w hw=>by
 have hv:∀(j:Nat) v,vs[j]? = some v->xs[i+j]? = some v:=fun j v h=>by
  rw [<-hv,List.getElem?_take] at h
  split at h
  ·simpa using h
  ·cases h
 refine Hz ht vs rfl fun j v hj=>?_
 have:=(hw.holds _ hm:w.ownsRow 0 t size (.slice (some ⟨g,0,none⟩) n c) n xs).cells (g:=g) rfl (i+j) v (hv j v hj)
 rw [Addr.add_lit] at this ⊢
 simpa using this
theorem BN {t T:TypeId} {g n c size i m:Nat} {xs:List Value} {v:Value} (hm:Ai.row (.slice (some ⟨g,0,none⟩) n c) t size n xs∈L) (ht:Dk P T=some (false,m)) (hv:xs[i]? = some v):LD P M W L T ⟨g,i,none⟩ v:=fun w hw=>by
 refine Es ht ?_
 have:=(hw.holds _ hm:w.ownsRow 0 t size (.slice (some ⟨g,0,none⟩) n c) n xs).cells (g:=g) rfl i v hv
 rw [Addr.add_lit] at this
 simpa using this
theorem Bp {b:Nat} {t:TypeId} {cs:List Value} {size m:Nat} (hm:Ai.blk b t cs∈L) (hl:cs.length=m*size) {w:World} (hw:St M W L w):Reads w w.heap.size size (some ⟨b,0,none⟩) m cs :=
 ⟨hl,fun _=>⟨_,rfl,(hw.own _ hm b (by simp [Ai.foot])).2,fun j u hu=>by rw [Addr.add_lit,Nat.zero_add,hw.Dz hm];exact hu⟩⟩
theorem EU {A:Option Addr} {n c:Nat} {t:TypeId} {size:Nat} {xs:List Value} (hm:Ai.row (.slice A n c) t size n xs∈L) {w:World} (hw:St M W L w):Reads w w.heap.size size A n xs :=
 Reads.Lr (hw.holds _ hm)
end
def Ag:List Nat->List Ai->List Ai
 | [],_=>[]
 | i::ix,L=>match nth L i with
  | some r=>r::Ag ix L
  | none=>Ag ix L
theorem Ku {L:List Ai} : ∀ {ix:List Nat} {r:Ai},r∈Ag ix L→∃i∈ix,nth L i=some r
 | i::ix,r,h=>by
  simp only [Ag] at h
  split at h
  ·rename_i s hs
   rcases List.mem_cons.1 h with rfl|h
   ·exact ⟨i,by simp,hs⟩
   ·obtain ⟨j,hj,h1⟩:=Ku h
    exact ⟨j,by simp [hj],h1⟩
  ·obtain ⟨j,hj,h1⟩:=Ku h
   exact ⟨j,by simp [hj],h1⟩
theorem St.pick {M:List Nat} {W w:World} {L:List Ai} (h:St M W L w) {ix:List Nat} (hnd:ix.Nodup):St M W (Ag ix L) w:=by
 have hmem:∀r∈Ag ix L,r∈L:=fun r hr=>by
  obtain ⟨i,_,hi⟩:=Ku hr
  rw [EL] at hi
  exact List.mem_of_getElem? hi
 refine ⟨h.Bz,fun r hr=>h.holds r (hmem r hr),fun r hr=>h.own r (hmem r hr), ?_⟩
 have key:∀(ix:List Nat),ix.Nodup->(Ag ix L).Pairwise (fun r s => ∀b∈r.foot,b∉s.foot):=by
  intro ix
  induction ix with
  | nil=>intro _;exact List.Pairwise.nil
  | cons i ix ih =>
   intro hn
   rw [List.nodup_cons] at hn
   simp only [Ag]
   split
   ·rename_i r hr
    refine List.pairwise_cons.2 ⟨fun s hs b hb hbs=>?_,ih hn.2⟩
    obtain ⟨j,hj,hjs⟩:=Ku hs
    have hne:i≠j:=fun e=>hn.1 (e▸hj)
    rw [EL] at hr hjs
    obtain ⟨hi1,hi2⟩:=List.getElem?_eq_some_iff.1 hr
    obtain ⟨hj1,hj2⟩:=List.getElem?_eq_some_iff.1 hjs
    have hp:=List.pairwise_iff_getElem.1 h.apart
    rcases Nat.lt_or_gt_of_ne hne with hlt|hlt
    ·exact hp i j hi1 hj1 hlt b (hi2▸hb) (hj2▸hbs)
    ·exact hp j i hj1 hi1 hlt b (hj2▸hbs) (hi2▸hb)
   ·exact ih hn.2
 exact key ix hnd
section
variable {P:Program} {M:List Nat} {W:World} {n:Nat} {c:Code} {F:Fr} {L:List Ai} {Q:Exit->Fr->List Ai->Prop}
theorem BF (ix:List Nat) (hnd:ix.Nodup) (h:CV P M W n c F (Ag ix L) Q):CV P M W n c F L Q:=fun a w ha hw=>h a w ha (hw.pick hnd)
theorem BG (ix:List Nat) (hnd:ix.Nodup) (h:CV P M W n c F L (fun e F' L'=>Q e F' (Ag ix L'))):CV P M W n c F L Q:=fun a w ha hw =>
 wp_mono (h a w ha hw) (by
  intro e a' w' hh
  cases e<;>first
   | exact hh
   | (obtain ⟨F',L',h1,h2,h3⟩:=hh;exact ⟨F',_,h1,h2.pick hnd,h3⟩))
theorem Jk {c:Code} (h:CV P M W n c F L (BX (fun F' L'=>Q .normal F' L') Q)):CV P M W n c F L Q:=h.mono fun e F' L' hh=>by cases e<;>exact hh
theorem AU {id:Nat} {l:List Oper} (hd:l.all (fun o=>HV n o.dst)=true) (h:MX P M W n l true l F L (fun F' L'=>Q .normal F' L')):CV P M W n (.region id l.toArray false) F L Q:=SG hd h fun _ _ h=>h
theorem D5 (t:TypeId) (size:Nat) (h:CV P M W n c F (.row (.slice none 0 0) t size 0 []::L) Q):CV P M W n c F L Q:=fun a w ha hw =>
 h a w ha (hw.add _ (World.ownsRow_nil w 0 t size) (by simp [Ai.foot,Value.ownBlock]) (by simp [Ai.foot,Value.ownBlock]))
end
def O7:List Ai->Nat->Prop
 | [],_=>True
 | .row (.slice A _ _) _ _ _ _::L,b=>(∀g,A=some ⟨g,0,none⟩->g≠b)/\O7 L b
 | _::L,b=>O7 L b
def Ee (W:World) (M:List Nat):List Ai->Prop
 | []=>True
 | .blk b _ _::L=>(W.heap.size<=b\/b∈M)/\LW L b/\O7 L b/\Ee W M L
 | .row (.slice A _ _) _ _ n _::L=>rowAt A n W M L/\Ee W M L
 | _::L=>Ee W M L
theorem Jl (b:Nat):O7 [] b=True:=rfl
theorem O8 (k:Nat) (t:TypeId) (cs:List Value) (L:List Ai) (b:Nat):O7 (.blk k t cs::L) b=O7 L b:=rfl
theorem Jm (A:Option Addr) (n c:Nat) (t:TypeId) (s m:Nat) (xs:List Value) (L:List Ai) (b:Nat):O7 (.row (.slice A n c) t s m xs::L) b=((∀g,A=some ⟨g,0,none⟩->g≠b)/\O7 L b):=rfl
theorem Kv (W:World) (M:List Nat):Ee W M []=True:=rfl
theorem GN (W:World) (M:List Nat) (k:Nat) (t:TypeId) (cs:List Value) (L:List Ai):Ee W M (.blk k t cs::L)=((W.heap.size<=k\/k∈M)/\LW L k/\O7 L k/\Ee W M L):=rfl
theorem GQ (W:World) (M:List Nat) (A:Option Addr) (n c:Nat) (t:TypeId) (s m:Nat) (xs:List Value) (L:List Ai):Ee W M (.row (.slice A n c) t s m xs::L)=(rowAt A m W M L/\Ee W M L):=rfl
theorem Tn:∀ {L:List Ai} {b:Nat},(∀r∈L,b∉r.foot)->O7 L b
 | [],_,_=>trivial
 | .blk k t cs::L,b,h=>Tn (L:=L) fun r hr=>h r (by simp [hr])
 | .dat f p l::L,b,h=>Tn (L:=L) fun r hr=>h r (by simp [hr])
 | .row v t s n xs::L,b,h=>by
  have h2:O7 L b:=Tn (L:=L) fun r hr=>h r (by simp [hr])
  unfold O7
  split
  ·trivial
  ·rename_i A m c t' s' n' xs' L' b' hh
   cases hh
   exact ⟨fun g hg e=>h _ (.head _) (by subst hg;simp [Ai.foot,Value.ownBlock,e]),h2⟩
  ·rename_i hh
   cases hh
   exact h2
theorem St.facts {M:List Nat} {W w:World} : ∀ {L:List Ai},St M W L w->Ee W M L
 | [],_=>trivial
 | .blk k t cs::L,h=>by
  have ht:St M W L w:=h.sub (List.sublist_cons_self _ _)
  have hp:=(List.pairwise_cons.1 h.apart).1
  have hk:∀r∈L,k∉r.foot:=fun r hr=>hp r hr k (by simp [Ai.foot])
  exact ⟨(h.own _ (.head _) k (by simp [Ai.foot])).1,Lu hk,Tn hk,ht.facts⟩
 | .dat f p l::L,h=>St.facts (L:=L) (h.sub (List.sublist_cons_self _ _))
 | .row v t s n xs::L,h=>by
  have ht:Ee W M L:=St.facts (h.sub (List.sublist_cons_self _ _))
  unfold Ee
  split
  ·trivial
  ·rename_i hh;cases hh
  ·rename_i A m c t' s' n' xs' L' hh
   cases hh
   rcases (h.holds _ (.head _)).2 with ⟨h1,hn⟩|⟨g,cap,cur,h1,_⟩
   ·injection h1 with h1
    exact ⟨.inl ⟨h1,hn⟩,ht⟩
   ·injection h1 with h1 h3
    subst h1
    subst h3
    exact ⟨h.Ji,ht⟩
  ·rename_i hh
   cases hh
   exact ht
theorem Mc {P:Program} {M:List Nat} {W:World} {n:Nat} {c:Code} {F:Fr} {L:List Ai} {Q:Exit->Fr->List Ai->Prop} (h:Ee W M L->CV P M W n c F L Q):CV P M W n c F L Q:=fun a w ha hw=>h hw.facts a w ha hw
theorem Aj {α:Sort _} {A:α->Prop} {K:α->Bool->Prop} {v:α} (h:A v) (hk:K v true):∃v,A v∧∀tok,tok=true->K v tok:=⟨v,h,fun _ e=>e▸hk⟩
theorem AQ {P:Program} {M:List Nat} {W:World} {n i:Nat} {l:List Oper} {y:Code} {F:Fr} {L:List Ai} {Q:Exit->Fr->List Ai->Prop} (hd:l.all (fun o=>HV n o.dst)=true) (h:∀K:Fr->List Ai->Prop,(∀F' L',CV P M W n y F' L' Q->K F' L')->MX P M W n l true l F L K):CV P M W n (.seq (.region i l.toArray false) y) F L Q:=AB fun K hK=>AF hd (h K hK)
theorem SH {P:Program} {M:List Nat} {W:World} {n i:Nat} {l:List Oper} {y:Code} {F F2:Fr} {L L2:List Ai} {Q:Exit->Fr->List Ai->Prop} (hd:l.all (fun o=>HV n o.dst)=true) (h:∀K:Fr->List Ai->Prop,MX P M W n l true l F L K=K F2 L2) (hk:CV P M W n y F2 L2 Q):CV P M W n (.seq (.region i l.toArray false) y) F L Q:=AQ hd fun K hK=>(h K)▸hK _ _ hk
def Az (F G:Fr):List Nat->Prop
 | []=>True
 | a::l=>F a=G a/\Az F G l
theorem VP (F:Fr):∀l,Az F F l
 | []=>trivial
 | _::l=>⟨rfl,VP F l⟩
theorem AV {P:Program} {M:List Nat} {W:World} {n:Nat} {c:Code} {F:Fr} {L:List Ai} {Q:Exit->Fr->List Ai->Prop} (l:List Nat) (h:∀G:Fr,Az G F l->CV P M W n c G L Q):CV P M W n c F L Q:=h F (VP F l)
theorem Xz {P:Program} {M:List Nat} {W:World} {n:Nat} {F:Fr} {L:List Ai} {Q:Exit->Fr->List Ai->Prop} {c:Operand} {x y:Code} {b:Bool} (hv:ev F c = .bool b) (h1:b=true->CV P M W n x F L Q) (h2:b=false->CV P M W n y F L Q):CV P M W n (.cond c x y) F L Q:=AL (by unfold Pk;rw [hv];exact ⟨h1,h2⟩)
theorem Ab {P:Program} {M:List Nat} {W:World} {n:Nat} {f:FuncId} {fn:Func} {c:Code} {args:List Value} {R:Ending->World->Prop} {L:List Ai} (hf:P.funcs[f]? = some fn) (rs:List ResultVar) (hw:St M W L W) (h:CV P M W n c (d_ args) L (eH M W rs R)) (hrs:fn.results=rs.toArray:=by exact rfl) (hb:fn.body=some c:=by exact rfl) (hn:fn.ntmps=n:=by exact rfl) (hl:args.length<=n:=by exact Nat.le_of_ble_eq_true rfl):Calls P f args.toArray W R:=eO rs hrs hf hb hn hl hw h
theorem ty0:CY Tryz.prog 27=some [.int .i64 0,.int .i64 0,.int .u32 0,.int .i64 0,.int .i64 0,.int .i64 0,.int .i64 0,.int .i64 0,.int .i64 0]:=by kernel_rfl
theorem ty1:Dk Tryz.prog 27=some (true,9):=by kernel_rfl
theorem ty2:Bt Tryz.prog 31=2:=by kernel_rfl
theorem ty3:CL Tryz.prog 27 2=some 2:=by kernel_rfl
theorem ty4:Dk Tryz.prog 23=some (false,1):=by kernel_rfl
theorem ty5:Bt Tryz.prog 36=3:=by kernel_rfl
theorem ty6:KC Tryz.prog 36=some (41,10):=by kernel_rfl
theorem ty7:Eo Tryz.prog 36=none:=by kernel_rfl
theorem ty8:Dk Tryz.prog 41=some (true,10):=by kernel_rfl
theorem ty9:CY Tryz.prog 41=some [.int .i64 0,.int .i64 0,.int .i64 0,.int .i64 0,.int .u64 0,.int .i64 0,.int .i64 0,.int .i64 0,.int .u64 0,.int .u64 0]:=by kernel_rfl
theorem ADc:KC Tryz.prog 47=some (68,5):=by kernel_rfl
theorem ADd:CY Tryz.prog 68=some [.int .i64 0,.int .i64 0,.int .u64 0,.int .u64 0,.int .i64 0]:=by kernel_rfl
theorem ADe:CL Tryz.prog 65 6=some 18:=by kernel_rfl
theorem ADf:CL Tryz.prog 50 1=some 1:=by kernel_rfl
theorem ADg:Dk Tryz.prog 47=some (false,1):=by kernel_rfl
theorem OP:IQ Tryz.prog 47=some (68,5,40):=by kernel_rfl
theorem ADh:Bt Tryz.prog 47=3:=by kernel_rfl
theorem ADi:Jc Tryz.prog 3=some .i64:=by kernel_rfl
theorem ADj:(Program.underlying Tryz.prog 5).isSome=true:=by kernel_rfl
theorem ADk:Eo Tryz.prog 47=none:=by kernel_rfl
theorem ADl:CL Tryz.prog 68 4=some 4:=by kernel_rfl
theorem ADm:Dk Tryz.prog 66=some (false,1):=by kernel_rfl
theorem ADn:tst Tryz.prog 27=some ([(0,1),(1,1),(2,1),(3,1),(4,3),(7,1),(8,1)],[.int .i64 0,.int .i64 0,.int .u32 0,.int .i64 0,.int .i64 0,.int .i64 0,.int .i64 0,.int .i64 0,.int .i64 0]):=by kernel_rfl
theorem ADo:tst Tryz.prog 25=some ([(0,1),(1,1),(2,1)],[.int .i64 0,.int .i64 0,.int .i64 0]):=by kernel_rfl
theorem ADp:CL Tryz.prog 27 4=some 4:=by kernel_rfl
theorem ADq:Dk Tryz.prog 25=some (true,3):=by kernel_rfl
theorem ADr:CL Tryz.prog 27 1=some 1:=by kernel_rfl
theorem ADs:Dk Tryz.prog 3=some (false,1):=by kernel_rfl
theorem ADt:CL Tryz.prog 27 3=some 3:=by kernel_rfl
theorem ADu:Bt Tryz.prog 22=3:=by kernel_rfl
theorem ADv:KC Tryz.prog 22=some (118,1):=by kernel_rfl
theorem ADw:CY Tryz.prog 118=some [.int .u16 0]:=by kernel_rfl
theorem pI:IQ Tryz.prog 22=some (118,1,2):=by kernel_rfl
theorem ADx:tst Tryz.prog 74=some ([(0,1),(1,1)],[.slice none 0 0,.int .i64 0]):=by kernel_rfl
theorem ADy:Bt Tryz.prog 33=3:=by kernel_rfl
theorem ADz:CL Tryz.prog 65 1=some 9:=by kernel_rfl
theorem AD0:KC Tryz.prog 33=some (81,2):=by kernel_rfl
theorem AD1:Eo Tryz.prog 33=none:=by kernel_rfl
theorem AD2:Dk Tryz.prog 81=some (true,2):=by kernel_rfl
theorem AD3:CY Tryz.prog 81=some [.int .i64 0,.slice none 0 0]:=by kernel_rfl
theorem AD4:tst Tryz.prog 41=some ([(0,1),(1,1),(2,1),(3,1),(4,1),(5,1),(6,1),(7,1),(8,1),(9,1)],[.int .i64 0,.int .i64 0,.int .i64 0,.int .i64 0,.int .u64 0,.int .i64 0,.int .i64 0,.int .i64 0,.int .u64 0,.int .u64 0]):=by kernel_rfl
theorem AD5:Jc Tryz.prog 38=some .u64:=by kernel_rfl
theorem AD6:(Program.underlying Tryz.prog 3).isSome=true:=by kernel_rfl
theorem AD7:CL Tryz.prog 41 0=some 0:=by kernel_rfl
theorem AD8:CL Tryz.prog 41 5=some 5:=by kernel_rfl
theorem AD9:CL Tryz.prog 41 1=some 1:=by kernel_rfl
theorem AD_:CL Tryz.prog 41 6=some 6:=by kernel_rfl
theorem AEA:CL Tryz.prog 41 7=some 7:=by kernel_rfl
theorem AEB:Jc Tryz.prog 83=some .u64:=by kernel_rfl
theorem AEC:CL Tryz.prog 41 8=some 8:=by kernel_rfl
theorem AED:Dk Tryz.prog 38=some (false,1):=by kernel_rfl
theorem AEE:CL Tryz.prog 41 4=some 4:=by kernel_rfl
theorem AEF:Dk Tryz.prog 39=some (false,1):=by kernel_rfl
theorem vg:IQ Tryz.prog 36=some (41,10,80):=by kernel_rfl
theorem AEG:CY Tryz.prog 44=some [.int .i64 0,.int .u64 0,.slice none 0 0]:=by kernel_rfl
theorem AEH:tst Tryz.prog 44=some ([(0,1),(1,1),(2,1)],[.int .i64 0,.int .u64 0,.slice none 0 0]):=by kernel_rfl
theorem AEI:Dk Tryz.prog 44=some (true,3):=by kernel_rfl
theorem AEJ:CL Tryz.prog 44 0=some 0:=by kernel_rfl
theorem AEK:CL Tryz.prog 41 9=some 9:=by kernel_rfl
theorem AEL:KC Tryz.prog 35=some (39,1):=by kernel_rfl
theorem AEM:CY Tryz.prog 39=some [.int .u64 0]:=by kernel_rfl
theorem vk:IQ Tryz.prog 35=some (39,1,8):=by kernel_rfl
theorem AEN:tst Tryz.prog 68=some ([(0,1),(1,1),(2,1),(3,1),(4,1)],[.int .i64 0,.int .i64 0,.int .u64 0,.int .u64 0,.int .i64 0]):=by kernel_rfl
theorem AEO:Bt Tryz.prog 99=3:=by kernel_rfl
theorem AEP:KC Tryz.prog 99=some (105,6):=by kernel_rfl
theorem AEQ:Eo Tryz.prog 99=none:=by kernel_rfl
theorem AER:CL Tryz.prog 105 1=some 1:=by kernel_rfl
theorem AES:CY Tryz.prog 4=some [.bool false]:=by kernel_rfl
theorem AET:CY Tryz.prog 99=some [.slice none 0 0]:=by kernel_rfl
theorem AEU:Dk Tryz.prog 99=some (false,1):=by kernel_rfl
theorem AEV:Bt Tryz.prog 110=0:=by kernel_rfl
theorem AEW:Om Tryz.prog 110=some 5:=by kernel_rfl
theorem AEX:Dk Tryz.prog 4=some (false,1):=by kernel_rfl
theorem AEY:Bt Tryz.prog 113=0:=by kernel_rfl
theorem AEZ:CY Tryz.prog 3=some [.int .i64 0]:=by kernel_rfl
theorem AEa:CL Tryz.prog 105 0=some 0:=by kernel_rfl
theorem AEb:Bt Tryz.prog 115=0:=by kernel_rfl
theorem AEc:CL Tryz.prog 74 1=some 1:=by kernel_rfl
theorem AEd:CL Tryz.prog 74 0=some 0:=by kernel_rfl
theorem AEe:Dk Tryz.prog 22=some (false,1):=by kernel_rfl
theorem AEf:Eo Tryz.prog 22=none:=by kernel_rfl
theorem AEg:Dk Tryz.prog 118=some (false,1):=by kernel_rfl
theorem AEh:(Program.underlying Tryz.prog 118).isSome=true:=by kernel_rfl
theorem AEi:tst Tryz.prog 65=some ([(0,9),(9,1),(10,2),(12,1),(13,1),(14,4),(18,3),(21,1),(22,1)],[.int .i64 0,.int .i64 0,.int .u32 0,.int .i64 0,.int .i64 0,.int .i64 0,.int .i64 0,.int .i64 0,.int .i64 0,.slice none 0 0,.int .i64 0,.slice none 0 0,.pointer none,.slice none 0 0,.int .i64 0,.int .i64 0,.int .i64 0,.slice none 0 0,.int .i64 0,.slice none 0 0,.slice none 0 0,.slice none 0 0,.slice none 0 0]):=by kernel_rfl
theorem AEj:CL Tryz.prog 65 2=some 10:=by kernel_rfl
theorem AEk:CL Tryz.prog 55 0=some 0:=by kernel_rfl
theorem AEl:CL Tryz.prog 27 0=some 0:=by kernel_rfl
theorem AEm:(Program.underlying Tryz.prog 23).isSome=true:=by kernel_rfl
theorem AEn:CL Tryz.prog 65 3=some 12:=by kernel_rfl
theorem AEo:Dk Tryz.prog 56=some (false,1):=by kernel_rfl
theorem AEp:CL Tryz.prog 65 5=some 14:=by kernel_rfl
theorem AEq:CL Tryz.prog 62 0=some 0:=by kernel_rfl
theorem AEr:CL Tryz.prog 50 0=some 0:=by kernel_rfl
theorem AEs:CL Tryz.prog 65 7=some 21:=by kernel_rfl
theorem AEt:Dk Tryz.prog 63=some (false,1):=by kernel_rfl
theorem AEu:CL Tryz.prog 65 8=some 22:=by kernel_rfl
theorem AEv:Dk Tryz.prog 48=some (false,1):=by kernel_rfl
theorem AEw:CL Tryz.prog 52 0=some 0:=by kernel_rfl
theorem AEx:Dk Tryz.prog 33=some (false,1):=by kernel_rfl
theorem vo:IQ Tryz.prog 33=some (81,2,32):=by kernel_rfl
theorem vw:CL Tryz.prog 81 0=some 0:=by kernel_rfl
theorem vz:KC Tryz.prog 79=some (126,2):=by kernel_rfl
theorem v_:CY Tryz.prog 126=some [.int .i64 0,.int .i64 0]:=by kernel_rfl
theorem wB:CL Tryz.prog 81 1=some 1:=by kernel_rfl
theorem wC:Dk Tryz.prog 79=some (false,1):=by kernel_rfl
theorem pJ:IQ Tryz.prog 79=some (126,2,16):=by kernel_rfl
theorem wD:tst Tryz.prog 81=some ([(0,1),(1,1)],[.int .i64 0,.slice none 0 0]):=by kernel_rfl
theorem wE:Bt Tryz.prog 35=3:=by kernel_rfl
theorem wF:CL Tryz.prog 41 2=some 2:=by kernel_rfl
theorem wG:KC Tryz.prog 48=some (3,1):=by kernel_rfl
theorem wH:Eo Tryz.prog 48=none:=by kernel_rfl
theorem wI:CL Tryz.prog 65 4=some 13:=by kernel_rfl
theorem wJ:Bt Tryz.prog 132=3:=by kernel_rfl
theorem wK:KC Tryz.prog 132=some (135,5):=by kernel_rfl
theorem wL:Eo Tryz.prog 132=none:=by kernel_rfl
theorem wM:CL Tryz.prog 135 1=some 1:=by kernel_rfl
theorem wN:Dk Tryz.prog 135=some (true,5):=by kernel_rfl
theorem wO:CY Tryz.prog 135=some [.int .u64 0,.int .i64 0,.int .i64 0,.int .i64 0,.int .i64 0]:=by kernel_rfl
theorem wP:Jc Tryz.prog 5=some .u8:=by kernel_rfl
theorem wQ:(Program.underlying Tryz.prog 38).isSome=true:=by kernel_rfl
theorem wR:KC Tryz.prog 42=some (5,1):=by kernel_rfl
theorem wS:CY Tryz.prog 5=some [.int .u8 0]:=by kernel_rfl
theorem wT:IQ Tryz.prog 42=some (5,1,1):=by kernel_rfl
theorem wU:CL Tryz.prog 41 3=some 3:=by kernel_rfl
theorem wV:tst Tryz.prog 147=some ([(0,1),(1,1)],[.map none,.map none]):=by kernel_rfl
theorem wW:Dk Tryz.prog 68=some (true,5):=by kernel_rfl
theorem wX:CL Tryz.prog 147 1=some 1:=by kernel_rfl
theorem wY:Dk Tryz.prog 145=some (false,1):=by kernel_rfl
theorem wZ:Bt Tryz.prog 48=3:=by kernel_rfl
theorem wh:CY Tryz.prog 105=some [.int .u64 0,.int .i64 0,.int .i64 0,.int .i64 0,.slice none 0 0,.slice none 0 0]:=by kernel_rfl
theorem KL:IQ Tryz.prog 99=some (105,6,80):=by kernel_rfl
theorem wm:CL Tryz.prog 159 1=some 1:=by kernel_rfl
theorem wo:Dk Tryz.prog 105=some (true,6):=by kernel_rfl
theorem wu:CY Tryz.prog 110=some [.int .i64 0,.int .i64 0,.int .i64 0,.int .i64 0,.int .i64 0]:=by kernel_rfl
theorem wy:CL Tryz.prog 110 1=some 1:=by kernel_rfl
theorem wz:CL Tryz.prog 105 4=some 5:=by kernel_rfl
theorem w9:Dk Tryz.prog 57=some (false,1):=by kernel_rfl
theorem w_:CL Tryz.prog 110 2=some 2:=by kernel_rfl
theorem xA:CL Tryz.prog 68 0=some 0:=by kernel_rfl
theorem xB:CL Tryz.prog 68 1=some 1:=by kernel_rfl
theorem xC:CL Tryz.prog 110 3=some 3:=by kernel_rfl
theorem xD:Dk Tryz.prog 110=some (true,5):=by kernel_rfl
theorem xE:CL Tryz.prog 159 2=some 2:=by kernel_rfl
theorem xF:CL Tryz.prog 25 0=some 0:=by kernel_rfl
theorem xG:CL Tryz.prog 25 1=some 1:=by kernel_rfl
theorem xH:CL Tryz.prog 25 2=some 2:=by kernel_rfl
theorem xI:CL Tryz.prog 27 5=some 7:=by kernel_rfl
theorem xJ:CL Tryz.prog 27 6=some 8:=by kernel_rfl
theorem xK:tst Tryz.prog 170=some ([(0,1),(1,1)],[.pointer none,.slice none 0 0]):=by kernel_rfl
theorem xL:Bt Tryz.prog 79=3:=by kernel_rfl
theorem xM:Eo Tryz.prog 79=none:=by kernel_rfl
theorem xN:Dk Tryz.prog 126=some (true,2):=by kernel_rfl
theorem xO:CL Tryz.prog 126 0=some 0:=by kernel_rfl
theorem xP:CL Tryz.prog 126 1=some 1:=by kernel_rfl
theorem xQ:Bt Tryz.prog 126=0:=by kernel_rfl
theorem xR:Om Tryz.prog 126=some 2:=by kernel_rfl
theorem xS:tst Tryz.prog 126=some ([(0,1),(1,1)],[.int .i64 0,.int .i64 0]):=by kernel_rfl
theorem xU:Eo Tryz.prog 35=none:=by kernel_rfl
theorem xV:CY Tryz.prog 25=some [.int .i64 0,.int .i64 0,.int .i64 0]:=by kernel_rfl
theorem xW:CL Tryz.prog 59 0=some 0:=by kernel_rfl
theorem xX:Bt Tryz.prog 57=3:=by kernel_rfl
theorem xY:KC Tryz.prog 57=some (163,4):=by kernel_rfl
theorem xZ:Eo Tryz.prog 57=none:=by kernel_rfl
theorem xe:CL Tryz.prog 163 1=some 1:=by kernel_rfl
theorem xf:Dk Tryz.prog 163=some (true,4):=by kernel_rfl
theorem xg:CY Tryz.prog 163=some [.int .i64 0,.int .i64 0,.int .i64 0,.int .i64 0]:=by kernel_rfl
theorem Ld:IQ Tryz.prog 57=some (163,4,32):=by kernel_rfl
theorem xh:CL Tryz.prog 170 1=some 1:=by kernel_rfl
theorem xk:Dk Tryz.prog 132=some (false,1):=by kernel_rfl
theorem xm:CL Tryz.prog 170 0=some 0:=by kernel_rfl
theorem xq:Dk Tryz.prog 166=some (false,1):=by kernel_rfl
theorem xu:CL Tryz.prog 182 2=some 2:=by kernel_rfl
theorem xw:Dk Tryz.prog 180=some (false,1):=by kernel_rfl
theorem xx:KC Tryz.prog 180=some (4,1):=by kernel_rfl
theorem xy:Eo Tryz.prog 180=none:=by kernel_rfl
theorem rG:IQ Tryz.prog 132=some (135,5,40):=by kernel_rfl
theorem xz:CL Tryz.prog 135 0=some 0:=by kernel_rfl
theorem x8:CL Tryz.prog 135 3=some 3:=by kernel_rfl
theorem x9:CL Tryz.prog 103 1=some 1:=by kernel_rfl
theorem x_:Dk Tryz.prog 103=some (true,2):=by kernel_rfl
theorem yA:KC Tryz.prog 63=some (42,1):=by kernel_rfl
theorem yB:Eo Tryz.prog 63=none:=by kernel_rfl
theorem yC:Dk Tryz.prog 42=some (false,1):=by kernel_rfl
theorem yD:CL Tryz.prog 50 2=some 2:=by kernel_rfl
theorem J_:IQ Tryz.prog 48=some (3,1,8):=by kernel_rfl
theorem yE:CL Tryz.prog 182 3=some 3:=by kernel_rfl
theorem yF:CY Tryz.prog 103=some [.int .i64 0,.int .i64 0]:=by kernel_rfl
theorem yG:tst Tryz.prog 135=some ([(0,1),(1,1),(2,1),(3,2)],[.int .u64 0,.int .i64 0,.int .i64 0,.int .i64 0,.int .i64 0]):=by kernel_rfl
theorem yH:CY Tryz.prog 194=some [.int .i64 0,.int .i64 0,.int .i64 0]:=by kernel_rfl
theorem yI:Dk Tryz.prog 194=some (true,3):=by kernel_rfl
theorem yJ:CL Tryz.prog 194 0=some 0:=by kernel_rfl
theorem yK:CL Tryz.prog 194 1=some 1:=by kernel_rfl
theorem yL:Eo Tryz.prog 42=none:=by kernel_rfl
theorem yM:Dk Tryz.prog 5=some (false,1):=by kernel_rfl
theorem yN:Bt Tryz.prog 42=3:=by kernel_rfl
theorem yO:CL Tryz.prog 147 0=some 0:=by kernel_rfl
theorem yP:Dk Tryz.prog 144=some (false,1):=by kernel_rfl
theorem yQ:CL Tryz.prog 208 0=some 0:=by kernel_rfl
theorem yR:CL Tryz.prog 208 1=some 1:=by kernel_rfl
theorem yS:tst Tryz.prog 105=some ([(0,1),(1,1),(2,2),(4,1),(5,1)],[.int .u64 0,.int .i64 0,.int .i64 0,.int .i64 0,.slice none 0 0,.slice none 0 0]):=by kernel_rfl
theorem yT:CL Tryz.prog 208 3=some 3:=by kernel_rfl
theorem yU:Dk Tryz.prog 206=some (false,1):=by kernel_rfl
theorem yV:CL Tryz.prog 208 2=some 2:=by kernel_rfl
theorem yX:tst Tryz.prog 163=some ([(0,1),(1,1),(2,1),(3,1)],[.int .i64 0,.int .i64 0,.int .i64 0,.int .i64 0]):=by kernel_rfl
theorem yY:tst Tryz.prog 159=some ([(0,1),(1,1),(2,1)],[.slice none 0 0,.slice none 0 0,.slice none 0 0]):=by kernel_rfl
theorem yZ:CL Tryz.prog 105 2=some 2:=by kernel_rfl
theorem yc:Bt Tryz.prog 103=0:=by kernel_rfl
theorem yf:Om Tryz.prog 103=some 2:=by kernel_rfl
theorem yg:CL Tryz.prog 105 3=some 4:=by kernel_rfl
theorem yh:uw Tryz.prog 42 9=true:=by kernel_rfl
theorem yj:Jc Tryz.prog 9=none:=by kernel_rfl
theorem yl:(Program.underlying Tryz.prog 42).isSome=true:=by kernel_rfl
theorem ym:Bt Tryz.prog 9=4:=by kernel_rfl
theorem yn:tst Tryz.prog 182=some ([(0,1),(1,1),(2,1),(3,1),(4,1)],[.int .i64 0,.slice none 0 0,.slice none 0 0,.slice none 0 0,.int .i64 0]):=by kernel_rfl
theorem yo:tst Tryz.prog 194=some ([(0,1),(1,1),(2,1)],[.int .i64 0,.int .i64 0,.int .i64 0]):=by kernel_rfl
theorem yu:KC Tryz.prog 172=some (194,3):=by kernel_rfl
theorem X3:IQ Tryz.prog 172=some (194,3,24):=by kernel_rfl
theorem yw:CL Tryz.prog 62 1=some 3:=by kernel_rfl
theorem yx:Dk Tryz.prog 60=some (false,1):=by kernel_rfl
theorem yz:Bt Tryz.prog 60=3:=by kernel_rfl
theorem y9:KC Tryz.prog 60=some (213,4):=by kernel_rfl
theorem y_:Eo Tryz.prog 60=none:=by kernel_rfl
theorem zA:CL Tryz.prog 213 0=some 0:=by kernel_rfl
theorem zB:CL Tryz.prog 213 1=some 1:=by kernel_rfl
theorem zC:Dk Tryz.prog 213=some (true,4):=by kernel_rfl
theorem zD:CY Tryz.prog 213=some [.int .i64 0,.int .i64 0,.int .i64 0,.int .i64 0]:=by kernel_rfl
theorem eT:IQ Tryz.prog 60=some (213,4,32):=by kernel_rfl
theorem zF:tst Tryz.prog 213=some ([(0,1),(1,3)],[.int .i64 0,.int .i64 0,.int .i64 0,.int .i64 0]):=by kernel_rfl
theorem zG:(Program.underlying Tryz.prog 39).isSome=true:=by kernel_rfl
theorem zH:CL Tryz.prog 55 1=some 1:=by kernel_rfl
theorem zI:Dk Tryz.prog 53=some (false,1):=by kernel_rfl
theorem zJ:Bt Tryz.prog 53=3:=by kernel_rfl
theorem zK:KC Tryz.prog 53=some (103,2):=by kernel_rfl
theorem zL:Eo Tryz.prog 53=none:=by kernel_rfl
theorem Ie:IQ Tryz.prog 53=some (103,2,16):=by kernel_rfl
theorem zM:tst Tryz.prog 103=some ([(0,1),(1,1)],[.int .i64 0,.int .i64 0]):=by kernel_rfl
theorem zN:CL Tryz.prog 163 2=some 2:=by kernel_rfl
theorem zO:CL Tryz.prog 135 2=some 2:=by kernel_rfl
theorem zP:CL Tryz.prog 194 2=some 2:=by kernel_rfl
theorem zQ:CL Tryz.prog 163 0=some 0:=by kernel_rfl
theorem zR:CL Tryz.prog 163 3=some 3:=by kernel_rfl
theorem zS:CL Tryz.prog 68 3=some 3:=by kernel_rfl
theorem zT:CL Tryz.prog 68 2=some 2:=by kernel_rfl
theorem zU:Bt Tryz.prog 153=2:=by kernel_rfl
theorem zV:tst Tryz.prog 208=some ([(0,1),(1,1),(2,1),(3,1)],[.int .u64 0,.int .i64 0,.int .i64 0,.map none]):=by kernel_rfl
theorem zW:Bt Tryz.prog 206=0:=by kernel_rfl
theorem zX:CL Tryz.prog 159 0=some 0:=by kernel_rfl
theorem zY:Bt Tryz.prog 163=0:=by kernel_rfl
theorem zZ:Om Tryz.prog 163=some 4:=by kernel_rfl
theorem za:CL Tryz.prog 182 1=some 1:=by kernel_rfl
theorem zb:CL Tryz.prog 182 4=some 4:=by kernel_rfl
theorem zf:CL Tryz.prog 103 0=some 0:=by kernel_rfl
theorem zh:CL Tryz.prog 182 0=some 0:=by kernel_rfl
theorem zi:Bt Tryz.prog 180=3:=by kernel_rfl
theorem zk:Eo Tryz.prog 172=none:=by kernel_rfl
theorem zl:Jc Tryz.prog 23=some .u32:=by kernel_rfl
theorem zm:(Program.underlying Tryz.prog 83).isSome=true:=by kernel_rfl
theorem zn:Jc Tryz.prog 250=some .u64:=by kernel_rfl
theorem zo:CY Tryz.prog 250=some [.int .u64 0]:=by kernel_rfl
theorem zt:Dk Tryz.prog 250=some (false,1):=by kernel_rfl
theorem tyA:(CY Tryz.prog 27=some [.int .i64 0,.int .i64 0,.int .u32 0,.int .i64 0,.int .i64 0,.int .i64 0,.int .i64 0,.int .i64 0,.int .i64 0])/\(Dk Tryz.prog 27=some (true,9))/\(Bt Tryz.prog 31=2)/\(CL Tryz.prog 27 2=some 2)/\(Dk Tryz.prog 23=some (false,1))/\(Bt Tryz.prog 36=3)/\(KC Tryz.prog 36=some (41,10))/\(Eo Tryz.prog 36=none)/\(Dk Tryz.prog 41=some (true,10))/\(CY Tryz.prog 41=some [.int .i64 0,.int .i64 0,.int .i64 0,.int .i64 0,.int .u64 0,.int .i64 0,.int .i64 0,.int .i64 0,.int .u64 0,.int .u64 0])/\(KC Tryz.prog 47=some (68,5))/\(CY Tryz.prog 68=some [.int .i64 0,.int .i64 0,.int .u64 0,.int .u64 0,.int .i64 0])/\(CL Tryz.prog 65 6=some 18)/\(CL Tryz.prog 50 1=some 1)/\(Dk Tryz.prog 47=some (false,1))/\(IQ Tryz.prog 47=some (68,5,40))/\(Bt Tryz.prog 47=3)/\(Jc Tryz.prog 3=some .i64)/\((Program.underlying Tryz.prog 5).isSome=true)/\(Eo Tryz.prog 47=none)/\(CL Tryz.prog 68 4=some 4)/\(Dk Tryz.prog 66=some (false,1))/\(tst Tryz.prog 27=some ([(0,1),(1,1),(2,1),(3,1),(4,3),(7,1),(8,1)],[.int .i64 0,.int .i64 0,.int .u32 0,.int .i64 0,.int .i64 0,.int .i64 0,.int .i64 0,.int .i64 0,.int .i64 0]))/\(tst Tryz.prog 25=some ([(0,1),(1,1),(2,1)],[.int .i64 0,.int .i64 0,.int .i64 0]))/\(CL Tryz.prog 27 4=some 4)/\(Dk Tryz.prog 25=some (true,3))/\(CL Tryz.prog 27 1=some 1)/\(Dk Tryz.prog 3=some (false,1))/\(CL Tryz.prog 27 3=some 3)/\(Bt Tryz.prog 22=3)/\(KC Tryz.prog 22=some (118,1))/\(CY Tryz.prog 118=some [.int .u16 0])/\(IQ Tryz.prog 22=some (118,1,2))/\(tst Tryz.prog 74=some ([(0,1),(1,1)],[.slice none 0 0,.int .i64 0]))/\(Bt Tryz.prog 33=3)/\(CL Tryz.prog 65 1=some 9)/\(KC Tryz.prog 33=some (81,2))/\(Eo Tryz.prog 33=none)/\(Dk Tryz.prog 81=some (true,2))/\(CY Tryz.prog 81=some [.int .i64 0,.slice none 0 0])/\(tst Tryz.prog 41=some ([(0,1),(1,1),(2,1),(3,1),(4,1),(5,1),(6,1),(7,1),(8,1),(9,1)],[.int .i64 0,.int .i64 0,.int .i64 0,.int .i64 0,.int .u64 0,.int .i64 0,.int .i64 0,.int .i64 0,.int .u64 0,.int .u64 0]))/\(Jc Tryz.prog 38=some .u64)/\((Program.underlying Tryz.prog 3).isSome=true)/\(CL Tryz.prog 41 0=some 0)/\(CL Tryz.prog 41 5=some 5)/\(CL Tryz.prog 41 1=some 1)/\(CL Tryz.prog 41 6=some 6)/\(CL Tryz.prog 41 7=some 7)/\(Jc Tryz.prog 83=some .u64)/\(CL Tryz.prog 41 8=some 8)/\(Dk Tryz.prog 38=some (false,1))/\(CL Tryz.prog 41 4=some 4)/\(Dk Tryz.prog 39=some (false,1))/\(IQ Tryz.prog 36=some (41,10,80))/\(CY Tryz.prog 44=some [.int .i64 0,.int .u64 0,.slice none 0 0])/\(tst Tryz.prog 44=some ([(0,1),(1,1),(2,1)],[.int .i64 0,.int .u64 0,.slice none 0 0]))/\(Dk Tryz.prog 44=some (true,3))/\(CL Tryz.prog 44 0=some 0)/\(CL Tryz.prog 41 9=some 9)/\(KC Tryz.prog 35=some (39,1))/\(CY Tryz.prog 39=some [.int .u64 0])/\(IQ Tryz.prog 35=some (39,1,8))/\(tst Tryz.prog 68=some ([(0,1),(1,1),(2,1),(3,1),(4,1)],[.int .i64 0,.int .i64 0,.int .u64 0,.int .u64 0,.int .i64 0]))/\(Bt Tryz.prog 99=3)/\(KC Tryz.prog 99=some (105,6))/\(Eo Tryz.prog 99=none)/\(CL Tryz.prog 105 1=some 1)/\(CY Tryz.prog 4=some [.bool false])/\(CY Tryz.prog 99=some [.slice none 0 0])/\(Dk Tryz.prog 99=some (false,1))/\(Bt Tryz.prog 110=0)/\(Om Tryz.prog 110=some 5)/\(Dk Tryz.prog 4=some (false,1))/\(Bt Tryz.prog 113=0)/\(CY Tryz.prog 3=some [.int .i64 0])/\(CL Tryz.prog 105 0=some 0)/\(Bt Tryz.prog 115=0)/\(CL Tryz.prog 74 1=some 1)/\(CL Tryz.prog 74 0=some 0)/\(Dk Tryz.prog 22=some (false,1))/\(Eo Tryz.prog 22=none)/\(Dk Tryz.prog 118=some (false,1))/\((Program.underlying Tryz.prog 118).isSome=true)/\(tst Tryz.prog 65=some ([(0,9),(9,1),(10,2),(12,1),(13,1),(14,4),(18,3),(21,1),(22,1)],[.int .i64 0,.int .i64 0,.int .u32 0,.int .i64 0,.int .i64 0,.int .i64 0,.int .i64 0,.int .i64 0,.int .i64 0,.slice none 0 0,.int .i64 0,.slice none 0 0,.pointer none,.slice none 0 0,.int .i64 0,.int .i64 0,.int .i64 0,.slice none 0 0,.int .i64 0,.slice none 0 0,.slice none 0 0,.slice none 0 0,.slice none 0 0]))/\(CL Tryz.prog 65 2=some 10)/\(CL Tryz.prog 55 0=some 0)/\(CL Tryz.prog 27 0=some 0)/\((Program.underlying Tryz.prog 23).isSome=true)/\(CL Tryz.prog 65 3=some 12)/\(Dk Tryz.prog 56=some (false,1))/\(CL Tryz.prog 65 5=some 14)/\(CL Tryz.prog 62 0=some 0)/\(CL Tryz.prog 50 0=some 0)/\(CL Tryz.prog 65 7=some 21)/\(Dk Tryz.prog 63=some (false,1))/\(CL Tryz.prog 65 8=some 22)/\(Dk Tryz.prog 48=some (false,1))/\(CL Tryz.prog 52 0=some 0)/\(Dk Tryz.prog 33=some (false,1))/\(IQ Tryz.prog 33=some (81,2,32))/\(CL Tryz.prog 81 0=some 0)/\(KC Tryz.prog 79=some (126,2))/\(CY Tryz.prog 126=some [.int .i64 0,.int .i64 0])/\(CL Tryz.prog 81 1=some 1)/\(Dk Tryz.prog 79=some (false,1))/\(IQ Tryz.prog 79=some (126,2,16))/\(tst Tryz.prog 81=some ([(0,1),(1,1)],[.int .i64 0,.slice none 0 0]))/\(Bt Tryz.prog 35=3)/\(CL Tryz.prog 41 2=some 2)/\(KC Tryz.prog 48=some (3,1))/\(Eo Tryz.prog 48=none)/\(CL Tryz.prog 65 4=some 13)/\(Bt Tryz.prog 132=3)/\(KC Tryz.prog 132=some (135,5))/\(Eo Tryz.prog 132=none)/\(CL Tryz.prog 135 1=some 1)/\(Dk Tryz.prog 135=some (true,5))/\(CY Tryz.prog 135=some [.int .u64 0,.int .i64 0,.int .i64 0,.int .i64 0,.int .i64 0])/\(Jc Tryz.prog 5=some .u8)/\((Program.underlying Tryz.prog 38).isSome=true)/\(KC Tryz.prog 42=some (5,1))/\(CY Tryz.prog 5=some [.int .u8 0])/\(IQ Tryz.prog 42=some (5,1,1))/\(CL Tryz.prog 41 3=some 3)/\(tst Tryz.prog 147=some ([(0,1),(1,1)],[.map none,.map none]))/\(Dk Tryz.prog 68=some (true,5))/\(CL Tryz.prog 147 1=some 1)/\(Dk Tryz.prog 145=some (false,1))/\(Bt Tryz.prog 48=3)/\(CY Tryz.prog 105=some [.int .u64 0,.int .i64 0,.int .i64 0,.int .i64 0,.slice none 0 0,.slice none 0 0])/\(IQ Tryz.prog 99=some (105,6,80))/\(CL Tryz.prog 159 1=some 1)/\(Dk Tryz.prog 105=some (true,6))/\(CY Tryz.prog 110=some [.int .i64 0,.int .i64 0,.int .i64 0,.int .i64 0,.int .i64 0])/\(CL Tryz.prog 110 1=some 1)/\(CL Tryz.prog 105 4=some 5)/\(Dk Tryz.prog 57=some (false,1))/\(CL Tryz.prog 110 2=some 2)/\(CL Tryz.prog 68 0=some 0)/\(CL Tryz.prog 68 1=some 1)/\(CL Tryz.prog 110 3=some 3)/\(Dk Tryz.prog 110=some (true,5))/\(CL Tryz.prog 159 2=some 2)/\(CL Tryz.prog 25 0=some 0)/\(CL Tryz.prog 25 1=some 1)/\(CL Tryz.prog 25 2=some 2)/\(CL Tryz.prog 27 5=some 7)/\(CL Tryz.prog 27 6=some 8)/\(tst Tryz.prog 170=some ([(0,1),(1,1)],[.pointer none,.slice none 0 0]))/\(Bt Tryz.prog 79=3)/\(Eo Tryz.prog 79=none)/\(Dk Tryz.prog 126=some (true,2))/\(CL Tryz.prog 126 0=some 0)/\(CL Tryz.prog 126 1=some 1)/\(Bt Tryz.prog 126=0)/\(Om Tryz.prog 126=some 2)/\(tst Tryz.prog 126=some ([(0,1),(1,1)],[.int .i64 0,.int .i64 0]))/\(Eo Tryz.prog 35=none)/\(CY Tryz.prog 25=some [.int .i64 0,.int .i64 0,.int .i64 0])/\(CL Tryz.prog 59 0=some 0)/\(Bt Tryz.prog 57=3)/\(KC Tryz.prog 57=some (163,4))/\(Eo Tryz.prog 57=none)/\(CL Tryz.prog 163 1=some 1)/\(Dk Tryz.prog 163=some (true,4))/\(CY Tryz.prog 163=some [.int .i64 0,.int .i64 0,.int .i64 0,.int .i64 0])/\(IQ Tryz.prog 57=some (163,4,32))/\(CL Tryz.prog 170 1=some 1)/\(Dk Tryz.prog 132=some (false,1))/\(CL Tryz.prog 170 0=some 0)/\(Dk Tryz.prog 166=some (false,1))/\(CL Tryz.prog 182 2=some 2)/\(Dk Tryz.prog 180=some (false,1))/\(KC Tryz.prog 180=some (4,1))/\(Eo Tryz.prog 180=none)/\(IQ Tryz.prog 132=some (135,5,40))/\(CL Tryz.prog 135 0=some 0)/\(CL Tryz.prog 135 3=some 3)/\(CL Tryz.prog 103 1=some 1)/\(Dk Tryz.prog 103=some (true,2))/\(KC Tryz.prog 63=some (42,1))/\(Eo Tryz.prog 63=none)/\(Dk Tryz.prog 42=some (false,1))/\(CL Tryz.prog 50 2=some 2)/\(IQ Tryz.prog 48=some (3,1,8))/\(CL Tryz.prog 182 3=some 3)/\(CY Tryz.prog 103=some [.int .i64 0,.int .i64 0])/\(tst Tryz.prog 135=some ([(0,1),(1,1),(2,1),(3,2)],[.int .u64 0,.int .i64 0,.int .i64 0,.int .i64 0,.int .i64 0]))/\(CY Tryz.prog 194=some [.int .i64 0,.int .i64 0,.int .i64 0])/\(Dk Tryz.prog 194=some (true,3))/\(CL Tryz.prog 194 0=some 0)/\(CL Tryz.prog 194 1=some 1)/\(Eo Tryz.prog 42=none)/\(Dk Tryz.prog 5=some (false,1))/\(Bt Tryz.prog 42=3)/\(CL Tryz.prog 147 0=some 0)/\(Dk Tryz.prog 144=some (false,1))/\(CL Tryz.prog 208 0=some 0)/\(CL Tryz.prog 208 1=some 1)/\(tst Tryz.prog 105=some ([(0,1),(1,1),(2,2),(4,1),(5,1)],[.int .u64 0,.int .i64 0,.int .i64 0,.int .i64 0,.slice none 0 0,.slice none 0 0]))/\(CL Tryz.prog 208 3=some 3)/\(Dk Tryz.prog 206=some (false,1))/\(CL Tryz.prog 208 2=some 2)/\(tst Tryz.prog 163=some ([(0,1),(1,1),(2,1),(3,1)],[.int .i64 0,.int .i64 0,.int .i64 0,.int .i64 0]))/\(tst Tryz.prog 159=some ([(0,1),(1,1),(2,1)],[.slice none 0 0,.slice none 0 0,.slice none 0 0]))/\(CL Tryz.prog 105 2=some 2)/\(Bt Tryz.prog 103=0)/\(Om Tryz.prog 103=some 2)/\(CL Tryz.prog 105 3=some 4)/\(uw Tryz.prog 42 9=true)/\(Jc Tryz.prog 9=none)/\((Program.underlying Tryz.prog 42).isSome=true)/\(Bt Tryz.prog 9=4)/\(tst Tryz.prog 182=some ([(0,1),(1,1),(2,1),(3,1),(4,1)],[.int .i64 0,.slice none 0 0,.slice none 0 0,.slice none 0 0,.int .i64 0]))/\(tst Tryz.prog 194=some ([(0,1),(1,1),(2,1)],[.int .i64 0,.int .i64 0,.int .i64 0]))/\(KC Tryz.prog 172=some (194,3))/\(IQ Tryz.prog 172=some (194,3,24))/\(CL Tryz.prog 62 1=some 3)/\(Dk Tryz.prog 60=some (false,1))/\(Bt Tryz.prog 60=3)/\(KC Tryz.prog 60=some (213,4))/\(Eo Tryz.prog 60=none)/\(CL Tryz.prog 213 0=some 0)/\(CL Tryz.prog 213 1=some 1)/\(Dk Tryz.prog 213=some (true,4))/\(CY Tryz.prog 213=some [.int .i64 0,.int .i64 0,.int .i64 0,.int .i64 0])/\(IQ Tryz.prog 60=some (213,4,32))/\(tst Tryz.prog 213=some ([(0,1),(1,3)],[.int .i64 0,.int .i64 0,.int .i64 0,.int .i64 0]))/\((Program.underlying Tryz.prog 39).isSome=true)/\(CL Tryz.prog 55 1=some 1)/\(Dk Tryz.prog 53=some (false,1))/\(Bt Tryz.prog 53=3)/\(KC Tryz.prog 53=some (103,2))/\(Eo Tryz.prog 53=none)/\(IQ Tryz.prog 53=some (103,2,16))/\(tst Tryz.prog 103=some ([(0,1),(1,1)],[.int .i64 0,.int .i64 0]))/\(CL Tryz.prog 163 2=some 2)/\(CL Tryz.prog 135 2=some 2)/\(CL Tryz.prog 194 2=some 2)/\(CL Tryz.prog 163 0=some 0)/\(CL Tryz.prog 163 3=some 3)/\(CL Tryz.prog 68 3=some 3)/\(CL Tryz.prog 68 2=some 2)/\(Bt Tryz.prog 153=2)/\(tst Tryz.prog 208=some ([(0,1),(1,1),(2,1),(3,1)],[.int .u64 0,.int .i64 0,.int .i64 0,.map none]))/\(Bt Tryz.prog 206=0)/\(CL Tryz.prog 159 0=some 0)/\(Bt Tryz.prog 163=0)/\(Om Tryz.prog 163=some 4)/\(CL Tryz.prog 182 1=some 1)/\(CL Tryz.prog 182 4=some 4)/\(CL Tryz.prog 103 0=some 0)/\(CL Tryz.prog 182 0=some 0)/\(Bt Tryz.prog 180=3)/\(Eo Tryz.prog 172=none)/\(Jc Tryz.prog 23=some .u32)/\((Program.underlying Tryz.prog 83).isSome=true)/\(Jc Tryz.prog 250=some .u64)/\(CY Tryz.prog 250=some [.int .u64 0])/\(Dk Tryz.prog 250=some (false,1)):=⟨ty0,ty1,ty2,ty3,ty4,ty5,ty6,ty7,ty8,ty9,ADc,ADd,ADe,ADf,ADg,OP,ADh,ADi,ADj,ADk,ADl,ADm,ADn,ADo,ADp,ADq,ADr,ADs,ADt,ADu,ADv,ADw,pI,ADx,ADy,ADz,AD0,AD1,AD2,AD3,AD4,AD5,AD6,AD7,AD8,AD9,AD_,AEA,AEB,AEC,AED,AEE,AEF,vg,AEG,AEH,AEI,AEJ,AEK,AEL,AEM,vk,AEN,AEO,AEP,AEQ,AER,AES,AET,AEU,AEV,AEW,AEX,AEY,AEZ,AEa,AEb,AEc,AEd,AEe,AEf,AEg,AEh,AEi,AEj,AEk,AEl,AEm,AEn,AEo,AEp,AEq,AEr,AEs,AEt,AEu,AEv,AEw,AEx,vo,vw,vz,v_,wB,wC,pJ,wD,wE,wF,wG,wH,wI,wJ,wK,wL,wM,wN,wO,wP,wQ,wR,wS,wT,wU,wV,wW,wX,wY,wZ,wh,KL,wm,wo,wu,wy,wz,w9,w_,xA,xB,xC,xD,xE,xF,xG,xH,xI,xJ,xK,xL,xM,xN,xO,xP,xQ,xR,xS,xU,xV,xW,xX,xY,xZ,xe,xf,xg,Ld,xh,xk,xm,xq,xu,xw,xx,xy,rG,xz,x8,x9,x_,yA,yB,yC,yD,J_,yE,yF,yG,yH,yI,yJ,yK,yL,yM,yN,yO,yP,yQ,yR,yS,yT,yU,yV,yX,yY,yZ,yc,yf,yg,yh,yj,yl,ym,yn,yo,yu,X3,yw,yx,yz,y9,y_,zA,zB,zC,zD,eT,zF,zG,zH,zI,zJ,zK,zL,Ie,zM,zN,zO,zP,zQ,zR,zS,zT,zU,zV,zW,zX,zY,zZ,za,zb,zf,zh,zi,zk,zl,zm,zn,zo,zt⟩
theorem hb2:AJ Tryz.prog 2=true:=by kernel_rfl
theorem hb3:AJ Tryz.prog 3=true:=by kernel_rfl
theorem hb4:AJ Tryz.prog 4=true:=by kernel_rfl
theorem hb5:AJ Tryz.prog 5=true:=by kernel_rfl
theorem hb6:AJ Tryz.prog 6=true:=by kernel_rfl
theorem Z0:AJ Tryz.prog 7=true:=by kernel_rfl
theorem u6:AJ Tryz.prog 8=true:=by kernel_rfl
theorem pK:AJ Tryz.prog 9=true:=by kernel_rfl
theorem IU:AJ Tryz.prog 10=true:=by kernel_rfl
theorem eU:AJ Tryz.prog 11=true:=by kernel_rfl
theorem rH:AJ Tryz.prog 12=true:=by kernel_rfl
theorem zu:AJ Tryz.prog 13=true:=by kernel_rfl
theorem AEy:AJ Tryz.prog 14=true:=by kernel_rfl
theorem AEz:AJ Tryz.prog 15=true:=by kernel_rfl
theorem rJ:AJ Tryz.prog 16=true:=by kernel_rfl
theorem zw:AJ Tryz.prog 17=true:=by kernel_rfl
theorem AE0:AJ Tryz.prog 18=true:=by kernel_rfl
theorem zx:AJ Tryz.prog 19=true:=by kernel_rfl
theorem AE1:AJ Tryz.prog 20=true:=by kernel_rfl
theorem AE2:AJ Tryz.prog 21=true:=by kernel_rfl
theorem AE3:AJ Tryz.prog 22=true:=by kernel_rfl
theorem AE4:AJ Tryz.prog 23=true:=by kernel_rfl
theorem AE5:AJ Tryz.prog 24=true:=by kernel_rfl
theorem AE6:AJ Tryz.prog 25=true:=by kernel_rfl
theorem AE7:AJ Tryz.prog 26=true:=by kernel_rfl
theorem AE8:AJ Tryz.prog 27=true:=by kernel_rfl
theorem AE9:AJ Tryz.prog 28=true:=by kernel_rfl
theorem AE_:AJ Tryz.prog 29=true:=by kernel_rfl
theorem AFA:AJ Tryz.prog 30=true:=by kernel_rfl
theorem AFB:AJ Tryz.prog 31=true:=by kernel_rfl
theorem AFC:AJ Tryz.prog 32=true:=by kernel_rfl
theorem zy:AJ Tryz.prog 33=true:=by kernel_rfl
theorem AFD:AJ Tryz.prog 34=true:=by kernel_rfl
theorem AFE:AJ Tryz.prog 35=true:=by kernel_rfl
theorem AFF:AJ Tryz.prog 36=true:=by kernel_rfl
theorem zz:AJ Tryz.prog 37=true:=by kernel_rfl
theorem AFG:AJ Tryz.prog 38=true:=by kernel_rfl
theorem AFH:AJ Tryz.prog 39=true:=by kernel_rfl
theorem rM:AJ Tryz.prog 40=true:=by kernel_rfl
theorem AFI:AJ Tryz.prog 41=true:=by kernel_rfl
theorem AFJ:AJ Tryz.prog 42=true:=by kernel_rfl
theorem AFK:AJ Tryz.prog 43=true:=by kernel_rfl
theorem z8:AJ Tryz.prog 44=true:=by kernel_rfl
theorem AFL:AJ Tryz.prog 45=true:=by kernel_rfl
theorem AFM:AJ Tryz.prog 46=true:=by kernel_rfl
theorem AFN:AJ Tryz.prog 47=true:=by kernel_rfl
theorem hb48:AJ Tryz.prog 48=true:=by kernel_rfl
theorem AFO:AJ Tryz.prog 49=true:=by kernel_rfl
theorem AFP:AJ Tryz.prog 50=true:=by kernel_rfl
theorem AFQ:AJ Tryz.prog 51=true:=by kernel_rfl
theorem AFR:AJ Tryz.prog 52=true:=by kernel_rfl
theorem mH:AJ Tryz.prog 53=true:=by kernel_rfl
theorem AFS:AJ Tryz.prog 54=true:=by kernel_rfl
theorem AFT:AJ Tryz.prog 55=true:=by kernel_rfl
theorem AFU:AJ Tryz.prog 56=true:=by kernel_rfl
theorem AFV:AJ Tryz.prog 57=true:=by kernel_rfl
theorem AFW:AJ Tryz.prog 58=true:=by kernel_rfl
theorem AFX:AJ Tryz.prog 59=true:=by kernel_rfl
theorem AFY:AJ Tryz.prog 60=true:=by kernel_rfl
theorem AFZ:AJ Tryz.prog 61=true:=by kernel_rfl
theorem AFa:AJ Tryz.prog 62=true:=by kernel_rfl
theorem AFb:AJ Tryz.prog 63=true:=by kernel_rfl
theorem AFc:AJ Tryz.prog 64=true:=by kernel_rfl
theorem AFd:AJ Tryz.prog 65=true:=by kernel_rfl
theorem AFe:AJ Tryz.prog 66=true:=by kernel_rfl
theorem AFf:AJ Tryz.prog 67=true:=by kernel_rfl
theorem AFg:AJ Tryz.prog 68=true:=by kernel_rfl
theorem AFh:AJ Tryz.prog 69=true:=by kernel_rfl
theorem AFi:AJ Tryz.prog 70=true:=by kernel_rfl
theorem AFj:AJ Tryz.prog 71=true:=by kernel_rfl
theorem AFk:AJ Tryz.prog 72=true:=by kernel_rfl
theorem AFl:AJ Tryz.prog 73=true:=by kernel_rfl
theorem AFm:AJ Tryz.prog 74=true:=by kernel_rfl
theorem AFn:AJ Tryz.prog 75=true:=by kernel_rfl
theorem AFo:AJ Tryz.prog 76=true:=by kernel_rfl
theorem AFp:AJ Tryz.prog 77=true:=by kernel_rfl
theorem AFq:AJ Tryz.prog 78=true:=by kernel_rfl
theorem AFr:AJ Tryz.prog 79=true:=by kernel_rfl
theorem AFs:AJ Tryz.prog 80=true:=by kernel_rfl
theorem AFt:AJ Tryz.prog 81=true:=by kernel_rfl
theorem AFu:AJ Tryz.prog 82=true:=by kernel_rfl
theorem AFv:AJ Tryz.prog 83=true:=by kernel_rfl
theorem AFw:AJ Tryz.prog 84=true:=by kernel_rfl
theorem AFx:AJ Tryz.prog 85=true:=by kernel_rfl
theorem AFy:AJ Tryz.prog 86=true:=by kernel_rfl
theorem AFz:AJ Tryz.prog 87=true:=by kernel_rfl
theorem AF0:AJ Tryz.prog 88=true:=by kernel_rfl
theorem AF1:AJ Tryz.prog 89=true:=by kernel_rfl
theorem AF2:AJ Tryz.prog 90=true:=by kernel_rfl
theorem AF3:AJ Tryz.prog 91=true:=by kernel_rfl
theorem AF4:AJ Tryz.prog 92=true:=by kernel_rfl
theorem AF5:AJ Tryz.prog 93=true:=by kernel_rfl
theorem AF6:AJ Tryz.prog 94=true:=by kernel_rfl
theorem AF7:AJ Tryz.prog 95=true:=by kernel_rfl
theorem AF8:AJ Tryz.prog 96=true:=by kernel_rfl
theorem AF9:AJ Tryz.prog 97=true:=by kernel_rfl
theorem AF_:AJ Tryz.prog 98=true:=by kernel_rfl
theorem AGA:AJ Tryz.prog 99=true:=by kernel_rfl
theorem z_:AJ Tryz.prog 100=true:=by kernel_rfl
theorem AAA:AJ Tryz.prog 101=true:=by kernel_rfl
theorem AAB:AJ Tryz.prog 102=true:=by kernel_rfl
theorem AAC:AJ Tryz.prog 103=true:=by kernel_rfl
theorem AAD:AJ Tryz.prog 104=true:=by kernel_rfl
theorem AAE:AJ Tryz.prog 105=true:=by kernel_rfl
theorem AAF:AJ Tryz.prog 106=true:=by kernel_rfl
theorem AAG:AJ Tryz.prog 107=true:=by kernel_rfl
theorem AAH:AJ Tryz.prog 108=true:=by kernel_rfl
theorem AAI:AJ Tryz.prog 109=true:=by kernel_rfl
theorem AAJ:AJ Tryz.prog 110=true:=by kernel_rfl
theorem AAK:AJ Tryz.prog 111=true:=by kernel_rfl
theorem AAL:AJ Tryz.prog 112=true:=by kernel_rfl
theorem AAM:AJ Tryz.prog 113=true:=by kernel_rfl
theorem AAN:AJ Tryz.prog 114=true:=by kernel_rfl
theorem AAO:AJ Tryz.prog 115=true:=by kernel_rfl
theorem AAP:AJ Tryz.prog 116=true:=by kernel_rfl
theorem AAQ:AJ Tryz.prog 117=true:=by kernel_rfl
theorem AAR:AJ Tryz.prog 118=true:=by kernel_rfl
theorem AAS:AJ Tryz.prog 119=true:=by kernel_rfl
theorem AAT:AJ Tryz.prog 120=true:=by kernel_rfl
theorem AAU:AJ Tryz.prog 121=true:=by kernel_rfl
theorem AAV:AJ Tryz.prog 122=true:=by kernel_rfl
theorem AAW:AJ Tryz.prog 123=true:=by kernel_rfl
theorem AAX:AJ Tryz.prog 124=true:=by kernel_rfl
theorem AAY:AJ Tryz.prog 125=true:=by kernel_rfl
theorem AAZ:AJ Tryz.prog 126=true:=by kernel_rfl
theorem AAa:AJ Tryz.prog 127=true:=by kernel_rfl
theorem AAb:AJ Tryz.prog 128=true:=by kernel_rfl
theorem AAc:AJ Tryz.prog 129=true:=by kernel_rfl
theorem AAd:AJ Tryz.prog 130=true:=by kernel_rfl
theorem AAe:AJ Tryz.prog 131=true:=by kernel_rfl
theorem AAf:AJ Tryz.prog 132=true:=by kernel_rfl
theorem AAg:AJ Tryz.prog 133=true:=by kernel_rfl
theorem AAh:AJ Tryz.prog 134=true:=by kernel_rfl
theorem AAi:AJ Tryz.prog 135=true:=by kernel_rfl
theorem AAj:AJ Tryz.prog 136=true:=by kernel_rfl
theorem AAk:AJ Tryz.prog 137=true:=by kernel_rfl
theorem AAl:AJ Tryz.prog 138=true:=by kernel_rfl
theorem AAm:AJ Tryz.prog 139=true:=by kernel_rfl
theorem AAn:AJ Tryz.prog 140=true:=by kernel_rfl
theorem AAo:AJ Tryz.prog 141=true:=by kernel_rfl
theorem AAp:AJ Tryz.prog 142=true:=by kernel_rfl
theorem AAq:AJ Tryz.prog 143=true:=by kernel_rfl
theorem AAr:AJ Tryz.prog 144=true:=by kernel_rfl
theorem AAs:AJ Tryz.prog 145=true:=by kernel_rfl
theorem AAt:AJ Tryz.prog 146=true:=by kernel_rfl
theorem AAu:AJ Tryz.prog 147=true:=by kernel_rfl
theorem AAv:AJ Tryz.prog 148=true:=by kernel_rfl
theorem AAw:AJ Tryz.prog 149=true:=by kernel_rfl
theorem AAx:AJ Tryz.prog 150=true:=by kernel_rfl
theorem AAy:AJ Tryz.prog 151=true:=by kernel_rfl
theorem AAz:AJ Tryz.prog 152=true:=by kernel_rfl
theorem AA0:AJ Tryz.prog 153=true:=by kernel_rfl
theorem AA1:AJ Tryz.prog 154=true:=by kernel_rfl
theorem AA2:AJ Tryz.prog 155=true:=by kernel_rfl
theorem AA3:AJ Tryz.prog 156=true:=by kernel_rfl
theorem AA4:AJ Tryz.prog 157=true:=by kernel_rfl
theorem AA5:AJ Tryz.prog 158=true:=by kernel_rfl
theorem AA6:AJ Tryz.prog 159=true:=by kernel_rfl
theorem AA7:AJ Tryz.prog 160=true:=by kernel_rfl
theorem AA8:AJ Tryz.prog 161=true:=by kernel_rfl
theorem AA9:AJ Tryz.prog 162=true:=by kernel_rfl
theorem AA_:AJ Tryz.prog 163=true:=by kernel_rfl
theorem ABA:AJ Tryz.prog 164=true:=by kernel_rfl
theorem ABB:AJ Tryz.prog 165=true:=by kernel_rfl
theorem ABC:AJ Tryz.prog 166=true:=by kernel_rfl
theorem ABD:AJ Tryz.prog 167=true:=by kernel_rfl
theorem ABE:AJ Tryz.prog 168=true:=by kernel_rfl
theorem ABF:AJ Tryz.prog 169=true:=by kernel_rfl
theorem ABG:AJ Tryz.prog 170=true:=by kernel_rfl
theorem ABH:AJ Tryz.prog 171=true:=by kernel_rfl
theorem ABJ:AJ Tryz.prog 172=true:=by kernel_rfl
theorem ABK:AJ Tryz.prog 173=true:=by kernel_rfl
theorem ABL:AJ Tryz.prog 174=true:=by kernel_rfl
theorem ABM:AJ Tryz.prog 175=true:=by kernel_rfl
theorem ABN:AJ Tryz.prog 176=true:=by kernel_rfl
theorem ABO:AJ Tryz.prog 177=true:=by kernel_rfl
theorem ABP:AJ Tryz.prog 178=true:=by kernel_rfl
theorem ABQ:AJ Tryz.prog 179=true:=by kernel_rfl
theorem ABR:AJ Tryz.prog 180=true:=by kernel_rfl
theorem fnA:(AJ Tryz.prog 2=true)/\(AJ Tryz.prog 3=true)/\(AJ Tryz.prog 4=true)/\(AJ Tryz.prog 5=true)/\(AJ Tryz.prog 6=true)/\(AJ Tryz.prog 7=true)/\(AJ Tryz.prog 8=true)/\(AJ Tryz.prog 9=true)/\(AJ Tryz.prog 10=true)/\(AJ Tryz.prog 11=true)/\(AJ Tryz.prog 12=true)/\(AJ Tryz.prog 13=true)/\(AJ Tryz.prog 14=true)/\(AJ Tryz.prog 15=true)/\(AJ Tryz.prog 16=true)/\(AJ Tryz.prog 17=true)/\(AJ Tryz.prog 18=true)/\(AJ Tryz.prog 19=true)/\(AJ Tryz.prog 20=true)/\(AJ Tryz.prog 21=true)/\(AJ Tryz.prog 22=true)/\(AJ Tryz.prog 23=true)/\(AJ Tryz.prog 24=true)/\(AJ Tryz.prog 25=true)/\(AJ Tryz.prog 26=true)/\(AJ Tryz.prog 27=true)/\(AJ Tryz.prog 28=true)/\(AJ Tryz.prog 29=true)/\(AJ Tryz.prog 30=true)/\(AJ Tryz.prog 31=true)/\(AJ Tryz.prog 32=true)/\(AJ Tryz.prog 33=true)/\(AJ Tryz.prog 34=true)/\(AJ Tryz.prog 35=true)/\(AJ Tryz.prog 36=true)/\(AJ Tryz.prog 37=true)/\(AJ Tryz.prog 38=true)/\(AJ Tryz.prog 39=true)/\(AJ Tryz.prog 40=true)/\(AJ Tryz.prog 41=true)/\(AJ Tryz.prog 42=true)/\(AJ Tryz.prog 43=true)/\(AJ Tryz.prog 44=true)/\(AJ Tryz.prog 45=true)/\(AJ Tryz.prog 46=true)/\(AJ Tryz.prog 47=true)/\(AJ Tryz.prog 48=true)/\(AJ Tryz.prog 49=true)/\(AJ Tryz.prog 50=true)/\(AJ Tryz.prog 51=true)/\(AJ Tryz.prog 52=true)/\(AJ Tryz.prog 53=true)/\(AJ Tryz.prog 54=true)/\(AJ Tryz.prog 55=true)/\(AJ Tryz.prog 56=true)/\(AJ Tryz.prog 57=true)/\(AJ Tryz.prog 58=true)/\(AJ Tryz.prog 59=true)/\(AJ Tryz.prog 60=true)/\(AJ Tryz.prog 61=true)/\(AJ Tryz.prog 62=true)/\(AJ Tryz.prog 63=true)/\(AJ Tryz.prog 64=true)/\(AJ Tryz.prog 65=true)/\(AJ Tryz.prog 66=true)/\(AJ Tryz.prog 67=true)/\(AJ Tryz.prog 68=true)/\(AJ Tryz.prog 69=true)/\(AJ Tryz.prog 70=true)/\(AJ Tryz.prog 71=true)/\(AJ Tryz.prog 72=true)/\(AJ Tryz.prog 73=true)/\(AJ Tryz.prog 74=true)/\(AJ Tryz.prog 75=true)/\(AJ Tryz.prog 76=true)/\(AJ Tryz.prog 77=true)/\(AJ Tryz.prog 78=true)/\(AJ Tryz.prog 79=true)/\(AJ Tryz.prog 80=true)/\(AJ Tryz.prog 81=true)/\(AJ Tryz.prog 82=true)/\(AJ Tryz.prog 83=true)/\(AJ Tryz.prog 84=true)/\(AJ Tryz.prog 85=true)/\(AJ Tryz.prog 86=true)/\(AJ Tryz.prog 87=true)/\(AJ Tryz.prog 88=true)/\(AJ Tryz.prog 89=true)/\(AJ Tryz.prog 90=true)/\(AJ Tryz.prog 91=true)/\(AJ Tryz.prog 92=true)/\(AJ Tryz.prog 93=true)/\(AJ Tryz.prog 94=true)/\(AJ Tryz.prog 95=true)/\(AJ Tryz.prog 96=true)/\(AJ Tryz.prog 97=true)/\(AJ Tryz.prog 98=true)/\(AJ Tryz.prog 99=true)/\(AJ Tryz.prog 100=true)/\(AJ Tryz.prog 101=true)/\(AJ Tryz.prog 102=true)/\(AJ Tryz.prog 103=true)/\(AJ Tryz.prog 104=true)/\(AJ Tryz.prog 105=true)/\(AJ Tryz.prog 106=true)/\(AJ Tryz.prog 107=true)/\(AJ Tryz.prog 108=true)/\(AJ Tryz.prog 109=true)/\(AJ Tryz.prog 110=true)/\(AJ Tryz.prog 111=true)/\(AJ Tryz.prog 112=true)/\(AJ Tryz.prog 113=true)/\(AJ Tryz.prog 114=true)/\(AJ Tryz.prog 115=true)/\(AJ Tryz.prog 116=true)/\(AJ Tryz.prog 117=true)/\(AJ Tryz.prog 118=true)/\(AJ Tryz.prog 119=true)/\(AJ Tryz.prog 120=true)/\(AJ Tryz.prog 121=true)/\(AJ Tryz.prog 122=true)/\(AJ Tryz.prog 123=true)/\(AJ Tryz.prog 124=true)/\(AJ Tryz.prog 125=true)/\(AJ Tryz.prog 126=true)/\(AJ Tryz.prog 127=true)/\(AJ Tryz.prog 128=true)/\(AJ Tryz.prog 129=true)/\(AJ Tryz.prog 130=true)/\(AJ Tryz.prog 131=true)/\(AJ Tryz.prog 132=true)/\(AJ Tryz.prog 133=true)/\(AJ Tryz.prog 134=true)/\(AJ Tryz.prog 135=true)/\(AJ Tryz.prog 136=true)/\(AJ Tryz.prog 137=true)/\(AJ Tryz.prog 138=true)/\(AJ Tryz.prog 139=true)/\(AJ Tryz.prog 140=true)/\(AJ Tryz.prog 141=true)/\(AJ Tryz.prog 142=true)/\(AJ Tryz.prog 143=true)/\(AJ Tryz.prog 144=true)/\(AJ Tryz.prog 145=true)/\(AJ Tryz.prog 146=true)/\(AJ Tryz.prog 147=true)/\(AJ Tryz.prog 148=true)/\(AJ Tryz.prog 149=true)/\(AJ Tryz.prog 150=true)/\(AJ Tryz.prog 151=true)/\(AJ Tryz.prog 152=true)/\(AJ Tryz.prog 153=true)/\(AJ Tryz.prog 154=true)/\(AJ Tryz.prog 155=true)/\(AJ Tryz.prog 156=true)/\(AJ Tryz.prog 157=true)/\(AJ Tryz.prog 158=true)/\(AJ Tryz.prog 159=true)/\(AJ Tryz.prog 160=true)/\(AJ Tryz.prog 161=true)/\(AJ Tryz.prog 162=true)/\(AJ Tryz.prog 163=true)/\(AJ Tryz.prog 164=true)/\(AJ Tryz.prog 165=true)/\(AJ Tryz.prog 166=true)/\(AJ Tryz.prog 167=true)/\(AJ Tryz.prog 168=true)/\(AJ Tryz.prog 169=true)/\(AJ Tryz.prog 170=true)/\(AJ Tryz.prog 171=true)/\(AJ Tryz.prog 172=true)/\(AJ Tryz.prog 173=true)/\(AJ Tryz.prog 174=true)/\(AJ Tryz.prog 175=true)/\(AJ Tryz.prog 176=true)/\(AJ Tryz.prog 177=true)/\(AJ Tryz.prog 178=true)/\(AJ Tryz.prog 179=true)/\(AJ Tryz.prog 180=true):=⟨hb2,hb3,hb4,hb5,hb6,Z0,u6,pK,IU,eU,rH,zu,AEy,AEz,rJ,zw,AE0,zx,AE1,AE2,AE3,AE4,AE5,AE6,AE7,AE8,AE9,AE_,AFA,AFB,AFC,zy,AFD,AFE,AFF,zz,AFG,AFH,rM,AFI,AFJ,AFK,z8,AFL,AFM,AFN,hb48,AFO,AFP,AFQ,AFR,mH,AFS,AFT,AFU,AFV,AFW,AFX,AFY,AFZ,AFa,AFb,AFc,AFd,AFe,AFf,AFg,AFh,AFi,AFj,AFk,AFl,AFm,AFn,AFo,AFp,AFq,AFr,AFs,AFt,AFu,AFv,AFw,AFx,AFy,AFz,AF0,AF1,AF2,AF3,AF4,AF5,AF6,AF7,AF8,AF9,AF_,AGA,z_,AAA,AAB,AAC,AAD,AAE,AAF,AAG,AAH,AAI,AAJ,AAK,AAL,AAM,AAN,AAO,AAP,AAQ,AAR,AAS,AAT,AAU,AAV,AAW,AAX,AAY,AAZ,AAa,AAb,AAc,AAd,AAe,AAf,AAg,AAh,AAi,AAj,AAk,AAl,AAm,AAn,AAo,AAp,AAq,AAr,AAs,AAt,AAu,AAv,AAw,AAx,AAy,AAz,AA0,AA1,AA2,AA3,AA4,AA5,AA6,AA7,AA8,AA9,AA_,ABA,ABB,ABC,ABD,ABE,ABF,ABG,ABH,ABJ,ABK,ABL,ABM,ABN,ABO,ABP,ABQ,ABR⟩
theorem CB:Tryz.prog.follows .mixedOrders=true:=by kernel_rfl
theorem cA:type_of% (And.intro (And.intro (And.intro (And.intro (And.intro (And.intro @beq_self_eq_true.{0} (And.intro @Int.tmod_eq_emod_of_nonneg @Int.tdiv_eq_ediv_of_nonneg)) (And.intro @BC (And.intro @BD @BI))) (And.intro (And.intro @List.eraseIdx_cons_zero.{0} (And.intro @List.eraseIdx_cons_succ.{0} @Yt)) (And.intro (And.intro @VF @R_) (And.intro @VG @SB)))) (And.intro (And.intro (And.intro @VI (And.intro @VJ @SE)) (And.intro (And.intro @VK @VL) (And.intro @SF @R9))) (And.intro (And.intro @Yr (And.intro @PZ @OL)) (And.intro (And.intro @Pb @NT) (And.intro @R6 @R7))))) (And.intro (And.intro (And.intro (And.intro @U9 (And.intro @U_ @Yq)) (And.intro (And.intro @look_eq @Yv) (And.intro @VM @look_nil))) (And.intro (And.intro @Yw (And.intro @Yx @VN)) (And.intro (And.intro @Ph @Be) (And.intro @Bv @List.mem_cons.{0})))) (And.intro (And.intro (And.intro @or_true (And.intro @true_or @Bool.not_true)) (And.intro (And.intro @Bool.not_false @Bool.false_eq_true) (And.intro @Bool.true_eq_false @Bool.and_true))) (And.intro (And.intro @Bool.true_and (And.intro @Bool.and_false @Bool.false_and)) (And.intro (And.intro @Bool.or_true @Bool.true_or) (And.intro @Bool.or_false @Bool.false_or)))))) (And.intro (And.intro (And.intro (And.intro (And.intro @Bool.not_not (And.intro @true_and @and_true)) (And.intro (And.intro @false_and @and_false) (And.intro @true_implies @not_true_eq_false))) (And.intro (And.intro @not_false_eq_true (And.intro @false_implies @Option.bind_some.{0,0})) (And.intro (And.intro @Option.bind_none.{0,0} @Option.map_some.{0,0}) (And.intro @Option.map_none.{0,0} @Option.isNone_some.{0})))) (And.intro (And.intro (And.intro @Option.isNone_none.{0} (And.intro @Option.isSome_some.{0} @Option.isSome_none.{0})) (And.intro (And.intro @Option.some.injEq.{0} @List.map_cons.{0,0}) (And.intro @List.map_nil.{0,0} @List.map_toArray.{0,0}))) (And.intro (And.intro @List.toList_toArray.{0} (And.intro @List.getElem?_cons_zero.{0} @List.getElem?_cons_succ.{0})) (And.intro (And.intro @List.drop_succ_cons.{0} @List.drop_zero.{0}) (And.intro @List.drop_nil.{0} @List.take_succ_cons.{0}))))) (And.intro (And.intro (And.intro (And.intro @List.take_zero.{0} (And.intro @List.take_nil.{0} @List.cons_append.{0})) (And.intro (And.intro @List.nil_append.{0} @List.append_nil.{0}) (And.intro @List.length_cons.{0} @List.length_nil.{0}))) (And.intro (And.intro @List.append_toArray.{0} (And.intro @List.size_toArray.{0} @List.all_cons.{0})) (And.intro (And.intro @List.all_nil.{0} @Addr.add_lit) (And.intro @Addr.add_zero' @Nat.zero_add)))) (And.intro (And.intro (And.intro @Nat.add_zero (And.intro @Nat.le_refl @decide_true)) (And.intro (And.intro @decide_false @Option.getD_some.{0}) (And.intro @List.contains_nil.{0} @List.contains_cons.{0}))) (And.intro (And.intro @Int.toNat_natCast (And.intro @Int.toNat_zero @Int.cast_ofNat_Int)) (And.intro (And.intro @Jd @Nat.sub_zero) (And.intro @Bool.or_self @Bool.and_self))))))):=(And.intro (And.intro (And.intro (And.intro (And.intro (And.intro @beq_self_eq_true.{0} (And.intro @Int.tmod_eq_emod_of_nonneg @Int.tdiv_eq_ediv_of_nonneg)) (And.intro @BC (And.intro @BD @BI))) (And.intro (And.intro @List.eraseIdx_cons_zero.{0} (And.intro @List.eraseIdx_cons_succ.{0} @Yt)) (And.intro (And.intro @VF @R_) (And.intro @VG @SB)))) (And.intro (And.intro (And.intro @VI (And.intro @VJ @SE)) (And.intro (And.intro @VK @VL) (And.intro @SF @R9))) (And.intro (And.intro @Yr (And.intro @PZ @OL)) (And.intro (And.intro @Pb @NT) (And.intro @R6 @R7))))) (And.intro (And.intro (And.intro (And.intro @U9 (And.intro @U_ @Yq)) (And.intro (And.intro @look_eq @Yv) (And.intro @VM @look_nil))) (And.intro (And.intro @Yw (And.intro @Yx @VN)) (And.intro (And.intro @Ph @Be) (And.intro @Bv @List.mem_cons.{0})))) (And.intro (And.intro (And.intro @or_true (And.intro @true_or @Bool.not_true)) (And.intro (And.intro @Bool.not_false @Bool.false_eq_true) (And.intro @Bool.true_eq_false @Bool.and_true))) (And.intro (And.intro @Bool.true_and (And.intro @Bool.and_false @Bool.false_and)) (And.intro (And.intro @Bool.or_true @Bool.true_or) (And.intro @Bool.or_false @Bool.false_or)))))) (And.intro (And.intro (And.intro (And.intro (And.intro @Bool.not_not (And.intro @true_and @and_true)) (And.intro (And.intro @false_and @and_false) (And.intro @true_implies @not_true_eq_false))) (And.intro (And.intro @not_false_eq_true (And.intro @false_implies @Option.bind_some.{0,0})) (And.intro (And.intro @Option.bind_none.{0,0} @Option.map_some.{0,0}) (And.intro @Option.map_none.{0,0} @Option.isNone_some.{0})))) (And.intro (And.intro (And.intro @Option.isNone_none.{0} (And.intro @Option.isSome_some.{0} @Option.isSome_none.{0})) (And.intro (And.intro @Option.some.injEq.{0} @List.map_cons.{0,0}) (And.intro @List.map_nil.{0,0} @List.map_toArray.{0,0}))) (And.intro (And.intro @List.toList_toArray.{0} (And.intro @List.getElem?_cons_zero.{0} @List.getElem?_cons_succ.{0})) (And.intro (And.intro @List.drop_succ_cons.{0} @List.drop_zero.{0}) (And.intro @List.drop_nil.{0} @List.take_succ_cons.{0}))))) (And.intro (And.intro (And.intro (And.intro @List.take_zero.{0} (And.intro @List.take_nil.{0} @List.cons_append.{0})) (And.intro (And.intro @List.nil_append.{0} @List.append_nil.{0}) (And.intro @List.length_cons.{0} @List.length_nil.{0}))) (And.intro (And.intro @List.append_toArray.{0} (And.intro @List.size_toArray.{0} @List.all_cons.{0})) (And.intro (And.intro @List.all_nil.{0} @Addr.add_lit) (And.intro @Addr.add_zero' @Nat.zero_add)))) (And.intro (And.intro (And.intro @Nat.add_zero (And.intro @Nat.le_refl @decide_true)) (And.intro (And.intro @decide_false @Option.getD_some.{0}) (And.intro @List.contains_nil.{0} @List.contains_cons.{0}))) (And.intro (And.intro @Int.toNat_natCast (And.intro @Int.toNat_zero @Int.cast_ofNat_Int)) (And.intro (And.intro @Jd @Nat.sub_zero) (And.intro @Bool.or_self @Bool.and_self)))))))
theorem cB:type_of% (And.intro (And.intro (And.intro (And.intro (And.intro @Ag.eq_1 (And.intro @Ag.eq_2 @Gb.eq_1)) (And.intro @Gb.eq_2 (And.intro @Zy.eq_1 @eF.eq_1))) (And.intro (And.intro @Cv.eq_1 (And.intro @pE.eq_1 @MW.eq_1)) (And.intro (And.intro @SC.eq_1 @Ib.eq_1) (And.intro @rE.eq_1 @vY.eq_1)))) (And.intro (And.intro (And.intro @Pk.eq_1 (And.intro @ev.eq_1 @ev.eq_2)) (And.intro (And.intro @ev.eq_3 @ev.eq_4) (And.intro @nth.eq_1 @nth.eq_2))) (And.intro (And.intro @nth.eq_3 (And.intro @Ma.eq_1 @Ma.eq_2)) (And.intro (And.intro @Ma.eq_3 @Ma.eq_4) (And.intro @Ep.eq_1 @Ep.eq_2))))) (And.intro (And.intro (And.intro (And.intro @JF.eq_1 (And.intro @JF.eq_2 @Ol.eq_1)) (And.intro @Ol.eq_2 (And.intro @Ol.eq_3 @Ol.eq_4))) (And.intro (And.intro @Ol.eq_5 (And.intro @Ol.eq_6 @GM.eq_1)) (And.intro (And.intro @GM.eq_2 @ones.eq_1) (And.intro @Yu @VH)))) (And.intro (And.intro (And.intro @List.set_cons_zero.{0} (And.intro @List.set_cons_succ.{0} @if_true.{1})) (And.intro (And.intro @if_false.{1} @ite_true.{1}) (And.intro @ite_false.{1} @forall_const.{0}))) (And.intro (And.intro @forall_const.{1} (And.intro @implies_true.{0} @implies_true.{1})) (And.intro (And.intro @eq_self.{1} @ne_eq.{1}) (And.intro @tyA @fnA)))))):=(And.intro (And.intro (And.intro (And.intro (And.intro @Ag.eq_1 (And.intro @Ag.eq_2 @Gb.eq_1)) (And.intro @Gb.eq_2 (And.intro @Zy.eq_1 @eF.eq_1))) (And.intro (And.intro @Cv.eq_1 (And.intro @pE.eq_1 @MW.eq_1)) (And.intro (And.intro @SC.eq_1 @Ib.eq_1) (And.intro @rE.eq_1 @vY.eq_1)))) (And.intro (And.intro (And.intro @Pk.eq_1 (And.intro @ev.eq_1 @ev.eq_2)) (And.intro (And.intro @ev.eq_3 @ev.eq_4) (And.intro @nth.eq_1 @nth.eq_2))) (And.intro (And.intro @nth.eq_3 (And.intro @Ma.eq_1 @Ma.eq_2)) (And.intro (And.intro @Ma.eq_3 @Ma.eq_4) (And.intro @Ep.eq_1 @Ep.eq_2))))) (And.intro (And.intro (And.intro (And.intro @JF.eq_1 (And.intro @JF.eq_2 @Ol.eq_1)) (And.intro @Ol.eq_2 (And.intro @Ol.eq_3 @Ol.eq_4))) (And.intro (And.intro @Ol.eq_5 (And.intro @Ol.eq_6 @GM.eq_1)) (And.intro (And.intro @GM.eq_2 @ones.eq_1) (And.intro @Yu @VH)))) (And.intro (And.intro (And.intro @List.set_cons_zero.{0} (And.intro @List.set_cons_succ.{0} @if_true.{1})) (And.intro (And.intro @if_false.{1} @ite_true.{1}) (And.intro @ite_false.{1} @forall_const.{0}))) (And.intro (And.intro @forall_const.{1} (And.intro @implies_true.{0} @implies_true.{1})) (And.intro (And.intro @eq_self.{1} @ne_eq.{1}) (And.intro @tyA @fnA))))))
section
variable (K:Fr->List Ai->Prop) (Q:Exit->Fr->List Ai->Prop) (F:Fr) (L:List Ai) (i j:Nat)
theorem Md:BX K Q .normal F L=K F L:=rfl
theorem Pm:BX K Q (.exit i) F L=Q (.exit i) F L:=rfl
theorem SI:BX K Q .ret F L=Q .ret F L:=rfl
theorem OQ:BJ i Q (.exit j) F L=if j=i then Q .normal F L else Q (.exit j) F L:=rfl
theorem Le:BJ i Q .normal F L=Q .normal F L:=rfl
theorem Po:BJ i Q .ret F L=Q .ret F L:=rfl
variable (M:List Nat) (W:World) (rs:List ResultVar) (R:Ending->World->Prop)
theorem OT:eH M W rs R .normal F L=∃v,Ma rs F=some v∧∀w,St M W L w->R (.returned v) w:=rfl
theorem VQ:eH M W rs R .ret F L=∃v,Ma rs F=some v∧∀w,St M W L w->R (.returned v) w:=rfl
theorem SK:eH M W rs R (.exit i) F L=False:=rfl
end
theorem Pp (k:Nat):fresh [] k=True:=rfl
theorem Pq (b k:Nat) (t:TypeId) (cs:List Value) (L:List Ai):fresh (.blk b t cs::L) k=(b<k/\fresh L k):=rfl
theorem Ps (v:Value) (t:TypeId) (s n k:Nat) (xs:List Value) (L:List Ai):fresh (.row v t s n xs::L) k=fresh L k:=rfl
theorem OU (b:Bool):(Value.bool b).cells = #[.bool b]:=rfl
theorem Pt (k:IntKind) (n:Int):(Value.int k n).cells = #[.int k n]:=rfl
theorem Pv (s:ByteArray):(Value.string s).cells = #[.string s]:=rfl
theorem Pw (a:Option Addr):(Value.pointer a).cells = #[.pointer a]:=rfl
theorem Me (a:Option Addr) (l c:Nat):(Value.slice a l c).cells = #[.slice a l c]:=rfl
theorem Px (r:Option Nat):(Value.map r).cells = #[.map r]:=rfl
theorem Py (c:Array Value):(Value.agg c).cells=c:=rfl
theorem SL (b:Bool):(Value.bool b).oneCell'=true:=rfl
theorem VR (k:IntKind) (n:Int):(Value.int k n).oneCell'=true:=rfl
theorem VS (s:ByteArray):(Value.string s).oneCell'=true:=rfl
theorem VT (a:Option Addr):(Value.pointer a).oneCell'=true:=rfl
theorem Pz (a:Option Addr) (l c:Nat):(Value.slice a l c).oneCell'=true:=rfl
theorem VU (r:Option Nat):(Value.map r).oneCell'=true:=rfl
theorem VV (c:Array Value):(Value.agg c).oneCell'=false:=rfl
theorem cC:type_of% (And.intro cA (And.intro cB (And.intro (And.intro (And.intro (And.intro @Pp (And.intro @Pq @Ps)) (And.intro @Md (And.intro @Pm @SI))) (And.intro (And.intro @OQ (And.intro @Le @Po)) (And.intro (And.intro @OT @VQ) (And.intro @SK @OU)))) (And.intro (And.intro (And.intro @Pt (And.intro @Pv @Pw)) (And.intro @Me (And.intro @Px @Py))) (And.intro (And.intro @SL (And.intro @VR @VS)) (And.intro (And.intro @VT @Pz) (And.intro @VU @VV))))))):=And.intro cA (And.intro cB (And.intro (And.intro (And.intro (And.intro @Pp (And.intro @Pq @Ps)) (And.intro @Md (And.intro @Pm @SI))) (And.intro (And.intro @OQ (And.intro @Le @Po)) (And.intro (And.intro @OT @VQ) (And.intro @SK @OU)))) (And.intro (And.intro (And.intro @Pt (And.intro @Pv @Pw)) (And.intro @Me (And.intro @Px @Py))) (And.intro (And.intro @SL (And.intro @VR @VS)) (And.intro (And.intro @VT @Pz) (And.intro @VU @VV))))))
structure Bd (p:Prop):Prop where
 o:p
section
variable {P:Program} {M:List Nat} {W:World} {n i:Nat} {l:List Oper} {x y:Code} {F F2:Fr} {L L2:List Ai} {Q:Exit->Fr->List Ai->Prop} {p q a:Prop} {c:Operand} {b:Bool}
theorem AR (hq:q) (h:p=q:=by conv=>lhs;simp -implicitDefEqProofs (disch:=first|omega|decide) only [seval, -Int.reducePow, -Nat.reducePow,cC,pv,Ao,Az,undef,zs.o,zg.o]):p:=h▸hq
theorem Ap (ze:a) (hq:q) (h:a->p=q:=by intro ze;conv=>lhs;simp -implicitDefEqProofs (disch:=first|omega|decide) only [seval, -Int.reducePow, -Nat.reducePow,cC,pv,Ao,Az,undef,ze,zs.o,zg.o]):p:=(h ze)▸hq
theorem Bg (hp:p) (h:p=q:=by conv=>lhs;simp -implicitDefEqProofs (disch:=first|omega|decide) only [seval, -Int.reducePow, -Nat.reducePow,cC,pv,Ao,Az,undef,zs.o,zg.o]):q:=h▸hp
theorem MQ (h:p:=by simp -implicitDefEqProofs (disch:=first|omega|decide) only [seval, -Int.reducePow, -Nat.reducePow,cC,pv,Ao,Az,undef,zs.o,zg.o]):p:=h
theorem NQ (ze:a) (h:a->p:=by intro ze;simp -implicitDefEqProofs (disch:=first|omega|decide) only [seval, -Int.reducePow, -Nat.reducePow,cC,pv,Ao,Az,undef,ze,zs.o,zg.o]):p:=h ze
theorem Br {x:Option Value} {v:Value} {C:Value->Prop} (hC:C v) (h:x=some v:=by conv=>lhs;simp -implicitDefEqProofs (disch:=first|omega|decide) only [seval, -Int.reducePow, -Nat.reducePow,cC,pv,Ao,Az,undef,zs.o,zg.o]):∃v,x=some v/\C v:=⟨v,h,hC⟩
theorem Dl (h1:b=true->CV P M W n x F L Q) (h2:b=false->CV P M W n y F L Q) (h:ev F c = .bool b:=by conv=>lhs;simp -implicitDefEqProofs (disch:=first|omega|decide) only [seval, -Int.reducePow, -Nat.reducePow,cC,pv,Ao,Az,undef,zs.o,zg.o]):CV P M W n (.cond c x y) F L Q:=Xz h h1 h2
theorem x_d (ze:a) (h1:b=true->CV P M W n x F L Q) (h2:b=false->CV P M W n y F L Q) (h:a->ev F c = .bool b:=by intro ze;conv=>lhs;simp -implicitDefEqProofs (disch:=first|omega|decide) only [seval, -Int.reducePow, -Nat.reducePow,cC,pv,Ao,Az,undef,ze,zs.o,zg.o]):CV P M W n (.cond c x y) F L Q:=Xz (h ze) h1 h2
theorem BH (hk:CV P M W n y F2 L2 Q) (hd:l.all (fun o=>HV n o.dst)=true:=by rfl) (h:∀K:Fr->List Ai->Prop,MX P M W n l true l F L K=K F2 L2:=by intro K;conv=>lhs;simp -implicitDefEqProofs (disch:=first|omega|decide) only [seval, -Int.reducePow, -Nat.reducePow,cC,pv,Ao,Az,undef,zs.o,zg.o]):CV P M W n (.seq (.region i l.toArray false) y) F L Q:=SH hd h hk
theorem FP (ze:a) (hk:CV P M W n y F2 L2 Q) (hd:l.all (fun o=>HV n o.dst)=true:=by rfl) (h:a→∀K:Fr->List Ai->Prop,MX P M W n l true l F L K=K F2 L2:=by intro ze K;conv=>lhs;simp -implicitDefEqProofs (disch:=first|omega|decide) only [seval, -Int.reducePow, -Nat.reducePow,cC,pv,Ao,Az,undef,ze,zs.o,zg.o]):CV P M W n (.seq (.region i l.toArray false) y) F L Q:=SH hd (h ze) hk
theorem Ah (hq:q) (h:p=q:=by conv=>lhs;simp -implicitDefEqProofs (disch:=first|omega|decide) only [seval, -Int.reducePow, -Nat.reducePow,cC,pv,Ao,Az,undef,zs.o]):p:=h▸hq
theorem D_ (ze:a) (hq:q) (h:a->p=q:=by intro ze;conv=>lhs;simp -implicitDefEqProofs (disch:=first|omega|decide) only [seval, -Int.reducePow, -Nat.reducePow,cC,pv,Ao,Az,undef,ze,zs.o]):p:=(h ze)▸hq
theorem Bi (hp:p) (h:p=q:=by conv=>lhs;simp -implicitDefEqProofs (disch:=first|omega|decide) only [seval, -Int.reducePow, -Nat.reducePow,cC,pv,Ao,Az,undef,zs.o]):q:=h▸hp
theorem VW (ze:a) (h:a->p:=by intro ze;simp -implicitDefEqProofs (disch:=first|omega|decide) only [seval, -Int.reducePow, -Nat.reducePow,cC,pv,Ao,Az,undef,ze,zs.o]):p:=h ze
theorem Cc {x:Option Value} {v:Value} {C:Value->Prop} (hC:C v) (h:x=some v:=by conv=>lhs;simp -implicitDefEqProofs (disch:=first|omega|decide) only [seval, -Int.reducePow, -Nat.reducePow,cC,pv,Ao,Az,undef,zs.o]):∃v,x=some v/\C v:=⟨v,h,hC⟩
theorem ABS (h1:b=true->CV P M W n x F L Q) (h2:b=false->CV P M W n y F L Q) (h:ev F c = .bool b:=by conv=>lhs;simp -implicitDefEqProofs (disch:=first|omega|decide) only [seval, -Int.reducePow, -Nat.reducePow,cC,pv,Ao,Az,undef,zs.o]):CV P M W n (.cond c x y) F L Q:=Xz h h1 h2
theorem Aq (hk:CV P M W n y F2 L2 Q) (hd:l.all (fun o=>HV n o.dst)=true:=by rfl) (h:∀K:Fr->List Ai->Prop,MX P M W n l true l F L K=K F2 L2:=by intro K;conv=>lhs;simp -implicitDefEqProofs (disch:=first|omega|decide) only [seval, -Int.reducePow, -Nat.reducePow,cC,pv,Ao,Az,undef,zs.o]):CV P M W n (.seq (.region i l.toArray false) y) F L Q:=SH hd h hk
theorem LX (ze:a) (hk:CV P M W n y F2 L2 Q) (hd:l.all (fun o=>HV n o.dst)=true:=by rfl) (h:a→∀K:Fr->List Ai->Prop,MX P M W n l true l F L K=K F2 L2:=by intro ze K;conv=>lhs;simp -implicitDefEqProofs (disch:=first|omega|decide) only [seval, -Int.reducePow, -Nat.reducePow,cC,pv,Ao,Az,undef,ze,zs.o]):CV P M W n (.seq (.region i l.toArray false) y) F L Q:=SH hd (h ze) hk
theorem Z4 (hq:q) (h:p=q:=by conv=>lhs;simp -implicitDefEqProofs (disch:=first|omega|decide) only [seval, -Int.reducePow, -Nat.reducePow,cC,pv,Ao,Az,undef,zg.o]):p:=h▸hq
theorem mI (ze:a) (hq:q) (h:a->p=q:=by intro ze;conv=>lhs;simp -implicitDefEqProofs (disch:=first|omega|decide) only [seval, -Int.reducePow, -Nat.reducePow,cC,pv,Ao,Az,undef,ze,zg.o]):p:=(h ze)▸hq
theorem eX {x:Option Value} {v:Value} {C:Value->Prop} (hC:C v) (h:x=some v:=by conv=>lhs;simp -implicitDefEqProofs (disch:=first|omega|decide) only [seval, -Int.reducePow, -Nat.reducePow,cC,pv,Ao,Az,undef,zg.o]):∃v,x=some v/\C v:=⟨v,h,hC⟩
theorem AGB (hq:q) (h:p=q:=by conv=>lhs;simp -implicitDefEqProofs (disch:=first|omega|decide) only [seval, -Int.reducePow, -Nat.reducePow,cC,pv,Ao,Az,undef]):p:=h▸hq
theorem rP (hp:p) (h:p=q:=by conv=>lhs;simp -implicitDefEqProofs (disch:=first|omega|decide) only [seval, -Int.reducePow, -Nat.reducePow,cC,pv,Ao,Az,undef]):q:=h▸hp
theorem Z5 {x:Option Value} {v:Value} {C:Value->Prop} (hC:C v) (h:x=some v:=by conv=>lhs;simp -implicitDefEqProofs (disch:=first|omega|decide) only [seval, -Int.reducePow, -Nat.reducePow,cC,pv,Ao,Az,undef]):∃v,x=some v/\C v:=⟨v,h,hC⟩
theorem VX (hk:CV P M W n y F2 L2 Q) (hd:l.all (fun o=>HV n o.dst)=true:=by rfl) (h:∀K:Fr->List Ai->Prop,MX P M W n l true l F L K=K F2 L2:=by intro K;conv=>lhs;simp -implicitDefEqProofs (disch:=first|omega|decide) only [seval, -Int.reducePow, -Nat.reducePow,cC,pv,Ao,Az,undef]):CV P M W n (.seq (.region i l.toArray false) y) F L Q:=SH hd h hk
theorem rQ (ze:a) (hk:CV P M W n y F2 L2 Q) (hd:l.all (fun o=>HV n o.dst)=true:=by rfl) (h:a→∀K:Fr->List Ai->Prop,MX P M W n l true l F L K=K F2 L2:=by intro ze K;conv=>lhs;simp -implicitDefEqProofs (disch:=first|omega|decide) only [seval, -Int.reducePow, -Nat.reducePow,cC,pv,Ao,Az,undef,ze]):CV P M W n (.seq (.region i l.toArray false) y) F L Q:=SH hd (h ze) hk
end
end Go.Proofs.YtegonkdandmolaaGreat
