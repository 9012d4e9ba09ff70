import Derived.Test.YtegonkdandmolaaGreatDlays0
import Derived.Lib.SlBytesConst
import Derived.ArgAppend
import Derived.Laws.CopyRow
import Derived.Laws.MakeOwn
import Derived.Deep.OwnRows
import Derived.RangeFuncNested
import Derived.RangeFuncCalls
import Derived.RangeFuncLeaves
import Derived.MapKept
set_option linter.unusedVariables false
set_option linter.unusedSimpArgs false
set_option maxRecDepth 100000
set_option maxHeartbeats 4000000
namespace Go.Proofs.YtegonkdandmolaaGreat
open Go.RowKit Go.Shelf
def Cw:List Value->Value
 | [v]=>v
 | vs=>.tuple vs.toArray
def Cx (P:Program) (M:List Nat) (W:World) (L:List Ai) (F:Fr):List ResultVar->(Bool->List Value->Prop)->Prop
 | [],K=>K true []
 | .tmp t::r,K=>Cx P M W L F r fun tok vs=>K tok (F t::vs)
 | .cell a t::r,K=>(match F a with
  | .pointer (some ad)=>rE P M W t ad L fun AJP v=>Cx P M W L F r fun tok vs=>K tok (v::vs)
  | _=>False)
def P5 (tmps:Array Value):ResultVar->Sem Value
 | .tmp t=>pure (tmps.getD t undef)
 | .cell c t=>do loadVar t (← asAddr (tmps.getD c undef))
theorem Ig {P:Program} {M:List Nat} {W:World} {L:List Ai} {F:Fr} {n:Nat} {a:Act} (ha:Gu n a F):∀ {rs:List ResultVar} {K:Bool->List Value->Prop},Cx P M W L F rs K →
  ∃vs,K true vs∧∀w,St M W L w->(rs.mapM (P5 a.tmps)).run P w=Result.ok vs w
 | [],K,h=>⟨[],h,fun w hw=>by simp⟩
 | .tmp t::r,K,h=>by
  obtain ⟨vs,hk,hr⟩:=Ig ha (rs:=r) h
  refine ⟨_,hk,fun w hw=>?_⟩
  have hg:=ha.get t
  simp only [List.mapM_cons,P5,Sem.run_bind,Sem.run_pure,Result.andThen_ok,hr w hw,hg]
 | .cell c t::r,K,h=>by
  simp only [Cx] at h
  split at h
  ·rename_i ad had
   obtain ⟨v,hl,h2⟩:=NV h
   obtain ⟨vs,hk,hr⟩:=Ig ha (rs:=r) h2
   refine ⟨_,hk,fun w hw=>?_⟩
   have hg:=ha.get c
   have hl':=hl w hw
   simp only [Instr.loadAt,Instr.sureAddr,Sem.run_bind,Sem.run_pure,Result.andThen_ok] at hl'
   simp only [List.mapM_cons,P5,Sem.run_bind,hg,had,asAddr,Sem.run_pure,Result.andThen_ok,hl',hr w hw]
  ·exact h.elim
def Dx (P:Program) (M:List Nat) (W:World) (rs:List ResultVar) (R:Ending->World->Prop):Exit->Fr->List Ai->Prop
 | .normal,F,L=>Cx P M W L F rs fun tok vs=>tok=true→∀w,St M W L w->R (.returned (Cw vs)) w
 | .ret,F,L=>Cx P M W L F rs fun tok vs=>tok=true→∀w,St M W L w->R (.returned (Cw vs)) w
 | _,_,_=>False
theorem Mf {P:Program} {fn:Func} {tmps:Array Value} {w:World} {vs:List Value}
  (h:(fn.results.toList.mapM (P5 tmps)).run P w=Result.ok vs w):(results fn tmps).run P w = .ok (Cw vs) w:=by
 have hr:fn.results=fn.results.toList.toArray:=by simp
 have he:results fn tmps=(do
   let vs ← fn.results.mapM (P5 tmps)
   pure (if h:vs.size=1 then vs[0] else .tuple vs)):=by
  unfold results
  congr 1
 rw [he,hr,List.mapM_toArray]
 simp only [Sem.run_bind,map_eq_pure_bind,h,Result.andThen_ok,Sem.run_pure]
 congr 1
 match vs with
 | []=>simp [Cw]
 | [v]=>simp [Cw]
 | a::b::r=>simp [Cw]
theorem DY {P:Program} {M:List Nat} {W:World} {n:Nat} {f:FuncId} {fn:Func} {c:Code} {args:List Value} {R:Ending->World->Prop} {L:List Ai} (rs:List ResultVar) (hrs:fn.results=rs.toArray) (hf:P.funcs[f]? = some fn) (hb:fn.body=some c) (hn:fn.ntmps=n) (hl:args.length<=n) (hw:St M W L W)
  (h:CV P M W n c (d_ args) L (Dx P M W rs R)):Calls P f args.toArray W R:=by
 obtain rfl:fn.results.toList=rs:=by rw [hrs]
 refine calls_of_wp hf hb (wp_mono (h _ W ⟨rfl,by simp [hn];omega,fun i=>?_⟩ hw) ?_)
 ·simp only [d_]
  rcases Nat.lt_or_ge i args.length with h1|h1
  ·have h2:i<(args.toArray++Array.replicate (fn.ntmps-args.toArray.size) undef).size:=by simp;omega
   simp [Array.getElem?_append,h1]
  ·have h2:args[i]? = none:=List.getElem?_eq_none h1
   simp [Array.getElem?_append,Nat.not_lt.2 h1,Array.getElem?_replicate,h2]
   split<;>rfl
 ·intro e a w hh
  cases e<;>first
   | exact hh.elim
   | (obtain ⟨F',L',h1,h2,h3⟩:=hh
      first
       | exact h3.elim
       | (obtain ⟨vs,hk,hr⟩:=Ig h1 h3
          exact ⟨h1.defers,_,Mf (hr w h2),hk rfl w h2⟩))
section
variable {P:Program} {M:List Nat} {W w w':World} {L:List Ai} {K:Bool->Value->List Ai->Prop} {g:FuncId} {args:Array Value}
theorem Gf.trans {w'':World} (h:Gf M W w') (h2:Gf M w' w''):Gf M W w'' :=
 ⟨h2.os.trans h.os,h2.tape.trans h.tape,h2.output.trans h.output,Nat.le_trans h.size h2.size,fun k hk hm=>(h2.block k (Nat.lt_of_lt_of_le hk h.size) hm).trans (h.block k hk hm)⟩
theorem St.one {b:Nat} {t:TypeId} {cs:List Value} (h:W.heap[b]? = some (.cells cs.toArray t (0,0))):St [b] W [.blk b t cs] W:=by
 have hb:b<W.heap.size:=(Array.getElem?_eq_some_iff.1 h).1
 refine ⟨Gf.refl _ _, ?_, ?_,List.pairwise_singleton _ _⟩
 ·intro r hr
  obtain rfl:r = .blk b t cs:=by simpa using hr
  exact h
 ·intro r hr c hc
  obtain rfl:r = .blk b t cs:=by simpa using hr
  obtain rfl:c=b:=by simpa [Ai.foot] using hc
  exact ⟨.inr (by simp),hb⟩
theorem St.two {b d:Nat} {t u:TypeId} {cs ds:List Value} (h:W.heap[b]? = some (.cells cs.toArray t (0,0))) (h2:W.heap[d]? = some (.cells ds.toArray u (0,0))) (hne:b≠d):St [b,d] W [.blk b t cs,.blk d u ds] W:=by
 have hb:b<W.heap.size:=(Array.getElem?_eq_some_iff.1 h).1
 have hd:d<W.heap.size:=(Array.getElem?_eq_some_iff.1 h2).1
 refine ⟨Gf.refl _ _, ?_, ?_, ?_⟩
 ·intro r hr
  simp only [List.mem_cons,List.not_mem_nil,or_false] at hr
  rcases hr with rfl|rfl
  ·exact h
  ·exact h2
 ·intro r hr c hc
  simp only [List.mem_cons,List.not_mem_nil,or_false] at hr
  rcases hr with rfl|rfl
  ·obtain rfl:c=b:=by simpa [Ai.foot] using hc
   exact ⟨.inr (by simp),hb⟩
  ·obtain rfl:c=d:=by simpa [Ai.foot] using hc
   exact ⟨.inr (by simp),hd⟩
 ·simp [Ai.foot,hne]
theorem St.mod {k b:Nat} {t:TypeId} {cs us:List Value} (h:St M W L w) (hk:nth L k=some (.blk b t cs)) (hp:Gf [b] w w') (hb:w'.heap[b]? = some (.cells us.toArray t (0,0))):St M W (L.set k (.blk b t us)) w':=by
 rw [EL] at hk
 obtain ⟨hlt,hget⟩:=List.getElem?_eq_some_iff.1 hk
 have hL:L=L.take k ++ .blk b t cs::L.drop (k+1):=by
  conv=>lhs;rw [<-List.take_append_drop k L,List.drop_eq_getElem_cons hlt,hget]
 rw [List.set_eq_take_append_cons_drop,if_pos hlt]
 generalize L.take k=A at *
 generalize L.drop (k+1)=B at *
 subst hL
 clear hk hlt hget
 have hmem:Ai.blk b t cs∈A ++ .blk b t cs::B:=by simp
 have Zv:=h.own _ hmem b (by simp [Ai.foot])
 have hap:=h.apart
 have PU:∀r∈A++B,b∉r.foot:=by
  intro r hr hbr
  rw [List.pairwise_append] at hap
  rcases List.mem_append.1 hr with hr|hr
  ·exact hap.2.2 r hr (.blk b t cs) (by simp) b hbr (by simp [Ai.foot])
  ·exact (List.pairwise_cons.1 hap.2.1).1 r hr b (by simp [Ai.foot]) hbr
 have hkeep:∀r∈A++B,r∈A ++ .blk b t cs::B→∀c∈r.foot,w'.heap[c]? = w.heap[c]? := fun r hr hr2 c hc =>
  hp.block c (h.own r hr2 c hc).2 (by simp only [List.mem_singleton];rintro rfl;exact PU r hr hc)
 refine ⟨⟨hp.os.trans h.Bz.os,hp.tape.trans h.Bz.tape,hp.output.trans h.Bz.output,Nat.le_trans h.Bz.size hp.size,fun j hj hm=>?_⟩, ?_, ?_, ?_⟩
 ·rw [hp.block j (Nat.lt_of_lt_of_le hj h.Bz.size) (by
   simp only [List.mem_singleton]
   rintro rfl
   rcases Zv.1 with h1|h1
   ·omega
   ·exact hm h1)]
  exact h.Bz.block j hj hm
 ·intro r hr
  rcases List.mem_append.1 hr with hr1|hr1
  ·exact r.keep (h.holds r (by simp [hr1])) (hkeep r (by simp [hr1]) (by simp [hr1]))
  ·rcases List.mem_cons.1 hr1 with rfl|hr1
   ·exact hb
   ·exact r.keep (h.holds r (by simp [hr1])) (hkeep r (by simp [hr1]) (by simp [hr1]))
 ·intro r hr c hc
  rcases List.mem_append.1 hr with hr1|hr1
  ·exact ⟨(h.own r (by simp [hr1]) c hc).1,Nat.lt_of_lt_of_le (h.own r (by simp [hr1]) c hc).2 hp.size⟩
  ·rcases List.mem_cons.1 hr1 with rfl|hr1
   ·exact ⟨(h.own _ hmem c hc).1,Nat.lt_of_lt_of_le (h.own _ hmem c hc).2 hp.size⟩
   ·exact ⟨(h.own r (by simp [hr1]) c hc).1,Nat.lt_of_lt_of_le (h.own r (by simp [hr1]) c hc).2 hp.size⟩
 ·rw [List.pairwise_append] at hap ⊢
  rw [List.pairwise_cons] at hap ⊢
  refine ⟨hap.1,⟨fun r hr c hc=>hap.2.1.1 r hr c hc,hap.2.1.2⟩,fun r hr s hs=>?_⟩
  rcases List.mem_cons.1 hs with rfl|hs
  ·exact hap.2.2 r hr (.blk b t cs) (by simp)
  ·exact hap.2.2 r hr s (by simp [hs])
theorem St.replace {k:Nat} {r r':Ai} (h:St M W L w) (hk:nth L k=some r) (hf:r'.foot=r.foot) (hh:r'.holds w')
  (hp:∀c,c∉r.foot->w'.heap[c]? = w.heap[c]?) (hs:w'.heap.size=w.heap.size) (ho:w'.os=w.os) (ht:w'.tape=w.tape) (hu:w'.output=w.output):St M W (L.set k r') w':=by
 rw [EL] at hk
 obtain ⟨hlt,hget⟩:=List.getElem?_eq_some_iff.1 hk
 have hL:L=L.take k++r::L.drop (k+1):=by
  conv=>lhs;rw [<-List.take_append_drop k L,List.drop_eq_getElem_cons hlt,hget]
 rw [List.set_eq_take_append_cons_drop,if_pos hlt]
 generalize L.take k=A at *
 generalize L.drop (k+1)=B at *
 subst hL
 clear hk hlt hget
 have hmem:r∈A++r::B:=by simp
 have hap:=h.apart
 have PU:∀s∈A++B,∀c∈s.foot,c∉r.foot:=by
  intro s hs c hc hcr
  rw [List.pairwise_append] at hap
  rcases List.mem_append.1 hs with hs|hs
  ·exact hap.2.2 s hs r (by simp) c hc hcr
  ·exact (List.pairwise_cons.1 hap.2.1).1 s hs c hcr hc
 refine ⟨⟨ho.trans h.Bz.os,ht.trans h.Bz.tape,hu.trans h.Bz.output,by rw [hs];exact h.Bz.size,fun j hj hm=>?_⟩, ?_, ?_, ?_⟩
 ·rw [hp j (fun hjr=>by
   rcases (h.own r hmem j hjr).1 with h1|h1
   ·omega
   ·exact hm h1)]
  exact h.Bz.block j hj hm
 ·intro s hs1
  rcases List.mem_append.1 hs1 with hs1|hs1
  ·exact s.keep (h.holds s (by simp [hs1])) fun c hc=>hp c (PU s (by simp [hs1]) c hc)
  ·rcases List.mem_cons.1 hs1 with rfl|hs1
   ·exact hh
   ·exact s.keep (h.holds s (by simp [hs1])) fun c hc=>hp c (PU s (by simp [hs1]) c hc)
 ·intro s hs1 c hc
  rw [hs]
  rcases List.mem_append.1 hs1 with hs1|hs1
  ·exact h.own s (by simp [hs1]) c hc
  ·rcases List.mem_cons.1 hs1 with rfl|hs1
   ·exact h.own r hmem c (hf▸hc)
   ·exact h.own s (by simp [hs1]) c hc
 ·rw [List.pairwise_append] at hap ⊢
  rw [List.pairwise_cons] at hap ⊢
  refine ⟨hap.1,⟨fun s hs c hc=>hap.2.1.1 s hs c (hf▸hc),hap.2.1.2⟩,fun s hs t ht=>?_⟩
  rcases List.mem_cons.1 ht with rfl|ht
  ·intro c hc
   rw [hf]
   exact hap.2.2 s hs r (by simp) c hc
  ·exact hap.2.2 s hs t (by simp [ht])
theorem EW (k:Nat) {t T:TypeId} {g n c size i:Nat} {xs:List Value} {v:Value} (hk:nth L k=some (.row (.slice (some ⟨g,0,none⟩) n c) T size n xs)) (hi:i<xs.length) (ht:Dk P t=some (false,1)) (hv:v.cells.toList=[v]) (h1:v.oneCell'=true) :
  SV P M W t ⟨g,i,none⟩ v L (L.set k (.row (.slice (some ⟨g,0,none⟩) n c) T size n (xs.set i v))):=fun w hw=>by
 have hk':=hk
 rw [EL] at hk'
 have hm:=List.mem_of_getElem? hk'
 have hh:w.ownsRow 0 T size (.slice (some ⟨g,0,none⟩) n c) n xs:=hw.holds _ hm
 obtain ⟨hlen,mJ⟩:=hh
 rcases mJ with ⟨hn,_⟩|⟨g',cap,cur,he,hg0,hheap,hnc,hcm,hsz,htk⟩
 ·cases hn
 cases he
 have mK:i<cur.size:=by
  have:xs.length<=cur.toList.length:=by rw [<-htk,List.length_take];omega
  simp at this
  omega
 have hs:=run_storeCells_at P g i T [v] 0 cur w hheap (by simp;omega) (by intro u hu;simp at hu;subst hu;exact h1)
 have hsz2:=(Jf ht w).2
 refine ⟨w.setRow g (cur.toList.take (i+0)++[v]++cur.toList.drop (i+0+[v].length)).toArray, ?_, ?_⟩
 ·have h1':v.cells.size=1:=by
   have:=congrArg List.length hv
   simpa using this
  simp only [Instr.storeAt,Instr.sureAddr,Sem.run_bind,Sem.run_pure,Result.andThen_ok,storeVar,hsz2,h1',ne_eq,not_true_eq_false,if_false,hv]
  exact hs
 ·have hnew:(cur.toList.take (i+0)++[v]++cur.toList.drop (i+0+[v].length))=cur.toList.set i v:=by
   rw [List.set_eq_take_append_cons_drop,if_pos (by simpa using mK)]
   simp
  refine hw.replace hk rfl ?_ (fun c hc=>setRow_other w g c _ (by simpa [Ai.foot,Value.ownBlock] using hc)) (by simp [World.setRow]) rfl rfl rfl
  refine ⟨by simp [hlen],.inr ⟨g,_,(cur.toList.set i v).toArray,rfl,hg0, ?_,hnc,hcm,by simpa using hsz, ?_⟩⟩
  ·rw [hnew]
   exact setRow_heap w g cur _ T (0,0) hheap
  ·have e:(cur.toList.set i v).take (n*size)=(cur.toList.take (n*size)).set i v:=by rw [List.take_set]
   simp only [List.toList_toArray]
   rw [e,htk]
theorem St.eY {k b:Nat} {t:TypeId} {cs us:List Value} (h:St M W L w) (hk:nth L k=some (.blk b t cs)) (hp:Gf [b] w w') (hb:w'.heap[b]? = some (.cells us.toArray t (0,0)))
  {T:TypeId} {size n:Nat} {v:Value} {xs:List Value} (ho:w'.ownsRow w.heap.size T size v n xs):St M W (.row v T size n xs::L.set k (.blk b t us)) w':=by
 have h2:=h.mod hk hp hb
 refine h2.add _ (Jh ho (Nat.zero_le _)) (fun c hc=>?_) (fun s hs c hc hcs=>?_)
 ·have:=ho.lt c (by simpa [Ai.foot] using hc)
  have h3:=h.Bz.size
  exact ⟨.inl (by omega),this.2⟩
 ·have h1:=ho.lt c (by simpa [Ai.foot] using hc)
  have h4:c<w.heap.size:=by
   rcases List.mem_or_eq_of_mem_set hs with h5|rfl
   ·exact (h.own s h5 c hcs).2
   ·rw [EL] at hk
    exact (h.own _ (List.mem_of_getElem? hk) c hcs).2
  omega
theorem SN {ι:Sort _} (k:Nat) (f:ι->Value) (us:ι->List Value) (φ:ι->Prop) {b:Nat} {t:TypeId} {cs:List Value} (hk:nth L k=some (.blk b t cs))
  (h:∀w,St M W L w->Calls P g args w (fun e w' => ∃i,e = .returned (f i)/\φ i/\w'.heap[b]? = some (.cells (us i).toArray t (0,0))/\Gf [b] w w'))
  (hK:∀i,φ i->K true (f i) (L.set k (.blk b t (us i)))):Ia P M W g args L K:=fun w hw =>
 (h w hw).mono (by rintro e w' ⟨i,rfl,hi,hb,hp⟩;exact ⟨_,_,rfl,hw.mod hk hp hb,hK i hi⟩)
def rR (b:Nat) (t:TypeId) (v:Value) (us:List Value) (w:World) (e:Ending) (w':World):Prop :=
 e = .returned v/\w'.heap[b]? = some (.cells us.toArray t (0,0))/\Gf [b] w w'
theorem BB (k:Nat) {v:Value} {us:List Value} {b:Nat} {t:TypeId} {cs:List Value} (h:∀w,St M W L w->Calls P g args w (rR b t v us w)) (hk:nth L k=some (.blk b t cs))
  (hK:K true v (L.set k (.blk b t us))):Ia P M W g args L K:=fun w hw =>
 (h w hw).mono (by rintro e w' ⟨rfl,hb,hp⟩;exact ⟨_,_,rfl,hw.mod hk hp hb,hK⟩)
def Yy (b:Nat) (t:TypeId) (us:List Value) (T:TypeId) (size:Nat) (f:Value->Value) (xs:List Value) (w:World) (e:Ending) (w':World):Prop :=
 ∃A n c,e = .returned (f (.slice A n c))/\w'.ownsRow w.heap.size T size (.slice A n c) n xs/\w'.heap[b]? = some (.cells us.toArray t (0,0))/\Gf [b] w w'
theorem Jn (k:Nat) {us:List Value} {b:Nat} {t:TypeId} {cs:List Value} {T:TypeId} {size:Nat} {f:Value->Value} {xs:List Value} (h:∀w,St M W L w->Calls P g args w (Yy b t us T size f xs w)) (hk:nth L k=some (.blk b t cs))
  (hK:∀A n c,xs.length=n*size->rowAt A n W M (L.set k (.blk b t us))->K true (f (.slice A n c)) (.row (.slice A n c) T size n xs::L.set k (.blk b t us))):Ia P M W g args L K:=fun w hw =>
 (h w hw).mono (by
  rintro e w' ⟨A,n,c,rfl,ho,hb,hp⟩
  exact ⟨_,_,rfl,hw.eY hk hp hb ho,hK A n c ho.1 (hw.eY hk hp hb ho).Ji⟩)
end
structure Sl (w:World) (B:Nat) (size:Nat) (A:Option Addr) (n c:Nat) (xs:List Value):Prop where
 len:xs.length=n*size
 cap:n<=c
 max:c<=9223372036854775807
 cells:0<n→∃b off,A=some ⟨b,off,none⟩/\b<B∧∀i v,xs[i]? = some v->w.cell? ⟨b,off+i,none⟩=some v
section
variable {W w w':World} {B B' size n c:Nat} {A:Option Addr} {xs:List Value} {L:List Ai} {M:List Nat} {P:Program}
theorem Sl.below (h:Sl w B size A n c xs) (hb:Below B w w'):Sl w' B size A n c xs :=
 ⟨h.len,h.cap,h.max,fun hn=>by
  obtain ⟨b,off,e,hB,hc⟩:=h.cells hn
  exact ⟨b,off,e,hB,fun i v hv=>((dz hb).1 _ _ hB).trans (hc i v hv)⟩⟩
theorem Sl.more (h:Sl w B size A n c xs) (hB:B<=B'):Sl w B' size A n c xs :=
 ⟨h.len,h.cap,h.max,fun hn=>by
  obtain ⟨b,off,e,hb,hc⟩:=h.cells hn
  exact ⟨b,off,e,by omega,hc⟩⟩
theorem Sl.at (h:Sl W W.heap.size size A n c xs) (hw:St [] W L w):Sl w w.heap.size size A n c xs:=(h.below hw.below).more hw.Bz.size
theorem Sl.ld1 {b off i m:Nat} {T:TypeId} {v:Value} (h:Sl W W.heap.size size (some ⟨b,off,none⟩) n c xs) (ht:Dk P T=some (false,m)) (hv:xs[i]? = some v):LD P [] W L T ⟨b,off+i,none⟩ v:=fun w hw=>by
 have hn:0<n:=by
  rcases Nat.eq_zero_or_pos n with h0|h0
  ·have h1:=h.len
   rw [h0,Nat.zero_mul] at h1
   have:=(List.getElem?_eq_some_iff.1 hv).1
   omega
  ·exact h0
 obtain ⟨b',off',e,hb,hc⟩:=h.cells hn
 cases e
 exact Es ht ((hw.FX hb (by simp)).trans (hc i v hv))
theorem Sl.ld {b off i:Nat} {T:TypeId} {vs:List Value} (h:Sl W W.heap.size size (some ⟨b,off,none⟩) n c xs) (hn:0<n) (ht:Dk P T=some (true,vs.length)) (hv:(xs.drop i).take vs.length=vs):LD P [] W L T ⟨b,off+i,none⟩ (.agg vs.toArray):=fun w hw=>by
 obtain ⟨b',off',e,hb,hc⟩:=h.cells hn
 cases e
 have hv':∀(j:Nat) v,vs[j]? = some v->xs[i+j]? = some v:=fun j v h=>by
  rw [<-hv,List.getElem?_take] at h
  split at h
  ·simpa using h
  ·cases h
 refine Hz ht vs rfl fun j v hj=>?_
 rw [Addr.add_lit,hw.FX hb (by simp),Nat.add_assoc]
 exact hc _ _ (hv' j v hj)
theorem Sl.take (h:Sl w B size A n c xs) {k:Nat} (hk:k<=n):Sl w B size A k c (xs.take (k*size)) :=
 ⟨by rw [List.length_take,h.len];exact Nat.min_eq_left (Nat.mul_le_mul_right _ hk),Nat.le_trans hk h.cap,h.max,fun hn=>by
  obtain ⟨b,off,e,hb,hc⟩:=h.cells (by omega)
  refine ⟨b,off,e,hb,fun i v hv=>hc i v ?_⟩
  rw [List.getElem?_take] at hv
  split at hv
  ·exact hv
  ·cases hv⟩
theorem Sl.drop (h:Sl w B size A n c xs) {k:Nat} (hk:k<=n):Sl w B size (J9 c k size A) (n-k) (c-k) (xs.drop (k*size)) :=
 ⟨by rw [List.length_drop,h.len,Nat.sub_mul],by have:=h.cap;omega,by have:=h.max;omega,fun hn=>by
  obtain ⟨b,off,e,hb,hc⟩:=h.cells (by omega)
  have:=h.cap
  refine ⟨b,off+k*size,by rw [e,PY (by omega),Addr.add_lit],hb,fun i v hv=>?_⟩
  rw [List.getElem?_drop] at hv
  rw [Nat.add_assoc]
  exact hc _ _ hv⟩
theorem Sl.reads (h:Sl w B size A n c xs):Reads w B size A n xs :=
 ⟨h.len,fun hn=>by
  obtain ⟨b,off,e,hB,hc⟩:=h.cells hn
  exact ⟨_,e,hB,fun j u hu=>by rw [Addr.add_lit];exact hc j u hu⟩⟩
theorem Sl.Lr {t:TypeId} {base:Nat} (h:w.ownsRow base t size (.slice A n c) n xs):Sl w w.heap.size size A n c xs:=by
 rcases h.2 with ⟨hv,hn⟩|⟨g,cap,cur,hv,hb,hg,hnc,hcm,hsz,htk⟩
 ·cases hv
  exact ⟨h.1,by omega,by omega,fun h=>by omega⟩
 ·cases hv
  refine ⟨h.1,hnc,hcm,fun hn=>⟨g,0,rfl,(h.lt g rfl).2,fun i v hv=>?_⟩⟩
  have h1:=h.cells (g:=g) rfl _ _ hv
  rw [Addr.add_lit] at h1
  exact h1
theorem Sl.Av {t:TypeId} (hw:St M W L w) (hm:Ai.row (.slice A n c) t size n xs∈L):Sl w w.heap.size size A n c xs:=Sl.Lr (hw.holds _ hm)
end
def rowP (T:TypeId) (size:Nat) (f:Value->Value) (xs:List Value) (w:World) (e:Ending) (w':World):Prop :=
 ∃A n c,e = .returned (f (.slice A n c))/\w'.ownsRow w.heap.size T size (.slice A n c) n xs/\Below w.heap.size w w'
def Gs (l:List Nat):List Value:=l.map fun x:Nat=>Value.int .u8 (x:Int)
theorem Gc (l:List Nat):(Gs l).length=l.length:=by simp [Gs]
theorem eZ (l:List Nat) (x:Nat):Gs (l++[x])=Gs l++[.int .u8 x]:=by simp [Gs]
theorem VY (l:List Nat):ones (Gs l)=true:=by simp [ones,Gs,Value.oneCell']
theorem Tp {l:List Nat} {i x:Nat} (h:l[i]? = some x):(Gs l)[i]? = some (.int .u8 x):=by simp [Gs,h]
def U4 (A:Option Addr) (M:List Nat):Prop := ∀b o,A=some ⟨b,o,none⟩->b∉M
section
variable {W w w':World} {B B' size n c:Nat} {A:Option Addr} {xs:List Value} {L:List Ai} {M:List Nat} {P:Program}
theorem U4.nil (A:Option Addr):U4 A []:=fun b o _=>by simp
theorem U4.J9 (h:U4 A M) (hA:A=none∨∃b o,A=some ⟨b,o,Option.none⟩) (c l size:Nat):U4 (Go.Proofs.YtegonkdandmolaaGreat.J9 c l size A) M:=fun b o e=>by
 unfold Go.Proofs.YtegonkdandmolaaGreat.J9 at e
 split at e
 ·exact h b o e
 ·rcases hA with rfl|⟨b',o',rfl⟩
  ·cases e
  ·simp only [Option.map_some,Option.some.injEq,Addr.add_lit,Addr.mk.injEq] at e
   obtain ⟨rfl,_⟩:=e
   exact h b' o' rfl
theorem Sl.u7 (h:Sl W W.heap.size size A n c xs) (hw:St M W L w) (ha:U4 A M):Sl w w.heap.size size A n c xs :=
 ⟨h.len,h.cap,h.max,fun hn=>by
  obtain ⟨b,off,e,hb,hc⟩:=h.cells hn
  exact ⟨b,off,e,Nat.lt_of_lt_of_le hb hw.Bz.size,fun i v hv=>(hw.FX hb (ha _ _ e)).trans (hc i v hv)⟩⟩
theorem Sl.H7 (h:Sl W W.heap.size size A n c xs) (hw:St M W L w) (ha:0<n->U4 A M):Sl w w.heap.size size A n c xs :=
 ⟨h.len,h.cap,h.max,fun hn=>by
  obtain ⟨b,off,e,hb,hc⟩:=h.cells hn
  exact ⟨b,off,e,Nat.lt_of_lt_of_le hb hw.Bz.size,fun i v hv=>(hw.FX hb (ha hn _ _ e)).trans (hc i v hv)⟩⟩
theorem Sl.ABT {b off i m:Nat} {T:TypeId} {v:Value} (h:Sl W W.heap.size size (some ⟨b,off,none⟩) n c xs) (ha:U4 (some ⟨b,off,none⟩) M) (ht:Dk P T=some (false,m)) (hv:xs[i]? = some v):LD P M W L T ⟨b,off+i,none⟩ v:=fun w hw=>by
 have hn:0<n:=by
  rcases Nat.eq_zero_or_pos n with h0|h0
  ·have h1:=h.len
   rw [h0,Nat.zero_mul] at h1
   have:=(List.getElem?_eq_some_iff.1 hv).1
   omega
  ·exact h0
 obtain ⟨b',off',e,hb,hc⟩:=h.cells hn
 cases e
 exact Es ht ((hw.FX hb (ha _ _ rfl)).trans (hc i v hv))
theorem Sl.nil (size:Nat):Sl w B size none 0 0 []:=⟨by simp,Nat.le_refl _,by omega,fun h=>by omega⟩
theorem Sl.ed {b:Nat} {t:TypeId} {cs:List Value} (hw:St M W L w) (hm:Ai.blk b t cs∈L) (hl:cs.length=n*size) (hn:n<=9223372036854775807):Sl w w.heap.size size (some ⟨b,0,Option.none⟩) n n cs :=
 ⟨hl,Nat.le_refl _,hn,fun _=>⟨_,_,rfl,(hw.own _ hm b (by simp [Ai.foot])).2,fun i v hv=>by rw [Nat.zero_add,hw.Dz hm];exact hv⟩⟩
theorem Sl.zero (h:Sl w B size A n c xs) (hn:n=0):xs=[]:=List.eq_nil_of_length_eq_zero (by rw [h.len,hn,Nat.zero_mul])
theorem Sl.isNone (h:Sl w B size A n c xs) (hA:A.isNone=true):n=0/\xs=[]:=by
 have:n=0:=by
  rcases Nat.eq_zero_or_pos n with h0|h0
  ·exact h0
  ·obtain ⟨b,off,rfl,_⟩:=h.cells h0
   simp at hA
 exact ⟨this,h.zero this⟩
end
def cl {α:Type} (f:α->List Value) (l:List α):List Value:=l.flatMap f
section
variable {α:Type} {f:α->List Value} {k:Nat} {l:List α}
theorem Tq (hf:∀x,(f x).length=k):∀l:List α,(cl f l).length=l.length*k
 | []=>by simp [cl]
 | x::l=>by
  have:=Tq hf l
  unfold cl at *
  simp only [List.flatMap_cons,List.length_append,hf,this,List.length_cons,Nat.add_mul]
  omega
theorem Yz (x:α) (l:List α):cl f (x::l)=f x++cl f l:=by simp [cl]
theorem mM (l:List α) (x:α):cl f (l++[x])=cl f l++f x:=by simp [cl]
theorem Y0 (hf:∀x,(f x).length=k):∀(i:Nat) (l:List α),(cl f l).drop (i*k)=cl f (l.drop i)
 | 0,l=>by simp
 | i+1,[]=>by simp [cl]
 | i+1,x::l=>by
  rw [Yz,List.drop_succ_cons,<-Y0 hf i l,Nat.add_mul,Nat.one_mul,Nat.add_comm (i*k),<-List.drop_drop]
  congr 1
  rw [<-hf x]
  simp
theorem eu (hf:∀x,(f x).length=k) {i:Nat} {x:α} (h:l[i]? = some x):((cl f l).drop (i*k)).take k=f x:=by
 rw [Y0 hf]
 obtain ⟨hlt,hx⟩:=List.getElem?_eq_some_iff.1 h
 rw [List.drop_eq_getElem_cons hlt,hx,Yz,<-hf x]
 simp
theorem rT (hf:∀x,(f x).length=k) {i j:Nat} {x:α} {v:Value} (h:l[i]? = some x) (hv:(f x)[j]? = some v):(cl f l)[i*k+j]? = some v:=by
 have h1:=eu hf h
 have hj:j<k:=by rw [<-hf x];exact (List.getElem?_eq_some_iff.1 hv).1
 have h2:(((cl f l).drop (i*k)).take k)[j]? = some v:=by rw [h1];exact hv
 rw [List.getElem?_take,if_pos hj,List.getElem?_drop] at h2
 exact h2
theorem Iy (hf:∀x,(f x).length=k) (hk:0<k) {n:Nat} (h:(cl f l).length=n*k):l.length=n:=by
 rw [Tq hf] at h
 exact Nat.eq_of_mul_eq_mul_right hk h
end
section
variable {P:Program} {M:List Nat} {W w w':World} {L:List Ai} {K:Bool->Value->List Ai->Prop} {g:FuncId} {args:Array Value}
theorem Mg {B b:Nat} (hB:B<=b):∀ {L:List Ai},(∀r∈L,∀c∈r.foot,c<B)->fresh L b
 | [],_=>trivial
 | .blk b' t cs::L,h=>⟨Nat.lt_of_lt_of_le (h (.blk b' t cs) (by simp) b' (by simp [Ai.foot])) hB,Mg hB fun r hr=>h r (by simp [hr])⟩
 | .row v t s n xs::L,h=>Mg (L:=L) hB fun r hr=>h r (by simp [hr])
 | .dat f p l::L,h=>Mg (L:=L) hB fun r hr=>h r (by simp [hr])
theorem St.rU {b:Nat} {t:TypeId} {us:List Value} (hw:St M W L w) (hB:Below w.heap.size w w') (hlt:w.heap.size<=b) (hb:w'.heap[b]? = some (.cells us.toArray t (0,0))):St M W (.blk b t us::L) w' :=
 (hw.quiet hB).add (.blk b t us) hb (fun c hc=>by
  obtain rfl:c=b:=by simpa [Ai.foot] using hc
  exact ⟨.inl (Nat.le_trans hw.Bz.size hlt),(Array.getElem?_eq_some_iff.1 hb).1⟩) (fun s hs c hc hcs=>by
  obtain rfl:c=b:=by simpa [Ai.foot] using hc
  have:=(hw.own s hs _ hcs).2
  omega)
theorem St.hold {b:Nat} {t:TypeId} {cs:List Value} (hw:St M W L w) (k:Nat) (h:nth L k=some (.blk b t cs)):w.heap[b]? = some (.cells cs.toArray t (0,0)):=by
 rw [EL] at h
 exact hw.holds _ (List.mem_of_getElem? h)
def Tt (t:TypeId) (us:Value->List Value) (T:TypeId) (size:Nat) (xs:List Value) (w:World) (e:Ending) (w':World):Prop :=
 ∃b A n c,e = .returned (.pointer (some ⟨b,0,none⟩))/\w'.ownsRow w.heap.size T size (.slice A n c) n xs/\w'.heap[b]? = some (.cells (us (.slice A n c)).toArray t (0,0))/\w.heap.size<=b/\(∀g,(Value.slice A n c).ownBlock=some g->g≠b)/\Below w.heap.size w w'
theorem Jo {t T:TypeId} {us:Value->List Value} {size:Nat} {xs:List Value} (h:∀w,St M W L w->Calls P g args w (Tt t us T size xs w))
  (hK:∀b A n c,xs.length=n*size->W.heap.size<=b->fresh L b->rowAt A n W M (.blk b t (us (.slice A n c))::L)->K true (.pointer (some ⟨b,0,none⟩)) (.row (.slice A n c) T size n xs :: .blk b t (us (.slice A n c))::L)):Ia P M W g args L K:=fun w hw =>
 (h w hw).mono (by
  rintro e w' ⟨b,A,n,c,rfl,ho,hb,hlt,hne,hB⟩
  have h1:=hw.rU hB hlt hb
  have h2:St M W (.row (.slice A n c) T size n xs :: .blk b t (us (.slice A n c))::L) w':=h1.add _ (Jh ho (Nat.zero_le _)) (fun g hg=>by
   have:=ho.lt g (by simpa [Ai.foot] using hg)
   have h3:=hw.Bz.size
   exact ⟨.inl (by omega),this.2⟩) (fun s hs g hg hgs=>by
   have h4:=ho.lt g (by simpa [Ai.foot] using hg)
   rcases List.mem_cons.1 hs with rfl|hs
   ·exact hne g (by simpa [Ai.foot] using hg) (by simpa [Ai.foot] using hgs)
   ·have:=(hw.own s hs g hgs).2
    omega)
  exact ⟨_,_,rfl,h2,hK b A n c ho.1 (Nat.le_trans hw.Bz.size hlt) (Mg hlt fun r hr c hc=>(hw.own r hr c hc).2) h2.Ji⟩)
theorem St.Tu {t:TypeId} {size n:Nat} {v:Value} {xs:List Value} (h:St M W (.row v t size n xs::L) w) (hM:∀m∈M,∃r∈L,m∈r.foot):w.ownsRow W.heap.size t size v n xs:=by
 have hh:w.ownsRow 0 t size v n xs:=h.holds _ (.head _)
 refine ⟨hh.1, ?_⟩
 rcases hh.2 with hn|⟨g,cap,cur,rfl,h2,h3⟩
 ·exact .inl hn
 ·have hf:g∈(Ai.row (.slice (some ⟨g,0,none⟩) n cap) t size n xs).foot:=by simp [Ai.foot,Value.ownBlock]
  rcases (h.own _ (.head _) g hf).1 with h4|h4
  ·exact .inr ⟨g,cap,cur,rfl,h4,h3⟩
  ·obtain ⟨r,hr,hg⟩:=hM g h4
   exact absurd hg ((List.pairwise_cons.1 h.apart).1 r hr g hf)
theorem St.rV {t T:TypeId} {us:Value->List Value} {size n c b:Nat} {A:Option Addr} {xs:List Value} (h:St [] W (.blk b t (us (.slice A n c)) :: .row (.slice A n c) T size n xs::L) w):Tt t us T size xs W (.returned (.pointer (some ⟨b,0,none⟩))) w :=
 ⟨b,A,n,c,rfl,h.tail.Tu (by simp),h.holds _ (.head _),by simpa using (h.own _ (.head _) b (by simp [Ai.foot])).1,fun g hg e=>(List.pairwise_cons.1 h.apart).1 _ (.head _) b (by simp [Ai.foot]) (by simp [Ai.foot,<-e,hg]),h.below⟩
theorem St.j_ {A:Option Addr} {n c size:Nat} {t:TypeId} {xs:List Value} (hw:St M W L w) (k:Nat) (h:nth L k=some (.row (.slice A n c) t size n xs)):Sl w w.heap.size size A n c xs:=by
 rw [EL] at h
 exact Sl.Av hw (List.mem_of_getElem? h)
end
theorem Tv {P:Program} {M:List Nat} {W:World} {n:Nat} {c:Code} {F:Fr} {L:List Ai} {Q:Exit->Fr->List Ai->Prop} (k:Nat) {A:Option Addr} {m d size:Nat} {t:TypeId} {xs:List Value} (hk:nth L k=some (.row (.slice A m d) t size m xs))
  (h:m<=d->d<=9223372036854775807->CV P M W n c F L Q):CV P M W n c F L Q:=fun a w ha hw=>by
 have:=hw.j_ k hk
 exact h this.cap this.max a w ha hw
def Dn (l:List Nat):List Value:=l.map fun x:Nat=>Value.int .u16 (x:Int)
theorem mO {l:List Nat} {i x:Nat} (h:l[i]? = some x):(Dn l)[i]? = some (.int .u16 x):=by simp [Dn,h]
theorem mP (l:List Nat):(Dn l).length=l.length:=by simp [Dn]
theorem Y1 {l:List Nat} {n:Nat} (h:(Dn l).length=n*1):l.length=n:=by rw [mP] at h;omega
theorem fA (l:List Nat):ones (Dn l)=true:=by simp [ones,Dn,Value.oneCell']
theorem fB (l:List Nat) (k:Nat):(Dn l).take (k*1)=Dn (l.take k):=by rw [Nat.mul_one];simp [Dn]
theorem Sl.ABV {w:World} {B n c:Nat} {A:Option Addr} {l:List Nat} (h:Sl w B 1 A n c (Dn l)) {k:Nat} (hk:k<=n):Sl w B 1 A k c (Dn (l.take k)):=by
 rw [<-fB];exact h.take hk
structure Sd (w:World) (D:Nat->Prop) (size:Nat) (A:Option Addr) (n c:Nat) (xs:List Value):Prop where
 len:xs.length=n*size
 cap:n<=c
 max:c<=9223372036854775807
 cells:0<n→∃b off,A=some ⟨b,off,none⟩/\D b∧∀i v,xs[i]? = some v->w.cell? ⟨b,off+i,none⟩=some v
section
variable {W w w' v v0:World} {D D':Nat->Prop} {B size n c:Nat} {A:Option Addr} {xs:List Value} {L:List Ai} {M:List Nat} {P:Program}
theorem Sd.sl (h:Sd w D size A n c xs) (hD:∀b,D b->b<B):Sl w B size A n c xs :=
 ⟨h.len,h.cap,h.max,fun hn=>by
  obtain ⟨b,off,e,hb,hc⟩:=h.cells hn
  exact ⟨b,off,e,hD b hb,hc⟩⟩
theorem Sl.sd (h:Sl w B size A n c xs) (hD:∀b,b<B->D b):Sd w D size A n c xs :=
 ⟨h.len,h.cap,h.max,fun hn=>by
  obtain ⟨b,off,e,hb,hc⟩:=h.cells hn
  exact ⟨b,off,e,hD b hb,hc⟩⟩
theorem Sd.same (h:Sd w D size A n c xs) (hs:∀b,D b->w'.heap[b]? = w.heap[b]?) (hD:∀b,D b->D' b):Sd w' D' size A n c xs :=
 ⟨h.len,h.cap,h.max,fun hn=>by
  obtain ⟨b,off,e,hb,hc⟩:=h.cells hn
  exact ⟨b,off,e,hD b hb,fun i u hu=>(World.cell?_of_block (a:=⟨b,off+i,none⟩) (hs b hb)).trans (hc i u hu)⟩⟩
theorem Sd.mono (h:Sd w D size A n c xs) (hD:∀b,D b->D' b):Sd w D' size A n c xs:=h.same (fun _ _=>rfl) hD
theorem Sd.nil:Sd w D size none 0 0 []:=⟨by simp,Nat.le_refl _,by omega,fun h=>by omega⟩
theorem Sd.Lr {base:Nat} {t:TypeId} (h:w.ownsRow base t size (.slice A n c) n xs) (hD:∀g,(Value.slice A n c).ownBlock=some g->D g):Sd w D size A n c xs:=by
 have hs:=Sl.Lr h
 refine ⟨hs.len,hs.cap,hs.max,fun hn=>?_⟩
 obtain ⟨b,off,e,hb,hc⟩:=hs.cells hn
 refine ⟨b,off,e,hD b ?_,hc⟩
 rw [e]
 rcases h.2 with ⟨hv,_⟩|⟨g,cap,cur,hv,_⟩
 ·rw [e] at hv;cases hv
 ·rw [e] at hv
  cases hv
  simp [Value.ownBlock]
def snap (M:List Nat) (W v:World) (foot:List Nat):Ai:=.dat foot (fun w=>Gf M W v∧∀b∈foot,w.heap[b]? = v.heap[b]?) (fun _ _ hk h=>⟨h.1,fun b hb=>(hk b hb).trans (h.2 b hb)⟩)
def Dm (M:List Nat) (W:World) (foot:List Nat) (b:Nat):Prop:=b∈foot\/(b<W.heap.size/\b∉M)
def ABW (W v:World) (K:List Ai) (foot:List Nat):Prop := ∀b,b∈foot↔W.heap.size<=b/\b<v.heap.size∧∀r∈K,b∉r.foot
theorem SQ (M:List Nat) (W v:World) (foot:List Nat) (L:List Ai) (k:Nat):look (snap M W v foot::L) k=look L k:=rfl
theorem SS (M:List Nat) (W v:World) (foot:List Nat) (L:List Ai) (k:Nat) (us:List Value):FK (snap M W v foot::L) k us=snap M W v foot::FK L k us:=rfl
theorem A_ (M:List Nat) (W v:World) (foot:List Nat) (L:List Ai) (b:Nat):LW (snap M W v foot::L) b=LW L b:=rfl
theorem P6 (M:List Nat) (W v:World) (foot:List Nat) (L:List Ai) (k:Nat):fresh (snap M W v foot::L) k=fresh L k:=rfl
theorem St.Z6 {foot:List Nat} (hw:St M W L w) (hm:snap M W v foot∈L):∀b,Dm M W foot b->w.heap[b]? = v.heap[b]? := fun b hb=>by
 have hh:Gf M W v∧∀b∈foot,w.heap[b]? = v.heap[b]? := hw.holds _ hm
 rcases hb with hb|⟨hb,pM⟩
 ·exact hh.2 b hb
 ·exact (hw.Bz.block b hb pM).trans (hh.1.block b hb pM).symm
theorem St.mQ {foot:List Nat} (hw:St M W L w) (hm:snap M W v foot∈L):∀b,Dm M W foot b->b<w.heap.size:=fun b hb=>by
 rcases hb with hb|⟨hb,_⟩
 ·exact (hw.own _ hm b hb).2
 ·exact Nat.lt_of_lt_of_le hb hw.Bz.size
theorem Sd.at {foot:List Nat} (h:Sd v (Dm M W foot) size A n c xs) (hw:St M W L w) (k:Nat) (hk:nth L k=some (snap M W v foot)):Sl w w.heap.size size A n c xs:=by
 have hm:snap M W v foot∈L:=by rw [EL] at hk;exact List.mem_of_getElem? hk
 exact (h.same (hw.Z6 hm) fun b hb=>hw.mQ hm b hb).sl fun b hb=>hb
theorem Sd.ld1 {foot:List Nat} {b off i m:Nat} {T:TypeId} {u:Value} (h:Sd v (Dm M W foot) size (some ⟨b,off,none⟩) n c xs) (k:Nat) (hk:nth L k=some (snap M W v foot)) (ht:Dk P T=some (false,m)) (hv:xs[i]? = some u):LD P M W L T ⟨b,off+i,none⟩ u:=fun w hw=>by
 have hs:=h.at hw k hk
 have hn:0<n:=by
  rcases Nat.eq_zero_or_pos n with h0|h0
  ·have h1:=hs.len
   rw [h0,Nat.zero_mul] at h1
   have:=(List.getElem?_eq_some_iff.1 hv).1
   omega
  ·exact h0
 obtain ⟨b',off',e,hb,hc⟩:=hs.cells hn
 cases e
 exact Es ht (hc i u hv)
theorem Sd.ld {foot:List Nat} {b off i:Nat} {T:TypeId} {vs:List Value} (h:Sd v (Dm M W foot) size (some ⟨b,off,none⟩) n c xs) (k:Nat) (hk:nth L k=some (snap M W v foot)) (hn:0<n) (ht:Dk P T=some (true,vs.length)) (hv:(xs.drop i).take vs.length=vs):LD P M W L T ⟨b,off+i,none⟩ (.agg vs.toArray):=fun w hw=>by
 obtain ⟨b',off',e,hb,hc⟩:=(h.at hw k hk).cells hn
 cases e
 have hv':∀(j:Nat) v,vs[j]? = some v->xs[i+j]? = some v:=fun j v h=>by
  rw [<-hv,List.getElem?_take] at h
  split at h
  ·simpa using h
  ·cases h
 refine Hz ht vs rfl fun j v hj=>?_
 rw [Addr.add_lit,Nat.add_assoc]
 exact hc _ _ (hv' j v hj)
theorem AZ {L:List Ai} {k:Nat} {r:Ai} (h:nth L k=some r):r∈L:=by rw [EL] at h;exact List.mem_of_getElem? h
theorem SX (hap:L.Pairwise (fun r s => ∀b∈r.foot,b∉s.foot)) {i j:Nat} {r s:Ai} (hi:nth L i=some r) (hj:nth L j=some s) (hne:i≠j):∀b∈r.foot,b∉s.foot:=by
 rw [EL] at hi hj
 obtain ⟨hi1,hi2⟩:=List.getElem?_eq_some_iff.1 hi
 obtain ⟨hj1,hj2⟩:=List.getElem?_eq_some_iff.1 hj
 have hp:=List.pairwise_iff_getElem.1 hap
 intro b hb hbs
 rcases Nat.lt_or_gt_of_ne hne with hlt|hlt
 ·exact hp i j hi1 hj1 hlt b (hi2▸hb) (hj2▸hbs)
 ·exact hp j i hj1 hi1 hlt b (hj2▸hbs) (hi2▸hb)
theorem Dm.base {foot:List Nat} {b:Nat} (hb:b<W.heap.size):Dm [] W foot b:=.inr ⟨hb,by simp⟩
theorem ABW.all {foot:List Nat} (hf:ABW W v [] foot) {b:Nat} (hb:b<v.heap.size):Dm [] W foot b:=by
 rcases Nat.lt_or_ge b W.heap.size with h|h
 ·exact Dm.base h
 ·exact .inl ((hf b).2 ⟨h,hb,by simp⟩)
theorem EX {c:Code} {nn:Nat} {F:Fr} {Q:Exit->Fr->List Ai->Prop} (k:Nat) {A:Option Addr} {m d size:Nat} {t:TypeId} {xs:List Value} (hk:nth L k=some (.row (.slice A m d) t size m xs))
  (h:xs.length=m*size->CV P M W nn c F L Q):CV P M W nn c F L Q:=fun a w ha hw=>h (hw.j_ k hk).len a w ha hw
theorem EK {c:Code} {nn:Nat} {F:Fr} {Q:Exit->Fr->List Ai->Prop} (p:Prop) (h:∀w,St M W L w->p) (hk:p->CV P M W nn c F L Q):CV P M W nn c F L Q:=fun a w ha hw=>hk (h w hw) a w ha hw
theorem Y2 {c:Code} {nn:Nat} {F:Fr} {Q:Exit->Fr->List Ai->Prop} {L':List Ai} (e:L=L') (h:CV P M W nn c F L' Q):CV P M W nn c F L Q:=e▸h
def Mt (b:Nat) (t:TypeId) (cs:List Value):Ai:=.dat [b] (fun w=>w.heap[b]? = some (.cells cs.toArray t (cs.length,cs.length+1))) (fun _ _ hk h=>(hk b (by simp)).trans h)
theorem VZ (b:Nat) (t:TypeId) (cs:List Value) (L:List Ai) (k:Nat):look (Mt b t cs::L) k=look L k:=rfl
theorem Va (b:Nat) (t:TypeId) (cs:List Value) (L:List Ai) (k:Nat) (us:List Value):FK (Mt b t cs::L) k us=Mt b t cs::FK L k us:=rfl
theorem Y3 (b:Nat) (t:TypeId) (cs:List Value) (L:List Ai) (k:Nat):LW (Mt b t cs::L) k=LW L k:=rfl
theorem SY (b:Nat) (t:TypeId) (cs:List Value) (L:List Ai) (k:Nat):fresh (Mt b t cs::L) k=fresh L k:=rfl
end
theorem cS:type_of% (And.intro (And.intro (And.intro @SQ @SS) (And.intro @A_ @VZ)) (And.intro (And.intro @Va @Y3) (And.intro @P6 @SY))):=(And.intro (And.intro (And.intro @SQ @SS) (And.intro @A_ @VZ)) (And.intro (And.intro @Va @Y3) (And.intro @P6 @SY)))
section
variable {P:Program} {M:List Nat} {W:World} {L:List Ai} {K:Bool->Value->List Ai->Prop}
end
section
variable {P:Program} {M:List Nat} {W:World} {L:List Ai}
theorem mR {F:Fr} {d:Option Nat} {t e ty:TypeId} {pos:String} {af:Array Edge} {gd:Option (Nat×Bool)} {l c:Operand} {K:Bool->Value->List Ai->Prop} {bytes n:Nat} {kl kc:IntKind} {u:Value}
  (ht:IQ P t=some (e,1,bytes)) (hu:CY P e=some [u]) (hl:ev F l = .int kl (n:Int)) (hc:ev F c = .int kc (n:Int)) (hb:bytes*n<=281474976710656) (h63:n<=9223372036854775807)
  (hK:∀b,W.heap.size<=b->fresh L b->K true (.slice (some ⟨b,0,none⟩) n n) (.blk b e (List.replicate n u)::L)) :
  XV P M W ⟨d,.makeSlice t l c,ty,pos,af,gd⟩ F L K:=by
 intro w hw
 obtain ⟨hut,i,z,hi,hz,hsz,hby,hzs,hsz0⟩:=O6 ht
 have hzc:z.cells = #[u]:=by
  unfold CY at hu
  rw [hi] at hu
  simp only [hz] at hu
  have:z.cells.toList=[u]:=by simpa using hu
  rw [<-this]
 have hb':(i.bytes:Int)*(n:Int)<=281474976710656:=by
  rw [hby]
  have h:((bytes*n:Nat):Int)<=281474976710656:=by omega
  rwa [Int.natCast_mul] at h
 have hr:=run_make (P:=P) w t e i z hut hi hz kl kc n n (by omega) (Int.le_refl _) hb' (by omega)
 simp only [Int.toNat_natCast,hsz,Nat.mul_one,hzc] at hr
 refine ⟨_,_,_, ?_,hw.alloc e (List.replicate n u),hK w.heap.size hw.Bz.size (Fv hw)⟩
 have e1:(List.replicate n u).toArray=madeCells #[u] n:=by rw [<-toList_madeCells_one]
 simp only [execOp,hl,hc,Sem.run_bind,hr,Result.andThen_ok,Sem.run_pure,e1]
variable {n:Nat} {F:Fr} {Q:Exit->Fr->List Ai->Prop}
end
inductive PT where
 | done
 | rd (i:Nat) (r:PT)
 | act (i:Nat) (r:PT)
 | alt (i j:Nat) (p q:PT)
def PT.ok (md:Region.Mode) (ops:Array Oper) (fin:List Nat):PT->Array Bool->Bool
 | .done,listed=>(Region.ready md ops listed).isEmpty
 | .rd i r,listed=>waited md ops fin i listed&&Region.free md ops listed i&&(Region.ready md ops listed).contains i&&PT.ok md ops fin r (listed.setIfInBounds i true)
 | .act i r,listed=>(Region.ready md ops listed == [i])&&PT.ok md ops fin r (listed.setIfInBounds i true)
 | .alt i j p q,listed=>(Region.ready md ops listed == [i,j])&&PT.ok md ops fin p (listed.setIfInBounds i true)&&PT.ok md ops fin q (listed.setIfInBounds j true)
def PT.Fx:PT->Nat->Bool
 | .done,n=>n == 0
 | .rd _ r,n+1=>r.Fx n
 | .act _ r,n+1=>r.Fx n
 | .alt _ _ p q,n+1=>p.Fx n&&q.Fx n
 | _,0=>false
section
variable {P:Program} {ops:Array Oper} {Q:Exit->Act->World->Prop} {md:Region.Mode} {S:World->Prop} {fin:List Nat}
end
section
variable {P:Program} {M:List Nat} {W:World} {n:Nat}
section
variable {os:List Oper} {L0:List Ai} {fin:List Nat} {x:Bool} {i j:Nat} {o:Oper} {r p q:PT} {F:Fr} {L:List Ai} {K:Fr->List Ai->Prop}
variable {d:Option Nat} {op:Op} {ty:TypeId} {pos:String} {af:Array Edge} {b:Bool}
end
def PT.Dh (fin:List Nat):PT->Bool
 | .done=>true
 | .rd _ _=>false
 | .act i r=>fin.contains i&&r.Dh fin
 | .alt i j p q=>fin.contains i&&fin.contains j&&p.Dh fin&&q.Dh fin
def PT.Db (fin:List Nat):PT->Bool
 | .done=>true
 | .rd _ r=>r.Db fin
 | .act i r=>if fin.contains i then r.Dh fin else r.Db fin
 | .alt i j p q=>(if fin.contains i then p.Dh fin else p.Db fin)&&(if fin.contains j then q.Dh fin else q.Db fin)
theorem PT.Kw {fin:List Nat} : ∀(p:PT),p.Dh fin=true->p.Db fin=true
 | .done,_=>rfl
 | .rd _ _,h=>by cases h
 | .act i r,h=>by
  simp only [PT.Dh,Bool.and_eq_true] at h
  simp only [PT.Db]
  rw [if_pos h.1]
  exact h.2
 | .alt i j p q,h=>by
  simp only [PT.Dh,Bool.and_eq_true] at h
  simp only [PT.Db]
  rw [if_pos h.1.1.1,if_pos h.1.1.2,h.1.2,h.2]
  rfl
end
inductive PM where
 | done
 | rd (i:Nat) (r:PM)
 | act (i:Nat) (r:PM)
 | more (i:Nat) (p q:PM)
def PM.ok (md:Region.Mode) (ops:Array Oper) (fin:List Nat):PM->Nat->Array Bool->Bool
 | .done,sk,listed=>sk == 0&&(Region.ready md ops listed).isEmpty
 | .rd i r,sk,listed=>sk == 0&&waited md ops fin i listed&&Region.free md ops listed i&&(Region.ready md ops listed).contains i&&PM.ok md ops fin r 0 (listed.setIfInBounds i true)
 | .act i r,sk,listed=>((Region.ready md ops listed).drop sk == [i])&&PM.ok md ops fin r 0 (listed.setIfInBounds i true)
 | .more i p q,sk,listed=>(((Region.ready md ops listed).drop sk).head? == some i)&&PM.ok md ops fin p 0 (listed.setIfInBounds i true)&&PM.ok md ops fin q (sk+1) listed
def PM.Fx:PM->Nat->Bool
 | .done,n=>n == 0
 | .rd _ r,n+1=>r.Fx n
 | .act _ r,n+1=>r.Fx n
 | .more _ p q,n+1=>p.Fx n&&q.Fx (n+1)
 | _,0=>false
def PM.spine:PM->Bool
 | .act _ _=>true
 | .more _ _ q=>q.spine
 | _=>false
section
variable {P:Program} {ops:Array Oper} {Q:Exit->Act->World->Prop} {md:Region.Mode} {S:World->Prop} {fin:List Nat}
def fC (P:Program) (ops:Array Oper) (Q:Exit->Act->World->Prop) (S:World->Prop) (fin:List Nat):PM->Act->World->Prop
 | .done,a,w=>Q .normal a w
 | .rd i r,a,w=>S w∧∃o v,ops[i]? = some o/\YieldsIf P ops S o v a/\fC P ops Q S fin r (a.put o.dst v) w
 | .act i r,a,w => ∃o,ops[i]? = some o/\wpList P ops (Exit.then (fun a' w'=>(fin.contains i=false->S w')/\fC P ops Q S fin r a' w') Q) [o] a w
 | .more i p q,a,w=>(∃o,ops[i]? = some o/\wpList P ops (Exit.then (fun a' w'=>(fin.contains i=false->S w')/\fC P ops Q S fin p a' w') Q) [o] a w)/\fC P ops Q S fin q a w
theorem Z7 {α:Type} {l:List α} {k:Nat} {x:α} (h:(l.drop k).head? = some x):l.drop k=x::l.drop (k+1):=by
 rw [<-List.tail_drop]
 cases hl:l.drop k with
 | nil=>rw [hl] at h;cases h
 | cons y r=>rw [hl] at h;simp at h;rw [h];rfl
theorem P7 (hs:Region.noSelect ops=true) (hQ:∀c d v (a:Act) w,Q (.panic c) (a.put d v) w->Q (.panic c) a w) :
  ∀(p:PM),(∀(n:Nat) (listed:Array Bool) (a:Act) (w:World),p.ok md ops fin 0 listed=true->p.Fx n=true->fC P ops Q S fin p a w->Hw P md ops Q S fin n listed a w) ∧
   (∀(n sk:Nat) (listed:Array Bool) (a:Act) (w:World),(0<sk\/p.spine=true)->p.ok md ops fin sk listed=true->p.Fx (n+1)=true->fC P ops Q S fin p a w →
    (Region.ready md ops listed).drop sk≠[]∧∀j∈(Region.ready md ops listed).drop sk,wpOp P ops Q j (fun a' w'=>(fin.contains j=false->S w')/\Hw P md ops Q S fin n (listed.setIfInBounds j true) a' w') a w):=by
 intro p
 induction p with
 | done =>
  refine ⟨fun n listed a w hp hl h=>?_,fun n sk listed a w hk hp hl h=>?_⟩
  ·simp only [PM.Fx,beq_iff_eq] at hl
   subst hl
   simp only [PM.ok,beq_self_eq_true,Bool.true_and] at hp
   exact ⟨by simpa using hp,h⟩
  ·simp [PM.Fx] at hl
 | rd i r ih =>
  refine ⟨fun n listed a w hp hl h=>?_,fun n sk listed a w hk hp hl h=>?_⟩
  ·cases n with
   | zero=>cases hl
   | succ n =>
    simp only [PM.ok,Bool.and_eq_true] at hp
    obtain ⟨⟨⟨⟨-,h1⟩,h2⟩,h3⟩,h4⟩:=hp
    obtain ⟨hS,o,v,ho,hy,hr⟩:=h
    exact OH ho h1 hs h2 h3 (fun c a w=>hQ c _ _ a w) hy hS (ih.1 n _ _ _ h4 hl hr)
  ·simp only [PM.ok,Bool.and_eq_true,beq_iff_eq] at hp
   rcases hk with hk|hk
   ·omega
   ·cases hk
 | act i r ih =>
  have main:∀(n sk:Nat) (listed:Array Bool) (a:Act) (w:World),(PM.act i r).ok md ops fin sk listed=true->(PM.act i r).Fx (n+1)=true->fC P ops Q S fin (.act i r) a w →
    (Region.ready md ops listed).drop sk≠[]∧∀j∈(Region.ready md ops listed).drop sk,wpOp P ops Q j (fun a' w'=>(fin.contains j=false->S w')/\Hw P md ops Q S fin n (listed.setIfInBounds j true) a' w') a w:=by
   intro n sk listed a w hp hl h
   simp only [PM.ok,Bool.and_eq_true,beq_iff_eq] at hp
   obtain ⟨h1,h2⟩:=hp
   obtain ⟨o,ho,rX⟩:=h
   refine ⟨fun h0=>(by rw [h0] at h1;cases h1),fun j hj=>?_⟩
   rw [h1] at hj
   obtain rfl:j=i:=by simpa using hj
   exact wpOp_mono (fun a' w' h'=>⟨h'.1,ih.1 n _ _ _ h2 hl h'.2⟩) (Ja ho rX)
  refine ⟨fun n listed a w hp hl h=>?_,fun n sk listed a w hk hp hl h=>main n sk listed a w hp hl h⟩
  cases n with
  | zero=>cases hl
  | succ n =>
   obtain ⟨h1,h2⟩:=main n 0 listed a w hp hl h
   rw [List.drop_zero] at h1 h2
   exact ⟨fun h0=>absurd h0 h1,h2⟩
 | more i p q ihp ihq =>
  have main:∀(n sk:Nat) (listed:Array Bool) (a:Act) (w:World),(PM.more i p q).ok md ops fin sk listed=true->(PM.more i p q).Fx (n+1)=true->fC P ops Q S fin (.more i p q) a w →
    (Region.ready md ops listed).drop sk≠[]∧∀j∈(Region.ready md ops listed).drop sk,wpOp P ops Q j (fun a' w'=>(fin.contains j=false->S w')/\Hw P md ops Q S fin n (listed.setIfInBounds j true) a' w') a w:=by
   intro n sk listed a w hp hl h
   simp only [PM.ok,Bool.and_eq_true,beq_iff_eq] at hp
   obtain ⟨⟨h1,h2⟩,h3⟩:=hp
   simp only [PM.Fx,Bool.and_eq_true] at hl
   obtain ⟨⟨o,ho,rX⟩,hq⟩:=h
   have hd:=Z7 h1
   refine ⟨fun h0=>(by rw [h0] at hd;cases hd),fun j hj=>?_⟩
   rw [hd] at hj
   rcases List.mem_cons.1 hj with rfl|hj
   ·exact wpOp_mono (fun a' w' h'=>⟨h'.1,ihp.1 n _ _ _ h2 hl.1 h'.2⟩) (Ja ho rX)
   ·exact (ihq.2 n (sk+1) listed a w (.inl (Nat.succ_pos _)) h3 hl.2 hq).2 j hj
  refine ⟨fun n listed a w hp hl h=>?_,fun n sk listed a w hk hp hl h=>main n sk listed a w hp hl h⟩
  cases n with
  | zero=>cases hl
  | succ n =>
   obtain ⟨h1,h2⟩:=main n 0 listed a w hp hl h
   rw [List.drop_zero] at h1 h2
   exact ⟨fun h0=>absurd h0 h1,h2⟩
theorem P8 {id:Nat} {a:Act} {w:World} (p:PM) (S:World->Prop) (fin:List Nat) (hm:P.follows .mixedOrders=true) (hs:Region.noSelect ops=true)
  (hp:p.ok .any ops fin 0 (Array.replicate ops.size false)=true) (hz:p.Fx ops.size=true) (hQ:∀c d v (a:Act) w,Q (.panic c) (a.put d v) w->Q (.panic c) a w)
  (h:fC P ops Q S fin p a w.drew):(Code.region id ops true).wp P Q a w :=
 wp_region_any hm (Ga _ _ _ _ ((P7 hs hQ p).1 _ _ _ _ hp hz h))
end
section
variable {P:Program} {M:List Nat} {W:World} {n:Nat}
def LY (P:Program) (M:List Nat) (W:World) (n:Nat) (os:List Oper) (L0:List Ai) (fin:List Nat) (tok:Bool):PM->Fr->List Ai->(Fr->List Ai->Prop)->Prop
 | .done,F,L,K=>K F L
 | .rd i r,F,L,K=>match nth os i with
  | some o=>H5 os F o.guard (Ib P M W o F L0 fun tok v=>LY P M W n os L0 fin tok r (D7 F o.dst v) L K) (LY P M W n os L0 fin tok r (D7 F o.dst undef) L K)
  | none=>False
 | .act i r,F,L,K=>match nth os i with
  | some o=>H5 os F o.guard (Cv P M W o F L fun tok v L'=>(fin.contains i=false->JC L0 L')/\LY P M W n os L0 fin tok r (D7 F o.dst v) L' K) (LY P M W n os L0 fin tok r (D7 F o.dst undef) L K)
  | none=>False
 | .more i p q,F,L,K=>(match nth os i with
  | some o=>H5 os F o.guard (Cv P M W o F L fun tok v L'=>(fin.contains i=false->JC L0 L')/\LY P M W n os L0 fin tok p (D7 F o.dst v) L' K) (LY P M W n os L0 fin tok p (D7 F o.dst undef) L K)
  | none=>False)/\LY P M W n os L0 fin tok q F L K
def lY (P:Program) (M:List Nat) (W:World) (n:Nat) (os:List Oper) (L0:List Ai) (fin:List Nat) (x:Bool) (i:Nat) (s:Option Bool) (o:Oper) (r:PM) (F:Fr) (L:List Ai) (K:Fr->List Ai->Prop):Prop :=
 match s,x with
 | some t,true=>(t=true->Ib P M W o F L0 fun tok v=>LY P M W n os L0 fin tok r (D7 F o.dst v) L K)/\(t=false->LY P M W n os L0 fin true r (D7 F o.dst undef) L K)
 | some t,false=>(t=true->Cv P M W o F L fun tok v L'=>(fin.contains i=false->JC L0 L')/\LY P M W n os L0 fin tok r (D7 F o.dst v) L' K)/\(t=false->LY P M W n os L0 fin true r (D7 F o.dst undef) L K)
 | none,_=>False
def lZ (P:Program) (M:List Nat) (W:World) (n:Nat) (os:List Oper) (L0:List Ai) (fin:List Nat) (x:Bool) (i:Nat) (o:Option Oper) (r:PM) (F:Fr) (L:List Ai) (K:Fr->List Ai->Prop):Prop :=
 match o with
 | none=>False
 | some o=>match o.guard with
  | none=>(match x with
   | true=>Ib P M W o F L0 fun tok v=>LY P M W n os L0 fin tok r (D7 F o.dst v) L K
   | false=>Cv P M W o F L fun tok v L'=>(fin.contains i=false->JC L0 L')/\LY P M W n os L0 fin tok r (D7 F o.dst v) L' K)
  | some (j,b)=>lY P M W n os L0 fin x i (Zy os F j b) o r F L K
section
variable {os:List Oper} {L0:List Ai} {fin:List Nat} {x:Bool} {i j:Nat} {o:Oper} {r p q:PM} {F:Fr} {L:List Ai} {K:Fr->List Ai->Prop}
theorem Z8:lZ P M W n os L0 fin true i (nth os i) r F L K=LY P M W n os L0 fin true (.rd i r) F L K:=by
 simp only [LY,lZ]
 cases nth os i with
 | none=>rfl
 | some o =>
  simp only
  cases hg:o.guard with
  | none=>rfl
  | some jb =>
   obtain ⟨j,b⟩:=jb
   simp only
   rw [H6]
   unfold lY
   cases Zy os F j b<;>rfl
theorem P9:lZ P M W n os L0 fin false i (nth os i) r F L K=LY P M W n os L0 fin true (.act i r) F L K:=by
 simp only [LY,lZ]
 cases nth os i with
 | none=>rfl
 | some o =>
  simp only
  cases hg:o.guard with
  | none=>rfl
  | some jb =>
   obtain ⟨j,b⟩:=jb
   simp only
   rw [H6]
   unfold lY
   cases Zy os F j b<;>rfl
theorem Vb:LY P M W n os L0 fin true .done F L K=K F L:=rfl
theorem fD:LY P M W n os L0 fin true (.rd i r) F L K=lZ P M W n os L0 fin true i (nth os i) r F L K:=Z8.symm
theorem Y4:LY P M W n os L0 fin true (.act i r) F L K=lZ P M W n os L0 fin false i (nth os i) r F L K:=P9.symm
theorem Vd:LY P M W n os L0 fin true (.more i p q) F L K=(lZ P M W n os L0 fin false i (nth os i) p F L K/\LY P M W n os L0 fin true q F L K):=by
 rw [P9]
 rfl
variable {d:Option Nat} {op:Op} {ty:TypeId} {pos:String} {af:Array Edge} {b:Bool}
theorem Ve:lZ P M W n os L0 fin true i (some ⟨d,op,ty,pos,af,none⟩) r F L K=Ib P M W ⟨d,op,ty,pos,af,none⟩ F L0 fun tok v=>LY P M W n os L0 fin tok r (D7 F d v) L K:=rfl
theorem Vf:lZ P M W n os L0 fin false i (some ⟨d,op,ty,pos,af,none⟩) r F L K=Cv P M W ⟨d,op,ty,pos,af,none⟩ F L fun tok v L'=>(fin.contains i=false->JC L0 L')/\LY P M W n os L0 fin tok r (D7 F d v) L' K:=rfl
theorem Sa:lZ P M W n os L0 fin x i (some ⟨d,op,ty,pos,af,some (j,b)⟩) r F L K=lY P M W n os L0 fin x i (Zy os F j b) ⟨d,op,ty,pos,af,some (j,b)⟩ r F L K:=rfl
theorem Vg:lY P M W n os L0 fin true i (some true) o r F L K=Ib P M W o F L0 fun tok v=>LY P M W n os L0 fin tok r (D7 F o.dst v) L K:=by simp [lY]
theorem Vh:lY P M W n os L0 fin false i (some true) o r F L K=Cv P M W o F L fun tok v L'=>(fin.contains i=false->JC L0 L')/\LY P M W n os L0 fin tok r (D7 F o.dst v) L' K:=by simp [lY]
theorem Sb:lY P M W n os L0 fin x i (some false) o r F L K=LY P M W n os L0 fin true r (D7 F o.dst undef) L K:=by cases x<;>simp [lY]
end
def PM.Dh (fin:List Nat):PM->Bool
 | .done=>true
 | .rd _ _=>false
 | .act i r=>fin.contains i&&r.Dh fin
 | .more i p q=>fin.contains i&&p.Dh fin&&q.Dh fin
def PM.Db (fin:List Nat):PM->Bool
 | .done=>true
 | .rd _ r=>r.Db fin
 | .act i r=>if fin.contains i then r.Dh fin else r.Db fin
 | .more i p q=>(if fin.contains i then p.Dh fin else p.Db fin)&&q.Db fin
theorem PM.Kw {fin:List Nat} : ∀(p:PM),p.Dh fin=true->p.Db fin=true
 | .done,_=>rfl
 | .rd _ _,h=>by cases h
 | .act i r,h=>by
  simp only [PM.Dh,Bool.and_eq_true] at h
  simp only [PM.Db]
  rw [if_pos h.1]
  exact h.2
 | .more i p q,h=>by
  simp only [PM.Dh,Bool.and_eq_true] at h
  simp only [PM.Db]
  rw [if_pos h.1.1,h.1.2,q.Kw h.2]
  rfl
theorem E8 {ops:Array Oper} {Q:Exit->Act->World->Prop} {L0:List Ai} {fin:List Nat} (hn:∀j o d,nth ops.toList j=some o->o.dst=some d->d<n) (hap:L0.Pairwise (fun r s => ∀b∈r.foot,b∉s.foot)):∀(p:PM) {F:Fr} {L:List Ai} {K:Fr->List Ai->Prop} {a:Act} {w:World},
  LY P M W n ops.toList L0 fin true p F L K->Gu n a F->St M W L w->p.Db fin=true->(p.Dh fin=true\/JC L0 L)->(∀F' L' a' w',K F' L'→Gu n a' F'→St M W L' w'→Q .normal a' w')->fC P ops Q (St M W L0) fin p a w
 | .done,F,L,K,a,w,h,ha,hw,hf,NW,hq=>hq _ _ _ _ h ha hw
 | .rd i r,F,L,K,a,w,h,ha,hw,hf,NW,hq=>by
  simp only [LY] at h
  have Pj:JC L0 L:=NW.resolve_left (by simp [PM.Dh])
  have hS:St M W L0 w:=hw.Lt Pj hap
  split at h
  ·rename_i o ho
   have hd:OI n o.dst:=by
    cases hdo:o.dst with
    | none=>trivial
    | some d=>exact hn i o d ho hdo
   rcases E5 ha hn h with ⟨hwt,h⟩|⟨hwt,h⟩
   ·obtain ⟨v,hr,hk⟩:=OO h
    exact ⟨hS,o,v,JZ ho,.inl ⟨hwt,fun w' hw'=>by rw [ha.eval];exact hr w' hw'⟩,E8 hn hap r hk (ha.put hd v) hw hf (.inr Pj) hq⟩
   ·exact ⟨hS,o,undef,JZ ho,.inr ⟨hwt,rfl⟩,E8 hn hap r h (ha.put hd undef) hw hf (.inr Pj) hq⟩
  ·exact h.elim
 | .act i r,F,L,K,a,w,h,ha,hw,hf,NW,hq=>by
  simp only [LY] at h
  split at h
  ·rename_i o ho
   have hd:OI n o.dst:=by
    cases hdo:o.dst with
    | none=>trivial
    | some d=>exact hn i o d ho hdo
   have hf':r.Db fin=true:=by
    simp only [PM.Db] at hf
    split at hf
    ·exact r.Kw hf
    ·exact hf
   have hnext:∀L',(fin.contains i=false->JC L0 L')->(r.Dh fin=true\/JC L0 L'):=by
    intro L' hL
    cases hc:fin.contains i with
    | true =>
     simp only [PM.Db,hc,if_true] at hf
     exact .inl hf
    | false=>exact .inr (hL hc)
   have hsame:fin.contains i=false->JC L0 L:=fun hc=>NW.resolve_left (by simp only [PM.Dh,hc,Bool.false_and,Bool.and_false,Bool.false_eq_true,not_false_eq_true])
   refine ⟨o,JZ ho, ?_⟩
   rcases E5 ha hn h with ⟨hwt,h⟩|⟨hwt,h⟩
   ·unfold wpList
    rw [if_pos hwt]
    refine .inl (Jg h ha.eval hw fun v L' w' hk hs=>?_)
    exact ⟨fun hc=>hs.Lt (hk.1 hc) hap,E8 hn hap r hk.2 (ha.put hd v) hs hf' (hnext L' hk.1) hq⟩
   ·unfold wpList
    rw [hwt]
    exact ⟨fun hc=>hw.Lt (hsame hc) hap,E8 hn hap r h (ha.put hd undef) hw hf' (hnext L hsame) hq⟩
  ·exact h.elim
 | .more i p q,F,L,K,a,w,h,ha,hw,hf,NW,hq=>by
  simp only [LY] at h
  obtain ⟨h1,h2⟩:=h
  simp only [PM.Db,Bool.and_eq_true] at hf
  refine ⟨?_, ?_⟩
  ·split at h1
   ·rename_i o ho
    have hd:OI n o.dst:=by
     cases hdo:o.dst with
     | none=>trivial
     | some d=>exact hn i o d ho hdo
    have hf':p.Db fin=true:=by
     have:=hf.1
     split at this
     ·exact p.Kw this
     ·exact this
    have hnext:∀L',(fin.contains i=false->JC L0 L')->(p.Dh fin=true\/JC L0 L'):=by
     intro L' hL
     cases hc:fin.contains i with
     | true =>
      have:=hf.1
      rw [hc,if_pos rfl] at this
      exact .inl this
     | false=>exact .inr (hL hc)
    have hsame:fin.contains i=false->JC L0 L:=fun hc=>NW.resolve_left (by simp only [PM.Dh,hc,Bool.false_and,Bool.and_false,Bool.false_eq_true,not_false_eq_true])
    refine ⟨o,JZ ho, ?_⟩
    rcases E5 ha hn h1 with ⟨hwt,h⟩|⟨hwt,h⟩
    ·unfold wpList
     rw [if_pos hwt]
     refine .inl (Jg h ha.eval hw fun v L' w' hk hs=>?_)
     exact ⟨fun hc=>hs.Lt (hk.1 hc) hap,E8 hn hap p hk.2 (ha.put hd v) hs hf' (hnext L' hk.1) hq⟩
    ·unfold wpList
     rw [hwt]
     exact ⟨fun hc=>hw.Lt (hsame hc) hap,E8 hn hap p h (ha.put hd undef) hw hf' (hnext L hsame) hq⟩
   ·exact h1.elim
  ·refine E8 hn hap q h2 ha hw hf.2 ?_ hq
   rcases NW with h|h
   ·simp only [PM.Dh,Bool.and_eq_true] at h
    exact .inl h.2
   ·exact .inr h
theorem E9 {F:Fr} {L:List Ai} {Q:Exit->Fr->List Ai->Prop} {id:Nat} {l:List Oper} (ix:List Nat) (hnd:ix.Nodup) (hsub:JC (Ag ix L) L) (p:PM) (fin:List Nat) (hm:P.follows .mixedOrders=true) (hd:l.all (fun o=>HV n o.dst)=true) (hs:Region.noSelect l.toArray=true)
  (hp:p.ok .any l.toArray fin 0 (Array.replicate l.toArray.size false)=true) (hz:p.Fx l.toArray.size=true) (hf:p.Db fin=true) {K:Fr->List Ai->Prop}
  (h:LY P M W n l (Ag ix L) fin true p F L (fun F' L' => ∃jx:List Nat,jx.Nodup/\K F' (Ag jx L'))):CV P M W n (.region id l.toArray true) F L (BX K Q):=fun a w ha hw =>
 P8 p (St M W (Ag ix L)) fin hm hs hp hz (by intro c d v a w hh;exact hh)
  (E8 (ops:=l.toArray) (JH (by simpa using hd)) (hw.pick hnd).apart p (by simpa using h) ha hw.drew hf (.inr hsub) fun F' L' a' w' hK h1 h2=>by
   obtain ⟨jx,hj,hk⟩:=hK
   exact ⟨F',_,h1,h2.pick hj,hk⟩)
end
theorem cM:type_of% (And.intro (And.intro (And.intro @Vb @fD) (And.intro @Y4 (And.intro @Vd @Ve))) (And.intro (And.intro @Vf @Sa) (And.intro @Vg (And.intro @Vh @Sb)))):=(And.intro (And.intro (And.intro @Vb @fD) (And.intro @Y4 (And.intro @Vd @Ve))) (And.intro (And.intro @Vf @Sa) (And.intro @Vg (And.intro @Vh @Sb))))
section
variable {P:Program} {M:List Nat} {W:World} {L:List Ai}
theorem BQ {nn:Nat} {co:Code} {F:Fr} {Q:Exit->Fr->List Ai->Prop} (k:Nat) {A:Option Addr} {n c size:Nat} {t:TypeId} {xs:List Value} (hk:nth L k=some (.row (.slice A n c) t size n xs)) (hn:0<n)
  (h:∀g,A=some ⟨g,0,none⟩->(W.heap.size<=g\/g∈M)->LW (L.eraseIdx k) g->CV P M W nn co F L Q):CV P M W nn co F L Q:=fun a w ha hw=>by
 rcases (hw.perm (DI hk).symm).Ji with ⟨-,h0⟩|⟨g,e,hb,hne⟩
 ·omega
 ·exact h g e hb hne a w ha hw
theorem E_ (k:Nat) {t T:TypeId} {g n c size i:Nat} {xs vs:List Value} (hk:nth L k=some (.row (.slice (some ⟨g,0,none⟩) n c) T size n xs)) (hi:i+vs.length<=xs.length) (ht:Dk P t=some (true,vs.length)) (h1:ones vs=true) :
  SV P M W t ⟨g,i,none⟩ (.agg vs.toArray) L (L.set k (.row (.slice (some ⟨g,0,none⟩) n c) T size n (xs.take i++vs++xs.drop (i+vs.length)))):=fun w hw=>by
 have hk':=hk
 rw [EL] at hk'
 have hm:=List.mem_of_getElem? hk'
 have hh:w.ownsRow 0 T size (.slice (some ⟨g,0,none⟩) n c) n xs:=hw.holds _ hm
 obtain ⟨hlen,mJ⟩:=hh
 rcases mJ with ⟨hn,_⟩|⟨g',cap,cur,he,hg0,hheap,hnc,hcm,hsz,htk⟩
 ·cases hn
 cases he
 have mK:xs.length<=cur.toList.length:=by rw [<-htk,List.length_take];omega
 have hcs:cur.toList.length=cur.size:=Array.length_toList
 have hs:=run_storeCells_at P g i T vs 0 cur w hheap (by omega) (fun u hu=>List.all_eq_true.1 h1 u hu)
 have hsz2:=(Jf ht w).2
 refine ⟨w.setRow g (cur.toList.take (i+0)++vs++cur.toList.drop (i+0+vs.length)).toArray, ?_, ?_⟩
 ·simp only [Instr.storeAt,Instr.sureAddr,Sem.run_bind,Sem.run_pure,Result.andThen_ok,storeVar,hsz2,Value.cells,List.size_toArray,ne_eq,not_true_eq_false,if_false]
  exact hs
 ·rw [Nat.add_zero]
  refine hw.replace hk rfl ?_ (fun c hc=>setRow_other w g c _ (by simpa [Ai.foot,Value.ownBlock] using hc)) (by simp [World.setRow]) rfl rfl rfl
  refine ⟨?_,.inr ⟨g,_,(cur.toList.take i++vs++cur.toList.drop (i+vs.length)).toArray,rfl,hg0, ?_,hnc,hcm, ?_, ?_⟩⟩
  ·simp only [List.length_append,List.length_take,List.length_drop]
   omega
  ·exact setRow_heap w g cur _ T (0,0) hheap
  ·simp only [List.size_toArray,List.length_append,List.length_take,List.length_drop]
   omega
  ·simp only [List.toList_toArray]
   have e1:xs.take i=cur.toList.take i:=by rw [<-htk,List.take_take,Nat.min_eq_left (by omega)]
   have e2:xs.drop (i+vs.length)=(cur.toList.drop (i+vs.length)).take (n*size-(i+vs.length)):=by rw [<-htk,List.drop_take]
   have e3:(cur.toList.take i++vs).length=i+vs.length:=by rw [List.length_append,List.length_take,Nat.min_eq_left (by omega)]
   rw [e1,e2,List.take_append,e3,List.take_of_length_le (by omega)]
end
def Gg (ro:Option Nat):Fence := { Fence.wide with round:=ro }
section
variable {P:Program} {ro:Option Nat} {k:Nat} {f:FuncId} {args:Array Value} {w:World} {R:Ending->World->Prop}
theorem pO {m:Nat} : (Gg ro).room m:=fun d hd=>by cases hd
theorem fE (h:Calls P f args w R):CallsIn (Gg ro) k P f args w R:=by
 have:=(callsIn_wide (n:=k)).2 h
 exact ⟨trivial,fun cs hr=>this.2 cs (room_wide _)⟩
theorem X4 (h:CallsIn (Gg ro) k P f args w R):Calls P f args w R:=(callsIn_wide (n:=k)).1 ⟨trivial,fun cs hr=>h.2 cs pO⟩
def FQ (l:List Oper):Bool:=l.all fun o=>match o.op with
 | .defer _=>false
 | _=>true
theorem P_ {l:List Oper} (h:FQ l=true) {o:Oper} (ho:o∈l):∀c,o.op ≠ .defer c:=fun c e=>by
 have:=List.all_eq_true.1 h o ho
 rw [e] at this
 cases this
variable {ds:List Deferred}
theorem Tw (a:Act) (d:Option Tmp) (v:Value):({ a with defers:=ds } : Act).put d v = { a.put d v with defers:=ds } := by cases d<;>rfl
theorem put_defers (a:Act) (d:Option Tmp) (v:Value):(a.put d v).defers=a.defers:=by cases d<;>rfl
theorem Ky {a:Act} (h:a.defers=[]):({ a with defers:=[] } : Act)=a:=by cases a;simp_all
def wiK (ds:List Deferred) (K:Act->World->Prop):Act->World->Prop:=fun a w=>a.defers=ds/\K { a with defers:=[] } w
def rY (ds:List Deferred) (Q:Exit->Act->World->Prop):Exit->Act->World->Prop:=fun e a w=>a.defers=ds/\Q e { a with defers:=[] } w
structure Calm (Q:Exit->Act->World->Prop):Prop where
 panic:∀c a w,¬Q (.panic c) a w
 outgrown:∀a w,¬Q .outgrown a w
 normal:∀a w,Q .normal a w->a.defers=[]
theorem Mh {a:Act} {d:Option Tmp} {v:Value} {K:Act->World->Prop} (ha:a.defers=[]) (hh:K (a.put d v) w):wiK ds K (({ a with defers:=ds } : Act).put d v) w:=by
 refine ⟨by rw [put_defers], ?_⟩
 rw [Tw]
 have e:({ (a.put d v) with defers:=[] } : Act)=a.put d v:=Ky (by rw [put_defers];exact ha)
 show K { (a.put d v) with defers:=[] } w
 rw [e]
 exact hh
theorem Sc {o:Oper} {a:Act} {next:Act->World->Prop} {Q:Exit->Act->World->Prop} (hQ:Calm Q) (hd:∀c,o.op ≠ .defer c) (hN:∀a w,next a w->a.defers=[]) (ha:a.defers=[]) (h:o.wp P a w next Q) :
  o.wpIn (Gg ro) k P { a with defers:=ds } w (wiK ds next) (rY ds Q):=by
 refine ⟨fun _ _=>trivial, ?_⟩
 have e1:(Gg ro).round=ro:=rfl
 have e2:({ a with defers:=ds } : Act).eval=a.eval:=rfl
 rw [e1,Oper.semAt_eq ro _ _ hd,e2]
 unfold Oper.wp at h
 revert h
 generalize (execOp a.eval o).run P w=r
 intro h
 cases r with
 | ok x w' =>
  cases x with
  | value v=>exact Mh ha h
  | skip=>exact Mh ha h
  | «defer» d =>
   simp only [Oper.upon] at h
   have:=hN _ _ h
   rw [put_defers] at this
   cases this
  | enter f args =>
   refine ⟨fun hh=>(by cases hh),fE ((show Calls P f args w' _ from h).mono ?_)⟩
   intro e w'' he
   cases e with
   | returned v=>exact Mh ha he
   | panicked c=>exact (hQ.panic _ _ _ he).elim
   | outgrown=>obtain ⟨a0,w0,h0⟩:=he;exact (hQ.outgrown _ _ h0).elim
  | row row args =>
   refine ⟨fun hh=>(by cases hh),fun c cs hr=>?_⟩
   obtain ⟨v,w'',hv,hs⟩:=(show Rows P row args w' _ from h) c cs
   exact ⟨v,w'',Mh ha hv,stepsIn_wide.2 hs⟩
  | _=>exact h.elim
 | halt x w' =>
  cases x with
  | panic v=>exact (hQ.panic _ _ _ h).elim
  | _=>exact h.elim
theorem Sg {o:Oper} {a:Act} {next:Act->World->Prop} {Q:Exit->Act->World->Prop} (hQ:Calm Q) (hN:∀a w,next a w->a.defers=[]) (h:o.wp P a w next Q):a.defers=[]:=by
 unfold Oper.wp at h
 revert h
 generalize (execOp a.eval o).run P w=r
 intro h
 cases r with
 | ok x w' =>
  cases x with
  | value v=>exact (put_defers _ _ _).symm.trans (hN _ _ h)
  | skip=>exact (put_defers _ _ _).symm.trans (hN _ _ h)
  | «defer» d =>
   simp only [Oper.upon] at h
   have:=hN _ _ h
   rw [put_defers] at this
   cases this
  | enter f args =>
   obtain ⟨e,w'',fr,he, -⟩:=(show Calls P f args w' _ from h) []
   cases e with
   | returned v=>exact (put_defers _ _ _).symm.trans (hN _ _ he)
   | panicked c=>exact (hQ.panic _ _ _ he).elim
   | outgrown=>obtain ⟨a0,w0,h0⟩:=he;exact (hQ.outgrown _ _ h0).elim
  | row row args =>
   obtain ⟨v,w'',hv,hs⟩:=(show Rows P row args w' _ from h) default []
   exact (put_defers _ _ _).symm.trans (hN _ _ hv)
  | _=>exact h.elim
 | halt x w' =>
  cases x with
  | panic v=>exact (hQ.panic _ _ _ h).elim
  | _=>exact h.elim
variable {ops:Array Oper} {Q:Exit->Act->World->Prop}
theorem Kz (hQ:Calm Q):∀(r:List Oper) (a:Act) (w:World),wpList P ops Q r a w->a.defers=[]
 | [],a,w,h=>hQ.normal _ _ h
 | o::r,a,w,h=>by
  unfold wpList at h
  split at h
  ·rcases h with h|⟨_,a0,w0,h0⟩
   ·exact Sg hQ (Kz hQ r) h
   ·exact (hQ.outgrown _ _ h0).elim
  ·exact (put_defers _ _ _).symm.trans (Kz hQ r _ _ h)
theorem Mi (hQ:Calm Q):∀(r:List Oper) (a:Act) (w:World),FQ r=true->wpList P ops Q r a w->wpListIn (Gg ro) k P ops (rY ds Q) r { a with defers:=ds } w
 | [],a,w,_,h=>⟨rfl,by rw [Ky (hQ.normal _ _ h)];exact h⟩
 | o::r,a,w,hd,h=>by
  have ha:=Kz hQ _ _ _ h
  have hd1:∀c,o.op ≠ .defer c:=P_ hd (by simp)
  have hd2:FQ r=true:=by
   simp only [FQ,List.all_cons,Bool.and_eq_true] at hd
   exact hd.2
  unfold wpList at h
  unfold wpListIn
  split at h
  ·rename_i hw
   rw [if_pos (show Region.wanted o (yielded ops ({ a with defers:=ds } : Act).tmps)=true from hw)]
   rcases h with h|⟨_,a0,w0,h0⟩
   ·refine Oper.wpIn_mono ?_ (Sc hQ hd1 (Kz hQ r) ha h)
    rintro a1 w1 ⟨e1,h1⟩
    have:=Mi hQ r _ w1 hd2 h1
    have e:({ ({ a1 with defers:=[] } : Act) with defers:=ds } : Act)=a1:=by cases a1;simp_all
    rw [e] at this
    exact this
   ·exact (hQ.outgrown _ _ h0).elim
  ·rename_i hw
   rw [if_neg (show ¬Region.wanted o (yielded ops ({ a with defers:=ds } : Act).tmps)=true from hw)]
   refine ⟨fun _ _=>trivial, ?_⟩
   rw [Tw]
   exact Mi hQ r _ w hd2 h
variable {md:Region.Mode}
theorem mU (hQ:Calm Q) {i:Nat} {K:Act->World->Prop} {a:Act} (hN:∀a w,K a w->a.defers=[]) (h:wpOp P ops Q i K a w):a.defers=[]:=by
 unfold wpOp at h
 split at h
 ·exact hN _ _ h
 ·split at h
  ·rcases h with h|⟨_,a0,w0,h0⟩
   ·exact Sg hQ hN h
   ·exact (hQ.outgrown _ _ h0).elim
  ·exact (put_defers _ _ _).symm.trans (hN _ _ h)
theorem QA (hQ:Calm Q):∀(fuel:Nat) (listed:Array Bool) (a:Act) (w:World),wpAny P md ops Q fuel listed a w->a.defers=[]
 | 0,listed,a,w,h=>hQ.normal _ _ h.2
 | fuel+1,listed,a,w,h=>by
  obtain ⟨h1,h2⟩:=h
  cases hr:Region.ready md ops listed with
  | nil=>exact hQ.normal _ _ (h1 hr)
  | cons i r=>exact mU hQ (QA hQ fuel _) (h2 i (by rw [hr];simp))
theorem fF (hQ:Calm Q) (hd:FQ ops.toList=true):∀(fuel:Nat) (listed:Array Bool) (a:Act) (w:World),wpAny P md ops Q fuel listed a w->wpAnyIn (Gg ro) k P md ops (rY ds Q) fuel listed { a with defers:=ds } w
 | 0,listed,a,w,h=>⟨h.1,rfl,by rw [Ky (hQ.normal _ _ h.2)];exact h.2⟩
 | fuel+1,listed,a,w,h=>by
  have ha:=QA hQ _ _ _ _ h
  refine ⟨fun hr=>⟨rfl,by rw [Ky ha];exact h.1 hr⟩,fun i hi=>?_⟩
  have h2:=h.2 i hi
  have step:∀a1 w1,wiK ds (wpAny P md ops Q fuel (listed.setIfInBounds i true)) a1 w1->wpAnyIn (Gg ro) k P md ops (rY ds Q) fuel (listed.setIfInBounds i true) a1 w1:=by
   rintro a1 w1 ⟨e1,h1⟩
   have:=fF hQ hd fuel _ _ w1 h1
   have e:({ ({ a1 with defers:=[] } : Act) with defers:=ds } : Act)=a1:=by cases a1;simp_all
   rw [e] at this
   exact this
  unfold wpOp at h2
  unfold wpOpIn
  split at h2
  ·rename_i hn
   simp only [hn]
   exact step _ _ ⟨rfl,by rw [Ky ha];exact h2⟩
  ·rename_i o ho
   simp only [ho]
   have hd1:∀c,o.op ≠ .defer c:=P_ hd (by
    obtain ⟨hlt,he⟩:=Array.getElem?_eq_some_iff.1 ho
    rw [<-he]
    simp)
   split at h2
   ·rename_i hw
    rw [if_pos (show Region.wanted o (yielded ops ({ a with defers:=ds } : Act).tmps)=true from hw)]
    rcases h2 with h2|⟨_,a0,w0,h0⟩
    ·exact Oper.wpIn_mono step (Sc hQ hd1 (QA hQ fuel _) ha h2)
    ·exact (hQ.outgrown _ _ h0).elim
   ·rename_i hw
    rw [if_neg (show ¬Region.wanted o (yielded ops ({ a with defers:=ds } : Act).tmps)=true from hw)]
    refine ⟨fun _ _=>trivial,step _ _ ?_⟩
    exact Mh ha h2
end
def X5 (d:Nat):Deferred := { target:=.collected d,args := #[] }
def HZ (d:Nat):Ai:=.dat [d] (fun w=>w.heap[d]? = some (.deferred (some []))) (fun _ _ hk h=>(hk d (by simp)).trans h)
structure lh (D:List Nat) (n:Nat) (a:Act) (F:Fr):Prop where
 defers:a.defers=D.map X5
 ok:Gu n { a with defers:=[] } F
theorem lh.of {D:List Nat} {n:Nat} {a:Act} {F:Fr} (h:Gu n a F):lh D n { a with defers:=D.map X5 } F:=⟨rfl,by
 have e:({ ({ a with defers:=D.map X5 } : Act) with defers:=[] } : Act)=a:=Ky h.defers
 rw [e]
 exact h⟩
def fG (M:List Nat) (W:World) (n:Nat) (Q:Exit->List Nat->Fr->List Ai->Prop):Exit->Act->World->Prop
 | .panic _,_,_=>False
 | .outgrown,_,_=>False
 | e,a,w => ∃D F L,lh D n a F/\St M W L w/\Q e D F L
def JD (P:Program) (ro:Option Nat) (M:List Nat) (W:World) (n:Nat) (c:Code) (D:List Nat) (F:Fr) (L:List Ai) (Q:Exit->List Nat->Fr->List Ai->Prop):Prop :=
 ∀a w,lh D n a F->St M W L w->c.wpIn (Gg ro) 0 P (fG M W n Q) a w
def ES (K:List Nat->Fr->List Ai->Prop) (Q:Exit->List Nat->Fr->List Ai->Prop):Exit->List Nat->Fr->List Ai->Prop
 | .normal,D,F,L=>K D F L
 | e,D,F,L=>Q e D F L
def EM (id:Nat) (Q:Exit->List Nat->Fr->List Ai->Prop):Exit->List Nat->Fr->List Ai->Prop
 | .exit id',D,F,L=>if id'=id then Q .normal D F L else Q (.exit id') D F L
 | e,D,F,L=>Q e D F L
section
variable {P:Program} {ro:Option Nat} {M:List Nat} {W:World} {n:Nat} {D:List Nat} {F:Fr} {L:List Ai} {Q Q':Exit->List Nat->Fr->List Ai->Prop} {K:List Nat->Fr->List Ai->Prop}
theorem JD.mono {c:Code} (h:JD P ro M W n c D F L Q) (hq:∀e D F' L',Q e D F' L'→Q' e D F' L'):JD P ro M W n c D F L Q':=fun a w ha hw =>
 wpIn_mono (h a w ha hw) (by
  intro e a' w' hh
  cases e<;>first
   | exact hh
   | (obtain ⟨D',F',L',h1,h2,h3⟩:=hh;exact ⟨D',F',L',h1,h2,hq _ _ _ _ h3⟩))
theorem Mj {c:Code} (h:∀G:Fr,G=F->JD P ro M W n c D G L Q):JD P ro M W n c D F L Q:=h F rfl
theorem mV {x y:Code} (h:JD P ro M W n x D F L (ES (fun D' F' L'=>JD P ro M W n y D' F' L' Q) Q)):JD P ro M W n (.seq x y) D F L Q:=fun a w ha hw =>
 wpIn_seq (wpIn_mono (h a w ha hw) (by
  intro e a' w' hh
  cases e<;>first
   | exact hh
   | (obtain ⟨D',F',L',h1,h2,h3⟩:=hh;exact h3 _ _ h1 h2)))
theorem BU {x y:Code} (h:∀K:List Nat->Fr->List Ai->Prop,(∀D' F' L',JD P ro M W n y D' F' L' Q->K D' F' L')->JD P ro M W n x D F L (ES K Q)):JD P ro M W n (.seq x y) D F L Q:=mV (h _ fun _ _ _ h=>h)
theorem Y5 {c:Code} (X:Fr->Fr->Prop) (R:Fr->List Ai->Prop) (h:JD P ro M W n c D F L (ES (fun D' F' L'=>D'=D/\X F F'∧R F' L') Q)) (hk:∀F' L',X F F'→R F' L'→K D F' L'):JD P ro M W n c D F L (ES K Q) :=
 h.mono fun e D' F' L' hh=>by
  cases e<;>first
   | exact hh
   | (obtain ⟨rfl,h1,h2⟩:=hh;exact hk _ _ h1 h2)
theorem Fy (h:Q .normal D F L):JD P ro M W n .skip D F L Q:=fun a w ha hw=>wpIn_skip ⟨D,F,L,ha,hw,h⟩
theorem Y6 (h:Q .ret D F L):JD P ro M W n .ret D F L Q:=fun a w ha hw=>wpIn_ret ⟨D,F,L,ha,hw,h⟩
theorem QB {id:Nat} (h:Q (.exit id) D F L):JD P ro M W n (.exit id) D F L Q:=fun a w ha hw=>wpIn_exit ⟨D,F,L,ha,hw,h⟩
theorem FZ {id:Nat} {c:Code} (h:JD P ro M W n c D F L (EM id Q)):JD P ro M W n (.block id c) D F L Q:=fun a w ha hw =>
 wpIn_block (wpIn_mono (h a w ha hw) (by
  intro e a' w' hh
  cases e with
  | exit id' =>
   obtain ⟨D',F',L',h1,h2,h3⟩:=hh
   simp only [EM] at h3
   simp only [Exit.inBlock]
   split
   ·rename_i he;rw [if_pos he] at h3;exact ⟨D',F',L',h1,h2,h3⟩
   ·rename_i he;rw [if_neg he] at h3;exact ⟨D',F',L',h1,h2,h3⟩
  | _=>exact hh))
theorem FL {c:Operand} {x y:Code} (h:Pk (ev F c) (JD P ro M W n x D F L Q) (JD P ro M W n y D F L Q)):JD P ro M W n (.cond c x y) D F L Q:=fun a w ha hw=>by
 unfold Pk at h
 split at h
 ·rename_i t ht
  have he:a.eval c = .bool t:=by rw [show a.eval=ev F from ha.ok.eval];exact ht
  exact wpIn_cond_split he (fun e=>h.1 e a w ha hw) (fun e=>h.2 e a w ha hw)
 ·exact h.elim
theorem QC {c:Code} (I:Fr->List Ai->Prop) (μ:Fr->List Ai->Nat) (h₀:I F L)
  (round:∀F' L',I F' L'→JD P ro M W n c D F' L' (ES (fun D'' dV dW=>D''=D/\I dV dW/\μ dV dW<μ F' L') Q)):JD P ro M W n (.loop c) D F L Q:=fun a w ha hw=>by
 intro b k cs hro hb hr
 have key:∀m F L a w,μ F L=m->I F L->lh D n a F->St M W L w →
   ∃e a' w',fG M W n Q e a' w'∧ArrivesIn (Machine.fenced P (Gg ro)) P (lone (b.atR a (.code c :: .inLoop c::k)) cs w) b k cs e a' w':=by
  intro m
  induction m using Nat.strongRecOn with
  | _ m ih =>
   intro F L a w hm hI ha hw
   obtain ⟨e,a₁,w₁,hq,harr⟩:=round F L hI a w ha hw b (.inLoop c::k) cs hro hb hr
   cases e with
   | normal =>
    obtain ⟨D',F',L',h1,h2,rfl,hI₁,hlt⟩:=hq
    obtain ⟨e₂,a₂,w₂,hq₂,harr₂⟩:=ih (μ F' L') (hm▸hlt) F' L' a₁ w₁ rfl hI₁ h1 h2
    exact ⟨e₂,a₂,w₂,hq₂,.of_steps (StepsIn.trans harr (.one (fenced_calm (fr:=b.atR a₁ (.inLoop c::k)) hb hr rfl) stepR_inLoop)) harr₂⟩
   | exit id=>exact ⟨.exit id,a₁,w₁,hq,.pass (x:=.inLoop c) rfl (fun _ _=>.inl (by simp)) harr⟩
   | goto l=>exact ⟨.goto l,a₁,w₁,hq,.pass (x:=.inLoop c) rfl (fun _ _=>.inl (by simp)) harr⟩
   | ret=>exact ⟨.ret,a₁,w₁,hq,.pass (x:=.inLoop c) rfl (fun _ _=>.inl (by simp)) harr⟩
   | panic ch=>exact hq.elim
   | outgrown=>exact hq.elim
 obtain ⟨e,a',w',hq,harr⟩:=key _ F L a w rfl h₀ ha hw
 exact ⟨e,a',w',hq,.of_steps (.one (fenced_calm (fr:=b.atR a (.code (.loop c)::k)) hb hr rfl) stepR_loop) harr⟩
def Tx (M:List Nat) (W:World) (n:Nat) (K:Fr->List Ai->Prop):Exit->Act->World->Prop
 | .normal,a,w => ∃F L,Gu n a F/\St M W L w/\K F L
 | _,_,_=>False
theorem K3 {K:Fr->List Ai->Prop} : Calm (Tx M W n K):=⟨fun _ _ _ h=>h,fun _ _ h=>h,fun _ _ ⟨_,_,h,_⟩=>h.defers⟩
theorem QD {K:Fr->List Ai->Prop} (hk:∀F' L',K F' L'→Q .normal D F' L'):∀e a w,rY (D.map X5) (Tx M W n K) e a w->fG M W n Q e a w:=by
 rintro e a w ⟨h1,h2⟩
 cases e<;>first
  | (obtain ⟨F',L',h3,h4,h5⟩:=h2;exact ⟨D,F',L',⟨h1,h3⟩,h4,hk _ _ h5⟩)
  | exact h2.elim
theorem lh.eta {a:Act} (h:lh D n a F):({ ({ a with defers:=[] } : Act) with defers:=D.map X5 } : Act)=a:=by
 have:=h.defers
 cases a
 simp_all
theorem QE {id:Nat} {l:List Oper} (hd:l.all (fun o=>HV n o.dst)=true) (hu:FQ l=true) {K:Fr->List Ai->Prop} (h:MX P M W n l true l F L K) (hk:∀F' L',K F' L'→Q .normal D F' L'):JD P ro M W n (.region id l.toArray false) D F L Q:=fun a w ha hw=>by
 have h1:wpList P l.toArray (Tx M W n K) l { a with defers:=[] } w:=Hm (ops:=l.toArray) (JH (by simpa using hd)) l hd (by simpa using h) ha.ok hw fun F' L' a' w' hK h1 h2=>⟨F',L',h1,h2,hK⟩
 have h2:=Mi (ro:=ro) (k:=0) (ds:=D.map X5) K3 l _ _ hu h1
 rw [ha.eta] at h2
 exact wpIn_mono (wpIn_region_list (by simpa using h2)) (QD hk)
theorem Ay {id:Nat} {l:List Oper} (hd:l.all (fun o=>HV n o.dst)=true) (hu:FQ l=true) (h:MX P M W n l true l F L (K D)):JD P ro M W n (.region id l.toArray false) D F L (ES K Q):=QE hd hu h fun _ _ h=>h
theorem Ha {id:Nat} {l:List Oper} (hd:l.all (fun o=>HV n o.dst)=true) (hu:FQ l=true) (h:MX P M W n l true l F L (fun F' L'=>Q .normal D F' L')):JD P ro M W n (.region id l.toArray false) D F L Q:=QE hd hu h fun _ _ h=>h
theorem Mk (ix:List Nat) (hnd:ix.Nodup) {c:Code} (h:JD P ro M W n c D F (Ag ix L) Q):JD P ro M W n c D F L Q:=fun a w ha hw=>h a w ha (hw.pick hnd)
end
def pQ (L:List Ai):Prop:=L.Pairwise fun r s => ∀b∈r.foot,b∉s.foot
def Ih (L:List Ai):Ai:=.dat (L.flatMap Ai.foot) (fun w => ∀r∈L,r.holds w) (fun w w' hk h r hr=>r.keep (h r hr) fun b hb=>hk b (List.mem_flatMap.2 ⟨r,hr,hb⟩))
def FU (l:Nat) (r:Loop):Ai:=.dat [l] (fun w=>w.heap[l]? = some (.loop r)) (fun _ _ hk h=>(hk l (by simp)).trans h)
section
variable {M:List Nat} {W w:World} {A B L:List Ai}
theorem St.u_ (h:St M W (A++L) w):pQ L:=(List.pairwise_append.1 h.apart).2.1
theorem St.fold (h:St M W (A++L) w):St M W (A++[Ih L]) w:=by
 obtain ⟨h1,h2,h3⟩:=List.pairwise_append.1 h.apart
 refine ⟨h.Bz,fun r hr=>?_,fun r hr b hb=>?_,List.pairwise_append.2 ⟨h1,List.pairwise_singleton _ _,fun r hr s hs b hb hbs=>?_⟩⟩
 ·rcases List.mem_append.1 hr with hr|hr
  ·exact h.holds r (by simp [hr])
  ·obtain rfl:r=Ih L:=by simpa using hr
   exact fun s hs=>h.holds s (by simp [hs])
 ·rcases List.mem_append.1 hr with hr|hr
  ·exact h.own r (by simp [hr]) b hb
  ·obtain rfl:r=Ih L:=by simpa using hr
   obtain ⟨s,hs,hbs⟩:=List.mem_flatMap.1 hb
   exact h.own s (by simp [hs]) b hbs
 ·obtain rfl:s=Ih L:=by simpa using hs
  obtain ⟨t,ht,hbt⟩:=List.mem_flatMap.1 hbs
  exact h3 r hr t ht b hb hbt
theorem St.unfold (h:St M W (A++[Ih L]) w) (ha:pQ L):St M W (A++L) w:=by
 obtain ⟨h1,h2,h3⟩:=List.pairwise_append.1 h.apart
 have hm:Ih L∈A++[Ih L]:=by simp
 have hf:∀r∈L,∀b∈r.foot,b∈(Ih L).foot:=fun r hr b hb=>List.mem_flatMap.2 ⟨r,hr,hb⟩
 refine ⟨h.Bz,fun r hr=>?_,fun r hr b hb=>?_,List.pairwise_append.2 ⟨h1,ha,fun r hr s hs b hb hbs=>?_⟩⟩
 ·rcases List.mem_append.1 hr with hr|hr
  ·exact h.holds r (by simp [hr])
  ·exact h.holds _ hm r hr
 ·rcases List.mem_append.1 hr with hr|hr
  ·exact h.own r (by simp [hr]) b hb
  ·exact h.own _ hm b (hf r hr b hb)
 ·exact h3 r hr (Ih L) (by simp) b hb (hf s hs b hbs)
theorem Ty (w:World) (d:Nat) (o:Obj):(w.putObj d o).os=w.os/\(w.putObj d o).tape=w.tape/\(w.putObj d o).output=w.output/\(w.putObj d o).heap.size=w.heap.size:=⟨rfl,rfl,rfl,by simp [World.putObj]⟩
theorem St.mW {d:Nat} {p p':World->Prop} {loc loc'} {o:Obj} (h:St M W (A ++ .dat [d] p loc::B) w) (hp:p' (w.putObj d o)):St M W (A ++ .dat [d] p' loc'::B) (w.putObj d o):=by
 obtain ⟨k1,k2,k3,k4⟩:=Ty w d o
 have hm:Ai.dat [d] p loc∈A ++ .dat [d] p loc::B:=by simp
 have hd:=h.own _ hm d (by simp [Ai.foot])
 obtain ⟨a1,a2,a3⟩:=List.pairwise_append.1 h.apart
 obtain ⟨a4,a5⟩:=List.pairwise_cons.1 a2
 have hA:∀r∈A,d∉r.foot:=fun r hr hb=>a3 r hr (.dat [d] p loc) (by simp) d hb (by simp [Ai.foot])
 have hB:∀r∈B,d∉r.foot:=fun r hr hb=>a4 r hr d (by simp [Ai.foot]) hb
 have hk:∀r:Ai,d∉r.foot->r.holds w->r.holds (w.putObj d o):=fun r hr hh=>r.keep hh fun b hb=>World.putObj_heap_other (fun e=>hr (e▸hb))
 refine ⟨⟨k1.trans h.Bz.os,k2.trans h.Bz.tape,k3.trans h.Bz.output,by rw [k4];exact h.Bz.size,fun j hj hjM=>?_⟩,fun r hr=>?_,fun r hr b hb=>?_,List.pairwise_append.2 ⟨a1,List.pairwise_cons.2 ⟨fun s hs=>a4 s hs,a5⟩,fun r hr s hs=>?_⟩⟩
 ·refine (World.putObj_heap_other (fun e=>?_)).trans (h.Bz.block j hj hjM)
  subst e
  rcases hd.1 with h1|h1
  ·omega
  ·exact hjM h1
 ·rcases List.mem_append.1 hr with hr|hr
  ·exact hk r (hA r hr) (h.holds r (by simp [hr]))
  ·rcases List.mem_cons.1 hr with rfl|hr
   ·exact hp
   ·exact hk r (hB r hr) (h.holds r (by simp [hr]))
 ·rw [k4]
  rcases List.mem_append.1 hr with hr|hr
  ·exact h.own r (by simp [hr]) b hb
  ·rcases List.mem_cons.1 hr with rfl|hr
   ·exact h.own _ hm b hb
   ·exact h.own r (by simp [hr]) b hb
 ·rcases List.mem_cons.1 hs with rfl|hs
  ·exact fun b hb=>a3 r hr (.dat [d] p loc) (by simp) b hb
  ·exact a3 r hr s (by simp [hs])
theorem St.ABY {o:Obj} {p:World->Prop} {loc} (h:St M W L w) (hp:p (w.alloc o)):St M W (.dat [w.heap.size] p loc::L) (w.alloc o) :=
 (h.Xv o).add _ hp (fun b hb=>by
  obtain rfl:b=w.heap.size:=by simpa [Ai.foot] using hb
  exact ⟨.inl h.Bz.size,by simp⟩) (fun s hs b hb hbs=>by
  obtain rfl:b=w.heap.size:=by simpa [Ai.foot] using hb
  have:=(h.own s hs _ hbs).2
  omega)
end
section
variable {P:Program} {ro:Option Nat} {M:List Nat} {W:World} {n:Nat} {D:List Nat} {F:Fr} {L:List Ai} {Q:Exit->List Nat->Fr->List Ai->Prop} {K:List Nat->Fr->List Ai->Prop}
def YV (P:Program) (M:List Nat) (W:World) (l:Nat) (args:Array Value) (L:List Ai) (K:Value->List Ai->Prop):Prop :=
 ∀w,St M W L w->YieldAt (Gg none) 0 P l args w fun e w' => ∃v L',e = .returned v/\St M W L' w'∧K v L'
theorem YV.mono {l:Nat} {args:Array Value} {K K':Value->List Ai->Prop} (h:YV P M W l args L K) (hk:∀v L',K v L'→K' v L'):YV P M W l args L K':=fun w hw=>by
 obtain ⟨fn,tmps,assign,body,h1,h2⟩:=h w hw
 refine ⟨fn,tmps,assign,body,h1,h2.mono ?_⟩
 rintro e w' ⟨v,L',a1,a2,a3⟩
 exact ⟨v,L',a1,a2,hk _ _ a3⟩
def vB (F:Fr) (o:Oper):Option (Nat×Array Value) :=
 match o.op with
 | .call c=>(match c.callee with
  | .value f=>(match ev F f with
   | .func (.yield l) first cap=>some (l,first++c.args.map (ev F))
   | _=>none)
  | _=>none)
 | _=>none
theorem Tz {X:Fence} {k:Nat} {o:Oper} {a:Act} {w:World} {next:Act->World->Prop} {Q Q':Exit->Act->World->Prop} (hq:∀e a w,Q e a w->Q' e a w) (h:o.wpIn X k P a w next Q):o.wpIn X k P a w next Q':=by
 refine ⟨h.1, ?_⟩
 have hh:=h.2
 revert hh
 generalize (o.semAt X.round a.eval).run P w=r
 intro hh
 cases r with
 | ok x w' =>
  cases x with
  | enter f args=>exact ⟨hh.1,CallsIn.mono hh.2 fun e w'' he=>by cases e<;>first|exact he|exact hq _ _ _ he|(obtain ⟨a0,w0,h0⟩:=he;exact ⟨a0,w0,hq _ _ _ h0⟩)⟩
  | round l f tmps assign body=>exact ⟨hh.1,RoundIn.mono hh.2 fun e w'' he=>by cases e<;>first|exact he|exact hq _ _ _ he|(obtain ⟨a0,w0,h0⟩:=he;exact ⟨a0,w0,hq _ _ _ h0⟩)⟩
  | _=>exact hh
 | halt x w' =>
  cases x with
  | panic v=>exact hq _ _ _ hh
  | _=>exact hh
theorem Jp {ops:Array Oper} {X:Fence} {k:Nat} {Q Q':Exit->Act->World->Prop} (hq:∀e a w,Q e a w->Q' e a w):∀(r:List Oper) (a:Act) (w:World),wpListIn X k P ops Q r a w->wpListIn X k P ops Q' r a w
 | [],a,w,h=>hq _ _ _ h
 | o::r,a,w,h=>by
  unfold wpListIn at h ⊢
  split at h
  ·rename_i hw
   rw [if_pos hw]
   exact Tz hq (Oper.wpIn_mono (Jp hq r) h)
  ·rename_i hw
   rw [if_neg hw]
   exact ⟨h.1,Jp hq r _ _ h.2⟩
theorem Iz {ops:Array Oper} {X:Fence} {k:Nat} {Q:Exit->Act->World->Prop} {K:Act->World->Prop} {r2:List Oper} (hk:∀a w,K a w->wpListIn X k P ops Q r2 a w):∀(r1:List Oper) (a:Act) (w:World),
  wpListIn X k P ops (Exit.then K Q) r1 a w->wpListIn X k P ops Q (r1++r2) a w
 | [],a,w,h=>hk _ _ h
 | o::r1,a,w,h=>by
  simp only [List.cons_append]
  unfold wpListIn at h ⊢
  split at h
  ·rename_i hw
   rw [if_pos hw]
   have h1:o.wpIn X k P a w (wpListIn X k P ops (Exit.then K Q) r1) Q:=h
   exact Oper.wpIn_mono (Iz hk r1) h1
  ·rename_i hw
   rw [if_neg hw]
   exact ⟨h.1,Iz hk r1 _ _ h.2⟩
theorem X6 {k k':Nat} {ro ro':Option Nat} {l:Nat} {f:FuncId} {tmps:Array Value} {assign body:Code} {w:World} {R:Ending->World->Prop} (h:RoundIn (Gg ro) k P l f tmps assign body w R):RoundIn (Gg ro') k' P l f tmps assign body w R :=
 ⟨trivial,fun c cs _=>h.2 c cs pO⟩
theorem fH {o:Oper} {a:Act} {w:World} {next:Act->World->Prop} {Q:Exit->Act->World->Prop} {l:Nat} {args:Array Value} {KK:Value->List Ai->Prop} (ha:a.eval=ev F) (hy:vB F o=some (l,args)) (hv:YV P M W l args L KK) (hw:St M W L w)
  (hn:∀v L' w',KK v L'→St M W L' w'→next (a.put o.dst v) w'):o.wpIn (Gg ro) 0 P a w next Q:=by
 refine ⟨fun _ _=>trivial, ?_⟩
 obtain ⟨dst,op,ty,pos,after,guard⟩:=o
 unfold vB at hy
 dsimp only at hy
 split at hy
 ·rename_i c
  split at hy
  ·rename_i f hf
   split at hy
   ·rename_i l' first cap hfv
    simp only [Option.some.injEq,Prod.mk.injEq] at hy
    obtain ⟨rfl,rfl⟩:=hy
    obtain ⟨fn,tmps,assign,body,h1,h2⟩:=hv w hw
    rw [show (Gg ro).round=ro from rfl,Oper.semAt_eq ro _ _ (by intro c;simp),ha]
    obtain ⟨callee,AIS,ats⟩:=c
    dsimp only at hf
    subst hf
    simp only [execOp,resolve,hfv,Deferred.ofValue,Sem.run_bind,Sem.run_pure,Result.andThen_ok,invoke,h1,Oper.uponIn_round]
    refine ⟨fun hh=>(by cases hh),X6 (h2.mono ?_)⟩
    rintro e w' ⟨v,L',rfl,hs,hk⟩
    exact hn _ _ _ hk hs
   ·cases hy
  ·cases hy
 ·cases hy
theorem Z9 {id:Nat} {l1 l2:List Oper} {o:Oper} (hd:(l1++o::l2).all (fun o=>HV n o.dst)=true) (hu:FQ (l1++o::l2)=true) (hg:o.guard=none)
  (h:MX P M W n (l1++o::l2) true l1 F L fun F1 L1 => ∃ly args,vB F1 o=some (ly,args)/\YV P M W ly args L1 fun v L2=>MX P M W n (l1++o::l2) true l2 (D7 F1 o.dst v) L2 (K D)) :
  JD P ro M W n (.region id (l1++o::l2).toArray false) D F L (ES K Q):=fun a w ha hw=>by
 have hsl:=JH (n:=n) (ops:=(l1++o::l2).toArray) (by simpa using hd)
 have hdo:OI n o.dst:=Tm (List.all_eq_true.1 hd o (by simp))
 have hd1:l1.all (fun o=>HV n o.dst)=true:=List.all_eq_true.2 fun x hx=>List.all_eq_true.1 hd x (by simp [hx])
 have hd2:l2.all (fun o=>HV n o.dst)=true:=List.all_eq_true.2 fun x hx=>List.all_eq_true.1 hd x (by simp [hx])
 have hu1:FQ l1=true:=List.all_eq_true.2 fun x hx=>List.all_eq_true.1 hu x (by simp [hx])
 have hu2:FQ l2=true:=List.all_eq_true.2 fun x hx=>List.all_eq_true.1 hu x (by simp [hx])
 refine wpIn_mono (Q:=rY (D.map X5) (Tx M W n (K D))) ?_ (QD fun _ _ h=>h)
 refine wpIn_region_list ?_
 simp only [List.toList_toArray]
 have h1:=Hm (ops:=(l1++o::l2).toArray) (Q:=Tx M W n fun F1 L1 => ∃ly args,vB F1 o=some (ly,args)/\YV P M W ly args L1 fun v L2=>MX P M W n (l1++o::l2) true l2 (D7 F1 o.dst v) L2 (K D)) hsl l1 hd1 (by simpa using h) ha.ok hw fun F' L' a' w' hK h1 h2=>⟨F',L',h1,h2,hK⟩
 have h2:=Mi (ro:=ro) (k:=0) (ds:=D.map X5) K3 l1 _ _ hu1 h1
 rw [ha.eta] at h2
 refine Iz (K:=fun a1 w1=>rY (D.map X5) (Tx M W n fun F1 L1 => ∃ly args,vB F1 o=some (ly,args)/\YV P M W ly args L1 fun v L2=>MX P M W n (l1++o::l2) true l2 (D7 F1 o.dst v) L2 (K D)) .normal a1 w1) ?_ l1 a w ?_
 ·rintro a1 w1 ⟨e1,F1,L1,f1,s1,ly,args,hy,hv⟩
  unfold wpListIn
  rw [if_pos (by unfold Region.wanted;rw [hg])]
  refine fH (F:=F1) f1.eval hy hv s1 ?_
  intro v L2 w2 hK hs
  have f2:=f1.put hdo v
  have h3:=Hm (ops:=(l1++o::l2).toArray) (Q:=Tx M W n (K D)) hsl l2 hd2 (by simpa using hK) f2 hs fun F' L' a' w' hK h1 h2=>⟨F',L',h1,h2,hK⟩
  have h4:=Mi (ro:=ro) (k:=0) (ds:=D.map X5) K3 l2 _ _ hu2 h3
  have e:({ (({ a1 with defers:=[] } : Act).put o.dst v) with defers:=D.map X5 } : Act)=a1.put o.dst v:=by
   rw [Tw]
   cases a1
   cases o.dst<;>simp_all [Act.put]
  rw [e] at h4
  exact h4
 ·refine Jp ?_ _ _ _ h2
  rintro e a1 w1 hh
  cases e<;>first
   | exact hh
   | exact hh.2.elim
end
def Vi:Fr->List (Nat×Value)->Fr
 | F,[]=>F
 | F,(t,v)::r=>Vi (upd F t v) r
theorem Gu.Vi {n:Nat} : ∀(l:List (Nat×Value)) {tm:Array Value} {F:Fr},Gu n { tmps:=tm,defers:=[] } F->(∀x∈l,x.1<n)->Gu n { tmps:=l.foldl (fun t (p:Nat×Value)=>t.setIfInBounds p.1 p.2) tm,defers:=[] } (Go.Proofs.YtegonkdandmolaaGreat.Vi F l)
 | [],tm,F,h,_=>h
 | (t,v)::r,tm,F,h,hl=>Gu.Vi r (tm:=tm.setIfInBounds t v) (F:=upd F t v) (h.put (d:=some t) (hl (t,v) (by simp)) v) fun x hx=>hl x (by simp [hx])
section
variable {P:Program} {M:List Nat} {W:World} {n:Nat} {D:List Nat} {F:Fr} {L:List Ai} {Q:Exit->List Nat->Fr->List Ai->Prop}
def AGD {α:Type} (I:List α->List Ai->Prop) (Ix:Code->List α->List Ai->Prop) (pre:List α) (R:Ai):Exit->List Nat->Fr->List Ai->Prop
 | .normal,_,_,L => ∃B,L=B++[R]/\I pre B
 | .ret,_,_,L => ∃B,L=B++[R]/\Ix .ret pre B
 | .exit id,_,_,L => ∃B,L=B++[R]/\Ix (.exit id) pre B
 | _,_,_,_=>False
def AGE {α:Type} (P:Program) (l:Nat) (M:List Nat) (W:World) (n:Nat) (body:Code) (I:List α->List Ai->Prop) (Ix:Code->List α->List Ai->Prop) (pre:List α) (R:Ai):Exit->List Nat->Fr->List Ai->Prop
 | .normal,D,F,L=>D=[]∧∃B,L=B++[R]∧∀R',JD P (some l) M W n body [] F (B++[R']) (AGD I Ix pre R')
 | _,_,_,_=>False
def ABa (Q:Exit->List Nat->Fr->List Ai->Prop) (c:Code) (D:List Nat) (F:Fr) (L:List Ai):Prop :=
 match c with
 | .ret=>Q .ret D F L
 | .exit id=>Q (.exit id) D F L
 | _=>False
def mX (P:Program) (M:List Nat) (W:World) (rs:List ResultVar) (R:Ending->World->Prop):Exit->List Nat->Fr->List Ai->Prop
 | .normal,D,F,L => ∃L2,L=D.map HZ++L2/\Cx P M W L2 F rs fun tok vs=>tok=true→∀w,St M W L2 w->R (.returned (Cw vs)) w
 | .ret,D,F,L => ∃L2,L=D.map HZ++L2/\Cx P M W L2 F rs fun tok vs=>tok=true→∀w,St M W L2 w->R (.returned (Cw vs)) w
 | _,_,_,_=>False
theorem Si {f:FuncId} {fn:Func} {c:Code} {args:List Value} {R:Ending->World->Prop} {w:World} (rs:List ResultVar) (hrs:fn.results=rs.toArray) (hf:P.funcs[f]? = some fn) (hb:fn.body=some c) (hn:fn.ntmps=n) (hl:args.length<=n) (hw:St M W L w)
  (h:JD P none M W n c [] (d_ args) L (mX P M W rs R)):Calls P f args.toArray w R:=by
 obtain rfl:fn.results.toList=rs:=by rw [hrs]
 refine X4 (ro:=none) (k:=0) (callsIn_of_wp_marks hf hb trivial (wpIn_mono (h _ w ⟨rfl,rfl,by simp [hn];omega,fun i=>?_⟩ hw) ?_) rfl)
 ·simp only [d_]
  rcases Nat.lt_or_ge i args.length with h1|h1
  ·have h2:i<(args.toArray++Array.replicate (fn.ntmps-args.toArray.size) undef).size:=by simp;omega
   simp [Array.getElem?_append,h1]
  ·have h2:args[i]? = none:=List.getElem?_eq_none h1
   simp [Array.getElem?_append,Nat.not_lt.2 h1,Array.getElem?_replicate,h2]
   split<;>rfl
 ·have key:∀(a:Act) (D:List Nat) (F:Fr) (L2:List Ai),lh D n a F->Cx P M W L2 F fn.results.toList (fun tok vs=>tok=true→∀w,St M W L2 w->R (.returned (Cw vs)) w)→∀(D':List Nat) (w:World),St M W (D'.map HZ++L2) w →
    LeavesInM (Gg none) 0 P fn a.tmps R (D'.map X5) .returning w:=by
   intro a D F L2 f1 h3 D'
   induction D' with
   | nil =>
    intro w hs
    obtain ⟨vs,hk,hr⟩:=Ig f1.ok h3
    exact ⟨_,Mf (hr w hs),hk rfl w hs⟩
   | cons d D' ih =>
    intro w hs
    have hd:w.heap[d]? = some (.deferred (some [])):=hs.holds (HZ d) (by simp)
    refine ⟨by simp,.inl ⟨d,_,rfl,run_takeDeferred hd,ih _ ?_⟩⟩
    have:=St.mW (A:=[]) (o:=.deferred none) (p':=fun _=>True) (loc':=fun _ _ _ _=>trivial) (show St M W ([]++HZ d::(D'.map HZ++L2)) w from hs) trivial
    exact St.tail this
  intro e a w hh
  cases e<;>first
   | exact hh.elim
   | (obtain ⟨D,F',L',h1,h2,h3⟩:=hh
      first
       | exact h3.elim
       | (obtain ⟨L2,rfl,h3⟩:=h3
          show LeavesInM (Gg none) 0 P fn a.tmps R a.defers .returning w
          rw [h1.defers]
          exact key a D F' L2 h1 h3 D w h2))
end
section
variable {K:List Nat->Fr->List Ai->Prop} {Q:Exit->List Nat->Fr->List Ai->Prop} {D:List Nat} {F:Fr} {L:List Ai} {i j:Nat}
theorem Ml:ES K Q .normal D F L=K D F L:=rfl
theorem QF:ES K Q (.exit i) D F L=Q (.exit i) D F L:=rfl
theorem Sj:ES K Q .ret D F L=Q .ret D F L:=rfl
theorem OV:EM i Q (.exit j) D F L=if j=i then Q .normal D F L else Q (.exit j) D F L:=rfl
theorem Lg:EM i Q .normal D F L=Q .normal D F L:=rfl
theorem QG:EM i Q .ret D F L=Q .ret D F L:=rfl
theorem Vj {f:List Nat} {p:World->Prop} {loc} (L:List Ai) (k:Nat):look (.dat f p loc::L) k=look L k:=rfl
theorem Vk {f:List Nat} {p:World->Prop} {loc} (L:List Ai) (k:Nat) (us:List Value):FK (.dat f p loc::L) k us = .dat f p loc::FK L k us:=rfl
theorem Sk {f:List Nat} {p:World->Prop} {loc} (L:List Ai) (k:Nat):fresh (.dat f p loc::L) k=fresh L k:=rfl
theorem Y7 {f:List Nat} {p:World->Prop} {loc} (L:List Ai) (k:Nat):LW (.dat f p loc::L) k=LW L k:=rfl
theorem Y8 {f:List Nat} {p:World->Prop} {loc} (L:List Ai) (k:Nat):O7 (.dat f p loc::L) k=O7 L k:=rfl
theorem Sm {f:List Nat} {p:World->Prop} {loc} (W:World) (M:List Nat) (L:List Ai):Ee W M (.dat f p loc::L)=Ee W M L:=rfl
theorem Vl (d:Nat) (L:List Ai) (k:Nat):look (HZ d::L) k=look L k:=rfl
theorem Vm (d:Nat) (L:List Ai) (k:Nat) (us:List Value):FK (HZ d::L) k us=HZ d::FK L k us:=rfl
theorem Sn (d:Nat) (L:List Ai) (k:Nat):fresh (HZ d::L) k=fresh L k:=rfl
theorem Y9 (d:Nat) (L:List Ai) (k:Nat):LW (HZ d::L) k=LW L k:=rfl
theorem Y_ (d:Nat) (L:List Ai) (k:Nat):O7 (HZ d::L) k=O7 L k:=rfl
theorem Sq (W:World) (M:List Nat) (d:Nat) (L:List Ai):Ee W M (HZ d::L)=Ee W M L:=rfl
theorem cF:type_of% (And.intro (And.intro (And.intro (And.intro @Ml @QF) (And.intro @Sj (And.intro @OV (And.intro @Lg @QG)))) (And.intro (And.intro @Vl (And.intro @Vm @Sn)) (And.intro @Y9 (And.intro @Y_ @Sq)))) (And.intro (And.intro @Vj (And.intro @Vk @Sk)) (And.intro @Y7 (And.intro @Y8 @Sm)))):=(And.intro (And.intro (And.intro (And.intro @Ml @QF) (And.intro @Sj (And.intro @OV (And.intro @Lg @QG)))) (And.intro (And.intro @Vl (And.intro @Vm @Sn)) (And.intro @Y9 (And.intro @Y_ @Sq)))) (And.intro (And.intro @Vj (And.intro @Vk @Sk)) (And.intro @Y7 (And.intro @Y8 @Sm))))
end
section
variable {P:Program} {ro:Option Nat} {M:List Nat} {W:World} {nn:Nat} {D:List Nat} {F:Fr} {L:List Ai} {Q:Exit->List Nat->Fr->List Ai->Prop} {co:Code}
theorem Vn (k:Nat) {A:Option Addr} {n c size:Nat} {t:TypeId} {xs:List Value} (hk:nth L k=some (.row (.slice A n c) t size n xs)) (hn:0<n)
  (h:∀g,A=some ⟨g,0,none⟩->(W.heap.size<=g\/g∈M)->LW (L.eraseIdx k) g->JD P ro M W nn co D F L Q):JD P ro M W nn co D F L Q:=fun a w ha hw=>by
 rcases (hw.perm (DI hk).symm).Ji with ⟨-,h0⟩|⟨g,e,hb,hne⟩
 ·omega
 ·exact h g e hb hne a w ha hw
theorem Vo (p:Prop) (h:∀w,St M W L w->p) (hk:p->JD P ro M W nn co D F L Q):JD P ro M W nn co D F L Q:=fun a w ha hw=>hk (h w hw) a w ha hw
theorem T9 (k:Nat) {A:Option Addr} {m d size:Nat} {t:TypeId} {xs:List Value} (hk:nth L k=some (.row (.slice A m d) t size m xs))
  (h:xs.length=m*size->JD P ro M W nn co D F L Q):JD P ro M W nn co D F L Q:=fun a w ha hw=>h (hw.j_ k hk).len a w ha hw
theorem Sr {g:FuncId} {args:Array Value} {K:Bool->Value->List Ai->Prop} {f:Nat->Value} {t:TypeId} {cs:List Value} (h:∀w,St M W L w->Calls P g args w fun e w'=>e = .returned (f w.heap.size)/\w'=w.alloc (.cells cs.toArray t))
  (hk:∀b,W.heap.size<=b->fresh L b->K true (f b) (.blk b t cs::L)):Ia P M W g args L K:=fun w hw=>by
 refine (h w hw).mono ?_
 rintro e w' ⟨rfl,rfl⟩
 exact ⟨_,_,rfl,hw.alloc t cs,hk _ hw.Bz.size (Fv hw)⟩
end
def pU (P:Program) (M:List Nat) (W:World) {α:Type} (gf:Nat) (lb:Array Value) (encs:α->Array Value) (Pn:List α->α->Prop) (S Sp:List α->Prop) (A:List Ai):Prop :=
 ∀(l:Nat) (I Ix:List α->Ai->Prop),(∀pre R,I pre R→∃f p loc,R = .dat f p loc) →
  (∀pre x X R,Pn pre x->I pre R->YV P M W l (encs x) (X++[R]) fun v L'=>(v = .bool true∧∃R',I (pre++[x]) R'∧L'=X++[R'])\/(v = .bool false∧∃R',Ix (pre++[x]) R'∧L'=X++[R'])) →
  ∀R w,I [] R->St M W (A++[R]) w->Calls P gf (#[.func (.yield l) #[] #[]]++lb) w fun e w'=>(∃v,e = .returned v) ∧
   ((∃xs R',S xs/\I xs R'∧St M W (A++[R']) w')\/(∃pre R',Sp pre/\Ix pre R'∧St M W (A++[R']) w'))
section
variable {P:Program} {M:List Nat} {W:World} {n:Nat} {D:List Nat} {F:Fr} {L:List Ai} {Q:Exit->List Nat->Fr->List Ai->Prop}
theorem X7 {α:Type} {g:Operand} {ps:Array Tmp} {assign body:Code} {gf:Nat} {lb:Array Value} {encs:α->Array Value} {Pn:List α->α->Prop} {S Sp:List α->Prop} {A:List Ai} (B:List Ai)
  (hg:ev F g = .func (.func gf) #[] lb) (hgb:AJ P gf=true) (hit:pU P M W gf lb encs Pn S Sp A) (hps:∀x,(encs x).size=ps.size) (hpn:ps.toList.all (fun t=>Nat.ble (t+1) n)=true) (hL:L=A++B)
  (I:List α->List Ai->Prop) (Ix:Code->List α->List Ai->Prop) (h0:I [] B)
  (hbody:∀l pre x R B',Pn pre x->I pre B'→JD P (some l) M W n assign [] (Vi F (ps.toList.zip (encs x).toList)) (B'++[R]) (AGE P l M W n body I Ix (pre++[x]) R))
  (hdone:∀d xs B',S xs->I xs B'→Q .normal (d::D) F (HZ d::(A++B')))
  (hstop:∀d c pre B',Sp pre->Ix c pre B'→ABa Q c (d::D) F (HZ d::(A++B'))):JD P none M W n (.rangeFunc g ps assign body) D F L Q:=fun a w ha hw=>by
 subst hL
 refine wpIn_rangeFunc ?_
 intro fn hfn
 obtain ⟨GH,T_⟩:∃GH:LoopState->Option Code->Loop,GH=fun st pe => { state:=st,pending:=pe,fn,tmps:=a.tmps,params:=ps,assign,body,defers:=w.heap.size } := ⟨_,rfl⟩
 obtain ⟨d,hd⟩:∃d,w.heap.size=d:=⟨_,rfl⟩
 obtain ⟨l,hl⟩:∃l,d+1=l:=⟨_,rfl⟩
 obtain ⟨W1,hW1⟩:∃W1,(w.alloc (.deferred (some []))).alloc (.loop (GH .ready none))=W1:=⟨_,rfl⟩
 have Z_:St M W (A++(B++[FU l (GH .ready none),HZ d])) W1:=by
  have q1:St M W (HZ d::(A++B)) (w.alloc (.deferred (some []))):=by
   rw [<-hd]
   exact hw.ABY (World.alloc_heap_new w _)
  have q2:St M W (FU l (GH .ready none)::HZ d::(A++B)) W1:=by
   rw [<-hW1,<-hl]
   have e:(w.alloc (.deferred (some []))).heap.size=d+1:=by simp [hd]
   have:=q1.ABY (o:=.loop (GH .ready none)) (p:=fun w=>w.heap[d+1]? = some (.loop (GH .ready none))) (loc:=fun _ _ hk h=>(hk (d+1) (by rw [e];simp)).trans h) (by
    have:=World.alloc_heap_new (w.alloc (.deferred (some []))) (.loop (GH .ready none))
    rwa [e] at this)
   unfold FU
   simp only [e] at this
   exact this
  refine q2.perm ?_
  rw [<-List.append_assoc]
  exact (List.perm_append_comm (l₁:=A++B) (l₂:=[FU l (GH .ready none),HZ d]))
 have AGF:pQ (B++[FU l (GH .ready none),HZ d]):=Z_.u_
 have key:=hit l (fun pre R => ∃B',I pre B'∧pQ (B'++[FU l (GH .ready none),HZ d])/\R=Ih (B'++[FU l (GH .ready none),HZ d]))
  (fun pre R => ∃c B',Ix c pre B'∧pQ (B'++[FU l (GH .done (some c)),HZ d])/\R=Ih (B'++[FU l (GH .done (some c)),HZ d])) (by rintro pre R ⟨B', -, -,rfl⟩;exact ⟨_,_,_,rfl⟩) ?round
  (Ih (B++[FU l (GH .ready none),HZ d])) W1 ⟨B,h0,AGF,rfl⟩ Z_.fold
 case round =>
  rintro pre x X R hlen ⟨B',hI,hap,rfl⟩ w1 hw1
  have hw2:=hw1.unfold hap
  have hr1:w1.heap[l]? = some (.loop (GH .ready none)):=hw2.holds (FU l (GH .ready none)) (by simp)
  have AGG:(encs x).size=(GH .ready none).params.size:=by rw [T_];exact hps x
  have hy:=run_yield (P:=P) (args:=encs x) hr1 AGG
  rw [T_] at hy
  dsimp only at hy
  have hperm:(B'++(X++[FU l (GH .ready none),HZ d])).Perm (X++(B'++[FU l (GH .ready none),HZ d])):=by
   rw [<-List.append_assoc,<-List.append_assoc]
   exact (List.perm_append_comm).append_right _
  have hw3:=hw2.perm hperm
  have AGH:pQ (X++[FU l (GH .ready none),HZ d]):=hw3.u_
  have hfr:lh [] n { tmps:=(ps.zip (encs x)).foldl (fun tmps (t,a)=>tmps.setIfInBounds t a) a.tmps,defers:=[] } (Vi F (ps.toList.zip (encs x).toList)):=by
   refine ⟨rfl, ?_⟩
   have:=Gu.Vi (ps.toList.zip (encs x).toList) (tm:=a.tmps) (F:=F) ha.ok fun y hy=>by
    have:=List.all_eq_true.1 hpn y.1 (List.of_mem_zip hy).1
    exact Nat.le_of_ble_eq_true this
   have e:(ps.zip (encs x)).foldl (fun tmps (t,a)=>tmps.setIfInBounds t a) a.tmps=(ps.toList.zip (encs x).toList).foldl (fun t (p:Nat×Value)=>t.setIfInBounds p.1 p.2) a.tmps:=by
    rw [<-Array.toList_zip,Array.foldl_toList]
   rw [e]
   exact this
  refine ⟨fn,_,assign,body,hy,roundIn_of_wpIn hfn (wpIn_mono (hbody l pre x _ B' hlen hI _ w1 hfr hw3.fold) ?_)⟩
  intro e a1 w2 hq
  cases e with
  | normal =>
   obtain ⟨D',F',L',f1,s1,rfl,B2,rfl,hb⟩:=hq
   have s2:=s1.unfold AGH
   have hr2:w2.heap[l]? = some (.loop (GH .ready none)):=s2.holds (FU l (GH .ready none)) (by simp)
   have hlt2:l<w2.heap.size:=(Array.getElem?_eq_some_iff.1 hr2).1
   refine ⟨_,run_beginRound hr2 (by rw [T_]), ?_⟩
   have ABb:({ GH .ready none with state:=.busy } : Loop)=GH .busy none:=by rw [T_]
   rw [ABb]
   have s3:St M W (B2++(X++[FU l (GH .busy none),HZ d])) (w2.putObj l (.loop (GH .busy none))):=by
    have e:B2++(X++[FU l (GH .ready none),HZ d])=(B2++X)++FU l (GH .ready none)::[HZ d]:=by simp
    rw [e] at s2
    have:=s2.mW (o:=.loop (GH .busy none)) (p':=fun w=>w.heap[l]? = some (.loop (GH .busy none))) (loc':=fun _ _ hk h=>(hk l (by simp)).trans h) (World.putObj_heap_same hlt2)
    have e2:B2++(X++[FU l (GH .busy none),HZ d])=(B2++X)++FU l (GH .busy none)::[HZ d]:=by simp
    rw [e2]
    exact this
   have AGI:pQ (X++[FU l (GH .busy none),HZ d]):=s3.u_
   refine wpIn_mono (hb _ a1 _ f1 s3.fold) ?_
   have fin:∀(jump:Option Code) (B3:List Ai) (w3:World),St M W (B3++[Ih (X++[FU l (GH .busy none),HZ d])]) w3 →
     ∃w4,(Instr.endRound l jump).run P w3 = .ok (.bool jump.isNone) w4/\St M W (X++(B3++[FU l (GH (if jump.isNone then .ready else .done) jump),HZ d])) w4:=fun jump B3 w3 h3=>by
    have h4:=h3.unfold AGI
    have hr3:w3.heap[l]? = some (.loop (GH .busy none)):=h4.holds (FU l (GH .busy none)) (by simp)
    refine ⟨_,run_endRound jump hr3, ?_⟩
    have ee:({ GH .busy none with state:=if jump.isNone then .ready else .done,pending:=jump } : Loop)=GH (if jump.isNone then .ready else .done) jump:=by rw [T_]
    rw [ee]
    have e:B3++(X++[FU l (GH .busy none),HZ d])=(B3++X)++FU l (GH .busy none)::[HZ d]:=by simp
    rw [e] at h4
    have:=h4.mW (o:=.loop (GH (if jump.isNone then .ready else .done) jump)) (p':=fun w=>w.heap[l]? = some (.loop (GH (if jump.isNone then .ready else .done) jump))) (loc':=fun _ _ hk h=>(hk l (by simp)).trans h) (World.putObj_heap_same (Array.getElem?_eq_some_iff.1 hr3).1)
    refine this.perm ?_
    rw [<-List.append_assoc]
    exact (List.perm_append_comm).append_right _
   rintro e a3 w3 hp
   cases e with
   | normal =>
    obtain ⟨D3,F3,L3,f3,s4,B3,rfl,hi⟩:=hp
    obtain ⟨w4,hr,s5⟩:=fin none B3 w3 s4
    exact ⟨_,_,hr,_,_,rfl,s5.fold,.inl ⟨rfl,_,⟨B3,hi,s5.u_,rfl⟩,rfl⟩⟩
   | ret =>
    obtain ⟨D3,F3,L3,f3,s4,B3,rfl,hi⟩:=hp
    obtain ⟨w4,hr,s5⟩:=fin (some .ret) B3 w3 s4
    exact ⟨_,_,hr,_,_,rfl,s5.fold,.inr ⟨rfl,_,⟨_,B3,hi,s5.u_,rfl⟩,rfl⟩⟩
   | exit id =>
    obtain ⟨D3,F3,L3,f3,s4,B3,rfl,hi⟩:=hp
    obtain ⟨w4,hr,s5⟩:=fin (some (.exit id)) B3 w3 s4
    exact ⟨_,_,hr,_,_,rfl,s5.fold,.inr ⟨rfl,_,⟨_,B3,hi,s5.u_,rfl⟩,rfl⟩⟩
   | goto t=>obtain ⟨D3,F3,L3,f3,s4,hh⟩:=hp;exact hh.elim
   | panic c=>exact hp.elim
   | outgrown=>exact hp.elim
  | ret=>obtain ⟨D3,F3,L3,f3,s4,hh⟩:=hq;exact hh.elim
  | exit id=>obtain ⟨D3,F3,L3,f3,s4,hh⟩:=hq;exact hh.elim
  | goto t=>obtain ⟨D3,F3,L3,f3,s4,hh⟩:=hq;exact hh.elim
  | panic c=>exact hq.elim
  | outgrown=>exact hq.elim
 have hev:a.eval=ev F:=ha.ok.eval
 refine ⟨l,[X5 d],W1,{ target:=.fn (.func gf) lb,args := #[.func (.yield l) #[] #[]] },W1,gf, #[.func (.yield l) #[] #[]]++lb,W1, ?_, ?_, ?_, ?_, ?_, ?_⟩
 ·rw [<-hW1,T_,<-hl,<-hd]
  exact run_enterLoop_outer _ _ _ _ _
 ·simp only [resolve,hev,hg,rangeCall,Deferred.ofValue]
  simp [go_sem,ev]
 ·intro _ _
  exact trivial
 ·simp only [invoke,KJ hgb]
 ·intro hh
  cases hh
 ·refine fE ?_
  refine key.mono ?_
  have hfr:lh (d::D) n { a with defers:=[X5 d]++a.defers } F:=⟨by simp [ha.defers],ha.ok⟩
  have fin:∀(st:LoopState) (pe:Option Code) (B':List Ai) (w3:World),st ≠ .busy->pQ (B'++[FU l (GH st pe),HZ d])->St M W (A++[Ih (B'++[FU l (GH st pe),HZ d])]) w3 →
    ∃w4,(Instr.endLoop l).run P w3 = .ok pe w4/\St M W (HZ d::(A++B')) w4:=fun st pe B' w3 hst hap h3=>by
   have h4:=h3.unfold hap
   have hr3:w3.heap[l]? = some (.loop (GH st pe)):=h4.holds (FU l (GH st pe)) (by simp)
   have e1:(GH st pe).state=st:=by rw [T_]
   have e2:(GH st pe).pending=pe:=by rw [T_]
   have:=run_endLoop (P:=P) hr3 (by rw [e1];exact hst)
   have ABc:(Instr.endLoop l).run P w3 = .ok pe (w3.putObj l (.loop { GH st pe with state:=.exhausted })):=this.trans (by subst T_;rfl)
   refine ⟨_,ABc, ?_⟩
   have e:A++(B'++[FU l (GH st pe),HZ d])=(A++B')++FU l (GH st pe)::[HZ d]:=by simp
   rw [e] at h4
   have h5:=h4.mW (o:=.loop { GH st pe with state:=.exhausted }) (p':=fun _=>True) (loc':=fun _ _ _ _=>trivial) trivial
   have h6:=h5.perm (L':=.dat [l] (fun _=>True) (fun _ _ _ _=>trivial)::HZ d::(A++B')) (List.perm_append_comm (l₁:=[_,HZ d]) (l₂:=A++B'))
   exact h6.tail
  rintro e w3 ⟨⟨v,rfl⟩,(⟨xs,R',hS,⟨B',hI,hap,rfl⟩,s⟩|⟨pre,R',hSp,⟨c,B',hI,hap,rfl⟩,s⟩)⟩
  ·obtain ⟨w4,hr,s4⟩:=fin .ready none B' w3 (by simp) hap s
   exact ⟨none,w4,hr,d::D,F,_,hfr,s4,hdone d xs B' hS hI⟩
  ·obtain ⟨w4,hr,s4⟩:=fin .done (some c) B' w3 (by simp) hap s
   refine ⟨some c,w4,hr, ?_⟩
   have hj:=hstop d c pre B' hSp hI
   unfold ABa at hj
   split at hj
   ·exact wpIn_ret ⟨d::D,F,_,hfr,s4,hj⟩
   ·exact wpIn_exit ⟨d::D,F,_,hfr,s4,hj⟩
   ·exact hj.elim
end
theorem ZA {p:Prop} [Decidable p] (h:(!decide p)=true):¬p:=by simpa using h
theorem Vp {p:Prop} [Decidable p] (h:(!decide p)=false):¬ ¬p:=by simpa using h
def I1:List (Int×Int)->Int->Option Int
 | [],_=>none
 | p::l,k=>if p.1=k then some p.2 else I1 l k
def LZ:List (Int×Int)->Int->Int->List (Int×Int)
 | [],k,v=>[(k,v)]
 | p::l,k,v=>if p.1=k then (k,v)::l else p::LZ l k v
def Rc:List (Int×Int)->Int->List (Int×Int)
 | [],_=>[]
 | p::l,k=>if p.1=k then l else p::Rc l k
def prV (p:Int×Int):Value×Value:=(.int .i64 p.1,.int .i64 p.2)
def MpH (w:World) (b:Nat) (l:List (Int×Int)):Prop := ∃(es:Array MapEntry) (cl:Nat),w.heap[b]? = some (.map es cl)/\es.toList.map (fun e=>(e.key,e.val))=l.map prV/\MapKept.Stamped es cl
theorem MpH.same {w w':World} {b:Nat} {l:List (Int×Int)} (h:MpH w b l) (e:w'.heap[b]? = w.heap[b]?):MpH w' b l:=by
 obtain ⟨es,cl,h1,h2⟩:=h
 exact ⟨es,cl,e.trans h1,h2⟩
def rZ (b:Nat) (l:List (Int×Int)):Ai:=.dat [b] (fun w=>MpH w b l) (fun _ _ hk h=>h.same (hk b (by simp)))
theorem ZB (b:Nat) (l:List (Int×Int)) (L:List Ai) (k:Nat):look (rZ b l::L) k=look L k:=rfl
theorem ZC (b:Nat) (l:List (Int×Int)) (L:List Ai) (k:Nat) (us:List Value):FK (rZ b l::L) k us=rZ b l::FK L k us:=rfl
theorem fI (b:Nat) (l:List (Int×Int)) (L:List Ai) (k:Nat):LW (rZ b l::L) k=LW L k:=rfl
theorem fJ (b:Nat) (l:List (Int×Int)) (L:List Ai) (k:Nat):O7 (rZ b l::L) k=O7 L k:=rfl
theorem Vq (W:World) (M:List Nat) (b:Nat) (l:List (Int×Int)) (L:List Ai):Ee W M (rZ b l::L)=Ee W M L:=rfl
theorem Vr (b:Nat) (l:List (Int×Int)) (L:List Ai) (k:Nat):fresh (rZ b l::L) k=fresh L k:=rfl
theorem vC:type_of% (And.intro @ZB (And.intro @ZC (And.intro @fI (And.intro @fJ (And.intro @Vq @Vr))))):=And.intro @ZB (And.intro @ZC (And.intro @fI (And.intro @fJ (And.intro @Vq @Vr))))
section
variable {P:Program} {M:List Nat} {W w:World} {L:List Ai}
def Ak (L:List Ai):List Nat:=L.flatMap Ai.foot
theorem St.self (hw:St M W L w):St (Ak L) w L w :=
 ⟨Gf.refl _ _,hw.holds,fun r hr b hb=>⟨.inr (List.mem_flatMap.2 ⟨r,hr,hb⟩),(hw.own r hr b hb).2⟩,hw.apart⟩
end
end Go.Proofs.YtegonkdandmolaaGreat
