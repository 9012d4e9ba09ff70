import Derived.Test.YtegonkdandmolaaGreatDlays1
import Derived.Maps.RangeRun
import Derived.Test.YtegonkdandmolaaGreatDlays0
import Derived.Laws.BitsLemmas
import Derived.Laws.Bits64b
set_option linter.unusedVariables false
set_option linter.unusedSimpArgs false
set_option maxRecDepth 100000
set_option maxHeartbeats 4000000
namespace Go.Proofs.YtegonkdandmolaaGreat
open Go.RowKit Go.Shelf
def KF:List (Int×Value)->Int->Option Value
 | [],_=>none
 | p::l,k=>if p.1=k then some p.2 else KF l k
def Ql:List (Int×Value)->Int->Value->List (Int×Value)
 | [],k,v=>[(k,v)]
 | p::l,k,v=>if p.1=k then (k,v)::l else p::Ql l k v
def Nt:List (Int×Value)->Int->List (Int×Value)
 | [],_=>[]
 | p::l,k=>if p.1=k then l else p::Nt l k
theorem II {α β:Type} (f:α->β):∀(l:List α) (j:Nat),(l.eraseIdx j).map f=(l.map f).eraseIdx j
 | [],j=>by simp
 | a::l,0=>by simp
 | a::l,j+1=>by simp [II f l j]
def Uh (p:Int×Value):Value×Value:=(.int .i64 p.1,p.2)
theorem GZ (k:Int) (v:Value):∀(es:List MapEntry) (l:List (Int×Value)) (i:Nat),es.map (fun e=>(e.key,e.val))=l.map Uh →
  (KF l k=none/\Instr.findNow (.int .i64) (.int .i64 k) es i=some none/\Ql l k v=l++[(k,v)]/\Nt l k=l) ∨
  (∃j x,KF l k=some x/\Instr.findNow (.int .i64) (.int .i64 k) es i=some (some (i+j,x))/\l[j]? = some (k,x)/\Ql l k v=l.set j (k,v)/\Nt l k=l.eraseIdx j)
 | [],[],i,_=>.inl ⟨rfl,rfl,rfl,rfl⟩
 | [],p::l,i,h=>by simp at h
 | e::es,[],i,h=>by simp at h
 | e::es,p::l,i,h=>by
  obtain ⟨⟨h1,h2⟩,h3⟩:(e.key = .int .i64 p.1/\e.val=p.2)/\es.map (fun e=>(e.key,e.val))=l.map Uh:=by simpa [Uh] using h
  by_cases hk:p.1=k
  ·refine .inr ⟨0,p.2,by simp [KF,hk],by simp [Instr.findNow,Instr.sameNow,h1,h2,hk], ?_,by simp [Ql,hk],by simp [Nt,hk]⟩
   rw [<-hk]
   rfl
  ·have hk2:(k == p.1)=false:=by simpa using fun e:k=p.1=>hk e.symm
   rcases GZ k v es l (i+1) h3 with ⟨a,b,c,d⟩|⟨j,x,a,b,c,d,e'⟩
   ·exact .inl ⟨by simp [KF,hk,a],by simp [Instr.findNow,Instr.sameNow,h1,hk2,b],by simp [Ql,hk,c],by simp [Nt,hk,d]⟩
   ·refine .inr ⟨j+1,x,by simp [KF,hk,a], ?_,by simpa using c,by simp [Ql,hk,d],by simp [Nt,hk,e']⟩
    rw [show i+(j+1)=i+1+j by omega]
    simp [Instr.findNow,Instr.sameNow,h1,hk2,b]
def bP (w:World) (b:Nat) (l:List (Int×Value)):Prop := ∃(es:Array MapEntry) (cl:Nat),w.heap[b]? = some (.map es cl)/\es.toList.map (fun e=>(e.key,e.val))=l.map Uh/\MapKept.Stamped es cl
theorem bP.same {w w':World} {b:Nat} {l:List (Int×Value)} (h:bP w b l) (e:w'.heap[b]? = w.heap[b]?):bP w' b l:=by
 obtain ⟨es,cl,h1,h2⟩:=h
 exact ⟨es,cl,e.trans h1,h2⟩
theorem jB {l:List (Int×Value)} {k:Int} (h:KF l k=none):∀p∈l,p.1≠k:=by
 induction l with
 | nil=>simp
 | cons q l ih =>
  intro p hp
  by_cases hq:q.1=k
  ·simp [KF,hq] at h
  ·rw [KF,if_neg hq] at h
   rcases List.mem_cons.1 hp with rfl|hp
   ·exact hq
   ·exact ih h p hp
theorem jC {es:Array MapEntry} {l:List (Int×Value)} {k:Int} (h6:es.toList.map (fun e=>(e.key,e.val))=l.map Uh) (h:KF l k=none):∀x∈es.toList,x.key ≠ .int .i64 k:=fun x hx e=>by
 have hm:(x.key,x.val)∈l.map Uh:=by rw [<-h6];exact List.mem_map.2 ⟨x,hx,rfl⟩
 obtain ⟨p,hp,hpe⟩:=List.mem_map.1 hm
 have h1:=(Prod.mk.inj hpe).1
 rw [e] at h1
 exact jB h p hp (by simpa using h1)
def Ef (b:Nat) (l:List (Int×Value)):Ai:=.dat [b] (fun w=>bP w b l) (fun _ _ hk h=>h.same (hk b (by simp)))
theorem IJ (b:Nat) (l:List (Int×Value)):(Ef b l).foot=[b]:=rfl
theorem Zb (b:Nat) (l:List (Int×Value)) (L:List Ai) (k:Nat):look (Ef b l::L) k=look L k:=rfl
theorem Zc (b:Nat) (l:List (Int×Value)) (L:List Ai) (k:Nat) (us:List Value):FK (Ef b l::L) k us=Ef b l::FK L k us:=rfl
theorem jD (b:Nat) (l:List (Int×Value)) (L:List Ai) (k:Nat):LW (Ef b l::L) k=LW L k:=rfl
theorem jE (b:Nat) (l:List (Int×Value)) (L:List Ai) (k:Nat):O7 (Ef b l::L) k=O7 L k:=rfl
theorem Wu (W:World) (M:List Nat) (b:Nat) (l:List (Int×Value)) (L:List Ai):Ee W M (Ef b l::L)=Ee W M L:=rfl
theorem Wv (b:Nat) (l:List (Int×Value)) (L:List Ai) (k:Nat):fresh (Ef b l::L) k=fresh L k:=rfl
theorem G_:type_of% (And.intro @Zb (And.intro @Zc (And.intro @jD (And.intro @jE (And.intro @Wu @Wv))))):=And.intro @Zb (And.intro @Zc (And.intro @jD (And.intro @jE (And.intro @Wu @Wv))))
def Xu (P:Program) (t:TypeId) (z:Value):Prop := ∃k e i,P.underlying t=some (.map k e)/\P.underlying k=some (.int .i64)/\P.info? e=some i/\i.zero=some z
section
variable {P:Program} {M:List Nat} {W w:World} {L:List Ai}
theorem Io {t:TypeId} {z:Value} (h:Xu P t z):∃k e i,P.underlying t=some (.map k e)/\P.underlying k=some (.int .i64)/\P.info? e=some i/\i.zero=some z:=h
theorem Ww {t:TypeId} {b:Nat} {l:List (Int×Value)} {k:Int} {z:Value} (ht:Xu P t z) (h:bP w b l) :
  (Instr.lookup t (.map (some b)) (.int .i64 k) true).run P w = .ok (.tuple #[(KF l k).getD z,.bool (KF l k).isSome]) w:=by
 obtain ⟨kt,et,i,h1,h2,h3,h4⟩:=Io ht
 obtain ⟨es,cl,h5,h6, -⟩:=h
 have hk:MapKept.IsKey (.int .i64) (.int .i64 k):=rfl
 rcases GZ k (.bool true) es.toList l 0 h6 with ⟨a,b', -, -⟩|⟨j,x,a,b', -, -, -⟩
 ·simp [Instr.lookup,run_underlying h1,MapKept.run_getObj_map h5,MapKept.run_checkKey h2 hk,MapKept.run_findKey h2 b',Result.andThen,zeroValue,typeInfo,h3,h4,a]
 ·simp [Instr.lookup,run_underlying h1,MapKept.run_getObj_map h5,MapKept.run_checkKey h2 hk,MapKept.run_findKey h2 b',Result.andThen,a]
theorem bQ {F:Fr} {d:Option Nat} {t ty:TypeId} {pos:String} {af:Array Edge} {gd:Option (Nat×Bool)} {m k:Operand} {b:Nat} {l:List (Int×Value)} {x:Int} {z:Value} {K:Bool->Value->List Ai->Prop}
  (ht:Xu P t z) (hm:ev F m = .map (some b)) (hk:ev F k = .int .i64 x) (h:∀w,St M W L w->bP w b l) (hK:K true (.tuple #[(KF l x).getD z,.bool (KF l x).isSome]) L) :
  XV P M W ⟨d,.lookup t m k true,ty,pos,af,gd⟩ F L K:=fun w hw =>
 ⟨_,_,w,by simp [execOp,hm,hk,Ww ht (h w hw)],hw,hK⟩
theorem St.Nu {b:Nat} {l:List (Int×Value)} (hw:St M W L w) (k:Nat) (hk:nth L k=some (Ef b l)):bP w b l:=hw.holds _ (AZ hk)
theorem Wx {t:TypeId} {b:Nat} {l:List (Int×Value)} {k:Int} {v z:Value} (ht:Xu P t z) (h:bP w b l) :
  ∃es' cl',(Instr.mapUpdate t (.map (some b)) (.int .i64 k) v).run P w = .ok () { w with heap:=w.heap.setIfInBounds b (.map es' cl') } ∧ es'.toList.map (fun e=>(e.key,e.val))=(Ql l k v).map Uh/\MapKept.Stamped es' cl':=by
 obtain ⟨kt,et,i,h1,h2,h3,h4⟩:=Io ht
 obtain ⟨es,cl,h5,h6,hst⟩:=h
 have hk:MapKept.IsKey (.int .i64) (.int .i64 k):=rfl
 rcases GZ k v es.toList l 0 h6 with ⟨a,b',c, -⟩|⟨j,x,a,b',c,e, -⟩
 ·refine ⟨_,_,by simp [Instr.mapUpdate,run_underlying h1,MapKept.run_getObj_map h5,MapKept.run_checkKey h2 hk,MapKept.run_findKey h2 b',MapKept.run_setObj_map _ h5,Result.andThen];exact rfl, ?_,MapKept.stamped_push hst (jC h6 a)⟩
  rw [c]
  simp [h6,Uh]
 ·rw [Nat.zero_add] at b'
  have hlj:(es.toList.map (fun e=>(e.key,e.val)))[j]? = some (Uh (k,x)):=by rw [h6,List.getElem?_map,c];rfl
  obtain ⟨en,he,hen⟩:∃en,es[j]? = some en/\(en.key,en.val)=Uh (k,x):=by
   rw [List.getElem?_map] at hlj
   obtain ⟨en,he,hen⟩:=Option.map_eq_some_iff.1 hlj
   exact ⟨en,by simpa using he,hen⟩
  have hkey:en.key = .int .i64 k:=(Prod.mk.inj hen).1
  refine ⟨_,_,by simp [Instr.mapUpdate,run_underlying h1,MapKept.run_getObj_map h5,MapKept.run_checkKey h2 hk,MapKept.run_findKey h2 b',he,hkey,MapKept.run_keyThatStays hk,MapKept.run_setObj_map _ h5,Result.andThen];exact rfl, ?_, ?_⟩
  rotate_left
  ·exact MapKept.stamped_modify hst j _ (fun _ _=>rfl) (fun e2 _ h2=>by rw [he] at h2;cases h2;exact hkey.symm)
  rw [e]
  apply List.ext_getElem?
  intro q
  have hq:(es.toList.map (fun e=>(e.key,e.val)))[q]? = (l.map Uh)[q]? := by rw [h6]
  simp only [List.getElem?_map,Array.getElem?_toList,Array.getElem?_modify,List.getElem?_set] at hq ⊢
  by_cases hjq:j=q
  ·subst hjq
   have hlt:=(List.getElem?_eq_some_iff.1 c).1
   simp [he,hlt,Uh]
  ·simp [hjq,hq]
theorem St.jF {b kk:Nat} {l l':List (Int×Value)} {es:Array MapEntry} {cl:Nat} (hw:St M W L w) (hk:nth L kk=some (Ef b l)) (he:es.toList.map (fun e=>(e.key,e.val))=l'.map Uh) (hs:MapKept.Stamped es cl):St M W (L.set kk (Ef b l')) { w with heap:=w.heap.setIfInBounds b (.map es cl) } := by
 obtain ⟨es0,cl0,h5, -⟩:=hw.Nu kk hk
 obtain ⟨q1,q2⟩:=MapKept.heap_set (o':=.map es cl) h5
 refine hw.replace hk rfl ⟨es,cl,q1,he,hs⟩ (fun c hc=>q2 c fun e=>hc (by rw [e,IJ];simp)) (by simp) rfl rfl rfl
theorem LG (kk:Nat) {F:Fr} {d:Option Nat} {t ty:TypeId} {pos:String} {af:Array Edge} {gd:Option (Nat×Bool)} {m k v:Operand} {b:Nat} {l:List (Int×Value)} {x:Int} {y z:Value} {K:Bool->Value->List Ai->Prop}
  (ht:Xu P t z) (hm:ev F m = .map (some b)) (hk:ev F k = .int .i64 x) (hv:ev F v=y) (hL:nth L kk=some (Ef b l)) (hK:K true undef (L.set kk (Ef b (Ql l x y)))) :
  XU P M W ⟨d,.mapUpdate t m k v,ty,pos,af,gd⟩ F L K:=fun w hw=>by
 obtain ⟨es,cl,hr,he,hs⟩:=Wx (k:=x) (v:=y) ht (hw.Nu kk hL)
 exact ⟨_,_,by simp [execOp,hm,hk,hv,hr],hw.jF hL he hs,hK⟩
theorem Ui (kk:Nat) {F:Fr} {d:Option Nat} {t t2 ty:TypeId} {pos:String} {af:Array Edge} {gd:Option (Nat×Bool)} {m k:Operand} {b:Nat} {l:List (Int×Value)} {x:Int} {z:Value} {K:Bool->Value->List Ai->Prop}
  (ht:Xu P t z) (hm:ev F m = .map (some b)) (hk:ev F k = .int .i64 x) (hL:nth L kk=some (Ef b l)) (hK:K true (.tuple #[]) (L.set kk (Ef b (Nt l x)))) :
  XV P M W ⟨d,.call { callee:=.builtin .delete,args := #[m,k],argTypes := #[t,t2] },ty,pos,af,gd⟩ F L K:=fun w hw=>by
 obtain ⟨kt,et,i,h1,h2,h3,h4⟩:=Io ht
 obtain ⟨es,cl,h5,h6,hst⟩:=hw.Nu kk hL
 have hkk:MapKept.IsKey (.int .i64) (.int .i64 x):=rfl
 rcases GZ x (.bool true) es.toList l 0 h6 with ⟨a,b', -,c⟩|⟨j,y,a,b',c, -,e⟩
 ·refine ⟨_,_,_,by simp [execOp,resolve,invoke,builtin,hm,hk,Builtin.delete_,run_underlying h1,MapKept.run_getObj_map h5,MapKept.run_checkKey h2 hkk,MapKept.run_findKey h2 b',MapKept.run_setObj_map _ h5,Result.andThen],hw.jF hL (by rw [h6,c]) hst,hK⟩
 ·rw [Nat.zero_add] at b'
  refine ⟨_,_,_,by simp [execOp,resolve,invoke,builtin,hm,hk,Builtin.delete_,run_underlying h1,MapKept.run_getObj_map h5,MapKept.run_checkKey h2 hkk,MapKept.run_findKey h2 b',MapKept.run_setObj_map _ h5,Result.andThen],hw.jF hL ?_ (MapKept.stamped_erase hst j),hK⟩
  have hlt:j<es.size:=by
   have h7:=congrArg List.length h6
   have:=(List.getElem?_eq_some_iff.1 c).1
   simp at h7
   omega
  rw [e]
  unfold Array.eraseIdxIfInBounds
  rw [dif_pos hlt,Array.toList_eraseIdx,II,h6,II]
theorem Uj {F:Fr} {d:Option Nat} {t ty:TypeId} {pos:String} {af:Array Edge} {gd:Option (Nat×Bool)} {K:Bool->Value->List Ai->Prop}
  (hK:∀b,W.heap.size<=b->fresh L b->K true (.map (some b)) (Ef b []::L)):XV P M W ⟨d,.makeMap t none,ty,pos,af,gd⟩ F L K:=fun w hw=>by
 refine ⟨_,_,w.alloc (.map #[] 0),by simp [execOp,Instr.makeMap], ?_,hK w.heap.size hw.Bz.size (Fv hw)⟩
 refine (hw.Xv _).add _ ⟨#[],0,(MapKept.heap_alloc w _).1,rfl,MapKept.stamped_empty 0⟩ (fun b hb=>?_) fun s hs b hb hbs=>?_
 ·obtain rfl:b=w.heap.size:=by simpa [IJ] using hb
  exact ⟨.inl hw.Bz.size,by simp⟩
 ·obtain rfl:b=w.heap.size:=by simpa [IJ] using hb
  exact absurd (hw.own s hs _ hbs).2 (Nat.lt_irrefl _)
theorem DD {F:Fr} {d:Option Nat} {t ty:TypeId} {pos:String} {af:Array Edge} {gd:Option (Nat×Bool)} {m k:Operand} {b:Nat} {l:List (Int×Value)} {x:Int} {z:Value} {K:Bool->Value->List Ai->Prop}
  (ht:Xu P t z) (hm:ev F m = .map (some b)) (hk:ev F k = .int .i64 x) (h:∀w,St M W L w->bP w b l) (hK:K true ((KF l x).getD z) L) :
  XV P M W ⟨d,.lookup t m k false,ty,pos,af,gd⟩ F L K:=fun w hw=>by
 obtain ⟨kt,et,i,h1,h2,h3,h4⟩:=Io ht
 obtain ⟨es,cl,h5,h6, -⟩:=h w hw
 have hkk:MapKept.IsKey (.int .i64) (.int .i64 x):=rfl
 refine ⟨_,_,w, ?_,hw,hK⟩
 rcases GZ x (.bool true) es.toList l 0 h6 with ⟨a,b', -, -⟩|⟨j,y,a,b', -, -, -⟩
 ·simp [execOp,hm,hk,Instr.lookup,run_underlying h1,MapKept.run_getObj_map h5,MapKept.run_checkKey h2 hkk,MapKept.run_findKey h2 b',Result.andThen,zeroValue,typeInfo,h3,h4,a]
 ·simp [execOp,hm,hk,Instr.lookup,run_underlying h1,MapKept.run_getObj_map h5,MapKept.run_checkKey h2 hkk,MapKept.run_findKey h2 b',Result.andThen,a]
theorem Zd {F:Fr} {d:Option Nat} {t ty:TypeId} {pos:String} {af:Array Edge} {gd:Option (Nat×Bool)} {m:Operand} {b:Nat} {l:List (Int×Value)} {z:Value} {K:Bool->Value->List Ai->Prop}
  (ht:Xu P t z) (hm:ev F m = .map (some b)) (h:∀w,St M W L w->bP w b l) (hK:K true (.int .i64 (l.length:Int)) L) :
  XV P M W ⟨d,.call { callee:=.builtin .len,args := #[m],argTypes := #[t] },ty,pos,af,gd⟩ F L K:=fun w hw=>by
 obtain ⟨kt,et,i,h1,h2,h3,h4⟩:=Io ht
 obtain ⟨es,cl,h5,h6, -⟩:=h w hw
 have hl:es.size=l.length:=by
  have:=congrArg List.length h6
  simpa using this
 exact ⟨_,_,w,by simp [execOp,resolve,invoke,builtin,hm,Builtin.len_,run_underlying h1,MapKept.run_getObj_map h5,Result.andThen,goInt,hl],hw,hK⟩
end
def RgH (w:World) (b r:Nat) (l:List (Int×Value)) (done:List Int) (last:Option Int):Prop :=
 ∃(es:Array MapEntry) (cl since:Nat) (seen:Array Nat) (c0:Nat),w.heap[b]? = some (.map es cl)/\es.toList.map (fun e=>(e.key,e.val))=l.map Uh/\MapKept.Stamped es cl ∧
  w.heap[r]? = some (.mapIter (some b) since seen c0)/\(∀e∈es.toList,e.born<since)/\since<=c0/\c0<=cl ∧
  (∀e∈es.toList,∀k,e.key = .int .i64 k->(seen.contains e.born=true↔k∈done)) ∧
  (∀k,last=some k->c0=cl∧∃e∈es.toList,e.key = .int .i64 k∧∃jG:Array Nat,seen=jG.push e.born)
theorem RgH.same {w w':World} {b r:Nat} {l:List (Int×Value)} {done:List Int} {last:Option Int} (h:RgH w b r l done last) (e1:w'.heap[b]? = w.heap[b]?) (e2:w'.heap[r]? = w.heap[r]?):RgH w' b r l done last:=by
 obtain ⟨es,cl,since,seen,c0,h1,h2,h3,h4,h5⟩:=h
 exact ⟨es,cl,since,seen,c0,e1.trans h1,h2,h3,e2.trans h4,h5⟩
def Rp (b r:Nat) (l:List (Int×Value)) (done:List Int) (last:Option Int):Ai:=.dat [b,r] (fun w=>RgH w b r l done last) (fun _ _ hk h=>h.same (hk b (by simp)) (hk r (by simp)))
theorem JN (b r:Nat) (l:List (Int×Value)) (done:List Int) (last:Option Int):(Rp b r l done last).foot=[b,r]:=rfl
theorem Ze (b r:Nat) (l:List (Int×Value)) (dn:List Int) (la:Option Int) (L:List Ai) (k:Nat):look (Rp b r l dn la::L) k=look L k:=rfl
theorem Zf (b r:Nat) (l:List (Int×Value)) (dn:List Int) (la:Option Int) (L:List Ai) (k:Nat) (us:List Value):FK (Rp b r l dn la::L) k us=Rp b r l dn la::FK L k us:=rfl
theorem jH (b r:Nat) (l:List (Int×Value)) (dn:List Int) (la:Option Int) (L:List Ai) (k:Nat):LW (Rp b r l dn la::L) k=LW L k:=rfl
theorem jI (b r:Nat) (l:List (Int×Value)) (dn:List Int) (la:Option Int) (L:List Ai) (k:Nat):O7 (Rp b r l dn la::L) k=O7 L k:=rfl
theorem Wy (W:World) (M:List Nat) (b r:Nat) (l:List (Int×Value)) (dn:List Int) (la:Option Int) (L:List Ai):Ee W M (Rp b r l dn la::L)=Ee W M L:=rfl
theorem Wz (b r:Nat) (l:List (Int×Value)) (dn:List Int) (la:Option Int) (L:List Ai) (k:Nat):fresh (Rp b r l dn la::L) k=fresh L k:=rfl
theorem cRg:type_of% (And.intro @Ze (And.intro @Zf (And.intro @jH (And.intro @jI (And.intro @Wy @Wz))))):=And.intro @Ze (And.intro @Zf (And.intro @jH (And.intro @jI (And.intro @Wy @Wz))))
theorem ACQ {es:Array MapEntry} {l:List (Int×Value)} (h6:es.toList.map (fun e=>(e.key,e.val))=l.map Uh) {e:MapEntry} (he:e∈es.toList):∃p∈l,e.key = .int .i64 p.1/\e.val=p.2:=by
 have hm:(e.key,e.val)∈l.map Uh:=by rw [<-h6];exact List.mem_map.2 ⟨e,he,rfl⟩
 obtain ⟨p,hp,hpe⟩:=List.mem_map.1 hm
 exact ⟨p,hp,(Prod.mk.inj hpe).1.symm,(Prod.mk.inj hpe).2.symm⟩
theorem qH {es:Array MapEntry} {l:List (Int×Value)} (h6:es.toList.map (fun e=>(e.key,e.val))=l.map Uh) {p:Int×Value} (hp:p∈l):∃e∈es.toList,e.key = .int .i64 p.1/\e.val=p.2:=by
 have hm:Uh p∈es.toList.map (fun e=>(e.key,e.val)):=by rw [h6];exact List.mem_map.2 ⟨p,hp,rfl⟩
 obtain ⟨e,he,hpe⟩:=List.mem_map.1 hm
 exact ⟨e,he,(Prod.mk.inj hpe).1,(Prod.mk.inj hpe).2⟩
theorem key_inj {es:Array MapEntry} {cl:Nat} (h:MapKept.Stamped es cl) {x y:MapEntry} (hx:x∈es.toList) (hy:y∈es.toList) (e:x.key=y.key):x=y:=by
 have hn:=h.2.2
 generalize es.toList=l at hx hy hn
 induction l with
 | nil=>cases hx
 | cons a l ih =>
  simp only [List.map_cons,List.nodup_cons] at hn
  obtain ⟨n1,n2⟩:=hn
  rcases List.mem_cons.1 hx with h1|h1
  ·rcases List.mem_cons.1 hy with h2|h2
   ·rw [h1,h2]
   ·exact absurd (List.mem_map.2 ⟨y,h2,by rw [<-e,h1]⟩) n1
  ·rcases List.mem_cons.1 hy with h2|h2
   ·exact absurd (List.mem_map.2 ⟨x,h1,by rw [e,h2]⟩) n1
   ·exact ih h1 h2 n2
section
variable {P:Program} {M:List Nat} {W w:World} {L:List Ai}
theorem bR (kk:Nat) {F:Fr} {d:Option Nat} {t ty:TypeId} {pos:String} {af:Array Edge} {gd:Option (Nat×Bool)} {m:Operand} {b:Nat} {l:List (Int×Value)} {z:Value} {K:Bool->Value->List Ai->Prop}
  (ht:Xu P t z) (hm:ev F m = .map (some b)) (hL:nth L kk=some (Ef b l)) (hK:∀r,W.heap.size<=r->fresh L r->K true (.pointer (some ⟨r,0,none⟩)) (Rp b r l [] none::L.eraseIdx kk)) :
  XV P M W ⟨d,.range t m,ty,pos,af,gd⟩ F L K:=fun w hw=>by
 obtain ⟨kt,et,i,h1,h2,h3,h4⟩:=Io ht
 obtain ⟨es,cl,h5,h6,h7⟩:=hw.Nu kk hL
 have hp:=(hw.perm (DI hL).symm).Xv (.mapIter (some b) cl #[] cl)
 have hbl:b<w.heap.size:=(Array.getElem?_eq_some_iff.1 h5).1
 have hown:=fun s hs c hc=>((hw.perm (DI hL).symm).own s hs c hc).2
 refine ⟨_,_,w.alloc (.mapIter (some b) cl #[] cl),by simp [execOp,hm,run_range_map w t kt et b es cl h1 h5,Result.andThen], ?_,hK w.heap.size hw.Bz.size (Fv hw)⟩
 obtain ⟨q1,q2,q3,q4⟩:=hp
 refine ⟨q1,fun s hs=>?_,fun s hs c hc=>?_,List.pairwise_cons.2 ⟨fun s hs c hc hcs=>?_,(List.pairwise_cons.1 q4).2⟩⟩
 ·rcases List.mem_cons.1 hs with rfl|hs
  ·exact ⟨es,cl,cl, #[],cl,(heap_alloc_old w _ b hbl).trans h5,h6,h7,heap_alloc_new w _,h7.1,Nat.le_refl _,Nat.le_refl _,fun e he k hk=>by simp,fun k hk=>by cases hk⟩
  ·exact q2 s (List.mem_cons_of_mem _ hs)
 ·rcases List.mem_cons.1 hs with rfl|hs
  ·rw [JN] at hc
   rcases List.mem_cons.1 hc with rfl|hc
   ·exact q3 _ (.head _) c (by simp [IJ])
   ·obtain rfl:c=w.heap.size:=by simpa using hc
    exact ⟨.inl hw.Bz.size,by simp⟩
  ·exact q3 s (List.mem_cons_of_mem _ hs) c hc
 ·rw [JN] at hc
  rcases List.mem_cons.1 hc with rfl|hc
  ·exact (List.pairwise_cons.1 q4).1 s hs c (by simp [IJ]) hcs
  ·obtain rfl:c=w.heap.size:=by simpa using hc
   exact absurd (hown s (List.mem_cons_of_mem _ hs) _ hcs) (Nat.lt_irrefl _)
theorem St.rgH {b r:Nat} {l:List (Int×Value)} {dn:List Int} {la:Option Int} (hw:St M W L w) (k:Nat) (hk:nth L k=some (Rp b r l dn la)):RgH w b r l dn la:=hw.holds _ (AZ hk)
theorem jJ (kk:Nat) {F:Fr} {d:Option Nat} {ty:TypeId} {pos:String} {af:Array Edge} {gd:Option (Nat×Bool)} {it:Operand} {b r:Nat} {l:List (Int×Value)} {dn:List Int} {la:Option Int} {K:Bool->Value->List Ai->Prop}
  (hit:ev F it = .pointer (some ⟨r,0,none⟩)) (hL:nth L kk=some (Rp b r l dn la)) (h0:(∀p∈l,p.1∈dn)->K true (.tuple #[.bool false]) L)
  (hm:∀p∈l,p.1∉dn->K true (.tuple #[.bool true,.int .i64 p.1,p.2]) (L.set kk (Rp b r l (p.1::dn) (some p.1)))):XV P M W ⟨d,.next it false,ty,pos,af,gd⟩ F L K:=fun w hw=>by
 obtain ⟨es,cl,since,seen,c0,hb,h6,hst,hr,hold,hsc,hcc,TI, -⟩:=hw.rgH kk hL
 rcases run_next_at (P:=P) w ty r b since c0 seen es cl hr hb hold hsc with ⟨hz,hrun⟩|⟨e,he,w1,hw1,hrun⟩
 ·refine ⟨_,_,w,by simp [execOp,hit,hrun,Result.andThen],hw,h0 fun p hp=>?_⟩
  obtain ⟨e,he,hk, -⟩:=qH h6 hp
  exact (TI e he p.1 hk).1 (all_seen es seen hz e he)
 ·obtain ⟨hem,hes⟩:=mem_left he
  obtain ⟨p,hp,hk,hv⟩:=ACQ h6 hem
  have hnd:p.1∉dn:=fun h=>by
   have:=(TI e hem p.1 hk).2 h
   rw [hes] at this
   cases this
  have Z_:St M W L w1:=by rcases hw1 with rfl|rfl;exact hw;exact hw.drew
  have hh:w1.heap=w.heap:=by rcases hw1 with rfl|rfl<;>rfl
  have hr1:w1.heap[r]? = some (.mapIter (some b) since seen c0):=by rw [hh];exact hr
  have hrb:b≠r:=fun e=>by subst e;rw [hb] at hr;cases hr
  obtain ⟨q1,q2⟩:=MapKept.heap_set (o':=.mapIter (some b) since (seen.push e.born) cl) hr1
  refine ⟨_,_,_,by simp [execOp,hit,hrun,Result.andThen];exact ⟨rfl,rfl⟩, ?_,by rw [hk,hv];exact hm p hp hnd⟩
  refine Z_.replace hL rfl ⟨es,cl,since,seen.push e.born,cl, ?_,h6,hst,q1,hold,Nat.le_trans hsc hcc,Nat.le_refl _, ?_, ?_⟩ (fun c hc=>q2 c fun e=>hc (by rw [e,JN];simp)) (by simp [Go.ChangeMaps.setBlock]) rfl rfl rfl
  ·exact (q2 b hrb).trans (by rw [hh];exact hb)
  ·intro e' he' k hk'
   rw [contains_push,Bool.or_eq_true,beq_iff_eq,List.mem_cons,TI e' he' k hk']
   constructor
   ·rintro (h|h)
    ·exact .inr h
    ·have:=born_inj hst.2.1 he' hem h
     subst this
     rw [hk] at hk'
     injection hk' with _ hk'
     exact .inl hk'.symm
   ·rintro (h|h)
    ·have:=key_inj hst he' hem (by rw [hk',hk,h])
     exact .inr (by rw [this])
    ·exact .inl h
  ·intro k hk'
   injection hk' with hk'
   exact ⟨rfl,e,hem,by rw [hk,hk'],seen,rfl⟩
theorem bT (kk:Nat) {F:Fr} {d:Option Nat} {ty:TypeId} {pos:String} {af:Array Edge} {gd:Option (Nat×Bool)} {it:Operand} {b r:Nat} {l:List (Int×Value)} {dn:List Int} {p:Int×Value} {K:Bool->Value->List Ai->Prop}
  (hit:ev F it = .pointer (some ⟨r,0,none⟩)) (hL:nth L kk=some (Rp b r l dn (some p.1))) (hp:p∈l)
  (hK:K true (.tuple #[.int .i64 p.1,p.2]) L):XV P M W ⟨d,.entry it,ty,pos,af,gd⟩ F L K:=fun w hw=>by
 obtain ⟨es,cl,since,seen,c0,hb,h6,hst,hr,hold,hsc,hcc,TI,hla⟩:=hw.rgH kk hL
 obtain ⟨rfl,e,he,hk,jG,rfl⟩:=hla p.1 rfl
 obtain ⟨e2,he2,hk2,hv2⟩:=qH h6 hp
 have:=key_inj hst he2 he (by rw [hk2,hk])
 subst this
 have hrun:=run_entry_at (P:=P) w r b since jG es c0 e2 hr hb he hst.2.1
 exact ⟨_,_,w,by simp [execOp,hit,hrun,Result.andThen];rw [hk2,hv2];exact ⟨rfl,rfl⟩,hw,hK⟩
theorem jK (kk:Nat) {F:Fr} {d:Option Nat} {t t2 ty:TypeId} {pos:String} {af:Array Edge} {gd:Option (Nat×Bool)} {m k:Operand} {b r:Nat} {l:List (Int×Value)} {dn:List Int} {la:Option Int} {x:Int} {z:Value} {K:Bool->Value->List Ai->Prop}
  (ht:Xu P t z) (hm:ev F m = .map (some b)) (hk:ev F k = .int .i64 x) (hL:nth L kk=some (Rp b r l dn la)) (hK:K true (.tuple #[]) (L.set kk (Rp b r (Nt l x) dn none))) :
  XV P M W ⟨d,.call { callee:=.builtin .delete,args := #[m,k],argTypes := #[t,t2] },ty,pos,af,gd⟩ F L K:=fun w hw=>by
 obtain ⟨kt,et,i,h1,h2,h3,h4⟩:=Io ht
 obtain ⟨es,cl,since,seen,c0,h5,h6,hst,hr,hold,hsc,hcc,TI, -⟩:=hw.rgH kk hL
 have hkk:MapKept.IsKey (.int .i64) (.int .i64 x):=rfl
 have hrb:r≠b:=fun e=>by subst e;rw [h5] at hr;cases hr
 have fin:∀es':Array MapEntry,es'.toList.map (fun e=>(e.key,e.val))=(Nt l x).map Uh->MapKept.Stamped es' cl->(∀e∈es'.toList,e∈es.toList)->St M W (L.set kk (Rp b r (Nt l x) dn none)) { w with heap:=w.heap.setIfInBounds b (.map es' cl) } := by
  intro es' e1 e2 e3
  obtain ⟨q1,q2⟩:=MapKept.heap_set (o':=.map es' cl) h5
  exact hw.replace hL rfl ⟨es',cl,since,seen,c0,q1,e1,e2,(q2 r hrb).trans hr,fun e he=>hold e (e3 e he),hsc,hcc,fun e he=>TI e (e3 e he),fun k hk=>by cases hk⟩ (fun c hc=>q2 c fun e=>hc (by rw [e,JN];simp)) (by simp) rfl rfl rfl
 rcases GZ x (.bool true) es.toList l 0 h6 with ⟨a,b', -,c⟩|⟨j,y,a,b',c, -,e⟩
 ·refine ⟨_,_,_,by simp [execOp,resolve,invoke,builtin,hm,hk,Builtin.delete_,run_underlying h1,MapKept.run_getObj_map h5,MapKept.run_checkKey h2 hkk,MapKept.run_findKey h2 b',MapKept.run_setObj_map _ h5,Result.andThen],fin es (by rw [h6,c]) hst fun _ h=>h,hK⟩
 ·rw [Nat.zero_add] at b'
  have hlt:j<es.size:=by
   have h7:=congrArg List.length h6
   have:=(List.getElem?_eq_some_iff.1 c).1
   simp at h7
   omega
  have hel:(es.eraseIdxIfInBounds j).toList=es.toList.eraseIdx j:=by
   unfold Array.eraseIdxIfInBounds
   rw [dif_pos hlt,Array.toList_eraseIdx]
  refine ⟨_,_,_,by simp [execOp,resolve,invoke,builtin,hm,hk,Builtin.delete_,run_underlying h1,MapKept.run_getObj_map h5,MapKept.run_checkKey h2 hkk,MapKept.run_findKey h2 b',MapKept.run_setObj_map _ h5,Result.andThen],fin _ ?_ (MapKept.stamped_erase hst j) ?_,hK⟩
  ·rw [e,hel,II,h6,II]
  ·rw [hel]
   exact fun e he=>List.mem_of_mem_eraseIdx he
theorem St.ACR {b r:Nat} {l:List (Int×Value)} {dn:List Int} {la:Option Int} {k:Nat} (hw:St M W L w) (hk:nth L k=some (Rp b r l dn la)):St M W (Ef b l::L.eraseIdx k) w:=by
 obtain ⟨es,cl,since,seen,c0,h5,h6,hst, -⟩:=hw.rgH k hk
 obtain ⟨q1,q2,q3,q4⟩:=hw.perm (DI hk).symm
 refine ⟨q1,fun s hs=>?_,fun s hs c hc=>?_,List.pairwise_cons.2 ⟨fun s hs c hc hcs=>?_,(List.pairwise_cons.1 q4).2⟩⟩
 ·rcases List.mem_cons.1 hs with rfl|hs
  ·exact ⟨es,cl,h5,h6,hst⟩
  ·exact q2 s (List.mem_cons_of_mem _ hs)
 ·rcases List.mem_cons.1 hs with rfl|hs
  ·rw [IJ] at hc
   obtain rfl:c=b:=by simpa using hc
   exact q3 _ (.head _) c (by simp [JN])
  ·exact q3 s (List.mem_cons_of_mem _ hs) c hc
 ·rw [IJ] at hc
  obtain rfl:c=b:=by simpa using hc
  exact (List.pairwise_cons.1 q4).1 s hs c (by simp [JN]) hcs
end
def Ac (h:Nat):Nat:=h % 16777216
def F4 (h:Nat):Nat:=h / 16777216 % 4294967296
def Kh (h:Nat):Nat:=h / 72057594037927936
theorem wraps_u64 (n:Int) (h0:0<=n) (h1:n<2 ^ 64):IntKind.u64.wrap n=n:=by rw [IntKind.wrap_u64];omega
theorem gY {y:Nat} (h:y<18446744073709551616):IntKind.u64.wrap (y:Int)=(y:Int):=by rw [IntKind.wrap_u64];omega
theorem ACS {h:Nat} (hh:h<18446744073709551616):bits .and .u64 (h:Int) 16777215=((Ac h:Nat):Int):=by
 have:=bits_mask .u64 64 (by decide) wraps_u64 24 (by decide) (h:Int) (by omega) (by omega)
 rw [show ((2:Int) ^ 24-1)=16777215 by decide,show ((2:Int) ^ 24)=16777216 by decide] at this
 rw [this]
 unfold Ac
 omega
theorem ACT {h:Nat} (hh:h<18446744073709551616):bits .and .u64 (h:Int) 4294967295=((h % 4294967296:Nat):Int):=by
 have:=bits_mask .u64 64 (by decide) wraps_u64 32 (by decide) (h:Int) (by omega) (by omega)
 rw [show ((2:Int) ^ 32-1)=4294967295 by decide,show ((2:Int) ^ 32)=4294967296 by decide] at this
 rw [this]
 omega
theorem Hq {h:Nat} (hh:h<18446744073709551616):Ac h<16777216/\F4 h<4294967296/\Kh h<256:=by
 unfold Ac F4 Kh
 omega
def pY (s g t:Int):Int×Int:=if s<0\/16777215<s\/g<1\/4294967295<g\/t<1\/255<t then (0,1) else (t*72057594037927936+g*16777216+s,0)
theorem Ki (h:Nat) (hh:h<18446744073709551616) (W:World):Calls Tryz.prog 114 #[.int .u64 (h:Int)] W fun e w'=>e = .returned (.int .i64 (Ac h:Int))/\Below W.heap.size W w':=by
 have hp:=Hq hh
 refine Ab (M:=[]) Tryz.func114 [.tmp 2] (St.nil _ _) ?_
 refine VX ?_
 refine AQ rfl fun K k0=>?_
 simp -implicitDefEqProofs (disch:=first|omega|decide) only [seval, -Int.reducePow, -Nat.reducePow,cC,pv,Ao,Az,undef,ACS hh,Ae]
 refine k0 _ _ ?_
 refine AP (Z5 fun w hw=>?_)
 exact ⟨rfl,hw.below⟩
theorem Zg (h:Nat) (hh:h<18446744073709551616) (W:World):Calls Tryz.prog 152 #[.int .u64 (h:Int)] W fun e w'=>e = .returned (.int .i64 (F4 h:Int))/\Below W.heap.size W w':=by
 have hp:=Hq hh
 have e1:(h:Int) / 2 ^ 24=((h / 16777216:Nat):Int):=by omega
 have e2:bits .and .u64 ((h / 16777216:Nat):Int) 4294967295=((F4 h:Nat):Int):=ACT (by omega)
 refine Ab (M:=[]) Tryz.func152 [.tmp 2] (St.nil _ _) ?_
 refine VX ?_
 refine AQ rfl fun K k0=>?_
 simp -implicitDefEqProofs (disch:=first|omega|decide) only [seval, -Int.reducePow, -Nat.reducePow,cC,pv,Ao,Az,undef,e1,e2,Ae,IntKind.bits]
 refine k0 _ _ ?_
 refine AP (Z5 fun w hw=>?_)
 exact ⟨rfl,hw.below⟩
theorem oI (h:Nat) (hh:h<18446744073709551616) (W:World):Calls Tryz.prog 153 #[.int .u64 (h:Int)] W fun e w'=>e = .returned (.int .i64 (Kh h:Int))/\Below W.heap.size W w':=by
 have hp:=Hq hh
 have e1:(h:Int) / 2 ^ 56=((Kh h:Nat):Int):=by unfold Kh;omega
 refine Ab (M:=[]) Tryz.func153 [.tmp 2] (St.nil _ _) ?_
 refine VX ?_
 refine AQ rfl fun K k0=>?_
 simp -implicitDefEqProofs (disch:=first|omega|decide) only [seval, -Int.reducePow, -Nat.reducePow,cC,pv,Ao,Az,undef,e1,Ae,IntKind.bits]
 refine k0 _ _ ?_
 refine AP (Z5 fun w hw=>?_)
 exact ⟨rfl,hw.below⟩
theorem CU (h:Nat) (hh:h<18446744073709551616) (W:World):Calls Tryz.prog 84 #[.int .u64 (h:Int)] W fun e w'=>e = .returned (.int .i64 (Ac h:Int))/\Below W.heap.size W w':=by
 have hp:=Hq hh
 have e1:(h:Int) % 16777216=((Ac h:Nat):Int):=by unfold Ac;omega
 refine Ab (M:=[]) Tryz.func84 [.tmp 2] (St.nil _ _) ?_
 refine VX ?_
 refine rQ (And.intro e1 @Ae) ?_
 refine AP (Z5 fun w hw=>?_)
 exact ⟨rfl,hw.below⟩
theorem QL (h:Nat) (hh:h<18446744073709551616) (W:World):Calls Tryz.prog 132 #[.int .u64 (h:Int)] W fun e w'=>e = .returned (.int .i64 (F4 h:Int))/\Below W.heap.size W w':=by
 have hp:=Hq hh
 have e0:IntKind.u64.wrap ((h:Int) / 16777216)=((h / 16777216:Nat):Int):=by rw [IntKind.wrap_u64];omega
 have e1:((h / 16777216:Nat):Int) % 4294967296=((F4 h:Nat):Int):=by unfold F4;omega
 refine Ab (M:=[]) Tryz.func132 [.tmp 2] (St.nil _ _) ?_
 refine VX ?_
 refine rQ (And.intro e0 (And.intro e1 @Ae)) ?_
 refine AP (Z5 fun w hw=>?_)
 exact ⟨rfl,hw.below⟩
theorem jL (h:Nat) (hh:h<18446744073709551616) (W:World):Calls Tryz.prog 166 #[.int .u64 (h:Int)] W fun e w'=>e = .returned (.int .i64 (Kh h:Int))/\Below W.heap.size W w':=by
 have hp:=Hq hh
 have e0:IntKind.u64.wrap ((h:Int) / 72057594037927936)=((Kh h:Nat):Int):=by rw [IntKind.wrap_u64];unfold Kh;omega
 refine Ab (M:=[]) Tryz.func166 [.tmp 2] (St.nil _ _) ?_
 refine VX ?_
 refine rQ (And.intro e0 @Ae) ?_
 refine AP (Z5 fun w hw=>?_)
 exact ⟨rfl,hw.below⟩
theorem MI (h:Nat) (hh:h<18446744073709551616) (W:World):Calls Tryz.prog 135 #[.int .u64 (h:Int)] W fun e w'=>e = .returned (.bool (decide (0<F4 h/\0<Kh h)))/\Below W.heap.size W w':=by
 refine Ab (M:=[]) Tryz.func135 [.tmp 2] (St.nil _ _) ?_
 refine VX ?_
 refine AV [0] fun G1 g1=>?_
 replace g1:=rP g1
 by_cases hg:(F4 h:Int)=0
 ·refine AQ rfl fun K k0=>?_
  have zg:=Bd.mk g1
  refine Z4 ?_
  refine Aa (fun w hw=>Zg h hh w) ?_
  try refine mI hg ?_
  refine k0 _ _ ?_
  refine AP (eX fun w hw=>?_)
  exact ⟨by rw [decide_eq_false (by omega)],hw.below⟩
 ·refine AQ rfl fun K k0=>?_
  have zg:=Bd.mk g1
  refine Z4 ?_
  refine Aa (fun w hw=>Zg h hh w) ?_
  try refine mI hg ?_
  refine Aa (fun w hw=>oI h hh w) ?_
  try refine Z4 ?_
  refine k0 _ _ ?_
  refine AP (eX fun w hw=>?_)
  refine ⟨congrArg (fun b=>Ending.returned (.bool b)) ?_,hw.below⟩
  rw [Bool.eq_iff_iff]
  simp
  omega
theorem Od (h:Nat) (hh:h<18446744073709551616) (W:World):Calls Tryz.prog 145 #[.int .u64 (h:Int)] W fun e w'=>e = .returned (.bool (decide (0<F4 h/\0<Kh h)))/\Below W.heap.size W w':=by
 refine Ab (M:=[]) Tryz.func145 [.tmp 2] (St.nil _ _) ?_
 refine VX ?_
 refine AV [0] fun G2 g2=>?_
 replace g2:=rP g2
 by_cases hg:(0:Int)<(F4 h:Int)
 ·refine AQ rfl fun K k0=>?_
  have zg:=Bd.mk g2
  refine Z4 ?_
  refine Aa (fun w hw=>QL h hh w) ?_
  try refine mI hg ?_
  refine Aa (fun w hw=>jL h hh w) ?_
  try refine Z4 ?_
  refine k0 _ _ ?_
  refine AP (eX fun w hw=>?_)
  refine ⟨congrArg (fun b=>Ending.returned (.bool b)) ?_,hw.below⟩
  rw [Bool.eq_iff_iff]
  simp
  omega
 ·refine AQ rfl fun K k0=>?_
  have zg:=Bd.mk g2
  refine Z4 ?_
  refine Aa (fun w hw=>QL h hh w) ?_
  try refine mI hg ?_
  refine k0 _ _ ?_
  refine AP (eX fun w hw=>?_)
  exact ⟨by rw [decide_eq_false (by omega)],hw.below⟩
def pkV (r:Int×Int):Value:=.tuple #[.int .u64 r.1,.int .i64 r.2]
theorem Zh:type_of% @pkV.eq_1:=@pkV.eq_1
theorem aK (s g t:Int) (W:World):Calls Tryz.prog 130 #[.int .i64 s,.int .i64 g,.int .i64 t] W fun e w'=>e = .returned (pkV (pY s g t))/\Below W.heap.size W w':=by
 refine Ab (M:=[]) Tryz.func130 [.tmp 6,.tmp 7] (St.nil _ _) ?_
 have zs:=Bd.mk Zh
 refine Aq ?_
 refine AV [0,1,2] fun G1 g1=>?_
 replace g1:=Bi g1
 refine AB fun K k0=>?_
 refine AB fun K k1=>?_
 refine A9 (fun _ _=>True) (fun F' L'=>Az F' G1 [0,1,2]/\F' 29 = .bool (decide (s<0\/16777215<s\/g<1\/4294967295<g\/t<1\/255<t))/\L'=[]) ?_ ?_
 ·refine AF rfl ?_
  have zg:=Bd.mk g1
  refine AR ?_
  repeat' ((first|refine Ck (fun hg=>?_) (fun hg=>?_)|refine Cm (fun hg=>?_) (fun hg=>?_))<;>((try simp only [Bool.not_eq_true',Bool.not_eq_false',decide_eq_true_eq,decide_eq_false_iff_not] at hg);(try simp -implicitDefEqProofs (disch:=first|omega|decide) only [seval, -Int.reducePow, -Nat.reducePow,cC,pv,Ao,Az,undef,Zh,hg,g1])))
  all_goals (repeat' refine And.intro ?_ ?_)
  all_goals (first|with_reducible rfl|(refine congrArg Value.bool ?_;rw [Bool.eq_iff_iff];(try simp only [decide_eq_true_eq,eq_self,true_and,and_true,false_and,and_false,true_or,or_true,false_or,or_false,not_true_eq_false,not_false_eq_true,true_iff,iff_true,false_iff,iff_false,Bool.false_eq_true,Bool.not_eq_true',Bool.not_eq_true,decide_eq_false_iff_not,Bool.and_eq_true,Bool.or_eq_true])<;>omega)|(refine congrArg (Value.int _) ?_;omega)|omega)
 intro G2 L' _ hF
 obtain ⟨zq,AHl,rfl⟩:=hF
 have zg:=Bd.mk g1
 have g2:=And.intro (Bg zq) AHl
 refine k1 _ _ ?_
 replace zg:=Bd.mk g2
 refine Dl (fun hc=>?_) fun hc=>?_
 ·have h:=of_decide_eq_true hc
  refine BH ?_
  refine AP (Br fun w hw=>?_)
  exact ⟨by unfold pY;rw [if_pos h];try rfl,hw.below⟩
 have h:=of_decide_eq_false hc
 have e1:∀x:Int,0<=x->x<18446744073709551616->IntKind.u64.wrap x=x:=fun x h0 h1=>by rw [IntKind.wrap_u64];omega
 refine AO (k0 _ _ ?_)
 refine FP e1 ?_
 refine AP (Br fun w hw=>?_)
 exact ⟨by unfold pY;rw [if_neg h];rfl,hw.below⟩
section
variable {α β:Type}
def BL:List (Int×α)->Int->Option α
 | [],_=>none
 | p::l,k=>if p.1=k then some p.2 else BL l k
def CS:List (Int×α)->Int->α->List (Int×α)
 | [],k,v=>[(k,v)]
 | p::l,k,v=>if p.1=k then (k,v)::l else p::CS l k v
def EI:List (Int×α)->Int->List (Int×α)
 | [],_=>[]
 | p::l,k=>if p.1=k then l else p::EI l k
def keys (l:List (Int×α)):List Int:=l.map (·.1)
theorem Hr {l:List (Int×α)} {k:Int} : BL l k=none↔k∉keys l:=by
 induction l with
 | nil=>simp [BL,keys]
 | cons p l ih =>
  unfold BL
  simp only [keys,List.map_cons,List.mem_cons,not_or]
  by_cases h:p.1=k
  ·simp [h]
  ·rw [if_neg h,ih]
   exact ⟨fun hh=>⟨fun e=>h e.symm,hh⟩,fun hh=>hh.2⟩
theorem Ec {l:List (Int×α)} {k:Int} {v:α} (h:BL l k=some v):(k,v)∈l:=by
 induction l with
 | nil=>cases h
 | cons p l ih =>
  unfold BL at h
  split at h
  ·rename_i e
   injection h with h
   subst e h
   exact .head _
  ·exact List.mem_cons_of_mem _ (ih h)
theorem LH {l:List (Int×α)} (hn:(keys l).Nodup) {p:Int×α} (h:p∈l):BL l p.1=some p.2:=by
 induction l with
 | nil=>cases h
 | cons q l ih =>
  simp only [keys,List.map_cons,List.nodup_cons] at hn
  unfold BL
  rcases List.mem_cons.1 h with rfl|h
  ·rw [if_pos rfl]
  ·rw [if_neg (fun e=>hn.1 (List.mem_map.2 ⟨p,h,e.symm⟩)),ih hn.2 h]
theorem DR (l:List (Int×α)) (k:Int) (v:α) (j:Int):BL (CS l k v) j=if j=k then some v else BL l j:=by
 induction l with
 | nil =>
  simp only [CS,BL]
  by_cases h:k=j
  ·rw [if_pos h,if_pos h.symm]
  ·rw [if_neg h,if_neg (fun e=>h e.symm)]
 | cons p l ih =>
  unfold CS
  by_cases h:p.1=k
  ·rw [if_pos h]
   simp only [BL]
   by_cases hj:k=j
   ·rw [if_pos hj,if_pos hj.symm]
   ·rw [if_neg hj,if_neg (fun e=>hj e.symm),if_neg (fun e=>hj (h.symm.trans e))]
  ·rw [if_neg h]
   simp only [BL]
   by_cases hj:p.1=j
   ·rw [if_pos hj,if_pos hj,if_neg (fun e=>h (hj.trans e))]
   ·rw [if_neg hj,if_neg hj,ih]
theorem Rq (l:List (Int×α)) (k:Int) (v:α) (j:Int):j∈keys (CS l k v)↔j=k\/j∈keys l:=by
 have h1:=Hr (l:=CS l k v) (k:=j)
 have h2:=Hr (l:=l) (k:=j)
 rw [DR] at h1
 by_cases hj:j=k
 ·rw [if_pos hj] at h1
  refine ⟨fun _=>.inl hj,fun _=>Decidable.byContradiction fun hn=>?_⟩
  have:=h1.2 hn
  cases this
 ·rw [if_neg hj] at h1
  refine ⟨fun h=>.inr (Decidable.byContradiction fun hn=>(h1.1 (h2.2 hn)) h),fun h=>h.elim (fun e=>absurd e hj) fun h=>Decidable.byContradiction fun hn=>(h2.1 (h1.2 hn)) h⟩
theorem MJ {l:List (Int×α)} (hn:(keys l).Nodup) (k:Int) (v:α):(keys (CS l k v)).Nodup:=by
 induction l with
 | nil=>simp [CS,keys]
 | cons p l ih =>
  obtain ⟨n1,n2⟩:=List.nodup_cons.1 (show (p.1::keys l).Nodup from hn)
  unfold CS
  split
  ·rename_i e
   show (k::keys l).Nodup
   rw [<-e]
   exact hn
  ·rename_i e
   show (p.1::keys (CS l k v)).Nodup
   refine List.nodup_cons.2 ⟨fun hm=>?_,ih n2⟩
   rcases (Rq l k v p.1).1 hm with h|h
   ·exact e h
   ·exact n1 h
theorem Zi {l:List (Int×α)} (hn:(keys l).Nodup) (k:Int):EI l k=l.filter fun p=>decide (p.1≠k):=by
 induction l with
 | nil=>rfl
 | cons p l ih =>
  simp only [keys,List.map_cons,List.nodup_cons] at hn
  unfold EI
  by_cases h:p.1=k
  ·rw [if_pos h,List.filter_cons,if_neg (by simp [h])]
   refine (List.filter_eq_self.2 fun q hq=>?_).symm
   refine decide_eq_true fun e=>hn.1 ?_
   rw [h,<-e]
   exact List.mem_map.2 ⟨q,hq,rfl⟩
  ·rw [if_neg h,List.filter_cons,if_pos (by simpa using h),ih hn.2]
theorem M_ {l:List (Int×α)} (hn:(keys l).Nodup) (f:Int×α->Bool):(keys (l.filter f)).Nodup:=hn.sublist (List.filter_sublist.map _)
theorem MK {l:List (Int×α)} (hn:(keys l).Nodup) (k:Int):(keys (EI l k)).Nodup:=by rw [Zi hn];exact M_ hn _
theorem Oe {l:List (Int×α)} (hn:(keys l).Nodup) (f:Int×α->Bool) (j:Int):BL (l.filter f) j=match BL l j with
  | none=>none
  | some v=>if f (j,v) then some v else none:=by
 induction l with
 | nil=>rfl
 | cons p l ih =>
  simp only [keys,List.map_cons,List.nodup_cons] at hn
  rw [List.filter_cons]
  by_cases h:p.1=j
  ·have e:(j,p.2)=p:=by rw [<-h]
   simp only [BL,if_pos h,e]
   split
   ·simp [BL,h]
   ·rw [ih hn.2]
    have:BL l j=none:=Hr.2 (h▸hn.1)
    rw [this]
  ·simp only [BL,if_neg h]
   rw [<-ih hn.2]
   split
   ·simp [BL,h]
   ·rfl
theorem JO {l:List (Int×α)} (hn:(keys l).Nodup) (k j:Int):BL (EI l k) j=if j=k then none else BL l j:=by
 rw [Zi hn,Oe hn]
 cases h:BL l j with
 | none=>simp
 | some v =>
  by_cases e:j=k
  ·simp [e]
  ·simp [e]
def Bo (f:α->β) (l:List (Int×α)):List (Int×β):=l.map fun p=>(p.1,f p.2)
theorem Ff (f:α->β) (l:List (Int×α)) (k:Int):BL (Bo f l) k=(BL l k).map f:=by
 induction l with
 | nil=>rfl
 | cons p l ih =>
  simp only [Bo,List.map_cons,BL] at ih ⊢
  split
  ·rfl
  ·exact ih
theorem TJ (f:α->β) (l:List (Int×α)) (k:Int) (v:α):CS (Bo f l) k (f v)=Bo f (CS l k v):=by
 induction l with
 | nil=>rfl
 | cons p l ih =>
  simp only [Bo,List.map_cons,CS] at ih ⊢
  split
  ·rfl
  ·rw [List.map_cons,ih]
theorem TK (f:α->β) (l:List (Int×α)) (k:Int):EI (Bo f l) k=Bo f (EI l k):=by
 induction l with
 | nil=>rfl
 | cons p l ih =>
  simp only [Bo,List.map_cons,EI] at ih ⊢
  split
  ·rfl
  ·rw [List.map_cons,ih]
theorem JP (f:α->β) (l:List (Int×α)):keys (Bo f l)=keys l:=by simp [keys,Bo]
theorem Kj (f:α->β) (l:List (Int×α)):(Bo f l).length=l.length:=by simp [Bo]
theorem YS {l:List (Int×α)} {k:Int} {v:α} (h:BL l k=some v):∃pre post,l=pre++(k,v)::post/\k∉keys pre/\(∀v',CS l k v'=pre++(k,v')::post)/\EI l k=pre++post:=by
 induction l with
 | nil=>cases h
 | cons p l ih =>
  unfold BL at h
  split at h
  ·rename_i e
   injection h with h
   subst e h
   exact ⟨[],l,rfl,by simp [keys],fun v'=>by simp [CS],by simp [EI]⟩
  ·rename_i e
   obtain ⟨pre,post,h1,h2,h3,h4⟩:=ih h
   refine ⟨p::pre,post,by rw [h1];rfl, ?_,fun v'=>?_, ?_⟩
   ·simp only [keys,List.map_cons,List.mem_cons,not_or]
    exact ⟨fun e'=>e e'.symm,h2⟩
   ·simp only [CS,if_neg e,h3 v',List.cons_append]
   ·simp only [EI,if_neg e,h4,List.cons_append]
theorem jM {l:List (Int×α)} {k:Int} (h:BL l k=none) (v:α):CS l k v=l++[(k,v)]:=by
 induction l with
 | nil=>rfl
 | cons p l ih =>
  unfold BL at h
  split at h
  ·cases h
  ·rename_i e
   rw [CS,if_neg e,ih h]
   rfl
def qI (l:List (Int×α)):Prop:=(keys l).Pairwise (· < ·)
theorem qI.nodup {l:List (Int×α)} (h:qI l):(keys l).Nodup:=List.Pairwise.imp (fun {a b} h=>by omega) h
def D9 (l:List (Int×α)):List (Int×α):=((keys l).mergeSort fun x y=>decide (x<=y)).filterMap fun k=>(BL l k).map fun v=>(k,v)
theorem Ht {l:List (Int×α)} : keys (D9 l)=(keys l).mergeSort fun x y=>decide (x<=y):=by
 have key:∀ks:List Int,(∀k∈ks,k∈keys l)->keys (ks.filterMap fun k=>(BL l k).map fun v=>(k,v))=ks:=by
  intro ks
  induction ks with
  | nil=>intro _;rfl
  | cons k ks ih =>
   intro h
   cases hk:BL l k with
   | none=>exact absurd (h k (by simp)) (Hr.1 hk)
   | some v =>
    rw [List.filterMap_cons]
    simp only [hk,Option.map_some]
    show k::keys _=_
    rw [ih fun j hj=>h j (by simp [hj])]
 exact key _ fun k hk=>(List.mem_mergeSort).1 hk
theorem F_ {l:List (Int×α)} (hn:(keys l).Nodup):qI (D9 l):=by
 unfold qI
 rw [Ht]
 have h1:((keys l).mergeSort fun x y=>decide (x<=y)).Pairwise fun x y=>decide (x<=y)=true:=List.pairwise_mergeSort (fun a b c h1 h2=>by simp at *;omega) (fun a b=>by simp;omega) _
 have h2:((keys l).mergeSort fun x y=>decide (x<=y)).Nodup:=(List.mergeSort_perm _ _).nodup_iff.2 hn
 exact List.Pairwise.imp₂ (fun a b h1 h2=>by simp at h1;omega) h1 h2
theorem NA {l:List (Int×α)} (hn:(keys l).Nodup) (k:Int):BL (D9 l) k=BL l k:=by
 cases h:BL l k with
 | none =>
  refine Hr.2 fun hm=>Hr.1 h ?_
  rw [Ht] at hm
  exact (List.mem_mergeSort).1 hm
 | some v =>
  have hm:(k,v)∈D9 l:=List.mem_filterMap.2 ⟨k,(List.mem_mergeSort).2 (List.mem_map.2 ⟨_,Ec h,rfl⟩),by rw [h];rfl⟩
  exact LH (F_ hn).nodup hm
end
structure DZ where
 pl:Int
 op:Int
 h:Nat
 ar:Nat
 er:Int
structure Ob where
 h:Nat
 ow:Int
 mo:Int
 cs:List (Int×Int)
structure HS where
 sd:List (Int×Bool)
 os:List (Int×Ob)
def JA (e:DZ):Bool:=decide (¬e.er=0\/(3<=e.op/\e.op<=7))
def alive (s:HS) (p:Int):Bool:=(BL s.sd p).getD false
def La (s:HS) (e:DZ):Bool:=decide (e.ar<=64) && !decide ((e.ar:Int)=e.pl)&&alive s e.ar
def KA (s:HS) (h:Nat):Option Ob :=
 match BL s.os (Ac h) with
 | none=>none
 | some o=>if o.h=h then some o else none
def Nv (s:HS) (p:Int):Option HS :=
 match BL s.sd p with
 | some _=>none
 | none=>some { s with sd:=CS s.sd p true }
def NB (p:Int) (os:List (Int×Ob)):List (Int×Ob):=(os.filter fun q=>decide (¬q.2.ow=p)).map fun q=>(q.1,{ q.2 with cs:=EI q.2.cs p })
def bU (p:Int) (os:List (Int×Ob)):Nat:=(os.filter fun q=>decide (q.2.ow=p)).length
def bV (s:HS) (e:DZ):Option HS:=if bU e.pl s.os=e.ar then some { sd:=CS s.sd e.pl false,os:=NB e.pl s.os } else none
def ML (s:HS) (e:DZ):Option HS :=
 if (0<F4 e.h/\0<Kh e.h)/\BL s.os (Ac e.h)=none then some { s with os:=CS s.os (Ac e.h) ⟨e.h,e.pl,0,[]⟩ } else none
def W9 (o:Ob) (q:Nat) (m:Int):Ob := { o with mo:=m,cs:=CS o.cs q ((BL o.cs q).getD 0+1) }
def Ip (s:HS) (e:DZ) (o:Ob) (m:Int):Bool:=La s e&&decide (o.ow=e.pl)&&(decide (o.cs=[])||(!decide (m=2) && !decide (o.mo=2)))
def Kk (s:HS) (e:DZ) (o:Ob) (m:Int):Option HS :=
 if Ip s e o m=true then some { s with os:=CS s.os (Ac e.h) (W9 o e.ar m) } else none
def Oy (o:Ob) (p:Int):Ob := { o with cs:=if (BL o.cs p).getD 0-1=0 then EI o.cs p else CS o.cs p ((BL o.cs p).getD 0-1) }
def YT (s:HS) (e:DZ) (o:Ob):Option HS :=
 if (BL o.cs e.pl).getD 0=0 then none else some { s with os:=CS s.os (Ac e.h) (Oy o e.pl) }
def JQ (e:DZ) (o:Ob):Bool:=decide (o.ow=e.pl)&&decide (o.cs=[])
def Uk (s:HS) (e:DZ):Option HS :=
 match KA s e.h with
 | none=>none
 | some o =>
  if e.op=2 then (if JQ e o=true then some { s with os:=EI s.os (Ac e.h) } else none)
  else if e.op=8 then (if (JQ e o&&La s e)=true then some { s with os:=CS s.os (Ac e.h) { o with ow:=e.ar } } else none)
  else if e.op=9 then Kk s e o 1
  else if e.op=10 then Kk s e o 2
  else YT s e o
def Eg (s:HS) (e:DZ):Option HS :=
 if JA e=true then some s
 else if e.pl<1\/64<e.pl then none
 else if e.op=32 then Nv s e.pl
 else if alive s e.pl=false then none
 else if e.op=33 then bV s e
 else if e.op=1 then ML s e
 else if e.op=2\/e.op=8\/e.op=9\/e.op=10\/e.op=11 then Uk s e
 else none
def Fp:HS->List DZ->Option HS
 | s,[]=>some s
 | s,e::l=>match Eg s e with
  | none=>none
  | some s'=>Fp s' l
def DZ.ok (e:DZ):Prop:=e.h<18446744073709551616/\e.ar<18446744073709551616
structure Rs (k:Nat) (q:Int×Ob):Prop where
 slot:q.1=Ac q.2.h
 h64:q.2.h<18446744073709551616
 ow:1<=q.2.ow/\q.2.ow<=64
 nd:(keys q.2.cs).Nodup
 cnt:∀c∈q.2.cs,(1<=c.1/\c.1<=64)/\1<=c.2/\c.2<=k
 mode:q.2.cs≠[]->q.2.mo=1\/q.2.mo=2
 cl:q.2.cs.length<=k
structure Ed (k:Nat) (s:HS):Prop where
 nd:(keys s.os).Nodup
 len:s.os.length<=k
 obj:∀q∈s.os,Rs k q
 jN:∀p,alive s p=true->1<=p/\p<=64
theorem Rs.up {k:Nat} {q:Int×Ob} (h:Rs k q):Rs (k+1) q:=⟨h.slot,h.h64,h.ow,h.nd,fun c hc=>by have:=h.cnt c hc;omega,h.mode,Nat.le_succ_of_le h.cl⟩
theorem Ed.up {k:Nat} {s:HS} (h:Ed k s):Ed (k+1) s:=⟨h.nd,by have:=h.len;omega,fun q hq=>(h.obj q hq).up,h.jN⟩
theorem Ed.get {k:Nat} {s:HS} (h:Ed k s) {j:Int} {o:Ob} (hg:BL s.os j=some o):Rs k (j,o):=h.obj _ (Ec hg)
theorem Qm {α:Type} {l:List (Int×α)} {k:Int} {v:α} {q:Int×α} (h:q∈CS l k v):q=(k,v)\/q∈l:=by
 induction l with
 | nil=>exact .inl (by simpa [CS] using h)
 | cons p l ih =>
  unfold CS at h
  split at h
  ·rcases List.mem_cons.1 h with h|h
   ·exact .inl h
   ·exact .inr (List.mem_cons_of_mem _ h)
  ·rcases List.mem_cons.1 h with h|h
   ·exact .inr (h ▸ .head _)
   ·exact (ih h).imp id (List.mem_cons_of_mem _)
theorem Qn {α:Type} (l:List (Int×α)) (k:Int) (v:α):(CS l k v).length<=l.length+1:=by
 induction l with
 | nil=>simp [CS]
 | cons p l ih =>
  unfold CS
  split
  ·simp
  ·simp only [List.length_cons];omega
theorem Qo {α:Type} (l:List (Int×α)) (k:Int):(EI l k).length<=l.length:=by
 induction l with
 | nil=>simp [EI]
 | cons p l ih =>
  unfold EI
  split
  ·simp
  ·simp only [List.length_cons];omega
theorem Qp {α:Type} {l:List (Int×α)} {k:Int} {q:Int×α} (h:q∈EI l k):q∈l:=by
 induction l with
 | nil=>cases h
 | cons p l ih =>
  unfold EI at h
  split at h
  ·exact List.mem_cons_of_mem _ h
  ·rcases List.mem_cons.1 h with h|h
   ·exact h ▸ .head _
   ·exact List.mem_cons_of_mem _ (ih h)
theorem Ed.set {k:Nat} {s:HS} (h:Ed k s) {j:Int} {o:Ob} (ho:Rs (k+1) (j,o)):Ed (k+1) { s with os:=CS s.os j o } :=
 ⟨MJ h.nd _ _,by have:=Qn s.os j o;have:=h.len;show (CS s.os j o).length<=_;omega,fun q hq=>by
  rcases Qm hq with rfl|hq
  ·exact ho
  ·exact (h.obj q hq).up,h.jN⟩
theorem W_ {k:Nat} {s:HS} {e:DZ} (h:Ed k s) (ho:La s e=true):(1:Int)<=e.ar/\(e.ar:Int)<=64:=by
 unfold La at ho
 simp only [Bool.and_eq_true] at ho
 exact h.jN _ ho.2
theorem Nw {s:HS} {h:Nat} {o:Ob} (hf:KA s h=some o):BL s.os (Ac h)=some o/\o.h=h:=by
 unfold KA at hf
 split at hf
 ·cases hf
 ·rename_i o' ho
  split at hf
  ·rename_i e
   injection hf with hf
   subst hf
   exact ⟨ho,e⟩
  ·cases hf
theorem Ed.step {k:Nat} {s s':HS} {e:DZ} (h:Ed k s) (he:e.ok) (hs:Eg s e=some s'):Ed (k+1) s':=by
 unfold Eg at hs
 split at hs
 ·injection hs with hs;subst hs;exact h.up
 split at hs
 ·cases hs
 rename_i hpl
 have hpl:1<=e.pl/\e.pl<=64:=by omega
 split at hs
 ·unfold Nv at hs
  split at hs
  ·cases hs
  ·injection hs with hs
   subst hs
   refine ⟨h.nd,by have:=h.len;show s.os.length<=_;omega,fun q hq=>(h.obj q hq).up,fun p hp=>?_⟩
   unfold alive at hp
   rw [DR] at hp
   split at hp
   ·rename_i e'
    omega
   ·exact h.jN p hp
 split at hs
 ·cases hs
 split at hs
 ·unfold bV at hs
  split at hs
  ·injection hs with hs
   subst hs
   have hk:keys (NB e.pl s.os)=keys (s.os.filter fun q=>decide (¬q.2.ow=e.pl)):=by simp [NB,keys]
   refine ⟨?_, ?_,fun q hq=>?_,fun p hp=>?_⟩
   ·show (keys (NB e.pl s.os)).Nodup
    rw [hk]
    exact M_ h.nd _
   ·show (NB e.pl s.os).length<=_
    have:=List.length_filter_le (fun q=>decide (¬q.2.ow=e.pl)) s.os
    have:=h.len
    simp only [NB,List.length_map]
    omega
   ·obtain ⟨q0,hq0,rfl⟩:=List.mem_map.1 (show q∈NB e.pl s.os from hq)
    have ho:=(h.obj q0 (List.mem_filter.1 hq0).1).up
    refine ⟨ho.slot,ho.h64,ho.ow,MK ho.nd _,fun c hc=>ho.cnt c (Qp hc),fun hne=>ho.mode fun e0=>hne ?_,Nat.le_trans (Qo _ _) ho.cl⟩
    show EI q0.2.cs e.pl=[]
    rw [e0]
    rfl
   ·unfold alive at hp
    rw [DR] at hp
    split at hp
    ·cases hp
    ·exact h.jN p hp
  ·cases hs
 split at hs
 ·unfold ML at hs
  split at hs
  ·injection hs with hs
   subst hs
   exact h.set ⟨rfl,he.1,hpl,by simp [keys],fun c hc=>(by cases hc),fun hh=>absurd rfl hh,Nat.zero_le _⟩
  ·cases hs
 split at hs
 ·unfold Uk at hs
  split at hs
  ·cases hs
  rename_i o hf
  obtain ⟨hg,hh⟩:=Nw hf
  have ho:=(h.get hg).up
  split at hs
  ·split at hs
   ·injection hs with hs
    subst hs
    refine ⟨MK h.nd _, ?_,fun q hq=>(h.obj q (Qp hq)).up,h.jN⟩
    have:=Qo s.os (Ac e.h)
    have:=h.len
    show (EI s.os (Ac e.h)).length<=_
    omega
   ·cases hs
  split at hs
  ·split at hs
   ·rename_i hc
    injection hs with hs
    subst hs
    simp only [Bool.and_eq_true] at hc
    have hr:=W_ h hc.2
    exact h.set ⟨ho.slot,ho.h64,hr,ho.nd,ho.cnt,ho.mode,ho.cl⟩
   ·cases hs
  have UU:∀m:Int,(m=1\/m=2)->Kk s e o m=some s'→Ed (k+1) s':=by
   intro m hm hs
   unfold Kk at hs
   split at hs
   ·rename_i hc
    injection hs with hs
    subst hs
    have hb:La s e=true:=by
     unfold Ip at hc
     simp only [Bool.and_eq_true] at hc
     exact hc.1.1
    have hr:=W_ h hb
    refine h.set ⟨ho.slot,ho.h64,ho.ow,MJ ho.nd _ _,fun c hc=>?_,fun _=>hm,(by have h1:=Qn o.cs e.ar ((BL o.cs e.ar).getD 0+1);have h2:=(h.get hg).cl;show (CS o.cs e.ar ((BL o.cs e.ar).getD 0+1)).length<=_;simp only at h2;omega)⟩
    rcases Qm hc with rfl|hc
    ·refine ⟨hr, ?_⟩
     show 1<=(BL o.cs e.ar).getD 0+1/\(BL o.cs e.ar).getD 0+1<=_
     cases hg2:BL o.cs e.ar with
     | none=>simp;omega
     | some c =>
      have:=(h.get hg).cnt _ (Ec hg2)
      simp only [Option.getD_some]
      simp only at this
      omega
    ·exact ho.cnt c hc
   ·cases hs
  split at hs
  ·exact UU 1 (.inl rfl) hs
  split at hs
  ·exact UU 2 (.inr rfl) hs
  unfold YT at hs
  split at hs
  ·cases hs
  rename_i hc0
  injection hs with hs
  subst hs
  have hcs:∀c∈(Oy o e.pl).cs,c∈o.cs\/c=(e.pl,(BL o.cs e.pl).getD 0-1)∧¬(BL o.cs e.pl).getD 0-1=0:=fun c hc=>by
   simp only [Oy] at hc
   split at hc
   ·exact .inl (Qp hc)
   ·rename_i h1
    rcases Qm hc with h2|h2
    ·exact .inr ⟨h2,h1⟩
    ·exact .inl h2
  refine h.set ⟨ho.slot,ho.h64,ho.ow, ?_,fun c hc=>?_,fun hne=>ho.mode fun e0=>?_, ?_⟩
  ·simp only [Oy]
   split
   ·exact MK ho.nd _
   ·exact MJ ho.nd _ _
  ·rcases hcs c hc with hc|⟨rfl,h1⟩
   ·exact ho.cnt c hc
   ·refine ⟨hpl, ?_⟩
    show 1<=(BL o.cs e.pl).getD 0-1/\(BL o.cs e.pl).getD 0-1<=_
    cases hg2:BL o.cs e.pl with
    | none=>rw [hg2] at hc0;exact absurd rfl hc0
    | some c =>
     have:=(h.get hg).cnt _ (Ec hg2)
     rw [hg2] at h1
     simp only [Option.getD_some] at h1 ⊢
     simp only at this
     omega
  ·rw [e0] at hc0
   exact hc0 rfl
  ·have h2:=(h.get hg).cl
   simp only at h2
   simp only [Oy]
   split
   ·have:=Qo o.cs e.pl
    omega
   ·have:=Qn o.cs e.pl ((BL o.cs e.pl).getD 0-1)
    omega
 ·cases hs
section
variable {P:Program} {M:List Nat} {W w:World} {L:List Ai}
theorem GX {ι:Sort _} {g:FuncId} {args:Array Value} {K:Bool->Value->List Ai->Prop} (A G:List Ai) (f:ι->Value) (Lf:ι->List Ai) (φ:ι->Prop)
  (h:∀w,St M W (A++G) w->St (Ak G) w G w->Calls P g args w (fun e w' => ∃i,e = .returned (f i)/\φ i/\St (Ak G) w (Lf i) w'))
  (hK:∀i,φ i->K true (f i) (Lf i++A)):Ia P M W g args (A++G) K:=fun w hw=>by
 have hp:St M W (G++A) w:=hw.perm List.perm_append_comm
 have h1:St M W G w:=hp.sub (List.sublist_append_left _ _)
 have h2:St M W (A) w:=hp.sub (List.sublist_append_right _ _)
 have hap:=List.pairwise_append.1 hp.apart
 refine (h w hw h1.self).mono ?_
 rintro e w' ⟨i,rfl,hi,hs⟩
 have hout:∀b,b<w.heap.size->b∉Ak G->w'.heap[b]? = w.heap[b]? := fun b hb hn=>hs.Bz.block b hb hn
 have qJ:∀b,b∈Ak G->(W.heap.size<=b\/b∈M)/\b<w.heap.size:=fun b hb=>by
  obtain ⟨r,hr,hbr⟩:=List.mem_flatMap.1 hb
  exact h1.own r hr b hbr
 have hj:∀r∈A,∀b∈r.foot,b∉Ak G:=fun r hr b hb hn=>by
  obtain ⟨s,hs',hbs⟩:=List.mem_flatMap.1 hn
  exact hap.2.2 s hs' r hr b hbs hb
 have eQ:Gf M W w':=⟨hs.Bz.os.trans hw.Bz.os,hs.Bz.tape.trans hw.Bz.tape,hs.Bz.output.trans hw.Bz.output,Nat.le_trans hw.Bz.size hs.Bz.size,fun k hk hm=>by
  rw [hout k (Nat.lt_of_lt_of_le hk hw.Bz.size) (fun hn=>by
   rcases (qJ k hn).1 with h3|h3
   ·omega
   ·exact hm h3)]
  exact hw.Bz.block k hk hm⟩
 refine ⟨_,_,rfl,⟨eQ,fun r hr=>?_,fun r hr b hb=>?_, ?_⟩,hK i hi⟩
 ·rcases List.mem_append.1 hr with hr|hr
  ·exact hs.holds r hr
  ·exact r.keep (h2.holds r hr) fun b hb=>hout b (h2.own r hr b hb).2 (hj r hr b hb)
 ·rcases List.mem_append.1 hr with hr|hr
  ·have:=hs.own r hr b hb
   refine ⟨?_,this.2⟩
   rcases this.1 with h3|h3
   ·exact .inl (Nat.le_trans hw.Bz.size h3)
   ·exact (qJ b h3).1
  ·exact ⟨(h2.own r hr b hb).1,Nat.lt_of_lt_of_le (h2.own r hr b hb).2 hs.Bz.size⟩
 ·refine List.pairwise_append.2 ⟨hs.apart,hap.2.1,fun r hr s hs' b hb hbs=>?_⟩
  rcases (hs.own r hr b hb).1 with h3|h3
  ·have:=(h2.own s hs' b hbs).2
   omega
  ·exact hj s hs' b hbs h3
theorem Af {ι:Sort _} {g:FuncId} {args:Array Value} {K:Bool->Value->List Ai->Prop} (A G:List Ai) (hp:(A++G).Perm L) (f:ι->Value) (Lf:ι->List Ai) (φ:ι->Prop)
  (h:∀w,St (Ak G) w G w->Calls P g args w (fun e w' => ∃i,e = .returned (f i)/\φ i/\St (Ak G) w (Lf i) w'))
  (hK:∀i,φ i->K true (f i) (Lf i++A)):Ia P M W g args L K:=fun w hw=>GX A G f Lf φ (fun w _ h2=>h w h2) hK w (hw.perm hp)
theorem Bq {ι:Sort _} {g:FuncId} {args:Array Value} {K:Bool->Value->List Ai->Prop} (G:List Ai) (hs:G.Sublist L) (f:ι->Value) (φ:ι->Prop)
  (h:∀w,St (Ak G) w G w->Calls P g args w (fun e w' => ∃i,e = .returned (f i)/\φ i/\St (Ak G) w G w'))
  (hK:∀i,φ i->K true (f i) L):Ia P M W g args L K:=fun w hw=>by
 obtain ⟨A,hA⟩:=hs.exists_perm_append
 refine (GX (K:=fun t v L'=>L'=G++A/\K t v L) A G f (fun _=>G) φ (fun w _ h2=>h w h2) (fun i hi=>⟨rfl,hK i hi⟩) w (hw.perm (List.perm_append_comm.trans hA.symm))).mono ?_
 rintro e w' ⟨v,L',he,hst,rfl,hk⟩
 exact ⟨v,L,he,hst.perm hA,hk⟩
theorem Cq {n:Nat} {c:Code} {F:Fr} {Q:Exit->Fr->List Ai->Prop} (L':List Ai) (h:∀w,St M W L w->St M W L' w) (hc:CV P M W n c F L' Q):CV P M W n c F L Q:=fun a w ha hw=>hc a w ha (h w hw)
end
theorem jO:∀(l:List (Int×Value)) (k:Int),KF l k=BL l k
 | [],k=>rfl
 | p::l,k=>by unfold KF BL;rw [jO l k]
theorem jP:∀(l:List (Int×Value)) (k:Int) (v:Value),Ql l k v=CS l k v
 | [],k,v=>rfl
 | p::l,k,v=>by unfold Ql CS;rw [jP l k v]
theorem jQ:∀(l:List (Int×Value)) (k:Int),Nt l k=EI l k
 | [],k=>rfl
 | p::l,k=>by unfold Nt EI;rw [jQ l k]
section
variable {α:Type}
theorem Cu (f:α->Value) (l:List (Int×α)) (k:Int):KF (Bo f l) k=(BL l k).map f:=by rw [jO,Ff]
theorem Hu (f:α->Value) (l:List (Int×α)) (k:Int) (v:α):Ql (Bo f l) k (f v)=Bo f (CS l k v):=by rw [jP,TJ]
theorem LJ (f:α->Value) (l:List (Int×α)) (k:Int):Nt (Bo f l) k=Bo f (EI l k):=by rw [jQ,TK]
end
def mvC (P:Program) (t:TypeId):Option Value :=
 match P.underlying t with
 | some (.map k e)=>(match P.underlying k with
  | some (.int .i64)=>(P.info? e).bind fun i=>i.zero
  | _=>none)
 | _=>none
theorem Ul {P:Program} {t:TypeId} {z:Value} (h:mvC P t=some z):Xu P t z:=by
 unfold mvC at h
 split at h
 ·rename_i k e hu
  split at h
  ·rename_i hk
   obtain ⟨i,hi,hz⟩:=Option.bind_eq_some_iff.1 h
   exact ⟨k,e,i,hu,hk,hi,hz⟩
  ·cases h
 ·cases h
theorem jR:Xu Tryz.prog 144 (.bool false):=Ul (by kernel_rfl)
theorem Um:Xu Tryz.prog 145 (.pointer none):=Ul (by kernel_rfl)
theorem Ny:Xu Tryz.prog 206 (.int .i64 0):=Ul (by kernel_rfl)
def Xo (e:DZ):List Value:=[.int .i64 e.pl,.int .i64 e.op,.int .u64 (e.h:Int),.int .u64 (e.ar:Int),.int .i64 e.er]
def NZ (e:DZ):Value:=.agg #[.int .i64 e.pl,.int .i64 e.op,.int .u64 (e.h:Int),.int .u64 (e.ar:Int),.int .i64 e.er]
def Dc (b:Nat) (e:DZ):Ai:=.blk b 68 [.int .i64 e.pl,.int .i64 e.op,.int .u64 (e.h:Int),.int .u64 (e.ar:Int),.int .i64 e.er]
structure Fs where
 b:Nat
 bc:Nat
 o:Ob
def Iq (x:Fs):List Ai:=[.blk x.b 208 [.int .u64 (x.o.h:Int),.int .i64 x.o.ow,.int .i64 x.o.mo,.map (some x.bc)],Ef x.bc (Bo (Value.int .i64) x.o.cs)]
def Ei (os:List (Int×Fs)):List Ai:=os.flatMap fun p=>Iq p.2
def IP (x:Fs):Value:=.pointer (some ⟨x.b,0,none⟩)
structure IK where
 bS:Nat
 b1:Nat
 b2:Nat
 sd:List (Int×Bool)
 os:List (Int×Fs)
def hsL (x:IK):List Ai:=.blk x.bS 147 [.map (some x.b1),.map (some x.b2)]::Ef x.b1 (Bo Value.bool x.sd)::Ef x.b2 (Bo IP x.os)::Ei x.os
def IK.pl (x:IK):HS:=⟨x.sd,Bo Fs.o x.os⟩
structure l7 (bS:Nat) (o:Option HS) (i:Bool×IK):Prop where
 res:i.1=o.isSome
 st:∀s,o=some s->i.2.pl=s
 bS:i.2.bS=bS
theorem l7.no {bS:Nat} {o:Option HS} {y:IK} (h:o=none) (hb:y.bS=bS):l7 bS o (false,y):=⟨by rw [h];rfl,fun s hs=>(by rw [h] at hs;cases hs),hb⟩
theorem l7.yes {bS:Nat} {o:Option HS} {s:HS} {y:IK} (h:o=some s) (hy:y.pl=s) (hb:y.bS=bS):l7 bS o (true,y):=⟨by rw [h];rfl,fun s' hs=>(by rw [h] at hs;cases hs;exact hy),hb⟩
def MM (i:Bool×IK):Value:=.bool i.1
def Rt (i:Bool×IK):List Ai:=hsL i.2
theorem XC (a b:List (Int×Fs)):Ei (a++b)=Ei a++Ei b:=by simp [Ei]
theorem bW (p:Int×Fs) (a:List (Int×Fs)):Ei (p::a)=Iq p.2++Ei a:=rfl
theorem LK (pre post:List (Int×Fs)) (k:Int) (o:Fs):(Iq o++Ei (pre++post)).Perm (Ei (pre++(k,o)::post)):=by
 rw [XC,XC,bW]
 exact (List.perm_append_comm_assoc _ _ _)
def uE (bS b1 b2:Nat) (sd:List (Int×Bool)) (os:List (Int×Fs)) (o:Fs) (rest:List (Int×Fs)):List Ai :=
 .blk o.b 208 [.int .u64 (o.o.h:Int),.int .i64 o.o.ow,.int .i64 o.o.mo,.map (some o.bc)]::Ef o.bc (Bo (Value.int .i64) o.o.cs) :: .blk bS 147 [.map (some b1),.map (some b2)]::Ef b1 (Bo Value.bool sd)::Ef b2 (Bo IP os)::Ei rest
theorem JR {bS b1 b2:Nat} {sd:List (Int×Bool)} {os pre post:List (Int×Fs)} {k:Int} {o:Fs} (e:os=pre++(k,o)::post):(uE bS b1 b2 sd os o (pre++post)).Perm (hsL ⟨bS,b1,b2,sd,os⟩):=by
 have h1:(Iq o++((.blk bS 147 [.map (some b1),.map (some b2)]::Ef b1 (Bo Value.bool sd)::Ef b2 (Bo IP os)::[])++Ei (pre++post))).Perm ((.blk bS 147 [.map (some b1),.map (some b2)]::Ef b1 (Bo Value.bool sd)::Ef b2 (Bo IP os)::[])++(Iq o++Ei (pre++post))):=List.perm_append_comm_assoc _ _ _
 refine List.Perm.trans h1 ?_
 have h2:=(LK pre post k o)
 rw [<-e] at h2
 exact List.Perm.append_left _ h2
theorem St.ACU {M:List Nat} {W w:World} {o:Fs} {bS:Nat} {cs ds:List Value} {t t':TypeId} {r:Ai} {B:List Ai} (h:St M W (.blk o.b t cs::r :: .blk bS t' ds::B) w):o.b≠bS:=fun e=>by
 have:=(List.pairwise_cons.1 h.apart).1 (.blk bS t' ds) (by simp) o.b (by simp [Ai.foot])
 exact this (by simp [Ai.foot,e])
theorem Ce (a b c:Ai) (T:List Ai):JC T (a::b::c::T)=True:=by simp only [eq_iff_iff,iff_true];intro r hr;simp [hr]
theorem Cf (a b c d:Ai) (T:List Ai):JC T (a::b::c::d::T)=True:=by simp only [eq_iff_iff,iff_true];intro r hr;simp [hr]
theorem Cg (a b c d e:Ai) (T:List Ai):JC T (a::b::c::d::e::T)=True:=by simp only [eq_iff_iff,iff_true];intro r hr;simp [hr]
theorem Ch (a b c d e f:Ai) (T:List Ai):JC T (a::b::c::d::e::f::T)=True:=by simp only [eq_iff_iff,iff_true];intro r hr;simp [hr]
theorem Ci (a b c d e f g:Ai) (T:List Ai):JC T (a::b::c::d::e::f::g::T)=True:=by simp only [eq_iff_iff,iff_true];intro r hr;simp [hr]
theorem XD:type_of% (And.intro (And.intro @Dc.eq_1 @Ae) (And.intro @Nat.mul_one @G_)):=(And.intro (And.intro @Dc.eq_1 @Ae) (And.intro @Nat.mul_one @G_))
theorem YU (x:IK) (p:Int) (W:World) (hst:St (Ak (hsL x)) W (hsL x) W) :
  Calls Tryz.prog 106 #[.pointer (some ⟨x.bS,0,none⟩),.int .i64 p] W
  fun en w' => ∃i:Bool×IK,en = .returned (MM i)/\l7 x.bS (Nv x.pl p) i/\St (Ak (hsL x)) W (Rt i) w':=by
 obtain ⟨M,hM⟩:∃M,Ak (hsL x)=M:=⟨_,rfl⟩
 rw [hM] at hst ⊢
 obtain ⟨bS,b1,b2,sd,os⟩:=x
 unfold hsL at hst
 dsimp only at hst ⊢
 clear hM
 refine Ab (M:=M) Tryz.func106 [.tmp 4]  hst ?_
 have zs:=Bd.mk XD
 refine Aq ?_
 refine AB fun K k0=>?_
 refine AQ rfl fun K k1=>?_
 refine Ah ?_
 refine bQ jR rfl rfl (fun w hw=>hw.Nu 1 rfl) ?_
 rw [Cu]
 refine Ah ?_
 refine k1 _ _ ?_
 cases hg:BL sd p with
 | some b =>
  refine LX (And.intro @Option.map_some.{0,0} @Option.isSome_some.{0}) ?_
  refine AL ?_
  refine Ah ?_
  refine Aq ?_
  refine AP (Cc fun w hw=>?_)
  exact ⟨(false,⟨bS,b1,b2,sd,os⟩),rfl,.no (by unfold Nv IK.pl;rw [hg]) rfl,hw⟩
 | none =>
  refine LX (And.intro @Option.map_none.{0,0} @Option.isSome_none.{0}) ?_
  refine AL ?_
  refine Ah ?_
  refine AO (k0 _ _ ?_)
  refine AQ rfl fun K k0=>?_
  refine Ah ?_
  refine LG 1 (y:=.bool true) jR rfl rfl rfl rfl ?_
  rw [Hu]
  refine Ah ?_
  refine k0 _ _ ?_
  refine Aq ?_
  refine AP (Cc fun w hw=>?_)
  exact ⟨(true,⟨bS,b1,b2,CS sd p true,os⟩),rfl,.yes (s:=⟨CS sd p true,Bo Fs.o os⟩) (by unfold Nv IK.pl;rw [hg]) rfl rfl,hw⟩
theorem bX (e:DZ) (W:World):Calls Tryz.prog 105 #[NZ e] W fun en w'=>en = .returned (.bool (JA e))/\Below W.heap.size W w':=by
 refine Ab (M:=[]) Tryz.func105 [.tmp 2] (St.nil _ _) ?_
 refine AQ rfl fun K k0=>?_
 simp -implicitDefEqProofs (disch:=first|omega|decide) only [seval, -Int.reducePow, -Nat.reducePow,cC,pv,Ao,Az,undef,XD,NZ]
 intro b1 hb1
 refine k0 _ _ ?_
 refine AB fun K k0=>?_
 refine A9 (fun _ _=>True) (fun F' L'=>F' 2 = .bool (JA e)/\L'=[Dc b1 e]) ?_ ?_
 ·refine AF rfl ?_
  have zs:=Bd.mk XD
  refine Ah ?_
  repeat' ((first|refine Ck (fun hg=>?_) (fun hg=>?_)|refine Cm (fun hg=>?_) (fun hg=>?_))<;>((try simp only [Bool.not_eq_true',Bool.not_eq_false',decide_eq_true_eq,decide_eq_false_iff_not] at hg);(try simp -implicitDefEqProofs (disch:=first|omega|decide) only [seval, -Int.reducePow, -Nat.reducePow,cC,pv,Ao,Az,undef,XD,hg])))
  all_goals (repeat' refine And.intro ?_ ?_)
  all_goals (first|with_reducible rfl|(refine congrArg Value.bool ?_;rw [Bool.eq_iff_iff];(try simp only [JA,decide_eq_true_eq,eq_self,true_and,and_true,false_and,and_false,true_or,or_true,false_or,or_false,not_true_eq_false,not_false_eq_true,true_iff,iff_true,false_iff,iff_false,Bool.false_eq_true,Bool.not_eq_true',Bool.not_eq_true,decide_eq_false_iff_not,Bool.and_eq_true,Bool.or_eq_true])<;>omega)|(refine congrArg (Value.int _) ?_;omega)|omega)
 intro G1 L' _ hF
 obtain ⟨rf,rfl⟩:=hF
 have g1:=rf
 refine k0 _ _ ?_
 have zs:=Bd.mk XD
 have zg:=Bd.mk g1
 refine AP (Br fun w hw=>?_)
 exact ⟨rfl,hw.below⟩
def TL (x:IK) (h:Nat):Value:=match BL x.os (Ac h) with
 | none=>.pointer none
 | some o=>if o.o.h=h then IP o else .pointer none
theorem Zj:type_of% (And.intro (And.intro (And.intro @Dc.eq_1 @IP.eq_1) (And.intro @Ae (And.intro @Nat.mul_one @G_))) (And.intro (And.intro @Ce @Cf) (And.intro @Cg (And.intro @Ch @Ci)))):=(And.intro (And.intro (And.intro @Dc.eq_1 @IP.eq_1) (And.intro @Ae (And.intro @Nat.mul_one @G_))) (And.intro (And.intro @Ce @Cf) (And.intro @Cg (And.intro @Ch @Ci))))
theorem bZ (x:IK) (h:Nat) (hh:h<18446744073709551616) (W:World) (hst:St (Ak (hsL x)) W (hsL x) W) :
  Calls Tryz.prog 136 #[.pointer (some ⟨x.bS,0,none⟩),.int .u64 (h:Int)] W
  fun en w' => ∃i:Unit,en = .returned (TL x h)/\True/\St (Ak (hsL x)) W (hsL x) w':=by
 obtain ⟨M,hM⟩:∃M,Ak (hsL x)=M:=⟨_,rfl⟩
 rw [hM] at hst ⊢
 obtain ⟨bS,b1,b2,sd,os⟩:=x
 unfold TL
 dsimp only at hst ⊢
 clear hM
 cases hg:BL os (Ac h) with
 | none =>
  unfold hsL at hst
  dsimp only at hst
  refine Ab (M:=M) Tryz.func136 [.tmp 4]  hst ?_
  have zs:=Bd.mk Zj
  refine Aq ?_
  refine AB fun K k0=>?_
  refine BR [(true,0),(true,1),(true,2),(true,3),(true,4),(false,5),(false,6),(true,7)] [] CB rfl (by kernel_rfl) (by kernel_rfl) rfl rfl ?_
  refine Ah ?_
  refine Aa (fun w hw=>Ki h hh w) ?_
  refine Ah ?_
  refine DD Um rfl rfl (fun w hw=>hw.Nu 2 rfl) ?_
  rw [Cu,hg,Option.map_none,Option.getD_none]
  refine Ah ?_
  refine k0 _ _ ?_
  refine AB fun K k0=>?_
  refine Aq ?_
  refine AL ?_
  refine Ah ?_
  refine Aq ?_
  refine AP (Cc fun w hw=>?_)
  first|exact ⟨(),rfl,hw⟩|exact ⟨(),rfl,trivial,hw⟩
 | some o =>
  obtain ⟨pre,post,he, -, -, -⟩:=YS hg
  have hp:=JR (bS:=bS) (b1:=b1) (b2:=b2) (sd:=sd) he
  have uF:=hst.perm hp
  clear hst
  unfold uE at uF
  have hne:=uF.ACU
  refine Ab (M:=M) Tryz.func136 [.tmp 4]  uF ?_
  have zs:=Bd.mk Zj
  refine Aq ?_
  refine AB fun K k0=>?_
  refine BR [(true,0),(true,1),(true,2),(true,3),(true,4),(false,5),(false,6),(true,7)] [] CB rfl (by kernel_rfl) (by kernel_rfl) rfl rfl ?_
  refine Ah ?_
  refine Aa (fun w hw=>Ki h hh w) ?_
  refine Ah ?_
  refine DD Um rfl rfl (fun w hw=>hw.Nu 4 rfl) ?_
  rw [Cu,hg,Option.map_some,Option.getD_some]
  refine Ah ?_
  refine k0 _ _ ?_
  dsimp only
  by_cases hc:o.o.h=h
  ·rw [if_pos hc]
   subst hc
   refine AB fun K k0=>?_
   refine Aq ?_
   refine AL ?_
   refine Ah ?_
   refine AO (k0 _ _ ?_)
   refine Aq ?_
   refine AP (Cc fun w hw=>?_)
   first|exact ⟨(),rfl,hw.perm hp.symm⟩|exact ⟨(),rfl,trivial,hw.perm hp.symm⟩
  ·rw [if_neg hc]
   have hc2:¬(o.o.h:Int)=(h:Int):=by omega
   refine AB fun K k0=>?_
   refine LX hc2 ?_
   refine AL ?_
   refine Ah ?_
   refine Aq ?_
   refine AP (Cc fun w hw=>?_)
   first|exact ⟨(),rfl,hw.perm hp.symm⟩|exact ⟨(),rfl,trivial,hw.perm hp.symm⟩
def JS (x:IK):List Ai:=[.blk x.bS 147 [.map (some x.b1),.map (some x.b2)],Ef x.b1 (Bo Value.bool x.sd)]
def jS (i:Int×Bool):Value:=.tuple #[.int .i64 i.1,.bool i.2]
theorem Qq (x:IK) (e:DZ) (he:e.ok) (W:World) (hst:St (Ak (JS x)) W (JS x) W) :
  Calls Tryz.prog 137 #[.pointer (some ⟨x.bS,0,none⟩),NZ e] W
  fun en w' => ∃i:Int×Bool,en = .returned (jS i)/\(i.2=La x.pl e/\(i.2=true->i.1=e.ar))/\St (Ak (JS x)) W (JS x) w':=by
 obtain ⟨M,hM⟩:∃M,Ak (JS x)=M:=⟨_,rfl⟩
 rw [hM] at hst ⊢
 obtain ⟨bS,b1,b2,sd,os⟩:=x
 unfold JS at hst ⊢
 dsimp only at hst ⊢
 clear hM
 have he2:=he.2
 refine Ab (M:=M) Tryz.func137 [.tmp 4,.tmp 5]  hst ?_
 refine AQ rfl fun K k0=>?_
 simp -implicitDefEqProofs (disch:=first|omega|decide) only [seval, -Int.reducePow, -Nat.reducePow,cC,pv,Ao,Az,undef,Zj,NZ]
 intro b3 hb3 hf3
 refine k0 _ _ ?_
 refine AB fun K k0=>?_
 have zs:=Bd.mk Zj
 refine Aq ?_
 refine ABS (fun hc=>?_) fun hc=>?_
 ·refine Aq ?_
  refine AP (Cc fun w hw=>?_)
  have hc:=of_decide_eq_true hc
  refine ⟨(0,false),rfl,⟨?_,fun h=>by cases h⟩,hw.tail⟩
  unfold La
  have:¬e.ar<=64:=by omega
  simp [this]
 refine AO (k0 _ _ ?_)
 have ha:e.ar<=64:=by have hc:=of_decide_eq_false hc;omega
 have hwr:IntKind.i64.wrap (e.ar:Int)=(e.ar:Int):=Ae (by omega) (by omega)
 refine LX hwr ?_
 by_cases hq:(e.ar:Int)=e.pl
 ·refine AB fun K k0=>?_
  refine BR [(true,0),(true,1),(true,2),(true,3),(true,4),(true,5),(true,6),(true,7),(true,8),(true,9),(true,10),(true,13),(false,11),(true,12),(true,14)] [] CB rfl (by kernel_rfl) (by kernel_rfl) rfl rfl ?_
  refine D_ hq ?_
  refine k0 _ _ ?_
  refine AP (Cc fun w hw=>?_)
  refine ⟨(e.pl,false),rfl,⟨?_,fun h=>by cases h⟩,hw.tail⟩
  unfold La
  simp [hq]
 ·refine AB fun K k0=>?_
  refine BR [(true,0),(true,1),(true,2),(true,3),(true,4),(true,5),(true,6),(true,7),(true,8),(true,9),(true,10),(true,13),(false,11),(true,12),(true,14)] [] CB rfl (by kernel_rfl) (by kernel_rfl) rfl rfl ?_
  refine D_ hq ?_
  refine DD jR rfl rfl (fun w hw=>hw.Nu 2 rfl) ?_
  rw [Cu]
  have hal:((BL sd (e.ar:Int)).map Value.bool).getD (.bool false) = .bool (alive (IK.pl ⟨bS,b1,b2,sd,os⟩) e.ar):=by
   unfold alive IK.pl
   cases BL sd (e.ar:Int)<;>rfl
  rw [hal]
  refine Ah ?_
  refine k0 _ _ ?_
  refine AP (Cc fun w hw=>?_)
  refine ⟨(e.ar,alive (IK.pl ⟨bS,b1,b2,sd,os⟩) e.ar),rfl,⟨?_,fun h=>rfl⟩,hw.tail⟩
  unfold La
  simp [hq,ha]
theorem bf {α:Type} (l:List (Int×α)) (k:Int) (v:α) (hn:BL l k≠none):EI (CS l k v) k=EI l k:=by
 induction l with
 | nil=>exact absurd rfl hn
 | cons p l ih =>
  unfold BL at hn
  unfold CS EI
  by_cases h:p.1=k
  ·rw [if_pos h,if_pos h]
   simp
  ·rw [if_neg h] at hn
   rw [if_neg h,if_neg h]
   simp only [if_neg h,ih hn]
theorem uG {bS b1 b2:Nat} {sd:List (Int×Bool)} {os:List (Int×Fs)} {k:Int} (o:Fs) (hg:BL os k=none):(Iq o++(.blk bS 147 [.map (some b1),.map (some b2)]::Ef b1 (Bo Value.bool sd)::Ef b2 (Bo IP (CS os k o))::Ei os)).Perm (hsL ⟨bS,b1,b2,sd,CS os k o⟩):=by
 rw [jM hg]
 have h1:(Iq o++((.blk bS 147 [.map (some b1),.map (some b2)]::Ef b1 (Bo Value.bool sd)::Ef b2 (Bo IP (os++[(k,o)]))::[])++Ei os)).Perm ((.blk bS 147 [.map (some b1),.map (some b2)]::Ef b1 (Bo Value.bool sd)::Ef b2 (Bo IP (os++[(k,o)]))::[])++(Iq o++Ei os)):=List.perm_append_comm_assoc _ _ _
 refine h1.trans ?_
 have h2:=LK os [] k o
 rw [List.append_nil] at h2
 exact List.Perm.append_left _ h2
theorem jT {os pre post:List (Int×Fs)} {k:Int} {o o':Fs} (he:os=pre++(k,o)::post) (hb:o'.b=o.b):Bo IP (pre++(k,o')::post)=Bo IP os:=by
 rw [he]
 simp [Bo,IP,hb]
theorem uH {bS b1 b2:Nat} {sd:List (Int×Bool)} {os pre post:List (Int×Fs)} {k:Int} {o o':Fs} (he:os=pre++(k,o)::post) (hs:∀v',CS os k v'=pre++(k,v')::post) (hb:o'.b=o.b):(uE bS b1 b2 sd os o' (pre++post)).Perm (hsL ⟨bS,b1,b2,sd,CS os k o'⟩):=by
 have h:=JR (bS:=bS) (b1:=b1) (b2:=b2) (sd:=sd) (hs o')
 unfold uE at h ⊢
 rw [hs o',jT he hb] at h
 rw [hs o']
 exact h
theorem TM {α β:Type} (f:α->β) (l:List (Int×α)) (k:Int) (v:α):Bo f (CS l k v)=CS (Bo f l) k (f v):=(TJ f l k v).symm
theorem FN:type_of% (And.intro (And.intro (And.intro @Dc.eq_1 @IP.eq_1) (And.intro @Nat.mul_one @G_)) (And.intro (And.intro @Ce @Cf) (And.intro @Cg (And.intro @Ch @Ci)))):=(And.intro (And.intro (And.intro @Dc.eq_1 @IP.eq_1) (And.intro @Nat.mul_one @G_)) (And.intro (And.intro @Ce @Cf) (And.intro @Cg (And.intro @Ch @Ci))))
theorem YW (x:IK) (e:DZ) (he:e.ok) (W:World) (hst:St (Ak (hsL x)) W (hsL x) W) :
  Calls Tryz.prog 108 #[.pointer (some ⟨x.bS,0,none⟩),NZ e] W
  fun en w' => ∃i:Bool×IK,en = .returned (MM i)/\l7 x.bS (ML x.pl e) i/\St (Ak (hsL x)) W (Rt i) w':=by
 obtain ⟨M,hM⟩:∃M,Ak (hsL x)=M:=⟨_,rfl⟩
 rw [hM] at hst ⊢
 obtain ⟨bS,b1,b2,sd,os⟩:=x
 have he1:=he.1
 unfold hsL at hst
 dsimp only at hst ⊢
 clear hM
 refine Ab (M:=M) Tryz.func108 [.tmp 4]  hst ?_
 refine AQ rfl fun K k0=>?_
 simp -implicitDefEqProofs (disch:=first|omega|decide) only [seval, -Int.reducePow, -Nat.reducePow,cC,pv,Ao,Az,undef,FN,NZ]
 intro b3 hb3 hf3
 refine k0 _ _ ?_
 refine AQ rfl fun K k0=>?_
 have zs:=Bd.mk FN
 refine Ah ?_
 refine Aa (fun w hw=>Ki e.h he1 w) ?_
 refine Ah ?_
 refine k0 _ _ ?_
 by_cases hv:(0<F4 e.h/\0<Kh e.h)
 case neg =>
  refine AB fun K k0=>?_
  refine AQ rfl fun K k1=>?_
  refine Ah ?_
  refine Aa (fun w hw=>MI e.h he1 w) ?_
  refine D_ hv ?_
  refine k1 _ _ ?_
  refine AL ?_
  refine Ah ?_
  refine Aq ?_
  refine AP (Cc fun w hw=>?_)
  exact ⟨(false,⟨bS,b1,b2,sd,os⟩),rfl,.no (by unfold ML;rw [if_neg (fun h=>hv h.1)]) rfl,hw.tail⟩
 cases hg:BL os (Ac e.h) with
 | some o =>
  refine AB fun K k0=>?_
  refine AQ rfl fun K k1=>?_
  refine Ah ?_
  refine Aa (fun w hw=>MI e.h he1 w) ?_
  refine D_ hv ?_
  refine DD Um rfl rfl (fun w hw=>hw.Nu 3 rfl) ?_
  rw [Cu,hg,Option.map_some,Option.getD_some]
  refine Ah ?_
  refine k1 _ _ ?_
  refine AL ?_
  refine Ah ?_
  refine Aq ?_
  refine AP (Cc fun w hw=>?_)
  exact ⟨(false,⟨bS,b1,b2,sd,os⟩),rfl,.no (by unfold ML IK.pl;rw [if_neg];rw [Ff,hg];simp) rfl,hw.tail⟩
 | none =>
  refine AB fun K k0=>?_
  refine AQ rfl fun K k1=>?_
  refine Ah ?_
  refine Aa (fun w hw=>MI e.h he1 w) ?_
  refine D_ hv ?_
  refine DD Um rfl rfl (fun w hw=>hw.Nu 3 rfl) ?_
  rw [Cu,hg,Option.map_none,Option.getD_none]
  refine Ah ?_
  refine k1 _ _ ?_
  refine AL ?_
  refine Ah ?_
  refine AO (k0 _ _ ?_)
  refine AB fun K k0=>?_
  refine BR [(true,0),(true,1),(true,2),(true,3),(true,4),(true,5),(true,6),(true,7),(true,8),(false,9),(true,10),(false,11),(false,12)] [12] CB rfl (by kernel_rfl) (by kernel_rfl) rfl rfl ?_
  refine Ah ?_
  refine Uj fun bm pM hfm=>?_
  refine Ah ?_
  intro bo Zv hfo
  refine LG 5 (y:=.pointer (some ⟨bo,0,none⟩)) Um rfl rfl rfl rfl ?_
  rw [show (Value.pointer (some ⟨bo,0,none⟩))=IP ⟨bo,bm,⟨e.h,e.pl,0,[]⟩⟩ from rfl,Hu]
  refine Ah ?_
  refine k0 _ _ ?_
  refine Aq ?_
  refine AP (Cc fun w hw=>?_)
  refine ⟨(true,⟨bS,b1,b2,sd,CS os (Ac e.h) ⟨bo,bm,⟨e.h,e.pl,0,[]⟩⟩⟩),rfl,.yes (s:=⟨sd,CS (Bo Fs.o os) (Ac e.h) ⟨e.h,e.pl,0,[]⟩⟩) (by unfold ML IK.pl;rw [if_pos ⟨hv,by rw [Ff,hg];rfl⟩]) (by unfold IK.pl;rw [TM]) rfl, ?_⟩
  refine St.perm ?_ (uG _ hg).symm
  exact hw.sub (.cons_cons _ (.cons_cons _ (.cons _ (List.Sublist.refl _))))
def XE (i:Bool×Ob):Value:=.bool i.1
theorem FO (cs:List (Int×Int)) (p:Int):((BL cs p).map (Value.int .i64)).getD (.int .i64 0) = .int .i64 ((BL cs p).getD 0):=by cases BL cs p<;>rfl
theorem Un (o:Fs) (p:Int) (W:World) (hc:∀c∈o.o.cs,0<=c.2/\c.2<=4611686018427387904) (hst:St (Ak (Iq o)) W (Iq o) W) :
  Calls Tryz.prog 139 #[.pointer (some ⟨o.b,0,none⟩),.int .i64 p] W
  fun en w' => ∃i:Bool×Ob,en = .returned (XE i)/\(i.1 = !decide ((BL o.o.cs p).getD 0=0)/\(i.1=true->i.2=Oy o.o p))/\St (Ak (Iq o)) W (Iq ⟨o.b,o.bc,i.2⟩) w':=by
 obtain ⟨M,hM⟩:∃M,Ak (Iq o)=M:=⟨_,rfl⟩
 rw [hM] at hst ⊢
 obtain ⟨b,bc,o⟩:=o
 obtain ⟨h,ow,mo,cs⟩:=o
 unfold Iq at hst
 dsimp only at hst hc ⊢
 clear hM
 have hr:0<=(BL cs p).getD 0/\(BL cs p).getD 0<=4611686018427387904:=by
  cases hg:BL cs p with
  | none=>simp
  | some c=>exact hc _ (Ec hg)
 have hwr:=Ae (x:=(BL cs p).getD 0-1) (by omega) (by omega)
 refine Ab (M:=M) Tryz.func139 [.tmp 4]  hst ?_
 have zs:=Bd.mk FN
 refine Aq ?_
 by_cases h0:(BL cs p).getD 0=0
 ·refine AB fun K k0=>?_
  refine AQ rfl fun K k1=>?_
  refine Ah ?_
  refine DD Ny rfl rfl (fun w hw=>hw.Nu 1 rfl) ?_
  rw [Cu,FO]
  refine D_ h0 ?_
  refine k1 _ _ ?_
  refine AL ?_
  refine Ah ?_
  refine Aq ?_
  refine AP (Cc fun w hw=>?_)
  refine ⟨(false,⟨h,ow,mo,cs⟩),rfl,⟨by simp [h0],fun h=>by cases h⟩,hw⟩
 have hn:BL cs p≠none:=fun e=>h0 (by rw [e];rfl)
 refine AB fun K k0=>?_
 refine AQ rfl fun K k1=>?_
 refine Ah ?_
 refine DD Ny rfl rfl (fun w hw=>hw.Nu 1 rfl) ?_
 rw [Cu,FO]
 refine D_ h0 ?_
 refine k1 _ _ ?_
 refine AL ?_
 refine Ah ?_
 refine AO (k0 _ _ ?_)
 refine AV [0,1] fun G1 g1=>?_
 replace g1:=Bi g1
 refine AQ rfl fun K k0=>?_
 have zg:=Bd.mk g1
 refine AR ?_
 refine DD Ny rfl rfl (fun w hw=>hw.Nu 1 rfl) ?_
 rw [Cu,FO]
 refine Ap hwr ?_
 refine LG 1 (y:=.int .i64 ((BL cs p).getD 0-1)) Ny rfl rfl rfl rfl ?_
 rw [Hu]
 refine AR ?_
 refine k0 _ _ ?_
 refine AV [0,1] fun G2 g2=>?_
 replace g2:=Bg g2
 by_cases h1:(BL cs p).getD 0-1=0
 ·refine AB fun K k0=>?_
  refine AQ rfl fun K k1=>?_
  replace zg:=Bd.mk g2
  refine AR ?_
  refine DD Ny rfl rfl (fun w hw=>hw.Nu 1 rfl) ?_
  rw [Cu,FO,DR,if_pos rfl,Option.getD_some]
  refine Ap h1 ?_
  refine k1 _ _ ?_
  refine AL ?_
  refine AR ?_
  refine AU rfl ?_
  refine AR ?_
  refine Ui 1 Ny rfl rfl rfl ?_
  rw [LJ,bf _ _ _ hn]
  refine AR ?_
  refine k0 _ _ ?_
  refine BH ?_
  refine AP (Br fun w hw=>?_)
  refine ⟨(true,⟨h,ow,mo,EI cs p⟩),rfl,⟨by simp [h0],fun _=>by unfold Oy;rw [if_pos h1]⟩,hw⟩
 refine AB fun K k0=>?_
 refine AQ rfl fun K k1=>?_
 replace zg:=Bd.mk g2
 refine AR ?_
 refine DD Ny rfl rfl (fun w hw=>hw.Nu 1 rfl) ?_
 rw [Cu,FO,DR,if_pos rfl,Option.getD_some]
 refine Ap h1 ?_
 refine k1 _ _ ?_
 refine AL ?_
 refine AR ?_
 refine AO (k0 _ _ ?_)
 refine BH ?_
 refine AP (Br fun w hw=>?_)
 refine ⟨(true,⟨h,ow,mo,CS cs p ((BL cs p).getD 0-1)⟩),rfl,⟨by simp [h0],fun _=>by unfold Oy;rw [if_neg h1]⟩,hw⟩
theorem TN (x:IK) (o:Fs) (e:DZ) (m:Int) (he:e.ok) (W:World) (hc:∀c∈o.o.cs,0<=c.2/\c.2<=4611686018427387904) (hst:St (Ak (Iq o++JS x)) W (Iq o++JS x) W) :
  Calls Tryz.prog 138 #[.pointer (some ⟨x.bS,0,none⟩),.pointer (some ⟨o.b,0,none⟩),NZ e,.int .i64 m] W
  fun en w' => ∃i:Bool×Ob,en = .returned (XE i)/\(i.1=Ip x.pl e o.o m/\(i.1=true->i.2=W9 o.o e.ar m))/\St (Ak (Iq o++JS x)) W (Iq ⟨o.b,o.bc,i.2⟩++JS x) w':=by
 obtain ⟨M,hM⟩:∃M,Ak (Iq o++JS x)=M:=⟨_,rfl⟩
 rw [hM] at hst ⊢
 obtain ⟨bS,b1,b2,sd,os⟩:=x
 obtain ⟨b,bc,o⟩:=o
 obtain ⟨h,ow,mo,cs⟩:=o
 unfold Iq JS at hst ⊢
 dsimp only at hst hc ⊢
 clear hM
 have hne:b≠bS:=St.ACU (o:=⟨b,bc,⟨h,ow,mo,cs⟩⟩) hst
 have hr:0<=(BL cs e.ar).getD 0/\(BL cs e.ar).getD 0<=4611686018427387904:=by
  cases hg:BL cs e.ar with
  | none=>simp
  | some c=>exact hc _ (Ec hg)
 have hwr:=Ae (x:=(BL cs e.ar).getD 0+1) (by omega) (by omega)
 refine Ab (M:=M) Tryz.func138 [.tmp 8]  hst ?_
 refine AQ rfl fun K k0=>?_
 simp -implicitDefEqProofs (disch:=first|omega|decide) only [seval, -Int.reducePow, -Nat.reducePow,cC,pv,Ao,Az,undef,FN,NZ]
 intro b6 hb6 hf6
 refine k0 _ _ ?_
 refine AQ rfl fun K k0=>?_
 have zs:=Bd.mk FN
 refine Ah ?_
 refine Bq (JS ⟨bS,b1,b2,sd,os⟩) (.cons _ (.cons _ (.cons _ (List.Sublist.refl _)))) jS _ (fun w hw=>Qq ⟨bS,b1,b2,sd,os⟩ e he w hw) ?_
 rintro ⟨q,ok⟩ ⟨hok,hq⟩
 dsimp only at hok hq
 simp -implicitDefEqProofs (disch:=first|omega|decide) only [seval, -Int.reducePow, -Nat.reducePow,cC,pv,Ao,Az,undef,FN,jS]
 refine k0 _ _ ?_
 refine AV [1,3,6,9,10] fun G3 g3=>?_
 replace g3:=Bi g3
 refine AQ rfl fun K k0=>?_
 have zg:=Bd.mk g3
 refine AR ?_
 refine Zd Ny rfl (fun w hw=>hw.Nu 2 rfl) ?_
 rw [Kj]
 have hlen:decide (0<(cs.length:Int)) = !decide (cs=[]):=by cases cs<;>simp
 refine Ap hlen ?_
 refine k0 _ _ ?_
 refine AV [1,3,6,9,10,11] fun G4 g4=>?_
 replace g4:=Bg g4
 have hB:Ip (IK.pl ⟨bS,b1,b2,sd,os⟩) e ⟨h,ow,mo,cs⟩ m=(ok&&decide (ow=e.pl)&&(decide (cs=[])||(!decide (m=2) && !decide (mo=2)))):=by unfold Ip;rw [hok]
 refine AB fun K k0=>?_
 refine AB fun K k1=>?_
 refine A9 (fun _ _=>True) (fun F' L'=>Az F' G4 [1,3,9]/\F' 48 = .bool (!Ip (IK.pl ⟨bS,b1,b2,sd,os⟩) e ⟨h,ow,mo,cs⟩ m)/\L'=[Dc b6 e,.blk b 208 [.int .u64 (h:Int),.int .i64 ow,.int .i64 mo,.map (some bc)],Ef bc (Bo (Value.int .i64) cs),.blk bS 147 [.map (some b1),.map (some b2)],Ef b1 (Bo Value.bool sd)]) ?_ ?_
 ·rw [hB]
  refine BR [(true,0),(true,1),(true,2),(true,3),(true,4),(true,5),(true,6),(true,7),(true,8),(true,9),(true,10),(true,11),(true,12),(true,13),(true,14),(true,15),(true,16),(true,17),(true,18),(true,19),(true,20),(true,21),(true,22),(true,23),(true,24)] [] CB rfl (by kernel_rfl) (by kernel_rfl) rfl rfl ?_
  replace zg:=Bd.mk g4
  refine AR ?_
  repeat' ((first|refine Ck (fun hg=>?_) (fun hg=>?_)|refine Cm (fun hg=>?_) (fun hg=>?_))<;>((try simp only [Bool.not_eq_true',Bool.not_eq_false',decide_eq_true_eq,decide_eq_false_iff_not] at hg);(try simp -implicitDefEqProofs (disch:=first|omega|decide) only [seval, -Int.reducePow, -Nat.reducePow,cC,pv,Ao,Az,undef,FN,hg,g4])))
  all_goals (repeat' refine And.intro ?_ ?_)
  all_goals first|with_reducible rfl|(clear hB hlen g3 g4;simp_all;done)|skip
 intro G5 L' _ hF
 obtain ⟨zq,AHm,rfl⟩:=hF
 replace zg:=Bd.mk g4
 have g5:=And.intro (Bg zq) AHm
 refine k1 _ _ ?_
 refine AL ?_
 replace zg:=Bd.mk g5
 refine AR ?_
 refine ⟨fun hc2=>?_,fun hc2=>?_⟩
 ·refine BH ?_
  refine AP (Br fun w hw=>?_)
  refine ⟨(false,⟨h,ow,mo,cs⟩),rfl,⟨by simpa using hc2,fun h=>by cases h⟩,hw.tail⟩
 refine AO (k0 _ _ ?_)
 have hlb:Ip (IK.pl ⟨bS,b1,b2,sd,os⟩) e ⟨h,ow,mo,cs⟩ m=true:=by simpa using hc2
 have hqa:q=e.ar:=hq (by rw [hB] at hlb;simp only [Bool.and_eq_true] at hlb;exact hlb.1.1)
 subst hqa
 refine BH ?_
 refine AV [1,9] fun G6 g6=>?_
 replace g6:=Bg g6
 refine AQ rfl fun K k0=>?_
 replace zg:=Bd.mk g6
 refine AR ?_
 refine DD Ny rfl rfl (fun w hw=>hw.Nu 2 rfl) ?_
 rw [Cu,FO]
 refine Ap hwr ?_
 refine LG 2 (y:=.int .i64 ((BL cs e.ar).getD 0+1)) Ny rfl rfl rfl rfl ?_
 rw [Hu]
 refine AR ?_
 refine k0 _ _ ?_
 refine BH ?_
 refine AP (Br fun w hw=>?_)
 refine ⟨(true,W9 ⟨h,ow,mo,cs⟩ e.ar m),rfl,⟨hlb.symm,fun _=>rfl⟩,hw.tail⟩
section
variable {P:Program} {M:List Nat} {W w:World} {L:List Ai} {n:Nat} {F:Fr} {Q:Exit->Fr->List Ai->Prop}
theorem jU {ι:Type} (p:ι->Prop) (μ:ι->Nat):∀(m:Nat) (i:ι),μ i=m->p i→∃i,p i∧∀j,p j->μ i<=μ j:=by
 intro m
 induction m using Nat.strongRecOn with
 | _ m ih =>
  intro i hm hi
  by_cases h:∃j,p j/\μ j<m
  ·obtain ⟨j,hj,hlt⟩:=h
   exact ih (μ j) hlt j rfl hj
  ·exact ⟨i,hi,fun j hj=>Decidable.byContradiction fun hn=>h ⟨j,hj,by omega⟩⟩
theorem jV {ι:Type} {c:Code} (I:ι->Fr->List Ai->Prop) (μ:ι->Nat) (i0:ι) (h₀:I i0 F L)
  (round:∀i F' L',I i F' L'→CV P M W n c F' L' (BX (fun dV dW => ∃j,I j dV dW/\μ j<μ i) Q)):CV P M W n (.loop c) F L Q:=by
 classical
 have hl:∀F' L',(∃i,I i F' L')→∃i,I i F' L'∧∀j,I j F' L'→μ i<=μ j:=fun F' L' ⟨i,hi⟩=>jU (fun i=>I i F' L') μ _ i rfl hi
 refine BP (fun F' L' => ∃i,I i F' L') (fun F' L'=>if h:∃i,I i F' L' then μ (Classical.choose (hl F' L' h)) else 0) ⟨i0,h₀⟩ fun F' L' h=>?_
 have hs:=Classical.choose_spec (hl F' L' h)
 refine (round _ F' L' hs.1).mono fun e dV dW hh=>?_
 cases e with
 | normal =>
  obtain ⟨j,hj,hlt⟩:=hh
  have hx:∃i,I i dV dW:=⟨j,hj⟩
  refine ⟨hx, ?_⟩
  show (if h:∃i,I i dV dW then μ (Classical.choose (hl dV dW h)) else 0)<(if h:∃i,I i F' L' then μ (Classical.choose (hl F' L' h)) else 0)
  rw [dif_pos hx,dif_pos h]
  exact Nat.lt_of_le_of_lt ((Classical.choose_spec (hl dV dW hx)).2 j hj) hlt
 | exit id=>exact hh
 | goto l=>exact hh
 | ret=>exact hh
 | panic ch=>exact hh
 | outgrown=>exact hh
theorem St.l8 (hw:St M W L w) (i j:Nat) {b b':Nat} {t t':TypeId} {cs cs':List Value} (hi:nth L i=some (.blk b t cs)) (hj:nth L j=some (.blk b' t' cs')) (hne:i≠j):b≠b':=fun e=>by
 have:=SX hw.apart hi hj hne b (by simp [Ai.foot])
 exact this (by simp [Ai.foot,e])
theorem Qr (H:List Ai) (pre post:List (Int×Fs)) (k:Int) (o:Fs):(Iq o++(H++Ei (pre++post))).Perm (H++Ei (pre++(k,o)::post)) :=
 (List.perm_append_comm_assoc _ _ _).trans (List.Perm.append_left _ (LK pre post k o))
end
def Ru (p:Int) (q:Int×Fs):Option (Int×Fs):=if q.2.o.ow=p then none else some (q.1,⟨q.2.b,q.2.bc,{ q.2.o with cs:=EI q.2.o.cs p }⟩)
def Dq (p:Int) (dn:List Int) (os:List (Int×Fs)):List (Int×Fs):=os.filterMap fun q=>if q.1∈dn then Ru p q else some q
def Gy (p:Int) (dn:List Int) (os:List (Int×Fs)):Nat:=(os.filter fun q=>decide (q.1∈dn/\q.2.o.ow=p)).length
theorem jW (p:Int) (os:List (Int×Fs)):Dq p [] os=os:=by
 unfold Dq
 simp
theorem jX (p:Int) (os:List (Int×Fs)):Gy p [] os=0:=by
 unfold Gy
 simp
theorem Qs (p:Int) (dn:List Int) (a b:List (Int×Fs)):Dq p dn (a++b)=Dq p dn a++Dq p dn b:=by simp [Dq]
theorem XF {p:Int} {dn:List Int} {k:Int} {a:List (Int×Fs)} (h:k∉keys a):Dq p (k::dn) a=Dq p dn a:=by
 unfold Dq
 induction a with
 | nil=>rfl
 | cons q a ih =>
  simp only [keys,List.map_cons,List.mem_cons,not_or] at h
  have hq:¬q.1=k:=fun e=>h.1 e.symm
  have ih2:=ih h.2
  simp only [List.mem_cons] at ih2
  simp only [List.filterMap_cons,List.mem_cons,hq,false_or,ih2]
theorem NC (p:Int) (dn:List Int) (a b:List (Int×Fs)):Gy p dn (a++b)=Gy p dn a+Gy p dn b:=by simp [Gy]
theorem XG {p:Int} {dn:List Int} {k:Int} {a:List (Int×Fs)} (h:k∉keys a):Gy p (k::dn) a=Gy p dn a:=by
 unfold Gy
 refine congrArg List.length (List.filter_congr fun q hq=>?_)
 have:¬q.1=k:=fun e=>h (e▸List.mem_map.2 ⟨q,hq,rfl⟩)
 simp [this]
theorem bg {p:Int} {dn:List Int} {a:List (Int×Fs)} {k:Int} (h:k∈keys (Dq p dn a)):k∈keys a:=by
 obtain ⟨q,hq,rfl⟩:=List.mem_map.1 h
 obtain ⟨q0,h0,h1⟩:=List.mem_filterMap.1 hq
 refine List.mem_map.2 ⟨q0,h0, ?_⟩
 unfold Ru at h1
 split at h1
 ·split at h1
  ·cases h1
  ·injection h1 with h1;rw [<-h1]
 ·injection h1 with h1;rw [h1]
theorem jY {p:Int} {dn:List Int} {a:List (Int×Fs)} {q:Int×Fs} (h:q∈Dq p dn a) (hd:q.1∉dn):q∈a:=by
 obtain ⟨q0,h0,h1⟩:=List.mem_filterMap.1 h
 unfold Ru at h1
 split at h1
 ·split at h1
  ·cases h1
  ·injection h1 with h1
   subst h1
   exact absurd ‹_› hd
 ·injection h1 with h1
  exact h1▸h0
theorem jZ {p:Int} {dn:List Int} {a:List (Int×Fs)} (h:∀q∈Bo IP (Dq p dn a),q.1∈dn):(∀q∈a,q.1∈dn):=fun q hq=>Decidable.byContradiction fun hn=>by
 have h1:q∈Dq p dn a:=List.mem_filterMap.2 ⟨q,hq,by rw [if_neg hn]⟩
 exact hn (h (q.1,IP q.2) (List.mem_map.2 ⟨q,h1,rfl⟩))
theorem ja {p:Int} {dn:List Int} {a:List (Int×Fs)} (h:∀q∈a,q.1∈dn):Bo Fs.o (Dq p dn a)=NB p (Bo Fs.o a)/\Gy p dn a=bU p (Bo Fs.o a):=by
 induction a with
 | nil=>exact ⟨rfl,rfl⟩
 | cons q a ih =>
  obtain ⟨h1,h2⟩:=ih fun r hr=>h r (List.mem_cons_of_mem _ hr)
  have hq:=h q (.head _)
  simp only [Dq,Gy,NB,bU,Bo,Ru,List.filterMap_cons,List.filter_cons,List.map_cons,if_pos hq,hq,true_and] at h1 h2 ⊢
  by_cases hp:q.2.o.ow=p
  ·simp only [hp,if_true,not_true_eq_false,decide_false,decide_true,Bool.false_eq_true,if_false]
   exact ⟨h1,by simp only [List.length_cons];rw [h2]⟩
  ·simp only [hp,if_false,not_false_eq_true,decide_false,decide_true,Bool.false_eq_true,if_true,List.map_cons]
   exact ⟨by rw [h1],h2⟩
theorem bq {α:Type} {A B:List (Int×α)} {k:Int} {o:α} (h:(keys (A++(k,o)::B)).Nodup):k∉keys A/\k∉keys B:=by
 simp only [keys,List.map_append,List.map_cons] at h ⊢
 obtain ⟨h1,h2,h3⟩:=List.nodup_append.1 h
 exact ⟨fun hm=>h3 k hm k (.head _) rfl,(List.nodup_cons.1 h2).1⟩
theorem jc {α:Type} {A B:List (Int×α)} {k:Int} {o:α} (h:k∉keys A):EI (A++(k,o)::B) k=A++B:=by
 induction A with
 | nil=>simp [EI]
 | cons q A ih =>
  simp only [keys,List.map_cons,List.mem_cons,not_or] at h
  rw [List.cons_append,EI,if_neg (fun e=>h.1 e.symm),ih h.2]
  rfl
def TP (dn:List Int) (os:List (Int×Fs)):Nat:=(os.filter fun q=>decide (¬q.1∈dn)).length
theorem jd {dn:List Int} {A B:List (Int×Fs)} {k:Int} {o:Fs} (hk:k∉dn):TP (k::dn) (A++(k,o)::B)<TP dn (A++(k,o)::B):=by
 unfold TP
 have hle:∀a:List (Int×Fs),(a.filter fun q=>decide (¬q.1∈k::dn)).length<=(a.filter fun q=>decide (¬q.1∈dn)).length:=by
  intro a
  induction a with
  | nil=>simp
  | cons q a ih =>
   simp only [List.filter_cons,List.mem_cons,not_or]
   by_cases h1:q.1∈dn
   ·simp [h1]
    simpa using ih
   ·by_cases h2:q.1=k
    ·simp [h2,hk]
     have:=ih
     simp at this
     omega
    ·simp [h1,h2]
     simpa using ih
 have h1:=hle A
 have h2:=hle B
 simp only [List.filter_append,List.length_append,List.filter_cons,List.mem_cons,true_or,not_true_eq_false,decide_false,Bool.false_eq_true,if_false,hk,not_false_eq_true,decide_true,if_true,List.length_cons] at h1 h2 ⊢
 omega
theorem XH:type_of% (And.intro (And.intro (And.intro @Dc.eq_1 @IP.eq_1) (And.intro @Nat.mul_one (And.intro @G_ @cRg))) (And.intro (And.intro @Ce @Cf) (And.intro @Cg (And.intro @Ch @Ci)))):=(And.intro (And.intro (And.intro @Dc.eq_1 @IP.eq_1) (And.intro @Nat.mul_one (And.intro @G_ @cRg))) (And.intro (And.intro @Ce @Cf) (And.intro @Cg (And.intro @Ch @Ci))))
theorem wrap_u64 {x:Int} (h1:0<=x) (h2:x<18446744073709551616):IntKind.u64.wrap x=x:=by rw [IntKind.wrap_u64];omega
theorem je (x:IK) (e:DZ) (k:Nat) (hI:Ed k x.pl) (hk:k<=1000000) (he:e.ok) (W:World) (hst:St (Ak (hsL x)) W (hsL x) W) :
  Calls Tryz.prog 107 #[.pointer (some ⟨x.bS,0,none⟩),NZ e] W
  fun en w' => ∃i:Bool×IK,en = .returned (MM i)/\l7 x.bS (bV x.pl e) i/\St (Ak (hsL x)) W (Rt i) w':=by
 obtain ⟨M,hM⟩:∃M,Ak (hsL x)=M:=⟨_,rfl⟩
 rw [hM] at hst ⊢
 have hnd:=hI.nd
 have hln:=hI.len
 obtain ⟨bS,b1,b2,sd,os⟩:=x
 have hnd:(keys os).Nodup:=by have:=hnd;unfold IK.pl at this;rw [JP] at this;exact this
 have hln:os.length<=k:=by have:=hln;unfold IK.pl at this;rw [Kj] at this;exact this
 unfold hsL at hst
 dsimp only at hst ⊢
 clear hM
 refine Ab (M:=M) Tryz.func107 [.tmp 4]  hst ?_
 refine AQ rfl fun K k0=>?_
 simp -implicitDefEqProofs (disch:=first|omega|decide) only [seval, -Int.reducePow, -Nat.reducePow,cC,pv,Ao,Az,undef,XH,NZ]
 intro b3 hb3 hf3
 refine k0 _ _ ?_
 have zs:=Bd.mk XH
 refine Aq ?_
 refine AB fun K k0=>?_
 refine AQ rfl fun K k1=>?_
 refine Ah ?_
 refine bR 3 Um rfl rfl fun r hr hfr=>?_
 refine Ah ?_
 refine k1 _ _ ?_
 refine AV [0,3,5,12] fun G1 g1=>?_
 replace g1:=Bi g1
 refine Ad ?_
 refine jV (fun (dn:List Int) F' L' => ∃(la:Option Int),Az F' G1 [0,3,12]/\F' 5 = .int .u64 (Gy e.pl dn os:Int)/\L'=Rp b2 r (Bo IP (Dq e.pl dn os)) dn la::Dc b3 e :: .blk bS 147 [.map (some b1),.map (some b2)]::Ef b1 (Bo Value.bool sd)::Ei (Dq e.pl dn os)) (fun (dn:List Int)=>TP dn os) ([]) ?_ ?_
 ·refine ⟨none, ?_⟩
  rw [jX,jW]
  have zg:=Bd.mk g1
  exact MQ
 intro dn G2 L' hI
 obtain ⟨la,zq,KO,rfl⟩:=hI
 have zg:=Bd.mk g1
 have g2:=And.intro (Bg zq) KO
 refine AQ rfl fun K k1=>?_
 replace zg:=Bd.mk (And.intro g1 g2)
 refine AR ?_
 refine jJ (b:=b2) (r:=r) (l:=Bo IP (Dq e.pl dn os)) (dn:=dn) (la:=la) 0 (by simp -implicitDefEqProofs (disch:=first|omega|decide) only [seval, -Int.reducePow, -Nat.reducePow,cC,pv,Ao,Az,undef,XH,g1,g2]) rfl ?_ ?_
 ·intro hall
  refine AR ?_
  refine k1 _ _ ?_
  refine AB fun K k1=>?_
  refine AL ?_
  refine AR ?_
  refine BM (k0 _ _ ?_)
  have hd:=jZ hall
  obtain ⟨e1,e2⟩:=ja (p:=e.pl) hd
  have hen:Gy e.pl dn os<18446744073709551616:=by
   have:Gy e.pl dn os<=os.length:=List.length_filter_le _ _
   omega
  refine Cq (Ef b2 (Bo IP (Dq e.pl dn os))::Dc b3 e :: .blk bS 147 [.map (some b1),.map (some b2)]::Ef b1 (Bo Value.bool sd)::Ei (Dq e.pl dn os)) (fun w hw=>hw.ACR (k:=0) rfl) ?_
  refine AB fun K k0=>?_
  refine BR [(true,0),(true,1),(true,2),(true,3),(true,4),(true,5),(false,6)] [6] CB rfl (by kernel_rfl) (by kernel_rfl) rfl rfl ?_
  refine AR ?_
  refine LG 3 (y:=.bool false) jR rfl rfl rfl rfl ?_
  rw [Hu]
  refine AR ?_
  refine k0 _ _ ?_
  refine BH ?_
  refine AP (Br fun w hw=>?_)
  have hpl:IK.pl ⟨bS,b1,b2,CS sd e.pl false,Dq e.pl dn os⟩=⟨CS sd e.pl false,NB e.pl (Bo Fs.o os)⟩:=by unfold IK.pl;rw [e1]
  have hperm:St M W (hsL ⟨bS,b1,b2,CS sd e.pl false,Dq e.pl dn os⟩) w:=(hw.sub (.cons_cons _ (.cons _ (List.Sublist.refl _)))).perm (List.perm_middle (l₁:=[_,_]))
  by_cases hn:bU e.pl (Bo Fs.o os)=e.ar
  ·refine ⟨(true,⟨bS,b1,b2,CS sd e.pl false,Dq e.pl dn os⟩), ?_,.yes (s:=⟨CS sd e.pl false,NB e.pl (Bo Fs.o os)⟩) (by unfold bV;exact if_pos hn) hpl rfl,hperm⟩
   refine congrArg Ending.returned (congrArg Value.bool ?_)
   simp [e2,hn]
  ·refine ⟨(false,⟨bS,b1,b2,CS sd e.pl false,Dq e.pl dn os⟩), ?_,.no (by unfold bV;exact if_neg hn) rfl,hperm⟩
   refine congrArg Ending.returned (congrArg Value.bool ?_)
   simp [e2]
   omega
 ·intro p hp hpd
  obtain ⟨⟨kk,o⟩,hq,rfl⟩:=List.mem_map.1 hp
  have hm:=jY hq hpd
  dsimp only at hpd hm
  obtain ⟨A,B,hos⟩:=List.append_of_mem hm
  subst hos
  obtain ⟨nA,nB⟩:=bq hnd
  have mK:Dq e.pl dn (A++(kk,o)::B)=Dq e.pl dn A++(kk,o)::Dq e.pl dn B:=by rw [Qs];simp [Dq,hpd]
  rw [mK]
  dsimp only
  refine AR ?_
  refine k1 _ _ ?_
  refine AB fun K k1=>?_
  refine AL ?_
  refine AR ?_
  refine AO (k1 _ _ ?_)
  refine Ad ?_
  refine AQ rfl fun K k1=>?_
  refine AR ?_
  refine bT (b:=b2) (r:=r) (p:=(kk,IP o)) 0 (by simp -implicitDefEqProofs (disch:=first|omega|decide) only [seval, -Int.reducePow, -Nat.reducePow,cC,pv,Ao,Az,undef,XH,g1,g2]) rfl (by simp [Bo,IP]) ?_
  refine AR ?_
  refine k1 _ _ ?_
  refine Cq (Iq o++([Rp b2 r (Bo IP (Dq e.pl dn A++(kk,o)::Dq e.pl dn B)) (kk::dn) (some kk),Dc b3 e,.blk bS 147 [.map (some b1),.map (some b2)],Ef b1 (Bo Value.bool sd)]++Ei (Dq e.pl dn A++Dq e.pl dn B))) (fun w hw=>hw.perm (Qr _ _ _ kk o)) ?_
  unfold Iq
  dsimp only [List.cons_append,List.nil_append]
  refine EK (o.b≠b3) (fun w hw=>hw.l8 0 3 rfl rfl (by decide)) fun hn1=>?_
  refine EK (o.b≠bS) (fun w hw=>hw.l8 0 4 rfl rfl (by decide)) fun hn2=>?_
  refine AV [0,3,5,6,7,12] fun G3 g3=>?_
  replace g3:=Bg g3
  refine AB fun K k1=>?_
  refine BR [(true,0),(true,1),(true,2),(true,3),(true,4),(true,5),(false,6)] [6] CB rfl (by kernel_rfl) (by kernel_rfl) rfl rfl ?_
  replace zg:=Bd.mk (And.intro g1 (And.intro g2 g3))
  refine AR ?_
  refine Ui 1 Ny rfl rfl rfl ?_
  rw [LJ]
  refine AR ?_
  refine k1 _ _ ?_
  refine AV [0,3,5,6,7,12] fun G4 g4=>?_
  replace g4:=Bg g4
  have qK:∀X:List (Int×Fs),Dq e.pl (kk::dn) (A++(kk,o)::B)=Dq e.pl dn A++((Ru e.pl (kk,o)).toList++Dq e.pl dn B):=fun _=>by
   rw [Qs,XF nA]
   show _++Dq e.pl (kk::dn) ([(kk,o)]++B)=_
   rw [Qs,XF nB]
   congr 2
   cases hqq:Ru e.pl (kk,o)<;>simp [Dq,hqq]
  have hlt:TP (kk::dn) (A++(kk,o)::B)<TP dn (A++(kk,o)::B):=jd hpd
  have hK1:Gy e.pl (kk::dn) (A++(kk,o)::B)=Gy e.pl dn (A++(kk,o)::B)+(if o.o.ow=e.pl then 1 else 0):=by
   rw [NC,XG nA,NC]
   show _+Gy e.pl (kk::dn) ([(kk,o)]++B)=_+Gy e.pl dn ([(kk,o)]++B)+_
   rw [NC,XG nB,NC]
   have h1:Gy e.pl (kk::dn) [(kk,o)]=if o.o.ow=e.pl then 1 else 0:=by
    unfold Gy
    by_cases h:o.o.ow=e.pl<;>simp [h]
   have h2:Gy e.pl dn [(kk,o)]=0:=by
    unfold Gy
    simp [hpd]
   rw [h1,h2]
   omega
  have hen:Gy e.pl (kk::dn) (A++(kk,o)::B)<=1000000:=by
   have:Gy e.pl (kk::dn) (A++(kk,o)::B)<=(A++(kk,o)::B).length:=List.length_filter_le _ _
   omega
  have nA2:kk∉keys (Dq e.pl dn A):=fun h=>nA (bg h)
  by_cases hp:o.o.ow=e.pl
  ·refine AB fun K k1=>?_
   refine BR [(true,0),(true,1),(true,2),(true,3),(true,4),(true,5),(true,6)] [] CB rfl (by kernel_rfl) (by kernel_rfl) rfl rfl ?_
   replace zg:=Bd.mk (And.intro g1 (And.intro g2 g4))
   refine Ap hp ?_
   refine k1 _ _ ?_
   refine AL ?_
   refine AR ?_
   refine AQ rfl fun K k1=>?_
   refine AR ?_
   refine jK (x:=kk) 2 Um rfl (by simp -implicitDefEqProofs (disch:=first|omega|decide) only [seval, -Int.reducePow, -Nat.reducePow,cC,pv,Ao,Az,undef,XH,g1,g2,g4]) rfl ?_
   rw [LJ,jc nA2]
   refine AR ?_
   refine k1 _ _ ?_
   rw [if_pos hp] at hK1
   have hwu:=wrap_u64 (x:=(Gy e.pl dn (A++(kk,o)::B):Int)+1) (by omega) (by omega)
   refine Cq (Rp b2 r (Bo IP (Dq e.pl dn A++Dq e.pl dn B)) (kk::dn) none::Dc b3 e :: .blk bS 147 [.map (some b1),.map (some b2)]::Ef b1 (Bo Value.bool sd)::Ei (Dq e.pl dn A++Dq e.pl dn B)) (fun w hw=>hw.tail.tail) ?_
   refine AU rfl ?_
   refine Ap hwu ?_
   refine ⟨kk::dn,⟨none, ?_⟩,hlt⟩
   rw [qK [],hK1]
   have hqq:Ru e.pl (kk,o)=none:=by unfold Ru;rw [if_pos hp]
   rw [hqq]
   exact NQ (And.intro @Int.natCast_add @Option.toList_none.{0})
  ·refine AB fun K k1=>?_
   refine BR [(true,0),(true,1),(true,2),(true,3),(true,4),(true,5),(true,6)] [] CB rfl (by kernel_rfl) (by kernel_rfl) rfl rfl ?_
   replace zg:=Bd.mk (And.intro g1 (And.intro g2 g4))
   refine Ap hp ?_
   refine k1 _ _ ?_
   refine AL ?_
   refine AR ?_
   rw [if_neg hp] at hK1
   obtain ⟨b,bc,⟨oh,ow,om,oc⟩⟩:=o
   refine Cq ([Rp b2 r (Bo IP (Dq e.pl dn A++(kk,⟨b,bc,⟨oh,ow,om,EI oc e.pl⟩⟩)::Dq e.pl dn B)) (kk::dn) (some kk),Dc b3 e,.blk bS 147 [.map (some b1),.map (some b2)],Ef b1 (Bo Value.bool sd)]++Ei (Dq e.pl dn A++(kk,⟨b,bc,⟨oh,ow,om,EI oc e.pl⟩⟩)::Dq e.pl dn B)) (fun w hw=>?_) ?_
   ·have hkk:Bo IP (Dq e.pl dn A++(kk,⟨b,bc,⟨oh,ow,om,EI oc e.pl⟩⟩)::Dq e.pl dn B)=Bo IP (Dq e.pl dn A++(kk,⟨b,bc,⟨oh,ow,om,oc⟩⟩)::Dq e.pl dn B):=by simp [Bo,IP]
    rw [hkk]
    exact hw.perm (Qr _ _ _ kk ⟨b,bc,⟨oh,ow,om,EI oc e.pl⟩⟩).symm
   refine AO ?_
   try simp only [BJ,BX]
   refine ⟨kk::dn,⟨some kk, ?_⟩,hlt⟩
   rw [qK [],hK1]
   have hqq:Ru e.pl (kk,⟨b,bc,⟨oh,ow,om,oc⟩⟩)=some (kk,⟨b,bc,⟨oh,ow,om,EI oc e.pl⟩⟩):=by unfold Ru;rw [if_neg hp]
   rw [hqq]
   exact NQ @Option.toList_some.{0}
section
variable {P:Program} {M:List Nat} {W w:World} {L:List Ai}
theorem oJ {F:Fr} {L0:List Ai} {d:Option Nat} {t ty:TypeId} {pos:String} {af:Array Edge} {gd:Option (Nat×Bool)} {m:Operand} {b:Nat} {l:List (Int×Value)} {z:Value} {K:Bool->Value->Prop}
  (ht:Xu P t z) (hm:ev F m = .map (some b)) (h:∀w,St M W L0 w->bP w b l) (hK:K true (.int .i64 (l.length:Int))) :
  RX P M W ⟨d,.call { callee:=.builtin .len,args := #[m],argTypes := #[t] },ty,pos,af,gd⟩ F L0 K:=by
 refine ⟨_,fun w hw=>?_,fun tok jf=>by subst jf;exact hK⟩
 obtain ⟨kt,et,i,h1,h2,h3,h4⟩:=Io ht
 obtain ⟨es,cl,h5,h6, -⟩:=h w hw
 have hl:es.size=l.length:=by
  have:=congrArg List.length h6
  simpa using this
 simp [execOp,resolve,invoke,builtin,hm,Builtin.len_,run_underlying h1,MapKept.run_getObj_map h5,Result.andThen,goInt,hl]
end
theorem YX (x:IK) (h:Nat):(TL x h = .pointer none/\KA x.pl h=none)∨∃o,BL x.os (Ac h)=some o/\o.o.h=h/\TL x h=IP o/\KA x.pl h=some o.o:=by
 unfold TL KA IK.pl
 cases hg:BL x.os (Ac h) with
 | none=>exact .inl ⟨rfl,by simp [Ff,hg]⟩
 | some o =>
  by_cases hh:o.o.h=h
  ·exact .inr ⟨o,rfl,hh,by simp [hh],by simp [Ff,hg,hh]⟩
  ·exact .inl ⟨by simp [hh],by simp [Ff,hg,hh]⟩
theorem LM {s:HS} {e:DZ} {o:Ob} (h:KA s e.h=some o):Uk s e=if e.op=2 then (if JQ e o=true then some { s with os:=EI s.os (Ac e.h) } else none)
  else if e.op=8 then (if (JQ e o&&La s e)=true then some { s with os:=CS s.os (Ac e.h) { o with ow:=e.ar } } else none)
  else if e.op=9 then Kk s e o 1
  else if e.op=10 then Kk s e o 2
  else YT s e o:=by unfold Uk;rw [h]
theorem TQ (e a b s m n:Ai) (T:List Ai):((e::n::T)++[a,b,s,m]).Perm (e::a::b::s::m::n::T):=List.Perm.cons e (List.perm_append_comm (l₁:=n::T) (l₂:=[a,b,s,m]))
theorem jg (e a b s m n:Ai) (T:List Ai):((e::s::m::n::T)++[a,b]).Perm (e::a::b::s::m::n::T):=List.Perm.cons e (List.perm_append_comm (l₁:=s::m::n::T) (l₂:=[a,b]))
theorem jh (x:IK) (e:DZ) (k:Nat) (hI:Ed k x.pl) (hk:k<=1000000) (he:e.ok) (W:World) (hst:St (Ak (hsL x)) W (hsL x) W) :
  Calls Tryz.prog 109 #[.pointer (some ⟨x.bS,0,none⟩),NZ e] W
  fun en w' => ∃i:Bool×IK,en = .returned (MM i)/\l7 x.bS (Uk x.pl e) i/\St (Ak (hsL x)) W (Rt i) w':=by
 have he1:=he.1
 obtain ⟨M,hM⟩:∃M,Ak (hsL x)=M:=⟨_,rfl⟩
 rw [hM] at hst ⊢
 have hfc:=YX x e.h
 have LF:∀o,KA x.pl e.h=some o->Rs k (Ac e.h,o):=fun o ho=>hI.get (Nw ho).1
 obtain ⟨s,hs⟩:∃s,x.pl=s:=⟨_,rfl⟩
 rw [hs] at hfc LF ⊢
 clear hM
 refine Ab (M:=M) Tryz.func109 [.tmp 4]  hst ?_
 refine AQ rfl fun K k0=>?_
 simp -implicitDefEqProofs (disch:=first|omega|decide) only [seval, -Int.reducePow, -Nat.reducePow,cC,pv,Ao,Az,undef,FN,NZ]
 intro b3 hb3 hf3
 refine k0 _ _ ?_
 refine AQ rfl fun K k0=>?_
 have zs:=Bd.mk FN
 refine Ah ?_
 refine Bq (hsL x) (.cons _ (List.Sublist.refl _)) (fun _:Unit=>TL x e.h) _ (fun w hw=>bZ x e.h he1 w hw) ?_
 intro _ _
 refine Ah ?_
 refine k0 _ _ ?_
 refine NY fun G1 hG=>?_
 have Kl:=congrFun hG 0
 have ACW:=congrFun hG 3
 have Lb:=congrFun hG 5
 clear hG
 try simp -implicitDefEqProofs (disch:=first|omega|decide) only [seval, -Int.reducePow, -Nat.reducePow,cC,pv,Ao,Az,undef,FN] at Kl ACW Lb
 have g1:=And.intro Kl (And.intro ACW Lb)
 rcases hfc with ⟨hv,hfo⟩|⟨o,hg,hh,hv,hfo⟩
 ·rw [hv] at g1
  have Lb:=g1.2.2
  refine AB fun K k0=>?_
  have zg:=Bd.mk g1
  refine BH ?_
  refine AL ?_
  refine AR ?_
  refine BH ?_
  refine AP (Br fun w hw=>?_)
  exact ⟨(false,x),rfl,.no (by unfold Uk;rw [hfo]) rfl,hw.tail⟩
 rw [hv] at g1
 have uI:=LF o.o hfo
 refine AB fun K k0=>?_
 have zg:=Bd.mk g1
 refine BH ?_
 refine AL ?_
 refine AR ?_
 refine AO (k0 _ _ ?_)
 obtain ⟨bS,b1,b2,sd,os⟩:=x
 dsimp only at hg g1 ⊢
 obtain ⟨pre,post,U8, -,hset,hdel⟩:=YS hg
 refine Cq (Dc b3 e::uE bS b1 b2 sd os o (pre++post)) (fun w hw=>hw.perm (.cons _ (JR U8))) ?_
 unfold uE
 refine EK (o.b≠b3) (fun w hw=>hw.l8 1 0 rfl rfl (by decide)) fun hn1=>?_
 refine EK (o.b≠bS) (fun w hw=>hw.l8 1 3 rfl rfl (by decide)) fun hn2=>?_
 refine EK (bS≠b3) (fun w hw=>hw.l8 3 0 rfl rfl (by decide)) fun hn3=>?_
 have hput:∀(o':Fs) w,o'.b=o.b->St M W (uE bS b1 b2 sd os o' (pre++post)) w->St M W (hsL ⟨bS,b1,b2,sd,CS os (Ac e.h) o'⟩) w:=fun o' w hb hw=>hw.perm (uH U8 hset hb).symm
 have uJ:∀o':Fs,IK.pl ⟨bS,b1,b2,sd,CS os (Ac e.h) o'⟩ = { s with os:=CS s.os (Ac e.h) o'.o } := fun o'=>by
  rw [<-hs]
  unfold IK.pl
  rw [TM]
 have hue:=LM hfo
 refine NY fun G2 hG=>?_
 have Oz:=congrFun hG 0
 have uK:=congrFun hG 3
 have ji:=congrFun hG 5
 clear hG
 try simp -implicitDefEqProofs (disch:=first|omega|decide) only [seval, -Int.reducePow, -Nat.reducePow,cC,pv,Ao,Az,undef,FN,g1] at Oz uK ji
 have g2:=And.intro Oz (And.intro uK ji)
 refine AB fun K k0=>?_
 refine A9 (fun _ _=>True) (fun F' L'=>F' 0=G2 0/\F' 3=G2 3/\F' 5=G2 5/\F' 6 = .bool (JQ e o.o)/\L'=[Dc b3 e,.blk o.b 208 [.int .u64 (o.o.h:Int),.int .i64 o.o.ow,.int .i64 o.o.mo,.map (some o.bc)],Ef o.bc (Bo (Value.int .i64) o.o.cs),.blk bS 147 [.map (some b1),.map (some b2)],Ef b1 (Bo Value.bool sd),Ef b2 (Bo IP os)]++Ei (pre++post)) ?_ ?_
 ·by_cases hp:o.o.ow=e.pl
  ·refine BR [(true,0),(true,1),(true,2),(true,3),(true,4),(true,5),(true,6),(true,7),(true,8),(true,9),(true,10),(true,11),(true,12),(true,13),(true,14),(true,15)] [] CB rfl (by kernel_rfl) (by kernel_rfl) rfl rfl ?_
   replace zg:=Bd.mk g2
   refine Ap hp ?_
   refine oJ Ny rfl (fun w hw=>hw.Nu 2 rfl) ?_
   rw [Kj]
   refine AR ?_
   unfold JQ
   simp [hp]
  ·refine BR [(true,0),(true,1),(true,2),(true,3),(true,4),(true,5),(true,6),(true,7),(true,8),(true,9),(true,10),(true,11),(true,12),(true,13),(true,14),(true,15)] [] CB rfl (by kernel_rfl) (by kernel_rfl) rfl rfl ?_
   replace zg:=Bd.mk g2
   refine Ap hp ?_
   unfold JQ
   simp [hp]
 intro G3 L' _ hF
 obtain ⟨q0,q3,q5,q6,rfl⟩:=hF
 have AHo:=q0.trans Oz
 have AHp:=q3.trans uK
 have AHq:=q5.trans ji
 have bu:=q6
 clear q0 q3 q5 q6
 have g3:=And.intro AHo (And.intro AHp (And.intro AHq bu))
 dsimp only [List.cons_append,List.nil_append]
 refine k0 _ _ ?_
 have hcnt:∀c∈o.o.cs,0<=c.2/\c.2<=4611686018427387904:=fun c hc=>by have:=uI.cnt c hc;omega
 have hsd:∀os',IK.pl ⟨bS,b1,b2,sd,os'⟩ = { s with os:=Bo Fs.o os' } := fun os'=>by rw [<-hs];rfl
 by_cases o2:e.op=2
 ·have d2:decide (e.op=2)=true:=by simp [o2]
  rw [if_pos o2] at hue
  refine AB fun K k0=>?_
  replace zg:=Bd.mk g3
  refine BH ?_
  refine Ad ?_
  refine FP d2 ?_
  refine AL ?_
  refine AR ?_
  refine AB fun K k1=>?_
  refine BH ?_
  refine AL ?_
  cases hfr:JQ e o.o with
  | false =>
   refine AR ?_
   refine AO (k1 _ _ ?_)
   refine BH ?_
   refine AP (Br fun w hw=>?_)
   rw [hfr] at hue
   exact ⟨(false,⟨bS,b1,b2,sd,os⟩),(by rw [hfr];rfl),.no hue rfl,hw.tail.perm (JR U8).symm⟩
  | true =>
   refine AR ?_
   refine Jk ?_
   refine BR [(true,0),(true,1),(true,2),(true,3),(true,4),(true,5),(false,6),(false,7)] [7] CB rfl (by kernel_rfl) (by kernel_rfl) rfl rfl ?_
   refine AR ?_
   refine Aa (fun w hw=>Ki e.h he1 w) ?_
   refine AR ?_
   refine Ui 5 Um rfl rfl rfl ?_
   rw [LJ,hdel]
   refine AR ?_
   refine k1 _ _ ?_
   refine BH ?_
   refine AP (Br fun w hw=>?_)
   rw [hfr] at hue
   refine ⟨(true,⟨bS,b1,b2,sd,pre++post⟩),(by rw [hfr];rfl),.yes hue ?_ rfl,hw.tail.tail.tail⟩
   rw [hsd,<-hdel,<-TK,<-hs]
   rfl
 rw [if_neg o2] at hue
 by_cases o8:e.op=8
 ·have d8:decide (e.op=8)=true:=by simp [o8]
  rw [if_pos o8] at hue
  refine AB fun K k0=>?_
  replace zg:=Bd.mk g3
  refine BH ?_
  refine Ad ?_
  refine FP o2 ?_
  refine AL ?_
  refine AR ?_
  refine FP d8 ?_
  refine AL ?_
  refine AR ?_
  refine AQ rfl fun K k1=>?_
  refine AR ?_
  refine Bq (JS ⟨bS,b1,b2,sd,os⟩) (.cons _ (.cons _ (.cons _ (.cons_cons _ (.cons_cons _ (List.nil_sublist _)))))) jS _ (fun w hw=>Qq ⟨bS,b1,b2,sd,os⟩ e he w hw) ?_
  rintro ⟨q,ok⟩ ⟨hok,hq⟩
  dsimp only at hok hq
  simp -implicitDefEqProofs (disch:=first|omega|decide) only [seval, -Int.reducePow, -Nat.reducePow,cC,pv,Ao,Az,undef,FN,jS,g3]
  refine k1 _ _ ?_
  rw [hs] at hok
  cases hfr:JQ e o.o with
  | false =>
   refine AB fun K k1=>?_
   refine FP hfr ?_
   refine AL ?_
   refine AR ?_
   refine AO (k1 _ _ ?_)
   refine FP hfr ?_
   refine AP (Br fun w hw=>?_)
   rw [hfr] at hue
   exact ⟨(false,⟨bS,b1,b2,sd,os⟩),rfl,.no hue rfl,hw.tail.perm (JR U8).symm⟩
  | true =>
   rw [hfr,Bool.true_and,<-hok] at hue
   cases ok with
   | false =>
    refine AB fun K k1=>?_
    refine FP hfr ?_
    refine AL ?_
    refine AR ?_
    refine AO (k1 _ _ ?_)
    refine FP hfr ?_
    refine AP (Br fun w hw=>?_)
    exact ⟨(false,⟨bS,b1,b2,sd,os⟩),rfl,.no hue rfl,hw.tail.perm (JR U8).symm⟩
   | true =>
    have hqa:=hq rfl
    subst hqa
    refine AB fun K k1=>?_
    refine FP hfr ?_
    refine AL ?_
    refine AR ?_
    refine AU rfl ?_
    refine AR ?_
    refine k1 _ _ ?_
    refine FP hfr ?_
    refine AP (Br fun w hw=>?_)
    exact ⟨(true,⟨bS,b1,b2,sd,CS os (Ac e.h) ⟨o.b,o.bc,{ o.o with ow:=e.ar }⟩⟩),rfl,.yes hue (uJ _) rfl,hput ⟨o.b,o.bc,{ o.o with ow:=e.ar }⟩ _ rfl hw.tail⟩
 rw [if_neg o8] at hue
 have qL:∀(m:Int) (i:Bool×Ob),i.1=Ip s e o.o m->(i.1=true->i.2=W9 o.o e.ar m)->Uk s e=Kk s e o.o m->l7 bS (Uk s e) (i.1,⟨bS,b1,b2,sd,CS os (Ac e.h) ⟨o.b,o.bc,i.2⟩⟩):=by
  intro m i h1 h2 h3
  rw [h3]
  unfold Kk
  cases hb:Ip s e o.o m with
  | false=>exact ⟨by rw [h1,hb];rfl,fun s' hs'=>by simp at hs',rfl⟩
  | true =>
   refine ⟨by rw [h1,hb];rfl,fun s' hs'=>?_,rfl⟩
   rw [if_pos rfl] at hs'
   injection hs' with hs'
   rw [<-hs',uJ]
   show _=_
   rw [h2 (h1.trans hb)]
 by_cases o9:e.op=9
 ·have d9:decide (e.op=9)=true:=by simp [o9]
  rw [if_pos o9] at hue
  refine AB fun K k0=>?_
  replace zg:=Bd.mk g3
  refine BH ?_
  refine Ad ?_
  refine FP o2 ?_
  refine AL ?_
  refine AR ?_
  refine FP o8 ?_
  refine AL ?_
  refine AR ?_
  refine FP d9 ?_
  refine AL ?_
  refine AR ?_
  refine AQ rfl fun K k1=>?_
  refine AR ?_
  refine Af (Dc b3 e::Ef b2 (Bo IP os)::Ei (pre++post)) (Iq o++JS ⟨bS,b1,b2,sd,os⟩) (TQ _ _ _ _ _ _ _) XE (fun i:Bool×Ob=>Iq ⟨o.b,o.bc,i.2⟩++JS ⟨bS,b1,b2,sd,os⟩) _ (fun w hw=>TN ⟨bS,b1,b2,sd,os⟩ o e 1 he w hcnt hw) ?_
  rintro i ⟨hi1,hi2⟩
  rw [hs] at hi1
  unfold Iq JS
  simp -implicitDefEqProofs (disch:=first|omega|decide) only [seval, -Int.reducePow, -Nat.reducePow,cC,pv,Ao,Az,undef,FN,XE,g3]
  refine k1 _ _ ?_
  refine AP (Br fun w hw=>?_)
  exact ⟨(i.1,⟨bS,b1,b2,sd,CS os (Ac e.h) ⟨o.b,o.bc,i.2⟩⟩),rfl,qL 1 i hi1 hi2 hue,hput ⟨o.b,o.bc,i.2⟩ _ rfl (hw.sub (.cons_cons _ (.cons_cons _ (.cons_cons _ (.cons_cons _ (.cons _ (List.Sublist.refl _)))))))⟩
 rw [if_neg o9] at hue
 by_cases oK:e.op=10
 ·have d10:decide (e.op=10)=true:=by simp [oK]
  rw [if_pos oK] at hue
  refine AB fun K k0=>?_
  replace zg:=Bd.mk g3
  refine BH ?_
  refine Ad ?_
  refine FP o2 ?_
  refine AL ?_
  refine AR ?_
  refine FP o8 ?_
  refine AL ?_
  refine AR ?_
  refine FP o9 ?_
  refine AL ?_
  refine AR ?_
  refine FP d10 ?_
  refine AL ?_
  refine AR ?_
  refine AQ rfl fun K k1=>?_
  refine AR ?_
  refine Af (Dc b3 e::Ef b2 (Bo IP os)::Ei (pre++post)) (Iq o++JS ⟨bS,b1,b2,sd,os⟩) (TQ _ _ _ _ _ _ _) XE (fun i:Bool×Ob=>Iq ⟨o.b,o.bc,i.2⟩++JS ⟨bS,b1,b2,sd,os⟩) _ (fun w hw=>TN ⟨bS,b1,b2,sd,os⟩ o e 2 he w hcnt hw) ?_
  rintro i ⟨hi1,hi2⟩
  rw [hs] at hi1
  unfold Iq JS
  simp -implicitDefEqProofs (disch:=first|omega|decide) only [seval, -Int.reducePow, -Nat.reducePow,cC,pv,Ao,Az,undef,FN,XE,g3]
  refine k1 _ _ ?_
  refine AP (Br fun w hw=>?_)
  exact ⟨(i.1,⟨bS,b1,b2,sd,CS os (Ac e.h) ⟨o.b,o.bc,i.2⟩⟩),rfl,qL 2 i hi1 hi2 hue,hput ⟨o.b,o.bc,i.2⟩ _ rfl (hw.sub (.cons_cons _ (.cons_cons _ (.cons_cons _ (.cons_cons _ (.cons _ (List.Sublist.refl _)))))))⟩
 rw [if_neg oK] at hue
 refine AB fun K k0=>?_
 replace zg:=Bd.mk g3
 refine BH ?_
 refine Ad ?_
 refine FP o2 ?_
 refine AL ?_
 refine AR ?_
 refine FP o8 ?_
 refine AL ?_
 refine AR ?_
 refine FP o9 ?_
 refine AL ?_
 refine AR ?_
 refine FP oK ?_
 refine AL ?_
 refine AR ?_
 refine AO (k0 _ _ ?_)
 refine AQ rfl fun K k0=>?_
 refine AR ?_
 refine Af (Dc b3 e :: .blk bS 147 [.map (some b1),.map (some b2)]::Ef b1 (Bo Value.bool sd)::Ef b2 (Bo IP os)::Ei (pre++post)) (Iq o) (jg _ _ _ _ _ _ _) XE (fun i:Bool×Ob=>Iq ⟨o.b,o.bc,i.2⟩) _ (fun w hw=>Un o e.pl w hcnt hw) ?_
 rintro i ⟨hi1,hi2⟩
 unfold Iq
 simp -implicitDefEqProofs (disch:=first|omega|decide) only [seval, -Int.reducePow, -Nat.reducePow,cC,pv,Ao,Az,undef,FN,XE,g3]
 refine k0 _ _ ?_
 refine AP (Br fun w hw=>?_)
 refine ⟨(i.1,⟨bS,b1,b2,sd,CS os (Ac e.h) ⟨o.b,o.bc,i.2⟩⟩),rfl, ?_,hput ⟨o.b,o.bc,i.2⟩ _ rfl (hw.sub (.cons_cons _ (.cons_cons _ (.cons _ (List.Sublist.refl _)))))⟩
 rw [hue]
 unfold YT
 by_cases h0:(BL o.o.cs e.pl).getD 0=0
 ·exact ⟨by rw [hi1];simp [h0],fun s' hs'=>by simp [h0] at hs',rfl⟩
 ·refine ⟨by rw [hi1];simp [h0],fun s' hs'=>?_,rfl⟩
  rw [if_neg h0] at hs'
  injection hs' with hs'
  rw [<-hs',uJ]
  show _=_
  rw [hi2 (by rw [hi1];simp [h0])]
end Go.Proofs.YtegonkdandmolaaGreat
