import Derived.Test.YtegonkdandmolaaGreatDlays0
import Derived.Deep.RegionHeld3
import Derived.BigQuiet
import Derived.Deep.QuietTactic
import Derived.Lib.AppendZeros
set_option linter.unusedVariables false
set_option linter.unusedSimpArgs false
set_option maxRecDepth 100000
set_option maxHeartbeats 4000000
namespace Go.Proofs.YtegonkdandmolaaGreat
structure Ext where
 off:Int
 len:Int
deriving DecidableEq,Repr
namespace Ext
def end_ (e:Ext):Int:=e.off+e.len
def prop (e:Ext):Prop:=0<=e.off/\0<e.len/\e.off+e.len<=1048576
instance (e:Ext):Decidable e.prop:=by unfold prop;exact inferInstance
def Og (e:Ext):Bool:=decide e.prop
end Ext
namespace Ex
def get (xs:List Ext) (i:Nat):Ext:=xs.getD i ⟨0,0⟩
def dJ (xs:List Ext) (i:Nat):Prop:=(get xs i).prop/\(0<i->(get xs (i-1)).end_<(get xs i).off)
instance (xs:List Ext) (i:Nat):Decidable (dJ xs i):=by unfold dJ;exact inferInstance
def OE (xs:List Ext) (k:Nat):Prop := ∀i,i<k->dJ xs i
def JX (xs:List Ext):Prop:=OE xs xs.length
def Uy (xs:List Ext):Bool:=(List.range xs.length).all fun i=>decide (dJ xs i)
theorem Gr (xs:List Ext):Uy xs=true↔JX xs:=by simp [Uy,JX,OE]
theorem Xi {xs:List Ext} (h:OE xs xs.length):Uy xs=true:=(Gr xs).2 h
theorem Zp {xs:List Ext} {i:Nat} (hi:i<xs.length) (h:¬dJ xs i):Uy xs=false:=by
 cases hv:Uy xs with
 | false=>rfl
 | true=>exact absurd ((Gr xs).1 hv i hi) h
theorem Oh {xs:List Ext} {k:Nat} (h:OE xs k) (hk:dJ xs k):OE xs (k+1):=fun i hi=>by
 rcases Nat.lt_or_ge i k with h'|h'
 ·exact h i h'
 ·obtain rfl:i=k:=by omega
  exact hk
def NL (xs:List Ext) (o:Int):Nat->Nat->Nat
 | 0,k=>k
 | f+1,k=>if (get xs k).end_<=o then NL xs o f (k+1) else k
def R5 (xs:List Ext) (o:Int):Nat:=NL xs o xs.length 0
theorem Q7 (xs:List Ext) (o:Int) (i:Nat) (hi:i<=xs.length) (h1:∀k,k<i->(get xs k).end_<=o) (h2:i<xs.length->o<(get xs i).end_) :
  ∀f k,k+f=xs.length->k<=i->NL xs o f k=i
 | 0,k,h,hk=>by unfold NL;omega
 | f+1,k,h,hk=>by
  unfold NL
  by_cases hlt:k<i
  ·rw [if_pos (h1 k hlt)]
   exact Q7 xs o i hi h1 h2 f (k+1) (by omega) (by omega)
  ·obtain rfl:k=i:=by omega
   rw [if_neg (by have:=h2 (by omega);omega)]
theorem Uz {xs:List Ext} {o:Int} {i:Nat} (hi:i<=xs.length) (h1:∀k,k<i->(get xs k).end_<=o) (h2:i<xs.length->o<(get xs i).end_):R5 xs o=i :=
 Q7 xs o i hi h1 h2 _ 0 (by omega) (by omega)
def J6 (xs:List Ext) (e:Ext) (i:Nat):Nat×Ext:=if 0<i/\(get xs (i-1)).end_=e.off then (i-1,⟨(get xs (i-1)).off,(get xs (i-1)).len+e.len⟩) else (i,e)
def JV (xs:List Ext) (e:Ext) (i:Nat):Nat×Ext:=if i<xs.length/\(get xs i).off=e.end_ then (i+1,⟨e.off,e.len+(get xs i).len⟩) else (i,e)
instance (xs:List Ext):Decidable (JX xs):=decidable_of_iff _ (Gr xs)
def F5 (xs:List Ext) (e:Ext):List Ext×Int :=
 if ¬JX xs∨¬e.prop then ([],1)
 else if R5 xs e.off<xs.length/\(get xs (R5 xs e.off)).off<e.end_ then ([],5)
 else (xs.take (J6 xs e (R5 xs e.off)).1++([(JV xs (J6 xs e (R5 xs e.off)).2 (R5 xs e.off)).2]++xs.drop (JV xs (J6 xs e (R5 xs e.off)).2 (R5 xs e.off)).1),0)
end Ex
open Go.RowKit Go.Shelf
theorem kW {o l:Int} (a:0<=o) (b:0<l) (c:l<=1048576) (d:o<=1048576-l):Ext.Og ⟨o,l⟩=true:=decide_eq_true (by unfold Ext.prop;dsimp only;omega)
theorem PN {o l:Int} (h:o<0\/l<=0\/1048576<l\/1048576-l<o):Ext.Og ⟨o,l⟩=false:=decide_eq_false (by unfold Ext.prop;dsimp only;omega)
theorem Kr (o l:Int) (w:World) (bl1 : -9223372036854775808<=l) (bl2:l<=9223372036854775807) :
  Calls Tryz.prog 178 #[.agg #[.int .i64 o,.int .i64 l]] w fun e w'=>e = .returned (.bool (Ext.Og ⟨o,l⟩))/\Below w.heap.size w w':=by
 by_cases a:0<=o
 ·by_cases b:0<l
  ·by_cases c:o<=1048576
   ·by_cases d:l<=1048576-o
    ·rw [kW a b (by omega) (by omega)]
     go_enter Tryz.func178,Tryz.ntmps178
     go_wp2
     go_ret
     exact ⟨rfl,(Below.refl _ _).alloc (Nat.le_refl _) _⟩
    ·rw [PN (by omega)]
     go_enter Tryz.func178,Tryz.ntmps178
     go_wp2
     go_ret
     exact ⟨rfl,(Below.refl _ _).alloc (Nat.le_refl _) _⟩
   ·rw [PN (by omega)]
    go_enter Tryz.func178,Tryz.ntmps178
    go_wp2
    go_ret
    exact ⟨rfl,(Below.refl _ _).alloc (Nat.le_refl _) _⟩
  ·rw [PN (by omega)]
   go_enter Tryz.func178,Tryz.ntmps178
   go_wp2
   go_ret
   exact ⟨rfl,(Below.refl _ _).alloc (Nat.le_refl _) _⟩
 ·rw [PN (by omega)]
  go_enter Tryz.func178,Tryz.ntmps178
  go_wp2
  go_ret
  exact ⟨rfl,(Below.refl _ _).alloc (Nat.le_refl _) _⟩
theorem Kt (x:Ext) (w:World) (h:x.prop):Calls Tryz.prog 178 #[.agg #[.int .i64 x.off,.int .i64 x.len]] w fun e w'=>e = .returned (.bool true)/\Below w.heap.size w w':=by
 have:=Kr x.off x.len w (by have:=h.2.1;omega) (by have:=h.2.2;have:=h.1;omega)
 rwa [show Ext.Og ⟨x.off,x.len⟩=true from decide_eq_true h] at this
theorem Yk (x:Ext) (w:World) (b1 : -9223372036854775808<=x.len) (b2:x.len<=9223372036854775807) (h:¬x.prop):Calls Tryz.prog 178 #[.agg #[.int .i64 x.off,.int .i64 x.len]] w fun e w'=>e = .returned (.bool false)/\Below w.heap.size w w':=by
 have:=Kr x.off x.len w b1 b2
 rwa [show Ext.Og ⟨x.off,x.len⟩=false from decide_eq_false h] at this
structure Di (w:World) (B:Nat) (A:Option Addr) (n c:Nat) (xs:List Ext):Prop where
 len:xs.length=n
 cap:n<=c
 max:c<=9223372036854775807
 cells:0<n→∃b off,A=some ⟨b,off,none⟩/\b<B∧∀i,i<n->w.cell? ⟨b,off+i*2,none⟩=some (.int .i64 (Ex.get xs i).off)/\w.cell? ⟨b,off+i*2+1,none⟩=some (.int .i64 (Ex.get xs i).len)
theorem Di.below {w w':World} {B n c:Nat} {A:Option Addr} {xs:List Ext} (h:Di w B A n c xs) (hb:Below B w w'):Di w' B A n c xs :=
 ⟨h.len,h.cap,h.max,fun hn=>by
  obtain ⟨b,off,e,hB,hc⟩:=h.cells hn
  exact ⟨b,off,e,hB,fun i hi=>⟨((dz hb).1 _ _ hB).trans (hc i hi).1,((dz hb).1 _ _ hB).trans (hc i hi).2⟩⟩⟩
theorem Di.more {w:World} {B B' n c:Nat} {A:Option Addr} {xs:List Ext} (h:Di w B A n c xs) (hB:B<=B'):Di w B' A n c xs :=
 ⟨h.len,h.cap,h.max,fun hn=>by
  obtain ⟨b,off,e,hb,hc⟩:=h.cells hn
  exact ⟨b,off,e,by omega,hc⟩⟩
theorem Di.at_ {w:World} {B n c b off:Nat} {A:Option Addr} {xs:List Ext} (h:Di w B A n c xs) (hA:A=some ⟨b,off,none⟩) {i:Nat} (hi:i<n) :
  w.cell? ⟨b,off+i*2,none⟩=some (.int .i64 (Ex.get xs i).off)/\w.cell? ⟨b,off+i*2+1,none⟩=some (.int .i64 (Ex.get xs i).len):=by
 obtain ⟨b',off',e,_,hc⟩:=h.cells (by omega)
 rw [hA] at e
 cases e
 exact hc i hi
theorem FT {w w':World} {a:Addr} {v:Value} (h:w.cell? a=some v) (hb:Below w.heap.size w w'):w'.cell? a=some v:=(hb.cell (World.block_lt_of_cell? w a h)).trans h
theorem NM {n:Nat} {W w w':World} (h:Below n W w) (hn:n<=W.heap.size) (hb:Below w.heap.size w w'):Below n W w':=h.trans (hb.mono (Nat.le_trans hn h.size))
def hit (x:Ext) (o:Int):Prop:=x.off<=o/\IntKind.i64.wrap (o-x.off)<x.len
instance (x:Ext) (o:Int):Decidable (hit x o):=by unfold hit;exact inferInstance
def vV (xs:List Ext) (o:Int) (i:Nat):Prop:=i<=xs.length/\(∀k,k<i->(Ex.get xs k).end_<=o)∧∀k,i<=k->k<xs.length->o<(Ex.get xs k).end_
theorem Xj {xs:List Ext} (h:Ex.JX xs):∀d k,k+d<xs.length->(Ex.get xs k).end_<=(Ex.get xs (k+d)).end_
 | 0,_,_=>Int.le_refl _
 | d+1,k,hd=>by
  have h1:=Xj h d k (by omega)
  have h2:=(h (k+d+1) (by omega)).2 (by omega)
  have h3:=(h (k+d+1) (by omega)).1
  rw [show k+d+1-1=k+d from rfl] at h2
  unfold Ext.prop at h3
  unfold Ext.end_ at *
  rw [show k+(d+1)=k+d+1 from rfl]
  omega
theorem Yl {xs:List Ext} (h:Ex.JX xs) {j k:Nat} (hj:j<=k) (hk:k<xs.length):(Ex.get xs j).end_<=(Ex.get xs k).end_:=by
 obtain ⟨d,rfl⟩:=Nat.le.dest hj
 exact Xj h d j hk
def Bn (xs:List Ext):List Value:=xs.flatMap fun e=>[.int .i64 e.off,.int .i64 e.len]
theorem Ik (xs:List Ext):(Bn xs).length=xs.length*2:=by
 induction xs with
 | nil=>rfl
 | cons x xs ih=>simp [Bn] at ih ⊢;omega
theorem FD (xs:List Ext) (x:Ext):Bn (xs++[x])=Bn xs++[.int .i64 x.off,.int .i64 x.len]:=by simp [Bn]
theorem Ew:∀(xs:List Ext) (i:Nat),i<xs.length->(Bn xs)[i*2]? = some (.int .i64 (Ex.get xs i).off)/\(Bn xs)[i*2+1]? = some (.int .i64 (Ex.get xs i).len)
 | [],i,h=>by simp at h
 | x::xs,0,_=>by simp [Bn,Ex.get]
 | x::xs,i+1,h=>by
  have:=Ew xs i (by simpa using h)
  have e1:(i+1)*2=i*2+1+1:=by omega
  rw [e1]
  simpa [Bn,Ex.get] using this
theorem Di.Lr {w:World} {base n c:Nat} {A:Option Addr} {xs:List Ext} (h:w.ownsRow base 103 2 (.slice A n c) n (Bn xs)):Di w w.heap.size A n c xs:=by
 have hl:xs.length=n:=by have:=h.1;rw [Ik] at this;omega
 rcases h.2 with ⟨hv,hn⟩|⟨g,cap,cur,hv,hb,hg,hnc,hcm,hsz,htk⟩
 ·cases hv
  exact ⟨hl,by omega,by omega,fun h=>by omega⟩
 ·cases hv
  refine ⟨hl,hnc,hcm,fun hn=>⟨g,0,rfl,h.lt g rfl |>.2,fun i hi=>?_⟩⟩
  have hc:=Ew xs i (by omega)
  have e1:(⟨g,0,none⟩:Addr).add (i*2)=⟨g,i*2,none⟩:=by unfold Addr.add;split<;>simp_all
  have e2:(⟨g,0,none⟩:Addr).add (i*2+1)=⟨g,i*2+1,none⟩:=by unfold Addr.add;split<;>simp_all
  have h1:=h.cells (g:=g) rfl _ _ hc.1
  have h2:=h.cells (g:=g) rfl _ _ hc.2
  rw [e1] at h1
  rw [e2] at h2
  simpa using ⟨h1,h2⟩
theorem Di.reads {w:World} {B n c:Nat} {A:Option Addr} {xs:List Ext} (h:Di w B A n c xs):Reads w B 2 A n (Bn xs) :=
 ⟨by rw [Ik,h.len],fun hn=>by
  obtain ⟨b,off,e,hB,hc⟩:=h.cells hn
  refine ⟨_,e,hB,fun j u hu=>?_⟩
  have hj:j<n*2:=by
   have:=(List.getElem?_eq_some_iff.1 hu).1
   rw [Ik,h.len] at this
   omega
  have e1:∀i,(⟨b,off,none⟩:Addr).add i=⟨b,off+i,none⟩:=fun i=>by unfold Addr.add;split<;>simp_all
  rw [e1]
  have hd:=Ew xs (j / 2) (by have:=h.len;omega)
  have hcc:=hc (j / 2) (by omega)
  rcases Nat.mod_two_eq_zero_or_one j with h0|h1
  ·have e2:j / 2*2=j:=by omega
   rw [e2] at hd hcc
   rw [hcc.1,<-hu,hd.1]
  ·have e2:j / 2*2+1=j:=by omega
   rw [Nat.add_assoc,e2] at hcc
   rw [e2] at hd
   rw [hcc.2,<-hu,hd.2]⟩
section
variable {W w:World} {L:List Ai} {n c:Nat} {A:Option Addr} {xs:List Ext}
theorem Di.at (h:Di W W.heap.size A n c xs) (hw:St [] W L w):Di w w.heap.size A n c xs:=(h.below hw.below).more hw.Bz.size
def aP (e:Ext):Value:=.agg #[.int .i64 e.off,.int .i64 e.len]
theorem Di.ld {b off i:Nat} (h:Di W W.heap.size (some ⟨b,off,none⟩) n c xs) (hi:i<n):LD Tryz.prog [] W L 103 ⟨b,off+i*2,none⟩ (.agg #[.int .i64 (Ex.get xs i).off,.int .i64 (Ex.get xs i).len]):=fun w hw=>by
 obtain ⟨b',off',e,hb,hc⟩:=h.cells (by omega)
 cases e
 obtain ⟨h1,h2⟩:=hc i hi
 refine Hz (P:=Tryz.prog) (m:=2) (by kernel_rfl) [.int .i64 (Ex.get xs i).off,.int .i64 (Ex.get xs i).len] rfl fun j v hv=>?_
 rw [Addr.add_lit,hw.FX hb (by simp)]
 match j,hv with
 | 0,hv=>cases hv;exact h1
 | 1,hv=>cases hv;exact h2
theorem Di.ld0 {b off i:Nat} (h:Di W W.heap.size (some ⟨b,off,none⟩) n c xs) (hi:i<n):LD Tryz.prog [] W L 3 ⟨b,off+i*2,none⟩ (.int .i64 (Ex.get xs i).off):=fun w hw=>by
 obtain ⟨b',off',e,hb,hc⟩:=h.cells (by omega)
 cases e
 exact Es (P:=Tryz.prog) (m:=1) (by kernel_rfl) ((hw.FX hb (by simp)).trans (hc i hi).1)
theorem Di.ld1 {b off i:Nat} (h:Di W W.heap.size (some ⟨b,off,none⟩) n c xs) (hi:i<n):LD Tryz.prog [] W L 3 ⟨b,off+i*2+1,none⟩ (.int .i64 (Ex.get xs i).len):=fun w hw=>by
 obtain ⟨b',off',e,hb,hc⟩:=h.cells (by omega)
 cases e
 exact Es (P:=Tryz.prog) (m:=1) (by kernel_rfl) ((hw.FX hb (by simp)).trans (hc i hi).2)
end
theorem kX {xs:List Ext} {k i:Nat} (h:i<k):Ex.get (xs.take k) i=Ex.get xs i:=by
 unfold Ex.get
 rw [List.getD_eq_getElem?_getD,List.getD_eq_getElem?_getD,List.getElem?_take,if_pos h]
theorem kY {xs:List Ext} {k i:Nat} : Ex.get (xs.drop k) i=Ex.get xs (k+i):=by
 unfold Ex.get
 rw [List.getD_eq_getElem?_getD,List.getD_eq_getElem?_getD,List.getElem?_drop]
theorem Di.take {w:World} {B n c:Nat} {A:Option Addr} {xs:List Ext} (h:Di w B A n c xs) {k:Nat} (hk:k<=n):Di w B A k c (xs.take k) :=
 ⟨by rw [List.length_take,h.len];omega,by have:=h.cap;omega,h.max,fun hn=>by
  obtain ⟨b,off,e,hb,hc⟩:=h.cells (by omega)
  exact ⟨b,off,e,hb,fun i hi=>by rw [kX hi];exact hc i (by omega)⟩⟩
theorem Di.drop {w:World} {B n c:Nat} {A:Option Addr} {xs:List Ext} (h:Di w B A n c xs) {k:Nat} (hk:k<=n):Di w B (J9 c k 2 A) (n-k) (c-k) (xs.drop k) :=
 ⟨by rw [List.length_drop,h.len],by have:=h.cap;omega,by have:=h.max;omega,fun hn=>by
  obtain ⟨b,off,e,hb,hc⟩:=h.cells (by omega)
  have:=h.cap
  refine ⟨b,off+k*2,by rw [e,PY (by omega),Addr.add_lit],hb,fun i hi=>?_⟩
  rw [kY]
  have e1:off+k*2+i*2=off+(k+i)*2:=by omega
  rw [e1]
  exact hc (k+i) (by omega)⟩
theorem Di.ed {M:List Nat} {W w:World} {L:List Ai} {b:Nat} {t:TypeId} {e:Ext} (hw:St M W L w) (hm:Ai.blk b t [.int .i64 e.off,.int .i64 e.len]∈L):Di w w.heap.size (some ⟨b,0,none⟩) 1 1 [e] :=
 ⟨rfl,Nat.le_refl _,by omega,fun _=>⟨_,_,rfl,(hw.own _ hm b (by simp [Ai.foot])).2,fun i hi=>by
  obtain rfl:i=0:=by omega
  exact ⟨(hw.Dz hm 0).trans rfl,(hw.Dz hm 1).trans rfl⟩⟩⟩
theorem dK (e:Ext):e.Og=true↔0<=e.off/\0<e.len/\e.off+e.len<=1048576:=decide_eq_true_iff
theorem He (l:List Ext):ones (Bn l)=true:=by
 unfold ones Bn
 simp [List.all_flatMap,Value.oneCell']
def UM (T:TypeId) (size:Nat) (f:Value->Value) (xs:List Value) (w:World) (e:Ending) (w':World):Prop :=
 ∃A n c,e = .returned (f (.slice A n c))/\w'.ownsRow w.heap.size T size (.slice A n c) n xs/\Below w.heap.size w w'
def Jw (b:Nat) (e:Ext):Ai:=.blk b 103 [.int .i64 e.off,.int .i64 e.len]
theorem kZ {xs:List Ext} {e e1:Ext} {i f1:Nat} (hi:i<=xs.length) (hv:Ex.JX xs) (hp:e.prop) (h:Ex.J6 xs e i=(f1,e1)):e1.prop/\f1<=i:=by
 unfold Ex.J6 at h
 split at h
 ·rename_i hc
  have hx:=(hv (i-1) (by omega)).1
  obtain ⟨rfl,rfl⟩:=Prod.mk.inj h
  have h2:=hc.2
  unfold Ext.end_ at h2
  unfold Ext.prop at *
  dsimp only
  omega
 ·obtain ⟨rfl,rfl⟩:=Prod.mk.inj h
  exact ⟨hp,Nat.le_refl _⟩
theorem kg {xs:List Ext} {e1 e2:Ext} {i l2:Nat} (hi:i<=xs.length) (h:Ex.JV xs e1 i=(l2,e2)):i<=l2/\l2<=xs.length:=by
 unfold Ex.JV at h
 split at h
 ·rename_i hc
  obtain ⟨rfl,rfl⟩:=Prod.mk.inj h
  omega
 ·obtain ⟨rfl,rfl⟩:=Prod.mk.inj h
  omega
theorem ko:type_of% @Jw.eq_1:=@Jw.eq_1
theorem Di.Av {M:List Nat} {W w:World} {L:List Ai} {A:Option Addr} {n c:Nat} {xs:List Ext} (hw:St M W L w) (hm:Ai.row (.slice A n c) 103 2 n (Bn xs)∈L):Di w w.heap.size A n c xs:=Di.Lr (hw.holds _ hm)
namespace Ex
def GG (x e:Ext):List Ext:=(if x.off<e.off then [⟨x.off,e.off-x.off⟩] else [])++(if e.end_<x.end_ then [⟨e.end_,x.end_-e.end_⟩] else [])
def ku (xs:List Ext) (e:Ext) (i:Nat):Prop:=i=xs.length\/e.off<(get xs i).off\/(get xs i).end_<e.end_
instance (xs:List Ext) (e:Ext) (i:Nat):Decidable (ku xs e i):=by unfold ku;exact inferInstance
def U0 (xs:List Ext) (e:Ext):List Ext×Int :=
 if ¬JX xs∨¬e.prop then ([],1)
 else if ku xs e (R5 xs e.off) then ([],6)
 else (xs.take (R5 xs e.off)++(GG (get xs (R5 xs e.off)) e++xs.drop (R5 xs e.off+1)),0)
end Ex
theorem Eh {xs:List Ext} (h:Ex.JX xs) {j k:Nat} (hj:j<k) (hk:k<xs.length):(Ex.get xs j).end_<(Ex.get xs k).off:=by
 have h1:=Yl h (show j<=k-1 by omega) (by omega)
 have h2:=(h k hk).2 (by omega)
 omega
theorem CZ {xs:List Ext} (h:Ex.JX xs) {k:Nat} (hk:k<xs.length):0<=(Ex.get xs k).off/\0<(Ex.get xs k).len/\(Ex.get xs k).off+(Ex.get xs k).len<=1048576:=(h k hk).1
def Ex.iL (xs:List Ext) (f1 k:Nat):List Ext:=xs.take (min k f1)
def Ex.iR (xs:List Ext) (l2 k:Nat):List Ext:=(xs.take k).drop l2
def Ex.iE (e e1 e2:Ext) (f1 i k:Nat):Ext:=if k<=f1 then e else if k<=i then e1 else e2
theorem dL {xs:List Ext} {e1 e2:Ext} {i l2:Nat} (hv:Ex.JX xs) (hp:e1.prop) (h:Ex.JV xs e1 i=(l2,e2)):e2.prop:=by
 unfold Ex.JV at h
 split at h
 ·rename_i hc
  have hx:=CZ hv hc.1
  obtain ⟨rfl,rfl⟩:=Prod.mk.inj h
  have h2:=hc.2
  unfold Ext.end_ at h2
  unfold Ext.prop at *
  dsimp only
  omega
 ·obtain ⟨rfl,rfl⟩:=Prod.mk.inj h
  exact hp
theorem og {e e1 e2:Ext} {f1 i k:Nat} (h:e.prop) (h1:e1.prop) (h2:e2.prop):(Ex.iE e e1 e2 f1 i k).prop:=by
 unfold Ex.iE
 split
 ·exact h
 ·split
  ·exact h1
  ·exact h2
theorem Q8 {xs:List Ext} {k:Nat} (hk:k<xs.length):xs.take (k+1)=xs.take k++[Ex.get xs k]:=by
 rw [List.take_add_one]
 simp [Ex.get,hk]
theorem PO {xs:List Ext} {f1 k:Nat} (h:f1<=k):Ex.iL xs f1 (k+1)=Ex.iL xs f1 k:=by
 unfold Ex.iL
 rw [Nat.min_eq_right h,Nat.min_eq_right (by omega)]
theorem uh {xs:List Ext} {f1 k:Nat} (hk:k<xs.length) (h:k<f1):Ex.iL xs f1 (k+1)=Ex.iL xs f1 k++[Ex.get xs k]:=by
 unfold Ex.iL
 rw [Nat.min_eq_left (by omega),Nat.min_eq_left (by omega),Q8 hk]
theorem MO {xs:List Ext} {l2 k:Nat} (h:k<=l2):Ex.iR xs l2 k=[]:=by
 unfold Ex.iR
 rw [List.drop_eq_nil_iff,List.length_take]
 omega
theorem kv {xs:List Ext} {l2 k:Nat} (hk:k<xs.length) (h:l2<=k):Ex.iR xs l2 (k+1)=Ex.iR xs l2 k++[Ex.get xs k]:=by
 unfold Ex.iR
 rw [Q8 hk,List.drop_append_of_le_length (by rw [List.length_take];omega)]
inductive oq (xs:List Ext) (e e1 e2:Ext) (f1 l2 i k:Nat):Prop
 | left (a:(Ex.get xs k).end_=(Ex.iE e e1 e2 f1 i k).off) (b:Ex.iE e e1 e2 f1 i (k+1)=⟨(Ex.get xs k).off,(Ex.get xs k).len+(Ex.iE e e1 e2 f1 i k).len⟩) (c:Ex.iL xs f1 (k+1)=Ex.iL xs f1 k) (d:Ex.iR xs l2 (k+1)=Ex.iR xs l2 k)
 | right (a:(Ex.get xs k).end_≠(Ex.iE e e1 e2 f1 i k).off) (a2:(Ex.iE e e1 e2 f1 i k).end_=(Ex.get xs k).off) (b:Ex.iE e e1 e2 f1 i (k+1)=⟨(Ex.iE e e1 e2 f1 i k).off,(Ex.iE e e1 e2 f1 i k).len+(Ex.get xs k).len⟩) (c:Ex.iL xs f1 (k+1)=Ex.iL xs f1 k) (d:Ex.iR xs l2 (k+1)=Ex.iR xs l2 k)
 | low (a:(Ex.get xs k).end_≠(Ex.iE e e1 e2 f1 i k).off) (a2:(Ex.iE e e1 e2 f1 i k).end_≠(Ex.get xs k).off) (a3:(Ex.get xs k).off<(Ex.iE e e1 e2 f1 i k).off) (b:Ex.iE e e1 e2 f1 i (k+1)=Ex.iE e e1 e2 f1 i k) (c:Ex.iL xs f1 (k+1)=Ex.iL xs f1 k++[Ex.get xs k]) (d:Ex.iR xs l2 (k+1)=Ex.iR xs l2 k)
 | high (a:(Ex.get xs k).end_≠(Ex.iE e e1 e2 f1 i k).off) (a2:(Ex.iE e e1 e2 f1 i k).end_≠(Ex.get xs k).off) (a3:¬(Ex.get xs k).off<(Ex.iE e e1 e2 f1 i k).off) (b:Ex.iE e e1 e2 f1 i (k+1)=Ex.iE e e1 e2 f1 i k) (c:Ex.iL xs f1 (k+1)=Ex.iL xs f1 k) (d:Ex.iR xs l2 (k+1)=Ex.iR xs l2 k++[Ex.get xs k])
theorem ky {xs:List Ext} {e e1 e2:Ext} {i f1 l2:Nat} (hv:Ex.JX xs) (hp:e.prop) (hA:vV xs e.off i) (hno:¬(i<xs.length/\(Ex.get xs i).off<e.end_)) (hL:Ex.J6 xs e i=(f1,e1)) (hR:Ex.JV xs e1 i=(l2,e2)) {k:Nat} (hk:k<xs.length) :
  oq xs e e1 e2 f1 l2 i k:=by
 obtain ⟨hi,hlo,hhi⟩:=hA
 have hxk:=CZ hv hk
 have hpe:0<=e.off/\0<e.len/\e.off+e.len<=1048576:=hp
 have dx:(f1=i/\e1=e∧¬(0<i/\(Ex.get xs (i-1)).end_=e.off))\/(f1+1=i/\(Ex.get xs f1).end_=e.off/\e1=⟨(Ex.get xs f1).off,(Ex.get xs f1).len+e.len⟩):=by
  unfold Ex.J6 at hL
  split at hL
  ·rename_i hc
   obtain ⟨rfl,rfl⟩:=Prod.mk.inj hL
   exact .inr ⟨by omega,hc.2,rfl⟩
  ·rename_i hc
   obtain ⟨rfl,rfl⟩:=Prod.mk.inj hL
   exact .inl ⟨rfl,rfl,hc⟩
 have kz:(l2=i/\e2=e1∧¬(i<xs.length/\(Ex.get xs i).off=e1.end_))\/(l2=i+1/\i<xs.length/\(Ex.get xs i).off=e1.end_/\e2=⟨e1.off,e1.len+(Ex.get xs i).len⟩):=by
  unfold Ex.JV at hR
  split at hR
  ·rename_i hc
   obtain ⟨rfl,rfl⟩:=Prod.mk.inj hR
   exact .inr ⟨rfl,hc.1,hc.2,rfl⟩
  ·rename_i hc
   obtain ⟨rfl,rfl⟩:=Prod.mk.inj hR
   exact .inl ⟨rfl,rfl,hc⟩
 have he1:e1.off<=e.off/\e1.off+e1.len=e.off+e.len:=by
  rcases dx with ⟨_,rfl,_⟩|⟨h1,h2,rfl⟩
  ·exact ⟨Int.le_refl _,rfl⟩
  ·have:=CZ hv (show f1<xs.length by omega)
   unfold Ext.end_ at h2
   dsimp only
   omega
 have hend:(Ex.get xs k).end_=(Ex.get xs k).off+(Ex.get xs k).len:=rfl
 by_cases h1:k<f1
 ·have hE:Ex.iE e e1 e2 f1 i k=e:=if_pos (by omega)
  have hE':Ex.iE e e1 e2 f1 i (k+1)=e:=if_pos (by omega)
  have hki:k<i:=by rcases dx with ⟨h,_⟩|⟨h,_⟩<;>omega
  have hle:=hlo k hki
  have hne:(Ex.get xs k).end_≠e.off:=by
   rcases dx with ⟨h,_,hc⟩|⟨h,hc,_⟩
   ·intro hq
    by_cases hk1:k=i-1
    ·subst hk1;exact hc ⟨by omega,hq⟩
    ·have g1:=Eh hv (show k<i-1 by omega) (by omega)
     have g2:=hlo (i-1) (by omega)
     have g3:=CZ hv (show i-1<xs.length by omega)
     have:(Ex.get xs (i-1)).end_=(Ex.get xs (i-1)).off+(Ex.get xs (i-1)).len:=rfl
     omega
   ·intro hq
    have g1:=Eh hv h1 (by omega)
    have g3:=CZ hv (show f1<xs.length by omega)
    have:(Ex.get xs f1).end_=(Ex.get xs f1).off+(Ex.get xs f1).len:=rfl
    omega
  have IM:e.end_=e.off+e.len:=rfl
  refine .low ?_ ?_ ?_ ?_ (uh hk h1) (by rw [MO,MO]<;>(rcases kz with ⟨h,_⟩|⟨h,_⟩<;>omega))<;>simp only [hE,hE']
  ·exact hne
  ·omega
  ·omega
 ·by_cases h2:k<i
  ·have hf:k=f1/\(Ex.get xs f1).end_=e.off/\e1=⟨(Ex.get xs f1).off,(Ex.get xs f1).len+e.len⟩:=by
    rcases dx with ⟨h,_⟩|⟨h,h3,h4⟩
    ·omega
    ·exact ⟨by omega,h3,h4⟩
   obtain ⟨rfl,h3,h4⟩:=hf
   have hE:Ex.iE e e1 e2 k i k=e:=if_pos (by omega)
   have hE':Ex.iE e e1 e2 k i (k+1)=e1:=by unfold Ex.iE;rw [if_neg (by omega),if_pos (by omega)]
   refine .left ?_ ?_ (PO (by omega)) (by rw [MO,MO]<;>(rcases kz with ⟨h,_⟩|⟨h,_⟩<;>omega))<;>simp only [hE,hE']
   ·exact h3
   ·exact h4
  ·
   have hf1:f1<=i:=by rcases dx with ⟨h,_⟩|⟨h,_⟩<;>omega
   have hgt:=hhi k (by omega) hk
   have hEe:k=i->Ex.iE e e1 e2 f1 i k=e1:=fun hki=>by
    subst hki
    unfold Ex.iE
    rcases dx with ⟨h,h',_⟩|⟨h,_⟩
    ·rw [if_pos (by omega),h']
    ·rw [if_neg (by omega),if_pos (by omega)]
   have hE2:k≠i->Ex.iE e e1 e2 f1 i k=e2:=fun hki=>by
    unfold Ex.iE
    rw [if_neg (by omega),if_neg (by omega)]
   have hE':Ex.iE e e1 e2 f1 i (k+1)=e2:=by
    unfold Ex.iE
    rw [if_neg (by omega),if_neg (by omega)]
   by_cases hki:k=i
   ·have hE:=hEe hki
    subst hki
    have hov:e.end_<=(Ex.get xs k).off:=by
     have:¬(Ex.get xs k).off<e.end_:=fun h=>hno ⟨hk,h⟩
     omega
    have IM:e.end_=e.off+e.len:=rfl
    have AIL:e1.end_=e1.off+e1.len:=rfl
    rcases kz with ⟨h,h',hc⟩|⟨h,_,hc,h'⟩
    ·refine .high ?_ ?_ ?_ ?_ (PO hf1) (kv hk (by omega))<;>simp only [hE,hE']
     ·omega
     ·intro hq;exact hc ⟨hk,hq.symm⟩
     ·omega
     ·exact h'
    ·refine .right ?_ ?_ ?_ (PO hf1) (by rw [MO,MO]<;>omega)<;>simp only [hE,hE']
     ·omega
     ·exact hc.symm
     ·exact h'
   ·have hE:=hE2 hki
    have g1:=Eh hv (show i<k by omega) hk
    have g2:=CZ hv (show i<xs.length by omega)
    have g3:(Ex.get xs i).end_=(Ex.get xs i).off+(Ex.get xs i).len:=rfl
    have hov:e.end_<=(Ex.get xs i).off:=by
     have:¬(Ex.get xs i).off<e.end_:=fun h=>hno ⟨by omega,h⟩
     omega
    have IM:e.end_=e.off+e.len:=rfl
    have AIL:e1.end_=e1.off+e1.len:=rfl
    have ALR:e2.end_=e2.off+e2.len:=rfl
    have he2:e2.off=e1.off/\e2.off+e2.len<=(Ex.get xs i).end_:=by
     rcases kz with ⟨h,h',hc⟩|⟨h,_,hc,h'⟩
     ·subst h';exact ⟨rfl,by omega⟩
     ·subst h';exact ⟨rfl,by dsimp only;omega⟩
    refine .high ?_ ?_ ?_ ?_ (PO (by omega)) (kv hk (by rcases kz with ⟨h,_⟩|⟨h,_⟩<;>omega))<;>simp only [hE,hE']
    ·omega
    ·omega
    ·omega
theorem U1 {xs:List Ext} (hv:Ex.JX xs) (o:Int):∃i,vV xs o i:=by
 suffices h:∀d i,i+d=xs.length->(∀k,k<i->(Ex.get xs k).end_<=o)→∃i,vV xs o i from h xs.length 0 (by omega) (fun k hk=>by omega)
 intro d
 induction d with
 | zero=>exact fun i hi h=>⟨i,by omega,h,fun k h1 h2=>by omega⟩
 | succ d ih =>
  intro i hi h
  by_cases hc:o<(Ex.get xs i).end_
  ·exact ⟨i,by omega,h,fun k h1 h2=>by have:=Yl hv h1 h2;omega⟩
  ·exact ih (i+1) (by omega) (fun k hk=>by
    by_cases hki:k=i
    ·subst hki;omega
    ·exact h k (by omega))
theorem k_ {xs:List Ext} {e:Ext} {i:Nat} (hv:Ex.JX xs) (hA:vV xs e.off i) {k:Nat} (hk:k<xs.length) (h:(Ex.get xs k).off<e.end_/\e.off<(Ex.get xs k).end_):i<xs.length/\(Ex.get xs i).off<e.end_:=by
 obtain ⟨hi,hlo,hhi⟩:=hA
 by_cases hki:k<i
 ·have:=hlo k hki;omega
 ·refine ⟨by omega, ?_⟩
  by_cases hq:k=i
  ·subst hq;exact h.1
  ·have g1:=Eh hv (show i<k by omega) hk
   have g2:=CZ hv (show i<xs.length by omega)
   have g3:(Ex.get xs i).end_=(Ex.get xs i).off+(Ex.get xs i).len:=rfl
   omega
namespace Ex
def Ym (xs:List Ext):Nat->Int
 | 0=>0
 | k+1=>(get xs k).end_
def Xk (xs:List Ext) (k:Nat):List Ext:=if Ym xs k<(get xs k).off then [⟨Ym xs k,(get xs k).off-Ym xs k⟩] else []
def cOut (xs:List Ext) (k:Nat):List Ext:=(List.range k).flatMap (Xk xs)
theorem JW (xs:List Ext) (k:Nat):cOut xs (k+1)=cOut xs k++Xk xs k:=by simp [cOut,List.range_succ]
def lC (xs:List Ext) (s:Int):Bool := !Uy xs||decide (s<0)||decide (1048576<s)||(decide (0<xs.length)&&decide (s<(get xs (xs.length-1)).end_))
def FM (xs:List Ext) (s:Int):List Ext×Int:=if lC xs s then ([],1) else (cOut (xs++[⟨s,0⟩]) (xs.length+1),0)
theorem Zq {xs ys:List Ext} {i:Nat} (h:i<xs.length):get (xs++ys) i=get xs i:=by
 unfold get
 rw [List.getD_eq_getElem?_getD,List.getD_eq_getElem?_getD,List.getElem?_append_left h]
theorem lD (xs:List Ext) (x:Ext):get (xs++[x]) xs.length=x:=by
 unfold get
 rw [List.getD_eq_getElem?_getD]
 simp
theorem Zr {xs ys:List Ext} {k:Nat} (h:k<=xs.length):Ym (xs++ys) k=Ym xs k:=by
 cases k with
 | zero=>rfl
 | succ k=>show (get (xs++ys) k).end_=(get xs k).end_;rw [Zq (by omega)]
theorem Xl {xs ys:List Ext} : ∀ {k:Nat},k<=xs.length->cOut (xs++ys) k=cOut xs k
 | 0,_=>rfl
 | k+1,h=>by rw [JW,JW,Xl (by omega)];unfold Xk;rw [Zr (by omega),Zq (by omega)]
theorem lF {xs:List Ext} (hv:JX xs) {k:Nat} (hk:k<=xs.length):0<=Ym xs k/\Ym xs k<=1048576:=by
 cases k with
 | zero=>exact ⟨Int.le_refl 0,show (0:Int)<=1048576 by omega⟩
 | succ k =>
  have:0<=(get xs k).off/\0<(get xs k).len/\(get xs k).off+(get xs k).len<=1048576:=(hv k (by omega)).1
  show 0<=(get xs k).off+(get xs k).len/\(get xs k).off+(get xs k).len<=1048576
  omega
end Ex
theorem lG:type_of% @Jw.eq_1:=@Jw.eq_1
theorem Q9 (A:Option Addr) (n c:Nat) (xs:List Ext) (w:World) (hE:Di w w.heap.size A n c xs) (hR:Hid (∀i,i<n → -9223372036854775808<=(Ex.get xs i).len/\(Ex.get xs i).len<=9223372036854775807)) :
  Calls Tryz.prog 177 #[.slice A n c] w fun e w'=>e = .returned (.bool (Ex.Uy xs))/\Below w.heap.size w w':=by
 have hlen:=hE.len
 have hn:n<=9223372036854775807:=Nat.le_trans hE.cap hE.max
 have HE:=Lib.hid hE
 have HL:=Lib.hid hlen
 clear hE hlen
 go_enter Tryz.func177,Tryz.ntmps177
 go_wp2
 go_loopw [3] (fun i wr => ∃k:Nat,k<=n/\i = .int .i64 (k:Int)/\Hid (Ex.OE xs k)/\Below w.heap.size w wr) (fun i _=>n-(intOf i).toNat)
 case atStart=>exact ⟨0,by omega,rfl,fun i hi=>by omega,Below.refl _ _⟩
 case round =>
  obtain ⟨k,hk,rfl,hok,hB⟩:=hrel
  by_cases hlt:k<n
  ·obtain ⟨b,off,rfl,hb,hc⟩:=(HE.out.below hB).cells (by omega)
   obtain ⟨hc1,hc2⟩:=hc k hlt
   have hxr:=hR.out k hlt
   obtain ⟨x,hx⟩:∃x,Ex.get xs k=x:=⟨_,rfl⟩
   rw [hx] at hc1 hc2 hxr
   have HX:=Lib.hid hx
   clear hx hc
   have hk0:(0:Int)<=k:=by omega
   have hkn:(k:Int)<n:=by omega
   go_wp2
   by_cases hp:x.prop
   ·by_cases h0:0<k
    ·obtain ⟨j,rfl⟩:∃j,k=j+1:=⟨k-1,by omega⟩
     have hyp:=(hok.out j (by omega)).1
     obtain ⟨y,hy⟩:∃y,Ex.get xs j=y:=⟨_,rfl⟩
     obtain ⟨hd1,hd2⟩:=(HE.out.below hB).at_ rfl (i:=j) (by omega)
     rw [hy] at hd1 hd2 hyp
     have HY:=Lib.hid hy
     clear hy
     have hwj:IntKind.i64.wrap (j:Int)=j:=IntWalk.i64_in _ (by omega)
     have hjn:(j:Int)<n:=by omega
     have hj0:(0:Int)<=j:=by omega
     have hjk:(j:Int)+1<n:=by omega
     have hj1:(0:Int)<=(j:Int)+1:=by omega
     have hyb:0<=y.off/\0<y.len/\y.off+y.len<=1048576:=hyp
     have hwy:IntKind.i64.wrap (y.off+y.len)=y.off+y.len:=IntWalk.i64_in _ (by omega)
     have hS:wr.drew.cell? ⟨b,off+(j+1)*2,none⟩=some (.int .i64 x.off)/\wr.drew.cell? ⟨b,off+(j+1)*2+1,none⟩=some (.int .i64 x.len)/\wr.drew.cell? ⟨b,off+j*2,none⟩=some (.int .i64 y.off)/\wr.drew.cell? ⟨b,off+j*2+1,none⟩=some (.int .i64 y.len)/\Below w.heap.size w wr.drew:=⟨hc1,hc2,hd1,hd2,hB.drew⟩
     by_cases hg:y.off+y.len<x.off
     ·have hgd:decide (x.off<=y.off+y.len)=false:=by simp;omega
      refine Em [(true,0),(true,1),(true,2),(true,3),(false,4),(true,5),(true,6),(true,7),(true,8),(true,9),(true,10),(true,11),(true,12),(true,13),(true,14),(true,15),(true,16),(true,17),(true,18),(true,19),(true,20),(true,21),(true,22),(true,23),(true,24),(true,25),(true,26),(true,27),(true,28),(true,29),(true,30)] (fun w'=>w'.cell? ⟨b,off+(j+1)*2,none⟩=some (.int .i64 x.off)/\w'.cell? ⟨b,off+(j+1)*2+1,none⟩=some (.int .i64 x.len)/\w'.cell? ⟨b,off+j*2,none⟩=some (.int .i64 y.off)/\w'.cell? ⟨b,off+j*2+1,none⟩=some (.int .i64 y.len)/\Below w.heap.size w w') [] (by kernel_rfl) (by kernel_rfl) (by kernel_rfl) rfl (by intro _ d _ _ _ h;cases d<;>exact h) ?_
      iterate 4 ((refine El (v := ?_) hS rfl (by rfl) (fun W hW=>?_) ?_;rotate_left;focus ((try dsimp only at hW);go_simp;(try with_reducible rfl);done));(try simp only [Act.put,List.setIfInBounds_toArray,List.set_cons_zero,List.set_cons_succ]))
      refine MS rfl (fun K hK=>?_)
      go_wp2_with (go_at_call 178;refine (Kt x _ hp).mono ?_;rintro e w1 ⟨rfl,hb1⟩)
      have hS1:w1.cell? ⟨b,off+(j+1)*2,none⟩=some (.int .i64 x.off)/\w1.cell? ⟨b,off+(j+1)*2+1,none⟩=some (.int .i64 x.len)/\w1.cell? ⟨b,off+j*2,none⟩=some (.int .i64 y.off)/\w1.cell? ⟨b,off+j*2+1,none⟩=some (.int .i64 y.len)/\Below w.heap.size w w1:=⟨FT hS.1 hb1,FT hS.2.1 hb1,FT hS.2.2.1 hb1,FT hS.2.2.2.1 hb1,NM hS.2.2.2.2 (Nat.le_refl _) hb1⟩
      refine hK _ _ (fun _=>hS1) ?_
      clear hS
      clear hK K
      (try simp only [Act.put,List.setIfInBounds_toArray,List.set_cons_zero,List.set_cons_succ])
      iterate 26 ((refine El (v := ?_) hS1 rfl (by rfl) (fun W hW=>?_) ?_;rotate_left;focus ((try dsimp only at hW);go_simp;(try with_reducible rfl);done));(try simp only [Act.put,List.setIfInBounds_toArray,List.set_cons_zero,List.set_cons_succ]))
      refine JE ?_
      clear hwj hwy
      go_wp2
      go_roundw
      case rel=>exact ⟨j+1+1,by omega,by go_num,Ex.Oh hok.out ⟨by rw [HX.out];exact hp,fun h=>by rw [HX.out,show j+1-1=j from rfl,HY.out];exact hg⟩,hS1.2.2.2.2⟩
      case measure=>simp [intOf];omega
     ·have hgd:decide (x.off<=y.off+y.len)=true:=by simp;omega
      refine Em [(true,0),(true,1),(true,2),(true,3),(false,4),(true,5),(true,6),(true,7),(true,8),(true,9),(true,10),(true,11),(true,12),(true,13),(true,14),(true,15),(true,16),(true,17),(true,18),(true,19),(true,20),(true,21),(true,22),(true,23),(true,24),(true,25),(true,26),(true,27),(true,28),(true,29),(true,30)] (fun w'=>w'.cell? ⟨b,off+(j+1)*2,none⟩=some (.int .i64 x.off)/\w'.cell? ⟨b,off+(j+1)*2+1,none⟩=some (.int .i64 x.len)/\w'.cell? ⟨b,off+j*2,none⟩=some (.int .i64 y.off)/\w'.cell? ⟨b,off+j*2+1,none⟩=some (.int .i64 y.len)/\Below w.heap.size w w') [] (by kernel_rfl) (by kernel_rfl) (by kernel_rfl) rfl (by intro _ d _ _ _ h;cases d<;>exact h) ?_
      iterate 4 ((refine El (v := ?_) hS rfl (by rfl) (fun W hW=>?_) ?_;rotate_left;focus ((try dsimp only at hW);go_simp;(try with_reducible rfl);done));(try simp only [Act.put,List.setIfInBounds_toArray,List.set_cons_zero,List.set_cons_succ]))
      refine MS rfl (fun K hK=>?_)
      go_wp2_with (go_at_call 178;refine (Kt x _ hp).mono ?_;rintro e w1 ⟨rfl,hb1⟩)
      have hS1:w1.cell? ⟨b,off+(j+1)*2,none⟩=some (.int .i64 x.off)/\w1.cell? ⟨b,off+(j+1)*2+1,none⟩=some (.int .i64 x.len)/\w1.cell? ⟨b,off+j*2,none⟩=some (.int .i64 y.off)/\w1.cell? ⟨b,off+j*2+1,none⟩=some (.int .i64 y.len)/\Below w.heap.size w w1:=⟨FT hS.1 hb1,FT hS.2.1 hb1,FT hS.2.2.1 hb1,FT hS.2.2.2.1 hb1,NM hS.2.2.2.2 (Nat.le_refl _) hb1⟩
      refine hK _ _ (fun _=>hS1) ?_
      clear hS
      clear hK K
      (try simp only [Act.put,List.setIfInBounds_toArray,List.set_cons_zero,List.set_cons_succ])
      iterate 26 ((refine El (v := ?_) hS1 rfl (by rfl) (fun W hW=>?_) ?_;rotate_left;focus ((try dsimp only at hW);go_simp;(try with_reducible rfl);done));(try simp only [Act.put,List.setIfInBounds_toArray,List.set_cons_zero,List.set_cons_succ]))
      refine JE ?_
      clear hwj hwy
      go_wp2
      go_ret
      exact ⟨PS (Ex.Zp (i:=j+1) (by rw [HL.out];exact hlt) (fun h=>by have h2:=h.2 (by omega);rw [HX.out,show j+1-1=j from rfl,HY.out] at h2;unfold Ext.end_ at h2;omega)).symm,hS1.2.2.2.2⟩
    ·have hS:wr.drew.cell? ⟨b,off+k*2,none⟩=some (.int .i64 x.off)/\wr.drew.cell? ⟨b,off+k*2+1,none⟩=some (.int .i64 x.len)/\Below w.heap.size w wr.drew:=⟨hc1,hc2,hB.drew⟩
     refine Em [(true,0),(true,1),(true,2),(true,3),(false,4),(true,5),(true,6),(true,7),(true,8),(true,9),(true,10),(true,11),(true,12),(true,13),(true,14),(true,15),(true,16),(true,17),(true,18),(true,19),(true,20),(true,21),(true,22),(true,23),(true,24),(true,25),(true,26),(true,27),(true,28),(true,29),(true,30)] (fun w'=>w'.cell? ⟨b,off+k*2,none⟩=some (.int .i64 x.off)/\w'.cell? ⟨b,off+k*2+1,none⟩=some (.int .i64 x.len)/\Below w.heap.size w w') [] (by kernel_rfl) (by kernel_rfl) (by kernel_rfl) rfl (by intro _ d _ _ _ h;cases d<;>exact h) ?_
     iterate 4 ((refine El (v := ?_) hS rfl (by rfl) (fun W hW=>?_) ?_;rotate_left;focus ((try dsimp only at hW);go_simp;(try with_reducible rfl);done));(try simp only [Act.put,List.setIfInBounds_toArray,List.set_cons_zero,List.set_cons_succ]))
     refine MS rfl (fun K hK=>?_)
     go_wp2_with (go_at_call 178;refine (Kt x _ hp).mono ?_;rintro e w1 ⟨rfl,hb1⟩)
     have hS1:w1.cell? ⟨b,off+k*2,none⟩=some (.int .i64 x.off)/\w1.cell? ⟨b,off+k*2+1,none⟩=some (.int .i64 x.len)/\Below w.heap.size w w1:=⟨FT hS.1 hb1,FT hS.2.1 hb1,NM hS.2.2 (Nat.le_refl _) hb1⟩
     refine hK _ _ (fun _=>hS1) ?_
     clear hS
     clear hK K
     (try simp only [Act.put,List.setIfInBounds_toArray,List.set_cons_zero,List.set_cons_succ])
     iterate 5 ((refine El (v := ?_) hS1 rfl (by rfl) (fun W hW=>?_) ?_;rotate_left;focus ((try dsimp only at hW);go_simp;(try with_reducible rfl);done));(try simp only [Act.put,List.setIfInBounds_toArray,List.set_cons_zero,List.set_cons_succ]))
     iterate 19 (refine Tg hS1 rfl (by rfl) ?_;(try simp only [Act.put,List.setIfInBounds_toArray,List.set_cons_zero,List.set_cons_succ]))
     iterate 2 ((refine El (v := ?_) hS1 rfl (by rfl) (fun W hW=>?_) ?_;rotate_left;focus ((try dsimp only at hW);go_simp;(try with_reducible rfl);done));(try simp only [Act.put,List.setIfInBounds_toArray,List.set_cons_zero,List.set_cons_succ]))
     refine JE ?_
     go_wp2
     go_roundw
     case rel=>exact ⟨k+1,by omega,by go_num,Ex.Oh hok.out ⟨by rw [HX.out];exact hp,fun h=>absurd h h0⟩,hS1.2.2⟩
     case measure=>simp [intOf];omega
   ·have hS:wr.drew.cell? ⟨b,off+k*2,none⟩=some (.int .i64 x.off)/\wr.drew.cell? ⟨b,off+k*2+1,none⟩=some (.int .i64 x.len)/\Below w.heap.size w wr.drew:=⟨hc1,hc2,hB.drew⟩
    refine Em [(true,0),(true,1),(true,2),(true,3),(false,4),(true,5),(true,6),(true,7),(true,8),(true,9),(true,10),(true,11),(true,12),(true,13),(true,14),(true,15),(true,16),(true,17),(true,18),(true,19),(true,20),(true,21),(true,22),(true,23),(true,24),(true,25),(true,26),(true,27),(true,28),(true,29),(true,30)] (fun w'=>w'.cell? ⟨b,off+k*2,none⟩=some (.int .i64 x.off)/\w'.cell? ⟨b,off+k*2+1,none⟩=some (.int .i64 x.len)/\Below w.heap.size w w') [] (by kernel_rfl) (by kernel_rfl) (by kernel_rfl) rfl (by intro _ d _ _ _ h;cases d<;>exact h) ?_
    iterate 4 ((refine El (v := ?_) hS rfl (by rfl) (fun W hW=>?_) ?_;rotate_left;focus ((try dsimp only at hW);go_simp;(try with_reducible rfl);done));(try simp only [Act.put,List.setIfInBounds_toArray,List.set_cons_zero,List.set_cons_succ]))
    refine MS rfl (fun K hK=>?_)
    go_wp2_with (go_at_call 178;refine (Yk x _ hxr.1 hxr.2 hp).mono ?_;rintro e w1 ⟨rfl,hb1⟩)
    have hS1:w1.cell? ⟨b,off+k*2,none⟩=some (.int .i64 x.off)/\w1.cell? ⟨b,off+k*2+1,none⟩=some (.int .i64 x.len)/\Below w.heap.size w w1:=⟨FT hS.1 hb1,FT hS.2.1 hb1,NM hS.2.2 (Nat.le_refl _) hb1⟩
    refine hK _ _ (fun _=>hS1) ?_
    clear hS
    clear hK K
    (try simp only [Act.put,List.setIfInBounds_toArray,List.set_cons_zero,List.set_cons_succ])
    iterate 2 ((refine El (v := ?_) hS1 rfl (by rfl) (fun W hW=>?_) ?_;rotate_left;focus ((try dsimp only at hW);go_simp;(try with_reducible rfl);done));(try simp only [Act.put,List.setIfInBounds_toArray,List.set_cons_zero,List.set_cons_succ]))
    iterate 23 (refine Tg hS1 rfl (by rfl) ?_;(try simp only [Act.put,List.setIfInBounds_toArray,List.set_cons_zero,List.set_cons_succ]))
    iterate 1 ((refine El (v := ?_) hS1 rfl (by rfl) (fun W hW=>?_) ?_;rotate_left;focus ((try dsimp only at hW);go_simp;(try with_reducible rfl);done));(try simp only [Act.put,List.setIfInBounds_toArray,List.set_cons_zero,List.set_cons_succ]))
    refine JE ?_
    go_wp2
    go_ret
    exact ⟨PS (Ex.Zp (i:=k) (by rw [HL.out];exact hlt) (fun h=>hp (by rw [<-HX.out];exact h.1))).symm,hS1.2.2⟩
  ·obtain rfl:k=n:=by omega
   go_wp2
   go_ret
   exact ⟨PS (Ex.Xi (by rw [HL.out];exact hok.out)).symm,hB⟩
namespace Ex
theorem Q_ {xs:List Ext} {s:Int} (hv:JX xs) (h0:0<=s) (h1:s<=1048576) (h:∀i,i<xs.length->(get xs i).end_<=s) :
  FM xs s=(cOut xs xs.length++(if Ym xs xs.length<s then [⟨Ym xs xs.length,s-Ym xs xs.length⟩] else []),0):=by
 have hb:lC xs s=false:=by
  unfold lC
  rw [Xi hv]
  by_cases hp:0<xs.length
  ·have:=h (xs.length-1) (by omega)
   simp only [hp,Bool.not_true,Bool.false_or,decide_true,Bool.true_and,Bool.or_eq_false_iff,decide_eq_false_iff_not]
   omega
  ·simp only [hp,Bool.not_true,Bool.false_or,decide_false,Bool.false_and,Bool.or_false,Bool.or_eq_false_iff,decide_eq_false_iff_not]
   omega
 unfold FM
 rw [hb,if_neg Bool.false_ne_true,JW,Xl (Nat.le_refl _)]
 unfold Xk
 rw [Zr (Nat.le_refl _),lD]
theorem Ta {xs:List Ext} {s:Int} (h:¬JX xs\/s<0\/1048576<s∨∃i,i<xs.length/\s<(get xs i).end_):FM xs s=([],1):=by
 have hb:lC xs s=true:=by
  unfold lC
  by_cases hv:JX xs
  ·rcases h with h|h|h|⟨i,hi,h⟩
   ·exact absurd hv h
   ·simp [h]
   ·simp [h]
   ·have:=Yl hv (show i<=xs.length-1 by omega) (by omega)
    have h2:s<(get xs (xs.length-1)).end_:=by omega
    simp [h2,show 0<xs.length by omega]
  ·have:Uy xs=false:=by
    rw [Bool.eq_false_iff]
    intro h
    exact hv ((Gr xs).1 h)
   simp [this]
 unfold FM
 rw [hb]
 rfl
end Ex
theorem Ov (A:Option Addr) (n c:Nat) (xs:List Ext) (s:Int) (W:World) (hE:Di W W.heap.size A n c xs) (hn:n<=1000) (hR:∀i,i<n → -9223372036854775808<=(Ex.get xs i).len/\(Ex.get xs i).len<=9223372036854775807) :
  Calls Tryz.prog 170 #[.slice A n c,.int .i64 s] W (UM 103 2 (fun v=>.tuple #[v,.int .i64 (Ex.FM xs s).2]) (Bn (Ex.FM xs s).1) W):=by
 have hl:=hE.len
 refine Ab (M:=[]) Tryz.func170 [.tmp 4,.tmp 5] (St.nil _ _) ?_
 have zs:=Bd.mk lG
 refine Aq ?_
 refine AV [0,1] fun G1 g1=>?_
 replace g1:=Bi g1
 refine AB fun K k0=>?_
 refine AB fun K k1=>?_
 refine A9 (fun _ _=>True) (fun F' L'=>Az F' G1 [0,1]/\F' 19 = .bool (!Ex.Uy xs||decide (s<0)||decide (1048576<s))/\L'=[]) ?_ ?_
 ·refine AF rfl ?_
  have zg:=Bd.mk g1
  refine AR ?_
  refine Aa (fun w hw=>Q9 A n c xs w (hE.at hw) hR) ?_
  try refine AR ?_
  repeat' ((first|refine Ck (fun hg=>?_) (fun hg=>?_)|refine Cm (fun hg=>?_) (fun hg=>?_))<;>((try simp only [Bool.not_eq_true',Bool.not_eq_false',decide_eq_true_eq,decide_eq_false_iff_not] at hg);(try simp -implicitDefEqProofs (disch:=first|omega|decide) only [seval, -Int.reducePow, -Nat.reducePow,cC,pv,Ao,Az,undef,lG,hg,g1])))
  all_goals (first|(simp [hg];done)|(simp [hg];omega))
 ·intro G2 L' _ hF
  obtain ⟨zq,QO,rfl⟩:=hF
  have zg:=Bd.mk g1
  have g2:=And.intro (Bg zq) QO
  refine k1 _ _ ?_
  replace zg:=Bd.mk g2
  refine Dl (fun hc=>?_) fun hc=>?_
  ·refine BH ?_
   refine AP (Br fun w hw=>?_)
   have hF:Ex.FM xs s=([],1):=by
    refine Ex.Ta ?_
    rw [<-Ex.Gr]
    simp only [Bool.or_eq_true,Bool.not_eq_true',decide_eq_true_eq] at hc
    rcases hc with (h|h)|h
    ·left;rw [h];simp
    ·exact .inr (.inl h)
    ·exact .inr (.inr (.inl h))
   exact ⟨none,0,0,by rw [hF],by rw [hF];exact World.ownsRow_nil _ _ _ _,hw.below⟩
  ·refine AO ?_
   try simp only [BJ,BX]
   simp only [Bool.or_eq_false_iff,Bool.not_eq_false',decide_eq_false_iff_not] at hc
   obtain ⟨⟨hv,hs0⟩,hs1⟩:=hc
   have hv:=(Ex.Gr xs).1 hv
   refine k0 _ _ ?_
   refine BH ?_
   refine BH ?_
   refine AB fun K k0=>?_
   refine BH ?_
   refine AV [0,1,6,7,8] fun G3 g3=>?_
   replace g3:=Bg g3
   refine D5 103 2 ?_
   refine Ad ?_
   refine BP (fun F' L' => ∃(k:Nat) (A6:Option Addr) (n6 c6:Nat),Az F' G3 [0,1]/\F' 6 = .slice A6 n6 c6/\F' 7 = .int .i64 (Ex.Ym xs k)/\F' 8 = .int .i64 (k:Int)/\L'=[.row (.slice A6 n6 c6) 103 2 n6 (Bn (Ex.cOut xs k))]/\k<=n/\n6<=k∧∀i,i<k->(Ex.get xs i).end_<=s) (fun F' L'=>n-(intOf (F' 8)).toNat) ?_ ?_
   ·refine ⟨0,none,0,0, ?_⟩
    have z1:Ex.Ym xs 0=0:=rfl
    have z2:Ex.cOut xs 0=[]:=rfl
    replace zg:=Bd.mk g3
    refine Ap (And.intro z1 z2) ?_
    exact ⟨rfl,by omega,by omega⟩
   ·intro G4 L' hI
    obtain ⟨k,A6,n6,c6,zq,Jq,Lv,QU,rfl,⟨hk,h6,hle⟩⟩:=hI
    replace zg:=Bd.mk g3
    have g4:=And.intro (Bg zq) (And.intro Jq (And.intro Lv QU))
    refine AB fun K k1=>?_
    replace zg:=Bd.mk (And.intro g3 g4)
    refine BH ?_
    refine Dl (fun hc=>?_) fun hc=>?_
    ·refine AO ?_
     try simp only [BJ,BX]
     have hlt:k<n:=by have:=of_decide_eq_true hc;omega
     obtain ⟨b0,off,rfl,hb0, -⟩:=hE.cells (by omega)
     obtain ⟨x,hx⟩:∃x,Ex.get xs k=x:=⟨_,rfl⟩
     have hxb:0<=x.off/\0<x.len/\x.off+x.len<=1048576:=by rw [<-hx];exact CZ hv (by omega)
     have hab:=Ex.lF hv (show k<=xs.length by omega)
     have hS1:=Ex.JW xs k
     have hS2:Ex.Ym xs (k+1)=x.off+x.len:=by rw [<-hx];rfl
     unfold Ex.Xk at hS1
     rw [hx] at hS1
     refine k1 _ _ ?_
     refine AB fun K k1=>?_
     refine A9 (fun _ _=>True) (fun F' L' => ∃(A6:Option Addr) (n6 c6:Nat),Az F' G4 [0,1,8]/\F' 6 = .slice A6 n6 c6/\F' 7 = .int .i64 (Ex.Ym xs (k+1))/\L'=[.row (.slice A6 n6 c6) 103 2 n6 (Bn (Ex.cOut xs (k+1)))]/\n6<=k+1/\x.off+x.len<=s) ?_ ?_
     ·refine Ad ?_
      refine AB fun K k2=>?_
      refine AB fun K k3=>?_
      refine BR [(true,0),(true,1),(true,2),(true,3),(true,4),(true,5),(true,6),(true,7),(true,8),(true,9),(true,10),(true,11),(true,12)] [] CB rfl (by kernel_rfl) (by kernel_rfl) rfl rfl ?_
      refine AR ?_
      refine Aj (hE.ld0 hlt) ?_
      refine AR ?_
      refine Aj (hE.ld1 hlt) ?_
      refine Ap @Ae ?_
      rw [hx]
      refine k3 _ _ ?_
      refine x_d @Ae (fun hc=>?_) fun hc=>?_
      ·have hcs:s<x.off+x.len:=by simpa [Ae (show -9223372036854775808<=x.off+x.len by omega) (show x.off+x.len<=9223372036854775807 by omega)] using hc
       refine BH ?_
       refine AP (Br fun w hw=>?_)
       have hF:Ex.FM xs s=([],1):=Ex.Ta (.inr (.inr (.inr ⟨k,by omega,by rw [hx];exact hcs⟩)))
       exact ⟨none,0,0,by rw [hF],by rw [hF];exact World.ownsRow_nil _ _ _ _,hw.below⟩
      ·have hcs:¬s<x.off+x.len:=by simpa [Ae (show -9223372036854775808<=x.off+x.len by omega) (show x.off+x.len<=9223372036854775807 by omega)] using hc
       refine AO (k2 _ _ ?_)
       refine AV [0,1,6,7,8] fun G5 g5=>?_
       replace g5:=Bg g5
       refine AB fun K k2=>?_
       refine A9 (fun _ _=>True) (fun F' L' => ∃(A8:Option Addr) (n8 c8:Nat),Az F' G5 [0,1,8]/\F' 6 = .slice A8 n8 c8/\L'=[.row (.slice A8 n8 c8) 103 2 n8 (Bn (Ex.cOut xs (k+1)))]/\n8<=n6+1) ?_ ?_
       ·refine AQ rfl fun K k3=>?_
        replace zg:=Bd.mk (And.intro g3 (And.intro g4 g5))
        refine AR ?_
        refine Aj (hE.ld0 hlt) ?_
        refine AR ?_
        rw [hx]
        refine k3 _ _ ?_
        refine Dl (fun hc=>?_) fun hc=>?_
        ·rw [if_pos (of_decide_eq_true hc)] at hS1
         refine BG [0] (by decide) ?_
         refine AU rfl ?_
         refine AR ?_
         refine Aj (hE.ld0 hlt) ?_
         refine Ap @Ae ?_
         rw [hx]
         refine Ap @Ae ?_
         intro b5 hb5
         refine Bj 1 Ie rfl (fun w hw=>Bp (size:=2) (.head _) rfl hw) rfl (by omega) (by omega) ?_
         intro A' c' hl' _
         refine AR ?_
         exact ⟨A',n6+1,c',rfl,by rw [hS1,FD],by omega⟩
        ·rw [if_neg (of_decide_eq_false hc)] at hS1
         refine AO ?_
         try simp only [BJ,BX]
         refine AR ?_
         exact ⟨A6,n6,c6,rfl,by rw [hS1,List.append_nil],by omega⟩
       ·intro G6 L' _ hF
        obtain ⟨A8,n8,c8,zq,Jq,rfl,h8⟩:=hF
        replace zg:=Bd.mk g5
        have g6:=And.intro (Bg zq) Jq
        refine k2 _ _ ?_
        refine Jk ?_
        refine BR [(true,0),(true,1),(true,2),(true,3),(true,4),(true,5),(true,6),(true,7),(true,8),(true,9),(true,10),(true,11)] [] CB rfl (by kernel_rfl) (by kernel_rfl) rfl rfl ?_
        replace zg:=Bd.mk (And.intro g3 (And.intro g4 g6))
        refine AR ?_
        refine Aj (hE.ld0 hlt) ?_
        refine AR ?_
        refine Aj (hE.ld1 hlt) ?_
        refine Ap @Ae ?_
        exact ⟨A8,n8,c8,rfl,by rw [hS2,hx,Ae (by omega) (by omega)],rfl,by omega,by omega⟩
     ·intro G7 L' _ hF
      obtain ⟨A6,n6,c6,zq,Jq,Lv,rfl,⟨h6,hcs⟩⟩:=hF
      have g7:=And.intro (Bg zq) (And.intro Jq Lv)
      refine k1 _ _ ?_
      refine AF rfl ?_
      replace zg:=Bd.mk (And.intro g3 (And.intro g4 g7))
      refine Ap @Ae ?_
      refine ⟨⟨k+1,A6,n6,c6, ?_⟩, ?_⟩
      ·refine Ap @Int.natCast_add ?_
       refine ⟨by omega,by omega,fun i hi=>?_⟩
       by_cases h:i<k
       ·exact hle i h
       ·have:i=k:=by omega
        rw [this,hx]
        exact hcs
      ·simp only [intOf];omega
    ·refine BM (k0 _ _ ?_)
     have hnk:n=k:=by have:=of_decide_eq_false hc;omega
     subst hnk
     have hF:=Ex.Q_ hv (show 0<=s by omega) (show s<=1048576 by omega) (by rw [hl];exact hle)
     rw [hl] at hF
     have hab:=Ex.lF hv (show n<=xs.length by omega)
     refine AV [1,6,7] fun G8 g8=>?_
     replace g8:=Bg g8
     refine AB fun K k0=>?_
     refine A9 (fun _ _=>True) (fun F' L' => ∃(A8:Option Addr) (n8 c8:Nat),F' 6 = .slice A8 n8 c8/\L'=[.row (.slice A8 n8 c8) 103 2 n8 (Bn (Ex.FM xs s).1)]) ?_ ?_
     ·replace zg:=Bd.mk (And.intro g3 (And.intro g4 g8))
      refine BH ?_
      refine Dl (fun hc=>?_) fun hc=>?_
      ·rw [if_pos (of_decide_eq_true hc)] at hF
       refine BG [0] (by decide) ?_
       refine AU rfl ?_
       refine Ap @Ae ?_
       intro b5 hb5
       refine Bj 1 Ie rfl (fun w hw=>Bp (size:=2) (.head _) rfl hw) rfl (by omega) (by omega) ?_
       intro A' c' hl' _
       refine AR ?_
       exact ⟨A',n6+1,c',rfl,by rw [hF,FD]⟩
      ·rw [if_neg (of_decide_eq_false hc),List.append_nil] at hF
       refine AO ?_
       try simp only [BJ,BX]
       refine AR ?_
       exact ⟨A6,n6,c6,rfl,by rw [hF]⟩
     ·intro G9 L' _ hF
      obtain ⟨A8,n8,c8,Jq,rfl⟩:=hF
      have g9:=Jq
      refine k0 _ _ ?_
      replace zg:=Bd.mk (And.intro g3 (And.intro g4 g9))
      refine BH ?_
      refine AP (Br fun w hw=>?_)
      have hF2:(Ex.FM xs s).2=0:=by rw [hF]
      exact ⟨A8,n8,c8,by rw [hF2],Ic (hw.holds _ (.head _)) (hw.own _ (.head _)),hw.below⟩
namespace Ex
def IV (x:Ext) (o:Int):Prop:=x.off<=o/\o<x.off+x.len
def mem (xs:List Ext) (o:Int):Prop := ∃x∈xs,IV x o
def tot:List Ext->Int
 | []=>0
 | x::l=>x.len+tot l
def RR (a b:Ext):Prop:=a.off+a.len<b.off
def PP (x:Ext):Prop:=0<=x.off/\0<x.len/\x.off+x.len<=1048576
def ok (xs:List Ext):Prop:=(∀x∈xs,PP x)/\xs.Pairwise RR
theorem J7 (o:Int):mem [] o↔False:=by simp [mem]
theorem mem_cons (x:Ext) (xs:List Ext) (o:Int):mem (x::xs) o↔IV x o\/mem xs o:=by simp [mem]
theorem NN (xs ys:List Ext) (o:Int):mem (xs++ys) o↔mem xs o\/mem ys o:=by simp [mem,or_and_right,exists_or]
theorem PQ:∀(xs ys:List Ext),tot (xs++ys)=tot xs+tot ys
 | [],ys=>by simp [tot]
 | x::xs,ys=>by show x.len+tot (xs++ys)=x.len+tot xs+tot ys;rw [PQ xs ys];omega
theorem get_eq {xs:List Ext} {i:Nat} (h:i<xs.length):get xs i=xs[i]:=by unfold get;rw [List.getD_eq_getElem?_getD,List.getElem?_eq_getElem h];rfl
theorem Xm {xs:List Ext} (h:JX xs):ok xs:=by
 refine ⟨fun x hx=>?_,List.pairwise_iff_getElem.2 fun i j hi hj hij=>?_⟩
 ·obtain ⟨i,hi,rfl⟩:=List.getElem_of_mem hx
  rw [<-get_eq hi]
  exact CZ h hi
 ·rw [<-get_eq hi,<-get_eq hj]
  exact Eh h hij hj
theorem U2 {xs:List Ext} (h:ok xs):JX xs:=fun i hi=>by
 refine ⟨?_,fun h0=>?_⟩
 ·rw [get_eq hi]
  exact h.1 _ (List.getElem_mem hi)
 ·rw [get_eq hi,get_eq (show i-1<xs.length by omega)]
  exact List.pairwise_iff_getElem.1 h.2 (i-1) i (by omega) hi (by omega)
theorem RA {x:Ext} {xs:List Ext} (h:ok (x::xs)) {o:Int} (hm:mem xs o):x.off+x.len<o:=by
 obtain ⟨y,hy,h1,h2⟩:=hm
 have:=(List.pairwise_cons.1 h.2).1 y hy
 unfold RR at this
 omega
theorem U3 {x:Ext} {xs:List Ext} (h:ok (x::xs)):ok xs:=⟨fun y hy=>h.1 y (by simp [hy]),(List.pairwise_cons.1 h.2).2⟩
theorem lH:∀ {xs ys:List Ext},ok xs->ok ys->(∀o,mem xs o↔mem ys o)->xs=ys
 | [],[],_,_,_=>rfl
 | [],y::ys,_,hy,h=>by
  have hp:=hy.1 y (.head _)
  unfold PP at hp
  exact absurd ((h y.off).2 ((mem_cons _ _ _).2 (.inl ⟨Int.le_refl _,by omega⟩))) (by simp [J7])
 | x::xs,[],hx,_,h=>by
  have hp:=hx.1 x (.head _)
  unfold PP at hp
  exact absurd ((h x.off).1 ((mem_cons _ _ _).2 (.inl ⟨Int.le_refl _,by omega⟩))) (by simp [J7])
 | x::xs,y::ys,hx,hy,h=>by
  have hpx:=hx.1 x (.head _)
  have hpy:=hy.1 y (.head _)
  unfold PP at hpx hpy
  have key:∀ {a b:Ext} {p q:List Ext},ok (a::p)->ok (b::q)->(∀o,mem (a::p) o->mem (b::q) o)->0<a.len->0<b.len->b.off<=a.off:=fun {a b p q} ha hb hh h1 h2=>by
   rcases (mem_cons _ _ _).1 (hh a.off ((mem_cons _ _ _).2 (.inl ⟨Int.le_refl _,by omega⟩))) with h|h
   ·exact h.1
   ·have:=RA hb h
    omega
  have h1:=key hx hy (fun o=>(h o).1) hpx.2.1 hpy.2.1
  have h2:=key hy hx (fun o=>(h o).2) hpy.2.1 hpx.2.1
  have AC3:∀ {a b:Ext} {p q:List Ext},ok (a::p)->ok (b::q)->(∀o,mem (b::q) o->mem (a::p) o)->a.off=b.off->0<a.len→¬a.len<b.len:=fun {a b p q} ha hb hh h0 h1 hlt=>by
   rcases (mem_cons _ _ _).1 (hh (a.off+a.len) ((mem_cons _ _ _).2 (.inl ⟨by omega,by omega⟩))) with h|h
   ·have:=h.2
    omega
   ·have:=RA ha h
    omega
  have h3:=AC3 hx hy (fun o=>(h o).2) (by omega) hpx.2.1
  have h4:=AC3 hy hx (fun o=>(h o).1) (by omega) hpy.2.1
  have hxy:x=y:=by
   cases x
   cases y
   simp only [Ext.mk.injEq]
   dsimp only at *
   omega
  subst hxy
  refine congrArg _ (lH (U3 hx) (U3 hy) fun o=>⟨fun hm=>?_,fun hm=>?_⟩)
  ·rcases (mem_cons _ _ _).1 ((h o).1 ((mem_cons _ _ _).2 (.inr hm))) with h5|h5
   ·have:=RA hx hm
    have:=h5.2
    omega
   ·exact h5
  ·rcases (mem_cons _ _ _).1 ((h o).2 ((mem_cons _ _ _).2 (.inr hm))) with h5|h5
   ·have:=RA hy hm
    have:=h5.2
    omega
   ·exact h5
theorem ou {xs ys:List Ext} (hx:JX xs) (hy:JX ys) (h:∀o,mem xs o↔mem ys o):xs=ys:=lH (Xm hx) (Xm hy) h
theorem RB {xs:List Ext} {k:Nat} {x:Ext} (h:x∈xs.take k):∃j,j<k/\j<xs.length/\get xs j=x:=by
 obtain ⟨j,hj,rfl⟩:=List.getElem_of_mem h
 rw [List.length_take] at hj
 refine ⟨j,by omega,by omega, ?_⟩
 rw [get_eq (by omega),List.getElem_take]
theorem RD {xs:List Ext} {k:Nat} {x:Ext} (h:x∈xs.drop k):∃j,k<=j/\j<xs.length/\get xs j=x:=by
 obtain ⟨j,hj,rfl⟩:=List.getElem_of_mem h
 rw [List.length_drop] at hj
 refine ⟨k+j,by omega,by omega, ?_⟩
 rw [get_eq (by omega),List.getElem_drop]
theorem PR {xs:List Ext} {i:Nat} (h:i<xs.length) {o:Int} (ho:IV (get xs i) o):mem xs o:=⟨get xs i,by rw [get_eq h];exact List.getElem_mem h,ho⟩
theorem RF {xs:List Ext} {i:Nat} (h:i<xs.length):xs.drop i=get xs i::xs.drop (i+1):=by rw [List.drop_eq_getElem_cons h,get_eq h]
theorem lI {xs:List Ext} {e:Ext} {i:Nat} (hv:JX xs) (hp:e.prop) (hi:i<=xs.length) (hlo:∀k,k<i->(get xs k).end_<=e.off) :
  ∃L,xs.take i=xs.take (J6 xs e i).1++L/\((L=[]/\(J6 xs e i).2=e)∨∃a,L=[a]/\PP a/\a.off+a.len=e.off/\(J6 xs e i).2=⟨a.off,a.len+e.len⟩)∧∀x∈xs.take (J6 xs e i).1,x.off+x.len<(J6 xs e i).2.off:=by
 have hpe:0<=e.off/\0<e.len/\e.off+e.len<=1048576:=hp
 unfold J6
 split
 ·rename_i hc
  obtain ⟨j,rfl⟩:∃j,i=j+1:=⟨i-1,by omega⟩
  simp only [Nat.add_sub_cancel] at *
  refine ⟨[get xs j],Q8 (by omega),.inr ⟨_,rfl,CZ hv (by omega),hc.2,rfl⟩,fun x hx=>?_⟩
  obtain ⟨k,hk,hkl,rfl⟩:=RB hx
  exact Eh hv hk (by omega)
 ·rename_i hc
  refine ⟨[],by simp,.inl ⟨rfl,rfl⟩,fun x hx=>?_⟩
  obtain ⟨k,hk,hkl,rfl⟩:=RB hx
  have h1:=hlo k hk
  have h2:=hlo (i-1) (by omega)
  unfold Ext.end_ at *
  dsimp only
  by_cases hki:k=i-1
  ·subst hki
   have:¬((get xs (i-1)).off+(get xs (i-1)).len=e.off):=fun h=>hc ⟨by omega,h⟩
   omega
  ·have h3:=Eh hv (show k<i-1 by omega) (by omega)
   have h4:=CZ hv (show i-1<xs.length by omega)
   unfold Ext.end_ at *
   omega
theorem dM {xs:List Ext} {e:Ext} {i:Nat} (hv:JX xs) (hp:0<e.len) (hi:i<=xs.length) (hhi:∀k,i<=k->k<xs.length->e.off+e.len<=(get xs k).off) :
  ∃R,xs.drop i=R++xs.drop (JV xs e i).1/\((R=[]/\(JV xs e i).2=e)∨∃b,R=[b]/\PP b/\b.off=e.off+e.len/\(JV xs e i).2=⟨e.off,e.len+b.len⟩)∧∀x∈xs.drop (JV xs e i).1,(JV xs e i).2.off+(JV xs e i).2.len<x.off:=by
 unfold JV
 split
 ·rename_i hc
  refine ⟨[get xs i],RF hc.1,.inr ⟨_,rfl,CZ hv hc.1,hc.2,rfl⟩,fun x hx=>?_⟩
  obtain ⟨k,hk,hkl,rfl⟩:=RD hx
  have:=Eh hv (show i<k by omega) hkl
  have h2:=hc.2
  unfold Ext.end_ at *
  dsimp only
  omega
 ·rename_i hc
  refine ⟨[],by simp,.inl ⟨rfl,rfl⟩,fun x hx=>?_⟩
  obtain ⟨k,hk,hkl,rfl⟩:=RD hx
  have h1:=hhi k hk hkl
  dsimp only
  by_cases hki:k=i
  ·subst hki
   have:¬((get xs k).off=e.off+e.len):=fun h=>hc ⟨hkl,h⟩
   omega
  ·have h3:=Eh hv (show i<k by omega) hkl
   have h4:=CZ hv (show i<xs.length by omega)
   have h5:=hhi i (Nat.le_refl _) (by omega)
   unfold Ext.end_ at *
   omega
theorem OG {xs:List Ext} {e:Ext} (hv:JX xs) (hp:e.prop) :
  (F5 xs e=([],5)∧∃o,mem xs o/\IV e o) ∨
  ((F5 xs e).2=0/\JX (F5 xs e).1/\(∀o,mem (F5 xs e).1 o↔mem xs o\/IV e o)/\(∀o,mem xs o→¬IV e o)/\tot (F5 xs e).1=tot xs+e.len):=by
 have hpe:0<=e.off/\0<e.len/\e.off+e.len<=1048576:=hp
 obtain ⟨i,hA⟩:=U1 hv e.off
 have hai:R5 xs e.off=i:=Uz hA.1 hA.2.1 (fun h=>hA.2.2 i (Nat.le_refl _) h)
 obtain ⟨hi,hlo,hhi⟩:=hA
 unfold F5
 rw [if_neg (by rintro (h|h);exact h hv;exact h hp),hai]
 split
 ·rename_i hc
  left
  refine ⟨rfl, ?_⟩
  have h1:=hhi i (Nat.le_refl _) hc.1
  have h2:=CZ hv hc.1
  have h3:=hc.2
  unfold Ext.end_ at h1 h3
  by_cases h:(get xs i).off<=e.off
  ·exact ⟨e.off,PR hc.1 ⟨h,h1⟩,Int.le_refl _,by omega⟩
  ·exact ⟨(get xs i).off,PR hc.1 ⟨Int.le_refl _,by omega⟩,by omega,h3⟩
 ·rename_i hc
  right
  have hhi2:∀k,i<=k->k<xs.length->e.off+e.len<=(get xs k).off:=fun k hk hkl=>by
   have h1:¬(get xs i).off<e.end_:=fun h=>hc ⟨by omega,h⟩
   unfold Ext.end_ at h1
   by_cases hki:k=i
   ·subst hki;omega
   ·have h3:=Eh hv (show i<k by omega) hkl
    have h4:=CZ hv (show i<xs.length by omega)
    unfold Ext.end_ at *
    omega
  obtain ⟨L,hL,dx,hLa⟩:=lI hv hp hi hlo
  obtain ⟨f1,e1,hf1⟩:∃f1 e1,J6 xs e i=(f1,e1):=⟨_,_,rfl⟩
  rw [hf1] at hL dx hLa ⊢
  dsimp only at hL dx hLa ⊢
  have he1:e1.off+e1.len=e.off+e.len/\e1.off<=e.off/\0<=e1.off:=by
   rcases dx with ⟨-,rfl⟩|⟨a, -,ha,h1,rfl⟩
   ·exact ⟨rfl,Int.le_refl _,hpe.1⟩
   ·unfold PP at ha
    dsimp only
    omega
  obtain ⟨R,hR,kz,hRa⟩:=dM (e:=e1) hv (by omega) hi (fun k hk hkl=>by rw [he1.1];exact hhi2 k hk hkl)
  obtain ⟨l2,e2,hl2⟩:∃l2 e2,JV xs e1 i=(l2,e2):=⟨_,_,rfl⟩
  rw [hl2] at hR kz hRa ⊢
  dsimp only at hR kz hRa ⊢
  have he2:PP e2/\e2.off=e1.off/\e1.off+e1.len<=e2.off+e2.len:=by
   unfold PP
   rcases kz with ⟨-,rfl⟩|⟨b, -,hb,h1,rfl⟩
   ·exact ⟨by omega,rfl,Int.le_refl _⟩
   ·unfold PP at hb
    dsimp only
    omega
  have hx:xs=xs.take f1++(L++(R++xs.drop l2)):=by rw [<-List.append_assoc,<-hL,<-hR,List.take_append_drop]
  have hok:=Xm hv
  generalize xs.take f1=A at *
  generalize xs.drop l2=B at *
  rw [hx] at hok
  have lJ:ok A:=⟨fun x h=>hok.1 x (by simp [h]),(List.pairwise_append.1 hok.2).1⟩
  have lK:ok B:=⟨fun x h=>hok.1 x (by simp [h]),(List.pairwise_append.1 (List.pairwise_append.1 (List.pairwise_append.1 hok.2).2.1).2.1).2.1⟩
  refine ⟨rfl,U2 ⟨fun x hxm=>?_,List.pairwise_append.2 ⟨lJ.2,List.pairwise_cons.2 ⟨fun b hb=>hRa b hb,lK.2⟩,fun a ha b hb=>?_⟩⟩,fun o=>?_,fun o hm hin=>?_, ?_⟩
  ·simp only [List.mem_append,List.mem_cons,List.not_mem_nil,or_false] at hxm
   rcases hxm with h|rfl|h
   ·exact lJ.1 x h
   ·exact he2.1
   ·exact lK.1 x h
  ·have h1:=hLa a ha
   simp only [List.mem_append,List.mem_cons,List.not_mem_nil,or_false] at hb
   unfold RR
   rcases hb with rfl|h
   ·omega
   ·have h2:=hRa b h
    unfold PP at he2
    omega
  ·rw [hx]
   simp only [NN,mem_cons,J7,or_false]
   have e1':IV e2 o↔mem L o\/IV e o\/mem R o:=by
    rcases dx with ⟨rfl,rfl⟩|⟨a,rfl,ha,h1,rfl⟩<;>rcases kz with ⟨rfl,rfl⟩|⟨b,rfl,hb,h2,rfl⟩<;>simp only [J7,mem_cons,or_false,false_or,IV]<;>unfold PP at *<;>dsimp only at *<;>omega
   rw [e1']
   constructor
   ·rintro (h|(h|h|h)|h)
    ·exact .inl (.inl h)
    ·exact .inl (.inr (.inl h))
    ·exact .inr h
    ·exact .inl (.inr (.inr (.inl h)))
    ·exact .inl (.inr (.inr (.inr h)))
   ·rintro ((h|h|h|h)|h)
    ·exact .inl h
    ·exact .inr (.inl (.inl h))
    ·exact .inr (.inl (.inr (.inr h)))
    ·exact .inr (.inr h)
    ·exact .inr (.inl (.inr (.inl h)))
  ·obtain ⟨x,hxm,h1,h2⟩:=hm
   obtain ⟨h3,h4⟩:=hin
   obtain ⟨k,hk,rfl⟩:=List.getElem_of_mem hxm
   rw [<-get_eq hk] at h1 h2
   by_cases hki:k<i
   ·have:=hlo k hki
    unfold Ext.end_ at this
    omega
   ·have:=hhi2 k (by omega) hk
    omega
  ·rw [hx]
   simp only [PQ]
   have:e2.len=tot L+e.len+tot R:=by
    rcases dx with ⟨rfl,rfl⟩|⟨a,rfl,ha,h1,rfl⟩<;>rcases kz with ⟨rfl,rfl⟩|⟨b,rfl,hb,h2,rfl⟩<;>simp only [tot]<;>omega
   have h2:tot [e2]=e2.len:=by simp [tot]
   rw [h2,this]
   omega
theorem lL (xs:List Ext) (e:Ext):(F5 xs e).1.length<=xs.length+1:=by
 unfold F5
 split
 ·simp
 ·split
  ·simp
  ·have h1:(J6 xs e (R5 xs e.off)).1<=R5 xs e.off:=by unfold J6;split<;>dsimp only<;>omega
   have h2:∀e',R5 xs e.off<=(JV xs e' (R5 xs e.off)).1:=fun e'=>by unfold JV;split<;>dsimp only<;>omega
   have h3:=h2 (J6 xs e (R5 xs e.off)).2
   simp only [List.length_append,List.length_take,List.length_drop,List.length_cons,List.length_nil]
   omega
end Ex
namespace Ex
theorem Yn {xs:List Ext} {o:Int} (h:mem xs o):∃k,k<xs.length/\IV (get xs k) o:=by
 obtain ⟨x,hx,hi⟩:=h
 obtain ⟨k,hk,rfl⟩:=List.getElem_of_mem hx
 exact ⟨k,hk,by rw [get_eq hk];exact hi⟩
theorem dN {xs:List Ext} {e:Ext} (hv:JX xs) (hp:e.prop) :
  (U0 xs e=([],6)∧∃o,IV e o∧¬mem xs o) ∨
  ((U0 xs e).2=0/\JX (U0 xs e).1/\(∀o,mem (U0 xs e).1 o↔mem xs o∧¬IV e o)/\(∀o,IV e o->mem xs o)/\tot (U0 xs e).1=tot xs-e.len):=by
 have hpe:0<=e.off/\0<e.len/\e.off+e.len<=1048576:=hp
 obtain ⟨i,hA⟩:=U1 hv e.off
 have hai:R5 xs e.off=i:=Uz hA.1 hA.2.1 (fun h=>hA.2.2 i (Nat.le_refl _) h)
 obtain ⟨hi,hlo,hhi⟩:=hA
 unfold U0
 rw [if_neg (by rintro (h|h);exact h hv;exact h hp),hai]
 split
 ·rename_i hc
  left
  refine ⟨rfl, ?_⟩
  by_cases hil:i=xs.length
  ·refine ⟨e.off,⟨Int.le_refl _,by omega⟩,fun hm=>?_⟩
   obtain ⟨k,hk,h1,h2⟩:=Yn hm
   have:=hlo k (by omega)
   unfold Ext.end_ at this
   omega
  ·have hil:i<xs.length:=by omega
   have hie:=hhi i (Nat.le_refl _) hil
   have hip:=CZ hv hil
   unfold Ext.end_ at hie
   rcases hc with h|h|h
   ·omega
   ·refine ⟨e.off,⟨Int.le_refl _,by omega⟩,fun hm=>?_⟩
    obtain ⟨k,hk,h1,h2⟩:=Yn hm
    by_cases hki:k<i
    ·have:=hlo k hki
     unfold Ext.end_ at this
     omega
    ·by_cases hke:k=i
     ·subst hke;omega
     ·have:=Eh hv (show i<k by omega) hk
      unfold Ext.end_ at this
      omega
   ·unfold Ext.end_ at h
    refine ⟨(get xs i).off+(get xs i).len,⟨by omega,by omega⟩,fun hm=>?_⟩
    obtain ⟨k,hk,h1,h2⟩:=Yn hm
    by_cases hki:k<i
    ·have:=hlo k hki
     unfold Ext.end_ at this
     omega
    ·by_cases hke:k=i
     ·subst hke;omega
     ·have:=Eh hv (show i<k by omega) hk
      unfold Ext.end_ at this
      omega
 ·rename_i hc
  right
  have hil:i<xs.length:=by
   have:¬i=xs.length:=fun h=>hc (.inl h)
   omega
  have h1:(get xs i).off<=e.off:=by
   have:¬e.off<(get xs i).off:=fun h=>hc (.inr (.inl h))
   omega
  have h2:e.off+e.len<=(get xs i).off+(get xs i).len:=by
   have:¬(get xs i).end_<e.end_:=fun h=>hc (.inr (.inr h))
   unfold Ext.end_ at this
   omega
  have hip:=CZ hv hil
  have hlo2:∀y∈xs.take i,y.off+y.len<(get xs i).off:=fun y hy=>by
   obtain ⟨k,hk,hkl,rfl⟩:=RB hy
   exact Eh hv hk hil
  have hhi2:∀y∈xs.drop (i+1),(get xs i).off+(get xs i).len<y.off:=fun y hy=>by
   obtain ⟨k,hk,hkl,rfl⟩:=RD hy
   exact Eh hv (by omega) hkl
  have hx:xs=xs.take i++(get xs i::xs.drop (i+1)):=by rw [<-RF hil,List.take_append_drop]
  have hok:=Xm hv
  obtain ⟨x,hxe⟩:∃x,get xs i=x:=⟨_,rfl⟩
  rw [hxe] at h1 h2 hip hlo2 hhi2 hx ⊢
  generalize xs.take i=A at *
  generalize xs.drop (i+1)=B at *
  rw [hx] at hok
  have lJ:ok A:=⟨fun x h=>hok.1 x (by simp [h]),(List.pairwise_append.1 hok.2).1⟩
  have lK:ok B:=⟨fun x h=>hok.1 x (by simp [h]),(List.pairwise_cons.1 (List.pairwise_append.1 hok.2).2.1).2⟩
  have ui:∀y∈GG x e,PP y/\x.off<=y.off/\y.off+y.len<=x.off+x.len:=fun y hy=>by
   unfold GG Ext.end_ at hy
   unfold PP
   simp only [List.mem_append] at hy
   rcases hy with hy|hy<;>split at hy<;>simp only [List.mem_cons,List.not_mem_nil,or_false] at hy
   ·subst hy
    dsimp only
    omega
   ·subst hy
    dsimp only
    omega
  have hpw:(GG x e).Pairwise RR:=by
   unfold GG Ext.end_
   split<;>split<;>simp only [List.nil_append,List.append_nil,List.cons_append,List.pairwise_cons,List.not_mem_nil,false_implies,implies_true,List.Pairwise.nil,and_true,List.mem_cons,or_false,forall_eq]
   unfold RR
   dsimp only
   omega
  have hpm:∀o,mem (GG x e) o↔IV x o∧¬IV e o:=fun o=>by
   unfold GG Ext.end_
   rw [NN]
   split<;>split<;>simp only [mem_cons,J7,or_false,false_or,IV]<;>first|omega|(refine ⟨fun h=>h.elim,fun h=>?_⟩;omega)
  have hpt:tot (GG x e)=x.len-e.len:=by
   unfold GG Ext.end_
   rw [PQ]
   split<;>split<;>simp only [tot]<;>omega
  have hmx:∀o,mem xs o↔mem A o\/IV x o\/mem B o:=fun o=>by rw [hx];simp only [NN,mem_cons]
  have vJ:∀o,mem A o->o<x.off:=fun o ⟨y,hy,h3,h4⟩=>by have:=hlo2 y hy;omega
  have hBe:∀o,mem B o->x.off+x.len<o:=fun o ⟨y,hy,h3,h4⟩=>by have:=hhi2 y hy;omega
  refine ⟨rfl,U2 ⟨fun y hy=>?_,List.pairwise_append.2 ⟨lJ.2,List.pairwise_append.2 ⟨hpw,lK.2,fun a ha b hb=>?_⟩,fun a ha b hb=>?_⟩⟩,fun o=>?_,fun o ho=>?_, ?_⟩
  ·simp only [List.mem_append] at hy
   rcases hy with h|h|h
   ·exact lJ.1 y h
   ·exact (ui y h).1
   ·exact lK.1 y h
  ·have h3:=ui a ha
   have h4:=hhi2 b hb
   unfold RR
   omega
  ·have h3:=hlo2 a ha
   unfold RR
   simp only [List.mem_append] at hb
   rcases hb with h|h
   ·have h4:=ui b h
    omega
   ·have h4:=hhi2 b h
    omega
  ·rw [hmx]
   simp only [NN,hpm]
   have h3:=vJ o
   have h4:=hBe o
   unfold IV
   constructor
   ·rintro (h|⟨h,h'⟩|h)
    ·exact ⟨.inl h,by have:=h3 h;omega⟩
    ·exact ⟨.inr (.inl h),h'⟩
    ·exact ⟨.inr (.inr h),by have:=h4 h;omega⟩
   ·rintro ⟨h|h|h,h'⟩
    ·exact .inl h
    ·exact .inr (.inl ⟨h,h'⟩)
    ·exact .inr (.inr h)
  ·rw [hmx]
   obtain ⟨h3,h4⟩:=ho
   exact .inr (.inl ⟨by omega,by omega⟩)
  ·rw [hx]
   simp only [PQ,tot,hpt]
   omega
def FI (at_:Int) (xs:List Ext) (s:Int):List Ext:=match xs with
 | []=>if at_<s then [⟨at_,s-at_⟩] else []
 | x::xs=>(if at_<x.off then [⟨at_,x.off-at_⟩] else [])++FI (x.off+x.len) xs s
theorem MP (xs:List Ext) (s:Int):∀k,k<=xs.length->cOut xs k++FI (Ym xs k) (xs.drop k) s=FI 0 xs s
 | 0,_=>rfl
 | k+1,h=>by
  rw [<-MP xs s k (by omega),JW,RF (show k<xs.length by omega),List.append_assoc]
  rfl
theorem RG {s:Int} (hs:s<=1048576):∀(xs:List Ext) (at_:Int),ok xs->(∀x∈xs,at_<=x.off/\x.off+x.len<=s)->0<=at_->at_<=s →
  ok (FI at_ xs s)/\(∀y∈FI at_ xs s,at_<=y.off)/\(∀o,mem (FI at_ xs s) o↔at_<=o/\o<s∧¬mem xs o)/\tot (FI at_ xs s)+tot xs=s-at_
 | [],a,_,_,h0,h1=>by
  unfold FI
  split
  ·refine ⟨⟨fun x hx=>?_,by simp⟩,fun y hy=>?_,fun o=>?_, ?_⟩
   ·simp only [List.mem_cons,List.not_mem_nil,or_false] at hx
    subst hx
    unfold PP
    dsimp only
    omega
   ·simp only [List.mem_cons,List.not_mem_nil,or_false] at hy
    subst hy
    exact Int.le_refl _
   ·simp only [mem_cons,J7,or_false,not_false_eq_true,and_true,IV]
    omega
   ·simp only [tot]
    omega
  ·refine ⟨⟨by simp,by simp⟩,by simp,fun o=>?_, ?_⟩
   ·simp only [J7,not_false_eq_true,and_true]
    exact ⟨fun h=>h.elim,fun h=>by omega⟩
   ·simp only [tot]
    omega
 | x::xs,a,hok,hb,h0,h1=>by
  have hx:=hb x (.head _)
  have hxp:=hok.1 x (.head _)
  unfold PP at hxp
  obtain ⟨i1,i2,i3,i4⟩:=RG hs xs (x.off+x.len) (U3 hok) (fun y hy=>⟨by have:=(List.pairwise_cons.1 hok.2).1 y hy;unfold RR at this;omega,(hb y (by simp [hy])).2⟩) (by omega) hx.2
  have hgt:∀o,mem xs o->x.off+x.len<o:=fun o h=>RA hok h
  have hm:∀o,mem (x::xs) o↔IV x o\/mem xs o:=mem_cons x xs
  have ht:tot (x::xs)=x.len+tot xs:=rfl
  show ok ((if a<x.off then [⟨a,x.off-a⟩] else [])++FI (x.off+x.len) xs s)/\(∀y∈(if a<x.off then [⟨a,x.off-a⟩] else [])++FI (x.off+x.len) xs s,a<=y.off)/\(∀o,mem ((if a<x.off then [⟨a,x.off-a⟩] else [])++FI (x.off+x.len) xs s) o↔a<=o/\o<s∧¬mem (x::xs) o)/\tot ((if a<x.off then [⟨a,x.off-a⟩] else [])++FI (x.off+x.len) xs s)+tot (x::xs)=s-a
  generalize FI (x.off+x.len) xs s=C at *
  split
  ·refine ⟨⟨fun y hy=>?_,List.pairwise_cons.2 ⟨fun y hy=>?_,i1.2⟩⟩,fun y hy=>?_,fun o=>?_, ?_⟩
   ·simp only [List.cons_append,List.nil_append,List.mem_cons] at hy
    rcases hy with rfl|hy
    ·unfold PP
     dsimp only
     omega
    ·exact i1.1 y hy
   ·have:=i2 y hy
    unfold RR
    dsimp only
    omega
   ·simp only [List.cons_append,List.nil_append,List.mem_cons] at hy
    rcases hy with rfl|hy
    ·exact Int.le_refl _
    ·have:=i2 y hy
     omega
   ·rw [List.singleton_append,mem_cons,i3,hm]
    have:=hgt o
    simp only [IV]
    constructor
    ·rintro (h|h)
     ·exact ⟨by omega,by omega,fun h'=>h'.elim (fun h'=>by omega) (fun h'=>by have:=hgt o h';omega)⟩
     ·exact ⟨by omega,h.2.1,fun h'=>h'.elim (fun h'=>by omega) h.2.2⟩
    ·rintro ⟨h2,h3,h4⟩
     by_cases h5:o<x.off
     ·exact .inl (by omega)
     ·exact .inr ⟨by have:¬(x.off<=o/\o<x.off+x.len):=fun h=>h4 (.inl h);omega,h3,fun h=>h4 (.inr h)⟩
   ·rw [List.singleton_append,ht]
    simp only [tot]
    omega
  ·rw [List.nil_append]
   refine ⟨i1,fun y hy=>?_,fun o=>?_, ?_⟩
   ·have:=i2 y hy
    omega
   ·rw [i3,hm]
    simp only [IV]
    constructor
    ·rintro h
     exact ⟨by omega,h.2.1,fun h'=>h'.elim (fun h'=>by omega) h.2.2⟩
    ·rintro ⟨h2,h3,h4⟩
     exact ⟨by have:¬(x.off<=o/\o<x.off+x.len):=fun h=>h4 (.inl h);omega,h3,fun h=>h4 (.inr h)⟩
   ·rw [ht]
    omega
theorem Yo {xs:List Ext} {s:Int} (hv:JX xs) (h0:0<=s) (h1:s<=1048576) (h:∀i,i<xs.length->(get xs i).end_<=s) :
  (FM xs s).2=0/\JX (FM xs s).1/\(∀o,mem (FM xs s).1 o↔0<=o/\o<s∧¬mem xs o)/\(∀i,i<(FM xs s).1.length->(get (FM xs s).1 i).end_<=s)/\tot (FM xs s).1+tot xs=s:=by
 have hF:=Q_ hv h0 h1 h
 have hC:=MP xs s xs.length (Nat.le_refl _)
 rw [List.drop_length] at hC
 have hF:FM xs s=(FI 0 xs s,0):=by rw [hF,<-hC];rfl
 rw [hF]
 dsimp only
 have hok:=Xm hv
 obtain ⟨i1,i2,i3,i4⟩:=RG h1 xs 0 hok (fun x hx=>by
  obtain ⟨k,hk,rfl⟩:=List.getElem_of_mem hx
  rw [<-get_eq hk]
  have:=CZ hv hk
  have h2:=h k hk
  unfold Ext.end_ at h2
  exact ⟨this.1,h2⟩) (Int.le_refl _) h0
 refine ⟨rfl,U2 i1,i3,fun i hi=>?_,by omega⟩
 have hp:=CZ (U2 i1) hi
 have:=(i3 ((get (FI 0 xs s) i).off+(get (FI 0 xs s) i).len-1)).1 (PR hi ⟨by omega,by omega⟩)
 show (get (FI 0 xs s) i).off+(get (FI 0 xs s) i).len<=s
 omega
end Ex
end Go.Proofs.YtegonkdandmolaaGreat
