import Derived.Test.YtegonkdandmolaaGreatDlays7
import Derived.Test.YtegonkdandmolaaGreatDlays3
import Derived.Test.YtegonkdandmolaaGreatDlays1
set_option linter.unusedVariables false
set_option linter.unusedSimpArgs false
set_option maxRecDepth 100000
set_option maxHeartbeats 4000000
namespace Go.Proofs.YtegonkdandmolaaGreat
open Go.RowKit Go.Shelf
section
variable {M:List Nat} {W w:World} {L:List Ai}
theorem Sl.UB (hw:St M W L w) (i:Nat) {b:Nat} {t:TypeId} {cs:List Value} (hi:nth L i=some (.blk b t cs)) (off:Nat) (vs:List Value) (hk:(cs.drop off).take vs.length=vs) (hm:vs.length<=1000):Sl w w.heap.size 1 (some ⟨b,off,none⟩) vs.length vs.length vs :=
 ⟨by omega,Nat.le_refl _,by omega,fun h0=>⟨b,off,rfl,(hw.own _ (AZ hi) b (by simp [Ai.foot])).2,fun j u hu=>by
  rw [hw.Dz (AZ hi)]
  have hlt:=(List.getElem?_eq_some_iff.1 hu).1
  rw [<-hk,List.getElem?_take,if_pos hlt,List.getElem?_drop] at hu
  exact hu⟩⟩
end
theorem Sl.lt {w:World} {B b off size n c:Nat} {xs:List Value} (h:Sl w B size (some ⟨b,off,none⟩) n c xs) (hn:0<n):b<B:=by
 obtain ⟨b',off',e,hb, -⟩:=h.cells hn
 cases e
 exact hb
def Mm (e:DZ):Bool := !decide (e.op=32) && !decide (e.op=33)
def Oq (e:DZ):Int:=if e.pl<1\/64<e.pl\/e.er<0\/29<e.er then 1 else if (e.op<1\/11<e.op)∧¬e.op=32∧¬e.op=33 then 1 else 0
theorem mY (p:Int) (e:DZ):KM p e=(decide (e.pl=p)&&Mm e):=by unfold KM Mm;rw [Bool.and_assoc]
structure Ot (w:World) (B b off:Nat) (cap:Int) (ms:Value) (A:Option Addr) (n c:Nat) (es:List DZ):Prop where
 cell:Sl w B 1 (some ⟨b,off,none⟩) 3 3 [.int .i64 cap,.slice A n c,ms]
 row:Sl w B 5 A n c (Bc es)
 max:n<=100000
theorem Ot.at {W w:World} {L:List Ai} {b off:Nat} {cap:Int} {ms:Value} {A:Option Addr} {n c:Nat} {es:List DZ} (h:Ot W W.heap.size b off cap ms A n c es) (hw:St [] W L w):Ot w w.heap.size b off cap ms A n c es:=⟨h.cell.at hw,h.row.at hw,h.max⟩
theorem Ot.len {w:World} {B b off:Nat} {cap:Int} {ms:Value} {A:Option Addr} {n c:Nat} {es:List DZ} (h:Ot w B b off cap ms A n c es):es.length=n:=by
 have:=h.row.len
 unfold Bc at this
 rw [Cr C8] at this
 omega
theorem KN (e:DZ) (W:World):Calls Tryz.prog 80 #[NZ e] W fun en w'=>en = .returned (.bool (Mm e))/\Below W.heap.size W w':=by
 refine Ab (M:=[]) Tryz.func80 [.tmp 2] (St.nil _ _) ?_
 refine AQ rfl fun K k0=>?_
 simp -implicitDefEqProofs (disch:=first|omega|decide) only [seval, -Int.reducePow, -Nat.reducePow,cC,pv,Ao,Az,undef,C9,NZ]
 intro b1 hb1
 refine k0 _ _ ?_
 refine AB fun K k0=>?_
 refine A9 (fun _ _=>True) (fun F' L'=>F' 2 = .bool (Mm e)/\L'=[Dc b1 e]) ?_ ?_
 ·unfold Mm
  by_cases h:e.op=32
  ·have d:decide (e.op=32)=true:=decide_eq_true h
   refine AF rfl ?_
   have zs:=Bd.mk C9
   exact VW d
  ·refine AF rfl ?_
   have zs:=Bd.mk C9
   exact VW h
 intro G1 L' _ hF
 obtain ⟨rf,rfl⟩:=hF
 have g1:=rf
 refine k0 _ _ ?_
 have zs:=Bd.mk C9
 have zg:=Bd.mk g1
 refine AP (Br fun w hw=>?_)
 exact ⟨rfl,hw.below⟩
theorem UC (e:DZ) (W:World):Calls Tryz.prog 79 #[NZ e] W fun en w'=>en = .returned (.int .i64 (Oq e))/\Below W.heap.size W w':=by
 refine Ab (M:=[]) Tryz.func79 [.tmp 2] (St.nil _ _) ?_
 refine AQ rfl fun K k0=>?_
 simp -implicitDefEqProofs (disch:=first|omega|decide) only [seval, -Int.reducePow, -Nat.reducePow,cC,pv,Ao,Az,undef,C9,NZ]
 intro b1 hb1
 refine k0 _ _ ?_
 refine AV [1] fun G2 g2=>?_
 have zs:=Bd.mk C9
 replace g2:=Bi g2
 refine AB fun K k0=>?_
 refine AB fun K k1=>?_
 refine A9 (fun _ _=>True) (fun F' L'=>F' 1=G2 1/\F' 20 = .bool (decide (e.pl<1\/64<e.pl\/e.er<0\/29<e.er))/\L'=[Dc b1 e]) ?_ ?_
 ·by_cases h1:e.pl<1
  ·refine AF rfl ?_
   have zg:=Bd.mk g2
   refine Ap h1 ?_
   try simp
  ·by_cases h2:64<e.pl
   ·refine AF rfl ?_
    have zg:=Bd.mk g2
    refine Ap (And.intro h1 h2) ?_
    try simp
   ·by_cases h3:e.er<0
    ·refine AF rfl ?_
     have zg:=Bd.mk g2
     refine Ap (And.intro h1 (And.intro h2 h3)) ?_
     try simp
    ·refine AF rfl ?_
     have zg:=Bd.mk g2
     refine Ap (And.intro h1 (And.intro h2 h3)) ?_
     try simp
 intro G3 L' _ hF
 obtain ⟨fK,AGJ,rfl⟩:=hF
 have zg:=Bd.mk g2
 have g3:=And.intro (Bg fK) AGJ
 refine k1 _ _ ?_
 refine AL ?_
 by_cases hc1:e.pl<1\/64<e.pl\/e.er<0\/29<e.er
 ·have d:decide (e.pl<1\/64<e.pl\/e.er<0\/29<e.er)=true:=decide_eq_true hc1
  have hf:Oq e=1:=by unfold Oq;rw [if_pos hc1]
  replace zg:=Bd.mk g3
  refine Ap d ?_
  refine BH ?_
  refine AP (Br fun w hw=>?_)
  exact ⟨by rw [hf],hw.below⟩
 have d1:decide (e.pl<1\/64<e.pl\/e.er<0\/29<e.er)=false:=decide_eq_false hc1
 replace zg:=Bd.mk g3
 refine Ap d1 ?_
 refine AO (k0 _ _ ?_)
 refine AB fun K k0=>?_
 refine AB fun K k1=>?_
 refine A9 (fun _ _=>True) (fun F' L'=>F' 38 = .bool (decide ((e.op<1\/11<e.op)∧¬e.op=32∧¬e.op=33))/\L'=[Dc b1 e]) ?_ ?_
 ·by_cases h1:e.op<1
  ·have h32:¬e.op=32:=by omega
   have dX:¬e.op=33:=by omega
   refine AF rfl ?_
   refine Ap (And.intro h1 (And.intro h32 dX)) ?_
   try simp
  ·by_cases h2:11<e.op
   ·by_cases h32:e.op=32
    ·have d32:decide (e.op=32)=true:=decide_eq_true h32
     refine AF rfl ?_
     refine Ap (And.intro h1 (And.intro h2 d32)) ?_
     simp [h32]
    ·refine AF rfl ?_
     refine Ap (And.intro h1 (And.intro h2 h32)) ?_
     simp [h32]
   ·refine AF rfl ?_
    refine Ap (And.intro h1 h2) ?_
    try simp
 intro G4 L' _ hF
 obtain ⟨fM,rfl⟩:=hF
 have g4:=fM
 refine k1 _ _ ?_
 refine AL ?_
 by_cases hc2:(e.op<1\/11<e.op)∧¬e.op=32∧¬e.op=33
 ·have d:decide ((e.op<1\/11<e.op)∧¬e.op=32∧¬e.op=33)=true:=decide_eq_true hc2
  have hf:Oq e=1:=by unfold Oq;rw [if_neg hc1,if_pos hc2]
  replace zg:=Bd.mk g4
  refine Ap d ?_
  refine BH ?_
  refine AP (Br fun w hw=>?_)
  exact ⟨by rw [hf],hw.below⟩
 have d2:decide ((e.op<1\/11<e.op)∧¬e.op=32∧¬e.op=33)=false:=decide_eq_false hc2
 have hf:Oq e=0:=by unfold Oq;rw [if_neg hc1,if_neg hc2]
 replace zg:=Bd.mk g4
 refine Ap d2 ?_
 refine AO (k0 _ _ ?_)
 refine BH ?_
 refine AP (Br fun w hw=>?_)
 exact ⟨by rw [hf],hw.below⟩
theorem UD {W:World} {b off:Nat} {cap:Int} {ms:Value} {A:Option Addr} {n c:Nat} {es:List DZ} (h:Ot W W.heap.size b off cap ms A n c es) (p:Int) :
  Calls Tryz.prog 121 #[.pointer (some ⟨b,off,none⟩),.int .i64 p] W fun en w'=>en = .returned (.int .i64 (GR es p:Int))/\Below W.heap.size W w':=by
 have hlen:=h.len
 have hmax:=h.max
 refine Ab (M:=[]) Tryz.func121 [.tmp 4] (St.nil _ _) ?_
 have zs:=Bd.mk C9
 refine Aq ?_
 refine Aq ?_
 refine AB fun K k0=>?_
 refine Aq ?_
 refine AV [0,1,5,6] fun G5 g5=>?_
 replace g5:=Bi g5
 refine Ad ?_
 refine BP (fun F' L' => ∃(i:Nat),Az F' G5 [0,1]/\F' 5 = .int .i64 (GR (es.take i) p:Int)/\F' 6 = .int .i64 (i:Int)/\L'=[]/\i<=n) (fun F' L'=>200000-(intOf (F' 6)).toNat) ?_ ?_
 ·refine ⟨0, ?_⟩
  have zg:=Bd.mk g5
  refine AR ?_
  exact ⟨rfl,Nat.zero_le _⟩
 intro G6 L' hI
 obtain ⟨i,zq,KO,Jq,rfl,hi⟩:=hI
 have zg:=Bd.mk g5
 have g6:=And.intro (Bg zq) (And.intro KO Jq)
 refine AB fun K k1=>?_
 refine AQ rfl fun K k2=>?_
 replace zg:=Bd.mk (And.intro g5 g6)
 refine AR ?_
 refine Aj (h.cell.ld1 (m:=1) (i:=1) (by kernel_rfl) rfl) ?_
 refine AR ?_
 refine k2 _ _ ?_
 refine Dl (fun hc=>?_) fun hc=>?_
 ·refine AO ?_
  try simp only [BJ,BX]
  have hit:i<n:=by have:=of_decide_eq_true ‹decide ((i:Int)<(n:Int))=true›;omega
  obtain ⟨e,he⟩:∃e,es[i]? = some e:=⟨_,List.getElem?_eq_getElem (by omega)⟩
  have hr1:GR (es.take (i+1)) p=GR (es.take i) p+if KM p e=true then 1 else 0:=EB he (KM p)
  have hcR:GR (es.take i) p<=i:=EN ..
  have hld:=FB C8 he
  have hrow:=h.row
  obtain ⟨bA,oA,rfl,KD, -⟩:=hrow.cells (by omega)
  refine k1 _ _ ?_
  refine AB fun K k1=>?_
  refine Ad ?_
  refine AB fun K k2=>?_
  refine A9 (fun _ _=>True) (fun F' L'=>Az F' G6 [0,1,5,6]/\F' 35 = .bool (KM p e)/\L'=[]) ?_ ?_
  ·rw [mY]
   refine AF rfl ?_
   refine AR ?_
   refine Aj (h.cell.ld1 (m:=1) (i:=1) (by kernel_rfl) rfl) ?_
   refine AR ?_
   refine Aj (hrow.ld1 (m:=1) (i:=i*5+0) (by kernel_rfl) (Co C8 he (by omega))) ?_
   refine AR ?_
   by_cases h1:e.pl=p
   ·have d1:decide (e.pl=p)=true:=decide_eq_true h1
    refine Ap d1 ?_
    refine Aj (h.cell.ld1 (m:=1) (i:=1) (by kernel_rfl) rfl) ?_
    refine Ap d1 ?_
    refine Aj (hrow.ld (i:=i*5) (vs:=Xo e) (by omega) (by kernel_rfl) hld) ?_
    refine Ap d1 ?_
    refine Aa (fun w hw=>KN e w) ?_
    exact NQ d1
   ·exact NQ h1
  intro G7 L' _ hF
  obtain ⟨zq,rq,rfl⟩:=hF
  have g7:=And.intro (Bg zq) rq
  refine k2 _ _ ?_
  refine AL ?_
  cases hh:KM p e with
  | true =>
   rw [hh,if_pos rfl] at hr1
   replace zg:=Bd.mk (And.intro g5 (And.intro g6 g7))
   refine Ap hh ?_
   refine AU rfl ?_
   refine AR ?_
   refine k1 _ _ ?_
   refine AF rfl ?_
   refine AR ?_
   refine ⟨⟨i+1, ?_⟩, ?_⟩
   ·refine Ap (And.intro hr1 @Int.natCast_add) ?_
    omega
   ·simp only [intOf];omega
  | false =>
   rw [hh,if_neg (by decide)] at hr1
   replace zg:=Bd.mk (And.intro g5 (And.intro g6 g7))
   refine Ap hh ?_
   refine AO (k1 _ _ ?_)
   refine AF rfl ?_
   refine AR ?_
   refine ⟨⟨i+1, ?_⟩, ?_⟩
   ·refine Ap (And.intro hr1 (And.intro @Int.natCast_add @Nat.add_zero)) ?_
    omega
   ·simp only [intOf];omega
 refine BM (k0 _ _ ?_)
 have hin:i=n:=by have:=of_decide_eq_false ‹decide ((i:Int)<(n:Int))=false›;omega
 subst hin
 have hfull:es.take i=es:=List.take_of_length_le (by omega)
 refine FP hfull ?_
 refine AP (Br fun w hw=>?_)
 exact ⟨rfl,hw.below⟩
theorem Su {W:World} {b off:Nat} {cap:Int} {ms:Value} {A:Option Addr} {n c:Nat} {es:List DZ} (h:Ot W W.heap.size b off cap ms A n c es) (p:Int) :
  Calls Tryz.prog 81 #[.pointer (some ⟨b,off,none⟩),.int .i64 p] W fun en w'=>en = .returned (.bool (decide ((GR es p:Int)<cap)))/\Below W.heap.size W w':=by
 refine Ab (M:=[]) Tryz.func81 [.tmp 4] (St.nil _ _) ?_
 have zs:=Bd.mk C9
 refine Aq ?_
 refine AB fun K k0=>?_
 refine BR [(true,0),(true,1),(true,3),(true,4),(true,5),(true,6),(false,2),(true,7),(true,8)] [] CB rfl (by kernel_rfl) (by kernel_rfl) rfl rfl ?_
 refine Ah ?_
 refine Aj (h.cell.ld1 (m:=1) (i:=0) (by kernel_rfl) rfl) ?_
 refine Ah ?_
 refine Aa (fun w hw=>UD (h.at hw) p) ?_
 try refine Ah ?_
 refine k0 _ _ ?_
 refine AP (Cc fun w hw=>?_)
 exact ⟨rfl,hw.below⟩
structure Qu where
 qb:Int
 qo:Int
 qr:Int
structure Sh where
 p:Int
 q:Qu
def quc (q:Qu):List Value:=[.int .i64 q.qb,.int .i64 q.qo,.int .i64 q.qr]
def O9 (q:Qu):Value:=.agg #[.int .i64 q.qb,.int .i64 q.qo,.int .i64 q.qr]
def shc (s:Sh):List Value:=[.int .i64 s.p,.int .i64 s.q.qb,.int .i64 s.q.qo,.int .i64 s.q.qr]
theorem Fz (s:Sh):(shc s).length=4:=rfl
def CE (l:List Sh):List Value:=l.flatMap shc
theorem Mo (l:List Sh) (s:Sh):CE (l++[s])=CE l++[.int .i64 s.p,.int .i64 s.q.qb,.int .i64 s.q.qo,.int .i64 s.q.qr]:=by simp [CE,shc]
def pV (p:Int) (s:Sh):Bool:=decide (s.p=p)
def Hd (l:List Sh) (p:Int):Qu:=match l.find? (pV p) with
 | some s=>s.q
 | none=>⟨0,0,0⟩
def QH (l:List Sh) (p:Int) (q:Qu):List Sh:=(l.filter fun s => !pV p s)++[⟨p,q⟩]
structure Qu.ok (q:Qu):Prop where
 b:0<=q.qb/\q.qb<=1099511627776
 o:0<=q.qo/\q.qo<=1099511627776
 r:0<=q.qr/\q.qr<=1099511627776
theorem O_ {l:List Sh} (h:∀s∈l,s.q.ok) (p:Int):(Hd l p).ok:=by
 unfold Hd
 cases hf:l.find? (pV p) with
 | none=>exact ⟨by simp,by simp,by simp⟩
 | some s=>exact h s (List.mem_of_find?_eq_some hf)
structure ZE (w:World) (B b off:Nat) (lim:Qu) (A:Option Addr) (n c:Nat) (l:List Sh):Prop where
 cell:Sl w B 1 (some ⟨b,off,none⟩) 4 4 [.int .i64 lim.qb,.int .i64 lim.qo,.int .i64 lim.qr,.slice A n c]
 row:Sl w B 4 A n c (CE l)
 max:n<=100000
theorem ZE.at {W w:World} {L:List Ai} {b off:Nat} {lim:Qu} {A:Option Addr} {n c:Nat} {l:List Sh} (h:ZE W W.heap.size b off lim A n c l) (hw:St [] W L w):ZE w w.heap.size b off lim A n c l:=⟨h.cell.at hw,h.row.at hw,h.max⟩
theorem ZE.len {w:World} {B b off:Nat} {lim:Qu} {A:Option Addr} {n c:Nat} {l:List Sh} (h:ZE w B b off lim A n c l):l.length=n:=by
 have:=h.row.len
 unfold CE at this
 rw [Cr Fz] at this
 omega
theorem X8 {α:Type} {l:List α} {p:α->Bool} {i:Nat} {e:α} (he:l[i]? = some e) (hp:(l.take i).find? p=none) (h:p e=true):l.find? p=some e:=by
 have h1:l=l.take i++e::l.drop (i+1):=by
  conv=>lhs;rw [<-List.take_append_drop i l]
  rw [List.drop_eq_getElem_cons (List.getElem?_eq_some_iff.1 he).1,(List.getElem?_eq_some_iff.1 he).2]
 rw [h1,List.find?_append,hp]
 simp [h]
theorem X9 {α:Type} {l:List α} {p:α->Bool} {i:Nat} {e:α} (he:l[i]? = some e) (hp:(l.take i).find? p=none) (h:p e=false):(l.take (i+1)).find? p=none:=by
 rw [List.take_add_one,he,List.find?_append,hp]
 simp [h]
theorem QI {W:World} {b off:Nat} {lim:Qu} {A:Option Addr} {n c:Nat} {l:List Sh} (h:ZE W W.heap.size b off lim A n c l) (p:Int) :
  Calls Tryz.prog 82 #[.pointer (some ⟨b,off,none⟩),.int .i64 p] W fun en w'=>en = .returned (O9 (Hd l p))/\Below W.heap.size W w':=by
 have hlen:=h.len
 have hmax:=h.max
 have hbW:b<W.heap.size:=h.cell.lt (by omega)
 refine DY (M:=[]) (n:=34) [.cell 4 25] rfl Tryz.func82 rfl rfl (Nat.le_of_ble_eq_true rfl) (St.nil _ _) ?_
 refine AQ rfl fun K k0=>?_
 have zs:=Bd.mk C9
 refine Ah ?_
 intro b4 hb4
 refine k0 _ _ ?_
 refine AB fun K k0=>?_
 refine Aq ?_
 refine AV [0,1,4,5] fun G8 g8=>?_
 replace g8:=Bi g8
 refine Ad ?_
 refine BP (fun F' L' => ∃(i:Nat),Az F' G8 [0,1,4]/\F' 5 = .int .i64 (i:Int)/\L'=[.blk b4 25 [.int .i64 0,.int .i64 0,.int .i64 0]]/\i<=n/\(l.take i).find? (pV p)=none) (fun F' L'=>200000-(intOf (F' 5)).toNat) ?_ ?_
 ·refine ⟨0, ?_⟩
  have zg:=Bd.mk g8
  refine AR ?_
  exact ⟨Nat.zero_le _,rfl⟩
 intro G9 L' hI
 obtain ⟨i,zq,KO,rfl,⟨hi,hfn⟩⟩:=hI
 have zg:=Bd.mk g8
 have g9:=And.intro (Bg zq) KO
 refine AB fun K k1=>?_
 refine AQ rfl fun K k2=>?_
 replace zg:=Bd.mk (And.intro g8 g9)
 refine AR ?_
 refine Aj (h.cell.ld1 (m:=1) (i:=3) (by kernel_rfl) rfl) ?_
 refine AR ?_
 refine k2 _ _ ?_
 refine Dl (fun hc=>?_) fun hc=>?_
 ·refine AO ?_
  try simp only [BJ,BX]
  have hit:i<n:=by have:=of_decide_eq_true ‹decide ((i:Int)<(n:Int))=true›;omega
  obtain ⟨e,he⟩:∃e,l[i]? = some e:=⟨_,List.getElem?_eq_getElem (by omega)⟩
  have hld:((CE l).drop (i*4+1)).take 3=quc e.q:=by
   have:=congrArg (List.drop 1) (FB Fz he)
   rw [List.drop_take,List.drop_drop] at this
   exact this
  have hrow:=h.row
  obtain ⟨bA,oA,rfl,KD, -⟩:=hrow.cells (by omega)
  refine k1 _ _ ?_
  refine AB fun K k1=>?_
  refine Ad ?_
  refine AQ rfl fun K k2=>?_
  refine AR ?_
  refine Aj (h.cell.ld1 (m:=1) (i:=3) (by kernel_rfl) rfl) ?_
  refine AR ?_
  refine Aj (hrow.ld1 (m:=1) (i:=i*4+0) (by kernel_rfl) (Co Fz he (by omega))) ?_
  refine AR ?_
  refine k2 _ _ ?_
  refine AL ?_
  by_cases h1:e.p=p
  ·have d1:decide (e.p=p)=true:=decide_eq_true h1
   have hq:Hd l p=e.q:=by unfold Hd;rw [X8 he hfn d1]
   refine Ap d1 ?_
   refine AQ rfl fun K k2=>?_
   refine AR ?_
   refine Aj (h.cell.ld1 (m:=1) (i:=3) (by kernel_rfl) rfl) ?_
   refine AR ?_
   refine Aj (hrow.ld (i:=i*4+1) (vs:=quc e.q) (by omega) (by kernel_rfl) hld) ?_
   refine AR ?_
   simp only [quc]
   refine AR ?_
   refine k2 _ _ ?_
   refine AP ?_
   simp -implicitDefEqProofs (disch:=first|omega|decide) only [seval, -Int.reducePow, -Nat.reducePow,cC,pv,Ao,Az,undef,C9,Dx,Cx,Cw,g8,g9]
   intro w hw
   rw [hq]
   exact ⟨rfl,hw.below⟩
  ·refine Ap h1 ?_
   refine AO (k1 _ _ ?_)
   refine AF rfl ?_
   refine AR ?_
   refine ⟨⟨i+1, ?_⟩, ?_⟩
   ·refine Ap @Int.natCast_add ?_
    exact ⟨by omega,X9 he hfn (decide_eq_false h1)⟩
   ·simp only [intOf];omega
 refine BM (k0 _ _ ?_)
 have hin:i=n:=by have:=of_decide_eq_false ‹decide ((i:Int)<(n:Int))=false›;omega
 subst hin
 rw [List.take_of_length_le (by omega)] at hfn
 have hq:Hd l p=⟨0,0,0⟩:=by unfold Hd;rw [hfn]
 refine BH ?_
 refine AP ?_
 simp -implicitDefEqProofs (disch:=first|omega|decide) only [seval, -Int.reducePow, -Nat.reducePow,cC,pv,Ao,Az,undef,C9,Dx,Cx,Cw,g8,g9]
 intro w hw
 rw [hq]
 exact ⟨rfl,hw.below⟩
def fO (a b l:Int):Bool:=decide (l<b)||decide (l-b<a)
theorem Jr (a b l:Int) (hb:0<=b/\b<=1099511627776) (hl:0<=l/\l<=9223372036854775807) (W:World) :
  Calls Tryz.prog 126 #[.int .i64 a,.int .i64 b,.int .i64 l] W fun en w'=>en = .returned (.bool (fO a b l))/\Below W.heap.size W w':=by
 refine Ab (M:=[]) Tryz.func126 [.tmp 6] (St.nil _ _) ?_
 have zs:=Bd.mk C9
 refine Aq ?_
 refine AV [0,1,2] fun pW g10=>?_
 replace g10:=Bi g10
 refine AB fun K k0=>?_
 refine A9 (fun _ _=>True) (fun F' L'=>F' 6 = .bool (fO a b l)/\L'=[]) ?_ ?_
 ·unfold fO
  by_cases h:l<b
  ·refine AF rfl ?_
   have zg:=Bd.mk g10
   exact NQ h
  ·refine AF rfl ?_
   have zg:=Bd.mk g10
   exact NQ h
 intro ry L' _ hF
 obtain ⟨Jq,rfl⟩:=hF
 have g11:=Jq
 refine k0 _ _ ?_
 have zg:=Bd.mk g11
 refine AP (Br fun w hw=>?_)
 exact ⟨rfl,hw.below⟩
def Na (lim x q:Qu):Bool:=fO x.qb q.qb lim.qb||fO x.qo q.qo lim.qo||fO x.qr q.qr lim.qr
structure Qu.lim (q:Qu):Prop where
 b:0<=q.qb/\q.qb<=9223372036854775807
 o:0<=q.qo/\q.qo<=9223372036854775807
 r:0<=q.qr/\q.qr<=9223372036854775807
theorem Nb {W:World} {b off:Nat} {lim:Qu} {A:Option Addr} {n c:Nat} {l:List Sh} (h:ZE W W.heap.size b off lim A n c l) (hl:lim.lim) (p:Int) (q:Qu) (hq:q.ok) :
  Calls Tryz.prog 91 #[.pointer (some ⟨b,off,none⟩),.int .i64 p,O9 q] W fun en w'=>en = .returned (.int .i64 (if Na lim (Hd l p) q=true then 16 else 0))/\Below W.heap.size W w':=by
 have hbW:b<W.heap.size:=h.cell.lt (by omega)
 obtain ⟨⟨qb1,qb2⟩,⟨qo1,qo2⟩,⟨qr1,qr2⟩⟩:=hq
 obtain ⟨lb,lo,lr⟩:=hl
 have n1:¬q.qb<0:=by omega
 have n2:¬q.qo<0:=by omega
 have n3:¬q.qr<0:=by omega
 have n4:¬lim.qb<0:=by omega
 have n5:¬lim.qo<0:=by omega
 have n6:¬lim.qr<0:=by omega
 obtain ⟨x,hx⟩:∃x,Hd l p=x:=⟨_,rfl⟩
 rw [hx]
 refine Ab (M:=[]) Tryz.func91 [.tmp 6] (St.nil _ _) ?_
 refine AQ rfl fun K k0=>?_
 simp -implicitDefEqProofs (disch:=first|omega|decide) only [seval, -Int.reducePow, -Nat.reducePow,cC,pv,Ao,Az,undef,C9,O9]
 intro b5 hb5
 refine k0 _ _ ?_
 refine AB fun K k0=>?_
 have zs:=Bd.mk C9
 refine LX (And.intro n1 (And.intro n2 n3)) ?_
 refine AL ?_
 refine Ah ?_
 refine AO (k0 _ _ ?_)
 refine AQ rfl fun K k0=>?_
 refine Ah ?_
 refine Aa (fun w hw=>hx▸QI (h.at hw) p) ?_
 try simp -implicitDefEqProofs (disch:=first|omega|decide) only [seval, -Int.reducePow, -Nat.reducePow,cC,pv,Ao,Az,undef,C9,O9]
 intro b7 Z0 mZ
 refine k0 _ _ ?_
 refine AV [0,5,7] fun G12 g12=>?_
 replace g12:=Bi g12
 refine AB fun K k0=>?_
 refine AB fun K k1=>?_
 refine A9 (fun _ _=>True) (fun F' L'=>F' 81 = .bool (Na lim x q)/\L'=[.blk b7 25 [.int .i64 x.qb,.int .i64 x.qo,.int .i64 x.qr],.blk b5 25 [.int .i64 q.qb,.int .i64 q.qo,.int .i64 q.qr]]) ?_ ?_
 ·unfold Na
  obtain ⟨x1,hx1⟩:∃x1,fO x.qb q.qb lim.qb=x1:=⟨_,rfl⟩
  obtain ⟨x2,hx2⟩:∃x2,fO x.qo q.qo lim.qo=x2:=⟨_,rfl⟩
  obtain ⟨x3,hx3⟩:∃x3,fO x.qr q.qr lim.qr=x3:=⟨_,rfl⟩
  rw [hx1,hx2,hx3]
  refine BR [(true,0),(true,1),(true,2),(true,3),(true,4),(true,5),(true,6),(true,7),(true,8),(true,9),(true,10),(true,11),(true,12),(true,13),(true,14),(true,15),(true,16),(true,17),(true,18),(true,19),(true,20),(true,21),(true,22),(true,23),(true,24),(true,25),(true,26),(true,27),(true,28),(true,29),(true,30),(true,31),(false,32),(true,33),(true,34),(true,35),(true,36),(true,37),(true,38),(true,39),(true,40),(true,41),(true,42),(true,43),(false,44),(true,45),(true,46),(true,47),(true,48),(true,49),(true,50),(true,51),(true,52),(true,53),(true,54),(true,55),(false,56),(true,57)] [] CB rfl (by kernel_rfl) (by kernel_rfl) rfl rfl ?_
  have zg:=Bd.mk g12
  refine AR ?_
  refine Aj (h.cell.ld1 (m:=1) (i:=0) (by kernel_rfl) rfl) ?_
  refine Ap n4 ?_
  refine Aj (h.cell.ld1 (m:=1) (i:=1) (by kernel_rfl) rfl) ?_
  refine Ap (And.intro n4 n5) ?_
  refine Aj (h.cell.ld1 (m:=1) (i:=2) (by kernel_rfl) rfl) ?_
  refine Ap (And.intro n4 (And.intro n5 n6)) ?_
  refine Aj (h.cell.ld1 (m:=1) (i:=0) (by kernel_rfl) rfl) ?_
  refine AR ?_
  refine Aa (fun w hw=>hx1▸Jr x.qb q.qb lim.qb ⟨by omega,by omega⟩ lb w) ?_
  cases x1 with
  | true=>simp -implicitDefEqProofs (disch:=first|omega|decide) only [seval, -Int.reducePow, -Nat.reducePow,cC,pv,Ao,Az,undef,C9,g12]
  | false =>
   refine AR ?_
   refine Aj (h.cell.ld1 (m:=1) (i:=1) (by kernel_rfl) rfl) ?_
   refine AR ?_
   refine Aa (fun w hw=>hx2▸Jr x.qo q.qo lim.qo ⟨by omega,by omega⟩ lo w) ?_
   cases x2 with
   | true=>simp -implicitDefEqProofs (disch:=first|omega|decide) only [seval, -Int.reducePow, -Nat.reducePow,cC,pv,Ao,Az,undef,C9,g12]
   | false =>
    refine AR ?_
    refine Aj (h.cell.ld1 (m:=1) (i:=2) (by kernel_rfl) rfl) ?_
    refine AR ?_
    refine Aa (fun w hw=>hx3▸Jr x.qr q.qr lim.qr ⟨by omega,by omega⟩ lr w) ?_
    exact MQ
 intro G13 L' _ hF
 obtain ⟨AGR,rfl⟩:=hF
 have g13:=AGR
 refine k1 _ _ ?_
 refine AL ?_
 cases hf:Na lim x q with
 | true =>
  have zg:=Bd.mk g13
  refine Ap hf ?_
  refine BH ?_
  refine AP (Br fun w hw=>?_)
  exact ⟨rfl,hw.below⟩
 | false =>
  have zg:=Bd.mk g13
  refine Ap hf ?_
  refine AO (k0 _ _ ?_)
  refine BH ?_
  refine AP (Br fun w hw=>?_)
  exact ⟨by rw [hf];rfl,hw.below⟩
section
variable {M:List Nat} {W w:World} {L:List Ai}
theorem St.ma {A:Option Addr} {n c m size:Nat} {t:TypeId} {xs:List Value} (h:St M W (.row (.slice A n c) t size n xs::L) w) (hm:m<=n):St M W (.row (.slice A m c) t size m (xs.take (m*size))::L) w:=by
 have hh:w.ownsRow 0 t size (.slice A n c) n xs:=h.holds _ (.head _)
 have ho:=h.own _ (.head _)
 have hap:=(List.pairwise_cons.1 h.apart).1
 refine h.tail.add _ ?_ ?_ ?_
 ·obtain ⟨hl,hc⟩:=hh
  refine ⟨by rw [List.length_take,hl,Nat.min_eq_left (Nat.mul_le_mul_right _ hm)], ?_⟩
  rcases hc with ⟨hv,hn⟩|⟨g,cap,cur,hv,h1,h2,h3,h4,h5,h6⟩
  ·refine .inl ⟨?_,by omega⟩
   simp only [Value.slice.injEq] at hv ⊢
   exact ⟨hv.1,by omega,hv.2.2⟩
  ·simp only [Value.slice.injEq] at hv
   obtain ⟨rfl, -,rfl⟩:=hv
   refine .inr ⟨g,_,cur,rfl,h1,h2,Nat.le_trans hm h3,h4,h5, ?_⟩
   rw [<-h6,List.take_take,Nat.min_eq_left (Nat.mul_le_mul_right _ hm)]
 ·intro b hb
  refine ho b ?_
  cases A with
  | none=>simp [Ai.foot,Value.ownBlock] at hb
  | some a=>simpa [Ai.foot,Value.ownBlock] using hb
 ·intro s hs b hb
  refine hap s hs b ?_
  cases A with
  | none=>simp [Ai.foot,Value.ownBlock] at hb
  | some a=>simpa [Ai.foot,Value.ownBlock] using hb
end
def Bf (l:List Int):List Value:=l.map (Value.int .i64)
theorem CG (l:List Int):(Bf l).length=l.length:=by simp [Bf]
theorem EY {l:List Int} {i:Nat} {v:Int} (h:l[i]? = some v):(Bf l)[i]? = some (.int .i64 v):=by unfold Bf;rw [List.getElem?_map,h];rfl
theorem H8 (l:List Int) (i:Nat) (v:Int):(Bf l).set i (.int .i64 v)=Bf (l.set i v):=by unfold Bf;rw [List.map_set]
theorem UE (l:List Int):ones (Bf l)=true:=by simp [ones,Bf,Value.oneCell']
def Gh (l:List Int) (k:Nat):List Int:=(l.set k ((l[l.length-1]?).getD 0)).take (l.length-1)
theorem aB (l:List Int) (k:Nat):(Gh l k).length=l.length-1:=by unfold Gh;rw [List.length_take,List.length_set];omega
structure TkI where
 A:Option Addr
 n:Nat
 c:Nat
def tkV (x:Int) (i:TkI):Value:=.tuple #[.int .i64 x,.slice i.A i.n i.c]
theorem aC {W:World} {A:Option Addr} {n c:Nat} {l:List Int} (h:Sl W W.heap.size 1 A n c (Bf l)) (d:Nat) (hd:d<18446744073709551616) (hn:0<n/\n<=100000) (x:Int) (hx:l[d % n]? = some x) :
  Calls Tryz.prog 150 #[.slice A n c,.int .u64 (d:Int)] W
  fun en w' => ∃i:TkI,en = .returned (tkV x i)/\i.n=n-1/\St [] W [.row (.slice i.A i.n i.c) 3 1 i.n (Bf (Gh l (d % n)))] w':=by
 have hlen:=h.len
 rw [CG] at hlen
 have hk:=Nat.mod_lt d hn.1
 have hcap:=h.cap
 have hmax:=h.max
 have hw1:IntKind.u64.wrap (n:Int)=(n:Int):=wrap_u64 (by omega) (by omega)
 have hdk:(d:Int) % (n:Int)=((d % n:Nat):Int):=by omega
 obtain ⟨k,hkk⟩:∃k,d % n=k:=⟨_,rfl⟩
 rw [hkk] at hk hx hdk
 rw [hkk]
 have hn0:¬((n:Int)=0):=by omega
 obtain ⟨z,hz⟩:∃z,l[n-1]? = some z:=⟨_,List.getElem?_eq_getElem (by omega)⟩
 have htk:Gh l k=(l.set k z).take (n-1):=by unfold Gh;rw [show l.length=n by omega,hz];rfl
 have ek:IntKind.i64.wrap ((n:Int)-1)=((n-1:Nat):Int):=by rw [Ae (by omega) (by omega)];omega
 have o1:=UE l
 refine Ab (M:=[]) Tryz.func150 [.tmp 4,.tmp 5] (St.nil _ _) ?_
 have zs:=Bd.mk Bb
 refine Aq ?_
 refine LX (And.intro hw1 (And.intro hn0 hdk)) ?_
 obtain ⟨bA,oA,rfl,KD, -⟩:=h.cells (by omega)
 refine AQ rfl fun K k0=>?_
 refine Ah ?_
 refine Aj (h.ld1 (m:=1) (i:=k) (v:=.int .i64 x) (by kernel_rfl) (EY hx)) ?_
 refine Ah ?_
 refine k0 _ _ ?_
 refine AQ rfl fun K k0=>?_
 refine Ah ?_
 intro b19 zx
 refine CR 0 J_ rfl rfl (fun w hw=>(h.at hw).reads) o1 (by omega) (by omega) ?_
 intro A8 c8 hl8 hr8
 refine D_ (And.intro @Nat.zero_add @List.nil_append.{0}) ?_
 refine k0 _ _ ?_
 refine AV [6,7,8] fun G1 g1=>?_
 replace g1:=Bi g1
 refine Tv 0 rfl fun AIT AIU=>?_
 refine BQ 0 rfl (by omega) fun g DJ hg Bl=>?_
 subst DJ
 simp only [List.eraseIdx_cons_zero,List.eraseIdx_cons_succ,BC,BD,BI,A_,and_true,List.not_mem_nil,or_false,Bb] at Bl hg
 replace hg:=And.intro hg Bl
 clear Bl
 have hset:(Bf l).set k (Value.int .i64 z)=Bf (l.set k z):=H8 _ _ _
 refine AQ rfl fun K k0=>?_
 have zg:=Bd.mk g1
 refine Ap ek ?_
 refine Aj (BN (m:=1) (i:=n-1) (v:=.int .i64 z) (AZ (k:=0) rfl) rfl (EY hz)) ?_
 refine Ap ek ?_
 refine Aj (EW 0 (i:=k) (v:=.int .i64 z) rfl (by rw [CG];omega) (by kernel_rfl) rfl rfl) ?_
 refine Ap (And.intro hset ek) ?_
 refine k0 _ _ ?_
 refine AB fun K k0=>?_
 refine BR [(true,0),(true,1),(true,2),(true,3),(true,4),(true,5),(true,6),(true,7)] [] CB rfl (by kernel_rfl) (by kernel_rfl) rfl rfl ?_
 refine Ap ek ?_
 refine k0 _ _ ?_
 have hfin:(Bf (l.set k z)).take ((n-1)*1)=Bf (Gh l k):=by
  rw [htk]
  unfold Bf
  rw [<-List.map_take,Nat.mul_one]
 refine Cq [.row (.slice (some ⟨g,0,none⟩) (n-1) c8) 3 1 (n-1) (Bf (Gh l k))] (fun w hw=>hfin▸hw.ma (m:=n-1) (by omega)) ?_
 refine AP (Br fun w hw=>?_)
 exact ⟨⟨some ⟨g,0,none⟩,n-1,c8⟩,rfl,rfl,hw⟩
def EO (l:List Bool):List Value:=l.map Value.bool
theorem GU (l:List Bool):(EO l).length=l.length:=by simp [EO]
theorem QJ {l:List Bool} {i:Nat} {v:Bool} (h:l[i]? = some v):(EO l)[i]? = some (.bool v):=by unfold EO;rw [List.getElem?_map,h];rfl
theorem QK (l:List Bool) (i:Nat) (v:Bool):(EO l).set i (.bool v)=EO (l.set i v):=by unfold EO;rw [List.map_set]
theorem Ii (l:List Int) (v:Int):Bf (l++[v])=Bf l++[.int .i64 v]:=by simp [Bf]
structure Re where
 sb:Nat
 first:Int
 GA:Option Addr
 gn:Nat
 gc:Nat
 VA:Option Addr
 vn:Nat
 vc:Nat
 FA:Option Addr
 fn:Nat
 fc:Nat
 gone:Int
 gen:List Int
 Cz:List Bool
 DC:List Int
def I4 (x:Re):List Ai:=[.blk x.sb 182 [.int .i64 x.first,.slice x.GA x.gn x.gc,.slice x.VA x.vn x.vc,.slice x.FA x.fn x.fc,.int .i64 x.gone],.row (.slice x.GA x.gn x.gc) 3 1 x.gn (Bf x.gen),.row (.slice x.VA x.vn x.vc) 4 1 x.vn (EO x.Cz),.row (.slice x.FA x.fn x.fc) 3 1 x.fn (Bf x.DC)]
def B_ (x:Re) (slot:Nat):Bool:=(x.Cz[slot]?).getD false
def EC (x:Re) (slot:Nat):Int:=(x.gen[slot]?).getD 0
def pX (x:Re) (slot:Nat):Value:=if B_ x slot=true then .tuple #[.int .i64 (EC x slot),.bool true] else .tuple #[.int .i64 0,.bool false]
structure UF (x y:Re):Prop where
 sb:y.sb=x.sb
 first:y.first=x.first
 gl:y.gen.length=x.gen.length
 vl:y.Cz.length=x.Cz.length
theorem Vs (x:Re) (slot:Nat) (hN:x.gen.length=x.Cz.length) (hs:slot<16777216) (W:World) (hst:St (Ak (I4 x)) W (I4 x) W) :
  Calls Tryz.prog 131 #[.pointer (some ⟨x.sb,0,none⟩),.int .i64 (slot:Int)] W
  fun en w' => ∃i:Unit,en = .returned (pX x slot)/\True/\St (Ak (I4 x)) W (I4 x) w':=by
 obtain ⟨M,hM⟩:∃M,Ak (I4 x)=M:=⟨_,rfl⟩
 rw [hM] at hst ⊢
 obtain ⟨sb,first,GA,gn,gc,VA,vn,vc,FA,fn,fc,gone,gen,Cz,DC⟩:=x
 unfold I4 at hst
 dsimp only at *
 clear hM
 have hgl:gen.length=gn:=by have:=(Sl.Av hst (AZ (k:=1) rfl)).len;rw [CG] at this;omega
 have hvl:Cz.length=vn:=by have:=(Sl.Av hst (AZ (k:=2) rfl)).len;rw [GU] at this;omega
 have hfl:DC.length=fn:=by have:=(Sl.Av hst (AZ (k:=3) rfl)).len;rw [CG] at this;omega
 have hap:=hst.facts
 simp only [GN,GQ,Jm,Jl] at hap
 refine Ab (M:=M) Tryz.func131 [.tmp 4,.tmp 5]  hst ?_
 have zs:=Bd.mk Bb
 refine Aq ?_
 refine AV [0,1] fun G1 g1=>?_
 replace g1:=Bi g1
 have hn0:¬((slot:Int)<0):=by omega
 refine AB fun K k0=>?_
 refine AB fun K k1=>?_
 refine A9 (fun _ _=>True) (fun F' L'=>Az F' G1 [0,1]/\F' 26 = .bool (!B_ ⟨sb,first,GA,gn,gc,VA,vn,vc,FA,fn,fc,gone,gen,Cz,DC⟩ slot)/\L'=[.blk sb 182 [.int .i64 first,.slice GA gn gc,.slice VA vn vc,.slice FA fn fc,.int .i64 gone],.row (.slice GA gn gc) 3 1 gn (Bf gen),.row (.slice VA vn vc) 4 1 vn (EO Cz),.row (.slice FA fn fc) 3 1 fn (Bf DC)]) ?_ ?_
 ·unfold B_
  dsimp only
  by_cases hlt:slot<vn
  ·have hge:¬((vn:Int)<=(slot:Int)):=by omega
   obtain ⟨v,hv⟩:∃v,Cz[slot]? = some v:=⟨_,List.getElem?_eq_getElem (by omega)⟩
   refine BQ 2 rfl (by omega) fun g DJ hg Bl=>?_
   subst DJ
   simp only [List.eraseIdx_cons_zero,List.eraseIdx_cons_succ,BC,BD,BI,A_,and_true,List.not_mem_nil,or_false,Bb] at Bl hg
   replace hg:=And.intro hg Bl
   clear Bl
   refine AF rfl ?_
   have zg:=Bd.mk g1
   refine Ap (And.intro hn0 hge) ?_
   refine Aj (BN (m:=1) (i:=slot) (v:=.bool v) (AZ (k:=2) rfl) rfl (QJ hv)) ?_
   refine Ap (And.intro hn0 hge) ?_
   rw [hv]
   rfl
  ·have hge:((vn:Int)<=(slot:Int)):=by omega
   have hno:Cz[slot]? = none:=List.getElem?_eq_none (by omega)
   refine AF rfl ?_
   have zg:=Bd.mk g1
   refine Ap (And.intro hn0 hge) ?_
   rw [hno]
   rfl
 intro G2 L' _ hF
 obtain ⟨zq,AGU,rfl⟩:=hF
 have zg:=Bd.mk g1
 have g2:=And.intro (Bg zq) AGU
 refine k1 _ _ ?_
 refine AL ?_
 cases hlv:B_ ⟨sb,first,GA,gn,gc,VA,vn,vc,FA,fn,fc,gone,gen,Cz,DC⟩ slot with
 | false =>
  replace zg:=Bd.mk g2
  refine Ap hlv ?_
  refine BH ?_
  refine AP (Br fun w hw=>?_)
  refine ⟨(), ?_,hw⟩
  unfold pX
  rw [hlv]
  rfl
 | true =>
  have hlt:slot<gn:=by
   unfold B_ at hlv
   dsimp only at hlv
   cases hq:Cz[slot]? with
   | none=>rw [hq] at hlv;cases hlv
   | some v=>have:=(List.getElem?_eq_some_iff.1 hq).1;omega
  obtain ⟨gv,hgv⟩:∃v,gen[slot]? = some v:=⟨_,List.getElem?_eq_getElem (by omega)⟩
  replace zg:=Bd.mk g2
  refine Ap hlv ?_
  refine AO (k0 _ _ ?_)
  refine BQ 1 rfl (by omega) fun g DJ hg Bl=>?_
  subst DJ
  simp only [List.eraseIdx_cons_zero,List.eraseIdx_cons_succ,BC,BD,BI,A_,and_true,List.not_mem_nil,or_false,Bb] at Bl hg
  replace hg:=And.intro hg Bl
  clear Bl
  refine AQ rfl fun K k0=>?_
  refine AR ?_
  refine Aj (BN (m:=1) (i:=slot) (v:=.int .i64 gv) (AZ (k:=1) rfl) rfl (EY hgv)) ?_
  refine AR ?_
  refine k0 _ _ ?_
  refine AP (Br fun w hw=>?_)
  refine ⟨(), ?_,trivial,hw⟩
  unfold pX
  rw [hlv]
  simp [EC,hgv]
theorem aD (x:Re) (slot:Nat) (hN:x.gen.length=x.Cz.length) (hs:slot<16777216) (hf:x.DC.length<=100000) (hgo:0<=x.gone/\x.gone<=4611686018427387904) (hlv:B_ x slot=true) (W:World) (hst:St (Ak (I4 x)) W (I4 x) W) :
  Calls Tryz.prog 123 #[.pointer (some ⟨x.sb,0,none⟩),.int .i64 (slot:Int)] W
  fun en w' => ∃y:Re,en = .returned (.int .i64 0)/\(UF x y/\y.gen=x.gen/\y.Cz=x.Cz.set slot false/\(if EC x slot=4294967295 then y.gone=x.gone+1/\y.DC=x.DC else y.gone=x.gone/\y.DC=x.DC++[(slot:Int)]))/\St (Ak (I4 x)) W (I4 y) w':=by
 obtain ⟨M,hM⟩:∃M,Ak (I4 x)=M:=⟨_,rfl⟩
 rw [hM] at hst ⊢
 obtain ⟨sb,first,GA,gn,gc,VA,vn,vc,FA,fn,fc,gone,gen,Cz,DC⟩:=x
 unfold I4 at hst
 dsimp only at *
 clear hM
 have hgl:gen.length=gn:=by have:=(Sl.Av hst (AZ (k:=1) rfl)).len;rw [CG] at this;omega
 have hvl:Cz.length=vn:=by have:=(Sl.Av hst (AZ (k:=2) rfl)).len;rw [GU] at this;omega
 have hfl:DC.length=fn:=by have:=(Sl.Av hst (AZ (k:=3) rfl)).len;rw [CG] at this;omega
 have hlt:slot<vn:=by
  unfold B_ at hlv
  dsimp only at hlv
  cases hq:Cz[slot]? with
  | none=>rw [hq] at hlv;cases hlv
  | some v=>have:=(List.getElem?_eq_some_iff.1 hq).1;omega
 obtain ⟨gv,hgv⟩:∃v,gen[slot]? = some v:=⟨_,List.getElem?_eq_getElem (by omega)⟩
 have hgi:EC ⟨sb,first,GA,gn,gc,VA,vn,vc,FA,fn,fc,gone,gen,Cz,DC⟩ slot=gv:=by unfold EC;dsimp only;rw [hgv];rfl
 rw [hgi]
 have hof:pX ⟨sb,first,GA,gn,gc,VA,vn,vc,FA,fn,fc,gone,gen,Cz,DC⟩ slot = .tuple #[.int .i64 gv,.bool true]:=by unfold pX;rw [if_pos hlv,hgi]
 have fP:(EO Cz).set slot (Value.bool false)=EO (Cz.set slot false):=QK _ _ _
 refine Ab (M:=M) Tryz.func123 [.tmp 4]  hst ?_
 have zs:=Bd.mk Bb
 refine Aq ?_
 refine AQ rfl fun K k0=>?_
 refine Ah ?_
 refine Bq (I4 ⟨sb,first,GA,gn,gc,VA,vn,vc,FA,fn,fc,gone,gen,Cz,DC⟩) (List.Sublist.refl _) (fun _:Unit=>.tuple #[.int .i64 gv,.bool true]) _ (fun w hw=>hof▸Vs ⟨sb,first,GA,gn,gc,VA,vn,vc,FA,fn,fc,gone,gen,Cz,DC⟩ slot hN hs w hw) ?_
 intro _ _
 refine Ah ?_
 refine k0 _ _ ?_
 refine AB fun K k0=>?_
 refine Aq ?_
 refine AL ?_
 refine Ah ?_
 refine AO (k0 _ _ ?_)
 refine AV [0,1] fun G3 g3=>?_
 replace g3:=Bi g3
 refine BQ 2 rfl (by omega) fun gb DJ hgb Bl=>?_
 subst DJ
 simp only [List.eraseIdx_cons_zero,List.eraseIdx_cons_succ,BC,BD,BI,A_,and_true,List.not_mem_nil,or_false,Bb] at Bl hgb
 replace hgb:=And.intro hgb Bl
 clear Bl
 refine BQ 1 rfl (by omega) fun gg DJ hgg Bl=>?_
 subst DJ
 simp only [List.eraseIdx_cons_zero,List.eraseIdx_cons_succ,BC,BD,BI,A_,and_true,List.not_mem_nil,or_false,Bb] at Bl hgg
 replace hgg:=And.intro hgg Bl
 clear Bl
 refine AQ rfl fun K k0=>?_
 have zg:=Bd.mk g3
 refine AR ?_
 refine Aj (EW 2 (i:=slot) (v:=.bool false) rfl (by rw [GU];omega) (by kernel_rfl) rfl rfl) ?_
 refine Ap fP ?_
 refine k0 _ _ ?_
 refine AB fun K k0=>?_
 refine AQ rfl fun K k1=>?_
 refine AR ?_
 refine Aj (BN (m:=1) (i:=slot) (v:=.int .i64 gv) (AZ (k:=1) rfl) rfl (EY hgv)) ?_
 refine AR ?_
 refine k1 _ _ ?_
 refine AV [0,1,28] fun G4 g4=>?_
 replace g4:=Bg g4
 refine A9 (fun _ _=>True) (fun F' L' => ∃(dY:Option Addr) (ll dZ:Nat) (Mq:Int) (UG:List Int),L'=[.blk sb 182 [.int .i64 first,.slice (some ⟨gg,0,none⟩) gn gc,.slice (some ⟨gb,0,none⟩) vn vc,.slice dY ll dZ,.int .i64 Mq],.row (.slice (some ⟨gg,0,none⟩) gn gc) 3 1 gn (Bf gen),.row (.slice (some ⟨gb,0,none⟩) vn vc) 4 1 vn (EO (Cz.set slot false)),.row (.slice dY ll dZ) 3 1 ll (Bf UG)]/\(if gv=4294967295 then Mq=gone+1/\UG=DC else Mq=gone/\UG=DC++[(slot:Int)])) ?_ ?_
 ·refine AL ?_
  by_cases hm:gv=4294967295
  ·have d:decide (gv=4294967295)=true:=decide_eq_true hm
   replace zg:=Bd.mk g4
   refine Ap d ?_
   refine AU rfl ?_
   refine AR ?_
   refine ⟨FA,fn,fc,gone+1,DC, ?_⟩
   refine AR ?_
   simp [hm]
  ·have o1:=UE DC
   replace zg:=Bd.mk g4
   refine Ap hm ?_
   refine Tv 3 rfl fun hcap ABh=>?_
   refine BG [2,3,4,0] (by decide) ?_
   refine AU rfl ?_
   refine AR ?_
   intro b37 zz AJU
   refine AR ?_
   refine CR 0 J_ rfl rfl (fun w hw=>EU (AZ (k:=4) rfl) hw) o1 (by omega) (by omega) ?_
   intro A3 c3 hl3 hr3
   refine Ap (And.intro @Nat.zero_add @List.nil_append.{0}) ?_
   intro b44 z8 AJV
   refine Bj 1 J_ rfl (fun w hw=>Bp (size:=1) (AZ (k:=0) rfl) rfl hw) rfl (by omega) (by omega) ?_
   intro A4 c4 hl4 hr4
   refine AR ?_
   exact ⟨A4,fn+1,c4,gone,DC++[(slot:Int)],by rw [Ii],rfl,rfl⟩
 intro G5 L' _ hF
 obtain ⟨dY,ll,dZ,Mq,UG,rfl,hc⟩:=hF
 refine k0 _ _ ?_
 refine Aq ?_
 refine AP (Cc fun w hw=>?_)
 exact ⟨⟨sb,first,some ⟨gg,0,none⟩,gn,gc,some ⟨gb,0,none⟩,vn,vc,dY,ll,dZ,Mq,gen,Cz.set slot false,UG⟩,rfl,⟨⟨rfl,rfl,rfl,by simp⟩,rfl,rfl,hc⟩,hw⟩
def Js (x:Re) (s:Nat):Int:=if EC x s=0 then x.first else EC x s+1
def rz (s:Nat) (g:Int) (y:Re):Value:=.tuple #[.int .i64 (s:Int),.int .i64 g,.int .i64 0]
theorem Vt (x:Re) (d:Nat) (hd:d<18446744073709551616) (hN:x.gen.length=x.Cz.length) (hf:0<x.DC.length/\x.DC.length<=100000) (s:Nat) (hs:x.DC[d % x.DC.length]? = some (s:Int)) (hsl:s<x.gen.length) (hg:0<=EC x s/\EC x s<=4611686018427387904) (W:World) (hst:St (Ak (I4 x)) W (I4 x) W) :
  Calls Tryz.prog 129 #[.pointer (some ⟨x.sb,0,none⟩),.int .u64 (d:Int)] W
  fun en w' => ∃y:Re,en = .returned (rz s (Js x s) y)/\(UF x y/\y.gen=x.gen.set s (Js x s)/\y.Cz=x.Cz.set s true/\y.gone=x.gone/\y.DC=Gh x.DC (d % x.DC.length))/\St (Ak (I4 x)) W (I4 y) w':=by
 obtain ⟨M,hM⟩:∃M,Ak (I4 x)=M:=⟨_,rfl⟩
 rw [hM] at hst ⊢
 obtain ⟨sb,first,GA,gn,gc,VA,vn,vc,FA,fn,fc,gone,gen,Cz,DC⟩:=x
 unfold I4 at hst
 dsimp only at *
 clear hM
 have hgl:gen.length=gn:=by have:=(Sl.Av hst (AZ (k:=1) rfl)).len;rw [CG] at this;omega
 have hvl:Cz.length=vn:=by have:=(Sl.Av hst (AZ (k:=2) rfl)).len;rw [GU] at this;omega
 have hfl:DC.length=fn:=by have:=(Sl.Av hst (AZ (k:=3) rfl)).len;rw [CG] at this;omega
 obtain ⟨gv,hgv⟩:∃v,gen[s]? = some v:=⟨_,List.getElem?_eq_getElem hsl⟩
 have hgi:EC ⟨sb,first,GA,gn,gc,VA,vn,vc,FA,fn,fc,gone,gen,Cz,DC⟩ s=gv:=by unfold EC;dsimp only;rw [hgv];rfl
 have hiG:Js ⟨sb,first,GA,gn,gc,VA,vn,vc,FA,fn,fc,gone,gen,Cz,DC⟩ s=if gv=0 then first else gv+1:=by unfold Js;rw [hgi]
 rw [hgi] at hg
 rw [hiG]
 have fP:(EO Cz).set s (Value.bool true)=EO (Cz.set s true):=QK _ _ _
 have AJX:s<gn:=by omega
 have hfn:¬((fn:Int)=0):=by omega
 rw [hfl] at hs hf ⊢
 refine Ab (M:=M) Tryz.func129 [.tmp 4,.tmp 5,.tmp 6]  hst ?_
 have zs:=Bd.mk Bb
 refine Aq ?_
 refine AB fun K k0=>?_
 refine Aq ?_
 refine AL ?_
 refine D_ hfn ?_
 refine AO (k0 _ _ ?_)
 refine AQ rfl fun K k0=>?_
 refine Ah ?_
 refine DN (tkV (s:Int)) (fun i:TkI=>[.row (.slice i.A i.n i.c) 3 1 i.n (Bf (Gh DC (d % fn)))]) _ (fun w hw=>aC (Sl.Av hw (AZ (k:=3) rfl)) d hd hf (s:Int) hs) ?_
 rintro ⟨dY,ll,dZ⟩ ABi
 dsimp only at ABi
 subst ABi
 unfold tkV
 dsimp only [List.cons_append,List.nil_append]
 refine Ah ?_
 refine k0 _ _ ?_
 refine Aq ?_
 refine BF [1,2,3,0] (by decide) ?_
 simp only [Ag,nth]
 refine BQ 1 rfl (by omega) fun gg DJ hgg Bl=>?_
 subst DJ
 simp only [List.eraseIdx_cons_zero,List.eraseIdx_cons_succ,BC,BD,BI,A_,and_true,List.not_mem_nil,or_false,Bb] at Bl hgg
 replace hgg:=And.intro hgg Bl
 clear Bl
 refine AB fun K k0=>?_
 refine AQ rfl fun K k1=>?_
 refine Ah ?_
 refine Aj (BN (m:=1) (i:=s) (v:=.int .i64 gv) (AZ (k:=1) rfl) rfl (EY hgv)) ?_
 refine Ah ?_
 refine k1 _ _ ?_
 refine AV [0,7,35] fun G6 g6=>?_
 replace g6:=Bi g6
 refine A9 (fun _ _=>True) (fun F' L'=>Az F' G6 [0,7]/\L'=[.blk sb 182 [.int .i64 first,.slice (some ⟨gg,0,none⟩) gn gc,.slice VA vn vc,.slice dY (fn-1) dZ,.int .i64 gone],.row (.slice (some ⟨gg,0,none⟩) gn gc) 3 1 gn (Bf (gen.set s (if gv=0 then first else gv+1))),.row (.slice VA vn vc) 4 1 vn (EO Cz),.row (.slice dY (fn-1) dZ) 3 1 (fn-1) (Bf (Gh DC (d % fn)))]) ?_ ?_
 ·refine AL ?_
  by_cases h0:gv=0
  ·have d0:decide (gv=0)=true:=decide_eq_true h0
   have hset:(Bf gen).set s (Value.int .i64 first)=Bf (gen.set s first):=H8 _ _ _
   have zg:=Bd.mk g6
   refine Ap d0 ?_
   refine Jk ?_
   refine BR [(true,0),(true,1),(true,2),(true,3),(true,4),(true,5),(true,6),(true,7),(true,8),(true,9),(false,10)] [10] CB rfl (by kernel_rfl) (by kernel_rfl) rfl rfl ?_
   refine AR ?_
   refine Aj (EW 1 (i:=s) (v:=.int .i64 first) rfl (by rw [CG];omega) (by kernel_rfl) rfl rfl) ?_
   refine Ap hset ?_
   try simp [h0]
  ·have hset:(Bf gen).set s (Value.int .i64 (gv+1))=Bf (gen.set s (gv+1)):=H8 _ _ _
   have zg:=Bd.mk g6
   refine Ap h0 ?_
   refine AU rfl ?_
   refine AR ?_
   refine Aj (BN (m:=1) (i:=s) (v:=.int .i64 gv) (AZ (k:=1) rfl) rfl (EY hgv)) ?_
   refine AR ?_
   refine Aj (EW 1 (i:=s) (v:=.int .i64 (gv+1)) rfl (by rw [CG];omega) (by kernel_rfl) rfl rfl) ?_
   refine Ap hset ?_
   try simp [h0]
 intro G7 L' _ hF
 obtain ⟨zq,rfl⟩:=hF
 have zg:=Bd.mk g6
 have g7:=Bg zq
 refine k0 _ _ ?_
 refine BQ 2 rfl (by omega) fun gb DJ hgb Bl=>?_
 subst DJ
 simp only [List.eraseIdx_cons_zero,List.eraseIdx_cons_succ,BC,BD,BI,A_,and_true,List.not_mem_nil,or_false,Bb] at Bl hgb
 replace hgb:=And.intro hgb Bl
 clear Bl
 refine AQ rfl fun K k0=>?_
 replace zg:=Bd.mk g7
 refine AR ?_
 refine Aj (EW 2 (i:=s) (v:=.bool true) rfl (by rw [GU];omega) (by kernel_rfl) rfl rfl) ?_
 refine Ap fP ?_
 refine k0 _ _ ?_
 have hget:(gen.set s (if gv=0 then first else gv+1))[s]? = some (if gv=0 then first else gv+1):=by rw [List.getElem?_set_self (by omega)]
 obtain ⟨G',hG'⟩:∃G',(if gv=0 then first else gv+1)=G':=⟨_,rfl⟩
 rw [hG'] at hget ⊢
 refine AB fun K k0=>?_
 refine BR [(true,0),(true,1),(true,2),(true,3),(true,4),(true,5),(true,6),(true,7),(true,8),(true,9),(true,10)] [] CB rfl (by kernel_rfl) (by kernel_rfl) rfl rfl ?_
 refine AR ?_
 refine Aj (BN (m:=1) (i:=s) (v:=.int .i64 G') (AZ (k:=1) rfl) rfl (EY hget)) ?_
 refine AR ?_
 refine k0 _ _ ?_
 refine AP (Br fun w hw=>?_)
 exact ⟨⟨sb,first,some ⟨gg,0,none⟩,gn,gc,some ⟨gb,0,none⟩,vn,vc,dY,fn-1,dZ,gone,gen.set s G',Cz.set s true,Gh DC (d % fn)⟩,rfl,⟨⟨rfl,rfl,by simp,by simp⟩,rfl,rfl,rfl,rfl⟩,hw⟩
structure En where
 h:Nat
 ow:Int
 tag:Int
 off:Int
 len:Int
def enc (e:En):List Value:=[.int .u64 (e.h:Int),.int .i64 e.ow,.int .i64 e.tag,.int .i64 e.off,.int .i64 e.len]
def aF (e:En):Value:=.agg #[.int .u64 (e.h:Int),.int .i64 e.ow,.int .i64 e.tag,.int .i64 e.off,.int .i64 e.len]
theorem FC (e:En):(enc e).length=5:=rfl
def Ca (l:List En):List Value:=l.flatMap enc
theorem Gi (l:List En):(Ca l).length=l.length*5:=Cr FC l
def en0:En:=⟨0,0,0,0,0⟩
structure Ez where
 tb:Nat
 EA:Option Addr
 en:Nat
 ec:Nat
 E:List En
 s:Re
def H9 (x:Ez):List Ai:=.blk x.tb 170 [.pointer (some ⟨x.s.sb,0,none⟩),.slice x.EA x.en x.ec] :: .row (.slice x.EA x.en x.ec) 135 5 x.en (Ca x.E)::I4 x.s
def Ba (x:Ez) (slot:Nat):En:=(x.E[slot]?).getD en0
def Dp (x:Ez) (h:Nat):Int:=if x.en<=Ac h then 10 else if ¬(B_ x.s (Ac h)=true/\EC x.s (Ac h)=(F4 h:Int)) then 11 else if ¬(Ba x (Ac h)).h=h then 12 else 0
def KP (x:Ez) (h:Nat):Value:=.tuple #[aF (if Dp x h=0 then Ba x (Ac h) else en0),.int .i64 (Dp x h)]
theorem UH (x:Ez) (h:Nat) (v:Int) (hv:v≠0) (hr:Dp x h=v):KP x h = .tuple #[aF en0,.int .i64 v]:=by
 unfold KP;rw [hr,if_neg hv]
theorem mf (x:Ez) (h s:Nat) (hs:Ac h=s) (h10:x.en<=s):KP x h = .tuple #[aF en0,.int .i64 10]:=by
 subst hs;exact UH x h 10 (by decide) (by unfold Dp;rw [if_pos h10])
theorem ZF (x:Ez) (h s:Nat) (hs:Ac h=s) (h10:¬x.en<=s) (h11:¬(B_ x.s s=true/\EC x.s s=(F4 h:Int))):KP x h = .tuple #[aF en0,.int .i64 11]:=by
 subst hs;exact UH x h 11 (by decide) (by unfold Dp;rw [if_neg h10,if_pos h11])
theorem mg (x:Ez) (h s:Nat) (e:En) (hs:Ac h=s) (h10:¬x.en<=s) (hl:B_ x.s s=true) (hg:EC x.s s=(F4 h:Int)) (he:x.E[s]? = some e) (h12:¬e.h=h):KP x h = .tuple #[aF en0,.int .i64 12]:=by
 subst hs
 have hE:Ba x (Ac h)=e:=by unfold Ba;rw [he];rfl
 exact UH x h 12 (by decide) (by unfold Dp;rw [if_neg h10,if_neg (fun hn=>hn ⟨hl,hg⟩),hE,if_pos h12])
theorem r9 (x:Ez) (h s:Nat) (e:En) (hs:Ac h=s) (h10:¬x.en<=s) (hl:B_ x.s s=true) (hg:EC x.s s=(F4 h:Int)) (he:x.E[s]? = some e) (h12:e.h=h):KP x h = .tuple #[aF e,.int .i64 0]:=by
 subst hs
 have hE:Ba x (Ac h)=e:=by unfold Ba;rw [he];rfl
 have hr:Dp x h=0:=by unfold Dp;rw [if_neg h10,if_neg (fun hn=>hn ⟨hl,hg⟩),hE,if_neg (fun hn=>hn h12)]
 unfold KP;rw [hr,if_pos rfl,hE]
theorem Vu (h:Nat):Ac h<16777216:=Nat.mod_lt _ (by omega)
theorem Eu:type_of% (And.intro (And.intro (And.intro @Nat.mul_one @Ae) (And.intro @G_ @cM)) (And.intro (And.intro @Ce @Cf) (And.intro @Cg (And.intro @Ch @Ci)))):=(And.intro (And.intro (And.intro @Nat.mul_one @Ae) (And.intro @G_ @cM)) (And.intro (And.intro @Ce @Cf) (And.intro @Cg (And.intro @Ch @Ci))))
theorem Jt (x:Ez) (h:Nat) (hh:h<18446744073709551616) (hN:x.s.gen.length=x.s.Cz.length) (W:World) (hst:St (Ak (H9 x)) W (H9 x) W) :
  Calls Tryz.prog 95 #[.pointer (some ⟨x.tb,0,none⟩),.int .u64 (h:Int)] W
  fun en w' => ∃i:Unit,en = .returned (KP x h)/\True/\St (Ak (H9 x)) W (H9 x) w':=by
 obtain ⟨M,hM⟩:∃M,Ak (H9 x)=M:=⟨_,rfl⟩
 rw [hM] at hst ⊢
 obtain ⟨tb,EA,en,ec,E,⟨sb,first,GA,gn,gc,VA,vn,vc,FA,fn,fc,gone,gen,Cz,DC⟩⟩:=x
 unfold H9 I4 at hst
 dsimp only at *
 clear hM
 have hel:E.length=en:=by have:=(Sl.Av hst (AZ (k:=1) rfl)).len;unfold Ca at this;rw [Cr FC] at this;omega
 have ABj:=Vu h
 obtain ⟨s,hs⟩:∃s,Ac h=s:=⟨_,rfl⟩
 rw [hs] at ABj
 refine DY (M:=M) (n:=55) [.cell 4 135,.tmp 5] rfl Tryz.func95 rfl rfl (Nat.le_of_ble_eq_true rfl)  hst ?_
 refine AQ rfl fun K k0=>?_
 have zs:=Bd.mk Eu
 refine Ah ?_
 intro b4 hb4 r_
 refine k0 _ _ ?_
 refine AQ rfl fun K k0=>?_
 refine Ah ?_
 refine Aa (fun w hw=>hs▸CU h hh w) ?_
 try refine Ah ?_
 refine k0 _ _ ?_
 refine AB fun K k0=>?_
 refine Aq ?_
 refine AL ?_
 by_cases h10:en<=s
 ·have d10:decide ((en:Int)<=(s:Int))=true:=decide_eq_true (by omega)
  refine D_ d10 ?_
  refine Aq ?_
  refine AP ?_
  simp -implicitDefEqProofs (disch:=first|omega|decide) only [seval, -Int.reducePow, -Nat.reducePow,cC,pv,Ao,Az,undef,Eu,Dx,Cx,Cw]
  intro w hw
  refine ⟨(), ?_,hw.tail⟩
  rw [mf ⟨tb,EA,en,ec,E,⟨sb,first,GA,gn,gc,VA,vn,vc,FA,fn,fc,gone,gen,Cz,DC⟩⟩ h s hs h10]
  rfl
 have d10:¬((en:Int)<=(s:Int)):=by omega
 refine D_ d10 ?_
 refine AO (k0 _ _ ?_)
 refine AQ rfl fun K k0=>?_
 refine Ah ?_
 refine Bq (I4 ⟨sb,first,GA,gn,gc,VA,vn,vc,FA,fn,fc,gone,gen,Cz,DC⟩) (.cons _ (.cons _ (.cons _ (List.Sublist.refl _)))) (fun _:Unit=>pX ⟨sb,first,GA,gn,gc,VA,vn,vc,FA,fn,fc,gone,gen,Cz,DC⟩ s) _ (fun w hw=>Vs ⟨sb,first,GA,gn,gc,VA,vn,vc,FA,fn,fc,gone,gen,Cz,DC⟩ s hN ABj w hw) ?_
 intro _ _
 cases hlv:B_ ⟨sb,first,GA,gn,gc,VA,vn,vc,FA,fn,fc,gone,gen,Cz,DC⟩ s with
 | false =>
  unfold pX
  rw [hlv]
  refine Ah ?_
  refine k0 _ _ ?_
  refine AB fun K k0=>?_
  refine Aq ?_
  refine AL ?_
  refine Ah ?_
  refine Aq ?_
  refine AP ?_
  simp -implicitDefEqProofs (disch:=first|omega|decide) only [seval, -Int.reducePow, -Nat.reducePow,cC,pv,Ao,Az,undef,Eu,Dx,Cx,Cw]
  intro w hw
  refine ⟨(), ?_,hw.tail⟩
  rw [ZF ⟨tb,EA,en,ec,E,⟨sb,first,GA,gn,gc,VA,vn,vc,FA,fn,fc,gone,gen,Cz,DC⟩⟩ h s hs h10 (fun hn=>Bool.false_ne_true (hlv.symm.trans hn.1))]
  rfl
 | true =>
  unfold pX
  obtain ⟨gI,sD⟩:∃v,EC ⟨sb,first,GA,gn,gc,VA,vn,vc,FA,fn,fc,gone,gen,Cz,DC⟩ s=v:=⟨_,rfl⟩
  obtain ⟨e,he⟩:∃e,E[s]? = some e:=⟨_,List.getElem?_eq_getElem (by omega)⟩
  rw [hlv,sD]
  refine Ah ?_
  refine k0 _ _ ?_
  refine AV [0,1,4,6,7,8] fun G1 g1=>?_
  replace g1:=Bi g1
  refine AB fun K k0=>?_
  refine AQ rfl fun K k1=>?_
  have zg:=Bd.mk g1
  refine AR ?_
  refine Aa (fun w hw=>QL h hh w) ?_
  try refine AR ?_
  refine k1 _ _ ?_
  refine AL ?_
  by_cases h11:gI=(F4 h:Int)
  case neg =>
   refine Ap h11 ?_
   refine BH ?_
   refine AP ?_
   simp -implicitDefEqProofs (disch:=first|omega|decide) only [seval, -Int.reducePow, -Nat.reducePow,cC,pv,Ao,Az,undef,Eu,Dx,Cx,Cw,g1]
   intro w hw
   refine ⟨(), ?_,hw.tail⟩
   rw [ZF ⟨tb,EA,en,ec,E,⟨sb,first,GA,gn,gc,VA,vn,vc,FA,fn,fc,gone,gen,Cz,DC⟩⟩ h s hs h10 (fun hn=>h11 (sD.symm.trans hn.2))]
   rfl
  have d11:decide (gI=(F4 h:Int))=true:=decide_eq_true h11
  refine Ap d11 ?_
  refine AO (k0 _ _ ?_)
  refine BQ 2 rfl (by omega) fun g DJ hg Bl=>?_
  subst DJ
  simp only [List.eraseIdx_cons_zero,List.eraseIdx_cons_succ,BC,BD,BI,A_,and_true,List.not_mem_nil,or_false,Eu] at Bl hg
  replace hg:=And.intro hg Bl
  clear Bl
  refine AB fun K k0=>?_
  refine AQ rfl fun K k1=>?_
  refine AR ?_
  refine Aj (BN (m:=1) (i:=s*5+0) (v:=.int .u64 (e.h:Int)) (AZ (k:=2) rfl) rfl (Co FC he (by omega))) ?_
  refine AR ?_
  refine k1 _ _ ?_
  refine AL ?_
  by_cases h12:e.h=h
  case neg =>
   have n12:¬((e.h:Int)=(h:Int)):=by omega
   refine Ap n12 ?_
   refine BH ?_
   refine AP ?_
   simp -implicitDefEqProofs (disch:=first|omega|decide) only [seval, -Int.reducePow, -Nat.reducePow,cC,pv,Ao,Az,undef,Eu,Dx,Cx,Cw,g1]
   intro w hw
   refine ⟨(), ?_,hw.tail⟩
   rw [mg _ h s e hs h10 hlv (sD.trans h11) he h12]
   rfl
  have d12:decide ((e.h:Int)=(h:Int))=true:=decide_eq_true (by omega)
  refine Ap d12 ?_
  refine AO (k0 _ _ ?_)
  refine AQ rfl fun K k0=>?_
  refine AR ?_
  refine Aj (DX (i:=s*5) (vs:=enc e) (AZ (k:=2) rfl) (by kernel_rfl) (FB FC he)) ?_
  refine AR ?_
  simp only [enc,List.length_cons,List.length_nil,true_and]
  refine AR ?_
  refine k0 _ _ ?_
  refine AP ?_
  simp -implicitDefEqProofs (disch:=first|omega|decide) only [seval, -Int.reducePow, -Nat.reducePow,cC,pv,Ao,Az,undef,Eu,Dx,Cx,Cw,g1]
  intro w hw
  refine ⟨(), ?_,hw.tail⟩
  rw [r9 _ h s e hs h10 hlv (sD.trans h11) he h12]
  rfl
theorem mh {α:Type} {f:α->List Value} {s:Nat} (hf:∀a,(f a).length=s) (l:List α) (i:Nat) (hi:i<l.length) (y:α):(l.flatMap f).take (i*s)++f y++(l.flatMap f).drop (i*s+s)=(l.set i y).flatMap f:=by
 have h1:l=l.take i++l[i]::l.drop (i+1):=by rw [List.getElem_cons_drop,List.take_append_drop]
 have h2:(l.take i).length=i:=by rw [List.length_take];omega
 have h:=QM hf (l.take i) (l.drop (i+1)) l[i] y
 rw [h2,<-h1] at h
 rw [h,List.set_eq_take_append_cons_drop,if_pos hi]
theorem Nc {α:Type} {f:α->List Value} {s:Nat} (hf:∀a,(f a).length=s) {k:Nat} (hk:k<s) {v:Value} {x y:α} (hy:f y=(f x).set k v):∀ {l:List α} {i:Nat},l[i]? = some x->(l.flatMap f).set (i*s+k) v=(l.set i y).flatMap f
 | [],i,h=>by simp at h
 | a::l,0,h=>by
  have h1:a=x:=by simpa using h
  subst h1
  rw [List.flatMap_cons,Nat.zero_mul,Nat.zero_add,List.set_append_left _ _ (by rw [hf];exact hk),List.set_cons_zero,List.flatMap_cons,hy]
 | a::l,i+1,h=>by
  rw [List.flatMap_cons,List.set_append_right _ _ (by rw [hf,Nat.succ_mul];omega),List.set_cons_succ,List.flatMap_cons,hf,<-Nc hf hk hy (l:=l) (i:=i) (by simpa using h)]
  congr 2
  rw [Nat.succ_mul];omega
structure K4 (x:Ez) (k:Nat):Prop where
 n:x.s.gen.length=x.en
 l:x.s.Cz.length=x.en
 m:x.en<=4096
 kb:k<=10000
 fr:∀v∈x.s.DC,∃i:Nat,v=(i:Int)/\i<x.en
 fl:x.s.DC.length<=4096+k
 go:0<=x.s.gone/\x.s.gone<=k
 fi:0<=x.s.first/\x.s.first<=4294967295
 gn:∀v∈x.s.gen,0<=v/\v<=4294967295+k
theorem K4.EC {x:Ez} {k:Nat} (h:K4 x k) (s:Nat):0<=EC x.s s/\EC x.s s<=4294967295+k:=by
 unfold Go.Proofs.YtegonkdandmolaaGreat.EC
 cases hq:x.s.gen[s]? with
 | none=>have:=h.kb;exact ⟨by decide,by show (0:Int)<=_;omega⟩
 | some v=>exact h.gn v (List.mem_of_getElem? hq)
theorem K4.up {x:Ez} {k k':Nat} (h:K4 x k) (hk:k<=k') (h2:k'≤10000):K4 x k' :=
 ⟨h.n,h.l,h.m,h2,h.fr,Nat.le_trans h.fl (by omega),⟨h.go.1,by have:=h.go.2;omega⟩,h.fi,fun v hv=>by have:=h.gn v hv;omega⟩
def AGV (x y:Re) (s:Nat):Prop:=UF x y/\y.gen=x.gen/\y.Cz=x.Cz.set s false/\(if EC x s=4294967295 then y.gone=x.gone+1/\y.DC=x.DC else y.gone=x.gone/\y.DC=x.DC++[(s:Int)])
def ABk (x y:Re) (s d:Nat):Prop:=UF x y/\y.gen=x.gen.set s (Js x s)/\y.Cz=x.Cz.set s true/\y.gone=x.gone/\y.DC=Gh x.DC (d % x.DC.length)
structure QN (x y:Ez):Prop where
 tb:y.tb=x.tb
 en:y.en=x.en
structure Vv (x y:Ez) (h:Nat):Prop where
 k:QN x y
 E:y.E=x.E
 r:if Dp x h=0 then AGV x.s y.s (Ac h) else y.s=x.s
theorem Dr {x:Ez} {h:Nat} (he:Dp x h=0):Ac h<x.en/\B_ x.s (Ac h)=true/\EC x.s (Ac h)=(F4 h:Int)/\(Ba x (Ac h)).h=h:=by
 unfold Dp at he
 by_cases h1:x.en<=Ac h
 ·rw [if_pos h1] at he;exact absurd he (by decide)
 rw [if_neg h1] at he
 by_cases h2:B_ x.s (Ac h)=true/\EC x.s (Ac h)=(F4 h:Int)
 ·rw [if_neg (fun hn=>hn h2)] at he
  by_cases h3:(Ba x (Ac h)).h=h
  ·exact ⟨by omega,h2.1,h2.2,h3⟩
  ·rw [if_pos h3] at he;exact absurd he (by decide)
 ·rw [if_pos h2] at he;exact absurd he (by decide)
theorem K4.drop {x y:Ez} {k h:Nat} (hi:K4 x k) (hk:k<10000) (hr:Vv x y h):K4 y (k+1):=by
 have hr2:=hr.r
 by_cases he:Dp x h=0
 ·rw [if_pos he] at hr2
  obtain ⟨r1,r2,r3,r4⟩:=hr2
  have hs:=(Dr he).1
  refine ⟨by rw [r2,hi.n,hr.k.en],by rw [r1.vl,hi.l,hr.k.en],by rw [hr.k.en];exact hi.m,hk, ?_, ?_, ?_,r1.first▸hi.fi,fun v hv=>by have:=hi.gn v (r2▸hv);omega⟩
  ·intro v hv
   rw [hr.k.en]
   by_cases hg:Go.Proofs.YtegonkdandmolaaGreat.EC x.s (Ac h)=4294967295
   ·rw [if_pos hg] at r4;exact hi.fr v (r4.2▸hv)
   ·rw [if_neg hg] at r4
    rw [r4.2] at hv
    cases List.mem_append.1 hv with
    | inl h=>exact hi.fr v h
    | inr h=>exact ⟨Ac _,List.mem_singleton.1 h,hs⟩
  ·have:=hi.fl
   by_cases hg:Go.Proofs.YtegonkdandmolaaGreat.EC x.s (Ac h)=4294967295
   ·rw [if_pos hg] at r4;rw [r4.2];omega
   ·rw [if_neg hg] at r4;rw [r4.2,List.length_append,List.length_singleton];omega
  ·have:=hi.go
   by_cases hg:Go.Proofs.YtegonkdandmolaaGreat.EC x.s (Ac h)=4294967295
   ·rw [if_pos hg] at r4;rw [r4.1];omega
   ·rw [if_neg hg] at r4;rw [r4.1];omega
 ·rw [if_neg he] at hr2
  have h2:=hi.up (Nat.le_succ k) hk
  exact ⟨by rw [hr2,hr.k.en];exact h2.n,by rw [hr2,hr.k.en];exact h2.l,by rw [hr.k.en];exact h2.m,h2.kb,by rw [hr2,hr.k.en];exact h2.fr,by rw [hr2];exact h2.fl,by rw [hr2];exact h2.go,by rw [hr2];exact h2.fi,by rw [hr2];exact h2.gn⟩
theorem Mr {x:Ez} {h:Nat} (he:¬Dp x h=0):KP x h = .tuple #[.agg #[.int .u64 0,.int .i64 0,.int .i64 0,.int .i64 0,.int .i64 0],.int .i64 (Dp x h)]:=by
 unfold KP;rw [if_neg he];rfl
theorem PD {x:Ez} {h:Nat} (he:Dp x h=0):KP x h = .tuple #[.agg #[.int .u64 ((Ba x (Ac h)).h:Int),.int .i64 (Ba x (Ac h)).ow,.int .i64 (Ba x (Ac h)).tag,.int .i64 (Ba x (Ac h)).off,.int .i64 (Ba x (Ac h)).len],.int .i64 0]:=by
 unfold KP;rw [if_pos he,he];rfl
theorem aG (x:Ez) (h:Nat) (hh:h<18446744073709551616) (k:Nat) (hi:K4 x k) (W:World) (hst:St (Ak (H9 x)) W (H9 x) W) :
  Calls Tryz.prog 87 #[.pointer (some ⟨x.tb,0,none⟩),.int .u64 (h:Int)] W
  fun en w' => ∃y:Ez,en = .returned (.int .i64 (Dp x h))/\Vv x y h/\St (Ak (H9 x)) W (H9 y) w':=by
 obtain ⟨M,hM⟩:∃M,Ak (H9 x)=M:=⟨_,rfl⟩
 rw [hM] at hst ⊢
 have hI:=hi
 obtain ⟨tb,EA,en,ec,E,⟨sb,first,GA,gn,gc,VA,vn,vc,FA,fn,fc,gone,gen,Cz,DC⟩⟩:=x
 unfold H9 I4 at hst
 dsimp only at *
 clear hM
 have hel:E.length=en:=by have:=(Sl.Av hst (AZ (k:=1) rfl)).len;unfold Ca at this;rw [Cr FC] at this;omega
 have hgl:gen.length=en:=hi.n
 have hvl:Cz.length=en:=hi.l
 have hm:=hi.m
 dsimp only at hm
 refine Ab (M:=M) Tryz.func87 [.tmp 4]  hst ?_
 have zs:=Bd.mk Eu
 refine Aq ?_
 refine AQ rfl fun K k0=>?_
 refine Ah ?_
 refine Bq (H9 ⟨tb,EA,en,ec,E,⟨sb,first,GA,gn,gc,VA,vn,vc,FA,fn,fc,gone,gen,Cz,DC⟩⟩) (List.Sublist.refl _) (fun _:Unit=>KP ⟨tb,EA,en,ec,E,⟨sb,first,GA,gn,gc,VA,vn,vc,FA,fn,fc,gone,gen,Cz,DC⟩⟩ h) _ (fun w hw=>Jt ⟨tb,EA,en,ec,E,⟨sb,first,GA,gn,gc,VA,vn,vc,FA,fn,fc,gone,gen,Cz,DC⟩⟩ h hh (hgl.trans hvl.symm) w hw) ?_
 intro _ _
 by_cases he:Dp ⟨tb,EA,en,ec,E,⟨sb,first,GA,gn,gc,VA,vn,vc,FA,fn,fc,gone,gen,Cz,DC⟩⟩ h=0
 case neg =>
  rw [Mr he]
  refine Ah ?_
  intro b5 hb5 mi
  refine k0 _ _ ?_
  refine AB fun K k0=>?_
  refine Aq ?_
  refine AL ?_
  refine D_ he ?_
  refine Aq ?_
  refine AP (Cc fun w hw=>?_)
  exact ⟨⟨tb,EA,en,ec,E,⟨sb,first,GA,gn,gc,VA,vn,vc,FA,fn,fc,gone,gen,Cz,DC⟩⟩,rfl,⟨⟨rfl,rfl⟩,rfl,by rw [if_neg he]⟩,hw.tail⟩
 obtain ⟨r1,r2,r3,r4⟩:=Dr he
 rw [PD he]
 refine Ah ?_
 intro b5 hb5 mi
 refine k0 _ _ ?_
 refine AB fun K k0=>?_
 refine Aq ?_
 refine AL ?_
 refine Ah ?_
 refine AO (k0 _ _ ?_)
 refine BF [1,2,3,4,5,6] (by decide) ?_
 simp only [Ag,nth]
 refine AB fun K k0=>?_
 refine CF (Ag [0] _) (fun w hw=>hw.pick (by decide)) (by simp only [Ag,nth,Be,Bv,List.mem_cons,true_or,or_true,and_true,eq_self]) [(true,0),(true,1),(true,2),(true,3),(true,4),(false,5),(false,6),(true,7)] [] CB rfl (by kernel_rfl) (by kernel_rfl) rfl rfl ?_
 refine Ah ?_
 refine Aa (fun w hw=>CU h hh w) ?_
 try refine Ah ?_
 refine Af [.blk tb 170 [.pointer (some ⟨sb,0,none⟩),.slice EA en ec],.row (.slice EA en ec) 135 5 en (Ca E)] (I4 ⟨sb,first,GA,gn,gc,VA,vn,vc,FA,fn,fc,gone,gen,Cz,DC⟩) (List.Perm.refl _) (fun _:Re=>.int .i64 0) I4 _ (fun w hw=>aD ⟨sb,first,GA,gn,gc,VA,vn,vc,FA,fn,fc,gone,gen,Cz,DC⟩ (Ac h) (hgl.trans hvl.symm) (Vu h) (by have:=hi.fl;have:=hi.kb;dsimp only at *;omega) (by have:=hi.go;have:=hi.kb;dsimp only at *;omega) r2 w hw) ?_
 rintro ⟨vD,X_,GA2,gn2,gc2,VA2,vn2,vc2,dY,ll,dZ,Mq,sF,sG,UG⟩ hy
 obtain rfl:vD=sb:=hy.1.sb
 unfold I4
 dsimp only [List.cons_append,List.nil_append]
 refine Ah ?_
 refine k0 _ _ ?_
 refine BF [4,5,0,1,2,3] (by decide) ?_
 simp only [Ag,nth]
 refine AP (Cc fun w hw=>?_)
 exact ⟨⟨tb,EA,en,ec,E,⟨vD,X_,GA2,gn2,gc2,VA2,vn2,vc2,dY,ll,dZ,Mq,sF,sG,UG⟩⟩,by rw [he],⟨⟨rfl,rfl⟩,rfl,by rw [if_pos he];exact hy⟩,hw⟩
def KQ (x:Ez) (h:Nat) (ow:Int):Int:=if ¬Dp x h=0 then Dp x h else if ow<1\/64<ow then 1 else 0
structure Vw (x y:Ez) (h:Nat) (ow:Int):Prop where
 k:QN x y
 s:y.s=x.s
 E:y.E=if KQ x h ow=0 then x.E.set (Ac h) { Ba x (Ac h) with ow:=ow } else x.E
theorem K4.give {x y:Ez} {k h:Nat} {ow:Int} (hi:K4 x k) (hr:Vw x y h ow):K4 y k :=
 ⟨by rw [hr.s,hr.k.en];exact hi.n,by rw [hr.s,hr.k.en];exact hi.l,by rw [hr.k.en];exact hi.m,hi.kb,by rw [hr.s,hr.k.en];exact hi.fr,by rw [hr.s];exact hi.fl,by rw [hr.s];exact hi.go,by rw [hr.s];exact hi.fi,by rw [hr.s];exact hi.gn⟩
theorem aH (x:Ez) (h:Nat) (ow:Int) (hh:h<18446744073709551616) (k:Nat) (hi:K4 x k) (W:World) (hst:St (Ak (H9 x)) W (H9 x) W) :
  Calls Tryz.prog 101 #[.pointer (some ⟨x.tb,0,none⟩),.int .u64 (h:Int),.int .i64 ow] W
  fun en w' => ∃y:Ez,en = .returned (.int .i64 (KQ x h ow))/\Vw x y h ow/\St (Ak (H9 x)) W (H9 y) w':=by
 obtain ⟨M,hM⟩:∃M,Ak (H9 x)=M:=⟨_,rfl⟩
 rw [hM] at hst ⊢
 have hI:=hi
 obtain ⟨tb,EA,en,ec,E,⟨sb,first,GA,gn,gc,VA,vn,vc,FA,fn,fc,gone,gen,Cz,DC⟩⟩:=x
 unfold H9 I4 at hst
 dsimp only at *
 clear hM
 have hel:E.length=en:=by have:=(Sl.Av hst (AZ (k:=1) rfl)).len;unfold Ca at this;rw [Cr FC] at this;omega
 have hfl:DC.length=fn:=by have:=(Sl.Av hst (AZ (k:=5) rfl)).len;rw [CG] at this;omega
 have hgl:gen.length=en:=hi.n
 have hvl:Cz.length=en:=hi.l
 have hm:=hi.m
 have hkb:=hi.kb
 dsimp only at hm
 refine Ab (M:=M) Tryz.func101 [.tmp 6]  hst ?_
 have zs:=Bd.mk Eu
 refine Aq ?_
 refine AQ rfl fun K k0=>?_
 refine Ah ?_
 refine Bq (H9 ⟨tb,EA,en,ec,E,⟨sb,first,GA,gn,gc,VA,vn,vc,FA,fn,fc,gone,gen,Cz,DC⟩⟩) (List.Sublist.refl _) (fun _:Unit=>KP ⟨tb,EA,en,ec,E,⟨sb,first,GA,gn,gc,VA,vn,vc,FA,fn,fc,gone,gen,Cz,DC⟩⟩ h) _ (fun w hw=>Jt ⟨tb,EA,en,ec,E,⟨sb,first,GA,gn,gc,VA,vn,vc,FA,fn,fc,gone,gen,Cz,DC⟩⟩ h hh (hgl.trans hvl.symm) w hw) ?_
 intro _ _
 by_cases he:Dp ⟨tb,EA,en,ec,E,⟨sb,first,GA,gn,gc,VA,vn,vc,FA,fn,fc,gone,gen,Cz,DC⟩⟩ h=0
 case neg =>
  have hge:KQ ⟨tb,EA,en,ec,E,⟨sb,first,GA,gn,gc,VA,vn,vc,FA,fn,fc,gone,gen,Cz,DC⟩⟩ h ow=Dp ⟨tb,EA,en,ec,E,⟨sb,first,GA,gn,gc,VA,vn,vc,FA,fn,fc,gone,gen,Cz,DC⟩⟩ h:=by unfold KQ;rw [if_pos he]
  rw [Mr he]
  refine Ah ?_
  intro b5 hb5 mi
  refine k0 _ _ ?_
  refine AB fun K k0=>?_
  refine Aq ?_
  refine AL ?_
  refine D_ he ?_
  refine Aq ?_
  refine AP (Cc fun w hw=>?_)
  exact ⟨⟨tb,EA,en,ec,E,⟨sb,first,GA,gn,gc,VA,vn,vc,FA,fn,fc,gone,gen,Cz,DC⟩⟩,by rw [hge],⟨⟨rfl,rfl⟩,rfl,by rw [hge,if_neg he]⟩,hw.tail⟩
 obtain ⟨r1,r2,r3,r4⟩:=Dr he
 dsimp only at r1
 rw [PD he]
 refine Ah ?_
 intro b5 hb5 mi
 refine k0 _ _ ?_
 refine AB fun K k0=>?_
 refine Aq ?_
 refine AL ?_
 refine Ah ?_
 refine AO (k0 _ _ ?_)
 refine BF [1,2,3,4,5,6] (by decide) ?_
 simp only [Ag,nth]
 refine AV [0,1,2] fun G1 g1=>?_
 replace g1:=Bi g1
 refine AB fun K k0=>?_
 refine AB fun K k1=>?_
 refine A9 (fun _ _=>True) (fun F' L'=>Az F' G1 [0,1,2]/\F' 23 = .bool (decide (ow<1\/64<ow))/\L'=[.blk tb 170 [.pointer (some ⟨sb,0,none⟩),.slice EA en ec],.row (.slice EA en ec) 135 5 en (Ca E),.blk sb 182 [.int .i64 first,.slice GA gn gc,.slice VA vn vc,.slice FA fn fc,.int .i64 gone],.row (.slice GA gn gc) 3 1 gn (Bf gen),.row (.slice VA vn vc) 4 1 vn (EO Cz),.row (.slice FA fn fc) 3 1 fn (Bf DC)]) ?_ ?_
 ·refine AF rfl ?_
  have zg:=Bd.mk g1
  refine AR ?_
  repeat' ((first|refine Ck (fun hg=>?_) (fun hg=>?_)|refine Cm (fun hg=>?_) (fun hg=>?_))<;>((try simp only [Bool.not_eq_true',Bool.not_eq_false',decide_eq_true_eq,decide_eq_false_iff_not] at hg);(try simp -implicitDefEqProofs (disch:=first|omega|decide) only [seval, -Int.reducePow, -Nat.reducePow,cC,pv,Ao,Az,undef,Eu,hg,g1])))
  all_goals (repeat' refine And.intro ?_ ?_)
  all_goals (first|with_reducible rfl|(refine congrArg Value.bool ?_;rw [Bool.eq_iff_iff];(try simp only [decide_eq_true_eq,eq_self,true_and,and_true,false_and,and_false,true_or,or_true,false_or,or_false,not_true_eq_false,not_false_eq_true,true_iff,iff_true,false_iff,iff_false,Bool.false_eq_true,Bool.not_eq_true',Bool.not_eq_true,decide_eq_false_iff_not,Bool.and_eq_true,Bool.or_eq_true])<;>omega)|(refine congrArg (Value.int _) ?_;omega)|omega)
 intro G2 L' _ hF
 obtain ⟨zq,AGc,rfl⟩:=hF
 have zg:=Bd.mk g1
 have g2:=And.intro (Bg zq) AGc
 refine k1 _ _ ?_
 replace zg:=Bd.mk g2
 refine Dl (fun hc=>?_) fun hc=>?_
 ·have hc':=of_decide_eq_true hc
  refine BH ?_
  refine AP (Br fun w hw=>?_)
  have hge:KQ ⟨tb,EA,en,ec,E,⟨sb,first,GA,gn,gc,VA,vn,vc,FA,fn,fc,gone,gen,Cz,DC⟩⟩ h ow=1:=by unfold KQ;rw [if_neg (fun hn=>hn he),if_pos hc']
  exact ⟨⟨tb,EA,en,ec,E,⟨sb,first,GA,gn,gc,VA,vn,vc,FA,fn,fc,gone,gen,Cz,DC⟩⟩,by rw [hge],⟨⟨rfl,rfl⟩,rfl,by rw [hge];rfl⟩,hw⟩
 have hc':=of_decide_eq_false hc
 refine AO (k0 _ _ ?_)
 refine BQ 1 rfl (by omega) fun g DJ hg Bl=>?_
 subst DJ
 simp only [List.eraseIdx_cons_zero,List.eraseIdx_cons_succ,BC,BD,BI,A_,and_true,List.not_mem_nil,or_false,Eu] at Bl hg
 replace hg:=And.intro hg Bl
 clear Bl
 obtain ⟨e,IM⟩:∃e,E[Ac h]? = some e:=⟨_,List.getElem?_eq_getElem (by omega)⟩
 have hen:Ba ⟨tb,some ⟨g,0,none⟩,en,ec,E,⟨sb,first,GA,gn,gc,VA,vn,vc,FA,fn,fc,gone,gen,Cz,DC⟩⟩ (Ac h)=e:=by unfold Ba;rw [IM];rfl
 have hset:(Ca E).set (Ac h*5+1) (.int .i64 ow)=Ca (E.set (Ac h) { e with ow:=ow }):=Nc FC (by omega) rfl IM
 have hcl:(Ca E).length=en*5:=by rw [Gi,hel]
 refine AB fun K k0=>?_
 refine CF (Ag [0] _) (fun w hw=>hw.pick (by decide)) (by simp only [Ag,nth,Be,Bv,List.mem_cons,true_or,or_true,and_true,eq_self]) [(true,0),(true,1),(true,2),(true,3),(true,4),(true,6),(false,5),(true,7),(true,8),(false,9)] [9] CB rfl (by kernel_rfl) (by kernel_rfl) rfl rfl ?_
 refine AR ?_
 refine Aa (fun w hw=>CU h hh w) ?_
 try refine AR ?_
 refine Aj (EW 1 (i:=Ac h*5+1) (v:=.int .i64 ow) rfl (by rw [hcl];omega) (by kernel_rfl) rfl rfl) ?_
 refine Ap hset ?_
 refine k0 _ _ ?_
 refine BH ?_
 refine AP (Br fun w hw=>?_)
 have hge:KQ ⟨tb,some ⟨g,0,none⟩,en,ec,E,⟨sb,first,GA,gn,gc,VA,vn,vc,FA,fn,fc,gone,gen,Cz,DC⟩⟩ h ow=0:=by unfold KQ;rw [if_neg (fun hn=>hn he),if_neg hc']
 exact ⟨⟨tb,some ⟨g,0,none⟩,en,ec,E.set (Ac h) { e with ow:=ow },⟨sb,first,GA,gn,gc,VA,vn,vc,FA,fn,fc,gone,gen,Cz,DC⟩⟩,by rw [hge],⟨⟨rfl,rfl⟩,rfl,by rw [hge,if_pos rfl,hen]⟩,hw⟩
theorem UI (x:Re) (d:Nat) (hf:x.DC.length=0) (W:World) (hst:St (Ak (I4 x)) W (I4 x) W) :
  Calls Tryz.prog 129 #[.pointer (some ⟨x.sb,0,none⟩),.int .u64 (d:Int)] W
  fun en w' => ∃i:Unit,en = .returned (.tuple #[.int .i64 0,.int .i64 0,.int .i64 17])/\True/\St (Ak (I4 x)) W (I4 x) w':=by
 obtain ⟨M,hM⟩:∃M,Ak (I4 x)=M:=⟨_,rfl⟩
 rw [hM] at hst ⊢
 obtain ⟨sb,first,GA,gn,gc,VA,vn,vc,FA,fn,fc,gone,gen,Cz,DC⟩:=x
 unfold I4 at hst
 dsimp only at *
 clear hM
 have hfl:DC.length=fn:=by have:=(Sl.Av hst (AZ (k:=3) rfl)).len;rw [CG] at this;omega
 have hf0:(fn:Int)=0:=by omega
 refine Ab (M:=M) Tryz.func129 [.tmp 4,.tmp 5,.tmp 6]  hst ?_
 have zs:=Bd.mk Eu
 refine Aq ?_
 refine AB fun K k0=>?_
 refine Aq ?_
 refine AL ?_
 refine D_ hf0 ?_
 refine Aq ?_
 refine AP (Cc fun w hw=>?_)
 exact ⟨(),rfl,hw⟩
def aI (ow tag:Int):Prop:=ow<1\/64<ow\/tag<1\/255<tag
instance (ow tag:Int):Decidable (aI ow tag):=by unfold aI;infer_instance
structure Rf where
 y:Ez
 h:Nat
 er:Int
def ZG (i:Rf):Value:=.tuple #[.int .u64 (i.h:Int),.int .i64 i.er]
structure sH (x:Ez) (ow tag off len:Int) (d:Nat) (i:Rf) (s:Nat):Prop where
 fs:x.s.DC[d % x.s.DC.length]? = some (s:Int)
 e:i.er=0
 h:(i.h:Int)=(pY (s:Int) (Js x.s s) tag).1
 hh:i.h<18446744073709551616
 rr:ABk x.s i.y.s s d
 EE:i.y.E=x.E.set s ⟨i.h,ow,tag,off,len⟩
structure ABl (x:Ez) (i:Rf) (v:Int):Prop where
 h:i.h=0
 e:i.er=v
 s:i.y.s=x.s
 E:i.y.E=x.E
structure ABm (x:Ez) (ow tag off len:Int) (d:Nat) (i:Rf):Prop where
 k:QN x i.y
 r:if aI ow tag then ABl x i 1 else if x.s.DC.length=0 then ABl x i 17 else ∃s:Nat,s<x.en/\sH x ow tag off len d i s
theorem mq (s g t:Int):∃n:Nat,(pY s g t).1=(n:Int)/\n<18446744073709551616:=by
 unfold pY
 by_cases h:s<0\/16777215<s\/g<1\/4294967295<g\/t<1\/255<t
 ·rw [if_pos h];exact ⟨0,rfl,by omega⟩
 ·rw [if_neg h];exact ⟨(t*72057594037927936+g*16777216+s).toNat,by dsimp only;omega,by omega⟩
theorem aJ {l:List Int} {i:Nat} {v:Int} (h:v∈Gh l i):v∈l:=by
 unfold Gh at h
 cases List.mem_or_eq_of_mem_set (List.mem_of_mem_take h) with
 | inl h2=>exact h2
 | inr h2 =>
  cases l with
  | nil=>simp at h
  | cons a l =>
   rw [h2,List.getElem?_eq_getElem (by simp)]
   exact List.getElem_mem _
theorem YA (x:Ez) (ow tag off len:Int) (d:Nat) (hd:d<18446744073709551616) (k:Nat) (hi:K4 x k) (W:World) (hst:St (Ak (H9 x)) W (H9 x) W) :
  Calls Tryz.prog 93 #[.pointer (some ⟨x.tb,0,none⟩),.int .i64 ow,.int .i64 tag,.agg #[.int .i64 off,.int .i64 len],.int .u64 (d:Int)] W
  fun en w' => ∃i:Rf,en = .returned (ZG i)/\ABm x ow tag off len d i/\St (Ak (H9 x)) W (H9 i.y) w':=by
 obtain ⟨M,hM⟩:∃M,Ak (H9 x)=M:=⟨_,rfl⟩
 rw [hM] at hst ⊢
 have hI:=hi
 obtain ⟨tb,EA,en,ec,E,⟨sb,first,GA,gn,gc,VA,vn,vc,FA,fn,fc,gone,gen,Cz,DC⟩⟩:=x
 unfold H9 I4 at hst
 dsimp only at *
 clear hM
 have hel:E.length=en:=by have:=(Sl.Av hst (AZ (k:=1) rfl)).len;unfold Ca at this;rw [Cr FC] at this;omega
 have hfl:DC.length=fn:=by have:=(Sl.Av hst (AZ (k:=5) rfl)).len;rw [CG] at this;omega
 have hgl:gen.length=en:=hi.n
 have hvl:Cz.length=en:=hi.l
 have hm:=hi.m
 have hkb:=hi.kb
 dsimp only at hm
 refine Ab (M:=M) Tryz.func93 [.tmp 10,.tmp 11]  hst ?_
 refine AQ rfl fun K k0=>?_
 have zs:=Bd.mk Eu
 refine Ah ?_
 intro b8 u6 hf8
 refine k0 _ _ ?_
 refine AV [0,1,2,4,8] fun G1 g1=>?_
 replace g1:=Bi g1
 refine AB fun K k0=>?_
 refine AB fun K k1=>?_
 refine A9 (fun _ _=>True) (fun F' L'=>Az F' G1 [0,1,2,4,8]/\F' 30 = .bool (decide (ow<1\/64<ow\/tag<1\/255<tag))/\L' = .blk b8 103 [.int .i64 off,.int .i64 len]::[.blk tb 170 [.pointer (some ⟨sb,0,none⟩),.slice EA en ec],.row (.slice EA en ec) 135 5 en (Ca E),.blk sb 182 [.int .i64 first,.slice GA gn gc,.slice VA vn vc,.slice FA fn fc,.int .i64 gone],.row (.slice GA gn gc) 3 1 gn (Bf gen),.row (.slice VA vn vc) 4 1 vn (EO Cz),.row (.slice FA fn fc) 3 1 fn (Bf DC)]) ?_ ?_
 ·refine AF rfl ?_
  have zg:=Bd.mk g1
  refine AR ?_
  repeat' ((first|refine Ck (fun hg=>?_) (fun hg=>?_)|refine Cm (fun hg=>?_) (fun hg=>?_))<;>((try simp only [Bool.not_eq_true',Bool.not_eq_false',decide_eq_true_eq,decide_eq_false_iff_not] at hg);(try simp -implicitDefEqProofs (disch:=first|omega|decide) only [seval, -Int.reducePow, -Nat.reducePow,cC,pv,Ao,Az,undef,Eu,hg,g1])))
  all_goals (repeat' refine And.intro ?_ ?_)
  all_goals (first|with_reducible rfl|(refine congrArg Value.bool ?_;rw [Bool.eq_iff_iff];(try simp only [decide_eq_true_eq,eq_self,true_and,and_true,false_and,and_false,true_or,or_true,false_or,or_false,not_true_eq_false,not_false_eq_true,true_iff,iff_true,false_iff,iff_false,Bool.false_eq_true,Bool.not_eq_true',Bool.not_eq_true,decide_eq_false_iff_not,Bool.and_eq_true,Bool.or_eq_true])<;>omega)|(refine congrArg (Value.int _) ?_;omega)|omega)
 intro G2 L' _ hF
 obtain ⟨zq,sI,rfl⟩:=hF
 have zg:=Bd.mk g1
 have g2:=And.intro (Bg zq) sI
 refine k1 _ _ ?_
 replace zg:=Bd.mk g2
 refine Dl (fun hc=>?_) fun hc=>?_
 ·have hc':aI ow tag:=of_decide_eq_true hc
  refine BH ?_
  refine AP (Br fun w hw=>?_)
  exact ⟨⟨⟨tb,EA,en,ec,E,⟨sb,first,GA,gn,gc,VA,vn,vc,FA,fn,fc,gone,gen,Cz,DC⟩⟩,0,1⟩,rfl,⟨⟨rfl,rfl⟩,by rw [if_pos hc'];exact ⟨rfl,rfl,rfl,rfl⟩⟩,hw.tail⟩
 have hc':¬aI ow tag:=of_decide_eq_false hc
 refine AO (k0 _ _ ?_)
 by_cases hf0:DC.length=0
 ·refine AQ rfl fun K k0=>?_
  refine AR ?_
  refine Bq (I4 ⟨sb,first,GA,gn,gc,VA,vn,vc,FA,fn,fc,gone,gen,Cz,DC⟩) (.cons _ (.cons _ (.cons _ (List.Sublist.refl _)))) (fun _:Unit=>.tuple #[.int .i64 0,.int .i64 0,.int .i64 17]) _ (fun w hw=>UI ⟨sb,first,GA,gn,gc,VA,vn,vc,FA,fn,fc,gone,gen,Cz,DC⟩ d hf0 w hw) ?_
  intro _ _
  refine AR ?_
  refine k0 _ _ ?_
  refine AB fun K k0=>?_
  refine BH ?_
  refine AL ?_
  refine AR ?_
  refine BH ?_
  refine AP (Br fun w hw=>?_)
  exact ⟨⟨⟨tb,EA,en,ec,E,⟨sb,first,GA,gn,gc,VA,vn,vc,FA,fn,fc,gone,gen,Cz,DC⟩⟩,0,17⟩,rfl,⟨⟨rfl,rfl⟩,by rw [if_neg hc',if_pos hf0];exact ⟨rfl,rfl,rfl,rfl⟩⟩,hw.tail⟩
 have hpos:0<DC.length:=by omega
 obtain ⟨v,hv⟩:∃v,DC[d % DC.length]? = some v:=⟨_,List.getElem?_eq_getElem (Nat.mod_lt _ hpos)⟩
 obtain ⟨s,hsv,hsl⟩:=hi.fr v (List.mem_of_getElem? hv)
 rw [hsv] at hv
 dsimp only at hsl
 have hgb:=hi.EC s
 dsimp only at hgb
 have AGd:=hi.fl
 dsimp only at AGd
 obtain ⟨hN,hpk,hlt⟩:=mq (s:Int) (Js ⟨sb,first,GA,gn,gc,VA,vn,vc,FA,fn,fc,gone,gen,Cz,DC⟩ s) tag
 refine AQ rfl fun K k0=>?_
 refine AR ?_
 refine Af (.blk b8 103 [.int .i64 off,.int .i64 len]::[.blk tb 170 [.pointer (some ⟨sb,0,none⟩),.slice EA en ec],.row (.slice EA en ec) 135 5 en (Ca E)]) (I4 ⟨sb,first,GA,gn,gc,VA,vn,vc,FA,fn,fc,gone,gen,Cz,DC⟩) (List.Perm.refl _) (fun y:Re=>rz s (Js ⟨sb,first,GA,gn,gc,VA,vn,vc,FA,fn,fc,gone,gen,Cz,DC⟩ s) y) I4 _ (fun w hw=>Vt ⟨sb,first,GA,gn,gc,VA,vn,vc,FA,fn,fc,gone,gen,Cz,DC⟩ d hd (hgl.trans hvl.symm) ⟨hpos,by dsimp only;omega⟩ s hv (by dsimp only;omega) ⟨hgb.1,by omega⟩ w hw) ?_
 rintro ⟨vD,X_,GA2,gn2,gc2,VA2,vn2,vc2,dY,ll,dZ,Mq,sF,sG,UG⟩ hy
 obtain rfl:vD=sb:=hy.1.sb
 unfold I4 rz
 dsimp only [List.cons_append,List.nil_append]
 obtain ⟨gI,sD⟩:∃v,Js ⟨vD,first,GA,gn,gc,VA,vn,vc,FA,fn,fc,gone,gen,Cz,DC⟩ s=v:=⟨_,rfl⟩
 rw [sD] at hpk ⊢
 refine AR ?_
 refine k0 _ _ ?_
 refine BF [5,6,0,1,2,3,4] (by decide) ?_
 simp only [Ag,nth]
 refine AV [0,1,2,8,12,13,14] fun G3 g3=>?_
 replace g3:=Bg g3
 refine AB fun K k0=>?_
 replace zg:=Bd.mk g3
 refine BH ?_
 refine AL ?_
 refine AR ?_
 refine AO (k0 _ _ ?_)
 refine AQ rfl fun K k0=>?_
 refine AR ?_
 refine Aa (fun w hw=>aK (s:Int) gI tag w) ?_
 try refine AR ?_
 unfold pkV
 rw [hpk]
 refine AR ?_
 refine k0 _ _ ?_
 refine BQ 1 rfl (by omega) fun g DJ hg Bl=>?_
 subst DJ
 simp only [List.eraseIdx_cons_zero,List.eraseIdx_cons_succ,BC,BD,BI,A_,and_true,List.not_mem_nil,or_false,Eu] at Bl hg
 replace hg:=And.intro hg Bl
 clear Bl
 have hcl:(Ca E).length=en*5:=by rw [Gi,hel]
 have hset:(Ca E).take (s*5)++[.int .u64 (hN:Int),.int .i64 ow,.int .i64 tag,.int .i64 off,.int .i64 len]++(Ca E).drop (s*5+5)=Ca (E.set s ⟨hN,ow,tag,off,len⟩):=mh FC E s (by omega) ⟨hN,ow,tag,off,len⟩
 have ek : [Value.int .u64 (hN:Int),.int .i64 ow,.int .i64 tag,.int .i64 off,.int .i64 len].length=5:=rfl
 refine AB fun K k0=>?_
 refine CF (Ag [0,6] _) (fun w hw=>hw.pick (by decide)) (by simp only [Ag,nth,Be,Bv,List.mem_cons,true_or,or_true,and_true,eq_self]) [(true,0),(true,1),(true,2),(true,3),(true,4),(true,5),(true,6),(true,7),(true,8),(true,9),(true,10),(false,11)] [11] CB rfl (by kernel_rfl) (by kernel_rfl) rfl rfl ?_
 refine AR ?_
 refine Aj (E_ 1 (i:=s*5) (vs:=[.int .u64 (hN:Int),.int .i64 ow,.int .i64 tag,.int .i64 off,.int .i64 len]) rfl (by rw [hcl];show _+5<=_;omega) (by kernel_rfl) rfl) ?_
 refine Ap (And.intro hset ek) ?_
 refine k0 _ _ ?_
 refine BF [0,1,2,3,4,5] (by decide) ?_
 simp only [Ag,nth]
 refine BH ?_
 refine AP (Br fun w hw=>?_)
 exact ⟨⟨⟨tb,some ⟨g,0,none⟩,en,ec,E.set s ⟨hN,ow,tag,off,len⟩,⟨vD,X_,GA2,gn2,gc2,VA2,vn2,vc2,dY,ll,dZ,Mq,sF,sG,UG⟩⟩,hN,0⟩,rfl,⟨⟨rfl,rfl⟩,by rw [if_neg hc',if_neg hf0];exact ⟨s,hsl,hv,rfl,by rw [sD];exact hpk.symm,hlt,hy,rfl⟩⟩,hw⟩
theorem pg {α:Type} (f:α->List Value) (a:α) (n:Nat) (hs:0<(f a).length):(madeCells (f a).toArray (n*(f a).length)).toList=(List.replicate n a).flatMap f:=by
 apply List.ext_getElem?
 intro j
 have hfl:∀m:Nat,((List.replicate m a).flatMap f).length=m*(f a).length:=by
  intro m
  induction m with
  | zero=>simp
  | succ m ih=>rw [List.replicate_succ,List.flatMap_cons,List.length_append,ih,Nat.succ_mul];omega
 have hget:∀(m i:Nat),i<m*(f a).length->((List.replicate m a).flatMap f)[i]? = (f a)[i % (f a).length]? := by
  intro m
  induction m with
  | zero=>intro i hi;simp at hi
  | succ m ih =>
   intro i hi
   rw [List.replicate_succ,List.flatMap_cons]
   by_cases h:i<(f a).length
   ·rw [List.getElem?_append_left h,Nat.mod_eq_of_lt h]
   ·rw [List.getElem?_append_right (by omega),ih (i-(f a).length) (by rw [Nat.succ_mul] at hi;omega),<-Nat.mod_eq_sub_mod (by omega)]
 by_cases h:j<n*(f a).length
 ·rw [hget n j h]
  have hm:=Nat.mod_lt j hs
  simp [madeCells,h,hm]
 ·exact (List.getElem?_eq_none (by simp [madeCells];omega)).trans (List.getElem?_eq_none (by rw [hfl];omega)).symm
section
variable {P:Program} {M:List Nat} {W:World} {L:List Ai}
theorem KR {α:Type} (f:α->List Value) (a:α) {F:Fr} {d:Option Nat} {t e ty:TypeId} {pos:String} {af:Array Edge} {gd:Option (Nat×Bool)} {l c:Operand} {K:Bool->Value->List Ai->Prop} {bytes n s:Nat} {kl kc:IntKind}
  (ht:IQ P t=some (e,s,bytes)) (hu:CY P e=some (f a)) (hs:(f a).length=s) (h0:0<s) (hl:ev F l = .int kl (n:Int)) (hc:ev F c = .int kc (n:Int)) (hb:bytes*n<=281474976710656) (h63:n<=9223372036854775807)
  (hK:∀b,W.heap.size<=b->fresh L b->K true (.slice (some ⟨b,0,none⟩) n n) (.blk b e ((List.replicate n a).flatMap f)::L)) :
  XV P M W ⟨d,.makeSlice t l c,ty,pos,af,gd⟩ F L K:=by
 intro w hw
 obtain ⟨hut,i,z,hi,hz,hsz,hby,hzs,hsz0⟩:=O6 ht
 have hzc:z.cells=(f a).toArray:=by
  unfold CY at hu
  rw [hi] at hu
  simp only [hz] at hu
  have:z.cells.toList=f a:=by simpa using hu
  rw [<-this]
 have hb':(i.bytes:Int)*(n:Int)<=281474976710656:=by
  rw [hby]
  have h:((bytes*n:Nat):Int)<=281474976710656:=by omega
  rwa [Int.natCast_mul] at h
 have hr:=run_make (P:=P) w t e i z hut hi hz kl kc n n (by omega) (Int.le_refl _) hb' (by omega)
 have e1:=pg f a n (by omega)
 rw [hs] at e1
 simp only [Int.toNat_natCast,hsz,hzc] at hr
 refine ⟨_,_,_, ?_,hw.alloc e ((List.replicate n a).flatMap f),hK w.heap.size hw.Bz.size (Fv hw)⟩
 have e2:((List.replicate n a).flatMap f).toArray=madeCells (f a).toArray (n*s):=by rw [<-e1]
 simp only [execOp,hl,hc,Sem.run_bind,hr,Result.andThen_ok,Sem.run_pure,e2]
end
theorem pz:IQ Tryz.prog 180=some (4,1,1):=by kernel_rfl
theorem Vx (n:Nat) (v:Value):((List.replicate n ()).flatMap fun _=>[v])=List.replicate n v:=by
 induction n with
 | zero=>rfl
 | succ n ih=>rw [List.replicate_succ,List.flatMap_cons,ih,List.replicate_succ];rfl
def Rh (n:Nat):List Int:=(List.range n).map (fun i:Nat=>(i:Int))
theorem aL (n:Nat):Rh (n+1)=Rh n++[(n:Int)]:=by unfold Rh;rw [List.range_succ,List.map_append];rfl
theorem Vy (n:Nat):(Rh n).length=n:=by simp [Rh]
structure p8 (n:Nat) (first:Int) (x:Re):Prop where
 first:x.first=first
 gen:x.gen=List.replicate n 0
 Cz:x.Cz=List.replicate n false
 DC:x.DC=Rh n
 gone:x.gone=0
def sJ (x:Re):Value:=.tuple #[.pointer (some ⟨x.sb,0,none⟩),.int .i64 0]
theorem Ri (n:Nat) (first:Int) (hn:n<=4096) (hf:1<=first/\first<=4294967295) (W:World) :
  Calls Tryz.prog 76 #[.int .i64 (n:Int),.int .i64 first] W
  fun en w' => ∃x:Re,en = .returned (sJ x)/\p8 n first x/\St [] W (I4 x) w':=by
 refine Ab (M:=[]) Tryz.func76 [.tmp 4,.tmp 5] (St.nil _ _) ?_
 have zs:=Bd.mk Eu
 refine Aq ?_
 refine AV [0,1] fun G1 g1=>?_
 replace g1:=Bi g1
 refine AB fun K k0=>?_
 refine AB fun K k1=>?_
 refine A9 (fun _ _=>True) (fun F' L'=>Az F' G1 [0,1]/\F' 21 = .bool false/\L'=[]) ?_ ?_
 ·refine AF rfl ?_
  have zg:=Bd.mk g1
  refine AR ?_
  repeat' ((first|refine Ck (fun hg=>?_) (fun hg=>?_)|refine Cm (fun hg=>?_) (fun hg=>?_))<;>((try simp only [Bool.not_eq_true',Bool.not_eq_false',decide_eq_true_eq,decide_eq_false_iff_not] at hg);(try simp -implicitDefEqProofs (disch:=first|omega|decide) only [seval, -Int.reducePow, -Nat.reducePow,cC,pv,Ao,Az,undef,Eu,hg,g1])))
  all_goals (repeat' refine And.intro ?_ ?_)
  all_goals (first|with_reducible rfl|(refine congrArg Value.bool ?_;rw [Bool.eq_iff_iff];(try simp only [decide_eq_true_eq,eq_self,true_and,and_true,false_and,and_false,true_or,or_true,false_or,or_false,not_true_eq_false,not_false_eq_true,true_iff,iff_true,false_iff,iff_false,Bool.false_eq_true,Bool.not_eq_true',Bool.not_eq_true,decide_eq_false_iff_not,Bool.and_eq_true,Bool.or_eq_true])<;>omega)|(refine congrArg (Value.int _) ?_;omega)|omega)
 intro G2 L' _ hF
 obtain ⟨zq,sK,rfl⟩:=hF
 have zg:=Bd.mk g1
 have g2:=And.intro (Bg zq) sK
 refine k1 _ _ ?_
 refine AL ?_
 replace zg:=Bd.mk g2
 refine AR ?_
 refine AO (k0 _ _ ?_)
 refine AB fun K k0=>?_
 refine A9 (fun _ _=>True) (fun F' L' => ∃(b1 b2 b3:Nat),F' 0=G2 0/\F' 6 = .pointer (some ⟨b3,0,none⟩)/\L'=[.blk b3 182 [.int .i64 first,.slice (some ⟨b1,0,none⟩) n n,.slice (some ⟨b2,0,none⟩) n n,.slice none 0 0,.int .i64 0],.blk b1 3 ((List.replicate n ()).flatMap fun _=>[Value.int .i64 0]),.blk b2 4 ((List.replicate n ()).flatMap fun _=>[Value.bool false])]) ?_ ?_
 ·refine E9 [] (by decide) (by simp only [Ag,nth,Be,Bv,List.mem_cons,true_or,or_true,and_true,eq_self]) (.rd 0 (.rd 1 (.rd 3 (.more 2 (.act 4 (.rd 5 (.act 6 (.rd 7 (.done))))) (.act 4 (.act 2 (.rd 5 (.act 6 (.rd 7 (.done)))))))))) [] CB rfl (by kernel_rfl) (by kernel_rfl) (by kernel_rfl) (by kernel_rfl) ?_
  simp only [Ag,nth]
  refine AR ?_
  refine And.intro ?_ ?_
  ·refine KR (fun _:Unit=>[Value.int .i64 0]) () (n:=n) (s:=1) J_ rfl rfl (by decide) rfl rfl (by omega) (by omega) ?_
   intro b1 hb1 hf1
   refine AR ?_
   refine KR (fun _:Unit=>[Value.bool false]) () (n:=n) (s:=1) pz rfl rfl (by decide) rfl rfl (by omega) (by omega) ?_
   intro b2 hb2 hf2
   refine AR ?_
   intro b3 hb3 hf3
   refine ⟨[0,2,1],by decide, ?_⟩
   simp only [Ag,nth]
   exact ⟨b1,b2,b3,rfl,rfl⟩
  ·refine KR (fun _:Unit=>[Value.bool false]) () (n:=n) (s:=1) pz rfl rfl (by decide) rfl rfl (by omega) (by omega) ?_
   intro b2 hb2 hf2
   refine AR ?_
   refine KR (fun _:Unit=>[Value.int .i64 0]) () (n:=n) (s:=1) J_ rfl rfl (by decide) rfl rfl (by omega) (by omega) ?_
   intro b1 hb1 hf1
   refine AR ?_
   intro b3 hb3 hf3
   refine ⟨[0,1,2],by decide, ?_⟩
   simp only [Ag,nth]
   exact ⟨b1,b2,b3,rfl,rfl⟩
 intro G3 L' _ hF
 obtain ⟨b1,b2,b3,Vz,Jq,rfl⟩:=hF
 have g3:=And.intro (Bg Vz) Jq
 refine k0 _ _ ?_
 refine AB fun K k0=>?_
 replace zg:=Bd.mk g3
 refine BH ?_
 refine AV [0,6,7] fun G4 g4=>?_
 replace g4:=Bg g4
 refine D5 3 1 ?_
 refine Ad ?_
 refine BP (fun F' L' => ∃(i:Nat) (FA:Option Addr) (fn fc:Nat),Az F' G4 [0,6]/\F' 7 = .int .i64 (i:Int)/\L'=[.row (.slice FA fn fc) 3 1 fn (Bf (Rh i)),.blk b3 182 [.int .i64 first,.slice (some ⟨b1,0,none⟩) n n,.slice (some ⟨b2,0,none⟩) n n,.slice FA fn fc,.int .i64 0],.blk b1 3 ((List.replicate n ()).flatMap fun _=>[Value.int .i64 0]),.blk b2 4 ((List.replicate n ()).flatMap fun _=>[Value.bool false])]/\i<=n) (fun F' L'=>200000-(intOf (F' 7)).toNat) ?_ ?_
 ·refine ⟨0,none,0,0, ?_⟩
  replace zg:=Bd.mk g4
  refine AR ?_
  exact ⟨rfl,Nat.zero_le _⟩
 intro G5 L' hI
 obtain ⟨i,FA,fn,fc,zq,Lv,rfl,hi⟩:=hI
 replace zg:=Bd.mk g4
 have g5:=And.intro (Bg zq) Lv
 refine AB fun K k1=>?_
 replace zg:=Bd.mk (And.intro g4 g5)
 refine BH ?_
 refine Dl (fun hc=>?_) fun hc=>?_
 ·refine AO ?_
  try simp only [BJ,BX]
  have hit:i<n:=by have:=of_decide_eq_true ‹decide ((i:Int)<(n:Int))=true›;omega
  refine k1 _ _ ?_
  refine EX 0 rfl fun hlA=>?_
  rw [CG,Vy] at hlA
  refine AB fun K k1=>?_
  refine Ad ?_
  refine BG [0,2,3,4] (by decide) ?_
  refine AU rfl ?_
  refine AR ?_
  intro bE PE Rj
  refine Bj 1 J_ rfl (fun w hw=>Bp (size:=1) (AZ (k:=0) rfl) rfl hw) rfl (by omega) (by omega) ?_
  intro A2 c2 hl2 hr2
  refine AR ?_
  refine k1 _ _ ?_
  refine AF rfl ?_
  refine AR ?_
  refine ⟨⟨i+1,A2,fn+1,c2, ?_⟩, ?_⟩
  ·rw [aL,Ii]
   refine Ap @Int.natCast_add ?_
   omega
  ·simp only [intOf];omega
 refine BM (k0 _ _ ?_)
 have hin:i=n:=by have:=of_decide_eq_false ‹decide ((i:Int)<(n:Int))=false›;omega
 subst hin
 refine BH ?_
 refine AP (Br fun w hw=>?_)
 rw [Vx,Vx] at hw
 have h1:=hw.pick (ix:=[2,1,0,3]) (by decide)
 simp only [Ag,nth] at h1
 have h2:=(h1.Fw (size:=1) (n:=i) (by simp) (by omega)).pick (ix:=[3,1,0,2]) (by decide)
 simp only [Ag,nth] at h2
 have h3:=(h2.Fw (size:=1) (n:=i) (by simp) (by omega)).pick (ix:=[1,2,0,3]) (by decide)
 simp only [Ag,nth] at h3
 have e1:Bf (List.replicate i 0)=List.replicate i (Value.int .i64 0):=by unfold Bf;rw [List.map_replicate]
 have e2:EO (List.replicate i false)=List.replicate i (Value.bool false):=by unfold EO;rw [List.map_replicate]
 rw [<-e1,<-e2] at h3
 exact ⟨⟨b3,first,some ⟨b1,0,none⟩,i,i,some ⟨b2,0,none⟩,i,i,FA,fn,fc,0,List.replicate i 0,List.replicate i false,Rh i⟩,rfl,⟨rfl,rfl,rfl,rfl,rfl⟩,h3⟩
theorem p9:IQ Tryz.prog 132=some (135,5,40):=by kernel_rfl
structure V3 (n:Nat) (first:Int) (x:Ez):Prop where
 en:x.en=n
 E:x.E=List.replicate n en0
 s:p8 n first x.s
def sM (x:Ez):Value:=.tuple #[.pointer (some ⟨x.tb,0,none⟩),.int .i64 0]
theorem V3.inv {n:Nat} {first:Int} {x:Ez} (h:V3 n first x) (hn:n<=4096) (hf:1<=first/\first<=4294967295):K4 x 0:=by
 refine ⟨by rw [h.s.gen,h.en,List.length_replicate],by rw [h.s.Cz,h.en,List.length_replicate],by rw [h.en];exact hn,by omega, ?_,by rw [h.s.DC,Vy];omega,by rw [h.s.gone];omega,by rw [h.s.first];omega, ?_⟩
 ·intro v hv
  rw [h.s.DC] at hv
  obtain ⟨i,hi,rfl⟩:=List.mem_map.1 hv
  exact ⟨i,rfl,by rw [h.en];exact List.mem_range.1 hi⟩
 ·intro v hv
  rw [h.s.gen] at hv
  rw [List.eq_of_mem_replicate hv]
  omega
theorem Rk (n:Nat) (first:Int) (hn:n<=4096) (hf:1<=first/\first<=4294967295) (W:World) :
  Calls Tryz.prog 43 #[.int .i64 (n:Int),.int .i64 first] W
  fun en w' => ∃x:Ez,en = .returned (sM x)/\V3 n first x/\St [] W (H9 x) w':=by
 refine Ab (M:=[]) Tryz.func43 [.tmp 4,.tmp 5] (St.nil _ _) ?_
 have zs:=Bd.mk Eu
 refine Aq ?_
 refine AQ rfl fun K k0=>?_
 refine Ah ?_
 refine DN sJ I4 _ (fun w hw=>Ri n first hn hf w) ?_
 rintro ⟨sb,first,GA,gn,gc,VA,vn,vc,FA,fn,fc,gone,gen,Cz,DC⟩ hx
 unfold sJ I4
 dsimp only [List.cons_append,List.nil_append]
 refine Ah ?_
 refine k0 _ _ ?_
 refine AB fun K k0=>?_
 refine Aq ?_
 refine AL ?_
 refine Ah ?_
 refine AO (k0 _ _ ?_)
 refine AQ rfl fun K k0=>?_
 refine Ah ?_
 refine KR enc en0 (n:=n) (s:=5) p9 rfl rfl (by decide) rfl rfl (by omega) (by omega) ?_
 intro be hbe hfe
 refine Ah ?_
 intro tb htb hft
 refine k0 _ _ ?_
 refine AP (Cc fun w hw=>?_)
 have h1:=hw.pick (ix:=[1,0,2,3,4,5]) (by decide)
 simp only [Ag,nth] at h1
 have h2:=(h1.Fw (size:=5) (n:=n) (Gi _ |>.trans (by rw [List.length_replicate])) (by omega)).pick (ix:=[1,0,2,3,4,5]) (by decide)
 simp only [Ag,nth] at h2
 exact ⟨⟨tb,some ⟨be,0,none⟩,n,n,List.replicate n en0,⟨sb,first,GA,gn,gc,VA,vn,vc,FA,fn,fc,gone,gen,Cz,DC⟩⟩,rfl,⟨rfl,rfl,hx⟩,h2⟩
structure YB where
 A:Option Addr
 n:Nat
 c:Nat
def fQ (i:YB):Value:=.slice i.A i.n i.c
def Ju (x:Ez) (k:Nat):List En:=((List.range k).filter fun i=>B_ x.s i).map fun i=>Ba x i
theorem aM (x:Ez) (k:Nat):Ju x (k+1)=Ju x k++(if B_ x.s k=true then [Ba x k] else []):=by
 unfold Ju
 rw [List.range_succ,List.filter_append,List.map_append,List.filter_cons]
 by_cases h:B_ x.s k=true
 ·rw [if_pos h,if_pos h];rfl
 ·rw [if_neg h,if_neg h];rfl
theorem Ms (x:Ez) (k:Nat):(Ju x k).length<=k:=by
 unfold Ju
 rw [List.length_map]
 exact Nat.le_trans (List.length_filter_le _ _) (Nat.le_of_eq List.length_range)
theorem UJ (l:List En) (e:En):Ca (l++[e])=Ca l++enc e:=by simp [Ca]
theorem fT (x:Ez) (k:Nat) (hi:K4 x k) (W:World) (hst:St (Ak (H9 x)) W (H9 x) W) :
  Calls Tryz.prog 52 #[.pointer (some ⟨x.tb,0,none⟩)] W
  fun en w' => ∃i:YB,en = .returned (fQ i)/\i.n=(Ju x x.en).length/\St (Ak (H9 x)) W (.row (.slice i.A i.n i.c) 135 5 i.n (Ca (Ju x x.en))::H9 x) w':=by
 obtain ⟨M,hM⟩:∃M,Ak (H9 x)=M:=⟨_,rfl⟩
 rw [hM] at hst ⊢
 have hI:=hi
 obtain ⟨tb,EA,en,ec,E,⟨sb,first,GA,gn,gc,VA,vn,vc,FA,fn,fc,gone,gen,Cz,DC⟩⟩:=x
 unfold H9 I4 at hst
 dsimp only at *
 clear hM
 have hel:E.length=en:=by have:=(Sl.Av hst (AZ (k:=1) rfl)).len;unfold Ca at this;rw [Cr FC] at this;omega
 have hfl:DC.length=fn:=by have:=(Sl.Av hst (AZ (k:=5) rfl)).len;rw [CG] at this;omega
 have hgl:gen.length=en:=hi.n
 have hvl:Cz.length=en:=hi.l
 have hm:=hi.m
 have hkb:=hi.kb
 dsimp only at hm
 have hvn:Cz.length=vn:=by have:=(Sl.Av hst (AZ (k:=4) rfl)).len;rw [GU] at this;omega
 refine Ab (M:=M) Tryz.func52 [.tmp 2]  hst ?_
 have zs:=Bd.mk Eu
 refine Aq ?_
 refine Aq ?_
 refine AB fun K k0=>?_
 refine Aq ?_
 refine AV [0,3,4] fun G1 g1=>?_
 replace g1:=Bi g1
 refine Mc fun hap=>?_
 simp only [Kv,GN,GQ,Jl,O8,Jm,BC,BD,BI,and_true,true_and,List.not_mem_nil,or_false,Eu] at hap
 obtain hap:=hap
 obtain ⟨X0,hX0⟩:∃X0:Ez,X0=⟨tb,EA,en,ec,E,⟨sb,first,GA,gn,gc,VA,vn,vc,FA,fn,fc,gone,gen,Cz,DC⟩⟩:=⟨_,rfl⟩
 refine D5 135 5 ?_
 refine Ad ?_
 refine BP (fun F' L' => ∃(i:Nat) (A1:Option Addr) (n1 c1:Nat),F' 0=G1 0/\F' 3 = .slice A1 n1 c1/\F' 4 = .int .i64 (i:Int)/\L' = .row (.slice A1 n1 c1) 135 5 n1 (Ca (Ju X0 i))::[.blk tb 170 [.pointer (some ⟨sb,0,none⟩),.slice EA en ec],.row (.slice EA en ec) 135 5 en (Ca E),.blk sb 182 [.int .i64 first,.slice GA gn gc,.slice VA vn vc,.slice FA fn fc,.int .i64 gone],.row (.slice GA gn gc) 3 1 gn (Bf gen),.row (.slice VA vn vc) 4 1 vn (EO Cz),.row (.slice FA fn fc) 3 1 fn (Bf DC)]/\i<=en) (fun F' L'=>200000-(intOf (F' 4)).toNat) ?_ ?_
 ·refine ⟨0,none,0,0, ?_⟩
  have zg:=Bd.mk g1
  refine AR ?_
  exact ⟨rfl,Nat.zero_le _⟩
 intro G2 L' hI
 obtain ⟨i,A1,n1,c1,Vz,mr,Ou,rfl,hi2⟩:=hI
 have zg:=Bd.mk g1
 have g2:=And.intro (Bg Vz) (And.intro mr Ou)
 refine AB fun K k1=>?_
 replace zg:=Bd.mk (And.intro g1 g2)
 refine BH ?_
 refine Dl (fun hc=>?_) fun hc=>?_
 ·refine AO ?_
  try simp only [BJ,BX]
  have hit:i<en:=by have:=of_decide_eq_true ‹decide ((i:Int)<(en:Int))=true›;omega
  obtain ⟨e,he⟩:∃e,E[i]? = some e:=⟨_,List.getElem?_eq_getElem (by omega)⟩
  obtain ⟨lv,hlv⟩:∃lv,Cz[i]? = some lv:=⟨_,List.getElem?_eq_getElem (by omega)⟩
  have hld:=FB FC he
  have hal:=Ms X0 i
  have hen:Ba X0 i=e:=by rw [hX0];unfold Ba;rw [he];rfl
  have hli:B_ X0.s i=lv:=by rw [hX0];unfold B_;rw [hlv];rfl
  have hs:=aM X0 i
  rw [hen,hli] at hs
  refine k1 _ _ ?_
  refine EX 0 rfl fun hlA=>?_
  have hn1:n1<=100000:=by
   rw [Gi] at hlA
   omega
  refine BQ 5 rfl (by omega) fun gb DJ hgb Bl=>?_
  subst DJ
  simp only [List.eraseIdx_cons_zero,List.eraseIdx_cons_succ,BC,BD,BI,A_,and_true,List.not_mem_nil,or_false,Eu] at Bl hgb
  replace hgb:=And.intro hgb Bl
  clear Bl
  refine BQ 2 rfl (by omega) fun g DJ hg Bl=>?_
  subst DJ
  simp only [List.eraseIdx_cons_zero,List.eraseIdx_cons_succ,BC,BD,BI,A_,and_true,List.not_mem_nil,or_false,Eu] at Bl hg
  replace hg:=And.intro hg Bl
  clear Bl
  refine AB fun K k1=>?_
  refine Ad ?_
  refine AQ rfl fun K k2=>?_
  refine AR ?_
  refine Aj (BN (m:=1) (i:=i) (v:=.bool lv) (AZ (k:=5) rfl) rfl (QJ hlv)) ?_
  refine AR ?_
  refine k2 _ _ ?_
  refine AL ?_
  cases lv with
  | false =>
   rw [if_neg (by decide),List.append_nil] at hs
   refine AR ?_
   refine AO (k1 _ _ ?_)
   refine AF rfl ?_
   refine AR ?_
   refine ⟨⟨i+1,A1,n1,c1, ?_⟩, ?_⟩
   ·rw [hs]
    refine Ap @Int.natCast_add ?_
    omega
   ·simp only [intOf];omega
  | true =>
   rw [if_pos rfl] at hs
   refine AR ?_
   refine BG [0,2,3,4,5,6,7] (by decide) ?_
   refine AU rfl ?_
   refine AR ?_
   refine Aj (DX (i:=i*5) (vs:=enc e) (AZ (k:=2) rfl) (by kernel_rfl) hld) ?_
   refine AR ?_
   simp only [enc,List.length_cons,List.length_nil,true_and]
   refine AR ?_
   intro bE PE Rj
   refine Bj 1 p9 rfl (fun w hw=>Bp (size:=5) (AZ (k:=0) rfl) rfl hw) rfl (by omega) (by omega) ?_
   intro A2 c2 hl2 hr2
   refine AR ?_
   refine k1 _ _ ?_
   refine AF rfl ?_
   refine AR ?_
   refine ⟨⟨i+1,A2,n1+1,c2, ?_⟩, ?_⟩
   ·rw [hs,UJ]
    simp -implicitDefEqProofs (disch:=first|omega|decide) only [seval, -Int.reducePow, -Nat.reducePow,cC,pv,Ao,Az,undef,Eu,Int.natCast_add,enc,g1,g2]
    omega
   ·simp only [intOf];omega
 refine BM (k0 _ _ ?_)
 have hin:i=en:=by have:=of_decide_eq_false ‹decide ((i:Int)<(en:Int))=false›;omega
 subst hin
 refine BH ?_
 refine EX 0 rfl fun hlA=>?_
 refine AP (Br fun w hw=>?_)
 rw [hX0] at hlA hw
 exact ⟨⟨A1,n1,c1⟩,rfl,by rw [Gi] at hlA;dsimp only;omega,hw⟩
end Go.Proofs.YtegonkdandmolaaGreat
