import Derived.Test.YtegonkdandmolaaGreatDlays1
import Derived.Laws.BitsLemmas
import Derived.Laws.Bits64b
import Derived.Test.YtegonkdandmolaaGreatDlays0
import Derived.Carry
import Derived.ProofKit
import Derived.OpenShut
import Derived.Deep.Slices
import Derived.Deep.Fields
import Derived.ChangeSame
import Derived.Lib.SmallJoins
set_option linter.unusedVariables false
set_option linter.unusedSimpArgs false
set_option maxRecDepth 100000
set_option maxHeartbeats 4000000
namespace Go.Proofs.YtegonkdandmolaaGreat
open Go.RowKit Go.Shelf
def fin (i n:Nat) (r:Nat×Nat×Int):Nat×Nat×Int:=if r.2.2=0 then (n+128 ^ i*r.1,i+r.2.1,0) else (0,0,r.2.2)
def val:List Nat->Nat
 | []=>0
 | c::r=>c % 128+128*val r
section
variable {l:List Nat} {k:Nat}
end
theorem il (l:List Nat) (k:Nat):(Gs l).drop (k*1)=Gs (l.drop k):=by rw [Nat.mul_one];simp [Gs]
theorem iq (l:List Nat) (k:Nat):(Gs l).take (k*1)=Gs (l.take k):=by rw [Nat.mul_one];simp [Gs]
theorem Sl.iG {w:World} {B n c:Nat} {A:Option Addr} {l:List Nat} (h:Sl w B 1 A n c (Gs l)) {k:Nat} (hk:k<=n):Sl w B 1 (J9 c k 1 A) (n-k) (c-k) (Gs (l.drop k)):=by
 rw [<-il];exact h.drop hk
theorem Sl.iH {w:World} {B n c:Nat} {A:Option Addr} {l:List Nat} (h:Sl w B 1 A n c (Gs l)) {k:Nat} (hk:k<=n):Sl w B 1 A k c (Gs (l.take k)):=by
 rw [<-iq];exact h.take hk
theorem u64_in {y:Nat} (h:y<18446744073709551616):IntKind.u64.wrap (y:Int)=(y:Int):=by rw [IntKind.wrap_u64];omega
theorem oH {l:List Nat} {i x:Nat} (h:l[i]? = some x):l.getD i 0=x:=by rw [List.getD_eq_getElem?_getD,h];rfl
structure Fd where
 kind:Int
 count:Int
 deriving DecidableEq
def QV (f:Fd):List Value:=[.int .i64 f.kind,.int .i64 f.count]
def ZQ (f:Fd):Value:=.agg #[.int .i64 f.kind,.int .i64 f.count]
theorem FF (f:Fd):(QV f).length=2:=rfl
namespace Fd
def wid (f:Fd):Int:=if f.kind=1 then 1 else if f.kind=2 then 2 else if f.kind=3 then 4 else if f.kind=6 then f.count else 8
def QZ (f:Fd):Int:=if f.kind=6 then 1 else f.wid
def err (f:Fd):Int:=if f.kind<1\/6<f.kind then 8 else if (f.kind=6/\f.count<1)\/(¬f.kind=6∧¬f.count=0) then 3 else if 65536<f.count then 4 else 0
theorem Qi {f:Fd} (h:f.err=0):1<=f.kind/\f.kind<=6/\(f.kind=6->1<=f.count)/\(f.kind≠6->f.count=0)/\f.count<=65536/\0<=f.count:=by
 unfold err at h
 split at h
 ·cases h
 ·split at h
  ·cases h
  ·split at h
   ·cases h
   ·omega
theorem bI (f:Fd):f.err=0\/f.err=3\/f.err=4\/f.err=8:=by
 unfold err
 split
 ·omega
 ·split
  ·omega
  ·split<;>omega
theorem F9 {f:Fd} (h:f.err=0):1<=f.wid/\f.wid<=65536:=by
 have:=Qi h
 unfold wid
 split
 ·omega
 ·split
  ·omega
  ·split
   ·omega
   ·split<;>omega
theorem K9 {f:Fd} (h:f.err=0):1<=f.QZ/\f.QZ<=8:=by
 have:=Qi h
 unfold QZ wid
 repeat' split
 all_goals omega
end Fd
def WO (n a:Int):Int:=(n+a-1) / a*a
theorem Hf {n a:Int} (hn:0<=n) (ha:1<=a):n<=WO n a/\WO n a<=n+a-1:=by
 unfold WO
 have h1:=Int.emod_add_mul_ediv (n+a-1) a
 have h2:=Int.emod_lt_of_pos (n+a-1) (show 0<a by omega)
 have h3:=Int.emod_nonneg (n+a-1) (show a≠0 by omega)
 rw [Int.mul_comm] at h1
 generalize (n+a-1) / a*a=q at *
 generalize (n+a-1) % a=r at *
 omega
def IE (s:Int×Int) (f:Fd):Int×Int:=(WO s.1 f.QZ+f.wid,max s.2 f.QZ)
def lay (fs:List Fd):Int×Int:=fs.foldl IE (0,1)
def Ka (fs:List Fd):Int:=WO (lay fs).1 (lay fs).2
theorem iw (fs:List Fd) (f:Fd):lay (fs++[f])=IE (lay fs) f:=by simp [lay]
theorem M7 {fs:List Fd} {k:Nat} {f:Fd} (h:fs[k]? = some f):lay (fs.take (k+1))=IE (lay (fs.take k)) f:=by
 obtain ⟨hk,hf⟩:=List.getElem?_eq_some_iff.1 h
 rw [List.take_succ_eq_append_getElem hk,hf,iw]
def Ow (fs:List Fd):Prop := ∀f∈fs,f.err=0
theorem K_ {fs:List Fd} (h:Ow fs) (k:Nat):Ow (fs.take k):=fun f hf=>h f (List.mem_of_mem_take hf)
theorem M6 {fs:List Fd} (h:Ow fs):0<=(lay fs).1/\(lay fs).1<=65600*fs.length/\1<=(lay fs).2/\(lay fs).2<=8:=by
 have key:∀(fs:List Fd) (s:Int×Int) (k:Nat),Ow fs->0<=s.1->s.1<=65600*k->1<=s.2->s.2<=8 →
   0<=(fs.foldl IE s).1/\(fs.foldl IE s).1<=65600*(k+fs.length:Nat)/\1<=(fs.foldl IE s).2/\(fs.foldl IE s).2<=8:=by
  intro fs
  induction fs with
  | nil=>intro s k _ h1 h2 h3 h4;exact ⟨h1,by simpa using h2,h3,h4⟩
  | cons f fs ih =>
   intro s k h h1 h2 h3 h4
   have hf:=h f (by simp)
   have hw:=Fd.F9 hf
   have ha:=Fd.K9 hf
   have hu:=Hf h1 ha.1
   have:=ih (IE s f) (k+1) (fun x hx=>h x (by simp [hx])) (by unfold IE;dsimp only;omega) (by unfold IE;dsimp only;omega) (by unfold IE;dsimp only;omega) (by unfold IE;dsimp only;omega)
   rw [List.foldl_cons,List.length_cons,show k+(fs.length+1)=k+1+fs.length by omega]
   exact this
 have:=key fs (0,1) 0 h (by decide) (by decide) (by decide) (by decide)
 rwa [Nat.zero_add] at this
def Cy:List Fd->Int
 | []=>0
 | f::r=>if f.err=0 then Cy r else f.err
theorem Kc {f:Fd} (r:List Fd) (h:¬f.err=0):Cy (f::r)=f.err:=by rw [Cy,if_neg h]
theorem Uf {f:Fd} (r:List Fd) (h:f.err=0):Cy (f::r)=Cy r:=by rw [Cy,if_pos h]
theorem I_:∀ {fs:List Fd},Cy fs=0->Ow fs
 | [],_=>fun f hf=>by cases hf
 | f::r,h=>by
  unfold Cy at h
  split at h
  ·rename_i h0
   intro g hg
   rcases List.mem_cons.1 hg with rfl|hg
   ·exact h0
   ·exact I_ h g hg
  ·rename_i h0
   exact absurd h h0
theorem Oc:∀ {fs:List Fd},Ow fs->Cy fs=0
 | [],_=>rfl
 | f::r,h=>by
  unfold Cy
  rw [if_pos (h f (by simp))]
  exact Oc fun g hg=>h g (by simp [hg])
theorem Ke:∀fs:List Fd,Cy fs=0\/Cy fs=3\/Cy fs=4\/Cy fs=8
 | []=>.inl rfl
 | f::r=>by
  unfold Cy
  split
  ·exact Ke r
  ·exact f.bI
def D6 (len:Int) (fs:List Fd):Int:=if 0<len then len*(fs.headD ⟨0,0⟩).wid else Ka fs
def I9 (len:Int) (fs:List Fd):Int :=
 if len<0 then 3 else if 65536<len then 4 else if (len=0/\fs.length=0)\/(0<len∧¬fs.length=1) then 3 else if 32<fs.length then 4
 else if ¬Cy fs=0 then Cy fs else if 65536<D6 len fs then 4 else 0
theorem IB {len:Int} {fs:List Fd} (h:I9 len fs=0):0<=len/\len<=65536/\fs.length<=32/\1<=fs.length/\(0<len->fs.length=1)/\Ow fs/\D6 len fs<=65536:=by
 unfold I9 at h
 split at h
 ·cases h
 split at h
 ·cases h
 split at h
 ·cases h
 split at h
 ·cases h
 split at h
 ·rename_i h0
  exact absurd h h0
 rename_i h0
 split at h
 ·cases h
 exact ⟨by omega,by omega,by omega,by omega,by omega,I_ (by omega),by omega⟩
theorem iy {len:Int} {fs:List Fd} (h1:0<=len) (h2:len<=65536) (h3:fs.length<=32) (h4:1<=fs.length) (h5:0<len->fs.length=1) (h6:Ow fs) (h7:D6 len fs<=65536):I9 len fs=0:=by
 unfold I9
 rw [if_neg (by omega),if_neg (by omega),if_neg (by omega),if_neg (by omega),if_neg (by rw [Oc h6];simp),if_neg (by omega)]
theorem ai (len:Int) (fs:List Fd):I9 len fs=0\/I9 len fs=3\/I9 len fs=4\/I9 len fs=8:=by
 unfold I9
 have:=Ke fs
 repeat' split
 all_goals omega
theorem Nl {a b:Int} (h1:0<=a) (h2:a<=65536) (h3:0<=b) (h4:b<=65536):0<=a*b/\a*b<=4294967296 :=
 ⟨Int.mul_nonneg h1 h3,Int.le_trans (Int.mul_le_mul h2 h4 h3 (by omega)) (by decide)⟩
section
variable {W w:World} {L:List Ai} {M:List Nat} {n c:Nat} {A:Option Addr} {fs:List Fd}
theorem Sl.qC {b off k:Nat} {x:Fd} (h:Sl W W.heap.size 2 (some ⟨b,off,none⟩) n c (cl QV fs)) (hx:fs[k]? = some x):LD Tryz.prog [] W L 126 ⟨b,off+k*2,none⟩ (.agg #[.int .i64 x.kind,.int .i64 x.count]) :=
 h.ld (vs:=QV x) (by
  have:=Iy FF (by omega) h.len
  have:=(List.getElem?_eq_some_iff.1 hx).1
  omega) (by kernel_rfl) (eu FF hx)
theorem Sl.sZ {b off k:Nat} {x:Fd} (h:Sl W W.heap.size 2 (some ⟨b,off,none⟩) n c (cl QV fs)) (hx:fs[k]? = some x):LD Tryz.prog [] W L 3 ⟨b,off+k*2,none⟩ (.int .i64 x.kind) :=
 h.ld1 (m:=1) (i:=k*2) (by kernel_rfl) (rT (j:=0) FF hx rfl)
end
def Nq (b:Nat) (f:Fd):Ai:=.blk b 126 [.int .i64 f.kind,.int .i64 f.count]
def Gn (b:Nat) (len:Int) (A:Option Addr) (n c:Nat):Ai:=.blk b 81 [.int .i64 len,.slice A n c]
def WV (b:Nat):Ai:=.blk b 194 [.int .i64 0,.int .i64 0,.int .i64 0]
def QY (len:Int) (A:Option Addr) (n c:Nat):Value:=.agg #[.int .i64 len,.slice A n c]
theorem Gd {α:Type} {l:List α} {i:Nat} (h:i<l.length):∃x,l[i]? = some x:=⟨_,List.getElem?_eq_getElem h⟩
theorem Ll:type_of% (And.intro (And.intro @Nq.eq_1 @Gn.eq_1) (And.intro @WV.eq_1 (And.intro @ZQ.eq_1 @QY.eq_1))):=(And.intro (And.intro @Nq.eq_1 @Gn.eq_1) (And.intro @WV.eq_1 (And.intro @ZQ.eq_1 @QY.eq_1)))
theorem IC (f:Fd) (W:World) (he:f.err=0):Calls Tryz.prog 77 #[ZQ f] W fun e w'=>e = .returned (.tuple #[.int .i64 f.wid,.int .i64 f.QZ])/\Below W.heap.size W w':=by
 have hz:=Fd.Qi he
 refine Ab (M:=[]) Tryz.func77 [.tmp 2,.tmp 3] (St.nil _ _) ?_
 refine AQ rfl fun K k0=>?_
 have zs:=Bd.mk Ll
 refine Ah ?_
 intro b hb
 refine k0 _ _ ?_
 refine AB fun K k0=>?_
 refine Aq ?_
 refine AV [1,5] fun G1 g1=>?_
 replace g1:=Bi g1
 refine Ad ?_
 have zg:=Bd.mk g1
 refine BH ?_
 refine Dl (fun hc=>?_) fun hc=>?_
 ·refine BH ?_
  refine AP (Br fun w hw=>?_)
  exact ⟨by simp [Fd.wid,Fd.QZ,of_decide_eq_true hc],hw.below⟩
 ·have q1:=of_decide_eq_false hc
  refine BH ?_
  refine Dl (fun hc=>?_) fun hc=>?_
  ·refine BH ?_
   refine AP (Br fun w hw=>?_)
   exact ⟨by simp [Fd.wid,Fd.QZ,q1,of_decide_eq_true ‹_›],hw.below⟩
  ·have q2:=of_decide_eq_false ‹_›
   refine BH ?_
   refine Dl (fun hc=>?_) fun hc=>?_
   ·refine BH ?_
    refine AP (Br fun w hw=>?_)
    exact ⟨by simp [Fd.wid,Fd.QZ,q1,q2,of_decide_eq_true ‹_›],hw.below⟩
   ·have q3:=of_decide_eq_false ‹_›
    refine AV [1,5] fun G2 g2=>?_
    replace g2:=Bg g2
    refine AB fun K k1=>?_
    refine A9 (fun _ _=>True) (fun F' L'=>Az F' G2 [1,5]/\F' 12 = .bool (decide (f.kind=4\/f.kind=5))/\L'=[Nq b f]) ?_ ?_
    ·replace zg:=Bd.mk g2
     refine BH ?_
     refine Dl (fun hc=>?_) fun hc=>?_
     ·have q4:=of_decide_eq_true ‹_›
      refine AO ?_
      try simp only [BJ,BX]
      refine AR ?_
      all_goals (repeat' refine And.intro ?_ ?_)
      all_goals (first|with_reducible rfl|(refine congrArg Value.bool ?_;rw [Bool.eq_iff_iff];(try simp only [decide_eq_true_eq,eq_self,true_and,and_true,false_and,and_false,true_or,or_true,false_or,or_false,not_true_eq_false,not_false_eq_true,true_iff,iff_true,false_iff,iff_false,Bool.false_eq_true,Bool.not_eq_true',Bool.not_eq_true,decide_eq_false_iff_not,Bool.and_eq_true,Bool.or_eq_true])<;>omega)|(refine congrArg (Value.int _) ?_;omega)|omega)
     ·have q4:=of_decide_eq_false ‹_›
      refine AU rfl ?_
      refine AR ?_
      all_goals (repeat' refine And.intro ?_ ?_)
      all_goals (first|with_reducible rfl|(refine congrArg Value.bool ?_;rw [Bool.eq_iff_iff];(try simp only [decide_eq_true_eq,eq_self,true_and,and_true,false_and,and_false,true_or,or_true,false_or,or_false,not_true_eq_false,not_false_eq_true,true_iff,iff_true,false_iff,iff_false,Bool.false_eq_true,Bool.not_eq_true',Bool.not_eq_true,decide_eq_false_iff_not,Bool.and_eq_true,Bool.or_eq_true])<;>omega)|(refine congrArg (Value.int _) ?_;omega)|omega)
    ·intro G3 L' _ hF
     obtain ⟨zq,iY,rfl⟩:=hF
     replace zg:=Bd.mk g2
     have g3:=And.intro (Bg zq) iY
     refine k1 _ _ ?_
     replace zg:=Bd.mk g3
     refine Dl (fun hc=>?_) fun hc=>?_
     ·have q5:=of_decide_eq_true ‹_›
      have q6:¬f.kind=6:=by omega
      refine BH ?_
      refine AP (Br fun w hw=>?_)
      exact ⟨by simp [Fd.wid,Fd.QZ,q1,q2,q3,q6],hw.below⟩
     ·have q5:=of_decide_eq_false ‹_›
      have q6:f.kind=6:=by omega
      refine AO (k0 _ _ ?_)
      refine BH ?_
      refine AP (Br fun w hw=>?_)
      exact ⟨by simp [Fd.wid,Fd.QZ,q6],hw.below⟩
theorem PI (n a:Int) (W:World) (hn:0<=n/\n<=1000000000) (ha:1<=a/\a<=100):Calls Tryz.prog 120 #[.int .i64 n,.int .i64 a] W fun e w'=>e = .returned (.int .i64 (WO n a))/\Below W.heap.size W w':=by
 have hr:=Hf hn.1 ha.1
 have h0:0<=(n+a-1) / a/\(n+a-1) / a<=n+a-1:=⟨Int.ediv_nonneg (by omega) (by omega),Int.ediv_le_self _ (by omega)⟩
 have h1:IntKind.i64.wrap ((n+a-1) / a)=(n+a-1) / a:=Ae (by omega) (by omega)
 have h2:IntKind.i64.wrap ((n+a-1) / a*a)=WO n a:=Ae (by unfold WO at hr;omega) (by unfold WO at hr;omega)
 refine Ab (M:=[]) Tryz.func120 [.tmp 4] (St.nil _ _) ?_
 have zs:=Bd.mk Ll
 refine Aq ?_
 refine LX (And.intro h1 (And.intro h2 @Ae)) ?_
 refine AP (Cc fun w hw=>?_)
 exact ⟨rfl,hw.below⟩
theorem OZ (A:Option Addr) (n c:Nat) (fs:List Fd) (W:World) (hE:Sl W W.heap.size 2 A n c (cl QV fs)) (hn:n<=40) (hok:Ow fs) :
  Calls Tryz.prog 78 #[QY 0 A n c] W fun e w'=>(∃v,e = .returned (.tuple #[v,.int .i64 (Ka fs)])/\True)/\Below W.heap.size W w':=by
 have hln:fs.length=n:=Iy FF (by omega) hE.len
 refine Ab (M:=[]) Tryz.func78 [.tmp 2,.tmp 3] (St.nil _ _) ?_
 refine AQ rfl fun K k0=>?_
 have zs:=Bd.mk Ll
 refine Ah ?_
 intro b hb
 refine k0 _ _ ?_
 refine Aq ?_
 refine AB fun K k0=>?_
 refine Aq ?_
 refine AL ?_
 refine Ah ?_
 refine AO (k0 _ _ ?_)
 refine Aq ?_
 refine Aq ?_
 refine AB fun K k0=>?_
 refine Aq ?_
 refine AV [1,4,8,9,10] fun G4 g4=>?_
 replace g4:=Bi g4
 refine Ad ?_
 refine D5 194 3 ?_
 refine BP (fun F' L' => ∃(k:Nat) (A6:Option Addr) (c6:Nat) (ps:List Value),F' 1=G4 1/\F' 4 = .slice A6 k c6/\F' 8 = .int .i64 (lay (fs.take k)).1/\F' 9 = .int .i64 (lay (fs.take k)).2/\F' 10 = .int .i64 (k:Int)/\L'=[.row (.slice A6 k c6) 194 3 k ps,Gn b 0 A n c]/\k<=n) (fun F' L'=>40-(intOf (F' 10)).toNat) ?_ ?_
 ·refine ⟨0,none,0,[], ?_⟩
  have zg:=Bd.mk g4
  refine AR ?_
  exact ⟨rfl,rfl,by omega⟩
 ·intro G5 L' hI
  obtain ⟨k,A6,c6,ps,fK,Ou,QU,aa,gK,rfl,hk⟩:=hI
  have zg:=Bd.mk g4
  have g5:=And.intro (Bg fK) (And.intro Ou (And.intro QU (And.intro aa gK)))
  have hR:=M6 (K_ hok k)
  rw [List.length_take,Nat.min_eq_left (by omega)] at hR
  refine AB fun K k1=>?_
  replace zg:=Bd.mk (And.intro g4 g5)
  refine BH ?_
  refine Dl (fun hc=>?_) fun hc=>?_
  ·refine AO ?_
   try simp only [BJ,BX]
   have hlt:k<n:=by have:=of_decide_eq_true hc;omega
   obtain ⟨b0,off,rfl,hb0, -⟩:=hE.cells (by omega)
   obtain ⟨x,hx⟩:=Gd (l:=fs) (i:=k) (by omega)
   have hxe:=hok x (List.mem_of_getElem? hx)
   have hxw:=Fd.F9 hxe
   have hxa:=Fd.K9 hxe
   have hu:=Hf (n:=(lay (fs.take k)).1) (a:=x.QZ) hR.1 hxa.1
   have hs:=M7 hx
   refine k1 _ _ ?_
   refine AB fun K k1=>?_
   refine Ad ?_
   refine AQ rfl fun K k2=>?_
   refine AR ?_
   refine Aj (hE.qC hx) ?_
   refine AR ?_
   refine Aa (fun w hw=>IC x w hxe) ?_
   try refine AR ?_
   refine k2 _ _ ?_
   refine AQ rfl fun K k2=>?_
   refine AR ?_
   refine Aa (fun w hw=>PI _ _ w (by omega) (by omega)) ?_
   try refine AR ?_
   refine k2 _ _ ?_
   refine AQ rfl fun K k2=>?_
   refine AR ?_
   refine Aj (hE.sZ hx) ?_
   refine AR ?_
   intro b7 Z0 h7
   refine Bj 1 X3 rfl (fun w hw=>Bp (size:=3) (.head _) rfl hw) rfl (by omega) (by omega) ?_
   intro A' c' hl _
   refine AR ?_
   refine k2 _ _ ?_
   refine FP @Ae ?_
   refine BF [0,2] (by decide) ?_
   simp only [Ag,nth]
   refine AU rfl ?_
   refine AR ?_
   refine k1 _ _ ?_
   refine AF rfl ?_
   refine Ap @Ae ?_
   refine ⟨⟨k+1,A',c',ps++[.int .i64 (WO (lay (fs.take k)).1 x.QZ),.int .i64 x.wid,.int .i64 x.kind], ?_⟩, ?_⟩
   ·simp -implicitDefEqProofs (disch:=first|omega|decide) only [seval, -Int.reducePow, -Nat.reducePow,cC,pv,Ao,Az,undef,Ll,Int.natCast_add,hs,IE,g4,g5]
    omega
   ·simp only [intOf];omega
  ·refine BM (k0 _ _ ?_)
   obtain rfl:n=k:=by have:=of_decide_eq_false hc;omega
   rw [List.take_of_length_le (by omega)] at *
   refine AQ rfl fun K k0=>?_
   refine AR ?_
   refine Aa (fun w hw=>PI _ _ w (by omega) (by omega)) ?_
   try refine AR ?_
   refine k0 _ _ ?_
   refine AP (Br fun w hw=>?_)
   exact ⟨⟨_,rfl,trivial⟩,hw.below⟩
theorem Jy (A:Option Addr) (n c:Nat) (fs:List Fd) (len:Int) (W:World) (hE:Sl W W.heap.size 2 A n c (cl QV fs)) :
  Calls Tryz.prog 44 #[QY len A n c] W fun e w'=>e = .returned (.int .i64 (I9 len fs))/\Below W.heap.size W w':=by
 have hln:fs.length=n:=Iy FF (by omega) hE.len
 refine Ab (M:=[]) Tryz.func44 [.tmp 2] (St.nil _ _) ?_
 refine AQ rfl fun K k0=>?_
 have zs:=Bd.mk Ll
 refine Ah ?_
 intro b hb
 refine k0 _ _ ?_
 refine AV [1] fun G6 g6=>?_
 replace g6:=Bi g6
 refine AB fun K k0=>?_
 have zg:=Bd.mk g6
 refine BH ?_
 refine Dl (fun hc=>?_) fun hc=>?_
 ·refine BH ?_
  refine AP (Br fun w hw=>?_)
  exact ⟨by unfold I9;rw [if_pos (of_decide_eq_true hc)],hw.below⟩
 have q1:=of_decide_eq_false hc
 refine AO (k0 _ _ ?_)
 refine AB fun K k0=>?_
 refine BH ?_
 refine Dl (fun hc=>?_) fun hc=>?_
 ·refine BH ?_
  refine AP (Br fun w hw=>?_)
  exact ⟨by unfold I9;rw [if_neg q1,if_pos (of_decide_eq_true ‹_›)],hw.below⟩
 have q2:=of_decide_eq_false ‹_›
 refine AO (k0 _ _ ?_)
 refine AV [1] fun G7 g7=>?_
 replace g7:=Bg g7
 refine AB fun K k0=>?_
 refine AB fun K k1=>?_
 refine A9 (fun _ _=>True) (fun F' L'=>F' 1=G7 1/\F' 34 = .bool (decide ((len=0/\fs.length=0)\/(0<len∧¬fs.length=1)))/\L'=[Gn b len A n c]) ?_ ?_
 ·refine AF rfl ?_
  replace zg:=Bd.mk g7
  refine AR ?_
  repeat' ((first|refine Ck (fun hg=>?_) (fun hg=>?_)|refine Cm (fun hg=>?_) (fun hg=>?_))<;>((try simp only [Bool.not_eq_true',Bool.not_eq_false',decide_eq_true_eq,decide_eq_false_iff_not] at hg);(try simp -implicitDefEqProofs (disch:=first|omega|decide) only [seval, -Int.reducePow, -Nat.reducePow,cC,pv,Ao,Az,undef,Ll,hg,g7])))
  all_goals (repeat' refine And.intro ?_ ?_)
  all_goals (first|with_reducible rfl|(refine congrArg Value.bool ?_;rw [Bool.eq_iff_iff];(try simp only [decide_eq_true_eq,eq_self,true_and,and_true,false_and,and_false,true_or,or_true,false_or,or_false,not_true_eq_false,not_false_eq_true,true_iff,iff_true,false_iff,iff_false,Bool.false_eq_true,Bool.not_eq_true',Bool.not_eq_true,decide_eq_false_iff_not,Bool.and_eq_true,Bool.or_eq_true])<;>omega)|(refine congrArg (Value.int _) ?_;omega)|omega)
 intro G8 L' _ hF
 obtain ⟨fK,f_,rfl⟩:=hF
 replace zg:=Bd.mk g7
 have g8:=And.intro (Bg fK) f_
 refine k1 _ _ ?_
 replace zg:=Bd.mk g8
 refine Dl (fun hc=>?_) fun hc=>?_
 ·refine BH ?_
  refine AP (Br fun w hw=>?_)
  exact ⟨by unfold I9;rw [if_neg q1,if_neg q2,if_pos (of_decide_eq_true ‹_›)],hw.below⟩
 have q3:=of_decide_eq_false ‹_›
 refine AO (k0 _ _ ?_)
 refine AB fun K k0=>?_
 refine BH ?_
 refine Dl (fun hc=>?_) fun hc=>?_
 ·have q4:32<fs.length:=by have:=of_decide_eq_true ‹_›;omega
  refine BH ?_
  refine AP (Br fun w hw=>?_)
  exact ⟨by unfold I9;rw [if_neg q1,if_neg q2,if_neg q3,if_pos q4],hw.below⟩
 have q4:¬32<fs.length:=by have:=of_decide_eq_false ‹_›;omega
 refine AO (k0 _ _ ?_)
 refine AB fun K k0=>?_
 refine BH ?_
 refine AV [1,3] fun G9 g9=>?_
 replace g9:=Bg g9
 refine Ad ?_
 refine BP (fun F' L' => ∃(k:Nat),F' 1=G9 1/\F' 3 = .int .i64 (k:Int)/\L'=[Gn b len A n c]/\k<=n/\Cy fs=Cy (fs.drop k)) (fun F' L'=>40-(intOf (F' 3)).toNat) ?_ ?_
 ·refine ⟨0, ?_⟩
  replace zg:=Bd.mk g9
  refine AR ?_
  omega
 intro pW L' hI
 obtain ⟨k,fK,mr,rfl,⟨hk,hf⟩⟩:=hI
 replace zg:=Bd.mk g9
 have g10:=And.intro (Bg fK) mr
 refine AB fun K k1=>?_
 replace zg:=Bd.mk (And.intro g9 g10)
 refine BH ?_
 refine Dl (fun hc=>?_) fun hc=>?_
 ·refine AO ?_
  try simp only [BJ,BX]
  have hlt:k<n:=by have:=of_decide_eq_true ‹_›;omega
  obtain ⟨b0,off,rfl,hb0, -⟩:=hE.cells (by omega)
  obtain ⟨x,hx⟩:=Gd (l:=fs) (i:=k) (by omega)
  obtain ⟨hkl,hxk⟩:=List.getElem?_eq_some_iff.1 hx
  rw [List.drop_eq_getElem_cons hkl,hxk] at hf
  refine k1 _ _ ?_
  refine AB fun K k1=>?_
  refine Ad ?_
  refine AQ rfl fun K k2=>?_
  refine AR ?_
  refine Aj (hE.qC hx) ?_
  refine AR ?_
  intro b4 hb4 h4
  refine k2 _ _ ?_
  refine AV [1,3,4] fun ry g11=>?_
  replace g11:=Bg g11
  refine AB fun K k2=>?_
  refine AB fun K k3=>?_
  refine A9 (fun _ _=>True) (fun F' L'=>Az F' ry [1,3,4]/\F' 58 = .bool (decide (x.kind<1\/6<x.kind))/\L'=[Nq b4 x,Gn b len (some ⟨b0,off,none⟩) n c]) ?_ ?_
  ·refine AF rfl ?_
   replace zg:=Bd.mk (And.intro g9 (And.intro g10 g11))
   refine AR ?_
   repeat' ((first|refine Ck (fun hg=>?_) (fun hg=>?_)|refine Cm (fun hg=>?_) (fun hg=>?_))<;>((try simp only [Bool.not_eq_true',Bool.not_eq_false',decide_eq_true_eq,decide_eq_false_iff_not] at hg);(try simp -implicitDefEqProofs (disch:=first|omega|decide) only [seval, -Int.reducePow, -Nat.reducePow,cC,pv,Ao,Az,undef,Ll,hg,g9,g10,g11])))
   all_goals (repeat' refine And.intro ?_ ?_)
   all_goals (first|with_reducible rfl|(refine congrArg Value.bool ?_;rw [Bool.eq_iff_iff];(try simp only [decide_eq_true_eq,eq_self,true_and,and_true,false_and,and_false,true_or,or_true,false_or,or_false,not_true_eq_false,not_false_eq_true,true_iff,iff_true,false_iff,iff_false,Bool.false_eq_true,Bool.not_eq_true',Bool.not_eq_true,decide_eq_false_iff_not,Bool.and_eq_true,Bool.or_eq_true])<;>omega)|(refine congrArg (Value.int _) ?_;omega)|omega)
  intro G12 L' _ hF
  obtain ⟨zq,AHi,rfl⟩:=hF
  replace zg:=Bd.mk g11
  have g12:=And.intro (Bg zq) AHi
  refine k3 _ _ ?_
  replace zg:=Bd.mk (And.intro g9 (And.intro g10 g12))
  refine Dl (fun hc=>?_) fun hc=>?_
  ·have r1:=of_decide_eq_true ‹_›
   have vM:x.err=8:=by unfold Fd.err;rw [if_pos r1]
   rw [Kc _ (by omega)] at hf
   refine BH ?_
   refine AP (Br fun w hw=>?_)
   exact ⟨by unfold I9;rw [if_neg q1,if_neg q2,if_neg q3,if_neg q4,if_pos (by omega),hf,vM],hw.below⟩
  have r1:=of_decide_eq_false ‹_›
  refine AO (k2 _ _ ?_)
  refine AB fun K k2=>?_
  refine AB fun K k3=>?_
  refine A9 (fun _ _=>True) (fun F' L'=>Az F' G12 [1,3,4]/\F' 76 = .bool (decide ((x.kind=6/\x.count<1)\/(¬x.kind=6∧¬x.count=0)))/\L'=[Nq b4 x,Gn b len (some ⟨b0,off,none⟩) n c]) ?_ ?_
  ·refine AF rfl ?_
   refine AR ?_
   repeat' ((first|refine Ck (fun hg=>?_) (fun hg=>?_)|refine Cm (fun hg=>?_) (fun hg=>?_))<;>((try simp only [Bool.not_eq_true',Bool.not_eq_false',decide_eq_true_eq,decide_eq_false_iff_not] at hg);(try simp -implicitDefEqProofs (disch:=first|omega|decide) only [seval, -Int.reducePow, -Nat.reducePow,cC,pv,Ao,Az,undef,Ll,hg,g9,g10,g12])))
   all_goals (repeat' refine And.intro ?_ ?_)
   all_goals (first|with_reducible rfl|(refine congrArg Value.bool ?_;rw [Bool.eq_iff_iff];(try simp only [decide_eq_true_eq,eq_self,true_and,and_true,false_and,and_false,true_or,or_true,false_or,or_false,not_true_eq_false,not_false_eq_true,true_iff,iff_true,false_iff,iff_false,Bool.false_eq_true,Bool.not_eq_true',Bool.not_eq_true,decide_eq_false_iff_not,Bool.and_eq_true,Bool.or_eq_true])<;>omega)|(refine congrArg (Value.int _) ?_;omega)|omega)
  intro G13 L' _ hF
  obtain ⟨zq,AHj,rfl⟩:=hF
  have g13:=And.intro (Bg zq) AHj
  refine k3 _ _ ?_
  replace zg:=Bd.mk (And.intro g9 (And.intro g10 g13))
  refine Dl (fun hc=>?_) fun hc=>?_
  ·have r2:=of_decide_eq_true ‹_›
   have vM:x.err=3:=by unfold Fd.err;rw [if_neg r1,if_pos r2]
   rw [Kc _ (by omega)] at hf
   refine BH ?_
   refine AP (Br fun w hw=>?_)
   exact ⟨by unfold I9;rw [if_neg q1,if_neg q2,if_neg q3,if_neg q4,if_pos (by omega),hf,vM],hw.below⟩
  have r2:=of_decide_eq_false ‹_›
  refine AO (k2 _ _ ?_)
  refine BH ?_
  refine Dl (fun hc=>?_) fun hc=>?_
  ·have r3:=of_decide_eq_true ‹_›
   have vM:x.err=4:=by unfold Fd.err;rw [if_neg r1,if_neg r2,if_pos r3]
   rw [Kc _ (by omega)] at hf
   refine BH ?_
   refine AP (Br fun w hw=>?_)
   exact ⟨by unfold I9;rw [if_neg q1,if_neg q2,if_neg q3,if_neg q4,if_pos (by omega),hf,vM],hw.below⟩
  have r3:=of_decide_eq_false ‹_›
  have vM:x.err=0:=by unfold Fd.err;rw [if_neg r1,if_neg r2,if_neg r3]
  rw [Uf _ (by omega)] at hf
  refine AO (k1 _ _ ?_)
  refine BF [1] (by decide) ?_
  simp only [Ag,nth]
  refine AF rfl ?_
  refine Ap @Ae ?_
  refine ⟨⟨k+1, ?_⟩, ?_⟩
  ·refine Ap @Int.natCast_add ?_
   exact ⟨by omega,hf⟩
  ·simp only [intOf];omega
 refine BM (k0 _ _ ?_)
 obtain rfl:n=k:=by have:=of_decide_eq_false ‹_›;omega
 rw [List.drop_of_length_le (by omega)] at hf
 have hok:=I_ hf
 have q5:¬ ¬Cy fs=0:=by rw [hf];simp [Cy]
 refine AB fun K k0=>?_
 refine BH ?_
 refine Dl (fun hc=>?_) fun hc=>?_
 ·have hl:0<len:=of_decide_eq_true ‹_›
  obtain rfl:n=1:=by omega
  obtain ⟨b0,off,rfl,hb0, -⟩:=hE.cells (by omega)
  obtain ⟨x,hx⟩:=Gd (l:=fs) (i:=0) (by omega)
  have hhd:fs.headD ⟨0,0⟩=x:=by
   cases fs with
   | nil=>simp at hx
   | cons y r=>simpa using hx
  have hxe:=hok x (List.mem_of_getElem? hx)
  have hxw:=Fd.F9 hxe
  have hm:=Nl (show 0<=len by omega) (show len<=65536 by omega) (show 0<=x.wid by omega) hxw.2
  have hst:D6 len fs=x.wid*len:=by unfold D6;rw [if_pos hl,hhd,Int.mul_comm]
  rw [Int.mul_comm] at hm
  have hx0:=hE.qC (L:=[Gn b len (some ⟨b0,off,none⟩) 1 c]) hx
  simp only [Nat.zero_mul,Nat.add_zero,Gn] at hx0
  refine AQ rfl fun K k1=>?_
  refine Ap @Nat.zero_mul ?_
  refine Aj (hx0) ?_
  refine Ap @Nat.zero_mul ?_
  refine Aa (fun w hw=>IC x w hxe) ?_
  try refine AR ?_
  refine k1 _ _ ?_
  refine AB fun K k1=>?_
  refine FP @Ae ?_
  refine Dl (fun hc=>?_) fun hc=>?_
  ·refine BH ?_
   refine AP (Br fun w hw=>?_)
   exact ⟨by unfold I9;rw [if_neg q1,if_neg q2,if_neg q3,if_neg q4,if_neg q5,if_pos (by rw [hst];exact of_decide_eq_true ‹_›)],hw.below⟩
  refine AO (k1 _ _ ?_)
  refine BH ?_
  refine AP (Br fun w hw=>?_)
  exact ⟨by unfold I9;rw [if_neg q1,if_neg q2,if_neg q3,if_neg q4,if_neg q5,if_neg (by rw [hst];exact of_decide_eq_false ‹_›)],hw.below⟩
 have hl:¬0<len:=of_decide_eq_false ‹_›
 obtain rfl:len=0:=by omega
 have hst:D6 0 fs=Ka fs:=by unfold D6;rw [if_neg hl]
 refine AO (k0 _ _ ?_)
 refine AQ rfl fun K k0=>?_
 refine AR ?_
 refine Et (fun v=>.tuple #[v,.int .i64 (Ka fs)]) (fun _=>True) (fun w hw=>OZ A n c fs w (hE.at hw) (by omega) hok) ?_
 intro v _
 refine AR ?_
 refine k0 _ _ ?_
 refine AB fun K k0=>?_
 refine BH ?_
 refine Dl (fun hc=>?_) fun hc=>?_
 ·refine BH ?_
  refine AP (Br fun w hw=>?_)
  exact ⟨by unfold I9;rw [if_neg q1,if_neg q2,if_neg q3,if_neg q4,if_neg q5,if_pos (by rw [hst];exact of_decide_eq_true ‹_›)],hw.below⟩
 refine AO (k0 _ _ ?_)
 refine BH ?_
 refine AP (Br fun w hw=>?_)
 exact ⟨by unfold I9;rw [if_neg q1,if_neg q2,if_neg q3,if_neg q4,if_neg q5,if_neg (by rw [hst];exact of_decide_eq_false ‹_›)],hw.below⟩
structure U7 where
 len:Int
 A:Option Addr
 n:Nat
 c:Nat
 fs:List Fd
def RQ (t:U7):List Value:=[.int .i64 t.len,.slice t.A t.n t.c]
theorem M4 (t:U7):(RQ t).length=2:=rfl
def Ar (l:List Nat) (i m:Nat):Nat:=l.getD i 0 % m
theorem CP {l:List Nat} {i m:Nat} (h:0<m):Ar l i m<m:=Nat.mod_lt _ h
def DL (l:List Nat) (i:Nat):Fd×Nat:=if 1+Ar l i 6=6 then (⟨6,((1+Ar l (i+1) 9:Nat):Int)⟩,i+2) else (⟨((1+Ar l i 6:Nat):Int),0⟩,i+1)
def DV (l:List Nat):Nat->Nat->List Fd×Nat
 | 0,i=>([],i)
 | n+1,i=>((DL l i).1::(DV l n (DL l i).2).1,(DV l n (DL l i).2).2)
def ER (l:List Nat) (i:Nat):Int×List Fd×Nat :=
 if Ar l i 4=0 then (((1+Ar l (i+1) 5:Nat):Int),[(DL l (i+2)).1],(DL l (i+2)).2)
 else (0,(DV l (1+Ar l (i+1) 4) (i+2)).1,(DV l (1+Ar l (i+1) 4) (i+2)).2)
theorem Ns (l:List Nat) (i:Nat):(DL l i).1.err=0/\(DL l i).1.wid<=9/\i<(DL l i).2/\(DL l i).2<=i+2:=by
 have h1:=CP (l:=l) (i:=i) (m:=6) (by omega)
 have h2:=CP (l:=l) (i:=i+1) (m:=9) (by omega)
 unfold DL
 split
 ·refine ⟨?_, ?_,by dsimp only;omega,by dsimp only;omega⟩
  ·unfold Fd.err
   dsimp only
   repeat' split
   all_goals omega
  ·unfold Fd.wid
   dsimp only
   repeat' split
   all_goals omega
 ·refine ⟨?_, ?_,by dsimp only;omega,by dsimp only;omega⟩
  ·unfold Fd.err
   dsimp only
   repeat' split
   all_goals omega
  ·unfold Fd.wid
   dsimp only
   repeat' split
   all_goals omega
theorem Qj (l:List Nat):∀(n i:Nat),(∀f∈(DV l n i).1,f.err=0/\f.wid<=9)/\(DV l n i).1.length=n/\i<=(DV l n i).2/\(DV l n i).2<=i+2*n
 | 0,i=>⟨by simp [DV],rfl,Nat.le_refl _,Nat.le_refl _⟩
 | n+1,i=>by
  have h1:=Ns l i
  have h2:=Qj l n (DL l i).2
  simp only [DV]
  refine ⟨fun f hf=>?_,by simp [h2.2.1],by omega,by omega⟩
  rcases List.mem_cons.1 hf with rfl|hf
  ·exact ⟨h1.1,h1.2.1⟩
  ·exact h2.1 f hf
theorem bJ {fs:List Fd} (h:∀f∈fs,f.err=0/\f.wid<=9):0<=(lay fs).1/\(lay fs).1<=17*fs.length/\1<=(lay fs).2/\(lay fs).2<=8:=by
 have key:∀(fs:List Fd) (s:Int×Int) (k:Nat),(∀f∈fs,f.err=0/\f.wid<=9)->0<=s.1->s.1<=17*k->1<=s.2->s.2<=8 →
   0<=(fs.foldl IE s).1/\(fs.foldl IE s).1<=17*(k+fs.length:Nat)/\1<=(fs.foldl IE s).2/\(fs.foldl IE s).2<=8:=by
  intro fs
  induction fs with
  | nil=>intro s k _ h1 h2 h3 h4;exact ⟨h1,by simpa using h2,h3,h4⟩
  | cons f fs ih =>
   intro s k h h1 h2 h3 h4
   have hf:=h f (by simp)
   have hw:=Fd.F9 hf.1
   have ha:=Fd.K9 hf.1
   have hu:=Hf h1 ha.1
   have:=ih (IE s f) (k+1) (fun x hx=>h x (by simp [hx])) (by unfold IE;dsimp only;omega) (by unfold IE;dsimp only;omega) (by unfold IE;dsimp only;omega) (by unfold IE;dsimp only;omega)
   rw [List.foldl_cons,List.length_cons,show k+(fs.length+1)=k+1+fs.length by omega]
   exact this
 have:=key fs (0,1) 0 h (by decide) (by decide) (by decide) (by decide)
 rwa [Nat.zero_add] at this
theorem Qg (l:List Nat) (i:Nat):I9 (ER l i).1 (ER l i).2.1=0/\i+2<=(ER l i).2.2/\(ER l i).2.2<=i+12/\0<=(ER l i).1/\(ER l i).1<=5/\(ER l i).2.1.length<=4/\D6 (ER l i).1 (ER l i).2.1<=120/\(∀f∈(ER l i).2.1,f.err=0/\f.wid<=9):=by
 have h1:=CP (l:=l) (i:=i+1) (m:=5) (by omega)
 have h2:=CP (l:=l) (i:=i+1) (m:=4) (by omega)
 unfold ER
 split
 ·have hf:=Ns l (i+2)
  have hw:=Fd.F9 hf.1
  have hs:D6 ((1+Ar l (i+1) 5:Nat):Int) [(DL l (i+2)).1]<=45:=by
   unfold D6
   rw [if_pos (by omega)]
   simp only [List.headD_cons]
   exact Int.le_trans (Int.mul_le_mul (show (_:Int)<=5 by omega) hf.2.1 (by omega) (by omega)) (by decide)
  refine ⟨iy (by dsimp only;omega) (by dsimp only;omega) (by simp) (by simp) (by simp) ?_ ?_,by dsimp only;omega,by dsimp only;omega,by dsimp only;omega,by dsimp only;omega,by simp,by dsimp only;omega, ?_⟩
  ·intro f h
   obtain rfl:f=(DL l (i+2)).1:=by simpa using h
   exact hf.1
  ·dsimp only
   omega
  ·intro f h
   obtain rfl:f=(DL l (i+2)).1:=by simpa using h
   exact ⟨hf.1,hf.2.1⟩
 ·obtain ⟨ha,hl,hi1,hi2⟩:=Qj l (1+Ar l (i+1) 4) (i+2)
  have hy:=bJ ha
  have hu:=Hf hy.1 hy.2.2.1
  have hs:D6 0 (DV l (1+Ar l (i+1) 4) (i+2)).1<=100:=by
   unfold D6 Ka
   rw [if_neg (by omega)]
   omega
  refine ⟨iy (by dsimp only;omega) (by dsimp only;omega) (by dsimp only;omega) (by dsimp only;omega) (by dsimp only;omega) (fun f h=>(ha f h).1) (by dsimp only;omega),by dsimp only;omega,by dsimp only;omega,by dsimp only;omega,by dsimp only;omega,by dsimp only;omega,by dsimp only;omega,ha⟩
theorem Ug (l:List Nat) (y i:Nat) (gs:List Fd):(gs++(DV l (y+1) i).1,(DV l (y+1) i).2)=((gs++[(DL l i).1])++(DV l y (DL l i).2).1,(DV l y (DL l i).2).2):=by simp [DV]
def tape (A:Option Addr) (n c i:Nat):List Value:=[.slice A n c,.int .i64 (i:Int)]
def C_ (b:Nat) (A:Option Addr) (n c i:Nat):Ai:=.blk b 74 [.slice A n c,.int .i64 (i:Int)]
theorem Kg:type_of% (And.intro (And.intro (And.intro @Nq.eq_1 @Gn.eq_1) (And.intro @WV.eq_1 @ZQ.eq_1)) (And.intro (And.intro @QY.eq_1 @C_.eq_1) (And.intro @tape.eq_1 @Nat.mul_one))):=(And.intro (And.intro (And.intro @Nq.eq_1 @Gn.eq_1) (And.intro @WV.eq_1 @ZQ.eq_1)) (And.intro (And.intro @QY.eq_1 @C_.eq_1) (And.intro @tape.eq_1 @Nat.mul_one)))
theorem BK (b:Nat) (A:Option Addr) (n c:Nat) (l:List Nat) (i m:Nat) (W:World) (hW:W.heap[b]? = some (.cells (tape A n c i).toArray 74 (0,0))) (hE:Sl W W.heap.size 1 A n c (Dn l)) (ha:0<n->U4 A [b]) (hl:∀x∈l,x<65536) (hi:i<=1000000) (hm:0<m/\m<=100000) :
  Calls Tryz.prog 12 #[.pointer (some ⟨b,0,none⟩),.int .i64 (m:Int)] W (rR b 74 (.int .i64 (Ar l i m:Int)) (tape A n c (i+1)) W):=by
 have hln:l.length=n:=Y1 hE.len
 have hx16:∀j,l.getD j 0<65536:=fun j=>by
  rw [List.getD_eq_getElem?_getD]
  cases hq:l[j]? with
  | none=>simp
  | some z=>exact hl z (List.mem_of_getElem? hq)
 refine Ab (M:=[b]) Tryz.func12 [.tmp 4]  (St.one hW) ?_
 have zs:=Bd.mk Kg
 refine Aq ?_
 refine Aq ?_
 refine AV [0,1,5] fun G1 g1=>?_
 replace g1:=Bi g1
 refine AB fun K k0=>?_
 refine AB fun K k1=>?_
 refine BR [(true,0),(true,1),(true,2),(true,3),(true,4),(true,5),(true,6),(true,7),(true,8),(true,9)] [] CB rfl (by kernel_rfl) (by kernel_rfl) rfl rfl ?_
 have zg:=Bd.mk g1
 refine AR ?_
 refine k1 _ _ ?_
 refine A9 (fun _ _=>True) (fun F' L'=>Az F' G1 [0,1]/\F' 5 = .int .i64 ((l.getD i 0:Nat):Int)/\L'=[C_ b A n c i]) ?_ ?_
 ·refine Dl (fun hc=>?_) fun hc=>?_
  ·have hlt:i<n:=by have:=of_decide_eq_true hc;omega
   obtain ⟨b0,off,rfl,hb0, -⟩:=hE.cells (by omega)
   obtain ⟨x,hx⟩:=Gd (l:=l) (i:=i) (by omega)
   have hxb:=hl x (List.mem_of_getElem? hx)
   have hbb:b≠b0:=fun e=>ha (by omega) b0 off rfl (by simp [e])
   rw [oH hx]
   refine Jk ?_
   refine BR [(true,0),(true,1),(true,2),(true,3),(true,4),(true,5),(true,6),(true,7),(true,8),(true,9),(true,10),(true,11)] [] CB rfl (by kernel_rfl) (by kernel_rfl) rfl rfl ?_
   refine AR ?_
   refine Aj (hE.ABT (m:=1) (ha (by omega)) (by kernel_rfl) (mO hx)) ?_
   exact NQ @Ae
  ·have hge:¬i<n:=by have:=of_decide_eq_false hc;omega
   rw [List.getD_eq_getElem?_getD,List.getElem?_eq_none (by omega)]
   refine AO ?_
   try simp only [BJ,BX]
   refine AR ?_
   all_goals (first|(simp;done)|(simp;omega))
 ·intro G2 L' _ hF
  obtain ⟨zq,KO,rfl⟩:=hF
  have g2:=And.intro (Bg zq) KO
  refine k0 _ _ ?_
  have hv:((l.getD i 0:Nat):Int) % (m:Int)=(Ar l i m:Int):=by unfold Ar;rw [Int.natCast_emod]
  have h16:=hx16 i
  replace zg:=Bd.mk g2
  refine FP @Ae ?_
  refine FP hv ?_
  refine AP (Br fun w hw=>?_)
  exact ⟨rfl,hw.holds _ (.head _),hw.Bz⟩
theorem Qk (b:Nat) (A:Option Addr) (n c:Nat) (l:List Nat) (i:Nat) (W:World) (hW:W.heap[b]? = some (.cells (tape A n c i).toArray 74 (0,0))) (hE:Sl W W.heap.size 1 A n c (Dn l)) (ha:0<n->U4 A [b]) (hl:∀x∈l,x<65536) (hi:i<=900000) :
  Calls Tryz.prog 46 #[.pointer (some ⟨b,0,none⟩)] W (rR b 74 (ZQ (DL l i).1) (tape A n c (DL l i).2) W):=by
 have h6:=CP (l:=l) (i:=i) (m:=6) (by omega)
 have h9:=CP (l:=l) (i:=i+1) (m:=9) (by omega)
 have e6:(1:Int)+((Ar l i 6:Nat):Int)=((1+Ar l i 6:Nat):Int):=by omega
 have e9:(1:Int)+((Ar l (i+1) 9:Nat):Int)=((1+Ar l (i+1) 9:Nat):Int):=by omega
 refine DY (M:=[b]) (n:=16) [.cell 2 126] rfl Tryz.func46 rfl rfl (Nat.le_of_ble_eq_true rfl)  (St.one hW) ?_
 refine AQ rfl fun K k0=>?_
 have zs:=Bd.mk Kg
 refine Ah ?_
 intro b2 hb2 h2
 refine k0 _ _ ?_
 refine AQ rfl fun K k0=>?_
 refine Ah ?_
 refine BB 1 (fun w hw=>BK b A n c l i 6 w (hw.hold 1 rfl) (hE.H7 hw ha) ha hl (by omega) (by omega)) rfl ?_
 try refine Ah ?_
 refine D_ (And.intro e6 @Ae) ?_
 intro b3 hb3 h3
 refine k0 _ _ ?_
 refine AV [0,2,3] fun G3 g3=>?_
 replace g3:=Bi g3
 refine AB fun K k0=>?_
 have zg:=Bd.mk g3
 refine BH ?_
 refine A9 (fun _ _=>True) (fun F' L'=>Az F' G3 [2,3]/\L'=[Nq b3 (DL l i).1,Nq b2 ⟨0,0⟩,C_ b A n c (DL l i).2]) ?_ ?_
 ·refine Dl (fun hc=>?_) fun hc=>?_
  ·have hk:1+Ar l i 6=6:=by have:=of_decide_eq_true hc;omega
   have hF:DL l i=(⟨6,((1+Ar l (i+1) 9:Nat):Int)⟩,i+2):=by unfold DL;rw [if_pos hk]
   rw [hF,hk]
   refine AU rfl ?_
   refine AR ?_
   refine BB 2 (fun w hw=>BK b A n c l (i+1) 9 w (hw.hold 2 rfl) (hE.H7 hw ha) ha hl (by omega) (by omega)) rfl ?_
   try refine AR ?_
   refine Ap (And.intro e9 @Ae) ?_
   all_goals (first|(simp;done)|(simp;omega))
  ·have hk:¬1+Ar l i 6=6:=by have:=of_decide_eq_false hc;omega
   have hF:DL l i=(⟨((1+Ar l i 6:Nat):Int),0⟩,i+1):=by unfold DL;rw [if_neg hk]
   rw [hF]
   refine AO ?_
   try simp only [BJ,BX]
   refine AR ?_
   all_goals (first|(simp;done)|(simp;omega))
 ·intro G4 L' _ hF
  obtain ⟨zq,rfl⟩:=hF
  have g4:=Bg zq
  refine k0 _ _ ?_
  replace zg:=Bd.mk g4
  refine BH ?_
  refine AP ?_
  simp -implicitDefEqProofs (disch:=first|omega|decide) only [seval, -Int.reducePow, -Nat.reducePow,cC,pv,Ao,Az,undef,Kg,Dx,Cx,Cw,g4]
  intro w hw
  exact ⟨rfl,hw.hold 2 rfl,hw.Bz⟩
theorem Nr (b:Nat) (A:Option Addr) (n c:Nat) (l:List Nat) (i:Nat) (W:World) (hW:W.heap[b]? = some (.cells (tape A n c i).toArray 74 (0,0))) (hE:Sl W W.heap.size 1 A n c (Dn l)) (ha:0<n->U4 A [b]) (hl:∀x∈l,x<65536) (hi:i<=800000) :
  Calls Tryz.prog 15 #[.pointer (some ⟨b,0,none⟩)] W (Yy b 74 (tape A n c (ER l i).2.2) 126 2 (fun v=>.agg #[.int .i64 (ER l i).1,v]) (cl QV (ER l i).2.1) W):=by
 have h5:=CP (l:=l) (i:=i+1) (m:=5) (by omega)
 have h4:=CP (l:=l) (i:=i+1) (m:=4) (by omega)
 have e5:(1:Int)+((Ar l (i+1) 5:Nat):Int)=((1+Ar l (i+1) 5:Nat):Int):=by omega
 have e4:(1:Int)+((Ar l (i+1) 4:Nat):Int)=((1+Ar l (i+1) 4:Nat):Int):=by omega
 refine DY (M:=[b]) (n:=31) [.cell 2 81] rfl Tryz.func15 rfl rfl (Nat.le_of_ble_eq_true rfl)  (St.one hW) ?_
 refine AQ rfl fun K k0=>?_
 have zs:=Bd.mk Kg
 refine Ah ?_
 intro b2 hb2 h2
 refine k0 _ _ ?_
 refine AV [0,2] fun G5 g5=>?_
 replace g5:=Bi g5
 refine AB fun K k0=>?_
 refine AQ rfl fun K k1=>?_
 have zg:=Bd.mk g5
 refine AR ?_
 refine BB 1 (fun w hw=>BK b A n c l i 4 w (hw.hold 1 rfl) (hE.H7 hw ha) ha hl (by omega) (by omega)) rfl ?_
 try refine AR ?_
 refine k1 _ _ ?_
 refine Dl (fun hc=>?_) fun hc=>?_
 ·have hk:Ar l i 4=0:=by have:=of_decide_eq_true hc;omega
  have hT:ER l i=(((1+Ar l (i+1) 5:Nat):Int),[(DL l (i+2)).1],(DL l (i+2)).2):=by unfold ER;rw [if_pos hk]
  rw [hT]
  refine AQ rfl fun K k1=>?_
  refine AR ?_
  refine BB 1 (fun w hw=>BK b A n c l (i+1) 5 w (hw.hold 1 rfl) (hE.H7 hw ha) ha hl (by omega) (by omega)) rfl ?_
  try refine AR ?_
  refine Ap (And.intro e5 @Ae) ?_
  refine BB 1 (fun w hw=>Qk b A n c l (i+2) w (hw.hold 1 rfl) (hE.H7 hw ha) ha hl (by omega)) rfl ?_
  try refine AR ?_
  intro b5 hb5 h5
  refine AR ?_
  refine k1 _ _ ?_
  refine AP ?_
  simp -implicitDefEqProofs (disch:=first|omega|decide) only [seval, -Int.reducePow, -Nat.reducePow,cC,pv,Ao,Az,undef,Kg,Dx,Cx,Cw,g5]
  intro w hw
  have hr:=hw.Fw (size:=2) (n:=1) rfl (by omega)
  exact ⟨some ⟨b5,0,none⟩,1,1,rfl,hr.Tu (by simp [Ai.foot]),hw.hold 2 rfl,hw.Bz⟩
 ·have hk:¬Ar l i 4=0:=by have:=of_decide_eq_false hc;omega
  have hT:ER l i=(0,(DV l (1+Ar l (i+1) 4) (i+2)).1,(DV l (1+Ar l (i+1) 4) (i+2)).2):=by unfold ER;rw [if_neg hk]
  rw [hT]
  refine AO (k0 _ _ ?_)
  refine AQ rfl fun K k0=>?_
  refine AR ?_
  intro b3 hb3 h3
  refine k0 _ _ ?_
  refine AB fun K k0=>?_
  refine AQ rfl fun K k1=>?_
  refine AR ?_
  refine BB 2 (fun w hw=>BK b A n c l (i+1) 4 w (hw.hold 2 rfl) (hE.H7 hw ha) ha hl (by omega) (by omega)) rfl ?_
  try refine AR ?_
  refine Ap (And.intro e4 @Ae) ?_
  refine k1 _ _ ?_
  refine AV [0,2,3,4] fun G6 g6=>?_
  replace g6:=Bg g6
  refine Ad ?_
  refine D5 126 2 ?_
  refine BP (fun F' L' => ∃(y j:Nat) (A6:Option Addr) (n6 c6:Nat) (gs:List Fd),Az F' G6 [0,2,3]/\F' 4 = .int .i64 (y:Int)/\L'=[.row (.slice A6 n6 c6) 126 2 n6 (cl QV gs),Gn b3 0 A6 n6 c6,Gn b2 0 none 0 0,C_ b A n c j]/\y<=4/\n6+y<=4/\j+2*y<=i+10/\(gs++(DV l y j).1,(DV l y j).2)=DV l (1+Ar l (i+1) 4) (i+2)) (fun F' L'=>(intOf (F' 4)).toNat) ?_ ?_
  ·refine ⟨1+Ar l (i+1) 4,i+2,none,0,0,[], ?_⟩
   replace zg:=Bd.mk g6
   refine AR ?_
   exact ⟨rfl,by omega,by omega,by omega⟩
  ·intro G7 L' hI
   obtain ⟨y,j,A6,n6,c6,gs,zq,Ou,rfl,⟨hy,h6,hj,hF⟩⟩:=hI
   replace zg:=Bd.mk g6
   have g7:=And.intro (Bg zq) Ou
   refine AB fun K k1=>?_
   replace zg:=Bd.mk (And.intro g6 g7)
   refine BH ?_
   refine Dl (fun hc=>?_) fun hc=>?_
   ·refine AO ?_
    try simp only [BJ,BX]
    obtain ⟨z,rfl⟩:∃z,y=z+1:=⟨y-1,by have:=of_decide_eq_true hc;omega⟩
    rw [Ug] at hF
    have hfo:=Ns l j
    refine k1 _ _ ?_
    refine AB fun K k1=>?_
    refine Ad ?_
    refine Jk ?_
    refine CF (Ag [1] _) (fun w hw=>hw.pick (by decide)) (by simp only [Ag,nth,Be,Bv,List.mem_cons,true_or,or_true,and_true,eq_self]) [(true,0),(true,1),(true,2),(false,3),(false,4),(false,5),(true,6),(false,7)] [7] CB rfl (by kernel_rfl) (by kernel_rfl) rfl rfl ?_
    refine AR ?_
    refine BB 3 (fun w hw=>Qk b A n c l j w (hw.hold 3 rfl) (hE.H7 hw ha) ha hl (by omega)) rfl ?_
    try refine AR ?_
    intro b5 hb5 h5
    refine Bj 1 pJ rfl (fun w hw=>Bp (size:=2) (.head _) rfl hw) rfl (by omega) (by omega) ?_
    intro A' c' hl' hr'
    refine AR ?_
    refine k1 _ _ ?_
    refine BF [0,2,3,4] (by decide) ?_
    simp only [Ag,nth]
    refine AF rfl ?_
    refine Ap @Ae ?_
    refine ⟨⟨z,(DL l j).2,A',n6+1,c',gs++[(DL l j).1], ?_⟩, ?_⟩
    ·simp -implicitDefEqProofs (disch:=first|omega|decide) only [seval, -Int.reducePow, -Nat.reducePow,cC,pv,Ao,Az,undef,Kg,Int.natCast_add,mM,QV,g6,g7]
     exact ⟨congrArg _ (by omega),by omega,by omega,by omega,hF⟩
    ·simp only [intOf];omega
   ·refine BM (k0 _ _ ?_)
    obtain rfl:y=0:=by have:=of_decide_eq_false hc;omega
    simp only [DV,List.append_nil] at hF
    rw [hT,<-hF]
    refine BH ?_
    refine AP ?_
    simp -implicitDefEqProofs (disch:=first|omega|decide) only [seval, -Int.reducePow, -Nat.reducePow,cC,pv,Ao,Az,undef,Kg,Dx,Cx,Cw,g6,g7]
    intro w hw
    exact ⟨A6,n6,c6,rfl,hw.Tu (by simp [Ai.foot]),hw.hold 3 rfl,hw.Bz⟩
theorem YR (A:Option Addr) (n c:Nat) (l:List Nat) (m:Nat) (W:World) (hE:Sl W W.heap.size 1 A n c (Dn l)) (hm:m<=100000) :
  Calls Tryz.prog 5 #[.slice A n c,.int .i64 (m:Int)] W (Tt 74 (fun v=>[v,.int .i64 0]) 118 1 (Dn (l.take m)) W):=by
 have hln:l.length=n:=Y1 hE.len
 have hcap:=hE.cap
 have hmax:=hE.max
 refine Ab (M:=[]) Tryz.func5 [.tmp 4] (St.nil _ _) ?_
 have zs:=Bd.mk Kg
 refine Aq ?_
 refine AV [0,1] fun G8 g8=>?_
 replace g8:=Bi g8
 refine AB fun K k0=>?_
 have zg:=Bd.mk g8
 refine BH ?_
 refine A9 (fun _ _=>True) (fun F' L'=>F' 0 = .slice A (min n m) c/\L'=[]) ?_ ?_
 ·refine Dl (fun hc=>?_) fun hc=>?_
  ·have hlt:m<n:=by have:=of_decide_eq_true hc;omega
   rw [Nat.min_eq_right (by omega)]
   refine AU rfl ?_
   exact MQ
  ·have hge:¬m<n:=by have:=of_decide_eq_false hc;omega
   rw [Nat.min_eq_left (by omega)]
   refine AO ?_
   try simp only [BJ,BX]
   exact MQ
 ·intro G9 L' _ hF
  obtain ⟨Vz,rfl⟩:=hF
  have g9:=Vz
  refine k0 _ _ ?_
  have hE2:Sl W W.heap.size 1 A (min n m) c (Dn (l.take m)):=by
   have:=hE.ABV (k:=min n m) (by omega)
   rwa [show l.take (min n m)=l.take m by rw [<-hln,Nat.min_comm,<-List.take_take,List.take_length]] at this
  refine AQ rfl fun K k0=>?_
  replace zg:=Bd.mk g9
  refine AR ?_
  intro b5 hb5
  refine CR 0 pI rfl rfl (fun w hw=>(hE2.at hw).reads) (fA _) (by omega) (by omega) ?_
  intro A' c' hl' _
  refine AR ?_
  intro b6 hb6
  refine k0 _ _ ?_
  refine AP (Br fun w hw=>?_)
  exact hw.rV (us:=fun v=>[v,.int .i64 0])
theorem i_:type_of% (And.intro (And.intro @Nq.eq_1 @Gn.eq_1) (And.intro @ZQ.eq_1 (And.intro @QY.eq_1 @Nat.mul_one))):=(And.intro (And.intro @Nq.eq_1 @Gn.eq_1) (And.intro @ZQ.eq_1 (And.intro @QY.eq_1 @Nat.mul_one)))
theorem Uc (A B:Option Addr) (n c m d:Nat) (fs gs:List Fd) (x y:Int) (W:World) (hE:Sl W W.heap.size 2 A n c (cl QV fs)) (hF:Sl W W.heap.size 2 B m d (cl QV gs)) :
  Calls Tryz.prog 45 #[QY x A n c,QY y B m d] W fun e w'=>e = .returned (.bool (decide (x=y/\fs=gs)))/\Below W.heap.size W w':=by
 have hln:fs.length=n:=Iy FF (by omega) hE.len
 have hlm:gs.length=m:=Iy FF (by omega) hF.len
 have hmax:=hE.max
 have hcap:=hE.cap
 refine Ab (M:=[]) Tryz.func45 [.tmp 4] (St.nil _ _) ?_
 refine AQ rfl fun K k0=>?_
 have zs:=Bd.mk i_
 refine Ah ?_
 intro b2 hb2 b3 hb3 h3
 refine k0 _ _ ?_
 refine AV [2,3] fun G1 g1=>?_
 replace g1:=Bi g1
 refine AB fun K k0=>?_
 refine AB fun K k1=>?_
 refine A9 (fun _ _=>True) (fun F' L'=>Az F' G1 [2,3]/\F' 19 = .bool (decide (¬x=y∨¬n=m))/\L'=[Gn b3 y B m d,Gn b2 x A n c]) ?_ ?_
 ·refine AF rfl ?_
  have zg:=Bd.mk g1
  refine AR ?_
  repeat' ((first|refine Ck (fun hg=>?_) (fun hg=>?_)|refine Cm (fun hg=>?_) (fun hg=>?_))<;>((try simp only [Bool.not_eq_true',Bool.not_eq_false',decide_eq_true_eq,decide_eq_false_iff_not] at hg);(try simp -implicitDefEqProofs (disch:=first|omega|decide) only [seval, -Int.reducePow, -Nat.reducePow,cC,pv,Ao,Az,undef,i_,hg,g1])))
  all_goals (repeat' refine And.intro ?_ ?_)
  all_goals (first|with_reducible rfl|(refine congrArg Value.bool ?_;rw [Bool.eq_iff_iff];(try simp only [decide_eq_true_eq,eq_self,true_and,and_true,false_and,and_false,true_or,or_true,false_or,or_false,not_true_eq_false,not_false_eq_true,true_iff,iff_true,false_iff,iff_false,Bool.false_eq_true,Bool.not_eq_true',Bool.not_eq_true,decide_eq_false_iff_not,Bool.and_eq_true,Bool.or_eq_true])<;>omega)|(refine congrArg (Value.int _) ?_;omega)|omega)
 intro G2 L' _ hF
 obtain ⟨zq,QO,rfl⟩:=hF
 have zg:=Bd.mk g1
 have g2:=And.intro (Bg zq) QO
 refine k1 _ _ ?_
 replace zg:=Bd.mk g2
 refine Dl (fun hc=>?_) fun hc=>?_
 ·have q1:=of_decide_eq_true hc
  refine BH ?_
  refine AP (Br fun w hw=>?_)
  refine ⟨?_,hw.below⟩
  rw [decide_eq_false]
  rintro ⟨h1,h2⟩
  subst h2
  omega
 have q1:=of_decide_eq_false hc
 obtain ⟨rfl,rfl⟩:x=y/\n=m:=by omega
 refine AO (k0 _ _ ?_)
 refine AB fun K k0=>?_
 refine BH ?_
 refine AV [2,3,5] fun G3 g3=>?_
 replace g3:=Bg g3
 refine Ad ?_
 refine BP (fun F' L' => ∃(k:Nat),Az F' G3 [2,3]/\F' 5 = .int .i64 (k:Int)/\L'=[Gn b3 x B n d,Gn b2 x A n c]/\k<=n/\fs.take k=gs.take k) (fun F' L'=>n-(intOf (F' 5)).toNat) ?_ ?_
 ·refine ⟨0, ?_⟩
  replace zg:=Bd.mk g3
  refine AR ?_
  omega
 intro G4 L' hI
 obtain ⟨k,zq,KO,rfl,⟨hk,hq⟩⟩:=hI
 replace zg:=Bd.mk g3
 have g4:=And.intro (Bg zq) KO
 refine AB fun K k1=>?_
 replace zg:=Bd.mk (And.intro g3 g4)
 refine BH ?_
 refine Dl (fun hc=>?_) fun hc=>?_
 ·refine AO ?_
  try simp only [BJ,BX]
  have hlt:k<n:=by have:=of_decide_eq_true ‹_›;omega
  obtain ⟨b0,off,rfl,hb0, -⟩:=hE.cells (by omega)
  obtain ⟨b1,AKw,rfl,hb1, -⟩:=hF.cells (by omega)
  obtain ⟨u,hu⟩:=Gd (l:=fs) (i:=k) (by omega)
  obtain ⟨v,hv⟩:=Gd (l:=gs) (i:=k) (by omega)
  refine k1 _ _ ?_
  refine AB fun K k1=>?_
  refine Ad ?_
  refine AB fun K k2=>?_
  refine BR [(true,0),(true,1),(true,2),(true,3),(true,4),(true,5),(true,6),(true,7),(true,8),(true,9),(true,10)] [] CB rfl (by kernel_rfl) (by kernel_rfl) rfl rfl ?_
  refine AR ?_
  refine Aj (hE.qC hu) ?_
  refine AR ?_
  refine Aj (hF.qC hv) ?_
  refine AR ?_
  refine k2 _ _ ?_
  refine Dl (fun hc=>?_) fun hc=>?_
  ·have hne:¬u=v:=by
    rintro rfl
    simp at hc
   refine BH ?_
   refine AP (Br fun w hw=>?_)
   refine ⟨?_,hw.below⟩
   rw [decide_eq_false]
   rintro ⟨-,rfl⟩
   rw [hu] at hv
   injection hv with hv
   exact hne hv
  have huv:u=v:=by
   obtain ⟨u1,u2⟩:=u
   obtain ⟨v1,v2⟩:=v
   simpa using hc
  subst huv
  refine AO (k1 _ _ ?_)
  refine AF rfl ?_
  refine Ap @Ae ?_
  refine ⟨⟨k+1, ?_⟩, ?_⟩
  ·refine Ap @Int.natCast_add ?_
   refine ⟨by omega, ?_⟩
   obtain ⟨h1,h2⟩:=List.getElem?_eq_some_iff.1 hu
   obtain ⟨h3,h4⟩:=List.getElem?_eq_some_iff.1 hv
   rw [List.take_succ_eq_append_getElem h1,List.take_succ_eq_append_getElem h3,h2,h4,hq]
  ·simp only [intOf];omega
 refine BM (k0 _ _ ?_)
 have hkn:k=n:=by have:=of_decide_eq_false ‹_›;omega
 subst hkn
 rw [List.take_of_length_le (by omega),List.take_of_length_le (by omega)] at hq
 refine BH ?_
 refine AP (Br fun w hw=>?_)
 exact ⟨by simp [hq],hw.below⟩
open Go.ChangeShapes Go.WideShapes Go.ChangeAt Go.RowKit Go.Deep Go.Joins
section
variable {H:Type} {enc:TypeId×Value->H} {P:Program}
def readAll (P:Program) (ts:List TypeId):Bool:=ts.all fun t=>P.readableRec t&&decide (t<P.types.size)
theorem Lp (hl:laidOutB P=true) {W W':World} (hb:Below W.heap.size W W') {sp:Nat->Bool} : ∀ {ts:List TypeId} {vs:List Value} {ds:List (DataW H)} {ps:List MemPlace},readAll P ts=true →
  DataW.TrodAll enc P W 0 (fun _=>true) true ts vs ds ps->(∀x∈ps,x.block<W.heap.size)->(∀x∈ps,sp x.block=true)->DataW.TrodAll enc P W' 0 sp true ts vs ds ps
 | [],vs,ds,ps,_,h,_,_=>by
  obtain ⟨rfl,rfl,rfl⟩:=trodAll_nil h
  exact trodAll_mk0
 | t::ts,vs,ds,ps,hr,h,hlt,hs=>by
  obtain ⟨v,vs',d,ds',p,q,rfl,rfl,rfl,h1,h2⟩:=trodAll_cons h
  simp only [readAll,List.all_cons,Bool.and_eq_true,decide_eq_true_eq] at hr
  refine trodAll_cons_mk (WideElems.Trod_stays hl hr.1.1 hr.1.2 h1 (fun x hx=>hb.same (hlt x (List.mem_append_left _ hx))) (fun x hx=>hs x (List.mem_append_left _ hx))) ?_
  exact Lp hl hb hr.2 h2 (fun x hx=>hlt x (List.mem_append_right _ hx)) (fun x hx=>hs x (List.mem_append_right _ hx))
theorem l6 {f:Func} {s:ChangeSpec} {apart fresh handsOn again:Bool} {W W':World} {args:Array Value} {v:Value} {ds:List (DataW H)} {before:List MemPlace}
  (hl:laidOutB P=true) (hr:readAll P f.params.toList=true) (hsv:s.vars=[])
  (hW:DataW.Whole enc P f.params.toList s.vars apart W args.toList ds [] before)
  (hA:DataW.TrodAll enc P W 0 (fun _=>true) true f.params.toList args.toList ds before)
  (hres:∀(b:Nat) (sp:Nat->Bool) (hd:Bool),DataW.TrodAll enc P W' b sp hd f.resultTypes.toList (v.resultList f.resultTypes.size) (s.fn H (ds++[])).results [])
  (hargs:(s.fn H (ds++[])).args=ds) (hvars:(s.fn H (ds++[])).vars=[]) (hb:Below W.heap.size W W')
  (hok:∀(j:Nat) (t:TypeId) (r:Value),f.resultTypes[j]? = some t->(v.resultList f.resultTypes.size)[j]? = some r->Value.okWide P W' .any 0 t r) :
  s.post enc P f apart fresh handsOn again W args v W' :=
 RZ (pa:=before) (pv:=[]) hW hres (fun sp hsp=>by
  rw [hargs]
  exact Lp hl hb hr hA (fun x hx=>hW.lt x hx) hsp) (fun sp _=>by rw [hsv,hvars];rfl) (by simp) hb hok
end
section
variable {H:Type} {enc:TypeId×Value->H} {P:Program} {w:World} {base:Nat} {spare:Nat->Bool} {held:Bool}
theorem bK {w:World} {a:Addr} {v:Value} (h:w.cell? a=some v):a.spot=none:=by
 unfold World.cell? at h
 split at h
 ·split at h
  ·cases h
  ·rename_i hs
   simpa using hs
 ·cases h
theorem Wt {a:Addr} (hs:a.spot=none) (k:Nat):a.add k=⟨a.block,a.off+k,none⟩:=by
 obtain ⟨ab,ao,sq⟩:=a
 dsimp only at hs
 subst hs
 unfold Addr.add
 split
 ·rename_i h;subst h;rfl
 ·rfl
theorem Sl.of_cells {a:Addr} {n c size:Nat} {xs:List Value} (hl:xs.length=n*size) (hs:0<size) (hc:n<=c) (hm:c<=maxLen) (h:∀i v,xs[i]? = some v->w.cell? (a.add i)=some v):Sl w w.heap.size size (some a) n c xs :=
 ⟨hl,hc,by unfold maxLen at hm;omega,fun hn=>by
  have hpos:0<xs.length:=by rw [hl];exact Nat.mul_pos hn hs
  have h0:=h 0 _ (List.getElem?_eq_getElem hpos)
  have hsp:a.spot=none:=by rw [Addr.add_zero'] at h0;exact bK h0
  refine ⟨a.block,a.off, ?_, ?_,fun i v hv=>?_⟩
  ·obtain ⟨ab,ao,sq⟩:=a
   dsimp only at hsp
   subst hsp
   rfl
  ·have:=World.block_lt_of_cell? w _ h0
   rwa [Wt hsp] at this
  ·have:=h i v hv
   rwa [Wt hsp] at this⟩
theorem bL {t e:TypeId} {k:IntKind} {fuel:Nat} {cs:List Value} {x:DataW H×List MemPlace} (ht:P.underlying t=some (.slice e)) (he:P.underlying e=some (.int k)) (hC:P.cellsOf e=1)
  (h:DataW.trod enc P w base (fun _=>true) held fuel t cs=some x) :
  ∃A n c,∃L:List Int,cs=[.slice A n c]/\Sl w w.heap.size 1 A n c (L.map (Value.int k))∧∀x∈L,(Lit.int k x).wf=true:=by
 rcases open_ints ht he hC h with ⟨hcs,hx⟩|⟨a,len,cap,zs,hcs,_,hl,hm,hz,hx,hcell,hwz⟩
 ·exact ⟨none,0,0,[],hcs,Sl.nil _,by simp⟩
 ·simp only [if_true] at hz
  refine ⟨some a,len,cap,zs.take len,hcs,Sl.of_cells (by simp;omega) (by omega) hl hm fun i v hv=>?_,fun y hy=>hwz y (List.mem_of_mem_take hy)⟩
  rw [List.getElem?_map,List.getElem?_take] at hv
  split at hv
  ·rename_i hi
   obtain ⟨z,hz1,rfl⟩:=Option.map_eq_some_iff.1 hv
   rw [hcell i (by omega),List.getD_eq_getElem?_getD,hz1]
   rfl
  ·cases hv
theorem AHk {n:Int} (h:(Lit.int .u16 n).wf=true):0<=n/\n<=65535:=by
 simp only [Lit.wf,Bool.and_eq_true,decide_eq_true_eq] at h
 exact h
theorem wf8 {n:Int} (h:(Lit.int .u8 n).wf=true):0<=n/\n<=255:=by
 simp only [Lit.wf,Bool.and_eq_true,decide_eq_true_eq] at h
 exact h
theorem wf_u8 {n:Int} (h:(Lit.int .u8 n).wf=true):0<=n/\n<=255:=wf8 h
theorem jA {k:IntKind} : ∀ {L:List Int},(∀x∈L,0<=x)->L.map (Value.int k)=(L.map Int.toNat).map fun x:Nat=>Value.int k (x:Int)
 | [],_=>rfl
 | x::L,h=>by
  have h1:=h x (by simp)
  rw [List.map_cons,List.map_cons,List.map_cons,jA fun y hy=>h y (by simp [hy])]
  rw [Int.toNat_of_nonneg h1]
variable {b0:Nat} {v:Value} {d:DataW H} {p:List MemPlace} {fuel:Nat} {x:DataW H×List MemPlace} {cs:List Value}
theorem bN {e:TypeId} {k:IntKind} {t:TypeId} {B:Int} (ht:P.underlying t=some (.slice e)) (he:P.underlying e=some (.int k)) (hC:P.cellsOf e=1) (hwf:∀n:Int,(Lit.int k n).wf=true->0<=n/\n<B)
  (h:DataW.trod enc P w base (fun _=>true) held fuel t cs=some x):∃(A:Option Addr) (n c:Nat) (l:List Nat),cs=[.slice A n c]/\Sl w w.heap.size 1 A n c (l.map fun x:Nat=>Value.int k (x:Int))∧∀x∈l,(x:Int)<B:=by
 obtain ⟨A,n,c,L,hcs,hE,hwz⟩:=bL ht he hC h
 rw [jA fun y hy=>(hwf y (hwz y hy)).1] at hE
 refine ⟨A,n,c,_,hcs,hE,fun y hy=>?_⟩
 obtain ⟨z,hz,rfl⟩:=List.mem_map.1 hy
 have:=hwf z (hwz z hz)
 omega
theorem bO {t e:TypeId} (ht:P.underlying t=some (.slice e)) (hval:Value.okWide P w .any b0 t v) {Q:List Value->Prop} (h:Q v.cells.toList) {A:Option Addr} {n c:Nat} (hv:v.cells.toList=[.slice A n c]):v = .slice A n c:=by
 obtain ⟨a0,len,cap,rfl⟩:=okWide_slice ht hval
 simpa [Value.cells] using hv
theorem vN (hval:Value.okWide Tryz.prog w .any b0 22 v) (h:DataW.Trod enc Tryz.prog w base (fun _=>true) held 22 v d p) :
  ∃(A:Option Addr) (n c:Nat) (l:List Nat),v = .slice A n c/\Sl w w.heap.size 1 A n c (Dn l)∧∀x∈l,x<65536:=by
 obtain ⟨fuel,hf⟩:=h
 obtain ⟨A,n,c,l,hcs,hE,hl⟩:=bN (B:=65536) Tryz.underlying22 Tryz.underlying118 (by kernel_rfl) (fun n h=>by have:=AHk h;omega) hf
 exact ⟨A,n,c,l,bO (Q:=fun _=>True) Tryz.underlying22 hval trivial hcs,hE,fun x hx=>by have:=hl x hx;omega⟩
end
end Go.Proofs.YtegonkdandmolaaGreat
