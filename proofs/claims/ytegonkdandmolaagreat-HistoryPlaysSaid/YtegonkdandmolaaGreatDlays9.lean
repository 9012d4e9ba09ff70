import Derived.Test.YtegonkdandmolaaGreatDlays8
import Derived.Test.YtegonkdandmolaaGreatDlays1
import Derived.Test.YtegonkdandmolaaGreatDlays0
set_option linter.unusedVariables false
set_option linter.unusedSimpArgs false
set_option maxRecDepth 100000
set_option maxHeartbeats 4000000
namespace Go.Proofs.YtegonkdandmolaaGreat.Sz
def sz (k:Nat):Int:=if k<8 then 16*(k+1) else if k<12 then 256*2 ^ (k-8) else 2048*((k:Int)-10)
def stp (s:Int):Int:=if s<128 then 16 else if s<2048 then s else 2048
def LV (n:Int):Nat->Nat->Nat
 | 0,k=>k
 | f+1,k=>if n<=sz k then k else LV n f (k+1)
def cls (n:Int):Nat:=LV n 43 0
def K6 (n:Int):Int:=if n<1 then 0 else if 65536<n then 0 else sz (cls n)
def rD (n:Int):Int:=if n<1 then 0 else if 65536<n then 0 else (cls n:Int)
def err (n:Int):Int:=if n<1 then 1 else if 65536<n then 4 else 0
theorem uj:∀k,k<43->(16<=sz k/\sz k<=65536)/\sz (k+1)=sz k+stp (sz k)/\sz k<sz (k+1):=by decide
theorem oz:sz 42=65536:=by decide
theorem AC4 {k:Nat} (h:k<43):16<=sz k/\sz k<=65536:=(uj k h).1
theorem NP (n:Int) (hn:n<=65536):∀(f k:Nat),k+f=43->(∀j,j<k->sz j<n)->k<=42 →
  LV n f k<=42/\n<=sz (LV n f k)∧∀j,j<LV n f k->sz j<n
 | 0,k,h,_,hk=>by omega
 | f+1,k,h,hj,hk=>by
  unfold LV
  by_cases hle:n<=sz k
  ·rw [if_pos hle];exact ⟨hk,hle,hj⟩
  ·rw [if_neg hle]
   by_cases h42:k=42
   ·subst h42;rw [oz] at hle;omega
   ·refine NP n hn f (k+1) (by omega) (fun j hj'=>?_) (by omega)
    by_cases e:j=k
    ·subst e;omega
    ·exact hj j (by omega)
theorem RH {n:Int} (hn:n<=65536):cls n<=42/\n<=sz (cls n)∧∀j,j<cls n->sz j<n :=
 NP n hn 43 0 rfl (fun j h=>by omega) (by omega)
def all:List Int:=(List.range 43).map sz
end Go.Proofs.YtegonkdandmolaaGreat.Sz
namespace Go.Proofs.YtegonkdandmolaaGreat
open Go.RowKit Go.Shelf
namespace Ex
def setOf (us:List Ext):List Ext:=us.foldl (fun s e=>(F5 s e).1) []
def V_ (N:Int) (us:List Ext):List Ext:=(FM (setOf us) N).1
theorem Zt:∀(us s:List Ext),JX s->(∀e∈us,e.prop)->(∀e∈us,∀o,IV e o→¬mem s o)->us.Pairwise (fun a b => ∀o,IV a o→¬IV b o) →
  JX (us.foldl (fun s e=>(F5 s e).1) s)/\(∀o,mem (us.foldl (fun s e=>(F5 s e).1) s) o↔mem s o\/mem us o)
 | [],s,hv,_,_,_=>⟨hv,fun o=>by simp [mem]⟩
 | e::us,s,hv,hp,hd,ha=>by
  obtain ⟨a1,a2⟩:=List.pairwise_cons.1 ha
  rcases OG hv (hp e (.head _)) with ⟨-,o,ho,hi⟩|⟨h1,h2,h3, -, -⟩
  ·exact absurd ho (hd e (.head _) o hi)
  ·obtain ⟨b1,b2⟩:=Zt us (F5 s e).1 h2 (fun x hx=>hp x (.tail _ hx)) (fun x hx o ho hm=>by
    rcases (h3 o).1 hm with h4|h4
    ·exact hd x (.tail _ hx) o ho h4
    ·exact a1 x hx o h4 ho) a2
   refine ⟨b1,fun o=>?_⟩
   rw [List.foldl_cons,b2,h3,mem_cons,or_assoc]
theorem Oi:∀(us s:List Ext),(us.foldl (fun s e=>(F5 s e).1) s).length<=s.length+us.length
 | [],s=>by simp
 | e::us,s=>by
  have h1:=Oi us (F5 s e).1
  have h2:=lL s e
  rw [List.foldl_cons,List.length_cons]
  omega
theorem Ng (us:List Ext):(setOf us).length<=us.length:=by have:=Oi us [];simpa [setOf] using this
theorem setOf_snoc (us:List Ext) (e:Ext):setOf (us++[e])=(F5 (setOf us) e).1:=by simp [setOf]
theorem Tc (s:Int):∀(xs:List Ext) (a:Int),(FI a xs s).length<=xs.length+1
 | [],a=>by unfold FI;split<;>simp
 | x::xs,a=>by
  have:=Tc s xs (x.off+x.len)
  unfold FI
  split<;>simp<;>omega
structure Inv (N:Int) (us fr:List Ext) (tk:List (Int×Int)):Prop where
 N0:0<=N
 N1:N<=1048576
 prop:∀e∈us,e.prop/\e.off+e.len<=N
 apart:us.Pairwise fun a b => ∀o,IV a o→¬IV b o
 fr:fr=V_ N us
 uk:∀o l,I1 tk o=some l↔(⟨o,l⟩:Ext)∈us
 nd:(tk.map (·.1)).Nodup
section
variable {N:Int} {us fr:List Ext} {tk:List (Int×Int)}
theorem Inv.set (h:Inv N us fr tk):JX (setOf us)∧∀o,mem (setOf us) o↔mem us o:=by
 obtain ⟨h1,h2⟩:=Zt us [] (fun i hi=>by simp at hi) (fun e he=>(h.prop e he).1) (fun e _ o _ hm=>by simp [mem] at hm) h.apart
 exact ⟨h1,fun o=>by rw [setOf,h2];simp [mem]⟩
theorem Inv.lN (h:Inv N us fr tk):∀i,i<(setOf us).length->(get (setOf us) i).end_<=N:=fun i hi=>by
 obtain ⟨h1,h2⟩:=h.set
 have hp:=CZ h1 hi
 obtain ⟨x,hx,h3,h4⟩:=(h2 ((get (setOf us) i).off+(get (setOf us) i).len-1)).1 (PR hi ⟨by omega,by omega⟩)
 have:=(h.prop x hx).2
 unfold Ext.end_
 omega
theorem Inv.free (h:Inv N us fr tk):JX fr/\(∀o,mem fr o↔0<=o/\o<N∧¬mem us o)/\(FM (setOf us) N).2=0∧∀i,i<fr.length->(get fr i).end_<=N:=by
 obtain ⟨h1,h2⟩:=h.set
 obtain ⟨a,b,c,d, -⟩:=Yo h1 h.N0 h.N1 h.lN
 rw [h.fr]
 exact ⟨b,fun o=>by rw [V_,c,h2],a,d⟩
theorem Inv.ABs (h:Inv N us fr tk):fr.length<=us.length+1:=by
 obtain ⟨h1,h2⟩:=h.set
 have hF:=Q_ h1 h.N0 h.N1 h.lN
 have hC:=MP (setOf us) N (setOf us).length (Nat.le_refl _)
 rw [List.drop_length] at hC
 have hF:FM (setOf us) N=(FI 0 (setOf us) N,0):=by rw [hF,<-hC];rfl
 rw [h.fr,V_,hF]
 have:=Tc N (setOf us) 0
 have:=Ng us
 dsimp only
 omega
theorem inv_eq {fr':List Ext} {tk':List (Int×Int)} (h0:0<=N) (h1:N<=1048576) (hp:∀e∈us,e.prop/\e.off+e.len<=N) (ha:us.Pairwise fun a b => ∀o,IV a o→¬IV b o) (hv:JX fr') (hm:∀o,mem fr' o↔0<=o/\o<N∧¬mem us o)
  (ht:∀o l,I1 tk' o=some l↔(⟨o,l⟩:Ext)∈us) (hn:(tk'.map (·.1)).Nodup):Inv N us fr' tk':=by
 have h2:Inv N us (V_ N us) tk':=⟨h0,h1,hp,ha,rfl,ht,hn⟩
 obtain ⟨a,b, -, -⟩:=h2.free
 exact ⟨h0,h1,hp,ha,ou hv a fun o=>by rw [hm,b],ht,hn⟩
end
def Fb (size:Int) (b x:Ext):Ext:=if size<=x.len/\(b.len=0\/x.len<b.len) then x else b
def Gv (size:Int) (fr:List Ext):Ext:=fr.foldl (Fb size) ⟨0,0⟩
theorem dP (size:Int) (fr:List Ext) (x:Ext):Gv size (fr++[x])=Fb size (Gv size fr) x:=by simp [Gv]
theorem aO {size:Int} {fr:List Ext} {i:Nat} (h:i<fr.length):Gv size (fr.take (i+1))=Fb size (Gv size (fr.take i)) (get fr i):=by
 rw [List.take_add_one,List.getElem?_eq_getElem h,get_eq h]
 exact dP _ _ _
theorem Td {size:Int} (hs:0<size):∀(fr:List Ext) (b:Ext),(b=⟨0,0⟩\/size<=b.len) →
  (fr.foldl (Fb size) b=b\/fr.foldl (Fb size) b∈fr/\size<=(fr.foldl (Fb size) b).len) ∧
  (∀x∈fr,size<=x.len->(fr.foldl (Fb size) b).len<=x.len∧¬(fr.foldl (Fb size) b).len=0)/\(size<=b.len->(fr.foldl (Fb size) b).len<=b.len/\size<=(fr.foldl (Fb size) b).len)
 | [],b,_=>⟨.inl rfl,by simp,fun h=>⟨Int.le_refl _,h⟩⟩
 | x::fr,b,hb=>by
  have hb':Fb size b x=⟨0,0⟩\/size<=(Fb size b x).len:=by
   unfold Fb
   split
   ·rename_i h;exact .inr h.1
   ·exact hb
  obtain ⟨h1,h2,h3⟩:=Td hs fr (Fb size b x) hb'
  rw [List.foldl_cons]
  generalize hq:fr.foldl (Fb size) (Fb size b x)=q at h1 h2 h3
  by_cases hc:size<=x.len/\(b.len=0\/x.len<b.len)
  ·have hx:Fb size b x=x:=if_pos hc
   rw [hx] at h1 h3
   obtain ⟨h4,h5⟩:=h3 hc.1
   refine ⟨.inr ?_,fun y hy hys=>?_,fun hbs=>?_⟩
   ·rcases h1 with h1|h1
    ·rw [h1]
     exact ⟨.head _,hc.1⟩
    ·exact ⟨.tail _ h1.1,h1.2⟩
   ·rcases List.mem_cons.1 hy with rfl|hy
    ·exact ⟨h4,by omega⟩
    ·exact h2 y hy hys
   ·rcases hc.2 with h6|h6<;>exact ⟨by omega,h5⟩
  ·have hx:Fb size b x=b:=if_neg hc
   rw [hx] at h1 h3
   refine ⟨h1.imp id fun h=>⟨.tail _ h.1,h.2⟩,fun y hy hys=>?_,h3⟩
   rcases List.mem_cons.1 hy with rfl|hy
   ·have h6:¬(b.len=0\/y.len<b.len):=fun h=>hc ⟨hys,h⟩
    have h7:size<=b.len:=by
     rcases hb with rfl|h
     ·exact absurd (.inl rfl) h6
     ·exact h
    have:=h3 h7
    omega
   ·exact h2 y hy hys
theorem dQ {size:Int} (hs:0<size) (fr:List Ext):(Gv size fr=⟨0,0⟩∧∀x∈fr,¬size<=x.len)\/(Gv size fr∈fr/\size<=(Gv size fr).len∧∀x∈fr,size<=x.len->(Gv size fr).len<=x.len):=by
 obtain ⟨h1,h2, -⟩:=Td hs fr ⟨0,0⟩ (.inl rfl)
 unfold Gv
 rcases h1 with h1|h1
 ·refine .inl ⟨h1,fun x hx hs'=>?_⟩
  have:=(h2 x hx hs').2
  rw [h1] at this
  exact this rfl
 ·exact .inr ⟨h1.1,h1.2,fun x hx hs'=>(h2 x hx hs').1⟩
def findF (fr:List Ext) (n:Int):Ext×Int:=if Sz.err n=0 then (if (Gv (Sz.K6 n) fr).len=0 then (⟨0,0⟩,18) else (⟨(Gv (Sz.K6 n) fr).off,Sz.K6 n⟩,0)) else (⟨0,0⟩,Sz.err n)
theorem UY {n:Int} (h:Sz.err n=0):16<=Sz.K6 n/\Sz.K6 n<=65536:=by
 unfold Sz.err at h
 unfold Sz.K6
 split at h
 ·cases h
 ·split at h
  ·cases h
  ·rename_i h1 h2
   rw [if_neg h1,if_neg h2]
   exact Sz.AC4 (by have:=(Sz.RH (n:=n) (by omega)).1;omega)
theorem aQ {fr:List Ext} {n:Int} (h:¬(findF fr n).2=0):(findF fr n).1=⟨0,0⟩:=by
 unfold findF at h ⊢
 split
 ·rename_i h0
  rw [if_pos h0] at h
  split
  ·rfl
  ·rename_i h1
   rw [if_neg h1] at h
   exact absurd rfl h
 ·rfl
theorem lQ {tk:List (Int×Int)} {o v:Int} : ∀k,I1 (LZ tk o v) k=if k=o then some v else I1 tk k:=by
 induction tk with
 | nil=>intro k;by_cases h:o=k<;>simp [LZ,I1,h,eq_comm]
 | cons p l ih =>
  intro k
  by_cases hp:p.1=o
  ·by_cases hk:k=o
   ·subst hk;simp [LZ,I1,hp]
   ·have:¬o=k:=fun e=>hk e.symm
    simp [LZ,I1,hp,hk,this]
  ·by_cases hk:p.1=k
   ·have:¬k=o:=fun e=>hp (hk.trans e)
    simp [LZ,I1,hp,hk,this]
   ·simp [LZ,I1,hp,hk,ih]
theorem lT {tk:List (Int×Int)} {o v:Int} : ∀k,k∈(LZ tk o v).map (·.1)->k∈tk.map (·.1)\/k=o:=by
 induction tk with
 | nil=>intro k hk;right;simpa [LZ] using hk
 | cons p l ih =>
  intro k hk
  by_cases hp:p.1=o
  ·simp [LZ,hp] at hk ⊢
   rcases hk with h|h
   ·exact .inr h
   ·exact .inl (.inr h)
  ·simp only [LZ,if_neg hp,List.map_cons,List.mem_cons] at hk ⊢
   rcases hk with h|h
   ·exact .inl (.inl h)
   ·exact (ih k h).imp .inr id
theorem um {tk:List (Int×Int)} {o v:Int} (h:(tk.map (·.1)).Nodup):((LZ tk o v).map (·.1)).Nodup:=by
 induction tk with
 | nil=>simp [LZ]
 | cons p l ih =>
  rw [List.map_cons,List.nodup_cons] at h
  by_cases hp:p.1=o
  ·simp only [LZ,if_pos hp,List.map_cons,List.nodup_cons]
   exact ⟨by rw [<-hp];exact h.1,h.2⟩
  ·simp only [LZ,if_neg hp,List.map_cons,List.nodup_cons]
   refine ⟨fun hk=>?_,ih h.2⟩
   rcases lT _ hk with h1|h1
   ·exact h.1 h1
   ·exact hp h1
theorem dR {tk:List (Int×Int)} {o:Int} (h:o∉tk.map (·.1)):I1 tk o=none:=by
 induction tk with
 | nil=>rfl
 | cons p l ih =>
  simp only [List.map_cons,List.mem_cons,not_or] at h
  rw [I1,if_neg fun e=>h.1 e.symm,ih h.2]
theorem lU {tk:List (Int×Int)} {o:Int} (h:(tk.map (·.1)).Nodup):∀k,I1 (Rc tk o) k=if k=o then none else I1 tk k:=by
 induction tk with
 | nil=>intro k;simp [Rc,I1]
 | cons p l ih =>
  intro k
  rw [List.map_cons,List.nodup_cons] at h
  by_cases hp:p.1=o
  ·rw [Rc,if_pos hp,I1]
   by_cases hk:k=o
   ·rw [if_pos hk,hk,<-hp,dR h.1]
   ·rw [if_neg hk,if_neg fun e=>hk (by rw [<-e,hp])]
  ·rw [Rc,if_neg hp,I1,I1,ih h.2]
   by_cases hk:p.1=k
   ·rw [if_pos hk,if_pos hk,if_neg fun e=>hp (hk.trans e)]
   ·rw [if_neg hk,if_neg hk]
theorem o7 {tk:List (Int×Int)} {o:Int} : (Rc tk o).Sublist tk:=by
 induction tk with
 | nil=>exact List.Sublist.refl _
 | cons p l ih =>
  by_cases hp:p.1=o
  ·rw [Rc,if_pos hp]
   exact List.sublist_cons_self _ _
  ·rw [Rc,if_neg hp]
   exact ih.cons_cons _
theorem uo {tk:List (Int×Int)} {o:Int} (h:(tk.map (·.1)).Nodup):((Rc tk o).map (·.1)).Nodup:=(o7.map _).nodup h
theorem lV {us:List Ext} (h:us.Pairwise fun a b => ∀o,IV a o→¬IV b o) {x y:Ext} (hx:x∈us) (hy:y∈us) (hne:x≠y):∀o,IV x o→¬IV y o:=by
 obtain ⟨i,hi,rfl⟩:=List.getElem_of_mem hx
 obtain ⟨j,hj,rfl⟩:=List.getElem_of_mem hy
 have hp:=List.pairwise_iff_getElem.1 h
 intro o h1 h2
 rcases Nat.lt_trichotomy i j with hij|hij|hij
 ·exact hp i j hi hj hij o h1 h2
 ·subst hij;exact hne rfl
 ·exact hp j i hj hi hij o h2 h1
section
variable {N:Int} {us fr:List Ext} {tk:List (Int×Int)}
theorem lW (h:Inv N us fr tk) {o l l':Int} (h1:(⟨o,l⟩:Ext)∈us) (h2:(⟨o,l'⟩:Ext)∈us):l=l':=by
 have e1:=(h.uk o l).2 h1
 have e2:=(h.uk o l').2 h2
 rw [e1] at e2
 exact Option.some.inj e2
theorem Inv.alloc (h:Inv N us fr tk) {n:Int} (hf:(findF fr n).2=0) :
  (findF fr n).1.prop/\U0 fr (findF fr n).1=((U0 fr (findF fr n).1).1,0)/\Inv N (us++[(findF fr n).1]) (U0 fr (findF fr n).1).1 (LZ tk (findF fr n).1.off (findF fr n).1.len)/\(findF fr n).1.len=Sz.K6 n/\Sz.err n=0/\(∀o,IV (findF fr n).1 o->mem fr o)/\Gv (Sz.K6 n) fr∈fr/\(findF fr n).1.off=(Gv (Sz.K6 n) fr).off:=by
 have he:Sz.err n=0:=by
  unfold findF at hf
  split at hf
  ·assumption
  ·rename_i h1;exact absurd hf h1
 have hb0:¬(Gv (Sz.K6 n) fr).len=0:=by
  unfold findF at hf
  rw [if_pos he] at hf
  split at hf
  ·cases hf
  ·assumption
 have hx:findF fr n=(⟨(Gv (Sz.K6 n) fr).off,Sz.K6 n⟩,0):=by unfold findF;rw [if_pos he,if_neg hb0]
 have hrb:=UY he
 obtain ⟨x,vW⟩:∃x:Ext,(⟨(Gv (Sz.K6 n) fr).off,Sz.K6 n⟩:Ext)=x:=⟨_,rfl⟩
 rw [vW] at hx
 rw [hx]
 dsimp only
 obtain ⟨hv,hm, -,hend⟩:=h.free
 rcases dQ (size:=Sz.K6 n) (by omega) fr with ⟨h1, -⟩|⟨h1,h2,h3⟩
 ·rw [h1] at hb0;exact absurd rfl hb0
 obtain ⟨k,hk,hkb⟩:=List.getElem_of_mem h1
 have hkg:get fr k=Gv (Sz.K6 n) fr:=by rw [get_eq hk,hkb]
 have hpb:=CZ hv hk
 rw [hkg] at hpb
 have hxo:x.off=(Gv (Sz.K6 n) fr).off:=by rw [<-vW]
 have hxl:x.len=Sz.K6 n:=by rw [<-vW]
 have hxp:x.prop:=by unfold Ext.prop;omega
 have hin:∀o,IV x o->mem fr o:=fun o ho=>⟨_,h1,by unfold IV at *;omega⟩
 have hxN:x.off+x.len<=N:=by
  have:=((hm (x.off+x.len-1)).1 (hin _ (by unfold IV;omega))).2.1
  omega
 rcases dN hv hxp with ⟨-,o,ho,hn⟩|⟨r1,r2,r3,r4,r5⟩
 ·exact absurd (hin o ho) hn
 have hus:∀e∈us,∀o,IV e o→¬IV x o:=fun e he o ho hxo=>((hm o).1 (hin o hxo)).2.2 ⟨e,he,ho⟩
 have hkey:I1 tk x.off=none:=by
  cases hg:I1 tk x.off with
  | none=>rfl
  | some l =>
   have h4:=(h.uk _ _).1 hg
   have h5:=(h.prop _ h4).1
   unfold Ext.prop at h5
   exact absurd (show IV x x.off by unfold IV;omega) (hus _ h4 x.off (by unfold IV;dsimp only at *;omega))
 refine ⟨hxp,Prod.ext rfl r1,inv_eq h.N0 h.N1 (fun e he=>?_) ?_ r2 (fun o=>?_) (fun o l=>?_) (um h.nd),hxl,he,hin,h1,hxo⟩
 ·rcases List.mem_append.1 he with he|he
  ·exact h.prop e he
  ·obtain rfl:e=x:=by simpa using he
   exact ⟨hxp,hxN⟩
 ·refine List.pairwise_append.2 ⟨h.apart,by simp,fun a ha b hb o ho=>?_⟩
  obtain rfl:b=x:=by simpa using hb
  exact hus a ha o ho
 ·rw [r3,hm,NN]
  constructor
  ·rintro ⟨⟨a,b,c⟩,d⟩
   refine ⟨a,b,fun hh=>?_⟩
   rcases hh with hh|⟨y,hy,hi⟩
   ·exact c hh
   ·obtain rfl:y=x:=by simpa using hy
    exact d hi
  ·rintro ⟨a,b,c⟩
   exact ⟨⟨a,b,fun hh=>c (.inl hh)⟩,fun hi=>c (.inr ⟨x,by simp,hi⟩)⟩
 ·rw [lQ]
  split
  ·rename_i ho
   subst ho
   constructor
   ·intro hs
    obtain rfl:x.len=l:=Option.some.inj hs
    exact List.mem_append.2 (.inr (by simp))
   ·intro hmm
    rcases List.mem_append.1 hmm with h4|h4
    ·have:=(h.uk _ _).2 h4
     rw [hkey] at this
     cases this
    ·have:(⟨x.off,l⟩:Ext)=x:=by simpa using h4
     rw [<-this]
  ·rename_i ho
   rw [h.uk]
   constructor
   ·exact fun h4=>List.mem_append.2 (.inl h4)
   ·intro h4
    rcases List.mem_append.1 h4 with h5|h5
    ·exact h5
    ·have:(⟨o,l⟩:Ext)=x:=by simpa using h5
     exact absurd (by rw [<-this]) ho
theorem Inv.has (h:Inv N us fr tk) (e:Ext):I1 tk e.off=some e.len↔e∈us:=h.uk e.off e.len
theorem Inv.release (h:Inv N us fr tk) {e:Ext} (he:e∈us):F5 fr e=((F5 fr e).1,0)/\Inv N (us.filter fun x=>decide (x≠e)) (F5 fr e).1 (Rc tk e.off):=by
 obtain ⟨hv,hm, -, -⟩:=h.free
 obtain ⟨hp,hN⟩:=h.prop e he
 rcases OG hv hp with ⟨-,o,ho,hi⟩|⟨r1,r2,r3, -, -⟩
 ·exact absurd ⟨e,he,hi⟩ ((hm o).1 ho).2.2
 have hms:∀x,x∈(us.filter fun x=>decide (x≠e))↔x∈us/\x≠e:=fun x=>by simp [List.mem_filter]
 have hmm:∀o,mem (us.filter fun x=>decide (x≠e)) o↔mem us o∧¬IV e o:=fun o=>by
  constructor
  ·rintro ⟨x,hx,hi⟩
   obtain ⟨h1,h2⟩:=(hms x).1 hx
   exact ⟨⟨x,h1,hi⟩,lV h.apart h1 he h2 o hi⟩
  ·rintro ⟨⟨x,hx,hi⟩,hn⟩
   exact ⟨x,(hms x).2 ⟨hx,fun q=>hn (q▸hi)⟩,hi⟩
 have hpe:0<=e.off/\0<e.len/\e.off+e.len<=1048576:=hp
 refine ⟨Prod.ext rfl r1,inv_eq h.N0 h.N1 (fun x hx=>h.prop x ((hms x).1 hx).1) (h.apart.filter _) r2 (fun o=>?_) (fun o l=>?_) (uo h.nd)⟩
 ·rw [r3,hm,hmm]
  constructor
  ·rintro (⟨a,b,c⟩|hi)
   ·exact ⟨a,b,fun q=>c q.1⟩
   ·have hi':e.off<=o/\o<e.off+e.len:=hi
    exact ⟨by omega,by omega,fun q=>q.2 hi⟩
  ·rintro ⟨a,b,c⟩
   by_cases hi:IV e o
   ·exact .inr hi
   ·exact .inl ⟨a,b,fun q=>c ⟨q,hi⟩⟩
 ·rw [lU h.nd,hms]
  split
  ·rename_i ho
   subst ho
   constructor
   ·intro q;cases q
   ·rintro ⟨h1,h2⟩
    have:l=e.len:=lW h h1 he
    exact absurd (by rw [this]) h2
  ·rename_i ho
   rw [h.uk]
   exact ⟨fun h1=>⟨h1,fun q=>ho (by rw [<-q])⟩,fun h1=>h1.1⟩
theorem Rl {us:List Ext} {e:Ext} : (us.filter fun x=>decide (x≠e)).length=us.length↔e∉us:=by
 rw [List.length_filter_eq_length_iff]
 constructor
 ·intro h he
  have:=h e he
  simp at this
 ·intro h x hx
  simp
  rintro rfl
  exact h hx
end
end Ex
attribute [local go_sem] Oper.semAt_some
attribute [local go_sem] Oper.semAt_some
structure AlR where
 bA:Nat
 bm:Nat
 FA:Option Addr
 fn:Nat
 fc:Nat
 fr:List Ext
 tk:List (Int×Int)
structure AlW (w:World) (B:Nat) (x:AlR):Prop where
 blk:Sl w B 1 (some ⟨x.bA,0,none⟩) 2 2 [.slice x.FA x.fn x.fc,.map (some x.bm)]
 map:x.bm<B/\MpH w x.bm x.tk
 fr:Di w B x.FA x.fn x.fc x.fr
 len:x.fr.length<=500
section
variable {W w:World} {L:List Ai} {x:AlR}
theorem AlW.at (h:AlW W W.heap.size x) (hw:St [] W L w):AlW w w.heap.size x :=
 ⟨h.blk.at hw,⟨Nat.lt_of_lt_of_le h.map.1 hw.Bz.size,h.map.2.same (hw.base h.map.1 (by simp))⟩,h.fr.at hw,h.len⟩
end
theorem AlW.lt {w:World} {B:Nat} {x:AlR} (h:AlW w B x):x.bA<B:=by
 obtain ⟨b',o',e,hb, -⟩:=h.blk.cells (by omega)
 cases e
 exact hb
theorem QT:type_of% (And.intro (And.intro @Jw.eq_1 @aP.eq_1) (And.intro @Nat.mul_one (And.intro @Ae @vC))):=(And.intro (And.intro @Jw.eq_1 @aP.eq_1) (And.intro @Nat.mul_one (And.intro @Ae @vC)))
section
variable {M:List Nat} {W w:World} {L:List Ai} {x:AlR}
end
theorem dS (x e:Ext) (W:World) (hx:x.prop) (he:e.prop) :
  Calls Tryz.prog 179 #[.agg #[.int .i64 x.off,.int .i64 x.len],.agg #[.int .i64 e.off,.int .i64 e.len]] W fun en w'=>en = .returned (.bool (decide (x.off<e.end_/\e.off<x.end_)))/\Below W.heap.size W w':=by
 have hx':0<=x.off/\0<x.len/\x.off+x.len<=1048576:=hx
 have he':0<=e.off/\0<e.len/\e.off+e.len<=1048576:=he
 refine Ab (M:=[]) Tryz.func179 [.tmp 4] (St.nil _ _) ?_
 refine AQ rfl fun K k0=>?_
 refine AGB ?_
 intro b hb b2 hb2 h2
 refine k0 _ _ ?_
 refine AV [2,3] fun G1 g1=>?_
 replace g1:=rP g1
 refine AB fun K k0=>?_
 refine A9 (fun _ _=>True) (fun F' L'=>F' 4 = .bool (decide (x.off<e.end_/\e.off<x.end_))/\L'=[Jw b2 e,Jw b x]) ?_ ?_
 ·refine AF rfl ?_
  simp -implicitDefEqProofs (disch:=first|omega|decide) only [seval, -Int.reducePow, -Nat.reducePow,cC,pv,Ao,Az,undef,Ae,Jw,g1]
  repeat' ((first|refine Ck (fun hg=>?_) (fun hg=>?_)|refine Cm (fun hg=>?_) (fun hg=>?_))<;>((try simp only [Bool.not_eq_true',Bool.not_eq_false',decide_eq_true_eq,decide_eq_false_iff_not] at hg);(try simp -implicitDefEqProofs (disch:=first|omega|decide) only [seval, -Int.reducePow, -Nat.reducePow,cC,pv,Ao,Az,undef,hg,Ae,Jw,g1])))
  all_goals (simp [Ext.end_,hg];done)
 ·intro G2 L' _ hF
  obtain ⟨Ou,rfl⟩:=hF
  have g2:=Ou
  refine k0 _ _ ?_
  have zg:=Bd.mk g2
  refine AP (eX fun w hw=>?_)
  exact ⟨rfl,hw.below⟩
theorem WA (A:Option Addr) (n c:Nat) (xs:List Ext) (e:Ext) (W:World) (hE:Di W W.heap.size A n c xs) (hn:n<=1000) (hR:∀i,i<n → -9223372036854775808<=(Ex.get xs i).len/\(Ex.get xs i).len<=9223372036854775807) (hr1 : -9223372036854775808<=e.len) (hr2:e.len<=9223372036854775807) :
  Calls Tryz.prog 169 #[.slice A n c,.agg #[.int .i64 e.off,.int .i64 e.len]] W (UM 103 2 (fun v=>.tuple #[v,.int .i64 (Ex.F5 xs e).2]) (Bn (Ex.F5 xs e).1) W):=by
 refine Ab (M:=[]) Tryz.func169 [.tmp 4,.tmp 5] (St.nil _ _) ?_
 refine AQ rfl fun K k0=>?_
 have zs:=Bd.mk ko
 refine Ah ?_
 intro b hb
 refine k0 _ _ ?_
 refine AV [0,3] fun G3 g3=>?_
 replace g3:=Bi g3
 refine AB fun K k0=>?_
 refine AB fun K k1=>?_
 refine A9 (fun _ _=>True) (fun F' L'=>Az F' G3 [0,3]/\F' 18 = .bool (!Ex.Uy xs || !e.Og)/\L'=[Jw b e]) ?_ ?_
 ·refine AF rfl ?_
  have zg:=Bd.mk g3
  refine AR ?_
  refine Aa (fun w hw=>Q9 A n c xs w (hE.at hw) hR) ?_
  try refine AR ?_
  repeat' ((first|refine Ck (fun hg=>?_) (fun hg=>?_)|refine Cm (fun hg=>?_) (fun hg=>?_))<;>((try simp only [Bool.not_eq_true',Bool.not_eq_false',decide_eq_true_eq,decide_eq_false_iff_not] at hg);(try simp -implicitDefEqProofs (disch:=first|omega|decide) only [seval, -Int.reducePow, -Nat.reducePow,cC,pv,Ao,Az,undef,ko,hg,g3])))
  refine Aa (fun w hw=>Kr _ _ w hr1 hr2) ?_
  try refine AR ?_
  all_goals (first|(simp [hg];done)|(simp [hg];omega))
 ·intro G4 L' _ hF
  obtain ⟨zq,AIO,rfl⟩:=hF
  have zg:=Bd.mk g3
  have g4:=And.intro (Bg zq) AIO
  refine k1 _ _ ?_
  replace zg:=Bd.mk g4
  refine Dl (fun hc=>?_) fun hc=>?_
  ·refine BH ?_
   refine AP (Br fun w hw=>?_)
   have hF:Ex.F5 xs e=([],1):=by
    unfold Ex.F5
    rw [if_pos]
    rw [<-Ex.Gr]
    have:e.Og=true↔e.prop:=decide_eq_true_iff
    rw [<-this]
    simpa [Bool.or_eq_true] using hc
   exact ⟨none,0,0,by rw [hF],by rw [hF];exact World.ownsRow_nil _ _ _ _,hw.below⟩
  ·refine AO ?_
   try simp only [BJ,BX]
   simp only [Bool.or_eq_false_iff,Bool.not_eq_false'] at hc
   obtain ⟨hv,hp⟩:=hc
   have hv:=(Ex.Gr xs).1 hv
   have U8:e.prop:=decide_eq_true_iff.1 hp
   have hp:=(dK e).1 hp
   refine k0 _ _ ?_
   refine AB fun K k0=>?_
   refine BH ?_
   refine AV [0,3,6] fun G5 g5=>?_
   replace g5:=Bg g5
   refine Ad ?_
   refine BP (fun F' L' => ∃k:Nat,Az F' G5 [0,3]/\F' 6 = .int .i64 (k:Int)/\L'=[Jw b e]/\k<=n∧∀j,j<k→¬((Ex.get xs j).off<e.end_/\e.off<(Ex.get xs j).end_)) (fun F' L'=>n-(intOf (F' 6)).toNat) ?_ ?_
   ·refine ⟨0, ?_⟩
    replace zg:=Bd.mk g5
    refine AR ?_
    exact ⟨by omega,fun j hj=>by omega⟩
   ·intro G6 L' hI
    obtain ⟨k,zq,Jq,rfl,⟨hk,hno⟩⟩:=hI
    replace zg:=Bd.mk g5
    have g6:=And.intro (Bg zq) Jq
    refine AB fun K k1=>?_
    replace zg:=Bd.mk (And.intro g5 g6)
    refine BH ?_
    refine Dl (fun hc=>?_) fun hc=>?_
    ·refine AO ?_
     try simp only [BJ,BX]
     have hlt:k<n:=by simpa using hc
     obtain ⟨b0,off,rfl,hb0, -⟩:=hE.cells (by omega)
     have hx:=(hv k (by rw [hE.len];omega)).1
     refine k1 _ _ ?_
     refine AB fun K k1=>?_
     refine Ad ?_
     refine AB fun K k2=>?_
     refine BR [(true,0),(true,1),(true,2),(true,3),(true,4),(false,5)] [5] CB rfl (by kernel_rfl) (by kernel_rfl) rfl rfl ?_
     refine AR ?_
     refine Aj (hE.ld hlt) ?_
     refine AR ?_
     refine Aa (fun w hw=>dS (Ex.get xs k) e w hx U8) ?_
     try refine AR ?_
     refine k2 _ _ ?_
     refine Dl (fun hc=>?_) fun hc=>?_
     ·refine BH ?_
      refine AP (Br fun w hw=>?_)
      obtain ⟨i,hA⟩:∃i,vV xs e.off i:=U1 hv e.off
      have hai:Ex.R5 xs e.off=i:=Ex.Uz hA.1 hA.2.1 (fun h=>hA.2.2 i (Nat.le_refl _) h)
      have hF:Ex.F5 xs e=([],5):=by
       unfold Ex.F5
       rw [if_neg (by rintro (h|h);exact h hv;exact h U8),hai,if_pos (k_ hv hA (k:=k) (by rw [hE.len];exact hlt) (of_decide_eq_true hc))]
      exact ⟨none,0,0,by rw [hF],by rw [hF];exact World.ownsRow_nil _ _ _ _,hw.below⟩
     ·refine AO (k1 _ _ ?_)
      refine AF rfl ?_
      refine Ap @Ae ?_
      refine ⟨⟨k+1, ?_⟩, ?_⟩
      ·refine Ap @Int.natCast_add ?_
       refine ⟨by omega,fun j hj=>?_⟩
       by_cases hjk:j=k
       ·subst hjk;exact of_decide_eq_false hc
       ·exact hno j (by omega)
      ·simp only [intOf];omega
    ·refine BM (k0 _ _ ?_)
     have hnk:n=k:=by have:=of_decide_eq_false hc;omega
     subst hnk
     obtain ⟨i,hA⟩:∃i,vV xs e.off i:=U1 hv e.off
     have hai:Ex.R5 xs e.off=i:=Ex.Uz hA.1 hA.2.1 (fun h=>hA.2.2 i (Nat.le_refl _) h)
     have AC6:¬(i<xs.length/\(Ex.get xs i).off<e.end_):=fun h=>hno i (by rw [<-hE.len];exact h.1) ⟨h.2,hA.2.2 i (Nat.le_refl _) h.1⟩
     obtain ⟨f1,e1,hf1⟩:∃f1 e1,Ex.J6 xs e i=(f1,e1):=⟨_,_,rfl⟩
     obtain ⟨l2,e2,hf2⟩:∃l2 e2,Ex.JV xs e1 i=(l2,e2):=⟨_,_,rfl⟩
     have hL1:=kZ hA.1 hv U8 hf1
     have hR1:=dL hv hL1.1 hf2
     have hlf:=kg hA.1 hf2
     have hst:=fun k (hk:k<xs.length)=>ky hv U8 hA AC6 hf1 hf2 hk
     have hF:Ex.F5 xs e=(xs.take f1++([e2]++xs.drop l2),0):=by
      unfold Ex.F5
      rw [if_neg (by rintro (h|h);exact h hv;exact h U8),hai,if_neg AC6,hf1,hf2]
     have hend:Ex.iE e e1 e2 f1 i n=e2/\f1<=n:=by
      have h1:=hA.1
      rw [hE.len] at h1
      have h3:=hL1.2
      refine ⟨?_,by omega⟩
      unfold Ex.JV at hf2
      unfold Ex.J6 at hf1
      unfold Ex.iE
      split
      ·split at hf2
       ·rename_i hc;have:=hc.1;rw [hE.len] at this;omega
       ·injection hf2 with _ h
        split at hf1
        ·injection hf1 with h' _;omega
        ·injection hf1 with _ h';rw [<-h,<-h']
      ·split
       ·split at hf2
        ·rename_i hc;have:=hc.1;rw [hE.len] at this;omega
        ·injection hf2 with _ h
       ·rfl
     refine BH ?_
     refine AB fun K k0=>?_
     refine BH ?_
     refine AV [0,3,7,8,9] fun G7 g7=>?_
     replace g7:=Bg g7
     refine D5 103 2 ?_
     refine D5 103 2 ?_
     refine Ad ?_
     refine BP (fun F' L' => ∃(k:Nat) (A7:Option Addr) (n7 c7:Nat) (A8:Option Addr) (n8 c8:Nat),Az F' G7 [0,3]/\F' 7 = .slice A7 n7 c7/\F' 8 = .slice A8 n8 c8/\F' 9 = .int .i64 (k:Int)/\L'=[.row (.slice A7 n7 c7) 103 2 n7 (Bn (Ex.iL xs f1 k)),.row (.slice A8 n8 c8) 103 2 n8 (Bn (Ex.iR xs l2 k)),Jw b (Ex.iE e e1 e2 f1 i k)]/\k<=n/\n7<=k/\n8<=k) (fun F' L'=>n-(intOf (F' 9)).toNat) ?_ ?_
     ·refine ⟨0,none,0,0,none,0,0, ?_⟩
      have z1:Ex.iE e e1 e2 f1 i 0=e:=by unfold Ex.iE;rw [if_pos (Nat.zero_le _)]
      have z2:Ex.iL xs f1 0=[]:=by unfold Ex.iL;simp
      have z3:Ex.iR xs l2 0=[]:=MO (Nat.zero_le _)
      replace zg:=Bd.mk (And.intro g5 (And.intro g6 g7))
      refine Ap (And.intro z1 (And.intro z2 z3)) ?_
      exact ⟨rfl,by omega⟩
     ·intro G8 L' hI
      obtain ⟨k,A7,n7,c7,A8,n8,c8,zq,Lv,QU,aa,rfl,⟨hk,h7,h8⟩⟩:=hI
      replace zg:=Bd.mk g7
      have g8:=And.intro (Bg zq) (And.intro Lv (And.intro QU aa))
      refine AB fun K k1=>?_
      replace zg:=Bd.mk (And.intro g5 (And.intro g6 (And.intro g7 g8)))
      refine BH ?_
      refine Dl (fun hc=>?_) fun hc=>?_
      ·refine AO ?_
       try simp only [BJ,BX]
       have hlt:k<n:=by simpa using hc
       obtain ⟨b0,off,rfl,hb0, -⟩:=hE.cells (by omega)
       have hst:=hst k (by rw [hE.len];exact hlt)
       have hx:0<=(Ex.get xs k).off/\0<(Ex.get xs k).len/\(Ex.get xs k).off+(Ex.get xs k).len<=1048576:=CZ hv (show k<xs.length by rw [hE.len];exact hlt)
       have hbe:0<=(Ex.iE e e1 e2 f1 i k).off/\0<(Ex.iE e e1 e2 f1 i k).len/\(Ex.iE e e1 e2 f1 i k).off+(Ex.iE e e1 e2 f1 i k).len<=1048576:=og U8 hL1.1 hR1
       refine k1 _ _ ?_
       refine AB fun K k1=>?_
       obtain ⟨x,vW⟩:∃x,Ex.get xs k=x:=⟨_,rfl⟩
       obtain ⟨E,hEE⟩:∃E,Ex.iE e e1 e2 f1 i k=E:=⟨_,rfl⟩
       refine A9 (fun _ _=>True) (fun F' L' => ∃(A7:Option Addr) (n7 c7:Nat) (A8:Option Addr) (n8 c8:Nat),Az F' G8 [0,3,9]/\F' 7 = .slice A7 n7 c7/\F' 8 = .slice A8 n8 c8/\L'=[.row (.slice A7 n7 c7) 103 2 n7 (Bn (Ex.iL xs f1 (k+1))),.row (.slice A8 n8 c8) 103 2 n8 (Bn (Ex.iR xs l2 (k+1))),Jw b (Ex.iE e e1 e2 f1 i (k+1))]/\n7<=k+1/\n8<=k+1) ?_ ?_
       ·rw [hEE]
        rw [vW] at hx
        rw [hEE] at hbe
        refine Ad ?_
        refine AQ rfl fun K k2=>?_
        refine AR ?_
        refine Aj (hE.ld hlt) ?_
        refine AR ?_
        intro b4 hb4 h4
        rw [vW]
        refine k2 _ _ ?_
        refine AV [0,3,7,8,9,10] fun G9 g9=>?_
        replace g9:=Bg g9
        refine Ad ?_
        replace zg:=Bd.mk (And.intro g5 (And.intro g6 (And.intro g7 (And.intro g8 g9))))
        refine FP @Ae ?_
        refine Dl (fun hc=>?_) fun hc=>?_
        ·have ha:=of_decide_eq_true hc
         refine BG [1,2,3] (by decide) ?_
         refine AU rfl ?_
         refine Ap @Ae ?_
         obtain ⟨q1,q2,q3⟩:Ex.iE e e1 e2 f1 i (k+1)=⟨x.off,x.len+E.len⟩/\Ex.iL xs f1 (k+1)=Ex.iL xs f1 k/\Ex.iR xs l2 (k+1)=Ex.iR xs l2 k:=by
          cases hst<;>simp_all [Ext.end_]<;>omega
         exact ⟨_,_,_,_,_,_,rfl,rfl,by rw [q1,q2,q3],by omega,by omega⟩
        ·have ha:=of_decide_eq_false hc
         refine FP @Ae ?_
         refine Dl (fun hc=>?_) fun hc=>?_
         ·have ha2:=of_decide_eq_true hc
          refine BG [1,2,3] (by decide) ?_
          refine AU rfl ?_
          refine Ap @Ae ?_
          obtain ⟨q1,q2,q3⟩:Ex.iE e e1 e2 f1 i (k+1)=⟨E.off,E.len+x.len⟩/\Ex.iL xs f1 (k+1)=Ex.iL xs f1 k/\Ex.iR xs l2 (k+1)=Ex.iR xs l2 k:=by
           cases hst<;>simp_all [Ext.end_]<;>omega
          exact ⟨_,_,_,_,_,_,rfl,rfl,by rw [q1,q2,q3],by omega,by omega⟩
         ·have ha2:=of_decide_eq_false hc
          refine FP @Ae ?_
          refine Dl (fun hc=>?_) fun hc=>?_
          ·have ha3:=of_decide_eq_true hc
           refine BG [0,3,4] (by decide) ?_
           refine AU rfl ?_
           refine AR ?_
           intro b5 hb5 h5
           refine Bj 2 Ie rfl (fun w hw=>Bp (size:=2) (.head _) rfl hw) rfl (by omega) (by omega) ?_
           intro A' c' hl _
           refine AR ?_
           obtain ⟨q1,q2,q3⟩:Ex.iE e e1 e2 f1 i (k+1)=E/\Ex.iL xs f1 (k+1)=Ex.iL xs f1 k++[x]/\Ex.iR xs l2 (k+1)=Ex.iR xs l2 k:=by
            cases hst<;>simp_all [Ext.end_]<;>omega
           exact ⟨_,_,_,_,_,_,rfl,rfl,by rw [q1,q2,q3,FD],by omega,by omega⟩
          ·have ha3:=of_decide_eq_false hc
           refine BG [3,0,4] (by decide) ?_
           refine AU rfl ?_
           refine AR ?_
           intro b5 hb5 h5
           refine Bj 3 Ie rfl (fun w hw=>Bp (size:=2) (.head _) rfl hw) rfl (by omega) (by omega) ?_
           intro A' c' hl _
           refine AR ?_
           obtain ⟨q1,q2,q3⟩:Ex.iE e e1 e2 f1 i (k+1)=E/\Ex.iL xs f1 (k+1)=Ex.iL xs f1 k/\Ex.iR xs l2 (k+1)=Ex.iR xs l2 k++[x]:=by
            cases hst<;>simp_all [Ext.end_]<;>omega
           exact ⟨_,_,_,_,_,_,rfl,rfl,by rw [q1,q2,q3,FD],by omega,by omega⟩
       ·intro pW L' _ hF
        obtain ⟨A7,n7,c7,A8,n8,c8,zq,Lv,QU,rfl,⟨h7,h8⟩⟩:=hF
        have g10:=And.intro (Bg zq) (And.intro Lv QU)
        refine k1 _ _ ?_
        refine AF rfl ?_
        replace zg:=Bd.mk (And.intro g5 (And.intro g6 (And.intro g7 (And.intro g8 g10))))
        refine Ap @Ae ?_
        refine ⟨⟨k+1,A7,n7,c7,A8,n8,c8, ?_⟩, ?_⟩
        ·refine Ap @Int.natCast_add ?_
         exact ⟨by omega,by omega,by omega⟩
        ·simp only [intOf];omega
      ·refine BM (k0 _ _ ?_)
       have hnk:n=k:=by have:=of_decide_eq_false hc;omega
       subst hnk
       have hEL:Ex.iL xs f1 n=xs.take f1:=by unfold Ex.iL;rw [Nat.min_eq_right hend.2]
       have hER:Ex.iR xs l2 n=xs.drop l2:=by unfold Ex.iR;rw [<-hE.len,List.take_length]
       rw [hend.1,hEL,hER]
       refine AQ rfl fun K k0=>?_
       refine AR ?_
       intro b5 hb5 h5
       refine Bj 1 Ie rfl (fun w hw=>Bp (size:=2) (.head _) rfl hw) rfl (by omega) (by omega) ?_
       intro A5 c5 hl5 _
       refine AR ?_
       refine Bj 0 Ie rfl (fun w hw=>EU (.tail _ (.tail _ (.head _))) hw) (He _) (by omega) (by omega) ?_
       intro A6 c6 hl6 _
       refine AR ?_
       refine k0 _ _ ?_
       refine AP (Br fun w hw=>?_)
       have e5:Bn (xs.take f1++([e2]++xs.drop l2))=Bn (xs.take f1)++[.int .i64 e2.off,.int .i64 e2.len]++Bn (xs.drop l2):=by simp [Bn]
       exact ⟨A6,_,c6,by rw [hF],by rw [hF];dsimp only;rw [e5];exact Ic (hw.holds _ (.head _)) (hw.own _ (.head _)),hw.below⟩
theorem lX:(Tryz.prog.info? 3).map (fun i=>(i.zero,i.size,i.bytes))=some (some (.int .i64 0),1,8):=by kernel_rfl
def Hl (k:Nat):List Value:=(List.range k).map fun j=>.int .i64 (Sz.sz j)
theorem J8 (k:Nat):Hl (k+1)=Hl k++[.int .i64 (Sz.sz k)]:=by simp [Hl,List.range_succ]
theorem uq:∀k,8<=k->k<12->(256<=Sz.sz k/\Sz.sz k<=2048)/\Sz.sz (k+1)=2*Sz.sz k:=by
 intro k h1 h2
 have:k=8\/k=9\/k=10\/k=11:=by omega
 rcases this with rfl|rfl|rfl|rfl<;>decide
theorem o_ (k:Nat) (h1:12<=k) (h2:k<43):(4096<=Sz.sz k/\Sz.sz k<=65536)/\Sz.sz (k+1)=Sz.sz k+2048:=by
 unfold Sz.sz
 rw [if_neg (by omega),if_neg (by omega),if_neg (by omega),if_neg (by omega)]
 omega
theorem Zu (w:World):Calls Tryz.prog 125 #[] w fun e w' => ∃g cap,e = .returned (.slice (some ⟨g,0,none⟩) 43 cap)/\w'.ownsRow w.heap.size 3 1 (.slice (some ⟨g,0,none⟩) 43 cap) 43 (Hl 43)/\Below w.heap.size w w':=by
 obtain ⟨i0,hi,hz0,hz1,hz2⟩:=info_parts lX
 go_enter Tryz.func125,Tryz.ntmps125
 go_wp2
 go_loopw [1,2] (fun v n wr => ∃k:Nat,k<=8/\n = .int .i64 (16*((k:Int)+1))/\wr.ownsRow w.heap.size 3 1 v k (Hl k)/\Below w.heap.size w wr) (fun _ n _=>200-(intOf n).toNat)
 case atStart=>exact ⟨0,by omega,rfl,World.ownsRow_nil _ _ _ _,Below.refl _ _⟩
 case round =>
  obtain ⟨k,hk,rfl,hown,hB⟩:=hrel
  by_cases hlt:k<8
  ·have hs:16*((k:Int)+1)=Sz.sz k:=by unfold Sz.sz;rw [if_pos hlt]
   have H:=Lib.hid hs
   clear hs
   go_wp2_with (at_builtin;go_must (refine Fu _ rfl _ _ _ rfl w.heap.size 3 i0 _ 1 8 Tryz.underlying48 hi hz0 hz1 hz2 rfl (by omega) _ k _ rfl (hown.alloc _) (wr.heap.size+1) _ 1 1 [.int .i64 (16*((k:Int)+1))] rfl (NS wr _ _ 1 1 rfl _ (by omega)) (by simp [Value.oneCell']) (by simp only [maxLen];omega) (by omega) (by have:=hB.size;simp;omega) ?_);intro v1 w1 hown1 hg1 AC7)
   go_roundw
   case rel=>exact ⟨k+1,by omega,by go_num,by rw [J8,<-H.out];exact hown1,(hB.alloc hB.size _).grown hg1 (by have:=hB.size;simp;omega) (fun j hj=>(hown.lt j hj).1)⟩
   case measure=>simp [intOf];omega
  ·obtain ⟨N,hN⟩:∃N:Int,N=16*((k:Int)+1):=⟨_,rfl⟩
   rw [<-hN]
   obtain rfl:k=8:=by omega
   have hN2:128<N:=by omega
   clear hk hN
   go_wp2
   go_loopw [1,3] (fun v n wr => ∃k:Nat,8<=k/\k<=12/\n = .int .i64 (Sz.sz k)/\wr.ownsRow w.heap.size 3 1 v k (Hl k)/\Below w.heap.size w wr) (fun _ n _=>4096-(intOf n).toNat)
   case atStart=>exact ⟨8,by omega,by omega,rfl,hown,hB⟩
   case round =>
    clear hown hB
    obtain ⟨k,hk1,hk2,rfl,hown,hB⟩:=hrel
    by_cases hlt:k<12
    ·have hb:=uq k hk1 hlt
     have H:=Lib.hid hb.2
     have hb1:=hb.1
     clear hb
     go_wp2_with (at_builtin;go_must (refine Fu _ rfl _ _ _ rfl w.heap.size 3 i0 _ 1 8 Tryz.underlying48 hi hz0 hz1 hz2 rfl (by omega) _ k _ rfl (hown.alloc _) (wr.heap.size+1) _ 1 1 [.int .i64 (Sz.sz k)] rfl (NS wr _ _ 1 1 rfl _ (by omega)) (by simp [Value.oneCell']) (by simp only [maxLen];omega) (by omega) (by have:=hB.size;simp;omega) ?_);intro v1 w1 hown1 hg1 AC7)
     go_roundw
     case rel=>exact ⟨k+1,by omega,by omega,by rw [H.out],by rw [J8];exact hown1,(hB.alloc hB.size _).grown hg1 (by have:=hB.size;simp;omega) (fun j hj=>(hown.lt j hj).1)⟩
     case measure=>simp [intOf];omega
    ·obtain rfl:k=12:=by omega
     clear hk1 hk2
     have hsz:Sz.sz 12=4096:=by decide
     have hsz':2048<Sz.sz 12:=by rw [hsz];decide
     clear hsz
     go_wp2
     go_loopw [1,4] (fun v n wr => ∃k:Nat,12<=k/\k<=43/\n = .int .i64 (Sz.sz k)/\wr.ownsRow w.heap.size 3 1 v k (Hl k)/\Below w.heap.size w wr) (fun _ n _=>70000-(intOf n).toNat)
     case atStart=>exact ⟨12,by omega,by omega,rfl,hown,hB⟩
     case round =>
      clear hown hB
      obtain ⟨k,hk1,hk2,rfl,hown,hB⟩:=hrel
      by_cases hlt:k<43
      ·have hb:=o_ k hk1 hlt
       have H:=Lib.hid hb.2
       have hb1:=hb.1
       clear hb
       go_wp2_with (at_builtin;go_must (refine Fu _ rfl _ _ _ rfl w.heap.size 3 i0 _ 1 8 Tryz.underlying48 hi hz0 hz1 hz2 rfl (by omega) _ k _ rfl (hown.alloc _) (wr.heap.size+1) _ 1 1 [.int .i64 (Sz.sz k)] rfl (NS wr _ _ 1 1 rfl _ (by omega)) (by simp [Value.oneCell']) (by simp only [maxLen];omega) (by omega) (by have:=hB.size;simp;omega) ?_);intro v1 w1 hown1 hg1 AC7)
       go_roundw
       case rel=>exact ⟨k+1,by omega,by omega,by rw [H.out],by rw [J8];exact hown1,(hB.alloc hB.size _).grown hg1 (by have:=hB.size;simp;omega) (fun j hj=>(hown.lt j hj).1)⟩
       case measure=>simp [intOf];omega
      ·obtain rfl:k=43:=by omega
       have hsz:65536<Sz.sz 43:=by decide
       obtain ⟨g,cap,rfl⟩:=ownsRow_succ (k:=42) hown
       go_wp2
       go_ret
       exact ⟨g,cap,rfl,hown,hB⟩
theorem Oj {k:Nat} (h:k<43):(Hl 43)[k]? = some (.int .i64 (Sz.sz k)):=by simp [Hl,h]
theorem Xn {w:World} {base e g n cap:Nat} {xs:List Value} (h:w.ownsRow base e 1 (.slice (some ⟨g,0,none⟩) n cap) n xs) {j:Nat} {u:Value} (hu:xs[j]? = some u):w.cell? ⟨g,j,none⟩=some u:=by
 have:=h.cells (g:=g) rfl j u hu
 have e:(⟨g,0,none⟩:Addr).add j=⟨g,j,none⟩:=by unfold Addr.add;split<;>simp_all
 rwa [e] at this
theorem dU (x:Int) (w:World) (hx:x<1\/65536<x):Calls Tryz.prog 124 #[.int .i64 x] w fun e w'=>e = .returned (.tuple #[.int .i64 (Sz.rD x),.int .i64 (Sz.err x)])/\Below w.heap.size w w':=by
 rcases hx with hx|hx
 ·have H:Sz.rD x=0/\Sz.err x=1:=by unfold Sz.rD Sz.err;rw [if_pos hx,if_pos hx];exact ⟨rfl,rfl⟩
  rw [H.1,H.2]
  clear H
  go_enter Tryz.func124,Tryz.ntmps124
  go_wp2
  go_ret2
  exact ⟨rfl,Below.refl _ _⟩
 ·have hn:¬x<1:=by omega
  have H:Sz.rD x=0/\Sz.err x=4:=by unfold Sz.rD Sz.err;rw [if_neg hn,if_pos hx,if_neg hn,if_pos hx];exact ⟨rfl,rfl⟩
  rw [H.1,H.2]
  clear H
  go_enter Tryz.func124,Tryz.ntmps124
  go_wp2
  go_ret2
  exact ⟨rfl,Below.refl _ _⟩
theorem RI (x:Int) (w:World) (h1:1<=x) (h2:x<=65536):Calls Tryz.prog 124 #[.int .i64 x] w fun e w'=>e = .returned (.tuple #[.int .i64 (Sz.cls x),.int .i64 0])/\Below w.heap.size w w':=by
 obtain ⟨hc1,hc2,hc3⟩:=Sz.RH h2
 have d1:decide (x<1)=false:=by simp;omega
 have d2:decide (65536<x)=false:=by simp;omega
 obtain ⟨c,hc⟩:∃c,Sz.cls x=c:=⟨_,rfl⟩
 rw [hc] at hc1 hc2 hc3 ⊢
 clear hc
 have HC:=Lib.hid hc3
 clear hc3
 go_enter Tryz.func124,Tryz.ntmps124
 go_wp2_with (go_at_call 125;refine (Zu _).mono ?_;rintro e w1 ⟨g,cap,rfl,hown,hb⟩)
 have HO:=Lib.hid hown
 clear hown
 go_loop [5] (fun i => ∃k:Nat,k<=c/\i = .int .i64 (k:Int)) (fun i=>43-(intOf i).toNat)
 case atStart=>exact ⟨0,by omega,rfl⟩
 case round =>
  obtain ⟨k,hk,rfl⟩:=hrel
  have hcell:=Xn HO.out (Oj (k:=k) (by omega))
  by_cases hlt:k<c
  ·have hs:=HC.out k hlt
   go_wp2
   go_round
   case rel=>exact ⟨k+1,by omega,by go_num⟩
   case measure=>simp [intOf];omega
  ·obtain rfl:k=c:=by omega
   go_wp2
   go_ret2
   exact ⟨rfl,hb⟩
theorem Yp (x:Int) (w:World):Calls Tryz.prog 124 #[.int .i64 x] w fun e w'=>e = .returned (.tuple #[.int .i64 (Sz.rD x),.int .i64 (Sz.err x)])/\Below w.heap.size w w':=by
 by_cases hx:x<1\/65536<x
 ·exact dU x w hx
 ·have H:Sz.rD x=Sz.cls x/\Sz.err x=0:=by
   unfold Sz.rD Sz.err
   rw [if_neg (by omega),if_neg (by omega),if_neg (by omega),if_neg (by omega)];exact ⟨rfl,rfl⟩
  rw [H.1,H.2]
  exact RI x w (by omega) (by omega)
theorem L_ (x:Int) (w:World):Calls Tryz.prog 90 #[.int .i64 x] w fun e w'=>e = .returned (.tuple #[.int .i64 (Sz.K6 x),.int .i64 (Sz.err x)])/\Below w.heap.size w w':=by
 by_cases hx:x<1\/65536<x
 ·have H:Sz.K6 x=0:=by
   unfold Sz.K6
   rcases hx with hx|hx
   ·rw [if_pos hx]
   ·rw [if_neg (by omega),if_pos hx]
  have he:(Sz.err x != 0)=true:=by
   unfold Sz.err
   rcases hx with hx|hx
   ·rw [if_pos hx];rfl
   ·rw [if_neg (by omega),if_pos hx];rfl
  rw [H]
  clear H hx
  go_enter Tryz.func90,Tryz.ntmps90
  go_wp2_with (go_at_call 124;refine (Yp _ _).mono ?_;rintro e w1 ⟨rfl,hb⟩)
  go_ret2
  exact ⟨rfl,hb⟩
 ·have H:Sz.K6 x=Sz.sz (Sz.cls x)/\Sz.err x=0:=by
   unfold Sz.K6 Sz.err
   rw [if_neg (by omega),if_neg (by omega),if_neg (by omega),if_neg (by omega)];exact ⟨rfl,rfl⟩
  rw [H.1,H.2]
  clear H
  obtain ⟨hc1,_⟩:=Sz.RH (n:=x) (by omega)
  have hcl:=RI x w (by omega) (by omega)
  obtain ⟨c,hc⟩:∃c,Sz.cls x=c:=⟨_,rfl⟩
  rw [hc] at hc1 hcl ⊢
  clear hc hx
  have HL:=Lib.hid hcl
  clear hcl
  go_enter Tryz.func90,Tryz.ntmps90
  go_wp2_with (go_at_call 124;refine HL.out.mono ?_;rintro e w1 ⟨rfl,hb⟩)
  refine (Zu _).mono ?_
  rintro e w2 ⟨g,cap,rfl,hown,hb2⟩
  have hcell:=Xn hown (Oj (k:=c) (by omega))
  clear hown
  go_wp2
  go_ret2
  exact ⟨rfl,hb.trans (hb2.mono hb.size)⟩
theorem Ex.Sw:∀(us s:List Ext),Ex.JX s->(∀e∈us,e.prop)->Ex.JX (us.foldl (fun s e=>(Ex.F5 s e).1) s)
 | [],s,h,_=>h
 | e::us,s,h,hp=>by
  refine Ex.Sw us _ ?_ fun x hx=>hp x (.tail _ hx)
  show Ex.JX (Ex.F5 s e).1
  rcases Ex.OG h (hp e (.head _)) with ⟨h1, -⟩|⟨-,h2, -⟩
  ·rw [h1]
   intro i hi
   simp at hi
  ·exact h2
theorem Ex.ZI {xs:List Ext} (h:Ex.JX xs) {i:Nat} (hi:i<xs.length) : -9223372036854775808<=(Ex.get xs i).len/\(Ex.get xs i).len<=9223372036854775807:=by
 have:=CZ h hi
 omega
structure Li where
 bM:Nat
 N:Int
 UA:Option Addr
 un:Nat
 uc:Nat
 us:List Ext
structure uu (w:World) (B:Nat) (y:Li):Prop where
 blk:Sl w B 1 (some ⟨y.bM,0,none⟩) 2 2 [.int .i64 y.N,.slice y.UA y.un y.uc]
 us:Di w B y.UA y.un y.uc y.us
 len:y.us.length<=100
 prop:∀e∈y.us,e.prop
section
variable {W w:World} {L:List Ai} {y:Li}
theorem uu.at (h:uu W W.heap.size y) (hw:St [] W L w):uu w w.heap.size y:=⟨h.blk.at hw,h.us.at hw,h.len,h.prop⟩
theorem uu.lt {w:World} {B:Nat} (h:uu w B y):y.bM<B:=by
 obtain ⟨b',o',e,hb, -⟩:=h.blk.cells (by omega)
 cases e
 exact hb
end
def Ex.UN (n:Int) (l:List Ext):Int×Bool:=if (Ex.Gv n l).len=0 then (0,false) else ((Ex.Gv n l).off,true)
structure PlI (n:Int) (l:List Ext) (i:Nat) (b:Int):Prop where
 is:(b = -1/\Ex.Gv n (l.take i)=⟨0,0⟩)∨∃k:Nat,b=(k:Int)/\k<i/\Ex.get l k=Ex.Gv n (l.take i)
theorem WB {n:Int} {fr:List Ext} (h:Sz.err n=0):(Ex.findF fr n).2=(if (Ex.UN (Sz.K6 n) fr).2 then 0 else 18)/\((Ex.findF fr n).2=0->(Ex.findF fr n).1=⟨(Ex.UN (Sz.K6 n) fr).1,Sz.K6 n⟩):=by
 unfold Ex.findF Ex.UN
 rw [if_pos h]
 split
 ·exact ⟨rfl,fun h=>by cases h⟩
 ·exact ⟨rfl,fun _=>rfl⟩
section
variable {M:List Nat} {W w:World} {L:List Ai} {y:Li} {T:TypeId} {rest:List Value}
theorem uu.of (hw:St M W L w) (i k:Nat) (hi:nth L i=some (.blk y.bM T (.int .i64 y.N :: .slice y.UA y.un y.uc::rest)))
  (hk:nth L k=some (.row (.slice y.UA y.un y.uc) 103 2 y.un (Bn y.us))) (hl:y.us.length<=100) (hp:∀e∈y.us,e.prop):uu w w.heap.size y:=by
 have hm:=AZ hi
 refine ⟨⟨by simp,by omega,by omega,fun _=>⟨_,_,rfl,(hw.own _ hm y.bM (by simp [Ai.foot])).2,fun j u hu=>?_⟩⟩,Di.Av hw (AZ hk),hl,hp⟩
 rw [hw.Dz hm,Nat.zero_add]
 match j,hu with
 | 0,hu=>exact hu
 | 1,hu=>exact hu
 | j+2,hu=>simp at hu
end
theorem WE {us:List Ext} {e:Ext} {i:Nat} (h:i<us.length):(us.take (i+1)).filter (fun x=>decide (x≠e))=(us.take i).filter (fun x=>decide (x≠e))++(if Ex.get us i=e then [] else [Ex.get us i]):=by
 rw [List.take_add_one,List.getElem?_eq_getElem h,<-Ex.get_eq h]
 simp only [Option.toList_some,List.filter_append]
 congr 1
 by_cases hc:Ex.get us i=e
 ·simp [hc]
 ·simp [hc]
end Go.Proofs.YtegonkdandmolaaGreat
