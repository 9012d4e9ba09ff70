import Derived.Test.YtegonkdandmolaaGreatDlays14
import Derived.Test.YtegonkdandmolaaGreatDlays6
set_option linter.unusedVariables false
set_option linter.unusedSimpArgs false
set_option maxRecDepth 100000
set_option maxHeartbeats 4000000
namespace Go.Proofs.YtegonkdandmolaaGreat
open Go.RowKit Go.Shelf
theorem Nn {α:Type} [DecidableEq α]:∀ {l m:List α},l.Nodup->(∀x∈l,x∈m)->l.length<=m.length
 | [],m,_,_=>Nat.zero_le _
 | a::l,m,hn,h=>by
  have ha:=h a (.head _)
  have hn2:=List.nodup_cons.1 hn
  have h1:=Nn (l:=l) (m:=m.erase a) hn2.2 fun x hx=>(List.mem_erase_of_ne (fun e=>hn2.1 (by rw [<-e];exact hx))).2 (h x (.tail _ hx))
  have h2:=List.length_erase_of_mem ha
  have h3:0<m.length:=List.length_pos_of_mem ha
  rw [List.length_cons]
  omega
structure RS (l:List Sh):Prop where
 nd:(l.map Sh.p).Nodup
 rg:∀s∈l,1<=s.p/\s.p<=64
theorem RS.len {l:List Sh} (h:RS l):l.length<=64:=by
 have h1:=Nn (m:=(List.range 64).map fun i:Nat=>(i:Int)+1) h.nd fun v hv=>by
  obtain ⟨s,hs,rfl⟩:=List.mem_map.1 hv
  have:=h.rg s hs
  exact List.mem_map.2 ⟨(s.p-1).toNat,List.mem_range.2 (by omega),by omega⟩
 simpa using h1
theorem RS.nil:RS []:=⟨List.nodup_nil,fun s hs=>by cases hs⟩
theorem RS.set {l:List Sh} (h:RS l) {p:Int} (q:Qu) (hp:1<=p/\p<=64):RS (QH l p q):=by
 unfold QH
 refine ⟨?_,fun s hs=>?_⟩
 ·rw [List.map_append,List.nodup_append]
  refine ⟨(List.filter_sublist.map _).nodup h.nd,by simp,fun a ha b hb e=>?_⟩
  obtain ⟨s,hs,rfl⟩:=List.mem_map.1 ha
  have h2:=(List.mem_filter.1 hs).2
  simp [pV] at h2
  simp at hb
  exact h2 (e.trans hb)
 ·cases List.mem_append.1 hs with
  | inl h1=>exact h.rg s (List.mem_filter.1 h1).1
  | inr h1=>rw [List.mem_singleton.1 h1];exact hp
theorem RS.add {l:List Sh} (h:RS l) {lim:Qu} {p:Int} (q:Qu) (hp:1<=p/\p<=64):RS (I6 lim l p q).2:=by
 unfold I6
 split
 ·exact h
 ·exact h.set _ hp
theorem RS.sub {l:List Sh} (h:RS l) {p:Int} (q:Qu) (hp:1<=p/\p<=64):RS (GI l p q).2:=by
 unfold GI
 split
 ·exact h
 ·exact h.set _ hp
theorem RS.tL {l:List Sh} (h:RS l) (p:Int) {q:Qu} (hq:0<q.qo\/0<q.qr):RS (GI l p q).2:=by
 by_cases hl:OW (Hd l p) q=true
 ·unfold GI;rw [if_pos hl];exact h
 ·refine h.sub q ?_
  unfold Hd at hl
  cases hf:l.find? (pV p) with
  | none =>
   rw [hf] at hl
   simp [OW] at hl
   omega
  | some s =>
   have h1:=h.rg s (List.mem_of_find?_eq_some hf)
   have h2:=List.find?_some hf
   simp [pV] at h2
   rw [<-h2]
   exact h1
theorem RS.FW {l:List Sh} (h:RS l):∀bs:List Bw,RS (Go.Proofs.YtegonkdandmolaaGreat.FW l bs):=by
 intro bs
 induction bs generalizing l with
 | nil=>exact h
 | cons b bs ih=>exact ih (h.tL b.ho (q:=Q1) (.inr (by decide)))
structure TbF (x:Ez):Prop where
 fr:∀s:Nat,(s:Int)∈x.s.DC->B_ x.s s=false/\EC x.s s<4294967295
 nd:x.s.DC.Nodup
 fi:1<=x.s.first
theorem Wh {l:List Bool} {s:Nat} {b:Bool} (t:Nat):((l.set s b)[t]?).getD false=if t=s/\s<l.length then b else (l[t]?).getD false:=by
 by_cases h:t=s
 ·subst h
  by_cases h2:t<l.length
  ·rw [if_pos ⟨rfl,h2⟩,List.getElem?_set_self h2];rfl
  ·rw [if_neg (fun hn=>h2 hn.2),List.set_eq_of_length_le (by omega)]
 ·rw [if_neg (fun hn=>h hn.1),List.getElem?_set_ne (Ne.symm h)]
theorem nW (h:Nat):F4 h<4294967296:=Nat.mod_lt _ (by omega)
def Qf (x:Ez) (s:Nat):Ext:=⟨(Ba x s).off,(Ba x s).len⟩
theorem YL {l:List Int} {i:Nat} {v:Int} (hn:l.Nodup) (hi:l[i]? = some v):(Gh l i).Nodup∧∀u∈Gh l i,u∈l/\u≠v:=by
 obtain ⟨hil,hv⟩:=List.getElem?_eq_some_iff.1 hi
 obtain ⟨m,a,rfl⟩:∃m a,l=m++[a]:=⟨l.dropLast,l.getLast (by intro h;rw [h] at hil;simp at hil),(List.dropLast_concat_getLast _).symm⟩
 rw [List.length_append,List.length_singleton] at hil
 have hna:=List.nodup_append.1 hn
 have hlast:(((m++[a])[(m++[a]).length-1]?).getD 0)=a:=by simp
 unfold Gh
 rw [hlast]
 by_cases h:i<m.length
 ·have h1:((m++[a]).set i a).take ((m++[a]).length-1)=m.set i a:=by
   rw [List.set_append_left _ _ h]
   simp
  rw [h1]
  have hmi:m[i]=v:=by rw [List.getElem_append_left h] at hv;exact hv
  have hsp:m=m.take i++v::m.drop (i+1):=by rw [<-hmi,List.getElem_cons_drop,List.take_append_drop]
  have hset:m.set i a=m.take i++a::m.drop (i+1):=by rw [List.set_eq_take_append_cons_drop,if_pos h]
  rw [hset]
  have hnm:=hna.1
  rw [hsp] at hnm
  have h2:=List.nodup_append.1 hnm
  have h3:=List.nodup_cons.1 h2.2.1
  have hv1:v∉m.take i:=fun hm=>h2.2.2 v hm v (.head _) rfl
  have ham:a∉m:=fun hm=>hna.2.2 a hm a (.head _) rfl
  have hmem:∀u,u∈m.take i++m.drop (i+1)->u∈m:=fun u hu=>by
   rcases List.mem_append.1 hu with h4|h4
   ·exact List.mem_of_mem_take h4
   ·exact List.mem_of_mem_drop h4
  refine ⟨?_,fun u hu=>?_⟩
  ·rw [List.nodup_append]
   refine ⟨h2.1,List.nodup_cons.2 ⟨fun hm=>ham (List.mem_of_mem_drop hm),h3.2⟩,fun x hx y hy e=>?_⟩
   subst e
   cases hy with
   | head=>exact ham (List.mem_of_mem_take hx)
   | tail _ hy=>exact h2.2.2 x hx x (.tail _ hy) rfl
  ·rcases List.mem_append.1 hu with h4|h4
   ·exact ⟨List.mem_append.2 (.inl (List.mem_of_mem_take h4)),fun e=>hv1 (e▸h4)⟩
   ·cases h4 with
    | head=>exact ⟨List.mem_append.2 (.inr (.head _)),fun e=>ham (e▸hmi▸List.getElem_mem h)⟩
    | tail _ h4=>exact ⟨List.mem_append.2 (.inl (List.mem_of_mem_drop h4)),fun e=>h3.1 (e▸h4)⟩
 ·have hie:i=m.length:=by omega
  subst hie
  have hva:a=v:=by simpa using hv
  have h1:((m++[a]).set m.length a).take ((m++[a]).length-1)=m:=by simp
  rw [h1]
  exact ⟨hna.1,fun u hu=>⟨List.mem_append.2 (.inl hu),fun e=>hna.2.2 u hu a (.head _) (e.trans hva.symm)⟩⟩
structure Dv (x:Aw) (k c:Nat):Prop where
 tb:K4 x.tb k
 te:vH x.tb
 sm:x.tb.en<=8
 tf:TbF x.tb
 l:x.l.length<=c
 lc:∀b∈x.l,1<=b.co/\b.co<=c
 Oa:RS x.mt
 PG:∀s∈x.mt,s.q.ok
 lim:x.lim.lim
 l5:x.lim.ok
 rm:∃fr tk,Ex.Inv x.N x.us fr tk
 ru:∀u∈x.us,∃s,B_ x.tb.s s=true/\u=Qf x.tb s
 bn:x.bn=x.tb.en
 bl:x.D8.length=x.bn
 ck:∀t∈x.Gw,I9 t.len t.fs=0
 tn:x.tn<=255
 tl:x.Gw.length=x.tn
 Ox:∀s,B_ x.tb.s s=true->iD x s
 el:x.tb.E.length=x.tb.en
theorem Dv.up {x:Aw} {k c k' c':Nat} (h:Dv x k c) (hk:k<=k') (hc:c<=c') (h2:k'≤10000):Dv x k' c' :=
 { h with tb:=h.tb.up hk h2,l:=Nat.le_trans h.l hc,lc:=fun b hb=>by have:=h.lc b hb;omega }
theorem Dv.Wi {x:Aw} {k c:Nat} (h:Dv x k c):x.us.length<=8:=by
 obtain ⟨fr,tk,hI⟩:=h.rm
 have hn:x.us.Nodup:=hI.apart.imp_of_mem (fun {a b} ha hb hab e=>by
  subst e
  have hp:=(hI.prop a ha).1
  have h1:Ex.IV a a.off:=⟨Int.le_refl _,by have:=hp.2;omega⟩
  exact hab _ h1 h1)
 have h1:=Nn (l:=x.us) (m:=(List.range x.tb.en).map (Qf x.tb)) hn fun u hu=>by
  obtain ⟨s,hs,rfl⟩:=h.ru u hu
  exact List.mem_map.2 ⟨s,List.mem_range.2 (nK h.tb hs),rfl⟩
 have:=h.sm
 simp at h1
 omega
theorem iD.same {x y:Aw} {s:Nat} (h:iD x s) (ht:(Ba y.tb s).tag=(Ba x.tb s).tag) (hb:y.D8[s]? = x.D8[s]?) (hy:y.Gw=x.Gw) (hn:y.tn=x.tn):iD y s:=by
 obtain ⟨lk,b2,h1,h2,h3⟩:=h
 refine ⟨?_,b2,hb.trans h1, ?_,h3⟩
 ·rw [ht];unfold Ro at lk ⊢;rw [hn];exact lk
 ·rw [ht];unfold PH at h2 ⊢;rw [hy];exact h2
theorem Dv.D8 {x:Aw} {k c:Nat} (h:Dv x k c) (y:Aw) (h1:y.tb=x.tb) (h2:y.D8=x.D8) (h3:y.Gw=x.Gw) (h4:y.tn=x.tn):∀s,B_ y.tb.s s=true->iD y s:=fun s hs=>(h.Ox s (by rw [<-h1];exact hs)).same (by rw [h1]) (by rw [h2]) h3 h4
theorem Dv.I7 {x:Aw} {k c:Nat} (h:Dv x k c) (i:df):Dv (x.I7 i) k c := { h with Ox:=h.D8 (x.I7 i) rfl rfl rfl rfl }
theorem Dv.ME {x:Aw} {k c:Nat} (h:Dv x k c) (i:nG) (ms:List Int):Dv (x.ME i ms) k c := { h with Ox:=h.D8 (x.ME i ms) rfl rfl rfl rfl }
theorem Dv.MC {x:Aw} {k c:Nat} (h:Dv x k c) (sv:List Int):Dv (x.MC sv) k c := { h with Ox:=h.D8 (x.MC sv) rfl rfl rfl rfl }
theorem Dv.CJ {x:Aw} {k c:Nat} (h:Dv x k c) (i:KS) (hk:RS i.l) (ho:∀s∈i.l,s.q.ok):Dv (x.CJ i) k c := { h with Oa:=hk,PG:=ho,Ox:=h.D8 (x.CJ i) rfl rfl rfl rfl }
theorem Dv.EP {x:Aw} {k c:Nat} (h:Dv x k c) (i:GJ) (hl:i.l.length<=c) (hc:∀b∈i.l,1<=b.co/\b.co<=c):Dv (x.EP i) k c := { h with l:=hl,lc:=hc,Ox:=h.D8 (x.EP i) rfl rfl rfl rfl }
theorem Dv.H_ {x:Aw} {k c:Nat} (h:Dv x k c) (z:Li) (hz:z.us=x.us):Dv (x.H_ z) k c := { h with Ox:=h.D8 (x.H_ z) rfl rfl rfl rfl,rm:=(show ∃fr tk,Ex.Inv x.N z.us fr tk from hz▸h.rm),ru:=(show ∀u∈z.us,_ from hz▸h.ru) }
theorem Dv.eqU {x y:Aw} {k c:Nat} (h:Dv x k c) (hy:EqU x y):Dv y k c:=by
 rcases hy with rfl|⟨z,rfl,hz⟩
 ·exact h
 ·exact h.H_ z hz
theorem Dv.eqM {x y:Aw} {k c:Nat} (h:Dv x k c) (hy:EqM x y):Dv y k c:=by
 rcases hy with rfl|⟨i,rfl,hi⟩
 ·exact h
 ·exact h.CJ i (hi▸h.Oa) (hi▸h.PG)
theorem Dv.eqB {x y:Aw} {k c:Nat} (h:Dv x k c) (hy:EqB x y):Dv y k c:=by
 rcases hy with rfl|⟨s,br,l,hs,hl,rfl⟩
 ·exact h
 ·refine { h with bl:=(show (x.D8.set s _).length=x.bn from by rw [List.length_set];exact h.bl),Ox:=fun t ht=>?_ }
  obtain ⟨lk,b2,h1,h2,h3⟩:=h.Ox t ht
  by_cases hts:t=s
  ·subst hts
   rw [hs] at h1
   cases h1
   exact ⟨lk,{ br with l:=l },List.getElem?_set_self (List.getElem?_eq_some_iff.1 hs).1,h2,h3⟩
  ·exact ⟨lk,b2,(List.getElem?_set_ne (Ne.symm hts)).trans h1,h2,h3⟩
theorem Ud {x:Aw} {k c:Nat} (h:Dv x k c) (s:Nat):(Ni (Ba x.tb s)).ok:=⟨⟨(h.te.len s).1,by have:=(h.te.len s).2;show (Ba x.tb s).len<=_;omega⟩,(by decide:(0:Int)<=1/\(1:Int)<=1099511627776),(by decide:(0:Int)<=0/\(0:Int)<=1099511627776)⟩
theorem iK:Q1.ok:=⟨(by decide:(0:Int)<=0/\(0:Int)<=1099511627776),(by decide:(0:Int)<=0/\(0:Int)<=1099511627776),(by decide:(0:Int)<=1/\(1:Int)<=1099511627776)⟩
theorem tN {S:Int} (h:0<=S/\S<=65536):(dw S).ok:=⟨(by show 0<=S/\S<=_;omega),(by decide:(0:Int)<=1/\(1:Int)<=1099511627776),(by decide:(0:Int)<=0/\(0:Int)<=1099511627776)⟩
theorem Dv.tO {x:Aw} {k c:Nat} (h:Dv x k c) {i:KS} {p:Int} {q:Qu} (hi:(i.r,i.l)=I6 x.lim x.mt p q) (hp:1<=p/\p<=64) (hq:q.ok):Dv (x.CJ i) k c:=by
 have h1:i.l=(I6 x.lim x.mt p q).2:=congrArg Prod.snd hi
 exact h.CJ i (h1▸h.Oa.add q hp) (YH h.l5 hq h.PG hi.symm).1
theorem Dv.tQ {x:Aw} {k c:Nat} (h:Dv x k c) {i:KS} {p:Int} {q:Qu} (hi:(i.r,i.l)=GI x.mt p q) (hp:(1<=p/\p<=64)\/0<q.qo\/0<q.qr) (hq:q.ok):Dv (x.CJ i) k c:=by
 have h1:i.l=(GI x.mt p q).2:=congrArg Prod.snd hi
 refine h.CJ i ?_ (QX hq h.PG hi.symm).1
 rw [h1]
 rcases hp with hp|hp
 ·exact h.Oa.sub q hp
 ·exact h.Oa.tL p hp
theorem Dv.give {x:Aw} {k c:Nat} (h:Dv x k c) {t:Ez} {o:Nat} {q:Int} (hr:Vw x.tb t o q):Dv (x.GY t) k c:=by
 have hk:=hr.k
 have hE:=hr.E
 have hen:∀s,(Ba t s).h=(Ba x.tb s).h/\(Ba t s).tag=(Ba x.tb s).tag/\(Ba t s).off=(Ba x.tb s).off/\(Ba t s).len=(Ba x.tb s).len:=by
  intro s
  by_cases hg:KQ x.tb o q=0
  ·rw [if_pos hg] at hE
   unfold Ba
   rw [hE]
   by_cases hs:s=Ac o
   ·subst hs
    by_cases hl:Ac o<x.tb.E.length
    ·rw [List.getElem?_set_self hl];exact ⟨rfl,rfl,rfl,rfl⟩
    ·rw [List.set_eq_of_length_le (by omega)];exact ⟨rfl,rfl,rfl,rfl⟩
   ·rw [List.getElem?_set_ne (Ne.symm hs)];exact ⟨rfl,rfl,rfl,rfl⟩
  ·rw [if_neg hg] at hE
   unfold Ba
   rw [hE]
   exact ⟨rfl,rfl,rfl,rfl⟩
 have hlen:t.E.length=x.tb.E.length:=by rw [hE];split<;>simp
 have hlv:∀s,B_ t.s s=B_ x.tb.s s:=fun s=>by rw [hr.s]
 refine { h with tb:=K4.give h.tb hr,te:=⟨fun s hs=>?_,fun s=>by show 0<=(Ba t s).len/\(Ba t s).len<=65536;rw [(hen s).2.2.2];exact h.te.len s⟩,sm:=(show t.en<=8 by rw [hk.en];exact h.sm),tf:=⟨?_, ?_, ?_⟩,ru:=fun u hu=>?_,bn:=(show x.bn=t.en by rw [hk.en];exact h.bn),Ox:=fun s hs=>?_,el:=(show t.E.length=t.en by rw [hlen,hk.en];exact h.el) }
 ·have h1:=h.te.live s (by rw [<-hlv];exact hs)
  have e1:=(hen s).1
  refine ⟨by show Ac (Ba t s).h=s;rw [e1];exact h1.sl, ?_,by show (Ba t s).h<_;rw [e1];exact h1.hh⟩
  show Dp t (Ba t s).h=0
  rw [e1]
  obtain ⟨r1,r2,r3,r4⟩:=Dr h1.ok
  exact M5 (by rw [hk.en];exact r1) (by rw [hr.s];exact r2) (by rw [hr.s];exact r3) (by rw [(hen _).1];exact r4)
 ·show ∀s:Nat,(s:Int)∈t.s.DC->B_ t.s s=false/\EC t.s s<4294967295
  rw [hr.s];exact h.tf.fr
 ·show t.s.DC.Nodup
  rw [hr.s];exact h.tf.nd
 ·show 1<=t.s.first
  rw [hr.s];exact h.tf.fi
 ·obtain ⟨s,h1,h2⟩:=h.ru u hu
  refine ⟨s,by show B_ t.s s=true;rw [hlv];exact h1, ?_⟩
  rw [h2]
  show Qf x.tb s=Qf t s
  unfold Qf
  rw [(hen s).2.2.1,(hen s).2.2.2]
 ·have h1:=h.Ox s (by rw [<-hlv];exact hs)
  have e2:=(hen s).2.1
  obtain ⟨lk,b2,h2,h3,h4⟩:=h1
  exact iD.same (x:=x) (y:=x.GY t) ⟨lk,b2,h2,h3,h4⟩ e2 rfl rfl rfl
theorem Dv.iM {x:Aw} {k c:Nat} (h:Dv x k c) {p q:Int} {o:Nat} {i:Gx} (hp:1<=p/\p<=64) (hr:vF x p o q i):Dv i.y k c:=by
 by_cases h0:i.v=0
 ·have h1:=hr.r
  rw [if_pos h0] at h1
  obtain ⟨i1,i2,t,g⟩:=h1
  rw [g.y]
  have a1:=h.tO g.add (Da (hr.lv h0).1.1) (Ud h _)
  have a2:=a1.tQ (i:=i2) (p:=p) (q:=Ni (Ba x.tb (Ac o))) g.sub (.inl hp) (Ud h _)
  exact a2.give (t:=t) (o:=o) (q:=q) g.give
 ·have h1:=hr.r
  rw [if_neg h0] at h1
  exact h.eqM h1
theorem YM {l:List Sh} (hok:∀s∈l,s.q.ok) (bs:List Bw):∀s∈FW l bs,s.q.ok:=(Nj hok bs).1
theorem nX {l:List Sh} {p:Int} {q:Qu} (hq:q.ok) (hok:∀s∈l,s.q.ok):∀s∈(GI l p q).2,s.q.ok:=(QX (p:=p) (q:=q) (r:=(GI l p q).1) (l':=(GI l p q).2) hq hok rfl).1
theorem Dv.drop {x:Aw} {k c:Nat} (h:Dv x k c) (hk:k<10000) {e:En} {t:Ez} {u:Li} (he:Dp x.tb e.h=0) (IM:e=Ba x.tb (Ac e.h)) (ft:Vv x.tb t e.h) (fu:u.us=x.us.filter fun z=>decide (z≠⟨e.off,e.len⟩)) :
  Dv (((x.H_ u).GY t).IA (x.D8.set (Ac e.h) FH)) (k+1) c:=by
 obtain ⟨s,hs⟩:∃s,Ac e.h=s:=⟨_,rfl⟩
 obtain ⟨r1,r2,r3,r4⟩:=Dr he
 have hr:=ft.r
 rw [if_pos he] at hr
 obtain ⟨a1,a2,a3,a4⟩:=hr
 have hk2:=ft.k
 have hE:=ft.E
 have htb:=K4.drop h.tb hk ft
 rw [hs] at r1 r2 r3 IM a3 a4 ⊢
 have hsl:s<x.tb.s.Cz.length:=by rw [h.tb.l];exact r1
 have hlv:∀j,B_ t.s j=if j=s then false else B_ x.tb.s j:=fun j=>by
  unfold B_
  rw [a3,Wh]
  by_cases hj:j=s
  ·rw [if_pos ⟨hj,hsl⟩,if_pos hj]
  ·rw [if_neg (fun hn=>hj hn.1),if_neg hj]
 have hgn:∀j,EC t.s j=EC x.tb.s j:=fun j=>by unfold EC;rw [a2]
 have hen:∀j,Ba t j=Ba x.tb j:=fun j=>Nk hE j
 have hl2:∀j,B_ t.s j=true->j≠s/\B_ x.tb.s j=true:=fun j hj=>by
  rw [hlv] at hj
  by_cases hjs:j=s
  ·rw [if_pos hjs] at hj;cases hj
  ·rw [if_neg hjs] at hj;exact ⟨hjs,hj⟩
 refine { tb:=htb,te:=⟨fun j hj=>?_,fun j=>by show 0<=(Ba t j).len/\(Ba t j).len<=65536;rw [hen];exact h.te.len j⟩,sm:=(show t.en<=8 by rw [hk2.en];exact h.sm),tf:=⟨?_, ?_, ?_⟩,l:=h.l,lc:=h.lc,Oa:=h.Oa,PG:=h.PG,lim:=h.lim,l5:=h.l5,rm := ?_,ru := ?_,bn:=(show x.bn=t.en by rw [hk2.en];exact h.bn),bl:=(show (x.D8.set s FH).length=x.bn by rw [List.length_set];exact h.bl),ck:=h.ck,tn:=h.tn,tl:=h.tl,Ox:=fun j hj=>?_,el:=(show t.E.length=t.en by rw [hE,hk2.en];exact h.el) }
 ·obtain ⟨hjs,hjl⟩:=hl2 j hj
  have h1:=h.te.live j hjl
  refine ⟨by show Ac (Ba t j).h=j;rw [hen];exact h1.sl, ?_,by show (Ba t j).h<_;rw [hen];exact h1.hh⟩
  show Dp t (Ba t j).h=0
  rw [hen]
  obtain ⟨q1,q2,q3,q4⟩:=Dr h1.ok
  exact M5 (by rw [hk2.en];exact q1) (by rw [h1.sl];exact hj) (by rw [hgn];exact q3) (by rw [hen];exact q4)
 ·show ∀j:Nat,(j:Int)∈t.s.DC->B_ t.s j=false/\EC t.s j<4294967295
  intro j hj
  rw [hlv,hgn]
  have key:(j:Int)∈x.tb.s.DC\/(j=s/\EC x.tb.s s≠4294967295):=by
   by_cases hg:EC x.tb.s s=4294967295
   ·rw [if_pos hg] at a4;rw [a4.2] at hj;exact .inl hj
   ·rw [if_neg hg] at a4
    rw [a4.2] at hj
    rcases List.mem_append.1 hj with h1|h1
    ·exact .inl h1
    ·rw [List.mem_singleton] at h1
     exact .inr ⟨by omega,hg⟩
  rcases key with h1|⟨h1,h2⟩
  ·have h3:=h.tf.fr j h1
   refine ⟨?_,h3.2⟩
   split
   ·rfl
   ·exact h3.1
  ·subst h1
   rw [if_pos rfl]
   have:=nW e.h
   exact ⟨rfl,by omega⟩
 ·show t.s.DC.Nodup
  by_cases hg:EC x.tb.s s=4294967295
  ·rw [if_pos hg] at a4;rw [a4.2];exact h.tf.nd
  ·rw [if_neg hg] at a4
   rw [a4.2,List.nodup_append]
   refine ⟨h.tf.nd,by simp,fun v hv w hw e=>?_⟩
   rw [List.mem_singleton] at hw
   rw [e,hw] at hv
   have:=(h.tf.fr s hv).1
   rw [this] at r2
   cases r2
 ·show 1<=t.s.first
  rw [a1.first];exact h.tf.fi
 ·obtain ⟨fr,tk,hI⟩:=h.rm
  show ∃fr tk,Ex.Inv x.N u.us fr tk
  rw [fu]
  by_cases hm:(⟨e.off,e.len⟩:Ext)∈x.us
  ·exact ⟨_,_,(hI.release hm).2⟩
  ·have:(x.us.filter fun z=>decide (z≠⟨e.off,e.len⟩))=x.us:=List.filter_eq_self.2 fun z hz=>decide_eq_true fun he=>hm (he▸hz)
   rw [this]
   exact ⟨fr,tk,hI⟩
 ·show ∀v∈u.us,∃j,B_ t.s j=true/\v=Qf t j
  intro v hv
  rw [fu] at hv
  obtain ⟨h1,h2⟩:=List.mem_filter.1 hv
  have h2:=of_decide_eq_true h2
  obtain ⟨j,h3,h4⟩:=h.ru v h1
  refine ⟨j, ?_,by unfold Qf;rw [hen];exact h4⟩
  rw [hlv,if_neg ?_]
  ·exact h3
  ·intro hjs
   subst hjs
   apply h2
   rw [h4]
   unfold Qf
   rw [<-IM]
 ·obtain ⟨hjs,hjl⟩:=hl2 j hj
  exact (h.Ox j hjl).same (by show (Ba t j).tag=_;rw [hen]) (by show (x.D8.set s FH)[j]? = _;rw [List.getElem?_set_ne (Ne.symm hjs)]) rfl rfl
theorem Dv.free {x y:Aw} {k c:Nat} (h:Dv x k c) (hk:k<10000) {e:En} {l:GJ} {m:KS} {u:Li} {t:Ez} (he:Dp x.tb e.h=0) (IM:e=Ba x.tb (Ac e.h)) (hr:aY x y e l m u t):Dv y (k+1) c:=by
 obtain ⟨fl,fm,fu,ft,rfl⟩:=hr
 have hq:(Ni e).ok:=by rw [IM];exact Ud h _
 have h1:=h.drop hk he IM ft fu
 have hl:l.l.length<=c:=by rw [fl];exact Nat.le_trans (List.length_filter_le _ _) h.l
 have h2:=h1.EP l hl (fun b hb=>by rw [fl] at hb;exact h.lc b (List.mem_filter.1 hb).1)
 exact h2.CJ m (by rw [fm];exact (h.Oa.FW _).tL e.ow (q:=Ni e) (.inl (show (0:Int)<1 by decide))) (by rw [fm];exact nX hq (YM h.PG _))
theorem KZ.keep {x y:Aw} {es:List En} (hr:KZ x y es):y.tb.E=x.tb.E/\y.tb.en=x.tb.en:=by
 induction hr with
 | nil=>exact ⟨rfl,rfl⟩
 | snoc h1 h2 h3 ih =>
  have h4:=h2.keep h3
  exact ⟨h4.E.trans ih.1,h4.en.trans ih.2⟩
theorem Dv.frees {x y:Aw} {k c:Nat} (h:Dv x k c) {es:List En} (hk:k+es.length<=10000) (IM:∀e∈es,e=Ba x.tb (Ac e.h)) (hr:KZ x y es):Dv y (k+es.length) c:=by
 induction hr with
 | nil=>exact h
 | snoc h1 h2 h3 ih =>
  rename_i y z es e l m u t
  rw [List.length_append,List.length_singleton] at hk ⊢
  have h4:=ih (by omega) (fun e he=>IM e (List.mem_append.2 (.inl he)))
  have h5:=IM e (List.mem_append.2 (.inr (.head _)))
  have h6:=h1.keep
  exact h4.free (by omega) h3 (by rw [Nk h6.1];exact h5) h2
theorem iO {x:Ez} (hE:vH x) {k:Nat} {e:En} (he:e∈Ju x k):e=Ba x (Ac e.h):=by
 rw [ZP] at he
 obtain ⟨s,hs,rfl⟩:=List.mem_map.1 he
 have hl:=(List.mem_filter.1 hs).2
 rw [(hE.live s hl).sl]
theorem nY (n:Nat) (h:n<=1099511627776):(gU n).ok:=⟨(by decide:(0:Int)<=0/\(0:Int)<=1099511627776),(by decide:(0:Int)<=0/\(0:Int)<=1099511627776),(by show (0:Int)<=(n:Int)/\(n:Int)<=_;omega)⟩
theorem Dv.end_ {x:Aw} {k c:Nat} (h:Dv x k c) (hk:k+8<=10000) (hc:c<=1000) {p:Int} {i:gV} (hr:EdR x p i):Dv i.y (k+8) c:=by
 have h0:=hr.r
 by_cases ha:DK x.sv p=false
 ·rw [if_pos ha] at h0
  rw [h0.2.2]
  exact h.up (by omega) (Nat.le_refl _) hk
 rw [if_neg ha] at h0
 obtain ⟨-,l,m,x3,es,ei,g⟩:=h0
 have hp:=Da (sv:=x.sv) (p:=p) (by cases hh:DK x.sv p with
  | true=>rfl
  | false=>exact absurd hh ha)
 have h1:=h.EP l (by rw [g.fl];exact Nat.le_trans (List.length_filter_le _ _) h.l) (fun b hb=>by rw [g.fl] at hb;exact h.lc b (List.mem_filter.1 hb).1)
 have hh:=S_ x.l p
 have hl:=h.l
 have h2:=h1.tQ (i:=m) (p:=p) (q:=gU (ED x.l p)) g.fm (.inl hp) (nY _ (by omega))
 have hlen:es.length<=8:=by
  rw [g.fe]
  have h3:=List.length_filter_le (fun e:En=>decide (e.ow=p)) (Ju x.tb x.tb.en)
  have h4:=Ms x.tb x.tb.en
  have:=h.sm
  omega
 have h5:=h2.frees (es:=es) (y:=x3) (by omega) (fun e he=>by
  rw [g.fe] at he
  exact iO h.te (List.mem_filter.1 he).1) g.fr
 rw [g.fy]
 exact ((h5.MC _).I7 _).up (by omega) (Nat.le_refl _) hk
theorem K4.iss {x y:Ez} {k s d:Nat} (hi:K4 x k) (hk:k<10000) (hs:s<x.en) (hkp:QN x y) (hr:ABk x.s y.s s d) (hg:1<=Js x.s s/\Js x.s s<=4294967295):K4 y (k+1):=by
 obtain ⟨r1,r2,r3,r4,r5⟩:=hr
 refine ⟨by rw [r2,List.length_set,hi.n,hkp.en],by rw [r3,List.length_set,hi.l,hkp.en],by rw [hkp.en];exact hi.m,hk, ?_, ?_, ?_,by rw [r1.first];exact hi.fi, ?_⟩
 ·intro v hv
  rw [r5] at hv
  rw [hkp.en]
  exact hi.fr v (aJ hv)
 ·rw [r5,aB]
  have:=hi.fl
  omega
 ·rw [r4]
  have:=hi.go
  omega
 ·intro v hv
  rw [r2] at hv
  cases List.mem_or_eq_of_mem_set hv with
  | inl h1=>have:=hi.gn v h1;omega
  | inr h1=>rw [h1];omega
theorem Dv.alloc {x:Aw} {k c:Nat} (h:Dv x k c) (hk:k<10000) {p tag:Int} {d:Nat} {fr:List Ext} {tk:List (Int×Int)} (hI:Ex.Inv x.N x.us fr tk) {i:WY} {N:Int} {z:Li} {it:Rf} {s:Nat} {m:KS} {br:WG} (hp:1<=p/\p<=64) (lk:Ro x tag=0) (hge:∀s:Nat,(s:Int)∈x.tb.s.DC->1<=Js x.tb.s s/\Js x.tb.s s<=4294967295) (hr:AB4 x p tag d fr i N z it s m br):Dv i.y (k+1) c:=by
 obtain ⟨gN,AKJ,gff,gz,gk,gi,gm,gbn,gbl,gh,gy,gs,gsl⟩:=hr
 obtain ⟨fs, -,ph,phh,rr,EE⟩:=gi
 have hsf:(s:Int)∈x.tb.s.DC:=List.mem_of_getElem? fs
 have hg:=hge s hsf
 have htb:=K4.iss h.tb hk gs gk rr hg
 have hal:=hI.alloc gff
 obtain ⟨e,he⟩:∃e,(Ex.findF fr N).1=e:=⟨_,rfl⟩
 rw [he] at hal gz EE
 obtain ⟨r1,r2,r3,r4,r5⟩:=rr
 have hsl:s<x.tb.s.Cz.length:=by rw [h.tb.l];exact gs
 have hsg:s<x.tb.s.gen.length:=by rw [h.tb.n];exact gs
 have hsE:s<x.tb.E.length:=by rw [h.el];exact gs
 have hnl:B_ x.tb.s s=false:=(h.tf.fr s hsf).1
 have hlv:∀j,B_ it.y.s j=if j=s then true else B_ x.tb.s j:=fun j=>by
  unfold B_
  rw [r3,Wh]
  by_cases hj:j=s
  ·rw [if_pos ⟨hj,hsl⟩,if_pos hj]
  ·rw [if_neg (fun hn=>hj hn.1),if_neg hj]
 have hgn:∀j,EC it.y.s j=if j=s then Js x.tb.s s else EC x.tb.s j:=fun j=>by
  unfold EC
  rw [r2]
  by_cases hj:j=s
  ·subst hj
   rw [if_pos rfl,List.getElem?_set_self hsg];rfl
  ·rw [if_neg hj,List.getElem?_set_ne (Ne.symm hj)]
 have Wj:Ba it.y s=⟨it.h,p,tag,e.off,e.len⟩:=by unfold Ba;rw [EE,List.getElem?_set_self hsE];rfl
 have YN:∀j,j≠s->Ba it.y j=Ba x.tb j:=fun j hj=>by unfold Ba;rw [EE,List.getElem?_set_ne (Ne.symm hj)]
 have hlo:∀j,B_ x.tb.s j=true->j≠s:=fun j hj hjs=>by rw [hjs,hnl] at hj;cases hj
 have hSz:0<=e.len/\e.len<=65536:=by
  have h1:=Ex.UY hal.2.2.2.2.1
  rw [hal.2.2.2.1]
  omega
 have hSr:0<=Sz.K6 N/\Sz.K6 N<=65536:=by
  have h1:=Ex.UY hal.2.2.2.2.1
  omega
 have htk:=YL h.tf.nd fs
 have h1:Dv (((x.H_ z).GY it.y).IA (x.D8.set s br)) (k+1) c:=by
  refine { tb:=htb,te:=⟨fun j hj=>?_,fun j=>?_⟩,sm:=(show it.y.en<=8 by rw [gk.en];exact h.sm),tf:=⟨?_, ?_, ?_⟩,l:=h.l,lc:=h.lc,Oa:=h.Oa,PG:=h.PG,lim:=h.lim,l5:=h.l5,rm := ?_,ru := ?_,bn:=(show x.bn=it.y.en by rw [gk.en];exact h.bn),bl:=(show (x.D8.set s br).length=x.bn by rw [List.length_set];exact h.bl),ck:=h.ck,tn:=h.tn,tl:=h.tl,Ox:=fun j hj=>?_,el:=(show it.y.E.length=it.y.en by rw [EE,List.length_set,gk.en];exact h.el) }
  ·have hj:B_ it.y.s j=true:=hj
   by_cases hjs:j=s
   ·subst hjs
    refine ⟨by show Ac (Ba it.y j).h=j;rw [Wj];exact gsl, ?_,by show (Ba it.y j).h<_;rw [Wj];exact phh⟩
    show Dp it.y (Ba it.y j).h=0
    rw [Wj]
    show Dp it.y it.h=0
    have AG9:=h.tb.m
    have htg:=(LB lk h.tl).2
    have htn:=h.tn
    refine M5 (by rw [gsl,gk.en];exact gs) (by rw [gsl];exact hj) ?_ (by rw [gsl,Wj])
    rw [gsl,hgn,if_pos rfl]
    unfold pY at ph
    rw [if_neg (by omega)] at ph
    dsimp only at ph
    unfold F4
    omega
   ·rw [hlv,if_neg hjs] at hj
    have h2:=h.te.live j hj
    refine ⟨by show Ac (Ba it.y j).h=j;rw [YN j hjs];exact h2.sl, ?_,by show (Ba it.y j).h<_;rw [YN j hjs];exact h2.hh⟩
    show Dp it.y (Ba it.y j).h=0
    rw [YN j hjs]
    obtain ⟨q1,q2,q3,q4⟩:=Dr h2.ok
    rw [h2.sl] at q1 q2 q3 q4
    exact M5 (by rw [h2.sl,gk.en];exact q1) (by rw [h2.sl,hlv,if_neg hjs];exact q2) (by rw [h2.sl,hgn,if_neg hjs];exact q3) (by rw [h2.sl,YN j hjs])
  ·show 0<=(Ba it.y j).len/\(Ba it.y j).len<=65536
   by_cases hjs:j=s
   ·rw [hjs,Wj];exact hSz
   ·rw [YN j hjs];exact h.te.len j
  ·show ∀j:Nat,(j:Int)∈it.y.s.DC->B_ it.y.s j=false/\EC it.y.s j<4294967295
   intro j hj
   rw [r5] at hj
   obtain ⟨h2,h3⟩:=htk.2 _ hj
   have hjs:j≠s:=fun e=>h3 (by rw [e])
   rw [hlv,hgn,if_neg hjs,if_neg hjs]
   exact h.tf.fr j h2
  ·show it.y.s.DC.Nodup
   rw [r5];exact htk.1
  ·show 1<=it.y.s.first
   rw [r1.first];exact h.tf.fi
  ·show ∃fr tk,Ex.Inv x.N z.us fr tk
   rw [gz]
   exact ⟨_,_,hal.2.2.1⟩
  ·show ∀v∈z.us,∃j,B_ it.y.s j=true/\v=Qf it.y j
   intro v hv
   rw [gz] at hv
   rcases List.mem_append.1 hv with h2|h2
   ·obtain ⟨j,h3,h4⟩:=h.ru v h2
    have hjs:=hlo j h3
    exact ⟨j,by rw [hlv,if_neg hjs];exact h3,by unfold Qf;rw [YN j hjs];exact h4⟩
   ·rw [List.mem_singleton.1 h2]
    exact ⟨s,by rw [hlv,if_pos rfl],by unfold Qf;rw [Wj]⟩
  ·have hj:B_ it.y.s j=true:=hj
   by_cases hjs:j=s
   ·subst hjs
    have htg:=(LB lk h.tl)
    have hck:=h.ck _ htg.1
    have hsz:=TF hck
    have hsm:=(IB hck).2.2.2.2.2.2
    refine ⟨?_,br, ?_, ?_, ?_⟩
    ·show Ro x (Ba it.y j).tag=0
     rw [Wj];exact lk
    ·show (x.D8.set j br)[j]? = some br
     rw [List.getElem?_set_self (by rw [h.bl,h.bn];exact gs)]
    ·show D6 (PH x (Ba it.y j).tag).len (PH x (Ba it.y j).tag).fs<=br.n
     rw [Wj,gbn,<-gN]
     omega
    ·rw [gbn];omega
   ·rw [hlv,if_neg hjs] at hj
    exact (h.Ox j hj).same (by show (Ba it.y j).tag=_;rw [YN j hjs]) (by show (x.D8.set s br)[j]? = _;rw [List.getElem?_set_ne (Ne.symm hjs)]) rfl rfl
 rw [gy]
 exact h1.CJ m (by rw [show m.l=(I6 x.lim x.mt p (dw (Sz.K6 N))).2 from congrArg Prod.snd gm];exact h.Oa.add _ hp) (YH h.l5 (tN hSr) h.PG gm.symm).1
theorem Dv.isu {x:Aw} {k c:Nat} (h:Dv x k c):∀s:Nat,(s:Int)∈x.tb.s.DC->1<=Js x.tb.s s/\Js x.tb.s s<=4294967295:=fun s hs=>by
 have h1:=(h.tf.fr s hs).2
 have h2:=h.tf.fi
 have h3:=h.tb.fi
 have h4:=h.tb.EC s
 unfold Js
 split<;>omega
theorem Dv.alc {x:Aw} {k c:Nat} (h:Dv x k c) (hk:k<10000) {p tag:Int} {d:Nat} {fr:List Ext} {tk:List (Int×Int)} (hI:Ex.Inv x.N x.us fr tk) {i:WY} (hp:1<=p/\p<=64) (hr:iB x p tag d fr i):Dv i.y (k+1) c:=by
 have h1:=hr.r
 by_cases h0:i.er=0
 ·rw [if_pos h0] at h1
  obtain ⟨lk,N,z,it,s,m,br,g⟩:=h1
  exact h.alloc hk hI hp lk h.isu g
 ·rw [if_neg h0] at h1
  exact (h.eqU h1.2).up (by omega) (Nat.le_refl _) (by omega)
theorem Wl (l:List Bw) (ob ho:Int):(Ev l ob ho).length<=l.length:=List.length_filter_le _ _
theorem nZ {x:Aw} {k c:Nat} (h:Dv x k c) {ob ho:Int} : 0<=((holdB x.l ob ho).getD Mw).co/\((holdB x.l ob ho).getD Mw).co<=c:=by
 cases hh:holdB x.l ob ho with
 | none=>exact ⟨(by decide:(0:Int)<=0),(by show (0:Int)<=_;omega)⟩
 | some e =>
  have h1:=h.lc e (Gl hh).1
  exact ⟨by show 0<=e.co;omega,by show e.co<=_;omega⟩
theorem Dv.ACD {x:Aw} {k c:Nat} (h:Dv x k c) {ob ho mo r:Int} {l:GJ} (hr:GV x.l ob ho mo r l.l) (h0:r=0):Dv (x.EP l) k (c+1):=by
 unfold GV at hr
 split at hr
 ·omega
 ·obtain ⟨-,P,Q,hp⟩:=hr
  have h1:=h.l
  have h2:=Wl x.l ob ho
  have h3:=nZ h (ob:=ob) (ho:=ho)
  have h4:=hp.len
  refine (h.up (Nat.le_refl _) (Nat.le_succ c) h.tb.kb).EP l (by omega) fun b hb=>?_
  rcases (hp.mem b).1 hb with h5|h5
  ·rw [h5]
   show 1<=_+1/\_+1<=((c+1:Nat):Int)
   omega
  ·have:=h.lc b (List.mem_filter.1 h5).1
   omega
theorem Dv.UU {x:Aw} {k c:Nat} (h:Dv x k c) {o:Nat} {q mo:Int} {i:Gx} {p ac:Int} (hr:sS x p o q ac mo i):Dv i.y k (c+1):=by
 have hup:=h.up (Nat.le_refl _) (Nat.le_succ c) h.tb.kb
 by_cases hyx:i.y=x
 ·rw [hyx];exact hup
 have hqq:=Da (hr.lv (.inr hyx)).1
 have h1:=hr.r
 by_cases h0:i.v=0
 ·rw [if_pos h0] at h1
  obtain ⟨x1,l,g⟩:=h1
  have hm:=g.m
  rw [g.y]
  have hx1:Dv x1 k c/\x1.l=x.l:=by
   split at hm
   ·rw [hm];exact ⟨h,rfl⟩
   ·obtain ⟨j,hj, -,rfl⟩:=hm
    exact ⟨h.tO hj hqq iK,rfl⟩
  exact hx1.1.ACD (l:=l) (by rw [hx1.2];exact g.UU) rfl
 ·rw [if_neg h0] at h1
  obtain ⟨x1,hx1,hy⟩:=h1
  have h2:Dv x1 k c/\x1.l=x.l:=by
   rcases hx1 with rfl|⟨j,hj,rfl⟩
   ·exact ⟨h,rfl⟩
   ·exact ⟨h.tO hj hqq iK,rfl⟩
  have h3:Dv i.y k c:=by
   rcases hy with hy|⟨l,hl,hy⟩
   ·rw [hy];exact h2.1
   ·rw [hy];exact h2.1.EP l (by rw [hl];exact h.l) (by rw [hl];exact h.lc)
  exact h3.up (Nat.le_refl _) (Nat.le_succ c) h.tb.kb
theorem Dv.AHN {x:Aw} {k c:Nat} (h:Dv x k c) {ob ho r:Int} {l:GJ} (hr:Gj x.l ob ho r l.l) (h0:r=0):Dv (x.EP l) k c:=by
 unfold Gj at hr
 split at hr
 ·omega
 ·rename_i e he
  have hm:=Gl he
  have hce:=h.lc e hm.1
  have h1:=h.l
  have h2:=Wl x.l ob ho
  obtain ⟨-,hr⟩:=hr
  split at hr
  ·rw [<-hr] at h2
   exact h.EP l (by omega) fun b hb=>by rw [hr] at hb;exact h.lc b (List.mem_filter.1 hb).1
  ·obtain ⟨P,Q,hp⟩:=hr
   rw [hm.2.1,hm.2.2] at hp
   have h4:=hp.len
   have h5:(Ev x.l ob ho).length<x.l.length:=by
    unfold Ev
    refine Nat.lt_of_le_of_ne (List.length_filter_le _ _) fun e1=>?_
    have e2:=List.length_filter_eq_length_iff.1 e1 e hm.1
    simp [Xp,hm.2.1,hm.2.2] at e2
   refine h.EP l (by omega) fun b hb=>?_
   rcases (hp.mem b).1 hb with h5|h5
   ·rw [h5]
    show 1<=e.co-1/\e.co-1<=_
    omega
   ·exact h.lc b (List.mem_filter.1 h5).1
theorem Dv.rls {x:Aw} {k c:Nat} (h:Dv x k c) {o:Nat} {p:Int} {i:Gx} (hr:vG x p o i):Dv i.y k c:=by
 have h1:=hr.r
 by_cases h0:i.v=0
 ·rw [if_pos h0] at h1
  obtain ⟨l,g⟩:=h1
  have h2:=h.AHN (l:=l) g.rel rfl
  have hy:=g.y
  split at hy
  ·rw [hy];exact h2
  ·obtain ⟨j,hj,hy⟩:=hy
   rw [hy]
   exact h2.tQ (i:=j) (p:=p) (q:=Q1) hj (.inr (.inr (by decide))) iK
 ·rw [if_neg h0] at h1
  rcases h1 with hy|⟨l,hl,hy⟩
  ·rw [hy];exact h
  ·rw [hy];exact h.EP l (by rw [hl];exact h.l) (by rw [hl];exact h.lc)
theorem Dv.reg {x:Aw} {k c:Nat} (h:Dv x k c) {len:Int} {fs:List Fd} {i:RgI} (hr:RgR x len fs i):Dv i.y k c:=by
 by_cases hc:I9 len fs=0/\i.er=0/\i.tag=x.tn+1
 ·obtain ⟨h1,A,c2,t,h2,h3,h4⟩:=hr.new hc
  rw [h4]
  have hlk:∀tag,Ro x tag=0->Ro (x.Qe A (x.tn+1) c2 (x.Gw++[t])) tag=0/\PH (x.Qe A (x.tn+1) c2 (x.Gw++[t])) tag=PH x tag:=fun tag htag=>by
   obtain ⟨-,h5,h6⟩:=LB htag h.tl
   constructor
   ·unfold Ro
    rw [if_neg]
    show ¬(tag<1\/((x.tn+1:Nat):Int)<tag)
    omega
   ·have hlt:(tag-1).toNat<x.Gw.length:=by rw [h.tl];omega
    unfold PH
    show ((x.Gw++[t])[(tag-1).toNat]?).getD gq=_
    rw [List.getElem?_append_left hlt]
  refine { tb:=h.tb,te:=h.te,sm:=h.sm,tf:=h.tf,l:=h.l,lc:=h.lc,Oa:=h.Oa,PG:=h.PG,lim:=h.lim,l5:=h.l5,rm:=h.rm,ru:=h.ru,bn:=h.bn,bl:=h.bl,ck:=fun t2 ht2=>?_,tn:=(show x.tn+1<=255 by omega),tl:=(show (x.Gw++[t]).length=x.tn+1 by rw [List.length_append,h.tl];rfl),Ox:=fun s hs=>?_,el:=h.el }
  ·rcases List.mem_append.1 ht2 with h5|h5
   ·exact h.ck t2 h5
   ·rw [List.mem_singleton.1 h5,h2,h3];exact hc.1
  ·obtain ⟨lk,br,h5,h6,h7⟩:=h.Ox s hs
   have h8:=hlk _ lk
   exact ⟨h8.1,br,h5,(by show D6 (PH (x.Qe A (x.tn+1) c2 (x.Gw++[t])) (Ba x.tb s).tag).len (PH (x.Qe A (x.tn+1) c2 (x.Gw++[t])) (Ba x.tb s).tag).fs<=_;rw [h8.2];exact h6),h7⟩
 ·rw [hr.old hc];exact h
def JM (z:Int):Nat:=(IntKind.u64.wrap z).toNat
theorem Hg (z:Int):IntKind.u64.wrap z=((JM z:Nat):Int):=by
 have h:0<=IntKind.u64.wrap z:=by rw [IntKind.wrap_u64];omega
 unfold JM
 omega
theorem Im (z:Int):JM z<18446744073709551616:=by
 have h:=Hg z
 rw [IntKind.wrap_u64] at h
 omega
structure LC (x z:Aw):Prop where
 b:z.b=x.b
 es:z.es=x.es
 ms:z.ms=x.ms
 cap:z.cap=x.cap
 sv:z.sv=x.sv
theorem LC.refl (x:Aw):LC x x:=⟨rfl,rfl,rfl,rfl,rfl⟩
theorem EqM.q {x z:Aw} (h:EqM x z):LC x z:=by
 rcases h with rfl|⟨i,rfl, -⟩<;>exact ⟨rfl,rfl,rfl,rfl,rfl⟩
theorem EqU.q {x z:Aw} (h:EqU x z):LC x z:=by
 rcases h with rfl|⟨i,rfl, -⟩<;>exact ⟨rfl,rfl,rfl,rfl,rfl⟩
theorem EqB.q {x z:Aw} (h:EqB x z):LC x z:=by
 rcases h with rfl|⟨s,br,l, -, -,rfl⟩<;>exact ⟨rfl,rfl,rfl,rfl,rfl⟩
theorem vF.q {x:Aw} {p q:Int} {o:Nat} {i:Gx} (h:vF x p o q i):LC x i.y:=by
 have h1:=h.r
 by_cases h0:i.v=0
 ·rw [if_pos h0] at h1
  obtain ⟨i1,i2,t,g⟩:=h1
  rw [g.y];exact ⟨rfl,rfl,rfl,rfl,rfl⟩
 ·rw [if_neg h0] at h1;exact h1.q
theorem sS.q {x:Aw} {p q ac mo:Int} {o:Nat} {i:Gx} (h:sS x p o q ac mo i):LC x i.y:=by
 have h1:=h.r
 by_cases h0:i.v=0
 ·rw [if_pos h0] at h1
  obtain ⟨x1,l,g⟩:=h1
  have hm:=g.m
  rw [g.y]
  split at hm
  ·rw [hm];exact ⟨rfl,rfl,rfl,rfl,rfl⟩
  ·obtain ⟨j, -, -,rfl⟩:=hm;exact ⟨rfl,rfl,rfl,rfl,rfl⟩
 ·rw [if_neg h0] at h1
  obtain ⟨x1,hx1,hy⟩:=h1
  rcases hx1 with rfl|⟨j, -,rfl⟩<;>rcases hy with hy|⟨l, -,hy⟩<;>rw [hy]<;>exact ⟨rfl,rfl,rfl,rfl,rfl⟩
theorem vG.q {x:Aw} {p:Int} {o:Nat} {i:Gx} (h:vG x p o i):LC x i.y:=by
 have h1:=h.r
 by_cases h0:i.v=0
 ·rw [if_pos h0] at h1
  obtain ⟨l,g⟩:=h1
  have hy:=g.y
  split at hy
  ·rw [hy];exact ⟨rfl,rfl,rfl,rfl,rfl⟩
  ·obtain ⟨j, -,hy⟩:=hy;rw [hy];exact ⟨rfl,rfl,rfl,rfl,rfl⟩
 ·rw [if_neg h0] at h1
  rcases h1 with hy|⟨l, -,hy⟩<;>rw [hy]<;>exact ⟨rfl,rfl,rfl,rfl,rfl⟩
theorem aY.q {x y:Aw} {e:En} {l:GJ} {m:KS} {u:Li} {t:Ez} (h:aY x y e l m u t):LC x y:=by
 obtain ⟨-, -, -, -,rfl⟩:=h
 constructor<;>simp only [Aw.IA,Aw.GY,Aw.H_,Aw.CJ,Aw.EP]
theorem iB.q {x:Aw} {p tag:Int} {d:Nat} {fr:List Ext} {i:WY} (h:iB x p tag d fr i):LC x i.y:=by
 have h1:=h.r
 by_cases h0:i.er=0
 ·rw [if_pos h0] at h1
  obtain ⟨-,N,z,it,s,m,br,g⟩:=h1
  rw [g.y]
  constructor<;>simp only [Aw.IA,Aw.GY,Aw.H_,Aw.CJ]
 ·rw [if_neg h0] at h1;exact h1.2.q
theorem UR.kp {z y:Aw} {e:DZ} (h:UR z y e):(y.es=z.es\/y.es=z.es++[e])/\y.ms.length<=z.ms.length+1/\y.b=z.b/\y.cap=z.cap/\y.sv=z.sv:=by
 obtain ⟨i,hi,hy⟩:=h
 have he:i.es=z.es\/i.es=z.es++[e]:=by
  unfold Lx at hi
  split at hi
  ·exact .inl (congrArg Prod.snd hi)
  ·split at hi
   ·exact .inl (congrArg Prod.snd hi)
   ·exact .inr (congrArg Prod.snd hi)
 split at hy
 ·rw [hy];exact ⟨he,Nat.le_succ _,rfl,rfl,rfl⟩
 ·obtain ⟨j,hy⟩:=hy
  rw [hy]
  refine ⟨he, ?_,rfl,rfl,rfl⟩
  show (z.ms++[e.pl]).length<=_
  rw [List.length_append,List.length_singleton]
  exact Nat.le_refl _
theorem UR.j {z y:Aw} {e:DZ} {k c:Nat} (h:UR z y e) (hz:Dv z k c):Dv y k c:=by
 obtain ⟨i,hi,hy⟩:=h
 split at hy
 ·rw [hy];exact hz.I7 i
 ·obtain ⟨j,hy⟩:=hy
  rw [hy];exact (hz.I7 i).ME _ _
theorem MF.kp {x y:Aw} {p:Int} (h:MF x y p):y.es=x.es/\y.ms.length<=x.ms.length+1/\y.b=x.b/\y.cap=x.cap/\y.sv=x.sv:=by
 unfold MF at h
 split at h
 ·obtain ⟨j,rfl⟩:=h
  refine ⟨rfl, ?_,rfl,rfl,rfl⟩
  show (x.ms++[p]).length<=_
  rw [List.length_append,List.length_singleton]
  exact Nat.le_refl _
 ·rw [h];exact ⟨rfl,Nat.le_succ _,rfl,rfl,rfl⟩
theorem MF.j {x y:Aw} {p:Int} {k c:Nat} (h:MF x y p) (hx:Dv x k c):Dv y k c:=by
 unfold MF at h
 split at h
 ·obtain ⟨j,rfl⟩:=h;exact hx.ME _ _
 ·rw [h];exact hx
theorem MF.zero {x y:Aw} {p:Int} (h:MF x y p) (h0:EG x p=0):y=x:=by
 unfold MF at h
 rw [h0] at h
 exact h
theorem J2 {x:Aw} {p:Int} (h0:EG x p=0):KY x p = .tuple #[.int .i64 0,.bool true]:=by unfold KY;rw [h0];rfl
theorem J3 {x:Aw} {p:Int} (h0:¬EG x p=0):KY x p = .tuple #[.int .i64 (EG x p),.bool false]:=by unfold KY;rw [decide_eq_false h0]
theorem IG {x:Aw} {p:Int} (h0:EG x p=0):DK x.sv p=true:=by
 unfold EG at h0
 split at h0
 ·cases h0
 ·rename_i h;simpa using h
def Kb (x:Aw) (p op:Int) (ar:Nat) (Core:Aw->Int->Nat->Prop) (v:Int) (y:Aw):Prop :=
 if EG x p=0 then ∃z h,Core z v h/\UR z y ⟨p,op,h,ar,v⟩ else v=EG x p/\MF x y p
structure Fq (x:Aw) (n:Nat):Prop where
 j:Dv x (9*n) n
 es:x.es.length<=n
 ms:x.ms.length<=n
 ok:∀e∈x.es,e.ok
theorem Fq.up {x:Aw} {n m:Nat} (h:Fq x n) (hm:n<=m) (hb:m<=1000):Fq x m:=⟨h.j.up (by omega) hm (by omega),Nat.le_trans h.es hm,Nat.le_trans h.ms hm,h.ok⟩
theorem Fq.GH {x z y:Aw} {n:Nat} (h:Fq x n) (hn:n<1000) (hq:LC x z) (hz:Dv z (9*n+9) (n+1)) {e:DZ} (he:e.ok) (hr:UR z y e):Fq y (n+1):=by
 obtain ⟨h1,h2, -⟩:=hr.kp
 have h3:=h.es
 have h4:=h.ms
 have h5:=h.ok
 refine ⟨hr.j hz, ?_, ?_, ?_⟩
 ·rcases h1 with h1|h1<;>rw [h1,hq.es]
  ·omega
  ·rw [List.length_append,List.length_singleton];omega
 ·rw [hq.ms] at h2;omega
 ·intro a ha
  rcases h1 with h1|h1<;>rw [h1,hq.es] at ha
  ·exact h5 a ha
  ·rcases List.mem_append.1 ha with ha|ha
   ·exact h5 a ha
   ·rw [List.mem_singleton.1 ha];exact he
theorem Fq.wr {x y:Aw} {n:Nat} (h:Fq x n) (hn:n<1000) {p op:Int} {ar:Nat} {Core:Aw->Int->Nat->Prop} {v:Int} (har:ar<18446744073709551616)
  (hC:∀z h,EG x p=0->Core z v h->LC x z/\Dv z (9*n+9) (n+1)/\h<18446744073709551616) (hr:Kb x p op ar Core v y):Fq y (n+1):=by
 unfold Kb at hr
 by_cases h0:EG x p=0
 ·rw [if_pos h0] at hr
  obtain ⟨z,hh,hc,hrec⟩:=hr
  obtain ⟨h1,h2,h3⟩:=hC z hh h0 hc
  exact h.GH hn h1 h2 ⟨h3,har⟩ hrec
 ·rw [if_neg h0] at hr
  obtain ⟨-,hb⟩:=hr
  obtain ⟨h1,h2, -⟩:=hb.kp
  have h3:=h.es
  have h4:=h.ms
  have h5:=h.ok
  exact ⟨hb.j (h.j.up (by omega) (by omega) (by omega)),by rw [h1];omega,by omega,by rw [h1];exact h5⟩
theorem ng (x:Aw) {b:Nat} (hb:x.b=b) (p:Int) (o:Nat) (fi v0:Int) (ho:o<18446744073709551616) {n:Nat} (ht:Fq x n) (hn:n<1000) (W:World) (hst:St (Ak (Al x)) W (Al x) W) :
  Calls Tryz.prog 24 #[.pointer (some ⟨b,0,none⟩),.int .i64 p,.int .u64 (o:Int),.int .i64 fi,.int .u64 v0] W
  fun en w' => ∃i:Gx,en = .returned (EH i)/\Kb x p 4 (JM fi) (fun z v h=>tF x ⟨v,z⟩/\h=o) i.v i.y/\St (Ak (Al x)) W (Al i.y) w':=by
 subst hb
 have hj:=ht.j
 have hes:=ht.es
 have hms:=ht.ms
 have hN:x.tb.s.gen.length=x.tb.s.Cz.length:=hj.tb.n.trans hj.tb.l.symm
 have hl:=hj.l
 have hm:=hj.Oa.len
 have hc:∀e∈x.l,0<=e.co/\e.co<=4611686018427387904:=fun e he=>by have:=hj.lc e he;omega
 obtain ⟨M,hM⟩:∃M,Ak (Al x)=M:=⟨_,rfl⟩
 rw [hM] at hst ⊢
 clear hM
 unfold Al Du at hst
 have hbn:=hj.bn
 have hby:=hj.Ox
 have hck:=hj.ck
 have h64:=Hg fi
 refine Ab (M:=M) Tryz.func24 [.tmp 10]  hst ?_
 have zs:=Bd.mk De
 refine Aq ?_
 refine AQ rfl fun K k0=>?_
 refine Ah ?_
 refine Af [] (Al x) (List.Perm.refl _) (fun _:Aw=>KY x p) (fun y=>Al y) _ (fun w hw=>FE x rfl p (by omega) (by omega) w hw) ?_
 intro y1 hy1
 by_cases he:EG x p=0
 case neg =>
  have hyb:y1.b=x.b:=hy1.kp.2.2.1
  rw [J3 he]
  unfold Al
  rw [Am hyb]
  dsimp only [List.cons_append,List.nil_append]
  refine Ah ?_
  refine k0 _ _ ?_
  refine AB fun K k0=>?_
  refine Aq ?_
  refine AL ?_
  refine Ah ?_
  refine Aq ?_
  refine AP (Cc fun w hw=>?_)
  exact ⟨⟨EG x p,y1⟩,rfl,by unfold Kb;rw [if_neg he];exact ⟨rfl,hy1⟩,by show St M W (Al y1) w;unfold Al;rw [Am hyb];exact hw⟩
 rw [hy1.zero he,J2 he]
 have hpr:=Da (IG he)
 unfold Al
 rw [Am rfl]
 dsimp only [List.cons_append,List.nil_append]
 refine Ah ?_
 refine k0 _ _ ?_
 refine AB fun K k0=>?_
 refine Aq ?_
 refine AL ?_
 refine Ah ?_
 refine AO (k0 _ _ ?_)
 refine AV [0,1,2,3,4] fun G1 g1=>?_
 replace g1:=Bi g1
 refine AQ rfl fun K k0=>?_
 have zg:=Bd.mk g1
 refine Ap h64 ?_
 refine Af [] (Al x) (List.Perm.refl _) EH (fun i=>Al i.y) _ (fun w hw=>nU x rfl p o fi v0 ho hN (by omega) hck hby hbn w hw) ?_
 rintro ⟨v,z⟩ hi
 have hq:LC x z:=hi.r.q
 have hzb:z.b=x.b:=hq.b
 unfold EH
 dsimp only
 unfold Al
 rw [Am hzb]
 dsimp only [List.cons_append,List.nil_append]
 refine AR ?_
 refine Af [] (Al z) (by unfold Al;rw [Am hzb];exact List.Perm.refl _) (fun _:Aw=>.int .i64 v) (fun y=>Al y) _ (fun w hw=>Dj z hzb ⟨p,4,o,(JM fi),v⟩ (by rw [hq.es];omega) (by rw [hq.ms];omega) w hw) ?_
 intro y hy
 have hyb:y.b=x.b:=hy.kp.2.2.1.trans hzb
 unfold Al
 rw [Am hyb]
 dsimp only [List.cons_append,List.nil_append]
 refine AR ?_
 refine k0 _ _ ?_
 refine AP (Br fun w hw=>?_)
 exact ⟨⟨v,y⟩,rfl,by unfold Kb;rw [if_pos he];exact ⟨z,o,⟨hi,rfl⟩,hy⟩,by show St M W (Al y) w;unfold Al;rw [Am hyb];exact hw⟩
theorem iP (x:Aw) {b:Nat} (hb:x.b=b) (p:Int) (d:Nat) (to:Int) (o:Nat) (off m:Int) (hd:d<18446744073709551616) (ho:o<18446744073709551616) {n:Nat} (ht:Fq x n) (hn:n<1000) (W:World) (hst:St (Ak (Al x)) W (Al x) W) :
  Calls Tryz.prog 28 #[.pointer (some ⟨b,0,none⟩),.int .i64 p,.int .u64 (d:Int),.int .i64 to,.int .u64 (o:Int),.int .i64 off,.int .i64 m] W
  fun en w' => ∃i:Gx,en = .returned (EH i)/\Kb x p 7 o (fun z v h=>tF x ⟨v,z⟩/\h=d) i.v i.y/\St (Ak (Al x)) W (Al i.y) w':=by
 subst hb
 have hj:=ht.j
 have hes:=ht.es
 have hms:=ht.ms
 have hN:x.tb.s.gen.length=x.tb.s.Cz.length:=hj.tb.n.trans hj.tb.l.symm
 have hl:=hj.l
 have hm:=hj.Oa.len
 have hc:∀e∈x.l,0<=e.co/\e.co<=4611686018427387904:=fun e he=>by have:=hj.lc e he;omega
 obtain ⟨M,hM⟩:∃M,Ak (Al x)=M:=⟨_,rfl⟩
 rw [hM] at hst ⊢
 clear hM
 unfold Al Du at hst
 have hbn:=hj.bn
 have hby:=hj.Ox
 have hck:=hj.ck
 have h64:=gY ho
 refine Ab (M:=M) Tryz.func28 [.tmp 14]  hst ?_
 have zs:=Bd.mk De
 refine Aq ?_
 refine AQ rfl fun K k0=>?_
 refine Ah ?_
 refine Af [] (Al x) (List.Perm.refl _) (fun _:Aw=>KY x p) (fun y=>Al y) _ (fun w hw=>FE x rfl p (by omega) (by omega) w hw) ?_
 intro y1 hy1
 by_cases he:EG x p=0
 case neg =>
  have hyb:y1.b=x.b:=hy1.kp.2.2.1
  rw [J3 he]
  unfold Al
  rw [Am hyb]
  dsimp only [List.cons_append,List.nil_append]
  refine Ah ?_
  refine k0 _ _ ?_
  refine AB fun K k0=>?_
  refine Aq ?_
  refine AL ?_
  refine Ah ?_
  refine Aq ?_
  refine AP (Cc fun w hw=>?_)
  exact ⟨⟨EG x p,y1⟩,rfl,by unfold Kb;rw [if_neg he];exact ⟨rfl,hy1⟩,by show St M W (Al y1) w;unfold Al;rw [Am hyb];exact hw⟩
 rw [hy1.zero he,J2 he]
 have hpr:=Da (IG he)
 unfold Al
 rw [Am rfl]
 dsimp only [List.cons_append,List.nil_append]
 refine Ah ?_
 refine k0 _ _ ?_
 refine AB fun K k0=>?_
 refine Aq ?_
 refine AL ?_
 refine Ah ?_
 refine AO (k0 _ _ ?_)
 refine AV [0,1,2,3,4,5,6] fun G2 g2=>?_
 replace g2:=Bi g2
 refine AQ rfl fun K k0=>?_
 have zg:=Bd.mk g2
 refine AR ?_
 refine Af [] (Al x) (List.Perm.refl _) EH (fun i=>Al i.y) _ (fun w hw=>YK x rfl p d to o off m hd ho hN (by omega) hby hbn w hw) ?_
 rintro ⟨v,z⟩ hi
 have hq:LC x z:=hi.r.q
 have hzb:z.b=x.b:=hq.b
 unfold EH
 dsimp only
 unfold Al
 rw [Am hzb]
 dsimp only [List.cons_append,List.nil_append]
 refine AR ?_
 refine Af [] (Al z) (by unfold Al;rw [Am hzb];exact List.Perm.refl _) (fun _:Aw=>.int .i64 v) (fun y=>Al y) _ (fun w hw=>Dj z hzb ⟨p,7,d,o,v⟩ (by rw [hq.es];omega) (by rw [hq.ms];omega) w hw) ?_
 intro y hy
 have hyb:y.b=x.b:=hy.kp.2.2.1.trans hzb
 unfold Al
 rw [Am hyb]
 dsimp only [List.cons_append,List.nil_append]
 refine AR ?_
 refine k0 _ _ ?_
 refine AP (Br fun w hw=>?_)
 exact ⟨⟨v,y⟩,rfl,by unfold Kb;rw [if_pos he];exact ⟨z,d,⟨hi,rfl⟩,hy⟩,by show St M W (Al y) w;unfold Al;rw [Am hyb];exact hw⟩
theorem aj (x:Aw) {b:Nat} (hb:x.b=b) (p:Int) (o:Nat) (q:Int) (ho:o<18446744073709551616) {n:Nat} (ht:Fq x n) (hn:n<1000) (W:World) (hst:St (Ak (Al x)) W (Al x) W) :
  Calls Tryz.prog 30 #[.pointer (some ⟨b,0,none⟩),.int .i64 p,.int .u64 (o:Int),.int .i64 q] W
  fun en w' => ∃i:Gx,en = .returned (EH i)/\Kb x p 8 (JM q) (fun z v h=>vF x p o q ⟨v,z⟩/\h=o) i.v i.y/\St (Ak (Al x)) W (Al i.y) w':=by
 subst hb
 have hj:=ht.j
 have hes:=ht.es
 have hms:=ht.ms
 have hN:x.tb.s.gen.length=x.tb.s.Cz.length:=hj.tb.n.trans hj.tb.l.symm
 have hl:=hj.l
 have hm:=hj.Oa.len
 have hc:∀e∈x.l,0<=e.co/\e.co<=4611686018427387904:=fun e he=>by have:=hj.lc e he;omega
 obtain ⟨M,hM⟩:∃M,Ak (Al x)=M:=⟨_,rfl⟩
 rw [hM] at hst ⊢
 clear hM
 unfold Al Du at hst
 have h64:=Hg q
 refine Ab (M:=M) Tryz.func30 [.tmp 8]  hst ?_
 have zs:=Bd.mk De
 refine Aq ?_
 refine AQ rfl fun K k0=>?_
 refine Ah ?_
 refine Af [] (Al x) (List.Perm.refl _) (fun _:Aw=>KY x p) (fun y=>Al y) _ (fun w hw=>FE x rfl p (by omega) (by omega) w hw) ?_
 intro y1 hy1
 by_cases he:EG x p=0
 case neg =>
  have hyb:y1.b=x.b:=hy1.kp.2.2.1
  rw [J3 he]
  unfold Al
  rw [Am hyb]
  dsimp only [List.cons_append,List.nil_append]
  refine Ah ?_
  refine k0 _ _ ?_
  refine AB fun K k0=>?_
  refine Aq ?_
  refine AL ?_
  refine Ah ?_
  refine Aq ?_
  refine AP (Cc fun w hw=>?_)
  exact ⟨⟨EG x p,y1⟩,rfl,by unfold Kb;rw [if_neg he];exact ⟨rfl,hy1⟩,by show St M W (Al y1) w;unfold Al;rw [Am hyb];exact hw⟩
 rw [hy1.zero he,J2 he]
 have hpr:=Da (IG he)
 unfold Al
 rw [Am rfl]
 dsimp only [List.cons_append,List.nil_append]
 refine Ah ?_
 refine k0 _ _ ?_
 refine AB fun K k0=>?_
 refine Aq ?_
 refine AL ?_
 refine Ah ?_
 refine AO (k0 _ _ ?_)
 refine AV [0,1,2,3] fun G3 g3=>?_
 replace g3:=Bi g3
 refine AQ rfl fun K k0=>?_
 have zg:=Bd.mk g3
 refine Ap h64 ?_
 refine Af [] (Al x) (List.Perm.refl _) EH (fun i=>Al i.y) _ (fun w hw=>UT x rfl p o q ho _ hj.tb (by omega) (by omega) hj.lim hj.l5 hj.PG hj.te.len w hw) ?_
 rintro ⟨v,z⟩ hi
 have hq:LC x z:=hi.q
 have hzb:z.b=x.b:=hq.b
 unfold EH
 dsimp only
 unfold Al
 rw [Am hzb]
 dsimp only [List.cons_append,List.nil_append]
 refine AR ?_
 refine Af [] (Al z) (by unfold Al;rw [Am hzb];exact List.Perm.refl _) (fun _:Aw=>.int .i64 v) (fun y=>Al y) _ (fun w hw=>Dj z hzb ⟨p,8,o,(JM q),v⟩ (by rw [hq.es];omega) (by rw [hq.ms];omega) w hw) ?_
 intro y hy
 have hyb:y.b=x.b:=hy.kp.2.2.1.trans hzb
 unfold Al
 rw [Am hyb]
 dsimp only [List.cons_append,List.nil_append]
 refine AR ?_
 refine k0 _ _ ?_
 refine AP (Br fun w hw=>?_)
 exact ⟨⟨v,y⟩,rfl,by unfold Kb;rw [if_pos he];exact ⟨z,o,⟨hi,rfl⟩,hy⟩,by show St M W (Al y) w;unfold Al;rw [Am hyb];exact hw⟩
theorem ak (x:Aw) {b:Nat} (hb:x.b=b) (p:Int) (o:Nat) (q:Int) (ho:o<18446744073709551616) {n:Nat} (ht:Fq x n) (hn:n<1000) (W:World) (hst:St (Ak (Al x)) W (Al x) W) :
  Calls Tryz.prog 31 #[.pointer (some ⟨b,0,none⟩),.int .i64 p,.int .u64 (o:Int),.int .i64 q] W
  fun en w' => ∃i:Gx,en = .returned (EH i)/\Kb x p 9 (JM q) (fun z v h=>sS x p o q 4 1 ⟨v,z⟩/\h=o) i.v i.y/\St (Ak (Al x)) W (Al i.y) w':=by
 subst hb
 have hj:=ht.j
 have hes:=ht.es
 have hms:=ht.ms
 have hN:x.tb.s.gen.length=x.tb.s.Cz.length:=hj.tb.n.trans hj.tb.l.symm
 have hl:=hj.l
 have hm:=hj.Oa.len
 have hc:∀e∈x.l,0<=e.co/\e.co<=4611686018427387904:=fun e he=>by have:=hj.lc e he;omega
 obtain ⟨M,hM⟩:∃M,Ak (Al x)=M:=⟨_,rfl⟩
 rw [hM] at hst ⊢
 clear hM
 unfold Al Du at hst
 have h64:=Hg q
 refine Ab (M:=M) Tryz.func31 [.tmp 8]  hst ?_
 have zs:=Bd.mk De
 refine Aq ?_
 refine AQ rfl fun K k0=>?_
 refine Ah ?_
 refine Af [] (Al x) (List.Perm.refl _) (fun _:Aw=>KY x p) (fun y=>Al y) _ (fun w hw=>FE x rfl p (by omega) (by omega) w hw) ?_
 intro y1 hy1
 by_cases he:EG x p=0
 case neg =>
  have hyb:y1.b=x.b:=hy1.kp.2.2.1
  rw [J3 he]
  unfold Al
  rw [Am hyb]
  dsimp only [List.cons_append,List.nil_append]
  refine Ah ?_
  refine k0 _ _ ?_
  refine AB fun K k0=>?_
  refine Aq ?_
  refine AL ?_
  refine Ah ?_
  refine Aq ?_
  refine AP (Cc fun w hw=>?_)
  exact ⟨⟨EG x p,y1⟩,rfl,by unfold Kb;rw [if_neg he];exact ⟨rfl,hy1⟩,by show St M W (Al y1) w;unfold Al;rw [Am hyb];exact hw⟩
 rw [hy1.zero he,J2 he]
 have hpr:=Da (IG he)
 unfold Al
 rw [Am rfl]
 dsimp only [List.cons_append,List.nil_append]
 refine Ah ?_
 refine k0 _ _ ?_
 refine AB fun K k0=>?_
 refine Aq ?_
 refine AL ?_
 refine Ah ?_
 refine AO (k0 _ _ ?_)
 refine AV [0,1,2,3] fun G4 g4=>?_
 replace g4:=Bi g4
 refine AQ rfl fun K k0=>?_
 have zg:=Bd.mk g4
 refine Ap h64 ?_
 refine Af [] (Al x) (List.Perm.refl _) EH (fun i=>Al i.y) _ (fun w hw=>ZN x rfl p o q 4 1 (.inl rfl) ho hN (by omega) hc (by omega) hj.lim hj.PG w hw) ?_
 rintro ⟨v,z⟩ hi
 have hq:LC x z:=hi.q
 have hzb:z.b=x.b:=hq.b
 unfold EH
 dsimp only
 unfold Al
 rw [Am hzb]
 dsimp only [List.cons_append,List.nil_append]
 refine AR ?_
 refine Af [] (Al z) (by unfold Al;rw [Am hzb];exact List.Perm.refl _) (fun _:Aw=>.int .i64 v) (fun y=>Al y) _ (fun w hw=>Dj z hzb ⟨p,9,o,(JM q),v⟩ (by rw [hq.es];omega) (by rw [hq.ms];omega) w hw) ?_
 intro y hy
 have hyb:y.b=x.b:=hy.kp.2.2.1.trans hzb
 unfold Al
 rw [Am hyb]
 dsimp only [List.cons_append,List.nil_append]
 refine AR ?_
 refine k0 _ _ ?_
 refine AP (Br fun w hw=>?_)
 exact ⟨⟨v,y⟩,rfl,by unfold Kb;rw [if_pos he];exact ⟨z,o,⟨hi,rfl⟩,hy⟩,by show St M W (Al y) w;unfold Al;rw [Am hyb];exact hw⟩
theorem au (x:Aw) {b:Nat} (hb:x.b=b) (p:Int) (o:Nat) (q:Int) (ho:o<18446744073709551616) {n:Nat} (ht:Fq x n) (hn:n<1000) (W:World) (hst:St (Ak (Al x)) W (Al x) W) :
  Calls Tryz.prog 32 #[.pointer (some ⟨b,0,none⟩),.int .i64 p,.int .u64 (o:Int),.int .i64 q] W
  fun en w' => ∃i:Gx,en = .returned (EH i)/\Kb x p 10 (JM q) (fun z v h=>sS x p o q 3 2 ⟨v,z⟩/\h=o) i.v i.y/\St (Ak (Al x)) W (Al i.y) w':=by
 subst hb
 have hj:=ht.j
 have hes:=ht.es
 have hms:=ht.ms
 have hN:x.tb.s.gen.length=x.tb.s.Cz.length:=hj.tb.n.trans hj.tb.l.symm
 have hl:=hj.l
 have hm:=hj.Oa.len
 have hc:∀e∈x.l,0<=e.co/\e.co<=4611686018427387904:=fun e he=>by have:=hj.lc e he;omega
 obtain ⟨M,hM⟩:∃M,Ak (Al x)=M:=⟨_,rfl⟩
 rw [hM] at hst ⊢
 clear hM
 unfold Al Du at hst
 have h64:=Hg q
 refine Ab (M:=M) Tryz.func32 [.tmp 8]  hst ?_
 have zs:=Bd.mk De
 refine Aq ?_
 refine AQ rfl fun K k0=>?_
 refine Ah ?_
 refine Af [] (Al x) (List.Perm.refl _) (fun _:Aw=>KY x p) (fun y=>Al y) _ (fun w hw=>FE x rfl p (by omega) (by omega) w hw) ?_
 intro y1 hy1
 by_cases he:EG x p=0
 case neg =>
  have hyb:y1.b=x.b:=hy1.kp.2.2.1
  rw [J3 he]
  unfold Al
  rw [Am hyb]
  dsimp only [List.cons_append,List.nil_append]
  refine Ah ?_
  refine k0 _ _ ?_
  refine AB fun K k0=>?_
  refine Aq ?_
  refine AL ?_
  refine Ah ?_
  refine Aq ?_
  refine AP (Cc fun w hw=>?_)
  exact ⟨⟨EG x p,y1⟩,rfl,by unfold Kb;rw [if_neg he];exact ⟨rfl,hy1⟩,by show St M W (Al y1) w;unfold Al;rw [Am hyb];exact hw⟩
 rw [hy1.zero he,J2 he]
 have hpr:=Da (IG he)
 unfold Al
 rw [Am rfl]
 dsimp only [List.cons_append,List.nil_append]
 refine Ah ?_
 refine k0 _ _ ?_
 refine AB fun K k0=>?_
 refine Aq ?_
 refine AL ?_
 refine Ah ?_
 refine AO (k0 _ _ ?_)
 refine AV [0,1,2,3] fun G5 g5=>?_
 replace g5:=Bi g5
 refine AQ rfl fun K k0=>?_
 have zg:=Bd.mk g5
 refine Ap h64 ?_
 refine Af [] (Al x) (List.Perm.refl _) EH (fun i=>Al i.y) _ (fun w hw=>ZN x rfl p o q 3 2 (.inr rfl) ho hN (by omega) hc (by omega) hj.lim hj.PG w hw) ?_
 rintro ⟨v,z⟩ hi
 have hq:LC x z:=hi.q
 have hzb:z.b=x.b:=hq.b
 unfold EH
 dsimp only
 unfold Al
 rw [Am hzb]
 dsimp only [List.cons_append,List.nil_append]
 refine AR ?_
 refine Af [] (Al z) (by unfold Al;rw [Am hzb];exact List.Perm.refl _) (fun _:Aw=>.int .i64 v) (fun y=>Al y) _ (fun w hw=>Dj z hzb ⟨p,10,o,(JM q),v⟩ (by rw [hq.es];omega) (by rw [hq.ms];omega) w hw) ?_
 intro y hy
 have hyb:y.b=x.b:=hy.kp.2.2.1.trans hzb
 unfold Al
 rw [Am hyb]
 dsimp only [List.cons_append,List.nil_append]
 refine AR ?_
 refine k0 _ _ ?_
 refine AP (Br fun w hw=>?_)
 exact ⟨⟨v,y⟩,rfl,by unfold Kb;rw [if_pos he];exact ⟨z,o,⟨hi,rfl⟩,hy⟩,by show St M W (Al y) w;unfold Al;rw [Am hyb];exact hw⟩
theorem iQ (x:Aw) {b:Nat} (hb:x.b=b) (p:Int) (o:Nat) (ho:o<18446744073709551616) {n:Nat} (ht:Fq x n) (hn:n<1000) (W:World) (hst:St (Ak (Al x)) W (Al x) W) :
  Calls Tryz.prog 33 #[.pointer (some ⟨b,0,none⟩),.int .i64 p,.int .u64 (o:Int)] W
  fun en w' => ∃i:Gx,en = .returned (EH i)/\Kb x p 11 0 (fun z v h=>vG x p o ⟨v,z⟩/\h=o) i.v i.y/\St (Ak (Al x)) W (Al i.y) w':=by
 subst hb
 have hj:=ht.j
 have hes:=ht.es
 have hms:=ht.ms
 have hN:x.tb.s.gen.length=x.tb.s.Cz.length:=hj.tb.n.trans hj.tb.l.symm
 have hl:=hj.l
 have hm:=hj.Oa.len
 have hc:∀e∈x.l,0<=e.co/\e.co<=4611686018427387904:=fun e he=>by have:=hj.lc e he;omega
 obtain ⟨M,hM⟩:∃M,Ak (Al x)=M:=⟨_,rfl⟩
 rw [hM] at hst ⊢
 clear hM
 unfold Al Du at hst
 refine Ab (M:=M) Tryz.func33 [.tmp 6]  hst ?_
 have zs:=Bd.mk De
 refine Aq ?_
 refine AQ rfl fun K k0=>?_
 refine Ah ?_
 refine Af [] (Al x) (List.Perm.refl _) (fun _:Aw=>KY x p) (fun y=>Al y) _ (fun w hw=>FE x rfl p (by omega) (by omega) w hw) ?_
 intro y1 hy1
 by_cases he:EG x p=0
 case neg =>
  have hyb:y1.b=x.b:=hy1.kp.2.2.1
  rw [J3 he]
  unfold Al
  rw [Am hyb]
  dsimp only [List.cons_append,List.nil_append]
  refine Ah ?_
  refine k0 _ _ ?_
  refine AB fun K k0=>?_
  refine Aq ?_
  refine AL ?_
  refine Ah ?_
  refine Aq ?_
  refine AP (Cc fun w hw=>?_)
  exact ⟨⟨EG x p,y1⟩,rfl,by unfold Kb;rw [if_neg he];exact ⟨rfl,hy1⟩,by show St M W (Al y1) w;unfold Al;rw [Am hyb];exact hw⟩
 rw [hy1.zero he,J2 he]
 have hpr:=Da (IG he)
 unfold Al
 rw [Am rfl]
 dsimp only [List.cons_append,List.nil_append]
 refine Ah ?_
 refine k0 _ _ ?_
 refine AB fun K k0=>?_
 refine Aq ?_
 refine AL ?_
 refine Ah ?_
 refine AO (k0 _ _ ?_)
 refine AV [0,1,2] fun G6 g6=>?_
 replace g6:=Bi g6
 refine AQ rfl fun K k0=>?_
 have zg:=Bd.mk g6
 refine AR ?_
 refine Af [] (Al x) (List.Perm.refl _) EH (fun i=>Al i.y) _ (fun w hw=>nH x rfl p o ho hN (by omega) hc (by omega) hj.PG w hw) ?_
 rintro ⟨v,z⟩ hi
 have hq:LC x z:=hi.q
 have hzb:z.b=x.b:=hq.b
 unfold EH
 dsimp only
 unfold Al
 rw [Am hzb]
 dsimp only [List.cons_append,List.nil_append]
 refine AR ?_
 refine Af [] (Al z) (by unfold Al;rw [Am hzb];exact List.Perm.refl _) (fun _:Aw=>.int .i64 v) (fun y=>Al y) _ (fun w hw=>Dj z hzb ⟨p,11,o,0,v⟩ (by rw [hq.es];omega) (by rw [hq.ms];omega) w hw) ?_
 intro y hy
 have hyb:y.b=x.b:=hy.kp.2.2.1.trans hzb
 unfold Al
 rw [Am hyb]
 dsimp only [List.cons_append,List.nil_append]
 refine AR ?_
 refine k0 _ _ ?_
 refine AP (Br fun w hw=>?_)
 exact ⟨⟨v,y⟩,rfl,by unfold Kb;rw [if_pos he];exact ⟨z,o,⟨hi,rfl⟩,hy⟩,by show St M W (Al y) w;unfold Al;rw [Am hyb];exact hw⟩
theorem av (x:Aw) {b:Nat} (hb:x.b=b) (p:Int) (o:Nat) (off:Int) (A:Option Addr) (m c:Nat) (bs:List Nat) (ho:o<18446744073709551616) (hm8:m<=65536) {n:Nat} (ht:Fq x n) (hn:n<1000) (W:World) (hE:Sl W W.heap.size 1 A m c (Gs bs)) (ha:U4 A (Ak (Al x))) (hst:St (Ak (Al x)) W (Al x) W) :
  Calls Tryz.prog 26 #[.pointer (some ⟨b,0,none⟩),.int .i64 p,.int .u64 (o:Int),.int .i64 off,.slice A m c] W
  fun en w' => ∃i:Gx,en = .returned (EH i)/\Kb x p 6 (JM off) (fun z v h=>tF x ⟨v,z⟩/\h=o) i.v i.y/\St (Ak (Al x)) W (Al i.y) w':=by
 subst hb
 have hj:=ht.j
 have hes:=ht.es
 have hms:=ht.ms
 have hN:x.tb.s.gen.length=x.tb.s.Cz.length:=hj.tb.n.trans hj.tb.l.symm
 have hl:=hj.l
 have hm:=hj.Oa.len
 have hc:∀e∈x.l,0<=e.co/\e.co<=4611686018427387904:=fun e he=>by have:=hj.lc e he;omega
 have haM:=ha
 obtain ⟨M,hM⟩:∃M,Ak (Al x)=M:=⟨_,rfl⟩
 rw [hM] at hst ha ⊢
 clear hM
 unfold Al Du at hst
 have hbn:=hj.bn
 have hby:=hj.Ox
 have hck:=hj.ck
 have h64:=Hg off
 refine Ab (M:=M) Tryz.func26 [.tmp 10]  hst ?_
 have zs:=Bd.mk De
 refine Aq ?_
 refine AQ rfl fun K k0=>?_
 refine Ah ?_
 refine Af [] (Al x) (List.Perm.refl _) (fun _:Aw=>KY x p) (fun y=>Al y) _ (fun w hw=>FE x rfl p (by omega) (by omega) w hw) ?_
 intro y1 hy1
 by_cases he:EG x p=0
 case neg =>
  have hyb:y1.b=x.b:=hy1.kp.2.2.1
  rw [J3 he]
  unfold Al
  rw [Am hyb]
  dsimp only [List.cons_append,List.nil_append]
  refine Ah ?_
  refine k0 _ _ ?_
  refine AB fun K k0=>?_
  refine Aq ?_
  refine AL ?_
  refine Ah ?_
  refine Aq ?_
  refine AP (Cc fun w hw=>?_)
  exact ⟨⟨EG x p,y1⟩,rfl,by unfold Kb;rw [if_neg he];exact ⟨rfl,hy1⟩,by show St M W (Al y1) w;unfold Al;rw [Am hyb];exact hw⟩
 rw [hy1.zero he,J2 he]
 have hpr:=Da (IG he)
 unfold Al
 rw [Am rfl]
 dsimp only [List.cons_append,List.nil_append]
 refine Ah ?_
 refine k0 _ _ ?_
 refine AB fun K k0=>?_
 refine Aq ?_
 refine AL ?_
 refine Ah ?_
 refine AO (k0 _ _ ?_)
 refine AV [0,1,2,3,4] fun G7 g7=>?_
 replace g7:=Bi g7
 refine AQ rfl fun K k0=>?_
 have zg:=Bd.mk g7
 refine Ap h64 ?_
 refine GX [] (Al x) EH (fun i=>Al i.y) _ (fun w hw0 hw=>ag x rfl p o off A m c bs ho hN (by omega) hby hbn hm8 w (hE.u7 hw0 ha) haM hw) ?_
 rintro ⟨v,z⟩ hi
 have hq:LC x z:=hi.r.q
 have hzb:z.b=x.b:=hq.b
 unfold EH
 dsimp only
 unfold Al
 rw [Am hzb]
 dsimp only [List.cons_append,List.nil_append]
 refine AR ?_
 refine Af [] (Al z) (by unfold Al;rw [Am hzb];exact List.Perm.refl _) (fun _:Aw=>.int .i64 v) (fun y=>Al y) _ (fun w hw=>Dj z hzb ⟨p,6,o,(JM off),v⟩ (by rw [hq.es];omega) (by rw [hq.ms];omega) w hw) ?_
 intro y hy
 have hyb:y.b=x.b:=hy.kp.2.2.1.trans hzb
 unfold Al
 rw [Am hyb]
 dsimp only [List.cons_append,List.nil_append]
 refine AR ?_
 refine k0 _ _ ?_
 refine AP (Br fun w hw=>?_)
 exact ⟨⟨v,y⟩,rfl,by unfold Kb;rw [if_pos he];exact ⟨z,o,⟨hi,rfl⟩,hy⟩,by show St M W (Al y) w;unfold Al;rw [Am hyb];exact hw⟩
theorem ZU:type_of% (And.intro (And.intro (And.intro (And.intro @Nat.mul_one @Ae) (And.intro @G_ @cM)) (And.intro (And.intro @Ce @Cf) (And.intro @Cg @Ch))) (And.intro (And.intro (And.intro @Ci @Cs) (And.intro @Ct @DT)) (And.intro (And.intro @DU @CW) (And.intro @CX @aP.eq_1)))):=(And.intro (And.intro (And.intro (And.intro @Nat.mul_one @Ae) (And.intro @G_ @cM)) (And.intro (And.intro @Ce @Cf) (And.intro @Cg @Ch))) (And.intro (And.intro (And.intro @Ci @Cs) (And.intro @Ct @DT)) (And.intro (And.intro @DU @CW) (And.intro @CX @aP.eq_1))))
structure ax (x z:Aw) (p:Int) (o:Nat) (v:Int):Prop where
 QW:0<=v/\v<=29
 r:if v=0 then Dp x.tb o=0/\S9 x.l (Ac o) (decide ((Ba x.tb (Ac o)).ow=p)) 3∧∃l m u t,aY x z (Ba x.tb (Ac o)) l m u t else z=x
theorem ax.q {x z:Aw} {p:Int} {o:Nat} {v:Int} (h:ax x z p o v):LC x z:=by
 have h1:=h.r
 split at h1
 ·obtain ⟨-, -,l,m,u,t,h2⟩:=h1;exact h2.q
 ·rw [h1];exact LC.refl x
theorem ax.j {x z:Aw} {p:Int} {o:Nat} {v:Int} {k c:Nat} (h:ax x z p o v) (hj:Dv x k c) (hk:k<10000):Dv z (k+1) c:=by
 have h1:=h.r
 split at h1
 ·obtain ⟨he, -,l,m,u,t,h2⟩:=h1
  have h3:=(Dr he).2.2.2
  exact hj.free hk (by rw [h3];exact he) (by rw [h3]) h2
 ·rw [h1];exact hj.up (Nat.le_succ _) (Nat.le_refl _) hk
theorem ay (x:Aw) {b:Nat} (hb:x.b=b) (p:Int) (o:Nat) (ho:o<18446744073709551616) {n:Nat} (ht:Fq x n) (hn:n<1000) (W:World) (hst:St (Ak (Al x)) W (Al x) W) :
  Calls Tryz.prog 22 #[.pointer (some ⟨b,0,none⟩),.int .i64 p,.int .u64 (o:Int)] W
  fun en w' => ∃i:Gx,en = .returned (EH i)/\Kb x p 2 0 (fun z v h=>ax x z p o v/\h=o) i.v i.y/\St (Ak (Al x)) W (Al i.y) w':=by
 subst hb
 have hj:=ht.j
 have hes:=ht.es
 have hms:=ht.ms
 have hN:x.tb.s.gen.length=x.tb.s.Cz.length:=hj.tb.n.trans hj.tb.l.symm
 have hl:=hj.l
 have hm:=hj.Oa.len
 have hu:=hj.Wi
 have hc:∀e∈x.l,0<=e.co/\e.co<=4611686018427387904:=fun e he=>by have:=hj.lc e he;omega
 have hbn:=hj.bn
 have hby:=hj.Ox
 have hck:=hj.ck
 obtain ⟨M,hM⟩:∃M,Ak (Al x)=M:=⟨_,rfl⟩
 rw [hM] at hst ⊢
 clear hM
 unfold Al Du at hst
 refine Ab (M:=M) Tryz.func22 [.tmp 6]  hst ?_
 have zs:=Bd.mk ZU
 refine Aq ?_
 refine AQ rfl fun K k0=>?_
 refine Ah ?_
 refine Af [] (Al x) (List.Perm.refl _) (fun _:Aw=>KY x p) (fun y=>Al y) _ (fun w hw=>FE x rfl p (by omega) (by omega) w hw) ?_
 intro y1 hy1
 by_cases he:EG x p=0
 case neg =>
  have hyb:y1.b=x.b:=hy1.kp.2.2.1
  rw [J3 he]
  unfold Al
  rw [Am hyb]
  dsimp only [List.cons_append,List.nil_append]
  refine Ah ?_
  refine k0 _ _ ?_
  refine AB fun K k0=>?_
  refine Aq ?_
  refine AL ?_
  refine Ah ?_
  refine Aq ?_
  refine AP (Cc fun w hw=>?_)
  exact ⟨⟨EG x p,y1⟩,rfl,by unfold Kb;rw [if_neg he];exact ⟨rfl,hy1⟩,by show St M W (Al y1) w;unfold Al;rw [Am hyb];exact hw⟩
 rw [hy1.zero he,J2 he]
 have hpr:=Da (IG he)
 unfold Al
 rw [Am rfl]
 dsimp only [List.cons_append,List.nil_append]
 refine Ah ?_
 refine k0 _ _ ?_
 refine AB fun K k0=>?_
 refine Aq ?_
 refine AL ?_
 refine Ah ?_
 refine AO (k0 _ _ ?_)
 refine AV [0,1,2] fun G1 g1=>?_
 replace g1:=Bi g1
 refine AQ rfl fun K k0=>?_
 have zg:=Bd.mk g1
 refine AR ?_
 refine Bq (Al x) (List.Sublist.refl _) (fun v:Int=>ZL x o v) _ (fun w hw=>Ea x rfl p o 3 ho hN (by omega) w hw) ?_
 intro v hv
 by_cases hv0:v=0
 case neg =>
  rw [F8 hv0]
  refine AR ?_
  intro b9 pK hf9
  refine k0 _ _ ?_
  refine BF [1,2] (by decide) ?_
  simp only [Ag,nth]
  refine AV [0,1,2,7,9] fun G2 g2=>?_
  replace g2:=Bg g2
  refine AB fun K k0=>?_
  replace zg:=Bd.mk g2
  refine BH ?_
  refine AL ?_
  refine Ap hv0 ?_
  refine AO (k0 _ _ ?_)
  have hq:LC x x:=LC.refl x
  have hzb:x.b=x.b:=rfl
  refine AQ rfl fun K k0=>?_
  refine AR ?_
  refine Af [] (Al x) (by unfold Al;rw [Am hzb];exact List.Perm.refl _) (fun _:Aw=>.int .i64 v) (fun y=>Al y) _ (fun w hw=>Dj x hzb ⟨p,2,o,0,v⟩ (by rw [hq.es];omega) (by rw [hq.ms];omega) w hw) ?_
  intro y hy
  have hyb:y.b=x.b:=hy.kp.2.2.1.trans hzb
  unfold Al
  rw [Am hyb]
  dsimp only [List.cons_append,List.nil_append]
  refine AR ?_
  refine k0 _ _ ?_
  refine AP (Br fun w hw=>?_)
  exact ⟨⟨v,y⟩,rfl,by unfold Kb;rw [if_pos he];exact ⟨x,o,⟨⟨hv.QW,by rw [if_neg hv0]⟩,rfl⟩,hy⟩,by show St M W (Al y) w;unfold Al;rw [Am hyb];exact hw⟩
 have her:=hv.ok hv0
 subst hv0
 have hacc:=hv.acc rfl
 have hho:=(Dr her).2.2.2
 obtain ⟨e,IM⟩:∃e,Ba x.tb (Ac o)=e:=⟨_,rfl⟩
 have hlen:=hj.te.len (Ac o)
 rw [IM] at hho hlen
 rw [I8,IM]
 refine AR ?_
 intro b9 pK hf9
 refine k0 _ _ ?_
 refine BF [1,2,0] (by decide) ?_
 simp only [Ag,nth]
 refine AV [0,1,2,7,9] fun G3 g3=>?_
 replace g3:=Bg g3
 refine AB fun K k0=>?_
 replace zg:=Bd.mk g3
 refine BH ?_
 refine AL ?_
 refine AR ?_
 refine Jk ?_
 refine AF rfl ?_
 refine AR ?_
 refine Af [.blk b9 135 [.int .u64 (e.h:Int),.int .i64 e.ow,.int .i64 e.tag,.int .i64 e.off,.int .i64 e.len]] (Al x) (List.perm_append_comm (l₁:=[_]) (l₂:=[_,_])) (fun _:Aw=>.tuple #[]) (fun y=>Al y) _ (fun w hw=>WM x rfl e (by rw [hho];exact her) (by rw [hho];exact ho) _ hj.tb (by omega) (by omega) hj.PG (by omega) hlen hbn w hw) ?_
 rintro z ⟨l,m,u,t,hz⟩
 have hq:LC x z:=hz.q
 have hzb:z.b=x.b:=hq.b
 unfold Al
 rw [Am hzb]
 dsimp only [List.cons_append,List.nil_append]
 refine AR ?_
 refine k0 _ _ ?_
 refine BF [0,1] (by decide) ?_
 simp only [Ag,nth]
 refine AV [0,1,2,7] fun G4 g4=>?_
 replace g4:=Bg g4
 refine AQ rfl fun K k0=>?_
 replace zg:=Bd.mk g4
 refine AR ?_
 refine Af [] (Al z) (by unfold Al;rw [Am hzb];exact List.Perm.refl _) (fun _:Aw=>.int .i64 0) (fun y=>Al y) _ (fun w hw=>Dj z hzb ⟨p,2,o,0,0⟩ (by rw [hq.es];omega) (by rw [hq.ms];omega) w hw) ?_
 intro y hy
 have hyb:y.b=x.b:=hy.kp.2.2.1.trans hzb
 unfold Al
 rw [Am hyb]
 dsimp only [List.cons_append,List.nil_append]
 refine AR ?_
 refine k0 _ _ ?_
 refine AP (Br fun w hw=>?_)
 exact ⟨⟨0,y⟩,rfl,by unfold Kb;rw [if_pos he];exact ⟨z,o,⟨⟨(by decide:(0:Int)<=0/\(0:Int)<=29),by rw [if_pos rfl];exact ⟨her,hacc,l,m,u,t,by rw [IM];exact hz⟩⟩,rfl⟩,hy⟩,by show St M W (Al y) w;unfold Al;rw [Am hyb];exact hw⟩
structure iT where
 h:Nat
 er:Int
 y:Aw
def tT (i:iT):Value:=.tuple #[.int .u64 (i.h:Int),.int .i64 i.er]
structure Wm (x z:Aw) (p tag:Int) (d:Nat) (v:Int) (h:Nat):Prop where
 r:∃fr tk,Ex.Inv x.N x.us fr tk∧∃i:WY,iB x p tag d fr i/\i.y=z/\i.er=v/\i.h=h
theorem Wm.q {x z:Aw} {p tag v:Int} {d h:Nat} (hc:Wm x z p tag d v h):LC x z:=by
 obtain ⟨fr,tk, -,i,h1,rfl, -, -⟩:=hc.r
 exact h1.q
theorem Wm.hh {x z:Aw} {p tag v:Int} {d h:Nat} (hc:Wm x z p tag d v h):h<18446744073709551616:=by
 obtain ⟨fr,tk, -,i,h1, -, -,rfl⟩:=hc.r
 exact h1.hh
theorem Wm.j {x z:Aw} {p tag v:Int} {d h:Nat} {k c:Nat} (hc:Wm x z p tag d v h) (hj:Dv x k c) (hk:k<10000) (hp:1<=p/\p<=64):Dv z (k+1) c:=by
 obtain ⟨fr,tk,hI,i,h1,rfl, -, -⟩:=hc.r
 exact hj.alc hk hI hp h1
structure ni (x:Aw) (p tag:Int) (d:Nat) (i:iT):Prop where
 hh:i.h<18446744073709551616
 no:EG x p=0\/i.h=0
 r:if EG x p=0 then ∃z,Wm x z p tag d i.er i.h/\UR z i.y ⟨p,1,i.h,JM tag,i.er⟩ else i.er=EG x p/\MF x i.y p
theorem YO (x:Aw) {b:Nat} (hb:x.b=b) (p tag:Int) (d:Nat) (hd:d<18446744073709551616) {n:Nat} (ht:Fq x n) (hn:n<1000) (W:World) (hst:St (Ak (Al x)) W (Al x) W) :
  Calls Tryz.prog 21 #[.pointer (some ⟨b,0,none⟩),.int .i64 p,.int .i64 tag,.int .u64 (d:Int)] W
  fun en w' => ∃i:iT,en = .returned (tT i)/\ni x p tag d i/\St (Ak (Al x)) W (Al i.y) w':=by
 subst hb
 have hj:=ht.j
 have hes:=ht.es
 have hms:=ht.ms
 have hN:x.tb.s.gen.length=x.tb.s.Cz.length:=hj.tb.n.trans hj.tb.l.symm
 have hl:=hj.l
 have hm:=hj.Oa.len
 have hu:=hj.Wi
 have hc:∀e∈x.l,0<=e.co/\e.co<=4611686018427387904:=fun e he=>by have:=hj.lc e he;omega
 have hbn:=hj.bn
 have hby:=hj.Ox
 have hck:=hj.ck
 obtain ⟨M,hM⟩:∃M,Ak (Al x)=M:=⟨_,rfl⟩
 rw [hM] at hst ⊢
 clear hM
 unfold Al Du at hst
 have h64:=Hg tag
 obtain ⟨fr,tk,hI⟩:=hj.rm
 refine Ab (M:=M) Tryz.func21 [.tmp 8,.tmp 9]  hst ?_
 have zs:=Bd.mk ZU
 refine Aq ?_
 refine AQ rfl fun K k0=>?_
 refine Ah ?_
 refine Af [] (Al x) (List.Perm.refl _) (fun _:Aw=>KY x p) (fun y=>Al y) _ (fun w hw=>FE x rfl p (by omega) (by omega) w hw) ?_
 intro y1 hy1
 by_cases he:EG x p=0
 case neg =>
  have hyb:y1.b=x.b:=hy1.kp.2.2.1
  rw [J3 he]
  unfold Al
  rw [Am hyb]
  dsimp only [List.cons_append,List.nil_append]
  refine Ah ?_
  refine k0 _ _ ?_
  refine AB fun K k0=>?_
  refine Aq ?_
  refine AL ?_
  refine Ah ?_
  refine Aq ?_
  refine AP (Cc fun w hw=>?_)
  exact ⟨⟨0,EG x p,y1⟩,rfl,⟨(by decide:0<18446744073709551616),.inr rfl,by rw [if_neg he];exact ⟨rfl,hy1⟩⟩,by show St M W (Al y1) w;unfold Al;rw [Am hyb];exact hw⟩
 rw [hy1.zero he,J2 he]
 have hpr:=Da (IG he)
 unfold Al
 rw [Am rfl]
 dsimp only [List.cons_append,List.nil_append]
 refine Ah ?_
 refine k0 _ _ ?_
 refine AB fun K k0=>?_
 refine Aq ?_
 refine AL ?_
 refine Ah ?_
 refine AO (k0 _ _ ?_)
 refine AV [0,1,2,3] fun G5 g5=>?_
 replace g5:=Bi g5
 refine AQ rfl fun K k0=>?_
 have zg:=Bd.mk g5
 refine AR ?_
 refine Af [] (Al x) (List.Perm.refl _) tC (fun i=>Al i.y) _ (fun w hw=>nQ x rfl p tag d hd _ hj.tb hpr hj.tn hck (by omega) hj.lim hj.PG (by omega) fr tk hI hbn hj.isu w hw) ?_
 rintro ⟨h,v,z⟩ hi
 have hq:LC x z:=hi.q
 have hzb:z.b=x.b:=hq.b
 unfold tC
 dsimp only
 unfold Al
 rw [Am hzb]
 dsimp only [List.cons_append,List.nil_append]
 refine AR ?_
 refine k0 _ _ ?_
 refine AQ rfl fun K k0=>?_
 refine Ap h64 ?_
 refine Af [] (Al z) (by unfold Al;rw [Am hzb];exact List.Perm.refl _) (fun _:Aw=>.int .i64 v) (fun y=>Al y) _ (fun w hw=>Dj z hzb ⟨p,1,h,(JM tag),v⟩ (by rw [hq.es];omega) (by rw [hq.ms];omega) w hw) ?_
 intro y hy
 have hyb:y.b=x.b:=hy.kp.2.2.1.trans hzb
 unfold Al
 rw [Am hyb]
 dsimp only [List.cons_append,List.nil_append]
 refine AR ?_
 refine k0 _ _ ?_
 refine AP (Br fun w hw=>?_)
 exact ⟨⟨h,v,y⟩,rfl,⟨hi.hh,.inl he,by rw [if_pos he];exact ⟨z,⟨fr,tk,hI,_,hi,rfl,rfl,rfl⟩,hy⟩⟩,by show St M W (Al y) w;unfold Al;rw [Am hyb];exact hw⟩
theorem Fq.alw {x:Aw} {n:Nat} (h:Fq x n) (hn:n<1000) {p tag:Int} {d:Nat} {i:iT} (hr:ni x p tag d i):Fq i.y (n+1):=by
 refine h.wr (p:=p) (op:=1) (ar:=JM tag) (Core:=fun z v hh=>Wm x z p tag d v hh) (v:=i.er) hn (Im tag) (fun z hh h0 hc=>?_) ?_
 ·exact ⟨hc.q,(hc.j h.j (by omega) (Da (IG h0))).up (by omega) (by omega) (by omega),hc.hh⟩
 ·have h1:=hr.r
  unfold Kb
  by_cases h0:EG x p=0
  ·rw [if_pos h0] at h1 ⊢
   obtain ⟨z,h2,h3⟩:=h1
   exact ⟨z,i.h,h2,h3⟩
  ·rw [if_neg h0] at h1 ⊢
   exact h1
structure tV where
 v:Int
 er:Int
 y:Aw
def tX (i:tV):Value:=.tuple #[.int .u64 i.v,.int .i64 i.er]
def RdR (x:Aw) (p op:Int) (o ar:Nat) (er:Int) (y:Aw):Prop:=y=x\/(¬er=0/\DK x.sv p=true/\UR x y ⟨p,op,o,ar,er⟩)
structure AHO (x:Aw) (p:Int) (o:Nat) (fi:Int) (i:tV):Prop where
 QW:0<=i.er/\i.er<=29
 v:0<=i.v/\i.v<18446744073709551616
 r:RdR x p 3 o (JM fi) i.er i.y
theorem Fq.rd {x y:Aw} {n:Nat} (h:Fq x n) (hn:n<1000) {p op er:Int} {o ar:Nat} (ho:o<18446744073709551616) (har:ar<18446744073709551616) (hr:RdR x p op o ar er y):Fq y (n+1):=by
 rcases hr with rfl|⟨-, -,hr⟩
 ·exact h.up (Nat.le_succ n) hn
 ·exact h.GH hn (LC.refl x) (h.j.up (by omega) (Nat.le_succ n) (by omega)) ⟨ho,har⟩ hr
theorem iU (x:Aw) {b:Nat} (hb:x.b=b) (p:Int) (o:Nat) (fi:Int) (ho:o<18446744073709551616) {n:Nat} (ht:Fq x n) (hn:n<1000) (W:World) (hst:St (Ak (Al x)) W (Al x) W) :
  Calls Tryz.prog 23 #[.pointer (some ⟨b,0,none⟩),.int .i64 p,.int .u64 (o:Int),.int .i64 fi] W
  fun en w' => ∃i:tV,en = .returned (tX i)/\AHO x p o fi i/\St (Ak (Al x)) W (Al i.y) w':=by
 subst hb
 have hj:=ht.j
 have hes:=ht.es
 have hms:=ht.ms
 have hN:x.tb.s.gen.length=x.tb.s.Cz.length:=hj.tb.n.trans hj.tb.l.symm
 have hl:=hj.l
 have hm:=hj.Oa.len
 have hu:=hj.Wi
 have hc:∀e∈x.l,0<=e.co/\e.co<=4611686018427387904:=fun e he=>by have:=hj.lc e he;omega
 have hbn:=hj.bn
 have hby:=hj.Ox
 have hck:=hj.ck
 obtain ⟨M,hM⟩:∃M,Ak (Al x)=M:=⟨_,rfl⟩
 rw [hM] at hst ⊢
 clear hM
 unfold Al Du at hst
 have h64:=Hg fi
 refine Ab (M:=M) Tryz.func23 [.tmp 8,.tmp 9]  hst ?_
 have zs:=Bd.mk ZU
 refine Aq ?_
 refine AB fun K k0=>?_
 refine AQ rfl fun K k1=>?_
 refine Ah ?_
 refine Bq (Al x) (List.Sublist.refl _) (fun _:Unit=>.bool (DK x.sv p)) _ (fun w hw=>Ho x rfl p w hw) ?_
 intro _ _
 refine Ah ?_
 refine k1 _ _ ?_
 refine AL ?_
 cases ha:DK x.sv p with
 | false =>
  refine D_ ha ?_
  refine Aq ?_
  refine AP (Cc fun w hw=>?_)
  exact ⟨⟨0,15,x⟩,rfl,⟨(by decide:(0:Int)<=15/\(15:Int)<=29),v0,.inl rfl⟩,hw⟩
 | true =>
 refine D_ ha ?_
 refine AO (k0 _ _ ?_)
 refine AQ rfl fun K k0=>?_
 refine Ah ?_
 refine Bq (Al x) (List.Sublist.refl _) gtV _ (fun w hw=>nT x rfl p o fi ho hN (by omega) hck hby hbn w hw) ?_
 rintro ⟨gv,v⟩ hi
 have AHP:0<=v/\v<=29:=hi.QW
 unfold gtV
 dsimp only
 refine Ah ?_
 refine k0 _ _ ?_
 refine AV [0,1,2,3,10,11] fun G6 g6=>?_
 replace g6:=Bi g6
 refine AB fun K k0=>?_
 have zg:=Bd.mk g6
 refine BH ?_
 refine AL ?_
 by_cases hv0:v=0
 ·have d0:decide (v=0)=true:=decide_eq_true hv0
  refine Ap d0 ?_
  refine AO (k0 _ _ ?_)
  refine BH ?_
  refine AP (Br fun w hw=>?_)
  exact ⟨⟨gv,v,x⟩,rfl,⟨hi.QW,hi.v,.inl rfl⟩,hw⟩
 refine Ap hv0 ?_
 have hq:LC x x:=LC.refl x
 have hzb:x.b=x.b:=rfl
 refine Jk ?_
 refine AF rfl ?_
 refine Ap h64 ?_
 refine Af [] (Al x) (by unfold Al;rw [Am hzb];exact List.Perm.refl _) (fun _:Aw=>.int .i64 v) (fun y=>Al y) _ (fun w hw=>Dj x hzb ⟨p,3,o,(JM fi),v⟩ (by rw [hq.es];omega) (by rw [hq.ms];omega) w hw) ?_
 intro y hy
 have hyb:y.b=x.b:=hy.kp.2.2.1.trans hzb
 unfold Al
 rw [Am hyb]
 dsimp only [List.cons_append,List.nil_append]
 refine AR ?_
 refine k0 _ _ ?_
 refine AV [10,11] fun G7 g7=>?_
 replace g7:=Bg g7
 replace zg:=Bd.mk g7
 refine BH ?_
 refine AP (Br fun w hw=>?_)
 exact ⟨⟨gv,v,y⟩,rfl,⟨hi.QW,hi.v,.inr ⟨hv0,ha,hy⟩⟩,by show St M W (Al y) w;unfold Al;rw [Am hyb];exact hw⟩
structure AHQ (x:Aw) (p:Int) (o:Nat) (off n:Int) (i:nV) (y:Aw):Prop where
 l:LdR i n
 r:RdR x p 5 o (JM off) i.er y
theorem az (x:Aw) {b:Nat} (hb:x.b=b) (p:Int) (o:Nat) (off m:Int) (ho:o<18446744073709551616) {n:Nat} (ht:Fq x n) (hn:n<1000) (W:World) (hst:St (Ak (Al x)) W (Al x) W) :
  Calls Tryz.prog 25 #[.pointer (some ⟨b,0,none⟩),.int .i64 p,.int .u64 (o:Int),.int .i64 off,.int .i64 m] W
  fun en w' => ∃i:nV×Aw,en = .returned (ae i.1)/\AHQ x p o off m i.1 i.2/\St (Ak (Al x)) W (Qb i.1::Al i.2) w':=by
 subst hb
 have hj:=ht.j
 have hes:=ht.es
 have hms:=ht.ms
 have hN:x.tb.s.gen.length=x.tb.s.Cz.length:=hj.tb.n.trans hj.tb.l.symm
 have hl:=hj.l
 have hm:=hj.Oa.len
 have hu:=hj.Wi
 have hc:∀e∈x.l,0<=e.co/\e.co<=4611686018427387904:=fun e he=>by have:=hj.lc e he;omega
 have hbn:=hj.bn
 have hby:=hj.Ox
 have hck:=hj.ck
 obtain ⟨M,hM⟩:∃M,Ak (Al x)=M:=⟨_,rfl⟩
 rw [hM] at hst ⊢
 clear hM
 unfold Al Du at hst
 have h64:=Hg off
 refine Ab (M:=M) Tryz.func25 [.tmp 10,.tmp 11]  hst ?_
 have zs:=Bd.mk ZU
 refine Aq ?_
 refine AB fun K k0=>?_
 refine AQ rfl fun K k1=>?_
 refine Ah ?_
 refine Bq (Al x) (List.Sublist.refl _) (fun _:Unit=>.bool (DK x.sv p)) _ (fun w hw=>Ho x rfl p w hw) ?_
 intro _ _
 refine Ah ?_
 refine k1 _ _ ?_
 refine AL ?_
 cases ha:DK x.sv p with
 | false =>
  refine D_ ha ?_
  refine Aq ?_
  refine AP (Cc fun w hw=>?_)
  exact ⟨⟨ldN 15,x⟩,rfl,⟨Ua (by decide) (by decide),.inl rfl⟩,hw.addN _ _⟩
 | true =>
 refine D_ ha ?_
 refine AO (k0 _ _ ?_)
 refine AQ rfl fun K k0=>?_
 refine Ah ?_
 refine Af [] (Al x) (List.Perm.refl _) ae (fun i=>Qb i::Al x) _ (fun w hw=>iI x rfl p o off m ho hN (by omega) hby hbn w hw) ?_
 rintro ⟨A,rn,rc,rl,v⟩ hi
 have AHP:0<=v/\v<=29:=hi.QW
 unfold ae Qb
 dsimp only
 unfold Al
 rw [Am rfl]
 dsimp only [List.cons_append,List.nil_append]
 refine Ah ?_
 refine k0 _ _ ?_
 refine BF [1,2,0] (by decide) ?_
 simp only [Ag,nth]
 refine AV [0,1,2,3,12,13] fun G8 g8=>?_
 replace g8:=Bi g8
 refine AB fun K k0=>?_
 have zg:=Bd.mk g8
 refine BH ?_
 refine AL ?_
 by_cases hv0:v=0
 ·have d0:decide (v=0)=true:=decide_eq_true hv0
  refine Ap d0 ?_
  refine AO (k0 _ _ ?_)
  refine BH ?_
  refine AP (Br fun w hw=>?_)
  exact ⟨⟨⟨A,rn,rc,rl,v⟩,x⟩,rfl,⟨hi,.inl rfl⟩,hw.pick (ix:=[2,0,1]) (by decide)⟩
 refine Ap hv0 ?_
 have hq:LC x x:=LC.refl x
 have hzb:x.b=x.b:=rfl
 refine Jk ?_
 refine AF rfl ?_
 refine Ap h64 ?_
 refine Af [.row (.slice A rn rc) 5 1 rn (Gs rl)] (Al x) (List.perm_append_comm (l₁:=[_]) (l₂:=[_,_])) (fun _:Aw=>.int .i64 v) (fun y=>Al y) _ (fun w hw=>Dj x hzb ⟨p,5,o,(JM off),v⟩ (by rw [hq.es];omega) (by rw [hq.ms];omega) w hw) ?_
 intro y hy
 have hyb:y.b=x.b:=hy.kp.2.2.1.trans hzb
 unfold Al
 rw [Am hyb]
 dsimp only [List.cons_append,List.nil_append]
 refine AR ?_
 refine k0 _ _ ?_
 refine AV [12,13] fun G9 g9=>?_
 replace g9:=Bg g9
 replace zg:=Bd.mk g9
 refine BH ?_
 refine AP (Br fun w hw=>?_)
 exact ⟨⟨⟨A,rn,rc,rl,v⟩,y⟩,rfl,⟨hi,.inr ⟨hv0,ha,hy⟩⟩,by show St M W (Qb ⟨A,rn,rc,rl,v⟩::Al y) w;unfold Al;rw [Am hyb];exact hw.pick (ix:=[2,0,1]) (by decide)⟩
end Go.Proofs.YtegonkdandmolaaGreat
