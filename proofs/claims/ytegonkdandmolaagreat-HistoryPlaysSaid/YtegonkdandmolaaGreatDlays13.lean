import Derived.Test.YtegonkdandmolaaGreatDlays12
set_option linter.unusedVariables false
set_option linter.unusedSimpArgs false
set_option maxRecDepth 100000
set_option maxHeartbeats 4000000
namespace Go.Proofs.YtegonkdandmolaaGreat
open Go.RowKit Go.Shelf
def FH:WG:=⟨none,0,0,[]⟩
theorem nI {M:List Nat} {W w:World} {L:List Ai} {l:List WG} {s:Nat} (hs:s<l.length) (h:St M W (Cj (l.map Cb)::L) w):St M W (Cj ((l.set s FH).map Cb)::L) w:=by
 rw [List.map_set]
 have hlt:s<(l.map Cb).length:=by rw [List.length_map];exact hs
 have hk:nth (l.map Cb) s=some (l.map Cb)[s]:=by rw [EL];exact List.getElem?_eq_getElem hlt
 have h1:St M W ((l.map Cb)[s]::((l.map Cb).eraseIdx s++L)) w:=h.Il.perm (((DI hk).symm).append_right L)
 have h2:St M W (Cb FH::((l.map Cb).eraseIdx s++L)) w:=h1.tail.add _ (World.ownsRow_nil w 0 _ _) (by simp [Ai.foot,Cb,FH,Value.ownBlock]) (by simp [Ai.foot,Cb,FH,Value.ownBlock])
 exact (h2.perm ((KX hlt (Cb FH)).append_right L)).Cj
def FW (l:List Sh) (bs:List Bw):List Sh:=bs.foldl (fun l b=>(GI l b.ho Q1).2) l
theorem WL {l:List Sh} {bs:List Bw} {i:Nat} {e:Bw} (h:bs[i]? = some e):FW l (bs.take (i+1))=(GI (FW l (bs.take i)) e.ho Q1).2:=by
 unfold FW
 rw [List.take_add_one,h,List.foldl_append]
 rfl
theorem Nj {l:List Sh} (hok:∀s∈l,s.q.ok):∀bs:List Bw,(∀s∈FW l bs,s.q.ok)/\(FW l bs).length<=l.length+bs.length:=by
 intro bs
 induction bs generalizing l with
 | nil=>exact ⟨hok,by simp [FW]⟩
 | cons b bs ih =>
  have h1:=QX (p:=b.ho) (q:=Q1) (r:=(GI l b.ho Q1).1) (l':=(GI l b.ho Q1).2) ⟨(by decide:(0:Int)<=0/\(0:Int)<=1099511627776),(by decide:(0:Int)<=0/\(0:Int)<=1099511627776),(by decide:(0:Int)<=1/\(1:Int)<=1099511627776)⟩ hok rfl
  have h2:=ih h1.1
  refine ⟨h2.1, ?_⟩
  have h3:FW l (b::bs)=FW (GI l b.ho Q1).2 bs:=rfl
  rw [h3,List.length_cons]
  omega
def Aw.IA (x:Aw) (l:List WG):Aw := { x with D8:=l }
structure aY (x y:Aw) (e:En) (l:GJ) (m:KS) (u:Li) (t:Ez):Prop where
 fl:l.l=x.l.filter fun b => !decide (b.ob=(Ac e.h:Int))
 fm:m.l=(GI (FW x.mt (Fa x.l (Ac e.h))) e.ow (Ni e)).2
 fu:u.us=x.us.filter fun z=>decide (z≠⟨e.off,e.len⟩)
 ft:Vv x.tb t e.h
 fy:y=((((x.EP l).CJ m).H_ u).GY t).IA (x.D8.set (Ac e.h) FH)
theorem gM:type_of% (And.intro (And.intro (And.intro (And.intro @Nat.mul_one @Ae) (And.intro @G_ @cM)) (And.intro (And.intro @Ce @Cf) (And.intro @Cg @Ch))) (And.intro (And.intro (And.intro @Ci @Cs) (And.intro @Ct @DT)) (And.intro (And.intro @DU @CW) (And.intro @CX (And.intro @O9.eq_1 @QR.eq_1))))):=(And.intro (And.intro (And.intro (And.intro @Nat.mul_one @Ae) (And.intro @G_ @cM)) (And.intro (And.intro @Ce @Cf) (And.intro @Cg @Ch))) (And.intro (And.intro (And.intro @Ci @Cs) (And.intro @Ct @DT)) (And.intro (And.intro @DU @CW) (And.intro @CX (And.intro @O9.eq_1 @QR.eq_1)))))
theorem WM (x:Aw) {b:Nat} (hb:x.b=b) (e:En) (he:Dp x.tb e.h=0) (hh:e.h<18446744073709551616) (k:Nat) (hi:K4 x.tb k) (hl:x.l.length<=1000) (hm:x.mt.length<=80000) (hok:∀s∈x.mt,s.q.ok) (hu:x.us.length<=90) (hel:0<=e.len/\e.len<=65536) (hbn:x.bn=x.tb.en) (W:World) (hst:St (Ak (Al x)) W (Al x) W) :
  Calls Tryz.prog 53 #[.pointer (some ⟨b,0,none⟩),aF e] W
  fun en w' => ∃y:Aw,en = .returned (.tuple #[])/\(∃l m u t,aY x y e l m u t)/\St (Ak (Al x)) W (Al y) w':=by
 subst hb
 have hs:=(Dr he).1
 have AGu:=Aw.byl hst
 obtain ⟨M,hM⟩:∃M,Ak (Al x)=M:=⟨_,rfl⟩
 rw [hM] at hst ⊢
 clear hM
 unfold Al Du at hst
 unfold aF
 refine Ab (M:=M) Tryz.func53 []  hst ?_
 refine AQ rfl fun K k0=>?_
 have zs:=Bd.mk gM
 refine Ah ?_
 intro b3 hb3 hf3
 refine k0 _ _ ?_
 refine AQ rfl fun K k0=>?_
 refine Ah ?_
 refine Aa (fun w hw=>CU e.h hh w) ?_
 try refine Ah ?_
 refine k0 _ _ ?_
 refine BF [1,2,0] (by decide) ?_
 simp only [Ag,nth]
 refine AV [0,3,4] fun G1 g1=>?_
 replace g1:=Bi g1
 refine AQ rfl fun K k0=>?_
 have zg:=Bd.mk g1
 refine AR ?_
 refine Af [.blk b3 135 [.int .u64 (e.h:Int),.int .i64 e.ow,.int .i64 e.tag,.int .i64 e.off,.int .i64 e.len]] (Al x) (List.perm_append_comm (l₁:=[_]) (l₂:=[_,_])) QR (fun i=>.row (.slice i.1.1 i.1.2.1 i.1.2.2) 163 4 i.1.2.1 (Au (Fa x.l (Ac e.h)))::Al (x.EP i.2)) _ (fun w hw=>Rn x rfl (Ac e.h) (by omega) w hw) ?_
 rintro ⟨⟨A,n,c⟩,l⟩ hl1
 dsimp only at hl1 ⊢
 obtain ⟨x1,hx1⟩:∃x1,x.EP l=x1:=⟨_,rfl⟩
 have hb1:x1.b=x.b:=by rw [<-hx1];rfl
 rw [hx1]
 unfold Al
 rw [Am hb1]
 dsimp only [List.cons_append,List.nil_append]
 have ht1:x1.tb=x.tb:=by rw [<-hx1];rfl
 have hm1:x1.mt=x.mt:=by rw [<-hx1];rfl
 have hu1:x1.us=x.us:=by rw [<-hx1];rfl
 have AJt:x1.D8=x.D8:=by rw [<-hx1];rfl
 have AJu:x1.bn=x.bn:=by rw [<-hx1];rfl
 refine AR ?_
 refine k0 _ _ ?_
 obtain ⟨lo,hlo⟩:∃lo,Fa x.l (Ac e.h)=lo:=⟨_,rfl⟩
 have nC:lo.length<=1000:=by
  have h1:(Fa x.l (Ac e.h)).length<=x.l.length:=List.length_filter_le _ _
  rw [hlo] at h1
  omega
 rw [hlo]
 refine EX 0 rfl fun hln=>?_
 rw [BV] at hln
 have hsu:=fun i=>Nj hok (lo.take i)
 refine AB fun K k0=>?_
 refine BH ?_
 refine AV [0,3,4,5,6] fun G2 g2=>?_
 replace g2:=Bg g2
 refine Ad ?_
 refine BP (fun F' L' => ∃(i:Nat) (j:KS),Az F' G2 [0,3,4,5]/\F' 6 = .int .i64 (i:Int)/\L'=[.row (.slice A n c) 163 4 n (Au lo),.blk x.b 65 [(x1.CJ j).y0,(x1.CJ j).y1,(x1.CJ j).y2,(x1.CJ j).y3,(x1.CJ j).y4,(x1.CJ j).y5,(x1.CJ j).y6,(x1.CJ j).y7,(x1.CJ j).y8,.slice (x1.CJ j).TA (x1.CJ j).tn (x1.CJ j).tc,.int .i64 (x1.CJ j).N,.slice (x1.CJ j).UA (x1.CJ j).un (x1.CJ j).uc,.pointer (some ⟨(x1.CJ j).tb.tb,0,none⟩),.slice (x1.CJ j).LA (x1.CJ j).ln (x1.CJ j).lc,.int .i64 (x1.CJ j).lim.qb,.int .i64 (x1.CJ j).lim.qo,.int .i64 (x1.CJ j).lim.qr,.slice (x1.CJ j).MA (x1.CJ j).mn (x1.CJ j).mc,.int .i64 (x1.CJ j).cap,.slice (x1.CJ j).EA (x1.CJ j).en (x1.CJ j).ec,.slice (x1.CJ j).SA (x1.CJ j).sn (x1.CJ j).sc,.slice (x1.CJ j).BA (x1.CJ j).bn (x1.CJ j).bc,.slice (some ⟨(x1.CJ j).g,0,none⟩) 65 65],Cj (DW (x1.CJ j)),.blk b3 135 [.int .u64 (e.h:Int),.int .i64 e.ow,.int .i64 e.tag,.int .i64 e.off,.int .i64 e.len]]/\i<=n/\j.l=FW x.mt (lo.take i)) (fun F' L'=>200000-(intOf (F' 6)).toNat) ?_ ?_
 ·refine ⟨0,⟨0,x1.MA,x1.mn,x1.mc,x1.mt⟩, ?_⟩
  replace zg:=Bd.mk g2
  refine AR ?_
  exact ⟨rfl,Nat.zero_le _,by rw [hm1];rfl⟩
 intro G3 L' hI
 obtain ⟨i,j,zq,Jq,rfl,⟨hin,hj⟩⟩:=hI
 replace zg:=Bd.mk g2
 have g3:=And.intro (Bg zq) Jq
 have hsi:=hsu i
 rw [<-hj] at hsi
 have hti:(lo.take i).length<=lo.length:=by rw [List.length_take];omega
 refine AB fun K k1=>?_
 replace zg:=Bd.mk (And.intro g2 g3)
 refine BH ?_
 refine Dl (fun hc=>?_) fun hc=>?_
 ·refine AO ?_
  try simp only [BJ,BX]
  have hit:i<n:=by have:=of_decide_eq_true ‹decide ((i:Int)<(n:Int))=true›;omega
  obtain ⟨bw,hbw⟩:∃bw,lo[i]? = some bw:=⟨_,List.getElem?_eq_getElem (by omega)⟩
  have Z_:=WL (l:=x.mt) hbw
  refine k1 _ _ ?_
  refine BQ 0 rfl (by omega) fun g DJ hg Bl=>?_
  subst DJ
  simp only [List.eraseIdx_cons_zero,List.eraseIdx_cons_succ,BC,BD,BI,A_,and_true,List.not_mem_nil,or_false,gM] at Bl hg
  replace hg:=And.intro hg Bl
  clear Bl
  refine BF [1,2,3,0] (by decide) ?_
  simp only [Ag,nth]
  refine AB fun K k1=>?_
  refine Ad ?_
  refine Jk ?_
  refine CF (Ag [3] _) (fun w hw=>hw.pick (by decide)) (by simp only [Ag,nth,Be,Bv,List.mem_cons,true_or,or_true,and_true,eq_self]) [(true,0),(true,1),(true,2),(true,3),(true,4),(true,5),(true,6),(true,7),(true,8),(false,9)] [9] CB rfl (by kernel_rfl) (by kernel_rfl) rfl rfl ?_
  refine AR ?_
  refine Aj (BN (m:=1) (i:=i*4+1) (v:=.int .i64 bw.ho) (AZ (k:=0) rfl) rfl (Co Bu hbw (by omega))) ?_
  refine AR ?_
  refine Af [.blk b3 135 [.int .u64 (e.h:Int),.int .i64 e.ow,.int .i64 e.tag,.int .i64 e.off,.int .i64 e.len],.row (.slice (some ⟨g,0,none⟩) n c) 163 4 n (Au lo)] (Al (x1.CJ j)) (by unfold Al;rw [Am (x:=x1.CJ j) (b:=x.b) hb1];exact List.perm_append_comm (l₁:=[_,_]) (l₂:=[_,_])) JI (fun i=>Al (x1.CJ i)) _ (fun w hw=>M0 (x1.CJ j) (b:=x.b) hb1 bw.ho Q1 (show j.l.length<=_ by omega) ⟨(by decide:(0:Int)<=0/\(0:Int)<=1099511627776),(by decide:(0:Int)<=0/\(0:Int)<=1099511627776),(by decide:(0:Int)<=1/\(1:Int)<=1099511627776)⟩ (show ∀s∈j.l,s.q.ok from hsi.1) w hw) ?_
  intro j2 hj2
  unfold Al JI
  rw [Am (x:=x1.CJ j2) (b:=x.b) hb1]
  dsimp only [List.cons_append,List.nil_append]
  have hj3:j2.l=(GI j.l bw.ho Q1).2:=congrArg Prod.snd hj2
  refine AR ?_
  refine k1 _ _ ?_
  refine BF [3,0,1,2] (by decide) ?_
  simp only [Ag,nth]
  refine AF rfl ?_
  refine AR ?_
  refine ⟨⟨i+1,j2, ?_⟩, ?_⟩
  ·refine Ap @Int.natCast_add ?_
   exact ⟨by omega,by rw [Z_,<-hj];exact hj3⟩
  ·simp only [intOf];omega
 refine BM (k0 _ _ ?_)
 have hin2:i=n:=by have:=of_decide_eq_false ‹decide ((i:Int)<(n:Int))=false›;omega
 subst hin2
 rw [List.take_of_length_le (by omega)] at hj hsi
 refine BF [1,2,3] (by decide) ?_
 simp only [Ag,nth]
 refine AV [0,3,4] fun G4 g4=>?_
 replace g4:=Bg g4
 obtain ⟨x2,hx2⟩:∃x2,x1.CJ j=x2:=⟨_,rfl⟩
 have hb2:x2.b=x.b:=by rw [<-hx2];exact hb1
 have hm2:x2.mt=j.l:=by rw [<-hx2];rfl
 rw [hx2]
 refine AB fun K k0=>?_
 refine CF (Ag [2] _) (fun w hw=>hw.pick (by decide)) (by simp only [Ag,nth,Be,Bv,List.mem_cons,true_or,or_true,and_true,eq_self]) [(true,0),(true,1),(true,2),(true,3),(true,4),(true,5),(true,6),(true,7),(true,8),(false,9)] [9] CB rfl (by kernel_rfl) (by kernel_rfl) rfl rfl ?_
 replace zg:=Bd.mk (And.intro g2 (And.intro g3 g4))
 refine AR ?_
 refine Af [.blk b3 135 [.int .u64 (e.h:Int),.int .i64 e.ow,.int .i64 e.tag,.int .i64 e.off,.int .i64 e.len]] (Al x2) (by unfold Al;rw [Am hb2];exact List.perm_append_comm (l₁:=[_]) (l₂:=[_,_])) JI (fun i=>Al (x2.CJ i)) _ (fun w hw=>M0 x2 hb2 e.ow (Ni e) (by rw [hm2];omega) ⟨⟨hel.1,by show e.len<=_;omega⟩,(by decide:(0:Int)<=1/\(1:Int)<=1099511627776),(by decide:(0:Int)<=0/\(0:Int)<=1099511627776)⟩ (by rw [hm2];exact hsi.1) w hw) ?_
 intro m hmm
 unfold JI
 obtain ⟨x3,hx3⟩:∃x3,x2.CJ m=x3:=⟨_,rfl⟩
 have hb3:x3.b=x.b:=by rw [<-hx3];exact hb2
 rw [hx3]
 unfold Al
 rw [Am hb3]
 dsimp only [List.cons_append,List.nil_append]
 have hu3:x3.us=x.us:=by rw [<-hx3,<-hx2,<-hx1];rfl
 have ht3:x3.tb=x.tb:=by rw [<-hx3,<-hx2,<-hx1];rfl
 refine AR ?_
 refine k0 _ _ ?_
 refine AB fun K k0=>?_
 refine CF (Ag [2] _) (fun w hw=>hw.pick (by decide)) (by simp only [Ag,nth,Be,Bv,List.mem_cons,true_or,or_true,and_true,eq_self]) [(true,0),(true,1),(true,2),(true,3),(true,4),(false,5)] [5] CB rfl (by kernel_rfl) (by kernel_rfl) rfl rfl ?_
 refine AR ?_
 refine Af [.blk b3 135 [.int .u64 (e.h:Int),.int .i64 e.ow,.int .i64 e.tag,.int .i64 e.off,.int .i64 e.len]] (Al x3) (by unfold Al;rw [Am hb3];exact List.perm_append_comm (l₁:=[_]) (l₂:=[_,_])) (fun _:Li=>.int .i64 (if (⟨e.off,e.len⟩:Ext)∈x3.us then 0 else 6)) (fun u=>Al (x3.H_ u)) _ (fun w hw=>aU x3 hb3 ⟨e.off,e.len⟩ (by rw [hu3];exact hu) w hw) ?_
 rintro u ⟨-, -,huu⟩
 rw [hu3] at huu
 obtain ⟨x4,hx4⟩:∃x4,x3.H_ u=x4:=⟨_,rfl⟩
 have hb4:x4.b=x.b:=by rw [<-hx4];exact hb3
 rw [hx4]
 unfold Al
 rw [Am hb4]
 dsimp only [List.cons_append,List.nil_append]
 have ht4:x4.tb=x.tb:=by rw [<-hx4];exact ht3
 refine AR ?_
 refine k0 _ _ ?_
 refine AB fun K k0=>?_
 refine CF (Ag [0,2] _) (fun w hw=>hw.pick (by decide)) (by simp only [Ag,nth,Be,Bv,List.mem_cons,true_or,or_true,and_true,eq_self]) [(true,0),(true,1),(true,2),(true,3),(true,4),(true,5),(false,6)] [6] CB rfl (by kernel_rfl) (by kernel_rfl) rfl rfl ?_
 refine AR ?_
 refine Af [.blk b3 135 [.int .u64 (e.h:Int),.int .i64 e.ow,.int .i64 e.tag,.int .i64 e.off,.int .i64 e.len]] (Al x4) (by unfold Al;rw [Am hb4];exact List.perm_append_comm (l₁:=[_]) (l₂:=[_,_])) (fun _:Ez=>.int .i64 (Dp x4.tb e.h)) (fun t=>Al (x4.GY t)) _ (fun w hw=>gG x4 e.h hh k (by rw [ht4];exact hi) w hw) ?_
 intro t htt
 rw [ht4] at htt
 obtain ⟨x5,hx5⟩:∃x5,x4.GY t=x5:=⟨_,rfl⟩
 have hb5:x5.b=x.b:=by rw [<-hx5];exact hb4
 rw [hx5]
 unfold Al
 rw [Am hb5]
 dsimp only [List.cons_append,List.nil_append]
 have nJ:x5.D8=x.D8:=by rw [<-hx5,<-hx4,<-hx3,<-hx2,<-hx1];rfl
 have AJv:x5.bn=x.bn:=by rw [<-hx5,<-hx4,<-hx3,<-hx2,<-hx1];rfl
 refine AR ?_
 refine k0 _ _ ?_
 refine BF [0,1] (by decide) ?_
 simp only [Ag,nth]
 refine AV [0,4] fun G5 g5=>?_
 replace g5:=Bg g5
 refine Cq [.blk x.b 65 [x5.y0,x5.y1,x5.y2,x5.y3,x5.y4,x5.y5,x5.y6,x5.y7,x5.y8,.slice x5.TA x5.tn x5.tc,.int .i64 x5.N,.slice x5.UA x5.un x5.uc,.pointer (some ⟨x5.tb.tb,0,none⟩),.slice x5.LA x5.ln x5.lc,.int .i64 x5.lim.qb,.int .i64 x5.lim.qo,.int .i64 x5.lim.qr,.slice x5.MA x5.mn x5.mc,.int .i64 x5.cap,.slice x5.EA x5.en x5.ec,.slice x5.SA x5.sn x5.sc,.slice x5.BA x5.bn x5.bc,.slice (some ⟨x5.g,0,none⟩) 65 65],.row (.slice x5.BA x5.bn x5.bc) 42 1 x5.bn (x5.D8.flatMap NR),Cj ((DW x5).eraseIdx 6)] (fun w hw=>hw.Fj (k:=6) rfl) ?_
 obtain ⟨BA,ZO⟩:∃BA,x5.BA=BA:=⟨_,rfl⟩
 rw [ZO]
 have hsl:Ac e.h<x5.bn:=by omega
 refine BQ 1 rfl (by omega) fun gB DJ hgB Bl=>?_
 subst DJ
 simp only [List.eraseIdx_cons_zero,List.eraseIdx_cons_succ,BC,BD,BI,A_,and_true,List.not_mem_nil,or_false,gM] at Bl hgB
 replace hgB:=And.intro hgB Bl
 clear Bl
 have hset:(x5.D8.flatMap NR).set (Ac e.h) (.slice none 0 0)=(x5.D8.set (Ac e.h) FH).flatMap NR:=by
  have hsl2:Ac e.h<x5.D8.length:=by rw [nJ];omega
  have h9:=Nc (f:=NR) (s:=1) F6 (k:=0) (by omega) (v:=.slice none 0 0) (x:=x5.D8[Ac e.h]) (y:=FH) rfl (List.getElem?_eq_getElem hsl2)
  simpa using h9
 refine AU rfl ?_
 replace zg:=Bd.mk (And.intro g2 (And.intro g3 g5))
 refine AR ?_
 refine Aj (EW 1 (i:=Ac e.h) (v:=.slice none 0 0) rfl (by rw [Cr F6,nJ];omega) (by kernel_rfl) rfl rfl) ?_
 refine Ap hset ?_
 refine ⟨_,rfl,fun w hw=>?_⟩
 rw [<-ZO] at hw
 have h6:=hw.FV (k:=6) _ (by show 6<11;decide)
 have h10:=(h6.Fj (k:=10) rfl).swp
 have h11:=(nI (s:=Ac e.h) (by rw [nJ];omega) h10).swp.FV (k:=10) _ (by show 10<11;decide)
 refine ⟨x5.IA (x5.D8.set (Ac e.h) FH),rfl,⟨l,m,u,t,⟨hl1, ?_,huu,htt, ?_⟩⟩, ?_⟩
 ·rw [hlo,<-hj,<-hm2];exact congrArg Prod.snd hmm
 ·rw [nJ,<-hx5,<-hx4,<-hx3,<-hx2,<-hx1];rfl
 ·unfold Al
  rw [Am (x:=x5.IA (x5.D8.set (Ac e.h) FH)) (b:=x.b) hb5]
  exact h11
theorem M5 {x:Ez} {h:Nat} (h1:Ac h<x.en) (h2:B_ x.s (Ac h)=true) (h3:EC x.s (Ac h)=(F4 h:Int)) (h4:(Ba x (Ac h)).h=h):Dp x h=0:=by
 unfold Dp
 rw [if_neg (by omega),if_neg (fun hn=>hn ⟨h2,h3⟩),if_neg (fun hn=>hn h4)]
structure EnI (x:Ez) (s:Nat):Prop where
 sl:Ac (Ba x s).h=s
 ok:Dp x (Ba x s).h=0
 hh:(Ba x s).h<18446744073709551616
structure vH (x:Ez):Prop where
 live:∀s,B_ x.s s=true->EnI x s
 len:∀s,0<=(Ba x s).len/\(Ba x s).len<=65536
theorem nK {x:Ez} {k s:Nat} (hi:K4 x k) (h:B_ x.s s=true):s<x.en:=by
 unfold B_ at h
 cases hq:x.s.Cz[s]? with
 | none=>rw [hq] at h;cases h
 | some v=>have:=(List.getElem?_eq_some_iff.1 hq).1;have:=hi.l;omega
def gP (x:Ez) (k:Nat):List Nat:=(List.range k).filter fun i=>B_ x.s i
theorem ZP (x:Ez) (k:Nat):Ju x k=(gP x k).map fun i=>Ba x i:=rfl
structure FrK (x y:Aw):Prop where
 b:y.b=x.b
 E:y.tb.E=x.tb.E
 gen:y.tb.s.gen=x.tb.s.gen
 en:y.tb.en=x.tb.en
 tb:y.tb.tb=x.tb.tb
 bn:y.bn=x.bn
 us:y.us.length<=x.us.length
 l:y.l.length<=x.l.length
 sv:y.sv=x.sv
 es:y.es=x.es
 ms:y.ms=x.ms
 cap:y.cap=x.cap
theorem aY.keep {x y:Aw} {e:En} {l:GJ} {m:KS} {u:Li} {t:Ez} (h:aY x y e l m u t) (he:Dp x.tb e.h=0):FrK x y:=by
 have hr:=h.ft.r
 rw [if_pos he] at hr
 have h1:l.l.length<=x.l.length:=by rw [h.fl];exact List.length_filter_le _ _
 have h2:u.us.length<=x.us.length:=by rw [h.fu];exact List.length_filter_le _ _
 have h3:=h.ft.E
 have h4:=h.ft.k.en
 have h5:=h.ft.k.tb
 have h6:=hr.2.1
 rw [h.fy]
 clear h
 constructor<;>simp only [Aw.IA,Aw.GY,Aw.H_,Aw.CJ,Aw.EP]<;>assumption
theorem aY.AGw {x y:Aw} {e:En} {l:GJ} {m:KS} {u:Li} {t:Ez} (h:aY x y e l m u t) (hok:∀s∈x.mt,s.q.ok) (hel:0<=e.len/\e.len<=65536):(∀s∈y.mt,s.q.ok)/\y.mt.length<=x.mt.length+x.l.length+1:=by
 have h1:=Nj hok (Fa x.l (Ac e.h))
 obtain ⟨q2,hq2⟩:∃q2,GI (FW x.mt (Fa x.l (Ac e.h))) e.ow (Ni e)=q2:=⟨_,rfl⟩
 have hfm:=h.fm
 rw [hq2] at hfm
 have h2:=QX (p:=e.ow) (q:=Ni e) (r:=q2.1) (l':=q2.2) ⟨⟨hel.1,by show e.len<=_;omega⟩,(by decide:(0:Int)<=1/\(1:Int)<=1099511627776),(by decide:(0:Int)<=0/\(0:Int)<=1099511627776)⟩ h1.1 (hq2.trans (Prod.eta q2).symm)
 have h3:(Fa x.l (Ac e.h)).length<=x.l.length:=List.length_filter_le _ _
 rw [<-hfm] at h2
 have h4:=h2.2
 have h5:=h1.2
 have h6:y.mt=m.l:=by rw [h.fy];simp only [Aw.IA,Aw.GY,Aw.H_,Aw.CJ,Aw.EP]
 rw [h6]
 exact ⟨h2.1,by omega⟩
theorem aY.AGx {x y:Aw} {e:En} {l:GJ} {m:KS} {u:Li} {t:Ez} (h:aY x y e l m u t) (he:Dp x.tb e.h=0) (s:Nat) (hs:s≠Ac e.h):B_ y.tb.s s=B_ x.tb.s s:=by
 have hr:=h.ft.r
 rw [if_pos he] at hr
 have h6:y.tb=t:=by rw [h.fy];simp only [Aw.IA,Aw.GY,Aw.H_,Aw.CJ,Aw.EP]
 rw [h6]
 unfold B_
 rw [hr.2.2.1,List.getElem?_set_ne (Ne.symm hs)]
inductive KZ:Aw->Aw->List En->Prop
 | nil (x:Aw):KZ x x []
 | snoc {x y z:Aw} {es:List En} {e:En} {l:GJ} {m:KS} {u:Li} {t:Ez} : KZ x y es->aY y z e l m u t->Dp y.tb e.h=0->KZ x z (es++[e])
structure gQ (x y:Aw) (k i:Nat) (L:List Nat):Prop where
 b:y.b=x.b
 E:y.tb.E=x.tb.E
 gen:y.tb.s.gen=x.tb.s.gen
 en:y.tb.en=x.tb.en
 bn:y.bn=x.bn
 us:y.us.length<=x.us.length
 l:y.l.length<=x.l.length
 sv:y.sv=x.sv
 es:y.es=x.es
 ms:y.ms=x.ms
 cap:y.cap=x.cap
 tb:K4 y.tb (k+i)
 mt:y.mt.length<=x.mt.length+i*(x.l.length+1)
 PG:∀s∈y.mt,s.q.ok
 Cz:∀j,i<=j→∀s,L[j]? = some s->B_ y.tb.s s=true
theorem Nk {x y:Ez} (h:y.E=x.E) (s:Nat):Ba y s=Ba x s:=by unfold Ba;rw [h]
theorem gQ.res {x y:Aw} {k i:Nat} {L:List Nat} (h:gQ x y k i L) (hE:vH x.tb) (hL:∀s∈L,B_ x.tb.s s=true) {s:Nat} (hs:L[i]? = some s):Dp y.tb (Ba x.tb s).h=0/\Ac (Ba x.tb s).h=s:=by
 have h1:=hE.live s (hL s (List.mem_of_getElem? hs))
 obtain ⟨r1,r2,r3,r4⟩:=Dr h1.ok
 refine ⟨M5 (by rw [h.en];exact r1) (by rw [h1.sl];exact h.Cz i (Nat.le_refl _) s hs) ?_ ?_,h1.sl⟩
 ·rw [<-r3];unfold EC;rw [h.gen]
 ·rw [Nk h.E];exact r4
theorem gQ.skip {x y:Aw} {k i:Nat} {L:List Nat} (h:gQ x y k i L) (hk:k+i<10000):gQ x y k (i+1) L :=
 ⟨h.b,h.E,h.gen,h.en,h.bn,h.us,h.l,h.sv,h.es,h.ms,h.cap,h.tb.up (by omega) hk,by have:=h.mt;rw [Nat.succ_mul];omega,h.PG,fun j hj=>h.Cz j (by omega)⟩
theorem gQ.free {x y z:Aw} {k i:Nat} {L:List Nat} (h:gQ x y k i L) (hk:k+i<10000) (hE:vH x.tb) (hL:∀s∈L,B_ x.tb.s s=true) (hnd:L.Nodup) {s:Nat} (hs:L[i]? = some s) {l:GJ} {m:KS} {u:Li} {t:Ez} (hr:aY y z (Ba x.tb s) l m u t):gQ x z k (i+1) L:=by
 obtain ⟨h1,h2⟩:=h.res hE hL hs
 have hk1:=hr.keep h1
 have hm:=hr.AGw h.PG (hE.len s)
 refine ⟨hk1.b.trans h.b,hk1.E.trans h.E,hk1.gen.trans h.gen,hk1.en.trans h.en,hk1.bn.trans h.bn,Nat.le_trans hk1.us h.us,Nat.le_trans hk1.l h.l,hk1.sv.trans h.sv,hk1.es.trans h.es,hk1.ms.trans h.ms,hk1.cap.trans h.cap, ?_, ?_,hm.1, ?_⟩
 ·have h3:=K4.drop h.tb hk hr.ft
  have h6:z.tb=t:=by rw [hr.fy];simp only [Aw.IA,Aw.GY,Aw.H_,Aw.CJ,Aw.EP]
  rw [h6]
  exact h3
 ·have:=h.mt;have:=h.l;have:=hm.2;rw [Nat.succ_mul];omega
 ·intro j hj s2 hs2
  have hne:s2≠s:=by
   intro e
   subst e
   obtain ⟨a1,a2⟩:=List.getElem?_eq_some_iff.1 hs
   obtain ⟨b1,b2⟩:=List.getElem?_eq_some_iff.1 hs2
   exact List.pairwise_iff_getElem.1 hnd i j a1 b1 (by omega) (a2.trans b2.symm)
  rw [hr.AGx h1 s2 (by rw [h2];exact hne)]
  exact h.Cz j (by omega) s2 hs2
theorem gT:type_of% (And.intro (And.intro (And.intro (And.intro @Nat.mul_one @Ae) (And.intro @G_ @cM)) (And.intro (And.intro @Ce @Cf) (And.intro @Cg (And.intro @Ch @Ci)))) (And.intro (And.intro (And.intro @Cs @Ct) (And.intro @DT @DU)) (And.intro (And.intro @CW @CX) (And.intro @O9.eq_1 (And.intro @fQ.eq_1 @aF.eq_1))))):=(And.intro (And.intro (And.intro (And.intro @Nat.mul_one @Ae) (And.intro @G_ @cM)) (And.intro (And.intro @Ce @Cf) (And.intro @Cg (And.intro @Ch @Ci)))) (And.intro (And.intro (And.intro @Cs @Ct) (And.intro @DT @DU)) (And.intro (And.intro @CW @CX) (And.intro @O9.eq_1 (And.intro @fQ.eq_1 @aF.eq_1)))))
def gU (n:Nat):Qu:=⟨0,0,(n:Int)⟩
structure gV where
 n:Nat
 er:Int
 y:Aw
def gW (i:gV):Value:=.tuple #[.int .i64 (i.n:Int),.int .i64 i.er]
structure EdG (x y:Aw) (p:Int) (n:Nat) (l:GJ) (m:KS) (x3:Aw) (es:List En) (ei:df):Prop where
 fl:l.l=x.l.filter fun b => !decide (b.ho=p)
 fm:(m.r,m.l)=GI x.mt p (gU (ED x.l p))
 fe:es=(Ju x.tb x.tb.en).filter fun e=>decide (e.ow=p)
 fr:KZ ((x.EP l).CJ m) x3 es
 lp:∃k i,gQ ((x.EP l).CJ m) x3 k i (gP x.tb x.tb.en)
 fn:n=es.length
 ev:(ei.r,ei.es)=Lx x.cap x.es ⟨p,33,0,n,0⟩
 fy:y=(x3.MC (x.sv.set p.toNat 2)).I7 ei
structure EdR (x:Aw) (p:Int) (i:gV):Prop where
 r:if DK x.sv p=false then i.n=0/\i.er=15/\i.y=x else i.er=0∧∃l m x3 es ei,EdG x i.y p i.n l m x3 es ei
theorem Da {sv:List Int} {p:Int} (h:DK sv p=true):1<=p/\p<=64:=by
 unfold DK at h
 simp at h
 exact ⟨h.1,h.2.1⟩
theorem S_ (l:List Bw) (p:Int):ED l p<=l.length:=List.length_filter_le _ _
theorem nL (x:Aw) {b:Nat} (hb:x.b=b) (p:Int) (k:Nat) (hk:k<=9900) (hi:K4 x.tb k) (hE:vH x.tb) (hsm:x.tb.en<=8) (hl:x.l.length<=1000) (hm:x.mt.length<=60000) (hok:∀s∈x.mt,s.q.ok) (hu:x.us.length<=90) (hbn:x.bn=x.tb.en) (hes:x.es.length<=80000) (W:World) (hst:St (Ak (Al x)) W (Al x) W) :
  Calls Tryz.prog 20 #[.pointer (some ⟨b,0,none⟩),.int .i64 p] W
  fun en w' => ∃i:gV,en = .returned (gW i)/\EdR x p i/\St (Ak (Al x)) W (Al i.y) w':=by
 subst hb
 have hsv:=Aw.svl hst
 obtain ⟨M,hM⟩:∃M,Ak (Al x)=M:=⟨_,rfl⟩
 rw [hM] at hst ⊢
 clear hM
 unfold Al Du at hst
 refine Ab (M:=M) Tryz.func20 [.tmp 4,.tmp 5]  hst ?_
 have zs:=Bd.mk gT
 refine Aq ?_
 refine AV [0,1] fun G1 g1=>?_
 replace g1:=Bi g1
 refine AB fun K k0=>?_
 refine AQ rfl fun K k1=>?_
 have zg:=Bd.mk g1
 refine AR ?_
 refine Bq (Al x) (List.Sublist.refl _) (fun _:Unit=>.bool (DK x.sv p)) _ (fun w hw=>Ho x rfl p w hw) ?_
 intro _ _
 refine AR ?_
 refine k1 _ _ ?_
 refine AL ?_
 cases ha:DK x.sv p with
 | false =>
  refine Ap ha ?_
  refine BH ?_
  refine AP (Br fun w hw=>?_)
  exact ⟨⟨0,15,x⟩,rfl,⟨by rw [if_pos ha];exact ⟨rfl,rfl,rfl⟩⟩,hw⟩
 | true =>
 refine Ap ha ?_
 refine AO (k0 _ _ ?_)
 have hpr:=Da ha
 refine AB fun K k0=>?_
 refine CF (Ag [] _) (fun w hw=>hw.pick (by decide)) (by simp only [Ag,nth,Be,Bv,List.mem_cons,true_or,or_true,and_true,eq_self]) [(true,0),(true,1),(true,2),(true,3),(true,4),(true,5),(true,6),(true,7),(false,8),(true,9),(false,10)] [10] CB rfl (by kernel_rfl) (by kernel_rfl) rfl rfl ?_
 refine AR ?_
 refine Af [] (Al x) (List.Perm.refl _) (fun _:GJ=>.int .i64 (ED x.l p:Int)) (fun l=>Al (x.EP l)) _ (fun w hw=>Rm x rfl p (by omega) w hw) ?_
 intro l hll
 obtain ⟨x1,hx1⟩:∃x1,x.EP l=x1:=⟨_,rfl⟩
 have hb1:x1.b=x.b:=by rw [<-hx1];rfl
 rw [hx1]
 unfold Al
 rw [Am hb1]
 dsimp only [List.cons_append,List.nil_append]
 have hm1:x1.mt=x.mt:=by rw [<-hx1];rfl
 have hhl:=S_ x.l p
 refine AR ?_
 refine Af [] (Al x1) (by unfold Al;rw [Am hb1];exact List.Perm.refl _) JI (fun i=>Al (x1.CJ i)) _ (fun w hw=>M0 x1 hb1 p (gU (ED x.l p)) (by rw [hm1];omega) ⟨(by decide:(0:Int)<=0/\(0:Int)<=1099511627776),(by decide:(0:Int)<=0/\(0:Int)<=1099511627776),(by show (0:Int)<=(ED x.l p:Int)/\(ED x.l p:Int)<=_;omega)⟩ (by rw [hm1];exact hok) w hw) ?_
 intro m hmm
 unfold JI
 obtain ⟨x2,hx2⟩:∃x2,x1.CJ m=x2:=⟨_,rfl⟩
 have hb2:x2.b=x.b:=by rw [<-hx2];exact hb1
 rw [hx2]
 unfold Al
 rw [Am hb2]
 dsimp only [List.cons_append,List.nil_append]
 have ht2:x2.tb=x.tb:=by rw [<-hx2,<-hx1];rfl
 refine AR ?_
 refine k0 _ _ ?_
 refine AV [0,1] fun G2 g2=>?_
 replace g2:=Bg g2
 refine AQ rfl fun K k0=>?_
 replace zg:=Bd.mk g2
 refine AR ?_
 refine Af [] (Al x2) (by unfold Al;rw [Am hb2];exact List.Perm.refl _) fQ (fun i=>.row (.slice i.A i.n i.c) 135 5 i.n (Ca (Ju x2.tb x2.tb.en))::Al x2) _ (fun w hw=>nE x2 k (by rw [ht2];exact hi) w hw) ?_
 rintro ⟨A,n,c⟩ hn
 dsimp only at hn ⊢
 unfold Al
 rw [Am hb2]
 dsimp only [List.cons_append,List.nil_append]
 refine AR ?_
 refine k0 _ _ ?_
 obtain ⟨S,hS⟩:∃S,gP x2.tb x2.tb.en=S:=⟨_,rfl⟩
 obtain ⟨E0,hE0⟩:∃E0,Ju x2.tb x2.tb.en=E0:=⟨_,rfl⟩
 have hES:E0=S.map fun i=>Ba x2.tb i:=by rw [<-hE0,<-hS];exact ZP _ _
 have hlen:=Ms x2.tb x2.tb.en
 rw [hE0] at hn hlen
 rw [hE0]
 have AJz:x2.tb.en<=8:=by rw [ht2];exact hsm
 have hSl:∀s∈S,B_ x2.tb.s s=true:=fun s hs=>by rw [<-hS] at hs;exact (List.mem_filter.1 hs).2
 have hSn:S.Nodup:=by rw [<-hS];exact List.Pairwise.filter _ List.nodup_range
 have hE2:vH x2.tb:=by rw [ht2];exact hE
 have hl2:x2.l.length<=1000:=by
  rw [<-hx2,<-hx1]
  show l.l.length<=1000
  rw [hll]
  exact Nat.le_trans (List.length_filter_le _ _) hl
 have hm2:=QX (p:=p) (q:=gU (ED x.l p)) (r:=m.r) (l':=m.l) ⟨(by decide:(0:Int)<=0/\(0:Int)<=1099511627776),(by decide:(0:Int)<=0/\(0:Int)<=1099511627776),(by show (0:Int)<=(ED x.l p:Int)/\(ED x.l p:Int)<=_;omega)⟩ hok (by rw [<-hm1];exact hmm.symm)
 have AB0:x2.mt=m.l:=by rw [<-hx2];rfl
 have AGz:x2.us=x.us:=by rw [<-hx2,<-hx1];rfl
 have AG0:x2.bn=x.bn:=by rw [<-hx2,<-hx1];rfl
 have AG1:x2.sv=x.sv:=by rw [<-hx2,<-hx1];rfl
 have AG2:x2.es=x.es:=by rw [<-hx2,<-hx1];rfl
 have hcp2:x2.cap=x.cap:=by rw [<-hx2,<-hx1];rfl
 have h0:gQ x2 x2 k 0 S:=⟨rfl,rfl,rfl,rfl,rfl,Nat.le_refl _,Nat.le_refl _,rfl,rfl,rfl,rfl,by rw [ht2];exact hi,by omega,by rw [AB0];exact hm2.1,fun j _ s hs=>hSl s (List.mem_of_getElem? hs)⟩
 refine BH ?_
 refine AB fun K k0=>?_
 refine BH ?_
 refine AV [0,1,6,7,8] fun G3 g3=>?_
 replace g3:=Bg g3
 refine Ad ?_
 refine BP (fun F' L' => ∃(i:Nat) (y:Aw) (cn:Nat),Az F' G3 [0,1,6]/\F' 7 = .int .i64 (cn:Int)/\F' 8 = .int .i64 (i:Int)/\L'=[.row (.slice A n c) 135 5 n (Ca E0),.blk x.b 65 [y.y0,y.y1,y.y2,y.y3,y.y4,y.y5,y.y6,y.y7,y.y8,.slice y.TA y.tn y.tc,.int .i64 y.N,.slice y.UA y.un y.uc,.pointer (some ⟨y.tb.tb,0,none⟩),.slice y.LA y.ln y.lc,.int .i64 y.lim.qb,.int .i64 y.lim.qo,.int .i64 y.lim.qr,.slice y.MA y.mn y.mc,.int .i64 y.cap,.slice y.EA y.en y.ec,.slice y.SA y.sn y.sc,.slice y.BA y.bn y.bc,.slice (some ⟨y.g,0,none⟩) 65 65],Cj (DW y)]/\i<=n/\gQ x2 y k i S/\KZ x2 y ((E0.take i).filter fun e=>decide (e.ow=p))/\cn=((E0.take i).filter fun e=>decide (e.ow=p)).length) (fun F' L'=>200000-(intOf (F' 8)).toNat) ?_ ?_
 ·refine ⟨0,x2,0, ?_⟩
  replace zg:=Bd.mk g3
  refine AR ?_
  exact ⟨Nat.zero_le _,h0,KZ.nil _,rfl⟩
 intro G4 L' hI
 obtain ⟨i,y,cn,zq,Lv,QU,rfl,⟨hin,hlp,hfa,hcn⟩⟩:=hI
 replace zg:=Bd.mk g3
 have g4:=And.intro (Bg zq) (And.intro Lv QU)
 refine AB fun K k1=>?_
 replace zg:=Bd.mk (And.intro g3 g4)
 refine BH ?_
 refine Dl (fun hc=>?_) fun hc=>?_
 ·refine AO ?_
  try simp only [BJ,BX]
  have hit:i<n:=by have:=of_decide_eq_true ‹decide ((i:Int)<(n:Int))=true›;omega
  have AJ1:E0.length=n:=by omega
  obtain ⟨s,hs⟩:∃s,S[i]? = some s:=⟨_,List.getElem?_eq_getElem (by have:=congrArg List.length hES;rw [List.length_map] at this;omega)⟩
  obtain ⟨e,he⟩:∃e,Ba x2.tb s=e:=⟨_,rfl⟩
  have IM:E0[i]? = some e:=by rw [hES,List.getElem?_map,hs,<-he];rfl
  obtain ⟨r1,r2⟩:=hlp.res hE2 hSl hs
  have hEs:=hE2.live s (hSl s (List.mem_of_getElem? hs))
  have hfs:=ET IM (fun e=>decide (e.ow=p))
  rw [he] at r1 r2
  have hh:=hEs.hh
  have hel:=hE2.len s
  rw [he] at hh hel
  have hi8:i<8:=by omega
  have hcb:cn<=8:=by
   have h1:=List.length_filter_le (fun e:En=>decide (e.ow=p)) (E0.take i)
   rw [<-hcn,List.length_take] at h1
   omega
  have AJ3:y.mt.length<=70000:=by
   have h1:=hlp.mt
   have h2:=hm2.2
   rw [<-AB0] at h2
   have h3:i*(x2.l.length+1)<=8*1001:=Nat.mul_le_mul (by omega) (by omega)
   omega
  refine k1 _ _ ?_
  refine BQ 0 rfl (by omega) fun g DJ hg Bl=>?_
  subst DJ
  simp only [List.eraseIdx_cons_zero,List.eraseIdx_cons_succ,BC,BD,BI,A_,and_true,List.not_mem_nil,or_false,gT] at Bl hg
  replace hg:=And.intro hg Bl
  clear Bl
  refine AB fun K k1=>?_
  refine Ad ?_
  refine AQ rfl fun K k2=>?_
  refine AR ?_
  refine Aj (BN (m:=1) (i:=i*5+1) (v:=.int .i64 e.ow) (AZ (k:=0) rfl) rfl (Co FC IM (by omega))) ?_
  refine AR ?_
  refine k2 _ _ ?_
  refine AL ?_
  by_cases hp:e.ow=p
  case neg =>
   rw [if_neg (by simpa using hp),List.append_nil] at hfs
   refine Ap hp ?_
   refine AO (k1 _ _ ?_)
   refine AF rfl ?_
   refine AR ?_
   refine ⟨⟨i+1,y,cn, ?_⟩, ?_⟩
   ·refine Ap @Int.natCast_add ?_
    exact ⟨by omega,hlp.skip (by omega),by rw [hfs];exact hfa,by rw [hfs];exact hcn⟩
   ·simp only [intOf];omega
  rw [if_pos (by simpa using hp)] at hfs
  have dp:decide (e.ow=p)=true:=decide_eq_true hp
  refine Ap dp ?_
  refine AQ rfl fun K k2=>?_
  refine AR ?_
  refine Aj (DX (i:=i*5) (vs:=enc e) (AZ (k:=0) rfl) (by kernel_rfl) (FB FC IM)) ?_
  refine AR ?_
  simp only [enc,List.length_cons,List.length_nil,true_and]
  refine Af [.row (.slice (some ⟨g,0,none⟩) n c) 135 5 n (Ca E0)] (Al y) (by unfold Al;rw [Am (hlp.b.trans hb2)];exact List.Perm.refl _) (fun _:Aw=>.tuple #[]) (fun z=>Al z) _ (fun w hw=>WM y (hlp.b.trans hb2) e r1 hh (k+i) hlp.tb (Nat.le_trans hlp.l hl2) (by omega) hlp.PG (by have:=hlp.us;rw [AGz] at this;omega) hel (by rw [hlp.bn,AG0,hbn,hlp.en,ht2]) w hw) ?_
  rintro z ⟨lz,mz,uz,tz,hz⟩
  have hzb:z.b=x.b:=(hz.keep r1).b.trans (hlp.b.trans hb2)
  unfold Al
  rw [Am hzb]
  dsimp only [List.cons_append,List.nil_append]
  refine AR ?_
  refine k2 _ _ ?_
  refine BF [2,0,1] (by decide) ?_
  simp only [Ag,nth]
  refine AU rfl ?_
  refine AR ?_
  refine k1 _ _ ?_
  refine AF rfl ?_
  refine AR ?_
  refine ⟨⟨i+1,z,cn+1, ?_⟩, ?_⟩
  ·refine Ap @Int.natCast_add ?_
   refine ⟨by omega,hlp.free (by omega) hE2 hSl hSn hs (by rw [he];exact hz),by rw [hfs];exact hfa.snoc hz r1,by rw [hfs,List.length_append,List.length_singleton,<-hcn]⟩
  ·simp only [intOf];omega
 refine BM (k0 _ _ ?_)
 have hin2:i=n:=by have:=of_decide_eq_false ‹decide ((i:Int)<(n:Int))=false›;omega
 subst hin2
 rw [List.take_of_length_le (by omega)] at hfa hcn
 have hcb:cn<=8:=by
  have h1:=List.length_filter_le (fun e:En=>decide (e.ow=p)) E0
  rw [<-hcn] at h1
  omega
 obtain ⟨np,hnp⟩:∃np:Nat,p=(np:Int):=⟨p.toNat,by omega⟩
 have hyv:y.sv=x.sv:=hlp.sv.trans AG1
 have hyb:y.b=x.b:=hlp.b.trans hb2
 refine BF [1,2] (by decide) ?_
 simp only [Ag,nth]
 refine AV [0,1,7] fun G5 g5=>?_
 replace g5:=Bg g5
 refine Cq [.blk x.b 65 [y.y0,y.y1,y.y2,y.y3,y.y4,y.y5,y.y6,y.y7,y.y8,.slice y.TA y.tn y.tc,.int .i64 y.N,.slice y.UA y.un y.uc,.pointer (some ⟨y.tb.tb,0,none⟩),.slice y.LA y.ln y.lc,.int .i64 y.lim.qb,.int .i64 y.lim.qo,.int .i64 y.lim.qr,.slice y.MA y.mn y.mc,.int .i64 y.cap,.slice y.EA y.en y.ec,.slice y.SA y.sn y.sc,.slice y.BA y.bn y.bc,.slice (some ⟨y.g,0,none⟩) 65 65],.row (.slice (some ⟨y.g,0,none⟩) 65 65) 3 1 65 (Bf y.sv),Cj ((DW y).eraseIdx 7)] (fun w hw=>hw.Fj (k:=7) rfl) ?_
 refine BQ 1 rfl (by omega) fun gN_ DJ UQ hN=>?_
 cases DJ
 clear UQ
 simp only [List.eraseIdx_cons_zero,List.eraseIdx_cons_succ,BC,BD,BI,A_,and_true,gT] at hN
 have hset:(Bf y.sv).set np (.int .i64 2)=Bf (y.sv.set np 2):=H8 _ _ _
 refine AQ rfl fun K k0=>?_
 replace zg:=Bd.mk (And.intro g3 (And.intro g4 g5))
 refine Ap hnp ?_
 refine Aj (EW 1 (i:=np) (v:=.int .i64 2) rfl (by rw [CG,hyv];omega) (by kernel_rfl) rfl rfl) ?_
 refine Ap hset ?_
 refine k0 _ _ ?_
 obtain ⟨y1,hy1⟩:∃y1,y.MC (y.sv.set np 2)=y1:=⟨_,rfl⟩
 have nM:y1.b=x.b:=by rw [<-hy1];exact hyb
 have AB1:y1.es=x.es:=by rw [<-hy1];exact hlp.es.trans AG2
 have AG3:y1.cap=x.cap:=by rw [<-hy1];exact hlp.cap.trans hcp2
 refine Cq (Al y1) (fun w hw=>by have h1:=hw.FV (k:=7) _ (by show 7<11;decide);unfold Al;rw [Am nM,<-hy1];exact h1) ?_
 unfold Al
 rw [Am nM]
 have hw64:IntKind.u64.wrap (cn:Int)=(cn:Int):=gY (by omega)
 refine AQ rfl fun K k0=>?_
 refine Ap hw64 ?_
 refine Af [] (Al y1) (by unfold Al;rw [Am nM];exact List.Perm.refl _) UK (fun i=>Al (y1.I7 i)) _ (fun w hw=>MB y1 nM ⟨p,33,0,cn,0⟩ (AB1▸(Nat.le_trans hes (by decide))) w hw) ?_
 intro ei hei
 unfold UK
 refine AR ?_
 refine k0 _ _ ?_
 refine BH ?_
 refine AP (Br fun w hw=>?_)
 rw [AB1,AG3] at hei
 rw [ht2] at hE0 hS
 have hfy:y1.I7 ei=(y.MC (x.sv.set p.toNat 2)).I7 ei:=by rw [<-hy1,hnp,Int.toNat_natCast,hyv]
 exact ⟨⟨cn,0,y1.I7 ei⟩,rfl,⟨by rw [if_neg (by rw [ha];decide)];exact ⟨rfl,l,m,y,E0.filter fun e=>decide (e.ow=p),ei,⟨hll,by rw [<-hm1];exact hmm,by rw [hE0],by rw [hx1,hx2];exact hfa,⟨k,i,by rw [hx1,hx2,hS];exact hlp⟩,hcn,hei,hfy⟩⟩⟩,hw⟩
theorem AB2 (op:BinOp) (a b:Int):0<=bits op .u64 a b/\bits op .u64 a b<18446744073709551616:=by
 unfold bits
 dsimp only
 rw [IntKind.wrap_u64]
 omega
def gZ (off n:Int) (size:Nat):Bool:=decide (0<=off/\off<=(size:Int)/\n<=(size:Int)-off)
theorem Gm (off n:Int) (size:Nat) (hs:size<=4611686018427387904) (W:World):Calls Tryz.prog 100 #[.int .i64 off,.int .i64 n,.int .i64 (size:Int)] W fun en w'=>en = .returned (.bool (gZ off n size))/\Below W.heap.size W w':=by
 refine Ab (M:=[]) Tryz.func100 [.tmp 6] (St.nil _ _) ?_
 have zs:=Bd.mk Bb
 refine Aq ?_
 by_cases h1:0<=off
 case neg =>
  have d1:¬(off≥0):=h1
  have ha:gZ off n size=false:=decide_eq_false (fun h=>h1 h.1)
  refine LX d1 ?_
  refine AP (Cc fun w hw=>?_)
  exact ⟨by rw [ha],hw.below⟩
 have d1:decide (off≥0)=true:=decide_eq_true h1
 by_cases h2:off<=(size:Int)
 case neg =>
  have ha:gZ off n size=false:=decide_eq_false (fun h=>h2 h.2.1)
  refine LX (And.intro d1 h2) ?_
  refine AP (Cc fun w hw=>?_)
  exact ⟨by rw [ha],hw.below⟩
 have d2:decide (off<=(size:Int))=true:=decide_eq_true h2
 have ha:gZ off n size=decide (n<=(size:Int)-off):=by
  unfold gZ
  exact decide_eq_decide.2 ⟨fun h=>h.2.2,fun h=>⟨h1,h2,h⟩⟩
 refine LX (And.intro d1 d2) ?_
 refine AP (Cc fun w hw=>?_)
 exact ⟨by rw [ha],hw.below⟩
theorem gp (v:Int) (wd:Nat) (W:World):Calls Tryz.prog 99 #[.int .u64 v,.int .i64 (wd:Int)] W fun en w'=>(∃b:Bool,en = .returned (.bool b)/\True)/\Below W.heap.size W w':=by
 refine Ab (M:=[]) Tryz.func99 [.tmp 4] (St.nil _ _) ?_
 have zs:=Bd.mk Bb
 refine Aq ?_
 by_cases h1:8<=wd
 ·have d1:decide ((wd:Int)≥8)=true:=decide_eq_true (by omega)
  refine LX d1 ?_
  refine AP (Cc fun w hw=>?_)
  exact ⟨⟨true,rfl,trivial⟩,hw.below⟩
 have d1:¬((wd:Int)≥8):=by omega
 refine AQ rfl fun K k0=>?_
 simp -implicitDefEqProofs (disch:=first|omega|decide) only [seval, -Int.reducePow, -Nat.reducePow,cC,pv,Ao,Az,undef,Bb,d1,IntKind.bits]
 refine k0 _ _ ?_
 refine AP (Cc fun w hw=>?_)
 exact ⟨⟨_,rfl,trivial⟩,hw.below⟩
theorem WN (A:Option Addr) (n c:Nat) (l:List Nat) (W:World) (hE:Sl W W.heap.size 1 A n c (Gs l)) (hn:n<=100000):Calls Tryz.prog 98 #[.slice A n c] W fun en w'=>(∃v:Int,en = .returned (.int .u64 v)/\0<=v/\v<18446744073709551616)/\Below W.heap.size W w':=by
 have hlen:l.length=n:=by have:=hE.len;rw [Gc] at this;omega
 refine Ab (M:=[]) Tryz.func98 [.tmp 2] (St.nil _ _) ?_
 have zs:=Bd.mk Bb
 refine Aq ?_
 refine Aq ?_
 refine AB fun K k0=>?_
 refine Aq ?_
 refine AV [0,3,4] fun G1 g1=>?_
 replace g1:=Bi g1
 refine Ad ?_
 refine BP (fun F' L' => ∃(j:Nat) (v:Int),F' 0=G1 0/\F' 3 = .int .u64 v/\F' 4 = .int .i64 ((j:Int)-1)/\L'=[]/\j<=n/\0<=v/\v<18446744073709551616) (fun F' L'=>(intOf (F' 4)+1).toNat) ?_ ?_
 ·refine ⟨n,0, ?_⟩
  have zg:=Bd.mk g1
  exact MQ
 intro G2 L' hI
 obtain ⟨j,v,Vz,mr,Ou,rfl,⟨hj,hv0,hv1⟩⟩:=hI
 have zg:=Bd.mk g1
 have g2:=And.intro (Bg Vz) (And.intro mr Ou)
 refine AB fun K k1=>?_
 replace zg:=Bd.mk (And.intro g1 g2)
 refine BH ?_
 refine Dl (fun hc=>?_) fun hc=>?_
 ·refine AO ?_
  try simp only [BJ,BX]
  have hj1:1<=j:=by have:=of_decide_eq_true ‹decide ((j:Int)-1≥0)=true›;omega
  obtain ⟨m,rfl⟩:∃m,j=m+1:=⟨j-1,by omega⟩
  have hm1:((m+1:Nat):Int)-1=(m:Int):=by omega
  obtain ⟨b,off,rfl, -⟩:=hE.cells (by omega)
  obtain ⟨e,he⟩:∃e,l[m]? = some e:=⟨_,List.getElem?_eq_getElem (by omega)⟩
  refine k1 _ _ ?_
  refine AB fun K k1=>?_
  refine Ad ?_
  refine AU rfl ?_
  simp -implicitDefEqProofs (disch:=first|omega|decide) only [seval, -Int.reducePow, -Nat.reducePow,cC,pv,Ao,Az,undef,Bb,hm1,IntKind.bits,g1,g2]
  refine Aj (hE.ld1 (m:=1) (i:=m) (v:=.int .u8 e) rfl (Tp he)) ?_
  simp -implicitDefEqProofs (disch:=first|omega|decide) only [seval, -Int.reducePow, -Nat.reducePow,cC,pv,Ao,Az,undef,Bb,IntKind.bits,g1,g2]
  refine k1 _ _ ?_
  refine AF rfl ?_
  refine Ap hm1 ?_
  refine ⟨⟨m,_,rfl, ?_⟩, ?_⟩
  ·exact ⟨rfl,by omega,(AB2 _ _ _).1,(AB2 _ _ _).2⟩
  ·simp only [intOf];omega
 refine BM (k0 _ _ ?_)
 refine BH ?_
 refine AP (Br fun w hw=>?_)
 exact ⟨⟨v,rfl,hv0,hv1⟩,hw.below⟩
def gq:U7:=⟨0,none,0,0,[]⟩
def PH (x:Aw) (tag:Int):U7:=(x.Gw[(tag-1).toNat]?).getD gq
def Ro (x:Aw) (tag:Int):Int:=if tag<1\/(x.tn:Int)<tag then 20 else 0
def UW (t:U7):Value:=.agg #[.int .i64 t.len,.slice t.A t.n t.c]
def di (x:Aw) (tag:Int):Value:=.tuple #[UW (if Ro x tag=0 then PH x tag else gq),.int .i64 (Ro x tag)]
theorem MG (x:Aw) {b:Nat} (hb:x.b=b) (tag:Int) (W:World) (hst:St (Ak (Al x)) W (Al x) W) :
  Calls Tryz.prog 88 #[.pointer (some ⟨b,9,none⟩),.int .i64 tag] W
  fun en w' => ∃i:Unit,en = .returned (di x tag)/\True/\St (Ak (Al x)) W (Al x) w':=by
 subst hb
 have hl:=Aw.tyl hst
 have hmx:x.tn<=9223372036854775807:=by
  have h9:=Sl.Av (hst.Fj (k:=0) rfl) (AZ (k:=1) rfl)
  have:=h9.cap
  have:=h9.max
  omega
 obtain ⟨M,hM⟩:∃M,Ak (Al x)=M:=⟨_,rfl⟩
 rw [hM] at hst ⊢
 clear hM
 have hst:=hst.Fj (k:=0) rfl
 have hU:∀ {w:World},St M W [Du x,.row (.slice x.TA x.tn x.tc) 81 2 x.tn (x.Gw.flatMap RQ),Cj ((DW x).eraseIdx 0)] w->St M W (Al x) w:=fun h=>h.FV (k:=0) _ (by show 0<11;decide)
 unfold Du at hst
 refine DY (M:=M) (n:=26) [.cell 4 81,.tmp 5] rfl Tryz.func88 rfl rfl (Nat.le_of_ble_eq_true rfl)  hst ?_
 refine AQ rfl fun K k0=>?_
 have zs:=Bd.mk De
 refine Ah ?_
 intro b4 hb4 r_
 refine k0 _ _ ?_
 refine AV [0,1,4] fun G1 g1=>?_
 replace g1:=Bi g1
 refine AB fun K k0=>?_
 refine AB fun K k1=>?_
 refine A9 (fun _ _=>True) (fun F' L'=>Az F' G1 [0,1,4]/\F' 16 = .bool (decide (tag<1\/(x.tn:Int)<tag))/\L'=[.blk b4 81 [.int .i64 0,.slice none 0 0],.blk x.b 65 [x.y0,x.y1,x.y2,x.y3,x.y4,x.y5,x.y6,x.y7,x.y8,.slice x.TA x.tn x.tc,.int .i64 x.N,.slice x.UA x.un x.uc,.pointer (some ⟨x.tb.tb,0,none⟩),.slice x.LA x.ln x.lc,.int .i64 x.lim.qb,.int .i64 x.lim.qo,.int .i64 x.lim.qr,.slice x.MA x.mn x.mc,.int .i64 x.cap,.slice x.EA x.en x.ec,.slice x.SA x.sn x.sc,.slice x.BA x.bn x.bc,.slice (some ⟨x.g,0,none⟩) 65 65],.row (.slice x.TA x.tn x.tc) 81 2 x.tn (x.Gw.flatMap RQ),Cj ((DW x).eraseIdx 0)]) ?_ ?_
 ·refine AF rfl ?_
  have zg:=Bd.mk g1
  refine AR ?_
  repeat' ((first|refine Ck (fun hg=>?_) (fun hg=>?_)|refine Cm (fun hg=>?_) (fun hg=>?_))<;>((try simp only [Bool.not_eq_true',Bool.not_eq_false',decide_eq_true_eq,decide_eq_false_iff_not] at hg);(try simp -implicitDefEqProofs (disch:=first|omega|decide) only [seval, -Int.reducePow, -Nat.reducePow,cC,pv,Ao,Az,undef,De,hg,g1])))
  all_goals (repeat' refine And.intro ?_ ?_)
  all_goals (first|with_reducible rfl|(refine congrArg Value.bool ?_;rw [Bool.eq_iff_iff];(try simp only [decide_eq_true_eq,eq_self,true_and,and_true,false_and,and_false,true_or,or_true,false_or,or_false,not_true_eq_false,not_false_eq_true,true_iff,iff_true,false_iff,iff_false,Bool.false_eq_true,Bool.not_eq_true',Bool.not_eq_true,decide_eq_false_iff_not,Bool.and_eq_true,Bool.or_eq_true])<;>omega)|(refine congrArg (Value.int _) ?_;omega)|omega)
 intro G2 L' _ hF
 obtain ⟨zq,sV,rfl⟩:=hF
 have zg:=Bd.mk g1
 have g2:=And.intro (Bg zq) sV
 refine k1 _ _ ?_
 replace zg:=Bd.mk g2
 refine Dl (fun hc=>?_) fun hc=>?_
 ·have hc':=of_decide_eq_true hc
  have he:Ro x tag=20:=by unfold Ro;rw [if_pos hc']
  refine BH ?_
  refine AP ?_
  simp -implicitDefEqProofs (disch:=first|omega|decide) only [seval, -Int.reducePow, -Nat.reducePow,cC,pv,Ao,Az,undef,De,Dx,Cx,Cw,g2]
  intro w hw
  exact ⟨(),by unfold di;rw [he];rfl,hU hw.tail⟩
 have hc':=of_decide_eq_false hc
 have he:Ro x tag=0:=by unfold Ro;rw [if_neg hc']
 refine AO (k0 _ _ ?_)
 obtain ⟨n,rfl⟩:∃n:Nat,tag=(n:Int)+1:=⟨(tag-1).toNat,by omega⟩
 obtain ⟨t,ht⟩:∃t,x.Gw[n]? = some t:=⟨_,List.getElem?_eq_getElem (by omega)⟩
 have hk:PH x ((n:Int)+1)=t:=by
  unfold PH
  have:((n:Int)+1-1).toNat=n:=by omega
  rw [this,ht];rfl
 have hn1:(n:Int)+1-1=(n:Int):=by omega
 obtain ⟨TA,hTA⟩:∃TA,x.TA=TA:=⟨_,rfl⟩
 rw [hTA]
 refine BQ 2 rfl (by omega) fun g DJ hg Bl=>?_
 subst DJ
 simp only [List.eraseIdx_cons_zero,List.eraseIdx_cons_succ,BC,BD,BI,A_,and_true,List.not_mem_nil,or_false,De] at Bl hg
 replace hg:=And.intro hg Bl
 clear Bl
 refine AQ rfl fun K k0=>?_
 refine Ap hn1 ?_
 refine Aj (DX (i:=n*2) (vs:=RQ t) (AZ (k:=2) rfl) (by kernel_rfl) (FB M4 ht)) ?_
 refine Ap hn1 ?_
 simp only [RQ,List.length_cons,List.length_nil,true_and]
 refine AR ?_
 refine k0 _ _ ?_
 refine AP ?_
 simp -implicitDefEqProofs (disch:=first|omega|decide) only [seval, -Int.reducePow, -Nat.reducePow,cC,pv,Ao,Az,undef,De,Dx,Cx,Cw,g2]
 intro w hw
 rw [<-hTA] at hw
 exact ⟨(),by unfold di;rw [he,if_pos rfl,hk];rfl,hU hw.tail⟩
section
variable {M:List Nat} {W w:World} {L:List Ai}
theorem Aw.sW {x:Aw} (h:St M W (Du x::Cj (DW x)::L) w) {t:U7} (ht:t∈x.Gw):Sl w w.heap.size 2 t.A t.n t.c (cl QV t.fs):=by
 have h1:=(h.Fj (k:=9) rfl).swp.Il
 exact Sl.Av h1 (List.mem_append.2 (.inl (List.mem_map.2 ⟨t,ht,rfl⟩)))
theorem Aw.UX {x:Aw} (h:St M W (Du x::Cj (DW x)::L) w) {t:WG} (ht:t∈x.D8):Sl w w.heap.size 1 t.A t.n t.c (Gs t.l):=by
 have h1:=(h.Fj (k:=10) rfl).swp.Il
 exact Sl.Av h1 (List.mem_append.2 (.inl (List.mem_map.2 ⟨t,ht,rfl⟩)))
end
theorem qB:type_of% (And.intro (And.intro @Gn.eq_1 (And.intro @ZQ.eq_1 @QY.eq_1)) (And.intro (And.intro @Nat.mul_one @Ae) (And.intro @G_ @cM))):=(And.intro (And.intro @Gn.eq_1 (And.intro @ZQ.eq_1 @QY.eq_1)) (And.intro (And.intro @Nat.mul_one @Ae) (And.intro @G_ @cM)))
theorem aZ (A:Option Addr) (n c:Nat) (fs:List Fd) (len:Int) (W:World) (hE:Sl W W.heap.size 2 A n c (cl QV fs)) (hck:I9 len fs=0) :
  Calls Tryz.prog 89 #[QY len A n c] W fun e w'=>e = .returned (.tuple #[.int .i64 (D6 len fs),.int .i64 0])/\Below W.heap.size W w':=by
 have hln:fs.length=n:=Iy FF (by omega) hE.len
 obtain ⟨c1,c2,c3,c4,c5,c6,c7⟩:=IB hck
 refine Ab (M:=[]) Tryz.func89 [.tmp 2,.tmp 3] (St.nil _ _) ?_
 refine AQ rfl fun K k0=>?_
 have zs:=Bd.mk qB
 refine Ah ?_
 intro b1 hb1
 refine k0 _ _ ?_
 refine AB fun K k0=>?_
 refine AQ rfl fun K k1=>?_
 refine Ah ?_
 refine Aa (fun w hw=>Jy A n c fs len w (hE.at hw)) ?_
 try refine D_ hck ?_
 refine k1 _ _ ?_
 refine Aq ?_
 refine AL ?_
 refine Ah ?_
 refine AO (k0 _ _ ?_)
 refine AV [1] fun G1 g1=>?_
 replace g1:=Bi g1
 refine AB fun K k0=>?_
 have zg:=Bd.mk g1
 refine BH ?_
 refine AL ?_
 by_cases h0:0<len
 ·have d0:decide (len>0)=true:=decide_eq_true h0
  obtain ⟨f,hf⟩:∃f,fs=[f]:=by
   have:=c5 h0
   match fs,this with
   | [f],_=>exact ⟨f,rfl⟩
  subst hf
  have hfe:f.err=0:=c6 f (.head _)
  have hsz:D6 len [f]=len*f.wid:=by unfold D6;rw [if_pos h0];rfl
  have hw1:=Fd.F9 hfe
  have hms:=Nl (a:=len) (b:=f.wid) (by omega) c2 (by omega) hw1.2
  obtain ⟨b,off,rfl,hbW, -⟩:=hE.cells (by omega)
  refine Ap d0 ?_
  refine AQ rfl fun K k1=>?_
  refine AR ?_
  refine Aj ((show LD _ _ _ _ _ ⟨b,off,none⟩ _ from hE.qC (k:=0) (x:=f) rfl)) ?_
  refine AR ?_
  refine Aa (fun w hw=>IC f w hfe) ?_
  try refine AR ?_
  refine k1 _ _ ?_
  refine BH ?_
  refine AP (Br fun w hw=>?_)
  exact ⟨by rw [hsz,Int.mul_comm,Ae (by omega) (by omega)],hw.below⟩
 have hsz:D6 len fs=Ka fs:=by unfold D6;rw [if_neg h0]
 have hl0:len=0:=by omega
 have d0:¬(len>0):=by omega
 refine Ap d0 ?_
 refine AO (k0 _ _ ?_)
 refine AQ rfl fun K k0=>?_
 refine Ap hl0 ?_
 refine Et (fun v:Value=>.tuple #[v,.int .i64 (Ka fs)]) (fun _=>True) (fun w hw=>OZ A n c fs w (hE.at hw) (by omega) c6) ?_
 intro v _
 refine AR ?_
 refine k0 _ _ ?_
 refine BH ?_
 refine AP (Br fun w hw=>?_)
 exact ⟨by rw [hsz],hw.below⟩
structure Pl where
 at_:Int
 wd:Int
 kd:Int
def UN (p:Pl):List Value:=[.int .i64 p.at_,.int .i64 p.wd,.int .i64 p.kd]
theorem nN (p:Pl):(UN p).length=3:=rfl
def Xt (fs:List Fd) (i:Nat):Pl:=⟨WO (lay (fs.take i)).1 ((fs[i]?).getD ⟨1,0⟩).QZ,((fs[i]?).getD ⟨1,0⟩).wid,((fs[i]?).getD ⟨1,0⟩).kind⟩
def qD (fs:List Fd) (k:Nat):List Pl:=(List.range k).map (Xt fs)
theorem gu {fs:List Fd} {k:Nat} {x:Fd} (h:fs[k]? = some x):qD fs (k+1)=qD fs k++[⟨WO (lay (fs.take k)).1 x.QZ,x.wid,x.kind⟩]:=by
 unfold qD
 rw [List.range_succ,List.map_append]
 have:Xt fs k=⟨WO (lay (fs.take k)).1 x.QZ,x.wid,x.kind⟩:=by unfold Xt;rw [h];rfl
 rw [List.map_cons,List.map_nil,this]
theorem g_ (l:List Pl) (a b c:Int):(l++[(⟨a,b,c⟩:Pl)]).flatMap UN=l.flatMap UN++[.int .i64 a,.int .i64 b,.int .i64 c]:=by simp [UN]
def plV (fs:List Fd) (i:nG):Value:=.tuple #[.slice i.A i.n i.c,.int .i64 (Ka fs)]
theorem WQ {fs:List Fd} (hok:Ow fs):∀(d k:Nat),k+d<=fs.length->(lay (fs.take k)).1<=(lay (fs.take (k+d))).1
 | 0,k,h=>Int.le_refl _
 | d+1,k,h=>by
  have h1:=WQ hok d k (by omega)
  obtain ⟨x,hx⟩:=Gd (l:=fs) (i:=k+d) (by omega)
  have hxe:=hok x (List.mem_of_getElem? hx)
  have hw:=Fd.F9 hxe
  have ha:=Fd.K9 hxe
  have hr:=M6 (K_ hok (k+d))
  have hs:=M7 hx
  have hu:=Hf (n:=(lay (fs.take (k+d))).1) (a:=x.QZ) hr.1 ha.1
  have h2:(lay (fs.take (k+(d+1)))).1=WO (lay (fs.take (k+d))).1 x.QZ+x.wid:=by rw [<-Nat.add_assoc,hs];rfl
  omega
theorem qE {fs:List Fd} (hok:Ow fs) {i:Nat} (hi:i<fs.length):0<=(Xt fs i).at_/\1<=(Xt fs i).wd/\(Xt fs i).at_+(Xt fs i).wd<=Ka fs:=by
 obtain ⟨x,hx⟩:=Gd hi
 have hxe:=hok x (List.mem_of_getElem? hx)
 have hw:=Fd.F9 hxe
 have ha:=Fd.K9 hxe
 have hr:=M6 (K_ hok i)
 have hu:=Hf (n:=(lay (fs.take i)).1) (a:=x.QZ) hr.1 ha.1
 have hs:=M7 hx
 have h2:(lay (fs.take (i+1))).1=WO (lay (fs.take i)).1 x.QZ+x.wid:=by rw [hs];rfl
 have h3:=WQ hok (fs.length-(i+1)) (i+1) (by omega)
 rw [show i+1+(fs.length-(i+1))=fs.length by omega,List.take_length] at h3
 have hra:=M6 hok
 have h4:=Hf (n:=(lay fs).1) (a:=(lay fs).2) hra.1 hra.2.2.1
 have e1:Xt fs i=⟨WO (lay (fs.take i)).1 x.QZ,x.wid,x.kind⟩:=by unfold Xt;rw [hx];rfl
 rw [e1]
 unfold Ka
 dsimp only
 omega
theorem WR (A:Option Addr) (n c:Nat) (fs:List Fd) (W:World) (hE:Sl W W.heap.size 2 A n c (cl QV fs)) (hn:n<=40) (hok:Ow fs) :
  Calls Tryz.prog 78 #[QY 0 A n c] W fun e w' => ∃i:nG,e = .returned (plV fs i)/\i.n=fs.length/\St [] W [.row (.slice i.A i.n i.c) 194 3 i.n ((qD fs fs.length).flatMap UN)] w':=by
 have hln:fs.length=n:=Iy FF (by omega) hE.len
 refine Ab (M:=[]) Tryz.func78 [.tmp 2,.tmp 3] (St.nil _ _) ?_
 refine AQ rfl fun K k0=>?_
 have zs:=Bd.mk Ll
 refine Ah ?_
 intro b hb
 refine k0 _ _ ?_
 refine Aq ?_
 refine AB fun K k0=>?_
 refine Aq ?_
 refine AL ?_
 refine Ah ?_
 refine AO (k0 _ _ ?_)
 refine Aq ?_
 refine Aq ?_
 refine AB fun K k0=>?_
 refine Aq ?_
 refine AV [1,4,8,9,10] fun G1 g1=>?_
 replace g1:=Bi g1
 refine Ad ?_
 refine D5 194 3 ?_
 refine BP (fun F' L' => ∃(k:Nat) (A6:Option Addr) (c6:Nat),F' 1=G1 1/\F' 4 = .slice A6 k c6/\F' 8 = .int .i64 (lay (fs.take k)).1/\F' 9 = .int .i64 (lay (fs.take k)).2/\F' 10 = .int .i64 (k:Int)/\L'=[.row (.slice A6 k c6) 194 3 k ((qD fs k).flatMap UN),Gn b 0 A n c]/\k<=n) (fun F' L'=>40-(intOf (F' 10)).toNat) ?_ ?_
 ·refine ⟨0,none,0, ?_⟩
  have zg:=Bd.mk g1
  refine AR ?_
  exact ⟨rfl,rfl,rfl,by omega⟩
 ·intro G2 L' hI
  obtain ⟨k,A6,c6,fK,Ou,QU,aa,gK,rfl,hk⟩:=hI
  have zg:=Bd.mk g1
  have g2:=And.intro (Bg fK) (And.intro Ou (And.intro QU (And.intro aa gK)))
  have hR:=M6 (K_ hok k)
  rw [List.length_take,Nat.min_eq_left (by omega)] at hR
  refine AB fun K k1=>?_
  replace zg:=Bd.mk (And.intro g1 g2)
  refine BH ?_
  refine Dl (fun hc=>?_) fun hc=>?_
  ·refine AO ?_
   try simp only [BJ,BX]
   have hlt:k<n:=by have:=of_decide_eq_true hc;omega
   obtain ⟨b0,off,rfl,hb0, -⟩:=hE.cells (by omega)
   obtain ⟨x,hx⟩:=Gd (l:=fs) (i:=k) (by omega)
   have hxe:=hok x (List.mem_of_getElem? hx)
   have hxw:=Fd.F9 hxe
   have hxa:=Fd.K9 hxe
   have hu:=Hf (n:=(lay (fs.take k)).1) (a:=x.QZ) hR.1 hxa.1
   have hs:=M7 hx
   refine k1 _ _ ?_
   refine AB fun K k1=>?_
   refine Ad ?_
   refine AQ rfl fun K k2=>?_
   refine AR ?_
   refine Aj (hE.qC hx) ?_
   refine AR ?_
   refine Aa (fun w hw=>IC x w hxe) ?_
   try refine AR ?_
   refine k2 _ _ ?_
   refine AQ rfl fun K k2=>?_
   refine AR ?_
   refine Aa (fun w hw=>PI _ _ w (by omega) (by omega)) ?_
   try refine AR ?_
   refine k2 _ _ ?_
   refine AQ rfl fun K k2=>?_
   refine AR ?_
   refine Aj (hE.sZ hx) ?_
   refine AR ?_
   intro b7 Z0 h7
   refine Bj 1 X3 rfl (fun w hw=>Bp (size:=3) (.head _) rfl hw) rfl (by omega) (by omega) ?_
   intro A' c' hl _
   refine AR ?_
   refine k2 _ _ ?_
   refine FP @Ae ?_
   refine BF [0,2] (by decide) ?_
   simp only [Ag,nth]
   refine AU rfl ?_
   refine AR ?_
   refine k1 _ _ ?_
   refine AF rfl ?_
   refine Ap @Ae ?_
   refine ⟨⟨k+1,A',c', ?_⟩, ?_⟩
   ·rw [gu hx,g_]
    simp -implicitDefEqProofs (disch:=first|omega|decide) only [seval, -Int.reducePow, -Nat.reducePow,cC,pv,Ao,Az,undef,Ll,Int.natCast_add,hs,IE,g1,g2]
    omega
   ·simp only [intOf];omega
  ·refine BM (k0 _ _ ?_)
   obtain rfl:n=k:=by have:=of_decide_eq_false hc;omega
   rw [List.take_of_length_le (by omega)] at *
   refine AQ rfl fun K k0=>?_
   refine AR ?_
   refine Aa (fun w hw=>PI _ _ w (by omega) (by omega)) ?_
   try refine AR ?_
   refine k0 _ _ ?_
   refine AP (Br fun w hw=>?_)
   exact ⟨⟨A6,_,c6⟩,rfl,hln.symm,by rw [hln];exact hw.sub (List.sublist_append_left [_] _)⟩
def WS (len:Int) (fs:List Fd):Int:=if 0<len then len else (fs.length:Int)
theorem YI (A:Option Addr) (n c:Nat) (fs:List Fd) (len:Int) (W:World) (hE:Sl W W.heap.size 2 A n c (cl QV fs)) (hck:I9 len fs=0) :
  Calls Tryz.prog 151 #[QY len A n c] W fun e w'=>e = .returned (.int .i64 (WS len fs))/\Below W.heap.size W w':=by
 have hln:fs.length=n:=Iy FF (by omega) hE.len
 refine Ab (M:=[]) Tryz.func151 [.tmp 2] (St.nil _ _) ?_
 refine AQ rfl fun K k0=>?_
 have zs:=Bd.mk qB
 refine Ah ?_
 intro b1 hb1
 refine k0 _ _ ?_
 refine AB fun K k0=>?_
 refine AQ rfl fun K k1=>?_
 refine Ah ?_
 refine Aa (fun w hw=>Jy A n c fs len w (hE.at hw)) ?_
 try refine D_ hck ?_
 refine k1 _ _ ?_
 refine AL ?_
 refine Ah ?_
 refine AO (k0 _ _ ?_)
 refine AB fun K k0=>?_
 refine Aq ?_
 refine AL ?_
 by_cases h0:0<len
 ·have d0:decide (len>0)=true:=decide_eq_true h0
  refine D_ d0 ?_
  refine Aq ?_
  refine AP (Cc fun w hw=>?_)
  exact ⟨by unfold WS;rw [if_pos h0],hw.below⟩
 have d0:¬(len>0):=by omega
 refine D_ d0 ?_
 refine AO (k0 _ _ ?_)
 refine Aq ?_
 refine AP (Cc fun w hw=>?_)
 exact ⟨by unfold WS;rw [if_neg h0,hln],hw.below⟩
structure h_ where
 p:Pl
 er:Int
def WT (q:h_):Value:=.tuple #[.agg #[.int .i64 q.p.at_,.int .i64 q.p.wd,.int .i64 q.p.kd],.int .i64 q.er]
theorem Fd.ZR {f:Fd} (hk:f.kind≠6):f.wid<=8:=by
 unfold Fd.wid
 split
 ·omega
 split
 ·omega
 split
 ·omega
 omega
theorem si {fs:List Fd} {i:Nat} (hi:i<fs.length) (hk:(Xt fs i).kd≠6):(Xt fs i).wd<=8:=by
 obtain ⟨x,hx⟩:=Gd hi
 have e1:Xt fs i=⟨WO (lay (fs.take i)).1 x.QZ,x.wid,x.kind⟩:=by unfold Xt;rw [hx];rfl
 rw [e1] at hk ⊢
 exact Fd.ZR hk
structure AB3 (len:Int) (fs:List Fd) (q:h_):Prop where
 er:q.er=0\/q.er=6
 ok:q.er=0->0<=q.p.at_/\1<=q.p.wd/\q.p.at_+q.p.wd<=D6 len fs
 w8:q.er=0->q.p.kd≠6->q.p.wd<=8
theorem WU:type_of% (And.intro (And.intro (And.intro @Gn.eq_1 @ZQ.eq_1) (And.intro @QY.eq_1 @WV.eq_1)) (And.intro (And.intro @Nat.mul_one @Ae) (And.intro @G_ @cM))):=(And.intro (And.intro (And.intro @Gn.eq_1 @ZQ.eq_1) (And.intro @QY.eq_1 @WV.eq_1)) (And.intro (And.intro @Nat.mul_one @Ae) (And.intro @G_ @cM)))
theorem YJ (A:Option Addr) (n c:Nat) (fs:List Fd) (len i:Int) (W:World) (hE:Sl W W.heap.size 2 A n c (cl QV fs)) (hck:I9 len fs=0) :
  Calls Tryz.prog 133 #[QY len A n c,.int .i64 i] W fun e w'=>(∃q:h_,e = .returned (WT q)/\AB3 len fs q)/\Below W.heap.size W w':=by
 have hln:fs.length=n:=Iy FF (by omega) hE.len
 obtain ⟨c1,c2,c3,c4,c5,c6,c7⟩:=IB hck
 refine DY (M:=[]) (n:=56) [.cell 4 194,.tmp 5] rfl Tryz.func133 rfl rfl (Nat.le_of_ble_eq_true rfl) (St.nil _ _) ?_
 refine AQ rfl fun K k0=>?_
 have zs:=Bd.mk WU
 refine Ah ?_
 intro b2 hb2 b4 hb4 r_
 refine k0 _ _ ?_
 refine AB fun K k0=>?_
 refine AQ rfl fun K k1=>?_
 refine Ah ?_
 refine Aa (fun w hw=>Jy A n c fs len w (hE.at hw)) ?_
 try refine D_ hck ?_
 refine k1 _ _ ?_
 refine Aq ?_
 refine AL ?_
 refine Ah ?_
 refine AO (k0 _ _ ?_)
 refine AV [1,2,4] fun G1 g1=>?_
 replace g1:=Bi g1
 refine AB fun K k0=>?_
 refine AB fun K k1=>?_
 refine A9 (fun _ _=>True) (fun F' L'=>Az F' G1 [1,2,4]/\F' 24 = .bool (decide (i<0\/WS len fs<=i))/\L'=[.blk b4 194 [.int .i64 0,.int .i64 0,.int .i64 0],.blk b2 81 [.int .i64 len,.slice A n c]]) ?_ ?_
 ·by_cases h1:i<0
  ·have d1:decide (i<0)=true:=decide_eq_true h1
   refine AF rfl ?_
   have zg:=Bd.mk g1
   refine Ap d1 ?_
   rw [decide_eq_true (.inl h1)]
  ·refine AF rfl ?_
   have zg:=Bd.mk g1
   refine Ap h1 ?_
   refine Aa (fun w hw=>YI A n c fs len w (hE.at hw) hck) ?_
   try refine AR ?_
   refine congrArg Value.bool ?_
   simp
 intro G2 L' _ hF
 obtain ⟨zq,AG6,rfl⟩:=hF
 have zg:=Bd.mk g1
 have g2:=And.intro (Bg zq) AG6
 refine k1 _ _ ?_
 replace zg:=Bd.mk g2
 refine Dl (fun hc=>?_) fun hc=>?_
 ·refine BH ?_
  refine AP ?_
  simp -implicitDefEqProofs (disch:=first|omega|decide) only [seval, -Int.reducePow, -Nat.reducePow,cC,pv,Ao,Az,undef,WU,Dx,Cx,Cw,g2]
  intro w hw
  exact ⟨⟨⟨⟨0,0,0⟩,6⟩,rfl,⟨.inr rfl,fun h=>absurd h (by decide),fun h=>absurd h (by decide)⟩⟩,hw.below⟩
 have hc':=of_decide_eq_false hc
 refine AO (k0 _ _ ?_)
 refine AV [1,2,4] fun G3 g3=>?_
 replace g3:=Bg g3
 refine AB fun K k0=>?_
 replace zg:=Bd.mk g3
 refine BH ?_
 refine AL ?_
 by_cases h0:0<len
 ·have d0:decide (len>0)=true:=decide_eq_true h0
  have hci:WS len fs=len:=by unfold WS;rw [if_pos h0]
  obtain ⟨f,hf⟩:∃f,fs=[f]:=by
   have:=c5 h0
   match fs,this with
   | [f],_=>exact ⟨f,rfl⟩
  subst hf
  have hfe:f.err=0:=c6 f (.head _)
  have hsz:D6 len [f]=len*f.wid:=by unfold D6;rw [if_pos h0];rfl
  have hw1:=Fd.F9 hfe
  have hms:=Nl (a:=i) (b:=f.wid) (by omega) (by omega) (by omega) hw1.2
  have hle:i*f.wid+f.wid<=len*f.wid:=by
   have h1:(i+1)*f.wid<=len*f.wid:=Int.mul_le_mul_of_nonneg_right (by omega) (by omega)
   rw [Int.add_mul,Int.one_mul] at h1
   exact h1
  obtain ⟨b,off,rfl,hbW, -⟩:=hE.cells (by omega)
  refine Ap d0 ?_
  refine AQ rfl fun K k1=>?_
  refine AR ?_
  refine Aj ((show LD _ _ _ _ _ ⟨b,off,none⟩ _ from hE.qC (k:=0) (x:=f) rfl)) ?_
  refine AR ?_
  refine Aa (fun w hw=>IC f w hfe) ?_
  try refine AR ?_
  refine k1 _ _ ?_
  refine AQ rfl fun K k1=>?_
  refine AR ?_
  refine Aj ((show LD _ _ _ _ _ ⟨b,off,none⟩ _ from hE.sZ (k:=0) (x:=f) rfl)) ?_
  refine AR ?_
  refine k1 _ _ ?_
  refine AP ?_
  simp -implicitDefEqProofs (disch:=first|omega|decide) only [seval, -Int.reducePow, -Nat.reducePow,cC,pv,Ao,Az,undef,WU,Dx,Cx,Cw,g3]
  intro w hw
  exact ⟨⟨⟨⟨i*f.wid,f.wid,f.kind⟩,0⟩,rfl,⟨.inl rfl,fun _=>⟨hms.1,hw1.1,by rw [hsz];exact hle⟩,fun _ hk=>Fd.ZR hk⟩⟩,hw.below⟩
 have hci:WS len fs=fs.length:=by unfold WS;rw [if_neg h0]
 have hsz:D6 len fs=Ka fs:=by unfold D6;rw [if_neg h0]
 have hl0:len=0:=by omega
 have d0:¬(len>0):=by omega
 obtain ⟨k,rfl⟩:∃k:Nat,i=(k:Int):=⟨i.toNat,by omega⟩
 have hkn:k<fs.length:=by omega
 have hpi:=qE c6 hkn
 have hget:(qD fs fs.length)[k]? = some (Xt fs k):=by unfold qD;rw [List.getElem?_map,List.getElem?_range hkn];rfl
 refine Ap d0 ?_
 refine AO (k0 _ _ ?_)
 refine AQ rfl fun K k0=>?_
 refine Ap hl0 ?_
 refine DN (plV fs) (fun i:nG=>[.row (.slice i.A i.n i.c) 194 3 i.n ((qD fs fs.length).flatMap UN)]) _ (fun w hw=>WR A n c fs w (hE.at hw) (by omega) c6) ?_
 rintro ⟨PA,pn,pc⟩ hpn
 dsimp only at hpn
 unfold plV
 dsimp only [List.cons_append,List.nil_append]
 refine AR ?_
 refine k0 _ _ ?_
 refine BQ 0 rfl (by omega) fun g DJ hg Bl=>?_
 subst DJ
 simp only [List.eraseIdx_cons_zero,List.eraseIdx_cons_succ,BC,BD,BI,A_,and_true,List.not_mem_nil,or_false,WU] at Bl hg
 replace hg:=And.intro hg Bl
 clear Bl
 refine AQ rfl fun K k0=>?_
 refine AR ?_
 refine Aj (DX (i:=k*3) (vs:=UN (Xt fs k)) (AZ (k:=0) rfl) (by kernel_rfl) (FB nN hget)) ?_
 refine AR ?_
 simp only [UN,List.length_cons,List.length_nil,true_and]
 refine AR ?_
 refine k0 _ _ ?_
 refine AP ?_
 simp -implicitDefEqProofs (disch:=first|omega|decide) only [seval, -Int.reducePow, -Nat.reducePow,cC,pv,Ao,Az,undef,WU,Dx,Cx,Cw,g3]
 intro w hw
 exact ⟨⟨⟨Xt fs k,0⟩,rfl,⟨.inl rfl,fun _=>⟨hpi.1,hpi.2.1,by rw [hsz];exact hpi.2.2⟩,fun _ hk=>si hkn hk⟩⟩,hw.below⟩
theorem WW:type_of% (And.intro (And.intro (And.intro (And.intro @Nat.mul_one @Ae) (And.intro @G_ @cM)) (And.intro (And.intro @Ce @Cf) (And.intro @Cg @Ch))) (And.intro (And.intro (And.intro @Ci @Cs) (And.intro @Ct @DT)) (And.intro (And.intro @DU @CW) (And.intro @CX (And.intro @UW.eq_1 @gq.eq_1))))):=(And.intro (And.intro (And.intro (And.intro @Nat.mul_one @Ae) (And.intro @G_ @cM)) (And.intro (And.intro @Ce @Cf) (And.intro @Cg @Ch))) (And.intro (And.intro (And.intro @Ci @Cs) (And.intro @Ct @DT)) (And.intro (And.intro @DU @CW) (And.intro @CX (And.intro @UW.eq_1 @gq.eq_1)))))
structure FdR (x:Aw) (e:En) (q:h_):Prop where
 er:0<=q.er/\q.er<=29
 ok:q.er=0->0<=q.p.at_/\1<=q.p.wd/\q.p.at_+q.p.wd<=D6 (PH x e.tag).len (PH x e.tag).fs
 w8:q.er=0->q.p.wd<=8
theorem TD (x:Aw) {b:Nat} (hb:x.b=b) (e:En) (fi:Int) (hk:Ro x e.tag=0) (hm:PH x e.tag∈x.Gw) (hck:I9 (PH x e.tag).len (PH x e.tag).fs=0) (W:World) (hst:St (Ak (Al x)) W (Al x) W) :
  Calls Tryz.prog 97 #[.pointer (some ⟨b,0,none⟩),aF e,.int .i64 fi] W
  fun en w' => ∃q:h_,en = .returned (WT q)/\FdR x e q/\St (Ak (Al x)) W (Al x) w':=by
 subst hb
 obtain ⟨M,hM⟩:∃M,Ak (Al x)=M:=⟨_,rfl⟩
 rw [hM] at hst ⊢
 clear hM
 unfold Al Du at hst
 unfold aF
 obtain ⟨t,ht⟩:∃t,PH x e.tag=t:=⟨_,rfl⟩
 rw [ht] at hm hck
 have hlv:di x e.tag = .tuple #[.agg #[.int .i64 t.len,.slice t.A t.n t.c],.int .i64 0]:=by unfold di;rw [hk,if_pos rfl,ht];rfl
 refine DY (M:=M) (n:=35) [.cell 6 194,.tmp 7] rfl Tryz.func97 rfl rfl (Nat.le_of_ble_eq_true rfl)  hst ?_
 refine AQ rfl fun K k0=>?_
 have zs:=Bd.mk WW
 refine Ah ?_
 intro b4 hb4 r_ b6 hb6 hf6
 refine k0 _ _ ?_
 refine AV [0,2,4,6] fun G1 g1=>?_
 replace g1:=Bi g1
 refine BF [2,3,0,1] (by decide) ?_
 simp only [Ag,nth]
 refine AB fun K k0=>?_
 refine A9 (fun _ _=>True) (fun F' L' => ∃(b8:Nat),Az F' G1 [2,6]/\F' 8 = .pointer (some ⟨b8,0,none⟩)/\L'=[.blk x.b 65 [x.y0,x.y1,x.y2,x.y3,x.y4,x.y5,x.y6,x.y7,x.y8,.slice x.TA x.tn x.tc,.int .i64 x.N,.slice x.UA x.un x.uc,.pointer (some ⟨x.tb.tb,0,none⟩),.slice x.LA x.ln x.lc,.int .i64 x.lim.qb,.int .i64 x.lim.qo,.int .i64 x.lim.qr,.slice x.MA x.mn x.mc,.int .i64 x.cap,.slice x.EA x.en x.ec,.slice x.SA x.sn x.sc,.slice x.BA x.bn x.bc,.slice (some ⟨x.g,0,none⟩) 65 65],Cj (DW x),.blk b8 81 [.int .i64 t.len,.slice t.A t.n t.c],.blk b6 194 [.int .i64 0,.int .i64 0,.int .i64 0]]) ?_ ?_
 ·refine E9 [3] (by decide) (by simp only [Ag,nth,Be,Bv,List.mem_cons,true_or,or_true,and_true,eq_self]) (.rd 0 (.rd 1 (.rd 2 (.rd 3 (.rd 4 (.more 5 (.rd 6 (.rd 7 (.rd 8 (.act 9 (.act 10 (.rd 11 (.done))))))) (.act 9 (.act 5 (.rd 6 (.rd 7 (.rd 8 (.act 10 (.rd 11 (.done)))))))))))))) [] CB rfl (by kernel_rfl) (by kernel_rfl) (by kernel_rfl) (by kernel_rfl) ?_
  simp only [Ag,nth]
  have zg:=Bd.mk g1
  refine AR ?_
  refine And.intro ?_ ?_
  ·refine Bq (Al x) (List.sublist_append_left (Al x) _) (fun _:Unit=>di x e.tag) _ (fun w hw=>MG x rfl e.tag w hw) ?_
   intro _ _
   rw [hlv]
   refine AR ?_
   intro b8 u6 hf8
   refine ⟨[1,2,0,3],by decide, ?_⟩
   simp only [Ag,nth]
   exact ⟨b8,rfl,rfl⟩
  ·intro b8 u6 hf8
   refine Bq (Al x) (.cons _ (List.sublist_append_left (Al x) _)) (fun _:Unit=>di x e.tag) _ (fun w hw=>MG x rfl e.tag w hw) ?_
   intro _ _
   rw [hlv]
   refine AR ?_
   refine ⟨[1,2,0,3],by decide, ?_⟩
   simp only [Ag,nth]
   exact ⟨b8,rfl,rfl⟩
 intro G2 L' _ hF
 obtain ⟨b8,zq,QU,rfl⟩:=hF
 have zg:=Bd.mk g1
 have g2:=And.intro (Bg zq) QU
 refine k0 _ _ ?_
 refine Mc fun hap=>?_
 simp only [Kv,GN,GQ,Jl,O8,Jm,BC,BD,BI,and_true,true_and,List.not_mem_nil,or_false,WW] at hap
 obtain hap:=hap
 refine AQ rfl fun K k0=>?_
 replace zg:=Bd.mk g2
 refine AR ?_
 refine Et WT (AB3 t.len t.fs) (fun w hw=>YJ t.A t.n t.c t.fs t.len fi w (Aw.sW (x:=x) (L:=[]) (hw.pick (ix:=[0,1]) (by decide)) hm) hck) ?_
 rintro ⟨q,er⟩ hq
 unfold WT
 dsimp only
 refine AR ?_
 intro b10 IU JK
 refine k0 _ _ ?_
 have hqe:er=0\/er=6:=hq.er
 have hqo:er=0->0<=q.at_/\1<=q.wd/\q.at_+q.wd<=D6 t.len t.fs:=hq.ok
 refine AV [6,10,11] fun G3 g3=>?_
 replace g3:=Bg g3
 refine AB fun K k0=>?_
 replace zg:=Bd.mk g3
 refine BH ?_
 refine AL ?_
 by_cases h0:er=0
 case neg =>
  refine Ap h0 ?_
  refine BH ?_
  refine AP ?_
  simp -implicitDefEqProofs (disch:=first|omega|decide) only [seval, -Int.reducePow, -Nat.reducePow,cC,pv,Ao,Az,undef,WW,Dx,Cx,Cw,g3]
  intro w hw
  exact ⟨⟨⟨0,0,0⟩,6⟩,rfl,⟨(by decide:(0:Int)<=6/\(6:Int)<=29),fun h=>absurd h (by decide),fun h=>absurd h (by decide)⟩,hw.pick (ix:=[1,2]) (by decide)⟩
 have d0:decide (er=0)=true:=decide_eq_true h0
 refine Ap d0 ?_
 refine AO (k0 _ _ ?_)
 refine AB fun K k0=>?_
 refine BH ?_
 refine AL ?_
 by_cases h6:q.kd=6
 ·have d6:decide (q.kd=6)=true:=decide_eq_true h6
  refine Ap d6 ?_
  refine BH ?_
  refine AP ?_
  simp -implicitDefEqProofs (disch:=first|omega|decide) only [seval, -Int.reducePow, -Nat.reducePow,cC,pv,Ao,Az,undef,WW,Dx,Cx,Cw,g3]
  intro w hw
  exact ⟨⟨⟨0,0,0⟩,8⟩,rfl,⟨(by decide:(0:Int)<=8/\(8:Int)<=29),fun h=>absurd h (by decide),fun h=>absurd h (by decide)⟩,hw.pick (ix:=[1,2]) (by decide)⟩
 refine Ap h6 ?_
 refine AO (k0 _ _ ?_)
 refine BH ?_
 refine AP ?_
 simp -implicitDefEqProofs (disch:=first|omega|decide) only [seval, -Int.reducePow, -Nat.reducePow,cC,pv,Ao,Az,undef,WW,Dx,Cx,Cw,g3]
 intro w hw
 exact ⟨⟨q,0⟩,rfl,⟨(by decide:(0:Int)<=0/\(0:Int)<=29),fun _=>by rw [ht];exact hqo h0,fun _=>hq.w8 h0 h6⟩,hw.pick (ix:=[1,2]) (by decide)⟩
end Go.Proofs.YtegonkdandmolaaGreat
