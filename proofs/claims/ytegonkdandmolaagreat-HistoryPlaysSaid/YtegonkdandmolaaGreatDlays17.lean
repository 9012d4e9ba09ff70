import Derived.Test.YtegonkdandmolaaGreatDlays16
import Derived.Test.YtegonkdandmolaaGreatDlays7
set_option linter.unusedVariables false
set_option linter.unusedSimpArgs false
set_option maxRecDepth 100000
set_option maxHeartbeats 4000000
namespace Go.Proofs.YtegonkdandmolaaGreat
open Go.RowKit Go.Shelf
theorem ig {M:List Nat} {W w:World} {L:List Ai} {ts:List U7} (h:St M W (Cj (ts.map Mx)::L) w) {t:U7} (ht:t∈ts):Sl w w.heap.size 2 t.A t.n t.c (cl QV t.fs):=Sl.Av h.Il (List.mem_append.2 (.inl (List.mem_map.2 ⟨t,ht,rfl⟩)))
theorem Aw.AHb {M:List Nat} {W w:World} {L:List Ai} {x:Aw} (h:St M W (Du x::Cj (DW x)::L) w):Sl w w.heap.size 5 x.EA x.en x.ec (Bc x.es):=Sl.Av (h.Fj (k:=4) rfl) (AZ (k:=1) rfl)
theorem Za {M:List Nat} {W w:World} {L:List Ai} {x:Aw} {b:Nat} (hb:x.b=b) (h:St M W (.blk b 65 [x.y0,x.y1,x.y2,x.y3,x.y4,x.y5,x.y6,x.y7,x.y8,.slice x.TA x.tn x.tc,.int .i64 x.N,.slice x.UA x.un x.uc,.pointer (some ⟨x.tb.tb,0,none⟩),.slice x.LA x.ln x.lc,.int .i64 x.lim.qb,.int .i64 x.lim.qo,.int .i64 x.lim.qr,.slice x.MA x.mn x.mc,.int .i64 x.cap,.slice x.EA x.en x.ec,.slice x.SA x.sn x.sc,.slice x.BA x.bn x.bc,.slice (some ⟨x.g,0,none⟩) 65 65]::Cj (DW x)::L) w):Sl w w.heap.size 5 x.EA x.en x.ec (Bc x.es):=Aw.AHb (by rw [Am hb];exact h)
theorem oG {w:World} {B:Nat} {A:Option Addr} {n c:Nat} {es:List DZ} (h:Sl w B 5 A n c (Bc es)):es.length=n:=by
 have:=h.len
 unfold Bc at this
 rw [Cr C8] at this
 omega
theorem qG (W:World) (A0:Option Addr) (n0 c0:Nat) (x0:List Nat) (e0:Sl W W.heap.size 1 A0 n0 c0 (Dn x0)) (g0:∀x∈x0,x<65536) (A1:Option Addr) (n1 c1:Nat) (x1:List Nat) (e1:Sl W W.heap.size 1 A1 n1 c1 (Dn x1)) (g1:∀x∈x1,x<65536) (A2:Option Addr) (n2 c2:Nat) (x2:List Nat) (e2:Sl W W.heap.size 1 A2 n2 c2 (Dn x2)) (g2:∀x∈x2,x<65536) (a:Int) (ha:0<=a/\a<=255) :
  Calls Tryz.prog 3 #[.slice A0 n0 c0,.slice A1 n1 c1,.slice A2 n2 c2,.int .u8 a] W fun e w'=>e = .returned (.bool true)/\Below W.heap.size W w':=by
 have g0':∀x∈x0.take 12,x<65536:=fun x hx=>g0 x (List.mem_of_mem_take hx)
 have g1':∀x∈x1.take 40,x<65536:=fun x hx=>g1 x (List.mem_of_mem_take hx)
 have g2':∀x∈x2.take 400,x<65536:=fun x hx=>g2 x (List.mem_of_mem_take hx)
 obtain ⟨a,rfl⟩:∃a':Nat,a=(a':Int):=⟨a.toNat,by omega⟩
 refine Ab (M:=[]) Tryz.func3 [.tmp 8] (St.nil _ _) ?_
 have zs:=Bd.mk De
 refine Aq ?_
 refine AV [0,1,2,3] fun G1 g1=>?_
 replace g1:=Bi g1
 refine AQ rfl fun K k0=>?_
 have zg:=Bd.mk g1
 refine AR ?_
 refine Jo (fun w hw=>YR A0 n0 c0 x0 12 w (e0.at hw) (by omega)) ?_
 intro b1 TA tn tc AKg AKh AKi AKj
 refine AR ?_
 refine SN 1 (fun p:ZX×Nat=>nu p.1) (fun p=>tape TA tn tc p.2) (fun p=>p.1.ok/\p.2<=0+20) rfl (fun w hw=>Wn b1 TA tn tc (x0.take 12) 0 w (hw.hold 1 rfl) (Sl.Av hw (AZ (k:=0) rfl)) (fun _=>hw.GK 0 1 rfl rfl (by decide)) g0' (by omega)) ?_
 rintro ⟨c,j⟩ ⟨hc,hj⟩
 dsimp only at hc hj
 unfold nu
 dsimp only
 refine AR ?_
 intro b9 pK hf9
 refine k0 _ _ ?_
 refine BF [0] (by decide) ?_
 simp only [Ag,nth]
 refine AV [1,2,3,9] fun G2 g2=>?_
 replace g2:=Bg g2
 refine AB fun K k0=>?_
 refine CF (Ag [0] _) (fun w hw=>hw.pick (by decide)) (by simp only [Ag,nth,Be,Bv,List.mem_cons,true_or,or_true,and_true,eq_self]) [(true,0),(true,1),(false,2),(false,3),(false,4),(true,5)] [] CB rfl (by kernel_rfl) (by kernel_rfl) rfl rfl ?_
 replace zg:=Bd.mk g2
 refine AR ?_
 refine Jo (fun w hw=>YR A1 n1 c1 x1 40 w (e1.at hw) (by omega)) ?_
 intro b2 TB un uc AKk AKl AKm AKn
 refine AR ?_
 refine Af [.blk b9 27 [.int .i64 (c.sl:Int),.int .i64 (c.ar:Int),.int .u32 (c.fg:Int),.int .i64 (c.lg:Int),.int .i64 (c.qb:Int),.int .i64 (c.qo:Int),.int .i64 (c.qr:Int),.int .i64 (c.fr:Int),.int .i64 (c.st:Int)]] [C_ b2 TB un uc 0,.row (.slice TB un uc) 118 1 un (Dn (x1.take 40))] ((List.perm_append_comm (l₁:=[_]) (l₂:=[_,_])).trans (List.Perm.swap _ _ _)) t_ (fun i=>[.blk i.b 81 (cl RQ i.ts),Cj (i.ts.map Mx),C_ b2 TB un uc i.j,.row (.slice TB un uc) 118 1 un (Dn (x1.take 40))]) _ (fun w hw=>YQ b2 TB un uc (x1.take 40) g1' w hw) ?_
 rintro ⟨tb,ts,j2⟩ hty
 obtain ⟨hck,h3, -⟩:=hty
 dsimp only at hck h3
 unfold t_
 dsimp only [List.cons_append,List.nil_append]
 refine AR ?_
 refine DN (fun x:Aw=>.pointer (some ⟨x.b,0,none⟩)) (fun x=>Al x) _ (fun w hw=>bH c hc tb ts h3 hck w (Sl.ed hw (AZ (k:=0) rfl) (by rw [Tq M4,h3]) (by omega)) (fun t ht=>ig hw.swp ht)) ?_
 intro y0 hy0
 unfold Al Du
 dsimp only [List.cons_append,List.nil_append]
 refine AR ?_
 refine k0 _ _ ?_
 refine AB fun K k0=>?_
 refine BH ?_
 refine AL ?_
 refine AR ?_
 refine AO (k0 _ _ ?_)
 refine BH ?_
 refine BF [0,1,6] (by decide) ?_
 simp only [Ag,nth]
 refine D5 39 1 ?_
 refine BF [1,2,3,0] (by decide) ?_
 simp only [Ag,nth]
 refine AV [2,3,9,10,11] fun G3 g3=>?_
 replace g3:=Bg g3
 refine AB fun K k0=>?_
 refine AB fun K k1=>?_
 refine CF (Ag [2] _) (fun w hw=>hw.pick (by decide)) (by simp only [Ag,nth,Be,Bv,List.mem_cons,true_or,or_true,and_true,eq_self]) [(true,0),(true,2),(true,3),(true,6),(false,1),(false,4),(true,5)] [] CB rfl (by kernel_rfl) (by kernel_rfl) rfl rfl ?_
 replace zg:=Bd.mk g3
 refine AR ?_
 refine Jo (fun w hw=>YR A2 n2 c2 x2 400 w (e2.at hw) (by omega)) ?_
 intro b3 TC vn vc AKo AKp AKq AKr
 refine AR ?_
 refine Af [.blk y0.b 65 [y0.y0,y0.y1,y0.y2,y0.y3,y0.y4,y0.y5,y0.y6,y0.y7,y0.y8,.slice y0.TA y0.tn y0.tc,.int .i64 y0.N,.slice y0.UA y0.un y0.uc,.pointer (some ⟨y0.tb.tb,0,none⟩),.slice y0.LA y0.ln y0.lc,.int .i64 y0.lim.qb,.int .i64 y0.lim.qo,.int .i64 y0.lim.qr,.slice y0.MA y0.mn y0.mc,.int .i64 y0.cap,.slice y0.EA y0.en y0.ec,.slice y0.SA y0.sn y0.sc,.slice y0.BA y0.bn y0.bc,.slice (some ⟨y0.g,0,none⟩) 65 65],Cj (DW y0),.blk b9 27 [.int .i64 (c.sl:Int),.int .i64 (c.ar:Int),.int .u32 (c.fg:Int),.int .i64 (c.lg:Int),.int .i64 (c.qb:Int),.int .i64 (c.qo:Int),.int .i64 (c.qr:Int),.int .i64 (c.fr:Int),.int .i64 (c.st:Int)],.row (.slice none 0 0) 39 1 0 (M9 [])] [C_ b3 TC vn vc 0,.row (.slice TC vn vc) 118 1 vn (Dn (x2.take 400))] ((List.perm_append_comm (l₁:=[_,_,_,_]) (l₂:=[_,_])).trans (List.Perm.swap _ _ _)) opsV (opsL b3 TC vn vc (x2.take 400)) _ (fun w hw=>iV b3 TC vn vc (x2.take 400) c.fg 36 g2' (by omega) w hw) ?_
 rintro ⟨OA,on,oc,os,j3⟩ ⟨ACO,AHc⟩
 dsimp only at ACO AHc
 unfold opsV opsL
 dsimp only [List.cons_append,List.nil_append]
 refine AR ?_
 refine k1 _ _ ?_
 refine BF [3,4,6,0] (by decide) ?_
 simp only [Ag,nth]
 refine FJ (fun w hw=>(Sl.Av hw (AZ (k:=3) rfl)).len) ?_
 intro hol
 have AKs:os.length=on:=by
  unfold Df at hol
  rw [Cr ZV] at hol
  omega
 refine AV [3,10,11,29,30,31] fun G4 g4=>?_
 replace g4:=Bg g4
 refine Ad ?_
 refine BP (fun F' L' => ∃(i:Nat) (x:Aw) (hA:Option Addr) (hn hc2:Nat) (hs:List Nat),Az F' G4 [3,10,29,30]/\F' 11 = .slice hA hn hc2/\F' 31 = .int .i64 (i:Int)/\L'=[.blk y0.b 65 [x.y0,x.y1,x.y2,x.y3,x.y4,x.y5,x.y6,x.y7,x.y8,.slice x.TA x.tn x.tc,.int .i64 x.N,.slice x.UA x.un x.uc,.pointer (some ⟨x.tb.tb,0,none⟩),.slice x.LA x.ln x.lc,.int .i64 x.lim.qb,.int .i64 x.lim.qo,.int .i64 x.lim.qr,.slice x.MA x.mn x.mc,.int .i64 x.cap,.slice x.EA x.en x.ec,.slice x.SA x.sn x.sc,.slice x.BA x.bn x.bc,.slice (some ⟨x.g,0,none⟩) 65 65],Cj (DW x),.row (.slice hA hn hc2) 39 1 hn (M9 hs),.row (.slice OA on oc) 41 10 on (Df os)]/\i<=on/\Fq x i/\x.b=y0.b/\(∀h∈hs,h<18446744073709551616)/\hn<=i) (fun F' L'=>200000-(intOf (F' 31)).toNat) ?_ ?_
 ·refine ⟨0,y0,none,0,0,[], ?_⟩
  replace zg:=Bd.mk g4
  refine AR ?_
  exact ⟨Nat.zero_le _,hy0,fun h hm=>(by cases hm)⟩
 intro G5 L' hI
 obtain ⟨i,x,hA,hn,hc2,hs,zq,AHd,AHe,rfl,⟨hi,ht,hxb,hhs,hhn⟩⟩:=hI
 replace zg:=Bd.mk g4
 have g5:=And.intro (Bg zq) (And.intro AHd AHe)
 replace zg:=Bd.mk (And.intro g4 g5)
 refine BH ?_
 refine AB fun K k1=>?_
 refine Dl (fun hc=>?_) fun hc=>?_
 ·refine AO ?_
  try simp only [BJ,BX]
  have hit:i<on:=by have:=of_decide_eq_true ‹decide ((i:Int)<(on:Int))=true›;omega
  obtain ⟨o,hoi⟩:∃o,os[i]? = some o:=⟨_,List.getElem?_eq_getElem (by omega)⟩
  have hok:=ACO o (List.mem_of_getElem? hoi)
  refine k1 _ _ ?_
  obtain ⟨OB,uD⟩:∃OB,OA=OB:=⟨_,rfl⟩
  rw [uD]
  refine BQ 3 rfl (by omega) fun gO DJ hgO Bl=>?_
  subst DJ
  simp only [List.eraseIdx_cons_zero,List.eraseIdx_cons_succ,BC,BD,BI,A_,and_true,List.not_mem_nil,or_false,De] at Bl hgO
  replace hgO:=And.intro hgO Bl
  clear Bl
  refine AB fun K k1=>?_
  refine Ad ?_
  refine AQ rfl fun K k2=>?_
  refine Ap uD ?_
  refine Aj (DX (i:=i*10) (vs:=opc o) (AZ (k:=3) rfl) (by kernel_rfl) (FB ZV hoi)) ?_
  refine AR ?_
  simp only [opc,List.length_cons,List.length_nil,true_and]
  refine AR ?_
  intro b13 zu AKu
  refine k2 _ _ ?_
  rw [<-uD]
  refine BG [0,1,2,4] (by decide) ?_
  refine AU rfl ?_
  refine AR ?_
  refine Af [.blk b13 41 [.int .i64 o.k,.int .i64 o.pl,.int .i64 o.ob,.int .i64 o.fr,.int .u64 (o.raw:Int),.int .i64 o.n1,.int .i64 o.n2,.int .i64 o.n3,.int .u64 o.v,.int .u64 (o.d:Int)],.row (.slice OA on oc) 41 10 on (Df os)] (Al x++[Lm hA hn hc2 hs]) (by unfold Al;rw [Am hxb];exact .cons _ (List.perm_append_comm (l₁:=[_]) (l₂:=[_,_,_]))) uC (fun i=>Al i.y++[Lm i.A i.n i.c i.hs]) _ (fun w hw=>ic x hxb o hok hA hn hc2 hs ht (by omega) (by omega) hhs w hw) ?_
  rintro ⟨er,v,SA,sn,sc,A3,n3,c3,hs3,z⟩ ⟨hz1,hz2,hz3,hz4⟩
  dsimp only at hz1 hz2 hz3 hz4
  have hzb:z.b=y0.b:=hz2.trans hxb
  unfold uC Al Lm
  dsimp only
  rw [Am hzb]
  dsimp only [List.cons_append,List.nil_append]
  refine AR ?_
  refine k1 _ _ ?_
  refine AF rfl ?_
  refine AR ?_
  refine ⟨⟨i+1,z,A3,n3,c3,hs3, ?_⟩, ?_⟩
  ·refine Ap @Int.natCast_add ?_
   exact ⟨by rw [uD],by omega,hz1,hzb,hz3,by omega⟩
  ·simp only [intOf];omega
 refine BM (k0 _ _ ?_)
 have hi2:i=on:=by have:=of_decide_eq_false ‹decide ((i:Int)<(on:Int))=false›;omega
 have hes:=ht.es
 have ik:=ht.ok
 refine BF [0,1] (by decide) ?_
 simp only [Ag,nth]
 refine FJ (fun w hw=>oG (Za hxb (L:=[]) hw)) ?_
 intro hen
 refine AV [3,10] fun G6 g6=>?_
 replace g6:=Bg g6
 refine AQ rfl fun K k0=>?_
 replace zg:=Bd.mk (And.intro g4 (And.intro g5 g6))
 refine AR ?_
 intro bE PE Rj
 refine AR ?_
 refine CR 0 OP rfl rfl (fun w hw=>(Za hxb (L:=[]) hw.tail).reads) (ZH _) (by omega) (by omega) ?_
 intro XA xc hlx hrx
 refine Ap (And.intro @Nat.zero_add @List.nil_append.{0}) ?_
 refine k0 _ _ ?_
 obtain ⟨xn,hxn⟩:∃xn,x.en=xn:=⟨_,rfl⟩
 rw [hxn]
 refine BF [1,2,0] (by decide) ?_
 simp only [Ag,nth]
 refine AV [3,10,14] fun G7 g7=>?_
 replace g7:=Bg g7
 refine AB fun K k0=>?_
 refine A9 (fun _ _=>True) (fun F' L' => ∃(es2:List DZ),Az F' G7 [10,14]/\L'=[.blk y0.b 65 [x.y0,x.y1,x.y2,x.y3,x.y4,x.y5,x.y6,x.y7,x.y8,.slice x.TA x.tn x.tc,.int .i64 x.N,.slice x.UA x.un x.uc,.pointer (some ⟨x.tb.tb,0,none⟩),.slice x.LA x.ln x.lc,.int .i64 x.lim.qb,.int .i64 x.lim.qo,.int .i64 x.lim.qr,.slice x.MA x.mn x.mc,.int .i64 x.cap,.slice x.EA xn x.ec,.slice x.SA x.sn x.sc,.slice x.BA x.bn x.bc,.slice (some ⟨x.g,0,none⟩) 65 65],Cj (DW x),.row (.slice XA xn xc) 68 5 xn (Bc es2)]∧∀e∈es2,e.ok) ?_ ?_
 ·refine AB fun K k1=>?_
  refine A9 (fun _ _=>True) (fun F' L' => ∃(r:Bool),Az F' G7 [3,10,14]/\F' 57 = .bool r/\L'=[.blk y0.b 65 [x.y0,x.y1,x.y2,x.y3,x.y4,x.y5,x.y6,x.y7,x.y8,.slice x.TA x.tn x.tc,.int .i64 x.N,.slice x.UA x.un x.uc,.pointer (some ⟨x.tb.tb,0,none⟩),.slice x.LA x.ln x.lc,.int .i64 x.lim.qb,.int .i64 x.lim.qo,.int .i64 x.lim.qr,.slice x.MA x.mn x.mc,.int .i64 x.cap,.slice x.EA xn x.ec,.slice x.SA x.sn x.sc,.slice x.BA x.bn x.bc,.slice (some ⟨x.g,0,none⟩) 65 65],Cj (DW x),.row (.slice XA xn xc) 68 5 xn (Bc x.es)]/\(r=true->0<xn)) ?_ ?_
  ·refine AF rfl ?_
   by_cases h0:xn=0
   ·have d0:¬((xn:Int)>0):=by omega
    replace zg:=Bd.mk (And.intro g4 (And.intro g5 g7))
    refine Ap d0 ?_
    exact ⟨false,rfl,fun h=>by cases h⟩
   ·have d0:decide ((xn:Int)>0)=true:=decide_eq_true (by omega)
    replace zg:=Bd.mk (And.intro g4 (And.intro g5 g7))
    refine Ap d0 ?_
    exact ⟨_,rfl,fun _=>by omega⟩
  intro G8 L' _ hF
  obtain ⟨r,zq,AHg,rfl,hr⟩:=hF
  replace zg:=Bd.mk g7
  have g8:=And.intro (Bg zq) AHg
  refine k1 _ _ ?_
  refine AL ?_
  cases r with
  | false =>
   replace zg:=Bd.mk (And.intro g4 (And.intro g5 (And.intro g7 g8)))
   refine AR ?_
   refine AO ?_
   try simp only [BJ,BX]
   refine AR ?_
   exact ⟨x.es,rfl,ik⟩
  | true =>
  have hx0:=hr rfl
  have hmod:((a:Int) % (xn:Int)).toNat=a % xn:=by rw [<-Int.natCast_emod,Int.toNat_natCast]
  have hlt:a % xn<xn:=Nat.mod_lt _ hx0
  obtain ⟨q,hq⟩:∃q,a % xn=q:=⟨_,rfl⟩
  rw [hq] at hmod hlt
  obtain ⟨e,he⟩:∃e,x.es[q]? = some e:=⟨_,List.getElem?_eq_getElem (by omega)⟩
  have hlq:q*5+4<(Bc x.es).length:=by unfold Bc;rw [Cr C8];omega
  have hset:(Bc x.es).set (q*5+4) (.int .i64 0)=Bc (x.es.set q { e with er:=0 }):=Nc (f:=Xo) (s:=5) C8 (k:=4) (by omega) (v:=.int .i64 0) (x:=e) (y := { e with er:=0 }) rfl he
  obtain ⟨XB,hXB⟩:∃XB,XA=XB:=⟨_,rfl⟩
  rw [hXB]
  replace zg:=Bd.mk (And.intro g4 (And.intro g5 (And.intro g7 g8)))
  refine AR ?_
  refine BQ 2 rfl (by omega) fun gX DJ hgX Bl=>?_
  subst DJ
  simp only [List.eraseIdx_cons_zero,List.eraseIdx_cons_succ,BC,BD,BI,A_,and_true,List.not_mem_nil,or_false,De] at Bl hgX
  replace hgX:=And.intro hgX Bl
  clear Bl
  refine AU rfl ?_
  refine Ap (And.intro hXB hmod) ?_
  refine Aj (EW 2 (i:=q*5+4) (v:=.int .i64 0) rfl hlq (by kernel_rfl) rfl rfl) ?_
  refine Ap hset ?_
  refine ⟨x.es.set q { e with er:=0 },(by first|rfl|rw [hXB]),(by first|rfl|rw [hXB]),fun e2 he2=>?_⟩
  rcases List.mem_or_eq_of_mem_set he2 with h|h
  ·exact ik e2 h
  ·have IM:=ik e (List.mem_of_getElem? he)
   rw [h]
   exact ⟨IM.1,IM.2⟩
 intro G9 L' _ hF
 obtain ⟨es2,zq,rfl,he2⟩:=hF
 replace zg:=Bd.mk g7
 have g9:=Bg zq
 refine k0 _ _ ?_
 subst hxn
 refine AQ rfl fun K k0=>?_
 replace zg:=Bd.mk (And.intro g4 (And.intro g5 g9))
 refine AR ?_
 refine Aa (fun w hw=>Ws w) ?_
 try refine AR ?_
 refine Aa (fun w hw=>MH x.EA x.en x.ec x.es 1 w (Za hxb (L:=[_]) hw) ik (by omega)) ?_
 try refine AR ?_
 refine Aa (fun w hw=>MH x.EA x.en x.ec x.es 2 w (Za hxb (L:=[_]) hw) ik (by omega)) ?_
 try refine AR ?_
 refine Aa (fun w hw=>MH XA x.en xc es2 3 w (Sl.Av hw (AZ (k:=2) rfl)) he2 (by omega)) ?_
 try refine AR ?_
 refine k0 _ _ ?_
 refine AP (Br fun w hw=>?_)
 exact ⟨rfl,hw.below⟩
end Go.Proofs.YtegonkdandmolaaGreat
