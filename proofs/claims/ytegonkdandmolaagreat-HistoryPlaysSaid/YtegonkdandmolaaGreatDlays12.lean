import Derived.Test.YtegonkdandmolaaGreatDlays10
import Derived.Test.YtegonkdandmolaaGreatDlays11
import Derived.Test.YtegonkdandmolaaGreatDlays2
set_option linter.unusedVariables false
set_option linter.unusedSimpArgs false
set_option maxRecDepth 100000
set_option maxHeartbeats 4000000
namespace Go.Proofs.YtegonkdandmolaaGreat
open Go.RowKit Go.Shelf
def Cj (R:List Ai):Ai:=.dat (Ak R) (fun w=>(∀r∈R,r.holds w)/\R.Pairwise (fun (r s:Ai) => ∀b∈r.foot,b∉s.foot)) (fun _ _ hk h=>⟨fun r hr=>r.keep (h.1 r hr) fun b hb=>hk b (List.mem_flatMap.2 ⟨r,hr,hb⟩),h.2⟩)
section
variable {P:Program} {M:List Nat} {W w:World} {L R:List Ai}
theorem Cs (R L:List Ai) (k:Nat):look (Cj R::L) k=look L k:=rfl
theorem Ct (R L:List Ai) (k:Nat) (us:List Value):FK (Cj R::L) k us=Cj R::FK L k us:=rfl
theorem DT (R L:List Ai) (b:Nat):LW (Cj R::L) b=LW L b:=rfl
theorem DU (R L:List Ai) (b:Nat):O7 (Cj R::L) b=O7 L b:=rfl
theorem CW (R L:List Ai) (W':World) (M':List Nat):Ee W' M' (Cj R::L)=Ee W' M' L:=rfl
theorem CX (R L:List Ai) (k:Nat):fresh (Cj R::L) k=fresh L k:=rfl
theorem St.Cj (h:St M W (R++L) w):St M W (Cj R::L) w:=by
 have hp:=List.pairwise_append.1 h.apart
 refine ⟨h.Bz, ?_, ?_,List.pairwise_cons.2 ⟨?_,hp.2.1⟩⟩
 ·intro r hr
  cases hr with
  | head=>exact ⟨fun r hr=>h.holds r (List.mem_append.2 (.inl hr)),hp.1⟩
  | tail _ hr=>exact h.holds r (List.mem_append.2 (.inr hr))
 ·intro r hr b hb
  cases hr with
  | head =>
   obtain ⟨s,hs,hb⟩:=List.mem_flatMap.1 hb
   exact h.own s (List.mem_append.2 (.inl hs)) b hb
  | tail _ hr=>exact h.own r (List.mem_append.2 (.inr hr)) b hb
 ·intro s hs b hb
  obtain ⟨r,hr,hb⟩:=List.mem_flatMap.1 hb
  exact hp.2.2 r hr s hs b hb
theorem St.Il (h:St M W (Go.Proofs.YtegonkdandmolaaGreat.Cj R::L) w):St M W (R++L) w:=by
 have hp:=List.pairwise_cons.1 h.apart
 have hh:(∀r∈R,r.holds w)/\R.Pairwise (fun (r s:Ai) => ∀b∈r.foot,b∉s.foot):=h.holds _ (.head _)
 refine ⟨h.Bz, ?_, ?_,List.pairwise_append.2 ⟨hh.2,hp.2,fun r hr s hs b hb=>hp.1 s hs b (List.mem_flatMap.2 ⟨r,hr,hb⟩)⟩⟩
 ·intro r hr
  cases List.mem_append.1 hr with
  | inl hr=>exact hh.1 r hr
  | inr hr=>exact h.holds r (.tail _ hr)
 ·intro r hr b hb
  cases List.mem_append.1 hr with
  | inl hr=>exact h.own _ (.head _) b (List.mem_flatMap.2 ⟨r,hr,hb⟩)
  | inr hr=>exact h.own r (.tail _ hr) b hb
theorem KW {ι:Sort _} {g:FuncId} {args:Array Value} (A G:List Ai) (hp:(A++G).Perm L) (f:ι->Value) (Lf:ι->List Ai) (φ:ι->Prop)
  (h:∀w,St (Ak G) w G w->Calls P g args w (fun e w' => ∃i,e = .returned (f i)/\φ i/\St (Ak G) w (Lf i) w')) (hst:St (Ak L) W L W) :
  Calls P g args W (fun e w' => ∃i,e = .returned (f i)/\φ i/\St (Ak L) W (Lf i++A) w'):=by
 refine (GX (K:=fun t v L' => ∃i,v=f i/\φ i/\L'=Lf i++A) A G f Lf φ (fun w _ h2=>h w h2) (fun i hi=>⟨i,rfl,hi,rfl⟩) W (hst.perm hp)).mono ?_
 rintro e w' ⟨v,L',he,hs,i,rfl,hi,rfl⟩
 exact ⟨i,he,hi,hs⟩
theorem Sy (G:List Ai):Ak [Cj G]=Ak G:=by unfold Ak;rw [List.flatMap_cons,List.flatMap_nil,List.append_nil];rfl
theorem K7 {ι:Sort _} {g:FuncId} {args:Array Value} {G:List Ai} {f:ι->Value} {Lf:ι->List Ai} {φ:ι->Prop}
  (h:St (Ak G) W G W->Calls P g args W (fun e w' => ∃i,e = .returned (f i)/\φ i/\St (Ak G) W (Lf i) w')) (hst:St (Ak [Cj G]) W [Cj G] W) :
  Calls P g args W (fun e w' => ∃i,e = .returned (f i)/\φ i/\St (Ak [Cj G]) W [Cj (Lf i)] w'):=by
 rw [Sy] at hst ⊢
 have h1:=hst.Il
 rw [List.append_nil] at h1
 refine (h h1).mono ?_
 rintro e w' ⟨i,he,hi,hs⟩
 exact ⟨i,he,hi,St.Cj (by rw [List.append_nil];exact hs)⟩
theorem aR {B r:Ai} {R:List Ai} {k:Nat} (hk:nth R k=some r):(R.eraseIdx k++[B,r]).Perm (B::R):=by
 have h1:=DI hk
 exact (List.perm_append_comm (l₁:=R.eraseIdx k) (l₂:=[B,r])).trans (.cons B h1.symm)
theorem KX {R:List Ai} {k:Nat} (hk:k<R.length) (r':Ai):(R.set k r').Perm (r'::R.eraseIdx k):=by
 have h1:nth (R.set k r') k=some r':=by rw [EL,List.getElem?_set_self hk]
 have h2:=DI h1
 rwa [List.eraseIdx_set_eq] at h2
end
def Mx (t:U7):Ai:=.row (.slice t.A t.n t.c) 126 2 t.n (cl QV t.fs)
structure WG where
 A:Option Addr
 n:Nat
 c:Nat
 l:List Nat
def NR (t:WG):List Value:=[.slice t.A t.n t.c]
theorem F6 (t:WG):(NR t).length=1:=rfl
def Cb (t:WG):Ai:=.row (.slice t.A t.n t.c) 5 1 t.n (Gs t.l)
structure Aw where
 b:Nat
 y0:Value
 y1:Value
 y2:Value
 y3:Value
 y4:Value
 y5:Value
 y6:Value
 y7:Value
 y8:Value
 TA:Option Addr
 tn:Nat
 tc:Nat
 Gw:List U7
 N:Int
 UA:Option Addr
 un:Nat
 uc:Nat
 us:List Ext
 tb:Ez
 LA:Option Addr
 ln:Nat
 lc:Nat
 l:List Bw
 lim:Qu
 MA:Option Addr
 mn:Nat
 mc:Nat
 mt:List Sh
 cap:Int
 EA:Option Addr
 en:Nat
 ec:Nat
 es:List DZ
 SA:Option Addr
 sn:Nat
 sc:Nat
 ms:List Int
 BA:Option Addr
 bn:Nat
 bc:Nat
 D8:List WG
 g:Nat
 sv:List Int
def Du (x:Aw):Ai:=.blk x.b 65 [x.y0,x.y1,x.y2,x.y3,x.y4,x.y5,x.y6,x.y7,x.y8,.slice x.TA x.tn x.tc,.int .i64 x.N,.slice x.UA x.un x.uc,.pointer (some ⟨x.tb.tb,0,none⟩),.slice x.LA x.ln x.lc,.int .i64 x.lim.qb,.int .i64 x.lim.qo,.int .i64 x.lim.qr,.slice x.MA x.mn x.mc,.int .i64 x.cap,.slice x.EA x.en x.ec,.slice x.SA x.sn x.sc,.slice x.BA x.bn x.bc,.slice (some ⟨x.g,0,none⟩) 65 65]
def DW (x:Aw):List Ai:=[.row (.slice x.TA x.tn x.tc) 81 2 x.tn (x.Gw.flatMap RQ),.row (.slice x.UA x.un x.uc) 103 2 x.un (Bn x.us),.row (.slice x.LA x.ln x.lc) 163 4 x.ln (Au x.l),.row (.slice x.MA x.mn x.mc) 213 4 x.mn (CE x.mt),.row (.slice x.EA x.en x.ec) 68 5 x.en (Bc x.es),.row (.slice x.SA x.sn x.sc) 3 1 x.sn (Bf x.ms),.row (.slice x.BA x.bn x.bc) 42 1 x.bn (x.D8.flatMap NR),.row (.slice (some ⟨x.g,0,none⟩) 65 65) 3 1 65 (Bf x.sv),Cj (H9 x.tb),Cj (x.Gw.map Mx),Cj (x.D8.map Cb)]
def Al (x:Aw):List Ai:=[Du x,Cj (DW x)]
theorem nD (x:Aw):Ak (Al x)=Ak (Du x::DW x):=by
 unfold Al Ak
 rw [List.flatMap_cons,List.flatMap_cons,List.flatMap_cons,List.flatMap_nil,List.append_nil]
 rfl
section
variable {P:Program} {W:World}
theorem Nh {ι:Sort _} {g:FuncId} {args:Array Value} (x:Aw) (k:Nat) {r:Ai} (hk:nth (DW x) k=some r) (f:ι->Value) (Lf:ι->List Ai) (φ:ι->Prop) (y:ι->Aw) (r':ι->Ai) (ex:ι->List Ai)
  (hy:∀i,φ i->Lf i=ex i++[Du (y i),r' i]/\DW (y i)=(DW x).set k (r' i))
  (h:∀w,St (Ak [Du x,r]) w [Du x,r] w->Calls P g args w (fun e w' => ∃i,e = .returned (f i)/\φ i/\St (Ak [Du x,r]) w (Lf i) w')) (hst:St (Ak (Al x)) W (Al x) W) :
  Calls P g args W (fun e w' => ∃i,e = .returned (f i)/\φ i/\St (Ak (Al x)) W (ex i++Al (y i)) w'):=by
 rw [nD] at hst ⊢
 have h0:St (Ak (Du x::DW x)) W (Du x::DW x) W:=by
  have h1:St (Ak (Du x::DW x)) W (Cj (DW x)::[Du x]) W:=hst.perm (List.Perm.swap _ _ _)
  exact h1.Il.perm (List.perm_append_comm (l₁:=[Du x]))
 refine (KW ((DW x).eraseIdx k) [Du x,r] (aR hk) f Lf φ h h0).mono ?_
 rintro e w' ⟨i,he,hi,hs⟩
 obtain ⟨h1,h2⟩:=hy i hi
 refine ⟨i,he,hi, ?_⟩
 rw [h1] at hs
 have hlt:k<(DW x).length:=by rw [EL] at hk;exact (List.getElem?_eq_some_iff.1 hk).1
 have h3:St (Ak (Du x::DW x)) W (DW (y i)++([Du (y i)]++ex i)) w':=hs.perm (by
  rw [h2]
  have p1:((DW x).set k (r' i)++([Du (y i)]++ex i)).Perm ((r' i::(DW x).eraseIdx k)++([Du (y i)]++ex i)):=(KX hlt (r' i)).append_right _
  refine p1.trans ?_
  rw [List.append_assoc]
  refine List.perm_append_comm.trans ?_
  rw [List.append_assoc]
  refine (List.perm_append_comm_assoc _ _ _).trans ?_
  exact List.Perm.refl _)
 refine h3.Cj.perm ?_
 unfold Al
 exact List.perm_append_comm.trans (List.Perm.swap _ _ _)
theorem F7 {ι:Sort _} {g:FuncId} {args:Array Value} (x:Aw) (k:Nat) {r:Ai} (hk:nth (DW x) k=some r) (f:ι->Value) (Lf:ι->List Ai) (φ:ι->Prop) (y:ι->Aw) (r':ι->Ai)
  (hy:∀i,φ i->Lf i=[Du (y i),r' i]/\DW (y i)=(DW x).set k (r' i))
  (h:∀w,St (Ak [Du x,r]) w [Du x,r] w->Calls P g args w (fun e w' => ∃i,e = .returned (f i)/\φ i/\St (Ak [Du x,r]) w (Lf i) w')) (hst:St (Ak (Al x)) W (Al x) W) :
  Calls P g args W (fun e w' => ∃i,e = .returned (f i)/\φ i/\St (Ak (Al x)) W (Al (y i)) w') :=
 Nh x k hk f Lf φ y r' (fun _=>[]) hy h hst
theorem K8 {ι:Sort _} {g:FuncId} {args:Array Value} (x:Aw) (k:Nat) {r:Ai} (hk:nth (DW x) k=some r) (f:ι->Value) (Lf:ι->List Ai) (φ:ι->Prop) (y:ι->Aw) (r':ι->Ai)
  (hy:∀i,φ i->Lf i=[r' i]/\Du (y i)=Du x/\DW (y i)=(DW x).set k (r' i))
  (h:∀w,St (Ak [r]) w [r] w->Calls P g args w (fun e w' => ∃i,e = .returned (f i)/\φ i/\St (Ak [r]) w (Lf i) w')) (hst:St (Ak (Al x)) W (Al x) W) :
  Calls P g args W (fun e w' => ∃i,e = .returned (f i)/\φ i/\St (Ak (Al x)) W (Al (y i)) w'):=by
 refine F7 x k hk f (fun i=>[Du (y i),r' i]) φ y r' (fun i hi=>⟨rfl,(hy i hi).2.2⟩) (fun w hw=>?_) hst
 refine (KW (L:=[Du x,r]) [Du x] [r] (List.Perm.refl _) f Lf φ h hw).mono ?_
 rintro e w' ⟨i,he,hi,hs⟩
 obtain ⟨h1,h2,h3⟩:=hy i hi
 rw [h1] at hs
 exact ⟨i,he,hi,by rw [h2];exact hs.perm (List.Perm.swap _ _ _)⟩
end
section
variable {P:Program} {W:World}
theorem YE {ι:Sort _} {g:FuncId} {args:Array Value} {G:List Ai} {f:ι->Value} {Lf ex:ι->List Ai} {φ:ι->Prop}
  (h:St (Ak G) W G W->Calls P g args W (fun e w' => ∃i,e = .returned (f i)/\φ i/\St (Ak G) W (ex i++Lf i) w')) (hst:St (Ak [Cj G]) W [Cj G] W) :
  Calls P g args W (fun e w' => ∃i,e = .returned (f i)/\φ i/\St (Ak [Cj G]) W (ex i++[Cj (Lf i)]) w'):=by
 rw [Sy] at hst ⊢
 have h1:=hst.Il
 rw [List.append_nil] at h1
 refine (h h1).mono ?_
 rintro e w' ⟨i,he,hi,hs⟩
 exact ⟨i,he,hi,(St.Cj (hs.perm List.perm_append_comm)).perm List.perm_append_comm⟩
theorem YF {ι:Sort _} {g:FuncId} {args:Array Value} (x:Aw) (k:Nat) {r:Ai} (hk:nth (DW x) k=some r) (f:ι->Value) (Lf:ι->List Ai) (φ:ι->Prop) (y:ι->Aw) (r':ι->Ai) (ex:ι->List Ai)
  (hy:∀i,φ i->Lf i=ex i++[r' i]/\Du (y i)=Du x/\DW (y i)=(DW x).set k (r' i))
  (h:∀w,St (Ak [r]) w [r] w->Calls P g args w (fun e w' => ∃i,e = .returned (f i)/\φ i/\St (Ak [r]) w (Lf i) w')) (hst:St (Ak (Al x)) W (Al x) W) :
  Calls P g args W (fun e w' => ∃i,e = .returned (f i)/\φ i/\St (Ak (Al x)) W (ex i++Al (y i)) w'):=by
 refine Nh x k hk f (fun i=>ex i++[Du (y i),r' i]) φ y r' ex (fun i hi=>⟨rfl,(hy i hi).2.2⟩) (fun w hw=>?_) hst
 refine (KW (L:=[Du x,r]) [Du x] [r] (List.Perm.refl _) f Lf φ h hw).mono ?_
 rintro e w' ⟨i,he,hi,hs⟩
 obtain ⟨h1,h2,h3⟩:=hy i hi
 rw [h1,List.append_assoc] at hs
 exact ⟨i,he,hi,by rw [h2];exact hs.perm ((List.Perm.swap _ _ _).append_left _)⟩
end
def hpC (x:Aw):m_:=⟨x.y0,x.y1,x.y2,x.y3,x.y4,x.y5,x.y6,x.y7,x.y8,.slice x.TA x.tn x.tc,.int .i64 x.N,.slice x.UA x.un x.uc,.pointer (some ⟨x.tb.tb,0,none⟩),.slice x.LA x.ln x.lc,.int .i64 x.lim.qb,.int .i64 x.lim.qo,.int .i64 x.lim.qr,.slice x.MA x.mn x.mc,.int .i64 x.cap,.slice x.EA x.en x.ec,.slice x.SA x.sn x.sc,.slice x.BA x.bn x.bc,.slice (some ⟨x.g,0,none⟩) 65 65⟩
def Aw.EP (x:Aw) (y:GJ):Aw := { x with LA:=y.A,ln:=y.n,lc:=y.c,l:=y.l }
def Aw.CJ (x:Aw) (y:KS):Aw := { x with MA:=y.A,mn:=y.n,mc:=y.c,mt:=y.l }
def Aw.I7 (x:Aw) (y:df):Aw := { x with EA:=y.A,en:=y.n,ec:=y.c,es:=y.es }
def Aw.H_ (x:Aw) (y:Li):Aw := { x with UA:=y.UA,un:=y.un,uc:=y.uc,us:=y.us }
def Aw.GY (x:Aw) (y:Ez):Aw := { x with tb:=y }
def ZK (y:GJ):Ai:=.row (.slice y.A y.n y.c) 163 4 y.n (Au y.l)
theorem Rm (x:Aw) {b:Nat} (hb:x.b=b) (ho:Int) (hl:x.l.length<=100000) (W:World) (hst:St (Ak (Al x)) W (Al x) W) :
  Calls Tryz.prog 51 #[.pointer (some ⟨b,13,none⟩),.int .i64 ho] W
  fun en w' => ∃y:GJ,en = .returned (.int .i64 (ED x.l ho:Int))/\y.l=(x.l.filter fun b => !decide (b.ho=ho))/\St (Ak (Al x)) W (Al (x.EP y)) w' :=
 hb▸F7 x 2 rfl _ _ _ (fun y=>x.EP y) ZK (fun i hi=>⟨rfl,rfl⟩) (fun w hw=>QP x.b x.y0 x.y1 x.y2 x.y3 x.y4 x.y5 x.y6 x.y7 x.y8 (.slice x.TA x.tn x.tc) (.int .i64 x.N) (.slice x.UA x.un x.uc) (.pointer (some ⟨x.tb.tb,0,none⟩)) (.int .i64 x.lim.qb) (.int .i64 x.lim.qo) (.int .i64 x.lim.qr) (.slice x.MA x.mn x.mc) (.int .i64 x.cap) (.slice x.EA x.en x.ec) (.slice x.SA x.sn x.sc) (.slice x.BA x.bn x.bc) (.slice (some ⟨x.g,0,none⟩) 65 65) ⟨x.LA,x.ln,x.lc,x.l⟩ ho hl w hw) hst
theorem Rn (x:Aw) {b:Nat} (hb:x.b=b) (ob:Int) (hl:x.l.length<=100000) (W:World) (hst:St (Ak (Al x)) W (Al x) W) :
  Calls Tryz.prog 85 #[.pointer (some ⟨b,13,none⟩),.int .i64 ob] W
  fun en w' => ∃i:(Option Addr×Nat×Nat)×GJ,en = .returned (QR i)/\i.2.l=(x.l.filter fun b => !decide (b.ob=ob))/\St (Ak (Al x)) W (.row (.slice i.1.1 i.1.2.1 i.1.2.2) 163 4 i.1.2.1 (Au (Fa x.l ob))::Al (x.EP i.2)) w' :=
 hb▸Nh x 2 rfl _ _ _ (fun i:(Option Addr×Nat×Nat)×GJ=>x.EP i.2) (fun i:(Option Addr×Nat×Nat)×GJ=>ZK i.2) (fun i:(Option Addr×Nat×Nat)×GJ=>[.row (.slice i.1.1 i.1.2.1 i.1.2.2) 163 4 i.1.2.1 (Au (Fa x.l ob))]) (fun i hi=>⟨rfl,rfl⟩) (fun w hw=>QQ x.b x.y0 x.y1 x.y2 x.y3 x.y4 x.y5 x.y6 x.y7 x.y8 (.slice x.TA x.tn x.tc) (.int .i64 x.N) (.slice x.UA x.un x.uc) (.pointer (some ⟨x.tb.tb,0,none⟩)) (.int .i64 x.lim.qb) (.int .i64 x.lim.qo) (.int .i64 x.lim.qr) (.slice x.MA x.mn x.mc) (.int .i64 x.cap) (.slice x.EA x.en x.ec) (.slice x.SA x.sn x.sc) (.slice x.BA x.bn x.bc) (.slice (some ⟨x.g,0,none⟩) 65 65) ⟨x.LA,x.ln,x.lc,x.l⟩ ob hl w hw) hst
theorem WH (x:Aw) {b:Nat} (hb:x.b=b) (ob ho:Int) (hl:x.l.length<=100000) (hc:∀e∈x.l,0<=e.co/\e.co<=4611686018427387904) (W:World) (hst:St (Ak (Al x)) W (Al x) W) :
  Calls Tryz.prog 104 #[.pointer (some ⟨b,13,none⟩),.int .i64 ob,.int .i64 ho] W
  fun en w' => ∃i:Int×GJ,en = .returned (Xq i)/\(Gj x.l ob ho i.1 i.2.l/\(¬i.1=0->i.2.l=x.l))/\St (Ak (Al x)) W (Al (x.EP i.2)) w' :=
 hb▸F7 x 2 rfl _ _ _ (fun i:Int×GJ=>x.EP i.2) (fun i:Int×GJ=>ZK i.2) (fun i hi=>⟨rfl,rfl⟩) (fun w hw=>UL x.b x.y0 x.y1 x.y2 x.y3 x.y4 x.y5 x.y6 x.y7 x.y8 (.slice x.TA x.tn x.tc) (.int .i64 x.N) (.slice x.UA x.un x.uc) (.pointer (some ⟨x.tb.tb,0,none⟩)) (.int .i64 x.lim.qb) (.int .i64 x.lim.qo) (.int .i64 x.lim.qr) (.slice x.MA x.mn x.mc) (.int .i64 x.cap) (.slice x.EA x.en x.ec) (.slice x.SA x.sn x.sc) (.slice x.BA x.bn x.bc) (.slice (some ⟨x.g,0,none⟩) 65 65) ⟨x.LA,x.ln,x.lc,x.l⟩ ob ho hl hc w hw) hst
theorem gF (x:Aw) {b:Nat} (hb:x.b=b) (ob ho mo:Int) (hmo:mo=1\/mo=2) (hl:x.l.length<=100000) (hc:∀e∈x.l,0<=e.co/\e.co<=4611686018427387904) (W:World) (hst:St (Ak (Al x)) W (Al x) W) :
  Calls Tryz.prog 103 #[.pointer (some ⟨b,13,none⟩),.int .i64 ob,.int .i64 ho,.int .i64 mo] W
  fun en w' => ∃i:Int×GJ,en = .returned (Xq i)/\(GV x.l ob ho mo i.1 i.2.l/\(¬i.1=0->i.2.l=x.l))/\St (Ak (Al x)) W (Al (x.EP i.2)) w' :=
 hb▸F7 x 2 rfl _ _ _ (fun i:Int×GJ=>x.EP i.2) (fun i:Int×GJ=>ZK i.2) (fun i hi=>⟨rfl,rfl⟩) (fun w hw=>aN x.b x.y0 x.y1 x.y2 x.y3 x.y4 x.y5 x.y6 x.y7 x.y8 (.slice x.TA x.tn x.tc) (.int .i64 x.N) (.slice x.UA x.un x.uc) (.pointer (some ⟨x.tb.tb,0,none⟩)) (.int .i64 x.lim.qb) (.int .i64 x.lim.qo) (.int .i64 x.lim.qr) (.slice x.MA x.mn x.mc) (.int .i64 x.cap) (.slice x.EA x.en x.ec) (.slice x.SA x.sn x.sc) (.slice x.BA x.bn x.bc) (.slice (some ⟨x.g,0,none⟩) 65 65) ⟨x.LA,x.ln,x.lc,x.l⟩ ob ho mo hmo hl hc w hw) hst
theorem UO (x:Aw) {b:Nat} (hb:x.b=b) (p:Int) (q:Qu) (hl:x.mt.length<=90000) (hlim:x.lim.lim) (hq:q.ok) (hok:∀s∈x.mt,s.q.ok) (W:World) (hst:St (Ak (Al x)) W (Al x) W) :
  Calls Tryz.prog 94 #[.pointer (some ⟨b,14,none⟩),.int .i64 p,O9 q] W
  fun en w' => ∃i:KS,en = .returned (JI i)/\(i.r,i.l)=I6 x.lim x.mt p q/\St (Ak (Al x)) W (Al (x.CJ i)) w' :=
 hb▸F7 x 3 rfl _ _ _ (fun i:KS=>x.CJ i) (fun i:KS=>.row (.slice i.A i.n i.c) 213 4 i.n (CE i.l)) (fun i hi=>⟨rfl,rfl⟩) (fun w hw=>fZ x.b (hpC x) x.lim x.MA x.mn x.mc x.mt p q ⟨rfl,rfl,rfl,rfl⟩ hl hlim hq hok w hw) hst
theorem M0 (x:Aw) {b:Nat} (hb:x.b=b) (p:Int) (q:Qu) (hl:x.mt.length<=90000) (hq:q.ok) (hok:∀s∈x.mt,s.q.ok) (W:World) (hst:St (Ak (Al x)) W (Al x) W) :
  Calls Tryz.prog 50 #[.pointer (some ⟨b,14,none⟩),.int .i64 p,O9 q] W
  fun en w' => ∃i:KS,en = .returned (JI i)/\(i.r,i.l)=GI x.mt p q/\St (Ak (Al x)) W (Al (x.CJ i)) w' :=
 hb▸F7 x 3 rfl _ _ _ (fun i:KS=>x.CJ i) (fun i:KS=>.row (.slice i.A i.n i.c) 213 4 i.n (CE i.l)) (fun i hi=>⟨rfl,rfl⟩) (fun w hw=>fo x.b (hpC x) x.lim x.MA x.mn x.mc x.mt p q ⟨rfl,rfl,rfl,rfl⟩ hl hq hok w hw) hst
theorem MB (x:Aw) {b:Nat} (hb:x.b=b) (e:DZ) (hl:x.es.length<=90000) (W:World) (hst:St (Ak (Al x)) W (Al x) W) :
  Calls Tryz.prog 48 #[.pointer (some ⟨b,18,none⟩),NZ e] W
  fun en w' => ∃i:df,en = .returned (UK i)/\(i.r,i.es)=Lx x.cap x.es e/\St (Ak (Al x)) W (Al (x.I7 i)) w' :=
 hb▸F7 x 4 rfl _ _ _ (fun i:df=>x.I7 i) (fun i:df=>.row (.slice i.A i.n i.c) 68 5 i.n (Bc i.es)) (fun i hi=>⟨rfl,rfl⟩) (fun w hw=>V4 x.b (hpC x) x.cap x.EA x.en x.ec x.es e rfl rfl hl w hw) hst
theorem YG (x:Aw) {b:Nat} (hb:x.b=b) (n:Int) (fr:List Ext) (tk:List (Int×Int)) (hI:Ex.Inv x.N x.us fr tk) (hl:x.us.length<=90) (W:World) (hst:St (Ak (Al x)) W (Al x) W) :
  Calls Tryz.prog 92 #[.pointer (some ⟨b,10,none⟩),.int .i64 n] W
  fun en w' => ∃z:Li,en = .returned (.tuple #[aP (Ex.findF fr n).1,.int .i64 (Ex.findF fr n).2])/\(z.bM=x.b/\z.N=x.N/\z.us=(if (Ex.findF fr n).2=0 then x.us++[(Ex.findF fr n).1] else x.us))/\St (Ak (Al x)) W (Al (x.H_ z)) w' :=
 hb▸F7 x 1 rfl _ _ _ (fun z=>x.H_ z) (fun z=>.row (.slice z.UA z.un z.uc) 103 2 z.un (Bn z.us)) (fun z hz=>by obtain ⟨h1,h2, -⟩:=hz;refine ⟨?_,rfl⟩;unfold Xr;rw [h1,h2];rfl) (fun w hw=>WC x.y0 x.y1 x.y2 x.y3 x.y4 x.y5 x.y6 x.y7 x.y8 (.slice x.TA x.tn x.tc) (.pointer (some ⟨x.tb.tb,0,none⟩)) (.slice x.LA x.ln x.lc) (.int .i64 x.lim.qb) (.int .i64 x.lim.qo) (.int .i64 x.lim.qr) (.slice x.MA x.mn x.mc) (.int .i64 x.cap) (.slice x.EA x.en x.ec) (.slice x.SA x.sn x.sc) (.slice x.BA x.bn x.bc) (.slice (some ⟨x.g,0,none⟩) 65 65) ⟨x.b,x.N,x.UA,x.un,x.uc,x.us⟩ n fr tk w hw hI hl) hst
theorem aU (x:Aw) {b:Nat} (hb:x.b=b) (e:Ext) (hl:x.us.length<=90) (W:World) (hst:St (Ak (Al x)) W (Al x) W) :
  Calls Tryz.prog 86 #[.pointer (some ⟨b,10,none⟩),aP e] W
  fun en w' => ∃z:Li,en = .returned (.int .i64 (if e∈x.us then 0 else 6))/\(z.bM=x.b/\z.N=x.N/\z.us=(x.us.filter fun y=>decide (y≠e)))/\St (Ak (Al x)) W (Al (x.H_ z)) w' :=
 hb▸F7 x 1 rfl _ _ _ (fun z=>x.H_ z) (fun z=>.row (.slice z.UA z.un z.uc) 103 2 z.un (Bn z.us)) (fun z hz=>by obtain ⟨h1,h2, -⟩:=hz;refine ⟨?_,rfl⟩;unfold Xr;rw [h1,h2];rfl) (fun w hw=>YD x.y0 x.y1 x.y2 x.y3 x.y4 x.y5 x.y6 x.y7 x.y8 (.slice x.TA x.tn x.tc) (.pointer (some ⟨x.tb.tb,0,none⟩)) (.slice x.LA x.ln x.lc) (.int .i64 x.lim.qb) (.int .i64 x.lim.qo) (.int .i64 x.lim.qr) (.slice x.MA x.mn x.mc) (.int .i64 x.cap) (.slice x.EA x.en x.ec) (.slice x.SA x.sn x.sc) (.slice x.BA x.bn x.bc) (.slice (some ⟨x.g,0,none⟩) 65 65) ⟨x.b,x.N,x.UA,x.un,x.uc,x.us⟩ e w hw hl) hst
theorem M3 (x:Aw) (y:Ez) (h:y.tb=x.tb.tb):Du (x.GY y)=Du x:=by unfold Du Aw.GY;dsimp only;rw [h]
theorem OY (x:Aw) (h:Nat) (hh:h<18446744073709551616) (hN:x.tb.s.gen.length=x.tb.s.Cz.length) (W:World) (hst:St (Ak (Al x)) W (Al x) W) :
  Calls Tryz.prog 95 #[.pointer (some ⟨x.tb.tb,0,none⟩),.int .u64 (h:Int)] W
  fun en w' => ∃i:Unit,en = .returned (KP x.tb h)/\True/\St (Ak (Al x)) W (Al x) w' :=
 K8 x 8 rfl _ _ _ (fun _=>x) (fun _=>Cj (H9 x.tb)) (fun i hi=>⟨rfl,rfl,rfl⟩) (fun w hw=>K7 (fun hw=>Jt x.tb h hh hN w hw) hw) hst
theorem gG (x:Aw) (h:Nat) (hh:h<18446744073709551616) (k:Nat) (hi:K4 x.tb k) (W:World) (hst:St (Ak (Al x)) W (Al x) W) :
  Calls Tryz.prog 87 #[.pointer (some ⟨x.tb.tb,0,none⟩),.int .u64 (h:Int)] W
  fun en w' => ∃y:Ez,en = .returned (.int .i64 (Dp x.tb h))/\Vv x.tb y h/\St (Ak (Al x)) W (Al (x.GY y)) w' :=
 K8 x 8 rfl _ _ _ (fun y=>x.GY y) (fun y=>Cj (H9 y)) (fun i hi=>⟨rfl,M3 x i hi.k.tb,rfl⟩) (fun w hw=>K7 (fun hw=>aG x.tb h hh k hi w hw) hw) hst
theorem gH (x:Aw) (h:Nat) (ow:Int) (hh:h<18446744073709551616) (k:Nat) (hi:K4 x.tb k) (W:World) (hst:St (Ak (Al x)) W (Al x) W) :
  Calls Tryz.prog 101 #[.pointer (some ⟨x.tb.tb,0,none⟩),.int .u64 (h:Int),.int .i64 ow] W
  fun en w' => ∃y:Ez,en = .returned (.int .i64 (KQ x.tb h ow))/\Vw x.tb y h ow/\St (Ak (Al x)) W (Al (x.GY y)) w' :=
 K8 x 8 rfl _ _ _ (fun y=>x.GY y) (fun y=>Cj (H9 y)) (fun i hi=>⟨rfl,M3 x i hi.k.tb,rfl⟩) (fun w hw=>K7 (fun hw=>aH x.tb h ow hh k hi w hw) hw) hst
theorem aV (x:Aw) (ow tag off len:Int) (d:Nat) (hd:d<18446744073709551616) (k:Nat) (hi:K4 x.tb k) (W:World) (hst:St (Ak (Al x)) W (Al x) W) :
  Calls Tryz.prog 93 #[.pointer (some ⟨x.tb.tb,0,none⟩),.int .i64 ow,.int .i64 tag,.agg #[.int .i64 off,.int .i64 len],.int .u64 (d:Int)] W
  fun en w' => ∃i:Rf,en = .returned (ZG i)/\ABm x.tb ow tag off len d i/\St (Ak (Al x)) W (Al (x.GY i.y)) w' :=
 K8 x 8 rfl _ _ _ (fun i:Rf=>x.GY i.y) (fun i:Rf=>Cj (H9 i.y)) (fun i hi=>⟨rfl,M3 x i.y hi.k.tb,rfl⟩) (fun w hw=>K7 (fun hw=>YA x.tb ow tag off len d hd k hi w hw) hw) hst
theorem nE (x:Aw) (k:Nat) (hi:K4 x.tb k) (W:World) (hst:St (Ak (Al x)) W (Al x) W) :
  Calls Tryz.prog 52 #[.pointer (some ⟨x.tb.tb,0,none⟩)] W
  fun en w' => ∃i:YB,en = .returned (fQ i)/\i.n=(Ju x.tb x.tb.en).length/\St (Ak (Al x)) W (.row (.slice i.A i.n i.c) 135 5 i.n (Ca (Ju x.tb x.tb.en))::Al x) w' :=
 YF x 8 rfl _ _ _ (fun _:YB=>x) (fun _:YB=>Cj (H9 x.tb)) (fun i:YB=>[.row (.slice i.A i.n i.c) 135 5 i.n (Ca (Ju x.tb x.tb.en))]) (fun i hi=>⟨rfl,rfl,rfl⟩) (fun w hw=>YE (ex:=fun i:YB=>[.row (.slice i.A i.n i.c) 135 5 i.n (Ca (Ju x.tb x.tb.en))]) (Lf:=fun _=>H9 x.tb) (fun hw=>fT x.tb k hi w hw) hw) hst
section
variable {M:List Nat} {W w:World} {L R:List Ai} {K:Ai}
theorem St.swp {a b:Ai} (h:St M W (a::b::L) w):St M W (b::a::L) w:=h.perm (List.Perm.swap _ _ _)
theorem St.Fj {k:Nat} {r:Ai} (hk:nth R k=some r) (h:St M W (K::Go.Proofs.YtegonkdandmolaaGreat.Cj R::L) w):St M W (K::r::Go.Proofs.YtegonkdandmolaaGreat.Cj (R.eraseIdx k)::L) w:=by
 have h2:St M W (R.eraseIdx k++(K::r::L)) w:=h.swp.Il.perm (((List.Perm.swap r K L).append_left (R.eraseIdx k)).trans (List.perm_middle.trans ((DI hk).symm.append_right (K::L))))
 exact h2.Cj.perm (List.perm_middle (l₁:=[K,r]))
theorem St.FV {k:Nat} (r':Ai) (hk:k<R.length) (h:St M W (K::r'::Go.Proofs.YtegonkdandmolaaGreat.Cj (R.eraseIdx k)::L) w):St M W (K::Go.Proofs.YtegonkdandmolaaGreat.Cj (R.set k r')::L) w:=by
 have h1:St M W (Go.Proofs.YtegonkdandmolaaGreat.Cj (R.eraseIdx k)::K::r'::L) w:=h.perm (List.perm_middle (l₁:=[K,r'])).symm
 have h2:St M W (R.set k r'++(K::L)) w:=h1.Il.perm (((KX hk r').append_right (K::L)).trans (List.perm_middle.symm.trans ((List.Perm.swap K r' L).append_left (R.eraseIdx k))))
 exact h2.Cj.swp
theorem Aw.lgw {x:Aw} (h:St M W (Du x::Go.Proofs.YtegonkdandmolaaGreat.Cj (DW x)::L) w) (hl:x.l.length<=100000):JJ w w.heap.size x.b 13 x.LA x.ln x.lc x.l:=JJ.fq (h.Fj (k:=2) rfl) 0 1 rfl rfl hl
theorem Aw.mtw {x:Aw} (h:St M W (Du x::Go.Proofs.YtegonkdandmolaaGreat.Cj (DW x)::L) w) (hl:x.mt.length<=100000):ZE w w.heap.size x.b 14 x.lim x.MA x.mn x.mc x.mt:=ZE.of (h.Fj (k:=3) rfl) 0 1 14 rfl rfl rfl hl
theorem Aw.evw {x:Aw} (h:St M W (Du x::Go.Proofs.YtegonkdandmolaaGreat.Cj (DW x)::L) w) (hl:x.es.length<=100000):Ot w w.heap.size x.b 18 x.cap (.slice x.SA x.sn x.sc) x.EA x.en x.ec x.es:=Ot.of (h.Fj (k:=4) rfl) 0 1 18 rfl rfl rfl hl
theorem Aw.svl {x:Aw} (h:St M W (Du x::Go.Proofs.YtegonkdandmolaaGreat.Cj (DW x)::L) w):x.sv.length=65:=by
 have:=(Sl.Av (h.Fj (k:=7) rfl) (AZ (k:=1) rfl)).len
 rw [CG] at this
 omega
theorem Aw.byl {x:Aw} (h:St M W (Du x::Go.Proofs.YtegonkdandmolaaGreat.Cj (DW x)::L) w):x.D8.length=x.bn:=by
 have:=(Sl.Av (h.Fj (k:=6) rfl) (AZ (k:=1) rfl)).len
 rw [Cr F6] at this
 omega
theorem Aw.tyl {x:Aw} (h:St M W (Du x::Go.Proofs.YtegonkdandmolaaGreat.Cj (DW x)::L) w):x.Gw.length=x.tn:=by
 have:=(Sl.Av (h.Fj (k:=0) rfl) (AZ (k:=1) rfl)).len
 rw [Cr M4] at this
 omega
theorem Am {x:Aw} {b:Nat} (h:x.b=b):Du x = .blk b 65 [x.y0,x.y1,x.y2,x.y3,x.y4,x.y5,x.y6,x.y7,x.y8,.slice x.TA x.tn x.tc,.int .i64 x.N,.slice x.UA x.un x.uc,.pointer (some ⟨x.tb.tb,0,none⟩),.slice x.LA x.ln x.lc,.int .i64 x.lim.qb,.int .i64 x.lim.qo,.int .i64 x.lim.qr,.slice x.MA x.mn x.mc,.int .i64 x.cap,.slice x.EA x.en x.ec,.slice x.SA x.sn x.sc,.slice x.BA x.bn x.bc,.slice (some ⟨x.g,0,none⟩) 65 65]:=by subst h;rfl
end
theorem De:type_of% (And.intro (And.intro (And.intro @Nat.mul_one (And.intro @Ae @G_)) (And.intro (And.intro @cM @Ce) (And.intro @Cf @Cg))) (And.intro (And.intro (And.intro @Ch @Ci) (And.intro @Cs @Ct)) (And.intro (And.intro @DT @DU) (And.intro @CW @CX)))):=(And.intro (And.intro (And.intro @Nat.mul_one (And.intro @Ae @G_)) (And.intro (And.intro @cM @Ce) (And.intro @Cf @Cg))) (And.intro (And.intro (And.intro @Ch @Ci) (And.intro @Cs @Ct)) (And.intro (And.intro @DT @DU) (And.intro @CW @CX))))
def DK (sv:List Int) (p:Int):Bool:=decide (1<=p)&&(decide (p<=64)&&decide ((sv[p.toNat]?).getD 0=1))
theorem Ho (x:Aw) {b:Nat} (hb:x.b=b) (p:Int) (W:World) (hst:St (Ak (Al x)) W (Al x) W) :
  Calls Tryz.prog 49 #[.pointer (some ⟨b,0,none⟩),.int .i64 p] W
  fun en w' => ∃i:Unit,en = .returned (.bool (DK x.sv p))/\True/\St (Ak (Al x)) W (Al x) w':=by
 subst hb
 have hl:=Aw.svl hst
 obtain ⟨M,hM⟩:∃M,Ak (Al x)=M:=⟨_,rfl⟩
 rw [hM] at hst ⊢
 clear hM
 have hst:=hst.Fj (k:=7) rfl
 have hU:∀ {w:World},St M W [Du x,.row (.slice (some ⟨x.g,0,none⟩) 65 65) 3 1 65 (Bf x.sv),Cj ((DW x).eraseIdx 7)] w->St M W (Al x) w:=fun h=>h.FV (k:=7) _ (by show 7<11;decide)
 unfold Du at hst
 refine Ab (M:=M) Tryz.func49 [.tmp 4]  hst ?_
 refine BQ 1 rfl (by omega) fun gN_ DJ UQ hN=>?_
 cases DJ
 clear UQ
 simp only [List.eraseIdx_cons_zero,List.eraseIdx_cons_succ,BC,BD,BI,A_,and_true,De] at hN
 have zs:=Bd.mk De
 refine Aq ?_
 by_cases h1:1<=p
 case neg =>
  have d1:¬(p≥1):=h1
  have ha:DK x.sv p=false:=by unfold DK;rw [decide_eq_false h1];rfl
  refine LX d1 ?_
  refine AP (Cc fun w hw=>?_)
  exact ⟨(),by rw [ha],trivial,hU hw⟩
 have d1:p≥1:=h1
 by_cases h2:p<=64
 case neg =>
  have ha:DK x.sv p=false:=by unfold DK;rw [decide_eq_false h2,Bool.false_and,Bool.and_false]
  refine LX (And.intro d1 h2) ?_
  refine AP (Cc fun w hw=>?_)
  exact ⟨(),by rw [ha],trivial,hU hw⟩
 obtain ⟨n,rfl⟩:∃n:Nat,p=(n:Int):=⟨p.toNat,by omega⟩
 obtain ⟨v,hv⟩:∃v,x.sv[n]? = some v:=⟨_,List.getElem?_eq_getElem (by omega)⟩
 have ha:DK x.sv n=decide (v=1):=by unfold DK;rw [decide_eq_true h1,decide_eq_true h2,Int.toNat_natCast,hv];rfl
 have dd1:decide ((n:Int)≥1)=true:=decide_eq_true d1
 have dd2:decide ((n:Int)<=64)=true:=decide_eq_true h2
 refine AQ rfl fun K k0=>?_
 refine D_ (And.intro dd1 dd2) ?_
 refine Aj (BN (m:=1) (i:=n) (v:=.int .i64 v) (AZ (k:=1) rfl) rfl (EY hv)) ?_
 refine Ah ?_
 refine k0 _ _ ?_
 refine AP (Cc fun w hw=>?_)
 exact ⟨(),by rw [ha],trivial,hU hw⟩
def Aw.MC (x:Aw) (sv:List Int):Aw := { x with sv:=sv }
def gJ (x:Aw) (p:Int):Int:=if p<1\/64<p then 15 else if ¬(x.sv[p.toNat]?).getD 0=0 then 28 else 0
structure AJo where
 y:Aw
structure ABw (x y:Aw) (p:Int):Prop where
 r:if gJ x p=0 then ∃i:df,y=(x.MC (x.sv.set p.toNat 1)).I7 i/\(i.r,i.es)=Lx x.cap x.es ⟨p,32,0,0,0⟩ else y=x
theorem aW (x:Aw) {b:Nat} (hb:x.b=b) (p:Int) (hE:x.es.length<=90000) (W:World) (hst:St (Ak (Al x)) W (Al x) W) :
  Calls Tryz.prog 19 #[.pointer (some ⟨b,0,none⟩),.int .i64 p] W
  fun en w' => ∃y:Aw,en = .returned (.int .i64 (gJ x p))/\ABw x y p/\St (Ak (Al x)) W (Al y) w':=by
 subst hb
 have hl:=Aw.svl hst
 obtain ⟨M,hM⟩:∃M,Ak (Al x)=M:=⟨_,rfl⟩
 rw [hM] at hst ⊢
 clear hM
 have hst:=hst.Fj (k:=7) rfl
 have hU:∀ {w:World} {sv:List Int},St M W [Du x,.row (.slice (some ⟨x.g,0,none⟩) 65 65) 3 1 65 (Bf sv),Cj ((DW x).eraseIdx 7)] w->St M W (Al (x.MC sv)) w:=fun h=>h.FV (k:=7) _ (by show 7<11;decide)
 have hU0:∀ {w:World},St M W [Du x,.row (.slice (some ⟨x.g,0,none⟩) 65 65) 3 1 65 (Bf x.sv),Cj ((DW x).eraseIdx 7)] w->St M W (Al x) w:=fun h=>h.FV (k:=7) _ (by show 7<11;decide)
 unfold Du at hst
 refine Ab (M:=M) Tryz.func19 [.tmp 4]  hst ?_
 refine BQ 1 rfl (by omega) fun gN_ DJ UQ hN=>?_
 cases DJ
 clear UQ
 simp only [List.eraseIdx_cons_zero,List.eraseIdx_cons_succ,BC,BD,BI,A_,and_true,De] at hN
 have zs:=Bd.mk De
 refine Aq ?_
 refine AV [0,1] fun G1 g1=>?_
 replace g1:=Bi g1
 refine AB fun K k0=>?_
 refine AB fun K k1=>?_
 refine A9 (fun _ _=>True) (fun F' L'=>Az F' G1 [0,1]/\F' 10 = .bool (decide (p<1\/64<p))/\L'=[.blk x.b 65 [x.y0,x.y1,x.y2,x.y3,x.y4,x.y5,x.y6,x.y7,x.y8,.slice x.TA x.tn x.tc,.int .i64 x.N,.slice x.UA x.un x.uc,.pointer (some ⟨x.tb.tb,0,none⟩),.slice x.LA x.ln x.lc,.int .i64 x.lim.qb,.int .i64 x.lim.qo,.int .i64 x.lim.qr,.slice x.MA x.mn x.mc,.int .i64 x.cap,.slice x.EA x.en x.ec,.slice x.SA x.sn x.sc,.slice x.BA x.bn x.bc,.slice (some ⟨x.g,0,none⟩) 65 65],.row (.slice (some ⟨x.g,0,none⟩) 65 65) 3 1 65 (Bf x.sv),Cj ((DW x).eraseIdx 7)]) ?_ ?_
 ·refine AF rfl ?_
  have zg:=Bd.mk g1
  refine AR ?_
  repeat' ((first|refine Ck (fun hg=>?_) (fun hg=>?_)|refine Cm (fun hg=>?_) (fun hg=>?_))<;>((try simp only [Bool.not_eq_true',Bool.not_eq_false',decide_eq_true_eq,decide_eq_false_iff_not] at hg);(try simp -implicitDefEqProofs (disch:=first|omega|decide) only [seval, -Int.reducePow, -Nat.reducePow,cC,pv,Ao,Az,undef,De,hg,g1])))
  all_goals (repeat' refine And.intro ?_ ?_)
  all_goals (first|with_reducible rfl|(refine congrArg Value.bool ?_;rw [Bool.eq_iff_iff];(try simp only [decide_eq_true_eq,eq_self,true_and,and_true,false_and,and_false,true_or,or_true,false_or,or_false,not_true_eq_false,not_false_eq_true,true_iff,iff_true,false_iff,iff_false,Bool.false_eq_true,Bool.not_eq_true',Bool.not_eq_true,decide_eq_false_iff_not,Bool.and_eq_true,Bool.or_eq_true])<;>omega)|(refine congrArg (Value.int _) ?_;omega)|omega)
 intro G2 L' _ hF
 obtain ⟨zq,gK,rfl⟩:=hF
 have zg:=Bd.mk g1
 have g2:=And.intro (Bg zq) gK
 refine k1 _ _ ?_
 replace zg:=Bd.mk g2
 refine Dl (fun hc=>?_) fun hc=>?_
 ·have hc':=of_decide_eq_true hc
  have hs:gJ x p=15:=by unfold gJ;rw [if_pos hc']
  refine BH ?_
  refine AP (Br fun w hw=>?_)
  exact ⟨x,by rw [hs],⟨by rw [hs];rfl⟩,hU0 hw⟩
 have hc':=of_decide_eq_false hc
 refine AO (k0 _ _ ?_)
 obtain ⟨n,rfl⟩:∃n:Nat,p=(n:Int):=⟨p.toNat,by omega⟩
 obtain ⟨v,hv⟩:∃v,x.sv[n]? = some v:=⟨_,List.getElem?_eq_getElem (by omega)⟩
 refine AB fun K k0=>?_
 refine AQ rfl fun K k1=>?_
 refine AR ?_
 refine Aj (BN (m:=1) (i:=n) (v:=.int .i64 v) (AZ (k:=1) rfl) rfl (EY hv)) ?_
 refine AR ?_
 refine k1 _ _ ?_
 refine AL ?_
 by_cases h0:v=0
 case neg =>
  have hs:gJ x n=28:=by unfold gJ;rw [if_neg hc',Int.toNat_natCast,hv];exact if_pos h0
  refine Ap h0 ?_
  refine BH ?_
  refine AP (Br fun w hw=>?_)
  exact ⟨x,by rw [hs],⟨by rw [hs];rfl⟩,hU0 hw⟩
 have hs:gJ x n=0:=by unfold gJ;rw [if_neg hc',Int.toNat_natCast,hv];exact if_neg (fun hn=>hn h0)
 have d0:decide (v=0)=true:=decide_eq_true h0
 refine Ap d0 ?_
 refine AO (k0 _ _ ?_)
 have hset:(Bf x.sv).set n (.int .i64 1)=Bf (x.sv.set n 1):=H8 _ _ _
 refine AQ rfl fun K k0=>?_
 refine AR ?_
 refine Aj (EW 1 (i:=n) (v:=.int .i64 1) rfl (by rw [CG];omega) (by kernel_rfl) rfl rfl) ?_
 refine Ap hset ?_
 refine k0 _ _ ?_
 refine Cq (Al (x.MC (x.sv.set n 1))) (fun w hw=>hU hw) ?_
 unfold Al Du
 refine AQ rfl fun K k0=>?_
 refine AR ?_
 refine Af [] (Al (x.MC (x.sv.set n 1))) (List.Perm.refl _) UK (fun i=>Al ((x.MC (x.sv.set n 1)).I7 i)) _ (fun w hw=>MB (x.MC (x.sv.set n 1)) rfl ⟨(n:Int),32,0,0,0⟩ hE w hw) ?_
 intro i hi
 unfold UK
 refine AR ?_
 refine k0 _ _ ?_
 refine BH ?_
 refine AP (Br fun w hw=>?_)
 exact ⟨(x.MC (x.sv.set n 1)).I7 i,by rw [hs],⟨by rw [if_pos hs];exact ⟨i,rfl,hi⟩⟩,hw⟩
structure nG where
 A:Option Addr
 n:Nat
 c:Nat
def Aw.ME (x:Aw) (i:nG) (ms:List Int):Aw := { x with SA:=i.A,sn:=i.n,sc:=i.c,ms:=ms }
def UR (x y:Aw) (e:DZ):Prop := ∃i:df,(i.r,i.es)=Lx x.cap x.es e/\(if i.r=0 then y=x.I7 i else ∃j:nG,y=(x.I7 i).ME j (x.ms++[e.pl]))
theorem Dj (x:Aw) {b:Nat} (hb:x.b=b) (e:DZ) (hE:x.es.length<=90000) (hm:x.ms.length<=90000) (W:World) (hst:St (Ak (Al x)) W (Al x) W) :
  Calls Tryz.prog 56 #[.pointer (some ⟨b,0,none⟩),.int .i64 e.pl,.int .i64 e.op,.int .u64 (e.h:Int),.int .u64 (e.ar:Int),.int .i64 e.er] W
  fun en w' => ∃y:Aw,en = .returned (.int .i64 e.er)/\UR x y e/\St (Ak (Al x)) W (Al y) w':=by
 subst hb
 obtain ⟨M,hM⟩:∃M,Ak (Al x)=M:=⟨_,rfl⟩
 rw [hM] at hst ⊢
 clear hM
 unfold Al Du at hst
 refine Ab (M:=M) Tryz.func56 [.tmp 12]  hst ?_
 have zs:=Bd.mk De
 refine Aq ?_
 refine AB fun K k0=>?_
 refine AQ rfl fun K k1=>?_
 refine Ah ?_
 refine Af [] (Al x) (List.Perm.refl _) UK (fun i=>Al (x.I7 i)) _ (fun w hw=>MB x rfl e hE w hw) ?_
 intro i hi
 unfold UK
 obtain ⟨x1,hx1⟩:∃x1,x.I7 i=x1:=⟨_,rfl⟩
 have hb1:x1.b=x.b:=by rw [<-hx1];rfl
 rw [hx1]
 unfold Al
 rw [Am hb1]
 dsimp only [List.cons_append,List.nil_append]
 have hm1:x1.ms=x.ms:=by rw [<-hx1];rfl
 have hm2:x1.ms.length<=90000:=by rw [hm1];exact hm
 refine Ah ?_
 refine k1 _ _ ?_
 refine AV [0,1,5,23] fun G1 g1=>?_
 replace g1:=Bi g1
 refine AL ?_
 by_cases h0:i.r=0
 ·have d0:decide (i.r=0)=true:=decide_eq_true h0
  have zg:=Bd.mk g1
  refine Ap d0 ?_
  refine AO (k0 _ _ ?_)
  refine BH ?_
  refine AP (Br fun w hw=>?_)
  exact ⟨x1,rfl,⟨i,hi,by rw [if_pos h0];exact hx1.symm⟩,by unfold Al;rw [Am hb1];exact hw⟩
 have zg:=Bd.mk g1
 refine Ap h0 ?_
 have hbb:∀ {j:nG} {l:List Int},(x1.ME j l).b=x.b:=hb1
 have o1:=UE x1.ms
 refine Cq [.blk x.b 65 [x1.y0,x1.y1,x1.y2,x1.y3,x1.y4,x1.y5,x1.y6,x1.y7,x1.y8,.slice x1.TA x1.tn x1.tc,.int .i64 x1.N,.slice x1.UA x1.un x1.uc,.pointer (some ⟨x1.tb.tb,0,none⟩),.slice x1.LA x1.ln x1.lc,.int .i64 x1.lim.qb,.int .i64 x1.lim.qo,.int .i64 x1.lim.qr,.slice x1.MA x1.mn x1.mc,.int .i64 x1.cap,.slice x1.EA x1.en x1.ec,.slice x1.SA x1.sn x1.sc,.slice x1.BA x1.bn x1.bc,.slice (some ⟨x1.g,0,none⟩) 65 65],.row (.slice x1.SA x1.sn x1.sc) 3 1 x1.sn (Bf x1.ms),Cj ((DW x1).eraseIdx 5)] (fun w hw=>hw.Fj (k:=5) rfl) ?_
 refine EX 1 rfl fun hln=>?_
 rw [CG] at hln
 refine BG [2,0,4] (by decide) ?_
 refine AU rfl ?_
 refine AR ?_
 intro bA KD hfA
 refine AR ?_
 refine CR 0 J_ rfl rfl (fun w hw=>EU (AZ (k:=2) rfl) hw) o1 (by omega) (by omega) ?_
 intro A3 c3 hl3 hr3
 refine Ap (And.intro @Nat.zero_add @List.nil_append.{0}) ?_
 intro bE PE Rj
 refine Bj 1 J_ rfl (fun w hw=>Bp (size:=1) (AZ (k:=0) rfl) rfl hw) rfl (by omega) (by omega) ?_
 intro A4 c4 hl4 hr4
 refine AR ?_
 refine k0 _ _ ?_
 refine Cq (Al (x1.ME ⟨A4,x1.sn+1,c4⟩ (x1.ms++[e.pl]))) (fun w hw=>by rw [<-Ii] at hw;have h1:=hw.FV (k:=5) _ (by show 5<11;decide);unfold Al;rw [Am (x:=x1.ME ⟨A4,x1.sn+1,c4⟩ (x1.ms++[e.pl])) (b:=x.b) hbb];exact h1) ?_
 refine BH ?_
 refine AP (Br fun w hw=>?_)
 exact ⟨x1.ME ⟨A4,x1.sn+1,c4⟩ (x1.ms++[e.pl]),rfl,⟨i,hi,by rw [if_neg h0,hx1,<-hm1];exact ⟨_,rfl⟩⟩,hw⟩
def EG (x:Aw) (p:Int):Int:=if DK x.sv p=false then 15 else if decide ((GR x.es p:Int)<x.cap)=false then 19 else 0
def KY (x:Aw) (p:Int):Value:=.tuple #[.int .i64 (EG x p),.bool (decide (EG x p=0))]
def MF (x y:Aw) (p:Int):Prop:=if EG x p=19 then ∃j:nG,y=x.ME j (x.ms++[p]) else y=x
theorem FE (x:Aw) {b:Nat} (hb:x.b=b) (p:Int) (hE:x.es.length<=90000) (hm:x.ms.length<=90000) (W:World) (hst:St (Ak (Al x)) W (Al x) W) :
  Calls Tryz.prog 54 #[.pointer (some ⟨b,0,none⟩),.int .i64 p] W
  fun en w' => ∃y:Aw,en = .returned (KY x p)/\MF x y p/\St (Ak (Al x)) W (Al y) w':=by
 subst hb
 obtain ⟨M,hM⟩:∃M,Ak (Al x)=M:=⟨_,rfl⟩
 rw [hM] at hst ⊢
 clear hM
 unfold Al Du at hst
 refine Ab (M:=M) Tryz.func54 [.tmp 4,.tmp 5]  hst ?_
 have zs:=Bd.mk De
 refine Aq ?_
 refine AV [0,1] fun G2 g2=>?_
 replace g2:=Bi g2
 refine AB fun K k0=>?_
 refine AQ rfl fun K k1=>?_
 have zg:=Bd.mk g2
 refine AR ?_
 refine Bq (Al x) (List.Sublist.refl _) (fun _:Unit=>.bool (DK x.sv p)) _ (fun w hw=>Ho x rfl p w hw) ?_
 intro _ _
 refine AR ?_
 refine k1 _ _ ?_
 refine AL ?_
 cases ha:DK x.sv p with
 | false =>
  have he:EG x p=15:=by unfold EG;rw [if_pos ha]
  refine Ap ha ?_
  refine BH ?_
  refine AP (Br fun w hw=>?_)
  exact ⟨x,by unfold KY;rw [he];rfl,by unfold MF;rw [he];rfl,hw⟩
 | true =>
 refine Ap ha ?_
 refine AO (k0 _ _ ?_)
 refine AB fun K k0=>?_
 refine AQ rfl fun K k1=>?_
 refine AR ?_
 refine Aa (fun w hw=>Su (Aw.evw (x:=x) (L:=[]) hw (by omega)) p) ?_
 try refine AR ?_
 refine k1 _ _ ?_
 refine AL ?_
 cases hr:decide ((GR x.es p:Int)<x.cap) with
 | true =>
  have he:EG x p=0:=by unfold EG;rw [if_neg (by rw [ha];decide),if_neg (by rw [hr];decide)]
  refine Ap hr ?_
  refine AO (k0 _ _ ?_)
  refine BH ?_
  refine AP (Br fun w hw=>?_)
  exact ⟨x,by unfold KY;rw [he];rfl,by unfold MF;rw [he];rfl,hw⟩
 | false =>
 have he:EG x p=19:=by unfold EG;rw [if_neg (by rw [ha];decide),if_pos hr]
 have hbb:∀ {j:nG} {l:List Int},(x.ME j l).b=x.b:=rfl
 refine Ap hr ?_
 have o1:=UE x.ms
 refine Cq [.blk x.b 65 [x.y0,x.y1,x.y2,x.y3,x.y4,x.y5,x.y6,x.y7,x.y8,.slice x.TA x.tn x.tc,.int .i64 x.N,.slice x.UA x.un x.uc,.pointer (some ⟨x.tb.tb,0,none⟩),.slice x.LA x.ln x.lc,.int .i64 x.lim.qb,.int .i64 x.lim.qo,.int .i64 x.lim.qr,.slice x.MA x.mn x.mc,.int .i64 x.cap,.slice x.EA x.en x.ec,.slice x.SA x.sn x.sc,.slice x.BA x.bn x.bc,.slice (some ⟨x.g,0,none⟩) 65 65],.row (.slice x.SA x.sn x.sc) 3 1 x.sn (Bf x.ms),Cj ((DW x).eraseIdx 5)] (fun w hw=>hw.Fj (k:=5) rfl) ?_
 refine EX 1 rfl fun hln=>?_
 rw [CG] at hln
 refine AQ rfl fun K k1=>?_
 refine AR ?_
 intro bA KD hfA
 refine AR ?_
 refine CR 0 J_ rfl rfl (fun w hw=>EU (AZ (k:=2) rfl) hw) o1 (by omega) (by omega) ?_
 intro A3 c3 hl3 hr3
 refine Ap (And.intro @Nat.zero_add @List.nil_append.{0}) ?_
 intro bE PE Rj
 refine Bj 1 J_ rfl (fun w hw=>Bp (size:=1) (AZ (k:=0) rfl) rfl hw) rfl (by omega) (by omega) ?_
 intro A4 c4 hl4 hr4
 refine AR ?_
 refine k1 _ _ ?_
 refine BF [2,0,4] (by decide) ?_
 simp only [Ag,nth]
 refine Cq (Al (x.ME ⟨A4,x.sn+1,c4⟩ (x.ms++[p]))) (fun w hw=>by rw [<-Ii] at hw;have h1:=hw.FV (k:=5) _ (by show 5<11;decide);unfold Al;rw [Am (x:=x.ME ⟨A4,x.sn+1,c4⟩ (x.ms++[p])) (b:=x.b) hbb];exact h1) ?_
 refine BH ?_
 refine AP (Br fun w hw=>?_)
 exact ⟨x.ME ⟨A4,x.sn+1,c4⟩ (x.ms++[p]),by unfold KY;rw [he];rfl,by unfold MF;rw [he];exact ⟨_,rfl⟩,hw⟩
theorem Lj:type_of% (And.intro (And.intro (And.intro (And.intro @Nat.mul_one @Ae) (And.intro @G_ @cM)) (And.intro (And.intro @Ce @Cf) (And.intro @Cg @Ch))) (And.intro (And.intro (And.intro @Ci @Cs) (And.intro @Ct @DT)) (And.intro (And.intro @DU @CW) (And.intro @CX (And.intro @Ij.eq_1 @U5.eq_1))))):=(And.intro (And.intro (And.intro (And.intro @Nat.mul_one @Ae) (And.intro @G_ @cM)) (And.intro (And.intro @Ce @Cf) (And.intro @Cg @Ch))) (And.intro (And.intro (And.intro @Ci @Cs) (And.intro @Ct @DT)) (And.intro (And.intro @DU @CW) (And.intro @CX (And.intro @Ij.eq_1 @U5.eq_1)))))
structure S9 (l:List Bw) (ob:Int) (ow:Bool) (ac:Int):Prop where
 own:ac=3->ow=true/\Fa l ob=[]
 grant:ac=4->ow=true
theorem WI {W:World} {b off:Nat} {A:Option Addr} {n c:Nat} {l:List Bw} (h:JJ W W.heap.size b off A n c l) (ob pl:Int) (ow:Bool) (ac:Int) :
  Calls Tryz.prog 96 #[.pointer (some ⟨b,off,none⟩),.int .i64 ob,.int .i64 pl,.bool ow,.int .i64 ac] W
  fun en w'=>(∃v:Int,en = .returned (.int .i64 v)/\(0<=v/\v<=29)/\(v=0->S9 l ob ow ac))/\Below W.heap.size W w':=by
 refine Ab (M:=[]) Tryz.func96 [.tmp 10] (St.nil _ _) ?_
 have zs:=Bd.mk Lj
 refine Aq ?_
 refine AV [0,1,2,3,4] fun G1 g1=>?_
 replace g1:=Bi g1
 refine AB fun K k0=>?_
 refine AB fun K k1=>?_
 refine A9 (fun _ _=>True) (fun F' L'=>Az F' G1 [0,1,2,3,4]/\F' 19 = .bool (decide (ac<1\/4<ac))/\L'=[]) ?_ ?_
 ·refine AF rfl ?_
  have zg:=Bd.mk g1
  refine AR ?_
  repeat' ((first|refine Ck (fun hg=>?_) (fun hg=>?_)|refine Cm (fun hg=>?_) (fun hg=>?_))<;>((try simp only [Bool.not_eq_true',Bool.not_eq_false',decide_eq_true_eq,decide_eq_false_iff_not] at hg);(try simp -implicitDefEqProofs (disch:=first|omega|decide) only [seval, -Int.reducePow, -Nat.reducePow,cC,pv,Ao,Az,undef,Lj,hg,g1])))
  all_goals (repeat' refine And.intro ?_ ?_)
  all_goals (first|with_reducible rfl|(refine congrArg Value.bool ?_;rw [Bool.eq_iff_iff];(try simp only [decide_eq_true_eq,eq_self,true_and,and_true,false_and,and_false,true_or,or_true,false_or,or_false,not_true_eq_false,not_false_eq_true,true_iff,iff_true,false_iff,iff_false,Bool.false_eq_true,Bool.not_eq_true',Bool.not_eq_true,decide_eq_false_iff_not,Bool.and_eq_true,Bool.or_eq_true])<;>omega)|(refine congrArg (Value.int _) ?_;omega)|omega)
 intro G2 L' _ hF
 obtain ⟨zq,QO,rfl⟩:=hF
 have zg:=Bd.mk g1
 have g2:=And.intro (Bg zq) QO
 refine k1 _ _ ?_
 replace zg:=Bd.mk g2
 refine Dl (fun hc=>?_) fun hc=>?_
 ·refine BH ?_
  refine AP (Br fun w hw=>?_)
  exact ⟨⟨1,rfl,by decide,fun h=>absurd h (by decide)⟩,hw.below⟩
 refine AO (k0 _ _ ?_)
 refine AQ rfl fun K k0=>?_
 refine AR ?_
 refine Aa (fun w hw=>EZ (h.at hw) ob pl) ?_
 try simp -implicitDefEqProofs (disch:=first|omega|decide) only [seval, -Int.reducePow, -Nat.reducePow,cC,pv,Ao,Az,undef,Lj,Ij,U5,g2]
 intro b11 eU
 refine k0 _ _ ?_
 refine AV [0,1,3,4,11,12] fun G3 g3=>?_
 replace g3:=Bg g3
 refine AB fun K k0=>?_
 replace zg:=Bd.mk g3
 refine BH ?_
 refine AL ?_
 cases ow with
 | false =>
  refine AR ?_
  refine AB fun K k1=>?_
  refine AB fun K k2=>?_
  refine A9 (fun _ _=>True) (fun F' L' => ∃(bb:Bool),Az F' G3 [4,11]/\F' 38 = .bool bb/\L'=[.blk b11 163 [.int .i64 ((holdB l ob pl).getD Mw).ob,.int .i64 ((holdB l ob pl).getD Mw).ho,.int .i64 ((holdB l ob pl).getD Mw).mo,.int .i64 ((holdB l ob pl).getD Mw).co]]/\(bb=false→¬(ac=3\/ac=4))) ?_ ?_
  ·by_cases h3:ac=3
   ·have d3:decide (ac=3)=true:=decide_eq_true h3
    refine AF rfl ?_
    refine Ap d3 ?_
    exact ⟨_,rfl,fun h=>by cases h⟩
   by_cases h4:ac=4
   ·have d4:decide (ac=4)=true:=decide_eq_true h4
    refine AF rfl ?_
    refine Ap (And.intro h3 d4) ?_
    exact ⟨_,rfl,fun h=>by cases h⟩
   refine AF rfl ?_
   refine Ap (And.intro h3 h4) ?_
   exact ⟨_,rfl,fun _=>by simp⟩
  intro G4 L' _ hF
  obtain ⟨bb,zq,fM,rfl,hbb⟩:=hF
  have g4:=And.intro (Bg zq) fM
  refine k2 _ _ ?_
  refine AL ?_
  cases bb with
  | true =>
   replace zg:=Bd.mk g4
   refine AR ?_
   refine BH ?_
   refine AP (Br fun w hw=>?_)
   exact ⟨⟨13,rfl,by decide,fun h=>absurd h (by decide)⟩,hw.below⟩
  | false =>
  replace zg:=Bd.mk g4
  refine AR ?_
  refine AO (k1 _ _ ?_)
  refine AB fun K k1=>?_
  refine AB fun K k2=>?_
  refine A9 (fun _ _=>True) (fun F' L' => ∃(bb:Bool),F' 45 = .bool bb/\L'=[.blk b11 163 [.int .i64 ((holdB l ob pl).getD Mw).ob,.int .i64 ((holdB l ob pl).getD Mw).ho,.int .i64 ((holdB l ob pl).getD Mw).mo,.int .i64 ((holdB l ob pl).getD Mw).co]]) ?_ ?_
  ·refine AF rfl ?_
   refine AR ?_
   repeat' ((first|refine Ck (fun hg=>?_) (fun hg=>?_)|refine Cm (fun hg=>?_) (fun hg=>?_))<;>((try simp only [Bool.not_eq_true',Bool.not_eq_false',decide_eq_true_eq,decide_eq_false_iff_not] at hg);(try simp -implicitDefEqProofs (disch:=first|omega|decide) only [seval, -Int.reducePow, -Nat.reducePow,cC,pv,Ao,Az,undef,Lj,hg,g4])))
   all_goals exact ⟨_,rfl⟩
  intro G5 L' _ hF
  obtain ⟨bb,AGq,rfl⟩:=hF
  have g5:=AGq
  refine k2 _ _ ?_
  refine AL ?_
  cases bb with
  | true =>
   replace zg:=Bd.mk g5
   refine AR ?_
   refine BH ?_
   refine AP (Br fun w hw=>?_)
   exact ⟨⟨14,rfl,by decide,fun h=>absurd h (by decide)⟩,hw.below⟩
  | false =>
  replace zg:=Bd.mk g5
  refine AR ?_
  refine AO (k1 _ _ ?_)
  refine BH ?_
  refine AP (Br fun w hw=>?_)
  have hb1:=hbb rfl
  exact ⟨⟨0,rfl,by decide,fun _=>⟨fun h=>absurd (.inl h) hb1,fun h=>absurd (.inr h) hb1⟩⟩,hw.below⟩
 | true =>
 refine AR ?_
 refine AO (k0 _ _ ?_)
 refine AQ rfl fun K k0=>?_
 refine AR ?_
 refine Cn (fun A n c=>.slice A n c) (fun w hw=>(Jv (h.at hw) ob)) ?_
 intro A1 n1 c1 hl1 hr1
 have hn1:(Fa l ob).length=n1:=by rw [BV] at hl1;omega
 refine AR ?_
 refine k0 _ _ ?_
 refine AV [4,13] fun G6 g6=>?_
 replace g6:=Bg g6
 refine AB fun K k0=>?_
 refine AB fun K k1=>?_
 refine A9 (fun _ _=>True) (fun F' L' => ∃(bb:Bool),F' 66 = .bool bb/\L'=[.row (.slice A1 n1 c1) 163 4 n1 (Au (Fa l ob)),.blk b11 163 [.int .i64 ((holdB l ob pl).getD Mw).ob,.int .i64 ((holdB l ob pl).getD Mw).ho,.int .i64 ((holdB l ob pl).getD Mw).mo,.int .i64 ((holdB l ob pl).getD Mw).co]]/\(bb=false->ac=3->Fa l ob=[])) ?_ ?_
 ·by_cases hn:n1=0
  ·refine AF rfl ?_
   have d0:¬((n1:Int)>0):=by omega
   replace zg:=Bd.mk g6
   refine Ap d0 ?_
   exact ⟨_,rfl,fun _ _=>List.eq_nil_of_length_eq_zero (by omega)⟩
  ·obtain ⟨e,he⟩:∃e,(Fa l ob)[0]? = some e:=⟨_,List.getElem?_eq_getElem (by omega)⟩
   have d0:decide ((n1:Int)>0)=true:=decide_eq_true (by omega)
   refine BQ 0 rfl (by omega) fun g DJ hg Bl=>?_
   subst DJ
   simp only [List.eraseIdx_cons_zero,List.eraseIdx_cons_succ,BC,BD,BI,A_,and_true,List.not_mem_nil,or_false,Lj] at Bl hg
   replace hg:=And.intro hg Bl
   clear Bl
   by_cases h3:ac=3
   ·have d3:decide (ac=3)=true:=decide_eq_true h3
    have d2:decide (ac=2)=false:=decide_eq_false (by omega)
    by_cases hm:e.mo=2
    ·have dm:decide (e.mo=2)=true:=decide_eq_true hm
     refine AF rfl ?_
     replace zg:=Bd.mk g6
     refine Ap d0 ?_
     refine Aj (BN (m:=1) (i:=0*4+2) (v:=.int .i64 e.mo) (AZ (k:=0) rfl) rfl (Co Bu he (by omega))) ?_
     refine Ap (And.intro d3 (And.intro d2 dm)) ?_
     exact ⟨_,rfl,fun h=>by cases h⟩
    ·have dm:decide (e.mo=2)=false:=decide_eq_false hm
     refine AF rfl ?_
     replace zg:=Bd.mk g6
     refine Ap d0 ?_
     refine Aj (BN (m:=1) (i:=0*4+2) (v:=.int .i64 e.mo) (AZ (k:=0) rfl) rfl (Co Bu he (by omega))) ?_
     refine Ap (And.intro d3 (And.intro d2 dm)) ?_
     exact ⟨_,rfl,fun h=>by cases h⟩
   ·refine AF rfl ?_
    replace zg:=Bd.mk g6
    refine Ap d0 ?_
    refine Aj (BN (m:=1) (i:=0*4+2) (v:=.int .i64 e.mo) (AZ (k:=0) rfl) rfl (Co Bu he (by omega))) ?_
    refine AR ?_
    repeat' ((first|refine Ck (fun hg=>?_) (fun hg=>?_)|refine Cm (fun hg=>?_) (fun hg=>?_))<;>((try simp only [Bool.not_eq_true',Bool.not_eq_false',decide_eq_true_eq,decide_eq_false_iff_not] at hg);(try simp -implicitDefEqProofs (disch:=first|omega|decide) only [seval, -Int.reducePow, -Nat.reducePow,cC,pv,Ao,Az,undef,Lj,hg,g6])))
    all_goals (first|exact ⟨_,rfl,fun _ h=>absurd h h3⟩|exact ⟨_,rfl⟩)
 intro G7 L' _ hF
 obtain ⟨bb,AGr,rfl,hbb⟩:=hF
 have g7:=AGr
 refine k1 _ _ ?_
 refine AL ?_
 cases bb with
 | true =>
  replace zg:=Bd.mk g7
  refine AR ?_
  refine BH ?_
  refine AP (Br fun w hw=>?_)
  exact ⟨⟨14,rfl,by decide,fun h=>absurd h (by decide)⟩,hw.below⟩
 | false =>
 replace zg:=Bd.mk g7
 refine AR ?_
 refine AO (k0 _ _ ?_)
 refine BH ?_
 refine AP (Br fun w hw=>?_)
 have hb1:=hbb rfl
 exact ⟨⟨0,rfl,by decide,fun _=>⟨fun h=>⟨rfl,hb1 h⟩,fun _=>rfl⟩⟩,hw.below⟩
def ZL (x:Aw) (o:Nat) (v:Int):Value:=.tuple #[aF (if v=0 then Ba x.tb (Ac o) else en0),.int .i64 v]
structure AcR (x:Aw) (o:Nat) (p ac:Int) (v:Int):Prop where
 QW:0<=v/\v<=29
 ok:v=0->Dp x.tb o=0
 acc:v=0->S9 x.l (Ac o) (decide ((Ba x.tb (Ac o)).ow=p)) ac
theorem F8 {x:Aw} {o:Nat} {v:Int} (hv:¬v=0):ZL x o v = .tuple #[.agg #[.int .u64 0,.int .i64 0,.int .i64 0,.int .i64 0,.int .i64 0],.int .i64 v]:=by
 unfold ZL;rw [if_neg hv];rfl
theorem I8 {x:Aw} {o:Nat} : ZL x o 0 = .tuple #[.agg #[.int .u64 ((Ba x.tb (Ac o)).h:Int),.int .i64 (Ba x.tb (Ac o)).ow,.int .i64 (Ba x.tb (Ac o)).tag,.int .i64 (Ba x.tb (Ac o)).off,.int .i64 (Ba x.tb (Ac o)).len],.int .i64 0]:=by
 unfold ZL;rw [if_pos rfl];rfl
theorem WJ (x:Ez) (h:Nat):0<=Dp x h/\Dp x h<=29:=by
 unfold Dp
 split
 ·decide
 ·split
  ·decide
  ·split
   ·decide
   ·decide
theorem Ea (x:Aw) {b:Nat} (hb:x.b=b) (p:Int) (o:Nat) (ac:Int) (ho:o<18446744073709551616) (hN:x.tb.s.gen.length=x.tb.s.Cz.length) (hl:x.l.length<=90000) (W:World) (hst:St (Ak (Al x)) W (Al x) W) :
  Calls Tryz.prog 57 #[.pointer (some ⟨b,0,none⟩),.int .i64 p,.int .u64 (o:Int),.int .i64 ac] W
  fun en w' => ∃v:Int,en = .returned (ZL x o v)/\AcR x o p ac v/\St (Ak (Al x)) W (Al x) w':=by
 subst hb
 obtain ⟨M,hM⟩:∃M,Ak (Al x)=M:=⟨_,rfl⟩
 rw [hM] at hst ⊢
 clear hM
 unfold Al Du at hst
 refine DY (M:=M) (n:=43) [.cell 8 135,.tmp 9] rfl Tryz.func57 rfl rfl (Nat.le_of_ble_eq_true rfl)  hst ?_
 refine AQ rfl fun K k0=>?_
 have zs:=Bd.mk Lj
 refine Ah ?_
 intro b8 u6 hf8
 refine k0 _ _ ?_
 refine AQ rfl fun K k0=>?_
 refine Ah ?_
 refine Af [.blk b8 135 [.int .u64 0,.int .i64 0,.int .i64 0,.int .i64 0,.int .i64 0]] (Al x) (List.Perm.refl _) (fun _:Unit=>KP x.tb o) (fun _=>Al x) _ (fun w hw=>OY x o ho hN w hw) ?_
 intro _ _
 unfold Al
 rw [Am rfl]
 dsimp only [List.cons_append,List.nil_append]
 by_cases he:Dp x.tb o=0
 case neg =>
  rw [Mr he]
  refine Ah ?_
  intro b10 IU JK
  refine k0 _ _ ?_
  refine AB fun K k0=>?_
  refine Aq ?_
  refine AL ?_
  refine D_ he ?_
  refine Aq ?_
  refine AP ?_
  simp -implicitDefEqProofs (disch:=first|omega|decide) only [seval, -Int.reducePow, -Nat.reducePow,cC,pv,Ao,Az,undef,Lj,Dx,Cx,Cw]
  intro w hw
  have hv:=WJ x.tb o
  exact ⟨Dp x.tb o,by rw [F8 he],⟨hv,fun h=>absurd h he,fun h=>absurd h he⟩,hw.pick (ix:=[1,2]) (by decide)⟩
 rw [PD he]
 refine Ah ?_
 intro b10 IU JK
 refine k0 _ _ ?_
 refine AB fun K k0=>?_
 refine Aq ?_
 refine AL ?_
 refine Ah ?_
 refine AO (k0 _ _ ?_)
 refine BF [1,2,3,0] (by decide) ?_
 simp only [Ag,nth]
 refine AV [0,1,2,3,8,10] fun G8 g8=>?_
 replace g8:=Bi g8
 refine AB fun K k0=>?_
 refine AB fun K k1=>?_
 refine CF (Ag [3] _) (fun w hw=>hw.pick (by decide)) (by simp only [Ag,nth,Be,Bv,List.mem_cons,true_or,or_true,and_true,eq_self]) [(true,0),(true,1),(true,2),(true,3),(true,5),(true,6),(true,7),(true,8),(true,9),(true,10),(false,4),(false,11),(true,12)] [] CB rfl (by kernel_rfl) (by kernel_rfl) rfl rfl ?_
 have zg:=Bd.mk g8
 refine AR ?_
 refine Aa (fun w hw=>CU o ho w) ?_
 try refine AR ?_
 refine Et (fun v:Int=>.int .i64 v) (fun v=>(0<=v/\v<=29)/\(v=0->S9 x.l (Ac o) (decide ((Ba x.tb (Ac o)).ow=p)) ac)) (fun w hw=>WI (Aw.lgw (x:=x) (L:=[]) (hw.pick (ix:=[0,1]) (by decide)) (by omega)) (Ac o) p _ ac) ?_
 intro v hv
 refine AR ?_
 refine k1 _ _ ?_
 refine BH ?_
 refine AV [8,10,12,39] fun G9 g9=>?_
 replace g9:=Bg g9
 refine AL ?_
 by_cases h0:v=0
 case neg =>
  replace zg:=Bd.mk g9
  refine Ap h0 ?_
  refine BH ?_
  refine AP ?_
  simp -implicitDefEqProofs (disch:=first|omega|decide) only [seval, -Int.reducePow, -Nat.reducePow,cC,pv,Ao,Az,undef,Lj,Dx,Cx,Cw,g9]
  intro w hw
  exact ⟨v,by rw [F8 h0],⟨hv.1,fun h=>absurd h h0,fun h=>absurd h h0⟩,hw.pick (ix:=[0,1]) (by decide)⟩
 have d0:decide (v=0)=true:=decide_eq_true h0
 replace zg:=Bd.mk g9
 refine Ap d0 ?_
 refine AO (k0 _ _ ?_)
 refine BH ?_
 refine AP ?_
 simp -implicitDefEqProofs (disch:=first|omega|decide) only [seval, -Int.reducePow, -Nat.reducePow,cC,pv,Ao,Az,undef,Lj,Dx,Cx,Cw,g9]
 intro w hw
 exact ⟨0,by rw [I8],⟨by decide,fun _=>he,fun _=>hv.2 h0⟩,hw.pick (ix:=[0,1]) (by decide)⟩
theorem ABx:type_of% (And.intro (And.intro (And.intro (And.intro @Nat.mul_one @Ae) (And.intro @G_ @cM)) (And.intro (And.intro @Ce @Cf) (And.intro @Cg @Ch))) (And.intro (And.intro (And.intro @Ci @Cs) (And.intro @Ct @DT)) (And.intro (And.intro @DU @CW) (And.intro @CX @O9.eq_1)))):=(And.intro (And.intro (And.intro (And.intro @Nat.mul_one @Ae) (And.intro @G_ @cM)) (And.intro (And.intro @Ce @Cf) (And.intro @Cg @Ch))) (And.intro (And.intro (And.intro @Ci @Cs) (And.intro @Ct @DT)) (And.intro (And.intro @DU @CW) (And.intro @CX @O9.eq_1))))
structure Gx where
 v:Int
 y:Aw
def EH (i:Gx):Value:=.int .i64 i.v
def Ni (e:En):Qu:=⟨e.len,1,0⟩
def EqM (x y:Aw):Prop:=y=x∨∃i:KS,y=x.CJ i/\i.l=x.mt
structure TrG (x y:Aw) (p:Int) (o:Nat) (q:Int) (i1 i2:KS) (t:Ez):Prop where
 ok:Dp x.tb o=0
 add:(i1.r,i1.l)=I6 x.lim x.mt q (Ni (Ba x.tb (Ac o)))
 zero:i1.r=0
 sub:(i2.r,i2.l)=GI i1.l p (Ni (Ba x.tb (Ac o)))
 give:Vw x.tb t o q
 y:y=((x.CJ i1).CJ i2).GY t
def LvQ (x:Aw) (p q:Int):Prop:=DK x.sv q=true/\q≠p
structure vF (x:Aw) (p:Int) (o:Nat) (q:Int) (i:Gx):Prop where
 QW:0<=i.v/\i.v<=29
 lv:i.v=0->LvQ x p q/\S9 x.l (Ac o) (decide ((Ba x.tb (Ac o)).ow=p)) 3
 r:if i.v=0 then ∃i1 i2 t,TrG x i.y p o q i1 i2 t else EqM x i.y
theorem WK (l:List Sh) (p:Int) (q:Qu):(QH l p q).length<=l.length+1:=by
 unfold QH
 rw [List.length_append,List.length_singleton]
 have:=List.length_filter_le (fun s => !pV p s) l
 omega
theorem ZM {l:List Sh} {p:Int} {q:Qu} (h:∀s∈l,s.q.ok) (hq:q.ok):∀s∈QH l p q,s.q.ok:=fun s hs=>by
 cases List.mem_append.1 hs with
 | inl h1=>exact h s (List.mem_filter.1 h1).1
 | inr h1=>rw [List.mem_singleton.1 h1];exact hq
theorem gL {a b l:Int} (h:fO a b l=false):b<=l/\a+b<=l:=by
 unfold fO at h
 simp at h
 omega
theorem YH {lim:Qu} {l:List Sh} {p:Int} {q:Qu} {r:Int} {l':List Sh} (hlim:lim.ok) (hq:q.ok) (hok:∀s∈l,s.q.ok) (h:I6 lim l p q=(r,l')):(∀s∈l',s.q.ok)/\l'.length<=l.length+1:=by
 unfold I6 at h
 have hg:=O_ hok p
 split at h
 ·cases h;exact ⟨hok,by omega⟩
 ·rename_i hf
  cases h
  have hf:Na lim (Hd l p) q=false:=by simpa using hf
  unfold Na at hf
  simp only [Bool.or_eq_false_iff] at hf
  have h1:=gL hf.1.1
  have h2:=gL hf.1.2
  have h3:=gL hf.2
  refine ⟨ZM hok ⟨?_, ?_, ?_⟩,WK _ _ _⟩
  ·have:=hg.b;have:=hq.b;have:=hlim.b;show 0<=_+_/\_+_<=_;omega
  ·have:=hg.o;have:=hq.o;have:=hlim.o;show 0<=_+_/\_+_<=_;omega
  ·have:=hg.r;have:=hq.r;have:=hlim.r;show 0<=_+_/\_+_<=_;omega
theorem QX {l:List Sh} {p:Int} {q:Qu} {r:Int} {l':List Sh} (hq:q.ok) (hok:∀s∈l,s.q.ok) (h:GI l p q=(r,l')):(∀s∈l',s.q.ok)/\l'.length<=l.length+1:=by
 unfold GI at h
 have hg:=O_ hok p
 split at h
 ·cases h;exact ⟨hok,by omega⟩
 ·rename_i hf
  cases h
  have hf:OW (Hd l p) q=false:=by simpa using hf
  unfold OW at hf
  simp at hf
  refine ⟨ZM hok ⟨?_, ?_, ?_⟩,WK _ _ _⟩
  ·have:=hg.b;have:=hq.b;show 0<=_-_/\_-_<=_;omega
  ·have:=hg.o;have:=hq.o;show 0<=_-_/\_-_<=_;omega
  ·have:=hg.r;have:=hq.r;show 0<=_-_/\_-_<=_;omega
theorem UT (x:Aw) {b:Nat} (hb:x.b=b) (p:Int) (o:Nat) (q:Int) (ho:o<18446744073709551616) (k:Nat) (hi:K4 x.tb k) (hl:x.l.length<=90000) (hm:x.mt.length<=80000) (hlim:x.lim.lim) (hlo:x.lim.ok) (hok:∀s∈x.mt,s.q.ok) (hen:∀s,0<=(Ba x.tb s).len/\(Ba x.tb s).len<=65536) (W:World) (hst:St (Ak (Al x)) W (Al x) W) :
  Calls Tryz.prog 63 #[.pointer (some ⟨b,0,none⟩),.int .i64 p,.int .u64 (o:Int),.int .i64 q] W
  fun en w' => ∃i:Gx,en = .returned (EH i)/\vF x p o q i/\St (Ak (Al x)) W (Al i.y) w':=by
 subst hb
 have hN:x.tb.s.gen.length=x.tb.s.Cz.length:=hi.n.trans hi.l.symm
 obtain ⟨M,hM⟩:∃M,Ak (Al x)=M:=⟨_,rfl⟩
 rw [hM] at hst ⊢
 clear hM
 unfold Al Du at hst
 refine Ab (M:=M) Tryz.func63 [.tmp 8]  hst ?_
 have zs:=Bd.mk ABx
 refine Aq ?_
 refine AQ rfl fun K k0=>?_
 refine Ah ?_
 refine Bq (Al x) (List.Sublist.refl _) (fun v:Int=>ZL x o v) _ (fun w hw=>Ea x rfl p o 3 ho hN hl w hw) ?_
 intro v hv
 by_cases hv0:v=0
 case neg =>
  rw [F8 hv0]
  refine Ah ?_
  intro b1 hb1 hf1
  refine k0 _ _ ?_
  refine AB fun K k0=>?_
  refine Aq ?_
  refine AL ?_
  refine D_ hv0 ?_
  refine Aq ?_
  refine AP (Cc fun w hw=>?_)
  exact ⟨⟨v,x⟩,rfl,⟨hv.QW,fun h=>absurd h hv0,by rw [if_neg hv0];exact .inl rfl⟩,hw.tail⟩
 have he:=hv.ok hv0
 subst hv0
 obtain ⟨r1,r2,r3,r4⟩:=Dr he
 obtain ⟨e,IM⟩:∃e,Ba x.tb (Ac o)=e:=⟨_,rfl⟩
 rw [I8,IM]
 refine Ah ?_
 intro b1 hb1 hf1
 refine k0 _ _ ?_
 refine AB fun K k0=>?_
 refine Aq ?_
 refine AL ?_
 refine Ah ?_
 refine AO (k0 _ _ ?_)
 refine AV [0,1,2,3,9] fun G1 g1=>?_
 replace g1:=Bi g1
 have hel:=hen (Ac o)
 rw [IM] at hel
 refine AB fun K k0=>?_
 refine AB fun K k1=>?_
 refine A9 (fun _ _=>True) (fun F' L' => ∃(bb:Bool),Az F' G1 [0,1,2,3,9]/\F' 30 = .bool bb/\L'=[.blk x.b 65 [x.y0,x.y1,x.y2,x.y3,x.y4,x.y5,x.y6,x.y7,x.y8,.slice x.TA x.tn x.tc,.int .i64 x.N,.slice x.UA x.un x.uc,.pointer (some ⟨x.tb.tb,0,none⟩),.slice x.LA x.ln x.lc,.int .i64 x.lim.qb,.int .i64 x.lim.qo,.int .i64 x.lim.qr,.slice x.MA x.mn x.mc,.int .i64 x.cap,.slice x.EA x.en x.ec,.slice x.SA x.sn x.sc,.slice x.BA x.bn x.bc,.slice (some ⟨x.g,0,none⟩) 65 65],Cj (DW x),.blk b1 135 [.int .u64 (e.h:Int),.int .i64 e.ow,.int .i64 e.tag,.int .i64 e.off,.int .i64 e.len]]/\(bb=false->LvQ x p q)) ?_ ?_
 ·refine BF [1,2,0] (by decide) ?_
  simp only [Ag,nth]
  refine AF rfl ?_
  have zg:=Bd.mk g1
  refine AR ?_
  refine Bq (Al x) (List.sublist_append_left (Al x) _) (fun _:Unit=>.bool (DK x.sv q)) _ (fun w hw=>Ho x rfl q w hw) ?_
  intro _ _
  obtain ⟨al,hal⟩:∃al,DK x.sv q=al:=⟨_,rfl⟩
  rw [hal]
  cases al with
  | false =>
   refine AR ?_
   exact ⟨_,rfl,fun h=>by cases h⟩
  | true =>
   refine AR ?_
   exact ⟨_,rfl,fun h=>⟨hal,of_decide_eq_false h⟩⟩
 intro G2 L' _ hF
 obtain ⟨bb,zq,sI,rfl,hqq⟩:=hF
 have zg:=Bd.mk g1
 have g2:=And.intro (Bg zq) sI
 refine k1 _ _ ?_
 refine AL ?_
 cases bb with
 | true =>
  replace zg:=Bd.mk g2
  refine AR ?_
  refine BH ?_
  refine AP (Br fun w hw=>?_)
  exact ⟨⟨15,x⟩,rfl,⟨(by decide:(0:Int)<=15/\(15:Int)<=29),fun h=>absurd h (show ¬(15:Int)=0 by decide),.inl rfl⟩,hw.pick (ix:=[0,1]) (by decide)⟩
 | false =>
 replace zg:=Bd.mk g2
 refine AR ?_
 refine AO (k0 _ _ ?_)
 refine AQ rfl fun K k0=>?_
 refine AR ?_
 intro b11 eU ABu
 refine k0 _ _ ?_
 refine BF [1,2,3,0] (by decide) ?_
 simp only [Ag,nth]
 refine AB fun K k0=>?_
 refine AB fun K k1=>?_
 refine CF (Ag [3] _) (fun w hw=>hw.pick (by decide)) (by simp only [Ag,nth,Be,Bv,List.mem_cons,true_or,or_true,and_true,eq_self]) [(true,0),(true,1),(true,2),(true,3),(true,4),(false,5),(true,6)] [] CB rfl (by kernel_rfl) (by kernel_rfl) rfl rfl ?_
 refine AR ?_
 refine Af [.blk b1 135 [.int .u64 (e.h:Int),.int .i64 e.ow,.int .i64 e.tag,.int .i64 e.off,.int .i64 e.len],.blk b11 25 [.int .i64 e.len,.int .i64 1,.int .i64 0]] (Al x) (List.perm_append_comm (l₁:=[_,_]) (l₂:=[_,_])) JI (fun i=>Al (x.CJ i)) _ (fun w hw=>UO x rfl q (Ni e) (by omega) hlim ⟨hel.imp id (fun h=>by show e.len<=_;omega),(by decide:(0:Int)<=1/\(1:Int)<=1099511627776),(by decide:(0:Int)<=0/\(0:Int)<=1099511627776)⟩ hok w hw) ?_
 intro i1 hi1
 unfold JI
 obtain ⟨x1,hx1⟩:∃x1,x.CJ i1=x1:=⟨_,rfl⟩
 have hb1:x1.b=x.b:=by rw [<-hx1];rfl
 rw [hx1]
 unfold Al
 rw [Am hb1]
 dsimp only [List.cons_append,List.nil_append]
 refine AR ?_
 refine k1 _ _ ?_
 refine AV [0,1,2,3,11,41] fun G3 g3=>?_
 replace g3:=Bg g3
 refine AL ?_
 have hfa:I6 x.lim x.mt q (Ni e)=(i1.r,i1.l):=hi1.symm
 by_cases h0:i1.r=0
 case neg =>
  replace zg:=Bd.mk g3
  refine Ap h0 ?_
  refine BH ?_
  refine AP (Br fun w hw=>?_)
  have hsame:i1.l=x.mt:=by
   unfold I6 at hfa
   split at hfa
   ·exact (congrArg Prod.snd hfa).symm
   ·exact absurd (congrArg Prod.fst hfa).symm h0
  exact ⟨⟨16,x1⟩,rfl,⟨(by decide:(0:Int)<=16/\(16:Int)<=29),fun h=>absurd h (show ¬(16:Int)=0 by decide),.inr ⟨i1,hx1.symm,hsame⟩⟩,by unfold Al;rw [Am hb1];exact hw.pick (ix:=[0,1]) (by decide)⟩
 have d0:decide (i1.r=0)=true:=decide_eq_true h0
 have ham:=YH hlo ⟨hel.imp id (fun h=>by show e.len<=_;omega),(by decide:(0:Int)<=1/\(1:Int)<=1099511627776),(by decide:(0:Int)<=0/\(0:Int)<=1099511627776)⟩ hok hfa
 have hm1:x1.mt=i1.l:=by rw [<-hx1];rfl
 replace zg:=Bd.mk g3
 refine Ap d0 ?_
 refine AO (k0 _ _ ?_)
 refine AB fun K k0=>?_
 refine CF (Ag [3] _) (fun w hw=>hw.pick (by decide)) (by simp only [Ag,nth,Be,Bv,List.mem_cons,true_or,or_true,and_true,eq_self]) [(true,0),(true,1),(true,2),(true,3),(true,4),(false,5)] [5] CB rfl (by kernel_rfl) (by kernel_rfl) rfl rfl ?_
 refine AR ?_
 refine Af [.blk b1 135 [.int .u64 (e.h:Int),.int .i64 e.ow,.int .i64 e.tag,.int .i64 e.off,.int .i64 e.len],.blk b11 25 [.int .i64 e.len,.int .i64 1,.int .i64 0]] (Al x1) (by unfold Al;rw [Am hb1];exact List.perm_append_comm (l₁:=[_,_]) (l₂:=[_,_])) JI (fun i=>Al (x1.CJ i)) _ (fun w hw=>M0 x1 hb1 p (Ni e) (by rw [hm1];omega) ⟨hel.imp id (fun h=>by show e.len<=_;omega),(by decide:(0:Int)<=1/\(1:Int)<=1099511627776),(by decide:(0:Int)<=0/\(0:Int)<=1099511627776)⟩ (by rw [hm1];exact ham.1) w hw) ?_
 intro i2 hi2
 unfold JI
 obtain ⟨x2,hx2⟩:∃x2,x1.CJ i2=x2:=⟨_,rfl⟩
 have hb2:x2.b=x.b:=by rw [<-hx2];exact hb1
 rw [hx2]
 unfold Al
 rw [Am hb2]
 dsimp only [List.cons_append,List.nil_append]
 have ht2:x2.tb=x.tb:=by rw [<-hx2,<-hx1];rfl
 refine AR ?_
 refine k0 _ _ ?_
 refine BF [0,1] (by decide) ?_
 simp only [Ag,nth]
 refine AQ rfl fun K k0=>?_
 refine AR ?_
 refine Af [] (Al x2) (by unfold Al;rw [Am hb2];exact List.Perm.refl _) (fun _:Ez=>.int .i64 (KQ x2.tb o q)) (fun t=>Al (x2.GY t)) _ (fun w hw=>gH x2 o q ho k (by rw [ht2];exact hi) w hw) ?_
 intro t ht
 refine AR ?_
 refine k0 _ _ ?_
 refine BH ?_
 refine AP (Br fun w hw=>?_)
 exact ⟨⟨0,x2.GY t⟩,rfl,⟨(by decide:(0:Int)<=0/\(0:Int)<=29),fun _=>⟨hqq rfl,hv.acc rfl⟩,by rw [if_pos rfl];exact ⟨i1,i2,t,he,by rw [IM];exact hi1,h0,by rw [IM,<-hm1];exact hi2,by rw [<-ht2];exact ht,by rw [<-hx2,<-hx1]⟩⟩,hw⟩
theorem qA:type_of% (And.intro (And.intro (And.intro (And.intro @Nat.mul_one @Ae) (And.intro @G_ @cM)) (And.intro (And.intro @Ce @Cf) (And.intro @Cg (And.intro @Ch @Ci)))) (And.intro (And.intro (And.intro @Cs @Ct) (And.intro @DT @DU)) (And.intro (And.intro @CW @CX) (And.intro @O9.eq_1 (And.intro @Ij.eq_1 @U5.eq_1))))):=(And.intro (And.intro (And.intro (And.intro @Nat.mul_one @Ae) (And.intro @G_ @cM)) (And.intro (And.intro @Ce @Cf) (And.intro @Cg (And.intro @Ch @Ci)))) (And.intro (And.intro (And.intro @Cs @Ct) (And.intro @DT @DU)) (And.intro (And.intro @CW @CX) (And.intro @O9.eq_1 (And.intro @Ij.eq_1 @U5.eq_1)))))
def Q1:Qu:=⟨0,0,1⟩
structure LnG (x y:Aw) (o:Nat) (q mo:Int) (x1:Aw) (l:GJ):Prop where
 ok:Dp x.tb o=0
 m:if (holdB x.l (Ac o) q).isSome=true then x1=x else ∃j:KS,(j.r,j.l)=I6 x.lim x.mt q Q1/\j.r=0/\x1=x.CJ j
 UU:GV x.l (Ac o) q mo 0 l.l
 y:y=x1.EP l
def ABz (x y:Aw) (q:Int):Prop := ∃x1,(x1=x∨∃j:KS,(j.r,j.l)=I6 x.lim x.mt q Q1/\x1=x.CJ j)/\(y=x1∨∃l:GJ,l.l=x.l/\y=x1.EP l)
structure sS (x:Aw) (p:Int) (o:Nat) (q ac mo:Int) (i:Gx):Prop where
 QW:0<=i.v/\i.v<=29
 lv:i.v=0∨¬i.y=x->LvQ x p q
 acc:i.v=0->S9 x.l (Ac o) (decide ((Ba x.tb (Ac o)).ow=p)) ac
 r:if i.v=0 then ∃x1 l,LnG x i.y o q mo x1 l else ABz x i.y q
theorem ZN (x:Aw) {b:Nat} (hb:x.b=b) (p:Int) (o:Nat) (q ac mo:Int) (hmo:mo=1\/mo=2) (ho:o<18446744073709551616) (hN:x.tb.s.gen.length=x.tb.s.Cz.length) (hl:x.l.length<=90000) (hc:∀e∈x.l,0<=e.co/\e.co<=4611686018427387904) (hm:x.mt.length<=80000) (hlim:x.lim.lim) (hok:∀s∈x.mt,s.q.ok) (W:World) (hst:St (Ak (Al x)) W (Al x) W) :
  Calls Tryz.prog 64 #[.pointer (some ⟨b,0,none⟩),.int .i64 p,.int .u64 (o:Int),.int .i64 q,.int .i64 ac,.int .i64 mo] W
  fun en w' => ∃i:Gx,en = .returned (EH i)/\sS x p o q ac mo i/\St (Ak (Al x)) W (Al i.y) w':=by
 subst hb
 obtain ⟨M,hM⟩:∃M,Ak (Al x)=M:=⟨_,rfl⟩
 rw [hM] at hst ⊢
 clear hM
 unfold Al Du at hst
 refine Ab (M:=M) Tryz.func64 [.tmp 12]  hst ?_
 have zs:=Bd.mk qA
 refine Aq ?_
 refine AQ rfl fun K k0=>?_
 refine Ah ?_
 refine Bq (Al x) (List.Sublist.refl _) (fun v:Int=>ZL x o v) _ (fun w hw=>Ea x rfl p o ac ho hN hl w hw) ?_
 intro v hv
 by_cases hv0:v=0
 case neg =>
  rw [F8 hv0]
  refine Ah ?_
  intro b1 hb1 hf1
  refine k0 _ _ ?_
  refine AB fun K k0=>?_
  refine Aq ?_
  refine AL ?_
  refine D_ hv0 ?_
  refine Aq ?_
  refine AP (Cc fun w hw=>?_)
  exact ⟨⟨v,x⟩,rfl,⟨hv.QW,fun h=>h.elim (fun h=>absurd h hv0) (fun h=>absurd rfl h),fun h=>absurd h hv0,by rw [if_neg hv0];exact ⟨x,.inl rfl,.inl rfl⟩⟩,hw.tail⟩
 have he:=hv.ok hv0
 subst hv0
 obtain ⟨r1,r2,r3,r4⟩:=Dr he
 obtain ⟨e,IM⟩:∃e,Ba x.tb (Ac o)=e:=⟨_,rfl⟩
 rw [I8,IM]
 refine Ah ?_
 intro b1 hb1 hf1
 refine k0 _ _ ?_
 refine AB fun K k0=>?_
 refine Aq ?_
 refine AL ?_
 refine Ah ?_
 refine AO (k0 _ _ ?_)
 refine AV [0,1,2,3,5] fun G1 g1=>?_
 replace g1:=Bi g1
 refine AB fun K k0=>?_
 refine AB fun K k1=>?_
 refine A9 (fun _ _=>True) (fun F' L' => ∃(bb:Bool),Az F' G1 [0,2,3,5]/\F' 37 = .bool bb/\L'=[.blk x.b 65 [x.y0,x.y1,x.y2,x.y3,x.y4,x.y5,x.y6,x.y7,x.y8,.slice x.TA x.tn x.tc,.int .i64 x.N,.slice x.UA x.un x.uc,.pointer (some ⟨x.tb.tb,0,none⟩),.slice x.LA x.ln x.lc,.int .i64 x.lim.qb,.int .i64 x.lim.qo,.int .i64 x.lim.qr,.slice x.MA x.mn x.mc,.int .i64 x.cap,.slice x.EA x.en x.ec,.slice x.SA x.sn x.sc,.slice x.BA x.bn x.bc,.slice (some ⟨x.g,0,none⟩) 65 65],Cj (DW x)]/\(bb=false->LvQ x p q)) ?_ ?_
 ·refine BF [1,2] (by decide) ?_
  simp only [Ag,nth]
  refine AF rfl ?_
  have zg:=Bd.mk g1
  refine AR ?_
  refine Bq (Al x) (List.Sublist.refl _) (fun _:Unit=>.bool (DK x.sv q)) _ (fun w hw=>Ho x rfl q w hw) ?_
  intro _ _
  obtain ⟨al,hal⟩:∃al,DK x.sv q=al:=⟨_,rfl⟩
  rw [hal]
  cases al with
  | false =>
   refine AR ?_
   exact ⟨_,rfl,fun h=>by cases h⟩
  | true =>
   refine AR ?_
   exact ⟨_,rfl,fun h=>⟨hal,of_decide_eq_false h⟩⟩
 intro G2 L' _ hF
 obtain ⟨bb,zq,AGs,rfl,hqq⟩:=hF
 have zg:=Bd.mk g1
 have g2:=And.intro (Bg zq) AGs
 refine k1 _ _ ?_
 refine AL ?_
 cases bb with
 | true =>
  replace zg:=Bd.mk g2
  refine AR ?_
  refine BH ?_
  refine AP (Br fun w hw=>?_)
  exact ⟨⟨15,x⟩,rfl,⟨(by decide:(0:Int)<=15/\(15:Int)<=29),fun h=>h.elim (fun h=>absurd h (show ¬(15:Int)=0 by decide)) (fun h=>absurd rfl h),fun h=>absurd h (show ¬(15:Int)=0 by decide),⟨x,.inl rfl,.inl rfl⟩⟩,hw⟩
 | false =>
 replace zg:=Bd.mk g2
 refine AR ?_
 refine AO (k0 _ _ ?_)
 refine AQ rfl fun K k0=>?_
 refine AR ?_
 refine Aa (fun w hw=>CU o ho w) ?_
 try refine AR ?_
 refine k0 _ _ ?_
 refine AV [0,3,5,15] fun G3 g3=>?_
 replace g3:=Bg g3
 refine AQ rfl fun K k0=>?_
 replace zg:=Bd.mk g3
 refine AR ?_
 refine Aa (fun w hw=>EZ (Aw.lgw (x:=x) (L:=[]) hw (by omega)) (Ac o) q) ?_
 try refine AR ?_
 intro b16 rJ AGt
 refine k0 _ _ ?_
 obtain ⟨hd,hhd⟩:∃hd,(holdB x.l (Ac o) q).isSome=hd:=⟨_,rfl⟩
 rw [hhd]
 refine BF [1,2] (by decide) ?_
 simp only [Ag,nth]
 refine AV [0,3,5,15,17] fun G4 g4=>?_
 replace g4:=Bg g4
 refine AB fun K k0=>?_
 refine AB fun K k1=>?_
 refine A9 (fun _ _=>True) (fun F' L' => ∃(x1:Aw) (bb:Bool),Az F' G4 [0,3,5,15]/\F' 59 = .bool bb/\L'=[.blk x.b 65 [x1.y0,x1.y1,x1.y2,x1.y3,x1.y4,x1.y5,x1.y6,x1.y7,x1.y8,.slice x1.TA x1.tn x1.tc,.int .i64 x1.N,.slice x1.UA x1.un x1.uc,.pointer (some ⟨x1.tb.tb,0,none⟩),.slice x1.LA x1.ln x1.lc,.int .i64 x1.lim.qb,.int .i64 x1.lim.qo,.int .i64 x1.lim.qr,.slice x1.MA x1.mn x1.mc,.int .i64 x1.cap,.slice x1.EA x1.en x1.ec,.slice x1.SA x1.sn x1.sc,.slice x1.BA x1.bn x1.bc,.slice (some ⟨x1.g,0,none⟩) 65 65],Cj (DW x1)]/\x1.b=x.b/\x1.l=x.l/\(if hd=true then x1=x/\bb=false else ∃j:KS,(j.r,j.l)=I6 x.lim x.mt q Q1/\bb = !decide (j.r=0)/\x1=x.CJ j)) ?_ ?_
 ·cases hd with
  | true =>
   refine AF rfl ?_
   replace zg:=Bd.mk g4
   refine AR ?_
   refine ⟨x,false, ?_⟩
   exact MQ
  | false =>
   refine AF rfl ?_
   replace zg:=Bd.mk g4
   refine AR ?_
   refine Af [] (Al x) (List.Perm.refl _) JI (fun i=>Al (x.CJ i)) _ (fun w hw=>UO x rfl q Q1 (by omega) hlim ⟨(by decide:(0:Int)<=0/\(0:Int)<=1099511627776),(by decide:(0:Int)<=0/\(0:Int)<=1099511627776),(by decide:(0:Int)<=1/\(1:Int)<=1099511627776)⟩ hok w hw) ?_
   intro j hj
   unfold JI
   obtain ⟨x1,hx1⟩:∃x1,x.CJ j=x1:=⟨_,rfl⟩
   have hb1:x1.b=x.b:=by rw [<-hx1];rfl
   rw [hx1]
   unfold Al
   rw [Am hb1]
   dsimp only [List.cons_append,List.nil_append]
   refine AR ?_
   refine ⟨x1, !decide (j.r=0),rfl,rfl,hb1,by rw [<-hx1];rfl, ?_⟩
   exact ⟨j,hj,rfl,hx1.symm⟩
 intro G5 L' _ hF
 obtain ⟨x1,bb,zq,sU,rfl,⟨hb1,hl1,hx1⟩⟩:=hF
 replace zg:=Bd.mk g4
 have g5:=And.intro (Bg zq) sU
 refine k1 _ _ ?_
 refine AL ?_
 have hm1:x1=x∨∃j:KS,(j.r,j.l)=I6 x.lim x.mt q Q1/\x1=x.CJ j:=by
  split at hx1
  ·exact .inl hx1.1
  ·obtain ⟨j,h1, -,h2⟩:=hx1
   exact .inr ⟨j,h1,h2⟩
 cases bb with
 | true =>
  replace zg:=Bd.mk g5
  refine AR ?_
  refine BH ?_
  refine AP (Br fun w hw=>?_)
  exact ⟨⟨16,x1⟩,rfl,⟨(by decide:(0:Int)<=16/\(16:Int)<=29),fun _=>hqq rfl,fun h=>absurd h (show ¬(16:Int)=0 by decide),⟨x1,hm1,.inl rfl⟩⟩,by unfold Al;rw [Am hb1];exact hw⟩
 | false =>
 replace zg:=Bd.mk g5
 refine AR ?_
 refine AO (k0 _ _ ?_)
 refine AQ rfl fun K k0=>?_
 refine AR ?_
 refine Af [] (Al x1) (by unfold Al;rw [Am hb1];exact List.Perm.refl _) Xq (fun i=>Al (x1.EP i.2)) _ (fun w hw=>gF x1 hb1 (Ac o) q mo hmo (by rw [hl1];omega) (by rw [hl1];exact hc) w hw) ?_
 rintro ⟨r,l⟩ ⟨hi1,hi2⟩
 unfold Xq
 dsimp only at *
 refine AR ?_
 refine k0 _ _ ?_
 refine AP (Br fun w hw=>?_)
 rw [hl1] at hi1 hi2
 have hr:r=0\/r=14:=by
  unfold GV at hi1
  split at hi1
  ·exact .inr hi1
  ·exact .inl hi1.1
 refine ⟨⟨r,x1.EP l⟩,rfl,⟨?_,fun _=>hqq rfl,fun _=>hv.acc rfl, ?_⟩,hw⟩
 ·show 0<=r/\r<=29
  omega
 ·show if r=0 then _ else _
  by_cases h0:r=0
  ·rw [if_pos h0]
   subst h0
   refine ⟨x1,l,he, ?_,hi1,rfl⟩
   rw [hhd]
   split at hx1
   ·rw [if_pos (by assumption)];exact hx1.1
   ·rename_i hn
    rw [if_neg hn]
    obtain ⟨j,h1,h2,h3⟩:=hx1
    exact ⟨j,h1,by simpa using h2,h3⟩
  ·rw [if_neg h0]
   exact ⟨x1,hm1,.inr ⟨l,hi2 h0,rfl⟩⟩
structure RlG (x y:Aw) (p:Int) (o:Nat) (l:GJ):Prop where
 ok:Dp x.tb o=0
 rel:Gj x.l (Ac o) p 0 l.l
 y:if (holdB l.l (Ac o) p).isSome=true then y=x.EP l else ∃j:KS,(j.r,j.l)=GI x.mt p Q1/\y=(x.EP l).CJ j
structure vG (x:Aw) (p:Int) (o:Nat) (i:Gx):Prop where
 QW:0<=i.v/\i.v<=29
 r:if i.v=0 then ∃l,RlG x i.y p o l else (i.y=x∨∃l:GJ,l.l=x.l/\i.y=x.EP l)
theorem aX {l:List Bw} {ob ho r:Int} {l':List Bw} (h:Gj l ob ho r l') (hr:r=0):l'.length<=l.length:=by
 unfold Gj at h
 split at h
 ·omega
 ·rename_i e hh
  have hw:∀ob ho:Int,(Ev l ob ho).length<=l.length:=fun ob ho=>List.length_filter_le _ _
  obtain ⟨-,h⟩:=h
  split at h
  ·rw [h];exact hw _ _
  ·obtain ⟨P,Q,h⟩:=h
   have h1:=congrArg List.length h.rest
   have h2:=congrArg List.length h.out
   rw [List.length_append] at h1
   rw [List.length_append,List.length_cons] at h2
   have hm:=Gl hh
   have:(Ev l e.ob e.ho).length<l.length:=by
    unfold Ev
    refine Nat.lt_of_le_of_ne (List.length_filter_le _ _) fun hn=>?_
    have:=(List.length_filter_eq_length_iff.1 hn) e hm.1
    simp [Xp] at this
   omega
theorem nH (x:Aw) {b:Nat} (hb:x.b=b) (p:Int) (o:Nat) (ho:o<18446744073709551616) (hN:x.tb.s.gen.length=x.tb.s.Cz.length) (hl:x.l.length<=90000) (hc:∀e∈x.l,0<=e.co/\e.co<=4611686018427387904) (hm:x.mt.length<=80000) (hok:∀s∈x.mt,s.q.ok) (W:World) (hst:St (Ak (Al x)) W (Al x) W) :
  Calls Tryz.prog 65 #[.pointer (some ⟨b,0,none⟩),.int .i64 p,.int .u64 (o:Int)] W
  fun en w' => ∃i:Gx,en = .returned (EH i)/\vG x p o i/\St (Ak (Al x)) W (Al i.y) w':=by
 subst hb
 obtain ⟨M,hM⟩:∃M,Ak (Al x)=M:=⟨_,rfl⟩
 rw [hM] at hst ⊢
 clear hM
 unfold Al Du at hst
 refine Ab (M:=M) Tryz.func65 [.tmp 6]  hst ?_
 have zs:=Bd.mk qA
 refine Aq ?_
 refine AB fun K k0=>?_
 refine AQ rfl fun K k1=>?_
 refine Ah ?_
 refine Bq (Al x) (List.Sublist.refl _) (fun _:Unit=>KP x.tb o) _ (fun w hw=>OY x o ho hN w hw) ?_
 intro _ _
 by_cases he:Dp x.tb o=0
 case neg =>
  rw [Mr he]
  refine Ah ?_
  intro b7 Z0 mZ
  refine k1 _ _ ?_
  refine Aq ?_
  refine AL ?_
  refine D_ he ?_
  refine Aq ?_
  refine AP (Cc fun w hw=>?_)
  have hv:=WJ x.tb o
  exact ⟨⟨Dp x.tb o,x⟩,rfl,⟨hv,by rw [if_neg he];exact .inl rfl⟩,hw.tail⟩
 rw [PD he]
 refine Ah ?_
 intro b7 Z0 mZ
 refine k1 _ _ ?_
 refine Aq ?_
 refine AL ?_
 refine Ah ?_
 refine AO (k0 _ _ ?_)
 refine BF [1,2] (by decide) ?_
 simp only [Ag,nth]
 refine AV [0,1,2] fun G1 g1=>?_
 replace g1:=Bi g1
 refine AQ rfl fun K k0=>?_
 have zg:=Bd.mk g1
 refine AR ?_
 refine Aa (fun w hw=>CU o ho w) ?_
 try refine AR ?_
 refine k0 _ _ ?_
 refine AB fun K k0=>?_
 refine AQ rfl fun K k1=>?_
 refine AR ?_
 refine Af [] (Al x) (List.Perm.refl _) Xq (fun i=>Al (x.EP i.2)) _ (fun w hw=>WH x rfl (Ac o) p (by omega) hc w hw) ?_
 rintro ⟨r,l⟩ ⟨hi1,hi2⟩
 unfold Xq
 dsimp only at hi1 hi2
 obtain ⟨x1,hx1⟩:∃x1,x.EP l=x1:=⟨_,rfl⟩
 have hb1:x1.b=x.b:=by rw [<-hx1];rfl
 rw [hx1]
 unfold Al
 rw [Am hb1]
 dsimp only [List.cons_append,List.nil_append]
 have hl1:x1.l=l.l:=by rw [<-hx1];rfl
 have hm1:x1.mt=x.mt:=by rw [<-hx1];rfl
 refine AR ?_
 refine k1 _ _ ?_
 refine AV [0,1,9,32] fun G2 g2=>?_
 replace g2:=Bg g2
 refine AL ?_
 by_cases h0:r=0
 case neg =>
  replace zg:=Bd.mk g2
  refine Ap h0 ?_
  refine BH ?_
  refine AP (Br fun w hw=>?_)
  exact ⟨⟨13,x1⟩,rfl,⟨(by decide:(0:Int)<=13/\(13:Int)<=29),.inr ⟨l,hi2 h0,hx1.symm⟩⟩,by unfold Al;rw [Am hb1];exact hw⟩
 have hlen:=aX hi1 h0
 subst h0
 replace zg:=Bd.mk g2
 refine AR ?_
 refine AO (k0 _ _ ?_)
 have hl2:x1.l.length<=90000:=by rw [hl1];omega
 refine AQ rfl fun K k0=>?_
 refine AR ?_
 refine Aa (fun w hw=>hb1▸EZ (Aw.lgw (x:=x1) (L:=[]) (by rw [Am hb1];exact hw) (by omega)) (Ac o) p) ?_
 try refine AR ?_
 intro b10 IU JK
 refine k0 _ _ ?_
 obtain ⟨hd,hhd⟩:∃hd,(holdB x1.l (Ac o) p).isSome=hd:=⟨_,rfl⟩
 rw [hhd]
 refine BF [1,2] (by decide) ?_
 simp only [Ag,nth]
 refine AV [0,1,11] fun G3 g3=>?_
 replace g3:=Bg g3
 refine AB fun K k0=>?_
 replace zg:=Bd.mk g3
 refine BH ?_
 refine AL ?_
 cases hd with
 | true =>
  refine AR ?_
  refine AO (k0 _ _ ?_)
  refine BH ?_
  refine AP (Br fun w hw=>?_)
  exact ⟨⟨0,x1⟩,rfl,⟨(by decide:(0:Int)<=0/\(0:Int)<=29),⟨l,he,hi1,by rw [<-hl1,if_pos hhd];exact hx1.symm⟩⟩,by unfold Al;rw [Am hb1];exact hw⟩
 | false =>
 refine AR ?_
 refine AU rfl ?_
 refine AR ?_
 refine Af [] (Al x1) (by unfold Al;rw [Am hb1];exact List.Perm.refl _) JI (fun i=>Al (x1.CJ i)) _ (fun w hw=>M0 x1 hb1 p Q1 (by rw [hm1];omega) ⟨(by decide:(0:Int)<=0/\(0:Int)<=1099511627776),(by decide:(0:Int)<=0/\(0:Int)<=1099511627776),(by decide:(0:Int)<=1/\(1:Int)<=1099511627776)⟩ (by rw [hm1];exact hok) w hw) ?_
 intro j hj
 unfold JI
 refine AR ?_
 refine k0 _ _ ?_
 refine BH ?_
 refine AP (Br fun w hw=>?_)
 exact ⟨⟨0,x1.CJ j⟩,rfl,⟨(by decide:(0:Int)<=0/\(0:Int)<=29),⟨l,he,hi1,by rw [<-hl1,if_neg (by rw [hhd];decide)];exact ⟨j,by rw [<-hm1];exact hj,by rw [<-hx1]⟩⟩⟩,hw⟩
end Go.Proofs.YtegonkdandmolaaGreat
