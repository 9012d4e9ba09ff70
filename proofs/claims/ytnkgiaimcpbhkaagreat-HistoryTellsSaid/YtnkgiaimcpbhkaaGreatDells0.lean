import Derived.RangeFuncNested
import Derived.RangeFuncBound
import Derived.RangeFuncCalls
import Derived.RangeFuncLeaves
import Derived.Shelf.Abstract
import Derived.Shelf.RegionOpen
import Derived.WalkKit
import Derived.OwnWalkIn
import Derived.TacticsInMore
import Derived.LoopNIn
import Derived.LoopIn
import Derived.Lib.Hide
import Derived.OpenShut
import Derived.WalkSpells
import Derived.Laws.OwnMore
import Derived.Deep.AppendLies
import Derived.Deep.Draws
import Derived.Deep.OwnRows
import Derived.Laws.Rows
import Derived.Maps.AppendAt
import Derived.ChangeSame
import Derived.RegionTactic
import Derived.OwnWalk
import Derived.Test.YtnkgiaimcpbhkaaGreatChecked
import Derived.OrdersHeld
import Derived.Tactics
import Derived.LoopTactic
import Derived.Laws.StructEq
import Derived.Laws.Tables
import Derived.Laws.BytesString
set_option linter.all false
set_option maxRecDepth 100000
set_option maxHeartbeats 4000000
open List renaming nil_append→AR,cons_append→Ad,map_cons→BJ,set_cons_zero→Ba,set_cons_succ→Bb,map_nil→ASW,eraseIdx_cons_zero→AZ,eraseIdx_cons_succ→Aa,getElem?_cons_zero→ATZ,getElem?_cons_succ→ATa,drop_eq_nil_of_le→ATd,append_toArray→ATi,contains_cons→ATn
open List.Perm renaming swap→CL
open Array renaming replicate→CQ,getElem?_eq_none→ATc,toArray_toList→ATh
open Int renaming toNat_of_nonneg→Ct,tmod_eq_emod_of_nonneg→ATO,tdiv_eq_ediv_of_nonneg→ATP
open Option renaming isSome_iff_exists→ASf,isNone_some→ATl,isNone_none→ATm,bind_none→ATs
open List.Pairwise renaming nil→AS7
open Bool renaming false→ο,true→τ
open Go.Ending renaming returned→κ
open Go.IntKind renaming i64→ζ,u32→χ,u64→υ,u8→η
open Option renaming none→ν,some→σ
open Go.Value renaming bool→θ,int→ε,pointer→π,slice→ξ
namespace Go.Proofs.YtnkgiaimcpbhkaaGreat
open Tryz renaming prog→AGm
open Go.RowKit Go.Shelf Go.ChangeShapes Go.WideShapes
theorem AO{a b:Prop}(h:a)(k:b):a∧b:=⟨h,k⟩
theorem AF{p:Prop}(h:p:=by kernel_rfl):p:=h
theorem AJ{p:Prop}(h:p:=by decide):p:=h
theorem AL{p:Prop}(h:p:=by omega):p:=h
def AP:=@List.mem_cons
def AQ:=@List.getElem?_eq_getElem
def AU:=@List.mem_of_getElem?
def AV:=@List.mem_append
def Ab:=@List.getElem?_eq_some_iff
def Ac:=@Nat.mul_one
def Af:=@Int.natCast_add
def Ak:=@List.pairwise_cons
def Ap:=@List.length_filter_le
def Am:=@Nat.le_of_ble_eq_true
def Au:=@Bool.and_eq_true
def Av:=@List.length_cons
def Ao:=@Nat.zero_add
def Ar:=@Nat.zero_le
def BF:=@List.length_map
def Aw:=@List.take_of_length_le
def Ay:=@Nat.le_refl
def BQ:=@List.perm_append_comm
def Bl:=@List.mem_filter
def Az:=@List.sublist_append_left
def BN:=@List.pairwise_append
def BL:=@List.mem_map
def BB:=@List.Sublist.refl
def BH:=@List.mem_singleton
def CF:=@List.Perm.refl
def BK:=@List.flatMap_cons
def BM:=@List.mem_flatMap
def AGn:=@Nat.le_trans
def BP:=@List.getD_eq_getElem?_getD
def BZ:=@List.getElem?_map
def BV:=@List.drop_eq_getElem_cons
def Ae:=@List.not_mem_nil
def BS:=@Nat.lt_of_lt_of_le
def Bg:=@List.mem_cons_of_mem
def BU:=@List.mem_of_mem_take
def BX:=@List.append_nil
def Bn:=@Option.some.injEq
def Bf:=@List.length_nil
def Bc:=@List.eq_nil_of_length_eq_zero
def Be:=@Bool.false_eq_true
def Bh:=@List.append_assoc
def Bj:=@List.map_append
def AGp:=@List.filter_sublist
def Bi:=@List.take_add_one
def Bz:=@List.set_eq_take_append_cons_drop
def B_:=@Int.le_refl
def CY:=@List.getElem?_set_self
def CX:=@List.getElem?_set_ne
def CG:=@List.perm_middle
def Bo:=@Int.toNat_natCast
def Bp:=@Decidable.not_not
def Bq:=@Prod.mk.inj
def Br:=@List.drop_of_length_le
def Cv:=@List.filter_cons
def Bu:=@List.getElem?_take
def Bv:=@Array.getElem?_eq_some_iff
def CB:=@List.length_replicate
def CO:=@List.nodup_cons
def CZ:=@Decidable.byContradiction
def CE:=@List.take_succ_eq_append_getElem
def CJ:=@Bool.not_eq_true'
def CK:=@Option.map_eq_some_iff
def CR:=@List.length_drop
def Cf:=@List.getElem_mem
def CS:=@List.perm_append_comm_assoc
def AG2:=@List.pairwise_map
def CW:=@Nat.min_eq_left
def Ce:=@Option.getD_some
def Cc:=@List.Perm.append_left
def ASR:=@List.getElem?_replicate
def Cg:=@Nat.add_zero
def Ci:=@List.replicate_succ
def Cj:=@List.pairwise_iff_getElem
def Cr:=@Option.map_some
def Ck:=@List.mem_or_eq_of_mem_set
def Cm:=@Nat.eq_zero_or_pos
def Cn:=@Nat.add_assoc
def Co:=@Nat.le_succ
def ASU:=@Bool.and_false
def ASe:=@Bool.or_eq_false_iff
def Ai:=@List.drop_succ_cons
def ATG:=@List.map_map
def AG9:=@List.findIdx?_eq_some_iff_getElem
def AHA:=@Int.sub_zero
def ASF:=@List.flatMap_nil
def ASG:=@List.getElem?_drop
def ASH:=@Bool.false_and
def Aq:=@List.drop_zero
def ASI:=@List.take_append_drop
def ASJ:=@List.filter_append
def ASL:=@List.sublist_append_right
def AHE:=@List.findIdx?_eq_none_iff
def ASM:=@List.foldl_cons
def ASN:=@Nat.zero_mul
def ASO:=@List.map_set
def ASP:=@List.eq_of_mem_replicate
def ASQ:=@List.mem_of_mem_drop
def AHL:=@Nat.le_succ_of_le
def Aj:=@List.take_succ_cons
def ASS:=@List.flatMap_append
def ASj:=@List.filter_eq_self
def AST:=@List.map_toArray
def ASs:=@List.mem_range
def ASV:=@List.sublist_cons_self
def AHM:=@List.filter_eq_nil_iff
def ASn:=@Option.some.inj
def AHa:=@List.filter_map
def ASX:=@List.all_cons
def ASZ:=@List.size_toArray
def ASa:=@List.mem_range'_1
def ASb:=@List.nodup_append
def ASc:=@Nat.mul_le_mul_right
def ASd:=@List.getElem?_append_left
def ATT:=@Option.bind_some
def ASh:=@Nat.succ_mul
def AHh:=@List.any_eq_true
def AUI:=@List.length_filter_eq_length_iff
def ASi:=@List.toList_toArray
def ASk:=@List.filterMap_cons
def ASl:=@Int.eq_ofNat_of_zero_le
def ASm:=@Nat.lt_irrefl
def ATQ:=@Bool.not_true
def AHj:=@Bool.and_true
def ASv:=@Bool.true_and
def CU:=@Bool.or_eq_true
def ATK:=@Option.isSome_some
def ASo:=@Nat.mod_lt
def AHl:=@List.filter_filter
def ATo:=@List.find?_eq_none
def ASz:=@List.range_succ
def AUJ:=@List.ext_getElem?
def ASp:=@List.filter_congr
def AS8:=@List.find?_append
def AHr:=@List.any_eq_false
def ASq:=@Nat.lt_or_ge
def AS5:=@Ne.symm
def ASr:=@Array.getElem?_append
def AHs:=@Bool.not_false
def ASt:=@List.append_eq
def ASu:=@List.all_eq_true
def ATE:=@List.mem_append_left
def AUS:=@Bool.or_false
def ASw:=@Array.length_toList
def ATI:=@List.map_congr_left
def ASx:=@Option.map_none
def ASy:=@List.mem_of_find?_eq_some
def AS0:=@List.set_eq_of_length_le
def AS1:=@Bool.true_eq_false
def AS3:=@List.mem_filterMap
def AUK:=@Bool.false_ne_true
def AS4:=@List.map_replicate
def AS6:=@Option.bind_eq_some_iff
def AH2:=@List.length_eq_zero_iff
def AUL:=@List.getElem?_set
def AS9:=@Nat.add_mul
def ATR:=@Bool.false_or
def AH3:=@Int.ofNat_inj
def ATA:=@Nat.mod_eq_of_lt
def AUM:=@Nat.min_eq_right
def AUN:=@List.take_length
def ATe:=@List.mem_append_right
def ATC:=@List.length_mergeSort
def AUO:=@List.set_append_right
def ATD:=@List.singleton_append
def AUP:=@Nat.add_comm
def Cs:=@Bool.eq_iff_iff
def ATH:=@List.getElem?_of_mem
def AUY:=@List.drop_take
def ATJ:=@List.drop_drop
def AUQ:=@List.dropLast_concat_getLast
def ATL:=@Option.isSome_none
def AS2:=@Bool.not_eq_false'
def AUR:=@Option.toList_some
def AH9:=@Nat.lt_of_le_of_ne
def AH_:=@Int.natCast_nonneg
def ATN:=@Prod.mk.injEq
def AIA:=@Bool.and_comm
def AUT:=@List.getElem?_append_right
def AIB:=@List.Pairwise.imp
def AIC:=@List.length_range
def AUU:=@Nat.sub_zero
def ATV:=@Int.mul_comm
def AIE:=@List.nil_sublist
def ATb:=@List.cons.injEq
def AUV:=@List.all_append
def AUW:=@Int.natCast_mul
def AIH:=@List.any_append
def AUX:=@List.mapM_cons
def A_:=@List.take_zero
def AIJ:=@List.take_take
def ATt:=@if_neg
def ATu:=@beq_iff_eq
def ATv:=@if_pos
def ATw:=@not_false_eq_true
def ATx:=@if_true
def AUZ:=@dif_pos
def ATy:=@not_true_eq_false
def ATz:=@if_false
def AT0:=@of_decide_eq_true
def AUa:=@beq_self_eq_true
def AT1:=@true_and
def AIK:=@false_and
def AIL:=@and_false
def AUb:=@decide_true
def AUc:=@decide_false
def AUd:=@forall_const
def AUe:=@implies_true
def AT4:=@congrArg
def AT5:=@decide_eq_true_eq
def AT6:=@false_or
def AT7:=@or_false
def AT8:=@iff_true
def AUA:=@decide_eq_false_iff_not
def AUB:=@decide_eq_true
def AUC:=@decide_eq_false
def AUD:=@of_decide_eq_false
def AUf:=@eq_iff_iff
def AUE:=@congrFun
def AIO:=@exists_eq_left'
def AUg:=@decide_eq_decide
def AUh:=@decide_eq_true_iff
theorem AUn:(0:Int)<=0/\(0:Int)<=1099511627776:=by decide
theorem AUp{p:Prop}(h:p:=by simp[DW.foot]):p:=h
theorem AUq{p:Prop}(h:p:=by simp):p:=h
theorem AUs:(0:Int)<=0/\(0:Int)<=29:=by decide
theorem AUu:(0:Int)<=1/\(1:Int)<=1099511627776:=by decide
theorem AUv{p:Prop}(h:p:=by simp -implicitDefEqProofs (disch:=first|omega|decide) only [seval,-Int.reducePow,-Nat.reducePow,cC,pv,D5,EH,undef,Y7,hNn,g8]):p:=h
theorem AUw{p:Prop}(h:p:=by simp -implicitDefEqProofs (disch:=first|omega|decide) only [seval,-Int.reducePow,-Nat.reducePow,cC,pv,D5,EH,undef,IZ,g3]):p:=h
theorem AUz{p:Prop}(h:p:=by unfold Da;rw[Dp hzb];exact CF _):p:=h
theorem AU4{p:Prop}(h:p:=by simp[Dl,nth,DW.foot]):p:=h
theorem AU5{p:Prop}(h:p:=by dsimp only;omega):p:=h
theorem AU6{p:Prop}(h:p:=by simp[hr]):p:=h
theorem AU7{p:Prop}(h:p:=by simpa [DW.foot]using hg):p:=h
theorem AU_:0<18446744073709551616:=by decide
theorem AVB{p:Prop}(h:p:=by simp[DW.foot,Value.ownBlock]):p:=h
theorem AVH{p:Prop}(h:p:=by unfold MS;dsimp only;omega):p:=h
theorem AVJ{p:Prop}(h:p:=by rw[hq.ms];omega):p:=h
theorem AVK{p:Prop}(h:p:=by rw[hq.es];omega):p:=h
theorem AVN{p:Prop}(h:p:=by simp[DW.foot,e]):p:=h
theorem AVO{p:Prop}(h:p:=by rw[<-hA]at hw;exact hw):p:=h
theorem AVQ{p:Prop}(h:p:=by simp[hr1]):p:=h
theorem AVS{p:Prop}(h:p:=by unfold Ip;omega):p:=h
theorem AVU{p:Prop}(h:p:=by simpa using h):p:=h
theorem AVV{p:Prop}(h:p:=by have:=hB.size;simp;omega):p:=h
theorem AVX{p:Prop}(h:p:=by simp -implicitDefEqProofs (disch:=first|omega|decide) only [seval,-Int.reducePow,-Nat.reducePow,cC,pv,D5,EH,undef,fF,g1,g2]):p:=h
theorem AVY{p:Prop}(h:p:=by show ss.length<=_;omega):p:=h
theorem AVZ:(1:Int)<=1/\(1:Int)<=4:=by decide
theorem AVa{p:Prop}(h:p:=by simpa [DW.foot,Value.ownBlock]using hb'):p:=h
theorem AVc{p:Prop}(h:p:=by show ss.length=_;omega):p:=h
theorem AVf{p:Prop}(h:p:=by have:=(Gb.EJ hw (.head _)).len;omega):p:=h
theorem AVh{p:Prop}(h:p:=by intro _ d _ _ _ h;cases d<;>exact h):p:=h
theorem AVx{p:Prop}(h:p:=by show fs.length<=_;omega):p:=h
theorem AVy{p:Prop}(h:p:=by rw[<-bG];exact(hw.md (k:=4) rfl).gs):p:=h
theorem AV1{p:Prop}(h:p:=by simp;omega):p:=h
theorem AV2{p:Prop}(h:p:=by simp only[PT.Fa,hc,ASH,ASU,Be,ATw]):p:=h
theorem AV6:(0:Int)<=16/\(16:Int)<=29:=by decide
theorem AV7:(0:Int)<=15/\(15:Int)<=29:=by decide
theorem AV_{p:Prop}(h:p:=by unfold Da;rw[Dp hb1];exact CF _):p:=h
theorem AWA{p:Prop}(h:p:=by rw[h0]at h1;cases h1):p:=h
theorem AWD{p:Prop}(h:p:=by simpa using hj):p:=h
theorem AWI{p:Prop}(h:p:=by unfold Da;rw[Dp hb1];exact BQ (l₁:=[_,_]) (l₂:=[_,_])):p:=h
theorem AWK{p:Prop}(h:p:=by intro c d v a w hh;exact hh):p:=h
theorem AWL{p:Prop}(h:p:=by rw[Q_,Q_]<;>(rcases yQ with⟨h,_⟩|⟨h,_⟩<;>omega)):p:=h
theorem AWO{p:Prop}(h:p:=by show (0:Int)<=(IX x.l p:Int)/\(IX x.l p:Int)<=_;omega):p:=h
theorem AWP{p:Prop}(h:p:=by rfl):p:=h
theorem AWQ{p:Prop}(h:p:=by show 7<11;decide):p:=h
theorem AWR{p:Prop}(h:p:=by show (ss).length<=_;omega):p:=h
theorem AWV{p:Prop}(h:p:=by rw[hq];exact hz):p:=h
theorem AWX{p:Prop}(h:p:=by simp only[maxLen];omega):p:=h
theorem AWZ{p:Prop}(h:p:=by simpa using hd):p:=h
theorem AIb{p:Prop}(h:p:=by simpa using h1):p:=h
theorem AWg{p:Prop}(h:p:=by simp[Value.oneCell']):p:=h
theorem AWi{p:Prop}(h:p:=by unfold maxLen;omega):p:=h
theorem AWj{p:Prop}(h:p:=by show (ss.take qk).length<=_;rw[Al];omega):p:=h
theorem AWk{p:Prop}(h:p:=by rw[EY];omega):p:=h
theorem AWl{p:Prop}(h:p:=by rw[BF];omega):p:=h
theorem AWn{p:Prop}(h:p:=by simpa [DW.foot,Value.ownBlock]using hc):p:=h
theorem AWo{p:Prop}(h:p:=by simp[hy]):p:=h
theorem AWp{p:Prop}(h:p:=by simp[World.setRow]):p:=h
theorem AUi{p:Prop}(h:p:=by
 repeat' ((first|refine EF (λhg=>?_) (λhg=>?_)|refine EG (λhg=>?_) (λhg=>?_))<;>((try replace hg:=Fe hg);(try refine DU hg ?_);(try exact trivial)))
 all_goals (repeat' refine AO ?_ ?_)
 all_goals exact Ev):p:=h
theorem AUj{p:Prop}(h:p:=by
 intro QA qc qd qf;refine DU (AO @Ao (AO @AR.{0} (AO @AP.{0} (AO true_or (AO or_true (AO and_true eq_self)))))) ?_;refine AO ?_ ?_
 ·refine Ee (λz:Nat=>ε υ (z:Int)) (λz=>z<18446744073709551616) (λw hw=>Ef (PD (hw.pick (ix:=[4,5]) AJ)) AL ht.ok) ?_;intro dg hdg;refine DU (AO @AP.{0} (AO true_or (AO or_true (AO and_true eq_self)))) ?_;intro b3 hb3 hf3;try refine DU (AO @AP.{0} (AO true_or (AO or_true (AO and_true eq_self)))) ?_
  refine⟨[5,6,7,8,9,10,0,3,4],by decide,?_⟩;simp only[Dl,nth];exact⟨b3,OA,on,oc,os,FA,fn,fc,QA,qc,dg,rfl,rfl,hos,hb3,by omega⟩
 intro b3 hb3 hf3;try refine DU (AO @AP.{0} (AO true_or (AO or_true (AO and_true eq_self)))) ?_
 refine Ee (λz:Nat=>ε υ (z:Int)) (λz=>z<18446744073709551616) (λw hw=>Ef (PD (hw.pick (ix:=[5,6]) AJ)) AL ht.ok) ?_;intro dg hdg;refine DU (AO @AP.{0} (AO true_or (AO or_true (AO and_true eq_self)))) ?_;refine⟨[5,6,7,8,9,10,0,3,4],by decide,?_⟩;simp only[Dl,nth];exact⟨b3,OA,on,oc,os,FA,fn,fc,QA,qc,dg,rfl,rfl,hos,hb3,by omega⟩):p:=h
theorem AUk{p:Prop}(h:p:=by
 simp only[intOf];omega):p:=h
theorem AUm{p:Prop}(h:p:=by
 refine Cz ?_;try simp only[Di,Dq]
 refine DD ?_;all_goals (repeat' refine AO ?_ ?_)
 all_goals exact Ev):p:=h
theorem AUo{p:Prop}(h:p:=by
 refine DZ ?_;refine C8 (Eg λw hw=>?_);exact Qm hw (by first|exact KG _|exact LM _ _ _|exact NQ ha _|exact QC ha)):p:=h
theorem AUr{p:Prop}(h:p:=by
 intro A2 c2' hl2 hr2;refine DU (AO @Ao @AR.{0}) ?_;intro b53 AHp AHq;refine D6 2 Y9 rfl (λw hw=>D_ (size:=2) (DN (k:=0) rfl) rfl hw) rfl AL AL ?_;intro A4 c4' hl4 hr4;refine DD ?_;refine⟨[3,4,0,2],by decide,?_⟩;simp only[Dl,nth];exact⟨A2,A4,c2',c4',rfl⟩):p:=h
theorem AUt{p:Prop}(h:p:=by
 repeat' ((first|refine EF (λhg=>?_) (λhg=>?_)|refine EG (λhg=>?_) (λhg=>?_))<;>((try replace hg:=Fe hg);(try refine DU (AO hg (AO @DT @zn)) ?_);(try exact trivial)))
 all_goals (repeat' refine AO ?_ ?_)
 all_goals exact Ev):p:=h
theorem AUx{p:Prop}(h:p:=by
 refine Cy rfl (DD ?_);refine DX (h.cell.ld1 (m:=1) (i:=0) AF rfl) ?_;refine DD ?_;refine DX (hrow.ld1 (m:=1) (i:=i*4+0) AF (Gi FW he AL)) ?_;refine DD ?_;by_cases e1:e.ob=ob
 ·refine DU e1 ?_;refine DX (h.cell.ld1 (m:=1) (i:=0) AF rfl) ?_;refine DD ?_;refine DX (hrow.ld1 (m:=1) (i:=i*4+1) AF (Gi FW he AL)) ?_;refine DD ?_;unfold fK;simp[e1]
 ·refine DU e1 ?_;unfold fK;simp[e1]):p:=h
theorem AUy{p:Prop}(h:p:=by
 intro w hw;rw[hD];exact⟨ν,0,0,rfl,World.ownsRow_nil _ _ _ _,hw.below⟩):p:=h
theorem AU1{p:Prop}(h:p:=by
 refine EI 0 Ng rfl rfl (λw hw=>((hw.La 3 rfl).drop (k:=q) AL).reads) (by rw[Ac,LK];exact LJ _) AL AL ?_;intro A3 c3 hl3 hr3;refine DU (AO @Ao (AO @AR.{0} hn2)) ?_;refine⟨[0,1,2,3,4],by decide,?_⟩;simp only[Dl,nth];refine k0 _ _ (C8 (EP λw hw=>?_));rw[LK]at hw;exact⟨⟨A3,c3⟩,rfl,ok1,hw⟩):p:=h
theorem AU2{p:Prop}(h:p:=by
 rename_i ka ia ha;cases hl;cases hi with
 | none =>
  simp only[Bn]at U4;subst U4;simp[Instr.sliceBounds,ha,run_sliceBound,h0,h1]
 | some b =>
  simp only at U4;split at U4
  ·rename_i kb ib hb;cases U4;have h4:(0:Int)<=hh:=by omega
   simp[Instr.sliceBounds,ha,hb,run_sliceBound,h0,h1,h2,h4,e1]
  ·cases U4):p:=h
theorem AU0{p:Prop}(h:p:=by
 refine DU @Af ?_;omega):p:=h
theorem AU3{p:Prop}(h:p:=by
 rw[PX _ AL]at hf;refine Db ?_;refine C8 (EP λw hw=>?_);exact⟨by unfold Ho;rw[ATt q1,ATt q2,ATt q3,ATt q4,ATv AL,hf,hx8],hw.below⟩):p:=h
theorem AU8{p:Prop}(h:p:=by
 intro A3 c3 hl3 hr3;refine DU (AO @Ao @AR.{0}) ?_;refine D6 0 Vm rfl (λw hw=>D_ (size:=5) (DN (k:=1) rfl) rfl hw) rfl AL AL ?_;intro A4 c4 hl4 hr4;refine DD ?_;refine⟨[3,0],by decide,?_⟩;simp only[Dl,nth];exact⟨A4,c4,by rw[Ku]⟩):p:=h
theorem AU9{p:Prop}(h:p:=by
 intro A1 c1 hl1 hr1;refine DD ?_;refine D6 0 GL rfl (λw hw=>D_ (size:=1) (.tail _ (.head _)) rfl hw) rfl AL AL ?_;intro A2 c2 hl2 hr2;refine DD ?_;refine⟨[0,2,3,4],by decide,?_⟩;simp only[Dl,nth];refine⟨A2,c2,?_⟩;exact Yc @XX):p:=h
theorem AVA{p:Prop}(h:p:=by
 refine Cw λK k1=>DZ ?_;refine NC (λhc=>?_) λhc=>?_
 ·refine DZ ?_;refine C8 (Eg λw hw=>?_);exact Qm hw AJ
 have ALc:=AUD hc;refine Cz (k1 _ _ (Mo @AAN ?_));refine C8 (Eg λw hw=>?_);exact Qm hw (by first|exact KG _|exact NQ ha _)):p:=h
theorem AVC{p:Prop}(h:p:=by
 rw[h.lim];exact⟨⟨by show (0:Int)<=(c.qb:Int);omega,by show (c.qb:Int)<=_;omega⟩,⟨by show (0:Int)<=(c.qo:Int);omega,by show (c.qo:Int)<=_;omega⟩,⟨by show (0:Int)<=(c.qr:Int);omega,by show (c.qr:Int)<=_;omega⟩⟩):p:=h
theorem AVD{p:Prop}(h:p:=by
 intro A c hl hr;refine DD ?_;refine D6 0 Nh rfl (λw hw=>D_ (size:=2) (.tail _ (.head _)) rfl hw) rfl AL AL ?_;intro A1 k1 hl hr;refine DD ?_;refine⟨[2,3,4,0],by decide,?_⟩;simp only[Dl,nth];refine⟨A1,k1,?_⟩;exact dP):p:=h
theorem AVE{p:Prop}(h:p:=by
 exact⟨ν,0,0,by rw[hF],by rw[hF];exact World.ownsRow_nil _ _ _ _,hw.below⟩):p:=h
theorem AVF{p:Prop}(h:p:=by
 repeat' ((first|refine EF (λhg=>?_) (λhg=>?_)|refine EG (λhg=>?_) (λhg=>?_))<;>((try replace hg:=Fe hg);(try refine DU hg ?_);(try exact trivial)))
 all_goals (repeat' refine AO ?_ ?_)
 all_goals exact ADM @Lr.eq_1):p:=h
theorem AVG{p:Prop}(h:p:=by
 refine⟨0,ν,0,0,?_⟩;have zg:=Bd.mk g1;refine DD ?_;exact⟨rfl,Ar _⟩):p:=h
theorem AVI{p:Prop}(h:p:=by
 refine Cy rfl ?_;replace zg:=Bd.mk g6;refine DU d0 ?_;refine DX (Dx (m:=1) (i:=0*4+2) (v:=ε ζ e.mo) (DN (k:=0) rfl) rfl (Gi FW he AL)) ?_;refine DU (AO d3 (AO d2 dm)) ?_;exact⟨_,rfl,λh=>by cases h⟩):p:=h
theorem AWU{p:Prop}(h:p:=by
 rintro(h|h|h)
 ·exact .inr (.inl h)
 ·exact .inl h
 ·exact .inr (.inr h)):p:=h
theorem AVL{p:Prop}(h:p:=by
 intro _ _;obtain⟨al,hal⟩:∃al,Fy x.sv q=al:=⟨_,rfl⟩;rw[hal];cases al with
 | false =>
  refine DD ?_;exact⟨_,rfl,λh=>by cases h⟩
 | true =>
  refine DD ?_;exact⟨_,rfl,λh=>⟨hal,AUD h⟩⟩):p:=h
theorem AVR{p:Prop}(h:p:=by
 exact⟨rfl,hw.below⟩):p:=h
theorem AVM{p:Prop}(h:p:=by
 refine Cy rfl ?_;replace zg:=Bd.mk (AO g3 (AO g4 (AO g5 (AO g6 (AO g7 g8)))));refine DU (AO qJ (AO hdk (AO h1' h2'))) ?_;rw[hof];all_goals (repeat' refine AO ?_ ?_)
 all_goals exact ADM @AS1):p:=h
theorem AVP{p:Prop}(h:p:=by
 simp only[UR,vdo];cases nth os i with
 |none=>rfl
 | some o =>
  simp only;cases hg:o.guard with
  |none=>rfl
  | some jb =>
   obtain⟨j,b⟩:=jb;simp only;rw[Jb];unfold qj;cases bu os F j b<;>rfl):p:=h
theorem AVT{p:Prop}(h:p:=by
 refine⟨?_,?_,by dsimp only;omega,by dsimp only;omega⟩
 ·unfold Fd.err;dsimp only;repeat' split
  all_goals omega
 ·unfold Fd.wid;dsimp only;repeat' split
  all_goals omega):p:=h
theorem AWb{p:Prop}(h:p:=by
 exact⟨rfl,rfl,rfl,rfl⟩):p:=h
theorem AVW{p:Prop}(h:p:=by
 refine DX (Dx (v:=ε ζ (y:Int)) (.head _) rfl (Sy hy)) ?_;refine DU (AO hzy a1') ?_;all_goals (repeat' refine AO ?_ ?_)
 all_goals exact Ev):p:=h
theorem AVb{p:Prop}(h:p:=by
 refine C_ (DR ?_);refine DZ ?_;refine C8 (Eg λw hw=>?_);exact⟨⟨15,⟨b,PA,pn,pc,ps⟩,x,0⟩,rfl,⟨.nil x,Ar _,rfl,rfl,hg⟩,hw⟩):p:=h
theorem AVd{p:Prop}(h:p:=by
 intro A2 c2 hl2 hr2;refine DD ?_;refine⟨[0,3],by decide,?_⟩;simp only[Dl,nth];refine⟨A2,n1+1,c2,?_⟩;rw[Iz];refine DD ?_;omega):p:=h
theorem AVe{p:Prop}(h:p:=by
 refine DU h1' ?_;all_goals (repeat' refine AO ?_ ?_)
 all_goals exact Ev):p:=h
theorem AVg{p:Prop}(h:p:=by
 exact⟨rfl,rfl,rfl,rfl,rfl,rfl,rfl⟩):p:=h
theorem AVi{p:Prop}(h:p:=by
 refine⟨hy.2,?_,?_⟩
 ·rintro rfl;have:=(Bv.1 h0.box).1;have:=hy.1;omega
 ·rintro rfl;have:=(Bv.1 h0.AAG).1;have:=hy.1;omega):p:=h
theorem AVj{p:Prop}(h:p:=by
 (try dsimp only);omega):p:=h
theorem AVk{p:Prop}(h:p:=by
 intro s3 i3 v3 f3 hD3 ka3 kb3 kc3 kd3 ke3;refine DR ?_;refine⟨_,rfl,λw hw=>?_⟩;exact hp.done hw hD3 AL AL AL AL AL):p:=h
theorem AVm{p:Prop}(h:p:=by
 rename_i h0;exact absurd h h0):p:=h
theorem AVn{p:Prop}(h:p:=by
 intro s2 i2 v2 f2 hD2 vV vW vX vY vZ;refine DD ?_;refine⟨s2,i2,v2,f2,?_⟩;refine DD ?_;exact⟨hD2,by omega⟩):p:=h
theorem AVo{p:Prop}(h:p:=by
 refine DU @Af ?_;exact⟨by omega,by rw[Bt];exact hll⟩):p:=h
theorem AVp{p:Prop}(h:p:=by
 refine C_ (DR ?_);refine DZ ?_;refine C8 (Eg λw hw=>?_);exact⟨(ο,x),rfl,.no hstep rfl,hw.tail⟩):p:=h
theorem AVr{p:Prop}(h:p:=by
 obtain⟨rfl,rfl⟩:=Bq h;have h2:=hc.2;unfold Ext.end_ at h2;unfold Ext.prop at *;dsimp only;omega):p:=h
theorem AVs{p:Prop}(h:p:=by
 cases A with
 |none=>simp[DW.foot,Value.ownBlock]at hb
 |some a=>simpa [DW.foot,Value.ownBlock]using hb):p:=h
theorem AVt{p:Prop}(h:p:=by
 by_cases hke:k=i
 ·subst hke;omega
 ·have:=IY hv (show i<k by omega) hk;unfold Ext.end_ at this;omega):p:=h
theorem AVu{p:Prop}(h:p:=by
 rw[hb']at h;injection h with h;subst h;exact absurd (hst.own s (by simp[hs]) _ hbs).2 (ASm _)):p:=h
theorem AVv{p:Prop}(h:p:=by
 refine C8 (FF ?_);intro w hw;exact⟨⟨_,h⟩,rfl,hr.d AJ,St.unb (hw.pick (ix:=[0]) AJ)⟩):p:=h
theorem AVw{p:Prop}(h:p:=by
 have:=Sd.Ta (hw.H6 (by simp[DW.foot,Iw]));dsimp only;rw[Kr];exact this.mono λy hy=>.inr hy):p:=h
theorem AIV{p:Prop}(h:p:=by
 rw[ATt ha,ATt (λhn=>ha hn.2.symm)]):p:=h
theorem AWh{p:Prop}(h:p:=by
 exact⟨rfl,rfl⟩):p:=h
theorem AVz{p:Prop}(h:p:=by
 exact h.elim):p:=h
theorem AV0{p:Prop}(h:p:=by
 refine Cz ?_;try simp only[Di,Dq]
 refine DD ?_;all_goals (first|(simp;done)|(simp;omega))):p:=h
theorem AV3{p:Prop}(h:p:=by
 rename_i h5;unfold j6 at h5;split at h5
 ·exact absurd ⟨by omega,.inl AJ⟩ h5
 ·omega):p:=h
theorem AV4{p:Prop}(h:p:=by
 refine DU d ?_;refine Db ?_;refine C8 (EP λw hw=>?_);exact⟨by rw[hf],hw.below⟩):p:=h
theorem AV5{p:Prop}(h:p:=by
 refine Cy rfl ?_;have zg:=Bd.mk g3;exact Yc (AO n1' (AO n2' (AO n3' (AO g1' g2'))))):p:=h
theorem AV8{p:Prop}(h:p:=by
 have:=hlo k hki;unfold Ext.end_ at this;omega):p:=h
theorem AV9{p:Prop}(h:p:=by
 intro y hy;rcases AV.1 hy with hy|hy
 ·exact hu y hy
 ·rw[BH.1 hy];exact hu v (AU hv)):p:=h
theorem AIW{p:Prop}(h:p:=by
 rw[ATv ha,ATv ⟨rfl,ha.symm⟩]):p:=h
theorem AWB{p:Prop}(h:p:=by
 refine⟨0,ν,0,0,?_⟩;have zg:=Bd.mk g1;refine DD ?_;exact⟨rfl,by omega⟩):p:=h
theorem AWC{p:Prop}(h:p:=by
 exact s.keep (h.holds s (by simp[hs1])) λc hc=>hp c (VZ s (by simp[hs1]) c hc)):p:=h
theorem AWE{p:Prop}(h:p:=by
 dsimp only;cases hg:gs[i.arg]? with
 |none=>simp
 |some g=>simpa using h g (AU hg)):p:=h
theorem AWF{p:Prop}(h:p:=by
 refine Cy rfl ?_;have zg:=Bd.mk g2;refine DU (AO h1 (AO h2 h3)) ?_;try simp):p:=h
theorem AWG{p:Prop}(h:p:=by
 rename_i kb ib hb;cases U4;simp[Instr.sliceBounds,hb,run_sliceBound,h1,h2]):p:=h
theorem AWH{p:Prop}(h:p:=by
 refine⟨[1,2,0,3],by decide,?_⟩;simp only[Dl,nth];exact⟨b8,rfl,rfl⟩):p:=h
theorem AWJ{p:Prop}(h:p:=by
 refine DD ?_;exact⟨by rw[hPQ];simp,λq hq=>hQ2 q (by simpa using hq)⟩):p:=h
theorem AWM{p:Prop}(h:p:=by
 rw[h0,ASN]at h1;have:=(Ab.1 hv).1;omega):p:=h
theorem AWN{p:Prop}(h:p:=by
 refine DU @Af ?_;exact⟨by omega,hf⟩):p:=h
theorem AIZ{p:Prop}(h:p:=by
 exact⟨λh=>⟨h.1.symm,h.2.symm⟩,λh=>⟨h.1.symm,h.2.symm⟩⟩):p:=h
theorem AWS{p:Prop}(h:p:=by
 refine⟨0,?_⟩;have zg:=Bd.mk g8;refine DD ?_;exact⟨Ar _,rfl⟩):p:=h
theorem AWT{p:Prop}(h:p:=by
 exact⟨_,_,_,_,_,_,rfl,rfl,by rw[q1,q2,q3,I1],by omega,by omega⟩):p:=h
theorem AWW{p:Prop}(h:p:=by
 cases h;simp[eqGuard_at_string,binOp,Op.stringOp,beq_toListBytes]):p:=h
theorem AWY{p:Prop}(h:p:=by
 exact⟨_,_,_,_,_,_,rfl,rfl,by rw[q1,q2,q3],by omega,by omega⟩):p:=h
theorem AIa{p:Prop}(h:p:=by
 exact h.same (HSm.refl x) (.inl rfl)):p:=h
theorem AWa{p:Prop}(h:p:=by
 exact⟨τ,rfl,λe=>by cases e⟩):p:=h
theorem AWc{p:Prop}(h:p:=by
 refine DU dA ?_;exact⟨_,rfl,λe hh=>by have:=AUD e;omega⟩):p:=h
theorem AWd{p:Prop}(h:p:=by
 rw[hb']at h;injection h with h;subst h;exact .inl hw.ES.size):p:=h
theorem AWe{p:Prop}(h:p:=by
 exact⟨.inl hw.ES.size,by simp⟩):p:=h
theorem AWf{p:Prop}(h:p:=by
 exact .inr λh0=>AUD hc ⟨h,h0⟩):p:=h
theorem AWm{p:Prop}(h:p:=by
 exact⟨rfl,by decide⟩):p:=h
theorem AWq{p:Prop}(h:p:=by
 refine DU ek ?_;refine DX (SE 0 (i:=P'.length*4) (vs:=[ε ζ e.ob,ε ζ e.ho,ε ζ e.mo,ε ζ e.co]) rfl (by rw[l1];show _+4<=_;omega) AF rfl) ?_;refine DU (AO w1 ek) ?_;refine DX (SE 0 (i:=k*4) (vs:=[ε ζ p.ob,ε ζ p.ho,ε ζ p.mo,ε ζ p.co]) rfl (by rw[l2];show _+4<=_;omega) AF rfl) ?_;refine DU (AO w2 ek) ?_;refine⟨[0,1],by decide,?_⟩;simp only[Dl,nth];refine k1 _ _ (Cy rfl (DU ek ?_));refine⟨⟨P'.length,P',p::Q,?_⟩,?_⟩
 ·exact AWJ
 ·exact AUk):p:=h
theorem AWr{p:Prop}(h:p:=by
 refine Cy rfl ?_;have zg:=Bd.mk g1;refine DD ?_;exact AUi):p:=h
theorem AWs{p:Prop}(h:p:=by
 refine Cy rfl (DD ?_);exact AUi):p:=h
theorem AWt{p:Prop}(h:p:=by
 rw[BN]at hap ⊢;rw[Ak]at hap ⊢;refine⟨hap.1,⟨λr hr c hc=>hap.2.1.1 r hr c hc,hap.2.1.2⟩,λr hr s hs=>?_⟩;rcases AP.1 hs with rfl|hs
 ·exact hap.2.2 r hr (.blk b t cs) AUq
 ·exact hap.2.2 r hr s (by simp[hs])):p:=h
theorem AWu{p:Prop}(h:p:=by
 refine D6 1 YY rfl (λw hw=>D_ (size:=4) (.head _) rfl hw) rfl AL AL ?_;intro A2 c2 hl2 hr2;refine DD (k1 _ _ ?_);refine Cy rfl (DD ?_);refine⟨⟨i+1,A2,n1+1,c2,?_⟩,?_⟩
 ·rw[hof,Iz];exact AU0
 ·exact AUk):p:=h
theorem AWv{p:Prop}(h:p:=by
 refine Cz (k1 _ _ (Cy rfl (DD ?_)));refine⟨⟨i+1,A1,n1,c1,?_⟩,?_⟩
 ·rw[hof];exact AU0
 ·exact AUk):p:=h
theorem AWw{p:Prop}(h:p:=by
 intro A5 c5' hl5 iQ;refine DU (AO @Ao @AR.{0}) ?_;refine EI 1 zU rfl rfl (λw hw=>(hE.atM hw ha).reads) (XF _) AL AL ?_;exact AUr):p:=h
theorem AWx{p:Prop}(h:p:=by
 dsimp only;omega):p:=h
theorem AWz{p:Prop}(h:p:=by
 exact⟨_,rfl,λh=>by cases h⟩):p:=h
theorem AW4{p:Prop}(h:p:=by
 refine Db ?_;refine C8 (FF ?_);exact AUy):p:=h
theorem AW5{p:Prop}(h:p:=by
 refine DZ ?_;refine C8 (Ox ?_);exact AUy):p:=h
theorem AW6{p:Prop}(h:p:=by
 exact r.keep (h.holds r AVQ) (λc hc=>hp c (λe=>VZ r AVQ (e▸hc)))):p:=h
theorem AW7{p:Prop}(h:p:=by
 obtain rfl:c=b:=by simpa [DW.foot]using hc
 exact⟨.inr AUq,hb⟩):p:=h
theorem AW8{p:Prop}(h:p:=by
 exact⟨(h.own r AVQ c hc).1,BS (h.own r AVQ c hc).2 hp.size⟩):p:=h
theorem AW9{p:Prop}(h:p:=by
 intro s hs b' hb' hbs;exact(Ak.1 h.apart).1 s hs b' AVa hbs):p:=h
theorem AW_{p:Prop}(h:p:=by
 rw[bT];simp only[Ag,BI];exact AVj):p:=h
theorem AXA{p:Prop}(h:p:=by
 refine⟨⟨i+1,?_⟩,?_⟩
 ·rw[hof];exact AU0
 ·exact AUk):p:=h
theorem AXB{p:Prop}(h:p:=by
 refine DD ?_;exact AUi):p:=h
theorem AXC{p:Prop}(h:p:=by
 exact AUk):p:=h
theorem AXD{p:Prop}(h:p:=by
 exact AXC):p:=h
theorem AXE{p:Prop}(h:p:=by
 exact AXD):p:=h
theorem AXF{p:Prop}(h:p:=by
 exact AXE):p:=h
theorem AXG{p:Prop}(h:p:=by
 exact AXF):p:=h
theorem AXH{p:Prop}(h:p:=by
 exact AXG):p:=h
theorem AXI{p:Prop}(h:p:=by
 exact AXH):p:=h
theorem AXJ{p:Prop}(h:p:=by
 exact AXI):p:=h
theorem AXK{p:Prop}(h:p:=by
 exact AXJ):p:=h
theorem AXL{p:Prop}(h:p:=by
 exact AXK):p:=h
theorem AXM{p:Prop}(h:p:=by
 exact AXL):p:=h
theorem AXN{p:Prop}(h:p:=by
 exact AXM):p:=h
theorem AXO{p:Prop}(h:p:=by
 exact AXN):p:=h
theorem AXP{p:Prop}(h:p:=by
 exact AXO):p:=h
theorem AXQ{p:Prop}(h:p:=by
 exact AXP):p:=h
theorem AXR{p:Prop}(h:p:=by
 exact AXQ):p:=h
theorem AXS{p:Prop}(h:p:=by
 exact AXR):p:=h
theorem AXT{p:Prop}(h:p:=by
 exact AXS):p:=h
theorem AXU{p:Prop}(h:p:=by
 exact AXT):p:=h
theorem AXV{p:Prop}(h:p:=by
 exact AXU):p:=h
theorem AXW{p:Prop}(h:p:=by
 exact AXV):p:=h
theorem AXX{p:Prop}(h:p:=by
 exact AXW):p:=h
theorem AXY{p:Prop}(h:p:=by
 exact AXX):p:=h
theorem AXZ{p:Prop}(h:p:=by
 exact AXY):p:=h
theorem AXa{p:Prop}(h:p:=by
 exact AXZ):p:=h
theorem AXb{p:Prop}(h:p:=by
 exact AXa):p:=h
theorem AXc{p:Prop}(h:p:=by
 exact AXb):p:=h
theorem AXd{p:Prop}(h:p:=by
 exact AXc):p:=h
theorem AXe{p:Prop}(h:p:=by
 exact AXd):p:=h
theorem AXf{p:Prop}(h:p:=by
 exact AXe):p:=h
theorem AXg{p:Prop}(h:p:=by
 exact AXf):p:=h
theorem AXh{p:Prop}(h:p:=by
 exact AXg):p:=h
theorem AXi{p:Prop}(h:p:=by
 exact AXh):p:=h
theorem AXj{p:Prop}(h:p:=by
 exact AXi):p:=h
theorem AXk{p:Prop}(h:p:=by
 exact AXj):p:=h
theorem AXl{p:Prop}(h:p:=by
 exact AXk):p:=h
theorem AXm{p:Prop}(h:p:=by
 exact AXl):p:=h
theorem AXn{p:Prop}(h:p:=by
 exact AXm):p:=h
theorem AXo{p:Prop}(h:p:=by
 exact AXn):p:=h
theorem Ra(a:Addr)n:(a.add n).block=a.block:=by unfold Addr.add;split<;>rfl
theorem kF(a:Addr)i j:(a.add i).add j=a.add (i+j):=by
 unfold Addr.add;by_cases hi:i=0<;>by_cases hj:j=0<;>simp[hi,hj,Cn]
def Reads(w:World)(B size:Nat)(A:Option Addr)(n:Nat)(xs:List Value):Prop :=
 xs.length=n*size/\(0<n→∃ad,A=σ ad/\ad.block<B∧∀j u,xs[j]?=σ u->w.cell? (ad.add j)=σ u)
section
variable{w w':World}{B B' size n:Nat}{A:Option Addr}{xs:List Value}
theorem Reads.at_{k}(h:Reads w B 1 A n xs)(hk:k<n):∃ad u,A=σ ad/\ad.block<B/\xs[k]?=σ u/\w.cell? (ad.add k)=σ u:=by
 obtain⟨ad,e,hb,hc⟩:=h.2 AL;have hl:k<xs.length:=by have:=h.1;omega
 exact⟨ad,xs[k],e,hb,AQ hl,hc k _ (AQ hl)⟩
theorem Reads.keep(h:Reads w B size A n xs)(hk:∀p:Addr,p.block<B->w'.cell? p=w.cell? p):Reads w' B size A n xs :=
 ⟨h.1,λhn=>by
  obtain⟨ad,e,hb,hc⟩:=h.2 hn;exact⟨ad,e,hb,λj u hu=>(hk _ (by rw[Ra];exact hb)).trans (hc j u hu)⟩⟩
theorem Reads.more(h:Reads w B size A n xs)(hB:B<=B'):Reads w B' size A n xs :=
 ⟨h.1,λhn=>by
  obtain⟨ad,e,hb,hc⟩:=h.2 hn;exact⟨ad,e,by omega,hc⟩⟩
theorem Reads.below(h:Reads w B size A n xs)(hb:Below B w w'):Reads w' B size A n xs:=h.keep λ_ hp=>hb.cell hp
theorem Reads.drew(h:Reads w B size A n xs):Reads w.drew B size A n xs:=h
theorem Reads.alloc(h:Reads w B size A n xs)(hB:B<=w.heap.size)o:Reads (w.alloc o) B size A n xs:=h.keep λp hp=>World.cell?_alloc_lt w o p AL
theorem Reads.grown(h:Reads w B size A n xs){row}(hg:w.grownBy w' row)(hB:B<=w.heap.size)(hr:∀g,row=σ g->B<=g):Reads w' B size A n xs :=
 h.keep λp hp=>World.cell?_of_block (hg.block p.block AL (λe=>by have:=hr _ e.symm;omega))
theorem Reads.cut(h:Reads w B size A n xs){k cap}(hk:k<=n)(hc:n<=cap):
  Reads w B size (if cap=k then A else A.map (·.add (k*size))) (n-k) (xs.drop (k*size)):=by
 refine⟨by rw[CR,h.1,Nat.sub_mul],λhn=>?_⟩;obtain⟨ad,rfl,hb,hcell⟩:=h.2 AL;rw[ATt AL];refine⟨ad.add (k*size),rfl,by rw[Ra];exact hb,λj u hu=>?_⟩;rw[kF];exact hcell _ u (by rw[<-hu,ASG])
theorem Reads.JA{base e c}(h:w.ownsRow base e size (ξ A n c) n xs):Reads w w.heap.size size A n xs:=by
 refine⟨h.1,λhn=>?_⟩;obtain⟨g,cap,hv,_,hlt⟩:=h.form hn;have hA:A=σ ⟨g,0,ν⟩:=by injection hv
 subst hA;exact⟨_,rfl,hlt,h.cells (g:=g) rfl⟩
end
section
variable{P:Program}(w:World)
theorem Rb base t ty e i size(ht:P.underlying t=σ (.slice e))(hi:P.info? e=σ i)
  v n xs (hown:w.ownsRow base e size v n xs) c:(Builtin.append_ #[t,t] ty #[v,ξ ν 0 c]).run P w=.ok v w:=by
 rcases hown.2 with⟨rfl,rfl⟩|⟨g,cap,cur,rfl,_,_,hnc,_⟩
 ·simp[Builtin.append_,run_underlying ht,sizeOf,typeInfo,hi,Builtin.lenOf,Builtin.firstCells]
 ·simp[Builtin.append_,run_underlying ht,sizeOf,typeInfo,hi,Builtin.lenOf,Builtin.firstCells,hnc,storeCells]
theorem PG base t ty e i z size bytes(ht:P.underlying t=σ (.slice e))(hi:P.info? e=σ i)(hz:i.zero=σ z)
  (hsize:i.size=size) (hby:i.bytes=bytes) (hzs:z.cells.size=size) (hsz:0<size)
  v n xs (hown:w.ownsRow base e size v n xs)
  B A m c news (hr:Reads w B size A m news) (h1:∀u∈news,u.oneCell'=τ)
  (h63:n+m<=maxLen) (hbytes:(n+m)*bytes<=140737488355328) (hbase:base<=w.heap.size):
  ∃v' w',(Builtin.append_ #[t,t] ty #[v,ξ A m c]).run P w=.ok v' w'∧w'.ownsRow base e size v' (n+m) (xs++news)/\w.grownBy w' v.ownBlock ∧
   (v'.ownBlock=v.ownBlock\/v'.ownBlock=σ w.heap.size):=by
 rcases A with _|ad
 ·have hm:m=0:=by
   rcases Cm m with h0|h0
   ·exact h0
   ·obtain⟨ad,h,_⟩:=hr.2 h0;cases h
  subst hm;have hn:news=[]:=Bc (by simpa using hr.1);subst hn;exact⟨v,w,Rb w base t ty e i size ht hi v n xs hown c,by simpa using hown,World.grownBy.refl w _,.inl rfl⟩
 ·have hcells:∀j u,news[j]?=σ u->w.cell? (ad.add j)=σ u:=by
   intro j u hu;rcases Cm m with h0|h0
   ·subst h0;have hn:news=[]:=Bc (by simpa using hr.1);subst hn;simp at hu
   ·obtain⟨ad',h,_,hc⟩:=hr.2 h0;injection h with h;subst h;exact hc j u hu
  obtain⟨v',w',hrun,h2,h3,_,h5⟩:=run_append_own_at (P:=P) w base t ty e i z size bytes ht hi hz hsize hby hzs hsz v n xs hown ad m c news hr.1 hcells h1 h63 hbytes hbase;exact⟨v',w',hrun,h2,h3,h5⟩
theorem Xt{o:Oper}{a K Q}s x t
  (ho:o.op=.call { callee:=.builtin .append,args := #[s,x],argTypes := #[t,t] })
  base e i z size bytes (ht:P.underlying t=σ (.slice e)) (hi:P.info? e=σ i) (hz:i.zero=σ z)
  (hsize:i.size=size) (hby:i.bytes=bytes) (hzs:z.cells.size=size) (hsz:0<size)
  v n xs (hs:a.eval s=v) (hown:w.ownsRow base e size v n xs)
  B A m c news (hx:a.eval x=ξ A m c) (hr:Reads w B size A m news) (h1:∀u∈news,u.oneCell'=τ)
  (h63:n+m<=maxLen) (hbytes:(n+m)*bytes<=140737488355328) (hbase:base<=w.heap.size)
  (h:∀v' w',w'.ownsRow base e size v' (n+m) (xs++news)->w.grownBy w' v.ownBlock->(v'.ownBlock=v.ownBlock\/v'.ownBlock=σ w.heap.size)->K (a.put o.dst v') w'):o.wp P a w K Q:=by
 obtain⟨v',w',hrun,h2,h3,h4⟩:=PG (P:=P) w base t o.type e i z size bytes ht hi hz hsize hby hzs hsz v n xs hown B A m c news hr h1 h63 hbytes hbase;unfold Oper.wp execOp;simp only[ho,resolve,invoke,builtin,Sem.run_bind,Sem.run_pure,Result.andThen_ok,AST,BJ,ASW,hs,hx,hrun];exact h v' w' h2 h3 h4
theorem Js{ops rest o a Q}(hgd:o.guard=ν)s x t
  (ho:o.op=.call { callee:=.builtin .append,args := #[s,x],argTypes := #[t,t] })
  base e i z size bytes (ht:P.underlying t=σ (.slice e)) (hi:P.info? e=σ i) (hz:i.zero=σ z)
  (hsize:i.size=size) (hby:i.bytes=bytes) (hzs:z.cells.size=size) (hsz:0<size)
  v n xs (hs:a.eval s=v) (hown:w.ownsRow base e size v n xs)
  B A m c news (hx:a.eval x=ξ A m c) (hr:Reads w B size A m news) (h1:∀u∈news,u.oneCell'=τ)
  (h63:n+m<=maxLen) (hbytes:(n+m)*bytes<=140737488355328) (hbase:base<=w.heap.size)
  (h:∀v' w',w'.ownsRow base e size v' (n+m) (xs++news)->w.grownBy w' v.ownBlock->(v'.ownBlock=v.ownBlock\/v'.ownBlock=σ w.heap.size)->wpList P ops Q rest (a.put o.dst v') w'):wpList P ops Q (o::rest) a w :=
 wpList_plain hgd λ_ hK=>Xt w s x t ho base e i z size bytes ht hi hz hsize hby hzs hsz v n xs hs hown B A m c news hx hr h1 h63 hbytes hbase λv' w' h2 h3 h4=>hK _ _ (h v' w' h2 h3 h4)
end
theorem TN(w:World)cs t size m(h:cs.size=m*size)B(hB:w.heap.size<B):Reads (w.alloc (.cells cs t)) B size (σ ⟨w.heap.size,0,ν⟩) m cs.toList :=
 ⟨by simpa using h,λ_=>⟨_,rfl,hB,λj u hu=>by
  have e:(⟨w.heap.size,0,ν⟩:Addr).add j=⟨w.heap.size,j,ν⟩:=by unfold Addr.add;split<;>simp_all
  rw[e,cell_of_row _ _ _ cs t (0,0) (heap_alloc_new w _)];simpa using hu⟩⟩
theorem VY{a b}(h:a=b):Ending.returned (θ a)=κ (θ b):=by rw[h]
theorem vg{n W w1}(hb:Below n W w1):(∀b o,b<n->w1.cell? ⟨b,o,ν⟩=W.cell? ⟨b,o,ν⟩)/\(∀b o,b<n->w1.frozen? ⟨b,o,ν⟩=W.frozen? ⟨b,o,ν⟩) :=
 ⟨λb o h=>hb.cell (p:=⟨b,o,ν⟩) h,λb o h=>hb.frozen (p:=⟨b,o,ν⟩) h⟩
section
variable{H:Type}{enc:TypeId×Value->H}{P:Program}
theorem Xu{f}{s:ChangeSpec}{apart fresh handsOn again W W' args v ds gs before pa pv}
  (hW:DataW.Whole enc P f.params.toList s.vars apart W args.toList ds gs before)
  (hres:∀b sp hd,DataW.TrodAll enc P W' b sp hd f.resultTypes.toList (v.resultList f.resultTypes.size) (s.fn H (ds++gs)).results [])
  (hargs:∀sp:Nat->Bool,(∀p∈before,sp p.block=τ)->DataW.TrodAll enc P W' 0 sp τ f.params.toList args.toList (s.fn H (ds++gs)).args pa)
  (hvars:∀sp:Nat->Bool,(∀p∈before,sp p.block=τ)->DataW.TrodVars enc P W' sp s.vars (s.fn H (ds++gs)).vars pv)
  (hps:before=pa++pv) (hb:Below W.heap.size W W')
  (hok:∀(j:Nat) t r,f.resultTypes[j]?=σ t->(v.resultList f.resultTypes.size)[j]?=σ r->Value.okWide P W' .any 0 t r):
  s.post enc P f apart fresh handsOn again W args v W':=by
 have hlt:∀p∈before,p.block<W.heap.size:=λp hp=>hW.lt p hp;have hold:∀p∈before,(λb=>decide (b<W.heap.size)) p.block=τ:=λp hp=>by simpa using hlt p hp
 refine⟨ds,gs,before,[],pa,pv,hW,hres _ _ _,hargs _ hold,hvars _ hold,World.keptBut_mono (λp hp=>⟨hp,?_⟩) (hb.frame (· ∈ before)),λ_=>?_⟩
 ·rw[hps,AV]at hp;exact Or.inr hp
 ·obtain⟨_,_,_,_,_,hz,hn⟩:=hW;refine⟨hok,_,_,([]++pa)++pv,⟨[]++pa,pv,trodAll_append (hargs _ (λ_ _=>rfl)) (hres _ _ _),hvars _ (λ_ _=>rfl),rfl,?_,?_⟩,?_⟩
  ·intro b off hp;have hin:MemPlace.cell b off∈before:=by rw[hps];simpa using hp
   rw[hb.frozen (hlt _ hin)];exact hz b off hin
  ·intro ha;have:=hn ha;rw[hps]at this;simpa using this
  ·intro p hp _;rw[hps];simpa using hp
end
section
variable{P:Program}{ops:Array Oper}{Q:Exit->Act->World->Prop}{md:Region.Mode}{S:World->Prop}{fin:List Nat}
def LV(P:Program)(md:Region.Mode)(ops:Array Oper)(Q:Exit->Act->World->Prop)(S:World->Prop)(fin:List Nat):Nat->Array Bool->Act->World->Prop
 |0,listed,a,w=>Region.ready md ops listed=[]/\Q .normal a w
 | fuel+1,listed,a,w =>
  (Region.ready md ops listed=[]->Q .normal a w) ∧
  ∀i∈Region.ready md ops listed,wpOp P ops Q i (λa' w'=>(fin.contains i=ο->S w')/\LV P md ops Q S fin fuel (listed.setIfInBounds i τ) a' w') a w
theorem Kn:∀(fuel:Nat) (listed:Array Bool) (a:Act) (w:World),LV P md ops Q S fin fuel listed a w->wpAny P md ops Q fuel listed a w
 |0,_,_,_,h=>h
 |fuel+1,_,_,_,h=>⟨h.1,λi hi=>wpOp_mono (λa' w' h'=>Kn fuel _ a' w' h'.2) (h.2 i hi)⟩
def behind(md:Region.Mode)(ops:Array Oper)(i:Nat):List Nat :=
 (List.range ops.size).foldl (λC k=>if ((ops[k]?).any λo=>o.after.any λe=>Region.binds md e&&(e.on == i||C.contains e.on)) then k::C else C) []
def waited(md:Region.Mode)(ops:Array Oper)(fin:List Nat)(i:Nat)(listed:Array Bool):Bool :=
 let C:=behind md ops i
 (fin.all λj=>C.contains j)&&C.all λk => !(listed.getD k τ)&&match ops[k]? with
  |none=>ο
  |some o=>o.after.any λe=>Region.binds md e&&(e.on == i||C.contains e.on)
theorem PH{fin i listed}(h:waited md ops fin i listed=τ):(∀j,fin.contains j=τ->j∈behind md ops i) ∧
  (∀k∈behind md ops i,listed.getD k τ=ο)∧∀k∈behind md ops i,∀o,ops[k]?=σ o→∃e∈o.after,Region.binds md e=τ/\(e.on=i\/e.on∈behind md ops i):=by
 simp only[waited,Au,ASu]at h;refine⟨λj hj=>by simpa using h.1 j AWD,λk hk=>by simpa using(h.2 k hk).1,λk hk o ho=>?_⟩;have:=(h.2 k hk).2;rw[ho]at this;obtain⟨m,hm,hm2⟩:=Array.any_eq_true.1 this;have h2:=Bool.and_eq_true_iff.1 hm2;refine⟨o.after[m],Array.getElem_mem hm,h2.1,?_⟩;have h3:=h2.2;simp only[CU,ATu,List.contains_iff_mem]at h3;exact h3
theorem ZV{i oi v}(hi:ops[i]?=σ oi)(C:List Nat)(hn:∀j,fin.contains j=τ->j∈C)(hC:∀k∈C,∀o,ops[k]?=σ o→∃e∈o.after,Region.binds md e=τ/\(e.on=i\/e.on∈C))(hsel:∀(j:Nat) o cs b,ops[j]?=σ o->o.op ≠ .select cs b)
  (hQ:∀c a w,Q (.panic c) (a.put oi.dst v) w->Q (.panic c) a w):
  ∀fuel listed a w,
   (∀j oj,ops[j]?=σ oj->j≠i->listed.getD j τ=ο->(∀e∈oj.after,Region.binds md e=τ->e.on≠i)->oi.apart ops oj=τ) →
   (∀k∈C,listed.getD k τ=ο) →
   i∈Region.ready md ops listed->YieldsIf P ops S oi v a->S w →
   LV P md ops Q S fin fuel (listed.setIfInBounds i τ) (a.put oi.dst v) w->LV P md ops Q S fin (fuel+1) listed a w:=by
 intro fuel
 induction fuel with
 | zero =>
  intro listed a w _ _ hr hy hS H;refine⟨λh=>(by rw[h]at hr;cases hr),λj hj=>?_⟩;by_cases hji:j=i
  ·subst hji;exact hy.wpOp hi hS ⟨λ_=>hS,H⟩
  ·have:=ready_mono hj hji;rw[H.1]at this;cases this
 | succ fuel ih =>
  intro listed a w hfree AGo hr hy hS H;refine⟨λh=>(by rw[h]at hr;cases hr),λj hj=>?_⟩;by_cases hji:j=i
  ·subst hji;exact hy.wpOp hi hS ⟨λ_=>hS,H⟩
  ·have h1:=H.2 j (ready_mono hj hji);obtain⟨hjun,oj,hoj,hall⟩:=mem_ready.1 hj;have hnot:∀e∈oj.after,Region.binds md e=τ->e.on≠i:=λe he hb heq=>by
    have h1:=hall e he hb;have h0:=(mem_ready.1 hr).1;rw[heq]at h1;rcases ASq i listed.size with h'|h'
    ·simp[h']at h0 h1;rw[h0]at h1;cases h1
    ·simp[ATc h']at h1
   have hjC:j∉C:=λhjC=>by
    obtain⟨e,he,hb,heq⟩:=hC j hjC oj hoj;rcases heq with heq|heq
    ·exact hnot e he hb heq
    ·have h1:=hall e he hb;have h0:=AGo _ heq;rcases ASq e.on listed.size with h'|h'
     ·simp[h']at h0 h1;rw[h0]at h1;cases h1
     ·simp[ATc h']at h1
   have hfin:fin.contains j=ο:=by
    cases hc:fin.contains j with
    |false=>rfl
    |true=>exact absurd (hn j hc) hjC
   have AJa:∀k∈C,(listed.setIfInBounds j τ).getD k τ=ο:=λk hk=>by
    rw[getD_set_ne τ (show ¬j=k by rintro rfl;exact hjC hk)];exact AGo k hk
   have h2:=wpOp_putIf hoj (hfree j oj hoj hji hjun hnot) (λcs b=>hsel i oi cs b hi) (λcs b=>hsel j oj cs b hoj) hQ hy h1;have hfree':∀k ok,ops[k]?=σ ok->k≠i->(listed.setIfInBounds j τ).getD k τ=ο →
     (∀e∈ok.after,Region.binds md e=τ->e.on≠i)->oi.apart ops ok=τ:=λk ok hk hki hun hno=>by
    refine hfree k ok hk hki ?_ hno;by_cases hjk:j=k
    ·subst hjk;exact hjun
    ·rw[getD_set_ne τ hjk]at hun;exact hun
   refine wpOp_mono (λa' w' h3=>⟨h3.2.1,ih (listed.setIfInBounds j τ) a' w' hfree' AJa (ready_mono hr (AS5 hji)) h3.1 (h3.2.1 hfin) ?_⟩) h2;rw[Array.setIfInBounds_comm _ _ hji];exact h3.2.2
theorem PI{i oi v fuel listed a w}(hi:ops[i]?=σ oi)(hn:waited md ops fin i listed=τ)
  (hs:Region.noSelect ops=τ) (hf:Region.free md ops listed i=τ) (hr:(Region.ready md ops listed).contains i=τ)
  (hQ:∀c a w,Q (.panic c) (a.put oi.dst v) w->Q (.panic c) a w) (hy:YieldsIf P ops S oi v a) (hS:S w)
  (h:LV P md ops Q S fin fuel (listed.setIfInBounds i τ) (a.put oi.dst v) w):LV P md ops Q S fin (fuel+1) listed a w :=
 ZV hi (behind md ops i) (PH hn).1 (PH hn).2.2 (Region.noSelect_spec hs) hQ fuel listed a w (Region.free_spec hi hf) (PH hn).2.1 (by simpa using hr) hy hS h
def MO(md:Region.Mode)(ops:Array Oper)(fin:List Nat):List (Bool×Nat)->Array Bool->Bool
 |[],listed=>(Region.ready md ops listed).isEmpty
 |(τ,i)::r,listed=>waited md ops fin i listed&&Region.free md ops listed i&&(Region.ready md ops listed).contains i&&MO md ops fin r (listed.setIfInBounds i τ)
 |(ο,i)::r,listed=>(Region.ready md ops listed == [i])&&MO md ops fin r (listed.setIfInBounds i τ)
def LW(P:Program)(ops:Array Oper)(Q:Exit->Act->World->Prop)(S:World->Prop)(fin:List Nat):List (Bool×Nat)->Act->World->Prop
 |[],a,w=>Q .normal a w
 |(τ,i)::r,a,w=>S w∧∃o v,ops[i]?=σ o/\YieldsIf P ops S o v a/\LW P ops Q S fin r (a.put o.dst v) w
 |(ο,i)::r,a,w => ∃o,ops[i]?=σ o/\wpList P ops (Exit.then (λa' w'=>(fin.contains i=ο->S w')/\LW P ops Q S fin r a' w') Q) [o] a w
theorem NW{a w}(h:Q .normal a w):LW P ops Q S fin [] a w:=h
def nth{α:Type} : List α->Nat->Option α
 |[],_=>ν
 |x::_,0=>σ x
 |_::l,n+1=>nth l n
theorem GY{α:Type} : ∀(l:List α) (n:Nat),nth l n=l[n]?
 |[],n=>by simp[nth]
 |x::l,0=>by simp[nth]
 |x::l,n+1=>by simp[nth,GY l n]
theorem Jt{i o}(h:nth ops.toList i=σ o):ops[i]?=σ o:=by rw[GY]at h;simpa using h
theorem Ig{i r o v a w}(hS:S w)(ho:nth ops.toList i=σ o)(hw:Region.wanted o (yielded ops a.tmps)=τ)
  (hy:∀w,S w->(execOp a.eval o).run P w=.ok (.value v) w) (h:LW P ops Q S fin r (a.put o.dst v) w):LW P ops Q S fin ((τ,i)::r) a w:=⟨hS,o,v,Jt ho,.inl ⟨hw,hy⟩,h⟩
theorem ZW{i r o a w}(hS:S w)(ho:nth ops.toList i=σ o)(hw:Region.wanted o (yielded ops a.tmps)=ο)
  (h:LW P ops Q S fin r (a.put o.dst undef) w):LW P ops Q S fin ((τ,i)::r) a w:=⟨hS,o,undef,Jt ho,.inr ⟨hw,rfl⟩,h⟩
theorem Rc{i r o a w}(ho:nth ops.toList i=σ o)
  (h:∀K:Act->World->Prop,(∀a' w',(fin.contains i=ο->S w')->LW P ops Q S fin r a' w'→K a' w')->wpList P ops (Exit.then K Q) [o] a w):LW P ops Q S fin ((ο,i)::r) a w :=
 ⟨o,Jt ho,h _ λa' w' h1 h2=>⟨h1,h2⟩⟩
theorem Iu{i o K a w}(ho:ops[i]?=σ o)(h:wpList P ops (Exit.then K Q) [o] a w):wpOp P ops Q i K a w:=by
 unfold wpOp;simp only[ho];unfold wpList at h;split
 ·rename_i hw;rw[ATv hw]at h;rcases h with h|h
  ·refine .inl ?_;unfold Oper.wp at *;generalize (execOp a.eval o).run P w=res at *;cases res with
   | ok n w' =>
    cases n<;>simp only[Oper.upon]at h ⊢<;>first
     |exact h
     |exact Calls.mono h (λe w'' he=>by cases e<;>exact he)
     |exact Rows.mono h (λ_ _ he=>he)
   |halt x w'=>cases x<;>simp only[Oper.upon]at h ⊢<;>exact h
  ·exact .inr h
 ·rename_i hw;rw[ATt hw]at h;exact h
theorem Qy(hs:Region.noSelect ops=τ)(hQ:∀c d v (a:Act) w,Q (.panic c) (a.put d v) w->Q (.panic c) a w):
  ∀(p:List (Bool×Nat)) (listed:Array Bool) (a:Act) (w:World),MO md ops fin p listed=τ->LW P ops Q S fin p a w->LV P md ops Q S fin p.length listed a w
 |[],listed,a,w,hp,h=>⟨by simpa [MO]using hp,h⟩
 | (τ,i)::r,listed,a,w,hp,h=>by
  simp only[MO,Au]at hp;obtain⟨⟨⟨h1,h2⟩,h3⟩,h4⟩:=hp;obtain⟨hS,o,v,ho,hy,hr⟩:=h;exact PI ho h1 hs h2 h3 (λc a w=>hQ c _ _ a w) hy hS (Qy hs hQ r _ _ _ h4 hr)
 | (ο,i)::r,listed,a,w,hp,h=>by
  simp only[MO,Au,ATu]at hp;obtain⟨h1,h2⟩:=hp;obtain⟨o,ho,hl⟩:=h;refine⟨λh0=>AWA,λj hj=>?_⟩;rw[h1]at hj;obtain rfl:j=i:=by simpa using hj
  exact wpOp_mono (λa' w' h'=>⟨h'.1,Qy hs hQ r _ _ _ h2 h'.2⟩) (Iu ho hl)
theorem Ih{id a w}p S fin(hm:P.follows .mixedOrders=τ)(hs:Region.noSelect ops=τ)
  (hp:MO .any ops fin p (CQ ops.size ο)=τ) (hz:p.length=ops.size) (hQ:∀c d v (a:Act) w,Q (.panic c) (a.put d v) w->Q (.panic c) a w)
  (h:LW P ops Q S fin p a w.drew):(Code.region id ops τ).wp P Q a w :=
 wp_region_any hm (Kn _ _ _ _ (by rw[<-hz];exact Qy hs hQ p _ _ _ (by rw[hz];exact hp) h))
end
open Go.RowKit Go.Shelf
inductive DW where
 |blk (b:Nat) (t:TypeId) (cs:List Value)
 |row (v:Value) (t:TypeId) (size n:Nat) (xs:List Value)
 |dat (foot:List Nat) (holds:World->Prop) (loc:∀w w':World,(∀b∈foot,w'.heap[b]?=w.heap[b]?)->holds w->holds w')
def DW.foot:DW->List Nat
 |.blk b _ _=>[b]
 |.row v _ _ _ _=>v.ownBlock.toList
 |.dat f _ _=>f
def DW.holds(w:World):DW->Prop
 |.blk b t cs=>w.heap[b]?=σ (.cells cs.toArray t (0,0))
 |.row v t size n xs=>w.ownsRow 0 t size v n xs
 |.dat _ h _=>h w
structure Ii(M:List Nat)(W w:World):Prop where
 os:w.os=W.os
 tape:w.tape=W.tape
 output:w.output=W.output
 size:W.heap.size<=w.heap.size
 block:∀k,k<W.heap.size->k∉M->w.heap[k]?=W.heap[k]?
structure St(M:List Nat)(W:World)(L:List DW)(w:World):Prop where
 ES:Ii M W w
 holds:∀r∈L,r.holds w
 own:∀r∈L,∀b∈r.foot,(W.heap.size<=b\/b∈M)/\b<w.heap.size
 apart:L.Pairwise (λr s => ∀b∈r.foot,b∉s.foot)
theorem DW.keep{w w'}(r:DW)(h:r.holds w)(hk:∀b∈r.foot,w'.heap[b]?=w.heap[b]?):r.holds w':=by
 cases r with
 |blk b t cs=>exact(hk b AUp).trans h
 | row v t size n xs =>
  refine⟨h.1,?_⟩;rcases h.2 with hn|⟨g,cap,cur,rfl,h1,h2,h3⟩
  ·exact .inl hn
  ·exact .inr ⟨g,cap,cur,rfl,h1,(hk g AVB).trans h2,h3⟩
 |dat f p loc=>exact loc w w' hk h
section
variable{M:List Nat}{W w w':World}{L L':List DW}
theorem Ii.refl M W:Ii M W W:=⟨rfl,rfl,rfl,Ay _,λ_ _ _=>rfl⟩
theorem Ii.below(h:Ii [] W w):Below W.heap.size W w:=⟨h.os,h.tape,h.output,h.size,λk hk=>h.block k hk (by simp)⟩
theorem Below.ES(h:Below W.heap.size W w)M:Ii M W w:=⟨h.os,h.tape,h.output,h.size,λk hk _=>h.block k hk⟩
theorem St.below(h:St [] W L w):Below W.heap.size W w:=h.ES.below
theorem St.nil M W:St M W [] W:=⟨Ii.refl _ _,by simp,by simp,AS7⟩
theorem St.drew(h:St M W L w):St M W L w.drew :=
 ⟨⟨h.ES.os,h.ES.tape,h.ES.output,h.ES.size,h.ES.block⟩,λr hr=>r.keep (h.holds r hr) (λ_ _=>rfl),h.own,h.apart⟩
theorem St.quiet(h:St M W L w)(hb:Below w.heap.size w w'):St M W L w' :=
 ⟨⟨hb.os.trans h.ES.os,hb.tape.trans h.ES.tape,hb.output.trans h.ES.output,AGn h.ES.size hb.size,λk hk hm=>(hb.block k (BS hk h.ES.size)).trans (h.ES.block k hk hm)⟩,
  λr hr=>r.keep (h.holds r hr) (λb hbf=>hb.block b (h.own r hr b hbf).2),
  λr hr b hbf=>⟨(h.own r hr b hbf).1,BS (h.own r hr b hbf).2 hb.size⟩,h.apart⟩
theorem St.sub(h:St M W L w)(hs:L'.Sublist L):St M W L' w :=
 ⟨h.ES,λr hr=>h.holds r (hs.subset hr),λr hr=>h.own r (hs.subset hr),h.apart.sublist hs⟩
theorem St.perm(h:St M W L w)(hs:L'.Perm L):St M W L' w :=
 ⟨h.ES,λr hr=>h.holds r (hs.subset hr),λr hr=>h.own r (hs.subset hr),(hs.symm.pairwise h.apart (by
  intro r s hrs b hb hb';exact hrs b hb' hb))⟩
theorem St.tail{r}(h:St M W (r::L) w):St M W L w:=h.sub (ASV _ _)
theorem St.add(h:St M W L w)r(hr:r.holds w)(hf:∀b∈r.foot,(W.heap.size<=b\/b∈M)/\b<w.heap.size)(ha:∀s∈L,∀b∈r.foot,b∉s.foot):St M W (r::L) w :=
 ⟨h.ES,by
  intro s hs;rcases AP.1 hs with rfl|hs
  ·exact hr
  ·exact h.holds s hs,by
  intro s hs;rcases AP.1 hs with rfl|hs
  ·exact hf
  ·exact h.own s hs,Ak.2 ⟨ha,h.apart⟩⟩
theorem St.alloc(h:St M W L w)t cs:St M W (.blk w.heap.size t cs::L) (w.alloc (.cells cs.toArray t)):=by
 have hb:Below w.heap.size w (w.alloc (.cells cs.toArray t)):=(Below.refl _ _).alloc (Ay _) _;refine(h.quiet hb).add _ (heap_alloc_new w _) ?_ ?_
 ·intro b hbf;obtain rfl:b=w.heap.size:=by simpa [DW.foot]using hbf
  exact⟨.inl h.ES.size,by simp⟩
 ·intro s hs b hbf hbs;obtain rfl:b=w.heap.size:=by simpa [DW.foot]using hbf
  exact absurd (h.own s hs _ hbs).2 (ASm _)
theorem St.vk(h:St M W L w)o:St M W L (w.alloc o):=h.quiet ((Below.refl _ _).alloc (Ay _) _)
theorem St.Gd{b t cs}(h:St M W L w)(hm:DW.blk b t cs∈L)i:w.cell? ⟨b,i,ν⟩=cs[i]? := by
 rw[cell_of_row w b i cs.toArray t (0,0) (h.holds _ hm)];simp
theorem St.base{k}(h:St M W L w)(hk:k<W.heap.size)(hm:k∉M):w.heap[k]?=W.heap[k]? := h.ES.block k hk hm
theorem St.Jh{a}(h:St M W L w)(hk:a.block<W.heap.size)(hm:a.block∉M):w.cell? a=W.cell? a:=World.cell?_of_block (h.base hk hm)
def look:List DW->Nat->Option (List Value)
 |[],_=>ν
 |.blk b _ cs::L,k=>if b=k then σ cs else look L k
 |.row _ _ _ _ _::L,k=>look L k
 |.dat _ _ _::L,k=>look L k
def JI:List DW->Nat->List Value->List DW
 |[],_,_=>[]
 |.blk b t cs::L,k,us=>if b=k then .blk b t us::L else .blk b t cs::JI L k us
 |.row v t s n xs::L,k,us=>.row v t s n xs::JI L k us
 |.dat f p l::L,k,us=>.dat f p l::JI L k us
theorem NY:∀ {L:List DW} {k:Nat} {cs:List Value},look L k=σ cs→∃t,DW.blk k t cs∈L
 | .blk b t cs'::L,k,cs,h=>by
  simp only[look]at h;split at h
  ·rename_i hb;subst hb;cases h;exact⟨t,by simp⟩
  ·obtain⟨t,ht⟩:=NY h;exact⟨t,Bg _ ht⟩
 |.row _ _ _ _ _::L,k,cs,h=>by obtain⟨t,ht⟩:=NY (L:=L) h;exact⟨t,Bg _ ht⟩
 |.dat _ _ _::L,k,cs,h=>by obtain⟨t,ht⟩:=NY (L:=L) h;exact⟨t,Bg _ ht⟩
theorem OQ:∀ {L:List DW} {k:Nat} {cs us:List Value},look L k=σ cs→∃t A B,L=A++DW.blk k t cs::B/\JI L k us=A++DW.blk k t us::B
 | .blk b t cs'::L,k,cs,us,h=>by
  simp only[look]at h;split at h
  ·rename_i hb;subst hb;cases h;exact⟨t,[],L,rfl,by simp[JI]⟩
  ·rename_i hb;obtain⟨t',A,B,h1,h2⟩:=OQ (us:=us) h;exact⟨t',.blk b t cs'::A,B,by rw[h1];rfl,by simp only[JI,ATt hb,h2];rfl⟩
 | .row v t s n xs::L,k,cs,us,h=>by
  obtain⟨t',A,B,h1,h2⟩:=OQ (L:=L) (us:=us) h;exact⟨t',.row v t s n xs::A,B,by rw[h1];rfl,by simp only[JI,h2];rfl⟩
 | .dat f p l::L,k,cs,us,h=>by
  obtain⟨t',A,B,h1,h2⟩:=OQ (L:=L) (us:=us) h;exact⟨t',.dat f p l::A,B,by rw[h1];rfl,by simp only[JI,h2];rfl⟩
theorem St.write{b t cs us A B}(h:St M W (A ++ .blk b t cs::B) w)
  (hp:∀k,k≠b->w'.heap[k]?=w.heap[k]?) (hb:w'.heap[b]?=σ (.cells us.toArray t (0,0))) (hs:w'.heap.size=w.heap.size) (ho:w'.os=w.os) (ht:w'.tape=w.tape) (hu:w'.output=w.output):
  St M W (A ++ .blk b t us::B) w':=by
 have hmem:DW.blk b t cs∈A ++ .blk b t cs::B:=by simp
 have nP:=h.own _ hmem b AUp;have hap:=h.apart;have VZ:∀r∈A++B,b∉r.foot:=by
  intro r hr hbr;rw[BN]at hap;rcases AV.1 hr with hr|hr
  ·exact hap.2.2 r hr (.blk b t cs) AUq b hbr AUp
  ·exact(Ak.1 hap.2.1).1 r hr b AUp hbr
 refine⟨⟨ho.trans h.ES.os,ht.trans h.ES.tape,hu.trans h.ES.output,by rw[hs];exact h.ES.size,λk hk hm=>?_⟩,?_,?_,?_⟩
 ·rw[hp k (by
   rintro rfl;rcases nP.1 with h1|h1
   ·omega
   ·exact hm h1)]
  exact h.ES.block k hk hm
 ·intro r hr;rcases AV.1 hr with hr1|hr1
  ·exact AW6
  ·rcases AP.1 hr1 with rfl|hr1
   ·exact hb
   ·exact AW6
 ·intro r hr c hc;rw[hs];rcases AV.1 hr with hr1|hr1
  ·exact h.own r AVQ c hc
  ·rcases AP.1 hr1 with rfl|hr1
   ·exact h.own _ hmem c hc
   ·exact h.own r AVQ c hc
 ·exact AWt
end
abbrev Fr:=Nat->Value
def upd(F:Fr)(d:Nat)(v:Value):Fr:=λi=>if i=d then v else F i
def Fq(F:Fr)(d:Option Nat)(v:Value):Fr:=match d with|some d=>upd F d v|none=>F
def mkF(vs:List Value):Fr:=λi=>vs.getD i undef
theorem YM F d v i:upd F d v i=if i=d then v else F i:=rfl
theorem YN F d v:Fq F (σ d) v=upd F d v:=rfl
theorem YO F v:Fq F ν v=F:=rfl
theorem bW v vs:mkF (v::vs) 0=v:=rfl
theorem bX v vs n:mkF (v::vs) (n+1)=mkF vs n:=rfl
theorem nQ n:mkF [] n=undef:=rfl
def ev(F:Fr):Operand->Value
 |.tmp t=>F t
 |.const v=>v
 |.global g=>π (σ ⟨g,0,ν⟩)
 |.func f=>.func (.func f) #[] #[]
structure OT(n:Nat)(a:Act)(F:Fr):Prop where
 defers:a.defers=[]
 size:a.tmps.size=n
 get:∀i,a.tmps.getD i undef=F i
theorem OT.eval{n a F}(h:OT n a F):a.eval=ev F:=by
 funext x;cases x with
 |tmp t=>exact h.get t
 |const v=>rfl
 |global g=>rfl
 |func f=>rfl
def PK(n:Nat):Option Nat->Prop
 |none=>True
 |some d=>d<n
theorem OT.put{n a F}(h:OT n a F){d}(hd:PK n d)v:OT n (a.put d v) (Fq F d v):=by
 cases d with
 |none=>exact h
 | some d =>
  refine⟨h.defers,by simp[Act.put,h.size],λi=>?_⟩;have hd':d<a.tmps.size:=by rw[h.size];exact hd
  simp only[Act.put,Fq,upd];by_cases e:i=d
  ·subst e;simp[hd']
  ·rw[ATt e,<-h.get i];simp[AS5 e]
def kG:TypeDesc->Bool
 |.struct _ | .array _ _=>τ
 |_=>ο
def Hd(P:Program)(t:TypeId):Option (Bool×Nat) :=
 match P.underlying t,P.info? t with
 |some d,σ i=>σ (kG d,i.size)
 |_,_=>ν
def Fb(P:Program)(t:TypeId):Option (List Value) :=
 match P.info? t with
 |some i=>i.zero.map (·.cells.toList)
 |none=>ν
def TP(P:Program)(t:TypeId):Option (TypeId×Nat) :=
 match P.underlying t with
 |some (.slice e)=>(P.info? e).map λi=>(e,i.size)
 |_=>ν
def Fp(P:Program)(s:TypeId)(f:Nat):Option Nat :=
 match P.underlying s with
 | some (.struct fs)=>match fs[f]? with
  | some fd=>match P.info? fd.type with
   |some i=>if i.size=0 then ν else σ fd.offset
   |none=>ν
  |none=>ν
 |_=>ν
def Re(P:Program)(t:TypeId):Option IntKind :=
 match P.underlying t with
 |some (.int k)=>σ k
 |_=>ν
def Ls(P:Program)(t:TypeId):Option (Nat×Nat) :=
 match P.underlying t with
 |some (.array n e)=>(P.info? e).map λi=>(n,i.size)
 |_=>ν
def FX(P:Program)(t:TypeId):Nat :=
 match P.underlying t with
 |some .bool=>1
 |some (.pointer _)=>2
 |some (.slice _)=>3
 |some .string=>4
 |_=>0
theorem Va{P t}(h:FX P t=1):P.underlying t=σ .bool:=by
 unfold FX at h;split at h<;>first|assumption|cases h
theorem YP{P t}(h:FX P t=2):P.underlying t=σ (.pointer (P.pointee t)):=by
 unfold FX at h;split at h<;>first|(rename_i e he;simp[Program.pointee,he];done)|cases h
theorem PL{P t}(h:FX P t=3):P.underlying t=σ (.slice (P.elem t)):=by
 unfold FX at h;split at h<;>first|(rename_i e he;simp[Program.elem,he];done)|cases h
inductive PV where
 |need (p:Prop) (v:Value)
 |no
def U3(op:BinOp)(a b:Int):Bool :=
 match op with
 |.eql=>decide (a=b)
 |.neq => !decide (a=b)
 |.lss=>decide (a<b)
 |.leq=>decide (a<=b)
 |.gtr=>decide (b<a)
 |.geq=>decide (b<=a)
 |_=>ο
def KR:List Value->List Value->Option Bool
 |[],[]=>σ τ
 |.int k a::xs,ε k' b::ys=>if k=k' then (KR xs ys).map λr=>decide (a=b)&&r else ν
 |_,_=>ν
def Rf(P:Program):Nat->List Field->Bool
 |_,[]=>τ
 |i, f :: fs => f.name != "_" && f.offset == i && (Hd P f.type == σ (ο, 1)) && (Re P f.type).isSome && Rf P (i + 1) fs
def kH(P:Program)(t:TypeId):Option Nat :=
 match P.underlying t with
 |some (.struct fs)=>if Rf P 0 fs.toList && !P.stoodInHeld t && !P.eqGuardType P.depth t then σ fs.size else ν
 |_=>ν
def D5(P:Program)(op:BinOp)(t:TypeId)(x y:Value):PV :=
 match op with
 | .add=>match x,y with
  |.int k a,ε k' b=>.need (k=k') (ε k (k.wrap (a+b)))
  |.string a,.string b=>.need (a.size+b.size<=9223372036854775807) (.string (a++b))
  |_,_=>.no
 |.sub=>match x,y with | .int k a,ε k' b=>.need (k=k') (ε k (k.wrap (a-b)))|_,_=>.no
 |.mul=>match x,y with | .int k a,ε k' b=>.need (k=k') (ε k (k.wrap (a*b)))|_,_=>.no
 |.quo=>match x,y with | .int k a,ε k' b=>.need (k=k'∧b≠0) (ε k (k.wrap (a.tdiv b)))|_,_=>.no
 |.rem=>match x,y with | .int k a,ε k' b=>.need (k=k'∧b≠0) (ε k (a.tmod b))|_,_=>.no
 |.and=>match x,y with | .int k a,ε k' b=>.need (k=k') (ε k (bits .and k a b))|_,_=>.no
 |.or=>match x,y with | .int k a,ε k' b=>.need (k=k') (ε k (bits .or k a b))|_,_=>.no
 |.xor=>match x,y with | .int k a,ε k' b=>.need (k=k') (ε k (bits .xor k a b))|_,_=>.no
 |.andNot=>match x,y with | .int k a,ε k' b=>.need (k=k') (ε k (bits .andNot k a b))|_,_=>.no
 |.shl=>match x,y with | .int k a,ε k' b=>.need (0<=b/\b<=k.bits) (ε k (k.wrap (a*2 ^ b.toNat)))|_,_=>.no
 |.shr=>match x,y with | .int k a,ε k' b=>.need (0<=b/\b<=k.bits) (ε k (a / 2 ^ b.toNat))|_,_=>.no
 | .eql=>match x,y with
  |.int k a,ε k' b=>.need (k=k') (θ (decide (a=b)))
  |.bool a,θ b=>.need (FX P t=1) (θ (a == b))
  |.string a,.string b=>.need True (θ (a.toList == b.toList))
  |.pointer a,π ν=>.need (FX P t=2) (θ a.isNone)
  |.slice a n c,ξ ν 0 0=>.need (FX P t=3) (θ a.isNone)
  | .agg xs,.agg ys=>match kH P t,KR xs.toList ys.toList with
   |some n,σ r=>.need (xs.size=n/\ys.size=n) (θ r)
   |_,_=>.no
  |_,_=>.no
 | .neq=>match x,y with
  |.int k a,ε k' b=>.need (k=k') (θ (!decide (a=b)))
  |.bool a,θ b=>.need (FX P t=1) (θ (!(a == b)))
  |.string a,.string b=>.need True (θ (!(a.toList == b.toList)))
  |.pointer a,π ν=>.need (FX P t=2) (θ a.isSome)
  |.slice a n c,ξ ν 0 0=>.need (FX P t=3) (θ a.isSome)
  | .agg xs,.agg ys=>match kH P t,KR xs.toList ys.toList with
   |some n,σ r=>.need (xs.size=n/\ys.size=n) (θ (!r))
   |_,_=>.no
  |_,_=>.no
 |.lss=>match x,y with | .int k a,ε k' b=>.need (k=k') (θ (decide (a<b)))|_,_=>.no
 |.leq=>match x,y with | .int k a,ε k' b=>.need (k=k') (θ (decide (a<=b)))|_,_=>.no
 |.gtr=>match x,y with | .int k a,ε k' b=>.need (k=k') (θ (decide (b<a)))|_,_=>.no
 |.geq=>match x,y with | .int k a,ε k' b=>.need (k=k') (θ (decide (b<=a)))|_,_=>.no
theorem Rh(P:Program)(w:World)(d:Nat):∀(fs:List Field) (i:Nat) (xs ys:Array Value) (r:Bool),Rf P i fs=τ->xs.size=i+fs.length->ys.size=i+fs.length →
  KR (xs.toList.drop i) (ys.toList.drop i)=σ r->(Op.eqFields (d+1) xs ys fs).run P w=.ok r w
 | [],i,xs,ys,r,_,hx,hy,h=>by
  have e1:xs.toList.drop i=[]:=ATd (by simp at hx ⊢;omega);have e2:ys.toList.drop i=[]:=ATd (by simp at hy ⊢;omega);rw[e1,e2]at h;simp only[KR,Bn]at h;subst h;simp[Op.eqFields]
 | f::fs,i,xs,ys,r,hf,hx,hy,h=>by
  simp only[Rf,Au,bne_iff_ne,ATu]at hf;obtain⟨⟨⟨⟨h1,h2⟩,h3⟩,h4⟩,h5⟩:=hf;simp only[Av]at hx hy;have lx:i<xs.size:=by omega
  have ly:i<ys.size:=by omega
  have q1:xs.toList.drop i=xs[i]::xs.toList.drop (i+1):=by rw[BV (by simpa using lx)];simp
  have q2:ys.toList.drop i=ys[i]::ys.toList.drop (i+1):=by rw[BV (by simpa using ly)];simp
  rw[q1,q2]at h;clear q1 q2;generalize hxi:xs[i]=u at h;generalize hyi:ys[i]=v at h;cases u<;>try (simp[KR]at h;done)
  cases v<;>try (simp[KR]at h;done)
  rename_i k a k' b;simp only[KR]at h;split at h
  case isFalse=>cases h
  rename_i hkk;subst hkk;obtain⟨r',hr',rfl⟩:=CK.1 h;obtain⟨ki,hki⟩:=ASf.1 h4;have hu:P.underlying f.type=σ (.int ki):=by
   unfold Re at hki;split at hki
   ·rename_i k0 hk0;rw[hk0];injection hki with hki;rw[hki]
   ·cases hki
  have hsz:(sizeOf f.type).run P w=.ok 1 w:=by
   unfold Hd at h3;split at h3
   ·rename_i d0 i0 hd0 hi0;simp only[Bn,ATN]at h3;simp[sizeOf,typeInfo,hi0,h3.2]
   ·cases h3
  have hagg:(isAgg f.type).run P w=.ok ο w:=by
   simp[isAgg,run_underlying hu]
  have p1:∀(zs:Array Value) (hz:i<zs.size),(part f.type zs f.offset).run P w=.ok zs[i] w:=by
   intro zs hz;simp[part,h2,hsz,hagg,hz]
  have ih:=Rh P w d fs (i+1) xs ys r' h5 AL AL hr';have hq:(Op.equalIn (d+1) f.type (ε k a) (ε k b)).run P w=.ok (a == b) w:=by simp[Op.equalIn,run_underlying hu]
  simp only[Op.eqFields,h1,ne_eq,ATw,ATx,Sem.run_bind,p1 xs lx,p1 ys ly,Result.andThen_ok,hxi,hyi,hq,Sem.run_ite];by_cases hab:a=b
  ·subst hab;simpa using ih
  ·simp[hab]
theorem Vb{P}w{t xs ys n r}(h:kH P t=σ n)(hx:xs.size=n)(hy:ys.size=n)(hr:KR xs.toList ys.toList=σ r)x y op(hop:op=.eql\/op=.neq):
  (do eqGuard op t x y (.agg xs) (.agg ys);binOp op t (.agg xs) (.agg ys):Sem Value).run P w=.ok (θ (if op=.eql then r else !r)) w:=by
 unfold kH at h;split at h
 ·rename_i fs hfs;split at h
  ·rename_i hc;simp only[Au,CJ]at hc;injection h with h;subst h;have hf:P.fieldsOf t=fs:=by simp[Program.fieldsOf,hfs]
   have hg:=run_eqGuard_agg (P:=P) w op t x y xs ys hc.2;have he:(Op.equalIn 10000 t (.agg xs) (.agg ys)).run P w=.ok r w:=by
    rw[run_equalIn_struct (P:=P) w 9999 t xs ys (by rw[hf];exact hfs) hc.1.2,hf];exact Rh P w 9998 fs.toList 0 xs ys r hc.1.1 (by simpa using hx) (by simpa using hy) (by simpa using hr)
   rcases hop with rfl|rfl
   ·simp[Sem.run_bind,hg,run_eql_struct,he]
   ·simp[Sem.run_bind,hg,run_neq_struct,he]
  ·cases h
 ·cases h
theorem FH{α:Type}{P w}{s:Sem α}{u}(h:u=pure ()):(do u;s).run P w=s.run P w:=by rw[h];simp
theorem kI{P op t x y v}{p:Prop}(h:D5 P op t x y=.need p v)(hp:p)X Y w:
  (do eqGuard op t X Y x y;binOp op t x y:Sem Value).run P w=.ok v w:=by
 cases op
 case eql =>
  simp only[D5]at h;split at h
  ·cases h;subst hp;simp[eqGuard_at_int,binOp_eql];rfl
  ·cases h;rw[FH (eqGuard_at_bool _ _ _ _ _ _)];exact run_eql_bool w t _ _ (Va hp)
  ·exact AWW
  ·cases h;rw[FH (eqGuard_at_pointer _ _ _ _ _ _)];exact run_eql_pointer_nil w t _ (YP hp)
  ·cases h;rw[FH (eqGuard_at_slice _ _ _ _ _ _ _ _)];exact Lib.run_eql_slice_nil w t _ _ _ _ 0 0 (PL hp)
  ·split at h
   ·cases h;rw[Vb w ‹_› hp.1 hp.2 ‹_› X Y .eql (.inl rfl)];rfl
   ·cases h
  ·cases h
 case neq =>
  simp only[D5]at h;split at h
  ·cases h;subst hp;rw[FH (eqGuard_at_int _ _ _ _ _ _ _),binOp_neq];simp[bne];rfl
  ·cases h;rw[FH (eqGuard_at_bool _ _ _ _ _ _)];exact run_neq_bool w t _ _ (Va hp)
  ·exact AWW
  ·cases h;rw[FH (eqGuard_at_pointer _ _ _ _ _ _)];rw[run_neq_pointer_nil w t _ (YP hp)];simp
  ·cases h;rw[FH (eqGuard_at_slice _ _ _ _ _ _ _ _)];rw[run_neq_slice_nil_any w t _ _ _ _ 0 0 (PL hp)];simp
  ·split at h
   ·cases h;rw[Vb w ‹_› hp.1 hp.2 ‹_› X Y .neq (.inr rfl)];rfl
   ·cases h
  ·cases h
 case add =>
  simp only[D5]at h;split at h
  ·cases h;subst hp;rw[FH (eqGuard_at_int _ _ _ _ _ _ _)];simp only[binOp_add,Op.intArith];rfl
  ·rename_i a b;cases h;rw[FH (eqGuard_at_string _ _ _ _ _ _)];have hm:IntKind.i64.max=9223372036854775807:=by decide
   have hle:¬(((a.size+b.size:Nat):Int)>IntKind.i64.max):=by rw[hm];omega
   rw[binOp_string_add];simp only[Op.stringOp,ATt hle,Sem.run_pure]
  ·cases h
 case shl =>
  cases x<;>try (simp only[D5]at h;cases h)
  cases y<;>simp only[D5]at h<;>cases h;rw[FH (eqGuard_at_int _ _ _ _ _ _ _),binOp_shl,shift_shl _ _ _ _ hp.1 hp.2];simp
 case shr =>
  cases x<;>try (simp only[D5]at h;cases h)
  cases y<;>simp only[D5]at h<;>cases h;rw[FH (eqGuard_at_int _ _ _ _ _ _ _),binOp_shr,shift_shr _ _ _ _ hp.1 hp.2];simp
 case quo =>
  cases x<;>try (simp only[D5]at h;cases h)
  cases y<;>simp only[D5]at h<;>cases h;obtain⟨rfl,hb⟩:=hp;rw[FH (eqGuard_at_int _ _ _ _ _ _ _),binOp_quo];simp[Op.intDiv,hb]
 case rem =>
  cases x<;>try (simp only[D5]at h;cases h)
  cases y<;>simp only[D5]at h<;>cases h;obtain⟨rfl,hb⟩:=hp;rw[FH (eqGuard_at_int _ _ _ _ _ _ _),binOp_rem];simp[Op.intDiv,hb]
 all_goals
  cases x<;>try (simp only[D5]at h;cases h)
  cases y<;>simp only[D5]at h<;>cases h;subst hp;rw[FH (eqGuard_at_int _ _ _ _ _ _ _)]
  first
   |(simp only[binOp_add,Op.intArith];rfl)
   |(simp only[binOp_sub,Op.intArith];rfl)
   |(simp only[binOp_mul,Op.intArith];rfl)
   |(simp only[binOp_and,intBits_and];rfl)
   |(simp only[binOp_or,intBits_or];rfl)
   |(simp only[binOp_xor,intBits_xor];rfl)
   |(simp only[binOp_andNot,intBits_andNot];rfl)
   |(simp only[binOp_lss];rfl)
   |(simp only[binOp_leq];rfl)
   |(simp only[binOp_gtr];rfl)
   |(simp only[binOp_geq];rfl)
theorem Xv(l:List Value)m v(h:m<l.length):(l.set m v).take (m+1)=l.take m++[v]:=by
 rw[CE AVU,List.getElem_set_self,List.take_set,AS0 AV1]
theorem UN(off:Nat):∀(vs:List Value) (j:Nat) (l:List Value),off+j+vs.length<=l.length →
  (vs.zipIdx j).foldl (λl (x:Value×Nat)=>l.set (off+x.2) x.1) l=l.take (off+j)++vs++l.drop (off+j+vs.length)
 |[],j,l,h=>by simp
 | v::vs,j,l,h=>by
  simp only[Av]at h;simp only[List.zipIdx_cons,ASM];rw[UN off vs (j+1) (l.set (off+j) v) AV1,<-Nat.add_assoc,Xv _ _ _ AL,List.drop_set_of_lt AL];simp[Av,Cn,AUP 1]
theorem ZX off(vs:Array Value)cs(h:off+vs.size<=cs.size):
  vs.zipIdx.foldl (λcs (x:Value×Nat)=>cs.setIfInBounds (off+x.2) x.1) cs=(cs.toList.take off++vs.toList++cs.toList.drop (off+vs.size)).toArray:=by
 have key:∀(l:List (Value×Nat)) (cs:Array Value),(l.foldl (λcs (x:Value×Nat)=>cs.setIfInBounds (off+x.2) x.1) cs).toList=l.foldl (λl (x:Value×Nat)=>l.set (off+x.2) x.1) cs.toList:=by
  intro l
  induction l with
  |nil=>intro cs;rfl
  |cons x l ih=>intro cs;simp only[ASM];rw[ih];simp
 apply Array.ext';rw[<-Array.foldl_toList,key,Array.toList_zipIdx,UN off vs.toList 0 cs.toList AVU];simp
def NZ(place:Nat->Option (Nat×Nat))(cells:List Value):List (Nat×Value)->Option (List Value)
 |[]=>σ cells
 | (i,v)::rest =>
  match place i with
  |none=>ν
  |some (off,size)=>if v.cells.size=size/\off+size<=cells.length then NZ place (cells.take off++v.cells.toList++cells.drop (off+size)) rest else ν
theorem M0(place:Nat->Option (Nat×Nat)):∀(parts:List (Nat×Value)) (cells:List Value) (cs:List Value),NZ place cells parts=σ cs->Instr.fill place cells.toArray parts=σ cs.toArray
 |[],cells,cs,h=>by simp only[NZ,Bn]at h;simp[Instr.fill,h]
 | (i,v)::rest,cells,cs,h=>by
  simp only[NZ]at h;simp only[Instr.fill];split at h
  ·cases h
  ·rename_i off size hp;split at h
   ·rename_i hc;rw[hp];obtain⟨rfl,h2⟩:=hc;simp only;rw[ATt AV1,ZX off v.cells cells.toArray (by simpa using h2)];simpa using M0 place rest _ cs h
   ·cases h
def Ij(size:Nat):Nat->List (Nat×Value)->Option (List Value)
 |_,[]=>σ []
 |k,(i,v)::rest=>if i=k/\v.cells.size=size then (Ij size (k+1) rest).map (v.cells.toList ++ ·) else ν
theorem M_(size:Nat):∀(parts:List (Nat×Value)) (k:Nat) (pre suf:List Value) (cs:List Value),Ij size k parts=σ cs->pre.length=k*size->suf.length=parts.length*size →
  NZ (λi=>σ (i*size,size)) (pre++suf) parts=σ (pre++cs)
 | [],k,pre,suf,cs,h,hp,hs=>by
  simp only[Ij,Bn]at h;have:suf=[]:=Bc (by simpa using hs);subst this;subst h;simp[NZ]
 | (i,v)::rest,k,pre,suf,cs,h,hp,hs=>by
  simp only[Ij]at h;split at h
  ·rename_i hc;obtain⟨rfl,rfl⟩:=hc;obtain⟨cs',hcs,rfl⟩:=CK.1 h;simp only[Av,AS9,Nat.one_mul]at hs;simp only[NZ];rw[ATv ⟨trivial,by simp[hp,hs]⟩];have h1:(pre++suf).take (i*v.cells.size)=pre:=by rw[<-hp];simp
   have h2:(pre++suf).drop (i*v.cells.size+v.cells.size)=suf.drop v.cells.size:=by rw[<-hp,<-List.drop_drop];simp
   rw[h1,h2,M_ v.cells.size rest (i+1) (pre++v.cells.toList) (suf.drop v.cells.size) cs' hcs (by simp[hp,AS9]) (by simp[hs])];simp
  ·cases h
def tst(P:Program)(t:TypeId):Option (List (Nat×Nat)×List Value) :=
 match P.info? t,P.underlying t with
 | some it,σ (.struct fields) =>
  match it.zero,fields.toList.mapM (λf=>(P.info? f.type).map λi=>(f.offset,i.size))with
  |some z,σ places=>σ (places,z.cells.toList)
  |_,_=>ν
 |_,_=>ν
theorem bZ{P t places z parts cs}(h:tst P t=σ (places,z))(hf:NZ (places[·]?) z parts.toList=σ cs)w:
  (Instr.build t parts).run P w=.ok (.agg cs.toArray) w:=by
 refine run_build w t parts _ ?_;unfold tst at h;split at h
 ·rename_i it fields hi hu;split at h
  ·rename_i z' places' hz hp;obtain⟨rfl,rfl⟩:=Bq (ASn h);have:=M0 _ _ _ _ hf;simp only[Program.built,hi,hu,hz,hp];simpa using this
  ·cases h
 ·cases h
def tab(P:Program)(t:TypeId):Option (Nat×Nat) :=
 match P.info? t,P.underlying t with
 | some it,σ (.array n e) =>
  match it.zero,P.info? e with
  |some z,σ ie=>if z.cells.size=n*ie.size then σ (n,ie.size) else ν
  |_,_=>ν
 |_,_=>ν
theorem bf{P t n size parts cs}(h:tab P t=σ (n,size))(hn:parts.toList.length=n)(hf:Ij size 0 parts.toList=σ cs)w:
  (Instr.build t parts).run P w=.ok (.agg cs.toArray) w:=by
 refine run_build w t parts _ ?_;unfold tab at h;split at h
 ·rename_i it m e hi hu;split at h
  ·rename_i z ie hz he;split at h
   ·rename_i hsz;obtain⟨rfl,rfl⟩:=Bq (ASn h);have:=M0 _ _ _ _ (M_ ie.size parts.toList 0 [] z.cells.toList cs hf AUq (by simp[hsz,hn]at *));simp only[Program.built,hi,hu,hz,he];simpa using this
   ·cases h
  ·cases h
 ·cases h
def IV(c l size:Nat)(A:Option Addr):Option Addr:=if c=l then A else A.map (·.add (l*size))
theorem KS c size A:IV c 0 size A=A:=by
 unfold IV;split
 ·rfl
 ·cases A<;>simp[Addr.add_zero']
theorem Vd{c l size a}(h:c≠l):IV c l size (σ a)=σ (a.add (l*size)):=by simp[IV,h]
def bg(t:Bool)(a b:Value):Value:=if t then a else b
theorem Ve a b:bg τ a b=a:=rfl
theorem UO a b:bg ο a b=b:=rfl
theorem Vf t p q:bg t (θ p) (θ q)=θ (if t then p else q):=by cases t<;>rfl
def Ko(F:Fr):List (Nat×Operand)->List (Nat×Value)
 |[]=>[]
 |(i,x)::r=>(i,ev F x)::Ko F r
theorem OU(F:Fr):∀l:List (Nat×Operand),Ko F l=l.map λx=>(x.1,ev F x.2)
 |[]=>rfl
 |(i,x)::r=>by rw[Ko,OU F r];rfl
def pv(P:Program)(F:Fr):Op->PV
 |.move x=>.need True (ev F x)
 |.assign x=>.need True (ev F x)
 | .pick c a b=>match ev F c with
  |.bool t=>.need True (bg t (ev F a) (ev F b))
  |_=>.no
 | .build t parts=>match tst P t with
  | some (places,z)=>match NZ (places[·]?) z (Ko F parts.toList)with
   |some cs=>.need True (.agg cs.toArray)
   |none=>.no
  | none=>match tab P t,Ij ((tab P t).getD (0,0)).2 0 (Ko F parts.toList)with
   |some (n,size),σ cs=>.need (parts.toList.length=n) (.agg cs.toArray)
   |_,_=>.no
 | .nilCheck x=>match ev F x with
  |.pointer (σ a)=>.need True (π (σ a))
  |_=>.no
 |.binOp op t x y _=>D5 P op t (ev F x) (ev F y)
 | .unOp .not _ x=>match ev F x with
  |.bool b=>.need True (θ (!b))
  |_=>.no
 | .unOp .neg _ x=>match ev F x with
  |.int k n=>.need True (ε k (k.wrap (0-n)))
  |_=>.no
 | .unOp .xor _ x=>match ev F x with
  |.int k n=>.need True (ε k (bits .xor k (if k.signed then -1 else k.max) n))
  |_=>.no
 | .convert s d x=>match ev F x with
  | .int k n=>match Re P d with
   |some k'=>.need ((P.underlying s).isSome=τ) (ε k' (k'.wrap n))
   |none=>.no
  |_=>.no
 | .slice t x lo hi mx=>match mx with
  |some _=>.no
  | none=>match ev F x,TP P t with
   | .slice A n c,σ (_,size)=>match (match lo with|none=>σ 0|some l=>(match ev F l with | .int _ i=>σ i|_=>ν)),(match hi with|none=>σ (n:Int)|some h=>(match ev F h with | .int _ i=>σ i|_=>ν))with
    |some l,σ h=>.need (0<=l/\l<=h/\h<=c/\n<=c) (ξ (IV c l.toNat size A) (h.toNat-l.toNat) (c-l.toNat))
    |_,_=>.no
   | .string s,ν=>match (match lo with|none=>σ 0|some l=>(match ev F l with | .int _ i=>σ i|_=>ν)),(match hi with|none=>σ (s.size:Int)|some h=>(match ev F h with | .int _ i=>σ i|_=>ν))with
    |some l,σ h=>.need (FX P t=4/\0<=l/\l<=h/\h<=s.size) (.string (s.extract l.toNat h.toNat))
    |_,_=>.no
   |_,_=>.no
 | .fieldAddr s x f=>match ev F x,Fp P s f with
  |.pointer (σ a),σ o=>.need True (π (σ (a.add o)))
  |_,_=>.no
 | .field s x f=>match ev F x,tst P s with
  | .agg cs,σ (places,_)=>match places[f]? with
   | some (off,size)=>match tpt P s f with
    | some ο=>match cs.toList[off]? with
     |some v=>.need True v
     |none=>.no
    |some τ=>.need True (.agg ((cs.toList.drop off).take size).toArray)
    |none=>.no
   |none=>.no
  |_,_=>.no
 | .indexAddr t x i=>match ev F x,ev F i,TP P t,Ls P t with
  |.slice (σ a) n _,ε _ k,σ (_,size),_=>.need (0<=k/\k<n) (π (σ (a.add (k.toNat*size))))
  |.pointer (σ a),ε _ k,ν,σ (n,size)=>.need (0<=k/\k<n) (π (σ (a.add (k.toNat*size))))
  |_,_,_,_=>.no
 | .index t x i=>match ev F x,ev F i with
  |.string s,ε _ k=>.need (FX P t=4/\0<=k/\k<s.size) (ε η ((s.data.toList.getD k.toNat 0).toNat:Int))
  |_,_=>.no
 | .extract x i=>match ev F x with
  | .tuple vs=>match vs.toList[i]? with
   |some v=>.need True v
   |none=>.no
  |_=>.no
 | .call c=>match c.callee with
  | .builtin .len=>match c.args.toList,c.argTypes.toList with
   | [x],[t]=>match ev F x with
    |.slice _ n _=>.need (FX P t=3) (ε ζ n)
    |.string s=>.need (FX P t=4) (ε ζ s.size)
    |_=>.no
   |_,_=>.no
  | .builtin .max=>match c.args.toList with
   | [x,y]=>match ev F x,ev F y with
    |.int k a,ε k' b=>.need True (ε k (max a b))
    |_,_=>.no
   |_=>.no
  | .builtin .min=>match c.args.toList with
   | [x,y]=>match ev F x,ev F y with
    |.int k a,ε k' b=>.need True (ε k (min a b))
    |_,_=>.no
   |_=>.no
  |_=>.no
 |_=>.no
where
 tpt (P:Program) (s:TypeId) (f:Nat):Option Bool :=
  match P.underlying s with
  | some (.struct fs)=>match fs[f]? with
   |some fd=>(Hd P fd.type).map (·.1)
   |none=>ν
  |_=>ν
theorem Ji{P w s v}(h:s.run P w=.ok v w):(do pure (.value (← s)):Sem Next).run P w=.ok (.value v) w:=by
 simp[h]
theorem Ik{P t i}(h:P.info? t=σ i)w:(sizeOf t).run P w=.ok i.size w:=by simp[sizeOf,typeInfo,h]
theorem qh{P t d}(h:P.underlying t=σ d)w:(isAgg t).run P w=.ok (kG d) w:=by
 cases d<;>simp[isAgg,run_underlying h,kG]
theorem OV{P t b n}(h:Hd P t=σ (b,n))w:(isAgg t).run P w=.ok b w/\(sizeOf t).run P w=.ok n w:=by
 unfold Hd at h;split at h
 ·rename_i d i hd hi;obtain⟨rfl,rfl⟩:=Bq (ASn h);exact⟨qh hd w,Ik hi w⟩
 ·cases h
theorem ZY{P t e n}(h:TP P t=σ (e,n)):P.underlying t=σ (.slice e)∧∃i,P.info? e=σ i/\i.size=n:=by
 unfold TP at h;split at h
 ·rename_i e' he;obtain⟨i,hi,hh⟩:=CK.1 h;obtain⟨rfl,rfl⟩:=Bq hh;exact⟨he,i,hi,rfl⟩
 ·cases h
theorem vo{P t m n}(h:Ls P t=σ (m,n)):∃e,P.underlying t=σ (.array m e)∧∃i,P.info? e=σ i/\i.size=n:=by
 unfold Ls at h;split at h
 ·rename_i n' e' he;obtain⟨i,hi,hh⟩:=CK.1 h;obtain⟨rfl,rfl⟩:=Bq hh;exact⟨e',he,i,hi,rfl⟩
 ·cases h
theorem vv{P t k}(h:Re P t=σ k):P.underlying t=σ (.int k):=by
 unfold Re at h;split at h
 ·rename_i k' hk;rw[hk];simpa using h
 ·cases h
theorem TQ{P t}(h:FX P t=4):P.underlying t=σ .string:=by
 unfold FX at h;split at h<;>first|assumption|cases h
theorem mapM_some_get{P:Program} : ∀(fs:List Field) (places:List (Nat×Nat)),fs.mapM (λf=>(P.info? f.type).map λi=>(f.offset,i.size))=σ places→∀i:Nat,(fs[i]?).bind (λf=>(P.info? f.type).map λi=>(f.offset,i.size))=places[i]?
 |[],places,h,i=>by simp at h;subst h;simp
 | f::fs,places,h,i=>by
  simp only[AUX,Option.bind_eq_bind,Option.pure_def,AS6]at h;obtain⟨p,hp,ps,hps,h⟩:=h;cases h;cases i with
  |zero=>simpa using hp
  |succ i=>simpa using mapM_some_get fs ps hps i
theorem bq{P F o}{p:Prop}{v}(h:pv P F o.op=.need p v)(hp:p)w:(execOp (ev F) o).run P w=.ok (.value v) w:=by
 obtain⟨dst,op,ty,pos,after,guard⟩:=o;cases op with
 |move x=>simp only[pv]at h;cases h;simp[execOp]
 |assign x=>simp only[pv]at h;cases h;simp[execOp]
 | pick c a b =>
  simp only[pv]at h;split at h
  ·rename_i t ht;cases h;cases t<;>simp[execOp,ht,asBool,bg]
  ·cases h
 | build t parts =>
  simp only[pv]at h;split at h
  ·rename_i places z ht;split at h
   ·rename_i cs hcs;cases h;have:=bZ (parts:=parts.map λx=>(x.1,ev F x.2)) ht (cs:=cs) (by rw[OU]at hcs;simpa using hcs) w;exact Ji this
   ·cases h
  ·split at h
   ·rename_i n size cs ht hcs;cases h;rw[ht]at hcs;have:=bf (parts:=parts.map λx=>(x.1,ev F x.2)) ht (cs:=cs) (by simpa using hp) (by rw[OU]at hcs;simpa using hcs) w;exact Ji this
   ·cases h
 | nilCheck x =>
  simp only[pv]at h;split at h
  ·rename_i a ha;cases h;simp[execOp,ha]
  ·cases h
 | binOp op t x y yt =>
  exact Ji (kI h hp x y w)
 | unOp u t x =>
  cases u<;>simp only[pv]at h;all_goals first
   |(cases h;done)
   | (split at h
      ·rename_i n hn;cases h
       first
        |(simp[execOp,hn,unary_not];done)
        |(simp[execOp,hn,unary_neg,Op.intArith];done)
        |(simp[execOp,hn,unary_xor,intBits_xor];done)
      ·cases h)
 | convert s d x =>
  simp only[pv]at h;split at h
  ·rename_i k n hn;split at h
   ·rename_i k' hk;cases h;have hd:=vv hk;obtain⟨ds,hs⟩:=ASf.1 hp;simp[execOp,hn,convert,run_underlying hs,run_underlying hd,Conv.intToInt]
   ·cases h
  ·cases h
 | slice t x lo hi mx =>
  simp only[pv]at h;cases mx with
  |some m=>cases h
  | none =>
   simp only at h;split at h
   ·rename_i A n c e size hx hsl;obtain⟨hu,inf,Xw,rfl⟩:=ZY hsl;split at h
    ·rename_i l hh hl U4;cases h;obtain⟨h0,h1,h2,h3⟩:=hp;have e1:(hh.toNat:Int)=hh:=Ct AL;have hlo:∀w,(Instr.sliceBounds τ n c (lo.map (ev F)) (hi.map (ev F)) ν).run P w=.ok (l.toNat,hh.toNat,c) w:=by
      intro w;cases lo with
      | none =>
       simp only[Bn]at hl;subst hl;cases hi with
       | none =>
        simp only[Bn]at U4;subst U4;simp[Instr.sliceBounds]
       | some b =>
        simp only at U4;split at U4
        ·exact AWG
        ·cases U4
      | some a =>
       simp only at hl;split at hl
       ·exact AU2
       ·cases hl
     refine Ji ?_;simp[hx,Instr.sliceAt,run_underlying hu,Instr.slice,hlo,Ik Xw,IV]
    ·cases h
   ·rename_i s0 hx hsl;split at h
    ·rename_i l hh hl U4;cases h;obtain⟨hk,h0,h1,h2⟩:=hp;have hu:=TQ hk;have e1:(hh.toNat:Int)=hh:=Ct AL;have hlo:∀w,(Instr.sliceBounds ο s0.size s0.size (lo.map (ev F)) (hi.map (ev F)) ν).run P w=.ok (l.toNat,hh.toNat,s0.size) w:=by
      intro w;cases lo with
      | none =>
       simp only[Bn]at hl;subst hl;cases hi with
       | none =>
        simp only[Bn]at U4;subst U4;simp[Instr.sliceBounds]
       | some b =>
        simp only at U4;split at U4
        ·exact AWG
        ·cases U4
      | some a =>
       simp only at hl;split at hl
       ·exact AU2
       ·cases hl
     refine Ji ?_;simp[hx,Instr.sliceAt,run_underlying hu,Instr.slice,hlo]
    ·cases h
   ·cases h
 | fieldAddr s x f =>
  simp only[pv]at h;split at h
  ·rename_i a off ha ho;cases h;unfold Fp at ho;split at ho
   ·rename_i fs hfs;split at ho
    ·rename_i fd vw;split at ho
     ·rename_i i hi;split at ho
      ·cases ho
      ·rename_i hz;cases ho;simp[execOp,ha,Instr.fieldAt,run_underlying hfs,vw,Instr.sureAddr,fieldPlace,Ik hi,hz]
     ·cases ho
    ·cases ho
   ·cases ho
  ·cases h
 | field s x f =>
  simp only[pv]at h;split at h
  ·rename_i cs places z hx hst;split at h
   ·rename_i off size hpl;unfold tst at hst;split at hst
    ·rename_i it fields hit hu;split at hst
     ·rename_i z' places' hz hpm;obtain⟨rfl,rfl⟩:=Bq (ASn hst);have hlen:=mapM_some_get fields.toList places' hpm f;rw[hpl]at hlen;split at h
      ·rename_i ht;unfold pv.tpt at ht;simp only[hu]at ht;split at ht
       ·rename_i fd vw;obtain⟨bn,hbn,hb⟩:=CK.1 ht;obtain⟨h1,h2⟩:=OV (b:=bn.1) (n:=bn.2) hbn w;rw[hb]at h1;have hoff:fd.offset=off:=by
         simp[vw]at hlen;obtain⟨inf,_,e1,_⟩:=hlen;exact e1
        split at h
        ·rename_i u hu2;cases h;refine Ji ?_;have h5:cs[off]?=σ v:=by simpa using hu2
         simp[hx,Instr.field,run_underlying hu,vw,asAgg,part,h1,hoff,h5]
        ·cases h
       ·cases ht
      ·rename_i ht;unfold pv.tpt at ht;simp only[hu]at ht;split at ht
       ·rename_i fd vw;obtain⟨bn,hbn,hb⟩:=CK.1 ht;obtain⟨h1,h2⟩:=OV (b:=bn.1) (n:=bn.2) hbn w;rw[hb]at h1;have hoff:fd.offset=off/\bn.2=size:=by
         simp[vw]at hlen;obtain⟨inf,Xw,e1,e2⟩:=hlen;refine⟨e1,?_⟩;have:=h2;rw[Ik Xw]at this;injection this with h6 h7;omega
        cases h;refine Ji ?_;obtain⟨e1,e2⟩:=hoff;subst e1;subst e2;simp[hx,Instr.field,run_underlying hu,vw,asAgg,part,h1,h2];apply Array.ext';simp
       ·cases ht
      ·cases h
     ·cases hst
    ·cases hst
   ·cases h
  ·cases h
 | indexAddr t x i =>
  simp only[pv]at h;split at h
  ·rename_i a n c k kk e size hx hi hsl;cases h;obtain⟨hu,inf,Xw,rfl⟩:=ZY hsl;simp[execOp,hx,hi,Instr.indexAt,run_underlying hu,asIntOf,hp,Ik Xw]
  ·rename_i a k kk m size hx hi hsl harr;cases h;obtain⟨e,hu,inf,Xw,rfl⟩:=vo harr;simp[execOp,hx,hi,Instr.indexAt,run_underlying hu,asIntOf,hp,Ik Xw,Instr.sureAddr]
  ·cases h
 | index t x i =>
  simp only[pv]at h;split at h
  ·rename_i s0 kk k hx hi;cases h;obtain⟨hk,h0,h1⟩:=hp;have hlt:k.toNat<s0.data.size:=by have:s0.data.size=s0.size:=rfl;omega
   refine Ji ?_;rw[hx,hi,run_index_string _ _ _ _ _ (TQ hk)];have h1':k.toNat<s0.size:=by omega
   have hg:s0[k.toNat]'h1'=s0.data.toList.getD k.toNat 0:=by
    rw[BP,AQ (by simpa using hlt)];simp;rfl
   rw[AUZ ⟨h0,h1⟩,hg]
  ·cases h
 | extract x i =>
  simp only[pv]at h;split at h
  ·rename_i vs hvs;split at h
   ·rename_i u hu;cases h;have:vs[i]?=σ v:=by simpa using hu
    simp[execOp,hvs,Instr.extract,this]
   ·cases h
  ·cases h
 | call c =>
  obtain⟨callee,args,ats⟩:=c;cases callee with
  | builtin b =>
   cases b
   case len =>
    simp only[pv]at h;split at h
    ·rename_i x t hx ht;have ea:args = #[x]:=by cases args;simp_all
     have et:ats = #[t]:=by cases ats;simp_all
     subst ea;subst et;split at h
     ·rename_i A n c hv;cases h;simp[execOp,resolve,invoke,builtin,hv,Builtin.len_,run_underlying (PL hp),goInt]
     ·rename_i s hv;cases h;simp[execOp,resolve,invoke,builtin,hv,Builtin.len_,run_underlying (TQ hp),goInt]
     ·cases h
    ·cases h
   case max =>
    simp only[pv]at h;split at h
    ·rename_i x y hx;split at h
     ·rename_i k a k' b ha hb;cases h;have ea:args = #[x,y]:=by cases args;simp_all
      subst ea;have e:(if b>a then b else a)=max a b:=by
       rw[Int.max_def];split<;>split<;>omega
      simp[execOp,resolve,invoke,builtin,ha,hb,Builtin.max_,Builtin.max2,e]
     ·cases h
    ·cases h
   case min =>
    simp only[pv]at h;split at h
    ·rename_i x y hx;split at h
     ·rename_i k a k' b ha hb;cases h;have ea:args = #[x,y]:=by cases args;simp_all
      subst ea;have e:(if b<a then b else a)=min a b:=by
       rw[Int.min_def];split<;>split<;>omega
      simp[execOp,resolve,invoke,builtin,ha,hb,Builtin.min_,Builtin.min2,e]
     ·cases h
    ·cases h
   all_goals
    simp only[pv]at h;cases h
  |value f=>simp only[pv]at h;cases h
  |invoke r m=>simp only[pv]at h;cases h
 |_=>simp only[pv]at h;cases h
def LD(P:Program)(M:List Nat)(W:World)(L:List DW)(t:TypeId)(a:Addr)(v:Value):Prop := ∀w,St M W L w->(Instr.loadAt t (π (σ a))).run P w=.ok v w
def ldV(P:Program)(M:List Nat)(W:World)(t:TypeId)(a:Addr)(L:List DW)(K:Bool->Value->Prop):Prop :=
 match look L a.block with
 | some cs=>a.spot=ν/\(match Hd P t with
  |some (τ,m)=>a.off+m<=cs.length/\K τ (.agg ((cs.drop a.off).take m).toArray)
  | some (ο,_)=>(match cs[a.off]? with
   |some v=>K τ v
   |none=>False)
  |none=>False)
 |none => ∃v,LD P M W L t a v∧∀tok,tok=τ->K tok v
def ones(vs:List Value):Bool:=vs.all (·.oneCell')
def SV(P:Program)(M:List Nat)(W:World)(t:TypeId)(a:Addr)(v:Value)(L L':List DW):Prop := ∀w,St M W L w→∃w',(Instr.storeAt t (π (σ a)) v).run P w=.ok () w'∧St M W L' w'
def stV(P:Program)(M:List Nat)(W:World)(t:TypeId)(a:Addr)(v:Value)(L:List DW)(K:Bool->List DW->Prop):Prop :=
 match look L a.block with
 | some cs=>a.spot=ν/\(match Hd P t with
  |some (_,m)=>v.cells.toList.length=m/\a.off+m<=cs.length/\ones v.cells.toList=τ/\K τ (JI L a.block (cs.take a.off++v.cells.toList++cs.drop (a.off+m)))
  |none=>False)
 |none => ∃L',SV P M W t a v L L'∧∀tok,tok=τ->K tok L'
def I6(P:Program)(M:List Nat)(W:World)(g:FuncId)(args:Array Value)(L:List DW)(K:Bool->Value->List DW->Prop):Prop :=
 ∀w,St M W L w->Calls P g args w (λe w' => ∃v L',e=κ v/\St M W L' w'∧K τ v L')
def XV(P:Program)(M:List Nat)(W:World)(o:Oper)(F:Fr)(L:List DW)(K:Bool->Value->List DW->Prop):Prop :=
 ∀w,St M W L w→∃v L' w',(execOp (ev F) o).run P w=.ok (.value v) w'∧St M W L' w'∧K τ v L'
def XU(P:Program)(M:List Nat)(W:World)(o:Oper)(F:Fr)(L:List DW)(K:Bool->Value->List DW->Prop):Prop :=
 ∀w,St M W L w→∃L' w',(execOp (ev F) o).run P w=.ok .skip w'∧St M W L' w'∧K τ undef L'
def ABL(P:Program)(M:List Nat)(W:World)(ty t:TypeId)(L:List DW)(v x:Value)(K:Bool->Value->List DW->Prop):Prop :=
 ∀w,St M W L w→∃v' L' w',(Builtin.append_ #[t,t] ty #[v,x]).run P w=.ok v' w'∧St M W L' w'∧K τ v' L'
def Vg(l:List Nat):ByteArray:=(l.map λx:Nat=>(x:Int)).foldl (λr n=>r.push (UInt8.ofNat n.toNat)) ByteArray.empty
def tbs(P:Program)(s d:TypeId):Bool :=
 match P.underlying s,P.underlying d with
 | some (.slice e),σ .string=>(match P.underlying e with
  |some (.int η)=>τ
  |_=>ο)
 |_,_=>ο
def v_(P:Program)(M:List Nat)(W:World)(s d:TypeId)(A:Option Addr)(n:Nat)(L:List DW)(K:Bool->Value->List DW->Prop):Prop :=
 tbs P s d=τ∧∃l:List Nat,(∀w,St M W L w->Reads w w.heap.size 1 A n (l.map λx:Nat=>Value.int η (x:Int)))∧∀tok,tok=τ->K tok (.string (Vg l)) L
def DF(P:Program)(g:FuncId):Bool :=
 match P.funcs[g]? with
 |some fn => fn.name != "runtime.NumGoroutine" && fn.body.isSome
 |none=>ο
def fresh:List DW->Nat->Prop
 |[],_=>True
 |.blk b _ _::L,k=>b<k/\fresh L k
 |_::L,k=>fresh L k
def wB(p:Prop):Prop:=p
theorem YQ:wB True=True:=rfl
theorem nR{p:Prop}(h:p):wB p=True:=eq_true h
def ADE(P:Program)(F:Fr)(o:Op)(K:Value->Prop):Prop :=
 match pv P F o with
 |.need p v=>wB p/\K v
 |.no=>False
def Ri(P:Program)(M:List Nat)(W:World)(o:Oper)(F:Fr)(L:List DW)(K:Bool->Value->List DW->Prop):Prop :=
 match pv P F o.op with
 |.need p v=>wB p/\K τ v L
 |.no=>XV P M W o F L K
def FP(P:Program)(M:List Nat)(W:World)(o:Oper)(F:Fr)(L:List DW)(K:Bool->Value->List DW->Prop):Prop :=
 match o.op with
 | .load t x=>(match ev F x with
  |.pointer (σ a)=>ldV P M W t a L (λtok v=>K tok v L)
  |_=>False)
 | .store t x y=>(match ev F x with
  |.pointer (σ a)=>stV P M W t a (ev F y) L (λtok L'=>K tok undef L')
  |_=>False)
 | .alloc t=>(match Fb P t with
  |some cs => ∀b,W.heap.size<=b->fresh L b->K τ (π (σ ⟨b,0,ν⟩)) (.blk b t cs::L)
  |none=>False)
 |.box t x => ∀b,W.heap.size<=b->fresh L b->K τ (π (σ ⟨b,0,ν⟩)) (.blk b t (ev F x).cells.toList::L)
 | .buildSlice t len parts=>(match TP P t with
  | some (e,size)=>(Fb P e).isSome=τ/\parts.toList.length=len/\len*size<=16777216/\(match Ij size 0 (Ko F parts.toList)with
   |some cs => ∀b,W.heap.size<=b->fresh L b->K τ (ξ (σ ⟨b,0,ν⟩) len len) (.blk b e cs::L)
   |none=>False)
  |none=>False)
 | .call c=>(match c.callee with
  | .value f=>(match ev F f with
   |.func (.func g) first cap=>DF P g=τ/\I6 P M W g (first++c.args.map (ev F)++cap) L K
   |_=>False)
  |.builtin .len=>Ri P M W o F L K
  |.builtin .max=>Ri P M W o F L K
  |.builtin .min=>Ri P M W o F L K
  | .builtin .append=>(match c.args.toList,c.argTypes.toList with
   | [s,x],[t,t']=>(match decide (t=t')with
    |true=>ABL P M W o.type t L (ev F s) (ev F x) K
    |false=>XV P M W o F L K)
   |_,_=>False)
  |_=>XV P M W o F L K)
 | .convert s d x=>(match ev F x with
  | .slice A n _=>(match tbs P s d with
   |true=>v_ P M W s d A n L K
   |false=>XV P M W o F L K)
  |_=>Ri P M W o F L K)
 |.move _ | .assign _ | .pick _ _ _ | .build _ _ | .nilCheck _ | .binOp _ _ _ _ _ | .unOp _ _ _ | .slice _ _ _ _ _ | .fieldAddr _ _ _ | .field _ _ _ | .indexAddr _ _ _ | .index _ _ _ | .extract _ _=>Ri P M W o F L K
 |.mapUpdate _ _ _ _=>XU P M W o F L K
 |_=>XV P M W o F L K
theorem ABM{P s d}(h:tbs P s d=τ):∃e,P.underlying s=σ (.slice e)/\P.underlying e=σ (.int η)/\P.underlying d=σ .string:=by
 unfold tbs at h;split at h
 ·rename_i e hs hd;split at h
  ·rename_i he;exact⟨e,hs,he,hd⟩
  ·cases h
 ·cases h
theorem Vh{P M W s d A n c L K}(h:v_ P M W s d A n L K):
  ∃v,(∀w,St M W L w->(convert s d (ξ A n c)).run P w=.ok v w)/\K τ v L:=by
 obtain⟨ht,l,hr,hk⟩:=h;obtain⟨e,h1,h2,h3⟩:=ABM ht;refine⟨_,λw hw=>?_,hk τ rfl⟩;rw[run_convert_bytes_string w s d e A n c h1 h2 h3];obtain⟨hl,hc⟩:=hr w hw;simp only[BF,Ac]at hl;cases A with
 | none =>
  have h0:l=[]:=by
   cases l with
   |nil=>rfl
   | cons x l =>
    simp at hl;obtain⟨a,ha,_⟩:=hc AL;cases ha
  subst h0;simp[Conv.bytesToString,Vg]
 | some a =>
  refine run_bytesToString w a n c _ ?_;have:=run_loadCells_list (P:=P) w a ((l.map λx:Nat=>(x:Int)).map (Value.int η)) (λj v hj=>by
   rcases Cm n with h0|h0
   ·obtain rfl:l=[]:=Bc AL;simp at hj
   ·obtain⟨a',ha,_,hcell⟩:=hc h0;cases ha;exact hcell j v AWD)
  simpa [hl]using this
theorem Ju{M W w L}(h:St M W L w):fresh L w.heap.size:=by
 have key:∀(L:List DW),(∀r∈L,∀b∈r.foot,b<w.heap.size)->fresh L w.heap.size:=by
  intro L
  induction L with
  |nil=>intro _;trivial
  | cons r L ih =>
   intro hL;have ih':=ih λs hs=>hL s (Bg _ hs);cases r with
   |blk b t cs=>exact⟨hL (.blk b t cs) AUq b AUp,ih'⟩
   |row v t s n xs=>exact ih'
   |dat f p l=>exact ih'
 exact key L λr hr b hb=>(h.own r hr b hb).2
theorem KT{P t m}(h:Hd P t=σ (τ,m)){w a}(vs:List Value)(hl:vs.length=m)(hc:∀j v,vs[j]?=σ v->w.cell? (a.add j)=σ v):
  (Instr.loadAt t (π (σ a))).run P w=.ok (.agg vs.toArray) w:=by
 obtain⟨h1,h2⟩:=OV h w;subst hl;simp[Instr.loadAt,Instr.sureAddr,loadVar,h1,h2,run_loadCells_list (P:=P) w a vs hc]
theorem Hy{P t m}(h:Hd P t=σ (ο,m)){w a v}(hc:w.cell? a=σ v):
  (Instr.loadAt t (π (σ a))).run P w=.ok v w:=by
 obtain⟨h1,h2⟩:=OV h w;simp[Instr.loadAt,Instr.sureAddr,loadVar,h1,hc]
theorem Vi{a:Addr}(h:a.spot=ν):a=⟨a.block,a.off,ν⟩:=by cases a;simp_all
theorem TR{P M W t a L K}(h:ldV P M W t a L K):∃v,LD P M W L t a v/\K τ v:=by
 unfold ldV at h;split at h
 ·rename_i cs hcs;obtain⟨hsp,h⟩:=h;obtain⟨ty,hm⟩:=NY hcs;split at h
  ·rename_i m hm2;obtain⟨hle,hk⟩:=h;refine⟨_,λw hw=>KT hm2 _ AV1 ?_,hk⟩;intro j v hv;rw[Vi hsp,Addr.add_lit,hw.Gd hm];rw[Bu]at hv;split at hv
   ·simpa using hv
   ·cases hv
  ·rename_i m hm2;split at h
   ·rename_i v hv;exact⟨v,λw hw=>Hy hm2 (by rw[Vi hsp,hw.Gd hm];exact hv),h⟩
   ·exact AVz
  ·exact AVz
 ·obtain⟨v,h1,h2⟩:=h;exact⟨v,h1,h2 τ rfl⟩
theorem qi{P M W w t a v L K}(h:stV P M W t a v L K)(hw:St M W L w):
  ∃L' w',(Instr.storeAt t (π (σ a)) v).run P w=.ok () w'∧St M W L' w'∧K τ L':=by
 unfold stV at h;split at h
 ·rename_i cs hcs;obtain⟨hsp,h⟩:=h;split at h
  ·rename_i g m hm;obtain⟨h1,h2,h3,hk⟩:=h;obtain⟨ty,A,B,e1,e2⟩:=OQ (us:=cs.take a.off++v.cells.toList++cs.drop (a.off+m)) hcs;have hh:w.heap[a.block]?=σ (.cells cs.toArray ty (0,0)):=hw.holds (.blk a.block ty cs) (by rw[e1];simp);have hs:=run_storeCells_at P a.block a.off ty v.cells.toList 0 cs.toArray w hh (by simp[h1];omega) (by intro u hu;exact ASu.1 h3 u hu);have hsz:=(OV hm w).2;refine⟨_,w.setRow a.block (cs.toArray.toList.take (a.off+0)++v.cells.toList++cs.toArray.toList.drop (a.off+0+v.cells.toList.length)).toArray,?_,?_,hk⟩
   ·have h1':v.cells.size=m:=by simpa using h1
    rw[Vi hsp];simp only[Instr.storeAt,Instr.sureAddr,Sem.run_bind,Sem.run_pure,Result.andThen_ok,storeVar,hsz,h1',ne_eq,ATy,ATz];exact hs
   ·rw[e2];have hw':=e1▸hw;refine hw'.write (λk hk=>setRow_other w a.block k _ hk) ?_ AWp rfl rfl rfl;rw[setRow_heap w a.block cs.toArray _ ty (0,0) hh];simp[h1]
  ·exact AVz
 ·obtain⟨L',h1,h2⟩:=h;obtain⟨w',hr,hs⟩:=h1 w hw;exact⟨L',w',hr,hs,h2 τ rfl⟩
theorem Vj{P g}(h:DF P g=τ)args w:(callFunc g args).run P w=.ok (.enter g args) w:=by
 unfold DF at h;split at h
 ·rename_i fn hfn;simp only[Au,bne_iff_ne,ne_eq]at h;obtain⟨b,hb⟩:=ASf.1 h.2;simp[callFunc,run_program,hfn,h.1,hb]
 ·cases h
section
variable{P:Program}{M:List Nat}{W:World}
theorem JZ{o F L K}(h:FP P M W o F L K){a w}(ha:a.eval=ev F)(hw:St M W L w)
  {next Q} (hn:∀v L' w',K τ v L'→St M W L' w'→next (a.put o.dst v) w'):o.wp P a w next Q:=by
 have hx:XV P M W o F L K->o.wp P a w next Q:=by
  intro hX;obtain⟨v,L',w',hr,hs,hk⟩:=hX w hw;unfold Oper.wp;rw[ha,hr];exact hn _ _ _ hk hs
 have hp:Ri P M W o F L K->o.wp P a w next Q:=by
  intro hP;unfold Ri at hP;split at hP
  ·rename_i p v hpv;unfold Oper.wp;rw[ha,bq hpv hP.1 w];exact hn _ _ _ hP.2 hw
  ·exact hx hP
 obtain⟨dst,op,ty,pos,after,guard⟩:=o;cases op with
 | load t x =>
  simp only[FP]at h;split at h
  ·rename_i ad had;obtain⟨v,hl,hk⟩:=TR h;unfold Oper.wp;rw[ha];simp only[execOp,had,Sem.run_bind,hl w hw,Result.andThen_ok,Sem.run_pure];exact hn _ _ _ hk hw
  ·exact AVz
 | store t x y =>
  simp only[FP]at h;split at h
  ·rename_i ad had;obtain⟨L',w',hr,hs,hk⟩:=qi h hw;unfold Oper.wp;rw[ha];simp only[execOp,had,Sem.run_bind,hr,Result.andThen_ok,Sem.run_pure];exact hn _ _ _ hk hs
  ·exact AVz
 | alloc t =>
  simp only[FP]at h;split at h
  ·rename_i cs hcs;unfold Oper.wp;rw[ha];have hz:(zeroValue t).run P w=.ok (((P.info? t).bind (·.zero)).getD undef) w/\((((P.info? t).bind (·.zero)).getD undef).cells).toList=cs:=by
    unfold Fb at hcs;split at hcs
    ·rename_i i hi;obtain⟨z,hz,rfl⟩:=CK.1 hcs;simp[zeroValue,typeInfo,hi,hz]
    ·cases hcs
   simp only[execOp,Instr.alloc,Sem.run_bind,hz.1,Result.andThen_ok,newVar,newRow,run_newObj_alloc,Sem.run_pure];have:=hn _ _ _ (h w.heap.size hw.ES.size (Ju hw)) (hw.alloc t cs);rw[<-hz.2]at this;rw[ATh]at this;exact this
  ·exact AVz
 | box t x =>
  simp only[FP]at h;unfold Oper.wp;rw[ha];simp only[execOp,Instr.box,Sem.run_bind,Result.andThen_ok,newVar,newRow,run_newObj_alloc,Sem.run_pure];have:=hn _ _ _ (h w.heap.size hw.ES.size (Ju hw)) (hw.alloc t (ev F x).cells.toList);rw[ATh]at this;exact this
 | buildSlice t len parts =>
  simp only[FP]at h;split at h
  ·rename_i e size hsl;obtain⟨hu,inf,Xw,rfl⟩:=ZY hsl;obtain⟨hz,hlen,hle,h⟩:=h;split at h
   ·rename_i cs hcs;rw[OU]at hcs;unfold Oper.wp;rw[ha];obtain⟨z,hz'⟩:=ASf.1 hz;have hzv:∃zv,∀w,(zeroValue e).run P w=.ok zv w:=by
     unfold Fb at hz';split at hz'
     ·rename_i i hi;obtain⟨z0,hz0,_⟩:=CK.1 hz';exact⟨z0,λw=>by simp[zeroValue,typeInfo,hi,hz0]⟩
     ·cases hz'
    obtain⟨zv,hzv⟩:=hzv;have hf:∀z:Array Value,z.size=len*inf.size->Instr.fill (λi=>σ (i*inf.size,inf.size)) z (parts.map λx=>(x.1,ev F x.2)).toList=σ cs.toArray:=by
     intro z hzs;have:=M0 _ _ _ _ (M_ inf.size (parts.toList.map λx=>(x.1,ev F x.2)) 0 [] z.toList cs hcs AUq (by simp[hzs,hlen]at *));simpa using this
    have hrun:(Instr.buildSlice t len (parts.map λx=>(x.1,ev F x.2))).run P w=.ok (ξ (σ ⟨w.heap.size,0,ν⟩) len len) (w.alloc (.cells cs.toArray e)):=by
     have AGq:¬(len*inf.size>2 ^ 24):=by omega
     by_cases h0:len*inf.size=0
     ·simp only[Instr.buildSlice,Sem.run_bind,run_underlying hu,Result.andThen_ok,Ik Xw,AGq,ATz,h0,ATx,Sem.run_pure,Sem.run_ite];rw[hf _ (by simp[h0])];simp[newRow]
     ·simp only[Instr.buildSlice,Sem.run_bind,run_underlying hu,Result.andThen_ok,Ik Xw,AGq,ATz,h0,Sem.run_pure,Sem.run_ite,hzv];rw[hf _ AUq];simp[newRow]
    simp only[execOp,Sem.run_bind,hrun,Result.andThen_ok,Sem.run_pure];exact hn _ _ _ (h w.heap.size hw.ES.size (Ju hw)) (hw.alloc e cs)
   ·exact AVz
  ·exact AVz
 | call c =>
  obtain⟨callee,args,ats⟩:=c;cases callee with
  | value f =>
   simp only[FP]at h;split at h
   ·rename_i g first cap hf
    obtain⟨hb,hc⟩:=h;unfold Oper.wp;rw[ha];simp only[execOp,resolve,hf,Deferred.ofValue,Sem.run_bind,Sem.run_pure,Result.andThen_ok,invoke,Vj hb,Oper.upon_enter];refine(hc w hw).mono ?_;rintro e w' ⟨v,L',rfl,hs,hk⟩;exact hn _ _ _ hk hs
   ·exact AVz
  | builtin b =>
   cases b
   case append =>
    simp only[FP]at h;split at h
    ·rename_i s x t t' hargs AOB;split at h
     ·rename_i hd;obtain rfl:=AT0 hd;have ea:args = #[s,x]:=by cases args;simp_all
      have et:ats = #[t,t]:=by cases ats;simp_all
      subst ea;subst et;obtain⟨v,L',w',hr,hs,hk⟩:=h w hw;unfold Oper.wp;rw[ha];simp only[execOp,resolve,Sem.run_bind,Sem.run_pure,Result.andThen_ok,invoke,builtin,AST,BJ,ASW,hr];exact hn _ _ _ hk hs
     ·exact hx h
    ·exact AVz
   all_goals
    simp only[FP]at h
    first
     |exact hp h
     |exact hx h
  |invoke r m=>simp only[FP]at h;exact hx h
 |move x=>simp only[FP]at h;exact hp h
 |assign x=>simp only[FP]at h;exact hp h
 |pick a b c=>simp only[FP]at h;exact hp h
 |build a b=>simp only[FP]at h;exact hp h
 |nilCheck x=>simp only[FP]at h;exact hp h
 |binOp a b c d e=>simp only[FP]at h;exact hp h
 |unOp a b c=>simp only[FP]at h;exact hp h
 | convert s d x =>
  simp only[FP]at h;split at h
  ·rename_i A m c hx2;split at h
   ·obtain⟨v,hr,hk⟩:=Vh (c:=c) h;unfold Oper.wp;rw[ha];simp only[execOp,hx2,Sem.run_bind,hr w hw,Result.andThen_ok,Sem.run_pure];exact hn _ _ _ hk hw
   ·exact hx h
  ·exact hp h
 |slice a b c d e=>simp only[FP]at h;exact hp h
 |fieldAddr a b c=>simp only[FP]at h;exact hp h
 |field a b c=>simp only[FP]at h;exact hp h
 |indexAddr a b c=>simp only[FP]at h;exact hp h
 |index a b c=>simp only[FP]at h;exact hp h
 |extract a b=>simp only[FP]at h;exact hp h
 | mapUpdate t m k x =>
  simp only[FP]at h;obtain⟨L',w',hr,hs,hk⟩:=h w hw;unfold Oper.wp;rw[ha,hr];exact hn _ _ _ hk hs
 |_=>simp only[FP]at h;exact hx h
end
def Mm(n:Nat):Option Nat->Bool
 |none=>τ
 |some d=>Nat.ble (d+1) n
theorem nS{n d}(h:Mm n d=τ):PK n d:=by
 cases d with
 |none=>trivial
 |some d=>exact Am h
def Ja(os:List Oper)(F:Fr)(g:Option (Nat×Bool))(A B:Prop):Prop :=
 match g with
 |none=>A
 | some (j,b)=>match (nth os j).bind (·.dst)with
  | some d=>(match F d with
   |.bool t=>(t=b->A)/\(t=(!b)->B)
   |.tuple _=>B
   |_=>False)
  |none=>False
section
variable{P:Program}{M:List Nat}{W:World}{n:Nat}
theorem GK{ops:Array Oper}{a F o}{A B:Prop}(ha:OT n a F)(hn:∀j o d,nth ops.toList j=σ o->o.dst=σ d->d<n)(h:Ja ops.toList F o.guard A B):
  (Region.wanted o (yielded ops a.tmps)=τ/\A)\/(Region.wanted o (yielded ops a.tmps)=ο/\B):=by
 unfold Ja at h;split at h
 ·rename_i hg;exact .inl ⟨by simp[Region.wanted,hg],h⟩
 ·rename_i j b hg;split at h
  ·rename_i d hd;obtain⟨oj,hoj,hdj⟩:=AS6.1 hd;have hlt:=hn j oj d hoj hdj;have AJb:ops[j]?=σ oj:=Jt hoj;have hget:a.tmps[d]?=σ (F d):=by
    have h1:=ha.get d;have h2:d<a.tmps.size:=by rw[ha.size];exact hlt
    rw[Array.getElem?_eq_getElem h2,<-h1];simp[h2]
   have hy:∀x,F d=x->yielded ops a.tmps j=(match x with | .bool b=>σ b|_=>ν):=by
    intro x hx;unfold yielded;rw[AJb];simp only[ATT,hdj];rw[hget,hx];cases x<;>rfl
   split at h
   ·rename_i t ht;have:=hy _ ht;by_cases e:t=b
    ·exact .inl ⟨by simp[Region.wanted,hg,this,e],h.1 e⟩
    ·exact .inr ⟨by simp[Region.wanted,hg,this,e],h.2 (by cases t<;>cases b<;>simp_all)⟩
   ·rename_i t ht;have:=hy _ ht;exact .inr ⟨by simp[Region.wanted,hg,this],h⟩
   ·exact AVz
  ·exact AVz
def Xm(P:Program)(M:List Nat)(W:World)(n:Nat)(os:List Oper)(tok:Bool):List Oper->Fr->List DW->(Fr->List DW->Prop)->Prop
 |[],F,L,K=>K F L
 |o::r,F,L,K=>Ja os F o.guard (FP P M W o F L λtok v L'=>Xm P M W n os tok r (Fq F o.dst v) L' K) (Xm P M W n os tok r (Fq F o.dst undef) L K)
def bu(os:List Oper)(F:Fr)(j:Nat)(b:Bool):Option Bool :=
 match (nth os j).bind (·.dst)with
 | some d=>(match F d with
  |.bool t=>(match b with|true=>σ t|false=>σ (!t))
  |.tuple _=>σ ο
  |_=>ν)
 |none=>ν
def vcg(P:Program)(M:List Nat)(W:World)(n:Nat)(os:List Oper)(s:Option Bool)(o:Oper)(r:List Oper)(F:Fr)(L:List DW)(K:Fr->List DW->Prop):Prop :=
 match s with
 |some t=>(t=τ->FP P M W o F L λtok v L'=>Xm P M W n os tok r (Fq F o.dst v) L' K)/\(t=ο->Xm P M W n os τ r (Fq F o.dst undef) L K)
 |none=>False
theorem Jb{os F j b}{A B:Prop} : Ja os F (σ (j,b)) A B=(match bu os F j b with|some t=>(t=τ->A)/\(t=ο->B)|none=>False):=by
 unfold Ja bu;cases hd:(nth os j).bind (·.dst)with
 |none=>simp[hd]
 | some d =>
  simp only[hd];cases F d<;>simp;cases b<;>simp
theorem nT{os F L K} : Xm P M W n os τ [] F L K=K F L:=rfl
theorem b_{os}{d:Option Nat}{op ty pos af r F L K}:
  Xm P M W n os τ (⟨d,op,ty,pos,af,ν⟩::r) F L K=FP P M W ⟨d,op,ty,pos,af,ν⟩ F L λtok v L'=>Xm P M W n os tok r (Fq F d v) L' K:=rfl
theorem YR{os}{d:Option Nat}{op ty pos af j b r F L K}:
  Xm P M W n os τ (⟨d,op,ty,pos,af,σ (j,b)⟩::r) F L K=vcg P M W n os (bu os F j b) ⟨d,op,ty,pos,af,σ (j,b)⟩ r F L K:=by
 show Ja os F (σ (j,b)) _ _=_;rw[Jb];rfl
theorem cK{os o r F L K} : vcg P M W n os (σ τ) o r F L K=FP P M W o F L λtok v L'=>Xm P M W n os tok r (Fq F o.dst v) L' K:=by simp[vcg]
theorem YS{os o r F L K} : vcg P M W n os (σ ο) o r F L K=Xm P M W n os τ r (Fq F o.dst undef) L K:=by simp[vcg]
theorem EF{os t o r F L K}(h1:t=τ->vcg P M W n os (σ τ) o r F L K)(h2:t=ο->vcg P M W n os (σ ο) o r F L K):vcg P M W n os (σ t) o r F L K:=by
 cases t
 ·exact h2 rfl
 ·exact h1 rfl
theorem TS{ops:Array Oper}{Q:Exit->Act->World->Prop}(hn:∀j o d,nth ops.toList j=σ o->o.dst=σ d->d<n):∀(r:List Oper) {F:Fr} {L:List DW} {K:Fr->List DW->Prop} {a:Act} {w:World},
  r.all (λo=>Mm n o.dst)=τ->Xm P M W n ops.toList τ r F L K->OT n a F->St M W L w->(∀F' L' a' w',K F' L'→OT n a' F'→St M W L' w'→Q .normal a' w')->wpList P ops Q r a w
 |[],F,L,K,a,w,_,h,ha,hw,hq=>hq _ _ _ _ h ha hw
 | o::r,F,L,K,a,w,hdd,h,ha,hw,hq=>by
  simp only[ASX,Au]at hdd;have hd:=nS hdd.1;rcases GK ha hn h with⟨hwt,h⟩|⟨hwt,h⟩
  ·unfold wpList;rw[ATv hwt];exact .inl (JZ h ha.eval hw λv L' w' hk hs=>TS hn r hdd.2 hk (ha.put hd v) hs hq)
  ·unfold wpList;rw[hwt];exact TS hn r hdd.2 h (ha.put hd undef) hw hq
def RX(P:Program)(M:List Nat)(W:World)(o:Oper)(F:Fr)(L0:List DW)(K:Bool->Value->Prop):Prop :=
 ∃v,(∀w,St M W L0 w->(execOp (ev F) o).run P w=.ok (.value v) w)∧∀tok,tok=τ->K tok v
def YT(P:Program)(M:List Nat)(W:World)(o:Oper)(F:Fr)(L0:List DW)(K:Bool->Value->Prop):Prop :=
 match pv P F o.op with
 |.need p v=>wB p/\K τ v
 |.no=>RX P M W o F L0 K
def Jv(P:Program)(M:List Nat)(W:World)(o:Oper)(F:Fr)(L0:List DW)(K:Bool->Value->Prop):Prop :=
 match o.op with
 | .load t x=>(match ev F x with
  |.pointer (σ a)=>ldV P M W t a L0 K
  |_=>False)
 | .convert s d x=>(match ev F x with
  |.slice A n _=>v_ P M W s d A n L0 (λtok v _=>K tok v)
  |_=>YT P M W o F L0 K)
 |_=>YT P M W o F L0 K
theorem UQ{P M W o F L0 K}(h:YT P M W o F L0 K):∃v,(∀w,St M W L0 w->(execOp (ev F) o).run P w=.ok (.value v) w)/\K τ v:=by
 unfold YT at h;split at h
 ·rename_i p v hp;exact⟨v,λw _=>bq hp h.1 w,h.2⟩
 ·obtain⟨v,h1,h2⟩:=h;exact⟨v,h1,h2 τ rfl⟩
theorem PN{o F L0 K}(h:Jv P M W o F L0 K):∃v,(∀w,St M W L0 w->(execOp (ev F) o).run P w=.ok (.value v) w)/\K τ v:=by
 unfold Jv at h;split at h
 ·rename_i t x hop;split at h
  ·rename_i a ha;obtain⟨v,hl,hk⟩:=TR h;refine⟨v,λw hw=>?_,hk⟩;obtain⟨dst,op,ty,pos,after,guard⟩:=o;subst hop;simp only[execOp,ha,Sem.run_bind,hl w hw,Result.andThen_ok,Sem.run_pure]
  ·exact AVz
 ·rename_i s d x hop;split at h
  ·rename_i A m c hx2;obtain⟨v,hr,hk⟩:=Vh (c:=c) h;refine⟨v,λw hw=>?_,hk⟩;obtain⟨dst,op,ty,pos,after,guard⟩:=o;subst hop;simp only[execOp,hx2,Sem.run_bind,hr w hw,Result.andThen_ok,Sem.run_pure]
  ·exact UQ h
 ·exact UQ h
def Jc(L0 L:List DW):Prop := ∀r∈L0,r∈L
theorem Vk L:Jc L L=True:=by simp[Jc]
theorem Rj L:Jc [] L=True:=by simp[Jc]
theorem PO r L0 L:Jc (r::L0) L=(r∈L/\Jc L0 L):=by simp[Jc]
theorem St.Jw{M W w L0 L}(h:St M W L w)(hs:Jc L0 L)(ha:L0.Pairwise (λr s => ∀b∈r.foot,b∉s.foot)):St M W L0 w :=
 ⟨h.ES,λr hr=>h.holds r (hs r hr),λr hr=>h.own r (hs r hr),ha⟩
def UR(P:Program)(M:List Nat)(W:World)(n:Nat)(os:List Oper)(L0:List DW)(fin:List Nat)(tok:Bool):List (Bool×Nat)->Fr->List DW->(Fr->List DW->Prop)->Prop
 |[],F,L,K=>K F L
 | (τ,i)::r,F,L,K=>match nth os i with
  |some o=>Ja os F o.guard (Jv P M W o F L0 λtok v=>UR P M W n os L0 fin tok r (Fq F o.dst v) L K) (UR P M W n os L0 fin tok r (Fq F o.dst undef) L K)
  |none=>False
 | (ο,i)::r,F,L,K=>match nth os i with
  |some o=>Ja os F o.guard (FP P M W o F L λtok v L'=>(fin.contains i=ο->Jc L0 L')/\UR P M W n os L0 fin tok r (Fq F o.dst v) L' K) (UR P M W n os L0 fin tok r (Fq F o.dst undef) L K)
  |none=>False
def qj(P:Program)(M:List Nat)(W:World)(n:Nat)(os:List Oper)(L0:List DW)(fin:List Nat)(x:Bool)(i:Nat)(s:Option Bool)(o:Oper)(r:List (Bool×Nat))(F:Fr)(L:List DW)(K:Fr->List DW->Prop):Prop :=
 match s,x with
 |some t,τ=>(t=τ->Jv P M W o F L0 λtok v=>UR P M W n os L0 fin tok r (Fq F o.dst v) L K)/\(t=ο->UR P M W n os L0 fin τ r (Fq F o.dst undef) L K)
 |some t,ο=>(t=τ->FP P M W o F L λtok v L'=>(fin.contains i=ο->Jc L0 L')/\UR P M W n os L0 fin tok r (Fq F o.dst v) L' K)/\(t=ο->UR P M W n os L0 fin τ r (Fq F o.dst undef) L K)
 |none,_=>False
def vdo(P:Program)(M:List Nat)(W:World)(n:Nat)(os:List Oper)(L0:List DW)(fin:List Nat)(x:Bool)(i:Nat)(o:Option Oper)(r:List (Bool×Nat))(F:Fr)(L:List DW)(K:Fr->List DW->Prop):Prop :=
 match o with
 |none=>False
 | some o=>match o.guard with
  | none=>(match x with
   |true=>Jv P M W o F L0 λtok v=>UR P M W n os L0 fin tok r (Fq F o.dst v) L K
   |false=>FP P M W o F L λtok v L'=>(fin.contains i=ο->Jc L0 L')/\UR P M W n os L0 fin tok r (Fq F o.dst v) L' K)
  |some (j,b)=>qj P M W n os L0 fin x i (bu os F j b) o r F L K
section
variable{os:List Oper}{L0:List DW}{fin:List Nat}{x:Bool}{i:Nat}{o:Oper}{r:List (Bool×Nat)}{F:Fr}{L:List DW}{K:Fr->List DW->Prop}
theorem nU:UR P M W n os L0 fin τ [] F L K=K F L:=rfl
theorem cO:UR P M W n os L0 fin τ ((x,i)::r) F L K=vdo P M W n os L0 fin x i (nth os i) r F L K:=by
 cases x
 ·exact AVP
 ·exact AVP
variable{d:Option Nat}{op:Op}{ty:TypeId}{pos:String}{af:Array Edge}{j:Nat}{b:Bool}
theorem cZ:vdo P M W n os L0 fin τ i (σ ⟨d,op,ty,pos,af,ν⟩) r F L K=Jv P M W ⟨d,op,ty,pos,af,ν⟩ F L0 λtok v=>UR P M W n os L0 fin tok r (Fq F d v) L K:=rfl
theorem cu:vdo P M W n os L0 fin ο i (σ ⟨d,op,ty,pos,af,ν⟩) r F L K=FP P M W ⟨d,op,ty,pos,af,ν⟩ F L λtok v L'=>(fin.contains i=ο->Jc L0 L')/\UR P M W n os L0 fin tok r (Fq F d v) L' K:=rfl
theorem YU:vdo P M W n os L0 fin x i (σ ⟨d,op,ty,pos,af,σ (j,b)⟩) r F L K=qj P M W n os L0 fin x i (bu os F j b) ⟨d,op,ty,pos,af,σ (j,b)⟩ r F L K:=rfl
theorem cz:qj P M W n os L0 fin τ i (σ τ) o r F L K=Jv P M W o F L0 λtok v=>UR P M W n os L0 fin tok r (Fq F o.dst v) L K:=by simp[qj]
theorem dB:qj P M W n os L0 fin ο i (σ τ) o r F L K=FP P M W o F L λtok v L'=>(fin.contains i=ο->Jc L0 L')/\UR P M W n os L0 fin tok r (Fq F o.dst v) L' K:=by simp[qj]
theorem YV:qj P M W n os L0 fin x i (σ ο) o r F L K=UR P M W n os L0 fin τ r (Fq F o.dst undef) L K:=by cases x<;>simp[qj]
theorem EG{t}(h1:t=τ->qj P M W n os L0 fin x i (σ τ) o r F L K)(h2:t=ο->qj P M W n os L0 fin x i (σ ο) o r F L K):qj P M W n os L0 fin x i (σ t) o r F L K:=by
 cases t
 ·exact h2 rfl
 ·exact h1 rfl
end
def FV(fin:List Nat):List (Bool×Nat)->Bool
 |[]=>τ
 |(τ,_)::r=>FV fin r
 |(ο,i)::r=>if fin.contains i then r.all (λx => !x.1&&fin.contains x.2) else FV fin r
theorem Rk{fin:List Nat} : ∀(r:List (Bool×Nat)),r.all (λx => !x.1&&fin.contains x.2)=τ->FV fin r=τ
 |[],_=>rfl
 |(τ,_)::r,h=>by simp at h
 | (ο,i)::r,h=>by
  simp only[ASX,Au]at h;simp only[FV];split
  ·exact h.2
  ·exact Rk r h.2
theorem Na{ops:Array Oper}{Q:Exit->Act->World->Prop}{L0:List DW}{fin:List Nat}(hn:∀j o d,nth ops.toList j=σ o->o.dst=σ d->d<n)(hap:L0.Pairwise (λr s => ∀b∈r.foot,b∉s.foot)):∀(p:List (Bool×Nat)) {F:Fr} {L:List DW} {K:Fr->List DW->Prop} {a:Act} {w:World},
  UR P M W n ops.toList L0 fin τ p F L K->OT n a F->St M W L w->FV fin p=τ->(p.all (λx => !x.1&&fin.contains x.2)=τ\/Jc L0 L)->(∀F' L' a' w',K F' L'→OT n a' F'→St M W L' w'→Q .normal a' w')->LW P ops Q (St M W L0) fin p a w
 |[],F,L,K,a,w,h,ha,hw,hf,NA,hq=>NW (hq _ _ _ _ h ha hw)
 | (τ,i)::r,F,L,K,a,w,h,ha,hw,hf,NA,hq=>by
  simp only[UR]at h;have PQ:Jc L0 L:=NA.resolve_left AUq;have hS:St M W L0 w:=hw.Jw PQ hap;split at h
  ·rename_i o ho;have hd:PK n o.dst:=by
    cases hdo:o.dst with
    |none=>trivial
    |some d=>exact hn i o d ho hdo
   rcases GK ha hn h with⟨hwt,h⟩|⟨hwt,h⟩
   ·obtain⟨v,hr,hk⟩:=PN h;exact Ig (v:=v) hS ho hwt (λw' hw'=>by rw[ha.eval];exact hr w' hw') (Na hn hap r hk (ha.put hd v) hw hf (.inr PQ) hq)
   ·exact ZW hS ho hwt (Na hn hap r h (ha.put hd undef) hw hf (.inr PQ) hq)
  ·exact AVz
 | (ο,i)::r,F,L,K,a,w,h,ha,hw,hf,NA,hq=>by
  simp only[UR]at h;have hr:(r.all (λx => !x.1&&fin.contains x.2)=τ/\fin.contains i=τ)\/(fin.contains i=ο/\Jc L0 L/\FV fin r=τ):=by
   cases hc:fin.contains i with
   | true =>
    refine .inl ⟨?_,rfl⟩;rcases NA with h1|h1
    ·simp only[ASX,Au]at h1;exact h1.2
    ·simp only[FV,hc,ATx]at hf;exact hf
   | false =>
    refine .inr ⟨rfl,?_,?_⟩
    ·rcases NA with h1|h1
     ·simp only[ASX,Au]at h1;rw[hc]at h1;exact absurd h1.1.2 AUq
     ·exact h1
    ·simp only[FV,hc,Be,ATz]at hf;exact hf
  have hf':FV fin r=τ:=by
   rcases hr with⟨h1,_⟩|⟨_,_,h1⟩
   ·exact Rk r h1
   ·exact h1
  have hS:∀L' w',(fin.contains i=ο->Jc L0 L')->St M W L' w'→fin.contains i=ο->St M W L0 w':=by
   intro L' w' hL hw' hc;exact hw'.Jw (hL hc) hap
  have hnext:∀L',(fin.contains i=ο->Jc L0 L')->(r.all (λx => !x.1&&fin.contains x.2)=τ\/Jc L0 L'):=by
   intro L' hL;rcases hr with⟨h1,_⟩|⟨h1,_,_⟩
   ·exact .inl h1
   ·exact .inr (hL h1)
  have hsame:fin.contains i=ο->Jc L0 L:=by
   intro hc;rcases hr with⟨_,h1⟩|⟨_,h1,_⟩
   ·rw[hc]at h1;cases h1
   ·exact h1
  split at h
  ·rename_i o ho;have hd:PK n o.dst:=by
    cases hdo:o.dst with
    |none=>trivial
    |some d=>exact hn i o d ho hdo
   refine⟨o,Jt ho,?_⟩;rcases GK ha hn h with⟨hwt,h⟩|⟨hwt,h⟩
   ·unfold wpList;rw[ATv hwt];refine .inl (JZ h ha.eval hw λv L' w' hk hs=>?_);exact⟨hS L' w' hk.1 hs,Na hn hap r hk.2 (ha.put hd v) hs hf' (hnext L' hk.1) hq⟩
   ·unfold wpList;rw[hwt];exact⟨hS L w hsame hw,Na hn hap r h (ha.put hd undef) hw hf' (hnext L hsame) hq⟩
  ·exact AVz
def ADG(M:List Nat)(W:World)(n:Nat)(Q:Exit->Fr->List DW->Prop):Exit->Act->World->Prop
 |.panic _,_,_=>False
 |.outgrown,_,_=>False
 |e,a,w => ∃F L,OT n a F/\St M W L w/\Q e F L
def CV(P:Program)(M:List Nat)(W:World)(n:Nat)(c:Code)(F:Fr)(L:List DW)(Q:Exit->Fr->List DW->Prop):Prop :=
 ∀a w,OT n a F->St M W L w->c.wp P (ADG M W n Q) a w
def Dq(K:Fr->List DW->Prop)(Q:Exit->Fr->List DW->Prop):Exit->Fr->List DW->Prop
 |.normal,F,L=>K F L
 |e,F,L=>Q e F L
def Di(id:Nat)(Q:Exit->Fr->List DW->Prop):Exit->Fr->List DW->Prop
 |.exit id',F,L=>if id'=id then Q .normal F L else Q (.exit id') F L
 |e,F,L=>Q e F L
variable{F:Fr}{L:List DW}{Q Q':Exit->Fr->List DW->Prop}
theorem CV.mono{c}(h:CV P M W n c F L Q)(hq:∀e F' L',Q e F' L'→Q' e F' L'):CV P M W n c F L Q':=λa w ha hw =>
 wp_mono (h a w ha hw) (by
  intro e a' w' hh;cases e<;>first
   |exact hh
   |(obtain⟨F',L',h1,h2,h3⟩:=hh;exact⟨F',L',h1,h2,hq _ _ _ h3⟩))
theorem NB{c}(h:∀G:Fr,G=F->CV P M W n c G L Q):CV P M W n c F L Q:=h F rfl
theorem AEK{x y}(h:CV P M W n x F L (Dq (λF' L'=>CV P M W n y F' L' Q) Q)):CV P M W n (.seq x y) F L Q:=λa w ha hw =>
 wp_seq (wp_mono (h a w ha hw) (by
  intro e a' w' hh;cases e<;>first
   |exact hh
   |(obtain⟨F',L',h1,h2,h3⟩:=hh;exact h3 _ _ h1 h2)))
theorem Cw{x y}(h:∀K:Fr->List DW->Prop,(∀F' L',CV P M W n y F' L' Q->K F' L')->CV P M W n x F L (Dq K Q)):CV P M W n (.seq x y) F L Q:=AEK (h _ λ_ _ h=>h)
theorem Df{c K}(D:Fr->Fr->Prop)(R:Fr->List DW->Prop)(h:CV P M W n c F L (Dq (λF' L'=>D F F'∧R F' L') Q))(hk:∀F' L',D F F'→R F' L'→K F' L'):CV P M W n c F L (Dq K Q) :=
 h.mono λe F' L' hh=>by
  cases e<;>first
   |exact hh
   |exact hk _ _ hh.1 hh.2
theorem Cz(h:Q .normal F L):CV P M W n .skip F L Q:=λa w ha hw=>wp_skip ⟨F,L,ha,hw,h⟩
theorem C8(h:Q .ret F L):CV P M W n .ret F L Q:=λa w ha hw=>wp_ret ⟨F,L,ha,hw,h⟩
theorem Dr{id}(h:Q (.exit id) F L):CV P M W n (.exit id) F L Q:=λa w ha hw=>wp_exit ⟨F,L,ha,hw,h⟩
theorem DK{id c}(h:CV P M W n c F L (Di id Q)):CV P M W n (.block id c) F L Q:=λa w ha hw =>
 wp_block (wp_mono (h a w ha hw) (by
  intro e a' w' hh;cases e with
  | exit id' =>
   obtain⟨F',L',h1,h2,h3⟩:=hh;simp only[Di]at h3;simp only[Exit.inBlock];split
   ·rename_i he;rw[ATv he]at h3;exact⟨F',L',h1,h2,h3⟩
   ·rename_i he;rw[ATt he]at h3;exact⟨F',L',h1,h2,h3⟩
  |_=>exact hh))
def dC(v:Value)(A B:Prop):Prop :=
 match v with
 |.bool t=>(t=τ->A)/\(t=ο->B)
 |_=>False
theorem C_{c x y}(h:dC (ev F c) (CV P M W n x F L Q) (CV P M W n y F L Q)):CV P M W n (.cond c x y) F L Q:=λa w ha hw=>by
 unfold dC at h;split at h
 ·rename_i t ht;have he:a.eval c=θ t:=by rw[ha.eval];exact ht
  exact wp_cond_split he (λe=>h.1 e a w ha hw) (λe=>h.2 e a w ha hw)
 ·exact AVz
theorem Dv{c}(I:Fr->List DW->Prop)(μ:Fr->List DW->Nat)(h₀:I F L)
  (round:∀F' L',I F' L'→CV P M W n c F' L' (Dq (λF'' L''=>I F'' L''∧μ F'' L''<μ F' L') Q)):CV P M W n (.loop c) F L Q:=λa w ha hw=>by
 intro b k cs;have key:∀m F L a w,μ F L=m->I F L->OT n a F->St M W L w →
   ∃e a' w',ADG M W n Q e a' w'∧Arrives P (lone (b.at a (.code c :: .inLoop c::k)) cs w) b k cs e a' w':=by
  intro m
  induction m using Nat.strongRecOn with
  | _ m ih =>
   intro F L a w hm hI ha hw;obtain⟨e,a₁,w₁,hq,harr⟩:=round F L hI a w ha hw b (.inLoop c::k) cs;cases e with
   | normal =>
    obtain⟨F',L',h1,h2,hI₁,hlt⟩:=hq;obtain⟨e₂,a₂,w₂,hq₂,harr₂⟩:=ih (μ F' L') (hm▸hlt) F' L' a₁ w₁ rfl hI₁ h1 h2;exact⟨e₂,a₂,w₂,hq₂,.of_steps (Steps.trans harr (.one step_inLoop)) harr₂⟩
   |exit id=>exact⟨.exit id,a₁,w₁,hq,.pass (x:=.inLoop c) rfl (λ_ _=>.inl AUq) harr⟩
   |goto l=>exact⟨.goto l,a₁,w₁,hq,.pass (x:=.inLoop c) rfl (λ_ _=>.inl AUq) harr⟩
   |ret=>exact⟨.ret,a₁,w₁,hq,.pass (x:=.inLoop c) rfl (λ_ _=>.inl AUq) harr⟩
   |panic ch=>exact hq.elim
   |outgrown=>exact hq.elim
 obtain⟨e,a',w',hq,harr⟩:=key _ F L a w rfl h₀ ha hw;exact⟨e,a',w',hq,.of_steps (.one step_loop) harr⟩
theorem Rl{ops:Array Oper}(h:ops.toList.all (λo=>Mm n o.dst)=τ):∀j o d,nth ops.toList j=σ o->o.dst=σ d->d<n:=by
 intro j o d ho hd;rw[GY]at ho;have:=ASu.1 h o (AU ho);rw[hd]at this;exact nS this
theorem YW{id l}(hd:l.all (λo=>Mm n o.dst)=τ){K}(h:Xm P M W n l τ l F L K)(hk:∀F' L',K F' L'→Q .normal F' L'):CV P M W n (.region id l.toArray ο) F L Q:=λa w ha hw =>
 wp_region_list (TS (ops:=l.toArray) (Rl AWZ) l hd AVU ha hw λF' L' a' w' hK h1 h2=>⟨F',L',h1,h2,hk _ _ hK⟩)
theorem Cy{id l}(hd:l.all (λo=>Mm n o.dst)=τ){K}(h:Xm P M W n l τ l F L K):CV P M W n (.region id l.toArray ο) F L (Dq K Q):=YW hd h λ_ _ h=>h
theorem Vl{id l}L0(hL0:∀w,St M W L w->St M W L0 w)(hsub:Jc L0 L)p fin(hm:P.follows .mixedOrders=τ)(hd:l.all (λo=>Mm n o.dst)=τ)(hs:Region.noSelect l.toArray=τ)
  (hp:MO .any l.toArray fin p (CQ l.toArray.size ο)=τ) (hz:p.length=l.toArray.size) (hf:FV fin p=τ) {K} (h:UR P M W n l L0 fin τ p F L K):CV P M W n (.region id l.toArray τ) F L (Dq K Q):=λa w ha hw =>
 Ih p (St M W L0) fin hm hs hp hz AWK
  (Na (ops:=l.toArray) (K:=K) (Rl AWZ) (hL0 w hw).apart p AVU ha hw.drew hf (.inr hsub) λF' L' a' w' hK h1 h2=>⟨F',L',h1,h2,hK⟩)
theorem ABP{id l}p fin(hm:P.follows .mixedOrders=τ)(hd:l.all (λo=>Mm n o.dst)=τ)(hs:Region.noSelect l.toArray=τ)
  (hp:MO .any l.toArray fin p (CQ l.toArray.size ο)=τ) (hz:p.length=l.toArray.size) (hf:FV fin p=τ) {K} (h:UR P M W n l L fin τ p F L K):CV P M W n (.region id l.toArray τ) F L (Dq K Q) :=
 Vl L (λ_ h=>h) (by rw[Vk];trivial) p fin hm hd hs hp hz hf h
def Rm:List ResultVar->Fr->Option Value
 |[.tmp t],F=>σ (F t)
 |[.tmp t,.tmp u],F=>σ (.tuple #[F t,F u])
 |[.tmp t,.tmp u,.tmp v],F=>σ (.tuple #[F t,F u,F v])
 |[],F=>σ (.tuple #[])
 |_,_=>ν
theorem kJ{fn a v}(ha:OT n a F)(h:Rm fn.results.toList F=σ v)w:(results fn a.tmps).run P w=.ok v w:=by
 have hr:fn.results=fn.results.toList.toArray:=by simp
 revert h hr
 generalize fn.results.toList=l;intro h hr;unfold Rm at h;split at h
 ·cases h;rw[results_tmp hr,<-ha.get]
 ·cases h;rw[results_tmp2 hr,<-ha.get,<-ha.get]
 ·cases h;simp[results,hr];exact⟨by simpa using ha.get _,by simpa using ha.get _,by simpa using ha.get _⟩
 ·cases h;rw[results_none hr]
 ·cases h
def wC(M:List Nat)(W:World)(rs:List ResultVar)(R:Ending->World->Prop):Exit->Fr->List DW->Prop
 |.normal,F,L => ∃v,Rm rs F=σ v∧∀w,St M W L w->R (κ v) w
 |.ret,F,L => ∃v,Rm rs F=σ v∧∀w,St M W L w->R (κ v) w
 |_,_,_=>False
theorem wD{f fn c args R L}rs(hrs:fn.results=rs.toArray)(hf:P.funcs[f]?=σ fn)(hb:fn.body=σ c)(hn:fn.ntmps=n)(hl:args.length<=n)(hw:St M W L W)
  (h:CV P M W n c (mkF args) L (wC M W rs R)):Calls P f args.toArray W R:=by
 obtain rfl:fn.results.toList=rs:=by rw[hrs]
 refine calls_of_wp hf hb (wp_mono (h _ W ⟨rfl,by simp[hn];omega,λi=>?_⟩ hw) ?_)
 ·simp only[mkF];rcases ASq i args.length with h1|h1
  ·have h2:i<(args.toArray++CQ (fn.ntmps-args.toArray.size) undef).size:=by simp;omega
   simp[ASr,h1]
  ·have h2:args[i]?=ν:=List.getElem?_eq_none h1;simp[ASr,Nat.not_lt.2 h1,Array.getElem?_replicate,h2];split<;>rfl
 ·intro e a w hh;cases e<;>first
   |exact hh.elim
   | (obtain⟨F',L',h1,h2,h3⟩:=hh
      first
       |exact h3.elim
       | (obtain⟨v,hv,hr⟩:=h3
          exact⟨h1.defers,v,kJ h1 hv w,hr w h2⟩))
end
theorem DT{x}(h1 : -9223372036854775808<=x)(h2:x<=9223372036854775807):IntKind.i64.wrap x=x:=IntWalk.i64_in _ ⟨h1,h2⟩
theorem look_eq k t cs L:look (.blk k t cs::L) k=σ cs:=by simp[look]
theorem nV{b k}(h:b≠k)t cs L:look (.blk b t cs::L) k=look L k:=by simp[look,h]
theorem dD v t s n xs L k:look (.row v t s n xs::L) k=look L k:=rfl
theorem look_nil k:look [] k=ν:=rfl
theorem nW k t cs us L:JI (.blk k t cs::L) k us=.blk k t us::L:=by simp[JI]
theorem nX{b k}(h:b≠k)t cs us L:JI (.blk b t cs::L) k us=.blk b t cs::JI L k us:=by simp[JI,h]
theorem dE v t s n xs us L k:JI (.row v t s n xs::L) k us=.row v t s n xs::JI L k us:=rfl
section
variable{P:Program}{M:List Nat}{W:World}{L:List DW}{K:Bool->Value->List DW->Prop}{g:FuncId}{args:Array Value}
theorem DI{v}(h:∀w,St M W L w->Calls P g args w (λe w'=>e=κ v/\Below w.heap.size w w'))(hk:K τ v L):I6 P M W g args L K:=λw hw =>
 (h w hw).mono (by rintro e w' ⟨rfl,hb⟩;exact⟨v,L,rfl,hw.quiet hb,hk⟩)
theorem Ee{ι:Sort _}(f:ι->Value)(φ:ι->Prop)(h:∀w,St M W L w->Calls P g args w (λe w'=>(∃i,e=κ (f i)/\φ i)/\Below w.heap.size w w'))(hk:∀i,φ i->K τ (f i) L):I6 P M W g args L K:=λw hw =>
 (h w hw).mono (by rintro e w' ⟨⟨i,rfl,hi⟩,hb⟩;exact⟨f i,L,rfl,hw.quiet hb,hk i hi⟩)
theorem OW{w:World}{base base' t size n v xs}(h:w.ownsRow base t size v n xs)(hb:base'≤base):w.ownsRow base' t size v n xs:=by
 refine⟨h.1,?_⟩;rcases h.2 with hn|⟨g,cap,cur,h1,h2,h3⟩
 ·exact .inl hn
 ·exact .inr ⟨g,cap,cur,h1,by omega,h3⟩
theorem Kz{w B t size n v xs}(h:DW.holds w (.row v t size n xs))(ho:∀b∈(DW.row v t size n xs).foot,(B<=b\/b∈([]:List Nat))/\b<w.heap.size):w.ownsRow B t size v n xs:=by
 refine⟨h.1,?_⟩;rcases h.2 with hn|⟨g,cap,cur,rfl,h2,h3⟩
 ·exact .inl hn
 ·have:=(ho g AVB).1;exact .inr ⟨g,cap,cur,rfl,by simpa using this,h3⟩
theorem St.wE{w w'}(hw:St M W L w)(hb:Below w.heap.size w w'){t size n v xs}(h:w'.ownsRow w.heap.size t size v n xs):St M W (.row v t size n xs::L) w' :=
 (hw.quiet hb).add _ (OW h (Ar _)) (λb hbf=>by
  have:=h.lt b (by simpa [DW.foot]using hbf);have h2:=hw.ES.size;exact⟨.inl AL,this.2⟩) (λs hs b hbf hbs=>by
  have:=h.lt b (by simpa [DW.foot]using hbf);have h2:=(hw.own s hs b hbs).2;omega)
def Qc:List DW->Nat->Prop
 |[],_=>True
 |.blk b _ _::L,k=>b≠k/\Qc L k
 |_::L,k=>Qc L k
theorem Dw k:Qc [] k=True:=rfl
theorem Du b t cs L k:Qc (.blk b t cs::L) k=(b≠k/\Qc L k):=rfl
theorem Dz v t s n xs L k:Qc (.row v t s n xs::L) k=Qc L k:=rfl
theorem Qz:∀ {L:List DW} {k:Nat},(∀r∈L,k∉r.foot)->Qc L k
 |[],_,_=>trivial
 |.blk b t cs::L,k,h=>⟨λe=>h (.blk b t cs) AUq AVN,Qz λr hr=>h r AU6⟩
 |.row v t s n xs::L,k,h=>Qz (L:=L) λr hr=>h r AU6
 |.dat f p l::L,k,h=>Qz (L:=L) λr hr=>h r AU6
def rowAt(A:Option Addr)(n:Nat)(W:World)(M:List Nat)(L:List DW):Prop:=(A=ν/\n=0)∨∃g,A=σ ⟨g,0,ν⟩/\(W.heap.size<=g\/g∈M)/\Qc L g
theorem St.LX{w A n c t size xs}(hw:St M W (.row (ξ A n c) t size n xs::L) w):rowAt A n W M L:=by
 rcases(hw.holds _ (.head _)).2 with⟨h,hn⟩|⟨g,cap,cur,h,_⟩
 ·left;injection h with h1;exact⟨h1,hn⟩
 ·right;injection h with h1;subst h1;refine⟨g,rfl,(hw.own _ (.head _) g AVB).1,Qz λr hr hg=>?_⟩;exact(Ak.1 hw.apart).1 r hr g AVB hg
theorem D9(f:Option Addr->Nat->Nat->Value){t size xs}
  (h:∀w,St M W L w->Calls P g args w (λe w' => ∃A n c,e=κ (f A n c)/\w'.ownsRow w.heap.size t size (ξ A n c) n xs/\Below w.heap.size w w'))
  (hk:∀A n c,xs.length=n*size->rowAt A n W M L->K τ (f A n c) (.row (ξ A n c) t size n xs::L)):I6 P M W g args L K:=λw hw =>
 (h w hw).mono (by rintro e w' ⟨A,n,c,rfl,ho,hb⟩;exact⟨_,_,rfl,hw.wE hb ho,hk A n c ho.1 (hw.wE hb ho).LX⟩)
def Jy(P:Program)(t:TypeId):Option (TypeId×Nat×Nat) :=
 match P.underlying t with
 | some (.slice e)=>match P.info? e with
  | some i=>match i.zero with
   |some z=>if z.cells.size=i.size/\0<i.size then σ (e,i.size,i.bytes) else ν
   |none=>ν
  |none=>ν
 |_=>ν
theorem QG{t e size bytes}(h:Jy P t=σ (e,size,bytes)):P.underlying t=σ (.slice e)∧∃i z,P.info? e=σ i/\i.zero=σ z/\i.size=size/\i.bytes=bytes/\z.cells.size=size/\0<size:=by
 unfold Jy at h;split at h
 ·rename_i e' he;split at h
  ·rename_i i hi;split at h
   ·rename_i z hz;split at h
    ·rename_i hc;simp only[Bn,ATN]at h;obtain⟨rfl,rfl,rfl⟩:=h;exact⟨he,i,z,hi,hz,rfl,rfl,hc.1,hc.2⟩
    ·cases h
   ·cases h
  ·cases h
 ·cases h
theorem Lu{w:World}{base t size n v xs}(h:w.ownsRow base t size v n xs):∃A c,v=ξ A n c:=by
 rcases h.2 with⟨rfl,rfl⟩|⟨g,cap,cur,rfl,_⟩
 ·exact⟨ν,0,rfl⟩
 ·exact⟨_,_,rfl⟩
theorem dF{ty t e size bytes L' v n m c A xs news}(ht:Jy P t=σ (e,size,bytes))
  (hrow:∀w,St M W L w->St M W (.row v e size n xs::L') w) (hsrc:∀w,St M W L w->Reads w w.heap.size size A m news) (h1:ones news=τ)
  (h63:n+m<=9223372036854775807) (hbytes:(n+m)*bytes<=140737488355328)
  (hk:∀A' c',(xs++news).length=(n+m)*size->rowAt A' (n+m) W M L'→K τ (ξ A' (n+m) c') (.row (ξ A' (n+m) c') e size (n+m) (xs++news)::L')):ABL P M W ty t L v (ξ A m c) K:=by
 intro w hw;obtain⟨hu,i,z,hi,hz,hs,hby,hzs,hsz⟩:=QG ht;have hst:St M W (.row v e size n xs::L') w:=hrow w hw;have hown:w.ownsRow 0 e size v n xs:=hst.holds (.row v e size n xs) AUq;obtain⟨v',w',hrun,hown',hg,hblk⟩:=PG (P:=P) w 0 t ty e i z size bytes hu hi hz hs hby hzs hsz v n xs hown w.heap.size A m c news (hsrc w hw) (λu hu=>ASu.1 h1 u hu) AWi hbytes (Ar _);obtain⟨A',c',rfl⟩:=Lu hown'
 suffices hfin:St M W (.row (ξ A' (n+m) c') e size (n+m) (xs++news)::L') w' from⟨_,_,w',hrun,hfin,hk A' c' hown'.1 hfin.LX⟩
 have hfo:=hst.own (.row v e size n xs) AUq;have hfa:=(Ak.1 hst.apart).1;have hkeep:∀r∈L',∀b∈r.foot,w'.heap[b]?=w.heap[b]? := λr hr b hb=>hg.block b (hst.own r AU6 b hb).2 (by
  intro he;exact hfa r hr b (by simp[DW.foot,<-he]) hb)
 have dG:Ii M W w':=⟨hg.os.trans hw.ES.os,hg.tape.trans hw.ES.tape,hg.output.trans hw.ES.output,AGn hw.ES.size hg.size,λk hk hm=>by
  rw[hg.block k (BS hk hw.ES.size) (by
   intro he;rcases(hfo k (by simp[DW.foot,<-he])).1 with h|h
   ·omega
   ·exact hm h)]
  exact hw.ES.block k hk hm⟩
 have hL':St M W L' w':=⟨dG,λr hr=>r.keep (hst.holds r AU6) (hkeep r hr),λr hr b hb=>⟨(hst.own r AU6 b hb).1,BS (hst.own r AU6 b hb).2 hg.size⟩,(Ak.1 hst.apart).2⟩;refine hL'.add _ hown' ?_ ?_
 ·intro b hb;have hb':(Value.slice A' (n+m) c').ownBlock=σ b:=by simpa [DW.foot]using hb
  have hlt:=(hown'.lt b hb').2;refine⟨?_,hlt⟩;rcases hblk with h|h
  ·exact(hfo b (by simp[DW.foot,<-h,hb'])).1
  ·exact AWd
 ·intro s hs b hb hbs;have hb':(Value.slice A' (n+m) c').ownBlock=σ b:=by simpa [DW.foot]using hb
  rcases hblk with h|h
  ·exact hfa s hs b (by simp[DW.foot,<-h,hb']) hbs
  ·exact AVu
theorem FZ:∀ {L:List DW} {k:Nat} {r:DW},nth L k=σ r->L.Perm (r::L.eraseIdx k)
 |x::L,0,r,h=>by cases h;exact CF _
 | x::L,k+1,r,h=>by
  have:=FZ (L:=L) (k:=k) (r:=r) h;exact(List.Perm.cons x this).trans (CL r x _)
theorem D6 k{ty t e size bytes v n m c A xs news}(ht:Jy P t=σ (e,size,bytes))
  (hrow:nth L k=σ (.row v e size n xs)) (hsrc:∀w,St M W L w->Reads w w.heap.size size A m news) (h1:ones news=τ)
  (h63:n+m<=9223372036854775807) (hbytes:(n+m)*bytes<=140737488355328)
  (hk:∀A' c',(xs++news).length=(n+m)*size->rowAt A' (n+m) W M (L.eraseIdx k)->K τ (ξ A' (n+m) c') (.row (ξ A' (n+m) c') e size (n+m) (xs++news)::L.eraseIdx k)):ABL P M W ty t L v (ξ A m c) K:=by
 exact dF ht (λw hw=>hw.perm (FZ hrow).symm) hsrc h1 h63 hbytes hk
theorem St.JR{w b t size n cs}(h:St M W (.blk b t cs::L) w)(hl:cs.length=n*size)(hn:n<=9223372036854775807):St M W (.row (ξ (σ ⟨b,0,ν⟩) n n) t size n cs::L) w:=by
 have ho:=h.own _ (.head _);refine h.tail.add _ ⟨hl,.inr ⟨b,n,cs.toArray,rfl,Ar _,h.holds _ (.head _),Ay _,by unfold maxLen;omega,by simpa using hl,by simp[<-hl]⟩⟩ ?_ ?_
 ·intro b' hb';exact ho b' AVa
 ·exact AW9
theorem EI k{ty t e size bytes b n m c A cs news}(ht:Jy P t=σ (e,size,bytes))
  (hrow:nth L k=σ (.blk b e cs)) (hl:cs.length=n*size) (hsrc:∀w,St M W L w->Reads w w.heap.size size A m news) (h1:ones news=τ)
  (h63:n+m<=9223372036854775807) (hbytes:(n+m)*bytes<=140737488355328)
  (hk:∀A' c',(cs++news).length=(n+m)*size->rowAt A' (n+m) W M (L.eraseIdx k)->K τ (ξ A' (n+m) c') (.row (ξ A' (n+m) c') e size (n+m) (cs++news)::L.eraseIdx k)):ABL P M W ty t L (ξ (σ ⟨b,0,ν⟩) n n) (ξ A m c) K :=
 dF ht (λw hw=>(hw.perm (FZ hrow).symm).JR hl AL) hsrc h1 h63 hbytes hk
theorem IJ{t T g n c size i xs vs}(hm:DW.row (ξ (σ ⟨g,0,ν⟩) n c) t size n xs∈L)(ht:Hd P T=σ (τ,vs.length))(hv:(xs.drop i).take vs.length=vs):
  LD P M W L T ⟨g,i,ν⟩ (.agg vs.toArray):=λw hw=>by
 have hv:∀(j:Nat) v,vs[j]?=σ v->xs[i+j]?=σ v:=λj v h=>by
  rw[<-hv,Bu]at h;split at h
  ·simpa using h
  ·cases h
 refine KT ht vs rfl λj v hj=>?_;have:=(hw.holds _ hm:w.ownsRow 0 t size (ξ (σ ⟨g,0,ν⟩) n c) n xs).cells (g:=g) rfl (i+j) v (hv j v hj);rw[Addr.add_lit]at this ⊢;simpa using this
theorem Dx{t T g n c size i m xs v}(hm:DW.row (ξ (σ ⟨g,0,ν⟩) n c) t size n xs∈L)(ht:Hd P T=σ (ο,m))(hv:xs[i]?=σ v):LD P M W L T ⟨g,i,ν⟩ v:=λw hw=>by
 refine Hy ht ?_;have:=(hw.holds _ hm:w.ownsRow 0 t size (ξ (σ ⟨g,0,ν⟩) n c) n xs).cells (g:=g) rfl i v hv;rw[Addr.add_lit]at this;simpa using this
theorem D_{b t cs size m}(hm:DW.blk b t cs∈L)(hl:cs.length=m*size){w}(hw:St M W L w):Reads w w.heap.size size (σ ⟨b,0,ν⟩) m cs :=
 ⟨hl,λ_=>⟨_,rfl,(hw.own _ hm b AUp).2,λj u hu=>by rw[Addr.add_lit,Ao,hw.Gd hm];exact hu⟩⟩
theorem Hz{A n c t size xs}(hm:DW.row (ξ A n c) t size n xs∈L){w}(hw:St M W L w):Reads w w.heap.size size A n xs :=
 Reads.JA (hw.holds _ hm)
end
def Dl:List Nat->List DW->List DW
 |[],_=>[]
 | i::ix,L=>match nth L i with
  |some r=>r::Dl ix L
  |none=>Dl ix L
theorem Nb{L:List DW} : ∀ {ix:List Nat} {r:DW},r∈Dl ix L→∃i∈ix,nth L i=σ r
 | i::ix,r,h=>by
  simp only[Dl]at h;split at h
  ·rename_i s hs;rcases AP.1 h with rfl|h
   ·exact⟨i,by simp,hs⟩
   ·obtain⟨j,hj,h1⟩:=Nb h;exact⟨j,by simp[hj],h1⟩
  ·obtain⟨j,hj,h1⟩:=Nb h;exact⟨j,by simp[hj],h1⟩
theorem St.pick{M W w L}(h:St M W L w){ix}(hnd:ix.Nodup):St M W (Dl ix L) w:=by
 have hmem:∀r∈Dl ix L,r∈L:=λr hr=>by
  obtain⟨i,_,hi⟩:=Nb hr;rw[GY]at hi;exact AU hi
 refine⟨h.ES,λr hr=>h.holds r (hmem r hr),λr hr=>h.own r (hmem r hr),?_⟩;have key:∀(ix:List Nat),ix.Nodup->(Dl ix L).Pairwise (λr s => ∀b∈r.foot,b∉s.foot):=by
  intro ix
  induction ix with
  |nil=>intro _;exact AS7
  | cons i ix ih =>
   intro hn;rw[CO]at hn;simp only[Dl];split
   ·rename_i r hr;refine Ak.2 ⟨λs hs b hb hbs=>?_,ih hn.2⟩;obtain⟨j,hj,hjs⟩:=Nb hs;have hne:i≠j:=λe=>hn.1 (e▸hj);rw[GY]at hr hjs;obtain⟨hi1,hi2⟩:=Ab.1 hr;obtain⟨hj1,hj2⟩:=Ab.1 hjs;have hp:=Cj.1 h.apart;rcases Nat.lt_or_gt_of_ne hne with hlt|hlt
    ·exact hp i j hi1 hj1 hlt b (hi2▸hb) (hj2▸hbs)
    ·exact hp j i hj1 hi1 hlt b (hj2▸hbs) (hi2▸hb)
   ·exact ih hn.2
 exact key ix hnd
section
variable{P:Program}{M:List Nat}{W:World}{n:Nat}{c:Code}{F:Fr}{L:List DW}{Q:Exit->Fr->List DW->Prop}
theorem ABQ ix(hnd:ix.Nodup)(h:CV P M W n c F (Dl ix L) Q):CV P M W n c F L Q:=λa w ha hw=>h a w ha (hw.pick hnd)
theorem ED ix(hnd:ix.Nodup)(h:CV P M W n c F L (λe F' L'=>Q e F' (Dl ix L'))):CV P M W n c F L Q:=λa w ha hw =>
 wp_mono (h a w ha hw) (by
  intro e a' w' hh;cases e<;>first
   |exact hh
   |(obtain⟨F',L',h1,h2,h3⟩:=hh;exact⟨F',_,h1,h2.pick hnd,h3⟩))
theorem K3{c}(h:CV P M W n c F L (Dq (λF' L'=>Q .normal F' L') Q)):CV P M W n c F L Q:=h.mono λe F' L' hh=>by cases e<;>exact hh
theorem DJ{id l}(hd:l.all (λo=>Mm n o.dst)=τ)(h:Xm P M W n l τ l F L (λF' L'=>Q .normal F' L')):CV P M W n (.region id l.toArray ο) F L Q:=YW hd h λ_ _ h=>h
theorem FB t size(h:CV P M W n c F (.row (ξ ν 0 0) t size 0 []::L) Q):CV P M W n c F L Q:=λa w ha hw =>
 h a w ha (hw.add _ (World.ownsRow_nil w 0 t size) AVB AVB)
end
def UT:List DW->Nat->Prop
 |[],_=>True
 |.row (ξ A _ _) _ _ _ _::L,b=>(∀g,A=σ ⟨g,0,ν⟩->g≠b)/\UT L b
 |_::L,b=>UT L b
def Ht(W:World)(M:List Nat):List DW->Prop
 |[]=>True
 |.blk b _ _::L=>(W.heap.size<=b\/b∈M)/\Qc L b/\UT L b/\Ht W M L
 |.row (ξ A _ _) _ _ n _::L=>rowAt A n W M L/\Ht W M L
 |_::L=>Ht W M L
theorem Rn b:UT [] b=True:=rfl
theorem VG k t cs L b:UT (.blk k t cs::L) b=UT L b:=rfl
theorem Ro A n c t s m xs L b:UT (.row (ξ A n c) t s m xs::L) b=((∀g,A=σ ⟨g,0,ν⟩->g≠b)/\UT L b):=rfl
theorem QH W M:Ht W M []=True:=rfl
theorem Nc W M k t cs L:Ht W M (.blk k t cs::L)=((W.heap.size<=k\/k∈M)/\Qc L k/\UT L k/\Ht W M L):=rfl
theorem Nf W M A n c t s m xs L:Ht W M (.row (ξ A n c) t s m xs::L)=(rowAt A m W M L/\Ht W M L):=rfl
theorem ZZ:∀ {L:List DW} {b:Nat},(∀r∈L,b∉r.foot)->UT L b
 |[],_,_=>trivial
 |.blk k t cs::L,b,h=>ZZ (L:=L) λr hr=>h r AU6
 |.dat f p l::L,b,h=>ZZ (L:=L) λr hr=>h r AU6
 | .row v t s n xs::L,b,h=>by
  have h2:UT L b:=ZZ (L:=L) λr hr=>h r AU6;unfold UT;split
  ·trivial
  ·rename_i A m c t' s' n' xs' L' b' hh;cases hh;exact⟨λg hg e=>h _ (.head _) (by subst hg;simp[DW.foot,Value.ownBlock,e]),h2⟩
  ·rename_i hh;cases hh;exact h2
theorem St.facts{M:List Nat}{W w:World} : ∀ {L:List DW},St M W L w->Ht W M L
 |[],_=>trivial
 | .blk k t cs::L,h=>by
  have ht:St M W L w:=h.sub (ASV _ _);have hp:=(Ak.1 h.apart).1;have hk:∀r∈L,k∉r.foot:=λr hr=>hp r hr k AUp;exact⟨(h.own _ (.head _) k AUp).1,Qz hk,ZZ hk,ht.facts⟩
 |.dat f p l::L,h=>St.facts (L:=L) (h.sub (ASV _ _))
 | .row v t s n xs::L,h=>by
  have ht:Ht W M L:=St.facts (h.sub (ASV _ _));unfold Ht;split
  ·trivial
  ·rename_i hh;cases hh
  ·rename_i A m c t' s' n' xs' L' hh;cases hh;rcases(h.holds _ (.head _)).2 with⟨h1,hn⟩|⟨g,cap,cur,h1,_⟩
   ·injection h1 with h1;exact⟨.inl ⟨h1,hn⟩,ht⟩
   ·injection h1 with h1 h3;subst h1;subst h3;exact⟨h.LX,ht⟩
  ·rename_i hh;cases hh;exact ht
theorem Rp{P M W n c F L Q}(h:Ht W M L->CV P M W n c F L Q):CV P M W n c F L Q:=λa w ha hw=>h hw.facts a w ha hw
theorem DX{α:Sort _}{A:α->Prop}{K:α->Bool->Prop}{v}(h:A v)(hk:K v τ):∃v,A v∧∀tok,tok=τ->K v tok:=⟨v,h,λ_ e=>e▸hk⟩
theorem C9{P M W n i l y F L Q}(hd:l.all (λo=>Mm n o.dst)=τ)(h:∀K:Fr->List DW->Prop,(∀F' L',CV P M W n y F' L' Q->K F' L')->Xm P M W n l τ l F L K):CV P M W n (.seq (.region i l.toArray ο) y) F L Q:=Cw λK hK=>Cy hd (h K hK)
theorem YX{P M W n i l y F F2 L L2 Q}(hd:l.all (λo=>Mm n o.dst)=τ)(h:∀K:Fr->List DW->Prop,Xm P M W n l τ l F L K=K F2 L2)(hk:CV P M W n y F2 L2 Q):CV P M W n (.seq (.region i l.toArray ο) y) F L Q:=C9 hd λK hK=>(h K)▸hK _ _ hk
def EH(F G:Fr):List Nat->Prop
 |[]=>True
 |a::l=>F a=G a/\EH F G l
theorem dH(F:Fr):∀l,EH F F l
 |[]=>trivial
 |_::l=>⟨rfl,dH F l⟩
theorem DC{P M W n c F L Q}l(h:∀G:Fr,EH G F l->CV P M W n c G L Q):CV P M W n c F L Q:=h F (dH F l)
theorem kK{P M W n F L Q c x y b}(hv:ev F c=θ b)(h1:b=τ->CV P M W n x F L Q)(h2:b=ο->CV P M W n y F L Q):CV P M W n (.cond c x y) F L Q:=C_ (by unfold dC;rw[hv];exact⟨h1,h2⟩)
theorem DL{P:Program}{M:List Nat}{W:World}{n:Nat}{f:FuncId}{fn:Func}{c:Code}{args:List Value}{R:Ending->World->Prop}{L:List DW}(hf:P.funcs[f]?=σ fn)(rs:List ResultVar)(hw:St M W L W)(h:CV P M W n c (mkF args) L (wC M W rs R))(hrs:fn.results=rs.toArray:=by exact rfl)(hb:fn.body=σ c:=by exact rfl)(hn:fn.ntmps=n:=by exact rfl)(hl:args.length<=n:=by exact Am rfl):Calls P f args.toArray W R:=wD rs hrs hf hb hn hl hw h
theorem Vm:Jy AGm 24=σ (49,5,40):=by kernel_rfl
theorem ADH:Jy AGm 25=σ (41,6,80):=by kernel_rfl
theorem ADI:Jy AGm 22=σ (125,1,2):=by kernel_rfl
theorem ADJ:Jy AGm 71=σ (75,6,80):=by kernel_rfl
theorem Ng:Jy AGm 73=σ (29,1,8):=by kernel_rfl
theorem GL:Jy AGm 27=σ (3,1,8):=by kernel_rfl
theorem AGr:Jy AGm 28=σ (59,7,56):=by kernel_rfl
theorem YY:Jy AGm 39=σ (117,4,32):=by kernel_rfl
theorem PR:Jy AGm 164=σ (171,2,16):=by kernel_rfl
theorem kL:Jy AGm 127=σ (169,4,48):=by kernel_rfl
theorem ADK:Jy AGm 99=σ (148,1,8):=by kernel_rfl
theorem Vn:Jy AGm 38=σ (5,1,1):=by kernel_rfl
theorem AGs:Jy AGm 76=σ (236,4,48):=by kernel_rfl
theorem Nh:Jy AGm 26=σ (37,2,16):=by kernel_rfl
theorem AGt:Jy AGm 95=σ (38,1,24):=by kernel_rfl
theorem wF:Jy AGm 214=σ (258,2,16):=by kernel_rfl
theorem AGu:Jy AGm 84=σ (216,2,32):=by kernel_rfl
theorem wG:Jy AGm 301=σ (328,3,24):=by kernel_rfl
theorem ADL:Jy AGm 92=σ (292,4,32):=by kernel_rfl
theorem kM:Jy AGm 191=σ (269,4,32):=by kernel_rfl
theorem tyA:Fb AGm 31=σ [ξ ν 0 0,ξ ν 0 0,ξ ν 0 0,ε ζ 0,ξ ν 0 0,ε υ 0]/\Hd AGm 31=σ (τ,6)/\Fp AGm 31 0=σ 0/\Hd AGm 25=σ (ο,1)/\FX AGm 25=3/\Re AGm 3=σ ζ/\(Program.underlying AGm 5).isSome=τ/\TP AGm 25=σ (41,6)/\Ls AGm 25=ν/\Hd AGm 41=σ (τ,6)/\Fb AGm 41=σ [ε υ 0,ε ζ 0,ε ζ 0,ε ζ 0,ξ ν 0 0,ξ ν 0 0]/\Fp AGm 41 0=σ 0/\Hd AGm 35=σ (ο,1)/\(Program.underlying AGm 23).isSome=τ/\TP AGm 24=σ (49,5)/\Fb AGm 49=σ [ε ζ 0,ε ζ 0,ε υ 0,ε υ 0,ε ζ 0]/\Jy AGm 24=σ (49,5,40)/\Fp AGm 41 1=σ 1/\Hd AGm 3=σ (ο,1)/\tst AGm 49=σ ([(0,1),(1,1),(2,1),(3,1),(4,1)],[ε ζ 0,ε ζ 0,ε υ 0,ε υ 0,ε ζ 0])/\FX AGm 24=3/\Ls AGm 24=ν/\Hd AGm 49=σ (τ,5)/\Fp AGm 49 4=σ 4/\Hd AGm 45=σ (ο,1)/\Fp AGm 49 1=σ 1/\FX AGm 52=0/\Fp AGm 41 4=σ 5/\Hd AGm 39=σ (ο,1)/\Fp AGm 41 3=σ 4/\Hd AGm 38=σ (ο,1)/\FX AGm 38=3/\Fp AGm 41 2=σ 2/\Hd AGm 37=σ (τ,2)/\tst AGm 37=σ ([(0,1),(1,1)],[ε ζ 0,ε ζ 0])/\FX AGm 37=0/\kH AGm 37=σ 2/\Fp AGm 31 4=σ 4/\Hd AGm 28=σ (ο,1)/\FX AGm 28=3/\TP AGm 28=σ (59,7)/\Ls AGm 28=ν/\Hd AGm 59=σ (τ,7)/\Fb AGm 59=σ [ε ζ 0,ε ζ 0,ε ζ 0,ε ζ 0,ε ζ 0,ε ζ 0,ε ζ 0]/\Fb AGm 57=σ [ε ζ 0,ε ζ 0,ε ζ 0,ε ζ 0,ε ζ 0]/\Hd AGm 57=σ (τ,5)/\Fp AGm 57 1=σ 1/\Fp AGm 59 2=σ 2/\Fp AGm 57 2=σ 2/\Fp AGm 57 3=σ 3/\Fb AGm 64=σ [ε ζ 0,ε ζ 0,ε χ 0,ε ζ 0,ε ζ 0,ε ζ 0,ε ζ 0,ε ζ 0,ε ζ 0]/\Hd AGm 64=σ (τ,9)/\tst AGm 31=σ ([(0,1),(1,1),(2,1),(3,1),(4,1),(5,1)],[ξ ν 0 0,ξ ν 0 0,ξ ν 0 0,ε ζ 0,ξ ν 0 0,ε υ 0])/\Fp AGm 64 2=σ 2/\Hd AGm 23=σ (ο,1)/\FX AGm 71=3/\TP AGm 71=σ (75,6)/\Ls AGm 71=ν/\Hd AGm 75=σ (τ,6)/\Fb AGm 75=σ [ε ζ 0,ε ζ 0,ε ζ 0,ε υ 0,ξ ν 0 0,ξ ν 0 0]/\Fp AGm 101 0=σ 0/\Hd AGm 98=σ (ο,1)/\Fp AGm 97 6=σ 18/\Fp AGm 83 1=σ 1/\Hd AGm 24=σ (ο,1)/\Re AGm 29=σ υ/\(Program.underlying AGm 3).isSome=τ/\(Program.underlying AGm 35).isSome=τ/\tst AGm 107=σ ([(0,1),(1,1)],[.map ν,.map ν])/\Fp AGm 107 1=σ 1/\Hd AGm 105=σ (ο,1)/\FX AGm 27=3/\TP AGm 27=σ (3,1)/\Ls AGm 27=ν/\Jy AGm 25=σ (41,6,80)/\FX AGm 39=3/\TP AGm 39=σ (117,4)/\Ls AGm 39=ν/\Hd AGm 117=σ (τ,4)/\FX AGm 117=0/\kH AGm 117=σ 4/\Fp AGm 49 0=σ 0/\tst AGm 64=σ ([(0,1),(1,1),(2,1),(3,1),(4,3),(7,1),(8,1)],[ε ζ 0,ε ζ 0,ε χ 0,ε ζ 0,ε ζ 0,ε ζ 0,ε ζ 0,ε ζ 0,ε ζ 0])/\tst AGm 62=σ ([(0,1),(1,1),(2,1)],[ε ζ 0,ε ζ 0,ε ζ 0])/\Fp AGm 64 4=σ 4/\Hd AGm 62=σ (τ,3)/\Fp AGm 64 1=σ 1/\Fp AGm 64 3=σ 3/\FX AGm 22=3/\TP AGm 22=σ (125,1)/\Fb AGm 125=σ [ε .u16 0]/\Jy AGm 22=σ (125,1,2)/\tst AGm 122=σ ([(0,1),(1,1)],[ξ ν 0 0,ε ζ 0])/\tst AGm 101=σ ([(0,1),(1,1)],[π ν,ξ ν 0 0])/\Re AGm 125=σ .u16/\tst AGm 75=σ ([(0,1),(1,1),(2,1),(3,1),(4,1),(5,1)],[ε ζ 0,ε ζ 0,ε ζ 0,ε υ 0,ξ ν 0 0,ξ ν 0 0])/\Jy AGm 71=σ (75,6,80)/\Fp AGm 75 4=σ 4/\Hd AGm 73=σ (ο,1)/\TP AGm 73=σ (29,1)/\Fb AGm 29=σ [ε υ 0]/\Jy AGm 73=σ (29,1,8)/\Fp AGm 75 2=σ 2/\Fb AGm 80=σ [ε ζ 0,ε ζ 0,ε ζ 0,ε ζ 0,ε ζ 0,ξ ν 0 0,ε ζ 0]/\Fp AGm 75 0=σ 0/\Fp AGm 75 5=σ 5/\Fb AGm 132=σ [ε ζ 0,ε ζ 0,ε ζ 0]/\Hd AGm 132=σ (τ,3)/\Fp AGm 132 0=σ 0/\tst AGm 80=σ ([(0,1),(1,5),(6,1)],[ε ζ 0,ε ζ 0,ε ζ 0,ε ζ 0,ε ζ 0,ξ ν 0 0,ε ζ 0])/\Hd AGm 80=σ (τ,7)/\Fp AGm 75 3=σ 3/\Hd AGm 29=σ (ο,1)/\Fb AGm 78=σ [ε ζ 0,ε ζ 0,ε ζ 0,ε ζ 0,ξ ν 0 0]/\Hd AGm 78=σ (τ,5)/\Fp AGm 78 0=σ 0/\Fp AGm 75 1=σ 1/\Fp AGm 97 2=σ 10/\Fb AGm 3=σ [ε ζ 0]/\Fp AGm 97 3=σ 12/\Hd AGm 89=σ (ο,1)/\Fp AGm 146 0=σ 0/\Hd AGm 143=σ (ο,1)/\Fp AGm 142 3=σ 3/\Hd AGm 27=σ (ο,1)/\Jy AGm 27=σ (3,1,8)/\Fp AGm 142 4=σ 4/\Fp AGm 101 1=σ 1/\Hd AGm 99=σ (ο,1)/\FX AGm 99=3/\TP AGm 99=σ (148,1)/\Ls AGm 99=ν/\Hd AGm 148=σ (ο,1)/\Jy AGm 28=σ (59,7,56)/\Fp AGm 107 0=σ 0/\Hd AGm 104=σ (ο,1)/\Fp AGm 154 0=σ 0/\Fp AGm 154 1=σ 1/\tst AGm 41=σ ([(0,1),(1,1),(2,2),(4,1),(5,1)],[ε υ 0,ε ζ 0,ε ζ 0,ε ζ 0,ξ ν 0 0,ξ ν 0 0])/\Fp AGm 154 3=σ 3/\Hd AGm 152=σ (ο,1)/\Fp AGm 154 2=σ 2/\tst AGm 117=σ ([(0,1),(1,1),(2,1),(3,1)],[ε ζ 0,ε ζ 0,ε ζ 0,ε ζ 0])/\Fb AGm 117=σ [ε ζ 0,ε ζ 0,ε ζ 0,ε ζ 0]/\Jy AGm 39=σ (117,4,32)/\tbs AGm 38 9=τ/\Re AGm 9=ν/\(Program.underlying AGm 38).isSome=τ/\FX AGm 9=4/\Fp AGm 117 1=σ 1/\Fp AGm 122 1=σ 1/\Fp AGm 122 0=σ 0/\Hd AGm 22=σ (ο,1)/\Ls AGm 22=ν/\Hd AGm 125=σ (ο,1)/\(Program.underlying AGm 125).isSome=τ/\tst AGm 97=σ ([(0,9),(9,1),(10,2),(12,1),(13,1),(14,4),(18,3),(21,1),(22,1)],[ε ζ 0,ε ζ 0,ε χ 0,ε ζ 0,ε ζ 0,ε ζ 0,ε ζ 0,ε ζ 0,ε ζ 0,ξ ν 0 0,ε ζ 0,ξ ν 0 0,π ν,ξ ν 0 0,ε ζ 0,ε ζ 0,ε ζ 0,ξ ν 0 0,ε ζ 0,ξ ν 0 0,ξ ν 0 0,ξ ν 0 0,ξ ν 0 0])/\Fp AGm 88 0=σ 0/\Fp AGm 64 0=σ 0/\Fp AGm 97 5=σ 14/\Fp AGm 94 0=σ 0/\Fp AGm 83 0=σ 0/\Fp AGm 97 7=σ 21/\Hd AGm 95=σ (ο,1)/\Fp AGm 97 8=σ 22/\Hd AGm 129=σ (τ,2)/\Fb AGm 129=σ [ξ ν 0 0,ξ ν 0 0]/\tst AGm 129=σ ([(0,1),(1,1)],[ξ ν 0 0,ξ ν 0 0])/\tst AGm 166=σ ([(0,1),(1,1),(2,1),(3,1),(4,1),(5,1)],[π ν,ξ ν 0 0,ξ ν 0 0,ε ζ 0,ε ζ 0,ε χ 0])/\Fp AGm 166 1=σ 1/\Hd AGm 164=σ (ο,1)/\tst AGm 169=σ ([(0,1),(1,1),(2,1),(3,1)],[ε ζ 0,ε ζ 0,ε ζ 0,ξ ν 0 0])/\TP AGm 127=σ (169,4)/\Fb AGm 169=σ [ε ζ 0,ε ζ 0,ε ζ 0,ξ ν 0 0]/\Fp AGm 129 1=σ 1/\Hd AGm 127=σ (ο,1)/\tst AGm 171=σ ([(0,1),(1,1)],[ε ζ 0,ε υ 0])/\TP AGm 164=σ (171,2)/\Fb AGm 171=σ [ε ζ 0,ε υ 0]/\Jy AGm 164=σ (171,2,16)/\Jy AGm 127=σ (169,4,48)/\tst AGm 132=σ ([(0,1),(1,1),(2,1)],[ε ζ 0,ε ζ 0,ε ζ 0])/\Fp AGm 97 0=σ 0/\Fp AGm 64 5=σ 7/\Fp AGm 64 6=σ 8/\Fb AGm 148=σ [π ν]/\Jy AGm 99=σ (148,1,8)/\FX AGm 73=3/\tst AGm 78=σ ([(0,1),(1,1),(2,1),(3,1),(4,1)],[ε ζ 0,ε ζ 0,ε ζ 0,ε ζ 0,ξ ν 0 0])/\FX AGm 144=3/\TP AGm 144=σ (182,5)/\Ls AGm 144=ν/\Fp AGm 182 0=σ 0/\Fp AGm 182 1=σ 1/\Fp AGm 182 3=σ 3/\TP AGm 38=σ (5,1)/\Fb AGm 5=σ [ε η 0]/\TP AGm 95=σ (38,1)/\Ls AGm 95=ν/\Jy AGm 38=σ (5,1,1)/\Fp AGm 97 4=σ 13/\Fp AGm 88 1=σ 1/\Hd AGm 26=σ (ο,1)/\FX AGm 26=3/\TP AGm 26=σ (37,2)/\Ls AGm 26=ν/\Ls AGm 73=ν/\Fp AGm 198 2=σ 2/\Hd AGm 196=σ (ο,1)/\Fp AGm 195 3=σ 4/\Fp AGm 193 0=σ 0/\Fp AGm 193 1=σ 1/\Fp AGm 198 0=σ 0/\Fp AGm 198 1=σ 1/\tst AGm 59=σ ([(0,1),(1,1),(2,5)],[ε ζ 0,ε ζ 0,ε ζ 0,ε ζ 0,ε ζ 0,ε ζ 0,ε ζ 0])/\Fp AGm 49 3=σ 3/\Fp AGm 49 2=σ 2/\FX AGm 113=2/\tst AGm 154=σ ([(0,1),(1,1),(2,1),(3,1)],[ε υ 0,ε ζ 0,ε ζ 0,.map ν])/\FX AGm 152=0/\Re AGm 208=σ υ/\Fp AGm 62 0=σ 0/\Fp AGm 62 1=σ 1/\Fp AGm 62 2=σ 2/\tst AGm 146=σ ([(0,1),(1,1)],[π ν,ξ ν 0 0])/\tbs AGm 38 38=ο/\Re AGm 38=ν/\Fp AGm 129 0=σ 0/\Hd AGm 84=σ (ο,1)/\FX AGm 84=3/\TP AGm 84=σ (216,2)/\Ls AGm 84=ν/\Hd AGm 216=σ (τ,2)/\FX AGm 127=3/\Ls AGm 127=ν/\Hd AGm 169=σ (τ,4)/\Fp AGm 169 0=σ 0/\Fp AGm 169 1=σ 1/\Fp AGm 169 2=σ 2/\Fp AGm 169 3=σ 3/\FX AGm 164=3/\Ls AGm 164=ν/\Hd AGm 171=σ (τ,2)/\Fb AGm 216=σ [ε ζ 0,ξ ν 0 0]/\Fp AGm 166 2=σ 2/\Fp AGm 166 0=σ 0/\Hd AGm 66=σ (ο,1)/\Fp AGm 166 4=σ 4/\tst AGm 198=σ ([(0,1),(1,1),(2,1),(3,1)],[π ν,ε ζ 0,π ν,ξ ν 0 0])/\Fp AGm 97 1=σ 9/\Fp AGm 198 3=σ 3/\Fp AGm 78 3=σ 3/\Fp AGm 78 4=σ 4/\Hd AGm 76=σ (ο,1)/\tst AGm 236=σ ([(0,1),(1,1),(2,1),(3,1)],[ε ζ 0,ξ ν 0 0,ε υ 0,ε ζ 0])/\TP AGm 76=σ (236,4)/\Fb AGm 236=σ [ε ζ 0,ξ ν 0 0,ε υ 0,ε ζ 0]/\Jy AGm 76=σ (236,4,48)/\Fp AGm 78 1=σ 1/\Fp AGm 78 2=σ 2/\Fp AGm 146 1=σ 1/\Hd AGm 144=σ (ο,1)/\Fp AGm 142 2=σ 2/\Hd AGm 140=σ (ο,1)/\TP AGm 140=σ (4,1)/\Ls AGm 140=ν/\Hd AGm 4=σ (ο,1)/\Hd AGm 182=σ (τ,5)/\Fb AGm 182=σ [ε υ 0,ε ζ 0,ε ζ 0,ε ζ 0,ε ζ 0]/\Jy AGm 144=σ (182,5,40)/\Fp AGm 91 0=σ 0/\Fp AGm 117 0=σ 0/\Fb AGm 37=σ [ε ζ 0,ε ζ 0]/\Fp AGm 37 0=σ 0/\Fp AGm 37 1=σ 1/\Jy AGm 26=σ (37,2,16)/\FX AGm 95=3/\Fb AGm 38=σ [ξ ν 0 0]/\Jy AGm 95=σ (38,1,24)/\Ls AGm 38=ν/\Hd AGm 5=σ (ο,1)/\Fb AGm 62=σ [ε ζ 0,ε ζ 0,ε ζ 0]/\tst AGm 57=σ ([(0,1),(1,1),(2,1),(3,1),(4,1)],[ε ζ 0,ε ζ 0,ε ζ 0,ε ζ 0,ε ζ 0])/\(Program.underlying AGm 29).isSome=τ/\Re AGm 23=σ χ/\(Program.underlying AGm 208).isSome=τ/\tst AGm 142=σ ([(0,1),(1,1),(2,1),(3,1),(4,1)],[ε ζ 0,ξ ν 0 0,ξ ν 0 0,ξ ν 0 0,ε ζ 0])/\Re AGm 5=σ η/\Fp AGm 216 0=σ 0/\Fp AGm 216 1=σ 1/\Hd AGm 214=σ (ο,1)/\FX AGm 214=3/\TP AGm 214=σ (258,2)/\Ls AGm 214=ν/\Fp AGm 258 0=σ 0/\Fp AGm 258 1=σ 1/\Fp AGm 171 0=σ 0/\Fp AGm 171 1=σ 1/\Fb AGm 258=σ [ε ζ 0,ε ζ 0]/\tst AGm 216=σ ([(0,1),(1,1)],[ε ζ 0,ξ ν 0 0])/\Jy AGm 214=σ (258,2,16)/\Fp AGm 166 3=σ 3/\tst AGm 263=σ ([(0,1),(1,1)],[ξ ν 0 0,ε ζ 0])/\Fp AGm 263 1=σ 1/\Jy AGm 84=σ (216,2,32)/\Fp AGm 263 0=σ 0/\pv.tpt AGm 132 0=σ ο/\tst AGm 195=σ ([(0,2),(2,1),(3,1),(4,5)],[ξ ν 0 0,ξ ν 0 0,ε ζ 0,ε ζ 0,ε ζ 0,ε ζ 0,ξ ν 0 0,ξ ν 0 0,ε ζ 0])/\tst AGm 193=σ ([(0,1),(1,1),(2,1),(3,1),(4,1)],[ε ζ 0,ε ζ 0,ξ ν 0 0,ξ ν 0 0,ε ζ 0])/\Hd AGm 193=σ (τ,5)/\tst AGm 269=σ ([(0,1),(1,1),(2,1),(3,1)],[ε ζ 0,ε ζ 0,ε ζ 0,ε ζ 0])/\TP AGm 191=σ (269,4)/\Fb AGm 269=σ [ε ζ 0,ε ζ 0,ε ζ 0,ε ζ 0]/\Fp AGm 86 0=σ 0/\Hd AGm 269=σ (τ,4)/\Fp AGm 193 4=σ 4/\Fp AGm 193 3=σ 3/\(Program.underlying AGm 45).isSome=τ/\Fp AGm 94 1=σ 3/\Hd AGm 92=σ (ο,1)/\FX AGm 92=3/\TP AGm 92=σ (292,4)/\Ls AGm 92=ν/\Fp AGm 292 0=σ 0/\Fp AGm 292 1=σ 1/\Fp AGm 83 2=σ 2/\Re AGm 294=σ υ/\Fb AGm 294=σ [ε υ 0]/\Hd AGm 294=σ (ο,1)/\Hd AGm 258=σ (τ,2)/\tst AGm 258=σ ([(0,1),(1,1)],[ε ζ 0,ε ζ 0])/\Fp AGm 166 5=σ 5/\FX AGm 258=0/\kH AGm 258=σ 2/\Fp AGm 193 2=σ 2/\Hd AGm 191=σ (ο,1)/\FX AGm 191=3/\Ls AGm 191=ν/\Fp AGm 195 0=σ 0/\Fp AGm 269 0=σ 0/\Fp AGm 269 1=σ 1/\Fp AGm 195 2=σ 3/\tst AGm 328=σ ([(0,1),(1,1),(2,1)],[ε ζ 0,ε ζ 0,ε ζ 0])/\TP AGm 301=σ (328,3)/\Fb AGm 328=σ [ε ζ 0,ε ζ 0,ε ζ 0]/\Jy AGm 301=σ (328,3,24)/\Hd AGm 292=σ (τ,4)/\Fb AGm 292=σ [ε ζ 0,ε ζ 0,ε ζ 0,ε ζ 0]/\Jy AGm 92=σ (292,4,32)/\tst AGm 292=σ ([(0,1),(1,3)],[ε ζ 0,ε ζ 0,ε ζ 0,ε ζ 0])/\Fp AGm 195 1=σ 2/\Jy AGm 191=σ (269,4,32)/\Fp AGm 269 2=σ 2/\tst AGm 182=σ ([(0,1),(1,1),(2,1),(3,2)],[ε υ 0,ε ζ 0,ε ζ 0,ε ζ 0,ε ζ 0])/\Hd AGm 328=σ (τ,3)/\Fp AGm 328 0=σ 0/\Fp AGm 328 1=σ 1/\Fp AGm 142 1=σ 1/\Fp AGm 117 2=σ 2/\Fp AGm 182 2=σ 2/\Fp AGm 328 2=σ 2/\Fp AGm 117 3=σ 3/\FX AGm 140=3/\Fp AGm 142 0=σ 0/\Ls AGm 301=ν:=by
 repeat' refine AO ?_ ?_
 all_goals kernel_rfl
theorem fnA:DF AGm 2=τ/\DF AGm 3=τ/\DF AGm 4=τ/\DF AGm 5=τ/\DF AGm 6=τ/\DF AGm 7=τ/\DF AGm 8=τ/\DF AGm 9=τ/\DF AGm 10=τ/\DF AGm 11=τ/\DF AGm 12=τ/\DF AGm 13=τ/\DF AGm 14=τ/\DF AGm 15=τ/\DF AGm 16=τ/\DF AGm 17=τ/\DF AGm 18=τ/\DF AGm 19=τ/\DF AGm 20=τ/\DF AGm 21=τ/\DF AGm 22=τ/\DF AGm 23=τ/\DF AGm 24=τ/\DF AGm 25=τ/\DF AGm 26=τ/\DF AGm 27=τ/\DF AGm 28=τ/\DF AGm 29=τ/\DF AGm 30=τ/\DF AGm 31=τ/\DF AGm 32=τ/\DF AGm 33=τ/\DF AGm 34=τ/\DF AGm 35=τ/\DF AGm 36=τ/\DF AGm 37=τ/\DF AGm 38=τ/\DF AGm 39=τ/\DF AGm 40=τ/\DF AGm 41=τ/\DF AGm 42=τ/\DF AGm 43=τ/\DF AGm 44=τ/\DF AGm 45=τ/\DF AGm 46=τ/\DF AGm 47=τ/\DF AGm 48=τ/\DF AGm 49=τ/\DF AGm 50=τ/\DF AGm 51=τ/\DF AGm 52=τ/\DF AGm 53=τ/\DF AGm 54=τ/\DF AGm 55=τ/\DF AGm 56=τ/\DF AGm 57=τ/\DF AGm 58=τ/\DF AGm 59=τ/\DF AGm 60=τ/\DF AGm 61=τ/\DF AGm 62=τ/\DF AGm 63=τ/\DF AGm 64=τ/\DF AGm 65=τ/\DF AGm 66=τ/\DF AGm 67=τ/\DF AGm 68=τ/\DF AGm 69=τ/\DF AGm 70=τ/\DF AGm 71=τ/\DF AGm 72=τ/\DF AGm 73=τ/\DF AGm 74=τ/\DF AGm 75=τ/\DF AGm 76=τ/\DF AGm 77=τ/\DF AGm 78=τ/\DF AGm 79=τ/\DF AGm 80=τ/\DF AGm 81=τ/\DF AGm 82=τ/\DF AGm 83=τ/\DF AGm 84=τ/\DF AGm 85=τ/\DF AGm 86=τ/\DF AGm 87=τ/\DF AGm 88=τ/\DF AGm 89=τ/\DF AGm 90=τ/\DF AGm 91=τ/\DF AGm 92=τ/\DF AGm 93=τ/\DF AGm 94=τ/\DF AGm 95=τ/\DF AGm 96=τ/\DF AGm 97=τ/\DF AGm 98=τ/\DF AGm 99=τ/\DF AGm 100=τ/\DF AGm 101=τ/\DF AGm 102=τ/\DF AGm 103=τ/\DF AGm 104=τ/\DF AGm 105=τ/\DF AGm 106=τ/\DF AGm 107=τ/\DF AGm 108=τ/\DF AGm 109=τ/\DF AGm 110=τ/\DF AGm 111=τ/\DF AGm 112=τ/\DF AGm 113=τ/\DF AGm 114=τ/\DF AGm 115=τ/\DF AGm 116=τ/\DF AGm 117=τ/\DF AGm 118=τ/\DF AGm 119=τ/\DF AGm 120=τ/\DF AGm 121=τ/\DF AGm 122=τ/\DF AGm 123=τ/\DF AGm 124=τ/\DF AGm 125=τ/\DF AGm 126=τ/\DF AGm 127=τ/\DF AGm 128=τ/\DF AGm 129=τ/\DF AGm 130=τ/\DF AGm 131=τ/\DF AGm 132=τ/\DF AGm 133=τ/\DF AGm 134=τ/\DF AGm 135=τ/\DF AGm 136=τ/\DF AGm 137=τ/\DF AGm 138=τ/\DF AGm 139=τ/\DF AGm 140=τ/\DF AGm 141=τ/\DF AGm 142=τ/\DF AGm 143=τ/\DF AGm 144=τ/\DF AGm 145=τ/\DF AGm 146=τ/\DF AGm 147=τ/\DF AGm 148=τ/\DF AGm 149=τ/\DF AGm 150=τ/\DF AGm 151=τ/\DF AGm 152=τ/\DF AGm 153=τ/\DF AGm 154=τ/\DF AGm 155=τ/\DF AGm 156=τ/\DF AGm 157=τ/\DF AGm 158=τ/\DF AGm 159=τ/\DF AGm 160=τ/\DF AGm 161=τ/\DF AGm 162=τ/\DF AGm 163=τ/\DF AGm 164=τ/\DF AGm 165=τ/\DF AGm 166=τ/\DF AGm 167=τ/\DF AGm 168=τ/\DF AGm 169=τ/\DF AGm 170=τ/\DF AGm 171=τ/\DF AGm 172=τ/\DF AGm 173=τ/\DF AGm 174=τ/\DF AGm 175=τ/\DF AGm 176=τ/\DF AGm 177=τ/\DF AGm 178=τ/\DF AGm 179=τ/\DF AGm 180=τ/\DF AGm 181=τ/\DF AGm 182=τ/\DF AGm 183=τ/\DF AGm 184=τ/\DF AGm 185=τ/\DF AGm 186=τ/\DF AGm 187=τ/\DF AGm 188=τ/\DF AGm 189=τ/\DF AGm 190=τ/\DF AGm 191=τ/\DF AGm 192=τ/\DF AGm 193=τ/\DF AGm 194=τ/\DF AGm 195=τ/\DF AGm 196=τ/\DF AGm 197=τ/\DF AGm 198=τ/\DF AGm 199=τ/\DF AGm 200=τ/\DF AGm 201=τ/\DF AGm 202=τ/\DF AGm 203=τ/\DF AGm 204=τ/\DF AGm 205=τ/\DF AGm 206=τ/\DF AGm 207=τ/\DF AGm 208=τ/\DF AGm 209=τ/\DF AGm 210=τ/\DF AGm 211=τ/\DF AGm 212=τ/\DF AGm 213=τ/\DF AGm 214=τ/\DF AGm 215=τ/\DF AGm 216=τ/\DF AGm 217=τ/\DF AGm 218=τ/\DF AGm 219=τ/\DF AGm 220=τ/\DF AGm 221=τ/\DF AGm 222=τ/\DF AGm 223=τ/\DF AGm 224=τ/\DF AGm 225=τ/\DF AGm 226=τ/\DF AGm 227=τ/\DF AGm 228=τ/\DF AGm 229=τ/\DF AGm 230=τ/\DF AGm 231=τ/\DF AGm 232=τ/\DF AGm 233=τ/\DF AGm 234=τ/\DF AGm 235=τ/\DF AGm 236=τ/\DF AGm 237=τ/\DF AGm 238=τ/\DF AGm 239=τ/\DF AGm 240=τ/\DF AGm 241=τ/\DF AGm 242=τ:=by
 repeat' refine AO ?_ ?_
 all_goals kernel_rfl
theorem ABR:AGm.follows .mixedOrders=τ:=by kernel_rfl
def cA:=AO (AO (AO (AO (AO (AO @AUa.{0} (AO @ATO @ATP)) (AO @Dw (AO @Du @Dz))) (AO (AO @AZ.{0} (AO @Aa.{0} @nT)) (AO (AO @b_ @YR) (AO @cK @YS)))) (AO (AO (AO @cZ (AO @cu @YU)) (AO (AO @cz @dB) (AO @YV @YQ))) (AO (AO @nR (AO @Ve @UO)) (AO (AO @Vf @YM) (AO @YN @YO))))) (AO (AO (AO (AO @bW (AO @bX @nQ)) (AO (AO @look_eq @nV) (AO @dD @look_nil))) (AO (AO @nW (AO @nX @dE)) (AO (AO @Vk @PO) (AO @Rj @AP.{0})))) (AO (AO (AO @or_true (AO @true_or @ATQ)) (AO (AO @AHs @Be) (AO @AS1 @AHj))) (AO (AO @ASv (AO @ASU @ASH)) (AO (AO @Bool.or_true @Bool.true_or) (AO @AUS @ATR)))))) (AO (AO (AO (AO (AO @Bool.not_not (AO @AT1 @and_true)) (AO (AO @AIK @AIL) (AO @true_implies @ATy))) (AO (AO @ATw (AO @false_implies @ATT.{0,0})) (AO (AO @ATs.{0,0} @Cr.{0,0}) (AO @ASx.{0,0} @ATl.{0})))) (AO (AO (AO @ATm.{0} (AO @ATK.{0} @ATL.{0})) (AO (AO @Bn.{0} @BJ.{0,0}) (AO @ASW.{0,0} @AST.{0,0}))) (AO (AO @ASi.{0} (AO @ATZ.{0} @ATa.{0})) (AO (AO @Ai.{0} @Aq.{0}) (AO @List.drop_nil.{0} @Aj.{0}))))) (AO (AO (AO (AO @A_.{0} (AO @List.take_nil.{0} @Ad.{0})) (AO (AO @AR.{0} @BX.{0}) (AO @Av.{0} @Bf.{0}))) (AO (AO @ATi.{0} (AO @ASZ.{0} @ASX.{0})) (AO (AO @List.all_nil.{0} @Addr.add_lit) (AO @Addr.add_zero' @Ao)))) (AO (AO (AO @Cg (AO @Ay @AUb)) (AO (AO @AUc @Ce.{0}) (AO @List.contains_nil.{0} @ATn.{0}))) (AO (AO @Bo (AO @Int.toNat_zero @Int.cast_ofNat_Int)) (AO (AO @KS @AUU) (AO @Bool.or_self @Bool.and_self))))))
def cB:=AO (AO (AO (AO (AO @Dl.eq_1 (AO @Dl.eq_2 @Ko.eq_1)) (AO @Ko.eq_2 (AO @bu.eq_1 @v_.eq_1))) (AO (AO @FP.eq_1 (AO @ADE.eq_1 @Ri.eq_1)) (AO (AO @YT.eq_1 @Jv.eq_1) (AO @ldV.eq_1 @stV.eq_1)))) (AO (AO (AO @dC.eq_1 (AO @ev.eq_1 @ev.eq_2)) (AO (AO @ev.eq_3 @ev.eq_4) (AO @nth.eq_1 @nth.eq_2))) (AO (AO @nth.eq_3 (AO @Rm.eq_1 @Rm.eq_2)) (AO (AO @Rm.eq_3 @Rm.eq_4) (AO @Ij.eq_1 @Ij.eq_2))))) (AO (AO (AO (AO @NZ.eq_1 (AO @NZ.eq_2 @U3.eq_1)) (AO @U3.eq_2 (AO @U3.eq_3 @U3.eq_4))) (AO (AO @U3.eq_5 (AO @U3.eq_6 @KR.eq_1)) (AO (AO @KR.eq_2 @ones.eq_1) (AO @nU @cO)))) (AO (AO (AO @Ba.{0} (AO @Bb.{0} @ATx.{1})) (AO (AO @ATz.{1} @ite_true.{1}) (AO @ite_false.{1} @AUd.{0}))) (AO (AO @AUd.{1} (AO @AUe.{0} @AUe.{1})) (AO (AO @eq_self.{1} @ne_eq.{1}) (AO @tyA @fnA)))))
section
variable (K:Fr->List DW->Prop)(Q:Exit->Fr->List DW->Prop)(F:Fr)(L:List DW)(i j:Nat)
theorem Rq:Dq K Q .normal F L=K F L:=rfl
theorem Vo:Dq K Q (.exit i) F L=Q (.exit i) F L:=rfl
theorem YZ:Dq K Q .ret F L=Q .ret F L:=rfl
theorem UU:Di i Q (.exit j) F L=if j=i then Q .normal F L else Q (.exit j) F L:=rfl
theorem Qn:Di i Q .normal F L=Q .normal F L:=rfl
theorem Vp:Di i Q .ret F L=Q .ret F L:=rfl
variable (M:List Nat)(W:World)(rs:List ResultVar)(R:Ending->World->Prop)
theorem UW:wC M W rs R .normal F L=∃v,Rm rs F=σ v∧∀w,St M W L w->R (κ v) w:=rfl
theorem dI:wC M W rs R .ret F L=∃v,Rm rs F=σ v∧∀w,St M W L w->R (κ v) w:=rfl
theorem Ya:wC M W rs R (.exit i) F L=False:=rfl
end
theorem Vq k:fresh [] k=True:=rfl
theorem Vr b k t cs L:fresh (.blk b t cs::L) k=(b<k/\fresh L k):=rfl
theorem Vs v t s n k xs L:fresh (.row v t s n xs::L) k=fresh L k:=rfl
theorem UX b:(Value.bool b).cells = #[θ b]:=rfl
theorem Vt k n:(Value.int k n).cells = #[ε k n]:=rfl
theorem Vu s:(Value.string s).cells = #[.string s]:=rfl
theorem Vv a:(Value.pointer a).cells = #[.pointer a]:=rfl
theorem Rt a l c:(Value.slice a l c).cells = #[ξ a l c]:=rfl
theorem Vw r:(Value.map r).cells = #[.map r]:=rfl
theorem Vx c:(Value.agg c).cells=c:=rfl
theorem Yb b:(Value.bool b).oneCell'=τ:=rfl
theorem dJ k n:(Value.int k n).oneCell'=τ:=rfl
theorem dK s:(Value.string s).oneCell'=τ:=rfl
theorem dL a:(Value.pointer a).oneCell'=τ:=rfl
theorem Vy a l c:(Value.slice a l c).oneCell'=τ:=rfl
theorem dM r:(Value.map r).oneCell'=τ:=rfl
theorem dN c:(Value.agg c).oneCell'=ο:=rfl
theorem cC:type_of% (AO cA (AO cB (AO (AO (AO (AO @Vq (AO @Vr @Vs)) (AO @Rq (AO @Vo @YZ))) (AO (AO @UU (AO @Qn @Vp)) (AO (AO @UW @dI) (AO @Ya @UX)))) (AO (AO (AO @Vt (AO @Vu @Vv)) (AO @Rt (AO @Vw @Vx))) (AO (AO @Yb (AO @dJ @dK)) (AO (AO @dL @Vy) (AO @dM @dN))))))):=AO cA (AO cB (AO (AO (AO (AO @Vq (AO @Vr @Vs)) (AO @Rq (AO @Vo @YZ))) (AO (AO @UU (AO @Qn @Vp)) (AO (AO @UW @dI) (AO @Ya @UX)))) (AO (AO (AO @Vt (AO @Vu @Vv)) (AO @Rt (AO @Vw @Vx))) (AO (AO @Yb (AO @dJ @dK)) (AO (AO @dL @Vy) (AO @dM @dN))))))
structure Bd(p:Prop):Prop where
 o:p
section
variable{P:Program}{M:List Nat}{W:World}{n i:Nat}{l:List Oper}{x y:Code}{F F2:Fr}{L L2:List DW}{Q:Exit->Fr->List DW->Prop}{p q a:Prop}{c:Operand}{b:Bool}
theorem DD(hq:q)(h:p=q:=by conv=>lhs;simp -implicitDefEqProofs (disch:=first|omega|decide) only [seval,-Int.reducePow,-Nat.reducePow,cC,pv,D5,EH,undef,zs.o,zg.o]):p:=h▸hq
theorem DU(ze:a)(hq:q)(h:a->p=q:=by intro ze;conv=>lhs;simp -implicitDefEqProofs (disch:=first|omega|decide) only [seval,-Int.reducePow,-Nat.reducePow,cC,pv,D5,EH,undef,ze,zs.o,zg.o]):p:=(h ze)▸hq
theorem Dy(hp:p)(h:p=q:=by conv=>lhs;simp -implicitDefEqProofs (disch:=first|omega|decide) only [seval,-Int.reducePow,-Nat.reducePow,cC,pv,D5,EH,undef,zs.o,zg.o]):q:=h▸hp
theorem dP(h:p:=by simp -implicitDefEqProofs (disch:=first|omega|decide) only [seval,-Int.reducePow,-Nat.reducePow,cC,pv,D5,EH,undef,zs.o,zg.o]):p:=h
theorem Yc(ze:a)(h:a->p:=by intro ze;simp -implicitDefEqProofs (disch:=first|omega|decide) only [seval,-Int.reducePow,-Nat.reducePow,cC,pv,D5,EH,undef,ze,zs.o,zg.o]):p:=h ze
theorem EP{x:Option Value}{v:Value}{C:Value->Prop}(hC:C v)(h:x=σ v:=by conv=>lhs;simp -implicitDefEqProofs (disch:=first|omega|decide) only [seval,-Int.reducePow,-Nat.reducePow,cC,pv,D5,EH,undef,zs.o,zg.o]):∃v,x=σ v/\C v:=⟨v,h,hC⟩
theorem Ec(h1:b=τ->CV P M W n x F L Q)(h2:b=ο->CV P M W n y F L Q)(h:ev F c=θ b:=by conv=>lhs;simp -implicitDefEqProofs (disch:=first|omega|decide) only [seval,-Int.reducePow,-Nat.reducePow,cC,pv,D5,EH,undef,zs.o,zg.o]):CV P M W n (.cond c x y) F L Q:=kK h h1 h2
theorem x_d(ze:a)(h1:b=τ->CV P M W n x F L Q)(h2:b=ο->CV P M W n y F L Q)(h:a->ev F c=θ b:=by intro ze;conv=>lhs;simp -implicitDefEqProofs (disch:=first|omega|decide) only [seval,-Int.reducePow,-Nat.reducePow,cC,pv,D5,EH,undef,ze,zs.o,zg.o]):CV P M W n (.cond c x y) F L Q:=kK (h ze) h1 h2
theorem Db(hk:CV P M W n y F2 L2 Q)(hd:l.all (λo=>Mm n o.dst)=τ:=by rfl)(h:∀K:Fr->List DW->Prop,Xm P M W n l τ l F L K=K F2 L2:=by intro K;conv=>lhs;simp -implicitDefEqProofs (disch:=first|omega|decide) only [seval,-Int.reducePow,-Nat.reducePow,cC,pv,D5,EH,undef,zs.o,zg.o]):CV P M W n (.seq (.region i l.toArray ο) y) F L Q:=YX hd h hk
theorem KU(ze:a)(hk:CV P M W n y F2 L2 Q)(hd:l.all (λo=>Mm n o.dst)=τ:=by rfl)(h:a→∀K:Fr->List DW->Prop,Xm P M W n l τ l F L K=K F2 L2:=by intro ze K;conv=>lhs;simp -implicitDefEqProofs (disch:=first|omega|decide) only [seval,-Int.reducePow,-Nat.reducePow,cC,pv,D5,EH,undef,ze,zs.o,zg.o]):CV P M W n (.seq (.region i l.toArray ο) y) F L Q:=YX hd (h ze) hk
theorem DR(hq:q)(h:p=q:=by conv=>lhs;simp -implicitDefEqProofs (disch:=first|omega|decide) only [seval,-Int.reducePow,-Nat.reducePow,cC,pv,D5,EH,undef,zs.o]):p:=h▸hq
theorem Ed(ze:a)(hq:q)(h:a->p=q:=by intro ze;conv=>lhs;simp -implicitDefEqProofs (disch:=first|omega|decide) only [seval,-Int.reducePow,-Nat.reducePow,cC,pv,D5,EH,undef,ze,zs.o]):p:=(h ze)▸hq
theorem EK(hp:p)(h:p=q:=by conv=>lhs;simp -implicitDefEqProofs (disch:=first|omega|decide) only [seval,-Int.reducePow,-Nat.reducePow,cC,pv,D5,EH,undef,zs.o]):q:=h▸hp
theorem ABS(ze:a)(h:a->p:=by intro ze;simp -implicitDefEqProofs (disch:=first|omega|decide) only [seval,-Int.reducePow,-Nat.reducePow,cC,pv,D5,EH,undef,ze,zs.o]):p:=h ze
theorem Eg{x:Option Value}{v:Value}{C:Value->Prop}(hC:C v)(h:x=σ v:=by conv=>lhs;simp -implicitDefEqProofs (disch:=first|omega|decide) only [seval,-Int.reducePow,-Nat.reducePow,cC,pv,D5,EH,undef,zs.o]):∃v,x=σ v/\C v:=⟨v,h,hC⟩
theorem NC(h1:b=τ->CV P M W n x F L Q)(h2:b=ο->CV P M W n y F L Q)(h:ev F c=θ b:=by conv=>lhs;simp -implicitDefEqProofs (disch:=first|omega|decide) only [seval,-Int.reducePow,-Nat.reducePow,cC,pv,D5,EH,undef,zs.o]):CV P M W n (.cond c x y) F L Q:=kK h h1 h2
theorem DZ(hk:CV P M W n y F2 L2 Q)(hd:l.all (λo=>Mm n o.dst)=τ:=by rfl)(h:∀K:Fr->List DW->Prop,Xm P M W n l τ l F L K=K F2 L2:=by intro K;conv=>lhs;simp -implicitDefEqProofs (disch:=first|omega|decide) only [seval,-Int.reducePow,-Nat.reducePow,cC,pv,D5,EH,undef,zs.o]):CV P M W n (.seq (.region i l.toArray ο) y) F L Q:=YX hd h hk
theorem Mo(ze:a)(hk:CV P M W n y F2 L2 Q)(hd:l.all (λo=>Mm n o.dst)=τ:=by rfl)(h:a→∀K:Fr->List DW->Prop,Xm P M W n l τ l F L K=K F2 L2:=by intro ze K;conv=>lhs;simp -implicitDefEqProofs (disch:=first|omega|decide) only [seval,-Int.reducePow,-Nat.reducePow,cC,pv,D5,EH,undef,ze,zs.o]):CV P M W n (.seq (.region i l.toArray ο) y) F L Q:=YX hd (h ze) hk
theorem AEL(hq:q)(h:p=q:=by conv=>lhs;simp -implicitDefEqProofs (disch:=first|omega|decide) only [seval,-Int.reducePow,-Nat.reducePow,cC,pv,D5,EH,undef,zg.o]):p:=h▸hq
theorem AGv(ze:a)(hq:q)(h:a->p=q:=by intro ze;conv=>lhs;simp -implicitDefEqProofs (disch:=first|omega|decide) only [seval,-Int.reducePow,-Nat.reducePow,cC,pv,D5,EH,undef,ze,zg.o]):p:=(h ze)▸hq
theorem AEM{x:Option Value}{v:Value}{C:Value->Prop}(hC:C v)(h:x=σ v:=by conv=>lhs;simp -implicitDefEqProofs (disch:=first|omega|decide) only [seval,-Int.reducePow,-Nat.reducePow,cC,pv,D5,EH,undef,zg.o]):∃v,x=σ v/\C v:=⟨v,h,hC⟩
theorem AJc(hq:q)(h:p=q:=by conv=>lhs;simp -implicitDefEqProofs (disch:=first|omega|decide) only [seval,-Int.reducePow,-Nat.reducePow,cC,pv,D5,EH,undef]):p:=h▸hq
theorem AGw(hp:p)(h:p=q:=by conv=>lhs;simp -implicitDefEqProofs (disch:=first|omega|decide) only [seval,-Int.reducePow,-Nat.reducePow,cC,pv,D5,EH,undef]):q:=h▸hp
theorem wH{x:Option Value}{v:Value}{C:Value->Prop}(hC:C v)(h:x=σ v:=by conv=>lhs;simp -implicitDefEqProofs (disch:=first|omega|decide) only [seval,-Int.reducePow,-Nat.reducePow,cC,pv,D5,EH,undef]):∃v,x=σ v/\C v:=⟨v,h,hC⟩
theorem ql(hk:CV P M W n y F2 L2 Q)(hd:l.all (λo=>Mm n o.dst)=τ:=by rfl)(h:∀K:Fr->List DW->Prop,Xm P M W n l τ l F L K=K F2 L2:=by intro K;conv=>lhs;simp -implicitDefEqProofs (disch:=first|omega|decide) only [seval,-Int.reducePow,-Nat.reducePow,cC,pv,D5,EH,undef]):CV P M W n (.seq (.region i l.toArray ο) y) F L Q:=YX hd h hk
theorem AGx(ze:a)(hk:CV P M W n y F2 L2 Q)(hd:l.all (λo=>Mm n o.dst)=τ:=by rfl)(h:a→∀K:Fr->List DW->Prop,Xm P M W n l τ l F L K=K F2 L2:=by intro ze K;conv=>lhs;simp -implicitDefEqProofs (disch:=first|omega|decide) only [seval,-Int.reducePow,-Nat.reducePow,cC,pv,D5,EH,undef,ze]):CV P M W n (.seq (.region i l.toArray ο) y) F L Q:=YX hd (h ze) hk
theorem Ev(h:p:=by (first|with_reducible rfl|exact trivial|(refine AT4 Value.bool ?_;rw[Cs];(try simp only[AT5,eq_self,AT1,and_true,AIK,AIL,true_or,or_true,AT6,AT7,ATy,ATw,true_iff,AT8,false_iff,iff_false,Be,CJ,Bool.not_eq_true,AUA,Au,CU])<;>omega)|(refine AT4 (Value.int _) ?_;omega)|omega)):p:=h
theorem ADM(ze:a)(h:a->p:=by intro ze;(first|with_reducible rfl|exact trivial|(refine AT4 Value.bool ?_;rw[Cs];(try simp only[ze,AT5,eq_self,AT1,and_true,AIK,AIL,true_or,or_true,AT6,AT7,ATy,ATw,true_iff,AT8,false_iff,iff_false,Be,CJ,Bool.not_eq_true,AUA,Au,CU])<;>omega)|(refine AT4 (Value.int _) ?_;omega)|omega)):p:=h ze
theorem Fe(hp:p)(h:p=q:=by conv=>lhs;simp only[CJ,AS2,AT5,AUA]):q:=h▸hp
theorem AAM(hp:p)(h:p=q:=by conv=>lhs;simp only[List.eraseIdx_cons_zero,List.eraseIdx_cons_succ,Dw,Du,Dz,Dt,and_true,Ae,AT7,zs.o]):q:=h▸hp
theorem AAz(hp:p)(h:p=q:=by conv=>lhs;simp only[List.eraseIdx_cons_zero,List.eraseIdx_cons_succ,Dw,Du,Dz,Dt,and_true,Ae,AT7]):q:=h▸hp
theorem EM(hq:q)(h:p=q:=by conv=>lhs;dsimp only[List.cons_append,List.nil_append]):p:=h▸hq
theorem DY(ix:List Nat)(hc:CV P M W n x F L2 Q)(h:Dl ix L=L2:=by conv=>lhs;simp only[Dl,nth])(hn:ix.Nodup:=by decide):CV P M W n x F L Q:=ABQ ix hn (h▸hc)
theorem EB{K:Fr->List DW->Prop}{QQ:Exit->Fr->List DW->Prop}(pp:List (Bool×Nat))(fin:List Nat)(h:UR P M W n l L fin τ pp F L K)(hm:P.follows .mixedOrders=τ:=by exact ABR)(hd:l.all (λo=>Mm n o.dst)=τ:=by rfl)(hs:Region.noSelect l.toArray=τ:=by kernel_rfl)(hp:MO .any l.toArray fin pp (Array.replicate l.toArray.size ο)=τ:=by kernel_rfl)(hz:pp.length=l.toArray.size:=by rfl)(hf:FV fin pp=τ:=by rfl):CV P M W n (.region i l.toArray τ) F L (Dq K QQ):=ABP pp fin hm hd hs hp hz hf h
theorem FD{K:Fr->List DW->Prop}{QQ:Exit->Fr->List DW->Prop}(ix:List Nat)(pp:List (Bool×Nat))(fin:List Nat)(h:UR P M W n l L2 fin τ pp F L K)(e:Dl ix L=L2:=by conv=>lhs;simp only[Dl,nth])(hsub:Jc L2 L:=by simp only[PO,Rj,AP,true_or,or_true,and_true,eq_self])(hn:ix.Nodup:=by decide)(hm:P.follows .mixedOrders=τ:=by exact ABR)(hd:l.all (λo=>Mm n o.dst)=τ:=by rfl)(hs:Region.noSelect l.toArray=τ:=by kernel_rfl)(hp:MO .any l.toArray fin pp (Array.replicate l.toArray.size ο)=τ:=by kernel_rfl)(hz:pp.length=l.toArray.size:=by rfl)(hf:FV fin pp=τ:=by rfl):CV P M W n (.region i l.toArray τ) F L (Dq K QQ):=Vl L2 (λ_ hw=>e▸hw.pick hn) hsub pp fin hm hd hs hp hz hf h
end
end Go.Proofs.YtnkgiaimcpbhkaaGreat
