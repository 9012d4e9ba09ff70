import Derived.Test.YtnkgiaimcpbhkaaGreatDkips14
set_option linter.all false
set_option maxRecDepth 100000
set_option maxHeartbeats 4000000
namespace Go.Proofs.YtnkgiaimcpbhkaaGreat
open Tryz renaming prog→AB
open Go.RowKit Go.Shelf
theorem Qj.of{M:List Nat}{W w:World}{L:List DW}{A:Option Addr}{n c:Nat}{Le:List RO}(hw:St M W L w)(h1:DW.row (.slice A n c) 41 6 n (H7 Le)∈L)(h2:∀r∈Le,KN r∈L):Qj w w.heap.size A n c Le:=⟨Sl.EJ hw h1,λr hr=>Sl.EJ hw (h2 r hr)⟩
def ev2:List Gs:=[⟨1,32,0,0,0⟩,⟨1,1,72057594054705152,1,0⟩]
theorem AGG:∀e∈ev2,e.ok:=λe he=>by
 simp only[ev2,AP,Ae,AT7]at he;rcases he with rfl|rfl<;>exact⟨by decide,by decide⟩
theorem AMn:Lb hs0 ev2=some ⟨[(1,true)],[(0,⟨72057594054705152,1,0,[]⟩)]⟩:=by rfl
theorem AMo:xm (Lb hs0 ev2)=([⟨72057594054705152,1,[]⟩],0):=by
 rw[AMn];simp[xm,ABl,JC,keys,Er,ry]
theorem ji(W:World):Calls AB 7 #[] W λen w'=>en=.returned (.bool true)/\Below W.heap.size W w':=by
 refine DL (M:=[]) Tryz.func7 [.tmp 0] (St.nil _ _) ?_;have zs:=Bd.mk Ui;refine DZ ?_;refine C9 rfl λK k0=>DR ?_;intro b6 hb6;refine F6 fJ AEi _ (λw hw=>Uh (some ⟨b6,0,none⟩) 2 2 ev2 w (Sl.EJ (hw.JR (size:=5) (n:=2) rfl AJ) (.head _)) AGG AJ) ?_;rintro⟨LA,ln,lc,Le,er⟩ ⟨h1,h2⟩;rw[AMo]at h1 h2;dsimp only at h1 h2;subst h2;obtain⟨r,rfl⟩:∃r,Le=[r]:=by
  have:=AT4 List.length h1;rw[BF]at this;exact List.length_eq_one_iff.1 this
 have how:r.ow=1:=by
  have h3:r.pl=⟨72057594054705152,1,[]⟩:=by simpa using h1
  exact AT4 RP.ow h3
 unfold fJ AEi;dsimp only[List.map_cons,List.map_nil,List.cons_append,List.nil_append];unfold KN;refine DR (k0 _ _ ?_);refine F8 0 rfl λhlA=>?_;have hln:ln=1:=by
  unfold H7 at hlA;rw[GN QN]at hlA;simp at hlA;omega
 subst hln;refine EL 0 rfl AL λg F7 hg EX=>?_;subst F7;replace hg:=AAM (AO hg EX);clear EX;refine C9 rfl λK k0=>DR ?_;refine DX (Dx (m:=1) (i:=0*6+1) (v:=.int .i64 r.ow) (DN (k:=0) rfl) rfl (Gi QN (l:=[r]) (i:=0) rfl AL)) ?_;refine DR ?_;rw[how];refine DR (k0 _ _ ?_);refine C8 (Eg λw hw=>?_);exact⟨rfl,hw.below⟩
end Go.Proofs.YtnkgiaimcpbhkaaGreat
