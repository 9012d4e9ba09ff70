/- Small lemmas on memory that all proofs of this seat share (the guide's pages extra-words, extra-small, copied as they say; and a few of my own). -/
import Derived.RangeFuncNested
import Derived.RangeFuncBound
import Derived.RangeFuncCalls
import Derived.RangeFuncLeaves
import Derived.Shelf.Abstract
import Derived.Shelf.RegionOpen
import Derived.WalkKit
import Derived.OwnWalkIn
import Derived.TacticsInMore
import Derived.LoopNIn
import Derived.LoopIn
import Derived.Lib.Hide
import Derived.OpenShut
import Derived.WalkSpells
import Derived.Laws.OwnMore
import Derived.Deep.AppendLies
import Derived.Deep.Draws
import Derived.Deep.OwnRows
import Derived.Laws.Rows
import Derived.Maps.AppendAt
import Derived.ChangeSame
import Derived.RegionTactic
import Derived.OwnWalk
import Derived.Test.YtaifnipgefkemaaChecked
import Derived.OrdersHeld
import Derived.Tactics
import Derived.LoopTactic
import Derived.Laws.StructEq
import Derived.Laws.Tables
import Derived.Laws.BytesString
namespace Go.Proofs.Ytaifnipgefkemaa
open Go.RowKit Go.Shelf Go.ChangeShapes Go.WideShapes

theorem block_of_add (a : Addr) (n : Nat) : (a.add n).block = a.block := by unfold Addr.add; split <;> rfl
theorem add_of_add (a : Addr) (i j : Nat) : (a.add i).add j = a.add (i + j) := by
  unfold Addr.add
  by_cases hi : i = 0 <;> by_cases hj : j = 0 <;> simp [hi, hj, Nat.add_assoc]

def Reads (w : World) (B size : Nat) (A : Option Addr) (n : Nat) (xs : List Value) : Prop :=
  xs.length = n * size ∧ (0 < n → ∃ ad, A = some ad ∧ ad.block < B ∧ ∀ j u, xs[j]? = some u → w.cell? (ad.add j) = some u)

section
variable {w w' : World} {B B' size n : Nat} {A : Option Addr} {xs : List Value}
theorem Reads.none_ : Reads w B size A 0 [] := ⟨by simp, fun h => absurd h (by omega)⟩
theorem Reads.at_ {k : Nat} (h : Reads w B 1 A n xs) (hk : k < n) : ∃ ad u, A = some ad ∧ ad.block < B ∧ xs[k]? = some u ∧ w.cell? (ad.add k) = some u := by
  obtain ⟨ad, e, hb, hc⟩ := h.2 (by omega)
  have hl : k < xs.length := by have := h.1; omega
  exact ⟨ad, xs[k], e, hb, List.getElem?_eq_getElem hl, hc k _ (List.getElem?_eq_getElem hl)⟩
theorem Reads.keep (h : Reads w B size A n xs) (hk : ∀ p : Addr, p.block < B → w'.cell? p = w.cell? p) : Reads w' B size A n xs :=
  ⟨h.1, fun hn => by
    obtain ⟨ad, e, hb, hc⟩ := h.2 hn
    exact ⟨ad, e, hb, fun j u hu => (hk _ (by rw [block_of_add]; exact hb)).trans (hc j u hu)⟩⟩
theorem Reads.more (h : Reads w B size A n xs) (hB : B ≤ B') : Reads w B' size A n xs :=
  ⟨h.1, fun hn => by
    obtain ⟨ad, e, hb, hc⟩ := h.2 hn
    exact ⟨ad, e, by omega, hc⟩⟩
theorem Reads.below (h : Reads w B size A n xs) (hb : Below B w w') : Reads w' B size A n xs := h.keep fun _ hp => hb.cell hp
theorem Reads.drew (h : Reads w B size A n xs) : Reads w.drew B size A n xs := h
theorem Reads.drewN (h : Reads w B size A n xs) (k : Nat) : Reads (w.drewN k) B size A n xs := h
theorem Reads.alloc (h : Reads w B size A n xs) (hB : B ≤ w.heap.size) (o : Obj) : Reads (w.alloc o) B size A n xs := h.keep fun p hp => World.cell?_alloc_lt w o p (by omega)
theorem Reads.setCell (h : Reads w B size A n xs) {p : Addr} (hB : B ≤ p.block) (u : Value) : Reads (w.setCell p u) B size A n xs :=
  h.keep fun q hq => World.cell?_setCell_other w p q u (fun e => by subst e; omega)
theorem Reads.grown (h : Reads w B size A n xs) {row : Option Nat} (hg : w.grownBy w' row) (hB : B ≤ w.heap.size) (hr : ∀ g, row = some g → B ≤ g) : Reads w' B size A n xs :=
  h.keep fun p hp => World.cell?_of_block (hg.block p.block (by omega) (fun e => by have := hr _ e.symm; omega))
theorem Reads.cut (h : Reads w B size A n xs) {k cap : Nat} (hk : k ≤ n) (hc : n ≤ cap) :
    Reads w B size (if cap = k then A else A.map (·.add (k * size))) (n - k) (xs.drop (k * size)) := by
  refine ⟨by rw [List.length_drop, h.1, Nat.sub_mul], fun hn => ?_⟩
  obtain ⟨ad, rfl, hb, hcell⟩ := h.2 (by omega)
  rw [if_neg (by omega)]
  refine ⟨ad.add (k * size), rfl, by rw [block_of_add]; exact hb, fun j u hu => ?_⟩
  rw [add_of_add]
  exact hcell _ u (by rw [← hu, List.getElem?_drop])
theorem Reads.of_own {base : Nat} {e : TypeId} {c : Nat} (h : w.ownsRow base e size (.slice A n c) n xs) : Reads w w.heap.size size A n xs := by
  refine ⟨h.1, fun hn => ?_⟩
  obtain ⟨g, cap, hv, _, hlt⟩ := h.form hn
  have hA : A = some ⟨g, 0, none⟩ := by injection hv
  subst hA
  exact ⟨_, rfl, hlt, h.cells (g := g) rfl⟩
end

def Blk (w : World) (g : Nat) (t : TypeId) (cs : Array Value) : Prop := w.heap[g]? = some (.cells cs t (0, 0))

section
variable {w w' : World} {g : Nat} {t : TypeId} {cs : Array Value}
theorem Blk.lt (h : Blk w g t cs) : g < w.heap.size := by
  rcases Nat.lt_or_ge g w.heap.size with hlt | hge
  · exact hlt
  · unfold Blk at h; rw [Array.getElem?_eq_none hge] at h; cases h
theorem Blk.cell (h : Blk w g t cs) (i : Nat) : w.cell? ⟨g, i, none⟩ = cs[i]? := cell_of_row w g i cs t (0, 0) h
theorem Blk.frozen (h : Blk w g t cs) (i : Nat) : w.frozen? ⟨g, i, none⟩ = false := by
  unfold Blk at h
  simp [World.frozen?, h]
theorem Blk.new (w : World) (t : TypeId) (cs : Array Value) : Blk (w.alloc (.cells cs t)) w.heap.size t cs := heap_alloc_new w _
theorem Blk.drew (h : Blk w g t cs) : Blk w.drew g t cs := h
theorem Blk.drewN (h : Blk w g t cs) (n : Nat) : Blk (w.drewN n) g t cs := h
theorem Blk.alloc (h : Blk w g t cs) (o : Obj) : Blk (w.alloc o) g t cs := (Below.heap_alloc w o g h.lt).trans h
theorem Blk.set_ (h : Blk w g t cs) (i : Nat) (u : Value) : Blk (w.setCell ⟨g, i, none⟩ u) g t (cs.setIfInBounds i u) := by
  unfold Blk at h ⊢
  simp [World.setCell, Array.getElem?_modify, h]
theorem Blk.far (h : Blk w g t cs) {p : Addr} (hp : g ≠ p.block) (u : Value) : Blk (w.setCell p u) g t cs := (Below.heap_setCell w p u g hp).trans h
theorem Blk.below {B : Nat} (h : Blk w g t cs) (hb : Below B w w') (hg : g < B) : Blk w' g t cs := (hb.block g hg).trans h
theorem Blk.grown {row : Option Nat} (h : Blk w g t cs) (hb : w.grownBy w' row) (hg : some g ≠ row) : Blk w' g t cs := (hb.block g h.lt hg).trans h
theorem Blk.ne_ {g' : Nat} {t' : TypeId} {cs' : Array Value} (h : Blk w g t cs) (h' : Blk w g' t' cs') (hne : t ≠ t') : g ≠ g' := by
  rintro rfl
  unfold Blk at h h'
  rw [h] at h'
  injection h' with h'
  injection h' with _ ht
  exact hne ht
theorem own_blk_ne {base : Nat} {e : TypeId} {size n : Nat} {v : Value} {xs : List Value} (h : w.ownsRow base e size v n xs) (hg : Blk w g t cs) (hne : e ≠ t) : v.ownBlock ≠ some g := by
  rcases h.2 with ⟨rfl, _⟩ | ⟨g', cap, cur, rfl, _, hh, _⟩
  · simp [Value.ownBlock]
  · intro he
    have : g' = g := by simpa [Value.ownBlock] using he
    subst this
    exact Blk.ne_ (t := e) hh hg hne rfl
end

section
variable {P : Program} (w : World)

theorem run_append_of_nil (base : Nat) (t ty e : TypeId) (i : TypeInfo) (size : Nat) (ht : P.underlying t = some (.slice e)) (hi : P.info? e = some i)
    (v : Value) (n : Nat) (xs : List Value) (hown : w.ownsRow base e size v n xs) (c : Nat) : (Builtin.append_ #[t, t] ty #[v, .slice none 0 c]).run P w = .ok v w := by
  rcases hown.2 with ⟨rfl, rfl⟩ | ⟨g, cap, cur, rfl, _, _, hnc, _⟩
  · simp [Builtin.append_, run_underlying ht, sizeOf, typeInfo, hi, Builtin.lenOf, Builtin.firstCells]
  · simp [Builtin.append_, run_underlying ht, sizeOf, typeInfo, hi, Builtin.lenOf, Builtin.firstCells, hnc, storeCells]

theorem run_append_any (base : Nat) (t ty e : TypeId) (i : TypeInfo) (z : Value) (size bytes : Nat) (ht : P.underlying t = some (.slice e)) (hi : P.info? e = some i) (hz : i.zero = some z)
    (hsize : i.size = size) (hby : i.bytes = bytes) (hzs : z.cells.size = size) (hsz : 0 < size)
    (v : Value) (n : Nat) (xs : List Value) (hown : w.ownsRow base e size v n xs)
    (B : Nat) (A : Option Addr) (m c : Nat) (news : List Value) (hr : Reads w B size A m news) (h1 : ∀ u ∈ news, u.oneCell' = true)
    (h63 : n + m ≤ maxLen) (hbytes : (n + m) * bytes ≤ 140737488355328) (hbase : base ≤ w.heap.size) :
    ∃ v' w', (Builtin.append_ #[t, t] ty #[v, .slice A m c]).run P w = .ok v' w' ∧ w'.ownsRow base e size v' (n + m) (xs ++ news) ∧ w.grownBy w' v.ownBlock ∧
      (v'.ownBlock = v.ownBlock ∨ v'.ownBlock = some w.heap.size) := by
  rcases A with _ | ad
  · have hm : m = 0 := by
      rcases Nat.eq_zero_or_pos m with h0 | h0
      · exact h0
      · obtain ⟨ad, h, _⟩ := hr.2 h0
        cases h
    subst hm
    have hn : news = [] := List.eq_nil_of_length_eq_zero (by simpa using hr.1)
    subst hn
    exact ⟨v, w, run_append_of_nil w base t ty e i size ht hi v n xs hown c, by simpa using hown, World.grownBy.refl w _, .inl rfl⟩
  · have hcells : ∀ j u, news[j]? = some u → w.cell? (ad.add j) = some u := by
      intro j u hu
      rcases Nat.eq_zero_or_pos m with h0 | h0
      · subst h0
        have hn : news = [] := List.eq_nil_of_length_eq_zero (by simpa using hr.1)
        subst hn
        simp at hu
      · obtain ⟨ad', h, _, hc⟩ := hr.2 h0
        injection h with h
        subst h
        exact hc j u hu
    obtain ⟨v', w', hrun, h2, h3, _, h5⟩ := run_append_own_at (P := P) w base t ty e i z size bytes ht hi hz hsize hby hzs hsz v n xs hown ad m c news hr.1 hcells h1 h63 hbytes hbase
    exact ⟨v', w', hrun, h2, h3, h5⟩

theorem wp_append_any {o : Oper} {a : Act} {K : Act → World → Prop} {Q : Exit → Act → World → Prop} (s x : Operand) (t : TypeId)
    (ho : o.op = .call { callee := .builtin .append, args := #[s, x], argTypes := #[t, t] })
    (base : Nat) (e : TypeId) (i : TypeInfo) (z : Value) (size bytes : Nat) (ht : P.underlying t = some (.slice e)) (hi : P.info? e = some i) (hz : i.zero = some z)
    (hsize : i.size = size) (hby : i.bytes = bytes) (hzs : z.cells.size = size) (hsz : 0 < size)
    (v : Value) (n : Nat) (xs : List Value) (hs : a.eval s = v) (hown : w.ownsRow base e size v n xs)
    (B : Nat) (A : Option Addr) (m c : Nat) (news : List Value) (hx : a.eval x = .slice A m c) (hr : Reads w B size A m news) (h1 : ∀ u ∈ news, u.oneCell' = true)
    (h63 : n + m ≤ maxLen) (hbytes : (n + m) * bytes ≤ 140737488355328) (hbase : base ≤ w.heap.size)
    (h : ∀ v' w', w'.ownsRow base e size v' (n + m) (xs ++ news) → w.grownBy w' v.ownBlock → (v'.ownBlock = v.ownBlock ∨ v'.ownBlock = some w.heap.size) → K (a.put o.dst v') w') : o.wp P a w K Q := by
  obtain ⟨v', w', hrun, h2, h3, h4⟩ := run_append_any (P := P) w base t o.type e i z size bytes ht hi hz hsize hby hzs hsz v n xs hown B A m c news hr h1 h63 hbytes hbase
  unfold Oper.wp execOp
  simp only [ho, resolve, invoke, builtin, Sem.run_bind, Sem.run_pure, Result.andThen_ok, List.map_toArray, List.map_cons, List.map_nil, hs, hx, hrun]
  exact h v' w' h2 h3 h4

theorem wpList_append_any {ops : Array Oper} {rest : List Oper} {o : Oper} {a : Act} {Q : Exit → Act → World → Prop} (hgd : o.guard = none) (s x : Operand) (t : TypeId)
    (ho : o.op = .call { callee := .builtin .append, args := #[s, x], argTypes := #[t, t] })
    (base : Nat) (e : TypeId) (i : TypeInfo) (z : Value) (size bytes : Nat) (ht : P.underlying t = some (.slice e)) (hi : P.info? e = some i) (hz : i.zero = some z)
    (hsize : i.size = size) (hby : i.bytes = bytes) (hzs : z.cells.size = size) (hsz : 0 < size)
    (v : Value) (n : Nat) (xs : List Value) (hs : a.eval s = v) (hown : w.ownsRow base e size v n xs)
    (B : Nat) (A : Option Addr) (m c : Nat) (news : List Value) (hx : a.eval x = .slice A m c) (hr : Reads w B size A m news) (h1 : ∀ u ∈ news, u.oneCell' = true)
    (h63 : n + m ≤ maxLen) (hbytes : (n + m) * bytes ≤ 140737488355328) (hbase : base ≤ w.heap.size)
    (h : ∀ v' w', w'.ownsRow base e size v' (n + m) (xs ++ news) → w.grownBy w' v.ownBlock → (v'.ownBlock = v.ownBlock ∨ v'.ownBlock = some w.heap.size) → wpList P ops Q rest (a.put o.dst v') w') : wpList P ops Q (o :: rest) a w :=
  wpList_plain hgd fun _ hK => wp_append_any w s x t ho base e i z size bytes ht hi hz hsize hby hzs hsz v n xs hs hown B A m c news hx hr h1 h63 hbytes hbase fun v' w' h2 h3 h4 => hK _ _ (h v' w' h2 h3 h4)

theorem step_append_any {ops : Array Oper} {o : Oper} {a : Act} {K : Act → World → Prop} {Q : Exit → Act → World → Prop} {E : Prop} (hgd : o.guard = none) (s x : Operand) (t : TypeId)
    (ho : o.op = .call { callee := .builtin .append, args := #[s, x], argTypes := #[t, t] })
    (base : Nat) (e : TypeId) (i : TypeInfo) (z : Value) (size bytes : Nat) (ht : P.underlying t = some (.slice e)) (hi : P.info? e = some i) (hz : i.zero = some z)
    (hsize : i.size = size) (hby : i.bytes = bytes) (hzs : z.cells.size = size) (hsz : 0 < size)
    (v : Value) (n : Nat) (xs : List Value) (hs : a.eval s = v) (hown : w.ownsRow base e size v n xs)
    (B : Nat) (A : Option Addr) (m c : Nat) (news : List Value) (hx : a.eval x = .slice A m c) (hr : Reads w B size A m news) (h1 : ∀ u ∈ news, u.oneCell' = true)
    (h63 : n + m ≤ maxLen) (hbytes : (n + m) * bytes ≤ 140737488355328) (hbase : base ≤ w.heap.size)
    (h : ∀ v' w', w'.ownsRow base e size v' (n + m) (xs ++ news) → w.grownBy w' v.ownBlock → (v'.ownBlock = v.ownBlock ∨ v'.ownBlock = some w.heap.size) → K (a.put o.dst v') w') :
    if Region.wanted o (yielded ops a.tmps) = true then Oper.wp P o a w K Q else E := by
  have hw : Region.wanted o (yielded ops a.tmps) = true := by simp [Region.wanted, hgd]
  rw [if_pos hw]
  exact wp_append_any w s x t ho base e i z size bytes ht hi hz hsize hby hzs hsz v n xs hs hown B A m c news hx hr h1 h63 hbytes hbase h
end


/-- The source of an append of literal elements: a block that the walk has just made. -/
theorem reads_new (w : World) (cs : Array Value) (t : TypeId) (size m : Nat) (h : cs.size = m * size) (B : Nat) (hB : w.heap.size < B) : Reads (w.alloc (.cells cs t)) B size (some ⟨w.heap.size, 0, none⟩) m cs.toList :=
  ⟨by simpa using h, fun _ => ⟨_, rfl, hB, fun j u hu => by
    have e : (⟨w.heap.size, 0, none⟩ : Addr).add j = ⟨w.heap.size, j, none⟩ := by unfold Addr.add; split <;> simp_all
    rw [e, cell_of_row _ _ _ cs t (0, 0) (heap_alloc_new w _)]
    simpa using hu⟩⟩
theorem ret_int {k : IntKind} {a b : Int} (h : a = b) : Ending.returned (.int k a) = .returned (.int k b) := by rw [h]
theorem ret_bool {a b : Bool} (h : a = b) : Ending.returned (.bool a) = .returned (.bool b) := by rw [h]
theorem box_keep {A W : World} {row : Option Nat} {B : Nat} {t : TypeId} {v : Value} (h : Boxed A B t v) (hg : A.grownBy W row) (hr : ∀ r, row = some r → ∃ o : Obj, A.heap[r]? = some o ∧ o.isCells = false) : Boxed W B t v :=
  h.kept hg (fun e => by obtain ⟨o, ho, hc⟩ := hr B e.symm; rw [show A.heap[B]? = _ from h] at ho; cases ho; cases hc)
theorem box_far {W : World} {B : Nat} {t : TypeId} {v : Value} (h : Boxed W B t v) {C : Nat} (hne : B ≠ C) (u : Value) : Boxed (W.setCell ⟨C, 0, none⟩ u) B t v := h.kept (grownBy_setCell' W C u) (by simpa using hne)
theorem box_below {W W' : World} {B n : Nat} {t : TypeId} {v : Value} (h : Boxed W B t v) (hb : Below n W W') (hB : B < n) : Boxed W' B t v := (hb.block B hB).trans h
theorem bcell {n : Nat} {W w1 : World} (hb : Below n W w1) : (∀ b o, b < n → w1.cell? ⟨b, o, none⟩ = W.cell? ⟨b, o, none⟩) ∧ (∀ b o, b < n → w1.frozen? ⟨b, o, none⟩ = W.frozen? ⟨b, o, none⟩) :=
  ⟨fun b o h => hb.cell (p := ⟨b, o, none⟩) h, fun b o h => hb.frozen (p := ⟨b, o, none⟩) h⟩

theorem below_drewN {B : Nat} {a w : World} (h : Below B a w) (n : Nat) : Below B a (w.drewN n) := ⟨h.os, h.tape, h.output, h.size, h.block⟩
theorem rowIs_drewN {w : World} {b : Nat} {t : TypeId} {n : Nat} {f : Nat → Value} (h : w.rowIs b t n f) (k : Nat) : (w.drewN k).rowIs b t n f := h
theorem grown_trans {a b c : World} (h : Grown a b) (k : Grown b c) : Grown a c :=
  ⟨World.keptBut_trans h.1 k.1, fun x => (k.2.1 x).trans (h.2.1 x), Nat.le_trans h.2.2 k.2.2⟩

theorem only_drewN {a w : World} {row : Option Nat} (h : a.grownBy w row) (n : Nat) : a.grownBy (w.drewN n) row := ⟨h.os, h.tape, h.output, h.size, h.block⟩
theorem only_drew {a w : World} {row : Option Nat} (h : a.grownBy w row) : a.grownBy w.drew row := ⟨h.os, h.tape, h.output, h.size, h.block⟩
theorem only_alloc {a w : World} {row : Option Nat} (h : a.grownBy w row) (o : Obj) : a.grownBy (w.alloc o) row :=
  ⟨h.os, h.tape, h.output, Nat.le_trans h.size (by simp), fun i hi hne => (Below.heap_alloc w o i (Nat.lt_of_lt_of_le hi h.size)).trans (h.block i hi hne)⟩
theorem only_setCell {a w : World} {g : Nat} (h : a.grownBy w (some g)) {p : Addr} (hp : p.block = g ∨ a.heap.size ≤ p.block) (u : Value) : a.grownBy (w.setCell p u) (some g) :=
  ⟨h.os, h.tape, h.output, by simpa [World.setCell] using h.size, fun i hi hne => (Below.heap_setCell w p u i (by
    rintro rfl
    rcases hp with hp | hp
    · exact hne (by rw [hp])
    · omega)).trans (h.block i hi hne)⟩
theorem only_of_below {a w : World} (h : Below a.heap.size a w) (row : Option Nat) : a.grownBy w row := ⟨h.os, h.tape, h.output, h.size, fun i hi _ => h.block i hi⟩

section
variable {H : Type} {enc : TypeId × Value → H} {P : Program}
theorem post_of_below {f : Func} {s : ChangeSpec} {apart fresh handsOn again : Bool} {W W' : World} {args : Array Value} {v : Value} {ds gs : List (DataW H)} {before pa pv : List MemPlace}
    (hW : DataW.Whole enc P f.params.toList s.vars apart W args.toList ds gs before)
    (hres : ∀ (b : Nat) (sp : Nat → Bool) (hd : Bool), DataW.TrodAll enc P W' b sp hd f.resultTypes.toList (v.resultList f.resultTypes.size) (s.fn H (ds ++ gs)).results [])
    (hargs : ∀ sp : Nat → Bool, (∀ p ∈ before, sp p.block = true) → DataW.TrodAll enc P W' 0 sp true f.params.toList args.toList (s.fn H (ds ++ gs)).args pa)
    (hvars : ∀ sp : Nat → Bool, (∀ p ∈ before, sp p.block = true) → DataW.TrodVars enc P W' sp s.vars (s.fn H (ds ++ gs)).vars pv)
    (hps : before = pa ++ pv) (hb : Below W.heap.size W W')
    (hok : ∀ (j : Nat) (t : TypeId) (r : Value), f.resultTypes[j]? = some t → (v.resultList f.resultTypes.size)[j]? = some r → Value.okWide P W' .any 0 t r) :
    s.post enc P f apart fresh handsOn again W args v W' := by
  have hlt : ∀ p ∈ before, p.block < W.heap.size := fun p hp => hW.lt p hp
  have hold : ∀ p ∈ before, (fun b => decide (b < W.heap.size)) p.block = true := fun p hp => by simpa using hlt p hp
  refine ⟨ds, gs, before, [], pa, pv, hW, hres _ _ _, hargs _ hold, hvars _ hold, World.keptBut_mono (fun p hp => ⟨hp, ?_⟩) (hb.frame (· ∈ before)), fun _ => ?_⟩
  · rw [hps, List.mem_append] at hp
    exact Or.inr hp
  · obtain ⟨_, _, _, _, _, hz, hn⟩ := hW
    refine ⟨hok, _, _, ([] ++ pa) ++ pv, ⟨[] ++ pa, pv, trodAll_append (hargs _ (fun _ _ => rfl)) (hres _ _ _), hvars _ (fun _ _ => rfl), rfl, ?_, ?_⟩, ?_⟩
    · intro b off hp
      have hin : MemPlace.cell b off ∈ before := by rw [hps]; simpa using hp
      rw [hb.frozen (hlt _ hin)]
      exact hz b off hin
    · intro ha
      have := hn ha
      rw [hps] at this
      simpa using this
    · intro p hp _
      rw [hps]
      simpa using hp
end
end Go.Proofs.Ytaifnipgefkemaa

/- A region that draws its order, walked in ONE order: the operations that only read are taken first, by a plan that is checked once; behind an operation that acts, the condition S is shown anew, but not behind those that wait for every read (the stores at a statement's end). After Derived/OrdersHeld.lean, turned. -/
namespace Go.Proofs.Ytaifnipgefkemaa
set_option linter.unusedVariables false
section
variable {P : Program} {ops : Array Oper} {Q : Exit → Act → World → Prop} {md : Region.Mode} {S : World → Prop} {fin : List Nat}

/-- Whatever order is picked from here on, and S holds behind every operation that is carried out and is not in the list fin. -/
def wpAnyN (P : Program) (md : Region.Mode) (ops : Array Oper) (Q : Exit → Act → World → Prop) (S : World → Prop) (fin : List Nat) : Nat → Array Bool → Act → World → Prop
  | 0, listed, a, w => Region.ready md ops listed = [] ∧ Q .normal a w
  | fuel + 1, listed, a, w =>
    (Region.ready md ops listed = [] → Q .normal a w) ∧
    ∀ i ∈ Region.ready md ops listed, wpOp P ops Q i (fun a' w' => (fin.contains i = false → S w') ∧ wpAnyN P md ops Q S fin fuel (listed.setIfInBounds i true) a' w') a w

theorem wpAny_of_need : ∀ (fuel : Nat) (listed : Array Bool) (a : Act) (w : World), wpAnyN P md ops Q S fin fuel listed a w → wpAny P md ops Q fuel listed a w
  | 0, _, _, _, h => h
  | fuel + 1, _, _, _, h => ⟨h.1, fun i hi => wpOp_mono (fun a' w' h' => wpAny_of_need fuel _ a' w' h'.2) (h.2 i hi)⟩

/-- Those that wait for number i, directly or through others. -/
def behind (md : Region.Mode) (ops : Array Oper) (i : Nat) : List Nat :=
  (List.range ops.size).foldl (fun C k => if ((ops[k]?).any fun o => o.after.any fun e => Region.binds md e && (e.on == i || C.contains e.on)) then k :: C else C) []
/-- Every operation of the list waits for number i; none of those that wait is done. -/
def waited (md : Region.Mode) (ops : Array Oper) (fin : List Nat) (i : Nat) (listed : Array Bool) : Bool :=
  let C := behind md ops i
  (fin.all fun j => C.contains j) && C.all fun k => !(listed.getD k true) && match ops[k]? with
    | none => false
    | some o => o.after.any fun e => Region.binds md e && (e.on == i || C.contains e.on)
theorem waited_spec {fin : List Nat} {i : Nat} {listed : Array Bool} (h : waited md ops fin i listed = true) : (∀ j, fin.contains j = true → j ∈ behind md ops i) ∧
    (∀ k ∈ behind md ops i, listed.getD k true = false) ∧ ∀ k ∈ behind md ops i, ∀ o, ops[k]? = some o → ∃ e ∈ o.after, Region.binds md e = true ∧ (e.on = i ∨ e.on ∈ behind md ops i) := by
  simp only [waited, Bool.and_eq_true, List.all_eq_true] at h
  refine ⟨fun j hj => by simpa using h.1 j (by simpa using hj), fun k hk => by simpa using (h.2 k hk).1, fun k hk o ho => ?_⟩
  have := (h.2 k hk).2
  rw [ho] at this
  obtain ⟨m, hm, hm2⟩ := Array.any_eq_true.1 this
  have h2 := Bool.and_eq_true_iff.1 hm2
  refine ⟨o.after[m], Array.getElem_mem hm, h2.1, ?_⟩
  have h3 := h2.2
  simp only [Bool.or_eq_true, beq_iff_eq, List.contains_iff_mem] at h3
  exact h3

theorem wpAnyN_first {i : Nat} {oi : Oper} {v : Value} (hi : ops[i]? = some oi) (C : List Nat) (hn : ∀ j, fin.contains j = true → j ∈ C) (hC : ∀ k ∈ C, ∀ o, ops[k]? = some o → ∃ e ∈ o.after, Region.binds md e = true ∧ (e.on = i ∨ e.on ∈ C)) (hsel : ∀ (j : Nat) (o : Oper) cs b, ops[j]? = some o → o.op ≠ .select cs b)
    (hQ : ∀ c a w, Q (.panic c) (a.put oi.dst v) w → Q (.panic c) a w) :
    ∀ (fuel : Nat) (listed : Array Bool) (a : Act) (w : World),
      (∀ j oj, ops[j]? = some oj → j ≠ i → listed.getD j true = false → (∀ e ∈ oj.after, Region.binds md e = true → e.on ≠ i) → oi.apart ops oj = true) →
      (∀ k ∈ C, listed.getD k true = false) →
      i ∈ Region.ready md ops listed → YieldsIf P ops S oi v a → S w →
      wpAnyN P md ops Q S fin fuel (listed.setIfInBounds i true) (a.put oi.dst v) w → wpAnyN P md ops Q S fin (fuel + 1) listed a w := by
  intro fuel
  induction fuel with
  | zero =>
    intro listed a w _ _ hr hy hS H
    refine ⟨fun h => (by rw [h] at hr; cases hr), fun j hj => ?_⟩
    by_cases hji : j = i
    · subst hji; exact hy.wpOp hi hS ⟨fun _ => hS, H⟩
    · have := ready_mono hj hji
      rw [H.1] at this
      cases this
  | succ fuel ih =>
    intro listed a w hfree hun0 hr hy hS H
    refine ⟨fun h => (by rw [h] at hr; cases hr), fun j hj => ?_⟩
    by_cases hji : j = i
    · subst hji; exact hy.wpOp hi hS ⟨fun _ => hS, H⟩
    · have h1 := H.2 j (ready_mono hj hji)
      obtain ⟨hjun, oj, hoj, hall⟩ := mem_ready.1 hj
      have hnot : ∀ e ∈ oj.after, Region.binds md e = true → e.on ≠ i := fun e he hb heq => by
        have h1 := hall e he hb
        have h0 := (mem_ready.1 hr).1
        rw [heq] at h1
        rcases Nat.lt_or_ge i listed.size with h' | h'
        · simp [h'] at h0 h1; rw [h0] at h1; cases h1
        · simp [Array.getElem?_eq_none h'] at h1
      have hjC : j ∉ C := fun hjC => by
        obtain ⟨e, he, hb, heq⟩ := hC j hjC oj hoj
        rcases heq with heq | heq
        · exact hnot e he hb heq
        · have h1 := hall e he hb
          have h0 := hun0 _ heq
          rcases Nat.lt_or_ge e.on listed.size with h' | h'
          · simp [h'] at h0 h1; rw [h0] at h1; cases h1
          · simp [Array.getElem?_eq_none h'] at h1
      have hfin : fin.contains j = false := by
        cases hc : fin.contains j with
        | false => rfl
        | true => exact absurd (hn j hc) hjC
      have hun1 : ∀ k ∈ C, (listed.setIfInBounds j true).getD k true = false := fun k hk => by
        rw [getD_set_ne true (show ¬ j = k by rintro rfl; exact hjC hk)]
        exact hun0 k hk
      have h2 := wpOp_putIf hoj (hfree j oj hoj hji hjun hnot) (fun cs b => hsel i oi cs b hi) (fun cs b => hsel j oj cs b hoj) hQ hy h1
      have hfree' : ∀ k ok, ops[k]? = some ok → k ≠ i → (listed.setIfInBounds j true).getD k true = false →
          (∀ e ∈ ok.after, Region.binds md e = true → e.on ≠ i) → oi.apart ops ok = true := fun k ok hk hki hun hno => by
        refine hfree k ok hk hki ?_ hno
        by_cases hjk : j = k
        · subst hjk; exact hjun
        · rw [getD_set_ne true hjk] at hun; exact hun
      refine wpOp_mono (fun a' w' h3 => ⟨h3.2.1, ih (listed.setIfInBounds j true) a' w' hfree' hun1 (ready_mono hr (Ne.symm hji)) h3.1 (h3.2.1 hfin) ?_⟩) h2
      rw [Array.setIfInBounds_comm _ _ hji]
      exact h3.2.2

theorem wpAnyN_take {i : Nat} {oi : Oper} {v : Value} {fuel : Nat} {listed : Array Bool} {a : Act} {w : World} (hi : ops[i]? = some oi) (hn : waited md ops fin i listed = true)
    (hs : Region.noSelect ops = true) (hf : Region.free md ops listed i = true) (hr : (Region.ready md ops listed).contains i = true)
    (hQ : ∀ c a w, Q (.panic c) (a.put oi.dst v) w → Q (.panic c) a w) (hy : YieldsIf P ops S oi v a) (hS : S w)
    (h : wpAnyN P md ops Q S fin fuel (listed.setIfInBounds i true) (a.put oi.dst v) w) : wpAnyN P md ops Q S fin (fuel + 1) listed a w :=
  wpAnyN_first hi (behind md ops i) (waited_spec hn).1 (waited_spec hn).2.2 (Region.noSelect_spec hs) hQ fuel listed a w (Region.free_spec hi hf) (waited_spec hn).2.1 (by simpa using hr) hy hS h

/-- A plan: the operations in the order in which they are walked; true: it only reads and is taken first; false: it acts, and nothing else may come up in its place. -/
def planOk (md : Region.Mode) (ops : Array Oper) (fin : List Nat) : List (Bool × Nat) → Array Bool → Bool
  | [], listed => (Region.ready md ops listed).isEmpty
  | (true, i) :: r, listed => waited md ops fin i listed && Region.free md ops listed i && (Region.ready md ops listed).contains i && planOk md ops fin r (listed.setIfInBounds i true)
  | (false, i) :: r, listed => (Region.ready md ops listed == [i]) && planOk md ops fin r (listed.setIfInBounds i true)

def wpPlan (P : Program) (ops : Array Oper) (Q : Exit → Act → World → Prop) (S : World → Prop) (fin : List Nat) : List (Bool × Nat) → Act → World → Prop
  | [], a, w => Q .normal a w
  | (true, i) :: r, a, w => S w ∧ ∃ o v, ops[i]? = some o ∧ YieldsIf P ops S o v a ∧ wpPlan P ops Q S fin r (a.put o.dst v) w
  | (false, i) :: r, a, w => ∃ o, ops[i]? = some o ∧ wpList P ops (Exit.then (fun a' w' => (fin.contains i = false → S w') ∧ wpPlan P ops Q S fin r a' w') Q) [o] a w

theorem plan_done {a : Act} {w : World} (h : Q .normal a w) : wpPlan P ops Q S fin [] a w := h
/-- A place of a list, found by plain steps: so that an operation stands written out. -/
def nth {α : Type} : List α → Nat → Option α
  | [], _ => none
  | x :: _, 0 => some x
  | _ :: l, n + 1 => nth l n
theorem nth_eq {α : Type} : ∀ (l : List α) (n : Nat), nth l n = l[n]?
  | [], n => by simp [nth]
  | x :: l, 0 => by simp [nth]
  | x :: l, n + 1 => by simp [nth, nth_eq l n]
theorem nth_op {i : Nat} {o : Oper} (h : nth ops.toList i = some o) : ops[i]? = some o := by rw [nth_eq] at h; simpa using h
theorem plan_yes {i : Nat} {r : List (Bool × Nat)} {o : Oper} {v : Value} {a : Act} {w : World} (hS : S w) (ho : nth ops.toList i = some o) (hw : Region.wanted o (yielded ops a.tmps) = true)
    (hy : ∀ w, S w → (execOp a.eval o).run P w = .ok (.value v) w) (h : wpPlan P ops Q S fin r (a.put o.dst v) w) : wpPlan P ops Q S fin ((true, i) :: r) a w := ⟨hS, o, v, nth_op ho, .inl ⟨hw, hy⟩, h⟩
theorem plan_no {i : Nat} {r : List (Bool × Nat)} {o : Oper} {a : Act} {w : World} (hS : S w) (ho : nth ops.toList i = some o) (hw : Region.wanted o (yielded ops a.tmps) = false)
    (h : wpPlan P ops Q S fin r (a.put o.dst undef) w) : wpPlan P ops Q S fin ((true, i) :: r) a w := ⟨hS, o, undef, nth_op ho, .inr ⟨hw, rfl⟩, h⟩
theorem plan_act {i : Nat} {r : List (Bool × Nat)} {o : Oper} {a : Act} {w : World} (ho : nth ops.toList i = some o)
    (h : ∀ K : Act → World → Prop, (∀ a' w', (fin.contains i = false → S w') → wpPlan P ops Q S fin r a' w' → K a' w') → wpList P ops (Exit.then K Q) [o] a w) : wpPlan P ops Q S fin ((false, i) :: r) a w :=
  ⟨o, nth_op ho, h _ fun a' w' h1 h2 => ⟨h1, h2⟩⟩
theorem plan_skip {i : Nat} {r : List (Bool × Nat)} {o : Oper} {a : Act} {w : World} (ho : nth ops.toList i = some o) (hw : Region.wanted o (yielded ops a.tmps) = false) (hS : S w)
    (h : wpPlan P ops Q S fin r (a.put o.dst undef) w) : wpPlan P ops Q S fin ((false, i) :: r) a w :=
  ⟨o, nth_op ho, by simp only [wpList, hw]; exact ⟨fun _ => hS, h⟩⟩

theorem wpOp_of_list {i : Nat} {o : Oper} {K : Act → World → Prop} {a : Act} {w : World} (ho : ops[i]? = some o) (h : wpList P ops (Exit.then K Q) [o] a w) : wpOp P ops Q i K a w := by
  unfold wpOp
  simp only [ho]
  unfold wpList at h
  split
  · rename_i hw
    rw [if_pos hw] at h
    rcases h with h | h
    · refine .inl ?_
      unfold Oper.wp at *
      generalize (execOp a.eval o).run P w = res at *
      cases res with
      | ok n w' =>
        cases n <;> simp only [Oper.upon] at h ⊢ <;> first
          | exact h
          | exact Calls.mono h (fun e w'' he => by cases e <;> exact he)
          | exact Rows.mono h (fun _ _ he => he)
      | halt x w' => cases x <;> simp only [Oper.upon] at h ⊢ <;> exact h
    · exact .inr h
  · rename_i hw
    rw [if_neg hw] at h
    exact h

theorem plan_sound (hs : Region.noSelect ops = true) (hQ : ∀ c d v (a : Act) w, Q (.panic c) (a.put d v) w → Q (.panic c) a w) :
    ∀ (p : List (Bool × Nat)) (listed : Array Bool) (a : Act) (w : World), planOk md ops fin p listed = true → wpPlan P ops Q S fin p a w → wpAnyN P md ops Q S fin p.length listed a w
  | [], listed, a, w, hp, h => ⟨by simpa [planOk] using hp, h⟩
  | (true, i) :: r, listed, a, w, hp, h => by
    simp only [planOk, Bool.and_eq_true] at hp
    obtain ⟨⟨⟨h1, h2⟩, h3⟩, h4⟩ := hp
    obtain ⟨hS, o, v, ho, hy, hr⟩ := h
    exact wpAnyN_take ho h1 hs h2 h3 (fun c a w => hQ c _ _ a w) hy hS (plan_sound hs hQ r _ _ _ h4 hr)
  | (false, i) :: r, listed, a, w, hp, h => by
    simp only [planOk, Bool.and_eq_true, beq_iff_eq] at hp
    obtain ⟨h1, h2⟩ := hp
    obtain ⟨o, ho, hl⟩ := h
    refine ⟨fun h0 => (by rw [h0] at h1; cases h1), fun j hj => ?_⟩
    rw [h1] at hj
    obtain rfl : j = i := by simpa using hj
    exact wpOp_mono (fun a' w' h' => ⟨h'.1, plan_sound hs hQ r _ _ _ h2 h'.2⟩) (wpOp_of_list ho hl)

/-- **A region that draws its order, by a plan.** -/
theorem wp_region_plan {id : Nat} {a : Act} {w : World} (p : List (Bool × Nat)) (S : World → Prop) (fin : List Nat) (hm : P.follows .mixedOrders = true) (hs : Region.noSelect ops = true)
    (hp : planOk .any ops fin p (Array.replicate ops.size false) = true) (hz : p.length = ops.size) (hQ : ∀ c d v (a : Act) w, Q (.panic c) (a.put d v) w → Q (.panic c) a w)
    (h : wpPlan P ops Q S fin p a w.drew) : (Code.region id ops true).wp P Q a w :=
  wp_region_any hm (wpAny_of_need _ _ _ _ (by rw [← hz]; exact plan_sound hs hQ p _ _ _ (by rw [hz]; exact hp) h))
end
end Go.Proofs.Ytaifnipgefkemaa

/- A walk over an abstract state: the frame as a function of slots, the call's own memory as a list of resources; the rest of memory is as it was when the call began (but for the blocks of the list M). Plain definitions and theorems; nothing here knows the program. -/
namespace Go.Proofs.Ytaifnipgefkemaa
open Go.RowKit Go.Shelf
set_option linter.unusedVariables false
set_option linter.unusedSimpArgs false

/-! ## Memory of the call's own -/
/-- blk: a block known whole. row: a slice that owns its row (append may grow it). dat: anything that depends on the blocks foot alone. -/
inductive Res where
  | blk (b : Nat) (t : TypeId) (cs : List Value)
  | row (v : Value) (t : TypeId) (size n : Nat) (xs : List Value)
  | dat (foot : List Nat) (holds : World → Prop) (loc : ∀ w w' : World, (∀ b ∈ foot, w'.heap[b]? = w.heap[b]?) → holds w → holds w')
def Res.foot : Res → List Nat
  | .blk b _ _ => [b]
  | .row v _ _ _ _ => v.ownBlock.toList
  | .dat f _ _ => f
def Res.holds (w : World) : Res → Prop
  | .blk b t cs => w.heap[b]? = some (.cells cs.toArray t (0, 0))
  | .row v t size n xs => w.ownsRow 0 t size v n xs
  | .dat _ h _ => h w
structure Pres (M : List Nat) (W w : World) : Prop where
  os : w.os = W.os
  tape : w.tape = W.tape
  output : w.output = W.output
  size : W.heap.size ≤ w.heap.size
  block : ∀ k, k < W.heap.size → k ∉ M → w.heap[k]? = W.heap[k]?
structure St (M : List Nat) (W : World) (L : List Res) (w : World) : Prop where
  pres : Pres M W w
  holds : ∀ r ∈ L, r.holds w
  own : ∀ r ∈ L, ∀ b ∈ r.foot, (W.heap.size ≤ b ∨ b ∈ M) ∧ b < w.heap.size
  apart : L.Pairwise (fun r s => ∀ b ∈ r.foot, b ∉ s.foot)

theorem Res.keep {w w' : World} (r : Res) (h : r.holds w) (hk : ∀ b ∈ r.foot, w'.heap[b]? = w.heap[b]?) : r.holds w' := by
  cases r with
  | blk b t cs => exact (hk b (by simp [Res.foot])).trans h
  | row v t size n xs =>
    refine ⟨h.1, ?_⟩
    rcases h.2 with hn | ⟨g, cap, cur, rfl, h1, h2, h3⟩
    · exact .inl hn
    · exact .inr ⟨g, cap, cur, rfl, h1, (hk g (by simp [Res.foot, Value.ownBlock])).trans h2, h3⟩
  | dat f p loc => exact loc w w' hk h
section
variable {M : List Nat} {W w w' : World} {L L' : List Res}
theorem Pres.refl (M : List Nat) (W : World) : Pres M W W := ⟨rfl, rfl, rfl, Nat.le_refl _, fun _ _ _ => rfl⟩
theorem Pres.below (h : Pres [] W w) : Below W.heap.size W w := ⟨h.os, h.tape, h.output, h.size, fun k hk => h.block k hk (by simp)⟩
theorem Below.pres (h : Below W.heap.size W w) (M : List Nat) : Pres M W w := ⟨h.os, h.tape, h.output, h.size, fun k hk _ => h.block k hk⟩
theorem St.below (h : St [] W L w) : Below W.heap.size W w := h.pres.below
theorem St.nil (M : List Nat) (W : World) : St M W [] W := ⟨Pres.refl _ _, by simp, by simp, List.Pairwise.nil⟩
theorem St.drew (h : St M W L w) : St M W L w.drew :=
  ⟨⟨h.pres.os, h.pres.tape, h.pres.output, h.pres.size, h.pres.block⟩, fun r hr => r.keep (h.holds r hr) (fun _ _ => rfl), h.own, h.apart⟩
/-- A call that leaves all old memory alone. -/
theorem St.quiet (h : St M W L w) (hb : Below w.heap.size w w') : St M W L w' :=
  ⟨⟨hb.os.trans h.pres.os, hb.tape.trans h.pres.tape, hb.output.trans h.pres.output, Nat.le_trans h.pres.size hb.size, fun k hk hm => (hb.block k (Nat.lt_of_lt_of_le hk h.pres.size)).trans (h.pres.block k hk hm)⟩,
   fun r hr => r.keep (h.holds r hr) (fun b hbf => hb.block b (h.own r hr b hbf).2),
   fun r hr b hbf => ⟨(h.own r hr b hbf).1, Nat.lt_of_lt_of_le (h.own r hr b hbf).2 hb.size⟩, h.apart⟩
theorem St.sub (h : St M W L w) (hs : L'.Sublist L) : St M W L' w :=
  ⟨h.pres, fun r hr => h.holds r (hs.subset hr), fun r hr => h.own r (hs.subset hr), h.apart.sublist hs⟩
theorem St.perm (h : St M W L w) (hs : L'.Perm L) : St M W L' w :=
  ⟨h.pres, fun r hr => h.holds r (hs.subset hr), fun r hr => h.own r (hs.subset hr), (hs.symm.pairwise h.apart (by
    intro r s hrs b hb hb'
    exact hrs b hb' hb))⟩
theorem St.tail {r : Res} (h : St M W (r :: L) w) : St M W L w := h.sub (List.sublist_cons_self _ _)
theorem St.of_suffix (h : St M W (L' ++ L) w) : St M W L w := h.sub (List.sublist_append_right _ _)
/-- New memory with what is said of it. -/
theorem St.add (h : St M W L w) (r : Res) (hr : r.holds w) (hf : ∀ b ∈ r.foot, (W.heap.size ≤ b ∨ b ∈ M) ∧ b < w.heap.size) (ha : ∀ s ∈ L, ∀ b ∈ r.foot, b ∉ s.foot) : St M W (r :: L) w :=
  ⟨h.pres, by
    intro s hs
    rcases List.mem_cons.1 hs with rfl | hs
    · exact hr
    · exact h.holds s hs, by
    intro s hs
    rcases List.mem_cons.1 hs with rfl | hs
    · exact hf
    · exact h.own s hs, List.pairwise_cons.2 ⟨ha, h.apart⟩⟩
theorem St.alloc (h : St M W L w) (t : TypeId) (cs : List Value) : St M W (.blk w.heap.size t cs :: L) (w.alloc (.cells cs.toArray t)) := by
  have hb : Below w.heap.size w (w.alloc (.cells cs.toArray t)) := (Below.refl _ _).alloc (Nat.le_refl _) _
  refine (h.quiet hb).add _ (heap_alloc_new w _) ?_ ?_
  · intro b hbf
    obtain rfl : b = w.heap.size := by simpa [Res.foot] using hbf
    exact ⟨.inl h.pres.size, by simp⟩
  · intro s hs b hbf hbs
    obtain rfl : b = w.heap.size := by simpa [Res.foot] using hbf
    exact absurd (h.own s hs _ hbs).2 (Nat.lt_irrefl _)
/-- A new block, its other contents unsaid. -/
theorem St.allocs (h : St M W L w) (o : Obj) : St M W L (w.alloc o) := h.quiet ((Below.refl _ _).alloc (Nat.le_refl _) _)

theorem St.blk_cell {b : Nat} {t : TypeId} {cs : List Value} (h : St M W L w) (hm : Res.blk b t cs ∈ L) (i : Nat) : w.cell? ⟨b, i, none⟩ = cs[i]? := by
  rw [cell_of_row w b i cs.toArray t (0, 0) (h.holds _ hm)]
  simp
theorem St.blk_frozen {b : Nat} {t : TypeId} {cs : List Value} (h : St M W L w) (hm : Res.blk b t cs ∈ L) (i : Nat) : w.frozen? ⟨b, i, none⟩ = false := by
  have := h.holds _ hm
  simp only [Res.holds] at this
  simp [World.frozen?, this]
theorem St.base {k : Nat} (h : St M W L w) (hk : k < W.heap.size) (hm : k ∉ M) : w.heap[k]? = W.heap[k]? := h.pres.block k hk hm
theorem St.base_cell {a : Addr} (h : St M W L w) (hk : a.block < W.heap.size) (hm : a.block ∉ M) : w.cell? a = W.cell? a := World.cell?_of_block (h.base hk hm)

/-- The first block of the list with this number. -/
def look : List Res → Nat → Option (List Value)
  | [], _ => none
  | .blk b _ cs :: L, k => if b = k then some cs else look L k
  | .row _ _ _ _ _ :: L, k => look L k
  | .dat _ _ _ :: L, k => look L k
/-- The list with that block's cells replaced. -/
def putL : List Res → Nat → List Value → List Res
  | [], _, _ => []
  | .blk b t cs :: L, k, us => if b = k then .blk b t us :: L else .blk b t cs :: putL L k us
  | .row v t s n xs :: L, k, us => .row v t s n xs :: putL L k us
  | .dat f p l :: L, k, us => .dat f p l :: putL L k us
theorem look_mem : ∀ {L : List Res} {k : Nat} {cs : List Value}, look L k = some cs → ∃ t, Res.blk k t cs ∈ L
  | .blk b t cs' :: L, k, cs, h => by
    simp only [look] at h
    split at h
    · rename_i hb
      subst hb
      cases h
      exact ⟨t, by simp⟩
    · obtain ⟨t, ht⟩ := look_mem h
      exact ⟨t, List.mem_cons_of_mem _ ht⟩
  | .row _ _ _ _ _ :: L, k, cs, h => by obtain ⟨t, ht⟩ := look_mem (L := L) h; exact ⟨t, List.mem_cons_of_mem _ ht⟩
  | .dat _ _ _ :: L, k, cs, h => by obtain ⟨t, ht⟩ := look_mem (L := L) h; exact ⟨t, List.mem_cons_of_mem _ ht⟩
theorem putL_split : ∀ {L : List Res} {k : Nat} {cs us : List Value}, look L k = some cs → ∃ t A B, L = A ++ Res.blk k t cs :: B ∧ putL L k us = A ++ Res.blk k t us :: B
  | .blk b t cs' :: L, k, cs, us, h => by
    simp only [look] at h
    split at h
    · rename_i hb
      subst hb
      cases h
      exact ⟨t, [], L, rfl, by simp [putL]⟩
    · rename_i hb
      obtain ⟨t', A, B, h1, h2⟩ := putL_split (us := us) h
      exact ⟨t', .blk b t cs' :: A, B, by rw [h1]; rfl, by simp only [putL, if_neg hb, h2]; rfl⟩
  | .row v t s n xs :: L, k, cs, us, h => by
    obtain ⟨t', A, B, h1, h2⟩ := putL_split (L := L) (us := us) h
    exact ⟨t', .row v t s n xs :: A, B, by rw [h1]; rfl, by simp only [putL, h2]; rfl⟩
  | .dat f p l :: L, k, cs, us, h => by
    obtain ⟨t', A, B, h1, h2⟩ := putL_split (L := L) (us := us) h
    exact ⟨t', .dat f p l :: A, B, by rw [h1]; rfl, by simp only [putL, h2]; rfl⟩
/-- Writing into a block of the list. -/
theorem St.write {b : Nat} {t : TypeId} {cs us : List Value} {A B : List Res} (h : St M W (A ++ .blk b t cs :: B) w)
    (hp : ∀ k, k ≠ b → w'.heap[k]? = w.heap[k]?) (hb : w'.heap[b]? = some (.cells us.toArray t (0, 0))) (hs : w'.heap.size = w.heap.size) (ho : w'.os = w.os) (ht : w'.tape = w.tape) (hu : w'.output = w.output) :
    St M W (A ++ .blk b t us :: B) w' := by
  have hmem : Res.blk b t cs ∈ A ++ .blk b t cs :: B := by simp
  have hbo := h.own _ hmem b (by simp [Res.foot])
  have hap := h.apart
  have hfoot : ∀ r ∈ A ++ B, b ∉ r.foot := by
    intro r hr hbr
    rw [List.pairwise_append] at hap
    rcases List.mem_append.1 hr with hr | hr
    · exact hap.2.2 r hr (.blk b t cs) (by simp) b hbr (by simp [Res.foot])
    · exact (List.pairwise_cons.1 hap.2.1).1 r hr b (by simp [Res.foot]) hbr
  refine ⟨⟨ho.trans h.pres.os, ht.trans h.pres.tape, hu.trans h.pres.output, by rw [hs]; exact h.pres.size, fun k hk hm => ?_⟩, ?_, ?_, ?_⟩
  · rw [hp k (by
      rintro rfl
      rcases hbo.1 with h1 | h1
      · omega
      · exact hm h1)]
    exact h.pres.block k hk hm
  · intro r hr
    rcases List.mem_append.1 hr with hr1 | hr1
    · exact r.keep (h.holds r (by simp [hr1])) (fun c hc => hp c (fun e => hfoot r (by simp [hr1]) (e ▸ hc)))
    · rcases List.mem_cons.1 hr1 with rfl | hr1
      · exact hb
      · exact r.keep (h.holds r (by simp [hr1])) (fun c hc => hp c (fun e => hfoot r (by simp [hr1]) (e ▸ hc)))
  · intro r hr c hc
    rw [hs]
    rcases List.mem_append.1 hr with hr1 | hr1
    · exact h.own r (by simp [hr1]) c hc
    · rcases List.mem_cons.1 hr1 with rfl | hr1
      · exact h.own _ hmem c hc
      · exact h.own r (by simp [hr1]) c hc
  · rw [List.pairwise_append] at hap ⊢
    rw [List.pairwise_cons] at hap ⊢
    refine ⟨hap.1, ⟨fun r hr c hc => hap.2.1.1 r hr c hc, hap.2.1.2⟩, fun r hr s hs => ?_⟩
    rcases List.mem_cons.1 hs with rfl | hs
    · exact hap.2.2 r hr (.blk b t cs) (by simp)
    · exact hap.2.2 r hr s (by simp [hs])
end

/-! ## Frames -/
abbrev Fr := Nat → Value
def upd (F : Fr) (d : Nat) (v : Value) : Fr := fun i => if i = d then v else F i
def updo (F : Fr) (d : Option Nat) (v : Value) : Fr := match d with | some d => upd F d v | none => F
/-- A frame given by its first values. -/
def mkF (vs : List Value) : Fr := fun i => vs.getD i undef
theorem upd_apply (F : Fr) (d : Nat) (v : Value) (i : Nat) : upd F d v i = if i = d then v else F i := rfl
theorem updo_some (F : Fr) (d : Nat) (v : Value) : updo F (some d) v = upd F d v := rfl
theorem updo_none (F : Fr) (v : Value) : updo F none v = F := rfl
theorem mkF_zero (v : Value) (vs : List Value) : mkF (v :: vs) 0 = v := rfl
theorem mkF_succ (v : Value) (vs : List Value) (n : Nat) : mkF (v :: vs) (n + 1) = mkF vs n := rfl
theorem mkF_nil (n : Nat) : mkF [] n = undef := rfl
def ev (F : Fr) : Operand → Value
  | .tmp t => F t
  | .const v => v
  | .global g => .pointer (some ⟨g, 0, none⟩)
  | .func f => .func (.func f) #[] #[]
structure FrOK (n : Nat) (a : Act) (F : Fr) : Prop where
  defers : a.defers = []
  size : a.tmps.size = n
  get : ∀ i, a.tmps.getD i undef = F i
theorem FrOK.eval {n : Nat} {a : Act} {F : Fr} (h : FrOK n a F) : a.eval = ev F := by
  funext x
  cases x with
  | tmp t => exact h.get t
  | const v => rfl
  | global g => rfl
  | func f => rfl
def dstOk (n : Nat) : Option Nat → Prop
  | none => True
  | some d => d < n
theorem FrOK.put {n : Nat} {a : Act} {F : Fr} (h : FrOK n a F) {d : Option Nat} (hd : dstOk n d) (v : Value) : FrOK n (a.put d v) (updo F d v) := by
  cases d with
  | none => exact h
  | some d =>
    refine ⟨h.defers, by simp [Act.put, h.size], fun i => ?_⟩
    have hd' : d < a.tmps.size := by rw [h.size]; exact hd
    simp only [Act.put, updo, upd]
    by_cases e : i = d
    · subst e
      simp [hd']
    · rw [if_neg e, ← h.get i]
      simp [Ne.symm e]
end Go.Proofs.Ytaifnipgefkemaa

/- What an operation that only computes makes of its operands, and that the model makes the same. -/
namespace Go.Proofs.Ytaifnipgefkemaa
open Go.RowKit Go.Shelf
set_option linter.unusedVariables false
set_option linter.unusedSimpArgs false

/-! closed facts of types -/
def isAggD : TypeDesc → Bool
  | .struct _ | .array _ _ => true
  | _ => false
/-- Is it a struct or an array; how many cells. -/
def tsz (P : Program) (t : TypeId) : Option (Bool × Nat) :=
  match P.underlying t, P.info? t with
  | some d, some i => some (isAggD d, i.size)
  | _, _ => none
/-- The cells of the zero value. -/
def tzero (P : Program) (t : TypeId) : Option (List Value) :=
  match P.info? t with
  | some i => i.zero.map (·.cells.toList)
  | none => none
/-- A slice type's element, with its size. -/
def tsl (P : Program) (t : TypeId) : Option (TypeId × Nat) :=
  match P.underlying t with
  | some (.slice e) => (P.info? e).map fun i => (e, i.size)
  | _ => none
/-- The place of a field. -/
def tfo (P : Program) (s : TypeId) (f : Nat) : Option Nat :=
  match P.underlying s with
  | some (.struct fs) => match fs[f]? with
    | some fd => match P.info? fd.type with
      | some i => if i.size = 0 then none else some fd.offset
      | none => none
    | none => none
  | _ => none
def tint (P : Program) (t : TypeId) : Option IntKind :=
  match P.underlying t with
  | some (.int k) => some k
  | _ => none
def tarr (P : Program) (t : TypeId) : Option (Nat × Nat) :=
  match P.underlying t with
  | some (.array n e) => (P.info? e).map fun i => (n, i.size)
  | _ => none

/-- 1: bool, 2: a pointer, 3: a slice, 4: a string, 0: any other. -/
def tkind (P : Program) (t : TypeId) : Nat :=
  match P.underlying t with
  | some .bool => 1
  | some (.pointer _) => 2
  | some (.slice _) => 3
  | some .string => 4
  | _ => 0
theorem tkind_bool {P : Program} {t : TypeId} (h : tkind P t = 1) : P.underlying t = some .bool := by
  unfold tkind at h
  split at h <;> first | assumption | cases h
theorem tkind_ptr {P : Program} {t : TypeId} (h : tkind P t = 2) : P.underlying t = some (.pointer (P.pointee t)) := by
  unfold tkind at h
  split at h <;> first | (rename_i e he; simp [Program.pointee, he]; done) | cases h
theorem tkind_slice {P : Program} {t : TypeId} (h : tkind P t = 3) : P.underlying t = some (.slice (P.elem t)) := by
  unfold tkind at h
  split at h <;> first | (rename_i e he; simp [Program.elem, he]; done) | cases h

inductive PV where
  | need (p : Prop) (v : Value)
  | no

def cmpv (op : BinOp) (a b : Int) : Bool :=
  match op with
  | .eql => decide (a = b)
  | .neq => !decide (a = b)
  | .lss => decide (a < b)
  | .leq => decide (a ≤ b)
  | .gtr => decide (b < a)
  | .geq => decide (b ≤ a)
  | _ => false
def intsEq : List Value → List Value → Option Bool
  | [], [] => some true
  | .int k a :: xs, .int k' b :: ys => if k = k' then (intsEq xs ys).map fun r => decide (a = b) && r else none
  | _, _ => none
/-- A struct all of whose fields are integers, a cell each, in order. -/
def flatInts (P : Program) : Nat → List Field → Bool
  | _, [] => true
  | i, f :: fs => f.name != "_" && f.offset == i && (tsz P f.type == some (false, 1)) && (tint P f.type).isSome && flatInts P (i + 1) fs
def eqOk (P : Program) (t : TypeId) : Option Nat :=
  match P.underlying t with
  | some (.struct fs) => if flatInts P 0 fs.toList && !P.stoodInHeld t && !P.eqGuardType P.depth t then some fs.size else none
  | _ => none

def binv (P : Program) (op : BinOp) (t : TypeId) (x y : Value) : PV :=
  match op with
  | .add => match x, y with
    | .int k a, .int k' b => .need (k = k') (.int k (k.wrap (a + b)))
    | .string a, .string b => .need (a.size + b.size ≤ 9223372036854775807) (.string (a ++ b))
    | _, _ => .no
  | .sub => match x, y with | .int k a, .int k' b => .need (k = k') (.int k (k.wrap (a - b))) | _, _ => .no
  | .mul => match x, y with | .int k a, .int k' b => .need (k = k') (.int k (k.wrap (a * b))) | _, _ => .no
  | .quo => match x, y with | .int k a, .int k' b => .need (k = k' ∧ b ≠ 0) (.int k (k.wrap (a.tdiv b))) | _, _ => .no
  | .rem => match x, y with | .int k a, .int k' b => .need (k = k' ∧ b ≠ 0) (.int k (a.tmod b)) | _, _ => .no
  | .and => match x, y with | .int k a, .int k' b => .need (k = k') (.int k (bits .and k a b)) | _, _ => .no
  | .or => match x, y with | .int k a, .int k' b => .need (k = k') (.int k (bits .or k a b)) | _, _ => .no
  | .xor => match x, y with | .int k a, .int k' b => .need (k = k') (.int k (bits .xor k a b)) | _, _ => .no
  | .andNot => match x, y with | .int k a, .int k' b => .need (k = k') (.int k (bits .andNot k a b)) | _, _ => .no
  | .shl => match x, y with | .int k a, .int k' b => .need (0 ≤ b ∧ b ≤ k.bits) (.int k (k.wrap (a * 2 ^ b.toNat))) | _, _ => .no
  | .shr => match x, y with | .int k a, .int k' b => .need (0 ≤ b ∧ b ≤ k.bits) (.int k (a / 2 ^ b.toNat)) | _, _ => .no
  | .eql => match x, y with
    | .int k a, .int k' b => .need (k = k') (.bool (decide (a = b)))
    | .bool a, .bool b => .need (tkind P t = 1) (.bool (a == b))
    | .string a, .string b => .need True (.bool (a.toList == b.toList))
    | .pointer a, .pointer none => .need (tkind P t = 2) (.bool a.isNone)
    | .slice a n c, .slice none 0 0 => .need (tkind P t = 3) (.bool a.isNone)
    | .agg xs, .agg ys => match eqOk P t, intsEq xs.toList ys.toList with
      | some n, some r => .need (xs.size = n ∧ ys.size = n) (.bool r)
      | _, _ => .no
    | _, _ => .no
  | .neq => match x, y with
    | .int k a, .int k' b => .need (k = k') (.bool (!decide (a = b)))
    | .bool a, .bool b => .need (tkind P t = 1) (.bool (!(a == b)))
    | .string a, .string b => .need True (.bool (!(a.toList == b.toList)))
    | .pointer a, .pointer none => .need (tkind P t = 2) (.bool a.isSome)
    | .slice a n c, .slice none 0 0 => .need (tkind P t = 3) (.bool a.isSome)
    | .agg xs, .agg ys => match eqOk P t, intsEq xs.toList ys.toList with
      | some n, some r => .need (xs.size = n ∧ ys.size = n) (.bool (!r))
      | _, _ => .no
    | _, _ => .no
  | .lss => match x, y with | .int k a, .int k' b => .need (k = k') (.bool (decide (a < b))) | _, _ => .no
  | .leq => match x, y with | .int k a, .int k' b => .need (k = k') (.bool (decide (a ≤ b))) | _, _ => .no
  | .gtr => match x, y with | .int k a, .int k' b => .need (k = k') (.bool (decide (b < a))) | _, _ => .no
  | .geq => match x, y with | .int k a, .int k' b => .need (k = k') (.bool (decide (b ≤ a))) | _, _ => .no

theorem run_eql_ints (P : Program) (w : World) (d : Nat) : ∀ (fs : List Field) (i : Nat) (xs ys : Array Value) (r : Bool), flatInts P i fs = true → xs.size = i + fs.length → ys.size = i + fs.length →
    intsEq (xs.toList.drop i) (ys.toList.drop i) = some r → (Op.eqFields (d + 1) xs ys fs).run P w = .ok r w
  | [], i, xs, ys, r, _, hx, hy, h => by
    have e1 : xs.toList.drop i = [] := List.drop_eq_nil_of_le (by simp at hx ⊢; omega)
    have e2 : ys.toList.drop i = [] := List.drop_eq_nil_of_le (by simp at hy ⊢; omega)
    rw [e1, e2] at h
    simp only [intsEq, Option.some.injEq] at h
    subst h
    simp [Op.eqFields]
  | f :: fs, i, xs, ys, r, hf, hx, hy, h => by
    simp only [flatInts, Bool.and_eq_true, bne_iff_ne, beq_iff_eq] at hf
    obtain ⟨⟨⟨⟨h1, h2⟩, h3⟩, h4⟩, h5⟩ := hf
    simp only [List.length_cons] at hx hy
    have lx : i < xs.size := by omega
    have ly : i < ys.size := by omega
    have q1 : xs.toList.drop i = xs[i] :: xs.toList.drop (i + 1) := by rw [List.drop_eq_getElem_cons (by simpa using lx)]; simp
    have q2 : ys.toList.drop i = ys[i] :: ys.toList.drop (i + 1) := by rw [List.drop_eq_getElem_cons (by simpa using ly)]; simp
    rw [q1, q2] at h
    clear q1 q2
    generalize hxi : xs[i] = u at h
    generalize hyi : ys[i] = v at h
    cases u <;> try (simp [intsEq] at h; done)
    cases v <;> try (simp [intsEq] at h; done)
    rename_i k a k' b
    simp only [intsEq] at h
    split at h
    case isFalse => cases h
    rename_i hkk
    subst hkk
    obtain ⟨r', hr', rfl⟩ := Option.map_eq_some_iff.1 h
    obtain ⟨ki, hki⟩ := Option.isSome_iff_exists.1 h4
    have hu : P.underlying f.type = some (.int ki) := by
      unfold tint at hki
      split at hki
      · rename_i k0 hk0; rw [hk0]; injection hki with hki; rw [hki]
      · cases hki
    have hsz : (sizeOf f.type).run P w = .ok 1 w := by
      unfold tsz at h3
      split at h3
      · rename_i d0 i0 hd0 hi0
        simp only [Option.some.injEq, Prod.mk.injEq] at h3
        simp [sizeOf, typeInfo, hi0, h3.2]
      · cases h3
    have hagg : (isAgg f.type).run P w = .ok false w := by
      simp [isAgg, run_underlying hu]
    have p1 : ∀ (zs : Array Value) (hz : i < zs.size), (part f.type zs f.offset).run P w = .ok zs[i] w := by
      intro zs hz
      simp [part, h2, hsz, hagg, hz]
    have ih := run_eql_ints P w d fs (i + 1) xs ys r' h5 (by omega) (by omega) hr'
    have hq : (Op.equalIn (d + 1) f.type (.int k a) (.int k b)).run P w = .ok (a == b) w := by simp [Op.equalIn, run_underlying hu]
    simp only [Op.eqFields, h1, ne_eq, not_false_eq_true, if_true, Sem.run_bind, p1 xs lx, p1 ys ly, Result.andThen_ok, hxi, hyi, hq, Sem.run_ite]
    by_cases hab : a = b
    · subst hab; simpa using ih
    · simp [hab]

theorem run_agg_eq {P : Program} (w : World) {t : TypeId} {xs ys : Array Value} {n : Nat} {r : Bool} (h : eqOk P t = some n) (hx : xs.size = n) (hy : ys.size = n) (hr : intsEq xs.toList ys.toList = some r) (x y : Operand) (op : BinOp) (hop : op = .eql ∨ op = .neq) :
    (do eqGuard op t x y (.agg xs) (.agg ys); binOp op t (.agg xs) (.agg ys) : Sem Value).run P w = .ok (.bool (if op = .eql then r else !r)) w := by
  unfold eqOk at h
  split at h
  · rename_i fs hfs
    split at h
    · rename_i hc
      simp only [Bool.and_eq_true, Bool.not_eq_true'] at hc
      injection h with h
      subst h
      have hf : P.fieldsOf t = fs := by simp [Program.fieldsOf, hfs]
      have hg := run_eqGuard_agg (P := P) w op t x y xs ys hc.2
      have he : (Op.equalIn 10000 t (.agg xs) (.agg ys)).run P w = .ok r w := by
        rw [run_equalIn_struct (P := P) w 9999 t xs ys (by rw [hf]; exact hfs) hc.1.2, hf]
        exact run_eql_ints P w 9998 fs.toList 0 xs ys r hc.1.1 (by simpa using hx) (by simpa using hy) (by simpa using hr)
      rcases hop with rfl | rfl
      · simp [Sem.run_bind, hg, run_eql_struct, he]
      · simp [Sem.run_bind, hg, run_neq_struct, he]
    · cases h
  · cases h

theorem pure_bind_run {α : Type} {P : Program} {w : World} {s : Sem α} {u : Sem Unit} (h : u = pure ()) : (do u; s).run P w = s.run P w := by rw [h]; simp

theorem binv_sound {P : Program} {op : BinOp} {t : TypeId} {x y v : Value} {p : Prop} (h : binv P op t x y = .need p v) (hp : p) (X Y : Operand) (w : World) :
    (do eqGuard op t X Y x y; binOp op t x y : Sem Value).run P w = .ok v w := by
  cases op
  case eql =>
    simp only [binv] at h
    split at h
    · cases h; subst hp; simp [eqGuard_at_int, binOp_eql]; rfl
    · cases h
      rw [pure_bind_run (eqGuard_at_bool _ _ _ _ _ _)]
      exact run_eql_bool w t _ _ (tkind_bool hp)
    · cases h; simp [eqGuard_at_string, binOp, Op.stringOp, beq_toListBytes]
    · cases h
      rw [pure_bind_run (eqGuard_at_pointer _ _ _ _ _ _)]
      exact run_eql_pointer_nil w t _ (tkind_ptr hp)
    · cases h
      rw [pure_bind_run (eqGuard_at_slice _ _ _ _ _ _ _ _)]
      exact Lib.run_eql_slice_nil w t _ _ _ _ 0 0 (tkind_slice hp)
    · split at h
      · cases h
        rw [run_agg_eq w ‹_› hp.1 hp.2 ‹_› X Y .eql (.inl rfl)]
        rfl
      · cases h
    · cases h
  case neq =>
    simp only [binv] at h
    split at h
    · cases h; subst hp; rw [pure_bind_run (eqGuard_at_int _ _ _ _ _ _ _), binOp_neq]; simp [bne]; rfl
    · cases h
      rw [pure_bind_run (eqGuard_at_bool _ _ _ _ _ _)]
      exact run_neq_bool w t _ _ (tkind_bool hp)
    · cases h; simp [eqGuard_at_string, binOp, Op.stringOp, beq_toListBytes]
    · cases h
      rw [pure_bind_run (eqGuard_at_pointer _ _ _ _ _ _)]
      rw [run_neq_pointer_nil w t _ (tkind_ptr hp)]
      simp
    · cases h
      rw [pure_bind_run (eqGuard_at_slice _ _ _ _ _ _ _ _)]
      rw [run_neq_slice_nil_any w t _ _ _ _ 0 0 (tkind_slice hp)]
      simp
    · split at h
      · cases h
        rw [run_agg_eq w ‹_› hp.1 hp.2 ‹_› X Y .neq (.inr rfl)]
        rfl
      · cases h
    · cases h
  case add =>
    simp only [binv] at h
    split at h
    · cases h
      subst hp
      rw [pure_bind_run (eqGuard_at_int _ _ _ _ _ _ _)]
      simp only [binOp_add, Op.intArith]
      rfl
    · rename_i a b
      cases h
      rw [pure_bind_run (eqGuard_at_string _ _ _ _ _ _)]
      have hm : IntKind.i64.max = 9223372036854775807 := by decide
      have hle : ¬ (((a.size + b.size : Nat) : Int) > IntKind.i64.max) := by rw [hm]; omega
      rw [binOp_string_add]
      simp only [Op.stringOp, if_neg hle, Sem.run_pure]
    · cases h
  case shl =>
    cases x <;> try (simp only [binv] at h; cases h)
    cases y <;> simp only [binv] at h <;> cases h
    rw [pure_bind_run (eqGuard_at_int _ _ _ _ _ _ _), binOp_shl, shift_shl _ _ _ _ hp.1 hp.2]
    simp
  case shr =>
    cases x <;> try (simp only [binv] at h; cases h)
    cases y <;> simp only [binv] at h <;> cases h
    rw [pure_bind_run (eqGuard_at_int _ _ _ _ _ _ _), binOp_shr, shift_shr _ _ _ _ hp.1 hp.2]
    simp
  case quo =>
    cases x <;> try (simp only [binv] at h; cases h)
    cases y <;> simp only [binv] at h <;> cases h
    obtain ⟨rfl, hb⟩ := hp
    rw [pure_bind_run (eqGuard_at_int _ _ _ _ _ _ _), binOp_quo]
    simp [Op.intDiv, hb]
  case rem =>
    cases x <;> try (simp only [binv] at h; cases h)
    cases y <;> simp only [binv] at h <;> cases h
    obtain ⟨rfl, hb⟩ := hp
    rw [pure_bind_run (eqGuard_at_int _ _ _ _ _ _ _), binOp_rem]
    simp [Op.intDiv, hb]
  all_goals
    cases x <;> try (simp only [binv] at h; cases h)
    cases y <;> simp only [binv] at h <;> cases h
    subst hp
    rw [pure_bind_run (eqGuard_at_int _ _ _ _ _ _ _)]
    first
      | (simp only [binOp_add, Op.intArith]; rfl)
      | (simp only [binOp_sub, Op.intArith]; rfl)
      | (simp only [binOp_mul, Op.intArith]; rfl)
      | (simp only [binOp_and, intBits_and]; rfl)
      | (simp only [binOp_or, intBits_or]; rfl)
      | (simp only [binOp_xor, intBits_xor]; rfl)
      | (simp only [binOp_andNot, intBits_andNot]; rfl)
      | (simp only [binOp_lss]; rfl)
      | (simp only [binOp_leq]; rfl)
      | (simp only [binOp_gtr]; rfl)
      | (simp only [binOp_geq]; rfl)
end Go.Proofs.Ytaifnipgefkemaa

/- Composite literals, and all operations that only compute. -/
namespace Go.Proofs.Ytaifnipgefkemaa
open Go.RowKit Go.Shelf
set_option linter.unusedVariables false
set_option linter.unusedSimpArgs false

theorem take_set_succ (l : List Value) (m : Nat) (v : Value) (h : m < l.length) : (l.set m v).take (m + 1) = l.take m ++ [v] := by
  rw [List.take_succ_eq_append_getElem (by simpa using h), List.getElem_set_self, List.take_set, List.set_eq_of_length_le (by simp; omega)]
theorem splice_list (off : Nat) : ∀ (vs : List Value) (j : Nat) (l : List Value), off + j + vs.length ≤ l.length →
    (vs.zipIdx j).foldl (fun l (x : Value × Nat) => l.set (off + x.2) x.1) l = l.take (off + j) ++ vs ++ l.drop (off + j + vs.length)
  | [], j, l, h => by simp
  | v :: vs, j, l, h => by
    simp only [List.length_cons] at h
    simp only [List.zipIdx_cons, List.foldl_cons]
    rw [splice_list off vs (j + 1) (l.set (off + j) v) (by simp; omega), ← Nat.add_assoc, take_set_succ _ _ _ (by omega), List.drop_set_of_lt (by omega)]
    simp [List.length_cons, Nat.add_assoc, Nat.add_comm 1]
theorem splice_array (off : Nat) (vs : Array Value) (cs : Array Value) (h : off + vs.size ≤ cs.size) :
    vs.zipIdx.foldl (fun cs (x : Value × Nat) => cs.setIfInBounds (off + x.2) x.1) cs = (cs.toList.take off ++ vs.toList ++ cs.toList.drop (off + vs.size)).toArray := by
  have key : ∀ (l : List (Value × Nat)) (cs : Array Value), (l.foldl (fun cs (x : Value × Nat) => cs.setIfInBounds (off + x.2) x.1) cs).toList = l.foldl (fun l (x : Value × Nat) => l.set (off + x.2) x.1) cs.toList := by
    intro l
    induction l with
    | nil => intro cs; rfl
    | cons x l ih => intro cs; simp only [List.foldl_cons]; rw [ih]; simp
  apply Array.ext'
  rw [← Array.foldl_toList, key, Array.toList_zipIdx, splice_list off vs.toList 0 cs.toList (by simpa using h)]
  simp

/-- The cells of a composite literal. -/
def fillL (place : Nat → Option (Nat × Nat)) (cells : List Value) : List (Nat × Value) → Option (List Value)
  | [] => some cells
  | (i, v) :: rest =>
    match place i with
    | none => none
    | some (off, size) => if v.cells.size = size ∧ off + size ≤ cells.length then fillL place (cells.take off ++ v.cells.toList ++ cells.drop (off + size)) rest else none
theorem fillL_sound (place : Nat → Option (Nat × Nat)) : ∀ (parts : List (Nat × Value)) (cells : List Value) (cs : List Value), fillL place cells parts = some cs → Instr.fill place cells.toArray parts = some cs.toArray
  | [], cells, cs, h => by simp only [fillL, Option.some.injEq] at h; simp [Instr.fill, h]
  | (i, v) :: rest, cells, cs, h => by
    simp only [fillL] at h
    simp only [Instr.fill]
    split at h
    · cases h
    · rename_i off size hp
      split at h
      · rename_i hc
        rw [hp]
        obtain ⟨rfl, h2⟩ := hc
        simp only
        rw [if_neg (by simp; omega), splice_array off v.cells cells.toArray (by simpa using h2)]
        simpa using fillL_sound place rest _ cs h
      · cases h
/-- The parts in order, all of them. -/
def catParts (size : Nat) : Nat → List (Nat × Value) → Option (List Value)
  | _, [] => some []
  | k, (i, v) :: rest => if i = k ∧ v.cells.size = size then (catParts size (k + 1) rest).map (v.cells.toList ++ ·) else none
theorem catParts_fill (size : Nat) : ∀ (parts : List (Nat × Value)) (k : Nat) (pre suf : List Value) (cs : List Value), catParts size k parts = some cs → pre.length = k * size → suf.length = parts.length * size →
    fillL (fun i => some (i * size, size)) (pre ++ suf) parts = some (pre ++ cs)
  | [], k, pre, suf, cs, h, hp, hs => by
    simp only [catParts, Option.some.injEq] at h
    have : suf = [] := List.eq_nil_of_length_eq_zero (by simpa using hs)
    subst this; subst h
    simp [fillL]
  | (i, v) :: rest, k, pre, suf, cs, h, hp, hs => by
    simp only [catParts] at h
    split at h
    · rename_i hc
      obtain ⟨rfl, rfl⟩ := hc
      obtain ⟨cs', hcs, rfl⟩ := Option.map_eq_some_iff.1 h
      simp only [List.length_cons, Nat.add_mul, Nat.one_mul] at hs
      simp only [fillL]
      rw [if_pos ⟨trivial, by simp [hp, hs]⟩]
      have h1 : (pre ++ suf).take (i * v.cells.size) = pre := by rw [← hp]; simp
      have h2 : (pre ++ suf).drop (i * v.cells.size + v.cells.size) = suf.drop v.cells.size := by rw [← hp, ← List.drop_drop]; simp
      rw [h1, h2, catParts_fill v.cells.size rest (i + 1) (pre ++ v.cells.toList) (suf.drop v.cells.size) cs' hcs (by simp [hp, Nat.add_mul]) (by simp [hs])]
      simp
    · cases h

/-- The fields of a struct: place and size, and the zero value's cells. -/
def tst (P : Program) (t : TypeId) : Option (List (Nat × Nat) × List Value) :=
  match P.info? t, P.underlying t with
  | some it, some (.struct fields) =>
    match it.zero, fields.toList.mapM (fun f => (P.info? f.type).map fun i => (f.offset, i.size)) with
    | some z, some places => some (places, z.cells.toList)
    | _, _ => none
  | _, _ => none
theorem build_sound {P : Program} {t : TypeId} {places : List (Nat × Nat)} {z : List Value} {parts : Array (Nat × Value)} {cs : List Value} (h : tst P t = some (places, z)) (hf : fillL (places[·]?) z parts.toList = some cs) (w : World) :
    (Instr.build t parts).run P w = .ok (.agg cs.toArray) w := by
  refine run_build w t parts _ ?_
  unfold tst at h
  split at h
  · rename_i it fields hi hu
    split at h
    · rename_i z' places' hz hp
      obtain ⟨rfl, rfl⟩ := Prod.mk.inj (Option.some.inj h)
      have := fillL_sound _ _ _ _ hf
      simp only [Program.built, hi, hu, hz, hp]
      simpa using this
    · cases h
  · cases h

/-- An array: its length, and the cells of an element. -/
def tab (P : Program) (t : TypeId) : Option (Nat × Nat) :=
  match P.info? t, P.underlying t with
  | some it, some (.array n e) =>
    match it.zero, P.info? e with
    | some z, some ie => if z.cells.size = n * ie.size then some (n, ie.size) else none
    | _, _ => none
  | _, _ => none
theorem build_array {P : Program} {t : TypeId} {n size : Nat} {parts : Array (Nat × Value)} {cs : List Value} (h : tab P t = some (n, size)) (hn : parts.toList.length = n) (hf : catParts size 0 parts.toList = some cs) (w : World) :
    (Instr.build t parts).run P w = .ok (.agg cs.toArray) w := by
  refine run_build w t parts _ ?_
  unfold tab at h
  split at h
  · rename_i it m e hi hu
    split at h
    · rename_i z ie hz he
      split at h
      · rename_i hsz
        obtain ⟨rfl, rfl⟩ := Prod.mk.inj (Option.some.inj h)
        have := fillL_sound _ _ _ _ (catParts_fill ie.size parts.toList 0 [] z.cells.toList cs hf (by simp) (by simp [hsz, hn] at *))
        simp only [Program.built, hi, hu, hz, he]
        simpa using this
      · cases h
    · cases h
  · cases h
/-- Where s[l:] begins. -/
def sbase (c l size : Nat) (A : Option Addr) : Option Addr := if c = l then A else A.map (·.add (l * size))
theorem sbase_zero (c size : Nat) (A : Option Addr) : sbase c 0 size A = A := by
  unfold sbase
  split
  · rfl
  · cases A <;> simp [Addr.add_zero']
theorem sbase_some {c l size : Nat} {a : Addr} (h : c ≠ l) : sbase c l size (some a) = some (a.add (l * size)) := by simp [sbase, h]
def pickv (t : Bool) (a b : Value) : Value := if t then a else b
theorem pickv_true (a b : Value) : pickv true a b = a := rfl
theorem pickv_false (a b : Value) : pickv false a b = b := rfl
theorem pickv_bool (t p q : Bool) : pickv t (.bool p) (.bool q) = .bool (if t then p else q) := by cases t <;> rfl
def evParts (F : Fr) : List (Nat × Operand) → List (Nat × Value)
  | [] => []
  | (i, x) :: r => (i, ev F x) :: evParts F r
theorem evParts_eq (F : Fr) : ∀ l : List (Nat × Operand), evParts F l = l.map fun x => (x.1, ev F x.2)
  | [] => rfl
  | (i, x) :: r => by rw [evParts, evParts_eq F r]; rfl
def pv (P : Program) (F : Fr) : Op → PV
  | .move x => .need True (ev F x)
  | .assign x => .need True (ev F x)
  | .pick c a b => match ev F c with
    | .bool t => .need True (pickv t (ev F a) (ev F b))
    | _ => .no
  | .build t parts => match tst P t with
    | some (places, z) => match fillL (places[·]?) z (evParts F parts.toList) with
      | some cs => .need True (.agg cs.toArray)
      | none => .no
    | none => match tab P t, catParts ((tab P t).getD (0, 0)).2 0 (evParts F parts.toList) with
      | some (n, size), some cs => .need (parts.toList.length = n) (.agg cs.toArray)
      | _, _ => .no
  | .nilCheck x => match ev F x with
    | .pointer (some a) => .need True (.pointer (some a))
    | _ => .no
  | .binOp op t x y _ => binv P op t (ev F x) (ev F y)
  | .unOp .not _ x => match ev F x with
    | .bool b => .need True (.bool (!b))
    | _ => .no
  | .unOp .neg _ x => match ev F x with
    | .int k n => .need True (.int k (k.wrap (0 - n)))
    | _ => .no
  | .unOp .xor _ x => match ev F x with
    | .int k n => .need True (.int k (bits .xor k (if k.signed then -1 else k.max) n))
    | _ => .no
  | .convert s d x => match ev F x with
    | .int k n => match tint P d with
      | some k' => .need ((P.underlying s).isSome = true) (.int k' (k'.wrap n))
      | none => .no
    | _ => .no
  | .slice t x lo hi mx => match mx with
    | some _ => .no
    | none => match ev F x, tsl P t with
      | .slice A n c, some (_, size) => match (match lo with | none => some 0 | some l => (match ev F l with | .int _ i => some i | _ => none)), (match hi with | none => some (n : Int) | some h => (match ev F h with | .int _ i => some i | _ => none)) with
        | some l, some h => .need (0 ≤ l ∧ l ≤ h ∧ h ≤ c ∧ n ≤ c) (.slice (sbase c l.toNat size A) (h.toNat - l.toNat) (c - l.toNat))
        | _, _ => .no
      | .string s, none => match (match lo with | none => some 0 | some l => (match ev F l with | .int _ i => some i | _ => none)), (match hi with | none => some (s.size : Int) | some h => (match ev F h with | .int _ i => some i | _ => none)) with
        | some l, some h => .need (tkind P t = 4 ∧ 0 ≤ l ∧ l ≤ h ∧ h ≤ s.size) (.string (s.extract l.toNat h.toNat))
        | _, _ => .no
      | _, _ => .no
  | .fieldAddr s x f => match ev F x, tfo P s f with
    | .pointer (some a), some o => .need True (.pointer (some (a.add o)))
    | _, _ => .no
  | .field s x f => match ev F x, tst P s with
    | .agg cs, some (places, _) => match places[f]? with
      | some (off, size) => match tpt P s f with
        | some false => match cs.toList[off]? with
          | some v => .need True v
          | none => .no
        | some true => .need True (.agg ((cs.toList.drop off).take size).toArray)
        | none => .no
      | none => .no
    | _, _ => .no
  | .indexAddr t x i => match ev F x, ev F i, tsl P t, tarr P t with
    | .slice (some a) n _, .int _ k, some (_, size), _ => .need (0 ≤ k ∧ k < n) (.pointer (some (a.add (k.toNat * size))))
    | .pointer (some a), .int _ k, none, some (n, size) => .need (0 ≤ k ∧ k < n) (.pointer (some (a.add (k.toNat * size))))
    | _, _, _, _ => .no
  | .index t x i => match ev F x, ev F i with
    | .string s, .int _ k => .need (tkind P t = 4 ∧ 0 ≤ k ∧ k < s.size) (.int .u8 ((s.data.toList.getD k.toNat 0).toNat : Int))
    | _, _ => .no
  | .extract x i => match ev F x with
    | .tuple vs => match vs.toList[i]? with
      | some v => .need True v
      | none => .no
    | _ => .no
  | .call c => match c.callee with
    | .builtin .len => match c.args.toList, c.argTypes.toList with
      | [x], [t] => match ev F x with
        | .slice _ n _ => .need (tkind P t = 3) (.int .i64 n)
        | .string s => .need (tkind P t = 4) (.int .i64 s.size)
        | _ => .no
      | _, _ => .no
    | .builtin .max => match c.args.toList with
      | [x, y] => match ev F x, ev F y with
        | .int k a, .int k' b => .need True (.int k (max a b))
        | _, _ => .no
      | _ => .no
    | .builtin .min => match c.args.toList with
      | [x, y] => match ev F x, ev F y with
        | .int k a, .int k' b => .need True (.int k (min a b))
        | _, _ => .no
      | _ => .no
    | _ => .no
  | _ => .no
where
  /-- Is the field itself a struct or an array? -/
  tpt (P : Program) (s : TypeId) (f : Nat) : Option Bool :=
    match P.underlying s with
    | some (.struct fs) => match fs[f]? with
      | some fd => (tsz P fd.type).map (·.1)
      | none => none
    | _ => none

theorem run_value {P : Program} {w : World} {s : Sem Value} {v : Value} (h : s.run P w = .ok v w) : (do pure (.value (← s)) : Sem Next).run P w = .ok (.value v) w := by
  simp [h]
theorem sizeOf_run {P : Program} {t : TypeId} {i : TypeInfo} (h : P.info? t = some i) (w : World) : (sizeOf t).run P w = .ok i.size w := by simp [sizeOf, typeInfo, h]
theorem isAgg_run {P : Program} {t : TypeId} {d : TypeDesc} (h : P.underlying t = some d) (w : World) : (isAgg t).run P w = .ok (isAggD d) w := by
  cases d <;> simp [isAgg, run_underlying h, isAggD]
theorem tsz_run {P : Program} {t : TypeId} {b : Bool} {n : Nat} (h : tsz P t = some (b, n)) (w : World) : (isAgg t).run P w = .ok b w ∧ (sizeOf t).run P w = .ok n w := by
  unfold tsz at h
  split at h
  · rename_i d i hd hi
    obtain ⟨rfl, rfl⟩ := Prod.mk.inj (Option.some.inj h)
    exact ⟨isAgg_run hd w, sizeOf_run hi w⟩
  · cases h
theorem tsl_run {P : Program} {t e : TypeId} {n : Nat} (h : tsl P t = some (e, n)) : P.underlying t = some (.slice e) ∧ ∃ i, P.info? e = some i ∧ i.size = n := by
  unfold tsl at h
  split at h
  · rename_i e' he
    obtain ⟨i, hi, hh⟩ := Option.map_eq_some_iff.1 h
    obtain ⟨rfl, rfl⟩ := Prod.mk.inj hh
    exact ⟨he, i, hi, rfl⟩
  · cases h
theorem tarr_run {P : Program} {t : TypeId} {m n : Nat} (h : tarr P t = some (m, n)) : ∃ e, P.underlying t = some (.array m e) ∧ ∃ i, P.info? e = some i ∧ i.size = n := by
  unfold tarr at h
  split at h
  · rename_i n' e' he
    obtain ⟨i, hi, hh⟩ := Option.map_eq_some_iff.1 h
    obtain ⟨rfl, rfl⟩ := Prod.mk.inj hh
    exact ⟨e', he, i, hi, rfl⟩
  · cases h
theorem tint_run {P : Program} {t : TypeId} {k : IntKind} (h : tint P t = some k) : P.underlying t = some (.int k) := by
  unfold tint at h
  split at h
  · rename_i k' hk; rw [hk]; simpa using h
  · cases h
theorem tkind_str {P : Program} {t : TypeId} (h : tkind P t = 4) : P.underlying t = some .string := by
  unfold tkind at h
  split at h <;> first | assumption | cases h

theorem mapM_some_get {P : Program} : ∀ (fs : List Field) (places : List (Nat × Nat)), fs.mapM (fun f => (P.info? f.type).map fun i => (f.offset, i.size)) = some places → ∀ i : Nat, (fs[i]?).bind (fun f => (P.info? f.type).map fun i => (f.offset, i.size)) = places[i]?
  | [], places, h, i => by simp at h; subst h; simp
  | f :: fs, places, h, i => by
    simp only [List.mapM_cons, Option.bind_eq_bind, Option.pure_def, Option.bind_eq_some_iff] at h
    obtain ⟨p, hp, ps, hps, h⟩ := h
    cases h
    cases i with
    | zero => simpa using hp
    | succ i => simpa using mapM_some_get fs ps hps i

theorem pv_sound {P : Program} {F : Fr} {o : Oper} {p : Prop} {v : Value} (h : pv P F o.op = .need p v) (hp : p) (w : World) : (execOp (ev F) o).run P w = .ok (.value v) w := by
  obtain ⟨dst, op, ty, pos, after, guard⟩ := o
  cases op with
  | move x => simp only [pv] at h; cases h; simp [execOp]
  | assign x => simp only [pv] at h; cases h; simp [execOp]
  | pick c a b =>
    simp only [pv] at h
    split at h
    · rename_i t ht
      cases h
      cases t <;> simp [execOp, ht, asBool, pickv]
    · cases h
  | build t parts =>
    simp only [pv] at h
    split at h
    · rename_i places z ht
      split at h
      · rename_i cs hcs
        cases h
        have := build_sound (parts := parts.map fun x => (x.1, ev F x.2)) ht (cs := cs) (by rw [evParts_eq] at hcs; simpa using hcs) w
        exact run_value this
      · cases h
    · split at h
      · rename_i n size cs ht hcs
        cases h
        rw [ht] at hcs
        have := build_array (parts := parts.map fun x => (x.1, ev F x.2)) ht (cs := cs) (by simpa using hp) (by rw [evParts_eq] at hcs; simpa using hcs) w
        exact run_value this
      · cases h
  | nilCheck x =>
    simp only [pv] at h
    split at h
    · rename_i a ha; cases h; simp [execOp, ha]
    · cases h
  | binOp op t x y yt =>
    exact run_value (binv_sound h hp x y w)
  | unOp u t x =>
    cases u <;> simp only [pv] at h
    all_goals first
      | (cases h; done)
      | (split at h
         · rename_i n hn
           cases h
           first
             | (simp [execOp, hn, unary_not]; done)
             | (simp [execOp, hn, unary_neg, Op.intArith]; done)
             | (simp [execOp, hn, unary_xor, intBits_xor]; done)
         · cases h)
  | convert s d x =>
    simp only [pv] at h
    split at h
    · rename_i k n hn
      split at h
      · rename_i k' hk
        cases h
        have hd := tint_run hk
        obtain ⟨ds, hs⟩ := Option.isSome_iff_exists.1 hp
        simp [execOp, hn, convert, run_underlying hs, run_underlying hd, Conv.intToInt]
      · cases h
    · cases h
  | slice t x lo hi mx =>
    simp only [pv] at h
    cases mx with
    | some m => cases h
    | none =>
      simp only at h
      split at h
      · rename_i A n c e size hx hsl
        obtain ⟨hu, inf, hinf, rfl⟩ := tsl_run hsl
        split at h
        · rename_i l hh hl hhh
          cases h
          obtain ⟨h0, h1, h2, h3⟩ := hp
          have e1 : (hh.toNat : Int) = hh := Int.toNat_of_nonneg (by omega)
          have hlo : ∀ w, (Instr.sliceBounds true n c (lo.map (ev F)) (hi.map (ev F)) none).run P w = .ok (l.toNat, hh.toNat, c) w := by
            intro w
            cases lo with
            | none =>
              simp only [Option.some.injEq] at hl
              subst hl
              cases hi with
              | none =>
                simp only [Option.some.injEq] at hhh
                subst hhh
                simp [Instr.sliceBounds]
              | some b =>
                simp only at hhh
                split at hhh
                · rename_i kb ib hb
                  cases hhh
                  simp [Instr.sliceBounds, hb, run_sliceBound, h1, h2]
                · cases hhh
            | some a =>
              simp only at hl
              split at hl
              · rename_i ka ia ha
                cases hl
                cases hi with
                | none =>
                  simp only [Option.some.injEq] at hhh
                  subst hhh
                  simp [Instr.sliceBounds, ha, run_sliceBound, h0, h1]
                | some b =>
                  simp only at hhh
                  split at hhh
                  · rename_i kb ib hb
                    cases hhh
                    have h4 : (0 : Int) ≤ hh := by omega
                    simp [Instr.sliceBounds, ha, hb, run_sliceBound, h0, h1, h2, h4, e1]
                  · cases hhh
              · cases hl
          refine run_value ?_
          simp [hx, Instr.sliceAt, run_underlying hu, Instr.slice, hlo, sizeOf_run hinf, sbase]
        · cases h
      · rename_i s0 hx hsl
        split at h
        · rename_i l hh hl hhh
          cases h
          obtain ⟨hk, h0, h1, h2⟩ := hp
          have hu := tkind_str hk
          have e1 : (hh.toNat : Int) = hh := Int.toNat_of_nonneg (by omega)
          have hlo : ∀ w, (Instr.sliceBounds false s0.size s0.size (lo.map (ev F)) (hi.map (ev F)) none).run P w = .ok (l.toNat, hh.toNat, s0.size) w := by
            intro w
            cases lo with
            | none =>
              simp only [Option.some.injEq] at hl
              subst hl
              cases hi with
              | none =>
                simp only [Option.some.injEq] at hhh
                subst hhh
                simp [Instr.sliceBounds]
              | some b =>
                simp only at hhh
                split at hhh
                · rename_i kb ib hb
                  cases hhh
                  simp [Instr.sliceBounds, hb, run_sliceBound, h1, h2]
                · cases hhh
            | some a =>
              simp only at hl
              split at hl
              · rename_i ka ia ha
                cases hl
                cases hi with
                | none =>
                  simp only [Option.some.injEq] at hhh
                  subst hhh
                  simp [Instr.sliceBounds, ha, run_sliceBound, h0, h1]
                | some b =>
                  simp only at hhh
                  split at hhh
                  · rename_i kb ib hb
                    cases hhh
                    have h4 : (0 : Int) ≤ hh := by omega
                    simp [Instr.sliceBounds, ha, hb, run_sliceBound, h0, h1, h2, h4, e1]
                  · cases hhh
              · cases hl
          refine run_value ?_
          simp [hx, Instr.sliceAt, run_underlying hu, Instr.slice, hlo]
        · cases h
      · cases h
  | fieldAddr s x f =>
    simp only [pv] at h
    split at h
    · rename_i a off ha ho
      cases h
      unfold tfo at ho
      split at ho
      · rename_i fs hfs
        split at ho
        · rename_i fd hfd
          split at ho
          · rename_i i hi
            split at ho
            · cases ho
            · rename_i hz
              cases ho
              simp [execOp, ha, Instr.fieldAt, run_underlying hfs, hfd, Instr.sureAddr, fieldPlace, sizeOf_run hi, hz]
          · cases ho
        · cases ho
      · cases ho
    · cases h
  | field s x f =>
    simp only [pv] at h
    split at h
    · rename_i cs places z hx hst
      split at h
      · rename_i off size hpl
        unfold tst at hst
        split at hst
        · rename_i it fields hit hu
          split at hst
          · rename_i z' places' hz hpm
            obtain ⟨rfl, rfl⟩ := Prod.mk.inj (Option.some.inj hst)
            have hlen := mapM_some_get fields.toList places' hpm f
            rw [hpl] at hlen
            split at h
            · rename_i ht
              unfold pv.tpt at ht
              simp only [hu] at ht
              split at ht
              · rename_i fd hfd
                obtain ⟨bn, hbn, hb⟩ := Option.map_eq_some_iff.1 ht
                obtain ⟨h1, h2⟩ := tsz_run (b := bn.1) (n := bn.2) hbn w
                rw [hb] at h1
                have hoff : fd.offset = off := by
                  simp [hfd] at hlen
                  obtain ⟨inf, _, e1, _⟩ := hlen
                  exact e1
                split at h
                · rename_i u hu2
                  cases h
                  refine run_value ?_
                  have h5 : cs[off]? = some v := by simpa using hu2
                  simp [hx, Instr.field, run_underlying hu, hfd, asAgg, part, h1, hoff, h5]
                · cases h
              · cases ht
            · rename_i ht
              unfold pv.tpt at ht
              simp only [hu] at ht
              split at ht
              · rename_i fd hfd
                obtain ⟨bn, hbn, hb⟩ := Option.map_eq_some_iff.1 ht
                obtain ⟨h1, h2⟩ := tsz_run (b := bn.1) (n := bn.2) hbn w
                rw [hb] at h1
                have hoff : fd.offset = off ∧ bn.2 = size := by
                  simp [hfd] at hlen
                  obtain ⟨inf, hinf, e1, e2⟩ := hlen
                  refine ⟨e1, ?_⟩
                  have := h2
                  rw [sizeOf_run hinf] at this
                  injection this with h6 h7
                  omega
                cases h
                refine run_value ?_
                obtain ⟨e1, e2⟩ := hoff
                subst e1
                subst e2
                simp [hx, Instr.field, run_underlying hu, hfd, asAgg, part, h1, h2]
                apply Array.ext'
                simp
              · cases ht
            · cases h
          · cases hst
        · cases hst
      · cases h
    · cases h
  | indexAddr t x i =>
    simp only [pv] at h
    split at h
    · rename_i a n c k kk e size hx hi hsl
      cases h
      obtain ⟨hu, inf, hinf, rfl⟩ := tsl_run hsl
      simp [execOp, hx, hi, Instr.indexAt, run_underlying hu, asIntOf, hp, sizeOf_run hinf]
    · rename_i a k kk m size hx hi hsl harr
      cases h
      obtain ⟨e, hu, inf, hinf, rfl⟩ := tarr_run harr
      simp [execOp, hx, hi, Instr.indexAt, run_underlying hu, asIntOf, hp, sizeOf_run hinf, Instr.sureAddr]
    · cases h
  | index t x i =>
    simp only [pv] at h
    split at h
    · rename_i s0 kk k hx hi
      cases h
      obtain ⟨hk, h0, h1⟩ := hp
      have hlt : k.toNat < s0.data.size := by have : s0.data.size = s0.size := rfl; omega
      refine run_value ?_
      rw [hx, hi, run_index_string _ _ _ _ _ (tkind_str hk)]
      have h1' : k.toNat < s0.size := by omega
      have hg : s0[k.toNat]'h1' = s0.data.toList.getD k.toNat 0 := by
        rw [List.getD_eq_getElem?_getD, List.getElem?_eq_getElem (by simpa using hlt)]
        simp
        rfl
      rw [dif_pos ⟨h0, h1⟩, hg]
    · cases h
  | extract x i =>
    simp only [pv] at h
    split at h
    · rename_i vs hvs
      split at h
      · rename_i u hu
        cases h
        have : vs[i]? = some v := by simpa using hu
        simp [execOp, hvs, Instr.extract, this]
      · cases h
    · cases h
  | call c =>
    obtain ⟨callee, args, ats⟩ := c
    cases callee with
    | builtin b =>
      cases b
      case len =>
        simp only [pv] at h
        split at h
        · rename_i x t hx ht
          have ea : args = #[x] := by cases args; simp_all
          have et : ats = #[t] := by cases ats; simp_all
          subst ea
          subst et
          split at h
          · rename_i A n c hv
            cases h
            simp [execOp, resolve, invoke, builtin, hv, Builtin.len_, run_underlying (tkind_slice hp), goInt]
          · rename_i s hv
            cases h
            simp [execOp, resolve, invoke, builtin, hv, Builtin.len_, run_underlying (tkind_str hp), goInt]
          · cases h
        · cases h
      case max =>
        simp only [pv] at h
        split at h
        · rename_i x y hx
          split at h
          · rename_i k a k' b ha hb
            cases h
            have ea : args = #[x, y] := by cases args; simp_all
            subst ea
            have e : (if b > a then b else a) = max a b := by
              rw [Int.max_def]
              split <;> split <;> omega
            simp [execOp, resolve, invoke, builtin, ha, hb, Builtin.max_, Builtin.max2, e]
          · cases h
        · cases h
      case min =>
        simp only [pv] at h
        split at h
        · rename_i x y hx
          split at h
          · rename_i k a k' b ha hb
            cases h
            have ea : args = #[x, y] := by cases args; simp_all
            subst ea
            have e : (if b < a then b else a) = min a b := by
              rw [Int.min_def]
              split <;> split <;> omega
            simp [execOp, resolve, invoke, builtin, ha, hb, Builtin.min_, Builtin.min2, e]
          · cases h
        · cases h
      all_goals
        simp only [pv] at h
        cases h
    | value f => simp only [pv] at h; cases h
    | invoke r m => simp only [pv] at h; cases h
  | _ => simp only [pv] at h; cases h
end Go.Proofs.Ytaifnipgefkemaa

/- One operation, a region's operations, and statements, over the abstract state. -/
namespace Go.Proofs.Ytaifnipgefkemaa
open Go.RowKit Go.Shelf
set_option linter.unusedVariables false
set_option linter.unusedSimpArgs false

/-- Reading a variable gives v, wherever the state holds. -/
def LD (P : Program) (M : List Nat) (W : World) (L : List Res) (t : TypeId) (a : Addr) (v : Value) : Prop := ∀ w, St M W L w → (Instr.loadAt t (.pointer (some a))).run P w = .ok v w
def ldV (P : Program) (M : List Nat) (W : World) (t : TypeId) (a : Addr) (L : List Res) (K : Bool → Value → Prop) : Prop :=
  match look L a.block with
  | some cs => a.spot = none ∧ (match tsz P t with
    | some (true, m) => a.off + m ≤ cs.length ∧ K true (.agg ((cs.drop a.off).take m).toArray)
    | some (false, _) => (match cs[a.off]? with
      | some v => K true v
      | none => False)
    | none => False)
  | none => ∃ v, LD P M W L t a v ∧ ∀ tok, tok = true → K tok v
def ones (vs : List Value) : Bool := vs.all (·.oneCell')
/-- A store leaves L'. -/
def SV (P : Program) (M : List Nat) (W : World) (t : TypeId) (a : Addr) (v : Value) (L L' : List Res) : Prop := ∀ w, St M W L w → ∃ w', (Instr.storeAt t (.pointer (some a)) v).run P w = .ok () w' ∧ St M W L' w'
def stV (P : Program) (M : List Nat) (W : World) (t : TypeId) (a : Addr) (v : Value) (L : List Res) (K : Bool → List Res → Prop) : Prop :=
  match look L a.block with
  | some cs => a.spot = none ∧ (match tsz P t with
    | some (_, m) => v.cells.toList.length = m ∧ a.off + m ≤ cs.length ∧ ones v.cells.toList = true ∧ K true (putL L a.block (cs.take a.off ++ v.cells.toList ++ cs.drop (a.off + m)))
    | none => False)
  | none => ∃ L', SV P M W t a v L L' ∧ ∀ tok, tok = true → K tok L'
def CallV (P : Program) (M : List Nat) (W : World) (g : FuncId) (args : Array Value) (L : List Res) (K : Bool → Value → List Res → Prop) : Prop :=
  ∀ w, St M W L w → Calls P g args w (fun e w' => ∃ v L', e = .returned v ∧ St M W L' w' ∧ K true v L')
/-- Any other operation: by a law of its own. -/
def XV (P : Program) (M : List Nat) (W : World) (o : Oper) (F : Fr) (L : List Res) (K : Bool → Value → List Res → Prop) : Prop :=
  ∀ w, St M W L w → ∃ v L' w', (execOp (ev F) o).run P w = .ok (.value v) w' ∧ St M W L' w' ∧ K true v L'
/-- An operation that yields nothing, by a law of its own. -/
def XU (P : Program) (M : List Nat) (W : World) (o : Oper) (F : Fr) (L : List Res) (K : Bool → Value → List Res → Prop) : Prop :=
  ∀ w, St M W L w → ∃ L' w', (execOp (ev F) o).run P w = .ok .skip w' ∧ St M W L' w' ∧ K true undef L'
/-- append(v, x...). -/
def appV (P : Program) (M : List Nat) (W : World) (ty t : TypeId) (L : List Res) (v x : Value) (K : Bool → Value → List Res → Prop) : Prop :=
  ∀ w, St M W L w → ∃ v' L' w', (Builtin.append_ #[t, t] ty #[v, x]).run P w = .ok v' w' ∧ St M W L' w' ∧ K true v' L'
/-- The bytes as a string. -/
def bstr (l : List Nat) : ByteArray := (l.map fun x : Nat => (x : Int)).foldl (fun r n => r.push (UInt8.ofNat n.toNat)) ByteArray.empty
/-- A slice of bytes to a string. -/
def tbs (P : Program) (s d : TypeId) : Bool :=
  match P.underlying s, P.underlying d with
  | some (.slice e), some .string => (match P.underlying e with
    | some (.int .u8) => true
    | _ => false)
  | _, _ => false
def strV (P : Program) (M : List Nat) (W : World) (s d : TypeId) (A : Option Addr) (n : Nat) (L : List Res) (K : Bool → Value → List Res → Prop) : Prop :=
  tbs P s d = true ∧ ∃ l : List Nat, (∀ w, St M W L w → Reads w w.heap.size 1 A n (l.map fun x : Nat => Value.int .u8 (x : Int))) ∧ ∀ tok, tok = true → K tok (.string (bstr l)) L
def hasBody (P : Program) (g : FuncId) : Bool :=
  match P.funcs[g]? with
  | some fn => fn.name != "runtime.NumGoroutine" && fn.body.isSome
  | none => false
def fresh : List Res → Nat → Prop
  | [], _ => True
  | .blk b _ _ :: L, k => b < k ∧ fresh L k
  | _ :: L, k => fresh L k
/-- What must be shown before an operation. -/
def Need (p : Prop) : Prop := p
theorem need_true : Need True = True := rfl
theorem need_of {p : Prop} (h : p) : Need p = True := eq_true h
def pureV (P : Program) (F : Fr) (o : Op) (K : Value → Prop) : Prop :=
  match pv P F o with
  | .need p v => Need p ∧ K v
  | .no => False
/-- A computation, or an operation by a law of its own. -/
def pureX (P : Program) (M : List Nat) (W : World) (o : Oper) (F : Fr) (L : List Res) (K : Bool → Value → List Res → Prop) : Prop :=
  match pv P F o.op with
  | .need p v => Need p ∧ K true v L
  | .no => XV P M W o F L K
def stepV (P : Program) (M : List Nat) (W : World) (o : Oper) (F : Fr) (L : List Res) (K : Bool → Value → List Res → Prop) : Prop :=
  match o.op with
  | .load t x => (match ev F x with
    | .pointer (some a) => ldV P M W t a L (fun tok v => K tok v L)
    | _ => False)
  | .store t x y => (match ev F x with
    | .pointer (some a) => stV P M W t a (ev F y) L (fun tok L' => K tok undef L')
    | _ => False)
  | .alloc t => (match tzero P t with
    | some cs => ∀ b, W.heap.size ≤ b → fresh L b → K true (.pointer (some ⟨b, 0, none⟩)) (.blk b t cs :: L)
    | none => False)
  | .box t x => ∀ b, W.heap.size ≤ b → fresh L b → K true (.pointer (some ⟨b, 0, none⟩)) (.blk b t (ev F x).cells.toList :: L)
  | .buildSlice t len parts => (match tsl P t with
    | some (e, size) => (tzero P e).isSome = true ∧ parts.toList.length = len ∧ len * size ≤ 16777216 ∧ (match catParts size 0 (evParts F parts.toList) with
      | some cs => ∀ b, W.heap.size ≤ b → fresh L b → K true (.slice (some ⟨b, 0, none⟩) len len) (.blk b e cs :: L)
      | none => False)
    | none => False)
  | .call c => (match c.callee with
    | .value f => (match ev F f with
      | .func (.func g) first cap => hasBody P g = true ∧ CallV P M W g (first ++ c.args.map (ev F) ++ cap) L K
      | _ => False)
    | .builtin .len => pureX P M W o F L K
    | .builtin .max => pureX P M W o F L K
    | .builtin .min => pureX P M W o F L K
    | .builtin .append => (match c.args.toList, c.argTypes.toList with
      | [s, x], [t, t'] => (match decide (t = t') with
        | true => appV P M W o.type t L (ev F s) (ev F x) K
        | false => XV P M W o F L K)
      | _, _ => False)
    | _ => XV P M W o F L K)
  | .convert s d x => (match ev F x with
    | .slice A n _ => (match tbs P s d with
      | true => strV P M W s d A n L K
      | false => XV P M W o F L K)
    | _ => pureX P M W o F L K)
  | .move _ | .assign _ | .pick _ _ _ | .build _ _ | .nilCheck _ | .binOp _ _ _ _ _ | .unOp _ _ _ | .slice _ _ _ _ _ | .fieldAddr _ _ _ | .field _ _ _ | .indexAddr _ _ _ | .index _ _ _ | .extract _ _ => pureX P M W o F L K
  | .mapUpdate _ _ _ _ => XU P M W o F L K
  | _ => XV P M W o F L K

theorem tbs_run {P : Program} {s d : TypeId} (h : tbs P s d = true) : ∃ e, P.underlying s = some (.slice e) ∧ P.underlying e = some (.int .u8) ∧ P.underlying d = some .string := by
  unfold tbs at h
  split at h
  · rename_i e hs hd
    split at h
    · rename_i he
      exact ⟨e, hs, he, hd⟩
    · cases h
  · cases h
theorem strV_sound {P : Program} {M : List Nat} {W : World} {s d : TypeId} {A : Option Addr} {n c : Nat} {L : List Res} {K : Bool → Value → List Res → Prop} (h : strV P M W s d A n L K) :
    ∃ v, (∀ w, St M W L w → (convert s d (.slice A n c)).run P w = .ok v w) ∧ K true v L := by
  obtain ⟨ht, l, hr, hk⟩ := h
  obtain ⟨e, h1, h2, h3⟩ := tbs_run ht
  refine ⟨_, fun w hw => ?_, hk true rfl⟩
  rw [run_convert_bytes_string w s d e A n c h1 h2 h3]
  obtain ⟨hl, hc⟩ := hr w hw
  simp only [List.length_map, Nat.mul_one] at hl
  cases A with
  | none =>
    have h0 : l = [] := by
      cases l with
      | nil => rfl
      | cons x l =>
        simp at hl
        obtain ⟨a, ha, _⟩ := hc (by omega)
        cases ha
    subst h0
    simp [Conv.bytesToString, bstr]
  | some a =>
    refine run_bytesToString w a n c _ ?_
    have := run_loadCells_list (P := P) w a ((l.map fun x : Nat => (x : Int)).map (Value.int .u8)) (fun j v hj => by
      rcases Nat.eq_zero_or_pos n with h0 | h0
      · obtain rfl : l = [] := List.eq_nil_of_length_eq_zero (by omega)
        simp at hj
      · obtain ⟨a', ha, _, hcell⟩ := hc h0
        cases ha
        exact hcell j v (by simpa using hj))
    simpa [hl] using this
theorem fresh_of {M : List Nat} {W w : World} {L : List Res} (h : St M W L w) : fresh L w.heap.size := by
  have key : ∀ (L : List Res), (∀ r ∈ L, ∀ b ∈ r.foot, b < w.heap.size) → fresh L w.heap.size := by
    intro L
    induction L with
    | nil => intro _; trivial
    | cons r L ih =>
      intro hL
      have ih' := ih fun s hs => hL s (List.mem_cons_of_mem _ hs)
      cases r with
      | blk b t cs => exact ⟨hL (.blk b t cs) (by simp) b (by simp [Res.foot]), ih'⟩
      | row v t s n xs => exact ih'
      | dat f p l => exact ih'
  exact key L fun r hr b hb => (h.own r hr b hb).2
theorem loadAt_agg {P : Program} {t : TypeId} {m : Nat} (h : tsz P t = some (true, m)) {w : World} {a : Addr} (vs : List Value) (hl : vs.length = m) (hc : ∀ (j : Nat) v, vs[j]? = some v → w.cell? (a.add j) = some v) :
    (Instr.loadAt t (.pointer (some a))).run P w = .ok (.agg vs.toArray) w := by
  obtain ⟨h1, h2⟩ := tsz_run h w
  subst hl
  simp [Instr.loadAt, Instr.sureAddr, loadVar, h1, h2, run_loadCells_list (P := P) w a vs hc]
theorem loadAt_one {P : Program} {t : TypeId} {m : Nat} (h : tsz P t = some (false, m)) {w : World} {a : Addr} {v : Value} (hc : w.cell? a = some v) :
    (Instr.loadAt t (.pointer (some a))).run P w = .ok v w := by
  obtain ⟨h1, h2⟩ := tsz_run h w
  simp [Instr.loadAt, Instr.sureAddr, loadVar, h1, hc]
theorem addr_eta {a : Addr} (h : a.spot = none) : a = ⟨a.block, a.off, none⟩ := by cases a; simp_all
/-- The load of a block of the call's own, or by the word LD. -/
theorem ldV_sound {P : Program} {M : List Nat} {W : World} {t : TypeId} {a : Addr} {L : List Res} {K : Bool → Value → Prop} (h : ldV P M W t a L K) : ∃ v, LD P M W L t a v ∧ K true v := by
  unfold ldV at h
  split at h
  · rename_i cs hcs
    obtain ⟨hsp, h⟩ := h
    obtain ⟨ty, hm⟩ := look_mem hcs
    split at h
    · rename_i m hm2
      obtain ⟨hle, hk⟩ := h
      refine ⟨_, fun w hw => loadAt_agg hm2 _ (by simp; omega) ?_, hk⟩
      intro j v hv
      rw [addr_eta hsp, Addr.add_lit, hw.blk_cell hm]
      rw [List.getElem?_take] at hv
      split at hv
      · simpa using hv
      · cases hv
    · rename_i m hm2
      split at h
      · rename_i v hv
        exact ⟨v, fun w hw => loadAt_one hm2 (by rw [addr_eta hsp, hw.blk_cell hm]; exact hv), h⟩
      · exact h.elim
    · exact h.elim
  · obtain ⟨v, h1, h2⟩ := h
    exact ⟨v, h1, h2 true rfl⟩
theorem stV_sound {P : Program} {M : List Nat} {W w : World} {t : TypeId} {a : Addr} {v : Value} {L : List Res} {K : Bool → List Res → Prop} (h : stV P M W t a v L K) (hw : St M W L w) :
    ∃ L' w', (Instr.storeAt t (.pointer (some a)) v).run P w = .ok () w' ∧ St M W L' w' ∧ K true L' := by
  unfold stV at h
  split at h
  · rename_i cs hcs
    obtain ⟨hsp, h⟩ := h
    split at h
    · rename_i g m hm
      obtain ⟨h1, h2, h3, hk⟩ := h
      obtain ⟨ty, A, B, e1, e2⟩ := putL_split (us := cs.take a.off ++ v.cells.toList ++ cs.drop (a.off + m)) hcs
      have hh : w.heap[a.block]? = some (.cells cs.toArray ty (0, 0)) := hw.holds (.blk a.block ty cs) (by rw [e1]; simp)
      have hs := run_storeCells_at P a.block a.off ty v.cells.toList 0 cs.toArray w hh (by simp [h1]; omega) (by intro u hu; exact List.all_eq_true.1 h3 u hu)
      have hsz := (tsz_run hm w).2
      refine ⟨_, w.setRow a.block (cs.toArray.toList.take (a.off + 0) ++ v.cells.toList ++ cs.toArray.toList.drop (a.off + 0 + v.cells.toList.length)).toArray, ?_, ?_, hk⟩
      · have h1' : v.cells.size = m := by simpa using h1
        rw [addr_eta hsp]
        simp only [Instr.storeAt, Instr.sureAddr, Sem.run_bind, Sem.run_pure, Result.andThen_ok, storeVar, hsz, h1', ne_eq, not_true_eq_false, if_false]
        exact hs
      · rw [e2]
        have hw' := e1 ▸ hw
        refine hw'.write (fun k hk => setRow_other w a.block k _ hk) ?_ (by simp [World.setRow]) rfl rfl rfl
        rw [setRow_heap w a.block cs.toArray _ ty (0, 0) hh]
        simp [h1]
    · exact h.elim
  · obtain ⟨L', h1, h2⟩ := h
    obtain ⟨w', hr, hs⟩ := h1 w hw
    exact ⟨L', w', hr, hs, h2 true rfl⟩
theorem pureV_sound {P : Program} {F : Fr} {o : Oper} {K : Value → Prop} (h : pureV P F o.op K) : ∃ v, (∀ w, (execOp (ev F) o).run P w = .ok (.value v) w) ∧ K v := by
  unfold pureV at h
  split at h
  · rename_i p v hp
    exact ⟨v, fun w => pv_sound hp h.1 w, h.2⟩
  · exact h.elim
theorem callFunc_enter {P : Program} {g : FuncId} (h : hasBody P g = true) (args : Array Value) (w : World) : (callFunc g args).run P w = .ok (.enter g args) w := by
  unfold hasBody at h
  split at h
  · rename_i fn hfn
    simp only [Bool.and_eq_true, bne_iff_ne, ne_eq] at h
    obtain ⟨b, hb⟩ := Option.isSome_iff_exists.1 h.2
    simp [callFunc, run_program, hfn, h.1, hb]
  · cases h
section
variable {P : Program} {M : List Nat} {W : World} {n : Nat}
theorem step_sound {o : Oper} {F : Fr} {L : List Res} {K : Bool → Value → List Res → Prop} (h : stepV P M W o F L K) {a : Act} {w : World} (ha : a.eval = ev F) (hw : St M W L w)
    {next : Act → World → Prop} {Q : Exit → Act → World → Prop} (hn : ∀ v L' w', K true v L' → St M W L' w' → next (a.put o.dst v) w') : o.wp P a w next Q := by
  have hx : XV P M W o F L K → o.wp P a w next Q := by
    intro hX
    obtain ⟨v, L', w', hr, hs, hk⟩ := hX w hw
    unfold Oper.wp
    rw [ha, hr]
    exact hn _ _ _ hk hs
  have hp : pureX P M W o F L K → o.wp P a w next Q := by
    intro hP
    unfold pureX at hP
    split at hP
    · rename_i p v hpv
      unfold Oper.wp
      rw [ha, pv_sound hpv hP.1 w]
      exact hn _ _ _ hP.2 hw
    · exact hx hP
  obtain ⟨dst, op, ty, pos, after, guard⟩ := o
  cases op with
  | load t x =>
    simp only [stepV] at h
    split at h
    · rename_i ad had
      obtain ⟨v, hl, hk⟩ := ldV_sound h
      unfold Oper.wp
      rw [ha]
      simp only [execOp, had, Sem.run_bind, hl w hw, Result.andThen_ok, Sem.run_pure]
      exact hn _ _ _ hk hw
    · exact h.elim
  | store t x y =>
    simp only [stepV] at h
    split at h
    · rename_i ad had
      obtain ⟨L', w', hr, hs, hk⟩ := stV_sound h hw
      unfold Oper.wp
      rw [ha]
      simp only [execOp, had, Sem.run_bind, hr, Result.andThen_ok, Sem.run_pure]
      exact hn _ _ _ hk hs
    · exact h.elim
  | alloc t =>
    simp only [stepV] at h
    split at h
    · rename_i cs hcs
      unfold Oper.wp
      rw [ha]
      have hz : (zeroValue t).run P w = .ok (((P.info? t).bind (·.zero)).getD undef) w ∧ ((((P.info? t).bind (·.zero)).getD undef).cells).toList = cs := by
        unfold tzero at hcs
        split at hcs
        · rename_i i hi
          obtain ⟨z, hz, rfl⟩ := Option.map_eq_some_iff.1 hcs
          simp [zeroValue, typeInfo, hi, hz]
        · cases hcs
      simp only [execOp, Instr.alloc, Sem.run_bind, hz.1, Result.andThen_ok, newVar, newRow, run_newObj_alloc, Sem.run_pure]
      have := hn _ _ _ (h w.heap.size hw.pres.size (fresh_of hw)) (hw.alloc t cs)
      rw [← hz.2] at this
      rw [Array.toArray_toList] at this
      exact this
    · exact h.elim
  | box t x =>
    simp only [stepV] at h
    unfold Oper.wp
    rw [ha]
    simp only [execOp, Instr.box, Sem.run_bind, Result.andThen_ok, newVar, newRow, run_newObj_alloc, Sem.run_pure]
    have := hn _ _ _ (h w.heap.size hw.pres.size (fresh_of hw)) (hw.alloc t (ev F x).cells.toList)
    rw [Array.toArray_toList] at this
    exact this
  | buildSlice t len parts =>
    simp only [stepV] at h
    split at h
    · rename_i e size hsl
      obtain ⟨hu, inf, hinf, rfl⟩ := tsl_run hsl
      obtain ⟨hz, hlen, hle, h⟩ := h
      split at h
      · rename_i cs hcs
        rw [evParts_eq] at hcs
        unfold Oper.wp
        rw [ha]
        obtain ⟨z, hz'⟩ := Option.isSome_iff_exists.1 hz
        have hzv : ∃ zv, ∀ w, (zeroValue e).run P w = .ok zv w := by
          unfold tzero at hz'
          split at hz'
          · rename_i i hi
            obtain ⟨z0, hz0, _⟩ := Option.map_eq_some_iff.1 hz'
            exact ⟨z0, fun w => by simp [zeroValue, typeInfo, hi, hz0]⟩
          · cases hz'
        obtain ⟨zv, hzv⟩ := hzv
        have hf : ∀ z : Array Value, z.size = len * inf.size → Instr.fill (fun i => some (i * inf.size, inf.size)) z (parts.map fun x => (x.1, ev F x.2)).toList = some cs.toArray := by
          intro z hzs
          have := fillL_sound _ _ _ _ (catParts_fill inf.size (parts.toList.map fun x => (x.1, ev F x.2)) 0 [] z.toList cs hcs (by simp) (by simp [hzs, hlen] at *))
          simpa using this
        have hrun : (Instr.buildSlice t len (parts.map fun x => (x.1, ev F x.2))).run P w = .ok (.slice (some ⟨w.heap.size, 0, none⟩) len len) (w.alloc (.cells cs.toArray e)) := by
          have hle' : ¬ (len * inf.size > 2 ^ 24) := by omega
          by_cases h0 : len * inf.size = 0
          · simp only [Instr.buildSlice, Sem.run_bind, run_underlying hu, Result.andThen_ok, sizeOf_run hinf, hle', if_false, h0, if_true, Sem.run_pure, Sem.run_ite]
            rw [hf _ (by simp [h0])]
            simp [newRow]
          · simp only [Instr.buildSlice, Sem.run_bind, run_underlying hu, Result.andThen_ok, sizeOf_run hinf, hle', if_false, h0, Sem.run_pure, Sem.run_ite, hzv]
            rw [hf _ (by simp)]
            simp [newRow]
        simp only [execOp, Sem.run_bind, hrun, Result.andThen_ok, Sem.run_pure]
        exact hn _ _ _ (h w.heap.size hw.pres.size (fresh_of hw)) (hw.alloc e cs)
      · exact h.elim
    · exact h.elim
  | call c =>
    obtain ⟨callee, args, ats⟩ := c
    cases callee with
    | value f =>
      simp only [stepV] at h
      split at h
      · rename_i g first cap hf
        obtain ⟨hb, hc⟩ := h
        unfold Oper.wp
        rw [ha]
        simp only [execOp, resolve, hf, Deferred.ofValue, Sem.run_bind, Sem.run_pure, Result.andThen_ok, invoke, callFunc_enter hb, Oper.upon_enter]
        refine (hc w hw).mono ?_
        rintro e w' ⟨v, L', rfl, hs, hk⟩
        exact hn _ _ _ hk hs
      · exact h.elim
    | builtin b =>
      cases b
      case append =>
        simp only [stepV] at h
        split at h
        · rename_i s x t t' hargs hats
          split at h
          · rename_i hd
            obtain rfl := of_decide_eq_true hd
            have ea : args = #[s, x] := by cases args; simp_all
            have et : ats = #[t, t] := by cases ats; simp_all
            subst ea
            subst et
            obtain ⟨v, L', w', hr, hs, hk⟩ := h w hw
            unfold Oper.wp
            rw [ha]
            simp only [execOp, resolve, Sem.run_bind, Sem.run_pure, Result.andThen_ok, invoke, builtin, List.map_toArray, List.map_cons, List.map_nil, hr]
            exact hn _ _ _ hk hs
          · exact hx h
        · exact h.elim
      all_goals
        simp only [stepV] at h
        first
          | exact hp h
          | exact hx h
    | invoke r m => simp only [stepV] at h; exact hx h
  | move x => simp only [stepV] at h; exact hp h
  | assign x => simp only [stepV] at h; exact hp h
  | pick a b c => simp only [stepV] at h; exact hp h
  | build a b => simp only [stepV] at h; exact hp h
  | nilCheck x => simp only [stepV] at h; exact hp h
  | binOp a b c d e => simp only [stepV] at h; exact hp h
  | unOp a b c => simp only [stepV] at h; exact hp h
  | convert s d x =>
    simp only [stepV] at h
    split at h
    · rename_i A m c hx2
      split at h
      · obtain ⟨v, hr, hk⟩ := strV_sound (c := c) h
        unfold Oper.wp
        rw [ha]
        simp only [execOp, hx2, Sem.run_bind, hr w hw, Result.andThen_ok, Sem.run_pure]
        exact hn _ _ _ hk hw
      · exact hx h
    · exact hp h
  | slice a b c d e => simp only [stepV] at h; exact hp h
  | fieldAddr a b c => simp only [stepV] at h; exact hp h
  | field a b c => simp only [stepV] at h; exact hp h
  | indexAddr a b c => simp only [stepV] at h; exact hp h
  | index a b c => simp only [stepV] at h; exact hp h
  | extract a b => simp only [stepV] at h; exact hp h
  | mapUpdate t m k x =>
    simp only [stepV] at h
    obtain ⟨L', w', hr, hs, hk⟩ := h w hw
    unfold Oper.wp
    rw [ha, hr]
    exact hn _ _ _ hk hs
  | _ => simp only [stepV] at h; exact hx h
end
end Go.Proofs.Ytaifnipgefkemaa

/- A region's operations in order (drawn or not), and statements, over the abstract state. -/
namespace Go.Proofs.Ytaifnipgefkemaa
open Go.RowKit Go.Shelf
set_option linter.unusedVariables false
set_option linter.unusedSimpArgs false

def dstV (n : Nat) : Option Nat → Bool
  | none => true
  | some d => Nat.ble (d + 1) n
theorem dstV_ok {n : Nat} {d : Option Nat} (h : dstV n d = true) : dstOk n d := by
  cases d with
  | none => trivial
  | some d => exact Nat.le_of_ble_eq_true h
/-- What the guard asks: A where it says so, else B. -/
def guardV (os : List Oper) (F : Fr) (g : Option (Nat × Bool)) (A B : Prop) : Prop :=
  match g with
  | none => A
  | some (j, b) => match (nth os j).bind (·.dst) with
    | some d => (match F d with
      | .bool t => (t = b → A) ∧ (t = (!b) → B)
      | .tuple _ => B
      | _ => False)
    | none => False
section
variable {P : Program} {M : List Nat} {W : World} {n : Nat}

theorem guardV_sound {ops : Array Oper} {a : Act} {F : Fr} {o : Oper} {A B : Prop} (ha : FrOK n a F) (hn : ∀ j o d, nth ops.toList j = some o → o.dst = some d → d < n) (h : guardV ops.toList F o.guard A B) :
    (Region.wanted o (yielded ops a.tmps) = true ∧ A) ∨ (Region.wanted o (yielded ops a.tmps) = false ∧ B) := by
  unfold guardV at h
  split at h
  · rename_i hg
    exact .inl ⟨by simp [Region.wanted, hg], h⟩
  · rename_i j b hg
    split at h
    · rename_i d hd
      obtain ⟨oj, hoj, hdj⟩ := Option.bind_eq_some_iff.1 hd
      have hlt := hn j oj d hoj hdj
      have hoj' : ops[j]? = some oj := nth_op hoj
      have hget : a.tmps[d]? = some (F d) := by
        have h1 := ha.get d
        have h2 : d < a.tmps.size := by rw [ha.size]; exact hlt
        rw [Array.getElem?_eq_getElem h2, ← h1]
        simp [h2]
      have hy : ∀ x, F d = x → yielded ops a.tmps j = (match x with | .bool b => some b | _ => none) := by
        intro x hx
        unfold yielded
        rw [hoj']
        simp only [Option.bind_some, hdj]
        rw [hget, hx]
        cases x <;> rfl
      split at h
      · rename_i t ht
        have := hy _ ht
        by_cases e : t = b
        · exact .inl ⟨by simp [Region.wanted, hg, this, e], h.1 e⟩
        · exact .inr ⟨by simp [Region.wanted, hg, this, e], h.2 (by cases t <;> cases b <;> simp_all)⟩
      · rename_i t ht
        have := hy _ ht
        exact .inr ⟨by simp [Region.wanted, hg, this], h⟩
      · exact h.elim
    · exact h.elim

/-- In the text's order. -/
def vcn (P : Program) (M : List Nat) (W : World) (n : Nat) (os : List Oper) (tok : Bool) : List Oper → Fr → List Res → (Fr → List Res → Prop) → Prop
  | [], F, L, K => K F L
  | o :: r, F, L, K => guardV os F o.guard (stepV P M W o F L fun tok v L' => vcn P M W n os tok r (updo F o.dst v) L' K) (vcn P M W n os tok r (updo F o.dst undef) L K)
/-- What the guard's slot says: is the operation wanted? -/
def gst (os : List Oper) (F : Fr) (j : Nat) (b : Bool) : Option Bool :=
  match (nth os j).bind (·.dst) with
  | some d => (match F d with
    | .bool t => (match b with | true => some t | false => some (!t))
    | .tuple _ => some false
    | _ => none)
  | none => none
def vcg (P : Program) (M : List Nat) (W : World) (n : Nat) (os : List Oper) (s : Option Bool) (o : Oper) (r : List Oper) (F : Fr) (L : List Res) (K : Fr → List Res → Prop) : Prop :=
  match s with
  | some t => (t = true → stepV P M W o F L fun tok v L' => vcn P M W n os tok r (updo F o.dst v) L' K) ∧ (t = false → vcn P M W n os true r (updo F o.dst undef) L K)
  | none => False
theorem guardV_gst {os : List Oper} {F : Fr} {j : Nat} {b : Bool} {A B : Prop} : guardV os F (some (j, b)) A B = (match gst os F j b with | some t => (t = true → A) ∧ (t = false → B) | none => False) := by
  unfold guardV gst
  cases hd : (nth os j).bind (·.dst) with
  | none => simp [hd]
  | some d =>
    simp only [hd]
    cases F d <;> simp
    cases b <;> simp
theorem vcn_nil {os : List Oper} {F : Fr} {L : List Res} {K : Fr → List Res → Prop} : vcn P M W n os true [] F L K = K F L := rfl
theorem vcn_none {os : List Oper} {d : Option Nat} {op : Op} {ty : TypeId} {pos : String} {af : Array Edge} {r : List Oper} {F : Fr} {L : List Res} {K : Fr → List Res → Prop} :
    vcn P M W n os true (⟨d, op, ty, pos, af, none⟩ :: r) F L K = stepV P M W ⟨d, op, ty, pos, af, none⟩ F L fun tok v L' => vcn P M W n os tok r (updo F d v) L' K := rfl
theorem vcn_guard {os : List Oper} {d : Option Nat} {op : Op} {ty : TypeId} {pos : String} {af : Array Edge} {j : Nat} {b : Bool} {r : List Oper} {F : Fr} {L : List Res} {K : Fr → List Res → Prop} :
    vcn P M W n os true (⟨d, op, ty, pos, af, some (j, b)⟩ :: r) F L K = vcg P M W n os (gst os F j b) ⟨d, op, ty, pos, af, some (j, b)⟩ r F L K := by
  show guardV os F (some (j, b)) _ _ = _
  rw [guardV_gst]
  rfl
theorem vcg_true {os : List Oper} {o : Oper} {r : List Oper} {F : Fr} {L : List Res} {K : Fr → List Res → Prop} : vcg P M W n os (some true) o r F L K = stepV P M W o F L fun tok v L' => vcn P M W n os tok r (updo F o.dst v) L' K := by simp [vcg]
theorem vcg_false {os : List Oper} {o : Oper} {r : List Oper} {F : Fr} {L : List Res} {K : Fr → List Res → Prop} : vcg P M W n os (some false) o r F L K = vcn P M W n os true r (updo F o.dst undef) L K := by simp [vcg]
theorem vcg_cases {os : List Oper} {t : Bool} {o : Oper} {r : List Oper} {F : Fr} {L : List Res} {K : Fr → List Res → Prop} (h1 : t = true → vcg P M W n os (some true) o r F L K) (h2 : t = false → vcg P M W n os (some false) o r F L K) : vcg P M W n os (some t) o r F L K := by
  cases t
  · exact h2 rfl
  · exact h1 rfl

theorem vcn_sound {ops : Array Oper} {Q : Exit → Act → World → Prop} (hn : ∀ j o d, nth ops.toList j = some o → o.dst = some d → d < n) : ∀ (r : List Oper) {F : Fr} {L : List Res} {K : Fr → List Res → Prop} {a : Act} {w : World},
    r.all (fun o => dstV n o.dst) = true → vcn P M W n ops.toList true r F L K → FrOK n a F → St M W L w → (∀ F' L' a' w', K F' L' → FrOK n a' F' → St M W L' w' → Q .normal a' w') → wpList P ops Q r a w
  | [], F, L, K, a, w, _, h, ha, hw, hq => hq _ _ _ _ h ha hw
  | o :: r, F, L, K, a, w, hdd, h, ha, hw, hq => by
    simp only [List.all_cons, Bool.and_eq_true] at hdd
    have hd := dstV_ok hdd.1
    rcases guardV_sound ha hn h with ⟨hwt, h⟩ | ⟨hwt, h⟩
    · unfold wpList
      rw [if_pos hwt]
      exact .inl (step_sound h ha.eval hw fun v L' w' hk hs => vcn_sound hn r hdd.2 hk (ha.put hd v) hs hq)
    · unfold wpList
      rw [hwt]
      exact vcn_sound hn r hdd.2 h (ha.put hd undef) hw hq

/-- Reading alone: by the state at the region's beginning. -/
def RX (P : Program) (M : List Nat) (W : World) (o : Oper) (F : Fr) (L0 : List Res) (K : Bool → Value → Prop) : Prop :=
  ∃ v, (∀ w, St M W L0 w → (execOp (ev F) o).run P w = .ok (.value v) w) ∧ ∀ tok, tok = true → K tok v
def pureR (P : Program) (M : List Nat) (W : World) (o : Oper) (F : Fr) (L0 : List Res) (K : Bool → Value → Prop) : Prop :=
  match pv P F o.op with
  | .need p v => Need p ∧ K true v
  | .no => RX P M W o F L0 K
def readV (P : Program) (M : List Nat) (W : World) (o : Oper) (F : Fr) (L0 : List Res) (K : Bool → Value → Prop) : Prop :=
  match o.op with
  | .load t x => (match ev F x with
    | .pointer (some a) => ldV P M W t a L0 K
    | _ => False)
  | .convert s d x => (match ev F x with
    | .slice A n _ => strV P M W s d A n L0 (fun tok v _ => K tok v)
    | _ => pureR P M W o F L0 K)
  | _ => pureR P M W o F L0 K
theorem pureR_sound {P : Program} {M : List Nat} {W : World} {o : Oper} {F : Fr} {L0 : List Res} {K : Bool → Value → Prop} (h : pureR P M W o F L0 K) : ∃ v, (∀ w, St M W L0 w → (execOp (ev F) o).run P w = .ok (.value v) w) ∧ K true v := by
  unfold pureR at h
  split at h
  · rename_i p v hp
    exact ⟨v, fun w _ => pv_sound hp h.1 w, h.2⟩
  · obtain ⟨v, h1, h2⟩ := h
    exact ⟨v, h1, h2 true rfl⟩
theorem readV_sound {o : Oper} {F : Fr} {L0 : List Res} {K : Bool → Value → Prop} (h : readV P M W o F L0 K) : ∃ v, (∀ w, St M W L0 w → (execOp (ev F) o).run P w = .ok (.value v) w) ∧ K true v := by
  unfold readV at h
  split at h
  · rename_i t x hop
    split at h
    · rename_i a ha
      obtain ⟨v, hl, hk⟩ := ldV_sound h
      refine ⟨v, fun w hw => ?_, hk⟩
      obtain ⟨dst, op, ty, pos, after, guard⟩ := o
      subst hop
      simp only [execOp, ha, Sem.run_bind, hl w hw, Result.andThen_ok, Sem.run_pure]
    · exact h.elim
  · rename_i s d x hop
    split at h
    · rename_i A m c hx2
      obtain ⟨v, hr, hk⟩ := strV_sound (c := c) h
      refine ⟨v, fun w hw => ?_, hk⟩
      obtain ⟨dst, op, ty, pos, after, guard⟩ := o
      subst hop
      simp only [execOp, hx2, Sem.run_bind, hr w hw, Result.andThen_ok, Sem.run_pure]
    · exact pureR_sound h
  · exact pureR_sound h
def Suf (L0 L : List Res) : Prop := ∀ r ∈ L0, r ∈ L
theorem suf_refl (L : List Res) : Suf L L = True := by simp [Suf]
theorem suf_nil (L : List Res) : Suf [] L = True := by simp [Suf]
theorem suf_cons (r : Res) (L0 L : List Res) : Suf (r :: L0) L = (r ∈ L ∧ Suf L0 L) := by simp [Suf]
theorem St.of_suf {M : List Nat} {W w : World} {L0 L : List Res} (h : St M W L w) (hs : Suf L0 L) (ha : L0.Pairwise (fun r s => ∀ b ∈ r.foot, b ∉ s.foot)) : St M W L0 w :=
  ⟨h.pres, fun r hr => h.holds r (hs r hr), fun r hr => h.own r (hs r hr), ha⟩
/-- In the order of a plan. -/
def vcd (P : Program) (M : List Nat) (W : World) (n : Nat) (os : List Oper) (L0 : List Res) (fin : List Nat) (tok : Bool) : List (Bool × Nat) → Fr → List Res → (Fr → List Res → Prop) → Prop
  | [], F, L, K => K F L
  | (true, i) :: r, F, L, K => match nth os i with
    | some o => guardV os F o.guard (readV P M W o F L0 fun tok v => vcd P M W n os L0 fin tok r (updo F o.dst v) L K) (vcd P M W n os L0 fin tok r (updo F o.dst undef) L K)
    | none => False
  | (false, i) :: r, F, L, K => match nth os i with
    | some o => guardV os F o.guard (stepV P M W o F L fun tok v L' => (fin.contains i = false → Suf L0 L') ∧ vcd P M W n os L0 fin tok r (updo F o.dst v) L' K) (vcd P M W n os L0 fin tok r (updo F o.dst undef) L K)
    | none => False
def vdg (P : Program) (M : List Nat) (W : World) (n : Nat) (os : List Oper) (L0 : List Res) (fin : List Nat) (x : Bool) (i : Nat) (s : Option Bool) (o : Oper) (r : List (Bool × Nat)) (F : Fr) (L : List Res) (K : Fr → List Res → Prop) : Prop :=
  match s, x with
  | some t, true => (t = true → readV P M W o F L0 fun tok v => vcd P M W n os L0 fin tok r (updo F o.dst v) L K) ∧ (t = false → vcd P M W n os L0 fin true r (updo F o.dst undef) L K)
  | some t, false => (t = true → stepV P M W o F L fun tok v L' => (fin.contains i = false → Suf L0 L') ∧ vcd P M W n os L0 fin tok r (updo F o.dst v) L' K) ∧ (t = false → vcd P M W n os L0 fin true r (updo F o.dst undef) L K)
  | none, _ => False
/-- An operation of the plan, found. -/
def vdo (P : Program) (M : List Nat) (W : World) (n : Nat) (os : List Oper) (L0 : List Res) (fin : List Nat) (x : Bool) (i : Nat) (o : Option Oper) (r : List (Bool × Nat)) (F : Fr) (L : List Res) (K : Fr → List Res → Prop) : Prop :=
  match o with
  | none => False
  | some o => match o.guard with
    | none => (match x with
      | true => readV P M W o F L0 fun tok v => vcd P M W n os L0 fin tok r (updo F o.dst v) L K
      | false => stepV P M W o F L fun tok v L' => (fin.contains i = false → Suf L0 L') ∧ vcd P M W n os L0 fin tok r (updo F o.dst v) L' K)
    | some (j, b) => vdg P M W n os L0 fin x i (gst os F j b) o r F L K
section
variable {os : List Oper} {L0 : List Res} {fin : List Nat} {x : Bool} {i : Nat} {o : Oper} {r : List (Bool × Nat)} {F : Fr} {L : List Res} {K : Fr → List Res → Prop}
theorem vcd_nil : vcd P M W n os L0 fin true [] F L K = K F L := rfl
theorem vcd_cons : vcd P M W n os L0 fin true ((x, i) :: r) F L K = vdo P M W n os L0 fin x i (nth os i) r F L K := by
  cases x
  · simp only [vcd, vdo]
    cases nth os i with
    | none => rfl
    | some o =>
      simp only
      cases hg : o.guard with
      | none => rfl
      | some jb =>
        obtain ⟨j, b⟩ := jb
        simp only
        rw [guardV_gst]
        unfold vdg
        cases gst os F j b <;> rfl
  · simp only [vcd, vdo]
    cases nth os i with
    | none => rfl
    | some o =>
      simp only
      cases hg : o.guard with
      | none => rfl
      | some jb =>
        obtain ⟨j, b⟩ := jb
        simp only
        rw [guardV_gst]
        unfold vdg
        cases gst os F j b <;> rfl
variable {d : Option Nat} {op : Op} {ty : TypeId} {pos : String} {af : Array Edge} {j : Nat} {b : Bool}
theorem vdo_read : vdo P M W n os L0 fin true i (some ⟨d, op, ty, pos, af, none⟩) r F L K = readV P M W ⟨d, op, ty, pos, af, none⟩ F L0 fun tok v => vcd P M W n os L0 fin tok r (updo F d v) L K := rfl
theorem vdo_step : vdo P M W n os L0 fin false i (some ⟨d, op, ty, pos, af, none⟩) r F L K = stepV P M W ⟨d, op, ty, pos, af, none⟩ F L fun tok v L' => (fin.contains i = false → Suf L0 L') ∧ vcd P M W n os L0 fin tok r (updo F d v) L' K := rfl
theorem vdo_guard : vdo P M W n os L0 fin x i (some ⟨d, op, ty, pos, af, some (j, b)⟩) r F L K = vdg P M W n os L0 fin x i (gst os F j b) ⟨d, op, ty, pos, af, some (j, b)⟩ r F L K := rfl
theorem vdg_read : vdg P M W n os L0 fin true i (some true) o r F L K = readV P M W o F L0 fun tok v => vcd P M W n os L0 fin tok r (updo F o.dst v) L K := by simp [vdg]
theorem vdg_step : vdg P M W n os L0 fin false i (some true) o r F L K = stepV P M W o F L fun tok v L' => (fin.contains i = false → Suf L0 L') ∧ vcd P M W n os L0 fin tok r (updo F o.dst v) L' K := by simp [vdg]
theorem vdg_false : vdg P M W n os L0 fin x i (some false) o r F L K = vcd P M W n os L0 fin true r (updo F o.dst undef) L K := by cases x <;> simp [vdg]
theorem vdg_cases {t : Bool} (h1 : t = true → vdg P M W n os L0 fin x i (some true) o r F L K) (h2 : t = false → vdg P M W n os L0 fin x i (some false) o r F L K) : vdg P M W n os L0 fin x i (some t) o r F L K := by
  cases t
  · exact h2 rfl
  · exact h1 rfl
end
/-- Behind an operation of fin nothing reads. -/
def finOk (fin : List Nat) : List (Bool × Nat) → Bool
  | [] => true
  | (true, _) :: r => finOk fin r
  | (false, i) :: r => if fin.contains i then r.all (fun x => !x.1 && fin.contains x.2) else finOk fin r
theorem finOk_of_all {fin : List Nat} : ∀ (r : List (Bool × Nat)), r.all (fun x => !x.1 && fin.contains x.2) = true → finOk fin r = true
  | [], _ => rfl
  | (true, _) :: r, h => by simp at h
  | (false, i) :: r, h => by
    simp only [List.all_cons, Bool.and_eq_true] at h
    simp only [finOk]
    split
    · exact h.2
    · exact finOk_of_all r h.2
theorem vcd_sound {ops : Array Oper} {Q : Exit → Act → World → Prop} {L0 : List Res} {fin : List Nat} (hn : ∀ j o d, nth ops.toList j = some o → o.dst = some d → d < n) (hap : L0.Pairwise (fun r s => ∀ b ∈ r.foot, b ∉ s.foot)) : ∀ (p : List (Bool × Nat)) {F : Fr} {L : List Res} {K : Fr → List Res → Prop} {a : Act} {w : World},
    vcd P M W n ops.toList L0 fin true p F L K → FrOK n a F → St M W L w → finOk fin p = true → (p.all (fun x => !x.1 && fin.contains x.2) = true ∨ Suf L0 L) → (∀ F' L' a' w', K F' L' → FrOK n a' F' → St M W L' w' → Q .normal a' w') → wpPlan P ops Q (St M W L0) fin p a w
  | [], F, L, K, a, w, h, ha, hw, hf, hsuf, hq => plan_done (hq _ _ _ _ h ha hw)
  | (true, i) :: r, F, L, K, a, w, h, ha, hw, hf, hsuf, hq => by
    simp only [vcd] at h
    have hsuf' : Suf L0 L := hsuf.resolve_left (by simp)
    have hS : St M W L0 w := hw.of_suf hsuf' hap
    split at h
    · rename_i o ho
      have hd : dstOk n o.dst := by
        cases hdo : o.dst with
        | none => trivial
        | some d => exact hn i o d ho hdo
      rcases guardV_sound ha hn h with ⟨hwt, h⟩ | ⟨hwt, h⟩
      · obtain ⟨v, hr, hk⟩ := readV_sound h
        exact plan_yes (v := v) hS ho hwt (fun w' hw' => by rw [ha.eval]; exact hr w' hw') (vcd_sound hn hap r hk (ha.put hd v) hw hf (.inr hsuf') hq)
      · exact plan_no hS ho hwt (vcd_sound hn hap r h (ha.put hd undef) hw hf (.inr hsuf') hq)
    · exact h.elim
  | (false, i) :: r, F, L, K, a, w, h, ha, hw, hf, hsuf, hq => by
    simp only [vcd] at h
    have hr : (r.all (fun x => !x.1 && fin.contains x.2) = true ∧ fin.contains i = true) ∨ (fin.contains i = false ∧ Suf L0 L ∧ finOk fin r = true) := by
      cases hc : fin.contains i with
      | true =>
        refine .inl ⟨?_, rfl⟩
        rcases hsuf with h1 | h1
        · simp only [List.all_cons, Bool.and_eq_true] at h1
          exact h1.2
        · simp only [finOk, hc, if_true] at hf
          exact hf
      | false =>
        refine .inr ⟨rfl, ?_, ?_⟩
        · rcases hsuf with h1 | h1
          · simp only [List.all_cons, Bool.and_eq_true] at h1
            rw [hc] at h1
            exact absurd h1.1.2 (by simp)
          · exact h1
        · simp only [finOk, hc, Bool.false_eq_true, if_false] at hf
          exact hf
    have hf' : finOk fin r = true := by
      rcases hr with ⟨h1, _⟩ | ⟨_, _, h1⟩
      · exact finOk_of_all r h1
      · exact h1
    have hS : ∀ L' w', (fin.contains i = false → Suf L0 L') → St M W L' w' → fin.contains i = false → St M W L0 w' := by
      intro L' w' hL hw' hc
      exact hw'.of_suf (hL hc) hap
    have hnext : ∀ L', (fin.contains i = false → Suf L0 L') → (r.all (fun x => !x.1 && fin.contains x.2) = true ∨ Suf L0 L') := by
      intro L' hL
      rcases hr with ⟨h1, _⟩ | ⟨h1, _, _⟩
      · exact .inl h1
      · exact .inr (hL h1)
    have hsame : fin.contains i = false → Suf L0 L := by
      intro hc
      rcases hr with ⟨_, h1⟩ | ⟨_, h1, _⟩
      · rw [hc] at h1; cases h1
      · exact h1
    split at h
    · rename_i o ho
      have hd : dstOk n o.dst := by
        cases hdo : o.dst with
        | none => trivial
        | some d => exact hn i o d ho hdo
      refine ⟨o, nth_op ho, ?_⟩
      rcases guardV_sound ha hn h with ⟨hwt, h⟩ | ⟨hwt, h⟩
      · unfold wpList
        rw [if_pos hwt]
        refine .inl (step_sound h ha.eval hw fun v L' w' hk hs => ?_)
        exact ⟨hS L' w' hk.1 hs, vcd_sound hn hap r hk.2 (ha.put hd v) hs hf' (hnext L' hk.1) hq⟩
      · unfold wpList
        rw [hwt]
        exact ⟨hS L w hsame hw, vcd_sound hn hap r h (ha.put hd undef) hw hf' (hnext L hsame) hq⟩
    · exact h.elim

/-! ## Statements -/
/-- What a statement leaves. -/
def liftQ (M : List Nat) (W : World) (n : Nat) (Q : Exit → Fr → List Res → Prop) : Exit → Act → World → Prop
  | .panic _, _, _ => False
  | .outgrown, _, _ => False
  | e, a, w => ∃ F L, FrOK n a F ∧ St M W L w ∧ Q e F L
def CV (P : Program) (M : List Nat) (W : World) (n : Nat) (c : Code) (F : Fr) (L : List Res) (Q : Exit → Fr → List Res → Prop) : Prop :=
  ∀ a w, FrOK n a F → St M W L w → c.wp P (liftQ M W n Q) a w
def thenQ (K : Fr → List Res → Prop) (Q : Exit → Fr → List Res → Prop) : Exit → Fr → List Res → Prop
  | .normal, F, L => K F L
  | e, F, L => Q e F L
def blockQ (id : Nat) (Q : Exit → Fr → List Res → Prop) : Exit → Fr → List Res → Prop
  | .exit id', F, L => if id' = id then Q .normal F L else Q (.exit id') F L
  | e, F, L => Q e F L
variable {F : Fr} {L : List Res} {Q Q' : Exit → Fr → List Res → Prop}
theorem CV.mono {c : Code} (h : CV P M W n c F L Q) (hq : ∀ e F' L', Q e F' L' → Q' e F' L') : CV P M W n c F L Q' := fun a w ha hw =>
  wp_mono (h a w ha hw) (by
    intro e a' w' hh
    cases e <;> first
      | exact hh
      | (obtain ⟨F', L', h1, h2, h3⟩ := hh; exact ⟨F', L', h1, h2, hq _ _ _ h3⟩))
theorem cv_gen {c : Code} (h : ∀ G : Fr, G = F → CV P M W n c G L Q) : CV P M W n c F L Q := h F rfl
theorem cv_seq {x y : Code} (h : CV P M W n x F L (thenQ (fun F' L' => CV P M W n y F' L' Q) Q)) : CV P M W n (.seq x y) F L Q := fun a w ha hw =>
  wp_seq (wp_mono (h a w ha hw) (by
    intro e a' w' hh
    cases e <;> first
      | exact hh
      | (obtain ⟨F', L', h1, h2, h3⟩ := hh; exact h3 _ _ h1 h2)))
theorem cv_seq_k {x y : Code} (h : ∀ K : Fr → List Res → Prop, (∀ F' L', CV P M W n y F' L' Q → K F' L') → CV P M W n x F L (thenQ K Q)) : CV P M W n (.seq x y) F L Q := cv_seq (h _ fun _ _ h => h)
theorem cv_cut {c : Code} {K : Fr → List Res → Prop} (D : Fr → Fr → Prop) (R : Fr → List Res → Prop) (h : CV P M W n c F L (thenQ (fun F' L' => D F F' ∧ R F' L') Q)) (hk : ∀ F' L', D F F' → R F' L' → K F' L') : CV P M W n c F L (thenQ K Q) :=
  h.mono fun e F' L' hh => by
    cases e <;> first
      | exact hh
      | exact hk _ _ hh.1 hh.2
theorem cv_skip (h : Q .normal F L) : CV P M W n .skip F L Q := fun a w ha hw => wp_skip ⟨F, L, ha, hw, h⟩
theorem cv_ret (h : Q .ret F L) : CV P M W n .ret F L Q := fun a w ha hw => wp_ret ⟨F, L, ha, hw, h⟩
theorem cv_exit {id : Nat} (h : Q (.exit id) F L) : CV P M W n (.exit id) F L Q := fun a w ha hw => wp_exit ⟨F, L, ha, hw, h⟩
theorem cv_block {id : Nat} {c : Code} (h : CV P M W n c F L (blockQ id Q)) : CV P M W n (.block id c) F L Q := fun a w ha hw =>
  wp_block (wp_mono (h a w ha hw) (by
    intro e a' w' hh
    cases e with
    | exit id' =>
      obtain ⟨F', L', h1, h2, h3⟩ := hh
      simp only [blockQ] at h3
      simp only [Exit.inBlock]
      split
      · rename_i he; rw [if_pos he] at h3; exact ⟨F', L', h1, h2, h3⟩
      · rename_i he; rw [if_neg he] at h3; exact ⟨F', L', h1, h2, h3⟩
    | _ => exact hh))
def condV (v : Value) (A B : Prop) : Prop :=
  match v with
  | .bool t => (t = true → A) ∧ (t = false → B)
  | _ => False
theorem cv_cond {c : Operand} {x y : Code} (h : condV (ev F c) (CV P M W n x F L Q) (CV P M W n y F L Q)) : CV P M W n (.cond c x y) F L Q := fun a w ha hw => by
  unfold condV at h
  split at h
  · rename_i t ht
    have he : a.eval c = .bool t := by rw [ha.eval]; exact ht
    exact wp_cond_split he (fun e => h.1 e a w ha hw) (fun e => h.2 e a w ha hw)
  · exact h.elim
theorem cv_loop {c : Code} (I : Fr → List Res → Prop) (μ : Fr → List Res → Nat) (h₀ : I F L)
    (round : ∀ F' L', I F' L' → CV P M W n c F' L' (thenQ (fun F'' L'' => I F'' L'' ∧ μ F'' L'' < μ F' L') Q)) : CV P M W n (.loop c) F L Q := fun a w ha hw => by
  intro b k cs
  have key : ∀ m F L a w, μ F L = m → I F L → FrOK n a F → St M W L w →
      ∃ e a' w', liftQ M W n Q e a' w' ∧ Arrives P (lone (b.at a (.code c :: .inLoop c :: k)) cs w) b k cs e a' w' := by
    intro m
    induction m using Nat.strongRecOn with
    | _ m ih =>
      intro F L a w hm hI ha hw
      obtain ⟨e, a₁, w₁, hq, harr⟩ := round F L hI a w ha hw b (.inLoop c :: k) cs
      cases e with
      | normal =>
        obtain ⟨F', L', h1, h2, hI₁, hlt⟩ := hq
        obtain ⟨e₂, a₂, w₂, hq₂, harr₂⟩ := ih (μ F' L') (hm ▸ hlt) F' L' a₁ w₁ rfl hI₁ h1 h2
        exact ⟨e₂, a₂, w₂, hq₂, .of_steps (Steps.trans harr (.one step_inLoop)) harr₂⟩
      | exit id => exact ⟨.exit id, a₁, w₁, hq, .pass (x := .inLoop c) rfl (fun _ _ => .inl (by simp)) harr⟩
      | goto l => exact ⟨.goto l, a₁, w₁, hq, .pass (x := .inLoop c) rfl (fun _ _ => .inl (by simp)) harr⟩
      | ret => exact ⟨.ret, a₁, w₁, hq, .pass (x := .inLoop c) rfl (fun _ _ => .inl (by simp)) harr⟩
      | panic ch => exact hq.elim
      | outgrown => exact hq.elim
  obtain ⟨e, a', w', hq, harr⟩ := key _ F L a w rfl h₀ ha hw
  exact ⟨e, a', w', hq, .of_steps (.one step_loop) harr⟩
theorem slots_of {ops : Array Oper} (h : ops.toList.all (fun o => dstV n o.dst) = true) : ∀ j o d, nth ops.toList j = some o → o.dst = some d → d < n := by
  intro j o d ho hd
  rw [nth_eq] at ho
  have := List.all_eq_true.1 h o (List.mem_of_getElem? ho)
  rw [hd] at this
  exact dstV_ok this
theorem cv_region {id : Nat} {l : List Oper} (hd : l.all (fun o => dstV n o.dst) = true) {K : Fr → List Res → Prop} (h : vcn P M W n l true l F L K) (hk : ∀ F' L', K F' L' → Q .normal F' L') : CV P M W n (.region id l.toArray false) F L Q := fun a w ha hw =>
  wp_region_list (vcn_sound (ops := l.toArray) (slots_of (by simpa using hd)) l hd (by simpa using h) ha hw fun F' L' a' w' hK h1 h2 => ⟨F', L', h1, h2, hk _ _ hK⟩)
theorem cv_region_then {id : Nat} {l : List Oper} (hd : l.all (fun o => dstV n o.dst) = true) {K : Fr → List Res → Prop} (h : vcn P M W n l true l F L K) : CV P M W n (.region id l.toArray false) F L (thenQ K Q) := cv_region hd h fun _ _ h => h
theorem cv_draw_of {id : Nat} {l : List Oper} (L0 : List Res) (hL0 : ∀ w, St M W L w → St M W L0 w) (hsub : Suf L0 L) (p : List (Bool × Nat)) (fin : List Nat) (hm : P.follows .mixedOrders = true) (hd : l.all (fun o => dstV n o.dst) = true) (hs : Region.noSelect l.toArray = true)
    (hp : planOk .any l.toArray fin p (Array.replicate l.toArray.size false) = true) (hz : p.length = l.toArray.size) (hf : finOk fin p = true) {K : Fr → List Res → Prop} (h : vcd P M W n l L0 fin true p F L K) : CV P M W n (.region id l.toArray true) F L (thenQ K Q) := fun a w ha hw =>
  wp_region_plan p (St M W L0) fin hm hs hp hz (by intro c d v a w hh; exact hh)
    (vcd_sound (ops := l.toArray) (K := K) (slots_of (by simpa using hd)) (hL0 w hw).apart p (by simpa using h) ha hw.drew hf (.inr hsub) fun F' L' a' w' hK h1 h2 => ⟨F', L', h1, h2, hK⟩)
theorem cv_draw {id : Nat} {l : List Oper} (p : List (Bool × Nat)) (fin : List Nat) (hm : P.follows .mixedOrders = true) (hd : l.all (fun o => dstV n o.dst) = true) (hs : Region.noSelect l.toArray = true)
    (hp : planOk .any l.toArray fin p (Array.replicate l.toArray.size false) = true) (hz : p.length = l.toArray.size) (hf : finOk fin p = true) {K : Fr → List Res → Prop} (h : vcd P M W n l L fin true p F L K) : CV P M W n (.region id l.toArray true) F L (thenQ K Q) :=
  cv_draw_of L (fun _ h => h) (by rw [suf_refl]; trivial) p fin hm hd hs hp hz hf h

/-! ## Calls -/
def retV : List ResultVar → Fr → Option Value
  | [.tmp t], F => some (F t)
  | [.tmp t, .tmp u], F => some (.tuple #[F t, F u])
  | [.tmp t, .tmp u, .tmp v], F => some (.tuple #[F t, F u, F v])
  | [], F => some (.tuple #[])
  | _, _ => none
theorem retV_sound {fn : Func} {a : Act} {v : Value} (ha : FrOK n a F) (h : retV fn.results.toList F = some v) (w : World) : (results fn a.tmps).run P w = .ok v w := by
  have hr : fn.results = fn.results.toList.toArray := by simp
  revert h hr
  generalize fn.results.toList = l
  intro h hr
  unfold retV at h
  split at h
  · cases h; rw [results_tmp hr, ← ha.get]
  · cases h; rw [results_tmp2 hr, ← ha.get, ← ha.get]
  · cases h
    simp [results, hr]
    exact ⟨by simpa using ha.get _, by simpa using ha.get _, by simpa using ha.get _⟩
  · cases h; rw [results_none hr]
  · cases h
def retQ (M : List Nat) (W : World) (rs : List ResultVar) (R : Ending → World → Prop) : Exit → Fr → List Res → Prop
  | .normal, F, L => ∃ v, retV rs F = some v ∧ ∀ w, St M W L w → R (.returned v) w
  | .ret, F, L => ∃ v, retV rs F = some v ∧ ∀ w, St M W L w → R (.returned v) w
  | _, _, _ => False
theorem calls_cv {f : FuncId} {fn : Func} {c : Code} {args : List Value} {R : Ending → World → Prop} {L : List Res} (rs : List ResultVar) (hrs : fn.results = rs.toArray) (hf : P.funcs[f]? = some fn) (hb : fn.body = some c) (hn : fn.ntmps = n) (hl : args.length ≤ n) (hw : St M W L W)
    (h : CV P M W n c (mkF args) L (retQ M W rs R)) : Calls P f args.toArray W R := by
  obtain rfl : fn.results.toList = rs := by rw [hrs]
  refine calls_of_wp hf hb (wp_mono (h _ W ⟨rfl, by simp [hn]; omega, fun i => ?_⟩ hw) ?_)
  · simp only [mkF]
    rcases Nat.lt_or_ge i args.length with h1 | h1
    · have h2 : i < (args.toArray ++ Array.replicate (fn.ntmps - args.toArray.size) undef).size := by simp; omega
      simp [Array.getElem?_append, h1]
    · have h2 : args[i]? = none := List.getElem?_eq_none h1
      simp [Array.getElem?_append, Nat.not_lt.2 h1, Array.getElem?_replicate, h2]
      split <;> rfl
  · intro e a w hh
    cases e <;> first
      | exact hh.elim
      | (obtain ⟨F', L', h1, h2, h3⟩ := hh
         first
           | exact h3.elim
           | (obtain ⟨v, hv, hr⟩ := h3
              exact ⟨h1.defers, v, retV_sound h1 hv w, hr w h2⟩))
end

/-! ## Slots that a piece writes -/
def inI : List (Nat × Nat) → Nat → Bool
  | [], _ => false
  | (a, b) :: r, i => (Nat.ble a i && Nat.ble i b) || inI r i
def Only (D : List (Nat × Nat)) (F F' : Fr) : Prop := ∀ i, inI D i = false → F' i = F i
theorem Only.get {D : List (Nat × Nat)} {F F' : Fr} (h : Only D F F') : ∀ i, inI D i = false → F' i = F i := h
theorem Only.refl (D : List (Nat × Nat)) (F : Fr) : Only D F F := fun _ _ => rfl
theorem Only.upd {D : List (Nat × Nat)} {F F' : Fr} (h : Only D F F') {d : Nat} (hd : inI D d = true) (v : Value) : Only D F (upd F' d v) := fun i hi => by
  unfold Go.Proofs.Ytaifnipgefkemaa.upd
  by_cases e : i = d
  · subst e; rw [hd] at hi; cases hi
  · rw [if_neg e]; exact h i hi
end Go.Proofs.Ytaifnipgefkemaa

/- Calls and appends over the abstract state; rows that a callee hands back. -/
namespace Go.Proofs.Ytaifnipgefkemaa
open Go.RowKit Go.Shelf
set_option linter.unusedVariables false
set_option linter.unusedSimpArgs false

theorem wrap_in {x : Int} (h1 : -9223372036854775808 ≤ x) (h2 : x ≤ 9223372036854775807) : IntKind.i64.wrap x = x := IntWalk.i64_in _ ⟨h1, h2⟩
theorem if_neg_of {α : Sort _} {a b : Nat} {x y : α} (h : a ≠ b) : (if a = b then x else y) = y := if_neg h
theorem look_eq (k : Nat) (t : TypeId) (cs : List Value) (L : List Res) : look (.blk k t cs :: L) k = some cs := by simp [look]
theorem look_ne {b k : Nat} (h : b ≠ k) (t : TypeId) (cs : List Value) (L : List Res) : look (.blk b t cs :: L) k = look L k := by simp [look, h]
theorem look_row (v : Value) (t : TypeId) (s n : Nat) (xs : List Value) (L : List Res) (k : Nat) : look (.row v t s n xs :: L) k = look L k := rfl
theorem look_nil (k : Nat) : look [] k = none := rfl
theorem putL_eq (k : Nat) (t : TypeId) (cs us : List Value) (L : List Res) : putL (.blk k t cs :: L) k us = .blk k t us :: L := by simp [putL]
theorem putL_ne {b k : Nat} (h : b ≠ k) (t : TypeId) (cs us : List Value) (L : List Res) : putL (.blk b t cs :: L) k us = .blk b t cs :: putL L k us := by simp [putL, h]
theorem putL_row (v : Value) (t : TypeId) (s n : Nat) (xs us : List Value) (L : List Res) (k : Nat) : putL (.row v t s n xs :: L) k us = .row v t s n xs :: putL L k us := rfl

section
variable {P : Program} {M : List Nat} {W : World} {L : List Res} {K : Bool → Value → List Res → Prop} {g : FuncId} {args : Array Value}
/-- A call of which the result is known, and that leaves all old memory alone. -/
theorem callV_ret {v : Value} (h : ∀ w, St M W L w → Calls P g args w (fun e w' => e = .returned v ∧ Below w.heap.size w w')) (hk : K true v L) : CallV P M W g args L K := fun w hw =>
  (h w hw).mono (by rintro e w' ⟨rfl, hb⟩; exact ⟨v, L, rfl, hw.quiet hb, hk⟩)
theorem callV_ex {ι : Sort _} (f : ι → Value) (φ : ι → Prop) (h : ∀ w, St M W L w → Calls P g args w (fun e w' => (∃ i, e = .returned (f i) ∧ φ i) ∧ Below w.heap.size w w')) (hk : ∀ i, φ i → K true (f i) L) : CallV P M W g args L K := fun w hw =>
  (h w hw).mono (by rintro e w' ⟨⟨i, rfl, hi⟩, hb⟩; exact ⟨f i, L, rfl, hw.quiet hb, hk i hi⟩)
theorem ownsRow_base {w : World} {base base' : Nat} {t : TypeId} {size n : Nat} {v : Value} {xs : List Value} (h : w.ownsRow base t size v n xs) (hb : base' ≤ base) : w.ownsRow base' t size v n xs := by
  refine ⟨h.1, ?_⟩
  rcases h.2 with hn | ⟨g, cap, cur, h1, h2, h3⟩
  · exact .inl hn
  · exact .inr ⟨g, cap, cur, h1, by omega, h3⟩
theorem ownsRow_new {w : World} {B : Nat} {t : TypeId} {size n : Nat} {v : Value} {xs : List Value} (h : Res.holds w (.row v t size n xs)) (ho : ∀ b ∈ (Res.row v t size n xs).foot, (B ≤ b ∨ b ∈ ([] : List Nat)) ∧ b < w.heap.size) : w.ownsRow B t size v n xs := by
  refine ⟨h.1, ?_⟩
  rcases h.2 with hn | ⟨g, cap, cur, rfl, h2, h3⟩
  · exact .inl hn
  · have := (ho g (by simp [Res.foot, Value.ownBlock])).1
    exact .inr ⟨g, cap, cur, rfl, by simpa using this, h3⟩
theorem St.addRow {w w' : World} (hw : St M W L w) (hb : Below w.heap.size w w') {t : TypeId} {size n : Nat} {v : Value} {xs : List Value} (h : w'.ownsRow w.heap.size t size v n xs) : St M W (.row v t size n xs :: L) w' :=
  (hw.quiet hb).add _ (ownsRow_base h (Nat.zero_le _)) (fun b hbf => by
    have := h.lt b (by simpa [Res.foot] using hbf)
    have h2 := hw.pres.size
    exact ⟨.inl (by omega), this.2⟩) (fun s hs b hbf hbs => by
    have := h.lt b (by simpa [Res.foot] using hbf)
    have h2 := (hw.own s hs b hbs).2
    omega)
/-- No block of the list has this number. -/
def neB : List Res → Nat → Prop
  | [], _ => True
  | .blk b _ _ :: L, k => b ≠ k ∧ neB L k
  | _ :: L, k => neB L k
theorem neB_nil (k : Nat) : neB [] k = True := rfl
theorem neB_blk (b : Nat) (t : TypeId) (cs : List Value) (L : List Res) (k : Nat) : neB (.blk b t cs :: L) k = (b ≠ k ∧ neB L k) := rfl
theorem neB_row (v : Value) (t : TypeId) (s n : Nat) (xs : List Value) (L : List Res) (k : Nat) : neB (.row v t s n xs :: L) k = neB L k := rfl
theorem neB_of : ∀ {L : List Res} {k : Nat}, (∀ r ∈ L, k ∉ r.foot) → neB L k
  | [], _, _ => trivial
  | .blk b t cs :: L, k, h => ⟨fun e => h (.blk b t cs) (by simp) (by simp [Res.foot, e]), neB_of fun r hr => h r (by simp [hr])⟩
  | .row v t s n xs :: L, k, h => neB_of (L := L) fun r hr => h r (by simp [hr])
  | .dat f p l :: L, k, h => neB_of (L := L) fun r hr => h r (by simp [hr])
/-- Where a row lies: nowhere, or in a block of its own. -/
def rowAt (A : Option Addr) (n : Nat) (W : World) (M : List Nat) (L : List Res) : Prop := (A = none ∧ n = 0) ∨ ∃ g, A = some ⟨g, 0, none⟩ ∧ (W.heap.size ≤ g ∨ g ∈ M) ∧ neB L g
theorem St.row_at {w : World} {A : Option Addr} {n c : Nat} {t : TypeId} {size : Nat} {xs : List Value} (hw : St M W (.row (.slice A n c) t size n xs :: L) w) : rowAt A n W M L := by
  rcases (hw.holds _ (.head _)).2 with ⟨h, hn⟩ | ⟨g, cap, cur, h, _⟩
  · left
    injection h with h1
    exact ⟨h1, hn⟩
  · right
    injection h with h1
    subst h1
    refine ⟨g, rfl, (hw.own _ (.head _) g (by simp [Res.foot, Value.ownBlock])).1, neB_of fun r hr hg => ?_⟩
    exact (List.pairwise_cons.1 hw.apart).1 r hr g (by simp [Res.foot, Value.ownBlock]) hg
/-- A call that hands back a row of its own. -/
theorem callV_row (f : Option Addr → Nat → Nat → Value) {t : TypeId} {size : Nat} {xs : List Value}
    (h : ∀ w, St M W L w → Calls P g args w (fun e w' => ∃ A n c, e = .returned (f A n c) ∧ w'.ownsRow w.heap.size t size (.slice A n c) n xs ∧ Below w.heap.size w w'))
    (hk : ∀ A n c, xs.length = n * size → rowAt A n W M L → K true (f A n c) (.row (.slice A n c) t size n xs :: L)) : CallV P M W g args L K := fun w hw =>
  (h w hw).mono (by rintro e w' ⟨A, n, c, rfl, ho, hb⟩; exact ⟨_, _, rfl, hw.addRow hb ho, hk A n c ho.1 (hw.addRow hb ho).row_at⟩)

/-- What append asks of a slice type: the element, its cells, its bytes. -/
def tap (P : Program) (t : TypeId) : Option (TypeId × Nat × Nat) :=
  match P.underlying t with
  | some (.slice e) => match P.info? e with
    | some i => match i.zero with
      | some z => if z.cells.size = i.size ∧ 0 < i.size then some (e, i.size, i.bytes) else none
      | none => none
    | none => none
  | _ => none
theorem tap_run {t e : TypeId} {size bytes : Nat} (h : tap P t = some (e, size, bytes)) : P.underlying t = some (.slice e) ∧ ∃ i z, P.info? e = some i ∧ i.zero = some z ∧ i.size = size ∧ i.bytes = bytes ∧ z.cells.size = size ∧ 0 < size := by
  unfold tap at h
  split at h
  · rename_i e' he
    split at h
    · rename_i i hi
      split at h
      · rename_i z hz
        split at h
        · rename_i hc
          simp only [Option.some.injEq, Prod.mk.injEq] at h
          obtain ⟨rfl, rfl, rfl⟩ := h
          exact ⟨he, i, z, hi, hz, rfl, rfl, hc.1, hc.2⟩
        · cases h
      · cases h
    · cases h
  · cases h
theorem slice_of_row {w : World} {base : Nat} {t : TypeId} {size n : Nat} {v : Value} {xs : List Value} (h : w.ownsRow base t size v n xs) : ∃ A c, v = .slice A n c := by
  rcases h.2 with ⟨rfl, rfl⟩ | ⟨g, cap, cur, rfl, _⟩
  · exact ⟨none, 0, rfl⟩
  · exact ⟨_, _, rfl⟩
/-- append onto a row of the call's own (or onto nil), from anything that reads. -/
theorem appV_row {ty t e : TypeId} {size bytes : Nat} {L' : List Res} {v : Value} {n m c : Nat} {A : Option Addr} {xs news : List Value} (ht : tap P t = some (e, size, bytes))
    (hrow : ∀ w, St M W L w → St M W (.row v e size n xs :: L') w) (hsrc : ∀ w, St M W L w → Reads w w.heap.size size A m news) (h1 : ones news = true)
    (h63 : n + m ≤ 9223372036854775807) (hbytes : (n + m) * bytes ≤ 140737488355328)
    (hk : ∀ A' c', (xs ++ news).length = (n + m) * size → rowAt A' (n + m) W M L' → K true (.slice A' (n + m) c') (.row (.slice A' (n + m) c') e size (n + m) (xs ++ news) :: L')) : appV P M W ty t L v (.slice A m c) K := by
  intro w hw
  obtain ⟨hu, i, z, hi, hz, hs, hby, hzs, hsz⟩ := tap_run ht
  have hst : St M W (.row v e size n xs :: L') w := hrow w hw
  have hown : w.ownsRow 0 e size v n xs := hst.holds (.row v e size n xs) (by simp)
  obtain ⟨v', w', hrun, hown', hg, hblk⟩ := run_append_any (P := P) w 0 t ty e i z size bytes hu hi hz hs hby hzs hsz v n xs hown w.heap.size A m c news (hsrc w hw) (fun u hu => List.all_eq_true.1 h1 u hu) (by unfold maxLen; omega) hbytes (Nat.zero_le _)
  obtain ⟨A', c', rfl⟩ := slice_of_row hown'
  suffices hfin : St M W (.row (.slice A' (n + m) c') e size (n + m) (xs ++ news) :: L') w' from ⟨_, _, w', hrun, hfin, hk A' c' hown'.1 hfin.row_at⟩
  have hfo := hst.own (.row v e size n xs) (by simp)
  have hfa := (List.pairwise_cons.1 hst.apart).1
  have hkeep : ∀ r ∈ L', ∀ b ∈ r.foot, w'.heap[b]? = w.heap[b]? := fun r hr b hb => hg.block b (hst.own r (by simp [hr]) b hb).2 (by
    intro he
    exact hfa r hr b (by simp [Res.foot, ← he]) hb)
  have hpres : Pres M W w' := ⟨hg.os.trans hw.pres.os, hg.tape.trans hw.pres.tape, hg.output.trans hw.pres.output, Nat.le_trans hw.pres.size hg.size, fun k hk hm => by
    rw [hg.block k (Nat.lt_of_lt_of_le hk hw.pres.size) (by
      intro he
      rcases (hfo k (by simp [Res.foot, ← he])).1 with h | h
      · omega
      · exact hm h)]
    exact hw.pres.block k hk hm⟩
  have hL' : St M W L' w' := ⟨hpres, fun r hr => r.keep (hst.holds r (by simp [hr])) (hkeep r hr), fun r hr b hb => ⟨(hst.own r (by simp [hr]) b hb).1, Nat.lt_of_lt_of_le (hst.own r (by simp [hr]) b hb).2 hg.size⟩, (List.pairwise_cons.1 hst.apart).2⟩
  refine hL'.add _ hown' ?_ ?_
  · intro b hb
    have hb' : (Value.slice A' (n + m) c').ownBlock = some b := by simpa [Res.foot] using hb
    have hlt := (hown'.lt b hb').2
    refine ⟨?_, hlt⟩
    rcases hblk with h | h
    · exact (hfo b (by simp [Res.foot, ← h, hb'])).1
    · rw [hb'] at h
      injection h with h
      subst h
      exact .inl hw.pres.size
  · intro s hs b hb hbs
    have hb' : (Value.slice A' (n + m) c').ownBlock = some b := by simpa [Res.foot] using hb
    rcases hblk with h | h
    · exact hfa s hs b (by simp [Res.foot, ← h, hb']) hbs
    · rw [hb'] at h
      injection h with h
      subst h
      exact absurd (hst.own s (by simp [hs]) _ hbs).2 (Nat.lt_irrefl _)
theorem perm_erase : ∀ {L : List Res} {k : Nat} {r : Res}, nth L k = some r → L.Perm (r :: L.eraseIdx k)
  | x :: L, 0, r, h => by cases h; exact List.Perm.refl _
  | x :: L, k + 1, r, h => by
    have := perm_erase (L := L) (k := k) (r := r) h
    exact (List.Perm.cons x this).trans (List.Perm.swap r x _)
theorem appV_at (k : Nat) {ty t e : TypeId} {size bytes : Nat} {v : Value} {n m c : Nat} {A : Option Addr} {xs news : List Value} (ht : tap P t = some (e, size, bytes))
    (hrow : nth L k = some (.row v e size n xs)) (hsrc : ∀ w, St M W L w → Reads w w.heap.size size A m news) (h1 : ones news = true)
    (h63 : n + m ≤ 9223372036854775807) (hbytes : (n + m) * bytes ≤ 140737488355328)
    (hk : ∀ A' c', (xs ++ news).length = (n + m) * size → rowAt A' (n + m) W M (L.eraseIdx k) → K true (.slice A' (n + m) c') (.row (.slice A' (n + m) c') e size (n + m) (xs ++ news) :: L.eraseIdx k)) : appV P M W ty t L v (.slice A m c) K := by
  exact appV_row ht (fun w hw => hw.perm (perm_erase hrow).symm) hsrc h1 h63 hbytes hk
/-- A block of the call's own is a row. -/
theorem St.blk_row {w : World} {b : Nat} {t : TypeId} {size n : Nat} {cs : List Value} (h : St M W (.blk b t cs :: L) w) (hl : cs.length = n * size) (hn : n ≤ 9223372036854775807) : St M W (.row (.slice (some ⟨b, 0, none⟩) n n) t size n cs :: L) w := by
  have ho := h.own _ (.head _)
  refine h.tail.add _ ⟨hl, .inr ⟨b, n, cs.toArray, rfl, Nat.zero_le _, h.holds _ (.head _), Nat.le_refl _, by unfold maxLen; omega, by simpa using hl, by simp [← hl]⟩⟩ ?_ ?_
  · intro b' hb'
    exact ho b' (by simpa [Res.foot, Value.ownBlock] using hb')
  · intro s hs b' hb' hbs
    exact (List.pairwise_cons.1 h.apart).1 s hs b' (by simpa [Res.foot, Value.ownBlock] using hb') hbs
/-- append onto a composite literal of the call's own. -/
theorem appV_lit (k : Nat) {ty t e : TypeId} {size bytes b : Nat} {n m c : Nat} {A : Option Addr} {cs news : List Value} (ht : tap P t = some (e, size, bytes))
    (hrow : nth L k = some (.blk b e cs)) (hl : cs.length = n * size) (hsrc : ∀ w, St M W L w → Reads w w.heap.size size A m news) (h1 : ones news = true)
    (h63 : n + m ≤ 9223372036854775807) (hbytes : (n + m) * bytes ≤ 140737488355328)
    (hk : ∀ A' c', (cs ++ news).length = (n + m) * size → rowAt A' (n + m) W M (L.eraseIdx k) → K true (.slice A' (n + m) c') (.row (.slice A' (n + m) c') e size (n + m) (cs ++ news) :: L.eraseIdx k)) : appV P M W ty t L (.slice (some ⟨b, 0, none⟩) n n) (.slice A m c) K :=
  appV_row ht (fun w hw => (hw.perm (perm_erase hrow).symm).blk_row hl (by omega)) hsrc h1 h63 hbytes hk
/-- Reading a struct out of a row. -/
theorem ld_row {t T : TypeId} {g n c size i : Nat} {xs vs : List Value} (hm : Res.row (.slice (some ⟨g, 0, none⟩) n c) t size n xs ∈ L) (ht : tsz P T = some (true, vs.length)) (hv : (xs.drop i).take vs.length = vs) :
    LD P M W L T ⟨g, i, none⟩ (.agg vs.toArray) := fun w hw => by
  have hv : ∀ (j : Nat) v, vs[j]? = some v → xs[i + j]? = some v := fun j v h => by
    rw [← hv, List.getElem?_take] at h
    split at h
    · simpa using h
    · cases h
  refine loadAt_agg ht vs rfl fun j v hj => ?_
  have := (hw.holds _ hm : w.ownsRow 0 t size (.slice (some ⟨g, 0, none⟩) n c) n xs).cells (g := g) rfl (i + j) v (hv j v hj)
  rw [Addr.add_lit] at this ⊢
  simpa using this
theorem ld_row1 {t T : TypeId} {g n c size i m : Nat} {xs : List Value} {v : Value} (hm : Res.row (.slice (some ⟨g, 0, none⟩) n c) t size n xs ∈ L) (ht : tsz P T = some (false, m)) (hv : xs[i]? = some v) : LD P M W L T ⟨g, i, none⟩ v := fun w hw => by
  refine loadAt_one ht ?_
  have := (hw.holds _ hm : w.ownsRow 0 t size (.slice (some ⟨g, 0, none⟩) n c) n xs).cells (g := g) rfl i v hv
  rw [Addr.add_lit] at this
  simpa using this
/-- Where an append's new elements come from: a block of the call's own. -/
theorem src_blk {b : Nat} {t : TypeId} {cs : List Value} {size m : Nat} (hm : Res.blk b t cs ∈ L) (hl : cs.length = m * size) {w : World} (hw : St M W L w) : Reads w w.heap.size size (some ⟨b, 0, none⟩) m cs :=
  ⟨hl, fun _ => ⟨_, rfl, (hw.own _ hm b (by simp [Res.foot])).2, fun j u hu => by rw [Addr.add_lit, Nat.zero_add, hw.blk_cell hm]; exact hu⟩⟩
theorem src_row {A : Option Addr} {n c : Nat} {t : TypeId} {size : Nat} {xs : List Value} (hm : Res.row (.slice A n c) t size n xs ∈ L) {w : World} (hw : St M W L w) : Reads w w.heap.size size A n xs :=
  Reads.of_own (hw.holds _ hm)
end
/-! ## Other lists of resources -/
def pickL : List Nat → List Res → List Res
  | [], _ => []
  | i :: ix, L => match nth L i with
    | some r => r :: pickL ix L
    | none => pickL ix L
theorem pickL_mem {L : List Res} : ∀ {ix : List Nat} {r : Res}, r ∈ pickL ix L → ∃ i ∈ ix, nth L i = some r
  | i :: ix, r, h => by
    simp only [pickL] at h
    split at h
    · rename_i s hs
      rcases List.mem_cons.1 h with rfl | h
      · exact ⟨i, by simp, hs⟩
      · obtain ⟨j, hj, h1⟩ := pickL_mem h
        exact ⟨j, by simp [hj], h1⟩
    · obtain ⟨j, hj, h1⟩ := pickL_mem h
      exact ⟨j, by simp [hj], h1⟩
theorem St.pick {M : List Nat} {W w : World} {L : List Res} (h : St M W L w) {ix : List Nat} (hnd : ix.Nodup) : St M W (pickL ix L) w := by
  have hmem : ∀ r ∈ pickL ix L, r ∈ L := fun r hr => by
    obtain ⟨i, _, hi⟩ := pickL_mem hr
    rw [nth_eq] at hi
    exact List.mem_of_getElem? hi
  refine ⟨h.pres, fun r hr => h.holds r (hmem r hr), fun r hr => h.own r (hmem r hr), ?_⟩
  have key : ∀ (ix : List Nat), ix.Nodup → (pickL ix L).Pairwise (fun r s => ∀ b ∈ r.foot, b ∉ s.foot) := by
    intro ix
    induction ix with
    | nil => intro _; exact List.Pairwise.nil
    | cons i ix ih =>
      intro hn
      rw [List.nodup_cons] at hn
      simp only [pickL]
      split
      · rename_i r hr
        refine List.pairwise_cons.2 ⟨fun s hs b hb hbs => ?_, ih hn.2⟩
        obtain ⟨j, hj, hjs⟩ := pickL_mem hs
        have hne : i ≠ j := fun e => hn.1 (e ▸ hj)
        rw [nth_eq] at hr hjs
        obtain ⟨hi1, hi2⟩ := List.getElem?_eq_some_iff.1 hr
        obtain ⟨hj1, hj2⟩ := List.getElem?_eq_some_iff.1 hjs
        have hp := List.pairwise_iff_getElem.1 h.apart
        rcases Nat.lt_or_gt_of_ne hne with hlt | hlt
        · exact hp i j hi1 hj1 hlt b (hi2 ▸ hb) (hj2 ▸ hbs)
        · exact hp j i hj1 hi1 hlt b (hj2 ▸ hbs) (hi2 ▸ hb)
      · exact ih hn.2
  exact key ix hnd
section
variable {P : Program} {M : List Nat} {W : World} {n : Nat} {c : Code} {F : Fr} {L : List Res} {Q : Exit → Fr → List Res → Prop}
theorem cv_pick (ix : List Nat) (hnd : ix.Nodup) (h : CV P M W n c F (pickL ix L) Q) : CV P M W n c F L Q := fun a w ha hw => h a w ha (hw.pick hnd)
theorem cv_pick_post (ix : List Nat) (hnd : ix.Nodup) (h : CV P M W n c F L (fun e F' L' => Q e F' (pickL ix L'))) : CV P M W n c F L Q := fun a w ha hw =>
  wp_mono (h a w ha hw) (by
    intro e a' w' hh
    cases e <;> first
      | exact hh
      | (obtain ⟨F', L', h1, h2, h3⟩ := hh; exact ⟨F', _, h1, h2.pick hnd, h3⟩))
theorem cv_q {c : Code} (h : CV P M W n c F L (thenQ (fun F' L' => Q .normal F' L') Q)) : CV P M W n c F L Q := h.mono fun e F' L' hh => by cases e <;> exact hh
theorem cv_region_q {id : Nat} {l : List Oper} (hd : l.all (fun o => dstV n o.dst) = true) (h : vcn P M W n l true l F L (fun F' L' => Q .normal F' L')) : CV P M W n (.region id l.toArray false) F L Q := cv_region hd h fun _ _ h => h
/-- A nil slice is a row of the call's own. -/
theorem cv_nil (t : TypeId) (size : Nat) (h : CV P M W n c F (.row (.slice none 0 0) t size 0 [] :: L) Q) : CV P M W n c F L Q := fun a w ha hw =>
  h a w ha (hw.add _ (World.ownsRow_nil w 0 t size) (by simp [Res.foot, Value.ownBlock]) (by simp [Res.foot, Value.ownBlock]))
end
end Go.Proofs.Ytaifnipgefkemaa

/- What the list of resources itself tells: the blocks and rows lie apart. -/
namespace Go.Proofs.Ytaifnipgefkemaa
open Go.RowKit Go.Shelf
set_option linter.unusedVariables false
set_option linter.unusedSimpArgs false
/-- No row of the list lies in block b. -/
def neR : List Res → Nat → Prop
  | [], _ => True
  | .row (.slice A _ _) _ _ _ _ :: L, b => (∀ g, A = some ⟨g, 0, none⟩ → g ≠ b) ∧ neR L b
  | _ :: L, b => neR L b
def factL (W : World) (M : List Nat) : List Res → Prop
  | [] => True
  | .blk b _ _ :: L => (W.heap.size ≤ b ∨ b ∈ M) ∧ neB L b ∧ neR L b ∧ factL W M L
  | .row (.slice A _ _) _ _ n _ :: L => rowAt A n W M L ∧ factL W M L
  | _ :: L => factL W M L
theorem neR_nil (b : Nat) : neR [] b = True := rfl
theorem neR_blk (k : Nat) (t : TypeId) (cs : List Value) (L : List Res) (b : Nat) : neR (.blk k t cs :: L) b = neR L b := rfl
theorem neR_row (A : Option Addr) (n c : Nat) (t : TypeId) (s m : Nat) (xs : List Value) (L : List Res) (b : Nat) : neR (.row (.slice A n c) t s m xs :: L) b = ((∀ g, A = some ⟨g, 0, none⟩ → g ≠ b) ∧ neR L b) := rfl
theorem factL_nil (W : World) (M : List Nat) : factL W M [] = True := rfl
theorem factL_blk (W : World) (M : List Nat) (k : Nat) (t : TypeId) (cs : List Value) (L : List Res) : factL W M (.blk k t cs :: L) = ((W.heap.size ≤ k ∨ k ∈ M) ∧ neB L k ∧ neR L k ∧ factL W M L) := rfl
theorem factL_row (W : World) (M : List Nat) (A : Option Addr) (n c : Nat) (t : TypeId) (s m : Nat) (xs : List Value) (L : List Res) : factL W M (.row (.slice A n c) t s m xs :: L) = (rowAt A m W M L ∧ factL W M L) := rfl
theorem neR_of : ∀ {L : List Res} {b : Nat}, (∀ r ∈ L, b ∉ r.foot) → neR L b
  | [], _, _ => trivial
  | .blk k t cs :: L, b, h => neR_of (L := L) fun r hr => h r (by simp [hr])
  | .dat f p l :: L, b, h => neR_of (L := L) fun r hr => h r (by simp [hr])
  | .row v t s n xs :: L, b, h => by
    have h2 : neR L b := neR_of (L := L) fun r hr => h r (by simp [hr])
    unfold neR
    split
    · trivial
    · rename_i A m c t' s' n' xs' L' b' hh
      cases hh
      exact ⟨fun g hg e => h _ (.head _) (by subst hg; simp [Res.foot, Value.ownBlock, e]), h2⟩
    · rename_i hh
      cases hh
      exact h2
theorem St.facts {M : List Nat} {W w : World} : ∀ {L : List Res}, St M W L w → factL W M L
  | [], _ => trivial
  | .blk k t cs :: L, h => by
    have ht : St M W L w := h.sub (List.sublist_cons_self _ _)
    have hp := (List.pairwise_cons.1 h.apart).1
    have hk : ∀ r ∈ L, k ∉ r.foot := fun r hr => hp r hr k (by simp [Res.foot])
    exact ⟨(h.own _ (.head _) k (by simp [Res.foot])).1, neB_of hk, neR_of hk, ht.facts⟩
  | .dat f p l :: L, h => St.facts (L := L) (h.sub (List.sublist_cons_self _ _))
  | .row v t s n xs :: L, h => by
    have ht : factL W M L := St.facts (h.sub (List.sublist_cons_self _ _))
    unfold factL
    split
    · trivial
    · rename_i hh; cases hh
    · rename_i A m c t' s' n' xs' L' hh
      cases hh
      rcases (h.holds _ (.head _)).2 with ⟨h1, hn⟩ | ⟨g, cap, cur, h1, _⟩
      · injection h1 with h1
        exact ⟨.inl ⟨h1, hn⟩, ht⟩
      · injection h1 with h1 h3
        subst h1
        subst h3
        exact ⟨h.row_at, ht⟩
    · rename_i hh
      cases hh
      exact ht
theorem cv_apart {P : Program} {M : List Nat} {W : World} {n : Nat} {c : Code} {F : Fr} {L : List Res} {Q : Exit → Fr → List Res → Prop} (h : factL W M L → CV P M W n c F L Q) : CV P M W n c F L Q := fun a w ha hw => h hw.facts a w ha hw
end Go.Proofs.Ytaifnipgefkemaa
