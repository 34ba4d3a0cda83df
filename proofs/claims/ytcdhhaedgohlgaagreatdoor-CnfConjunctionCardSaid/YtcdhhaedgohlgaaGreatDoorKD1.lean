/- What the law CnfResolveSpec rests on, part 1: contracts of the functions that it reaches, and plain lemmas. No condition of its own. -/
import Derived.Below
import Derived.Deep.Draws
import Derived.Deep.AppendLies
import Derived.Maps.AppendAt
import Derived.OwnWalk
import Derived.Laws.BytesArg
import Derived.Laws.MakeOwn
import Derived.Laws.OwnMore
import Derived.Deep.OwnRows
import Derived.Tactics
import Derived.Lib.ConvBytes
import Derived.Laws.Slices
import Derived.WalkKit
import Derived.KernelRfl
import Derived.RowKit3
import Derived.Deep.LoopGhost
import Derived.Deep.QuietTactic
import Derived.BigQuiet
import Derived.WideLaws
import Derived.Deep.DeepCutAuto
import Derived.Deep.CutBlock
import Derived.Deep.RegionHeld3
import Derived.Laws.Rows
import Derived.Lib.AppendStr
import Derived.ArgAppend
import Derived.Laws.IdiomCopy
import Derived.RowKit
import Derived.OrdersHeld
import Derived.Laws.BitsLemmas
import Derived.Laws.StructEq
import Derived.Test.YtcdhhaedgohlgaaGreatDoorProg
import Derived.Shelf.Abstract
import Derived.MapKept
import Derived.Maps.OwnOps
import Derived.Carry
import Derived.Ground.SlgnProg
import Derived.Shelf.SlicesE.Delete
import Derived.Shelf.SlicesE.Clone
import Derived.Lib.OwnBridge
import Derived.Lib.AppendIntMem
import Derived.Shelf.Unicode.DecodeAny
import Derived.Shelf.Small.Bits
import Derived.Shelf.LaysM
import Derived.Shelf.Strconv.Itoa3
import Derived.Shelf.Bytes.WriteByteKept
import Derived.Shelf.Bytes.WriteStringKept
import Derived.Shelf.Bytes.Bytes
import Derived.Lib.ItoaLen
import Derived.Lib.BufferWrite
import Derived.Lib.OthersKept
import Derived.Lib.Bytes
import Derived.Sort.Grow
set_option linter.unusedVariables false
set_option linter.unusedSimpArgs false
section
set_option linter.unusedVariables false
set_option linter.unusedSimpArgs false
namespace Go.Proofs.YtcdhhaedgohlgaaGreatDoorW.PrintWords
open Go.RowKit

/-- A fact that the walk's simp doesn't look into. -/
structure Aside0 (p : Prop) : Prop where mk :: (out : p)
/-- The world is the old one, some orders having been drawn. -/
structure Drawn0 (w w' : World) : Prop where mk :: (out : ∃ n, w' = w.drewN n)
theorem Drawn0.refl (w : World) : Drawn0 w w := ⟨⟨0, rfl⟩⟩
theorem Drawn0.step {w w' : World} (h : Drawn0 w w') (n : Nat) : Drawn0 w (w'.drewN n) := by
  obtain ⟨m, rfl⟩ := h
  exact ⟨⟨m + n, World.drewN_drewN ..⟩⟩
theorem Drawn0.grown {w w' : World} (h : Drawn0 w w') : Grown w w' := by
  obtain ⟨n, rfl⟩ := h
  induction n with
  | zero => exact Grown.refl _
  | succ n ih => rw [← World.drew_drewN]; exact Grown.drew ih
theorem Drawn0.below {w w' : World} (h : Drawn0 w w') : Below w.heap.size w w' := by
  obtain ⟨n, rfl⟩ := h
  induction n with
  | zero => exact Below.refl _ _
  | succ n ih => rw [← World.drew_drewN]; exact ih.drew

def rd (xs : List Int) (i : Int) : Int := xs.getD i.toNat 0
def nums (k : IntKind) (xs : List Int) : List Value := xs.map fun x => .int k x

theorem below_alloc {w W : World} (h : Below w.heap.size w W) (o : Obj) : Below w.heap.size w (W.alloc o) := h.alloc h.size o
theorem below_drew {B : Nat} {w W : World} (h : Below B w W) : Below B w W.drew := ⟨h.os, h.tape, h.output, h.size, h.block⟩
theorem pw_below_drewN {B : Nat} {w W : World} (h : Below B w W) (n : Nat) : Below B w (W.drewN n) := ⟨h.os, h.tape, h.output, h.size, h.block⟩
theorem below_then {B : Nat} {w w1 w2 : World} (h : Below B w w1) (hB : B ≤ w1.heap.size) (k : Below w1.heap.size w1 w2) : Below B w w2 :=
  h.trans ⟨k.os, k.tape, k.output, k.size, fun i hi => k.block i (Nat.lt_of_lt_of_le hi hB)⟩
theorem grown_of_below {w w1 : World} (h : Below w.heap.size w w1) (row : Option Nat) : w.grownBy w1 row := ⟨h.os, h.tape, h.output, h.size, fun i hi _ => h.block i hi⟩
theorem pw_cell_below {w w1 : World} (h : Below w.heap.size w w1) {a : Addr} {v : Value} (hc : w.cell? a = some v) : w1.cell? a = some v := (h.cell (World.block_lt_of_cell? w a hc)).trans hc

def ReadsInt (w : World) (k : IntKind) (A : Option Addr) (n : Nat) (xs : List Int) : Prop :=
  xs.length = n ∧ n ≤ 9223372036854775807 ∧ (0 < n → ∃ ad, A = some ad ∧ ∀ j, j < n → w.cell? (ad.add j) = some (.int k (xs.getD j 0)))
theorem ReadsInt.at_ {w : World} {k : IntKind} {A : Option Addr} {n : Nat} {xs : List Int} (h : ReadsInt w k A n xs) (i : Int) (h0 : 0 ≤ i) (h1 : i < n) : ∃ ad, A = some ad ∧ w.cell? (ad.add i.toNat) = some (.int k (rd xs i)) := by
  obtain ⟨ad, e, hc⟩ := h.2.2 (by omega)
  exact ⟨ad, e, hc _ (by omega)⟩
theorem ReadsInt.below {w w1 : World} {k : IntKind} {A : Option Addr} {n : Nat} {xs : List Int} (h : ReadsInt w k A n xs) (hb : Below w.heap.size w w1) : ReadsInt w1 k A n xs :=
  ⟨h.1, h.2.1, fun hn => by
    obtain ⟨ad, e, hc⟩ := h.2.2 hn
    exact ⟨ad, e, fun j hj => pw_cell_below hb (hc j hj)⟩⟩

theorem own_nil (W : World) (base : Nat) (e : TypeId) (size : Nat) : W.ownsRow base e size (.slice none 0 0) 0 [] := ⟨by simp, .inl ⟨rfl, rfl⟩⟩
theorem own_base {w : World} {base : Nat} {e : TypeId} {size n : Nat} {v : Value} {xs : List Value} (h : w.ownsRow base e size v n xs) (k : Nat) (hk : v.ownBlock = some k) : base ≤ k := by
  rcases h.2 with ⟨rfl, _⟩ | ⟨g, cap, cur, rfl, hb, _⟩
  · simp [Value.ownBlock] at hk
  · have : g = k := by simpa [Value.ownBlock] using hk
    omega
theorem own_lt {w : World} {base : Nat} {e : TypeId} {size n : Nat} {v : Value} {xs : List Value} (h : w.ownsRow base e size v n xs) (k : Nat) (hk : v.ownBlock = some k) : k < w.heap.size := by
  rcases h.2 with ⟨rfl, _⟩ | ⟨g, cap, cur, rfl, hb, hh, _⟩
  · simp [Value.ownBlock] at hk
  · have : g = k := by simpa [Value.ownBlock] using hk
    subst this
    exact (Array.getElem?_eq_some_iff.1 hh).1
theorem pw_own_below {w w1 : World} {base : Nat} {e : TypeId} {size n : Nat} {v : Value} {xs : List Value} (h : w.ownsRow base e size v n xs) (hb : Below w.heap.size w w1) : w1.ownsRow base e size v n xs :=
  h.kept (grown_of_below hb none) (by cases v.ownBlock <;> simp)
theorem own_string {P : Program} {w : World} {base n : Nat} {e' src dst e : TypeId} {v : Value} {xs : List Int} (hs : P.underlying src = some (.slice e)) (he : P.underlying e = some (.int .u8)) (hd : P.underlying dst = some .string)
    (h : w.ownsRow base e' 1 v n (nums .u8 xs)) : (convert src dst v).run P w = .ok (.string (strOfNums xs)) w := by
  have hl : xs.length = n := by have := h.1; simp [nums] at this; exact this
  rcases h.2 with ⟨rfl, rfl⟩ | ⟨g, cap, cur, rfl, _⟩
  · obtain rfl : xs = [] := List.eq_nil_of_length_eq_zero hl
    exact run_convert_bytes_nil w src e hs he 0 0 dst hd
  · refine run_convert_bytes_arg w src e hs he g 0 n cap xs hl (fun i hi => ?_) dst hd
    have hc := h.cells (g := g) rfl i (.int .u8 (xs.getD i 0)) (by simp [nums, List.getElem?_eq_getElem (show i < xs.length by omega), List.getD_eq_getElem?_getD])
    have ha : (⟨g, 0, none⟩ : Addr).add i = ⟨g, 0 + i, none⟩ := by unfold Addr.add; split <;> simp_all
    rwa [ha] at hc

section
variable {P : Program} {ops : Array Oper} {rest : List Oper} {o : Oper} {a : Act} {Q : Exit → Act → World → Prop}

end

section
variable {P : Program}
end

section
variable {P : Program} {ops : Array Oper} {rest : List Oper} {o : Oper} {a : Act} {Q : Exit → Act → World → Prop}
end

def bytesOf (s : ByteArray) : List Int := s.data.toList.map fun b => (b.toNat : Int)
/-- Where the first answers, the second answers the same. -/
def LeO {α : Type} (a b : Option α) : Prop := ∀ r, a = some r → b = some r
theorem LeO.refl {α : Type} (a : Option α) : LeO a a := fun _ h => h
theorem LeO.none {α : Type} (b : Option α) : LeO Option.none b := fun _ h => by cases h
theorem LeO.trans {α : Type} {a b c : Option α} (h : LeO a b) (k : LeO b c) : LeO a c := fun r hr => k r (h r hr)
theorem LeO.bind {α β : Type} {a a' : Option α} {f f' : α → Option β} (h : LeO a a') (k : ∀ x, LeO (f x) (f' x)) : LeO (a.bind f) (a'.bind f') := by
  intro r hr
  obtain ⟨x, hx, hf⟩ := Option.bind_eq_some_iff.1 hr
  exact Option.bind_eq_some_iff.2 ⟨x, h x hx, k x r hf⟩
theorem LeO.map {α β : Type} {a a' : Option α} (f : α → β) (h : LeO a a') : LeO (a.map f) (a'.map f) := by
  intro r hr
  obtain ⟨x, hx, hf⟩ := Option.map_eq_some_iff.1 hr
  exact Option.map_eq_some_iff.2 ⟨x, h x hx, hf⟩
theorem more_rounds {α : Type} {g : Nat → Option α} (h : ∀ k, LeO (g k) (g (k + 1))) (k : Nat) : ∀ j, LeO (g k) (g (k + j))
  | 0 => LeO.refl _
  | j + 1 => (more_rounds h k j).trans (h (k + j))
theorem at_rounds {α : Type} {g : Nat → Option α} (h : ∀ k, LeO (g k) (g (k + 1))) {k k' : Nat} (hk : k ≤ k') {r : α} (hr : g k = some r) : g k' = some r := by
  have := more_rounds h k (k' - k) r hr
  rwa [Nat.add_sub_cancel' hk] at this
def Reps {α : Type} (R : α → List Value → Prop) (size : Nat) (ps : List α) (cs : List Value) : Prop :=
  cs.length = ps.length * size ∧ ∀ j p, ps[j]? = some p → R p ((cs.drop (j * size)).take size)
theorem Reps.none {α : Type} (R : α → List Value → Prop) (size : Nat) : Reps R size [] [] := ⟨by simp, fun j p h => by simp at h⟩
theorem Reps.snoc {α : Type} {R : α → List Value → Prop} {size : Nat} {ps : List α} {cs c : List Value} {p : α} (h : Reps R size ps cs) (hp : R p c) (hc : c.length = size) : Reps R size (ps ++ [p]) (cs ++ c) := by
  refine ⟨by rw [List.length_append, h.1, hc, List.length_append, List.length_singleton, Nat.add_mul, Nat.one_mul], fun j q hq => ?_⟩
  rcases Nat.lt_or_ge j ps.length with hj | hj
  · rw [List.getElem?_append_left hj] at hq
    have h1 : j * size + size ≤ cs.length := by rw [h.1, ← Nat.succ_mul]; exact Nat.mul_le_mul_right _ hj
    have h2 := h.2 j q hq
    rw [List.drop_append_of_le_length (by omega), List.take_append_of_le_length (by rw [List.length_drop]; omega)]
    exact h2
  · have hj' : j = ps.length := by
      have := (List.getElem?_eq_some_iff.1 hq).1
      rw [List.length_append, List.length_singleton] at this
      omega
    subst hj'
    have hq' : p = q := by simpa using hq
    subst hq'
    rw [← h.1, List.drop_left, ← hc, List.take_length]
    exact hp
theorem Reps.imp_ {α : Type} {R R' : α → List Value → Prop} {size : Nat} {ps : List α} {cs : List Value} (h : Reps R size ps cs) (hR : ∀ p c, R p c → R' p c) : Reps R' size ps cs := ⟨h.1, fun j p hj => hR _ _ (h.2 j p hj)⟩

def ReadsRow {α : Type} (R : α → List Value → Prop) (size : Nat) (w : World) (A : Option Addr) (n : Nat) (ps : List α) : Prop :=
  ps.length = n ∧ n ≤ 9223372036854775807 ∧ (0 < n → ∃ ad, A = some ad ∧ ∀ j p, ps[j]? = some p → ∃ c, c.length = size ∧ R p c ∧ ∀ i u, c[i]? = some u → w.cell? (ad.add (j * size + i)) = some u)
theorem ReadsRow.get_ {α : Type} {R : α → List Value → Prop} {size : Nat} {w : World} {A : Option Addr} {n : Nat} {ps : List α} (h : ReadsRow R size w A n ps) (d : α) (i : Int) (h0 : 0 ≤ i) (h1 : i < n) :
    ∃ ad c, A = some ad ∧ c.length = size ∧ R (ps.getD i.toNat d) c ∧ ∀ j u, c[j]? = some u → w.cell? (ad.add (i.toNat * size + j)) = some u := by
  obtain ⟨ad, e, hc⟩ := h.2.2 (by omega)
  have hl : i.toNat < ps.length := by have := h.1; omega
  obtain ⟨c, hs, hr, hcell⟩ := hc i.toNat _ (List.getElem?_eq_getElem hl)
  refine ⟨ad, c, e, hs, ?_, hcell⟩
  rw [List.getD_eq_getElem?_getD, List.getElem?_eq_getElem hl]
  exact hr
theorem ReadsRow.imp_ {α : Type} {R R' : α → List Value → Prop} {size : Nat} {w w1 : World} {A : Option Addr} {n : Nat} {ps : List α} (h : ReadsRow R size w A n ps) (hb : Below w.heap.size w w1) (hR : ∀ p c, R p c → R' p c) : ReadsRow R' size w1 A n ps :=
  ⟨h.1, h.2.1, fun hn => by
    obtain ⟨ad, e, hc⟩ := h.2.2 hn
    refine ⟨ad, e, fun j p hj => ?_⟩
    obtain ⟨c, hs, hr, hcell⟩ := hc j p hj
    exact ⟨c, hs, hR _ _ hr, fun i u hu => pw_cell_below hb (hcell i u hu)⟩⟩
theorem own_reads_row {α : Type} {R : α → List Value → Prop} {w : World} {base n size : Nat} {e : TypeId} {v : Value} {ps : List α} {cs : List Value} (h : w.ownsRow base e size v n cs) (hR : Reps R size ps cs) (hn : ps.length = n) :
    ∃ A c, v = .slice A n c ∧ ReadsRow R size w A n ps := by
  rcases Nat.eq_zero_or_pos n with h0 | h0
  · rcases h.2 with ⟨rfl, rfl⟩ | ⟨g, cap, cur, rfl, _⟩
    · exact ⟨none, 0, rfl, hn, by omega, fun hp => absurd hp (by omega)⟩
    · exact ⟨_, cap, rfl, hn, by omega, fun hp => absurd hp (by omega)⟩
  · obtain ⟨g, cap, rfl, _, _⟩ := h.form h0
    have hm : n ≤ 9223372036854775807 := by
      rcases h.2 with ⟨_, h1⟩ | ⟨g', cap', cur, he, _, _, h1, h2, _⟩
      · omega
      · simp only [maxLen] at h2
        omega
    refine ⟨_, cap, rfl, hn, hm, fun _ => ⟨_, rfl, fun j p hj => ⟨(cs.drop (j * size)).take size, ?_, hR.2 j p hj, fun i u hu => ?_⟩⟩⟩
    · have hjl := (List.getElem?_eq_some_iff.1 hj).1
      have h1 : j * size + size ≤ cs.length := by rw [hR.1, ← Nat.succ_mul]; exact Nat.mul_le_mul_right _ hjl
      rw [List.length_take, List.length_drop]
      omega
    · refine h.cells (g := g) rfl _ u ?_
      rw [List.getElem?_take] at hu
      split at hu
      · rw [List.getElem?_drop] at hu
        exact hu
      · cases hu

section
variable {P : Program} {ops : Array Oper} {rest : List Oper} {o : Oper} {a : Act} {Q : Exit → Act → World → Prop}
/-- append(v, x), x of several cells; behind 'at_builtin'; the goal's world is 'W.alloc' of the variadic's box. -/
theorem print_append_cells {w0 W : World} (base : Nat) (hgd : o.guard = none) (s x : Operand) (t e : TypeId) (z : Value) (size bytes : Nat)
    (ho : o.op = .call { callee := .builtin .append, args := #[s, x], argTypes := #[t, t] })
    (ht : P.underlying t = some (.slice e)) (hinfo : (P.info? e).map (fun i => (i.zero, i.size, i.bytes)) = some (some z, size, bytes)) (hz : z.cells.size = size) (hs0 : 0 < size) (hb0 : 0 < bytes)
    (v : Value) (n : Nat) (xs ys : List Value) (hs : a.eval s = v) (hx : a.eval x = .slice (some ⟨W.heap.size, 0, none⟩) 1 1) (hys : ys.length = size) (h1 : ∀ u ∈ ys, u.oneCell' = true)
    (HO : W.ownsRow base e size v n xs) (HB : Below base w0 W) (hbase : base ≤ W.heap.size) (hl : (n + 1) * bytes ≤ 140737488355328)
    (h : ∀ v1 w1, w1.ownsRow base e size v1 (n + 1) (xs ++ ys) → Below base w0 w1 → W.grownBy w1 v.ownBlock → (v1.ownBlock = v.ownBlock ∨ ∃ b, v1.ownBlock = some b ∧ W.heap.size ≤ b) → wpList P ops Q rest (a.put o.dst v1) w1) :
    wpList P ops Q (o :: rest) a (W.alloc (.cells ys.toArray e)) := by
  obtain ⟨i0, hi, hzz⟩ := Option.map_eq_some_iff.1 hinfo
  simp only [Prod.mk.injEq] at hzz
  obtain ⟨hz0, hz1, hz2⟩ := hzz
  have hlen : n + 1 ≤ 140737488355328 := Nat.le_trans (Nat.le_mul_of_pos_right _ hb0) hl
  refine wpList_append_own_at (W.alloc (.cells ys.toArray e)) hgd s x t ho base e i0 z size bytes ht hi hz0 hz1 hz2 hz hs0 v n xs hs (HO.alloc _) ⟨W.heap.size, 0, none⟩ 1 1 ys hx (by rw [hys]; simp)
    (by simpa using World.news_of_block (cs := ys.toArray) (t := e) (fr := (0, 0)) (heap_alloc_new W (.cells ys.toArray e))) h1 (by simp only [maxLen]; omega) hl (by simp; omega) ?_
  intro v1 w1 hown hg _ hat
  refine h v1 w1 hown ((HB.alloc hbase _).grown hg (by simp; omega) (own_base HO)) (World.grownBy.trans (World.grownBy_alloc W _ _) hg) ?_
  rcases hat with hat | hat
  · exact .inl hat
  · exact .inr ⟨_, hat, by simp⟩
end

theorem own_ne {w : World} {base : Nat} {e t : TypeId} {size n g : Nat} {v : Value} {xs : List Value} {cs : Array Value} (h : w.ownsRow base e size v n xs) (hg : w.heap[g]? = some (.cells cs t (0, 0))) (hne : e ≠ t) : some g ≠ v.ownBlock := by
  rcases h.2 with ⟨rfl, _⟩ | ⟨g', cap, cur, rfl, _, hh, _⟩
  · simp [Value.ownBlock]
  · intro he
    have : g = g' := by simpa [Value.ownBlock] using he
    subst this
    rw [hg] at hh
    injection hh with hh
    injection hh with _ ht
    exact hne ht.symm
theorem blk_set {w : World} {g : Nat} {t : TypeId} {cs : Array Value} (h : w.heap[g]? = some (.cells cs t (0, 0))) (i : Nat) (u : Value) : (w.setCell ⟨g, i, none⟩ u).heap[g]? = some (.cells (cs.setIfInBounds i u) t (0, 0)) := by
  simp [World.setCell, Array.getElem?_modify, h]
theorem blk_far {w : World} {g : Nat} {t : TypeId} {cs : Array Value} (h : w.heap[g]? = some (.cells cs t (0, 0))) {p : Addr} (hp : g ≠ p.block) (u : Value) : (w.setCell p u).heap[g]? = some (.cells cs t (0, 0)) := (Below.heap_setCell w p u g hp).trans h
theorem blk_lt {w : World} {g : Nat} {o : Obj} (h : w.heap[g]? = some o) : g < w.heap.size := (Array.getElem?_eq_some_iff.1 h).1
theorem blk_cell {w : World} {g : Nat} {t : TypeId} {cs : Array Value} (h : w.heap[g]? = some (.cells cs t (0, 0))) (i : Nat) : w.cell? ⟨g, i, none⟩ = cs[i]? := cell_of_row w g i cs t (0, 0) h
theorem blk_frozen {w : World} {g : Nat} {t : TypeId} {cs : Array Value} (h : w.heap[g]? = some (.cells cs t (0, 0))) (i : Nat) : w.frozen? ⟨g, i, none⟩ = false := by simp [World.frozen?, h]
def KeepBut (w w' : World) (g : Nat) (row : Option Nat) : Prop := w.heap.size ≤ w'.heap.size ∧ ∀ i, i < w.heap.size → i ≠ g → some i ≠ row → w'.heap[i]? = w.heap[i]?
theorem KeepBut.refl (w : World) (g : Nat) (row : Option Nat) : KeepBut w w g row := ⟨Nat.le_refl _, fun _ _ _ _ => rfl⟩
theorem KeepBut.of_below {w w1 : World} (h : Below w.heap.size w w1) (g : Nat) (row : Option Nat) : KeepBut w w1 g row := ⟨h.size, fun i hi _ _ => h.block i hi⟩
theorem KeepBut.trans {w w1 w2 : World} {g : Nat} {row row1 : Option Nat} (h : KeepBut w w1 g row) (k : KeepBut w1 w2 g row1) (hr : row1 = row ∨ ∃ b, row1 = some b ∧ w.heap.size ≤ b) : KeepBut w w2 g row :=
  ⟨Nat.le_trans h.1 k.1, fun i hi hg hn => by
    refine (k.2 i (Nat.lt_of_lt_of_le hi h.1) hg ?_).trans (h.2 i hi hg hn)
    rcases hr with rfl | ⟨b, rfl, hb⟩
    · exact hn
    · intro e
      injection e with e
      omega⟩
/-- Another block, another row: they live on. -/
theorem KeepBut.blk {w w1 : World} {g g' : Nat} {row : Option Nat} {o : Obj} (h : KeepBut w w1 g row) (hb : w.heap[g']? = some o) (hg : g' ≠ g) (hr : some g' ≠ row) : w1.heap[g']? = some o := (h.2 g' (blk_lt hb) hg hr).trans hb
theorem KeepBut.own {w w1 : World} {g : Nat} {row : Option Nat} {base : Nat} {e : TypeId} {size n : Nat} {v : Value} {xs : List Value} (h : KeepBut w w1 g row) (ho : w.ownsRow base e size v n xs) (hg : v.ownBlock ≠ some g) (hr : v.ownBlock = none ∨ v.ownBlock ≠ row) : w1.ownsRow base e size v n xs := by
  obtain ⟨h1, h2⟩ := ho
  refine ⟨h1, ?_⟩
  rcases h2 with h2 | ⟨b, cap, cur, rfl, hb, hh, r⟩
  · exact .inl h2
  · refine .inr ⟨b, cap, cur, rfl, hb, h.blk hh ?_ ?_, r⟩
    · intro e
      exact hg (by rw [← e]; rfl)
    · rcases hr with hr | hr
      · simp [Value.ownBlock] at hr
      · exact hr
def Ev {α : Type} (g : Nat → Option α) (r : α) : Prop := ∃ K, ∀ k, K ≤ k → g k = some r
theorem Ev.of {α : Type} {g : Nat → Option α} {r : α} (hg : ∀ k, LeO (g k) (g (k + 1))) {k : Nat} (h : g k = some r) : Ev g r := ⟨k, fun _ hk => at_rounds hg hk h⟩
theorem Ev.now {α : Type} (r : α) : Ev (fun _ => some r) r := ⟨0, fun _ _ => rfl⟩
theorem Ev.bind {α β : Type} {g : Nat → Option α} {f : Nat → α → Option β} {a : α} {r : β} (h : Ev g a) (k : Ev (fun n => f n a) r) : Ev (fun n => (g n).bind (f n)) r := by
  obtain ⟨K, h⟩ := h
  obtain ⟨K', k⟩ := k
  refine ⟨max K K', fun n hn => ?_⟩
  have h1 := h n (by omega)
  have h2 := k n (by omega)
  simp only [h1, Option.bind_some]
  exact h2
/-- One round of a loop. -/
theorem Ev.step {α : Type} {g f : Nat → Option α} {r : α} (h : ∀ k, g (k + 1) = f k) (k : Ev f r) : Ev g r := by
  obtain ⟨K, k⟩ := k
  refine ⟨K + 1, fun n hn => ?_⟩
  obtain ⟨m, rfl⟩ : ∃ m, n = m + 1 := ⟨n - 1, by omega⟩
  rw [h]
  exact k m (by omega)
theorem Ev.congr {α : Type} {g f : Nat → Option α} {r : α} (h : ∀ k, g k = f k) (k : Ev f r) : Ev g r := by
  obtain ⟨K, k⟩ := k
  exact ⟨K, fun n hn => (h n).trans (k n hn)⟩
section
variable {P : Program} {ops : Array Oper} {o : Oper} {a : Act} {Q : Exit → Act → World → Prop} {K : Act → World → Prop}
theorem step_append_cells {w0 W : World} (base : Nat) (hw : Region.wanted o (yielded ops a.tmps) = true) (s x : Operand) (t e : TypeId) (z : Value) (size bytes : Nat)
    (ho : o.op = .call { callee := .builtin .append, args := #[s, x], argTypes := #[t, t] })
    (ht : P.underlying t = some (.slice e)) (hinfo : (P.info? e).map (fun i => (i.zero, i.size, i.bytes)) = some (some z, size, bytes)) (hz : z.cells.size = size) (hs0 : 0 < size) (hb0 : 0 < bytes)
    (v : Value) (n : Nat) (xs ys : List Value) (hs : a.eval s = v) (hx : a.eval x = .slice (some ⟨W.heap.size, 0, none⟩) 1 1) (hys : ys.length = size) (h1 : ∀ u ∈ ys, u.oneCell' = true)
    (HO : W.ownsRow base e size v n xs) (HB : Below base w0 W) (hbase : base ≤ W.heap.size) (hl : (n + 1) * bytes ≤ 140737488355328)
    (h : ∀ v1 w1, w1.ownsRow base e size v1 (n + 1) (xs ++ ys) → Below base w0 w1 → W.grownBy w1 v.ownBlock → (v1.ownBlock = v.ownBlock ∨ ∃ b, v1.ownBlock = some b ∧ W.heap.size ≤ b) → K (a.put o.dst v1) w1) :
    if Region.wanted o (yielded ops a.tmps) = true then Oper.wp P o a (W.alloc (.cells ys.toArray e)) K Q else K (a.put o.dst undef) (W.alloc (.cells ys.toArray e)) := by
  obtain ⟨i0, hi, hzz⟩ := Option.map_eq_some_iff.1 hinfo
  simp only [Prod.mk.injEq] at hzz
  obtain ⟨hz0, hz1, hz2⟩ := hzz
  have hlen : n + 1 ≤ 140737488355328 := Nat.le_trans (Nat.le_mul_of_pos_right _ hb0) hl
  rw [if_pos hw]
  obtain ⟨v1, w1, hr, hown, hg, _, hat⟩ := run_append_own_at (P := P) (W.alloc (.cells ys.toArray e)) base t o.type e i0 z size bytes ht hi hz0 hz1 hz2 hz hs0 v n xs (HO.alloc _) ⟨W.heap.size, 0, none⟩ 1 1 ys (by rw [hys]; simp)
    (by simpa using World.news_of_block (cs := ys.toArray) (t := e) (fr := (0, 0)) (heap_alloc_new W (.cells ys.toArray e))) h1 (by simp only [maxLen]; omega) hl (by simp; omega)
  unfold Oper.wp execOp
  simp only [ho, resolve, invoke, builtin, Sem.run_bind, Sem.run_pure, Result.andThen_ok, List.map_toArray, List.map_cons, List.map_nil, hs, hx, hr]
  refine h v1 w1 hown ((HB.alloc hbase _).grown hg (by simp; omega) (own_base HO)) (World.grownBy.trans (World.grownBy_alloc W _ _) hg) ?_
  rcases hat with hat | hat
  · exact .inl hat
  · exact .inr ⟨_, hat, by simp⟩
end
theorem own_weaken {w : World} {base base' : Nat} {e : TypeId} {size n : Nat} {v : Value} {xs : List Value} (h : w.ownsRow base e size v n xs) (hb : base' ≤ base) : w.ownsRow base' e size v n xs := by
  obtain ⟨h1, h2⟩ := h
  refine ⟨h1, ?_⟩
  rcases h2 with h2 | ⟨g, cap, cur, rfl, hg, r⟩
  · exact .inl h2
  · exact .inr ⟨g, cap, cur, rfl, Nat.le_trans hb hg, r⟩
section
variable {α : Type} {enc : α → Value} {d : α}
def encs (enc : α → Value) (xs : List α) : List Value := xs.map enc
def rdOf (d : α) (xs : List α) (i : Int) : α := xs.getD i.toNat d
theorem encs_length (xs : List α) : (encs enc xs).length = xs.length := by simp [encs]
theorem encs_get (xs : List α) (j : Nat) (h : j < xs.length) : (encs enc xs)[j]? = some (enc (xs.getD j d)) := by
  simp [encs, List.getElem?_eq_getElem h, List.getD_eq_getElem?_getD]
def ReadsOf (enc : α → Value) (d : α) (w : World) (A : Option Addr) (n : Nat) (xs : List α) : Prop :=
  xs.length = n ∧ n ≤ 9223372036854775807 ∧ (0 < n → ∃ ad, A = some ad ∧ ∀ j, j < n → w.cell? (ad.add j) = some (enc (xs.getD j d)))
theorem ReadsOf.at_ {w : World} {A : Option Addr} {n : Nat} {xs : List α} (h : ReadsOf enc d w A n xs) (i : Int) (h0 : 0 ≤ i) (h1 : i < n) : ∃ ad, A = some ad ∧ w.cell? (ad.add i.toNat) = some (enc (rdOf d xs i)) := by
  obtain ⟨ad, e, hc⟩ := h.2.2 (by omega)
  exact ⟨ad, e, hc _ (by omega)⟩
theorem ReadsOf.below {w w1 : World} {A : Option Addr} {n : Nat} {xs : List α} (h : ReadsOf enc d w A n xs) (hb : Below w.heap.size w w1) : ReadsOf enc d w1 A n xs :=
  ⟨h.1, h.2.1, fun hn => by
    obtain ⟨ad, e, hc⟩ := h.2.2 hn
    exact ⟨ad, e, fun j hj => pw_cell_below hb (hc j hj)⟩⟩
end
section
variable {α : Type} {P : Program} {ops : Array Oper} {rest : List Oper} {o : Oper} {a : Act} {Q : Exit → Act → World → Prop}
theorem print_append_row_of {w0 W : World} (enc : α → Value) (d : α) (base : Nat) (hgd : o.guard = none) (s x : Operand) (t e : TypeId) (z : Value) (bytes : Nat)
    (ho : o.op = .call { callee := .builtin .append, args := #[s, x], argTypes := #[t, t] })
    (ht : P.underlying t = some (.slice e)) (hinfo : (P.info? e).map (fun i => (i.zero, i.size, i.bytes)) = some (some z, 1, bytes)) (hz : z.cells.size = 1) (hb0 : 0 < bytes) (h1 : ∀ x : α, (enc x).oneCell' = true)
    (v : Value) (xs ys : List α) (A : Option Addr) (m c : Nat) (hs : a.eval s = v) (hx : a.eval x = .slice A m c)
    (HO : W.ownsRow base e 1 v xs.length (encs enc xs)) (HR : ReadsOf enc d W A m ys) (HB : Below base w0 W) (hbase : base ≤ W.heap.size) (hl : (xs.length + m) * bytes ≤ 140737488355328)
    (h : ∀ v1 w1, w1.ownsRow base e 1 v1 (xs ++ ys).length (encs enc (xs ++ ys)) → Below base w0 w1 → W.grownBy w1 v.ownBlock → (v1.ownBlock = v.ownBlock ∨ ∃ b, v1.ownBlock = some b ∧ W.heap.size ≤ b) → wpList P ops Q rest (a.put o.dst v1) w1) :
    wpList P ops Q (o :: rest) a W := by
  obtain ⟨i0, hi, hzz⟩ := Option.map_eq_some_iff.1 hinfo
  simp only [Prod.mk.injEq] at hzz
  obtain ⟨hz0, hz1, hz2⟩ := hzz
  have hm : ys.length = m := HR.1
  have hlen : xs.length + m ≤ 140737488355328 := Nat.le_trans (Nat.le_mul_of_pos_right _ hb0) hl
  have hrun : ∃ v1 w1, (Builtin.append_ #[t, t] o.type #[v, .slice A m c]).run P W = .ok v1 w1 ∧ w1.ownsRow base e 1 v1 (xs ++ ys).length (encs enc (xs ++ ys)) ∧ W.grownBy w1 v.ownBlock ∧ (v1.ownBlock = v.ownBlock ∨ v1.ownBlock = some W.heap.size) := by
    rcases A with _ | ad
    · have h0 : m = 0 := by
        rcases Nat.eq_zero_or_pos m with h0 | h0
        · exact h0
        · obtain ⟨ad, h, _⟩ := HR.2.2 h0
          cases h
      subst h0
      obtain rfl : ys = [] := List.eq_nil_of_length_eq_zero hm
      refine ⟨v, W, ?_, by simpa using HO, World.grownBy.refl W _, .inl rfl⟩
      rcases HO.2 with ⟨rfl, hn⟩ | ⟨g, cap, cur, rfl, _, _, hnc, _⟩
      · simp [Builtin.append_, run_underlying ht, sizeOf, typeInfo, hi, Builtin.lenOf, Builtin.firstCells]
      · simp [Builtin.append_, run_underlying ht, sizeOf, typeInfo, hi, Builtin.lenOf, Builtin.firstCells, hnc, storeCells]
    · have hcells : ∀ j u, (encs enc ys)[j]? = some u → W.cell? (ad.add j) = some u := by
        intro j u hu
        have hj : j < ys.length := by
          rcases Nat.lt_or_ge j ys.length with h | h
          · exact h
          · simp [encs, List.getElem?_eq_none h] at hu
        obtain ⟨ad', h', hc⟩ := HR.2.2 (by omega)
        injection h' with h'
        subst h'
        rw [encs_get (d := d) ys j hj] at hu
        rw [← hu]
        exact hc j (by omega)
      obtain ⟨v1, w1, hr, h2, h3, _, h5⟩ := run_append_own_at (P := P) W base t o.type e i0 z 1 bytes ht hi hz0 hz1 hz2 hz (by omega) v xs.length (encs enc xs) HO ad m c (encs enc ys) (by simp [encs, hm]) hcells
        (by intro u hu; simp only [encs, List.mem_map] at hu; obtain ⟨q, _, rfl⟩ := hu; exact h1 q) (by simp only [maxLen]; omega) hl hbase
      exact ⟨v1, w1, hr, by simpa [encs, hm] using h2, h3, h5⟩
  obtain ⟨v1, w1, hr, hown, hg, hat⟩ := hrun
  refine wpList_plain hgd fun K hK => ?_
  unfold Oper.wp execOp
  simp only [ho, resolve, invoke, builtin, Sem.run_bind, Sem.run_pure, Result.andThen_ok, List.map_toArray, List.map_cons, List.map_nil, hs, hx, hr]
  refine hK _ _ (h v1 w1 hown (HB.grown hg hbase (own_base HO)) hg ?_)
  rcases hat with hat | hat
  · exact .inl hat
  · exact .inr ⟨_, hat, Nat.le_refl _⟩
end

theorem blk_alloc {w : World} {g : Nat} {o : Obj} (h : w.heap[g]? = some o) (o' : Obj) : (w.alloc o').heap[g]? = some o := (Below.heap_alloc w o' g (blk_lt h)).trans h
theorem blk_drew {w : World} {g : Nat} {o : Obj} (h : w.heap[g]? = some o) : w.drew.heap[g]? = some o := h
theorem blk_drewN {w : World} {g : Nat} {o : Obj} (h : w.heap[g]? = some o) (n : Nat) : (w.drewN n).heap[g]? = some o := h
theorem blk_below {w w1 : World} {g : Nat} {o : Obj} (h : w.heap[g]? = some o) (hb : Below w.heap.size w w1) : w1.heap[g]? = some o := (hb.block g (blk_lt h)).trans h
theorem blk_new (w : World) (o : Obj) : (w.alloc o).heap[w.heap.size]? = some o := heap_alloc_new w o
section
variable {P : Program}
end
theorem own_le {w : World} {base n m c size : Nat} {e : TypeId} {A : Option Addr} {xs : List Value} (h : w.ownsRow base e size (.slice A m c) n xs) : m ≤ c := by
  rcases h.2 with ⟨he, _⟩ | ⟨g, cap, cur, he, _, _, hnc, _⟩
  · injection he with _ h2 h3
    omega
  · injection he with _ h2 h3
    omega
def OwnRow {α : Type} (R : α → List Value → Prop) (e : TypeId) (size : Nat) (w : World) (base : Nat) (v : Value) (ps : List α) : Prop :=
  ∃ inner, w.ownsRow base e size v ps.length inner ∧ Reps R size ps inner
section
variable {α : Type} {R R' : α → List Value → Prop} {e : TypeId} {size : Nat} {w w1 : World} {base : Nat} {v : Value} {ps : List α}
theorem OwnRow.none_ (R : α → List Value → Prop) (e : TypeId) (size : Nat) (w : World) (base : Nat) : OwnRow R e size w base (.slice none 0 0) [] := ⟨[], own_nil _ _ _ _, Reps.none _ _⟩
theorem OwnRow.imp_ (h : OwnRow R e size w base v ps) (hR : ∀ p c, R p c → R' p c) : OwnRow R' e size w base v ps := by
  obtain ⟨inner, ho, hr⟩ := h
  exact ⟨inner, ho, hr.imp_ hR⟩
theorem OwnRow.below (h : OwnRow R e size w base v ps) (hb : Below w.heap.size w w1) : OwnRow R e size w1 base v ps := by
  obtain ⟨inner, ho, hr⟩ := h
  exact ⟨inner, pw_own_below ho hb, hr⟩
theorem OwnRow.keep (h : OwnRow R e size w base v ps) {g : Nat} {t : TypeId} {cells : Array Value} (hb : w.heap[g]? = some (.cells cells t (0, 0))) (ht : e ≠ t) (hk : KeepBut w w1 g none) : OwnRow R e size w1 base v ps := by
  obtain ⟨inner, ho, hr⟩ := h
  exact ⟨inner, hk.own ho (Ne.symm (own_ne ho hb ht)) (by cases v.ownBlock <;> simp), hr⟩
theorem OwnRow.reads (h : OwnRow R e size w base v ps) : ∃ A c, v = .slice A ps.length c ∧ ps.length ≤ c ∧ ReadsRow R size w A ps.length ps := by
  obtain ⟨inner, ho, hr⟩ := h
  obtain ⟨A, c, rfl, hrow⟩ := own_reads_row ho hr rfl
  exact ⟨A, c, rfl, own_le ho, hrow⟩
end
section
variable {P : Program} {ops : Array Oper} {rest : List Oper} {o : Oper} {a : Act} {Q : Exit → Act → World → Prop} {α : Type} {R : α → List Value → Prop}
/-- append(v, x): x's cells are cs. R is that of the world AHEAD; move it over hg ('OwnRow.imp_'). -/
theorem OwnRow.append {w0 W : World} (base : Nat) (hgd : o.guard = none) (s x : Operand) (t e : TypeId) (z : Value) (size bytes : Nat)
    (ho : o.op = .call { callee := .builtin .append, args := #[s, x], argTypes := #[t, t] })
    (ht : P.underlying t = some (.slice e)) (hinfo : (P.info? e).map (fun i => (i.zero, i.size, i.bytes)) = some (some z, size, bytes)) (hz : z.cells.size = size) (hs0 : 0 < size) (hb0 : 0 < bytes)
    (v : Value) (ps : List α) (p : α) (cs : List Value) (hs : a.eval s = v) (hx : a.eval x = .slice (some ⟨W.heap.size, 0, none⟩) 1 1) (hp : R p cs) (hcs : cs.length = size) (h1 : ∀ u ∈ cs, u.oneCell' = true)
    (HO : OwnRow R e size W base v ps) (HB : Below base w0 W) (hbase : base ≤ W.heap.size) (hl : (ps.length + 1) * bytes ≤ 140737488355328)
    (h : ∀ v1 w1, OwnRow R e size w1 base v1 (ps ++ [p]) → Below base w0 w1 → W.grownBy w1 v.ownBlock → (v1.ownBlock = v.ownBlock ∨ ∃ b, v1.ownBlock = some b ∧ W.heap.size ≤ b) → wpList P ops Q rest (a.put o.dst v1) w1) :
    wpList P ops Q (o :: rest) a (W.alloc (.cells cs.toArray e)) := by
  obtain ⟨inner, hown, hr⟩ := HO
  refine print_append_cells base hgd s x t e z size bytes ho ht hinfo hz hs0 hb0 v ps.length inner cs hs hx hcs h1 hown HB hbase hl ?_
  intro v1 w1 hown1 hb1 hg1 hat1
  exact h v1 w1 ⟨inner ++ cs, by rw [List.length_append, List.length_singleton]; exact hown1, hr.snoc hp hcs⟩ hb1 hg1 hat1
end
section
variable {P : Program} {ops : Array Oper} {o : Oper} {a : Act} {Q : Exit → Act → World → Prop} {K : Act → World → Prop} {α : Type} {R : α → List Value → Prop}
end
section
variable {α : Type} {P : Program}
end

section
variable {P : Program} {ops : Array Oper} {rest : List Oper} {o : Oper} {a : Act} {Q : Exit → Act → World → Prop}
end
/-- ok: which blocks the rows inside may be ('not the row that is being written'). -/
structure Kd (α : Type) where
  sz : Nat
  E : List Nat
  K : World → α → List Value → Prop
  M : World → Nat → (Nat → Prop) → α → List Value → Prop
  K_len : ∀ {w x cs}, K w x cs → cs.length = sz
  K_one : ∀ {w x cs}, K w x cs → ∀ u ∈ cs, u.oneCell' = true
  K_below : ∀ {w w1 : World} {x cs}, Below w.heap.size w w1 → K w x cs → K w1 x cs
  K_of_M : ∀ {w base ok x cs}, M w base ok x cs → K w x cs
  M_mono : ∀ {w base ok ok' x cs}, (∀ k, ok k → ok' k) → M w base ok x cs → M w base ok' x cs
  M_bound : ∀ {w : World} {base ok x cs}, M w base ok x cs → M w base (fun k => ok k ∧ base ≤ k ∧ k < w.heap.size ∧ ∃ q, q ∈ E ∧ ∃ cells, w.heap[k]? = some (.cells cells q (0, 0))) x cs
  M_move : ∀ {w w1 : World} {base ok x cs}, (∀ k, ok k → w1.heap[k]? = w.heap[k]?) → M w base ok x cs → M w1 base ok x cs
  M_lower : ∀ {w base base' ok x cs}, base' ≤ base → M w base ok x cs → M w base' ok x cs

theorem own_move {w w1 : World} {base : Nat} {e : TypeId} {size n : Nat} {v : Value} {xs : List Value} (h : w.ownsRow base e size v n xs) (hm : ∀ k, v.ownBlock = some k → w1.heap[k]? = w.heap[k]?) : w1.ownsRow base e size v n xs := by
  obtain ⟨h1, h2⟩ := h
  refine ⟨h1, ?_⟩
  rcases h2 with h2 | ⟨g, cap, cur, rfl, hg, hh, r⟩
  · exact .inl h2
  · exact .inr ⟨g, cap, cur, rfl, hg, (hm g (by simp [Value.ownBlock])).trans hh, r⟩
theorem own_typed {w : World} {base : Nat} {e : TypeId} {size n : Nat} {v : Value} {xs : List Value} (h : w.ownsRow base e size v n xs) (k : Nat) (hk : v.ownBlock = some k) : ∃ cells, w.heap[k]? = some (.cells cells e (0, 0)) := by
  rcases h.2 with ⟨rfl, _⟩ | ⟨g, cap, cur, rfl, hg, hh, r⟩
  · simp [Value.ownBlock] at hk
  · have : g = k := by simpa [Value.ownBlock] using hk
    subst this
    exact ⟨cur, hh⟩

namespace Kd
/-- A row of elements that is read. -/
def C {α : Type} (d : Kd α) (w : World) (A : Option Addr) (n : Nat) (xs : List α) : Prop := ReadsRow (d.K w) d.sz w A n xs
/-- A row of elements (type e) of the call's own; the elements' rows are not this one. -/
def R {α : Type} (d : Kd α) (e : Nat) (w : World) (base : Nat) (ok : Nat → Prop) (v : Value) (xs : List α) : Prop :=
  (∀ k, v.ownBlock = some k → ok k) ∧ OwnRow (d.M w base (fun k => ok k ∧ some k ≠ v.ownBlock)) e d.sz w base v xs
section
variable {α : Type} {d : Kd α} {e : Nat} {w w1 : World} {base : Nat} {ok ok' : Nat → Prop} {v : Value} {xs : List α}
theorem C_below {A : Option Addr} {n : Nat} (h : d.C w A n xs) (hb : Below w.heap.size w w1) : d.C w1 A n xs := ReadsRow.imp_ h hb (fun _ _ hp => d.K_below hb hp)
theorem R_nil (d : Kd α) (e : Nat) (w : World) (base : Nat) (ok : Nat → Prop) : d.R e w base ok (.slice none 0 0) [] := ⟨fun k hk => by simp [Value.ownBlock] at hk, OwnRow.none_ _ _ _ _ _⟩
theorem R_mono (h : d.R e w base ok v xs) (hok : ∀ k, ok k → ok' k) : d.R e w base ok' v xs := ⟨fun k hk => hok k (h.1 k hk), h.2.imp_ (fun _ _ hp => d.M_mono (fun k hk => ⟨hok k hk.1, hk.2⟩) hp)⟩
theorem R_bound (h : d.R e w base ok v xs) : d.R e w base (fun k => ok k ∧ base ≤ k ∧ k < w.heap.size ∧ ∃ q, q ∈ e :: d.E ∧ ∃ cells, w.heap[k]? = some (.cells cells q (0, 0))) v xs := by
  obtain ⟨h0, inner, ho, hr⟩ := h
  refine ⟨fun k hk => ?_, inner, ho, hr.imp_ (fun _ _ hp => d.M_mono (fun k hk => ?_) (d.M_bound hp))⟩
  · obtain ⟨cells, hc⟩ := own_typed ho k hk
    exact ⟨h0 k hk, own_base ho k hk, own_lt ho k hk, e, List.mem_cons_self, cells, hc⟩
  · obtain ⟨⟨h1, h2⟩, h3, h4, q, hq, hc⟩ := hk
    exact ⟨⟨h1, h3, h4, q, List.mem_cons_of_mem _ hq, hc⟩, h2⟩
theorem R_move (h : d.R e w base ok v xs) (hm : ∀ k, ok k → w1.heap[k]? = w.heap[k]?) : d.R e w1 base ok v xs := by
  obtain ⟨h0, inner, ho, hr⟩ := h
  exact ⟨h0, inner, own_move ho (fun k hk => hm k (h0 k hk)), hr.imp_ (fun _ _ hp => d.M_move (fun k hk => hm k hk.1) hp)⟩
theorem R_lower {base' : Nat} (h : d.R e w base ok v xs) (hb : base' ≤ base) : d.R e w base' ok v xs := by
  obtain ⟨h0, inner, ho, hr⟩ := h
  exact ⟨h0, inner, own_weaken ho hb, hr.imp_ (fun _ _ hp => d.M_lower hb hp)⟩
/-- Any mover: what is ok, and a block of w's, stays. -/
theorem R_step (h : d.R e w base ok v xs) (hm : ∀ k, ok k → k < w.heap.size → w1.heap[k]? = w.heap[k]?) : d.R e w1 base ok v xs :=
  R_mono (R_move (R_bound h) (fun k hk => hm k hk.1 hk.2.2.1)) (fun _ hk => hk.1)
theorem M_step {x : α} {cs : List Value} (h : d.M w base ok x cs) (hm : ∀ k, ok k → k < w.heap.size → w1.heap[k]? = w.heap[k]?) : d.M w1 base ok x cs :=
  d.M_mono (fun _ hk => hk.1) (d.M_move (fun k hk => hm k hk.1 hk.2.2.1) (d.M_bound h))
theorem R_below (h : d.R e w base ok v xs) (hb : Below w.heap.size w w1) : d.R e w1 base ok v xs := R_step h (fun k _ hk => hb.block k hk)
theorem M_below {x : α} {cs : List Value} (h : d.M w base ok x cs) (hb : Below w.heap.size w w1) : d.M w1 base ok x cs := M_step h (fun k _ hk => hb.block k hk)
/-- A store into another block. -/
theorem R_far (h : d.R e w base ok v xs) {p : Addr} (hok : ∀ k, ok k → k ≠ p.block) (u : Value) : d.R e (w.setCell p u) base ok v xs := R_step h (fun k ho _ => Below.heap_setCell w p u k (hok k ho))
/-- By types alone: the rows inside are none of a block of type t. -/
theorem R_types (h : d.R e w base ok v xs) {g t : Nat} {cells : Array Value} (hb : w.heap[g]? = some (.cells cells t (0, 0))) (ht : ∀ q, q ∈ e :: d.E → q ≠ t) : d.R e w base (fun k => ok k ∧ k ≠ g) v xs :=
  R_mono (R_bound h) (fun k hk => ⟨hk.1, by
    obtain ⟨_, _, _, q, hq, cells', hc⟩ := hk
    rintro rfl
    rw [hc] at hb
    injection hb with hb
    injection hb with _ hb
    exact ht q hq hb⟩)
theorem R_reads (h : d.R e w base ok v xs) : ∃ A c, v = .slice A xs.length c ∧ xs.length ≤ c ∧ d.C w A xs.length xs := by
  obtain ⟨A, c, he, hl, hr⟩ := OwnRow.reads h.2
  exact ⟨A, c, he, hl, hr.imp_ (Below.refl _ _) (fun _ _ hp => d.K_of_M hp)⟩
theorem R_slice (h : d.R e w base ok v xs) : ∃ A c, v = .slice A xs.length c := by
  obtain ⟨A, c, he, _⟩ := R_reads h
  exact ⟨A, c, he⟩
theorem R_own (h : d.R e w base ok v xs) : ∃ inner, w.ownsRow base e d.sz v xs.length inner := by
  obtain ⟨_, inner, ho, _⟩ := h
  exact ⟨inner, ho⟩
end

def scalar {α : Type} (enc : α → Value) (h1 : ∀ x, (enc x).oneCell' = true) : Kd α where
  sz := 1
  E := []
  K := fun _ x cs => cs = [enc x]
  M := fun _ _ _ x cs => cs = [enc x]
  K_len := fun h => by rw [h]; rfl
  K_one := fun h u hu => by
    rw [h] at hu
    rw [List.mem_singleton.1 hu]
    exact h1 _
  K_below := fun _ h => h
  K_of_M := fun h => h
  M_mono := fun _ h => h
  M_bound := fun h => h
  M_move := fun _ h => h
  M_lower := fun _ h => h
def int (k : IntKind) : Kd Int := scalar (Value.int k) (fun _ => rfl)
def bool : Kd Bool := scalar Value.bool (fun _ => rfl)
def string : Kd ByteArray := scalar Value.string (fun _ => rfl)
def slice {α : Type} (e : Nat) (d : Kd α) : Kd (List α) where
  sz := 1
  E := e :: d.E
  K := fun w xs cs => ∃ A c, cs = [.slice A xs.length c] ∧ xs.length ≤ c ∧ d.C w A xs.length xs
  M := fun w base ok xs cs => ∃ v, cs = [v] ∧ d.R e w base ok v xs
  K_len := by
    rintro w x cs ⟨A, c, rfl, _⟩
    rfl
  K_one := by
    rintro w x cs ⟨A, c, rfl, _⟩ u hu
    rw [List.mem_singleton.1 hu]
    rfl
  K_below := by
    rintro w w1 x cs hb ⟨A, c, rfl, hl, hr⟩
    exact ⟨A, c, rfl, hl, C_below hr hb⟩
  K_of_M := by
    rintro w base ok x cs ⟨v, rfl, h⟩
    obtain ⟨A, c, rfl, hl, hr⟩ := R_reads h
    exact ⟨A, c, rfl, hl, hr⟩
  M_mono := by
    rintro w base ok ok' x cs hok ⟨v, rfl, h⟩
    exact ⟨v, rfl, R_mono h hok⟩
  M_bound := by
    rintro w base ok x cs ⟨v, rfl, h⟩
    exact ⟨v, rfl, R_bound h⟩
  M_move := by
    rintro w w1 base ok x cs hm ⟨v, rfl, h⟩
    exact ⟨v, rfl, R_move h hm⟩
  M_lower := by
    rintro w base base' ok x cs hb ⟨v, rfl, h⟩
    exact ⟨v, rfl, R_lower h hb⟩
/-- Nothing is of this kind: where the nesting's depth is used up. -/
def bot {α : Type} (sz : Nat) (E : List Nat) : Kd α where
  sz := sz
  E := E
  K := fun _ _ _ => False
  M := fun _ _ _ _ _ => False
  K_len := fun h => h.elim
  K_one := fun h => h.elim
  K_below := fun _ h => h
  K_of_M := fun h => h
  M_mono := fun _ h => h
  M_bound := fun h => h
  M_move := fun _ h => h
  M_lower := fun _ h => h
/-- A type nested in itself: nested at most n deep .. -/
def upto {α : Type} (F : Kd α → Kd α) (sz : Nat) (E : List Nat) : Nat → Kd α
  | 0 => bot sz E
  | n + 1 => F (upto F sz E n)

theorem C_get {α : Type} {d : Kd α} {w : World} {A : Option Addr} {n : Nat} {xs : List α} (h : d.C w A n xs) (z : α) (i : Int) (h0 : 0 ≤ i) (h1 : i < n) :
    ∃ ad c, A = some ad ∧ c.length = d.sz ∧ d.K w (xs.getD i.toNat z) c ∧ ∀ j u, c[j]? = some u → w.cell? (ad.add (i.toNat * d.sz + j)) = some u := ReadsRow.get_ h z i h0 h1
/-- What an append leaves: the old elements' rows and the new one's are not the new row's block. -/
theorem R_appended {α : Type} {d : Kd α} {e base : Nat} {ok okp : Nat → Prop} {W w1 : World} {v v1 : Value} {xs : List α} {p : α} {inner cs : List Value} (h0 : ∀ k, v.ownBlock = some k → ok k) (hr : Reps (d.M W base (fun k => ok k ∧ some k ≠ v.ownBlock)) d.sz xs inner) (hp : d.M W base okp p cs) (hokp : ∀ k, okp k → ok k ∧ some k ≠ v.ownBlock) (hfresh : ∀ k, W.heap.size ≤ k → ok k)
    (hown : w1.ownsRow base e d.sz v1 (xs.length + 1) (inner ++ cs)) (hg : W.grownBy w1 v.ownBlock) (hat : v1.ownBlock = v.ownBlock ∨ ∃ b, v1.ownBlock = some b ∧ W.heap.size ≤ b) : d.R e w1 base ok v1 (xs ++ [p]) := by
  have hne : ∀ k, some k ≠ v.ownBlock → k < W.heap.size → some k ≠ v1.ownBlock := by
    intro k hk hlt
    rcases hat with hat | ⟨b, hb, hle⟩
    · rw [hat]; exact hk
    · rw [hb]
      intro he
      injection he with he
      omega
  have step : ∀ {q : α} {c : List Value} {o : Nat → Prop}, d.M W base o q c → (∀ k, o k → ok k ∧ some k ≠ v.ownBlock) → d.M w1 base (fun k => ok k ∧ some k ≠ v1.ownBlock) q c := by
    intro q c o hq ho
    have h1 := d.M_move (w1 := w1) (fun k hk => hg.block k hk.2.2.1 (ho k hk.1).2) (d.M_bound hq)
    exact d.M_mono (fun k hk => ⟨(ho k hk.1).1, hne k (ho k hk.1).2 hk.2.2.1⟩) h1
  refine ⟨fun k hk => ?_, inner ++ cs, by rw [List.length_append, List.length_singleton]; exact hown, ?_⟩
  · rcases hat with hat | ⟨b, hb, hle⟩
    · exact h0 k (hat ▸ hk)
    · rw [hb] at hk
      injection hk with hk
      exact hfresh k (by omega)
  · exact (hr.imp_ (fun _ _ hq => step hq (fun _ hk => hk))).snoc (step hp hokp) (d.K_len (d.K_of_M hp))
section
variable {P : Program} {ops : Array Oper} {rest : List Oper} {o : Oper} {a : Act} {Q : Exit → Act → World → Prop} {α : Type}
end
section
variable {P : Program} {ops : Array Oper} {o : Oper} {a : Act} {Q : Exit → Act → World → Prop} {Kc : Act → World → Prop} {α : Type}
theorem R_append_step (d : Kd α) {w0 W : World} (base : Nat) (hw : Region.wanted o (yielded ops a.tmps) = true) (s x : Operand) (t e : TypeId) (z : Value) (bytes : Nat)
    (ho : o.op = .call { callee := .builtin .append, args := #[s, x], argTypes := #[t, t] })
    (ht : P.underlying t = some (.slice e)) (hinfo : (P.info? e).map (fun i => (i.zero, i.size, i.bytes)) = some (some z, d.sz, bytes)) (hz : z.cells.size = d.sz) (hs0 : 0 < d.sz) (hb0 : 0 < bytes)
    (v : Value) (xs : List α) (p : α) (cs : List Value) (ok okp : Nat → Prop) (hs : a.eval s = v) (hx : a.eval x = .slice (some ⟨W.heap.size, 0, none⟩) 1 1) (hp : d.M W base okp p cs) (hokp : ∀ k, okp k → ok k ∧ some k ≠ v.ownBlock) (hfresh : ∀ k, W.heap.size ≤ k → ok k)
    (HO : d.R e W base ok v xs) (HB : Below base w0 W) (hbase : base ≤ W.heap.size) (hl : (xs.length + 1) * bytes ≤ 140737488355328)
    (h : ∀ v1 w1, d.R e w1 base ok v1 (xs ++ [p]) → Below base w0 w1 → W.grownBy w1 v.ownBlock → (v1.ownBlock = v.ownBlock ∨ ∃ b, v1.ownBlock = some b ∧ W.heap.size ≤ b) → Kc (a.put o.dst v1) w1) :
    if Region.wanted o (yielded ops a.tmps) = true then Oper.wp P o a (W.alloc (.cells cs.toArray e)) Kc Q else Kc (a.put o.dst undef) (W.alloc (.cells cs.toArray e)) := by
  obtain ⟨h0, inner, hown, hr⟩ := HO
  refine step_append_cells base hw s x t e z d.sz bytes ho ht hinfo hz hs0 hb0 v xs.length inner cs hs hx (d.K_len (d.K_of_M hp)) (d.K_one (d.K_of_M hp)) hown HB hbase hl ?_
  intro v1 w1 hown1 hb1 hg1 hat1
  exact h v1 w1 (R_appended h0 hr hp hokp hfresh hown1 hg1 hat1) hb1 hg1 hat1
end
/-- A row of scalars is the elder form. -/
theorem reps_scalar {α : Type} {enc : α → Value} (xs : List α) : Reps (fun (x : α) (cs : List Value) => cs = [enc x]) 1 xs (encs enc xs) := by
  refine ⟨by simp [encs], fun j p hj => ?_⟩
  obtain ⟨hl, hp⟩ := List.getElem?_eq_some_iff.1 hj
  have hl' : j < (encs enc xs).length := by rw [encs_length]; exact hl
  rw [Nat.mul_one, List.drop_eq_getElem_cons hl']
  simp [encs, hp]
theorem R_of_own {α : Type} {enc : α → Value} {h1 : ∀ x, (enc x).oneCell' = true} {e : Nat} {w : World} {base : Nat} {ok : Nat → Prop} {v : Value} {xs : List α} (ho : w.ownsRow base e 1 v xs.length (encs enc xs)) (hok : ∀ k, v.ownBlock = some k → ok k) : (scalar enc h1).R e w base ok v xs := ⟨hok, encs enc xs, ho, reps_scalar xs⟩
theorem own_of_R {α : Type} {enc : α → Value} {h1 : ∀ x, (enc x).oneCell' = true} {e : Nat} {w : World} {base : Nat} {ok : Nat → Prop} {v : Value} {xs : List α} (h : (scalar enc h1).R e w base ok v xs) : w.ownsRow base e 1 v xs.length (encs enc xs) := by
  obtain ⟨_, inner, ho, hr⟩ := h
  have : inner = encs enc xs := by
    apply List.ext_getElem?
    intro j
    rcases Nat.lt_or_ge j xs.length with hj | hj
    · have h2 := hr.2 j _ (List.getElem?_eq_getElem hj)
      have hl : j < inner.length := by have := hr.1; simp [scalar] at this; omega
      have h3 : (inner.drop (j * 1)).take 1 = [enc xs[j]] := h2
      rw [Nat.mul_one, List.drop_eq_getElem_cons hl] at h3
      have h4 : inner[j] = enc xs[j] := by
        have h5 := congrArg List.head? h3
        rw [List.take_succ_cons] at h5
        exact Option.some.inj h5
      rw [List.getElem?_eq_getElem hl, h4]
      simp [encs, List.getElem?_eq_getElem hj]
    · have h3 : inner.length = xs.length := by have := hr.1; simp [scalar] at this; omega
      rw [List.getElem?_eq_none (by omega), List.getElem?_eq_none (by rw [encs_length]; omega)]
  rw [← this]
  exact ho
theorem C_of_reads {α : Type} {enc : α → Value} {d : α} {h1 : ∀ x, (enc x).oneCell' = true} {w : World} {A : Option Addr} {n : Nat} {xs : List α} (h : ReadsOf enc d w A n xs) : (scalar enc h1).C w A n xs := by
  refine ⟨h.1, h.2.1, fun hn => ?_⟩
  obtain ⟨ad, e, hc⟩ := h.2.2 hn
  refine ⟨ad, e, fun j p hj => ⟨[enc p], rfl, rfl, fun i u hu => ?_⟩⟩
  obtain ⟨hl, hp⟩ := List.getElem?_eq_some_iff.1 hj
  have h2 := hc j (by have := h.1; omega)
  rw [List.getD_eq_getElem?_getD, hj] at h2
  cases i with
  | zero =>
    have : enc p = u := by simpa using hu
    subst this
    simpa [scalar] using h2
  | succ i => simp at hu
theorem reads_of_C {α : Type} {enc : α → Value} {d : α} {h1 : ∀ x, (enc x).oneCell' = true} {w : World} {A : Option Addr} {n : Nat} {xs : List α} (h : (scalar enc h1).C w A n xs) : ReadsOf enc d w A n xs := by
  refine ⟨h.1, h.2.1, fun hn => ?_⟩
  obtain ⟨ad, e, hc⟩ := h.2.2 hn
  refine ⟨ad, e, fun j hj => ?_⟩
  have hl : j < xs.length := by have := h.1; omega
  obtain ⟨c, _, hK, hcell⟩ := hc j _ (List.getElem?_eq_getElem hl)
  have hK' : c = [enc xs[j]] := hK
  subst hK'
  have := hcell 0 _ rfl
  simpa [scalar, List.getD_eq_getElem?_getD, List.getElem?_eq_getElem hl] using this
end Kd
namespace Kd
section
variable {α : Type} {F : Kd α → Kd α} {sz : Nat} {E : List Nat} {hs : ∀ n, (upto F sz E n).sz = sz} {hE : ∀ n q, q ∈ (upto F sz E n).E → q ∈ E}
end
end Kd
namespace Kd
end Kd
namespace Kd
section
variable {α β : Type} {d : Kd α} {d' : Kd β} {e e' : Nat} {w w1 W : World} {base b b' : Nat} {ok ok' okv oku : Nat → Prop} {v u : Value} {xs : List α} {ys : List β}
theorem R_alloc (h : d.R e w base ok v xs) (o : Obj) : d.R e (w.alloc o) base ok v xs := R_below h (below_alloc (Below.refl _ _) o)
theorem R_drew (h : d.R e w base ok v xs) : d.R e w.drew base ok v xs := R_below h (below_drew (Below.refl _ _))
theorem R_drewN (h : d.R e w base ok v xs) (m : Nat) : d.R e (w.drewN m) base ok v xs := R_below h (pw_below_drewN (Below.refl _ _) m)
theorem C_alloc {A : Option Addr} {n : Nat} (h : d.C w A n xs) (o : Obj) : d.C (w.alloc o) A n xs := C_below h (below_alloc (Below.refl _ _) o)
theorem C_drew {A : Option Addr} {n : Nat} (h : d.C w A n xs) : d.C w.drew A n xs := C_below h (below_drew (Below.refl _ _))
theorem C_drewN {A : Option Addr} {n : Nat} (h : d.C w A n xs) (m : Nat) : d.C (w.drewN m) A n xs := C_below h (pw_below_drewN (Below.refl _ _) m)
theorem C_nil (d : Kd α) (w : World) : d.C w none ([] : List α).length [] := ⟨rfl, by simp, fun h => absurd h (Nat.lt_irrefl 0)⟩
theorem R_reads' {A : Option Addr} {n c : Nat} (h : d.R e w base ok (.slice A n c) xs) : n = xs.length ∧ n ≤ c ∧ d.C w A xs.length xs := by
  obtain ⟨A', c', he, hl, hr⟩ := R_reads h
  injection he with h1 h2 h3
  subst h1
  exact ⟨h2, by omega, hr⟩
theorem R_lt (h : d.R e w base ok v xs) : ∀ k, v.ownBlock = some k → k < w.heap.size := by
  obtain ⟨inner, ho⟩ := R_own h
  exact own_lt ho
theorem R_base (h : d.R e w base ok v xs) : ∀ k, v.ownBlock = some k → base ≤ k := by
  obtain ⟨inner, ho⟩ := R_own h
  exact own_base ho
end
section
variable {w W : World} {A : Option Addr} {n : Nat}
theorem at_int {k : IntKind} {xs : List Int} (h : (Kd.int k).C w A n xs) (i : Int) (h0 : 0 ≤ i) (h1 : i < n) : ∃ ad, A = some ad ∧ w.cell? (ad.add i.toNat) = some (.int k (rd xs i)) :=
  ReadsOf.at_ (reads_of_C (enc := Value.int k) (d := (0 : Int)) (h1 := fun _ => rfl) h) i h0 h1
theorem at_bool {xs : List Bool} (h : Kd.bool.C w A n xs) (i : Int) (h0 : 0 ≤ i) (h1 : i < n) : ∃ ad, A = some ad ∧ w.cell? (ad.add i.toNat) = some (.bool (rdOf false xs i)) :=
  ReadsOf.at_ (reads_of_C (enc := Value.bool) (d := false) (h1 := fun _ => rfl) h) i h0 h1
variable {α : Type} {enc : α → Value} {h1 : ∀ x, (enc x).oneCell' = true} {e base g cap : Nat} {ok : Nat → Prop} {xs : List α}
end

section
variable {P : Program} {ops : Array Oper} {rest : List Oper} {o : Oper} {a : Act} {Q : Exit → Act → World → Prop}
theorem event_run {W w1 : World} {v : Value} (hgd : o.guard = none) (hrun : (execOp a.eval o).run P W = .ok (.value v) w1) (h : wpList P ops Q rest (a.put o.dst v) w1) : wpList P ops Q (o :: rest) a W := by
  refine wpList_plain hgd fun K hK => ?_
  unfold Oper.wp
  rw [hrun]
  exact hK _ _ h
variable {α : Type}
/-- A literal '[]T{..}': inner its cells. 'hd' picks the operation; 'hrun' by '(by go_simp; rfl)'. -/
theorem R_lit (d : Kd α) {w0 W : World} (base e : Nat) (hgd : o.guard = none) {N : Tmp} (_hd : o.dst = some N) {xs : List α} {inner : List Value} {ok okp : Nat → Prop}
    (hrun : (execOp a.eval o).run P W = .ok (.value (.slice (some ⟨W.heap.size, 0, none⟩) xs.length xs.length)) (W.alloc (.cells inner.toArray e)))
    (hrep : Reps (d.M W base okp) d.sz xs inner) (hok : ∀ k, okp k → ok k) (hfresh : ok W.heap.size) (HB : Below base w0 W) (hbase : base ≤ W.heap.size) (hm : xs.length ≤ 9223372036854775807)
    (h : ∀ v1 w1, d.R e w1 base ok v1 xs → Below base w0 w1 → W.grownBy w1 none → (∃ b, v1.ownBlock = some b ∧ W.heap.size ≤ b) → wpList P ops Q rest (a.put o.dst v1) w1) : wpList P ops Q (o :: rest) a W := by
  refine event_run hgd hrun (h _ _ ⟨fun k hk => ?_, inner, ?_, ?_⟩ (HB.alloc hbase _) (World.grownBy_alloc W _ none) ⟨W.heap.size, by simp [Value.ownBlock], Nat.le_refl _⟩)
  · have : W.heap.size = k := by simpa [Value.ownBlock] using hk
    subst this
    exact hfresh
  · have h2 := World.ownsRow_lit (base := base) (e := e) (size := d.sz) W inner.toArray xs.length hbase (by simpa [maxLen] using hm) (by simpa using hrep.1)
    simpa using h2
  · refine hrep.imp_ (fun p c hp => d.M_mono (fun k hk => ⟨hok k hk.1, fun he => ?_⟩) (M_below (d.M_bound hp) (below_alloc (Below.refl _ _) _)))
    have h3 : k = W.heap.size := by simpa [Value.ownBlock] using he
    have := hk.2.2.1
    omega
end
end Kd
section
variable {P : Program}
theorem cut_from (t e : TypeId) (kl : IntKind) {i : TypeInfo} (ht : P.underlying t = some (.slice e)) (hi : P.info? e = some i) (size : Nat) (hsz : i.size = size) (A : Option Addr) (n c : Nat) (j : Int) (h0 : 0 ≤ j) (hm : j ≤ n) :
    ∀ W : World, (Instr.slice t (.slice A n c) (some (.int kl j)) none none).run P W = .ok (.slice (if c = j.toNat then A else A.map (·.add (j.toNat * size))) (n - j.toNat) (c - j.toNat)) W := by
  intro W
  have hel : P.elem t = e := by simp [Program.elem, ht]
  have hu : P.underlying t = some (.slice (P.elem t)) := by rw [hel]; exact ht
  rw [run_slice_l W t A n c hu kl j h0 hm, hel]
  simp [sizeOf, typeInfo, hi, hsz, sliced, Result.andThen]
end
/-- A row of one's own that may begin inside its block. -/
def QRow (w : World) (base : Nat) (e : TypeId) (size : Nat) (v : Value) (n : Nat) (xs : List Value) : Prop :=
  xs.length = n * size ∧
  ((n = 0 ∧ ∃ A, v = .slice A 0 0 ∧ ∀ a, A = some a → base ≤ a.block ∧ ∃ cur, w.heap[a.block]? = some (.cells cur e (0, 0))) ∨
   ∃ g off cap cur, v = .slice (some ⟨g, off * size, none⟩) n cap ∧ base ≤ g ∧ w.heap[g]? = some (.cells cur e (0, 0)) ∧ n ≤ cap ∧ off + cap ≤ maxLen ∧ cur.size = (off + cap) * size ∧ (cur.toList.drop (off * size)).take (n * size) = xs)
section
variable {w w1 : World} {base n size : Nat} {e : TypeId} {v : Value} {xs : List Value}
end
section
variable {P : Program}
end
namespace Kd
def Q {α : Type} (d : Kd α) (e : Nat) (w : World) (base : Nat) (ok : Nat → Prop) (v : Value) (xs : List α) : Prop :=
  (∀ k, v.ownBlock = some k → ok k) ∧ ∃ inner, QRow w base e d.sz v xs.length inner ∧ Reps (d.M w base (fun k => ok k ∧ some k ≠ v.ownBlock)) d.sz xs inner
section
variable {α : Type} {d : Kd α} {e : Nat} {w w1 W : World} {base : Nat} {ok ok' : Nat → Prop} {v : Value} {xs : List α}
end
section
variable {P : Program} {ops : Array Oper} {rest : List Oper} {o : Oper} {a : Act} {Q' : Exit → Act → World → Prop} {Kc : Act → World → Prop} {α : Type}
end
end Kd
namespace Kd
section
variable {α : Type} {d : Kd α} {e e' : Nat} {w w1 W : World} {base : Nat} {ok : Nat → Prop} {u v : Value} {xs : List α}
theorem R_elder' (hu : d.R e W base ok u xs) (hbase : ∀ k, v.ownBlock = some k → W.heap.size ≤ k) (hb : Below W.heap.size W w1) : d.R e w1 base (fun k => ok k ∧ some k ≠ v.ownBlock) u xs :=
  R_mono (R_move (R_bound hu) (fun k hk => hb.block k hk.2.2.1)) (fun k hk => ⟨hk.1, fun he => by have := hbase k he.symm; have := hk.2.2.1; omega⟩)
theorem R_new' (h : d.R e w1 W.heap.size ok v xs) (hlt : ∀ k, u.ownBlock = some k → k < W.heap.size) : d.R e w1 W.heap.size (fun k => ok k ∧ some k ≠ u.ownBlock) v xs :=
  R_mono (R_bound h) (fun k hk => ⟨hk.1, fun he => by have := hlt k he.symm; have := hk.2.1; omega⟩)

theorem fresh' (hlt : ∀ k, u.ownBlock = some k → k < W.heap.size) : ∀ k, W.heap.size ≤ k → some k ≠ u.ownBlock := fun k hk he => by have := hlt k he.symm; omega
end
end Kd
namespace Kd
section
variable {α : Type} {d : Kd α} {e base g n cap : Nat} {ok okp : Nat → Prop} {W : World} {xs : List α}
end
end Kd
namespace Kd
section
variable {α : Type} {F : Kd α → Kd α} {sz : Nat} {E : List Nat} {hs : ∀ n, (upto F sz E n).sz = sz} {hE : ∀ n q, q ∈ (upto F sz E n).E → q ∈ E}
end
end Kd
namespace Kd
section
variable {P : Program} {ops : Array Oper} {rest : List Oper} {o : Oper} {a : Act} {Q : Exit → Act → World → Prop} {α : Type}
end
end Kd
namespace Kd
section
variable {P : Program} {ops : Array Oper} {rest : List Oper} {o : Oper} {a : Act} {Q : Exit → Act → World → Prop} {α : Type}
end
end Kd
theorem add_add (a : Addr) (i j : Nat) : (a.add i).add j = a.add (i + j) := by
  unfold Addr.add
  by_cases h1 : i = 0 <;> by_cases h2 : j = 0 <;> simp [h1, h2, Nat.add_assoc]
namespace Kd
section
variable {α : Type} {k : Kd α} {w : World} {A : Option Addr} {xs : List α} {m c : Nat}
theorem C_drop (h : k.C w A xs.length xs) (hm : m ≤ xs.length) (hc : xs.length ≤ c) : k.C w (if c = m then A else A.map (·.add (m * k.sz))) (xs.drop m).length (xs.drop m) := by
  have hl : (xs.drop m).length = xs.length - m := List.length_drop
  refine ⟨rfl, by rw [hl]; have := h.2.1; omega, fun hp => ?_⟩
  rw [hl] at hp
  obtain ⟨ad, rfl, hcell⟩ := h.2.2 (by omega)
  rw [if_neg (by omega)]
  refine ⟨ad.add (m * k.sz), rfl, fun j p hj => ?_⟩
  rw [List.getElem?_drop] at hj
  obtain ⟨cs, h1, h2, h3⟩ := hcell (m + j) p hj
  refine ⟨cs, h1, h2, fun i u hu => ?_⟩
  rw [add_add, show m * k.sz + (j * k.sz + i) = (m + j) * k.sz + i by rw [Nat.add_mul]; omega]
  exact h3 i u hu
end
end Kd
section
variable {P : Program}
end
theorem below_size {w W : World} (h : Below w.heap.size w W) : w.heap.size ≤ W.heap.size := h.size
theorem below_step {w W w2 : World} (h : Below w.heap.size w W) (k : Below W.heap.size W w2) : Below w.heap.size w w2 := below_then h h.size k
theorem ReadsInt.nil (W : World) (k : IntKind) : ReadsInt W k none ([] : List Int).length [] := ⟨rfl, by simp, fun h => absurd h (Nat.lt_irrefl 0)⟩
theorem ReadsInt.drewN {W : World} {k : IntKind} {A : Option Addr} {n : Nat} {xs : List Int} (h : ReadsInt W k A n xs) (m : Nat) : ReadsInt (W.drewN m) k A n xs := h
theorem below_set {w W : World} {g j : Nat} {v : Value} (h : Below w.heap.size w W) (hg : w.heap.size ≤ g) : Below w.heap.size w (W.setCell ⟨g, j, none⟩ v) := h.setCell hg _
theorem keep_cell {w W : World} {g : Nat} (h : KeepBut w W g none) {a : Addr} {v : Value} (hc : w.cell? a = some v) (hne : a.block ≠ g) : W.cell? a = some v := by
  have := h.2 a.block (World.block_lt_of_cell? w a hc) hne (by simp)
  simpa [World.cell?, this] using hc
theorem add_block (a : Addr) (i : Nat) : (a.add i).block = a.block := by unfold Addr.add; split <;> rfl
theorem ReadsOf.nil {α : Type} (enc : α → Value) (d : α) (W : World) : ReadsOf enc d W none ([] : List α).length [] := ⟨rfl, by simp, fun h => absurd h (Nat.lt_irrefl 0)⟩
theorem ReadsOf.drewN {α : Type} {enc : α → Value} {d : α} {W : World} {A : Option Addr} {n : Nat} {xs : List α} (h : ReadsOf enc d W A n xs) (m : Nat) : ReadsOf enc d (W.drewN m) A n xs := h
theorem ReadsInt.keep {w W : World} {k : IntKind} {A : Option Addr} {n g : Nat} {xs : List Int} (h : ReadsInt w k A n xs) (hk : KeepBut w W g none) (hf : ∀ ad, A = some ad → 0 < n → ad.block ≠ g) : ReadsInt W k A n xs :=
  ⟨h.1, h.2.1, fun hn => by
    obtain ⟨ad, e, hc⟩ := h.2.2 hn
    exact ⟨ad, e, fun j hj => keep_cell hk (hc j hj) (by rw [add_block]; exact hf ad e hn)⟩⟩
theorem ReadsOf.keep {α : Type} {enc : α → Value} {d : α} {w W : World} {A : Option Addr} {n g : Nat} {xs : List α} (h : ReadsOf enc d w A n xs) (hk : KeepBut w W g none) (hf : ∀ ad, A = some ad → 0 < n → ad.block ≠ g) : ReadsOf enc d W A n xs :=
  ⟨h.1, h.2.1, fun hn => by
    obtain ⟨ad, e, hc⟩ := h.2.2 hn
    exact ⟨ad, e, fun j hj => keep_cell hk (hc j hj) (by rw [add_block]; exact hf ad e hn)⟩⟩
theorem blk_put {w : World} {g : Nat} {t : TypeId} {cs cs' : Array Value} (h : w.heap[g]? = some (.cells cs t (0, 0))) (i : Nat) (u : Value) (e : cs.setIfInBounds i u = cs') : (w.setCell ⟨g, i, none⟩ u).heap[g]? = some (.cells cs' t (0, 0)) := e ▸ blk_set h i u
theorem below_drew1 {base : Nat} {w W : World} (h : Below base w W) : Below base w W.drew := h.drew
namespace Kd
section
variable {α β : Type} {d : Kd α} {d' : Kd β} {e e' base base' n : Nat} {ok ok' : Nat → Prop} {w W w1 W1 : World} {v u : Value} {xs : List α} {ys : List β} {A : Option Addr} {c : Nat}
end
section
variable {α : Type} {enc : α → Value} {h1 : ∀ x, (enc x).oneCell' = true} {w W : World} {A : Option Addr} {n g : Nat} {xs : List α}
end
end Kd
namespace Kd
section
variable {α : Type} {d : Kd α} {e base g : Nat} {ok : Nat → Prop} {w w1 : World} {v : Value} {xs : List α} {o : Obj}
theorem freshB (hb : w.heap[g]? = some o) : ∀ k, w.heap.size ≤ k → k ≠ g := fun k hk => by have := blk_lt hb; omega
end
end Kd
section
variable {P : Program} {ops : Array Oper} {rest : List Oper} {o : Oper} {a : Act} {Q : Exit → Act → World → Prop}
theorem box_event {W : World} (hgd : o.guard = none) {N : Tmp} (_hd : o.dst = some N) {cs : Array Value} {t : TypeId}
    (hrun : (execOp a.eval o).run P W = .ok (.value (.pointer (some ⟨W.heap.size, 0, none⟩))) (W.alloc (.cells cs t (0, 0))))
    (h : ∀ g, g = W.heap.size → ∀ w1, w1.heap[g]? = some (.cells cs t (0, 0)) → Below W.heap.size W w1 → wpList P ops Q rest (a.put o.dst (.pointer (some ⟨g, 0, none⟩))) w1) : wpList P ops Q (o :: rest) a W :=
  Kd.event_run hgd hrun (h _ rfl _ (blk_new W _) (below_alloc (Below.refl _ _) _))
theorem Kd.R_append_row {α : Type} (enc : α → Value) (d : α) {h1 : ∀ x : α, (enc x).oneCell' = true} {w0 W : World} (base : Nat) (hgd : o.guard = none) (s x : Operand) (t e : TypeId) (z : Value) (bytes : Nat)
    (ho : o.op = .call { callee := .builtin .append, args := #[s, x], argTypes := #[t, t] })
    (ht : P.underlying t = some (.slice e)) (hinfo : (P.info? e).map (fun i => (i.zero, i.size, i.bytes)) = some (some z, 1, bytes)) (hz : z.cells.size = 1) (hb0 : 0 < bytes)
    (v : Value) (xs ys : List α) (A : Option Addr) (m c : Nat) (ok : Nat → Prop) (hs : a.eval s = v) (hx : a.eval x = .slice A m c) (hfresh : ∀ k, W.heap.size ≤ k → ok k)
    (HO : (Kd.scalar enc h1).R e W base ok v xs) (HR : (Kd.scalar enc h1).C W A m ys) (HB : Below base w0 W) (hbase : base ≤ W.heap.size) (hl : (xs.length + m) * bytes ≤ 140737488355328)
    (h : ∀ v1 w1, (Kd.scalar enc h1).R e w1 base ok v1 (xs ++ ys) → Below base w0 w1 → W.grownBy w1 v.ownBlock → (v1.ownBlock = v.ownBlock ∨ ∃ b, v1.ownBlock = some b ∧ W.heap.size ≤ b) → wpList P ops Q rest (a.put o.dst v1) w1) :
    wpList P ops Q (o :: rest) a W := by
  refine print_append_row_of (w0 := w0) enc d base hgd s x t e z bytes ho ht hinfo hz hb0 h1 v xs ys A m c hs hx (Kd.own_of_R HO) (Kd.reads_of_C (d := d) HR) HB hbase hl ?_
  intro v1 w1 hown hb hg hat
  refine h v1 w1 (Kd.R_of_own hown (fun k hk => ?_)) hb hg hat
  rcases hat with e1 | ⟨b, e1, hbb⟩
  · exact HO.1 k (by rw [← e1]; exact hk)
  · rw [e1] at hk
    injection hk with hk
    subst hk
    exact hfresh _ hbb
end
namespace Kd
section
variable {α : Type} {enc : α → Value} {h1 : ∀ x, (enc x).oneCell' = true} {e base g n cap : Nat} {ok : Nat → Prop} {W : World} {xs : List α}
end
end Kd
section
variable {P : Program} {ops : Array Oper} {rest : List Oper} {o : Oper} {a : Act} {Q : Exit → Act → World → Prop}
end
namespace Kd
section
variable {α : Type} {enc : α → Value} {h1 : ∀ x, (enc x).oneCell' = true} {e base g n cap : Nat} {ok : Nat → Prop} {W : World} {xs : List α}
end
end Kd
section
variable {P : Program} {ops : Array Oper} {rest : List Oper} {o : Oper} {a : Act} {Q : Exit → Act → World → Prop} {W : World}
theorem gate_dst {N : Tmp} (_hN : o.dst = some N) (h : wpList P ops Q (o :: rest) a W) : wpList P ops Q (o :: rest) a W := h
end
section
variable {P : Program} {ops : Array Oper} {o : Oper} {a : Act} {Q : Exit → Act → World → Prop} {Kc : Act → World → Prop}
namespace Kd
variable {α : Type}
end Kd
end
section
variable {P : Program} {tmps : Array Value} {w : World}
end
namespace Kd
section
variable {P : Program} {α : Type}
end
section
variable {P : Program} {ops : Array Oper} {rest : List Oper} {o : Oper} {a : Act} {Q : Exit → Act → World → Prop} {Kc : Act → World → Prop} {α : Type}
end
end Kd

end Go.Proofs.YtcdhhaedgohlgaaGreatDoorW.PrintWords
end

section
namespace Go.Proofs.YtcdhhaedgohlgaaGreatDoorW.PrintLast

section
variable {P : Program} {ops : Array Oper} {Q : Exit → Act → World → Prop} {md : Region.Mode} {S : World → Prop} {ds : List Nat}

def ListedClosed (md : Region.Mode) (ops : Array Oper) (listed : Array Bool) : Prop :=
  ∀ j oj, ops[j]? = some oj → listed.getD j false = true → ∀ e ∈ oj.after, Region.binds md e = true → listed.getD e.on false = true

theorem ListedClosed.set {listed : Array Bool} {i : Nat} (h : ListedClosed md ops listed) (hi : i ∈ Region.ready md ops listed) : ListedClosed md ops (listed.setIfInBounds i true) := by
  obtain ⟨_, oi, hoi, hall⟩ := mem_ready.1 hi
  intro j oj hj hl e he hb
  by_cases hij : i = j
  · subst hij
    have : oj = oi := Option.some.inj (hj.symm.trans hoi)
    subst this
    exact getD_set_true (hall e he hb)
  · rw [getD_set_ne false hij] at hl
    exact getD_set_true (h j oj hj hl e he hb)

/-- Whatever order is picked from here on, AND 'S' HOLDS BEHIND EVERY OPERATION THAT IS CARRIED OUT, those of ds apart. -/
def wpAnyLast (P : Program) (md : Region.Mode) (ops : Array Oper) (Q : Exit → Act → World → Prop) (S : World → Prop) (ds : List Nat) : Nat → Array Bool → Act → World → Prop
  | 0, listed, a, w => Region.ready md ops listed = [] ∧ Q .normal a w
  | fuel + 1, listed, a, w =>
    (Region.ready md ops listed = [] → Q .normal a w) ∧
    ∀ i ∈ Region.ready md ops listed, wpOp P ops Q i (fun a' w' => (i ∉ ds → S w → S w') ∧ wpAnyLast P md ops Q S ds fuel (listed.setIfInBounds i true) a' w') a w

end

section
variable {P : Program} {ops : Array Oper} {Q : Exit → Act → World → Prop} {md : Region.Mode} {S : World → Prop} {ds : List Nat}

def AllReadyL (P : Program) (md : Region.Mode) (ops : Array Oper) (Q : Exit → Act → World → Prop) (S : World → Prop) (ds : List Nat) (fuel : Nat) (listed : Array Bool) (a : Act) (w : World) (rs : List Nat) : Prop :=
  ∀ i ∈ rs, wpOp P ops Q i (fun a' w' => (i ∉ ds → S w → S w') ∧ wpAnyLast P md ops Q S ds fuel (listed.setIfInBounds i true) a' w') a w
theorem AllReadyL.nil {fuel : Nat} {listed : Array Bool} {a : Act} {w : World} : AllReadyL P md ops Q S ds fuel listed a w [] := fun _ h => by cases h
theorem AllReadyL.cons {fuel : Nat} {listed : Array Bool} {a : Act} {w : World} {i : Nat} {o : Oper} {rs : List Nat} (ho : ops[i]? = some o) (hd : i ∉ ds)
    (h : ∀ K' : Act → World → Prop, Shut (∀ a w, S w → (S w → wpAnyLast P md ops Q S ds fuel (listed.setIfInBounds i true) a w) → K' a w) → if Region.wanted o (yielded ops a.tmps) = true then Oper.wp P o a w K' Q else K' (a.put o.dst undef) w)
    (hs : AllReadyL P md ops Q S ds fuel listed a w rs) : AllReadyL P md ops Q S ds fuel listed a w (i :: rs) := fun j hj => by
  rcases List.mem_cons.1 hj with rfl | hj
  · exact wpOp_step ho (fun K' hK => h K' (fun a w hS hW => hK a w ⟨fun _ _ => hS, hW hS⟩))
  · exact hs j hj
theorem enters_ {f : FuncId} {fn : Func} (hf : P.funcs[f]? = some fn) (hname : (fn.name == "runtime.NumGoroutine") = false) (hb : fn.body.isSome = true) (args : Array Value) (w : World) : (callFunc f args).run P w = .ok (.enter f args) w := by
  have h1 : fn.name ≠ "runtime.NumGoroutine" := by simpa using hname
  obtain ⟨c, hc⟩ := Option.isSome_iff_exists.1 hb
  simp [callFunc, hf, h1, hc]
/-- A call in a plain region, as an arm of go_wp2_with ('hd' first: it fails at once at another operation). -/
theorem goesL_ {rest : List Oper} {oi : Oper} {a : Act} {w : World} (N : Option Tmp) (hd : oi.dst = N) (hg : oi.guard = none) {f : FuncId} {fn : Func} {as1 : Array Operand} {ts : Array TypeId} (hf : P.funcs[f]? = some fn) (hname : (fn.name == "runtime.NumGoroutine") = false) (hb : fn.body.isSome = true) (args : Array Value)
    (hop : oi.op = .call { callee := .value (.func f), args := as1, argTypes := ts }) (hargs : as1.map a.eval = args)
    (h : Calls P f args w fun e w' => ∃ v, e = .returned v ∧ wpList P ops Q rest (a.put N v) w') : wpList P ops Q (oi :: rest) a w := by
  refine wpList_plain hg fun K hK => ?_
  have he := enters_ hf hname hb args w
  have hrun : (execOp a.eval oi).run P w = .ok (.enter f args) w := by
    unfold execOp
    simp [hop, resolve, Deferred.ofValue, invoke, Act.eval, hargs, he]
  unfold Oper.wp
  rw [hrun, Oper.upon_enter]
  refine h.mono fun e w'' hh => ?_
  obtain ⟨v, rfl, hk⟩ := hh
  subst hd
  exact hK _ _ hk
theorem i64_w (n : Int) : IntKind.i64.wrap n = Go.RowKit.wrap64 n := by unfold Go.RowKit.wrap64; exact IntKind.wrap_i64 n
theorem i32_w (n : Int) : IntKind.i32.wrap n = Go.RowKit.wrap32 n := by unfold Go.RowKit.wrap32; exact IntKind.wrap_i32 n
end
end Go.Proofs.YtcdhhaedgohlgaaGreatDoorW.PrintLast
end

section
namespace Go.Proofs.YtcdhhaedgohlgaaGreatDoorW.PrintLast
open Go.Proofs.YtcdhhaedgohlgaaGreatDoorW.PrintWords (Aside0)
section
variable {md : Region.Mode} {ops : Array Oper} {T : Bool × List (List Nat × List Nat)} {l l' li lj lk : Array Bool} {ds : List Nat} {i j k : Nat}
theorem gd (l : Array Bool) (j : Nat) (b : Bool) : l.getD j b = l.toList.getD j b := by simp [Array.getD_eq_getD_getElem?, List.getD_eq_getElem?_getD]
end
end Go.Proofs.YtcdhhaedgohlgaaGreatDoorW.PrintLast
end

section
namespace Go.Proofs.YtcdhhaedgohlgaaGreatDoorW.PrintWords
open Go.RowKit
namespace Kd
/-- An element with its index: its blocks are those that f gives to it. -/
def tag {α : Type} (f : Nat → Nat) (d : Kd α) : Kd (α × Nat) where
  sz := d.sz
  E := d.E
  K := fun w x cs => d.K w x.1 cs
  M := fun w base ok x cs => d.M w base (fun k => ok k ∧ f k = x.2) x.1 cs
  K_len := fun h => d.K_len h
  K_one := fun h => d.K_one h
  K_below := fun hb h => d.K_below hb h
  K_of_M := fun h => d.K_of_M h
  M_mono := fun hok h => d.M_mono (fun k hk => ⟨hok k hk.1, hk.2⟩) h
  M_bound := fun h => d.M_mono (fun _ hk => ⟨⟨hk.1.1, hk.2⟩, hk.1.2⟩) (d.M_bound h)
  M_move := fun hm h => d.M_move (fun k hk => hm k hk.1) h
  M_lower := fun hb h => d.M_lower hb h
/-- The cells themselves. -/
def raw (sz : Nat) : Kd (List Value) where
  sz := sz
  E := []
  K := fun _ x cs => cs = x ∧ cs.length = sz ∧ ∀ u ∈ cs, u.oneCell' = true
  M := fun _ _ _ x cs => cs = x ∧ cs.length = sz ∧ ∀ u ∈ cs, u.oneCell' = true
  K_len := fun h => h.2.1
  K_one := fun h => h.2.2
  K_below := fun _ h => h
  K_of_M := fun h => h
  M_mono := fun _ h => h
  M_bound := fun h => h
  M_move := fun _ h => h
  M_lower := fun _ h => h
/-- A row of elements (type e) of the call's own, no two of which lead to one block. -/
def S {α : Type} (d : Kd α) (e : Nat) (w : World) (base : Nat) (ok : Nat → Prop) (v : Value) (xs : List α) : Prop := ∃ f, (tag f d).R e w base ok v xs.zipIdx
section
variable {α β : Type} {d : Kd α} {d' : Kd β} {e e' : Nat} {w w1 W : World} {base b : Nat} {ok ok' okv oku : Nat → Prop} {u v : Value} {xs : List α} {ys : List β}
theorem zip_at {xs : List α} {j : Nat} {p : α} (h : xs[j]? = some p) : xs.zipIdx[j]? = some (p, j) := by rw [List.getElem?_zipIdx, h, Nat.zero_add]; rfl
theorem S_R (h : S d e w base ok v xs) : d.R e w base ok v xs := by
  obtain ⟨f, h0, inner, ho, hr⟩ := h
  rw [List.length_zipIdx] at ho
  exact ⟨h0, inner, ho, by have := hr.1; rw [List.length_zipIdx] at this; exact this, fun j p hj => d.M_mono (fun _ hk => hk.1) (hr.2 j (p, j) (zip_at hj))⟩
/-- A row whose elements lead to nothing: its blocks are its own one. -/
theorem R_tight (hE : d.E = []) (h : d.R e w base ok v xs) : d.R e w base (fun k => some k = v.ownBlock) v xs := by
  obtain ⟨h0, inner, ho, hr⟩ := h
  refine ⟨fun k hk => hk.symm, inner, ho, hr.imp_ (fun p c hp => d.M_mono (fun k hk => ?_) (d.M_bound hp))⟩
  obtain ⟨_, _, _, q, hq, _⟩ := hk
  rw [hE] at hq
  cases hq
theorem S_nil (d : Kd α) (e : Nat) (w : World) (base : Nat) (ok : Nat → Prop) : S d e w base ok (.slice none 0 0) [] := ⟨fun _ => 0, R_nil _ _ _ _ _⟩
theorem S_mono (h : S d e w base ok v xs) (hok : ∀ k, ok k → ok' k) : S d e w base ok' v xs := by
  obtain ⟨f, h⟩ := h
  exact ⟨f, R_mono h hok⟩
theorem S_bound (h : S d e w base ok v xs) : S d e w base (fun k => ok k ∧ base ≤ k ∧ k < w.heap.size ∧ ∃ q, q ∈ e :: d.E ∧ ∃ cells, w.heap[k]? = some (.cells cells q (0, 0))) v xs := by
  obtain ⟨f, h⟩ := h
  exact ⟨f, R_bound h⟩
theorem S_move (h : S d e w base ok v xs) (hm : ∀ k, ok k → w1.heap[k]? = w.heap[k]?) : S d e w1 base ok v xs := by
  obtain ⟨f, h⟩ := h
  exact ⟨f, R_move h hm⟩
theorem S_lower {base' : Nat} (h : S d e w base ok v xs) (hb : base' ≤ base) : S d e w base' ok v xs := by
  obtain ⟨f, h⟩ := h
  exact ⟨f, R_lower h hb⟩
theorem S_step (h : S d e w base ok v xs) (hm : ∀ k, ok k → k < w.heap.size → w1.heap[k]? = w.heap[k]?) : S d e w1 base ok v xs :=
  S_mono (S_move (S_bound h) (fun k hk => hm k hk.1 hk.2.2.1)) (fun _ hk => hk.1)
theorem S_below (h : S d e w base ok v xs) (hb : Below w.heap.size w w1) : S d e w1 base ok v xs := S_step h (fun k _ hk => hb.block k hk)
theorem S_alloc (h : S d e w base ok v xs) (o : Obj) : S d e (w.alloc o) base ok v xs := S_below h (below_alloc (Below.refl _ _) o)
theorem S_drew (h : S d e w base ok v xs) : S d e w.drew base ok v xs := S_below h (below_drew (Below.refl _ _))
theorem S_drewN (h : S d e w base ok v xs) (m : Nat) : S d e (w.drewN m) base ok v xs := S_below h (pw_below_drewN (Below.refl _ _) m)
theorem S_far (h : S d e w base ok v xs) {p : Addr} (hok : ∀ k, ok k → k ≠ p.block) (u : Value) : S d e (w.setCell p u) base ok v xs := S_step h (fun k ho _ => Below.heap_setCell w p u k (hok k ho))
theorem S_base (h : S d e w base ok v xs) : ∀ k, v.ownBlock = some k → base ≤ k := R_base (S_R h)
theorem S_elder' (h : S d e W base ok u xs) (hbase : ∀ k, v.ownBlock = some k → W.heap.size ≤ k) (hb : Below W.heap.size W w1) : S d e w1 base (fun k => ok k ∧ some k ≠ v.ownBlock) u xs := by
  obtain ⟨f, h⟩ := h
  exact ⟨f, R_elder' h hbase hb⟩
/-- The owner may be told anew where nothing is said. -/
theorem R_tag {f f' : Nat → Nat} {zs : List (α × Nat)} (h : (tag f d).R e w base ok v zs) (hf : ∀ k, ok k → k < w.heap.size → f' k = f k) : (tag f' d).R e w base ok v zs := by
  obtain ⟨h0, inner, ho, hr⟩ := R_bound h
  exact ⟨fun k hk => (h0 k hk).1, inner, ho, hr.1, fun j p hj => d.M_mono (fun k hk => ⟨⟨hk.1.1.1, hk.1.2⟩, (hf k hk.1.1.1 hk.1.1.2.2.1).trans hk.2⟩) (hr.2 j p hj)⟩
end
section
variable {α β : Type} {d : Kd α} {d' : Kd β} {e e' g : Nat} {w w1 W : World} {base b : Nat} {ok ok' okv oku : Nat → Prop} {u v : Value} {xs : List α} {ys : List β}
theorem S_slice (h : S d e w base ok v xs) : ∃ A c, v = .slice A xs.length c := R_slice (S_R h)
theorem S_reads (h : S d e w base ok v xs) : ∃ A c, v = .slice A xs.length c ∧ xs.length ≤ c ∧ d.C w A xs.length xs := R_reads (S_R h)
theorem zip_snoc (xs : List α) (p : α) : (xs ++ [p]).zipIdx = xs.zipIdx ++ [(p, xs.length)] := by rw [List.zipIdx_append]; simp
end
section
open Classical in
/-- The next element's blocks are okp: none is one of v's (okv). -/
theorem S_tag {α : Type} {d : Kd α} {e base : Nat} {okv : Nat → Prop} {w : World} {v : Value} {xs : List α} (h : S d e w base okv v xs) (m : Nat) (okp : Nat → Prop) (hap : ∀ k, okp k → ¬ okv k) : ∃ f, (∀ k, okp k → f k = m) ∧ (tag f d).R e w base okv v xs.zipIdx := by
  obtain ⟨f, h⟩ := h
  exact ⟨fun k => if okp k then m else f k, fun k hk => if_pos hk, R_tag h (fun k hk _ => if_neg (fun h2 => hap k h2 hk))⟩
variable {P : Program} {ops : Array Oper} {rest : List Oper} {o : Oper} {a : Act} {Q : Exit → Act → World → Prop} {Kc : Act → World → Prop} {α : Type}
theorem S_append_step (d : Kd α) {w0 W : World} (base : Nat) (hw : Region.wanted o (yielded ops a.tmps) = true) (s x : Operand) (t e : TypeId) (z : Value) (bytes : Nat)
    (ho : o.op = .call { callee := .builtin .append, args := #[s, x], argTypes := #[t, t] })
    (ht : P.underlying t = some (.slice e)) (hinfo : (P.info? e).map (fun i => (i.zero, i.size, i.bytes)) = some (some z, d.sz, bytes)) (hz : z.cells.size = d.sz) (hs0 : 0 < d.sz) (hb0 : 0 < bytes)
    (v : Value) (xs : List α) (p : α) (cs : List Value) (ok okp : Nat → Prop) (hs : a.eval s = v) (hx : a.eval x = .slice (some ⟨W.heap.size, 0, none⟩) 1 1) (hp : d.M W base okp p cs) (hokp : ∀ k, okp k → ok k ∧ some k ≠ v.ownBlock) (hfresh : ∀ k, W.heap.size ≤ k → ok k)
    (HO : S d e W base (fun k => ok k ∧ ¬ okp k) v xs) (HB : Below base w0 W) (hbase : base ≤ W.heap.size) (hl : (xs.length + 1) * bytes ≤ 140737488355328)
    (h : ∀ v1 w1, S d e w1 base ok v1 (xs ++ [p]) → Below base w0 w1 → W.grownBy w1 v.ownBlock → (v1.ownBlock = v.ownBlock ∨ ∃ b, v1.ownBlock = some b ∧ W.heap.size ≤ b) → Kc (a.put o.dst v1) w1) :
    if Region.wanted o (yielded ops a.tmps) = true then Oper.wp P o a (W.alloc (.cells cs.toArray e)) Kc Q else Kc (a.put o.dst undef) (W.alloc (.cells cs.toArray e)) := by
  obtain ⟨f, hf, hR⟩ := S_tag HO xs.length okp (fun _ hk h2 => h2.2 hk)
  refine R_append_step (tag f d) base hw s x t e z bytes ho ht hinfo hz hs0 hb0 v xs.zipIdx (p, xs.length) cs ok okp hs hx (d.M_mono (fun k hk => ⟨hk, hf k hk⟩) hp) hokp hfresh (R_mono hR (fun _ hk => hk.1)) HB hbase (by rw [List.length_zipIdx]; exact hl) ?_
  intro v1 w1 hr
  rw [← zip_snoc] at hr
  exact h v1 w1 ⟨f, hr⟩
end
/-- Element i is these cells; the others are d's. -/
def gap {α : Type} (f : Nat → Nat) (d : Kd α) (i : Nat) (c : List Value) : Kd (α × Nat) where
  sz := d.sz
  E := d.E
  K := fun w x cs => (x.2 = i → cs = c ∧ cs.length = d.sz ∧ ∀ u ∈ cs, u.oneCell' = true) ∧ (x.2 ≠ i → d.K w x.1 cs)
  M := fun w base ok x cs => (x.2 = i → cs = c ∧ cs.length = d.sz ∧ ∀ u ∈ cs, u.oneCell' = true) ∧ (x.2 ≠ i → d.M w base (fun k => ok k ∧ f k = x.2) x.1 cs)
  K_len := fun {w x cs} h => by
    by_cases hx : x.2 = i
    · exact (h.1 hx).2.1
    · exact d.K_len (h.2 hx)
  K_one := fun {w x cs} h => by
    by_cases hx : x.2 = i
    · exact (h.1 hx).2.2
    · exact d.K_one (h.2 hx)
  K_below := fun hb h => ⟨h.1, fun hx => d.K_below hb (h.2 hx)⟩
  K_of_M := fun h => ⟨h.1, fun hx => d.K_of_M (h.2 hx)⟩
  M_mono := fun hok h => ⟨h.1, fun hx => d.M_mono (fun k hk => ⟨hok k hk.1, hk.2⟩) (h.2 hx)⟩
  M_bound := fun h => ⟨h.1, fun hx => d.M_mono (fun _ hk => ⟨⟨hk.1.1, hk.2⟩, hk.1.2⟩) (d.M_bound (h.2 hx))⟩
  M_move := fun hm h => ⟨h.1, fun hx => d.M_move (fun k hk => hm k hk.1) (h.2 hx)⟩
  M_lower := fun hb h => ⟨h.1, fun hx => d.M_lower hb (h.2 hx)⟩
def H {α : Type} (d : Kd α) (e : Nat) (w : World) (base : Nat) (ok : Nat → Prop) (v : Value) (xs : List α) (i : Int) (oki : Nat → Prop) (c : List Value) : Prop :=
  (∀ k, oki k → ok k) ∧ ∃ f, (gap f d i.toNat c).R e w base (fun k => ok k ∧ ¬ oki k) v xs.zipIdx
section
variable {α β : Type} {d : Kd α} {e e' g n cap : Nat} {w w1 W : World} {base : Nat} {ok ok' oki okp : Nat → Prop} {u v : Value} {xs : List α} {i : Int} {c : List Value}
end
section
variable {P : Program} {ops : Array Oper} {rest : List Oper} {o : Oper} {a : Act} {Q : Exit → Act → World → Prop} {α : Type}
end
end Kd
end Go.Proofs.YtcdhhaedgohlgaaGreatDoorW.PrintWords
end

section
namespace Go.Proofs.YtcdhhaedgohlgaaGreatDoorW.PrintWords
open Go.RowKit
namespace Kd
/-- What a kind reads lies in the blocks: nothing else of the world is looked at. -/
structure Heap {α : Type} (d : Kd α) : Prop where
  K : ∀ {w w1 : World} {x : α} {cs : List Value}, (∀ k, k < w.heap.size → w1.heap[k]? = w.heap[k]?) → d.K w x cs → d.K w1 x cs
theorem cell_heap {w w1 : World} (hb : ∀ k, k < w.heap.size → w1.heap[k]? = w.heap[k]?) {a : Addr} {v : Value} (h : w.cell? a = some v) : w1.cell? a = some v := by
  have := hb a.block (World.block_lt_of_cell? w a h)
  simpa [World.cell?, this] using h
theorem Heap.C {α : Type} {d : Kd α} (hd : Heap d) {w w1 : World} {A : Option Addr} {n : Nat} {xs : List α} (hb : ∀ k, k < w.heap.size → w1.heap[k]? = w.heap[k]?) (h : d.C w A n xs) : d.C w1 A n xs :=
  ⟨h.1, h.2.1, fun hn => by
    obtain ⟨ad, e, hc⟩ := h.2.2 hn
    refine ⟨ad, e, fun j p hj => ?_⟩
    obtain ⟨c, hs, hr, hcell⟩ := hc j p hj
    exact ⟨c, hs, hd.K hb hr, fun i u hu => cell_heap hb (hcell i u hu)⟩⟩
section
variable {α : Type} {d : Kd α} {e base g n c : Nat} {ok : Nat → Prop} {w w0 W : World} {A : Option Addr} {xs : List α}
end
end Kd
end Go.Proofs.YtcdhhaedgohlgaaGreatDoorW.PrintWords
end

section
namespace Go.Proofs.YtcdhhaedgohlgaaGreatDoorW.PrintWords
open Go.RowKit
def Kept (w W : World) (S : Nat → Prop) : Prop := w.heap.size ≤ W.heap.size ∧ ∀ i, i < w.heap.size → ¬ S i → W.heap[i]? = w.heap[i]?
section
variable {w W W2 : World} {S S2 S' : Nat → Prop}
theorem Kept.refl (w : World) (S : Nat → Prop) : Kept w w S := ⟨Nat.le_refl _, fun _ _ _ => rfl⟩
theorem Kept.of_below (h : Below w.heap.size w W) (S : Nat → Prop) : Kept w W S := ⟨h.size, fun i hi _ => h.block i hi⟩
theorem Kept.mono (h : Kept w W S) (hs : ∀ k, S k → S' k) : Kept w W S' := ⟨h.1, fun i hi hn => h.2 i hi (fun hk => hn (hs i hk))⟩
theorem Kept.then_ (h : Kept w W S) (k : Kept W W2 S2) (hs : ∀ k, S2 k → S k ∨ w.heap.size ≤ k) : Kept w W2 S :=
  ⟨Nat.le_trans h.1 k.1, fun i hi hn => (k.2 i (Nat.lt_of_lt_of_le hi h.1) (fun h2 => (hs i h2).elim hn (fun h3 => by omega))).trans (h.2 i hi hn)⟩
theorem Kept.below (h : Kept w W S) (hb : Below W.heap.size W W2) : Kept w W2 S := h.then_ (Kept.of_below hb (fun _ => False)) (fun _ hk => hk.elim)
theorem Kept.alloc (h : Kept w W S) (o : Obj) : Kept w (W.alloc o) S := h.below (below_alloc (Below.refl _ _) o)
theorem Kept.drew (h : Kept w W S) : Kept w W.drew S := h
theorem Kept.drewN (h : Kept w W S) (m : Nat) : Kept w (W.drewN m) S := h
theorem Kept.setCell (h : Kept w W S) {p : Addr} (hp : S p.block ∨ w.heap.size ≤ p.block) (u : Value) : Kept w (W.setCell p u) S :=
  h.then_ (S2 := fun k => k = p.block) ⟨by simp [World.setCell], fun i _ hn => Below.heap_setCell W p u i hn⟩ (fun k hk => by rw [hk]; exact hp)
/-- Beside a state: what was written is new since. -/
theorem Kept.keep {g : Nat} (h : KeepBut w W g none) (k : Kept W W2 S2) (hs : ∀ k, S2 k → w.heap.size ≤ k) : KeepBut w W2 g none :=
  ⟨Nat.le_trans h.1 k.1, fun i hi hg hr => (k.2 i (Nat.lt_of_lt_of_le hi h.1) (fun h2 => by have := hs i h2; omega)).trans (h.2 i hi hg hr)⟩
end
namespace Kd
section
variable {α : Type} {d : Kd α} {e base n c : Nat} {ok oki S S2 : Nat → Prop} {w w0 W W1 W2 : World} {v : Value} {A : Option Addr} {xs : List α} {i : Int} {cs : List Value}
end
end Kd
end Go.Proofs.YtcdhhaedgohlgaaGreatDoorW.PrintWords
end

section
namespace Go.Proofs.YtcdhhaedgohlgaaGreatDoorW.PrintWords
open Go.RowKit
/-- P holds in W and in every world that has W's blocks of ok. -/
def Foot (P : World → Prop) (W : World) (ok : Nat → Prop) : Prop := ∀ W' : World, (∀ k, ok k → k < W.heap.size → W'.heap[k]? = W.heap[k]?) → P W'
theorem heap_lt {W W1 : World} {k : Nat} (h : W1.heap[k]? = W.heap[k]?) (hlt : k < W.heap.size) : k < W1.heap.size := by
  rw [Array.getElem?_eq_getElem hlt] at h
  exact (Array.getElem?_eq_some_iff.1 h).1
namespace Foot
variable {P Q : World → Prop} {W W1 : World} {ok ok' : Nat → Prop}
theorem now (h : Foot P W ok) : P W := h W (fun _ _ _ => rfl)
theorem mono (h : Foot P W ok) (hok : ∀ k, ok k → ok' k) : Foot P W ok' := fun W' hW => h W' (fun k hk hlt => hW k (hok k hk) hlt)
theorem bound (h : Foot P W ok) : Foot P W (fun k => ok k ∧ k < W.heap.size) := fun W' hW => h W' (fun k hk hlt => hW k ⟨hk, hlt⟩ hlt)
theorem step (h : Foot P W ok) (hm : ∀ k, ok k → k < W.heap.size → W1.heap[k]? = W.heap[k]?) : Foot P W1 ok := fun W' hW => h W' (fun k hk hlt => (hW k hk (heap_lt (hm k hk hlt) hlt)).trans (hm k hk hlt))
theorem imp (h : Foot P W ok) (hi : ∀ W', P W' → Q W') : Foot Q W ok := fun W' hW => hi W' (h W' hW)
/-- Moved, and still elder than what is new since W. -/
theorem old (h : Foot P W ok) (hb : Below W.heap.size W W1) : Foot P W1 (fun k => ok k ∧ k < W.heap.size) := (h.bound).step (fun k _ hlt => hb.block k hlt)
end Foot
namespace Kd
/-- A row that is only read: what it leads to lies in ok. -/
def F {α : Type} (d : Kd α) (W : World) (ok : Nat → Prop) (A : Option Addr) (n : Nat) (xs : List α) : Prop := Foot (fun W => d.C W A n xs) W ok
/-- An element's cells: what they lead to lies in ok. -/
def FK {α : Type} (d : Kd α) (W : World) (ok : Nat → Prop) (x : α) (c : List Value) : Prop := Foot (fun W => d.K W x c) W ok
section
variable {α β : Type} {d : Kd α} {e base n n' cc g N : Nat} {ok ok' okp S : Nat → Prop} {w w0 w1 W W1 : World} {A A' : Option Addr} {u v v1 : Value} {xs : List α} {xs' : List β} {d' : Kd β} {x : α} {c : List Value}
theorem F_now (h : F d W ok A n xs) : d.C W A n xs := Foot.now h
theorem F_mono (h : F d W ok A n xs) (hok : ∀ k, ok k → ok' k) : F d W ok' A n xs := Foot.mono h hok
theorem F_step (h : F d W ok A n xs) (hm : ∀ k, ok k → k < W.heap.size → W1.heap[k]? = W.heap[k]?) : F d W1 ok A n xs := Foot.step h hm
theorem F_imp (h : F d W ok A n xs) (hi : ∀ W', d.C W' A n xs → d'.C W' A' n' xs') : F d' W ok A' n' xs' := Foot.imp h hi
theorem F_below (h : F d W ok A n xs) (hb : Below W.heap.size W W1) : F d W1 ok A n xs := F_step h (fun k _ hlt => hb.block k hlt)
theorem F_alloc (h : F d W ok A n xs) (o : Obj) : F d (W.alloc o) ok A n xs := F_below h (below_alloc (Below.refl _ _) o)
theorem F_drew (h : F d W ok A n xs) : F d W.drew ok A n xs := F_below h (below_drew (Below.refl _ _))
theorem F_drewN (h : F d W ok A n xs) (m : Nat) : F d (W.drewN m) ok A n xs := F_below h (pw_below_drewN (Below.refl _ _) m)
theorem R_F (h : d.R e W base ok (.slice A n cc) xs) : F d W ok A n xs := fun W' hW => by
  have h2 := R_reads' (R_step h hW)
  rw [h2.1]
  exact h2.2.2
/-- The same of an element's cells. -/
theorem FK_now (h : FK d W ok x c) : d.K W x c := Foot.now h
theorem FK_mono (h : FK d W ok x c) (hok : ∀ k, ok k → ok' k) : FK d W ok' x c := Foot.mono h hok
theorem FK_bound (h : FK d W ok x c) : FK d W (fun k => ok k ∧ k < W.heap.size) x c := Foot.bound h
theorem FK_step (h : FK d W ok x c) (hm : ∀ k, ok k → k < W.heap.size → W1.heap[k]? = W.heap[k]?) : FK d W1 ok x c := Foot.step h hm
theorem FK_of_M (h : d.M W base ok x c) : FK d W ok x c := fun _ hW => d.K_of_M (M_step h hW)
end
end Kd
end Go.Proofs.YtcdhhaedgohlgaaGreatDoorW.PrintWords
end

section
namespace Go.Proofs.YtcdhhaedgohlgaaGreatDoorW.PrintWords
open Go.RowKit
namespace Kd
/-- The cells one behind the other, element by element. -/
def chunks (sz : Nat) (n : Nat) (inner : List Value) : List (List Value) := (List.range n).map fun j => (inner.drop (j * sz)).take sz
theorem chunks_length (sz n : Nat) (inner : List Value) : (chunks sz n inner).length = n := by simp [chunks]
theorem chunks_at {sz n : Nat} {inner : List Value} {j : Nat} (hj : j < n) : (chunks sz n inner)[j]? = some ((inner.drop (j * sz)).take sz) := by simp [chunks, hj]
theorem chunks_get {sz n : Nat} {inner : List Value} {j : Nat} {c : List Value} (h : (chunks sz n inner)[j]? = some c) : c = (inner.drop (j * sz)).take sz := by
  have hj : j < n := by have := (List.getElem?_eq_some_iff.1 h).1; rwa [chunks_length] at this
  rw [chunks_at hj] at h
  injection h with h
  exact h.symm
theorem reps_raw {α : Type} {Rr : α → List Value → Prop} {sz : Nat} {xs : List α} {inner : List Value} (h : Reps Rr sz xs inner) (hR : ∀ x c, Rr x c → c.length = sz ∧ ∀ u ∈ c, u.oneCell' = true) : Reps (fun x cs => cs = x ∧ cs.length = sz ∧ ∀ u ∈ cs, u.oneCell' = true) sz (chunks sz xs.length inner) inner := by
  refine ⟨by rw [chunks_length]; exact h.1, fun j p hj => ?_⟩
  have hjl : j < xs.length := by have := (List.getElem?_eq_some_iff.1 hj).1; rwa [chunks_length] at this
  have hp := chunks_get hj
  exact ⟨hp.symm, hR _ _ (h.2 j _ (List.getElem?_eq_getElem hjl))⟩
section
variable {α : Type} {d : Kd α} {e base n cc g : Nat} {ok ok' okp S : Nat → Prop} {w w1 W W1 : World} {A : Option Addr} {u v v1 : Value} {xs : List α} {x : α} {c : List Value}
/-- A row of elements (type e) of the call's own; what the elements lead to is only read, and is not this row. -/
def N {α : Type} (d : Kd α) (e : Nat) (w : World) (base : Nat) (ok : Nat → Prop) (v : Value) (xs : List α) : Prop :=
  (∀ k, v.ownBlock = some k → ok k) ∧ ∃ rows : List (List Value), rows.length = xs.length ∧ (raw d.sz).R e w base (fun k => some k = v.ownBlock) v rows ∧ ∀ (j : Nat) (x : α) (c : List Value), xs[j]? = some x → rows[j]? = some c → FK d w (fun k => ok k ∧ some k ≠ v.ownBlock) x c
theorem raw_tight {sz : Nat} {rows : List (List Value)} (h : (raw sz).R e w base ok v rows) : (raw sz).R e w base (fun k => some k = v.ownBlock) v rows := R_tight rfl h
theorem R_N (h : d.R e w base ok v xs) : N d e w base ok v xs := by
  obtain ⟨h0, inner, ho, hr⟩ := h
  refine ⟨h0, chunks d.sz xs.length inner, chunks_length _ _ _, ⟨fun k hk => hk.symm, inner, by rw [chunks_length]; exact ho, reps_raw hr (fun x c hp => ⟨d.K_len (d.K_of_M hp), d.K_one (d.K_of_M hp)⟩)⟩, fun j x c hx hc => ?_⟩
  rw [chunks_get hc]
  exact FK_of_M (hr.2 j x hx)
theorem S_N (h : Kd.S d e w base ok v xs) : N d e w base ok v xs := R_N (S_R h)
theorem N_mono (h : N d e w base ok v xs) (hok : ∀ k, ok k → ok' k) : N d e w base ok' v xs := by
  obtain ⟨h0, rows, hl, hR, hf⟩ := h
  exact ⟨fun k hk => hok k (h0 k hk), rows, hl, hR, fun j x c hx hc => FK_mono (hf j x c hx hc) (fun k hk => ⟨hok k hk.1, hk.2⟩)⟩
theorem N_lt (h : N d e w base ok v xs) : ∀ k, v.ownBlock = some k → k < w.heap.size := by
  obtain ⟨_, rows, _, hR, _⟩ := h
  exact R_lt hR
theorem N_bound (h : N d e w base ok v xs) : N d e w base (fun k => ok k ∧ k < w.heap.size) v xs := by
  have hlt := N_lt h
  obtain ⟨h0, rows, hl, hR, hf⟩ := h
  exact ⟨fun k hk => ⟨h0 k hk, hlt k hk⟩, rows, hl, hR, fun j x c hx hc => FK_mono (FK_bound (hf j x c hx hc)) (fun k hk => ⟨⟨hk.1.1, hk.2⟩, hk.1.2⟩)⟩
theorem N_lower {base' : Nat} (h : N d e w base ok v xs) (hb : base' ≤ base) : N d e w base' ok v xs := by
  obtain ⟨h0, rows, hl, hR, hf⟩ := h
  exact ⟨h0, rows, hl, R_lower hR hb, hf⟩
theorem N_step (h : N d e w base ok v xs) (hm : ∀ k, ok k → k < w.heap.size → w1.heap[k]? = w.heap[k]?) : N d e w1 base ok v xs := by
  obtain ⟨h0, rows, hl, hR, hf⟩ := h
  exact ⟨h0, rows, hl, R_step hR (fun k hk hlt => hm k (h0 k hk.symm) hlt), fun j x c hx hc => FK_step (hf j x c hx hc) (fun k hk hlt => hm k hk.1 hlt)⟩
theorem N_below (h : N d e w base ok v xs) (hb : Below w.heap.size w w1) : N d e w1 base ok v xs := N_step h (fun k _ hk => hb.block k hk)
theorem N_alloc (h : N d e w base ok v xs) (o : Obj) : N d e (w.alloc o) base ok v xs := N_below h (below_alloc (Below.refl _ _) o)
theorem N_drew (h : N d e w base ok v xs) : N d e w.drew base ok v xs := N_below h (below_drew (Below.refl _ _))
theorem N_drewN (h : N d e w base ok v xs) (m : Nat) : N d e (w.drewN m) base ok v xs := N_below h (pw_below_drewN (Below.refl _ _) m)
theorem N_far (h : N d e w base ok v xs) {p : Addr} (hok : ∀ k, ok k → k ≠ p.block) (u : Value) : N d e (w.setCell p u) base ok v xs := N_step h (fun k ho _ => Below.heap_setCell w p u k (hok k ho))
theorem N_elder' (h : N d e W base ok v xs) (hbase : ∀ k, u.ownBlock = some k → W.heap.size ≤ k) (hb : Below W.heap.size W w1) : N d e w1 base (fun k => ok k ∧ some k ≠ u.ownBlock) v xs :=
  N_mono (N_below (N_bound h) hb) (fun k hk => ⟨hk.1, fun he => by have := hbase k he.symm; have := hk.2; omega⟩)
theorem N_elderB (h : N d e w base ok v xs) (a : Nat) (ha : w.heap.size ≤ a) : N d e w base (fun k => ok k ∧ k ≠ a) v xs := N_mono (N_bound h) (fun k hk => ⟨hk.1, by have := hk.2; omega⟩)
theorem N_slice (h : N d e w base ok v xs) : ∃ A c, v = .slice A xs.length c := by
  obtain ⟨_, rows, hl, hR, _⟩ := h
  obtain ⟨A, c, he⟩ := R_slice hR
  exact ⟨A, c, by rw [he, hl]⟩
theorem N_reads' {n c : Nat} (h : N d e w base ok (.slice A n c) xs) : n = xs.length ∧ n ≤ c ∧ d.C w A xs.length xs := by
  obtain ⟨_, rows, hl, hR, hf⟩ := h
  obtain ⟨hn, hc, hC⟩ := R_reads' hR
  refine ⟨by omega, hc, ?_⟩
  rw [hl] at hC
  refine ⟨rfl, hC.2.1, fun hp => ?_⟩
  obtain ⟨ad, he, hcell⟩ := hC.2.2 hp
  refine ⟨ad, he, fun j p hj => ?_⟩
  have hjl : j < rows.length := by have := (List.getElem?_eq_some_iff.1 hj).1; omega
  obtain ⟨c', hcl, hK, hcc⟩ := hcell j _ (List.getElem?_eq_getElem hjl)
  have hk := FK_now (hf j p _ hj (List.getElem?_eq_getElem hjl))
  refine ⟨c', hcl, ?_, hcc⟩
  rw [show c' = rows[j] from hK.1]
  exact hk
end
end Kd
end Go.Proofs.YtcdhhaedgohlgaaGreatDoorW.PrintWords
end

section
namespace Go.Proofs.YtcdhhaedgohlgaaGreatDoorW.PrintWords
/-- One cell an element. -/
theorem Reps.one {α : Type} {R : α → List Value → Prop} {ps : List α} {cs : List Value} {p : α} {v : Value} (hp : R p [v]) (h : Reps R 1 ps cs) : Reps R 1 (p :: ps) (v :: cs) := by
  refine ⟨by simp [h.1], fun j q hq => ?_⟩
  cases j with
  | zero =>
    simp only [List.getElem?_cons_zero, Option.some.injEq] at hq
    subst hq
    simpa using hp
  | succ j =>
    simp only [List.getElem?_cons_succ] at hq
    have h1 := h.2 j q hq
    simpa [Nat.mul_one] using h1
/-- More cells an element: told apart by the cells' list. -/
theorem Reps.front {α : Type} {R : α → List Value → Prop} {size : Nat} {ps : List α} {cs c all : List Value} {p : α} (hp : R p c) (hc : c.length = size) (h : Reps R size ps cs) (ha : c ++ cs = all) : Reps R size (p :: ps) all := by
  subst ha
  refine ⟨by rw [List.length_append, hc, h.1, List.length_cons, Nat.succ_mul, Nat.add_comm], fun j q hq => ?_⟩
  cases j with
  | zero =>
    simp only [List.getElem?_cons_zero, Option.some.injEq] at hq
    subst hq
    rw [Nat.zero_mul, List.drop_zero, List.take_append_of_le_length (by omega), List.take_of_length_le (by omega)]
    exact hp
  | succ j =>
    simp only [List.getElem?_cons_succ] at hq
    have h1 := h.2 j q hq
    rw [Nat.succ_mul, List.drop_append, List.drop_of_length_le (by rw [hc]; exact Nat.le_add_left _ _), List.nil_append, hc, Nat.add_sub_cancel]
    exact h1
theorem Reps.c2 {α : Type} {R : α → List Value → Prop} {ps : List α} {cs : List Value} {p : α} {va vb : Value} (hp : R p [va, vb]) (h : Reps R 2 ps cs) : Reps R 2 (p :: ps) (va :: vb :: cs) := Reps.front hp rfl h rfl
theorem Reps.c3 {α : Type} {R : α → List Value → Prop} {ps : List α} {cs : List Value} {p : α} {va vb vc : Value} (hp : R p [va, vb, vc]) (h : Reps R 3 ps cs) : Reps R 3 (p :: ps) (va :: vb :: vc :: cs) := Reps.front hp rfl h rfl
theorem Reps.c4 {α : Type} {R : α → List Value → Prop} {ps : List α} {cs : List Value} {p : α} {va vb vc vd : Value} (hp : R p [va, vb, vc, vd]) (h : Reps R 4 ps cs) : Reps R 4 (p :: ps) (va :: vb :: vc :: vd :: cs) := Reps.front hp rfl h rfl
theorem Reps.c5 {α : Type} {R : α → List Value → Prop} {ps : List α} {cs : List Value} {p : α} {va vb vc vd ve : Value} (hp : R p [va, vb, vc, vd, ve]) (h : Reps R 5 ps cs) : Reps R 5 (p :: ps) (va :: vb :: vc :: vd :: ve :: cs) := Reps.front hp rfl h rfl
theorem Reps.c6 {α : Type} {R : α → List Value → Prop} {ps : List α} {cs : List Value} {p : α} {va vb vc vd ve vf : Value} (hp : R p [va, vb, vc, vd, ve, vf]) (h : Reps R 6 ps cs) : Reps R 6 (p :: ps) (va :: vb :: vc :: vd :: ve :: vf :: cs) := Reps.front hp rfl h rfl
theorem Reps.c7 {α : Type} {R : α → List Value → Prop} {ps : List α} {cs : List Value} {p : α} {va vb vc vd ve vf vg : Value} (hp : R p [va, vb, vc, vd, ve, vf, vg]) (h : Reps R 7 ps cs) : Reps R 7 (p :: ps) (va :: vb :: vc :: vd :: ve :: vf :: vg :: cs) := Reps.front hp rfl h rfl
theorem Reps.c8 {α : Type} {R : α → List Value → Prop} {ps : List α} {cs : List Value} {p : α} {va vb vc vd ve vf vg vh : Value} (hp : R p [va, vb, vc, vd, ve, vf, vg, vh]) (h : Reps R 8 ps cs) : Reps R 8 (p :: ps) (va :: vb :: vc :: vd :: ve :: vf :: vg :: vh :: cs) := Reps.front hp rfl h rfl
theorem Reps.c9 {α : Type} {R : α → List Value → Prop} {ps : List α} {cs : List Value} {p : α} {va vb vc vd ve vf vg vh vi : Value} (hp : R p [va, vb, vc, vd, ve, vf, vg, vh, vi]) (h : Reps R 9 ps cs) : Reps R 9 (p :: ps) (va :: vb :: vc :: vd :: ve :: vf :: vg :: vh :: vi :: cs) := Reps.front hp rfl h rfl
theorem Reps.c10 {α : Type} {R : α → List Value → Prop} {ps : List α} {cs : List Value} {p : α} {va vb vc vd ve vf vg vh vi vj : Value} (hp : R p [va, vb, vc, vd, ve, vf, vg, vh, vi, vj]) (h : Reps R 10 ps cs) : Reps R 10 (p :: ps) (va :: vb :: vc :: vd :: ve :: vf :: vg :: vh :: vi :: vj :: cs) := Reps.front hp rfl h rfl
end Go.Proofs.YtcdhhaedgohlgaaGreatDoorW.PrintWords
end

section
namespace Go.Proofs.YtcdhhaedgohlgaaGreatDoorW.PrintLast
/-- Number i is listed too. -/
def up (b : Nat → Bool) (i : Nat) : Nat → Bool := fun j => if j = i then true else b j
section
variable {P : Program} {ops : Array Oper} {Q : Exit → Act → World → Prop} {md : Region.Mode} {T : Bool × List (List Nat × List Nat)} {B : List Nat} {O : List Nat} {b : Nat → Bool} {i j n : Nat}
end
end Go.Proofs.YtcdhhaedgohlgaaGreatDoorW.PrintLast
end

section
namespace Go.Proofs.YtcdhhaedgohlgaaGreatDoorW.PrintWords
open Go.RowKit
section
variable {P : Program} {ops : Array Oper} {rest : List Oper} {o : Oper} {a : Act} {Q : Exit → Act → World → Prop} {W : World}
/-- The gate takes the guard off (hw: 'by rfl', 'by kernel_rfl': the guard's slot holds what is wanted). -/
theorem gate_guard (hw : Region.wanted o (yielded ops a.tmps) = true) (h : wpList P ops Q ({ o with guard := none } :: rest) a W) : wpList P ops Q (o :: rest) a W := by
  have h1 : Region.wanted { o with guard := none } (yielded ops a.tmps) = true := rfl
  unfold wpList at h ⊢
  rw [if_pos h1] at h
  rw [if_pos hw]
  exact h
end
end Go.Proofs.YtcdhhaedgohlgaaGreatDoorW.PrintWords
end

section
namespace Go.Proofs.YtcdhhaedgohlgaaGreatDoorW.PrintWords
open Go.RowKit
namespace Kd
section
variable {α : Type} {d : Kd α} {e base n cap g : Nat} {ok ok' okp : Nat → Prop} {w w1 W : World} {v v1 : Value} {xs ys : List α}
/-- What was made just now. -/
theorem N_made {rows : List (List Value)} (hR : (raw d.sz).R e w1 base (fun k => k = W.heap.size) v1 rows) (hg : W.grownBy w1 none) (hat : ∃ b, v1.ownBlock = some b ∧ W.heap.size ≤ b) (hl : rows.length = xs.length) (hf : ∀ (j : Nat) (x : α) (c : List Value), xs[j]? = some x → rows[j]? = some c → FK d W okp x c)
    (hok : ∀ k, okp k → ok k) (hfresh : ok W.heap.size) : N d e w1 base ok v1 xs := by
  obtain ⟨b, hb, hle⟩ := hat
  refine ⟨fun k hk => by rw [hR.1 k hk]; exact hfresh, rows, hl, raw_tight hR, fun j x c hx hc => ?_⟩
  refine FK_mono (FK_step (FK_bound (hf j x c hx hc)) (fun k hk hlt => hg.block k hlt (by simp))) (fun k hk => ⟨hok k hk.1, fun he => ?_⟩)
  rw [hb] at he
  injection he with he
  have := hk.2
  omega
end
section
variable {P : Program} {ops : Array Oper} {rest : List Oper} {o : Oper} {a : Act} {Q : Exit → Act → World → Prop} {Kc : Act → World → Prop} {α : Type}
/-- A literal '[]T{..}': inner its cells; what the elements lead to is okp. -/
theorem N_lit (d : Kd α) {w0 W : World} (base e : Nat) (hgd : o.guard = none) {N' : Tmp} (_hd : o.dst = some N') {xs : List α} {inner : List Value} {ok okp : Nat → Prop}
    (hrun : (execOp a.eval o).run P W = .ok (.value (.slice (some ⟨W.heap.size, 0, none⟩) xs.length xs.length)) (W.alloc (.cells inner.toArray e)))
    (hrep : Reps (FK d W okp) d.sz xs inner) (hok : ∀ k, okp k → ok k) (hfresh : ok W.heap.size) (HB : Below base w0 W) (hbase : base ≤ W.heap.size) (hm : xs.length ≤ 9223372036854775807)
    (h : ∀ v1 w1, N d e w1 base ok v1 xs → Below base w0 w1 → W.grownBy w1 none → (∃ b, v1.ownBlock = some b ∧ W.heap.size ≤ b) → wpList P ops Q rest (a.put o.dst v1) w1) :
    wpList P ops Q (o :: rest) a W := by
  refine R_lit (raw d.sz) base e hgd _hd (xs := chunks d.sz xs.length inner) (inner := inner) (ok := fun k => k = W.heap.size) (okp := fun _ => False) (by rw [chunks_length]; exact hrun) (reps_raw hrep (fun y c hk => ⟨d.K_len (FK_now hk), d.K_one (FK_now hk)⟩)) (fun _ hk => hk.elim) rfl HB hbase (by rw [chunks_length]; exact hm) ?_
  intro v1 w1 hr hb hg hat
  exact h v1 w1 (N_made hr hg hat (chunks_length _ _ _) (fun j y c hy hc => by rw [chunks_get hc]; exact hrep.2 j y hy) hok hfresh) hb hg hat
end
end Kd
end Go.Proofs.YtcdhhaedgohlgaaGreatDoorW.PrintWords
end

section
namespace Go.Proofs.YtcdhhaedgohlgaaGreatDoorW.PrintMore
open Go.RowKit Go.Proofs.YtcdhhaedgohlgaaGreatDoorW.PrintWords
namespace Kd
open Go.Proofs.YtcdhhaedgohlgaaGreatDoorW.PrintWords.Kd
end Kd

namespace Kd
open Go.Proofs.YtcdhhaedgohlgaaGreatDoorW.PrintWords.Kd
section
variable {α : Type} {d : Kd α} {e base g N : Nat} {ok : Nat → Prop} {W w1 : World} {u v : Value} {xs : List α}
end
end Kd
/-- 'max' and 'min' of two whole numbers. -/
theorem max2_int (k k' : IntKind) (x y : Int) : Builtin.max2 (.int k x) (.int k' y) = pure (.int k (if x < y then y else x)) := by simp only [Builtin.max2, gt_iff_lt]
theorem min2_int (k k' : IntKind) (x y : Int) : Builtin.min2 (.int k x) (.int k' y) = pure (.int k (if y < x then y else x)) := by simp only [Builtin.min2]
theorem max_two (ats : Array TypeId) (ty : TypeId) (a b : Value) : Builtin.max_ ats ty #[a, b] = (Builtin.max2 a b >>= fun s => pure s) := by simp only [Builtin.max_, List.foldlM_cons, List.foldlM_nil]
theorem min_two (ats : Array TypeId) (ty : TypeId) (a b : Value) : Builtin.min_ ats ty #[a, b] = (Builtin.min2 a b >>= fun s => pure s) := by simp only [Builtin.min_, List.foldlM_cons, List.foldlM_nil]
theorem max_three (ats : Array TypeId) (ty : TypeId) (a b c : Value) : Builtin.max_ ats ty #[a, b, c] = (Builtin.max2 a b >>= fun s => Builtin.max2 s c >>= fun s => pure s) := by simp only [Builtin.max_, List.foldlM_cons, List.foldlM_nil]
theorem min_three (ats : Array TypeId) (ty : TypeId) (a b c : Value) : Builtin.min_ ats ty #[a, b, c] = (Builtin.min2 a b >>= fun s => Builtin.min2 s c >>= fun s => pure s) := by simp only [Builtin.min_, List.foldlM_cons, List.foldlM_nil]
theorem max_four (ats : Array TypeId) (ty : TypeId) (a b c d : Value) : Builtin.max_ ats ty #[a, b, c, d] = (Builtin.max2 a b >>= fun s => Builtin.max2 s c >>= fun s => Builtin.max2 s d >>= fun s => pure s) := by simp only [Builtin.max_, List.foldlM_cons, List.foldlM_nil]
theorem min_four (ats : Array TypeId) (ty : TypeId) (a b c d : Value) : Builtin.min_ ats ty #[a, b, c, d] = (Builtin.min2 a b >>= fun s => Builtin.min2 s c >>= fun s => Builtin.min2 s d >>= fun s => pure s) := by simp only [Builtin.min_, List.foldlM_cons, List.foldlM_nil]
end Go.Proofs.YtcdhhaedgohlgaaGreatDoorW.PrintMore
namespace Go.Proofs.YtcdhhaedgohlgaaGreatDoorW.PrintWords
open Go.RowKit
section
variable {P : Program} {ops : Array Oper} {rest : List Oper} {o : Oper} {a : Act} {Q : Exit → Act → World → Prop} {W : World}
/-- The operation is a call of this function (a cheap look ahead of a dear step). -/
theorem gate_callee {f : FuncId} {as1 : Array Operand} {ts : Array TypeId} (_ho : o.op = .call { callee := .value (.func f), args := as1, argTypes := ts }) (h : wpList P ops Q (o :: rest) a W) : wpList P ops Q (o :: rest) a W := h
end
/-- The greater of two whole numbers, as Go's max tells it. -/
def mx (a b : Int) : Int := if a < b then b else a
namespace Kd
section
variable {α : Type} {d : Kd α} {e base : Nat} {ok : Nat → Prop} {W w1 : World} {v : Value} {xs : List α}
end
section
variable {α : Type} {d : Kd α} {e base g n cap : Nat} {ok oki okp : Nat → Prop} {W : World} {xs : List α} {i : Int} {c : List Value}
end
section
variable {α : Type} {d : Kd α} {e base b b' g N : Nat} {ok ok1 : Nat → Prop} {W W2 w1 : World} {u v : Value} {xs ys : List α} {S : Nat → Prop}
end
end Kd
end Go.Proofs.YtcdhhaedgohlgaaGreatDoorW.PrintWords
namespace Go.Proofs.YtcdhhaedgohlgaaGreatDoorW.PrintWords
open Go.RowKit
namespace Kd
/-- A row that is only read, told by its value: its form, its length, what it leads to (in ok). e and base say nothing; they make it as the others are. -/
def V {α : Type} (d : Kd α) (_e : Nat) (W : World) (_base : Nat) (ok : Nat → Prop) (v : Value) (xs : List α) : Prop := ∃ A c, v = .slice A xs.length c ∧ xs.length ≤ c ∧ F d W ok A xs.length xs
section
variable {α β : Type} {d : Kd α} {e base base' n m c g N' lo hi : Nat} {ok ok' S : Nat → Prop} {w W w1 : World} {A : Option Addr} {ad : Addr} {u v v1 : Value} {xs : List α}
theorem V_map (h : V d e W base ok v xs) (hF : ∀ A, F d W ok A xs.length xs → F d w1 ok' A xs.length xs) : V d e w1 base' ok' v xs := by
  obtain ⟨A, c, hv, hl, hf⟩ := h
  exact ⟨A, c, hv, hl, hF A hf⟩
theorem V_mk (hl : xs.length ≤ c) (hf : F d W ok A xs.length xs) : V d e W base ok (.slice A xs.length c) xs := ⟨A, c, rfl, hl, hf⟩
theorem V_slice (h : V d e W base ok v xs) : ∃ A c, v = .slice A xs.length c := by
  obtain ⟨A, c, hv, _⟩ := h
  exact ⟨A, c, hv⟩
theorem V_at (h : V d e W base ok (.slice A n c) xs) : n = xs.length ∧ n ≤ c ∧ F d W ok A xs.length xs := by
  obtain ⟨A', c', hv, hl, hf⟩ := h
  injection hv with ha hn hc
  subst ha; subst hc
  exact ⟨hn, by rw [hn]; exact hl, hf⟩
theorem V_reads' (h : V d e W base ok (.slice A n c) xs) : n = xs.length ∧ n ≤ c ∧ d.C W A xs.length xs := ⟨(V_at h).1, (V_at h).2.1, F_now (V_at h).2.2⟩
theorem V_mono (h : V d e W base ok v xs) (hok : ∀ k, ok k → ok' k) : V d e W base ok' v xs := V_map h (fun _ hf => F_mono hf hok)
theorem V_alloc (h : V d e W base ok v xs) (o : Obj) : V d e (W.alloc o) base ok v xs := V_map h (fun _ hf => F_alloc hf o)
theorem V_drew (h : V d e W base ok v xs) : V d e W.drew base ok v xs := V_map h (fun _ hf => F_drew hf)
theorem V_drewN (h : V d e W base ok v xs) (m : Nat) : V d e (W.drewN m) base ok v xs := V_map h (fun _ hf => F_drewN hf m)
theorem F_cut (h : F d W ok A xs.length xs) (hm : m ≤ xs.length) (hc : xs.length ≤ c) : F d W ok (if c = m then A else A.map (·.add (m * d.sz))) (xs.drop m).length (xs.drop m) := F_imp h (fun _ hC => C_drop hC hm hc)
theorem FK_slice_mk {l : List α} (hl : l.length ≤ c) (hf : F d W ok A l.length l) : FK (Kd.slice e d) W ok l [.slice A l.length c] := fun W' hW => ⟨A, c, rfl, hl, hf W' hW⟩
end
end Kd
end Go.Proofs.YtcdhhaedgohlgaaGreatDoorW.PrintWords
end

section
namespace Go.Proofs.YtcdhhaedgohlgaaGreatDoor.P
open Go.RowKit Go.Proofs.YtcdhhaedgohlgaaGreatDoorW.PrintWords Go.Proofs.YtcdhhaedgohlgaaGreatDoorW.PrintLast Go.Proofs.YtcdhhaedgohlgaaGreatDoorW.PrintMore
attribute [local go_sem] max2_int min2_int max_two min_two max_three min_three max_four min_four   -- for this text's walks alone
set_option linter.unusedVariables false
set_option linter.unusedSimpArgs false

def errW : Option Int → Value
  | none => .nilIface
  | some c => .iface 201 (.int .i64 c)
theorem errW_none : errW none = .nilIface := rfl
theorem errW_some (c : Int) : errW (some c) = .iface 201 (.int .i64 c) := rfl

theorem info3 : (Tryz.prog.info? 3).map (fun i => (i.zero, i.size, i.bytes)) = some (some (.int .i64 0), 1, 8) := by kernel_rfl
theorem info5 : (Tryz.prog.info? 5).map (fun i => (i.zero, i.size, i.bytes)) = some (some (.int .u8 0), 1, 1) := by kernel_rfl
theorem info25 : (Tryz.prog.info? 25).map (fun i => (i.zero, i.size, i.bytes)) = some (some (.slice none 0 0), 1, 24) := by kernel_rfl
def rd_L1 (xs : List (List Int)) (i : Int) : (List Int) := xs.getD i.toNat ([] : List Int)
theorem at_L1 {w : World} {A : Option Addr} {n : Nat} {xs : List (List Int)} (h : Kd.C (Kd.slice 3 (Kd.int .i64)) w A n xs) (i : Int) (h0 : 0 ≤ i) (h1 : i < n) : ∃ ad A0 c0, A = some ad ∧ w.cell? (ad.add i.toNat) = some (.slice A0 (rd_L1 xs i).length c0) ∧ (rd_L1 xs i).length ≤ c0 ∧ (Kd.int .i64).C w A0 (rd_L1 xs i).length (rd_L1 xs i) := by
  obtain ⟨ad, c, e, _, hK, hc0⟩ := Kd.C_get h ([] : List Int) i h0 h1
  have hc : ∀ j u, c[j]? = some u → w.cell? (ad.add (i.toNat * 1 + j)) = some u := hc0
  obtain ⟨A0, c0, rfl, l0, g0⟩ := hK
  exact ⟨ad, A0, c0, e, by have hq := hc 0 _ rfl; rwa [Nat.mul_one, Nat.add_zero] at hq, l0, g0⟩

structure S24 where
  f0 : Int
  f1 : (List (List Int))
def z24 : S24 := ⟨(0 : Int), ([] : List (List Int))⟩

structure S66 where
  f0 : Int
  f1 : (List Int)
def z66 : S66 := ⟨(0 : Int), ([] : List Int)⟩

end Go.Proofs.YtcdhhaedgohlgaaGreatDoor.P
end

section
namespace Go.Proofs.YtcdhhaedgohlgaaGreatDoor.P
open Go.RowKit Go.Proofs.YtcdhhaedgohlgaaGreatDoorW.PrintWords Go.Proofs.YtcdhhaedgohlgaaGreatDoorW.PrintLast Go.Proofs.YtcdhhaedgohlgaaGreatDoorW.PrintMore
set_option linter.unusedVariables false
set_option linter.unusedSimpArgs false

/-- The predicate value 'g' with the captured 'cb' answers 'p' at every element of l, in every later world. -/
def PredI (g : Nat) (cb : Array Value) (p : Int → Bool) (l : List Int) (w : World) : Prop :=
  ∀ (W : World) (x : Int), x ∈ l → Below w.heap.size w W → Calls Tryz.prog g (#[.int .i64 x] ++ cb) W fun e W' => e = .returned (.bool (p x)) ∧ Below W.heap.size W W'
/-- The same at slices of whole numbers. -/
def PredL (g : Nat) (cb : Array Value) (p : List Int → Bool) (l : List (List Int)) (w : World) : Prop :=
  ∀ (W : World) (x : List Int) (A : Option Addr) (c : Nat), x ∈ l → Below w.heap.size w W → x.length ≤ c → Kd.C (Kd.int .i64) W A x.length x →
    Calls Tryz.prog g (#[.slice A x.length c] ++ cb) W fun e W' => e = .returned (.bool (p x)) ∧ Below W.heap.size W W'
/-- The same at lines of a proof. -/
def PredT (g : Nat) (cb : Array Value) (p : S66 → Bool) (l : List S66) (w : World) : Prop :=
  ∀ (W : World) (x : S66) (A : Option Addr) (c : Nat), x ∈ l → Below w.heap.size w W → x.f1.length ≤ c → Kd.C (Kd.int .i64) W A x.f1.length x.f1 →
    Calls Tryz.prog g (#[.agg #[.int .i64 x.f0, .slice A x.f1.length c]] ++ cb) W fun e W' => e = .returned (.bool (p x)) ∧ Below W.heap.size W W'

theorem below_trans' {w W W' : World} (h : Below w.heap.size w W) (k : Below W.heap.size W W') : Below w.heap.size w W' := below_then h h.size k
theorem PredI.later {g : Nat} {cb : Array Value} {p : Int → Bool} {l : List Int} {w W : World} (h : PredI g cb p l w) (hb : Below w.heap.size w W) : PredI g cb p l W :=
  fun W' x hx hb' => h W' x hx (below_trans' hb hb')
theorem PredL.later {g : Nat} {cb : Array Value} {p : List Int → Bool} {l : List (List Int)} {w W : World} (h : PredL g cb p l w) (hb : Below w.heap.size w W) : PredL g cb p l W :=
  fun W' x A c hx hb' => h W' x A c hx (below_trans' hb hb')
theorem PredT.later {g : Nat} {cb : Array Value} {p : S66 → Bool} {l : List S66} {w W : World} (h : PredT g cb p l w) (hb : Below w.heap.size w W) : PredT g cb p l W :=
  fun W' x A c hx hb' => h W' x A c hx (below_trans' hb hb')

def idxF {α : Type} (p : α → Bool) (l : List α) : Int := if l.any p then (l.findIdx p : Int) else -1

theorem idxF_hit {α : Type} (p : α → Bool) (l : List α) (k : Nat) (hk : k < l.length) (h : p l[k] = true) (hb : ∀ j (hj : j < k), p (l[j]'(by omega)) = false) : idxF p l = k := by
  have ha : l.any p = true := List.any_eq_true.2 ⟨l[k], List.getElem_mem hk, h⟩
  have hf : l.findIdx p = k := (List.findIdx_eq hk).2 ⟨h, fun j hj => hb j hj⟩
  simp [idxF, ha, hf]

theorem idxF_miss {α : Type} (p : α → Bool) (l : List α) (hb : ∀ j (hj : j < l.length), p l[j] = false) : idxF p l = -1 := by
  have ha : l.any p = false := by
    rw [List.any_eq_false]
    intro x hx
    obtain ⟨j, hj, rfl⟩ := List.getElem_of_mem hx
    simp [hb j hj]
  simp [idxF, ha]

theorem idxF_nonneg {α : Type} (p : α → Bool) (l : List α) : decide (0 ≤ idxF p l) = l.any p := by
  unfold idxF
  cases l.any p <;> simp

set_option maxHeartbeats 1000000 in
theorem IndexFunc_int (g : Nat) (cb : Array Value) (p : Int → Bool) (eg : ∀ args w, (callFunc g args).run Tryz.prog w = .ok (.enter g args) w) (A0 : Option Addr) (c0 : Nat) (l0 : List Int) (w : World)
    (hr0 : Kd.C (Kd.int .i64) w A0 l0.length l0) (hc0 : l0.length ≤ c0) (hp : PredI g cb p l0 w) :
    Calls Tryz.prog 124 #[.slice A0 l0.length c0, .func (.func g) #[] cb] w fun e w' => e = .returned (.int .i64 (idxF p l0)) ∧ Below w.heap.size w w' := by
  have HR0 := Aside0.mk hr0
  have HP := Aside0.mk hp
  have hm : l0.length ≤ 9223372036854775807 := hr0.2.1
  clear hr0 hc0 hp
  go_enter Tryz.func124, Tryz.ntmps124
  go_wp2
  go_loopg [5, 8] l0.length (fun gg _ s8 wr => ∃ kk : Nat, kk ≤ l0.length ∧ l0.length - kk ≤ gg ∧ s8 = .int .i64 kk ∧ Aside0 (Below w.heap.size w wr) ∧ Aside0 (∀ j (hj : j < l0.length), j < kk → p l0[j] = false))
  case atStart => exact ⟨0, Nat.zero_le _, by omega, rfl, ⟨Below.refl _ _⟩, ⟨fun j _ hj => absurd hj (Nat.not_lt_zero _)⟩⟩
  case round =>
    obtain ⟨kk, hkk, hg, rfl, HB, HA⟩ := hrel
    by_cases hlt : kk < l0.length
    · have hltz : (kk : Int) < (l0.length : Int) := by omega
      obtain ⟨ad, e1, hx⟩ := Kd.at_int HR0.out kk (by omega) (by omega)
      cases e1
      replace hx := (HB.out.cell (World.block_lt_of_cell? w _ hx)).trans hx
      have hrd : rd l0 kk = l0[kk] := by simp [rd, hlt]
      rw [hrd, Int.toNat_natCast] at hx
      clear hrd
      have HC := Aside0.mk (fun (W : World) (hb : Below w.heap.size w W) => HP.out W l0[kk] (List.getElem_mem hlt) hb)
      cases hq : p l0[kk] with
      | true =>
        have HQ := Aside0.mk hq
        clear hq
        go_wp2_with (go_at_fn g; refine (HC.out _ HB.out).mono ?_; rintro e w' ⟨rfl, hb⟩; rw [HQ.out])
        go_ret
        refine ⟨?_, below_trans' HB.out (by assumption)⟩
        rw [idxF_hit p l0 kk hlt HQ.out (fun j hj => HA.out j (by omega) hj)]
        rfl
      | false =>
        have HQ := Aside0.mk hq
        clear hq
        go_wp2_with (go_at_fn g; refine (HC.out _ HB.out).mono ?_; rintro e w' ⟨rfl, hb⟩; rw [HQ.out]; have HB2 := Aside0.mk hb; clear hb)
        go_roundg (l0.length - (kk + 1))
        case measure => omega
        case rel =>
          rename_i HB2
          refine ⟨kk + 1, by omega, by omega, by go_num, ⟨below_trans' HB.out HB2.out⟩, ⟨fun j hj hj2 => ?_⟩⟩
          by_cases e : j = kk
          · subst e; exact HQ.out
          · exact HA.out j hj (by omega)
    · obtain rfl : kk = l0.length := by omega
      go_wp2
      go_ret
      refine ⟨?_, HB.out⟩
      rw [idxF_miss p l0 (fun j hj => HA.out j hj hj)]
      rfl

set_option maxHeartbeats 1000000 in
theorem ContainsFunc_int (g : Nat) (cb : Array Value) (p : Int → Bool) (eg : ∀ args w, (callFunc g args).run Tryz.prog w = .ok (.enter g args) w) (A0 : Option Addr) (c0 : Nat) (l0 : List Int) (w : World)
    (hr0 : Kd.C (Kd.int .i64) w A0 l0.length l0) (hc0 : l0.length ≤ c0) (hp : PredI g cb p l0 w) :
    Calls Tryz.prog 73 #[.slice A0 l0.length c0, .func (.func g) #[] cb] w fun e w' => e = .returned (.bool (l0.any p)) ∧ Below w.heap.size w w' := by
  have HI := Aside0.mk (IndexFunc_int g cb p eg A0 c0 l0 w hr0 hc0 hp)
  clear hr0 hc0 hp
  go_enter Tryz.func73, Tryz.ntmps73
  go_wp2_with (go_at_call 124; refine (HI.out).mono ?_; rintro e w' ⟨rfl, hb⟩; have HB := Aside0.mk hb; clear hb)
  go_ret
  refine ⟨?_, HB.out⟩
  rw [← idxF_nonneg p l0]
  rfl

set_option maxHeartbeats 1000000 in
theorem IndexFunc_list (g : Nat) (cb : Array Value) (p : List Int → Bool) (eg : ∀ args w, (callFunc g args).run Tryz.prog w = .ok (.enter g args) w) (A0 : Option Addr) (c0 : Nat) (l0 : List (List Int)) (w : World)
    (hr0 : Kd.C (Kd.slice 3 (Kd.int .i64)) w A0 l0.length l0) (hc0 : l0.length ≤ c0) (hp : PredL g cb p l0 w) :
    Calls Tryz.prog 114 #[.slice A0 l0.length c0, .func (.func g) #[] cb] w fun e w' => e = .returned (.int .i64 (idxF p l0)) ∧ Below w.heap.size w w' := by
  have HR0 := Aside0.mk hr0
  have HP := Aside0.mk hp
  have hm : l0.length ≤ 9223372036854775807 := hr0.2.1
  clear hr0 hc0 hp
  go_enter Tryz.func114, Tryz.ntmps114
  go_wp2
  go_loopg [5, 8] l0.length (fun gg _ s8 wr => ∃ kk : Nat, kk ≤ l0.length ∧ l0.length - kk ≤ gg ∧ s8 = .int .i64 kk ∧ Aside0 (Below w.heap.size w wr) ∧ Aside0 (∀ j (hj : j < l0.length), j < kk → p l0[j] = false))
  case atStart => exact ⟨0, Nat.zero_le _, by omega, rfl, ⟨Below.refl _ _⟩, ⟨fun j _ hj => absurd hj (Nat.not_lt_zero _)⟩⟩
  case round =>
    obtain ⟨kk, hkk, hg, rfl, HB, HA⟩ := hrel
    by_cases hlt : kk < l0.length
    · have hltz : (kk : Int) < (l0.length : Int) := by omega
      obtain ⟨ad, A1, c1, e1, hx, hl1, hK⟩ := at_L1 HR0.out kk (by omega) (by omega)
      cases e1
      replace hx := (HB.out.cell (World.block_lt_of_cell? w _ hx)).trans hx
      have hrd : rd_L1 l0 kk = l0[kk] := by simp [rd_L1, hlt]
      rw [hrd, Int.toNat_natCast] at hx
      rw [hrd] at hl1 hK
      clear hrd
      have HC := Aside0.mk (fun (W : World) (hb : Below w.heap.size w W) => HP.out W l0[kk] A1 c1 (List.getElem_mem hlt) hb hl1 (Kd.C_below hK hb))
      clear hl1 hK
      cases hq : p l0[kk] with
      | true =>
        have HQ := Aside0.mk hq
        clear hq
        go_wp2_with (go_at_fn g; refine (HC.out _ HB.out).mono ?_; rintro e w' ⟨rfl, hb⟩; rw [HQ.out])
        go_ret
        refine ⟨?_, below_trans' HB.out (by assumption)⟩
        rw [idxF_hit p l0 kk hlt HQ.out (fun j hj => HA.out j (by omega) hj)]
        rfl
      | false =>
        have HQ := Aside0.mk hq
        clear hq
        go_wp2_with (go_at_fn g; refine (HC.out _ HB.out).mono ?_; rintro e w' ⟨rfl, hb⟩; rw [HQ.out]; have HB2 := Aside0.mk hb; clear hb)
        go_roundg (l0.length - (kk + 1))
        case measure => omega
        case rel =>
          rename_i HB2
          refine ⟨kk + 1, by omega, by omega, by go_num, ⟨below_trans' HB.out HB2.out⟩, ⟨fun j hj hj2 => ?_⟩⟩
          by_cases e : j = kk
          · subst e; exact HQ.out
          · exact HA.out j hj (by omega)
    · obtain rfl : kk = l0.length := by omega
      go_wp2
      go_ret
      refine ⟨?_, HB.out⟩
      rw [idxF_miss p l0 (fun j hj => HA.out j hj hj)]
      rfl

set_option maxHeartbeats 1000000 in
theorem ContainsFunc_list (g : Nat) (cb : Array Value) (p : List Int → Bool) (eg : ∀ args w, (callFunc g args).run Tryz.prog w = .ok (.enter g args) w) (A0 : Option Addr) (c0 : Nat) (l0 : List (List Int)) (w : World)
    (hr0 : Kd.C (Kd.slice 3 (Kd.int .i64)) w A0 l0.length l0) (hc0 : l0.length ≤ c0) (hp : PredL g cb p l0 w) :
    Calls Tryz.prog 82 #[.slice A0 l0.length c0, .func (.func g) #[] cb] w fun e w' => e = .returned (.bool (l0.any p)) ∧ Below w.heap.size w w' := by
  have HI := Aside0.mk (IndexFunc_list g cb p eg A0 c0 l0 w hr0 hc0 hp)
  clear hr0 hc0 hp
  go_enter Tryz.func82, Tryz.ntmps82
  go_wp2_with (go_at_call 114; refine (HI.out).mono ?_; rintro e w' ⟨rfl, hb⟩; have HB := Aside0.mk hb; clear hb)
  go_ret
  refine ⟨?_, HB.out⟩
  rw [← idxF_nonneg p l0]
  rfl

end Go.Proofs.YtcdhhaedgohlgaaGreatDoor.P
end

section
namespace Go.Proofs.YtcdhhaedgohlgaaGreatDoor.P
open Go.RowKit Go.MapKept Go.Proofs.YtcdhhaedgohlgaaGreatDoorW.PrintWords Go.Proofs.YtcdhhaedgohlgaaGreatDoorW.PrintLast Go.Proofs.YtcdhhaedgohlgaaGreatDoorW.PrintMore
set_option linter.unusedVariables false
set_option linter.unusedSimpArgs false

/-- Block b of w is a map of n entries, with int keys, that holds m. -/
def MapI (w : World) (b n : Nat) (m : Int → Option Value) : Prop :=
  ∃ (es : Array MapEntry) (clock : Nat), w.heap[b]? = some (.map es clock) ∧ es.size = n ∧ Stamped es clock ∧ (∀ x ∈ es.toList, IsKey (.int .i64) x.key) ∧
    (∀ e ∈ es.toList, ∀ x, e.key = .int .i64 x → m x = some e.val) ∧ (∀ x v, m x = some v → ∃ e ∈ es.toList, e.key = .int .i64 x)

theorem MapI.lt {w : World} {b n : Nat} {m : Int → Option Value} (h : MapI w b n m) : b < w.heap.size := by
  obtain ⟨es, cl, hb, _⟩ := h
  exact (Array.getElem?_eq_some_iff.1 hb).1

theorem MapI.move {w w1 : World} {b n : Nat} {m : Int → Option Value} (h : MapI w b n m) (hm : w1.heap[b]? = w.heap[b]?) : MapI w1 b n m := by
  obtain ⟨es, cl, hb, r⟩ := h
  exact ⟨es, cl, hm.trans hb, r⟩

theorem MapI.below {w w1 : World} {b n : Nat} {m : Int → Option Value} (h : MapI w b n m) (hb : Below w.heap.size w w1) : MapI w1 b n m := h.move (hb.block b h.lt)

theorem MapI.alloc {w : World} {b n : Nat} {m : Int → Option Value} (h : MapI w b n m) (o : Obj) : MapI (w.alloc o) b n m := h.below ((Below.refl _ _).alloc (Nat.le_refl _) _)

theorem MapI.grown {w w1 : World} {b n : Nat} {m : Int → Option Value} (h : MapI w b n m) {row : Option Nat} (hg : w.grownBy w1 row) (hne : some b ≠ row) : MapI w1 b n m := h.move (hg.block b h.lt hne)

theorem MapI.made (w : World) : MapI (w.alloc (.map #[] 0)) w.heap.size 0 (fun _ => none) :=
  ⟨#[], 0, (heap_alloc w _).1, rfl, stamped_empty 0, by simp, by simp, by simp⟩

theorem MapI.congr {w : World} {b n n' : Nat} {m m' : Int → Option Value} (h : MapI w b n m) (hn : n = n') (hm : ∀ x, m x = m' x) : MapI w b n' m' := by
  obtain rfl : m = m' := funext hm
  subst hn
  exact h

section
variable {P : Program} {w : World} {b n : Nat} {m : Int → Option Value} {t k e : TypeId}

theorem MapI.lookup (h : MapI w b n m) (ht : P.underlying t = some (.map k e)) (hk : P.underlying k = some (.int .i64)) {z : Value} (hz : (zeroValue e).run P w = .ok z w) (x : Int) :
    (Instr.lookup t (.map (some b)) (.int .i64 x) false).run P w = .ok ((m x).getD z) w := by
  obtain ⟨es, cl, hb, hn, hs, hks, h1, h2⟩ := h
  have hkey : IsKey (.int .i64) (.int .i64 x) := rfl
  rcases findNow_spec hkey es.toList 0 hks with ⟨f1, f2⟩ | ⟨j, e0, f1, f2, f3⟩
  · have hm : m x = none := by
      cases hmx : m x with
      | none => rfl
      | some v =>
        obtain ⟨e1, he1, hk1⟩ := h2 x v hmx
        exact absurd hk1 (f2 e1 he1)
    rw [hm]
    simp [Instr.lookup, run_underlying ht, MapKept.run_getObj_map hb, run_checkKey hk hkey, run_findKey hk f1, Result.andThen, hz]
  · have hmem : e0 ∈ es.toList := List.mem_of_getElem? f2
    rw [h1 e0 hmem x f3]
    simp [Instr.lookup, run_underlying ht, MapKept.run_getObj_map hb, run_checkKey hk hkey, run_findKey hk f1, Result.andThen]

/-- How many entries there are behind a store. -/
def putN (m : Int → Option Value) (n : Nat) (x : Int) : Nat := if (m x).isSome then n else n + 1
def putM (m : Int → Option Value) (x : Int) (v : Value) : Int → Option Value := fun y => if y = x then some v else m y

theorem MapI.update (h : MapI w b n m) (ht : P.underlying t = some (.map k e)) (hk : P.underlying k = some (.int .i64)) (x : Int) (v : Value) :
    ∃ w', (Instr.mapUpdate t (.map (some b)) (.int .i64 x) v).run P w = .ok () w' ∧ MapI w' b (putN m n x) (putM m x v) ∧ w.grownBy w' (some b) := by
  obtain ⟨es, cl, hb, hn, hs, hks, h1, h2⟩ := h
  have hkey : IsKey (.int .i64) (.int .i64 x) := rfl
  have hgr : ∀ o, w.grownBy { w with heap := w.heap.setIfInBounds b o } (some b) := fun o =>
    ⟨rfl, rfl, rfl, by simp, fun i _ hi => (heap_set hb).2 i (fun e => hi (by rw [e]))⟩
  rcases findNow_spec hkey es.toList 0 hks with ⟨f1, f2⟩ | ⟨j, e0, f1, f2, f3⟩
  · have hm : m x = none := by
      cases hmx : m x with
      | none => rfl
      | some v =>
        obtain ⟨e1, he1, hk1⟩ := h2 x v hmx
        exact absurd hk1 (f2 e1 he1)
    refine ⟨_, by simp [Instr.mapUpdate, run_underlying ht, MapKept.run_getObj_map hb, run_checkKey hk hkey, run_findKey hk f1, MapKept.run_setObj_map _ hb, Result.andThen]; rfl, ?_, hgr _⟩
    refine ⟨_, _, (heap_set hb).1, ?_, stamped_push hs f2, ?_, ?_, ?_⟩
    · simp [putN, hm, hn]
    · intro y hy
      simp only [Array.toList_push, List.mem_append, List.mem_singleton] at hy
      rcases hy with hy | rfl
      · exact hks y hy
      · exact hkey
    · intro y hy z hz
      simp only [Array.toList_push, List.mem_append, List.mem_singleton] at hy
      rcases hy with hy | rfl
      · have hne : z ≠ x := fun e => f2 y hy (by rw [hz, e])
        simp [putM, hne, h1 y hy z hz]
      · injection hz with _ hz
        simp [putM, hz]
    · intro y u hu
      by_cases e1 : y = x
      · exact ⟨{ key := .int .i64 x, val := v, born := cl }, by simp, by rw [e1]⟩
      · simp [putM, e1] at hu
        obtain ⟨e2, he2, hk2⟩ := h2 y u hu
        exact ⟨e2, by simp [Array.mem_toList_iff.1 he2], hk2⟩
  · have hj : es[j]? = some e0 := by simpa using f2
    have hmem : e0 ∈ es.toList := List.mem_of_getElem? f2
    have hkeyf : ∀ e', es[j]? = some e' → ({ e' with key := .int .i64 x, val := v } : MapEntry).key = e'.key := fun e' he' => by rw [hj] at he'; cases he'; exact f3.symm
    refine ⟨_, by simp [Instr.mapUpdate, run_underlying ht, MapKept.run_getObj_map hb, run_checkKey hk hkey, run_findKey hk f1, hj, f3, run_keyThatStays hkey, MapKept.run_setObj_map _ hb, Result.andThen]; rfl, ?_, hgr _⟩
    have hat : ∀ (i : Nat) y, (es.modify j fun e' => { e' with key := .int .i64 x, val := v })[i]? = some y → (i = j ∧ y.val = v ∧ y.key = .int .i64 x) ∨ (i ≠ j ∧ es[i]? = some y) := by
      intro i y hy
      rw [Array.getElem?_modify] at hy
      by_cases hij : j = i
      · subst hij
        rw [if_pos rfl, hj] at hy
        injection hy with hy
        subst hy
        exact .inl ⟨rfl, rfl, rfl⟩
      · rw [if_neg hij] at hy
        exact .inr ⟨fun e => hij e.symm, hy⟩
    have hnd : ∀ (i : Nat) y, es[i]? = some y → y.key = .int .i64 x → i = j := by
      intro i y hy hyk
      have hl := hs.2.2
      have hi : i < (es.toList.map (·.key)).length := by simpa using (Array.getElem?_eq_some_iff.1 hy).1
      have hj' : j < (es.toList.map (·.key)).length := by simpa using (Array.getElem?_eq_some_iff.1 hj).1
      refine (List.getElem_inj (h₀ := hi) (h₁ := hj') hl).1 ?_
      obtain ⟨_, hy'⟩ := Array.getElem?_eq_some_iff.1 hy
      obtain ⟨_, hj''⟩ := Array.getElem?_eq_some_iff.1 hj
      simp [hy', hj'', hyk, f3]
    refine ⟨_, _, (heap_set hb).1, ?_, stamped_modify hs _ _ (fun _ _ => rfl) (fun e' _ he' => hkeyf e' he'), isKey_modify hks _ _ hkeyf, ?_, ?_⟩
    · simp [putN, h1 e0 hmem x f3, hn]
    · intro y hy z hz
      obtain ⟨i, hi⟩ := List.getElem?_of_mem hy
      rw [Array.getElem?_toList] at hi
      rcases hat i y hi with ⟨_, hv, hyk⟩ | ⟨hij, hy'⟩
      · rw [hz] at hyk
        injection hyk with _ hyk
        simp [putM, hyk, hv]
      · have hne : z ≠ x := fun e => hij (hnd i y hy' (by rw [hz, e]))
        simp [putM, hne, h1 y (List.mem_of_getElem? (by rw [Array.getElem?_toList]; exact hy')) z hz]
    · intro y u hu
      by_cases e1 : y = x
      · subst e1
        refine ⟨{ e0 with key := .int .i64 y, val := v }, List.mem_of_getElem? (i := j) ?_, rfl⟩
        rw [Array.getElem?_toList, Array.getElem?_modify, if_pos rfl, hj]
        rfl
      · simp [putM, e1] at hu
        obtain ⟨e2, he2, hk2⟩ := h2 y u hu
        obtain ⟨i, hi⟩ := List.getElem?_of_mem he2
        rw [Array.getElem?_toList] at hi
        have hij : j ≠ i := fun e => e1 (by
          subst e
          rw [hj] at hi
          injection hi with hi
          rw [← hi, f3] at hk2
          injection hk2 with _ hk2
          exact hk2.symm)
        refine ⟨e2, List.mem_of_getElem? (i := i) ?_, hk2⟩
        rw [Array.getElem?_toList, Array.getElem?_modify, if_neg hij]
        exact hi

end

section
variable {P : Program} {w : World} {ops : Array Oper} {rest : List Oper} {o : Oper} {a : Act} {Q : Exit → Act → World → Prop}

/-- 'm[x] = v' at the operation. -/
theorem wpList_putI (hg : o.guard = none) (mo xo vo : Operand) (t : TypeId) (hop : o.op = Op.mapUpdate t mo xo vo)
    {k e : TypeId} (ht : P.underlying t = some (.map k e)) (hk : P.underlying k = some (.int .i64)) (b n : Nat) (m : Int → Option Value) (h : MapI w b n m)
    (hm : a.eval mo = .map (some b)) (x : Int) (v : Value) (hx : a.eval xo = .int .i64 x) (hv : a.eval vo = v)
    (hK : ∀ w', MapI w' b (putN m n x) (putM m x v) → w.grownBy w' (some b) → wpList P ops Q rest (a.put o.dst undef) w') :
    wpList P ops Q (o :: rest) a w := by
  refine wpList_plain hg fun K' hK' => ?_
  obtain ⟨w', hrun, r1, r2⟩ := h.update (P := P) ht hk x v
  unfold Oper.wp
  simp [execOp, hop, hm, hx, hv, hrun, Result.andThen]
  exact hK' _ _ (hK w' r1 r2)
end

end Go.Proofs.YtcdhhaedgohlgaaGreatDoor.P
end

section
namespace Go.Proofs.YtcdhhaedgohlgaaGreatDoor.P
open Go.RowKit Go.Proofs.YtcdhhaedgohlgaaGreatDoorW.PrintWords Go.Proofs.YtcdhhaedgohlgaaGreatDoorW.PrintLast Go.Proofs.YtcdhhaedgohlgaaGreatDoorW.PrintMore
set_option linter.unusedVariables false
set_option linter.unusedSimpArgs false

theorem zero4 (w : World) : (zeroValue 4).run Tryz.prog w = .ok (.bool false) w := by kernel_rfl
theorem under93 : Tryz.prog.underlying 93 = some (.map 3 4) := by kernel_rfl
theorem under3 : Tryz.prog.underlying 3 = some (.int .i64) := by kernel_rfl

/-- The set of l's elements, as a map to true. -/
def setM (l : List Int) : Int → Option Value := fun x => if x ∈ l then some (.bool true) else none
theorem setM_get (l : List Int) (x : Int) : (setM l x).getD (.bool false) = .bool (decide (x ∈ l)) := by
  unfold setM
  by_cases h : x ∈ l <;> simp [h]

theorem enters83 : ∀ args w, (callFunc 83 args).run Tryz.prog w = .ok (.enter 83 args) w := by
  intro args w; kernel_rfl

set_option maxHeartbeats 1000000 in
theorem Subsumes1_calls (x : Int) (ad : Addr) (b n : Nat) (l : List Int) (w : World) (hc : w.cell? ad = some (.map (some b))) (hs : ad.spot = none) (hm : MapI w b n (setM l)) :
    Calls Tryz.prog 83 #[.int .i64 x, .pointer (some ad)] w fun e w' => e = .returned (.bool (!decide (x ∈ l))) ∧ Below w.heap.size w w' := by
  have hlk := hm.lookup (P := Tryz.prog) under93 under3 (zero4 w) x
  rw [setM_get] at hlk
  have HV : Aside0 ((!decide (x ∈ l)) = !decide (x ∈ l)) := ⟨rfl⟩
  generalize decide (x ∈ l) = v at *
  clear hm
  go_enter Tryz.func83, Tryz.ntmps83
  go_wp2
  go_ret
  exact ⟨rfl, Below.refl _ _⟩

def subsumesV (a b : List Int) : Bool := a.all fun x => decide (x ∈ b)
def cnf_Subsumes.f (l0 : List Int) (l1 : List Int) : Option Bool := some (subsumesV l0 l1)

theorem subsumes_any (a b : List Int) : subsumesV a b = !(a.any fun x => !decide (x ∈ b)) := by
  unfold subsumesV
  rw [List.not_any_eq_all_not]
  simp

set_option maxHeartbeats 2000000 in
theorem cnf_Subsumes.calls (A0 : Option Addr) (c0 : Nat) (l0 : List Int) (A1 : Option Addr) (c1 : Nat) (l1 : List Int) (r : Bool) (w : World) (hr0 : Kd.C (Kd.int .i64) w A0 l0.length l0) (hc0 : l0.length ≤ c0) (hr1 : Kd.C (Kd.int .i64) w A1 l1.length l1) (hc1 : l1.length ≤ c1) (h : cnf_Subsumes.f l0 l1 = some r) :
    Calls Tryz.prog 34 #[.slice A0 l0.length c0, .slice A1 l1.length c1] w fun e w' => e = .returned (.bool r) ∧ Below w.heap.size w w' := by
  injection h with h
  subst h
  have HR0 := Aside0.mk hr0
  have HR1 := Aside0.mk hr1
  have hm : l1.length ≤ 9223372036854775807 := hr1.2.1
  clear hr0 hr1
  have HV := Aside0.mk (subsumes_any l0 l1)
  generalize subsumesV l0 l1 = v at *
  have hmm := @run_makeMap Tryz.prog
  go_enter Tryz.func34, Tryz.ntmps34
  go_wp2
  clear hmm
  go_loopg [11] l1.length (fun gg s11 wr => ∃ kk : Nat, kk ≤ l1.length ∧ l1.length - kk ≤ gg ∧ s11 = .int .i64 kk ∧ Aside0 (Below w.heap.size w wr) ∧
    Aside0 (wr.cell? ⟨w.heap.size + 1, 0, none⟩ = some (.map (some w.heap.size)) ∧ w.heap.size + 1 < wr.heap.size) ∧ Aside0 (∃ n, MapI wr w.heap.size n (setM (l1.take kk))))
  case atStart =>
    refine ⟨0, Nat.zero_le _, by omega, rfl, ⟨by repeat (first | exact Below.refl _ _ | refine Below.setCell ?_ (by simp) _ | refine Below.alloc ?_ (by simp) _)⟩, ⟨by simp [go_sem], by simp⟩, ⟨0, ?_⟩⟩
    exact ((MapI.made w).alloc _).congr rfl (fun x => by simp [setM])
  case round =>
    obtain ⟨kk, hkk, hg, rfl, HB, HC, HM⟩ := hrel
    by_cases hlt : kk < l1.length
    · have hltz : (kk : Int) < (l1.length : Int) := by omega
      obtain ⟨ad, e1, hx⟩ := Kd.at_int HR1.out kk (by omega) (by omega)
      cases e1
      replace hx := (HB.out.cell (World.block_lt_of_cell? w _ hx)).trans hx
      have hrd : rd l1 kk = l1[kk] := by simp [rd, hlt]
      rw [hrd, Int.toNat_natCast] at hx
      clear hrd
      have hc := HC.out.1
      obtain ⟨n, hM⟩ := HM.out
      have HM2 := Aside0.mk hM
      clear hM
      go_wp2_with (at_mapUpdate; refine wpList_putI rfl _ _ _ 93 rfl under93 under3 w.heap.size n (setM (l1.take kk)) HM2.out rfl l1[kk] (.bool true) rfl rfl ?_; intro w1 hM1 hg1; have HM1 := Aside0.mk hM1; have HG1 := Aside0.mk hg1; clear hM1 hg1)
      go_roundg (l1.length - (kk + 1))
      case measure => omega
      case rel =>
        refine ⟨kk + 1, by omega, by omega, by go_num, ⟨HB.out.grown HG1.out HB.out.size (fun k e => by cases e; exact Nat.le_refl _)⟩, ⟨?_, Nat.lt_of_lt_of_le HC.out.2 HG1.out.size⟩, ⟨_, HM1.out.congr rfl (fun x => ?_)⟩⟩
        · exact (World.cell?_of_block (a := ⟨w.heap.size + 1, 0, none⟩) (HG1.out.block _ HC.out.2 (by simp))).trans HC.out.1
        · rw [List.take_succ_eq_append_getElem hlt]
          unfold putM setM
          simp only [List.mem_append, List.mem_singleton]
          by_cases e : x = l1[kk]
          · rw [if_pos e, if_pos (Or.inr e)]
          · simp only [e, or_false, if_false]
    · obtain rfl : kk = l1.length := by omega
      obtain ⟨n, hM⟩ := HM.out
      rw [List.take_length] at hM
      have HF := Aside0.mk (ContainsFunc_int 83 #[.pointer (some ⟨w.heap.size + 1, 0, none⟩)] (fun x => !decide (x ∈ l1)) enters83 A0 c0 l0 wr (Kd.C_below HR0.out HB.out) hc0
        (fun W x hx hb => Subsumes1_calls x ⟨w.heap.size + 1, 0, none⟩ w.heap.size n l1 W ((hb.cell (p := ⟨w.heap.size + 1, 0, none⟩) HC.out.2).trans HC.out.1) rfl (hM.below hb)))
      clear hM
      go_wp2_with (go_at_call 73; refine (HF.out).mono ?_; rintro e w' ⟨rfl, hb⟩; have HB2 := Aside0.mk hb; clear hb)
      go_ret
      exact ⟨by rw [HV.out]; rfl, below_trans' HB.out HB2.out⟩
end Go.Proofs.YtcdhhaedgohlgaaGreatDoor.P
end

section
namespace Go.Proofs.YtcdhhaedgohlgaaGreatDoor.P
open Go.RowKit Go.Proofs.YtcdhhaedgohlgaaGreatDoorW.PrintWords Go.Proofs.YtcdhhaedgohlgaaGreatDoorW.PrintLast Go.Proofs.YtcdhhaedgohlgaaGreatDoorW.PrintMore
attribute [local go_sem] max2_int min2_int max_two min_two max_three min_three max_four min_four   -- for this text's walks alone
set_option linter.unusedVariables false
set_option linter.unusedSimpArgs false

def slices_Equal_int_int.l0 : Nat → List Int → List Int → Int → Int → Option (Bool)
  | 0, _, _, _, _ => none
  | k + 1, x0, x1, x12, x13 => if x13 < x12 then (if 0 ≤ x13 then (if x13 < (x0.length : Int) then (if x13 < (x1.length : Int) then (if (rd x0 x13) = (rd x1 x13) then (slices_Equal_int_int.l0 k x0 x1 x12 (wrap64 (x13 + 1))) else (some false)) else (none)) else (none)) else (none)) else (some true)
def slices_Equal_int_int.f (k : Nat) (l0 : List Int) (l1 : List Int) : Option (Bool) := if (l0.length : Int) = (l1.length : Int) then (slices_Equal_int_int.l0 k l0 l1 (l0.length : Int) 0) else (some false)
set_option maxHeartbeats 8000000 in
set_option maxRecDepth 100000 in
theorem slices_Equal_int_int.calls (k : Nat) (A0 : Option Addr) (c0 : Nat) (l0 : List Int) (A1 : Option Addr) (c1 : Nat) (l1 : List Int) (r : Bool) (w : World) (hr0 : Kd.C (Kd.int .i64) w A0 l0.length l0) (hc0 : l0.length ≤ c0) (hr1 : Kd.C (Kd.int .i64) w A1 l1.length l1) (hc1 : l1.length ≤ c1) (h : slices_Equal_int_int.f k l0 l1 = some r) :
    Calls Tryz.prog 76 #[.slice A0 l0.length c0, .slice A1 l1.length c1] w fun e w' => e = .returned (.bool r) ∧ Drawn0 w w' := by
  have HR0 := Aside0.mk hr0
  have HC0 := Aside0.mk hc0
  clear hr0 hc0
  have HR1 := Aside0.mk hr1
  have HC1 := Aside0.mk hc1
  clear hr1 hc1
  have H : (if (l0.length : Int) = (l1.length : Int) then (slices_Equal_int_int.l0 k l0 l1 (l0.length : Int) 0) else (some false)) = some r := h
  clear h
  by_cases c3 : (l0.length : Int) = (l1.length : Int)
  · rw [if_pos c3] at H
    have c3b0 : ((l0.length : Int) == (l1.length : Int)) = true := beq_iff_eq.mpr c3
    have c3b1 : ((l0.length : Int) != (l1.length : Int)) = false := bne_eq_false_iff_eq.mpr c3
    have c3b2 : (l0.length == l1.length) = true := by first | simpa using c3 | (simp at c3 ⊢; omega)
    clear c3
    have H' := Aside0.mk H
    clear H
    go_enter Tryz.func76, Tryz.ntmps76
    go_wp2
    repeat (go_quiet (fail); try go_wp2)
    go_loopg [13] k (fun kq v13 w' => ∃ (x13_1 : Int), v13 = .int .i64 x13_1 ∧ Aside0 (slices_Equal_int_int.l0 kq l0 l1 (l0.length : Int) x13_1 = some r) ∧ Aside0 (kq ≤ k) ∧ Drawn0 w w')
    case atStart => exact ⟨(0), (by first | rfl | (simp; done) | (simp [*]; done)), H', ⟨Nat.le_refl _⟩, by repeat (first | exact Drawn0.refl _ | apply Drawn0.step)⟩
    case round =>
      clear H'
      try clear c1
      try clear p2
      try clear c3
      try clear c3b0
      try clear c3b1
      try clear c3b2
      obtain ⟨x13_1, rfl, HA, HK1, ⟨m1, rfl⟩⟩ := hrel
      cases gk with
      | zero => exact absurd HA.out (by simp [slices_Equal_int_int.l0])
      | succ k1 =>
        have H := HA.out
        clear HA
        simp only [slices_Equal_int_int.l0] at H
        by_cases c4 : x13_1 < (l0.length : Int)
        · rw [if_pos c4] at H
          have c4b0 : decide (x13_1 < (l0.length : Int)) = true := decide_eq_true c4
          clear c4
          by_cases c5 : 0 ≤ x13_1
          · rw [if_pos c5] at H
            have c5b0 : decide (0 ≤ x13_1) = true := decide_eq_true c5
            clear c5
            by_cases c6 : x13_1 < (l0.length : Int)
            · rw [if_pos c6] at H
              have c6b0 : decide (x13_1 < (l0.length : Int)) = true := decide_eq_true c6
              clear c6
              by_cases c7 : x13_1 < (l1.length : Int)
              · rw [if_pos c7] at H
                have c7b0 : decide (x13_1 < (l1.length : Int)) = true := decide_eq_true c7
                clear c7
                by_cases c8 : (rd l0 x13_1) = (rd l1 x13_1)
                · rw [if_pos c8] at H
                  have c8b0 : ((rd l0 x13_1) == (rd l1 x13_1)) = true := beq_iff_eq.mpr c8
                  have c8b1 : ((rd l0 x13_1) != (rd l1 x13_1)) = false := bne_eq_false_iff_eq.mpr c8
                  clear c8
                  have H' := Aside0.mk H
                  clear H
                  have p119 : 0 ≤ (x13_1 : Int) := of_decide_eq_true (by first | (with_reducible assumption) | assumption)
                  have q119 : x13_1 < (l0.length : Int) := of_decide_eq_true (by first | (with_reducible assumption) | assumption)
                  obtain ⟨ad119, e119, hx119_0⟩ := Kd.at_int HR0.out x13_1 p119 q119
                  cases e119
                  replace p119 := eq_true p119
                  replace q119 := eq_true q119
                  have p120 : 0 ≤ (x13_1 : Int) := of_decide_eq_true (by first | (with_reducible assumption) | assumption)
                  have q120 : x13_1 < (l1.length : Int) := of_decide_eq_true (by first | (with_reducible assumption) | assumption)
                  obtain ⟨ad120, e120, hx120_0⟩ := Kd.at_int HR1.out x13_1 p120 q120
                  cases e120
                  replace p120 := eq_true p120
                  replace q120 := eq_true q120
                  go_wp2
                  repeat (go_quiet (fail); try go_wp2)
                  go_roundg k1
                  case measure => have := HK1.out; omega
                  case rel => exact ⟨(wrap64 (x13_1 + 1)), (by first | rfl | (simp; done) | (simp [*]; done)), H', ⟨by have := HK1.out; omega⟩, by repeat (first | exact Drawn0.refl _ | apply Drawn0.step)⟩
                · rw [if_neg c8] at H
                  have c8b0 : ((rd l0 x13_1) == (rd l1 x13_1)) = false := beq_eq_false_iff_ne.mpr c8
                  have c8b1 : ((rd l0 x13_1) != (rd l1 x13_1)) = true := bne_iff_ne.mpr c8
                  obtain rfl := Option.some.inj H
                  have p119 : 0 ≤ (x13_1 : Int) := of_decide_eq_true (by first | (with_reducible assumption) | assumption)
                  have q119 : x13_1 < (l0.length : Int) := of_decide_eq_true (by first | (with_reducible assumption) | assumption)
                  obtain ⟨ad119, e119, hx119_0⟩ := Kd.at_int HR0.out x13_1 p119 q119
                  cases e119
                  replace p119 := eq_true p119
                  replace q119 := eq_true q119
                  have p120 : 0 ≤ (x13_1 : Int) := of_decide_eq_true (by first | (with_reducible assumption) | assumption)
                  have q120 : x13_1 < (l1.length : Int) := of_decide_eq_true (by first | (with_reducible assumption) | assumption)
                  obtain ⟨ad120, e120, hx120_0⟩ := Kd.at_int HR1.out x13_1 p120 q120
                  cases e120
                  replace p120 := eq_true p120
                  replace q120 := eq_true q120
                  go_wp2
                  repeat (go_quiet (fail); try go_wp2)
                  go_ret
                  exact ⟨by first | rfl | (simp; done) | (simp [*]; done), by repeat (first | exact Drawn0.refl _ | apply Drawn0.step)⟩
              · rw [if_neg c7] at H
                exact absurd H (by simp)
            · rw [if_neg c6] at H
              exact absurd H (by simp)
          · rw [if_neg c5] at H
            exact absurd H (by simp)
        · rw [if_neg c4] at H
          have c4b0 : decide (x13_1 < (l0.length : Int)) = false := decide_eq_false c4
          clear c4
          obtain rfl := Option.some.inj H
          go_wp2
          repeat (go_quiet (fail); try go_wp2)
          go_ret
          exact ⟨by first | rfl | (simp; done) | (simp [*]; done), by repeat (first | exact Drawn0.refl _ | apply Drawn0.step)⟩
  · rw [if_neg c3] at H
    have c3b0 : ((l0.length : Int) == (l1.length : Int)) = false := beq_eq_false_iff_ne.mpr c3
    have c3b1 : ((l0.length : Int) != (l1.length : Int)) = true := bne_iff_ne.mpr c3
    have c3b2 : (l0.length == l1.length) = false := by first | simpa using c3 | (simp at c3 ⊢; omega)
    obtain rfl := Option.some.inj H
    go_enter Tryz.func76, Tryz.ntmps76
    go_wp2
    repeat (go_quiet (fail); try go_wp2)
    go_ret
    exact ⟨by first | rfl | (simp; done) | (simp [*]; done), by repeat (first | exact Drawn0.refl _ | apply Drawn0.step)⟩

def slices_Index_int_int.l0 : Nat → List Int → Int → Int → Int → Option (Int)
  | 0, _, _, _, _ => none
  | k + 1, x0, x1, x7, x8 => if x8 < x7 then (if 0 ≤ x8 then (if x8 < (x0.length : Int) then (if x1 = (rd x0 x8) then (some x8) else (slices_Index_int_int.l0 k x0 x1 x7 (wrap64 (x8 + 1)))) else (none)) else (none)) else (some (-1))
def slices_Index_int_int.f (k : Nat) (l0 : List Int) (a1 : Int) : Option (Int) := slices_Index_int_int.l0 k l0 a1 (l0.length : Int) 0
set_option maxHeartbeats 8000000 in
set_option maxRecDepth 100000 in
theorem slices_Index_int_int.calls (k : Nat) (A0 : Option Addr) (c0 : Nat) (l0 : List Int) (a1 : Int) (r : Int) (w : World) (hr0 : Kd.C (Kd.int .i64) w A0 l0.length l0) (hc0 : l0.length ≤ c0) (h : slices_Index_int_int.f k l0 a1 = some r) :
    Calls Tryz.prog 96 #[.slice A0 l0.length c0, .int .i64 a1] w fun e w' => e = .returned (.int .i64 r) ∧ Drawn0 w w' := by
  have HR0 := Aside0.mk hr0
  have HC0 := Aside0.mk hc0
  clear hr0 hc0
  have H : (slices_Index_int_int.l0 k l0 a1 (l0.length : Int) 0) = some r := h
  clear h
  have H' := Aside0.mk H
  clear H
  go_enter Tryz.func96, Tryz.ntmps96
  go_wp2
  go_loopg [8] k (fun kq v8 w' => ∃ (x8_1 : Int), v8 = .int .i64 x8_1 ∧ Aside0 (slices_Index_int_int.l0 kq l0 a1 (l0.length : Int) x8_1 = some r) ∧ Aside0 (kq ≤ k) ∧ Drawn0 w w')
  case atStart => exact ⟨(0), (by first | rfl | (simp; done) | (simp [*]; done)), H', ⟨Nat.le_refl _⟩, by repeat (first | exact Drawn0.refl _ | apply Drawn0.step)⟩
  case round =>
    clear H'
    try clear p2
    obtain ⟨x8_1, rfl, HA, HK1, ⟨m1, rfl⟩⟩ := hrel
    cases gk with
    | zero => exact absurd HA.out (by simp [slices_Index_int_int.l0])
    | succ k1 =>
      have H := HA.out
      clear HA
      simp only [slices_Index_int_int.l0] at H
      by_cases c3 : x8_1 < (l0.length : Int)
      · rw [if_pos c3] at H
        have c3b0 : decide (x8_1 < (l0.length : Int)) = true := decide_eq_true c3
        clear c3
        by_cases c4 : 0 ≤ x8_1
        · rw [if_pos c4] at H
          have c4b0 : decide (0 ≤ x8_1) = true := decide_eq_true c4
          clear c4
          by_cases c5 : x8_1 < (l0.length : Int)
          · rw [if_pos c5] at H
            have c5b0 : decide (x8_1 < (l0.length : Int)) = true := decide_eq_true c5
            clear c5
            by_cases c6 : a1 = (rd l0 x8_1)
            · rw [if_pos c6] at H
              have c6b0 : (a1 == (rd l0 x8_1)) = true := beq_iff_eq.mpr c6
              have c6b1 : (a1 != (rd l0 x8_1)) = false := bne_eq_false_iff_eq.mpr c6
              clear c6
              obtain rfl := Option.some.inj H
              have p121 : 0 ≤ (x8_1 : Int) := of_decide_eq_true (by first | (with_reducible assumption) | assumption)
              have q121 : x8_1 < (l0.length : Int) := of_decide_eq_true (by first | (with_reducible assumption) | assumption)
              obtain ⟨ad121, e121, hx121_0⟩ := Kd.at_int HR0.out x8_1 p121 q121
              cases e121
              replace p121 := eq_true p121
              replace q121 := eq_true q121
              go_wp2
              go_ret
              exact ⟨by first | rfl | (simp; done) | (simp [*]; done), by repeat (first | exact Drawn0.refl _ | apply Drawn0.step)⟩
            · rw [if_neg c6] at H
              have c6b0 : (a1 == (rd l0 x8_1)) = false := beq_eq_false_iff_ne.mpr c6
              have c6b1 : (a1 != (rd l0 x8_1)) = true := bne_iff_ne.mpr c6
              have H' := Aside0.mk H
              clear H
              have p121 : 0 ≤ (x8_1 : Int) := of_decide_eq_true (by first | (with_reducible assumption) | assumption)
              have q121 : x8_1 < (l0.length : Int) := of_decide_eq_true (by first | (with_reducible assumption) | assumption)
              obtain ⟨ad121, e121, hx121_0⟩ := Kd.at_int HR0.out x8_1 p121 q121
              cases e121
              replace p121 := eq_true p121
              replace q121 := eq_true q121
              go_wp2
              go_roundg k1
              case measure => have := HK1.out; omega
              case rel => exact ⟨(wrap64 (x8_1 + 1)), (by first | rfl | (simp; done) | (simp [*]; done)), H', ⟨by have := HK1.out; omega⟩, by repeat (first | exact Drawn0.refl _ | apply Drawn0.step)⟩
          · rw [if_neg c5] at H
            exact absurd H (by simp)
        · rw [if_neg c4] at H
          exact absurd H (by simp)
      · rw [if_neg c3] at H
        have c3b0 : decide (x8_1 < (l0.length : Int)) = false := decide_eq_false c3
        clear c3
        obtain rfl := Option.some.inj H
        go_wp2
        go_ret
        exact ⟨by first | rfl | (simp; done) | (simp [*]; done), by repeat (first | exact Drawn0.refl _ | apply Drawn0.step)⟩

def slices_Contains_int_int.f (k : Nat) (l0 : List Int) (a1 : Int) : Option (Bool) := (slices_Index_int_int.f k l0 a1).bind fun t122 => (some (decide (t122 ≥ 0)))
set_option maxHeartbeats 8000000 in
set_option maxRecDepth 100000 in
theorem slices_Contains_int_int.calls (k : Nat) (A0 : Option Addr) (c0 : Nat) (l0 : List Int) (a1 : Int) (r : Bool) (w : World) (hr0 : Kd.C (Kd.int .i64) w A0 l0.length l0) (hc0 : l0.length ≤ c0) (h : slices_Contains_int_int.f k l0 a1 = some r) :
    Calls Tryz.prog 84 #[.slice A0 l0.length c0, .int .i64 a1] w fun e w' => e = .returned (.bool r) ∧ Drawn0 w w' := by
  have HR0 := Aside0.mk hr0
  have HC0 := Aside0.mk hc0
  clear hr0 hc0
  have H : ((slices_Index_int_int.f k l0 a1).bind fun t122 => (some (decide (t122 ≥ 0)))) = some r := h
  clear h
  replace H := Option.bind_eq_some_iff.mp H
  obtain ⟨t122, A30, H⟩ := H
  replace H : (some (decide (t122 ≥ 0))) = some r := H
  have A3 := Aside0.mk A30
  clear A30
  obtain rfl := Option.some.inj H
  go_enter Tryz.func84, Tryz.ntmps84
  go_wp2_with (first | ((with_reducible refine gate_callee (f := 96) rfl ?_); refine goesL_ (some 7) rfl rfl Tryz.func96 (by kernel_rfl) rfl #[.slice A0 l0.length c0, .int .i64 a1] rfl (by (try simp only [List.map_toArray, List.map_cons, List.map_nil]); first | done | rfl | (simp only [List.length_drop, List.length_take]; rfl)) ?_; (with_reducible refine (slices_Index_int_int.calls k _ _ l0 a1 t122 _ ?side1 ?side2 A3.out).mono ?_); (case side1 => repeat (first | exact HR0.out | (with_reducible refine Kd.C_alloc ?_ _) | (with_reducible refine Kd.C_drewN ?_ _) | (with_reducible refine Kd.C_drew ?_))); (case side2 => exact HC0.out); rintro e w' ⟨rfl, ⟨nd, rfl⟩⟩; refine ⟨_, rfl, ?_⟩))
  go_ret
  exact ⟨by first | rfl | (simp; done) | (simp [*]; done), by repeat (first | exact Drawn0.refl _ | apply Drawn0.step)⟩

def cnf_lit_may.f (a0 : Int) (a1 : Int) : Option (Bool) := if a0 = 0 then (some false) else (if (wrap64 (-a1)) ≤ a0 then (some (decide (a0 ≤ a1))) else (some false))
set_option maxHeartbeats 8000000 in
set_option maxRecDepth 100000 in
theorem cnf_lit_may.calls (a0 : Int) (a1 : Int) (r : Bool) (w : World) (h : cnf_lit_may.f a0 a1 = some r) :
    Calls Tryz.prog 64 #[.int .i64 a0, .int .i64 a1] w fun e w' => e = .returned (.bool r) ∧ Drawn0 w w' := by
  have H : (if a0 = 0 then (some false) else (if (wrap64 (-a1)) ≤ a0 then (some (decide (a0 ≤ a1))) else (some false))) = some r := h
  clear h
  by_cases c3 : a0 = 0
  · rw [if_pos c3] at H
    have c3b0 : (a0 == 0) = true := beq_iff_eq.mpr c3
    have c3b1 : (a0 != 0) = false := bne_eq_false_iff_eq.mpr c3
    clear c3
    obtain rfl := Option.some.inj H
    go_enter Tryz.func64, Tryz.ntmps64
    go_wp2
    go_ret
    exact ⟨by first | rfl | (simp; done) | (simp [*]; done), by repeat (first | exact Drawn0.refl _ | apply Drawn0.step)⟩
  · rw [if_neg c3] at H
    have c3b0 : (a0 == 0) = false := beq_eq_false_iff_ne.mpr c3
    have c3b1 : (a0 != 0) = true := bne_iff_ne.mpr c3
    by_cases c4 : (wrap64 (-a1)) ≤ a0
    · rw [if_pos c4] at H
      have c4b0 : decide ((wrap64 (-a1)) ≤ a0) = true := decide_eq_true c4
      clear c4
      obtain rfl := Option.some.inj H
      go_enter Tryz.func64, Tryz.ntmps64
      go_wp2
      go_ret
      exact ⟨by first | rfl | (simp; done) | (simp [*]; done), by repeat (first | exact Drawn0.refl _ | apply Drawn0.step)⟩
    · rw [if_neg c4] at H
      have c4b0 : decide ((wrap64 (-a1)) ≤ a0) = false := decide_eq_false c4
      clear c4
      obtain rfl := Option.some.inj H
      go_enter Tryz.func64, Tryz.ntmps64
      go_wp2
      go_ret
      exact ⟨by first | rfl | (simp; done) | (simp [*]; done), by repeat (first | exact Drawn0.refl _ | apply Drawn0.step)⟩

def cnf_lit_of.f (a0 : Int) : Option (Int) := some (mx a0 (wrap64 (-a0)))
set_option maxHeartbeats 8000000 in
set_option maxRecDepth 100000 in
theorem cnf_lit_of.calls (a0 : Int) (r : Int) (w : World) (h : cnf_lit_of.f a0 = some r) :
    Calls Tryz.prog 69 #[.int .i64 a0] w fun e w' => e = .returned (.int .i64 r) ∧ Below w.heap.size w w' := by
  have HB := Aside0.mk (Below.refl w.heap.size w)
  have H : (some (mx a0 (wrap64 (-a0)))) = some r := h
  clear h
  obtain ⟨ji2, hji2⟩ : ∃ j_ : Int, (mx a0 (wrap64 (-a0))) = j_ := ⟨_, rfl⟩
  replace H : (some ji2) = some r := by first | (rw [hji2] at H; exact H) | (simp only [hji2] at H ⊢; exact H)
  have hji2_ : (if a0 < (wrap64 (-a0)) then (wrap64 (-a0)) else a0) = ji2 := hji2
  obtain rfl := Option.some.inj H
  go_enter Tryz.func69, Tryz.ntmps69
  go_wp2
  go_ret
  exact ⟨by first | rfl | (simp [errW_none, errW_some] <;> rfl) | (simp only [← hji2]; first | rfl | (simp [errW_none, errW_some] <;> rfl)) | (simp [*, errW_none, errW_some] <;> rfl), by repeat (first | (with_reducible first | exact HB.out | apply below_alloc | apply pw_below_drewN | apply below_drew1) | exact HB.out)⟩

def cnf_lit_true.f (a0 : Int) (l1 : List Bool) : Option (Bool) := (cnf_lit_may.f a0 65536).bind fun t730 => (if t730 = true then ((cnf_lit_of.f a0).bind fun t731 => (if t731 < (l1.length : Int) then (if 0 ≤ t731 then (some ((rdOf false l1 t731) == (decide (a0 > 0)))) else (none)) else (some (false == (decide (a0 > 0)))))) else (some false))
set_option maxHeartbeats 8000000 in
set_option maxRecDepth 100000 in
theorem cnf_lit_true.calls (a0 : Int) (A1 : Option Addr) (c1 : Nat) (l1 : List Bool) (r : Bool) (w : World) (hr1 : Kd.C Kd.bool w A1 l1.length l1) (hc1 : l1.length ≤ c1) (h : cnf_lit_true.f a0 l1 = some r) :
    Calls Tryz.prog 79 #[.int .i64 a0, .slice A1 l1.length c1] w fun e w' => e = .returned (.bool r) ∧ Below w.heap.size w w' := by
  have HR1 := Aside0.mk hr1
  have HC1 := Aside0.mk hc1
  clear hr1 hc1
  have HB := Aside0.mk (Below.refl w.heap.size w)
  have H : ((cnf_lit_may.f a0 65536).bind fun t730 => (if t730 = true then ((cnf_lit_of.f a0).bind fun t731 => (if t731 < (l1.length : Int) then (if 0 ≤ t731 then (some ((rdOf false l1 t731) == (decide (a0 > 0)))) else (none)) else (some (false == (decide (a0 > 0)))))) else (some false))) = some r := h
  clear h
  replace H := Option.bind_eq_some_iff.mp H
  obtain ⟨t730, A30, H⟩ := H
  replace H : (if t730 = true then ((cnf_lit_of.f a0).bind fun t731 => (if t731 < (l1.length : Int) then (if 0 ≤ t731 then (some ((rdOf false l1 t731) == (decide (a0 > 0)))) else (none)) else (some (false == (decide (a0 > 0)))))) else (some false)) = some r := H
  have A3 := Aside0.mk A30
  clear A30
  by_cases c4 : t730 = true
  · subst c4
    have H1 : ((cnf_lit_of.f a0).bind fun t731 => (if t731 < (l1.length : Int) then (if 0 ≤ t731 then (some ((rdOf false l1 t731) == (decide (a0 > 0)))) else (none)) else (some (false == (decide (a0 > 0)))))) = some r := by rw [if_pos rfl] at H; exact H
    clear H
    have H := H1
    clear H1
    replace H := Option.bind_eq_some_iff.mp H
    obtain ⟨t731, A50, H⟩ := H
    replace H : (if t731 < (l1.length : Int) then (if 0 ≤ t731 then (some ((rdOf false l1 t731) == (decide (a0 > 0)))) else (none)) else (some (false == (decide (a0 > 0))))) = some r := H
    have A5 := Aside0.mk A50
    clear A50
    by_cases c6 : t731 < (l1.length : Int)
    · rw [if_pos c6] at H
      have c6b0 : decide (t731 < (l1.length : Int)) = true := decide_eq_true c6
      clear c6
      by_cases c7 : 0 ≤ t731
      · rw [if_pos c7] at H
        have c7b0 : decide (0 ≤ t731) = true := decide_eq_true c7
        clear c7
        obtain rfl := Option.some.inj H
        go_enter Tryz.func79, Tryz.ntmps79
        go_wp2_with (first | ((with_reducible refine gate_callee (f := 64) rfl ?_); refine goesL_ (some 7) rfl rfl Tryz.func64 (by kernel_rfl) rfl #[.int .i64 a0, .int .i64 65536] rfl (by (try simp only [List.map_toArray, List.map_cons, List.map_nil]); first | done | rfl | (simp only [List.length_drop, List.length_take]; rfl)) ?_; (with_reducible refine (cnf_lit_may.calls a0 65536 true _ A3.out).mono ?_); rintro e w' ⟨rfl, ⟨nd, rfl⟩⟩; refine ⟨_, rfl, ?_⟩) | ((with_reducible refine gate_callee (f := 69) rfl ?_); refine goesL_ (some 10) rfl rfl Tryz.func69 (by kernel_rfl) rfl #[.int .i64 a0] rfl (by (try simp only [List.map_toArray, List.map_cons, List.map_nil]); first | done | rfl | (simp only [List.length_drop, List.length_take]; rfl)) ?_; (with_reducible refine (cnf_lit_of.calls a0 t731 _ A5.out).mono ?_); rintro e w8 ⟨rfl, hb⟩; refine ⟨_, rfl, ?_⟩; have n0_ := Aside0.mk (below_step (by repeat (first | (with_reducible first | exact HB.out | apply below_alloc | apply pw_below_drewN | apply below_drew1) | exact HB.out)) hb); clear HB; have HB := n0_; clear n0_; (try clear hb); (try clear hb2); (try clear hk); (try clear hi); have p732 : 0 ≤ (t731 : Int) := of_decide_eq_true (by first | (with_reducible assumption) | assumption); have q732 : t731 < (l1.length : Int) := of_decide_eq_true (by first | (with_reducible assumption) | assumption); obtain ⟨ad732, e732, hx732_0⟩ := Kd.at_bool HR1.out t731 p732 q732; cases e732; replace hx732_0 := (HB.out.cell (World.block_lt_of_cell? w _ hx732_0)).trans hx732_0; replace p732 := eq_true p732; replace q732 := eq_true q732))
        go_ret
        exact ⟨by first | rfl | (simp [errW_none, errW_some] <;> rfl) | (simp [*, errW_none, errW_some] <;> rfl), by repeat (first | (with_reducible first | exact HB.out | apply below_alloc | apply pw_below_drewN | apply below_drew1) | exact HB.out)⟩
      · rw [if_neg c7] at H
        exact absurd H (by simp)
    · rw [if_neg c6] at H
      have c6b0 : decide (t731 < (l1.length : Int)) = false := decide_eq_false c6
      clear c6
      obtain rfl := Option.some.inj H
      go_enter Tryz.func79, Tryz.ntmps79
      go_wp2_with (first | ((with_reducible refine gate_callee (f := 64) rfl ?_); refine goesL_ (some 7) rfl rfl Tryz.func64 (by kernel_rfl) rfl #[.int .i64 a0, .int .i64 65536] rfl (by (try simp only [List.map_toArray, List.map_cons, List.map_nil]); first | done | rfl | (simp only [List.length_drop, List.length_take]; rfl)) ?_; (with_reducible refine (cnf_lit_may.calls a0 65536 true _ A3.out).mono ?_); rintro e w' ⟨rfl, ⟨nd, rfl⟩⟩; refine ⟨_, rfl, ?_⟩) | ((with_reducible refine gate_callee (f := 69) rfl ?_); refine goesL_ (some 10) rfl rfl Tryz.func69 (by kernel_rfl) rfl #[.int .i64 a0] rfl (by (try simp only [List.map_toArray, List.map_cons, List.map_nil]); first | done | rfl | (simp only [List.length_drop, List.length_take]; rfl)) ?_; (with_reducible refine (cnf_lit_of.calls a0 t731 _ A5.out).mono ?_); rintro e w9 ⟨rfl, hb⟩; refine ⟨_, rfl, ?_⟩; have n0_ := Aside0.mk (below_step (by repeat (first | (with_reducible first | exact HB.out | apply below_alloc | apply pw_below_drewN | apply below_drew1) | exact HB.out)) hb); clear HB; have HB := n0_; clear n0_; (try clear hb); (try clear hb2); (try clear hk); (try clear hi)))
      go_ret
      exact ⟨by first | rfl | (simp [errW_none, errW_some] <;> rfl) | (simp [*, errW_none, errW_some] <;> rfl), by repeat (first | (with_reducible first | exact HB.out | apply below_alloc | apply pw_below_drewN | apply below_drew1) | exact HB.out)⟩
  · replace c4 := Bool.eq_false_iff.mpr c4
    subst c4
    have H1 : (some false) = some r := by rw [if_neg (show ¬ (false = true) by decide)] at H; exact H
    clear H
    have H := H1
    clear H1
    obtain rfl := Option.some.inj H
    go_enter Tryz.func79, Tryz.ntmps79
    go_wp2_with (first | ((with_reducible refine gate_callee (f := 64) rfl ?_); refine goesL_ (some 7) rfl rfl Tryz.func64 (by kernel_rfl) rfl #[.int .i64 a0, .int .i64 65536] rfl (by (try simp only [List.map_toArray, List.map_cons, List.map_nil]); first | done | rfl | (simp only [List.length_drop, List.length_take]; rfl)) ?_; (with_reducible refine (cnf_lit_may.calls a0 65536 false _ A3.out).mono ?_); rintro e w' ⟨rfl, ⟨nd, rfl⟩⟩; refine ⟨_, rfl, ?_⟩))
    go_ret
    exact ⟨by first | rfl | (simp [errW_none, errW_some] <;> rfl) | (simp [*, errW_none, errW_some] <;> rfl), by repeat (first | (with_reducible first | exact HB.out | apply below_alloc | apply pw_below_drewN | apply below_drew1) | exact HB.out)⟩

end Go.Proofs.YtcdhhaedgohlgaaGreatDoor.P
end

section
namespace Go.Proofs.YtcdhhaedgohlgaaGreatDoor.P
open Go.RowKit Go.Proofs.YtcdhhaedgohlgaaGreatDoorW.PrintWords Go.Proofs.YtcdhhaedgohlgaaGreatDoorW.PrintLast Go.Proofs.YtcdhhaedgohlgaaGreatDoorW.PrintMore
set_option linter.unusedVariables false
set_option linter.unusedSimpArgs false

/-- x is a literal of one of the variables 1 to n. -/
def litB (n x : Int) : Bool := x != 0 && decide (-n ≤ x) && decide (x ≤ n)

theorem may_litB (x n : Int) (h0 : -9223372036854775807 ≤ n) (h1 : n ≤ 9223372036854775807) : cnf_lit_may.f x n = some (litB n x) := by
  have hw : wrap64 (-n) = -n := by unfold wrap64; omega
  unfold cnf_lit_may.f litB
  rw [hw]
  by_cases e : x = 0
  · simp [e]
  · by_cases e2 : -n ≤ x <;> simp [e, e2]

set_option maxHeartbeats 1000000 in
theorem Check1_calls (x N : Int) (ad : Addr) (w : World) (hc : w.cell? ad = some (.int .i64 N)) (hs : ad.spot = none) (h0 : 0 ≤ N) (h1 : N ≤ 65536) :
    Calls Tryz.prog 74 #[.int .i64 x, .pointer (some ad)] w fun e w' => e = .returned (.bool (!litB N x)) ∧ Below w.heap.size w w' := by
  have HM := Aside0.mk (cnf_lit_may.calls x N (litB N x) w (may_litB x N (by omega) (by omega)))
  go_enter Tryz.func74, Tryz.ntmps74
  go_wp2_with (go_at_call 64; refine (HM.out).mono ?_; rintro e w' ⟨rfl, hb⟩; have HB := Aside0.mk hb; clear hb)
  go_ret
  exact ⟨rfl, HB.out.below⟩

/-- What Check answers. -/
def checkV (N : Int) (L : List (List Int)) : Int :=
  if N < 0 ∨ 65536 < N then 1 else if L.any (fun l => l.any fun x => !litB N x) then 1 else if 65536 < L.length then 2 else 0
def cnf_Check.f (a0_0 : Int) (l0_1 : List (List Int)) : Option Int := some (checkV a0_0 l0_1)

theorem enters74 : ∀ args w, (callFunc 74 args).run Tryz.prog w = .ok (.enter 74 args) w := by
  intro args w; kernel_rfl

set_option maxHeartbeats 2000000 in
theorem cnf_Check.calls (a0_0 : Int) (A0_1 : Option Addr) (c0_1 : Nat) (l0_1 : List (List Int)) (r : Int) (w : World) (hr0_1 : Kd.C (Kd.slice 3 (Kd.int .i64)) w A0_1 l0_1.length l0_1) (hc0_1 : l0_1.length ≤ c0_1) (h : cnf_Check.f a0_0 l0_1 = some r) :
    Calls Tryz.prog 26 #[.agg #[.int .i64 a0_0, .slice A0_1 l0_1.length c0_1]] w fun e w' => e = .returned (.int .i64 r) ∧ Below w.heap.size w w' := by
  injection h with h
  subst h
  have HR := Aside0.mk hr0_1
  have hm : l0_1.length ≤ 9223372036854775807 := hr0_1.2.1
  clear hr0_1
  by_cases hN : a0_0 < 0
  · have HV : Aside0 (checkV a0_0 l0_1 = 1) := ⟨by simp [checkV, hN]⟩
    rw [HV.out]
    go_enter Tryz.func26, Tryz.ntmps26
    go_wp2
    go_ret
    exact ⟨rfl, (Below.refl _ _).alloc (Nat.le_refl _) _⟩
  by_cases hN2 : 65536 < a0_0
  · have HV : Aside0 (checkV a0_0 l0_1 = 1) := ⟨by simp [checkV, hN2]⟩
    rw [HV.out]
    go_enter Tryz.func26, Tryz.ntmps26
    go_wp2
    go_ret
    exact ⟨rfl, (Below.refl _ _).alloc (Nat.le_refl _) _⟩
  have HV : Aside0 (checkV a0_0 l0_1 = if l0_1.any (fun l => l.any fun x => !litB a0_0 x) then 1 else if 65536 < l0_1.length then 2 else 0) := ⟨by
    unfold checkV; rw [if_neg (by omega)]⟩
  generalize hv : checkV a0_0 l0_1 = v at *
  clear hv
  go_enter Tryz.func26, Tryz.ntmps26
  go_wp2
  go_loopg [16] l0_1.length (fun gg s16 wr => ∃ kk : Nat, kk ≤ l0_1.length ∧ l0_1.length - kk ≤ gg ∧ s16 = .int .i64 kk ∧ Aside0 (Below w.heap.size w wr) ∧
      Aside0 (wr.cell? ⟨w.heap.size, 0, none⟩ = some (.int .i64 a0_0) ∧ wr.cell? ⟨w.heap.size, 1, none⟩ = some (.slice A0_1 l0_1.length c0_1) ∧ w.heap.size < wr.heap.size) ∧
      Aside0 (∀ j (hj : j < l0_1.length), j < kk → (l0_1[j].any fun x => !litB a0_0 x) = false))
  case atStart => exact ⟨0, Nat.zero_le _, by omega, rfl, ⟨(Below.refl _ _).alloc (Nat.le_refl _) _⟩, ⟨by simp [go_sem], by simp [go_sem], by simp⟩, ⟨fun j _ hj => absurd hj (Nat.not_lt_zero _)⟩⟩
  case round =>
    obtain ⟨kk, hkk, hg, rfl, HB, HC, HA⟩ := hrel
    by_cases hlt : kk < l0_1.length
    · have hltz : (kk : Int) < (l0_1.length : Int) := by omega
      obtain ⟨ad, A1, c1, e1, hx, hl1, hK⟩ := at_L1 HR.out kk (by omega) (by omega)
      cases e1
      replace hx := (HB.out.cell (World.block_lt_of_cell? w _ hx)).trans hx
      have hrd : rd_L1 l0_1 kk = l0_1[kk] := by simp [rd_L1, hlt]
      rw [hrd, Int.toNat_natCast] at hx
      rw [hrd] at hl1 hK
      clear hrd
      have HF := Aside0.mk (ContainsFunc_int 74 #[.pointer (some ⟨w.heap.size, 0, none⟩)] (fun x => !litB a0_0 x) enters74 A1 c1 l0_1[kk] wr (Kd.C_below hK HB.out) hl1
        (fun W x hx hb => Check1_calls x a0_0 ⟨w.heap.size, 0, none⟩ W ((hb.cell (by exact HC.out.2.2)).trans HC.out.1) rfl hN hN2))
      clear hl1 hK
      cases hq : (l0_1[kk].any fun x => !litB a0_0 x) with
      | true =>
        have HQ := Aside0.mk hq
        clear hq
        have HV1 : Aside0 (v = 1) := ⟨by rw [HV.out, if_pos (List.any_eq_true.2 ⟨_, List.getElem_mem hlt, HQ.out⟩)]⟩
        go_wp2_with (go_at_call 73; refine (HF.out).mono ?_; rintro e w' ⟨rfl, hb⟩; rw [HQ.out]; have HB2 := Aside0.mk hb; clear hb)
        go_ret
        exact ⟨by rw [HV1.out]; rfl, below_trans' HB.out HB2.out⟩
      | false =>
        have HQ := Aside0.mk hq
        clear hq
        go_wp2_with (go_at_call 73; refine (HF.out).mono ?_; rintro e w' ⟨rfl, hb⟩; rw [HQ.out]; have HB2 := Aside0.mk hb; clear hb)
        go_roundg (l0_1.length - (kk + 1))
        case measure => omega
        case rel =>
          refine ⟨kk + 1, by omega, by omega, by go_num, ⟨below_trans' HB.out HB2.out⟩, ⟨(HB2.out.cell HC.out.2.2).trans HC.out.1, (HB2.out.cell HC.out.2.2).trans HC.out.2.1, Nat.lt_of_lt_of_le HC.out.2.2 HB2.out.size⟩, ⟨fun j hj hj2 => ?_⟩⟩
          by_cases e : j = kk
          · subst e; exact HQ.out
          · exact HA.out j hj (by omega)
    · obtain rfl : kk = l0_1.length := by omega
      have hc1 := HC.out.2.1
      have hany : (l0_1.any fun l => l.any fun x => !litB a0_0 x) = false := by
        rw [List.any_eq_false]
        intro l hl
        obtain ⟨j, hj, rfl⟩ := List.getElem_of_mem hl
        simp only [HA.out j hj hj]; simp
      have HV2 : Aside0 (v = if 65536 < l0_1.length then 2 else 0) := ⟨by rw [HV.out, hany]; rfl⟩
      clear hany
      by_cases hlen : 65536 < l0_1.length
      · go_wp2
        go_ret
        exact ⟨by rw [HV2.out, if_pos hlen]; rfl, HB.out⟩
      · go_wp2
        go_ret
        exact ⟨by rw [HV2.out, if_neg hlen]; rfl, HB.out⟩

/-- A literal is true under a. -/
def litT (x : Int) (a : List Bool) : Bool := litB 65536 x && ((decide (x.natAbs < a.length) && a.getD x.natAbs false) == decide (0 < x))

theorem litB_range {n x : Int} (h : litB n x = true) : x ≠ 0 ∧ -n ≤ x ∧ x ≤ n := by
  simpa [litB, and_assoc] using h

theorem true_litT (x : Int) (a : List Bool) : cnf_lit_true.f x a = some (litT x a) := by
  unfold cnf_lit_true.f litT
  rw [may_litB x 65536 (by omega) (by omega)]
  simp only [Option.bind_some]
  by_cases h : litB 65536 x = true
  · rw [if_pos h, h]
    obtain ⟨h0, h1, h2⟩ := litB_range h
    have hm : mx x (wrap64 (-x)) = (x.natAbs : Int) := by unfold mx wrap64; omega
    simp only [cnf_lit_of.f, Option.bind_some, hm]
    by_cases hl : x.natAbs < a.length
    · rw [if_pos (by omega), if_pos (by omega)]
      simp [rdOf, hl, List.getD_eq_getElem?_getD]
    · rw [if_neg (by omega)]
      simp [hl]
  · have h' : litB 65536 x = false := by simpa using h
    rw [if_neg h, h']
    simp

def holdsV (l : List Int) (a : List Bool) : Bool := l.any fun x => litT x a
def cnf_Holds.f (l0 : List Int) (l1 : List Bool) : Option Bool := some (holdsV l0 l1)

theorem enters78 : ∀ args w, (callFunc 78 args).run Tryz.prog w = .ok (.enter 78 args) w := by
  intro args w; kernel_rfl

set_option maxHeartbeats 1000000 in
theorem Holds1_calls (x : Int) (ad : Addr) (A : Option Addr) (c : Nat) (l : List Bool) (w : World) (hc : w.cell? ad = some (.slice A l.length c)) (hs : ad.spot = none) (hr : Kd.C Kd.bool w A l.length l) (hl : l.length ≤ c) :
    Calls Tryz.prog 78 #[.int .i64 x, .pointer (some ad)] w fun e w' => e = .returned (.bool (litT x l)) ∧ Below w.heap.size w w' := by
  have HM := Aside0.mk (cnf_lit_true.calls x A c l (litT x l) w hr hl (true_litT x l))
  clear hr
  go_enter Tryz.func78, Tryz.ntmps78
  go_wp2_with (go_at_call 79; refine (HM.out).mono ?_; rintro e w' ⟨rfl, hb⟩; have HB := Aside0.mk hb; clear hb)
  go_ret
  exact ⟨rfl, HB.out⟩

set_option maxHeartbeats 1000000 in
theorem cnf_Holds.calls (A0 : Option Addr) (c0 : Nat) (l0 : List Int) (A1 : Option Addr) (c1 : Nat) (l1 : List Bool) (r : Bool) (w : World) (hr0 : Kd.C (Kd.int .i64) w A0 l0.length l0) (hc0 : l0.length ≤ c0) (hr1 : Kd.C Kd.bool w A1 l1.length l1) (hc1 : l1.length ≤ c1) (h : cnf_Holds.f l0 l1 = some r) :
    Calls Tryz.prog 30 #[.slice A0 l0.length c0, .slice A1 l1.length c1] w fun e w' => e = .returned (.bool r) ∧ Below w.heap.size w w' := by
  injection h with h
  subst h
  have HB1 := Aside0.mk (show Below w.heap.size w (w.alloc (.cells #[.slice A1 l1.length c1] 26)) from (Below.refl _ _).alloc (Nat.le_refl _) _)
  have HF := Aside0.mk (ContainsFunc_int 78 #[.pointer (some ⟨w.heap.size, 0, none⟩)] (fun x => litT x l1) enters78 A0 c0 l0 (w.alloc (.cells #[.slice A1 l1.length c1] 26)) (Kd.C_below hr0 HB1.out) hc0
    (fun W x hx hb => Holds1_calls x ⟨w.heap.size, 0, none⟩ A1 c1 l1 W ((hb.cell (p := ⟨w.heap.size, 0, none⟩) (by simp)).trans (by simp [go_sem])) rfl (Kd.C_below (Kd.C_below hr1 HB1.out) hb) hc1))
  clear hr0 hc0 hr1
  go_enter Tryz.func30, Tryz.ntmps30
  go_wp2_with (go_at_call 73; refine (HF.out).mono ?_; rintro e w' ⟨rfl, hb⟩; have HB2 := Aside0.mk hb; clear hb)
  go_ret
  exact ⟨rfl, below_trans' HB1.out HB2.out⟩

def valueV (N : Int) (L : List (List Int)) (a : List Bool) : Bool := checkV N L == 0 && L.all fun l => holdsV l a
def cnf_Value.f (a0_0 : Int) (l0_1 : List (List Int)) (l1 : List Bool) : Option Bool := some (valueV a0_0 l0_1 l1)

theorem enters81 : ∀ args w, (callFunc 81 args).run Tryz.prog w = .ok (.enter 81 args) w := by
  intro args w; kernel_rfl

set_option maxHeartbeats 1000000 in
theorem Value1_calls (x : List Int) (A0 : Option Addr) (c0 : Nat) (ad : Addr) (A : Option Addr) (c : Nat) (l : List Bool) (w : World) (hr0 : Kd.C (Kd.int .i64) w A0 x.length x) (hl0 : x.length ≤ c0) (hc : w.cell? ad = some (.slice A l.length c)) (hs : ad.spot = none) (hr : Kd.C Kd.bool w A l.length l) (hl : l.length ≤ c) :
    Calls Tryz.prog 81 #[.slice A0 x.length c0, .pointer (some ad)] w fun e w' => e = .returned (.bool (!holdsV x l)) ∧ Below w.heap.size w w' := by
  have HM := Aside0.mk (cnf_Holds.calls A0 c0 x A c l (holdsV x l) w hr0 hl0 hr hl rfl)
  clear hr hr0
  go_enter Tryz.func81, Tryz.ntmps81
  go_wp2_with (go_at_call 30; refine (HM.out).mono ?_; rintro e w' ⟨rfl, hb⟩; have HB := Aside0.mk hb; clear hb)
  go_ret
  exact ⟨rfl, HB.out⟩

set_option maxHeartbeats 2000000 in
theorem cnf_Value.calls (a0_0 : Int) (A0_1 : Option Addr) (c0_1 : Nat) (l0_1 : List (List Int)) (A1 : Option Addr) (c1 : Nat) (l1 : List Bool) (r : Bool) (w : World) (hr0_1 : Kd.C (Kd.slice 3 (Kd.int .i64)) w A0_1 l0_1.length l0_1) (hc0_1 : l0_1.length ≤ c0_1) (hr1 : Kd.C Kd.bool w A1 l1.length l1) (hc1 : l1.length ≤ c1) (h : cnf_Value.f a0_0 l0_1 l1 = some r) :
    Calls Tryz.prog 32 #[.agg #[.int .i64 a0_0, .slice A0_1 l0_1.length c0_1], .slice A1 l1.length c1] w fun e w' => e = .returned (.bool r) ∧ Below w.heap.size w w' := by
  injection h with h
  subst h
  obtain ⟨W1, hW1⟩ : ∃ W1, W1 = (w.alloc (.cells #[.int .i64 a0_0, .slice A0_1 l0_1.length c0_1] 24)).alloc (.cells #[.slice A1 l1.length c1] 26) := ⟨_, rfl⟩
  have HB1 := Aside0.mk (show Below w.heap.size w W1 from by subst hW1; exact ((Below.refl _ _).alloc (Nat.le_refl _) _).alloc (by simp) _)
  have HK := Aside0.mk (cnf_Check.calls a0_0 A0_1 c0_1 l0_1 _ W1 (Kd.C_below hr0_1 HB1.out) hc0_1 rfl)
  have HS := Aside0.mk (show w.heap.size + 1 < W1.heap.size ∧ W1.cell? ⟨w.heap.size, 1, none⟩ = some (.slice A0_1 l0_1.length c0_1) ∧ W1.cell? ⟨w.heap.size + 1, 0, none⟩ = some (.slice A1 l1.length c1) from by subst hW1; refine ⟨by simp, by simp [go_sem], by simp [go_sem]⟩)
  have HF := Aside0.mk (fun (W : World) (hb : Below W1.heap.size W1 W) => ContainsFunc_list 81 #[.pointer (some ⟨w.heap.size + 1, 0, none⟩)] (fun x => !holdsV x l1) enters81 A0_1 c0_1 l0_1 W (Kd.C_below (Kd.C_below hr0_1 HB1.out) hb) hc0_1
    (fun W' x A c hx hb' hl hK => Value1_calls x A c ⟨w.heap.size + 1, 0, none⟩ A1 c1 l1 W' hK hl (((below_trans' hb hb').cell (p := ⟨w.heap.size + 1, 0, none⟩) HS.out.1).trans HS.out.2.2) rfl (Kd.C_below (Kd.C_below hr1 HB1.out) (below_trans' hb hb')) hc1))
  clear hr0_1 hc0_1 hr1
  have HV := Aside0.mk (show valueV a0_0 l0_1 l1 = (checkV a0_0 l0_1 == 0 && !(l0_1.any fun x => !holdsV x l1)) from by unfold valueV; rw [List.not_any_eq_all_not]; simp)
  generalize valueV a0_0 l0_1 l1 = v at *
  cases hq : checkV a0_0 l0_1 == 0 with
  | false =>
    have HQ := Aside0.mk hq
    rw [hq] at HV
    go_enter Tryz.func32, Tryz.ntmps32
    go_wp2_with (go_at_call 26; subst hW1; refine (HK.out).mono ?_; rintro e w' ⟨rfl, hb⟩; have HB2 := Aside0.mk hb; clear hb)
    go_ret
    exact ⟨by rw [HV.out]; rfl, below_trans' HB1.out HB2.out⟩
  | true =>
    have HQ := Aside0.mk hq
    rw [hq] at HV
    go_enter Tryz.func32, Tryz.ntmps32
    subst hW1
    go_wp2_with (first | (go_at_call 26; refine (HK.out).mono ?_; rintro e w' ⟨rfl, hb⟩; have HB2 := Aside0.mk hb; clear hb; have hcl := (HB2.out.cell (p := ⟨w.heap.size, 1, none⟩) (Nat.lt_trans (Nat.lt_succ_self _) HS.out.1)).trans HS.out.2.1) | (go_at_call 82; refine (HF.out _ HB2.out).mono ?_; rintro e w2 ⟨rfl, hb⟩; have HB3 := Aside0.mk hb; clear hb))
    go_ret
    exact ⟨by rw [HV.out]; rfl, below_trans' HB1.out (below_trans' HB2.out HB3.out)⟩
end Go.Proofs.YtcdhhaedgohlgaaGreatDoor.P
end

section
namespace Go.Proofs.YtcdhhaedgohlgaaGreatDoor.P
set_option linter.unusedVariables false

/-- x is open under T. -/
def Opn (T : Int → Prop) (x : Int) : Prop := litB 65536 x = true ∧ ¬ T x ∧ ¬ T (-x)
/-- A clause neither forces nor fails under T. -/
def Quiet (T : Int → Prop) (l : List Int) : Prop :=
  (∃ x, x ∈ l ∧ litB 65536 x = true ∧ T x ∧ ¬ T (-x)) ∨ ∃ x y, x ∈ l ∧ y ∈ l ∧ x ≠ y ∧ Opn T x ∧ Opn T y

def Cons (U : Int → Prop) : Prop := ∀ x, U x → ¬ U (-x)
/-- A set of truths at rest, in which l is false. -/
def Rest (c : List (List Int)) (l : List Int) (U : Int → Prop) : Prop := Cons U ∧ (∀ x, x ∈ l → litB 65536 x = true → U (-x)) ∧ ∀ m, m ∈ c → Quiet U m
end Go.Proofs.YtcdhhaedgohlgaaGreatDoor.P
end

section
namespace Go.Proofs.YtcdhhaedgohlgaaGreatDoor.P
open Go.RowKit Go.Proofs.YtcdhhaedgohlgaaGreatDoorW.PrintWords Go.Proofs.YtcdhhaedgohlgaaGreatDoorW.PrintLast Go.Proofs.YtcdhhaedgohlgaaGreatDoorW.PrintMore
set_option linter.unusedVariables false
set_option linter.unusedSimpArgs false

/-- A slice's head with what it reads. -/
abbrev HX := Option Addr × Nat × List Int
def encX (x : HX) : Value := .slice x.1 x.2.2.length x.2.1
def RX (w : World) (base : Nat) (v : Value) (l : List HX) : Prop := w.ownsRow base 25 1 v l.length (l.map encX)
def readX (l : List HX) : List (List Int) := l.map fun x => x.2.2

theorem infoI25 : ∃ i0, Tryz.prog.info? 25 = some i0 ∧ i0.zero = some (.slice none 0 0) ∧ i0.size = 1 ∧ i0.bytes = 24 := by
  have h : (Tryz.prog.info? 25).map (fun i => (i.zero, i.size, i.bytes)) = some (some (.slice none 0 0), 1, 24) := by kernel_rfl
  cases hi : Tryz.prog.info? 25 with
  | none => rw [hi] at h; cases h
  | some i0 =>
    rw [hi] at h
    injection h with h
    injection h with h1 h
    injection h with h2 h3
    exact ⟨i0, rfl, h1, h2, h3⟩

theorem RX.nil (w : World) (base : Nat) : RX w base (.slice none 0 0) [] := ⟨rfl, .inl ⟨rfl, rfl⟩⟩
theorem RX.at {w : World} {base : Nat} {v : Value} {l : List HX} (h : RX w base v l) {i : Nat} (hi : i < l.length) :
    ∃ g cap, v = .slice (some ⟨g, 0, none⟩) l.length cap ∧ base ≤ g ∧ w.cell? ⟨g, i, none⟩ = some (encX l[i]) ∧ l.length ≤ cap ∧ cap ≤ maxLen := by
  obtain ⟨h1, h2⟩ := h
  rcases h2 with ⟨_, h0⟩ | ⟨g, cap, cur, rfl, hb, hg, hn, hm, hs, ht⟩
  · omega
  · refine ⟨g, cap, rfl, hb, ?_, hn, hm⟩
    have hi2 : i < cur.size := by omega
    have e : cur[i]? = some (encX l[i]) := by
      have : (cur.toList.take (l.length * 1))[i]? = some (encX l[i]) := by rw [ht]; simp [hi]
      rw [List.getElem?_take, if_pos (by omega)] at this
      simpa using this
    unfold World.cell?
    rw [hg]
    exact e
end Go.Proofs.YtcdhhaedgohlgaaGreatDoor.P
end

section
namespace Go.Proofs.YtcdhhaedgohlgaaGreatDoor.P
open Go.RowKit Go.Proofs.YtcdhhaedgohlgaaGreatDoorW.PrintWords Go.Proofs.YtcdhhaedgohlgaaGreatDoorW.PrintLast Go.Proofs.YtcdhhaedgohlgaaGreatDoorW.PrintMore
set_option linter.unusedVariables false
set_option linter.unusedSimpArgs false

theorem addP2 (b o j : Nat) : (⟨b, o, none⟩ : Addr).add j = ⟨b, o + j, none⟩ := by
  unfold Addr.add
  split
  · rename_i h0; subst h0; rfl
  · rfl
def GoodC (w : World) (l : List HX) : Prop := ∀ x ∈ l, x.2.2.length ≤ x.2.1 ∧ Kd.C (Kd.int .i64) w x.1 x.2.2.length x.2.2
theorem GoodC.append {w : World} {l m : List HX} (h : GoodC w l) (k : GoodC w m) : GoodC w (l ++ m) := fun x hx => (List.mem_append.1 hx).elim (h x) (k x)
theorem readX_append (l m : List HX) : readX (l ++ m) = readX l ++ readX m := by simp [readX]
theorem readX_len (l : List HX) : (readX l).length = l.length := by simp [readX]
theorem heads_of_C2 {w : World} {A : Option Addr} {c : List (List Int)} (h : Kd.C (Kd.slice 3 (Kd.int .i64)) w A c.length c) :
    ∃ l : List HX, readX l = c ∧ GoodC w l ∧ (A = none → l = []) ∧ ∀ ad, A = some ad → ∀ j u, (l.map encX)[j]? = some u → w.cell? (ad.add j) = some u := by
  have hx : ∀ j : Nat, ∃ x : HX, j < c.length → x.2.2 = c.getD j [] ∧ (x.2.2.length ≤ x.2.1 ∧ Kd.C (Kd.int .i64) w x.1 x.2.2.length x.2.2) ∧ ∃ ad : Addr, A = some ad ∧ w.cell? (ad.add j) = some (encX x) := by
    intro j
    by_cases hj : j < c.length
    · obtain ⟨ad, A0, c0, e, hc, hl, hK⟩ := at_L1 h (j : Int) (by omega) (by omega)
      have hrd : rd_L1 c (j : Int) = c.getD j [] := rfl
      rw [hrd, Int.toNat_natCast] at hc
      rw [hrd] at hK hl
      exact ⟨(A0, c0, c.getD j []), fun _ => ⟨rfl, ⟨hl, hK⟩, ad, e, hc⟩⟩
    · exact ⟨(none, 0, []), fun h => absurd h hj⟩
  obtain ⟨f, hf⟩ := Classical.axiomOfChoice hx
  refine ⟨(List.range c.length).map f, ?_, ?_, ?_, ?_⟩
  · refine List.ext_getElem (by simp [readX]) fun j h1 h2 => ?_
    have hj : j < c.length := h2
    simp only [readX, List.getElem_map, List.getElem_range]
    rw [(hf j hj).1]
    simp [List.getD_eq_getElem?_getD, hj]
  · intro x hxm
    obtain ⟨j, hj, rfl⟩ := List.mem_map.1 hxm
    exact (hf j (List.mem_range.1 hj)).2.1
  · intro hA
    have : c.length = 0 := by
      rcases Nat.eq_zero_or_pos c.length with h0 | h0
      · exact h0
      · obtain ⟨_, _, ad, e, _⟩ := hf 0 h0
        rw [hA] at e
        cases e
    rw [this]; rfl
  · intro ad hA j u hu
    have hj : j < c.length := by
      have := (List.getElem?_eq_some_iff.1 hu).1
      simpa using this
    obtain ⟨_, _, ad', ea, hc⟩ := hf j hj
    rw [hA] at ea
    injection ea with ea
    subst ea
    rw [hc, ← hu]
    simp [hj]
/-- Elements appended out of a slice that came in: the run. -/
theorem run_append_heads (W : World) (base : Nat) (ty : TypeId) (v : Value) (lv lx : List HX) (A1 : Option Addr) (c1 : Nat) (hO : RX W base v lv) (hbase : base ≤ W.heap.size) (hnil : A1 = none → lx = [])
    (hc : ∀ ad, A1 = some ad → ∀ j u, (lx.map encX)[j]? = some u → W.cell? (ad.add j) = some u) (hl : lv.length + lx.length ≤ 1000000) :
    ∃ v1 w1, (Builtin.append_ #[22, 22] ty #[v, .slice A1 lx.length c1]).run Tryz.prog W = .ok v1 w1 ∧ RX w1 base v1 (lv ++ lx) ∧ W.grownBy w1 v.ownBlock ∧ (v1.ownBlock = v.ownBlock ∨ ∃ b, v1.ownBlock = some b ∧ W.heap.size ≤ b) := by
  obtain ⟨i0, hi, hz0, hz1, hz2⟩ := infoI25
  cases A1 with
  | none =>
    have hx := hnil rfl
    subst hx
    refine ⟨v, W, ?_, by rw [List.append_nil]; exact hO, ⟨rfl, rfl, rfl, Nat.le_refl _, fun _ _ _ => rfl⟩, .inl rfl⟩
    rcases hO.2 with ⟨rfl, h0⟩ | ⟨g, cap, cur, rfl, _, _, hnc, _⟩
    · simp [Builtin.append_, run_underlying Tryz.underlying22, sizeOf, typeInfo, hi, Builtin.lenOf, Builtin.firstCells]
    · simp [Builtin.append_, run_underlying Tryz.underlying22, sizeOf, typeInfo, hi, Builtin.lenOf, Builtin.firstCells, hnc, storeCells]
  | some ad =>
    obtain ⟨v1, w1, hr, hown, hg, _, hat⟩ := run_append_own_at (P := Tryz.prog) W base 22 ty 25 i0 (.slice none 0 0) 1 24 Tryz.underlying22 hi hz0 hz1 hz2 rfl (by decide) v lv.length (lv.map encX) hO ad lx.length c1 (lx.map encX) (by simp)
      (hc ad rfl) (by intro u hu; obtain ⟨x, _, rfl⟩ := List.mem_map.1 hu; rfl) (by unfold maxLen; omega) (by omega) hbase
    refine ⟨v1, w1, hr, ?_, hg, ?_⟩
    · unfold RX
      rw [List.length_append, List.map_append]
      exact hown
    · rcases hat with hat | hat
      · exact .inl hat
      · exact .inr ⟨_, hat, Nat.le_refl _⟩
theorem RX.ne {W : World} {base : Nat} {v : Value} {l : List HX} (h : RX W base v l) {g : Nat} {cs : Array Value} {fr : Nat × Nat} (hg : W.heap[g]? = some (.cells cs 24 fr)) : some g ≠ v.ownBlock := by
  rcases h.2 with ⟨rfl, _⟩ | ⟨g', cap, cur, rfl, _, hg', _⟩
  · simp [Value.ownBlock]
  · intro e
    simp [Value.ownBlock] at e
    subst e
    rw [hg] at hg'
    simp at hg'
theorem RX.form {w : World} {base : Nat} {v : Value} {l : List HX} (h : RX w base v l) : ∃ p cap, v = .slice p l.length cap := by
  obtain ⟨h1, h2⟩ := h
  rcases h2 with ⟨rfl, h0⟩ | ⟨g, cap, cur, rfl, _⟩
  · exact ⟨none, 0, by rw [h0]⟩
  · exact ⟨_, cap, rfl⟩
theorem alloc2 (w : World) (o1 o2 : Obj) : ((w.alloc o1).alloc o2).heap[w.heap.size]? = some o1 ∧ ((w.alloc o1).alloc o2).heap[w.heap.size + 1]? = some o2 := by
  have key : ∀ (h : Array Obj), ((h.push o1).push o2)[h.size]? = some o1 ∧ ((h.push o1).push o2)[h.size + 1]? = some o2 := by
    intro h
    refine ⟨?_, ?_⟩ <;> (simp only [Array.getElem?_push, Array.size_push]; repeat (first | rfl | rw [if_pos (by omega)] | rw [if_neg (by omega)]))
  exact key w.heap
section
variable {ops : Array Oper} {o : Oper} {a : Act} {K : Act → World → Prop} {Q : Exit → Act → World → Prop}
/-- The same as a step of a region that draws. -/
theorem step_append_heads {W : World} (base : Nat) {E : Prop} (hw : Region.wanted o (yielded ops a.tmps) = true) (s x : Operand) (ho : o.op = .call { callee := .builtin .append, args := #[s, x], argTypes := #[22, 22] })
    (v : Value) (lv lx : List HX) (A1 : Option Addr) (c1 : Nat) (hs : a.eval s = v) (hx : a.eval x = .slice A1 lx.length c1) (hO : RX W base v lv) (hbase : base ≤ W.heap.size) (hnil : A1 = none → lx = [])
    (hc : ∀ ad, A1 = some ad → ∀ j u, (lx.map encX)[j]? = some u → W.cell? (ad.add j) = some u) (hl : lv.length + lx.length ≤ 1000000)
    (h : ∀ v1 w1, RX w1 base v1 (lv ++ lx) → W.grownBy w1 v.ownBlock → (∀ b, b < base → w1.heap[b]? = W.heap[b]?) → (∀ (g : Nat) cs fr, W.heap[g]? = some (.cells cs 24 fr) → w1.heap[g]? = some (.cells cs 24 fr)) → K (a.put o.dst v1) w1) :
    if Region.wanted o (yielded ops a.tmps) = true then Oper.wp Tryz.prog o a W K Q else E := by
  rw [if_pos hw]
  obtain ⟨v1, w1, hr, h1, h2, h3⟩ := run_append_heads W base o.type v lv lx A1 c1 hO hbase hnil hc hl
  unfold Oper.wp execOp
  simp only [ho, resolve, invoke, builtin, Sem.run_bind, Sem.run_pure, Result.andThen_ok, List.map_toArray, List.map_cons, List.map_nil, hs, hx, hr]
  exact h v1 w1 h1 h2 (fun b hb => h2.block b (by omega) (fun e => by have := (World.ownsRow.lt hO b e.symm).1; omega)) (fun g cs fr hg => (h2.block g (Array.getElem?_eq_some_iff.1 hg).1 (RX.ne hO hg)).trans hg)
end
/-- A list of lists, read off its heads. -/
theorem C_of_heads {W : World} {g n : Nat} {l : List HX} (hn : n ≤ l.length) (hm : n ≤ 9223372036854775807) (hc : ∀ i (h : i < n), W.cell? ⟨g, i, none⟩ = some (encX (l[i]'(by omega)))) (hG : GoodC W l) :
    Kd.C (Kd.slice 3 (Kd.int .i64)) W (some ⟨g, 0, none⟩) n ((readX l).take n) := by
  have hl : ((readX l).take n).length = n := by rw [List.length_take, readX_len]; omega
  refine ⟨hl, hm, fun _ => ⟨_, rfl, fun j p hp => ?_⟩⟩
  have hj : j < n := by
    have := (List.getElem?_eq_some_iff.1 hp).1
    omega
  have ep : p = (l[j]'(by omega)).2.2 := by
    rw [List.getElem?_take, if_pos hj] at hp
    unfold readX at hp
    rw [List.getElem?_map, List.getElem?_eq_getElem (by omega)] at hp
    injection hp with hp
    exact hp.symm
  have hg := hG _ (List.getElem_mem (show j < l.length by omega))
  have hcj := hc j hj
  generalize l[j]'(by omega) = x at *
  obtain ⟨a, cp, q⟩ := x
  dsimp only at *
  subst ep
  refine ⟨[.slice a p.length cp], rfl, ⟨a, cp, rfl, hg.1, hg.2⟩, fun i u hu => ?_⟩
  cases i with
  | zero =>
    injection hu with hu
    subst hu
    show W.cell? (Addr.add ⟨g, 0, none⟩ (j * 1 + 0)) = _
    rw [Nat.mul_one, Nat.add_zero, addP2, Nat.zero_add]
    exact hcj
  | succ i => simp at hu
theorem C_nil_any {W : World} (A : Option Addr) : Kd.C (Kd.slice 3 (Kd.int .i64)) W A 0 [] := ⟨rfl, Nat.zero_le _, fun h => absurd h (by simp)⟩
/-- What a row of heads reads. -/
theorem RX.C {W : World} {base : Nat} {v : Value} {l : List HX} (h : RX W base v l) (hG : GoodC W l) : ∃ A cap, v = .slice A l.length cap ∧ l.length ≤ cap ∧ ∀ n, n ≤ l.length → Kd.C (Kd.slice 3 (Kd.int .i64)) W A n ((readX l).take n) := by
  rcases Nat.eq_zero_or_pos l.length with h0 | h0
  · obtain ⟨p, cap, rfl⟩ : ∃ p cap, v = .slice p l.length cap := by
      rcases h.2 with ⟨rfl, h1⟩ | ⟨g, cap, cur, rfl, _⟩
      · exact ⟨none, 0, by rw [h1]⟩
      · exact ⟨_, cap, rfl⟩
    refine ⟨p, cap, rfl, by omega, fun n hn => ?_⟩
    obtain rfl : n = 0 := by omega
    exact C_nil_any p
  · obtain ⟨g, cap, rfl, _, _, hcap, hmx⟩ := h.at h0
    refine ⟨_, cap, rfl, hcap, fun n hn => C_of_heads hn (by unfold maxLen at hmx; omega) (fun i hi => ?_) hG⟩
    obtain ⟨g', cap', e, _, hcell, _⟩ := h.at (show i < l.length by omega)
    injection e with e
    injection e with e
    injection e with e
    subst e
    exact hcell
theorem RX_empty {W : World} {base g : Nat} (hb : base ≤ g) (hg : W.heap[g]? = some (.cells #[] 25 (0, 0))) : RX W base (.slice (some ⟨g, 0, none⟩) 0 0) [] :=
  ⟨rfl, .inr ⟨g, 0, #[], rfl, hb, hg, Nat.le_refl _, Nat.zero_le _, rfl, rfl⟩⟩
theorem RX.alloc {W : World} {base : Nat} {v : Value} {l : List HX} (h : RX W base v l) (o : Obj) : RX (W.alloc o) base v l := World.ownsRow.alloc h o
theorem RX.drew {W : World} {base : Nat} {v : Value} {l : List HX} (h : RX W base v l) : RX W.drew base v l := h
theorem RX.drewN {W : World} {base : Nat} {v : Value} {l : List HX} (h : RX W base v l) (n : Nat) : RX (W.drewN n) base v l := h
theorem RX.kept {W W1 : World} {base : Nat} {v : Value} {l : List HX} {row : Option Nat} (h : RX W base v l) (hg : W.grownBy W1 row) (hne : v.ownBlock = none ∨ v.ownBlock ≠ row) : RX W1 base v l := World.ownsRow.kept h hg hne
theorem RX.lt {W : World} {base : Nat} {v : Value} {l : List HX} (h : RX W base v l) : ∀ k, v.ownBlock = some k → base ≤ k ∧ k < W.heap.size := World.ownsRow.lt h
theorem setCell_sz (W : World) (p : Addr) (u : Value) : (W.setCell p u).heap.size = W.heap.size := by show (W.heap.modify _ _).size = _; rw [Array.size_modify]
/-- A struct of a number and a row of heads, made behind the world wd. -/
structure CJ (w wd : World) (n : Int) (g : Nat) (v : Value) (l : List HX) (W : World) : Prop where
  below : Below w.heap.size w W
  old : ∀ b, b < wd.heap.size → W.heap[b]? = wd.heap[b]?
  box : W.heap[g]? = some (.cells #[.int .i64 n, v] 24 (0, 0))
  ge : wd.heap.size ≤ g
  row : RX W wd.heap.size v l
  size : wd.heap.size ≤ W.heap.size
  ww : w.heap.size ≤ wd.heap.size
theorem CJ.alloc {w wd W : World} {n : Int} {v : Value} {l : List HX} (hb : Below w.heap.size w W) (ho : ∀ b, b < wd.heap.size → W.heap[b]? = wd.heap[b]?) (hr : RX W wd.heap.size v l) (hs : wd.heap.size ≤ W.heap.size) (hw : w.heap.size ≤ wd.heap.size) :
    CJ w wd n W.heap.size v l (W.alloc (.cells #[.int .i64 n, v] 24)) :=
  ⟨hb.alloc (by omega) _, fun b h => (Below.heap_alloc _ _ _ (by omega)).trans (ho b h), blk_new _ _, hs, hr.alloc _, by simp; omega, hw⟩
theorem CJ.set {w wd W : World} {n x : Int} {g : Nat} {v y : Value} {l : List HX} (hb : Below w.heap.size w W) (ho : ∀ b, b < wd.heap.size → W.heap[b]? = wd.heap[b]?) (hr : RX W wd.heap.size v l) (hs : wd.heap.size ≤ W.heap.size) (hw : w.heap.size ≤ wd.heap.size)
    (hg : W.heap[g]? = some (.cells #[.int .i64 x, y] 24 (0, 0))) (hge : wd.heap.size ≤ g) :
    CJ w wd n g v l ((W.setCell ⟨g, 0, none⟩ (.int .i64 n)).setCell ⟨g, 1, none⟩ v) := by
  have hne := hr.ne hg
  have hgr : ∀ (V : World) (o : Nat) (u : Value), V.grownBy (V.setCell ⟨g, o, none⟩ u) (some g) := fun V o u => ⟨rfl, rfl, rfl, (by rw [setCell_sz]; exact Nat.le_refl _), fun k _ hk => Below.heap_setCell _ _ _ k (fun e => hk (by rw [e]))⟩
  have e1 : (W.setCell ⟨g, 0, none⟩ (.int .i64 n)).heap[g]? = some (.cells #[.int .i64 n, y] 24 (0, 0)) := blk_put hg 0 _ rfl
  refine ⟨((hb.setCell (by show w.heap.size ≤ g; omega) _).setCell (by show w.heap.size ≤ g; omega) _), fun b h => ?_, blk_put e1 1 _ rfl, hge, ?_, ?_, hw⟩
  · rw [Below.heap_setCell _ _ _ b (by show b ≠ g; omega), Below.heap_setCell _ _ _ b (by show b ≠ g; omega)]
    exact ho b h
  · exact (hr.kept (hgr _ _ _) (.inr (fun e => hne e.symm))).kept (hgr _ _ _) (.inr (fun e => hne e.symm))
  · exact Nat.le_trans hs (Nat.le_trans (hgr W 0 (.int .i64 n)).size (hgr _ 1 v).size)
theorem CJ.drew {w wd W : World} {n : Int} {g : Nat} {v : Value} {l : List HX} (h : CJ w wd n g v l W) : CJ w wd n g v l W.drew :=
  ⟨below_drew1 h.below, h.old, h.box, h.ge, h.row, h.size, h.ww⟩
theorem GoodC.below {w W : World} {l : List HX} (h : GoodC w l) (hb : Below w.heap.size w W) : GoodC W l := fun x hx => ⟨(h x hx).1, Kd.C_below (h x hx).2 hb⟩
theorem RX.each {W : World} {base cap : Nat} {A : Option Addr} {l : List HX} (h : RX W base (.slice A l.length cap) l) : ∀ i (hi : i < l.length), ∃ ga, A = some ⟨ga, 0, none⟩ ∧ ga < W.heap.size ∧ W.cell? ⟨ga, i, none⟩ = some (encX l[i]) := by
  intro i hi
  obtain ⟨g, cp, e, _, hc, _⟩ := h.at hi
  injection e with e1 _ _
  exact ⟨g, e1, World.block_lt_of_cell? W ⟨g, i, none⟩ hc, hc⟩
theorem cell_one (W : World) (x : HX) : ∀ ad, some (⟨W.heap.size, 0, none⟩ : Addr) = some ad → ∀ j u, ([x].map encX)[j]? = some u → (W.alloc (.cells #[encX x] 25)).cell? (ad.add j) = some u := by
  intro ad hA j u hu
  cases hA
  cases j with
  | zero =>
    have e : ((W.alloc (.cells #[encX x] 25)).heap)[W.heap.size]? = some (.cells #[encX x] 25 (0, 0)) := blk_new W _
    have h := blk_cell e 0
    rw [addP2]
    refine h.trans ?_
    simpa using hu
  | succ j => simp at hu
theorem CJ.push {w wc W W0 w1 : World} {n : Int} {v v1 : Value} {l l1 : List HX} (h : CJ w wc n wc.heap.size v l W) (hB : Below wc.heap.size wc W) (h0 : Below W.heap.size W W0) (hR : RX w1 wc.heap.size v1 l1) (hg : W0.grownBy w1 v.ownBlock) :
    w1.heap[wc.heap.size]? = some (.cells #[.int .i64 n, v] 24 (0, 0)) ∧ CJ w wc n wc.heap.size v1 l1 (w1.setCell ⟨wc.heap.size, 1, none⟩ v1) ∧ Below wc.heap.size wc (w1.setCell ⟨wc.heap.size, 1, none⟩ v1) := by
  have hlt : wc.heap.size < W.heap.size := (Array.getElem?_eq_some_iff.1 h.box).1
  have hlt0 : wc.heap.size < W0.heap.size := Nat.lt_of_lt_of_le hlt h0.size
  have hlt1 : wc.heap.size < w1.heap.size := Nat.lt_of_lt_of_le hlt0 hg.size
  have hbx : w1.heap[wc.heap.size]? = some (.cells #[.int .i64 n, v] 24 (0, 0)) := (hg.block _ hlt0 (fun e => RX.ne h.row h.box e)).trans ((h0.block _ hlt).trans h.box)
  have hold : ∀ b, b < wc.heap.size → w1.heap[b]? = wc.heap[b]? := fun b hb => (hg.block b (by omega) (fun e => by have := (h.row.lt b e.symm).1; omega)).trans ((h0.block b (by omega)).trans (hB.block b hb))
  have hBx : Below wc.heap.size wc w1 := ⟨hg.os.trans (h0.os.trans hB.os), hg.tape.trans (h0.tape.trans hB.tape), hg.output.trans (h0.output.trans hB.output), Nat.le_of_lt hlt1, hold⟩
  have hBw : Below w.heap.size w w1 := by
    refine ⟨hg.os.trans (h0.os.trans h.below.os), hg.tape.trans (h0.tape.trans h.below.tape), hg.output.trans (h0.output.trans h.below.output), ?_, fun k hk => ?_⟩
    · have h1 := h.below.size
      have h2 := h0.size
      have h3 := hg.size
      omega
    · have hkW : k < W.heap.size := Nat.lt_of_lt_of_le hk h.below.size
      refine (hg.block k (Nat.lt_of_lt_of_le hkW h0.size) (fun e => ?_)).trans ((h0.block k hkW).trans (h.below.block k hk))
      have := (h.row.lt k e.symm).1
      have h4 := h.below.size
      have : w.heap.size ≤ wc.heap.size := h.ww
      omega
  have hne := hR.ne hbx
  have hgr : w1.grownBy (w1.setCell ⟨wc.heap.size, 1, none⟩ v1) (some wc.heap.size) := ⟨rfl, rfl, rfl, (by rw [setCell_sz]; exact Nat.le_refl _), fun k _ hk => Below.heap_setCell _ _ _ k (fun e => hk (by rw [e]))⟩
  refine ⟨hbx, ⟨hBw.setCell (by exact h.ww) _, fun b hb => ?_, blk_put hbx 1 _ rfl, Nat.le_refl _, hR.kept hgr (.inr (fun e => hne e.symm)), ?_, h.ww⟩, hBx.setCell (by exact Nat.le_refl _) _⟩
  · rw [Below.heap_setCell _ _ _ b (by show b ≠ wc.heap.size; omega)]
    exact hold b hb
  · rw [setCell_sz]
    exact Nat.le_of_lt hlt1
theorem take_rev_succ {α : Type} (l : List α) (j i : Nat) (hi : i = l.length - 1 - j) (hj : j < l.length) (hil : i < l.length) (e : α) (he : e = l[i]) : l.reverse.take (j + 1) = l.reverse.take j ++ [e] := by
  have h : j < l.reverse.length := by simpa using hj
  rw [List.take_succ_eq_append_getElem h, List.getElem_reverse]
  subst hi
  rw [he]
theorem GoodC.reverse {W : World} {l : List HX} (h : GoodC W l) : GoodC W l.reverse := fun x hx => h x (List.mem_reverse.1 hx)
theorem and16 (k : Int) : ∃ m : Nat, m ≤ 65535 ∧ bits BinOp.and IntKind.i64 k 65535 = (m : Int) := by
  have h : (BitVec.ofInt 64 k &&& BitVec.ofInt 64 65535).toNat ≤ 65535 := by
    rw [BitVec.toNat_and]
    exact Nat.and_le_right
  refine ⟨(BitVec.ofInt 64 k &&& BitVec.ofInt 64 65535).toNat, h, ?_⟩
  show IntKind.wrap .i64 (((BitVec.ofInt 64 k &&& BitVec.ofInt 64 65535).toNat : Nat) : Int) = _
  generalize (BitVec.ofInt 64 k &&& BitVec.ofInt 64 65535).toNat = m at *
  have h1 : ((m : Int) % (2 ^ IntKind.bits .i64 : Int)) = m := by
    show (m : Int) % (2 ^ 64 : Int) = m
    omega
  unfold IntKind.wrap
  simp only [h1]
  rw [if_neg]
  intro hc
  simp only [Bool.and_eq_true, decide_eq_true_eq] at hc
  have h2 : (2 ^ (IntKind.bits .i64 - 1) : Int) = 9223372036854775808 := by decide
  have h3 := hc.2
  rw [h2] at h3
  omega
theorem cut16 (k : Int) (n : Nat) : ∃ a : Nat, a ≤ n ∧ (bits BinOp.and IntKind.i64 k 65535).tmod ((n : Int) + 1) = (a : Int) := by
  obtain ⟨m, _, e⟩ := and16 k
  refine ⟨m % (n + 1), by have := Nat.mod_lt m (show 0 < n + 1 by omega); omega, ?_⟩
  rw [e]
  have : ((n : Int) + 1) = ((n + 1 : Nat) : Int) := by omega
  rw [this, Int.ofNat_tmod]
theorem below_set2 {w W : World} {g : Nat} (h : Below w.heap.size w W) (hg : w.heap.size ≤ g) (u v : Value) : Below w.heap.size w ((W.setCell ⟨g, 0, none⟩ u).setCell ⟨g, 1, none⟩ v) := (h.setCell hg u).setCell hg v
end Go.Proofs.YtcdhhaedgohlgaaGreatDoor.P
end

section
namespace Go.Proofs.YtcdhhaedgohlgaaGreatDoor.P
open Go.RowKit

abbrev tabP : String := "internal/strconv.uint64pow10"
def LaidNow (w : World) : Prop := Lib.TabIs Tryz.prog w tabP .u64 Lib.pow10Tab ∧ Lib.Utf8Tabs 3 4 w
def Laid (w : World) : Prop := ∀ w', Below w.heap.size w w' → LaidNow w'
theorem Laid.on {w w1 : World} (h : Laid w) (hb : Below w.heap.size w w1) : Laid w1 := fun w' hb' => h w' (hb.trans (hb'.mono hb.size))
theorem Laid.tab {w : World} (h : Laid w) {B : Nat} {w1 : World} (hB : w.heap.size ≤ B) (hb : Below w.heap.size w w1) : Lib.TabBelow Tryz.prog B w1 tabP .u64 Lib.pow10Tab := fun w' hb' => (h w' (hb.trans (hb'.mono hB))).1
theorem Laid.utf {w : World} (h : Laid w) {w1 : World} (hb : Below w.heap.size w w1) : Lib.Utf8Tabs 3 4 w1 := (h w1 hb).2
end Go.Proofs.YtcdhhaedgohlgaaGreatDoor.P
end

section
namespace Go.Proofs
open Go.Shelf
def Tryz.laysM171_ren : Go.Shelf.Ren := ⟨fun | 171 => 90 | 243 => 131 | 246 => 168 | 283 => 196 | 284 => 197 | 285 => 198 | 286 => 199 | 129 => 164 | 317 => 218 | 318 => 219 | 319 => 220 | 320 => 221 | 337 => 232 | 338 => 233 | n => n, fun | 3 => 3 | 9 => 9 | 2 => 2 | 4 => 4 | 171 => 193 | 0 => 0 | 53 => 171 | 37 => 41 | 5 => 5 | 173 => 195 | 212 => 211 | 51 => 169 | 20 => 20 | 213 => 212 | 46 => 144 | 232 => 239 | 233 => 240 | n => n, fun | 17 => 2 | 18 => 7 | 19 => 8 | n => n⟩
theorem Tryz.laysM171 : Go.Proofs.LaysM.n171 Tryz.prog Tryz.laysM171_ren := {
  mixed := by kernel_rfl
  f129 := Tryz.func164.trans (congrArg some (by kernel_rfl))
  f171 := Tryz.func90.trans (congrArg some (by kernel_rfl))
  f243 := Tryz.func131.trans (congrArg some (by kernel_rfl))
  f246 := Tryz.func168.trans (congrArg some (by kernel_rfl))
  f283 := Tryz.func196.trans (congrArg some (by kernel_rfl))
  f284 := Tryz.func197.trans (congrArg some (by kernel_rfl))
  f285 := Tryz.func198.trans (congrArg some (by kernel_rfl))
  f286 := Tryz.func199.trans (congrArg some (by kernel_rfl))
  f317 := Tryz.func218.trans (congrArg some (by kernel_rfl))
  f318 := Tryz.func219.trans (congrArg some (by kernel_rfl))
  f319 := Tryz.func220.trans (congrArg some (by kernel_rfl))
  f320 := Tryz.func221.trans (congrArg some (by kernel_rfl))
  f337 := Tryz.func232.trans (congrArg some (by kernel_rfl))
  f338 := Tryz.func233.trans (congrArg some (by kernel_rfl))
  t0 := Tryz.underlying0
  a0 := Tryz.isAgg0
  z0 := Tryz.sizeOf0
  v0 := Tryz.zeroValue0
  t2 := Tryz.underlying2
  a2 := Tryz.isAgg2
  z2 := Tryz.sizeOf2
  v2 := Tryz.zeroValue2
  t3 := Tryz.underlying3
  a3 := Tryz.isAgg3
  z3 := Tryz.sizeOf3
  v3 := Tryz.zeroValue3
  t4 := Tryz.underlying4
  a4 := Tryz.isAgg4
  z4 := Tryz.sizeOf4
  v4 := Tryz.zeroValue4
  t5 := Tryz.underlying5
  a5 := Tryz.isAgg5
  z5 := Tryz.sizeOf5
  v5 := Tryz.zeroValue5
  t9 := Tryz.underlying9
  a9 := Tryz.isAgg9
  z9 := Tryz.sizeOf9
  v9 := Tryz.zeroValue9
  t20 := Tryz.underlying20
  a20 := Tryz.isAgg20
  z20 := Tryz.sizeOf20
  v20 := Tryz.zeroValue20
  t37 := Tryz.underlying41
  a37 := Tryz.isAgg41
  z37 := Tryz.sizeOf41
  v37 := Tryz.zeroValue41
  t46 := Tryz.underlying144
  a46 := Tryz.isAgg144
  z46 := Tryz.sizeOf144
  v46 := Tryz.zeroValue144
  t51 := Tryz.underlying169
  a51 := Tryz.isAgg169
  z51 := Tryz.sizeOf169
  v51 := Tryz.zeroValue169
  t53 := Tryz.underlying171
  a53 := Tryz.isAgg171
  z53 := Tryz.sizeOf171
  v53 := Tryz.zeroValue171
  t171 := Tryz.underlying193
  a171 := Tryz.isAgg193
  z171 := Tryz.sizeOf193
  v171 := Tryz.zeroValue193
  t173 := Tryz.underlying195
  a173 := Tryz.isAgg195
  z173 := Tryz.sizeOf195
  v173 := Tryz.zeroValue195
  t212 := Tryz.underlying211
  a212 := Tryz.isAgg211
  z212 := Tryz.sizeOf211
  v212 := Tryz.zeroValue211
  t213 := Tryz.underlying212
  a213 := Tryz.isAgg212
  z213 := Tryz.sizeOf212
  t232 := Tryz.underlying239
  a232 := Tryz.isAgg239
  z232 := Tryz.sizeOf239
  v232 := Tryz.zeroValue239
  t233 := Tryz.underlying240
  a233 := Tryz.isAgg240
  z233 := Tryz.sizeOf240
  v233 := Tryz.zeroValue240
  g17 := by kernel_rfl
  g18 := by kernel_rfl
  g19 := by kernel_rfl
  i0 := by kernel_rfl
  i2 := by kernel_rfl
  i3 := by kernel_rfl
  i4 := by kernel_rfl
  i5 := by kernel_rfl
  i9 := by kernel_rfl
  i20 := by kernel_rfl
  i37 := by kernel_rfl
  i46 := by kernel_rfl
  i51 := by kernel_rfl
  i53 := by kernel_rfl
  i171 := by kernel_rfl
  i173 := by kernel_rfl
  i212 := by kernel_rfl
  i232 := by kernel_rfl
  i233 := by kernel_rfl
  m17 := by kernel_rfl
  m18 := by kernel_rfl
  m19 := by kernel_rfl }
open Go.RowKit Go.Sort Go.Lib in
/-- strconv.Itoa: "Itoa is equivalent to FormatInt(int64(i), 10).": i's DECIMAL NUMERAL ('Lib.itoa': a '-' where i is negative, then the digits), FOR EVERY int. The world behind the call: the world before it, new blocks behind the heap (the library's 'var a [24]byte'), draws. (LAID: no walk: one application.) -/
theorem Tryz.strconv_Itoa (n : Int) (h0 : -9223372036854775808 ≤ n) (h1 : n ≤ 9223372036854775807) (w : World) (htab : Lib.TabIs Tryz.prog w "internal/strconv.uint64pow10" .u64 Lib.pow10Tab) :
    Calls Tryz.prog 90 #[.int .i64 n] w fun e w' => e = .returned (.string ⟨(Lib.itoa n).toArray⟩) ∧ ∃ k os, w' = grow (w.drewN k) os := Any.strconv_Itoa Tryz.laysM171 n h0 h1 w htab
def Tryz.laysM179_ren : Go.Shelf.Ren := ⟨fun | 179 => 91 | 251 => 129 | 252 => 130 | 181 => 165 | 184 => 166 | 290 => 167 | 324 => 195 | n => n, fun | 130 => 145 | 5 => 5 | 75 => 101 | 0 => 0 | 93 => 99 | 91 => 97 | 3 => 3 | 131 => 111 | 4 => 4 | 37 => 41 | 20 => 20 | 80 => 244 | 9 => 9 | n => n, fun | 14 => 0 | n => n⟩
theorem Tryz.laysM179 : Go.Proofs.LaysM.n179 Tryz.prog Tryz.laysM179_ren := {
  mixed := by kernel_rfl
  f179 := Tryz.func91.trans (congrArg some (by kernel_rfl))
  f181 := Tryz.func165.trans (congrArg some (by kernel_rfl))
  f184 := Tryz.func166.trans (congrArg some (by kernel_rfl))
  f251 := Tryz.func129.trans (congrArg some (by kernel_rfl))
  f252 := Tryz.func130.trans (congrArg some (by kernel_rfl))
  f290 := Tryz.func167.trans (congrArg some (by kernel_rfl))
  f324 := Tryz.func195.trans (congrArg some (by kernel_rfl))
  t0 := Tryz.underlying0
  a0 := Tryz.isAgg0
  z0 := Tryz.sizeOf0
  v0 := Tryz.zeroValue0
  t3 := Tryz.underlying3
  a3 := Tryz.isAgg3
  z3 := Tryz.sizeOf3
  v3 := Tryz.zeroValue3
  t4 := Tryz.underlying4
  a4 := Tryz.isAgg4
  z4 := Tryz.sizeOf4
  v4 := Tryz.zeroValue4
  t5 := Tryz.underlying5
  a5 := Tryz.isAgg5
  z5 := Tryz.sizeOf5
  v5 := Tryz.zeroValue5
  t20 := Tryz.underlying20
  a20 := Tryz.isAgg20
  z20 := Tryz.sizeOf20
  v20 := Tryz.zeroValue20
  t37 := Tryz.underlying41
  a37 := Tryz.isAgg41
  z37 := Tryz.sizeOf41
  v37 := Tryz.zeroValue41
  t75 := Tryz.underlying101
  a75 := Tryz.isAgg101
  z75 := Tryz.sizeOf101
  v75 := Tryz.zeroValue101
  t91 := Tryz.underlying97
  a91 := Tryz.isAgg97
  z91 := Tryz.sizeOf97
  v91 := Tryz.zeroValue97
  t93 := Tryz.underlying99
  a93 := Tryz.isAgg99
  z93 := Tryz.sizeOf99
  v93 := Tryz.zeroValue99
  t130 := Tryz.underlying145
  a130 := Tryz.isAgg145
  z130 := Tryz.sizeOf145
  v130 := Tryz.zeroValue145
  t131 := Tryz.underlying111
  a131 := Tryz.isAgg111
  z131 := Tryz.sizeOf111
  v131 := Tryz.zeroValue111
  g14 := by kernel_rfl
  t9 := Tryz.underlying9
  a9 := Tryz.isAgg9
  z9 := Tryz.sizeOf9
  v9 := Tryz.zeroValue9
  t80 := Tryz.underlying244
  a80 := Tryz.isAgg244
  z80 := Tryz.sizeOf244
  v80 := Tryz.zeroValue244
  i0 := by kernel_rfl
  i3 := by kernel_rfl
  i4 := by kernel_rfl
  i5 := by kernel_rfl
  i9 := by kernel_rfl
  i20 := by kernel_rfl
  i37 := by kernel_rfl
  i75 := by kernel_rfl
  i80 := by kernel_rfl
  i91 := by kernel_rfl
  i93 := by kernel_rfl
  i130 := by kernel_rfl
  i131 := by kernel_rfl
  m14 := by kernel_rfl }
def Tryz.laysM178_ren : Go.Shelf.Ren := ⟨fun | 178 => 89 | 251 => 129 | 252 => 130 | 181 => 165 | 184 => 166 | 290 => 167 | 324 => 195 | n => n, fun | 130 => 145 | 9 => 9 | 3 => 3 | 75 => 101 | 0 => 0 | 93 => 99 | 91 => 97 | 131 => 111 | 4 => 4 | 37 => 41 | 20 => 20 | 80 => 244 | 5 => 5 | n => n, fun | 14 => 0 | n => n⟩
theorem Tryz.laysM178 : Go.Proofs.LaysM.n178 Tryz.prog Tryz.laysM178_ren := {
  mixed := by kernel_rfl
  f178 := Tryz.func89.trans (congrArg some (by kernel_rfl))
  f181 := Tryz.func165.trans (congrArg some (by kernel_rfl))
  f184 := Tryz.func166.trans (congrArg some (by kernel_rfl))
  f251 := Tryz.func129.trans (congrArg some (by kernel_rfl))
  f252 := Tryz.func130.trans (congrArg some (by kernel_rfl))
  f290 := Tryz.func167.trans (congrArg some (by kernel_rfl))
  f324 := Tryz.func195.trans (congrArg some (by kernel_rfl))
  t0 := Tryz.underlying0
  a0 := Tryz.isAgg0
  z0 := Tryz.sizeOf0
  v0 := Tryz.zeroValue0
  t3 := Tryz.underlying3
  a3 := Tryz.isAgg3
  z3 := Tryz.sizeOf3
  v3 := Tryz.zeroValue3
  t4 := Tryz.underlying4
  a4 := Tryz.isAgg4
  z4 := Tryz.sizeOf4
  v4 := Tryz.zeroValue4
  t9 := Tryz.underlying9
  a9 := Tryz.isAgg9
  z9 := Tryz.sizeOf9
  v9 := Tryz.zeroValue9
  t20 := Tryz.underlying20
  a20 := Tryz.isAgg20
  z20 := Tryz.sizeOf20
  v20 := Tryz.zeroValue20
  t37 := Tryz.underlying41
  a37 := Tryz.isAgg41
  z37 := Tryz.sizeOf41
  v37 := Tryz.zeroValue41
  t75 := Tryz.underlying101
  a75 := Tryz.isAgg101
  z75 := Tryz.sizeOf101
  v75 := Tryz.zeroValue101
  t91 := Tryz.underlying97
  a91 := Tryz.isAgg97
  z91 := Tryz.sizeOf97
  v91 := Tryz.zeroValue97
  t93 := Tryz.underlying99
  a93 := Tryz.isAgg99
  z93 := Tryz.sizeOf99
  v93 := Tryz.zeroValue99
  t130 := Tryz.underlying145
  a130 := Tryz.isAgg145
  z130 := Tryz.sizeOf145
  v130 := Tryz.zeroValue145
  t131 := Tryz.underlying111
  a131 := Tryz.isAgg111
  z131 := Tryz.sizeOf111
  v131 := Tryz.zeroValue111
  g14 := by kernel_rfl
  t5 := Tryz.underlying5
  a5 := Tryz.isAgg5
  z5 := Tryz.sizeOf5
  v5 := Tryz.zeroValue5
  t80 := Tryz.underlying244
  a80 := Tryz.isAgg244
  z80 := Tryz.sizeOf244
  v80 := Tryz.zeroValue244
  i0 := by kernel_rfl
  i3 := by kernel_rfl
  i4 := by kernel_rfl
  i5 := by kernel_rfl
  i9 := by kernel_rfl
  i20 := by kernel_rfl
  i37 := by kernel_rfl
  i75 := by kernel_rfl
  i80 := by kernel_rfl
  i91 := by kernel_rfl
  i93 := by kernel_rfl
  i130 := by kernel_rfl
  i131 := by kernel_rfl
  m14 := by kernel_rfl }
def Tryz.laysM183_ren : Go.Shelf.Ren := ⟨fun | 183 => 92 | n => n, fun | 130 => 145 | 37 => 41 | 0 => 0 | 93 => 99 | 3 => 3 | 5 => 5 | 91 => 97 | n => n, fun | n => n⟩
theorem Tryz.laysM183 : Go.Proofs.LaysM.n183 Tryz.prog Tryz.laysM183_ren := {
  mixed := by kernel_rfl
  f183 := Tryz.func92.trans (congrArg some (by kernel_rfl))
  t0 := Tryz.underlying0
  a0 := Tryz.isAgg0
  z0 := Tryz.sizeOf0
  v0 := Tryz.zeroValue0
  t3 := Tryz.underlying3
  a3 := Tryz.isAgg3
  z3 := Tryz.sizeOf3
  v3 := Tryz.zeroValue3
  t37 := Tryz.underlying41
  a37 := Tryz.isAgg41
  z37 := Tryz.sizeOf41
  v37 := Tryz.zeroValue41
  t93 := Tryz.underlying99
  a93 := Tryz.isAgg99
  z93 := Tryz.sizeOf99
  v93 := Tryz.zeroValue99
  t130 := Tryz.underlying145
  a130 := Tryz.isAgg145
  z130 := Tryz.sizeOf145
  v130 := Tryz.zeroValue145
  t5 := Tryz.underlying5
  a5 := Tryz.isAgg5
  z5 := Tryz.sizeOf5
  v5 := Tryz.zeroValue5
  t91 := Tryz.underlying97
  a91 := Tryz.isAgg97
  z91 := Tryz.sizeOf97
  v91 := Tryz.zeroValue97
  i0 := by kernel_rfl
  i3 := by kernel_rfl
  i5 := by kernel_rfl
  i37 := by kernel_rfl
  i91 := by kernel_rfl
  i93 := by kernel_rfl
  i130 := by kernel_rfl }
open Go.RowKit in
/-- (*bytes.Buffer).Bytes: "Bytes returns a slice of length b.Len() holding the unread portion of the buffer. .. The slice aliases the buffer content at least until the next buffer modification": A SLICE THAT OWNS THE CELLS bs ('World.ownsRow': nil where nothing was ever written). The world is as it was but for the count of draws. (LAID: no walk: one application.) -/
theorem Tryz.Buffer_Bytes (B b : Nat) (bs : List Value) (w : World) (h : Lib.IsBuffer 99 5 B b bs w) :
    Calls Tryz.prog 92 #[.pointer (some ⟨b, 0, none⟩)] w fun e w' => ∃ v, e = .returned v ∧ w'.ownsRow B 5 1 v bs.length bs ∧ ∃ n, w' = w.drewN n := Any.Buffer_Bytes Tryz.laysM183 B b bs w h
end Go.Proofs
end

section
namespace Go.Proofs.YtcdhhaedgohlgaaGreatDoor.P
open Go.RowKit Go.Proofs.YtcdhhaedgohlgaaGreatDoorW.PrintWords Go.Proofs.YtcdhhaedgohlgaaGreatDoorW.PrintLast Go.Proofs.YtcdhhaedgohlgaaGreatDoorW.PrintMore
set_option linter.unusedVariables false
set_option linter.unusedSimpArgs false
set_option maxRecDepth 100000

theorem isBuf_grow {B b : Nat} {bs : List Value} {w : World} (h : Lib.IsBuffer 99 5 B b bs w) (k : Nat) (os : Array Obj) : Lib.IsBuffer 99 5 B b bs (Go.Sort.grow (w.drewN k) os) := by
  have hlt := h.lt
  obtain ⟨hB, v, lr, hb, ho, hne⟩ := h
  exact ⟨hB, v, lr, by rw [Lib.heap_grow_old w k os b hlt]; exact hb, Lib.ownsRow_grow ho k os, hne⟩
theorem kept_grow (e : TypeId) (b : Option Nat) (w : World) (k : Nat) (os : Array Obj) : Lib.OthersKept e b w (Go.Sort.grow (w.drewN k) os) := by
  intro i o hi _ _
  have hlt : i < w.heap.size := by
    rcases Nat.lt_or_ge i w.heap.size with h | h
    · exact h
    · rw [Array.getElem?_eq_none h] at hi; cases hi
  rw [Lib.heap_grow_old w k os i hlt]
  exact hi

/-- The text that one line adds. -/
def lineB (l : List Int) (s : List UInt8) : List UInt8 := (l.flatMap fun x => Lib.itoa x ++ [32]) ++ s

/-- What a writer leaves: the buffer with more text; below it, and beside it, all as it was. -/
structure BufTo (B b : Nat) (t : List UInt8) (w w' : World) : Prop where
  buf : Lib.IsBuffer 99 5 B b (Lib.byteCells t) w'
  below : Below B w w'
  kept : Lib.OthersKept 5 (some b) w w'

theorem BufTo.trans {B b : Nat} {t t' : List UInt8} {w w1 w2 : World} (h : BufTo B b t w w1) (k : BufTo B b t' w1 w2) : BufTo B b t' w w2 := ⟨k.buf, h.below.trans k.below, h.kept.trans k.kept⟩
theorem BufTo.drewN {B b : Nat} {t : List UInt8} {w w1 : World} (h : BufTo B b t w w1) (k : Nat) : BufTo B b t w (w1.drewN k) := ⟨h.buf, pw_below_drewN h.below k, h.kept⟩
theorem BufTo.refl {B b : Nat} {t : List UInt8} {w : World} (h : Lib.IsBuffer 99 5 B b (Lib.byteCells t) w) : BufTo B b t w w := ⟨h, Below.refl _ _, Lib.OthersKept.refl _ _ _⟩

theorem wstr89 (B b : Nat) (t : List UInt8) (s : ByteArray) (w : World) (h : Lib.IsBuffer 99 5 B b (Lib.byteCells t) w) (hBw : B ≤ w.heap.size) (hlim : t.length + s.size ≤ 140737488355328) :
    Calls Tryz.prog 89 #[.pointer (some ⟨b, 0, none⟩), .string s] w fun e w' => e = .returned (.tuple #[.int .i64 s.size, .nilIface]) ∧ BufTo B b (t ++ s.data.toList) w w' := by
  refine (Any.Buffer_WriteString_kept Tryz.laysM178 B b (Lib.byteCells t) s w h hBw (Lib.byteCells_one _) (by rw [Lib.byteCells_length]; exact hlim)).mono ?_
  rintro e w' ⟨rfl, h1, h2, h3⟩
  rw [← Lib.byteCells_append] at h1
  exact ⟨rfl, h1, h2, h3⟩
theorem wbyte91 (B b : Nat) (t : List UInt8) (c : UInt8) (w : World) (h : Lib.IsBuffer 99 5 B b (Lib.byteCells t) w) (hBw : B ≤ w.heap.size) (hlim : t.length + 1 ≤ 140737488355328) :
    Calls Tryz.prog 91 #[.pointer (some ⟨b, 0, none⟩), .int .u8 (c.toNat : Int)] w fun e w' => e = .returned .nilIface ∧ BufTo B b (t ++ [c]) w w' := by
  refine (Any.Buffer_WriteByte_kept Tryz.laysM179 B b (Lib.byteCells t) c.toNat w h hBw (Lib.byteCells_one _) (by rw [Lib.byteCells_length]; exact hlim)).mono ?_
  rintro e w' ⟨rfl, h1, h2, h3⟩
  have e1 : Lib.byteCells t ++ [.int .u8 (c.toNat : Int)] = Lib.byteCells (t ++ [c]) := by rw [Lib.byteCells_append]; rfl
  rw [e1] at h1
  exact ⟨rfl, h1, h2, h3⟩
theorem itoa90 (B b : Nat) (t : List UInt8) (n : Int) (h0 : -9223372036854775808 ≤ n) (h1 : n ≤ 9223372036854775807) (w : World) (hT : Lib.TabBelow Tryz.prog B w tabP .u64 Lib.pow10Tab) (h : Lib.IsBuffer 99 5 B b (Lib.byteCells t) w) (hBw : B ≤ w.heap.size) :
    Calls Tryz.prog 90 #[.int .i64 n] w fun e w' => e = .returned (.string ⟨(Lib.itoa n).toArray⟩) ∧ BufTo B b t w w' := by
  refine (Tryz.strconv_Itoa n h0 h1 w hT.here).mono ?_
  rintro e w' ⟨rfl, k, os, rfl⟩
  exact ⟨rfl, isBuf_grow h k os, Lib.below_grow B w hBw k os, kept_grow _ _ _ _ _⟩

theorem lineB_nil (l : List Int) : (∀ x ∈ l, -9223372036854775808 ≤ x ∧ x ≤ 9223372036854775807) → (lineB l []).length ≤ 22 * l.length := by
  induction l with
  | nil => intro _; simp [lineB]
  | cons x l ih =>
    intro h
    have h1 := Lib.itoa_length_le x (h x (List.mem_cons_self ..)).1 (h x (List.mem_cons_self ..)).2
    have h2 := ih (fun y hy => h y (List.mem_cons_of_mem _ hy))
    simp [lineB] at h2 ⊢
    omega
theorem lineB_snoc (l : List Int) (x : Int) : lineB (l ++ [x]) [] = lineB l [] ++ (Lib.itoa x ++ [32]) := by simp [lineB]
theorem lineB_end (l : List Int) (s : List UInt8) : lineB l s = lineB l [] ++ s := by simp [lineB]
theorem wsp91 (B b : Nat) (t : List UInt8) (w : World) (h : Lib.IsBuffer 99 5 B b (Lib.byteCells t) w) (hBw : B ≤ w.heap.size) (hlim : t.length + 1 ≤ 140737488355328) :
    Calls Tryz.prog 91 #[.pointer (some ⟨b, 0, none⟩), .int .u8 32] w fun e w' => e = .returned .nilIface ∧ BufTo B b (t ++ [32]) w w' := wbyte91 B b t 32 w h hBw hlim
theorem wnl91 (B b : Nat) (t : List UInt8) (w : World) (h : Lib.IsBuffer 99 5 B b (Lib.byteCells t) w) (hBw : B ≤ w.heap.size) (hlim : t.length + 1 ≤ 140737488355328) :
    Calls Tryz.prog 91 #[.pointer (some ⟨b, 0, none⟩), .int .u8 10] w fun e w' => e = .returned .nilIface ∧ BufTo B b (t ++ [10]) w w' := wbyte91 B b t 10 w h hBw hlim

set_option maxHeartbeats 4000000 in
theorem line88 (B b : Nat) (t : List UInt8) (A0 : Option Addr) (c0 : Nat) (l0 : List Int) (s : ByteArray) (w : World) (h : Lib.IsBuffer 99 5 B b (Lib.byteCells t) w) (hBw : B ≤ w.heap.size) (hT : Lib.TabBelow Tryz.prog B w tabP .u64 Lib.pow10Tab)
    (hA : ∀ W, Below B w W → Lib.OthersKept 5 (some b) w W → Kd.C (Kd.int .i64) W A0 l0.length l0) (hl : ∀ x ∈ l0, -9223372036854775808 ≤ x ∧ x ≤ 9223372036854775807) (hlim : t.length + 22 * l0.length + s.size ≤ 140737488355328) :
    Calls Tryz.prog 88 #[.slice A0 l0.length c0, .string s, .pointer (some ⟨b, 0, none⟩)] w fun e w' => e = .returned (.tuple #[]) ∧ BufTo B b (t ++ lineB l0 s.data.toList) w w' := by
  have HT := Aside0.mk hT
  have HA := Aside0.mk hA
  have HL := Aside0.mk hl
  have H := Aside0.mk h
  have HB := Aside0.mk hBw
  have HLIM := Aside0.mk hlim
  have hn : l0.length < 140737488355328 := by omega
  clear hT hA hl h hBw hlim
  go_enter Tryz.func88, Tryz.ntmps88
  go_wp2
  go_loopg [9] l0.length (fun gg s9 wr => ∃ kk : Nat, kk ≤ l0.length ∧ l0.length - kk ≤ gg ∧ s9 = .int .i64 kk ∧ Aside0 (BufTo B b (t ++ lineB (l0.take kk) []) w wr))
  case atStart => exact ⟨0, Nat.zero_le _, by omega, rfl, ⟨by have := BufTo.refl H.out; simpa [lineB] using this⟩⟩
  case round =>
    obtain ⟨kk, hkk, hg, rfl, HK⟩ := hrel
    by_cases hlt : kk < l0.length
    · have hltz : (kk : Int) < (l0.length : Int) := by omega
      obtain ⟨ad, e1, hx⟩ := Kd.at_int (HA.out wr HK.out.below HK.out.kept) (kk : Int) (by omega) (by omega)
      rw [Int.toNat_natCast] at hx
      have hq : rd l0 (kk : Int) = l0.getD kk 0 := by unfold rd; rw [Int.toNat_natCast]
      rw [hq] at hx
      have hxb : -9223372036854775808 ≤ l0.getD kk 0 ∧ l0.getD kk 0 ≤ 9223372036854775807 := by
        have := HL.out l0[kk] (List.getElem_mem hlt)
        simpa [List.getD_eq_getElem?_getD, hlt] using this
      have hlen : (t ++ lineB (l0.take kk) []).length + 22 ≤ 140737488355328 := by
        have h1 := lineB_nil (l0.take kk) (fun x hx => HL.out x (List.mem_of_mem_take hx))
        have h2 : (l0.take kk).length = kk := by rw [List.length_take]; omega
        rw [h2] at h1
        have h3 := HLIM.out
        rw [List.length_append]
        omega
      have hsn : t ++ lineB (l0.take (kk + 1)) [] = t ++ lineB (l0.take kk) [] ++ Lib.itoa (l0.getD kk 0) ++ [32] := by
        have : l0.take (kk + 1) = l0.take kk ++ [l0.getD kk 0] := by
          rw [List.take_add_one, List.getElem?_eq_getElem hlt]
          simp [List.getD_eq_getElem?_getD, hlt]
        rw [this, lineB_snoc]
        simp
      have hil := Lib.itoa_length_le _ hxb.1 hxb.2
      generalize l0.getD kk 0 = x at *
      have HSN := Aside0.mk hsn
      have HLEN := Aside0.mk hlen
      have HIL := Aside0.mk hil
      have HXB := Aside0.mk hxb
      have HBr : Aside0 (B ≤ wr.heap.size) := ⟨Nat.le_trans HB.out HK.out.below.size⟩
      subst e1
      clear hsn hlen hil hxb hq
      go_wp2_with (go_at_call 90; refine ((Aside0.mk (itoa90 B b _ x HXB.out.1 HXB.out.2 wr (HT.out.on HK.out.below) HK.out.buf HBr.out)).out).mono ?_; rintro e w1 ⟨rfl, h1⟩; have H1 := Aside0.mk h1; clear h1)
      go_wp2_with (go_at_call 89; refine (wstr89 B b _ ⟨(Lib.itoa x).toArray⟩ w1 H1.out.buf (Nat.le_trans HBr.out H1.out.below.size) (by have h1 := HLEN.out; have h2 := HIL.out; show _ + (Lib.itoa x).toArray.size ≤ _; rw [List.size_toArray]; omega)).mono ?_; rintro e w2 ⟨rfl, h2⟩; have H2 := Aside0.mk (H1.out.trans h2); clear h2)
      go_wp2_with (go_at_call 91; refine (wsp91 B b _ w2 H2.out.buf (Nat.le_trans HBr.out H2.out.below.size) (by have h1 := HLEN.out; have h2 := HIL.out; rw [List.length_append]; show _ + (Lib.itoa x).toArray.toList.length + 1 ≤ _; simp only [List.toList_toArray]; omega)).mono ?_; rintro e w3 ⟨rfl, h3⟩; have H3 := Aside0.mk (H2.out.trans h3); clear h3)
      go_roundg (l0.length - (kk + 1))
      case measure => omega
      case rel =>
        refine ⟨kk + 1, by omega, by omega, by go_num, ⟨?_⟩⟩
        rw [HSN.out]
        exact HK.out.trans H3.out
    · obtain rfl : kk = l0.length := by omega
      rw [List.take_length] at HK
      have hlen : (t ++ lineB l0 []).length + s.size ≤ 140737488355328 := by
        have h1 := lineB_nil l0 HL.out
        have h3 := HLIM.out
        rw [List.length_append]
        omega
      have HLEN := Aside0.mk hlen
      clear hlen
      go_wp2_with (go_at_call 89; refine (wstr89 B b _ s wr HK.out.buf (Nat.le_trans HB.out HK.out.below.size) HLEN.out).mono ?_; rintro e w2 ⟨rfl, h2⟩; have H2 := Aside0.mk (HK.out.trans h2); clear h2)
      go_end0
      refine ⟨rfl, ?_⟩
      rw [lineB_end, ← List.append_assoc]
      exact H2.out
end Go.Proofs.YtcdhhaedgohlgaaGreatDoor.P
end

section
namespace Go.Proofs.YtcdhhaedgohlgaaGreatDoor.P
open Go.RowKit Go.Proofs.YtcdhhaedgohlgaaGreatDoorW.PrintWords Go.Proofs.YtcdhhaedgohlgaaGreatDoorW.PrintLast Go.Proofs.YtcdhhaedgohlgaaGreatDoorW.PrintMore
set_option linter.unusedVariables false

def bytesI (l : List UInt8) : List Int := l.map fun b => (b.toNat : Int)
/-- Bytes that are read. -/
abbrev CB (w : World) (A : Option Addr) (bs : List UInt8) : Prop := Kd.C (Kd.int .u8) w A bs.length (bytesI bs)
theorem bytesI_length (bs : List UInt8) : (bytesI bs).length = bs.length := by simp [bytesI]
theorem bytesI_getD (bs : List UInt8) (i : Nat) (h : i < bs.length) : (bytesI bs).getD i 0 = (bs[i].toNat : Int) := by simp [bytesI, List.getD_eq_getElem?_getD, h]
theorem bytesOf_bytesI (bs : List UInt8) : Lib.bytesOf (bytesI bs) = bs := by
  unfold Lib.bytesOf bytesI
  rw [List.map_map]
  have : ((fun n : Int => UInt8.ofNat n.toNat) ∘ fun b : UInt8 => (b.toNat : Int)) = id := by funext b; simp
  rw [this, List.map_id]

theorem CB.at_ {w : World} {A : Option Addr} {bs : List UInt8} (h : CB w A bs) (i : Nat) (hi : i < bs.length) : ∃ ad, A = some ad ∧ w.cell? (ad.add i) = some (.int .u8 (bs[i].toNat : Int)) := by
  obtain ⟨ad, e, hx⟩ := Kd.at_int h (i : Int) (by omega) (by omega)
  rw [Int.toNat_natCast] at hx
  have : rd (bytesI bs) (i : Int) = (bs[i].toNat : Int) := by unfold rd; rw [Int.toNat_natCast]; exact bytesI_getD bs i hi
  rw [this] at hx
  exact ⟨ad, e, hx⟩
theorem add_add (a : Addr) (i j : Nat) : (a.add i).add j = a.add (i + j) := by
  unfold Addr.add
  by_cases hi : i = 0
  · subst hi; simp
  · by_cases hj : j = 0
    · subst hj; simp
    · rw [if_neg hi, if_neg hj, if_neg (by omega)]; simp [Nat.add_assoc]
theorem CB.mk_ {w : World} {A : Option Addr} {bs : List UInt8} (hl : bs.length ≤ 9223372036854775807) (h : ∀ (hn : 0 < bs.length), ∃ ad, A = some ad ∧ ∀ i (hi : i < bs.length), w.cell? (ad.add i) = some (.int .u8 (bs[i].toNat : Int))) : CB w A bs := by
  refine ⟨bytesI_length bs, hl, fun hn => ?_⟩
  obtain ⟨ad, e, hc⟩ := h hn
  refine ⟨ad, e, fun j p hj => ?_⟩
  obtain ⟨hjl, hp⟩ := List.getElem?_eq_some_iff.1 hj
  have hjl' : j < bs.length := by rw [bytesI_length] at hjl; exact hjl
  have hp' : p = (bs[j].toNat : Int) := by rw [← hp]; simp [bytesI]
  refine ⟨[.int .u8 p], rfl, rfl, fun i u hi => ?_⟩
  cases i with
  | zero =>
    injection hi with hi
    subst hi
    have := hc j hjl'
    rw [hp']
    show w.cell? (ad.add (j * 1 + 0)) = _
    rw [Nat.mul_one, Nat.add_zero]
    exact this
  | succ i => simp at hi
theorem CB.some_ {w : World} {A : Option Addr} {bs : List UInt8} (h : CB w A bs) (hn : 0 < bs.length) : ∃ ad, A = some ad ∧ ∀ i (hi : i < bs.length), w.cell? (ad.add i) = some (.int .u8 (bs[i].toNat : Int)) := by
  obtain ⟨ad, e, _⟩ := h.at_ 0 hn
  refine ⟨ad, e, fun i hi => ?_⟩
  obtain ⟨ad', e', hx⟩ := h.at_ i hi
  rw [e] at e'
  injection e' with e'
  subst e'
  exact hx
theorem CB.take {w : World} {A : Option Addr} {bs : List UInt8} (h : CB w A bs) (k : Nat) : CB w A (bs.take k) := by
  refine CB.mk_ (by rw [List.length_take]; have := h.2.1; omega) (fun hn => ?_)
  have hl : (bs.take k).length ≤ bs.length := by rw [List.length_take]; omega
  obtain ⟨ad, e, hc⟩ := h.some_ (by omega)
  refine ⟨ad, e, fun i hi => ?_⟩
  rw [List.getElem_take]
  exact hc i (by omega)
theorem CB.drop {w : World} {A : Option Addr} {bs : List UInt8} (h : CB w A bs) (k : Nat) : CB w (A.map (·.add k)) (bs.drop k) := by
  refine CB.mk_ (by rw [List.length_drop]; have := h.2.1; omega) (fun hn => ?_)
  rw [List.length_drop] at hn
  obtain ⟨ad, e, hc⟩ := h.some_ (by omega)
  refine ⟨ad.add k, by rw [e]; rfl, fun i hi => ?_⟩
  rw [add_add, List.getElem_drop]
  exact hc (k + i) (by rw [List.length_drop] at hi; omega)
theorem CB.nil {w : World} {A : Option Addr} : CB w A [] := CB.mk_ (by simp) (fun hn => absurd hn (by simp))
theorem CB.below {w0 W : World} {A : Option Addr} {bs : List UInt8} (h : CB w0 A bs) (hb : Below w0.heap.size w0 W) : CB W A bs := Kd.C_below h hb

end Go.Proofs.YtcdhhaedgohlgaaGreatDoor.P
end

section
namespace Go.Proofs.YtcdhhaedgohlgaaGreatDoor.P
open Go.RowKit Go.Proofs.YtcdhhaedgohlgaaGreatDoorW.PrintWords Go.Proofs.YtcdhhaedgohlgaaGreatDoorW.PrintLast Go.Proofs.YtcdhhaedgohlgaaGreatDoorW.PrintMore
set_option linter.unusedVariables false
set_option linter.unusedSimpArgs false
set_option maxRecDepth 100000

def putSz (L : List (List Int)) : Nat := (L.map fun l => 22 * l.length + 2).sum
def pHead : List UInt8 := [112, 32, 99, 110, 102, 32]
def clausesB (L : List (List Int)) : List UInt8 := L.flatMap fun l => lineB l [48, 10]
def putText (n : Int) (L : List (List Int)) : List UInt8 := pHead ++ lineB [n] (Lib.itoa L.length) ++ [10] ++ clausesB L
def putV (n : Int) (L : List (List Int)) : List Int × Int := if checkV n L = 0 then (bytesI (putText n L), 0) else ([], checkV n L)
def cnf_Put.f (n : Int) (L : List (List Int)) : Option (List Int × Int) := if putSz L + 100 ≤ 140737488355328 then some (putV n L) else none

theorem BufTo.alloc {B b : Nat} {t : List UInt8} {w w1 : World} (h : BufTo B b t w w1) (hB : B ≤ w1.heap.size) (o : Obj) : BufTo B b t w (w1.alloc o) := by
  have e : w1.alloc o = Go.Sort.grow (w1.drewN 0) #[o] := Go.Sort.alloc_eq_grow w1 o
  exact ⟨by rw [e]; exact isBuf_grow h.buf 0 _, h.below.alloc hB o, h.kept.alloc o⟩
theorem BufTo.drew {B b : Nat} {t : List UInt8} {w w1 : World} (h : BufTo B b t w w1) : BufTo B b t w w1.drew := h.drewN 1
theorem C_one {W : World} {g : Nat} {n : Int} {t : TypeId} {fr : Nat × Nat} (h : W.heap[g]? = some (.cells #[.int .i64 n] t fr)) : Kd.C (Kd.int .i64) W (some ⟨g, 0, none⟩) 1 [n] := by
  refine ⟨rfl, by omega, fun _ => ⟨_, rfl, fun j p hj => ?_⟩⟩
  cases j with
  | zero =>
    injection hj with hj
    subst hj
    refine ⟨[.int .i64 n], rfl, rfl, fun i u hi => ?_⟩
    cases i with
    | zero =>
      injection hi with hi
      subst hi
      show W.cell? ⟨g, 0, none⟩ = _
      simp [World.cell?, h]
    | succ i => simp at hi
  | succ j => simp at hj
theorem checkV_zero {n : Int} {L : List (List Int)} (h : checkV n L = 0) : 0 ≤ n ∧ n ≤ 65536 ∧ (∀ l ∈ L, ∀ x ∈ l, litB n x = true) ∧ L.length ≤ 65536 := by
  unfold checkV at h
  split at h
  · cases h
  · split at h
    · cases h
    · split at h
      · cases h
      · rename_i h1 h2 h3
        refine ⟨by omega, by omega, fun l hl x hx => ?_, by omega⟩
        have h4 : (L.any fun l => l.any fun x => !litB n x) = false := by simpa using h2
        rw [List.any_eq_false] at h4
        have h5 := h4 l hl
        have h6 : (l.any fun x => !litB n x) = false := by simpa using h5
        rw [List.any_eq_false] at h6
        simpa using h6 x hx
theorem clausesB_snoc (L : List (List Int)) (l : List Int) : clausesB (L ++ [l]) = clausesB L ++ lineB l [48, 10] := by simp [clausesB]
theorem clausesB_len (L : List (List Int)) (h : ∀ l ∈ L, ∀ x ∈ l, -9223372036854775808 ≤ x ∧ x ≤ 9223372036854775807) : (clausesB L).length ≤ putSz L := by
  induction L with
  | nil => simp [clausesB, putSz]
  | cons l L ih =>
    have h1 := ih (fun m hm => h m (List.mem_cons_of_mem _ hm))
    have h2 := lineB_nil l (h l (List.mem_cons_self ..))
    have h3 : clausesB (l :: L) = lineB l [48, 10] ++ clausesB L := by simp [clausesB]
    have h4 : putSz (l :: L) = 22 * l.length + 2 + putSz L := by simp [putSz]
    rw [h3, h4, lineB_end, List.length_append, List.length_append]
    simp only [List.length_cons, List.length_nil]
    omega
theorem putSz_take (L : List (List Int)) (k : Nat) (hk : k < L.length) : putSz (L.take k) + (22 * (L.getD k []).length + 2) ≤ putSz L := by
  induction L generalizing k with
  | nil => simp at hk
  | cons l L ih =>
    have h4 : ∀ M : List (List Int), putSz (l :: M) = 22 * l.length + 2 + putSz M := fun M => by simp [putSz]
    cases k with
    | zero =>
      rw [h4]
      show putSz [] + (22 * l.length + 2) ≤ _
      have : putSz [] = 0 := rfl
      omega
    | succ k =>
      have := ih k (by simpa using hk)
      rw [List.take_succ_cons, h4, h4]
      show _ + (22 * (L.getD k []).length + 2) ≤ _
      omega
theorem lit_wide {n x : Int} (h : litB n x = true) (hn : n ≤ 65536) : -9223372036854775808 ≤ x ∧ x ≤ 9223372036854775807 := by
  have := (litB_range h).2
  omega

set_option maxHeartbeats 4000000 in
theorem cnf_Put.calls (a0_0 : Int) (A0_1 : Option Addr) (c0_1 : Nat) (l0_1 : List (List Int)) (r1 : List Int) (r2 : Int) (w : World) (hL : Laid w) (hr0_1 : Kd.C (Kd.slice 3 (Kd.int .i64)) w A0_1 l0_1.length l0_1) (hc0_1 : l0_1.length ≤ c0_1) (h : cnf_Put.f a0_0 l0_1 = some (r1, r2)) :
    Calls Tryz.prog 38 #[.agg #[.int .i64 a0_0, .slice A0_1 l0_1.length c0_1]] w fun e w' => ∃ v0_ : Value, e = .returned (.tuple #[v0_, .int .i64 r2]) ∧ Kd.R (Kd.int .u8) 5 w' w.heap.size (fun _ => True) v0_ r1 ∧ Below w.heap.size w w' := by
  unfold cnf_Put.f at h
  by_cases hlt : putSz l0_1 + 100 ≤ 140737488355328
  case neg => rw [if_neg hlt] at h; cases h
  rw [if_pos hlt] at h
  injection h with h
  have HLT := Aside0.mk hlt
  have HL := Aside0.mk hL
  have HR := Aside0.mk hr0_1
  have HC := Aside0.mk hc0_1
  have hm : l0_1.length ≤ 9223372036854775807 := hr0_1.2.1
  have HCK := fun W hb => Aside0.mk (cnf_Check.calls a0_0 A0_1 c0_1 l0_1 (checkV a0_0 l0_1) W (Kd.C_below HR.out hb) HC.out rfl)
  clear hL hr0_1 hlt
  unfold putV at h
  have HB1 : Aside0 (Below w.heap.size w (w.alloc (.cells #[.int .i64 a0_0, .slice A0_1 l0_1.length c0_1] 24))) := ⟨(Below.refl _ _).alloc (Nat.le_refl _) _⟩
  by_cases hq : checkV a0_0 l0_1 = 0
  · rw [if_pos hq] at h
    injection h with h h2
    subst h h2
    rw [hq] at HCK
    have HQ := Aside0.mk hq
    clear hq
    go_enter Tryz.func38, Tryz.ntmps38
    go_wp2_with (go_at_call 26; refine ((HCK _ HB1.out).out).mono ?_; rintro e w1 ⟨rfl, hb⟩; have HB2 := Aside0.mk hb; clear hb)
    have hq := checkV_zero HQ.out
    have HN := Aside0.mk (And.intro hq.1 hq.2.1)
    have HX := Aside0.mk (fun l hl x hx => lit_wide (hq.2.2.1 l hl x hx) hq.2.1)
    have hlen16 := hq.2.2.2
    clear hq
    obtain ⟨w2, hw2⟩ : ∃ w2, w2 = w1.alloc (.cells #[.slice none 0 0, .int .i64 0, .int .i8 0] 99) := ⟨_, rfl⟩
    obtain ⟨B, hB⟩ : ∃ B, B = w1.heap.size := ⟨_, rfl⟩
    have hfresh : BufTo B B [] w2 w2 := by subst hw2; subst hB; exact BufTo.refl (Lib.fresh_isBuffer 99 5 w1)
    have hBs : B ≤ w2.heap.size := by subst hw2; subst hB; simp
    have HLO : Aside0 (∀ W, Below B w2 W → Below w.heap.size w W ∧ W.cell? ⟨w.heap.size, 0, none⟩ = some (.int .i64 a0_0) ∧ W.cell? ⟨w.heap.size, 1, none⟩ = some (.slice A0_1 l0_1.length c0_1)) := ⟨by
      intro W hb
      have h1 : w.heap.size < w1.heap.size := by have := HB2.out.size; simp at this; omega
      have h12 : Below w1.heap.size w1 w2 := by subst hw2; exact (Below.refl _ _).alloc (Nat.le_refl _) _
      have hb' : Below w1.heap.size w1 W := h12.trans (by rw [← hB]; exact hb)
      have hc0 : (w.alloc (.cells #[.int .i64 a0_0, .slice A0_1 l0_1.length c0_1] 24)).cell? ⟨w.heap.size, 0, none⟩ = some (.int .i64 a0_0) := by simp [go_sem]
      have hc1 : (w.alloc (.cells #[.int .i64 a0_0, .slice A0_1 l0_1.length c0_1] 24)).cell? ⟨w.heap.size, 1, none⟩ = some (.slice A0_1 l0_1.length c0_1) := by simp [go_sem]
      exact ⟨below_trans' (below_trans' HB1.out HB2.out) hb', (hb'.cell (p := ⟨w.heap.size, 0, none⟩) h1).trans (pw_cell_below HB2.out hc0), (hb'.cell (p := ⟨w.heap.size, 1, none⟩) h1).trans (pw_cell_below HB2.out hc1)⟩⟩
    have HBW : Aside0 (w.heap.size ≤ B) := ⟨by subst hB; have := HB2.out.size; simp at this; omega⟩
    have HTB : Aside0 (Lib.TabBelow Tryz.prog B w2 tabP .u64 Lib.pow10Tab) := ⟨by
      have h1 : w.heap.size ≤ B := by subst hB; have := HB2.out.size; simp at this; omega
      exact HL.out.tab h1 (HLO.out w2 (Below.refl _ _)).1⟩
    have HB0 := Aside0.mk hBs
    have HF := Aside0.mk hfresh
    clear hfresh hBs
    rw [← hw2, ← hB]
    clear hw2 hB HB1 HCK
    go_wp2_with (go_at_call 89; refine (wstr89 B B [] ⟨#[112, 32, 99, 110, 102, 32]⟩ w2 HF.out.buf HB0.out (by decide)).mono ?_; rintro e w3 ⟨rfl, h3⟩; have H3 : Aside0 (BufTo B B pHead w2 w3) := ⟨h3⟩; clear h3; obtain ⟨hbb, hc0, hc1⟩ := HLO.out w3 H3.out.below; clear hbb)
    have hBlt : B < w3.heap.size := H3.out.buf.lt
    have HBL := Aside0.mk hBlt
    clear hBlt
    have HLT4 : B < w3.heap.size := HBL.out
    go_region_held3 (fun w' => w'.cell? ⟨w.heap.size, 0, none⟩ = some (.int .i64 a0_0) ∧ w'.cell? ⟨w.heap.size, 1, none⟩ = some (.slice A0_1 l0_1.length c0_1)) (first | exact (HLO.out _ H5.out.below).2 | exact (HLO.out _ (BufTo.below (B := B) (b := B) (t := pHead) (w := w2) (by repeat (first | (with_reducible exact H3.out) | (with_reducible exact H4.out) | (with_reducible refine BufTo.drewN ?_ _) | (with_reducible refine BufTo.drew ?_) | (with_reducible refine BufTo.alloc ?_ (by first | exact Nat.le_of_lt HBL.out | exact HB4.out) _))))).2 | go_keep) (first
      | (go_at_call 90; refine (itoa90 B B pHead (l0_1.length : Int) ?a1 ?a2 _ ?a3 ?a4 ?a5).mono ?_; (case a1 => omega); (case a2 => omega); (case a3 => exact HTB.out.on (BufTo.below (B := B) (b := B) (t := pHead) (w := w2) (by repeat (first | (with_reducible exact H3.out) | (with_reducible exact H4.out) | (with_reducible refine BufTo.drewN ?_ _) | (with_reducible refine BufTo.drew ?_) | (with_reducible refine BufTo.alloc ?_ (by first | exact Nat.le_of_lt HBL.out | exact HB4.out) _))))); (case a4 => exact BufTo.buf (B := B) (b := B) (t := pHead) (w := w2) (by repeat (first | (with_reducible exact H3.out) | (with_reducible exact H4.out) | (with_reducible refine BufTo.drewN ?_ _) | (with_reducible refine BufTo.drew ?_) | (with_reducible refine BufTo.alloc ?_ (by first | exact Nat.le_of_lt HBL.out | exact HB4.out) _)))); (case a5 => exact Nat.le_trans HB0.out (BufTo.below (B := B) (b := B) (t := pHead) (w := w2) (by repeat (first | (with_reducible exact H3.out) | (with_reducible exact H4.out) | (with_reducible refine BufTo.drewN ?_ _) | (with_reducible refine BufTo.drew ?_) | (with_reducible refine BufTo.alloc ?_ (by first | exact Nat.le_of_lt HBL.out | exact HB4.out) _)))).size); rintro e w4 ⟨rfl, h4⟩; have HS4 := Aside0.mk h4; have H4 := Aside0.mk (BufTo.trans (B := B) (b := B) (t := pHead) (w := w2) (by repeat (first | (with_reducible exact H3.out) | (with_reducible exact H4.out) | (with_reducible refine BufTo.drewN ?_ _) | (with_reducible refine BufTo.drew ?_) | (with_reducible refine BufTo.alloc ?_ (by first | exact Nat.le_of_lt HBL.out | exact HB4.out) _))) h4); have HB4 : Aside0 (B ≤ w4.heap.size) := ⟨Nat.le_trans HB0.out H4.out.below.size⟩; have HLT4 : B < w4.heap.size := H4.out.buf.lt; clear h4)
      | (go_at_call 88; refine (line88 B B pHead (some ⟨_, 0, none⟩) 1 [a0_0] ⟨(Lib.itoa l0_1.length).toArray⟩ _ ?b1 ?b2 ?b3 ?b4 ?b5 ?b6).mono ?_; (case b1 => exact BufTo.buf (B := B) (b := B) (t := pHead) (w := w2) (by repeat (first | (with_reducible exact H3.out) | (with_reducible exact H4.out) | (with_reducible refine BufTo.drewN ?_ _) | (with_reducible refine BufTo.drew ?_) | (with_reducible refine BufTo.alloc ?_ (by first | exact Nat.le_of_lt HBL.out | exact HB4.out) _)))); (case b2 => exact Nat.le_trans HB0.out (BufTo.below (B := B) (b := B) (t := pHead) (w := w2) (by repeat (first | (with_reducible exact H3.out) | (with_reducible exact H4.out) | (with_reducible refine BufTo.drewN ?_ _) | (with_reducible refine BufTo.drew ?_) | (with_reducible refine BufTo.alloc ?_ (by first | exact Nat.le_of_lt HBL.out | exact HB4.out) _)))).size); (case b3 => exact HTB.out.on (BufTo.below (B := B) (b := B) (t := pHead) (w := w2) (by repeat (first | (with_reducible exact H3.out) | (with_reducible exact H4.out) | (with_reducible refine BufTo.drewN ?_ _) | (with_reducible refine BufTo.drew ?_) | (with_reducible refine BufTo.alloc ?_ (by first | exact Nat.le_of_lt HBL.out | exact HB4.out) _))))); (case b4 => intro W hb hk; exact C_one (hk _ _ (by first | exact heap_alloc_new w3 _ | exact heap_alloc_new w4 _ | exact HS4.out.kept w3.heap.size _ (heap_alloc_new w3 _) (fun e => by injection e with e; have := HBL.out; omega) (fun c fz e => by injection e with h1 h2 h3; exact absurd h2 (by decide))) (fun e => by injection e with e; have := HBL.out; have := HLT4; omega) (fun c fz e => by injection e with h1 h2 h3; exact absurd h2 (by decide)))); (case b5 => intro x hx; rw [List.mem_singleton] at hx; subst hx; have := HN.out; omega); (case b6 => have := Lib.itoa_length_le (l0_1.length : Int) (by omega) (by omega); show 6 + 22 * 1 + (Lib.itoa l0_1.length).toArray.size ≤ _; rw [List.size_toArray]; omega); rintro e w5 ⟨rfl, h5⟩; have H5 : Aside0 (BufTo B B (pHead ++ lineB [a0_0] (Lib.itoa l0_1.length)) w2 w5) := ⟨BufTo.trans (B := B) (b := B) (t := pHead) (w := w2) (by repeat (first | (with_reducible exact H3.out) | (with_reducible exact H4.out) | (with_reducible refine BufTo.drewN ?_ _) | (with_reducible refine BufTo.drew ?_) | (with_reducible refine BufTo.alloc ?_ (by first | exact Nat.le_of_lt HBL.out | exact HB4.out) _))) h5⟩; obtain ⟨hbb, hd0, hd1⟩ := HLO.out w5 H5.out.below; clear hbb h5))
    all_goals clear hc0 hc1
    all_goals
      obtain ⟨hd, hhd⟩ : ∃ hd, hd = pHead ++ lineB [a0_0] (Lib.itoa l0_1.length) := ⟨_, rfl⟩
      have hhl : hd.length ≤ 60 := by
        have h1 := lineB_nil [a0_0] (by intro x hx; rw [List.mem_singleton] at hx; subst hx; have := HN.out; omega)
        have h2 := Lib.itoa_length_le (l0_1.length : Int) (by omega) (by omega)
        rw [hhd, lineB_end, List.length_append, List.length_append]
        simp only [List.length_singleton] at h1
        show 6 + _ ≤ _
        omega
      have HHL := Aside0.mk hhl
      have HHD := Aside0.mk hhd
      rw [← hhd] at H5
      clear hhl hhd
      go_wp2_with (go_at_call 91; refine (wnl91 B B hd w5 H5.out.buf (Nat.le_trans HB0.out H5.out.below.size) (by have := HHL.out; omega)).mono ?_; rintro e w6 ⟨rfl, h6⟩; have H6 := Aside0.mk (H5.out.trans h6); obtain ⟨hbb, he0, he1⟩ := HLO.out w6 H6.out.below; clear hbb h6 hd0 hd1)
      clear H4 HS4 H3 HBL HB4
      go_loopg [29] l0_1.length (fun gg s29 wr => ∃ kk : Nat, kk ≤ l0_1.length ∧ l0_1.length - kk ≤ gg ∧ s29 = .int .i64 kk ∧ Aside0 (BufTo B B (hd ++ [10] ++ clausesB (l0_1.take kk)) w2 wr))
      case atStart => exact ⟨0, Nat.zero_le _, by omega, rfl, ⟨by have := H6.out; simpa [clausesB] using this⟩⟩
      case round =>
        obtain ⟨kk, hkk, hg, rfl, HK⟩ := hrel
        by_cases hlt : kk < l0_1.length
        · have hltz : (kk : Int) < (l0_1.length : Int) := by omega
          obtain ⟨ad, A1, c1, e1, hx, hl1, hK⟩ := at_L1 HR.out kk (by omega) (by omega)
          subst e1
          replace hx := pw_cell_below (HLO.out wr HK.out.below).1 hx
          have hrd : rd_L1 l0_1 kk = l0_1.getD kk [] := by unfold rd_L1; rw [Int.toNat_natCast]
          rw [hrd, Int.toNat_natCast] at hx
          rw [hrd] at hl1 hK
          clear hrd
          have hmem : l0_1.getD kk [] ∈ l0_1 := by
            have : l0_1.getD kk [] = l0_1[kk] := by simp [List.getD_eq_getElem?_getD, hlt]
            rw [this]; exact List.getElem_mem hlt
          have hxx := HX.out _ hmem
          have hsz := putSz_take l0_1 kk hlt
          have hcl := clausesB_len (l0_1.take kk) (fun l hl => HX.out l (List.mem_of_mem_take hl))
          have hsn : hd ++ [10] ++ clausesB (l0_1.take (kk + 1)) = hd ++ [10] ++ clausesB (l0_1.take kk) ++ lineB (l0_1.getD kk []) [48, 10] := by
            have : l0_1.take (kk + 1) = l0_1.take kk ++ [l0_1.getD kk []] := by
              rw [List.take_add_one, List.getElem?_eq_getElem hlt]
              simp [List.getD_eq_getElem?_getD, hlt]
            rw [this, clausesB_snoc]
            simp
          have hll : (hd ++ [10] ++ clausesB (l0_1.take kk)).length + 22 * (l0_1.getD kk []).length + 2 ≤ 140737488355328 := by
            have h1 := HHL.out
            have h2 := HLT.out
            rw [List.length_append, List.length_append]
            simp only [List.length_singleton]
            omega
          generalize l0_1.getD kk [] = l at *
          have HXX := Aside0.mk hxx
          have HSN := Aside0.mk hsn
          have HLL := Aside0.mk hll
          have HKK := Aside0.mk hK
          clear hxx hsn hll hsz hcl hmem hK
          go_wp2_with (go_at_call 88; refine (line88 B B (hd ++ [10] ++ clausesB (l0_1.take kk)) A1 c1 l ⟨#[48, 10]⟩ wr HK.out.buf (Nat.le_trans HB0.out HK.out.below.size) (HTB.out.on HK.out.below) (fun W hb _ => Kd.C_below HKK.out (HLO.out W (HK.out.below.trans hb)).1) HXX.out HLL.out).mono ?_; rintro e w7 ⟨rfl, h7⟩; have H7 := Aside0.mk (HK.out.trans h7); clear h7)
          go_roundg (l0_1.length - (kk + 1))
          case measure => omega
          case rel =>
            refine ⟨kk + 1, by omega, by omega, by go_num, ⟨?_⟩⟩
            rw [HSN.out]
            exact H7.out
        · obtain rfl : kk = l0_1.length := by omega
          rw [List.take_length] at HK
          go_wp2_with (go_at_call 92; refine (Tryz.Buffer_Bytes B B _ wr HK.out.buf).mono ?_; rintro e w7 ⟨v7, rfl, hown, nq, rfl⟩; have HO := Aside0.mk hown; clear hown)
          go_ret2
          have hR : Kd.R (Kd.int .u8) 5 (wr.drewN nq) B (fun _ => True) v7 (bytesI (hd ++ [10] ++ clausesB l0_1)) := by
            refine Kd.R_of_own (enc := Value.int .u8) ?_ (fun _ _ => trivial)
            have h1 := HO.out
            have e1 : encs (Value.int .u8) (bytesI (hd ++ [10] ++ clausesB l0_1)) = Lib.byteCells (hd ++ [10] ++ clausesB l0_1) := by
              unfold encs bytesI Lib.byteCells
              rw [List.map_map]
              rfl
            rw [e1, show (bytesI (hd ++ [10] ++ clausesB l0_1)).length = (Lib.byteCells (hd ++ [10] ++ clausesB l0_1)).length by simp [bytesI, Lib.byteCells]]
            exact h1
          have hBw : w.heap.size ≤ B := HBW.out
          rw [HHD.out] at hR
          exact ⟨_, rfl, Kd.R_lower hR hBw, pw_below_drewN (HLO.out wr HK.out.below).1 _⟩
  · rw [if_neg hq] at h
    injection h with h h2
    have HQ := Aside0.mk hq
    have hqb : (checkV a0_0 l0_1 != 0) = true := bne_iff_ne.2 hq
    generalize checkV a0_0 l0_1 = v at *
    subst h h2
    clear hq
    go_enter Tryz.func38, Tryz.ntmps38
    go_wp2_with (go_at_call 26; refine ((HCK _ HB1.out).out).mono ?_; rintro e w1 ⟨rfl, hb⟩; have HB2 := Aside0.mk hb; clear hb)
    go_ret2
    exact ⟨_, rfl, Kd.R_of_own ⟨rfl, .inl ⟨rfl, rfl⟩⟩ (fun _ _ => trivial), below_trans' HB1.out HB2.out⟩
end Go.Proofs.YtcdhhaedgohlgaaGreatDoor.P
end

section
namespace Go.Proofs.YtcdhhaedgohlgaaGreatDoor.P
open Go.RowKit Go.Proofs.YtcdhhaedgohlgaaGreatDoorW.PrintWords Go.Proofs.YtcdhhaedgohlgaaGreatDoorW.PrintLast Go.Proofs.YtcdhhaedgohlgaaGreatDoorW.PrintMore
set_option linter.unusedVariables false
set_option linter.unusedSimpArgs false

theorem wrap_one {i : Int} (h0 : 0 ≤ i) (h1 : i < 9223372036854775807) : wrap64 (i + 1) = i + 1 := by unfold wrap64; omega

theorem Equal_l0 (xs ys : List Int) (hl : xs.length = ys.length) (hm : xs.length ≤ 9223372036854775807) (d : Nat) :
    ∀ (k i : Nat), i ≤ xs.length → xs.length - i = d → d < k → slices_Equal_int_int.l0 k xs ys xs.length i = some (decide (xs.drop i = ys.drop i)) := by
  induction d with
  | zero =>
    intro k i h1 h2 h3
    obtain ⟨k, rfl⟩ : ∃ m, k = m + 1 := ⟨k - 1, by omega⟩
    simp only [slices_Equal_int_int.l0]
    rw [if_neg (by omega), List.drop_eq_nil_of_le (by omega), List.drop_eq_nil_of_le (by omega)]
    simp
  | succ d ih =>
    intro k i h1 h2 h3
    obtain ⟨k, rfl⟩ : ∃ m, k = m + 1 := ⟨k - 1, by omega⟩
    have hi : i < xs.length := by omega
    have hi2 : i < ys.length := by omega
    simp only [slices_Equal_int_int.l0]
    rw [if_pos (by omega), if_pos (by omega), if_pos (by omega), if_pos (by omega)]
    have e1 : rd xs i = xs[i] := by simp [rd, hi]
    have e2 : rd ys i = ys[i] := by simp [rd, hi2]
    rw [e1, e2, List.drop_eq_getElem_cons hi, List.drop_eq_getElem_cons hi2]
    by_cases e : xs[i] = ys[i]
    · rw [if_pos e, wrap_one (by omega) (by omega)]
      have := ih k (i + 1) (by omega) (by omega) (by omega)
      rw [show ((i + 1 : Nat) : Int) = (i : Int) + 1 by omega] at this
      rw [this, e]
      simp only [List.cons.injEq, true_and]
    · rw [if_neg e]
      simp only [List.cons.injEq, e, false_and, decide_false]

theorem Equal_f (xs ys : List Int) (hm : xs.length ≤ 9223372036854775807) : slices_Equal_int_int.f (xs.length + 1) xs ys = some (decide (xs = ys)) := by
  unfold slices_Equal_int_int.f
  by_cases hl : xs.length = ys.length
  · rw [if_pos (by omega)]
    have := Equal_l0 xs ys hl hm xs.length (xs.length + 1) 0 (by omega) (by omega) (by omega)
    simpa using this
  · rw [if_neg (by omega)]
    have : xs ≠ ys := fun e => hl (by rw [e])
    simp [this]

set_option maxHeartbeats 2000000 in
theorem EqualFunc_calls (A0 : Option Addr) (c0 : Nat) (l0 : List (List Int)) (A1 : Option Addr) (c1 : Nat) (l1 : List (List Int)) (w : World)
    (hr0 : Kd.C (Kd.slice 3 (Kd.int .i64)) w A0 l0.length l0) (hc0 : l0.length ≤ c0) (hr1 : Kd.C (Kd.slice 3 (Kd.int .i64)) w A1 l1.length l1) (hc1 : l1.length ≤ c1) :
    Calls Tryz.prog 75 #[.slice A0 l0.length c0, .slice A1 l1.length c1, .func (.func 76) #[] #[]] w fun e w' => e = .returned (.bool (decide (l0 = l1))) ∧ Below w.heap.size w w' := by
  have HR0 := Aside0.mk hr0
  have HR1 := Aside0.mk hr1
  have hm : l0.length ≤ 9223372036854775807 := hr0.2.1
  clear hr0 hr1
  by_cases hl : l0.length = l1.length
  · have hb0 : ((l0.length : Int) != (l1.length : Int)) = false := by simp [hl]
    have HL := Aside0.mk hl
    clear hl
    go_enter Tryz.func75, Tryz.ntmps75
    go_wp2
    go_loopg [17] l0.length (fun gg s17 wr => ∃ kk : Nat, kk ≤ l0.length ∧ l0.length - kk ≤ gg ∧ s17 = .int .i64 kk ∧ Aside0 (Below w.heap.size w wr) ∧ Aside0 (∀ j (hj : j < l0.length) (hj1 : j < l1.length), j < kk → l0[j] = l1[j]))
    case atStart => exact ⟨0, Nat.zero_le _, by omega, rfl, ⟨Below.refl _ _⟩, ⟨fun j _ _ hj => absurd hj (Nat.not_lt_zero _)⟩⟩
    case round =>
      obtain ⟨kk, hkk, hg, rfl, HB, HA⟩ := hrel
      by_cases hlt : kk < l0.length
      · have hlt1 : kk < l1.length := by have := HL.out; omega
        have hltz : (kk : Int) < (l0.length : Int) := by omega
        have hltz1 : (kk : Int) < (l1.length : Int) := by omega
        obtain ⟨ad, B0, b0, e1, hx, hl1, hK⟩ := at_L1 HR0.out kk (by omega) (by omega)
        obtain ⟨ad1, B1, b1, e2, hx1, hl2, hK1⟩ := at_L1 HR1.out kk (by omega) (by omega)
        cases e1
        cases e2
        replace hx := (HB.out.cell (World.block_lt_of_cell? w _ hx)).trans hx
        replace hx1 := (HB.out.cell (World.block_lt_of_cell? w _ hx1)).trans hx1
        have hrd : rd_L1 l0 kk = l0[kk] := by simp [rd_L1, hlt]
        have hrd1 : rd_L1 l1 kk = l1[kk] := by simp [rd_L1, hlt1]
        rw [hrd, Int.toNat_natCast] at hx
        rw [hrd1, Int.toNat_natCast] at hx1
        rw [hrd] at hl1 hK
        rw [hrd1] at hl2 hK1
        clear hrd hrd1
        have HC := Aside0.mk (slices_Equal_int_int.calls _ B0 b0 l0[kk] B1 b1 l1[kk] _ wr (Kd.C_below hK HB.out) hl1 (Kd.C_below hK1 HB.out) hl2 (Equal_f _ _ hK.2.1))
        clear hl1 hK hl2 hK1
        by_cases hq : l0[kk] = l1[kk]
        · have HQ := Aside0.mk hq
          have HC2 : Aside0 _ := ⟨by have := HC.out; rw [decide_eq_true hq] at this; exact this⟩
          clear hq HC
          go_wp2_with (go_at_call 76; refine (HC2.out).mono ?_; rintro e w' ⟨rfl, hb⟩; have HB2 := Aside0.mk hb.below; clear hb)
          go_roundg (l0.length - (kk + 1))
          case measure => omega
          case rel =>
            refine ⟨kk + 1, by omega, by omega, by go_num, ⟨below_trans' HB.out HB2.out⟩, ⟨fun j hj hj1 hj2 => ?_⟩⟩
            by_cases e : j = kk
            · subst e; exact HQ.out
            · exact HA.out j hj hj1 (by omega)
        · have HQ := Aside0.mk hq
          have HC2 : Aside0 _ := ⟨by have := HC.out; rw [decide_eq_false hq] at this; exact this⟩
          have hne : decide (l0 = l1) = false := decide_eq_false (fun e => hq (by subst e; rfl))
          have HN := Aside0.mk hne
          clear hq HC hne
          go_wp2_with (go_at_call 76; refine (HC2.out).mono ?_; rintro e w' ⟨rfl, hb⟩; have HB2 := Aside0.mk hb.below; clear hb)
          go_ret
          exact ⟨by rw [HN.out]; rfl, below_trans' HB.out HB2.out⟩
      · obtain rfl : kk = l0.length := by omega
        have HN : Aside0 (decide (l0 = l1) = true) := ⟨decide_eq_true (List.ext_getElem HL.out (fun j hj hj1 => HA.out j hj hj1 hj))⟩
        go_wp2
        go_ret
        exact ⟨by rw [HN.out]; rfl, HB.out⟩
  · have hb0 : ((l0.length : Int) != (l1.length : Int)) = true := by rw [bne_iff_ne]; omega
    have HN : Aside0 (decide (l0 = l1) = false) := ⟨decide_eq_false (fun e => hl (by rw [e]))⟩
    have HL := Aside0.mk hl
    clear hl
    rw [HN.out]
    go_enter Tryz.func75, Tryz.ntmps75
    go_wp2
    go_ret
    exact ⟨rfl, Below.refl _ _⟩

def sameV (n : Int) (a : List (List Int)) (m : Int) (b : List (List Int)) : Bool := n == m && decide (a = b)
def cnf_Same.f (a0_0 : Int) (l0_1 : List (List Int)) (a1_0 : Int) (l1_1 : List (List Int)) : Option Bool := some (sameV a0_0 l0_1 a1_0 l1_1)

set_option maxHeartbeats 2000000 in
theorem cnf_Same.calls (a0_0 : Int) (A0_1 : Option Addr) (c0_1 : Nat) (l0_1 : List (List Int)) (a1_0 : Int) (A1_1 : Option Addr) (c1_1 : Nat) (l1_1 : List (List Int)) (r : Bool) (w : World)
    (hr0_1 : Kd.C (Kd.slice 3 (Kd.int .i64)) w A0_1 l0_1.length l0_1) (hc0_1 : l0_1.length ≤ c0_1) (hr1_1 : Kd.C (Kd.slice 3 (Kd.int .i64)) w A1_1 l1_1.length l1_1) (hc1_1 : l1_1.length ≤ c1_1) (h : cnf_Same.f a0_0 l0_1 a1_0 l1_1 = some r) :
    Calls Tryz.prog 28 #[.agg #[.int .i64 a0_0, .slice A0_1 l0_1.length c0_1], .agg #[.int .i64 a1_0, .slice A1_1 l1_1.length c1_1]] w fun e w' => e = .returned (.bool r) ∧ Below w.heap.size w w' := by
  injection h with h
  subst h
  have HB1 := Aside0.mk (show Below w.heap.size w ((w.alloc (.cells #[.int .i64 a0_0, .slice A0_1 l0_1.length c0_1] 24)).alloc (.cells #[.int .i64 a1_0, .slice A1_1 l1_1.length c1_1] 24)) from ((Below.refl _ _).alloc (Nat.le_refl _) _).alloc (by simp) _)
  have HE := Aside0.mk (EqualFunc_calls A0_1 c0_1 l0_1 A1_1 c1_1 l1_1 _ (Kd.C_below hr0_1 HB1.out) hc0_1 (Kd.C_below hr1_1 HB1.out) hc1_1)
  clear hr0_1 hr1_1
  cases hq : (a0_0 == a1_0) with
  | true =>
    have HV : Aside0 (sameV a0_0 l0_1 a1_0 l1_1 = decide (l0_1 = l1_1)) := ⟨by simp [sameV, hq]⟩
    rw [HV.out]
    go_enter Tryz.func28, Tryz.ntmps28
    go_wp2_with (go_at_call 75; refine (HE.out).mono ?_; rintro e w' ⟨rfl, hb⟩; have HB2 := Aside0.mk hb; clear hb)
    go_ret
    exact ⟨rfl, below_trans' HB1.out HB2.out⟩
  | false =>
    have HV : Aside0 (sameV a0_0 l0_1 a1_0 l1_1 = false) := ⟨by simp [sameV, hq]⟩
    rw [HV.out]
    go_enter Tryz.func28, Tryz.ntmps28
    go_wp2
    go_ret
    exact ⟨rfl, HB1.out⟩
end Go.Proofs.YtcdhhaedgohlgaaGreatDoor.P
end

section
namespace Go.Proofs.YtcdhhaedgohlgaaGreatDoor.P
set_option linter.unusedVariables false

/-- Literal a sorts before literal b. -/
def lt (a b : Int) : Bool := decide (a.natAbs < b.natAbs) || (a.natAbs == b.natAbs && decide (b < a))

theorem lt_irrefl (a : Int) : lt a a = false := by simp [lt]
theorem lt_trans {a b c : Int} (h : lt a b = true) (k : lt b c = true) : lt a c = true := by
  simp only [lt, Bool.or_eq_true, Bool.and_eq_true, decide_eq_true_eq, beq_iff_eq] at *
  omega
theorem lt_total {a b : Int} (h : a ≠ b) : lt a b = true ∨ lt b a = true := by
  simp only [lt, Bool.or_eq_true, Bool.and_eq_true, decide_eq_true_eq, beq_iff_eq]
  omega
theorem lt_asymm {a b : Int} (h : lt a b = true) : lt b a = false := by
  cases k : lt b a with
  | false => rfl
  | true => have := lt_trans h k; rw [lt_irrefl] at this; cases this

/-- Strictly sorted. -/
abbrev Strict (l : List Int) : Prop := l.Pairwise fun a b => lt a b = true

theorem Strict.unique : ∀ {l m : List Int}, Strict l → Strict m → (∀ x, x ∈ l ↔ x ∈ m) → l = m
  | [], [], _, _, _ => rfl
  | [], y :: m, _, _, h => absurd ((h y).2 (List.mem_cons_self ..)) (by simp)
  | x :: l, [], _, _, h => absurd ((h x).1 (List.mem_cons_self ..)) (by simp)
  | x :: l, y :: m, hl, hm, h => by
    rw [Strict, List.pairwise_cons] at hl hm
    have e : x = y := by
      rcases List.mem_cons.1 ((h x).1 (List.mem_cons_self ..)) with e | e
      · exact e
      · rcases List.mem_cons.1 ((h y).2 (List.mem_cons_self ..)) with e2 | e2
        · exact e2.symm
        · have h1 := hm.1 x e
          have h2 := hl.1 y e2
          rw [lt_asymm h1] at h2
          cases h2
    subst e
    have : l = m := Strict.unique hl.2 hm.2 (fun z => by
      have hz := h z
      simp only [List.mem_cons] at hz
      constructor
      · intro hzl
        rcases hz.1 (Or.inr hzl) with e | e
        · have := hl.1 z hzl; rw [e, lt_irrefl] at this; cases this
        · exact e
      · intro hzm
        rcases hz.2 (Or.inr hzm) with e | e
        · have := hm.1 z hzm; rw [e, lt_irrefl] at this; cases this
        · exact e)
    rw [this]

/-- x goes behind all that sort before it. -/
def ins (x : Int) : List Int → List Int
  | [] => [x]
  | y :: l => if lt y x then y :: ins x l else x :: y :: l

theorem mem_ins (x z : Int) : ∀ l, z ∈ ins x l ↔ z = x ∨ z ∈ l
  | [] => by simp [ins]
  | y :: l => by
    unfold ins
    split
    · simp only [List.mem_cons, mem_ins x z l]
      constructor
      · rintro (h | h | h)
        · exact .inr (.inl h)
        · exact .inl h
        · exact .inr (.inr h)
      · rintro (h | h | h)
        · exact .inr (.inl h)
        · exact .inl h
        · exact .inr (.inr h)
    · simp

theorem strict_ins (x : Int) : ∀ l, Strict l → x ∉ l → Strict (ins x l)
  | [], _, _ => by simp [ins, Strict]
  | y :: l, h, hx => by
    rw [Strict, List.pairwise_cons] at h
    simp only [List.mem_cons, not_or] at hx
    unfold ins
    split
    · rename_i hy
      rw [Strict, List.pairwise_cons]
      refine ⟨fun z hz => ?_, strict_ins x l h.2 hx.2⟩
      rcases (mem_ins x z l).1 hz with rfl | hz
      · exact hy
      · exact h.1 z hz
    · rename_i hy
      have hxy : lt x y = true := by
        rcases lt_total hx.1 with k | k
        · exact k
        · exact absurd k hy
      rw [Strict, List.pairwise_cons]
      refine ⟨fun z hz => ?_, List.pairwise_cons.2 h⟩
      rcases List.mem_cons.1 hz with rfl | hz
      · exact hxy
      · exact lt_trans hxy (h.1 z hz)

def stepN (out : List Int) (x : Int) : List Int := if litB 65536 x && !(out.contains x) then ins x out else out
/-- The normal form. -/
def normL (l : List Int) : List Int := l.foldl stepN []

theorem stepN_strict {out : List Int} (h : Strict out) (x : Int) : Strict (stepN out x) := by
  unfold stepN
  split
  · rename_i hx
    simp only [Bool.and_eq_true, Bool.not_eq_true', List.contains_eq_mem, decide_eq_false_iff_not] at hx
    exact strict_ins x out h hx.2
  · exact h
theorem mem_stepN (out : List Int) (x z : Int) : z ∈ stepN out x ↔ z ∈ out ∨ (z = x ∧ litB 65536 x = true) := by
  unfold stepN
  split
  · rename_i hx
    simp only [Bool.and_eq_true] at hx
    rw [mem_ins]
    constructor
    · rintro (h | h)
      · exact .inr ⟨h, hx.1⟩
      · exact .inl h
    · rintro (h | h)
      · exact .inr h
      · exact .inl h.1
  · rename_i hx
    simp only [Bool.and_eq_true, Bool.not_eq_true', List.contains_eq_mem, decide_eq_false_iff_not, not_and, Decidable.not_not] at hx
    constructor
    · exact .inl
    · rintro (h | ⟨rfl, h⟩)
      · exact h
      · exact hx h

theorem fold_strict : ∀ (l : List Int) {out : List Int}, Strict out → Strict (l.foldl stepN out)
  | [], _, h => h
  | x :: l, _, h => fold_strict l (stepN_strict h x)
theorem mem_fold : ∀ (l : List Int) (out : List Int) (z : Int), z ∈ l.foldl stepN out ↔ z ∈ out ∨ (z ∈ l ∧ litB 65536 z = true)
  | [], out, z => by simp
  | x :: l, out, z => by
    rw [List.foldl_cons, mem_fold l, mem_stepN, List.mem_cons]
    constructor
    · rintro ((h | ⟨rfl, h⟩) | ⟨h, k⟩)
      · exact .inl h
      · exact .inr ⟨.inl rfl, h⟩
      · exact .inr ⟨.inr h, k⟩
    · rintro (h | ⟨rfl | h, k⟩)
      · exact .inl (.inl h)
      · exact .inl (.inr ⟨rfl, k⟩)
      · exact .inr ⟨h, k⟩

theorem normL_strict (l : List Int) : Strict (normL l) := fold_strict l List.Pairwise.nil
theorem mem_normL (l : List Int) (z : Int) : z ∈ normL l ↔ z ∈ l ∧ litB 65536 z = true := by
  unfold normL; rw [mem_fold]; simp
theorem normL_unique {l m : List Int} (hm : Strict m) (h : ∀ z, z ∈ m ↔ z ∈ l ∧ litB 65536 z = true) : m = normL l :=
  Strict.unique hm (normL_strict l) (fun z => by rw [h, mem_normL])

/-- Is some variable there in both polarities? -/
def tautL (l : List Int) : Bool := l.any fun x => litB 65536 x && l.contains (-x)

theorem litB_neg (n x : Int) : litB n (-x) = litB n x := by
  unfold litB
  rw [Bool.eq_iff_iff]
  simp only [Bool.and_eq_true, bne_iff_ne, ne_eq, decide_eq_true_eq]
  omega

theorem tautL_iff (l : List Int) : tautL l = true ↔ ∃ x, x ∈ l ∧ -x ∈ l ∧ litB 65536 x = true := by
  unfold tautL
  rw [List.any_eq_true]
  simp only [Bool.and_eq_true, List.contains_eq_mem, decide_eq_true_eq]
  constructor
  · rintro ⟨x, h1, h2, h3⟩
    exact ⟨x, h1, h3, h2⟩
  · rintro ⟨x, h1, h2, h3⟩
    exact ⟨x, h1, h3, h2⟩

/-- In the normal form the two stand beside each other. -/
theorem taut_adjacent (l : List Int) : tautL l = true ↔ ∃ i, ∃ (h : i + 1 < (normL l).length), (normL l)[i] = -((normL l)[i + 1]) := by
  rw [tautL_iff]
  constructor
  · rintro ⟨x, h1, h2, h3⟩
    have key : ∀ x, 0 < x → x ∈ l → -x ∈ l → litB 65536 x = true → ∃ i, ∃ (h : i + 1 < (normL l).length), (normL l)[i] = -((normL l)[i + 1]) := by
      intro x h0 h1 h2 h3
      have m1 : x ∈ normL l := (mem_normL l x).2 ⟨h1, h3⟩
      have m2 : -x ∈ normL l := (mem_normL l (-x)).2 ⟨h2, by rw [litB_neg]; exact h3⟩
      obtain ⟨i, hi, ei⟩ := List.getElem_of_mem m1
      obtain ⟨j, hj, ej⟩ := List.getElem_of_mem m2
      have hs := List.pairwise_iff_getElem.1 (normL_strict l)
      have hij : i < j := by
        rcases Nat.lt_trichotomy i j with h | h | h
        · exact h
        · subst h; omega
        · have := hs j i hj hi h
          rw [ei, ej] at this
          simp only [lt, Bool.or_eq_true, Bool.and_eq_true, decide_eq_true_eq, beq_iff_eq] at this
          omega
      have hj1 : j = i + 1 := by
        rcases Nat.lt_or_ge (i + 1) j with h | h
        · exfalso
          have k1 := hs i (i + 1) hi (by omega) (by omega)
          have k2 := hs (i + 1) j (by omega) hj h
          rw [ei] at k1
          rw [ej] at k2
          simp only [lt, Bool.or_eq_true, Bool.and_eq_true, decide_eq_true_eq, beq_iff_eq] at k1 k2
          omega
        · omega
      subst hj1
      exact ⟨i, hj, by rw [ei, ej]; omega⟩
    have h0 := (litB_range h3).1
    rcases Int.lt_or_gt_of_ne h0 with h | h
    · exact key (-x) (by omega) h2 (by simpa using h1) (by rw [litB_neg]; exact h3)
    · exact key x h h1 h2 h3
  · rintro ⟨i, h, e⟩
    have m1 := (mem_normL l _).1 (List.getElem_mem (l := normL l) (n := i) (by omega))
    have m2 := (mem_normL l _).1 (List.getElem_mem (l := normL l) (n := i + 1) h)
    exact ⟨(normL l)[i + 1], m2.1, by rw [← e]; exact m1.1, m2.2⟩

/-- Neighbours that are equal, but for the first of them, fall away. -/
def compactL : List Int → List Int
  | [] => []
  | [x] => [x]
  | x :: y :: l => if x = y then compactL (y :: l) else x :: compactL (y :: l)

theorem mem_compactL (z : Int) : ∀ l, z ∈ compactL l ↔ z ∈ l
  | [] => Iff.rfl
  | [x] => Iff.rfl
  | x :: y :: l => by
    unfold compactL
    split
    · rename_i e
      rw [mem_compactL z (y :: l)]
      simp [e]
    · rw [List.mem_cons, mem_compactL z (y :: l), List.mem_cons (a := z) (b := x)]

/-- Sorted by 'not behind'. -/
abbrev Sorted (l : List Int) : Prop := l.Pairwise fun a b => lt b a = false

theorem strict_compactL : ∀ l, Sorted l → Strict (compactL l)
  | [], _ => List.Pairwise.nil
  | [x], _ => by simp [compactL, Strict]
  | x :: y :: l, h => by
    have ih := strict_compactL (y :: l) (List.pairwise_cons.1 h).2
    unfold compactL
    split
    · exact ih
    · rename_i e
      rw [Strict, List.pairwise_cons]
      refine ⟨fun z hz => ?_, ih⟩
      have hz' : z ∈ y :: l := (mem_compactL z _).1 hz
      have h1 : lt z x = false := (List.pairwise_cons.1 h).1 z hz'
      by_cases e2 : x = z
      · subst e2
        rcases List.mem_cons.1 hz' with k | k
        · exact absurd k e
        · have h2 : lt x y = false := (List.pairwise_cons.1 (List.pairwise_cons.1 h).2).1 x k
          have h3 : lt y x = false := (List.pairwise_cons.1 h).1 y (List.mem_cons_self ..)
          rcases lt_total e with k | k
          · rw [h2] at k; cases k
          · rw [h3] at k; cases k
      · rcases lt_total e2 with k | k
        · exact k
        · rw [h1] at k; cases k

/-- What the program makes is the normal form. -/
theorem compact_sorted (l s : List Int) (hp : ∀ z, z ∈ s ↔ z ∈ l ∧ litB 65536 z = true) (hs : Sorted s) : compactL s = normL l :=
  normL_unique (strict_compactL s hs) (fun z => by rw [mem_compactL, hp])

theorem getD_lt {α : Type} (l : List α) (d : α) {i : Nat} (h : i < l.length) : l.getD i d = l[i] := by simp [List.getD_eq_getElem?_getD, h]
theorem taut_adj (l : List Int) : tautL l = true ↔ ∃ i, i + 1 < (normL l).length ∧ (normL l).getD i 0 = -((normL l).getD (i + 1) 0) := by
  rw [taut_adjacent]
  constructor
  · rintro ⟨i, h, e⟩
    refine ⟨i, h, ?_⟩
    rw [getD_lt _ _ (by omega), getD_lt _ _ h]
    exact e
  · rintro ⟨i, h, e⟩
    rw [getD_lt _ _ (by omega), getD_lt _ _ h] at e
    exact ⟨i, h, e⟩

end Go.Proofs.YtcdhhaedgohlgaaGreatDoor.P
end

section
namespace Go.Proofs.YtcdhhaedgohlgaaGreatDoor.P
open Go.RowKit Go.Proofs.YtcdhhaedgohlgaaGreatDoorW.PrintWords Go.Proofs.YtcdhhaedgohlgaaGreatDoorW.PrintLast Go.Proofs.YtcdhhaedgohlgaaGreatDoorW.PrintMore
set_option linter.unusedVariables false
set_option linter.unusedSimpArgs false

def cmpI (x y : Int) : Int := if x < y then -1 else if y < x then 1 else 0
def cmpL (a b : Int) : Int := if cmpI a.natAbs b.natAbs ≠ 0 then cmpI a.natAbs b.natAbs else cmpI b a

theorem cmpL_lt (a b : Int) : decide (cmpL a b < 0) = lt a b := by
  unfold cmpL cmpI lt
  by_cases h1 : a.natAbs < b.natAbs
  · have h1' : ((a.natAbs : Nat) : Int) < (b.natAbs : Int) := by omega
    rw [if_pos h1', if_pos (by decide), decide_eq_true h1]; rfl
  · have h1' : ¬ ((a.natAbs : Nat) : Int) < (b.natAbs : Int) := by omega
    rw [if_neg h1', decide_eq_false h1]
    by_cases h2 : b.natAbs < a.natAbs
    · have h2' : ((b.natAbs : Nat) : Int) < (a.natAbs : Int) := by omega
      have e : (a.natAbs == b.natAbs) = false := beq_eq_false_iff_ne.2 (by omega)
      rw [if_pos h2', if_pos (by decide), e]; rfl
    · have h2' : ¬ ((b.natAbs : Nat) : Int) < (a.natAbs : Int) := by omega
      have e : (a.natAbs == b.natAbs) = true := beq_iff_eq.2 (by omega)
      rw [if_neg h2', if_neg (by decide), e]
      by_cases h3 : b < a
      · rw [if_pos h3, decide_eq_true h3]; rfl
      · rw [if_neg h3, decide_eq_false h3]; split <;> rfl

set_option maxRecDepth 100000
set_option maxHeartbeats 400000

theorem nan127 (x : Int) (w : World) : Calls Tryz.prog 127 #[.int .i64 x] w fun e w' => e = .returned (.bool false) ∧ ∃ q, w' = w.drewN q := by
  have hx : (x != x) = false := by simp
  go_enter Tryz.func127, Tryz.ntmps127
  go_wp2
  go_ret
  exact ⟨rfl, by first | exact ⟨0, rfl⟩ | exact ⟨_, rfl⟩⟩

theorem of69 (x : Int) (h : -9223372036854775807 ≤ x ∧ x ≤ 9223372036854775807) (w : World) : Calls Tryz.prog 69 #[.int .i64 x] w fun e w' => e = .returned (.int .i64 x.natAbs) ∧ ∃ q, w' = w.drewN q := by
  have hw : IntKind.i64.wrap (-x) = -x := IntWalk.i64_in _ (by omega)
  have hm : (if x < -x then -x else x) = (x.natAbs : Int) := by split <;> omega
  have hm2 : max x (-x) = (x.natAbs : Int) := by omega
  go_enter Tryz.func69, Tryz.ntmps69
  go_wp2
  go_ret
  exact ⟨by first | rfl | (rw [← hm]; rfl) | (simp [hm]; done) | (simp [hm]; exact hm2) | (simp [hm2]; done), by first | exact ⟨0, rfl⟩ | exact ⟨_, rfl⟩⟩

theorem cmp68 (x y : Int) (w : World) : Calls Tryz.prog 68 #[.int .i64 x, .int .i64 y] w fun e w' => e = .returned (.int .i64 (cmpI x y)) ∧ ∃ q, w' = w.drewN q := by
  have HX := fun W => Aside0.mk (nan127 x W)
  have HY := fun W => Aside0.mk (nan127 y W)
  have HC : Aside0 (cmpI x y = if x < y then -1 else if y < x then 1 else 0) := ⟨rfl⟩
  generalize cmpI x y = r at *
  by_cases h1 : x < y
  · have h1d : decide (x < y) = true := decide_eq_true h1
    have H1 := Aside0.mk h1
    clear h1
    go_enter Tryz.func68, Tryz.ntmps68
    go_wp2_with (go_at_call 127; first | (refine ((HX _).out).mono ?_; rintro e w' ⟨rfl, q, rfl⟩) | (refine ((HY _).out).mono ?_; rintro e w' ⟨rfl, q, rfl⟩))
    go_ret
    exact ⟨by rw [HC.out, if_pos H1.out]; rfl, by first | exact ⟨0, rfl⟩ | exact ⟨_, rfl⟩⟩
  · have h1d : decide (x < y) = false := decide_eq_false h1
    have H1 := Aside0.mk h1
    clear h1
    by_cases h2 : y < x
    · have h2d : decide (x > y) = true := decide_eq_true h2
      have H2 := Aside0.mk h2
      clear h2
      go_enter Tryz.func68, Tryz.ntmps68
      go_wp2_with (go_at_call 127; first | (refine ((HX _).out).mono ?_; rintro e w' ⟨rfl, q, rfl⟩) | (refine ((HY _).out).mono ?_; rintro e w' ⟨rfl, q, rfl⟩))
      go_ret
      exact ⟨by rw [HC.out, if_neg (Int.not_lt.2 H1.out), if_pos H2.out]; rfl, by first | exact ⟨0, rfl⟩ | exact ⟨_, rfl⟩⟩
    · have h2d : decide (x > y) = false := decide_eq_false h2
      have H2 := Aside0.mk h2
      clear h2
      go_enter Tryz.func68, Tryz.ntmps68
      go_wp2_with (go_at_call 127; first | (refine ((HX _).out).mono ?_; rintro e w' ⟨rfl, q, rfl⟩) | (refine ((HY _).out).mono ?_; rintro e w' ⟨rfl, q, rfl⟩))
      go_ret
      exact ⟨by rw [HC.out, if_neg (Int.not_lt.2 H1.out), if_neg (Int.not_lt.2 H2.out)]; rfl, by first | exact ⟨0, rfl⟩ | exact ⟨_, rfl⟩⟩

theorem or67 (b : Nat) (c d : Int) (w : World) (h0 : w.cell? ⟨b, 0, none⟩ = some (.int .i64 c)) (h1 : w.cell? ⟨b, 1, none⟩ = some (.int .i64 d)) :
    Calls Tryz.prog 67 #[.slice (some ⟨b, 0, none⟩) 2 2] w fun e w' => e = .returned (.int .i64 (if c ≠ 0 then c else d)) ∧ ∃ q, w' = w.drewN q := by
  by_cases hc : c = 0
  · subst hc
    by_cases hd : d = 0
    · subst hd
      go_enter Tryz.func67, Tryz.ntmps67
      go_wp2
      refine wp_loop_rounds 3 ?_
      rw [rounds_succ]
      go_wp2
      rw [rounds_succ]
      go_wp2
      rw [rounds_succ]
      go_wp2
      go_ret
      exact ⟨rfl, by first | exact ⟨0, rfl⟩ | exact ⟨_, rfl⟩⟩
    · have hd0 : (d != 0) = true := bne_iff_ne.2 hd
      go_enter Tryz.func67, Tryz.ntmps67
      go_wp2
      refine wp_loop_rounds 3 ?_
      rw [rounds_succ]
      go_wp2
      rw [rounds_succ]
      go_wp2
      go_ret
      exact ⟨rfl, by first | exact ⟨0, rfl⟩ | exact ⟨_, rfl⟩⟩
  · have hc0 : (c != 0) = true := bne_iff_ne.2 hc
    rw [if_pos hc]
    clear hc
    go_enter Tryz.func67, Tryz.ntmps67
    go_wp2
    refine wp_loop_rounds 3 ?_
    rw [rounds_succ]
    go_wp2
    go_ret
    exact ⟨rfl, by first | exact ⟨0, rfl⟩ | exact ⟨_, rfl⟩⟩

theorem norm1 (x : Int) (w : World) : Calls Tryz.prog 63 #[.int .i64 x] w fun e w' => e = .returned (.bool (!litB 65536 x)) ∧ ∃ q, w' = w.drewN q := by
  have hr := may_litB x 65536 (by omega) (by omega)
  generalize litB 65536 x = r at *
  have HM := fun W => Aside0.mk (cnf_lit_may.calls x 65536 r W hr)
  clear hr
  go_enter Tryz.func63, Tryz.ntmps63
  go_wp2_with (go_at_call 64; refine ((HM _).out).mono ?_; rintro e w' ⟨rfl, ⟨q, rfl⟩⟩)
  go_ret
  exact ⟨rfl, by first | exact ⟨0, rfl⟩ | exact ⟨_, rfl⟩⟩

theorem alloc_eq_grow' (w : World) (n m : Nat) (o : Obj) : ((w.drewN n).alloc o).drewN m = Go.Sort.grow (w.drewN (n + m)) #[o] := by
  simp [World.alloc, Go.Sort.grow, World.drewN, Nat.add_assoc]

theorem norm2 (a b : Int) (ha : -9223372036854775807 ≤ a ∧ a ≤ 9223372036854775807) (hb : -9223372036854775807 ≤ b ∧ b ≤ 9223372036854775807) (w : World) :
    Calls Tryz.prog 66 #[.int .i64 a, .int .i64 b] w fun e w' => e = .returned (.int .i64 (cmpL a b)) ∧ ∃ q os, w' = Go.Sort.grow (w.drewN q) os := by
  have HA := fun W => Aside0.mk (of69 a ha W)
  have HB := fun W => Aside0.mk (of69 b hb W)
  have HC := fun x y W => Aside0.mk (cmp68 x y W)
  have HE : Aside0 (cmpL a b = if cmpI a.natAbs b.natAbs ≠ 0 then cmpI a.natAbs b.natAbs else cmpI b a) := ⟨rfl⟩
  clear ha hb
  generalize cmpL a b = r at *
  generalize cmpI = cf at *
  generalize a.natAbs = na at *
  generalize b.natAbs = nb at *
  have HO := fun B W h0 h1 => Aside0.mk (or67 B (cf na nb) (cf b a) W h0 h1)
  rw [← HE.out] at HO
  clear HE
  go_enter Tryz.func66, Tryz.ntmps66
  go_wp2_with (go_at_call 69; first | (refine ((HA _).out).mono ?_; rintro e w' ⟨rfl, q, rfl⟩) | (refine ((HB _).out).mono ?_; rintro e w' ⟨rfl, q, rfl⟩))
  go_wp2_with (go_at_call 68; refine ((HC _ _ _).out).mono ?_; rintro e w' ⟨rfl, q, rfl⟩)
  go_wp2_with (go_at_call 67; refine ((HO w.heap.size _ (by simp [World.cell?, World.alloc, World.drewN]) (by simp [World.cell?, World.alloc, World.drewN])).out).mono ?_; rintro e w' ⟨rfl, q, rfl⟩)
  go_ret
  refine ⟨rfl, ?_⟩
  rw [alloc_eq_grow']
  exact ⟨_, _, rfl⟩
end Go.Proofs.YtcdhhaedgohlgaaGreatDoor.P
end
