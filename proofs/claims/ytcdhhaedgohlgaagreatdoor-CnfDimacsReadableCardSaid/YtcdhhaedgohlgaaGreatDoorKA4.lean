/- What the law CnfResolveSpec rests on, part 4: contracts of the functions that it reaches, and plain lemmas. No condition of its own. -/
import Derived.Test.YtcdhhaedgohlgaaGreatDoorKA3
import Derived.Maps.AppendAt
import Derived.OwnWalkIn
import Derived.BigRegionIn
set_option linter.unusedVariables false
set_option linter.unusedSimpArgs false
section
namespace Go.Proofs.YtcdhhaedgohlgaaGreatDoor.P
open Go.RowKit Go.Shelf Go.Proofs.YtcdhhaedgohlgaaGreatDoorW.PrintWords Go.Proofs.YtcdhhaedgohlgaaGreatDoorW.PrintLast Go.Proofs.YtcdhhaedgohlgaaGreatDoorW.PrintMore
set_option linter.unusedVariables false
set_option linter.unusedSimpArgs false
set_option maxRecDepth 100000

def isDig (b : UInt8) : Bool := decide (48 ≤ b.toNat) && decide (b.toNat ≤ 57)
def decV (l : List UInt8) (n : Int) : Int := l.foldl (fun n b => 10 * n + ((b.toNat : Int) - 48)) n
/-- What stands behind a minus. -/
def absV (minus : Bool) (r : List UInt8) : Int × Bool :=
  if r = [] ∨ 10 < r.length ∨ (r.head? = some 48 ∧ (minus = true ∨ 1 < r.length)) ∨ r.all isDig = false then (0, false) else (if minus then -decV r 0 else decV r 0, true)
def numV (bs : List UInt8) : Int × Bool := if bs.head? = some 45 then absV true bs.tail else absV false bs

def p10 : Nat → Int
  | 0 => 1
  | i + 1 => 10 * p10 i
theorem p10_le (i : Nat) (h : i ≤ 10) : p10 i ≤ 10000000000 := by
  have : ∀ i : Fin 11, p10 i.1 ≤ 10000000000 := by decide
  exact this ⟨i, by omega⟩
theorem p10_succ (i : Nat) : p10 (i + 1) = 10 * p10 i := rfl
theorem p10_step {n q : Int} {d : Int} (h : n < q) (hd : d ≤ 9) : 10 * n + d < 10 * q := by omega
theorem n_small {n q : Int} (h : n < q) (h2 : q ≤ 10000000000) : n < 10000000000 := by omega

theorem l0_step (k : Nat) (x2 : Int) (x4 : Bool) (x41 : List Int) (x42 x43 : Int) : cnf_number.l0 (k + 1) x2 x4 x41 x42 x43 = if x43 < x42 then (if 0 ≤ x43 then (if x43 < (x41.length : Int) then (if (rd x41 x43) < 48 then (some (0, false)) else (if (rd x41 x43) > 57 then (some (0, false)) else (cnf_number.l0 k (wrap64 ((wrap64 (10 * x2)) + (((rd x41 x43) - 48) % 256))) x4 x41 x42 (wrap64 (x43 + 1))))) else (none)) else (none)) else (if x4 = true then (some (wrap64 (-x2), true)) else (some (x2, true))) := by
  rw [cnf_number.l0]

theorem l0_num (x4 : Bool) (bs : List UInt8) (hl : bs.length ≤ 10) : ∀ (r : List UInt8) (i : Nat) (n : Int) (k : Nat), bs.drop i = r → r.length < k → 0 ≤ n → n < p10 i → i ≤ bs.length →
    cnf_number.l0 k n x4 (bytesI bs) ((bytesI bs).length : Int) (i : Int) = some (if r.all isDig = true then (if x4 then -decV r n else decV r n, true) else (0, false))
  | [], i, n, 0, hd, hk, h0, h1, hi => by simp at hk
  | b :: r, i, n, 0, hd, hk, h0, h1, hi => by simp at hk
  | [], i, n, k + 1, hd, hk, h0, h1, hi => by
    have hil : i = bs.length := by
      have := congrArg List.length hd
      rw [List.length_drop] at this
      simp at this
      omega
    have hn := n_small h1 (p10_le i (by omega))
    clear h1
    rw [l0_step]
    rw [bytesI_length, if_neg (by omega)]
    have hw : wrap64 (-n) = -n := by unfold wrap64; omega
    cases x4 <;> simp [decV, hw]
  | b :: r, i, n, k + 1, hd, hk, h0, h1, hi => by
    have hil : i < bs.length := by
      rcases Nat.lt_or_ge i bs.length with h | h
      · exact h
      · rw [List.drop_eq_nil_of_le h] at hd; cases hd
    rw [List.drop_eq_getElem_cons hil] at hd
    injection hd with hb hr
    have hrd : rd (bytesI bs) (i : Int) = (b.toNat : Int) := by unfold rd; rw [Int.toNat_natCast, bytesI_getD bs i hil, hb]
    have hlt := UInt8.toNat_lt b
    have hn := n_small h1 (p10_le i (by omega))
    have hstep := fun (h : (b.toNat : Int) - 48 ≤ 9) => p10_step h1 h
    rw [← p10_succ] at hstep
    clear h1
    rw [l0_step]
    rw [hrd, bytesI_length, if_pos (by omega), if_pos (by omega), if_pos (by omega)]
    rw [List.all_cons]
    by_cases hd1 : (b.toNat : Int) < 48
    · rw [if_pos hd1]
      have : isDig b = false := by unfold isDig; rw [decide_eq_false (by omega)]; rfl
      rw [this]; rfl
    · rw [if_neg hd1]
      by_cases hd2 : (b.toNat : Int) > 57
      · rw [if_pos hd2]
        have : isDig b = false := by unfold isDig; rw [decide_eq_false (p := b.toNat ≤ 57) (by omega)]; simp
        rw [this]; rfl
      · rw [if_neg hd2]
        have hdg : isDig b = true := by unfold isDig; rw [decide_eq_true (by omega), decide_eq_true (by omega)]; rfl
        have e0 : (0 : Int) ≤ 10 * n + ((b.toNat : Int) - 48) := by omega
        have e1 := hstep (by omega)
        have e2 : i + 1 ≤ bs.length := hil
        have ih := l0_num x4 bs hl r (i + 1) (10 * n + ((b.toNat : Int) - 48)) k hr (by simpa using hk) e0 e1 e2
        rw [bytesI_length] at ih
        have hw1 : wrap64 (10 * n) = 10 * n := by unfold wrap64; omega
        have hw2 : ((b.toNat : Int) - 48) % 256 = (b.toNat : Int) - 48 := by omega
        have hw3 : wrap64 (10 * n + ((b.toNat : Int) - 48)) = 10 * n + ((b.toNat : Int) - 48) := by unfold wrap64; omega
        have hw4 : wrap64 ((i : Int) + 1) = ((i + 1 : Nat) : Int) := by unfold wrap64; omega
        rw [hw1, hw2, hw3, hw4, hdg, Bool.true_and]
        rw [ih]
        rfl

theorem rd_head (b : UInt8) (r : List UInt8) : rd (bytesI (b :: r)) 0 = (b.toNat : Int) := rfl
theorem byte_eq (b : UInt8) (n : Nat) (hn : n < 256) : (b.toNat : Int) = (n : Int) ↔ b = UInt8.ofNat n := by
  constructor
  · intro h
    apply UInt8.toNat_inj.1
    rw [UInt8.toNat_ofNat_of_lt' (by omega)]
    omega
  · rintro rfl
    rw [UInt8.toNat_ofNat_of_lt' (by omega)]

theorem j1_abs (x4 : Bool) (r : List UInt8) (k : Nat) (hk : r.length < k) : cnf_number.j1 (k + 2) (bytesI r) 0 x4 = some (absV x4 r) := by
  rw [cnf_number.j1, cnf_number.j2, cnf_number.j2, cnf_number.j2, bytesI_length]
  unfold absV
  cases r with
  | nil => rfl
  | cons b r =>
    rw [if_neg (by simp; omega)]
    by_cases h10 : (b :: r).length > 10
    · have hor : (b :: r) = [] ∨ 10 < (b :: r).length ∨ ((b :: r).head? = some 48 ∧ (x4 = true ∨ 1 < (b :: r).length)) ∨ (b :: r).all isDig = false := .inr (.inl h10)
      rw [if_pos (by omega), if_pos rfl, if_pos hor]
    · rw [if_neg (by omega), if_pos (by simp), rd_head]
      have hl0 := l0_num x4 (b :: r) (by omega) (b :: r) 0 0 k rfl hk (by omega) (by decide) (by omega)
      rw [bytesI_length] at hl0
      replace hl0 : cnf_number.l0 k 0 x4 (bytesI (b :: r)) ((b :: r).length : Int) 0 = _ := hl0
      have hb := byte_eq b 48 (by omega)
      have hlast : ∀ (P : Prop) [Decidable P], ¬ P → (if P then some ((0 : Int), false) else cnf_number.l0 k 0 x4 (bytesI (b :: r)) ((b :: r).length : Int) 0) = some (if (b :: r) = [] ∨ 10 < (b :: r).length ∨ P ∨ (b :: r).all isDig = false then (0, false) else (if x4 then -decV (b :: r) 0 else decV (b :: r) 0, true)) := by
        intro P _ hP
        rw [if_neg hP, hl0]
        cases ha : (b :: r).all isDig with
        | true =>
          have hnot : ¬ ((b :: r) = [] ∨ 10 < (b :: r).length ∨ P ∨ true = false) := by
            rintro (h | h | h | h)
            · cases h
            · omega
            · exact hP h
            · cases h
          rw [if_pos rfl, if_neg hnot]
        | false => rw [if_neg (by simp), if_pos (.inr (.inr (.inr rfl)))]
      by_cases h48 : (b.toNat : Int) = 48
      · rw [if_pos h48]
        have hbe : b = 48 := hb.1 h48
        cases x4 with
        | true =>
          rw [if_pos rfl, if_pos rfl, if_pos (.inr (.inr (.inl ⟨by rw [hbe]; rfl, .inl rfl⟩)))]
        | false =>
          rw [if_neg (by simp)]
          by_cases h1 : 1 < (b :: r).length
          · rw [if_pos (by simp only [decide_eq_true_eq]; omega), if_pos (.inr (.inr (.inl ⟨by rw [hbe]; rfl, .inr h1⟩)))]
          · rw [if_neg (by simp only [decide_eq_true_eq]; omega)]
            have hP : ¬ ((b :: r).head? = some 48 ∧ (false = true ∨ 1 < (b :: r).length)) := by simp at h1 ⊢; intro _; exact h1
            have := hlast _ hP
            rw [if_neg hP] at this
            exact this
      · rw [if_neg h48, if_neg (by simp)]
        have hP : ¬ ((b :: r).head? = some 48 ∧ (x4 = true ∨ 1 < (b :: r).length)) := by
          rintro ⟨h, _⟩
          injection h with h
          exact h48 (hb.2 h)
        have := hlast _ hP
        rw [if_neg hP] at this
        exact this

theorem number_f (bs : List UInt8) : cnf_number.f (bs.length + 4) (bytesI bs) = some (numV bs) := by
  unfold cnf_number.f numV
  rw [bytesI_length]
  cases bs with
  | nil =>
    rw [if_neg (by simp), if_neg (by simp)]
    rw [cnf_number.j0, if_neg (by simp)]
    exact j1_abs false [] 1 (by simp)
  | cons b r =>
    rw [if_pos (by simp), if_pos (by simp), rd_head]
    have hb := byte_eq b 45 (by omega)
    rw [show (b :: r).length + 4 = ((b :: r).length + 1 + 2) + 1 by omega, cnf_number.j0]
    by_cases h45 : (b.toNat : Int) = 45
    · have hbe : b = 45 := hb.1 h45
      rw [if_pos (by simpa using h45), if_pos (by rw [bytesI_length]; simp; omega), if_pos (by rw [hbe]; rfl)]
      have : ((b.toNat : Int) == 45) = true := by simpa using h45
      rw [this]
      exact j1_abs true r _ (by simp; omega)
    · have : ((b.toNat : Int) == 45) = false := by simpa using h45
      rw [this, if_neg (by simp), if_neg (by intro h; injection h with h; exact h45 (hb.2 h))]
      exact j1_abs false (b :: r) _ (by omega)

theorem CB.same {w w' : World} {A : Option Addr} {bs : List UInt8} (h : CB w A bs) (hk : ∀ k, k < w.heap.size → w'.heap[k]? = w.heap[k]?) : CB w' A bs := by
  refine CB.mk_ h.2.1 (fun hn => ?_)
  obtain ⟨ad, e, hc⟩ := h.some_ hn
  refine ⟨ad, e, fun i hi => ?_⟩
  have := hc i hi
  rw [World.cell?_of_block (hk _ (World.block_lt_of_cell? w _ this))]
  exact this
theorem number95 (A : Option Addr) (bs : List UInt8) (c : Nat) (w : World) (hc : bs.length ≤ c) (h : CB w A bs) :
    Calls Tryz.prog 95 #[.slice A bs.length c] w fun e w' => e = .returned (.tuple #[.int .i64 (numV bs).1, .bool (numV bs).2]) ∧ Below w.heap.size w w' := by
  have hV : Kd.V (Kd.int .u8) 5 w w.heap.size (fun _ => True) (.slice A (bytesI bs).length c) (bytesI bs) := ⟨A, c, rfl, by rw [bytesI_length]; exact hc, fun W' hW => by
    have := h.same (fun k hk => hW k trivial hk)
    rw [bytesI_length]
    exact this⟩
  have := cnf_number.calls (bs.length + 4) (fun _ => True) A c (bytesI bs) (numV bs).1 (numV bs).2 w hV (number_f bs)
  rw [bytesI_length] at this
  exact this

theorem fieldX_spec {w : World} {A : Option Addr} {bs : List UInt8} (h : CB w A bs) (s i : Nat) (hs : s < i) (hi : i ≤ bs.length) : ∃ A', (fieldX A bs s i).1 = .slice A' (fieldX A bs s i).2.length (fieldX A bs s i).2.length ∧ CB w A' (fieldX A bs s i).2 ∧ 0 < (fieldX A bs s i).2.length := by
  have hl : ((bs.drop s).take (i - s)).length = i - s := by rw [List.length_take, List.length_drop]; omega
  refine ⟨A.map (·.add s), ?_, (h.drop s).take (i - s), ?_⟩
  · show Value.slice _ (i - s) (i - s) = .slice _ ((bs.drop s).take (i - s)).length ((bs.drop s).take (i - s)).length
    rw [hl]
  · show 0 < ((bs.drop s).take (i - s)).length
    rw [hl]; omega
theorem fieldsV_spec {w : World} {A : Option Addr} {bs : List UInt8} (h : CB w A bs) : ∀ (r : List UInt8) (i : Nat) (st : Option Nat), bs.drop i = r → i ≤ bs.length → (∀ s, st = some s → s < i) → ∀ x ∈ fieldsV A bs r i st, ∃ A', x.1 = .slice A' x.2.length x.2.length ∧ CB w A' x.2 ∧ 0 < x.2.length
  | [], i, none, hd, hi, hs, x, hx => by cases hx
  | [], i, some s, hd, hi, hs, x, hx => by
    rcases List.mem_cons.1 hx with rfl | hx
    · exact fieldX_spec h s i (hs s rfl) hi
    · cases hx
  | b :: r, i, st, hd, hi, hs, x, hx => by
    have hil : i < bs.length := by
      rcases Nat.lt_or_ge i bs.length with h | h
      · exact h
      · rw [List.drop_eq_nil_of_le h] at hd; cases hd
    have hd' : bs.drop (i + 1) = r := by
      rw [List.drop_eq_getElem_cons hil] at hd
      injection hd
    cases st with
    | none =>
      replace hx : x ∈ (if isSp b then fieldsV A bs r (i + 1) none else fieldsV A bs r (i + 1) (some i)) := hx
      cases hb : isSp b with
      | true =>
        rw [hb, if_pos rfl] at hx
        exact fieldsV_spec h r (i + 1) none hd' hil (fun s e => by cases e) x hx
      | false =>
        rw [hb, if_neg (by simp)] at hx
        exact fieldsV_spec h r (i + 1) _ hd' hil (fun s e => by injection e with e; omega) x hx
    | some s =>
      have hsi := hs s rfl
      replace hx : x ∈ (if isSp b then fieldX A bs s i :: fieldsV A bs r (i + 1) none else fieldsV A bs r (i + 1) (some s)) := hx
      cases hb : isSp b with
      | true =>
        rw [hb, if_pos rfl] at hx
        rcases List.mem_cons.1 hx with rfl | hx
        · exact fieldX_spec h s i hsi hi
        · exact fieldsV_spec h r (i + 1) none hd' hil (fun s e => by cases e) x hx
      | false =>
        rw [hb, if_neg (by simp)] at hx
        exact fieldsV_spec h r (i + 1) _ hd' hil (fun s e => by injection e with e; omega) x hx
theorem wordsV_spec {w : World} {A : Option Addr} {bs : List UInt8} {cap : Nat} (h : CB w A bs) (hc : bs.length ≤ cap) : ∀ x ∈ wordsV A cap bs, ∃ A', x.1 = .slice A' x.2.length x.2.length ∧ CB w A' x.2 ∧ 0 < x.2.length := by
  intro x hx
  obtain ⟨y, hy, hx⟩ := List.mem_flatMap.1 hx
  obtain ⟨A', hv, hC⟩ := splitV_spec w bs.length A cap bs hc h y hy
  unfold lineWords at hx
  split at hx
  · cases hx
  · rw [hv] at hx
    exact fieldsV_spec hC y.2 0 none rfl (Nat.zero_le _) (fun s e => by cases e) x hx

theorem words94 (A1 : Option Addr) (n1 c1 : Nat) (w : World) : Calls Tryz.prog 94 #[.slice A1 n1 c1] w fun e w' => e = .returned (.func (.func 132) #[] #[.pointer (some ⟨w.heap.size, 0, none⟩)]) ∧ w' = w.alloc (.cells #[.slice A1 n1 c1] 41) := by
  go_enter Tryz.func94, Tryz.ntmps94
  go_wp2
  go_ret
  exact ⟨rfl, rfl⟩
end Go.Proofs.YtcdhhaedgohlgaaGreatDoor.P
end

section
namespace Go.Proofs.YtcdhhaedgohlgaaGreatDoor.P
set_option linter.unusedVariables false

def okAt (i : Nat) (w : List UInt8) : Bool := if i = 0 then w == [112] else if i = 1 then w == [99, 110, 102] else if i < 4 then (numV w).2 && decide (0 ≤ (numV w).1) else (numV w).2
def numsV (ws : List (List UInt8)) : List Int := (ws.drop 2).map fun w => (numV w).1
def okAll (ws : List (List UInt8)) : Prop := ∀ i w, ws[i]? = some w → okAt i w = true

/-- The clauses between zeros; none: the last is not closed. -/
def clausesOf : Nat → List Int → Option (List (List Int))
  | 0, _ => some []
  | f + 1, l => if l = [] then some [] else match l.findIdx? (· == 0) with
    | none => none
    | some e => (clausesOf f (l.drop (e + 1))).map fun r => l.take e :: r
instance (ws : List (List UInt8)) : Decidable (okAll ws) := decidable_of_iff (∀ i : Fin ws.length, okAt i.1 ws[i.1] = true) ⟨fun h i w hw => by
    obtain ⟨hi, hx⟩ := List.getElem?_eq_some_iff.1 hw
    rw [← hx]; exact h ⟨i, hi⟩, fun h i => h i.1 _ (List.getElem?_eq_getElem i.2)⟩
/-- What Get makes of the words. -/
def getV (ws : List (List UInt8)) : Int × List (List Int) × Int :=
  if ¬ okAll ws ∨ ws.length < 4 then (0, [], 11)
  else if (numsV ws).getD 0 0 > 65536 ∨ (numsV ws).getD 1 0 > 65536 then (0, [], 2)
  else match clausesOf (numsV ws).length ((numsV ws).drop 2) with
    | none => (0, [], 11)
    | some L => if (L.length : Int) ≠ (numsV ws).getD 1 0 then (0, [], 11) else if checkV ((numsV ws).getD 0 0) L ≠ 0 then (0, [], checkV ((numsV ws).getD 0 0) L) else ((numsV ws).getD 0 0, L, 0)
theorem getV_bad {ws : List (List UInt8)} {i : Nat} {u : List UInt8} (h : ws[i]? = some u) (ho : okAt i u = false) : getV ws = (0, [], 11) := by
  unfold getV
  rw [if_pos (.inl (fun hk => by have := hk i u h; rw [ho] at this; cases this))]
end Go.Proofs.YtcdhhaedgohlgaaGreatDoor.P
end

section
namespace Go.Proofs.YtcdhhaedgohlgaaGreatDoor.P
open Go.RowKit Go.Proofs.YtcdhhaedgohlgaaGreatDoorW.PrintWords Go.Proofs.YtcdhhaedgohlgaaGreatDoorW.PrintLast Go.Proofs.YtcdhhaedgohlgaaGreatDoorW.PrintMore
set_option linter.unusedVariables false

def idxI (l : List Int) (x : Int) : Int := match l.findIdx? (· == x) with | none => -1 | some i => i

theorem index_exact (l : List Int) (x : Int) (hl : l.length < 9223372036854775807) : ∀ n i k, i + n = l.length → n < k → slices_Index_int_int.l0 k l x (l.length : Int) (i : Int) = some (match (l.drop i).findIdx? (· == x) with | none => -1 | some j => ((i + j : Nat) : Int))
  | 0, i, k + 1, hi, hk => by
    unfold slices_Index_int_int.l0
    rw [if_neg (by omega), List.drop_eq_nil_of_le (by omega)]
    rfl
  | n + 1, i, k + 1, hi, hk => by
    unfold slices_Index_int_int.l0
    have hlt : i < l.length := by omega
    rw [if_pos (by omega), if_pos (by omega), if_pos (by omega)]
    have hr : rd l (i : Int) = l[i] := by unfold rd; simp [List.getD_eq_getElem?_getD, hlt]
    rw [hr, List.drop_eq_getElem_cons hlt, List.findIdx?_cons]
    by_cases e : x = l[i]
    · have : (l[i] == x) = true := beq_iff_eq.2 e.symm
      rw [if_pos e, this]
      simp
    · have : (l[i] == x) = false := beq_eq_false_iff_ne.2 (fun h => e h.symm)
      have hw : wrap64 ((i : Int) + 1) = ((i + 1 : Nat) : Int) := by unfold wrap64; omega
      rw [if_neg e, this, hw]
      clear hw
      rw [index_exact l x hl n (i + 1) k (by omega) (by omega)]
      cases h : (l.drop (i + 1)).findIdx? (· == x) with
      | none => simp
      | some j =>
        show some (((i + 1 + j : Nat) : Int)) = some (((i + (j + 1) : Nat) : Int))
        rw [show i + 1 + j = i + (j + 1) by omega]

theorem Index_int (A0 : Option Addr) (c0 : Nat) (l0 : List Int) (x : Int) (w : World) (hl : l0.length < 9223372036854775807) (hr0 : Kd.C (Kd.int .i64) w A0 l0.length l0) (hc0 : l0.length ≤ c0) :
    Calls Tryz.prog 96 #[.slice A0 l0.length c0, .int .i64 x] w fun e w' => e = .returned (.int .i64 (idxI l0 x)) ∧ ∃ q, w' = w.drewN q := by
  refine (slices_Index_int_int.calls (l0.length + 1) A0 c0 l0 x (idxI l0 x) w hr0 hc0 ?_).mono fun _ _ ⟨h1, h2⟩ => ⟨h1, h2.out⟩
  unfold slices_Index_int_int.f
  have h := index_exact l0 x hl l0.length 0 (l0.length + 1) (by omega) (by omega)
  rw [show ((0 : Nat) : Int) = 0 from rfl] at h
  rw [h, List.drop_zero]
  unfold idxI
  cases l0.findIdx? (· == x) with
  | none => rfl
  | some j => simp

/-- A row of ints read: what lies behind its first k. -/
theorem C_drop_int {w : World} {g off : Nat} {l : List Int} (h : Kd.C (Kd.int .i64) w (some ⟨g, off, none⟩) l.length l) (k : Nat) : Kd.C (Kd.int .i64) w (some ⟨g, off + k, none⟩) (l.drop k).length (l.drop k) := by
  refine ⟨rfl, by rw [List.length_drop]; have := h.2.1; omega, fun hn => ⟨_, rfl, fun j p hj => ?_⟩⟩
  rw [List.length_drop] at hn
  obtain ⟨hjl, hp⟩ := List.getElem?_eq_some_iff.1 hj
  rw [List.length_drop] at hjl
  rw [List.getElem_drop] at hp
  obtain ⟨ad, e, hx⟩ := Kd.at_int h ((k + j : Nat) : Int) (by omega) (by omega)
  injection e with e
  subst e
  rw [Int.toNat_natCast, addP] at hx
  have hr : rd l ((k + j : Nat) : Int) = p := by unfold rd; rw [Int.toNat_natCast, ← hp]; simp [List.getD_eq_getElem?_getD, show k + j < l.length by omega]
  rw [hr] at hx
  refine ⟨[.int .i64 p], rfl, rfl, fun i u hi => ?_⟩
  cases i with
  | zero =>
    injection hi with hi
    subst hi
    show w.cell? (Addr.add ⟨g, off + k, none⟩ (j * 1 + 0)) = _
    rw [Nat.mul_one, Nat.add_zero, addP, Nat.add_assoc]
    exact hx
  | succ i => simp at hi
end Go.Proofs.YtcdhhaedgohlgaaGreatDoor.P
end

section
namespace Go.Proofs.YtcdhhaedgohlgaaGreatDoor.P
open Go.RowKit Go.Shelf Go Go.Proofs.YtcdhhaedgohlgaaGreatDoorW.PrintWords Go.Proofs.YtcdhhaedgohlgaaGreatDoorW.PrintLast Go.Proofs.YtcdhhaedgohlgaaGreatDoorW.PrintMore
set_option maxRecDepth 100000
def sr : Code → Code | .seq _ b => b | c => c
def sl : Code → Code | .seq a _ => a | c => c
def blk : Code → Code | .block _ c => c | c => c
noncomputable def rest40 : Code := sr (sr (sr (sr (sr (sr (sr (sr (Tryz.f40.body.getD .skip))))))))
noncomputable def loop40 : Code := blk (sr (sl rest40))
noncomputable def behind40 : Code := sr rest40
theorem C_move {w w' : World} {g : Nat} {l : List Int} (h : Kd.C (Kd.int .i64) w (some ⟨g, 0, none⟩) l.length l) (hk : w'.heap[g]? = w.heap[g]?) : Kd.C (Kd.int .i64) w' (some ⟨g, 0, none⟩) l.length l := by
  refine ⟨rfl, h.2.1, fun hn => ?_⟩
  obtain ⟨ad, e, hc⟩ := h.2.2 hn
  injection e with e
  subst e
  refine ⟨_, rfl, fun j p hj => ?_⟩
  obtain ⟨c, h1, h2, h3⟩ := hc j p hj
  refine ⟨c, h1, h2, fun i u hi => ?_⟩
  have := h3 i u hi
  rw [addP] at this ⊢
  rw [World.cell?_of_block (a := ⟨g, 0 + (j * (Kd.int IntKind.i64).sz + i), none⟩) hk]
  exact this

theorem clausesOf_none {f : Nat} {l : List Int} (hl : 0 < f) (h : l.findIdx? (· == 0) = none) : clausesOf f l = if l = [] then some [] else none := by
  cases f with
  | zero => omega
  | succ f =>
    rw [clausesOf]
    split
    · rfl
    · rw [h]
theorem C_take_int {w : World} {A : Option Addr} {l : List Int} (h : Kd.C (Kd.int .i64) w A l.length l) (k : Nat) (hk : k ≤ l.length) : Kd.C (Kd.int .i64) w A (l.take k).length (l.take k) := by
  refine ⟨rfl, by rw [List.length_take]; have := h.2.1; omega, fun hn => ?_⟩
  rw [List.length_take] at hn
  obtain ⟨ad, e, hc⟩ := h.2.2 (by omega)
  refine ⟨ad, e, fun j p hj => hc j p ?_⟩
  rw [List.getElem?_take] at hj
  split at hj
  · exact hj
  · cases hj

/-- What stands between two rounds of the last loop: m numbers are used up, Lacc is made. -/
structure GetL (m0 D G g : Nat) (N0 : Int) (l : List Int) (W0 : World) (m : Nat) (A2 : Option Addr) (c2 : Nat) (Lacc : List (List Int)) (vL : Value) (wr : World) : Prop where
  os : wr.os = W0.os
  tape : wr.tape = W0.tape
  output : wr.output = W0.output
  size : W0.heap.size ≤ wr.heap.size
  old : ∀ k, k < G → k ≠ m0 + 2 → wr.heap[k]? = W0.heap[k]?
  addr : A2 = some ⟨g, m, none⟩ ∨ l.drop m = []
  cap : (l.drop m).length ≤ c2
  lbox : Boxed wr (m0 + 2) 25 (.slice A2 (l.drop m).length c2)
  cbox : wr.heap[G]? = some (.cells #[.int .i64 N0, vL] 24 (0, 0))
  acc : Kd.S (Kd.slice 3 (Kd.int .i64)) 25 wr (G + 1) (fun _ => True) vL Lacc
  few : Lacc.length ≤ m ∧ m ≤ l.length
  cl : ∃ f, (l.drop m).length ≤ f ∧ clausesOf l.length (l.drop 2) = (clausesOf f (l.drop m)).map (Lacc ++ ·)

theorem GetL.next {m0 D G g : Nat} {N0 : Int} {l : List Int} {W0 : World} {m : Nat} {A2 : Option Addr} {c2 : Nat} {Lacc LN : List (List Int)} {vL v2 : Value} {wr w2 : World} {j n3 c3 : Nat} {A3 : Option Addr} {rest cn : List Int}
    (h : GetL m0 D G g N0 l W0 m A2 c2 Lacc vL wr) (hg : m0 + 5 ≤ g ∧ g < G) (hGs : G < W0.heap.size) (hr : rest = l.drop m) (hcn : cn = rest.take j) (hLN : LN = Lacc ++ [cn]) (hjl : j < rest.length) (hf : rest.findIdx? (· == 0) = some j) (hB : Below (G + 1) wr w2)
    (hS : Kd.S (Kd.slice 3 (Kd.int .i64)) 25 w2 (G + 1) (fun _ => True) v2 LN) (hn3 : n3 = rest.length - (j + 1)) (hc3 : n3 ≤ c3) (hA : A3 = A2.map (fun x => { block := x.block, off := x.off + (j + 1) }) ∨ n3 = 0) :
    GetL m0 D G g N0 l W0 (m + (j + 1)) A3 c3 LN v2 ((w2.setCell ⟨G, 1, none⟩ v2).setCell ⟨m0 + 1 + 1, 0, none⟩ (.slice A3 n3 c3)) := by
  have hlen : (l.drop (m + (j + 1))).length = n3 := by rw [hn3, hr, List.length_drop, List.length_drop]; omega
  have hml : (l.drop m).length = l.length - m := List.length_drop
  have hGw : G < wr.heap.size := Nat.lt_of_lt_of_le hGs h.size
  have hold : ∀ k, k < G + 1 → w2.heap[k]? = wr.heap[k]? := fun k hk => hB.block k hk
  have hs : ((w2.setCell ⟨G, 1, none⟩ v2).setCell ⟨m0 + 1 + 1, 0, none⟩ (.slice A3 n3 c3)).heap.size = w2.heap.size := by
    have sz : ∀ (W : World) (a : Addr) (v : Value), (W.setCell a v).heap.size = W.heap.size := fun W a v => by show (W.heap.modify _ _).size = _; rw [Array.size_modify]
    rw [sz, sz]
  have oth : ∀ (W : World) (b o k : Nat) (v : Value), k ≠ b → (W.setCell ⟨b, o, none⟩ v).heap[k]? = W.heap[k]? := fun W b o k v hk => Below.heap_setCell _ _ _ k hk
  refine ⟨hB.os.trans h.os, hB.tape.trans h.tape, hB.output.trans h.output, by rw [hs]; exact Nat.le_trans h.size hB.size, fun k hk hne => ?_, ?_, by rw [hlen]; exact hc3, ?_, ?_, ?_, ?_, ?_⟩
  · rw [oth _ _ _ _ _ hne, oth _ _ _ _ _ (by omega), hold k (by omega)]
    exact h.old k hk hne
  · rcases hA with hA | hA
    · rcases h.addr with h2 | h2
      · left
        rw [hA, h2]
        rfl
      · exfalso
        rw [hr, h2] at hjl
        simp at hjl
    · right
      exact List.eq_nil_of_length_eq_zero (by omega)
  · rw [hlen]
    have hb : Boxed (w2.setCell ⟨G, 1, none⟩ v2) (m0 + 1 + 1) 25 (.slice A2 (l.drop m).length c2) := (oth _ _ _ _ _ (by omega)).trans ((hold _ (by omega)).trans h.lbox)
    exact hb.set _
  · rw [oth _ _ _ _ _ (by omega)]
    have hc := (hold G (by omega)).trans h.cbox
    obtain ⟨hlt, hk⟩ := Array.getElem?_eq_some_iff.1 hc
    show (w2.heap.modify G _)[G]? = _
    rw [Array.getElem?_eq_getElem (by rw [Array.size_modify]; exact hlt), Array.getElem_modify_self, hk]
    rfl
  · exact Kd.S_mono (Kd.S_far (p := ⟨m0 + 1 + 1, 0, none⟩) (Kd.S_far (p := ⟨G, 1, none⟩) (Kd.S_bound hS) (fun k hk => by have := hk.2.1; show k ≠ G; omega) v2) (fun k hk => by have := hk.2.1; show k ≠ m0 + 1 + 1; omega) _) (fun _ _ => trivial)
  · have := h.few
    rw [hLN, List.length_append, List.length_singleton]
    rw [hr] at hjl
    omega
  · obtain ⟨f, hfl, hcl⟩ := h.cl
    rw [← hr] at hfl hcl
    cases f with
    | zero => omega
    | succ f =>
      refine ⟨f, by rw [hlen]; omega, ?_⟩
      have hne : ¬ rest = [] := fun e => by rw [e] at hjl; simp at hjl
      rw [hcl, clausesOf, if_neg hne, hf]
      have hd : l.drop (m + (j + 1)) = rest.drop (j + 1) := by rw [hr, List.drop_drop]
      rw [hd, hLN, hcn]
      show Option.map _ (Option.map _ (clausesOf f (rest.drop (j + 1)))) = _
      cases clausesOf f (rest.drop (j + 1)) with
      | none => rfl
      | some r => simp

set_option maxHeartbeats 4000000 in
theorem loop40_wp (m0 D G g : Nat) (N0 N1 : Int) (l : List Int) (W0 : World) (m1 : Nat) (A1 : Option Addr) (c1 : Nat) (W1 : World) (v0 v1 v5 v6 v7 v8 v11 v12 v13 v14 v15 v16 v17 v18 v19 v20 v21 v22 v23 v24 v25 v26 v27 v28 v29 v30 v31 v32 v33 v34 v35 v36 v37 v38 v39 v40 v41 v42 v43 v44 v45 v46 v47 v48 v49 v50 v51 v52 v53 v54 v55 v56 v57 v58 v59 v60 v61 v62 v63 v64 v65 v66 v67 v68 v69 v70 v71 v72 v73 v74 v75 v76 v77 v78 v79 v80 v81 v82 v83 v84 v85 v86 v87 v88 v89 v90 v91 v92 v93 v94 v95 v96 v97 v98 v99 v100 v101 v102 v103 v104 v105 v106 v107 v108 v109 : Value) (K : Act → World → Prop) (Q' : Exit → Act → World → Prop)
    (h0 : GetL m0 D G g N0 l W0 m1 A1 c1 [] (.slice none 0 0) W1) (hg : m0 + 5 ≤ g ∧ g < G) (hl : l.length ≤ 4194304) (hC : Kd.C (Kd.int .i64) W0 (some ⟨g, 0, none⟩) l.length l) (hGs : G < W0.heap.size)
    (hc0 : W0.heap[m0]? = some (.cells #[.int .i64 0, .slice none 0 0] 24 (0, 0))) (he0 : Boxed W0 (m0 + 1) 32 (.int .i64 0))
    (hK : ∀ (m : Nat) (A2 : Option Addr) (c2 : Nat) (Lacc : List (List Int)) (vL : Value) (wr : World) (u11 u76 u77 u78 u79 u80 u81 u82 u83 u84 u85 u86 u87 u88 u89 u90 u91 u92 u93 u94 u95 u96 : Value), GetL m0 D G g N0 l W0 m A2 c2 Lacc vL wr → clausesOf l.length (l.drop 2) = some Lacc → K { tmps := #[v0, v1, .pointer (some ⟨m0, 0, none⟩), .pointer (some ⟨m0 + 1, 0, none⟩), .pointer (some ⟨m0 + 1 + 1, 0, none⟩), v5, v6, v7, v8, .pointer (some ⟨G, 0, none⟩), .int .i64 N1, u11, v12, v13, v14, v15, v16, v17, v18, v19, v20, v21, v22, v23, v24, v25, v26, v27, v28, v29, v30, v31, v32, v33, v34, v35, v36, v37, v38, v39, v40, v41, v42, v43, v44, v45, v46, v47, v48, v49, v50, v51, v52, v53, v54, v55, v56, v57, v58, v59, v60, v61, v62, v63, v64, v65, v66, v67, v68, v69, v70, v71, v72, v73, v74, v75, u76, u77, u78, u79, u80, u81, u82, u83, u84, u85, u86, u87, u88, u89, u90, u91, u92, u93, u94, u95, u96, v97, v98, v99, v100, v101, v102, v103, v104, v105, v106, v107, v108, v109], defers := [{ target := .collected D, args := #[] }] } wr)
    (hret : ∀ (m : Nat) (A2 : Option Addr) (c2 : Nat) (Lacc : List (List Int)) (vL : Value) (wr : World) (q : Nat) (tmps : Array Value), GetL m0 D G g N0 l W0 m A2 c2 Lacc vL wr → clausesOf l.length (l.drop 2) = none → tmps.getD 2 undef = .pointer (some ⟨m0, 0, none⟩) → tmps.getD 3 undef = .pointer (some ⟨m0 + 1, 0, none⟩) →
      Q' .ret { tmps := tmps, defers := [{ target := .collected D, args := #[] }] } ((((wr.drewN q).setCell ⟨m0, 0, none⟩ (.int .i64 0)).setCell ⟨m0, 1, none⟩ (.slice none 0 0)).setCell ⟨m0 + 1, 0, none⟩ (.int .i64 11))) :
    loop40.wp Tryz.prog (Exit.inBlock 3 (Exit.then K Q')) { tmps := #[v0, v1, .pointer (some ⟨m0, 0, none⟩), .pointer (some ⟨m0 + 1, 0, none⟩), .pointer (some ⟨m0 + 1 + 1, 0, none⟩), v5, v6, v7, v8, .pointer (some ⟨G, 0, none⟩), .int .i64 N1, v11, v12, v13, v14, v15, v16, v17, v18, v19, v20, v21, v22, v23, v24, v25, v26, v27, v28, v29, v30, v31, v32, v33, v34, v35, v36, v37, v38, v39, v40, v41, v42, v43, v44, v45, v46, v47, v48, v49, v50, v51, v52, v53, v54, v55, v56, v57, v58, v59, v60, v61, v62, v63, v64, v65, v66, v67, v68, v69, v70, v71, v72, v73, v74, v75, v76, v77, v78, v79, v80, v81, v82, v83, v84, v85, v86, v87, v88, v89, v90, v91, v92, v93, v94, v95, v96, v97, v98, v99, v100, v101, v102, v103, v104, v105, v106, v107, v108, v109], defers := [{ target := .collected D, args := #[] }] } W1 := by
  have HK := Aside0.mk hK
  have HRET := Aside0.mk hret
  clear hK hret
  simp only [loop40, rest40, Tryz.f40, sr, sl, blk, Option.getD]
  go_loopg [11] (l.drop m1).length (fun gg s11 wr => ∃ (m : Nat) (A2 : Option Addr) (c2 : Nat) (Lacc : List (List Int)) (vL : Value), (l.drop m).length ≤ gg ∧ Aside0 (GetL m0 D G g N0 l W0 m A2 c2 Lacc vL wr))
  case atStart => exact ⟨m1, A1, c1, [], _, Nat.le_refl _, ⟨h0⟩⟩
  case round =>
    clear h0
    obtain ⟨m, A2, c2, Lacc, vL, hgg, HS⟩ := hrel
    have hlc : wr.cell? ⟨m0 + 1 + 1, 0, none⟩ = some (.slice A2 (l.drop m).length c2) := HS.out.lbox.cell
    obtain ⟨rest, hrest⟩ : ∃ rest, rest = l.drop m := ⟨_, rfl⟩
    have HR := Aside0.mk hrest
    rw [← hrest] at hlc hgg
    clear hrest
    by_cases hz : 0 < rest.length
    · have hzz : (0 : Int) < (rest.length : Int) := by omega
      have hrl : rest.length ≤ 4194304 := by rw [HR.out, List.length_drop]; omega
      have hCR : Kd.C (Kd.int .i64) wr A2 rest.length rest := by
        have h1 := C_drop_int (C_move hC (HS.out.old g hg.2 (by omega))) m
        rcases HS.out.addr with h2 | h2
        · rw [h2, HR.out]
          have h3 : (⟨g, m, none⟩ : Addr) = ⟨g, 0 + m, none⟩ := by rw [Nat.zero_add]
          rw [h3]; exact h1
        · rw [← HR.out] at h2
          rw [h2] at hz
          simp at hz
      have HI := Aside0.mk (Index_int A2 c2 rest 0 wr (by omega) hCR (by rw [HR.out]; exact HS.out.cap))
      have hc := (HS.out.old m0 (by omega) (by omega)).trans hc0
      have he := (HS.out.old (m0 + 1) (by omega) (by omega)).trans he0
      have hcv : wr.cell? ⟨G, 1, none⟩ = some vL := by simp [World.cell?, HS.out.cbox]
      have hgc0 : wr.cell? ⟨G, 0, none⟩ = some (.int .i64 N0) := by simp [World.cell?, HS.out.cbox]
      have hgf : wr.frozen? ⟨G, 1, none⟩ = false := by simp [World.frozen?, HS.out.cbox]
      have hk0 : wr.cell? ⟨m0, 0, none⟩ = some (.int .i64 0) := by simp [World.cell?, hc]
      have hk1 : wr.cell? ⟨m0, 1, none⟩ = some (.slice none 0 0) := by simp [World.cell?, hc]
      have hf0 : wr.frozen? ⟨m0, 0, none⟩ = false := by simp [World.frozen?, hc]
      have hf1 : wr.frozen? ⟨m0, 1, none⟩ = false := by simp [World.frozen?, hc]
      have hec : wr.cell? ⟨m0 + 1, 0, none⟩ = some (.int .i64 0) := Boxed.cell he
      have hef : wr.frozen? ⟨m0 + 1, 0, none⟩ = false := Boxed.frozen he
      have hlf : wr.frozen? ⟨m0 + 1 + 1, 0, none⟩ = false := HS.out.lbox.frozen
      clear hc he
      cases hf : rest.findIdx? (· == 0) with
      | none =>
        have hix : idxI rest 0 = -1 := by unfold idxI; rw [hf]
        rw [hix] at HI
        have HFN := Aside0.mk hf
        clear hf hix
        go_wp2_with (go_at_call 96; refine (HI.out).mono ?_; rintro e w' ⟨rfl, q, rfl⟩)
        refine HRET.out m A2 c2 Lacc vL wr q _ HS.out ?_ rfl rfl
        obtain ⟨f, hfl, hcl⟩ := HS.out.cl
        rw [← HR.out] at hfl hcl
        have hne : rest ≠ [] := fun e => by rw [e] at hz; simp at hz
        rw [hcl, clausesOf_none (by omega) HFN.out, if_neg hne]
        rfl
      | some j => 
        have hix : idxI rest 0 = (j : Int) := by unfold idxI; rw [hf]
        rw [hix] at HI
        have HFN := Aside0.mk hf
        clear hf hix
        go_wp2_with (go_at_call 96; refine (HI.out).mono ?_; rintro e w' ⟨rfl, q, rfl⟩)
        obtain ⟨hjl, hjz, hjf⟩ := List.findIdx?_eq_some_iff_getElem.1 HFN.out
        have hj0 : (0 : Int) ≤ (j : Int) := by omega
        have hj1 : (j : Int) < (rest.length : Int) := by omega
        have hcc : rest.length ≤ c2 := by rw [HR.out]; exact HS.out.cap
        have hj2 : (j : Int) ≤ (c2 : Int) := by omega
        have htl : (rest.take j).length = j := by rw [List.length_take]; omega
        have HCL : Aside0 (∀ W, Below wr.heap.size wr W → Calls Tryz.prog 62 #[.slice A2 j c2] W fun e w' => ∃ v, e = .returned v ∧ RI w' W.heap.size v (rest.take j) ∧ Below W.heap.size W w') := ⟨fun W hb => by
          have := Clone_int A2 c2 (rest.take j) W (C_take_int (Kd.C_below hCR hb) j (by omega)) (by omega) (by omega)
          rw [htl] at this
          exact this⟩
        have HJ := Aside0.mk (And.intro hjl htl)
        obtain ⟨cn, hcn⟩ : ∃ cn, cn = rest.take j := ⟨_, rfl⟩
        rw [← hcn] at HCL
        have HCN := Aside0.mk hcn
        clear hcn
        clear hjz hjf htl hjl HI
        have hGw : G < wr.heap.size := Nat.lt_of_lt_of_le hGs HS.out.size
        have hmw : m0 + 1 + 1 < wr.heap.size := by omega
        have hmg : m0 + 1 + 1 < G + 1 := by omega
        have hmne : ¬ (m0 + 1 + 1 = G) := by omega
        have hmne2 : ¬ (G = m0 + 1 + 1) := by omega
        have HVL : Aside0 (∀ k, vL.ownBlock = some k → k < wr.heap.size) := ⟨fun k hk => by
          obtain ⟨inner, ho⟩ := Kd.R_own (Kd.S_R HS.out.acc)
          exact own_lt ho k hk⟩
        have hj3 : (j : Int) + 1 ≤ (rest.length : Int) := by omega
        have hj4 : (j : Int) + 1 ≤ (c2 : Int) := by omega
        have hj5 : (0 : Int) ≤ (j : Int) + 1 := by omega
        all_goals
         refine wp_region_noPanic ?_
         go_region_law
           (first
             | (go_simp; go_at_call 62; refine (HCL.out _ ?a1).mono ?_; (case a1 => repeat (first | exact Below.refl _ _ | refine pw_below_drewN ?_ _ | refine below_drew ?_)); rintro e w1 ⟨vq, rfl, hRq, hbq⟩; obtain ⟨Aq, cq, rfl⟩ := Kd.R_slice hRq; have hcv1 : w1.cell? ⟨G, 1, none⟩ = some vL := pw_cell_below hbq (by simpa using hcv); have hlc1 : w1.cell? ⟨m0 + 1 + 1, 0, none⟩ = some (.slice A2 rest.length c2) := pw_cell_below hbq (by simpa using hlc); have hcva : ∀ o, (w1.alloc o).cell? ⟨G, 1, none⟩ = some vL := fun o => pw_cell_below (below_alloc (Below.refl _ _) o) hcv1; have HRQ := Aside0.mk hRq; have HBQ := Aside0.mk hbq; have HSQ := Aside0.mk (Kd.S_elder' (v := .slice Aq cn.length cq) (by (with_reducible repeat (first | apply Kd.S_alloc | apply Kd.S_drewN | apply Kd.S_drew)); exact HS.out.acc) (Kd.R_base hRq) hbq); have HBW : Aside0 (Below wr.heap.size wr w1) := ⟨below_step (by repeat (first | exact Below.refl _ _ | refine pw_below_drewN ?_ _ | refine below_drew ?_)) hbq⟩; have HBASE : Aside0 (∀ k, (Value.slice Aq cn.length cq).ownBlock = some k → wr.heap.size ≤ k) := ⟨Kd.R_base hRq⟩; clear hRq hbq)
             | ((refine Kd.S_append_step (w0 := wr) (Kd.slice 3 (Kd.int .i64)) (G + 1) (by rfl) (.tmp 85) (.tmp 90) 22 25 (.slice none 0 0) 24 (by rfl) Tryz.underlying22 info25 rfl (by decide) (by decide) vL Lacc cn [.slice Aq cn.length cq] (fun _ => True) (fun k => some k = (Value.slice Aq cn.length cq).ownBlock) (by rfl) (by rfl) ?b1 ?b2 ?b3 ?b4 ?b5 ?b6 ?b7 ?_); (case b1 => exact ⟨_, rfl, Kd.R_lower (Kd.R_tight rfl HRQ.out) (by exact hGw)⟩); (case b2 => exact fun k hk => ⟨trivial, fun e => by have h1 := HBASE.out k hk.symm; have h2 := HVL.out k e.symm; omega⟩); (case b3 => exact fun _ _ => trivial); (case b4 => exact Kd.S_mono HSQ.out (fun k hk => ⟨trivial, fun e => hk.2 e⟩)); (case b5 => exact HBW.out.mono (by exact hGw)); (case b6 => exact Nat.le_trans hGw HBW.out.size); (case b7 => have := HS.out.few; omega); intro v2 w2 hS2 hB2 hG2 hat2; clear hG2 hat2; obtain ⟨LN, hLN⟩ : ∃ LN, LN = Lacc ++ [cn] := ⟨_, rfl⟩; rw [← hLN] at hS2; obtain ⟨Av, cv, rfl⟩ := Kd.S_slice hS2; have HLN := Aside0.mk hLN; clear hLN; have hcv2 : w2.cell? ⟨G, 1, none⟩ = some vL := (hB2.cell (p := ⟨G, 1, none⟩) (Nat.lt_succ_self _)).trans hcv; have hgf2 : w2.frozen? ⟨G, 1, none⟩ = false := (hB2.frozen (p := ⟨G, 1, none⟩) (Nat.lt_succ_self _)).trans hgf; have hlc2 : w2.cell? ⟨m0 + 1 + 1, 0, none⟩ = some (.slice A2 rest.length c2) := (hB2.cell (p := ⟨m0 + 1 + 1, 0, none⟩) hmg).trans hlc; have hlf2 : w2.frozen? ⟨m0 + 1 + 1, 0, none⟩ = false := (hB2.frozen (p := ⟨m0 + 1 + 1, 0, none⟩) hmg).trans hlf; have HS2 := Aside0.mk hS2; have HB2 := Aside0.mk hB2; clear hS2 hB2))
         all_goals refine NoPanic.normal ?_
         all_goals clear hcv hgc0 hlc hgf hlf
         all_goals go_wp2
         all_goals go_roundg (rest.length - (j + 1))
         all_goals first
           | (case measure => omega)
           | skip
         all_goals
           refine ⟨m + (j + 1), _, _, LN, _, ?_, ⟨GetL.next HS.out hg hGs HR.out HCN.out HLN.out HJ.out.1 HFN.out HB2.out HS2.out rfl ?_ ?_⟩⟩
           · rw [← List.drop_drop, ← HR.out, List.length_drop]; exact Nat.le_refl _
           · omega
           · first
             | exact .inl rfl
             | (right; omega)
    · have hzz : ¬ (0 : Int) < (rest.length : Int) := by omega
      go_wp2
      have hn : l.drop m = [] := by
        rw [← HR.out]
        exact List.eq_nil_of_length_eq_zero (by omega)
      refine HK.out m A2 c2 Lacc vL wr _ _ _ _ _ _ _ _ _ _ _ _ _ _ _ _ _ _ _ _ _ _ HS.out ?_
      obtain ⟨f, hfl, hcl⟩ := HS.out.cl
      rw [hcl, hn]
      cases f <;> simp [clausesOf]
end Go.Proofs.YtcdhhaedgohlgaaGreatDoor.P
end

section
namespace Go.Proofs.YtcdhhaedgohlgaaGreatDoor.P
open Go.RowKit Go.Shelf Go Go.Proofs.YtcdhhaedgohlgaaGreatDoorW.PrintWords Go.Proofs.YtcdhhaedgohlgaaGreatDoorW.PrintLast Go.Proofs.YtcdhhaedgohlgaaGreatDoorW.PrintMore
set_option maxRecDepth 100000
set_option linter.unusedVariables false

set_option maxHeartbeats 4000000 in
theorem behind40_wp (m0 D G g : Nat) (N0 N1 : Int) (l : List Int) (W0 : World) (m : Nat) (A2 : Option Addr) (c2 : Nat) (Lacc : List (List Int)) (vL : Value) (wr : World) (v0 v1 v5 v6 v7 v8 v11 v12 v13 v14 v15 v16 v17 v18 v19 v20 v21 v22 v23 v24 v25 v26 v27 v28 v29 v30 v31 v32 v33 v34 v35 v36 v37 v38 v39 v40 v41 v42 v43 v44 v45 v46 v47 v48 v49 v50 v51 v52 v53 v54 v55 v56 v57 v58 v59 v60 v61 v62 v63 v64 v65 v66 v67 v68 v69 v70 v71 v72 v73 v74 v75 v76 v77 v78 v79 v80 v81 v82 v83 v84 v85 v86 v87 v88 v89 v90 v91 v92 v93 v94 v95 v96 v97 v98 v99 v100 v101 v102 v103 v104 v105 v106 v107 v108 v109 : Value) (Q : Exit → Act → World → Prop)
    (hS : GetL m0 D G g N0 l W0 m A2 c2 Lacc vL wr) (hg : m0 + 5 ≤ g ∧ g < G) (hGs : G < W0.heap.size) (hl : l.length ≤ 4194304)
    (hc0 : W0.heap[m0]? = some (.cells #[.int .i64 0, .slice none 0 0] 24 (0, 0))) (he0 : Boxed W0 (m0 + 1) 32 (.int .i64 0))
    (hz : ∀ (tmps : Array Value) (w1 : World) (e : Int), Below wr.heap.size wr w1 → ((e = 11 ∧ (Lacc.length : Int) ≠ N1) ∨ ((Lacc.length : Int) = N1 ∧ e = checkV N0 Lacc ∧ e ≠ 0)) → tmps.getD 2 undef = .pointer (some ⟨m0, 0, none⟩) → tmps.getD 3 undef = .pointer (some ⟨m0 + 1, 0, none⟩) →
      Q .ret { tmps := tmps, defers := [{ target := .collected D, args := #[] }] } (((w1.setCell ⟨m0, 0, none⟩ (.int .i64 0)).setCell ⟨m0, 1, none⟩ (.slice none 0 0)).setCell ⟨m0 + 1, 0, none⟩ (.int .i64 e)))
    (hok : ∀ (tmps : Array Value) (w1 : World), Below wr.heap.size wr w1 → (Lacc.length : Int) = N1 → checkV N0 Lacc = 0 → tmps.getD 2 undef = .pointer (some ⟨m0, 0, none⟩) → tmps.getD 3 undef = .pointer (some ⟨m0 + 1, 0, none⟩) →
      Q .ret { tmps := tmps, defers := [{ target := .collected D, args := #[] }] } (((w1.setCell ⟨m0, 0, none⟩ (.int .i64 N0)).setCell ⟨m0, 1, none⟩ vL).setCell ⟨m0 + 1, 0, none⟩ (.int .i64 0))) :
    behind40.wp Tryz.prog Q { tmps := #[v0, v1, .pointer (some ⟨m0, 0, none⟩), .pointer (some ⟨m0 + 1, 0, none⟩), .pointer (some ⟨m0 + 1 + 1, 0, none⟩), v5, v6, v7, v8, .pointer (some ⟨G, 0, none⟩), .int .i64 N1, v11, v12, v13, v14, v15, v16, v17, v18, v19, v20, v21, v22, v23, v24, v25, v26, v27, v28, v29, v30, v31, v32, v33, v34, v35, v36, v37, v38, v39, v40, v41, v42, v43, v44, v45, v46, v47, v48, v49, v50, v51, v52, v53, v54, v55, v56, v57, v58, v59, v60, v61, v62, v63, v64, v65, v66, v67, v68, v69, v70, v71, v72, v73, v74, v75, v76, v77, v78, v79, v80, v81, v82, v83, v84, v85, v86, v87, v88, v89, v90, v91, v92, v93, v94, v95, v96, v97, v98, v99, v100, v101, v102, v103, v104, v105, v106, v107, v108, v109], defers := [{ target := .collected D, args := #[] }] } wr := by
  obtain ⟨AL, cL, rfl, hcl, hrd⟩ := Kd.S_reads hS.acc
  have HZ := Aside0.mk hz
  have HOK := Aside0.mk hok
  have hc := (hS.old m0 (by omega) (by omega)).trans hc0
  have he : Boxed wr (m0 + 1) 32 (.int .i64 0) := (hS.old (m0 + 1) (by omega) (by omega)).trans he0
  have hlen : Lacc.length ≤ 4194304 := by have := hS.few; omega
  have hk0 : wr.cell? ⟨m0, 0, none⟩ = some (.int .i64 0) := by simp [World.cell?, hc]
  have hk1 : wr.cell? ⟨m0, 1, none⟩ = some (.slice none 0 0) := by simp [World.cell?, hc]
  have hf0 : wr.frozen? ⟨m0, 0, none⟩ = false := by simp [World.frozen?, hc]
  have hf1 : wr.frozen? ⟨m0, 1, none⟩ = false := by simp [World.frozen?, hc]
  have hec : wr.cell? ⟨m0 + 1, 0, none⟩ = some (.int .i64 0) := he.cell
  have hef : wr.frozen? ⟨m0 + 1, 0, none⟩ = false := he.frozen
  have hg0 : wr.cell? ⟨G, 0, none⟩ = some (.int .i64 N0) := by simp [World.cell?, hS.cbox]
  have hg1 : wr.cell? ⟨G, 1, none⟩ = some (.slice AL Lacc.length cL) := by simp [World.cell?, hS.cbox]
  have hs := hS.size
  have HCK := Aside0.mk (cnf_Check.calls N0 AL cL Lacc (checkV N0 Lacc) wr hrd hcl rfl)
  have HS := Aside0.mk hS
  clear hz hok hc he hrd hcl hc0 he0 hS
  simp only [behind40, rest40, Tryz.f40, sr, sl, blk, Option.getD]
  by_cases hn : (Lacc.length : Int) = N1
  · have hnb : ((Lacc.length : Int) != N1) = false := by simp [hn]
    have HN := Aside0.mk hn
    clear hn
    by_cases hcz : checkV N0 Lacc = 0
    · have HCZ := Aside0.mk hcz
      rw [hcz] at HCK
      clear hcz
      go_wp2_with (go_at_call 26; refine (HCK.out).mono ?_; rintro e w1 ⟨rfl, hb⟩; have b0 := pw_cell_below hb hk0; have b1 := pw_cell_below hb hk1; have b2 := pw_cell_below hb hec; have b3 := pw_cell_below hb hg0; have b4 := pw_cell_below hb hg1; have c0 : w1.frozen? ⟨m0, 0, none⟩ = false := (hb.frozen (p := ⟨m0, 0, none⟩) (by show m0 < _; omega)).trans hf0; have c1 : w1.frozen? ⟨m0, 1, none⟩ = false := (hb.frozen (p := ⟨m0, 1, none⟩) (by show m0 < _; omega)).trans hf1; have c2 : w1.frozen? ⟨m0 + 1, 0, none⟩ = false := (hb.frozen (p := ⟨m0 + 1, 0, none⟩) (by show m0 + 1 < _; omega)).trans hef; have HB := Aside0.mk hb; clear hb)
      exact HOK.out _ w1 HB.out HN.out HCZ.out rfl rfl
    · have HCZ := Aside0.mk hcz
      generalize hcv : checkV N0 Lacc = cz at *
      have HCV := Aside0.mk hcv
      have hczb : (cz != 0) = true := by simp [hcz]
      have hcze : (cz == 0) = false := by simp [hcz]
      clear hcz hcv
      go_wp2_with (go_at_call 26; refine (HCK.out).mono ?_; rintro e w1 ⟨rfl, hb⟩; have b0 := pw_cell_below hb hk0; have b1 := pw_cell_below hb hk1; have b2 := pw_cell_below hb hec; have b3 := pw_cell_below hb hg0; have b4 := pw_cell_below hb hg1; have c0 : w1.frozen? ⟨m0, 0, none⟩ = false := (hb.frozen (p := ⟨m0, 0, none⟩) (by show m0 < _; omega)).trans hf0; have c1 : w1.frozen? ⟨m0, 1, none⟩ = false := (hb.frozen (p := ⟨m0, 1, none⟩) (by show m0 < _; omega)).trans hf1; have c2 : w1.frozen? ⟨m0 + 1, 0, none⟩ = false := (hb.frozen (p := ⟨m0 + 1, 0, none⟩) (by show m0 + 1 < _; omega)).trans hef; have HB := Aside0.mk hb; clear hb)
      exact HZ.out _ w1 cz HB.out (.inr ⟨HN.out, rfl, HCZ.out⟩) rfl rfl
  · have hnb : ((Lacc.length : Int) != N1) = true := by simp [hn]
    have HN := Aside0.mk hn
    clear hn
    go_wp2
    exact HZ.out _ wr 11 (Below.refl _ _) (.inl ⟨rfl, HN.out⟩) rfl rfl
end Go.Proofs.YtcdhhaedgohlgaaGreatDoor.P
end

section
namespace Go.Proofs.YtcdhhaedgohlgaaGreatDoor.P
open Go.RowKit Go.Shelf Go.Proofs.YtcdhhaedgohlgaaGreatDoorW.PrintWords Go.Proofs.YtcdhhaedgohlgaaGreatDoorW.PrintLast Go.Proofs.YtcdhhaedgohlgaaGreatDoorW.PrintMore
set_option linter.unusedVariables false
set_option linter.unusedSimpArgs false
set_option maxRecDepth 100000
attribute [local go_sem] Oper.semAt_some

theorem wpListIn_append_at {F : Fence} {n : Nat} {P : Program} (w : World) {ops : Array Oper} {rest : List Oper} {o : Oper} {a : Act} {Q : Exit → Act → World → Prop}
    (hg : o.guard = none) (s x : Operand) (t : TypeId) (hop : o.op = Op.call { callee := Callee.builtin Builtin.append, args := #[s, x], argTypes := #[t, t] })
    (base : Nat) (e : TypeId) (i : TypeInfo) (z : Value) (size bytes : Nat) (h1 : P.underlying t = some (.slice e)) (h2 : P.info? e = some i) (h3 : i.zero = some z) (h4 : i.size = size) (h5 : i.bytes = bytes) (h6 : z.cells.size = size) (h7 : 0 < size)
    (v : Value) (k : Nat) (xs : List Value) (hs : a.eval s = v) (hown : w.ownsRow base e size v k xs) (ad : Addr) (m c : Nat) (news : List Value) (hx : a.eval x = .slice (some ad) m c) (hn : news.length = m * size)
    (hc : ∀ j u, news[j]? = some u → w.cell? (ad.add j) = some u) (h1c : ∀ u ∈ news, u.oneCell' = true) (b1 : k + m ≤ maxLen) (b2 : (k + m) * bytes ≤ 140737488355328) (b3 : base ≤ w.heap.size)
    (hK : ∀ v' w', w'.ownsRow base e size v' (k + m) (xs ++ news) → w.grownBy w' v.ownBlock → (v'.ownBlock = v.ownBlock ∨ v'.ownBlock = some w.heap.size) → wpListIn F n P ops Q rest (a.put o.dst v') w') :
    wpListIn F n P ops Q (o :: rest) a w := by
  refine wpListIn_plain hg fun K hK' => ?_
  obtain ⟨v', w', hrun, r1, r2, _, r3⟩ := run_append_own_at (P := P) w base t o.type e i z size bytes h1 h2 h3 h4 h5 h6 h7 v k xs hown ad m c news hn hc h1c b1 b2 b3
  unfold Oper.wpIn
  refine ⟨?_, ?_⟩
  · simp [Oper.about, hop, resolve, Target.leads, Sem.run_pure]
  · rw [Oper.semAt_plain F _ _ (by rw [hop]; intro c hc'; cases hc')]
    simp [execOp, hop, resolve, invoke, builtin, hs, hx, hrun, Result.andThen]
    exact hK' _ _ (hK v' w' r1 r2 r3)

/-- What stands in the loop's cells when i words are read. -/
structure GetI (w0 : World) (ws : List (List UInt8)) (X : Nat → Prop) (i : Nat) (W : World) : Prop where
  below : Below w0.heap.size w0 W
  apart : ∀ k, X k → w0.heap.size + 4 ≤ k
  c : W.heap[w0.heap.size]? = some (.cells #[.int .i64 0, .slice none 0 0] 24 (0, 0))
  e : Boxed W (w0.heap.size + 1) 32 (.int .i64 0)
  at_ : Boxed W (w0.heap.size + 3) 3 (.int .i64 i)
  ok : ∀ j u, j < i → ws[j]? = some u → okAt j u = true
  fin : ∀ k, X k → k < W.heap.size
  fin5 : w0.heap.size + 5 ≤ W.heap.size
  row : ∃ v, Boxed W (w0.heap.size + 2) 25 v ∧ W.ownsRow (w0.heap.size + 5) 3 1 v (numsV (ws.take i)).length ((numsV (ws.take i)).map (Value.int .i64)) ∧ (∀ k, v.ownBlock = some k → ¬ X k)

theorem GetI.cell0 {w0 : World} {ws : List (List UInt8)} {X : Nat → Prop} {i : Nat} {W : World} (h : GetI w0 ws X i W) : W.cell? ⟨w0.heap.size, 0, none⟩ = some (.int .i64 0) := by simp [World.cell?, h.c]
theorem GetI.cell1 {w0 : World} {ws : List (List UInt8)} {X : Nat → Prop} {i : Nat} {W : World} (h : GetI w0 ws X i W) : W.cell? ⟨w0.heap.size, 1, none⟩ = some (.slice none 0 0) := by simp [World.cell?, h.c]
theorem GetI.froz0 {w0 : World} {ws : List (List UInt8)} {X : Nat → Prop} {i : Nat} {W : World} (h : GetI w0 ws X i W) : W.frozen? ⟨w0.heap.size, 0, none⟩ = false := by simp [World.frozen?, h.c]
theorem GetI.froz1 {w0 : World} {ws : List (List UInt8)} {X : Nat → Prop} {i : Nat} {W : World} (h : GetI w0 ws X i W) : W.frozen? ⟨w0.heap.size, 1, none⟩ = false := by simp [World.frozen?, h.c]
theorem GetI.closed (w0 : World) (ws : List (List UInt8)) : ClosedX (GetI w0 ws) := by
  rintro X i A B ⟨h1, h2, h3, h4, h5, h6, h10, h11, v, h7, h8, h9⟩ hst
  have hsz := (Array.getElem?_eq_some_iff.1 h3).1
  have hk : ∀ k, k < A.heap.size → ¬ w0.heap.size + 4 ≤ k → B.heap[k]? = A.heap[k]? := fun k hk hx => hst.keep k hk (fun h => hx (h2 k h))
  refine ⟨⟨hst.os.trans h1.os, hst.tape.trans h1.tape, hst.output.trans h1.output, Nat.le_trans h1.size hst.size, fun k hk' => (hk k (by omega) (by omega)).trans (h1.block k hk')⟩, ?_, (hk _ hsz (by omega)).trans h3, (hk _ h4.lt (by omega)).trans h4, (hk _ h5.lt (by omega)).trans h5, h6, fun k h => h.elim (fun h => Nat.lt_of_lt_of_le (h10 k h) hst.size) (fun h => h.2), Nat.le_trans h11 hst.size, v, (hk _ h7.lt (by omega)).trans h7, ?_, ?_⟩
  · rintro k (h | h)
    · exact h2 k h
    · have := h5.lt; omega
  · exact own_move h8 (fun k e => by
      obtain ⟨cells, hc⟩ := own_typed h8 k e
      exact hst.keep k (Array.getElem?_eq_some_iff.1 hc).1 (h9 k e))
  · rintro k e (h | h)
    · exact h9 k e h
    · obtain ⟨cells, hc⟩ := own_typed h8 k e
      have := (Array.getElem?_eq_some_iff.1 hc).1
      omega

theorem conv_CB {w : World} {A : Option Addr} {u : List UInt8} (c : Nat) (h : CB w A u) (hp : 0 < u.length) : (convert 41 9 (.slice A u.length c)).run Tryz.prog w = .ok (.string ⟨u.toArray⟩) w := by
  obtain ⟨ad, rfl, hc⟩ := h.some_ hp
  exact run_convert_bytes_back w 41 9 5 ad c u Tryz.underlying41 Tryz.underlying5 Tryz.underlying9 (fun j hj => hc j hj)

theorem heap_set_same {w : World} {b : Nat} {cs : Array Value} {t : TypeId} (h : w.heap[b]? = some (.cells cs t (0, 0))) (o : Nat) (v : Value) : (w.setCell ⟨b, o, none⟩ v).heap[b]? = some (.cells (cs.setIfInBounds o v) t (0, 0)) := by
  obtain ⟨hlt, hk⟩ := Array.getElem?_eq_some_iff.1 h
  show (w.heap.modify b _)[b]? = _
  rw [Array.getElem?_eq_getElem (by rw [Array.size_modify]; exact hlt), Array.getElem_modify_self, hk]
  rfl
theorem heap_set_other {w : World} {b k o : Nat} (v : Value) (h : k ≠ b) : (w.setCell ⟨b, o, none⟩ v).heap[k]? = w.heap[k]? := Below.heap_setCell _ _ _ k h
theorem below_set_from {B : Nat} {w0 w : World} (h : Below B w0 w) {b o : Nat} (v : Value) (hb : B ≤ b) : Below B w0 (w.setCell ⟨b, o, none⟩ v) :=
  ⟨h.os, h.tape, h.output, by rw [size_set]; exact h.size, fun k hk => (heap_set_other v (by omega)).trans (h.block k hk)⟩
theorem keepX_set {n₀ : Nat} {X : Nat → Prop} {A B : World} (h : KeepX n₀ X A B) {b o : Nat} (v : Value) (hb : n₀ ≤ b) (hX : ¬ X b) : KeepX n₀ X A (B.setCell ⟨b, o, none⟩ v) :=
  ⟨h.os, h.tape, h.output, by rw [size_set]; exact h.size, fun k hk hx => (heap_set_other v (fun e => by
    subst e
    rcases hx with hx | hx
    · omega
    · exact hX hx)).trans (h.keep k hk hx)⟩
theorem keepX_below {n₀ : Nat} {X : Nat → Prop} {A B : World} (h : Below A.heap.size A B) : KeepX n₀ X A B := ⟨h.os, h.tape, h.output, h.size, fun k hk _ => h.block k hk⟩

/-- What stands in the cells where the return is taken in the loop. -/
structure GetX (w0 : World) (ws : List (List UInt8)) (X : Nat → Prop) (W : World) : Prop where
  below : Below w0.heap.size w0 W
  apart : ∀ k, X k → w0.heap.size + 4 ≤ k
  c : W.heap[w0.heap.size]? = some (.cells #[.int .i64 0, .slice none 0 0] 24 (0, 0))
  e : Boxed W (w0.heap.size + 1) 32 (.int .i64 11)
  bad : ∃ i u, ws[i]? = some u ∧ okAt i u = false
  sz : w0.heap.size + 4 ≤ W.heap.size
theorem GetX.closed (w0 : World) (ws : List (List UInt8)) : ClosedX (fun X _ W => GetX w0 ws X W) := by
  rintro X i A B ⟨h1, h2, h3, h4, h5, h6⟩ hst
  have hsz := (Array.getElem?_eq_some_iff.1 h3).1
  have hk : ∀ k, k < A.heap.size → ¬ w0.heap.size + 4 ≤ k → B.heap[k]? = A.heap[k]? := fun k hk hx => hst.keep k hk (fun h => hx (h2 k h))
  refine ⟨⟨hst.os.trans h1.os, hst.tape.trans h1.tape, hst.output.trans h1.output, Nat.le_trans h1.size hst.size, fun k hk' => (hk k (by omega) (by omega)).trans (h1.block k hk')⟩, ?_, (hk _ hsz (by omega)).trans h3, (hk _ h4.lt (by omega)).trans h4, h5, Nat.le_trans h6 hst.size⟩
  rintro k (h | h)
  · exact h2 k h
  · omega

/-- The return out of the loop: a word is wrong. -/
theorem GetI.fail {w0 : World} {ws : List (List UInt8)} {X X1 : Nat → Prop} {i : Nat} {u : List UInt8} {W w1 : World} (h : GetI w0 ws X1 i w1) (hX : ∀ k, X k → X1 k) (hk : KeepX w0.heap.size X W w1) (hu : ws[i]? = some u) (ho : okAt i u = false) :
    KeepX w0.heap.size X W (((w1.setCell ⟨w0.heap.size, 0, none⟩ (.int .i64 0)).setCell ⟨w0.heap.size, 1, none⟩ (.slice none 0 0)).setCell ⟨w0.heap.size + 1, 0, none⟩ (.int .i64 11)) ∧
    GetX w0 ws X (((w1.setCell ⟨w0.heap.size, 0, none⟩ (.int .i64 0)).setCell ⟨w0.heap.size, 1, none⟩ (.slice none 0 0)).setCell ⟨w0.heap.size + 1, 0, none⟩ (.int .i64 11)) := by
  have hx0 : ¬ X w0.heap.size := fun hx => by have := h.apart _ (hX _ hx); omega
  have hx1 : ¬ X (w0.heap.size + 1) := fun hx => by have := h.apart _ (hX _ hx); omega
  have hc2 := heap_set_same (heap_set_same h.c 0 (.int .i64 0)) 1 (.slice none 0 0)
  refine ⟨keepX_set (keepX_set (keepX_set hk _ (Nat.le_refl _) hx0) _ (Nat.le_refl _) hx0) _ (by omega) hx1, below_set_from (below_set_from (below_set_from h.below _ (Nat.le_refl _)) _ (Nat.le_refl _)) _ (by omega), fun k hk => h.apart k (hX k hk), ?_, ?_, ⟨i, u, hu, ho⟩, ?_⟩
  · rw [heap_set_other _ (by omega)]
    exact hc2
  · have he : Boxed ((w1.setCell ⟨w0.heap.size, 0, none⟩ (.int .i64 0)).setCell ⟨w0.heap.size, 1, none⟩ (.slice none 0 0)) (w0.heap.size + 1) 32 (.int .i64 0) := by
      exact (heap_set_other _ (by omega)).trans ((heap_set_other _ (by omega)).trans h.e)
    exact he.set _
  · rw [size_set, size_set, size_set]
    have := h.at_.lt
    omega
/-- A word is right, and no number is kept (the first two). -/
theorem GetI.next {w0 : World} {ws : List (List UInt8)} {X X1 : Nat → Prop} {i : Nat} {u : List UInt8} {W w1 : World} (h : GetI w0 ws X1 i w1) (hX : ∀ k, X k → X1 k) (hk : KeepX w0.heap.size X W w1) (hu : ws[i]? = some u) (ho : okAt i u = true) (hi : i < 2) :
    KeepX w0.heap.size X W (w1.setCell ⟨w0.heap.size + 3, 0, none⟩ (.int .i64 ((i + 1 : Nat) : Int))) ∧ GetI w0 ws X (i + 1) (w1.setCell ⟨w0.heap.size + 3, 0, none⟩ (.int .i64 ((i + 1 : Nat) : Int))) := by
  have hx3 : ¬ X (w0.heap.size + 3) := fun hx => by have := h.apart _ (hX _ hx); omega
  obtain ⟨v, hv, hr, hn⟩ := h.row
  have hnil : numsV (ws.take i) = [] := by unfold numsV; rw [List.drop_eq_nil_of_le (by rw [List.length_take]; omega)]; rfl
  have hnil2 : numsV (ws.take (i + 1)) = [] := by unfold numsV; rw [List.drop_eq_nil_of_le (by rw [List.length_take]; omega)]; rfl
  refine ⟨keepX_set hk _ (by omega) hx3, below_set_from h.below _ (by omega), fun k hk => h.apart k (hX k hk), (heap_set_other _ (by omega)).trans h.c, (heap_set_other _ (by omega)).trans h.e, h.at_.set _, ?_, fun k hk => by rw [size_set]; exact h.fin k (hX k hk), by rw [size_set]; exact h.fin5, v, (heap_set_other _ (by omega)).trans hv, ?_, fun k e hx => hn k e (hX k hx)⟩
  · intro j t hj ht
    by_cases e : j = i
    · subst e
      rw [hu] at ht
      injection ht with ht
      rw [← ht]; exact ho
    · exact h.ok j t (by omega) ht
  · rw [hnil2]
    rw [hnil] at hr
    exact own_move hr (fun k e => heap_set_other _ (fun e' => by have := own_base hr k e; omega))

theorem GetI.kept {w0 : World} {ws : List (List UInt8)} {X : Nat → Prop} {i : Nat} {w1 w2 : World} {v : Value} {tmp : Obj} {k : Nat} {xs : List Value} (h : GetI w0 ws X i w1) (hr : w1.ownsRow (w0.heap.size + 5) 3 1 v k xs) (hg : (w1.alloc tmp).grownBy w2 v.ownBlock) :
    ∀ (b : Nat) (t : TypeId) (u : Value), Boxed w1 b t u → b < w0.heap.size + 5 → Boxed w2 b t u := by
  intro b t u hb hlt
  have hsa : (w1.alloc tmp).heap.size = w1.heap.size + 1 := by simp
  have := hb.lt
  exact ((hg.block b (by omega) (fun e => by have := own_base hr b e.symm; omega)).trans (Below.heap_alloc w1 tmp b this)).trans hb
theorem numsV_succ {ws : List (List UInt8)} {i : Nat} {u : List UInt8} (hu : ws[i]? = some u) (hi : 2 ≤ i) : numsV (ws.take (i + 1)) = numsV (ws.take i) ++ [(numV u).1] := by
  have hl := (List.getElem?_eq_some_iff.1 hu).1
  unfold numsV
  rw [List.take_add_one, hu, List.drop_append_of_le_length (by rw [List.length_take]; omega), List.map_append]
  rfl
/-- A word is right, and its number is kept. -/
theorem GetI.push {w0 : World} {ws : List (List UInt8)} {X X1 : Nat → Prop} {i : Nat} {u : List UInt8} {W w1 w2 : World} {v v' : Value} {tmp : Obj} (h : GetI w0 ws X1 i w1) (hX : ∀ k, X k → X1 k) (hk : KeepX w0.heap.size X W w1) (hu : ws[i]? = some u) (ho : okAt i u = true) (hi : 2 ≤ i)
    (hv : Boxed w1 (w0.heap.size + 2) 25 v) (hr : w1.ownsRow (w0.heap.size + 5) 3 1 v (numsV (ws.take i)).length ((numsV (ws.take i)).map (Value.int .i64))) (hn : ∀ k, v.ownBlock = some k → ¬ X1 k)
    (hown : w2.ownsRow (w0.heap.size + 5) 3 1 v' ((numsV (ws.take i)).length + 1) ((numsV (ws.take i)).map (Value.int .i64) ++ [.int .i64 (numV u).1])) (hg : (w1.alloc tmp).grownBy w2 v.ownBlock) (hat : v'.ownBlock = v.ownBlock ∨ v'.ownBlock = some (w1.alloc tmp).heap.size) :
    KeepX w0.heap.size X W ((w2.setCell ⟨w0.heap.size + 2, 0, none⟩ v').setCell ⟨w0.heap.size + 3, 0, none⟩ (.int .i64 ((i + 1 : Nat) : Int))) ∧ GetI w0 ws X (i + 1) ((w2.setCell ⟨w0.heap.size + 2, 0, none⟩ v').setCell ⟨w0.heap.size + 3, 0, none⟩ (.int .i64 ((i + 1 : Nat) : Int))) := by
  have hx2 : ¬ X (w0.heap.size + 2) := fun hx => by have := h.apart _ (hX _ hx); omega
  have hx3 : ¬ X (w0.heap.size + 3) := fun hx => by have := h.apart _ (hX _ hx); omega
  have hsa : (w1.alloc tmp).heap.size = w1.heap.size + 1 := by simp
  have hs2 : w1.heap.size ≤ w2.heap.size := by have := hg.size; omega
  have old : ∀ k, k < w1.heap.size → some k ≠ v.ownBlock → w2.heap[k]? = w1.heap[k]? := fun k hk hne => (hg.block k (by omega) hne).trans (Below.heap_alloc w1 tmp k hk)
  have hne : ∀ k, k < w0.heap.size + 5 → some k ≠ v.ownBlock := fun k hk e => by have := own_base hr k e.symm; omega
  have hlt3 := h.at_.lt
  have hvX : ∀ k, v'.ownBlock = some k → ¬ X k := by
    intro k e hx
    rcases hat with e2 | e2
    · exact hn k (by rw [← e2]; exact e) (hX k hx)
    · have := h.fin k (hX k hx)
      rw [e2] at e
      injection e with e
      omega
  have hkX : KeepX w0.heap.size X w1 w2 := ⟨hg.os, hg.tape, hg.output, hs2, fun k hk hx => old k hk (fun e => by
    rcases hx with hx | hx
    · exact hne k (by omega) e
    · exact hn k e.symm (hX k hx))⟩
  have hB2 : Below w0.heap.size w0 w2 := ⟨hg.os.trans h.below.os, hg.tape.trans h.below.tape, hg.output.trans h.below.output, Nat.le_trans h.below.size hs2, fun k hk => (old k (by have := h.below.size; omega) (hne k (by omega))).trans (h.below.block k hk)⟩
  have hb0 := (old _ (by omega) (hne w0.heap.size (by omega))).trans h.c
  have hb1 : Boxed w2 (w0.heap.size + 1) 32 (.int .i64 0) := (old _ (by omega) (hne _ (by omega))).trans h.e
  have hb2 : Boxed w2 (w0.heap.size + 2) 25 v := (old _ (by omega) (hne _ (by omega))).trans hv
  have hb3 : Boxed w2 (w0.heap.size + 3) 3 (.int .i64 i) := (old _ (by omega) (hne _ (by omega))).trans h.at_
  have hb3' : Boxed (w2.setCell ⟨w0.heap.size + 2, 0, none⟩ v') (w0.heap.size + 3) 3 (.int .i64 i) := (heap_set_other _ (by omega)).trans hb3
  refine ⟨keepX_set (keepX_set (hk.trans hkX) _ (by omega) hx2) _ (by omega) hx3, below_set_from (below_set_from hB2 _ (by omega)) _ (by omega), fun k hk => h.apart k (hX k hk), (heap_set_other _ (by omega)).trans ((heap_set_other _ (by omega)).trans hb0), (heap_set_other _ (by omega)).trans ((heap_set_other _ (by omega)).trans hb1), hb3'.set _, ?_, fun k hk => by rw [size_set, size_set]; exact Nat.lt_of_lt_of_le (h.fin k (hX k hk)) hs2, by rw [size_set, size_set]; exact Nat.le_trans h.fin5 hs2, v', (heap_set_other _ (by omega)).trans (hb2.set v'), ?_, hvX⟩
  · intro j t hj ht
    by_cases e : j = i
    · subst e
      rw [hu] at ht
      injection ht with ht
      rw [← ht]; exact ho
    · exact h.ok j t (by omega) ht
  · rw [numsV_succ hu hi, List.length_append, List.map_append]
    exact own_move hown (fun k e => by
      have := own_base hown k e
      rw [heap_set_other _ (by omega), heap_set_other _ (by omega)])

theorem fieldsV_len (A : Option Addr) (bs : List UInt8) : ∀ (r : List UInt8) (i : Nat) (st : Option Nat), (fieldsV A bs r i st).length ≤ r.length + (if st.isSome then 1 else 0)
  | [], i, none => Nat.le_refl _
  | [], i, some s => Nat.le_refl _
  | b :: r, i, none => by
    show (if isSp b then fieldsV A bs r (i + 1) none else fieldsV A bs r (i + 1) (some i)).length ≤ _
    have h1 := fieldsV_len A bs r (i + 1) none
    have h2 := fieldsV_len A bs r (i + 1) (some i)
    simp at h1 h2 ⊢
    split <;> omega
  | b :: r, i, some s => by
    show (if isSp b then fieldX A bs s i :: fieldsV A bs r (i + 1) none else fieldsV A bs r (i + 1) (some s)).length ≤ _
    have h1 := fieldsV_len A bs r (i + 1) none
    have h2 := fieldsV_len A bs r (i + 1) (some s)
    simp at h1 h2 ⊢
    split
    · simp; omega
    · omega
theorem lineWords_len (x : Value × List UInt8) : (lineWords x).length ≤ x.2.length := by
  unfold lineWords
  split
  · simp
  · have := fieldsV_len (addrOf x.1) x.2 x.2 0 none
    simpa using this
theorem wordsV_len' : ∀ (f : Nat) (A : Option Addr) (cap : Nat) (bs : List UInt8), ((splitV f A cap bs).flatMap lineWords).length ≤ bs.length
  | 0, A, cap, bs => by
    have := lineWords_len (.slice A bs.length bs.length, bs)
    simpa [splitV] using this
  | f + 1, A, cap, bs => by
    cases hf : bs.findIdx? (· == 10) with
    | none =>
      rw [splitV_none hf]
      have := lineWords_len (.slice A bs.length bs.length, bs)
      simpa using this
    | some i =>
      rw [splitV_some hf, List.flatMap_cons, List.length_append]
      have hi : i < bs.length := (List.findIdx?_eq_some_iff_getElem.1 hf).1
      have h1 := lineWords_len (.slice A i i, bs.take i)
      have h2 := wordsV_len' f (if cap = i + 1 then A else A.map (·.add (i + 1))) (cap - (i + 1)) (bs.drop (i + 1))
      have h3 : (bs.take i).length ≤ i := by rw [List.length_take]; omega
      rw [List.length_drop] at h2
      have h4 : (lineWords (.slice A i i, bs.take i)).length ≤ (bs.take i).length := h1
      omega
theorem wordsV_len (A : Option Addr) (cap : Nat) (bs : List UInt8) : (wordsV A cap bs).length ≤ bs.length := wordsV_len' _ _ _ _

theorem results_40 (tmps : Array Value) (w : World) (g2 g3 : Nat) (cs : Array Value) (e : Int) (h2 : tmps.getD 2 undef = .pointer (some ⟨g2, 0, none⟩)) (h3 : tmps.getD 3 undef = .pointer (some ⟨g3, 0, none⟩)) (hc : w.heap[g2]? = some (.cells cs 24 (0, 0))) (hs : cs.size = 2) (he : Boxed w g3 32 (.int .i64 e)) :
    (results Tryz.f40 tmps).run Tryz.prog w = .ok (.tuple #[.agg cs, .int .i64 e]) w := by
  have hr : Tryz.f40.results = #[.cell 2 24, .cell 3 32] := rfl
  have h2' : tmps[2]?.getD undef = .pointer (some ⟨g2, 0, none⟩) := by simpa using h2
  have h3' : tmps[3]?.getD undef = .pointer (some ⟨g3, 0, none⟩) := by simpa using h3
  have hl := run_loadVar_row (P := Tryz.prog) w g2 24 24 cs (0, 0) _ hc Tryz.underlying24 rfl (by rw [hs]; kernel_rfl)
  have hec := he.cell
  have hl2 : (loadVar 32 ⟨g3, 0, none⟩).run Tryz.prog w = .ok (.int .i64 e) w := by
    have ha := Tryz.isAgg32 w
    simp [go_sem, loadVar, ha, hec]
  simp [results, hr, h2', h3', asAddr, hl, hl2, Result.andThen]

theorem wrap_succ (i : Nat) (h : i < 4194304) : wrap64 ((i : Int) + 1) = ((i + 1 : Nat) : Int) := by unfold wrap64; omega

/-- What the call must end in. -/
def GetPost (ws : List (List UInt8)) (w0 : World) (e : Ending) (w' : World) : Prop := ∃ v, e = .returned (.tuple #[.agg #[.int .i64 (getV ws).1, v], .int .i64 (getV ws).2.2]) ∧ Kd.S (Kd.slice 3 (Kd.int .i64)) 25 w' w0.heap.size (fun _ => True) v (getV ws).2.1 ∧ Below w0.heap.size w0 w'
theorem below_putObj {B : Nat} {w0 w : World} (h : Below B w0 w) (D : Nat) (o : Obj) (hD : B ≤ D) : Below B w0 (w.putObj D o) := ⟨h.os, h.tape, h.output, by rw [World.putObj_size]; exact h.size, fun k hk => (World.putObj_heap_other (by omega)).trans (h.block k hk)⟩

/-- The return: the two result cells hold the answer. -/
theorem fin40 {n : Nat} {tmps : Array Value} {D : Nat} {w0 Wf : World} {ws : List (List UInt8)} {v : Value} (h2 : tmps.getD 2 undef = .pointer (some ⟨w0.heap.size, 0, none⟩)) (h3 : tmps.getD 3 undef = .pointer (some ⟨w0.heap.size + 1, 0, none⟩)) (hK : Wf.heap[D]? = some (.deferred (some []))) (hD : w0.heap.size + 2 ≤ D)
    (hc : Wf.heap[w0.heap.size]? = some (.cells #[.int .i64 (getV ws).1, v] 24 (0, 0))) (he : Boxed Wf (w0.heap.size + 1) 32 (.int .i64 (getV ws).2.2)) (hS : Kd.S (Kd.slice 3 (Kd.int .i64)) 25 (Wf.putObj D (.deferred none)) w0.heap.size (fun _ => True) v (getV ws).2.1) (hB : Below w0.heap.size w0 Wf) :
    bodyPostM Fence.wide n Tryz.prog Tryz.f40 (GetPost ws w0) .ret { tmps := tmps, defers := [{ target := .collected D, args := #[] }] } Wf := by
  refine ⟨by simp, .inl ⟨_, _, rfl, run_takeDeferred hK, ?_⟩⟩
  exact ⟨_, results_40 _ _ w0.heap.size (w0.heap.size + 1) _ _ h2 h3 ((World.putObj_heap_other (by omega)).trans hc) rfl ((World.putObj_heap_other (by omega)).trans he), v, rfl, hS, below_putObj hB D _ (by omega)⟩
/-- The same where an error is answered, with the zero value. -/
theorem GetI.zero {n : Nat} {tmps : Array Value} {D : Nat} {w0 W' : World} {ws : List (List UInt8)} (h2 : tmps.getD 2 undef = .pointer (some ⟨w0.heap.size, 0, none⟩)) (h3 : tmps.getD 3 undef = .pointer (some ⟨w0.heap.size + 1, 0, none⟩)) (hK : W'.heap[D]? = some (.deferred (some []))) (hD : w0.heap.size + 5 ≤ D)
    (hB : Below w0.heap.size w0 W') (hc : W'.heap[w0.heap.size]? = some (.cells #[.int .i64 0, .slice none 0 0] 24 (0, 0))) (he : Boxed W' (w0.heap.size + 1) 32 (.int .i64 0)) (e : Int) (hv : getV ws = (0, [], e)) :
    bodyPostM Fence.wide n Tryz.prog Tryz.f40 (GetPost ws w0) .ret { tmps := tmps, defers := [{ target := .collected D, args := #[] }] } (((W'.setCell ⟨w0.heap.size, 0, none⟩ (.int .i64 0)).setCell ⟨w0.heap.size, 1, none⟩ (.slice none 0 0)).setCell ⟨w0.heap.size + 1, 0, none⟩ (.int .i64 e)) := by
  have hc2 := heap_set_same (heap_set_same hc 0 (.int .i64 0)) 1 (.slice none 0 0)
  refine fin40 (v := .slice none 0 0) h2 h3 ?_ (by omega) ?_ ?_ ?_ ?_
  · rw [heap_set_other _ (by omega), heap_set_other _ (by omega), heap_set_other _ (by omega)]; exact hK
  · rw [hv, heap_set_other _ (by omega)]; exact hc2
  · rw [hv]
    have he2 : Boxed ((W'.setCell ⟨w0.heap.size, 0, none⟩ (.int .i64 0)).setCell ⟨w0.heap.size, 1, none⟩ (.slice none 0 0)) (w0.heap.size + 1) 32 (.int .i64 0) := (heap_set_other _ (by omega)).trans ((heap_set_other _ (by omega)).trans he)
    exact he2.set _
  · rw [hv]; exact Kd.S_nil _ _ _ _ _
  · exact below_set_from (below_set_from (below_set_from hB _ (Nat.le_refl _)) _ (Nat.le_refl _)) _ (by omega)
end Go.Proofs.YtcdhhaedgohlgaaGreatDoor.P
end

section
namespace Go.Proofs.YtcdhhaedgohlgaaGreatDoor.P
open Go.RowKit Go.Shelf Go.Proofs.YtcdhhaedgohlgaaGreatDoorW.PrintWords Go.Proofs.YtcdhhaedgohlgaaGreatDoorW.PrintLast Go.Proofs.YtcdhhaedgohlgaaGreatDoorW.PrintMore
set_option linter.unusedVariables false
set_option linter.unusedSimpArgs false
set_option maxRecDepth 100000

theorem GetL.start {m0 D G g : Nat} {N0 : Int} {l : List Int} {W6 : World} {A1 : Option Addr} {n1 c1 : Nat} {vo : Value} (hg : m0 + 5 ≤ g ∧ g < G) (hC : W6.heap[G]? = some (.cells #[.int .i64 N0, .slice none 0 0] 24 (0, 0)))
    (hV : Boxed W6 (m0 + 2) 25 vo) (hn1 : n1 = l.length - 2) (hl2 : 2 ≤ l.length) (hc1 : n1 ≤ c1) (hA : A1 = some ⟨g, 2, none⟩ ∨ n1 = 0) :
    GetL m0 D G g N0 l W6 2 A1 c1 [] (.slice none 0 0) (W6.setCell ⟨m0 + 1 + 1, 0, none⟩ (.slice A1 n1 c1)) := by
  have hlen : (l.drop 2).length = n1 := by rw [List.length_drop, hn1]
  refine ⟨rfl, rfl, rfl, by rw [size_set]; exact Nat.le_refl _, fun k hk hne => heap_set_other _ hne, ?_, by rw [hlen]; exact hc1, ?_, ?_, Kd.S_nil _ _ _ _ _, ⟨by simp, hl2⟩, l.length, by omega, ?_⟩
  · rcases hA with h | h
    · exact .inl h
    · exact .inr (List.eq_nil_of_length_eq_zero (by omega))
  · rw [hlen]; exact hV.set _
  · rw [heap_set_other _ (by omega)]; exact hC
  · cases clausesOf l.length (l.drop 2) <;> rfl

theorem GetL.out {m0 D G g : Nat} {N0 : Int} {l : List Int} {W6 : World} {m : Nat} {A2 : Option Addr} {c2 : Nat} {Lacc : List (List Int)} {vL : Value} {wr w1 : World} {w0 : World} (h : GetL m0 D G g N0 l W6 m A2 c2 Lacc vL wr)
    (hm : m0 = w0.heap.size) (hK : W6.heap[D]? = some (.deferred (some []))) (hB : Below w0.heap.size w0 W6) (hg : m0 + 5 ≤ g ∧ g < G) (hD : m0 + 5 ≤ D ∧ D < G) (hc : W6.heap[m0]? = some (.cells #[.int .i64 0, .slice none 0 0] 24 (0, 0))) (he : Boxed W6 (m0 + 1) 32 (.int .i64 0)) (hb : Below wr.heap.size wr w1) :
    w1.heap[D]? = some (.deferred (some [])) ∧ Below w0.heap.size w0 w1 ∧ w1.heap[w0.heap.size]? = some (.cells #[.int .i64 0, .slice none 0 0] 24 (0, 0)) ∧ Boxed w1 (w0.heap.size + 1) 32 (.int .i64 0) := by
  subst hm
  have hs := h.size
  have hlt : ∀ {k : Nat} {o : Obj}, W6.heap[k]? = some o → k < W6.heap.size := fun hk => (Array.getElem?_eq_some_iff.1 hk).1
  have old : ∀ k, k < G → k ≠ w0.heap.size + 2 → k < W6.heap.size → w1.heap[k]? = W6.heap[k]? := fun k hk hne hl => (hb.block k (by omega)).trans (h.old k hk hne)
  refine ⟨(old D hD.2 (by omega) (hlt hK)).trans hK, ⟨hb.os.trans (h.os.trans hB.os), hb.tape.trans (h.tape.trans hB.tape), hb.output.trans (h.output.trans hB.output), Nat.le_trans hB.size (Nat.le_trans hs hb.size), fun k hk => (old k (by omega) (by omega) (by have := hB.size; omega)).trans (hB.block k hk)⟩, (old _ (by omega) (by omega) (hlt hc)).trans hc, (old _ (by omega) (by omega) (hlt he)).trans he⟩

theorem GetL.zero {n : Nat} {tmps : Array Value} {D G g : Nat} {N0 : Int} {l : List Int} {W6 : World} {m : Nat} {A2 : Option Addr} {c2 : Nat} {Lacc : List (List Int)} {vL : Value} {wr w1 w0 : World} {ws : List (List UInt8)} {e : Int} (h : GetL w0.heap.size D G g N0 l W6 m A2 c2 Lacc vL wr)
    (hK : W6.heap[D]? = some (.deferred (some []))) (hB : Below w0.heap.size w0 W6) (hg : w0.heap.size + 5 ≤ g ∧ g < G) (hD : w0.heap.size + 5 ≤ D ∧ D < G) (hc : W6.heap[w0.heap.size]? = some (.cells #[.int .i64 0, .slice none 0 0] 24 (0, 0))) (he : Boxed W6 (w0.heap.size + 1) 32 (.int .i64 0)) (hb : Below wr.heap.size wr w1)
    (h2 : tmps.getD 2 undef = .pointer (some ⟨w0.heap.size, 0, none⟩)) (h3 : tmps.getD 3 undef = .pointer (some ⟨w0.heap.size + 1, 0, none⟩)) (hv : getV ws = (0, [], e)) :
    bodyPostM Fence.wide n Tryz.prog Tryz.f40 (GetPost ws w0) .ret { tmps := tmps, defers := [{ target := .collected D, args := #[] }] } (((w1.setCell ⟨w0.heap.size, 0, none⟩ (.int .i64 0)).setCell ⟨w0.heap.size, 1, none⟩ (.slice none 0 0)).setCell ⟨w0.heap.size + 1, 0, none⟩ (.int .i64 e)) := by
  obtain ⟨q1, q2, q3, q4⟩ := h.out rfl hK hB hg hD hc he hb
  exact GetI.zero h2 h3 q1 hD.1 q2 q3 q4 e hv

theorem GetL.fine {n : Nat} {tmps : Array Value} {D G g : Nat} {N0 : Int} {l : List Int} {W6 : World} {m : Nat} {A2 : Option Addr} {c2 : Nat} {Lacc : List (List Int)} {vL : Value} {wr w1 w0 : World} {ws : List (List UInt8)} (h : GetL w0.heap.size D G g N0 l W6 m A2 c2 Lacc vL wr)
    (hK : W6.heap[D]? = some (.deferred (some []))) (hB : Below w0.heap.size w0 W6) (hg : w0.heap.size + 5 ≤ g ∧ g < G) (hD : w0.heap.size + 5 ≤ D ∧ D < G) (hc : W6.heap[w0.heap.size]? = some (.cells #[.int .i64 0, .slice none 0 0] 24 (0, 0))) (he : Boxed W6 (w0.heap.size + 1) 32 (.int .i64 0)) (hb : Below wr.heap.size wr w1)
    (h2 : tmps.getD 2 undef = .pointer (some ⟨w0.heap.size, 0, none⟩)) (h3 : tmps.getD 3 undef = .pointer (some ⟨w0.heap.size + 1, 0, none⟩)) (hv : getV ws = (N0, Lacc, 0)) :
    bodyPostM Fence.wide n Tryz.prog Tryz.f40 (GetPost ws w0) .ret { tmps := tmps, defers := [{ target := .collected D, args := #[] }] } (((w1.setCell ⟨w0.heap.size, 0, none⟩ (.int .i64 N0)).setCell ⟨w0.heap.size, 1, none⟩ vL).setCell ⟨w0.heap.size + 1, 0, none⟩ (.int .i64 0)) := by
  obtain ⟨q1, q2, q3, q4⟩ := h.out rfl hK hB hg hD hc he hb
  have hc2 := heap_set_same (heap_set_same q3 0 (.int .i64 N0)) 1 vL
  refine fin40 (v := vL) h2 h3 ?_ (by omega) ?_ ?_ ?_ ?_
  · rw [heap_set_other _ (by omega), heap_set_other _ (by omega), heap_set_other _ (by omega)]; exact q1
  · rw [hv, heap_set_other _ (by omega)]; exact hc2
  · rw [hv]
    have he2 : Boxed ((w1.setCell ⟨w0.heap.size, 0, none⟩ (.int .i64 N0)).setCell ⟨w0.heap.size, 1, none⟩ vL) (w0.heap.size + 1) 32 (.int .i64 0) := (heap_set_other _ (by omega)).trans ((heap_set_other _ (by omega)).trans q4)
    exact he2.set _
  · rw [hv]
    have hs := h.size
    have ha := Kd.S_bound (Kd.S_below h.acc hb)
    refine Kd.S_lower (Kd.S_mono (Kd.S_step ha (fun k hk hlt => ?_)) (fun _ _ => trivial)) (by omega)
    have hk1 := hk.2.1
    exact (World.putObj_heap_other (by omega)).trans ((heap_set_other _ (by omega)).trans ((heap_set_other _ (by omega)).trans (heap_set_other _ (by omega))))
  · exact below_set_from (below_set_from (below_set_from q2 _ (Nat.le_refl _)) _ (Nat.le_refl _)) _ (by omega)
end Go.Proofs.YtcdhhaedgohlgaaGreatDoor.P
end

section
namespace Go.Proofs.YtcdhhaedgohlgaaGreatDoor.P
open Go.RowKit Go.Shelf Go.Proofs.YtcdhhaedgohlgaaGreatDoorW.PrintWords Go.Proofs.YtcdhhaedgohlgaaGreatDoorW.PrintLast Go.Proofs.YtcdhhaedgohlgaaGreatDoorW.PrintMore
set_option linter.unusedVariables false
set_option linter.unusedSimpArgs false
set_option maxRecDepth 100000
attribute [local go_sem] Oper.semAt_some

set_option maxHeartbeats 4000000 in
theorem get_walk (A : Option Addr) (bs : List UInt8) (cap : Nat) (w0 : World) (hL : Laid w0) (hC : CB w0 A bs) (hcap : bs.length ≤ cap) (hlen : bs.length ≤ 4194304) (n : Nat) (hn : 12 ≤ n) :
    CallsIn Fence.wide n Tryz.prog 40 #[.slice A bs.length cap] w0 (GetPost ((wordsV A cap bs).map (·.2)) w0) := by
  have HC := Aside0.mk hC
  have HL := Aside0.mk hL
  clear hC hL
  have hgt : ¬ (4194304 : Int) < (bs.length : Int) := by omega
  have hro : Fence.wide.round = none := rfl
  have h1 : 1 ≤ n := by omega
  refine callsIn_of_wp_marks Tryz.func40 rfl trivial ?_ hro
  simp only [Tryz.ntmps40, List.size_toArray, List.length_cons, List.length_nil, Nat.reduceAdd, Nat.reduceSub, Array.replicate_succ, Array.replicate_zero, List.push_toArray, List.append_toArray, List.nil_append, List.cons_append]
  gi_wp2_with (refine ⟨trivial, ?_⟩; gi_at_call 94; refine (callsIn_wide.2 (words94 _ _ _ _)).mono ?_; rintro e w1 ⟨rfl, rfl⟩)
  obtain ⟨W5, hW5⟩ : ∃ W5, W5 = (((((w0.alloc (.cells #[.int .i64 0, .slice none 0 0] 24)).alloc (.cells #[.int .i64 0] 32)).alloc (.cells #[.slice none 0 0] 25)).alloc (.cells #[.int .i64 0] 3)).alloc (.cells #[.slice A bs.length cap] 41)) := ⟨_, rfl⟩
  rw [← hW5]
  have hs5 : W5.heap.size = w0.heap.size + 5 := by rw [hW5]; simp
  have hB5 : Below w0.heap.size w0 W5 := by
    rw [hW5]
    exact ((((((Below.refl _ _).alloc (Nat.le_refl _) _).alloc (by simp) _).alloc (by simp; omega) _).alloc (by simp; omega) _).alloc (by simp; omega) _)
  have at5 : ∀ (o1 o2 o3 o4 o5 : Obj), let W := ((((w0.alloc o1).alloc o2).alloc o3).alloc o4).alloc o5; W.heap[w0.heap.size]? = some o1 ∧ W.heap[w0.heap.size + 1]? = some o2 ∧ W.heap[w0.heap.size + 2]? = some o3 ∧ W.heap[w0.heap.size + 3]? = some o4 ∧ W.heap[w0.heap.size + 4]? = some o5 := by
    intro o1 o2 o3 o4 o5
    have key : ∀ (h : Array Obj), ((((((h.push o1).push o2).push o3).push o4).push o5))[h.size]? = some o1 ∧ ((((((h.push o1).push o2).push o3).push o4).push o5))[h.size + 1]? = some o2 ∧ ((((((h.push o1).push o2).push o3).push o4).push o5))[h.size + 2]? = some o3 ∧ ((((((h.push o1).push o2).push o3).push o4).push o5))[h.size + 3]? = some o4 ∧ ((((((h.push o1).push o2).push o3).push o4).push o5))[h.size + 4]? = some o5 := by
      intro h
      refine ⟨?_, ?_, ?_, ?_, ?_⟩ <;> (simp only [Array.getElem?_push, Array.size_push]; repeat (first | rfl | rw [if_pos (by omega)] | rw [if_neg (by omega)]))
    exact key w0.heap
  have hb := at5 (.cells #[.int .i64 0, .slice none 0 0] 24) (.cells #[.int .i64 0] 32) (.cells #[.slice none 0 0] 25) (.cells #[.int .i64 0] 3) (.cells #[.slice A bs.length cap] 41)
  dsimp only at hb
  rw [← hW5] at hb
  obtain ⟨hb0, hb1, hb2, hb3, hb4⟩ := hb
  clear at5
  obtain ⟨ws, hws⟩ : ∃ ws, ws = (wordsV A cap bs).map (·.2) := ⟨_, rfl⟩
  have HSP := Aside0.mk (wordsV_spec (cap := cap) HC.out hcap)
  have HWS : Aside0 (∀ (i : Nat) (x : Value × List UInt8), (wordsV A cap bs)[i]? = some x → ws[i]? = some x.2) := ⟨fun i x h => by rw [hws, List.getElem?_map, h]; rfl⟩
  have hwl : ws.length = (wordsV A cap bs).length := by rw [hws, List.length_map]
  have HWSS := Aside0.mk hws
  clear hws
  have hI0 : GetI w0 ws (fun k => k = w0.heap.size + 4) 0 W5 := ⟨hB5, fun k hk => by omega, hb0, hb1, hb3, fun j u hj => absurd hj (Nat.not_lt_zero _), fun k hk => by omega, by omega, .slice none 0 0, hb2, ⟨rfl, .inl ⟨rfl, rfl⟩⟩, fun k e => by cases e⟩
  refine wpIn_rangeX (I := GetI w0 ws) (Ix := fun c X _ W => c = .ret ∧ GetX w0 ws X W)
    (Ax := fun i a' X W' => ∃ x, (wordsV A cap bs)[i]? = some x ∧ a' = { tmps := #[.slice A bs.length cap, undef, .pointer (some ⟨w0.heap.size, 0, none⟩), .pointer (some ⟨w0.heap.size + 1, 0, none⟩), .pointer (some ⟨w0.heap.size + 1 + 1, 0, none⟩), .pointer (some ⟨w0.heap.size + 1 + 1 + 1, 0, none⟩), x.1, undef, undef, undef, undef, undef, undef, .slice A bs.length cap, .int .i64 bs.length, .bool false, undef, .slice A bs.length cap, .func (.func 132) #[] #[.pointer (some ⟨w0.heap.size + 1 + 1 + 1 + 1, 0, none⟩)], x.1, undef, undef, undef, undef, undef, undef, undef, undef, undef, undef, undef, undef, undef, undef, undef, undef, undef, undef, undef, undef, undef, undef, undef, undef, undef, undef, undef, undef, undef, undef, undef, undef, undef, undef, undef, undef, undef, undef, undef, undef, undef, undef, undef, undef, undef, undef, undef, undef, undef, undef, undef, undef, undef, undef, undef, undef, undef, undef, undef, undef, undef, undef, undef, undef, undef, undef, undef, undef, undef, undef, undef, undef, undef, undef, undef, undef, undef, undef, undef, undef, undef, undef, undef, undef, undef, undef, undef, undef, undef, undef], defers := [] })
    hro h1 rfl trivial (enters_of Tryz.func132 (by kernel_rfl) rfl) (by omega) ?hX0 (words_iter (n - 1) (by omega) w0 W5 HL.out (w0.heap.size + 1 + 1 + 1 + 1) A bs cap hB5 HC.out hcap hb4 (by omega)) (fun _ => rfl) (GetI.closed w0 ws) ?hIx hI0 ?hAx ?hassign ?hbody ?hdone ?hstop
  case hX0 => intro k hk; omega
  case hIx =>
    rintro c X i A1 A2 ⟨hc, h⟩ hst
    exact ⟨hc, GetX.closed w0 ws X i A1 A2 h hst⟩
  case hAx => exact fun i a' X A1 A2 h _ => h
  case hassign =>
    intro l1 X i x Wr K hx hi hK
    gi_wp2
    exact hK _ _ (KeepX.refl _ _ _) hi ⟨x, hx, rfl⟩
  case hbody =>
    rintro l1 X i x a' W hx hl1 hXl ⟨r, hr⟩ hI ⟨x', hx', rfl⟩
    obtain rfl : x' = x := by rw [hx] at hx'; injection hx' with h; exact h.symm
    clear hx'
    obtain ⟨v, u⟩ := x'
    obtain ⟨A', hv, hCu, hpos⟩ := HSP.out (v, u) (List.mem_of_getElem? hx)
    have hwi : ws[i]? = some u := HWS.out i _ hx
    replace hv : v = .slice A' u.length u.length := hv
    replace hCu : CB w0 A' u := hCu
    replace hpos : 0 < u.length := hpos
    subst hv
    have HNUM := Aside0.mk (number95 A' u u.length W (Nat.le_refl _) (hCu.below hI.below))
    have HI := Aside0.mk hI
    have HCU := Aside0.mk hCu
    have HWI := Aside0.mk hwi
    have HP := Aside0.mk hpos
    have h1' : 1 ≤ n - 1 - 1 := by omega
    have h1'' : 1 ≤ n - 1 - 1 - 1 := by omega
    have HOK : Aside0 (okAt i u = if i = 0 then u == [112] else if i = 1 then u == [99, 110, 102] else if i < 4 then (numV u).2 && decide (0 ≤ (numV u).1) else (numV u).2) := ⟨rfl⟩
    obtain ⟨nv, hnv⟩ : ∃ nv, nv = numV u := ⟨_, rfl⟩
    have HNV := Aside0.mk hnv
    rw [← hnv] at HNUM HOK
    clear hI hCu hwi hpos hr hnv hx
    obtain ⟨n1, n2⟩ := nv
    obtain ⟨i0, hi0', hz0, hz1, hz2⟩ := infoI3
    have HKL : Aside0 ((numsV (ws.take i)).length ≤ 4194304) := ⟨by
      have h1 := wordsV_len A cap bs
      have h2 : (numsV (ws.take i)).length ≤ ws.length := by unfold numsV; rw [List.length_map, List.length_drop, List.length_take]; omega
      omega⟩
    by_cases hi0 : i = 0
    · subst hi0
      cases hq : u == [112] with
      | true =>
        gi_wp2_with (refine ⟨trivial, ?_⟩; gi_at_call 95; refine (CallsIn.inRound l1 (callsIn_wide.2 HNUM.out)).mono ?_; rintro e w1 ⟨rfl, hb⟩; have HI1 := Aside0.mk (GetI.closed w0 ws _ _ _ _ HI.out (below_step_X hb)); have hc0 := HI1.out.cell0; have hc1 := HI1.out.cell1; have hf0 := HI1.out.froz0; have hf1 := HI1.out.froz1; have he := HI1.out.e.cell; have hef := HI1.out.e.frozen; have hatc : w1.cell? ⟨w0.heap.size + 1 + 1 + 1, 0, none⟩ = some (.int .i64 0) := HI1.out.at_.cell; have hatf : w1.frozen? ⟨w0.heap.size + 1 + 1 + 1, 0, none⟩ = false := HI1.out.at_.frozen; have hcv := conv_CB u.length (HCU.out.below HI1.out.below) HP.out; have HB1 := Aside0.mk hb; clear hb)
        exact GetI.next HI1.out (fun k hk => .inl hk) (keepX_below HB1.out) HWI.out (by unfold okAt; rw [if_pos rfl]; exact hq) (by omega)
      | false =>
        gi_wp2_with (refine ⟨trivial, ?_⟩; gi_at_call 95; refine (CallsIn.inRound l1 (callsIn_wide.2 HNUM.out)).mono ?_; rintro e w1 ⟨rfl, hb⟩; have HI1 := Aside0.mk (GetI.closed w0 ws _ _ _ _ HI.out (below_step_X hb)); have hc0 := HI1.out.cell0; have hc1 := HI1.out.cell1; have hf0 := HI1.out.froz0; have hf1 := HI1.out.froz1; have he := HI1.out.e.cell; have hef := HI1.out.e.frozen; have hatc : w1.cell? ⟨w0.heap.size + 1 + 1 + 1, 0, none⟩ = some (.int .i64 0) := HI1.out.at_.cell; have hatf : w1.frozen? ⟨w0.heap.size + 1 + 1 + 1, 0, none⟩ = false := HI1.out.at_.frozen; have hcv := conv_CB u.length (HCU.out.below HI1.out.below) HP.out; have HB1 := Aside0.mk hb; clear hb)
        obtain ⟨g1, g2⟩ := GetI.fail HI1.out (fun k hk => .inl hk) (keepX_below HB1.out) HWI.out (by unfold okAt; rw [if_pos rfl]; exact hq)
        exact ⟨g1, rfl, g2⟩
    · by_cases hi1 : i = 1
      · subst hi1
        cases hq : u == [99, 110, 102] with
        | true =>
          gi_wp2_with (refine ⟨trivial, ?_⟩; gi_at_call 95; refine (CallsIn.inRound l1 (callsIn_wide.2 HNUM.out)).mono ?_; rintro e w1 ⟨rfl, hb⟩; have HI1 := Aside0.mk (GetI.closed w0 ws _ _ _ _ HI.out (below_step_X hb)); have hc0 := HI1.out.cell0; have hc1 := HI1.out.cell1; have hf0 := HI1.out.froz0; have hf1 := HI1.out.froz1; have he := HI1.out.e.cell; have hef := HI1.out.e.frozen; have hatc : w1.cell? ⟨w0.heap.size + 1 + 1 + 1, 0, none⟩ = some (.int .i64 1) := HI1.out.at_.cell; have hatf : w1.frozen? ⟨w0.heap.size + 1 + 1 + 1, 0, none⟩ = false := HI1.out.at_.frozen; have hcv := conv_CB u.length (HCU.out.below HI1.out.below) HP.out; have HB1 := Aside0.mk hb; clear hb)
          exact GetI.next HI1.out (fun k hk => .inl hk) (keepX_below HB1.out) HWI.out (by unfold okAt; rw [if_neg (by omega), if_pos rfl]; exact hq) (by omega)
        | false =>
          gi_wp2_with (refine ⟨trivial, ?_⟩; gi_at_call 95; refine (CallsIn.inRound l1 (callsIn_wide.2 HNUM.out)).mono ?_; rintro e w1 ⟨rfl, hb⟩; have HI1 := Aside0.mk (GetI.closed w0 ws _ _ _ _ HI.out (below_step_X hb)); have hc0 := HI1.out.cell0; have hc1 := HI1.out.cell1; have hf0 := HI1.out.froz0; have hf1 := HI1.out.froz1; have he := HI1.out.e.cell; have hef := HI1.out.e.frozen; have hatc : w1.cell? ⟨w0.heap.size + 1 + 1 + 1, 0, none⟩ = some (.int .i64 1) := HI1.out.at_.cell; have hatf : w1.frozen? ⟨w0.heap.size + 1 + 1 + 1, 0, none⟩ = false := HI1.out.at_.frozen; have hcv := conv_CB u.length (HCU.out.below HI1.out.below) HP.out; have HB1 := Aside0.mk hb; clear hb)
          obtain ⟨g1, g2⟩ := GetI.fail HI1.out (fun k hk => .inl hk) (keepX_below HB1.out) HWI.out (by unfold okAt; rw [if_neg (by omega), if_pos rfl]; exact hq)
          exact ⟨g1, rfl, g2⟩
      · have e0 : ((i : Int) == 0) = false := beq_eq_false_iff_ne.2 (by omega)
        have e1 : ((i : Int) == 1) = false := beq_eq_false_iff_ne.2 (by omega)
        have hok : okAt i u = if i < 4 then (numV u).2 && decide (0 ≤ (numV u).1) else (numV u).2 := by unfold okAt; rw [if_neg hi0, if_neg hi1]
        rw [← HNV.out] at hok
        have hi2 : (1 : Int) < (i : Int) := by omega
        by_cases hi4 : i < 4
        · have hi4' : (i : Int) < 4 := by omega
          rw [if_pos hi4] at hok
          have HOK2 := Aside0.mk hok
          cases n2 with
          | false =>
            gi_wp2_with (refine ⟨trivial, ?_⟩; gi_at_call 95; refine (CallsIn.inRound l1 (callsIn_wide.2 HNUM.out)).mono ?_; rintro e w1 ⟨rfl, hb⟩; have HI1 := Aside0.mk (GetI.closed w0 ws _ _ _ _ HI.out (below_step_X hb)); have hc0 := HI1.out.cell0; have hc1 := HI1.out.cell1; have hf0 := HI1.out.froz0; have hf1 := HI1.out.froz1; have he := HI1.out.e.cell; have hef := HI1.out.e.frozen; have hatc : w1.cell? ⟨w0.heap.size + 1 + 1 + 1, 0, none⟩ = some (.int .i64 i) := HI1.out.at_.cell; have hatf : w1.frozen? ⟨w0.heap.size + 1 + 1 + 1, 0, none⟩ = false := HI1.out.at_.frozen; have hcv := conv_CB u.length (HCU.out.below HI1.out.below) HP.out; have HB1 := Aside0.mk hb; clear hb)
            obtain ⟨g1, g2⟩ := GetI.fail HI1.out (fun k hk => .inl hk) (keepX_below HB1.out) HWI.out HOK2.out
            exact ⟨g1, rfl, g2⟩
          | true =>
            cases hq : decide (0 ≤ n1) with
            | false => 
              gi_wp2_with (refine ⟨trivial, ?_⟩; gi_at_call 95; refine (CallsIn.inRound l1 (callsIn_wide.2 HNUM.out)).mono ?_; rintro e w1 ⟨rfl, hb⟩; have HI1 := Aside0.mk (GetI.closed w0 ws _ _ _ _ HI.out (below_step_X hb)); have hc0 := HI1.out.cell0; have hc1 := HI1.out.cell1; have hf0 := HI1.out.froz0; have hf1 := HI1.out.froz1; have he := HI1.out.e.cell; have hef := HI1.out.e.frozen; have hatc : w1.cell? ⟨w0.heap.size + 1 + 1 + 1, 0, none⟩ = some (.int .i64 i) := HI1.out.at_.cell; have hatf : w1.frozen? ⟨w0.heap.size + 1 + 1 + 1, 0, none⟩ = false := HI1.out.at_.frozen; have hcv := conv_CB u.length (HCU.out.below HI1.out.below) HP.out; have HB1 := Aside0.mk hb; clear hb)
              have hok3 : okAt i u = false := by rw [HOK2.out, hq]; rfl
              obtain ⟨g1, g2⟩ := GetI.fail HI1.out (fun k hk => .inl hk) (keepX_below HB1.out) HWI.out hok3
              exact ⟨g1, rfl, g2⟩
            | true =>
              have hok3 : okAt i u = true := by rw [HOK2.out, hq]; rfl
              have HOK3 := Aside0.mk hok3
              clear hok hok3
              gi_wp2_with (first | (refine ⟨trivial, ?_⟩; gi_at_call 95; refine (CallsIn.inRound l1 (callsIn_wide.2 HNUM.out)).mono ?_; rintro e w1 ⟨rfl, hb⟩; have HI1 := Aside0.mk (GetI.closed w0 ws _ _ _ _ HI.out (below_step_X hb)); have hatc : w1.cell? ⟨w0.heap.size + 1 + 1 + 1, 0, none⟩ = some (.int .i64 i) := HI1.out.at_.cell; have hatf : w1.frozen? ⟨w0.heap.size + 1 + 1 + 1, 0, none⟩ = false := HI1.out.at_.frozen; obtain ⟨vr, hvb, hvr, hvn⟩ := HI1.out.row; have hvc : w1.cell? ⟨w0.heap.size + 1 + 1, 0, none⟩ = some vr := hvb.cell; have hvca : (w1.alloc (.cells #[.int .i64 n1] 3)).cell? ⟨w0.heap.size + 1 + 1, 0, none⟩ = some vr := (hvb.alloc _).cell; have hB1 := HI1.out.below.size; have HVB := Aside0.mk hvb; have HVR := Aside0.mk hvr; have HVN := Aside0.mk hvn; have HB1 := Aside0.mk hb; clear hb hvb hvr hvn) | (gi_at_builtin; refine wpListIn_append_at _ rfl _ _ 25 rfl (w0.heap.size + 5) 3 i0 (.int .i64 0) 1 8 Tryz.underlying25 hi0' hz0 hz1 hz2 rfl (by decide) _ _ _ rfl (HVR.out.alloc _) ⟨w1.heap.size, 0, none⟩ 1 1 [.int .i64 n1] rfl rfl (cell_one_new _ _ _) (by simp [Value.oneCell']) (by have := HKL.out; unfold maxLen; omega) (by have := HKL.out; omega) (by have h5 := HI1.out.at_.lt; have h6 := HI1.out.fin5; simp; omega) ?_; intro v' w2 hown' hgrow hat; obtain ⟨g', cap', rfl⟩ := ownsRow_succ hown'; have hkept := GetI.kept HI1.out HVR.out hgrow; have hc2 : w2.cell? ⟨w0.heap.size + 1 + 1, 0, none⟩ = some vr := (Boxed.cell (hkept _ _ _ HVB.out (by omega))); have hf2 : w2.frozen? ⟨w0.heap.size + 1 + 1, 0, none⟩ = false := (Boxed.frozen (hkept _ _ _ HVB.out (by omega))); have hc3 : w2.cell? ⟨w0.heap.size + 1 + 1 + 1, 0, none⟩ = some (.int .i64 i) := (Boxed.cell (hkept _ _ _ HI1.out.at_ (by omega))); have hf3 : w2.frozen? ⟨w0.heap.size + 1 + 1 + 1, 0, none⟩ = false := (Boxed.frozen (hkept _ _ _ HI1.out.at_ (by omega))); have HOWN := Aside0.mk hown'; have HGROW := Aside0.mk hgrow; have HAT := Aside0.mk hat; clear hown' hgrow hat hkept))
              have hn1 : (numV u).1 = n1 := by rw [← HNV.out]
              exact GetI.push HI1.out (fun k hk => .inl hk) (keepX_below HB1.out) HWI.out HOK3.out (by omega) HVB.out HVR.out HVN.out (by rw [hn1]; exact HOWN.out) HGROW.out HAT.out
        · have hi4' : ¬ (i : Int) < 4 := by omega
          rw [if_neg hi4] at hok
          have HOK2 := Aside0.mk hok
          cases n2 with
          | false =>
            gi_wp2_with (refine ⟨trivial, ?_⟩; gi_at_call 95; refine (CallsIn.inRound l1 (callsIn_wide.2 HNUM.out)).mono ?_; rintro e w1 ⟨rfl, hb⟩; have HI1 := Aside0.mk (GetI.closed w0 ws _ _ _ _ HI.out (below_step_X hb)); have hc0 := HI1.out.cell0; have hc1 := HI1.out.cell1; have hf0 := HI1.out.froz0; have hf1 := HI1.out.froz1; have he := HI1.out.e.cell; have hef := HI1.out.e.frozen; have hatc : w1.cell? ⟨w0.heap.size + 1 + 1 + 1, 0, none⟩ = some (.int .i64 i) := HI1.out.at_.cell; have hatf : w1.frozen? ⟨w0.heap.size + 1 + 1 + 1, 0, none⟩ = false := HI1.out.at_.frozen; have hcv := conv_CB u.length (HCU.out.below HI1.out.below) HP.out; have HB1 := Aside0.mk hb; clear hb)
            obtain ⟨g1, g2⟩ := GetI.fail HI1.out (fun k hk => .inl hk) (keepX_below HB1.out) HWI.out HOK2.out
            exact ⟨g1, rfl, g2⟩
          | true =>
            have HOK3 := HOK2
            clear hok
            gi_wp2_with (first | (refine ⟨trivial, ?_⟩; gi_at_call 95; refine (CallsIn.inRound l1 (callsIn_wide.2 HNUM.out)).mono ?_; rintro e w1 ⟨rfl, hb⟩; have HI1 := Aside0.mk (GetI.closed w0 ws _ _ _ _ HI.out (below_step_X hb)); have hatc : w1.cell? ⟨w0.heap.size + 1 + 1 + 1, 0, none⟩ = some (.int .i64 i) := HI1.out.at_.cell; have hatf : w1.frozen? ⟨w0.heap.size + 1 + 1 + 1, 0, none⟩ = false := HI1.out.at_.frozen; obtain ⟨vr, hvb, hvr, hvn⟩ := HI1.out.row; have hvc : w1.cell? ⟨w0.heap.size + 1 + 1, 0, none⟩ = some vr := hvb.cell; have hvca : (w1.alloc (.cells #[.int .i64 n1] 3)).cell? ⟨w0.heap.size + 1 + 1, 0, none⟩ = some vr := (hvb.alloc _).cell; have hB1 := HI1.out.below.size; have HVB := Aside0.mk hvb; have HVR := Aside0.mk hvr; have HVN := Aside0.mk hvn; have HB1 := Aside0.mk hb; clear hb hvb hvr hvn) | (gi_at_builtin; refine wpListIn_append_at _ rfl _ _ 25 rfl (w0.heap.size + 5) 3 i0 (.int .i64 0) 1 8 Tryz.underlying25 hi0' hz0 hz1 hz2 rfl (by decide) _ _ _ rfl (HVR.out.alloc _) ⟨w1.heap.size, 0, none⟩ 1 1 [.int .i64 n1] rfl rfl (cell_one_new _ _ _) (by simp [Value.oneCell']) (by have := HKL.out; unfold maxLen; omega) (by have := HKL.out; omega) (by have h5 := HI1.out.at_.lt; have h6 := HI1.out.fin5; simp; omega) ?_; intro v' w2 hown' hgrow hat; obtain ⟨g', cap', rfl⟩ := ownsRow_succ hown'; have hkept := GetI.kept HI1.out HVR.out hgrow; have hc2 : w2.cell? ⟨w0.heap.size + 1 + 1, 0, none⟩ = some vr := (Boxed.cell (hkept _ _ _ HVB.out (by omega))); have hf2 : w2.frozen? ⟨w0.heap.size + 1 + 1, 0, none⟩ = false := (Boxed.frozen (hkept _ _ _ HVB.out (by omega))); have hc3 : w2.cell? ⟨w0.heap.size + 1 + 1 + 1, 0, none⟩ = some (.int .i64 i) := (Boxed.cell (hkept _ _ _ HI1.out.at_ (by omega))); have hf3 : w2.frozen? ⟨w0.heap.size + 1 + 1 + 1, 0, none⟩ = false := (Boxed.frozen (hkept _ _ _ HI1.out.at_ (by omega))); have HOWN := Aside0.mk hown'; have HGROW := Aside0.mk hgrow; have HAT := Aside0.mk hat; clear hown' hgrow hat hkept))
            have hib : i < 4194304 := by
              have h1 := wordsV_len A cap bs
              have h2 := (List.getElem?_eq_some_iff.1 HWI.out).1
              omega
            rw [wrap_succ i hib]
            have hn1 : (numV u).1 = n1 := by rw [← HNV.out]
            exact GetI.push HI1.out (fun k hk => .inl hk) (keepX_below HB1.out) HWI.out HOK3.out (by omega) HVB.out HVR.out HVN.out (by rw [hn1]; exact HOWN.out) HGROW.out HAT.out
  case hdone =>
    rintro D X W' hD hXD hI hK
    rw [← hwl] at hI
    have hall : okAll ws := fun i u hu => hI.ok i u (List.getElem?_eq_some_iff.1 hu).1 hu
    have hc0 := hI.cell0
    have hc1 := hI.cell1
    have hf0 := hI.froz0
    have hf1 := hI.froz1
    have he := hI.e.cell
    have hef := hI.e.frozen
    have hatc : W'.cell? ⟨w0.heap.size + 1 + 1 + 1, 0, none⟩ = some (.int .i64 ws.length) := hI.at_.cell
    have HI := Aside0.mk hI
    have HALL := Aside0.mk hall
    have HK := Aside0.mk hK
    have HD := Aside0.mk hD
    have hwb : ws.length ≤ 4194304 := by have := wordsV_len A cap bs; omega
    clear hI hall hK
    by_cases h4 : ws.length < 4
    · have h4' : (ws.length : Int) < 4 := by omega
      gi_wp2
      rw [← HWSS.out]
      exact GetI.zero rfl rfl HK.out (by have := HD.out; omega) HI.out.below HI.out.c HI.out.e 11 (by unfold getV; rw [if_pos (.inr h4)])
    · have h4' : ¬ (ws.length : Int) < 4 := by omega
      obtain ⟨vr, hvb, hvr, hvn⟩ := HI.out.row
      have hvc : W'.cell? ⟨w0.heap.size + 1 + 1, 0, none⟩ = some vr := hvb.cell
      rw [List.take_length] at hvr
      have hnl : (numsV ws).length = ws.length - 2 := by unfold numsV; simp
      obtain ⟨g, cp, cur, rfl, hgb, hgh, hgn, hgm, hgc, hgt⟩ : ∃ g cp cur, vr = .slice (some ⟨g, 0, none⟩) (numsV ws).length cp ∧ w0.heap.size + 5 ≤ g ∧ W'.heap[g]? = some (.cells cur 3 (0, 0)) ∧ (numsV ws).length ≤ cp ∧ cp ≤ maxLen ∧ cur.size = cp * 1 ∧ cur.toList.take ((numsV ws).length * 1) = (numsV ws).map (Value.int .i64) := by
        rcases hvr.2 with ⟨_, h0⟩ | ⟨g, cp, cur, h⟩
        · omega
        · exact ⟨g, cp, cur, h⟩
      have hcell : ∀ j, j < (numsV ws).length → W'.cell? ⟨g, j, none⟩ = some (.int .i64 ((numsV ws).getD j 0)) := by
        intro j hj
        have e1 : (cur.toList.take ((numsV ws).length * 1))[j]? = ((numsV ws).map (Value.int .i64))[j]? := by rw [hgt]
        rw [Nat.mul_one, List.getElem?_take_of_lt hj, Array.getElem?_toList, List.getElem?_map, List.getElem?_eq_getElem hj] at e1
        show World.cell? _ _ = _
        unfold World.cell?
        rw [hgh]
        simp only [Option.isSome_none, Bool.false_eq_true, if_false]
        rw [e1]
        simp [List.getD_eq_getElem?_getD, hj]
      have hl0 := hcell 0 (by omega)
      have hl1 := hcell 1 (by omega)
      have hlz0 : (0 : Int) < ((numsV ws).length : Int) := by omega
      have hlz1 : (1 : Int) < ((numsV ws).length : Int) := by omega
      have HCELL := Aside0.mk hcell
      have HV := Aside0.mk hvr
      have HVN := Aside0.mk hvn
      have HVB := Aside0.mk hvb
      have HG := Aside0.mk (And.intro hgb (And.intro hgh (And.intro hgn (And.intro hgm (And.intro hgc hgt)))))
      clear hcell hvr hvn hvb hgb hgh hgn hgm hgc hgt
      generalize hN0 : (numsV ws).getD 0 0 = N0 at *
      generalize hN1 : (numsV ws).getD 1 0 = N1 at *
      generalize hNL : (numsV ws).length = NL at *
      have hba : Below W'.heap.size W' (W'.alloc (.cells #[.int .i64 0, .slice none 0 0] 24)) := (Below.refl _ _).alloc (Nat.le_refl _) _
      have hvca := pw_cell_below hba hvc
      have hl0a := pw_cell_below hba hl0
      have hl1a := pw_cell_below hba hl1
      have hbb : Below W'.heap.size W' (W'.alloc (.cells #[.int .i64 N0, .slice none 0 0] 24)) := (Below.refl _ _).alloc (Nat.le_refl _) _
      have hvcb := pw_cell_below hbb hvc
      have hl0b := pw_cell_below hbb hl0
      have hl1b := pw_cell_below hbb hl1
      clear hba hbb
      gi_wp2
      gi_region
      obtain ⟨W6, hW6⟩ : ∃ W6, W6 = (W'.alloc (.cells #[.int .i64 N0, .slice none 0 0] 24)).drew := ⟨_, rfl⟩
      obtain ⟨G, hG⟩ : ∃ G, G = W'.heap.size := ⟨_, rfl⟩
      have hb6 : Below G W' W6 := by
        have h0 : Below W'.heap.size W' (W'.alloc (.cells #[.int .i64 N0, .slice none 0 0] 24)) := (Below.refl _ _).alloc (Nat.le_refl _) _
        rw [hW6, hG]
        exact ⟨h0.os, h0.tape, h0.output, h0.size, h0.block⟩
      have hcb : W6.heap[G]? = some (.cells #[.int .i64 N0, .slice none 0 0] 24 (0, 0)) := by rw [hW6, hG]; exact heap_alloc_new W' _
      have hs6 : W6.heap.size = G + 1 := by rw [hW6, hG]; show (W'.heap.push _).size = _; simp
      rw [← hW6, ← hG]
      have HG5 : w0.heap.size + 5 ≤ G := by rw [hG]; exact HI.out.fin5
      clear hc0 hc1 hf0 hf1 he hef hatc hvc hl0 hl1 hvca hl0a hl1a hvcb hl0b hl1b
      have HB6 := Aside0.mk hb6
      have HCB := Aside0.mk hcb
      have hgc0 : W6.cell? ⟨G, 0, none⟩ = some (.int .i64 N0) := by simp [World.cell?, hcb]
      have hlt6 : ∀ k, k < w0.heap.size + 5 → k < W'.heap.size := fun k hk => by omega
      have hC6 : W6.heap[w0.heap.size]? = some (.cells #[.int .i64 0, .slice none 0 0] 24 (0, 0)) := (hb6.block _ (by omega)).trans HI.out.c
      have hE6 : Boxed W6 (w0.heap.size + 1) 32 (.int .i64 0) := (hb6.block _ (by omega)).trans HI.out.e
      have hV6 : Boxed W6 (w0.heap.size + 2) 25 (.slice (some ⟨g, 0, none⟩) NL cp) := (hb6.block _ (by omega)).trans HVB.out
      have hK6 : W6.heap[D]? = some (.deferred (some [])) := (hb6.block _ (by rw [hG]; exact (Array.getElem?_eq_some_iff.1 HK.out).1)).trans HK.out
      have hB6 : Below w0.heap.size w0 W6 := HI.out.below.trans (hb6.mono (by omega))
      have hc0 : W6.cell? ⟨w0.heap.size, 0, none⟩ = some (.int .i64 0) := by simp [World.cell?, hC6]
      have hc1 : W6.cell? ⟨w0.heap.size, 1, none⟩ = some (.slice none 0 0) := by simp [World.cell?, hC6]
      have hf0 : W6.frozen? ⟨w0.heap.size, 0, none⟩ = false := by simp [World.frozen?, hC6]
      have hf1 : W6.frozen? ⟨w0.heap.size, 1, none⟩ = false := by simp [World.frozen?, hC6]
      have he := hE6.cell
      have hef := hE6.frozen
      have hvc : W6.cell? ⟨w0.heap.size + 1 + 1, 0, none⟩ = some (.slice (some ⟨g, 0, none⟩) NL cp) := hV6.cell
      have hvf : W6.frozen? ⟨w0.heap.size + 1 + 1, 0, none⟩ = false := hV6.frozen
      have HC6 := Aside0.mk hC6
      have HE6 := Aside0.mk hE6
      have HV6 := Aside0.mk hV6
      have HK6 := Aside0.mk hK6
      have HBW6 := Aside0.mk hB6
      have HGE := Aside0.mk hG
      clear hb6 hcb hC6 hE6 hV6 hK6 hB6 hW6 hG hlt6
      have HGV : Aside0 (getV ws = if N0 > 65536 ∨ N1 > 65536 then (0, [], 2) else match clausesOf NL ((numsV ws).drop 2) with
          | none => (0, [], 11)
          | some L => if (L.length : Int) ≠ N1 then (0, [], 11) else if checkV N0 L ≠ 0 then (0, [], checkV N0 L) else (N0, L, 0)) := ⟨by
        unfold getV
        have hno : ¬ (¬ okAll ws ∨ ws.length < 4) := by
          intro h
          rcases h with h | h
          · exact h HALL.out
          · omega
        rw [if_neg hno, hN0, hN1, hNL]
        all_goals rfl⟩
      by_cases hb0 : N0 > 65536
      · have hb0' : (65536 : Int) < N0 := hb0
        gi_wp2
        rw [← HWSS.out]
        exact GetI.zero rfl rfl HK6.out (by have := HD.out; omega) HBW6.out HC6.out HE6.out 2 (by rw [HGV.out, if_pos (.inl hb0)])
      · by_cases hb1 : N1 > 65536
        · have hb1' : (65536 : Int) < N1 := hb1
          gi_wp2
          rw [← HWSS.out]
          exact GetI.zero rfl rfl HK6.out (by have := HD.out; omega) HBW6.out HC6.out HE6.out 2 (by rw [HGV.out, if_pos (.inr hb1)])
        · have hgv := HGV.out
          rw [if_neg (by omega)] at hgv
          have HGV2 := Aside0.mk hgv
          clear hgv HGV
          have hcp : NL ≤ cp := HG.out.2.2.1
          have hcpz : (NL : Int) ≤ (cp : Int) := by omega
          have hrest : ∀ (A2 : Option Addr), (A2 = some ⟨g, 2, none⟩ ∨ NL = 2) → Kd.C (Kd.int .i64) W6 A2 ((numsV ws).drop 2).length ((numsV ws).drop 2) := by
            intro A2 hA
            have hRI : RI W' (w0.heap.size + 5) (.slice (some ⟨g, 0, none⟩) (numsV ws).length cp) (numsV ws) := RI.of_own (by rw [hNL]; exact HV.out)
            have hC0 := Kd.C_below (Kd.R_reads' hRI).2.2 (by rw [← HGE.out]; exact HB6.out)
            have hC2 := C_drop_int hC0 2
            rcases hA with hA | hA
            · rw [hA]; exact hC2
            · have hnil : (numsV ws).drop 2 = [] := List.drop_eq_nil_of_le (by omega)
              rw [hnil]
              exact ⟨rfl, by simp, fun h => absurd h (by simp)⟩
          have hrl : ((numsV ws).drop 2).length = NL - 2 := by rw [List.length_drop, hNL]
          obtain ⟨rest0, hr0⟩ : ∃ rest0, rest0 = (numsV ws).drop 2 := ⟨_, rfl⟩
          rw [← hr0] at hrest hrl
          have HREST := Aside0.mk hrest
          have HR0 := Aside0.mk hr0
          have HWL := Aside0.mk hwl
          have HNL := Aside0.mk hnl
          have hNL2 : NL - 2 = rest0.length := hrl.symm
          clear hrest hr0 hwl hnl hrl
          gi_wp2
          all_goals
            rename_i Kx hKx
            refine wpIn_wide.2 ?_
            have hl2 : 2 ≤ (numsV ws).length := by omega
            have hgg : w0.heap.size + 5 ≤ g ∧ g < G := ⟨HG.out.1, by rw [HGE.out]; exact (Array.getElem?_eq_some_iff.1 HG.out.2.1).1⟩
            have hC0 : Kd.C (Kd.int .i64) W6 (some ⟨g, 0, none⟩) (numsV ws).length (numsV ws) := Kd.C_below (Kd.R_reads' (RI.of_own (base := w0.heap.size + 5) (by rw [hNL]; exact HV.out))).2.2 (by rw [← HGE.out]; exact HB6.out)
            have hst := fun (A1 : Option Addr) (c1 : Nat) (hc : rest0.length ≤ c1) (hA : A1 = some ⟨g, 2, none⟩ ∨ rest0.length = 0) => GetL.start (m0 := w0.heap.size) (D := D) (N0 := N0) hgg HCB.out HV6.out (by rw [hNL]; exact hNL2.symm) hl2 hc hA
            refine loop40_wp w0.heap.size D G g N0 N1 (numsV ws) W6 2 _ _ _ _ _ _ _ _ _ _ _ _ _ _ _ _ _ _ _ _ _ _ _ _ _ _ _ _ _ _ _ _ _ _ _ _ _ _ _ _ _ _ _ _ _ _ _ _ _ _ _ _ _ _ _ _ _ _ _ _ _ _ _ _ _ _ _ _ _ _ _ _ _ _ _ _ _ _ _ _ _ _ _ _ _ _ _ _ _ _ _ _ _ _ _ _ _ _ _ _ _ _ _ _ _ _ _ _ Kx _ (hst _ _ ?h1 ?h2) hgg (by have h9 := HNL.out; omega) hC0 (by omega) HC6.out HE6.out ?hK ?hret
            case h1 => omega
            case h2 => first
              | exact .inl rfl
              | (right; omega)
            case hK =>
              intro m A2 c2 Lacc vL wr u11 u76 u77 u78 u79 u80 u81 u82 u83 u84 u85 u86 u87 u88 u89 u90 u91 u92 u93 u94 u95 u96 hS hcl
              refine hKx _ _ (wpIn_wide.2 ?_)
              refine behind40_wp w0.heap.size D G g N0 N1 (numsV ws) W6 m A2 c2 Lacc vL wr _ _ _ _ _ _ _ _ _ _ _ _ _ _ _ _ _ _ _ _ _ _ _ _ _ _ _ _ _ _ _ _ _ _ _ _ _ _ _ _ _ _ _ _ _ _ _ _ _ _ _ _ _ _ _ _ _ _ _ _ _ _ _ _ _ _ _ _ _ _ _ _ _ _ _ _ _ _ _ _ _ _ _ _ _ _ _ _ _ _ _ _ _ _ _ _ _ _ _ _ _ _ _ _ _ _ hS hgg (by omega) (by have h9 := HNL.out; omega) HC6.out HE6.out ?_ ?_
              · intro tmps w1 e hb he h2 h3
                show bodyPostM Fence.wide n Tryz.prog Tryz.f40 (GetPost ((wordsV A cap bs).map (·.2)) w0) _ _ _
                rw [← HWSS.out]
                exact hS.zero HK6.out HBW6.out hgg ⟨by have := HD.out; omega, by rw [HGE.out]; exact (Array.getElem?_eq_some_iff.1 HK.out).1⟩ HC6.out HE6.out hb h2 h3 (by
                  rw [HGV2.out, ← hNL, hcl]
                  rcases he with ⟨rfl, he⟩ | ⟨he, rfl, hz⟩
                  · simp only []; rw [if_pos he]
                  · simp only []; rw [if_neg (by simp [he]), if_pos hz])
              · intro tmps w1 hb hn hz h2 h3
                show bodyPostM Fence.wide n Tryz.prog Tryz.f40 (GetPost ((wordsV A cap bs).map (·.2)) w0) _ _ _
                rw [← HWSS.out]
                exact hS.fine HK6.out HBW6.out hgg ⟨by have := HD.out; omega, by rw [HGE.out]; exact (Array.getElem?_eq_some_iff.1 HK.out).1⟩ HC6.out HE6.out hb h2 h3 (by
                  rw [HGV2.out, ← hNL, hcl]
                  simp only []; rw [if_neg (by simp [hn]), if_neg (by simp [hz])])
            case hret =>
              intro m A2 c2 Lacc vL wr q tmps hS hcl h2 h3
              show bodyPostM Fence.wide n Tryz.prog Tryz.f40 (GetPost ((wordsV A cap bs).map (·.2)) w0) _ _ _
              rw [← HWSS.out]
              exact hS.zero HK6.out HBW6.out hgg ⟨by have := HD.out; omega, by rw [HGE.out]; exact (Array.getElem?_eq_some_iff.1 HK.out).1⟩ HC6.out HE6.out (pw_below_drewN (Below.refl _ _) q) h2 h3 (by
                rw [HGV2.out, ← hNL, hcl])
  case hstop =>
    rintro D X c i W' hD hXD ⟨rfl, hG⟩ hK
    gi_wp2
    have hDne : D ≠ w0.heap.size ∧ D ≠ w0.heap.size + 1 := ⟨by omega, by omega⟩
    refine ⟨by simp, .inl ⟨_, _, rfl, run_takeDeferred hK, ?_⟩⟩
    exact ⟨_, results_40 _ _ w0.heap.size (w0.heap.size + 1) _ 11 rfl rfl ((World.putObj_heap_other (by omega)).trans hG.c) rfl ((World.putObj_heap_other (by omega)).trans hG.e), by
      obtain ⟨j, u, hu, ho⟩ := hG.bad
      have hv := getV_bad hu ho
      rw [HWSS.out] at hv
      refine ⟨.slice none 0 0, by rw [hv], by rw [hv]; exact Kd.S_nil _ _ _ _ _, below_putObj hG.below D _ (by omega)⟩⟩
end Go.Proofs.YtcdhhaedgohlgaaGreatDoor.P
end

section
namespace Go.Proofs.YtcdhhaedgohlgaaGreatDoor.P
set_option linter.unusedVariables false

def flush (cur : List UInt8) : List (List UInt8) := if cur = [] then [] else [cur]
/-- The words, one pass: fresh: at a line's begin; skip: in a comment. -/
def wordsS : List UInt8 → Bool → Bool → List UInt8 → List (List UInt8)
  | [], _, _, cur => flush cur
  | b :: r, fresh, skip, cur =>
    if b = 10 then flush cur ++ wordsS r true false []
    else if (skip || (fresh && b == 99)) = true then flush cur ++ wordsS r false true []
    else if isSp b = true then flush cur ++ wordsS r false false []
    else wordsS r false false (cur ++ [b])
/-- The words of one line. -/
def fieldsB : List UInt8 → List UInt8 → List (List UInt8)
  | [], cur => flush cur
  | b :: r, cur => if isSp b = true then flush cur ++ fieldsB r [] else fieldsB r (cur ++ [b])
def lineW (l : List UInt8) : List (List UInt8) := if l.head? = some 99 then [] else fieldsB l []

theorem wordsS_skip (r : List UInt8) : ∀ (l : List UInt8), (10 : UInt8) ∉ l → wordsS (l ++ 10 :: r) false true [] = wordsS r true false []
  | [], _ => by rw [List.nil_append, wordsS, if_pos rfl]; rfl
  | b :: l, h => by
    simp only [List.mem_cons, not_or] at h
    rw [List.cons_append, wordsS, if_neg (fun e => h.1 e.symm), if_pos (by rfl)]
    exact wordsS_skip r l h.2
theorem wordsS_skip_end : ∀ (l : List UInt8), (10 : UInt8) ∉ l → wordsS l false true [] = []
  | [], _ => rfl
  | b :: l, h => by
    simp only [List.mem_cons, not_or] at h
    rw [wordsS, if_neg (fun e => h.1 e.symm), if_pos (by rfl)]
    exact wordsS_skip_end l h.2
theorem wordsS_fields (r : List UInt8) : ∀ (l cur : List UInt8), (10 : UInt8) ∉ l → wordsS (l ++ 10 :: r) false false cur = fieldsB l cur ++ wordsS r true false []
  | [], cur, _ => by rw [List.nil_append, wordsS, if_pos rfl]; rfl
  | b :: l, cur, h => by
    simp only [List.mem_cons, not_or] at h
    rw [List.cons_append, wordsS, if_neg (fun e => h.1 e.symm), if_neg (by simp), fieldsB]
    split
    · rw [wordsS_fields r l [] h.2, List.append_assoc]
    · exact wordsS_fields r l _ h.2
theorem wordsS_fields_end : ∀ (l cur : List UInt8), (10 : UInt8) ∉ l → wordsS l false false cur = fieldsB l cur
  | [], cur, _ => rfl
  | b :: l, cur, h => by
    simp only [List.mem_cons, not_or] at h
    rw [wordsS, if_neg (fun e => h.1 e.symm), if_neg (by simp), fieldsB]
    split
    · rw [wordsS_fields_end l [] h.2]
    · exact wordsS_fields_end l _ h.2
/-- A line at its begin is read as one in its middle, unless it is a comment. -/
theorem wordsS_fresh (b : UInt8) (r : List UInt8) (h : b ≠ 99) (fresh : Bool) (cur : List UInt8) : wordsS (b :: r) fresh false cur = wordsS (b :: r) false false cur := by
  have : (b == 99) = false := by simpa using h
  rw [wordsS, wordsS, this]
  simp
theorem wordsS_line (l r : List UInt8) (h : (10 : UInt8) ∉ l) : wordsS (l ++ 10 :: r) true false [] = lineW l ++ wordsS r true false [] := by
  cases l with
  | nil => exact by rw [List.nil_append, wordsS, if_pos rfl]; rfl
  | cons b l =>
    unfold lineW
    by_cases hb : b = 99
    · subst hb
      rw [List.cons_append, wordsS, if_neg (by decide), if_pos (by rfl), if_pos (by rfl)]
      exact wordsS_skip r l (fun e => h (List.mem_cons_of_mem _ e))
    · rw [if_neg (by intro e; injection e with e; exact hb e), List.cons_append, wordsS_fresh b _ hb]
      exact wordsS_fields r (b :: l) [] h
theorem wordsS_line_end (l : List UInt8) (h : (10 : UInt8) ∉ l) : wordsS l true false [] = lineW l := by
  cases l with
  | nil => rfl
  | cons b l =>
    unfold lineW
    by_cases hb : b = 99
    · subst hb
      rw [wordsS, if_neg (by decide), if_pos (by rfl), if_pos (by rfl)]
      exact wordsS_skip_end l (fun e => h (List.mem_cons_of_mem _ e))
    · rw [if_neg (by intro e; injection e with e; exact hb e), wordsS_fresh b _ hb]
      exact wordsS_fields_end (b :: l) [] h

theorem flush_some {w : List UInt8} (h : w ≠ []) : flush w = [w] := by unfold flush; rw [if_neg h]

theorem ofNat_toNat (n : Nat) (h : n < 256) : (UInt8.ofNat n).toNat = n := UInt8.toNat_ofNat_of_lt' (by omega)

end Go.Proofs.YtcdhhaedgohlgaaGreatDoor.P
end

section
namespace Go.Proofs.YtcdhhaedgohlgaaGreatDoor.P
open Go.RowKit Go.Shelf
set_option linter.unusedVariables false

def curOf (bs : List UInt8) (i : Nat) : Option Nat → List UInt8
  | none => []
  | some s => (bs.drop s).take (i - s)
theorem fieldsV_cons (A : Option Addr) (bs : List UInt8) (b : UInt8) (r : List UInt8) (i : Nat) (st : Option Nat) : fieldsV A bs (b :: r) i st = if isSp b = true then (match st with | some s => fieldX A bs s i :: fieldsV A bs r (i + 1) none | none => fieldsV A bs r (i + 1) none) else fieldsV A bs r (i + 1) (some (st.getD i)) := by
  cases st <;> rfl
theorem fieldsV_fieldsB (A : Option Addr) (bs : List UInt8) : ∀ (r : List UInt8) (i : Nat) (st : Option Nat), bs.drop i = r → (∀ s, st = some s → s < i ∧ i ≤ bs.length) → (fieldsV A bs r i st).map (·.2) = fieldsB r (curOf bs i st)
  | [], i, none, hd, hs => rfl
  | [], i, some s, hd, hs => by
    have := hs s rfl
    have hne : curOf bs i (some s) ≠ [] := by
      intro e
      have := congrArg List.length e
      simp only [curOf, List.length_take, List.length_drop, List.length_nil] at this
      omega
    show [curOf bs i (some s)] = flush _
    rw [flush_some hne]
  | b :: r, i, st, hd, hs => by
    have hil : i < bs.length := by
      rcases Nat.lt_or_ge i bs.length with h | h
      · exact h
      · rw [List.drop_eq_nil_of_le h] at hd; cases hd
    have hbi : bs[i] = b ∧ bs.drop (i + 1) = r := by
      rw [List.drop_eq_getElem_cons hil] at hd
      injection hd with h1 h2
      exact ⟨h1, h2⟩
    rw [fieldsV_cons]
    rw [fieldsB]
    cases hb : isSp b with
    | true =>
      rw [if_pos rfl, if_pos rfl]
      cases st with
      | none => exact (fieldsV_fieldsB A bs r (i + 1) none hbi.2 (fun s e => by cases e))
      | some s =>
        have := hs s rfl
        have hne : curOf bs i (some s) ≠ [] := by
          intro e
          have := congrArg List.length e
          simp only [curOf, List.length_take, List.length_drop, List.length_nil] at this
          omega
        rw [flush_some hne, List.map_cons, fieldsV_fieldsB A bs r (i + 1) none hbi.2 (fun s e => by cases e)]
        rfl
    | false =>
      rw [if_neg (by simp), if_neg (by simp)]
      have hc : curOf bs (i + 1) (some (st.getD i)) = curOf bs i st ++ [b] := by
        cases st with
        | none =>
          show (bs.drop i).take (i + 1 - i) = [b]
          rw [hd, show i + 1 - i = 1 by omega]
          rfl
        | some s =>
          have := hs s rfl
          show (bs.drop s).take (i + 1 - s) = (bs.drop s).take (i - s) ++ [b]
          rw [show i + 1 - s = (i - s) + 1 by omega, List.take_succ_eq_append_getElem (by rw [List.length_drop]; omega), List.getElem_drop]
          have e : s + (i - s) = i := by omega
          simp only [e]
          rw [hbi.1]
      rw [fieldsV_fieldsB A bs r (i + 1) _ hbi.2 (fun s e => by
        injection e with e
        cases st with
        | none => simp at e; omega
        | some t => have := hs t rfl; simp at e; omega), hc]
theorem lineWords_lineW (x : Value × List UInt8) : (lineWords x).map (·.2) = lineW x.2 := by
  unfold lineWords lineW
  split
  · rfl
  · exact fieldsV_fieldsB _ x.2 x.2 0 none rfl (fun s e => by cases e)
theorem splitV_words : ∀ (f : Nat) (A : Option Addr) (cap : Nat) (bs : List UInt8), bs.length ≤ f → ((splitV f A cap bs).flatMap lineWords).map (·.2) = wordsS bs true false []
  | 0, A, cap, bs, h => by
    have : bs = [] := List.eq_nil_of_length_eq_zero (by omega)
    subst this
    rfl
  | f + 1, A, cap, bs, h => by
    cases hf : bs.findIdx? (· == 10) with
    | none =>
      rw [splitV_none hf]
      have hn : (10 : UInt8) ∉ bs := fun hm => by
        have := List.findIdx?_eq_none_iff.1 hf 10 hm
        simp at this
      rw [List.flatMap_cons, List.flatMap_nil, List.append_nil, lineWords_lineW, wordsS_line_end _ hn]
    | some i =>
      rw [splitV_some hf, List.flatMap_cons, List.map_append, lineWords_lineW]
      obtain ⟨hi, h1, h2⟩ := List.findIdx?_eq_some_iff_getElem.1 hf
      have hn : (10 : UInt8) ∉ bs.take i := by
        intro hm
        obtain ⟨j, hj, e⟩ := List.getElem_of_mem hm
        rw [List.getElem_take] at e
        rw [List.length_take] at hj
        have := h2 j (by omega)
        rw [e] at this
        simp at this
      have hb : bs = bs.take i ++ 10 :: bs.drop (i + 1) := by
        have e : bs[i] = 10 := by simpa using h1
        conv => lhs; rw [← List.take_append_drop i bs, List.drop_eq_getElem_cons hi, e]
      rw [splitV_words f _ _ (bs.drop (i + 1)) (by rw [List.length_drop]; omega)]
      conv => rhs; rw [hb, wordsS_line _ _ hn]
theorem wordsV_words (A : Option Addr) (cap : Nat) (bs : List UInt8) : (wordsV A cap bs).map (·.2) = wordsS bs true false [] := splitV_words _ A cap bs (Nat.le_refl _)

end Go.Proofs.YtcdhhaedgohlgaaGreatDoor.P
end

section
namespace Go.Proofs.YtcdhhaedgohlgaaGreatDoor.P
open Go.RowKit Go.Shelf Go.Proofs.YtcdhhaedgohlgaaGreatDoorW.PrintWords Go.Proofs.YtcdhhaedgohlgaaGreatDoorW.PrintLast Go.Proofs.YtcdhhaedgohlgaaGreatDoorW.PrintMore
set_option linter.unusedVariables false
set_option maxRecDepth 100000

def bytesOk (l : List Int) : Bool := l.all fun x => decide (0 ≤ x) && decide (x < 256)
theorem bytesI_bytesOf {l : List Int} (h : bytesOk l = true) : bytesI (Lib.bytesOf l) = l := by
  unfold bytesI Lib.bytesOf
  rw [List.map_map]
  have : ∀ x ∈ l, ((fun b : UInt8 => (b.toNat : Int)) ∘ fun n : Int => UInt8.ofNat n.toNat) x = id x := by
    intro x hx
    have hb := List.all_eq_true.1 h x hx
    simp only [Bool.and_eq_true, decide_eq_true_eq] at hb
    show ((UInt8.ofNat x.toNat).toNat : Int) = x
    rw [ofNat_toNat x.toNat (by omega)]
    omega
  rw [List.map_congr_left this, List.map_id]
def getB (bs : List UInt8) : Int × List (List Int) × Int := if 4194304 < bs.length then (0, [], 2) else getV (wordsS bs true false [])
def cnf_Get.f (l : List Int) : Option (Int × List (List Int) × Int) := if bytesOk l = true then some (getB (Lib.bytesOf l)) else none

set_option maxHeartbeats 1000000 in
theorem get_long (A : Option Addr) (n : Nat) (cap : Nat) (w : World) (hlen : 4194304 < n) (hm : n ≤ 9223372036854775807) :
    Calls Tryz.prog 40 #[.slice A n cap] w fun e w' => e = .returned (.tuple #[.agg #[.int .i64 0, .slice none 0 0], .int .i64 2]) ∧ Below w.heap.size w w' := by
  have hgt : (4194304 : Int) < (n : Int) := by omega
  refine (callsIn_wide (n := 1)).1 ?_
  have hro : Fence.wide.round = none := rfl
  refine callsIn_of_wp_marks Tryz.func40 rfl trivial ?_ hro
  simp only [Tryz.ntmps40, List.size_toArray, List.length_cons, List.length_nil, Nat.reduceAdd, Nat.reduceSub, Array.replicate_succ, Array.replicate_zero, List.push_toArray, List.append_toArray, List.nil_append, List.cons_append]
  gi_wp2
  have at2 : ∀ (o1 o2 : Obj), ((w.alloc o1).alloc o2).heap[w.heap.size]? = some o1 ∧ ((w.alloc o1).alloc o2).heap[w.heap.size + 1]? = some o2 := by
    intro o1 o2
    have key : ∀ (h : Array Obj), ((h.push o1).push o2)[h.size]? = some o1 ∧ ((h.push o1).push o2)[h.size + 1]? = some o2 := by
      intro h
      refine ⟨?_, ?_⟩ <;> (simp only [Array.getElem?_push, Array.size_push]; repeat (first | rfl | rw [if_pos (by omega)] | rw [if_neg (by omega)]))
    exact key w.heap
  exact ⟨_, results_40 _ _ w.heap.size (w.heap.size + 1) #[.int .i64 0, .slice none 0 0] 2 rfl rfl (at2 _ _).1 rfl (at2 _ _).2, rfl, ((Below.refl _ _).alloc (Nat.le_refl _) _).alloc (by simp) _⟩

theorem cnf_Get.calls (A0 : Option Addr) (c0 : Nat) (l0 : List Int) (r1 : Int) (r2 : List (List Int)) (r3 : Int) (w : World) (hL : Laid w) (hr0 : Kd.C (Kd.int .u8) w A0 l0.length l0) (hc0 : l0.length ≤ c0) (h : cnf_Get.f l0 = some (r1, r2, r3)) :
    Calls Tryz.prog 40 #[.slice A0 l0.length c0] w fun e w' => ∃ v0_ : Value, e = .returned (.tuple #[.agg #[.int .i64 r1, v0_], .int .i64 r3]) ∧ Kd.S (Kd.slice 3 (Kd.int .i64)) 25 w' w.heap.size (fun _ => True) v0_ r2 ∧ Below w.heap.size w w' := by
  unfold cnf_Get.f at h
  by_cases hb : bytesOk l0 = true
  case neg => rw [if_neg hb] at h; cases h
  rw [if_pos hb] at h
  injection h with h
  have hl := bytesI_bytesOf hb
  generalize Lib.bytesOf l0 = bs at *
  subst hl
  rw [bytesI_length] at *
  unfold getB at h
  by_cases hlen : 4194304 < bs.length
  · rw [if_pos hlen] at h
    injection h with h1 h
    injection h with h2 h3
    subst h1 h2 h3
    refine (get_long A0 bs.length c0 w hlen hr0.2.1).mono ?_
    rintro e w' ⟨rfl, hB⟩
    exact ⟨_, rfl, Kd.S_nil _ _ _ _ _, hB⟩
  · rw [if_neg hlen] at h
    refine ((callsIn_wide (n := 12)).1 (get_walk A0 bs c0 w hL hr0 hc0 (by omega) 12 (Nat.le_refl _))).mono ?_
    rintro e w' ⟨v, rfl, hS, hB⟩
    rw [wordsV_words, h] at hS ⊢
    exact ⟨v, rfl, hS, hB⟩
end Go.Proofs.YtcdhhaedgohlgaaGreatDoor.P
end
