/- What the law CnfResolveSpec rests on, part 6: contracts of the functions that it reaches, and plain lemmas. No condition of its own. -/
import Derived.Test.YtcdhhaedgohlgaaGreatDoorKA5
import Derived.Test.YtcdhhaedgohlgaaGreatDoorRows
import Derived.Lib.LaidU8T
import Derived.PinnedBridge
import Derived.SizedLaws
import Derived.ChangeSlices
set_option linter.unusedVariables false
set_option linter.unusedSimpArgs false
section
namespace Go.Proofs.YtcdhhaedgohlgaaGreatDoor.P
open Go.RowKit Go.Proofs.YtcdhhaedgohlgaaGreatDoorW.PrintWords Go.Proofs.YtcdhhaedgohlgaaGreatDoorW.PrintLast Go.Proofs.YtcdhhaedgohlgaaGreatDoorW.PrintMore
set_option linter.unusedVariables false
set_option linter.unusedSimpArgs false

/-- With enough rounds it answers r. -/
def EvL {α : Type} (g : Nat → Option α) (r : α) : Prop := ∃ K, ∀ k, K ≤ k → g k = some r
theorem EvL.const {α : Type} (r : α) : EvL (fun _ => some r) r := ⟨0, fun _ _ => rfl⟩
theorem EvL.of {α : Type} {g : Nat → Option α} {o : Option α} {r : α} (h : o = some r) (hg : ∀ k, g k = o) : EvL g r := ⟨0, fun k _ => (hg k).trans h⟩
theorem EvL.bind {α β : Type} {g : Nat → Option α} {h : α → Nat → Option β} {a : α} {r : β} (hg : EvL g a) (hh : EvL (h a) r) : EvL (fun k => (g k).bind fun x => h x k) r := by
  obtain ⟨K1, h1⟩ := hg
  obtain ⟨K2, h2⟩ := hh
  exact ⟨max K1 K2, fun k hk => by simp only [h1 k (by omega), Option.bind_some]; exact h2 k (by omega)⟩
theorem EvL.step {α : Type} {f g : Nat → Option α} {r : α} (hg : EvL g r) (h : ∀ k, f (k + 1) = g k) : EvL f r := by
  obtain ⟨K, hK⟩ := hg
  exact ⟨K + 1, fun k hk => by
    obtain ⟨k, rfl⟩ : ∃ m, k = m + 1 := ⟨k - 1, by omega⟩
    rw [h]; exact hK k (by omega)⟩
theorem EvL.eq {α : Type} {f g : Nat → Option α} {r : α} (hg : EvL g r) (h : ∀ k, f k = g k) : EvL f r := by
  obtain ⟨K, hK⟩ := hg
  exact ⟨K, fun k hk => (h k).trans (hK k hk)⟩
theorem EvL.some_ {α : Type} {g : Nat → Option α} {r : α} (h : EvL g r) : ∃ k, g k = some r := by
  obtain ⟨K, hK⟩ := h
  exact ⟨K, hK K (Nat.le_refl _)⟩

theorem w_succ (i : Nat) (h : i < 4611686018427387904) : wrap64 ((i : Int) + 1) = ((i + 1 : Nat) : Int) := by unfold wrap64; omega
theorem rd_at (l : List Int) (i : Nat) (h : i < l.length) : rd l (i : Int) = l[i] := by unfold rd; simp [List.getD_eq_getElem?_getD, h]
theorem w_neg (x : Int) (h0 : -9223372036854775808 < x) (h1 : x ≤ 9223372036854775807) : wrap64 (-x) = -x := by unfold wrap64; omega

theorem Has_l0 (l : List Int) (x : Int) (hl : l.length < 4611686018427387904) : ∀ d i : Nat, i + d = l.length → EvL (fun k => chalklineref14_Has.l0 k l x (i : Int)) (decide (x ∈ l.drop i))
  | 0, i, hi => by
    rw [List.drop_eq_nil_of_le (by omega)]
    refine EvL.step (EvL.const false) (fun k => ?_)
    simp only [chalklineref14_Has.l0]
    rw [if_neg (by omega)]
  | d + 1, i, hi => by
    have hlt : i < l.length := by omega
    rw [List.drop_eq_getElem_cons hlt]
    by_cases e : l[i] = x
    · rw [decide_eq_true (by rw [e]; exact List.mem_cons_self)]
      refine EvL.step (EvL.const true) (fun k => ?_)
      simp only [chalklineref14_Has.l0]
      rw [if_pos (by omega), if_pos (by omega), rd_at l i hlt, if_pos e]
    · have hd : decide (x ∈ l[i] :: l.drop (i + 1)) = decide (x ∈ l.drop (i + 1)) := by
        simp only [List.mem_cons, show x = l[i] ↔ False from ⟨fun h => e h.symm, False.elim⟩, false_or]
      rw [hd]
      refine EvL.step (Has_l0 l x hl d (i + 1) (by omega)) (fun k => ?_)
      simp only [chalklineref14_Has.l0]
      rw [if_pos (by omega), if_pos (by omega), rd_at l i hlt, if_neg e, w_succ i (by omega)]
theorem Has_f (l : List Int) (x : Int) (hl : l.length < 4611686018427387904) : EvL (fun k => chalklineref14_Has.f k l x) (decide (x ∈ l)) := by
  have := Has_l0 l x hl l.length 0 (by omega)
  simpa [chalklineref14_Has.f] using this

theorem Ints_l0 (l m : List Int) (hl : l.length < 4611686018427387904) (hm : l.length = m.length) : ∀ d i : Nat, i + d = l.length → EvL (fun k => chalklineref14_Ints.l0 k l m (i : Int)) (decide (l.drop i = m.drop i))
  | 0, i, hi => by
    rw [List.drop_eq_nil_of_le (by omega), List.drop_eq_nil_of_le (by omega), decide_eq_true rfl]
    refine EvL.step (EvL.const true) (fun k => ?_)
    simp only [chalklineref14_Ints.l0]
    rw [if_neg (by omega)]
  | d + 1, i, hi => by
    have hlt : i < l.length := by omega
    have hlt2 : i < m.length := by omega
    rw [List.drop_eq_getElem_cons hlt, List.drop_eq_getElem_cons hlt2]
    by_cases e : l[i] = m[i]
    · have hd : decide (l[i] :: l.drop (i + 1) = m[i] :: m.drop (i + 1)) = decide (l.drop (i + 1) = m.drop (i + 1)) := decide_eq_decide.2 ⟨fun h => by injection h, fun h => by rw [e, h]⟩
      rw [hd]
      refine EvL.step (Ints_l0 l m hl hm d (i + 1) (by omega)) (fun k => ?_)
      simp only [chalklineref14_Ints.l0]
      rw [if_pos (by omega), if_pos (by omega), if_pos (by omega), rd_at l i hlt, rd_at m i hlt2, if_pos e, w_succ i (by omega)]
    · rw [decide_eq_false (by intro h; injection h with h _; exact e h)]
      refine EvL.step (EvL.const false) (fun k => ?_)
      simp only [chalklineref14_Ints.l0]
      rw [if_pos (by omega), if_pos (by omega), if_pos (by omega), rd_at l i hlt, rd_at m i hlt2, if_neg e]
theorem Ints_f (l m : List Int) (hl : l.length < 4611686018427387904) : EvL (fun k => chalklineref14_Ints.f k l m) (decide (l = m)) := by
  by_cases hm : l.length = m.length
  · refine EvL.eq ?_ (fun k => show _ = chalklineref14_Ints.l0 k l m ((0 : Nat) : Int) by unfold chalklineref14_Ints.f; rw [if_pos (by omega)]; rfl)
    have := Ints_l0 l m hl hm l.length 0 (by omega)
    simpa using this
  · rw [decide_eq_false (fun e => hm (by rw [e]))]
    exact EvL.eq (EvL.const false) (fun k => by unfold chalklineref14_Ints.f; rw [if_neg (by omega)])
theorem Ints_same (l m : List Int) (hl : l.length < 4611686018427387904) (h : l = m) : EvL (fun k => chalklineref14_Ints.f k l m) true := by
  have := Ints_f l m hl
  rwa [decide_eq_true h] at this

theorem Is_f (x n : Int) (h0 : -9223372036854775807 ≤ n) (h1 : n ≤ 9223372036854775807) : chalklineref14_Is.f x n = some (litB n x) := by
  unfold chalklineref14_Is.f litB
  rw [w_neg n (by omega) h1]
  by_cases e : x = 0
  · rw [if_pos e]; simp [e]
  · rw [if_neg e]
    by_cases e2 : -n ≤ x
    · rw [if_pos e2]; simp [e, e2]
    · rw [if_neg (by omega)]; simp [e, e2]
theorem mx_abs (x : Int) (h0 : -9223372036854775808 < x) (h1 : x ≤ 9223372036854775807) : mx x (wrap64 (-x)) = (x.natAbs : Int) := by
  rw [w_neg x h0 h1]; unfold mx; omega
theorem ahead_f (x y : Int) (hx : litB 65536 x = true) (hy : litB 65536 y = true) : chalklineref14_ahead.f x y = some (lt x y) := by
  have h1 := litB_range hx
  have h2 := litB_range hy
  unfold chalklineref14_ahead.f lt
  rw [mx_abs x (by omega) (by omega), mx_abs y (by omega) (by omega)]
  by_cases e : x.natAbs < y.natAbs
  · rw [if_pos (by omega), decide_eq_true e]; rfl
  · rw [if_neg (by omega), decide_eq_false e, Bool.false_or]
    by_cases e2 : x.natAbs = y.natAbs
    · rw [if_pos (by omega), beq_iff_eq.2 e2, Bool.true_and]
    · rw [if_neg (by omega), beq_eq_false_iff_ne.2 e2, Bool.false_and]
/-- Where x goes. -/
def insAt (x : Int) : List Int → Nat
  | [] => 0
  | y :: l => if lt y x = true then insAt x l + 1 else 0
theorem ins_split (x : Int) : ∀ l, ins x l = l.take (insAt x l) ++ x :: l.drop (insAt x l)
  | [] => rfl
  | y :: l => by
    unfold ins insAt
    by_cases h : lt y x = true
    · rw [if_pos h, if_pos h, ins_split x l]; rfl
    · rw [if_neg h, if_neg h]; rfl
theorem insAt_le (x : Int) : ∀ l, insAt x l ≤ l.length
  | [] => Nat.le_refl _
  | y :: l => by
    unfold insAt
    split
    · have := insAt_le x l; simp; omega
    · omega
theorem insAt_before (x : Int) : ∀ (l : List Int) (i : Nat) (h : i < l.length), i < insAt x l → lt l[i] x = true
  | [], i, h, _ => by simp at h
  | y :: l, i, h, hi => by
    unfold insAt at hi
    split at hi
    · rename_i hy
      cases i with
      | zero => exact hy
      | succ i => exact insAt_before x l i (by simpa using h) (by omega)
    · omega
theorem insAt_at (x : Int) : ∀ (l : List Int) (h : insAt x l < l.length), lt (l[insAt x l]) x = false
  | [], h => by simp at h
  | y :: l, h => by
    by_cases hy : lt y x = true
    · have e : insAt x (y :: l) = insAt x l + 1 := by
        show (if lt y x = true then insAt x l + 1 else 0) = _
        rw [if_pos hy]
      simp only [e] at h ⊢
      exact insAt_at x l (by simpa using h)
    · have e : insAt x (y :: l) = 0 := by
        show (if lt y x = true then insAt x l + 1 else 0) = _
        rw [if_neg hy]
      simp only [e]
      simpa using hy
theorem insAt_ge (x : Int) (l : List Int) (i : Nat) (h : i < l.length) (hle : i ≤ insAt x l) : lt l[i] x = decide (i < insAt x l) := by
  rcases Nat.lt_or_ge i (insAt x l) with h1 | h1
  · rw [insAt_before x l i h h1, decide_eq_true h1]
  · have e : i = insAt x l := by omega
    subst e
    rw [insAt_at x l h, decide_eq_false (by omega)]

def stepB (s : List Int × Bool) (x : Int) : List Int × Bool := if litB 65536 x && !(s.1.contains x) then (ins x s.1, s.2 || s.1.contains (-x)) else s
theorem normL_snoc (p : List Int) (x : Int) : normL (p ++ [x]) = stepN (normL p) x := by unfold normL; rw [List.foldl_append]; rfl
theorem tautL_snoc (p : List Int) (x : Int) : tautL (p ++ [x]) = (tautL p || (litB 65536 x && (normL p).contains (-x))) := by
  rw [Bool.eq_iff_iff, Bool.or_eq_true, Bool.and_eq_true, tautL_iff, tautL_iff, List.contains_eq_mem, decide_eq_true_iff, mem_normL]
  simp only [List.mem_append, List.mem_singleton]
  constructor
  · rintro ⟨y, h1, h2, h3⟩
    have hr := litB_range h3
    rcases h1 with h1 | h1
    · rcases h2 with h2 | h2
      · exact .inl ⟨y, h1, h2, h3⟩
      · subst h2
        exact .inr ⟨by rw [litB_neg]; exact h3, by rw [Int.neg_neg]; exact h1, by rw [Int.neg_neg]; exact h3⟩
    · subst h1
      rcases h2 with h2 | h2
      · exact .inr ⟨h3, h2, by rw [litB_neg]; exact h3⟩
      · omega
  · rintro (⟨y, h1, h2, h3⟩ | ⟨h1, h2, _⟩)
    · exact ⟨y, .inl h1, .inl h2, h3⟩
    · exact ⟨x, .inr rfl, .inl h2, h1⟩
theorem stepB_norm (p : List Int) (x : Int) : stepB (normL p, tautL p) x = (normL (p ++ [x]), tautL (p ++ [x])) := by
  rw [normL_snoc, tautL_snoc]
  unfold stepB stepN
  cases hx : litB 65536 x with
  | false => simp
  | true =>
    cases hc : (normL p).contains x with
    | false => simp
    | true =>
      simp only [Bool.not_true, Bool.and_false, Bool.false_eq_true, if_false, Bool.true_and, Prod.mk.injEq, true_and]
      cases hn : (normL p).contains (-x) with
      | false => simp
      | true =>
        simp only [List.contains_eq_mem, decide_eq_true_iff, mem_normL] at hc hn
        have : tautL p = true := (tautL_iff p).2 ⟨x, hc.1, hn.1, hx⟩
        simp [this]
theorem foldB (l : List Int) : ∀ p, l.foldl stepB (normL p, tautL p) = (normL (p ++ l), tautL (p ++ l)) := by
  induction l with
  | nil => intro p; simp
  | cons x l ih =>
    intro p
    rw [List.foldl_cons, stepB_norm, ih]
    simp
theorem normB (l : List Int) : l.foldl stepB ([], false) = (normL l, tautL l) := foldB l []

theorem ins_len (x : Int) : ∀ l, (ins x l).length = l.length + 1
  | [] => rfl
  | y :: l => by
    unfold ins
    split
    · rw [List.length_cons, ins_len x l, List.length_cons]
    · rfl

theorem Norm_l1 (l out : List Int) (both : Bool) (i : Nat) (hi : i < l.length) (hl : l.length < 17592186044416) (ho : out.length < 8796093022208) (hx : litB 65536 l[i] = true) (hout : ∀ y ∈ out, litB 65536 y = true) (r : List Int × Bool)
    (hc : EvL (fun k => chalklineref14_Norm.l0 k l (ins l[i] out) both ((i + 1 : Nat) : Int)) r) : ∀ d j : Nat, j + d = insAt l[i] out → EvL (fun k => chalklineref14_Norm.l1 k l out both (i : Int) (j : Int)) r := by
  have hle := insAt_le l[i] out
  have hsp := ins_split l[i] out
  intro d
  induction d with
  | zero =>
    intro j hj
    have hja : insAt l[i] out = j := by omega
    clear hj
    rw [hja] at hle hsp
    refine EvL.step hc (fun k => ?_)
    have ht : (out.take j).length < 8796093022208 := by rw [List.length_take]; omega
    have hd : (out.drop j).length < 8796093022208 := by rw [List.length_drop]; omega
    simp only [chalklineref14_Norm.l1]
    by_cases hlt : j < out.length
    · have hg := insAt_ge l[i] out j hlt (by omega)
      rw [hja, decide_eq_false (by omega)] at hg
      rw [if_pos (by omega), if_pos (by omega), if_pos (by omega), if_pos (by omega), rd_at out j hlt, rd_at l i hi, ahead_f _ _ (hout _ (List.getElem_mem hlt)) hx, Option.bind_some, hg, if_neg (by simp), if_pos (by omega), Option.bind_some, Int.toNat_natCast, if_pos (by simp only [List.length_nil]; omega), Option.bind_some, List.nil_append, if_pos (by omega), Option.bind_some, Option.bind_some, if_pos (by rw [List.length_append, List.length_singleton]; omega), w_succ i (by omega)]
      rw [List.append_assoc, List.singleton_append, ← hsp]
    · rw [if_neg (by omega), if_pos (by omega), if_pos (by omega), Option.bind_some, Int.toNat_natCast, if_pos (by simp only [List.length_nil]; omega), Option.bind_some, List.nil_append, if_pos (by omega), if_pos (by omega), rd_at l i hi, if_pos (by omega), Option.bind_some, Option.bind_some, if_pos (by rw [List.length_append, List.length_singleton]; omega), w_succ i (by omega)]
      rw [List.append_assoc, List.singleton_append, ← hsp]
  | succ d ih =>
    intro j hj
    have hlt : j < out.length := by omega
    refine EvL.step (ih (j + 1) (by omega)) (fun k => ?_)
    have hg := insAt_ge l[i] out j hlt (by omega)
    rw [decide_eq_true (by omega)] at hg
    simp only [chalklineref14_Norm.l1]
    rw [if_pos (by omega), if_pos (by omega), if_pos (by omega), if_pos (by omega), rd_at out j hlt, rd_at l i hi, ahead_f _ _ (hout _ (List.getElem_mem hlt)) hx, Option.bind_some, hg, if_pos rfl, w_succ j (by omega)]
theorem Norm_l0 (l : List Int) (hl : l.length < 8796093022208) : ∀ (d i : Nat) (out : List Int) (both : Bool), i + d = l.length → out.length ≤ i → (∀ y ∈ out, litB 65536 y = true) → EvL (fun k => chalklineref14_Norm.l0 k l out both (i : Int)) ((l.drop i).foldl stepB (out, both))
  | 0, i, out, both, hi, ho, hout => by
    rw [List.drop_eq_nil_of_le (by omega), List.foldl_nil]
    refine EvL.step (EvL.const _) (fun k => ?_)
    simp only [chalklineref14_Norm.l0]
    rw [if_neg (by omega)]
  | d + 1, i, out, both, hi, ho, hout => by
    have hlt : i < l.length := by omega
    rw [List.drop_eq_getElem_cons hlt, List.foldl_cons]
    have hrd := rd_at l i hlt
    have hskip : ∀ r, EvL (fun k => chalklineref14_Norm.l0 k l out both ((i + 1 : Nat) : Int)) r → EvL (fun k => chalklineref14_Norm.j1 k l out both (i : Int) true) r := fun r h => by
      refine EvL.step h (fun k => ?_)
      simp only [chalklineref14_Norm.j1]
      rw [if_pos trivial, w_succ i (by omega)]
    cases hx : litB 65536 l[i] with
    | false =>
      have hs : stepB (out, both) l[i] = (out, both) := by unfold stepB; rw [hx]; rfl
      rw [hs]
      have ih := Norm_l0 l hl d (i + 1) out both (by omega) (by omega) hout
      refine EvL.step (hskip _ ih) (fun k => ?_)
      simp only [chalklineref14_Norm.l0]
      rw [if_pos (by omega), if_pos (by omega), hrd, Is_f _ _ (by omega) (by omega), hx, Option.bind_some, if_neg (by simp)]
    | true =>
      have hhas := Has_f out l[i] (by omega)
      cases hc : out.contains l[i] with
      | true =>
        have hs : stepB (out, both) l[i] = (out, both) := by
          unfold stepB
          simp only [hx, hc]
          rfl
        rw [hs]
        have ih := Norm_l0 l hl d (i + 1) out both (by omega) (by omega) hout
        have hm : decide (l[i] ∈ out) = true := by rw [List.contains_eq_mem] at hc; exact hc
        rw [hm] at hhas
        refine EvL.step (EvL.bind hhas (h := fun t k => chalklineref14_Norm.j1 k l out both (i : Int) t) (hskip _ ih)) (fun k => ?_)
        simp only [chalklineref14_Norm.l0]
        rw [if_pos (by omega), if_pos (by omega), hrd, Is_f _ _ (by omega) (by omega), hx, Option.bind_some, if_pos rfl]
      | false =>
        have hs : stepB (out, both) l[i] = (ins l[i] out, both || out.contains (-l[i])) := by
          unfold stepB
          simp only [hx, hc]
          rfl
        rw [hs]
        have hr := litB_range hx
        have ih := fun b => Norm_l0 l hl d (i + 1) (ins l[i] out) b (by omega) (by rw [ins_len]; omega) (fun y hy => by
          rcases (mem_ins _ _ _).1 hy with rfl | hy
          · exact hx
          · exact hout y hy)
        have hj2 : ∀ b r, EvL (fun k => chalklineref14_Norm.l0 k l (ins l[i] out) b ((i + 1 : Nat) : Int)) r → EvL (fun k => chalklineref14_Norm.j2 k l out b (i : Int)) r := fun b r h => by
          refine EvL.step (Norm_l1 l out b i hlt (by omega) (by omega) hx hout r h (insAt l[i] out) 0 (by omega)) (fun k => ?_)
          simp only [chalklineref14_Norm.j2]
          rfl
        have hm : decide (l[i] ∈ out) = false := by rw [List.contains_eq_mem] at hc; exact hc
        rw [hm] at hhas
        refine EvL.step (EvL.bind hhas (h := fun t k => chalklineref14_Norm.j1 k l out both (i : Int) t) ?_) (fun k => ?_)
        · cases both with
          | true =>
            refine EvL.step (hj2 true _ (ih true)) (fun k => ?_)
            simp only [chalklineref14_Norm.j1]
            rw [if_neg (by simp), if_pos trivial]
          | false =>
            have hh2 := Has_f out (-l[i]) (by omega)
            rw [← List.contains_eq_mem] at hh2
            refine EvL.step (EvL.bind hh2 (h := fun t k => chalklineref14_Norm.j2 k l out t (i : Int)) (hj2 _ _ (by rw [Bool.false_or]; exact ih _))) (fun k => ?_)
            simp only [chalklineref14_Norm.j1]
            rw [if_neg (by simp), if_neg (by simp), if_pos (by omega), if_pos (by omega), hrd, w_neg _ (by omega) (by omega)]
        · simp only [chalklineref14_Norm.l0]
          rw [if_pos (by omega), if_pos (by omega), hrd, Is_f _ _ (by omega) (by omega), hx, Option.bind_some, if_pos rfl]
theorem Norm_f (l : List Int) (hl : l.length < 8796093022208) : EvL (fun k => chalklineref14_Norm.f k l) (normL l, tautL l) := by
  have := Norm_l0 l hl l.length 0 [] false (by omega) (Nat.le_refl _) (fun y hy => by cases hy)
  rw [List.drop_zero, normB] at this
  exact this
end Go.Proofs.YtcdhhaedgohlgaaGreatDoor.P
end

section
namespace Go.Proofs.YtcdhhaedgohlgaaGreatDoor.P
open Go.RowKit Go.Proofs.YtcdhhaedgohlgaaGreatDoorW.PrintWords Go.Proofs.YtcdhhaedgohlgaaGreatDoorW.PrintLast Go.Proofs.YtcdhhaedgohlgaaGreatDoorW.PrintMore
set_option linter.unusedVariables false
set_option linter.unusedSimpArgs false

theorem drp_take_succ (l : List Int) (x : Int) (i : Nat) (h : i < l.length) : drp (l.drop i) x = (if l[i] = x then [] else [l[i]]) ++ drp (l.drop (i + 1)) x := by
  rw [List.drop_eq_getElem_cons h]
  unfold drp
  rw [List.filter_cons]
  by_cases e : l[i] = x
  · rw [if_neg (by simp [e]), if_pos e]; rfl
  · rw [if_pos (by simp [e]), if_neg e]; rfl
theorem Resolve_l1 (b : List Int) (x : Int) (hx : -65536 ≤ x ∧ x ≤ 65536) (hb : b.length < 1099511627776) : ∀ (d i : Nat) (acc : List Int), i + d = b.length → acc.length ≤ 1099511627776 + i → EvL (fun k => chalklineref14_Resolve.l1 k b x acc (i : Int)) (normL (acc ++ drp (b.drop i) (-x)), 0)
  | 0, i, acc, hi, ha => by
    rw [List.drop_eq_nil_of_le (by omega)]
    have e : acc ++ drp [] (-x) = acc := by unfold drp; simp
    rw [e]
    refine EvL.step (EvL.bind (Norm_f acc (by omega)) (h := fun bt k => some (bt.1, (0 : Int))) (EvL.const _)) (fun k => ?_)
    simp only [chalklineref14_Resolve.l1]
    rw [if_neg (by omega)]
  | d + 1, i, acc, hi, ha => by
    have hlt : i < b.length := by omega
    rw [drp_take_succ b (-x) i hlt]
    have hn : wrap64 (-x) = -x := w_neg x (by omega) (by omega)
    by_cases e : b[i] = -x
    · rw [if_pos e, List.nil_append]
      refine EvL.step (Resolve_l1 b x hx hb d (i + 1) acc (by omega) (by omega)) (fun k => ?_)
      simp only [chalklineref14_Resolve.l1]
      rw [if_pos (by omega), if_pos (by omega), rd_at b i hlt, hn, if_pos e, w_succ i (by omega)]
    · rw [if_neg e, ← List.append_assoc]
      refine EvL.step (Resolve_l1 b x hx hb d (i + 1) (acc ++ [b[i]]) (by omega) (by rw [List.length_append, List.length_singleton]; omega)) (fun k => ?_)
      simp only [chalklineref14_Resolve.l1]
      rw [if_pos (by omega), if_pos (by omega), rd_at b i hlt, hn, if_neg e, if_pos (by omega), w_succ i (by omega)]
theorem Resolve_l0 (a b : List Int) (x : Int) (hx : -65536 ≤ x ∧ x ≤ 65536) (ha : a.length < 1099511627776) (hb : b.length < 1099511627776) : ∀ (d i : Nat) (acc : List Int), i + d = a.length → acc.length ≤ i → EvL (fun k => chalklineref14_Resolve.l0 k a b x acc (i : Int)) (normL (acc ++ drp (a.drop i) x ++ drp b (-x)), 0)
  | 0, i, acc, hi, hc => by
    rw [List.drop_eq_nil_of_le (by omega)]
    have e : acc ++ drp [] x = acc := by unfold drp; simp
    rw [e]
    have h := Resolve_l1 b x hx hb b.length 0 acc (by omega) (by omega)
    rw [List.drop_zero] at h
    refine EvL.step h (fun k => ?_)
    simp only [chalklineref14_Resolve.l0]
    rw [if_neg (by omega)]
    rfl
  | d + 1, i, acc, hi, hc => by
    have hlt : i < a.length := by omega
    rw [drp_take_succ a x i hlt]
    by_cases e : a[i] = x
    · rw [if_pos e, List.nil_append]
      refine EvL.step (Resolve_l0 a b x hx ha hb d (i + 1) acc (by omega) (by omega)) (fun k => ?_)
      simp only [chalklineref14_Resolve.l0]
      rw [if_pos (by omega), if_pos (by omega), rd_at a i hlt, if_pos e, w_succ i (by omega)]
    · rw [if_neg e, ← List.append_assoc acc]
      refine EvL.step (Resolve_l0 a b x hx ha hb d (i + 1) (acc ++ [a[i]]) (by omega) (by rw [List.length_append, List.length_singleton]; omega)) (fun k => ?_)
      simp only [chalklineref14_Resolve.l0]
      rw [if_pos (by omega), if_pos (by omega), rd_at a i hlt, if_neg e, if_pos (by omega), w_succ i (by omega)]
theorem Resolve_j2 (a b : List Int) (x : Int) (hx : -65536 ≤ x ∧ x ≤ 65536) (ha : a.length < 1099511627776) (hb : b.length < 1099511627776) : EvL (fun k => chalklineref14_Resolve.j2 k a b x) (if x ∈ a ∧ -x ∈ b then (normL (drp a x ++ drp b (-x)), 0) else ([], 140)) := by
  have hn : wrap64 (-x) = -x := w_neg x (by omega) (by omega)
  have hno : EvL (fun k => chalklineref14_Resolve.j3 k a b x true) (([] : List Int), (140 : Int)) := EvL.step (EvL.const _) (fun k => by simp only [chalklineref14_Resolve.j3]; rw [if_pos trivial])
  have hyes : EvL (fun k => chalklineref14_Resolve.j3 k a b x false) (normL (drp a x ++ drp b (-x)), (0 : Int)) := by
    have h := Resolve_l0 a b x hx ha hb a.length 0 [] (by omega) (Nat.le_refl _)
    rw [List.drop_zero, List.nil_append] at h
    exact EvL.step h (fun k => by simp only [chalklineref14_Resolve.j3]; rw [if_neg (by simp)]; rfl)
  have h1 := Has_f a x (by omega)
  have h2 := Has_f b (-x) (by omega)
  by_cases e1 : x ∈ a
  · rw [decide_eq_true e1] at h1
    by_cases e2 : -x ∈ b
    · rw [decide_eq_true e2] at h2
      rw [if_pos ⟨e1, e2⟩]
      refine EvL.step (EvL.bind h1 (h := fun t k => if t = true then ((chalklineref14_Has.f k b (wrap64 (-x))).bind fun t251 => (chalklineref14_Resolve.j3 k a b x (!t251))) else (chalklineref14_Resolve.j3 k a b x true)) ?_) (fun k => by simp only [chalklineref14_Resolve.j2])
      refine EvL.eq (EvL.bind h2 (h := fun t k => chalklineref14_Resolve.j3 k a b x (!t)) hyes) (fun k => ?_)
      rw [if_pos rfl, hn]
    · rw [decide_eq_false e2] at h2
      rw [if_neg (fun h => e2 h.2)]
      refine EvL.step (EvL.bind h1 (h := fun t k => if t = true then ((chalklineref14_Has.f k b (wrap64 (-x))).bind fun t251 => (chalklineref14_Resolve.j3 k a b x (!t251))) else (chalklineref14_Resolve.j3 k a b x true)) ?_) (fun k => by simp only [chalklineref14_Resolve.j2])
      refine EvL.eq (EvL.bind h2 (h := fun t k => chalklineref14_Resolve.j3 k a b x (!t)) hno) (fun k => ?_)
      rw [if_pos rfl, hn]
  · rw [decide_eq_false e1] at h1
    rw [if_neg (fun h => e1 h.1)]
    refine EvL.step (EvL.bind h1 (h := fun t k => if t = true then ((chalklineref14_Has.f k b (wrap64 (-x))).bind fun t251 => (chalklineref14_Resolve.j3 k a b x (!t251))) else (chalklineref14_Resolve.j3 k a b x true)) ?_) (fun k => by simp only [chalklineref14_Resolve.j2])
    exact EvL.eq hno (fun k => if_neg (by simp))
theorem Resolve_f (a b : List Int) (v : Int) (ha : a.length < 1099511627776) (hb : b.length < 1099511627776) : EvL (fun k => chalklineref14_Resolve.f k a b v) (resolveV a b v) := by
  have hj0t : EvL (fun k => chalklineref14_Resolve.j0 k a b v true) (([] : List Int), (140 : Int)) := EvL.step (EvL.const _) (fun k => by simp only [chalklineref14_Resolve.j0]; rw [if_pos trivial])
  unfold resolveV
  by_cases h1 : v < 1
  · rw [if_pos (.inl h1)]
    exact EvL.eq hj0t (fun k => by unfold chalklineref14_Resolve.f; rw [if_pos h1])
  · by_cases h2 : 65536 < v
    · rw [if_pos (.inr h2)]
      exact EvL.eq hj0t (fun k => by unfold chalklineref14_Resolve.f; rw [if_neg h1, decide_eq_true h2])
    · rw [if_neg (by omega)]
      have hn : wrap64 (-v) = -v := w_neg v (by omega) (by omega)
      have hv := Resolve_j2 a b v (by omega) ha hb
      have hm := Resolve_j2 a b (-v) (by omega) ha hb
      rw [Int.neg_neg] at hm
      have ha1 := Has_f a v (by omega)
      have hb1 := Has_f b (-v) (by omega)
      simp only [List.contains_eq_mem, decide_eq_true_iff]
      refine EvL.eq (f := fun k => chalklineref14_Resolve.f k a b v) ?_ (fun k => show _ = chalklineref14_Resolve.j0 k a b v false by unfold chalklineref14_Resolve.f; rw [if_neg h1, decide_eq_false (by omega)])
      have hs : ∀ r, EvL (fun k => if decide (v ∈ a) = true then ((chalklineref14_Has.f k b (wrap64 (-v))).bind fun t249 => (chalklineref14_Resolve.j1 k a b v v (!t249))) else (chalklineref14_Resolve.j1 k a b v v true)) r → EvL (fun k => chalklineref14_Resolve.j0 k a b v false) r := fun r h => by
        refine EvL.step (EvL.bind ha1 (h := fun t k => if t = true then ((chalklineref14_Has.f k b (wrap64 (-v))).bind fun t249 => (chalklineref14_Resolve.j1 k a b v v (!t249))) else (chalklineref14_Resolve.j1 k a b v v true)) h) (fun k => ?_)
        simp only [chalklineref14_Resolve.j0]
        rw [if_neg (by simp)]
      have hneg : ∀ r, EvL (fun k => chalklineref14_Resolve.j2 k a b (-v)) r → EvL (fun k => chalklineref14_Resolve.j1 k a b v v true) r := fun r h => EvL.step h (fun k => by simp only [chalklineref14_Resolve.j1]; rw [if_pos trivial, hn])
      have hpos : ∀ r, EvL (fun k => chalklineref14_Resolve.j2 k a b v) r → EvL (fun k => chalklineref14_Resolve.j1 k a b v v false) r := fun r h => EvL.step h (fun k => by simp only [chalklineref14_Resolve.j1]; rw [if_neg (by simp)])
      by_cases e1 : v ∈ a
      · by_cases e2 : -v ∈ b
        · rw [if_pos ⟨e1, e2⟩]
          rw [if_pos ⟨e1, e2⟩] at hv
          rw [decide_eq_true e2] at hb1
          refine hs _ (EvL.eq (EvL.bind hb1 (h := fun t k => chalklineref14_Resolve.j1 k a b v v (!t)) (hpos _ hv)) (fun k => ?_))
          rw [if_pos (decide_eq_true e1), hn]
        · rw [if_neg (fun h => e2 h.2)]
          rw [decide_eq_false e2] at hb1
          refine hs _ (EvL.eq (EvL.bind hb1 (h := fun t k => chalklineref14_Resolve.j1 k a b v v (!t)) (hneg _ hm)) (fun k => ?_))
          rw [if_pos (decide_eq_true e1), hn]
      · rw [if_neg (fun h => e1 h.1)]
        refine hs _ (EvL.eq (hneg _ hm) (fun k => ?_))
        rw [if_neg (by rw [decide_eq_false e1]; simp)]
end Go.Proofs.YtcdhhaedgohlgaaGreatDoor.P
end

section
namespace Go.Proofs.YtcdhhaedgohlgaaGreatDoor.P
open Go.RowKit Go.Shelf Go.Lib

def renU : Ren := ⟨fun x => x, fun | 119 => 213 | 138 => 215 | 139 => 216 | n => n, fun x => x⟩
theorem typesU : U8Types Tryz.prog renU := ⟨by kernel_rfl, by kernel_rfl, by kernel_rfl, by kernel_rfl⟩
theorem extraU : U8Extra Tryz.prog renU := ⟨by kernel_rfl, by kernel_rfl, by kernel_rfl, by kernel_rfl, by kernel_rfl, by kernel_rfl, by kernel_rfl⟩
theorem pow_eq : Rows.laid_internal_strconv_uint64pow10 = (tabData .u64 pow10Tab : DataW Unit) := by kernel_rfl
theorem acc_eq : Rows.laid_unicode_utf8_acceptRanges = (acceptData : DataW Unit) := by kernel_rfl
theorem fst_eq : Rows.laid_unicode_utf8_first = (firstData : DataW Unit) := Pinned.utf8First_eq

theorem tab_of_reads {W : World} (h : VarReads Tryz.prog W tabP (tabData .u64 pow10Tab)) : TabIs Tryz.prog W tabP .u64 pow10Tab := by
  obtain ⟨g, t, cs, fuel, p, hg, hty, hvar, hd⟩ := h
  obtain rfl := Option.some.inj ((show Tryz.prog.globalNamed tabP = some 2 by kernel_rfl).symm.trans hg)
  obtain rfl := Option.some.inj ((show (Tryz.prog.globals[2]?).map (·.type) = some 211 by kernel_rfl).symm.trans hty)
  unfold TabIs
  rw [hvar, ← cells_of_tab (show Tryz.prog.underlying 211 = some (.array 20 171) by kernel_rfl) (show Tryz.prog.underlying 171 = some (.int .u64) by kernel_rfl) (by kernel_rfl) (by kernel_rfl) hd]
theorem utf8_below {g3 g4 : Nat} {w w' : World} (h : Utf8Tabs g3 g4 w) (hb : Below w.heap.size w w') : Utf8Tabs g3 g4 w' := by
  have key : ∀ {a : Addr} {v : Value}, w.cell? a = some v → w'.cell? a = some v := fun hc => (hb.cell (World.block_lt_of_cell? w _ hc)).trans hc
  exact ⟨fun c hc => key (h.1 c hc), fun i hi => ⟨key (h.2 i hi).1, key (h.2 i hi).2⟩⟩
theorem Laid.of_met {W : World} {l : List (String × DataW Unit)} (hL : laidMet Tryz.prog l W) (h1 : ("internal/strconv.uint64pow10", Rows.laid_internal_strconv_uint64pow10) ∈ l) (h2 : ("unicode/utf8.first", Rows.laid_unicode_utf8_first) ∈ l) (h3 : ("unicode/utf8.acceptRanges", Rows.laid_unicode_utf8_acceptRanges) ∈ l) : Laid W := by
  have r1 : VarReads Tryz.prog W tabP (tabData .u64 pow10Tab) := pow_eq ▸ Lib.laidMet.reads hL h1
  have r2 : VarReads Tryz.prog W "unicode/utf8.first" firstData := fst_eq ▸ Lib.laidMet.reads hL h2
  have r3 : VarReads Tryz.prog W "unicode/utf8.acceptRanges" acceptData := acc_eq ▸ Lib.laidMet.reads hL h3
  have t1 := tabBelow_of_tabIs (tab_of_reads r1)
  have t2 : Utf8Tabs 3 4 W := utf8Tabs_of_readsT typesU extraU r2 r3
  exact fun w' hb => ⟨t1 w' hb, utf8_below t2 hb⟩
end Go.Proofs.YtcdhhaedgohlgaaGreatDoor.P
end

section
namespace Go.Proofs.YtcdhhaedgohlgaaGreatDoorW.PrintWords
open Go.ChangeShapes Go.WideShapes
/-- A row's slice of whole numbers is no longer than its weight allows. -/
theorem sized_ints {H : Type} {enc : TypeId × Value → H} {P : Program} {W : World} {base : Nat} {spare : Nat → Bool} {held : Bool} {t e : TypeId} {k : IntKind} {a : Option Addr} {len cap : Nat} {d : DataW H} {ps : List MemPlace} {ts : List TypeId} {ds : List (DataW H)} {j : Nat}
    (hsz : (DataW.weightsEach P ts ds).all (· ≤ reachBytes) = true) (ht : ts[j]? = some t) (hd : ds[j]? = some d) (hu : P.underlying t = some (.slice e)) (he : P.underlying e = some (.int k)) (hc : P.cellsOf e = 1) {B : Nat} (hB : P.bytesOf e = B)
    (h : DataW.Trod enc P W base spare held t (.slice a len cap) d ps) : len * B ≤ 140737488351232 := by
  obtain ⟨fuel, hf⟩ := h
  rcases open_ints hu he hc hf with ⟨hcs, _⟩ | ⟨x, l, c, zs, hcs, _, hl, _, hz, hx, _, _⟩
  · simp [Value.cells] at hcs
    obtain ⟨rfl, rfl, rfl⟩ := hcs
    simp
  · simp [Value.cells] at hcs
    obtain ⟨rfl, rfl, rfl⟩ := hcs
    obtain ⟨hx, _⟩ := Prod.mk.inj hx
    subst hx
    have z := sized_slice hsz ht hd hu
    rw [hB] at z
    have hl2 : len ≤ zs.length := by
      rw [hz]
      split
      · exact hl
      · exact Nat.le_refl _
    have h1 : (lits (H := H) k (zs.take len)).length + (lits (H := H) k (zs.drop len)).length = zs.length := by
      simp [lits]
      omega
    rw [h1] at z
    exact Nat.le_trans (Nat.mul_le_mul_right _ hl2) z
end Go.Proofs.YtcdhhaedgohlgaaGreatDoorW.PrintWords
end
