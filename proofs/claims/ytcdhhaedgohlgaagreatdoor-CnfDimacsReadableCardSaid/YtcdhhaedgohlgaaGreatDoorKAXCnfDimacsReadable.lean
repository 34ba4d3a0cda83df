/- What the law CnfDimacsReadable rests on beside the parts: plain lemmas. No condition of its own. -/
import Derived.Test.YtcdhhaedgohlgaaGreatDoorKA6
set_option linter.unusedVariables false
set_option linter.unusedSimpArgs false
section
namespace Go.Proofs.YtcdhhaedgohlgaaGreatDoorW.PrintWords
open Go.RowKit
namespace Kd
section
variable {α β : Type} {d : Kd α} {d' : Kd β} {e e' : Nat} {w w1 W : World} {base b : Nat} {ok ok' okv oku : Nat → Prop} {u v : Value} {xs : List α} {ys : List β}
theorem S_types (h : S d e w base ok v xs) {g t : Nat} {cells : Array Value} (hb : w.heap[g]? = some (.cells cells t (0, 0))) (ht : ∀ q, q ∈ e :: d.E → q ≠ t) : S d e w base (fun k => ok k ∧ k ≠ g) v xs := by
  obtain ⟨f, h⟩ := h
  exact ⟨f, R_types h hb ht⟩
theorem S_lt (h : S d e w base ok v xs) : ∀ k, v.ownBlock = some k → k < w.heap.size := R_lt (S_R h)
theorem S_new' (h : S d e w1 W.heap.size ok v xs) (hlt : ∀ k, u.ownBlock = some k → k < W.heap.size) : S d e w1 W.heap.size (fun k => ok k ∧ some k ≠ u.ownBlock) v xs := by
  obtain ⟨f, h⟩ := h
  exact ⟨f, R_new' h hlt⟩
end
section
variable {α β : Type} {d : Kd α} {d' : Kd β} {e e' g : Nat} {w w1 W : World} {base b : Nat} {ok ok' okv oku : Nat → Prop} {u v : Value} {xs : List α} {ys : List β}
theorem S_reads' {A : Option Addr} {n c : Nat} (h : S d e w base ok (.slice A n c) xs) : n = xs.length ∧ n ≤ c ∧ d.C w A xs.length xs := R_reads' (S_R h)
end
section
variable {P : Program} {ops : Array Oper} {rest : List Oper} {o : Oper} {a : Act} {Q : Exit → Act → World → Prop} {Kc : Act → World → Prop} {α : Type}
end
section
variable {α β : Type} {d : Kd α} {e e' g n cap : Nat} {w w1 W : World} {base : Nat} {ok ok' oki okp : Nat → Prop} {u v : Value} {xs : List α} {i : Int} {c : List Value}
end
section
variable {P : Program} {ops : Array Oper} {rest : List Oper} {o : Oper} {a : Act} {Q : Exit → Act → World → Prop} {α : Type}
end
end Kd
end Go.Proofs.YtcdhhaedgohlgaaGreatDoorW.PrintWords
end
section
namespace Go.Proofs.YtcdhhaedgohlgaaGreatDoor.P
set_option linter.unusedVariables false
def plainW (w : List UInt8) : Prop := w ≠ [] ∧ ∀ b ∈ w, isSp b = false ∧ b ≠ 10
theorem wordsS_word (r : List UInt8) : ∀ (w cur : List UInt8), (∀ b ∈ w, isSp b = false ∧ b ≠ 10) → wordsS (w ++ r) false false cur = wordsS r false false (cur ++ w)
  | [], cur, _ => by rw [List.nil_append, List.append_nil]
  | b :: w, cur, h => by
    have hb := h b (List.mem_cons_self ..)
    rw [List.cons_append, wordsS, if_neg hb.2, if_neg (by simp), hb.1, if_neg (by simp), wordsS_word r w _ (fun c hc => h c (List.mem_cons_of_mem _ hc)), List.append_assoc]
    rfl
theorem wordsS_word' (r w : List UInt8) (fresh : Bool) (h : plainW w) (hf : fresh = true → w.head? ≠ some 99) : wordsS (w ++ r) fresh false [] = wordsS r false false w := by
  obtain ⟨h0, h1⟩ := h
  cases w with
  | nil => exact absurd rfl h0
  | cons b w =>
    have : wordsS (b :: w ++ r) fresh false [] = wordsS (b :: w ++ r) false false [] := by
      cases fresh with
      | false => rfl
      | true => exact wordsS_fresh b (w ++ r) (fun e => hf rfl (by rw [e]; rfl)) true []
    rw [this, wordsS_word r (b :: w) [] h1]
    rfl
theorem wordsS_sp (r w : List UInt8) (fresh : Bool) (h : plainW w) (hf : fresh = true → w.head? ≠ some 99) : wordsS (w ++ 32 :: r) fresh false [] = w :: wordsS r false false [] := by
  rw [wordsS_word' _ w fresh h hf, wordsS, if_neg (by decide), if_neg (by simp), if_pos (by decide), flush_some h.1]
  rfl
theorem wordsS_nl (r w : List UInt8) (fresh : Bool) (h : plainW w) (hf : fresh = true → w.head? ≠ some 99) : wordsS (w ++ 10 :: r) fresh false [] = w :: wordsS r true false [] := by
  rw [wordsS_word' _ w fresh h hf, wordsS, if_pos rfl, flush_some h.1]
  rfl
theorem isDig_ofNat (d : Nat) (h : d < 10) : isDig (UInt8.ofNat (48 + d)) = true := by
  unfold isDig
  rw [ofNat_toNat _ (by omega), decide_eq_true (by omega), decide_eq_true (by omega)]; rfl
theorem decDigits_all (u : Nat) : (Lib.decDigits u).all isDig = true := by
  induction u using Nat.strongRecOn with
  | _ u ih =>
    rw [Lib.decDigits]
    split
    · rename_i h; rw [List.all_cons, isDig_ofNat u h]; rfl
    · rename_i h; rw [List.all_append, ih (u / 10) (by omega), List.all_cons, isDig_ofNat _ (by omega)]; rfl
theorem decV_snoc (l : List UInt8) (b : UInt8) (n : Int) : decV (l ++ [b]) n = 10 * decV l n + ((b.toNat : Int) - 48) := by unfold decV; rw [List.foldl_append]; rfl
theorem decDigits_val (u : Nat) : decV (Lib.decDigits u) 0 = u := by
  induction u using Nat.strongRecOn with
  | _ u ih =>
    rw [Lib.decDigits]
    split
    · rename_i h
      show 10 * (0 : Int) + (((UInt8.ofNat (48 + u)).toNat : Int) - 48) = u
      rw [ofNat_toNat _ (by omega)]; omega
    · rename_i h
      rw [decV_snoc, ih (u / 10) (by omega), ofNat_toNat _ (by omega)]; omega
theorem decDigits_ne (u : Nat) : Lib.decDigits u ≠ [] := by
  rw [Lib.decDigits]
  split
  · simp
  · simp
theorem decDigits_head (u : Nat) (h : 1 ≤ u) : (Lib.decDigits u).head? ≠ some 48 := by
  induction u using Nat.strongRecOn with
  | _ u ih =>
    rw [Lib.decDigits]
    split
    · rename_i h9
      intro e
      injection e with e
      have := congrArg UInt8.toNat e
      rw [ofNat_toNat _ (by omega)] at this
      have h48 : (48 : UInt8).toNat = 48 := rfl
      omega
    · rename_i h9
      rw [List.head?_append, Option.or_of_isSome (by cases h : Lib.decDigits (u / 10) with | nil => exact absurd h (decDigits_ne _) | cons a b => rfl)]
      exact ih (u / 10) (by omega) (by omega)
theorem decDigits_len : ∀ (k u : Nat), u < 10 ^ (k + 1) → (Lib.decDigits u).length ≤ k + 1
  | 0, u, h => by rw [Lib.decDigits, dif_pos (by omega)]; simp
  | k + 1, u, h => by
    rw [Lib.decDigits]
    split
    · simp
    · have : u / 10 < 10 ^ (k + 1) := by rw [Nat.pow_succ] at h; omega
      have := decDigits_len k (u / 10) this
      rw [List.length_append]
      simp
      omega
theorem decDigits_len10 (u : Nat) (h : u < 10000000000) : (Lib.decDigits u).length ≤ 10 := decDigits_len 9 u (by simpa using h)
theorem decDigits_one (u : Nat) (h : 1 < (Lib.decDigits u).length) : 1 ≤ u := by
  rcases Nat.eq_zero_or_pos u with h0 | h0
  · subst h0; rw [Lib.decDigits, dif_pos (by omega)] at h; simp at h
  · exact h0
theorem dig_plain {b : UInt8} (h : isDig b = true) : isSp b = false ∧ b ≠ 10 ∧ b ≠ 45 ∧ b ≠ 99 := by
  unfold isDig at h
  simp only [Bool.and_eq_true, decide_eq_true_eq] at h
  have key : ∀ c : UInt8, c.toNat < 48 ∨ 57 < c.toNat → b ≠ c := fun c hc e => by subst e; omega
  refine ⟨?_, key 10 (.inl (by decide)), key 45 (.inl (by decide)), key 99 (.inr (by decide))⟩
  unfold isSp
  have h1 := key 32 (.inl (by decide))
  have h2 := key 9 (.inl (by decide))
  have h3 := key 13 (.inl (by decide))
  simp [h1, h2, h3]
theorem itoa_plain (x : Int) : plainW (Lib.itoa x) ∧ (Lib.itoa x).head? ≠ some 99 := by
  have hd : ∀ u, ∀ b ∈ Lib.decDigits u, isDig b = true := fun u b hb => List.all_eq_true.1 (decDigits_all u) b hb
  unfold Lib.itoa
  split
  · refine ⟨⟨by simp, fun b hb => ?_⟩, by simp⟩
    rcases List.mem_cons.1 hb with rfl | hb
    · exact ⟨by decide, by decide⟩
    · have := dig_plain (hd _ b hb); exact ⟨this.1, this.2.1⟩
  · refine ⟨⟨decDigits_ne _, fun b hb => ?_⟩, fun e => ?_⟩
    · have := dig_plain (hd _ b hb); exact ⟨this.1, this.2.1⟩
    · have := List.mem_of_head? e
      exact (dig_plain (hd _ _ this)).2.2.2 rfl
theorem numV_itoa (x : Int) (h : -10000000000 < x ∧ x < 10000000000) : numV (Lib.itoa x) = (x, true) := by
  have hd : ∀ u, ∀ b ∈ Lib.decDigits u, isDig b = true := fun u b hb => List.all_eq_true.1 (decDigits_all u) b hb
  unfold Lib.itoa numV
  by_cases hx : x < 0
  · rw [if_pos hx, if_pos (by rfl), List.tail_cons]
    unfold absV
    rw [if_neg, decDigits_val]
    · simp only [if_true]
      congr 1
      omega
    · rintro (h1 | h1 | h1 | h1)
      · exact decDigits_ne _ h1
      · have := decDigits_len10 x.natAbs (by omega); omega
      · exact decDigits_head x.natAbs (by omega) h1.1
      · rw [decDigits_all] at h1; cases h1
  · rw [if_neg hx, if_neg]
    · unfold absV
      rw [if_neg, decDigits_val]
      · simp only [Bool.false_eq_true, if_false]
        congr 1
        omega
      · rintro (h1 | h1 | ⟨h1, h2⟩ | h1)
        · exact decDigits_ne _ h1
        · have := decDigits_len10 x.toNat (by omega); omega
        · rcases h2 with h2 | h2
          · cases h2
          · exact decDigits_head x.toNat (decDigits_one _ h2) h1
        · rw [decDigits_all] at h1; cases h1
    · intro e
      exact (dig_plain (hd _ _ (List.mem_of_head? e))).2.2.1 rfl
theorem wordsS_nums (r : List UInt8) : ∀ (l : List Int) (fresh : Bool), wordsS ((l.flatMap fun x => Lib.itoa x ++ [32]) ++ r) fresh false [] = l.map Lib.itoa ++ wordsS r (fresh && l.isEmpty) false []
  | [], fresh => by simp
  | x :: l, fresh => by
    have h := itoa_plain x
    rw [List.flatMap_cons, List.append_assoc, List.append_assoc]
    show wordsS (Lib.itoa x ++ 32 :: _) fresh false [] = _
    rw [wordsS_sp _ _ fresh h.1 (fun _ => h.2)]
    show _ :: wordsS ((l.flatMap fun x => Lib.itoa x ++ [32]) ++ r) false false [] = _
    rw [wordsS_nums r l false]
    simp
theorem wordsS_clause (l : List Int) (r : List UInt8) (fresh : Bool) : wordsS (lineB l [48, 10] ++ r) fresh false [] = l.map Lib.itoa ++ [48] :: wordsS r true false [] := by
  unfold lineB
  rw [List.append_assoc, wordsS_nums]
  show _ ++ wordsS ([48] ++ 10 :: r) _ false [] = _
  rw [wordsS_nl r [48] _ ⟨by simp, by decide⟩ (fun _ => by decide)]
theorem wordsS_clauses (r : List UInt8) : ∀ (L : List (List Int)), wordsS (clausesB L ++ r) true false [] = (L.flatMap fun l => l.map Lib.itoa ++ [[48]]) ++ wordsS r true false []
  | [] => rfl
  | l :: L => by
    have e : clausesB (l :: L) ++ r = lineB l [48, 10] ++ (clausesB L ++ r) := by simp [clausesB]
    rw [e, wordsS_clause, wordsS_clauses r L]
    simp
/-- The words of a written formula. -/
def putWords (n : Int) (L : List (List Int)) : List (List UInt8) := [112] :: [99, 110, 102] :: Lib.itoa n :: Lib.itoa L.length :: (L.flatMap fun l => l.map Lib.itoa ++ [[48]])
theorem wordsS_put (n : Int) (L : List (List Int)) (r : List UInt8) (fresh : Bool) : wordsS (putText n L ++ r) fresh false [] = putWords n L ++ wordsS r true false [] := by
  have e : putText n L ++ r = [112] ++ 32 :: ([99, 110, 102] ++ 32 :: (Lib.itoa n ++ 32 :: (Lib.itoa L.length ++ 10 :: (clausesB L ++ r)))) := by
    simp [putText, pHead, lineB]
  have h1 := itoa_plain n
  have h2 := itoa_plain L.length
  rw [e, wordsS_sp _ [112] fresh ⟨by simp, by decide⟩ (fun _ => by decide), wordsS_sp _ [99, 110, 102] false ⟨by simp, by decide⟩ (fun e => by cases e), wordsS_sp _ _ false h1.1 (fun e => by cases e), wordsS_nl _ _ false h2.1 (fun e => by cases e), wordsS_clauses]
  rfl
theorem findIdx_zero : ∀ (l r : List Int), (∀ x ∈ l, x ≠ 0) → (l ++ 0 :: r).findIdx? (· == 0) = some l.length
  | [], r, _ => by simp [List.findIdx?_cons]
  | x :: l, r, h => by
    have hx : (x == 0) = false := by simpa using h x (List.mem_cons_self ..)
    rw [List.cons_append, List.findIdx?_cons, hx, findIdx_zero l r (fun y hy => h y (List.mem_cons_of_mem _ hy))]
    simp
theorem clausesOf_flat : ∀ (L : List (List Int)) (f : Nat), (∀ l ∈ L, ∀ x ∈ l, x ≠ 0) → L.length ≤ f → clausesOf f (L.flatMap fun l => l ++ [0]) = some L
  | [], 0, _, _ => rfl
  | [], f + 1, _, _ => rfl
  | l :: L, 0, _, h => by simp at h
  | l :: L, f + 1, hz, h => by
    have e : ((l :: L).flatMap fun l => l ++ [0]) = l ++ 0 :: (L.flatMap fun l => l ++ [0]) := by simp
    have hl := hz l (List.mem_cons_self ..)
    rw [e, clausesOf, if_neg (by simp), findIdx_zero l _ hl]
    show (clausesOf f (List.drop (l.length + 1) _)).map (fun r => List.take l.length _ :: r) = _
    have h1 : List.drop (l.length + 1) (l ++ 0 :: (L.flatMap fun l => l ++ [0])) = (L.flatMap fun l => l ++ [0]) := by
      rw [← List.drop_drop, List.drop_left]; rfl
    rw [h1, List.take_left, clausesOf_flat L f (fun m hm => hz m (List.mem_cons_of_mem _ hm)) (by simpa using h)]
    rfl
theorem putWords_nums (n : Int) (L : List (List Int)) (h : checkV n L = 0) : numsV (putWords n L) = n :: (L.length : Int) :: (L.flatMap fun l => l ++ [0]) := by
  obtain ⟨h0, h1, h2, h3⟩ := checkV_zero h
  have key : ∀ M : List (List Int), (∀ l ∈ M, ∀ x ∈ l, litB n x = true) → (M.flatMap fun l => l.map Lib.itoa ++ [[48]]).map (fun w => (numV w).1) = M.flatMap fun l => l ++ [0] := by
    intro M hM
    induction M with
    | nil => rfl
    | cons l M ih =>
      have hl : (l.map Lib.itoa).map (fun w => (numV w).1) = l := by
        rw [List.map_map]
        have : ∀ x ∈ l, ((fun w => (numV w).1) ∘ Lib.itoa) x = x := by
          intro x hx
          have := litB_range (hM l (List.mem_cons_self ..) x hx)
          show (numV (Lib.itoa x)).1 = x
          rw [numV_itoa x (by omega)]
        rw [List.map_congr_left this]
        simp
      have h48 : (numV [48]).1 = 0 := by decide
      rw [List.flatMap_cons, List.map_append, List.map_append, hl, ih (fun m hm => hM m (List.mem_cons_of_mem _ hm))]
      simp [h48]
  show (numV (Lib.itoa n)).1 :: (numV (Lib.itoa L.length)).1 :: (L.flatMap fun l => l.map Lib.itoa ++ [[48]]).map (fun w => (numV w).1) = _
  rw [numV_itoa n (by omega), numV_itoa (L.length : Int) (by omega), key L h2]
theorem putWords_ok (n : Int) (L : List (List Int)) (h : checkV n L = 0) : okAll (putWords n L) := by
  obtain ⟨h0, h1, h2, h3⟩ := checkV_zero h
  intro i w hw
  match i with
  | 0 => injection hw with hw; subst hw; rfl
  | 1 => injection hw with hw; subst hw; rfl
  | 2 => injection hw with hw; subst hw; unfold okAt; rw [numV_itoa n (by omega)]; simpa using h0
  | 3 => injection hw with hw; subst hw; unfold okAt; rw [numV_itoa (L.length : Int) (by omega)]; simp
  | i + 4 =>
    replace hw : (L.flatMap fun l => l.map Lib.itoa ++ [[48]])[i]? = some w := hw
    have hm := List.mem_of_getElem? hw
    have hn : (numV w).2 = true := by
      obtain ⟨l, hl, hw2⟩ := List.mem_flatMap.1 hm
      rcases List.mem_append.1 hw2 with h5 | h5
      · obtain ⟨x, hx, rfl⟩ := List.mem_map.1 h5
        have := litB_range (h2 l hl x hx)
        rw [numV_itoa x (by omega)]
      · rw [List.mem_singleton] at h5
        subst h5; decide
    unfold okAt
    rw [if_neg (by omega), if_neg (by omega), if_neg (by omega)]
    exact hn
/-- What is written is read back. -/
theorem getV_put (n : Int) (L : List (List Int)) (h : checkV n L = 0) : getV (putWords n L) = (n, L, 0) := by
  obtain ⟨h0, h1, h2, h3⟩ := checkV_zero h
  have hn := putWords_nums n L h
  have hz : ∀ l ∈ L, ∀ x ∈ l, x ≠ 0 := fun l hl x hx => (litB_range (h2 l hl x hx)).1
  have hlen : ∀ M : List (List Int), M.length ≤ (M.flatMap fun l => l ++ [0]).length := by
    intro M
    induction M with
    | nil => simp
    | cons l M ih => rw [List.flatMap_cons, List.length_append, List.length_append]; simp at ih ⊢; omega
  unfold getV
  rw [if_neg, hn]
  · simp only [List.getD_cons_zero, List.getD_cons_succ, List.drop_succ_cons, List.drop_zero]
    rw [if_neg (by omega), clausesOf_flat L _ hz (by have := hlen L; simp only [List.length_cons]; omega)]
    show (if (L.length : Int) ≠ L.length then _ else _) = _
    rw [if_neg (by simp), if_neg (by simp [h])]
  · rintro (h5 | h5)
    · exact h5 (putWords_ok n L h)
    · unfold putWords at h5; simp only [List.length_cons] at h5; omega
end Go.Proofs.YtcdhhaedgohlgaaGreatDoor.P
end
section
namespace Go.Proofs.YtcdhhaedgohlgaaGreatDoor.P
open Go.RowKit Go.Shelf
set_option linter.unusedVariables false
theorem flush_len (cur : List UInt8) : (flush cur).length ≤ cur.length := by
  unfold flush
  split
  · simp
  · rename_i h
    have : 0 < cur.length := List.length_pos_iff.2 h
    simp; omega
theorem wordsS_len : ∀ (bs : List UInt8) (f s : Bool) (cur : List UInt8), (wordsS bs f s cur).length ≤ bs.length + cur.length
  | [], f, s, cur => by have := flush_len cur; simp only [wordsS, List.length_nil]; omega
  | b :: r, f, s, cur => by
    have h0 := flush_len cur
    rw [wordsS]
    split
    · have := wordsS_len r true false []; simp only [List.length_append, List.length_cons, List.length_nil] at *; omega
    · split
      · have := wordsS_len r false true []; simp only [List.length_append, List.length_cons, List.length_nil] at *; omega
      · split
        · have := wordsS_len r false false []; simp only [List.length_append, List.length_cons, List.length_nil] at *; omega
        · have := wordsS_len r false false (cur ++ [b]); simp only [List.length_append, List.length_cons, List.length_nil] at *; omega
def size1 (L : List (List Int)) : Nat := (L.map fun l => l.length + 1).sum
theorem clausesOf_size : ∀ (f : Nat) (l : List Int) (L : List (List Int)), clausesOf f l = some L → size1 L ≤ l.length
  | 0, l, L, h => by injection h with h; subst h; exact Nat.zero_le _
  | f + 1, l, L, h => by
    rw [clausesOf] at h
    split at h
    · injection h with h; subst h; exact Nat.zero_le _
    · split at h
      · cases h
      · rename_i e he
        obtain ⟨hi, _, _⟩ := List.findIdx?_eq_some_iff_getElem.1 he
        cases hr : clausesOf f (l.drop (e + 1)) with
        | none => rw [hr] at h; cases h
        | some R =>
          rw [hr] at h
          injection h with h
          subst h
          have := clausesOf_size f _ R hr
          rw [List.length_drop] at this
          have hs : size1 (l.take e :: R) = (l.take e).length + 1 + size1 R := by simp [size1]
          rw [hs, List.length_take]
          omega
theorem getV_ok {ws : List (List UInt8)} {n : Int} {L : List (List Int)} (h : getV ws = (n, L, 0)) : checkV n L = 0 ∧ size1 L ≤ ws.length := by
  unfold getV at h
  split at h
  · injection h with h1 h; injection h with h2 h3; cases h3
  · split at h
    · injection h with h1 h; injection h with h2 h3; cases h3
    · split at h
      · injection h with h1 h; injection h with h2 h3; cases h3
      · rename_i L' hL
        split at h
        · injection h with h1 h; injection h with h2 h3; cases h3
        · split at h
          · rename_i hc
            injection h with h1 h; injection h with h2 h3
            exact absurd h3 hc
          · rename_i hc
            injection h with h1 h; injection h with h2 h3
            subst h1; subst h2
            refine ⟨by simpa using hc, ?_⟩
            have := clausesOf_size _ _ _ hL
            rw [List.length_drop] at this
            have hn : (numsV ws).length = ws.length - 2 := by unfold numsV; simp
            omega
theorem getV_bad2 (ws : List (List UInt8)) (h : (getV ws).2.2 ≠ 0) : (getV ws).1 = 0 ∧ (getV ws).2.1 = [] := by
  revert h
  unfold getV
  split
  · exact fun _ => ⟨rfl, rfl⟩
  · split
    · exact fun _ => ⟨rfl, rfl⟩
    · split
      · exact fun _ => ⟨rfl, rfl⟩
      · split
        · exact fun _ => ⟨rfl, rfl⟩
        · split
          · exact fun _ => ⟨rfl, rfl⟩
          · exact fun h => absurd rfl h
end Go.Proofs.YtcdhhaedgohlgaaGreatDoor.P
end
section
namespace Go.Proofs.YtcdhhaedgohlgaaGreatDoor.P
set_option linter.unusedVariables false
theorem checkV_zero_iff (N : Int) (L : List (List Int)) : checkV N L = 0 ↔ 0 ≤ N ∧ N ≤ 65536 ∧ (∀ l ∈ L, ∀ x ∈ l, litB N x = true) ∧ L.length ≤ 65536 := by
  constructor
  · exact checkV_zero
  · rintro ⟨h1, h2, h3, h4⟩
    unfold checkV
    rw [if_neg (by omega), if_neg, if_neg (by omega)]
    intro h
    obtain ⟨l, hl, h⟩ := List.any_eq_true.1 h
    obtain ⟨x, hx, h⟩ := List.any_eq_true.1 h
    rw [h3 l hl x hx] at h
    cases h
end Go.Proofs.YtcdhhaedgohlgaaGreatDoor.P
end
