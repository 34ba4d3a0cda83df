/- What the law CnfResolveSpec rests on, part 2: contracts of the functions that it reaches, and plain lemmas. No condition of its own. -/
import Derived.Test.YtcdhhaedgohlgaaGreatDoorKA1
import Derived.Shelf.Abstract
import Derived.Lib.AppendIntMem
import Derived.Shelf.Unicode.DecodeAny
import Derived.Shelf.Small.Bits
import Derived.Shelf.LaysM
import Derived.Shelf.Strconv.Itoa3
import Derived.Shelf.Bytes.WriteByteKept
import Derived.Shelf.Bytes.WriteStringKept
import Derived.Shelf.Bytes.Bytes
import Derived.Test.YtcdhhaedgohlgaaGreatDoorProg
import Derived.Lib.ItoaLen
import Derived.Lib.BufferWrite
import Derived.Lib.OthersKept
import Derived.Lib.Bytes
set_option linter.unusedVariables false
set_option linter.unusedSimpArgs false
section
namespace Go.Proofs.YtcdhhaedgohlgaaGreatDoor.P
open Go.RowKit Go.Proofs.YtcdhhaedgohlgaaGreatDoorW.PrintWords Go.Proofs.YtcdhhaedgohlgaaGreatDoorW.PrintLast Go.Proofs.YtcdhhaedgohlgaaGreatDoorW.PrintMore
attribute [local go_sem] max2_int min2_int max_two min_two max_three min_three max_four min_four   -- for this text's walks alone
set_option linter.unusedVariables false
set_option linter.unusedSimpArgs false

mutual
def chalklineref14_Norm.l0 : Nat → List Int → List Int → Bool → Int → Option (List Int × Bool)
  | 0, _, _, _, _ => none
  | k + 1, x0, x4, x5, x6 => if x6 < (x0.length : Int) then (if 0 ≤ x6 then ((chalklineref14_Is.f (rd x0 x6) 65536).bind fun t159 => (if t159 = true then ((chalklineref14_Has.f k x4 (rd x0 x6)).bind fun t161 => (chalklineref14_Norm.j1 k x0 x4 x5 x6 t161)) else (chalklineref14_Norm.j1 k x0 x4 x5 x6 true))) else (none)) else (some (x4, x5))
def chalklineref14_Norm.j1 : Nat → List Int → List Int → Bool → Int → Bool → Option (List Int × Bool)
  | 0, _, _, _, _, _ => none
  | k + 1, x0, x4, x5, x6, x28 => if x28 = true then (chalklineref14_Norm.l0 k x0 x4 x5 (wrap64 (x6 + 1))) else (if x5 = true then (chalklineref14_Norm.j2 k x0 x4 true x6) else (if 0 ≤ x6 then (if x6 < (x0.length : Int) then ((chalklineref14_Has.f k x4 (wrap64 (-(rd x0 x6)))).bind fun t163 => (chalklineref14_Norm.j2 k x0 x4 t163 x6)) else (none)) else (none)))
def chalklineref14_Norm.j2 : Nat → List Int → List Int → Bool → Int → Option (List Int × Bool)
  | 0, _, _, _, _ => none
  | k + 1, x0, x4, x5, x6 => chalklineref14_Norm.l1 k x0 x4 x5 x6 0
def chalklineref14_Norm.l1 : Nat → List Int → List Int → Bool → Int → Int → Option (List Int × Bool)
  | 0, _, _, _, _, _ => none
  | k + 1, x0, x4, x5, x6, x7 => if x7 < (x4.length : Int) then (if 0 ≤ x7 then (if 0 ≤ x6 then (if x6 < (x0.length : Int) then ((chalklineref14_ahead.f (rd x4 x7) (rd x0 x6)).bind fun t166 => (if t166 = true then (chalklineref14_Norm.l1 k x0 x4 x5 x6 (wrap64 (x7 + 1))) else (if x7 ≤ (x4.length : Int) then ((some (x4.take (x7 : Int).toNat : List Int)).bind fun y167 => (if ([] : List Int).length + y167.length < 17592186044416 then ((some (([] : List Int) ++ y167 : List Int)).bind fun y171 => (if y171.length < 17592186044416 then ((some (y171 ++ [rd x0 x6] : List Int)).bind fun y175 => ((some (x4.drop (x7 : Int).toNat : List Int)).bind fun y178 => (if y175.length + y178.length < 17592186044416 then (chalklineref14_Norm.l0 k x0 (y175 ++ y178) x5 (wrap64 (x6 + 1))) else (none)))) else (none))) else (none))) else (none)))) else (none)) else (none)) else (none)) else (if 0 ≤ x7 then (if x7 ≤ (x4.length : Int) then ((some (x4.take (x7 : Int).toNat : List Int)).bind fun y185 => (if ([] : List Int).length + y185.length < 17592186044416 then ((some (([] : List Int) ++ y185 : List Int)).bind fun y189 => (if 0 ≤ x6 then (if x6 < (x0.length : Int) then (if y189.length < 17592186044416 then ((some (y189 ++ [rd x0 x6] : List Int)).bind fun y193 => ((some (x4.drop (x7 : Int).toNat : List Int)).bind fun y196 => (if y193.length + y196.length < 17592186044416 then (chalklineref14_Norm.l0 k x0 (y193 ++ y196) x5 (wrap64 (x6 + 1))) else (none)))) else (none)) else (none)) else (none))) else (none))) else (none)) else (none))
end
def chalklineref14_Norm.f (k : Nat) (l0 : List Int) : Option (List Int × Bool) := chalklineref14_Norm.l0 k l0 ([] : List Int) false 0
theorem chalklineref14_Norm.mono_l : ∀ k, (∀ y0 y1 y2 y3, LeO (chalklineref14_Norm.l0 k y0 y1 y2 y3) (chalklineref14_Norm.l0 (k + 1) y0 y1 y2 y3)) ∧ (∀ y0 y1 y2 y3 y4, LeO (chalklineref14_Norm.j1 k y0 y1 y2 y3 y4) (chalklineref14_Norm.j1 (k + 1) y0 y1 y2 y3 y4)) ∧ (∀ y0 y1 y2 y3, LeO (chalklineref14_Norm.j2 k y0 y1 y2 y3) (chalklineref14_Norm.j2 (k + 1) y0 y1 y2 y3)) ∧ (∀ y0 y1 y2 y3 y4, LeO (chalklineref14_Norm.l1 k y0 y1 y2 y3 y4) (chalklineref14_Norm.l1 (k + 1) y0 y1 y2 y3 y4))
  | 0 => ⟨fun _ _ _ _ r h => by simp [chalklineref14_Norm.l0] at h, fun _ _ _ _ _ r h => by simp [chalklineref14_Norm.j1] at h, fun _ _ _ _ r h => by simp [chalklineref14_Norm.j2] at h, fun _ _ _ _ _ r h => by simp [chalklineref14_Norm.l1] at h⟩
  | k + 1 => by
    obtain ⟨ih0, ih1, ih2, ih3⟩ := chalklineref14_Norm.mono_l k
    refine ⟨?_, ?_, ?_, ?_⟩
    · intro y0 y1 y2 y3
      unfold chalklineref14_Norm.l0
      repeat' first
      | (with_reducible exact ih0 _ _ _ _)
      | (with_reducible exact ih1 _ _ _ _ _)
      | (with_reducible exact ih2 _ _ _ _)
      | (with_reducible exact ih3 _ _ _ _ _)
      | (with_reducible exact chalklineref14_Has.mono _ _ _)
      | (with_reducible exact LeO.refl _)
      | (with_reducible exact LeO.none _)
      | (with_reducible refine LeO.ite ?_ ?_)
      | (with_reducible refine LeO.bind ?_ (fun _ => ?_))
      | exact ih0 _ _ _ _
      | exact ih1 _ _ _ _ _
      | exact ih2 _ _ _ _
      | exact ih3 _ _ _ _ _
      | exact chalklineref14_Has.mono _ _ _
      | exact LeO.none _
      | refine LeO.ite ?_ ?_
      | refine LeO.bind ?_ (fun _ => ?_)
    · intro y0 y1 y2 y3 y4
      unfold chalklineref14_Norm.j1
      repeat' first
      | (with_reducible exact ih0 _ _ _ _)
      | (with_reducible exact ih1 _ _ _ _ _)
      | (with_reducible exact ih2 _ _ _ _)
      | (with_reducible exact ih3 _ _ _ _ _)
      | (with_reducible exact chalklineref14_Has.mono _ _ _)
      | (with_reducible exact LeO.refl _)
      | (with_reducible exact LeO.none _)
      | (with_reducible refine LeO.ite ?_ ?_)
      | (with_reducible refine LeO.bind ?_ (fun _ => ?_))
      | exact ih0 _ _ _ _
      | exact ih1 _ _ _ _ _
      | exact ih2 _ _ _ _
      | exact ih3 _ _ _ _ _
      | exact chalklineref14_Has.mono _ _ _
      | exact LeO.none _
      | refine LeO.ite ?_ ?_
      | refine LeO.bind ?_ (fun _ => ?_)
    · intro y0 y1 y2 y3
      unfold chalklineref14_Norm.j2
      repeat' first
      | (with_reducible exact ih0 _ _ _ _)
      | (with_reducible exact ih1 _ _ _ _ _)
      | (with_reducible exact ih2 _ _ _ _)
      | (with_reducible exact ih3 _ _ _ _ _)
      | (with_reducible exact chalklineref14_Has.mono _ _ _)
      | (with_reducible exact LeO.refl _)
      | (with_reducible exact LeO.none _)
      | (with_reducible refine LeO.ite ?_ ?_)
      | (with_reducible refine LeO.bind ?_ (fun _ => ?_))
      | exact ih0 _ _ _ _
      | exact ih1 _ _ _ _ _
      | exact ih2 _ _ _ _
      | exact ih3 _ _ _ _ _
      | exact chalklineref14_Has.mono _ _ _
      | exact LeO.none _
      | refine LeO.ite ?_ ?_
      | refine LeO.bind ?_ (fun _ => ?_)
    · intro y0 y1 y2 y3 y4
      unfold chalklineref14_Norm.l1
      repeat' first
      | (with_reducible exact ih0 _ _ _ _)
      | (with_reducible exact ih1 _ _ _ _ _)
      | (with_reducible exact ih2 _ _ _ _)
      | (with_reducible exact ih3 _ _ _ _ _)
      | (with_reducible exact chalklineref14_Has.mono _ _ _)
      | (with_reducible exact LeO.refl _)
      | (with_reducible exact LeO.none _)
      | (with_reducible refine LeO.ite ?_ ?_)
      | (with_reducible refine LeO.bind ?_ (fun _ => ?_))
      | exact ih0 _ _ _ _
      | exact ih1 _ _ _ _ _
      | exact ih2 _ _ _ _
      | exact ih3 _ _ _ _ _
      | exact chalklineref14_Has.mono _ _ _
      | exact LeO.none _
      | refine LeO.ite ?_ ?_
      | refine LeO.bind ?_ (fun _ => ?_)
theorem chalklineref14_Norm.mono : ∀ a0 k, LeO (chalklineref14_Norm.f k a0) (chalklineref14_Norm.f (k + 1) a0) := by
  intro a0 k
  obtain ⟨ih0, ih1, ih2, ih3⟩ := chalklineref14_Norm.mono_l k
  unfold chalklineref14_Norm.f
  repeat' first
      | (with_reducible exact ih0 _ _ _ _)
      | (with_reducible exact ih1 _ _ _ _ _)
      | (with_reducible exact ih2 _ _ _ _)
      | (with_reducible exact ih3 _ _ _ _ _)
      | (with_reducible exact chalklineref14_Has.mono _ _ _)
      | (with_reducible exact LeO.refl _)
      | (with_reducible exact LeO.none _)
      | (with_reducible refine LeO.ite ?_ ?_)
      | (with_reducible refine LeO.bind ?_ (fun _ => ?_))
      | exact ih0 _ _ _ _
      | exact ih1 _ _ _ _ _
      | exact ih2 _ _ _ _
      | exact ih3 _ _ _ _ _
      | exact chalklineref14_Has.mono _ _ _
      | exact LeO.none _
      | refine LeO.ite ?_ ?_
      | refine LeO.bind ?_ (fun _ => ?_)
def chalklineref14_Norm.T9 : Bool × List (List Nat × List Nat) := (true, [([], []), ([], []), ([1], [1]), ([0, 2], [0, 2]), ([3], [3]), ([4], [4]), ([4], [4]), ([5, 6, 4], [4, 5, 6]), ([7, 4], [4, 7]), ([4], [4]), ([4], [4]), ([9, 10, 4], [4, 9, 10]), ([11, 4], [4, 11]), ([8, 12, 4, 4], [4, 8, 12]), ([4, 13], [4, 13])])
def chalklineref14_Norm.B9 : List Nat := [0, 0, 2, 7, 15, 31, 31, 127, 255, 31, 31, 1567, 3615, 8191, 16383]
theorem chalklineref14_Norm.tab9 : rtab .any (opsOf Tryz.f24 9) = chalklineref14_Norm.T9 := by kernel_rfl
theorem chalklineref14_Norm.bits9 : waitsOk chalklineref14_Norm.T9.2 chalklineref14_Norm.B9 = true := by kernel_rfl
set_option maxHeartbeats 8000000 in
set_option maxRecDepth 100000 in
theorem chalklineref14_Norm.calls (k : Nat) (A0 : Option Addr) (c0 : Nat) (l0 : List Int) (r1 : List Int) (r2 : Bool) (w : World) (hr0 : Kd.C (Kd.int .i64) w A0 l0.length l0) (hc0 : l0.length ≤ c0) (h : chalklineref14_Norm.f k l0 = some (r1, r2)) :
    Calls Tryz.prog 24 #[.slice A0 l0.length c0] w fun e w' => ∃ v0_ : Value, e = .returned (.tuple #[v0_, .bool r2]) ∧ Kd.R (Kd.int .i64) 3 w' w.heap.size (fun _ => True) v0_ r1 ∧ Below w.heap.size w w' := by
  have HR0 := Aside0.mk hr0
  have HC0 := Aside0.mk hc0
  clear hr0 hc0
  have HB := Aside0.mk (Below.refl w.heap.size w)
  have H : (chalklineref14_Norm.l0 k l0 ([] : List Int) false 0) = some (r1, r2) := h
  clear h
  have H' := Aside0.mk H
  clear H
  go_enter Tryz.func24, Tryz.ntmps24
  go_wp2
  go_loopg [4, 5, 6] k (fun kq v4 v5 v6 w' => ∃ (x4_1 : List Int) (x5_1 : Bool) (x6_1 : Int), v5 = .bool x5_1 ∧ v6 = .int .i64 x6_1 ∧ Aside0 (chalklineref14_Norm.l0 kq l0 x4_1 x5_1 x6_1 = some (r1, r2)) ∧ Aside0 (kq ≤ k) ∧ Aside0 (Kd.R (Kd.int .i64) 3 w' w.heap.size (fun _ => True) v4 x4_1) ∧ Aside0 (Below w.heap.size w w'))
  case atStart => exact ⟨(([] : List Int)), (false), (0), (by first | rfl | (simp; done) | (simp [*]; done)), (by first | rfl | (simp; done) | (simp [*]; done)), H', ⟨Nat.le_refl _⟩, ⟨by first | exact Kd.R_nil _ _ _ _ _ | exact Kd.N_nil _ _ _ _ _ | exact Kd.V_nil _ _ _ _ _ | exact Kd.Q_nil _ _ _ _ _ | exact Kd.S_nil _ _ _ _ _⟩, ⟨by repeat (first | (with_reducible first | exact HB.out | apply below_alloc | apply pw_below_drewN | apply below_drew1) | exact HB.out)⟩⟩
  case round =>
    clear H'
    obtain ⟨x4_1, x5_1, x6_1, rfl, rfl, HA, HK1, HO_4, HB⟩ := hrel
    cases gk with
    | zero => exact absurd HA.out (by simp [chalklineref14_Norm.l0])
    | succ k1 =>
      have H := HA.out
      clear HA
      simp only [chalklineref14_Norm.l0] at H
      by_cases c2 : x6_1 < (l0.length : Int)
      · rw [if_pos c2] at H
        have c2b0 : decide (x6_1 < (l0.length : Int)) = true := decide_eq_true c2
        clear c2
        have HC3 := Aside0.mk H
        clear H
        go_upto_region 6 with (fail)
        go_cut [28] (fun v28 wc => ∃ (kq : Nat) (x28_2 : Bool), v28 = .bool x28_2 ∧ Aside0 (chalklineref14_Norm.j1 kq l0 x4_1 x5_1 x6_1 x28_2 = some (r1, r2)) ∧ Aside0 (kq ≤ k1) ∧ Aside0 (Kd.R (Kd.int .i64) 3 wc w.heap.size (fun _ => True) u4 x4_1) ∧ Aside0 (Below w.heap.size w wc))
        case first =>
          have H := HC3.out
          clear HC3
          by_cases c4 : 0 ≤ x6_1
          · rw [if_pos c4] at H
            have c4b0 : decide (0 ≤ x6_1) = true := decide_eq_true c4
            clear c4
            (first | rw [c4b0] | (simp only [i64_w, i32_w]; rw [c4b0]) | skip)
            replace H := Option.bind_eq_some_iff.mp H
            obtain ⟨t159, A50, H⟩ := H
            replace H : (if t159 = true then ((chalklineref14_Has.f k1 x4_1 (rd l0 x6_1)).bind fun t161 => (chalklineref14_Norm.j1 k1 l0 x4_1 x5_1 x6_1 t161)) else (chalklineref14_Norm.j1 k1 l0 x4_1 x5_1 x6_1 true)) = some (r1, r2) := H
            have A5 := Aside0.mk A50
            clear A50
            by_cases c6 : t159 = true
            · subst c6
              have H1 : ((chalklineref14_Has.f k1 x4_1 (rd l0 x6_1)).bind fun t161 => (chalklineref14_Norm.j1 k1 l0 x4_1 x5_1 x6_1 t161)) = some (r1, r2) := by rw [if_pos rfl] at H; exact H
              clear H
              have H := H1
              clear H1
              replace H := Option.bind_eq_some_iff.mp H
              obtain ⟨t161, A70, H⟩ := H
              replace H : (chalklineref14_Norm.j1 k1 l0 x4_1 x5_1 x6_1 t161) = some (r1, r2) := H
              have A7 := Aside0.mk A70
              clear A70
              have H' := Aside0.mk H
              clear H
              have p158 : 0 ≤ (x6_1 : Int) := of_decide_eq_true (by first | (with_reducible assumption) | assumption)
              have q158 : x6_1 < (l0.length : Int) := of_decide_eq_true (by first | (with_reducible assumption) | assumption)
              obtain ⟨ad158, e158, hx158_0⟩ := Kd.at_int HR0.out x6_1 p158 q158
              cases e158
              replace hx158_0 := (HB.out.cell (World.block_lt_of_cell? w _ hx158_0)).trans hx158_0
              replace p158 := eq_true p158
              replace q158 := eq_true q158
              go_wp2_with (first | ((with_reducible refine gate_callee (f := 71) rfl ?_); refine goesL_ (some 19) rfl rfl Tryz.func71 (by kernel_rfl) rfl #[.int .i64 (rd l0 x6_1), .int .i64 65536] rfl (by (try simp only [List.map_toArray, List.map_cons, List.map_nil]); first | done | rfl | (simp only [List.length_drop, List.length_take]; rfl)) ?_; (with_reducible refine (chalklineref14_Is.calls (rd l0 x6_1) 65536 true _ A5.out).mono ?_); rintro e w' ⟨rfl, ⟨nd, rfl⟩⟩; refine ⟨_, rfl, ?_⟩; have p160 : 0 ≤ (x6_1 : Int) := of_decide_eq_true (by first | (with_reducible assumption) | assumption); have q160 : x6_1 < (l0.length : Int) := of_decide_eq_true (by first | (with_reducible assumption) | assumption); obtain ⟨ad160, e160, hx160_0⟩ := Kd.at_int HR0.out x6_1 p160 q160; obtain rfl : ad158 = ad160 := (by injection e160); replace hx160_0 := (HB.out.cell (World.block_lt_of_cell? w _ hx160_0)).trans hx160_0; replace p160 := eq_true p160; replace q160 := eq_true q160; obtain ⟨Ao8, co8, eo8⟩ := Kd.R_slice HO_4.out; subst eo8) | (go_at_call 42; (with_reducible refine (chalklineref14_Has.calls k1 _ _ x4_1 (rd l0 x6_1) t161 _ ?side1 ?side2 A7.out).mono ?_); (case side1 => repeat (first | exact (Kd.R_reads' HO_4.out).2.2 | (with_reducible refine Kd.C_alloc ?_ _) | (with_reducible refine Kd.C_drewN ?_ _) | (with_reducible refine Kd.C_drew ?_))); (case side2 => exact (Kd.R_reads' HO_4.out).2.1); rintro e w' ⟨rfl, ⟨nd, rfl⟩⟩))
              go_meet
              case rel => exact ⟨_, (t161), (by first | rfl | (simp; done) | (simp [*]; done)), H', ⟨by have := HK1.out; first | omega | exact Nat.le_refl _⟩, ⟨by (with_reducible repeat (first | apply Kd.R_alloc | apply Kd.R_drewN | apply Kd.R_drew)); exact HO_4.out⟩, ⟨by repeat (first | (with_reducible first | exact HB.out | apply below_alloc | apply pw_below_drewN | apply below_drew1) | exact HB.out)⟩⟩
            · replace c6 := Bool.eq_false_iff.mpr c6
              subst c6
              have H1 : (chalklineref14_Norm.j1 k1 l0 x4_1 x5_1 x6_1 true) = some (r1, r2) := by rw [if_neg (show ¬ (false = true) by decide)] at H; exact H
              clear H
              have H := H1
              clear H1
              have H' := Aside0.mk H
              clear H
              have p158 : 0 ≤ (x6_1 : Int) := of_decide_eq_true (by first | (with_reducible assumption) | assumption)
              have q158 : x6_1 < (l0.length : Int) := of_decide_eq_true (by first | (with_reducible assumption) | assumption)
              obtain ⟨ad158, e158, hx158_0⟩ := Kd.at_int HR0.out x6_1 p158 q158
              cases e158
              replace hx158_0 := (HB.out.cell (World.block_lt_of_cell? w _ hx158_0)).trans hx158_0
              replace p158 := eq_true p158
              replace q158 := eq_true q158
              go_wp2_with (first | ((with_reducible refine gate_callee (f := 71) rfl ?_); refine goesL_ (some 19) rfl rfl Tryz.func71 (by kernel_rfl) rfl #[.int .i64 (rd l0 x6_1), .int .i64 65536] rfl (by (try simp only [List.map_toArray, List.map_cons, List.map_nil]); first | done | rfl | (simp only [List.length_drop, List.length_take]; rfl)) ?_; (with_reducible refine (chalklineref14_Is.calls (rd l0 x6_1) 65536 false _ A5.out).mono ?_); rintro e w' ⟨rfl, ⟨nd, rfl⟩⟩; refine ⟨_, rfl, ?_⟩))
              go_meet
              case rel => exact ⟨_, (true), (by first | rfl | (simp; done) | (simp [*]; done)), H', ⟨by have := HK1.out; first | omega | exact Nat.le_refl _⟩, ⟨by (with_reducible repeat (first | apply Kd.R_alloc | apply Kd.R_drewN | apply Kd.R_drew)); exact HO_4.out⟩, ⟨by repeat (first | (with_reducible first | exact HB.out | apply below_alloc | apply pw_below_drewN | apply below_drew1) | exact HB.out)⟩⟩
          · rw [if_neg c4] at H
            exact absurd H (by simp)
        case rest =>
          clear HC3
          try clear p1
          try clear q1
          try clear hx1
          try clear c2
          try clear c2b0
          try clear p2
          try clear c4
          try clear c4b0
          try clear c6
          try clear c7
          try clear hx158_0
          try clear hx160_0
          try clear p158
          try clear p160
          try clear q158
          try clear q160
          obtain ⟨kq, x28_2, rfl, HA, HJ2, HO_4, HB⟩ := hcut
          cases kq with
          | zero => exact absurd HA.out (by simp [chalklineref14_Norm.j1])
          | succ kj2 =>
            have H := HA.out
            clear HA
            simp only [chalklineref14_Norm.j1] at H
            by_cases c9 : x28_2 = true
            · subst c9
              have H1 : (chalklineref14_Norm.l0 kj2 l0 x4_1 x5_1 (wrap64 (x6_1 + 1))) = some (r1, r2) := by rw [if_pos rfl] at H; exact H
              clear H
              have H := H1
              clear H1
              have H' := Aside0.mk H
              clear H
              go_wp2
              go_roundg kj2
              case measure => have := HK1.out; have := HJ2.out; omega
              case rel => exact ⟨(x4_1), (x5_1), (wrap64 (x6_1 + 1)), (by first | rfl | (simp; done) | (simp [*]; done)), (by first | rfl | (simp; done) | (simp [*]; done)), H', ⟨by have := HK1.out; have := HJ2.out; omega⟩, ⟨by (with_reducible repeat (first | apply Kd.R_alloc | apply Kd.R_drewN | apply Kd.R_drew)); exact HO_4.out⟩, ⟨by repeat (first | (with_reducible first | exact HB.out | apply below_alloc | apply pw_below_drewN | apply below_drew1) | exact HB.out)⟩⟩
            · replace c9 := Bool.eq_false_iff.mpr c9
              subst c9
              have H1 : (if x5_1 = true then (chalklineref14_Norm.j2 kj2 l0 x4_1 true x6_1) else (if 0 ≤ x6_1 then (if x6_1 < (l0.length : Int) then ((chalklineref14_Has.f kj2 x4_1 (wrap64 (-(rd l0 x6_1)))).bind fun t163 => (chalklineref14_Norm.j2 kj2 l0 x4_1 t163 x6_1)) else (none)) else (none))) = some (r1, r2) := by rw [if_neg (show ¬ (false = true) by decide)] at H; exact H
              clear H
              have H := H1
              clear H1
              have HC10 := Aside0.mk H
              clear H
              go_upto_region 7 with (fail)
              go_cut [5] (fun v5 wc => ∃ (kq : Nat) (x5_9 : Bool), v5 = .bool x5_9 ∧ Aside0 (chalklineref14_Norm.j2 kq l0 x4_1 x5_9 x6_1 = some (r1, r2)) ∧ Aside0 (kq ≤ kj2) ∧ Aside0 (Kd.R (Kd.int .i64) 3 wc w.heap.size (fun _ => True) u4 x4_1) ∧ Aside0 (Below w.heap.size w wc))
              case first =>
                have H := HC10.out
                clear HC10
                by_cases c11 : x5_1 = true
                · subst c11
                  have H1 : (chalklineref14_Norm.j2 kj2 l0 x4_1 true x6_1) = some (r1, r2) := by rw [if_pos rfl] at H; exact H
                  clear H
                  have H := H1
                  clear H1
                  have H' := Aside0.mk H
                  clear H
                  go_wp2
                  go_meet
                  case rel => exact ⟨_, (true), (by first | rfl | (simp; done) | (simp [*]; done)), H', ⟨by have := HK1.out; have := HJ2.out; first | omega | exact Nat.le_refl _⟩, ⟨by (with_reducible repeat (first | apply Kd.R_alloc | apply Kd.R_drewN | apply Kd.R_drew)); exact HO_4.out⟩, ⟨by repeat (first | (with_reducible first | exact HB.out | apply below_alloc | apply pw_below_drewN | apply below_drew1) | exact HB.out)⟩⟩
                · replace c11 := Bool.eq_false_iff.mpr c11
                  subst c11
                  have H1 : (if 0 ≤ x6_1 then (if x6_1 < (l0.length : Int) then ((chalklineref14_Has.f kj2 x4_1 (wrap64 (-(rd l0 x6_1)))).bind fun t163 => (chalklineref14_Norm.j2 kj2 l0 x4_1 t163 x6_1)) else (none)) else (none)) = some (r1, r2) := by rw [if_neg (show ¬ (false = true) by decide)] at H; exact H
                  clear H
                  have H := H1
                  clear H1
                  by_cases c12 : 0 ≤ x6_1
                  · rw [if_pos c12] at H
                    have c12b0 : decide (0 ≤ x6_1) = true := decide_eq_true c12
                    clear c12
                    (first | rw [c12b0] | (simp only [i64_w, i32_w]; rw [c12b0]) | skip)
                    by_cases c13 : x6_1 < (l0.length : Int)
                    · rw [if_pos c13] at H
                      have c13b0 : decide (x6_1 < (l0.length : Int)) = true := decide_eq_true c13
                      clear c13
                      replace H := Option.bind_eq_some_iff.mp H
                      obtain ⟨t163, A140, H⟩ := H
                      replace H : (chalklineref14_Norm.j2 kj2 l0 x4_1 t163 x6_1) = some (r1, r2) := H
                      have A14 := Aside0.mk A140
                      clear A140
                      have H' := Aside0.mk H
                      clear H
                      have p162 : 0 ≤ (x6_1 : Int) := of_decide_eq_true (by first | (with_reducible assumption) | assumption)
                      have q162 : x6_1 < (l0.length : Int) := of_decide_eq_true (by first | (with_reducible assumption) | assumption)
                      obtain ⟨ad162, e162, hx162_0⟩ := Kd.at_int HR0.out x6_1 p162 q162
                      cases e162
                      replace hx162_0 := (HB.out.cell (World.block_lt_of_cell? w _ hx162_0)).trans hx162_0
                      replace p162 := eq_true p162
                      replace q162 := eq_true q162
                      obtain ⟨Ao15, co15, eo15⟩ := Kd.R_slice HO_4.out
                      subst eo15
                      go_wp2_with (first | (go_at_call 42; (with_reducible refine (chalklineref14_Has.calls kj2 _ _ x4_1 (wrap64 (-(rd l0 x6_1))) t163 _ ?side1 ?side2 A14.out).mono ?_); (case side1 => repeat (first | exact (Kd.R_reads' HO_4.out).2.2 | (with_reducible refine Kd.C_alloc ?_ _) | (with_reducible refine Kd.C_drewN ?_ _) | (with_reducible refine Kd.C_drew ?_))); (case side2 => exact (Kd.R_reads' HO_4.out).2.1); rintro e w' ⟨rfl, ⟨nd, rfl⟩⟩))
                      go_meet
                      case rel => exact ⟨_, (t163), (by first | rfl | (simp; done) | (simp [*]; done)), H', ⟨by have := HK1.out; have := HJ2.out; first | omega | exact Nat.le_refl _⟩, ⟨by (with_reducible repeat (first | apply Kd.R_alloc | apply Kd.R_drewN | apply Kd.R_drew)); exact HO_4.out⟩, ⟨by repeat (first | (with_reducible first | exact HB.out | apply below_alloc | apply pw_below_drewN | apply below_drew1) | exact HB.out)⟩⟩
                    · rw [if_neg c13] at H
                      exact absurd H (by simp)
                  · rw [if_neg c12] at H
                    exact absurd H (by simp)
              case rest =>
                clear HC10
                try clear c1
                try clear p1
                try clear q1
                try clear hx1
                try clear c2
                try clear c2b0
                try clear p2
                try clear c4
                try clear c4b0
                try clear c6
                try clear p6
                try clear c7
                try clear c9
                try clear c11
                try clear c12
                try clear c12b0
                try clear c13
                try clear c13b0
                try clear p15
                try clear q15
                try clear hx15
                try clear hx158_0
                try clear hx160_0
                try clear hx162_0
                try clear p1
                try clear p158
                try clear p160
                try clear p162
                try clear p2
                try clear q1
                try clear q158
                try clear q160
                try clear q162
                obtain ⟨kq, x5_9, rfl, HA, HJ9, HO_4, HB⟩ := hcut
                cases kq with
                | zero => exact absurd HA.out (by simp [chalklineref14_Norm.j2])
                | succ kj9 =>
                  have H := HA.out
                  clear HA
                  simp only [chalklineref14_Norm.j2] at H
                  have H' := Aside0.mk H
                  clear H
                  go_wp2
                  go_loopg [7] kj9 (fun kq v7 w' => ∃ (x7_4 : Int), v7 = .int .i64 x7_4 ∧ Aside0 (chalklineref14_Norm.l1 kq l0 x4_1 x5_9 x6_1 x7_4 = some (r1, r2)) ∧ Aside0 (kq ≤ kj9) ∧ Aside0 (Kd.R (Kd.int .i64) 3 w' w.heap.size (fun _ => True) u4 x4_1) ∧ Aside0 (Below w.heap.size w w'))
                  case atStart => exact ⟨(0), (by first | rfl | (simp; done) | (simp [*]; done)), H', ⟨Nat.le_refl _⟩, ⟨by (with_reducible repeat (first | apply Kd.R_alloc | apply Kd.R_drewN | apply Kd.R_drew)); exact HO_4.out⟩, ⟨by repeat (first | (with_reducible first | exact HB.out | apply below_alloc | apply pw_below_drewN | apply below_drew1) | exact HB.out)⟩⟩
                  case round =>
                    clear H'
                    try clear c1
                    try clear p1
                    try clear q1
                    try clear hx1
                    try clear c2
                    try clear c2b0
                    try clear p2
                    try clear c4
                    try clear c4b0
                    try clear c6
                    try clear p6
                    try clear c7
                    try clear c9
                    try clear c11
                    try clear c12
                    try clear c12b0
                    try clear c13
                    try clear c13b0
                    try clear p15
                    try clear q15
                    try clear hx15
                    try clear hx158_0
                    try clear hx160_0
                    try clear hx162_0
                    try clear p1
                    try clear p15
                    try clear p158
                    try clear p160
                    try clear p162
                    try clear p2
                    try clear p6
                    try clear q1
                    try clear q15
                    try clear q158
                    try clear q160
                    try clear q162
                    obtain ⟨x7_4, rfl, HA, HK4, HO_4, HB⟩ := hrel
                    cases gk with
                    | zero => exact absurd HA.out (by simp [chalklineref14_Norm.l1])
                    | succ k4 =>
                      have H := HA.out
                      clear HA
                      simp only [chalklineref14_Norm.l1] at H
                      by_cases c16 : x7_4 < (x4_1.length : Int)
                      · rw [if_pos c16] at H
                        have c16b0 : decide (x7_4 < (x4_1.length : Int)) = true := decide_eq_true c16
                        clear c16
                        by_cases c17 : 0 ≤ x7_4
                        · rw [if_pos c17] at H
                          have c17b0 : decide (0 ≤ x7_4) = true := decide_eq_true c17
                          clear c17
                          by_cases c18 : 0 ≤ x6_1
                          · rw [if_pos c18] at H
                            have c18b0 : decide (0 ≤ x6_1) = true := decide_eq_true c18
                            clear c18
                            by_cases c19 : x6_1 < (l0.length : Int)
                            · rw [if_pos c19] at H
                              have c19b0 : decide (x6_1 < (l0.length : Int)) = true := decide_eq_true c19
                              clear c19
                              replace H := Option.bind_eq_some_iff.mp H
                              obtain ⟨t166, A200, H⟩ := H
                              replace H : (if t166 = true then (chalklineref14_Norm.l1 k4 l0 x4_1 x5_9 x6_1 (wrap64 (x7_4 + 1))) else (if x7_4 ≤ (x4_1.length : Int) then ((some (x4_1.take (x7_4 : Int).toNat : List Int)).bind fun y167 => (if ([] : List Int).length + y167.length < 17592186044416 then ((some (([] : List Int) ++ y167 : List Int)).bind fun y171 => (if y171.length < 17592186044416 then ((some (y171 ++ [rd l0 x6_1] : List Int)).bind fun y175 => ((some (x4_1.drop (x7_4 : Int).toNat : List Int)).bind fun y178 => (if y175.length + y178.length < 17592186044416 then (chalklineref14_Norm.l0 k4 l0 (y175 ++ y178) x5_9 (wrap64 (x6_1 + 1))) else (none)))) else (none))) else (none))) else (none))) = some (r1, r2) := H
                              have A20 := Aside0.mk A200
                              clear A200
                              by_cases c21 : t166 = true
                              · subst c21
                                have H1 : (chalklineref14_Norm.l1 k4 l0 x4_1 x5_9 x6_1 (wrap64 (x7_4 + 1))) = some (r1, r2) := by rw [if_pos rfl] at H; exact H
                                clear H
                                have H := H1
                                clear H1
                                have H' := Aside0.mk H
                                clear H
                                try go_wp2
                                have n0_ := Aside0.mk (Kd.R_drew HO_4.out)
                                have n1_ := Aside0.mk (below_drew1 HB.out)
                                clear HO_4
                                clear HB
                                have HO_4 := n0_
                                have HB := n1_
                                clear n0_ n1_
                                obtain ⟨Ao23, co23, eo23⟩ := Kd.R_slice HO_4.out
                                (first | subst eo23 | (injection eo23 with f1_ f2_ f3_; have f4_ := f1_.symm; have f5_ := f3_.symm; clear f1_ f2_ f3_; subst f4_; subst f5_))
                                have p164 : 0 ≤ (x7_4 : Int) := of_decide_eq_true (by first | (with_reducible assumption) | assumption)
                                have q164 : x7_4 < (x4_1.length : Int) := of_decide_eq_true (by first | (with_reducible assumption) | assumption)
                                obtain ⟨ad164, e164, hx164_0⟩ := Kd.at_int (Kd.R_reads' HO_4.out).2.2 x7_4 p164 q164
                                cases e164
                                replace p164 := eq_true p164
                                replace q164 := eq_true q164
                                have p165 : 0 ≤ (x6_1 : Int) := of_decide_eq_true (by first | (with_reducible assumption) | assumption)
                                have q165 : x6_1 < (l0.length : Int) := of_decide_eq_true (by first | (with_reducible assumption) | assumption)
                                obtain ⟨ad165, e165, hx165_0⟩ := Kd.at_int HR0.out x6_1 p165 q165
                                have hw165_0 := hx165_0
                                cases e165
                                replace hx165_0 := (HB.out.cell (World.block_lt_of_cell? w _ hx165_0)).trans hx165_0
                                replace p165 := eq_true p165
                                replace q165 := eq_true q165
                                refine start_ (n := 15) (S := fun w' => w'.cell? (ad164.add (x7_4).toNat) = some (.int .i64 (rd x4_1 x7_4)) ∧ w'.cell? (ad165.add (x6_1).toNat) = some (.int .i64 (rd l0 x6_1))) (ds := []) #[false, false, false, false, false, false, false, false, false, false, false, false, false, false, false] (by kernel_rfl) rfl rfl ⟨hx164_0, ((HB.out.cell (World.block_lt_of_cell? w _ hw165_0)).trans hw165_0)⟩ (fun hHeld => ?_); refine with_tabW chalklineref14_Norm.tab9 chalklineref14_Norm.bits9 (fun HT_ HW_ => ?_)
                                generalize wr.drew = w22 at HO_4 HB hx164_0 hx165_0 hHeld ⊢
                                refine pure_ (i := 0) (N := some 39) (v := ?_) (a' := ?_) #[true, false, false, false, false, false, false, false, false, false, false, false, false, false, false] rfl rfl (any_of HT_.out (by kernel_rfl)) (fun _ _ _ h => h) (Or.inl ⟨by rfl, ?_⟩) ?_ ?_
                                rotate_left
                                · intro w'
                                  go_simp
                                  with_reducible rfl
                                rotate_left
                                · simp only [Act.put, List.setIfInBounds_toArray, List.set_cons_zero, List.set_cons_succ, i64_w, i32_w]
                                  rfl
                                refine pure_ (i := 1) (N := some 40) (v := ?_) (a' := ?_) #[true, true, false, false, false, false, false, false, false, false, false, false, false, false, false] rfl rfl (any_of HT_.out (by kernel_rfl)) (fun _ _ _ h => h) (Or.inl ⟨by rfl, ?_⟩) ?_ ?_
                                rotate_left
                                · intro w'
                                  go_simp
                                  with_reducible rfl
                                rotate_left
                                · simp only [Act.put, List.setIfInBounds_toArray, List.set_cons_zero, List.set_cons_succ, i64_w, i32_w]
                                  rfl
                                refine pure_ (i := 2) (N := some 41) (v := ?_) (a' := ?_) #[true, true, true, false, false, false, false, false, false, false, false, false, false, false, false] rfl rfl (any_of HT_.out (by kernel_rfl)) (fun _ _ _ h => h) (Or.inl ⟨by rfl, ?_⟩) ?_ ?_
                                rotate_left
                                · intro w'
                                  go_simp
                                  with_reducible rfl
                                rotate_left
                                · simp only [Act.put, List.setIfInBounds_toArray, List.set_cons_zero, List.set_cons_succ, i64_w, i32_w]
                                  rfl
                                refine pure_ (i := 3) (N := some 42) (v := ?_) (a' := ?_) #[true, true, true, true, false, false, false, false, false, false, false, false, false, false, false] rfl rfl (any_of HT_.out (by kernel_rfl)) (fun _ _ _ h => h) (Or.inl ⟨by rfl, ?_⟩) ?_ ?_
                                rotate_left
                                · intro w'
                                  go_simp
                                  with_reducible rfl
                                rotate_left
                                · simp only [Act.put, List.setIfInBounds_toArray, List.set_cons_zero, List.set_cons_succ, i64_w, i32_w]
                                  rfl
                                refine pure_ (i := 4) (N := some 43) (v := ?_) (a' := ?_) #[true, true, true, true, true, false, false, false, false, false, false, false, false, false, false] rfl rfl (any_of HT_.out (by kernel_rfl)) (fun _ _ _ h => h) (Or.inl ⟨by rfl, ?_⟩) ?_ ?_
                                rotate_left
                                · intro w'
                                  go_simp
                                  with_reducible rfl
                                rotate_left
                                · simp only [Act.put, List.setIfInBounds_toArray, List.set_cons_zero, List.set_cons_succ, i64_w, i32_w]
                                  rfl
                                refine pure_ (i := 5) (N := some 44) (v := ?_) (a' := ?_) #[true, true, true, true, true, true, false, false, false, false, false, false, false, false, false] rfl rfl (any_of HT_.out (by kernel_rfl)) (fun _ _ _ h => h) (Or.inl ⟨by rfl, ?_⟩) ?_ ?_
                                rotate_left
                                · intro w'
                                  go_simp
                                  with_reducible rfl
                                rotate_left
                                · simp only [Act.put, List.setIfInBounds_toArray, List.set_cons_zero, List.set_cons_succ, i64_w, i32_w]
                                  rfl
                                refine pure_ (i := 6) (N := some 45) (v := ?_) (a' := ?_) #[true, true, true, true, true, true, true, false, false, false, false, false, false, false, false] rfl rfl (any_of HT_.out (by kernel_rfl)) (fun _ _ _ h => h) (Or.inl ⟨by rfl, ?_⟩) ?_ ?_
                                rotate_left
                                · intro w'
                                  go_simp
                                  with_reducible rfl
                                rotate_left
                                · simp only [Act.put, List.setIfInBounds_toArray, List.set_cons_zero, List.set_cons_succ, i64_w, i32_w]
                                  rfl
                                refine pure_ (i := 7) (N := some 46) (v := ?_) (a' := ?_) #[true, true, true, true, true, true, true, true, false, false, false, false, false, false, false] rfl rfl (any_of HT_.out (by kernel_rfl)) (fun _ _ _ h => h) (Or.inl ⟨by rfl, ?_⟩) ?_ ?_
                                rotate_left
                                · intro w'
                                  go_simp
                                  with_reducible rfl
                                rotate_left
                                · simp only [Act.put, List.setIfInBounds_toArray, List.set_cons_zero, List.set_cons_succ, i64_w, i32_w]
                                  rfl
                                refine pure_ (i := 9) (N := some 48) (v := ?_) (a' := ?_) #[true, true, true, true, true, true, true, true, false, true, false, false, false, false, false] rfl rfl (any_of HT_.out (by kernel_rfl)) (fun _ _ _ h => h) (Or.inl ⟨by rfl, ?_⟩) ?_ ?_
                                rotate_left
                                · intro w'
                                  go_simp
                                  with_reducible rfl
                                rotate_left
                                · simp only [Act.put, List.setIfInBounds_toArray, List.set_cons_zero, List.set_cons_succ, i64_w, i32_w]
                                  rfl
                                refine pure_ (i := 10) (N := some 49) (v := ?_) (a' := ?_) #[true, true, true, true, true, true, true, true, false, true, true, false, false, false, false] rfl rfl (any_of HT_.out (by kernel_rfl)) (fun _ _ _ h => h) (Or.inl ⟨by rfl, ?_⟩) ?_ ?_
                                rotate_left
                                · intro w'
                                  go_simp
                                  with_reducible rfl
                                rotate_left
                                · simp only [Act.put, List.setIfInBounds_toArray, List.set_cons_zero, List.set_cons_succ, i64_w, i32_w]
                                  rfl
                                refine pure_ (i := 11) (N := some 50) (v := ?_) (a' := ?_) #[true, true, true, true, true, true, true, true, false, true, true, true, false, false, false] rfl rfl (any_of HT_.out (by kernel_rfl)) (fun _ _ _ h => h) (Or.inl ⟨by rfl, ?_⟩) ?_ ?_
                                rotate_left
                                · intro w'
                                  go_simp
                                  with_reducible rfl
                                rotate_left
                                · simp only [Act.put, List.setIfInBounds_toArray, List.set_cons_zero, List.set_cons_succ, i64_w, i32_w]
                                  rfl
                                refine take_ (i := 8) (N := some 47) (v := ?_) (a' := ?_) #[true, true, true, true, true, true, true, true, true, true, true, true, false, false, false] rfl rfl (take_ofW HT_.out HW_.out (by kernel_rfl)) (fun _ _ _ h => h) (Or.inl ⟨by rfl, ?_⟩) hHeld ?_ ?_
                                rotate_left
                                · rintro w' ⟨s0, s1⟩
                                  go_simp
                                  with_reducible rfl
                                rotate_left
                                · simp only [Act.put, List.setIfInBounds_toArray, List.set_cons_zero, List.set_cons_succ, i64_w, i32_w]
                                  rfl
                                refine take_ (i := 12) (N := some 51) (v := ?_) (a' := ?_) #[true, true, true, true, true, true, true, true, true, true, true, true, true, false, false] rfl rfl (take_ofW HT_.out HW_.out (by kernel_rfl)) (fun _ _ _ h => h) (Or.inl ⟨by rfl, ?_⟩) hHeld ?_ ?_
                                rotate_left
                                · rintro w' ⟨s0, s1⟩
                                  go_simp
                                  with_reducible rfl
                                rotate_left
                                · simp only [Act.put, List.setIfInBounds_toArray, List.set_cons_zero, List.set_cons_succ, i64_w, i32_w]
                                  rfl
                                refine one_ (i := 13) (N := some 52) #[true, true, true, true, true, true, true, true, true, true, true, true, true, true, false] rfl rfl (one_of HT_.out (by kernel_rfl)) (by decide) (fun K hK => ?_)
                                refine goes_ Tryz.func72 (by kernel_rfl) rfl #[.int .i64 (rd x4_1 x7_4), .int .i64 (rd l0 x6_1)] (by rfl) rfl rfl (by (try simp only [List.map_toArray, List.map_cons, List.map_nil]); first | done | rfl | (simp only [List.length_drop, List.length_take]; rfl)) ?_
                                with_reducible refine (chalklineref14_ahead.calls (rd x4_1 x7_4) (rd l0 x6_1) true _ A20.out).mono ?_
                                rintro e w24 ⟨rfl, hb⟩
                                have HS0_ := (hb.cell (World.block_lt_of_cell? _ _ (hHeld.1))).trans (hHeld.1)
                                refine ⟨_, rfl, ?_⟩
                                have n0_ := Aside0.mk (Kd.R_below (by (with_reducible repeat (first | apply Kd.R_alloc | apply Kd.R_drewN | apply Kd.R_drew)); exact HO_4.out) hb)
                                have n1_ := Aside0.mk (below_step (by repeat (first | (with_reducible first | exact HB.out | apply below_alloc | apply pw_below_drewN | apply below_drew1) | exact HB.out)) hb)
                                clear HO_4
                                clear HB
                                have HO_4 := n0_
                                have HB := n1_
                                clear n0_ n1_
                                (try clear hb)
                                (try clear hb2)
                                (try clear hk)
                                (try clear hi)
                                refine hK.out _ _ ⟨HS0_, ((HB.out.cell (World.block_lt_of_cell? w _ hw165_0)).trans hw165_0)⟩ (fun hHeld => ?_)
                                clear hK K
                                refine norm_ (a' := ?_) ?_ ?_
                                rotate_left
                                · show Act.put _ (some 52) _ = _
                                  simp only [Act.put, List.setIfInBounds_toArray, List.set_cons_zero, List.set_cons_succ, i64_w, i32_w]
                                  rfl
                                refine pure_ (i := 14) (N := some 53) (v := ?_) (a' := ?_) #[true, true, true, true, true, true, true, true, true, true, true, true, true, true, true] rfl rfl (any_of HT_.out (by kernel_rfl)) (fun _ _ _ h => h) (Or.inl ⟨by rfl, ?_⟩) ?_ ?_
                                rotate_left
                                · intro w'
                                  go_simp
                                  with_reducible rfl
                                rotate_left
                                · simp only [Act.put, List.setIfInBounds_toArray, List.set_cons_zero, List.set_cons_succ, i64_w, i32_w]
                                  rfl
                                refine done_ (done_of HT_.out (by kernel_rfl)) ?_
                                try go_wp2
                                go_roundg k4
                                case measure => have := HK1.out; have := HJ2.out; have := HJ9.out; have := HK4.out; omega
                                case rel => exact ⟨(wrap64 (x7_4 + 1)), (by first | rfl | (simp; done) | (simp [*]; done)), H', ⟨by have := HK1.out; have := HJ2.out; have := HJ9.out; have := HK4.out; omega⟩, ⟨by (with_reducible repeat (first | apply Kd.R_alloc | apply Kd.R_drewN | apply Kd.R_drew)); exact HO_4.out⟩, ⟨by repeat (first | (with_reducible first | exact HB.out | apply below_alloc | apply pw_below_drewN | apply below_drew1) | exact HB.out)⟩⟩
                              · replace c21 := Bool.eq_false_iff.mpr c21
                                subst c21
                                have H1 : (if x7_4 ≤ (x4_1.length : Int) then ((some (x4_1.take (x7_4 : Int).toNat : List Int)).bind fun y167 => (if ([] : List Int).length + y167.length < 17592186044416 then ((some (([] : List Int) ++ y167 : List Int)).bind fun y171 => (if y171.length < 17592186044416 then ((some (y171 ++ [rd l0 x6_1] : List Int)).bind fun y175 => ((some (x4_1.drop (x7_4 : Int).toNat : List Int)).bind fun y178 => (if y175.length + y178.length < 17592186044416 then (chalklineref14_Norm.l0 k4 l0 (y175 ++ y178) x5_9 (wrap64 (x6_1 + 1))) else (none)))) else (none))) else (none))) else (none)) = some (r1, r2) := by rw [if_neg (show ¬ (false = true) by decide)] at H; exact H
                                clear H
                                have H := H1
                                clear H1
                                have c25b0 := eq_true (of_decide_eq_true (by first | (with_reducible assumption) | assumption) : 0 ≤ x7_4)
                                by_cases c26 : x7_4 ≤ (x4_1.length : Int)
                                · rw [if_pos c26] at H
                                  have c26b0 := eq_true c26
                                  have c26b1 : decide (x7_4 ≤ (x4_1.length : Int)) = true := decide_eq_true c26
                                  clear c26
                                  obtain ⟨y167, hy167⟩ : ∃ y_ : List Int, y_ = (x4_1.take (x7_4 : Int).toNat) := ⟨_, rfl⟩
                                  replace H : (if ([] : List Int).length + y167.length < 17592186044416 then ((some (([] : List Int) ++ y167 : List Int)).bind fun y171 => (if y171.length < 17592186044416 then ((some (y171 ++ [rd l0 x6_1] : List Int)).bind fun y175 => ((some (x4_1.drop (x7_4 : Int).toNat : List Int)).bind fun y178 => (if y175.length + y178.length < 17592186044416 then (chalklineref14_Norm.l0 k4 l0 (y175 ++ y178) x5_9 (wrap64 (x6_1 + 1))) else (none)))) else (none))) else (none)) = some (r1, r2) := by first | (rw [hy167]; with_reducible exact H) | (have H2_ := (Option.bind_some _ _).symm.trans H; rw [hy167]; with_reducible exact H2_) | (have H2_ := (Option.bind_some _ _).symm.trans H; with_reducible exact H2_) | with_reducible exact H | (rw [hy167]; exact H) | exact H
                                  have Ny167 := Aside0.mk hy167
                                  clear hy167
                                  by_cases c27 : ([] : List Int).length + y167.length < 17592186044416
                                  · rw [if_pos c27] at H
                                    have LMc27 := Aside0.mk c27
                                    clear c27
                                    obtain ⟨y171, hy171⟩ : ∃ y_ : List Int, y_ = (([] : List Int) ++ y167) := ⟨_, rfl⟩
                                    replace H : (if y171.length < 17592186044416 then ((some (y171 ++ [rd l0 x6_1] : List Int)).bind fun y175 => ((some (x4_1.drop (x7_4 : Int).toNat : List Int)).bind fun y178 => (if y175.length + y178.length < 17592186044416 then (chalklineref14_Norm.l0 k4 l0 (y175 ++ y178) x5_9 (wrap64 (x6_1 + 1))) else (none)))) else (none)) = some (r1, r2) := by first | (rw [hy171]; with_reducible exact H) | (have H2_ := (Option.bind_some _ _).symm.trans H; rw [hy171]; with_reducible exact H2_) | (have H2_ := (Option.bind_some _ _).symm.trans H; with_reducible exact H2_) | with_reducible exact H | (rw [hy171]; exact H) | exact H
                                    have Ny171 := Aside0.mk hy171
                                    clear hy171
                                    by_cases c28 : y171.length < 17592186044416
                                    · rw [if_pos c28] at H
                                      have LMc28 := Aside0.mk c28
                                      clear c28
                                      obtain ⟨y175, hy175⟩ : ∃ y_ : List Int, y_ = (y171 ++ [rd l0 x6_1]) := ⟨_, rfl⟩
                                      replace H : ((some (x4_1.drop (x7_4 : Int).toNat : List Int)).bind fun y178 => (if y175.length + y178.length < 17592186044416 then (chalklineref14_Norm.l0 k4 l0 (y175 ++ y178) x5_9 (wrap64 (x6_1 + 1))) else (none))) = some (r1, r2) := by first | (rw [hy175]; with_reducible exact H) | (have H2_ := (Option.bind_some _ _).symm.trans H; rw [hy175]; with_reducible exact H2_) | (have H2_ := (Option.bind_some _ _).symm.trans H; with_reducible exact H2_) | with_reducible exact H | (rw [hy175]; exact H) | exact H
                                      have Ny175 := Aside0.mk hy175
                                      clear hy175
                                      have c29b0 := eq_true (of_decide_eq_true (by first | (with_reducible assumption) | assumption) : 0 ≤ x7_4)
                                      have c30b0 := eq_true (of_decide_eq_true (by first | (with_reducible assumption) | assumption) : x7_4 ≤ (x4_1.length : Int))
                                      obtain ⟨y178, hy178⟩ : ∃ y_ : List Int, y_ = (x4_1.drop (x7_4 : Int).toNat) := ⟨_, rfl⟩
                                      replace H : (if y175.length + y178.length < 17592186044416 then (chalklineref14_Norm.l0 k4 l0 (y175 ++ y178) x5_9 (wrap64 (x6_1 + 1))) else (none)) = some (r1, r2) := by first | (rw [hy178]; with_reducible exact H) | (have H2_ := (Option.bind_some _ _).symm.trans H; rw [hy178]; with_reducible exact H2_) | (have H2_ := (Option.bind_some _ _).symm.trans H; with_reducible exact H2_) | with_reducible exact H | (rw [hy178]; exact H) | exact H
                                      have Ny178 := Aside0.mk hy178
                                      clear hy178
                                      by_cases c31 : y175.length + y178.length < 17592186044416
                                      · rw [if_pos c31] at H
                                        have LMc31 := Aside0.mk c31
                                        clear c31
                                        obtain ⟨y182, hy182⟩ : ∃ y_ : List Int, y_ = (y175 ++ y178) := ⟨_, rfl⟩
                                        replace H : (chalklineref14_Norm.l0 k4 l0 y182 x5_9 (wrap64 (x6_1 + 1))) = some (r1, r2) := by first | (rw [hy182]; with_reducible exact H) | (have H2_ := (Option.bind_some _ _).symm.trans H; rw [hy182]; with_reducible exact H2_) | (have H2_ := (Option.bind_some _ _).symm.trans H; with_reducible exact H2_) | with_reducible exact H | (rw [hy182]; exact H) | exact H
                                        have Ny182 := Aside0.mk hy182
                                        clear hy182
                                        have H' := Aside0.mk H
                                        clear H
                                        try go_wp2
                                        have n0_ := Aside0.mk (Kd.R_drew HO_4.out)
                                        have n1_ := Aside0.mk (below_drew1 HB.out)
                                        clear HO_4
                                        clear HB
                                        have HO_4 := n0_
                                        have HB := n1_
                                        clear n0_ n1_
                                        obtain ⟨Ao33, co33, eo33⟩ := Kd.R_slice HO_4.out
                                        (first | subst eo33 | (injection eo33 with f1_ f2_ f3_; have f4_ := f1_.symm; have f5_ := f3_.symm; clear f1_ f2_ f3_; subst f4_; subst f5_))
                                        have p164 : 0 ≤ (x7_4 : Int) := of_decide_eq_true (by first | (with_reducible assumption) | assumption)
                                        have q164 : x7_4 < (x4_1.length : Int) := of_decide_eq_true (by first | (with_reducible assumption) | assumption)
                                        obtain ⟨ad164, e164, hx164_0⟩ := Kd.at_int (Kd.R_reads' HO_4.out).2.2 x7_4 p164 q164
                                        cases e164
                                        replace p164 := eq_true p164
                                        replace q164 := eq_true q164
                                        have p165 : 0 ≤ (x6_1 : Int) := of_decide_eq_true (by first | (with_reducible assumption) | assumption)
                                        have q165 : x6_1 < (l0.length : Int) := of_decide_eq_true (by first | (with_reducible assumption) | assumption)
                                        obtain ⟨ad165, e165, hx165_0⟩ := Kd.at_int HR0.out x6_1 p165 q165
                                        have hw165_0 := hx165_0
                                        cases e165
                                        replace hx165_0 := (HB.out.cell (World.block_lt_of_cell? w _ hx165_0)).trans hx165_0
                                        replace p165 := eq_true p165
                                        replace q165 := eq_true q165
                                        refine start_ (n := 15) (S := fun w' => w'.cell? (ad164.add (x7_4).toNat) = some (.int .i64 (rd x4_1 x7_4)) ∧ w'.cell? (ad165.add (x6_1).toNat) = some (.int .i64 (rd l0 x6_1))) (ds := []) #[false, false, false, false, false, false, false, false, false, false, false, false, false, false, false] (by kernel_rfl) rfl rfl ⟨hx164_0, ((HB.out.cell (World.block_lt_of_cell? w _ hw165_0)).trans hw165_0)⟩ (fun hHeld => ?_); refine with_tabW chalklineref14_Norm.tab9 chalklineref14_Norm.bits9 (fun HT_ HW_ => ?_)
                                        generalize wr.drew = w32 at HO_4 HB hx164_0 hx165_0 hHeld ⊢
                                        refine pure_ (i := 0) (N := some 39) (v := ?_) (a' := ?_) #[true, false, false, false, false, false, false, false, false, false, false, false, false, false, false] rfl rfl (any_of HT_.out (by kernel_rfl)) (fun _ _ _ h => h) (Or.inl ⟨by rfl, ?_⟩) ?_ ?_
                                        rotate_left
                                        · intro w'
                                          go_simp
                                          with_reducible rfl
                                        rotate_left
                                        · simp only [Act.put, List.setIfInBounds_toArray, List.set_cons_zero, List.set_cons_succ, i64_w, i32_w]
                                          rfl
                                        refine pure_ (i := 1) (N := some 40) (v := ?_) (a' := ?_) #[true, true, false, false, false, false, false, false, false, false, false, false, false, false, false] rfl rfl (any_of HT_.out (by kernel_rfl)) (fun _ _ _ h => h) (Or.inl ⟨by rfl, ?_⟩) ?_ ?_
                                        rotate_left
                                        · intro w'
                                          go_simp
                                          with_reducible rfl
                                        rotate_left
                                        · simp only [Act.put, List.setIfInBounds_toArray, List.set_cons_zero, List.set_cons_succ, i64_w, i32_w]
                                          rfl
                                        refine pure_ (i := 2) (N := some 41) (v := ?_) (a' := ?_) #[true, true, true, false, false, false, false, false, false, false, false, false, false, false, false] rfl rfl (any_of HT_.out (by kernel_rfl)) (fun _ _ _ h => h) (Or.inl ⟨by rfl, ?_⟩) ?_ ?_
                                        rotate_left
                                        · intro w'
                                          go_simp
                                          with_reducible rfl
                                        rotate_left
                                        · simp only [Act.put, List.setIfInBounds_toArray, List.set_cons_zero, List.set_cons_succ, i64_w, i32_w]
                                          rfl
                                        refine pure_ (i := 3) (N := some 42) (v := ?_) (a' := ?_) #[true, true, true, true, false, false, false, false, false, false, false, false, false, false, false] rfl rfl (any_of HT_.out (by kernel_rfl)) (fun _ _ _ h => h) (Or.inl ⟨by rfl, ?_⟩) ?_ ?_
                                        rotate_left
                                        · intro w'
                                          go_simp
                                          with_reducible rfl
                                        rotate_left
                                        · simp only [Act.put, List.setIfInBounds_toArray, List.set_cons_zero, List.set_cons_succ, i64_w, i32_w]
                                          rfl
                                        refine pure_ (i := 4) (N := some 43) (v := ?_) (a' := ?_) #[true, true, true, true, true, false, false, false, false, false, false, false, false, false, false] rfl rfl (any_of HT_.out (by kernel_rfl)) (fun _ _ _ h => h) (Or.inl ⟨by rfl, ?_⟩) ?_ ?_
                                        rotate_left
                                        · intro w'
                                          go_simp
                                          with_reducible rfl
                                        rotate_left
                                        · simp only [Act.put, List.setIfInBounds_toArray, List.set_cons_zero, List.set_cons_succ, i64_w, i32_w]
                                          rfl
                                        refine pure_ (i := 5) (N := some 44) (v := ?_) (a' := ?_) #[true, true, true, true, true, true, false, false, false, false, false, false, false, false, false] rfl rfl (any_of HT_.out (by kernel_rfl)) (fun _ _ _ h => h) (Or.inl ⟨by rfl, ?_⟩) ?_ ?_
                                        rotate_left
                                        · intro w'
                                          go_simp
                                          with_reducible rfl
                                        rotate_left
                                        · simp only [Act.put, List.setIfInBounds_toArray, List.set_cons_zero, List.set_cons_succ, i64_w, i32_w]
                                          rfl
                                        refine pure_ (i := 6) (N := some 45) (v := ?_) (a' := ?_) #[true, true, true, true, true, true, true, false, false, false, false, false, false, false, false] rfl rfl (any_of HT_.out (by kernel_rfl)) (fun _ _ _ h => h) (Or.inl ⟨by rfl, ?_⟩) ?_ ?_
                                        rotate_left
                                        · intro w'
                                          go_simp
                                          with_reducible rfl
                                        rotate_left
                                        · simp only [Act.put, List.setIfInBounds_toArray, List.set_cons_zero, List.set_cons_succ, i64_w, i32_w]
                                          rfl
                                        refine pure_ (i := 7) (N := some 46) (v := ?_) (a' := ?_) #[true, true, true, true, true, true, true, true, false, false, false, false, false, false, false] rfl rfl (any_of HT_.out (by kernel_rfl)) (fun _ _ _ h => h) (Or.inl ⟨by rfl, ?_⟩) ?_ ?_
                                        rotate_left
                                        · intro w'
                                          go_simp
                                          with_reducible rfl
                                        rotate_left
                                        · simp only [Act.put, List.setIfInBounds_toArray, List.set_cons_zero, List.set_cons_succ, i64_w, i32_w]
                                          rfl
                                        refine pure_ (i := 9) (N := some 48) (v := ?_) (a' := ?_) #[true, true, true, true, true, true, true, true, false, true, false, false, false, false, false] rfl rfl (any_of HT_.out (by kernel_rfl)) (fun _ _ _ h => h) (Or.inl ⟨by rfl, ?_⟩) ?_ ?_
                                        rotate_left
                                        · intro w'
                                          go_simp
                                          with_reducible rfl
                                        rotate_left
                                        · simp only [Act.put, List.setIfInBounds_toArray, List.set_cons_zero, List.set_cons_succ, i64_w, i32_w]
                                          rfl
                                        refine pure_ (i := 10) (N := some 49) (v := ?_) (a' := ?_) #[true, true, true, true, true, true, true, true, false, true, true, false, false, false, false] rfl rfl (any_of HT_.out (by kernel_rfl)) (fun _ _ _ h => h) (Or.inl ⟨by rfl, ?_⟩) ?_ ?_
                                        rotate_left
                                        · intro w'
                                          go_simp
                                          with_reducible rfl
                                        rotate_left
                                        · simp only [Act.put, List.setIfInBounds_toArray, List.set_cons_zero, List.set_cons_succ, i64_w, i32_w]
                                          rfl
                                        refine pure_ (i := 11) (N := some 50) (v := ?_) (a' := ?_) #[true, true, true, true, true, true, true, true, false, true, true, true, false, false, false] rfl rfl (any_of HT_.out (by kernel_rfl)) (fun _ _ _ h => h) (Or.inl ⟨by rfl, ?_⟩) ?_ ?_
                                        rotate_left
                                        · intro w'
                                          go_simp
                                          with_reducible rfl
                                        rotate_left
                                        · simp only [Act.put, List.setIfInBounds_toArray, List.set_cons_zero, List.set_cons_succ, i64_w, i32_w]
                                          rfl
                                        refine take_ (i := 8) (N := some 47) (v := ?_) (a' := ?_) #[true, true, true, true, true, true, true, true, true, true, true, true, false, false, false] rfl rfl (take_ofW HT_.out HW_.out (by kernel_rfl)) (fun _ _ _ h => h) (Or.inl ⟨by rfl, ?_⟩) hHeld ?_ ?_
                                        rotate_left
                                        · rintro w' ⟨s0, s1⟩
                                          go_simp
                                          with_reducible rfl
                                        rotate_left
                                        · simp only [Act.put, List.setIfInBounds_toArray, List.set_cons_zero, List.set_cons_succ, i64_w, i32_w]
                                          rfl
                                        refine take_ (i := 12) (N := some 51) (v := ?_) (a' := ?_) #[true, true, true, true, true, true, true, true, true, true, true, true, true, false, false] rfl rfl (take_ofW HT_.out HW_.out (by kernel_rfl)) (fun _ _ _ h => h) (Or.inl ⟨by rfl, ?_⟩) hHeld ?_ ?_
                                        rotate_left
                                        · rintro w' ⟨s0, s1⟩
                                          go_simp
                                          with_reducible rfl
                                        rotate_left
                                        · simp only [Act.put, List.setIfInBounds_toArray, List.set_cons_zero, List.set_cons_succ, i64_w, i32_w]
                                          rfl
                                        refine one_ (i := 13) (N := some 52) #[true, true, true, true, true, true, true, true, true, true, true, true, true, true, false] rfl rfl (one_of HT_.out (by kernel_rfl)) (by decide) (fun K hK => ?_)
                                        refine goes_ Tryz.func72 (by kernel_rfl) rfl #[.int .i64 (rd x4_1 x7_4), .int .i64 (rd l0 x6_1)] (by rfl) rfl rfl (by (try simp only [List.map_toArray, List.map_cons, List.map_nil]); first | done | rfl | (simp only [List.length_drop, List.length_take]; rfl)) ?_
                                        with_reducible refine (chalklineref14_ahead.calls (rd x4_1 x7_4) (rd l0 x6_1) false _ A20.out).mono ?_
                                        rintro e w34 ⟨rfl, hb⟩
                                        have HS0_ := (hb.cell (World.block_lt_of_cell? _ _ (hHeld.1))).trans (hHeld.1)
                                        refine ⟨_, rfl, ?_⟩
                                        have n0_ := Aside0.mk (Kd.R_below (by (with_reducible repeat (first | apply Kd.R_alloc | apply Kd.R_drewN | apply Kd.R_drew)); exact HO_4.out) hb)
                                        have n1_ := Aside0.mk (below_step (by repeat (first | (with_reducible first | exact HB.out | apply below_alloc | apply pw_below_drewN | apply below_drew1) | exact HB.out)) hb)
                                        clear HO_4
                                        clear HB
                                        have HO_4 := n0_
                                        have HB := n1_
                                        clear n0_ n1_
                                        (try clear hb)
                                        (try clear hb2)
                                        (try clear hk)
                                        (try clear hi)
                                        refine hK.out _ _ ⟨HS0_, ((HB.out.cell (World.block_lt_of_cell? w _ hw165_0)).trans hw165_0)⟩ (fun hHeld => ?_)
                                        clear hK K
                                        refine norm_ (a' := ?_) ?_ ?_
                                        rotate_left
                                        · show Act.put _ (some 52) _ = _
                                          simp only [Act.put, List.setIfInBounds_toArray, List.set_cons_zero, List.set_cons_succ, i64_w, i32_w]
                                          rfl
                                        refine pure_ (i := 14) (N := some 53) (v := ?_) (a' := ?_) #[true, true, true, true, true, true, true, true, true, true, true, true, true, true, true] rfl rfl (any_of HT_.out (by kernel_rfl)) (fun _ _ _ h => h) (Or.inl ⟨by rfl, ?_⟩) ?_ ?_
                                        rotate_left
                                        · intro w'
                                          go_simp
                                          with_reducible rfl
                                        rotate_left
                                        · simp only [Act.put, List.setIfInBounds_toArray, List.set_cons_zero, List.set_cons_succ, i64_w, i32_w]
                                          rfl
                                        refine done_ (done_of HT_.out (by kernel_rfl)) ?_
                                        have q35 : (x7_4 : Int) ≤ ((x4_1.length : Int) : Int) := of_decide_eq_true (by first | (with_reducible assumption) | assumption)
                                        obtain ⟨i035, hi035, _, hsz35, _⟩ := info_parts info3
                                        have hroom35 : x4_1.length ≤ co33 := (Kd.R_reads' HO_4.out).2.1
                                        have hC35 : Kd.C (Kd.int .i64) _ (some ad164) x4_1.length x4_1 := (Kd.R_reads' HO_4.out).2.2
                                        have hcut35 := cut_to (P := Tryz.prog) 25 3 .i64 Tryz.underlying25 hi035 (some ad164) x4_1.length co33 x7_4 (of_decide_eq_true (by first | (with_reducible assumption) | assumption)) q35 hroom35
                                        have hr35 := Kd.C_take (m := (x7_4 : Int).toNat) hC35 (by omega)
                                        have hy35 : y167.length = (x7_4 : Int).toNat := (by rw [Ny167.out, List.length_take]; omega)
                                        rw [← Ny167.out] at hr35
                                        rw [← hy35] at hcut35
                                        have HR170 := Aside0.mk hr35
                                        have HC170 := Aside0.mk (show y167.length ≤ co33 from by omega)
                                        clear hr35 hC35 hroom35 hi035 hsz35
                                        have KY35 := Aside0.mk hy35
                                        clear hy35
                                        have KL35 := Aside0.mk (show (x7_4 : Int).toNat ≤ x4_1.length from by omega)
                                        replace q35 := eq_true q35
                                        try go_wp2_with (first | ((with_reducible refine gate_builtin (b := .append) (xs := #[.tmp 56, .tmp 59]) rfl ?_); at_builtin; refine Kd.R_append_rows (Kd.int .i64) (w0 := w) w.heap.size rfl (.tmp 56) (.tmp 59) 25 3 (.int .i64 0) 8 rfl Tryz.underlying25 info3 rfl (by decide) (by omega) (.slice none 0 0) ([] : List Int) y167 _ _ _ (fun k_ => some k_ ≠ (.slice (some ad164) x4_1.length co33 : Value).ownBlock) (fun _ => False) rfl rfl ?aO ?aR (fun _ _ h => h) (fun _ h => h.elim) ?aF ?aB ?aS ?aL ?_; (case aR => repeat (first | exact (by repeat (first | (with_reducible exact HR170.out) | (with_reducible refine Kd.C_alloc ?_ _) | (with_reducible refine Kd.C_drewN ?_ _) | (with_reducible refine Kd.C_drew ?_) | exact HR170.out)) | (with_reducible refine Kd.C_alloc ?_ _) | (with_reducible refine Kd.C_drewN ?_ _) | (with_reducible refine Kd.C_drew ?_))); (case aB => exact (by repeat (first | (with_reducible first | exact HB.out | apply below_alloc | apply pw_below_drewN | apply below_drew1) | exact HB.out))); (case aF => exact (fun k_ hk => Kd.fresh' (Kd.R_lt (by (with_reducible repeat (first | apply Kd.R_alloc | apply Kd.R_drewN | apply Kd.R_drew)); exact HO_4.out)) k_ hk)); (case aO => exact ((Kd.R_nil _ _ _ _ (fun k_ => some k_ ≠ (.slice (some ad164) x4_1.length co33 : Value).ownBlock)))); (case aS => exact (below_size (by repeat (first | (with_reducible first | exact HB.out | apply below_alloc | apply pw_below_drewN | apply below_drew1) | exact HB.out)))); (case aL => have := LMc27.out; omega); intro v172 w36 ho hb hg hat; rw [← Ny171.out] at ho; have n0_ := Aside0.mk (Kd.R_after (Kd.R_apart_nil (by (with_reducible repeat (first | apply Kd.R_alloc | apply Kd.R_drewN | apply Kd.R_drew)); exact HO_4.out)) hg hat); have n1_ := Aside0.mk (hb); have n2_ := Aside0.mk ((show Kd.C (Kd.int .i64) w36 (some ad164) y167.length y167 from by rw [Ny167.out]; exact Kd.C_take (m := (x7_4 : Int).toNat) ((Kd.R_reads' (Kd.R_after (Kd.R_apart_nil (by (with_reducible repeat (first | apply Kd.R_alloc | apply Kd.R_drewN | apply Kd.R_drew)); exact HO_4.out)) hg hat)).2.2) KL35.out)); have n3_ := Aside0.mk (ho); clear HO_4; clear HB; clear HR170; have HO_4 := n0_; have HB := n1_; have HR170 := n2_; have HO173 := n3_; clear n0_ n1_ n2_ n3_; clear ho hb hg hat; have p174 : 0 ≤ (x6_1 : Int) := of_decide_eq_true (by first | (with_reducible assumption) | assumption); have q174 : x6_1 < (l0.length : Int) := of_decide_eq_true (by first | (with_reducible assumption) | assumption); obtain ⟨ad174, e174, hx174_0⟩ := Kd.at_int HR0.out x6_1 p174 q174; obtain rfl : ad165 = ad174 := (by injection e174); replace hx174_0 := (HB.out.cell (World.block_lt_of_cell? w _ hx174_0)).trans hx174_0; replace p174 := eq_true p174; replace q174 := eq_true q174) | ((with_reducible refine gate_builtin (b := .append) (xs := #[.tmp 61, .tmp 66]) rfl ?_); at_builtin; refine Kd.R_append (Kd.int .i64) (w0 := w) w.heap.size rfl (.tmp 61) (.tmp 66) 25 3 (.int .i64 0) 8 rfl Tryz.underlying25 info3 rfl (by decide) (by omega) v172 y171 (rd l0 x6_1) [.int .i64 (rd l0 x6_1)] (fun k_ => some k_ ≠ (.slice (some ad164) x4_1.length co33 : Value).ownBlock) (fun _ => False) rfl rfl ?aP (fun _ hk => hk.elim) ?aF ?aO ?aB ?aS ?aL ?_; (case aP => exact rfl); (case aB => exact (by repeat (first | (with_reducible first | exact HB.out | apply below_alloc | apply pw_below_drewN | apply below_drew1) | exact HB.out))); (case aF => exact (fun k_ hk => Kd.fresh' (Kd.R_lt (by (with_reducible repeat (first | apply Kd.R_alloc | apply Kd.R_drewN | apply Kd.R_drew)); exact HO_4.out)) k_ hk)); (case aO => exact (by (with_reducible repeat (first | apply Kd.R_alloc | apply Kd.R_drewN | apply Kd.R_drew)); exact HO173.out)); (case aS => exact (below_size (by repeat (first | (with_reducible first | exact HB.out | apply below_alloc | apply pw_below_drewN | apply below_drew1) | exact HB.out)))); (case aL => have := LMc28.out; omega); intro v176 w37 ho hb hg hat; rw [← Ny175.out] at ho; have n0_ := Aside0.mk (Kd.R_after (ok := (fun _ => True)) (by (with_reducible repeat (first | apply Kd.R_alloc | apply Kd.R_drewN | apply Kd.R_drew)); exact HO_4.out) hg hat); have n1_ := Aside0.mk (hb); have n2_ := Aside0.mk ((show Kd.C (Kd.int .i64) w37 (some ad164) y167.length y167 from by rw [Ny167.out]; exact Kd.C_take (m := (x7_4 : Int).toNat) ((Kd.R_reads' (Kd.R_after (ok := (fun _ => True)) (by (with_reducible repeat (first | apply Kd.R_alloc | apply Kd.R_drewN | apply Kd.R_drew)); exact HO_4.out) hg hat)).2.2) KL35.out)); have n3_ := Aside0.mk (ho); clear HO_4; clear HB; clear HR170; clear HO173; have HO_4 := n0_; have HB := n1_; have HR170 := n2_; have HO177 := n3_; clear n0_ n1_ n2_ n3_; clear ho hb hg hat; have q38 : (x7_4 : Int) ≤ ((x4_1.length : Int) : Int) := of_decide_eq_true (by first | (with_reducible assumption) | assumption); obtain ⟨i038, hi038, _, hsz38, _⟩ := info_parts info3; have hroom38 : x4_1.length ≤ co33 := (Kd.R_reads' HO_4.out).2.1; have hC38 : Kd.C (Kd.int .i64) _ (some ad164) x4_1.length x4_1 := (Kd.R_reads' HO_4.out).2.2; have q038 : (0 : Int) ≤ (x7_4 : Int) := of_decide_eq_true (by first | (with_reducible assumption) | assumption); have hcut38 := cut_from (P := Tryz.prog) 25 3 .i64 Tryz.underlying25 hi038 1 hsz38 (some ad164) x4_1.length co33 x7_4 q038 q38; have hr38 := Kd.C_drop (m := (x7_4 : Int).toNat) (c := co33) hC38 (by omega) hroom38; obtain ⟨A38, hA38⟩ : ∃ A1, A1 = (if co33 = (x7_4 : Int).toNat then (some ad164) else ((some ad164) : Option Addr).map (·.add ((x7_4 : Int).toNat * 1))) := ⟨_, rfl⟩; obtain ⟨c38, hc38⟩ : ∃ c1, c1 = co33 - (x7_4 : Int).toNat := ⟨_, rfl⟩; have hy38 : y178.length = x4_1.length - (x7_4 : Int).toNat := (by rw [Ny178.out, List.length_drop] <;> omega); rw [show (x4_1).drop (x7_4 : Int).toNat = y178 from Ny178.out.symm] at hr38; replace hr38 : Kd.C (Kd.int .i64) _ A38 y178.length y178 := (by rw [hA38]; exact hr38); rw [← hy38, ← hA38, ← hc38] at hcut38; have HR181 := Aside0.mk hr38; have HC181 := Aside0.mk (show y178.length ≤ c38 from by rw [hy38, hc38]; exact Nat.sub_le_sub_right hroom38 _); clear hr38 hC38 hroom38 hi038 hsz38 hc38; have KY38 := Aside0.mk hy38; have KA38 := Aside0.mk hA38; clear hy38 hA38; have KL38 := Aside0.mk (show (x7_4 : Int).toNat ≤ x4_1.length from by omega); replace q38 := eq_true q38) | ((with_reducible refine gate_builtin (b := .append) (xs := #[.tmp 68, .tmp 71]) rfl ?_); at_builtin; refine Kd.R_append_rows (Kd.int .i64) (w0 := w) w.heap.size rfl (.tmp 68) (.tmp 71) 25 3 (.int .i64 0) 8 rfl Tryz.underlying25 info3 rfl (by decide) (by omega) v176 y175 y178 _ _ _ (fun k_ => some k_ ≠ (.slice (some ad164) x4_1.length co33 : Value).ownBlock) (fun _ => False) rfl rfl ?aO ?aR (fun _ _ h => h) (fun _ h => h.elim) ?aF ?aB ?aS ?aL ?_; (case aR => repeat (first | exact (by repeat (first | (with_reducible exact HR181.out) | (with_reducible refine Kd.C_alloc ?_ _) | (with_reducible refine Kd.C_drewN ?_ _) | (with_reducible refine Kd.C_drew ?_) | exact HR181.out)) | (with_reducible refine Kd.C_alloc ?_ _) | (with_reducible refine Kd.C_drewN ?_ _) | (with_reducible refine Kd.C_drew ?_))); (case aB => exact (by repeat (first | (with_reducible first | exact HB.out | apply below_alloc | apply pw_below_drewN | apply below_drew1) | exact HB.out))); (case aF => exact (fun k_ hk => Kd.fresh' (Kd.R_lt (by (with_reducible repeat (first | apply Kd.R_alloc | apply Kd.R_drewN | apply Kd.R_drew)); exact HO_4.out)) k_ hk)); (case aO => exact (by (with_reducible repeat (first | apply Kd.R_alloc | apply Kd.R_drewN | apply Kd.R_drew)); exact HO177.out)); (case aS => exact (below_size (by repeat (first | (with_reducible first | exact HB.out | apply below_alloc | apply pw_below_drewN | apply below_drew1) | exact HB.out)))); (case aL => have := LMc31.out; omega); intro v183 w39 ho hb hg hat; rw [← Ny182.out] at ho; have n0_ := Aside0.mk (Kd.R_after (ok := (fun _ => True)) (by (with_reducible repeat (first | apply Kd.R_alloc | apply Kd.R_drewN | apply Kd.R_drew)); exact HO_4.out) hg hat); have n1_ := Aside0.mk (hb); have n2_ := Aside0.mk ((show Kd.C (Kd.int .i64) w39 (some ad164) y167.length y167 from by rw [Ny167.out]; exact Kd.C_take (m := (x7_4 : Int).toNat) ((Kd.R_reads' (Kd.R_after (ok := (fun _ => True)) (by (with_reducible repeat (first | apply Kd.R_alloc | apply Kd.R_drewN | apply Kd.R_drew)); exact HO_4.out) hg hat)).2.2) KL35.out)); have n3_ := Aside0.mk ((show Kd.C (Kd.int .i64) w39 A38 y178.length y178 from by rw [Ny178.out, KA38.out]; exact Kd.C_drop (m := (x7_4 : Int).toNat) (c := co33) ((Kd.R_reads' (Kd.R_after (ok := (fun _ => True)) (by (with_reducible repeat (first | apply Kd.R_alloc | apply Kd.R_drewN | apply Kd.R_drew)); exact HO_4.out) hg hat)).2.2) KL38.out ((Kd.R_reads' (Kd.R_after (ok := (fun _ => True)) (by (with_reducible repeat (first | apply Kd.R_alloc | apply Kd.R_drewN | apply Kd.R_drew)); exact HO_4.out) hg hat)).2.1))); have n4_ := Aside0.mk (ho); clear HO_4; clear HB; clear HR170; clear HR181; clear HO177; have HO_4 := n0_; have HB := n1_; have HR170 := n2_; have HR181 := n3_; have HO184 := n4_; clear n0_ n1_ n2_ n3_ n4_; clear ho hb hg hat))
                                        go_roundg k4
                                        case measure => have := HK1.out; have := HJ2.out; have := HJ9.out; have := HK4.out; omega
                                        case rel => exact ⟨(y182), (x5_9), (wrap64 (x6_1 + 1)), (by first | rfl | (simp; done) | (simp [*]; done)), (by first | rfl | (simp; done) | (simp [*]; done)), H', ⟨by have := HK1.out; have := HJ2.out; have := HJ9.out; have := HK4.out; omega⟩, ⟨by (with_reducible repeat (first | apply Kd.R_alloc | apply Kd.R_drewN | apply Kd.R_drew)); exact Kd.R_mono HO184.out (fun _ hk => trivial)⟩, ⟨by repeat (first | (with_reducible first | exact HB.out | apply below_alloc | apply pw_below_drewN | apply below_drew1) | exact HB.out)⟩⟩
                                      · rw [if_neg c31] at H
                                        exact absurd H (by simp)
                                    · rw [if_neg c28] at H
                                      exact absurd H (by simp)
                                  · rw [if_neg c27] at H
                                    exact absurd H (by simp)
                                · rw [if_neg c26] at H
                                  exact absurd H (by simp)
                            · rw [if_neg c19] at H
                              exact absurd H (by simp)
                          · rw [if_neg c18] at H
                            exact absurd H (by simp)
                        · rw [if_neg c17] at H
                          exact absurd H (by simp)
                      · rw [if_neg c16] at H
                        have c16b0 : decide (x7_4 < (x4_1.length : Int)) = false := decide_eq_false c16
                        clear c16
                        by_cases c40 : 0 ≤ x7_4
                        · rw [if_pos c40] at H
                          have c40b0 := eq_true c40
                          have c40b1 : decide (0 ≤ x7_4) = true := decide_eq_true c40
                          clear c40
                          by_cases c41 : x7_4 ≤ (x4_1.length : Int)
                          · rw [if_pos c41] at H
                            have c41b0 := eq_true c41
                            have c41b1 : decide (x7_4 ≤ (x4_1.length : Int)) = true := decide_eq_true c41
                            clear c41
                            obtain ⟨y185, hy185⟩ : ∃ y_ : List Int, y_ = (x4_1.take (x7_4 : Int).toNat) := ⟨_, rfl⟩
                            replace H : (if ([] : List Int).length + y185.length < 17592186044416 then ((some (([] : List Int) ++ y185 : List Int)).bind fun y189 => (if 0 ≤ x6_1 then (if x6_1 < (l0.length : Int) then (if y189.length < 17592186044416 then ((some (y189 ++ [rd l0 x6_1] : List Int)).bind fun y193 => ((some (x4_1.drop (x7_4 : Int).toNat : List Int)).bind fun y196 => (if y193.length + y196.length < 17592186044416 then (chalklineref14_Norm.l0 k4 l0 (y193 ++ y196) x5_9 (wrap64 (x6_1 + 1))) else (none)))) else (none)) else (none)) else (none))) else (none)) = some (r1, r2) := by first | (rw [hy185]; with_reducible exact H) | (have H2_ := (Option.bind_some _ _).symm.trans H; rw [hy185]; with_reducible exact H2_) | (have H2_ := (Option.bind_some _ _).symm.trans H; with_reducible exact H2_) | with_reducible exact H | (rw [hy185]; exact H) | exact H
                            have Ny185 := Aside0.mk hy185
                            clear hy185
                            by_cases c42 : ([] : List Int).length + y185.length < 17592186044416
                            · rw [if_pos c42] at H
                              have LMc42 := Aside0.mk c42
                              clear c42
                              obtain ⟨y189, hy189⟩ : ∃ y_ : List Int, y_ = (([] : List Int) ++ y185) := ⟨_, rfl⟩
                              replace H : (if 0 ≤ x6_1 then (if x6_1 < (l0.length : Int) then (if y189.length < 17592186044416 then ((some (y189 ++ [rd l0 x6_1] : List Int)).bind fun y193 => ((some (x4_1.drop (x7_4 : Int).toNat : List Int)).bind fun y196 => (if y193.length + y196.length < 17592186044416 then (chalklineref14_Norm.l0 k4 l0 (y193 ++ y196) x5_9 (wrap64 (x6_1 + 1))) else (none)))) else (none)) else (none)) else (none)) = some (r1, r2) := by first | (rw [hy189]; with_reducible exact H) | (have H2_ := (Option.bind_some _ _).symm.trans H; rw [hy189]; with_reducible exact H2_) | (have H2_ := (Option.bind_some _ _).symm.trans H; with_reducible exact H2_) | with_reducible exact H | (rw [hy189]; exact H) | exact H
                              have Ny189 := Aside0.mk hy189
                              clear hy189
                              by_cases c43 : 0 ≤ x6_1
                              · rw [if_pos c43] at H
                                have c43b0 : decide (0 ≤ x6_1) = true := decide_eq_true c43
                                clear c43
                                by_cases c44 : x6_1 < (l0.length : Int)
                                · rw [if_pos c44] at H
                                  have c44b0 : decide (x6_1 < (l0.length : Int)) = true := decide_eq_true c44
                                  clear c44
                                  by_cases c45 : y189.length < 17592186044416
                                  · rw [if_pos c45] at H
                                    have LMc45 := Aside0.mk c45
                                    clear c45
                                    obtain ⟨y193, hy193⟩ : ∃ y_ : List Int, y_ = (y189 ++ [rd l0 x6_1]) := ⟨_, rfl⟩
                                    replace H : ((some (x4_1.drop (x7_4 : Int).toNat : List Int)).bind fun y196 => (if y193.length + y196.length < 17592186044416 then (chalklineref14_Norm.l0 k4 l0 (y193 ++ y196) x5_9 (wrap64 (x6_1 + 1))) else (none))) = some (r1, r2) := by first | (rw [hy193]; with_reducible exact H) | (have H2_ := (Option.bind_some _ _).symm.trans H; rw [hy193]; with_reducible exact H2_) | (have H2_ := (Option.bind_some _ _).symm.trans H; with_reducible exact H2_) | with_reducible exact H | (rw [hy193]; exact H) | exact H
                                    have Ny193 := Aside0.mk hy193
                                    clear hy193
                                    have c46b0 := eq_true (of_decide_eq_true (by first | (with_reducible assumption) | assumption) : 0 ≤ x7_4)
                                    have c47b0 := eq_true (of_decide_eq_true (by first | (with_reducible assumption) | assumption) : x7_4 ≤ (x4_1.length : Int))
                                    obtain ⟨y196, hy196⟩ : ∃ y_ : List Int, y_ = (x4_1.drop (x7_4 : Int).toNat) := ⟨_, rfl⟩
                                    replace H : (if y193.length + y196.length < 17592186044416 then (chalklineref14_Norm.l0 k4 l0 (y193 ++ y196) x5_9 (wrap64 (x6_1 + 1))) else (none)) = some (r1, r2) := by first | (rw [hy196]; with_reducible exact H) | (have H2_ := (Option.bind_some _ _).symm.trans H; rw [hy196]; with_reducible exact H2_) | (have H2_ := (Option.bind_some _ _).symm.trans H; with_reducible exact H2_) | with_reducible exact H | (rw [hy196]; exact H) | exact H
                                    have Ny196 := Aside0.mk hy196
                                    clear hy196
                                    by_cases c48 : y193.length + y196.length < 17592186044416
                                    · rw [if_pos c48] at H
                                      have LMc48 := Aside0.mk c48
                                      clear c48
                                      obtain ⟨y200, hy200⟩ : ∃ y_ : List Int, y_ = (y193 ++ y196) := ⟨_, rfl⟩
                                      replace H : (chalklineref14_Norm.l0 k4 l0 y200 x5_9 (wrap64 (x6_1 + 1))) = some (r1, r2) := by first | (rw [hy200]; with_reducible exact H) | (have H2_ := (Option.bind_some _ _).symm.trans H; rw [hy200]; with_reducible exact H2_) | (have H2_ := (Option.bind_some _ _).symm.trans H; with_reducible exact H2_) | with_reducible exact H | (rw [hy200]; exact H) | exact H
                                      have Ny200 := Aside0.mk hy200
                                      clear hy200
                                      have H' := Aside0.mk H
                                      clear H
                                      try go_wp2
                                      have n0_ := Aside0.mk (Kd.R_drew HO_4.out)
                                      have n1_ := Aside0.mk (below_drew1 HB.out)
                                      clear HO_4
                                      clear HB
                                      have HO_4 := n0_
                                      have HB := n1_
                                      clear n0_ n1_
                                      obtain ⟨Ao50, co50, eo50⟩ := Kd.R_slice HO_4.out
                                      (first | subst eo50 | (injection eo50 with f1_ f2_ f3_; have f4_ := f1_.symm; have f5_ := f3_.symm; clear f1_ f2_ f3_; subst f4_; subst f5_))
                                      refine start_ (n := 15) (S := fun w' => True) (ds := []) #[false, false, false, false, false, false, false, false, false, false, false, false, false, false, false] (by kernel_rfl) rfl rfl trivial (fun hHeld => ?_); refine with_tabW chalklineref14_Norm.tab9 chalklineref14_Norm.bits9 (fun HT_ HW_ => ?_)
                                      generalize wr.drew = w49 at HO_4 HB hHeld ⊢
                                      refine pure_ (i := 0) (N := some 39) (v := ?_) (a' := ?_) #[true, false, false, false, false, false, false, false, false, false, false, false, false, false, false] rfl rfl (any_of HT_.out (by kernel_rfl)) (fun _ _ _ h => h) (Or.inl ⟨by rfl, ?_⟩) ?_ ?_
                                      rotate_left
                                      · intro w'
                                        go_simp
                                        with_reducible rfl
                                      rotate_left
                                      · simp only [Act.put, List.setIfInBounds_toArray, List.set_cons_zero, List.set_cons_succ, i64_w, i32_w]
                                        rfl
                                      refine pure_ (i := 1) (N := some 40) (v := ?_) (a' := ?_) #[true, true, false, false, false, false, false, false, false, false, false, false, false, false, false] rfl rfl (any_of HT_.out (by kernel_rfl)) (fun _ _ _ h => h) (Or.inl ⟨by rfl, ?_⟩) ?_ ?_
                                      rotate_left
                                      · intro w'
                                        go_simp
                                        with_reducible rfl
                                      rotate_left
                                      · simp only [Act.put, List.setIfInBounds_toArray, List.set_cons_zero, List.set_cons_succ, i64_w, i32_w]
                                        rfl
                                      refine pure_ (i := 2) (N := some 41) (v := ?_) (a' := ?_) #[true, true, true, false, false, false, false, false, false, false, false, false, false, false, false] rfl rfl (any_of HT_.out (by kernel_rfl)) (fun _ _ _ h => h) (Or.inl ⟨by rfl, ?_⟩) ?_ ?_
                                      rotate_left
                                      · intro w'
                                        go_simp
                                        with_reducible rfl
                                      rotate_left
                                      · simp only [Act.put, List.setIfInBounds_toArray, List.set_cons_zero, List.set_cons_succ, i64_w, i32_w]
                                        rfl
                                      refine pure_ (i := 3) (N := some 42) (v := ?_) (a' := ?_) #[true, true, true, true, false, false, false, false, false, false, false, false, false, false, false] rfl rfl (any_of HT_.out (by kernel_rfl)) (fun _ _ _ h => h) (Or.inl ⟨by rfl, ?_⟩) ?_ ?_
                                      rotate_left
                                      · intro w'
                                        go_simp
                                        with_reducible rfl
                                      rotate_left
                                      · simp only [Act.put, List.setIfInBounds_toArray, List.set_cons_zero, List.set_cons_succ, i64_w, i32_w]
                                        rfl
                                      refine pure_ (i := 4) (N := some 43) (v := ?_) (a' := ?_) #[true, true, true, true, true, false, false, false, false, false, false, false, false, false, false] rfl rfl (any_of HT_.out (by kernel_rfl)) (fun _ _ _ h => h) (Or.inl ⟨by rfl, ?_⟩) ?_ ?_
                                      rotate_left
                                      · intro w'
                                        go_simp
                                        with_reducible rfl
                                      rotate_left
                                      · simp only [Act.put, List.setIfInBounds_toArray, List.set_cons_zero, List.set_cons_succ, i64_w, i32_w]
                                        rfl
                                      refine pure_ (i := 5) (N := some 44) (v := undef) (a' := ?_) #[true, true, true, true, true, true, false, false, false, false, false, false, false, false, false] rfl rfl (any_of HT_.out (by kernel_rfl)) (fun _ _ _ h => h) (Or.inr ⟨by rfl, rfl⟩) ?_ ?_
                                      rotate_left
                                      · simp only [Act.put, List.setIfInBounds_toArray, List.set_cons_zero, List.set_cons_succ, i64_w, i32_w]
                                        rfl
                                      refine pure_ (i := 6) (N := some 45) (v := undef) (a' := ?_) #[true, true, true, true, true, true, true, false, false, false, false, false, false, false, false] rfl rfl (any_of HT_.out (by kernel_rfl)) (fun _ _ _ h => h) (Or.inr ⟨by rfl, rfl⟩) ?_ ?_
                                      rotate_left
                                      · simp only [Act.put, List.setIfInBounds_toArray, List.set_cons_zero, List.set_cons_succ, i64_w, i32_w]
                                        rfl
                                      refine pure_ (i := 7) (N := some 46) (v := undef) (a' := ?_) #[true, true, true, true, true, true, true, true, false, false, false, false, false, false, false] rfl rfl (any_of HT_.out (by kernel_rfl)) (fun _ _ _ h => h) (Or.inr ⟨by rfl, rfl⟩) ?_ ?_
                                      rotate_left
                                      · simp only [Act.put, List.setIfInBounds_toArray, List.set_cons_zero, List.set_cons_succ, i64_w, i32_w]
                                        rfl
                                      refine pure_ (i := 8) (N := some 47) (v := undef) (a' := ?_) #[true, true, true, true, true, true, true, true, true, false, false, false, false, false, false] rfl rfl (any_of HT_.out (by kernel_rfl)) (fun _ _ _ h => h) (Or.inr ⟨by rfl, rfl⟩) ?_ ?_
                                      rotate_left
                                      · simp only [Act.put, List.setIfInBounds_toArray, List.set_cons_zero, List.set_cons_succ, i64_w, i32_w]
                                        rfl
                                      refine pure_ (i := 9) (N := some 48) (v := undef) (a' := ?_) #[true, true, true, true, true, true, true, true, true, true, false, false, false, false, false] rfl rfl (any_of HT_.out (by kernel_rfl)) (fun _ _ _ h => h) (Or.inr ⟨by rfl, rfl⟩) ?_ ?_
                                      rotate_left
                                      · simp only [Act.put, List.setIfInBounds_toArray, List.set_cons_zero, List.set_cons_succ, i64_w, i32_w]
                                        rfl
                                      refine pure_ (i := 10) (N := some 49) (v := undef) (a' := ?_) #[true, true, true, true, true, true, true, true, true, true, true, false, false, false, false] rfl rfl (any_of HT_.out (by kernel_rfl)) (fun _ _ _ h => h) (Or.inr ⟨by rfl, rfl⟩) ?_ ?_
                                      rotate_left
                                      · simp only [Act.put, List.setIfInBounds_toArray, List.set_cons_zero, List.set_cons_succ, i64_w, i32_w]
                                        rfl
                                      refine pure_ (i := 11) (N := some 50) (v := undef) (a' := ?_) #[true, true, true, true, true, true, true, true, true, true, true, true, false, false, false] rfl rfl (any_of HT_.out (by kernel_rfl)) (fun _ _ _ h => h) (Or.inr ⟨by rfl, rfl⟩) ?_ ?_
                                      rotate_left
                                      · simp only [Act.put, List.setIfInBounds_toArray, List.set_cons_zero, List.set_cons_succ, i64_w, i32_w]
                                        rfl
                                      refine pure_ (i := 12) (N := some 51) (v := undef) (a' := ?_) #[true, true, true, true, true, true, true, true, true, true, true, true, true, false, false] rfl rfl (any_of HT_.out (by kernel_rfl)) (fun _ _ _ h => h) (Or.inr ⟨by rfl, rfl⟩) ?_ ?_
                                      rotate_left
                                      · simp only [Act.put, List.setIfInBounds_toArray, List.set_cons_zero, List.set_cons_succ, i64_w, i32_w]
                                        rfl
                                      refine pure_ (i := 13) (N := some 52) (v := undef) (a' := ?_) #[true, true, true, true, true, true, true, true, true, true, true, true, true, true, false] rfl rfl (any_of HT_.out (by kernel_rfl)) (fun _ _ _ h => h) (Or.inr ⟨by rfl, rfl⟩) ?_ ?_
                                      rotate_left
                                      · simp only [Act.put, List.setIfInBounds_toArray, List.set_cons_zero, List.set_cons_succ, i64_w, i32_w]
                                        rfl
                                      refine pure_ (i := 14) (N := some 53) (v := ?_) (a' := ?_) #[true, true, true, true, true, true, true, true, true, true, true, true, true, true, true] rfl rfl (any_of HT_.out (by kernel_rfl)) (fun _ _ _ h => h) (Or.inl ⟨by rfl, ?_⟩) ?_ ?_
                                      rotate_left
                                      · intro w'
                                        go_simp
                                        with_reducible rfl
                                      rotate_left
                                      · simp only [Act.put, List.setIfInBounds_toArray, List.set_cons_zero, List.set_cons_succ, i64_w, i32_w]
                                        rfl
                                      refine done_ (done_of HT_.out (by kernel_rfl)) ?_
                                      have q51 : (x7_4 : Int) ≤ ((x4_1.length : Int) : Int) := of_decide_eq_true (by first | (with_reducible assumption) | assumption)
                                      obtain ⟨i051, hi051, _, hsz51, _⟩ := info_parts info3
                                      have hroom51 : x4_1.length ≤ co50 := (Kd.R_reads' HO_4.out).2.1
                                      have hC51 : Kd.C (Kd.int .i64) _ Ao50 x4_1.length x4_1 := (Kd.R_reads' HO_4.out).2.2
                                      have hcut51 := cut_to (P := Tryz.prog) 25 3 .i64 Tryz.underlying25 hi051 Ao50 x4_1.length co50 x7_4 (of_decide_eq_true (by first | (with_reducible assumption) | assumption)) q51 hroom51
                                      have hr51 := Kd.C_take (m := (x7_4 : Int).toNat) hC51 (by omega)
                                      have hy51 : y185.length = (x7_4 : Int).toNat := (by rw [Ny185.out, List.length_take]; omega)
                                      rw [← Ny185.out] at hr51
                                      rw [← hy51] at hcut51
                                      have HR188 := Aside0.mk hr51
                                      have HC188 := Aside0.mk (show y185.length ≤ co50 from by omega)
                                      clear hr51 hC51 hroom51 hi051 hsz51
                                      have KY51 := Aside0.mk hy51
                                      clear hy51
                                      have KL51 := Aside0.mk (show (x7_4 : Int).toNat ≤ x4_1.length from by omega)
                                      replace q51 := eq_true q51
                                      try go_wp2_with (first | ((with_reducible refine gate_builtin (b := .append) (xs := #[.tmp 56, .tmp 59]) rfl ?_); at_builtin; refine Kd.R_append_rows (Kd.int .i64) (w0 := w) w.heap.size rfl (.tmp 56) (.tmp 59) 25 3 (.int .i64 0) 8 rfl Tryz.underlying25 info3 rfl (by decide) (by omega) (.slice none 0 0) ([] : List Int) y185 _ _ _ (fun k_ => some k_ ≠ (.slice Ao50 x4_1.length co50 : Value).ownBlock) (fun _ => False) rfl rfl ?aO ?aR (fun _ _ h => h) (fun _ h => h.elim) ?aF ?aB ?aS ?aL ?_; (case aR => repeat (first | exact (by repeat (first | (with_reducible exact HR188.out) | (with_reducible refine Kd.C_alloc ?_ _) | (with_reducible refine Kd.C_drewN ?_ _) | (with_reducible refine Kd.C_drew ?_) | exact HR188.out)) | (with_reducible refine Kd.C_alloc ?_ _) | (with_reducible refine Kd.C_drewN ?_ _) | (with_reducible refine Kd.C_drew ?_))); (case aB => exact (by repeat (first | (with_reducible first | exact HB.out | apply below_alloc | apply pw_below_drewN | apply below_drew1) | exact HB.out))); (case aF => exact (fun k_ hk => Kd.fresh' (Kd.R_lt (by (with_reducible repeat (first | apply Kd.R_alloc | apply Kd.R_drewN | apply Kd.R_drew)); exact HO_4.out)) k_ hk)); (case aO => exact ((Kd.R_nil _ _ _ _ (fun k_ => some k_ ≠ (.slice Ao50 x4_1.length co50 : Value).ownBlock)))); (case aS => exact (below_size (by repeat (first | (with_reducible first | exact HB.out | apply below_alloc | apply pw_below_drewN | apply below_drew1) | exact HB.out)))); (case aL => have := LMc42.out; omega); intro v190 w52 ho hb hg hat; rw [← Ny189.out] at ho; have n0_ := Aside0.mk (Kd.R_after (Kd.R_apart_nil (by (with_reducible repeat (first | apply Kd.R_alloc | apply Kd.R_drewN | apply Kd.R_drew)); exact HO_4.out)) hg hat); have n1_ := Aside0.mk (hb); have n2_ := Aside0.mk ((show Kd.C (Kd.int .i64) w52 Ao50 y185.length y185 from by rw [Ny185.out]; exact Kd.C_take (m := (x7_4 : Int).toNat) ((Kd.R_reads' (Kd.R_after (Kd.R_apart_nil (by (with_reducible repeat (first | apply Kd.R_alloc | apply Kd.R_drewN | apply Kd.R_drew)); exact HO_4.out)) hg hat)).2.2) KL51.out)); have n3_ := Aside0.mk (ho); clear HO_4; clear HB; clear HR188; have HO_4 := n0_; have HB := n1_; have HR188 := n2_; have HO191 := n3_; clear n0_ n1_ n2_ n3_; clear ho hb hg hat; have p192 : 0 ≤ (x6_1 : Int) := of_decide_eq_true (by first | (with_reducible assumption) | assumption); have q192 : x6_1 < (l0.length : Int) := of_decide_eq_true (by first | (with_reducible assumption) | assumption); obtain ⟨ad192, e192, hx192_0⟩ := Kd.at_int HR0.out x6_1 p192 q192; cases e192; replace hx192_0 := (HB.out.cell (World.block_lt_of_cell? w _ hx192_0)).trans hx192_0; replace p192 := eq_true p192; replace q192 := eq_true q192) | ((with_reducible refine gate_builtin (b := .append) (xs := #[.tmp 61, .tmp 66]) rfl ?_); at_builtin; refine Kd.R_append (Kd.int .i64) (w0 := w) w.heap.size rfl (.tmp 61) (.tmp 66) 25 3 (.int .i64 0) 8 rfl Tryz.underlying25 info3 rfl (by decide) (by omega) v190 y189 (rd l0 x6_1) [.int .i64 (rd l0 x6_1)] (fun k_ => some k_ ≠ (.slice Ao50 x4_1.length co50 : Value).ownBlock) (fun _ => False) rfl rfl ?aP (fun _ hk => hk.elim) ?aF ?aO ?aB ?aS ?aL ?_; (case aP => exact rfl); (case aB => exact (by repeat (first | (with_reducible first | exact HB.out | apply below_alloc | apply pw_below_drewN | apply below_drew1) | exact HB.out))); (case aF => exact (fun k_ hk => Kd.fresh' (Kd.R_lt (by (with_reducible repeat (first | apply Kd.R_alloc | apply Kd.R_drewN | apply Kd.R_drew)); exact HO_4.out)) k_ hk)); (case aO => exact (by (with_reducible repeat (first | apply Kd.R_alloc | apply Kd.R_drewN | apply Kd.R_drew)); exact HO191.out)); (case aS => exact (below_size (by repeat (first | (with_reducible first | exact HB.out | apply below_alloc | apply pw_below_drewN | apply below_drew1) | exact HB.out)))); (case aL => have := LMc45.out; omega); intro v194 w53 ho hb hg hat; rw [← Ny193.out] at ho; have n0_ := Aside0.mk (Kd.R_after (ok := (fun _ => True)) (by (with_reducible repeat (first | apply Kd.R_alloc | apply Kd.R_drewN | apply Kd.R_drew)); exact HO_4.out) hg hat); have n1_ := Aside0.mk (hb); have n2_ := Aside0.mk ((show Kd.C (Kd.int .i64) w53 Ao50 y185.length y185 from by rw [Ny185.out]; exact Kd.C_take (m := (x7_4 : Int).toNat) ((Kd.R_reads' (Kd.R_after (ok := (fun _ => True)) (by (with_reducible repeat (first | apply Kd.R_alloc | apply Kd.R_drewN | apply Kd.R_drew)); exact HO_4.out) hg hat)).2.2) KL51.out)); have n3_ := Aside0.mk (ho); clear HO_4; clear HB; clear HR188; clear HO191; have HO_4 := n0_; have HB := n1_; have HR188 := n2_; have HO195 := n3_; clear n0_ n1_ n2_ n3_; clear ho hb hg hat; have q54 : (x7_4 : Int) ≤ ((x4_1.length : Int) : Int) := of_decide_eq_true (by first | (with_reducible assumption) | assumption); obtain ⟨i054, hi054, _, hsz54, _⟩ := info_parts info3; have hroom54 : x4_1.length ≤ co50 := (Kd.R_reads' HO_4.out).2.1; have hC54 : Kd.C (Kd.int .i64) _ Ao50 x4_1.length x4_1 := (Kd.R_reads' HO_4.out).2.2; have q054 : (0 : Int) ≤ (x7_4 : Int) := of_decide_eq_true (by first | (with_reducible assumption) | assumption); have hcut54 := cut_from (P := Tryz.prog) 25 3 .i64 Tryz.underlying25 hi054 1 hsz54 Ao50 x4_1.length co50 x7_4 q054 q54; have hr54 := Kd.C_drop (m := (x7_4 : Int).toNat) (c := co50) hC54 (by omega) hroom54; obtain ⟨A54, hA54⟩ : ∃ A1, A1 = (if co50 = (x7_4 : Int).toNat then Ao50 else (Ao50 : Option Addr).map (·.add ((x7_4 : Int).toNat * 1))) := ⟨_, rfl⟩; obtain ⟨c54, hc54⟩ : ∃ c1, c1 = co50 - (x7_4 : Int).toNat := ⟨_, rfl⟩; have hy54 : y196.length = x4_1.length - (x7_4 : Int).toNat := (by rw [Ny196.out, List.length_drop] <;> omega); rw [show (x4_1).drop (x7_4 : Int).toNat = y196 from Ny196.out.symm] at hr54; replace hr54 : Kd.C (Kd.int .i64) _ A54 y196.length y196 := (by rw [hA54]; exact hr54); rw [← hy54, ← hA54, ← hc54] at hcut54; have HR199 := Aside0.mk hr54; have HC199 := Aside0.mk (show y196.length ≤ c54 from by rw [hy54, hc54]; exact Nat.sub_le_sub_right hroom54 _); clear hr54 hC54 hroom54 hi054 hsz54 hc54; have KY54 := Aside0.mk hy54; have KA54 := Aside0.mk hA54; clear hy54 hA54; have KL54 := Aside0.mk (show (x7_4 : Int).toNat ≤ x4_1.length from by omega); replace q54 := eq_true q54) | ((with_reducible refine gate_builtin (b := .append) (xs := #[.tmp 68, .tmp 71]) rfl ?_); at_builtin; refine Kd.R_append_rows (Kd.int .i64) (w0 := w) w.heap.size rfl (.tmp 68) (.tmp 71) 25 3 (.int .i64 0) 8 rfl Tryz.underlying25 info3 rfl (by decide) (by omega) v194 y193 y196 _ _ _ (fun k_ => some k_ ≠ (.slice Ao50 x4_1.length co50 : Value).ownBlock) (fun _ => False) rfl rfl ?aO ?aR (fun _ _ h => h) (fun _ h => h.elim) ?aF ?aB ?aS ?aL ?_; (case aR => repeat (first | exact (by repeat (first | (with_reducible exact HR199.out) | (with_reducible refine Kd.C_alloc ?_ _) | (with_reducible refine Kd.C_drewN ?_ _) | (with_reducible refine Kd.C_drew ?_) | exact HR199.out)) | (with_reducible refine Kd.C_alloc ?_ _) | (with_reducible refine Kd.C_drewN ?_ _) | (with_reducible refine Kd.C_drew ?_))); (case aB => exact (by repeat (first | (with_reducible first | exact HB.out | apply below_alloc | apply pw_below_drewN | apply below_drew1) | exact HB.out))); (case aF => exact (fun k_ hk => Kd.fresh' (Kd.R_lt (by (with_reducible repeat (first | apply Kd.R_alloc | apply Kd.R_drewN | apply Kd.R_drew)); exact HO_4.out)) k_ hk)); (case aO => exact (by (with_reducible repeat (first | apply Kd.R_alloc | apply Kd.R_drewN | apply Kd.R_drew)); exact HO195.out)); (case aS => exact (below_size (by repeat (first | (with_reducible first | exact HB.out | apply below_alloc | apply pw_below_drewN | apply below_drew1) | exact HB.out)))); (case aL => have := LMc48.out; omega); intro v201 w55 ho hb hg hat; rw [← Ny200.out] at ho; have n0_ := Aside0.mk (Kd.R_after (ok := (fun _ => True)) (by (with_reducible repeat (first | apply Kd.R_alloc | apply Kd.R_drewN | apply Kd.R_drew)); exact HO_4.out) hg hat); have n1_ := Aside0.mk (hb); have n2_ := Aside0.mk ((show Kd.C (Kd.int .i64) w55 Ao50 y185.length y185 from by rw [Ny185.out]; exact Kd.C_take (m := (x7_4 : Int).toNat) ((Kd.R_reads' (Kd.R_after (ok := (fun _ => True)) (by (with_reducible repeat (first | apply Kd.R_alloc | apply Kd.R_drewN | apply Kd.R_drew)); exact HO_4.out) hg hat)).2.2) KL51.out)); have n3_ := Aside0.mk ((show Kd.C (Kd.int .i64) w55 A54 y196.length y196 from by rw [Ny196.out, KA54.out]; exact Kd.C_drop (m := (x7_4 : Int).toNat) (c := co50) ((Kd.R_reads' (Kd.R_after (ok := (fun _ => True)) (by (with_reducible repeat (first | apply Kd.R_alloc | apply Kd.R_drewN | apply Kd.R_drew)); exact HO_4.out) hg hat)).2.2) KL54.out ((Kd.R_reads' (Kd.R_after (ok := (fun _ => True)) (by (with_reducible repeat (first | apply Kd.R_alloc | apply Kd.R_drewN | apply Kd.R_drew)); exact HO_4.out) hg hat)).2.1))); have n4_ := Aside0.mk (ho); clear HO_4; clear HB; clear HR188; clear HR199; clear HO195; have HO_4 := n0_; have HB := n1_; have HR188 := n2_; have HR199 := n3_; have HO202 := n4_; clear n0_ n1_ n2_ n3_ n4_; clear ho hb hg hat))
                                      go_roundg k4
                                      case measure => have := HK1.out; have := HJ2.out; have := HJ9.out; have := HK4.out; omega
                                      case rel => exact ⟨(y200), (x5_9), (wrap64 (x6_1 + 1)), (by first | rfl | (simp; done) | (simp [*]; done)), (by first | rfl | (simp; done) | (simp [*]; done)), H', ⟨by have := HK1.out; have := HJ2.out; have := HJ9.out; have := HK4.out; omega⟩, ⟨by (with_reducible repeat (first | apply Kd.R_alloc | apply Kd.R_drewN | apply Kd.R_drew)); exact Kd.R_mono HO202.out (fun _ hk => trivial)⟩, ⟨by repeat (first | (with_reducible first | exact HB.out | apply below_alloc | apply pw_below_drewN | apply below_drew1) | exact HB.out)⟩⟩
                                    · rw [if_neg c48] at H
                                      exact absurd H (by simp)
                                  · rw [if_neg c45] at H
                                    exact absurd H (by simp)
                                · rw [if_neg c44] at H
                                  exact absurd H (by simp)
                              · rw [if_neg c43] at H
                                exact absurd H (by simp)
                            · rw [if_neg c42] at H
                              exact absurd H (by simp)
                          · rw [if_neg c41] at H
                            exact absurd H (by simp)
                        · rw [if_neg c40] at H
                          exact absurd H (by simp)
      · rw [if_neg c2] at H
        have c2b0 : decide (x6_1 < (l0.length : Int)) = false := decide_eq_false c2
        clear c2
        simp only [Option.some.injEq, Prod.mk.injEq] at H
        obtain ⟨rfl, rfl⟩ := H
        go_wp2
        go_ret2
        exact ⟨_, by first | rfl | (simp [errW_none, errW_some] <;> rfl) | (simp [*, errW_none, errW_some] <;> rfl), by (with_reducible repeat (first | apply Kd.R_alloc | apply Kd.R_drewN | apply Kd.R_drew)); exact HO_4.out, by repeat (first | (with_reducible first | exact HB.out | apply below_alloc | apply pw_below_drewN | apply below_drew1) | exact HB.out)⟩

end Go.Proofs.YtcdhhaedgohlgaaGreatDoor.P
end

section
namespace Go.Proofs.YtcdhhaedgohlgaaGreatDoor.P
open Go.RowKit Go.Proofs.YtcdhhaedgohlgaaGreatDoorW.PrintWords Go.Proofs.YtcdhhaedgohlgaaGreatDoorW.PrintLast Go.Proofs.YtcdhhaedgohlgaaGreatDoorW.PrintMore
attribute [local go_sem] max2_int min2_int max_two min_two max_three min_three max_four min_four   -- for this text's walks alone
set_option linter.unusedVariables false
set_option linter.unusedSimpArgs false

mutual
def chalklineref14_Resolve.j0 : Nat → List Int → List Int → Int → Bool → Option (List Int × Int)
  | 0, _, _, _, _ => none
  | k + 1, x0, x1, x2, x19 => if x19 = true then (some (([] : List Int), 140)) else ((chalklineref14_Has.f k x0 x2).bind fun t248 => (if t248 = true then ((chalklineref14_Has.f k x1 (wrap64 (-x2))).bind fun t249 => (chalklineref14_Resolve.j1 k x0 x1 x2 x2 (!t249))) else (chalklineref14_Resolve.j1 k x0 x1 x2 x2 true)))
def chalklineref14_Resolve.j1 : Nat → List Int → List Int → Int → Int → Bool → Option (List Int × Int)
  | 0, _, _, _, _, _ => none
  | k + 1, x0, x1, x2, x8, x31 => if x31 = true then (chalklineref14_Resolve.j2 k x0 x1 (wrap64 (-x2))) else (chalklineref14_Resolve.j2 k x0 x1 x8)
def chalklineref14_Resolve.j2 : Nat → List Int → List Int → Int → Option (List Int × Int)
  | 0, _, _, _ => none
  | k + 1, x0, x1, x8 => (chalklineref14_Has.f k x0 x8).bind fun t250 => (if t250 = true then ((chalklineref14_Has.f k x1 (wrap64 (-x8))).bind fun t251 => (chalklineref14_Resolve.j3 k x0 x1 x8 (!t251))) else (chalklineref14_Resolve.j3 k x0 x1 x8 true))
def chalklineref14_Resolve.j3 : Nat → List Int → List Int → Int → Bool → Option (List Int × Int)
  | 0, _, _, _, _ => none
  | k + 1, x0, x1, x8, x44 => if x44 = true then (some (([] : List Int), 140)) else (chalklineref14_Resolve.l0 k x0 x1 x8 ([] : List Int) 0)
def chalklineref14_Resolve.l0 : Nat → List Int → List Int → Int → List Int → Int → Option (List Int × Int)
  | 0, _, _, _, _, _ => none
  | k + 1, x0, x1, x8, x9, x10 => if x10 < (x0.length : Int) then (if 0 ≤ x10 then (if (rd x0 x10) = x8 then (chalklineref14_Resolve.l0 k x0 x1 x8 x9 (wrap64 (x10 + 1))) else (if x9.length < 17592186044416 then (chalklineref14_Resolve.l0 k x0 x1 x8 (x9 ++ [rd x0 x10]) (wrap64 (x10 + 1))) else (none))) else (none)) else (chalklineref14_Resolve.l1 k x1 x8 x9 0)
def chalklineref14_Resolve.l1 : Nat → List Int → Int → List Int → Int → Option (List Int × Int)
  | 0, _, _, _, _ => none
  | k + 1, x1, x8, x9, x11 => if x11 < (x1.length : Int) then (if 0 ≤ x11 then (if (rd x1 x11) = (wrap64 (-x8)) then (chalklineref14_Resolve.l1 k x1 x8 x9 (wrap64 (x11 + 1))) else (if x9.length < 17592186044416 then (chalklineref14_Resolve.l1 k x1 x8 (x9 ++ [rd x1 x11]) (wrap64 (x11 + 1))) else (none))) else (none)) else ((chalklineref14_Norm.f k x9).bind fun bt262 => (some (bt262.1, 0)))
end
def chalklineref14_Resolve.f (k : Nat) (l0 : List Int) (l1 : List Int) (a2 : Int) : Option (List Int × Int) := if a2 < 1 then (chalklineref14_Resolve.j0 k l0 l1 a2 true) else (chalklineref14_Resolve.j0 k l0 l1 a2 (decide (a2 > 65536)))
theorem chalklineref14_Resolve.mono_l : ∀ k, (∀ y0 y1 y2 y3, LeO (chalklineref14_Resolve.j0 k y0 y1 y2 y3) (chalklineref14_Resolve.j0 (k + 1) y0 y1 y2 y3)) ∧ (∀ y0 y1 y2 y3 y4, LeO (chalklineref14_Resolve.j1 k y0 y1 y2 y3 y4) (chalklineref14_Resolve.j1 (k + 1) y0 y1 y2 y3 y4)) ∧ (∀ y0 y1 y2, LeO (chalklineref14_Resolve.j2 k y0 y1 y2) (chalklineref14_Resolve.j2 (k + 1) y0 y1 y2)) ∧ (∀ y0 y1 y2 y3, LeO (chalklineref14_Resolve.j3 k y0 y1 y2 y3) (chalklineref14_Resolve.j3 (k + 1) y0 y1 y2 y3)) ∧ (∀ y0 y1 y2 y3 y4, LeO (chalklineref14_Resolve.l0 k y0 y1 y2 y3 y4) (chalklineref14_Resolve.l0 (k + 1) y0 y1 y2 y3 y4)) ∧ (∀ y0 y1 y2 y3, LeO (chalklineref14_Resolve.l1 k y0 y1 y2 y3) (chalklineref14_Resolve.l1 (k + 1) y0 y1 y2 y3))
  | 0 => ⟨fun _ _ _ _ r h => by simp [chalklineref14_Resolve.j0] at h, fun _ _ _ _ _ r h => by simp [chalklineref14_Resolve.j1] at h, fun _ _ _ r h => by simp [chalklineref14_Resolve.j2] at h, fun _ _ _ _ r h => by simp [chalklineref14_Resolve.j3] at h, fun _ _ _ _ _ r h => by simp [chalklineref14_Resolve.l0] at h, fun _ _ _ _ r h => by simp [chalklineref14_Resolve.l1] at h⟩
  | k + 1 => by
    obtain ⟨ih0, ih1, ih2, ih3, ih4, ih5⟩ := chalklineref14_Resolve.mono_l k
    refine ⟨?_, ?_, ?_, ?_, ?_, ?_⟩
    · intro y0 y1 y2 y3
      unfold chalklineref14_Resolve.j0
      repeat' first
      | (with_reducible exact ih0 _ _ _ _)
      | (with_reducible exact ih1 _ _ _ _ _)
      | (with_reducible exact ih2 _ _ _)
      | (with_reducible exact ih3 _ _ _ _)
      | (with_reducible exact ih4 _ _ _ _ _)
      | (with_reducible exact ih5 _ _ _ _)
      | (with_reducible exact chalklineref14_Has.mono _ _ _)
      | (with_reducible exact chalklineref14_Norm.mono _ _)
      | (with_reducible exact LeO.refl _)
      | (with_reducible exact LeO.none _)
      | (with_reducible refine LeO.ite ?_ ?_)
      | (with_reducible refine LeO.bind ?_ (fun _ => ?_))
      | exact ih0 _ _ _ _
      | exact ih1 _ _ _ _ _
      | exact ih2 _ _ _
      | exact ih3 _ _ _ _
      | exact ih4 _ _ _ _ _
      | exact ih5 _ _ _ _
      | exact chalklineref14_Has.mono _ _ _
      | exact chalklineref14_Norm.mono _ _
      | exact LeO.none _
      | refine LeO.ite ?_ ?_
      | refine LeO.bind ?_ (fun _ => ?_)
    · intro y0 y1 y2 y3 y4
      unfold chalklineref14_Resolve.j1
      repeat' first
      | (with_reducible exact ih0 _ _ _ _)
      | (with_reducible exact ih1 _ _ _ _ _)
      | (with_reducible exact ih2 _ _ _)
      | (with_reducible exact ih3 _ _ _ _)
      | (with_reducible exact ih4 _ _ _ _ _)
      | (with_reducible exact ih5 _ _ _ _)
      | (with_reducible exact chalklineref14_Has.mono _ _ _)
      | (with_reducible exact chalklineref14_Norm.mono _ _)
      | (with_reducible exact LeO.refl _)
      | (with_reducible exact LeO.none _)
      | (with_reducible refine LeO.ite ?_ ?_)
      | (with_reducible refine LeO.bind ?_ (fun _ => ?_))
      | exact ih0 _ _ _ _
      | exact ih1 _ _ _ _ _
      | exact ih2 _ _ _
      | exact ih3 _ _ _ _
      | exact ih4 _ _ _ _ _
      | exact ih5 _ _ _ _
      | exact chalklineref14_Has.mono _ _ _
      | exact chalklineref14_Norm.mono _ _
      | exact LeO.none _
      | refine LeO.ite ?_ ?_
      | refine LeO.bind ?_ (fun _ => ?_)
    · intro y0 y1 y2
      unfold chalklineref14_Resolve.j2
      repeat' first
      | (with_reducible exact ih0 _ _ _ _)
      | (with_reducible exact ih1 _ _ _ _ _)
      | (with_reducible exact ih2 _ _ _)
      | (with_reducible exact ih3 _ _ _ _)
      | (with_reducible exact ih4 _ _ _ _ _)
      | (with_reducible exact ih5 _ _ _ _)
      | (with_reducible exact chalklineref14_Has.mono _ _ _)
      | (with_reducible exact chalklineref14_Norm.mono _ _)
      | (with_reducible exact LeO.refl _)
      | (with_reducible exact LeO.none _)
      | (with_reducible refine LeO.ite ?_ ?_)
      | (with_reducible refine LeO.bind ?_ (fun _ => ?_))
      | exact ih0 _ _ _ _
      | exact ih1 _ _ _ _ _
      | exact ih2 _ _ _
      | exact ih3 _ _ _ _
      | exact ih4 _ _ _ _ _
      | exact ih5 _ _ _ _
      | exact chalklineref14_Has.mono _ _ _
      | exact chalklineref14_Norm.mono _ _
      | exact LeO.none _
      | refine LeO.ite ?_ ?_
      | refine LeO.bind ?_ (fun _ => ?_)
    · intro y0 y1 y2 y3
      unfold chalklineref14_Resolve.j3
      repeat' first
      | (with_reducible exact ih0 _ _ _ _)
      | (with_reducible exact ih1 _ _ _ _ _)
      | (with_reducible exact ih2 _ _ _)
      | (with_reducible exact ih3 _ _ _ _)
      | (with_reducible exact ih4 _ _ _ _ _)
      | (with_reducible exact ih5 _ _ _ _)
      | (with_reducible exact chalklineref14_Has.mono _ _ _)
      | (with_reducible exact chalklineref14_Norm.mono _ _)
      | (with_reducible exact LeO.refl _)
      | (with_reducible exact LeO.none _)
      | (with_reducible refine LeO.ite ?_ ?_)
      | (with_reducible refine LeO.bind ?_ (fun _ => ?_))
      | exact ih0 _ _ _ _
      | exact ih1 _ _ _ _ _
      | exact ih2 _ _ _
      | exact ih3 _ _ _ _
      | exact ih4 _ _ _ _ _
      | exact ih5 _ _ _ _
      | exact chalklineref14_Has.mono _ _ _
      | exact chalklineref14_Norm.mono _ _
      | exact LeO.none _
      | refine LeO.ite ?_ ?_
      | refine LeO.bind ?_ (fun _ => ?_)
    · intro y0 y1 y2 y3 y4
      unfold chalklineref14_Resolve.l0
      repeat' first
      | (with_reducible exact ih0 _ _ _ _)
      | (with_reducible exact ih1 _ _ _ _ _)
      | (with_reducible exact ih2 _ _ _)
      | (with_reducible exact ih3 _ _ _ _)
      | (with_reducible exact ih4 _ _ _ _ _)
      | (with_reducible exact ih5 _ _ _ _)
      | (with_reducible exact chalklineref14_Has.mono _ _ _)
      | (with_reducible exact chalklineref14_Norm.mono _ _)
      | (with_reducible exact LeO.refl _)
      | (with_reducible exact LeO.none _)
      | (with_reducible refine LeO.ite ?_ ?_)
      | (with_reducible refine LeO.bind ?_ (fun _ => ?_))
      | exact ih0 _ _ _ _
      | exact ih1 _ _ _ _ _
      | exact ih2 _ _ _
      | exact ih3 _ _ _ _
      | exact ih4 _ _ _ _ _
      | exact ih5 _ _ _ _
      | exact chalklineref14_Has.mono _ _ _
      | exact chalklineref14_Norm.mono _ _
      | exact LeO.none _
      | refine LeO.ite ?_ ?_
      | refine LeO.bind ?_ (fun _ => ?_)
    · intro y0 y1 y2 y3
      unfold chalklineref14_Resolve.l1
      repeat' first
      | (with_reducible exact ih0 _ _ _ _)
      | (with_reducible exact ih1 _ _ _ _ _)
      | (with_reducible exact ih2 _ _ _)
      | (with_reducible exact ih3 _ _ _ _)
      | (with_reducible exact ih4 _ _ _ _ _)
      | (with_reducible exact ih5 _ _ _ _)
      | (with_reducible exact chalklineref14_Has.mono _ _ _)
      | (with_reducible exact chalklineref14_Norm.mono _ _)
      | (with_reducible exact LeO.refl _)
      | (with_reducible exact LeO.none _)
      | (with_reducible refine LeO.ite ?_ ?_)
      | (with_reducible refine LeO.bind ?_ (fun _ => ?_))
      | exact ih0 _ _ _ _
      | exact ih1 _ _ _ _ _
      | exact ih2 _ _ _
      | exact ih3 _ _ _ _
      | exact ih4 _ _ _ _ _
      | exact ih5 _ _ _ _
      | exact chalklineref14_Has.mono _ _ _
      | exact chalklineref14_Norm.mono _ _
      | exact LeO.none _
      | refine LeO.ite ?_ ?_
      | refine LeO.bind ?_ (fun _ => ?_)
theorem chalklineref14_Resolve.mono : ∀ a0 a1 a2 k, LeO (chalklineref14_Resolve.f k a0 a1 a2) (chalklineref14_Resolve.f (k + 1) a0 a1 a2) := by
  intro a0 a1 a2 k
  obtain ⟨ih0, ih1, ih2, ih3, ih4, ih5⟩ := chalklineref14_Resolve.mono_l k
  unfold chalklineref14_Resolve.f
  repeat' first
      | (with_reducible exact ih0 _ _ _ _)
      | (with_reducible exact ih1 _ _ _ _ _)
      | (with_reducible exact ih2 _ _ _)
      | (with_reducible exact ih3 _ _ _ _)
      | (with_reducible exact ih4 _ _ _ _ _)
      | (with_reducible exact ih5 _ _ _ _)
      | (with_reducible exact chalklineref14_Has.mono _ _ _)
      | (with_reducible exact chalklineref14_Norm.mono _ _)
      | (with_reducible exact LeO.refl _)
      | (with_reducible exact LeO.none _)
      | (with_reducible refine LeO.ite ?_ ?_)
      | (with_reducible refine LeO.bind ?_ (fun _ => ?_))
      | exact ih0 _ _ _ _
      | exact ih1 _ _ _ _ _
      | exact ih2 _ _ _
      | exact ih3 _ _ _ _
      | exact ih4 _ _ _ _ _
      | exact ih5 _ _ _ _
      | exact chalklineref14_Has.mono _ _ _
      | exact chalklineref14_Norm.mono _ _
      | exact LeO.none _
      | refine LeO.ite ?_ ?_
      | refine LeO.bind ?_ (fun _ => ?_)
set_option maxHeartbeats 8000000 in
set_option maxRecDepth 100000 in
theorem chalklineref14_Resolve.calls (k : Nat) (A0 : Option Addr) (c0 : Nat) (l0 : List Int) (A1 : Option Addr) (c1 : Nat) (l1 : List Int) (a2 : Int) (r1 : List Int) (r2 : Int) (w : World) (hr0 : Kd.C (Kd.int .i64) w A0 l0.length l0) (hc0 : l0.length ≤ c0) (hr1 : Kd.C (Kd.int .i64) w A1 l1.length l1) (hc1 : l1.length ≤ c1) (h : chalklineref14_Resolve.f k l0 l1 a2 = some (r1, r2)) :
    Calls Tryz.prog 37 #[.slice A0 l0.length c0, .slice A1 l1.length c1, .int .i64 a2] w fun e w' => ∃ v0_ : Value, e = .returned (.tuple #[v0_, .int .i64 r2]) ∧ Kd.R (Kd.int .i64) 3 w' w.heap.size (fun _ => True) v0_ r1 ∧ Below w.heap.size w w' := by
  have HR0 := Aside0.mk hr0
  have HC0 := Aside0.mk hc0
  clear hr0 hc0
  have HR1 := Aside0.mk hr1
  have HC1 := Aside0.mk hc1
  clear hr1 hc1
  have HB := Aside0.mk (Below.refl w.heap.size w)
  have H : (if a2 < 1 then (chalklineref14_Resolve.j0 k l0 l1 a2 true) else (chalklineref14_Resolve.j0 k l0 l1 a2 (decide (a2 > 65536)))) = some (r1, r2) := h
  clear h
  have HC4 := Aside0.mk H
  clear H
  go_enter Tryz.func37, Tryz.ntmps37
  go_upto_region 1 with (fail)
  go_cut [19] (fun v19 wc => ∃ (kq : Nat) (x19_3 : Bool), v19 = .bool x19_3 ∧ Aside0 (chalklineref14_Resolve.j0 kq l0 l1 a2 x19_3 = some (r1, r2)) ∧ Aside0 (kq ≤ k) ∧ Aside0 (Below w.heap.size w wc))
  case first =>
    have H := HC4.out
    clear HC4
    by_cases c5 : a2 < 1
    · rw [if_pos c5] at H
      have c5b0 : decide (a2 < 1) = true := decide_eq_true c5
      clear c5
      (first | rw [c5b0] | (simp only [i64_w, i32_w]; rw [c5b0]) | skip)
      have H' := Aside0.mk H
      clear H
      go_wp2
      go_meet
      case rel => exact ⟨_, (true), (by first | rfl | (simp; done) | (simp [*]; done)), H', ⟨by first | omega | exact Nat.le_refl _⟩, ⟨by repeat (first | (with_reducible first | exact HB.out | apply below_alloc | apply pw_below_drewN | apply below_drew1) | exact HB.out)⟩⟩
    · rw [if_neg c5] at H
      have c5b0 : decide (a2 < 1) = false := decide_eq_false c5
      clear c5
      (first | rw [c5b0] | (simp only [i64_w, i32_w]; rw [c5b0]) | skip)
      have H' := Aside0.mk H
      clear H
      go_wp2
      go_meet
      case rel => exact ⟨_, (decide (a2 > 65536)), (by first | rfl | (simp; done) | (simp [*]; done)), H', ⟨by first | omega | exact Nat.le_refl _⟩, ⟨by repeat (first | (with_reducible first | exact HB.out | apply below_alloc | apply pw_below_drewN | apply below_drew1) | exact HB.out)⟩⟩
  case rest =>
    clear HC4
    try clear c1
    try clear p2
    try clear c3
    try clear c5
    try clear c5b0
    obtain ⟨kq, x19_3, rfl, HA, HJ3, HB⟩ := hcut
    cases kq with
    | zero => exact absurd HA.out (by simp [chalklineref14_Resolve.j0])
    | succ kj3 =>
      have H := HA.out
      clear HA
      simp only [chalklineref14_Resolve.j0] at H
      by_cases c6 : x19_3 = true
      · subst c6
        have H1 : (some (([] : List Int), 140)) = some (r1, r2) := by rw [if_pos rfl] at H; exact H
        clear H
        have H := H1
        clear H1
        simp only [Option.some.injEq, Prod.mk.injEq] at H
        obtain ⟨rfl, rfl⟩ := H
        go_wp2
        go_ret2
        exact ⟨_, by first | rfl | (simp [errW_none, errW_some] <;> rfl) | (simp [*, errW_none, errW_some] <;> rfl), by first | exact Kd.R_nil _ _ _ _ _ | exact Kd.N_nil _ _ _ _ _ | exact Kd.V_nil _ _ _ _ _ | exact Kd.Q_nil _ _ _ _ _ | exact Kd.S_nil _ _ _ _ _, by repeat (first | (with_reducible first | exact HB.out | apply below_alloc | apply pw_below_drewN | apply below_drew1) | exact HB.out)⟩
      · replace c6 := Bool.eq_false_iff.mpr c6
        subst c6
        have H1 : ((chalklineref14_Has.f kj3 l0 a2).bind fun t248 => (if t248 = true then ((chalklineref14_Has.f kj3 l1 (wrap64 (-a2))).bind fun t249 => (chalklineref14_Resolve.j1 kj3 l0 l1 a2 a2 (!t249))) else (chalklineref14_Resolve.j1 kj3 l0 l1 a2 a2 true))) = some (r1, r2) := by rw [if_neg (show ¬ (false = true) by decide)] at H; exact H
        clear H
        have H := H1
        clear H1
        have HC7 := Aside0.mk H
        clear H
        go_upto_region 4 with (fail)
        go_cut [31] (fun v31 wc => ∃ (kq : Nat) (x31_6 : Bool), v31 = .bool x31_6 ∧ Aside0 (chalklineref14_Resolve.j1 kq l0 l1 a2 a2 x31_6 = some (r1, r2)) ∧ Aside0 (kq ≤ kj3) ∧ Aside0 (Below w.heap.size w wc))
        case first =>
          have H := HC7.out
          clear HC7
          replace H := Option.bind_eq_some_iff.mp H
          obtain ⟨t248, A80, H⟩ := H
          replace H : (if t248 = true then ((chalklineref14_Has.f kj3 l1 (wrap64 (-a2))).bind fun t249 => (chalklineref14_Resolve.j1 kj3 l0 l1 a2 a2 (!t249))) else (chalklineref14_Resolve.j1 kj3 l0 l1 a2 a2 true)) = some (r1, r2) := H
          have A8 := Aside0.mk A80
          clear A80
          by_cases c9 : t248 = true
          · subst c9
            have H1 : ((chalklineref14_Has.f kj3 l1 (wrap64 (-a2))).bind fun t249 => (chalklineref14_Resolve.j1 kj3 l0 l1 a2 a2 (!t249))) = some (r1, r2) := by rw [if_pos rfl] at H; exact H
            clear H
            have H := H1
            clear H1
            replace H := Option.bind_eq_some_iff.mp H
            obtain ⟨t249, A100, H⟩ := H
            replace H : (chalklineref14_Resolve.j1 kj3 l0 l1 a2 a2 (!t249)) = some (r1, r2) := H
            have A10 := Aside0.mk A100
            clear A100
            have H' := Aside0.mk H
            clear H
            go_wp2_with (first | ((with_reducible refine gate_callee (f := 42) rfl ?_); refine goesL_ (some 23) rfl rfl Tryz.func42 (by kernel_rfl) rfl #[.slice A0 l0.length c0, .int .i64 a2] rfl (by (try simp only [List.map_toArray, List.map_cons, List.map_nil]); first | done | rfl | (simp only [List.length_drop, List.length_take]; rfl)) ?_; (with_reducible refine (chalklineref14_Has.calls kj3 _ _ l0 a2 true _ ?side1 ?side2 A8.out).mono ?_); (case side1 => repeat (first | exact (Kd.C_below HR0.out HB.out) | (with_reducible refine Kd.C_alloc ?_ _) | (with_reducible refine Kd.C_drewN ?_ _) | (with_reducible refine Kd.C_drew ?_))); (case side2 => exact HC0.out); rintro e w' ⟨rfl, ⟨nd, rfl⟩⟩; refine ⟨_, rfl, ?_⟩) | (go_at_call 42; (with_reducible refine (chalklineref14_Has.calls kj3 _ _ l1 (wrap64 (-a2)) t249 _ ?side1 ?side2 A10.out).mono ?_); (case side1 => repeat (first | exact (Kd.C_below HR1.out (by repeat (first | (with_reducible first | exact HB.out | apply below_alloc | apply pw_below_drewN | apply below_drew1) | exact HB.out))) | (with_reducible refine Kd.C_alloc ?_ _) | (with_reducible refine Kd.C_drewN ?_ _) | (with_reducible refine Kd.C_drew ?_))); (case side2 => exact HC1.out); rintro e w' ⟨rfl, ⟨nd, rfl⟩⟩))
            go_meet
            case rel => exact ⟨_, (!t249), (by first | rfl | (simp; done) | (simp [*]; done)), H', ⟨by have := HJ3.out; first | omega | exact Nat.le_refl _⟩, ⟨by repeat (first | (with_reducible first | exact HB.out | apply below_alloc | apply pw_below_drewN | apply below_drew1) | exact HB.out)⟩⟩
          · replace c9 := Bool.eq_false_iff.mpr c9
            subst c9
            have H1 : (chalklineref14_Resolve.j1 kj3 l0 l1 a2 a2 true) = some (r1, r2) := by rw [if_neg (show ¬ (false = true) by decide)] at H; exact H
            clear H
            have H := H1
            clear H1
            have H' := Aside0.mk H
            clear H
            go_wp2_with (first | ((with_reducible refine gate_callee (f := 42) rfl ?_); refine goesL_ (some 23) rfl rfl Tryz.func42 (by kernel_rfl) rfl #[.slice A0 l0.length c0, .int .i64 a2] rfl (by (try simp only [List.map_toArray, List.map_cons, List.map_nil]); first | done | rfl | (simp only [List.length_drop, List.length_take]; rfl)) ?_; (with_reducible refine (chalklineref14_Has.calls kj3 _ _ l0 a2 false _ ?side1 ?side2 A8.out).mono ?_); (case side1 => repeat (first | exact (Kd.C_below HR0.out HB.out) | (with_reducible refine Kd.C_alloc ?_ _) | (with_reducible refine Kd.C_drewN ?_ _) | (with_reducible refine Kd.C_drew ?_))); (case side2 => exact HC0.out); rintro e w' ⟨rfl, ⟨nd, rfl⟩⟩; refine ⟨_, rfl, ?_⟩))
            go_meet
            case rel => exact ⟨_, (true), (by first | rfl | (simp; done) | (simp [*]; done)), H', ⟨by have := HJ3.out; first | omega | exact Nat.le_refl _⟩, ⟨by repeat (first | (with_reducible first | exact HB.out | apply below_alloc | apply pw_below_drewN | apply below_drew1) | exact HB.out)⟩⟩
        case rest =>
          clear HC7
          try clear c1
          try clear p2
          try clear c3
          try clear c4
          try clear c5
          try clear c5b0
          try clear c6
          try clear p6
          try clear c9
          try clear p2
          obtain ⟨kq, x31_6, rfl, HA, HJ6, HB⟩ := hcut
          cases kq with
          | zero => exact absurd HA.out (by simp [chalklineref14_Resolve.j1])
          | succ kj6 =>
            have H := HA.out
            clear HA
            simp only [chalklineref14_Resolve.j1] at H
            have HC11 := Aside0.mk H
            clear H
            go_upto_if 31 with (fail)
            go_cut [8] (fun v8 wc => ∃ (kq : Nat) (x8_10 : Int), v8 = .int .i64 x8_10 ∧ Aside0 (chalklineref14_Resolve.j2 kq l0 l1 x8_10 = some (r1, r2)) ∧ Aside0 (kq ≤ kj6) ∧ Aside0 (Below w.heap.size w wc))
            case first =>
              have H := HC11.out
              clear HC11
              by_cases c12 : x31_6 = true
              · subst c12
                have H1 : (chalklineref14_Resolve.j2 kj6 l0 l1 (wrap64 (-a2))) = some (r1, r2) := by rw [if_pos rfl] at H; exact H
                clear H
                have H := H1
                clear H1
                have H' := Aside0.mk H
                clear H
                go_wp2
                go_meet
                case rel => exact ⟨_, (wrap64 (-a2)), (by first | rfl | (simp; done) | (simp [*]; done)), H', ⟨by have := HJ3.out; have := HJ6.out; first | omega | exact Nat.le_refl _⟩, ⟨by repeat (first | (with_reducible first | exact HB.out | apply below_alloc | apply pw_below_drewN | apply below_drew1) | exact HB.out)⟩⟩
              · replace c12 := Bool.eq_false_iff.mpr c12
                subst c12
                have H1 : (chalklineref14_Resolve.j2 kj6 l0 l1 a2) = some (r1, r2) := by rw [if_neg (show ¬ (false = true) by decide)] at H; exact H
                clear H
                have H := H1
                clear H1
                have H' := Aside0.mk H
                clear H
                go_wp2
                go_meet
                case rel => exact ⟨_, (a2), (by first | rfl | (simp; done) | (simp [*]; done)), H', ⟨by have := HJ3.out; have := HJ6.out; first | omega | exact Nat.le_refl _⟩, ⟨by repeat (first | (with_reducible first | exact HB.out | apply below_alloc | apply pw_below_drewN | apply below_drew1) | exact HB.out)⟩⟩
            case rest =>
              clear HC11
              try clear c1
              try clear p2
              try clear c3
              try clear c4
              try clear c5
              try clear c5b0
              try clear c6
              try clear p6
              try clear c9
              try clear c12
              try clear p2
              try clear p6
              obtain ⟨kq, x8_10, rfl, HA, HJ10, HB⟩ := hcut
              cases kq with
              | zero => exact absurd HA.out (by simp [chalklineref14_Resolve.j2])
              | succ kj10 =>
                have H := HA.out
                clear HA
                simp only [chalklineref14_Resolve.j2] at H
                have HC13 := Aside0.mk H
                clear H
                go_upto_region 6 with (fail)
                go_cut [44] (fun v44 wc => ∃ (kq : Nat) (x44_12 : Bool), v44 = .bool x44_12 ∧ Aside0 (chalklineref14_Resolve.j3 kq l0 l1 x8_10 x44_12 = some (r1, r2)) ∧ Aside0 (kq ≤ kj10) ∧ Aside0 (Below w.heap.size w wc))
                case first =>
                  have H := HC13.out
                  clear HC13
                  replace H := Option.bind_eq_some_iff.mp H
                  obtain ⟨t250, A140, H⟩ := H
                  replace H : (if t250 = true then ((chalklineref14_Has.f kj10 l1 (wrap64 (-x8_10))).bind fun t251 => (chalklineref14_Resolve.j3 kj10 l0 l1 x8_10 (!t251))) else (chalklineref14_Resolve.j3 kj10 l0 l1 x8_10 true)) = some (r1, r2) := H
                  have A14 := Aside0.mk A140
                  clear A140
                  by_cases c15 : t250 = true
                  · subst c15
                    have H1 : ((chalklineref14_Has.f kj10 l1 (wrap64 (-x8_10))).bind fun t251 => (chalklineref14_Resolve.j3 kj10 l0 l1 x8_10 (!t251))) = some (r1, r2) := by rw [if_pos rfl] at H; exact H
                    clear H
                    have H := H1
                    clear H1
                    replace H := Option.bind_eq_some_iff.mp H
                    obtain ⟨t251, A160, H⟩ := H
                    replace H : (chalklineref14_Resolve.j3 kj10 l0 l1 x8_10 (!t251)) = some (r1, r2) := H
                    have A16 := Aside0.mk A160
                    clear A160
                    have H' := Aside0.mk H
                    clear H
                    go_wp2_with (first | ((with_reducible refine gate_callee (f := 42) rfl ?_); refine goesL_ (some 36) rfl rfl Tryz.func42 (by kernel_rfl) rfl #[.slice A0 l0.length c0, .int .i64 x8_10] rfl (by (try simp only [List.map_toArray, List.map_cons, List.map_nil]); first | done | rfl | (simp only [List.length_drop, List.length_take]; rfl)) ?_; (with_reducible refine (chalklineref14_Has.calls kj10 _ _ l0 x8_10 true _ ?side1 ?side2 A14.out).mono ?_); (case side1 => repeat (first | exact (Kd.C_below HR0.out HB.out) | (with_reducible refine Kd.C_alloc ?_ _) | (with_reducible refine Kd.C_drewN ?_ _) | (with_reducible refine Kd.C_drew ?_))); (case side2 => exact HC0.out); rintro e w' ⟨rfl, ⟨nd, rfl⟩⟩; refine ⟨_, rfl, ?_⟩) | (go_at_call 42; (with_reducible refine (chalklineref14_Has.calls kj10 _ _ l1 (wrap64 (-x8_10)) t251 _ ?side1 ?side2 A16.out).mono ?_); (case side1 => repeat (first | exact (Kd.C_below HR1.out (by repeat (first | (with_reducible first | exact HB.out | apply below_alloc | apply pw_below_drewN | apply below_drew1) | exact HB.out))) | (with_reducible refine Kd.C_alloc ?_ _) | (with_reducible refine Kd.C_drewN ?_ _) | (with_reducible refine Kd.C_drew ?_))); (case side2 => exact HC1.out); rintro e w' ⟨rfl, ⟨nd, rfl⟩⟩))
                    go_meet
                    case rel => exact ⟨_, (!t251), (by first | rfl | (simp; done) | (simp [*]; done)), H', ⟨by have := HJ3.out; have := HJ6.out; have := HJ10.out; first | omega | exact Nat.le_refl _⟩, ⟨by repeat (first | (with_reducible first | exact HB.out | apply below_alloc | apply pw_below_drewN | apply below_drew1) | exact HB.out)⟩⟩
                  · replace c15 := Bool.eq_false_iff.mpr c15
                    subst c15
                    have H1 : (chalklineref14_Resolve.j3 kj10 l0 l1 x8_10 true) = some (r1, r2) := by rw [if_neg (show ¬ (false = true) by decide)] at H; exact H
                    clear H
                    have H := H1
                    clear H1
                    have H' := Aside0.mk H
                    clear H
                    go_wp2_with (first | ((with_reducible refine gate_callee (f := 42) rfl ?_); refine goesL_ (some 36) rfl rfl Tryz.func42 (by kernel_rfl) rfl #[.slice A0 l0.length c0, .int .i64 x8_10] rfl (by (try simp only [List.map_toArray, List.map_cons, List.map_nil]); first | done | rfl | (simp only [List.length_drop, List.length_take]; rfl)) ?_; (with_reducible refine (chalklineref14_Has.calls kj10 _ _ l0 x8_10 false _ ?side1 ?side2 A14.out).mono ?_); (case side1 => repeat (first | exact (Kd.C_below HR0.out HB.out) | (with_reducible refine Kd.C_alloc ?_ _) | (with_reducible refine Kd.C_drewN ?_ _) | (with_reducible refine Kd.C_drew ?_))); (case side2 => exact HC0.out); rintro e w' ⟨rfl, ⟨nd, rfl⟩⟩; refine ⟨_, rfl, ?_⟩))
                    go_meet
                    case rel => exact ⟨_, (true), (by first | rfl | (simp; done) | (simp [*]; done)), H', ⟨by have := HJ3.out; have := HJ6.out; have := HJ10.out; first | omega | exact Nat.le_refl _⟩, ⟨by repeat (first | (with_reducible first | exact HB.out | apply below_alloc | apply pw_below_drewN | apply below_drew1) | exact HB.out)⟩⟩
                case rest =>
                  clear HC13
                  try clear c1
                  try clear p2
                  try clear c3
                  try clear c4
                  try clear c5
                  try clear c5b0
                  try clear c6
                  try clear p6
                  try clear c9
                  try clear c12
                  try clear c15
                  try clear p2
                  try clear p6
                  obtain ⟨kq, x44_12, rfl, HA, HJ12, HB⟩ := hcut
                  cases kq with
                  | zero => exact absurd HA.out (by simp [chalklineref14_Resolve.j3])
                  | succ kj12 =>
                    have H := HA.out
                    clear HA
                    simp only [chalklineref14_Resolve.j3] at H
                    by_cases c17 : x44_12 = true
                    · subst c17
                      have H1 : (some (([] : List Int), 140)) = some (r1, r2) := by rw [if_pos rfl] at H; exact H
                      clear H
                      have H := H1
                      clear H1
                      simp only [Option.some.injEq, Prod.mk.injEq] at H
                      obtain ⟨rfl, rfl⟩ := H
                      go_wp2
                      go_ret2
                      exact ⟨_, by first | rfl | (simp [errW_none, errW_some] <;> rfl) | (simp [*, errW_none, errW_some] <;> rfl), by first | exact Kd.R_nil _ _ _ _ _ | exact Kd.N_nil _ _ _ _ _ | exact Kd.V_nil _ _ _ _ _ | exact Kd.Q_nil _ _ _ _ _ | exact Kd.S_nil _ _ _ _ _, by repeat (first | (with_reducible first | exact HB.out | apply below_alloc | apply pw_below_drewN | apply below_drew1) | exact HB.out)⟩
                    · replace c17 := Bool.eq_false_iff.mpr c17
                      subst c17
                      have H1 : (chalklineref14_Resolve.l0 kj12 l0 l1 x8_10 ([] : List Int) 0) = some (r1, r2) := by rw [if_neg (show ¬ (false = true) by decide)] at H; exact H
                      clear H
                      have H := H1
                      clear H1
                      have H' := Aside0.mk H
                      clear H
                      go_wp2
                      go_loopg [9, 10] kj12 (fun kq v9 v10 w' => ∃ (x9_5 : List Int) (x10_5 : Int), v10 = .int .i64 x10_5 ∧ Aside0 (chalklineref14_Resolve.l0 kq l0 l1 x8_10 x9_5 x10_5 = some (r1, r2)) ∧ Aside0 (kq ≤ kj12) ∧ Aside0 (Kd.R (Kd.int .i64) 3 w' w.heap.size (fun _ => True) v9 x9_5) ∧ Aside0 (Below w.heap.size w w'))
                      case atStart => exact ⟨(([] : List Int)), (0), (by first | rfl | (simp; done) | (simp [*]; done)), H', ⟨Nat.le_refl _⟩, ⟨by first | exact Kd.R_nil _ _ _ _ _ | exact Kd.N_nil _ _ _ _ _ | exact Kd.V_nil _ _ _ _ _ | exact Kd.Q_nil _ _ _ _ _ | exact Kd.S_nil _ _ _ _ _⟩, ⟨by repeat (first | (with_reducible first | exact HB.out | apply below_alloc | apply pw_below_drewN | apply below_drew1) | exact HB.out)⟩⟩
                      case round =>
                        clear H'
                        try clear c1
                        try clear p2
                        try clear c3
                        try clear c4
                        try clear c5
                        try clear c5b0
                        try clear c6
                        try clear p6
                        try clear c9
                        try clear c12
                        try clear c15
                        try clear c17
                        try clear p2
                        try clear p6
                        obtain ⟨x9_5, x10_5, rfl, HA, HK5, HO_9, HB⟩ := hrel
                        cases gk with
                        | zero => exact absurd HA.out (by simp [chalklineref14_Resolve.l0])
                        | succ k5 =>
                          have H := HA.out
                          clear HA
                          simp only [chalklineref14_Resolve.l0] at H
                          by_cases c18 : x10_5 < (l0.length : Int)
                          · rw [if_pos c18] at H
                            have c18b0 : decide (x10_5 < (l0.length : Int)) = true := decide_eq_true c18
                            clear c18
                            by_cases c19 : 0 ≤ x10_5
                            · rw [if_pos c19] at H
                              have c19b0 : decide (0 ≤ x10_5) = true := decide_eq_true c19
                              clear c19
                              by_cases c20 : (rd l0 x10_5) = x8_10
                              · rw [if_pos c20] at H
                                have c20b0 : ((rd l0 x10_5) == x8_10) = true := beq_iff_eq.mpr c20
                                have c20b1 : ((rd l0 x10_5) != x8_10) = false := bne_eq_false_iff_eq.mpr c20
                                clear c20
                                have H' := Aside0.mk H
                                clear H
                                have p252 : 0 ≤ (x10_5 : Int) := of_decide_eq_true (by first | (with_reducible assumption) | assumption)
                                have q252 : x10_5 < (l0.length : Int) := of_decide_eq_true (by first | (with_reducible assumption) | assumption)
                                obtain ⟨ad252, e252, hx252_0⟩ := Kd.at_int HR0.out x10_5 p252 q252
                                cases e252
                                replace hx252_0 := (HB.out.cell (World.block_lt_of_cell? w _ hx252_0)).trans hx252_0
                                replace p252 := eq_true p252
                                replace q252 := eq_true q252
                                go_wp2
                                go_roundg k5
                                case measure => have := HJ3.out; have := HJ6.out; have := HJ10.out; have := HJ12.out; have := HK5.out; omega
                                case rel => exact ⟨(x9_5), (wrap64 (x10_5 + 1)), (by first | rfl | (simp; done) | (simp [*]; done)), H', ⟨by have := HJ3.out; have := HJ6.out; have := HJ10.out; have := HJ12.out; have := HK5.out; omega⟩, ⟨by (with_reducible repeat (first | apply Kd.R_alloc | apply Kd.R_drewN | apply Kd.R_drew)); exact HO_9.out⟩, ⟨by repeat (first | (with_reducible first | exact HB.out | apply below_alloc | apply pw_below_drewN | apply below_drew1) | exact HB.out)⟩⟩
                              · rw [if_neg c20] at H
                                have c20b0 : ((rd l0 x10_5) == x8_10) = false := beq_eq_false_iff_ne.mpr c20
                                have c20b1 : ((rd l0 x10_5) != x8_10) = true := bne_iff_ne.mpr c20
                                by_cases c21 : x9_5.length < 17592186044416
                                · rw [if_pos c21] at H
                                  have LMc21 := Aside0.mk c21
                                  clear c21
                                  obtain ⟨y254, hy254⟩ : ∃ y_ : List Int, y_ = (x9_5 ++ [rd l0 x10_5]) := ⟨_, rfl⟩
                                  replace H : (chalklineref14_Resolve.l0 k5 l0 l1 x8_10 y254 (wrap64 (x10_5 + 1))) = some (r1, r2) := by first | (rw [hy254]; with_reducible exact H) | (have H2_ := (Option.bind_some _ _).symm.trans H; rw [hy254]; with_reducible exact H2_) | (have H2_ := (Option.bind_some _ _).symm.trans H; with_reducible exact H2_) | with_reducible exact H | (rw [hy254]; exact H) | exact H
                                  have Ny254 := Aside0.mk hy254
                                  clear hy254
                                  have H' := Aside0.mk H
                                  clear H
                                  have p252 : 0 ≤ (x10_5 : Int) := of_decide_eq_true (by first | (with_reducible assumption) | assumption)
                                  have q252 : x10_5 < (l0.length : Int) := of_decide_eq_true (by first | (with_reducible assumption) | assumption)
                                  obtain ⟨ad252, e252, hx252_0⟩ := Kd.at_int HR0.out x10_5 p252 q252
                                  cases e252
                                  replace hx252_0 := (HB.out.cell (World.block_lt_of_cell? w _ hx252_0)).trans hx252_0
                                  replace p252 := eq_true p252
                                  replace q252 := eq_true q252
                                  have p253 : 0 ≤ (x10_5 : Int) := of_decide_eq_true (by first | (with_reducible assumption) | assumption)
                                  have q253 : x10_5 < (l0.length : Int) := of_decide_eq_true (by first | (with_reducible assumption) | assumption)
                                  obtain ⟨ad253, e253, hx253_0⟩ := Kd.at_int HR0.out x10_5 p253 q253
                                  obtain rfl : ad252 = ad253 := (by injection e253)
                                  replace hx253_0 := (HB.out.cell (World.block_lt_of_cell? w _ hx253_0)).trans hx253_0
                                  replace p253 := eq_true p253
                                  replace q253 := eq_true q253
                                  go_wp2_with (first | ((with_reducible refine gate_builtin (b := .append) (xs := #[.tmp 57, .tmp 62]) rfl ?_); at_builtin; refine Kd.R_append (Kd.int .i64) (w0 := w) w.heap.size rfl (.tmp 57) (.tmp 62) 25 3 (.int .i64 0) 8 rfl Tryz.underlying25 info3 rfl (by decide) (by omega) u9 x9_5 (rd l0 x10_5) [.int .i64 (rd l0 x10_5)] (fun _ => True) (fun _ => False) rfl rfl ?aP (fun _ hk => hk.elim) ?aF ?aO ?aB ?aS ?aL ?_; (case aP => exact rfl); (case aB => exact (by repeat (first | (with_reducible first | exact HB.out | apply below_alloc | apply pw_below_drewN | apply below_drew1) | exact HB.out))); (case aF => exact (fun _ _ => trivial)); (case aO => exact (by (with_reducible repeat (first | apply Kd.R_alloc | apply Kd.R_drewN | apply Kd.R_drew)); exact HO_9.out)); (case aS => exact (below_size (by repeat (first | (with_reducible first | exact HB.out | apply below_alloc | apply pw_below_drewN | apply below_drew1) | exact HB.out)))); (case aL => have := LMc21.out; omega); intro v255 w22 ho hb hg hat; rw [← Ny254.out] at ho; have n0_ := Aside0.mk (hb); have n1_ := Aside0.mk (ho); clear HB; clear HO_9; have HB := n0_; have HO256 := n1_; clear n0_ n1_; clear ho hb hg hat))
                                  go_roundg k5
                                  case measure => have := HJ3.out; have := HJ6.out; have := HJ10.out; have := HJ12.out; have := HK5.out; omega
                                  case rel => exact ⟨(y254), (wrap64 (x10_5 + 1)), (by first | rfl | (simp; done) | (simp [*]; done)), H', ⟨by have := HJ3.out; have := HJ6.out; have := HJ10.out; have := HJ12.out; have := HK5.out; omega⟩, ⟨by (with_reducible repeat (first | apply Kd.R_alloc | apply Kd.R_drewN | apply Kd.R_drew)); exact HO256.out⟩, ⟨by repeat (first | (with_reducible first | exact HB.out | apply below_alloc | apply pw_below_drewN | apply below_drew1) | exact HB.out)⟩⟩
                                · rw [if_neg c21] at H
                                  exact absurd H (by simp)
                            · rw [if_neg c19] at H
                              exact absurd H (by simp)
                          · rw [if_neg c18] at H
                            have c18b0 : decide (x10_5 < (l0.length : Int)) = false := decide_eq_false c18
                            clear c18
                            have H' := Aside0.mk H
                            clear H
                            go_wp2
                            go_loopg [9, 11] k5 (fun kq v9 v11 w' => ∃ (x9_6 : List Int) (x11_6 : Int), v11 = .int .i64 x11_6 ∧ Aside0 (chalklineref14_Resolve.l1 kq l1 x8_10 x9_6 x11_6 = some (r1, r2)) ∧ Aside0 (kq ≤ k5) ∧ Aside0 (Kd.R (Kd.int .i64) 3 w' w.heap.size (fun _ => True) v9 x9_6) ∧ Aside0 (Below w.heap.size w w'))
                            case atStart => exact ⟨(x9_5), (0), (by first | rfl | (simp; done) | (simp [*]; done)), H', ⟨Nat.le_refl _⟩, ⟨by (with_reducible repeat (first | apply Kd.R_alloc | apply Kd.R_drewN | apply Kd.R_drew)); exact HO_9.out⟩, ⟨by repeat (first | (with_reducible first | exact HB.out | apply below_alloc | apply pw_below_drewN | apply below_drew1) | exact HB.out)⟩⟩
                            case round =>
                              clear H'
                              try clear c1
                              try clear c2
                              try clear p2
                              try clear q2
                              try clear hx2
                              try clear c3
                              try clear c4
                              try clear c5
                              try clear c5b0
                              try clear c6
                              try clear p6
                              try clear c9
                              try clear c12
                              try clear c15
                              try clear c17
                              try clear c18
                              try clear c18b0
                              try clear c19
                              try clear c19b0
                              try clear c20
                              try clear c20b0
                              try clear c20b1
                              try clear c21
                              try clear hx252_0
                              try clear hx253_0
                              try clear p2
                              try clear p252
                              try clear p253
                              try clear p6
                              try clear q252
                              try clear q253
                              obtain ⟨x9_6, x11_6, rfl, HA, HK6, HO_9, HB⟩ := hrel
                              cases gk with
                              | zero => exact absurd HA.out (by simp [chalklineref14_Resolve.l1])
                              | succ k6 =>
                                have H := HA.out
                                clear HA
                                simp only [chalklineref14_Resolve.l1] at H
                                by_cases c23 : x11_6 < (l1.length : Int)
                                · rw [if_pos c23] at H
                                  have c23b0 : decide (x11_6 < (l1.length : Int)) = true := decide_eq_true c23
                                  clear c23
                                  by_cases c24 : 0 ≤ x11_6
                                  · rw [if_pos c24] at H
                                    have c24b0 : decide (0 ≤ x11_6) = true := decide_eq_true c24
                                    clear c24
                                    by_cases c25 : (rd l1 x11_6) = (wrap64 (-x8_10))
                                    · rw [if_pos c25] at H
                                      have c25b0 : ((rd l1 x11_6) == (wrap64 (-x8_10))) = true := beq_iff_eq.mpr c25
                                      have c25b1 : ((rd l1 x11_6) != (wrap64 (-x8_10))) = false := bne_eq_false_iff_eq.mpr c25
                                      clear c25
                                      have H' := Aside0.mk H
                                      clear H
                                      have p257 : 0 ≤ (x11_6 : Int) := of_decide_eq_true (by first | (with_reducible assumption) | assumption)
                                      have q257 : x11_6 < (l1.length : Int) := of_decide_eq_true (by first | (with_reducible assumption) | assumption)
                                      obtain ⟨ad257, e257, hx257_0⟩ := Kd.at_int HR1.out x11_6 p257 q257
                                      cases e257
                                      replace hx257_0 := (HB.out.cell (World.block_lt_of_cell? w _ hx257_0)).trans hx257_0
                                      replace p257 := eq_true p257
                                      replace q257 := eq_true q257
                                      go_wp2
                                      go_roundg k6
                                      case measure => have := HJ3.out; have := HJ6.out; have := HJ10.out; have := HJ12.out; have := HK5.out; have := HK6.out; omega
                                      case rel => exact ⟨(x9_6), (wrap64 (x11_6 + 1)), (by first | rfl | (simp; done) | (simp [*]; done)), H', ⟨by have := HJ3.out; have := HJ6.out; have := HJ10.out; have := HJ12.out; have := HK5.out; have := HK6.out; omega⟩, ⟨by (with_reducible repeat (first | apply Kd.R_alloc | apply Kd.R_drewN | apply Kd.R_drew)); exact HO_9.out⟩, ⟨by repeat (first | (with_reducible first | exact HB.out | apply below_alloc | apply pw_below_drewN | apply below_drew1) | exact HB.out)⟩⟩
                                    · rw [if_neg c25] at H
                                      have c25b0 : ((rd l1 x11_6) == (wrap64 (-x8_10))) = false := beq_eq_false_iff_ne.mpr c25
                                      have c25b1 : ((rd l1 x11_6) != (wrap64 (-x8_10))) = true := bne_iff_ne.mpr c25
                                      by_cases c26 : x9_6.length < 17592186044416
                                      · rw [if_pos c26] at H
                                        have LMc26 := Aside0.mk c26
                                        clear c26
                                        obtain ⟨y259, hy259⟩ : ∃ y_ : List Int, y_ = (x9_6 ++ [rd l1 x11_6]) := ⟨_, rfl⟩
                                        replace H : (chalklineref14_Resolve.l1 k6 l1 x8_10 y259 (wrap64 (x11_6 + 1))) = some (r1, r2) := by first | (rw [hy259]; with_reducible exact H) | (have H2_ := (Option.bind_some _ _).symm.trans H; rw [hy259]; with_reducible exact H2_) | (have H2_ := (Option.bind_some _ _).symm.trans H; with_reducible exact H2_) | with_reducible exact H | (rw [hy259]; exact H) | exact H
                                        have Ny259 := Aside0.mk hy259
                                        clear hy259
                                        have H' := Aside0.mk H
                                        clear H
                                        have p257 : 0 ≤ (x11_6 : Int) := of_decide_eq_true (by first | (with_reducible assumption) | assumption)
                                        have q257 : x11_6 < (l1.length : Int) := of_decide_eq_true (by first | (with_reducible assumption) | assumption)
                                        obtain ⟨ad257, e257, hx257_0⟩ := Kd.at_int HR1.out x11_6 p257 q257
                                        cases e257
                                        replace hx257_0 := (HB.out.cell (World.block_lt_of_cell? w _ hx257_0)).trans hx257_0
                                        replace p257 := eq_true p257
                                        replace q257 := eq_true q257
                                        have p258 : 0 ≤ (x11_6 : Int) := of_decide_eq_true (by first | (with_reducible assumption) | assumption)
                                        have q258 : x11_6 < (l1.length : Int) := of_decide_eq_true (by first | (with_reducible assumption) | assumption)
                                        obtain ⟨ad258, e258, hx258_0⟩ := Kd.at_int HR1.out x11_6 p258 q258
                                        obtain rfl : ad257 = ad258 := (by injection e258)
                                        replace hx258_0 := (HB.out.cell (World.block_lt_of_cell? w _ hx258_0)).trans hx258_0
                                        replace p258 := eq_true p258
                                        replace q258 := eq_true q258
                                        go_wp2_with (first | ((with_reducible refine gate_builtin (b := .append) (xs := #[.tmp 77, .tmp 82]) rfl ?_); at_builtin; refine Kd.R_append (Kd.int .i64) (w0 := w) w.heap.size rfl (.tmp 77) (.tmp 82) 25 3 (.int .i64 0) 8 rfl Tryz.underlying25 info3 rfl (by decide) (by omega) u9 x9_6 (rd l1 x11_6) [.int .i64 (rd l1 x11_6)] (fun _ => True) (fun _ => False) rfl rfl ?aP (fun _ hk => hk.elim) ?aF ?aO ?aB ?aS ?aL ?_; (case aP => exact rfl); (case aB => exact (by repeat (first | (with_reducible first | exact HB.out | apply below_alloc | apply pw_below_drewN | apply below_drew1) | exact HB.out))); (case aF => exact (fun _ _ => trivial)); (case aO => exact (by (with_reducible repeat (first | apply Kd.R_alloc | apply Kd.R_drewN | apply Kd.R_drew)); exact HO_9.out)); (case aS => exact (below_size (by repeat (first | (with_reducible first | exact HB.out | apply below_alloc | apply pw_below_drewN | apply below_drew1) | exact HB.out)))); (case aL => have := LMc26.out; omega); intro v260 w27 ho hb hg hat; rw [← Ny259.out] at ho; have n0_ := Aside0.mk (hb); have n1_ := Aside0.mk (ho); clear HB; clear HO_9; have HB := n0_; have HO261 := n1_; clear n0_ n1_; clear ho hb hg hat))
                                        go_roundg k6
                                        case measure => have := HJ3.out; have := HJ6.out; have := HJ10.out; have := HJ12.out; have := HK5.out; have := HK6.out; omega
                                        case rel => exact ⟨(y259), (wrap64 (x11_6 + 1)), (by first | rfl | (simp; done) | (simp [*]; done)), H', ⟨by have := HJ3.out; have := HJ6.out; have := HJ10.out; have := HJ12.out; have := HK5.out; have := HK6.out; omega⟩, ⟨by (with_reducible repeat (first | apply Kd.R_alloc | apply Kd.R_drewN | apply Kd.R_drew)); exact HO261.out⟩, ⟨by repeat (first | (with_reducible first | exact HB.out | apply below_alloc | apply pw_below_drewN | apply below_drew1) | exact HB.out)⟩⟩
                                      · rw [if_neg c26] at H
                                        exact absurd H (by simp)
                                  · rw [if_neg c24] at H
                                    exact absurd H (by simp)
                                · rw [if_neg c23] at H
                                  have c23b0 : decide (x11_6 < (l1.length : Int)) = false := decide_eq_false c23
                                  clear c23
                                  replace H := Option.bind_eq_some_iff.mp H
                                  obtain ⟨⟨t262, t263⟩, A280, H⟩ := H
                                  replace H : (some (t262, 0)) = some (r1, r2) := H
                                  have A28 := Aside0.mk A280
                                  clear A280
                                  simp only [Option.some.injEq, Prod.mk.injEq] at H
                                  obtain ⟨rfl, rfl⟩ := H
                                  obtain ⟨Ao29, co29, eo29⟩ := Kd.R_slice HO_9.out
                                  subst eo29
                                  go_wp2_with (first | ((with_reducible refine gate_callee (f := 24) rfl ?_); refine goesL_ (some 86) rfl rfl Tryz.func24 (by kernel_rfl) rfl #[.slice Ao29 x9_6.length co29] rfl (by (try simp only [List.map_toArray, List.map_cons, List.map_nil]); first | done | rfl | (simp only [List.length_drop, List.length_take]; rfl)) ?_; (with_reducible refine (chalklineref14_Norm.calls k6 _ _ x9_6 t262 t263 _ ?side1 ?side2 A28.out).mono ?_); (case side1 => repeat (first | exact (Kd.R_reads' HO_9.out).2.2 | (with_reducible refine Kd.C_alloc ?_ _) | (with_reducible refine Kd.C_drewN ?_ _) | (with_reducible refine Kd.C_drew ?_))); (case side2 => exact (Kd.R_reads' HO_9.out).2.1); rintro e w30 ⟨v264, rfl, ho0, hb⟩; refine ⟨_, rfl, ?_⟩; have n0_ := Aside0.mk (Kd.R_elder' (by (with_reducible repeat (first | apply Kd.R_alloc | apply Kd.R_drewN | apply Kd.R_drew)); exact HO_9.out) (Kd.R_base ho0) hb); have n1_ := Aside0.mk (Kd.R_lower (Kd.R_new' ho0 (Kd.R_lt (by (with_reducible repeat (first | apply Kd.R_alloc | apply Kd.R_drewN | apply Kd.R_drew)); exact HO_9.out))) (below_size (by repeat (first | (with_reducible first | exact HB.out | apply below_alloc | apply pw_below_drewN | apply below_drew1) | exact HB.out)))); have n2_ := Aside0.mk (below_step (by repeat (first | (with_reducible first | exact HB.out | apply below_alloc | apply pw_below_drewN | apply below_drew1) | exact HB.out)) hb); clear HO_9; clear HB; have HO_9 := n0_; have HO265 := n1_; have HB := n2_; clear n0_ n1_ n2_; (try clear hb); (try clear hb2); (try clear hk); (try clear hi); (try clear ho0)))
                                  go_ret2
                                  exact ⟨_, by first | rfl | (simp [errW_none, errW_some] <;> rfl) | (simp [*, errW_none, errW_some] <;> rfl), by (with_reducible repeat (first | apply Kd.R_alloc | apply Kd.R_drewN | apply Kd.R_drew)); exact Kd.R_mono HO265.out (fun _ hk => trivial), by repeat (first | (with_reducible first | exact HB.out | apply below_alloc | apply pw_below_drewN | apply below_drew1) | exact HB.out)⟩

end Go.Proofs.YtcdhhaedgohlgaaGreatDoor.P
end

section
namespace Go.Proofs.YtcdhhaedgohlgaaGreatDoor.P
open Go.RowKit Go.Proofs.YtcdhhaedgohlgaaGreatDoorW.PrintWords Go.Proofs.YtcdhhaedgohlgaaGreatDoorW.PrintLast Go.Proofs.YtcdhhaedgohlgaaGreatDoorW.PrintMore
set_option linter.unusedVariables false
set_option linter.unusedSimpArgs false

/-- The predicate value 'g' with the captured 'cb' answers 'p' at every element of l, in every later world. -/
def PredI (g : Nat) (cb : Array Value) (p : Int → Bool) (l : List Int) (w : World) : Prop :=
  ∀ (W : World) (x : Int), x ∈ l → Below w.heap.size w W → Calls Tryz.prog g (#[.int .i64 x] ++ cb) W fun e W' => e = .returned (.bool (p x)) ∧ Below W.heap.size W W'
/-- The same at slices of whole numbers. -/
def PredL (g : Nat) (cb : Array Value) (p : List Int → Bool) (l : List (List Int)) (w : World) : Prop :=
  ∀ (W : World) (x : List Int) (A : Option Addr) (c : Nat), x ∈ l → Below w.heap.size w W → x.length ≤ c → Kd.C (Kd.int .i64) W A x.length x →
    Calls Tryz.prog g (#[.slice A x.length c] ++ cb) W fun e W' => e = .returned (.bool (p x)) ∧ Below W.heap.size W W'
/-- The same at lines of a proof. -/
def PredT (g : Nat) (cb : Array Value) (p : S66 → Bool) (l : List S66) (w : World) : Prop :=
  ∀ (W : World) (x : S66) (A : Option Addr) (c : Nat), x ∈ l → Below w.heap.size w W → x.f1.length ≤ c → Kd.C (Kd.int .i64) W A x.f1.length x.f1 →
    Calls Tryz.prog g (#[.agg #[.int .i64 x.f0, .slice A x.f1.length c]] ++ cb) W fun e W' => e = .returned (.bool (p x)) ∧ Below W.heap.size W W'

theorem below_trans' {w W W' : World} (h : Below w.heap.size w W) (k : Below W.heap.size W W') : Below w.heap.size w W' := below_then h h.size k
theorem PredI.later {g : Nat} {cb : Array Value} {p : Int → Bool} {l : List Int} {w W : World} (h : PredI g cb p l w) (hb : Below w.heap.size w W) : PredI g cb p l W :=
  fun W' x hx hb' => h W' x hx (below_trans' hb hb')
theorem PredL.later {g : Nat} {cb : Array Value} {p : List Int → Bool} {l : List (List Int)} {w W : World} (h : PredL g cb p l w) (hb : Below w.heap.size w W) : PredL g cb p l W :=
  fun W' x A c hx hb' => h W' x A c hx (below_trans' hb hb')
theorem PredT.later {g : Nat} {cb : Array Value} {p : S66 → Bool} {l : List S66} {w W : World} (h : PredT g cb p l w) (hb : Below w.heap.size w W) : PredT g cb p l W :=
  fun W' x A c hx hb' => h W' x A c hx (below_trans' hb hb')

def idxF {α : Type} (p : α → Bool) (l : List α) : Int := if l.any p then (l.findIdx p : Int) else -1

theorem idxF_hit {α : Type} (p : α → Bool) (l : List α) (k : Nat) (hk : k < l.length) (h : p l[k] = true) (hb : ∀ j (hj : j < k), p (l[j]'(by omega)) = false) : idxF p l = k := by
  have ha : l.any p = true := List.any_eq_true.2 ⟨l[k], List.getElem_mem hk, h⟩
  have hf : l.findIdx p = k := (List.findIdx_eq hk).2 ⟨h, fun j hj => hb j hj⟩
  simp [idxF, ha, hf]

theorem idxF_miss {α : Type} (p : α → Bool) (l : List α) (hb : ∀ j (hj : j < l.length), p l[j] = false) : idxF p l = -1 := by
  have ha : l.any p = false := by
    rw [List.any_eq_false]
    intro x hx
    obtain ⟨j, hj, rfl⟩ := List.getElem_of_mem hx
    simp [hb j hj]
  simp [idxF, ha]

theorem idxF_nonneg {α : Type} (p : α → Bool) (l : List α) : decide (0 ≤ idxF p l) = l.any p := by
  unfold idxF
  cases l.any p <;> simp

set_option maxHeartbeats 1000000 in
theorem IndexFunc_int (g : Nat) (cb : Array Value) (p : Int → Bool) (eg : ∀ args w, (callFunc g args).run Tryz.prog w = .ok (.enter g args) w) (A0 : Option Addr) (c0 : Nat) (l0 : List Int) (w : World)
    (hr0 : Kd.C (Kd.int .i64) w A0 l0.length l0) (hc0 : l0.length ≤ c0) (hp : PredI g cb p l0 w) :
    Calls Tryz.prog 124 #[.slice A0 l0.length c0, .func (.func g) #[] cb] w fun e w' => e = .returned (.int .i64 (idxF p l0)) ∧ Below w.heap.size w w' := by
  have HR0 := Aside0.mk hr0
  have HP := Aside0.mk hp
  have hm : l0.length ≤ 9223372036854775807 := hr0.2.1
  clear hr0 hc0 hp
  go_enter Tryz.func124, Tryz.ntmps124
  go_wp2
  go_loopg [5, 8] l0.length (fun gg _ s8 wr => ∃ kk : Nat, kk ≤ l0.length ∧ l0.length - kk ≤ gg ∧ s8 = .int .i64 kk ∧ Aside0 (Below w.heap.size w wr) ∧ Aside0 (∀ j (hj : j < l0.length), j < kk → p l0[j] = false))
  case atStart => exact ⟨0, Nat.zero_le _, by omega, rfl, ⟨Below.refl _ _⟩, ⟨fun j _ hj => absurd hj (Nat.not_lt_zero _)⟩⟩
  case round =>
    obtain ⟨kk, hkk, hg, rfl, HB, HA⟩ := hrel
    by_cases hlt : kk < l0.length
    · have hltz : (kk : Int) < (l0.length : Int) := by omega
      obtain ⟨ad, e1, hx⟩ := Kd.at_int HR0.out kk (by omega) (by omega)
      cases e1
      replace hx := (HB.out.cell (World.block_lt_of_cell? w _ hx)).trans hx
      have hrd : rd l0 kk = l0[kk] := by simp [rd, hlt]
      rw [hrd, Int.toNat_natCast] at hx
      clear hrd
      have HC := Aside0.mk (fun (W : World) (hb : Below w.heap.size w W) => HP.out W l0[kk] (List.getElem_mem hlt) hb)
      cases hq : p l0[kk] with
      | true =>
        have HQ := Aside0.mk hq
        clear hq
        go_wp2_with (go_at_fn g; refine (HC.out _ HB.out).mono ?_; rintro e w' ⟨rfl, hb⟩; rw [HQ.out])
        go_ret
        refine ⟨?_, below_trans' HB.out (by assumption)⟩
        rw [idxF_hit p l0 kk hlt HQ.out (fun j hj => HA.out j (by omega) hj)]
        rfl
      | false =>
        have HQ := Aside0.mk hq
        clear hq
        go_wp2_with (go_at_fn g; refine (HC.out _ HB.out).mono ?_; rintro e w' ⟨rfl, hb⟩; rw [HQ.out]; have HB2 := Aside0.mk hb; clear hb)
        go_roundg (l0.length - (kk + 1))
        case measure => omega
        case rel =>
          rename_i HB2
          refine ⟨kk + 1, by omega, by omega, by go_num, ⟨below_trans' HB.out HB2.out⟩, ⟨fun j hj hj2 => ?_⟩⟩
          by_cases e : j = kk
          · subst e; exact HQ.out
          · exact HA.out j hj (by omega)
    · obtain rfl : kk = l0.length := by omega
      go_wp2
      go_ret
      refine ⟨?_, HB.out⟩
      rw [idxF_miss p l0 (fun j hj => HA.out j hj hj)]
      rfl

set_option maxHeartbeats 1000000 in
theorem ContainsFunc_int (g : Nat) (cb : Array Value) (p : Int → Bool) (eg : ∀ args w, (callFunc g args).run Tryz.prog w = .ok (.enter g args) w) (A0 : Option Addr) (c0 : Nat) (l0 : List Int) (w : World)
    (hr0 : Kd.C (Kd.int .i64) w A0 l0.length l0) (hc0 : l0.length ≤ c0) (hp : PredI g cb p l0 w) :
    Calls Tryz.prog 73 #[.slice A0 l0.length c0, .func (.func g) #[] cb] w fun e w' => e = .returned (.bool (l0.any p)) ∧ Below w.heap.size w w' := by
  have HI := Aside0.mk (IndexFunc_int g cb p eg A0 c0 l0 w hr0 hc0 hp)
  clear hr0 hc0 hp
  go_enter Tryz.func73, Tryz.ntmps73
  go_wp2_with (go_at_call 124; refine (HI.out).mono ?_; rintro e w' ⟨rfl, hb⟩; have HB := Aside0.mk hb; clear hb)
  go_ret
  refine ⟨?_, HB.out⟩
  rw [← idxF_nonneg p l0]
  rfl

set_option maxHeartbeats 1000000 in
theorem IndexFunc_list (g : Nat) (cb : Array Value) (p : List Int → Bool) (eg : ∀ args w, (callFunc g args).run Tryz.prog w = .ok (.enter g args) w) (A0 : Option Addr) (c0 : Nat) (l0 : List (List Int)) (w : World)
    (hr0 : Kd.C (Kd.slice 3 (Kd.int .i64)) w A0 l0.length l0) (hc0 : l0.length ≤ c0) (hp : PredL g cb p l0 w) :
    Calls Tryz.prog 114 #[.slice A0 l0.length c0, .func (.func g) #[] cb] w fun e w' => e = .returned (.int .i64 (idxF p l0)) ∧ Below w.heap.size w w' := by
  have HR0 := Aside0.mk hr0
  have HP := Aside0.mk hp
  have hm : l0.length ≤ 9223372036854775807 := hr0.2.1
  clear hr0 hc0 hp
  go_enter Tryz.func114, Tryz.ntmps114
  go_wp2
  go_loopg [5, 8] l0.length (fun gg _ s8 wr => ∃ kk : Nat, kk ≤ l0.length ∧ l0.length - kk ≤ gg ∧ s8 = .int .i64 kk ∧ Aside0 (Below w.heap.size w wr) ∧ Aside0 (∀ j (hj : j < l0.length), j < kk → p l0[j] = false))
  case atStart => exact ⟨0, Nat.zero_le _, by omega, rfl, ⟨Below.refl _ _⟩, ⟨fun j _ hj => absurd hj (Nat.not_lt_zero _)⟩⟩
  case round =>
    obtain ⟨kk, hkk, hg, rfl, HB, HA⟩ := hrel
    by_cases hlt : kk < l0.length
    · have hltz : (kk : Int) < (l0.length : Int) := by omega
      obtain ⟨ad, A1, c1, e1, hx, hl1, hK⟩ := at_L1 HR0.out kk (by omega) (by omega)
      cases e1
      replace hx := (HB.out.cell (World.block_lt_of_cell? w _ hx)).trans hx
      have hrd : rd_L1 l0 kk = l0[kk] := by simp [rd_L1, hlt]
      rw [hrd, Int.toNat_natCast] at hx
      rw [hrd] at hl1 hK
      clear hrd
      have HC := Aside0.mk (fun (W : World) (hb : Below w.heap.size w W) => HP.out W l0[kk] A1 c1 (List.getElem_mem hlt) hb hl1 (Kd.C_below hK hb))
      clear hl1 hK
      cases hq : p l0[kk] with
      | true =>
        have HQ := Aside0.mk hq
        clear hq
        go_wp2_with (go_at_fn g; refine (HC.out _ HB.out).mono ?_; rintro e w' ⟨rfl, hb⟩; rw [HQ.out])
        go_ret
        refine ⟨?_, below_trans' HB.out (by assumption)⟩
        rw [idxF_hit p l0 kk hlt HQ.out (fun j hj => HA.out j (by omega) hj)]
        rfl
      | false =>
        have HQ := Aside0.mk hq
        clear hq
        go_wp2_with (go_at_fn g; refine (HC.out _ HB.out).mono ?_; rintro e w' ⟨rfl, hb⟩; rw [HQ.out]; have HB2 := Aside0.mk hb; clear hb)
        go_roundg (l0.length - (kk + 1))
        case measure => omega
        case rel =>
          rename_i HB2
          refine ⟨kk + 1, by omega, by omega, by go_num, ⟨below_trans' HB.out HB2.out⟩, ⟨fun j hj hj2 => ?_⟩⟩
          by_cases e : j = kk
          · subst e; exact HQ.out
          · exact HA.out j hj (by omega)
    · obtain rfl : kk = l0.length := by omega
      go_wp2
      go_ret
      refine ⟨?_, HB.out⟩
      rw [idxF_miss p l0 (fun j hj => HA.out j hj hj)]
      rfl

set_option maxHeartbeats 1000000 in
theorem ContainsFunc_list (g : Nat) (cb : Array Value) (p : List Int → Bool) (eg : ∀ args w, (callFunc g args).run Tryz.prog w = .ok (.enter g args) w) (A0 : Option Addr) (c0 : Nat) (l0 : List (List Int)) (w : World)
    (hr0 : Kd.C (Kd.slice 3 (Kd.int .i64)) w A0 l0.length l0) (hc0 : l0.length ≤ c0) (hp : PredL g cb p l0 w) :
    Calls Tryz.prog 82 #[.slice A0 l0.length c0, .func (.func g) #[] cb] w fun e w' => e = .returned (.bool (l0.any p)) ∧ Below w.heap.size w w' := by
  have HI := Aside0.mk (IndexFunc_list g cb p eg A0 c0 l0 w hr0 hc0 hp)
  clear hr0 hc0 hp
  go_enter Tryz.func82, Tryz.ntmps82
  go_wp2_with (go_at_call 114; refine (HI.out).mono ?_; rintro e w' ⟨rfl, hb⟩; have HB := Aside0.mk hb; clear hb)
  go_ret
  refine ⟨?_, HB.out⟩
  rw [← idxF_nonneg p l0]
  rfl

end Go.Proofs.YtcdhhaedgohlgaaGreatDoor.P
end

section
namespace Go.Proofs.YtcdhhaedgohlgaaGreatDoor.P
open Go.RowKit Go.Proofs.YtcdhhaedgohlgaaGreatDoorW.PrintWords Go.Proofs.YtcdhhaedgohlgaaGreatDoorW.PrintLast Go.Proofs.YtcdhhaedgohlgaaGreatDoorW.PrintMore
attribute [local go_sem] max2_int min2_int max_two min_two max_three min_three max_four min_four   -- for this text's walks alone
set_option linter.unusedVariables false
set_option linter.unusedSimpArgs false

def slices_Equal_int_int.l0 : Nat → List Int → List Int → Int → Int → Option (Bool)
  | 0, _, _, _, _ => none
  | k + 1, x0, x1, x12, x13 => if x13 < x12 then (if 0 ≤ x13 then (if x13 < (x0.length : Int) then (if x13 < (x1.length : Int) then (if (rd x0 x13) = (rd x1 x13) then (slices_Equal_int_int.l0 k x0 x1 x12 (wrap64 (x13 + 1))) else (some false)) else (none)) else (none)) else (none)) else (some true)
def slices_Equal_int_int.f (k : Nat) (l0 : List Int) (l1 : List Int) : Option (Bool) := if (l0.length : Int) = (l1.length : Int) then (slices_Equal_int_int.l0 k l0 l1 (l0.length : Int) 0) else (some false)
set_option maxHeartbeats 8000000 in
set_option maxRecDepth 100000 in
theorem slices_Equal_int_int.calls (k : Nat) (A0 : Option Addr) (c0 : Nat) (l0 : List Int) (A1 : Option Addr) (c1 : Nat) (l1 : List Int) (r : Bool) (w : World) (hr0 : Kd.C (Kd.int .i64) w A0 l0.length l0) (hc0 : l0.length ≤ c0) (hr1 : Kd.C (Kd.int .i64) w A1 l1.length l1) (hc1 : l1.length ≤ c1) (h : slices_Equal_int_int.f k l0 l1 = some r) :
    Calls Tryz.prog 76 #[.slice A0 l0.length c0, .slice A1 l1.length c1] w fun e w' => e = .returned (.bool r) ∧ Drawn0 w w' := by
  have HR0 := Aside0.mk hr0
  have HC0 := Aside0.mk hc0
  clear hr0 hc0
  have HR1 := Aside0.mk hr1
  have HC1 := Aside0.mk hc1
  clear hr1 hc1
  have H : (if (l0.length : Int) = (l1.length : Int) then (slices_Equal_int_int.l0 k l0 l1 (l0.length : Int) 0) else (some false)) = some r := h
  clear h
  by_cases c3 : (l0.length : Int) = (l1.length : Int)
  · rw [if_pos c3] at H
    have c3b0 : ((l0.length : Int) == (l1.length : Int)) = true := beq_iff_eq.mpr c3
    have c3b1 : ((l0.length : Int) != (l1.length : Int)) = false := bne_eq_false_iff_eq.mpr c3
    have c3b2 : (l0.length == l1.length) = true := by first | simpa using c3 | (simp at c3 ⊢; omega)
    clear c3
    have H' := Aside0.mk H
    clear H
    go_enter Tryz.func76, Tryz.ntmps76
    go_wp2
    repeat (go_quiet (fail); try go_wp2)
    go_loopg [13] k (fun kq v13 w' => ∃ (x13_1 : Int), v13 = .int .i64 x13_1 ∧ Aside0 (slices_Equal_int_int.l0 kq l0 l1 (l0.length : Int) x13_1 = some r) ∧ Aside0 (kq ≤ k) ∧ Drawn0 w w')
    case atStart => exact ⟨(0), (by first | rfl | (simp; done) | (simp [*]; done)), H', ⟨Nat.le_refl _⟩, by repeat (first | exact Drawn0.refl _ | apply Drawn0.step)⟩
    case round =>
      clear H'
      try clear c1
      try clear p2
      try clear c3
      try clear c3b0
      try clear c3b1
      try clear c3b2
      obtain ⟨x13_1, rfl, HA, HK1, ⟨m1, rfl⟩⟩ := hrel
      cases gk with
      | zero => exact absurd HA.out (by simp [slices_Equal_int_int.l0])
      | succ k1 =>
        have H := HA.out
        clear HA
        simp only [slices_Equal_int_int.l0] at H
        by_cases c4 : x13_1 < (l0.length : Int)
        · rw [if_pos c4] at H
          have c4b0 : decide (x13_1 < (l0.length : Int)) = true := decide_eq_true c4
          clear c4
          by_cases c5 : 0 ≤ x13_1
          · rw [if_pos c5] at H
            have c5b0 : decide (0 ≤ x13_1) = true := decide_eq_true c5
            clear c5
            by_cases c6 : x13_1 < (l0.length : Int)
            · rw [if_pos c6] at H
              have c6b0 : decide (x13_1 < (l0.length : Int)) = true := decide_eq_true c6
              clear c6
              by_cases c7 : x13_1 < (l1.length : Int)
              · rw [if_pos c7] at H
                have c7b0 : decide (x13_1 < (l1.length : Int)) = true := decide_eq_true c7
                clear c7
                by_cases c8 : (rd l0 x13_1) = (rd l1 x13_1)
                · rw [if_pos c8] at H
                  have c8b0 : ((rd l0 x13_1) == (rd l1 x13_1)) = true := beq_iff_eq.mpr c8
                  have c8b1 : ((rd l0 x13_1) != (rd l1 x13_1)) = false := bne_eq_false_iff_eq.mpr c8
                  clear c8
                  have H' := Aside0.mk H
                  clear H
                  have p119 : 0 ≤ (x13_1 : Int) := of_decide_eq_true (by first | (with_reducible assumption) | assumption)
                  have q119 : x13_1 < (l0.length : Int) := of_decide_eq_true (by first | (with_reducible assumption) | assumption)
                  obtain ⟨ad119, e119, hx119_0⟩ := Kd.at_int HR0.out x13_1 p119 q119
                  cases e119
                  replace p119 := eq_true p119
                  replace q119 := eq_true q119
                  have p120 : 0 ≤ (x13_1 : Int) := of_decide_eq_true (by first | (with_reducible assumption) | assumption)
                  have q120 : x13_1 < (l1.length : Int) := of_decide_eq_true (by first | (with_reducible assumption) | assumption)
                  obtain ⟨ad120, e120, hx120_0⟩ := Kd.at_int HR1.out x13_1 p120 q120
                  cases e120
                  replace p120 := eq_true p120
                  replace q120 := eq_true q120
                  go_wp2
                  repeat (go_quiet (fail); try go_wp2)
                  go_roundg k1
                  case measure => have := HK1.out; omega
                  case rel => exact ⟨(wrap64 (x13_1 + 1)), (by first | rfl | (simp; done) | (simp [*]; done)), H', ⟨by have := HK1.out; omega⟩, by repeat (first | exact Drawn0.refl _ | apply Drawn0.step)⟩
                · rw [if_neg c8] at H
                  have c8b0 : ((rd l0 x13_1) == (rd l1 x13_1)) = false := beq_eq_false_iff_ne.mpr c8
                  have c8b1 : ((rd l0 x13_1) != (rd l1 x13_1)) = true := bne_iff_ne.mpr c8
                  obtain rfl := Option.some.inj H
                  have p119 : 0 ≤ (x13_1 : Int) := of_decide_eq_true (by first | (with_reducible assumption) | assumption)
                  have q119 : x13_1 < (l0.length : Int) := of_decide_eq_true (by first | (with_reducible assumption) | assumption)
                  obtain ⟨ad119, e119, hx119_0⟩ := Kd.at_int HR0.out x13_1 p119 q119
                  cases e119
                  replace p119 := eq_true p119
                  replace q119 := eq_true q119
                  have p120 : 0 ≤ (x13_1 : Int) := of_decide_eq_true (by first | (with_reducible assumption) | assumption)
                  have q120 : x13_1 < (l1.length : Int) := of_decide_eq_true (by first | (with_reducible assumption) | assumption)
                  obtain ⟨ad120, e120, hx120_0⟩ := Kd.at_int HR1.out x13_1 p120 q120
                  cases e120
                  replace p120 := eq_true p120
                  replace q120 := eq_true q120
                  go_wp2
                  repeat (go_quiet (fail); try go_wp2)
                  go_ret
                  exact ⟨by first | rfl | (simp; done) | (simp [*]; done), by repeat (first | exact Drawn0.refl _ | apply Drawn0.step)⟩
              · rw [if_neg c7] at H
                exact absurd H (by simp)
            · rw [if_neg c6] at H
              exact absurd H (by simp)
          · rw [if_neg c5] at H
            exact absurd H (by simp)
        · rw [if_neg c4] at H
          have c4b0 : decide (x13_1 < (l0.length : Int)) = false := decide_eq_false c4
          clear c4
          obtain rfl := Option.some.inj H
          go_wp2
          repeat (go_quiet (fail); try go_wp2)
          go_ret
          exact ⟨by first | rfl | (simp; done) | (simp [*]; done), by repeat (first | exact Drawn0.refl _ | apply Drawn0.step)⟩
  · rw [if_neg c3] at H
    have c3b0 : ((l0.length : Int) == (l1.length : Int)) = false := beq_eq_false_iff_ne.mpr c3
    have c3b1 : ((l0.length : Int) != (l1.length : Int)) = true := bne_iff_ne.mpr c3
    have c3b2 : (l0.length == l1.length) = false := by first | simpa using c3 | (simp at c3 ⊢; omega)
    obtain rfl := Option.some.inj H
    go_enter Tryz.func76, Tryz.ntmps76
    go_wp2
    repeat (go_quiet (fail); try go_wp2)
    go_ret
    exact ⟨by first | rfl | (simp; done) | (simp [*]; done), by repeat (first | exact Drawn0.refl _ | apply Drawn0.step)⟩

def slices_Index_int_int.l0 : Nat → List Int → Int → Int → Int → Option (Int)
  | 0, _, _, _, _ => none
  | k + 1, x0, x1, x7, x8 => if x8 < x7 then (if 0 ≤ x8 then (if x8 < (x0.length : Int) then (if x1 = (rd x0 x8) then (some x8) else (slices_Index_int_int.l0 k x0 x1 x7 (wrap64 (x8 + 1)))) else (none)) else (none)) else (some (-1))
def slices_Index_int_int.f (k : Nat) (l0 : List Int) (a1 : Int) : Option (Int) := slices_Index_int_int.l0 k l0 a1 (l0.length : Int) 0
set_option maxHeartbeats 8000000 in
set_option maxRecDepth 100000 in
theorem slices_Index_int_int.calls (k : Nat) (A0 : Option Addr) (c0 : Nat) (l0 : List Int) (a1 : Int) (r : Int) (w : World) (hr0 : Kd.C (Kd.int .i64) w A0 l0.length l0) (hc0 : l0.length ≤ c0) (h : slices_Index_int_int.f k l0 a1 = some r) :
    Calls Tryz.prog 96 #[.slice A0 l0.length c0, .int .i64 a1] w fun e w' => e = .returned (.int .i64 r) ∧ Drawn0 w w' := by
  have HR0 := Aside0.mk hr0
  have HC0 := Aside0.mk hc0
  clear hr0 hc0
  have H : (slices_Index_int_int.l0 k l0 a1 (l0.length : Int) 0) = some r := h
  clear h
  have H' := Aside0.mk H
  clear H
  go_enter Tryz.func96, Tryz.ntmps96
  go_wp2
  go_loopg [8] k (fun kq v8 w' => ∃ (x8_1 : Int), v8 = .int .i64 x8_1 ∧ Aside0 (slices_Index_int_int.l0 kq l0 a1 (l0.length : Int) x8_1 = some r) ∧ Aside0 (kq ≤ k) ∧ Drawn0 w w')
  case atStart => exact ⟨(0), (by first | rfl | (simp; done) | (simp [*]; done)), H', ⟨Nat.le_refl _⟩, by repeat (first | exact Drawn0.refl _ | apply Drawn0.step)⟩
  case round =>
    clear H'
    try clear p2
    obtain ⟨x8_1, rfl, HA, HK1, ⟨m1, rfl⟩⟩ := hrel
    cases gk with
    | zero => exact absurd HA.out (by simp [slices_Index_int_int.l0])
    | succ k1 =>
      have H := HA.out
      clear HA
      simp only [slices_Index_int_int.l0] at H
      by_cases c3 : x8_1 < (l0.length : Int)
      · rw [if_pos c3] at H
        have c3b0 : decide (x8_1 < (l0.length : Int)) = true := decide_eq_true c3
        clear c3
        by_cases c4 : 0 ≤ x8_1
        · rw [if_pos c4] at H
          have c4b0 : decide (0 ≤ x8_1) = true := decide_eq_true c4
          clear c4
          by_cases c5 : x8_1 < (l0.length : Int)
          · rw [if_pos c5] at H
            have c5b0 : decide (x8_1 < (l0.length : Int)) = true := decide_eq_true c5
            clear c5
            by_cases c6 : a1 = (rd l0 x8_1)
            · rw [if_pos c6] at H
              have c6b0 : (a1 == (rd l0 x8_1)) = true := beq_iff_eq.mpr c6
              have c6b1 : (a1 != (rd l0 x8_1)) = false := bne_eq_false_iff_eq.mpr c6
              clear c6
              obtain rfl := Option.some.inj H
              have p121 : 0 ≤ (x8_1 : Int) := of_decide_eq_true (by first | (with_reducible assumption) | assumption)
              have q121 : x8_1 < (l0.length : Int) := of_decide_eq_true (by first | (with_reducible assumption) | assumption)
              obtain ⟨ad121, e121, hx121_0⟩ := Kd.at_int HR0.out x8_1 p121 q121
              cases e121
              replace p121 := eq_true p121
              replace q121 := eq_true q121
              go_wp2
              go_ret
              exact ⟨by first | rfl | (simp; done) | (simp [*]; done), by repeat (first | exact Drawn0.refl _ | apply Drawn0.step)⟩
            · rw [if_neg c6] at H
              have c6b0 : (a1 == (rd l0 x8_1)) = false := beq_eq_false_iff_ne.mpr c6
              have c6b1 : (a1 != (rd l0 x8_1)) = true := bne_iff_ne.mpr c6
              have H' := Aside0.mk H
              clear H
              have p121 : 0 ≤ (x8_1 : Int) := of_decide_eq_true (by first | (with_reducible assumption) | assumption)
              have q121 : x8_1 < (l0.length : Int) := of_decide_eq_true (by first | (with_reducible assumption) | assumption)
              obtain ⟨ad121, e121, hx121_0⟩ := Kd.at_int HR0.out x8_1 p121 q121
              cases e121
              replace p121 := eq_true p121
              replace q121 := eq_true q121
              go_wp2
              go_roundg k1
              case measure => have := HK1.out; omega
              case rel => exact ⟨(wrap64 (x8_1 + 1)), (by first | rfl | (simp; done) | (simp [*]; done)), H', ⟨by have := HK1.out; omega⟩, by repeat (first | exact Drawn0.refl _ | apply Drawn0.step)⟩
          · rw [if_neg c5] at H
            exact absurd H (by simp)
        · rw [if_neg c4] at H
          exact absurd H (by simp)
      · rw [if_neg c3] at H
        have c3b0 : decide (x8_1 < (l0.length : Int)) = false := decide_eq_false c3
        clear c3
        obtain rfl := Option.some.inj H
        go_wp2
        go_ret
        exact ⟨by first | rfl | (simp; done) | (simp [*]; done), by repeat (first | exact Drawn0.refl _ | apply Drawn0.step)⟩

def slices_Contains_int_int.f (k : Nat) (l0 : List Int) (a1 : Int) : Option (Bool) := (slices_Index_int_int.f k l0 a1).bind fun t122 => (some (decide (t122 ≥ 0)))
set_option maxHeartbeats 8000000 in
set_option maxRecDepth 100000 in
theorem slices_Contains_int_int.calls (k : Nat) (A0 : Option Addr) (c0 : Nat) (l0 : List Int) (a1 : Int) (r : Bool) (w : World) (hr0 : Kd.C (Kd.int .i64) w A0 l0.length l0) (hc0 : l0.length ≤ c0) (h : slices_Contains_int_int.f k l0 a1 = some r) :
    Calls Tryz.prog 84 #[.slice A0 l0.length c0, .int .i64 a1] w fun e w' => e = .returned (.bool r) ∧ Drawn0 w w' := by
  have HR0 := Aside0.mk hr0
  have HC0 := Aside0.mk hc0
  clear hr0 hc0
  have H : ((slices_Index_int_int.f k l0 a1).bind fun t122 => (some (decide (t122 ≥ 0)))) = some r := h
  clear h
  replace H := Option.bind_eq_some_iff.mp H
  obtain ⟨t122, A30, H⟩ := H
  replace H : (some (decide (t122 ≥ 0))) = some r := H
  have A3 := Aside0.mk A30
  clear A30
  obtain rfl := Option.some.inj H
  go_enter Tryz.func84, Tryz.ntmps84
  go_wp2_with (first | ((with_reducible refine gate_callee (f := 96) rfl ?_); refine goesL_ (some 7) rfl rfl Tryz.func96 (by kernel_rfl) rfl #[.slice A0 l0.length c0, .int .i64 a1] rfl (by (try simp only [List.map_toArray, List.map_cons, List.map_nil]); first | done | rfl | (simp only [List.length_drop, List.length_take]; rfl)) ?_; (with_reducible refine (slices_Index_int_int.calls k _ _ l0 a1 t122 _ ?side1 ?side2 A3.out).mono ?_); (case side1 => repeat (first | exact HR0.out | (with_reducible refine Kd.C_alloc ?_ _) | (with_reducible refine Kd.C_drewN ?_ _) | (with_reducible refine Kd.C_drew ?_))); (case side2 => exact HC0.out); rintro e w' ⟨rfl, ⟨nd, rfl⟩⟩; refine ⟨_, rfl, ?_⟩))
  go_ret
  exact ⟨by first | rfl | (simp; done) | (simp [*]; done), by repeat (first | exact Drawn0.refl _ | apply Drawn0.step)⟩

def cnf_lit_may.f (a0 : Int) (a1 : Int) : Option (Bool) := if a0 = 0 then (some false) else (if (wrap64 (-a1)) ≤ a0 then (some (decide (a0 ≤ a1))) else (some false))
set_option maxHeartbeats 8000000 in
set_option maxRecDepth 100000 in
theorem cnf_lit_may.calls (a0 : Int) (a1 : Int) (r : Bool) (w : World) (h : cnf_lit_may.f a0 a1 = some r) :
    Calls Tryz.prog 64 #[.int .i64 a0, .int .i64 a1] w fun e w' => e = .returned (.bool r) ∧ Drawn0 w w' := by
  have H : (if a0 = 0 then (some false) else (if (wrap64 (-a1)) ≤ a0 then (some (decide (a0 ≤ a1))) else (some false))) = some r := h
  clear h
  by_cases c3 : a0 = 0
  · rw [if_pos c3] at H
    have c3b0 : (a0 == 0) = true := beq_iff_eq.mpr c3
    have c3b1 : (a0 != 0) = false := bne_eq_false_iff_eq.mpr c3
    clear c3
    obtain rfl := Option.some.inj H
    go_enter Tryz.func64, Tryz.ntmps64
    go_wp2
    go_ret
    exact ⟨by first | rfl | (simp; done) | (simp [*]; done), by repeat (first | exact Drawn0.refl _ | apply Drawn0.step)⟩
  · rw [if_neg c3] at H
    have c3b0 : (a0 == 0) = false := beq_eq_false_iff_ne.mpr c3
    have c3b1 : (a0 != 0) = true := bne_iff_ne.mpr c3
    by_cases c4 : (wrap64 (-a1)) ≤ a0
    · rw [if_pos c4] at H
      have c4b0 : decide ((wrap64 (-a1)) ≤ a0) = true := decide_eq_true c4
      clear c4
      obtain rfl := Option.some.inj H
      go_enter Tryz.func64, Tryz.ntmps64
      go_wp2
      go_ret
      exact ⟨by first | rfl | (simp; done) | (simp [*]; done), by repeat (first | exact Drawn0.refl _ | apply Drawn0.step)⟩
    · rw [if_neg c4] at H
      have c4b0 : decide ((wrap64 (-a1)) ≤ a0) = false := decide_eq_false c4
      clear c4
      obtain rfl := Option.some.inj H
      go_enter Tryz.func64, Tryz.ntmps64
      go_wp2
      go_ret
      exact ⟨by first | rfl | (simp; done) | (simp [*]; done), by repeat (first | exact Drawn0.refl _ | apply Drawn0.step)⟩

def cnf_lit_of.f (a0 : Int) : Option (Int) := some (mx a0 (wrap64 (-a0)))
set_option maxHeartbeats 8000000 in
set_option maxRecDepth 100000 in
theorem cnf_lit_of.calls (a0 : Int) (r : Int) (w : World) (h : cnf_lit_of.f a0 = some r) :
    Calls Tryz.prog 69 #[.int .i64 a0] w fun e w' => e = .returned (.int .i64 r) ∧ Below w.heap.size w w' := by
  have HB := Aside0.mk (Below.refl w.heap.size w)
  have H : (some (mx a0 (wrap64 (-a0)))) = some r := h
  clear h
  obtain ⟨ji2, hji2⟩ : ∃ j_ : Int, (mx a0 (wrap64 (-a0))) = j_ := ⟨_, rfl⟩
  replace H : (some ji2) = some r := by first | (rw [hji2] at H; exact H) | (simp only [hji2] at H ⊢; exact H)
  have hji2_ : (if a0 < (wrap64 (-a0)) then (wrap64 (-a0)) else a0) = ji2 := hji2
  obtain rfl := Option.some.inj H
  go_enter Tryz.func69, Tryz.ntmps69
  go_wp2
  go_ret
  exact ⟨by first | rfl | (simp [errW_none, errW_some] <;> rfl) | (simp only [← hji2]; first | rfl | (simp [errW_none, errW_some] <;> rfl)) | (simp [*, errW_none, errW_some] <;> rfl), by repeat (first | (with_reducible first | exact HB.out | apply below_alloc | apply pw_below_drewN | apply below_drew1) | exact HB.out)⟩

def cnf_lit_true.f (a0 : Int) (l1 : List Bool) : Option (Bool) := (cnf_lit_may.f a0 65536).bind fun t730 => (if t730 = true then ((cnf_lit_of.f a0).bind fun t731 => (if t731 < (l1.length : Int) then (if 0 ≤ t731 then (some ((rdOf false l1 t731) == (decide (a0 > 0)))) else (none)) else (some (false == (decide (a0 > 0)))))) else (some false))
set_option maxHeartbeats 8000000 in
set_option maxRecDepth 100000 in
theorem cnf_lit_true.calls (a0 : Int) (A1 : Option Addr) (c1 : Nat) (l1 : List Bool) (r : Bool) (w : World) (hr1 : Kd.C Kd.bool w A1 l1.length l1) (hc1 : l1.length ≤ c1) (h : cnf_lit_true.f a0 l1 = some r) :
    Calls Tryz.prog 79 #[.int .i64 a0, .slice A1 l1.length c1] w fun e w' => e = .returned (.bool r) ∧ Below w.heap.size w w' := by
  have HR1 := Aside0.mk hr1
  have HC1 := Aside0.mk hc1
  clear hr1 hc1
  have HB := Aside0.mk (Below.refl w.heap.size w)
  have H : ((cnf_lit_may.f a0 65536).bind fun t730 => (if t730 = true then ((cnf_lit_of.f a0).bind fun t731 => (if t731 < (l1.length : Int) then (if 0 ≤ t731 then (some ((rdOf false l1 t731) == (decide (a0 > 0)))) else (none)) else (some (false == (decide (a0 > 0)))))) else (some false))) = some r := h
  clear h
  replace H := Option.bind_eq_some_iff.mp H
  obtain ⟨t730, A30, H⟩ := H
  replace H : (if t730 = true then ((cnf_lit_of.f a0).bind fun t731 => (if t731 < (l1.length : Int) then (if 0 ≤ t731 then (some ((rdOf false l1 t731) == (decide (a0 > 0)))) else (none)) else (some (false == (decide (a0 > 0)))))) else (some false)) = some r := H
  have A3 := Aside0.mk A30
  clear A30
  by_cases c4 : t730 = true
  · subst c4
    have H1 : ((cnf_lit_of.f a0).bind fun t731 => (if t731 < (l1.length : Int) then (if 0 ≤ t731 then (some ((rdOf false l1 t731) == (decide (a0 > 0)))) else (none)) else (some (false == (decide (a0 > 0)))))) = some r := by rw [if_pos rfl] at H; exact H
    clear H
    have H := H1
    clear H1
    replace H := Option.bind_eq_some_iff.mp H
    obtain ⟨t731, A50, H⟩ := H
    replace H : (if t731 < (l1.length : Int) then (if 0 ≤ t731 then (some ((rdOf false l1 t731) == (decide (a0 > 0)))) else (none)) else (some (false == (decide (a0 > 0))))) = some r := H
    have A5 := Aside0.mk A50
    clear A50
    by_cases c6 : t731 < (l1.length : Int)
    · rw [if_pos c6] at H
      have c6b0 : decide (t731 < (l1.length : Int)) = true := decide_eq_true c6
      clear c6
      by_cases c7 : 0 ≤ t731
      · rw [if_pos c7] at H
        have c7b0 : decide (0 ≤ t731) = true := decide_eq_true c7
        clear c7
        obtain rfl := Option.some.inj H
        go_enter Tryz.func79, Tryz.ntmps79
        go_wp2_with (first | ((with_reducible refine gate_callee (f := 64) rfl ?_); refine goesL_ (some 7) rfl rfl Tryz.func64 (by kernel_rfl) rfl #[.int .i64 a0, .int .i64 65536] rfl (by (try simp only [List.map_toArray, List.map_cons, List.map_nil]); first | done | rfl | (simp only [List.length_drop, List.length_take]; rfl)) ?_; (with_reducible refine (cnf_lit_may.calls a0 65536 true _ A3.out).mono ?_); rintro e w' ⟨rfl, ⟨nd, rfl⟩⟩; refine ⟨_, rfl, ?_⟩) | ((with_reducible refine gate_callee (f := 69) rfl ?_); refine goesL_ (some 10) rfl rfl Tryz.func69 (by kernel_rfl) rfl #[.int .i64 a0] rfl (by (try simp only [List.map_toArray, List.map_cons, List.map_nil]); first | done | rfl | (simp only [List.length_drop, List.length_take]; rfl)) ?_; (with_reducible refine (cnf_lit_of.calls a0 t731 _ A5.out).mono ?_); rintro e w8 ⟨rfl, hb⟩; refine ⟨_, rfl, ?_⟩; have n0_ := Aside0.mk (below_step (by repeat (first | (with_reducible first | exact HB.out | apply below_alloc | apply pw_below_drewN | apply below_drew1) | exact HB.out)) hb); clear HB; have HB := n0_; clear n0_; (try clear hb); (try clear hb2); (try clear hk); (try clear hi); have p732 : 0 ≤ (t731 : Int) := of_decide_eq_true (by first | (with_reducible assumption) | assumption); have q732 : t731 < (l1.length : Int) := of_decide_eq_true (by first | (with_reducible assumption) | assumption); obtain ⟨ad732, e732, hx732_0⟩ := Kd.at_bool HR1.out t731 p732 q732; cases e732; replace hx732_0 := (HB.out.cell (World.block_lt_of_cell? w _ hx732_0)).trans hx732_0; replace p732 := eq_true p732; replace q732 := eq_true q732))
        go_ret
        exact ⟨by first | rfl | (simp [errW_none, errW_some] <;> rfl) | (simp [*, errW_none, errW_some] <;> rfl), by repeat (first | (with_reducible first | exact HB.out | apply below_alloc | apply pw_below_drewN | apply below_drew1) | exact HB.out)⟩
      · rw [if_neg c7] at H
        exact absurd H (by simp)
    · rw [if_neg c6] at H
      have c6b0 : decide (t731 < (l1.length : Int)) = false := decide_eq_false c6
      clear c6
      obtain rfl := Option.some.inj H
      go_enter Tryz.func79, Tryz.ntmps79
      go_wp2_with (first | ((with_reducible refine gate_callee (f := 64) rfl ?_); refine goesL_ (some 7) rfl rfl Tryz.func64 (by kernel_rfl) rfl #[.int .i64 a0, .int .i64 65536] rfl (by (try simp only [List.map_toArray, List.map_cons, List.map_nil]); first | done | rfl | (simp only [List.length_drop, List.length_take]; rfl)) ?_; (with_reducible refine (cnf_lit_may.calls a0 65536 true _ A3.out).mono ?_); rintro e w' ⟨rfl, ⟨nd, rfl⟩⟩; refine ⟨_, rfl, ?_⟩) | ((with_reducible refine gate_callee (f := 69) rfl ?_); refine goesL_ (some 10) rfl rfl Tryz.func69 (by kernel_rfl) rfl #[.int .i64 a0] rfl (by (try simp only [List.map_toArray, List.map_cons, List.map_nil]); first | done | rfl | (simp only [List.length_drop, List.length_take]; rfl)) ?_; (with_reducible refine (cnf_lit_of.calls a0 t731 _ A5.out).mono ?_); rintro e w9 ⟨rfl, hb⟩; refine ⟨_, rfl, ?_⟩; have n0_ := Aside0.mk (below_step (by repeat (first | (with_reducible first | exact HB.out | apply below_alloc | apply pw_below_drewN | apply below_drew1) | exact HB.out)) hb); clear HB; have HB := n0_; clear n0_; (try clear hb); (try clear hb2); (try clear hk); (try clear hi)))
      go_ret
      exact ⟨by first | rfl | (simp [errW_none, errW_some] <;> rfl) | (simp [*, errW_none, errW_some] <;> rfl), by repeat (first | (with_reducible first | exact HB.out | apply below_alloc | apply pw_below_drewN | apply below_drew1) | exact HB.out)⟩
  · replace c4 := Bool.eq_false_iff.mpr c4
    subst c4
    have H1 : (some false) = some r := by rw [if_neg (show ¬ (false = true) by decide)] at H; exact H
    clear H
    have H := H1
    clear H1
    obtain rfl := Option.some.inj H
    go_enter Tryz.func79, Tryz.ntmps79
    go_wp2_with (first | ((with_reducible refine gate_callee (f := 64) rfl ?_); refine goesL_ (some 7) rfl rfl Tryz.func64 (by kernel_rfl) rfl #[.int .i64 a0, .int .i64 65536] rfl (by (try simp only [List.map_toArray, List.map_cons, List.map_nil]); first | done | rfl | (simp only [List.length_drop, List.length_take]; rfl)) ?_; (with_reducible refine (cnf_lit_may.calls a0 65536 false _ A3.out).mono ?_); rintro e w' ⟨rfl, ⟨nd, rfl⟩⟩; refine ⟨_, rfl, ?_⟩))
    go_ret
    exact ⟨by first | rfl | (simp [errW_none, errW_some] <;> rfl) | (simp [*, errW_none, errW_some] <;> rfl), by repeat (first | (with_reducible first | exact HB.out | apply below_alloc | apply pw_below_drewN | apply below_drew1) | exact HB.out)⟩

def cmp_Or_int.l0 : Nat → Int → List Int → Int → Int → Option (Int)
  | 0, _, _, _, _ => none
  | k + 1, x3, x6, x7, x8 => if x8 < x7 then (if 0 ≤ x8 then (if x8 < (x6.length : Int) then (if (rd x6 x8) = x3 then (cmp_Or_int.l0 k x3 x6 x7 (wrap64 (x8 + 1))) else (some (rd x6 x8))) else (none)) else (none)) else (some x3)
def cmp_Or_int.f (k : Nat) (l0 : List Int) : Option (Int) := cmp_Or_int.l0 k 0 l0 (l0.length : Int) 0
set_option maxHeartbeats 8000000 in
set_option maxRecDepth 100000 in
theorem cmp_Or_int.calls (k : Nat) (A0 : Option Addr) (c0 : Nat) (l0 : List Int) (r : Int) (w : World) (hr0 : Kd.C (Kd.int .i64) w A0 l0.length l0) (hc0 : l0.length ≤ c0) (h : cmp_Or_int.f k l0 = some r) :
    Calls Tryz.prog 67 #[.slice A0 l0.length c0] w fun e w' => e = .returned (.int .i64 r) ∧ Drawn0 w w' := by
  have HR0 := Aside0.mk hr0
  have HC0 := Aside0.mk hc0
  clear hr0 hc0
  have H : (cmp_Or_int.l0 k 0 l0 (l0.length : Int) 0) = some r := h
  clear h
  have H' := Aside0.mk H
  clear H
  go_enter Tryz.func67, Tryz.ntmps67
  go_wp2
  go_loopg [8] k (fun kq v8 w' => ∃ (x8_1 : Int), v8 = .int .i64 x8_1 ∧ Aside0 (cmp_Or_int.l0 kq 0 l0 (l0.length : Int) x8_1 = some r) ∧ Aside0 (kq ≤ k) ∧ Drawn0 w w')
  case atStart => exact ⟨(0), (by first | rfl | (simp; done) | (simp [*]; done)), H', ⟨Nat.le_refl _⟩, by repeat (first | exact Drawn0.refl _ | apply Drawn0.step)⟩
  case round =>
    clear H'
    obtain ⟨x8_1, rfl, HA, HK1, ⟨m1, rfl⟩⟩ := hrel
    cases gk with
    | zero => exact absurd HA.out (by simp [cmp_Or_int.l0])
    | succ k1 =>
      have H := HA.out
      clear HA
      simp only [cmp_Or_int.l0] at H
      by_cases c2 : x8_1 < (l0.length : Int)
      · rw [if_pos c2] at H
        have c2b0 : decide (x8_1 < (l0.length : Int)) = true := decide_eq_true c2
        clear c2
        by_cases c3 : 0 ≤ x8_1
        · rw [if_pos c3] at H
          have c3b0 : decide (0 ≤ x8_1) = true := decide_eq_true c3
          clear c3
          by_cases c4 : x8_1 < (l0.length : Int)
          · rw [if_pos c4] at H
            have c4b0 : decide (x8_1 < (l0.length : Int)) = true := decide_eq_true c4
            clear c4
            by_cases c5 : (rd l0 x8_1) = 0
            · rw [if_pos c5] at H
              have c5b0 : ((rd l0 x8_1) == 0) = true := beq_iff_eq.mpr c5
              have c5b1 : ((rd l0 x8_1) != 0) = false := bne_eq_false_iff_eq.mpr c5
              clear c5
              have H' := Aside0.mk H
              clear H
              have p733 : 0 ≤ (x8_1 : Int) := of_decide_eq_true (by first | (with_reducible assumption) | assumption)
              have q733 : x8_1 < (l0.length : Int) := of_decide_eq_true (by first | (with_reducible assumption) | assumption)
              obtain ⟨ad733, e733, hx733_0⟩ := Kd.at_int HR0.out x8_1 p733 q733
              cases e733
              replace p733 := eq_true p733
              replace q733 := eq_true q733
              go_wp2
              go_roundg k1
              case measure => have := HK1.out; omega
              case rel => exact ⟨(wrap64 (x8_1 + 1)), (by first | rfl | (simp; done) | (simp [*]; done)), H', ⟨by have := HK1.out; omega⟩, by repeat (first | exact Drawn0.refl _ | apply Drawn0.step)⟩
            · rw [if_neg c5] at H
              have c5b0 : ((rd l0 x8_1) == 0) = false := beq_eq_false_iff_ne.mpr c5
              have c5b1 : ((rd l0 x8_1) != 0) = true := bne_iff_ne.mpr c5
              obtain rfl := Option.some.inj H
              have p733 : 0 ≤ (x8_1 : Int) := of_decide_eq_true (by first | (with_reducible assumption) | assumption)
              have q733 : x8_1 < (l0.length : Int) := of_decide_eq_true (by first | (with_reducible assumption) | assumption)
              obtain ⟨ad733, e733, hx733_0⟩ := Kd.at_int HR0.out x8_1 p733 q733
              cases e733
              replace p733 := eq_true p733
              replace q733 := eq_true q733
              go_wp2
              go_ret
              exact ⟨by first | rfl | (simp; done) | (simp [*]; done), by repeat (first | exact Drawn0.refl _ | apply Drawn0.step)⟩
          · rw [if_neg c4] at H
            exact absurd H (by simp)
        · rw [if_neg c3] at H
          exact absurd H (by simp)
      · rw [if_neg c2] at H
        have c2b0 : decide (x8_1 < (l0.length : Int)) = false := decide_eq_false c2
        clear c2
        obtain rfl := Option.some.inj H
        go_wp2
        go_ret
        exact ⟨by first | rfl | (simp; done) | (simp [*]; done), by repeat (first | exact Drawn0.refl _ | apply Drawn0.step)⟩

def cmp_isNaN_int.f (a0 : Int) : Option (Bool) := some (a0 != a0)
set_option maxHeartbeats 8000000 in
set_option maxRecDepth 100000 in
theorem cmp_isNaN_int.calls (a0 : Int) (r : Bool) (w : World) (h : cmp_isNaN_int.f a0 = some r) :
    Calls Tryz.prog 127 #[.int .i64 a0] w fun e w' => e = .returned (.bool r) ∧ Drawn0 w w' := by
  have H : (some (a0 != a0)) = some r := h
  clear h
  obtain rfl := Option.some.inj H
  go_enter Tryz.func127, Tryz.ntmps127
  go_wp2
  go_ret
  exact ⟨by first | rfl | (simp; done) | (simp [*]; done), by repeat (first | exact Drawn0.refl _ | apply Drawn0.step)⟩

def cmp_Compare_int.f (a0 : Int) (a1 : Int) : Option (Int) := (cmp_isNaN_int.f a0).bind fun t734 => ((cmp_isNaN_int.f a1).bind fun t735 => (if t734 = true then (if t735 = true then (some 0) else (some (-1))) else (if t735 = true then (some 1) else (if a0 < a1 then (some (-1)) else (if a0 > a1 then (some 1) else (some 0))))))
set_option maxHeartbeats 8000000 in
set_option maxRecDepth 100000 in
theorem cmp_Compare_int.calls (a0 : Int) (a1 : Int) (r : Int) (w : World) (h : cmp_Compare_int.f a0 a1 = some r) :
    Calls Tryz.prog 68 #[.int .i64 a0, .int .i64 a1] w fun e w' => e = .returned (.int .i64 r) ∧ Drawn0 w w' := by
  have H : ((cmp_isNaN_int.f a0).bind fun t734 => ((cmp_isNaN_int.f a1).bind fun t735 => (if t734 = true then (if t735 = true then (some 0) else (some (-1))) else (if t735 = true then (some 1) else (if a0 < a1 then (some (-1)) else (if a0 > a1 then (some 1) else (some 0))))))) = some r := h
  clear h
  replace H := Option.bind_eq_some_iff.mp H
  obtain ⟨t734, A30, H⟩ := H
  replace H : ((cmp_isNaN_int.f a1).bind fun t735 => (if t734 = true then (if t735 = true then (some 0) else (some (-1))) else (if t735 = true then (some 1) else (if a0 < a1 then (some (-1)) else (if a0 > a1 then (some 1) else (some 0)))))) = some r := H
  have A3 := Aside0.mk A30
  clear A30
  replace H := Option.bind_eq_some_iff.mp H
  obtain ⟨t735, A40, H⟩ := H
  replace H : (if t734 = true then (if t735 = true then (some 0) else (some (-1))) else (if t735 = true then (some 1) else (if a0 < a1 then (some (-1)) else (if a0 > a1 then (some 1) else (some 0))))) = some r := H
  have A4 := Aside0.mk A40
  clear A40
  by_cases c5 : t734 = true
  · subst c5
    have H1 : (if t735 = true then (some 0) else (some (-1))) = some r := by rw [if_pos rfl] at H; exact H
    clear H
    have H := H1
    clear H1
    by_cases c6 : t735 = true
    · subst c6
      have H1 : (some 0) = some r := by rw [if_pos rfl] at H; exact H
      clear H
      have H := H1
      clear H1
      obtain rfl := Option.some.inj H
      go_enter Tryz.func68, Tryz.ntmps68
      go_wp2_with (first | ((with_reducible refine gate_callee (f := 127) rfl ?_); refine goesL_ (some 8) rfl rfl Tryz.func127 (by kernel_rfl) rfl #[.int .i64 a0] rfl (by (try simp only [List.map_toArray, List.map_cons, List.map_nil]); first | done | rfl | (simp only [List.length_drop, List.length_take]; rfl)) ?_; (with_reducible refine (cmp_isNaN_int.calls a0 true _ A3.out).mono ?_); rintro e w' ⟨rfl, ⟨nd, rfl⟩⟩; refine ⟨_, rfl, ?_⟩) | ((with_reducible refine gate_callee (f := 127) rfl ?_); refine goesL_ (some 10) rfl rfl Tryz.func127 (by kernel_rfl) rfl #[.int .i64 a1] rfl (by (try simp only [List.map_toArray, List.map_cons, List.map_nil]); first | done | rfl | (simp only [List.length_drop, List.length_take]; rfl)) ?_; (with_reducible refine (cmp_isNaN_int.calls a1 true _ A4.out).mono ?_); rintro e w' ⟨rfl, ⟨nd, rfl⟩⟩; refine ⟨_, rfl, ?_⟩))
      go_ret
      exact ⟨by first | rfl | (simp; done) | (simp [*]; done), by repeat (first | exact Drawn0.refl _ | apply Drawn0.step)⟩
    · replace c6 := Bool.eq_false_iff.mpr c6
      subst c6
      have H1 : (some (-1)) = some r := by rw [if_neg (show ¬ (false = true) by decide)] at H; exact H
      clear H
      have H := H1
      clear H1
      obtain rfl := Option.some.inj H
      go_enter Tryz.func68, Tryz.ntmps68
      go_wp2_with (first | ((with_reducible refine gate_callee (f := 127) rfl ?_); refine goesL_ (some 8) rfl rfl Tryz.func127 (by kernel_rfl) rfl #[.int .i64 a0] rfl (by (try simp only [List.map_toArray, List.map_cons, List.map_nil]); first | done | rfl | (simp only [List.length_drop, List.length_take]; rfl)) ?_; (with_reducible refine (cmp_isNaN_int.calls a0 true _ A3.out).mono ?_); rintro e w' ⟨rfl, ⟨nd, rfl⟩⟩; refine ⟨_, rfl, ?_⟩) | ((with_reducible refine gate_callee (f := 127) rfl ?_); refine goesL_ (some 10) rfl rfl Tryz.func127 (by kernel_rfl) rfl #[.int .i64 a1] rfl (by (try simp only [List.map_toArray, List.map_cons, List.map_nil]); first | done | rfl | (simp only [List.length_drop, List.length_take]; rfl)) ?_; (with_reducible refine (cmp_isNaN_int.calls a1 false _ A4.out).mono ?_); rintro e w' ⟨rfl, ⟨nd, rfl⟩⟩; refine ⟨_, rfl, ?_⟩))
      go_ret
      exact ⟨by first | rfl | (simp; done) | (simp [*]; done), by repeat (first | exact Drawn0.refl _ | apply Drawn0.step)⟩
  · replace c5 := Bool.eq_false_iff.mpr c5
    subst c5
    have H1 : (if t735 = true then (some 1) else (if a0 < a1 then (some (-1)) else (if a0 > a1 then (some 1) else (some 0)))) = some r := by rw [if_neg (show ¬ (false = true) by decide)] at H; exact H
    clear H
    have H := H1
    clear H1
    by_cases c7 : t735 = true
    · subst c7
      have H1 : (some 1) = some r := by rw [if_pos rfl] at H; exact H
      clear H
      have H := H1
      clear H1
      obtain rfl := Option.some.inj H
      go_enter Tryz.func68, Tryz.ntmps68
      go_wp2_with (first | ((with_reducible refine gate_callee (f := 127) rfl ?_); refine goesL_ (some 8) rfl rfl Tryz.func127 (by kernel_rfl) rfl #[.int .i64 a0] rfl (by (try simp only [List.map_toArray, List.map_cons, List.map_nil]); first | done | rfl | (simp only [List.length_drop, List.length_take]; rfl)) ?_; (with_reducible refine (cmp_isNaN_int.calls a0 false _ A3.out).mono ?_); rintro e w' ⟨rfl, ⟨nd, rfl⟩⟩; refine ⟨_, rfl, ?_⟩) | ((with_reducible refine gate_callee (f := 127) rfl ?_); refine goesL_ (some 10) rfl rfl Tryz.func127 (by kernel_rfl) rfl #[.int .i64 a1] rfl (by (try simp only [List.map_toArray, List.map_cons, List.map_nil]); first | done | rfl | (simp only [List.length_drop, List.length_take]; rfl)) ?_; (with_reducible refine (cmp_isNaN_int.calls a1 true _ A4.out).mono ?_); rintro e w' ⟨rfl, ⟨nd, rfl⟩⟩; refine ⟨_, rfl, ?_⟩))
      go_ret
      exact ⟨by first | rfl | (simp; done) | (simp [*]; done), by repeat (first | exact Drawn0.refl _ | apply Drawn0.step)⟩
    · replace c7 := Bool.eq_false_iff.mpr c7
      subst c7
      have H1 : (if a0 < a1 then (some (-1)) else (if a0 > a1 then (some 1) else (some 0))) = some r := by rw [if_neg (show ¬ (false = true) by decide)] at H; exact H
      clear H
      have H := H1
      clear H1
      by_cases c8 : a0 < a1
      · rw [if_pos c8] at H
        have c8b0 : decide (a0 < a1) = true := decide_eq_true c8
        clear c8
        obtain rfl := Option.some.inj H
        go_enter Tryz.func68, Tryz.ntmps68
        go_wp2_with (first | ((with_reducible refine gate_callee (f := 127) rfl ?_); refine goesL_ (some 8) rfl rfl Tryz.func127 (by kernel_rfl) rfl #[.int .i64 a0] rfl (by (try simp only [List.map_toArray, List.map_cons, List.map_nil]); first | done | rfl | (simp only [List.length_drop, List.length_take]; rfl)) ?_; (with_reducible refine (cmp_isNaN_int.calls a0 false _ A3.out).mono ?_); rintro e w' ⟨rfl, ⟨nd, rfl⟩⟩; refine ⟨_, rfl, ?_⟩) | ((with_reducible refine gate_callee (f := 127) rfl ?_); refine goesL_ (some 10) rfl rfl Tryz.func127 (by kernel_rfl) rfl #[.int .i64 a1] rfl (by (try simp only [List.map_toArray, List.map_cons, List.map_nil]); first | done | rfl | (simp only [List.length_drop, List.length_take]; rfl)) ?_; (with_reducible refine (cmp_isNaN_int.calls a1 false _ A4.out).mono ?_); rintro e w' ⟨rfl, ⟨nd, rfl⟩⟩; refine ⟨_, rfl, ?_⟩))
        go_ret
        exact ⟨by first | rfl | (simp; done) | (simp [*]; done), by repeat (first | exact Drawn0.refl _ | apply Drawn0.step)⟩
      · rw [if_neg c8] at H
        have c8b0 : decide (a0 < a1) = false := decide_eq_false c8
        clear c8
        by_cases c9 : a0 > a1
        · rw [if_pos c9] at H
          have c9b0 : decide (a1 < a0) = true := decide_eq_true c9
          clear c9
          obtain rfl := Option.some.inj H
          go_enter Tryz.func68, Tryz.ntmps68
          go_wp2_with (first | ((with_reducible refine gate_callee (f := 127) rfl ?_); refine goesL_ (some 8) rfl rfl Tryz.func127 (by kernel_rfl) rfl #[.int .i64 a0] rfl (by (try simp only [List.map_toArray, List.map_cons, List.map_nil]); first | done | rfl | (simp only [List.length_drop, List.length_take]; rfl)) ?_; (with_reducible refine (cmp_isNaN_int.calls a0 false _ A3.out).mono ?_); rintro e w' ⟨rfl, ⟨nd, rfl⟩⟩; refine ⟨_, rfl, ?_⟩) | ((with_reducible refine gate_callee (f := 127) rfl ?_); refine goesL_ (some 10) rfl rfl Tryz.func127 (by kernel_rfl) rfl #[.int .i64 a1] rfl (by (try simp only [List.map_toArray, List.map_cons, List.map_nil]); first | done | rfl | (simp only [List.length_drop, List.length_take]; rfl)) ?_; (with_reducible refine (cmp_isNaN_int.calls a1 false _ A4.out).mono ?_); rintro e w' ⟨rfl, ⟨nd, rfl⟩⟩; refine ⟨_, rfl, ?_⟩))
          go_ret
          exact ⟨by first | rfl | (simp; done) | (simp [*]; done), by repeat (first | exact Drawn0.refl _ | apply Drawn0.step)⟩
        · rw [if_neg c9] at H
          have c9b0 : decide (a1 < a0) = false := decide_eq_false c9
          clear c9
          obtain rfl := Option.some.inj H
          go_enter Tryz.func68, Tryz.ntmps68
          go_wp2_with (first | ((with_reducible refine gate_callee (f := 127) rfl ?_); refine goesL_ (some 8) rfl rfl Tryz.func127 (by kernel_rfl) rfl #[.int .i64 a0] rfl (by (try simp only [List.map_toArray, List.map_cons, List.map_nil]); first | done | rfl | (simp only [List.length_drop, List.length_take]; rfl)) ?_; (with_reducible refine (cmp_isNaN_int.calls a0 false _ A3.out).mono ?_); rintro e w' ⟨rfl, ⟨nd, rfl⟩⟩; refine ⟨_, rfl, ?_⟩) | ((with_reducible refine gate_callee (f := 127) rfl ?_); refine goesL_ (some 10) rfl rfl Tryz.func127 (by kernel_rfl) rfl #[.int .i64 a1] rfl (by (try simp only [List.map_toArray, List.map_cons, List.map_nil]); first | done | rfl | (simp only [List.length_drop, List.length_take]; rfl)) ?_; (with_reducible refine (cmp_isNaN_int.calls a1 false _ A4.out).mono ?_); rintro e w' ⟨rfl, ⟨nd, rfl⟩⟩; refine ⟨_, rfl, ?_⟩))
          go_ret
          exact ⟨by first | rfl | (simp; done) | (simp [*]; done), by repeat (first | exact Drawn0.refl _ | apply Drawn0.step)⟩

def cnf_Norm_1.f (a0 : Int) : Option (Bool) := (cnf_lit_may.f a0 65536).bind fun t738 => (some (!t738))
set_option maxHeartbeats 8000000 in
set_option maxRecDepth 100000 in
theorem cnf_Norm_1.calls (a0 : Int) (r : Bool) (w : World) (h : cnf_Norm_1.f a0 = some r) :
    Calls Tryz.prog 63 #[.int .i64 a0] w fun e w' => e = .returned (.bool r) ∧ Drawn0 w w' := by
  have H : ((cnf_lit_may.f a0 65536).bind fun t738 => (some (!t738))) = some r := h
  clear h
  replace H := Option.bind_eq_some_iff.mp H
  obtain ⟨t738, A20, H⟩ := H
  replace H : (some (!t738)) = some r := H
  have A2 := Aside0.mk A20
  clear A20
  obtain rfl := Option.some.inj H
  go_enter Tryz.func63, Tryz.ntmps63
  go_wp2_with (first | ((with_reducible refine gate_callee (f := 64) rfl ?_); refine goesL_ (some 4) rfl rfl Tryz.func64 (by kernel_rfl) rfl #[.int .i64 a0, .int .i64 65536] rfl (by (try simp only [List.map_toArray, List.map_cons, List.map_nil]); first | done | rfl | (simp only [List.length_drop, List.length_take]; rfl)) ?_; (with_reducible refine (cnf_lit_may.calls a0 65536 t738 _ A2.out).mono ?_); rintro e w' ⟨rfl, ⟨nd, rfl⟩⟩; refine ⟨_, rfl, ?_⟩))
  go_ret
  exact ⟨by first | rfl | (simp; done) | (simp [*]; done), by repeat (first | exact Drawn0.refl _ | apply Drawn0.step)⟩

def cnf_Norm_2.f (k : Nat) (a0 : Int) (a1 : Int) : Option (Int) := (cnf_lit_of.f a0).bind fun t739 => ((cnf_lit_of.f a1).bind fun t740 => ((cmp_Compare_int.f t739 t740).bind fun t741 => ((cmp_Compare_int.f a1 a0).bind fun t742 => ((cmp_Or_int.f k (([t741, t742] : List Int))).bind fun t746 => (some t746)))))
set_option maxHeartbeats 8000000 in
set_option maxRecDepth 100000 in
theorem cnf_Norm_2.calls (k : Nat) (a0 : Int) (a1 : Int) (r : Int) (w : World) (h : cnf_Norm_2.f k a0 a1 = some r) :
    Calls Tryz.prog 66 #[.int .i64 a0, .int .i64 a1] w fun e w' => e = .returned (.int .i64 r) ∧ Below w.heap.size w w' := by
  have HB := Aside0.mk (Below.refl w.heap.size w)
  have H : ((cnf_lit_of.f a0).bind fun t739 => ((cnf_lit_of.f a1).bind fun t740 => ((cmp_Compare_int.f t739 t740).bind fun t741 => ((cmp_Compare_int.f a1 a0).bind fun t742 => ((cmp_Or_int.f k (([t741, t742] : List Int))).bind fun t746 => (some t746)))))) = some r := h
  clear h
  replace H := Option.bind_eq_some_iff.mp H
  obtain ⟨t739, A30, H⟩ := H
  replace H : ((cnf_lit_of.f a1).bind fun t740 => ((cmp_Compare_int.f t739 t740).bind fun t741 => ((cmp_Compare_int.f a1 a0).bind fun t742 => ((cmp_Or_int.f k (([t741, t742] : List Int))).bind fun t746 => (some t746))))) = some r := H
  have A3 := Aside0.mk A30
  clear A30
  replace H := Option.bind_eq_some_iff.mp H
  obtain ⟨t740, A40, H⟩ := H
  replace H : ((cmp_Compare_int.f t739 t740).bind fun t741 => ((cmp_Compare_int.f a1 a0).bind fun t742 => ((cmp_Or_int.f k (([t741, t742] : List Int))).bind fun t746 => (some t746)))) = some r := H
  have A4 := Aside0.mk A40
  clear A40
  replace H := Option.bind_eq_some_iff.mp H
  obtain ⟨t741, A50, H⟩ := H
  replace H : ((cmp_Compare_int.f a1 a0).bind fun t742 => ((cmp_Or_int.f k (([t741, t742] : List Int))).bind fun t746 => (some t746))) = some r := H
  have A5 := Aside0.mk A50
  clear A50
  replace H := Option.bind_eq_some_iff.mp H
  obtain ⟨t742, A60, H⟩ := H
  replace H : ((cmp_Or_int.f k (([t741, t742] : List Int))).bind fun t746 => (some t746)) = some r := H
  have A6 := Aside0.mk A60
  clear A60
  obtain ⟨y743, hy743⟩ : ∃ y_ : List Int, y_ = (([t741, t742] : List Int)) := ⟨_, rfl⟩
  replace H : ((cmp_Or_int.f k y743).bind fun t746 => (some t746)) = some r := by first | (rw [hy743]; with_reducible exact H) | (have H2_ := (Option.bind_some _ _).symm.trans H; rw [hy743]; with_reducible exact H2_) | (have H2_ := (Option.bind_some _ _).symm.trans H; with_reducible exact H2_) | with_reducible exact H | (rw [hy743]; exact H) | exact H
  have Ny743 := Aside0.mk hy743
  clear hy743
  replace H := Option.bind_eq_some_iff.mp H
  obtain ⟨t746, A70, H⟩ := H
  replace H : (some t746) = some r := H
  have A7 := Aside0.mk A70
  clear A70
  obtain rfl := Option.some.inj H
  go_enter Tryz.func66, Tryz.ntmps66
  go_wp2_with (first | ((with_reducible refine gate_callee (f := 69) rfl ?_); refine goesL_ (some 6) rfl rfl Tryz.func69 (by kernel_rfl) rfl #[.int .i64 a0] rfl (by (try simp only [List.map_toArray, List.map_cons, List.map_nil]); first | done | rfl | (simp only [List.length_drop, List.length_take]; rfl)) ?_; (with_reducible refine (cnf_lit_of.calls a0 t739 _ A3.out).mono ?_); rintro e w8 ⟨rfl, hb⟩; refine ⟨_, rfl, ?_⟩; have n0_ := Aside0.mk (below_step (by repeat (first | (with_reducible first | exact HB.out | apply below_alloc | apply pw_below_drewN | apply below_drew1) | exact HB.out)) hb); clear HB; have HB := n0_; clear n0_; (try clear hb); (try clear hb2); (try clear hk); (try clear hi)) | ((with_reducible refine gate_callee (f := 69) rfl ?_); refine goesL_ (some 8) rfl rfl Tryz.func69 (by kernel_rfl) rfl #[.int .i64 a1] rfl (by (try simp only [List.map_toArray, List.map_cons, List.map_nil]); first | done | rfl | (simp only [List.length_drop, List.length_take]; rfl)) ?_; (with_reducible refine (cnf_lit_of.calls a1 t740 _ A4.out).mono ?_); rintro e w9 ⟨rfl, hb⟩; refine ⟨_, rfl, ?_⟩; have n0_ := Aside0.mk (below_step (by repeat (first | (with_reducible first | exact HB.out | apply below_alloc | apply pw_below_drewN | apply below_drew1) | exact HB.out)) hb); clear HB; have HB := n0_; clear n0_; (try clear hb); (try clear hb2); (try clear hk); (try clear hi)) | ((with_reducible refine gate_callee (f := 68) rfl ?_); refine goesL_ (some 9) rfl rfl Tryz.func68 (by kernel_rfl) rfl #[.int .i64 t739, .int .i64 t740] rfl (by (try simp only [List.map_toArray, List.map_cons, List.map_nil]); first | done | rfl | (simp only [List.length_drop, List.length_take]; rfl)) ?_; (with_reducible refine (cmp_Compare_int.calls t739 t740 t741 _ A5.out).mono ?_); rintro e w' ⟨rfl, ⟨nd, rfl⟩⟩; refine ⟨_, rfl, ?_⟩) | ((with_reducible refine gate_callee (f := 68) rfl ?_); refine goesL_ (some 12) rfl rfl Tryz.func68 (by kernel_rfl) rfl #[.int .i64 a1, .int .i64 a0] rfl (by (try simp only [List.map_toArray, List.map_cons, List.map_nil]); first | done | rfl | (simp only [List.length_drop, List.length_take]; rfl)) ?_; (with_reducible refine (cmp_Compare_int.calls a1 a0 t742 _ A6.out).mono ?_); rintro e w' ⟨rfl, ⟨nd, rfl⟩⟩; refine ⟨_, rfl, ?_⟩) | ((with_reducible refine gate_dst (N := 13) rfl ?_); refine Kd.R_lit (Kd.int .i64) _ 3 ?hg (N := 13) ?hd (xs := ([t741, t742] : List Int)) (inner := [.int .i64 t741, .int .i64 t742]) (ok := fun _ => True) (okp := fun _ => True) ?hr ?hp (fun _ hk => hk) trivial (Below.refl _ _) (Nat.le_refl _) (by simp) ?_; (case hd => rfl); (case hg => rfl); (case hr => first | (go_simp; done) | (go_simp; rfl)); (case hp => exact (Reps.one (show Kd.M (Kd.int .i64) _ _ _ t741 [.int .i64 t741] from rfl) (Reps.one (show Kd.M (Kd.int .i64) _ _ _ t742 [.int .i64 t742] from rfl) (Reps.none _ _)))); intro v744 w10 ho11 hb hg_ hnew_; clear hg_ hnew_; (first | rw [← Ny743.out] at ho11 | (simp only [Int.reduceToNat] at ho11; rw [← Ny743.out] at ho11)); have n0_ := Aside0.mk (Kd.R_lower ho11 (below_size (by repeat (first | (with_reducible first | exact HB.out | apply below_alloc | apply pw_below_drewN | apply below_drew1) | exact HB.out)))); have n1_ := Aside0.mk (below_step (by repeat (first | (with_reducible first | exact HB.out | apply below_alloc | apply pw_below_drewN | apply below_drew1) | exact HB.out)) hb); clear HB; have HO745 := n0_; have HB := n1_; clear n0_ n1_; clear hb ho11; obtain ⟨Ao12, co12, eo12⟩ := Kd.R_slice HO745.out; subst eo12) | ((with_reducible refine gate_callee (f := 67) rfl ?_); refine goesL_ (some 14) rfl rfl Tryz.func67 (by kernel_rfl) rfl #[.slice Ao12 y743.length co12] rfl (by (try simp only [List.map_toArray, List.map_cons, List.map_nil]); first | done | rfl | (simp only [List.length_drop, List.length_take]; rfl)) ?_; (with_reducible refine (cmp_Or_int.calls k _ _ y743 t746 _ ?side1 ?side2 A7.out).mono ?_); (case side1 => repeat (first | exact (Kd.R_reads' HO745.out).2.2 | (with_reducible refine Kd.C_alloc ?_ _) | (with_reducible refine Kd.C_drewN ?_ _) | (with_reducible refine Kd.C_drew ?_))); (case side2 => exact (Kd.R_reads' HO745.out).2.1); rintro e w' ⟨rfl, ⟨nd, rfl⟩⟩; refine ⟨_, rfl, ?_⟩))
  go_ret
  exact ⟨by first | rfl | (simp [errW_none, errW_some] <;> rfl) | (simp [*, errW_none, errW_some] <;> rfl), by repeat (first | (with_reducible first | exact HB.out | apply below_alloc | apply pw_below_drewN | apply below_drew1) | exact HB.out)⟩

end Go.Proofs.YtcdhhaedgohlgaaGreatDoor.P
end

section
namespace Go.Proofs.YtcdhhaedgohlgaaGreatDoor.P
open Go.RowKit Go.Proofs.YtcdhhaedgohlgaaGreatDoorW.PrintWords Go.Proofs.YtcdhhaedgohlgaaGreatDoorW.PrintLast Go.Proofs.YtcdhhaedgohlgaaGreatDoorW.PrintMore
set_option linter.unusedVariables false
set_option linter.unusedSimpArgs false

/-- x is a literal of one of the variables 1 to n. -/
def litB (n x : Int) : Bool := x != 0 && decide (-n ≤ x) && decide (x ≤ n)

theorem may_litB (x n : Int) (h0 : -9223372036854775807 ≤ n) (h1 : n ≤ 9223372036854775807) : cnf_lit_may.f x n = some (litB n x) := by
  have hw : wrap64 (-n) = -n := by unfold wrap64; omega
  unfold cnf_lit_may.f litB
  rw [hw]
  by_cases e : x = 0
  · simp [e]
  · by_cases e2 : -n ≤ x <;> simp [e, e2]

set_option maxHeartbeats 1000000 in
theorem Check1_calls (x N : Int) (ad : Addr) (w : World) (hc : w.cell? ad = some (.int .i64 N)) (hs : ad.spot = none) (h0 : 0 ≤ N) (h1 : N ≤ 65536) :
    Calls Tryz.prog 74 #[.int .i64 x, .pointer (some ad)] w fun e w' => e = .returned (.bool (!litB N x)) ∧ Below w.heap.size w w' := by
  have HM := Aside0.mk (cnf_lit_may.calls x N (litB N x) w (may_litB x N (by omega) (by omega)))
  go_enter Tryz.func74, Tryz.ntmps74
  go_wp2_with (go_at_call 64; refine (HM.out).mono ?_; rintro e w' ⟨rfl, hb⟩; have HB := Aside0.mk hb; clear hb)
  go_ret
  exact ⟨rfl, HB.out.below⟩

/-- What Check answers. -/
def checkV (N : Int) (L : List (List Int)) : Int :=
  if N < 0 ∨ 65536 < N then 1 else if L.any (fun l => l.any fun x => !litB N x) then 1 else if 65536 < L.length then 2 else 0
def cnf_Check.f (a0_0 : Int) (l0_1 : List (List Int)) : Option Int := some (checkV a0_0 l0_1)

theorem enters74 : ∀ args w, (callFunc 74 args).run Tryz.prog w = .ok (.enter 74 args) w := by
  intro args w; kernel_rfl

set_option maxHeartbeats 2000000 in
theorem cnf_Check.calls (a0_0 : Int) (A0_1 : Option Addr) (c0_1 : Nat) (l0_1 : List (List Int)) (r : Int) (w : World) (hr0_1 : Kd.C (Kd.slice 3 (Kd.int .i64)) w A0_1 l0_1.length l0_1) (hc0_1 : l0_1.length ≤ c0_1) (h : cnf_Check.f a0_0 l0_1 = some r) :
    Calls Tryz.prog 26 #[.agg #[.int .i64 a0_0, .slice A0_1 l0_1.length c0_1]] w fun e w' => e = .returned (.int .i64 r) ∧ Below w.heap.size w w' := by
  injection h with h
  subst h
  have HR := Aside0.mk hr0_1
  have hm : l0_1.length ≤ 9223372036854775807 := hr0_1.2.1
  clear hr0_1
  by_cases hN : a0_0 < 0
  · have HV : Aside0 (checkV a0_0 l0_1 = 1) := ⟨by simp [checkV, hN]⟩
    rw [HV.out]
    go_enter Tryz.func26, Tryz.ntmps26
    go_wp2
    go_ret
    exact ⟨rfl, (Below.refl _ _).alloc (Nat.le_refl _) _⟩
  by_cases hN2 : 65536 < a0_0
  · have HV : Aside0 (checkV a0_0 l0_1 = 1) := ⟨by simp [checkV, hN2]⟩
    rw [HV.out]
    go_enter Tryz.func26, Tryz.ntmps26
    go_wp2
    go_ret
    exact ⟨rfl, (Below.refl _ _).alloc (Nat.le_refl _) _⟩
  have HV : Aside0 (checkV a0_0 l0_1 = if l0_1.any (fun l => l.any fun x => !litB a0_0 x) then 1 else if 65536 < l0_1.length then 2 else 0) := ⟨by
    unfold checkV; rw [if_neg (by omega)]⟩
  generalize hv : checkV a0_0 l0_1 = v at *
  clear hv
  go_enter Tryz.func26, Tryz.ntmps26
  go_wp2
  go_loopg [16] l0_1.length (fun gg s16 wr => ∃ kk : Nat, kk ≤ l0_1.length ∧ l0_1.length - kk ≤ gg ∧ s16 = .int .i64 kk ∧ Aside0 (Below w.heap.size w wr) ∧
      Aside0 (wr.cell? ⟨w.heap.size, 0, none⟩ = some (.int .i64 a0_0) ∧ wr.cell? ⟨w.heap.size, 1, none⟩ = some (.slice A0_1 l0_1.length c0_1) ∧ w.heap.size < wr.heap.size) ∧
      Aside0 (∀ j (hj : j < l0_1.length), j < kk → (l0_1[j].any fun x => !litB a0_0 x) = false))
  case atStart => exact ⟨0, Nat.zero_le _, by omega, rfl, ⟨(Below.refl _ _).alloc (Nat.le_refl _) _⟩, ⟨by simp [go_sem], by simp [go_sem], by simp⟩, ⟨fun j _ hj => absurd hj (Nat.not_lt_zero _)⟩⟩
  case round =>
    obtain ⟨kk, hkk, hg, rfl, HB, HC, HA⟩ := hrel
    by_cases hlt : kk < l0_1.length
    · have hltz : (kk : Int) < (l0_1.length : Int) := by omega
      obtain ⟨ad, A1, c1, e1, hx, hl1, hK⟩ := at_L1 HR.out kk (by omega) (by omega)
      cases e1
      replace hx := (HB.out.cell (World.block_lt_of_cell? w _ hx)).trans hx
      have hrd : rd_L1 l0_1 kk = l0_1[kk] := by simp [rd_L1, hlt]
      rw [hrd, Int.toNat_natCast] at hx
      rw [hrd] at hl1 hK
      clear hrd
      have HF := Aside0.mk (ContainsFunc_int 74 #[.pointer (some ⟨w.heap.size, 0, none⟩)] (fun x => !litB a0_0 x) enters74 A1 c1 l0_1[kk] wr (Kd.C_below hK HB.out) hl1
        (fun W x hx hb => Check1_calls x a0_0 ⟨w.heap.size, 0, none⟩ W ((hb.cell (by exact HC.out.2.2)).trans HC.out.1) rfl hN hN2))
      clear hl1 hK
      cases hq : (l0_1[kk].any fun x => !litB a0_0 x) with
      | true =>
        have HQ := Aside0.mk hq
        clear hq
        have HV1 : Aside0 (v = 1) := ⟨by rw [HV.out, if_pos (List.any_eq_true.2 ⟨_, List.getElem_mem hlt, HQ.out⟩)]⟩
        go_wp2_with (go_at_call 73; refine (HF.out).mono ?_; rintro e w' ⟨rfl, hb⟩; rw [HQ.out]; have HB2 := Aside0.mk hb; clear hb)
        go_ret
        exact ⟨by rw [HV1.out]; rfl, below_trans' HB.out HB2.out⟩
      | false =>
        have HQ := Aside0.mk hq
        clear hq
        go_wp2_with (go_at_call 73; refine (HF.out).mono ?_; rintro e w' ⟨rfl, hb⟩; rw [HQ.out]; have HB2 := Aside0.mk hb; clear hb)
        go_roundg (l0_1.length - (kk + 1))
        case measure => omega
        case rel =>
          refine ⟨kk + 1, by omega, by omega, by go_num, ⟨below_trans' HB.out HB2.out⟩, ⟨(HB2.out.cell HC.out.2.2).trans HC.out.1, (HB2.out.cell HC.out.2.2).trans HC.out.2.1, Nat.lt_of_lt_of_le HC.out.2.2 HB2.out.size⟩, ⟨fun j hj hj2 => ?_⟩⟩
          by_cases e : j = kk
          · subst e; exact HQ.out
          · exact HA.out j hj (by omega)
    · obtain rfl : kk = l0_1.length := by omega
      have hc1 := HC.out.2.1
      have hany : (l0_1.any fun l => l.any fun x => !litB a0_0 x) = false := by
        rw [List.any_eq_false]
        intro l hl
        obtain ⟨j, hj, rfl⟩ := List.getElem_of_mem hl
        simp only [HA.out j hj hj]; simp
      have HV2 : Aside0 (v = if 65536 < l0_1.length then 2 else 0) := ⟨by rw [HV.out, hany]; rfl⟩
      clear hany
      by_cases hlen : 65536 < l0_1.length
      · go_wp2
        go_ret
        exact ⟨by rw [HV2.out, if_pos hlen]; rfl, HB.out⟩
      · go_wp2
        go_ret
        exact ⟨by rw [HV2.out, if_neg hlen]; rfl, HB.out⟩

/-- A literal is true under a. -/
def litT (x : Int) (a : List Bool) : Bool := litB 65536 x && ((decide (x.natAbs < a.length) && a.getD x.natAbs false) == decide (0 < x))

theorem litB_range {n x : Int} (h : litB n x = true) : x ≠ 0 ∧ -n ≤ x ∧ x ≤ n := by
  simpa [litB, and_assoc] using h

theorem true_litT (x : Int) (a : List Bool) : cnf_lit_true.f x a = some (litT x a) := by
  unfold cnf_lit_true.f litT
  rw [may_litB x 65536 (by omega) (by omega)]
  simp only [Option.bind_some]
  by_cases h : litB 65536 x = true
  · rw [if_pos h, h]
    obtain ⟨h0, h1, h2⟩ := litB_range h
    have hm : mx x (wrap64 (-x)) = (x.natAbs : Int) := by unfold mx wrap64; omega
    simp only [cnf_lit_of.f, Option.bind_some, hm]
    by_cases hl : x.natAbs < a.length
    · rw [if_pos (by omega), if_pos (by omega)]
      simp [rdOf, hl, List.getD_eq_getElem?_getD]
    · rw [if_neg (by omega)]
      simp [hl]
  · have h' : litB 65536 x = false := by simpa using h
    rw [if_neg h, h']
    simp

def holdsV (l : List Int) (a : List Bool) : Bool := l.any fun x => litT x a
def cnf_Holds.f (l0 : List Int) (l1 : List Bool) : Option Bool := some (holdsV l0 l1)

theorem enters78 : ∀ args w, (callFunc 78 args).run Tryz.prog w = .ok (.enter 78 args) w := by
  intro args w; kernel_rfl

set_option maxHeartbeats 1000000 in
theorem Holds1_calls (x : Int) (ad : Addr) (A : Option Addr) (c : Nat) (l : List Bool) (w : World) (hc : w.cell? ad = some (.slice A l.length c)) (hs : ad.spot = none) (hr : Kd.C Kd.bool w A l.length l) (hl : l.length ≤ c) :
    Calls Tryz.prog 78 #[.int .i64 x, .pointer (some ad)] w fun e w' => e = .returned (.bool (litT x l)) ∧ Below w.heap.size w w' := by
  have HM := Aside0.mk (cnf_lit_true.calls x A c l (litT x l) w hr hl (true_litT x l))
  clear hr
  go_enter Tryz.func78, Tryz.ntmps78
  go_wp2_with (go_at_call 79; refine (HM.out).mono ?_; rintro e w' ⟨rfl, hb⟩; have HB := Aside0.mk hb; clear hb)
  go_ret
  exact ⟨rfl, HB.out⟩

set_option maxHeartbeats 1000000 in
theorem cnf_Holds.calls (A0 : Option Addr) (c0 : Nat) (l0 : List Int) (A1 : Option Addr) (c1 : Nat) (l1 : List Bool) (r : Bool) (w : World) (hr0 : Kd.C (Kd.int .i64) w A0 l0.length l0) (hc0 : l0.length ≤ c0) (hr1 : Kd.C Kd.bool w A1 l1.length l1) (hc1 : l1.length ≤ c1) (h : cnf_Holds.f l0 l1 = some r) :
    Calls Tryz.prog 30 #[.slice A0 l0.length c0, .slice A1 l1.length c1] w fun e w' => e = .returned (.bool r) ∧ Below w.heap.size w w' := by
  injection h with h
  subst h
  have HB1 := Aside0.mk (show Below w.heap.size w (w.alloc (.cells #[.slice A1 l1.length c1] 26)) from (Below.refl _ _).alloc (Nat.le_refl _) _)
  have HF := Aside0.mk (ContainsFunc_int 78 #[.pointer (some ⟨w.heap.size, 0, none⟩)] (fun x => litT x l1) enters78 A0 c0 l0 (w.alloc (.cells #[.slice A1 l1.length c1] 26)) (Kd.C_below hr0 HB1.out) hc0
    (fun W x hx hb => Holds1_calls x ⟨w.heap.size, 0, none⟩ A1 c1 l1 W ((hb.cell (p := ⟨w.heap.size, 0, none⟩) (by simp)).trans (by simp [go_sem])) rfl (Kd.C_below (Kd.C_below hr1 HB1.out) hb) hc1))
  clear hr0 hc0 hr1
  go_enter Tryz.func30, Tryz.ntmps30
  go_wp2_with (go_at_call 73; refine (HF.out).mono ?_; rintro e w' ⟨rfl, hb⟩; have HB2 := Aside0.mk hb; clear hb)
  go_ret
  exact ⟨rfl, below_trans' HB1.out HB2.out⟩

def valueV (N : Int) (L : List (List Int)) (a : List Bool) : Bool := checkV N L == 0 && L.all fun l => holdsV l a
def cnf_Value.f (a0_0 : Int) (l0_1 : List (List Int)) (l1 : List Bool) : Option Bool := some (valueV a0_0 l0_1 l1)

theorem enters81 : ∀ args w, (callFunc 81 args).run Tryz.prog w = .ok (.enter 81 args) w := by
  intro args w; kernel_rfl

set_option maxHeartbeats 1000000 in
theorem Value1_calls (x : List Int) (A0 : Option Addr) (c0 : Nat) (ad : Addr) (A : Option Addr) (c : Nat) (l : List Bool) (w : World) (hr0 : Kd.C (Kd.int .i64) w A0 x.length x) (hl0 : x.length ≤ c0) (hc : w.cell? ad = some (.slice A l.length c)) (hs : ad.spot = none) (hr : Kd.C Kd.bool w A l.length l) (hl : l.length ≤ c) :
    Calls Tryz.prog 81 #[.slice A0 x.length c0, .pointer (some ad)] w fun e w' => e = .returned (.bool (!holdsV x l)) ∧ Below w.heap.size w w' := by
  have HM := Aside0.mk (cnf_Holds.calls A0 c0 x A c l (holdsV x l) w hr0 hl0 hr hl rfl)
  clear hr hr0
  go_enter Tryz.func81, Tryz.ntmps81
  go_wp2_with (go_at_call 30; refine (HM.out).mono ?_; rintro e w' ⟨rfl, hb⟩; have HB := Aside0.mk hb; clear hb)
  go_ret
  exact ⟨rfl, HB.out⟩

set_option maxHeartbeats 2000000 in
theorem cnf_Value.calls (a0_0 : Int) (A0_1 : Option Addr) (c0_1 : Nat) (l0_1 : List (List Int)) (A1 : Option Addr) (c1 : Nat) (l1 : List Bool) (r : Bool) (w : World) (hr0_1 : Kd.C (Kd.slice 3 (Kd.int .i64)) w A0_1 l0_1.length l0_1) (hc0_1 : l0_1.length ≤ c0_1) (hr1 : Kd.C Kd.bool w A1 l1.length l1) (hc1 : l1.length ≤ c1) (h : cnf_Value.f a0_0 l0_1 l1 = some r) :
    Calls Tryz.prog 32 #[.agg #[.int .i64 a0_0, .slice A0_1 l0_1.length c0_1], .slice A1 l1.length c1] w fun e w' => e = .returned (.bool r) ∧ Below w.heap.size w w' := by
  injection h with h
  subst h
  obtain ⟨W1, hW1⟩ : ∃ W1, W1 = (w.alloc (.cells #[.int .i64 a0_0, .slice A0_1 l0_1.length c0_1] 24)).alloc (.cells #[.slice A1 l1.length c1] 26) := ⟨_, rfl⟩
  have HB1 := Aside0.mk (show Below w.heap.size w W1 from by subst hW1; exact ((Below.refl _ _).alloc (Nat.le_refl _) _).alloc (by simp) _)
  have HK := Aside0.mk (cnf_Check.calls a0_0 A0_1 c0_1 l0_1 _ W1 (Kd.C_below hr0_1 HB1.out) hc0_1 rfl)
  have HS := Aside0.mk (show w.heap.size + 1 < W1.heap.size ∧ W1.cell? ⟨w.heap.size, 1, none⟩ = some (.slice A0_1 l0_1.length c0_1) ∧ W1.cell? ⟨w.heap.size + 1, 0, none⟩ = some (.slice A1 l1.length c1) from by subst hW1; refine ⟨by simp, by simp [go_sem], by simp [go_sem]⟩)
  have HF := Aside0.mk (fun (W : World) (hb : Below W1.heap.size W1 W) => ContainsFunc_list 81 #[.pointer (some ⟨w.heap.size + 1, 0, none⟩)] (fun x => !holdsV x l1) enters81 A0_1 c0_1 l0_1 W (Kd.C_below (Kd.C_below hr0_1 HB1.out) hb) hc0_1
    (fun W' x A c hx hb' hl hK => Value1_calls x A c ⟨w.heap.size + 1, 0, none⟩ A1 c1 l1 W' hK hl (((below_trans' hb hb').cell (p := ⟨w.heap.size + 1, 0, none⟩) HS.out.1).trans HS.out.2.2) rfl (Kd.C_below (Kd.C_below hr1 HB1.out) (below_trans' hb hb')) hc1))
  clear hr0_1 hc0_1 hr1
  have HV := Aside0.mk (show valueV a0_0 l0_1 l1 = (checkV a0_0 l0_1 == 0 && !(l0_1.any fun x => !holdsV x l1)) from by unfold valueV; rw [List.not_any_eq_all_not]; simp)
  generalize valueV a0_0 l0_1 l1 = v at *
  cases hq : checkV a0_0 l0_1 == 0 with
  | false =>
    have HQ := Aside0.mk hq
    rw [hq] at HV
    go_enter Tryz.func32, Tryz.ntmps32
    go_wp2_with (go_at_call 26; subst hW1; refine (HK.out).mono ?_; rintro e w' ⟨rfl, hb⟩; have HB2 := Aside0.mk hb; clear hb)
    go_ret
    exact ⟨by rw [HV.out]; rfl, below_trans' HB1.out HB2.out⟩
  | true =>
    have HQ := Aside0.mk hq
    rw [hq] at HV
    go_enter Tryz.func32, Tryz.ntmps32
    subst hW1
    go_wp2_with (first | (go_at_call 26; refine (HK.out).mono ?_; rintro e w' ⟨rfl, hb⟩; have HB2 := Aside0.mk hb; clear hb; have hcl := (HB2.out.cell (p := ⟨w.heap.size, 1, none⟩) (Nat.lt_trans (Nat.lt_succ_self _) HS.out.1)).trans HS.out.2.1) | (go_at_call 82; refine (HF.out _ HB2.out).mono ?_; rintro e w2 ⟨rfl, hb⟩; have HB3 := Aside0.mk hb; clear hb))
    go_ret
    exact ⟨by rw [HV.out]; rfl, below_trans' HB1.out (below_trans' HB2.out HB3.out)⟩
end Go.Proofs.YtcdhhaedgohlgaaGreatDoor.P
end

section
namespace Go.Proofs.YtcdhhaedgohlgaaGreatDoor.P
open Go.RowKit

abbrev tabP : String := "internal/strconv.uint64pow10"
def LaidNow (w : World) : Prop := Lib.TabIs Tryz.prog w tabP .u64 Lib.pow10Tab ∧ Lib.Utf8Tabs 3 4 w
def Laid (w : World) : Prop := ∀ w', Below w.heap.size w w' → LaidNow w'
theorem Laid.on {w w1 : World} (h : Laid w) (hb : Below w.heap.size w w1) : Laid w1 := fun w' hb' => h w' (hb.trans (hb'.mono hb.size))
theorem Laid.tab {w : World} (h : Laid w) {B : Nat} {w1 : World} (hB : w.heap.size ≤ B) (hb : Below w.heap.size w w1) : Lib.TabBelow Tryz.prog B w1 tabP .u64 Lib.pow10Tab := fun w' hb' => (h w' (hb.trans (hb'.mono hB))).1
theorem Laid.utf {w : World} (h : Laid w) {w1 : World} (hb : Below w.heap.size w w1) : Lib.Utf8Tabs 3 4 w1 := (h w1 hb).2
end Go.Proofs.YtcdhhaedgohlgaaGreatDoor.P
end

section
namespace Go.Proofs
open Go.Shelf
def Tryz.laysM171_ren : Go.Shelf.Ren := ⟨fun | 171 => 90 | 243 => 131 | 246 => 168 | 283 => 196 | 284 => 197 | 285 => 198 | 286 => 199 | 129 => 164 | 317 => 218 | 318 => 219 | 319 => 220 | 320 => 221 | 337 => 232 | 338 => 233 | n => n, fun | 3 => 3 | 9 => 9 | 2 => 2 | 4 => 4 | 171 => 193 | 0 => 0 | 53 => 171 | 37 => 41 | 5 => 5 | 173 => 195 | 212 => 211 | 51 => 169 | 20 => 20 | 213 => 212 | 46 => 144 | 232 => 239 | 233 => 240 | n => n, fun | 17 => 2 | 18 => 7 | 19 => 8 | n => n⟩
theorem Tryz.laysM171 : Go.Proofs.LaysM.n171 Tryz.prog Tryz.laysM171_ren := {
  mixed := by kernel_rfl
  f129 := Tryz.func164.trans (congrArg some (by kernel_rfl))
  f171 := Tryz.func90.trans (congrArg some (by kernel_rfl))
  f243 := Tryz.func131.trans (congrArg some (by kernel_rfl))
  f246 := Tryz.func168.trans (congrArg some (by kernel_rfl))
  f283 := Tryz.func196.trans (congrArg some (by kernel_rfl))
  f284 := Tryz.func197.trans (congrArg some (by kernel_rfl))
  f285 := Tryz.func198.trans (congrArg some (by kernel_rfl))
  f286 := Tryz.func199.trans (congrArg some (by kernel_rfl))
  f317 := Tryz.func218.trans (congrArg some (by kernel_rfl))
  f318 := Tryz.func219.trans (congrArg some (by kernel_rfl))
  f319 := Tryz.func220.trans (congrArg some (by kernel_rfl))
  f320 := Tryz.func221.trans (congrArg some (by kernel_rfl))
  f337 := Tryz.func232.trans (congrArg some (by kernel_rfl))
  f338 := Tryz.func233.trans (congrArg some (by kernel_rfl))
  t0 := Tryz.underlying0
  a0 := Tryz.isAgg0
  z0 := Tryz.sizeOf0
  v0 := Tryz.zeroValue0
  t2 := Tryz.underlying2
  a2 := Tryz.isAgg2
  z2 := Tryz.sizeOf2
  v2 := Tryz.zeroValue2
  t3 := Tryz.underlying3
  a3 := Tryz.isAgg3
  z3 := Tryz.sizeOf3
  v3 := Tryz.zeroValue3
  t4 := Tryz.underlying4
  a4 := Tryz.isAgg4
  z4 := Tryz.sizeOf4
  v4 := Tryz.zeroValue4
  t5 := Tryz.underlying5
  a5 := Tryz.isAgg5
  z5 := Tryz.sizeOf5
  v5 := Tryz.zeroValue5
  t9 := Tryz.underlying9
  a9 := Tryz.isAgg9
  z9 := Tryz.sizeOf9
  v9 := Tryz.zeroValue9
  t20 := Tryz.underlying20
  a20 := Tryz.isAgg20
  z20 := Tryz.sizeOf20
  v20 := Tryz.zeroValue20
  t37 := Tryz.underlying41
  a37 := Tryz.isAgg41
  z37 := Tryz.sizeOf41
  v37 := Tryz.zeroValue41
  t46 := Tryz.underlying144
  a46 := Tryz.isAgg144
  z46 := Tryz.sizeOf144
  v46 := Tryz.zeroValue144
  t51 := Tryz.underlying169
  a51 := Tryz.isAgg169
  z51 := Tryz.sizeOf169
  v51 := Tryz.zeroValue169
  t53 := Tryz.underlying171
  a53 := Tryz.isAgg171
  z53 := Tryz.sizeOf171
  v53 := Tryz.zeroValue171
  t171 := Tryz.underlying193
  a171 := Tryz.isAgg193
  z171 := Tryz.sizeOf193
  v171 := Tryz.zeroValue193
  t173 := Tryz.underlying195
  a173 := Tryz.isAgg195
  z173 := Tryz.sizeOf195
  v173 := Tryz.zeroValue195
  t212 := Tryz.underlying211
  a212 := Tryz.isAgg211
  z212 := Tryz.sizeOf211
  v212 := Tryz.zeroValue211
  t213 := Tryz.underlying212
  a213 := Tryz.isAgg212
  z213 := Tryz.sizeOf212
  t232 := Tryz.underlying239
  a232 := Tryz.isAgg239
  z232 := Tryz.sizeOf239
  v232 := Tryz.zeroValue239
  t233 := Tryz.underlying240
  a233 := Tryz.isAgg240
  z233 := Tryz.sizeOf240
  v233 := Tryz.zeroValue240
  g17 := by kernel_rfl
  g18 := by kernel_rfl
  g19 := by kernel_rfl
  i0 := by kernel_rfl
  i2 := by kernel_rfl
  i3 := by kernel_rfl
  i4 := by kernel_rfl
  i5 := by kernel_rfl
  i9 := by kernel_rfl
  i20 := by kernel_rfl
  i37 := by kernel_rfl
  i46 := by kernel_rfl
  i51 := by kernel_rfl
  i53 := by kernel_rfl
  i171 := by kernel_rfl
  i173 := by kernel_rfl
  i212 := by kernel_rfl
  i232 := by kernel_rfl
  i233 := by kernel_rfl
  m17 := by kernel_rfl
  m18 := by kernel_rfl
  m19 := by kernel_rfl }
open Go.RowKit Go.Sort Go.Lib in
/-- strconv.Itoa: "Itoa is equivalent to FormatInt(int64(i), 10).": i's DECIMAL NUMERAL ('Lib.itoa': a '-' where i is negative, then the digits), FOR EVERY int. The world behind the call: the world before it, new blocks behind the heap (the library's 'var a [24]byte'), draws. (LAID: no walk: one application.) -/
theorem Tryz.strconv_Itoa (n : Int) (h0 : -9223372036854775808 ≤ n) (h1 : n ≤ 9223372036854775807) (w : World) (htab : Lib.TabIs Tryz.prog w "internal/strconv.uint64pow10" .u64 Lib.pow10Tab) :
    Calls Tryz.prog 90 #[.int .i64 n] w fun e w' => e = .returned (.string ⟨(Lib.itoa n).toArray⟩) ∧ ∃ k os, w' = grow (w.drewN k) os := Any.strconv_Itoa Tryz.laysM171 n h0 h1 w htab
def Tryz.laysM179_ren : Go.Shelf.Ren := ⟨fun | 179 => 91 | 251 => 129 | 252 => 130 | 181 => 165 | 184 => 166 | 290 => 167 | 324 => 195 | n => n, fun | 130 => 145 | 5 => 5 | 75 => 101 | 0 => 0 | 93 => 99 | 91 => 97 | 3 => 3 | 131 => 111 | 4 => 4 | 37 => 41 | 20 => 20 | 80 => 244 | 9 => 9 | n => n, fun | 14 => 0 | n => n⟩
theorem Tryz.laysM179 : Go.Proofs.LaysM.n179 Tryz.prog Tryz.laysM179_ren := {
  mixed := by kernel_rfl
  f179 := Tryz.func91.trans (congrArg some (by kernel_rfl))
  f181 := Tryz.func165.trans (congrArg some (by kernel_rfl))
  f184 := Tryz.func166.trans (congrArg some (by kernel_rfl))
  f251 := Tryz.func129.trans (congrArg some (by kernel_rfl))
  f252 := Tryz.func130.trans (congrArg some (by kernel_rfl))
  f290 := Tryz.func167.trans (congrArg some (by kernel_rfl))
  f324 := Tryz.func195.trans (congrArg some (by kernel_rfl))
  t0 := Tryz.underlying0
  a0 := Tryz.isAgg0
  z0 := Tryz.sizeOf0
  v0 := Tryz.zeroValue0
  t3 := Tryz.underlying3
  a3 := Tryz.isAgg3
  z3 := Tryz.sizeOf3
  v3 := Tryz.zeroValue3
  t4 := Tryz.underlying4
  a4 := Tryz.isAgg4
  z4 := Tryz.sizeOf4
  v4 := Tryz.zeroValue4
  t5 := Tryz.underlying5
  a5 := Tryz.isAgg5
  z5 := Tryz.sizeOf5
  v5 := Tryz.zeroValue5
  t20 := Tryz.underlying20
  a20 := Tryz.isAgg20
  z20 := Tryz.sizeOf20
  v20 := Tryz.zeroValue20
  t37 := Tryz.underlying41
  a37 := Tryz.isAgg41
  z37 := Tryz.sizeOf41
  v37 := Tryz.zeroValue41
  t75 := Tryz.underlying101
  a75 := Tryz.isAgg101
  z75 := Tryz.sizeOf101
  v75 := Tryz.zeroValue101
  t91 := Tryz.underlying97
  a91 := Tryz.isAgg97
  z91 := Tryz.sizeOf97
  v91 := Tryz.zeroValue97
  t93 := Tryz.underlying99
  a93 := Tryz.isAgg99
  z93 := Tryz.sizeOf99
  v93 := Tryz.zeroValue99
  t130 := Tryz.underlying145
  a130 := Tryz.isAgg145
  z130 := Tryz.sizeOf145
  v130 := Tryz.zeroValue145
  t131 := Tryz.underlying111
  a131 := Tryz.isAgg111
  z131 := Tryz.sizeOf111
  v131 := Tryz.zeroValue111
  g14 := by kernel_rfl
  t9 := Tryz.underlying9
  a9 := Tryz.isAgg9
  z9 := Tryz.sizeOf9
  v9 := Tryz.zeroValue9
  t80 := Tryz.underlying244
  a80 := Tryz.isAgg244
  z80 := Tryz.sizeOf244
  v80 := Tryz.zeroValue244
  i0 := by kernel_rfl
  i3 := by kernel_rfl
  i4 := by kernel_rfl
  i5 := by kernel_rfl
  i9 := by kernel_rfl
  i20 := by kernel_rfl
  i37 := by kernel_rfl
  i75 := by kernel_rfl
  i80 := by kernel_rfl
  i91 := by kernel_rfl
  i93 := by kernel_rfl
  i130 := by kernel_rfl
  i131 := by kernel_rfl
  m14 := by kernel_rfl }
def Tryz.laysM178_ren : Go.Shelf.Ren := ⟨fun | 178 => 89 | 251 => 129 | 252 => 130 | 181 => 165 | 184 => 166 | 290 => 167 | 324 => 195 | n => n, fun | 130 => 145 | 9 => 9 | 3 => 3 | 75 => 101 | 0 => 0 | 93 => 99 | 91 => 97 | 131 => 111 | 4 => 4 | 37 => 41 | 20 => 20 | 80 => 244 | 5 => 5 | n => n, fun | 14 => 0 | n => n⟩
theorem Tryz.laysM178 : Go.Proofs.LaysM.n178 Tryz.prog Tryz.laysM178_ren := {
  mixed := by kernel_rfl
  f178 := Tryz.func89.trans (congrArg some (by kernel_rfl))
  f181 := Tryz.func165.trans (congrArg some (by kernel_rfl))
  f184 := Tryz.func166.trans (congrArg some (by kernel_rfl))
  f251 := Tryz.func129.trans (congrArg some (by kernel_rfl))
  f252 := Tryz.func130.trans (congrArg some (by kernel_rfl))
  f290 := Tryz.func167.trans (congrArg some (by kernel_rfl))
  f324 := Tryz.func195.trans (congrArg some (by kernel_rfl))
  t0 := Tryz.underlying0
  a0 := Tryz.isAgg0
  z0 := Tryz.sizeOf0
  v0 := Tryz.zeroValue0
  t3 := Tryz.underlying3
  a3 := Tryz.isAgg3
  z3 := Tryz.sizeOf3
  v3 := Tryz.zeroValue3
  t4 := Tryz.underlying4
  a4 := Tryz.isAgg4
  z4 := Tryz.sizeOf4
  v4 := Tryz.zeroValue4
  t9 := Tryz.underlying9
  a9 := Tryz.isAgg9
  z9 := Tryz.sizeOf9
  v9 := Tryz.zeroValue9
  t20 := Tryz.underlying20
  a20 := Tryz.isAgg20
  z20 := Tryz.sizeOf20
  v20 := Tryz.zeroValue20
  t37 := Tryz.underlying41
  a37 := Tryz.isAgg41
  z37 := Tryz.sizeOf41
  v37 := Tryz.zeroValue41
  t75 := Tryz.underlying101
  a75 := Tryz.isAgg101
  z75 := Tryz.sizeOf101
  v75 := Tryz.zeroValue101
  t91 := Tryz.underlying97
  a91 := Tryz.isAgg97
  z91 := Tryz.sizeOf97
  v91 := Tryz.zeroValue97
  t93 := Tryz.underlying99
  a93 := Tryz.isAgg99
  z93 := Tryz.sizeOf99
  v93 := Tryz.zeroValue99
  t130 := Tryz.underlying145
  a130 := Tryz.isAgg145
  z130 := Tryz.sizeOf145
  v130 := Tryz.zeroValue145
  t131 := Tryz.underlying111
  a131 := Tryz.isAgg111
  z131 := Tryz.sizeOf111
  v131 := Tryz.zeroValue111
  g14 := by kernel_rfl
  t5 := Tryz.underlying5
  a5 := Tryz.isAgg5
  z5 := Tryz.sizeOf5
  v5 := Tryz.zeroValue5
  t80 := Tryz.underlying244
  a80 := Tryz.isAgg244
  z80 := Tryz.sizeOf244
  v80 := Tryz.zeroValue244
  i0 := by kernel_rfl
  i3 := by kernel_rfl
  i4 := by kernel_rfl
  i5 := by kernel_rfl
  i9 := by kernel_rfl
  i20 := by kernel_rfl
  i37 := by kernel_rfl
  i75 := by kernel_rfl
  i80 := by kernel_rfl
  i91 := by kernel_rfl
  i93 := by kernel_rfl
  i130 := by kernel_rfl
  i131 := by kernel_rfl
  m14 := by kernel_rfl }
def Tryz.laysM183_ren : Go.Shelf.Ren := ⟨fun | 183 => 92 | n => n, fun | 130 => 145 | 37 => 41 | 0 => 0 | 93 => 99 | 3 => 3 | 5 => 5 | 91 => 97 | n => n, fun | n => n⟩
theorem Tryz.laysM183 : Go.Proofs.LaysM.n183 Tryz.prog Tryz.laysM183_ren := {
  mixed := by kernel_rfl
  f183 := Tryz.func92.trans (congrArg some (by kernel_rfl))
  t0 := Tryz.underlying0
  a0 := Tryz.isAgg0
  z0 := Tryz.sizeOf0
  v0 := Tryz.zeroValue0
  t3 := Tryz.underlying3
  a3 := Tryz.isAgg3
  z3 := Tryz.sizeOf3
  v3 := Tryz.zeroValue3
  t37 := Tryz.underlying41
  a37 := Tryz.isAgg41
  z37 := Tryz.sizeOf41
  v37 := Tryz.zeroValue41
  t93 := Tryz.underlying99
  a93 := Tryz.isAgg99
  z93 := Tryz.sizeOf99
  v93 := Tryz.zeroValue99
  t130 := Tryz.underlying145
  a130 := Tryz.isAgg145
  z130 := Tryz.sizeOf145
  v130 := Tryz.zeroValue145
  t5 := Tryz.underlying5
  a5 := Tryz.isAgg5
  z5 := Tryz.sizeOf5
  v5 := Tryz.zeroValue5
  t91 := Tryz.underlying97
  a91 := Tryz.isAgg97
  z91 := Tryz.sizeOf97
  v91 := Tryz.zeroValue97
  i0 := by kernel_rfl
  i3 := by kernel_rfl
  i5 := by kernel_rfl
  i37 := by kernel_rfl
  i91 := by kernel_rfl
  i93 := by kernel_rfl
  i130 := by kernel_rfl }
open Go.RowKit in
/-- (*bytes.Buffer).Bytes: "Bytes returns a slice of length b.Len() holding the unread portion of the buffer. .. The slice aliases the buffer content at least until the next buffer modification": A SLICE THAT OWNS THE CELLS bs ('World.ownsRow': nil where nothing was ever written). The world is as it was but for the count of draws. (LAID: no walk: one application.) -/
theorem Tryz.Buffer_Bytes (B b : Nat) (bs : List Value) (w : World) (h : Lib.IsBuffer 99 5 B b bs w) :
    Calls Tryz.prog 92 #[.pointer (some ⟨b, 0, none⟩)] w fun e w' => ∃ v, e = .returned v ∧ w'.ownsRow B 5 1 v bs.length bs ∧ ∃ n, w' = w.drewN n := Any.Buffer_Bytes Tryz.laysM183 B b bs w h
end Go.Proofs
end

section
namespace Go.Proofs.YtcdhhaedgohlgaaGreatDoor.P
open Go.RowKit Go.Proofs.YtcdhhaedgohlgaaGreatDoorW.PrintWords Go.Proofs.YtcdhhaedgohlgaaGreatDoorW.PrintLast Go.Proofs.YtcdhhaedgohlgaaGreatDoorW.PrintMore
set_option linter.unusedVariables false
set_option linter.unusedSimpArgs false
set_option maxRecDepth 100000

theorem isBuf_grow {B b : Nat} {bs : List Value} {w : World} (h : Lib.IsBuffer 99 5 B b bs w) (k : Nat) (os : Array Obj) : Lib.IsBuffer 99 5 B b bs (Go.Sort.grow (w.drewN k) os) := by
  have hlt := h.lt
  obtain ⟨hB, v, lr, hb, ho, hne⟩ := h
  exact ⟨hB, v, lr, by rw [Lib.heap_grow_old w k os b hlt]; exact hb, Lib.ownsRow_grow ho k os, hne⟩
theorem kept_grow (e : TypeId) (b : Option Nat) (w : World) (k : Nat) (os : Array Obj) : Lib.OthersKept e b w (Go.Sort.grow (w.drewN k) os) := by
  intro i o hi _ _
  have hlt : i < w.heap.size := by
    rcases Nat.lt_or_ge i w.heap.size with h | h
    · exact h
    · rw [Array.getElem?_eq_none h] at hi; cases hi
  rw [Lib.heap_grow_old w k os i hlt]
  exact hi

/-- The text that one line adds. -/
def lineB (l : List Int) (s : List UInt8) : List UInt8 := (l.flatMap fun x => Lib.itoa x ++ [32]) ++ s

/-- What a writer leaves: the buffer with more text; below it, and beside it, all as it was. -/
structure BufTo (B b : Nat) (t : List UInt8) (w w' : World) : Prop where
  buf : Lib.IsBuffer 99 5 B b (Lib.byteCells t) w'
  below : Below B w w'
  kept : Lib.OthersKept 5 (some b) w w'

theorem BufTo.trans {B b : Nat} {t t' : List UInt8} {w w1 w2 : World} (h : BufTo B b t w w1) (k : BufTo B b t' w1 w2) : BufTo B b t' w w2 := ⟨k.buf, h.below.trans k.below, h.kept.trans k.kept⟩
theorem BufTo.drewN {B b : Nat} {t : List UInt8} {w w1 : World} (h : BufTo B b t w w1) (k : Nat) : BufTo B b t w (w1.drewN k) := ⟨h.buf, pw_below_drewN h.below k, h.kept⟩
theorem BufTo.refl {B b : Nat} {t : List UInt8} {w : World} (h : Lib.IsBuffer 99 5 B b (Lib.byteCells t) w) : BufTo B b t w w := ⟨h, Below.refl _ _, Lib.OthersKept.refl _ _ _⟩

theorem wstr89 (B b : Nat) (t : List UInt8) (s : ByteArray) (w : World) (h : Lib.IsBuffer 99 5 B b (Lib.byteCells t) w) (hBw : B ≤ w.heap.size) (hlim : t.length + s.size ≤ 140737488355328) :
    Calls Tryz.prog 89 #[.pointer (some ⟨b, 0, none⟩), .string s] w fun e w' => e = .returned (.tuple #[.int .i64 s.size, .nilIface]) ∧ BufTo B b (t ++ s.data.toList) w w' := by
  refine (Any.Buffer_WriteString_kept Tryz.laysM178 B b (Lib.byteCells t) s w h hBw (Lib.byteCells_one _) (by rw [Lib.byteCells_length]; exact hlim)).mono ?_
  rintro e w' ⟨rfl, h1, h2, h3⟩
  rw [← Lib.byteCells_append] at h1
  exact ⟨rfl, h1, h2, h3⟩
theorem wbyte91 (B b : Nat) (t : List UInt8) (c : UInt8) (w : World) (h : Lib.IsBuffer 99 5 B b (Lib.byteCells t) w) (hBw : B ≤ w.heap.size) (hlim : t.length + 1 ≤ 140737488355328) :
    Calls Tryz.prog 91 #[.pointer (some ⟨b, 0, none⟩), .int .u8 (c.toNat : Int)] w fun e w' => e = .returned .nilIface ∧ BufTo B b (t ++ [c]) w w' := by
  refine (Any.Buffer_WriteByte_kept Tryz.laysM179 B b (Lib.byteCells t) c.toNat w h hBw (Lib.byteCells_one _) (by rw [Lib.byteCells_length]; exact hlim)).mono ?_
  rintro e w' ⟨rfl, h1, h2, h3⟩
  have e1 : Lib.byteCells t ++ [.int .u8 (c.toNat : Int)] = Lib.byteCells (t ++ [c]) := by rw [Lib.byteCells_append]; rfl
  rw [e1] at h1
  exact ⟨rfl, h1, h2, h3⟩
theorem itoa90 (B b : Nat) (t : List UInt8) (n : Int) (h0 : -9223372036854775808 ≤ n) (h1 : n ≤ 9223372036854775807) (w : World) (hT : Lib.TabBelow Tryz.prog B w tabP .u64 Lib.pow10Tab) (h : Lib.IsBuffer 99 5 B b (Lib.byteCells t) w) (hBw : B ≤ w.heap.size) :
    Calls Tryz.prog 90 #[.int .i64 n] w fun e w' => e = .returned (.string ⟨(Lib.itoa n).toArray⟩) ∧ BufTo B b t w w' := by
  refine (Tryz.strconv_Itoa n h0 h1 w hT.here).mono ?_
  rintro e w' ⟨rfl, k, os, rfl⟩
  exact ⟨rfl, isBuf_grow h k os, Lib.below_grow B w hBw k os, kept_grow _ _ _ _ _⟩

theorem lineB_nil (l : List Int) : (∀ x ∈ l, -9223372036854775808 ≤ x ∧ x ≤ 9223372036854775807) → (lineB l []).length ≤ 22 * l.length := by
  induction l with
  | nil => intro _; simp [lineB]
  | cons x l ih =>
    intro h
    have h1 := Lib.itoa_length_le x (h x (List.mem_cons_self ..)).1 (h x (List.mem_cons_self ..)).2
    have h2 := ih (fun y hy => h y (List.mem_cons_of_mem _ hy))
    simp [lineB] at h2 ⊢
    omega
theorem lineB_snoc (l : List Int) (x : Int) : lineB (l ++ [x]) [] = lineB l [] ++ (Lib.itoa x ++ [32]) := by simp [lineB]
theorem lineB_end (l : List Int) (s : List UInt8) : lineB l s = lineB l [] ++ s := by simp [lineB]
theorem wsp91 (B b : Nat) (t : List UInt8) (w : World) (h : Lib.IsBuffer 99 5 B b (Lib.byteCells t) w) (hBw : B ≤ w.heap.size) (hlim : t.length + 1 ≤ 140737488355328) :
    Calls Tryz.prog 91 #[.pointer (some ⟨b, 0, none⟩), .int .u8 32] w fun e w' => e = .returned .nilIface ∧ BufTo B b (t ++ [32]) w w' := wbyte91 B b t 32 w h hBw hlim
theorem wnl91 (B b : Nat) (t : List UInt8) (w : World) (h : Lib.IsBuffer 99 5 B b (Lib.byteCells t) w) (hBw : B ≤ w.heap.size) (hlim : t.length + 1 ≤ 140737488355328) :
    Calls Tryz.prog 91 #[.pointer (some ⟨b, 0, none⟩), .int .u8 10] w fun e w' => e = .returned .nilIface ∧ BufTo B b (t ++ [10]) w w' := wbyte91 B b t 10 w h hBw hlim

set_option maxHeartbeats 4000000 in
theorem line88 (B b : Nat) (t : List UInt8) (A0 : Option Addr) (c0 : Nat) (l0 : List Int) (s : ByteArray) (w : World) (h : Lib.IsBuffer 99 5 B b (Lib.byteCells t) w) (hBw : B ≤ w.heap.size) (hT : Lib.TabBelow Tryz.prog B w tabP .u64 Lib.pow10Tab)
    (hA : ∀ W, Below B w W → Lib.OthersKept 5 (some b) w W → Kd.C (Kd.int .i64) W A0 l0.length l0) (hl : ∀ x ∈ l0, -9223372036854775808 ≤ x ∧ x ≤ 9223372036854775807) (hlim : t.length + 22 * l0.length + s.size ≤ 140737488355328) :
    Calls Tryz.prog 88 #[.slice A0 l0.length c0, .string s, .pointer (some ⟨b, 0, none⟩)] w fun e w' => e = .returned (.tuple #[]) ∧ BufTo B b (t ++ lineB l0 s.data.toList) w w' := by
  have HT := Aside0.mk hT
  have HA := Aside0.mk hA
  have HL := Aside0.mk hl
  have H := Aside0.mk h
  have HB := Aside0.mk hBw
  have HLIM := Aside0.mk hlim
  have hn : l0.length < 140737488355328 := by omega
  clear hT hA hl h hBw hlim
  go_enter Tryz.func88, Tryz.ntmps88
  go_wp2
  go_loopg [9] l0.length (fun gg s9 wr => ∃ kk : Nat, kk ≤ l0.length ∧ l0.length - kk ≤ gg ∧ s9 = .int .i64 kk ∧ Aside0 (BufTo B b (t ++ lineB (l0.take kk) []) w wr))
  case atStart => exact ⟨0, Nat.zero_le _, by omega, rfl, ⟨by have := BufTo.refl H.out; simpa [lineB] using this⟩⟩
  case round =>
    obtain ⟨kk, hkk, hg, rfl, HK⟩ := hrel
    by_cases hlt : kk < l0.length
    · have hltz : (kk : Int) < (l0.length : Int) := by omega
      obtain ⟨ad, e1, hx⟩ := Kd.at_int (HA.out wr HK.out.below HK.out.kept) (kk : Int) (by omega) (by omega)
      rw [Int.toNat_natCast] at hx
      have hq : rd l0 (kk : Int) = l0.getD kk 0 := by unfold rd; rw [Int.toNat_natCast]
      rw [hq] at hx
      have hxb : -9223372036854775808 ≤ l0.getD kk 0 ∧ l0.getD kk 0 ≤ 9223372036854775807 := by
        have := HL.out l0[kk] (List.getElem_mem hlt)
        simpa [List.getD_eq_getElem?_getD, hlt] using this
      have hlen : (t ++ lineB (l0.take kk) []).length + 22 ≤ 140737488355328 := by
        have h1 := lineB_nil (l0.take kk) (fun x hx => HL.out x (List.mem_of_mem_take hx))
        have h2 : (l0.take kk).length = kk := by rw [List.length_take]; omega
        rw [h2] at h1
        have h3 := HLIM.out
        rw [List.length_append]
        omega
      have hsn : t ++ lineB (l0.take (kk + 1)) [] = t ++ lineB (l0.take kk) [] ++ Lib.itoa (l0.getD kk 0) ++ [32] := by
        have : l0.take (kk + 1) = l0.take kk ++ [l0.getD kk 0] := by
          rw [List.take_add_one, List.getElem?_eq_getElem hlt]
          simp [List.getD_eq_getElem?_getD, hlt]
        rw [this, lineB_snoc]
        simp
      have hil := Lib.itoa_length_le _ hxb.1 hxb.2
      generalize l0.getD kk 0 = x at *
      have HSN := Aside0.mk hsn
      have HLEN := Aside0.mk hlen
      have HIL := Aside0.mk hil
      have HXB := Aside0.mk hxb
      have HBr : Aside0 (B ≤ wr.heap.size) := ⟨Nat.le_trans HB.out HK.out.below.size⟩
      subst e1
      clear hsn hlen hil hxb hq
      go_wp2_with (go_at_call 90; refine ((Aside0.mk (itoa90 B b _ x HXB.out.1 HXB.out.2 wr (HT.out.on HK.out.below) HK.out.buf HBr.out)).out).mono ?_; rintro e w1 ⟨rfl, h1⟩; have H1 := Aside0.mk h1; clear h1)
      go_wp2_with (go_at_call 89; refine (wstr89 B b _ ⟨(Lib.itoa x).toArray⟩ w1 H1.out.buf (Nat.le_trans HBr.out H1.out.below.size) (by have h1 := HLEN.out; have h2 := HIL.out; show _ + (Lib.itoa x).toArray.size ≤ _; rw [List.size_toArray]; omega)).mono ?_; rintro e w2 ⟨rfl, h2⟩; have H2 := Aside0.mk (H1.out.trans h2); clear h2)
      go_wp2_with (go_at_call 91; refine (wsp91 B b _ w2 H2.out.buf (Nat.le_trans HBr.out H2.out.below.size) (by have h1 := HLEN.out; have h2 := HIL.out; rw [List.length_append]; show _ + (Lib.itoa x).toArray.toList.length + 1 ≤ _; simp only [List.toList_toArray]; omega)).mono ?_; rintro e w3 ⟨rfl, h3⟩; have H3 := Aside0.mk (H2.out.trans h3); clear h3)
      go_roundg (l0.length - (kk + 1))
      case measure => omega
      case rel =>
        refine ⟨kk + 1, by omega, by omega, by go_num, ⟨?_⟩⟩
        rw [HSN.out]
        exact HK.out.trans H3.out
    · obtain rfl : kk = l0.length := by omega
      rw [List.take_length] at HK
      have hlen : (t ++ lineB l0 []).length + s.size ≤ 140737488355328 := by
        have h1 := lineB_nil l0 HL.out
        have h3 := HLIM.out
        rw [List.length_append]
        omega
      have HLEN := Aside0.mk hlen
      clear hlen
      go_wp2_with (go_at_call 89; refine (wstr89 B b _ s wr HK.out.buf (Nat.le_trans HB.out HK.out.below.size) HLEN.out).mono ?_; rintro e w2 ⟨rfl, h2⟩; have H2 := Aside0.mk (HK.out.trans h2); clear h2)
      go_end0
      refine ⟨rfl, ?_⟩
      rw [lineB_end, ← List.append_assoc]
      exact H2.out
end Go.Proofs.YtcdhhaedgohlgaaGreatDoor.P
end

section
namespace Go.Proofs.YtcdhhaedgohlgaaGreatDoor.P
open Go.RowKit Go.Proofs.YtcdhhaedgohlgaaGreatDoorW.PrintWords Go.Proofs.YtcdhhaedgohlgaaGreatDoorW.PrintLast Go.Proofs.YtcdhhaedgohlgaaGreatDoorW.PrintMore
set_option linter.unusedVariables false

def bytesI (l : List UInt8) : List Int := l.map fun b => (b.toNat : Int)
/-- Bytes that are read. -/
abbrev CB (w : World) (A : Option Addr) (bs : List UInt8) : Prop := Kd.C (Kd.int .u8) w A bs.length (bytesI bs)
theorem bytesI_length (bs : List UInt8) : (bytesI bs).length = bs.length := by simp [bytesI]
theorem bytesI_getD (bs : List UInt8) (i : Nat) (h : i < bs.length) : (bytesI bs).getD i 0 = (bs[i].toNat : Int) := by simp [bytesI, List.getD_eq_getElem?_getD, h]
theorem bytesOf_bytesI (bs : List UInt8) : Lib.bytesOf (bytesI bs) = bs := by
  unfold Lib.bytesOf bytesI
  rw [List.map_map]
  have : ((fun n : Int => UInt8.ofNat n.toNat) ∘ fun b : UInt8 => (b.toNat : Int)) = id := by funext b; simp
  rw [this, List.map_id]

theorem CB.at_ {w : World} {A : Option Addr} {bs : List UInt8} (h : CB w A bs) (i : Nat) (hi : i < bs.length) : ∃ ad, A = some ad ∧ w.cell? (ad.add i) = some (.int .u8 (bs[i].toNat : Int)) := by
  obtain ⟨ad, e, hx⟩ := Kd.at_int h (i : Int) (by omega) (by omega)
  rw [Int.toNat_natCast] at hx
  have : rd (bytesI bs) (i : Int) = (bs[i].toNat : Int) := by unfold rd; rw [Int.toNat_natCast]; exact bytesI_getD bs i hi
  rw [this] at hx
  exact ⟨ad, e, hx⟩
theorem add_add (a : Addr) (i j : Nat) : (a.add i).add j = a.add (i + j) := by
  unfold Addr.add
  by_cases hi : i = 0
  · subst hi; simp
  · by_cases hj : j = 0
    · subst hj; simp
    · rw [if_neg hi, if_neg hj, if_neg (by omega)]; simp [Nat.add_assoc]
theorem CB.mk_ {w : World} {A : Option Addr} {bs : List UInt8} (hl : bs.length ≤ 9223372036854775807) (h : ∀ (hn : 0 < bs.length), ∃ ad, A = some ad ∧ ∀ i (hi : i < bs.length), w.cell? (ad.add i) = some (.int .u8 (bs[i].toNat : Int))) : CB w A bs := by
  refine ⟨bytesI_length bs, hl, fun hn => ?_⟩
  obtain ⟨ad, e, hc⟩ := h hn
  refine ⟨ad, e, fun j p hj => ?_⟩
  obtain ⟨hjl, hp⟩ := List.getElem?_eq_some_iff.1 hj
  have hjl' : j < bs.length := by rw [bytesI_length] at hjl; exact hjl
  have hp' : p = (bs[j].toNat : Int) := by rw [← hp]; simp [bytesI]
  refine ⟨[.int .u8 p], rfl, rfl, fun i u hi => ?_⟩
  cases i with
  | zero =>
    injection hi with hi
    subst hi
    have := hc j hjl'
    rw [hp']
    show w.cell? (ad.add (j * 1 + 0)) = _
    rw [Nat.mul_one, Nat.add_zero]
    exact this
  | succ i => simp at hi
theorem CB.some_ {w : World} {A : Option Addr} {bs : List UInt8} (h : CB w A bs) (hn : 0 < bs.length) : ∃ ad, A = some ad ∧ ∀ i (hi : i < bs.length), w.cell? (ad.add i) = some (.int .u8 (bs[i].toNat : Int)) := by
  obtain ⟨ad, e, _⟩ := h.at_ 0 hn
  refine ⟨ad, e, fun i hi => ?_⟩
  obtain ⟨ad', e', hx⟩ := h.at_ i hi
  rw [e] at e'
  injection e' with e'
  subst e'
  exact hx
theorem CB.take {w : World} {A : Option Addr} {bs : List UInt8} (h : CB w A bs) (k : Nat) : CB w A (bs.take k) := by
  refine CB.mk_ (by rw [List.length_take]; have := h.2.1; omega) (fun hn => ?_)
  have hl : (bs.take k).length ≤ bs.length := by rw [List.length_take]; omega
  obtain ⟨ad, e, hc⟩ := h.some_ (by omega)
  refine ⟨ad, e, fun i hi => ?_⟩
  rw [List.getElem_take]
  exact hc i (by omega)
theorem CB.drop {w : World} {A : Option Addr} {bs : List UInt8} (h : CB w A bs) (k : Nat) : CB w (A.map (·.add k)) (bs.drop k) := by
  refine CB.mk_ (by rw [List.length_drop]; have := h.2.1; omega) (fun hn => ?_)
  rw [List.length_drop] at hn
  obtain ⟨ad, e, hc⟩ := h.some_ (by omega)
  refine ⟨ad.add k, by rw [e]; rfl, fun i hi => ?_⟩
  rw [add_add, List.getElem_drop]
  exact hc (k + i) (by rw [List.length_drop] at hi; omega)
theorem CB.nil {w : World} {A : Option Addr} : CB w A [] := CB.mk_ (by simp) (fun hn => absurd hn (by simp))
theorem CB.below {w0 W : World} {A : Option Addr} {bs : List UInt8} (h : CB w0 A bs) (hb : Below w0.heap.size w0 W) : CB W A bs := Kd.C_below h hb

end Go.Proofs.YtcdhhaedgohlgaaGreatDoor.P
end
