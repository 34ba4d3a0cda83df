/- What the law CnfResolveSpec rests on, part 5: contracts of the functions that it reaches, and plain lemmas. No condition of its own. -/
import Derived.Test.YtcdhhaedgohlgaaGreatDoorKC4
import Derived.Test.YtcdhhaedgohlgaaGreatDoorRows
import Derived.Lib.LaidU8T
import Derived.PinnedBridge
import Derived.Deep.Matrix
import Derived.Lib.SmallJoins
import Derived.SizedLaws
import Derived.ChangeSlices
set_option linter.unusedVariables false
set_option linter.unusedSimpArgs false
section
namespace Go.Proofs.YtcdhhaedgohlgaaGreatDoor.P
open Go.RowKit Go.Proofs.YtcdhhaedgohlgaaGreatDoorW.PrintWords Go.Proofs.YtcdhhaedgohlgaaGreatDoorW.PrintLast Go.Proofs.YtcdhhaedgohlgaaGreatDoorW.PrintMore
attribute [local go_sem] max2_int min2_int max_two min_two max_three min_three max_four min_four   -- for this text's walks alone
set_option linter.unusedVariables false
set_option linter.unusedSimpArgs false

mutual
def chalklineref14_Norm.l0 : Nat → List Int → List Int → Bool → Int → Option (List Int × Bool)
  | 0, _, _, _, _ => none
  | k + 1, x0, x4, x5, x6 => if x6 < (x0.length : Int) then (if 0 ≤ x6 then ((chalklineref14_Is.f (rd x0 x6) 65536).bind fun t159 => (if t159 = true then ((chalklineref14_Has.f k x4 (rd x0 x6)).bind fun t161 => (chalklineref14_Norm.j1 k x0 x4 x5 x6 t161)) else (chalklineref14_Norm.j1 k x0 x4 x5 x6 true))) else (none)) else (some (x4, x5))
def chalklineref14_Norm.j1 : Nat → List Int → List Int → Bool → Int → Bool → Option (List Int × Bool)
  | 0, _, _, _, _, _ => none
  | k + 1, x0, x4, x5, x6, x28 => if x28 = true then (chalklineref14_Norm.l0 k x0 x4 x5 (wrap64 (x6 + 1))) else (if x5 = true then (chalklineref14_Norm.j2 k x0 x4 true x6) else (if 0 ≤ x6 then (if x6 < (x0.length : Int) then ((chalklineref14_Has.f k x4 (wrap64 (-(rd x0 x6)))).bind fun t163 => (chalklineref14_Norm.j2 k x0 x4 t163 x6)) else (none)) else (none)))
def chalklineref14_Norm.j2 : Nat → List Int → List Int → Bool → Int → Option (List Int × Bool)
  | 0, _, _, _, _ => none
  | k + 1, x0, x4, x5, x6 => chalklineref14_Norm.l1 k x0 x4 x5 x6 0
def chalklineref14_Norm.l1 : Nat → List Int → List Int → Bool → Int → Int → Option (List Int × Bool)
  | 0, _, _, _, _, _ => none
  | k + 1, x0, x4, x5, x6, x7 => if x7 < (x4.length : Int) then (if 0 ≤ x7 then (if 0 ≤ x6 then (if x6 < (x0.length : Int) then ((chalklineref14_ahead.f (rd x4 x7) (rd x0 x6)).bind fun t166 => (if t166 = true then (chalklineref14_Norm.l1 k x0 x4 x5 x6 (wrap64 (x7 + 1))) else (if x7 ≤ (x4.length : Int) then ((some (x4.take (x7 : Int).toNat : List Int)).bind fun y167 => (if ([] : List Int).length + y167.length < 17592186044416 then ((some (([] : List Int) ++ y167 : List Int)).bind fun y171 => (if y171.length < 17592186044416 then ((some (y171 ++ [rd x0 x6] : List Int)).bind fun y175 => ((some (x4.drop (x7 : Int).toNat : List Int)).bind fun y178 => (if y175.length + y178.length < 17592186044416 then (chalklineref14_Norm.l0 k x0 (y175 ++ y178) x5 (wrap64 (x6 + 1))) else (none)))) else (none))) else (none))) else (none)))) else (none)) else (none)) else (none)) else (if 0 ≤ x7 then (if x7 ≤ (x4.length : Int) then ((some (x4.take (x7 : Int).toNat : List Int)).bind fun y185 => (if ([] : List Int).length + y185.length < 17592186044416 then ((some (([] : List Int) ++ y185 : List Int)).bind fun y189 => (if 0 ≤ x6 then (if x6 < (x0.length : Int) then (if y189.length < 17592186044416 then ((some (y189 ++ [rd x0 x6] : List Int)).bind fun y193 => ((some (x4.drop (x7 : Int).toNat : List Int)).bind fun y196 => (if y193.length + y196.length < 17592186044416 then (chalklineref14_Norm.l0 k x0 (y193 ++ y196) x5 (wrap64 (x6 + 1))) else (none)))) else (none)) else (none)) else (none))) else (none))) else (none)) else (none))
end
def chalklineref14_Norm.f (k : Nat) (l0 : List Int) : Option (List Int × Bool) := chalklineref14_Norm.l0 k l0 ([] : List Int) false 0
theorem chalklineref14_Norm.mono_l : ∀ k, (∀ y0 y1 y2 y3, LeO (chalklineref14_Norm.l0 k y0 y1 y2 y3) (chalklineref14_Norm.l0 (k + 1) y0 y1 y2 y3)) ∧ (∀ y0 y1 y2 y3 y4, LeO (chalklineref14_Norm.j1 k y0 y1 y2 y3 y4) (chalklineref14_Norm.j1 (k + 1) y0 y1 y2 y3 y4)) ∧ (∀ y0 y1 y2 y3, LeO (chalklineref14_Norm.j2 k y0 y1 y2 y3) (chalklineref14_Norm.j2 (k + 1) y0 y1 y2 y3)) ∧ (∀ y0 y1 y2 y3 y4, LeO (chalklineref14_Norm.l1 k y0 y1 y2 y3 y4) (chalklineref14_Norm.l1 (k + 1) y0 y1 y2 y3 y4))
  | 0 => ⟨fun _ _ _ _ r h => by simp [chalklineref14_Norm.l0] at h, fun _ _ _ _ _ r h => by simp [chalklineref14_Norm.j1] at h, fun _ _ _ _ r h => by simp [chalklineref14_Norm.j2] at h, fun _ _ _ _ _ r h => by simp [chalklineref14_Norm.l1] at h⟩
  | k + 1 => by
    obtain ⟨ih0, ih1, ih2, ih3⟩ := chalklineref14_Norm.mono_l k
    refine ⟨?_, ?_, ?_, ?_⟩
    · intro y0 y1 y2 y3
      unfold chalklineref14_Norm.l0
      repeat' first
      | (with_reducible exact ih0 _ _ _ _)
      | (with_reducible exact ih1 _ _ _ _ _)
      | (with_reducible exact ih2 _ _ _ _)
      | (with_reducible exact ih3 _ _ _ _ _)
      | (with_reducible exact chalklineref14_Has.mono _ _ _)
      | (with_reducible exact LeO.refl _)
      | (with_reducible exact LeO.none _)
      | (with_reducible refine LeO.ite ?_ ?_)
      | (with_reducible refine LeO.bind ?_ (fun _ => ?_))
      | exact ih0 _ _ _ _
      | exact ih1 _ _ _ _ _
      | exact ih2 _ _ _ _
      | exact ih3 _ _ _ _ _
      | exact chalklineref14_Has.mono _ _ _
      | exact LeO.none _
      | refine LeO.ite ?_ ?_
      | refine LeO.bind ?_ (fun _ => ?_)
    · intro y0 y1 y2 y3 y4
      unfold chalklineref14_Norm.j1
      repeat' first
      | (with_reducible exact ih0 _ _ _ _)
      | (with_reducible exact ih1 _ _ _ _ _)
      | (with_reducible exact ih2 _ _ _ _)
      | (with_reducible exact ih3 _ _ _ _ _)
      | (with_reducible exact chalklineref14_Has.mono _ _ _)
      | (with_reducible exact LeO.refl _)
      | (with_reducible exact LeO.none _)
      | (with_reducible refine LeO.ite ?_ ?_)
      | (with_reducible refine LeO.bind ?_ (fun _ => ?_))
      | exact ih0 _ _ _ _
      | exact ih1 _ _ _ _ _
      | exact ih2 _ _ _ _
      | exact ih3 _ _ _ _ _
      | exact chalklineref14_Has.mono _ _ _
      | exact LeO.none _
      | refine LeO.ite ?_ ?_
      | refine LeO.bind ?_ (fun _ => ?_)
    · intro y0 y1 y2 y3
      unfold chalklineref14_Norm.j2
      repeat' first
      | (with_reducible exact ih0 _ _ _ _)
      | (with_reducible exact ih1 _ _ _ _ _)
      | (with_reducible exact ih2 _ _ _ _)
      | (with_reducible exact ih3 _ _ _ _ _)
      | (with_reducible exact chalklineref14_Has.mono _ _ _)
      | (with_reducible exact LeO.refl _)
      | (with_reducible exact LeO.none _)
      | (with_reducible refine LeO.ite ?_ ?_)
      | (with_reducible refine LeO.bind ?_ (fun _ => ?_))
      | exact ih0 _ _ _ _
      | exact ih1 _ _ _ _ _
      | exact ih2 _ _ _ _
      | exact ih3 _ _ _ _ _
      | exact chalklineref14_Has.mono _ _ _
      | exact LeO.none _
      | refine LeO.ite ?_ ?_
      | refine LeO.bind ?_ (fun _ => ?_)
    · intro y0 y1 y2 y3 y4
      unfold chalklineref14_Norm.l1
      repeat' first
      | (with_reducible exact ih0 _ _ _ _)
      | (with_reducible exact ih1 _ _ _ _ _)
      | (with_reducible exact ih2 _ _ _ _)
      | (with_reducible exact ih3 _ _ _ _ _)
      | (with_reducible exact chalklineref14_Has.mono _ _ _)
      | (with_reducible exact LeO.refl _)
      | (with_reducible exact LeO.none _)
      | (with_reducible refine LeO.ite ?_ ?_)
      | (with_reducible refine LeO.bind ?_ (fun _ => ?_))
      | exact ih0 _ _ _ _
      | exact ih1 _ _ _ _ _
      | exact ih2 _ _ _ _
      | exact ih3 _ _ _ _ _
      | exact chalklineref14_Has.mono _ _ _
      | exact LeO.none _
      | refine LeO.ite ?_ ?_
      | refine LeO.bind ?_ (fun _ => ?_)
theorem chalklineref14_Norm.mono : ∀ a0 k, LeO (chalklineref14_Norm.f k a0) (chalklineref14_Norm.f (k + 1) a0) := by
  intro a0 k
  obtain ⟨ih0, ih1, ih2, ih3⟩ := chalklineref14_Norm.mono_l k
  unfold chalklineref14_Norm.f
  repeat' first
      | (with_reducible exact ih0 _ _ _ _)
      | (with_reducible exact ih1 _ _ _ _ _)
      | (with_reducible exact ih2 _ _ _ _)
      | (with_reducible exact ih3 _ _ _ _ _)
      | (with_reducible exact chalklineref14_Has.mono _ _ _)
      | (with_reducible exact LeO.refl _)
      | (with_reducible exact LeO.none _)
      | (with_reducible refine LeO.ite ?_ ?_)
      | (with_reducible refine LeO.bind ?_ (fun _ => ?_))
      | exact ih0 _ _ _ _
      | exact ih1 _ _ _ _ _
      | exact ih2 _ _ _ _
      | exact ih3 _ _ _ _ _
      | exact chalklineref14_Has.mono _ _ _
      | exact LeO.none _
      | refine LeO.ite ?_ ?_
      | refine LeO.bind ?_ (fun _ => ?_)
def chalklineref14_Norm.T9 : Bool × List (List Nat × List Nat) := (true, [([], []), ([], []), ([1], [1]), ([0, 2], [0, 2]), ([3], [3]), ([4], [4]), ([4], [4]), ([5, 6, 4], [4, 5, 6]), ([7, 4], [4, 7]), ([4], [4]), ([4], [4]), ([9, 10, 4], [4, 9, 10]), ([11, 4], [4, 11]), ([8, 12, 4, 4], [4, 8, 12]), ([4, 13], [4, 13])])
def chalklineref14_Norm.B9 : List Nat := [0, 0, 2, 7, 15, 31, 31, 127, 255, 31, 31, 1567, 3615, 8191, 16383]
theorem chalklineref14_Norm.tab9 : rtab .any (opsOf Tryz.f24 9) = chalklineref14_Norm.T9 := by kernel_rfl
theorem chalklineref14_Norm.bits9 : waitsOk chalklineref14_Norm.T9.2 chalklineref14_Norm.B9 = true := by kernel_rfl
set_option maxHeartbeats 8000000 in
set_option maxRecDepth 100000 in
theorem chalklineref14_Norm.calls (k : Nat) (A0 : Option Addr) (c0 : Nat) (l0 : List Int) (r1 : List Int) (r2 : Bool) (w : World) (hr0 : Kd.C (Kd.int .i64) w A0 l0.length l0) (hc0 : l0.length ≤ c0) (h : chalklineref14_Norm.f k l0 = some (r1, r2)) :
    Calls Tryz.prog 24 #[.slice A0 l0.length c0] w fun e w' => ∃ v0_ : Value, e = .returned (.tuple #[v0_, .bool r2]) ∧ Kd.R (Kd.int .i64) 3 w' w.heap.size (fun _ => True) v0_ r1 ∧ Below w.heap.size w w' := by
  have HR0 := Aside0.mk hr0
  have HC0 := Aside0.mk hc0
  clear hr0 hc0
  have HB := Aside0.mk (Below.refl w.heap.size w)
  have H : (chalklineref14_Norm.l0 k l0 ([] : List Int) false 0) = some (r1, r2) := h
  clear h
  have H' := Aside0.mk H
  clear H
  go_enter Tryz.func24, Tryz.ntmps24
  go_wp2
  go_loopg [4, 5, 6] k (fun kq v4 v5 v6 w' => ∃ (x4_1 : List Int) (x5_1 : Bool) (x6_1 : Int), v5 = .bool x5_1 ∧ v6 = .int .i64 x6_1 ∧ Aside0 (chalklineref14_Norm.l0 kq l0 x4_1 x5_1 x6_1 = some (r1, r2)) ∧ Aside0 (kq ≤ k) ∧ Aside0 (Kd.R (Kd.int .i64) 3 w' w.heap.size (fun _ => True) v4 x4_1) ∧ Aside0 (Below w.heap.size w w'))
  case atStart => exact ⟨(([] : List Int)), (false), (0), (by first | rfl | (simp; done) | (simp [*]; done)), (by first | rfl | (simp; done) | (simp [*]; done)), H', ⟨Nat.le_refl _⟩, ⟨by first | exact Kd.R_nil _ _ _ _ _ | exact Kd.N_nil _ _ _ _ _ | exact Kd.V_nil _ _ _ _ _ | exact Kd.Q_nil _ _ _ _ _ | exact Kd.S_nil _ _ _ _ _⟩, ⟨by repeat (first | (with_reducible first | exact HB.out | apply below_alloc | apply pw_below_drewN | apply below_drew1) | exact HB.out)⟩⟩
  case round =>
    clear H'
    obtain ⟨x4_1, x5_1, x6_1, rfl, rfl, HA, HK1, HO_4, HB⟩ := hrel
    cases gk with
    | zero => exact absurd HA.out (by simp [chalklineref14_Norm.l0])
    | succ k1 =>
      have H := HA.out
      clear HA
      simp only [chalklineref14_Norm.l0] at H
      by_cases c2 : x6_1 < (l0.length : Int)
      · rw [if_pos c2] at H
        have c2b0 : decide (x6_1 < (l0.length : Int)) = true := decide_eq_true c2
        clear c2
        have HC3 := Aside0.mk H
        clear H
        go_upto_region 6 with (fail)
        go_cut [28] (fun v28 wc => ∃ (kq : Nat) (x28_2 : Bool), v28 = .bool x28_2 ∧ Aside0 (chalklineref14_Norm.j1 kq l0 x4_1 x5_1 x6_1 x28_2 = some (r1, r2)) ∧ Aside0 (kq ≤ k1) ∧ Aside0 (Kd.R (Kd.int .i64) 3 wc w.heap.size (fun _ => True) u4 x4_1) ∧ Aside0 (Below w.heap.size w wc))
        case first =>
          have H := HC3.out
          clear HC3
          by_cases c4 : 0 ≤ x6_1
          · rw [if_pos c4] at H
            have c4b0 : decide (0 ≤ x6_1) = true := decide_eq_true c4
            clear c4
            (first | rw [c4b0] | (simp only [i64_w, i32_w]; rw [c4b0]) | skip)
            replace H := Option.bind_eq_some_iff.mp H
            obtain ⟨t159, A50, H⟩ := H
            replace H : (if t159 = true then ((chalklineref14_Has.f k1 x4_1 (rd l0 x6_1)).bind fun t161 => (chalklineref14_Norm.j1 k1 l0 x4_1 x5_1 x6_1 t161)) else (chalklineref14_Norm.j1 k1 l0 x4_1 x5_1 x6_1 true)) = some (r1, r2) := H
            have A5 := Aside0.mk A50
            clear A50
            by_cases c6 : t159 = true
            · subst c6
              have H1 : ((chalklineref14_Has.f k1 x4_1 (rd l0 x6_1)).bind fun t161 => (chalklineref14_Norm.j1 k1 l0 x4_1 x5_1 x6_1 t161)) = some (r1, r2) := by rw [if_pos rfl] at H; exact H
              clear H
              have H := H1
              clear H1
              replace H := Option.bind_eq_some_iff.mp H
              obtain ⟨t161, A70, H⟩ := H
              replace H : (chalklineref14_Norm.j1 k1 l0 x4_1 x5_1 x6_1 t161) = some (r1, r2) := H
              have A7 := Aside0.mk A70
              clear A70
              have H' := Aside0.mk H
              clear H
              have p158 : 0 ≤ (x6_1 : Int) := of_decide_eq_true (by first | (with_reducible assumption) | assumption)
              have q158 : x6_1 < (l0.length : Int) := of_decide_eq_true (by first | (with_reducible assumption) | assumption)
              obtain ⟨ad158, e158, hx158_0⟩ := Kd.at_int HR0.out x6_1 p158 q158
              cases e158
              replace hx158_0 := (HB.out.cell (World.block_lt_of_cell? w _ hx158_0)).trans hx158_0
              replace p158 := eq_true p158
              replace q158 := eq_true q158
              go_wp2_with (first | ((with_reducible refine gate_callee (f := 71) rfl ?_); refine goesL_ (some 19) rfl rfl Tryz.func71 (by kernel_rfl) rfl #[.int .i64 (rd l0 x6_1), .int .i64 65536] rfl (by (try simp only [List.map_toArray, List.map_cons, List.map_nil]); first | done | rfl | (simp only [List.length_drop, List.length_take]; rfl)) ?_; (with_reducible refine (chalklineref14_Is.calls (rd l0 x6_1) 65536 true _ A5.out).mono ?_); rintro e w' ⟨rfl, ⟨nd, rfl⟩⟩; refine ⟨_, rfl, ?_⟩; have p160 : 0 ≤ (x6_1 : Int) := of_decide_eq_true (by first | (with_reducible assumption) | assumption); have q160 : x6_1 < (l0.length : Int) := of_decide_eq_true (by first | (with_reducible assumption) | assumption); obtain ⟨ad160, e160, hx160_0⟩ := Kd.at_int HR0.out x6_1 p160 q160; obtain rfl : ad158 = ad160 := (by injection e160); replace hx160_0 := (HB.out.cell (World.block_lt_of_cell? w _ hx160_0)).trans hx160_0; replace p160 := eq_true p160; replace q160 := eq_true q160; obtain ⟨Ao8, co8, eo8⟩ := Kd.R_slice HO_4.out; subst eo8) | (go_at_call 42; (with_reducible refine (chalklineref14_Has.calls k1 _ _ x4_1 (rd l0 x6_1) t161 _ ?side1 ?side2 A7.out).mono ?_); (case side1 => repeat (first | exact (Kd.R_reads' HO_4.out).2.2 | (with_reducible refine Kd.C_alloc ?_ _) | (with_reducible refine Kd.C_drewN ?_ _) | (with_reducible refine Kd.C_drew ?_))); (case side2 => exact (Kd.R_reads' HO_4.out).2.1); rintro e w' ⟨rfl, ⟨nd, rfl⟩⟩))
              go_meet
              case rel => exact ⟨_, (t161), (by first | rfl | (simp; done) | (simp [*]; done)), H', ⟨by have := HK1.out; first | omega | exact Nat.le_refl _⟩, ⟨by (with_reducible repeat (first | apply Kd.R_alloc | apply Kd.R_drewN | apply Kd.R_drew)); exact HO_4.out⟩, ⟨by repeat (first | (with_reducible first | exact HB.out | apply below_alloc | apply pw_below_drewN | apply below_drew1) | exact HB.out)⟩⟩
            · replace c6 := Bool.eq_false_iff.mpr c6
              subst c6
              have H1 : (chalklineref14_Norm.j1 k1 l0 x4_1 x5_1 x6_1 true) = some (r1, r2) := by rw [if_neg (show ¬ (false = true) by decide)] at H; exact H
              clear H
              have H := H1
              clear H1
              have H' := Aside0.mk H
              clear H
              have p158 : 0 ≤ (x6_1 : Int) := of_decide_eq_true (by first | (with_reducible assumption) | assumption)
              have q158 : x6_1 < (l0.length : Int) := of_decide_eq_true (by first | (with_reducible assumption) | assumption)
              obtain ⟨ad158, e158, hx158_0⟩ := Kd.at_int HR0.out x6_1 p158 q158
              cases e158
              replace hx158_0 := (HB.out.cell (World.block_lt_of_cell? w _ hx158_0)).trans hx158_0
              replace p158 := eq_true p158
              replace q158 := eq_true q158
              go_wp2_with (first | ((with_reducible refine gate_callee (f := 71) rfl ?_); refine goesL_ (some 19) rfl rfl Tryz.func71 (by kernel_rfl) rfl #[.int .i64 (rd l0 x6_1), .int .i64 65536] rfl (by (try simp only [List.map_toArray, List.map_cons, List.map_nil]); first | done | rfl | (simp only [List.length_drop, List.length_take]; rfl)) ?_; (with_reducible refine (chalklineref14_Is.calls (rd l0 x6_1) 65536 false _ A5.out).mono ?_); rintro e w' ⟨rfl, ⟨nd, rfl⟩⟩; refine ⟨_, rfl, ?_⟩))
              go_meet
              case rel => exact ⟨_, (true), (by first | rfl | (simp; done) | (simp [*]; done)), H', ⟨by have := HK1.out; first | omega | exact Nat.le_refl _⟩, ⟨by (with_reducible repeat (first | apply Kd.R_alloc | apply Kd.R_drewN | apply Kd.R_drew)); exact HO_4.out⟩, ⟨by repeat (first | (with_reducible first | exact HB.out | apply below_alloc | apply pw_below_drewN | apply below_drew1) | exact HB.out)⟩⟩
          · rw [if_neg c4] at H
            exact absurd H (by simp)
        case rest =>
          clear HC3
          try clear p1
          try clear q1
          try clear hx1
          try clear c2
          try clear c2b0
          try clear p2
          try clear c4
          try clear c4b0
          try clear c6
          try clear c7
          try clear hx158_0
          try clear hx160_0
          try clear p158
          try clear p160
          try clear q158
          try clear q160
          obtain ⟨kq, x28_2, rfl, HA, HJ2, HO_4, HB⟩ := hcut
          cases kq with
          | zero => exact absurd HA.out (by simp [chalklineref14_Norm.j1])
          | succ kj2 =>
            have H := HA.out
            clear HA
            simp only [chalklineref14_Norm.j1] at H
            by_cases c9 : x28_2 = true
            · subst c9
              have H1 : (chalklineref14_Norm.l0 kj2 l0 x4_1 x5_1 (wrap64 (x6_1 + 1))) = some (r1, r2) := by rw [if_pos rfl] at H; exact H
              clear H
              have H := H1
              clear H1
              have H' := Aside0.mk H
              clear H
              go_wp2
              go_roundg kj2
              case measure => have := HK1.out; have := HJ2.out; omega
              case rel => exact ⟨(x4_1), (x5_1), (wrap64 (x6_1 + 1)), (by first | rfl | (simp; done) | (simp [*]; done)), (by first | rfl | (simp; done) | (simp [*]; done)), H', ⟨by have := HK1.out; have := HJ2.out; omega⟩, ⟨by (with_reducible repeat (first | apply Kd.R_alloc | apply Kd.R_drewN | apply Kd.R_drew)); exact HO_4.out⟩, ⟨by repeat (first | (with_reducible first | exact HB.out | apply below_alloc | apply pw_below_drewN | apply below_drew1) | exact HB.out)⟩⟩
            · replace c9 := Bool.eq_false_iff.mpr c9
              subst c9
              have H1 : (if x5_1 = true then (chalklineref14_Norm.j2 kj2 l0 x4_1 true x6_1) else (if 0 ≤ x6_1 then (if x6_1 < (l0.length : Int) then ((chalklineref14_Has.f kj2 x4_1 (wrap64 (-(rd l0 x6_1)))).bind fun t163 => (chalklineref14_Norm.j2 kj2 l0 x4_1 t163 x6_1)) else (none)) else (none))) = some (r1, r2) := by rw [if_neg (show ¬ (false = true) by decide)] at H; exact H
              clear H
              have H := H1
              clear H1
              have HC10 := Aside0.mk H
              clear H
              go_upto_region 7 with (fail)
              go_cut [5] (fun v5 wc => ∃ (kq : Nat) (x5_9 : Bool), v5 = .bool x5_9 ∧ Aside0 (chalklineref14_Norm.j2 kq l0 x4_1 x5_9 x6_1 = some (r1, r2)) ∧ Aside0 (kq ≤ kj2) ∧ Aside0 (Kd.R (Kd.int .i64) 3 wc w.heap.size (fun _ => True) u4 x4_1) ∧ Aside0 (Below w.heap.size w wc))
              case first =>
                have H := HC10.out
                clear HC10
                by_cases c11 : x5_1 = true
                · subst c11
                  have H1 : (chalklineref14_Norm.j2 kj2 l0 x4_1 true x6_1) = some (r1, r2) := by rw [if_pos rfl] at H; exact H
                  clear H
                  have H := H1
                  clear H1
                  have H' := Aside0.mk H
                  clear H
                  go_wp2
                  go_meet
                  case rel => exact ⟨_, (true), (by first | rfl | (simp; done) | (simp [*]; done)), H', ⟨by have := HK1.out; have := HJ2.out; first | omega | exact Nat.le_refl _⟩, ⟨by (with_reducible repeat (first | apply Kd.R_alloc | apply Kd.R_drewN | apply Kd.R_drew)); exact HO_4.out⟩, ⟨by repeat (first | (with_reducible first | exact HB.out | apply below_alloc | apply pw_below_drewN | apply below_drew1) | exact HB.out)⟩⟩
                · replace c11 := Bool.eq_false_iff.mpr c11
                  subst c11
                  have H1 : (if 0 ≤ x6_1 then (if x6_1 < (l0.length : Int) then ((chalklineref14_Has.f kj2 x4_1 (wrap64 (-(rd l0 x6_1)))).bind fun t163 => (chalklineref14_Norm.j2 kj2 l0 x4_1 t163 x6_1)) else (none)) else (none)) = some (r1, r2) := by rw [if_neg (show ¬ (false = true) by decide)] at H; exact H
                  clear H
                  have H := H1
                  clear H1
                  by_cases c12 : 0 ≤ x6_1
                  · rw [if_pos c12] at H
                    have c12b0 : decide (0 ≤ x6_1) = true := decide_eq_true c12
                    clear c12
                    (first | rw [c12b0] | (simp only [i64_w, i32_w]; rw [c12b0]) | skip)
                    by_cases c13 : x6_1 < (l0.length : Int)
                    · rw [if_pos c13] at H
                      have c13b0 : decide (x6_1 < (l0.length : Int)) = true := decide_eq_true c13
                      clear c13
                      replace H := Option.bind_eq_some_iff.mp H
                      obtain ⟨t163, A140, H⟩ := H
                      replace H : (chalklineref14_Norm.j2 kj2 l0 x4_1 t163 x6_1) = some (r1, r2) := H
                      have A14 := Aside0.mk A140
                      clear A140
                      have H' := Aside0.mk H
                      clear H
                      have p162 : 0 ≤ (x6_1 : Int) := of_decide_eq_true (by first | (with_reducible assumption) | assumption)
                      have q162 : x6_1 < (l0.length : Int) := of_decide_eq_true (by first | (with_reducible assumption) | assumption)
                      obtain ⟨ad162, e162, hx162_0⟩ := Kd.at_int HR0.out x6_1 p162 q162
                      cases e162
                      replace hx162_0 := (HB.out.cell (World.block_lt_of_cell? w _ hx162_0)).trans hx162_0
                      replace p162 := eq_true p162
                      replace q162 := eq_true q162
                      obtain ⟨Ao15, co15, eo15⟩ := Kd.R_slice HO_4.out
                      subst eo15
                      go_wp2_with (first | (go_at_call 42; (with_reducible refine (chalklineref14_Has.calls kj2 _ _ x4_1 (wrap64 (-(rd l0 x6_1))) t163 _ ?side1 ?side2 A14.out).mono ?_); (case side1 => repeat (first | exact (Kd.R_reads' HO_4.out).2.2 | (with_reducible refine Kd.C_alloc ?_ _) | (with_reducible refine Kd.C_drewN ?_ _) | (with_reducible refine Kd.C_drew ?_))); (case side2 => exact (Kd.R_reads' HO_4.out).2.1); rintro e w' ⟨rfl, ⟨nd, rfl⟩⟩))
                      go_meet
                      case rel => exact ⟨_, (t163), (by first | rfl | (simp; done) | (simp [*]; done)), H', ⟨by have := HK1.out; have := HJ2.out; first | omega | exact Nat.le_refl _⟩, ⟨by (with_reducible repeat (first | apply Kd.R_alloc | apply Kd.R_drewN | apply Kd.R_drew)); exact HO_4.out⟩, ⟨by repeat (first | (with_reducible first | exact HB.out | apply below_alloc | apply pw_below_drewN | apply below_drew1) | exact HB.out)⟩⟩
                    · rw [if_neg c13] at H
                      exact absurd H (by simp)
                  · rw [if_neg c12] at H
                    exact absurd H (by simp)
              case rest =>
                clear HC10
                try clear c1
                try clear p1
                try clear q1
                try clear hx1
                try clear c2
                try clear c2b0
                try clear p2
                try clear c4
                try clear c4b0
                try clear c6
                try clear p6
                try clear c7
                try clear c9
                try clear c11
                try clear c12
                try clear c12b0
                try clear c13
                try clear c13b0
                try clear p15
                try clear q15
                try clear hx15
                try clear hx158_0
                try clear hx160_0
                try clear hx162_0
                try clear p1
                try clear p158
                try clear p160
                try clear p162
                try clear p2
                try clear q1
                try clear q158
                try clear q160
                try clear q162
                obtain ⟨kq, x5_9, rfl, HA, HJ9, HO_4, HB⟩ := hcut
                cases kq with
                | zero => exact absurd HA.out (by simp [chalklineref14_Norm.j2])
                | succ kj9 =>
                  have H := HA.out
                  clear HA
                  simp only [chalklineref14_Norm.j2] at H
                  have H' := Aside0.mk H
                  clear H
                  go_wp2
                  go_loopg [7] kj9 (fun kq v7 w' => ∃ (x7_4 : Int), v7 = .int .i64 x7_4 ∧ Aside0 (chalklineref14_Norm.l1 kq l0 x4_1 x5_9 x6_1 x7_4 = some (r1, r2)) ∧ Aside0 (kq ≤ kj9) ∧ Aside0 (Kd.R (Kd.int .i64) 3 w' w.heap.size (fun _ => True) u4 x4_1) ∧ Aside0 (Below w.heap.size w w'))
                  case atStart => exact ⟨(0), (by first | rfl | (simp; done) | (simp [*]; done)), H', ⟨Nat.le_refl _⟩, ⟨by (with_reducible repeat (first | apply Kd.R_alloc | apply Kd.R_drewN | apply Kd.R_drew)); exact HO_4.out⟩, ⟨by repeat (first | (with_reducible first | exact HB.out | apply below_alloc | apply pw_below_drewN | apply below_drew1) | exact HB.out)⟩⟩
                  case round =>
                    clear H'
                    try clear c1
                    try clear p1
                    try clear q1
                    try clear hx1
                    try clear c2
                    try clear c2b0
                    try clear p2
                    try clear c4
                    try clear c4b0
                    try clear c6
                    try clear p6
                    try clear c7
                    try clear c9
                    try clear c11
                    try clear c12
                    try clear c12b0
                    try clear c13
                    try clear c13b0
                    try clear p15
                    try clear q15
                    try clear hx15
                    try clear hx158_0
                    try clear hx160_0
                    try clear hx162_0
                    try clear p1
                    try clear p15
                    try clear p158
                    try clear p160
                    try clear p162
                    try clear p2
                    try clear p6
                    try clear q1
                    try clear q15
                    try clear q158
                    try clear q160
                    try clear q162
                    obtain ⟨x7_4, rfl, HA, HK4, HO_4, HB⟩ := hrel
                    cases gk with
                    | zero => exact absurd HA.out (by simp [chalklineref14_Norm.l1])
                    | succ k4 =>
                      have H := HA.out
                      clear HA
                      simp only [chalklineref14_Norm.l1] at H
                      by_cases c16 : x7_4 < (x4_1.length : Int)
                      · rw [if_pos c16] at H
                        have c16b0 : decide (x7_4 < (x4_1.length : Int)) = true := decide_eq_true c16
                        clear c16
                        by_cases c17 : 0 ≤ x7_4
                        · rw [if_pos c17] at H
                          have c17b0 : decide (0 ≤ x7_4) = true := decide_eq_true c17
                          clear c17
                          by_cases c18 : 0 ≤ x6_1
                          · rw [if_pos c18] at H
                            have c18b0 : decide (0 ≤ x6_1) = true := decide_eq_true c18
                            clear c18
                            by_cases c19 : x6_1 < (l0.length : Int)
                            · rw [if_pos c19] at H
                              have c19b0 : decide (x6_1 < (l0.length : Int)) = true := decide_eq_true c19
                              clear c19
                              replace H := Option.bind_eq_some_iff.mp H
                              obtain ⟨t166, A200, H⟩ := H
                              replace H : (if t166 = true then (chalklineref14_Norm.l1 k4 l0 x4_1 x5_9 x6_1 (wrap64 (x7_4 + 1))) else (if x7_4 ≤ (x4_1.length : Int) then ((some (x4_1.take (x7_4 : Int).toNat : List Int)).bind fun y167 => (if ([] : List Int).length + y167.length < 17592186044416 then ((some (([] : List Int) ++ y167 : List Int)).bind fun y171 => (if y171.length < 17592186044416 then ((some (y171 ++ [rd l0 x6_1] : List Int)).bind fun y175 => ((some (x4_1.drop (x7_4 : Int).toNat : List Int)).bind fun y178 => (if y175.length + y178.length < 17592186044416 then (chalklineref14_Norm.l0 k4 l0 (y175 ++ y178) x5_9 (wrap64 (x6_1 + 1))) else (none)))) else (none))) else (none))) else (none))) = some (r1, r2) := H
                              have A20 := Aside0.mk A200
                              clear A200
                              by_cases c21 : t166 = true
                              · subst c21
                                have H1 : (chalklineref14_Norm.l1 k4 l0 x4_1 x5_9 x6_1 (wrap64 (x7_4 + 1))) = some (r1, r2) := by rw [if_pos rfl] at H; exact H
                                clear H
                                have H := H1
                                clear H1
                                have H' := Aside0.mk H
                                clear H
                                try go_wp2
                                have n0_ := Aside0.mk (Kd.R_drew HO_4.out)
                                have n1_ := Aside0.mk (below_drew1 HB.out)
                                clear HO_4
                                clear HB
                                have HO_4 := n0_
                                have HB := n1_
                                clear n0_ n1_
                                obtain ⟨Ao23, co23, eo23⟩ := Kd.R_slice HO_4.out
                                (first | subst eo23 | (injection eo23 with f1_ f2_ f3_; have f4_ := f1_.symm; have f5_ := f3_.symm; clear f1_ f2_ f3_; subst f4_; subst f5_))
                                have p164 : 0 ≤ (x7_4 : Int) := of_decide_eq_true (by first | (with_reducible assumption) | assumption)
                                have q164 : x7_4 < (x4_1.length : Int) := of_decide_eq_true (by first | (with_reducible assumption) | assumption)
                                obtain ⟨ad164, e164, hx164_0⟩ := Kd.at_int (Kd.R_reads' HO_4.out).2.2 x7_4 p164 q164
                                cases e164
                                replace p164 := eq_true p164
                                replace q164 := eq_true q164
                                have p165 : 0 ≤ (x6_1 : Int) := of_decide_eq_true (by first | (with_reducible assumption) | assumption)
                                have q165 : x6_1 < (l0.length : Int) := of_decide_eq_true (by first | (with_reducible assumption) | assumption)
                                obtain ⟨ad165, e165, hx165_0⟩ := Kd.at_int HR0.out x6_1 p165 q165
                                have hw165_0 := hx165_0
                                cases e165
                                replace hx165_0 := (HB.out.cell (World.block_lt_of_cell? w _ hx165_0)).trans hx165_0
                                replace p165 := eq_true p165
                                replace q165 := eq_true q165
                                refine start_ (n := 15) (S := fun w' => w'.cell? (ad164.add (x7_4).toNat) = some (.int .i64 (rd x4_1 x7_4)) ∧ w'.cell? (ad165.add (x6_1).toNat) = some (.int .i64 (rd l0 x6_1))) (ds := []) #[false, false, false, false, false, false, false, false, false, false, false, false, false, false, false] (by kernel_rfl) rfl rfl ⟨hx164_0, ((HB.out.cell (World.block_lt_of_cell? w _ hw165_0)).trans hw165_0)⟩ (fun hHeld => ?_); refine with_tabW chalklineref14_Norm.tab9 chalklineref14_Norm.bits9 (fun HT_ HW_ => ?_)
                                generalize wr.drew = w22 at HO_4 HB hx164_0 hx165_0 hHeld ⊢
                                refine pure_ (i := 0) (N := some 39) (v := ?_) (a' := ?_) #[true, false, false, false, false, false, false, false, false, false, false, false, false, false, false] rfl rfl (any_of HT_.out (by kernel_rfl)) (fun _ _ _ h => h) (Or.inl ⟨by rfl, ?_⟩) ?_ ?_
                                rotate_left
                                · intro w'
                                  go_simp
                                  with_reducible rfl
                                rotate_left
                                · simp only [Act.put, List.setIfInBounds_toArray, List.set_cons_zero, List.set_cons_succ, i64_w, i32_w]
                                  rfl
                                refine pure_ (i := 1) (N := some 40) (v := ?_) (a' := ?_) #[true, true, false, false, false, false, false, false, false, false, false, false, false, false, false] rfl rfl (any_of HT_.out (by kernel_rfl)) (fun _ _ _ h => h) (Or.inl ⟨by rfl, ?_⟩) ?_ ?_
                                rotate_left
                                · intro w'
                                  go_simp
                                  with_reducible rfl
                                rotate_left
                                · simp only [Act.put, List.setIfInBounds_toArray, List.set_cons_zero, List.set_cons_succ, i64_w, i32_w]
                                  rfl
                                refine pure_ (i := 2) (N := some 41) (v := ?_) (a' := ?_) #[true, true, true, false, false, false, false, false, false, false, false, false, false, false, false] rfl rfl (any_of HT_.out (by kernel_rfl)) (fun _ _ _ h => h) (Or.inl ⟨by rfl, ?_⟩) ?_ ?_
                                rotate_left
                                · intro w'
                                  go_simp
                                  with_reducible rfl
                                rotate_left
                                · simp only [Act.put, List.setIfInBounds_toArray, List.set_cons_zero, List.set_cons_succ, i64_w, i32_w]
                                  rfl
                                refine pure_ (i := 3) (N := some 42) (v := ?_) (a' := ?_) #[true, true, true, true, false, false, false, false, false, false, false, false, false, false, false] rfl rfl (any_of HT_.out (by kernel_rfl)) (fun _ _ _ h => h) (Or.inl ⟨by rfl, ?_⟩) ?_ ?_
                                rotate_left
                                · intro w'
                                  go_simp
                                  with_reducible rfl
                                rotate_left
                                · simp only [Act.put, List.setIfInBounds_toArray, List.set_cons_zero, List.set_cons_succ, i64_w, i32_w]
                                  rfl
                                refine pure_ (i := 4) (N := some 43) (v := ?_) (a' := ?_) #[true, true, true, true, true, false, false, false, false, false, false, false, false, false, false] rfl rfl (any_of HT_.out (by kernel_rfl)) (fun _ _ _ h => h) (Or.inl ⟨by rfl, ?_⟩) ?_ ?_
                                rotate_left
                                · intro w'
                                  go_simp
                                  with_reducible rfl
                                rotate_left
                                · simp only [Act.put, List.setIfInBounds_toArray, List.set_cons_zero, List.set_cons_succ, i64_w, i32_w]
                                  rfl
                                refine pure_ (i := 5) (N := some 44) (v := ?_) (a' := ?_) #[true, true, true, true, true, true, false, false, false, false, false, false, false, false, false] rfl rfl (any_of HT_.out (by kernel_rfl)) (fun _ _ _ h => h) (Or.inl ⟨by rfl, ?_⟩) ?_ ?_
                                rotate_left
                                · intro w'
                                  go_simp
                                  with_reducible rfl
                                rotate_left
                                · simp only [Act.put, List.setIfInBounds_toArray, List.set_cons_zero, List.set_cons_succ, i64_w, i32_w]
                                  rfl
                                refine pure_ (i := 6) (N := some 45) (v := ?_) (a' := ?_) #[true, true, true, true, true, true, true, false, false, false, false, false, false, false, false] rfl rfl (any_of HT_.out (by kernel_rfl)) (fun _ _ _ h => h) (Or.inl ⟨by rfl, ?_⟩) ?_ ?_
                                rotate_left
                                · intro w'
                                  go_simp
                                  with_reducible rfl
                                rotate_left
                                · simp only [Act.put, List.setIfInBounds_toArray, List.set_cons_zero, List.set_cons_succ, i64_w, i32_w]
                                  rfl
                                refine pure_ (i := 7) (N := some 46) (v := ?_) (a' := ?_) #[true, true, true, true, true, true, true, true, false, false, false, false, false, false, false] rfl rfl (any_of HT_.out (by kernel_rfl)) (fun _ _ _ h => h) (Or.inl ⟨by rfl, ?_⟩) ?_ ?_
                                rotate_left
                                · intro w'
                                  go_simp
                                  with_reducible rfl
                                rotate_left
                                · simp only [Act.put, List.setIfInBounds_toArray, List.set_cons_zero, List.set_cons_succ, i64_w, i32_w]
                                  rfl
                                refine pure_ (i := 9) (N := some 48) (v := ?_) (a' := ?_) #[true, true, true, true, true, true, true, true, false, true, false, false, false, false, false] rfl rfl (any_of HT_.out (by kernel_rfl)) (fun _ _ _ h => h) (Or.inl ⟨by rfl, ?_⟩) ?_ ?_
                                rotate_left
                                · intro w'
                                  go_simp
                                  with_reducible rfl
                                rotate_left
                                · simp only [Act.put, List.setIfInBounds_toArray, List.set_cons_zero, List.set_cons_succ, i64_w, i32_w]
                                  rfl
                                refine pure_ (i := 10) (N := some 49) (v := ?_) (a' := ?_) #[true, true, true, true, true, true, true, true, false, true, true, false, false, false, false] rfl rfl (any_of HT_.out (by kernel_rfl)) (fun _ _ _ h => h) (Or.inl ⟨by rfl, ?_⟩) ?_ ?_
                                rotate_left
                                · intro w'
                                  go_simp
                                  with_reducible rfl
                                rotate_left
                                · simp only [Act.put, List.setIfInBounds_toArray, List.set_cons_zero, List.set_cons_succ, i64_w, i32_w]
                                  rfl
                                refine pure_ (i := 11) (N := some 50) (v := ?_) (a' := ?_) #[true, true, true, true, true, true, true, true, false, true, true, true, false, false, false] rfl rfl (any_of HT_.out (by kernel_rfl)) (fun _ _ _ h => h) (Or.inl ⟨by rfl, ?_⟩) ?_ ?_
                                rotate_left
                                · intro w'
                                  go_simp
                                  with_reducible rfl
                                rotate_left
                                · simp only [Act.put, List.setIfInBounds_toArray, List.set_cons_zero, List.set_cons_succ, i64_w, i32_w]
                                  rfl
                                refine take_ (i := 8) (N := some 47) (v := ?_) (a' := ?_) #[true, true, true, true, true, true, true, true, true, true, true, true, false, false, false] rfl rfl (take_ofW HT_.out HW_.out (by kernel_rfl)) (fun _ _ _ h => h) (Or.inl ⟨by rfl, ?_⟩) hHeld ?_ ?_
                                rotate_left
                                · rintro w' ⟨s0, s1⟩
                                  go_simp
                                  with_reducible rfl
                                rotate_left
                                · simp only [Act.put, List.setIfInBounds_toArray, List.set_cons_zero, List.set_cons_succ, i64_w, i32_w]
                                  rfl
                                refine take_ (i := 12) (N := some 51) (v := ?_) (a' := ?_) #[true, true, true, true, true, true, true, true, true, true, true, true, true, false, false] rfl rfl (take_ofW HT_.out HW_.out (by kernel_rfl)) (fun _ _ _ h => h) (Or.inl ⟨by rfl, ?_⟩) hHeld ?_ ?_
                                rotate_left
                                · rintro w' ⟨s0, s1⟩
                                  go_simp
                                  with_reducible rfl
                                rotate_left
                                · simp only [Act.put, List.setIfInBounds_toArray, List.set_cons_zero, List.set_cons_succ, i64_w, i32_w]
                                  rfl
                                refine one_ (i := 13) (N := some 52) #[true, true, true, true, true, true, true, true, true, true, true, true, true, true, false] rfl rfl (one_of HT_.out (by kernel_rfl)) (by decide) (fun K hK => ?_)
                                refine goes_ Tryz.func72 (by kernel_rfl) rfl #[.int .i64 (rd x4_1 x7_4), .int .i64 (rd l0 x6_1)] (by rfl) rfl rfl (by (try simp only [List.map_toArray, List.map_cons, List.map_nil]); first | done | rfl | (simp only [List.length_drop, List.length_take]; rfl)) ?_
                                with_reducible refine (chalklineref14_ahead.calls (rd x4_1 x7_4) (rd l0 x6_1) true _ A20.out).mono ?_
                                rintro e w24 ⟨rfl, hb⟩
                                have HS0_ := (hb.cell (World.block_lt_of_cell? _ _ (hHeld.1))).trans (hHeld.1)
                                refine ⟨_, rfl, ?_⟩
                                have n0_ := Aside0.mk (Kd.R_below (by (with_reducible repeat (first | apply Kd.R_alloc | apply Kd.R_drewN | apply Kd.R_drew)); exact HO_4.out) hb)
                                have n1_ := Aside0.mk (below_step (by repeat (first | (with_reducible first | exact HB.out | apply below_alloc | apply pw_below_drewN | apply below_drew1) | exact HB.out)) hb)
                                clear HO_4
                                clear HB
                                have HO_4 := n0_
                                have HB := n1_
                                clear n0_ n1_
                                (try clear hb)
                                (try clear hb2)
                                (try clear hk)
                                (try clear hi)
                                refine hK.out _ _ ⟨HS0_, ((HB.out.cell (World.block_lt_of_cell? w _ hw165_0)).trans hw165_0)⟩ (fun hHeld => ?_)
                                clear hK K
                                refine norm_ (a' := ?_) ?_ ?_
                                rotate_left
                                · show Act.put _ (some 52) _ = _
                                  simp only [Act.put, List.setIfInBounds_toArray, List.set_cons_zero, List.set_cons_succ, i64_w, i32_w]
                                  rfl
                                refine pure_ (i := 14) (N := some 53) (v := ?_) (a' := ?_) #[true, true, true, true, true, true, true, true, true, true, true, true, true, true, true] rfl rfl (any_of HT_.out (by kernel_rfl)) (fun _ _ _ h => h) (Or.inl ⟨by rfl, ?_⟩) ?_ ?_
                                rotate_left
                                · intro w'
                                  go_simp
                                  with_reducible rfl
                                rotate_left
                                · simp only [Act.put, List.setIfInBounds_toArray, List.set_cons_zero, List.set_cons_succ, i64_w, i32_w]
                                  rfl
                                refine done_ (done_of HT_.out (by kernel_rfl)) ?_
                                try go_wp2
                                go_roundg k4
                                case measure => have := HK1.out; have := HJ2.out; have := HJ9.out; have := HK4.out; omega
                                case rel => exact ⟨(wrap64 (x7_4 + 1)), (by first | rfl | (simp; done) | (simp [*]; done)), H', ⟨by have := HK1.out; have := HJ2.out; have := HJ9.out; have := HK4.out; omega⟩, ⟨by (with_reducible repeat (first | apply Kd.R_alloc | apply Kd.R_drewN | apply Kd.R_drew)); exact HO_4.out⟩, ⟨by repeat (first | (with_reducible first | exact HB.out | apply below_alloc | apply pw_below_drewN | apply below_drew1) | exact HB.out)⟩⟩
                              · replace c21 := Bool.eq_false_iff.mpr c21
                                subst c21
                                have H1 : (if x7_4 ≤ (x4_1.length : Int) then ((some (x4_1.take (x7_4 : Int).toNat : List Int)).bind fun y167 => (if ([] : List Int).length + y167.length < 17592186044416 then ((some (([] : List Int) ++ y167 : List Int)).bind fun y171 => (if y171.length < 17592186044416 then ((some (y171 ++ [rd l0 x6_1] : List Int)).bind fun y175 => ((some (x4_1.drop (x7_4 : Int).toNat : List Int)).bind fun y178 => (if y175.length + y178.length < 17592186044416 then (chalklineref14_Norm.l0 k4 l0 (y175 ++ y178) x5_9 (wrap64 (x6_1 + 1))) else (none)))) else (none))) else (none))) else (none)) = some (r1, r2) := by rw [if_neg (show ¬ (false = true) by decide)] at H; exact H
                                clear H
                                have H := H1
                                clear H1
                                have c25b0 := eq_true (of_decide_eq_true (by first | (with_reducible assumption) | assumption) : 0 ≤ x7_4)
                                by_cases c26 : x7_4 ≤ (x4_1.length : Int)
                                · rw [if_pos c26] at H
                                  have c26b0 := eq_true c26
                                  have c26b1 : decide (x7_4 ≤ (x4_1.length : Int)) = true := decide_eq_true c26
                                  clear c26
                                  obtain ⟨y167, hy167⟩ : ∃ y_ : List Int, y_ = (x4_1.take (x7_4 : Int).toNat) := ⟨_, rfl⟩
                                  replace H : (if ([] : List Int).length + y167.length < 17592186044416 then ((some (([] : List Int) ++ y167 : List Int)).bind fun y171 => (if y171.length < 17592186044416 then ((some (y171 ++ [rd l0 x6_1] : List Int)).bind fun y175 => ((some (x4_1.drop (x7_4 : Int).toNat : List Int)).bind fun y178 => (if y175.length + y178.length < 17592186044416 then (chalklineref14_Norm.l0 k4 l0 (y175 ++ y178) x5_9 (wrap64 (x6_1 + 1))) else (none)))) else (none))) else (none)) = some (r1, r2) := by first | (rw [hy167]; with_reducible exact H) | (have H2_ := (Option.bind_some _ _).symm.trans H; rw [hy167]; with_reducible exact H2_) | (have H2_ := (Option.bind_some _ _).symm.trans H; with_reducible exact H2_) | with_reducible exact H | (rw [hy167]; exact H) | exact H
                                  have Ny167 := Aside0.mk hy167
                                  clear hy167
                                  by_cases c27 : ([] : List Int).length + y167.length < 17592186044416
                                  · rw [if_pos c27] at H
                                    have LMc27 := Aside0.mk c27
                                    clear c27
                                    obtain ⟨y171, hy171⟩ : ∃ y_ : List Int, y_ = (([] : List Int) ++ y167) := ⟨_, rfl⟩
                                    replace H : (if y171.length < 17592186044416 then ((some (y171 ++ [rd l0 x6_1] : List Int)).bind fun y175 => ((some (x4_1.drop (x7_4 : Int).toNat : List Int)).bind fun y178 => (if y175.length + y178.length < 17592186044416 then (chalklineref14_Norm.l0 k4 l0 (y175 ++ y178) x5_9 (wrap64 (x6_1 + 1))) else (none)))) else (none)) = some (r1, r2) := by first | (rw [hy171]; with_reducible exact H) | (have H2_ := (Option.bind_some _ _).symm.trans H; rw [hy171]; with_reducible exact H2_) | (have H2_ := (Option.bind_some _ _).symm.trans H; with_reducible exact H2_) | with_reducible exact H | (rw [hy171]; exact H) | exact H
                                    have Ny171 := Aside0.mk hy171
                                    clear hy171
                                    by_cases c28 : y171.length < 17592186044416
                                    · rw [if_pos c28] at H
                                      have LMc28 := Aside0.mk c28
                                      clear c28
                                      obtain ⟨y175, hy175⟩ : ∃ y_ : List Int, y_ = (y171 ++ [rd l0 x6_1]) := ⟨_, rfl⟩
                                      replace H : ((some (x4_1.drop (x7_4 : Int).toNat : List Int)).bind fun y178 => (if y175.length + y178.length < 17592186044416 then (chalklineref14_Norm.l0 k4 l0 (y175 ++ y178) x5_9 (wrap64 (x6_1 + 1))) else (none))) = some (r1, r2) := by first | (rw [hy175]; with_reducible exact H) | (have H2_ := (Option.bind_some _ _).symm.trans H; rw [hy175]; with_reducible exact H2_) | (have H2_ := (Option.bind_some _ _).symm.trans H; with_reducible exact H2_) | with_reducible exact H | (rw [hy175]; exact H) | exact H
                                      have Ny175 := Aside0.mk hy175
                                      clear hy175
                                      have c29b0 := eq_true (of_decide_eq_true (by first | (with_reducible assumption) | assumption) : 0 ≤ x7_4)
                                      have c30b0 := eq_true (of_decide_eq_true (by first | (with_reducible assumption) | assumption) : x7_4 ≤ (x4_1.length : Int))
                                      obtain ⟨y178, hy178⟩ : ∃ y_ : List Int, y_ = (x4_1.drop (x7_4 : Int).toNat) := ⟨_, rfl⟩
                                      replace H : (if y175.length + y178.length < 17592186044416 then (chalklineref14_Norm.l0 k4 l0 (y175 ++ y178) x5_9 (wrap64 (x6_1 + 1))) else (none)) = some (r1, r2) := by first | (rw [hy178]; with_reducible exact H) | (have H2_ := (Option.bind_some _ _).symm.trans H; rw [hy178]; with_reducible exact H2_) | (have H2_ := (Option.bind_some _ _).symm.trans H; with_reducible exact H2_) | with_reducible exact H | (rw [hy178]; exact H) | exact H
                                      have Ny178 := Aside0.mk hy178
                                      clear hy178
                                      by_cases c31 : y175.length + y178.length < 17592186044416
                                      · rw [if_pos c31] at H
                                        have LMc31 := Aside0.mk c31
                                        clear c31
                                        obtain ⟨y182, hy182⟩ : ∃ y_ : List Int, y_ = (y175 ++ y178) := ⟨_, rfl⟩
                                        replace H : (chalklineref14_Norm.l0 k4 l0 y182 x5_9 (wrap64 (x6_1 + 1))) = some (r1, r2) := by first | (rw [hy182]; with_reducible exact H) | (have H2_ := (Option.bind_some _ _).symm.trans H; rw [hy182]; with_reducible exact H2_) | (have H2_ := (Option.bind_some _ _).symm.trans H; with_reducible exact H2_) | with_reducible exact H | (rw [hy182]; exact H) | exact H
                                        have Ny182 := Aside0.mk hy182
                                        clear hy182
                                        have H' := Aside0.mk H
                                        clear H
                                        try go_wp2
                                        have n0_ := Aside0.mk (Kd.R_drew HO_4.out)
                                        have n1_ := Aside0.mk (below_drew1 HB.out)
                                        clear HO_4
                                        clear HB
                                        have HO_4 := n0_
                                        have HB := n1_
                                        clear n0_ n1_
                                        obtain ⟨Ao33, co33, eo33⟩ := Kd.R_slice HO_4.out
                                        (first | subst eo33 | (injection eo33 with f1_ f2_ f3_; have f4_ := f1_.symm; have f5_ := f3_.symm; clear f1_ f2_ f3_; subst f4_; subst f5_))
                                        have p164 : 0 ≤ (x7_4 : Int) := of_decide_eq_true (by first | (with_reducible assumption) | assumption)
                                        have q164 : x7_4 < (x4_1.length : Int) := of_decide_eq_true (by first | (with_reducible assumption) | assumption)
                                        obtain ⟨ad164, e164, hx164_0⟩ := Kd.at_int (Kd.R_reads' HO_4.out).2.2 x7_4 p164 q164
                                        cases e164
                                        replace p164 := eq_true p164
                                        replace q164 := eq_true q164
                                        have p165 : 0 ≤ (x6_1 : Int) := of_decide_eq_true (by first | (with_reducible assumption) | assumption)
                                        have q165 : x6_1 < (l0.length : Int) := of_decide_eq_true (by first | (with_reducible assumption) | assumption)
                                        obtain ⟨ad165, e165, hx165_0⟩ := Kd.at_int HR0.out x6_1 p165 q165
                                        have hw165_0 := hx165_0
                                        cases e165
                                        replace hx165_0 := (HB.out.cell (World.block_lt_of_cell? w _ hx165_0)).trans hx165_0
                                        replace p165 := eq_true p165
                                        replace q165 := eq_true q165
                                        refine start_ (n := 15) (S := fun w' => w'.cell? (ad164.add (x7_4).toNat) = some (.int .i64 (rd x4_1 x7_4)) ∧ w'.cell? (ad165.add (x6_1).toNat) = some (.int .i64 (rd l0 x6_1))) (ds := []) #[false, false, false, false, false, false, false, false, false, false, false, false, false, false, false] (by kernel_rfl) rfl rfl ⟨hx164_0, ((HB.out.cell (World.block_lt_of_cell? w _ hw165_0)).trans hw165_0)⟩ (fun hHeld => ?_); refine with_tabW chalklineref14_Norm.tab9 chalklineref14_Norm.bits9 (fun HT_ HW_ => ?_)
                                        generalize wr.drew = w32 at HO_4 HB hx164_0 hx165_0 hHeld ⊢
                                        refine pure_ (i := 0) (N := some 39) (v := ?_) (a' := ?_) #[true, false, false, false, false, false, false, false, false, false, false, false, false, false, false] rfl rfl (any_of HT_.out (by kernel_rfl)) (fun _ _ _ h => h) (Or.inl ⟨by rfl, ?_⟩) ?_ ?_
                                        rotate_left
                                        · intro w'
                                          go_simp
                                          with_reducible rfl
                                        rotate_left
                                        · simp only [Act.put, List.setIfInBounds_toArray, List.set_cons_zero, List.set_cons_succ, i64_w, i32_w]
                                          rfl
                                        refine pure_ (i := 1) (N := some 40) (v := ?_) (a' := ?_) #[true, true, false, false, false, false, false, false, false, false, false, false, false, false, false] rfl rfl (any_of HT_.out (by kernel_rfl)) (fun _ _ _ h => h) (Or.inl ⟨by rfl, ?_⟩) ?_ ?_
                                        rotate_left
                                        · intro w'
                                          go_simp
                                          with_reducible rfl
                                        rotate_left
                                        · simp only [Act.put, List.setIfInBounds_toArray, List.set_cons_zero, List.set_cons_succ, i64_w, i32_w]
                                          rfl
                                        refine pure_ (i := 2) (N := some 41) (v := ?_) (a' := ?_) #[true, true, true, false, false, false, false, false, false, false, false, false, false, false, false] rfl rfl (any_of HT_.out (by kernel_rfl)) (fun _ _ _ h => h) (Or.inl ⟨by rfl, ?_⟩) ?_ ?_
                                        rotate_left
                                        · intro w'
                                          go_simp
                                          with_reducible rfl
                                        rotate_left
                                        · simp only [Act.put, List.setIfInBounds_toArray, List.set_cons_zero, List.set_cons_succ, i64_w, i32_w]
                                          rfl
                                        refine pure_ (i := 3) (N := some 42) (v := ?_) (a' := ?_) #[true, true, true, true, false, false, false, false, false, false, false, false, false, false, false] rfl rfl (any_of HT_.out (by kernel_rfl)) (fun _ _ _ h => h) (Or.inl ⟨by rfl, ?_⟩) ?_ ?_
                                        rotate_left
                                        · intro w'
                                          go_simp
                                          with_reducible rfl
                                        rotate_left
                                        · simp only [Act.put, List.setIfInBounds_toArray, List.set_cons_zero, List.set_cons_succ, i64_w, i32_w]
                                          rfl
                                        refine pure_ (i := 4) (N := some 43) (v := ?_) (a' := ?_) #[true, true, true, true, true, false, false, false, false, false, false, false, false, false, false] rfl rfl (any_of HT_.out (by kernel_rfl)) (fun _ _ _ h => h) (Or.inl ⟨by rfl, ?_⟩) ?_ ?_
                                        rotate_left
                                        · intro w'
                                          go_simp
                                          with_reducible rfl
                                        rotate_left
                                        · simp only [Act.put, List.setIfInBounds_toArray, List.set_cons_zero, List.set_cons_succ, i64_w, i32_w]
                                          rfl
                                        refine pure_ (i := 5) (N := some 44) (v := ?_) (a' := ?_) #[true, true, true, true, true, true, false, false, false, false, false, false, false, false, false] rfl rfl (any_of HT_.out (by kernel_rfl)) (fun _ _ _ h => h) (Or.inl ⟨by rfl, ?_⟩) ?_ ?_
                                        rotate_left
                                        · intro w'
                                          go_simp
                                          with_reducible rfl
                                        rotate_left
                                        · simp only [Act.put, List.setIfInBounds_toArray, List.set_cons_zero, List.set_cons_succ, i64_w, i32_w]
                                          rfl
                                        refine pure_ (i := 6) (N := some 45) (v := ?_) (a' := ?_) #[true, true, true, true, true, true, true, false, false, false, false, false, false, false, false] rfl rfl (any_of HT_.out (by kernel_rfl)) (fun _ _ _ h => h) (Or.inl ⟨by rfl, ?_⟩) ?_ ?_
                                        rotate_left
                                        · intro w'
                                          go_simp
                                          with_reducible rfl
                                        rotate_left
                                        · simp only [Act.put, List.setIfInBounds_toArray, List.set_cons_zero, List.set_cons_succ, i64_w, i32_w]
                                          rfl
                                        refine pure_ (i := 7) (N := some 46) (v := ?_) (a' := ?_) #[true, true, true, true, true, true, true, true, false, false, false, false, false, false, false] rfl rfl (any_of HT_.out (by kernel_rfl)) (fun _ _ _ h => h) (Or.inl ⟨by rfl, ?_⟩) ?_ ?_
                                        rotate_left
                                        · intro w'
                                          go_simp
                                          with_reducible rfl
                                        rotate_left
                                        · simp only [Act.put, List.setIfInBounds_toArray, List.set_cons_zero, List.set_cons_succ, i64_w, i32_w]
                                          rfl
                                        refine pure_ (i := 9) (N := some 48) (v := ?_) (a' := ?_) #[true, true, true, true, true, true, true, true, false, true, false, false, false, false, false] rfl rfl (any_of HT_.out (by kernel_rfl)) (fun _ _ _ h => h) (Or.inl ⟨by rfl, ?_⟩) ?_ ?_
                                        rotate_left
                                        · intro w'
                                          go_simp
                                          with_reducible rfl
                                        rotate_left
                                        · simp only [Act.put, List.setIfInBounds_toArray, List.set_cons_zero, List.set_cons_succ, i64_w, i32_w]
                                          rfl
                                        refine pure_ (i := 10) (N := some 49) (v := ?_) (a' := ?_) #[true, true, true, true, true, true, true, true, false, true, true, false, false, false, false] rfl rfl (any_of HT_.out (by kernel_rfl)) (fun _ _ _ h => h) (Or.inl ⟨by rfl, ?_⟩) ?_ ?_
                                        rotate_left
                                        · intro w'
                                          go_simp
                                          with_reducible rfl
                                        rotate_left
                                        · simp only [Act.put, List.setIfInBounds_toArray, List.set_cons_zero, List.set_cons_succ, i64_w, i32_w]
                                          rfl
                                        refine pure_ (i := 11) (N := some 50) (v := ?_) (a' := ?_) #[true, true, true, true, true, true, true, true, false, true, true, true, false, false, false] rfl rfl (any_of HT_.out (by kernel_rfl)) (fun _ _ _ h => h) (Or.inl ⟨by rfl, ?_⟩) ?_ ?_
                                        rotate_left
                                        · intro w'
                                          go_simp
                                          with_reducible rfl
                                        rotate_left
                                        · simp only [Act.put, List.setIfInBounds_toArray, List.set_cons_zero, List.set_cons_succ, i64_w, i32_w]
                                          rfl
                                        refine take_ (i := 8) (N := some 47) (v := ?_) (a' := ?_) #[true, true, true, true, true, true, true, true, true, true, true, true, false, false, false] rfl rfl (take_ofW HT_.out HW_.out (by kernel_rfl)) (fun _ _ _ h => h) (Or.inl ⟨by rfl, ?_⟩) hHeld ?_ ?_
                                        rotate_left
                                        · rintro w' ⟨s0, s1⟩
                                          go_simp
                                          with_reducible rfl
                                        rotate_left
                                        · simp only [Act.put, List.setIfInBounds_toArray, List.set_cons_zero, List.set_cons_succ, i64_w, i32_w]
                                          rfl
                                        refine take_ (i := 12) (N := some 51) (v := ?_) (a' := ?_) #[true, true, true, true, true, true, true, true, true, true, true, true, true, false, false] rfl rfl (take_ofW HT_.out HW_.out (by kernel_rfl)) (fun _ _ _ h => h) (Or.inl ⟨by rfl, ?_⟩) hHeld ?_ ?_
                                        rotate_left
                                        · rintro w' ⟨s0, s1⟩
                                          go_simp
                                          with_reducible rfl
                                        rotate_left
                                        · simp only [Act.put, List.setIfInBounds_toArray, List.set_cons_zero, List.set_cons_succ, i64_w, i32_w]
                                          rfl
                                        refine one_ (i := 13) (N := some 52) #[true, true, true, true, true, true, true, true, true, true, true, true, true, true, false] rfl rfl (one_of HT_.out (by kernel_rfl)) (by decide) (fun K hK => ?_)
                                        refine goes_ Tryz.func72 (by kernel_rfl) rfl #[.int .i64 (rd x4_1 x7_4), .int .i64 (rd l0 x6_1)] (by rfl) rfl rfl (by (try simp only [List.map_toArray, List.map_cons, List.map_nil]); first | done | rfl | (simp only [List.length_drop, List.length_take]; rfl)) ?_
                                        with_reducible refine (chalklineref14_ahead.calls (rd x4_1 x7_4) (rd l0 x6_1) false _ A20.out).mono ?_
                                        rintro e w34 ⟨rfl, hb⟩
                                        have HS0_ := (hb.cell (World.block_lt_of_cell? _ _ (hHeld.1))).trans (hHeld.1)
                                        refine ⟨_, rfl, ?_⟩
                                        have n0_ := Aside0.mk (Kd.R_below (by (with_reducible repeat (first | apply Kd.R_alloc | apply Kd.R_drewN | apply Kd.R_drew)); exact HO_4.out) hb)
                                        have n1_ := Aside0.mk (below_step (by repeat (first | (with_reducible first | exact HB.out | apply below_alloc | apply pw_below_drewN | apply below_drew1) | exact HB.out)) hb)
                                        clear HO_4
                                        clear HB
                                        have HO_4 := n0_
                                        have HB := n1_
                                        clear n0_ n1_
                                        (try clear hb)
                                        (try clear hb2)
                                        (try clear hk)
                                        (try clear hi)
                                        refine hK.out _ _ ⟨HS0_, ((HB.out.cell (World.block_lt_of_cell? w _ hw165_0)).trans hw165_0)⟩ (fun hHeld => ?_)
                                        clear hK K
                                        refine norm_ (a' := ?_) ?_ ?_
                                        rotate_left
                                        · show Act.put _ (some 52) _ = _
                                          simp only [Act.put, List.setIfInBounds_toArray, List.set_cons_zero, List.set_cons_succ, i64_w, i32_w]
                                          rfl
                                        refine pure_ (i := 14) (N := some 53) (v := ?_) (a' := ?_) #[true, true, true, true, true, true, true, true, true, true, true, true, true, true, true] rfl rfl (any_of HT_.out (by kernel_rfl)) (fun _ _ _ h => h) (Or.inl ⟨by rfl, ?_⟩) ?_ ?_
                                        rotate_left
                                        · intro w'
                                          go_simp
                                          with_reducible rfl
                                        rotate_left
                                        · simp only [Act.put, List.setIfInBounds_toArray, List.set_cons_zero, List.set_cons_succ, i64_w, i32_w]
                                          rfl
                                        refine done_ (done_of HT_.out (by kernel_rfl)) ?_
                                        have q35 : (x7_4 : Int) ≤ ((x4_1.length : Int) : Int) := of_decide_eq_true (by first | (with_reducible assumption) | assumption)
                                        obtain ⟨i035, hi035, _, hsz35, _⟩ := info_parts info3
                                        have hroom35 : x4_1.length ≤ co33 := (Kd.R_reads' HO_4.out).2.1
                                        have hC35 : Kd.C (Kd.int .i64) _ (some ad164) x4_1.length x4_1 := (Kd.R_reads' HO_4.out).2.2
                                        have hcut35 := cut_to (P := Tryz.prog) 25 3 .i64 Tryz.underlying25 hi035 (some ad164) x4_1.length co33 x7_4 (of_decide_eq_true (by first | (with_reducible assumption) | assumption)) q35 hroom35
                                        have hr35 := Kd.C_take (m := (x7_4 : Int).toNat) hC35 (by omega)
                                        have hy35 : y167.length = (x7_4 : Int).toNat := (by rw [Ny167.out, List.length_take]; omega)
                                        rw [← Ny167.out] at hr35
                                        rw [← hy35] at hcut35
                                        have HR170 := Aside0.mk hr35
                                        have HC170 := Aside0.mk (show y167.length ≤ co33 from by omega)
                                        clear hr35 hC35 hroom35 hi035 hsz35
                                        have KY35 := Aside0.mk hy35
                                        clear hy35
                                        have KL35 := Aside0.mk (show (x7_4 : Int).toNat ≤ x4_1.length from by omega)
                                        replace q35 := eq_true q35
                                        try go_wp2_with (first | ((with_reducible refine gate_builtin (b := .append) (xs := #[.tmp 56, .tmp 59]) rfl ?_); at_builtin; refine Kd.R_append_rows (Kd.int .i64) (w0 := w) w.heap.size rfl (.tmp 56) (.tmp 59) 25 3 (.int .i64 0) 8 rfl Tryz.underlying25 info3 rfl (by decide) (by omega) (.slice none 0 0) ([] : List Int) y167 _ _ _ (fun k_ => some k_ ≠ (.slice (some ad164) x4_1.length co33 : Value).ownBlock) (fun _ => False) rfl rfl ?aO ?aR (fun _ _ h => h) (fun _ h => h.elim) ?aF ?aB ?aS ?aL ?_; (case aR => repeat (first | exact (by repeat (first | (with_reducible exact HR170.out) | (with_reducible refine Kd.C_alloc ?_ _) | (with_reducible refine Kd.C_drewN ?_ _) | (with_reducible refine Kd.C_drew ?_) | exact HR170.out)) | (with_reducible refine Kd.C_alloc ?_ _) | (with_reducible refine Kd.C_drewN ?_ _) | (with_reducible refine Kd.C_drew ?_))); (case aB => exact (by repeat (first | (with_reducible first | exact HB.out | apply below_alloc | apply pw_below_drewN | apply below_drew1) | exact HB.out))); (case aF => exact (fun k_ hk => Kd.fresh' (Kd.R_lt (by (with_reducible repeat (first | apply Kd.R_alloc | apply Kd.R_drewN | apply Kd.R_drew)); exact HO_4.out)) k_ hk)); (case aO => exact ((Kd.R_nil _ _ _ _ (fun k_ => some k_ ≠ (.slice (some ad164) x4_1.length co33 : Value).ownBlock)))); (case aS => exact (below_size (by repeat (first | (with_reducible first | exact HB.out | apply below_alloc | apply pw_below_drewN | apply below_drew1) | exact HB.out)))); (case aL => have := LMc27.out; omega); intro v172 w36 ho hb hg hat; rw [← Ny171.out] at ho; have n0_ := Aside0.mk (Kd.R_after (Kd.R_apart_nil (by (with_reducible repeat (first | apply Kd.R_alloc | apply Kd.R_drewN | apply Kd.R_drew)); exact HO_4.out)) hg hat); have n1_ := Aside0.mk (hb); have n2_ := Aside0.mk ((show Kd.C (Kd.int .i64) w36 (some ad164) y167.length y167 from by rw [Ny167.out]; exact Kd.C_take (m := (x7_4 : Int).toNat) ((Kd.R_reads' (Kd.R_after (Kd.R_apart_nil (by (with_reducible repeat (first | apply Kd.R_alloc | apply Kd.R_drewN | apply Kd.R_drew)); exact HO_4.out)) hg hat)).2.2) KL35.out)); have n3_ := Aside0.mk (ho); clear HO_4; clear HB; clear HR170; have HO_4 := n0_; have HB := n1_; have HR170 := n2_; have HO173 := n3_; clear n0_ n1_ n2_ n3_; clear ho hb hg hat; have p174 : 0 ≤ (x6_1 : Int) := of_decide_eq_true (by first | (with_reducible assumption) | assumption); have q174 : x6_1 < (l0.length : Int) := of_decide_eq_true (by first | (with_reducible assumption) | assumption); obtain ⟨ad174, e174, hx174_0⟩ := Kd.at_int HR0.out x6_1 p174 q174; obtain rfl : ad165 = ad174 := (by injection e174); replace hx174_0 := (HB.out.cell (World.block_lt_of_cell? w _ hx174_0)).trans hx174_0; replace p174 := eq_true p174; replace q174 := eq_true q174) | ((with_reducible refine gate_builtin (b := .append) (xs := #[.tmp 61, .tmp 66]) rfl ?_); at_builtin; refine Kd.R_append (Kd.int .i64) (w0 := w) w.heap.size rfl (.tmp 61) (.tmp 66) 25 3 (.int .i64 0) 8 rfl Tryz.underlying25 info3 rfl (by decide) (by omega) v172 y171 (rd l0 x6_1) [.int .i64 (rd l0 x6_1)] (fun k_ => some k_ ≠ (.slice (some ad164) x4_1.length co33 : Value).ownBlock) (fun _ => False) rfl rfl ?aP (fun _ hk => hk.elim) ?aF ?aO ?aB ?aS ?aL ?_; (case aP => exact rfl); (case aB => exact (by repeat (first | (with_reducible first | exact HB.out | apply below_alloc | apply pw_below_drewN | apply below_drew1) | exact HB.out))); (case aF => exact (fun k_ hk => Kd.fresh' (Kd.R_lt (by (with_reducible repeat (first | apply Kd.R_alloc | apply Kd.R_drewN | apply Kd.R_drew)); exact HO_4.out)) k_ hk)); (case aO => exact (by (with_reducible repeat (first | apply Kd.R_alloc | apply Kd.R_drewN | apply Kd.R_drew)); exact HO173.out)); (case aS => exact (below_size (by repeat (first | (with_reducible first | exact HB.out | apply below_alloc | apply pw_below_drewN | apply below_drew1) | exact HB.out)))); (case aL => have := LMc28.out; omega); intro v176 w37 ho hb hg hat; rw [← Ny175.out] at ho; have n0_ := Aside0.mk (Kd.R_after (ok := (fun _ => True)) (by (with_reducible repeat (first | apply Kd.R_alloc | apply Kd.R_drewN | apply Kd.R_drew)); exact HO_4.out) hg hat); have n1_ := Aside0.mk (hb); have n2_ := Aside0.mk ((show Kd.C (Kd.int .i64) w37 (some ad164) y167.length y167 from by rw [Ny167.out]; exact Kd.C_take (m := (x7_4 : Int).toNat) ((Kd.R_reads' (Kd.R_after (ok := (fun _ => True)) (by (with_reducible repeat (first | apply Kd.R_alloc | apply Kd.R_drewN | apply Kd.R_drew)); exact HO_4.out) hg hat)).2.2) KL35.out)); have n3_ := Aside0.mk (ho); clear HO_4; clear HB; clear HR170; clear HO173; have HO_4 := n0_; have HB := n1_; have HR170 := n2_; have HO177 := n3_; clear n0_ n1_ n2_ n3_; clear ho hb hg hat; have q38 : (x7_4 : Int) ≤ ((x4_1.length : Int) : Int) := of_decide_eq_true (by first | (with_reducible assumption) | assumption); obtain ⟨i038, hi038, _, hsz38, _⟩ := info_parts info3; have hroom38 : x4_1.length ≤ co33 := (Kd.R_reads' HO_4.out).2.1; have hC38 : Kd.C (Kd.int .i64) _ (some ad164) x4_1.length x4_1 := (Kd.R_reads' HO_4.out).2.2; have q038 : (0 : Int) ≤ (x7_4 : Int) := of_decide_eq_true (by first | (with_reducible assumption) | assumption); have hcut38 := cut_from (P := Tryz.prog) 25 3 .i64 Tryz.underlying25 hi038 1 hsz38 (some ad164) x4_1.length co33 x7_4 q038 q38; have hr38 := Kd.C_drop (m := (x7_4 : Int).toNat) (c := co33) hC38 (by omega) hroom38; obtain ⟨A38, hA38⟩ : ∃ A1, A1 = (if co33 = (x7_4 : Int).toNat then (some ad164) else ((some ad164) : Option Addr).map (·.add ((x7_4 : Int).toNat * 1))) := ⟨_, rfl⟩; obtain ⟨c38, hc38⟩ : ∃ c1, c1 = co33 - (x7_4 : Int).toNat := ⟨_, rfl⟩; have hy38 : y178.length = x4_1.length - (x7_4 : Int).toNat := (by rw [Ny178.out, List.length_drop] <;> omega); rw [show (x4_1).drop (x7_4 : Int).toNat = y178 from Ny178.out.symm] at hr38; replace hr38 : Kd.C (Kd.int .i64) _ A38 y178.length y178 := (by rw [hA38]; exact hr38); rw [← hy38, ← hA38, ← hc38] at hcut38; have HR181 := Aside0.mk hr38; have HC181 := Aside0.mk (show y178.length ≤ c38 from by rw [hy38, hc38]; exact Nat.sub_le_sub_right hroom38 _); clear hr38 hC38 hroom38 hi038 hsz38 hc38; have KY38 := Aside0.mk hy38; have KA38 := Aside0.mk hA38; clear hy38 hA38; have KL38 := Aside0.mk (show (x7_4 : Int).toNat ≤ x4_1.length from by omega); replace q38 := eq_true q38) | ((with_reducible refine gate_builtin (b := .append) (xs := #[.tmp 68, .tmp 71]) rfl ?_); at_builtin; refine Kd.R_append_rows (Kd.int .i64) (w0 := w) w.heap.size rfl (.tmp 68) (.tmp 71) 25 3 (.int .i64 0) 8 rfl Tryz.underlying25 info3 rfl (by decide) (by omega) v176 y175 y178 _ _ _ (fun k_ => some k_ ≠ (.slice (some ad164) x4_1.length co33 : Value).ownBlock) (fun _ => False) rfl rfl ?aO ?aR (fun _ _ h => h) (fun _ h => h.elim) ?aF ?aB ?aS ?aL ?_; (case aR => repeat (first | exact (by repeat (first | (with_reducible exact HR181.out) | (with_reducible refine Kd.C_alloc ?_ _) | (with_reducible refine Kd.C_drewN ?_ _) | (with_reducible refine Kd.C_drew ?_) | exact HR181.out)) | (with_reducible refine Kd.C_alloc ?_ _) | (with_reducible refine Kd.C_drewN ?_ _) | (with_reducible refine Kd.C_drew ?_))); (case aB => exact (by repeat (first | (with_reducible first | exact HB.out | apply below_alloc | apply pw_below_drewN | apply below_drew1) | exact HB.out))); (case aF => exact (fun k_ hk => Kd.fresh' (Kd.R_lt (by (with_reducible repeat (first | apply Kd.R_alloc | apply Kd.R_drewN | apply Kd.R_drew)); exact HO_4.out)) k_ hk)); (case aO => exact (by (with_reducible repeat (first | apply Kd.R_alloc | apply Kd.R_drewN | apply Kd.R_drew)); exact HO177.out)); (case aS => exact (below_size (by repeat (first | (with_reducible first | exact HB.out | apply below_alloc | apply pw_below_drewN | apply below_drew1) | exact HB.out)))); (case aL => have := LMc31.out; omega); intro v183 w39 ho hb hg hat; rw [← Ny182.out] at ho; have n0_ := Aside0.mk (Kd.R_after (ok := (fun _ => True)) (by (with_reducible repeat (first | apply Kd.R_alloc | apply Kd.R_drewN | apply Kd.R_drew)); exact HO_4.out) hg hat); have n1_ := Aside0.mk (hb); have n2_ := Aside0.mk ((show Kd.C (Kd.int .i64) w39 (some ad164) y167.length y167 from by rw [Ny167.out]; exact Kd.C_take (m := (x7_4 : Int).toNat) ((Kd.R_reads' (Kd.R_after (ok := (fun _ => True)) (by (with_reducible repeat (first | apply Kd.R_alloc | apply Kd.R_drewN | apply Kd.R_drew)); exact HO_4.out) hg hat)).2.2) KL35.out)); have n3_ := Aside0.mk ((show Kd.C (Kd.int .i64) w39 A38 y178.length y178 from by rw [Ny178.out, KA38.out]; exact Kd.C_drop (m := (x7_4 : Int).toNat) (c := co33) ((Kd.R_reads' (Kd.R_after (ok := (fun _ => True)) (by (with_reducible repeat (first | apply Kd.R_alloc | apply Kd.R_drewN | apply Kd.R_drew)); exact HO_4.out) hg hat)).2.2) KL38.out ((Kd.R_reads' (Kd.R_after (ok := (fun _ => True)) (by (with_reducible repeat (first | apply Kd.R_alloc | apply Kd.R_drewN | apply Kd.R_drew)); exact HO_4.out) hg hat)).2.1))); have n4_ := Aside0.mk (ho); clear HO_4; clear HB; clear HR170; clear HR181; clear HO177; have HO_4 := n0_; have HB := n1_; have HR170 := n2_; have HR181 := n3_; have HO184 := n4_; clear n0_ n1_ n2_ n3_ n4_; clear ho hb hg hat))
                                        go_roundg k4
                                        case measure => have := HK1.out; have := HJ2.out; have := HJ9.out; have := HK4.out; omega
                                        case rel => exact ⟨(y182), (x5_9), (wrap64 (x6_1 + 1)), (by first | rfl | (simp; done) | (simp [*]; done)), (by first | rfl | (simp; done) | (simp [*]; done)), H', ⟨by have := HK1.out; have := HJ2.out; have := HJ9.out; have := HK4.out; omega⟩, ⟨by (with_reducible repeat (first | apply Kd.R_alloc | apply Kd.R_drewN | apply Kd.R_drew)); exact Kd.R_mono HO184.out (fun _ hk => trivial)⟩, ⟨by repeat (first | (with_reducible first | exact HB.out | apply below_alloc | apply pw_below_drewN | apply below_drew1) | exact HB.out)⟩⟩
                                      · rw [if_neg c31] at H
                                        exact absurd H (by simp)
                                    · rw [if_neg c28] at H
                                      exact absurd H (by simp)
                                  · rw [if_neg c27] at H
                                    exact absurd H (by simp)
                                · rw [if_neg c26] at H
                                  exact absurd H (by simp)
                            · rw [if_neg c19] at H
                              exact absurd H (by simp)
                          · rw [if_neg c18] at H
                            exact absurd H (by simp)
                        · rw [if_neg c17] at H
                          exact absurd H (by simp)
                      · rw [if_neg c16] at H
                        have c16b0 : decide (x7_4 < (x4_1.length : Int)) = false := decide_eq_false c16
                        clear c16
                        by_cases c40 : 0 ≤ x7_4
                        · rw [if_pos c40] at H
                          have c40b0 := eq_true c40
                          have c40b1 : decide (0 ≤ x7_4) = true := decide_eq_true c40
                          clear c40
                          by_cases c41 : x7_4 ≤ (x4_1.length : Int)
                          · rw [if_pos c41] at H
                            have c41b0 := eq_true c41
                            have c41b1 : decide (x7_4 ≤ (x4_1.length : Int)) = true := decide_eq_true c41
                            clear c41
                            obtain ⟨y185, hy185⟩ : ∃ y_ : List Int, y_ = (x4_1.take (x7_4 : Int).toNat) := ⟨_, rfl⟩
                            replace H : (if ([] : List Int).length + y185.length < 17592186044416 then ((some (([] : List Int) ++ y185 : List Int)).bind fun y189 => (if 0 ≤ x6_1 then (if x6_1 < (l0.length : Int) then (if y189.length < 17592186044416 then ((some (y189 ++ [rd l0 x6_1] : List Int)).bind fun y193 => ((some (x4_1.drop (x7_4 : Int).toNat : List Int)).bind fun y196 => (if y193.length + y196.length < 17592186044416 then (chalklineref14_Norm.l0 k4 l0 (y193 ++ y196) x5_9 (wrap64 (x6_1 + 1))) else (none)))) else (none)) else (none)) else (none))) else (none)) = some (r1, r2) := by first | (rw [hy185]; with_reducible exact H) | (have H2_ := (Option.bind_some _ _).symm.trans H; rw [hy185]; with_reducible exact H2_) | (have H2_ := (Option.bind_some _ _).symm.trans H; with_reducible exact H2_) | with_reducible exact H | (rw [hy185]; exact H) | exact H
                            have Ny185 := Aside0.mk hy185
                            clear hy185
                            by_cases c42 : ([] : List Int).length + y185.length < 17592186044416
                            · rw [if_pos c42] at H
                              have LMc42 := Aside0.mk c42
                              clear c42
                              obtain ⟨y189, hy189⟩ : ∃ y_ : List Int, y_ = (([] : List Int) ++ y185) := ⟨_, rfl⟩
                              replace H : (if 0 ≤ x6_1 then (if x6_1 < (l0.length : Int) then (if y189.length < 17592186044416 then ((some (y189 ++ [rd l0 x6_1] : List Int)).bind fun y193 => ((some (x4_1.drop (x7_4 : Int).toNat : List Int)).bind fun y196 => (if y193.length + y196.length < 17592186044416 then (chalklineref14_Norm.l0 k4 l0 (y193 ++ y196) x5_9 (wrap64 (x6_1 + 1))) else (none)))) else (none)) else (none)) else (none)) = some (r1, r2) := by first | (rw [hy189]; with_reducible exact H) | (have H2_ := (Option.bind_some _ _).symm.trans H; rw [hy189]; with_reducible exact H2_) | (have H2_ := (Option.bind_some _ _).symm.trans H; with_reducible exact H2_) | with_reducible exact H | (rw [hy189]; exact H) | exact H
                              have Ny189 := Aside0.mk hy189
                              clear hy189
                              by_cases c43 : 0 ≤ x6_1
                              · rw [if_pos c43] at H
                                have c43b0 : decide (0 ≤ x6_1) = true := decide_eq_true c43
                                clear c43
                                by_cases c44 : x6_1 < (l0.length : Int)
                                · rw [if_pos c44] at H
                                  have c44b0 : decide (x6_1 < (l0.length : Int)) = true := decide_eq_true c44
                                  clear c44
                                  by_cases c45 : y189.length < 17592186044416
                                  · rw [if_pos c45] at H
                                    have LMc45 := Aside0.mk c45
                                    clear c45
                                    obtain ⟨y193, hy193⟩ : ∃ y_ : List Int, y_ = (y189 ++ [rd l0 x6_1]) := ⟨_, rfl⟩
                                    replace H : ((some (x4_1.drop (x7_4 : Int).toNat : List Int)).bind fun y196 => (if y193.length + y196.length < 17592186044416 then (chalklineref14_Norm.l0 k4 l0 (y193 ++ y196) x5_9 (wrap64 (x6_1 + 1))) else (none))) = some (r1, r2) := by first | (rw [hy193]; with_reducible exact H) | (have H2_ := (Option.bind_some _ _).symm.trans H; rw [hy193]; with_reducible exact H2_) | (have H2_ := (Option.bind_some _ _).symm.trans H; with_reducible exact H2_) | with_reducible exact H | (rw [hy193]; exact H) | exact H
                                    have Ny193 := Aside0.mk hy193
                                    clear hy193
                                    have c46b0 := eq_true (of_decide_eq_true (by first | (with_reducible assumption) | assumption) : 0 ≤ x7_4)
                                    have c47b0 := eq_true (of_decide_eq_true (by first | (with_reducible assumption) | assumption) : x7_4 ≤ (x4_1.length : Int))
                                    obtain ⟨y196, hy196⟩ : ∃ y_ : List Int, y_ = (x4_1.drop (x7_4 : Int).toNat) := ⟨_, rfl⟩
                                    replace H : (if y193.length + y196.length < 17592186044416 then (chalklineref14_Norm.l0 k4 l0 (y193 ++ y196) x5_9 (wrap64 (x6_1 + 1))) else (none)) = some (r1, r2) := by first | (rw [hy196]; with_reducible exact H) | (have H2_ := (Option.bind_some _ _).symm.trans H; rw [hy196]; with_reducible exact H2_) | (have H2_ := (Option.bind_some _ _).symm.trans H; with_reducible exact H2_) | with_reducible exact H | (rw [hy196]; exact H) | exact H
                                    have Ny196 := Aside0.mk hy196
                                    clear hy196
                                    by_cases c48 : y193.length + y196.length < 17592186044416
                                    · rw [if_pos c48] at H
                                      have LMc48 := Aside0.mk c48
                                      clear c48
                                      obtain ⟨y200, hy200⟩ : ∃ y_ : List Int, y_ = (y193 ++ y196) := ⟨_, rfl⟩
                                      replace H : (chalklineref14_Norm.l0 k4 l0 y200 x5_9 (wrap64 (x6_1 + 1))) = some (r1, r2) := by first | (rw [hy200]; with_reducible exact H) | (have H2_ := (Option.bind_some _ _).symm.trans H; rw [hy200]; with_reducible exact H2_) | (have H2_ := (Option.bind_some _ _).symm.trans H; with_reducible exact H2_) | with_reducible exact H | (rw [hy200]; exact H) | exact H
                                      have Ny200 := Aside0.mk hy200
                                      clear hy200
                                      have H' := Aside0.mk H
                                      clear H
                                      try go_wp2
                                      have n0_ := Aside0.mk (Kd.R_drew HO_4.out)
                                      have n1_ := Aside0.mk (below_drew1 HB.out)
                                      clear HO_4
                                      clear HB
                                      have HO_4 := n0_
                                      have HB := n1_
                                      clear n0_ n1_
                                      obtain ⟨Ao50, co50, eo50⟩ := Kd.R_slice HO_4.out
                                      (first | subst eo50 | (injection eo50 with f1_ f2_ f3_; have f4_ := f1_.symm; have f5_ := f3_.symm; clear f1_ f2_ f3_; subst f4_; subst f5_))
                                      refine start_ (n := 15) (S := fun w' => True) (ds := []) #[false, false, false, false, false, false, false, false, false, false, false, false, false, false, false] (by kernel_rfl) rfl rfl trivial (fun hHeld => ?_); refine with_tabW chalklineref14_Norm.tab9 chalklineref14_Norm.bits9 (fun HT_ HW_ => ?_)
                                      generalize wr.drew = w49 at HO_4 HB hHeld ⊢
                                      refine pure_ (i := 0) (N := some 39) (v := ?_) (a' := ?_) #[true, false, false, false, false, false, false, false, false, false, false, false, false, false, false] rfl rfl (any_of HT_.out (by kernel_rfl)) (fun _ _ _ h => h) (Or.inl ⟨by rfl, ?_⟩) ?_ ?_
                                      rotate_left
                                      · intro w'
                                        go_simp
                                        with_reducible rfl
                                      rotate_left
                                      · simp only [Act.put, List.setIfInBounds_toArray, List.set_cons_zero, List.set_cons_succ, i64_w, i32_w]
                                        rfl
                                      refine pure_ (i := 1) (N := some 40) (v := ?_) (a' := ?_) #[true, true, false, false, false, false, false, false, false, false, false, false, false, false, false] rfl rfl (any_of HT_.out (by kernel_rfl)) (fun _ _ _ h => h) (Or.inl ⟨by rfl, ?_⟩) ?_ ?_
                                      rotate_left
                                      · intro w'
                                        go_simp
                                        with_reducible rfl
                                      rotate_left
                                      · simp only [Act.put, List.setIfInBounds_toArray, List.set_cons_zero, List.set_cons_succ, i64_w, i32_w]
                                        rfl
                                      refine pure_ (i := 2) (N := some 41) (v := ?_) (a' := ?_) #[true, true, true, false, false, false, false, false, false, false, false, false, false, false, false] rfl rfl (any_of HT_.out (by kernel_rfl)) (fun _ _ _ h => h) (Or.inl ⟨by rfl, ?_⟩) ?_ ?_
                                      rotate_left
                                      · intro w'
                                        go_simp
                                        with_reducible rfl
                                      rotate_left
                                      · simp only [Act.put, List.setIfInBounds_toArray, List.set_cons_zero, List.set_cons_succ, i64_w, i32_w]
                                        rfl
                                      refine pure_ (i := 3) (N := some 42) (v := ?_) (a' := ?_) #[true, true, true, true, false, false, false, false, false, false, false, false, false, false, false] rfl rfl (any_of HT_.out (by kernel_rfl)) (fun _ _ _ h => h) (Or.inl ⟨by rfl, ?_⟩) ?_ ?_
                                      rotate_left
                                      · intro w'
                                        go_simp
                                        with_reducible rfl
                                      rotate_left
                                      · simp only [Act.put, List.setIfInBounds_toArray, List.set_cons_zero, List.set_cons_succ, i64_w, i32_w]
                                        rfl
                                      refine pure_ (i := 4) (N := some 43) (v := ?_) (a' := ?_) #[true, true, true, true, true, false, false, false, false, false, false, false, false, false, false] rfl rfl (any_of HT_.out (by kernel_rfl)) (fun _ _ _ h => h) (Or.inl ⟨by rfl, ?_⟩) ?_ ?_
                                      rotate_left
                                      · intro w'
                                        go_simp
                                        with_reducible rfl
                                      rotate_left
                                      · simp only [Act.put, List.setIfInBounds_toArray, List.set_cons_zero, List.set_cons_succ, i64_w, i32_w]
                                        rfl
                                      refine pure_ (i := 5) (N := some 44) (v := undef) (a' := ?_) #[true, true, true, true, true, true, false, false, false, false, false, false, false, false, false] rfl rfl (any_of HT_.out (by kernel_rfl)) (fun _ _ _ h => h) (Or.inr ⟨by rfl, rfl⟩) ?_ ?_
                                      rotate_left
                                      · simp only [Act.put, List.setIfInBounds_toArray, List.set_cons_zero, List.set_cons_succ, i64_w, i32_w]
                                        rfl
                                      refine pure_ (i := 6) (N := some 45) (v := undef) (a' := ?_) #[true, true, true, true, true, true, true, false, false, false, false, false, false, false, false] rfl rfl (any_of HT_.out (by kernel_rfl)) (fun _ _ _ h => h) (Or.inr ⟨by rfl, rfl⟩) ?_ ?_
                                      rotate_left
                                      · simp only [Act.put, List.setIfInBounds_toArray, List.set_cons_zero, List.set_cons_succ, i64_w, i32_w]
                                        rfl
                                      refine pure_ (i := 7) (N := some 46) (v := undef) (a' := ?_) #[true, true, true, true, true, true, true, true, false, false, false, false, false, false, false] rfl rfl (any_of HT_.out (by kernel_rfl)) (fun _ _ _ h => h) (Or.inr ⟨by rfl, rfl⟩) ?_ ?_
                                      rotate_left
                                      · simp only [Act.put, List.setIfInBounds_toArray, List.set_cons_zero, List.set_cons_succ, i64_w, i32_w]
                                        rfl
                                      refine pure_ (i := 8) (N := some 47) (v := undef) (a' := ?_) #[true, true, true, true, true, true, true, true, true, false, false, false, false, false, false] rfl rfl (any_of HT_.out (by kernel_rfl)) (fun _ _ _ h => h) (Or.inr ⟨by rfl, rfl⟩) ?_ ?_
                                      rotate_left
                                      · simp only [Act.put, List.setIfInBounds_toArray, List.set_cons_zero, List.set_cons_succ, i64_w, i32_w]
                                        rfl
                                      refine pure_ (i := 9) (N := some 48) (v := undef) (a' := ?_) #[true, true, true, true, true, true, true, true, true, true, false, false, false, false, false] rfl rfl (any_of HT_.out (by kernel_rfl)) (fun _ _ _ h => h) (Or.inr ⟨by rfl, rfl⟩) ?_ ?_
                                      rotate_left
                                      · simp only [Act.put, List.setIfInBounds_toArray, List.set_cons_zero, List.set_cons_succ, i64_w, i32_w]
                                        rfl
                                      refine pure_ (i := 10) (N := some 49) (v := undef) (a' := ?_) #[true, true, true, true, true, true, true, true, true, true, true, false, false, false, false] rfl rfl (any_of HT_.out (by kernel_rfl)) (fun _ _ _ h => h) (Or.inr ⟨by rfl, rfl⟩) ?_ ?_
                                      rotate_left
                                      · simp only [Act.put, List.setIfInBounds_toArray, List.set_cons_zero, List.set_cons_succ, i64_w, i32_w]
                                        rfl
                                      refine pure_ (i := 11) (N := some 50) (v := undef) (a' := ?_) #[true, true, true, true, true, true, true, true, true, true, true, true, false, false, false] rfl rfl (any_of HT_.out (by kernel_rfl)) (fun _ _ _ h => h) (Or.inr ⟨by rfl, rfl⟩) ?_ ?_
                                      rotate_left
                                      · simp only [Act.put, List.setIfInBounds_toArray, List.set_cons_zero, List.set_cons_succ, i64_w, i32_w]
                                        rfl
                                      refine pure_ (i := 12) (N := some 51) (v := undef) (a' := ?_) #[true, true, true, true, true, true, true, true, true, true, true, true, true, false, false] rfl rfl (any_of HT_.out (by kernel_rfl)) (fun _ _ _ h => h) (Or.inr ⟨by rfl, rfl⟩) ?_ ?_
                                      rotate_left
                                      · simp only [Act.put, List.setIfInBounds_toArray, List.set_cons_zero, List.set_cons_succ, i64_w, i32_w]
                                        rfl
                                      refine pure_ (i := 13) (N := some 52) (v := undef) (a' := ?_) #[true, true, true, true, true, true, true, true, true, true, true, true, true, true, false] rfl rfl (any_of HT_.out (by kernel_rfl)) (fun _ _ _ h => h) (Or.inr ⟨by rfl, rfl⟩) ?_ ?_
                                      rotate_left
                                      · simp only [Act.put, List.setIfInBounds_toArray, List.set_cons_zero, List.set_cons_succ, i64_w, i32_w]
                                        rfl
                                      refine pure_ (i := 14) (N := some 53) (v := ?_) (a' := ?_) #[true, true, true, true, true, true, true, true, true, true, true, true, true, true, true] rfl rfl (any_of HT_.out (by kernel_rfl)) (fun _ _ _ h => h) (Or.inl ⟨by rfl, ?_⟩) ?_ ?_
                                      rotate_left
                                      · intro w'
                                        go_simp
                                        with_reducible rfl
                                      rotate_left
                                      · simp only [Act.put, List.setIfInBounds_toArray, List.set_cons_zero, List.set_cons_succ, i64_w, i32_w]
                                        rfl
                                      refine done_ (done_of HT_.out (by kernel_rfl)) ?_
                                      have q51 : (x7_4 : Int) ≤ ((x4_1.length : Int) : Int) := of_decide_eq_true (by first | (with_reducible assumption) | assumption)
                                      obtain ⟨i051, hi051, _, hsz51, _⟩ := info_parts info3
                                      have hroom51 : x4_1.length ≤ co50 := (Kd.R_reads' HO_4.out).2.1
                                      have hC51 : Kd.C (Kd.int .i64) _ Ao50 x4_1.length x4_1 := (Kd.R_reads' HO_4.out).2.2
                                      have hcut51 := cut_to (P := Tryz.prog) 25 3 .i64 Tryz.underlying25 hi051 Ao50 x4_1.length co50 x7_4 (of_decide_eq_true (by first | (with_reducible assumption) | assumption)) q51 hroom51
                                      have hr51 := Kd.C_take (m := (x7_4 : Int).toNat) hC51 (by omega)
                                      have hy51 : y185.length = (x7_4 : Int).toNat := (by rw [Ny185.out, List.length_take]; omega)
                                      rw [← Ny185.out] at hr51
                                      rw [← hy51] at hcut51
                                      have HR188 := Aside0.mk hr51
                                      have HC188 := Aside0.mk (show y185.length ≤ co50 from by omega)
                                      clear hr51 hC51 hroom51 hi051 hsz51
                                      have KY51 := Aside0.mk hy51
                                      clear hy51
                                      have KL51 := Aside0.mk (show (x7_4 : Int).toNat ≤ x4_1.length from by omega)
                                      replace q51 := eq_true q51
                                      try go_wp2_with (first | ((with_reducible refine gate_builtin (b := .append) (xs := #[.tmp 56, .tmp 59]) rfl ?_); at_builtin; refine Kd.R_append_rows (Kd.int .i64) (w0 := w) w.heap.size rfl (.tmp 56) (.tmp 59) 25 3 (.int .i64 0) 8 rfl Tryz.underlying25 info3 rfl (by decide) (by omega) (.slice none 0 0) ([] : List Int) y185 _ _ _ (fun k_ => some k_ ≠ (.slice Ao50 x4_1.length co50 : Value).ownBlock) (fun _ => False) rfl rfl ?aO ?aR (fun _ _ h => h) (fun _ h => h.elim) ?aF ?aB ?aS ?aL ?_; (case aR => repeat (first | exact (by repeat (first | (with_reducible exact HR188.out) | (with_reducible refine Kd.C_alloc ?_ _) | (with_reducible refine Kd.C_drewN ?_ _) | (with_reducible refine Kd.C_drew ?_) | exact HR188.out)) | (with_reducible refine Kd.C_alloc ?_ _) | (with_reducible refine Kd.C_drewN ?_ _) | (with_reducible refine Kd.C_drew ?_))); (case aB => exact (by repeat (first | (with_reducible first | exact HB.out | apply below_alloc | apply pw_below_drewN | apply below_drew1) | exact HB.out))); (case aF => exact (fun k_ hk => Kd.fresh' (Kd.R_lt (by (with_reducible repeat (first | apply Kd.R_alloc | apply Kd.R_drewN | apply Kd.R_drew)); exact HO_4.out)) k_ hk)); (case aO => exact ((Kd.R_nil _ _ _ _ (fun k_ => some k_ ≠ (.slice Ao50 x4_1.length co50 : Value).ownBlock)))); (case aS => exact (below_size (by repeat (first | (with_reducible first | exact HB.out | apply below_alloc | apply pw_below_drewN | apply below_drew1) | exact HB.out)))); (case aL => have := LMc42.out; omega); intro v190 w52 ho hb hg hat; rw [← Ny189.out] at ho; have n0_ := Aside0.mk (Kd.R_after (Kd.R_apart_nil (by (with_reducible repeat (first | apply Kd.R_alloc | apply Kd.R_drewN | apply Kd.R_drew)); exact HO_4.out)) hg hat); have n1_ := Aside0.mk (hb); have n2_ := Aside0.mk ((show Kd.C (Kd.int .i64) w52 Ao50 y185.length y185 from by rw [Ny185.out]; exact Kd.C_take (m := (x7_4 : Int).toNat) ((Kd.R_reads' (Kd.R_after (Kd.R_apart_nil (by (with_reducible repeat (first | apply Kd.R_alloc | apply Kd.R_drewN | apply Kd.R_drew)); exact HO_4.out)) hg hat)).2.2) KL51.out)); have n3_ := Aside0.mk (ho); clear HO_4; clear HB; clear HR188; have HO_4 := n0_; have HB := n1_; have HR188 := n2_; have HO191 := n3_; clear n0_ n1_ n2_ n3_; clear ho hb hg hat; have p192 : 0 ≤ (x6_1 : Int) := of_decide_eq_true (by first | (with_reducible assumption) | assumption); have q192 : x6_1 < (l0.length : Int) := of_decide_eq_true (by first | (with_reducible assumption) | assumption); obtain ⟨ad192, e192, hx192_0⟩ := Kd.at_int HR0.out x6_1 p192 q192; cases e192; replace hx192_0 := (HB.out.cell (World.block_lt_of_cell? w _ hx192_0)).trans hx192_0; replace p192 := eq_true p192; replace q192 := eq_true q192) | ((with_reducible refine gate_builtin (b := .append) (xs := #[.tmp 61, .tmp 66]) rfl ?_); at_builtin; refine Kd.R_append (Kd.int .i64) (w0 := w) w.heap.size rfl (.tmp 61) (.tmp 66) 25 3 (.int .i64 0) 8 rfl Tryz.underlying25 info3 rfl (by decide) (by omega) v190 y189 (rd l0 x6_1) [.int .i64 (rd l0 x6_1)] (fun k_ => some k_ ≠ (.slice Ao50 x4_1.length co50 : Value).ownBlock) (fun _ => False) rfl rfl ?aP (fun _ hk => hk.elim) ?aF ?aO ?aB ?aS ?aL ?_; (case aP => exact rfl); (case aB => exact (by repeat (first | (with_reducible first | exact HB.out | apply below_alloc | apply pw_below_drewN | apply below_drew1) | exact HB.out))); (case aF => exact (fun k_ hk => Kd.fresh' (Kd.R_lt (by (with_reducible repeat (first | apply Kd.R_alloc | apply Kd.R_drewN | apply Kd.R_drew)); exact HO_4.out)) k_ hk)); (case aO => exact (by (with_reducible repeat (first | apply Kd.R_alloc | apply Kd.R_drewN | apply Kd.R_drew)); exact HO191.out)); (case aS => exact (below_size (by repeat (first | (with_reducible first | exact HB.out | apply below_alloc | apply pw_below_drewN | apply below_drew1) | exact HB.out)))); (case aL => have := LMc45.out; omega); intro v194 w53 ho hb hg hat; rw [← Ny193.out] at ho; have n0_ := Aside0.mk (Kd.R_after (ok := (fun _ => True)) (by (with_reducible repeat (first | apply Kd.R_alloc | apply Kd.R_drewN | apply Kd.R_drew)); exact HO_4.out) hg hat); have n1_ := Aside0.mk (hb); have n2_ := Aside0.mk ((show Kd.C (Kd.int .i64) w53 Ao50 y185.length y185 from by rw [Ny185.out]; exact Kd.C_take (m := (x7_4 : Int).toNat) ((Kd.R_reads' (Kd.R_after (ok := (fun _ => True)) (by (with_reducible repeat (first | apply Kd.R_alloc | apply Kd.R_drewN | apply Kd.R_drew)); exact HO_4.out) hg hat)).2.2) KL51.out)); have n3_ := Aside0.mk (ho); clear HO_4; clear HB; clear HR188; clear HO191; have HO_4 := n0_; have HB := n1_; have HR188 := n2_; have HO195 := n3_; clear n0_ n1_ n2_ n3_; clear ho hb hg hat; have q54 : (x7_4 : Int) ≤ ((x4_1.length : Int) : Int) := of_decide_eq_true (by first | (with_reducible assumption) | assumption); obtain ⟨i054, hi054, _, hsz54, _⟩ := info_parts info3; have hroom54 : x4_1.length ≤ co50 := (Kd.R_reads' HO_4.out).2.1; have hC54 : Kd.C (Kd.int .i64) _ Ao50 x4_1.length x4_1 := (Kd.R_reads' HO_4.out).2.2; have q054 : (0 : Int) ≤ (x7_4 : Int) := of_decide_eq_true (by first | (with_reducible assumption) | assumption); have hcut54 := cut_from (P := Tryz.prog) 25 3 .i64 Tryz.underlying25 hi054 1 hsz54 Ao50 x4_1.length co50 x7_4 q054 q54; have hr54 := Kd.C_drop (m := (x7_4 : Int).toNat) (c := co50) hC54 (by omega) hroom54; obtain ⟨A54, hA54⟩ : ∃ A1, A1 = (if co50 = (x7_4 : Int).toNat then Ao50 else (Ao50 : Option Addr).map (·.add ((x7_4 : Int).toNat * 1))) := ⟨_, rfl⟩; obtain ⟨c54, hc54⟩ : ∃ c1, c1 = co50 - (x7_4 : Int).toNat := ⟨_, rfl⟩; have hy54 : y196.length = x4_1.length - (x7_4 : Int).toNat := (by rw [Ny196.out, List.length_drop] <;> omega); rw [show (x4_1).drop (x7_4 : Int).toNat = y196 from Ny196.out.symm] at hr54; replace hr54 : Kd.C (Kd.int .i64) _ A54 y196.length y196 := (by rw [hA54]; exact hr54); rw [← hy54, ← hA54, ← hc54] at hcut54; have HR199 := Aside0.mk hr54; have HC199 := Aside0.mk (show y196.length ≤ c54 from by rw [hy54, hc54]; exact Nat.sub_le_sub_right hroom54 _); clear hr54 hC54 hroom54 hi054 hsz54 hc54; have KY54 := Aside0.mk hy54; have KA54 := Aside0.mk hA54; clear hy54 hA54; have KL54 := Aside0.mk (show (x7_4 : Int).toNat ≤ x4_1.length from by omega); replace q54 := eq_true q54) | ((with_reducible refine gate_builtin (b := .append) (xs := #[.tmp 68, .tmp 71]) rfl ?_); at_builtin; refine Kd.R_append_rows (Kd.int .i64) (w0 := w) w.heap.size rfl (.tmp 68) (.tmp 71) 25 3 (.int .i64 0) 8 rfl Tryz.underlying25 info3 rfl (by decide) (by omega) v194 y193 y196 _ _ _ (fun k_ => some k_ ≠ (.slice Ao50 x4_1.length co50 : Value).ownBlock) (fun _ => False) rfl rfl ?aO ?aR (fun _ _ h => h) (fun _ h => h.elim) ?aF ?aB ?aS ?aL ?_; (case aR => repeat (first | exact (by repeat (first | (with_reducible exact HR199.out) | (with_reducible refine Kd.C_alloc ?_ _) | (with_reducible refine Kd.C_drewN ?_ _) | (with_reducible refine Kd.C_drew ?_) | exact HR199.out)) | (with_reducible refine Kd.C_alloc ?_ _) | (with_reducible refine Kd.C_drewN ?_ _) | (with_reducible refine Kd.C_drew ?_))); (case aB => exact (by repeat (first | (with_reducible first | exact HB.out | apply below_alloc | apply pw_below_drewN | apply below_drew1) | exact HB.out))); (case aF => exact (fun k_ hk => Kd.fresh' (Kd.R_lt (by (with_reducible repeat (first | apply Kd.R_alloc | apply Kd.R_drewN | apply Kd.R_drew)); exact HO_4.out)) k_ hk)); (case aO => exact (by (with_reducible repeat (first | apply Kd.R_alloc | apply Kd.R_drewN | apply Kd.R_drew)); exact HO195.out)); (case aS => exact (below_size (by repeat (first | (with_reducible first | exact HB.out | apply below_alloc | apply pw_below_drewN | apply below_drew1) | exact HB.out)))); (case aL => have := LMc48.out; omega); intro v201 w55 ho hb hg hat; rw [← Ny200.out] at ho; have n0_ := Aside0.mk (Kd.R_after (ok := (fun _ => True)) (by (with_reducible repeat (first | apply Kd.R_alloc | apply Kd.R_drewN | apply Kd.R_drew)); exact HO_4.out) hg hat); have n1_ := Aside0.mk (hb); have n2_ := Aside0.mk ((show Kd.C (Kd.int .i64) w55 Ao50 y185.length y185 from by rw [Ny185.out]; exact Kd.C_take (m := (x7_4 : Int).toNat) ((Kd.R_reads' (Kd.R_after (ok := (fun _ => True)) (by (with_reducible repeat (first | apply Kd.R_alloc | apply Kd.R_drewN | apply Kd.R_drew)); exact HO_4.out) hg hat)).2.2) KL51.out)); have n3_ := Aside0.mk ((show Kd.C (Kd.int .i64) w55 A54 y196.length y196 from by rw [Ny196.out, KA54.out]; exact Kd.C_drop (m := (x7_4 : Int).toNat) (c := co50) ((Kd.R_reads' (Kd.R_after (ok := (fun _ => True)) (by (with_reducible repeat (first | apply Kd.R_alloc | apply Kd.R_drewN | apply Kd.R_drew)); exact HO_4.out) hg hat)).2.2) KL54.out ((Kd.R_reads' (Kd.R_after (ok := (fun _ => True)) (by (with_reducible repeat (first | apply Kd.R_alloc | apply Kd.R_drewN | apply Kd.R_drew)); exact HO_4.out) hg hat)).2.1))); have n4_ := Aside0.mk (ho); clear HO_4; clear HB; clear HR188; clear HR199; clear HO195; have HO_4 := n0_; have HB := n1_; have HR188 := n2_; have HR199 := n3_; have HO202 := n4_; clear n0_ n1_ n2_ n3_ n4_; clear ho hb hg hat))
                                      go_roundg k4
                                      case measure => have := HK1.out; have := HJ2.out; have := HJ9.out; have := HK4.out; omega
                                      case rel => exact ⟨(y200), (x5_9), (wrap64 (x6_1 + 1)), (by first | rfl | (simp; done) | (simp [*]; done)), (by first | rfl | (simp; done) | (simp [*]; done)), H', ⟨by have := HK1.out; have := HJ2.out; have := HJ9.out; have := HK4.out; omega⟩, ⟨by (with_reducible repeat (first | apply Kd.R_alloc | apply Kd.R_drewN | apply Kd.R_drew)); exact Kd.R_mono HO202.out (fun _ hk => trivial)⟩, ⟨by repeat (first | (with_reducible first | exact HB.out | apply below_alloc | apply pw_below_drewN | apply below_drew1) | exact HB.out)⟩⟩
                                    · rw [if_neg c48] at H
                                      exact absurd H (by simp)
                                  · rw [if_neg c45] at H
                                    exact absurd H (by simp)
                                · rw [if_neg c44] at H
                                  exact absurd H (by simp)
                              · rw [if_neg c43] at H
                                exact absurd H (by simp)
                            · rw [if_neg c42] at H
                              exact absurd H (by simp)
                          · rw [if_neg c41] at H
                            exact absurd H (by simp)
                        · rw [if_neg c40] at H
                          exact absurd H (by simp)
      · rw [if_neg c2] at H
        have c2b0 : decide (x6_1 < (l0.length : Int)) = false := decide_eq_false c2
        clear c2
        simp only [Option.some.injEq, Prod.mk.injEq] at H
        obtain ⟨rfl, rfl⟩ := H
        go_wp2
        go_ret2
        exact ⟨_, by first | rfl | (simp [errW_none, errW_some] <;> rfl) | (simp [*, errW_none, errW_some] <;> rfl), by (with_reducible repeat (first | apply Kd.R_alloc | apply Kd.R_drewN | apply Kd.R_drew)); exact HO_4.out, by repeat (first | (with_reducible first | exact HB.out | apply below_alloc | apply pw_below_drewN | apply below_drew1) | exact HB.out)⟩

end Go.Proofs.YtcdhhaedgohlgaaGreatDoor.P
end

section
namespace Go.Proofs.YtcdhhaedgohlgaaGreatDoor.P
open Go.RowKit Go.Proofs.YtcdhhaedgohlgaaGreatDoorW.PrintWords Go.Proofs.YtcdhhaedgohlgaaGreatDoorW.PrintLast Go.Proofs.YtcdhhaedgohlgaaGreatDoorW.PrintMore
set_option linter.unusedVariables false
set_option linter.unusedSimpArgs false

theorem ahead_f (x y : Int) (hx : litB 65536 x = true) (hy : litB 65536 y = true) : chalklineref14_ahead.f x y = some (lt x y) := by
  have h1 := litB_range hx
  have h2 := litB_range hy
  unfold chalklineref14_ahead.f lt
  rw [mx_abs x (by omega) (by omega), mx_abs y (by omega) (by omega)]
  by_cases e : x.natAbs < y.natAbs
  · rw [if_pos (by omega), decide_eq_true e]; rfl
  · rw [if_neg (by omega), decide_eq_false e, Bool.false_or]
    by_cases e2 : x.natAbs = y.natAbs
    · rw [if_pos (by omega), beq_iff_eq.2 e2, Bool.true_and]
    · rw [if_neg (by omega), beq_eq_false_iff_ne.2 e2, Bool.false_and]
/-- Where x goes. -/
def insAt (x : Int) : List Int → Nat
  | [] => 0
  | y :: l => if lt y x = true then insAt x l + 1 else 0
theorem ins_split (x : Int) : ∀ l, ins x l = l.take (insAt x l) ++ x :: l.drop (insAt x l)
  | [] => rfl
  | y :: l => by
    unfold ins insAt
    by_cases h : lt y x = true
    · rw [if_pos h, if_pos h, ins_split x l]; rfl
    · rw [if_neg h, if_neg h]; rfl
theorem insAt_le (x : Int) : ∀ l, insAt x l ≤ l.length
  | [] => Nat.le_refl _
  | y :: l => by
    unfold insAt
    split
    · have := insAt_le x l; simp; omega
    · omega
theorem insAt_before (x : Int) : ∀ (l : List Int) (i : Nat) (h : i < l.length), i < insAt x l → lt l[i] x = true
  | [], i, h, _ => by simp at h
  | y :: l, i, h, hi => by
    unfold insAt at hi
    split at hi
    · rename_i hy
      cases i with
      | zero => exact hy
      | succ i => exact insAt_before x l i (by simpa using h) (by omega)
    · omega
theorem insAt_at (x : Int) : ∀ (l : List Int) (h : insAt x l < l.length), lt (l[insAt x l]) x = false
  | [], h => by simp at h
  | y :: l, h => by
    by_cases hy : lt y x = true
    · have e : insAt x (y :: l) = insAt x l + 1 := by
        show (if lt y x = true then insAt x l + 1 else 0) = _
        rw [if_pos hy]
      simp only [e] at h ⊢
      exact insAt_at x l (by simpa using h)
    · have e : insAt x (y :: l) = 0 := by
        show (if lt y x = true then insAt x l + 1 else 0) = _
        rw [if_neg hy]
      simp only [e]
      simpa using hy
theorem insAt_ge (x : Int) (l : List Int) (i : Nat) (h : i < l.length) (hle : i ≤ insAt x l) : lt l[i] x = decide (i < insAt x l) := by
  rcases Nat.lt_or_ge i (insAt x l) with h1 | h1
  · rw [insAt_before x l i h h1, decide_eq_true h1]
  · have e : i = insAt x l := by omega
    subst e
    rw [insAt_at x l h, decide_eq_false (by omega)]

def stepB (s : List Int × Bool) (x : Int) : List Int × Bool := if litB 65536 x && !(s.1.contains x) then (ins x s.1, s.2 || s.1.contains (-x)) else s
theorem normL_snoc (p : List Int) (x : Int) : normL (p ++ [x]) = stepN (normL p) x := by unfold normL; rw [List.foldl_append]; rfl
theorem tautL_snoc (p : List Int) (x : Int) : tautL (p ++ [x]) = (tautL p || (litB 65536 x && (normL p).contains (-x))) := by
  rw [Bool.eq_iff_iff, Bool.or_eq_true, Bool.and_eq_true, tautL_iff, tautL_iff, List.contains_eq_mem, decide_eq_true_iff, mem_normL]
  simp only [List.mem_append, List.mem_singleton]
  constructor
  · rintro ⟨y, h1, h2, h3⟩
    have hr := litB_range h3
    rcases h1 with h1 | h1
    · rcases h2 with h2 | h2
      · exact .inl ⟨y, h1, h2, h3⟩
      · subst h2
        exact .inr ⟨by rw [litB_neg]; exact h3, by rw [Int.neg_neg]; exact h1, by rw [Int.neg_neg]; exact h3⟩
    · subst h1
      rcases h2 with h2 | h2
      · exact .inr ⟨h3, h2, by rw [litB_neg]; exact h3⟩
      · omega
  · rintro (⟨y, h1, h2, h3⟩ | ⟨h1, h2, _⟩)
    · exact ⟨y, .inl h1, .inl h2, h3⟩
    · exact ⟨x, .inr rfl, .inl h2, h1⟩
theorem stepB_norm (p : List Int) (x : Int) : stepB (normL p, tautL p) x = (normL (p ++ [x]), tautL (p ++ [x])) := by
  rw [normL_snoc, tautL_snoc]
  unfold stepB stepN
  cases hx : litB 65536 x with
  | false => simp
  | true =>
    cases hc : (normL p).contains x with
    | false => simp
    | true =>
      simp only [Bool.not_true, Bool.and_false, Bool.false_eq_true, if_false, Bool.true_and, Prod.mk.injEq, true_and]
      cases hn : (normL p).contains (-x) with
      | false => simp
      | true =>
        simp only [List.contains_eq_mem, decide_eq_true_iff, mem_normL] at hc hn
        have : tautL p = true := (tautL_iff p).2 ⟨x, hc.1, hn.1, hx⟩
        simp [this]
theorem foldB (l : List Int) : ∀ p, l.foldl stepB (normL p, tautL p) = (normL (p ++ l), tautL (p ++ l)) := by
  induction l with
  | nil => intro p; simp
  | cons x l ih =>
    intro p
    rw [List.foldl_cons, stepB_norm, ih]
    simp
theorem normB (l : List Int) : l.foldl stepB ([], false) = (normL l, tautL l) := foldB l []

theorem ins_len (x : Int) : ∀ l, (ins x l).length = l.length + 1
  | [] => rfl
  | y :: l => by
    unfold ins
    split
    · rw [List.length_cons, ins_len x l, List.length_cons]
    · rfl

theorem Norm_l1 (l out : List Int) (both : Bool) (i : Nat) (hi : i < l.length) (hl : l.length < 17592186044416) (ho : out.length < 8796093022208) (hx : litB 65536 l[i] = true) (hout : ∀ y ∈ out, litB 65536 y = true) (r : List Int × Bool)
    (hc : EvL (fun k => chalklineref14_Norm.l0 k l (ins l[i] out) both ((i + 1 : Nat) : Int)) r) : ∀ d j : Nat, j + d = insAt l[i] out → EvL (fun k => chalklineref14_Norm.l1 k l out both (i : Int) (j : Int)) r := by
  have hle := insAt_le l[i] out
  have hsp := ins_split l[i] out
  intro d
  induction d with
  | zero =>
    intro j hj
    have hja : insAt l[i] out = j := by omega
    clear hj
    rw [hja] at hle hsp
    refine EvL.step hc (fun k => ?_)
    have ht : (out.take j).length < 8796093022208 := by rw [List.length_take]; omega
    have hd : (out.drop j).length < 8796093022208 := by rw [List.length_drop]; omega
    simp only [chalklineref14_Norm.l1]
    by_cases hlt : j < out.length
    · have hg := insAt_ge l[i] out j hlt (by omega)
      rw [hja, decide_eq_false (by omega)] at hg
      rw [if_pos (by omega), if_pos (by omega), if_pos (by omega), if_pos (by omega), rd_at out j hlt, rd_at l i hi, ahead_f _ _ (hout _ (List.getElem_mem hlt)) hx, Option.bind_some, hg, if_neg (by simp), if_pos (by omega), Option.bind_some, Int.toNat_natCast, if_pos (by simp only [List.length_nil]; omega), Option.bind_some, List.nil_append, if_pos (by omega), Option.bind_some, Option.bind_some, if_pos (by rw [List.length_append, List.length_singleton]; omega), w_succ i (by omega)]
      rw [List.append_assoc, List.singleton_append, ← hsp]
    · rw [if_neg (by omega), if_pos (by omega), if_pos (by omega), Option.bind_some, Int.toNat_natCast, if_pos (by simp only [List.length_nil]; omega), Option.bind_some, List.nil_append, if_pos (by omega), if_pos (by omega), rd_at l i hi, if_pos (by omega), Option.bind_some, Option.bind_some, if_pos (by rw [List.length_append, List.length_singleton]; omega), w_succ i (by omega)]
      rw [List.append_assoc, List.singleton_append, ← hsp]
  | succ d ih =>
    intro j hj
    have hlt : j < out.length := by omega
    refine EvL.step (ih (j + 1) (by omega)) (fun k => ?_)
    have hg := insAt_ge l[i] out j hlt (by omega)
    rw [decide_eq_true (by omega)] at hg
    simp only [chalklineref14_Norm.l1]
    rw [if_pos (by omega), if_pos (by omega), if_pos (by omega), if_pos (by omega), rd_at out j hlt, rd_at l i hi, ahead_f _ _ (hout _ (List.getElem_mem hlt)) hx, Option.bind_some, hg, if_pos rfl, w_succ j (by omega)]
theorem Norm_l0 (l : List Int) (hl : l.length < 8796093022208) : ∀ (d i : Nat) (out : List Int) (both : Bool), i + d = l.length → out.length ≤ i → (∀ y ∈ out, litB 65536 y = true) → EvL (fun k => chalklineref14_Norm.l0 k l out both (i : Int)) ((l.drop i).foldl stepB (out, both))
  | 0, i, out, both, hi, ho, hout => by
    rw [List.drop_eq_nil_of_le (by omega), List.foldl_nil]
    refine EvL.step (EvL.const _) (fun k => ?_)
    simp only [chalklineref14_Norm.l0]
    rw [if_neg (by omega)]
  | d + 1, i, out, both, hi, ho, hout => by
    have hlt : i < l.length := by omega
    rw [List.drop_eq_getElem_cons hlt, List.foldl_cons]
    have hrd := rd_at l i hlt
    have hskip : ∀ r, EvL (fun k => chalklineref14_Norm.l0 k l out both ((i + 1 : Nat) : Int)) r → EvL (fun k => chalklineref14_Norm.j1 k l out both (i : Int) true) r := fun r h => by
      refine EvL.step h (fun k => ?_)
      simp only [chalklineref14_Norm.j1]
      rw [if_pos trivial, w_succ i (by omega)]
    cases hx : litB 65536 l[i] with
    | false =>
      have hs : stepB (out, both) l[i] = (out, both) := by unfold stepB; rw [hx]; rfl
      rw [hs]
      have ih := Norm_l0 l hl d (i + 1) out both (by omega) (by omega) hout
      refine EvL.step (hskip _ ih) (fun k => ?_)
      simp only [chalklineref14_Norm.l0]
      rw [if_pos (by omega), if_pos (by omega), hrd, Is_f _ _ (by omega) (by omega), hx, Option.bind_some, if_neg (by simp)]
    | true =>
      have hhas := Has_f out l[i] (by omega)
      cases hc : out.contains l[i] with
      | true =>
        have hs : stepB (out, both) l[i] = (out, both) := by
          unfold stepB
          simp only [hx, hc]
          rfl
        rw [hs]
        have ih := Norm_l0 l hl d (i + 1) out both (by omega) (by omega) hout
        have hm : decide (l[i] ∈ out) = true := by rw [List.contains_eq_mem] at hc; exact hc
        rw [hm] at hhas
        refine EvL.step (EvL.bind hhas (h := fun t k => chalklineref14_Norm.j1 k l out both (i : Int) t) (hskip _ ih)) (fun k => ?_)
        simp only [chalklineref14_Norm.l0]
        rw [if_pos (by omega), if_pos (by omega), hrd, Is_f _ _ (by omega) (by omega), hx, Option.bind_some, if_pos rfl]
      | false =>
        have hs : stepB (out, both) l[i] = (ins l[i] out, both || out.contains (-l[i])) := by
          unfold stepB
          simp only [hx, hc]
          rfl
        rw [hs]
        have hr := litB_range hx
        have ih := fun b => Norm_l0 l hl d (i + 1) (ins l[i] out) b (by omega) (by rw [ins_len]; omega) (fun y hy => by
          rcases (mem_ins _ _ _).1 hy with rfl | hy
          · exact hx
          · exact hout y hy)
        have hj2 : ∀ b r, EvL (fun k => chalklineref14_Norm.l0 k l (ins l[i] out) b ((i + 1 : Nat) : Int)) r → EvL (fun k => chalklineref14_Norm.j2 k l out b (i : Int)) r := fun b r h => by
          refine EvL.step (Norm_l1 l out b i hlt (by omega) (by omega) hx hout r h (insAt l[i] out) 0 (by omega)) (fun k => ?_)
          simp only [chalklineref14_Norm.j2]
          rfl
        have hm : decide (l[i] ∈ out) = false := by rw [List.contains_eq_mem] at hc; exact hc
        rw [hm] at hhas
        refine EvL.step (EvL.bind hhas (h := fun t k => chalklineref14_Norm.j1 k l out both (i : Int) t) ?_) (fun k => ?_)
        · cases both with
          | true =>
            refine EvL.step (hj2 true _ (ih true)) (fun k => ?_)
            simp only [chalklineref14_Norm.j1]
            rw [if_neg (by simp), if_pos trivial]
          | false =>
            have hh2 := Has_f out (-l[i]) (by omega)
            rw [← List.contains_eq_mem] at hh2
            refine EvL.step (EvL.bind hh2 (h := fun t k => chalklineref14_Norm.j2 k l out t (i : Int)) (hj2 _ _ (by rw [Bool.false_or]; exact ih _))) (fun k => ?_)
            simp only [chalklineref14_Norm.j1]
            rw [if_neg (by simp), if_neg (by simp), if_pos (by omega), if_pos (by omega), hrd, w_neg _ (by omega) (by omega)]
        · simp only [chalklineref14_Norm.l0]
          rw [if_pos (by omega), if_pos (by omega), hrd, Is_f _ _ (by omega) (by omega), hx, Option.bind_some, if_pos rfl]
theorem Norm_f (l : List Int) (hl : l.length < 8796093022208) : EvL (fun k => chalklineref14_Norm.f k l) (normL l, tautL l) := by
  have := Norm_l0 l hl l.length 0 [] false (by omega) (Nat.le_refl _) (fun y hy => by cases hy)
  rw [List.drop_zero, normB] at this
  exact this
end Go.Proofs.YtcdhhaedgohlgaaGreatDoor.P
end

section
namespace Go.Proofs.YtcdhhaedgohlgaaGreatDoor.P
open Go.RowKit Go.Proofs.YtcdhhaedgohlgaaGreatDoorW.PrintWords Go.Proofs.YtcdhhaedgohlgaaGreatDoorW.PrintLast

theorem wordsS_talk (m r : List UInt8) (hm : (10 : UInt8) ∉ m) : wordsS (99 :: (m ++ 10 :: r)) true false [] = wordsS r true false [] := by
  rw [wordsS, if_neg (by decide), if_pos (by decide), wordsS_skip r m hm]
  rfl
theorem wordsS_sp_tab (r : List UInt8) (f : Bool) : wordsS (32 :: 9 :: r) f false [] = wordsS r false false [] := by
  rw [wordsS, if_neg (by decide), if_neg (by cases f <;> decide), if_pos (by decide), wordsS, if_neg (by decide), if_neg (by decide), if_pos (by decide)]
  rfl
theorem getB_talk (n : Int) (L : List (List Int)) (m : List UInt8) (hm : (10 : UInt8) ∉ m) (hc : checkV n L = 0) (hs : (putText n L).length + m.length + 4 ≤ 4194304) :
    getB (99 :: (m ++ 10 :: 32 :: 9 :: putText n L)) = (n, L, 0) := by
  unfold getB
  rw [if_neg (by simp; omega), wordsS_talk _ _ hm, wordsS_sp_tab]
  have e := wordsS_put n L [] false
  rw [List.append_nil] at e
  have e0 : wordsS ([] : List UInt8) true false [] = [] := rfl
  rw [e, e0, List.append_nil, getV_put n L hc]
theorem getB_after (n : Int) (L : List (List Int)) (m : List UInt8) (hm : (10 : UInt8) ∉ m) (hc : checkV n L = 0) (hs : (putText n L).length + m.length + 4 ≤ 4194304) :
    getB (putText n L ++ 99 :: (m ++ 10 :: 32 :: 9 :: [])) = (n, L, 0) := by
  unfold getB
  rw [if_neg (by simp; omega), wordsS_put, wordsS_talk _ _ hm, wordsS_sp_tab]
  have e0 : wordsS ([] : List UInt8) false false [] = [] := rfl
  rw [e0, List.append_nil, getV_put n L hc]
end Go.Proofs.YtcdhhaedgohlgaaGreatDoor.P
end

section
namespace Go.Proofs.YtcdhhaedgohlgaaGreatDoor.P
open Go.RowKit Go.Proofs.YtcdhhaedgohlgaaGreatDoorW.PrintWords Go.Proofs.YtcdhhaedgohlgaaGreatDoorW.PrintLast Go.Proofs.YtcdhhaedgohlgaaGreatDoorW.PrintMore
attribute [local go_sem] max2_int min2_int max_two min_two max_three min_three max_four min_four   -- for this text's walks alone
set_option linter.unusedVariables false
set_option linter.unusedSimpArgs false

mutual
def chalklineref14_Check.j0 : Nat → Bool → Int → List (List Int) → Option (Int)
  | 0, _, _, _ => none
  | k + 1, x12, x204000, x204001 => if x12 = true then (some 1) else (chalklineref14_Check.l0 k 0 x204000 x204001)
def chalklineref14_Check.l0 : Nat → Int → Int → List (List Int) → Option (Int)
  | 0, _, _, _ => none
  | k + 1, x3, x204000, x204001 => if x3 < (x204001.length : Int) then (chalklineref14_Check.l1 k x3 0 x204000 x204001) else (if (x204001.length : Int) > 65536 then (some 2) else (some 0))
def chalklineref14_Check.l1 : Nat → Int → Int → Int → List (List Int) → Option (Int)
  | 0, _, _, _, _ => none
  | k + 1, x3, x4, x204000, x204001 => if 0 ≤ x3 then (if x3 < (x204001.length : Int) then (if x4 < ((rd_L1 x204001 x3).length : Int) then (if 0 ≤ x4 then ((chalklineref14_Is.f (rd (rd_L1 x204001 x3) x4) x204000).bind fun t207 => (if t207 = true then (chalklineref14_Check.l1 k x3 (wrap64 (x4 + 1)) x204000 x204001) else (some 1))) else (none)) else (chalklineref14_Check.l0 k (wrap64 (x3 + 1)) x204000 x204001)) else (none)) else (none)
end
def chalklineref14_Check.f (k : Nat) (a0_0 : Int) (l0_1 : List (List Int)) : Option (Int) := if a0_0 < 0 then (chalklineref14_Check.j0 k true a0_0 l0_1) else (chalklineref14_Check.j0 k (decide (a0_0 > 65536)) a0_0 l0_1)
theorem chalklineref14_Check.mono_l : ∀ k, (∀ y0 y1 y2, LeO (chalklineref14_Check.j0 k y0 y1 y2) (chalklineref14_Check.j0 (k + 1) y0 y1 y2)) ∧ (∀ y0 y1 y2, LeO (chalklineref14_Check.l0 k y0 y1 y2) (chalklineref14_Check.l0 (k + 1) y0 y1 y2)) ∧ (∀ y0 y1 y2 y3, LeO (chalklineref14_Check.l1 k y0 y1 y2 y3) (chalklineref14_Check.l1 (k + 1) y0 y1 y2 y3))
  | 0 => ⟨fun _ _ _ r h => by simp [chalklineref14_Check.j0] at h, fun _ _ _ r h => by simp [chalklineref14_Check.l0] at h, fun _ _ _ _ r h => by simp [chalklineref14_Check.l1] at h⟩
  | k + 1 => by
    obtain ⟨ih0, ih1, ih2⟩ := chalklineref14_Check.mono_l k
    refine ⟨?_, ?_, ?_⟩
    · intro y0 y1 y2
      unfold chalklineref14_Check.j0
      repeat' first
      | (with_reducible exact ih0 _ _ _)
      | (with_reducible exact ih1 _ _ _)
      | (with_reducible exact ih2 _ _ _ _)
      | (with_reducible exact LeO.refl _)
      | (with_reducible exact LeO.none _)
      | (with_reducible refine LeO.ite ?_ ?_)
      | (with_reducible refine LeO.bind ?_ (fun _ => ?_))
      | exact ih0 _ _ _
      | exact ih1 _ _ _
      | exact ih2 _ _ _ _
      | exact LeO.none _
      | refine LeO.ite ?_ ?_
      | refine LeO.bind ?_ (fun _ => ?_)
    · intro y0 y1 y2
      unfold chalklineref14_Check.l0
      repeat' first
      | (with_reducible exact ih0 _ _ _)
      | (with_reducible exact ih1 _ _ _)
      | (with_reducible exact ih2 _ _ _ _)
      | (with_reducible exact LeO.refl _)
      | (with_reducible exact LeO.none _)
      | (with_reducible refine LeO.ite ?_ ?_)
      | (with_reducible refine LeO.bind ?_ (fun _ => ?_))
      | exact ih0 _ _ _
      | exact ih1 _ _ _
      | exact ih2 _ _ _ _
      | exact LeO.none _
      | refine LeO.ite ?_ ?_
      | refine LeO.bind ?_ (fun _ => ?_)
    · intro y0 y1 y2 y3
      unfold chalklineref14_Check.l1
      repeat' first
      | (with_reducible exact ih0 _ _ _)
      | (with_reducible exact ih1 _ _ _)
      | (with_reducible exact ih2 _ _ _ _)
      | (with_reducible exact LeO.refl _)
      | (with_reducible exact LeO.none _)
      | (with_reducible refine LeO.ite ?_ ?_)
      | (with_reducible refine LeO.bind ?_ (fun _ => ?_))
      | exact ih0 _ _ _
      | exact ih1 _ _ _
      | exact ih2 _ _ _ _
      | exact LeO.none _
      | refine LeO.ite ?_ ?_
      | refine LeO.bind ?_ (fun _ => ?_)
theorem chalklineref14_Check.mono : ∀ a0 a1 k, LeO (chalklineref14_Check.f k a0 a1) (chalklineref14_Check.f (k + 1) a0 a1) := by
  intro a0 a1 k
  obtain ⟨ih0, ih1, ih2⟩ := chalklineref14_Check.mono_l k
  unfold chalklineref14_Check.f
  repeat' first
      | (with_reducible exact ih0 _ _ _)
      | (with_reducible exact ih1 _ _ _)
      | (with_reducible exact ih2 _ _ _ _)
      | (with_reducible exact LeO.refl _)
      | (with_reducible exact LeO.none _)
      | (with_reducible refine LeO.ite ?_ ?_)
      | (with_reducible refine LeO.bind ?_ (fun _ => ?_))
      | exact ih0 _ _ _
      | exact ih1 _ _ _
      | exact ih2 _ _ _ _
      | exact LeO.none _
      | refine LeO.ite ?_ ?_
      | refine LeO.bind ?_ (fun _ => ?_)
set_option maxHeartbeats 8000000 in
set_option maxRecDepth 100000 in
theorem chalklineref14_Check.calls (k : Nat) (a0_0 : Int) (A0_1 : Option Addr) (c0_1 : Nat) (l0_1 : List (List Int)) (r : Int) (w : World) (hr0_1 : Kd.C (Kd.slice 3 (Kd.int .i64)) w A0_1 l0_1.length l0_1) (hc0_1 : l0_1.length ≤ c0_1) (h : chalklineref14_Check.f k a0_0 l0_1 = some r) :
    Calls Tryz.prog 27 #[.agg #[.int .i64 a0_0, .slice A0_1 l0_1.length c0_1]] w fun e w' => e = .returned (.int .i64 r) ∧ Below w.heap.size w w' := by
  have hu24 := Tryz.underlying24
  have HR0_1 := Aside0.mk hr0_1
  have HC0_1 := Aside0.mk hc0_1
  clear hr0_1 hc0_1
  have HB := Aside0.mk (Below.refl w.heap.size w)
  have H : (if a0_0 < 0 then (chalklineref14_Check.j0 k true a0_0 l0_1) else (chalklineref14_Check.j0 k (decide (a0_0 > 65536)) a0_0 l0_1)) = some r := h
  clear h
  have HC2 := Aside0.mk H
  clear H
  go_enter Tryz.func27, Tryz.ntmps27
  go_upto_region 1 with (first | ((with_reducible refine gate_dst (N := 1) rfl ?_); refine box_event ?hg (N := 1) ?hd (cs := #[.int .i64 a0_0, .slice A0_1 l0_1.length c0_1]) (t := 24) ?hr ?_; (case hd => rfl); (case hg => rfl); (case hr => first | (go_simp; done) | (go_simp; rfl)); intro gb203 hg w3 hbox hb; have n0_ := Aside0.mk (below_step (by repeat (first | (with_reducible first | exact HB.out | apply below_alloc | apply pw_below_drewN | apply below_drew1) | exact HB.out)) hb); have n1_ := Aside0.mk (hbox); have n2_ := Aside0.mk ((by rw [hg]; exact (below_size (by repeat (first | (with_reducible first | exact HB.out | apply below_alloc | apply pw_below_drewN | apply below_drew1) | exact HB.out))) : w.heap.size ≤ gb203)); have n3_ := Aside0.mk ((by rw [hg]; exact (below_size (by repeat (first | (with_reducible first | exact HB.out | apply below_alloc | apply pw_below_drewN | apply below_drew1) | exact HB.out))) : w.heap.size ≤ gb203)); clear HB; have HB := n0_; have BK203 := n1_; have GW203 := n2_; have GE203 := n3_; clear n0_ n1_ n2_ n3_; clear hb hbox hg))
  repeat (go_quiet (first | ((with_reducible refine gate_dst (N := 1) rfl ?_); refine box_event ?hg (N := 1) ?hd (cs := #[.int .i64 a0_0, .slice A0_1 l0_1.length c0_1]) (t := 24) ?hr ?_; (case hd => rfl); (case hg => rfl); (case hr => first | (go_simp; done) | (go_simp; rfl)); intro gb203 hg w3 hbox hb; have n0_ := Aside0.mk (below_step (by repeat (first | (with_reducible first | exact HB.out | apply below_alloc | apply pw_below_drewN | apply below_drew1) | exact HB.out)) hb); have n1_ := Aside0.mk (hbox); have n2_ := Aside0.mk ((by rw [hg]; exact (below_size (by repeat (first | (with_reducible first | exact HB.out | apply below_alloc | apply pw_below_drewN | apply below_drew1) | exact HB.out))) : w.heap.size ≤ gb203)); have n3_ := Aside0.mk ((by rw [hg]; exact (below_size (by repeat (first | (with_reducible first | exact HB.out | apply below_alloc | apply pw_below_drewN | apply below_drew1) | exact HB.out))) : w.heap.size ≤ gb203)); clear HB; have HB := n0_; have BK203 := n1_; have GW203 := n2_; have GE203 := n3_; clear n0_ n1_ n2_ n3_; clear hb hbox hg)); go_upto_region 1 with (first | ((with_reducible refine gate_dst (N := 1) rfl ?_); refine box_event ?hg (N := 1) ?hd (cs := #[.int .i64 a0_0, .slice A0_1 l0_1.length c0_1]) (t := 24) ?hr ?_; (case hd => rfl); (case hg => rfl); (case hr => first | (go_simp; done) | (go_simp; rfl)); intro gb203 hg w3 hbox hb; have n0_ := Aside0.mk (below_step (by repeat (first | (with_reducible first | exact HB.out | apply below_alloc | apply pw_below_drewN | apply below_drew1) | exact HB.out)) hb); have n1_ := Aside0.mk (hbox); have n2_ := Aside0.mk ((by rw [hg]; exact (below_size (by repeat (first | (with_reducible first | exact HB.out | apply below_alloc | apply pw_below_drewN | apply below_drew1) | exact HB.out))) : w.heap.size ≤ gb203)); have n3_ := Aside0.mk ((by rw [hg]; exact (below_size (by repeat (first | (with_reducible first | exact HB.out | apply below_alloc | apply pw_below_drewN | apply below_drew1) | exact HB.out))) : w.heap.size ≤ gb203)); clear HB; have HB := n0_; have BK203 := n1_; have GW203 := n2_; have GE203 := n3_; clear n0_ n1_ n2_ n3_; clear hb hbox hg)))
  (try simp only [Act.put, List.setIfInBounds_toArray, List.set_cons_zero, List.set_cons_succ])
  go_cut [12] (fun v12 wc => ∃ (kq : Nat) (x12_1 : Bool), v12 = .bool x12_1 ∧ Aside0 (chalklineref14_Check.j0 kq x12_1 a0_0 l0_1 = some r) ∧ Aside0 (kq ≤ k) ∧ Aside0 (wc.heap[gb203]? = some (.cells #[.int .i64 a0_0, (.slice A0_1 l0_1.length c0_1)] 24 (0, 0))) ∧ Aside0 (Below w.heap.size w wc))
  case first =>
    have H := HC2.out
    clear HC2
    by_cases c4 : a0_0 < 0
    · rw [if_pos c4] at H
      have c4b0 : decide (a0_0 < 0) = true := decide_eq_true c4
      clear c4
      (first | rw [c4b0] | (simp only [i64_w, i32_w]; rw [c4b0]) | skip)
      have H' := Aside0.mk H
      clear H
      have hcz5_0 : w3.cell? ⟨gb203, 0, none⟩ = some (.int .i64 a0_0) := (blk_cell BK203.out 0).trans rfl
      have hcz5_1 : w3.cell? ⟨gb203, 1, none⟩ = some (.slice A0_1 l0_1.length c0_1) := (blk_cell BK203.out 1).trans rfl
      have hfz5_0 := blk_frozen BK203.out 0
      have hfz5_1 := blk_frozen BK203.out 1
      go_wp2
      repeat (go_quiet (fail); try go_wp2)
      go_meet
      case rel => exact ⟨_, (true), (by first | rfl | (simp; done) | (simp [*]; done)), H', ⟨by first | omega | exact Nat.le_refl _⟩, ⟨by (with_reducible repeat (first | refine blk_drewN ?_ _ | refine blk_drew ?_ | refine blk_alloc ?_ _)); exact BK203.out⟩, ⟨by repeat (first | (with_reducible first | exact HB.out | apply below_alloc | apply pw_below_drewN | apply below_drew1 | refine below_set ?_ GE203.out) | exact HB.out)⟩⟩
    · rw [if_neg c4] at H
      have c4b0 : decide (a0_0 < 0) = false := decide_eq_false c4
      clear c4
      (first | rw [c4b0] | (simp only [i64_w, i32_w]; rw [c4b0]) | skip)
      have H' := Aside0.mk H
      clear H
      have hcz6_0 : w3.cell? ⟨gb203, 0, none⟩ = some (.int .i64 a0_0) := (blk_cell BK203.out 0).trans rfl
      have hcz6_1 : w3.cell? ⟨gb203, 1, none⟩ = some (.slice A0_1 l0_1.length c0_1) := (blk_cell BK203.out 1).trans rfl
      have hfz6_0 := blk_frozen BK203.out 0
      have hfz6_1 := blk_frozen BK203.out 1
      go_wp2
      repeat (go_quiet (fail); try go_wp2)
      go_meet
      case rel => exact ⟨_, (decide (a0_0 > 65536)), (by first | rfl | (simp; done) | (simp [*]; done)), H', ⟨by first | omega | exact Nat.le_refl _⟩, ⟨by (with_reducible repeat (first | refine blk_drewN ?_ _ | refine blk_drew ?_ | refine blk_alloc ?_ _)); exact BK203.out⟩, ⟨by repeat (first | (with_reducible first | exact HB.out | apply below_alloc | apply pw_below_drewN | apply below_drew1 | refine below_set ?_ GE203.out) | exact HB.out)⟩⟩
  case rest =>
    clear HC2
    try clear c2
    try clear p2
    try clear c4
    try clear c4b0
    try clear hcz5_0
    try clear hcz5_1
    try clear hcz6_0
    try clear hcz6_1
    try clear hfz5_0
    try clear hfz5_1
    try clear hfz6_0
    try clear hfz6_1
    obtain ⟨kq, x12_1, rfl, HA, HJ1, BK203, HB⟩ := hcut
    cases kq with
    | zero => exact absurd HA.out (by simp [chalklineref14_Check.j0])
    | succ kj1 =>
      have H := HA.out
      clear HA
      simp only [chalklineref14_Check.j0] at H
      by_cases c7 : x12_1 = true
      · subst c7
        have H1 : (some 1) = some r := by rw [if_pos rfl] at H; exact H
        clear H
        have H := H1
        clear H1
        obtain rfl := Option.some.inj H
        go_wp2
        repeat (go_quiet (fail); try go_wp2)
        go_ret
        exact ⟨by first | rfl | (simp [errW_none, errW_some] <;> rfl) | (simp [*, errW_none, errW_some] <;> rfl), by repeat (first | (with_reducible first | exact HB.out | apply below_alloc | apply pw_below_drewN | apply below_drew1 | refine below_set ?_ GE203.out) | exact HB.out)⟩
      · replace c7 := Bool.eq_false_iff.mpr c7
        subst c7
        have H1 : (chalklineref14_Check.l0 kj1 0 a0_0 l0_1) = some r := by rw [if_neg (show ¬ (false = true) by decide)] at H; exact H
        clear H
        have H := H1
        clear H1
        have H' := Aside0.mk H
        clear H
        go_wp2
        repeat (go_quiet (fail); try go_wp2)
        go_loopg [3] kj1 (fun kq v3 w' => ∃ (x3_2 : Int), v3 = .int .i64 x3_2 ∧ Aside0 (chalklineref14_Check.l0 kq x3_2 a0_0 l0_1 = some r) ∧ Aside0 (kq ≤ kj1) ∧ Aside0 (w'.heap[gb203]? = some (.cells #[.int .i64 a0_0, (.slice A0_1 l0_1.length c0_1)] 24 (0, 0))) ∧ Aside0 (Below w.heap.size w w'))
        case atStart => exact ⟨(0), (by first | rfl | (simp; done) | (simp [*]; done)), H', ⟨Nat.le_refl _⟩, ⟨by (with_reducible repeat (first | refine blk_drewN ?_ _ | refine blk_drew ?_ | refine blk_alloc ?_ _)); exact BK203.out⟩, ⟨by repeat (first | (with_reducible first | exact HB.out | apply below_alloc | apply pw_below_drewN | apply below_drew1 | refine below_set ?_ GE203.out) | exact HB.out)⟩⟩
        case round =>
          clear H'
          try clear c2
          try clear p2
          try clear c4
          try clear c4b0
          try clear c7
          try clear hcz5_0
          try clear hcz5_1
          try clear hcz6_0
          try clear hcz6_1
          try clear hfz5_0
          try clear hfz5_1
          try clear hfz6_0
          try clear hfz6_1
          try clear p2
          obtain ⟨x3_2, rfl, HA, HK2, BK203, HB⟩ := hrel
          cases gk with
          | zero => exact absurd HA.out (by simp [chalklineref14_Check.l0])
          | succ k2 =>
            have H := HA.out
            clear HA
            simp only [chalklineref14_Check.l0] at H
            by_cases c8 : x3_2 < (l0_1.length : Int)
            · rw [if_pos c8] at H
              have c8b0 : decide (x3_2 < (l0_1.length : Int)) = true := decide_eq_true c8
              clear c8
              have H' := Aside0.mk H
              clear H
              have hcz9_0 : wr.cell? ⟨gb203, 0, none⟩ = some (.int .i64 a0_0) := (blk_cell BK203.out 0).trans rfl
              have hcz9_1 : wr.cell? ⟨gb203, 1, none⟩ = some (.slice A0_1 l0_1.length c0_1) := (blk_cell BK203.out 1).trans rfl
              have hfz9_0 := blk_frozen BK203.out 0
              have hfz9_1 := blk_frozen BK203.out 1
              go_wp2
              repeat (go_quiet (fail); try go_wp2)
              go_loopg [4] k2 (fun kq v4 w' => ∃ (x4_3 : Int), v4 = .int .i64 x4_3 ∧ Aside0 (chalklineref14_Check.l1 kq x3_2 x4_3 a0_0 l0_1 = some r) ∧ Aside0 (kq ≤ k2) ∧ Aside0 (w'.heap[gb203]? = some (.cells #[.int .i64 a0_0, (.slice A0_1 l0_1.length c0_1)] 24 (0, 0))) ∧ Aside0 (Below w.heap.size w w'))
              case atStart => exact ⟨(0), (by first | rfl | (simp; done) | (simp [*]; done)), H', ⟨Nat.le_refl _⟩, ⟨by (with_reducible repeat (first | refine blk_drewN ?_ _ | refine blk_drew ?_ | refine blk_alloc ?_ _)); exact BK203.out⟩, ⟨by repeat (first | (with_reducible first | exact HB.out | apply below_alloc | apply pw_below_drewN | apply below_drew1 | refine below_set ?_ GE203.out) | exact HB.out)⟩⟩
              case round =>
                clear H'
                try clear c2
                try clear p2
                try clear c4
                try clear c4b0
                try clear c7
                try clear c8
                try clear c8b0
                try clear hcz5_0
                try clear hcz5_1
                try clear hcz6_0
                try clear hcz6_1
                try clear hcz9_0
                try clear hcz9_1
                try clear hfz5_0
                try clear hfz5_1
                try clear hfz6_0
                try clear hfz6_1
                try clear hfz9_0
                try clear hfz9_1
                try clear p2
                obtain ⟨x4_3, rfl, HA, HK3, BK203, HB⟩ := hrel
                cases gk with
                | zero => exact absurd HA.out (by simp [chalklineref14_Check.l1])
                | succ k3 =>
                  have H := HA.out
                  clear HA
                  simp only [chalklineref14_Check.l1] at H
                  by_cases c10 : 0 ≤ x3_2
                  · rw [if_pos c10] at H
                    have c10b0 : decide (0 ≤ x3_2) = true := decide_eq_true c10
                    clear c10
                    by_cases c11 : x3_2 < (l0_1.length : Int)
                    · rw [if_pos c11] at H
                      have c11b0 : decide (x3_2 < (l0_1.length : Int)) = true := decide_eq_true c11
                      clear c11
                      by_cases c12 : x4_3 < ((rd_L1 l0_1 x3_2).length : Int)
                      · rw [if_pos c12] at H
                        have c12b0 : decide (x4_3 < ((rd_L1 l0_1 x3_2).length : Int)) = true := decide_eq_true c12
                        clear c12
                        by_cases c13 : 0 ≤ x4_3
                        · rw [if_pos c13] at H
                          have c13b0 : decide (0 ≤ x4_3) = true := decide_eq_true c13
                          clear c13
                          replace H := Option.bind_eq_some_iff.mp H
                          obtain ⟨t207, A140, H⟩ := H
                          replace H : (if t207 = true then (chalklineref14_Check.l1 k3 x3_2 (wrap64 (x4_3 + 1)) a0_0 l0_1) else (some 1)) = some r := H
                          have A14 := Aside0.mk A140
                          clear A140
                          by_cases c15 : t207 = true
                          · subst c15
                            have H1 : (chalklineref14_Check.l1 k3 x3_2 (wrap64 (x4_3 + 1)) a0_0 l0_1) = some r := by rw [if_pos rfl] at H; exact H
                            clear H
                            have H := H1
                            clear H1
                            have H' := Aside0.mk H
                            clear H
                            have hcz16_0 : wr.cell? ⟨gb203, 0, none⟩ = some (.int .i64 a0_0) := (blk_cell BK203.out 0).trans rfl
                            have hcz16_1 : wr.cell? ⟨gb203, 1, none⟩ = some (.slice A0_1 l0_1.length c0_1) := (blk_cell BK203.out 1).trans rfl
                            have hfz16_0 := blk_frozen BK203.out 0
                            have hfz16_1 := blk_frozen BK203.out 1
                            have p204 : 0 ≤ (x3_2 : Int) := of_decide_eq_true (by first | (with_reducible assumption) | assumption)
                            have q204 : x3_2 < (l0_1.length : Int) := of_decide_eq_true (by first | (with_reducible assumption) | assumption)
                            obtain ⟨ad204, A204_0, c204_0, e204, hx204_0, hl204_0, hi204_0⟩ := at_L1 HR0_1.out x3_2 p204 q204
                            cases e204
                            replace hx204_0 := (HB.out.cell (World.block_lt_of_cell? w _ hx204_0)).trans hx204_0
                            have HR204_0 := Aside0.mk hi204_0
                            have HC204_0 := Aside0.mk hl204_0
                            clear hi204_0 hl204_0
                            replace p204 := eq_true p204
                            replace q204 := eq_true q204
                            have p205 : 0 ≤ (x3_2 : Int) := of_decide_eq_true (by first | (with_reducible assumption) | assumption)
                            have q205 : x3_2 < (l0_1.length : Int) := of_decide_eq_true (by first | (with_reducible assumption) | assumption)
                            obtain ⟨ad205, A205_0, c205_0, e205, hx205_0, hl205_0, hi205_0⟩ := at_L1 HR0_1.out x3_2 p205 q205
                            obtain rfl : ad204 = ad205 := (by injection e205)
                            replace hx205_0 := (HB.out.cell (World.block_lt_of_cell? w _ hx205_0)).trans hx205_0
                            have HR205_0 := Aside0.mk hi205_0
                            have HC205_0 := Aside0.mk hl205_0
                            clear hi205_0 hl205_0
                            replace p205 := eq_true p205
                            replace q205 := eq_true q205
                            have ea_ := Option.some.inj (hx204_0.symm.trans hx205_0)
                            injection ea_ with ea_ en_ ec_
                            subst ea_
                            subst ec_
                            clear en_
                            have p206 : 0 ≤ (x4_3 : Int) := of_decide_eq_true (by first | (with_reducible assumption) | assumption)
                            have q206 : x4_3 < ((rd_L1 l0_1 x3_2).length : Int) := of_decide_eq_true (by first | (with_reducible assumption) | assumption)
                            obtain ⟨ad206, e206, hx206_0⟩ := Kd.at_int HR205_0.out x4_3 p206 q206
                            cases e206
                            replace hx206_0 := (HB.out.cell (World.block_lt_of_cell? w _ hx206_0)).trans hx206_0
                            replace p206 := eq_true p206
                            replace q206 := eq_true q206
                            go_wp2_with (first | (go_at_call 71; (with_reducible refine (chalklineref14_Is.calls (rd (rd_L1 l0_1 x3_2) x4_3) a0_0 true _ A14.out).mono ?_); rintro e w' ⟨rfl, ⟨nd, rfl⟩⟩; (try first | exact ⟨rfl, _, World.drewN_drewN _ _ _⟩ | exact ⟨rfl, _, Eq.trans (World.drewN_drewN _ _ _) (congrArg (World.drewN _) (Nat.add_assoc _ _ _))⟩)))
                            repeat (go_quiet (first | (go_at_call 71; (with_reducible refine (chalklineref14_Is.calls (rd (rd_L1 l0_1 x3_2) x4_3) a0_0 true _ A14.out).mono ?_); rintro e w' ⟨rfl, ⟨nd, rfl⟩⟩; (try first | exact ⟨rfl, _, World.drewN_drewN _ _ _⟩ | exact ⟨rfl, _, Eq.trans (World.drewN_drewN _ _ _) (congrArg (World.drewN _) (Nat.add_assoc _ _ _))⟩))); try go_wp2_with (first | (go_at_call 71; (with_reducible refine (chalklineref14_Is.calls (rd (rd_L1 l0_1 x3_2) x4_3) a0_0 true _ A14.out).mono ?_); rintro e w' ⟨rfl, ⟨nd, rfl⟩⟩; (try first | exact ⟨rfl, _, World.drewN_drewN _ _ _⟩ | exact ⟨rfl, _, Eq.trans (World.drewN_drewN _ _ _) (congrArg (World.drewN _) (Nat.add_assoc _ _ _))⟩))))
                            go_roundg k3
                            case measure => have := HJ1.out; have := HK2.out; have := HK3.out; omega
                            case rel => exact ⟨(wrap64 (x4_3 + 1)), (by first | rfl | (simp; done) | (simp [*]; done)), H', ⟨by have := HJ1.out; have := HK2.out; have := HK3.out; omega⟩, ⟨by (with_reducible repeat (first | refine blk_drewN ?_ _ | refine blk_drew ?_ | refine blk_alloc ?_ _)); exact BK203.out⟩, ⟨by repeat (first | (with_reducible first | exact HB.out | apply below_alloc | apply pw_below_drewN | apply below_drew1 | refine below_set ?_ GE203.out) | exact HB.out)⟩⟩
                          · replace c15 := Bool.eq_false_iff.mpr c15
                            subst c15
                            have H1 : (some 1) = some r := by rw [if_neg (show ¬ (false = true) by decide)] at H; exact H
                            clear H
                            have H := H1
                            clear H1
                            obtain rfl := Option.some.inj H
                            have hcz17_0 : wr.cell? ⟨gb203, 0, none⟩ = some (.int .i64 a0_0) := (blk_cell BK203.out 0).trans rfl
                            have hcz17_1 : wr.cell? ⟨gb203, 1, none⟩ = some (.slice A0_1 l0_1.length c0_1) := (blk_cell BK203.out 1).trans rfl
                            have hfz17_0 := blk_frozen BK203.out 0
                            have hfz17_1 := blk_frozen BK203.out 1
                            have p204 : 0 ≤ (x3_2 : Int) := of_decide_eq_true (by first | (with_reducible assumption) | assumption)
                            have q204 : x3_2 < (l0_1.length : Int) := of_decide_eq_true (by first | (with_reducible assumption) | assumption)
                            obtain ⟨ad204, A204_0, c204_0, e204, hx204_0, hl204_0, hi204_0⟩ := at_L1 HR0_1.out x3_2 p204 q204
                            cases e204
                            replace hx204_0 := (HB.out.cell (World.block_lt_of_cell? w _ hx204_0)).trans hx204_0
                            have HR204_0 := Aside0.mk hi204_0
                            have HC204_0 := Aside0.mk hl204_0
                            clear hi204_0 hl204_0
                            replace p204 := eq_true p204
                            replace q204 := eq_true q204
                            have p205 : 0 ≤ (x3_2 : Int) := of_decide_eq_true (by first | (with_reducible assumption) | assumption)
                            have q205 : x3_2 < (l0_1.length : Int) := of_decide_eq_true (by first | (with_reducible assumption) | assumption)
                            obtain ⟨ad205, A205_0, c205_0, e205, hx205_0, hl205_0, hi205_0⟩ := at_L1 HR0_1.out x3_2 p205 q205
                            obtain rfl : ad204 = ad205 := (by injection e205)
                            replace hx205_0 := (HB.out.cell (World.block_lt_of_cell? w _ hx205_0)).trans hx205_0
                            have HR205_0 := Aside0.mk hi205_0
                            have HC205_0 := Aside0.mk hl205_0
                            clear hi205_0 hl205_0
                            replace p205 := eq_true p205
                            replace q205 := eq_true q205
                            have ea_ := Option.some.inj (hx204_0.symm.trans hx205_0)
                            injection ea_ with ea_ en_ ec_
                            subst ea_
                            subst ec_
                            clear en_
                            have p206 : 0 ≤ (x4_3 : Int) := of_decide_eq_true (by first | (with_reducible assumption) | assumption)
                            have q206 : x4_3 < ((rd_L1 l0_1 x3_2).length : Int) := of_decide_eq_true (by first | (with_reducible assumption) | assumption)
                            obtain ⟨ad206, e206, hx206_0⟩ := Kd.at_int HR205_0.out x4_3 p206 q206
                            cases e206
                            replace hx206_0 := (HB.out.cell (World.block_lt_of_cell? w _ hx206_0)).trans hx206_0
                            replace p206 := eq_true p206
                            replace q206 := eq_true q206
                            go_wp2_with (first | (go_at_call 71; (with_reducible refine (chalklineref14_Is.calls (rd (rd_L1 l0_1 x3_2) x4_3) a0_0 false _ A14.out).mono ?_); rintro e w' ⟨rfl, ⟨nd, rfl⟩⟩; (try first | exact ⟨rfl, _, World.drewN_drewN _ _ _⟩ | exact ⟨rfl, _, Eq.trans (World.drewN_drewN _ _ _) (congrArg (World.drewN _) (Nat.add_assoc _ _ _))⟩)))
                            repeat (go_quiet (first | (go_at_call 71; (with_reducible refine (chalklineref14_Is.calls (rd (rd_L1 l0_1 x3_2) x4_3) a0_0 false _ A14.out).mono ?_); rintro e w' ⟨rfl, ⟨nd, rfl⟩⟩; (try first | exact ⟨rfl, _, World.drewN_drewN _ _ _⟩ | exact ⟨rfl, _, Eq.trans (World.drewN_drewN _ _ _) (congrArg (World.drewN _) (Nat.add_assoc _ _ _))⟩))); try go_wp2_with (first | (go_at_call 71; (with_reducible refine (chalklineref14_Is.calls (rd (rd_L1 l0_1 x3_2) x4_3) a0_0 false _ A14.out).mono ?_); rintro e w' ⟨rfl, ⟨nd, rfl⟩⟩; (try first | exact ⟨rfl, _, World.drewN_drewN _ _ _⟩ | exact ⟨rfl, _, Eq.trans (World.drewN_drewN _ _ _) (congrArg (World.drewN _) (Nat.add_assoc _ _ _))⟩))))
                            go_ret
                            exact ⟨by first | rfl | (simp [errW_none, errW_some] <;> rfl) | (simp [*, errW_none, errW_some] <;> rfl), by repeat (first | (with_reducible first | exact HB.out | apply below_alloc | apply pw_below_drewN | apply below_drew1 | refine below_set ?_ GE203.out) | exact HB.out)⟩
                        · rw [if_neg c13] at H
                          exact absurd H (by simp)
                      · rw [if_neg c12] at H
                        have c12b0 : decide (x4_3 < ((rd_L1 l0_1 x3_2).length : Int)) = false := decide_eq_false c12
                        clear c12
                        have H' := Aside0.mk H
                        clear H
                        have hcz18_0 : wr.cell? ⟨gb203, 0, none⟩ = some (.int .i64 a0_0) := (blk_cell BK203.out 0).trans rfl
                        have hcz18_1 : wr.cell? ⟨gb203, 1, none⟩ = some (.slice A0_1 l0_1.length c0_1) := (blk_cell BK203.out 1).trans rfl
                        have hfz18_0 := blk_frozen BK203.out 0
                        have hfz18_1 := blk_frozen BK203.out 1
                        have p204 : 0 ≤ (x3_2 : Int) := of_decide_eq_true (by first | (with_reducible assumption) | assumption)
                        have q204 : x3_2 < (l0_1.length : Int) := of_decide_eq_true (by first | (with_reducible assumption) | assumption)
                        obtain ⟨ad204, A204_0, c204_0, e204, hx204_0, hl204_0, hi204_0⟩ := at_L1 HR0_1.out x3_2 p204 q204
                        cases e204
                        replace hx204_0 := (HB.out.cell (World.block_lt_of_cell? w _ hx204_0)).trans hx204_0
                        have HR204_0 := Aside0.mk hi204_0
                        have HC204_0 := Aside0.mk hl204_0
                        clear hi204_0 hl204_0
                        replace p204 := eq_true p204
                        replace q204 := eq_true q204
                        go_wp2
                        repeat (go_quiet (fail); try go_wp2)
                        go_roundg k3
                        case measure => have := HJ1.out; have := HK2.out; have := HK3.out; omega
                        case rel => exact ⟨(wrap64 (x3_2 + 1)), (by first | rfl | (simp; done) | (simp [*]; done)), H', ⟨by have := HJ1.out; have := HK2.out; have := HK3.out; omega⟩, ⟨by (with_reducible repeat (first | refine blk_drewN ?_ _ | refine blk_drew ?_ | refine blk_alloc ?_ _)); exact BK203.out⟩, ⟨by repeat (first | (with_reducible first | exact HB.out | apply below_alloc | apply pw_below_drewN | apply below_drew1 | refine below_set ?_ GE203.out) | exact HB.out)⟩⟩
                    · rw [if_neg c11] at H
                      exact absurd H (by simp)
                  · rw [if_neg c10] at H
                    exact absurd H (by simp)
            · rw [if_neg c8] at H
              have c8b0 : decide (x3_2 < (l0_1.length : Int)) = false := decide_eq_false c8
              clear c8
              by_cases c19 : (l0_1.length : Int) > 65536
              · rw [if_pos c19] at H
                have c19b0 : decide (65536 < (l0_1.length : Int)) = true := decide_eq_true c19
                have c19b1 : decide (65536 < l0_1.length) = true := decide_eq_true (by omega)
                clear c19
                obtain rfl := Option.some.inj H
                have hcz20_0 : wr.cell? ⟨gb203, 0, none⟩ = some (.int .i64 a0_0) := (blk_cell BK203.out 0).trans rfl
                have hcz20_1 : wr.cell? ⟨gb203, 1, none⟩ = some (.slice A0_1 l0_1.length c0_1) := (blk_cell BK203.out 1).trans rfl
                have hfz20_0 := blk_frozen BK203.out 0
                have hfz20_1 := blk_frozen BK203.out 1
                go_wp2
                repeat (go_quiet (fail); try go_wp2)
                go_ret
                exact ⟨by first | rfl | (simp [errW_none, errW_some] <;> rfl) | (simp [*, errW_none, errW_some] <;> rfl), by repeat (first | (with_reducible first | exact HB.out | apply below_alloc | apply pw_below_drewN | apply below_drew1 | refine below_set ?_ GE203.out) | exact HB.out)⟩
              · rw [if_neg c19] at H
                have c19b0 : decide (65536 < (l0_1.length : Int)) = false := decide_eq_false c19
                have c19b1 : decide (65536 < l0_1.length) = false := decide_eq_false (by omega)
                clear c19
                obtain rfl := Option.some.inj H
                have hcz21_0 : wr.cell? ⟨gb203, 0, none⟩ = some (.int .i64 a0_0) := (blk_cell BK203.out 0).trans rfl
                have hcz21_1 : wr.cell? ⟨gb203, 1, none⟩ = some (.slice A0_1 l0_1.length c0_1) := (blk_cell BK203.out 1).trans rfl
                have hfz21_0 := blk_frozen BK203.out 0
                have hfz21_1 := blk_frozen BK203.out 1
                go_wp2
                repeat (go_quiet (fail); try go_wp2)
                go_ret
                exact ⟨by first | rfl | (simp [errW_none, errW_some] <;> rfl) | (simp [*, errW_none, errW_some] <;> rfl), by repeat (first | (with_reducible first | exact HB.out | apply below_alloc | apply pw_below_drewN | apply below_drew1 | refine below_set ?_ GE203.out) | exact HB.out)⟩

def chalklineref14_Lit.f (a0 : Int) (l1 : List Bool) : Option (Bool) := (chalklineref14_Is.f a0 65536).bind fun t214 => (if t214 = true then (if (mx a0 (wrap64 (-a0))) < (l1.length : Int) then (if 0 ≤ (mx a0 (wrap64 (-a0))) then (some ((rdOf false l1 (mx a0 (wrap64 (-a0)))) == (decide (a0 > 0)))) else (none)) else (some (false == (decide (a0 > 0))))) else (some false))
set_option maxHeartbeats 8000000 in
set_option maxRecDepth 100000 in
theorem chalklineref14_Lit.calls (a0 : Int) (A1 : Option Addr) (c1 : Nat) (l1 : List Bool) (r : Bool) (w : World) (hr1 : Kd.C Kd.bool w A1 l1.length l1) (hc1 : l1.length ≤ c1) (h : chalklineref14_Lit.f a0 l1 = some r) :
    Calls Tryz.prog 80 #[.int .i64 a0, .slice A1 l1.length c1] w fun e w' => e = .returned (.bool r) ∧ Below w.heap.size w w' := by
  have HR1 := Aside0.mk hr1
  have HC1 := Aside0.mk hc1
  clear hr1 hc1
  have HB := Aside0.mk (Below.refl w.heap.size w)
  have H : ((chalklineref14_Is.f a0 65536).bind fun t214 => (if t214 = true then (if (mx a0 (wrap64 (-a0))) < (l1.length : Int) then (if 0 ≤ (mx a0 (wrap64 (-a0))) then (some ((rdOf false l1 (mx a0 (wrap64 (-a0)))) == (decide (a0 > 0)))) else (none)) else (some (false == (decide (a0 > 0))))) else (some false))) = some r := h
  clear h
  replace H := Option.bind_eq_some_iff.mp H
  obtain ⟨t214, A30, H⟩ := H
  replace H : (if t214 = true then (if (mx a0 (wrap64 (-a0))) < (l1.length : Int) then (if 0 ≤ (mx a0 (wrap64 (-a0))) then (some ((rdOf false l1 (mx a0 (wrap64 (-a0)))) == (decide (a0 > 0)))) else (none)) else (some (false == (decide (a0 > 0))))) else (some false)) = some r := H
  have A3 := Aside0.mk A30
  clear A30
  by_cases c4 : t214 = true
  · subst c4
    have H1 : (if (mx a0 (wrap64 (-a0))) < (l1.length : Int) then (if 0 ≤ (mx a0 (wrap64 (-a0))) then (some ((rdOf false l1 (mx a0 (wrap64 (-a0)))) == (decide (a0 > 0)))) else (none)) else (some (false == (decide (a0 > 0))))) = some r := by rw [if_pos rfl] at H; exact H
    clear H
    have H := H1
    clear H1
    obtain ⟨ji5, hji5⟩ : ∃ j_ : Int, (mx a0 (wrap64 (-a0))) = j_ := ⟨_, rfl⟩
    replace H : (if (ji5) < (l1.length : Int) then (if 0 ≤ (ji5) then (some ((rdOf false l1 (ji5)) == (decide (a0 > 0)))) else (none)) else (some (false == (decide (a0 > 0))))) = some r := by first | (rw [hji5] at H; exact H) | (simp only [hji5] at H ⊢; exact H)
    (try rw [hji5] at A3)
    have hji5_ : (if a0 < (wrap64 (-a0)) then (wrap64 (-a0)) else a0) = ji5 := hji5
    by_cases c6 : (ji5) < (l1.length : Int)
    · rw [if_pos c6] at H
      have c6b0 : decide ((ji5) < (l1.length : Int)) = true := decide_eq_true c6
      clear c6
      by_cases c7 : 0 ≤ (ji5)
      · rw [if_pos c7] at H
        have c7b0 : decide (0 ≤ (ji5)) = true := decide_eq_true c7
        clear c7
        obtain rfl := Option.some.inj H
        go_enter Tryz.func80, Tryz.ntmps80
        go_wp2_with (first | ((with_reducible refine gate_callee (f := 71) rfl ?_); refine goesL_ (some 8) rfl rfl Tryz.func71 (by kernel_rfl) rfl #[.int .i64 a0, .int .i64 65536] rfl (by (try simp only [List.map_toArray, List.map_cons, List.map_nil]); first | done | rfl | (simp only [List.length_drop, List.length_take]; rfl)) ?_; (with_reducible refine (chalklineref14_Is.calls a0 65536 true _ A3.out).mono ?_); rintro e w' ⟨rfl, ⟨nd, rfl⟩⟩; refine ⟨_, rfl, ?_⟩; have p215 : 0 ≤ ((ji5) : Int) := of_decide_eq_true (by first | (with_reducible assumption) | assumption); have q215 : (ji5) < (l1.length : Int) := of_decide_eq_true (by first | (with_reducible assumption) | assumption); obtain ⟨ad215, e215, hx215_0⟩ := Kd.at_bool HR1.out (ji5) p215 q215; cases e215; replace p215 := eq_true p215; replace q215 := eq_true q215))
        go_ret
        exact ⟨by first | rfl | (simp [errW_none, errW_some] <;> rfl) | (simp only [← hji5]; first | rfl | (simp [errW_none, errW_some] <;> rfl)) | (simp [*, errW_none, errW_some] <;> rfl), by repeat (first | (with_reducible first | exact HB.out | apply below_alloc | apply pw_below_drewN | apply below_drew1) | exact HB.out)⟩
      · rw [if_neg c7] at H
        exact absurd H (by simp)
    · rw [if_neg c6] at H
      have c6b0 : decide ((ji5) < (l1.length : Int)) = false := decide_eq_false c6
      clear c6
      obtain rfl := Option.some.inj H
      go_enter Tryz.func80, Tryz.ntmps80
      go_wp2_with (first | ((with_reducible refine gate_callee (f := 71) rfl ?_); refine goesL_ (some 8) rfl rfl Tryz.func71 (by kernel_rfl) rfl #[.int .i64 a0, .int .i64 65536] rfl (by (try simp only [List.map_toArray, List.map_cons, List.map_nil]); first | done | rfl | (simp only [List.length_drop, List.length_take]; rfl)) ?_; (with_reducible refine (chalklineref14_Is.calls a0 65536 true _ A3.out).mono ?_); rintro e w' ⟨rfl, ⟨nd, rfl⟩⟩; refine ⟨_, rfl, ?_⟩))
      go_ret
      exact ⟨by first | rfl | (simp [errW_none, errW_some] <;> rfl) | (simp only [← hji5]; first | rfl | (simp [errW_none, errW_some] <;> rfl)) | (simp [*, errW_none, errW_some] <;> rfl), by repeat (first | (with_reducible first | exact HB.out | apply below_alloc | apply pw_below_drewN | apply below_drew1) | exact HB.out)⟩
  · replace c4 := Bool.eq_false_iff.mpr c4
    subst c4
    have H1 : (some false) = some r := by rw [if_neg (show ¬ (false = true) by decide)] at H; exact H
    clear H
    have H := H1
    clear H1
    obtain rfl := Option.some.inj H
    go_enter Tryz.func80, Tryz.ntmps80
    go_wp2_with (first | ((with_reducible refine gate_callee (f := 71) rfl ?_); refine goesL_ (some 8) rfl rfl Tryz.func71 (by kernel_rfl) rfl #[.int .i64 a0, .int .i64 65536] rfl (by (try simp only [List.map_toArray, List.map_cons, List.map_nil]); first | done | rfl | (simp only [List.length_drop, List.length_take]; rfl)) ?_; (with_reducible refine (chalklineref14_Is.calls a0 65536 false _ A3.out).mono ?_); rintro e w' ⟨rfl, ⟨nd, rfl⟩⟩; refine ⟨_, rfl, ?_⟩))
    go_ret
    exact ⟨by first | rfl | (simp [errW_none, errW_some] <;> rfl) | (simp [*, errW_none, errW_some] <;> rfl), by repeat (first | (with_reducible first | exact HB.out | apply below_alloc | apply pw_below_drewN | apply below_drew1) | exact HB.out)⟩

def chalklineref14_Holds.l0 : Nat → List Int → List Bool → Int → Option (Bool)
  | 0, _, _, _ => none
  | k + 1, x0, x1, x5 => if x5 < (x0.length : Int) then (if 0 ≤ x5 then ((chalklineref14_Lit.f (rd x0 x5) x1).bind fun t217 => (if t217 = true then (some true) else (chalklineref14_Holds.l0 k x0 x1 (wrap64 (x5 + 1))))) else (none)) else (some false)
def chalklineref14_Holds.f (k : Nat) (l0 : List Int) (l1 : List Bool) : Option (Bool) := chalklineref14_Holds.l0 k l0 l1 0
theorem chalklineref14_Holds.mono_l : ∀ k, (∀ y0 y1 y2, LeO (chalklineref14_Holds.l0 k y0 y1 y2) (chalklineref14_Holds.l0 (k + 1) y0 y1 y2))
  | 0 => fun _ _ _ r h => by simp [chalklineref14_Holds.l0] at h
  | k + 1 => by
    have ih0 := chalklineref14_Holds.mono_l k
    · intro y0 y1 y2
      unfold chalklineref14_Holds.l0
      repeat' first
      | (with_reducible exact ih0 _ _ _)
      | (with_reducible exact LeO.refl _)
      | (with_reducible exact LeO.none _)
      | (with_reducible refine LeO.ite ?_ ?_)
      | (with_reducible refine LeO.bind ?_ (fun _ => ?_))
      | exact ih0 _ _ _
      | exact LeO.none _
      | refine LeO.ite ?_ ?_
      | refine LeO.bind ?_ (fun _ => ?_)
theorem chalklineref14_Holds.mono : ∀ a0 a1 k, LeO (chalklineref14_Holds.f k a0 a1) (chalklineref14_Holds.f (k + 1) a0 a1) := by
  intro a0 a1 k
  have ih0 := chalklineref14_Holds.mono_l k
  unfold chalklineref14_Holds.f
  repeat' first
      | (with_reducible exact ih0 _ _ _)
      | (with_reducible exact LeO.refl _)
      | (with_reducible exact LeO.none _)
      | (with_reducible refine LeO.ite ?_ ?_)
      | (with_reducible refine LeO.bind ?_ (fun _ => ?_))
      | exact ih0 _ _ _
      | exact LeO.none _
      | refine LeO.ite ?_ ?_
      | refine LeO.bind ?_ (fun _ => ?_)
set_option maxHeartbeats 8000000 in
set_option maxRecDepth 100000 in
theorem chalklineref14_Holds.calls (k : Nat) (A0 : Option Addr) (c0 : Nat) (l0 : List Int) (A1 : Option Addr) (c1 : Nat) (l1 : List Bool) (r : Bool) (w : World) (hr0 : Kd.C (Kd.int .i64) w A0 l0.length l0) (hc0 : l0.length ≤ c0) (hr1 : Kd.C Kd.bool w A1 l1.length l1) (hc1 : l1.length ≤ c1) (h : chalklineref14_Holds.f k l0 l1 = some r) :
    Calls Tryz.prog 31 #[.slice A0 l0.length c0, .slice A1 l1.length c1] w fun e w' => e = .returned (.bool r) ∧ Below w.heap.size w w' := by
  have HR0 := Aside0.mk hr0
  have HC0 := Aside0.mk hc0
  clear hr0 hc0
  have HR1 := Aside0.mk hr1
  have HC1 := Aside0.mk hc1
  clear hr1 hc1
  have HB := Aside0.mk (Below.refl w.heap.size w)
  have H : (chalklineref14_Holds.l0 k l0 l1 0) = some r := h
  clear h
  have H' := Aside0.mk H
  clear H
  go_enter Tryz.func31, Tryz.ntmps31
  go_wp2
  go_loopg [5] k (fun kq v5 w' => ∃ (x5_1 : Int), v5 = .int .i64 x5_1 ∧ Aside0 (chalklineref14_Holds.l0 kq l0 l1 x5_1 = some r) ∧ Aside0 (kq ≤ k) ∧ Aside0 (Below w.heap.size w w'))
  case atStart => exact ⟨(0), (by first | rfl | (simp; done) | (simp [*]; done)), H', ⟨Nat.le_refl _⟩, ⟨by repeat (first | (with_reducible first | exact HB.out | apply below_alloc | apply pw_below_drewN | apply below_drew1) | exact HB.out)⟩⟩
  case round =>
    clear H'
    try clear c1
    try clear p2
    obtain ⟨x5_1, rfl, HA, HK1, HB⟩ := hrel
    cases gk with
    | zero => exact absurd HA.out (by simp [chalklineref14_Holds.l0])
    | succ k1 =>
      have H := HA.out
      clear HA
      simp only [chalklineref14_Holds.l0] at H
      by_cases c3 : x5_1 < (l0.length : Int)
      · rw [if_pos c3] at H
        have c3b0 : decide (x5_1 < (l0.length : Int)) = true := decide_eq_true c3
        clear c3
        by_cases c4 : 0 ≤ x5_1
        · rw [if_pos c4] at H
          have c4b0 : decide (0 ≤ x5_1) = true := decide_eq_true c4
          clear c4
          replace H := Option.bind_eq_some_iff.mp H
          obtain ⟨t217, A50, H⟩ := H
          replace H : (if t217 = true then (some true) else (chalklineref14_Holds.l0 k1 l0 l1 (wrap64 (x5_1 + 1)))) = some r := H
          have A5 := Aside0.mk A50
          clear A50
          by_cases c6 : t217 = true
          · subst c6
            have H1 : (some true) = some r := by rw [if_pos rfl] at H; exact H
            clear H
            have H := H1
            clear H1
            obtain rfl := Option.some.inj H
            have p216 : 0 ≤ (x5_1 : Int) := of_decide_eq_true (by first | (with_reducible assumption) | assumption)
            have q216 : x5_1 < (l0.length : Int) := of_decide_eq_true (by first | (with_reducible assumption) | assumption)
            obtain ⟨ad216, e216, hx216_0⟩ := Kd.at_int HR0.out x5_1 p216 q216
            cases e216
            replace hx216_0 := (HB.out.cell (World.block_lt_of_cell? w _ hx216_0)).trans hx216_0
            replace p216 := eq_true p216
            replace q216 := eq_true q216
            go_wp2_with (first | ((with_reducible refine gate_callee (f := 80) rfl ?_); refine goesL_ (some 17) rfl rfl Tryz.func80 (by kernel_rfl) rfl #[.int .i64 (rd l0 x5_1), .slice A1 l1.length c1] rfl (by (try simp only [List.map_toArray, List.map_cons, List.map_nil]); first | done | rfl | (simp only [List.length_drop, List.length_take]; rfl)) ?_; (with_reducible refine (chalklineref14_Lit.calls (rd l0 x5_1) _ _ l1 true _ ?side1 ?side2 A5.out).mono ?_); (case side1 => repeat (first | exact (Kd.C_below HR1.out HB.out) | (with_reducible refine Kd.C_alloc ?_ _) | (with_reducible refine Kd.C_drewN ?_ _) | (with_reducible refine Kd.C_drew ?_))); (case side2 => exact HC1.out); rintro e w7 ⟨rfl, hb⟩; refine ⟨_, rfl, ?_⟩; have n0_ := Aside0.mk (below_step (by repeat (first | (with_reducible first | exact HB.out | apply below_alloc | apply pw_below_drewN | apply below_drew1) | exact HB.out)) hb); clear HB; have HB := n0_; clear n0_; (try clear hb); (try clear hb2); (try clear hk); (try clear hi)))
            go_ret
            exact ⟨by first | rfl | (simp [errW_none, errW_some] <;> rfl) | (simp [*, errW_none, errW_some] <;> rfl), by repeat (first | (with_reducible first | exact HB.out | apply below_alloc | apply pw_below_drewN | apply below_drew1) | exact HB.out)⟩
          · replace c6 := Bool.eq_false_iff.mpr c6
            subst c6
            have H1 : (chalklineref14_Holds.l0 k1 l0 l1 (wrap64 (x5_1 + 1))) = some r := by rw [if_neg (show ¬ (false = true) by decide)] at H; exact H
            clear H
            have H := H1
            clear H1
            have H' := Aside0.mk H
            clear H
            have p216 : 0 ≤ (x5_1 : Int) := of_decide_eq_true (by first | (with_reducible assumption) | assumption)
            have q216 : x5_1 < (l0.length : Int) := of_decide_eq_true (by first | (with_reducible assumption) | assumption)
            obtain ⟨ad216, e216, hx216_0⟩ := Kd.at_int HR0.out x5_1 p216 q216
            cases e216
            replace hx216_0 := (HB.out.cell (World.block_lt_of_cell? w _ hx216_0)).trans hx216_0
            replace p216 := eq_true p216
            replace q216 := eq_true q216
            go_wp2_with (first | ((with_reducible refine gate_callee (f := 80) rfl ?_); refine goesL_ (some 17) rfl rfl Tryz.func80 (by kernel_rfl) rfl #[.int .i64 (rd l0 x5_1), .slice A1 l1.length c1] rfl (by (try simp only [List.map_toArray, List.map_cons, List.map_nil]); first | done | rfl | (simp only [List.length_drop, List.length_take]; rfl)) ?_; (with_reducible refine (chalklineref14_Lit.calls (rd l0 x5_1) _ _ l1 false _ ?side1 ?side2 A5.out).mono ?_); (case side1 => repeat (first | exact (Kd.C_below HR1.out HB.out) | (with_reducible refine Kd.C_alloc ?_ _) | (with_reducible refine Kd.C_drewN ?_ _) | (with_reducible refine Kd.C_drew ?_))); (case side2 => exact HC1.out); rintro e w8 ⟨rfl, hb⟩; refine ⟨_, rfl, ?_⟩; have n0_ := Aside0.mk (below_step (by repeat (first | (with_reducible first | exact HB.out | apply below_alloc | apply pw_below_drewN | apply below_drew1) | exact HB.out)) hb); clear HB; have HB := n0_; clear n0_; (try clear hb); (try clear hb2); (try clear hk); (try clear hi)))
            go_roundg k1
            case measure => have := HK1.out; omega
            case rel => exact ⟨(wrap64 (x5_1 + 1)), (by first | rfl | (simp; done) | (simp [*]; done)), H', ⟨by have := HK1.out; omega⟩, ⟨by repeat (first | (with_reducible first | exact HB.out | apply below_alloc | apply pw_below_drewN | apply below_drew1) | exact HB.out)⟩⟩
        · rw [if_neg c4] at H
          exact absurd H (by simp)
      · rw [if_neg c3] at H
        have c3b0 : decide (x5_1 < (l0.length : Int)) = false := decide_eq_false c3
        clear c3
        obtain rfl := Option.some.inj H
        go_wp2
        go_ret
        exact ⟨by first | rfl | (simp [errW_none, errW_some] <;> rfl) | (simp [*, errW_none, errW_some] <;> rfl), by repeat (first | (with_reducible first | exact HB.out | apply below_alloc | apply pw_below_drewN | apply below_drew1) | exact HB.out)⟩

def chalklineref14_Value.l0 : Nat → List Bool → Int → Int → List (List Int) → Option (Bool)
  | 0, _, _, _, _ => none
  | k + 1, x1, x5, x219000, x219001 => if x5 < (x219001.length : Int) then (if 0 ≤ x5 then ((chalklineref14_Holds.f k (rd_L1 x219001 x5) x1).bind fun t220 => (if t220 = true then (chalklineref14_Value.l0 k x1 (wrap64 (x5 + 1)) x219000 x219001) else (some false))) else (none)) else ((chalklineref14_Check.f k x219000 x219001).bind fun t221 => (some (t221 == 0)))
def chalklineref14_Value.f (k : Nat) (a0_0 : Int) (l0_1 : List (List Int)) (l1 : List Bool) : Option (Bool) := chalklineref14_Value.l0 k l1 0 a0_0 l0_1
theorem chalklineref14_Value.mono_l : ∀ k, (∀ y0 y1 y2 y3, LeO (chalklineref14_Value.l0 k y0 y1 y2 y3) (chalklineref14_Value.l0 (k + 1) y0 y1 y2 y3))
  | 0 => fun _ _ _ _ r h => by simp [chalklineref14_Value.l0] at h
  | k + 1 => by
    have ih0 := chalklineref14_Value.mono_l k
    · intro y0 y1 y2 y3
      unfold chalklineref14_Value.l0
      repeat' first
      | (with_reducible exact ih0 _ _ _ _)
      | (with_reducible exact chalklineref14_Check.mono _ _ _)
      | (with_reducible exact chalklineref14_Holds.mono _ _ _)
      | (with_reducible exact LeO.refl _)
      | (with_reducible exact LeO.none _)
      | (with_reducible refine LeO.ite ?_ ?_)
      | (with_reducible refine LeO.bind ?_ (fun _ => ?_))
      | exact ih0 _ _ _ _
      | exact chalklineref14_Check.mono _ _ _
      | exact chalklineref14_Holds.mono _ _ _
      | exact LeO.none _
      | refine LeO.ite ?_ ?_
      | refine LeO.bind ?_ (fun _ => ?_)
theorem chalklineref14_Value.mono : ∀ a0 a1 a2 k, LeO (chalklineref14_Value.f k a0 a1 a2) (chalklineref14_Value.f (k + 1) a0 a1 a2) := by
  intro a0 a1 a2 k
  have ih0 := chalklineref14_Value.mono_l k
  unfold chalklineref14_Value.f
  repeat' first
      | (with_reducible exact ih0 _ _ _ _)
      | (with_reducible exact chalklineref14_Check.mono _ _ _)
      | (with_reducible exact chalklineref14_Holds.mono _ _ _)
      | (with_reducible exact LeO.refl _)
      | (with_reducible exact LeO.none _)
      | (with_reducible refine LeO.ite ?_ ?_)
      | (with_reducible refine LeO.bind ?_ (fun _ => ?_))
      | exact ih0 _ _ _ _
      | exact chalklineref14_Check.mono _ _ _
      | exact chalklineref14_Holds.mono _ _ _
      | exact LeO.none _
      | refine LeO.ite ?_ ?_
      | refine LeO.bind ?_ (fun _ => ?_)
set_option maxHeartbeats 8000000 in
set_option maxRecDepth 100000 in
theorem chalklineref14_Value.calls (k : Nat) (a0_0 : Int) (A0_1 : Option Addr) (c0_1 : Nat) (l0_1 : List (List Int)) (A1 : Option Addr) (c1 : Nat) (l1 : List Bool) (r : Bool) (w : World) (hr0_1 : Kd.C (Kd.slice 3 (Kd.int .i64)) w A0_1 l0_1.length l0_1) (hc0_1 : l0_1.length ≤ c0_1) (hr1 : Kd.C Kd.bool w A1 l1.length l1) (hc1 : l1.length ≤ c1) (h : chalklineref14_Value.f k a0_0 l0_1 l1 = some r) :
    Calls Tryz.prog 33 #[.agg #[.int .i64 a0_0, .slice A0_1 l0_1.length c0_1], .slice A1 l1.length c1] w fun e w' => e = .returned (.bool r) ∧ Below w.heap.size w w' := by
  have hu24 := Tryz.underlying24
  have HR0_1 := Aside0.mk hr0_1
  have HC0_1 := Aside0.mk hc0_1
  clear hr0_1 hc0_1
  have HR1 := Aside0.mk hr1
  have HC1 := Aside0.mk hc1
  clear hr1 hc1
  have HB := Aside0.mk (Below.refl w.heap.size w)
  have H : (chalklineref14_Value.l0 k l1 0 a0_0 l0_1) = some r := h
  clear h
  have H' := Aside0.mk H
  clear H
  go_enter Tryz.func33, Tryz.ntmps33
  go_wp2_with (first | ((with_reducible refine gate_dst (N := 2) rfl ?_); refine box_event ?hg (N := 2) ?hd (cs := #[.int .i64 a0_0, .slice A0_1 l0_1.length c0_1]) (t := 24) ?hr ?_; (case hd => rfl); (case hg => rfl); (case hr => first | (go_simp; done) | (go_simp; rfl)); intro gb218 hg w3 hbox hb; have n0_ := Aside0.mk (below_step (by repeat (first | (with_reducible first | exact HB.out | apply below_alloc | apply pw_below_drewN | apply below_drew1) | exact HB.out)) hb); have n1_ := Aside0.mk (hbox); have n2_ := Aside0.mk ((by rw [hg]; exact (below_size (by repeat (first | (with_reducible first | exact HB.out | apply below_alloc | apply pw_below_drewN | apply below_drew1) | exact HB.out))) : w.heap.size ≤ gb218)); have n3_ := Aside0.mk ((by rw [hg]; exact (below_size (by repeat (first | (with_reducible first | exact HB.out | apply below_alloc | apply pw_below_drewN | apply below_drew1) | exact HB.out))) : w.heap.size ≤ gb218)); clear HB; have HB := n0_; have BK218 := n1_; have GW218 := n2_; have GE218 := n3_; clear n0_ n1_ n2_ n3_; clear hb hbox hg))
  go_loopg [5] k (fun kq v5 w' => ∃ (x5_1 : Int), v5 = .int .i64 x5_1 ∧ Aside0 (chalklineref14_Value.l0 kq l1 x5_1 a0_0 l0_1 = some r) ∧ Aside0 (kq ≤ k) ∧ Aside0 (w'.heap[gb218]? = some (.cells #[.int .i64 a0_0, (.slice A0_1 l0_1.length c0_1)] 24 (0, 0))) ∧ Aside0 (Below w.heap.size w w'))
  case atStart => exact ⟨(0), (by first | rfl | (simp; done) | (simp [*]; done)), H', ⟨Nat.le_refl _⟩, ⟨by (with_reducible repeat (first | refine blk_drewN ?_ _ | refine blk_drew ?_ | refine blk_alloc ?_ _)); exact BK218.out⟩, ⟨by repeat (first | (with_reducible first | exact HB.out | apply below_alloc | apply pw_below_drewN | apply below_drew1 | refine below_set ?_ GE218.out) | exact HB.out)⟩⟩
  case round =>
    clear H'
    try clear c1
    try clear p2
    try clear c3
    obtain ⟨x5_1, rfl, HA, HK1, BK218, HB⟩ := hrel
    cases gk with
    | zero => exact absurd HA.out (by simp [chalklineref14_Value.l0])
    | succ k1 =>
      have H := HA.out
      clear HA
      simp only [chalklineref14_Value.l0] at H
      by_cases c4 : x5_1 < (l0_1.length : Int)
      · rw [if_pos c4] at H
        have c4b0 : decide (x5_1 < (l0_1.length : Int)) = true := decide_eq_true c4
        clear c4
        by_cases c5 : 0 ≤ x5_1
        · rw [if_pos c5] at H
          have c5b0 : decide (0 ≤ x5_1) = true := decide_eq_true c5
          clear c5
          replace H := Option.bind_eq_some_iff.mp H
          obtain ⟨t220, A60, H⟩ := H
          replace H : (if t220 = true then (chalklineref14_Value.l0 k1 l1 (wrap64 (x5_1 + 1)) a0_0 l0_1) else (some false)) = some r := H
          have A6 := Aside0.mk A60
          clear A60
          by_cases c7 : t220 = true
          · subst c7
            have H1 : (chalklineref14_Value.l0 k1 l1 (wrap64 (x5_1 + 1)) a0_0 l0_1) = some r := by rw [if_pos rfl] at H; exact H
            clear H
            have H := H1
            clear H1
            have H' := Aside0.mk H
            clear H
            have hcz8_0 : wr.cell? ⟨gb218, 0, none⟩ = some (.int .i64 a0_0) := (blk_cell BK218.out 0).trans rfl
            have hcz8_1 : wr.cell? ⟨gb218, 1, none⟩ = some (.slice A0_1 l0_1.length c0_1) := (blk_cell BK218.out 1).trans rfl
            have hfz8_0 := blk_frozen BK218.out 0
            have hfz8_1 := blk_frozen BK218.out 1
            have p219 : 0 ≤ (x5_1 : Int) := of_decide_eq_true (by first | (with_reducible assumption) | assumption)
            have q219 : x5_1 < (l0_1.length : Int) := of_decide_eq_true (by first | (with_reducible assumption) | assumption)
            obtain ⟨ad219, A219_0, c219_0, e219, hx219_0, hl219_0, hi219_0⟩ := at_L1 HR0_1.out x5_1 p219 q219
            cases e219
            replace hx219_0 := (HB.out.cell (World.block_lt_of_cell? w _ hx219_0)).trans hx219_0
            have HR219_0 := Aside0.mk hi219_0
            have HC219_0 := Aside0.mk hl219_0
            clear hi219_0 hl219_0
            replace p219 := eq_true p219
            replace q219 := eq_true q219
            go_wp2_with (first | ((with_reducible refine gate_callee (f := 31) rfl ?_); refine goesL_ (some 19) rfl rfl Tryz.func31 (by kernel_rfl) rfl #[.slice A219_0 (rd_L1 l0_1 x5_1).length c219_0, .slice A1 l1.length c1] rfl (by (try simp only [List.map_toArray, List.map_cons, List.map_nil]); first | done | rfl | (simp only [List.length_drop, List.length_take]; rfl)) ?_; (with_reducible refine (chalklineref14_Holds.calls k1 _ _ (rd_L1 l0_1 x5_1) _ _ l1 true _ ?side1 ?side2 ?side3 ?side4 A6.out).mono ?_); (case side1 => repeat (first | exact (Kd.C_below HR219_0.out HB.out) | (with_reducible refine Kd.C_alloc ?_ _) | (with_reducible refine Kd.C_drewN ?_ _) | (with_reducible refine Kd.C_drew ?_))); (case side2 => exact HC219_0.out); (case side3 => repeat (first | exact (Kd.C_below HR1.out HB.out) | (with_reducible refine Kd.C_alloc ?_ _) | (with_reducible refine Kd.C_drewN ?_ _) | (with_reducible refine Kd.C_drew ?_))); (case side4 => exact HC1.out); rintro e w9 ⟨rfl, hb⟩; refine ⟨_, rfl, ?_⟩; have n0_ := Aside0.mk (blk_below (g := gb218) (o := .cells #[.int .i64 a0_0, .slice (some ad219) l0_1.length c0_1] 24 (0, 0)) (by (with_reducible repeat (first | refine blk_drewN ?_ _ | refine blk_drew ?_ | refine blk_alloc ?_ _)); exact BK218.out) hb); have n1_ := Aside0.mk (below_step (by repeat (first | (with_reducible first | exact HB.out | apply below_alloc | apply pw_below_drewN | apply below_drew1 | refine below_set ?_ GE218.out) | exact HB.out)) hb); clear BK218; clear HB; have BK218 := n0_; have HB := n1_; clear n0_ n1_; (try clear hb); (try clear hb2); (try clear hk); (try clear hi)))
            go_roundg k1
            case measure => have := HK1.out; omega
            case rel => exact ⟨(wrap64 (x5_1 + 1)), (by first | rfl | (simp; done) | (simp [*]; done)), H', ⟨by have := HK1.out; omega⟩, ⟨by (with_reducible repeat (first | refine blk_drewN ?_ _ | refine blk_drew ?_ | refine blk_alloc ?_ _)); exact BK218.out⟩, ⟨by repeat (first | (with_reducible first | exact HB.out | apply below_alloc | apply pw_below_drewN | apply below_drew1 | refine below_set ?_ GE218.out) | exact HB.out)⟩⟩
          · replace c7 := Bool.eq_false_iff.mpr c7
            subst c7
            have H1 : (some false) = some r := by rw [if_neg (show ¬ (false = true) by decide)] at H; exact H
            clear H
            have H := H1
            clear H1
            obtain rfl := Option.some.inj H
            have hcz10_0 : wr.cell? ⟨gb218, 0, none⟩ = some (.int .i64 a0_0) := (blk_cell BK218.out 0).trans rfl
            have hcz10_1 : wr.cell? ⟨gb218, 1, none⟩ = some (.slice A0_1 l0_1.length c0_1) := (blk_cell BK218.out 1).trans rfl
            have hfz10_0 := blk_frozen BK218.out 0
            have hfz10_1 := blk_frozen BK218.out 1
            have p219 : 0 ≤ (x5_1 : Int) := of_decide_eq_true (by first | (with_reducible assumption) | assumption)
            have q219 : x5_1 < (l0_1.length : Int) := of_decide_eq_true (by first | (with_reducible assumption) | assumption)
            obtain ⟨ad219, A219_0, c219_0, e219, hx219_0, hl219_0, hi219_0⟩ := at_L1 HR0_1.out x5_1 p219 q219
            cases e219
            replace hx219_0 := (HB.out.cell (World.block_lt_of_cell? w _ hx219_0)).trans hx219_0
            have HR219_0 := Aside0.mk hi219_0
            have HC219_0 := Aside0.mk hl219_0
            clear hi219_0 hl219_0
            replace p219 := eq_true p219
            replace q219 := eq_true q219
            go_wp2_with (first | ((with_reducible refine gate_callee (f := 31) rfl ?_); refine goesL_ (some 19) rfl rfl Tryz.func31 (by kernel_rfl) rfl #[.slice A219_0 (rd_L1 l0_1 x5_1).length c219_0, .slice A1 l1.length c1] rfl (by (try simp only [List.map_toArray, List.map_cons, List.map_nil]); first | done | rfl | (simp only [List.length_drop, List.length_take]; rfl)) ?_; (with_reducible refine (chalklineref14_Holds.calls k1 _ _ (rd_L1 l0_1 x5_1) _ _ l1 false _ ?side1 ?side2 ?side3 ?side4 A6.out).mono ?_); (case side1 => repeat (first | exact (Kd.C_below HR219_0.out HB.out) | (with_reducible refine Kd.C_alloc ?_ _) | (with_reducible refine Kd.C_drewN ?_ _) | (with_reducible refine Kd.C_drew ?_))); (case side2 => exact HC219_0.out); (case side3 => repeat (first | exact (Kd.C_below HR1.out HB.out) | (with_reducible refine Kd.C_alloc ?_ _) | (with_reducible refine Kd.C_drewN ?_ _) | (with_reducible refine Kd.C_drew ?_))); (case side4 => exact HC1.out); rintro e w11 ⟨rfl, hb⟩; refine ⟨_, rfl, ?_⟩; have n0_ := Aside0.mk (blk_below (g := gb218) (o := .cells #[.int .i64 a0_0, .slice (some ad219) l0_1.length c0_1] 24 (0, 0)) (by (with_reducible repeat (first | refine blk_drewN ?_ _ | refine blk_drew ?_ | refine blk_alloc ?_ _)); exact BK218.out) hb); have n1_ := Aside0.mk (below_step (by repeat (first | (with_reducible first | exact HB.out | apply below_alloc | apply pw_below_drewN | apply below_drew1 | refine below_set ?_ GE218.out) | exact HB.out)) hb); clear BK218; clear HB; have BK218 := n0_; have HB := n1_; clear n0_ n1_; (try clear hb); (try clear hb2); (try clear hk); (try clear hi)))
            go_ret
            exact ⟨by first | rfl | (simp [errW_none, errW_some] <;> rfl) | (simp [*, errW_none, errW_some] <;> rfl), by repeat (first | (with_reducible first | exact HB.out | apply below_alloc | apply pw_below_drewN | apply below_drew1 | refine below_set ?_ GE218.out) | exact HB.out)⟩
        · rw [if_neg c5] at H
          exact absurd H (by simp)
      · rw [if_neg c4] at H
        have c4b0 : decide (x5_1 < (l0_1.length : Int)) = false := decide_eq_false c4
        clear c4
        replace H := Option.bind_eq_some_iff.mp H
        obtain ⟨t221, A120, H⟩ := H
        replace H : (some (t221 == 0)) = some r := H
        have A12 := Aside0.mk A120
        clear A120
        obtain rfl := Option.some.inj H
        have hcz13_0 : wr.cell? ⟨gb218, 0, none⟩ = some (.int .i64 a0_0) := (blk_cell BK218.out 0).trans rfl
        have hcz13_1 : wr.cell? ⟨gb218, 1, none⟩ = some (.slice A0_1 l0_1.length c0_1) := (blk_cell BK218.out 1).trans rfl
        have hfz13_0 := blk_frozen BK218.out 0
        have hfz13_1 := blk_frozen BK218.out 1
        go_wp2_with (first | ((with_reducible refine gate_callee (f := 27) rfl ?_); refine goesL_ (some 22) rfl rfl Tryz.func27 (by kernel_rfl) rfl #[.agg #[.int .i64 a0_0, .slice A0_1 l0_1.length c0_1]] rfl (by (try simp only [List.map_toArray, List.map_cons, List.map_nil]); first | done | rfl | (simp only [List.length_drop, List.length_take]; rfl)) ?_; (with_reducible refine (chalklineref14_Check.calls k1 a0_0 _ _ l0_1 t221 _ ?side1 ?side2 A12.out).mono ?_); (case side1 => repeat (first | exact (Kd.C_below HR0_1.out HB.out) | (with_reducible refine Kd.C_alloc ?_ _) | (with_reducible refine Kd.C_drewN ?_ _) | (with_reducible refine Kd.C_drew ?_))); (case side2 => exact HC0_1.out); rintro e w14 ⟨rfl, hb⟩; refine ⟨_, rfl, ?_⟩; have n0_ := Aside0.mk (blk_below (g := gb218) (o := .cells #[.int .i64 a0_0, .slice A0_1 l0_1.length c0_1] 24 (0, 0)) (by (with_reducible repeat (first | refine blk_drewN ?_ _ | refine blk_drew ?_ | refine blk_alloc ?_ _)); exact BK218.out) hb); have n1_ := Aside0.mk (below_step (by repeat (first | (with_reducible first | exact HB.out | apply below_alloc | apply pw_below_drewN | apply below_drew1 | refine below_set ?_ GE218.out) | exact HB.out)) hb); clear BK218; clear HB; have BK218 := n0_; have HB := n1_; clear n0_ n1_; (try clear hb); (try clear hb2); (try clear hk); (try clear hi)))
        go_ret
        exact ⟨by first | rfl | (simp [errW_none, errW_some] <;> rfl) | (simp [*, errW_none, errW_some] <;> rfl), by repeat (first | (with_reducible first | exact HB.out | apply below_alloc | apply pw_below_drewN | apply below_drew1 | refine below_set ?_ GE218.out) | exact HB.out)⟩

def chalklineref14_Subsumes.l0 : Nat → List Int → List Int → Int → Option (Bool)
  | 0, _, _, _ => none
  | k + 1, x0, x1, x5 => if x5 < (x0.length : Int) then (if 0 ≤ x5 then ((chalklineref14_Has.f k x1 (rd x0 x5)).bind fun t223 => (if t223 = true then (chalklineref14_Subsumes.l0 k x0 x1 (wrap64 (x5 + 1))) else (some false))) else (none)) else (some true)
def chalklineref14_Subsumes.f (k : Nat) (l0 : List Int) (l1 : List Int) : Option (Bool) := chalklineref14_Subsumes.l0 k l0 l1 0
theorem chalklineref14_Subsumes.mono_l : ∀ k, (∀ y0 y1 y2, LeO (chalklineref14_Subsumes.l0 k y0 y1 y2) (chalklineref14_Subsumes.l0 (k + 1) y0 y1 y2))
  | 0 => fun _ _ _ r h => by simp [chalklineref14_Subsumes.l0] at h
  | k + 1 => by
    have ih0 := chalklineref14_Subsumes.mono_l k
    · intro y0 y1 y2
      unfold chalklineref14_Subsumes.l0
      repeat' first
      | (with_reducible exact ih0 _ _ _)
      | (with_reducible exact chalklineref14_Has.mono _ _ _)
      | (with_reducible exact LeO.refl _)
      | (with_reducible exact LeO.none _)
      | (with_reducible refine LeO.ite ?_ ?_)
      | (with_reducible refine LeO.bind ?_ (fun _ => ?_))
      | exact ih0 _ _ _
      | exact chalklineref14_Has.mono _ _ _
      | exact LeO.none _
      | refine LeO.ite ?_ ?_
      | refine LeO.bind ?_ (fun _ => ?_)
theorem chalklineref14_Subsumes.mono : ∀ a0 a1 k, LeO (chalklineref14_Subsumes.f k a0 a1) (chalklineref14_Subsumes.f (k + 1) a0 a1) := by
  intro a0 a1 k
  have ih0 := chalklineref14_Subsumes.mono_l k
  unfold chalklineref14_Subsumes.f
  repeat' first
      | (with_reducible exact ih0 _ _ _)
      | (with_reducible exact chalklineref14_Has.mono _ _ _)
      | (with_reducible exact LeO.refl _)
      | (with_reducible exact LeO.none _)
      | (with_reducible refine LeO.ite ?_ ?_)
      | (with_reducible refine LeO.bind ?_ (fun _ => ?_))
      | exact ih0 _ _ _
      | exact chalklineref14_Has.mono _ _ _
      | exact LeO.none _
      | refine LeO.ite ?_ ?_
      | refine LeO.bind ?_ (fun _ => ?_)
set_option maxHeartbeats 8000000 in
set_option maxRecDepth 100000 in
theorem chalklineref14_Subsumes.calls (k : Nat) (A0 : Option Addr) (c0 : Nat) (l0 : List Int) (A1 : Option Addr) (c1 : Nat) (l1 : List Int) (r : Bool) (w : World) (hr0 : Kd.C (Kd.int .i64) w A0 l0.length l0) (hc0 : l0.length ≤ c0) (hr1 : Kd.C (Kd.int .i64) w A1 l1.length l1) (hc1 : l1.length ≤ c1) (h : chalklineref14_Subsumes.f k l0 l1 = some r) :
    Calls Tryz.prog 35 #[.slice A0 l0.length c0, .slice A1 l1.length c1] w fun e w' => e = .returned (.bool r) ∧ Drawn0 w w' := by
  have HR0 := Aside0.mk hr0
  have HC0 := Aside0.mk hc0
  clear hr0 hc0
  have HR1 := Aside0.mk hr1
  have HC1 := Aside0.mk hc1
  clear hr1 hc1
  have H : (chalklineref14_Subsumes.l0 k l0 l1 0) = some r := h
  clear h
  have H' := Aside0.mk H
  clear H
  go_enter Tryz.func35, Tryz.ntmps35
  go_wp2
  go_loopg [5] k (fun kq v5 w' => ∃ (x5_1 : Int), v5 = .int .i64 x5_1 ∧ Aside0 (chalklineref14_Subsumes.l0 kq l0 l1 x5_1 = some r) ∧ Aside0 (kq ≤ k) ∧ Drawn0 w w')
  case atStart => exact ⟨(0), (by first | rfl | (simp; done) | (simp [*]; done)), H', ⟨Nat.le_refl _⟩, by repeat (first | exact Drawn0.refl _ | apply Drawn0.step)⟩
  case round =>
    clear H'
    try clear c1
    try clear p2
    obtain ⟨x5_1, rfl, HA, HK1, ⟨m1, rfl⟩⟩ := hrel
    cases gk with
    | zero => exact absurd HA.out (by simp [chalklineref14_Subsumes.l0])
    | succ k1 =>
      have H := HA.out
      clear HA
      simp only [chalklineref14_Subsumes.l0] at H
      by_cases c3 : x5_1 < (l0.length : Int)
      · rw [if_pos c3] at H
        have c3b0 : decide (x5_1 < (l0.length : Int)) = true := decide_eq_true c3
        clear c3
        by_cases c4 : 0 ≤ x5_1
        · rw [if_pos c4] at H
          have c4b0 : decide (0 ≤ x5_1) = true := decide_eq_true c4
          clear c4
          replace H := Option.bind_eq_some_iff.mp H
          obtain ⟨t223, A50, H⟩ := H
          replace H : (if t223 = true then (chalklineref14_Subsumes.l0 k1 l0 l1 (wrap64 (x5_1 + 1))) else (some false)) = some r := H
          have A5 := Aside0.mk A50
          clear A50
          by_cases c6 : t223 = true
          · subst c6
            have H1 : (chalklineref14_Subsumes.l0 k1 l0 l1 (wrap64 (x5_1 + 1))) = some r := by rw [if_pos rfl] at H; exact H
            clear H
            have H := H1
            clear H1
            have H' := Aside0.mk H
            clear H
            have p222 : 0 ≤ (x5_1 : Int) := of_decide_eq_true (by first | (with_reducible assumption) | assumption)
            have q222 : x5_1 < (l0.length : Int) := of_decide_eq_true (by first | (with_reducible assumption) | assumption)
            obtain ⟨ad222, e222, hx222_0⟩ := Kd.at_int HR0.out x5_1 p222 q222
            cases e222
            replace p222 := eq_true p222
            replace q222 := eq_true q222
            go_wp2_with (first | ((with_reducible refine gate_callee (f := 42) rfl ?_); refine goesL_ (some 17) rfl rfl Tryz.func42 (by kernel_rfl) rfl #[.slice A1 l1.length c1, .int .i64 (rd l0 x5_1)] rfl (by (try simp only [List.map_toArray, List.map_cons, List.map_nil]); first | done | rfl | (simp only [List.length_drop, List.length_take]; rfl)) ?_; (with_reducible refine (chalklineref14_Has.calls k1 _ _ l1 (rd l0 x5_1) true _ ?side1 ?side2 A5.out).mono ?_); (case side1 => repeat (first | exact HR1.out | (with_reducible refine Kd.C_alloc ?_ _) | (with_reducible refine Kd.C_drewN ?_ _) | (with_reducible refine Kd.C_drew ?_))); (case side2 => exact HC1.out); rintro e w' ⟨rfl, ⟨nd, rfl⟩⟩; refine ⟨_, rfl, ?_⟩))
            go_roundg k1
            case measure => have := HK1.out; omega
            case rel => exact ⟨(wrap64 (x5_1 + 1)), (by first | rfl | (simp; done) | (simp [*]; done)), H', ⟨by have := HK1.out; omega⟩, by repeat (first | exact Drawn0.refl _ | apply Drawn0.step)⟩
          · replace c6 := Bool.eq_false_iff.mpr c6
            subst c6
            have H1 : (some false) = some r := by rw [if_neg (show ¬ (false = true) by decide)] at H; exact H
            clear H
            have H := H1
            clear H1
            obtain rfl := Option.some.inj H
            have p222 : 0 ≤ (x5_1 : Int) := of_decide_eq_true (by first | (with_reducible assumption) | assumption)
            have q222 : x5_1 < (l0.length : Int) := of_decide_eq_true (by first | (with_reducible assumption) | assumption)
            obtain ⟨ad222, e222, hx222_0⟩ := Kd.at_int HR0.out x5_1 p222 q222
            cases e222
            replace p222 := eq_true p222
            replace q222 := eq_true q222
            go_wp2_with (first | ((with_reducible refine gate_callee (f := 42) rfl ?_); refine goesL_ (some 17) rfl rfl Tryz.func42 (by kernel_rfl) rfl #[.slice A1 l1.length c1, .int .i64 (rd l0 x5_1)] rfl (by (try simp only [List.map_toArray, List.map_cons, List.map_nil]); first | done | rfl | (simp only [List.length_drop, List.length_take]; rfl)) ?_; (with_reducible refine (chalklineref14_Has.calls k1 _ _ l1 (rd l0 x5_1) false _ ?side1 ?side2 A5.out).mono ?_); (case side1 => repeat (first | exact HR1.out | (with_reducible refine Kd.C_alloc ?_ _) | (with_reducible refine Kd.C_drewN ?_ _) | (with_reducible refine Kd.C_drew ?_))); (case side2 => exact HC1.out); rintro e w' ⟨rfl, ⟨nd, rfl⟩⟩; refine ⟨_, rfl, ?_⟩))
            go_ret
            exact ⟨by first | rfl | (simp; done) | (simp [*]; done), by repeat (first | exact Drawn0.refl _ | apply Drawn0.step)⟩
        · rw [if_neg c4] at H
          exact absurd H (by simp)
      · rw [if_neg c3] at H
        have c3b0 : decide (x5_1 < (l0.length : Int)) = false := decide_eq_false c3
        clear c3
        obtain rfl := Option.some.inj H
        go_wp2
        go_ret
        exact ⟨by first | rfl | (simp; done) | (simp [*]; done), by repeat (first | exact Drawn0.refl _ | apply Drawn0.step)⟩

end Go.Proofs.YtcdhhaedgohlgaaGreatDoor.P
end

section
namespace Go.Proofs.YtcdhhaedgohlgaaGreatDoor.P
open Go.RowKit Go.Proofs.YtcdhhaedgohlgaaGreatDoorW.PrintWords Go.Proofs.YtcdhhaedgohlgaaGreatDoorW.PrintLast Go.Proofs.YtcdhhaedgohlgaaGreatDoorW.PrintMore
set_option linter.unusedVariables false
set_option linter.unusedSimpArgs false

/-- What a row's weight allows of a list of clauses. -/
def SmallL (L : List (List Int)) : Prop := L.length ≤ 5864062014634 ∧ ∀ r ∈ L, r.length ≤ 17592186043904
def sumLen (L : List (List Int)) : Nat := (L.map List.length).sum
def fewV (L : List (List Int)) : Bool := decide (L.length ≤ 200) && decide (sumLen L ≤ 1000)
theorem rdL_at (L : List (List Int)) (i : Nat) (h : i < L.length) : rd_L1 L (i : Int) = L[i] := by unfold rd_L1; simp [List.getD_eq_getElem?_getD, h]
theorem sumLen_take_succ (L : List (List Int)) (i : Nat) (h : i < L.length) : sumLen (L.take (i + 1)) = sumLen (L.take i) + L[i].length := by
  unfold sumLen
  rw [List.take_succ_eq_append_getElem h, List.map_append, List.sum_append]
  simp
theorem sumLen_take_le (L : List (List Int)) (B : Nat) (hS : ∀ r ∈ L, r.length ≤ B) : ∀ i, i ≤ L.length → sumLen (L.take i) ≤ i * B
  | 0, _ => by simp [sumLen]
  | i + 1, hi => by
    rw [sumLen_take_succ L i (by omega), Nat.succ_mul]
    have := sumLen_take_le L B hS i (by omega)
    have := hS _ (List.getElem_mem (show i < L.length by omega))
    omega
theorem Few_l0 (L : List (List Int)) (hS : SmallL L) : ∀ d i : Nat, i + d = min L.length 200 → EvL (fun k => chalklineref14_Few.l0 k L (sumLen (L.take i) : Int) (i : Int)) (fewV L)
  | 0, i, hi => by
    have hr : (if (L.length : Int) ≤ 200 then some (decide ((sumLen (L.take i) : Int) ≤ 1000)) else some false) = some (fewV L) := by
      unfold fewV
      by_cases h : L.length ≤ 200
      · rw [if_pos (by omega), List.take_of_length_le (by omega), decide_eq_true h, Bool.true_and]
        exact congrArg some (decide_eq_decide.2 (by omega))
      · rw [if_neg (by omega), decide_eq_false h, Bool.false_and]
    refine EvL.step (EvL.const (fewV L)) (fun k => ?_)
    simp only [chalklineref14_Few.l0]
    by_cases h : i < L.length
    · rw [if_pos (by omega), if_neg (by omega)]; exact hr
    · rw [if_neg (by omega)]; exact hr
  | d + 1, i, hi => by
    have hlt : i < L.length := by omega
    have hle := sumLen_take_le L 17592186043904 hS.2 i (by omega)
    refine EvL.step (Few_l0 L hS d (i + 1) (by omega)) (fun k => ?_)
    simp only [chalklineref14_Few.l0]
    have hw : wrap64 ((sumLen (L.take i) : Int) + ((rd_L1 L (i : Int)).length : Int)) = (sumLen (L.take (i + 1)) : Int) := by
      rw [rdL_at L i hlt, sumLen_take_succ L i hlt]
      have := hS.2 _ (List.getElem_mem hlt)
      unfold wrap64; omega
    rw [if_pos (by omega), if_pos (by omega), if_pos (by omega), hw, w_succ i (by omega)]
theorem Few_f (L : List (List Int)) (hS : SmallL L) : EvL (fun k => chalklineref14_Few.f k L) (fewV L) := Few_l0 L hS (min L.length 200) 0 (by omega)
theorem few_f (n : Int) (L : List (List Int)) (hS : SmallL L) : EvL (fun k => chalklinelaw14_few.f k n L) (fewV L) :=
  EvL.bind (Few_f L hS) (h := fun b _ => some b) (EvL.const _)

def chkV (N : Int) (L M : List (List Int)) : Int := if M.any (fun l => l.any fun x => !litB N x) then 1 else if 65536 < L.length then 2 else 0
theorem RCheck_l1 (N : Int) (h0 : 0 ≤ N) (h1 : N ≤ 65536) (L : List (List Int)) (hS : SmallL L) (i : Nat) (hi : i < L.length) (r : Int) (hc : EvL (fun k => chalklineref14_Check.l0 k ((i + 1 : Nat) : Int) N L) r) :
    ∀ d j : Nat, j + d = L[i].length → EvL (fun k => chalklineref14_Check.l1 k (i : Int) (j : Int) N L) (if (L[i].drop j).any (fun x => !litB N x) then 1 else r)
  | 0, j, hj => by
    rw [List.drop_eq_nil_of_le (by omega), List.any_nil, if_neg (by simp)]
    have hS1 := hS.1
    refine EvL.step hc (fun k => ?_)
    simp only [chalklineref14_Check.l1]
    rw [if_pos (by omega), if_pos (by omega), rdL_at L i hi, if_neg (by omega), w_succ i (by omega)]
  | d + 1, j, hj => by
    have hlt : j < L[i].length := by omega
    have hm := hS.2 _ (List.getElem_mem hi)
    rw [List.drop_eq_getElem_cons hlt, List.any_cons]
    have hI := Is_f L[i][j] N (by omega) (by omega)
    cases hx : litB N L[i][j] with
    | false =>
      rw [hx] at hI
      rw [if_pos (by simp)]
      refine EvL.step (EvL.const 1) (fun k => ?_)
      simp only [chalklineref14_Check.l1]
      rw [if_pos (by omega), if_pos (by omega), rdL_at L i hi, if_pos (by omega), if_pos (by omega), rd_at _ j hlt, hI, Option.bind_some, if_neg (by simp)]
    | true =>
      rw [hx] at hI
      rw [Bool.not_true, Bool.false_or]
      refine EvL.step (RCheck_l1 N h0 h1 L hS i hi r hc d (j + 1) (by omega)) (fun k => ?_)
      simp only [chalklineref14_Check.l1]
      rw [if_pos (by omega), if_pos (by omega), rdL_at L i hi, if_pos (by omega), if_pos (by omega), rd_at _ j hlt, hI, Option.bind_some, if_pos rfl, w_succ j (by omega)]
theorem RCheck_l0 (N : Int) (h0 : 0 ≤ N) (h1 : N ≤ 65536) (L : List (List Int)) (hS : SmallL L) : ∀ d i : Nat, i + d = L.length → EvL (fun k => chalklineref14_Check.l0 k (i : Int) N L) (chkV N L (L.drop i))
  | 0, i, hi => by
    have hS1 := hS.1
    rw [List.drop_eq_nil_of_le (by omega)]
    unfold chkV
    rw [List.any_nil, if_neg (by simp)]
    by_cases h : 65536 < L.length
    · rw [if_pos h]
      refine EvL.step (EvL.const 2) (fun k => ?_)
      simp only [chalklineref14_Check.l0]
      rw [if_neg (by omega), if_pos (by omega)]
    · rw [if_neg h]
      refine EvL.step (EvL.const 0) (fun k => ?_)
      simp only [chalklineref14_Check.l0]
      rw [if_neg (by omega), if_neg (by omega)]
  | d + 1, i, hi => by
    have hlt : i < L.length := by omega
    have ih := RCheck_l0 N h0 h1 L hS d (i + 1) (by omega)
    have h := RCheck_l1 N h0 h1 L hS i hlt _ ih L[i].length 0 (by omega)
    have e : chkV N L (L.drop i) = if (L[i].drop 0).any (fun x => !litB N x) then 1 else chkV N L (L.drop (i + 1)) := by
      rw [List.drop_eq_getElem_cons hlt, List.drop_zero]
      unfold chkV
      rw [List.any_cons]
      cases (L[i].any fun x => !litB N x) <;> simp
    rw [e]
    refine EvL.step h (fun k => ?_)
    simp only [chalklineref14_Check.l0]
    rw [if_pos (by omega)]
    rfl
theorem RCheck_f (N : Int) (L : List (List Int)) (hS : SmallL L) : EvL (fun k => chalklineref14_Check.f k N L) (checkV N L) := by
  unfold checkV
  by_cases h0 : N < 0
  · rw [if_pos (.inl h0)]
    refine EvL.eq (g := fun k => chalklineref14_Check.j0 k true N L) (EvL.step (EvL.const 1) (fun k => ?_)) (fun k => by unfold chalklineref14_Check.f; rw [if_pos h0])
    simp only [chalklineref14_Check.j0]
    rw [if_pos trivial]
  · by_cases h1 : 65536 < N
    · rw [if_pos (.inr h1)]
      refine EvL.eq (g := fun k => chalklineref14_Check.j0 k true N L) (EvL.step (EvL.const 1) (fun k => ?_)) (fun k => by unfold chalklineref14_Check.f; rw [if_neg h0, decide_eq_true (by omega)])
      simp only [chalklineref14_Check.j0]
      rw [if_pos trivial]
    · rw [if_neg (by omega)]
      have h := RCheck_l0 N (by omega) (by omega) L hS L.length 0 (by omega)
      rw [List.drop_zero] at h
      refine EvL.eq (g := fun k => chalklineref14_Check.j0 k false N L) (EvL.step h (fun k => ?_)) (fun k => by unfold chalklineref14_Check.f; rw [if_neg h0, decide_eq_false (by omega)])
      simp only [chalklineref14_Check.j0]
      rw [if_neg (by simp)]
      rfl

theorem Lists_l0 (a b : List (List Int)) (hS : SmallL a) (hm : a.length = b.length) : ∀ d i : Nat, i + d = a.length → EvL (fun k => chalklineref14_Lists.l0 k a b (i : Int)) (decide (a.drop i = b.drop i))
  | 0, i, hi => by
    rw [List.drop_eq_nil_of_le (by omega), List.drop_eq_nil_of_le (by omega), decide_eq_true rfl]
    refine EvL.step (EvL.const true) (fun k => ?_)
    simp only [chalklineref14_Lists.l0]
    rw [if_neg (by omega)]
  | d + 1, i, hi => by
    have hS1 := hS.1
    have hlt : i < a.length := by omega
    have hlt2 : i < b.length := by omega
    have hlen := hS.2 _ (List.getElem_mem hlt)
    have hI := Ints_f a[i] b[i] (by omega)
    rw [List.drop_eq_getElem_cons hlt, List.drop_eq_getElem_cons hlt2]
    by_cases e : a[i] = b[i]
    · have hd : decide (a[i] :: a.drop (i + 1) = b[i] :: b.drop (i + 1)) = decide (a.drop (i + 1) = b.drop (i + 1)) := decide_eq_decide.2 ⟨fun h => by injection h, fun h => by rw [e, h]⟩
      rw [hd]
      rw [decide_eq_true e] at hI
      refine EvL.step (EvL.bind hI (h := fun t k => if t = true then (chalklineref14_Lists.l0 k a b (wrap64 ((i : Int) + 1))) else (some false)) (EvL.eq (Lists_l0 a b hS hm d (i + 1) (by omega)) (fun k => by rw [if_pos rfl, w_succ i (by omega)]))) (fun k => ?_)
      simp only [chalklineref14_Lists.l0]
      rw [if_pos (by omega), if_pos (by omega), if_pos (by omega), rdL_at a i hlt, rdL_at b i hlt2]
    · rw [decide_eq_false (by intro h; injection h with h _; exact e h)]
      rw [decide_eq_false e] at hI
      refine EvL.step (EvL.bind hI (h := fun t k => if t = true then (chalklineref14_Lists.l0 k a b (wrap64 ((i : Int) + 1))) else (some false)) (EvL.eq (EvL.const false) (fun k => by rw [if_neg (by simp)]))) (fun k => ?_)
      simp only [chalklineref14_Lists.l0]
      rw [if_pos (by omega), if_pos (by omega), if_pos (by omega), rdL_at a i hlt, rdL_at b i hlt2]
theorem Lists_f (a b : List (List Int)) (hS : SmallL a) : EvL (fun k => chalklineref14_Lists.f k a b) (decide (a = b)) := by
  by_cases hm : a.length = b.length
  · refine EvL.eq ?_ (fun k => show _ = chalklineref14_Lists.l0 k a b ((0 : Nat) : Int) by unfold chalklineref14_Lists.f; rw [if_pos (by omega)]; rfl)
    have := Lists_l0 a b hS hm a.length 0 (by omega)
    simpa using this
  · rw [decide_eq_false (fun e => hm (by rw [e]))]
    exact EvL.eq (EvL.const false) (fun k => by unfold chalklineref14_Lists.f; rw [if_neg (by omega)])
theorem RSame_f (n : Int) (a : List (List Int)) (m : Int) (b : List (List Int)) (hS : SmallL a) : EvL (fun k => chalklineref14_Same.f k n a m b) (sameV n a m b) := by
  unfold sameV
  by_cases e : n = m
  · have hb : (n == m) = true := by simpa using e
    rw [hb, Bool.true_and]
    exact EvL.eq (EvL.bind (Lists_f a b hS) (h := fun t _ => some t) (EvL.const _)) (fun k => by unfold chalklineref14_Same.f; rw [if_pos e])
  · have hb : (n == m) = false := by simpa using e
    rw [hb, Bool.false_and]
    exact EvL.eq (EvL.const false) (fun k => by unfold chalklineref14_Same.f; rw [if_neg e])

theorem RLit_f (x : Int) (a : List Bool) : chalklineref14_Lit.f x a = some (litT x a) := by
  unfold chalklineref14_Lit.f litT
  rw [Is_f x 65536 (by omega) (by omega)]
  simp only [Option.bind_some]
  by_cases h : litB 65536 x = true
  · rw [if_pos h, h]
    obtain ⟨h0, h1, h2⟩ := litB_range h
    have hm := mx_abs x (by omega) (by omega)
    simp only [hm]
    by_cases hl : x.natAbs < a.length
    · rw [if_pos (by omega), if_pos (by omega)]
      simp [rdOf, hl, List.getD_eq_getElem?_getD]
    · rw [if_neg (by omega)]
      simp [hl]
  · have h' : litB 65536 x = false := by simpa using h
    rw [if_neg h, h']
    simp
theorem RHolds_l0 (l : List Int) (a : List Bool) (hl : l.length < 4611686018427387904) : ∀ d i : Nat, i + d = l.length → EvL (fun k => chalklineref14_Holds.l0 k l a (i : Int)) (holdsV (l.drop i) a)
  | 0, i, hi => by
    rw [List.drop_eq_nil_of_le (by omega)]
    refine EvL.step (EvL.const false) (fun k => ?_)
    simp only [chalklineref14_Holds.l0]
    rw [if_neg (by omega)]
  | d + 1, i, hi => by
    have hlt : i < l.length := by omega
    rw [List.drop_eq_getElem_cons hlt]
    have hL := RLit_f l[i] a
    unfold holdsV
    rw [List.any_cons]
    cases hx : litT l[i] a with
    | true =>
      rw [hx] at hL
      rw [Bool.true_or]
      refine EvL.step (EvL.const true) (fun k => ?_)
      simp only [chalklineref14_Holds.l0]
      rw [if_pos (by omega), if_pos (by omega), rd_at l i hlt, hL, Option.bind_some, if_pos rfl]
    | false =>
      rw [hx] at hL
      rw [Bool.false_or]
      refine EvL.step (RHolds_l0 l a hl d (i + 1) (by omega)) (fun k => ?_)
      simp only [chalklineref14_Holds.l0]
      rw [if_pos (by omega), if_pos (by omega), rd_at l i hlt, hL, Option.bind_some, if_neg (by simp), w_succ i (by omega)]
theorem RHolds_f (l : List Int) (a : List Bool) (hl : l.length < 4611686018427387904) : EvL (fun k => chalklineref14_Holds.f k l a) (holdsV l a) := by
  have := RHolds_l0 l a hl l.length 0 (by omega)
  simpa [chalklineref14_Holds.f] using this
theorem RValue_l0 (N : Int) (L : List (List Int)) (a : List Bool) (hS : SmallL L) : ∀ d i : Nat, i + d = L.length → EvL (fun k => chalklineref14_Value.l0 k a (i : Int) N L) ((L.drop i).all (fun l => holdsV l a) && checkV N L == 0)
  | 0, i, hi => by
    rw [List.drop_eq_nil_of_le (by omega), List.all_nil, Bool.true_and]
    refine EvL.step (EvL.bind (RCheck_f N L hS) (h := fun t _ => some (t == 0)) (EvL.const _)) (fun k => ?_)
    simp only [chalklineref14_Value.l0]
    rw [if_neg (by omega)]
  | d + 1, i, hi => by
    have hS1 := hS.1
    have hlt : i < L.length := by omega
    have hlen := hS.2 _ (List.getElem_mem hlt)
    have hH := RHolds_f L[i] a (by omega)
    rw [List.drop_eq_getElem_cons hlt, List.all_cons]
    cases hx : holdsV L[i] a with
    | true =>
      rw [hx] at hH
      rw [Bool.true_and]
      refine EvL.step (EvL.bind hH (h := fun t k => if t = true then (chalklineref14_Value.l0 k a (wrap64 ((i : Int) + 1)) N L) else (some false)) (EvL.eq (RValue_l0 N L a hS d (i + 1) (by omega)) (fun k => by rw [if_pos rfl, w_succ i (by omega)]))) (fun k => ?_)
      simp only [chalklineref14_Value.l0]
      rw [if_pos (by omega), if_pos (by omega), rdL_at L i hlt]
    | false =>
      rw [hx] at hH
      rw [Bool.false_and, Bool.false_and]
      refine EvL.step (EvL.bind hH (h := fun t k => if t = true then (chalklineref14_Value.l0 k a (wrap64 ((i : Int) + 1)) N L) else (some false)) (EvL.eq (EvL.const false) (fun k => by rw [if_neg (by simp)]))) (fun k => ?_)
      simp only [chalklineref14_Value.l0]
      rw [if_pos (by omega), if_pos (by omega), rdL_at L i hlt]
theorem RValue_f (N : Int) (L : List (List Int)) (a : List Bool) (hS : SmallL L) : EvL (fun k => chalklineref14_Value.f k N L a) (valueV N L a) := by
  have h := RValue_l0 N L a hS L.length 0 (by omega)
  rw [List.drop_zero, Bool.and_comm] at h
  exact h
theorem RSubsumes_l0 (a b : List Int) (ha : a.length < 4611686018427387904) (hb : b.length < 4611686018427387904) : ∀ d i : Nat, i + d = a.length → EvL (fun k => chalklineref14_Subsumes.l0 k a b (i : Int)) (subsumesV (a.drop i) b)
  | 0, i, hi => by
    rw [List.drop_eq_nil_of_le (by omega)]
    refine EvL.step (EvL.const true) (fun k => ?_)
    simp only [chalklineref14_Subsumes.l0]
    rw [if_neg (by omega)]
  | d + 1, i, hi => by
    have hlt : i < a.length := by omega
    rw [List.drop_eq_getElem_cons hlt]
    have hH := Has_f b a[i] hb
    unfold subsumesV
    rw [List.all_cons]
    by_cases hx : a[i] ∈ b
    · rw [decide_eq_true hx] at hH ⊢
      rw [Bool.true_and]
      refine EvL.step (EvL.bind hH (h := fun t k => if t = true then (chalklineref14_Subsumes.l0 k a b (wrap64 ((i : Int) + 1))) else (some false)) (EvL.eq (RSubsumes_l0 a b ha hb d (i + 1) (by omega)) (fun k => by rw [if_pos rfl, w_succ i (by omega)]))) (fun k => ?_)
      simp only [chalklineref14_Subsumes.l0]
      rw [if_pos (by omega), if_pos (by omega), rd_at a i hlt]
    · rw [decide_eq_false hx] at hH ⊢
      rw [Bool.false_and]
      refine EvL.step (EvL.bind hH (h := fun t k => if t = true then (chalklineref14_Subsumes.l0 k a b (wrap64 ((i : Int) + 1))) else (some false)) (EvL.eq (EvL.const false) (fun k => by rw [if_neg (by simp)]))) (fun k => ?_)
      simp only [chalklineref14_Subsumes.l0]
      rw [if_pos (by omega), if_pos (by omega), rd_at a i hlt]
theorem RSubsumes_f (a b : List Int) (ha : a.length < 4611686018427387904) (hb : b.length < 4611686018427387904) : EvL (fun k => chalklineref14_Subsumes.f k a b) (subsumesV a b) := by
  have := RSubsumes_l0 a b ha hb a.length 0 (by omega)
  simpa [chalklineref14_Subsumes.f] using this
end Go.Proofs.YtcdhhaedgohlgaaGreatDoor.P
end

section
namespace Go.Proofs.YtcdhhaedgohlgaaGreatDoor.P
open Go.RowKit Go.Proofs.YtcdhhaedgohlgaaGreatDoorW.PrintWords Go.Proofs.YtcdhhaedgohlgaaGreatDoorW.PrintLast
set_option linter.unusedVariables false
theorem putSz_sum (L : List (List Int)) : putSz L = 22 * sumLen L + 2 * L.length := by
  induction L with
  | nil => simp [putSz, sumLen]
  | cons l L ih =>
    have h1 : putSz (l :: L) = 22 * l.length + 2 + putSz L := by simp [putSz]
    have h2 : sumLen (l :: L) = l.length + sumLen L := by simp [sumLen]
    simp only [List.length_cons]
    omega
theorem fewV_putSz {L : List (List Int)} (h : fewV L = true) : putSz L ≤ 22400 := by
  have e := putSz_sum L
  unfold fewV at h
  simp only [Bool.and_eq_true, decide_eq_true_eq] at h
  omega
theorem putText_len' (n : Int) (L : List (List Int)) (h : checkV n L = 0) : (putText n L).length ≤ putSz L + 100 := by
  obtain ⟨h0, h1, h2, h3⟩ := (checkV_zero_iff n L).1 h
  have a := clausesB_len L (fun l hl x hx => by have := litB_range (h2 l hl x hx); omega)
  have b := lineB_nil [n] (fun x hx => by rw [List.mem_singleton.1 hx]; omega)
  have c := Lib.itoa_length_le (L.length : Int) (by omega) (by omega)
  unfold putText
  rw [lineB_end, List.length_append, List.length_append, List.length_append, List.length_append]
  simp only [pHead, List.length_cons, List.length_nil] at b ⊢
  omega
theorem bytesOk_bytesI' (bs : List UInt8) : bytesOk (bytesI bs) = true := by
  unfold bytesOk bytesI
  rw [List.all_eq_true]
  intro x hx
  obtain ⟨b, _, rfl⟩ := List.mem_map.1 hx
  have := b.toNat_lt
  simp
  omega
theorem getB_put' (n : Int) (L : List (List Int)) (h : checkV n L = 0) (hs : (putText n L).length ≤ 4194304) : getB (putText n L) = (n, L, 0) := by
  unfold getB
  rw [if_neg (by omega)]
  have e := wordsS_put n L [] true
  rw [List.append_nil] at e
  have e0 : wordsS ([] : List UInt8) true false [] = [] := rfl
  rw [e, e0, List.append_nil, getV_put n L h]
theorem bytes_wf {l : List Int} (h : ∀ x ∈ l, (Lit.int .u8 x).wf = true) : bytesOk l = true := by
  unfold bytesOk
  rw [List.all_eq_true]
  intro x hx
  have h1 := h x hx
  have h2 : IntKind.u8.min ≤ x ∧ x ≤ IntKind.u8.max := by simpa [Lit.wf] using h1
  have e1 : IntKind.u8.min = 0 := by decide
  have e2 : IntKind.u8.max = 255 := by decide
  rw [e1, e2] at h2
  simp
  omega
theorem get_bytesI (bs : List UInt8) : cnf_Get.f (bytesI bs) = some (getB bs) := by
  unfold cnf_Get.f
  rw [if_pos (bytesOk_bytesI' _), bytesOf_bytesI]
theorem rd_bytesI (m : List UInt8) (i : Nat) (h : i < m.length) : rd (bytesI m) (i : Int) = (m[i].toNat : Int) := by
  rw [rd_at _ i (by rw [bytesI_length]; exact h)]
  simp [bytesI]
end Go.Proofs.YtcdhhaedgohlgaaGreatDoor.P
end

section
namespace Go.Proofs.YtcdhhaedgohlgaaGreatDoor.P
open Go.RowKit Go.Shelf Go.Lib

def renU : Ren := ⟨fun x => x, fun | 119 => 213 | 138 => 215 | 139 => 216 | n => n, fun x => x⟩
theorem typesU : U8Types Tryz.prog renU := ⟨by kernel_rfl, by kernel_rfl, by kernel_rfl, by kernel_rfl⟩
theorem extraU : U8Extra Tryz.prog renU := ⟨by kernel_rfl, by kernel_rfl, by kernel_rfl, by kernel_rfl, by kernel_rfl, by kernel_rfl, by kernel_rfl⟩
theorem pow_eq : Rows.laid_internal_strconv_uint64pow10 = (tabData .u64 pow10Tab : DataW Unit) := by kernel_rfl
theorem acc_eq : Rows.laid_unicode_utf8_acceptRanges = (acceptData : DataW Unit) := by kernel_rfl
theorem fst_eq : Rows.laid_unicode_utf8_first = (firstData : DataW Unit) := Pinned.utf8First_eq

theorem tab_of_reads {W : World} (h : VarReads Tryz.prog W tabP (tabData .u64 pow10Tab)) : TabIs Tryz.prog W tabP .u64 pow10Tab := by
  obtain ⟨g, t, cs, fuel, p, hg, hty, hvar, hd⟩ := h
  obtain rfl := Option.some.inj ((show Tryz.prog.globalNamed tabP = some 2 by kernel_rfl).symm.trans hg)
  obtain rfl := Option.some.inj ((show (Tryz.prog.globals[2]?).map (·.type) = some 211 by kernel_rfl).symm.trans hty)
  unfold TabIs
  rw [hvar, ← cells_of_tab (show Tryz.prog.underlying 211 = some (.array 20 171) by kernel_rfl) (show Tryz.prog.underlying 171 = some (.int .u64) by kernel_rfl) (by kernel_rfl) (by kernel_rfl) hd]
theorem utf8_below {g3 g4 : Nat} {w w' : World} (h : Utf8Tabs g3 g4 w) (hb : Below w.heap.size w w') : Utf8Tabs g3 g4 w' := by
  have key : ∀ {a : Addr} {v : Value}, w.cell? a = some v → w'.cell? a = some v := fun hc => (hb.cell (World.block_lt_of_cell? w _ hc)).trans hc
  exact ⟨fun c hc => key (h.1 c hc), fun i hi => ⟨key (h.2 i hi).1, key (h.2 i hi).2⟩⟩
theorem Laid.of_met {W : World} {l : List (String × DataW Unit)} (hL : laidMet Tryz.prog l W) (h1 : ("internal/strconv.uint64pow10", Rows.laid_internal_strconv_uint64pow10) ∈ l) (h2 : ("unicode/utf8.first", Rows.laid_unicode_utf8_first) ∈ l) (h3 : ("unicode/utf8.acceptRanges", Rows.laid_unicode_utf8_acceptRanges) ∈ l) : Laid W := by
  have r1 : VarReads Tryz.prog W tabP (tabData .u64 pow10Tab) := pow_eq ▸ Lib.laidMet.reads hL h1
  have r2 : VarReads Tryz.prog W "unicode/utf8.first" firstData := fst_eq ▸ Lib.laidMet.reads hL h2
  have r3 : VarReads Tryz.prog W "unicode/utf8.acceptRanges" acceptData := acc_eq ▸ Lib.laidMet.reads hL h3
  have t1 := tabBelow_of_tabIs (tab_of_reads r1)
  have t2 : Utf8Tabs 3 4 W := utf8Tabs_of_readsT typesU extraU r2 r3
  exact fun w' hb => ⟨t1 w' hb, utf8_below t2 hb⟩
end Go.Proofs.YtcdhhaedgohlgaaGreatDoor.P
end

section
namespace Go.Proofs.YtcdhhaedgohlgaaGreatDoor.P
open Go.Deep Go.RowKit Go.ChangeShapes Go.WideShapes Go.Proofs.YtcdhhaedgohlgaaGreatDoorW.PrintWords Go.Proofs.YtcdhhaedgohlgaaGreatDoorW.PrintLast Go.Proofs.YtcdhhaedgohlgaaGreatDoorW.PrintMore

theorem weightsAll_mem {H : Type} {P : Program} {e : TypeId} : ∀ {l : List (DataW H)} {d : DataW H}, d ∈ l → ∀ n ∈ d.weights P e, n ∈ DataW.weightsAll P e l
  | d' :: r, d, hd, n, hn => by
    simp only [DataW.weightsAll, List.mem_append]
    rcases List.mem_cons.1 hd with rfl | h
    · exact Or.inl hn
    · exact Or.inr (weightsAll_mem h n hn)
theorem rows_sized {H : Type} {enc : TypeId × Value → H} {Pr : Program} {W : World} {base : Nat} {held : Bool} {t e q : TypeId} {k : IntKind} {a : Option Addr} {len cap : Nat} {fuel : Nat} {x : DataW H × List MemPlace} (e' : Nat)
    (ht : Pr.underlying t = some (.slice e)) (he : Pr.underlying e = some (.slice q)) (hq : Pr.underlying q = some (.int k)) (ce : Pr.cellsOf e = 1) (cq : Pr.cellsOf q = 1) {E Q : Nat} (hE : Pr.bytesOf e = E) (hQ : Pr.bytesOf q = Q)
    (h : DataW.trod enc Pr W base (fun _ => true) held fuel t [.slice a len cap] = some x) (hw : ∀ n ∈ x.1.weights Pr t, n ≤ reachBytes) :
    ∃ l : List (List Int), len = l.length ∧ (Kd.slice e' (Kd.int k)).C W a l.length l ∧ l.length ≤ cap ∧ l.length * E ≤ 140737488351232 ∧ ∀ r ∈ l, r.length * Q ≤ 140737488351232 ∧ ∀ n ∈ r, (Lit.int k n).wf = true := by
  rcases Go.Deep.open_int_rows ht he hq ce cq h with ⟨hcs, _⟩ | ⟨ad, l, c, A, L, C, Z, hcs, _, hl, hm, hx, hcell⟩
  · simp at hcs
    obtain ⟨rfl, rfl, rfl⟩ := hcs
    exact ⟨[], rfl, ⟨rfl, Nat.zero_le _, fun h => absurd h (by simp)⟩, Nat.le_refl _, by simp, fun r hr => by simp at hr⟩
  · simp at hcs
    obtain ⟨rfl, rfl, rfl⟩ := hcs
    have el : ((List.range len).map fun r => (Z r).take (L r)).length = len := by simp
    subst hx
    refine ⟨(List.range len).map fun r => (Z r).take (L r), el.symm, ⟨rfl, by rw [el]; exact Nat.le_trans hl hm, fun _ => ⟨ad, rfl, fun j p hp => ?_⟩⟩, by rw [el]; exact hl, ?_, ?_⟩
    · have hj : j < len := by
        have := (List.getElem?_eq_some_iff.1 hp).1
        simpa using this
      have ep : p = (Z j).take (L j) := by simpa [hj] using hp.symm
      obtain ⟨h1, h2, h3, h4, h5, h6, h7⟩ := hcell j (by omega)
      have lp : p.length = L j := by rw [ep, List.length_take]; omega
      refine ⟨[.slice (A j) p.length (C j)], rfl, ⟨A j, C j, rfl, by omega, Kd.C_of_reads (enc := Value.int k) (d := (0 : Int)) (h1 := fun _ => rfl) ⟨rfl, by have hmx : maxLen ≤ 9223372036854775807 := (by decide); omega, fun hpos => ?_⟩⟩, fun i u hu => ?_⟩
      · cases hA : A j with
        | none => have := h6 hA; omega
        | some a' =>
          refine ⟨a', rfl, fun y hy => ?_⟩
          rw [(h7 a' hA).2 y (by omega), ep]
          have hyL : y < L j := by omega
          simp [List.getD, hyL]
      · cases i with
        | zero =>
          simp at hu
          rw [← hu]
          show W.cell? (ad.add (j * 1 + 0)) = _
          rw [Nat.mul_one, Nat.add_zero, h1, lp]
        | succ i => simp at hu
    · rw [el]
      have z := hw ((((List.range len).map fun r => intRow (H := H) k (A r) (L r) (Z r)).length + ((List.range (cap - len)).map fun j => intRow (H := H) k (A (len + j)) (L (len + j)) (Z (len + j))).length) * Pr.bytesOf e) (by
        simp only [DataW.weights, ht]
        exact List.mem_cons_self)
      simp only [List.length_map, List.length_range] at z
      rw [hE] at z
      exact Nat.le_trans (Nat.mul_le_mul_right _ (Nat.le_add_right _ _)) z
    · intro r hr
      obtain ⟨j, hj, rfl⟩ := List.mem_map.1 hr
      have hj2 : j < len := List.mem_range.1 hj
      obtain ⟨h1, h2, h3, h4, h5, h6, h7⟩ := hcell j (by omega)
      refine ⟨?_, fun n hn => h5 n (List.mem_of_mem_take hn)⟩
      rw [List.length_take]
      cases hA : A j with
      | none => have := h6 hA; rw [h4, this, Nat.min_zero]; omega
      | some a' =>
        have hmem : intRow (H := H) k (A j) (L j) (Z j) ∈ ((List.range len).map fun r => intRow (H := H) k (A r) (L r) (Z r)) := List.mem_map.2 ⟨j, hj, rfl⟩
        have z := hw ((((lits (H := H) k ((Z j).take (L j))).length + (lits (H := H) k ((Z j).drop (L j))).length)) * Pr.bytesOf q) (by
          simp only [DataW.weights, ht]
          refine List.mem_cons_of_mem _ (List.mem_append.2 (.inl (weightsAll_mem hmem _ ?_)))
          simp only [intRow, hA, DataW.weights, he]
          exact List.mem_cons_self)
        rw [hQ] at z
        refine Nat.le_trans (Nat.mul_le_mul_right _ ?_) z
        simp only [lits, List.length_map, List.length_take, List.length_drop]
        omega
theorem each_weights {H : Type} {P : Program} {ts : List TypeId} {ds : List (DataW H)} (h : (DataW.weightsEach P ts ds).all (· ≤ reachBytes) = true) {j : Nat} {t : TypeId} {d : DataW H} (ht : ts[j]? = some t) (hd : ds[j]? = some d) : ∀ n ∈ d.weights P t, n ≤ reachBytes :=
  fun n hn => of_decide_eq_true (List.all_eq_true.1 h _ (DataW.weights_mem_each ht hd n hn))
/-- A struct of a number and a [][]int, by value. -/
theorem cnf_arg {H : Type} {enc : TypeId × Value → H} {Pr : Program} {W : World} {base b0 : Nat} {held : Bool} {t e q : TypeId} {r : Reach} {f0 f1 : Field} {v : Value} {d : DataW H} {ps : List MemPlace} {ts : List TypeId} {ds : List (DataW H)} {j : Nat} (e' : Nat)
    (hsz : (DataW.weightsEach Pr ts ds).all (· ≤ reachBytes) = true) (hj : ts[j]? = some t) (hd : ds[j]? = some d)
    (hs : Pr.underlying t = some (.struct #[f0, f1])) (hone : oneCellFields Pr #[f0, f1] = true) (hC : Pr.cellsOf t = 2) (h0 : Pr.underlying f0.type = some (.int .i64)) (h1 : Pr.underlying f1.type = some (.slice e)) (he : Pr.underlying e = some (.slice q))
    (hq : Pr.underlying q = some (.int .i64)) (ce : Pr.cellsOf e = 1) (cq : Pr.cellsOf q = 1) {E Q : Nat} (hE : Pr.bytesOf e = E) (hQ : Pr.bytesOf q = Q) (hv : Value.okWide Pr W r b0 t v) (h : DataW.Trod enc Pr W base (fun _ => true) held t v d ps) :
    ∃ (n : Int) (A : Option Addr) (c : Nat) (l : List (List Int)), v = .agg #[.int .i64 n, .slice A l.length c] ∧ (Lit.int .i64 n).wf = true ∧ (Kd.slice e' (Kd.int .i64)).C W A l.length l ∧ l.length ≤ c ∧ l.length * E ≤ 140737488351232 ∧ ∀ r ∈ l, r.length * Q ≤ 140737488351232 ∧ ∀ n ∈ r, (Lit.int .i64 n).wf = true := by
  obtain ⟨v0, v1, y0, y1, m, rfl, rfl, _, t0, t1⟩ := Joins.open_agg2 hs hone hC hv h
  obtain ⟨n, hn, _, wn⟩ := DataW.trod_int h0 t0
  obtain ⟨A, len, c, hc⟩ := Joins.slice_form h1 t1
  obtain rfl : v0 = .int .i64 n := by simpa using hn
  obtain rfl : v1 = .slice A len c := by simpa using hc
  have hw : ∀ n ∈ y1.1.weights Pr f1.type, n ≤ reachBytes := fun n hn => each_weights hsz hj hd n (by
    simp only [DataW.weights, hs]
    exact DataW.weights_mem_each (j := 1) (ts := [f0.type, f1.type]) (ds := [y0.1, y1.1]) rfl rfl n hn)
  obtain ⟨l, rfl, hl⟩ := rows_sized e' h1 he hq ce cq hE hQ t1 hw
  exact ⟨n, A, c, l, rfl, wn, hl⟩
end Go.Proofs.YtcdhhaedgohlgaaGreatDoor.P
end

section
namespace Go.Proofs.YtcdhhaedgohlgaaGreatDoorW.PrintWords
open Go.ChangeShapes Go.WideShapes
/-- A row's slice of whole numbers is no longer than its weight allows. -/
theorem sized_ints {H : Type} {enc : TypeId × Value → H} {P : Program} {W : World} {base : Nat} {spare : Nat → Bool} {held : Bool} {t e : TypeId} {k : IntKind} {a : Option Addr} {len cap : Nat} {d : DataW H} {ps : List MemPlace} {ts : List TypeId} {ds : List (DataW H)} {j : Nat}
    (hsz : (DataW.weightsEach P ts ds).all (· ≤ reachBytes) = true) (ht : ts[j]? = some t) (hd : ds[j]? = some d) (hu : P.underlying t = some (.slice e)) (he : P.underlying e = some (.int k)) (hc : P.cellsOf e = 1) {B : Nat} (hB : P.bytesOf e = B)
    (h : DataW.Trod enc P W base spare held t (.slice a len cap) d ps) : len * B ≤ 140737488351232 := by
  obtain ⟨fuel, hf⟩ := h
  rcases open_ints hu he hc hf with ⟨hcs, _⟩ | ⟨x, l, c, zs, hcs, _, hl, _, hz, hx, _, _⟩
  · simp [Value.cells] at hcs
    obtain ⟨rfl, rfl, rfl⟩ := hcs
    simp
  · simp [Value.cells] at hcs
    obtain ⟨rfl, rfl, rfl⟩ := hcs
    obtain ⟨hx, _⟩ := Prod.mk.inj hx
    subst hx
    have z := sized_slice hsz ht hd hu
    rw [hB] at z
    have hl2 : len ≤ zs.length := by
      rw [hz]
      split
      · exact hl
      · exact Nat.le_refl _
    have h1 : (lits (H := H) k (zs.take len)).length + (lits (H := H) k (zs.drop len)).length = zs.length := by
      simp [lits]
      omega
    rw [h1] at z
    exact Nat.le_trans (Nat.mul_le_mul_right _ hl2) z
end Go.Proofs.YtcdhhaedgohlgaaGreatDoorW.PrintWords
end
