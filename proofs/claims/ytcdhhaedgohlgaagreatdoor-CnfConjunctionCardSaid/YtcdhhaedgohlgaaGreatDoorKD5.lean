/- What the law CnfResolveSpec rests on, part 5: contracts of the functions that it reaches, and plain lemmas. No condition of its own. -/
import Derived.Test.YtcdhhaedgohlgaaGreatDoorKD4
import Derived.Deep.RegionHeld3
import Derived.Test.YtcdhhaedgohlgaaGreatDoorRows
import Derived.Lib.LaidU8T
import Derived.PinnedBridge
import Derived.Deep.Matrix
import Derived.Lib.SmallJoins
import Derived.SizedLaws
import Derived.ChangeSlices
set_option linter.unusedVariables false
set_option linter.unusedSimpArgs false
section
namespace Go.Proofs.YtcdhhaedgohlgaaGreatDoor.P
open Go.RowKit Go.Proofs.YtcdhhaedgohlgaaGreatDoorW.PrintWords Go.Proofs.YtcdhhaedgohlgaaGreatDoorW.PrintLast Go.Proofs.YtcdhhaedgohlgaaGreatDoorW.PrintMore
set_option linter.unusedVariables false
set_option linter.unusedSimpArgs false
set_option maxRecDepth 100000

theorem below_of_old {w wd wp w0 w1 : World} {r : Option Nat} (hp : Below w.heap.size w wp) (h : Below w.heap.size w wd) (ho : ∀ b, b < wd.heap.size → w1.heap[b]? = wd.heap[b]?) (hg : w.heap.size < wd.heap.size) (hs : wd.heap.size ≤ w1.heap.size) (hq : w0.grownBy w1 r) (h0 : w0.os = wp.os := by rfl) (ht : w0.tape = wp.tape := by rfl) (hu : w0.output = wp.output := by rfl) : Below w.heap.size w w1 :=
  ⟨(hq.os.trans h0).trans hp.os, (hq.tape.trans ht).trans hp.tape, (hq.output.trans hu).trans hp.output, Nat.le_trans h.size hs, fun k hk => (ho k (by omega)).trans (h.block k hk)⟩
set_option maxHeartbeats 8000000 in
theorem Conj_calls (n : Int) (A0 : Option Addr) (c0 : Nat) (L : List (List Int)) (A1 : Option Addr) (c1 : Nat) (M : List (List Int)) (k : Int) (A3 : Option Addr) (c3 : Nat) (t : List Bool) (w : World) (hLaid : Laid w)
    (hr0 : Kd.C (Kd.slice 3 (Kd.int .i64)) w A0 L.length L) (hc0 : L.length ≤ c0) (hr1 : Kd.C (Kd.slice 3 (Kd.int .i64)) w A1 M.length M) (hc1 : M.length ≤ c1) (hr3 : Kd.C Kd.bool w A3 t.length t) (hc3 : t.length ≤ c3) (hS0 : SmallL L) (hS1 : SmallL M) :
    Calls Tryz.prog 11 #[.agg #[.int .i64 n, .slice A0 L.length c0], .slice A1 M.length c1, .int .i64 k, .slice A3 t.length c3] w fun e w' => e = .returned (.bool true) ∧ Below w.heap.size w w' := by
  obtain ⟨k1, hf1⟩ := EvL.some_ (few_f n L hS0)
  obtain ⟨k2, hf2⟩ := EvL.some_ (Few_f M hS1)
  have HR0 := Aside0.mk hr0
  have HR1 := Aside0.mk hr1
  have HR3 := Aside0.mk hr3
  have HLAID := Aside0.mk hLaid
  have HF1 := Aside0.mk hf1
  have HF2 := Aside0.mk hf2
  have hmM : M.length ≤ 9223372036854775807 := hr1.2.1
  have hmt : t.length ≤ 9223372036854775807 := hr3.2.1
  have hmL : L.length ≤ 9223372036854775807 := hr0.2.1
  clear hr0 hr1 hr3 hLaid hf1 hf2 hS0 hS1
  have HBX : Aside0 (Below w.heap.size w (w.alloc (.cells #[.int .i64 n, .slice A0 L.length c0] 24))) := ⟨(Below.refl _ _).alloc (Nat.le_refl _) _⟩
  have HLV := Aside0.mk (chalklinelaw14_live.calls true _ (HLAID.out.on HBX.out) rfl)
  have HZ : Aside0 (∀ W, Below (w.alloc (.cells #[.int .i64 n, .slice A0 L.length c0] 24)).heap.size (w.alloc (.cells #[.int .i64 n, .slice A0 L.length c0] 24)) W → Below w.heap.size w W ∧ W.heap[w.heap.size]? = some (.cells #[.int .i64 n, .slice A0 L.length c0] 24 (0, 0))) :=
    ⟨fun W hb => ⟨below_trans' HBX.out hb, (hb.block _ (by simp)).trans (blk_new w _)⟩⟩
  by_cases hM : fewV M = true
  case neg =>
    have HM : Aside0 (fewV M = false) := ⟨by simpa using hM⟩
    clear hM
    rw [HM.out] at HF2
    by_cases hL : fewV L = true
    · have HL := Aside0.mk hL
      clear hL
      rw [HL.out] at HF1
      go_enter Tryz.func11, Tryz.ntmps11
      go_wp2_with (first | (go_at_call 21; refine (HLV.out).mono ?_; rintro e w1 ⟨rfl, hb⟩; have HB1 := Aside0.mk hb; have HW1 := Aside0.mk (HZ.out w1 hb).1; clear hb) | (go_at_call 43; refine (chalklineref14_Few.calls k2 _ _ M false _ ?s1 ?s2 HF2.out).mono ?_; (case s1 => exact Kd.C_below HR1.out HW1.out); (case s2 => exact hc1); rintro e w2 ⟨rfl, hb⟩; replace hb : Below w1.heap.size w1 w2 := (by first | exact hb | exact hb.below); have HB2 := Aside0.mk (below_trans' HB1.out hb); have HW2 := Aside0.mk (HZ.out w2 HB2.out).1; have HK2 := Aside0.mk (HZ.out w2 HB2.out).2; clear hb; have hz0 : w2.cell? ⟨w.heap.size, 0, none⟩ = some (.int .i64 n) := (blk_cell HK2.out 0).trans rfl; have hz1 : w2.cell? ⟨w.heap.size, 1, none⟩ = some (.slice A0 L.length c0) := (blk_cell HK2.out 1).trans rfl) | (go_at_call 22; refine (chalklinelaw14_few.calls k1 n _ _ L true _ ?s1 ?s2 HF1.out).mono ?_; (case s1 => exact Kd.C_below HR0.out HW2.out); (case s2 => exact hc0); rintro e w3 ⟨rfl, hb⟩; replace hb : Below w2.heap.size w2 w3 := (by first | exact hb | exact hb.below); have HB3 := Aside0.mk (below_trans' HB2.out hb); have HW3 := Aside0.mk (HZ.out w3 HB3.out).1; have HK3 := Aside0.mk (HZ.out w3 HB3.out).2; clear hb; clear hz0 hz1; have hz0 : w3.cell? ⟨w.heap.size, 0, none⟩ = some (.int .i64 n) := (blk_cell HK3.out 0).trans rfl; have hz1 : w3.cell? ⟨w.heap.size, 1, none⟩ = some (.slice A0 L.length c0) := (blk_cell HK3.out 1).trans rfl; have hs3 : w.heap.size < w3.heap.size := (Array.getElem?_eq_some_iff.1 HK3.out).1))
      go_ret
      exact ⟨rfl, HW3.out⟩
    · have HL : Aside0 (fewV L = false) := ⟨by simpa using hL⟩
      clear hL
      rw [HL.out] at HF1
      go_enter Tryz.func11, Tryz.ntmps11
      go_wp2_with (first | (go_at_call 21; refine (HLV.out).mono ?_; rintro e w1 ⟨rfl, hb⟩; have HB1 := Aside0.mk hb; have HW1 := Aside0.mk (HZ.out w1 hb).1; clear hb) | (go_at_call 43; refine (chalklineref14_Few.calls k2 _ _ M false _ ?s1 ?s2 HF2.out).mono ?_; (case s1 => exact Kd.C_below HR1.out HW1.out); (case s2 => exact hc1); rintro e w2 ⟨rfl, hb⟩; replace hb : Below w1.heap.size w1 w2 := (by first | exact hb | exact hb.below); have HB2 := Aside0.mk (below_trans' HB1.out hb); have HW2 := Aside0.mk (HZ.out w2 HB2.out).1; have HK2 := Aside0.mk (HZ.out w2 HB2.out).2; clear hb; have hz0 : w2.cell? ⟨w.heap.size, 0, none⟩ = some (.int .i64 n) := (blk_cell HK2.out 0).trans rfl; have hz1 : w2.cell? ⟨w.heap.size, 1, none⟩ = some (.slice A0 L.length c0) := (blk_cell HK2.out 1).trans rfl) | (go_at_call 22; refine (chalklinelaw14_few.calls k1 n _ _ L false _ ?s1 ?s2 HF1.out).mono ?_; (case s1 => exact Kd.C_below HR0.out HW2.out); (case s2 => exact hc0); rintro e w3 ⟨rfl, hb⟩; replace hb : Below w2.heap.size w2 w3 := (by first | exact hb | exact hb.below); have HB3 := Aside0.mk (below_trans' HB2.out hb); have HW3 := Aside0.mk (HZ.out w3 HB3.out).1; have HK3 := Aside0.mk (HZ.out w3 HB3.out).2; clear hb; clear hz0 hz1; have hz0 : w3.cell? ⟨w.heap.size, 0, none⟩ = some (.int .i64 n) := (blk_cell HK3.out 0).trans rfl; have hz1 : w3.cell? ⟨w.heap.size, 1, none⟩ = some (.slice A0 L.length c0) := (blk_cell HK3.out 1).trans rfl; have hs3 : w.heap.size < w3.heap.size := (Array.getElem?_eq_some_iff.1 HK3.out).1))
      go_ret
      exact ⟨rfl, HW3.out⟩
  by_cases hL : fewV L = true
  case neg =>
    have HL : Aside0 (fewV L = false) := ⟨by simpa using hL⟩
    clear hL
    have HM := Aside0.mk hM
    clear hM
    rw [HL.out] at HF1
    rw [HM.out] at HF2
    go_enter Tryz.func11, Tryz.ntmps11
    go_wp2_with (first | (go_at_call 21; refine (HLV.out).mono ?_; rintro e w1 ⟨rfl, hb⟩; have HB1 := Aside0.mk hb; have HW1 := Aside0.mk (HZ.out w1 hb).1; clear hb) | (go_at_call 43; refine (chalklineref14_Few.calls k2 _ _ M true _ ?s1 ?s2 HF2.out).mono ?_; (case s1 => exact Kd.C_below HR1.out HW1.out); (case s2 => exact hc1); rintro e w2 ⟨rfl, hb⟩; replace hb : Below w1.heap.size w1 w2 := (by first | exact hb | exact hb.below); have HB2 := Aside0.mk (below_trans' HB1.out hb); have HW2 := Aside0.mk (HZ.out w2 HB2.out).1; have HK2 := Aside0.mk (HZ.out w2 HB2.out).2; clear hb; have hz0 : w2.cell? ⟨w.heap.size, 0, none⟩ = some (.int .i64 n) := (blk_cell HK2.out 0).trans rfl; have hz1 : w2.cell? ⟨w.heap.size, 1, none⟩ = some (.slice A0 L.length c0) := (blk_cell HK2.out 1).trans rfl) | (go_at_call 22; refine (chalklinelaw14_few.calls k1 n _ _ L false _ ?s1 ?s2 HF1.out).mono ?_; (case s1 => exact Kd.C_below HR0.out HW2.out); (case s2 => exact hc0); rintro e w3 ⟨rfl, hb⟩; replace hb : Below w2.heap.size w2 w3 := (by first | exact hb | exact hb.below); have HB3 := Aside0.mk (below_trans' HB2.out hb); have HW3 := Aside0.mk (HZ.out w3 HB3.out).1; have HK3 := Aside0.mk (HZ.out w3 HB3.out).2; clear hb; clear hz0 hz1; have hz0 : w3.cell? ⟨w.heap.size, 0, none⟩ = some (.int .i64 n) := (blk_cell HK3.out 0).trans rfl; have hz1 : w3.cell? ⟨w.heap.size, 1, none⟩ = some (.slice A0 L.length c0) := (blk_cell HK3.out 1).trans rfl; have hs3 : w.heap.size < w3.heap.size := (Array.getElem?_eq_some_iff.1 HK3.out).1))
    go_ret
    exact ⟨rfl, HW3.out⟩
  have HM := Aside0.mk hM
  have HL := Aside0.mk hL
  clear hM hL
  rw [HL.out] at HF1
  rw [HM.out] at HF2
  by_cases ht : 300 < t.length
  · have ht2 : (300 : Int) < (t.length : Int) := by omega
    clear ht
    go_enter Tryz.func11, Tryz.ntmps11
    go_wp2_with (first | (go_at_call 21; refine (HLV.out).mono ?_; rintro e w1 ⟨rfl, hb⟩; have HB1 := Aside0.mk hb; have HW1 := Aside0.mk (HZ.out w1 hb).1; clear hb) | (go_at_call 43; refine (chalklineref14_Few.calls k2 _ _ M true _ ?s1 ?s2 HF2.out).mono ?_; (case s1 => exact Kd.C_below HR1.out HW1.out); (case s2 => exact hc1); rintro e w2 ⟨rfl, hb⟩; replace hb : Below w1.heap.size w1 w2 := (by first | exact hb | exact hb.below); have HB2 := Aside0.mk (below_trans' HB1.out hb); have HW2 := Aside0.mk (HZ.out w2 HB2.out).1; have HK2 := Aside0.mk (HZ.out w2 HB2.out).2; clear hb; have hz0 : w2.cell? ⟨w.heap.size, 0, none⟩ = some (.int .i64 n) := (blk_cell HK2.out 0).trans rfl; have hz1 : w2.cell? ⟨w.heap.size, 1, none⟩ = some (.slice A0 L.length c0) := (blk_cell HK2.out 1).trans rfl) | (go_at_call 22; refine (chalklinelaw14_few.calls k1 n _ _ L true _ ?s1 ?s2 HF1.out).mono ?_; (case s1 => exact Kd.C_below HR0.out HW2.out); (case s2 => exact hc0); rintro e w3 ⟨rfl, hb⟩; replace hb : Below w2.heap.size w2 w3 := (by first | exact hb | exact hb.below); have HB3 := Aside0.mk (below_trans' HB2.out hb); have HW3 := Aside0.mk (HZ.out w3 HB3.out).1; have HK3 := Aside0.mk (HZ.out w3 HB3.out).2; clear hb; clear hz0 hz1; have hz0 : w3.cell? ⟨w.heap.size, 0, none⟩ = some (.int .i64 n) := (blk_cell HK3.out 0).trans rfl; have hz1 : w3.cell? ⟨w.heap.size, 1, none⟩ = some (.slice A0 L.length c0) := (blk_cell HK3.out 1).trans rfl; have hs3 : w.heap.size < w3.heap.size := (Array.getElem?_eq_some_iff.1 HK3.out).1))
    go_ret
    exact ⟨rfl, HW3.out⟩
  · have ht2 : ¬ (300 : Int) < (t.length : Int) := by omega
    clear ht
    go_enter Tryz.func11, Tryz.ntmps11
    go_wp2_with (first | (go_at_call 21; refine (HLV.out).mono ?_; rintro e w1 ⟨rfl, hb⟩; have HB1 := Aside0.mk hb; have HW1 := Aside0.mk (HZ.out w1 hb).1; clear hb) | (go_at_call 43; refine (chalklineref14_Few.calls k2 _ _ M true _ ?s1 ?s2 HF2.out).mono ?_; (case s1 => exact Kd.C_below HR1.out HW1.out); (case s2 => exact hc1); rintro e w2 ⟨rfl, hb⟩; replace hb : Below w1.heap.size w1 w2 := (by first | exact hb | exact hb.below); have HB2 := Aside0.mk (below_trans' HB1.out hb); have HW2 := Aside0.mk (HZ.out w2 HB2.out).1; have HK2 := Aside0.mk (HZ.out w2 HB2.out).2; clear hb; have hz0 : w2.cell? ⟨w.heap.size, 0, none⟩ = some (.int .i64 n) := (blk_cell HK2.out 0).trans rfl; have hz1 : w2.cell? ⟨w.heap.size, 1, none⟩ = some (.slice A0 L.length c0) := (blk_cell HK2.out 1).trans rfl) | (go_at_call 22; refine (chalklinelaw14_few.calls k1 n _ _ L true _ ?s1 ?s2 HF1.out).mono ?_; (case s1 => exact Kd.C_below HR0.out HW2.out); (case s2 => exact hc0); rintro e w3 ⟨rfl, hb⟩; replace hb : Below w2.heap.size w2 w3 := (by first | exact hb | exact hb.below); have HB3 := Aside0.mk (below_trans' HB2.out hb); have HW3 := Aside0.mk (HZ.out w3 HB3.out).1; have HK3 := Aside0.mk (HZ.out w3 HB3.out).2; clear hb; clear hz0 hz1; have hz0 : w3.cell? ⟨w.heap.size, 0, none⟩ = some (.int .i64 n) := (blk_cell HK3.out 0).trans rfl; have hz1 : w3.cell? ⟨w.heap.size, 1, none⟩ = some (.slice A0 L.length c0) := (blk_cell HK3.out 1).trans rfl; have hs3 : w.heap.size < w3.heap.size := (Array.getElem?_eq_some_iff.1 HK3.out).1))
    have HWd : Aside0 (Below w.heap.size w (w3.alloc (.cells #[.int .i64 n, .slice A1 M.length c1] 24))) := ⟨HW3.out.alloc (by omega) _⟩
    have HKc : Aside0 ((w3.alloc (.cells #[.int .i64 n, .slice A1 M.length c1] 24)).heap[w.heap.size]? = some (.cells #[.int .i64 n, .slice A0 L.length c0] 24 (0, 0))) := ⟨(Below.heap_alloc _ _ _ hs3).trans HK3.out⟩
    have HKd : Aside0 ((w3.alloc (.cells #[.int .i64 n, .slice A1 M.length c1] 24)).heap[w3.heap.size]? = some (.cells #[.int .i64 n, .slice A1 M.length c1] 24 (0, 0))) := ⟨blk_new w3 _⟩
    have HSd : Aside0 (w3.heap.size < (w3.alloc (.cells #[.int .i64 n, .slice A1 M.length c1] 24)).heap.size) := ⟨by simp⟩
    have HS3 := Aside0.mk hs3
    clear hz0 hz1 hs3
    generalize w3.alloc (.cells #[.int .i64 n, .slice A1 M.length c1] 24) = wd at *
    generalize w3.heap.size = gd at *
    clear HK3 HW3 HB3 HK2 HW2 HB2 HW1 HB1
    have hz0 : wd.cell? ⟨w.heap.size, 0, none⟩ = some (.int .i64 n) := (blk_cell HKc.out 0).trans rfl
    have hz1 : wd.cell? ⟨w.heap.size, 1, none⟩ = some (.slice A0 L.length c0) := (blk_cell HKc.out 1).trans rfl
    have hgs : w.heap.size < wd.heap.size := Nat.lt_trans HS3.out HSd.out
    obtain ⟨lM, m1, m2, m3, m4⟩ := heads_of_C2 HR1.out
    obtain ⟨lC, q1, q2, q3, q4⟩ := heads_of_C2 HR0.out
    have HM1 := Aside0.mk m1
    have HM2 := Aside0.mk m2
    have HM3 := Aside0.mk m3
    have HM4 := Aside0.mk m4
    have HC1 := Aside0.mk q1
    have HC2 := Aside0.mk q2
    have HC3 := Aside0.mk q3
    have HC4 := Aside0.mk q4
    have HLM : Aside0 (M.length = lM.length) := ⟨by rw [← m1, readX_len]⟩
    have HLC : Aside0 (L.length = lC.length) := ⟨by rw [← q1, readX_len]⟩
    have HSM : Aside0 (lM.length + lC.length ≤ 400) := ⟨by
      have h1 := HM.out
      have h2 := HL.out
      unfold fewV at h1 h2
      simp only [Bool.and_eq_true, decide_eq_true_eq] at h1 h2
      rw [← HLM.out, ← HLC.out]
      omega⟩
    clear m1 m2 m3 m4 q1 q2 q3 q4
    go_cut [11] (fun v11 wc => ∃ (g : Nat) (v2 : Value), v11 = .pointer (some ⟨g, 0, none⟩) ∧ CJ w wd n g v2 (lM ++ lC) wc)
    case first =>
      go_region_held3 (fun W => W.cell? ⟨w.heap.size, 0, none⟩ = some (.int .i64 n) ∧ W.cell? ⟨w.heap.size, 1, none⟩ = some (.slice A0 L.length c0)) (first | (refine ⟨?_, ?_⟩ <;> assumption) | exact ⟨(World.cell?_of_block (a := ⟨w.heap.size, 0, none⟩) (HJ11.out.old _ hgs)).trans hz0, (World.cell?_of_block (a := ⟨w.heap.size, 1, none⟩) (HJ11.out.old _ hgs)).trans hz1⟩ | exact ⟨(World.cell?_of_block (a := ⟨w.heap.size, 0, none⟩) (HJ12.out.old _ hgs)).trans hz0, (World.cell?_of_block (a := ⟨w.heap.size, 1, none⟩) (HJ12.out.old _ hgs)).trans hz1⟩ | exact ⟨(World.cell?_of_block (a := ⟨w.heap.size, 0, none⟩) (HJ13.out.old _ hgs)).trans hz0, (World.cell?_of_block (a := ⟨w.heap.size, 1, none⟩) (HJ13.out.old _ hgs)).trans hz1⟩ | exact ⟨(World.cell?_of_block (a := ⟨w.heap.size, 0, none⟩) (HJD.out.old _ hgs)).trans hz0, (World.cell?_of_block (a := ⟨w.heap.size, 1, none⟩) (HJD.out.old _ hgs)).trans hz1⟩ | go_keep) (first | ((refine step_append_heads wd.heap.size (by rfl) (.tmp 39) (.tmp 40) (by rfl) _ [] lM A1 c1 (by rfl) ?hx ?hO ?hb HM3.out ?hc ?hl ?_); (case hx => exact congrArg (fun m => Value.slice A1 m c1) HLM.out); (case hO => exact RX_empty (by simp) (by first | exact blk_new _ _ | exact (alloc2 wd _ _).1 | exact (alloc2 wd _ _).2)); (case hb => first | (simp; done) | (simp; omega) | (have := HSA.out; simp; omega) | (have := HSA.out; omega)); (case hc => intro ad hA j u hu; have h := HM4.out ad hA j u hu; exact (Below.cell (B := w.heap.size) (by repeat (first | exact HWd.out | exact HBA.out | apply below_alloc | apply pw_below_drewN | apply below_drew1)) (World.block_lt_of_cell? w _ h)).trans h); (case hl => have := HSM.out; simp; omega); intro v1 w1 hR hg hold h24; have HOLD1 : Aside0 (∀ b, b < wd.heap.size → w1.heap[b]? = wd.heap[b]?) := ⟨fun b hb => (hold b hb).trans (Below.block (B := wd.heap.size) (w := wd) (by repeat (first | exact Below.refl _ _ | apply below_alloc | apply pw_below_drewN | apply below_drew1)) b hb)⟩; have HR1_ := Aside0.mk hR; have hz0_1 : w1.cell? ⟨w.heap.size, 0, none⟩ = some (.int .i64 n) := (World.cell?_of_block (a := ⟨w.heap.size, 0, none⟩) (HOLD1.out _ hgs)).trans hz0; have hz1_1 : w1.cell? ⟨w.heap.size, 1, none⟩ = some (.slice A0 L.length c0) := (World.cell?_of_block (a := ⟨w.heap.size, 1, none⟩) (HOLD1.out _ hgs)).trans hz1; have HSA : Aside0 (wd.heap.size ≤ w1.heap.size) := ⟨Nat.le_trans (Below.size (B := wd.heap.size) (w := wd) (by repeat (first | exact Below.refl _ _ | apply below_alloc | apply pw_below_drewN | apply below_drew1))) hg.size⟩; have HBA : Aside0 (Below w.heap.size w w1) := ⟨below_of_old HWd.out HWd.out HOLD1.out hgs HSA.out hg⟩; (try (have e11 : w1.heap[wd.heap.size]? = some (.cells #[.int .i64 0, .slice none 0 0] 24 (0, 0)) := h24 _ _ _ (by first | exact blk_new _ _ | exact (alloc2 wd _ _).1 | exact (alloc2 wd _ _).2); have E11 := Aside0.mk e11; clear e11)); (try (have e12 : w1.heap[wd.heap.size + 1]? = some (.cells #[.int .i64 0, .slice none 0 0] 24 (0, 0)) := h24 _ _ _ (by first | exact blk_new _ _ | exact (alloc2 wd _ _).1 | exact (alloc2 wd _ _).2); have E12 := Aside0.mk e12; clear e12)); clear hR hg hold h24) | ((refine step_append_heads wd.heap.size (by rfl) (.tmp 41) (.tmp 43) (by rfl) _ lM lC A0 c0 (by rfl) ?hx ?hO ?hb HC3.out ?hc ?hl ?_); (case hx => exact congrArg (fun m => Value.slice A0 m c0) HLC.out); (case hO => (repeat (first | exact HR1_.out | refine RX.alloc ?_ _ | refine RX.drew ?_ | refine RX.drewN ?_ _))); (case hb => first | (simp; done) | (simp; omega) | (have := HSA.out; simp; omega) | (have := HSA.out; omega)); (case hc => intro ad hA j u hu; have h := HC4.out ad hA j u hu; exact (Below.cell (B := w.heap.size) (by repeat (first | exact HWd.out | exact HBA.out | apply below_alloc | apply pw_below_drewN | apply below_drew1)) (World.block_lt_of_cell? w _ h)).trans h); (case hl => have := HSM.out; simp; omega); intro v2 w2 hR hg hold h24; have HOLD2 : Aside0 (∀ b, b < wd.heap.size → w2.heap[b]? = wd.heap[b]?) := ⟨fun b hb => ((hold b hb).trans (Below.block (B := w1.heap.size) (w := w1) (by repeat (first | exact Below.refl _ _ | apply below_alloc | apply pw_below_drewN | apply below_drew1)) b (Nat.lt_of_lt_of_le hb HSA.out))).trans (HOLD1.out b hb)⟩; have HR2_ := Aside0.mk hR; have hz0_2 : w2.cell? ⟨w.heap.size, 0, none⟩ = some (.int .i64 n) := (World.cell?_of_block (a := ⟨w.heap.size, 0, none⟩) (HOLD2.out _ hgs)).trans hz0; have hz1_2 : w2.cell? ⟨w.heap.size, 1, none⟩ = some (.slice A0 L.length c0) := (World.cell?_of_block (a := ⟨w.heap.size, 1, none⟩) (HOLD2.out _ hgs)).trans hz1; have HSB : Aside0 (wd.heap.size ≤ w2.heap.size) := ⟨Nat.le_trans HSA.out (Nat.le_trans (Below.size (B := w1.heap.size) (w := w1) (by repeat (first | exact Below.refl _ _ | apply below_alloc | apply pw_below_drewN | apply below_drew1))) hg.size)⟩; have HBB : Aside0 (Below w.heap.size w w2) := ⟨below_of_old HBA.out HWd.out HOLD2.out hgs HSB.out hg⟩; (try (have b11 : w2.heap[wd.heap.size]? = some (.cells #[.int .i64 0, .slice none 0 0] 24 (0, 0)) := h24 _ _ _ (by exact E11.out); have B11 := Aside0.mk b11; have cb110 : w2.cell? ⟨wd.heap.size, 0, none⟩ = some (.int .i64 0) := (blk_cell b11 0).trans rfl; have cb111 : w2.cell? ⟨wd.heap.size, 1, none⟩ = some (.slice none 0 0) := (blk_cell b11 1).trans rfl; have fb110 := blk_frozen b11 0; have fb111 := blk_frozen b11 1; clear b11)); (try (have b12 : w2.heap[wd.heap.size + 1]? = some (.cells #[.int .i64 0, .slice none 0 0] 24 (0, 0)) := h24 _ _ _ (by exact E12.out); have B12 := Aside0.mk b12; have cb120 : w2.cell? ⟨wd.heap.size + 1, 0, none⟩ = some (.int .i64 0) := (blk_cell b12 0).trans rfl; have cb121 : w2.cell? ⟨wd.heap.size + 1, 1, none⟩ = some (.slice none 0 0) := (blk_cell b12 1).trans rfl; have fb120 := blk_frozen b12 0; have fb121 := blk_frozen b12 1; clear b12)); (try (have b13 : w2.heap[w1.heap.size]? = some (.cells #[.int .i64 0, .slice none 0 0] 24 (0, 0)) := h24 _ _ _ (by exact blk_new _ _); have B13 := Aside0.mk b13; have cb130 : w2.cell? ⟨w1.heap.size, 0, none⟩ = some (.int .i64 0) := (blk_cell b13 0).trans rfl; have cb131 : w2.cell? ⟨w1.heap.size, 1, none⟩ = some (.slice none 0 0) := (blk_cell b13 1).trans rfl; have fb130 := blk_frozen b13 0; have fb131 := blk_frozen b13 1; clear b13)); clear hR hg hold h24; obtain ⟨p2, cap2, e2⟩ := HR2_.out.form; rw [List.length_append] at e2; subst e2; (try (have HJ11 := Aside0.mk (CJ.set (n := n) HBB.out HOLD2.out HR2_.out HSB.out (Nat.le_of_lt hgs) B11.out (Nat.le_refl _)))); (try (have HJ12 := Aside0.mk (CJ.set (n := n) HBB.out HOLD2.out HR2_.out HSB.out (Nat.le_of_lt hgs) B12.out (Nat.le_succ _)))); (try (have HJ13 := Aside0.mk (CJ.set (n := n) HBB.out HOLD2.out HR2_.out HSB.out (Nat.le_of_lt hgs) B13.out HSA.out))); have HJD := Aside0.mk (CJ.alloc (n := n) HBB.out HOLD2.out HR2_.out HSB.out (Nat.le_of_lt hgs))))
      all_goals go_wp2
      all_goals go_meet
      all_goals first
        | exact ⟨_, _, rfl, HJ11.out⟩
        | exact ⟨_, _, rfl, HJ12.out⟩
        | exact ⟨_, _, rfl, HJ13.out⟩
        | exact ⟨_, _, rfl, HJD.out⟩
        | exact ⟨_, _, rfl, HJ11.out.drew⟩
        | exact ⟨_, _, rfl, HJ12.out.drew⟩
        | exact ⟨_, _, rfl, HJ13.out.drew⟩
        | exact ⟨_, _, rfl, HJD.out.drew⟩
    case rest =>
      rename World => wq
      obtain ⟨g, v2, rfl, hJ⟩ := hcut
      have hG : GoodC wq (lM ++ lC) := (HM2.out.append HC2.out).below hJ.below
      obtain ⟨A2, cap2, rfl, hcap2, hAC⟩ := RX.C hJ.row hG
      have HAC := Aside0.mk hAC
      have HAT := Aside0.mk (RX.each hJ.row)
      have HRD : Aside0 (readX (lM ++ lC) = M ++ L) := ⟨by rw [readX_append, HM1.out, HC1.out]⟩
      have hn4 : (lM ++ lC).length ≤ 400 := by have := HSM.out; simpa using this
      have HJ := Aside0.mk hJ
      have HWC := Aside0.mk hJ.below
      have hge := hJ.ge
      have hgc : g < wq.heap.size := (Array.getElem?_eq_some_iff.1 hJ.box).1
      have HBC : Aside0 (wq.heap[w.heap.size]? = some (.cells #[.int .i64 n, .slice A0 L.length c0] 24 (0, 0))) := ⟨(hJ.old _ hgs).trans HKc.out⟩
      have HBD : Aside0 (wq.heap[gd]? = some (.cells #[.int .i64 n, .slice A1 M.length c1] 24 (0, 0))) := ⟨(hJ.old _ HSd.out).trans HKd.out⟩
      have HBG : Aside0 (wq.heap[g]? = some (.cells #[.int .i64 n, .slice A2 (lM ++ lC).length cap2] 24 (0, 0))) := ⟨hJ.box⟩
      have HGD : Aside0 (GoodC wq (lM ++ lC)) := ⟨hG⟩
      clear hJ hAC hz0 hz1 hG HM3 HM4 HC3 HC4 HM1 HM2 HC1 HC2
      generalize lM ++ lC = la at *
      have hz0 : wq.cell? ⟨w.heap.size, 0, none⟩ = some (.int .i64 n) := (blk_cell HBC.out 0).trans rfl
      have hz1 : wq.cell? ⟨g, 1, none⟩ = some (.slice A2 la.length cap2) := (blk_cell HBG.out 1).trans rfl
      go_wp2
      go_loopg [13] la.length (fun gg s13 wr => ∃ (j : Nat) (x : Int) (vt : Value), j ≤ la.length ∧ la.length - j ≤ gg ∧ s13 = .int .i64 x ∧ Aside0 (x = (la.length : Int) - 1 - j) ∧ Aside0 (Below wq.heap.size wq wr) ∧ Aside0 (CJ w wq n wq.heap.size vt (la.reverse.take j) wr))
      case atStart =>
        refine ⟨0, _, .slice none 0 0, Nat.zero_le _, by omega, rfl, ⟨?_⟩, ⟨(Below.refl _ _).alloc (Nat.le_refl _) _⟩, ⟨CJ.alloc HWC.out (fun _ _ => rfl) (RX.nil _ _) (Nat.le_refl _) HWC.out.size⟩⟩
        first | rfl | simp | omega
      case round =>
        obtain ⟨j, x, vt, hj, hgg, rfl, HX0, HBW, HCT⟩ := hrel
        rcases Nat.lt_or_ge j la.length with hlt | hge2
        · obtain ⟨i, hi⟩ : ∃ i : Nat, i = la.length - 1 - j := ⟨_, rfl⟩
          have hxi : x = (i : Int) := by have := HX0.out; omega
          subst hxi
          have hil : i < la.length := by omega
          obtain ⟨ga, rfl, hga, hel⟩ := HAT.out i hil
          obtain ⟨⟨Ae, ce, qe⟩, he⟩ : ∃ e : HX, e = la[i] := ⟨_, rfl⟩
          rw [← he] at hel
          replace hel : wq.cell? ⟨ga, i, none⟩ = some (.slice Ae qe.length ce) := hel
          have HE := Aside0.mk he
          have HI := Aside0.mk hi
          have hc0i : (0 : Int) ≤ (i : Int) := Int.natCast_nonneg i
          have hci : (i : Int) < (la.length : Int) := by omega
          clear he hi
          have hel' := pw_cell_below HBW.out hel
          have hg1 := pw_cell_below HBW.out hz1
          have hvt : wr.cell? ⟨wq.heap.size, 1, none⟩ = some vt := (blk_cell HCT.out.box 1).trans rfl
          have hvf := blk_frozen HCT.out.box 1
          have hal : ∀ o, (wr.alloc o).cell? ⟨wq.heap.size, 1, none⟩ = some vt := fun o => pw_cell_below (below_alloc (Below.refl _ _) o) hvt
          clear hel hz0 hz1
          go_wp2
          refine wp_region_noPanic ?_
          go_region_law
            (first
              | ((refine step_append_heads wq.heap.size (by rfl) (.tmp 58) (.tmp 64) (by rfl) _ (la.reverse.take j) [(Ae, ce, qe)] (some ⟨wr.heap.size, 0, none⟩) 1 (by rfl) ?hx ?hO ?hb ?hn ?hc ?hl ?_); (case hx => rfl); (case hO => exact HCT.out.row.alloc _); (case hb => have := HCT.out.size; simp; omega); (case hn => intro h; cases h); (case hc => exact cell_one wr.drew (Ae, ce, qe)); (case hl => simp; omega); intro v1 w1 hR hg hold h24; clear hold h24; obtain ⟨p1, cap1, e1⟩ := hR.form; obtain ⟨m1, hm1⟩ : ∃ m1, m1 = (la.reverse.take j ++ [(Ae, ce, qe)]).length := ⟨_, rfl⟩; rw [← hm1] at e1; have HM1 := Aside0.mk hm1; clear hm1; subst e1; have HP := Aside0.mk (CJ.push HCT.out HBW.out (by repeat (first | exact Below.refl _ _ | apply below_alloc | apply pw_below_drewN | apply below_drew1)) hR hg); have HRr := Aside0.mk hR; have hvt1 : w1.cell? ⟨wq.heap.size, 1, none⟩ = some vt := (blk_cell HP.out.1 1).trans rfl; have hvf1 := blk_frozen HP.out.1 1; clear hR hg))
          all_goals refine NoPanic.normal ?_
          all_goals go_wp2
          all_goals go_roundg (la.length - (j + 1))
          all_goals first
            | (case measure => omega)
            | skip
          all_goals
            refine ⟨j + 1, (i : Int) - 1, .slice p1 m1 cap1, by omega, by omega, by go_num, ⟨?_⟩, ⟨HP.out.2.2⟩, ⟨?_⟩⟩
            · have := HI.out; omega
            · have e := take_rev_succ la j i HI.out hlt hil _ HE.out
              rw [e]
              exact HP.out.2.1
        · obtain rfl : j = la.length := by omega
          have hx : x = -1 := by have := HX0.out; omega
          subst hx
          replace HCT : Aside0 (CJ w wq n wq.heap.size vt la.reverse wr) := ⟨by have h := HCT.out; rwa [List.take_of_length_le (by simp)] at h⟩
          obtain ⟨A5, cap5, e5, hcap5, hTC⟩ := RX.C HCT.out.row ((HGD.out.below HBW.out).reverse)
          rw [List.length_reverse] at e5 hcap5
          subst e5
          have HTC := Aside0.mk hTC
          clear hTC
          have hq0 := pw_cell_below HBW.out hz0
          have hq1 := pw_cell_below HBW.out hz1
          clear hz0 hz1
          obtain ⟨a, ha, hat⟩ := cut16 k la.length
          have HAT_ := Aside0.mk hat
          clear hat
          go_upto_region 14 with (fail)
          rw [HAT_.out]
          have hac : (a : Int) ≤ (cap2 : Int) := by omega
          have ha0 : (0 : Int) ≤ (a : Int) := Int.natCast_nonneg a
          have hqa0 : ∀ o, (wr.alloc o).cell? ⟨w.heap.size, 0, none⟩ = some (.int .i64 n) := fun o => pw_cell_below (below_alloc (Below.refl _ _) o) hq0
          have hqa1 : ∀ o, (wr.alloc o).cell? ⟨g, 1, none⟩ = some (.slice A2 la.length cap2) := fun o => pw_cell_below (below_alloc (Below.refl _ _) o) hq1
          go_cut [15] (fun v15 wc => ∃ gf : Nat, v15 = .pointer (some ⟨gf, 0, none⟩) ∧ Below wr.heap.size wr wc ∧ wc.heap[gf]? = some (.cells #[.int .i64 n, .slice A2 a cap2] 24 (0, 0)))
          case first =>
            refine wp_region_noPanic ?_
            go_region_law (fail)
            all_goals refine NoPanic.normal ?_
            all_goals go_wp2
            all_goals go_meet
            all_goals first
              | exact ⟨_, rfl, (by repeat (first | exact Below.refl _ _ | apply below_alloc | apply pw_below_drewN | apply below_drew1)), blk_new _ _⟩
              | exact ⟨_, rfl, below_set2 (by repeat (first | exact Below.refl _ _ | apply below_alloc | apply pw_below_drewN | apply below_drew1)) (by simp) _ _, blk_put (blk_put (blk_new _ _) 0 _ rfl) 1 _ rfl⟩
          case rest =>
            obtain ⟨gf, rfl, hbx, hbf⟩ := hcut
            have HBX2 := Aside0.mk hbx
            have HBWX : Aside0 (Below wq.heap.size wq wc) := ⟨below_trans' HBW.out hbx⟩
            have HX : Aside0 (Below w.heap.size w wc) := ⟨below_trans' HCT.out.below hbx⟩
            have hla : la.length = (M ++ L).length := by rw [← HRD.out, readX_len]
            have hlML : M.length + L.length ≤ 400 := by rw [List.length_append] at hla; omega
            have HVA : Aside0 (∀ W, Below wc.heap.size wc W → Calls Tryz.prog 32 #[.agg #[.int .i64 n, .slice A2 la.length cap2], .slice A3 t.length c3] W fun e w' => e = .returned (.bool (valueV n (M ++ L) t)) ∧ Below W.heap.size W w') := ⟨fun W hW => by
              have h := HAC.out la.length (Nat.le_refl _)
              rw [HRD.out, List.take_of_length_le (by omega)] at h
              have h2 := cnf_Value.calls n A2 cap2 (M ++ L) A3 c3 t _ W (by rw [← hla]; exact Kd.C_below h (below_trans' HBWX.out hW)) (by rw [← hla]; exact hcap2) (Kd.C_below HR3.out (below_trans' HX.out hW)) hc3 rfl
              rw [← hla] at h2
              exact h2⟩
            have HVF : Aside0 (∀ W, Below wc.heap.size wc W → Calls Tryz.prog 32 #[.agg #[.int .i64 n, .slice A2 a cap2], .slice A3 t.length c3] W fun e w' => e = .returned (.bool (valueV n ((M ++ L).take a) t)) ∧ Below W.heap.size W w') := ⟨fun W hW => by
              have h := HAC.out a ha
              rw [HRD.out] at h
              have hl2 : ((M ++ L).take a).length = a := by rw [List.length_take]; omega
              have h2 := cnf_Value.calls n A2 cap2 ((M ++ L).take a) A3 c3 t _ W (by rw [hl2]; exact Kd.C_below h (below_trans' HBWX.out hW)) (by rw [hl2]; omega) (Kd.C_below HR3.out (below_trans' HX.out hW)) hc3 rfl
              rw [hl2] at h2
              exact h2⟩
            have HVT : Aside0 (∀ W, Below wc.heap.size wc W → Calls Tryz.prog 32 #[.agg #[.int .i64 n, .slice A5 la.length cap5], .slice A3 t.length c3] W fun e w' => e = .returned (.bool (valueV n (M ++ L).reverse t)) ∧ Below W.heap.size W w') := ⟨fun W hW => by
              have h := HTC.out la.length (by simp)
              have hr : readX la.reverse = (M ++ L).reverse := by rw [← HRD.out]; simp [readX]
              rw [hr, List.take_of_length_le (by rw [List.length_reverse]; omega)] at h
              have hl2 : ((M ++ L).reverse).length = la.length := List.length_reverse.trans hla.symm
              have h2 := cnf_Value.calls n A5 cap5 ((M ++ L).reverse) A3 c3 t _ W (by rw [hl2]; exact Kd.C_below h (below_trans' HBX2.out hW)) (by rw [hl2]; exact hcap5) (Kd.C_below HR3.out (below_trans' HX.out hW)) hc3 rfl
              rw [hl2] at h2
              exact h2⟩
            have HVC : Aside0 (∀ W, Below wc.heap.size wc W → Calls Tryz.prog 32 #[.agg #[.int .i64 n, .slice A0 L.length c0], .slice A3 t.length c3] W fun e w' => e = .returned (.bool (valueV n L t)) ∧ Below W.heap.size W w') := ⟨fun W hW =>
              cnf_Value.calls n A0 c0 L A3 c3 t _ W (Kd.C_below HR0.out (below_trans' HX.out hW)) hc0 (Kd.C_below HR3.out (below_trans' HX.out hW)) hc3 rfl⟩
            have HVD : Aside0 (∀ W, Below wc.heap.size wc W → Calls Tryz.prog 32 #[.agg #[.int .i64 n, .slice A1 M.length c1], .slice A3 t.length c3] W fun e w' => e = .returned (.bool (valueV n M t)) ∧ Below W.heap.size W w') := ⟨fun W hW =>
              cnf_Value.calls n A1 c1 M A3 c3 t _ W (Kd.C_below HR1.out (below_trans' HX.out hW)) hc1 (Kd.C_below HR3.out (below_trans' HX.out hW)) hc3 rfl⟩
            have e1 : valueV n (M ++ L) t = (valueV n L t && valueV n M t) := valueV_append n M L t (by omega)
            have e2 : valueV n (M ++ L) t = valueV n (M ++ L).reverse t := valueV_perm n t (fun l => List.mem_reverse) (List.length_reverse)
            have e3 : valueV n (M ++ L) t = true → valueV n ((M ++ L).take a) t = true := valueV_mono (fun l h => List.mem_of_mem_take h) (by rw [List.length_take, List.length_append]; omega)
            have HCELL : Aside0 (∀ W, Below wc.heap.size wc W → W.cell? ⟨w.heap.size, 0, none⟩ = some (.int .i64 n) ∧ W.cell? ⟨w.heap.size, 1, none⟩ = some (.slice A0 L.length c0) ∧ W.cell? ⟨gd, 0, none⟩ = some (.int .i64 n) ∧ W.cell? ⟨gd, 1, none⟩ = some (.slice A1 M.length c1) ∧ W.cell? ⟨g, 0, none⟩ = some (.int .i64 n) ∧ W.cell? ⟨g, 1, none⟩ = some (.slice A2 la.length cap2) ∧ W.cell? ⟨wq.heap.size, 0, none⟩ = some (.int .i64 n) ∧ W.cell? ⟨wq.heap.size, 1, none⟩ = some (.slice A5 la.length cap5) ∧ W.cell? ⟨gf, 0, none⟩ = some (.int .i64 n) ∧ W.cell? ⟨gf, 1, none⟩ = some (.slice A2 a cap2)) := ⟨fun W hW => by
              have f1 := below_trans' HBWX.out hW
              have f2 := below_trans' HBX2.out hW
              have hbt := HCT.out.box
              refine ⟨pw_cell_below f1 ((blk_cell HBC.out 0).trans rfl), pw_cell_below f1 ((blk_cell HBC.out 1).trans rfl), pw_cell_below f1 ((blk_cell HBD.out 0).trans rfl), pw_cell_below f1 ((blk_cell HBD.out 1).trans rfl), pw_cell_below f1 ((blk_cell HBG.out 0).trans rfl), pw_cell_below f1 ((blk_cell HBG.out 1).trans rfl), pw_cell_below f2 ((blk_cell hbt 0).trans rfl), pw_cell_below f2 ((blk_cell hbt 1).trans rfl), pw_cell_below hW ((blk_cell hbf 0).trans rfl), pw_cell_below hW ((blk_cell hbf 1).trans rfl)⟩⟩
            clear hq0 hq1 hqa0 hqa1 hbx hbf hla hlML
            generalize valueV n (M ++ L) t = va at *
            generalize valueV n (M ++ L).reverse t = vt at *
            generalize valueV n ((M ++ L).take a) t = vf at *
            generalize valueV n L t = vc at *
            generalize valueV n M t = vd at *
            subst e2
            obtain ⟨z0, z1, z2, z3, z4, z5, z6, z7, z8, z9⟩ := HCELL.out wc (Below.refl _ _)
            have HCC : Aside0 (∀ (e : Ending) (W w1 : World), Below wc.heap.size wc W → Below W.heap.size W w1 → Below wc.heap.size wc w1) := ⟨fun e W w1 h1 h2 => below_trans' h1 h2⟩
            have HE1 := Aside0.mk e1
            have HE3 := Aside0.mk e3
            clear e1 e3
            have HB0 : Aside0 (Below wc.heap.size wc wc) := ⟨Below.refl _ _⟩
            go_upto_region 16 with (go_at_call 32; with_reducible refine (HVA.out _ HB0.out).mono ?_; rintro e wy ⟨rfl, hb⟩; have HB1 := Aside0.mk (below_trans' HB0.out hb); clear hb; clear z0 z1 z2 z3 z4 z5 z6 z7 z8 z9; obtain ⟨z0, z1, z2, z3, z4, z5, z6, z7, z8, z9⟩ := HCELL.out wy HB1.out)
            cases va with
            | false =>
              cases vc with
              | false =>
                go_wp2_with (first | (go_at_call 32; with_reducible refine (HVC.out _ HB1.out).mono ?_; rintro e hb2_ ⟨rfl, hb⟩; have HB2 := Aside0.mk (below_trans' HB1.out hb); clear hb; clear z0 z1 z2 z3 z4 z5 z6 z7 z8 z9; obtain ⟨z0, z1, z2, z3, z4, z5, z6, z7, z8, z9⟩ := HCELL.out hb2_ HB2.out) | (go_at_call 32; with_reducible refine (HVD.out _ HB2.out).mono ?_; rintro e hb3_ ⟨rfl, hb⟩; have HB3 := Aside0.mk (below_trans' HB2.out hb); clear hb; clear z0 z1 z2 z3 z4 z5 z6 z7 z8 z9; obtain ⟨z0, z1, z2, z3, z4, z5, z6, z7, z8, z9⟩ := HCELL.out hb3_ HB3.out) | (go_at_call 32; with_reducible refine (HVT.out _ HB3.out).mono ?_; rintro e hb4_ ⟨rfl, hb⟩; have HB4 := Aside0.mk (below_trans' HB3.out hb); clear hb; clear z0 z1 z2 z3 z4 z5 z6 z7 z8 z9; obtain ⟨z0, z1, z2, z3, z4, z5, z6, z7, z8, z9⟩ := HCELL.out hb4_ HB4.out) | (go_at_call 32; with_reducible refine (HVT.out _ HB2.out).mono ?_; rintro e hb4_ ⟨rfl, hb⟩; have HB4 := Aside0.mk (below_trans' HB2.out hb); clear hb; clear z0 z1 z2 z3 z4 z5 z6 z7 z8 z9; obtain ⟨z0, z1, z2, z3, z4, z5, z6, z7, z8, z9⟩ := HCELL.out hb4_ HB4.out) | (go_at_call 32; with_reducible refine (HVF.out _ HB4.out).mono ?_; rintro e hb5_ ⟨rfl, hb⟩; have HB5 := Aside0.mk (below_trans' HB4.out hb); clear hb; clear z0 z1 z2 z3 z4 z5 z6 z7 z8 z9; obtain ⟨z0, z1, z2, z3, z4, z5, z6, z7, z8, z9⟩ := HCELL.out hb5_ HB5.out))
                go_ret
                exact ⟨rfl, by first | exact below_trans' HX.out HB5.out | exact below_trans' HX.out HB4.out⟩
              | true =>
                obtain rfl : vd = false := by have h := HE1.out; simpa using h.symm
                go_wp2_with (first | (go_at_call 32; with_reducible refine (HVC.out _ HB1.out).mono ?_; rintro e hb2_ ⟨rfl, hb⟩; have HB2 := Aside0.mk (below_trans' HB1.out hb); clear hb; clear z0 z1 z2 z3 z4 z5 z6 z7 z8 z9; obtain ⟨z0, z1, z2, z3, z4, z5, z6, z7, z8, z9⟩ := HCELL.out hb2_ HB2.out) | (go_at_call 32; with_reducible refine (HVD.out _ HB2.out).mono ?_; rintro e hb3_ ⟨rfl, hb⟩; have HB3 := Aside0.mk (below_trans' HB2.out hb); clear hb; clear z0 z1 z2 z3 z4 z5 z6 z7 z8 z9; obtain ⟨z0, z1, z2, z3, z4, z5, z6, z7, z8, z9⟩ := HCELL.out hb3_ HB3.out) | (go_at_call 32; with_reducible refine (HVT.out _ HB3.out).mono ?_; rintro e hb4_ ⟨rfl, hb⟩; have HB4 := Aside0.mk (below_trans' HB3.out hb); clear hb; clear z0 z1 z2 z3 z4 z5 z6 z7 z8 z9; obtain ⟨z0, z1, z2, z3, z4, z5, z6, z7, z8, z9⟩ := HCELL.out hb4_ HB4.out) | (go_at_call 32; with_reducible refine (HVT.out _ HB2.out).mono ?_; rintro e hb4_ ⟨rfl, hb⟩; have HB4 := Aside0.mk (below_trans' HB2.out hb); clear hb; clear z0 z1 z2 z3 z4 z5 z6 z7 z8 z9; obtain ⟨z0, z1, z2, z3, z4, z5, z6, z7, z8, z9⟩ := HCELL.out hb4_ HB4.out) | (go_at_call 32; with_reducible refine (HVF.out _ HB4.out).mono ?_; rintro e hb5_ ⟨rfl, hb⟩; have HB5 := Aside0.mk (below_trans' HB4.out hb); clear hb; clear z0 z1 z2 z3 z4 z5 z6 z7 z8 z9; obtain ⟨z0, z1, z2, z3, z4, z5, z6, z7, z8, z9⟩ := HCELL.out hb5_ HB5.out))
                go_ret
                exact ⟨rfl, by first | exact below_trans' HX.out HB5.out | exact below_trans' HX.out HB4.out⟩
            | true =>
              obtain rfl : vf = true := HE3.out rfl
              obtain ⟨rfl, rfl⟩ : vc = true ∧ vd = true := by have h := HE1.out; simpa using h.symm
              go_wp2_with (first | (go_at_call 32; with_reducible refine (HVC.out _ HB1.out).mono ?_; rintro e hb2_ ⟨rfl, hb⟩; have HB2 := Aside0.mk (below_trans' HB1.out hb); clear hb; clear z0 z1 z2 z3 z4 z5 z6 z7 z8 z9; obtain ⟨z0, z1, z2, z3, z4, z5, z6, z7, z8, z9⟩ := HCELL.out hb2_ HB2.out) | (go_at_call 32; with_reducible refine (HVD.out _ HB2.out).mono ?_; rintro e hb3_ ⟨rfl, hb⟩; have HB3 := Aside0.mk (below_trans' HB2.out hb); clear hb; clear z0 z1 z2 z3 z4 z5 z6 z7 z8 z9; obtain ⟨z0, z1, z2, z3, z4, z5, z6, z7, z8, z9⟩ := HCELL.out hb3_ HB3.out) | (go_at_call 32; with_reducible refine (HVT.out _ HB3.out).mono ?_; rintro e hb4_ ⟨rfl, hb⟩; have HB4 := Aside0.mk (below_trans' HB3.out hb); clear hb; clear z0 z1 z2 z3 z4 z5 z6 z7 z8 z9; obtain ⟨z0, z1, z2, z3, z4, z5, z6, z7, z8, z9⟩ := HCELL.out hb4_ HB4.out) | (go_at_call 32; with_reducible refine (HVT.out _ HB2.out).mono ?_; rintro e hb4_ ⟨rfl, hb⟩; have HB4 := Aside0.mk (below_trans' HB2.out hb); clear hb; clear z0 z1 z2 z3 z4 z5 z6 z7 z8 z9; obtain ⟨z0, z1, z2, z3, z4, z5, z6, z7, z8, z9⟩ := HCELL.out hb4_ HB4.out) | (go_at_call 32; with_reducible refine (HVF.out _ HB4.out).mono ?_; rintro e hb5_ ⟨rfl, hb⟩; have HB5 := Aside0.mk (below_trans' HB4.out hb); clear hb; clear z0 z1 z2 z3 z4 z5 z6 z7 z8 z9; obtain ⟨z0, z1, z2, z3, z4, z5, z6, z7, z8, z9⟩ := HCELL.out hb5_ HB5.out))
              go_ret
              exact ⟨rfl, by first | exact below_trans' HX.out HB5.out | exact below_trans' HX.out HB4.out⟩
end Go.Proofs.YtcdhhaedgohlgaaGreatDoor.P
end

section
namespace Go.Proofs.YtcdhhaedgohlgaaGreatDoor.P
open Go.RowKit Go.Shelf Go.Lib

def renU : Ren := ⟨fun x => x, fun | 119 => 213 | 138 => 215 | 139 => 216 | n => n, fun x => x⟩
theorem typesU : U8Types Tryz.prog renU := ⟨by kernel_rfl, by kernel_rfl, by kernel_rfl, by kernel_rfl⟩
theorem extraU : U8Extra Tryz.prog renU := ⟨by kernel_rfl, by kernel_rfl, by kernel_rfl, by kernel_rfl, by kernel_rfl, by kernel_rfl, by kernel_rfl⟩
theorem pow_eq : Rows.laid_internal_strconv_uint64pow10 = (tabData .u64 pow10Tab : DataW Unit) := by kernel_rfl
theorem acc_eq : Rows.laid_unicode_utf8_acceptRanges = (acceptData : DataW Unit) := by kernel_rfl
theorem fst_eq : Rows.laid_unicode_utf8_first = (firstData : DataW Unit) := Pinned.utf8First_eq

theorem tab_of_reads {W : World} (h : VarReads Tryz.prog W tabP (tabData .u64 pow10Tab)) : TabIs Tryz.prog W tabP .u64 pow10Tab := by
  obtain ⟨g, t, cs, fuel, p, hg, hty, hvar, hd⟩ := h
  obtain rfl := Option.some.inj ((show Tryz.prog.globalNamed tabP = some 2 by kernel_rfl).symm.trans hg)
  obtain rfl := Option.some.inj ((show (Tryz.prog.globals[2]?).map (·.type) = some 211 by kernel_rfl).symm.trans hty)
  unfold TabIs
  rw [hvar, ← cells_of_tab (show Tryz.prog.underlying 211 = some (.array 20 171) by kernel_rfl) (show Tryz.prog.underlying 171 = some (.int .u64) by kernel_rfl) (by kernel_rfl) (by kernel_rfl) hd]
theorem utf8_below {g3 g4 : Nat} {w w' : World} (h : Utf8Tabs g3 g4 w) (hb : Below w.heap.size w w') : Utf8Tabs g3 g4 w' := by
  have key : ∀ {a : Addr} {v : Value}, w.cell? a = some v → w'.cell? a = some v := fun hc => (hb.cell (World.block_lt_of_cell? w _ hc)).trans hc
  exact ⟨fun c hc => key (h.1 c hc), fun i hi => ⟨key (h.2 i hi).1, key (h.2 i hi).2⟩⟩
theorem Laid.of_met {W : World} {l : List (String × DataW Unit)} (hL : laidMet Tryz.prog l W) (h1 : ("internal/strconv.uint64pow10", Rows.laid_internal_strconv_uint64pow10) ∈ l) (h2 : ("unicode/utf8.first", Rows.laid_unicode_utf8_first) ∈ l) (h3 : ("unicode/utf8.acceptRanges", Rows.laid_unicode_utf8_acceptRanges) ∈ l) : Laid W := by
  have r1 : VarReads Tryz.prog W tabP (tabData .u64 pow10Tab) := pow_eq ▸ Lib.laidMet.reads hL h1
  have r2 : VarReads Tryz.prog W "unicode/utf8.first" firstData := fst_eq ▸ Lib.laidMet.reads hL h2
  have r3 : VarReads Tryz.prog W "unicode/utf8.acceptRanges" acceptData := acc_eq ▸ Lib.laidMet.reads hL h3
  have t1 := tabBelow_of_tabIs (tab_of_reads r1)
  have t2 : Utf8Tabs 3 4 W := utf8Tabs_of_readsT typesU extraU r2 r3
  exact fun w' hb => ⟨t1 w' hb, utf8_below t2 hb⟩
end Go.Proofs.YtcdhhaedgohlgaaGreatDoor.P
end

section
namespace Go.Proofs.YtcdhhaedgohlgaaGreatDoor.P
open Go.Deep Go.RowKit Go.ChangeShapes Go.WideShapes Go.Proofs.YtcdhhaedgohlgaaGreatDoorW.PrintWords Go.Proofs.YtcdhhaedgohlgaaGreatDoorW.PrintLast Go.Proofs.YtcdhhaedgohlgaaGreatDoorW.PrintMore

theorem weightsAll_mem {H : Type} {P : Program} {e : TypeId} : ∀ {l : List (DataW H)} {d : DataW H}, d ∈ l → ∀ n ∈ d.weights P e, n ∈ DataW.weightsAll P e l
  | d' :: r, d, hd, n, hn => by
    simp only [DataW.weightsAll, List.mem_append]
    rcases List.mem_cons.1 hd with rfl | h
    · exact Or.inl hn
    · exact Or.inr (weightsAll_mem h n hn)
theorem rows_sized {H : Type} {enc : TypeId × Value → H} {Pr : Program} {W : World} {base : Nat} {held : Bool} {t e q : TypeId} {k : IntKind} {a : Option Addr} {len cap : Nat} {fuel : Nat} {x : DataW H × List MemPlace} (e' : Nat)
    (ht : Pr.underlying t = some (.slice e)) (he : Pr.underlying e = some (.slice q)) (hq : Pr.underlying q = some (.int k)) (ce : Pr.cellsOf e = 1) (cq : Pr.cellsOf q = 1) {E Q : Nat} (hE : Pr.bytesOf e = E) (hQ : Pr.bytesOf q = Q)
    (h : DataW.trod enc Pr W base (fun _ => true) held fuel t [.slice a len cap] = some x) (hw : ∀ n ∈ x.1.weights Pr t, n ≤ reachBytes) :
    ∃ l : List (List Int), len = l.length ∧ (Kd.slice e' (Kd.int k)).C W a l.length l ∧ l.length ≤ cap ∧ l.length * E ≤ 140737488351232 ∧ ∀ r ∈ l, r.length * Q ≤ 140737488351232 ∧ ∀ n ∈ r, (Lit.int k n).wf = true := by
  rcases Go.Deep.open_int_rows ht he hq ce cq h with ⟨hcs, _⟩ | ⟨ad, l, c, A, L, C, Z, hcs, _, hl, hm, hx, hcell⟩
  · simp at hcs
    obtain ⟨rfl, rfl, rfl⟩ := hcs
    exact ⟨[], rfl, ⟨rfl, Nat.zero_le _, fun h => absurd h (by simp)⟩, Nat.le_refl _, by simp, fun r hr => by simp at hr⟩
  · simp at hcs
    obtain ⟨rfl, rfl, rfl⟩ := hcs
    have el : ((List.range len).map fun r => (Z r).take (L r)).length = len := by simp
    subst hx
    refine ⟨(List.range len).map fun r => (Z r).take (L r), el.symm, ⟨rfl, by rw [el]; exact Nat.le_trans hl hm, fun _ => ⟨ad, rfl, fun j p hp => ?_⟩⟩, by rw [el]; exact hl, ?_, ?_⟩
    · have hj : j < len := by
        have := (List.getElem?_eq_some_iff.1 hp).1
        simpa using this
      have ep : p = (Z j).take (L j) := by simpa [hj] using hp.symm
      obtain ⟨h1, h2, h3, h4, h5, h6, h7⟩ := hcell j (by omega)
      have lp : p.length = L j := by rw [ep, List.length_take]; omega
      refine ⟨[.slice (A j) p.length (C j)], rfl, ⟨A j, C j, rfl, by omega, Kd.C_of_reads (enc := Value.int k) (d := (0 : Int)) (h1 := fun _ => rfl) ⟨rfl, by have hmx : maxLen ≤ 9223372036854775807 := (by decide); omega, fun hpos => ?_⟩⟩, fun i u hu => ?_⟩
      · cases hA : A j with
        | none => have := h6 hA; omega
        | some a' =>
          refine ⟨a', rfl, fun y hy => ?_⟩
          rw [(h7 a' hA).2 y (by omega), ep]
          have hyL : y < L j := by omega
          simp [List.getD, hyL]
      · cases i with
        | zero =>
          simp at hu
          rw [← hu]
          show W.cell? (ad.add (j * 1 + 0)) = _
          rw [Nat.mul_one, Nat.add_zero, h1, lp]
        | succ i => simp at hu
    · rw [el]
      have z := hw ((((List.range len).map fun r => intRow (H := H) k (A r) (L r) (Z r)).length + ((List.range (cap - len)).map fun j => intRow (H := H) k (A (len + j)) (L (len + j)) (Z (len + j))).length) * Pr.bytesOf e) (by
        simp only [DataW.weights, ht]
        exact List.mem_cons_self)
      simp only [List.length_map, List.length_range] at z
      rw [hE] at z
      exact Nat.le_trans (Nat.mul_le_mul_right _ (Nat.le_add_right _ _)) z
    · intro r hr
      obtain ⟨j, hj, rfl⟩ := List.mem_map.1 hr
      have hj2 : j < len := List.mem_range.1 hj
      obtain ⟨h1, h2, h3, h4, h5, h6, h7⟩ := hcell j (by omega)
      refine ⟨?_, fun n hn => h5 n (List.mem_of_mem_take hn)⟩
      rw [List.length_take]
      cases hA : A j with
      | none => have := h6 hA; rw [h4, this, Nat.min_zero]; omega
      | some a' =>
        have hmem : intRow (H := H) k (A j) (L j) (Z j) ∈ ((List.range len).map fun r => intRow (H := H) k (A r) (L r) (Z r)) := List.mem_map.2 ⟨j, hj, rfl⟩
        have z := hw ((((lits (H := H) k ((Z j).take (L j))).length + (lits (H := H) k ((Z j).drop (L j))).length)) * Pr.bytesOf q) (by
          simp only [DataW.weights, ht]
          refine List.mem_cons_of_mem _ (List.mem_append.2 (.inl (weightsAll_mem hmem _ ?_)))
          simp only [intRow, hA, DataW.weights, he]
          exact List.mem_cons_self)
        rw [hQ] at z
        refine Nat.le_trans (Nat.mul_le_mul_right _ ?_) z
        simp only [lits, List.length_map, List.length_take, List.length_drop]
        omega
theorem each_weights {H : Type} {P : Program} {ts : List TypeId} {ds : List (DataW H)} (h : (DataW.weightsEach P ts ds).all (· ≤ reachBytes) = true) {j : Nat} {t : TypeId} {d : DataW H} (ht : ts[j]? = some t) (hd : ds[j]? = some d) : ∀ n ∈ d.weights P t, n ≤ reachBytes :=
  fun n hn => of_decide_eq_true (List.all_eq_true.1 h _ (DataW.weights_mem_each ht hd n hn))
/-- A row's [][]int argument. -/
theorem rows_arg {H : Type} {enc : TypeId × Value → H} {Pr : Program} {W : World} {base : Nat} {held : Bool} {t e q : TypeId} {k : IntKind} {a : Option Addr} {len cap : Nat} {d : DataW H} {ps : List MemPlace} {ts : List TypeId} {ds : List (DataW H)} {j : Nat} (e' : Nat)
    (hsz : (DataW.weightsEach Pr ts ds).all (· ≤ reachBytes) = true) (hj : ts[j]? = some t) (hd : ds[j]? = some d)
    (ht : Pr.underlying t = some (.slice e)) (he : Pr.underlying e = some (.slice q)) (hq : Pr.underlying q = some (.int k)) (ce : Pr.cellsOf e = 1) (cq : Pr.cellsOf q = 1) {E Q : Nat} (hE : Pr.bytesOf e = E) (hQ : Pr.bytesOf q = Q)
    (h : DataW.Trod enc Pr W base (fun _ => true) held t (.slice a len cap) d ps) :
    ∃ l : List (List Int), len = l.length ∧ (Kd.slice e' (Kd.int k)).C W a l.length l ∧ l.length ≤ cap ∧ l.length * E ≤ 140737488351232 ∧ ∀ r ∈ l, r.length * Q ≤ 140737488351232 ∧ ∀ n ∈ r, (Lit.int k n).wf = true := by
  obtain ⟨fuel, hf⟩ := h
  exact rows_sized (x := (d, ps)) e' ht he hq ce cq hE hQ hf (each_weights hsz hj hd)
/-- A struct of a number and a [][]int, by value. -/
theorem cnf_arg {H : Type} {enc : TypeId × Value → H} {Pr : Program} {W : World} {base b0 : Nat} {held : Bool} {t e q : TypeId} {r : Reach} {f0 f1 : Field} {v : Value} {d : DataW H} {ps : List MemPlace} {ts : List TypeId} {ds : List (DataW H)} {j : Nat} (e' : Nat)
    (hsz : (DataW.weightsEach Pr ts ds).all (· ≤ reachBytes) = true) (hj : ts[j]? = some t) (hd : ds[j]? = some d)
    (hs : Pr.underlying t = some (.struct #[f0, f1])) (hone : oneCellFields Pr #[f0, f1] = true) (hC : Pr.cellsOf t = 2) (h0 : Pr.underlying f0.type = some (.int .i64)) (h1 : Pr.underlying f1.type = some (.slice e)) (he : Pr.underlying e = some (.slice q))
    (hq : Pr.underlying q = some (.int .i64)) (ce : Pr.cellsOf e = 1) (cq : Pr.cellsOf q = 1) {E Q : Nat} (hE : Pr.bytesOf e = E) (hQ : Pr.bytesOf q = Q) (hv : Value.okWide Pr W r b0 t v) (h : DataW.Trod enc Pr W base (fun _ => true) held t v d ps) :
    ∃ (n : Int) (A : Option Addr) (c : Nat) (l : List (List Int)), v = .agg #[.int .i64 n, .slice A l.length c] ∧ (Lit.int .i64 n).wf = true ∧ (Kd.slice e' (Kd.int .i64)).C W A l.length l ∧ l.length ≤ c ∧ l.length * E ≤ 140737488351232 ∧ ∀ r ∈ l, r.length * Q ≤ 140737488351232 ∧ ∀ n ∈ r, (Lit.int .i64 n).wf = true := by
  obtain ⟨v0, v1, y0, y1, m, rfl, rfl, _, t0, t1⟩ := Joins.open_agg2 hs hone hC hv h
  obtain ⟨n, hn, _, wn⟩ := DataW.trod_int h0 t0
  obtain ⟨A, len, c, hc⟩ := Joins.slice_form h1 t1
  obtain rfl : v0 = .int .i64 n := by simpa using hn
  obtain rfl : v1 = .slice A len c := by simpa using hc
  have hw : ∀ n ∈ y1.1.weights Pr f1.type, n ≤ reachBytes := fun n hn => each_weights hsz hj hd n (by
    simp only [DataW.weights, hs]
    exact DataW.weights_mem_each (j := 1) (ts := [f0.type, f1.type]) (ds := [y0.1, y1.1]) rfl rfl n hn)
  obtain ⟨l, rfl, hl⟩ := rows_sized e' h1 he hq ce cq hE hQ t1 hw
  exact ⟨n, A, c, l, rfl, wn, hl⟩
end Go.Proofs.YtcdhhaedgohlgaaGreatDoor.P
end
