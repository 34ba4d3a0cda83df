/- What the law CnfResolveSpec rests on, part 3: contracts of the functions that it reaches, and plain lemmas. No condition of its own. -/
import Derived.Test.YtcdhhaedgohlgaaGreatDoorKC2
import Derived.Maps.AppendAt
import Derived.OwnWalkIn
import Derived.BigRegionIn
import Derived.Shelf.Small.Bits
import Derived.Shelf.LaysM
import Derived.Shelf.Strconv.Itoa3
import Derived.Shelf.Bytes.WriteByteKept
import Derived.Shelf.Bytes.WriteStringKept
import Derived.Shelf.Bytes.Bytes
import Derived.Test.YtcdhhaedgohlgaaGreatDoorProg
import Derived.Lib.ItoaLen
import Derived.Lib.BufferWrite
import Derived.Lib.AppendIntMem
import Derived.Lib.OthersKept
import Derived.Deep.RegionHeld3
import Derived.MapKept
import Derived.Maps.OwnOps
import Derived.Carry
import Derived.Shelf.Spec.SlicesGrow
import Derived.Ground.Names8Prog
import Derived.Ground.SlgnProg
import Derived.Shelf.SlicesE.Delete
set_option linter.unusedVariables false
set_option linter.unusedSimpArgs false
section
namespace Go.Proofs.YtcdhhaedgohlgaaGreatDoor.P
open Go.RowKit Go.Shelf Go.Proofs.YtcdhhaedgohlgaaGreatDoorW.PrintWords Go.Proofs.YtcdhhaedgohlgaaGreatDoorW.PrintLast Go.Proofs.YtcdhhaedgohlgaaGreatDoorW.PrintMore
set_option linter.unusedVariables false
set_option linter.unusedSimpArgs false
set_option maxRecDepth 100000
attribute [local go_sem] Oper.semAt_some

set_option maxHeartbeats 4000000 in
theorem get_walk (A : Option Addr) (bs : List UInt8) (cap : Nat) (w0 : World) (hL : Laid w0) (hC : CB w0 A bs) (hcap : bs.length ≤ cap) (hlen : bs.length ≤ 4194304) (n : Nat) (hn : 12 ≤ n) :
    CallsIn Fence.wide n Tryz.prog 40 #[.slice A bs.length cap] w0 (GetPost ((wordsV A cap bs).map (·.2)) w0) := by
  have HC := Aside0.mk hC
  have HL := Aside0.mk hL
  clear hC hL
  have hgt : ¬ (4194304 : Int) < (bs.length : Int) := by omega
  have hro : Fence.wide.round = none := rfl
  have h1 : 1 ≤ n := by omega
  refine callsIn_of_wp_marks Tryz.func40 rfl trivial ?_ hro
  simp only [Tryz.ntmps40, List.size_toArray, List.length_cons, List.length_nil, Nat.reduceAdd, Nat.reduceSub, Array.replicate_succ, Array.replicate_zero, List.push_toArray, List.append_toArray, List.nil_append, List.cons_append]
  gi_wp2_with (refine ⟨trivial, ?_⟩; gi_at_call 94; refine (callsIn_wide.2 (words94 _ _ _ _)).mono ?_; rintro e w1 ⟨rfl, rfl⟩)
  obtain ⟨W5, hW5⟩ : ∃ W5, W5 = (((((w0.alloc (.cells #[.int .i64 0, .slice none 0 0] 24)).alloc (.cells #[.int .i64 0] 32)).alloc (.cells #[.slice none 0 0] 25)).alloc (.cells #[.int .i64 0] 3)).alloc (.cells #[.slice A bs.length cap] 41)) := ⟨_, rfl⟩
  rw [← hW5]
  have hs5 : W5.heap.size = w0.heap.size + 5 := by rw [hW5]; simp
  have hB5 : Below w0.heap.size w0 W5 := by
    rw [hW5]
    exact ((((((Below.refl _ _).alloc (Nat.le_refl _) _).alloc (by simp) _).alloc (by simp; omega) _).alloc (by simp; omega) _).alloc (by simp; omega) _)
  have at5 : ∀ (o1 o2 o3 o4 o5 : Obj), let W := ((((w0.alloc o1).alloc o2).alloc o3).alloc o4).alloc o5; W.heap[w0.heap.size]? = some o1 ∧ W.heap[w0.heap.size + 1]? = some o2 ∧ W.heap[w0.heap.size + 2]? = some o3 ∧ W.heap[w0.heap.size + 3]? = some o4 ∧ W.heap[w0.heap.size + 4]? = some o5 := by
    intro o1 o2 o3 o4 o5
    have key : ∀ (h : Array Obj), ((((((h.push o1).push o2).push o3).push o4).push o5))[h.size]? = some o1 ∧ ((((((h.push o1).push o2).push o3).push o4).push o5))[h.size + 1]? = some o2 ∧ ((((((h.push o1).push o2).push o3).push o4).push o5))[h.size + 2]? = some o3 ∧ ((((((h.push o1).push o2).push o3).push o4).push o5))[h.size + 3]? = some o4 ∧ ((((((h.push o1).push o2).push o3).push o4).push o5))[h.size + 4]? = some o5 := by
      intro h
      refine ⟨?_, ?_, ?_, ?_, ?_⟩ <;> (simp only [Array.getElem?_push, Array.size_push]; repeat (first | rfl | rw [if_pos (by omega)] | rw [if_neg (by omega)]))
    exact key w0.heap
  have hb := at5 (.cells #[.int .i64 0, .slice none 0 0] 24) (.cells #[.int .i64 0] 32) (.cells #[.slice none 0 0] 25) (.cells #[.int .i64 0] 3) (.cells #[.slice A bs.length cap] 41)
  dsimp only at hb
  rw [← hW5] at hb
  obtain ⟨hb0, hb1, hb2, hb3, hb4⟩ := hb
  clear at5
  obtain ⟨ws, hws⟩ : ∃ ws, ws = (wordsV A cap bs).map (·.2) := ⟨_, rfl⟩
  have HSP := Aside0.mk (wordsV_spec (cap := cap) HC.out hcap)
  have HWS : Aside0 (∀ (i : Nat) (x : Value × List UInt8), (wordsV A cap bs)[i]? = some x → ws[i]? = some x.2) := ⟨fun i x h => by rw [hws, List.getElem?_map, h]; rfl⟩
  have hwl : ws.length = (wordsV A cap bs).length := by rw [hws, List.length_map]
  have HWSS := Aside0.mk hws
  clear hws
  have hI0 : GetI w0 ws (fun k => k = w0.heap.size + 4) 0 W5 := ⟨hB5, fun k hk => by omega, hb0, hb1, hb3, fun j u hj => absurd hj (Nat.not_lt_zero _), fun k hk => by omega, by omega, .slice none 0 0, hb2, ⟨rfl, .inl ⟨rfl, rfl⟩⟩, fun k e => by cases e⟩
  refine wpIn_rangeX (I := GetI w0 ws) (Ix := fun c X _ W => c = .ret ∧ GetX w0 ws X W)
    (Ax := fun i a' X W' => ∃ x, (wordsV A cap bs)[i]? = some x ∧ a' = { tmps := #[.slice A bs.length cap, undef, .pointer (some ⟨w0.heap.size, 0, none⟩), .pointer (some ⟨w0.heap.size + 1, 0, none⟩), .pointer (some ⟨w0.heap.size + 1 + 1, 0, none⟩), .pointer (some ⟨w0.heap.size + 1 + 1 + 1, 0, none⟩), x.1, undef, undef, undef, undef, undef, undef, .slice A bs.length cap, .int .i64 bs.length, .bool false, undef, .slice A bs.length cap, .func (.func 132) #[] #[.pointer (some ⟨w0.heap.size + 1 + 1 + 1 + 1, 0, none⟩)], x.1, undef, undef, undef, undef, undef, undef, undef, undef, undef, undef, undef, undef, undef, undef, undef, undef, undef, undef, undef, undef, undef, undef, undef, undef, undef, undef, undef, undef, undef, undef, undef, undef, undef, undef, undef, undef, undef, undef, undef, undef, undef, undef, undef, undef, undef, undef, undef, undef, undef, undef, undef, undef, undef, undef, undef, undef, undef, undef, undef, undef, undef, undef, undef, undef, undef, undef, undef, undef, undef, undef, undef, undef, undef, undef, undef, undef, undef, undef, undef, undef, undef, undef, undef, undef, undef, undef, undef, undef, undef, undef], defers := [] })
    hro h1 rfl trivial (enters_of Tryz.func132 (by kernel_rfl) rfl) (by omega) ?hX0 (words_iter (n - 1) (by omega) w0 W5 HL.out (w0.heap.size + 1 + 1 + 1 + 1) A bs cap hB5 HC.out hcap hb4 (by omega)) (fun _ => rfl) (GetI.closed w0 ws) ?hIx hI0 ?hAx ?hassign ?hbody ?hdone ?hstop
  case hX0 => intro k hk; omega
  case hIx =>
    rintro c X i A1 A2 ⟨hc, h⟩ hst
    exact ⟨hc, GetX.closed w0 ws X i A1 A2 h hst⟩
  case hAx => exact fun i a' X A1 A2 h _ => h
  case hassign =>
    intro l1 X i x Wr K hx hi hK
    gi_wp2
    exact hK _ _ (KeepX.refl _ _ _) hi ⟨x, hx, rfl⟩
  case hbody =>
    rintro l1 X i x a' W hx hl1 hXl ⟨r, hr⟩ hI ⟨x', hx', rfl⟩
    obtain rfl : x' = x := by rw [hx] at hx'; injection hx' with h; exact h.symm
    clear hx'
    obtain ⟨v, u⟩ := x'
    obtain ⟨A', hv, hCu, hpos⟩ := HSP.out (v, u) (List.mem_of_getElem? hx)
    have hwi : ws[i]? = some u := HWS.out i _ hx
    replace hv : v = .slice A' u.length u.length := hv
    replace hCu : CB w0 A' u := hCu
    replace hpos : 0 < u.length := hpos
    subst hv
    have HNUM := Aside0.mk (number95 A' u u.length W (Nat.le_refl _) (hCu.below hI.below))
    have HI := Aside0.mk hI
    have HCU := Aside0.mk hCu
    have HWI := Aside0.mk hwi
    have HP := Aside0.mk hpos
    have h1' : 1 ≤ n - 1 - 1 := by omega
    have h1'' : 1 ≤ n - 1 - 1 - 1 := by omega
    have HOK : Aside0 (okAt i u = if i = 0 then u == [112] else if i = 1 then u == [99, 110, 102] else if i < 4 then (numV u).2 && decide (0 ≤ (numV u).1) else (numV u).2) := ⟨rfl⟩
    obtain ⟨nv, hnv⟩ : ∃ nv, nv = numV u := ⟨_, rfl⟩
    have HNV := Aside0.mk hnv
    rw [← hnv] at HNUM HOK
    clear hI hCu hwi hpos hr hnv hx
    obtain ⟨n1, n2⟩ := nv
    obtain ⟨i0, hi0', hz0, hz1, hz2⟩ := infoI3
    have HKL : Aside0 ((numsV (ws.take i)).length ≤ 4194304) := ⟨by
      have h1 := wordsV_len A cap bs
      have h2 : (numsV (ws.take i)).length ≤ ws.length := by unfold numsV; rw [List.length_map, List.length_drop, List.length_take]; omega
      omega⟩
    by_cases hi0 : i = 0
    · subst hi0
      cases hq : u == [112] with
      | true =>
        gi_wp2_with (refine ⟨trivial, ?_⟩; gi_at_call 95; refine (CallsIn.inRound l1 (callsIn_wide.2 HNUM.out)).mono ?_; rintro e w1 ⟨rfl, hb⟩; have HI1 := Aside0.mk (GetI.closed w0 ws _ _ _ _ HI.out (below_step_X hb)); have hc0 := HI1.out.cell0; have hc1 := HI1.out.cell1; have hf0 := HI1.out.froz0; have hf1 := HI1.out.froz1; have he := HI1.out.e.cell; have hef := HI1.out.e.frozen; have hatc : w1.cell? ⟨w0.heap.size + 1 + 1 + 1, 0, none⟩ = some (.int .i64 0) := HI1.out.at_.cell; have hatf : w1.frozen? ⟨w0.heap.size + 1 + 1 + 1, 0, none⟩ = false := HI1.out.at_.frozen; have hcv := conv_CB u.length (HCU.out.below HI1.out.below) HP.out; have HB1 := Aside0.mk hb; clear hb)
        exact GetI.next HI1.out (fun k hk => .inl hk) (keepX_below HB1.out) HWI.out (by unfold okAt; rw [if_pos rfl]; exact hq) (by omega)
      | false =>
        gi_wp2_with (refine ⟨trivial, ?_⟩; gi_at_call 95; refine (CallsIn.inRound l1 (callsIn_wide.2 HNUM.out)).mono ?_; rintro e w1 ⟨rfl, hb⟩; have HI1 := Aside0.mk (GetI.closed w0 ws _ _ _ _ HI.out (below_step_X hb)); have hc0 := HI1.out.cell0; have hc1 := HI1.out.cell1; have hf0 := HI1.out.froz0; have hf1 := HI1.out.froz1; have he := HI1.out.e.cell; have hef := HI1.out.e.frozen; have hatc : w1.cell? ⟨w0.heap.size + 1 + 1 + 1, 0, none⟩ = some (.int .i64 0) := HI1.out.at_.cell; have hatf : w1.frozen? ⟨w0.heap.size + 1 + 1 + 1, 0, none⟩ = false := HI1.out.at_.frozen; have hcv := conv_CB u.length (HCU.out.below HI1.out.below) HP.out; have HB1 := Aside0.mk hb; clear hb)
        obtain ⟨g1, g2⟩ := GetI.fail HI1.out (fun k hk => .inl hk) (keepX_below HB1.out) HWI.out (by unfold okAt; rw [if_pos rfl]; exact hq)
        exact ⟨g1, rfl, g2⟩
    · by_cases hi1 : i = 1
      · subst hi1
        cases hq : u == [99, 110, 102] with
        | true =>
          gi_wp2_with (refine ⟨trivial, ?_⟩; gi_at_call 95; refine (CallsIn.inRound l1 (callsIn_wide.2 HNUM.out)).mono ?_; rintro e w1 ⟨rfl, hb⟩; have HI1 := Aside0.mk (GetI.closed w0 ws _ _ _ _ HI.out (below_step_X hb)); have hc0 := HI1.out.cell0; have hc1 := HI1.out.cell1; have hf0 := HI1.out.froz0; have hf1 := HI1.out.froz1; have he := HI1.out.e.cell; have hef := HI1.out.e.frozen; have hatc : w1.cell? ⟨w0.heap.size + 1 + 1 + 1, 0, none⟩ = some (.int .i64 1) := HI1.out.at_.cell; have hatf : w1.frozen? ⟨w0.heap.size + 1 + 1 + 1, 0, none⟩ = false := HI1.out.at_.frozen; have hcv := conv_CB u.length (HCU.out.below HI1.out.below) HP.out; have HB1 := Aside0.mk hb; clear hb)
          exact GetI.next HI1.out (fun k hk => .inl hk) (keepX_below HB1.out) HWI.out (by unfold okAt; rw [if_neg (by omega), if_pos rfl]; exact hq) (by omega)
        | false =>
          gi_wp2_with (refine ⟨trivial, ?_⟩; gi_at_call 95; refine (CallsIn.inRound l1 (callsIn_wide.2 HNUM.out)).mono ?_; rintro e w1 ⟨rfl, hb⟩; have HI1 := Aside0.mk (GetI.closed w0 ws _ _ _ _ HI.out (below_step_X hb)); have hc0 := HI1.out.cell0; have hc1 := HI1.out.cell1; have hf0 := HI1.out.froz0; have hf1 := HI1.out.froz1; have he := HI1.out.e.cell; have hef := HI1.out.e.frozen; have hatc : w1.cell? ⟨w0.heap.size + 1 + 1 + 1, 0, none⟩ = some (.int .i64 1) := HI1.out.at_.cell; have hatf : w1.frozen? ⟨w0.heap.size + 1 + 1 + 1, 0, none⟩ = false := HI1.out.at_.frozen; have hcv := conv_CB u.length (HCU.out.below HI1.out.below) HP.out; have HB1 := Aside0.mk hb; clear hb)
          obtain ⟨g1, g2⟩ := GetI.fail HI1.out (fun k hk => .inl hk) (keepX_below HB1.out) HWI.out (by unfold okAt; rw [if_neg (by omega), if_pos rfl]; exact hq)
          exact ⟨g1, rfl, g2⟩
      · have e0 : ((i : Int) == 0) = false := beq_eq_false_iff_ne.2 (by omega)
        have e1 : ((i : Int) == 1) = false := beq_eq_false_iff_ne.2 (by omega)
        have hok : okAt i u = if i < 4 then (numV u).2 && decide (0 ≤ (numV u).1) else (numV u).2 := by unfold okAt; rw [if_neg hi0, if_neg hi1]
        rw [← HNV.out] at hok
        have hi2 : (1 : Int) < (i : Int) := by omega
        by_cases hi4 : i < 4
        · have hi4' : (i : Int) < 4 := by omega
          rw [if_pos hi4] at hok
          have HOK2 := Aside0.mk hok
          cases n2 with
          | false =>
            gi_wp2_with (refine ⟨trivial, ?_⟩; gi_at_call 95; refine (CallsIn.inRound l1 (callsIn_wide.2 HNUM.out)).mono ?_; rintro e w1 ⟨rfl, hb⟩; have HI1 := Aside0.mk (GetI.closed w0 ws _ _ _ _ HI.out (below_step_X hb)); have hc0 := HI1.out.cell0; have hc1 := HI1.out.cell1; have hf0 := HI1.out.froz0; have hf1 := HI1.out.froz1; have he := HI1.out.e.cell; have hef := HI1.out.e.frozen; have hatc : w1.cell? ⟨w0.heap.size + 1 + 1 + 1, 0, none⟩ = some (.int .i64 i) := HI1.out.at_.cell; have hatf : w1.frozen? ⟨w0.heap.size + 1 + 1 + 1, 0, none⟩ = false := HI1.out.at_.frozen; have hcv := conv_CB u.length (HCU.out.below HI1.out.below) HP.out; have HB1 := Aside0.mk hb; clear hb)
            obtain ⟨g1, g2⟩ := GetI.fail HI1.out (fun k hk => .inl hk) (keepX_below HB1.out) HWI.out HOK2.out
            exact ⟨g1, rfl, g2⟩
          | true =>
            cases hq : decide (0 ≤ n1) with
            | false => 
              gi_wp2_with (refine ⟨trivial, ?_⟩; gi_at_call 95; refine (CallsIn.inRound l1 (callsIn_wide.2 HNUM.out)).mono ?_; rintro e w1 ⟨rfl, hb⟩; have HI1 := Aside0.mk (GetI.closed w0 ws _ _ _ _ HI.out (below_step_X hb)); have hc0 := HI1.out.cell0; have hc1 := HI1.out.cell1; have hf0 := HI1.out.froz0; have hf1 := HI1.out.froz1; have he := HI1.out.e.cell; have hef := HI1.out.e.frozen; have hatc : w1.cell? ⟨w0.heap.size + 1 + 1 + 1, 0, none⟩ = some (.int .i64 i) := HI1.out.at_.cell; have hatf : w1.frozen? ⟨w0.heap.size + 1 + 1 + 1, 0, none⟩ = false := HI1.out.at_.frozen; have hcv := conv_CB u.length (HCU.out.below HI1.out.below) HP.out; have HB1 := Aside0.mk hb; clear hb)
              have hok3 : okAt i u = false := by rw [HOK2.out, hq]; rfl
              obtain ⟨g1, g2⟩ := GetI.fail HI1.out (fun k hk => .inl hk) (keepX_below HB1.out) HWI.out hok3
              exact ⟨g1, rfl, g2⟩
            | true =>
              have hok3 : okAt i u = true := by rw [HOK2.out, hq]; rfl
              have HOK3 := Aside0.mk hok3
              clear hok hok3
              gi_wp2_with (first | (refine ⟨trivial, ?_⟩; gi_at_call 95; refine (CallsIn.inRound l1 (callsIn_wide.2 HNUM.out)).mono ?_; rintro e w1 ⟨rfl, hb⟩; have HI1 := Aside0.mk (GetI.closed w0 ws _ _ _ _ HI.out (below_step_X hb)); have hatc : w1.cell? ⟨w0.heap.size + 1 + 1 + 1, 0, none⟩ = some (.int .i64 i) := HI1.out.at_.cell; have hatf : w1.frozen? ⟨w0.heap.size + 1 + 1 + 1, 0, none⟩ = false := HI1.out.at_.frozen; obtain ⟨vr, hvb, hvr, hvn⟩ := HI1.out.row; have hvc : w1.cell? ⟨w0.heap.size + 1 + 1, 0, none⟩ = some vr := hvb.cell; have hvca : (w1.alloc (.cells #[.int .i64 n1] 3)).cell? ⟨w0.heap.size + 1 + 1, 0, none⟩ = some vr := (hvb.alloc _).cell; have hB1 := HI1.out.below.size; have HVB := Aside0.mk hvb; have HVR := Aside0.mk hvr; have HVN := Aside0.mk hvn; have HB1 := Aside0.mk hb; clear hb hvb hvr hvn) | (gi_at_builtin; refine wpListIn_append_at _ rfl _ _ 25 rfl (w0.heap.size + 5) 3 i0 (.int .i64 0) 1 8 Tryz.underlying25 hi0' hz0 hz1 hz2 rfl (by decide) _ _ _ rfl (HVR.out.alloc _) ⟨w1.heap.size, 0, none⟩ 1 1 [.int .i64 n1] rfl rfl (cell_one_new _ _ _) (by simp [Value.oneCell']) (by have := HKL.out; unfold maxLen; omega) (by have := HKL.out; omega) (by have h5 := HI1.out.at_.lt; have h6 := HI1.out.fin5; simp; omega) ?_; intro v' w2 hown' hgrow hat; obtain ⟨g', cap', rfl⟩ := ownsRow_succ hown'; have hkept := GetI.kept HI1.out HVR.out hgrow; have hc2 : w2.cell? ⟨w0.heap.size + 1 + 1, 0, none⟩ = some vr := (Boxed.cell (hkept _ _ _ HVB.out (by omega))); have hf2 : w2.frozen? ⟨w0.heap.size + 1 + 1, 0, none⟩ = false := (Boxed.frozen (hkept _ _ _ HVB.out (by omega))); have hc3 : w2.cell? ⟨w0.heap.size + 1 + 1 + 1, 0, none⟩ = some (.int .i64 i) := (Boxed.cell (hkept _ _ _ HI1.out.at_ (by omega))); have hf3 : w2.frozen? ⟨w0.heap.size + 1 + 1 + 1, 0, none⟩ = false := (Boxed.frozen (hkept _ _ _ HI1.out.at_ (by omega))); have HOWN := Aside0.mk hown'; have HGROW := Aside0.mk hgrow; have HAT := Aside0.mk hat; clear hown' hgrow hat hkept))
              have hn1 : (numV u).1 = n1 := by rw [← HNV.out]
              exact GetI.push HI1.out (fun k hk => .inl hk) (keepX_below HB1.out) HWI.out HOK3.out (by omega) HVB.out HVR.out HVN.out (by rw [hn1]; exact HOWN.out) HGROW.out HAT.out
        · have hi4' : ¬ (i : Int) < 4 := by omega
          rw [if_neg hi4] at hok
          have HOK2 := Aside0.mk hok
          cases n2 with
          | false =>
            gi_wp2_with (refine ⟨trivial, ?_⟩; gi_at_call 95; refine (CallsIn.inRound l1 (callsIn_wide.2 HNUM.out)).mono ?_; rintro e w1 ⟨rfl, hb⟩; have HI1 := Aside0.mk (GetI.closed w0 ws _ _ _ _ HI.out (below_step_X hb)); have hc0 := HI1.out.cell0; have hc1 := HI1.out.cell1; have hf0 := HI1.out.froz0; have hf1 := HI1.out.froz1; have he := HI1.out.e.cell; have hef := HI1.out.e.frozen; have hatc : w1.cell? ⟨w0.heap.size + 1 + 1 + 1, 0, none⟩ = some (.int .i64 i) := HI1.out.at_.cell; have hatf : w1.frozen? ⟨w0.heap.size + 1 + 1 + 1, 0, none⟩ = false := HI1.out.at_.frozen; have hcv := conv_CB u.length (HCU.out.below HI1.out.below) HP.out; have HB1 := Aside0.mk hb; clear hb)
            obtain ⟨g1, g2⟩ := GetI.fail HI1.out (fun k hk => .inl hk) (keepX_below HB1.out) HWI.out HOK2.out
            exact ⟨g1, rfl, g2⟩
          | true =>
            have HOK3 := HOK2
            clear hok
            gi_wp2_with (first | (refine ⟨trivial, ?_⟩; gi_at_call 95; refine (CallsIn.inRound l1 (callsIn_wide.2 HNUM.out)).mono ?_; rintro e w1 ⟨rfl, hb⟩; have HI1 := Aside0.mk (GetI.closed w0 ws _ _ _ _ HI.out (below_step_X hb)); have hatc : w1.cell? ⟨w0.heap.size + 1 + 1 + 1, 0, none⟩ = some (.int .i64 i) := HI1.out.at_.cell; have hatf : w1.frozen? ⟨w0.heap.size + 1 + 1 + 1, 0, none⟩ = false := HI1.out.at_.frozen; obtain ⟨vr, hvb, hvr, hvn⟩ := HI1.out.row; have hvc : w1.cell? ⟨w0.heap.size + 1 + 1, 0, none⟩ = some vr := hvb.cell; have hvca : (w1.alloc (.cells #[.int .i64 n1] 3)).cell? ⟨w0.heap.size + 1 + 1, 0, none⟩ = some vr := (hvb.alloc _).cell; have hB1 := HI1.out.below.size; have HVB := Aside0.mk hvb; have HVR := Aside0.mk hvr; have HVN := Aside0.mk hvn; have HB1 := Aside0.mk hb; clear hb hvb hvr hvn) | (gi_at_builtin; refine wpListIn_append_at _ rfl _ _ 25 rfl (w0.heap.size + 5) 3 i0 (.int .i64 0) 1 8 Tryz.underlying25 hi0' hz0 hz1 hz2 rfl (by decide) _ _ _ rfl (HVR.out.alloc _) ⟨w1.heap.size, 0, none⟩ 1 1 [.int .i64 n1] rfl rfl (cell_one_new _ _ _) (by simp [Value.oneCell']) (by have := HKL.out; unfold maxLen; omega) (by have := HKL.out; omega) (by have h5 := HI1.out.at_.lt; have h6 := HI1.out.fin5; simp; omega) ?_; intro v' w2 hown' hgrow hat; obtain ⟨g', cap', rfl⟩ := ownsRow_succ hown'; have hkept := GetI.kept HI1.out HVR.out hgrow; have hc2 : w2.cell? ⟨w0.heap.size + 1 + 1, 0, none⟩ = some vr := (Boxed.cell (hkept _ _ _ HVB.out (by omega))); have hf2 : w2.frozen? ⟨w0.heap.size + 1 + 1, 0, none⟩ = false := (Boxed.frozen (hkept _ _ _ HVB.out (by omega))); have hc3 : w2.cell? ⟨w0.heap.size + 1 + 1 + 1, 0, none⟩ = some (.int .i64 i) := (Boxed.cell (hkept _ _ _ HI1.out.at_ (by omega))); have hf3 : w2.frozen? ⟨w0.heap.size + 1 + 1 + 1, 0, none⟩ = false := (Boxed.frozen (hkept _ _ _ HI1.out.at_ (by omega))); have HOWN := Aside0.mk hown'; have HGROW := Aside0.mk hgrow; have HAT := Aside0.mk hat; clear hown' hgrow hat hkept))
            have hib : i < 4194304 := by
              have h1 := wordsV_len A cap bs
              have h2 := (List.getElem?_eq_some_iff.1 HWI.out).1
              omega
            rw [wrap_succ i hib]
            have hn1 : (numV u).1 = n1 := by rw [← HNV.out]
            exact GetI.push HI1.out (fun k hk => .inl hk) (keepX_below HB1.out) HWI.out HOK3.out (by omega) HVB.out HVR.out HVN.out (by rw [hn1]; exact HOWN.out) HGROW.out HAT.out
  case hdone =>
    rintro D X W' hD hXD hI hK
    rw [← hwl] at hI
    have hall : okAll ws := fun i u hu => hI.ok i u (List.getElem?_eq_some_iff.1 hu).1 hu
    have hc0 := hI.cell0
    have hc1 := hI.cell1
    have hf0 := hI.froz0
    have hf1 := hI.froz1
    have he := hI.e.cell
    have hef := hI.e.frozen
    have hatc : W'.cell? ⟨w0.heap.size + 1 + 1 + 1, 0, none⟩ = some (.int .i64 ws.length) := hI.at_.cell
    have HI := Aside0.mk hI
    have HALL := Aside0.mk hall
    have HK := Aside0.mk hK
    have HD := Aside0.mk hD
    have hwb : ws.length ≤ 4194304 := by have := wordsV_len A cap bs; omega
    clear hI hall hK
    by_cases h4 : ws.length < 4
    · have h4' : (ws.length : Int) < 4 := by omega
      gi_wp2
      rw [← HWSS.out]
      exact GetI.zero rfl rfl HK.out (by have := HD.out; omega) HI.out.below HI.out.c HI.out.e 11 (by unfold getV; rw [if_pos (.inr h4)])
    · have h4' : ¬ (ws.length : Int) < 4 := by omega
      obtain ⟨vr, hvb, hvr, hvn⟩ := HI.out.row
      have hvc : W'.cell? ⟨w0.heap.size + 1 + 1, 0, none⟩ = some vr := hvb.cell
      rw [List.take_length] at hvr
      have hnl : (numsV ws).length = ws.length - 2 := by unfold numsV; simp
      obtain ⟨g, cp, cur, rfl, hgb, hgh, hgn, hgm, hgc, hgt⟩ : ∃ g cp cur, vr = .slice (some ⟨g, 0, none⟩) (numsV ws).length cp ∧ w0.heap.size + 5 ≤ g ∧ W'.heap[g]? = some (.cells cur 3 (0, 0)) ∧ (numsV ws).length ≤ cp ∧ cp ≤ maxLen ∧ cur.size = cp * 1 ∧ cur.toList.take ((numsV ws).length * 1) = (numsV ws).map (Value.int .i64) := by
        rcases hvr.2 with ⟨_, h0⟩ | ⟨g, cp, cur, h⟩
        · omega
        · exact ⟨g, cp, cur, h⟩
      have hcell : ∀ j, j < (numsV ws).length → W'.cell? ⟨g, j, none⟩ = some (.int .i64 ((numsV ws).getD j 0)) := by
        intro j hj
        have e1 : (cur.toList.take ((numsV ws).length * 1))[j]? = ((numsV ws).map (Value.int .i64))[j]? := by rw [hgt]
        rw [Nat.mul_one, List.getElem?_take_of_lt hj, Array.getElem?_toList, List.getElem?_map, List.getElem?_eq_getElem hj] at e1
        show World.cell? _ _ = _
        unfold World.cell?
        rw [hgh]
        simp only [Option.isSome_none, Bool.false_eq_true, if_false]
        rw [e1]
        simp [List.getD_eq_getElem?_getD, hj]
      have hl0 := hcell 0 (by omega)
      have hl1 := hcell 1 (by omega)
      have hlz0 : (0 : Int) < ((numsV ws).length : Int) := by omega
      have hlz1 : (1 : Int) < ((numsV ws).length : Int) := by omega
      have HCELL := Aside0.mk hcell
      have HV := Aside0.mk hvr
      have HVN := Aside0.mk hvn
      have HVB := Aside0.mk hvb
      have HG := Aside0.mk (And.intro hgb (And.intro hgh (And.intro hgn (And.intro hgm (And.intro hgc hgt)))))
      clear hcell hvr hvn hvb hgb hgh hgn hgm hgc hgt
      generalize hN0 : (numsV ws).getD 0 0 = N0 at *
      generalize hN1 : (numsV ws).getD 1 0 = N1 at *
      generalize hNL : (numsV ws).length = NL at *
      have hba : Below W'.heap.size W' (W'.alloc (.cells #[.int .i64 0, .slice none 0 0] 24)) := (Below.refl _ _).alloc (Nat.le_refl _) _
      have hvca := pw_cell_below hba hvc
      have hl0a := pw_cell_below hba hl0
      have hl1a := pw_cell_below hba hl1
      have hbb : Below W'.heap.size W' (W'.alloc (.cells #[.int .i64 N0, .slice none 0 0] 24)) := (Below.refl _ _).alloc (Nat.le_refl _) _
      have hvcb := pw_cell_below hbb hvc
      have hl0b := pw_cell_below hbb hl0
      have hl1b := pw_cell_below hbb hl1
      clear hba hbb
      gi_wp2
      gi_region
      obtain ⟨W6, hW6⟩ : ∃ W6, W6 = (W'.alloc (.cells #[.int .i64 N0, .slice none 0 0] 24)).drew := ⟨_, rfl⟩
      obtain ⟨G, hG⟩ : ∃ G, G = W'.heap.size := ⟨_, rfl⟩
      have hb6 : Below G W' W6 := by
        have h0 : Below W'.heap.size W' (W'.alloc (.cells #[.int .i64 N0, .slice none 0 0] 24)) := (Below.refl _ _).alloc (Nat.le_refl _) _
        rw [hW6, hG]
        exact ⟨h0.os, h0.tape, h0.output, h0.size, h0.block⟩
      have hcb : W6.heap[G]? = some (.cells #[.int .i64 N0, .slice none 0 0] 24 (0, 0)) := by rw [hW6, hG]; exact heap_alloc_new W' _
      have hs6 : W6.heap.size = G + 1 := by rw [hW6, hG]; show (W'.heap.push _).size = _; simp
      rw [← hW6, ← hG]
      have HG5 : w0.heap.size + 5 ≤ G := by rw [hG]; exact HI.out.fin5
      clear hc0 hc1 hf0 hf1 he hef hatc hvc hl0 hl1 hvca hl0a hl1a hvcb hl0b hl1b
      have HB6 := Aside0.mk hb6
      have HCB := Aside0.mk hcb
      have hgc0 : W6.cell? ⟨G, 0, none⟩ = some (.int .i64 N0) := by simp [World.cell?, hcb]
      have hlt6 : ∀ k, k < w0.heap.size + 5 → k < W'.heap.size := fun k hk => by omega
      have hC6 : W6.heap[w0.heap.size]? = some (.cells #[.int .i64 0, .slice none 0 0] 24 (0, 0)) := (hb6.block _ (by omega)).trans HI.out.c
      have hE6 : Boxed W6 (w0.heap.size + 1) 32 (.int .i64 0) := (hb6.block _ (by omega)).trans HI.out.e
      have hV6 : Boxed W6 (w0.heap.size + 2) 25 (.slice (some ⟨g, 0, none⟩) NL cp) := (hb6.block _ (by omega)).trans HVB.out
      have hK6 : W6.heap[D]? = some (.deferred (some [])) := (hb6.block _ (by rw [hG]; exact (Array.getElem?_eq_some_iff.1 HK.out).1)).trans HK.out
      have hB6 : Below w0.heap.size w0 W6 := HI.out.below.trans (hb6.mono (by omega))
      have hc0 : W6.cell? ⟨w0.heap.size, 0, none⟩ = some (.int .i64 0) := by simp [World.cell?, hC6]
      have hc1 : W6.cell? ⟨w0.heap.size, 1, none⟩ = some (.slice none 0 0) := by simp [World.cell?, hC6]
      have hf0 : W6.frozen? ⟨w0.heap.size, 0, none⟩ = false := by simp [World.frozen?, hC6]
      have hf1 : W6.frozen? ⟨w0.heap.size, 1, none⟩ = false := by simp [World.frozen?, hC6]
      have he := hE6.cell
      have hef := hE6.frozen
      have hvc : W6.cell? ⟨w0.heap.size + 1 + 1, 0, none⟩ = some (.slice (some ⟨g, 0, none⟩) NL cp) := hV6.cell
      have hvf : W6.frozen? ⟨w0.heap.size + 1 + 1, 0, none⟩ = false := hV6.frozen
      have HC6 := Aside0.mk hC6
      have HE6 := Aside0.mk hE6
      have HV6 := Aside0.mk hV6
      have HK6 := Aside0.mk hK6
      have HBW6 := Aside0.mk hB6
      have HGE := Aside0.mk hG
      clear hb6 hcb hC6 hE6 hV6 hK6 hB6 hW6 hG hlt6
      have HGV : Aside0 (getV ws = if N0 > 65536 ∨ N1 > 65536 then (0, [], 2) else match clausesOf NL ((numsV ws).drop 2) with
          | none => (0, [], 11)
          | some L => if (L.length : Int) ≠ N1 then (0, [], 11) else if checkV N0 L ≠ 0 then (0, [], checkV N0 L) else (N0, L, 0)) := ⟨by
        unfold getV
        have hno : ¬ (¬ okAll ws ∨ ws.length < 4) := by
          intro h
          rcases h with h | h
          · exact h HALL.out
          · omega
        rw [if_neg hno, hN0, hN1, hNL]
        all_goals rfl⟩
      by_cases hb0 : N0 > 65536
      · have hb0' : (65536 : Int) < N0 := hb0
        gi_wp2
        rw [← HWSS.out]
        exact GetI.zero rfl rfl HK6.out (by have := HD.out; omega) HBW6.out HC6.out HE6.out 2 (by rw [HGV.out, if_pos (.inl hb0)])
      · by_cases hb1 : N1 > 65536
        · have hb1' : (65536 : Int) < N1 := hb1
          gi_wp2
          rw [← HWSS.out]
          exact GetI.zero rfl rfl HK6.out (by have := HD.out; omega) HBW6.out HC6.out HE6.out 2 (by rw [HGV.out, if_pos (.inr hb1)])
        · have hgv := HGV.out
          rw [if_neg (by omega)] at hgv
          have HGV2 := Aside0.mk hgv
          clear hgv HGV
          have hcp : NL ≤ cp := HG.out.2.2.1
          have hcpz : (NL : Int) ≤ (cp : Int) := by omega
          have hrest : ∀ (A2 : Option Addr), (A2 = some ⟨g, 2, none⟩ ∨ NL = 2) → Kd.C (Kd.int .i64) W6 A2 ((numsV ws).drop 2).length ((numsV ws).drop 2) := by
            intro A2 hA
            have hRI : RI W' (w0.heap.size + 5) (.slice (some ⟨g, 0, none⟩) (numsV ws).length cp) (numsV ws) := RI.of_own (by rw [hNL]; exact HV.out)
            have hC0 := Kd.C_below (Kd.R_reads' hRI).2.2 (by rw [← HGE.out]; exact HB6.out)
            have hC2 := C_drop_int hC0 2
            rcases hA with hA | hA
            · rw [hA]; exact hC2
            · have hnil : (numsV ws).drop 2 = [] := List.drop_eq_nil_of_le (by omega)
              rw [hnil]
              exact ⟨rfl, by simp, fun h => absurd h (by simp)⟩
          have hrl : ((numsV ws).drop 2).length = NL - 2 := by rw [List.length_drop, hNL]
          obtain ⟨rest0, hr0⟩ : ∃ rest0, rest0 = (numsV ws).drop 2 := ⟨_, rfl⟩
          rw [← hr0] at hrest hrl
          have HREST := Aside0.mk hrest
          have HR0 := Aside0.mk hr0
          have HWL := Aside0.mk hwl
          have HNL := Aside0.mk hnl
          have hNL2 : NL - 2 = rest0.length := hrl.symm
          clear hrest hr0 hwl hnl hrl
          gi_wp2
          all_goals
            rename_i Kx hKx
            refine wpIn_wide.2 ?_
            have hl2 : 2 ≤ (numsV ws).length := by omega
            have hgg : w0.heap.size + 5 ≤ g ∧ g < G := ⟨HG.out.1, by rw [HGE.out]; exact (Array.getElem?_eq_some_iff.1 HG.out.2.1).1⟩
            have hC0 : Kd.C (Kd.int .i64) W6 (some ⟨g, 0, none⟩) (numsV ws).length (numsV ws) := Kd.C_below (Kd.R_reads' (RI.of_own (base := w0.heap.size + 5) (by rw [hNL]; exact HV.out))).2.2 (by rw [← HGE.out]; exact HB6.out)
            have hst := fun (A1 : Option Addr) (c1 : Nat) (hc : rest0.length ≤ c1) (hA : A1 = some ⟨g, 2, none⟩ ∨ rest0.length = 0) => GetL.start (m0 := w0.heap.size) (D := D) (N0 := N0) hgg HCB.out HV6.out (by rw [hNL]; exact hNL2.symm) hl2 hc hA
            refine loop40_wp w0.heap.size D G g N0 N1 (numsV ws) W6 2 _ _ _ _ _ _ _ _ _ _ _ _ _ _ _ _ _ _ _ _ _ _ _ _ _ _ _ _ _ _ _ _ _ _ _ _ _ _ _ _ _ _ _ _ _ _ _ _ _ _ _ _ _ _ _ _ _ _ _ _ _ _ _ _ _ _ _ _ _ _ _ _ _ _ _ _ _ _ _ _ _ _ _ _ _ _ _ _ _ _ _ _ _ _ _ _ _ _ _ _ _ _ _ _ _ _ _ _ Kx _ (hst _ _ ?h1 ?h2) hgg (by have h9 := HNL.out; omega) hC0 (by omega) HC6.out HE6.out ?hK ?hret
            case h1 => omega
            case h2 => first
              | exact .inl rfl
              | (right; omega)
            case hK =>
              intro m A2 c2 Lacc vL wr u11 u76 u77 u78 u79 u80 u81 u82 u83 u84 u85 u86 u87 u88 u89 u90 u91 u92 u93 u94 u95 u96 hS hcl
              refine hKx _ _ (wpIn_wide.2 ?_)
              refine behind40_wp w0.heap.size D G g N0 N1 (numsV ws) W6 m A2 c2 Lacc vL wr _ _ _ _ _ _ _ _ _ _ _ _ _ _ _ _ _ _ _ _ _ _ _ _ _ _ _ _ _ _ _ _ _ _ _ _ _ _ _ _ _ _ _ _ _ _ _ _ _ _ _ _ _ _ _ _ _ _ _ _ _ _ _ _ _ _ _ _ _ _ _ _ _ _ _ _ _ _ _ _ _ _ _ _ _ _ _ _ _ _ _ _ _ _ _ _ _ _ _ _ _ _ _ _ _ _ hS hgg (by omega) (by have h9 := HNL.out; omega) HC6.out HE6.out ?_ ?_
              · intro tmps w1 e hb he h2 h3
                show bodyPostM Fence.wide n Tryz.prog Tryz.f40 (GetPost ((wordsV A cap bs).map (·.2)) w0) _ _ _
                rw [← HWSS.out]
                exact hS.zero HK6.out HBW6.out hgg ⟨by have := HD.out; omega, by rw [HGE.out]; exact (Array.getElem?_eq_some_iff.1 HK.out).1⟩ HC6.out HE6.out hb h2 h3 (by
                  rw [HGV2.out, ← hNL, hcl]
                  rcases he with ⟨rfl, he⟩ | ⟨he, rfl, hz⟩
                  · simp only []; rw [if_pos he]
                  · simp only []; rw [if_neg (by simp [he]), if_pos hz])
              · intro tmps w1 hb hn hz h2 h3
                show bodyPostM Fence.wide n Tryz.prog Tryz.f40 (GetPost ((wordsV A cap bs).map (·.2)) w0) _ _ _
                rw [← HWSS.out]
                exact hS.fine HK6.out HBW6.out hgg ⟨by have := HD.out; omega, by rw [HGE.out]; exact (Array.getElem?_eq_some_iff.1 HK.out).1⟩ HC6.out HE6.out hb h2 h3 (by
                  rw [HGV2.out, ← hNL, hcl]
                  simp only []; rw [if_neg (by simp [hn]), if_neg (by simp [hz])])
            case hret =>
              intro m A2 c2 Lacc vL wr q tmps hS hcl h2 h3
              show bodyPostM Fence.wide n Tryz.prog Tryz.f40 (GetPost ((wordsV A cap bs).map (·.2)) w0) _ _ _
              rw [← HWSS.out]
              exact hS.zero HK6.out HBW6.out hgg ⟨by have := HD.out; omega, by rw [HGE.out]; exact (Array.getElem?_eq_some_iff.1 HK.out).1⟩ HC6.out HE6.out (pw_below_drewN (Below.refl _ _) q) h2 h3 (by
                rw [HGV2.out, ← hNL, hcl])
  case hstop =>
    rintro D X c i W' hD hXD ⟨rfl, hG⟩ hK
    gi_wp2
    have hDne : D ≠ w0.heap.size ∧ D ≠ w0.heap.size + 1 := ⟨by omega, by omega⟩
    refine ⟨by simp, .inl ⟨_, _, rfl, run_takeDeferred hK, ?_⟩⟩
    exact ⟨_, results_40 _ _ w0.heap.size (w0.heap.size + 1) _ 11 rfl rfl ((World.putObj_heap_other (by omega)).trans hG.c) rfl ((World.putObj_heap_other (by omega)).trans hG.e), by
      obtain ⟨j, u, hu, ho⟩ := hG.bad
      have hv := getV_bad hu ho
      rw [HWSS.out] at hv
      refine ⟨.slice none 0 0, by rw [hv], by rw [hv]; exact Kd.S_nil _ _ _ _ _, below_putObj hG.below D _ (by omega)⟩⟩
end Go.Proofs.YtcdhhaedgohlgaaGreatDoor.P
end

section
namespace Go.Proofs
open Go.Shelf
def Tryz.laysM171_ren : Go.Shelf.Ren := ⟨fun | 171 => 90 | 243 => 131 | 246 => 168 | 283 => 196 | 284 => 197 | 285 => 198 | 286 => 199 | 129 => 164 | 317 => 218 | 318 => 219 | 319 => 220 | 320 => 221 | 337 => 232 | 338 => 233 | n => n, fun | 3 => 3 | 9 => 9 | 2 => 2 | 4 => 4 | 171 => 193 | 0 => 0 | 53 => 171 | 37 => 41 | 5 => 5 | 173 => 195 | 212 => 211 | 51 => 169 | 20 => 20 | 213 => 212 | 46 => 144 | 232 => 239 | 233 => 240 | n => n, fun | 17 => 2 | 18 => 7 | 19 => 8 | n => n⟩
theorem Tryz.laysM171 : Go.Proofs.LaysM.n171 Tryz.prog Tryz.laysM171_ren := {
  mixed := by kernel_rfl
  f129 := Tryz.func164.trans (congrArg some (by kernel_rfl))
  f171 := Tryz.func90.trans (congrArg some (by kernel_rfl))
  f243 := Tryz.func131.trans (congrArg some (by kernel_rfl))
  f246 := Tryz.func168.trans (congrArg some (by kernel_rfl))
  f283 := Tryz.func196.trans (congrArg some (by kernel_rfl))
  f284 := Tryz.func197.trans (congrArg some (by kernel_rfl))
  f285 := Tryz.func198.trans (congrArg some (by kernel_rfl))
  f286 := Tryz.func199.trans (congrArg some (by kernel_rfl))
  f317 := Tryz.func218.trans (congrArg some (by kernel_rfl))
  f318 := Tryz.func219.trans (congrArg some (by kernel_rfl))
  f319 := Tryz.func220.trans (congrArg some (by kernel_rfl))
  f320 := Tryz.func221.trans (congrArg some (by kernel_rfl))
  f337 := Tryz.func232.trans (congrArg some (by kernel_rfl))
  f338 := Tryz.func233.trans (congrArg some (by kernel_rfl))
  t0 := Tryz.underlying0
  a0 := Tryz.isAgg0
  z0 := Tryz.sizeOf0
  v0 := Tryz.zeroValue0
  t2 := Tryz.underlying2
  a2 := Tryz.isAgg2
  z2 := Tryz.sizeOf2
  v2 := Tryz.zeroValue2
  t3 := Tryz.underlying3
  a3 := Tryz.isAgg3
  z3 := Tryz.sizeOf3
  v3 := Tryz.zeroValue3
  t4 := Tryz.underlying4
  a4 := Tryz.isAgg4
  z4 := Tryz.sizeOf4
  v4 := Tryz.zeroValue4
  t5 := Tryz.underlying5
  a5 := Tryz.isAgg5
  z5 := Tryz.sizeOf5
  v5 := Tryz.zeroValue5
  t9 := Tryz.underlying9
  a9 := Tryz.isAgg9
  z9 := Tryz.sizeOf9
  v9 := Tryz.zeroValue9
  t20 := Tryz.underlying20
  a20 := Tryz.isAgg20
  z20 := Tryz.sizeOf20
  v20 := Tryz.zeroValue20
  t37 := Tryz.underlying41
  a37 := Tryz.isAgg41
  z37 := Tryz.sizeOf41
  v37 := Tryz.zeroValue41
  t46 := Tryz.underlying144
  a46 := Tryz.isAgg144
  z46 := Tryz.sizeOf144
  v46 := Tryz.zeroValue144
  t51 := Tryz.underlying169
  a51 := Tryz.isAgg169
  z51 := Tryz.sizeOf169
  v51 := Tryz.zeroValue169
  t53 := Tryz.underlying171
  a53 := Tryz.isAgg171
  z53 := Tryz.sizeOf171
  v53 := Tryz.zeroValue171
  t171 := Tryz.underlying193
  a171 := Tryz.isAgg193
  z171 := Tryz.sizeOf193
  v171 := Tryz.zeroValue193
  t173 := Tryz.underlying195
  a173 := Tryz.isAgg195
  z173 := Tryz.sizeOf195
  v173 := Tryz.zeroValue195
  t212 := Tryz.underlying211
  a212 := Tryz.isAgg211
  z212 := Tryz.sizeOf211
  v212 := Tryz.zeroValue211
  t213 := Tryz.underlying212
  a213 := Tryz.isAgg212
  z213 := Tryz.sizeOf212
  t232 := Tryz.underlying239
  a232 := Tryz.isAgg239
  z232 := Tryz.sizeOf239
  v232 := Tryz.zeroValue239
  t233 := Tryz.underlying240
  a233 := Tryz.isAgg240
  z233 := Tryz.sizeOf240
  v233 := Tryz.zeroValue240
  g17 := by kernel_rfl
  g18 := by kernel_rfl
  g19 := by kernel_rfl
  i0 := by kernel_rfl
  i2 := by kernel_rfl
  i3 := by kernel_rfl
  i4 := by kernel_rfl
  i5 := by kernel_rfl
  i9 := by kernel_rfl
  i20 := by kernel_rfl
  i37 := by kernel_rfl
  i46 := by kernel_rfl
  i51 := by kernel_rfl
  i53 := by kernel_rfl
  i171 := by kernel_rfl
  i173 := by kernel_rfl
  i212 := by kernel_rfl
  i232 := by kernel_rfl
  i233 := by kernel_rfl
  m17 := by kernel_rfl
  m18 := by kernel_rfl
  m19 := by kernel_rfl }
open Go.RowKit Go.Sort Go.Lib in
/-- strconv.Itoa: "Itoa is equivalent to FormatInt(int64(i), 10).": i's DECIMAL NUMERAL ('Lib.itoa': a '-' where i is negative, then the digits), FOR EVERY int. The world behind the call: the world before it, new blocks behind the heap (the library's 'var a [24]byte'), draws. (LAID: no walk: one application.) -/
theorem Tryz.strconv_Itoa (n : Int) (h0 : -9223372036854775808 ≤ n) (h1 : n ≤ 9223372036854775807) (w : World) (htab : Lib.TabIs Tryz.prog w "internal/strconv.uint64pow10" .u64 Lib.pow10Tab) :
    Calls Tryz.prog 90 #[.int .i64 n] w fun e w' => e = .returned (.string ⟨(Lib.itoa n).toArray⟩) ∧ ∃ k os, w' = grow (w.drewN k) os := Any.strconv_Itoa Tryz.laysM171 n h0 h1 w htab
def Tryz.laysM179_ren : Go.Shelf.Ren := ⟨fun | 179 => 91 | 251 => 129 | 252 => 130 | 181 => 165 | 184 => 166 | 290 => 167 | 324 => 195 | n => n, fun | 130 => 145 | 5 => 5 | 75 => 101 | 0 => 0 | 93 => 99 | 91 => 97 | 3 => 3 | 131 => 111 | 4 => 4 | 37 => 41 | 20 => 20 | 80 => 244 | 9 => 9 | n => n, fun | 14 => 0 | n => n⟩
theorem Tryz.laysM179 : Go.Proofs.LaysM.n179 Tryz.prog Tryz.laysM179_ren := {
  mixed := by kernel_rfl
  f179 := Tryz.func91.trans (congrArg some (by kernel_rfl))
  f181 := Tryz.func165.trans (congrArg some (by kernel_rfl))
  f184 := Tryz.func166.trans (congrArg some (by kernel_rfl))
  f251 := Tryz.func129.trans (congrArg some (by kernel_rfl))
  f252 := Tryz.func130.trans (congrArg some (by kernel_rfl))
  f290 := Tryz.func167.trans (congrArg some (by kernel_rfl))
  f324 := Tryz.func195.trans (congrArg some (by kernel_rfl))
  t0 := Tryz.underlying0
  a0 := Tryz.isAgg0
  z0 := Tryz.sizeOf0
  v0 := Tryz.zeroValue0
  t3 := Tryz.underlying3
  a3 := Tryz.isAgg3
  z3 := Tryz.sizeOf3
  v3 := Tryz.zeroValue3
  t4 := Tryz.underlying4
  a4 := Tryz.isAgg4
  z4 := Tryz.sizeOf4
  v4 := Tryz.zeroValue4
  t5 := Tryz.underlying5
  a5 := Tryz.isAgg5
  z5 := Tryz.sizeOf5
  v5 := Tryz.zeroValue5
  t20 := Tryz.underlying20
  a20 := Tryz.isAgg20
  z20 := Tryz.sizeOf20
  v20 := Tryz.zeroValue20
  t37 := Tryz.underlying41
  a37 := Tryz.isAgg41
  z37 := Tryz.sizeOf41
  v37 := Tryz.zeroValue41
  t75 := Tryz.underlying101
  a75 := Tryz.isAgg101
  z75 := Tryz.sizeOf101
  v75 := Tryz.zeroValue101
  t91 := Tryz.underlying97
  a91 := Tryz.isAgg97
  z91 := Tryz.sizeOf97
  v91 := Tryz.zeroValue97
  t93 := Tryz.underlying99
  a93 := Tryz.isAgg99
  z93 := Tryz.sizeOf99
  v93 := Tryz.zeroValue99
  t130 := Tryz.underlying145
  a130 := Tryz.isAgg145
  z130 := Tryz.sizeOf145
  v130 := Tryz.zeroValue145
  t131 := Tryz.underlying111
  a131 := Tryz.isAgg111
  z131 := Tryz.sizeOf111
  v131 := Tryz.zeroValue111
  g14 := by kernel_rfl
  t9 := Tryz.underlying9
  a9 := Tryz.isAgg9
  z9 := Tryz.sizeOf9
  v9 := Tryz.zeroValue9
  t80 := Tryz.underlying244
  a80 := Tryz.isAgg244
  z80 := Tryz.sizeOf244
  v80 := Tryz.zeroValue244
  i0 := by kernel_rfl
  i3 := by kernel_rfl
  i4 := by kernel_rfl
  i5 := by kernel_rfl
  i9 := by kernel_rfl
  i20 := by kernel_rfl
  i37 := by kernel_rfl
  i75 := by kernel_rfl
  i80 := by kernel_rfl
  i91 := by kernel_rfl
  i93 := by kernel_rfl
  i130 := by kernel_rfl
  i131 := by kernel_rfl
  m14 := by kernel_rfl }
def Tryz.laysM178_ren : Go.Shelf.Ren := ⟨fun | 178 => 89 | 251 => 129 | 252 => 130 | 181 => 165 | 184 => 166 | 290 => 167 | 324 => 195 | n => n, fun | 130 => 145 | 9 => 9 | 3 => 3 | 75 => 101 | 0 => 0 | 93 => 99 | 91 => 97 | 131 => 111 | 4 => 4 | 37 => 41 | 20 => 20 | 80 => 244 | 5 => 5 | n => n, fun | 14 => 0 | n => n⟩
theorem Tryz.laysM178 : Go.Proofs.LaysM.n178 Tryz.prog Tryz.laysM178_ren := {
  mixed := by kernel_rfl
  f178 := Tryz.func89.trans (congrArg some (by kernel_rfl))
  f181 := Tryz.func165.trans (congrArg some (by kernel_rfl))
  f184 := Tryz.func166.trans (congrArg some (by kernel_rfl))
  f251 := Tryz.func129.trans (congrArg some (by kernel_rfl))
  f252 := Tryz.func130.trans (congrArg some (by kernel_rfl))
  f290 := Tryz.func167.trans (congrArg some (by kernel_rfl))
  f324 := Tryz.func195.trans (congrArg some (by kernel_rfl))
  t0 := Tryz.underlying0
  a0 := Tryz.isAgg0
  z0 := Tryz.sizeOf0
  v0 := Tryz.zeroValue0
  t3 := Tryz.underlying3
  a3 := Tryz.isAgg3
  z3 := Tryz.sizeOf3
  v3 := Tryz.zeroValue3
  t4 := Tryz.underlying4
  a4 := Tryz.isAgg4
  z4 := Tryz.sizeOf4
  v4 := Tryz.zeroValue4
  t9 := Tryz.underlying9
  a9 := Tryz.isAgg9
  z9 := Tryz.sizeOf9
  v9 := Tryz.zeroValue9
  t20 := Tryz.underlying20
  a20 := Tryz.isAgg20
  z20 := Tryz.sizeOf20
  v20 := Tryz.zeroValue20
  t37 := Tryz.underlying41
  a37 := Tryz.isAgg41
  z37 := Tryz.sizeOf41
  v37 := Tryz.zeroValue41
  t75 := Tryz.underlying101
  a75 := Tryz.isAgg101
  z75 := Tryz.sizeOf101
  v75 := Tryz.zeroValue101
  t91 := Tryz.underlying97
  a91 := Tryz.isAgg97
  z91 := Tryz.sizeOf97
  v91 := Tryz.zeroValue97
  t93 := Tryz.underlying99
  a93 := Tryz.isAgg99
  z93 := Tryz.sizeOf99
  v93 := Tryz.zeroValue99
  t130 := Tryz.underlying145
  a130 := Tryz.isAgg145
  z130 := Tryz.sizeOf145
  v130 := Tryz.zeroValue145
  t131 := Tryz.underlying111
  a131 := Tryz.isAgg111
  z131 := Tryz.sizeOf111
  v131 := Tryz.zeroValue111
  g14 := by kernel_rfl
  t5 := Tryz.underlying5
  a5 := Tryz.isAgg5
  z5 := Tryz.sizeOf5
  v5 := Tryz.zeroValue5
  t80 := Tryz.underlying244
  a80 := Tryz.isAgg244
  z80 := Tryz.sizeOf244
  v80 := Tryz.zeroValue244
  i0 := by kernel_rfl
  i3 := by kernel_rfl
  i4 := by kernel_rfl
  i5 := by kernel_rfl
  i9 := by kernel_rfl
  i20 := by kernel_rfl
  i37 := by kernel_rfl
  i75 := by kernel_rfl
  i80 := by kernel_rfl
  i91 := by kernel_rfl
  i93 := by kernel_rfl
  i130 := by kernel_rfl
  i131 := by kernel_rfl
  m14 := by kernel_rfl }
def Tryz.laysM183_ren : Go.Shelf.Ren := ⟨fun | 183 => 92 | n => n, fun | 130 => 145 | 37 => 41 | 0 => 0 | 93 => 99 | 3 => 3 | 5 => 5 | 91 => 97 | n => n, fun | n => n⟩
theorem Tryz.laysM183 : Go.Proofs.LaysM.n183 Tryz.prog Tryz.laysM183_ren := {
  mixed := by kernel_rfl
  f183 := Tryz.func92.trans (congrArg some (by kernel_rfl))
  t0 := Tryz.underlying0
  a0 := Tryz.isAgg0
  z0 := Tryz.sizeOf0
  v0 := Tryz.zeroValue0
  t3 := Tryz.underlying3
  a3 := Tryz.isAgg3
  z3 := Tryz.sizeOf3
  v3 := Tryz.zeroValue3
  t37 := Tryz.underlying41
  a37 := Tryz.isAgg41
  z37 := Tryz.sizeOf41
  v37 := Tryz.zeroValue41
  t93 := Tryz.underlying99
  a93 := Tryz.isAgg99
  z93 := Tryz.sizeOf99
  v93 := Tryz.zeroValue99
  t130 := Tryz.underlying145
  a130 := Tryz.isAgg145
  z130 := Tryz.sizeOf145
  v130 := Tryz.zeroValue145
  t5 := Tryz.underlying5
  a5 := Tryz.isAgg5
  z5 := Tryz.sizeOf5
  v5 := Tryz.zeroValue5
  t91 := Tryz.underlying97
  a91 := Tryz.isAgg97
  z91 := Tryz.sizeOf97
  v91 := Tryz.zeroValue97
  i0 := by kernel_rfl
  i3 := by kernel_rfl
  i5 := by kernel_rfl
  i37 := by kernel_rfl
  i91 := by kernel_rfl
  i93 := by kernel_rfl
  i130 := by kernel_rfl }
open Go.RowKit in
/-- (*bytes.Buffer).Bytes: "Bytes returns a slice of length b.Len() holding the unread portion of the buffer. .. The slice aliases the buffer content at least until the next buffer modification": A SLICE THAT OWNS THE CELLS bs ('World.ownsRow': nil where nothing was ever written). The world is as it was but for the count of draws. (LAID: no walk: one application.) -/
theorem Tryz.Buffer_Bytes (B b : Nat) (bs : List Value) (w : World) (h : Lib.IsBuffer 99 5 B b bs w) :
    Calls Tryz.prog 92 #[.pointer (some ⟨b, 0, none⟩)] w fun e w' => ∃ v, e = .returned v ∧ w'.ownsRow B 5 1 v bs.length bs ∧ ∃ n, w' = w.drewN n := Any.Buffer_Bytes Tryz.laysM183 B b bs w h
end Go.Proofs
end

section
namespace Go.Proofs.YtcdhhaedgohlgaaGreatDoor.P
open Go.RowKit Go.Proofs.YtcdhhaedgohlgaaGreatDoorW.PrintWords Go.Proofs.YtcdhhaedgohlgaaGreatDoorW.PrintLast Go.Proofs.YtcdhhaedgohlgaaGreatDoorW.PrintMore
set_option linter.unusedVariables false
set_option linter.unusedSimpArgs false
set_option maxRecDepth 100000

theorem isBuf_grow {B b : Nat} {bs : List Value} {w : World} (h : Lib.IsBuffer 99 5 B b bs w) (k : Nat) (os : Array Obj) : Lib.IsBuffer 99 5 B b bs (Go.Sort.grow (w.drewN k) os) := by
  have hlt := h.lt
  obtain ⟨hB, v, lr, hb, ho, hne⟩ := h
  exact ⟨hB, v, lr, by rw [Lib.heap_grow_old w k os b hlt]; exact hb, Lib.ownsRow_grow ho k os, hne⟩
theorem kept_grow (e : TypeId) (b : Option Nat) (w : World) (k : Nat) (os : Array Obj) : Lib.OthersKept e b w (Go.Sort.grow (w.drewN k) os) := by
  intro i o hi _ _
  have hlt : i < w.heap.size := by
    rcases Nat.lt_or_ge i w.heap.size with h | h
    · exact h
    · rw [Array.getElem?_eq_none h] at hi; cases hi
  rw [Lib.heap_grow_old w k os i hlt]
  exact hi

/-- The text that one line adds. -/
def lineB (l : List Int) (s : List UInt8) : List UInt8 := (l.flatMap fun x => Lib.itoa x ++ [32]) ++ s

/-- What a writer leaves: the buffer with more text; below it, and beside it, all as it was. -/
structure BufTo (B b : Nat) (t : List UInt8) (w w' : World) : Prop where
  buf : Lib.IsBuffer 99 5 B b (Lib.byteCells t) w'
  below : Below B w w'
  kept : Lib.OthersKept 5 (some b) w w'

theorem BufTo.trans {B b : Nat} {t t' : List UInt8} {w w1 w2 : World} (h : BufTo B b t w w1) (k : BufTo B b t' w1 w2) : BufTo B b t' w w2 := ⟨k.buf, h.below.trans k.below, h.kept.trans k.kept⟩
theorem BufTo.drewN {B b : Nat} {t : List UInt8} {w w1 : World} (h : BufTo B b t w w1) (k : Nat) : BufTo B b t w (w1.drewN k) := ⟨h.buf, pw_below_drewN h.below k, h.kept⟩
theorem BufTo.refl {B b : Nat} {t : List UInt8} {w : World} (h : Lib.IsBuffer 99 5 B b (Lib.byteCells t) w) : BufTo B b t w w := ⟨h, Below.refl _ _, Lib.OthersKept.refl _ _ _⟩

theorem wstr89 (B b : Nat) (t : List UInt8) (s : ByteArray) (w : World) (h : Lib.IsBuffer 99 5 B b (Lib.byteCells t) w) (hBw : B ≤ w.heap.size) (hlim : t.length + s.size ≤ 140737488355328) :
    Calls Tryz.prog 89 #[.pointer (some ⟨b, 0, none⟩), .string s] w fun e w' => e = .returned (.tuple #[.int .i64 s.size, .nilIface]) ∧ BufTo B b (t ++ s.data.toList) w w' := by
  refine (Any.Buffer_WriteString_kept Tryz.laysM178 B b (Lib.byteCells t) s w h hBw (Lib.byteCells_one _) (by rw [Lib.byteCells_length]; exact hlim)).mono ?_
  rintro e w' ⟨rfl, h1, h2, h3⟩
  rw [← Lib.byteCells_append] at h1
  exact ⟨rfl, h1, h2, h3⟩
theorem wbyte91 (B b : Nat) (t : List UInt8) (c : UInt8) (w : World) (h : Lib.IsBuffer 99 5 B b (Lib.byteCells t) w) (hBw : B ≤ w.heap.size) (hlim : t.length + 1 ≤ 140737488355328) :
    Calls Tryz.prog 91 #[.pointer (some ⟨b, 0, none⟩), .int .u8 (c.toNat : Int)] w fun e w' => e = .returned .nilIface ∧ BufTo B b (t ++ [c]) w w' := by
  refine (Any.Buffer_WriteByte_kept Tryz.laysM179 B b (Lib.byteCells t) c.toNat w h hBw (Lib.byteCells_one _) (by rw [Lib.byteCells_length]; exact hlim)).mono ?_
  rintro e w' ⟨rfl, h1, h2, h3⟩
  have e1 : Lib.byteCells t ++ [.int .u8 (c.toNat : Int)] = Lib.byteCells (t ++ [c]) := by rw [Lib.byteCells_append]; rfl
  rw [e1] at h1
  exact ⟨rfl, h1, h2, h3⟩
theorem itoa90 (B b : Nat) (t : List UInt8) (n : Int) (h0 : -9223372036854775808 ≤ n) (h1 : n ≤ 9223372036854775807) (w : World) (hT : Lib.TabBelow Tryz.prog B w tabP .u64 Lib.pow10Tab) (h : Lib.IsBuffer 99 5 B b (Lib.byteCells t) w) (hBw : B ≤ w.heap.size) :
    Calls Tryz.prog 90 #[.int .i64 n] w fun e w' => e = .returned (.string ⟨(Lib.itoa n).toArray⟩) ∧ BufTo B b t w w' := by
  refine (Tryz.strconv_Itoa n h0 h1 w hT.here).mono ?_
  rintro e w' ⟨rfl, k, os, rfl⟩
  exact ⟨rfl, isBuf_grow h k os, Lib.below_grow B w hBw k os, kept_grow _ _ _ _ _⟩

theorem lineB_nil (l : List Int) : (∀ x ∈ l, -9223372036854775808 ≤ x ∧ x ≤ 9223372036854775807) → (lineB l []).length ≤ 22 * l.length := by
  induction l with
  | nil => intro _; simp [lineB]
  | cons x l ih =>
    intro h
    have h1 := Lib.itoa_length_le x (h x (List.mem_cons_self ..)).1 (h x (List.mem_cons_self ..)).2
    have h2 := ih (fun y hy => h y (List.mem_cons_of_mem _ hy))
    simp [lineB] at h2 ⊢
    omega
theorem lineB_snoc (l : List Int) (x : Int) : lineB (l ++ [x]) [] = lineB l [] ++ (Lib.itoa x ++ [32]) := by simp [lineB]
theorem lineB_end (l : List Int) (s : List UInt8) : lineB l s = lineB l [] ++ s := by simp [lineB]
theorem wsp91 (B b : Nat) (t : List UInt8) (w : World) (h : Lib.IsBuffer 99 5 B b (Lib.byteCells t) w) (hBw : B ≤ w.heap.size) (hlim : t.length + 1 ≤ 140737488355328) :
    Calls Tryz.prog 91 #[.pointer (some ⟨b, 0, none⟩), .int .u8 32] w fun e w' => e = .returned .nilIface ∧ BufTo B b (t ++ [32]) w w' := wbyte91 B b t 32 w h hBw hlim
theorem wnl91 (B b : Nat) (t : List UInt8) (w : World) (h : Lib.IsBuffer 99 5 B b (Lib.byteCells t) w) (hBw : B ≤ w.heap.size) (hlim : t.length + 1 ≤ 140737488355328) :
    Calls Tryz.prog 91 #[.pointer (some ⟨b, 0, none⟩), .int .u8 10] w fun e w' => e = .returned .nilIface ∧ BufTo B b (t ++ [10]) w w' := wbyte91 B b t 10 w h hBw hlim

set_option maxHeartbeats 4000000 in
theorem line88 (B b : Nat) (t : List UInt8) (A0 : Option Addr) (c0 : Nat) (l0 : List Int) (s : ByteArray) (w : World) (h : Lib.IsBuffer 99 5 B b (Lib.byteCells t) w) (hBw : B ≤ w.heap.size) (hT : Lib.TabBelow Tryz.prog B w tabP .u64 Lib.pow10Tab)
    (hA : ∀ W, Below B w W → Lib.OthersKept 5 (some b) w W → Kd.C (Kd.int .i64) W A0 l0.length l0) (hl : ∀ x ∈ l0, -9223372036854775808 ≤ x ∧ x ≤ 9223372036854775807) (hlim : t.length + 22 * l0.length + s.size ≤ 140737488355328) :
    Calls Tryz.prog 88 #[.slice A0 l0.length c0, .string s, .pointer (some ⟨b, 0, none⟩)] w fun e w' => e = .returned (.tuple #[]) ∧ BufTo B b (t ++ lineB l0 s.data.toList) w w' := by
  have HT := Aside0.mk hT
  have HA := Aside0.mk hA
  have HL := Aside0.mk hl
  have H := Aside0.mk h
  have HB := Aside0.mk hBw
  have HLIM := Aside0.mk hlim
  have hn : l0.length < 140737488355328 := by omega
  clear hT hA hl h hBw hlim
  go_enter Tryz.func88, Tryz.ntmps88
  go_wp2
  go_loopg [9] l0.length (fun gg s9 wr => ∃ kk : Nat, kk ≤ l0.length ∧ l0.length - kk ≤ gg ∧ s9 = .int .i64 kk ∧ Aside0 (BufTo B b (t ++ lineB (l0.take kk) []) w wr))
  case atStart => exact ⟨0, Nat.zero_le _, by omega, rfl, ⟨by have := BufTo.refl H.out; simpa [lineB] using this⟩⟩
  case round =>
    obtain ⟨kk, hkk, hg, rfl, HK⟩ := hrel
    by_cases hlt : kk < l0.length
    · have hltz : (kk : Int) < (l0.length : Int) := by omega
      obtain ⟨ad, e1, hx⟩ := Kd.at_int (HA.out wr HK.out.below HK.out.kept) (kk : Int) (by omega) (by omega)
      rw [Int.toNat_natCast] at hx
      have hq : rd l0 (kk : Int) = l0.getD kk 0 := by unfold rd; rw [Int.toNat_natCast]
      rw [hq] at hx
      have hxb : -9223372036854775808 ≤ l0.getD kk 0 ∧ l0.getD kk 0 ≤ 9223372036854775807 := by
        have := HL.out l0[kk] (List.getElem_mem hlt)
        simpa [List.getD_eq_getElem?_getD, hlt] using this
      have hlen : (t ++ lineB (l0.take kk) []).length + 22 ≤ 140737488355328 := by
        have h1 := lineB_nil (l0.take kk) (fun x hx => HL.out x (List.mem_of_mem_take hx))
        have h2 : (l0.take kk).length = kk := by rw [List.length_take]; omega
        rw [h2] at h1
        have h3 := HLIM.out
        rw [List.length_append]
        omega
      have hsn : t ++ lineB (l0.take (kk + 1)) [] = t ++ lineB (l0.take kk) [] ++ Lib.itoa (l0.getD kk 0) ++ [32] := by
        have : l0.take (kk + 1) = l0.take kk ++ [l0.getD kk 0] := by
          rw [List.take_add_one, List.getElem?_eq_getElem hlt]
          simp [List.getD_eq_getElem?_getD, hlt]
        rw [this, lineB_snoc]
        simp
      have hil := Lib.itoa_length_le _ hxb.1 hxb.2
      generalize l0.getD kk 0 = x at *
      have HSN := Aside0.mk hsn
      have HLEN := Aside0.mk hlen
      have HIL := Aside0.mk hil
      have HXB := Aside0.mk hxb
      have HBr : Aside0 (B ≤ wr.heap.size) := ⟨Nat.le_trans HB.out HK.out.below.size⟩
      subst e1
      clear hsn hlen hil hxb hq
      go_wp2_with (go_at_call 90; refine ((Aside0.mk (itoa90 B b _ x HXB.out.1 HXB.out.2 wr (HT.out.on HK.out.below) HK.out.buf HBr.out)).out).mono ?_; rintro e w1 ⟨rfl, h1⟩; have H1 := Aside0.mk h1; clear h1)
      go_wp2_with (go_at_call 89; refine (wstr89 B b _ ⟨(Lib.itoa x).toArray⟩ w1 H1.out.buf (Nat.le_trans HBr.out H1.out.below.size) (by have h1 := HLEN.out; have h2 := HIL.out; show _ + (Lib.itoa x).toArray.size ≤ _; rw [List.size_toArray]; omega)).mono ?_; rintro e w2 ⟨rfl, h2⟩; have H2 := Aside0.mk (H1.out.trans h2); clear h2)
      go_wp2_with (go_at_call 91; refine (wsp91 B b _ w2 H2.out.buf (Nat.le_trans HBr.out H2.out.below.size) (by have h1 := HLEN.out; have h2 := HIL.out; rw [List.length_append]; show _ + (Lib.itoa x).toArray.toList.length + 1 ≤ _; simp only [List.toList_toArray]; omega)).mono ?_; rintro e w3 ⟨rfl, h3⟩; have H3 := Aside0.mk (H2.out.trans h3); clear h3)
      go_roundg (l0.length - (kk + 1))
      case measure => omega
      case rel =>
        refine ⟨kk + 1, by omega, by omega, by go_num, ⟨?_⟩⟩
        rw [HSN.out]
        exact HK.out.trans H3.out
    · obtain rfl : kk = l0.length := by omega
      rw [List.take_length] at HK
      have hlen : (t ++ lineB l0 []).length + s.size ≤ 140737488355328 := by
        have h1 := lineB_nil l0 HL.out
        have h3 := HLIM.out
        rw [List.length_append]
        omega
      have HLEN := Aside0.mk hlen
      clear hlen
      go_wp2_with (go_at_call 89; refine (wstr89 B b _ s wr HK.out.buf (Nat.le_trans HB.out HK.out.below.size) HLEN.out).mono ?_; rintro e w2 ⟨rfl, h2⟩; have H2 := Aside0.mk (HK.out.trans h2); clear h2)
      go_end0
      refine ⟨rfl, ?_⟩
      rw [lineB_end, ← List.append_assoc]
      exact H2.out
end Go.Proofs.YtcdhhaedgohlgaaGreatDoor.P
end

section
namespace Go.Proofs.YtcdhhaedgohlgaaGreatDoor.P
open Go.RowKit Go.Proofs.YtcdhhaedgohlgaaGreatDoorW.PrintWords Go.Proofs.YtcdhhaedgohlgaaGreatDoorW.PrintLast Go.Proofs.YtcdhhaedgohlgaaGreatDoorW.PrintMore
set_option linter.unusedVariables false
set_option linter.unusedSimpArgs false
set_option maxRecDepth 100000

def putSz (L : List (List Int)) : Nat := (L.map fun l => 22 * l.length + 2).sum
def pHead : List UInt8 := [112, 32, 99, 110, 102, 32]
def clausesB (L : List (List Int)) : List UInt8 := L.flatMap fun l => lineB l [48, 10]
def putText (n : Int) (L : List (List Int)) : List UInt8 := pHead ++ lineB [n] (Lib.itoa L.length) ++ [10] ++ clausesB L
def putV (n : Int) (L : List (List Int)) : List Int × Int := if checkV n L = 0 then (bytesI (putText n L), 0) else ([], checkV n L)
def cnf_Put.f (n : Int) (L : List (List Int)) : Option (List Int × Int) := if putSz L + 100 ≤ 140737488355328 then some (putV n L) else none

theorem BufTo.alloc {B b : Nat} {t : List UInt8} {w w1 : World} (h : BufTo B b t w w1) (hB : B ≤ w1.heap.size) (o : Obj) : BufTo B b t w (w1.alloc o) := by
  have e : w1.alloc o = Go.Sort.grow (w1.drewN 0) #[o] := Go.Sort.alloc_eq_grow w1 o
  exact ⟨by rw [e]; exact isBuf_grow h.buf 0 _, h.below.alloc hB o, h.kept.alloc o⟩
theorem BufTo.drew {B b : Nat} {t : List UInt8} {w w1 : World} (h : BufTo B b t w w1) : BufTo B b t w w1.drew := h.drewN 1
theorem C_one {W : World} {g : Nat} {n : Int} {t : TypeId} {fr : Nat × Nat} (h : W.heap[g]? = some (.cells #[.int .i64 n] t fr)) : Kd.C (Kd.int .i64) W (some ⟨g, 0, none⟩) 1 [n] := by
  refine ⟨rfl, by omega, fun _ => ⟨_, rfl, fun j p hj => ?_⟩⟩
  cases j with
  | zero =>
    injection hj with hj
    subst hj
    refine ⟨[.int .i64 n], rfl, rfl, fun i u hi => ?_⟩
    cases i with
    | zero =>
      injection hi with hi
      subst hi
      show W.cell? ⟨g, 0, none⟩ = _
      simp [World.cell?, h]
    | succ i => simp at hi
  | succ j => simp at hj
theorem checkV_zero {n : Int} {L : List (List Int)} (h : checkV n L = 0) : 0 ≤ n ∧ n ≤ 65536 ∧ (∀ l ∈ L, ∀ x ∈ l, litB n x = true) ∧ L.length ≤ 65536 := by
  unfold checkV at h
  split at h
  · cases h
  · split at h
    · cases h
    · split at h
      · cases h
      · rename_i h1 h2 h3
        refine ⟨by omega, by omega, fun l hl x hx => ?_, by omega⟩
        have h4 : (L.any fun l => l.any fun x => !litB n x) = false := by simpa using h2
        rw [List.any_eq_false] at h4
        have h5 := h4 l hl
        have h6 : (l.any fun x => !litB n x) = false := by simpa using h5
        rw [List.any_eq_false] at h6
        simpa using h6 x hx
theorem clausesB_snoc (L : List (List Int)) (l : List Int) : clausesB (L ++ [l]) = clausesB L ++ lineB l [48, 10] := by simp [clausesB]
theorem clausesB_len (L : List (List Int)) (h : ∀ l ∈ L, ∀ x ∈ l, -9223372036854775808 ≤ x ∧ x ≤ 9223372036854775807) : (clausesB L).length ≤ putSz L := by
  induction L with
  | nil => simp [clausesB, putSz]
  | cons l L ih =>
    have h1 := ih (fun m hm => h m (List.mem_cons_of_mem _ hm))
    have h2 := lineB_nil l (h l (List.mem_cons_self ..))
    have h3 : clausesB (l :: L) = lineB l [48, 10] ++ clausesB L := by simp [clausesB]
    have h4 : putSz (l :: L) = 22 * l.length + 2 + putSz L := by simp [putSz]
    rw [h3, h4, lineB_end, List.length_append, List.length_append]
    simp only [List.length_cons, List.length_nil]
    omega
theorem putSz_take (L : List (List Int)) (k : Nat) (hk : k < L.length) : putSz (L.take k) + (22 * (L.getD k []).length + 2) ≤ putSz L := by
  induction L generalizing k with
  | nil => simp at hk
  | cons l L ih =>
    have h4 : ∀ M : List (List Int), putSz (l :: M) = 22 * l.length + 2 + putSz M := fun M => by simp [putSz]
    cases k with
    | zero =>
      rw [h4]
      show putSz [] + (22 * l.length + 2) ≤ _
      have : putSz [] = 0 := rfl
      omega
    | succ k =>
      have := ih k (by simpa using hk)
      rw [List.take_succ_cons, h4, h4]
      show _ + (22 * (L.getD k []).length + 2) ≤ _
      omega
theorem lit_wide {n x : Int} (h : litB n x = true) (hn : n ≤ 65536) : -9223372036854775808 ≤ x ∧ x ≤ 9223372036854775807 := by
  have := (litB_range h).2
  omega

set_option maxHeartbeats 4000000 in
theorem cnf_Put.calls (a0_0 : Int) (A0_1 : Option Addr) (c0_1 : Nat) (l0_1 : List (List Int)) (r1 : List Int) (r2 : Int) (w : World) (hL : Laid w) (hr0_1 : Kd.C (Kd.slice 3 (Kd.int .i64)) w A0_1 l0_1.length l0_1) (hc0_1 : l0_1.length ≤ c0_1) (h : cnf_Put.f a0_0 l0_1 = some (r1, r2)) :
    Calls Tryz.prog 38 #[.agg #[.int .i64 a0_0, .slice A0_1 l0_1.length c0_1]] w fun e w' => ∃ v0_ : Value, e = .returned (.tuple #[v0_, .int .i64 r2]) ∧ Kd.R (Kd.int .u8) 5 w' w.heap.size (fun _ => True) v0_ r1 ∧ Below w.heap.size w w' := by
  unfold cnf_Put.f at h
  by_cases hlt : putSz l0_1 + 100 ≤ 140737488355328
  case neg => rw [if_neg hlt] at h; cases h
  rw [if_pos hlt] at h
  injection h with h
  have HLT := Aside0.mk hlt
  have HL := Aside0.mk hL
  have HR := Aside0.mk hr0_1
  have HC := Aside0.mk hc0_1
  have hm : l0_1.length ≤ 9223372036854775807 := hr0_1.2.1
  have HCK := fun W hb => Aside0.mk (cnf_Check.calls a0_0 A0_1 c0_1 l0_1 (checkV a0_0 l0_1) W (Kd.C_below HR.out hb) HC.out rfl)
  clear hL hr0_1 hlt
  unfold putV at h
  have HB1 : Aside0 (Below w.heap.size w (w.alloc (.cells #[.int .i64 a0_0, .slice A0_1 l0_1.length c0_1] 24))) := ⟨(Below.refl _ _).alloc (Nat.le_refl _) _⟩
  by_cases hq : checkV a0_0 l0_1 = 0
  · rw [if_pos hq] at h
    injection h with h h2
    subst h h2
    rw [hq] at HCK
    have HQ := Aside0.mk hq
    clear hq
    go_enter Tryz.func38, Tryz.ntmps38
    go_wp2_with (go_at_call 26; refine ((HCK _ HB1.out).out).mono ?_; rintro e w1 ⟨rfl, hb⟩; have HB2 := Aside0.mk hb; clear hb)
    have hq := checkV_zero HQ.out
    have HN := Aside0.mk (And.intro hq.1 hq.2.1)
    have HX := Aside0.mk (fun l hl x hx => lit_wide (hq.2.2.1 l hl x hx) hq.2.1)
    have hlen16 := hq.2.2.2
    clear hq
    obtain ⟨w2, hw2⟩ : ∃ w2, w2 = w1.alloc (.cells #[.slice none 0 0, .int .i64 0, .int .i8 0] 99) := ⟨_, rfl⟩
    obtain ⟨B, hB⟩ : ∃ B, B = w1.heap.size := ⟨_, rfl⟩
    have hfresh : BufTo B B [] w2 w2 := by subst hw2; subst hB; exact BufTo.refl (Lib.fresh_isBuffer 99 5 w1)
    have hBs : B ≤ w2.heap.size := by subst hw2; subst hB; simp
    have HLO : Aside0 (∀ W, Below B w2 W → Below w.heap.size w W ∧ W.cell? ⟨w.heap.size, 0, none⟩ = some (.int .i64 a0_0) ∧ W.cell? ⟨w.heap.size, 1, none⟩ = some (.slice A0_1 l0_1.length c0_1)) := ⟨by
      intro W hb
      have h1 : w.heap.size < w1.heap.size := by have := HB2.out.size; simp at this; omega
      have h12 : Below w1.heap.size w1 w2 := by subst hw2; exact (Below.refl _ _).alloc (Nat.le_refl _) _
      have hb' : Below w1.heap.size w1 W := h12.trans (by rw [← hB]; exact hb)
      have hc0 : (w.alloc (.cells #[.int .i64 a0_0, .slice A0_1 l0_1.length c0_1] 24)).cell? ⟨w.heap.size, 0, none⟩ = some (.int .i64 a0_0) := by simp [go_sem]
      have hc1 : (w.alloc (.cells #[.int .i64 a0_0, .slice A0_1 l0_1.length c0_1] 24)).cell? ⟨w.heap.size, 1, none⟩ = some (.slice A0_1 l0_1.length c0_1) := by simp [go_sem]
      exact ⟨below_trans' (below_trans' HB1.out HB2.out) hb', (hb'.cell (p := ⟨w.heap.size, 0, none⟩) h1).trans (pw_cell_below HB2.out hc0), (hb'.cell (p := ⟨w.heap.size, 1, none⟩) h1).trans (pw_cell_below HB2.out hc1)⟩⟩
    have HBW : Aside0 (w.heap.size ≤ B) := ⟨by subst hB; have := HB2.out.size; simp at this; omega⟩
    have HTB : Aside0 (Lib.TabBelow Tryz.prog B w2 tabP .u64 Lib.pow10Tab) := ⟨by
      have h1 : w.heap.size ≤ B := by subst hB; have := HB2.out.size; simp at this; omega
      exact HL.out.tab h1 (HLO.out w2 (Below.refl _ _)).1⟩
    have HB0 := Aside0.mk hBs
    have HF := Aside0.mk hfresh
    clear hfresh hBs
    rw [← hw2, ← hB]
    clear hw2 hB HB1 HCK
    go_wp2_with (go_at_call 89; refine (wstr89 B B [] ⟨#[112, 32, 99, 110, 102, 32]⟩ w2 HF.out.buf HB0.out (by decide)).mono ?_; rintro e w3 ⟨rfl, h3⟩; have H3 : Aside0 (BufTo B B pHead w2 w3) := ⟨h3⟩; clear h3; obtain ⟨hbb, hc0, hc1⟩ := HLO.out w3 H3.out.below; clear hbb)
    have hBlt : B < w3.heap.size := H3.out.buf.lt
    have HBL := Aside0.mk hBlt
    clear hBlt
    have HLT4 : B < w3.heap.size := HBL.out
    go_region_held3 (fun w' => w'.cell? ⟨w.heap.size, 0, none⟩ = some (.int .i64 a0_0) ∧ w'.cell? ⟨w.heap.size, 1, none⟩ = some (.slice A0_1 l0_1.length c0_1)) (first | exact (HLO.out _ H5.out.below).2 | exact (HLO.out _ (BufTo.below (B := B) (b := B) (t := pHead) (w := w2) (by repeat (first | (with_reducible exact H3.out) | (with_reducible exact H4.out) | (with_reducible refine BufTo.drewN ?_ _) | (with_reducible refine BufTo.drew ?_) | (with_reducible refine BufTo.alloc ?_ (by first | exact Nat.le_of_lt HBL.out | exact HB4.out) _))))).2 | go_keep) (first
      | (go_at_call 90; refine (itoa90 B B pHead (l0_1.length : Int) ?a1 ?a2 _ ?a3 ?a4 ?a5).mono ?_; (case a1 => omega); (case a2 => omega); (case a3 => exact HTB.out.on (BufTo.below (B := B) (b := B) (t := pHead) (w := w2) (by repeat (first | (with_reducible exact H3.out) | (with_reducible exact H4.out) | (with_reducible refine BufTo.drewN ?_ _) | (with_reducible refine BufTo.drew ?_) | (with_reducible refine BufTo.alloc ?_ (by first | exact Nat.le_of_lt HBL.out | exact HB4.out) _))))); (case a4 => exact BufTo.buf (B := B) (b := B) (t := pHead) (w := w2) (by repeat (first | (with_reducible exact H3.out) | (with_reducible exact H4.out) | (with_reducible refine BufTo.drewN ?_ _) | (with_reducible refine BufTo.drew ?_) | (with_reducible refine BufTo.alloc ?_ (by first | exact Nat.le_of_lt HBL.out | exact HB4.out) _)))); (case a5 => exact Nat.le_trans HB0.out (BufTo.below (B := B) (b := B) (t := pHead) (w := w2) (by repeat (first | (with_reducible exact H3.out) | (with_reducible exact H4.out) | (with_reducible refine BufTo.drewN ?_ _) | (with_reducible refine BufTo.drew ?_) | (with_reducible refine BufTo.alloc ?_ (by first | exact Nat.le_of_lt HBL.out | exact HB4.out) _)))).size); rintro e w4 ⟨rfl, h4⟩; have HS4 := Aside0.mk h4; have H4 := Aside0.mk (BufTo.trans (B := B) (b := B) (t := pHead) (w := w2) (by repeat (first | (with_reducible exact H3.out) | (with_reducible exact H4.out) | (with_reducible refine BufTo.drewN ?_ _) | (with_reducible refine BufTo.drew ?_) | (with_reducible refine BufTo.alloc ?_ (by first | exact Nat.le_of_lt HBL.out | exact HB4.out) _))) h4); have HB4 : Aside0 (B ≤ w4.heap.size) := ⟨Nat.le_trans HB0.out H4.out.below.size⟩; have HLT4 : B < w4.heap.size := H4.out.buf.lt; clear h4)
      | (go_at_call 88; refine (line88 B B pHead (some ⟨_, 0, none⟩) 1 [a0_0] ⟨(Lib.itoa l0_1.length).toArray⟩ _ ?b1 ?b2 ?b3 ?b4 ?b5 ?b6).mono ?_; (case b1 => exact BufTo.buf (B := B) (b := B) (t := pHead) (w := w2) (by repeat (first | (with_reducible exact H3.out) | (with_reducible exact H4.out) | (with_reducible refine BufTo.drewN ?_ _) | (with_reducible refine BufTo.drew ?_) | (with_reducible refine BufTo.alloc ?_ (by first | exact Nat.le_of_lt HBL.out | exact HB4.out) _)))); (case b2 => exact Nat.le_trans HB0.out (BufTo.below (B := B) (b := B) (t := pHead) (w := w2) (by repeat (first | (with_reducible exact H3.out) | (with_reducible exact H4.out) | (with_reducible refine BufTo.drewN ?_ _) | (with_reducible refine BufTo.drew ?_) | (with_reducible refine BufTo.alloc ?_ (by first | exact Nat.le_of_lt HBL.out | exact HB4.out) _)))).size); (case b3 => exact HTB.out.on (BufTo.below (B := B) (b := B) (t := pHead) (w := w2) (by repeat (first | (with_reducible exact H3.out) | (with_reducible exact H4.out) | (with_reducible refine BufTo.drewN ?_ _) | (with_reducible refine BufTo.drew ?_) | (with_reducible refine BufTo.alloc ?_ (by first | exact Nat.le_of_lt HBL.out | exact HB4.out) _))))); (case b4 => intro W hb hk; exact C_one (hk _ _ (by first | exact heap_alloc_new w3 _ | exact heap_alloc_new w4 _ | exact HS4.out.kept w3.heap.size _ (heap_alloc_new w3 _) (fun e => by injection e with e; have := HBL.out; omega) (fun c fz e => by injection e with h1 h2 h3; exact absurd h2 (by decide))) (fun e => by injection e with e; have := HBL.out; have := HLT4; omega) (fun c fz e => by injection e with h1 h2 h3; exact absurd h2 (by decide)))); (case b5 => intro x hx; rw [List.mem_singleton] at hx; subst hx; have := HN.out; omega); (case b6 => have := Lib.itoa_length_le (l0_1.length : Int) (by omega) (by omega); show 6 + 22 * 1 + (Lib.itoa l0_1.length).toArray.size ≤ _; rw [List.size_toArray]; omega); rintro e w5 ⟨rfl, h5⟩; have H5 : Aside0 (BufTo B B (pHead ++ lineB [a0_0] (Lib.itoa l0_1.length)) w2 w5) := ⟨BufTo.trans (B := B) (b := B) (t := pHead) (w := w2) (by repeat (first | (with_reducible exact H3.out) | (with_reducible exact H4.out) | (with_reducible refine BufTo.drewN ?_ _) | (with_reducible refine BufTo.drew ?_) | (with_reducible refine BufTo.alloc ?_ (by first | exact Nat.le_of_lt HBL.out | exact HB4.out) _))) h5⟩; obtain ⟨hbb, hd0, hd1⟩ := HLO.out w5 H5.out.below; clear hbb h5))
    all_goals clear hc0 hc1
    all_goals
      obtain ⟨hd, hhd⟩ : ∃ hd, hd = pHead ++ lineB [a0_0] (Lib.itoa l0_1.length) := ⟨_, rfl⟩
      have hhl : hd.length ≤ 60 := by
        have h1 := lineB_nil [a0_0] (by intro x hx; rw [List.mem_singleton] at hx; subst hx; have := HN.out; omega)
        have h2 := Lib.itoa_length_le (l0_1.length : Int) (by omega) (by omega)
        rw [hhd, lineB_end, List.length_append, List.length_append]
        simp only [List.length_singleton] at h1
        show 6 + _ ≤ _
        omega
      have HHL := Aside0.mk hhl
      have HHD := Aside0.mk hhd
      rw [← hhd] at H5
      clear hhl hhd
      go_wp2_with (go_at_call 91; refine (wnl91 B B hd w5 H5.out.buf (Nat.le_trans HB0.out H5.out.below.size) (by have := HHL.out; omega)).mono ?_; rintro e w6 ⟨rfl, h6⟩; have H6 := Aside0.mk (H5.out.trans h6); obtain ⟨hbb, he0, he1⟩ := HLO.out w6 H6.out.below; clear hbb h6 hd0 hd1)
      clear H4 HS4 H3 HBL HB4
      go_loopg [29] l0_1.length (fun gg s29 wr => ∃ kk : Nat, kk ≤ l0_1.length ∧ l0_1.length - kk ≤ gg ∧ s29 = .int .i64 kk ∧ Aside0 (BufTo B B (hd ++ [10] ++ clausesB (l0_1.take kk)) w2 wr))
      case atStart => exact ⟨0, Nat.zero_le _, by omega, rfl, ⟨by have := H6.out; simpa [clausesB] using this⟩⟩
      case round =>
        obtain ⟨kk, hkk, hg, rfl, HK⟩ := hrel
        by_cases hlt : kk < l0_1.length
        · have hltz : (kk : Int) < (l0_1.length : Int) := by omega
          obtain ⟨ad, A1, c1, e1, hx, hl1, hK⟩ := at_L1 HR.out kk (by omega) (by omega)
          subst e1
          replace hx := pw_cell_below (HLO.out wr HK.out.below).1 hx
          have hrd : rd_L1 l0_1 kk = l0_1.getD kk [] := by unfold rd_L1; rw [Int.toNat_natCast]
          rw [hrd, Int.toNat_natCast] at hx
          rw [hrd] at hl1 hK
          clear hrd
          have hmem : l0_1.getD kk [] ∈ l0_1 := by
            have : l0_1.getD kk [] = l0_1[kk] := by simp [List.getD_eq_getElem?_getD, hlt]
            rw [this]; exact List.getElem_mem hlt
          have hxx := HX.out _ hmem
          have hsz := putSz_take l0_1 kk hlt
          have hcl := clausesB_len (l0_1.take kk) (fun l hl => HX.out l (List.mem_of_mem_take hl))
          have hsn : hd ++ [10] ++ clausesB (l0_1.take (kk + 1)) = hd ++ [10] ++ clausesB (l0_1.take kk) ++ lineB (l0_1.getD kk []) [48, 10] := by
            have : l0_1.take (kk + 1) = l0_1.take kk ++ [l0_1.getD kk []] := by
              rw [List.take_add_one, List.getElem?_eq_getElem hlt]
              simp [List.getD_eq_getElem?_getD, hlt]
            rw [this, clausesB_snoc]
            simp
          have hll : (hd ++ [10] ++ clausesB (l0_1.take kk)).length + 22 * (l0_1.getD kk []).length + 2 ≤ 140737488355328 := by
            have h1 := HHL.out
            have h2 := HLT.out
            rw [List.length_append, List.length_append]
            simp only [List.length_singleton]
            omega
          generalize l0_1.getD kk [] = l at *
          have HXX := Aside0.mk hxx
          have HSN := Aside0.mk hsn
          have HLL := Aside0.mk hll
          have HKK := Aside0.mk hK
          clear hxx hsn hll hsz hcl hmem hK
          go_wp2_with (go_at_call 88; refine (line88 B B (hd ++ [10] ++ clausesB (l0_1.take kk)) A1 c1 l ⟨#[48, 10]⟩ wr HK.out.buf (Nat.le_trans HB0.out HK.out.below.size) (HTB.out.on HK.out.below) (fun W hb _ => Kd.C_below HKK.out (HLO.out W (HK.out.below.trans hb)).1) HXX.out HLL.out).mono ?_; rintro e w7 ⟨rfl, h7⟩; have H7 := Aside0.mk (HK.out.trans h7); clear h7)
          go_roundg (l0_1.length - (kk + 1))
          case measure => omega
          case rel =>
            refine ⟨kk + 1, by omega, by omega, by go_num, ⟨?_⟩⟩
            rw [HSN.out]
            exact H7.out
        · obtain rfl : kk = l0_1.length := by omega
          rw [List.take_length] at HK
          go_wp2_with (go_at_call 92; refine (Tryz.Buffer_Bytes B B _ wr HK.out.buf).mono ?_; rintro e w7 ⟨v7, rfl, hown, nq, rfl⟩; have HO := Aside0.mk hown; clear hown)
          go_ret2
          have hR : Kd.R (Kd.int .u8) 5 (wr.drewN nq) B (fun _ => True) v7 (bytesI (hd ++ [10] ++ clausesB l0_1)) := by
            refine Kd.R_of_own (enc := Value.int .u8) ?_ (fun _ _ => trivial)
            have h1 := HO.out
            have e1 : encs (Value.int .u8) (bytesI (hd ++ [10] ++ clausesB l0_1)) = Lib.byteCells (hd ++ [10] ++ clausesB l0_1) := by
              unfold encs bytesI Lib.byteCells
              rw [List.map_map]
              rfl
            rw [e1, show (bytesI (hd ++ [10] ++ clausesB l0_1)).length = (Lib.byteCells (hd ++ [10] ++ clausesB l0_1)).length by simp [bytesI, Lib.byteCells]]
            exact h1
          have hBw : w.heap.size ≤ B := HBW.out
          rw [HHD.out] at hR
          exact ⟨_, rfl, Kd.R_lower hR hBw, pw_below_drewN (HLO.out wr HK.out.below).1 _⟩
  · rw [if_neg hq] at h
    injection h with h h2
    have HQ := Aside0.mk hq
    have hqb : (checkV a0_0 l0_1 != 0) = true := bne_iff_ne.2 hq
    generalize checkV a0_0 l0_1 = v at *
    subst h h2
    clear hq
    go_enter Tryz.func38, Tryz.ntmps38
    go_wp2_with (go_at_call 26; refine ((HCK _ HB1.out).out).mono ?_; rintro e w1 ⟨rfl, hb⟩; have HB2 := Aside0.mk hb; clear hb)
    go_ret2
    exact ⟨_, rfl, Kd.R_of_own ⟨rfl, .inl ⟨rfl, rfl⟩⟩ (fun _ _ => trivial), below_trans' HB1.out HB2.out⟩
end Go.Proofs.YtcdhhaedgohlgaaGreatDoor.P
end

section
namespace Go.Proofs.YtcdhhaedgohlgaaGreatDoor.P
set_option linter.unusedVariables false

def flush (cur : List UInt8) : List (List UInt8) := if cur = [] then [] else [cur]
/-- The words, one pass: fresh: at a line's begin; skip: in a comment. -/
def wordsS : List UInt8 → Bool → Bool → List UInt8 → List (List UInt8)
  | [], _, _, cur => flush cur
  | b :: r, fresh, skip, cur =>
    if b = 10 then flush cur ++ wordsS r true false []
    else if (skip || (fresh && b == 99)) = true then flush cur ++ wordsS r false true []
    else if isSp b = true then flush cur ++ wordsS r false false []
    else wordsS r false false (cur ++ [b])
/-- The words of one line. -/
def fieldsB : List UInt8 → List UInt8 → List (List UInt8)
  | [], cur => flush cur
  | b :: r, cur => if isSp b = true then flush cur ++ fieldsB r [] else fieldsB r (cur ++ [b])
def lineW (l : List UInt8) : List (List UInt8) := if l.head? = some 99 then [] else fieldsB l []

theorem wordsS_skip (r : List UInt8) : ∀ (l : List UInt8), (10 : UInt8) ∉ l → wordsS (l ++ 10 :: r) false true [] = wordsS r true false []
  | [], _ => by rw [List.nil_append, wordsS, if_pos rfl]; rfl
  | b :: l, h => by
    simp only [List.mem_cons, not_or] at h
    rw [List.cons_append, wordsS, if_neg (fun e => h.1 e.symm), if_pos (by rfl)]
    exact wordsS_skip r l h.2
theorem wordsS_skip_end : ∀ (l : List UInt8), (10 : UInt8) ∉ l → wordsS l false true [] = []
  | [], _ => rfl
  | b :: l, h => by
    simp only [List.mem_cons, not_or] at h
    rw [wordsS, if_neg (fun e => h.1 e.symm), if_pos (by rfl)]
    exact wordsS_skip_end l h.2
theorem wordsS_fields (r : List UInt8) : ∀ (l cur : List UInt8), (10 : UInt8) ∉ l → wordsS (l ++ 10 :: r) false false cur = fieldsB l cur ++ wordsS r true false []
  | [], cur, _ => by rw [List.nil_append, wordsS, if_pos rfl]; rfl
  | b :: l, cur, h => by
    simp only [List.mem_cons, not_or] at h
    rw [List.cons_append, wordsS, if_neg (fun e => h.1 e.symm), if_neg (by simp), fieldsB]
    split
    · rw [wordsS_fields r l [] h.2, List.append_assoc]
    · exact wordsS_fields r l _ h.2
theorem wordsS_fields_end : ∀ (l cur : List UInt8), (10 : UInt8) ∉ l → wordsS l false false cur = fieldsB l cur
  | [], cur, _ => rfl
  | b :: l, cur, h => by
    simp only [List.mem_cons, not_or] at h
    rw [wordsS, if_neg (fun e => h.1 e.symm), if_neg (by simp), fieldsB]
    split
    · rw [wordsS_fields_end l [] h.2]
    · exact wordsS_fields_end l _ h.2
/-- A line at its begin is read as one in its middle, unless it is a comment. -/
theorem wordsS_fresh (b : UInt8) (r : List UInt8) (h : b ≠ 99) (fresh : Bool) (cur : List UInt8) : wordsS (b :: r) fresh false cur = wordsS (b :: r) false false cur := by
  have : (b == 99) = false := by simpa using h
  rw [wordsS, wordsS, this]
  simp
theorem wordsS_line (l r : List UInt8) (h : (10 : UInt8) ∉ l) : wordsS (l ++ 10 :: r) true false [] = lineW l ++ wordsS r true false [] := by
  cases l with
  | nil => exact by rw [List.nil_append, wordsS, if_pos rfl]; rfl
  | cons b l =>
    unfold lineW
    by_cases hb : b = 99
    · subst hb
      rw [List.cons_append, wordsS, if_neg (by decide), if_pos (by rfl), if_pos (by rfl)]
      exact wordsS_skip r l (fun e => h (List.mem_cons_of_mem _ e))
    · rw [if_neg (by intro e; injection e with e; exact hb e), List.cons_append, wordsS_fresh b _ hb]
      exact wordsS_fields r (b :: l) [] h
theorem wordsS_line_end (l : List UInt8) (h : (10 : UInt8) ∉ l) : wordsS l true false [] = lineW l := by
  cases l with
  | nil => rfl
  | cons b l =>
    unfold lineW
    by_cases hb : b = 99
    · subst hb
      rw [wordsS, if_neg (by decide), if_pos (by rfl), if_pos (by rfl)]
      exact wordsS_skip_end l (fun e => h (List.mem_cons_of_mem _ e))
    · rw [if_neg (by intro e; injection e with e; exact hb e), wordsS_fresh b _ hb]
      exact wordsS_fields_end (b :: l) [] h

def plainW (w : List UInt8) : Prop := w ≠ [] ∧ ∀ b ∈ w, isSp b = false ∧ b ≠ 10
theorem wordsS_word (r : List UInt8) : ∀ (w cur : List UInt8), (∀ b ∈ w, isSp b = false ∧ b ≠ 10) → wordsS (w ++ r) false false cur = wordsS r false false (cur ++ w)
  | [], cur, _ => by rw [List.nil_append, List.append_nil]
  | b :: w, cur, h => by
    have hb := h b (List.mem_cons_self ..)
    rw [List.cons_append, wordsS, if_neg hb.2, if_neg (by simp), hb.1, if_neg (by simp), wordsS_word r w _ (fun c hc => h c (List.mem_cons_of_mem _ hc)), List.append_assoc]
    rfl
theorem wordsS_word' (r w : List UInt8) (fresh : Bool) (h : plainW w) (hf : fresh = true → w.head? ≠ some 99) : wordsS (w ++ r) fresh false [] = wordsS r false false w := by
  obtain ⟨h0, h1⟩ := h
  cases w with
  | nil => exact absurd rfl h0
  | cons b w =>
    have : wordsS (b :: w ++ r) fresh false [] = wordsS (b :: w ++ r) false false [] := by
      cases fresh with
      | false => rfl
      | true => exact wordsS_fresh b (w ++ r) (fun e => hf rfl (by rw [e]; rfl)) true []
    rw [this, wordsS_word r (b :: w) [] h1]
    rfl
theorem flush_some {w : List UInt8} (h : w ≠ []) : flush w = [w] := by unfold flush; rw [if_neg h]
theorem wordsS_sp (r w : List UInt8) (fresh : Bool) (h : plainW w) (hf : fresh = true → w.head? ≠ some 99) : wordsS (w ++ 32 :: r) fresh false [] = w :: wordsS r false false [] := by
  rw [wordsS_word' _ w fresh h hf, wordsS, if_neg (by decide), if_neg (by simp), if_pos (by decide), flush_some h.1]
  rfl
theorem wordsS_nl (r w : List UInt8) (fresh : Bool) (h : plainW w) (hf : fresh = true → w.head? ≠ some 99) : wordsS (w ++ 10 :: r) fresh false [] = w :: wordsS r true false [] := by
  rw [wordsS_word' _ w fresh h hf, wordsS, if_pos rfl, flush_some h.1]
  rfl

theorem ofNat_toNat (n : Nat) (h : n < 256) : (UInt8.ofNat n).toNat = n := UInt8.toNat_ofNat_of_lt' (by omega)
theorem isDig_ofNat (d : Nat) (h : d < 10) : isDig (UInt8.ofNat (48 + d)) = true := by
  unfold isDig
  rw [ofNat_toNat _ (by omega), decide_eq_true (by omega), decide_eq_true (by omega)]; rfl
theorem decDigits_all (u : Nat) : (Lib.decDigits u).all isDig = true := by
  induction u using Nat.strongRecOn with
  | _ u ih =>
    rw [Lib.decDigits]
    split
    · rename_i h; rw [List.all_cons, isDig_ofNat u h]; rfl
    · rename_i h; rw [List.all_append, ih (u / 10) (by omega), List.all_cons, isDig_ofNat _ (by omega)]; rfl
theorem decV_snoc (l : List UInt8) (b : UInt8) (n : Int) : decV (l ++ [b]) n = 10 * decV l n + ((b.toNat : Int) - 48) := by unfold decV; rw [List.foldl_append]; rfl
theorem decDigits_val (u : Nat) : decV (Lib.decDigits u) 0 = u := by
  induction u using Nat.strongRecOn with
  | _ u ih =>
    rw [Lib.decDigits]
    split
    · rename_i h
      show 10 * (0 : Int) + (((UInt8.ofNat (48 + u)).toNat : Int) - 48) = u
      rw [ofNat_toNat _ (by omega)]; omega
    · rename_i h
      rw [decV_snoc, ih (u / 10) (by omega), ofNat_toNat _ (by omega)]; omega
theorem decDigits_ne (u : Nat) : Lib.decDigits u ≠ [] := by
  rw [Lib.decDigits]
  split
  · simp
  · simp
theorem decDigits_head (u : Nat) (h : 1 ≤ u) : (Lib.decDigits u).head? ≠ some 48 := by
  induction u using Nat.strongRecOn with
  | _ u ih =>
    rw [Lib.decDigits]
    split
    · rename_i h9
      intro e
      injection e with e
      have := congrArg UInt8.toNat e
      rw [ofNat_toNat _ (by omega)] at this
      have h48 : (48 : UInt8).toNat = 48 := rfl
      omega
    · rename_i h9
      rw [List.head?_append, Option.or_of_isSome (by cases h : Lib.decDigits (u / 10) with | nil => exact absurd h (decDigits_ne _) | cons a b => rfl)]
      exact ih (u / 10) (by omega) (by omega)
theorem decDigits_len : ∀ (k u : Nat), u < 10 ^ (k + 1) → (Lib.decDigits u).length ≤ k + 1
  | 0, u, h => by rw [Lib.decDigits, dif_pos (by omega)]; simp
  | k + 1, u, h => by
    rw [Lib.decDigits]
    split
    · simp
    · have : u / 10 < 10 ^ (k + 1) := by rw [Nat.pow_succ] at h; omega
      have := decDigits_len k (u / 10) this
      rw [List.length_append]
      simp
      omega
theorem decDigits_len10 (u : Nat) (h : u < 10000000000) : (Lib.decDigits u).length ≤ 10 := decDigits_len 9 u (by simpa using h)
theorem decDigits_one (u : Nat) (h : 1 < (Lib.decDigits u).length) : 1 ≤ u := by
  rcases Nat.eq_zero_or_pos u with h0 | h0
  · subst h0; rw [Lib.decDigits, dif_pos (by omega)] at h; simp at h
  · exact h0
theorem dig_plain {b : UInt8} (h : isDig b = true) : isSp b = false ∧ b ≠ 10 ∧ b ≠ 45 ∧ b ≠ 99 := by
  unfold isDig at h
  simp only [Bool.and_eq_true, decide_eq_true_eq] at h
  have key : ∀ c : UInt8, c.toNat < 48 ∨ 57 < c.toNat → b ≠ c := fun c hc e => by subst e; omega
  refine ⟨?_, key 10 (.inl (by decide)), key 45 (.inl (by decide)), key 99 (.inr (by decide))⟩
  unfold isSp
  have h1 := key 32 (.inl (by decide))
  have h2 := key 9 (.inl (by decide))
  have h3 := key 13 (.inl (by decide))
  simp [h1, h2, h3]
theorem itoa_plain (x : Int) : plainW (Lib.itoa x) ∧ (Lib.itoa x).head? ≠ some 99 := by
  have hd : ∀ u, ∀ b ∈ Lib.decDigits u, isDig b = true := fun u b hb => List.all_eq_true.1 (decDigits_all u) b hb
  unfold Lib.itoa
  split
  · refine ⟨⟨by simp, fun b hb => ?_⟩, by simp⟩
    rcases List.mem_cons.1 hb with rfl | hb
    · exact ⟨by decide, by decide⟩
    · have := dig_plain (hd _ b hb); exact ⟨this.1, this.2.1⟩
  · refine ⟨⟨decDigits_ne _, fun b hb => ?_⟩, fun e => ?_⟩
    · have := dig_plain (hd _ b hb); exact ⟨this.1, this.2.1⟩
    · have := List.mem_of_head? e
      exact (dig_plain (hd _ _ this)).2.2.2 rfl
theorem numV_itoa (x : Int) (h : -10000000000 < x ∧ x < 10000000000) : numV (Lib.itoa x) = (x, true) := by
  have hd : ∀ u, ∀ b ∈ Lib.decDigits u, isDig b = true := fun u b hb => List.all_eq_true.1 (decDigits_all u) b hb
  unfold Lib.itoa numV
  by_cases hx : x < 0
  · rw [if_pos hx, if_pos (by rfl), List.tail_cons]
    unfold absV
    rw [if_neg, decDigits_val]
    · simp only [if_true]
      congr 1
      omega
    · rintro (h1 | h1 | h1 | h1)
      · exact decDigits_ne _ h1
      · have := decDigits_len10 x.natAbs (by omega); omega
      · exact decDigits_head x.natAbs (by omega) h1.1
      · rw [decDigits_all] at h1; cases h1
  · rw [if_neg hx, if_neg]
    · unfold absV
      rw [if_neg, decDigits_val]
      · simp only [Bool.false_eq_true, if_false]
        congr 1
        omega
      · rintro (h1 | h1 | ⟨h1, h2⟩ | h1)
        · exact decDigits_ne _ h1
        · have := decDigits_len10 x.toNat (by omega); omega
        · rcases h2 with h2 | h2
          · cases h2
          · exact decDigits_head x.toNat (decDigits_one _ h2) h1
        · rw [decDigits_all] at h1; cases h1
    · intro e
      exact (dig_plain (hd _ _ (List.mem_of_head? e))).2.2.1 rfl

theorem wordsS_nums (r : List UInt8) : ∀ (l : List Int) (fresh : Bool), wordsS ((l.flatMap fun x => Lib.itoa x ++ [32]) ++ r) fresh false [] = l.map Lib.itoa ++ wordsS r (fresh && l.isEmpty) false []
  | [], fresh => by simp
  | x :: l, fresh => by
    have h := itoa_plain x
    rw [List.flatMap_cons, List.append_assoc, List.append_assoc]
    show wordsS (Lib.itoa x ++ 32 :: _) fresh false [] = _
    rw [wordsS_sp _ _ fresh h.1 (fun _ => h.2)]
    show _ :: wordsS ((l.flatMap fun x => Lib.itoa x ++ [32]) ++ r) false false [] = _
    rw [wordsS_nums r l false]
    simp
theorem wordsS_clause (l : List Int) (r : List UInt8) (fresh : Bool) : wordsS (lineB l [48, 10] ++ r) fresh false [] = l.map Lib.itoa ++ [48] :: wordsS r true false [] := by
  unfold lineB
  rw [List.append_assoc, wordsS_nums]
  show _ ++ wordsS ([48] ++ 10 :: r) _ false [] = _
  rw [wordsS_nl r [48] _ ⟨by simp, by decide⟩ (fun _ => by decide)]
theorem wordsS_clauses (r : List UInt8) : ∀ (L : List (List Int)), wordsS (clausesB L ++ r) true false [] = (L.flatMap fun l => l.map Lib.itoa ++ [[48]]) ++ wordsS r true false []
  | [] => rfl
  | l :: L => by
    have e : clausesB (l :: L) ++ r = lineB l [48, 10] ++ (clausesB L ++ r) := by simp [clausesB]
    rw [e, wordsS_clause, wordsS_clauses r L]
    simp
/-- The words of a written formula. -/
def putWords (n : Int) (L : List (List Int)) : List (List UInt8) := [112] :: [99, 110, 102] :: Lib.itoa n :: Lib.itoa L.length :: (L.flatMap fun l => l.map Lib.itoa ++ [[48]])
theorem wordsS_put (n : Int) (L : List (List Int)) (r : List UInt8) (fresh : Bool) : wordsS (putText n L ++ r) fresh false [] = putWords n L ++ wordsS r true false [] := by
  have e : putText n L ++ r = [112] ++ 32 :: ([99, 110, 102] ++ 32 :: (Lib.itoa n ++ 32 :: (Lib.itoa L.length ++ 10 :: (clausesB L ++ r)))) := by
    simp [putText, pHead, lineB]
  have h1 := itoa_plain n
  have h2 := itoa_plain L.length
  rw [e, wordsS_sp _ [112] fresh ⟨by simp, by decide⟩ (fun _ => by decide), wordsS_sp _ [99, 110, 102] false ⟨by simp, by decide⟩ (fun e => by cases e), wordsS_sp _ _ false h1.1 (fun e => by cases e), wordsS_nl _ _ false h2.1 (fun e => by cases e), wordsS_clauses]
  rfl

theorem findIdx_zero : ∀ (l r : List Int), (∀ x ∈ l, x ≠ 0) → (l ++ 0 :: r).findIdx? (· == 0) = some l.length
  | [], r, _ => by simp [List.findIdx?_cons]
  | x :: l, r, h => by
    have hx : (x == 0) = false := by simpa using h x (List.mem_cons_self ..)
    rw [List.cons_append, List.findIdx?_cons, hx, findIdx_zero l r (fun y hy => h y (List.mem_cons_of_mem _ hy))]
    simp
theorem clausesOf_flat : ∀ (L : List (List Int)) (f : Nat), (∀ l ∈ L, ∀ x ∈ l, x ≠ 0) → L.length ≤ f → clausesOf f (L.flatMap fun l => l ++ [0]) = some L
  | [], 0, _, _ => rfl
  | [], f + 1, _, _ => rfl
  | l :: L, 0, _, h => by simp at h
  | l :: L, f + 1, hz, h => by
    have e : ((l :: L).flatMap fun l => l ++ [0]) = l ++ 0 :: (L.flatMap fun l => l ++ [0]) := by simp
    have hl := hz l (List.mem_cons_self ..)
    rw [e, clausesOf, if_neg (by simp), findIdx_zero l _ hl]
    show (clausesOf f (List.drop (l.length + 1) _)).map (fun r => List.take l.length _ :: r) = _
    have h1 : List.drop (l.length + 1) (l ++ 0 :: (L.flatMap fun l => l ++ [0])) = (L.flatMap fun l => l ++ [0]) := by
      rw [← List.drop_drop, List.drop_left]; rfl
    rw [h1, List.take_left, clausesOf_flat L f (fun m hm => hz m (List.mem_cons_of_mem _ hm)) (by simpa using h)]
    rfl

theorem putWords_nums (n : Int) (L : List (List Int)) (h : checkV n L = 0) : numsV (putWords n L) = n :: (L.length : Int) :: (L.flatMap fun l => l ++ [0]) := by
  obtain ⟨h0, h1, h2, h3⟩ := checkV_zero h
  have key : ∀ M : List (List Int), (∀ l ∈ M, ∀ x ∈ l, litB n x = true) → (M.flatMap fun l => l.map Lib.itoa ++ [[48]]).map (fun w => (numV w).1) = M.flatMap fun l => l ++ [0] := by
    intro M hM
    induction M with
    | nil => rfl
    | cons l M ih =>
      have hl : (l.map Lib.itoa).map (fun w => (numV w).1) = l := by
        rw [List.map_map]
        have : ∀ x ∈ l, ((fun w => (numV w).1) ∘ Lib.itoa) x = x := by
          intro x hx
          have := litB_range (hM l (List.mem_cons_self ..) x hx)
          show (numV (Lib.itoa x)).1 = x
          rw [numV_itoa x (by omega)]
        rw [List.map_congr_left this]
        simp
      have h48 : (numV [48]).1 = 0 := by decide
      rw [List.flatMap_cons, List.map_append, List.map_append, hl, ih (fun m hm => hM m (List.mem_cons_of_mem _ hm))]
      simp [h48]
  show (numV (Lib.itoa n)).1 :: (numV (Lib.itoa L.length)).1 :: (L.flatMap fun l => l.map Lib.itoa ++ [[48]]).map (fun w => (numV w).1) = _
  rw [numV_itoa n (by omega), numV_itoa (L.length : Int) (by omega), key L h2]
theorem putWords_ok (n : Int) (L : List (List Int)) (h : checkV n L = 0) : okAll (putWords n L) := by
  obtain ⟨h0, h1, h2, h3⟩ := checkV_zero h
  intro i w hw
  match i with
  | 0 => injection hw with hw; subst hw; rfl
  | 1 => injection hw with hw; subst hw; rfl
  | 2 => injection hw with hw; subst hw; unfold okAt; rw [numV_itoa n (by omega)]; simpa using h0
  | 3 => injection hw with hw; subst hw; unfold okAt; rw [numV_itoa (L.length : Int) (by omega)]; simp
  | i + 4 =>
    replace hw : (L.flatMap fun l => l.map Lib.itoa ++ [[48]])[i]? = some w := hw
    have hm := List.mem_of_getElem? hw
    have hn : (numV w).2 = true := by
      obtain ⟨l, hl, hw2⟩ := List.mem_flatMap.1 hm
      rcases List.mem_append.1 hw2 with h5 | h5
      · obtain ⟨x, hx, rfl⟩ := List.mem_map.1 h5
        have := litB_range (h2 l hl x hx)
        rw [numV_itoa x (by omega)]
      · rw [List.mem_singleton] at h5
        subst h5; decide
    unfold okAt
    rw [if_neg (by omega), if_neg (by omega), if_neg (by omega)]
    exact hn
/-- What is written is read back. -/
theorem getV_put (n : Int) (L : List (List Int)) (h : checkV n L = 0) : getV (putWords n L) = (n, L, 0) := by
  obtain ⟨h0, h1, h2, h3⟩ := checkV_zero h
  have hn := putWords_nums n L h
  have hz : ∀ l ∈ L, ∀ x ∈ l, x ≠ 0 := fun l hl x hx => (litB_range (h2 l hl x hx)).1
  have hlen : ∀ M : List (List Int), M.length ≤ (M.flatMap fun l => l ++ [0]).length := by
    intro M
    induction M with
    | nil => simp
    | cons l M ih => rw [List.flatMap_cons, List.length_append, List.length_append]; simp at ih ⊢; omega
  unfold getV
  rw [if_neg, hn]
  · simp only [List.getD_cons_zero, List.getD_cons_succ, List.drop_succ_cons, List.drop_zero]
    rw [if_neg (by omega), clausesOf_flat L _ hz (by have := hlen L; simp only [List.length_cons]; omega)]
    show (if (L.length : Int) ≠ L.length then _ else _) = _
    rw [if_neg (by simp), if_neg (by simp [h])]
  · rintro (h5 | h5)
    · exact h5 (putWords_ok n L h)
    · unfold putWords at h5; simp only [List.length_cons] at h5; omega
end Go.Proofs.YtcdhhaedgohlgaaGreatDoor.P
end

section
namespace Go.Proofs.YtcdhhaedgohlgaaGreatDoor.P
open Go.RowKit Go.Shelf
set_option linter.unusedVariables false

def curOf (bs : List UInt8) (i : Nat) : Option Nat → List UInt8
  | none => []
  | some s => (bs.drop s).take (i - s)
theorem fieldsV_cons (A : Option Addr) (bs : List UInt8) (b : UInt8) (r : List UInt8) (i : Nat) (st : Option Nat) : fieldsV A bs (b :: r) i st = if isSp b = true then (match st with | some s => fieldX A bs s i :: fieldsV A bs r (i + 1) none | none => fieldsV A bs r (i + 1) none) else fieldsV A bs r (i + 1) (some (st.getD i)) := by
  cases st <;> rfl
theorem fieldsV_fieldsB (A : Option Addr) (bs : List UInt8) : ∀ (r : List UInt8) (i : Nat) (st : Option Nat), bs.drop i = r → (∀ s, st = some s → s < i ∧ i ≤ bs.length) → (fieldsV A bs r i st).map (·.2) = fieldsB r (curOf bs i st)
  | [], i, none, hd, hs => rfl
  | [], i, some s, hd, hs => by
    have := hs s rfl
    have hne : curOf bs i (some s) ≠ [] := by
      intro e
      have := congrArg List.length e
      simp only [curOf, List.length_take, List.length_drop, List.length_nil] at this
      omega
    show [curOf bs i (some s)] = flush _
    rw [flush_some hne]
  | b :: r, i, st, hd, hs => by
    have hil : i < bs.length := by
      rcases Nat.lt_or_ge i bs.length with h | h
      · exact h
      · rw [List.drop_eq_nil_of_le h] at hd; cases hd
    have hbi : bs[i] = b ∧ bs.drop (i + 1) = r := by
      rw [List.drop_eq_getElem_cons hil] at hd
      injection hd with h1 h2
      exact ⟨h1, h2⟩
    rw [fieldsV_cons]
    rw [fieldsB]
    cases hb : isSp b with
    | true =>
      rw [if_pos rfl, if_pos rfl]
      cases st with
      | none => exact (fieldsV_fieldsB A bs r (i + 1) none hbi.2 (fun s e => by cases e))
      | some s =>
        have := hs s rfl
        have hne : curOf bs i (some s) ≠ [] := by
          intro e
          have := congrArg List.length e
          simp only [curOf, List.length_take, List.length_drop, List.length_nil] at this
          omega
        rw [flush_some hne, List.map_cons, fieldsV_fieldsB A bs r (i + 1) none hbi.2 (fun s e => by cases e)]
        rfl
    | false =>
      rw [if_neg (by simp), if_neg (by simp)]
      have hc : curOf bs (i + 1) (some (st.getD i)) = curOf bs i st ++ [b] := by
        cases st with
        | none =>
          show (bs.drop i).take (i + 1 - i) = [b]
          rw [hd, show i + 1 - i = 1 by omega]
          rfl
        | some s =>
          have := hs s rfl
          show (bs.drop s).take (i + 1 - s) = (bs.drop s).take (i - s) ++ [b]
          rw [show i + 1 - s = (i - s) + 1 by omega, List.take_succ_eq_append_getElem (by rw [List.length_drop]; omega), List.getElem_drop]
          have e : s + (i - s) = i := by omega
          simp only [e]
          rw [hbi.1]
      rw [fieldsV_fieldsB A bs r (i + 1) _ hbi.2 (fun s e => by
        injection e with e
        cases st with
        | none => simp at e; omega
        | some t => have := hs t rfl; simp at e; omega), hc]
theorem lineWords_lineW (x : Value × List UInt8) : (lineWords x).map (·.2) = lineW x.2 := by
  unfold lineWords lineW
  split
  · rfl
  · exact fieldsV_fieldsB _ x.2 x.2 0 none rfl (fun s e => by cases e)
theorem splitV_words : ∀ (f : Nat) (A : Option Addr) (cap : Nat) (bs : List UInt8), bs.length ≤ f → ((splitV f A cap bs).flatMap lineWords).map (·.2) = wordsS bs true false []
  | 0, A, cap, bs, h => by
    have : bs = [] := List.eq_nil_of_length_eq_zero (by omega)
    subst this
    rfl
  | f + 1, A, cap, bs, h => by
    cases hf : bs.findIdx? (· == 10) with
    | none =>
      rw [splitV_none hf]
      have hn : (10 : UInt8) ∉ bs := fun hm => by
        have := List.findIdx?_eq_none_iff.1 hf 10 hm
        simp at this
      rw [List.flatMap_cons, List.flatMap_nil, List.append_nil, lineWords_lineW, wordsS_line_end _ hn]
    | some i =>
      rw [splitV_some hf, List.flatMap_cons, List.map_append, lineWords_lineW]
      obtain ⟨hi, h1, h2⟩ := List.findIdx?_eq_some_iff_getElem.1 hf
      have hn : (10 : UInt8) ∉ bs.take i := by
        intro hm
        obtain ⟨j, hj, e⟩ := List.getElem_of_mem hm
        rw [List.getElem_take] at e
        rw [List.length_take] at hj
        have := h2 j (by omega)
        rw [e] at this
        simp at this
      have hb : bs = bs.take i ++ 10 :: bs.drop (i + 1) := by
        have e : bs[i] = 10 := by simpa using h1
        conv => lhs; rw [← List.take_append_drop i bs, List.drop_eq_getElem_cons hi, e]
      rw [splitV_words f _ _ (bs.drop (i + 1)) (by rw [List.length_drop]; omega)]
      conv => rhs; rw [hb, wordsS_line _ _ hn]
theorem wordsV_words (A : Option Addr) (cap : Nat) (bs : List UInt8) : (wordsV A cap bs).map (·.2) = wordsS bs true false [] := splitV_words _ A cap bs (Nat.le_refl _)

end Go.Proofs.YtcdhhaedgohlgaaGreatDoor.P
end

section
namespace Go.Proofs.YtcdhhaedgohlgaaGreatDoor.P
open Go.RowKit Go.Shelf Go.Proofs.YtcdhhaedgohlgaaGreatDoorW.PrintWords Go.Proofs.YtcdhhaedgohlgaaGreatDoorW.PrintLast Go.Proofs.YtcdhhaedgohlgaaGreatDoorW.PrintMore
set_option linter.unusedVariables false
set_option maxRecDepth 100000

def bytesOk (l : List Int) : Bool := l.all fun x => decide (0 ≤ x) && decide (x < 256)
theorem bytesI_bytesOf {l : List Int} (h : bytesOk l = true) : bytesI (Lib.bytesOf l) = l := by
  unfold bytesI Lib.bytesOf
  rw [List.map_map]
  have : ∀ x ∈ l, ((fun b : UInt8 => (b.toNat : Int)) ∘ fun n : Int => UInt8.ofNat n.toNat) x = id x := by
    intro x hx
    have hb := List.all_eq_true.1 h x hx
    simp only [Bool.and_eq_true, decide_eq_true_eq] at hb
    show ((UInt8.ofNat x.toNat).toNat : Int) = x
    rw [ofNat_toNat x.toNat (by omega)]
    omega
  rw [List.map_congr_left this, List.map_id]
def getB (bs : List UInt8) : Int × List (List Int) × Int := if 4194304 < bs.length then (0, [], 2) else getV (wordsS bs true false [])
def cnf_Get.f (l : List Int) : Option (Int × List (List Int) × Int) := if bytesOk l = true then some (getB (Lib.bytesOf l)) else none

set_option maxHeartbeats 1000000 in
theorem get_long (A : Option Addr) (n : Nat) (cap : Nat) (w : World) (hlen : 4194304 < n) (hm : n ≤ 9223372036854775807) :
    Calls Tryz.prog 40 #[.slice A n cap] w fun e w' => e = .returned (.tuple #[.agg #[.int .i64 0, .slice none 0 0], .int .i64 2]) ∧ Below w.heap.size w w' := by
  have hgt : (4194304 : Int) < (n : Int) := by omega
  refine (callsIn_wide (n := 1)).1 ?_
  have hro : Fence.wide.round = none := rfl
  refine callsIn_of_wp_marks Tryz.func40 rfl trivial ?_ hro
  simp only [Tryz.ntmps40, List.size_toArray, List.length_cons, List.length_nil, Nat.reduceAdd, Nat.reduceSub, Array.replicate_succ, Array.replicate_zero, List.push_toArray, List.append_toArray, List.nil_append, List.cons_append]
  gi_wp2
  have at2 : ∀ (o1 o2 : Obj), ((w.alloc o1).alloc o2).heap[w.heap.size]? = some o1 ∧ ((w.alloc o1).alloc o2).heap[w.heap.size + 1]? = some o2 := by
    intro o1 o2
    have key : ∀ (h : Array Obj), ((h.push o1).push o2)[h.size]? = some o1 ∧ ((h.push o1).push o2)[h.size + 1]? = some o2 := by
      intro h
      refine ⟨?_, ?_⟩ <;> (simp only [Array.getElem?_push, Array.size_push]; repeat (first | rfl | rw [if_pos (by omega)] | rw [if_neg (by omega)]))
    exact key w.heap
  exact ⟨_, results_40 _ _ w.heap.size (w.heap.size + 1) #[.int .i64 0, .slice none 0 0] 2 rfl rfl (at2 _ _).1 rfl (at2 _ _).2, rfl, ((Below.refl _ _).alloc (Nat.le_refl _) _).alloc (by simp) _⟩

theorem cnf_Get.calls (A0 : Option Addr) (c0 : Nat) (l0 : List Int) (r1 : Int) (r2 : List (List Int)) (r3 : Int) (w : World) (hL : Laid w) (hr0 : Kd.C (Kd.int .u8) w A0 l0.length l0) (hc0 : l0.length ≤ c0) (h : cnf_Get.f l0 = some (r1, r2, r3)) :
    Calls Tryz.prog 40 #[.slice A0 l0.length c0] w fun e w' => ∃ v0_ : Value, e = .returned (.tuple #[.agg #[.int .i64 r1, v0_], .int .i64 r3]) ∧ Kd.S (Kd.slice 3 (Kd.int .i64)) 25 w' w.heap.size (fun _ => True) v0_ r2 ∧ Below w.heap.size w w' := by
  unfold cnf_Get.f at h
  by_cases hb : bytesOk l0 = true
  case neg => rw [if_neg hb] at h; cases h
  rw [if_pos hb] at h
  injection h with h
  have hl := bytesI_bytesOf hb
  generalize Lib.bytesOf l0 = bs at *
  subst hl
  rw [bytesI_length] at *
  unfold getB at h
  by_cases hlen : 4194304 < bs.length
  · rw [if_pos hlen] at h
    injection h with h1 h
    injection h with h2 h3
    subst h1 h2 h3
    refine (get_long A0 bs.length c0 w hlen hr0.2.1).mono ?_
    rintro e w' ⟨rfl, hB⟩
    exact ⟨_, rfl, Kd.S_nil _ _ _ _ _, hB⟩
  · rw [if_neg hlen] at h
    refine ((callsIn_wide (n := 12)).1 (get_walk A0 bs c0 w hL hr0 hc0 (by omega) 12 (Nat.le_refl _))).mono ?_
    rintro e w' ⟨v, rfl, hS, hB⟩
    rw [wordsV_words, h] at hS ⊢
    exact ⟨v, rfl, hS, hB⟩
end Go.Proofs.YtcdhhaedgohlgaaGreatDoor.P
end

section
namespace Go.Proofs.YtcdhhaedgohlgaaGreatDoor.P
open Go.RowKit Go.MapKept Go.Proofs.YtcdhhaedgohlgaaGreatDoorW.PrintWords Go.Proofs.YtcdhhaedgohlgaaGreatDoorW.PrintLast Go.Proofs.YtcdhhaedgohlgaaGreatDoorW.PrintMore
set_option linter.unusedVariables false
set_option linter.unusedSimpArgs false

/-- Block b of w is a map of n entries, with int keys, that holds m. -/
def MapI (w : World) (b n : Nat) (m : Int → Option Value) : Prop :=
  ∃ (es : Array MapEntry) (clock : Nat), w.heap[b]? = some (.map es clock) ∧ es.size = n ∧ Stamped es clock ∧ (∀ x ∈ es.toList, IsKey (.int .i64) x.key) ∧
    (∀ e ∈ es.toList, ∀ x, e.key = .int .i64 x → m x = some e.val) ∧ (∀ x v, m x = some v → ∃ e ∈ es.toList, e.key = .int .i64 x)

theorem MapI.lt {w : World} {b n : Nat} {m : Int → Option Value} (h : MapI w b n m) : b < w.heap.size := by
  obtain ⟨es, cl, hb, _⟩ := h
  exact (Array.getElem?_eq_some_iff.1 hb).1

theorem MapI.move {w w1 : World} {b n : Nat} {m : Int → Option Value} (h : MapI w b n m) (hm : w1.heap[b]? = w.heap[b]?) : MapI w1 b n m := by
  obtain ⟨es, cl, hb, r⟩ := h
  exact ⟨es, cl, hm.trans hb, r⟩

theorem MapI.below {w w1 : World} {b n : Nat} {m : Int → Option Value} (h : MapI w b n m) (hb : Below w.heap.size w w1) : MapI w1 b n m := h.move (hb.block b h.lt)

theorem MapI.alloc {w : World} {b n : Nat} {m : Int → Option Value} (h : MapI w b n m) (o : Obj) : MapI (w.alloc o) b n m := h.below ((Below.refl _ _).alloc (Nat.le_refl _) _)

theorem MapI.grown {w w1 : World} {b n : Nat} {m : Int → Option Value} (h : MapI w b n m) {row : Option Nat} (hg : w.grownBy w1 row) (hne : some b ≠ row) : MapI w1 b n m := h.move (hg.block b h.lt hne)

theorem MapI.made (w : World) : MapI (w.alloc (.map #[] 0)) w.heap.size 0 (fun _ => none) :=
  ⟨#[], 0, (heap_alloc w _).1, rfl, stamped_empty 0, by simp, by simp, by simp⟩

theorem MapI.congr {w : World} {b n n' : Nat} {m m' : Int → Option Value} (h : MapI w b n m) (hn : n = n') (hm : ∀ x, m x = m' x) : MapI w b n' m' := by
  obtain rfl : m = m' := funext hm
  subst hn
  exact h

section
variable {P : Program} {w : World} {b n : Nat} {m : Int → Option Value} {t k e : TypeId}

theorem MapI.lookup (h : MapI w b n m) (ht : P.underlying t = some (.map k e)) (hk : P.underlying k = some (.int .i64)) {z : Value} (hz : (zeroValue e).run P w = .ok z w) (x : Int) :
    (Instr.lookup t (.map (some b)) (.int .i64 x) false).run P w = .ok ((m x).getD z) w := by
  obtain ⟨es, cl, hb, hn, hs, hks, h1, h2⟩ := h
  have hkey : IsKey (.int .i64) (.int .i64 x) := rfl
  rcases findNow_spec hkey es.toList 0 hks with ⟨f1, f2⟩ | ⟨j, e0, f1, f2, f3⟩
  · have hm : m x = none := by
      cases hmx : m x with
      | none => rfl
      | some v =>
        obtain ⟨e1, he1, hk1⟩ := h2 x v hmx
        exact absurd hk1 (f2 e1 he1)
    rw [hm]
    simp [Instr.lookup, run_underlying ht, MapKept.run_getObj_map hb, run_checkKey hk hkey, run_findKey hk f1, Result.andThen, hz]
  · have hmem : e0 ∈ es.toList := List.mem_of_getElem? f2
    rw [h1 e0 hmem x f3]
    simp [Instr.lookup, run_underlying ht, MapKept.run_getObj_map hb, run_checkKey hk hkey, run_findKey hk f1, Result.andThen]

/-- How many entries there are behind a store. -/
def putN (m : Int → Option Value) (n : Nat) (x : Int) : Nat := if (m x).isSome then n else n + 1
def putM (m : Int → Option Value) (x : Int) (v : Value) : Int → Option Value := fun y => if y = x then some v else m y

theorem MapI.update (h : MapI w b n m) (ht : P.underlying t = some (.map k e)) (hk : P.underlying k = some (.int .i64)) (x : Int) (v : Value) :
    ∃ w', (Instr.mapUpdate t (.map (some b)) (.int .i64 x) v).run P w = .ok () w' ∧ MapI w' b (putN m n x) (putM m x v) ∧ w.grownBy w' (some b) := by
  obtain ⟨es, cl, hb, hn, hs, hks, h1, h2⟩ := h
  have hkey : IsKey (.int .i64) (.int .i64 x) := rfl
  have hgr : ∀ o, w.grownBy { w with heap := w.heap.setIfInBounds b o } (some b) := fun o =>
    ⟨rfl, rfl, rfl, by simp, fun i _ hi => (heap_set hb).2 i (fun e => hi (by rw [e]))⟩
  rcases findNow_spec hkey es.toList 0 hks with ⟨f1, f2⟩ | ⟨j, e0, f1, f2, f3⟩
  · have hm : m x = none := by
      cases hmx : m x with
      | none => rfl
      | some v =>
        obtain ⟨e1, he1, hk1⟩ := h2 x v hmx
        exact absurd hk1 (f2 e1 he1)
    refine ⟨_, by simp [Instr.mapUpdate, run_underlying ht, MapKept.run_getObj_map hb, run_checkKey hk hkey, run_findKey hk f1, MapKept.run_setObj_map _ hb, Result.andThen]; rfl, ?_, hgr _⟩
    refine ⟨_, _, (heap_set hb).1, ?_, stamped_push hs f2, ?_, ?_, ?_⟩
    · simp [putN, hm, hn]
    · intro y hy
      simp only [Array.toList_push, List.mem_append, List.mem_singleton] at hy
      rcases hy with hy | rfl
      · exact hks y hy
      · exact hkey
    · intro y hy z hz
      simp only [Array.toList_push, List.mem_append, List.mem_singleton] at hy
      rcases hy with hy | rfl
      · have hne : z ≠ x := fun e => f2 y hy (by rw [hz, e])
        simp [putM, hne, h1 y hy z hz]
      · injection hz with _ hz
        simp [putM, hz]
    · intro y u hu
      by_cases e1 : y = x
      · exact ⟨{ key := .int .i64 x, val := v, born := cl }, by simp, by rw [e1]⟩
      · simp [putM, e1] at hu
        obtain ⟨e2, he2, hk2⟩ := h2 y u hu
        exact ⟨e2, by simp [Array.mem_toList_iff.1 he2], hk2⟩
  · have hj : es[j]? = some e0 := by simpa using f2
    have hmem : e0 ∈ es.toList := List.mem_of_getElem? f2
    have hkeyf : ∀ e', es[j]? = some e' → ({ e' with key := .int .i64 x, val := v } : MapEntry).key = e'.key := fun e' he' => by rw [hj] at he'; cases he'; exact f3.symm
    refine ⟨_, by simp [Instr.mapUpdate, run_underlying ht, MapKept.run_getObj_map hb, run_checkKey hk hkey, run_findKey hk f1, hj, f3, run_keyThatStays hkey, MapKept.run_setObj_map _ hb, Result.andThen]; rfl, ?_, hgr _⟩
    have hat : ∀ (i : Nat) y, (es.modify j fun e' => { e' with key := .int .i64 x, val := v })[i]? = some y → (i = j ∧ y.val = v ∧ y.key = .int .i64 x) ∨ (i ≠ j ∧ es[i]? = some y) := by
      intro i y hy
      rw [Array.getElem?_modify] at hy
      by_cases hij : j = i
      · subst hij
        rw [if_pos rfl, hj] at hy
        injection hy with hy
        subst hy
        exact .inl ⟨rfl, rfl, rfl⟩
      · rw [if_neg hij] at hy
        exact .inr ⟨fun e => hij e.symm, hy⟩
    have hnd : ∀ (i : Nat) y, es[i]? = some y → y.key = .int .i64 x → i = j := by
      intro i y hy hyk
      have hl := hs.2.2
      have hi : i < (es.toList.map (·.key)).length := by simpa using (Array.getElem?_eq_some_iff.1 hy).1
      have hj' : j < (es.toList.map (·.key)).length := by simpa using (Array.getElem?_eq_some_iff.1 hj).1
      refine (List.getElem_inj (h₀ := hi) (h₁ := hj') hl).1 ?_
      obtain ⟨_, hy'⟩ := Array.getElem?_eq_some_iff.1 hy
      obtain ⟨_, hj''⟩ := Array.getElem?_eq_some_iff.1 hj
      simp [hy', hj'', hyk, f3]
    refine ⟨_, _, (heap_set hb).1, ?_, stamped_modify hs _ _ (fun _ _ => rfl) (fun e' _ he' => hkeyf e' he'), isKey_modify hks _ _ hkeyf, ?_, ?_⟩
    · simp [putN, h1 e0 hmem x f3, hn]
    · intro y hy z hz
      obtain ⟨i, hi⟩ := List.getElem?_of_mem hy
      rw [Array.getElem?_toList] at hi
      rcases hat i y hi with ⟨_, hv, hyk⟩ | ⟨hij, hy'⟩
      · rw [hz] at hyk
        injection hyk with _ hyk
        simp [putM, hyk, hv]
      · have hne : z ≠ x := fun e => hij (hnd i y hy' (by rw [hz, e]))
        simp [putM, hne, h1 y (List.mem_of_getElem? (by rw [Array.getElem?_toList]; exact hy')) z hz]
    · intro y u hu
      by_cases e1 : y = x
      · subst e1
        refine ⟨{ e0 with key := .int .i64 y, val := v }, List.mem_of_getElem? (i := j) ?_, rfl⟩
        rw [Array.getElem?_toList, Array.getElem?_modify, if_pos rfl, hj]
        rfl
      · simp [putM, e1] at hu
        obtain ⟨e2, he2, hk2⟩ := h2 y u hu
        obtain ⟨i, hi⟩ := List.getElem?_of_mem he2
        rw [Array.getElem?_toList] at hi
        have hij : j ≠ i := fun e => e1 (by
          subst e
          rw [hj] at hi
          injection hi with hi
          rw [← hi, f3] at hk2
          injection hk2 with _ hk2
          exact hk2.symm)
        refine ⟨e2, List.mem_of_getElem? (i := i) ?_, hk2⟩
        rw [Array.getElem?_toList, Array.getElem?_modify, if_neg hij]
        exact hi

end

section
variable {P : Program} {w : World} {ops : Array Oper} {rest : List Oper} {o : Oper} {a : Act} {Q : Exit → Act → World → Prop}

/-- 'm[x] = v' at the operation. -/
theorem wpList_putI (hg : o.guard = none) (mo xo vo : Operand) (t : TypeId) (hop : o.op = Op.mapUpdate t mo xo vo)
    {k e : TypeId} (ht : P.underlying t = some (.map k e)) (hk : P.underlying k = some (.int .i64)) (b n : Nat) (m : Int → Option Value) (h : MapI w b n m)
    (hm : a.eval mo = .map (some b)) (x : Int) (v : Value) (hx : a.eval xo = .int .i64 x) (hv : a.eval vo = v)
    (hK : ∀ w', MapI w' b (putN m n x) (putM m x v) → w.grownBy w' (some b) → wpList P ops Q rest (a.put o.dst undef) w') :
    wpList P ops Q (o :: rest) a w := by
  refine wpList_plain hg fun K' hK' => ?_
  obtain ⟨w', hrun, r1, r2⟩ := h.update (P := P) ht hk x v
  unfold Oper.wp
  simp [execOp, hop, hm, hx, hv, hrun, Result.andThen]
  exact hK' _ _ (hK w' r1 r2)
end

end Go.Proofs.YtcdhhaedgohlgaaGreatDoor.P
end

section
namespace Go.Proofs.YtcdhhaedgohlgaaGreatDoor.P
open Go.RowKit Go.Proofs.YtcdhhaedgohlgaaGreatDoorW.PrintWords Go.Proofs.YtcdhhaedgohlgaaGreatDoorW.PrintLast Go.Proofs.YtcdhhaedgohlgaaGreatDoorW.PrintMore
set_option linter.unusedVariables false
set_option linter.unusedSimpArgs false

theorem wrap_one {i : Int} (h0 : 0 ≤ i) (h1 : i < 9223372036854775807) : wrap64 (i + 1) = i + 1 := by unfold wrap64; omega

theorem Equal_l0 (xs ys : List Int) (hl : xs.length = ys.length) (hm : xs.length ≤ 9223372036854775807) (d : Nat) :
    ∀ (k i : Nat), i ≤ xs.length → xs.length - i = d → d < k → slices_Equal_int_int.l0 k xs ys xs.length i = some (decide (xs.drop i = ys.drop i)) := by
  induction d with
  | zero =>
    intro k i h1 h2 h3
    obtain ⟨k, rfl⟩ : ∃ m, k = m + 1 := ⟨k - 1, by omega⟩
    simp only [slices_Equal_int_int.l0]
    rw [if_neg (by omega), List.drop_eq_nil_of_le (by omega), List.drop_eq_nil_of_le (by omega)]
    simp
  | succ d ih =>
    intro k i h1 h2 h3
    obtain ⟨k, rfl⟩ : ∃ m, k = m + 1 := ⟨k - 1, by omega⟩
    have hi : i < xs.length := by omega
    have hi2 : i < ys.length := by omega
    simp only [slices_Equal_int_int.l0]
    rw [if_pos (by omega), if_pos (by omega), if_pos (by omega), if_pos (by omega)]
    have e1 : rd xs i = xs[i] := by simp [rd, hi]
    have e2 : rd ys i = ys[i] := by simp [rd, hi2]
    rw [e1, e2, List.drop_eq_getElem_cons hi, List.drop_eq_getElem_cons hi2]
    by_cases e : xs[i] = ys[i]
    · rw [if_pos e, wrap_one (by omega) (by omega)]
      have := ih k (i + 1) (by omega) (by omega) (by omega)
      rw [show ((i + 1 : Nat) : Int) = (i : Int) + 1 by omega] at this
      rw [this, e]
      simp only [List.cons.injEq, true_and]
    · rw [if_neg e]
      simp only [List.cons.injEq, e, false_and, decide_false]

theorem Equal_f (xs ys : List Int) (hm : xs.length ≤ 9223372036854775807) : slices_Equal_int_int.f (xs.length + 1) xs ys = some (decide (xs = ys)) := by
  unfold slices_Equal_int_int.f
  by_cases hl : xs.length = ys.length
  · rw [if_pos (by omega)]
    have := Equal_l0 xs ys hl hm xs.length (xs.length + 1) 0 (by omega) (by omega) (by omega)
    simpa using this
  · rw [if_neg (by omega)]
    have : xs ≠ ys := fun e => hl (by rw [e])
    simp [this]

set_option maxHeartbeats 2000000 in
theorem EqualFunc_calls (A0 : Option Addr) (c0 : Nat) (l0 : List (List Int)) (A1 : Option Addr) (c1 : Nat) (l1 : List (List Int)) (w : World)
    (hr0 : Kd.C (Kd.slice 3 (Kd.int .i64)) w A0 l0.length l0) (hc0 : l0.length ≤ c0) (hr1 : Kd.C (Kd.slice 3 (Kd.int .i64)) w A1 l1.length l1) (hc1 : l1.length ≤ c1) :
    Calls Tryz.prog 75 #[.slice A0 l0.length c0, .slice A1 l1.length c1, .func (.func 76) #[] #[]] w fun e w' => e = .returned (.bool (decide (l0 = l1))) ∧ Below w.heap.size w w' := by
  have HR0 := Aside0.mk hr0
  have HR1 := Aside0.mk hr1
  have hm : l0.length ≤ 9223372036854775807 := hr0.2.1
  clear hr0 hr1
  by_cases hl : l0.length = l1.length
  · have hb0 : ((l0.length : Int) != (l1.length : Int)) = false := by simp [hl]
    have HL := Aside0.mk hl
    clear hl
    go_enter Tryz.func75, Tryz.ntmps75
    go_wp2
    go_loopg [17] l0.length (fun gg s17 wr => ∃ kk : Nat, kk ≤ l0.length ∧ l0.length - kk ≤ gg ∧ s17 = .int .i64 kk ∧ Aside0 (Below w.heap.size w wr) ∧ Aside0 (∀ j (hj : j < l0.length) (hj1 : j < l1.length), j < kk → l0[j] = l1[j]))
    case atStart => exact ⟨0, Nat.zero_le _, by omega, rfl, ⟨Below.refl _ _⟩, ⟨fun j _ _ hj => absurd hj (Nat.not_lt_zero _)⟩⟩
    case round =>
      obtain ⟨kk, hkk, hg, rfl, HB, HA⟩ := hrel
      by_cases hlt : kk < l0.length
      · have hlt1 : kk < l1.length := by have := HL.out; omega
        have hltz : (kk : Int) < (l0.length : Int) := by omega
        have hltz1 : (kk : Int) < (l1.length : Int) := by omega
        obtain ⟨ad, B0, b0, e1, hx, hl1, hK⟩ := at_L1 HR0.out kk (by omega) (by omega)
        obtain ⟨ad1, B1, b1, e2, hx1, hl2, hK1⟩ := at_L1 HR1.out kk (by omega) (by omega)
        cases e1
        cases e2
        replace hx := (HB.out.cell (World.block_lt_of_cell? w _ hx)).trans hx
        replace hx1 := (HB.out.cell (World.block_lt_of_cell? w _ hx1)).trans hx1
        have hrd : rd_L1 l0 kk = l0[kk] := by simp [rd_L1, hlt]
        have hrd1 : rd_L1 l1 kk = l1[kk] := by simp [rd_L1, hlt1]
        rw [hrd, Int.toNat_natCast] at hx
        rw [hrd1, Int.toNat_natCast] at hx1
        rw [hrd] at hl1 hK
        rw [hrd1] at hl2 hK1
        clear hrd hrd1
        have HC := Aside0.mk (slices_Equal_int_int.calls _ B0 b0 l0[kk] B1 b1 l1[kk] _ wr (Kd.C_below hK HB.out) hl1 (Kd.C_below hK1 HB.out) hl2 (Equal_f _ _ hK.2.1))
        clear hl1 hK hl2 hK1
        by_cases hq : l0[kk] = l1[kk]
        · have HQ := Aside0.mk hq
          have HC2 : Aside0 _ := ⟨by have := HC.out; rw [decide_eq_true hq] at this; exact this⟩
          clear hq HC
          go_wp2_with (go_at_call 76; refine (HC2.out).mono ?_; rintro e w' ⟨rfl, hb⟩; have HB2 := Aside0.mk hb.below; clear hb)
          go_roundg (l0.length - (kk + 1))
          case measure => omega
          case rel =>
            refine ⟨kk + 1, by omega, by omega, by go_num, ⟨below_trans' HB.out HB2.out⟩, ⟨fun j hj hj1 hj2 => ?_⟩⟩
            by_cases e : j = kk
            · subst e; exact HQ.out
            · exact HA.out j hj hj1 (by omega)
        · have HQ := Aside0.mk hq
          have HC2 : Aside0 _ := ⟨by have := HC.out; rw [decide_eq_false hq] at this; exact this⟩
          have hne : decide (l0 = l1) = false := decide_eq_false (fun e => hq (by subst e; rfl))
          have HN := Aside0.mk hne
          clear hq HC hne
          go_wp2_with (go_at_call 76; refine (HC2.out).mono ?_; rintro e w' ⟨rfl, hb⟩; have HB2 := Aside0.mk hb.below; clear hb)
          go_ret
          exact ⟨by rw [HN.out]; rfl, below_trans' HB.out HB2.out⟩
      · obtain rfl : kk = l0.length := by omega
        have HN : Aside0 (decide (l0 = l1) = true) := ⟨decide_eq_true (List.ext_getElem HL.out (fun j hj hj1 => HA.out j hj hj1 hj))⟩
        go_wp2
        go_ret
        exact ⟨by rw [HN.out]; rfl, HB.out⟩
  · have hb0 : ((l0.length : Int) != (l1.length : Int)) = true := by rw [bne_iff_ne]; omega
    have HN : Aside0 (decide (l0 = l1) = false) := ⟨decide_eq_false (fun e => hl (by rw [e]))⟩
    have HL := Aside0.mk hl
    clear hl
    rw [HN.out]
    go_enter Tryz.func75, Tryz.ntmps75
    go_wp2
    go_ret
    exact ⟨rfl, Below.refl _ _⟩

def sameV (n : Int) (a : List (List Int)) (m : Int) (b : List (List Int)) : Bool := n == m && decide (a = b)
def cnf_Same.f (a0_0 : Int) (l0_1 : List (List Int)) (a1_0 : Int) (l1_1 : List (List Int)) : Option Bool := some (sameV a0_0 l0_1 a1_0 l1_1)

set_option maxHeartbeats 2000000 in
theorem cnf_Same.calls (a0_0 : Int) (A0_1 : Option Addr) (c0_1 : Nat) (l0_1 : List (List Int)) (a1_0 : Int) (A1_1 : Option Addr) (c1_1 : Nat) (l1_1 : List (List Int)) (r : Bool) (w : World)
    (hr0_1 : Kd.C (Kd.slice 3 (Kd.int .i64)) w A0_1 l0_1.length l0_1) (hc0_1 : l0_1.length ≤ c0_1) (hr1_1 : Kd.C (Kd.slice 3 (Kd.int .i64)) w A1_1 l1_1.length l1_1) (hc1_1 : l1_1.length ≤ c1_1) (h : cnf_Same.f a0_0 l0_1 a1_0 l1_1 = some r) :
    Calls Tryz.prog 28 #[.agg #[.int .i64 a0_0, .slice A0_1 l0_1.length c0_1], .agg #[.int .i64 a1_0, .slice A1_1 l1_1.length c1_1]] w fun e w' => e = .returned (.bool r) ∧ Below w.heap.size w w' := by
  injection h with h
  subst h
  have HB1 := Aside0.mk (show Below w.heap.size w ((w.alloc (.cells #[.int .i64 a0_0, .slice A0_1 l0_1.length c0_1] 24)).alloc (.cells #[.int .i64 a1_0, .slice A1_1 l1_1.length c1_1] 24)) from ((Below.refl _ _).alloc (Nat.le_refl _) _).alloc (by simp) _)
  have HE := Aside0.mk (EqualFunc_calls A0_1 c0_1 l0_1 A1_1 c1_1 l1_1 _ (Kd.C_below hr0_1 HB1.out) hc0_1 (Kd.C_below hr1_1 HB1.out) hc1_1)
  clear hr0_1 hr1_1
  cases hq : (a0_0 == a1_0) with
  | true =>
    have HV : Aside0 (sameV a0_0 l0_1 a1_0 l1_1 = decide (l0_1 = l1_1)) := ⟨by simp [sameV, hq]⟩
    rw [HV.out]
    go_enter Tryz.func28, Tryz.ntmps28
    go_wp2_with (go_at_call 75; refine (HE.out).mono ?_; rintro e w' ⟨rfl, hb⟩; have HB2 := Aside0.mk hb; clear hb)
    go_ret
    exact ⟨rfl, below_trans' HB1.out HB2.out⟩
  | false =>
    have HV : Aside0 (sameV a0_0 l0_1 a1_0 l1_1 = false) := ⟨by simp [sameV, hq]⟩
    rw [HV.out]
    go_enter Tryz.func28, Tryz.ntmps28
    go_wp2
    go_ret
    exact ⟨rfl, HB1.out⟩
end Go.Proofs.YtcdhhaedgohlgaaGreatDoor.P
end

section
namespace Go.Proofs.YtcdhhaedgohlgaaGreatDoor.P
open Go.RowKit Go.Proofs.YtcdhhaedgohlgaaGreatDoorW.PrintWords Go.Proofs.YtcdhhaedgohlgaaGreatDoorW.PrintLast Go.Proofs.YtcdhhaedgohlgaaGreatDoorW.PrintMore
set_option linter.unusedVariables false
set_option linter.unusedSimpArgs false

theorem zero4 (w : World) : (zeroValue 4).run Tryz.prog w = .ok (.bool false) w := by kernel_rfl
theorem under93 : Tryz.prog.underlying 93 = some (.map 3 4) := by kernel_rfl
theorem under3 : Tryz.prog.underlying 3 = some (.int .i64) := by kernel_rfl

/-- The set of l's elements, as a map to true. -/
def setM (l : List Int) : Int → Option Value := fun x => if x ∈ l then some (.bool true) else none
theorem setM_get (l : List Int) (x : Int) : (setM l x).getD (.bool false) = .bool (decide (x ∈ l)) := by
  unfold setM
  by_cases h : x ∈ l <;> simp [h]

theorem enters83 : ∀ args w, (callFunc 83 args).run Tryz.prog w = .ok (.enter 83 args) w := by
  intro args w; kernel_rfl

set_option maxHeartbeats 1000000 in
theorem Subsumes1_calls (x : Int) (ad : Addr) (b n : Nat) (l : List Int) (w : World) (hc : w.cell? ad = some (.map (some b))) (hs : ad.spot = none) (hm : MapI w b n (setM l)) :
    Calls Tryz.prog 83 #[.int .i64 x, .pointer (some ad)] w fun e w' => e = .returned (.bool (!decide (x ∈ l))) ∧ Below w.heap.size w w' := by
  have hlk := hm.lookup (P := Tryz.prog) under93 under3 (zero4 w) x
  rw [setM_get] at hlk
  have HV : Aside0 ((!decide (x ∈ l)) = !decide (x ∈ l)) := ⟨rfl⟩
  generalize decide (x ∈ l) = v at *
  clear hm
  go_enter Tryz.func83, Tryz.ntmps83
  go_wp2
  go_ret
  exact ⟨rfl, Below.refl _ _⟩

def subsumesV (a b : List Int) : Bool := a.all fun x => decide (x ∈ b)
def cnf_Subsumes.f (l0 : List Int) (l1 : List Int) : Option Bool := some (subsumesV l0 l1)

theorem subsumes_any (a b : List Int) : subsumesV a b = !(a.any fun x => !decide (x ∈ b)) := by
  unfold subsumesV
  rw [List.not_any_eq_all_not]
  simp

set_option maxHeartbeats 2000000 in
theorem cnf_Subsumes.calls (A0 : Option Addr) (c0 : Nat) (l0 : List Int) (A1 : Option Addr) (c1 : Nat) (l1 : List Int) (r : Bool) (w : World) (hr0 : Kd.C (Kd.int .i64) w A0 l0.length l0) (hc0 : l0.length ≤ c0) (hr1 : Kd.C (Kd.int .i64) w A1 l1.length l1) (hc1 : l1.length ≤ c1) (h : cnf_Subsumes.f l0 l1 = some r) :
    Calls Tryz.prog 34 #[.slice A0 l0.length c0, .slice A1 l1.length c1] w fun e w' => e = .returned (.bool r) ∧ Below w.heap.size w w' := by
  injection h with h
  subst h
  have HR0 := Aside0.mk hr0
  have HR1 := Aside0.mk hr1
  have hm : l1.length ≤ 9223372036854775807 := hr1.2.1
  clear hr0 hr1
  have HV := Aside0.mk (subsumes_any l0 l1)
  generalize subsumesV l0 l1 = v at *
  have hmm := @run_makeMap Tryz.prog
  go_enter Tryz.func34, Tryz.ntmps34
  go_wp2
  clear hmm
  go_loopg [11] l1.length (fun gg s11 wr => ∃ kk : Nat, kk ≤ l1.length ∧ l1.length - kk ≤ gg ∧ s11 = .int .i64 kk ∧ Aside0 (Below w.heap.size w wr) ∧
    Aside0 (wr.cell? ⟨w.heap.size + 1, 0, none⟩ = some (.map (some w.heap.size)) ∧ w.heap.size + 1 < wr.heap.size) ∧ Aside0 (∃ n, MapI wr w.heap.size n (setM (l1.take kk))))
  case atStart =>
    refine ⟨0, Nat.zero_le _, by omega, rfl, ⟨by repeat (first | exact Below.refl _ _ | refine Below.setCell ?_ (by simp) _ | refine Below.alloc ?_ (by simp) _)⟩, ⟨by simp [go_sem], by simp⟩, ⟨0, ?_⟩⟩
    exact ((MapI.made w).alloc _).congr rfl (fun x => by simp [setM])
  case round =>
    obtain ⟨kk, hkk, hg, rfl, HB, HC, HM⟩ := hrel
    by_cases hlt : kk < l1.length
    · have hltz : (kk : Int) < (l1.length : Int) := by omega
      obtain ⟨ad, e1, hx⟩ := Kd.at_int HR1.out kk (by omega) (by omega)
      cases e1
      replace hx := (HB.out.cell (World.block_lt_of_cell? w _ hx)).trans hx
      have hrd : rd l1 kk = l1[kk] := by simp [rd, hlt]
      rw [hrd, Int.toNat_natCast] at hx
      clear hrd
      have hc := HC.out.1
      obtain ⟨n, hM⟩ := HM.out
      have HM2 := Aside0.mk hM
      clear hM
      go_wp2_with (at_mapUpdate; refine wpList_putI rfl _ _ _ 93 rfl under93 under3 w.heap.size n (setM (l1.take kk)) HM2.out rfl l1[kk] (.bool true) rfl rfl ?_; intro w1 hM1 hg1; have HM1 := Aside0.mk hM1; have HG1 := Aside0.mk hg1; clear hM1 hg1)
      go_roundg (l1.length - (kk + 1))
      case measure => omega
      case rel =>
        refine ⟨kk + 1, by omega, by omega, by go_num, ⟨HB.out.grown HG1.out HB.out.size (fun k e => by cases e; exact Nat.le_refl _)⟩, ⟨?_, Nat.lt_of_lt_of_le HC.out.2 HG1.out.size⟩, ⟨_, HM1.out.congr rfl (fun x => ?_)⟩⟩
        · exact (World.cell?_of_block (a := ⟨w.heap.size + 1, 0, none⟩) (HG1.out.block _ HC.out.2 (by simp))).trans HC.out.1
        · rw [List.take_succ_eq_append_getElem hlt]
          unfold putM setM
          simp only [List.mem_append, List.mem_singleton]
          by_cases e : x = l1[kk]
          · rw [if_pos e, if_pos (Or.inr e)]
          · simp only [e, or_false, if_false]
    · obtain rfl : kk = l1.length := by omega
      obtain ⟨n, hM⟩ := HM.out
      rw [List.take_length] at hM
      have HF := Aside0.mk (ContainsFunc_int 83 #[.pointer (some ⟨w.heap.size + 1, 0, none⟩)] (fun x => !decide (x ∈ l1)) enters83 A0 c0 l0 wr (Kd.C_below HR0.out HB.out) hc0
        (fun W x hx hb => Subsumes1_calls x ⟨w.heap.size + 1, 0, none⟩ w.heap.size n l1 W ((hb.cell (p := ⟨w.heap.size + 1, 0, none⟩) HC.out.2).trans HC.out.1) rfl (hM.below hb)))
      clear hM
      go_wp2_with (go_at_call 73; refine (HF.out).mono ?_; rintro e w' ⟨rfl, hb⟩; have HB2 := Aside0.mk hb; clear hb)
      go_ret
      exact ⟨by rw [HV.out]; rfl, below_trans' HB.out HB2.out⟩
end Go.Proofs.YtcdhhaedgohlgaaGreatDoor.P
end

section
namespace Go.Proofs.YtcdhhaedgohlgaaGreatDoor.P
open Go.RowKit Go.Proofs.YtcdhhaedgohlgaaGreatDoorW.PrintWords Go.Proofs.YtcdhhaedgohlgaaGreatDoorW.PrintLast Go.Proofs.YtcdhhaedgohlgaaGreatDoorW.PrintMore
set_option linter.unusedVariables false
set_option linter.unusedSimpArgs false

def cnf_Norm.f (l0 : List Int) : Option (List Int × Bool) := if l0.length < 17592186044416 then some (normL l0, tautL l0) else none

theorem lit_bound {n x : Int} (h : litB n x = true) : -n ≤ x ∧ x ≤ n := (litB_range h).2

set_option maxHeartbeats 4000000 in
set_option maxRecDepth 100000 in
theorem cnf_Norm.calls (A0 : Option Addr) (c0 : Nat) (l0 : List Int) (r1 : List Int) (r2 : Bool) (w : World) (hr0 : Kd.C (Kd.int .i64) w A0 l0.length l0) (hc0 : l0.length ≤ c0) (h : cnf_Norm.f l0 = some (r1, r2)) :
    Calls Tryz.prog 23 #[.slice A0 l0.length c0] w fun e w' => ∃ v0_ : Value, e = .returned (.tuple #[v0_, .bool r2]) ∧ Kd.R (Kd.int .i64) 3 w' w.heap.size (fun _ => True) v0_ r1 ∧ Below w.heap.size w w' := by
  unfold cnf_Norm.f at h
  by_cases hlt : l0.length < 17592186044416
  case neg => rw [if_neg hlt] at h; cases h
  rw [if_pos hlt] at h
  injection h with h
  injection h with h h2
  subst h h2
  have HCL := Aside0.mk (Clone_int A0 c0 l0 w hr0 hc0 hlt)
  have hfl : (l0.filter (litB 65536)).length < 17592186044416 := Nat.lt_of_le_of_lt (List.length_filter_le _ _) hlt
  have HFL := Aside0.mk hfl
  clear hfl hlt
  have hm0 := hr0.2.1
  have HADJ := Aside0.mk (taut_adj l0)
  have HMEM := Aside0.mk (mem_normL l0)
  generalize hT : tautL l0 = T at *
  clear hT
  generalize hNN : normL l0 = N at *
  have HNN := Aside0.mk hNN
  clear hNN
  go_enter Tryz.func23, Tryz.ntmps23
  go_wp2_with (go_at_call 62; refine (HCL.out).mono ?_; rintro e w1 ⟨v1, rfl, hR1, hB1⟩; have HR1 := Aside0.mk hR1; have HB1 := Aside0.mk hB1; clear hR1 hB1)
  have HDF := Aside0.mk (DeleteFunc_lit v1 l0 w1 w.heap.size HR1.out)
  go_wp2_with (go_at_call 61; refine (HDF.out).mono ?_; rintro e w2 ⟨v2, rfl, hR2, hG2, hO2⟩; have HR2 := Aside0.mk hR2; have HB2 := Aside0.mk (RI.below HR1.out HB1.out HB1.out.size hG2); clear hR2 hG2 hO2)
  have HSF := Aside0.mk (SortFunc_lit v2 (l0.filter (litB 65536)) w2 w.heap.size HR2.out HFL.out (fun x hx => by have := lit_bound (List.mem_filter.1 hx).2; omega))
  go_wp2_with (go_at_call 65; refine (HSF.out).mono ?_; rintro e w3 ⟨rfl, s, hp, hs, hR3, hG3⟩; have HR3 := Aside0.mk hR3; have HP := Aside0.mk hp; have HS := Aside0.mk hs; have HB3 := Aside0.mk (RI.below HR2.out HB2.out HB2.out.size hG3); clear hR3 hG3 hp hs)
  have HCP := Aside0.mk (Compact_int v2 s w3 w.heap.size HR3.out)
  have HN := Aside0.mk (compact_sorted l0 s (fun z => by rw [HP.out.mem_iff, List.mem_filter]) HS.out)
  go_wp2_with (go_at_call 70; refine (HCP.out).mono ?_; rintro e w4 ⟨v4, rfl, hR4, hG4⟩; rw [HN.out, HNN.out] at hR4; obtain ⟨A4, c4, rfl⟩ := Kd.R_slice hR4; have HR4 := Aside0.mk hR4; have HB4 := Aside0.mk (RI.below HR3.out HB3.out HB3.out.size hG4); clear hR4 hG4)
  have hn : N.length ≤ 9223372036854775807 := (Kd.R_reads' HR4.out).2.2.2.1
  have HBND := Aside0.mk (fun (x : Int) (hx : x ∈ N) => lit_bound ((HMEM.out x).1 hx).2)
  clear HSF HDF HCP HCL HR1 HB1 HR2 HB2 HR3 HB3 HP HS HN hr0
  go_loopg [15] N.length (fun gg s15 wr => ∃ kk : Nat, kk ≤ N.length ∧ N.length - kk ≤ gg ∧ s15 = .int .i64 kk ∧ Aside0 (Below w.heap.size w wr) ∧ Aside0 (RI wr w.heap.size (.slice A4 N.length c4) N) ∧
    Aside0 (∀ j, j + 1 < kk → N.getD j 0 ≠ -N.getD (j + 1) 0))
  case atStart => exact ⟨0, Nat.zero_le _, by omega, rfl, HB4, HR4, ⟨fun j hj => absurd hj (Nat.not_lt_zero _)⟩⟩
  case round =>
    clear HR4 HB4
    obtain ⟨kk, hkk, hg, rfl, HB, HR, HA⟩ := hrel
    by_cases hlt : kk < N.length
    · have hltz : (kk : Int) < (N.length : Int) := by omega
      rcases Nat.eq_zero_or_pos kk with h0 | h0
      · subst h0
        have hd0 : decide ((0 : Int) < ((0 : Nat) : Int)) = false := by decide
        go_wp2
        go_quiet (fail)
        go_wp2
        go_roundg (N.length - (0 + 1))
        case measure => omega
        case rel => exact ⟨1, by omega, by omega, by go_num, ⟨pw_below_drewN HB.out _⟩, ⟨Kd.R_drewN HR.out _⟩, ⟨fun j hj => by omega⟩⟩
      · have hlt0 : (0 : Int) < (kk : Int) := by omega
        have hd0 : decide ((0 : Int) < (kk : Int)) = true := decide_eq_true hlt0
        have hK5 := (Kd.R_reads' HR.out).2.2
        obtain ⟨ad, e1, hx⟩ := Kd.at_int hK5 kk (by omega) (by omega)
        obtain ⟨ad', e2, hy⟩ := Kd.at_int hK5 ((kk : Int) - 1) (by omega) (by omega)
        cases e1
        cases e2
        rw [show ((kk : Int) - 1).toNat = kk - 1 by omega] at hy
        rw [Int.toNat_natCast] at hx
        have hp : rd N ((kk : Int) - 1) = N.getD (kk - 1) 0 := by unfold rd; rw [show ((kk : Int) - 1).toNat = kk - 1 by omega]
        have hq : rd N (kk : Int) = N.getD kk 0 := by unfold rd; rw [Int.toNat_natCast]
        rw [hp] at hy
        rw [hq] at hx
        clear hp hq hK5
        have hbq : -65536 ≤ N.getD kk 0 ∧ N.getD kk 0 ≤ 65536 := by
          rw [getD_lt _ _ hlt]; exact HBND.out _ (List.getElem_mem hlt)
        have HE : Aside0 (N.getD (kk - 1) 0 = N.getD (kk - 1) 0 ∧ N.getD (kk - 1 + 1) 0 = N.getD kk 0) := ⟨rfl, by rw [Nat.sub_add_cancel h0]⟩
        generalize hP : N.getD (kk - 1) 0 = P at *
        generalize hQ : N.getD kk 0 = Q at *
        have HP := Aside0.mk hP
        have HQ := Aside0.mk hQ
        clear hP hQ
        obtain ⟨hq1, hq2⟩ := hbq
        have hidx : IntKind.i64.wrap ((kk : Int) - 1) = (kk : Int) - 1 := IntWalk.i64_in _ (by omega)
        have hi0 : 0 ≤ (kk : Int) - 1 := by omega
        have hi1 : (kk : Int) - 1 < (N.length : Int) := by omega
        have hi2 : ((kk : Int) - 1).toNat = kk - 1 := by omega
        have hng : IntKind.i64.wrap (-Q) = -Q := IntWalk.i64_in _ (by omega)
        by_cases hPQ : P = -Q
        · have hbe : (P == -Q) = true := beq_iff_eq.2 hPQ
          have HPQ := Aside0.mk hPQ
          clear hPQ
          go_wp2
          go_quiet (fail)
          go_wp2
          go_ret2
          have hTt : T = true := HADJ.out.2 ⟨kk - 1, by omega, by have h1 := HP.out; have h2 := HQ.out; rw [Nat.sub_add_cancel h0, h1, h2]; exact HPQ.out⟩
          exact ⟨_, by rw [hTt]; rfl, Kd.R_drewN HR.out _, pw_below_drewN HB.out _⟩
        · have hbe : (P == -Q) = false := beq_eq_false_iff_ne.2 hPQ
          have HPQ := Aside0.mk hPQ
          clear hPQ
          go_wp2
          go_quiet (fail)
          go_wp2
          go_roundg (N.length - (kk + 1))
          case measure => omega
          case rel =>
            refine ⟨kk + 1, by omega, by omega, by go_num, ⟨pw_below_drewN HB.out _⟩, ⟨Kd.R_drewN HR.out _⟩, ⟨fun j hj => ?_⟩⟩
            by_cases e : j + 1 = kk
            · have h1 := HP.out
              have h2 := HQ.out
              rw [show j = kk - 1 by omega, Nat.sub_add_cancel h0, h1, h2]
              exact HPQ.out
            · exact HA.out j (by omega)
    · obtain rfl : kk = N.length := by omega
      have hTf : T = false := by
        cases hT : T with
        | false => rfl
        | true =>
          obtain ⟨i, h1, h2⟩ := HADJ.out.1 hT
          exact absurd h2 (HA.out i h1)
      have HT := Aside0.mk hTf
      clear hTf
      go_wp2
      go_ret2
      exact ⟨_, by rw [HT.out]; rfl, HR.out, HB.out⟩
end Go.Proofs.YtcdhhaedgohlgaaGreatDoor.P
end

section
namespace Go.Proofs
open Go.Shelf
def Tryz.laysGrow_ren : Go.Shelf.Ren := ⟨fun | 4 => 128 | n => n, fun | 22 => 25 | 25 => 3 | 3 => 3 | 4 => 4 | 9 => 9 | 20 => 20 | 0 => 0 | n => n, fun | n => n⟩
theorem Tryz.laysGrow : Go.Proofs.Lays8.n4 Tryz.prog Tryz.laysGrow_ren := {
  mixed := by kernel_rfl
  f4 := ⟨Tryz.f128.name, by decide, Tryz.func128.trans (congrArg some (by kernel_rfl))⟩
  t0 := Tryz.underlying0
  a0 := Tryz.isAgg0
  z0 := Tryz.sizeOf0
  v0 := Tryz.zeroValue0
  t3 := Tryz.underlying3
  a3 := Tryz.isAgg3
  z3 := Tryz.sizeOf3
  v3 := Tryz.zeroValue3
  t4 := Tryz.underlying4
  a4 := Tryz.isAgg4
  z4 := Tryz.sizeOf4
  v4 := Tryz.zeroValue4
  t9 := Tryz.underlying9
  a9 := Tryz.isAgg9
  z9 := Tryz.sizeOf9
  v9 := Tryz.zeroValue9
  t20 := Tryz.underlying20
  a20 := Tryz.isAgg20
  z20 := Tryz.sizeOf20
  v20 := Tryz.zeroValue20
  t22 := Tryz.underlying25
  a22 := Tryz.isAgg25
  z22 := Tryz.sizeOf25
  v22 := Tryz.zeroValue25 }
end Go.Proofs
end

section
namespace Go.Proofs.YtcdhhaedgohlgaaGreatDoor.P
open Go.RowKit Go.Proofs.YtcdhhaedgohlgaaGreatDoorW.PrintWords Go.Proofs.YtcdhhaedgohlgaaGreatDoorW.PrintLast Go.Proofs.YtcdhhaedgohlgaaGreatDoorW.PrintMore
set_option linter.unusedVariables false
set_option linter.unusedSimpArgs false
set_option maxRecDepth 100000

/-- slices.Grow(nil, n). -/
theorem Grow_nil (n : Nat) (w : World) (hn : n < 17592186044416) :
    Calls Tryz.prog 128 #[.slice none 0 0, .int .i64 n] w fun e w' => ∃ v, e = .returned v ∧ RI w' w.heap.size v [] ∧ Below w.heap.size w w' := by
  rcases Nat.eq_zero_or_pos n with rfl | hn0
  · refine (Any8.slices_Grow_room Tryz.laysGrow none 0 0 0 w (by omega) (by omega) (by omega) (by omega)).mono ?_
    rintro e w' ⟨rfl, rfl⟩
    exact ⟨_, rfl, RI.nil _ _, Below.refl _ _⟩
  · obtain ⟨i0, hi, hz0, hz1, hz2⟩ := infoI3
    refine (Any8.slices_Grow_grow Tryz.laysGrow i0 (.int .i64 0) hi hz0 (by omega) none 0 0 n [] w (by omega) (by omega) (by rw [hz2]; omega) (by omega) (by simp) (fun _ => rfl) (by intro a h; cases h)).mono ?_
    rintro e w' ⟨rfl, rfl⟩
    generalize hcap : grownCap w (0 + n) 0 (Tryz.laysGrow_ren.t 25) = cap
    have hcm : cap ≤ maxLen := by rw [← hcap]; exact grownCap_le_maxLen _ _ _ _ (by unfold maxLen; omega)
    have hcn : 0 + n ≤ cap := by rw [← hcap]; exact grownCap_ge _ _ _ _
    have hz : (Value.int IntKind.i64 0).cells.size = 1 := rfl
    have hcs : (([] : List Value).toArray ++ Builtin.zeroCells (Value.int .i64 0).cells (0 + n - 0) ++ Builtin.zeroCells (Value.int .i64 0).cells (cap - (0 + n))).size = cap * 1 := by
      rw [Array.size_append, Array.size_append, size_zeroCells, size_zeroCells, hz]
      simp
      omega
    generalize (([] : List Value).toArray ++ Builtin.zeroCells (Value.int .i64 0).cells (0 + n - 0) ++ Builtin.zeroCells (Value.int .i64 0).cells (cap - (0 + n))) = cs at hcs
    refine ⟨_, rfl, RI.of_own ⟨rfl, .inr ⟨w.heap.size, cap, cs, rfl, Nat.le_refl _, ?_, Nat.zero_le _, hcm, hcs, rfl⟩⟩, ?_⟩
    · exact Array.getElem?_push_size
    · have hB : Below w.heap.size w w.drew := ⟨rfl, rfl, rfl, Nat.le_refl _, fun _ _ => rfl⟩
      exact hB.alloc (Nat.le_refl _) _

theorem Concat2 (g : Nat) (A1 A2 : Option Addr) (c1 c2 : Nat) (l1 l2 : List Int) (w : World) (hg0 : w.cell? ⟨g, 0, none⟩ = some (.slice A1 l1.length c1)) (hg1 : w.cell? ⟨g, 1, none⟩ = some (.slice A2 l2.length c2))
    (h1 : Kd.C (Kd.int .i64) w A1 l1.length l1) (h2 : Kd.C (Kd.int .i64) w A2 l2.length l2) (hlen : l1.length + l2.length < 17592186044416) :
    Calls Tryz.prog 87 #[.slice (some ⟨g, 0, none⟩) 2 2] w fun e w' => ∃ v, e = .returned v ∧ RI w' w.heap.size v (l1 ++ l2) ∧ Below w.heap.size w w' := by
  have H1 := Aside0.mk h1
  have H2 := Aside0.mk h2
  have HL := Aside0.mk hlen
  have HG0 := Aside0.mk hg0
  have HG1 := Aside0.mk hg1
  have hn1 : l1.length < 17592186044416 := by omega
  have hn2 : l2.length < 17592186044416 := by omega
  have e1 : IntKind.i64.wrap (l1.length : Int) = (l1.length : Int) := IntWalk.i64_in _ (by omega)
  have e2 : IntKind.i64.wrap ((l1.length : Int) + (l2.length : Int)) = ((l1.length + l2.length : Nat) : Int) := by rw [IntWalk.i64_in _ (by omega)]; omega
  have d1 : decide ((l1.length : Int) < 0) = false := decide_eq_false (by omega)
  have d2 : decide (((l1.length + l2.length : Nat) : Int) < 0) = false := decide_eq_false (by omega)
  have HGR := fun W => Aside0.mk (Grow_nil (l1.length + l2.length) W hlen)
  clear h1 h2 hlen
  go_enter Tryz.func87, Tryz.ntmps87
  go_wp2
  refine wp_loop_rounds 3 ?_
  rw [rounds_succ]
  go_wp2
  rw [rounds_succ]
  go_wp2
  rw [rounds_succ]
  go_wp2_with (go_at_call 128; refine ((HGR _).out).mono ?_; rintro e wg ⟨vg, rfl, hR, hB⟩; have HRg := Aside0.mk hR; have HBg := Aside0.mk hB; clear hR hB)
  have HG0' : Aside0 (wg.cell? ⟨g, 0, none⟩ = some (.slice A1 l1.length c1)) := ⟨pw_cell_below HBg.out HG0.out⟩
  have hg0' := HG0'.out
  refine wp_loop_rounds 3 ?_
  rw [rounds_succ]
  go_wp2_with (at_builtin; refine Kd.R_append_row (w0 := w) (Value.int .i64) 0 w.heap.size rfl (.tmp 31) (.tmp 32) 25 3 (.int .i64 0) 8 rfl Tryz.underlying25 info3 rfl (by decide) vg [] l1 A1 l1.length c1 (fun _ => True) rfl rfl (fun _ _ => trivial) HRg.out (Kd.C_below H1.out HBg.out) HBg.out HBg.out.size (by simp; omega) ?_; intro v1 w1 hR1 hB1 _ _; have HR1 := Aside0.mk hR1; have HB1 := Aside0.mk hB1; clear hR1 hB1)
  have hg1' : w1.cell? ⟨g, 1, none⟩ = some (.slice A2 l2.length c2) := pw_cell_below HB1.out HG1.out
  rw [rounds_succ]
  go_wp2_with (at_builtin; refine Kd.R_append_row (w0 := w) (Value.int .i64) 0 w.heap.size rfl (.tmp 31) (.tmp 32) 25 3 (.int .i64 0) 8 rfl Tryz.underlying25 info3 rfl (by decide) v1 ([] ++ l1) l2 A2 l2.length c2 (fun _ => True) rfl rfl (fun _ _ => trivial) HR1.out (Kd.C_below H2.out HB1.out) HB1.out HB1.out.size (by have := HL.out; simp; omega) ?_; intro v2 w2 hR2 hB2 _ _; have HR2 := Aside0.mk hR2; have HB2 := Aside0.mk hB2; clear hR2 hB2)
  rw [rounds_succ]
  go_wp2
  go_ret
  exact ⟨_, rfl, HR2.out, HB2.out⟩
end Go.Proofs.YtcdhhaedgohlgaaGreatDoor.P
end

section
namespace Go.Proofs.YtcdhhaedgohlgaaGreatDoor.P
open Go.RowKit Go.Proofs.YtcdhhaedgohlgaaGreatDoorW.PrintWords Go.Proofs.YtcdhhaedgohlgaaGreatDoorW.PrintLast Go.Proofs.YtcdhhaedgohlgaaGreatDoorW.PrintMore
set_option linter.unusedVariables false
set_option linter.unusedSimpArgs false
set_option maxRecDepth 100000

theorem DeleteFunc_own (f : Nat) (cb : Array Value) (p : Int → Bool) (eg : ∀ args w, (callFunc f args).run Tryz.prog w = .ok (.enter f args) w) (v : Value) (l : List Int) (w : World) (base : Nat) (hR : RI w base v l)
    (hp : PredAt Tryz.prog f cb (Value.int .i64) p w) (hpo : ∀ blk, v.ownBlock = some blk → PredOver Tryz.prog f cb (Value.int .i64) p blk 0 l.length w) :
    Calls Tryz.prog 61 #[v, .func (.func f) #[] cb] w fun e w' => ∃ v', e = .returned v' ∧ RI w' base v' (l.filter fun x => !p x) ∧ w.grownBy w' v.ownBlock ∧ (v'.ownBlock = v.ownBlock) := by
  rcases hR.cases with ⟨rfl, rfl⟩ | hv
  · have HI := fun W => Aside0.mk (IndexFunc_int f cb p eg none 0 [] W ⟨rfl, by simp, fun h => absurd h (by simp)⟩ (by simp) (by intro W x hx; cases hx))
    have hm : idxF p [] = -1 := rfl
    clear hp hpo
    go_enter Tryz.func61, Tryz.ntmps61
    go_wp2_with (go_at_call 124; refine ((HI _).out).mono ?_; rintro e w' ⟨rfl, hb⟩; have HB := Aside0.mk hb; clear hb)
    go_ret
    exact ⟨_, rfl, RI.nil _ _, grownBy_of_below HB.out _, rfl⟩
  · obtain ⟨g, cap, rfl, hb, hlt, hn, hm, hl, hH⟩ := Go.Lib.holds_of_ownsRow hR.own hv
    have hsz : (l.toArray).size = l.length := by simp
    have h := Tryz.slices_DeleteFunc (Value.int .i64) (fun _ => rfl) p f cb eg 0 zero3 g 0 cap l.toArray w hp (by rw [hsz]; exact hpo g rfl) hH (by unfold maxLen at hm; omega) (by omega)
    have hf : (l.toArray.toList.filter fun x => !p x) = l.filter (fun x => !p x) := by simp
    rw [hf, hsz] at h
    refine h.mono ?_
    rintro e w' ⟨rfl, q, rfl⟩
    have hle : (l.filter (fun x => !p x)).length ≤ l.length := List.length_filter_le _ _
    refine ⟨_, rfl, RI.of_own ?_, ?_, rfl⟩
    · have := Go.Lib.ownsRow_putRow (enc := Value.int .i64) (q := q) (k := (l.filter (fun x => !p x)).length) (ys := l.filter (fun x => !p x) ++ List.replicate (l.length - (l.filter (fun x => !p x)).length) 0) hR.own (by simp; omega) hle
      rw [List.take_left' rfl] at this
      exact this
    · have := grownBy_putRow (enc := Value.int .i64) (w := w) (g := g) (n := q) (os := #[]) (l.filter (fun x => !p x) ++ List.replicate (l.length - (l.filter (fun x => !p x)).length) 0).toArray
      rw [Go.Sort.grow_empty] at this
      exact this

theorem eq86 (n0 : Nat) (x y : Int) (W : World) (hc : W.cell? ⟨n0, 0, none⟩ = some (.int .i64 x)) :
    Calls Tryz.prog 86 #[.int .i64 y, .pointer (some ⟨n0, 0, none⟩)] W fun e w' => e = .returned (.bool (y == x)) ∧ ∃ q, w' = W.drewN q := by
  go_enter Tryz.func86, Tryz.ntmps86
  go_wp2
  go_ret
  exact ⟨rfl, by first | exact ⟨0, rfl⟩ | exact ⟨_, rfl⟩⟩

theorem without85 (A0 : Option Addr) (c0 : Nat) (l0 : List Int) (x : Int) (w : World) (hr0 : Kd.C (Kd.int .i64) w A0 l0.length l0) (hc0 : l0.length ≤ c0) (hlt : l0.length < 17592186044416) :
    Calls Tryz.prog 85 #[.slice A0 l0.length c0, .int .i64 x] w fun e w' => ∃ v, e = .returned v ∧ RI w' w.heap.size v (l0.filter fun y => !(y == x)) ∧ Below w.heap.size w w' := by
  have e86 : ∀ args w, (callFunc 86 args).run Tryz.prog w = .ok (.enter 86 args) w := by intro args w; kernel_rfl
  have HCL := fun W h => Aside0.mk (Clone_int A0 c0 l0 W h hc0 hlt)
  have HC := Aside0.mk hr0
  clear hr0
  go_enter Tryz.func85, Tryz.ntmps85
  go_wp2_with (go_at_call 62; refine ((HCL _ (Kd.C_alloc HC.out _)).out).mono ?_; rintro e w1 ⟨v1, rfl, hR, hB⟩; have HR1 := Aside0.mk hR; have HB1 := Aside0.mk hB; clear hR hB)
  have hcell : w1.cell? ⟨w.heap.size, 0, none⟩ = some (.int .i64 x) := pw_cell_below HB1.out (by unfold World.cell? World.alloc; simp)
  have hPA : PredAt Tryz.prog 86 #[.pointer (some ⟨w.heap.size, 0, none⟩)] (Value.int .i64) (fun y => y == x) w1 := fun W y hb => eq86 w.heap.size x y W (pw_cell_below hb hcell)
  have hPO : ∀ blk, v1.ownBlock = some blk → PredOver Tryz.prog 86 #[.pointer (some ⟨w.heap.size, 0, none⟩)] (Value.int .i64) (fun y => y == x) blk 0 l0.length w1 := by
    intro blk hblk n os dk y _
    refine eq86 w.heap.size x y _ ?_
    have hge : w.heap.size + 1 ≤ blk := by
      obtain ⟨inner, ho⟩ := Kd.R_own HR1.out
      have := own_base ho blk hblk
      simpa using this
    have hG := grownBy_putRow (enc := Value.int .i64) (w := w1) (g := blk) (n := n) (os := os) dk
    have hs : w.heap.size < w1.heap.size := by have := HB1.out.size; simp at this; omega
    have h1 := hG.block w.heap.size hs (fun e => by injection e with e; omega)
    exact (World.cell?_of_block (a := ⟨w.heap.size, 0, none⟩) h1).trans hcell
  have HDF := Aside0.mk (DeleteFunc_own 86 #[.pointer (some ⟨w.heap.size, 0, none⟩)] (fun y => y == x) e86 v1 l0 w1 _ HR1.out hPA hPO)
  have HE := Aside0.mk hcell
  clear hPA hPO hcell
  go_wp2_with (go_at_call 61; refine (HDF.out).mono ?_; rintro e w2 ⟨v2, rfl, hR2, hG2, hO2⟩; have HR2 := Aside0.mk hR2; have HB2 := Aside0.mk (RI.below HR1.out HB1.out HB1.out.size hG2); clear hR2 hG2 hO2)
  go_ret
  have hle : w.heap.size ≤ (w.alloc (.cells #[.int .i64 x] 3)).heap.size := by simp
  exact ⟨_, rfl, Kd.R_lower HR2.out hle, ((Below.refl w.heap.size w).alloc (Nat.le_refl _) _).trans (HB2.out.mono hle)⟩

theorem index_l0 (l : List Int) (x : Int) (hl : l.length < 9223372036854775807) : ∀ n i k, i + n = l.length → n < k → ∃ r, slices_Index_int_int.l0 k l x (l.length : Int) (i : Int) = some r ∧ decide (r ≥ 0) = (l.drop i).contains x
  | 0, i, k + 1, hi, hk => by
    unfold slices_Index_int_int.l0
    rw [if_neg (by omega)]
    refine ⟨_, rfl, ?_⟩
    rw [List.drop_eq_nil_of_le (by omega)]
    rfl
  | n + 1, i, k + 1, hi, hk => by
    unfold slices_Index_int_int.l0
    have hlt : i < l.length := by omega
    rw [if_pos (by omega), if_pos (by omega), if_pos (by omega)]
    have hr : rd l (i : Int) = l[i] := by unfold rd; simp [List.getD_eq_getElem?_getD, hlt]
    rw [hr, List.drop_eq_getElem_cons hlt, List.contains_cons]
    by_cases e : x = l[i]
    · rw [if_pos e]
      refine ⟨_, rfl, ?_⟩
      have : (x == l[i]) = true := beq_iff_eq.2 e
      rw [this]
      simp
    · rw [if_neg e]
      have : (x == l[i]) = false := beq_eq_false_iff_ne.2 e
      rw [this]
      have hw : wrap64 ((i : Int) + 1) = ((i + 1 : Nat) : Int) := by unfold wrap64; omega
      rw [hw]
      exact index_l0 l x hl n (i + 1) k (by omega) (by omega)

theorem contains_f (l : List Int) (x : Int) (hl : l.length < 9223372036854775807) : slices_Contains_int_int.f (l.length + 1) l x = some (l.contains x) := by
  obtain ⟨r, h1, h2⟩ := index_l0 l x hl l.length 0 (l.length + 1) (by omega) (by omega)
  unfold slices_Contains_int_int.f slices_Index_int_int.f
  rw [show ((0 : Nat) : Int) = 0 from rfl] at h1
  rw [h1]
  show some (decide (r ≥ 0)) = _
  rw [h2, List.drop_zero]

theorem Contains_int (A0 : Option Addr) (c0 : Nat) (l0 : List Int) (x : Int) (w : World) (hl : l0.length < 9223372036854775807) (hr0 : Kd.C (Kd.int .i64) w A0 l0.length l0) (hc0 : l0.length ≤ c0) :
    Calls Tryz.prog 84 #[.slice A0 l0.length c0, .int .i64 x] w fun e w' => e = .returned (.bool (l0.contains x)) ∧ ∃ q, w' = w.drewN q :=
  (slices_Contains_int_int.calls (l0.length + 1) A0 c0 l0 x _ w hr0 hc0 (contains_f l0 x hl)).mono fun _ _ ⟨h1, h2⟩ => ⟨h1, h2.out⟩

theorem below_call {w W w1 : World} (h0 : Below w.heap.size w W) (h1 : Below W.heap.size W w1) : Below w.heap.size w w1 := h0.trans (h1.mono h0.size)
theorem norm_f {l : List Int} (h : l.length < 17592186044416) : cnf_Norm.f l = some (normL l, tautL l) := by unfold cnf_Norm.f; rw [if_pos h]

def drp (l : List Int) (x : Int) : List Int := l.filter fun y => !(y == x)
def resolveV (a b : List Int) (v : Int) : List Int × Int :=
  if v < 1 ∨ 65536 < v then ([], 140)
  else if a.contains v = true ∧ b.contains (-v) = true then (normL (drp a v ++ drp b (-v)), 0)
  else if a.contains (-v) = true ∧ b.contains v = true then (normL (drp a (-v) ++ drp b v), 0)
  else ([], 140)
def cnf_Resolve.f (a b : List Int) (v : Int) : Option (List Int × Int) := if a.length + b.length < 17592186044416 then some (resolveV a b v) else none

set_option maxHeartbeats 4000000 in
theorem cnf_Resolve.calls (A0 : Option Addr) (c0 : Nat) (l0 : List Int) (A1 : Option Addr) (c1 : Nat) (l1 : List Int) (a2 : Int) (r1 : List Int) (r2 : Int) (w : World) (hr0 : Kd.C (Kd.int .i64) w A0 l0.length l0) (hc0 : l0.length ≤ c0) (hr1 : Kd.C (Kd.int .i64) w A1 l1.length l1) (hc1 : l1.length ≤ c1) (h : cnf_Resolve.f l0 l1 a2 = some (r1, r2)) :
    Calls Tryz.prog 36 #[.slice A0 l0.length c0, .slice A1 l1.length c1, .int .i64 a2] w fun e w' => ∃ v0_ : Value, e = .returned (.tuple #[v0_, .int .i64 r2]) ∧ Kd.R (Kd.int .i64) 3 w' w.heap.size (fun _ => True) v0_ r1 ∧ Below w.heap.size w w' := by
  unfold cnf_Resolve.f at h
  by_cases hlt : l0.length + l1.length < 17592186044416
  case neg => rw [if_neg hlt] at h; cases h
  rw [if_pos hlt] at h
  injection h with h
  have H0 := Aside0.mk hr0
  have H1 := Aside0.mk hr1
  clear hr0 hr1
  unfold resolveV at h
  by_cases hb1 : a2 < 1
  · rw [if_pos (.inl hb1)] at h
    injection h with h h2
    subst h h2
    have d1 : decide (a2 < 1) = true := decide_eq_true hb1
    go_enter Tryz.func36, Tryz.ntmps36
    go_wp2
    go_ret2
    exact ⟨_, rfl, RI.nil _ _, by first | exact Below.refl _ _ | exact pw_below_drewN (Below.refl _ _) _⟩
  · have d1 : decide (a2 < 1) = false := decide_eq_false hb1
    by_cases hb2 : 65536 < a2
    · rw [if_pos (.inr hb2)] at h
      injection h with h h2
      subst h h2
      have d2 : decide (a2 > 65536) = true := decide_eq_true hb2
      go_enter Tryz.func36, Tryz.ntmps36
      go_wp2
      go_ret2
      exact ⟨_, rfl, RI.nil _ _, by first | exact Below.refl _ _ | exact pw_below_drewN (Below.refl _ _) _⟩
    · have d2 : decide (a2 > 65536) = false := decide_eq_false hb2
      rw [if_neg (by omega)] at h
      have hw1 : IntKind.i64.wrap (-a2) = -a2 := IntWalk.i64_in _ (by omega)
      have hw2 : IntKind.i64.wrap a2 = a2 := IntWalk.i64_in _ (by omega)
      have hl0 : l0.length < 17592186044416 := by omega
      have hl1 : l1.length < 17592186044416 := by omega
      have HL := Aside0.mk hlt
      have CT := fun A c l x W h1 h2 h3 => Aside0.mk (Contains_int A c l x W h1 h2 h3)
      have WO := fun A c l x W h1 h2 h3 => Aside0.mk (without85 A c l x W h1 h2 h3)
      have CC := fun g A1 A2 c1 c2 l1 l2 W h1 h2 h3 h4 h5 => Aside0.mk (Concat2 g A1 A2 c1 c2 l1 l2 W h1 h2 h3 h4 h5)
      by_cases hpq : l0.contains a2 = true ∧ l1.contains (-a2) = true
      · obtain ⟨hp, hq⟩ := hpq
        rw [if_pos ⟨hp, hq⟩] at h
        injection h with h h2
        subst h h2
        go_enter Tryz.func36, Tryz.ntmps36
        go_wp2
        refine wp_loop_rounds 3 ?_
        rw [rounds_succ]
        go_wp2_with (go_at_call 84; refine ((CT _ _ _ _ _ (by omega) (by repeat (first | (with_reducible exact H0.out) | (with_reducible exact H1.out) | (with_reducible exact HCa.out) | (with_reducible exact HCb.out) | (with_reducible refine Kd.C_drewN ?_ _) | (with_reducible refine Kd.C_alloc ?_ _))) (by omega)).out).mono ?_; rintro e w' ⟨rfl, q, rfl⟩; first | rw [hp] | rw [hq] | rw [hp2] | rw [hq2])
        go_wp2_with (go_at_call 85; refine ((WO _ _ _ _ _ (by repeat (first | (with_reducible exact H0.out) | (with_reducible exact H1.out) | (with_reducible exact HCa.out) | (with_reducible exact HCb.out) | (with_reducible refine Kd.C_drewN ?_ _) | (with_reducible refine Kd.C_alloc ?_ _))) (by omega) (by omega)).out).mono ?_; rintro e wa ⟨va, rfl, hR, hB⟩; change RI _ _ _ (drp l0 (a2)) at hR; obtain ⟨Aa, ca, rfl⟩ := Kd.R_slice hR; have HRa := Aside0.mk (Kd.R_reads' hR).2.1; have HCa := Aside0.mk (Kd.R_reads' hR).2.2; have HBa : Aside0 (Below w.heap.size w wa) := ⟨below_call (by repeat (first | (with_reducible exact Below.refl _ _) | (with_reducible exact HBa.out) | (with_reducible exact HBb.out) | (with_reducible exact HBc.out) | (with_reducible refine pw_below_drewN ?_ _) | (with_reducible refine Below.alloc ?_ (by first | exact Nat.le_refl _ | exact HBb.out.size) _))) hB⟩; have H1 := Aside0.mk (Kd.C_below H1.out HBa.out); clear hR hB)
        go_wp2_with (go_at_call 85; refine ((WO _ _ _ _ _ (by repeat (first | (with_reducible exact H0.out) | (with_reducible exact H1.out) | (with_reducible exact HCa.out) | (with_reducible exact HCb.out) | (with_reducible refine Kd.C_drewN ?_ _) | (with_reducible refine Kd.C_alloc ?_ _))) (by omega) (by omega)).out).mono ?_; rintro e wb ⟨vb, rfl, hR, hB⟩; change RI _ _ _ (drp l1 (-a2)) at hR; obtain ⟨Ab, cb, rfl⟩ := Kd.R_slice hR; have HRb := Aside0.mk (Kd.R_reads' hR).2.1; have HCb := Aside0.mk (Kd.R_reads' hR).2.2; have HBb : Aside0 (Below w.heap.size w wb) := ⟨below_call (by repeat (first | (with_reducible exact Below.refl _ _) | (with_reducible exact HBa.out) | (with_reducible exact HBb.out) | (with_reducible exact HBc.out) | (with_reducible refine pw_below_drewN ?_ _) | (with_reducible refine Below.alloc ?_ (by first | exact Nat.le_refl _ | exact HBb.out.size) _))) hB⟩; have HCa := Aside0.mk (Kd.C_below HCa.out (below_call (Below.refl _ _) hB)); clear hR hB)
        have hln : (drp l0 (a2)).length + (drp l1 (-a2)).length < 17592186044416 := by have := List.length_filter_le (fun y => !(y == a2)) l0; have := List.length_filter_le (fun y => !(y == -a2)) l1; unfold drp; omega
        obtain ⟨M, hM⟩ : ∃ M, M = drp l0 (a2) ++ drp l1 (-a2) := ⟨_, rfl⟩
        have hml : M.length < 17592186044416 := by rw [hM, List.length_append]; exact hln
        have HLN := Aside0.mk hln
        have HM := Aside0.mk hM
        have HML := Aside0.mk hml
        clear hln hM hml
        go_wp2_with (go_at_call 87; refine ((CC wb.heap.size Aa Ab ca cb (drp l0 (a2)) (drp l1 (-a2)) _ (by unfold World.cell? World.alloc; simp) (by unfold World.cell? World.alloc; simp) (by repeat (first | (with_reducible exact H0.out) | (with_reducible exact H1.out) | (with_reducible exact HCa.out) | (with_reducible exact HCb.out) | (with_reducible refine Kd.C_drewN ?_ _) | (with_reducible refine Kd.C_alloc ?_ _))) (by repeat (first | (with_reducible exact H0.out) | (with_reducible exact H1.out) | (with_reducible exact HCa.out) | (with_reducible exact HCb.out) | (with_reducible refine Kd.C_drewN ?_ _) | (with_reducible refine Kd.C_alloc ?_ _))) HLN.out).out).mono ?_; rintro e wc ⟨vc, rfl, hR, hB⟩; rw [← HM.out] at hR; obtain ⟨Ac, cc, rfl⟩ := Kd.R_slice hR; have HRc := Aside0.mk (Kd.R_reads' hR).2.1; have HCc := Aside0.mk (Kd.R_reads' hR).2.2; have HBc : Aside0 (Below w.heap.size w wc) := ⟨below_call (by repeat (first | (with_reducible exact Below.refl _ _) | (with_reducible exact HBa.out) | (with_reducible exact HBb.out) | (with_reducible exact HBc.out) | (with_reducible refine pw_below_drewN ?_ _) | (with_reducible refine Below.alloc ?_ (by first | exact Nat.le_refl _ | exact HBb.out.size) _))) hB⟩; clear hR hB)
        have hN := cnf_Norm.calls Ac cc M _ _ wc HCc.out HRc.out (norm_f HML.out)
        have HN := Aside0.mk hN
        clear hN
        go_wp2_with (go_at_call 23; refine (HN.out).mono ?_; rintro e wd ⟨vd, rfl, hR, hB⟩; have HRd := Aside0.mk (Kd.R_lower hR HBc.out.size); have HBd : Aside0 (Below w.heap.size w wd) := ⟨below_call HBc.out hB⟩; clear hR hB)
        go_ret2
        have hfin := HRd.out
        rw [HM.out] at hfin
        exact ⟨_, rfl, hfin, HBd.out⟩
      · rw [if_neg hpq] at h
        by_cases hpq2 : l0.contains (-a2) = true ∧ l1.contains a2 = true
        · obtain ⟨hp2, hq2⟩ := hpq2
          rw [if_pos ⟨hp2, hq2⟩] at h
          injection h with h h2
          subst h h2
          by_cases hp : l0.contains a2 = true
          · have hq : l1.contains (-a2) = false := by
              cases hq : l1.contains (-a2) with
              | false => rfl
              | true => exact absurd ⟨hp, hq⟩ hpq
            clear hpq
            go_enter Tryz.func36, Tryz.ntmps36
            go_wp2
            refine wp_loop_rounds 3 ?_
            rw [rounds_succ]
            go_wp2_with (go_at_call 84; refine ((CT _ _ _ _ _ (by omega) (by repeat (first | (with_reducible exact H0.out) | (with_reducible exact H1.out) | (with_reducible exact HCa.out) | (with_reducible exact HCb.out) | (with_reducible refine Kd.C_drewN ?_ _) | (with_reducible refine Kd.C_alloc ?_ _))) (by omega)).out).mono ?_; rintro e w' ⟨rfl, q, rfl⟩; first | rw [hp] | rw [hq] | rw [hp2] | rw [hq2])
            rw [rounds_succ]
            go_wp2_with (go_at_call 84; refine ((CT _ _ _ _ _ (by omega) (by repeat (first | (with_reducible exact H0.out) | (with_reducible exact H1.out) | (with_reducible exact HCa.out) | (with_reducible exact HCb.out) | (with_reducible refine Kd.C_drewN ?_ _) | (with_reducible refine Kd.C_alloc ?_ _))) (by omega)).out).mono ?_; rintro e w' ⟨rfl, q, rfl⟩; first | rw [hp] | rw [hq] | rw [hp2] | rw [hq2])
            go_wp2_with (go_at_call 85; refine ((WO _ _ _ _ _ (by repeat (first | (with_reducible exact H0.out) | (with_reducible exact H1.out) | (with_reducible exact HCa.out) | (with_reducible exact HCb.out) | (with_reducible refine Kd.C_drewN ?_ _) | (with_reducible refine Kd.C_alloc ?_ _))) (by omega) (by omega)).out).mono ?_; rintro e wa ⟨va, rfl, hR, hB⟩; change RI _ _ _ (drp l0 (-a2)) at hR; obtain ⟨Aa, ca, rfl⟩ := Kd.R_slice hR; have HRa := Aside0.mk (Kd.R_reads' hR).2.1; have HCa := Aside0.mk (Kd.R_reads' hR).2.2; have HBa : Aside0 (Below w.heap.size w wa) := ⟨below_call (by repeat (first | (with_reducible exact Below.refl _ _) | (with_reducible exact HBa.out) | (with_reducible exact HBb.out) | (with_reducible exact HBc.out) | (with_reducible refine pw_below_drewN ?_ _) | (with_reducible refine Below.alloc ?_ (by first | exact Nat.le_refl _ | exact HBb.out.size) _))) hB⟩; have H1 := Aside0.mk (Kd.C_below H1.out HBa.out); clear hR hB)
            go_wp2_with (go_at_call 85; refine ((WO _ _ _ _ _ (by repeat (first | (with_reducible exact H0.out) | (with_reducible exact H1.out) | (with_reducible exact HCa.out) | (with_reducible exact HCb.out) | (with_reducible refine Kd.C_drewN ?_ _) | (with_reducible refine Kd.C_alloc ?_ _))) (by omega) (by omega)).out).mono ?_; rintro e wb ⟨vb, rfl, hR, hB⟩; change RI _ _ _ (drp l1 (a2)) at hR; obtain ⟨Ab, cb, rfl⟩ := Kd.R_slice hR; have HRb := Aside0.mk (Kd.R_reads' hR).2.1; have HCb := Aside0.mk (Kd.R_reads' hR).2.2; have HBb : Aside0 (Below w.heap.size w wb) := ⟨below_call (by repeat (first | (with_reducible exact Below.refl _ _) | (with_reducible exact HBa.out) | (with_reducible exact HBb.out) | (with_reducible exact HBc.out) | (with_reducible refine pw_below_drewN ?_ _) | (with_reducible refine Below.alloc ?_ (by first | exact Nat.le_refl _ | exact HBb.out.size) _))) hB⟩; have HCa := Aside0.mk (Kd.C_below HCa.out (below_call (Below.refl _ _) hB)); clear hR hB)
            have hln : (drp l0 (-a2)).length + (drp l1 (a2)).length < 17592186044416 := by have := List.length_filter_le (fun y => !(y == -a2)) l0; have := List.length_filter_le (fun y => !(y == a2)) l1; unfold drp; omega
            obtain ⟨M, hM⟩ : ∃ M, M = drp l0 (-a2) ++ drp l1 (a2) := ⟨_, rfl⟩
            have hml : M.length < 17592186044416 := by rw [hM, List.length_append]; exact hln
            have HLN := Aside0.mk hln
            have HM := Aside0.mk hM
            have HML := Aside0.mk hml
            clear hln hM hml
            go_wp2_with (go_at_call 87; refine ((CC wb.heap.size Aa Ab ca cb (drp l0 (-a2)) (drp l1 (a2)) _ (by unfold World.cell? World.alloc; simp) (by unfold World.cell? World.alloc; simp) (by repeat (first | (with_reducible exact H0.out) | (with_reducible exact H1.out) | (with_reducible exact HCa.out) | (with_reducible exact HCb.out) | (with_reducible refine Kd.C_drewN ?_ _) | (with_reducible refine Kd.C_alloc ?_ _))) (by repeat (first | (with_reducible exact H0.out) | (with_reducible exact H1.out) | (with_reducible exact HCa.out) | (with_reducible exact HCb.out) | (with_reducible refine Kd.C_drewN ?_ _) | (with_reducible refine Kd.C_alloc ?_ _))) HLN.out).out).mono ?_; rintro e wc ⟨vc, rfl, hR, hB⟩; rw [← HM.out] at hR; obtain ⟨Ac, cc, rfl⟩ := Kd.R_slice hR; have HRc := Aside0.mk (Kd.R_reads' hR).2.1; have HCc := Aside0.mk (Kd.R_reads' hR).2.2; have HBc : Aside0 (Below w.heap.size w wc) := ⟨below_call (by repeat (first | (with_reducible exact Below.refl _ _) | (with_reducible exact HBa.out) | (with_reducible exact HBb.out) | (with_reducible exact HBc.out) | (with_reducible refine pw_below_drewN ?_ _) | (with_reducible refine Below.alloc ?_ (by first | exact Nat.le_refl _ | exact HBb.out.size) _))) hB⟩; clear hR hB)
            have hN := cnf_Norm.calls Ac cc M _ _ wc HCc.out HRc.out (norm_f HML.out)
            have HN := Aside0.mk hN
            clear hN
            go_wp2_with (go_at_call 23; refine (HN.out).mono ?_; rintro e wd ⟨vd, rfl, hR, hB⟩; have HRd := Aside0.mk (Kd.R_lower hR HBc.out.size); have HBd : Aside0 (Below w.heap.size w wd) := ⟨below_call HBc.out hB⟩; clear hR hB)
            go_ret2
            have hfin := HRd.out
            rw [HM.out] at hfin
            exact ⟨_, rfl, hfin, HBd.out⟩
          · have hp := Bool.not_eq_true _ ▸ hp
            clear hpq
            go_enter Tryz.func36, Tryz.ntmps36
            go_wp2
            refine wp_loop_rounds 3 ?_
            rw [rounds_succ]
            go_wp2_with (go_at_call 84; refine ((CT _ _ _ _ _ (by omega) (by repeat (first | (with_reducible exact H0.out) | (with_reducible exact H1.out) | (with_reducible exact HCa.out) | (with_reducible exact HCb.out) | (with_reducible refine Kd.C_drewN ?_ _) | (with_reducible refine Kd.C_alloc ?_ _))) (by omega)).out).mono ?_; rintro e w' ⟨rfl, q, rfl⟩; first | rw [hp] | rw [hq] | rw [hp2] | rw [hq2])
            rw [rounds_succ]
            go_wp2_with (go_at_call 84; refine ((CT _ _ _ _ _ (by omega) (by repeat (first | (with_reducible exact H0.out) | (with_reducible exact H1.out) | (with_reducible exact HCa.out) | (with_reducible exact HCb.out) | (with_reducible refine Kd.C_drewN ?_ _) | (with_reducible refine Kd.C_alloc ?_ _))) (by omega)).out).mono ?_; rintro e w' ⟨rfl, q, rfl⟩; first | rw [hp] | rw [hq] | rw [hp2] | rw [hq2])
            go_wp2_with (go_at_call 85; refine ((WO _ _ _ _ _ (by repeat (first | (with_reducible exact H0.out) | (with_reducible exact H1.out) | (with_reducible exact HCa.out) | (with_reducible exact HCb.out) | (with_reducible refine Kd.C_drewN ?_ _) | (with_reducible refine Kd.C_alloc ?_ _))) (by omega) (by omega)).out).mono ?_; rintro e wa ⟨va, rfl, hR, hB⟩; change RI _ _ _ (drp l0 (-a2)) at hR; obtain ⟨Aa, ca, rfl⟩ := Kd.R_slice hR; have HRa := Aside0.mk (Kd.R_reads' hR).2.1; have HCa := Aside0.mk (Kd.R_reads' hR).2.2; have HBa : Aside0 (Below w.heap.size w wa) := ⟨below_call (by repeat (first | (with_reducible exact Below.refl _ _) | (with_reducible exact HBa.out) | (with_reducible exact HBb.out) | (with_reducible exact HBc.out) | (with_reducible refine pw_below_drewN ?_ _) | (with_reducible refine Below.alloc ?_ (by first | exact Nat.le_refl _ | exact HBb.out.size) _))) hB⟩; have H1 := Aside0.mk (Kd.C_below H1.out HBa.out); clear hR hB)
            go_wp2_with (go_at_call 85; refine ((WO _ _ _ _ _ (by repeat (first | (with_reducible exact H0.out) | (with_reducible exact H1.out) | (with_reducible exact HCa.out) | (with_reducible exact HCb.out) | (with_reducible refine Kd.C_drewN ?_ _) | (with_reducible refine Kd.C_alloc ?_ _))) (by omega) (by omega)).out).mono ?_; rintro e wb ⟨vb, rfl, hR, hB⟩; change RI _ _ _ (drp l1 (a2)) at hR; obtain ⟨Ab, cb, rfl⟩ := Kd.R_slice hR; have HRb := Aside0.mk (Kd.R_reads' hR).2.1; have HCb := Aside0.mk (Kd.R_reads' hR).2.2; have HBb : Aside0 (Below w.heap.size w wb) := ⟨below_call (by repeat (first | (with_reducible exact Below.refl _ _) | (with_reducible exact HBa.out) | (with_reducible exact HBb.out) | (with_reducible exact HBc.out) | (with_reducible refine pw_below_drewN ?_ _) | (with_reducible refine Below.alloc ?_ (by first | exact Nat.le_refl _ | exact HBb.out.size) _))) hB⟩; have HCa := Aside0.mk (Kd.C_below HCa.out (below_call (Below.refl _ _) hB)); clear hR hB)
            have hln : (drp l0 (-a2)).length + (drp l1 (a2)).length < 17592186044416 := by have := List.length_filter_le (fun y => !(y == -a2)) l0; have := List.length_filter_le (fun y => !(y == a2)) l1; unfold drp; omega
            obtain ⟨M, hM⟩ : ∃ M, M = drp l0 (-a2) ++ drp l1 (a2) := ⟨_, rfl⟩
            have hml : M.length < 17592186044416 := by rw [hM, List.length_append]; exact hln
            have HLN := Aside0.mk hln
            have HM := Aside0.mk hM
            have HML := Aside0.mk hml
            clear hln hM hml
            go_wp2_with (go_at_call 87; refine ((CC wb.heap.size Aa Ab ca cb (drp l0 (-a2)) (drp l1 (a2)) _ (by unfold World.cell? World.alloc; simp) (by unfold World.cell? World.alloc; simp) (by repeat (first | (with_reducible exact H0.out) | (with_reducible exact H1.out) | (with_reducible exact HCa.out) | (with_reducible exact HCb.out) | (with_reducible refine Kd.C_drewN ?_ _) | (with_reducible refine Kd.C_alloc ?_ _))) (by repeat (first | (with_reducible exact H0.out) | (with_reducible exact H1.out) | (with_reducible exact HCa.out) | (with_reducible exact HCb.out) | (with_reducible refine Kd.C_drewN ?_ _) | (with_reducible refine Kd.C_alloc ?_ _))) HLN.out).out).mono ?_; rintro e wc ⟨vc, rfl, hR, hB⟩; rw [← HM.out] at hR; obtain ⟨Ac, cc, rfl⟩ := Kd.R_slice hR; have HRc := Aside0.mk (Kd.R_reads' hR).2.1; have HCc := Aside0.mk (Kd.R_reads' hR).2.2; have HBc : Aside0 (Below w.heap.size w wc) := ⟨below_call (by repeat (first | (with_reducible exact Below.refl _ _) | (with_reducible exact HBa.out) | (with_reducible exact HBb.out) | (with_reducible exact HBc.out) | (with_reducible refine pw_below_drewN ?_ _) | (with_reducible refine Below.alloc ?_ (by first | exact Nat.le_refl _ | exact HBb.out.size) _))) hB⟩; clear hR hB)
            have hN := cnf_Norm.calls Ac cc M _ _ wc HCc.out HRc.out (norm_f HML.out)
            have HN := Aside0.mk hN
            clear hN
            go_wp2_with (go_at_call 23; refine (HN.out).mono ?_; rintro e wd ⟨vd, rfl, hR, hB⟩; have HRd := Aside0.mk (Kd.R_lower hR HBc.out.size); have HBd : Aside0 (Below w.heap.size w wd) := ⟨below_call HBc.out hB⟩; clear hR hB)
            go_ret2
            have hfin := HRd.out
            rw [HM.out] at hfin
            exact ⟨_, rfl, hfin, HBd.out⟩
        · rw [if_neg hpq2] at h
          injection h with h h2
          subst h h2
          have key : ∃ b1 b2 b3 b4, l0.contains a2 = b1 ∧ l1.contains (-a2) = b2 ∧ l0.contains (-a2) = b3 ∧ l1.contains a2 = b4 ∧ (b1 && b2) = false ∧ (b3 && b4) = false := by
            refine ⟨_, _, _, _, rfl, rfl, rfl, rfl, ?_, ?_⟩
            · cases h1 : l0.contains a2 <;> cases h2 : l1.contains (-a2) <;> simp_all
            · cases h1 : l0.contains (-a2) <;> cases h2 : l1.contains a2 <;> simp_all
          obtain ⟨b1, b2, b3, b4, hp, hq, hp2, hq2, h12, h34⟩ := key
          clear hpq hpq2
          cases b1 <;> cases b2 <;> cases b3 <;> cases b4 <;> first
            | exact absurd h12 (by decide)
            | exact absurd h34 (by decide)
            | (go_enter Tryz.func36, Tryz.ntmps36
               go_wp2
               refine wp_loop_rounds 3 ?_
               rw [rounds_succ]
               go_wp2_with (go_at_call 84; refine ((CT _ _ _ _ _ (by omega) (by repeat (first | (with_reducible exact H0.out) | (with_reducible exact H1.out) | (with_reducible exact HCa.out) | (with_reducible exact HCb.out) | (with_reducible refine Kd.C_drewN ?_ _) | (with_reducible refine Kd.C_alloc ?_ _))) (by omega)).out).mono ?_; rintro e w' ⟨rfl, q, rfl⟩; first | rw [hp] | rw [hq] | rw [hp2] | rw [hq2])
               rw [rounds_succ]
               go_wp2_with (go_at_call 84; refine ((CT _ _ _ _ _ (by omega) (by repeat (first | (with_reducible exact H0.out) | (with_reducible exact H1.out) | (with_reducible exact HCa.out) | (with_reducible exact HCb.out) | (with_reducible refine Kd.C_drewN ?_ _) | (with_reducible refine Kd.C_alloc ?_ _))) (by omega)).out).mono ?_; rintro e w' ⟨rfl, q, rfl⟩; first | rw [hp] | rw [hq] | rw [hp2] | rw [hq2])
               rw [rounds_succ]
               go_wp2
               go_ret2
               exact ⟨_, rfl, RI.nil _ _, (by repeat (first | (with_reducible exact Below.refl _ _) | (with_reducible exact HBa.out) | (with_reducible exact HBb.out) | (with_reducible exact HBc.out) | (with_reducible refine pw_below_drewN ?_ _) | (with_reducible refine Below.alloc ?_ (by first | exact Nat.le_refl _ | exact HBb.out.size) _)))⟩)
end Go.Proofs.YtcdhhaedgohlgaaGreatDoor.P
end
