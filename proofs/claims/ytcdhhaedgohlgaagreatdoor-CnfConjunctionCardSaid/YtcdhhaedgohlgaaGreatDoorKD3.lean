/- What the law CnfResolveSpec rests on, part 3: contracts of the functions that it reaches, and plain lemmas. No condition of its own. -/
import Derived.Test.YtcdhhaedgohlgaaGreatDoorKD2
import Derived.Maps.AppendAt
import Derived.OwnWalkIn
import Derived.BigRegionIn
set_option linter.unusedVariables false
set_option linter.unusedSimpArgs false
section
namespace Go.Proofs.YtcdhhaedgohlgaaGreatDoor.P
open Go.RowKit Go.Shelf Go.Proofs.YtcdhhaedgohlgaaGreatDoorW.PrintWords Go.Proofs.YtcdhhaedgohlgaaGreatDoorW.PrintLast Go.Proofs.YtcdhhaedgohlgaaGreatDoorW.PrintMore
set_option linter.unusedVariables false
set_option linter.unusedSimpArgs false
set_option maxRecDepth 100000

theorem GetL.start {m0 D G g : Nat} {N0 : Int} {l : List Int} {W6 : World} {A1 : Option Addr} {n1 c1 : Nat} {vo : Value} (hg : m0 + 5 ≤ g ∧ g < G) (hC : W6.heap[G]? = some (.cells #[.int .i64 N0, .slice none 0 0] 24 (0, 0)))
    (hV : Boxed W6 (m0 + 2) 25 vo) (hn1 : n1 = l.length - 2) (hl2 : 2 ≤ l.length) (hc1 : n1 ≤ c1) (hA : A1 = some ⟨g, 2, none⟩ ∨ n1 = 0) :
    GetL m0 D G g N0 l W6 2 A1 c1 [] (.slice none 0 0) (W6.setCell ⟨m0 + 1 + 1, 0, none⟩ (.slice A1 n1 c1)) := by
  have hlen : (l.drop 2).length = n1 := by rw [List.length_drop, hn1]
  refine ⟨rfl, rfl, rfl, by rw [size_set]; exact Nat.le_refl _, fun k hk hne => heap_set_other _ hne, ?_, by rw [hlen]; exact hc1, ?_, ?_, Kd.S_nil _ _ _ _ _, ⟨by simp, hl2⟩, l.length, by omega, ?_⟩
  · rcases hA with h | h
    · exact .inl h
    · exact .inr (List.eq_nil_of_length_eq_zero (by omega))
  · rw [hlen]; exact hV.set _
  · rw [heap_set_other _ (by omega)]; exact hC
  · cases clausesOf l.length (l.drop 2) <;> rfl

theorem GetL.out {m0 D G g : Nat} {N0 : Int} {l : List Int} {W6 : World} {m : Nat} {A2 : Option Addr} {c2 : Nat} {Lacc : List (List Int)} {vL : Value} {wr w1 : World} {w0 : World} (h : GetL m0 D G g N0 l W6 m A2 c2 Lacc vL wr)
    (hm : m0 = w0.heap.size) (hK : W6.heap[D]? = some (.deferred (some []))) (hB : Below w0.heap.size w0 W6) (hg : m0 + 5 ≤ g ∧ g < G) (hD : m0 + 5 ≤ D ∧ D < G) (hc : W6.heap[m0]? = some (.cells #[.int .i64 0, .slice none 0 0] 24 (0, 0))) (he : Boxed W6 (m0 + 1) 32 (.int .i64 0)) (hb : Below wr.heap.size wr w1) :
    w1.heap[D]? = some (.deferred (some [])) ∧ Below w0.heap.size w0 w1 ∧ w1.heap[w0.heap.size]? = some (.cells #[.int .i64 0, .slice none 0 0] 24 (0, 0)) ∧ Boxed w1 (w0.heap.size + 1) 32 (.int .i64 0) := by
  subst hm
  have hs := h.size
  have hlt : ∀ {k : Nat} {o : Obj}, W6.heap[k]? = some o → k < W6.heap.size := fun hk => (Array.getElem?_eq_some_iff.1 hk).1
  have old : ∀ k, k < G → k ≠ w0.heap.size + 2 → k < W6.heap.size → w1.heap[k]? = W6.heap[k]? := fun k hk hne hl => (hb.block k (by omega)).trans (h.old k hk hne)
  refine ⟨(old D hD.2 (by omega) (hlt hK)).trans hK, ⟨hb.os.trans (h.os.trans hB.os), hb.tape.trans (h.tape.trans hB.tape), hb.output.trans (h.output.trans hB.output), Nat.le_trans hB.size (Nat.le_trans hs hb.size), fun k hk => (old k (by omega) (by omega) (by have := hB.size; omega)).trans (hB.block k hk)⟩, (old _ (by omega) (by omega) (hlt hc)).trans hc, (old _ (by omega) (by omega) (hlt he)).trans he⟩

theorem GetL.zero {n : Nat} {tmps : Array Value} {D G g : Nat} {N0 : Int} {l : List Int} {W6 : World} {m : Nat} {A2 : Option Addr} {c2 : Nat} {Lacc : List (List Int)} {vL : Value} {wr w1 w0 : World} {ws : List (List UInt8)} {e : Int} (h : GetL w0.heap.size D G g N0 l W6 m A2 c2 Lacc vL wr)
    (hK : W6.heap[D]? = some (.deferred (some []))) (hB : Below w0.heap.size w0 W6) (hg : w0.heap.size + 5 ≤ g ∧ g < G) (hD : w0.heap.size + 5 ≤ D ∧ D < G) (hc : W6.heap[w0.heap.size]? = some (.cells #[.int .i64 0, .slice none 0 0] 24 (0, 0))) (he : Boxed W6 (w0.heap.size + 1) 32 (.int .i64 0)) (hb : Below wr.heap.size wr w1)
    (h2 : tmps.getD 2 undef = .pointer (some ⟨w0.heap.size, 0, none⟩)) (h3 : tmps.getD 3 undef = .pointer (some ⟨w0.heap.size + 1, 0, none⟩)) (hv : getV ws = (0, [], e)) :
    bodyPostM Fence.wide n Tryz.prog Tryz.f40 (GetPost ws w0) .ret { tmps := tmps, defers := [{ target := .collected D, args := #[] }] } (((w1.setCell ⟨w0.heap.size, 0, none⟩ (.int .i64 0)).setCell ⟨w0.heap.size, 1, none⟩ (.slice none 0 0)).setCell ⟨w0.heap.size + 1, 0, none⟩ (.int .i64 e)) := by
  obtain ⟨q1, q2, q3, q4⟩ := h.out rfl hK hB hg hD hc he hb
  exact GetI.zero h2 h3 q1 hD.1 q2 q3 q4 e hv

theorem GetL.fine {n : Nat} {tmps : Array Value} {D G g : Nat} {N0 : Int} {l : List Int} {W6 : World} {m : Nat} {A2 : Option Addr} {c2 : Nat} {Lacc : List (List Int)} {vL : Value} {wr w1 w0 : World} {ws : List (List UInt8)} (h : GetL w0.heap.size D G g N0 l W6 m A2 c2 Lacc vL wr)
    (hK : W6.heap[D]? = some (.deferred (some []))) (hB : Below w0.heap.size w0 W6) (hg : w0.heap.size + 5 ≤ g ∧ g < G) (hD : w0.heap.size + 5 ≤ D ∧ D < G) (hc : W6.heap[w0.heap.size]? = some (.cells #[.int .i64 0, .slice none 0 0] 24 (0, 0))) (he : Boxed W6 (w0.heap.size + 1) 32 (.int .i64 0)) (hb : Below wr.heap.size wr w1)
    (h2 : tmps.getD 2 undef = .pointer (some ⟨w0.heap.size, 0, none⟩)) (h3 : tmps.getD 3 undef = .pointer (some ⟨w0.heap.size + 1, 0, none⟩)) (hv : getV ws = (N0, Lacc, 0)) :
    bodyPostM Fence.wide n Tryz.prog Tryz.f40 (GetPost ws w0) .ret { tmps := tmps, defers := [{ target := .collected D, args := #[] }] } (((w1.setCell ⟨w0.heap.size, 0, none⟩ (.int .i64 N0)).setCell ⟨w0.heap.size, 1, none⟩ vL).setCell ⟨w0.heap.size + 1, 0, none⟩ (.int .i64 0)) := by
  obtain ⟨q1, q2, q3, q4⟩ := h.out rfl hK hB hg hD hc he hb
  have hc2 := heap_set_same (heap_set_same q3 0 (.int .i64 N0)) 1 vL
  refine fin40 (v := vL) h2 h3 ?_ (by omega) ?_ ?_ ?_ ?_
  · rw [heap_set_other _ (by omega), heap_set_other _ (by omega), heap_set_other _ (by omega)]; exact q1
  · rw [hv, heap_set_other _ (by omega)]; exact hc2
  · rw [hv]
    have he2 : Boxed ((w1.setCell ⟨w0.heap.size, 0, none⟩ (.int .i64 N0)).setCell ⟨w0.heap.size, 1, none⟩ vL) (w0.heap.size + 1) 32 (.int .i64 0) := (heap_set_other _ (by omega)).trans ((heap_set_other _ (by omega)).trans q4)
    exact he2.set _
  · rw [hv]
    have hs := h.size
    have ha := Kd.S_bound (Kd.S_below h.acc hb)
    refine Kd.S_lower (Kd.S_mono (Kd.S_step ha (fun k hk hlt => ?_)) (fun _ _ => trivial)) (by omega)
    have hk1 := hk.2.1
    exact (World.putObj_heap_other (by omega)).trans ((heap_set_other _ (by omega)).trans ((heap_set_other _ (by omega)).trans (heap_set_other _ (by omega))))
  · exact below_set_from (below_set_from (below_set_from q2 _ (Nat.le_refl _)) _ (Nat.le_refl _)) _ (by omega)
end Go.Proofs.YtcdhhaedgohlgaaGreatDoor.P
end

section
namespace Go.Proofs.YtcdhhaedgohlgaaGreatDoor.P
open Go.RowKit Go.Shelf Go.Proofs.YtcdhhaedgohlgaaGreatDoorW.PrintWords Go.Proofs.YtcdhhaedgohlgaaGreatDoorW.PrintLast Go.Proofs.YtcdhhaedgohlgaaGreatDoorW.PrintMore
set_option linter.unusedVariables false
set_option linter.unusedSimpArgs false
set_option maxRecDepth 100000
attribute [local go_sem] Oper.semAt_some

set_option maxHeartbeats 4000000 in
theorem get_walk (A : Option Addr) (bs : List UInt8) (cap : Nat) (w0 : World) (hL : Laid w0) (hC : CB w0 A bs) (hcap : bs.length ≤ cap) (hlen : bs.length ≤ 4194304) (n : Nat) (hn : 12 ≤ n) :
    CallsIn Fence.wide n Tryz.prog 40 #[.slice A bs.length cap] w0 (GetPost ((wordsV A cap bs).map (·.2)) w0) := by
  have HC := Aside0.mk hC
  have HL := Aside0.mk hL
  clear hC hL
  have hgt : ¬ (4194304 : Int) < (bs.length : Int) := by omega
  have hro : Fence.wide.round = none := rfl
  have h1 : 1 ≤ n := by omega
  refine callsIn_of_wp_marks Tryz.func40 rfl trivial ?_ hro
  simp only [Tryz.ntmps40, List.size_toArray, List.length_cons, List.length_nil, Nat.reduceAdd, Nat.reduceSub, Array.replicate_succ, Array.replicate_zero, List.push_toArray, List.append_toArray, List.nil_append, List.cons_append]
  gi_wp2_with (refine ⟨trivial, ?_⟩; gi_at_call 94; refine (callsIn_wide.2 (words94 _ _ _ _)).mono ?_; rintro e w1 ⟨rfl, rfl⟩)
  obtain ⟨W5, hW5⟩ : ∃ W5, W5 = (((((w0.alloc (.cells #[.int .i64 0, .slice none 0 0] 24)).alloc (.cells #[.int .i64 0] 32)).alloc (.cells #[.slice none 0 0] 25)).alloc (.cells #[.int .i64 0] 3)).alloc (.cells #[.slice A bs.length cap] 41)) := ⟨_, rfl⟩
  rw [← hW5]
  have hs5 : W5.heap.size = w0.heap.size + 5 := by rw [hW5]; simp
  have hB5 : Below w0.heap.size w0 W5 := by
    rw [hW5]
    exact ((((((Below.refl _ _).alloc (Nat.le_refl _) _).alloc (by simp) _).alloc (by simp; omega) _).alloc (by simp; omega) _).alloc (by simp; omega) _)
  have at5 : ∀ (o1 o2 o3 o4 o5 : Obj), let W := ((((w0.alloc o1).alloc o2).alloc o3).alloc o4).alloc o5; W.heap[w0.heap.size]? = some o1 ∧ W.heap[w0.heap.size + 1]? = some o2 ∧ W.heap[w0.heap.size + 2]? = some o3 ∧ W.heap[w0.heap.size + 3]? = some o4 ∧ W.heap[w0.heap.size + 4]? = some o5 := by
    intro o1 o2 o3 o4 o5
    have key : ∀ (h : Array Obj), ((((((h.push o1).push o2).push o3).push o4).push o5))[h.size]? = some o1 ∧ ((((((h.push o1).push o2).push o3).push o4).push o5))[h.size + 1]? = some o2 ∧ ((((((h.push o1).push o2).push o3).push o4).push o5))[h.size + 2]? = some o3 ∧ ((((((h.push o1).push o2).push o3).push o4).push o5))[h.size + 3]? = some o4 ∧ ((((((h.push o1).push o2).push o3).push o4).push o5))[h.size + 4]? = some o5 := by
      intro h
      refine ⟨?_, ?_, ?_, ?_, ?_⟩ <;> (simp only [Array.getElem?_push, Array.size_push]; repeat (first | rfl | rw [if_pos (by omega)] | rw [if_neg (by omega)]))
    exact key w0.heap
  have hb := at5 (.cells #[.int .i64 0, .slice none 0 0] 24) (.cells #[.int .i64 0] 32) (.cells #[.slice none 0 0] 25) (.cells #[.int .i64 0] 3) (.cells #[.slice A bs.length cap] 41)
  dsimp only at hb
  rw [← hW5] at hb
  obtain ⟨hb0, hb1, hb2, hb3, hb4⟩ := hb
  clear at5
  obtain ⟨ws, hws⟩ : ∃ ws, ws = (wordsV A cap bs).map (·.2) := ⟨_, rfl⟩
  have HSP := Aside0.mk (wordsV_spec (cap := cap) HC.out hcap)
  have HWS : Aside0 (∀ (i : Nat) (x : Value × List UInt8), (wordsV A cap bs)[i]? = some x → ws[i]? = some x.2) := ⟨fun i x h => by rw [hws, List.getElem?_map, h]; rfl⟩
  have hwl : ws.length = (wordsV A cap bs).length := by rw [hws, List.length_map]
  have HWSS := Aside0.mk hws
  clear hws
  have hI0 : GetI w0 ws (fun k => k = w0.heap.size + 4) 0 W5 := ⟨hB5, fun k hk => by omega, hb0, hb1, hb3, fun j u hj => absurd hj (Nat.not_lt_zero _), fun k hk => by omega, by omega, .slice none 0 0, hb2, ⟨rfl, .inl ⟨rfl, rfl⟩⟩, fun k e => by cases e⟩
  refine wpIn_rangeX (I := GetI w0 ws) (Ix := fun c X _ W => c = .ret ∧ GetX w0 ws X W)
    (Ax := fun i a' X W' => ∃ x, (wordsV A cap bs)[i]? = some x ∧ a' = { tmps := #[.slice A bs.length cap, undef, .pointer (some ⟨w0.heap.size, 0, none⟩), .pointer (some ⟨w0.heap.size + 1, 0, none⟩), .pointer (some ⟨w0.heap.size + 1 + 1, 0, none⟩), .pointer (some ⟨w0.heap.size + 1 + 1 + 1, 0, none⟩), x.1, undef, undef, undef, undef, undef, undef, .slice A bs.length cap, .int .i64 bs.length, .bool false, undef, .slice A bs.length cap, .func (.func 132) #[] #[.pointer (some ⟨w0.heap.size + 1 + 1 + 1 + 1, 0, none⟩)], x.1, undef, undef, undef, undef, undef, undef, undef, undef, undef, undef, undef, undef, undef, undef, undef, undef, undef, undef, undef, undef, undef, undef, undef, undef, undef, undef, undef, undef, undef, undef, undef, undef, undef, undef, undef, undef, undef, undef, undef, undef, undef, undef, undef, undef, undef, undef, undef, undef, undef, undef, undef, undef, undef, undef, undef, undef, undef, undef, undef, undef, undef, undef, undef, undef, undef, undef, undef, undef, undef, undef, undef, undef, undef, undef, undef, undef, undef, undef, undef, undef, undef, undef, undef, undef, undef, undef, undef, undef, undef, undef], defers := [] })
    hro h1 rfl trivial (enters_of Tryz.func132 (by kernel_rfl) rfl) (by omega) ?hX0 (words_iter (n - 1) (by omega) w0 W5 HL.out (w0.heap.size + 1 + 1 + 1 + 1) A bs cap hB5 HC.out hcap hb4 (by omega)) (fun _ => rfl) (GetI.closed w0 ws) ?hIx hI0 ?hAx ?hassign ?hbody ?hdone ?hstop
  case hX0 => intro k hk; omega
  case hIx =>
    rintro c X i A1 A2 ⟨hc, h⟩ hst
    exact ⟨hc, GetX.closed w0 ws X i A1 A2 h hst⟩
  case hAx => exact fun i a' X A1 A2 h _ => h
  case hassign =>
    intro l1 X i x Wr K hx hi hK
    gi_wp2
    exact hK _ _ (KeepX.refl _ _ _) hi ⟨x, hx, rfl⟩
  case hbody =>
    rintro l1 X i x a' W hx hl1 hXl ⟨r, hr⟩ hI ⟨x', hx', rfl⟩
    obtain rfl : x' = x := by rw [hx] at hx'; injection hx' with h; exact h.symm
    clear hx'
    obtain ⟨v, u⟩ := x'
    obtain ⟨A', hv, hCu, hpos⟩ := HSP.out (v, u) (List.mem_of_getElem? hx)
    have hwi : ws[i]? = some u := HWS.out i _ hx
    replace hv : v = .slice A' u.length u.length := hv
    replace hCu : CB w0 A' u := hCu
    replace hpos : 0 < u.length := hpos
    subst hv
    have HNUM := Aside0.mk (number95 A' u u.length W (Nat.le_refl _) (hCu.below hI.below))
    have HI := Aside0.mk hI
    have HCU := Aside0.mk hCu
    have HWI := Aside0.mk hwi
    have HP := Aside0.mk hpos
    have h1' : 1 ≤ n - 1 - 1 := by omega
    have h1'' : 1 ≤ n - 1 - 1 - 1 := by omega
    have HOK : Aside0 (okAt i u = if i = 0 then u == [112] else if i = 1 then u == [99, 110, 102] else if i < 4 then (numV u).2 && decide (0 ≤ (numV u).1) else (numV u).2) := ⟨rfl⟩
    obtain ⟨nv, hnv⟩ : ∃ nv, nv = numV u := ⟨_, rfl⟩
    have HNV := Aside0.mk hnv
    rw [← hnv] at HNUM HOK
    clear hI hCu hwi hpos hr hnv hx
    obtain ⟨n1, n2⟩ := nv
    obtain ⟨i0, hi0', hz0, hz1, hz2⟩ := infoI3
    have HKL : Aside0 ((numsV (ws.take i)).length ≤ 4194304) := ⟨by
      have h1 := wordsV_len A cap bs
      have h2 : (numsV (ws.take i)).length ≤ ws.length := by unfold numsV; rw [List.length_map, List.length_drop, List.length_take]; omega
      omega⟩
    by_cases hi0 : i = 0
    · subst hi0
      cases hq : u == [112] with
      | true =>
        gi_wp2_with (refine ⟨trivial, ?_⟩; gi_at_call 95; refine (CallsIn.inRound l1 (callsIn_wide.2 HNUM.out)).mono ?_; rintro e w1 ⟨rfl, hb⟩; have HI1 := Aside0.mk (GetI.closed w0 ws _ _ _ _ HI.out (below_step_X hb)); have hc0 := HI1.out.cell0; have hc1 := HI1.out.cell1; have hf0 := HI1.out.froz0; have hf1 := HI1.out.froz1; have he := HI1.out.e.cell; have hef := HI1.out.e.frozen; have hatc : w1.cell? ⟨w0.heap.size + 1 + 1 + 1, 0, none⟩ = some (.int .i64 0) := HI1.out.at_.cell; have hatf : w1.frozen? ⟨w0.heap.size + 1 + 1 + 1, 0, none⟩ = false := HI1.out.at_.frozen; have hcv := conv_CB u.length (HCU.out.below HI1.out.below) HP.out; have HB1 := Aside0.mk hb; clear hb)
        exact GetI.next HI1.out (fun k hk => .inl hk) (keepX_below HB1.out) HWI.out (by unfold okAt; rw [if_pos rfl]; exact hq) (by omega)
      | false =>
        gi_wp2_with (refine ⟨trivial, ?_⟩; gi_at_call 95; refine (CallsIn.inRound l1 (callsIn_wide.2 HNUM.out)).mono ?_; rintro e w1 ⟨rfl, hb⟩; have HI1 := Aside0.mk (GetI.closed w0 ws _ _ _ _ HI.out (below_step_X hb)); have hc0 := HI1.out.cell0; have hc1 := HI1.out.cell1; have hf0 := HI1.out.froz0; have hf1 := HI1.out.froz1; have he := HI1.out.e.cell; have hef := HI1.out.e.frozen; have hatc : w1.cell? ⟨w0.heap.size + 1 + 1 + 1, 0, none⟩ = some (.int .i64 0) := HI1.out.at_.cell; have hatf : w1.frozen? ⟨w0.heap.size + 1 + 1 + 1, 0, none⟩ = false := HI1.out.at_.frozen; have hcv := conv_CB u.length (HCU.out.below HI1.out.below) HP.out; have HB1 := Aside0.mk hb; clear hb)
        obtain ⟨g1, g2⟩ := GetI.fail HI1.out (fun k hk => .inl hk) (keepX_below HB1.out) HWI.out (by unfold okAt; rw [if_pos rfl]; exact hq)
        exact ⟨g1, rfl, g2⟩
    · by_cases hi1 : i = 1
      · subst hi1
        cases hq : u == [99, 110, 102] with
        | true =>
          gi_wp2_with (refine ⟨trivial, ?_⟩; gi_at_call 95; refine (CallsIn.inRound l1 (callsIn_wide.2 HNUM.out)).mono ?_; rintro e w1 ⟨rfl, hb⟩; have HI1 := Aside0.mk (GetI.closed w0 ws _ _ _ _ HI.out (below_step_X hb)); have hc0 := HI1.out.cell0; have hc1 := HI1.out.cell1; have hf0 := HI1.out.froz0; have hf1 := HI1.out.froz1; have he := HI1.out.e.cell; have hef := HI1.out.e.frozen; have hatc : w1.cell? ⟨w0.heap.size + 1 + 1 + 1, 0, none⟩ = some (.int .i64 1) := HI1.out.at_.cell; have hatf : w1.frozen? ⟨w0.heap.size + 1 + 1 + 1, 0, none⟩ = false := HI1.out.at_.frozen; have hcv := conv_CB u.length (HCU.out.below HI1.out.below) HP.out; have HB1 := Aside0.mk hb; clear hb)
          exact GetI.next HI1.out (fun k hk => .inl hk) (keepX_below HB1.out) HWI.out (by unfold okAt; rw [if_neg (by omega), if_pos rfl]; exact hq) (by omega)
        | false =>
          gi_wp2_with (refine ⟨trivial, ?_⟩; gi_at_call 95; refine (CallsIn.inRound l1 (callsIn_wide.2 HNUM.out)).mono ?_; rintro e w1 ⟨rfl, hb⟩; have HI1 := Aside0.mk (GetI.closed w0 ws _ _ _ _ HI.out (below_step_X hb)); have hc0 := HI1.out.cell0; have hc1 := HI1.out.cell1; have hf0 := HI1.out.froz0; have hf1 := HI1.out.froz1; have he := HI1.out.e.cell; have hef := HI1.out.e.frozen; have hatc : w1.cell? ⟨w0.heap.size + 1 + 1 + 1, 0, none⟩ = some (.int .i64 1) := HI1.out.at_.cell; have hatf : w1.frozen? ⟨w0.heap.size + 1 + 1 + 1, 0, none⟩ = false := HI1.out.at_.frozen; have hcv := conv_CB u.length (HCU.out.below HI1.out.below) HP.out; have HB1 := Aside0.mk hb; clear hb)
          obtain ⟨g1, g2⟩ := GetI.fail HI1.out (fun k hk => .inl hk) (keepX_below HB1.out) HWI.out (by unfold okAt; rw [if_neg (by omega), if_pos rfl]; exact hq)
          exact ⟨g1, rfl, g2⟩
      · have e0 : ((i : Int) == 0) = false := beq_eq_false_iff_ne.2 (by omega)
        have e1 : ((i : Int) == 1) = false := beq_eq_false_iff_ne.2 (by omega)
        have hok : okAt i u = if i < 4 then (numV u).2 && decide (0 ≤ (numV u).1) else (numV u).2 := by unfold okAt; rw [if_neg hi0, if_neg hi1]
        rw [← HNV.out] at hok
        have hi2 : (1 : Int) < (i : Int) := by omega
        by_cases hi4 : i < 4
        · have hi4' : (i : Int) < 4 := by omega
          rw [if_pos hi4] at hok
          have HOK2 := Aside0.mk hok
          cases n2 with
          | false =>
            gi_wp2_with (refine ⟨trivial, ?_⟩; gi_at_call 95; refine (CallsIn.inRound l1 (callsIn_wide.2 HNUM.out)).mono ?_; rintro e w1 ⟨rfl, hb⟩; have HI1 := Aside0.mk (GetI.closed w0 ws _ _ _ _ HI.out (below_step_X hb)); have hc0 := HI1.out.cell0; have hc1 := HI1.out.cell1; have hf0 := HI1.out.froz0; have hf1 := HI1.out.froz1; have he := HI1.out.e.cell; have hef := HI1.out.e.frozen; have hatc : w1.cell? ⟨w0.heap.size + 1 + 1 + 1, 0, none⟩ = some (.int .i64 i) := HI1.out.at_.cell; have hatf : w1.frozen? ⟨w0.heap.size + 1 + 1 + 1, 0, none⟩ = false := HI1.out.at_.frozen; have hcv := conv_CB u.length (HCU.out.below HI1.out.below) HP.out; have HB1 := Aside0.mk hb; clear hb)
            obtain ⟨g1, g2⟩ := GetI.fail HI1.out (fun k hk => .inl hk) (keepX_below HB1.out) HWI.out HOK2.out
            exact ⟨g1, rfl, g2⟩
          | true =>
            cases hq : decide (0 ≤ n1) with
            | false => 
              gi_wp2_with (refine ⟨trivial, ?_⟩; gi_at_call 95; refine (CallsIn.inRound l1 (callsIn_wide.2 HNUM.out)).mono ?_; rintro e w1 ⟨rfl, hb⟩; have HI1 := Aside0.mk (GetI.closed w0 ws _ _ _ _ HI.out (below_step_X hb)); have hc0 := HI1.out.cell0; have hc1 := HI1.out.cell1; have hf0 := HI1.out.froz0; have hf1 := HI1.out.froz1; have he := HI1.out.e.cell; have hef := HI1.out.e.frozen; have hatc : w1.cell? ⟨w0.heap.size + 1 + 1 + 1, 0, none⟩ = some (.int .i64 i) := HI1.out.at_.cell; have hatf : w1.frozen? ⟨w0.heap.size + 1 + 1 + 1, 0, none⟩ = false := HI1.out.at_.frozen; have hcv := conv_CB u.length (HCU.out.below HI1.out.below) HP.out; have HB1 := Aside0.mk hb; clear hb)
              have hok3 : okAt i u = false := by rw [HOK2.out, hq]; rfl
              obtain ⟨g1, g2⟩ := GetI.fail HI1.out (fun k hk => .inl hk) (keepX_below HB1.out) HWI.out hok3
              exact ⟨g1, rfl, g2⟩
            | true =>
              have hok3 : okAt i u = true := by rw [HOK2.out, hq]; rfl
              have HOK3 := Aside0.mk hok3
              clear hok hok3
              gi_wp2_with (first | (refine ⟨trivial, ?_⟩; gi_at_call 95; refine (CallsIn.inRound l1 (callsIn_wide.2 HNUM.out)).mono ?_; rintro e w1 ⟨rfl, hb⟩; have HI1 := Aside0.mk (GetI.closed w0 ws _ _ _ _ HI.out (below_step_X hb)); have hatc : w1.cell? ⟨w0.heap.size + 1 + 1 + 1, 0, none⟩ = some (.int .i64 i) := HI1.out.at_.cell; have hatf : w1.frozen? ⟨w0.heap.size + 1 + 1 + 1, 0, none⟩ = false := HI1.out.at_.frozen; obtain ⟨vr, hvb, hvr, hvn⟩ := HI1.out.row; have hvc : w1.cell? ⟨w0.heap.size + 1 + 1, 0, none⟩ = some vr := hvb.cell; have hvca : (w1.alloc (.cells #[.int .i64 n1] 3)).cell? ⟨w0.heap.size + 1 + 1, 0, none⟩ = some vr := (hvb.alloc _).cell; have hB1 := HI1.out.below.size; have HVB := Aside0.mk hvb; have HVR := Aside0.mk hvr; have HVN := Aside0.mk hvn; have HB1 := Aside0.mk hb; clear hb hvb hvr hvn) | (gi_at_builtin; refine wpListIn_append_at _ rfl _ _ 25 rfl (w0.heap.size + 5) 3 i0 (.int .i64 0) 1 8 Tryz.underlying25 hi0' hz0 hz1 hz2 rfl (by decide) _ _ _ rfl (HVR.out.alloc _) ⟨w1.heap.size, 0, none⟩ 1 1 [.int .i64 n1] rfl rfl (cell_one_new _ _ _) (by simp [Value.oneCell']) (by have := HKL.out; unfold maxLen; omega) (by have := HKL.out; omega) (by have h5 := HI1.out.at_.lt; have h6 := HI1.out.fin5; simp; omega) ?_; intro v' w2 hown' hgrow hat; obtain ⟨g', cap', rfl⟩ := ownsRow_succ hown'; have hkept := GetI.kept HI1.out HVR.out hgrow; have hc2 : w2.cell? ⟨w0.heap.size + 1 + 1, 0, none⟩ = some vr := (Boxed.cell (hkept _ _ _ HVB.out (by omega))); have hf2 : w2.frozen? ⟨w0.heap.size + 1 + 1, 0, none⟩ = false := (Boxed.frozen (hkept _ _ _ HVB.out (by omega))); have hc3 : w2.cell? ⟨w0.heap.size + 1 + 1 + 1, 0, none⟩ = some (.int .i64 i) := (Boxed.cell (hkept _ _ _ HI1.out.at_ (by omega))); have hf3 : w2.frozen? ⟨w0.heap.size + 1 + 1 + 1, 0, none⟩ = false := (Boxed.frozen (hkept _ _ _ HI1.out.at_ (by omega))); have HOWN := Aside0.mk hown'; have HGROW := Aside0.mk hgrow; have HAT := Aside0.mk hat; clear hown' hgrow hat hkept))
              have hn1 : (numV u).1 = n1 := by rw [← HNV.out]
              exact GetI.push HI1.out (fun k hk => .inl hk) (keepX_below HB1.out) HWI.out HOK3.out (by omega) HVB.out HVR.out HVN.out (by rw [hn1]; exact HOWN.out) HGROW.out HAT.out
        · have hi4' : ¬ (i : Int) < 4 := by omega
          rw [if_neg hi4] at hok
          have HOK2 := Aside0.mk hok
          cases n2 with
          | false =>
            gi_wp2_with (refine ⟨trivial, ?_⟩; gi_at_call 95; refine (CallsIn.inRound l1 (callsIn_wide.2 HNUM.out)).mono ?_; rintro e w1 ⟨rfl, hb⟩; have HI1 := Aside0.mk (GetI.closed w0 ws _ _ _ _ HI.out (below_step_X hb)); have hc0 := HI1.out.cell0; have hc1 := HI1.out.cell1; have hf0 := HI1.out.froz0; have hf1 := HI1.out.froz1; have he := HI1.out.e.cell; have hef := HI1.out.e.frozen; have hatc : w1.cell? ⟨w0.heap.size + 1 + 1 + 1, 0, none⟩ = some (.int .i64 i) := HI1.out.at_.cell; have hatf : w1.frozen? ⟨w0.heap.size + 1 + 1 + 1, 0, none⟩ = false := HI1.out.at_.frozen; have hcv := conv_CB u.length (HCU.out.below HI1.out.below) HP.out; have HB1 := Aside0.mk hb; clear hb)
            obtain ⟨g1, g2⟩ := GetI.fail HI1.out (fun k hk => .inl hk) (keepX_below HB1.out) HWI.out HOK2.out
            exact ⟨g1, rfl, g2⟩
          | true =>
            have HOK3 := HOK2
            clear hok
            gi_wp2_with (first | (refine ⟨trivial, ?_⟩; gi_at_call 95; refine (CallsIn.inRound l1 (callsIn_wide.2 HNUM.out)).mono ?_; rintro e w1 ⟨rfl, hb⟩; have HI1 := Aside0.mk (GetI.closed w0 ws _ _ _ _ HI.out (below_step_X hb)); have hatc : w1.cell? ⟨w0.heap.size + 1 + 1 + 1, 0, none⟩ = some (.int .i64 i) := HI1.out.at_.cell; have hatf : w1.frozen? ⟨w0.heap.size + 1 + 1 + 1, 0, none⟩ = false := HI1.out.at_.frozen; obtain ⟨vr, hvb, hvr, hvn⟩ := HI1.out.row; have hvc : w1.cell? ⟨w0.heap.size + 1 + 1, 0, none⟩ = some vr := hvb.cell; have hvca : (w1.alloc (.cells #[.int .i64 n1] 3)).cell? ⟨w0.heap.size + 1 + 1, 0, none⟩ = some vr := (hvb.alloc _).cell; have hB1 := HI1.out.below.size; have HVB := Aside0.mk hvb; have HVR := Aside0.mk hvr; have HVN := Aside0.mk hvn; have HB1 := Aside0.mk hb; clear hb hvb hvr hvn) | (gi_at_builtin; refine wpListIn_append_at _ rfl _ _ 25 rfl (w0.heap.size + 5) 3 i0 (.int .i64 0) 1 8 Tryz.underlying25 hi0' hz0 hz1 hz2 rfl (by decide) _ _ _ rfl (HVR.out.alloc _) ⟨w1.heap.size, 0, none⟩ 1 1 [.int .i64 n1] rfl rfl (cell_one_new _ _ _) (by simp [Value.oneCell']) (by have := HKL.out; unfold maxLen; omega) (by have := HKL.out; omega) (by have h5 := HI1.out.at_.lt; have h6 := HI1.out.fin5; simp; omega) ?_; intro v' w2 hown' hgrow hat; obtain ⟨g', cap', rfl⟩ := ownsRow_succ hown'; have hkept := GetI.kept HI1.out HVR.out hgrow; have hc2 : w2.cell? ⟨w0.heap.size + 1 + 1, 0, none⟩ = some vr := (Boxed.cell (hkept _ _ _ HVB.out (by omega))); have hf2 : w2.frozen? ⟨w0.heap.size + 1 + 1, 0, none⟩ = false := (Boxed.frozen (hkept _ _ _ HVB.out (by omega))); have hc3 : w2.cell? ⟨w0.heap.size + 1 + 1 + 1, 0, none⟩ = some (.int .i64 i) := (Boxed.cell (hkept _ _ _ HI1.out.at_ (by omega))); have hf3 : w2.frozen? ⟨w0.heap.size + 1 + 1 + 1, 0, none⟩ = false := (Boxed.frozen (hkept _ _ _ HI1.out.at_ (by omega))); have HOWN := Aside0.mk hown'; have HGROW := Aside0.mk hgrow; have HAT := Aside0.mk hat; clear hown' hgrow hat hkept))
            have hib : i < 4194304 := by
              have h1 := wordsV_len A cap bs
              have h2 := (List.getElem?_eq_some_iff.1 HWI.out).1
              omega
            rw [wrap_succ i hib]
            have hn1 : (numV u).1 = n1 := by rw [← HNV.out]
            exact GetI.push HI1.out (fun k hk => .inl hk) (keepX_below HB1.out) HWI.out HOK3.out (by omega) HVB.out HVR.out HVN.out (by rw [hn1]; exact HOWN.out) HGROW.out HAT.out
  case hdone =>
    rintro D X W' hD hXD hI hK
    rw [← hwl] at hI
    have hall : okAll ws := fun i u hu => hI.ok i u (List.getElem?_eq_some_iff.1 hu).1 hu
    have hc0 := hI.cell0
    have hc1 := hI.cell1
    have hf0 := hI.froz0
    have hf1 := hI.froz1
    have he := hI.e.cell
    have hef := hI.e.frozen
    have hatc : W'.cell? ⟨w0.heap.size + 1 + 1 + 1, 0, none⟩ = some (.int .i64 ws.length) := hI.at_.cell
    have HI := Aside0.mk hI
    have HALL := Aside0.mk hall
    have HK := Aside0.mk hK
    have HD := Aside0.mk hD
    have hwb : ws.length ≤ 4194304 := by have := wordsV_len A cap bs; omega
    clear hI hall hK
    by_cases h4 : ws.length < 4
    · have h4' : (ws.length : Int) < 4 := by omega
      gi_wp2
      rw [← HWSS.out]
      exact GetI.zero rfl rfl HK.out (by have := HD.out; omega) HI.out.below HI.out.c HI.out.e 11 (by unfold getV; rw [if_pos (.inr h4)])
    · have h4' : ¬ (ws.length : Int) < 4 := by omega
      obtain ⟨vr, hvb, hvr, hvn⟩ := HI.out.row
      have hvc : W'.cell? ⟨w0.heap.size + 1 + 1, 0, none⟩ = some vr := hvb.cell
      rw [List.take_length] at hvr
      have hnl : (numsV ws).length = ws.length - 2 := by unfold numsV; simp
      obtain ⟨g, cp, cur, rfl, hgb, hgh, hgn, hgm, hgc, hgt⟩ : ∃ g cp cur, vr = .slice (some ⟨g, 0, none⟩) (numsV ws).length cp ∧ w0.heap.size + 5 ≤ g ∧ W'.heap[g]? = some (.cells cur 3 (0, 0)) ∧ (numsV ws).length ≤ cp ∧ cp ≤ maxLen ∧ cur.size = cp * 1 ∧ cur.toList.take ((numsV ws).length * 1) = (numsV ws).map (Value.int .i64) := by
        rcases hvr.2 with ⟨_, h0⟩ | ⟨g, cp, cur, h⟩
        · omega
        · exact ⟨g, cp, cur, h⟩
      have hcell : ∀ j, j < (numsV ws).length → W'.cell? ⟨g, j, none⟩ = some (.int .i64 ((numsV ws).getD j 0)) := by
        intro j hj
        have e1 : (cur.toList.take ((numsV ws).length * 1))[j]? = ((numsV ws).map (Value.int .i64))[j]? := by rw [hgt]
        rw [Nat.mul_one, List.getElem?_take_of_lt hj, Array.getElem?_toList, List.getElem?_map, List.getElem?_eq_getElem hj] at e1
        show World.cell? _ _ = _
        unfold World.cell?
        rw [hgh]
        simp only [Option.isSome_none, Bool.false_eq_true, if_false]
        rw [e1]
        simp [List.getD_eq_getElem?_getD, hj]
      have hl0 := hcell 0 (by omega)
      have hl1 := hcell 1 (by omega)
      have hlz0 : (0 : Int) < ((numsV ws).length : Int) := by omega
      have hlz1 : (1 : Int) < ((numsV ws).length : Int) := by omega
      have HCELL := Aside0.mk hcell
      have HV := Aside0.mk hvr
      have HVN := Aside0.mk hvn
      have HVB := Aside0.mk hvb
      have HG := Aside0.mk (And.intro hgb (And.intro hgh (And.intro hgn (And.intro hgm (And.intro hgc hgt)))))
      clear hcell hvr hvn hvb hgb hgh hgn hgm hgc hgt
      generalize hN0 : (numsV ws).getD 0 0 = N0 at *
      generalize hN1 : (numsV ws).getD 1 0 = N1 at *
      generalize hNL : (numsV ws).length = NL at *
      have hba : Below W'.heap.size W' (W'.alloc (.cells #[.int .i64 0, .slice none 0 0] 24)) := (Below.refl _ _).alloc (Nat.le_refl _) _
      have hvca := pw_cell_below hba hvc
      have hl0a := pw_cell_below hba hl0
      have hl1a := pw_cell_below hba hl1
      have hbb : Below W'.heap.size W' (W'.alloc (.cells #[.int .i64 N0, .slice none 0 0] 24)) := (Below.refl _ _).alloc (Nat.le_refl _) _
      have hvcb := pw_cell_below hbb hvc
      have hl0b := pw_cell_below hbb hl0
      have hl1b := pw_cell_below hbb hl1
      clear hba hbb
      gi_wp2
      gi_region
      obtain ⟨W6, hW6⟩ : ∃ W6, W6 = (W'.alloc (.cells #[.int .i64 N0, .slice none 0 0] 24)).drew := ⟨_, rfl⟩
      obtain ⟨G, hG⟩ : ∃ G, G = W'.heap.size := ⟨_, rfl⟩
      have hb6 : Below G W' W6 := by
        have h0 : Below W'.heap.size W' (W'.alloc (.cells #[.int .i64 N0, .slice none 0 0] 24)) := (Below.refl _ _).alloc (Nat.le_refl _) _
        rw [hW6, hG]
        exact ⟨h0.os, h0.tape, h0.output, h0.size, h0.block⟩
      have hcb : W6.heap[G]? = some (.cells #[.int .i64 N0, .slice none 0 0] 24 (0, 0)) := by rw [hW6, hG]; exact heap_alloc_new W' _
      have hs6 : W6.heap.size = G + 1 := by rw [hW6, hG]; show (W'.heap.push _).size = _; simp
      rw [← hW6, ← hG]
      have HG5 : w0.heap.size + 5 ≤ G := by rw [hG]; exact HI.out.fin5
      clear hc0 hc1 hf0 hf1 he hef hatc hvc hl0 hl1 hvca hl0a hl1a hvcb hl0b hl1b
      have HB6 := Aside0.mk hb6
      have HCB := Aside0.mk hcb
      have hgc0 : W6.cell? ⟨G, 0, none⟩ = some (.int .i64 N0) := by simp [World.cell?, hcb]
      have hlt6 : ∀ k, k < w0.heap.size + 5 → k < W'.heap.size := fun k hk => by omega
      have hC6 : W6.heap[w0.heap.size]? = some (.cells #[.int .i64 0, .slice none 0 0] 24 (0, 0)) := (hb6.block _ (by omega)).trans HI.out.c
      have hE6 : Boxed W6 (w0.heap.size + 1) 32 (.int .i64 0) := (hb6.block _ (by omega)).trans HI.out.e
      have hV6 : Boxed W6 (w0.heap.size + 2) 25 (.slice (some ⟨g, 0, none⟩) NL cp) := (hb6.block _ (by omega)).trans HVB.out
      have hK6 : W6.heap[D]? = some (.deferred (some [])) := (hb6.block _ (by rw [hG]; exact (Array.getElem?_eq_some_iff.1 HK.out).1)).trans HK.out
      have hB6 : Below w0.heap.size w0 W6 := HI.out.below.trans (hb6.mono (by omega))
      have hc0 : W6.cell? ⟨w0.heap.size, 0, none⟩ = some (.int .i64 0) := by simp [World.cell?, hC6]
      have hc1 : W6.cell? ⟨w0.heap.size, 1, none⟩ = some (.slice none 0 0) := by simp [World.cell?, hC6]
      have hf0 : W6.frozen? ⟨w0.heap.size, 0, none⟩ = false := by simp [World.frozen?, hC6]
      have hf1 : W6.frozen? ⟨w0.heap.size, 1, none⟩ = false := by simp [World.frozen?, hC6]
      have he := hE6.cell
      have hef := hE6.frozen
      have hvc : W6.cell? ⟨w0.heap.size + 1 + 1, 0, none⟩ = some (.slice (some ⟨g, 0, none⟩) NL cp) := hV6.cell
      have hvf : W6.frozen? ⟨w0.heap.size + 1 + 1, 0, none⟩ = false := hV6.frozen
      have HC6 := Aside0.mk hC6
      have HE6 := Aside0.mk hE6
      have HV6 := Aside0.mk hV6
      have HK6 := Aside0.mk hK6
      have HBW6 := Aside0.mk hB6
      have HGE := Aside0.mk hG
      clear hb6 hcb hC6 hE6 hV6 hK6 hB6 hW6 hG hlt6
      have HGV : Aside0 (getV ws = if N0 > 65536 ∨ N1 > 65536 then (0, [], 2) else match clausesOf NL ((numsV ws).drop 2) with
          | none => (0, [], 11)
          | some L => if (L.length : Int) ≠ N1 then (0, [], 11) else if checkV N0 L ≠ 0 then (0, [], checkV N0 L) else (N0, L, 0)) := ⟨by
        unfold getV
        have hno : ¬ (¬ okAll ws ∨ ws.length < 4) := by
          intro h
          rcases h with h | h
          · exact h HALL.out
          · omega
        rw [if_neg hno, hN0, hN1, hNL]
        all_goals rfl⟩
      by_cases hb0 : N0 > 65536
      · have hb0' : (65536 : Int) < N0 := hb0
        gi_wp2
        rw [← HWSS.out]
        exact GetI.zero rfl rfl HK6.out (by have := HD.out; omega) HBW6.out HC6.out HE6.out 2 (by rw [HGV.out, if_pos (.inl hb0)])
      · by_cases hb1 : N1 > 65536
        · have hb1' : (65536 : Int) < N1 := hb1
          gi_wp2
          rw [← HWSS.out]
          exact GetI.zero rfl rfl HK6.out (by have := HD.out; omega) HBW6.out HC6.out HE6.out 2 (by rw [HGV.out, if_pos (.inr hb1)])
        · have hgv := HGV.out
          rw [if_neg (by omega)] at hgv
          have HGV2 := Aside0.mk hgv
          clear hgv HGV
          have hcp : NL ≤ cp := HG.out.2.2.1
          have hcpz : (NL : Int) ≤ (cp : Int) := by omega
          have hrest : ∀ (A2 : Option Addr), (A2 = some ⟨g, 2, none⟩ ∨ NL = 2) → Kd.C (Kd.int .i64) W6 A2 ((numsV ws).drop 2).length ((numsV ws).drop 2) := by
            intro A2 hA
            have hRI : RI W' (w0.heap.size + 5) (.slice (some ⟨g, 0, none⟩) (numsV ws).length cp) (numsV ws) := RI.of_own (by rw [hNL]; exact HV.out)
            have hC0 := Kd.C_below (Kd.R_reads' hRI).2.2 (by rw [← HGE.out]; exact HB6.out)
            have hC2 := C_drop_int hC0 2
            rcases hA with hA | hA
            · rw [hA]; exact hC2
            · have hnil : (numsV ws).drop 2 = [] := List.drop_eq_nil_of_le (by omega)
              rw [hnil]
              exact ⟨rfl, by simp, fun h => absurd h (by simp)⟩
          have hrl : ((numsV ws).drop 2).length = NL - 2 := by rw [List.length_drop, hNL]
          obtain ⟨rest0, hr0⟩ : ∃ rest0, rest0 = (numsV ws).drop 2 := ⟨_, rfl⟩
          rw [← hr0] at hrest hrl
          have HREST := Aside0.mk hrest
          have HR0 := Aside0.mk hr0
          have HWL := Aside0.mk hwl
          have HNL := Aside0.mk hnl
          have hNL2 : NL - 2 = rest0.length := hrl.symm
          clear hrest hr0 hwl hnl hrl
          gi_wp2
          all_goals
            rename_i Kx hKx
            refine wpIn_wide.2 ?_
            have hl2 : 2 ≤ (numsV ws).length := by omega
            have hgg : w0.heap.size + 5 ≤ g ∧ g < G := ⟨HG.out.1, by rw [HGE.out]; exact (Array.getElem?_eq_some_iff.1 HG.out.2.1).1⟩
            have hC0 : Kd.C (Kd.int .i64) W6 (some ⟨g, 0, none⟩) (numsV ws).length (numsV ws) := Kd.C_below (Kd.R_reads' (RI.of_own (base := w0.heap.size + 5) (by rw [hNL]; exact HV.out))).2.2 (by rw [← HGE.out]; exact HB6.out)
            have hst := fun (A1 : Option Addr) (c1 : Nat) (hc : rest0.length ≤ c1) (hA : A1 = some ⟨g, 2, none⟩ ∨ rest0.length = 0) => GetL.start (m0 := w0.heap.size) (D := D) (N0 := N0) hgg HCB.out HV6.out (by rw [hNL]; exact hNL2.symm) hl2 hc hA
            refine loop40_wp w0.heap.size D G g N0 N1 (numsV ws) W6 2 _ _ _ _ _ _ _ _ _ _ _ _ _ _ _ _ _ _ _ _ _ _ _ _ _ _ _ _ _ _ _ _ _ _ _ _ _ _ _ _ _ _ _ _ _ _ _ _ _ _ _ _ _ _ _ _ _ _ _ _ _ _ _ _ _ _ _ _ _ _ _ _ _ _ _ _ _ _ _ _ _ _ _ _ _ _ _ _ _ _ _ _ _ _ _ _ _ _ _ _ _ _ _ _ _ _ _ _ Kx _ (hst _ _ ?h1 ?h2) hgg (by have h9 := HNL.out; omega) hC0 (by omega) HC6.out HE6.out ?hK ?hret
            case h1 => omega
            case h2 => first
              | exact .inl rfl
              | (right; omega)
            case hK =>
              intro m A2 c2 Lacc vL wr u11 u76 u77 u78 u79 u80 u81 u82 u83 u84 u85 u86 u87 u88 u89 u90 u91 u92 u93 u94 u95 u96 hS hcl
              refine hKx _ _ (wpIn_wide.2 ?_)
              refine behind40_wp w0.heap.size D G g N0 N1 (numsV ws) W6 m A2 c2 Lacc vL wr _ _ _ _ _ _ _ _ _ _ _ _ _ _ _ _ _ _ _ _ _ _ _ _ _ _ _ _ _ _ _ _ _ _ _ _ _ _ _ _ _ _ _ _ _ _ _ _ _ _ _ _ _ _ _ _ _ _ _ _ _ _ _ _ _ _ _ _ _ _ _ _ _ _ _ _ _ _ _ _ _ _ _ _ _ _ _ _ _ _ _ _ _ _ _ _ _ _ _ _ _ _ _ _ _ _ hS hgg (by omega) (by have h9 := HNL.out; omega) HC6.out HE6.out ?_ ?_
              · intro tmps w1 e hb he h2 h3
                show bodyPostM Fence.wide n Tryz.prog Tryz.f40 (GetPost ((wordsV A cap bs).map (·.2)) w0) _ _ _
                rw [← HWSS.out]
                exact hS.zero HK6.out HBW6.out hgg ⟨by have := HD.out; omega, by rw [HGE.out]; exact (Array.getElem?_eq_some_iff.1 HK.out).1⟩ HC6.out HE6.out hb h2 h3 (by
                  rw [HGV2.out, ← hNL, hcl]
                  rcases he with ⟨rfl, he⟩ | ⟨he, rfl, hz⟩
                  · simp only []; rw [if_pos he]
                  · simp only []; rw [if_neg (by simp [he]), if_pos hz])
              · intro tmps w1 hb hn hz h2 h3
                show bodyPostM Fence.wide n Tryz.prog Tryz.f40 (GetPost ((wordsV A cap bs).map (·.2)) w0) _ _ _
                rw [← HWSS.out]
                exact hS.fine HK6.out HBW6.out hgg ⟨by have := HD.out; omega, by rw [HGE.out]; exact (Array.getElem?_eq_some_iff.1 HK.out).1⟩ HC6.out HE6.out hb h2 h3 (by
                  rw [HGV2.out, ← hNL, hcl]
                  simp only []; rw [if_neg (by simp [hn]), if_neg (by simp [hz])])
            case hret =>
              intro m A2 c2 Lacc vL wr q tmps hS hcl h2 h3
              show bodyPostM Fence.wide n Tryz.prog Tryz.f40 (GetPost ((wordsV A cap bs).map (·.2)) w0) _ _ _
              rw [← HWSS.out]
              exact hS.zero HK6.out HBW6.out hgg ⟨by have := HD.out; omega, by rw [HGE.out]; exact (Array.getElem?_eq_some_iff.1 HK.out).1⟩ HC6.out HE6.out (pw_below_drewN (Below.refl _ _) q) h2 h3 (by
                rw [HGV2.out, ← hNL, hcl])
  case hstop =>
    rintro D X c i W' hD hXD ⟨rfl, hG⟩ hK
    gi_wp2
    have hDne : D ≠ w0.heap.size ∧ D ≠ w0.heap.size + 1 := ⟨by omega, by omega⟩
    refine ⟨by simp, .inl ⟨_, _, rfl, run_takeDeferred hK, ?_⟩⟩
    exact ⟨_, results_40 _ _ w0.heap.size (w0.heap.size + 1) _ 11 rfl rfl ((World.putObj_heap_other (by omega)).trans hG.c) rfl ((World.putObj_heap_other (by omega)).trans hG.e), by
      obtain ⟨j, u, hu, ho⟩ := hG.bad
      have hv := getV_bad hu ho
      rw [HWSS.out] at hv
      refine ⟨.slice none 0 0, by rw [hv], by rw [hv]; exact Kd.S_nil _ _ _ _ _, below_putObj hG.below D _ (by omega)⟩⟩
end Go.Proofs.YtcdhhaedgohlgaaGreatDoor.P
end

section
namespace Go.Proofs.YtcdhhaedgohlgaaGreatDoor.P
set_option linter.unusedVariables false

def flush (cur : List UInt8) : List (List UInt8) := if cur = [] then [] else [cur]
/-- The words, one pass: fresh: at a line's begin; skip: in a comment. -/
def wordsS : List UInt8 → Bool → Bool → List UInt8 → List (List UInt8)
  | [], _, _, cur => flush cur
  | b :: r, fresh, skip, cur =>
    if b = 10 then flush cur ++ wordsS r true false []
    else if (skip || (fresh && b == 99)) = true then flush cur ++ wordsS r false true []
    else if isSp b = true then flush cur ++ wordsS r false false []
    else wordsS r false false (cur ++ [b])
/-- The words of one line. -/
def fieldsB : List UInt8 → List UInt8 → List (List UInt8)
  | [], cur => flush cur
  | b :: r, cur => if isSp b = true then flush cur ++ fieldsB r [] else fieldsB r (cur ++ [b])
def lineW (l : List UInt8) : List (List UInt8) := if l.head? = some 99 then [] else fieldsB l []

theorem wordsS_skip (r : List UInt8) : ∀ (l : List UInt8), (10 : UInt8) ∉ l → wordsS (l ++ 10 :: r) false true [] = wordsS r true false []
  | [], _ => by rw [List.nil_append, wordsS, if_pos rfl]; rfl
  | b :: l, h => by
    simp only [List.mem_cons, not_or] at h
    rw [List.cons_append, wordsS, if_neg (fun e => h.1 e.symm), if_pos (by rfl)]
    exact wordsS_skip r l h.2
theorem wordsS_skip_end : ∀ (l : List UInt8), (10 : UInt8) ∉ l → wordsS l false true [] = []
  | [], _ => rfl
  | b :: l, h => by
    simp only [List.mem_cons, not_or] at h
    rw [wordsS, if_neg (fun e => h.1 e.symm), if_pos (by rfl)]
    exact wordsS_skip_end l h.2
theorem wordsS_fields (r : List UInt8) : ∀ (l cur : List UInt8), (10 : UInt8) ∉ l → wordsS (l ++ 10 :: r) false false cur = fieldsB l cur ++ wordsS r true false []
  | [], cur, _ => by rw [List.nil_append, wordsS, if_pos rfl]; rfl
  | b :: l, cur, h => by
    simp only [List.mem_cons, not_or] at h
    rw [List.cons_append, wordsS, if_neg (fun e => h.1 e.symm), if_neg (by simp), fieldsB]
    split
    · rw [wordsS_fields r l [] h.2, List.append_assoc]
    · exact wordsS_fields r l _ h.2
theorem wordsS_fields_end : ∀ (l cur : List UInt8), (10 : UInt8) ∉ l → wordsS l false false cur = fieldsB l cur
  | [], cur, _ => rfl
  | b :: l, cur, h => by
    simp only [List.mem_cons, not_or] at h
    rw [wordsS, if_neg (fun e => h.1 e.symm), if_neg (by simp), fieldsB]
    split
    · rw [wordsS_fields_end l [] h.2]
    · exact wordsS_fields_end l _ h.2
/-- A line at its begin is read as one in its middle, unless it is a comment. -/
theorem wordsS_fresh (b : UInt8) (r : List UInt8) (h : b ≠ 99) (fresh : Bool) (cur : List UInt8) : wordsS (b :: r) fresh false cur = wordsS (b :: r) false false cur := by
  have : (b == 99) = false := by simpa using h
  rw [wordsS, wordsS, this]
  simp
theorem wordsS_line (l r : List UInt8) (h : (10 : UInt8) ∉ l) : wordsS (l ++ 10 :: r) true false [] = lineW l ++ wordsS r true false [] := by
  cases l with
  | nil => exact by rw [List.nil_append, wordsS, if_pos rfl]; rfl
  | cons b l =>
    unfold lineW
    by_cases hb : b = 99
    · subst hb
      rw [List.cons_append, wordsS, if_neg (by decide), if_pos (by rfl), if_pos (by rfl)]
      exact wordsS_skip r l (fun e => h (List.mem_cons_of_mem _ e))
    · rw [if_neg (by intro e; injection e with e; exact hb e), List.cons_append, wordsS_fresh b _ hb]
      exact wordsS_fields r (b :: l) [] h
theorem wordsS_line_end (l : List UInt8) (h : (10 : UInt8) ∉ l) : wordsS l true false [] = lineW l := by
  cases l with
  | nil => rfl
  | cons b l =>
    unfold lineW
    by_cases hb : b = 99
    · subst hb
      rw [wordsS, if_neg (by decide), if_pos (by rfl), if_pos (by rfl)]
      exact wordsS_skip_end l (fun e => h (List.mem_cons_of_mem _ e))
    · rw [if_neg (by intro e; injection e with e; exact hb e), wordsS_fresh b _ hb]
      exact wordsS_fields_end (b :: l) [] h

theorem flush_some {w : List UInt8} (h : w ≠ []) : flush w = [w] := by unfold flush; rw [if_neg h]

theorem ofNat_toNat (n : Nat) (h : n < 256) : (UInt8.ofNat n).toNat = n := UInt8.toNat_ofNat_of_lt' (by omega)

end Go.Proofs.YtcdhhaedgohlgaaGreatDoor.P
end

section
namespace Go.Proofs.YtcdhhaedgohlgaaGreatDoor.P
open Go.RowKit Go.Shelf
set_option linter.unusedVariables false

def curOf (bs : List UInt8) (i : Nat) : Option Nat → List UInt8
  | none => []
  | some s => (bs.drop s).take (i - s)
theorem fieldsV_cons (A : Option Addr) (bs : List UInt8) (b : UInt8) (r : List UInt8) (i : Nat) (st : Option Nat) : fieldsV A bs (b :: r) i st = if isSp b = true then (match st with | some s => fieldX A bs s i :: fieldsV A bs r (i + 1) none | none => fieldsV A bs r (i + 1) none) else fieldsV A bs r (i + 1) (some (st.getD i)) := by
  cases st <;> rfl
theorem fieldsV_fieldsB (A : Option Addr) (bs : List UInt8) : ∀ (r : List UInt8) (i : Nat) (st : Option Nat), bs.drop i = r → (∀ s, st = some s → s < i ∧ i ≤ bs.length) → (fieldsV A bs r i st).map (·.2) = fieldsB r (curOf bs i st)
  | [], i, none, hd, hs => rfl
  | [], i, some s, hd, hs => by
    have := hs s rfl
    have hne : curOf bs i (some s) ≠ [] := by
      intro e
      have := congrArg List.length e
      simp only [curOf, List.length_take, List.length_drop, List.length_nil] at this
      omega
    show [curOf bs i (some s)] = flush _
    rw [flush_some hne]
  | b :: r, i, st, hd, hs => by
    have hil : i < bs.length := by
      rcases Nat.lt_or_ge i bs.length with h | h
      · exact h
      · rw [List.drop_eq_nil_of_le h] at hd; cases hd
    have hbi : bs[i] = b ∧ bs.drop (i + 1) = r := by
      rw [List.drop_eq_getElem_cons hil] at hd
      injection hd with h1 h2
      exact ⟨h1, h2⟩
    rw [fieldsV_cons]
    rw [fieldsB]
    cases hb : isSp b with
    | true =>
      rw [if_pos rfl, if_pos rfl]
      cases st with
      | none => exact (fieldsV_fieldsB A bs r (i + 1) none hbi.2 (fun s e => by cases e))
      | some s =>
        have := hs s rfl
        have hne : curOf bs i (some s) ≠ [] := by
          intro e
          have := congrArg List.length e
          simp only [curOf, List.length_take, List.length_drop, List.length_nil] at this
          omega
        rw [flush_some hne, List.map_cons, fieldsV_fieldsB A bs r (i + 1) none hbi.2 (fun s e => by cases e)]
        rfl
    | false =>
      rw [if_neg (by simp), if_neg (by simp)]
      have hc : curOf bs (i + 1) (some (st.getD i)) = curOf bs i st ++ [b] := by
        cases st with
        | none =>
          show (bs.drop i).take (i + 1 - i) = [b]
          rw [hd, show i + 1 - i = 1 by omega]
          rfl
        | some s =>
          have := hs s rfl
          show (bs.drop s).take (i + 1 - s) = (bs.drop s).take (i - s) ++ [b]
          rw [show i + 1 - s = (i - s) + 1 by omega, List.take_succ_eq_append_getElem (by rw [List.length_drop]; omega), List.getElem_drop]
          have e : s + (i - s) = i := by omega
          simp only [e]
          rw [hbi.1]
      rw [fieldsV_fieldsB A bs r (i + 1) _ hbi.2 (fun s e => by
        injection e with e
        cases st with
        | none => simp at e; omega
        | some t => have := hs t rfl; simp at e; omega), hc]
theorem lineWords_lineW (x : Value × List UInt8) : (lineWords x).map (·.2) = lineW x.2 := by
  unfold lineWords lineW
  split
  · rfl
  · exact fieldsV_fieldsB _ x.2 x.2 0 none rfl (fun s e => by cases e)
theorem splitV_words : ∀ (f : Nat) (A : Option Addr) (cap : Nat) (bs : List UInt8), bs.length ≤ f → ((splitV f A cap bs).flatMap lineWords).map (·.2) = wordsS bs true false []
  | 0, A, cap, bs, h => by
    have : bs = [] := List.eq_nil_of_length_eq_zero (by omega)
    subst this
    rfl
  | f + 1, A, cap, bs, h => by
    cases hf : bs.findIdx? (· == 10) with
    | none =>
      rw [splitV_none hf]
      have hn : (10 : UInt8) ∉ bs := fun hm => by
        have := List.findIdx?_eq_none_iff.1 hf 10 hm
        simp at this
      rw [List.flatMap_cons, List.flatMap_nil, List.append_nil, lineWords_lineW, wordsS_line_end _ hn]
    | some i =>
      rw [splitV_some hf, List.flatMap_cons, List.map_append, lineWords_lineW]
      obtain ⟨hi, h1, h2⟩ := List.findIdx?_eq_some_iff_getElem.1 hf
      have hn : (10 : UInt8) ∉ bs.take i := by
        intro hm
        obtain ⟨j, hj, e⟩ := List.getElem_of_mem hm
        rw [List.getElem_take] at e
        rw [List.length_take] at hj
        have := h2 j (by omega)
        rw [e] at this
        simp at this
      have hb : bs = bs.take i ++ 10 :: bs.drop (i + 1) := by
        have e : bs[i] = 10 := by simpa using h1
        conv => lhs; rw [← List.take_append_drop i bs, List.drop_eq_getElem_cons hi, e]
      rw [splitV_words f _ _ (bs.drop (i + 1)) (by rw [List.length_drop]; omega)]
      conv => rhs; rw [hb, wordsS_line _ _ hn]
theorem wordsV_words (A : Option Addr) (cap : Nat) (bs : List UInt8) : (wordsV A cap bs).map (·.2) = wordsS bs true false [] := splitV_words _ A cap bs (Nat.le_refl _)

end Go.Proofs.YtcdhhaedgohlgaaGreatDoor.P
end

section
namespace Go.Proofs.YtcdhhaedgohlgaaGreatDoor.P
open Go.RowKit Go.Shelf Go.Proofs.YtcdhhaedgohlgaaGreatDoorW.PrintWords Go.Proofs.YtcdhhaedgohlgaaGreatDoorW.PrintLast Go.Proofs.YtcdhhaedgohlgaaGreatDoorW.PrintMore
set_option linter.unusedVariables false
set_option maxRecDepth 100000

def bytesOk (l : List Int) : Bool := l.all fun x => decide (0 ≤ x) && decide (x < 256)
theorem bytesI_bytesOf {l : List Int} (h : bytesOk l = true) : bytesI (Lib.bytesOf l) = l := by
  unfold bytesI Lib.bytesOf
  rw [List.map_map]
  have : ∀ x ∈ l, ((fun b : UInt8 => (b.toNat : Int)) ∘ fun n : Int => UInt8.ofNat n.toNat) x = id x := by
    intro x hx
    have hb := List.all_eq_true.1 h x hx
    simp only [Bool.and_eq_true, decide_eq_true_eq] at hb
    show ((UInt8.ofNat x.toNat).toNat : Int) = x
    rw [ofNat_toNat x.toNat (by omega)]
    omega
  rw [List.map_congr_left this, List.map_id]
def getB (bs : List UInt8) : Int × List (List Int) × Int := if 4194304 < bs.length then (0, [], 2) else getV (wordsS bs true false [])
def cnf_Get.f (l : List Int) : Option (Int × List (List Int) × Int) := if bytesOk l = true then some (getB (Lib.bytesOf l)) else none

set_option maxHeartbeats 1000000 in
theorem get_long (A : Option Addr) (n : Nat) (cap : Nat) (w : World) (hlen : 4194304 < n) (hm : n ≤ 9223372036854775807) :
    Calls Tryz.prog 40 #[.slice A n cap] w fun e w' => e = .returned (.tuple #[.agg #[.int .i64 0, .slice none 0 0], .int .i64 2]) ∧ Below w.heap.size w w' := by
  have hgt : (4194304 : Int) < (n : Int) := by omega
  refine (callsIn_wide (n := 1)).1 ?_
  have hro : Fence.wide.round = none := rfl
  refine callsIn_of_wp_marks Tryz.func40 rfl trivial ?_ hro
  simp only [Tryz.ntmps40, List.size_toArray, List.length_cons, List.length_nil, Nat.reduceAdd, Nat.reduceSub, Array.replicate_succ, Array.replicate_zero, List.push_toArray, List.append_toArray, List.nil_append, List.cons_append]
  gi_wp2
  have at2 : ∀ (o1 o2 : Obj), ((w.alloc o1).alloc o2).heap[w.heap.size]? = some o1 ∧ ((w.alloc o1).alloc o2).heap[w.heap.size + 1]? = some o2 := by
    intro o1 o2
    have key : ∀ (h : Array Obj), ((h.push o1).push o2)[h.size]? = some o1 ∧ ((h.push o1).push o2)[h.size + 1]? = some o2 := by
      intro h
      refine ⟨?_, ?_⟩ <;> (simp only [Array.getElem?_push, Array.size_push]; repeat (first | rfl | rw [if_pos (by omega)] | rw [if_neg (by omega)]))
    exact key w.heap
  exact ⟨_, results_40 _ _ w.heap.size (w.heap.size + 1) #[.int .i64 0, .slice none 0 0] 2 rfl rfl (at2 _ _).1 rfl (at2 _ _).2, rfl, ((Below.refl _ _).alloc (Nat.le_refl _) _).alloc (by simp) _⟩

theorem cnf_Get.calls (A0 : Option Addr) (c0 : Nat) (l0 : List Int) (r1 : Int) (r2 : List (List Int)) (r3 : Int) (w : World) (hL : Laid w) (hr0 : Kd.C (Kd.int .u8) w A0 l0.length l0) (hc0 : l0.length ≤ c0) (h : cnf_Get.f l0 = some (r1, r2, r3)) :
    Calls Tryz.prog 40 #[.slice A0 l0.length c0] w fun e w' => ∃ v0_ : Value, e = .returned (.tuple #[.agg #[.int .i64 r1, v0_], .int .i64 r3]) ∧ Kd.S (Kd.slice 3 (Kd.int .i64)) 25 w' w.heap.size (fun _ => True) v0_ r2 ∧ Below w.heap.size w w' := by
  unfold cnf_Get.f at h
  by_cases hb : bytesOk l0 = true
  case neg => rw [if_neg hb] at h; cases h
  rw [if_pos hb] at h
  injection h with h
  have hl := bytesI_bytesOf hb
  generalize Lib.bytesOf l0 = bs at *
  subst hl
  rw [bytesI_length] at *
  unfold getB at h
  by_cases hlen : 4194304 < bs.length
  · rw [if_pos hlen] at h
    injection h with h1 h
    injection h with h2 h3
    subst h1 h2 h3
    refine (get_long A0 bs.length c0 w hlen hr0.2.1).mono ?_
    rintro e w' ⟨rfl, hB⟩
    exact ⟨_, rfl, Kd.S_nil _ _ _ _ _, hB⟩
  · rw [if_neg hlen] at h
    refine ((callsIn_wide (n := 12)).1 (get_walk A0 bs c0 w hL hr0 hc0 (by omega) 12 (Nat.le_refl _))).mono ?_
    rintro e w' ⟨v, rfl, hS, hB⟩
    rw [wordsV_words, h] at hS ⊢
    exact ⟨v, rfl, hS, hB⟩
end Go.Proofs.YtcdhhaedgohlgaaGreatDoor.P
end

section
namespace Go.Proofs.YtcdhhaedgohlgaaGreatDoor.P
open Go.RowKit Go.Proofs.YtcdhhaedgohlgaaGreatDoorW.PrintWords Go.Proofs.YtcdhhaedgohlgaaGreatDoorW.PrintLast Go.Proofs.YtcdhhaedgohlgaaGreatDoorW.PrintMore
attribute [local go_sem] max2_int min2_int max_two min_two max_three min_three max_four min_four   -- for this text's walks alone
set_option linter.unusedVariables false
set_option linter.unusedSimpArgs false

def chalklineref14_Ints.l0 : Nat → List Int → List Int → Int → Option (Bool)
  | 0, _, _, _ => none
  | k + 1, x0, x1, x5 => if x5 < (x0.length : Int) then (if 0 ≤ x5 then (if x5 < (x1.length : Int) then (if (rd x0 x5) = (rd x1 x5) then (chalklineref14_Ints.l0 k x0 x1 (wrap64 (x5 + 1))) else (some false)) else (none)) else (none)) else (some true)
def chalklineref14_Ints.f (k : Nat) (l0 : List Int) (l1 : List Int) : Option (Bool) := if (l0.length : Int) = (l1.length : Int) then (chalklineref14_Ints.l0 k l0 l1 0) else (some false)
set_option maxHeartbeats 8000000 in
set_option maxRecDepth 100000 in
theorem chalklineref14_Ints.calls (k : Nat) (A0 : Option Addr) (c0 : Nat) (l0 : List Int) (A1 : Option Addr) (c1 : Nat) (l1 : List Int) (r : Bool) (w : World) (hr0 : Kd.C (Kd.int .i64) w A0 l0.length l0) (hc0 : l0.length ≤ c0) (hr1 : Kd.C (Kd.int .i64) w A1 l1.length l1) (hc1 : l1.length ≤ c1) (h : chalklineref14_Ints.f k l0 l1 = some r) :
    Calls Tryz.prog 25 #[.slice A0 l0.length c0, .slice A1 l1.length c1] w fun e w' => e = .returned (.bool r) ∧ Drawn0 w w' := by
  have HR0 := Aside0.mk hr0
  have HC0 := Aside0.mk hc0
  clear hr0 hc0
  have HR1 := Aside0.mk hr1
  have HC1 := Aside0.mk hc1
  clear hr1 hc1
  have H : (if (l0.length : Int) = (l1.length : Int) then (chalklineref14_Ints.l0 k l0 l1 0) else (some false)) = some r := h
  clear h
  by_cases c3 : (l0.length : Int) = (l1.length : Int)
  · rw [if_pos c3] at H
    have c3b0 : ((l0.length : Int) == (l1.length : Int)) = true := beq_iff_eq.mpr c3
    have c3b1 : ((l0.length : Int) != (l1.length : Int)) = false := bne_eq_false_iff_eq.mpr c3
    have c3b2 : (l0.length == l1.length) = true := by first | simpa using c3 | (simp at c3 ⊢; omega)
    clear c3
    have H' := Aside0.mk H
    clear H
    go_enter Tryz.func25, Tryz.ntmps25
    go_wp2
    repeat (go_quiet (fail); try go_wp2)
    go_loopg [5] k (fun kq v5 w' => ∃ (x5_1 : Int), v5 = .int .i64 x5_1 ∧ Aside0 (chalklineref14_Ints.l0 kq l0 l1 x5_1 = some r) ∧ Aside0 (kq ≤ k) ∧ Drawn0 w w')
    case atStart => exact ⟨(0), (by first | rfl | (simp; done) | (simp [*]; done)), H', ⟨Nat.le_refl _⟩, by repeat (first | exact Drawn0.refl _ | apply Drawn0.step)⟩
    case round =>
      clear H'
      try clear c1
      try clear c2
      try clear p2
      try clear c3
      try clear c3b0
      try clear c3b1
      try clear c3b2
      obtain ⟨x5_1, rfl, HA, HK1, ⟨m1, rfl⟩⟩ := hrel
      cases gk with
      | zero => exact absurd HA.out (by simp [chalklineref14_Ints.l0])
      | succ k1 =>
        have H := HA.out
        clear HA
        simp only [chalklineref14_Ints.l0] at H
        by_cases c4 : x5_1 < (l0.length : Int)
        · rw [if_pos c4] at H
          have c4b0 : decide (x5_1 < (l0.length : Int)) = true := decide_eq_true c4
          clear c4
          by_cases c5 : 0 ≤ x5_1
          · rw [if_pos c5] at H
            have c5b0 : decide (0 ≤ x5_1) = true := decide_eq_true c5
            clear c5
            by_cases c6 : x5_1 < (l1.length : Int)
            · rw [if_pos c6] at H
              have c6b0 : decide (x5_1 < (l1.length : Int)) = true := decide_eq_true c6
              clear c6
              by_cases c7 : (rd l0 x5_1) = (rd l1 x5_1)
              · rw [if_pos c7] at H
                have c7b0 : ((rd l0 x5_1) == (rd l1 x5_1)) = true := beq_iff_eq.mpr c7
                have c7b1 : ((rd l0 x5_1) != (rd l1 x5_1)) = false := bne_eq_false_iff_eq.mpr c7
                clear c7
                have H' := Aside0.mk H
                clear H
                have p117 : 0 ≤ (x5_1 : Int) := of_decide_eq_true (by first | (with_reducible assumption) | assumption)
                have q117 : x5_1 < (l0.length : Int) := of_decide_eq_true (by first | (with_reducible assumption) | assumption)
                obtain ⟨ad117, e117, hx117_0⟩ := Kd.at_int HR0.out x5_1 p117 q117
                cases e117
                replace p117 := eq_true p117
                replace q117 := eq_true q117
                have p118 : 0 ≤ (x5_1 : Int) := of_decide_eq_true (by first | (with_reducible assumption) | assumption)
                have q118 : x5_1 < (l1.length : Int) := of_decide_eq_true (by first | (with_reducible assumption) | assumption)
                obtain ⟨ad118, e118, hx118_0⟩ := Kd.at_int HR1.out x5_1 p118 q118
                cases e118
                replace p118 := eq_true p118
                replace q118 := eq_true q118
                go_wp2
                repeat (go_quiet (fail); try go_wp2)
                go_roundg k1
                case measure => have := HK1.out; omega
                case rel => exact ⟨(wrap64 (x5_1 + 1)), (by first | rfl | (simp; done) | (simp [*]; done)), H', ⟨by have := HK1.out; omega⟩, by repeat (first | exact Drawn0.refl _ | apply Drawn0.step)⟩
              · rw [if_neg c7] at H
                have c7b0 : ((rd l0 x5_1) == (rd l1 x5_1)) = false := beq_eq_false_iff_ne.mpr c7
                have c7b1 : ((rd l0 x5_1) != (rd l1 x5_1)) = true := bne_iff_ne.mpr c7
                obtain rfl := Option.some.inj H
                have p117 : 0 ≤ (x5_1 : Int) := of_decide_eq_true (by first | (with_reducible assumption) | assumption)
                have q117 : x5_1 < (l0.length : Int) := of_decide_eq_true (by first | (with_reducible assumption) | assumption)
                obtain ⟨ad117, e117, hx117_0⟩ := Kd.at_int HR0.out x5_1 p117 q117
                cases e117
                replace p117 := eq_true p117
                replace q117 := eq_true q117
                have p118 : 0 ≤ (x5_1 : Int) := of_decide_eq_true (by first | (with_reducible assumption) | assumption)
                have q118 : x5_1 < (l1.length : Int) := of_decide_eq_true (by first | (with_reducible assumption) | assumption)
                obtain ⟨ad118, e118, hx118_0⟩ := Kd.at_int HR1.out x5_1 p118 q118
                cases e118
                replace p118 := eq_true p118
                replace q118 := eq_true q118
                go_wp2
                repeat (go_quiet (fail); try go_wp2)
                go_ret
                exact ⟨by first | rfl | (simp; done) | (simp [*]; done), by repeat (first | exact Drawn0.refl _ | apply Drawn0.step)⟩
            · rw [if_neg c6] at H
              exact absurd H (by simp)
          · rw [if_neg c5] at H
            exact absurd H (by simp)
        · rw [if_neg c4] at H
          have c4b0 : decide (x5_1 < (l0.length : Int)) = false := decide_eq_false c4
          clear c4
          obtain rfl := Option.some.inj H
          go_wp2
          repeat (go_quiet (fail); try go_wp2)
          go_ret
          exact ⟨by first | rfl | (simp; done) | (simp [*]; done), by repeat (first | exact Drawn0.refl _ | apply Drawn0.step)⟩
  · rw [if_neg c3] at H
    have c3b0 : ((l0.length : Int) == (l1.length : Int)) = false := beq_eq_false_iff_ne.mpr c3
    have c3b1 : ((l0.length : Int) != (l1.length : Int)) = true := bne_iff_ne.mpr c3
    have c3b2 : (l0.length == l1.length) = false := by first | simpa using c3 | (simp at c3 ⊢; omega)
    obtain rfl := Option.some.inj H
    go_enter Tryz.func25, Tryz.ntmps25
    go_wp2
    repeat (go_quiet (fail); try go_wp2)
    go_ret
    exact ⟨by first | rfl | (simp; done) | (simp [*]; done), by repeat (first | exact Drawn0.refl _ | apply Drawn0.step)⟩

def chalklineref14_Few.l0 : Nat → List (List Int) → Int → Int → Option (Bool)
  | 0, _, _, _ => none
  | k + 1, x0, x3, x4 => if x4 < (x0.length : Int) then (if x4 < 200 then (if 0 ≤ x4 then (chalklineref14_Few.l0 k x0 (wrap64 (x3 + ((rd_L1 x0 x4).length : Int))) (wrap64 (x4 + 1))) else (none)) else (if (x0.length : Int) ≤ 200 then (some (decide (x3 ≤ 1000))) else (some false))) else (if (x0.length : Int) ≤ 200 then (some (decide (x3 ≤ 1000))) else (some false))
def chalklineref14_Few.f (k : Nat) (l0 : List (List Int)) : Option (Bool) := chalklineref14_Few.l0 k l0 0 0
set_option maxHeartbeats 8000000 in
set_option maxRecDepth 100000 in
theorem chalklineref14_Few.calls (k : Nat) (A0 : Option Addr) (c0 : Nat) (l0 : List (List Int)) (r : Bool) (w : World) (hr0 : Kd.C (Kd.slice 3 (Kd.int .i64)) w A0 l0.length l0) (hc0 : l0.length ≤ c0) (h : chalklineref14_Few.f k l0 = some r) :
    Calls Tryz.prog 43 #[.slice A0 l0.length c0] w fun e w' => e = .returned (.bool r) ∧ Drawn0 w w' := by
  have HR0 := Aside0.mk hr0
  have HC0 := Aside0.mk hc0
  clear hr0 hc0
  have H : (chalklineref14_Few.l0 k l0 0 0) = some r := h
  clear h
  have H' := Aside0.mk H
  clear H
  go_enter Tryz.func43, Tryz.ntmps43
  go_wp2
  go_loopg [3, 4] k (fun kq v3 v4 w' => ∃ (x3_1 : Int) (x4_1 : Int), v3 = .int .i64 x3_1 ∧ v4 = .int .i64 x4_1 ∧ Aside0 (chalklineref14_Few.l0 kq l0 x3_1 x4_1 = some r) ∧ Aside0 (kq ≤ k) ∧ Drawn0 w w')
  case atStart => exact ⟨(0), (0), (by first | rfl | (simp; done) | (simp [*]; done)), (by first | rfl | (simp; done) | (simp [*]; done)), H', ⟨Nat.le_refl _⟩, by repeat (first | exact Drawn0.refl _ | apply Drawn0.step)⟩
  case round =>
    clear H'
    obtain ⟨x3_1, x4_1, rfl, rfl, HA, HK1, ⟨m1, rfl⟩⟩ := hrel
    cases gk with
    | zero => exact absurd HA.out (by simp [chalklineref14_Few.l0])
    | succ k1 =>
      have H := HA.out
      clear HA
      simp only [chalklineref14_Few.l0] at H
      by_cases c2 : x4_1 < (l0.length : Int)
      · rw [if_pos c2] at H
        have c2b0 : decide (x4_1 < (l0.length : Int)) = true := decide_eq_true c2
        clear c2
        by_cases c3 : x4_1 < 200
        · rw [if_pos c3] at H
          have c3b0 : decide (x4_1 < 200) = true := decide_eq_true c3
          clear c3
          by_cases c4 : 0 ≤ x4_1
          · rw [if_pos c4] at H
            have c4b0 : decide (0 ≤ x4_1) = true := decide_eq_true c4
            clear c4
            have H' := Aside0.mk H
            clear H
            have p154 : 0 ≤ (x4_1 : Int) := of_decide_eq_true (by first | (with_reducible assumption) | assumption)
            have q154 : x4_1 < (l0.length : Int) := of_decide_eq_true (by first | (with_reducible assumption) | assumption)
            obtain ⟨ad154, A154_0, c154_0, e154, hx154_0, hl154_0, hi154_0⟩ := at_L1 HR0.out x4_1 p154 q154
            cases e154
            have HR154_0 := Aside0.mk hi154_0
            have HC154_0 := Aside0.mk hl154_0
            clear hi154_0 hl154_0
            replace p154 := eq_true p154
            replace q154 := eq_true q154
            go_wp2
            go_roundg k1
            case measure => have := HK1.out; omega
            case rel => exact ⟨(wrap64 (x3_1 + ((rd_L1 l0 x4_1).length : Int))), (wrap64 (x4_1 + 1)), (by first | rfl | (simp; done) | (simp [*]; done)), (by first | rfl | (simp; done) | (simp [*]; done)), H', ⟨by have := HK1.out; omega⟩, by repeat (first | exact Drawn0.refl _ | apply Drawn0.step)⟩
          · rw [if_neg c4] at H
            exact absurd H (by simp)
        · rw [if_neg c3] at H
          have c3b0 : decide (x4_1 < 200) = false := decide_eq_false c3
          clear c3
          by_cases c5 : (l0.length : Int) ≤ 200
          · rw [if_pos c5] at H
            have c5b0 : decide ((l0.length : Int) ≤ 200) = true := decide_eq_true c5
            have c5b1 : decide (l0.length ≤ 200) = true := decide_eq_true (by omega)
            clear c5
            obtain rfl := Option.some.inj H
            go_wp2
            go_ret
            exact ⟨by first | rfl | (simp; done) | (simp [*]; done), by repeat (first | exact Drawn0.refl _ | apply Drawn0.step)⟩
          · rw [if_neg c5] at H
            have c5b0 : decide ((l0.length : Int) ≤ 200) = false := decide_eq_false c5
            have c5b1 : decide (l0.length ≤ 200) = false := decide_eq_false (by omega)
            clear c5
            obtain rfl := Option.some.inj H
            go_wp2
            go_ret
            exact ⟨by first | rfl | (simp; done) | (simp [*]; done), by repeat (first | exact Drawn0.refl _ | apply Drawn0.step)⟩
      · rw [if_neg c2] at H
        have c2b0 : decide (x4_1 < (l0.length : Int)) = false := decide_eq_false c2
        clear c2
        by_cases c6 : (l0.length : Int) ≤ 200
        · rw [if_pos c6] at H
          have c6b0 : decide ((l0.length : Int) ≤ 200) = true := decide_eq_true c6
          have c6b1 : decide (l0.length ≤ 200) = true := decide_eq_true (by omega)
          clear c6
          obtain rfl := Option.some.inj H
          go_wp2
          go_ret
          exact ⟨by first | rfl | (simp; done) | (simp [*]; done), by repeat (first | exact Drawn0.refl _ | apply Drawn0.step)⟩
        · rw [if_neg c6] at H
          have c6b0 : decide ((l0.length : Int) ≤ 200) = false := decide_eq_false c6
          have c6b1 : decide (l0.length ≤ 200) = false := decide_eq_false (by omega)
          clear c6
          obtain rfl := Option.some.inj H
          go_wp2
          go_ret
          exact ⟨by first | rfl | (simp; done) | (simp [*]; done), by repeat (first | exact Drawn0.refl _ | apply Drawn0.step)⟩

def chalklinelaw14_few.f (k : Nat) (a0_0 : Int) (l0_1 : List (List Int)) : Option (Bool) := (chalklineref14_Few.f k l0_1).bind fun t156 => (some t156)
set_option maxHeartbeats 8000000 in
set_option maxRecDepth 100000 in
theorem chalklinelaw14_few.calls (k : Nat) (a0_0 : Int) (A0_1 : Option Addr) (c0_1 : Nat) (l0_1 : List (List Int)) (r : Bool) (w : World) (hr0_1 : Kd.C (Kd.slice 3 (Kd.int .i64)) w A0_1 l0_1.length l0_1) (hc0_1 : l0_1.length ≤ c0_1) (h : chalklinelaw14_few.f k a0_0 l0_1 = some r) :
    Calls Tryz.prog 22 #[.agg #[.int .i64 a0_0, .slice A0_1 l0_1.length c0_1]] w fun e w' => e = .returned (.bool r) ∧ Below w.heap.size w w' := by
  have hu24 := Tryz.underlying24
  have HR0_1 := Aside0.mk hr0_1
  have HC0_1 := Aside0.mk hc0_1
  clear hr0_1 hc0_1
  have HB := Aside0.mk (Below.refl w.heap.size w)
  have H : ((chalklineref14_Few.f k l0_1).bind fun t156 => (some t156)) = some r := h
  clear h
  replace H := Option.bind_eq_some_iff.mp H
  obtain ⟨t156, A20, H⟩ := H
  replace H : (some t156) = some r := H
  have A2 := Aside0.mk A20
  clear A20
  obtain rfl := Option.some.inj H
  go_enter Tryz.func22, Tryz.ntmps22
  go_wp2_with (first | ((with_reducible refine gate_dst (N := 1) rfl ?_); refine box_event ?hg (N := 1) ?hd (cs := #[.int .i64 a0_0, .slice A0_1 l0_1.length c0_1]) (t := 24) ?hr ?_; (case hd => rfl); (case hg => rfl); (case hr => first | (go_simp; done) | (go_simp; rfl)); intro gb155 hg w3 hbox hb; have n0_ := Aside0.mk (below_step (by repeat (first | (with_reducible first | exact HB.out | apply below_alloc | apply pw_below_drewN | apply below_drew1) | exact HB.out)) hb); have n1_ := Aside0.mk (hbox); have n2_ := Aside0.mk ((by rw [hg]; exact (below_size (by repeat (first | (with_reducible first | exact HB.out | apply below_alloc | apply pw_below_drewN | apply below_drew1) | exact HB.out))) : w.heap.size ≤ gb155)); have n3_ := Aside0.mk ((by rw [hg]; exact (below_size (by repeat (first | (with_reducible first | exact HB.out | apply below_alloc | apply pw_below_drewN | apply below_drew1) | exact HB.out))) : w.heap.size ≤ gb155)); clear HB; have HB := n0_; have BK155 := n1_; have GW155 := n2_; have GE155 := n3_; clear n0_ n1_ n2_ n3_; clear hb hbox hg; have hcz4_0 : w3.cell? ⟨gb155, 0, none⟩ = some (.int .i64 a0_0) := (blk_cell BK155.out 0).trans rfl; have hcz4_1 : w3.cell? ⟨gb155, 1, none⟩ = some (.slice A0_1 l0_1.length c0_1) := (blk_cell BK155.out 1).trans rfl; have hfz4_0 := blk_frozen BK155.out 0; have hfz4_1 := blk_frozen BK155.out 1) | ((with_reducible refine gate_callee (f := 43) rfl ?_); refine goesL_ (some 5) rfl rfl Tryz.func43 (by kernel_rfl) rfl #[.slice A0_1 l0_1.length c0_1] rfl (by (try simp only [List.map_toArray, List.map_cons, List.map_nil]); first | done | rfl | (simp only [List.length_drop, List.length_take]; rfl)) ?_; (with_reducible refine (chalklineref14_Few.calls k _ _ l0_1 t156 _ ?side1 ?side2 A2.out).mono ?_); (case side1 => repeat (first | exact (Kd.C_below HR0_1.out HB.out) | (with_reducible refine Kd.C_alloc ?_ _) | (with_reducible refine Kd.C_drewN ?_ _) | (with_reducible refine Kd.C_drew ?_))); (case side2 => exact HC0_1.out); rintro e w' ⟨rfl, ⟨nd, rfl⟩⟩; refine ⟨_, rfl, ?_⟩))
  go_ret
  exact ⟨by first | rfl | (simp [errW_none, errW_some] <;> rfl) | (simp [*, errW_none, errW_some] <;> rfl), by repeat (first | (with_reducible first | exact HB.out | apply below_alloc | apply pw_below_drewN | apply below_drew1 | refine below_set ?_ GE155.out) | exact HB.out)⟩

end Go.Proofs.YtcdhhaedgohlgaaGreatDoor.P
end
