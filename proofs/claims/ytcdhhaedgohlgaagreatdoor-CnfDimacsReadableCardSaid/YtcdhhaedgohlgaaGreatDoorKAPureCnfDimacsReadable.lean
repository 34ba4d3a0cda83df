/- For every text of at most 3,000 bytes: what Get reads is checked, and is read back from what Put writes of it; a text that it does not read gives nothing. -/
import Derived.Test.YtcdhhaedgohlgaaGreatDoorKAPXCnfDimacsReadable
import Derived.Test.YtcdhhaedgohlgaaGreatDoorKAXCnfDimacsReadable
namespace Go.Proofs.YtcdhhaedgohlgaaGreatDoor.Pure
open Go.RowKit Go.Proofs.YtcdhhaedgohlgaaGreatDoor.P Go.Proofs.YtcdhhaedgohlgaaGreatDoorW.PrintWords Go.Proofs.YtcdhhaedgohlgaaGreatDoorW.PrintLast

theorem putSz_size (L : List (List Int)) : putSz L ≤ 22 * size1 L := by
  induction L with
  | nil => simp [putSz]
  | cons l L ih =>
    have h1 : putSz (l :: L) = 22 * l.length + 2 + putSz L := by simp [putSz]
    have h2 : size1 (l :: L) = l.length + 1 + size1 L := by simp [size1]
    omega
theorem size1_len (L : List (List Int)) : L.length ≤ size1 L := by
  induction L with
  | nil => simp
  | cons l L ih =>
    have h2 : size1 (l :: L) = l.length + 1 + size1 L := by simp [size1]
    simp only [List.length_cons]
    omega
theorem putText_len (n : Int) (L : List (List Int)) (h : checkV n L = 0) : (putText n L).length ≤ putSz L + 100 := by
  obtain ⟨h0, h1, h2, h3⟩ := (checkV_zero_iff n L).1 h
  have a := clausesB_len L (fun l hl x hx => by have := litB_range (h2 l hl x hx); omega)
  have b := lineB_nil [n] (fun x hx => by rw [List.mem_singleton.1 hx]; omega)
  have c := Lib.itoa_length_le (L.length : Int) (by omega) (by omega)
  unfold putText
  rw [lineB_end, List.length_append, List.length_append, List.length_append, List.length_append]
  simp only [pHead, List.length_cons, List.length_nil] at b ⊢
  omega
theorem bytesOk_bytesI (bs : List UInt8) : bytesOk (bytesI bs) = true := by
  unfold bytesOk bytesI
  rw [List.all_eq_true]
  intro x hx
  obtain ⟨b, _, rfl⟩ := List.mem_map.1 hx
  have := b.toNat_lt
  simp
  omega
theorem getB_put (n : Int) (L : List (List Int)) (h : checkV n L = 0) (hs : (putText n L).length ≤ 4194304) : getB (putText n L) = (n, L, 0) := by
  unfold getB
  rw [if_neg (by omega)]
  have e := wordsS_put n L [] true
  rw [List.append_nil] at e
  have e0 : wordsS ([] : List UInt8) true false [] = [] := rfl
  rw [e, e0, List.append_nil, getV_put n L h]
theorem bytesOf_len (l : List Int) : (Lib.bytesOf l).length = l.length := by simp [Lib.bytesOf]
theorem readable_bytes {l : List Int} (h : ∀ x ∈ l, (Lit.int .u8 x).wf = true) : bytesOk l = true := by
  unfold bytesOk
  rw [List.all_eq_true]
  intro x hx
  have h1 := h x hx
  have h2 : IntKind.u8.min ≤ x ∧ x ≤ IntKind.u8.max := by simpa [Lit.wf] using h1
  have e1 : IntKind.u8.min = 0 := by decide
  have e2 : IntKind.u8.max = 255 := by decide
  rw [e1, e2] at h2
  simp
  omega
theorem CnfDimacsReadable : chalklinelaw14_CnfDimacsReadable.Pure := by
  intro l _ _ hw
  have hb := readable_bytes hw
  unfold chalklinelaw14_CnfDimacsReadable.f
  have hlive : chalklinelaw14_live.f = some true := rfl
  rw [hlive, Option.bind_some, if_pos rfl]
  by_cases h0 : (l.length : Int) > 3000
  · rw [if_pos h0]
  · rw [if_neg h0]
    have hg : cnf_Get.f l = some (getB (Lib.bytesOf l)) := by unfold cnf_Get.f; rw [if_pos hb]
    rw [hg, Option.bind_some]
    have hl := bytesOf_len l
    have e : getB (Lib.bytesOf l) = getV (wordsS (Lib.bytesOf l) true false []) := by unfold getB; rw [if_neg (by omega)]
    rw [e]
    have hwl := wordsS_len (Lib.bytesOf l) true false []
    generalize hG : getV (wordsS (Lib.bytesOf l) true false []) = g
    obtain ⟨n, L, z⟩ := g
    dsimp only
    by_cases he : z = 0
    · subst he
      rw [if_pos rfl]
      obtain ⟨hc, hs⟩ := getV_ok hG
      simp only [List.length_nil] at hwl
      have hp := putSz_size L
      have ht := putText_len n L hc
      have hput : cnf_Put.f n L = some (bytesI (putText n L), 0) := by
        unfold cnf_Put.f putV
        rw [if_pos (by omega), if_pos hc]
      have hget : cnf_Get.f (bytesI (putText n L)) = some (n, L, 0) := by
        unfold cnf_Get.f
        rw [if_pos (bytesOk_bytesI _), bytesOf_bytesI, getB_put n L hc (by omega)]
      rw [hput, Option.bind_some]
      dsimp only
      rw [hget, Option.bind_some, cnf_Check.f, Option.bind_some, if_pos hc, if_pos rfl, if_pos rfl, cnf_Same.f]
      simp [sameV]
    · rw [if_neg he]
      have h := getV_bad2 _ (show (getV (wordsS (Lib.bytesOf l) true false [])).2.2 ≠ 0 by rw [hG]; exact he)
      rw [hG] at h
      obtain ⟨h1, h2⟩ := h
      dsimp only at h1 h2
      rw [if_pos h1, h2]
      rfl
end Go.Proofs.YtcdhhaedgohlgaaGreatDoor.Pure
