/- What the law CnfResolveSpec rests on, part 2: contracts of the functions that it reaches, and plain lemmas. No condition of its own. -/
import Derived.Test.YtcdhhaedgohlgaaGreatDoorKD1
import Derived.Ground.Names2Prog
import Derived.Shelf.Slices.Clone
import Derived.Shelf.Slices.CompactI
import Derived.Shelf.Slices.Cells
import Derived.Ground.SlgnProg
import Derived.Shelf.SlicesE.Clone
import Derived.Ground.SlgfProg
import Derived.Shelf.SlicesE.DeleteFunc
import Derived.Ground.SlsfProg
import Derived.Shelf.SlSortCmp.Whole1
import Derived.Shelf.SlSortCmp.NoneTotal
import Derived.Test.YtcdhhaedgohlgaaGreatDoorProg
import Derived.Lib.OwnBridge
import Derived.Lib.AppendIntMem
import Derived.Shelf.Spec.SlicesGrow
import Derived.Ground.Names8Prog
import Derived.Shelf.SlicesE.Delete
import Derived.RangeFuncNested
import Derived.RangeFuncBound
import Derived.RangeFuncCalls
import Derived.RangeFuncLeaves
import Derived.Shelf.Bytes.SlIndexAt
import Derived.Shelf.Unicode.DecodeAny
import Derived.Shelf.Abstract
import Derived.Shelf.RegionOpen
import Derived.OwnWalkIn
import Derived.TacticsInMore
import Derived.LoopNIn
import Derived.LoopIn
import Derived.RangeFuncBox
import Derived.Shelf.Spec.DecodeRune
import Derived.Ground.Names7Prog
import Derived.Maps.AppendAt
import Derived.BigRegionIn
set_option linter.unusedVariables false
set_option linter.unusedSimpArgs false
section
namespace Go.Proofs
open Go.Shelf
def Tryz.laysNm215_ren : Go.Shelf.Ren := ⟨fun | 15 => 62 | n => n, fun | 22 => 25 | 3 => 3 | 4 => 4 | n => n, fun | n => n⟩
theorem Tryz.laysNm215 : Go.Proofs.Lays2.n15 Tryz.prog Tryz.laysNm215_ren := {
  mixed := by kernel_rfl
  f15 := Tryz.func62.trans (congrArg some (by kernel_rfl))
  t3 := Tryz.underlying3
  a3 := Tryz.isAgg3
  z3 := Tryz.sizeOf3
  v3 := Tryz.zeroValue3
  t4 := Tryz.underlying4
  a4 := Tryz.isAgg4
  z4 := Tryz.sizeOf4
  v4 := Tryz.zeroValue4
  t22 := Tryz.underlying25
  a22 := Tryz.isAgg25
  z22 := Tryz.sizeOf25
  v22 := Tryz.zeroValue25
  i3 := by kernel_rfl }
open Go.RowKit Go.Lib in
/-- The same at a slice of length 0 that is not nil, WHATEVER ITS ADDRESS (no cell is asked for): a slice that is not nil and owns nothing comes back. (LAID: no walk: one application.) -/
theorem Tryz.slices_Clone_int_zero (a : Addr) (c : Nat) (w : World) :
    Calls Tryz.prog 62 #[.slice (some a) 0 c] w fun e w' => ∃ v', e = .returned v' ∧ w'.ownsRow w.heap.size 3 1 v' 0 [] ∧ v' ≠ .slice none 0 0 ∧ Below w.heap.size w w' := Any.slices_Clone_int_zero Tryz.laysNm215 a c w
def Tryz.laysNm220_ren : Go.Shelf.Ren := ⟨fun | 20 => 70 | n => n, fun | 22 => 25 | 3 => 3 | 4 => 4 | 0 => 0 | n => n, fun | n => n⟩
theorem Tryz.laysNm220 : Go.Proofs.Lays2.n20 Tryz.prog Tryz.laysNm220_ren := {
  mixed := by kernel_rfl
  f20 := Tryz.func70.trans (congrArg some (by kernel_rfl))
  t0 := Tryz.underlying0
  a0 := Tryz.isAgg0
  z0 := Tryz.sizeOf0
  v0 := Tryz.zeroValue0
  t3 := Tryz.underlying3
  a3 := Tryz.isAgg3
  z3 := Tryz.sizeOf3
  v3 := Tryz.zeroValue3
  t4 := Tryz.underlying4
  a4 := Tryz.isAgg4
  z4 := Tryz.sizeOf4
  v4 := Tryz.zeroValue4
  t22 := Tryz.underlying25
  a22 := Tryz.isAgg25
  z22 := Tryz.sizeOf25
  v22 := Tryz.zeroValue25
  i3 := by kernel_rfl }
open Go.RowKit Go.Lib Go.Sort in
/-- slices.Compact at []int: "Compact replaces consecutive runs of equal elements with a single copy. This is like the uniq command found on Unix. Compact modifies the contents of the slice s and returns the modified slice, which may have a smaller length. Compact zeroes the elements between the new length and the original length. The result preserves the nilness of s.": IT RETURNS THE SLICE CUT TO 'Lib.compact zs'; ITS CELLS HOLD 'Lib.compact zs', THEN ZERO VALUES up to the old length; all else is as it was, but for the count of draws. IN THE WORDS OF slices.Sort's CONTRACT ('Holds', 'putRow'): so the everyday 'slices.Sort(xs); xs = slices.Compact(xs)' goes from the one contract to the other. It asks 'zs.length ≤ cap' (every slice's: the reslicing 's[:k]' looks at it). Length 0, nil: '.._empty'. (LAID: no walk: one application.) -/
theorem Tryz.slices_Compact_int (blk off cap : Nat) (zs : List Int) (w : World) (hH : Holds (Value.int .i64) w blk off zs.toArray) (hsz : zs.length ≤ 9223372036854775807) (hcap : zs.length ≤ cap) :
    Calls Tryz.prog 70 #[.slice (some ⟨blk, off, none⟩) zs.length cap] w fun e w' => e = .returned (.slice (some ⟨blk, off, none⟩) (Lib.compact zs).length cap) ∧ ∃ q, w' = putRow (Value.int .i64) (Sort.ahead w q) blk off (Lib.compact zs ++ List.replicate (zs.length - (Lib.compact zs).length) 0).toArray := Any.slices_Compact_int Tryz.laysNm220 blk off cap zs w hH hsz hcap
open Go.RowKit Go.Lib Go.Sort in
/-- The same at a slice of length 0, a nil one too: it comes back as it is. (LAID: no walk: one application.) -/
theorem Tryz.slices_Compact_int_empty (a : Option Addr) (cap : Nat) (w : World) :
    Calls Tryz.prog 70 #[.slice a 0 cap] w fun e w' => e = .returned (.slice a 0 cap) ∧ w' = w := Any.slices_Compact_int_empty Tryz.laysNm220 a cap w
def Tryz.laysSlE041_f62_ren : Go.Shelf.Ren := ⟨fun | 41 => 62 | n => n, fun | 22 => 25 | 23 => 3 | 4 => 4 | n => n, fun | n => n⟩
theorem Tryz.laysSlE041_f62 : Go.Proofs.SlLaysE0.n41 Tryz.prog Tryz.laysSlE041_f62_ren := {
  mixed := by kernel_rfl
  f41 := ⟨Tryz.f62.name, by decide, Tryz.func62.trans (congrArg some (by kernel_rfl))⟩
  t4 := Tryz.underlying4
  a4 := Tryz.isAgg4
  z4 := Tryz.sizeOf4
  v4 := Tryz.zeroValue4
  t22 := Tryz.underlying25
  a22 := Tryz.isAgg25
  z22 := Tryz.sizeOf25
  v22 := Tryz.zeroValue25 }
open Go.RowKit Go.Lib in
/-- slices.Clone: "Clone returns a copy of the slice. The elements are copied using assignment, so this is a shallow clone. The result may have additional unused capacity. The result preserves the nilness of s.": OF A SLICE THAT IS NOT nil IT RETURNS A SLICE THAT IS NOT nil, OF THE SAME CELLS, IN MEMORY OF THE CALL's OWN ('ownsRow': the how-to's 6f); below the heap's size at the call all is as it was. (LAID AT THE INSTANCE 'slices.Clone[[]int,int]': no walk: one application.) -/
theorem Tryz.slices_Clone_f62 (i0 : TypeInfo) (z : Value) (size bytes : Nat) (hi : Tryz.prog.info? 3 = some i0) (hz0 : i0.zero = some z) (hz1 : i0.size = size) (hz2 : i0.bytes = bytes) (hzs : z.cells.size = size) (hsz : 0 < size) (z23 : ∀ w, (Go.sizeOf 3).run Tryz.prog w = .ok size w) (b off n c : Nat) (news : List Value) (w : World) (hl : news.length = n * size) (hn : n ≤ maxLen) (hbig : n * bytes ≤ 140737488355328) (hc : ∀ j u, news[j]? = some u → w.cell? ⟨b, off + j, none⟩ = some u) (h1 : ∀ u ∈ news, u.oneCell' = true) :
    Calls Tryz.prog 62 #[.slice (some ⟨b, off, none⟩) n c] w fun e w' => ∃ v', e = .returned v' ∧ w'.ownsRow w.heap.size 3 size v' n news ∧ v' ≠ .slice none 0 0 ∧ Below w.heap.size w w' := AnyE.slices_Clone Tryz.laysSlE041_f62 i0 z size bytes hi hz0 hz1 hz2 hzs hsz z23 b off n c news w hl hn hbig hc h1
open Go.RowKit Go.Lib in
/-- The same at nil: nil comes back; the world is as it was; nothing is asked of the element's type. (LAID AT THE INSTANCE 'slices.Clone[[]int,int]': no walk: one application.) -/
theorem Tryz.slices_Clone_nil_f62 (n c : Nat) (w : World) :
    Calls Tryz.prog 62 #[.slice none n c] w fun e w' => e = .returned (.slice none 0 0) ∧ w' = w := AnyE.slices_Clone_nil Tryz.laysSlE041_f62 n c w
def Tryz.laysSlH10_f61_ren : Go.Shelf.Ren := ⟨fun | 10 => 61 | 6 => 124 | n => n, fun | 22 => 25 | 23 => 3 | 25 => 80 | 3 => 3 | 4 => 4 | 0 => 0 | n => n, fun | n => n⟩
theorem Tryz.laysSlH10_f61 : Go.Proofs.SlLaysH.n10 Tryz.prog Tryz.laysSlH10_f61_ren := {
  mixed := by kernel_rfl
  f6 := ⟨Tryz.f124.name, by decide, Tryz.func124.trans (congrArg some (by kernel_rfl))⟩
  f10 := ⟨Tryz.f61.name, by decide, Tryz.func61.trans (congrArg some (by kernel_rfl))⟩
  t0 := Tryz.underlying0
  a0 := Tryz.isAgg0
  z0 := Tryz.sizeOf0
  v0 := Tryz.zeroValue0
  t3 := Tryz.underlying3
  a3 := Tryz.isAgg3
  z3 := Tryz.sizeOf3
  v3 := Tryz.zeroValue3
  t4 := Tryz.underlying4
  a4 := Tryz.isAgg4
  z4 := Tryz.sizeOf4
  v4 := Tryz.zeroValue4
  t22 := Tryz.underlying25
  a22 := Tryz.isAgg25
  z22 := Tryz.sizeOf25
  v22 := Tryz.zeroValue25
  a23 := Tryz.isAgg3
  z23 := Tryz.sizeOf3
  t25 := Tryz.underlying80
  a25 := Tryz.isAgg80
  z25 := Tryz.sizeOf80
  v25 := Tryz.zeroValue80 }
open Go.RowKit Go.Lib Go.Sort in
theorem Tryz.slices_DeleteFunc {α : Type} [Inhabited α] (enc : α → Value) (hO : OneCell enc) (p : α → Bool) (g : Nat) (lb : Array Value) (eg : ∀ args w, (callFunc g args).run Tryz.prog w = .ok (.enter g args) w) (zr : α) (v23 : ∀ w, (zeroValue 3).run Tryz.prog w = .ok (enc zr) w) (blk off cap : Nat) (d : Array α) (w : World) (hp : PredAt Tryz.prog g lb enc p w) (hpo : PredOver Tryz.prog g lb enc p blk off d.size w) (hH : Holds enc w blk off d) (hsz : d.size ≤ 9223372036854775807) (hcap : d.size ≤ cap) :
    Calls Tryz.prog 61 #[.slice (some ⟨blk, off, none⟩) d.size cap, .func (.func g) #[] lb] w fun e w' => e = .returned (.slice (some ⟨blk, off, none⟩) (d.toList.filter fun x => !p x).length cap) ∧ ∃ q, w' = putRow enc (Sort.ahead w q) blk off ((d.toList.filter fun x => !p x) ++ List.replicate (d.size - (d.toList.filter fun x => !p x).length) zr).toArray := AnyE.slices_DeleteFunc Tryz.laysSlH10_f61 enc hO p g lb eg zr v23 blk off cap d w hp hpo hH hsz hcap
def Tryz.laysSlF6_f65_ren : Go.Shelf.Ren := ⟨fun | 6 => 65 | 15 => 126 | 14 => 125 | 28 => 163 | 29 => 164 | 20 => 155 | 21 => 156 | 22 => 157 | 23 => 158 | 24 => 159 | 25 => 160 | 26 => 161 | 27 => 162 | 46 => 190 | 47 => 191 | 48 => 192 | 49 => 193 | 50 => 194 | 57 => 217 | n => n, fun | 22 => 25 | 24 => 3 | 25 => 83 | 3 => 3 | 39 => 144 | 0 => 0 | 53 => 169 | 55 => 171 | 4 => 4 | 46 => 163 | 45 => 162 | 50 => 111 | 5 => 5 | 9 => 9 | 66 => 187 | 70 => 191 | 76 => 207 | 77 => 208 | n => n, fun | n => n⟩
theorem Tryz.laysSlF6_f65 : Go.Proofs.SlLaysF.n6 Tryz.prog Tryz.laysSlF6_f65_ren := {
  mixed := by kernel_rfl
  f6 := ⟨Tryz.f65.name, by decide, Tryz.func65.trans (congrArg some (by kernel_rfl))⟩
  f14 := ⟨Tryz.f125.name, by decide, Tryz.func125.trans (congrArg some (by kernel_rfl))⟩
  f15 := Tryz.func126.trans (congrArg some (by kernel_rfl))
  f20 := ⟨Tryz.f155.name, by decide, Tryz.func155.trans (congrArg some (by kernel_rfl))⟩
  f21 := ⟨Tryz.f156.name, by decide, Tryz.func156.trans (congrArg some (by kernel_rfl))⟩
  f22 := ⟨Tryz.f157.name, by decide, Tryz.func157.trans (congrArg some (by kernel_rfl))⟩
  f23 := ⟨Tryz.f158.name, by decide, Tryz.func158.trans (congrArg some (by kernel_rfl))⟩
  f24 := ⟨Tryz.f159.name, by decide, Tryz.func159.trans (congrArg some (by kernel_rfl))⟩
  f25 := ⟨Tryz.f160.name, by decide, Tryz.func160.trans (congrArg some (by kernel_rfl))⟩
  f26 := ⟨Tryz.f161.name, by decide, Tryz.func161.trans (congrArg some (by kernel_rfl))⟩
  f27 := ⟨Tryz.f162.name, by decide, Tryz.func162.trans (congrArg some (by kernel_rfl))⟩
  f28 := Tryz.func163.trans (congrArg some (by kernel_rfl))
  f29 := Tryz.func164.trans (congrArg some (by kernel_rfl))
  f46 := ⟨Tryz.f190.name, by decide, Tryz.func190.trans (congrArg some (by kernel_rfl))⟩
  f47 := Tryz.func191.trans (congrArg some (by kernel_rfl))
  f48 := Tryz.func192.trans (congrArg some (by kernel_rfl))
  f49 := ⟨Tryz.f193.name, by decide, Tryz.func193.trans (congrArg some (by kernel_rfl))⟩
  f50 := ⟨Tryz.f194.name, by decide, Tryz.func194.trans (congrArg some (by kernel_rfl))⟩
  f57 := ⟨Tryz.f217.name, by decide, Tryz.func217.trans (congrArg some (by kernel_rfl))⟩
  t0 := Tryz.underlying0
  a0 := Tryz.isAgg0
  z0 := Tryz.sizeOf0
  v0 := Tryz.zeroValue0
  t3 := Tryz.underlying3
  a3 := Tryz.isAgg3
  z3 := Tryz.sizeOf3
  v3 := Tryz.zeroValue3
  t4 := Tryz.underlying4
  a4 := Tryz.isAgg4
  z4 := Tryz.sizeOf4
  v4 := Tryz.zeroValue4
  t5 := Tryz.underlying5
  a5 := Tryz.isAgg5
  z5 := Tryz.sizeOf5
  v5 := Tryz.zeroValue5
  t9 := Tryz.underlying9
  a9 := Tryz.isAgg9
  z9 := Tryz.sizeOf9
  v9 := Tryz.zeroValue9
  t22 := Tryz.underlying25
  a22 := Tryz.isAgg25
  z22 := Tryz.sizeOf25
  v22 := Tryz.zeroValue25
  a24 := Tryz.isAgg3
  z24 := Tryz.sizeOf3
  t25 := Tryz.underlying83
  a25 := Tryz.isAgg83
  z25 := Tryz.sizeOf83
  v25 := Tryz.zeroValue83
  t39 := Tryz.underlying144
  a39 := Tryz.isAgg144
  z39 := Tryz.sizeOf144
  v39 := Tryz.zeroValue144
  t45 := Tryz.underlying162
  a45 := Tryz.isAgg162
  z45 := Tryz.sizeOf162
  v45 := Tryz.zeroValue162
  t46 := Tryz.underlying163
  a46 := Tryz.isAgg163
  z46 := Tryz.sizeOf163
  v46 := Tryz.zeroValue163
  t50 := Tryz.underlying111
  a50 := Tryz.isAgg111
  z50 := Tryz.sizeOf111
  v50 := Tryz.zeroValue111
  t53 := Tryz.underlying169
  a53 := Tryz.isAgg169
  z53 := Tryz.sizeOf169
  v53 := Tryz.zeroValue169
  t55 := Tryz.underlying171
  a55 := Tryz.isAgg171
  z55 := Tryz.sizeOf171
  v55 := Tryz.zeroValue171
  t66 := Tryz.underlying187
  a66 := Tryz.isAgg187
  z66 := Tryz.sizeOf187
  v66 := Tryz.zeroValue187
  t70 := Tryz.underlying191
  a70 := Tryz.isAgg191
  z70 := Tryz.sizeOf191
  v70 := Tryz.zeroValue191
  t76 := Tryz.underlying207
  a76 := Tryz.isAgg207
  z76 := Tryz.sizeOf207
  v76 := Tryz.zeroValue207
  t77 := Tryz.underlying208
  a77 := Tryz.isAgg208
  z77 := Tryz.sizeOf208
  v77 := Tryz.zeroValue208 }
open Go.RowKit Go.Lib Go.Sort in
/-- **slices.SortFunc, IN THE DOCUMENTATION's OWN TERMS: A PERMUTATION OF WHAT THE ROW HELD, SORTED BY 'cmp(a, b) < 0'.** Which of two equals comes first is left open ("The sort is not guaranteed to be stable"). (LAID AT THE INSTANCE 'slices.SortFunc[[]int,int]': no walk: one application.) -/
theorem Tryz.slices_SortFunc {α : Type} [Inhabited α] (enc : α → Value) (h1 : OneCell enc) (cf : α → α → Int) (hO : SWO (ltOf cf)) (g : Nat) (cb : Array Value) (blk off cap : Nat) (d : Array α) (w : World) (eg : ∀ args w, (callFunc g args).run Tryz.prog w = .ok (.enter g args) w) (hcmp : CmpLays1 Tryz.prog g cb enc cf blk off d.size w) (hH : Holds enc w blk off d) (hblk : blk < w.heap.size) (hsz : d.size < 4611686018427387904) :
    Calls Tryz.prog 65 #[.slice (some ⟨blk, off, none⟩) d.size cap, .func (.func g) #[] cb] w fun e w' =>
      e = .returned (.tuple #[]) ∧ ∃ d' n os, PermIn 0 d.size d d' ∧ SortedIn (ltOf cf) 0 d.size d' ∧ w' = sortWorld enc w blk off n d' os := Any.slices_SortFunc Tryz.laysSlF6_f65 enc h1 cf hO g cb blk off cap d w eg hcmp hH hblk hsz
open Go.RowKit Go.Lib Go.Sort in
theorem Tryz.slices_SortFunc_none (p : Option Addr) (cap : Nat) (fv : Value) (w : World) :
    Calls Tryz.prog 65 #[.slice p 0 cap, fv] w fun e w' => e = .returned (.tuple #[]) ∧ w' = w := AnyF.slices_SortFunc_none { Tryz.laysSlF6_f65 with } p cap fv w
end Go.Proofs
end

section
namespace Go.Proofs.YtcdhhaedgohlgaaGreatDoor.P
open Go.RowKit Go.Proofs.YtcdhhaedgohlgaaGreatDoorW.PrintWords Go.Proofs.YtcdhhaedgohlgaaGreatDoorW.PrintLast Go.Proofs.YtcdhhaedgohlgaaGreatDoorW.PrintMore
set_option linter.unusedVariables false
set_option linter.unusedSimpArgs false

abbrev RI (w : World) (base : Nat) (v : Value) (l : List Int) : Prop := Kd.R (Kd.int .i64) 3 w base (fun _ => True) v l

theorem RI.below {w0 w w' : World} {base : Nat} {v : Value} {l : List Int} (hR : RI w base v l) (hB : Below base w0 w) (hb : base ≤ w.heap.size) (hG : w.grownBy w' v.ownBlock) : Below base w0 w' := by
  obtain ⟨inner, ho⟩ := Kd.R_own hR
  exact hB.grown hG hb (fun k e => own_base ho k e)

theorem RI.own {w : World} {base : Nat} {v : Value} {l : List Int} (h : RI w base v l) : w.ownsRow base 3 1 v l.length (l.map (Value.int .i64)) := Kd.own_of_R h
theorem RI.of_own {w : World} {base : Nat} {v : Value} {l : List Int} (h : w.ownsRow base 3 1 v l.length (l.map (Value.int .i64))) : RI w base v l := Kd.R_of_own h (fun _ _ => trivial)
theorem RI.nil (w : World) (base : Nat) : RI w base (.slice none 0 0) [] := RI.of_own ⟨rfl, .inl ⟨rfl, rfl⟩⟩
theorem grownBy_drewN (w : World) (n : Nat) (row : Option Nat) : w.grownBy (w.drewN n) row := ⟨rfl, rfl, rfl, Nat.le_refl _, fun _ _ _ => rfl⟩

/-- The cells of a slice that is read, one behind the other. -/
theorem cells_of_C {w : World} {A : Option Addr} {l : List Int} (h : Kd.C (Kd.int .i64) w A l.length l) (hn : 0 < l.length) :
    ∃ b off, A = some ⟨b, off, none⟩ ∧ ∀ j u, (l.map (Value.int .i64))[j]? = some u → w.cell? ⟨b, off + j, none⟩ = some u := by
  obtain ⟨ad, e, h0⟩ := Kd.at_int h 0 (by omega) (by omega)
  obtain ⟨b, off, sp⟩ := ad
  have hs : sp = none := by
    have h1 : (Addr.add ⟨b, off, sp⟩ (0 : Int).toNat) = ⟨b, off, sp⟩ := rfl
    rw [h1] at h0
    unfold World.cell? at h0
    cases hh : w.heap[b]? with
    | none => simp [hh] at h0
    | some o =>
      cases o with
      | cells c t f =>
        simp only [hh] at h0
        cases sp with
        | none => rfl
        | some x => simp at h0
      | _ => simp [hh] at h0
  subst hs
  refine ⟨b, off, e, fun j u hj => ?_⟩
  have hjl : j < l.length := by
    have := (List.getElem?_eq_some_iff.1 hj).1
    simpa using this
  obtain ⟨ad', e', hx⟩ := Kd.at_int h (j : Int) (by omega) (by omega)
  rw [e] at e'
  injection e' with e'
  subst e'
  rw [Int.toNat_natCast] at hx
  have ha : (Addr.add ⟨b, off, none⟩ j) = ⟨b, off + j, none⟩ := by
    unfold Addr.add
    split
    · rename_i h0; subst h0; rfl
    · rfl
  rw [ha] at hx
  rw [hx, ← hj, List.getElem?_map, List.getElem?_eq_getElem hjl]
  unfold rd
  simp [List.getD_eq_getElem?_getD, List.getElem?_eq_getElem hjl]

theorem infoI3 : ∃ i0, Tryz.prog.info? 3 = some i0 ∧ i0.zero = some (.int .i64 0) ∧ i0.size = 1 ∧ i0.bytes = 8 := by
  have h : (Tryz.prog.info? 3).map (fun i => (i.zero, i.size, i.bytes)) = some (some (.int .i64 0), 1, 8) := by kernel_rfl
  cases hi : Tryz.prog.info? 3 with
  | none => rw [hi] at h; cases h
  | some i0 =>
    rw [hi] at h
    injection h with h
    injection h with h1 h
    injection h with h2 h3
    exact ⟨i0, rfl, h1, h2, h3⟩
theorem size3 : ∀ w, (Go.sizeOf 3).run Tryz.prog w = .ok 1 w := by intro w; kernel_rfl
theorem zero3 : ∀ w, (zeroValue 3).run Tryz.prog w = .ok (.int .i64 0) w := by intro w; kernel_rfl

theorem Clone_int (A0 : Option Addr) (c0 : Nat) (l0 : List Int) (w : World) (hr0 : Kd.C (Kd.int .i64) w A0 l0.length l0) (hc0 : l0.length ≤ c0) (hlt : l0.length < 17592186044416) :
    Calls Tryz.prog 62 #[.slice A0 l0.length c0] w fun e w' => ∃ v, e = .returned v ∧ RI w' w.heap.size v l0 ∧ Below w.heap.size w w' := by
  cases A0 with
  | none =>
    have h0 : l0 = [] := by
      rcases Nat.eq_zero_or_pos l0.length with h | h
      · exact List.eq_nil_of_length_eq_zero h
      · obtain ⟨b, off, e, _⟩ := cells_of_C hr0 h
        cases e
    subst h0
    refine (Tryz.slices_Clone_nil_f62 _ _ w).mono ?_
    rintro e w' ⟨rfl, rfl⟩
    exact ⟨_, rfl, RI.nil _ _, Below.refl _ _⟩
  | some ad =>
    rcases Nat.eq_zero_or_pos l0.length with h | h
    · have h0 : l0 = [] := List.eq_nil_of_length_eq_zero h
      subst h0
      refine (Tryz.slices_Clone_int_zero ad _ w).mono ?_
      rintro e w' ⟨v, rfl, ho, _, hB⟩
      exact ⟨_, rfl, RI.of_own ho, hB⟩
    · obtain ⟨b, off, e, hc⟩ := cells_of_C hr0 h
      injection e with e
      subst e
      obtain ⟨i0, hi, hz0, hz1, hz2⟩ := infoI3
      refine (Tryz.slices_Clone_f62 i0 (.int .i64 0) 1 8 hi hz0 hz1 hz2 rfl (by decide) size3 b off l0.length c0 (l0.map (Value.int .i64)) w (by simp) (by unfold maxLen; omega) (by omega) hc (by intro u hu; obtain ⟨x, _, rfl⟩ := List.mem_map.1 hu; rfl)).mono ?_
      rintro e w' ⟨v, rfl, ho, _, hB⟩
      exact ⟨_, rfl, RI.of_own ho, hB⟩

theorem grownBy_putRow {α : Type} [Inhabited α] {enc : α → Value} {w : World} {g n : Nat} {os : Array Obj} (d : Array α) : w.grownBy (Go.Sort.grow (Go.Sort.putRow enc (Go.Sort.ahead w n) g 0 d) os) (some g) := by
  refine ⟨rfl, rfl, rfl, by simp [Go.Sort.grow, Go.Sort.putRow, Go.Sort.mapBlock, Go.Sort.ahead], fun k hk hne => ?_⟩
  rw [Go.Sort.heap_grow_old _ _ (by simpa [Go.Sort.putRow, Go.Sort.mapBlock, Go.Sort.ahead] using hk)]
  have : g ≠ k := fun e => hne (by rw [e])
  simp [Go.Sort.putRow, Go.Sort.mapBlock, Go.Sort.ahead, Array.getElem?_modify, this]

theorem RI.cases {w : World} {base : Nat} {v : Value} {l : List Int} (h : RI w base v l) : (v = .slice none 0 0 ∧ l = []) ∨ v ≠ .slice none 0 0 := by
  by_cases hv : v = .slice none 0 0
  · subst hv
    rcases h.own.2 with ⟨_, h0⟩ | ⟨g, cap, cur, e, _⟩
    · exact .inl ⟨rfl, List.eq_nil_of_length_eq_zero h0⟩
    · cases e
  · exact .inr hv

theorem grownBy_of_below {w w' : World} (h : Below w.heap.size w w') (row : Option Nat) : w.grownBy w' row := ⟨h.os, h.tape, h.output, h.size, fun k hk _ => h.block k hk⟩

set_option maxRecDepth 100000
theorem DeleteFunc_lit (v : Value) (l : List Int) (w : World) (base : Nat) (hR : RI w base v l) :
    Calls Tryz.prog 61 #[v, .func (.func 63) #[] #[]] w fun e w' => ∃ v', e = .returned v' ∧ RI w' base v' (l.filter (litB 65536)) ∧ w.grownBy w' v.ownBlock ∧ (v'.ownBlock = v.ownBlock) := by
  have e63 : ∀ args w, (callFunc 63 args).run Tryz.prog w = .ok (.enter 63 args) w := by intro args w; kernel_rfl
  rcases hR.cases with ⟨rfl, rfl⟩ | hv
  · have HI := fun W => Aside0.mk (IndexFunc_int 63 #[] (fun x => !litB 65536 x) e63 none 0 [] W ⟨rfl, by simp, fun h => absurd h (by simp)⟩ (by simp) (by intro W x hx; cases hx))
    have hm : idxF (fun x => !litB 65536 x) [] = -1 := rfl
    go_enter Tryz.func61, Tryz.ntmps61
    go_wp2_with (go_at_call 124; refine ((HI _).out).mono ?_; rintro e w' ⟨rfl, hb⟩; have HB := Aside0.mk hb; clear hb)
    go_ret
    exact ⟨_, rfl, RI.nil _ _, grownBy_of_below HB.out _, rfl⟩
  · obtain ⟨g, cap, rfl, hb, hlt, hn, hm, hl, hH⟩ := Go.Lib.holds_of_ownsRow hR.own hv
    have hsz : (l.toArray).size = l.length := by simp
    have h := Tryz.slices_DeleteFunc (Value.int .i64) (fun _ => rfl) (fun x => !litB 65536 x) 63 #[] e63 0 zero3 g 0 cap l.toArray w (fun W x _ => norm1 x W) (fun n os dk x _ => norm1 x _) hH (by unfold maxLen at hm; omega) (by omega)
    have hf : (l.toArray.toList.filter fun x => !(!litB 65536 x)) = l.filter (litB 65536) := by simp
    rw [hf, hsz] at h
    refine h.mono ?_
    rintro e w' ⟨rfl, q, rfl⟩
    have hle : (l.filter (litB 65536)).length ≤ l.length := List.length_filter_le _ _
    refine ⟨_, rfl, RI.of_own ?_, ?_, rfl⟩
    · have := Go.Lib.ownsRow_putRow (enc := Value.int .i64) (q := q) (k := (l.filter (litB 65536)).length) (ys := l.filter (litB 65536) ++ List.replicate (l.length - (l.filter (litB 65536)).length) 0) hR.own (by simp; omega) hle
      rw [List.take_left' rfl] at this
      exact this
    · have := grownBy_putRow (enc := Value.int .i64) (w := w) (g := g) (n := q) (os := #[]) (l.filter (litB 65536) ++ List.replicate (l.length - (l.filter (litB 65536)).length) 0).toArray
      rw [Go.Sort.grow_empty] at this
      exact this

def restC (l : List Int) : List Int := ((List.range (l.length - 1)).filter fun j => decide (l.getD (j + 1) 0 ≠ l.getD j 0)).map fun j => l.getD (j + 1) 0

theorem compact_cons (x : Int) (l : List Int) : Go.Lib.compact (x :: l) = x :: restC (x :: l) := by
  have hk : ∀ j, Go.Lib.keeps (x :: l).toArray (j + 1) = decide ((x :: l).getD (j + 1) 0 ≠ (x :: l).getD j 0) := by
    intro j
    unfold Go.Lib.keeps
    have e : ∀ k, (x :: l).toArray[k]! = (x :: l).getD k 0 := by
      intro k
      simp [List.getD_eq_getElem?_getD, Array.getElem!_eq_getD, Array.getD_eq_getD_getElem?]
    rw [e, e]
    simp
  have e : ∀ k, (x :: l).toArray[k]! = (x :: l).getD k 0 := by
    intro k
    simp [List.getD_eq_getElem?_getD, Array.getElem!_eq_getD, Array.getD_eq_getD_getElem?]
  unfold Go.Lib.compact Go.Lib.compactUpTo restC
  rw [List.length_cons, List.range_succ_eq_map, Nat.add_sub_cancel]
  have h0 : Go.Lib.keeps (x :: l).toArray 0 = true := by simp [Go.Lib.keeps]
  rw [List.filter_cons, if_pos h0, List.filter_map, List.map_cons, List.map_map]
  congr 1
  have e1 : ((fun x_1 => (x :: l).toArray[x_1]!) ∘ Nat.succ) = fun j => (x :: l).getD (j + 1) 0 := by funext j; exact e (j + 1)
  have e2 : (Go.Lib.keeps (x :: l).toArray ∘ Nat.succ) = fun j => decide ((x :: l).getD (j + 1) 0 ≠ (x :: l).getD j 0) := by funext j; exact hk j
  rw [e1, e2]

theorem restC_cons (x y : Int) (l : List Int) : restC (x :: y :: l) = (if y ≠ x then [y] else []) ++ restC (y :: l) := by
  unfold restC
  have : (x :: y :: l).length - 1 = ((y :: l).length - 1) + 1 := by simp
  rw [this, List.range_succ_eq_map, List.filter_cons, List.filter_map]
  have e1 : (fun j => decide ((x :: y :: l).getD (j + 1) 0 ≠ (x :: y :: l).getD j 0)) ∘ Nat.succ = fun j => decide ((y :: l).getD (j + 1) 0 ≠ (y :: l).getD j 0) := by funext j; rfl
  rw [e1]
  by_cases h : y ≠ x
  · rw [if_pos h, if_pos (by simpa using h), List.map_cons, List.map_map]
    rfl
  · rw [if_neg h, if_neg (by simpa using h), List.map_map]
    rfl

theorem Compact_eq : ∀ l : List Int, Go.Lib.compact l = compactL l
  | [] => rfl
  | [x] => by rw [compact_cons]; rfl
  | x :: y :: l => by
    have ih := Compact_eq (y :: l)
    rw [compact_cons] at ih
    rw [compact_cons, restC_cons]
    unfold compactL
    rw [← ih]
    by_cases h : x = y
    · subst h; simp
    · rw [if_neg h, if_pos (fun e => h e.symm)]; rfl

theorem Compact_int (v : Value) (l : List Int) (w : World) (base : Nat) (hR : RI w base v l) :
    Calls Tryz.prog 70 #[v] w fun e w' => ∃ v', e = .returned v' ∧ RI w' base v' (compactL l) ∧ w.grownBy w' v.ownBlock := by
  rcases hR.cases with ⟨rfl, rfl⟩ | hv
  · refine (Tryz.slices_Compact_int_empty none 0 w).mono ?_
    rintro e w' ⟨rfl, rfl⟩
    exact ⟨_, rfl, RI.nil _ _, grownBy_drewN _ 0 _⟩
  · obtain ⟨g, cap, rfl, hb, hlt, hn, hm, hl, hH⟩ := Go.Lib.holds_of_ownsRow hR.own hv
    have h := Tryz.slices_Compact_int g 0 cap l w hH (by unfold maxLen at hm; omega) hn
    rw [Compact_eq] at h
    refine h.mono ?_
    rintro e w' ⟨rfl, q, rfl⟩
    have hle : (compactL l).length ≤ l.length := by
      rw [← Compact_eq]
      unfold Go.Lib.compact Go.Lib.compactUpTo
      rw [List.length_map]
      exact Nat.le_trans (List.length_filter_le _ _) (by simp)
    refine ⟨_, rfl, RI.of_own ?_, ?_⟩
    · have := Go.Lib.ownsRow_putRow (enc := Value.int .i64) (q := q) (k := (compactL l).length) (ys := compactL l ++ List.replicate (l.length - (compactL l).length) 0) hR.own (by simp; omega) hle
      rw [List.take_left' rfl] at this
      exact this
    · have := grownBy_putRow (enc := Value.int .i64) (w := w) (g := g) (n := q) (os := #[]) (compactL l ++ List.replicate (l.length - (compactL l).length) 0).toArray
      rw [Go.Sort.grow_empty] at this
      exact this

abbrev Bnd := { x : Int // -9223372036854775807 ≤ x ∧ x ≤ 9223372036854775807 }
instance : Inhabited Bnd := ⟨⟨0, by decide, by decide⟩⟩
def encB (x : Bnd) : Value := .int .i64 x.1
def cmpB (x y : Bnd) : Int := cmpL x.1 y.1

theorem ltOf_cmpB (x y : Bnd) : ltOf cmpB x y = lt x.1 y.1 := cmpL_lt x.1 y.1

theorem lt_ntrans {x y z : Int} (h1 : lt x y = false) (h2 : lt y z = false) : lt x z = false := by
  cases h : lt x z with
  | false => rfl
  | true =>
    by_cases hxy : x = y
    · subst hxy; rw [h] at h2; cases h2
    · rcases lt_total hxy with k | k
      · rw [k] at h1; cases h1
      · rw [lt_trans k h] at h2; cases h2

theorem SortFunc_lit (v : Value) (l : List Int) (w : World) (base : Nat) (hR : RI w base v l) (hlt : l.length < 17592186044416) (hb : ∀ x ∈ l, -9223372036854775807 ≤ x ∧ x ≤ 9223372036854775807) :
    Calls Tryz.prog 65 #[v, .func (.func 66) #[] #[]] w fun e w' => e = .returned (.tuple #[]) ∧ ∃ s, s.Perm l ∧ Sorted s ∧ RI w' base v s ∧ w.grownBy w' v.ownBlock := by
  have e66 : ∀ args w, (callFunc 66 args).run Tryz.prog w = .ok (.enter 66 args) w := by intro args w; kernel_rfl
  rcases hR.cases with ⟨rfl, rfl⟩ | hv
  · refine (Tryz.slices_SortFunc_none none 0 _ w).mono ?_
    rintro e w' ⟨rfl, rfl⟩
    exact ⟨rfl, [], List.Perm.refl _, List.Pairwise.nil, RI.nil _ _, grownBy_drewN _ 0 _⟩
  · have hmap : (l.attach.map fun x => (⟨x.1, hb x.1 x.2⟩ : Bnd)).map encB = l.map (Value.int .i64) := by
      rw [List.map_map]
      have : (encB ∘ fun x : { x // x ∈ l } => (⟨x.1, hb x.1 x.2⟩ : Bnd)) = fun x => Value.int .i64 x.1 := rfl
      rw [this]
      exact List.attach_map_val
    generalize hL : (l.attach.map fun x => (⟨x.1, hb x.1 x.2⟩ : Bnd)) = L at hmap
    have hlen : L.length = l.length := by rw [← hL]; simp
    have hval : L.map (·.1) = l := by
      rw [← hL, List.map_map]
      exact (List.attach_map_val (f := id)).trans (List.map_id l)
    have hown := hR.own
    rw [← hmap] at hown
    obtain ⟨g, cap, rfl, hb, hgl, hn, hm, hl, hH⟩ := Go.Lib.holds_of_ownsRow hown hv
    have hsz : (L.toArray).size = l.length := by simp [hlen]
    have hO : Go.Sort.SWO (ltOf cmpB) := ⟨fun x => by rw [ltOf_cmpB]; exact lt_irrefl _, fun x y z h1 h2 => by rw [ltOf_cmpB] at *; exact lt_trans h1 h2, fun x y z h1 h2 => by rw [ltOf_cmpB] at *; exact lt_ntrans h1 h2⟩
    have h := Tryz.slices_SortFunc encB (fun _ => rfl) cmpB hO 66 #[] g 0 cap L.toArray w e66 (fun m os dk _ x y => norm2 x.1 y.1 x.2 y.2 _) hH hgl (by rw [hsz]; omega)
    rw [hsz] at h
    refine h.mono ?_
    rintro e w' ⟨rfl, d', n, os, ⟨hs1, hs2, hs3⟩, hs4, rfl⟩
    have hd : d'.size = l.length := by rw [hs1, hsz]
    have hp : d'.toList.Perm L := by
      have e1 : (d'.extract 0 l.length).toList = d'.toList := by rw [← hd]; simp
      have e2 : (L.toArray.extract 0 l.length).toList = L := by simp [← hlen]
      rw [e1, e2] at hs3
      exact hs3
    refine ⟨rfl, d'.toList.map (·.1), ?_, ?_, ?_, grownBy_putRow d'⟩
    · rw [← hval]; exact hp.map _
    · show List.Pairwise _ _
      rw [List.pairwise_map]
      rw [List.pairwise_iff_getElem]
      intro i j hi hj hij
      have h1 := hs4 i j (Nat.zero_le _) hij (by simpa [hd] using hj)
      rw [ltOf_cmpB] at h1
      have hi' : i < d'.size := by simpa using hi
      have hj' : j < d'.size := by simpa using hj
      rw [getElem!_pos d' i hi', getElem!_pos d' j hj'] at h1
      simpa using h1
    · refine RI.of_own ?_
      have h1 := Go.Lib.ownsRow_putRow (enc := encB) (q := n) (k := l.length) (ys := d'.toList) hown (by simpa using hd) (Nat.le_refl _)
      have h2 := Go.Lib.ownsRow_grow h1 0 os
      rw [List.take_of_length_le (by simp [hd])] at h2
      have e3 : (d'.toList.map (·.1)).length = l.length := by simp [hd]
      have e4 : (d'.toList.map (·.1)).map (Value.int .i64) = d'.toList.map encB := by rw [List.map_map]; rfl
      rw [e3, e4]
      exact h2
end Go.Proofs.YtcdhhaedgohlgaaGreatDoor.P
end

section
namespace Go.Proofs.YtcdhhaedgohlgaaGreatDoor.P
open Go.RowKit Go.Proofs.YtcdhhaedgohlgaaGreatDoorW.PrintWords Go.Proofs.YtcdhhaedgohlgaaGreatDoorW.PrintLast Go.Proofs.YtcdhhaedgohlgaaGreatDoorW.PrintMore
set_option linter.unusedVariables false
set_option linter.unusedSimpArgs false

def cnf_Norm.f (l0 : List Int) : Option (List Int × Bool) := if l0.length < 17592186044416 then some (normL l0, tautL l0) else none

theorem lit_bound {n x : Int} (h : litB n x = true) : -n ≤ x ∧ x ≤ n := (litB_range h).2

set_option maxHeartbeats 4000000 in
set_option maxRecDepth 100000 in
theorem cnf_Norm.calls (A0 : Option Addr) (c0 : Nat) (l0 : List Int) (r1 : List Int) (r2 : Bool) (w : World) (hr0 : Kd.C (Kd.int .i64) w A0 l0.length l0) (hc0 : l0.length ≤ c0) (h : cnf_Norm.f l0 = some (r1, r2)) :
    Calls Tryz.prog 23 #[.slice A0 l0.length c0] w fun e w' => ∃ v0_ : Value, e = .returned (.tuple #[v0_, .bool r2]) ∧ Kd.R (Kd.int .i64) 3 w' w.heap.size (fun _ => True) v0_ r1 ∧ Below w.heap.size w w' := by
  unfold cnf_Norm.f at h
  by_cases hlt : l0.length < 17592186044416
  case neg => rw [if_neg hlt] at h; cases h
  rw [if_pos hlt] at h
  injection h with h
  injection h with h h2
  subst h h2
  have HCL := Aside0.mk (Clone_int A0 c0 l0 w hr0 hc0 hlt)
  have hfl : (l0.filter (litB 65536)).length < 17592186044416 := Nat.lt_of_le_of_lt (List.length_filter_le _ _) hlt
  have HFL := Aside0.mk hfl
  clear hfl hlt
  have hm0 := hr0.2.1
  have HADJ := Aside0.mk (taut_adj l0)
  have HMEM := Aside0.mk (mem_normL l0)
  generalize hT : tautL l0 = T at *
  clear hT
  generalize hNN : normL l0 = N at *
  have HNN := Aside0.mk hNN
  clear hNN
  go_enter Tryz.func23, Tryz.ntmps23
  go_wp2_with (go_at_call 62; refine (HCL.out).mono ?_; rintro e w1 ⟨v1, rfl, hR1, hB1⟩; have HR1 := Aside0.mk hR1; have HB1 := Aside0.mk hB1; clear hR1 hB1)
  have HDF := Aside0.mk (DeleteFunc_lit v1 l0 w1 w.heap.size HR1.out)
  go_wp2_with (go_at_call 61; refine (HDF.out).mono ?_; rintro e w2 ⟨v2, rfl, hR2, hG2, hO2⟩; have HR2 := Aside0.mk hR2; have HB2 := Aside0.mk (RI.below HR1.out HB1.out HB1.out.size hG2); clear hR2 hG2 hO2)
  have HSF := Aside0.mk (SortFunc_lit v2 (l0.filter (litB 65536)) w2 w.heap.size HR2.out HFL.out (fun x hx => by have := lit_bound (List.mem_filter.1 hx).2; omega))
  go_wp2_with (go_at_call 65; refine (HSF.out).mono ?_; rintro e w3 ⟨rfl, s, hp, hs, hR3, hG3⟩; have HR3 := Aside0.mk hR3; have HP := Aside0.mk hp; have HS := Aside0.mk hs; have HB3 := Aside0.mk (RI.below HR2.out HB2.out HB2.out.size hG3); clear hR3 hG3 hp hs)
  have HCP := Aside0.mk (Compact_int v2 s w3 w.heap.size HR3.out)
  have HN := Aside0.mk (compact_sorted l0 s (fun z => by rw [HP.out.mem_iff, List.mem_filter]) HS.out)
  go_wp2_with (go_at_call 70; refine (HCP.out).mono ?_; rintro e w4 ⟨v4, rfl, hR4, hG4⟩; rw [HN.out, HNN.out] at hR4; obtain ⟨A4, c4, rfl⟩ := Kd.R_slice hR4; have HR4 := Aside0.mk hR4; have HB4 := Aside0.mk (RI.below HR3.out HB3.out HB3.out.size hG4); clear hR4 hG4)
  have hn : N.length ≤ 9223372036854775807 := (Kd.R_reads' HR4.out).2.2.2.1
  have HBND := Aside0.mk (fun (x : Int) (hx : x ∈ N) => lit_bound ((HMEM.out x).1 hx).2)
  clear HSF HDF HCP HCL HR1 HB1 HR2 HB2 HR3 HB3 HP HS HN hr0
  go_loopg [15] N.length (fun gg s15 wr => ∃ kk : Nat, kk ≤ N.length ∧ N.length - kk ≤ gg ∧ s15 = .int .i64 kk ∧ Aside0 (Below w.heap.size w wr) ∧ Aside0 (RI wr w.heap.size (.slice A4 N.length c4) N) ∧
    Aside0 (∀ j, j + 1 < kk → N.getD j 0 ≠ -N.getD (j + 1) 0))
  case atStart => exact ⟨0, Nat.zero_le _, by omega, rfl, HB4, HR4, ⟨fun j hj => absurd hj (Nat.not_lt_zero _)⟩⟩
  case round =>
    clear HR4 HB4
    obtain ⟨kk, hkk, hg, rfl, HB, HR, HA⟩ := hrel
    by_cases hlt : kk < N.length
    · have hltz : (kk : Int) < (N.length : Int) := by omega
      rcases Nat.eq_zero_or_pos kk with h0 | h0
      · subst h0
        have hd0 : decide ((0 : Int) < ((0 : Nat) : Int)) = false := by decide
        go_wp2
        go_quiet (fail)
        go_wp2
        go_roundg (N.length - (0 + 1))
        case measure => omega
        case rel => exact ⟨1, by omega, by omega, by go_num, ⟨pw_below_drewN HB.out _⟩, ⟨Kd.R_drewN HR.out _⟩, ⟨fun j hj => by omega⟩⟩
      · have hlt0 : (0 : Int) < (kk : Int) := by omega
        have hd0 : decide ((0 : Int) < (kk : Int)) = true := decide_eq_true hlt0
        have hK5 := (Kd.R_reads' HR.out).2.2
        obtain ⟨ad, e1, hx⟩ := Kd.at_int hK5 kk (by omega) (by omega)
        obtain ⟨ad', e2, hy⟩ := Kd.at_int hK5 ((kk : Int) - 1) (by omega) (by omega)
        cases e1
        cases e2
        rw [show ((kk : Int) - 1).toNat = kk - 1 by omega] at hy
        rw [Int.toNat_natCast] at hx
        have hp : rd N ((kk : Int) - 1) = N.getD (kk - 1) 0 := by unfold rd; rw [show ((kk : Int) - 1).toNat = kk - 1 by omega]
        have hq : rd N (kk : Int) = N.getD kk 0 := by unfold rd; rw [Int.toNat_natCast]
        rw [hp] at hy
        rw [hq] at hx
        clear hp hq hK5
        have hbq : -65536 ≤ N.getD kk 0 ∧ N.getD kk 0 ≤ 65536 := by
          rw [getD_lt _ _ hlt]; exact HBND.out _ (List.getElem_mem hlt)
        have HE : Aside0 (N.getD (kk - 1) 0 = N.getD (kk - 1) 0 ∧ N.getD (kk - 1 + 1) 0 = N.getD kk 0) := ⟨rfl, by rw [Nat.sub_add_cancel h0]⟩
        generalize hP : N.getD (kk - 1) 0 = P at *
        generalize hQ : N.getD kk 0 = Q at *
        have HP := Aside0.mk hP
        have HQ := Aside0.mk hQ
        clear hP hQ
        obtain ⟨hq1, hq2⟩ := hbq
        have hidx : IntKind.i64.wrap ((kk : Int) - 1) = (kk : Int) - 1 := IntWalk.i64_in _ (by omega)
        have hi0 : 0 ≤ (kk : Int) - 1 := by omega
        have hi1 : (kk : Int) - 1 < (N.length : Int) := by omega
        have hi2 : ((kk : Int) - 1).toNat = kk - 1 := by omega
        have hng : IntKind.i64.wrap (-Q) = -Q := IntWalk.i64_in _ (by omega)
        by_cases hPQ : P = -Q
        · have hbe : (P == -Q) = true := beq_iff_eq.2 hPQ
          have HPQ := Aside0.mk hPQ
          clear hPQ
          go_wp2
          go_quiet (fail)
          go_wp2
          go_ret2
          have hTt : T = true := HADJ.out.2 ⟨kk - 1, by omega, by have h1 := HP.out; have h2 := HQ.out; rw [Nat.sub_add_cancel h0, h1, h2]; exact HPQ.out⟩
          exact ⟨_, by rw [hTt]; rfl, Kd.R_drewN HR.out _, pw_below_drewN HB.out _⟩
        · have hbe : (P == -Q) = false := beq_eq_false_iff_ne.2 hPQ
          have HPQ := Aside0.mk hPQ
          clear hPQ
          go_wp2
          go_quiet (fail)
          go_wp2
          go_roundg (N.length - (kk + 1))
          case measure => omega
          case rel =>
            refine ⟨kk + 1, by omega, by omega, by go_num, ⟨pw_below_drewN HB.out _⟩, ⟨Kd.R_drewN HR.out _⟩, ⟨fun j hj => ?_⟩⟩
            by_cases e : j + 1 = kk
            · have h1 := HP.out
              have h2 := HQ.out
              rw [show j = kk - 1 by omega, Nat.sub_add_cancel h0, h1, h2]
              exact HPQ.out
            · exact HA.out j (by omega)
    · obtain rfl : kk = N.length := by omega
      have hTf : T = false := by
        cases hT : T with
        | false => rfl
        | true =>
          obtain ⟨i, h1, h2⟩ := HADJ.out.1 hT
          exact absurd h2 (HA.out i h1)
      have HT := Aside0.mk hTf
      clear hTf
      go_wp2
      go_ret2
      exact ⟨_, by rw [HT.out]; rfl, HR.out, HB.out⟩
end Go.Proofs.YtcdhhaedgohlgaaGreatDoor.P
end

section
namespace Go.Proofs
open Go.Shelf
def Tryz.laysGrow_ren : Go.Shelf.Ren := ⟨fun | 4 => 128 | n => n, fun | 22 => 25 | 25 => 3 | 3 => 3 | 4 => 4 | 9 => 9 | 20 => 20 | 0 => 0 | n => n, fun | n => n⟩
theorem Tryz.laysGrow : Go.Proofs.Lays8.n4 Tryz.prog Tryz.laysGrow_ren := {
  mixed := by kernel_rfl
  f4 := ⟨Tryz.f128.name, by decide, Tryz.func128.trans (congrArg some (by kernel_rfl))⟩
  t0 := Tryz.underlying0
  a0 := Tryz.isAgg0
  z0 := Tryz.sizeOf0
  v0 := Tryz.zeroValue0
  t3 := Tryz.underlying3
  a3 := Tryz.isAgg3
  z3 := Tryz.sizeOf3
  v3 := Tryz.zeroValue3
  t4 := Tryz.underlying4
  a4 := Tryz.isAgg4
  z4 := Tryz.sizeOf4
  v4 := Tryz.zeroValue4
  t9 := Tryz.underlying9
  a9 := Tryz.isAgg9
  z9 := Tryz.sizeOf9
  v9 := Tryz.zeroValue9
  t20 := Tryz.underlying20
  a20 := Tryz.isAgg20
  z20 := Tryz.sizeOf20
  v20 := Tryz.zeroValue20
  t22 := Tryz.underlying25
  a22 := Tryz.isAgg25
  z22 := Tryz.sizeOf25
  v22 := Tryz.zeroValue25 }
end Go.Proofs
end

section
namespace Go.Proofs.YtcdhhaedgohlgaaGreatDoor.P
open Go.RowKit Go.Proofs.YtcdhhaedgohlgaaGreatDoorW.PrintWords Go.Proofs.YtcdhhaedgohlgaaGreatDoorW.PrintLast Go.Proofs.YtcdhhaedgohlgaaGreatDoorW.PrintMore
set_option linter.unusedVariables false
set_option linter.unusedSimpArgs false
set_option maxRecDepth 100000

/-- slices.Grow(nil, n). -/
theorem Grow_nil (n : Nat) (w : World) (hn : n < 17592186044416) :
    Calls Tryz.prog 128 #[.slice none 0 0, .int .i64 n] w fun e w' => ∃ v, e = .returned v ∧ RI w' w.heap.size v [] ∧ Below w.heap.size w w' := by
  rcases Nat.eq_zero_or_pos n with rfl | hn0
  · refine (Any8.slices_Grow_room Tryz.laysGrow none 0 0 0 w (by omega) (by omega) (by omega) (by omega)).mono ?_
    rintro e w' ⟨rfl, rfl⟩
    exact ⟨_, rfl, RI.nil _ _, Below.refl _ _⟩
  · obtain ⟨i0, hi, hz0, hz1, hz2⟩ := infoI3
    refine (Any8.slices_Grow_grow Tryz.laysGrow i0 (.int .i64 0) hi hz0 (by omega) none 0 0 n [] w (by omega) (by omega) (by rw [hz2]; omega) (by omega) (by simp) (fun _ => rfl) (by intro a h; cases h)).mono ?_
    rintro e w' ⟨rfl, rfl⟩
    generalize hcap : grownCap w (0 + n) 0 (Tryz.laysGrow_ren.t 25) = cap
    have hcm : cap ≤ maxLen := by rw [← hcap]; exact grownCap_le_maxLen _ _ _ _ (by unfold maxLen; omega)
    have hcn : 0 + n ≤ cap := by rw [← hcap]; exact grownCap_ge _ _ _ _
    have hz : (Value.int IntKind.i64 0).cells.size = 1 := rfl
    have hcs : (([] : List Value).toArray ++ Builtin.zeroCells (Value.int .i64 0).cells (0 + n - 0) ++ Builtin.zeroCells (Value.int .i64 0).cells (cap - (0 + n))).size = cap * 1 := by
      rw [Array.size_append, Array.size_append, size_zeroCells, size_zeroCells, hz]
      simp
      omega
    generalize (([] : List Value).toArray ++ Builtin.zeroCells (Value.int .i64 0).cells (0 + n - 0) ++ Builtin.zeroCells (Value.int .i64 0).cells (cap - (0 + n))) = cs at hcs
    refine ⟨_, rfl, RI.of_own ⟨rfl, .inr ⟨w.heap.size, cap, cs, rfl, Nat.le_refl _, ?_, Nat.zero_le _, hcm, hcs, rfl⟩⟩, ?_⟩
    · exact Array.getElem?_push_size
    · have hB : Below w.heap.size w w.drew := ⟨rfl, rfl, rfl, Nat.le_refl _, fun _ _ => rfl⟩
      exact hB.alloc (Nat.le_refl _) _

theorem Concat2 (g : Nat) (A1 A2 : Option Addr) (c1 c2 : Nat) (l1 l2 : List Int) (w : World) (hg0 : w.cell? ⟨g, 0, none⟩ = some (.slice A1 l1.length c1)) (hg1 : w.cell? ⟨g, 1, none⟩ = some (.slice A2 l2.length c2))
    (h1 : Kd.C (Kd.int .i64) w A1 l1.length l1) (h2 : Kd.C (Kd.int .i64) w A2 l2.length l2) (hlen : l1.length + l2.length < 17592186044416) :
    Calls Tryz.prog 87 #[.slice (some ⟨g, 0, none⟩) 2 2] w fun e w' => ∃ v, e = .returned v ∧ RI w' w.heap.size v (l1 ++ l2) ∧ Below w.heap.size w w' := by
  have H1 := Aside0.mk h1
  have H2 := Aside0.mk h2
  have HL := Aside0.mk hlen
  have HG0 := Aside0.mk hg0
  have HG1 := Aside0.mk hg1
  have hn1 : l1.length < 17592186044416 := by omega
  have hn2 : l2.length < 17592186044416 := by omega
  have e1 : IntKind.i64.wrap (l1.length : Int) = (l1.length : Int) := IntWalk.i64_in _ (by omega)
  have e2 : IntKind.i64.wrap ((l1.length : Int) + (l2.length : Int)) = ((l1.length + l2.length : Nat) : Int) := by rw [IntWalk.i64_in _ (by omega)]; omega
  have d1 : decide ((l1.length : Int) < 0) = false := decide_eq_false (by omega)
  have d2 : decide (((l1.length + l2.length : Nat) : Int) < 0) = false := decide_eq_false (by omega)
  have HGR := fun W => Aside0.mk (Grow_nil (l1.length + l2.length) W hlen)
  clear h1 h2 hlen
  go_enter Tryz.func87, Tryz.ntmps87
  go_wp2
  refine wp_loop_rounds 3 ?_
  rw [rounds_succ]
  go_wp2
  rw [rounds_succ]
  go_wp2
  rw [rounds_succ]
  go_wp2_with (go_at_call 128; refine ((HGR _).out).mono ?_; rintro e wg ⟨vg, rfl, hR, hB⟩; have HRg := Aside0.mk hR; have HBg := Aside0.mk hB; clear hR hB)
  have HG0' : Aside0 (wg.cell? ⟨g, 0, none⟩ = some (.slice A1 l1.length c1)) := ⟨pw_cell_below HBg.out HG0.out⟩
  have hg0' := HG0'.out
  refine wp_loop_rounds 3 ?_
  rw [rounds_succ]
  go_wp2_with (at_builtin; refine Kd.R_append_row (w0 := w) (Value.int .i64) 0 w.heap.size rfl (.tmp 31) (.tmp 32) 25 3 (.int .i64 0) 8 rfl Tryz.underlying25 info3 rfl (by decide) vg [] l1 A1 l1.length c1 (fun _ => True) rfl rfl (fun _ _ => trivial) HRg.out (Kd.C_below H1.out HBg.out) HBg.out HBg.out.size (by simp; omega) ?_; intro v1 w1 hR1 hB1 _ _; have HR1 := Aside0.mk hR1; have HB1 := Aside0.mk hB1; clear hR1 hB1)
  have hg1' : w1.cell? ⟨g, 1, none⟩ = some (.slice A2 l2.length c2) := pw_cell_below HB1.out HG1.out
  rw [rounds_succ]
  go_wp2_with (at_builtin; refine Kd.R_append_row (w0 := w) (Value.int .i64) 0 w.heap.size rfl (.tmp 31) (.tmp 32) 25 3 (.int .i64 0) 8 rfl Tryz.underlying25 info3 rfl (by decide) v1 ([] ++ l1) l2 A2 l2.length c2 (fun _ => True) rfl rfl (fun _ _ => trivial) HR1.out (Kd.C_below H2.out HB1.out) HB1.out HB1.out.size (by have := HL.out; simp; omega) ?_; intro v2 w2 hR2 hB2 _ _; have HR2 := Aside0.mk hR2; have HB2 := Aside0.mk hB2; clear hR2 hB2)
  rw [rounds_succ]
  go_wp2
  go_ret
  exact ⟨_, rfl, HR2.out, HB2.out⟩
end Go.Proofs.YtcdhhaedgohlgaaGreatDoor.P
end

section
namespace Go.Proofs.YtcdhhaedgohlgaaGreatDoor.P
open Go.RowKit Go.Proofs.YtcdhhaedgohlgaaGreatDoorW.PrintWords Go.Proofs.YtcdhhaedgohlgaaGreatDoorW.PrintLast Go.Proofs.YtcdhhaedgohlgaaGreatDoorW.PrintMore
set_option linter.unusedVariables false
set_option linter.unusedSimpArgs false
set_option maxRecDepth 100000

theorem DeleteFunc_own (f : Nat) (cb : Array Value) (p : Int → Bool) (eg : ∀ args w, (callFunc f args).run Tryz.prog w = .ok (.enter f args) w) (v : Value) (l : List Int) (w : World) (base : Nat) (hR : RI w base v l)
    (hp : PredAt Tryz.prog f cb (Value.int .i64) p w) (hpo : ∀ blk, v.ownBlock = some blk → PredOver Tryz.prog f cb (Value.int .i64) p blk 0 l.length w) :
    Calls Tryz.prog 61 #[v, .func (.func f) #[] cb] w fun e w' => ∃ v', e = .returned v' ∧ RI w' base v' (l.filter fun x => !p x) ∧ w.grownBy w' v.ownBlock ∧ (v'.ownBlock = v.ownBlock) := by
  rcases hR.cases with ⟨rfl, rfl⟩ | hv
  · have HI := fun W => Aside0.mk (IndexFunc_int f cb p eg none 0 [] W ⟨rfl, by simp, fun h => absurd h (by simp)⟩ (by simp) (by intro W x hx; cases hx))
    have hm : idxF p [] = -1 := rfl
    clear hp hpo
    go_enter Tryz.func61, Tryz.ntmps61
    go_wp2_with (go_at_call 124; refine ((HI _).out).mono ?_; rintro e w' ⟨rfl, hb⟩; have HB := Aside0.mk hb; clear hb)
    go_ret
    exact ⟨_, rfl, RI.nil _ _, grownBy_of_below HB.out _, rfl⟩
  · obtain ⟨g, cap, rfl, hb, hlt, hn, hm, hl, hH⟩ := Go.Lib.holds_of_ownsRow hR.own hv
    have hsz : (l.toArray).size = l.length := by simp
    have h := Tryz.slices_DeleteFunc (Value.int .i64) (fun _ => rfl) p f cb eg 0 zero3 g 0 cap l.toArray w hp (by rw [hsz]; exact hpo g rfl) hH (by unfold maxLen at hm; omega) (by omega)
    have hf : (l.toArray.toList.filter fun x => !p x) = l.filter (fun x => !p x) := by simp
    rw [hf, hsz] at h
    refine h.mono ?_
    rintro e w' ⟨rfl, q, rfl⟩
    have hle : (l.filter (fun x => !p x)).length ≤ l.length := List.length_filter_le _ _
    refine ⟨_, rfl, RI.of_own ?_, ?_, rfl⟩
    · have := Go.Lib.ownsRow_putRow (enc := Value.int .i64) (q := q) (k := (l.filter (fun x => !p x)).length) (ys := l.filter (fun x => !p x) ++ List.replicate (l.length - (l.filter (fun x => !p x)).length) 0) hR.own (by simp; omega) hle
      rw [List.take_left' rfl] at this
      exact this
    · have := grownBy_putRow (enc := Value.int .i64) (w := w) (g := g) (n := q) (os := #[]) (l.filter (fun x => !p x) ++ List.replicate (l.length - (l.filter (fun x => !p x)).length) 0).toArray
      rw [Go.Sort.grow_empty] at this
      exact this

theorem eq86 (n0 : Nat) (x y : Int) (W : World) (hc : W.cell? ⟨n0, 0, none⟩ = some (.int .i64 x)) :
    Calls Tryz.prog 86 #[.int .i64 y, .pointer (some ⟨n0, 0, none⟩)] W fun e w' => e = .returned (.bool (y == x)) ∧ ∃ q, w' = W.drewN q := by
  go_enter Tryz.func86, Tryz.ntmps86
  go_wp2
  go_ret
  exact ⟨rfl, by first | exact ⟨0, rfl⟩ | exact ⟨_, rfl⟩⟩

theorem without85 (A0 : Option Addr) (c0 : Nat) (l0 : List Int) (x : Int) (w : World) (hr0 : Kd.C (Kd.int .i64) w A0 l0.length l0) (hc0 : l0.length ≤ c0) (hlt : l0.length < 17592186044416) :
    Calls Tryz.prog 85 #[.slice A0 l0.length c0, .int .i64 x] w fun e w' => ∃ v, e = .returned v ∧ RI w' w.heap.size v (l0.filter fun y => !(y == x)) ∧ Below w.heap.size w w' := by
  have e86 : ∀ args w, (callFunc 86 args).run Tryz.prog w = .ok (.enter 86 args) w := by intro args w; kernel_rfl
  have HCL := fun W h => Aside0.mk (Clone_int A0 c0 l0 W h hc0 hlt)
  have HC := Aside0.mk hr0
  clear hr0
  go_enter Tryz.func85, Tryz.ntmps85
  go_wp2_with (go_at_call 62; refine ((HCL _ (Kd.C_alloc HC.out _)).out).mono ?_; rintro e w1 ⟨v1, rfl, hR, hB⟩; have HR1 := Aside0.mk hR; have HB1 := Aside0.mk hB; clear hR hB)
  have hcell : w1.cell? ⟨w.heap.size, 0, none⟩ = some (.int .i64 x) := pw_cell_below HB1.out (by unfold World.cell? World.alloc; simp)
  have hPA : PredAt Tryz.prog 86 #[.pointer (some ⟨w.heap.size, 0, none⟩)] (Value.int .i64) (fun y => y == x) w1 := fun W y hb => eq86 w.heap.size x y W (pw_cell_below hb hcell)
  have hPO : ∀ blk, v1.ownBlock = some blk → PredOver Tryz.prog 86 #[.pointer (some ⟨w.heap.size, 0, none⟩)] (Value.int .i64) (fun y => y == x) blk 0 l0.length w1 := by
    intro blk hblk n os dk y _
    refine eq86 w.heap.size x y _ ?_
    have hge : w.heap.size + 1 ≤ blk := by
      obtain ⟨inner, ho⟩ := Kd.R_own HR1.out
      have := own_base ho blk hblk
      simpa using this
    have hG := grownBy_putRow (enc := Value.int .i64) (w := w1) (g := blk) (n := n) (os := os) dk
    have hs : w.heap.size < w1.heap.size := by have := HB1.out.size; simp at this; omega
    have h1 := hG.block w.heap.size hs (fun e => by injection e with e; omega)
    exact (World.cell?_of_block (a := ⟨w.heap.size, 0, none⟩) h1).trans hcell
  have HDF := Aside0.mk (DeleteFunc_own 86 #[.pointer (some ⟨w.heap.size, 0, none⟩)] (fun y => y == x) e86 v1 l0 w1 _ HR1.out hPA hPO)
  have HE := Aside0.mk hcell
  clear hPA hPO hcell
  go_wp2_with (go_at_call 61; refine (HDF.out).mono ?_; rintro e w2 ⟨v2, rfl, hR2, hG2, hO2⟩; have HR2 := Aside0.mk hR2; have HB2 := Aside0.mk (RI.below HR1.out HB1.out HB1.out.size hG2); clear hR2 hG2 hO2)
  go_ret
  have hle : w.heap.size ≤ (w.alloc (.cells #[.int .i64 x] 3)).heap.size := by simp
  exact ⟨_, rfl, Kd.R_lower HR2.out hle, ((Below.refl w.heap.size w).alloc (Nat.le_refl _) _).trans (HB2.out.mono hle)⟩

theorem index_l0 (l : List Int) (x : Int) (hl : l.length < 9223372036854775807) : ∀ n i k, i + n = l.length → n < k → ∃ r, slices_Index_int_int.l0 k l x (l.length : Int) (i : Int) = some r ∧ decide (r ≥ 0) = (l.drop i).contains x
  | 0, i, k + 1, hi, hk => by
    unfold slices_Index_int_int.l0
    rw [if_neg (by omega)]
    refine ⟨_, rfl, ?_⟩
    rw [List.drop_eq_nil_of_le (by omega)]
    rfl
  | n + 1, i, k + 1, hi, hk => by
    unfold slices_Index_int_int.l0
    have hlt : i < l.length := by omega
    rw [if_pos (by omega), if_pos (by omega), if_pos (by omega)]
    have hr : rd l (i : Int) = l[i] := by unfold rd; simp [List.getD_eq_getElem?_getD, hlt]
    rw [hr, List.drop_eq_getElem_cons hlt, List.contains_cons]
    by_cases e : x = l[i]
    · rw [if_pos e]
      refine ⟨_, rfl, ?_⟩
      have : (x == l[i]) = true := beq_iff_eq.2 e
      rw [this]
      simp
    · rw [if_neg e]
      have : (x == l[i]) = false := beq_eq_false_iff_ne.2 e
      rw [this]
      have hw : wrap64 ((i : Int) + 1) = ((i + 1 : Nat) : Int) := by unfold wrap64; omega
      rw [hw]
      exact index_l0 l x hl n (i + 1) k (by omega) (by omega)

theorem contains_f (l : List Int) (x : Int) (hl : l.length < 9223372036854775807) : slices_Contains_int_int.f (l.length + 1) l x = some (l.contains x) := by
  obtain ⟨r, h1, h2⟩ := index_l0 l x hl l.length 0 (l.length + 1) (by omega) (by omega)
  unfold slices_Contains_int_int.f slices_Index_int_int.f
  rw [show ((0 : Nat) : Int) = 0 from rfl] at h1
  rw [h1]
  show some (decide (r ≥ 0)) = _
  rw [h2, List.drop_zero]

theorem Contains_int (A0 : Option Addr) (c0 : Nat) (l0 : List Int) (x : Int) (w : World) (hl : l0.length < 9223372036854775807) (hr0 : Kd.C (Kd.int .i64) w A0 l0.length l0) (hc0 : l0.length ≤ c0) :
    Calls Tryz.prog 84 #[.slice A0 l0.length c0, .int .i64 x] w fun e w' => e = .returned (.bool (l0.contains x)) ∧ ∃ q, w' = w.drewN q :=
  (slices_Contains_int_int.calls (l0.length + 1) A0 c0 l0 x _ w hr0 hc0 (contains_f l0 x hl)).mono fun _ _ ⟨h1, h2⟩ => ⟨h1, h2.out⟩

theorem below_call {w W w1 : World} (h0 : Below w.heap.size w W) (h1 : Below W.heap.size W w1) : Below w.heap.size w w1 := h0.trans (h1.mono h0.size)
theorem norm_f {l : List Int} (h : l.length < 17592186044416) : cnf_Norm.f l = some (normL l, tautL l) := by unfold cnf_Norm.f; rw [if_pos h]

def drp (l : List Int) (x : Int) : List Int := l.filter fun y => !(y == x)
def resolveV (a b : List Int) (v : Int) : List Int × Int :=
  if v < 1 ∨ 65536 < v then ([], 140)
  else if a.contains v = true ∧ b.contains (-v) = true then (normL (drp a v ++ drp b (-v)), 0)
  else if a.contains (-v) = true ∧ b.contains v = true then (normL (drp a (-v) ++ drp b v), 0)
  else ([], 140)
def cnf_Resolve.f (a b : List Int) (v : Int) : Option (List Int × Int) := if a.length + b.length < 17592186044416 then some (resolveV a b v) else none

set_option maxHeartbeats 4000000 in
theorem cnf_Resolve.calls (A0 : Option Addr) (c0 : Nat) (l0 : List Int) (A1 : Option Addr) (c1 : Nat) (l1 : List Int) (a2 : Int) (r1 : List Int) (r2 : Int) (w : World) (hr0 : Kd.C (Kd.int .i64) w A0 l0.length l0) (hc0 : l0.length ≤ c0) (hr1 : Kd.C (Kd.int .i64) w A1 l1.length l1) (hc1 : l1.length ≤ c1) (h : cnf_Resolve.f l0 l1 a2 = some (r1, r2)) :
    Calls Tryz.prog 36 #[.slice A0 l0.length c0, .slice A1 l1.length c1, .int .i64 a2] w fun e w' => ∃ v0_ : Value, e = .returned (.tuple #[v0_, .int .i64 r2]) ∧ Kd.R (Kd.int .i64) 3 w' w.heap.size (fun _ => True) v0_ r1 ∧ Below w.heap.size w w' := by
  unfold cnf_Resolve.f at h
  by_cases hlt : l0.length + l1.length < 17592186044416
  case neg => rw [if_neg hlt] at h; cases h
  rw [if_pos hlt] at h
  injection h with h
  have H0 := Aside0.mk hr0
  have H1 := Aside0.mk hr1
  clear hr0 hr1
  unfold resolveV at h
  by_cases hb1 : a2 < 1
  · rw [if_pos (.inl hb1)] at h
    injection h with h h2
    subst h h2
    have d1 : decide (a2 < 1) = true := decide_eq_true hb1
    go_enter Tryz.func36, Tryz.ntmps36
    go_wp2
    go_ret2
    exact ⟨_, rfl, RI.nil _ _, by first | exact Below.refl _ _ | exact pw_below_drewN (Below.refl _ _) _⟩
  · have d1 : decide (a2 < 1) = false := decide_eq_false hb1
    by_cases hb2 : 65536 < a2
    · rw [if_pos (.inr hb2)] at h
      injection h with h h2
      subst h h2
      have d2 : decide (a2 > 65536) = true := decide_eq_true hb2
      go_enter Tryz.func36, Tryz.ntmps36
      go_wp2
      go_ret2
      exact ⟨_, rfl, RI.nil _ _, by first | exact Below.refl _ _ | exact pw_below_drewN (Below.refl _ _) _⟩
    · have d2 : decide (a2 > 65536) = false := decide_eq_false hb2
      rw [if_neg (by omega)] at h
      have hw1 : IntKind.i64.wrap (-a2) = -a2 := IntWalk.i64_in _ (by omega)
      have hw2 : IntKind.i64.wrap a2 = a2 := IntWalk.i64_in _ (by omega)
      have hl0 : l0.length < 17592186044416 := by omega
      have hl1 : l1.length < 17592186044416 := by omega
      have HL := Aside0.mk hlt
      have CT := fun A c l x W h1 h2 h3 => Aside0.mk (Contains_int A c l x W h1 h2 h3)
      have WO := fun A c l x W h1 h2 h3 => Aside0.mk (without85 A c l x W h1 h2 h3)
      have CC := fun g A1 A2 c1 c2 l1 l2 W h1 h2 h3 h4 h5 => Aside0.mk (Concat2 g A1 A2 c1 c2 l1 l2 W h1 h2 h3 h4 h5)
      by_cases hpq : l0.contains a2 = true ∧ l1.contains (-a2) = true
      · obtain ⟨hp, hq⟩ := hpq
        rw [if_pos ⟨hp, hq⟩] at h
        injection h with h h2
        subst h h2
        go_enter Tryz.func36, Tryz.ntmps36
        go_wp2
        refine wp_loop_rounds 3 ?_
        rw [rounds_succ]
        go_wp2_with (go_at_call 84; refine ((CT _ _ _ _ _ (by omega) (by repeat (first | (with_reducible exact H0.out) | (with_reducible exact H1.out) | (with_reducible exact HCa.out) | (with_reducible exact HCb.out) | (with_reducible refine Kd.C_drewN ?_ _) | (with_reducible refine Kd.C_alloc ?_ _))) (by omega)).out).mono ?_; rintro e w' ⟨rfl, q, rfl⟩; first | rw [hp] | rw [hq] | rw [hp2] | rw [hq2])
        go_wp2_with (go_at_call 85; refine ((WO _ _ _ _ _ (by repeat (first | (with_reducible exact H0.out) | (with_reducible exact H1.out) | (with_reducible exact HCa.out) | (with_reducible exact HCb.out) | (with_reducible refine Kd.C_drewN ?_ _) | (with_reducible refine Kd.C_alloc ?_ _))) (by omega) (by omega)).out).mono ?_; rintro e wa ⟨va, rfl, hR, hB⟩; change RI _ _ _ (drp l0 (a2)) at hR; obtain ⟨Aa, ca, rfl⟩ := Kd.R_slice hR; have HRa := Aside0.mk (Kd.R_reads' hR).2.1; have HCa := Aside0.mk (Kd.R_reads' hR).2.2; have HBa : Aside0 (Below w.heap.size w wa) := ⟨below_call (by repeat (first | (with_reducible exact Below.refl _ _) | (with_reducible exact HBa.out) | (with_reducible exact HBb.out) | (with_reducible exact HBc.out) | (with_reducible refine pw_below_drewN ?_ _) | (with_reducible refine Below.alloc ?_ (by first | exact Nat.le_refl _ | exact HBb.out.size) _))) hB⟩; have H1 := Aside0.mk (Kd.C_below H1.out HBa.out); clear hR hB)
        go_wp2_with (go_at_call 85; refine ((WO _ _ _ _ _ (by repeat (first | (with_reducible exact H0.out) | (with_reducible exact H1.out) | (with_reducible exact HCa.out) | (with_reducible exact HCb.out) | (with_reducible refine Kd.C_drewN ?_ _) | (with_reducible refine Kd.C_alloc ?_ _))) (by omega) (by omega)).out).mono ?_; rintro e wb ⟨vb, rfl, hR, hB⟩; change RI _ _ _ (drp l1 (-a2)) at hR; obtain ⟨Ab, cb, rfl⟩ := Kd.R_slice hR; have HRb := Aside0.mk (Kd.R_reads' hR).2.1; have HCb := Aside0.mk (Kd.R_reads' hR).2.2; have HBb : Aside0 (Below w.heap.size w wb) := ⟨below_call (by repeat (first | (with_reducible exact Below.refl _ _) | (with_reducible exact HBa.out) | (with_reducible exact HBb.out) | (with_reducible exact HBc.out) | (with_reducible refine pw_below_drewN ?_ _) | (with_reducible refine Below.alloc ?_ (by first | exact Nat.le_refl _ | exact HBb.out.size) _))) hB⟩; have HCa := Aside0.mk (Kd.C_below HCa.out (below_call (Below.refl _ _) hB)); clear hR hB)
        have hln : (drp l0 (a2)).length + (drp l1 (-a2)).length < 17592186044416 := by have := List.length_filter_le (fun y => !(y == a2)) l0; have := List.length_filter_le (fun y => !(y == -a2)) l1; unfold drp; omega
        obtain ⟨M, hM⟩ : ∃ M, M = drp l0 (a2) ++ drp l1 (-a2) := ⟨_, rfl⟩
        have hml : M.length < 17592186044416 := by rw [hM, List.length_append]; exact hln
        have HLN := Aside0.mk hln
        have HM := Aside0.mk hM
        have HML := Aside0.mk hml
        clear hln hM hml
        go_wp2_with (go_at_call 87; refine ((CC wb.heap.size Aa Ab ca cb (drp l0 (a2)) (drp l1 (-a2)) _ (by unfold World.cell? World.alloc; simp) (by unfold World.cell? World.alloc; simp) (by repeat (first | (with_reducible exact H0.out) | (with_reducible exact H1.out) | (with_reducible exact HCa.out) | (with_reducible exact HCb.out) | (with_reducible refine Kd.C_drewN ?_ _) | (with_reducible refine Kd.C_alloc ?_ _))) (by repeat (first | (with_reducible exact H0.out) | (with_reducible exact H1.out) | (with_reducible exact HCa.out) | (with_reducible exact HCb.out) | (with_reducible refine Kd.C_drewN ?_ _) | (with_reducible refine Kd.C_alloc ?_ _))) HLN.out).out).mono ?_; rintro e wc ⟨vc, rfl, hR, hB⟩; rw [← HM.out] at hR; obtain ⟨Ac, cc, rfl⟩ := Kd.R_slice hR; have HRc := Aside0.mk (Kd.R_reads' hR).2.1; have HCc := Aside0.mk (Kd.R_reads' hR).2.2; have HBc : Aside0 (Below w.heap.size w wc) := ⟨below_call (by repeat (first | (with_reducible exact Below.refl _ _) | (with_reducible exact HBa.out) | (with_reducible exact HBb.out) | (with_reducible exact HBc.out) | (with_reducible refine pw_below_drewN ?_ _) | (with_reducible refine Below.alloc ?_ (by first | exact Nat.le_refl _ | exact HBb.out.size) _))) hB⟩; clear hR hB)
        have hN := cnf_Norm.calls Ac cc M _ _ wc HCc.out HRc.out (norm_f HML.out)
        have HN := Aside0.mk hN
        clear hN
        go_wp2_with (go_at_call 23; refine (HN.out).mono ?_; rintro e wd ⟨vd, rfl, hR, hB⟩; have HRd := Aside0.mk (Kd.R_lower hR HBc.out.size); have HBd : Aside0 (Below w.heap.size w wd) := ⟨below_call HBc.out hB⟩; clear hR hB)
        go_ret2
        have hfin := HRd.out
        rw [HM.out] at hfin
        exact ⟨_, rfl, hfin, HBd.out⟩
      · rw [if_neg hpq] at h
        by_cases hpq2 : l0.contains (-a2) = true ∧ l1.contains a2 = true
        · obtain ⟨hp2, hq2⟩ := hpq2
          rw [if_pos ⟨hp2, hq2⟩] at h
          injection h with h h2
          subst h h2
          by_cases hp : l0.contains a2 = true
          · have hq : l1.contains (-a2) = false := by
              cases hq : l1.contains (-a2) with
              | false => rfl
              | true => exact absurd ⟨hp, hq⟩ hpq
            clear hpq
            go_enter Tryz.func36, Tryz.ntmps36
            go_wp2
            refine wp_loop_rounds 3 ?_
            rw [rounds_succ]
            go_wp2_with (go_at_call 84; refine ((CT _ _ _ _ _ (by omega) (by repeat (first | (with_reducible exact H0.out) | (with_reducible exact H1.out) | (with_reducible exact HCa.out) | (with_reducible exact HCb.out) | (with_reducible refine Kd.C_drewN ?_ _) | (with_reducible refine Kd.C_alloc ?_ _))) (by omega)).out).mono ?_; rintro e w' ⟨rfl, q, rfl⟩; first | rw [hp] | rw [hq] | rw [hp2] | rw [hq2])
            rw [rounds_succ]
            go_wp2_with (go_at_call 84; refine ((CT _ _ _ _ _ (by omega) (by repeat (first | (with_reducible exact H0.out) | (with_reducible exact H1.out) | (with_reducible exact HCa.out) | (with_reducible exact HCb.out) | (with_reducible refine Kd.C_drewN ?_ _) | (with_reducible refine Kd.C_alloc ?_ _))) (by omega)).out).mono ?_; rintro e w' ⟨rfl, q, rfl⟩; first | rw [hp] | rw [hq] | rw [hp2] | rw [hq2])
            go_wp2_with (go_at_call 85; refine ((WO _ _ _ _ _ (by repeat (first | (with_reducible exact H0.out) | (with_reducible exact H1.out) | (with_reducible exact HCa.out) | (with_reducible exact HCb.out) | (with_reducible refine Kd.C_drewN ?_ _) | (with_reducible refine Kd.C_alloc ?_ _))) (by omega) (by omega)).out).mono ?_; rintro e wa ⟨va, rfl, hR, hB⟩; change RI _ _ _ (drp l0 (-a2)) at hR; obtain ⟨Aa, ca, rfl⟩ := Kd.R_slice hR; have HRa := Aside0.mk (Kd.R_reads' hR).2.1; have HCa := Aside0.mk (Kd.R_reads' hR).2.2; have HBa : Aside0 (Below w.heap.size w wa) := ⟨below_call (by repeat (first | (with_reducible exact Below.refl _ _) | (with_reducible exact HBa.out) | (with_reducible exact HBb.out) | (with_reducible exact HBc.out) | (with_reducible refine pw_below_drewN ?_ _) | (with_reducible refine Below.alloc ?_ (by first | exact Nat.le_refl _ | exact HBb.out.size) _))) hB⟩; have H1 := Aside0.mk (Kd.C_below H1.out HBa.out); clear hR hB)
            go_wp2_with (go_at_call 85; refine ((WO _ _ _ _ _ (by repeat (first | (with_reducible exact H0.out) | (with_reducible exact H1.out) | (with_reducible exact HCa.out) | (with_reducible exact HCb.out) | (with_reducible refine Kd.C_drewN ?_ _) | (with_reducible refine Kd.C_alloc ?_ _))) (by omega) (by omega)).out).mono ?_; rintro e wb ⟨vb, rfl, hR, hB⟩; change RI _ _ _ (drp l1 (a2)) at hR; obtain ⟨Ab, cb, rfl⟩ := Kd.R_slice hR; have HRb := Aside0.mk (Kd.R_reads' hR).2.1; have HCb := Aside0.mk (Kd.R_reads' hR).2.2; have HBb : Aside0 (Below w.heap.size w wb) := ⟨below_call (by repeat (first | (with_reducible exact Below.refl _ _) | (with_reducible exact HBa.out) | (with_reducible exact HBb.out) | (with_reducible exact HBc.out) | (with_reducible refine pw_below_drewN ?_ _) | (with_reducible refine Below.alloc ?_ (by first | exact Nat.le_refl _ | exact HBb.out.size) _))) hB⟩; have HCa := Aside0.mk (Kd.C_below HCa.out (below_call (Below.refl _ _) hB)); clear hR hB)
            have hln : (drp l0 (-a2)).length + (drp l1 (a2)).length < 17592186044416 := by have := List.length_filter_le (fun y => !(y == -a2)) l0; have := List.length_filter_le (fun y => !(y == a2)) l1; unfold drp; omega
            obtain ⟨M, hM⟩ : ∃ M, M = drp l0 (-a2) ++ drp l1 (a2) := ⟨_, rfl⟩
            have hml : M.length < 17592186044416 := by rw [hM, List.length_append]; exact hln
            have HLN := Aside0.mk hln
            have HM := Aside0.mk hM
            have HML := Aside0.mk hml
            clear hln hM hml
            go_wp2_with (go_at_call 87; refine ((CC wb.heap.size Aa Ab ca cb (drp l0 (-a2)) (drp l1 (a2)) _ (by unfold World.cell? World.alloc; simp) (by unfold World.cell? World.alloc; simp) (by repeat (first | (with_reducible exact H0.out) | (with_reducible exact H1.out) | (with_reducible exact HCa.out) | (with_reducible exact HCb.out) | (with_reducible refine Kd.C_drewN ?_ _) | (with_reducible refine Kd.C_alloc ?_ _))) (by repeat (first | (with_reducible exact H0.out) | (with_reducible exact H1.out) | (with_reducible exact HCa.out) | (with_reducible exact HCb.out) | (with_reducible refine Kd.C_drewN ?_ _) | (with_reducible refine Kd.C_alloc ?_ _))) HLN.out).out).mono ?_; rintro e wc ⟨vc, rfl, hR, hB⟩; rw [← HM.out] at hR; obtain ⟨Ac, cc, rfl⟩ := Kd.R_slice hR; have HRc := Aside0.mk (Kd.R_reads' hR).2.1; have HCc := Aside0.mk (Kd.R_reads' hR).2.2; have HBc : Aside0 (Below w.heap.size w wc) := ⟨below_call (by repeat (first | (with_reducible exact Below.refl _ _) | (with_reducible exact HBa.out) | (with_reducible exact HBb.out) | (with_reducible exact HBc.out) | (with_reducible refine pw_below_drewN ?_ _) | (with_reducible refine Below.alloc ?_ (by first | exact Nat.le_refl _ | exact HBb.out.size) _))) hB⟩; clear hR hB)
            have hN := cnf_Norm.calls Ac cc M _ _ wc HCc.out HRc.out (norm_f HML.out)
            have HN := Aside0.mk hN
            clear hN
            go_wp2_with (go_at_call 23; refine (HN.out).mono ?_; rintro e wd ⟨vd, rfl, hR, hB⟩; have HRd := Aside0.mk (Kd.R_lower hR HBc.out.size); have HBd : Aside0 (Below w.heap.size w wd) := ⟨below_call HBc.out hB⟩; clear hR hB)
            go_ret2
            have hfin := HRd.out
            rw [HM.out] at hfin
            exact ⟨_, rfl, hfin, HBd.out⟩
          · have hp := Bool.not_eq_true _ ▸ hp
            clear hpq
            go_enter Tryz.func36, Tryz.ntmps36
            go_wp2
            refine wp_loop_rounds 3 ?_
            rw [rounds_succ]
            go_wp2_with (go_at_call 84; refine ((CT _ _ _ _ _ (by omega) (by repeat (first | (with_reducible exact H0.out) | (with_reducible exact H1.out) | (with_reducible exact HCa.out) | (with_reducible exact HCb.out) | (with_reducible refine Kd.C_drewN ?_ _) | (with_reducible refine Kd.C_alloc ?_ _))) (by omega)).out).mono ?_; rintro e w' ⟨rfl, q, rfl⟩; first | rw [hp] | rw [hq] | rw [hp2] | rw [hq2])
            rw [rounds_succ]
            go_wp2_with (go_at_call 84; refine ((CT _ _ _ _ _ (by omega) (by repeat (first | (with_reducible exact H0.out) | (with_reducible exact H1.out) | (with_reducible exact HCa.out) | (with_reducible exact HCb.out) | (with_reducible refine Kd.C_drewN ?_ _) | (with_reducible refine Kd.C_alloc ?_ _))) (by omega)).out).mono ?_; rintro e w' ⟨rfl, q, rfl⟩; first | rw [hp] | rw [hq] | rw [hp2] | rw [hq2])
            go_wp2_with (go_at_call 85; refine ((WO _ _ _ _ _ (by repeat (first | (with_reducible exact H0.out) | (with_reducible exact H1.out) | (with_reducible exact HCa.out) | (with_reducible exact HCb.out) | (with_reducible refine Kd.C_drewN ?_ _) | (with_reducible refine Kd.C_alloc ?_ _))) (by omega) (by omega)).out).mono ?_; rintro e wa ⟨va, rfl, hR, hB⟩; change RI _ _ _ (drp l0 (-a2)) at hR; obtain ⟨Aa, ca, rfl⟩ := Kd.R_slice hR; have HRa := Aside0.mk (Kd.R_reads' hR).2.1; have HCa := Aside0.mk (Kd.R_reads' hR).2.2; have HBa : Aside0 (Below w.heap.size w wa) := ⟨below_call (by repeat (first | (with_reducible exact Below.refl _ _) | (with_reducible exact HBa.out) | (with_reducible exact HBb.out) | (with_reducible exact HBc.out) | (with_reducible refine pw_below_drewN ?_ _) | (with_reducible refine Below.alloc ?_ (by first | exact Nat.le_refl _ | exact HBb.out.size) _))) hB⟩; have H1 := Aside0.mk (Kd.C_below H1.out HBa.out); clear hR hB)
            go_wp2_with (go_at_call 85; refine ((WO _ _ _ _ _ (by repeat (first | (with_reducible exact H0.out) | (with_reducible exact H1.out) | (with_reducible exact HCa.out) | (with_reducible exact HCb.out) | (with_reducible refine Kd.C_drewN ?_ _) | (with_reducible refine Kd.C_alloc ?_ _))) (by omega) (by omega)).out).mono ?_; rintro e wb ⟨vb, rfl, hR, hB⟩; change RI _ _ _ (drp l1 (a2)) at hR; obtain ⟨Ab, cb, rfl⟩ := Kd.R_slice hR; have HRb := Aside0.mk (Kd.R_reads' hR).2.1; have HCb := Aside0.mk (Kd.R_reads' hR).2.2; have HBb : Aside0 (Below w.heap.size w wb) := ⟨below_call (by repeat (first | (with_reducible exact Below.refl _ _) | (with_reducible exact HBa.out) | (with_reducible exact HBb.out) | (with_reducible exact HBc.out) | (with_reducible refine pw_below_drewN ?_ _) | (with_reducible refine Below.alloc ?_ (by first | exact Nat.le_refl _ | exact HBb.out.size) _))) hB⟩; have HCa := Aside0.mk (Kd.C_below HCa.out (below_call (Below.refl _ _) hB)); clear hR hB)
            have hln : (drp l0 (-a2)).length + (drp l1 (a2)).length < 17592186044416 := by have := List.length_filter_le (fun y => !(y == -a2)) l0; have := List.length_filter_le (fun y => !(y == a2)) l1; unfold drp; omega
            obtain ⟨M, hM⟩ : ∃ M, M = drp l0 (-a2) ++ drp l1 (a2) := ⟨_, rfl⟩
            have hml : M.length < 17592186044416 := by rw [hM, List.length_append]; exact hln
            have HLN := Aside0.mk hln
            have HM := Aside0.mk hM
            have HML := Aside0.mk hml
            clear hln hM hml
            go_wp2_with (go_at_call 87; refine ((CC wb.heap.size Aa Ab ca cb (drp l0 (-a2)) (drp l1 (a2)) _ (by unfold World.cell? World.alloc; simp) (by unfold World.cell? World.alloc; simp) (by repeat (first | (with_reducible exact H0.out) | (with_reducible exact H1.out) | (with_reducible exact HCa.out) | (with_reducible exact HCb.out) | (with_reducible refine Kd.C_drewN ?_ _) | (with_reducible refine Kd.C_alloc ?_ _))) (by repeat (first | (with_reducible exact H0.out) | (with_reducible exact H1.out) | (with_reducible exact HCa.out) | (with_reducible exact HCb.out) | (with_reducible refine Kd.C_drewN ?_ _) | (with_reducible refine Kd.C_alloc ?_ _))) HLN.out).out).mono ?_; rintro e wc ⟨vc, rfl, hR, hB⟩; rw [← HM.out] at hR; obtain ⟨Ac, cc, rfl⟩ := Kd.R_slice hR; have HRc := Aside0.mk (Kd.R_reads' hR).2.1; have HCc := Aside0.mk (Kd.R_reads' hR).2.2; have HBc : Aside0 (Below w.heap.size w wc) := ⟨below_call (by repeat (first | (with_reducible exact Below.refl _ _) | (with_reducible exact HBa.out) | (with_reducible exact HBb.out) | (with_reducible exact HBc.out) | (with_reducible refine pw_below_drewN ?_ _) | (with_reducible refine Below.alloc ?_ (by first | exact Nat.le_refl _ | exact HBb.out.size) _))) hB⟩; clear hR hB)
            have hN := cnf_Norm.calls Ac cc M _ _ wc HCc.out HRc.out (norm_f HML.out)
            have HN := Aside0.mk hN
            clear hN
            go_wp2_with (go_at_call 23; refine (HN.out).mono ?_; rintro e wd ⟨vd, rfl, hR, hB⟩; have HRd := Aside0.mk (Kd.R_lower hR HBc.out.size); have HBd : Aside0 (Below w.heap.size w wd) := ⟨below_call HBc.out hB⟩; clear hR hB)
            go_ret2
            have hfin := HRd.out
            rw [HM.out] at hfin
            exact ⟨_, rfl, hfin, HBd.out⟩
        · rw [if_neg hpq2] at h
          injection h with h h2
          subst h h2
          have key : ∃ b1 b2 b3 b4, l0.contains a2 = b1 ∧ l1.contains (-a2) = b2 ∧ l0.contains (-a2) = b3 ∧ l1.contains a2 = b4 ∧ (b1 && b2) = false ∧ (b3 && b4) = false := by
            refine ⟨_, _, _, _, rfl, rfl, rfl, rfl, ?_, ?_⟩
            · cases h1 : l0.contains a2 <;> cases h2 : l1.contains (-a2) <;> simp_all
            · cases h1 : l0.contains (-a2) <;> cases h2 : l1.contains a2 <;> simp_all
          obtain ⟨b1, b2, b3, b4, hp, hq, hp2, hq2, h12, h34⟩ := key
          clear hpq hpq2
          cases b1 <;> cases b2 <;> cases b3 <;> cases b4 <;> first
            | exact absurd h12 (by decide)
            | exact absurd h34 (by decide)
            | (go_enter Tryz.func36, Tryz.ntmps36
               go_wp2
               refine wp_loop_rounds 3 ?_
               rw [rounds_succ]
               go_wp2_with (go_at_call 84; refine ((CT _ _ _ _ _ (by omega) (by repeat (first | (with_reducible exact H0.out) | (with_reducible exact H1.out) | (with_reducible exact HCa.out) | (with_reducible exact HCb.out) | (with_reducible refine Kd.C_drewN ?_ _) | (with_reducible refine Kd.C_alloc ?_ _))) (by omega)).out).mono ?_; rintro e w' ⟨rfl, q, rfl⟩; first | rw [hp] | rw [hq] | rw [hp2] | rw [hq2])
               rw [rounds_succ]
               go_wp2_with (go_at_call 84; refine ((CT _ _ _ _ _ (by omega) (by repeat (first | (with_reducible exact H0.out) | (with_reducible exact H1.out) | (with_reducible exact HCa.out) | (with_reducible exact HCb.out) | (with_reducible refine Kd.C_drewN ?_ _) | (with_reducible refine Kd.C_alloc ?_ _))) (by omega)).out).mono ?_; rintro e w' ⟨rfl, q, rfl⟩; first | rw [hp] | rw [hq] | rw [hp2] | rw [hq2])
               rw [rounds_succ]
               go_wp2
               go_ret2
               exact ⟨_, rfl, RI.nil _ _, (by repeat (first | (with_reducible exact Below.refl _ _) | (with_reducible exact HBa.out) | (with_reducible exact HBb.out) | (with_reducible exact HBc.out) | (with_reducible refine pw_below_drewN ?_ _) | (with_reducible refine Below.alloc ?_ (by first | exact Nat.le_refl _ | exact HBb.out.size) _)))⟩)
end Go.Proofs.YtcdhhaedgohlgaaGreatDoor.P
end

section
namespace Go.Proofs.YtcdhhaedgohlgaaGreatDoor.P
open Go Go.RowKit

/-- A step of the iterator's: new blocks; of those that lay, blocks of X alone are turned. -/
structure StepX (X : Nat → Prop) (W W' : World) : Prop where
  os : W'.os = W.os
  tape : W'.tape = W.tape
  output : W'.output = W.output
  size : W.heap.size ≤ W'.heap.size
  keep : ∀ k, k < W.heap.size → ¬ X k → W'.heap[k]? = W.heap[k]?
/-- What a round keeps: what lay below n₀, and X. -/
structure KeepX (n₀ : Nat) (X : Nat → Prop) (W W' : World) : Prop where
  os : W'.os = W.os
  tape : W'.tape = W.tape
  output : W'.output = W.output
  size : W.heap.size ≤ W'.heap.size
  keep : ∀ k, k < W.heap.size → (k < n₀ ∨ X k) → W'.heap[k]? = W.heap[k]?
def GrowX (X : Nat → Prop) (W W' : World) : Nat → Prop := fun k => X k ∨ (W.heap.size ≤ k ∧ k < W'.heap.size)
def ClosedX (J : (Nat → Prop) → Nat → World → Prop) : Prop := ∀ X i W W', J X i W → StepX X W W' → J (GrowX X W W') i W'

theorem StepX.refl (X : Nat → Prop) (W : World) : StepX X W W := ⟨rfl, rfl, rfl, Nat.le_refl _, fun _ _ _ => rfl⟩
theorem StepX.mono {X Y : Nat → Prop} {W W' : World} (h : StepX X W W') (hXY : ∀ k, X k → Y k) : StepX Y W W' := ⟨h.os, h.tape, h.output, h.size, fun k hk hY => h.keep k hk (fun hx => hY (hXY k hx))⟩
theorem KeepX.refl (n₀ : Nat) (X : Nat → Prop) (W : World) : KeepX n₀ X W W := ⟨rfl, rfl, rfl, Nat.le_refl _, fun _ _ _ => rfl⟩
theorem KeepX.trans {n₀ : Nat} {X : Nat → Prop} {A B C : World} (h : KeepX n₀ X A B) (k : KeepX n₀ X B C) : KeepX n₀ X A C :=
  ⟨k.os.trans h.os, k.tape.trans h.tape, k.output.trans h.output, Nat.le_trans h.size k.size, fun j hj hx => (k.keep j (Nat.lt_of_lt_of_le hj h.size) hx).trans (h.keep j hj hx)⟩
theorem KeepX.mono {n₀ n₁ : Nat} {X Y : Nat → Prop} {W W' : World} (h : KeepX n₀ X W W') (hn : n₁ ≤ n₀) (hXY : ∀ k, Y k → X k) : KeepX n₁ Y W W' :=
  ⟨h.os, h.tape, h.output, h.size, fun k hk hx => h.keep k hk (hx.elim (fun h1 => .inl (by omega)) (fun h1 => .inr (hXY k h1)))⟩
theorem GrowX_none {X : Nat → Prop} {W W' : World} (h : W'.heap.size = W.heap.size) : GrowX X W W' = X := by
  funext k; apply propext; unfold GrowX; constructor
  · rintro (h1 | h1)
    · exact h1
    · omega
  · exact .inl
theorem stepX_putObj {X : Nat → Prop} {W : World} {l : Nat} (o : Obj) (hl : X l) : StepX X W (W.putObj l o) :=
  ⟨rfl, rfl, rfl, by simp, fun k hk hX => World.putObj_heap_other (fun e => hX (by rw [e]; exact hl))⟩
theorem stepX_alloc {X : Nat → Prop} {W : World} (o : Obj) : StepX X W (W.alloc o) := ⟨rfl, rfl, rfl, by simp, fun k hk _ => Below.heap_alloc W o k hk⟩
theorem keepX_alloc (n₀ : Nat) (X : Nat → Prop) (W : World) (o : Obj) : KeepX n₀ X W (W.alloc o) := ⟨rfl, rfl, rfl, by simp, fun k hk _ => Below.heap_alloc W o k hk⟩

/-- THE ITERATOR's CONTRACT: it gives xs, in order; whatever the caller's J abides its steps. -/
def IterK {α : Type} (F : Fence) (n : Nat) (P : Program) (g : Nat) (lb : Array Value) (encs : α → Array Value) (xs : List α) (n₀ : Nat) (X0 : Nat → Prop) (w : World) : Prop :=
  ∀ (l : Nat) (J Jx : (Nat → Prop) → Nat → World → Prop) (W : World), KeepX n₀ X0 w W → ClosedX J → ClosedX Jx →
    (∀ X i x W1, J X i W1 → xs[i]? = some x → YieldAt F (n - 1) P l (encs x) W1 fun e W' =>
      (e = .returned (.bool true) ∧ J X (i + 1) W' ∧ KeepX n₀ X W1 W') ∨ (e = .returned (.bool false) ∧ Jx X (i + 1) W' ∧ KeepX n₀ X W1 W')) →
    J X0 0 W →
    CallsIn F n P g (#[.func (.yield l) #[] #[]] ++ lb) W fun e W' => (∃ v, e = .returned v) ∧ ((∃ X, J X xs.length W') ∨ (∃ X i, i ≤ xs.length ∧ Jx X i W'))

/-- How the body of a round may be left. -/
def postX (n₀ : Nat) (I : (Nat → Prop) → Nat → World → Prop) (Ix : Code → (Nat → Prop) → Nat → World → Prop) (X : Nat → Prop) (i : Nat) (W : World) : Exit → Act → World → Prop
  | .normal, _, W' => KeepX n₀ X W W' ∧ I X i W'
  | .ret, _, W' => KeepX n₀ X W W' ∧ Ix .ret X i W'
  | .exit id, _, W' => KeepX n₀ X W W' ∧ Ix (.exit id) X i W'
  | .goto t, _, W' => KeepX n₀ X W W' ∧ Ix (.goto t) X i W'
  | .panic _, _, _ => False
  | .outgrown, _, _ => False

variable {F : Fence} {n : Nat} {P : Program} {w : World}

/-- The same law for both: where the record and (at an outermost loop) the block for deferred calls lie in the set X. -/
theorem rangeX_core {α : Type} {ps : Array Tmp} {assign body : Code} {a : Act} (h1 : 1 ≤ n)
    {gf : Nat} {lb : Array Value} {encs : α → Array Value} {xs : List α} {n₀ : Nat} {X0 : Nat → Prop}
    (hseq : IterK F (n - 1) P gf lb encs xs n₀ X0 w) (hps : ∀ x, (encs x).size = ps.size)
    (fn : FuncId) (hfn : F.fn fn) (l D : Nat) (dfr : Nat) (rec : LoopState → Option Code → Loop) (hrec : rec = fun st pe => { state := st, pending := pe, fn, tmps := a.tmps, params := ps, assign, body, defers := dfr })
    (Z : Nat → Prop) (hZl : Z l) (hZn : ∀ k, Z k → n₀ ≤ k) (W1 : World) (hk1 : KeepX n₀ X0 w W1) (hL1 : W1.heap[l]? = some (.loop (rec .ready none)))
    (hZX : ∀ k, X0 k → ¬ Z k) (hZs : ∀ k, Z k → k < W1.heap.size) (Rest : World → Prop) (hRest : ∀ W W', Rest W → W.heap.size ≤ W'.heap.size → (∀ k, Z k → k ≠ l → W'.heap[k]? = W.heap[k]?) → Rest W') (hR1 : Rest W1)
    (I : (Nat → Prop) → Nat → World → Prop) (Ix : Code → (Nat → Prop) → Nat → World → Prop) (hI : ClosedX I) (hIx : ∀ c, ClosedX (Ix c)) (h0 : I (fun k => X0 k ∨ Z k) 0 W1)
    (Ax : Nat → Act → (Nat → Prop) → World → Prop) (hAx : ∀ i a' X W W', Ax i a' X W → StepX X W W' → Ax i a' (GrowX X W W') W')
    (hassign : ∀ (X : Nat → Prop) (i : Nat) (x : α) (W : World) (K : Act → World → Prop), xs[i]? = some x → I X i W → (∀ a' W', KeepX n₀ X W W' → I X i W' → Ax i a' X W' → K a' W') →
      assign.wpIn (F.inRound l) (n - 1 - 1) P (Exit.then K (fun _ _ _ => False)) { tmps := (ps.zip (encs x)).foldl (fun t (p, v) => t.setIfInBounds p v) a.tmps, defers := [] } W)
    (hbody : ∀ (X : Nat → Prop) (i : Nat) (x : α) (a' : Act) (W : World), xs[i]? = some x → X l → (∃ r, W.heap[l]? = some (.loop r)) → I X i W → Ax i a' X W → body.wpIn (F.inRound l) (n - 1 - 1) P (postX n₀ I Ix X (i + 1) W) a' W) :
    CallsIn F (n - 1) P gf (#[.func (.yield l) #[] #[]] ++ lb) W1 fun e W2 => (∃ v, e = .returned v) ∧
      ((∃ X, (∀ k, Z k → X k) ∧ I X xs.length W2 ∧ W2.heap[l]? = some (.loop (rec .ready none)) ∧ Rest W2) ∨ (∃ X i c, (∀ k, Z k → X k) ∧ Ix c X i W2 ∧ W2.heap[l]? = some (.loop (rec .done (some c))) ∧ Rest W2)) := by
  have ext : ∀ (X : Nat → Prop) (W W' : World), GrowX (fun k => X k ∨ Z k) W W' = fun k => GrowX X W W' k ∨ Z k := by
    intro X W W'; funext k; apply propext; unfold GrowX; constructor <;> (intro h; rcases h with (h | h) | h <;> simp [h])
  refine (hseq l
    (fun X i W => I (fun k => X k ∨ Z k) i W ∧ (∀ k, Z k → ¬ X k) ∧ (∀ k, Z k → k < W.heap.size) ∧ W.heap[l]? = some (.loop (rec .ready none)) ∧ Rest W)
    (fun X i W => ∃ c, Ix c (fun k => X k ∨ Z k) i W ∧ (∀ k, Z k → ¬ X k) ∧ (∀ k, Z k → k < W.heap.size) ∧ W.heap[l]? = some (.loop (rec .done (some c))) ∧ Rest W)
    W1 hk1 ?_ ?_ ?_ ⟨h0, fun k hz hx => hZX k hx hz, hZs, hL1, hR1⟩).mono ?_
  · rintro X i W W' ⟨hi, hz, hs, hl, hr⟩ hst
    have := hI _ _ _ _ hi (hst.mono (Y := fun k => X k ∨ Z k) (fun k h => .inl h))
    rw [ext] at this
    refine ⟨this, fun k hk => ?_, fun k hk => Nat.lt_of_lt_of_le (hs k hk) hst.size, (hst.keep l (hs l hZl) (hz l hZl)).trans hl, hRest W W' hr hst.size (fun k hk _ => hst.keep k (hs k hk) (hz k hk))⟩
    rintro (h | h)
    · exact hz k hk h
    · have := hs k hk; omega
  · rintro X i W W' ⟨c, hi, hz, hs, hl, hr⟩ hst
    have := hIx c _ _ _ _ hi (hst.mono (Y := fun k => X k ∨ Z k) (fun k h => .inl h))
    rw [ext] at this
    refine ⟨c, this, fun k hk => ?_, fun k hk => Nat.lt_of_lt_of_le (hs k hk) hst.size, (hst.keep l (hs l hZl) (hz l hZl)).trans hl, hRest W W' hr hst.size (fun k hk _ => hst.keep k (hs k hk) (hz k hk))⟩
    rintro (h | h)
    · exact hz k hk h
    · have := hs k hk; omega
  · rintro X i x W ⟨hi, hz, hs, hl, hr⟩ hx
    have hlt : l < W.heap.size := hs l hZl
    have hy := run_yield (P := P) (args := encs x) hl (by rw [hrec]; exact hps x)
    rw [hrec] at hy
    refine ⟨fn, _, assign, body, hy, roundIn_of_wpIn hfn (hassign _ i x W _ hx hi ?_)⟩
    clear hy
    intro a' Wa hka hia hax
    have hla : Wa.heap[l]? = some (.loop (rec .ready none)) := (hka.keep l hlt (.inr (.inr hZl))).trans hl
    have hlta : l < Wa.heap.size := Nat.lt_of_lt_of_le hlt hka.size
    refine ⟨_, run_beginRound hla (by rw [hrec]), ?_⟩
    generalize hW2 : Wa.putObj l (.loop { rec .ready none with state := .busy }) = W2
    have hl2 : W2.heap[l]? = some (.loop { rec .ready none with state := .busy }) := by rw [← hW2]; exact World.putObj_heap_same hlta
    have hst2 : StepX (fun k => X k ∨ Z k) Wa W2 := by rw [← hW2]; exact stepX_putObj _ (.inr hZl)
    have hsz2 : W2.heap.size = Wa.heap.size := by rw [← hW2]; simp
    have hi2 := hI _ _ _ _ hia hst2
    rw [GrowX_none hsz2] at hi2
    have hax2 := hAx _ _ _ _ _ hax hst2
    rw [GrowX_none hsz2] at hax2
    refine wpIn_mono (hbody _ i x a' W2 hx (.inr hZl) ⟨_, hl2⟩ hi2 hax2) ?_
    have fin : ∀ (jump : Option Code) (W3 : World), KeepX n₀ (fun k => X k ∨ Z k) W2 W3 →
        (Instr.endRound l jump).run P W3 = .ok (.bool jump.isNone) (W3.putObj l (.loop (rec (if jump.isNone then .ready else .done) jump))) ∧
        (W3.putObj l (.loop (rec (if jump.isNone then .ready else .done) jump))).heap[l]? = some (.loop (rec (if jump.isNone then .ready else .done) jump)) ∧
        StepX (fun k => X k ∨ Z k) W3 (W3.putObj l (.loop (rec (if jump.isNone then .ready else .done) jump))) ∧
        KeepX n₀ X W (W3.putObj l (.loop (rec (if jump.isNone then .ready else .done) jump))) ∧
        (∀ k, Z k → k < (W3.putObj l (.loop (rec (if jump.isNone then .ready else .done) jump))).heap.size) ∧
        Rest (W3.putObj l (.loop (rec (if jump.isNone then .ready else .done) jump))) := fun jump W3 hk3 => by
      have hl3 : W3.heap[l]? = some (.loop { rec .ready none with state := .busy }) := (hk3.keep l (by rw [hsz2]; exact hlta) (.inr (.inr hZl))).trans hl2
      have hrun := run_endRound (P := P) jump hl3
      have hs3 : W.heap.size ≤ W3.heap.size := Nat.le_trans hka.size (by rw [← hsz2]; exact hk3.size)
      have hlt3 : l < W3.heap.size := Nat.lt_of_lt_of_le hlt hs3
      refine ⟨by rw [hrec] at hrun ⊢; exact hrun, World.putObj_heap_same hlt3, stepX_putObj _ (.inr hZl), ?_, fun k hk => by rw [World.putObj_size]; exact Nat.lt_of_lt_of_le (hs k hk) hs3, ?_⟩
      · refine ⟨?_, ?_, ?_, by rw [World.putObj_size]; exact hs3, fun k hk hx => ?_⟩
        · exact hk3.os.trans (hst2.os.trans hka.os)
        · exact hk3.tape.trans (hst2.tape.trans hka.tape)
        · exact hk3.output.trans (hst2.output.trans hka.output)
        · have hne : k ≠ l ∨ k = l := by omega
          rcases hne with hne | rfl
          · rw [World.putObj_heap_other hne, hk3.keep k (by rw [hsz2]; exact Nat.lt_of_lt_of_le hk hka.size) (hx.elim .inl (fun h => .inr (.inl h))), ← hW2, World.putObj_heap_other hne]
            exact hka.keep k hk (hx.elim .inl (fun h => .inr (.inl h)))
          · rcases hx with hx | hx
            · have := hZn k hZl; omega
            · exact absurd hx (hz k hZl)
      · refine hRest W _ hr (by rw [World.putObj_size]; exact hs3) (fun k hk hne => ?_)
        rw [World.putObj_heap_other hne, hk3.keep k (by rw [hsz2]; exact Nat.lt_of_lt_of_le (hs k hk) hka.size) (.inr (.inr hk)), ← hW2, World.putObj_heap_other hne]
        exact hka.keep k (hs k hk) (.inr (.inr hk))
    rintro e a3 W3 hp
    cases e with
    | normal =>
      obtain ⟨hk3, hi3⟩ := hp
      obtain ⟨hr, hl4, hst4, hkp, hzs, hrest⟩ := fin none W3 hk3
      have hi4 := hI _ _ _ _ hi3 hst4
      rw [GrowX_none World.putObj_size] at hi4
      exact ⟨_, _, hr, .inl ⟨rfl, ⟨hi4, hz, hzs, hl4, hrest⟩, hkp⟩⟩
    | ret =>
      obtain ⟨hk3, hi3⟩ := hp
      obtain ⟨hr, hl4, hst4, hkp, hzs, hrest⟩ := fin (some .ret) W3 hk3
      have hi4 := hIx _ _ _ _ _ hi3 hst4
      rw [GrowX_none World.putObj_size] at hi4
      exact ⟨_, _, hr, .inr ⟨rfl, ⟨_, hi4, hz, hzs, hl4, hrest⟩, hkp⟩⟩
    | exit id =>
      obtain ⟨hk3, hi3⟩ := hp
      obtain ⟨hr, hl4, hst4, hkp, hzs, hrest⟩ := fin (some (.exit id)) W3 hk3
      have hi4 := hIx _ _ _ _ _ hi3 hst4
      rw [GrowX_none World.putObj_size] at hi4
      exact ⟨_, _, hr, .inr ⟨rfl, ⟨_, hi4, hz, hzs, hl4, hrest⟩, hkp⟩⟩
    | goto t =>
      obtain ⟨hk3, hi3⟩ := hp
      obtain ⟨hr, hl4, hst4, hkp, hzs, hrest⟩ := fin (some (.goto t)) W3 hk3
      have hi4 := hIx _ _ _ _ _ hi3 hst4
      rw [GrowX_none World.putObj_size] at hi4
      exact ⟨_, _, hr, .inr ⟨rfl, ⟨_, hi4, hz, hzs, hl4, hrest⟩, hkp⟩⟩
    | panic ch => exact hp.elim
    | outgrown => exact hp.elim
  · rintro e W2 ⟨hv, (⟨X, hi, _, _, hl, hr⟩ | ⟨X, i, _, c, hi, _, _, hl, hr⟩)⟩
    · exact ⟨hv, .inl ⟨_, fun k hk => .inr hk, hi, hl, hr⟩⟩
    · exact ⟨hv, .inr ⟨_, i, c, fun k hk => .inr hk, hi, hl, hr⟩⟩

/-- **A RANGE OVER SUCH AN ITERATOR, OUTERMOST.** -/
theorem wpIn_rangeX {α : Type} {g : Operand} {ps : Array Tmp} {assign body : Code} {Q : Exit → Act → World → Prop} {a : Act}
    (hro : F.round = none) (h1 : 1 ≤ n) {gf : Nat} {lb : Array Value} (hg : a.eval g = .func (.func gf) #[] lb) (hFg : F.fn gf) (eg : ∀ args w, (callFunc gf args).run P w = .ok (.enter gf args) w)
    {encs : α → Array Value} {xs : List α} {n₀ : Nat} {X0 : Nat → Prop} (hn₀ : n₀ ≤ w.heap.size) (hX0 : ∀ k, X0 k → k < w.heap.size)
    (hseq : IterK F (n - 1) P gf lb encs xs n₀ X0 w) (hps : ∀ x, (encs x).size = ps.size)
    (I : (Nat → Prop) → Nat → World → Prop) (Ix : Code → (Nat → Prop) → Nat → World → Prop) (hI : ClosedX I) (hIx : ∀ c, ClosedX (Ix c)) (h0 : I X0 0 w)
    (Ax : Nat → Act → (Nat → Prop) → World → Prop) (hAx : ∀ i a' X W W', Ax i a' X W → StepX X W W' → Ax i a' (GrowX X W W') W')
    (hassign : ∀ (l : Nat) (X : Nat → Prop) (i : Nat) (x : α) (W : World) (K : Act → World → Prop), xs[i]? = some x → I X i W → (∀ a' W', KeepX n₀ X W W' → I X i W' → Ax i a' X W' → K a' W') →
      assign.wpIn (F.inRound l) (n - 1 - 1) P (Exit.then K (fun _ _ _ => False)) { tmps := (ps.zip (encs x)).foldl (fun t (p, v) => t.setIfInBounds p v) a.tmps, defers := [] } W)
    (hbody : ∀ (l : Nat) (X : Nat → Prop) (i : Nat) (x : α) (a' : Act) (W : World), xs[i]? = some x → w.heap.size ≤ l → X l → (∃ r, W.heap[l]? = some (.loop r)) → I X i W → Ax i a' X W → body.wpIn (F.inRound l) (n - 1 - 1) P (postX n₀ I Ix X (i + 1) W) a' W)
    (hdone : ∀ (D : Nat) (X : Nat → Prop) (W : World), w.heap.size ≤ D → X D → I X xs.length W → W.heap[D]? = some (.deferred (some [])) → Q .normal { a with defers := { target := .collected D, args := #[] } :: a.defers } W)
    (hstop : ∀ (D : Nat) (X : Nat → Prop) (c : Code) (i : Nat) (W : World), w.heap.size ≤ D → X D → Ix c X i W → W.heap[D]? = some (.deferred (some [])) → c.wpIn F n P Q { a with defers := { target := .collected D, args := #[] } :: a.defers } W) :
    (Code.rangeFunc g ps assign body).wpIn F n P Q a w := by
  refine wpIn_rangeFunc ?_
  intro fn hfn
  rw [hro]
  obtain ⟨rec, hrec⟩ : ∃ rec : LoopState → Option Code → Loop, rec = fun st pe => { state := st, pending := pe, fn, tmps := a.tmps, params := ps, assign, body, defers := w.heap.size } := ⟨_, rfl⟩
  obtain ⟨W1, hW1⟩ : ∃ W1, (w.alloc (.deferred (some []))).alloc (.loop (rec .ready none)) = W1 := ⟨_, rfl⟩
  have hL1 : W1.heap[w.heap.size + 1]? = some (.loop (rec .ready none)) := by
    rw [← hW1]; have := World.alloc_heap_new (w.alloc (.deferred (some []))) (.loop (rec .ready none)); rwa [World.size_alloc] at this
  have hK1 : W1.heap[w.heap.size]? = some (.deferred (some [])) := by
    rw [← hW1]; exact (Below.heap_alloc _ _ _ (by simp)).trans (World.alloc_heap_new w _)
  have hs1 : W1.heap.size = w.heap.size + 2 := by rw [← hW1]; simp
  have hst : StepX X0 w W1 := by
    rw [← hW1]
    exact ⟨rfl, rfl, rfl, by simp; omega, fun k hk _ => (Below.heap_alloc _ _ _ (by simp; omega)).trans (Below.heap_alloc w _ k hk)⟩
  have hkp : KeepX n₀ X0 w W1 := by
    rw [← hW1]
    exact (keepX_alloc _ _ _ _).trans (keepX_alloc _ _ _ _)
  have hI1 := hI _ _ _ _ h0 hst
  have ext : GrowX X0 w W1 = fun k => X0 k ∨ (k = w.heap.size + 1 ∨ k = w.heap.size) := by
    funext k; apply propext; unfold GrowX; rw [hs1]
    constructor
    · rintro (h | h)
      · exact .inl h
      · right; omega
    · rintro (h | h)
      · exact .inl h
      · right; omega
  rw [ext] at hI1
  refine ⟨w.heap.size + 1, [{ target := .collected w.heap.size, args := #[] }], W1, { target := .fn (.func gf) lb, args := #[.func (.yield (w.heap.size + 1)) #[] #[]] }, W1, gf,
    #[.func (.yield (w.heap.size + 1)) #[] #[]] ++ lb, W1, ?_, ?_, ?_, ?_, fun _ => h1, ?_⟩
  · rw [← hW1, hrec]; exact run_enterLoop_outer _ _ _ _ _
  · simp only [resolve, hg]
    simp [go_sem]
  · intro f' hf'; simp [Target.leads] at hf'; subst hf'; exact hFg
  · simp [invoke, go_sem, eg]
  · refine (rangeX_core (a := a) h1 hseq hps fn hfn (w.heap.size + 1) w.heap.size w.heap.size rec hrec (fun k => k = w.heap.size + 1 ∨ k = w.heap.size) (.inl rfl) (by intro k hk; omega) W1 hkp hL1
      (fun k hk => by have := hX0 k hk; intro h; omega) (by intro k hk; omega) (fun W => W.heap[w.heap.size]? = some (.deferred (some [])))
      (fun W W' h _ hk => (hk w.heap.size (.inr rfl) (by omega)).trans h) hK1 I Ix hI hIx hI1 Ax hAx (fun X i x W K => hassign _ X i x W K) (fun X i x a' W hx hl hr hi ha => hbody _ X i x a' W hx (by omega) hl hr hi ha)).mono ?_
    rintro e W2 ⟨⟨v, rfl⟩, (⟨X, hZ, hi, hl, hk⟩ | ⟨X, i, c, hZ, hi, hl, hk⟩)⟩
    · have hend := run_endLoop (P := P) hl (by rw [hrec]; simp)
      have hi2 := hI _ _ _ _ hi (stepX_putObj (.loop { rec .ready none with state := .exhausted }) (hZ _ (.inl rfl)))
      rw [GrowX_none World.putObj_size] at hi2
      exact ⟨none, _, by rw [hrec] at hend ⊢; exact hend, hdone _ X _ (Nat.le_refl _) (hZ _ (.inr rfl)) hi2 ((World.putObj_heap_other (by omega)).trans hk)⟩
    · have hend := run_endLoop (P := P) hl (by rw [hrec]; simp)
      have hi2 := hIx c _ _ _ _ hi (stepX_putObj (.loop { rec .done (some c) with state := .exhausted }) (hZ _ (.inl rfl)))
      rw [GrowX_none World.putObj_size] at hi2
      exact ⟨some c, _, by rw [hrec] at hend ⊢; exact hend, hstop _ X c i _ (Nat.le_refl _) (hZ _ (.inr rfl)) hi2 ((World.putObj_heap_other (by omega)).trans hk)⟩

/-- **IN THE ROUND OF ANOTHER LOOP.** -/
theorem wpIn_rangeXN {α : Type} {g : Operand} {ps : Array Tmp} {assign body : Code} {Q : Exit → Act → World → Prop} {a : Act} {l₀ : Nat} {r₀ : Loop}
    (hro : F.round = some l₀) (hl₀ : w.heap[l₀]? = some (.loop r₀)) (h1 : 1 ≤ n) {gf : Nat} {lb : Array Value} (hg : a.eval g = .func (.func gf) #[] lb) (hFg : F.fn gf) (eg : ∀ args w, (callFunc gf args).run P w = .ok (.enter gf args) w)
    {encs : α → Array Value} {xs : List α} {n₀ : Nat} {X0 : Nat → Prop} (hn₀ : n₀ ≤ w.heap.size) (hX0 : ∀ k, X0 k → k < w.heap.size)
    (hseq : IterK F (n - 1) P gf lb encs xs n₀ X0 w) (hps : ∀ x, (encs x).size = ps.size)
    (I : (Nat → Prop) → Nat → World → Prop) (Ix : Code → (Nat → Prop) → Nat → World → Prop) (hI : ClosedX I) (hIx : ∀ c, ClosedX (Ix c)) (h0 : I X0 0 w)
    (Ax : Nat → Act → (Nat → Prop) → World → Prop) (hAx : ∀ i a' X W W', Ax i a' X W → StepX X W W' → Ax i a' (GrowX X W W') W')
    (hassign : ∀ (l : Nat) (X : Nat → Prop) (i : Nat) (x : α) (W : World) (K : Act → World → Prop), xs[i]? = some x → I X i W → (∀ a' W', KeepX n₀ X W W' → I X i W' → Ax i a' X W' → K a' W') →
      assign.wpIn (F.inRound l) (n - 1 - 1) P (Exit.then K (fun _ _ _ => False)) { tmps := (ps.zip (encs x)).foldl (fun t (p, v) => t.setIfInBounds p v) a.tmps, defers := [] } W)
    (hbody : ∀ (l : Nat) (X : Nat → Prop) (i : Nat) (x : α) (a' : Act) (W : World), xs[i]? = some x → w.heap.size ≤ l → X l → (∃ r, W.heap[l]? = some (.loop r)) → I X i W → Ax i a' X W → body.wpIn (F.inRound l) (n - 1 - 1) P (postX n₀ I Ix X (i + 1) W) a' W)
    (hdone : ∀ (X : Nat → Prop) (W : World), I X xs.length W → Q .normal a W)
    (hstop : ∀ (X : Nat → Prop) (c : Code) (i : Nat) (W : World), Ix c X i W → c.wpIn F n P Q a W) :
    (Code.rangeFunc g ps assign body).wpIn F n P Q a w := by
  refine wpIn_rangeFunc ?_
  intro fn hfn
  rw [hro]
  obtain ⟨rec, hrec⟩ : ∃ rec : LoopState → Option Code → Loop, rec = fun st pe => { state := st, pending := pe, fn, tmps := a.tmps, params := ps, assign, body, defers := r₀.defers } := ⟨_, rfl⟩
  obtain ⟨W1, hW1⟩ : ∃ W1, w.alloc (.loop (rec .ready none)) = W1 := ⟨_, rfl⟩
  have hL1 : W1.heap[w.heap.size]? = some (.loop (rec .ready none)) := by rw [← hW1]; exact World.alloc_heap_new w _
  have hs1 : W1.heap.size = w.heap.size + 1 := by rw [← hW1]; simp
  have hst : StepX X0 w W1 := by rw [← hW1]; exact stepX_alloc _
  have hkp : KeepX n₀ X0 w W1 := by rw [← hW1]; exact keepX_alloc _ _ _ _
  have hI1 := hI _ _ _ _ h0 hst
  have ext : GrowX X0 w W1 = fun k => X0 k ∨ k = w.heap.size := by
    funext k; apply propext; unfold GrowX; rw [hs1]
    constructor
    · rintro (h | h)
      · exact .inl h
      · right; omega
    · rintro (h | h)
      · exact .inl h
      · right; omega
  rw [ext] at hI1
  refine ⟨w.heap.size, [], W1, { target := .fn (.func gf) lb, args := #[.func (.yield w.heap.size) #[] #[]] }, W1, gf,
    #[.func (.yield w.heap.size) #[] #[]] ++ lb, W1, ?_, ?_, ?_, ?_, fun _ => h1, ?_⟩
  · rw [← hW1, hrec]; exact run_enterLoop_inner hl₀ _ _ _ _ _
  · simp only [resolve, hg]
    simp [go_sem]
  · intro f' hf'; simp [Target.leads] at hf'; subst hf'; exact hFg
  · simp [invoke, go_sem, eg]
  · refine (rangeX_core (a := a) h1 hseq hps fn hfn w.heap.size w.heap.size r₀.defers rec hrec (fun k => k = w.heap.size) rfl (by intro k hk; omega) W1 hkp hL1
      (fun k hk => by have := hX0 k hk; intro h; omega) (by intro k hk; omega) (fun _ => True) (fun _ _ _ _ _ => trivial) trivial I Ix hI hIx hI1 Ax hAx (fun X i x W K => hassign _ X i x W K) (fun X i x a' W hx hl hr hi ha => hbody _ X i x a' W hx (by omega) hl hr hi ha)).mono ?_
    rintro e W2 ⟨⟨v, rfl⟩, (⟨X, hZ, hi, hl, _⟩ | ⟨X, i, c, hZ, hi, hl, _⟩)⟩
    · have hend := run_endLoop (P := P) hl (by rw [hrec]; simp)
      have hi2 := hI _ _ _ _ hi (stepX_putObj (.loop { rec .ready none with state := .exhausted }) (hZ _ rfl))
      rw [GrowX_none World.putObj_size] at hi2
      exact ⟨none, _, by rw [hrec] at hend ⊢; exact hend, hdone X _ hi2⟩
    · have hend := run_endLoop (P := P) hl (by rw [hrec]; simp)
      have hi2 := hIx c _ _ _ _ hi (stepX_putObj (.loop { rec .done (some c) with state := .exhausted }) (hZ _ rfl))
      rw [GrowX_none World.putObj_size] at hi2
      exact ⟨some c, _, by rw [hrec] at hend ⊢; exact hend, hstop X c i _ hi2⟩

theorem IterK.inRound {α : Type} {g : Nat} {lb : Array Value} {encs : α → Array Value} {xs : List α} {n₀ : Nat} {X0 : Nat → Prop} (l : Nat) (h : IterK F n P g lb encs xs n₀ X0 w) : IterK (F.inRound l) n P g lb encs xs n₀ X0 w := h
end Go.Proofs.YtcdhhaedgohlgaaGreatDoor.P
end

section
namespace Go.Proofs
open Go.Shelf
def Tryz.lays185_ren : Go.Shelf.Ren := ⟨fun | 185 => 145 | 187 => 178 | 115 => 179 | 253 => 180 | 224 => 181 | 254 => 182 | 255 => 205 | 291 => 206 | n => n, fun | 37 => 41 | 3 => 3 | 4 => 4 | 0 => 0 | 5 => 5 | 46 => 144 | 9 => 9 | 146 => 197 | 51 => 169 | n => n, fun | 1 => 1 | n => n⟩
theorem Tryz.lays185 : Go.Proofs.Lays.n185 Tryz.prog Tryz.lays185_ren := {
  mixed := by kernel_rfl
  f115 := Tryz.func179.trans (congrArg some (by kernel_rfl))
  f185 := Tryz.func145.trans (congrArg some (by kernel_rfl))
  f187 := Tryz.func178.trans (congrArg some (by kernel_rfl))
  f224 := Tryz.func181.trans (congrArg some (by kernel_rfl))
  f253 := Tryz.func180.trans (congrArg some (by kernel_rfl))
  f254 := Tryz.func182.trans (congrArg some (by kernel_rfl))
  f255 := Tryz.func205.trans (congrArg some (by kernel_rfl))
  f291 := Tryz.func206.trans (congrArg some (by kernel_rfl))
  t0 := Tryz.underlying0
  a0 := Tryz.isAgg0
  z0 := Tryz.sizeOf0
  v0 := Tryz.zeroValue0
  t3 := Tryz.underlying3
  a3 := Tryz.isAgg3
  z3 := Tryz.sizeOf3
  v3 := Tryz.zeroValue3
  t4 := Tryz.underlying4
  a4 := Tryz.isAgg4
  z4 := Tryz.sizeOf4
  v4 := Tryz.zeroValue4
  t5 := Tryz.underlying5
  a5 := Tryz.isAgg5
  z5 := Tryz.sizeOf5
  v5 := Tryz.zeroValue5
  t9 := Tryz.underlying9
  a9 := Tryz.isAgg9
  z9 := Tryz.sizeOf9
  v9 := Tryz.zeroValue9
  t37 := Tryz.underlying41
  a37 := Tryz.isAgg41
  z37 := Tryz.sizeOf41
  v37 := Tryz.zeroValue41
  t46 := Tryz.underlying144
  a46 := Tryz.isAgg144
  z46 := Tryz.sizeOf144
  v46 := Tryz.zeroValue144
  t51 := Tryz.underlying169
  a51 := Tryz.isAgg169
  z51 := Tryz.sizeOf169
  v51 := Tryz.zeroValue169
  t146 := Tryz.underlying197
  a146 := Tryz.isAgg197
  z146 := Tryz.sizeOf197
  v146 := Tryz.zeroValue197
  g1 := by kernel_rfl }
end Go.Proofs
end

section
namespace Go.Proofs.YtcdhhaedgohlgaaGreatDoor.P
open Go.RowKit Go.Shelf Go.Proofs.YtcdhhaedgohlgaaGreatDoorW.PrintWords Go.Proofs.YtcdhhaedgohlgaaGreatDoorW.PrintLast Go.Proofs.YtcdhhaedgohlgaaGreatDoorW.PrintMore
set_option linter.unusedVariables false
set_option linter.unusedSimpArgs false
set_option maxRecDepth 100000
attribute [local go_sem] Oper.semAt_some

/-- bytes.IndexByte, bytes.Index at nil. -/
theorem IndexByte_none (c : Nat) (cv : Int) (w : World) : Calls Tryz.prog (Tryz.lays185_ren.f 187) #[.slice none 0 c, .int .u8 cv] w fun e w' => e = .returned (.int .i64 (-1)) ∧ w' = w := by
  have L : Lays.n187 Tryz.prog Tryz.lays185_ren := { Tryz.lays185 with }
  have t3 := L.t3; have t5 := L.t5; have t37 := L.t37
  have a3 := L.a3; have a5 := L.a5; have a37 := L.a37
  have mixed := L.mixed; have z3 := L.z3; have v3 := L.v3; have z5 := L.z5; have v5 := L.v5; have z37 := L.z37; have v37 := L.v37
  go_enter L.f187, Body.n187_ntmps Tryz.lays185_ren
  go_wp2
  rw [run_callFunc_extern L.f255 (by kernel_rfl) (by kernel_rfl) (by kernel_rfl) (e := Extern.BytealgIndexByte.indexByte) (by kernel_rfl), Lib.run_indexByteNil w 0 c cv]
  simp only [Result.andThen]
  rw [Oper.upon_value]
  go_wp2
  go_ret
  exact ⟨rfl, rfl⟩

theorem Index_none (c b2 o2 d : Nat) (cv : Int) (w : World) (hc2 : w.cell? ⟨b2, o2, none⟩ = some (.int .u8 cv)) :
    Calls Tryz.prog 145 #[.slice none 0 c, .slice (some ⟨b2, o2, none⟩) 1 d] w fun e w' => e = .returned (.int .i64 (-1)) ∧ w' = w := by
  have L := Tryz.lays185
  have mixed := L.mixed; have t0 := L.t0; have a0 := L.a0; have z0 := L.z0; have v0 := L.v0; have t3 := L.t3; have a3 := L.a3; have z3 := L.z3; have v3 := L.v3; have t4 := L.t4; have a4 := L.a4; have z4 := L.z4; have v4 := L.v4; have t5 := L.t5; have a5 := L.a5; have z5 := L.z5; have v5 := L.v5; have t9 := L.t9; have a9 := L.a9; have z9 := L.z9; have v9 := L.v9; have t37 := L.t37; have a37 := L.a37; have z37 := L.z37; have v37 := L.v37; have t46 := L.t46; have a46 := L.a46; have z46 := L.z46; have v46 := L.v46; have t51 := L.t51; have a51 := L.a51; have z51 := L.z51; have v51 := L.v51; have t146 := L.t146; have a146 := L.a146; have z146 := L.z146; have v146 := L.v146; have g1 := L.g1
  have e187 : ∀ args w, (callFunc (Tryz.lays185_ren.f 187) args).run Tryz.prog w = .ok (.enter (Tryz.lays185_ren.f 187) args) w := enters_of L.f187 (by kernel_rfl) rfl
  go_enter L.f185, Body.n185_ntmps Tryz.lays185_ren
  go_wp2_with (go_at_fn (Tryz.lays185_ren.f 187); refine (IndexByte_none c cv _).mono ?_; rintro e w' ⟨rfl, rfl⟩)
  go_ret
  exact ⟨rfl, rfl⟩

theorem Index1 (A : Option Addr) (bs : List UInt8) (c b2 o2 d : Nat) (cv : UInt8) (w : World) (h : CB w A bs) (hc2 : w.cell? ⟨b2, o2, none⟩ = some (.int .u8 (cv.toNat : Int))) :
    Calls Tryz.prog 145 #[.slice A bs.length c, .slice (some ⟨b2, o2, none⟩) 1 d] w fun e w' => e = .returned (.int .i64 (Lib.indexByte bs cv)) ∧ w' = w := by
  cases A with
  | none =>
    have hb : bs = [] := by
      cases bs with
      | nil => rfl
      | cons b bs => obtain ⟨ad, e, _⟩ := h.some_ (by simp); cases e
    subst hb
    exact Index_none c b2 o2 d _ w hc2
  | some a =>
    have := Any.bytes_Index_one_at Tryz.lays185 a bs.length c b2 o2 d (bytesI bs) (cv.toNat : Int) w (bytesI_length bs) (fun i hi => by
      obtain ⟨ad, e, hx⟩ := h.at_ i hi
      injection e with e
      subst e
      rw [hx, bytesI_getD bs i hi]) hc2
    rw [bytesOf_bytesI] at this
    have e1 : ((cv.toNat : Int)).toNat.toUInt8 = cv := by simp
    rw [e1] at this
    exact this
end Go.Proofs.YtcdhhaedgohlgaaGreatDoor.P
end

section
namespace Go.Proofs.YtcdhhaedgohlgaaGreatDoor.P
open Go.RowKit Go.Shelf Go.Proofs.YtcdhhaedgohlgaaGreatDoorW.PrintWords Go.Proofs.YtcdhhaedgohlgaaGreatDoorW.PrintLast Go.Proofs.YtcdhhaedgohlgaaGreatDoorW.PrintMore
set_option linter.unusedVariables false
set_option linter.unusedSimpArgs false
set_option maxRecDepth 100000
attribute [local go_sem] Oper.semAt_some

/-- The pieces between newlines, with the values that hold them. -/
def splitV : Nat → Option Addr → Nat → List UInt8 → List (Value × List UInt8)
  | 0, A, cap, bs => [(.slice A bs.length bs.length, bs)]
  | f + 1, A, cap, bs => match bs.findIdx? (· == 10) with
    | none => [(.slice A bs.length bs.length, bs)]
    | some i => (.slice A i i, bs.take i) :: splitV f (if cap = i + 1 then A else A.map (·.add (i + 1))) (cap - (i + 1)) (bs.drop (i + 1))

theorem indexByte_find (c : UInt8) : ∀ bs : List UInt8, Lib.indexByte bs c = match bs.findIdx? (· == c) with | none => -1 | some i => (i : Int)
  | [] => rfl
  | b :: l => by
    unfold Lib.indexByte
    rw [List.findIdx?_cons, indexByte_find c l]
    cases hb : b == c
    · cases h : l.findIdx? (· == c) with
      | none => simp
      | some i =>
        have : ¬ ((i : Int) == -1) = true := by simp
        simp [this]
    · simp
theorem splitV_none {f : Nat} {A : Option Addr} {cap : Nat} {bs : List UInt8} (h : bs.findIdx? (· == 10) = none) : splitV f A cap bs = [(.slice A bs.length bs.length, bs)] := by
  cases f with
  | zero => rfl
  | succ f => unfold splitV; rw [h]
theorem splitV_some {f : Nat} {A : Option Addr} {cap : Nat} {bs : List UInt8} {i : Nat} (h : bs.findIdx? (· == 10) = some i) : splitV (f + 1) A cap bs = (.slice A i i, bs.take i) :: splitV f (if cap = i + 1 then A else A.map (·.add (i + 1))) (cap - (i + 1)) (bs.drop (i + 1)) := by
  show (match bs.findIdx? (· == 10) with | none => _ | some i => _) = _
  rw [h]
theorem drop_cons {α : Type} {l : List α} {i : Nat} {x : α} {r : List α} (h : l.drop i = x :: r) : l[i]? = some x ∧ l.drop (i + 1) = r ∧ i < l.length := by
  have hi : i < l.length := by
    rcases Nat.lt_or_ge i l.length with h1 | h1
    · exact h1
    · rw [List.drop_eq_nil_of_le h1] at h; cases h
  rw [List.drop_eq_getElem_cons hi] at h
  injection h with h1 h2
  exact ⟨by rw [List.getElem?_eq_getElem hi, h1], h2, hi⟩

def sliceLen : Option Value → Nat
  | some (.slice _ n _) => n
  | _ => 0

theorem KeepX.below {n₀ : Nat} {X : Nat → Prop} {A B : World} (h : KeepX n₀ X A B) (hn : n₀ ≤ A.heap.size) : Below n₀ A B := ⟨h.os, h.tape, h.output, h.size, fun k hk => h.keep k (by omega) (.inl hk)⟩
theorem KeepX.boxed {n₀ : Nat} {X : Nat → Prop} {A B : World} (h : KeepX n₀ X A B) {b : Nat} {t : TypeId} {v : Value} (hb : Boxed A b t v) (hX : X b) : Boxed B b t v := (h.keep b hb.lt (.inr hX)).trans hb
theorem stepX_drew {X : Nat → Prop} {W : World} (n : Nat) : StepX X W (W.drewN n) := ⟨rfl, rfl, rfl, Nat.le_refl _, fun _ _ _ => rfl⟩
theorem stepX_set {X : Nat → Prop} {W : World} {b : Nat} (hb : X b) (v : Value) : StepX X W (W.setCell ⟨b, 0, none⟩ v) :=
  ⟨rfl, rfl, rfl, (KeepsWalks.setCell W _ v).size, fun k hk hX => Below.heap_setCell _ _ _ k (fun e => hX (by rw [e]; exact hb))⟩
theorem size_set (W : World) (a : Addr) (v : Value) : (W.setCell a v).heap.size = W.heap.size := by show (W.heap.modify _ _).size = _; rw [Array.size_modify]

theorem split_iter (n : Nat) (hn : 1 ≤ n) (w0 w : World) (Bs Bp Bq Bl : Nat) (A : Option Addr) (bs : List UInt8) (cap : Nat) (hB : Below w0.heap.size w0 w) (hC : CB w0 A bs) (hcap : bs.length ≤ cap)
    (hs : Boxed w Bs 41 (.slice A bs.length cap)) (hp : Boxed w Bp 41 (.slice (some ⟨Bl, 0, none⟩) 1 1)) (hq : Boxed w Bq 3 (.int .i64 0)) (hl : Boxed w Bl 5 (.int .u8 10))
    (hne : Bs ≠ Bp ∧ Bs ≠ Bq ∧ Bs ≠ Bl) (hge : w0.heap.size ≤ Bs) :
    IterK Fence.wide n Tryz.prog 200 #[.pointer (some ⟨Bp, 0, none⟩), .pointer (some ⟨Bs, 0, none⟩), .pointer (some ⟨Bq, 0, none⟩)] (fun x : Value × List UInt8 => #[x.1]) (splitV bs.length A cap bs) w0.heap.size (fun k => k = Bs ∨ k = Bp ∨ k = Bq ∨ k = Bl) w := by
  intro l J Jx W hk hJ hJx hY h0
  have HB := Aside0.mk (hB.trans (hk.below hB.size))
  have Hs := Aside0.mk (hk.boxed hs (.inl rfl))
  have hpW := hk.boxed hp (.inr (.inl rfl))
  have hqW := hk.boxed hq (.inr (.inr (.inl rfl)))
  have hlW := hk.boxed hl (.inr (.inr (.inr rfl)))
  clear hk hs hp hq hl hB
  have h145 : ∀ (A : Option Addr) (bs : List UInt8) (c : Nat) (W : World), CB W A bs → W.cell? ⟨Bl, 0, none⟩ = some (.int .u8 10) → Calls Tryz.prog 145 #[.slice A bs.length c, .slice (some ⟨Bl, 0, none⟩) 1 1] W fun e w' => e = .returned (.int .i64 (Lib.indexByte bs 10)) ∧ w' = W := fun A bs c W h hc => Index1 A bs c Bl 0 1 10 W h hc
  refine callsIn_of_wp Tryz.func200 rfl trivial ?_ rfl
  simp only [Tryz.ntmps200, List.size_toArray, List.length_cons, List.length_nil, Nat.reduceAdd, Nat.reduceSub, Array.replicate_succ, Array.replicate_zero, List.push_toArray, List.append_toArray, List.nil_append, List.cons_append]
  have hpc := hpW.cell
  gi_wp2
  gi_loopw [7] (fun s7 wr => ∃ (X : Nat → Prop) (i f : Nat) (A' : Option Addr) (bs' : List UInt8) (cap' : Nat), Aside0 (J X i wr) ∧ Aside0 (∀ k, (k = Bs ∨ k = Bp ∨ k = Bq ∨ k = Bl) → X k) ∧ Aside0 (bs'.length ≤ f ∧ bs'.length ≤ cap') ∧ Aside0 ((splitV bs.length A cap bs).drop i = splitV f A' cap' bs') ∧ Aside0 (CB w0 A' bs') ∧ Aside0 (Below w0.heap.size w0 wr) ∧ Aside0 (Boxed wr Bs 41 (.slice A' bs'.length cap')) ∧ Aside0 (Boxed wr Bp 41 (.slice (some ⟨Bl, 0, none⟩) 1 1)) ∧ Aside0 (Boxed wr Bq 3 (.int .i64 0)) ∧ Aside0 (Boxed wr Bl 5 (.int .u8 10)))
    (fun _ wr => sliceLen (wr.cell? ⟨Bs, 0, none⟩))
  case atStart => exact ⟨_, 0, bs.length, A, bs, cap, ⟨h0⟩, ⟨fun k hk => hk⟩, ⟨Nat.le_refl _, hcap⟩, ⟨rfl⟩, ⟨hC⟩, HB, Hs, ⟨hpW⟩, ⟨hqW⟩, ⟨hlW⟩⟩
  case round =>
    clear h0 HB Hs hpW hqW hlW hpc hC hcap
    obtain ⟨X, i, f, A', bs', cap', HJ, HX, HF, HD, HC, HB, Hs, Hp, Hq, Hl⟩ := hrel
    have hsc := Hs.out.cell
    have hpc := Hp.out.cell
    have hqc := Hq.out.cell
    have hlc := Hl.out.cell
    have HI := Aside0.mk (h145 A' bs' cap' wr (HC.out.below HB.out) hlc)
    have hidx := indexByte_find 10 bs'
    cases hf : bs'.findIdx? (· == 10) with
    | none =>
      rw [hf] at hidx
      replace hidx : Lib.indexByte bs' 10 = -1 := hidx
      rw [hidx] at HI
      have hd := HD.out
      rw [splitV_none hf] at hd
      have hf' := hf
      obtain ⟨hxi, _, hlt⟩ := drop_cons hd
      obtain ⟨fn, tmps, assign, body, hy, hR⟩ := hY X i _ wr HJ.out hxi
      dsimp only at hy
      have hn0 := HF.out.2
      clear hd hf hidx
      gi_wp2_with (refine ⟨trivial, ?_⟩; gi_at_call 145; refine (callsIn_wide.2 HI.out).mono ?_; rintro e w' ⟨rfl, rfl⟩)
      have hlen : i + 1 = (splitV bs.length A cap bs).length := by
        have := congrArg List.length HD.out
        rw [splitV_none hf', List.length_drop] at this
        simp at this
        omega
      refine hR.mono ?_
      rintro e W' (⟨rfl, hJ', hk⟩ | ⟨rfl, hJx', _⟩)
      · rw [hlen] at hJ'
        gi_wp2
        go_end0
        exact ⟨⟨_, rfl⟩, .inl ⟨X, hJ'⟩⟩
      · gi_wp2
        go_end0
        exact ⟨⟨_, rfl⟩, .inr ⟨X, i + 1, by omega, hJx'⟩⟩
    | some j =>
      rw [hf] at hidx
      replace hidx : Lib.indexByte bs' 10 = (j : Int) := hidx
      rw [hidx] at HI
      have hj : j < bs'.length := by
        have := (List.findIdx?_eq_some_iff_getElem.1 hf).1
        exact this
      have hf' := hf
      obtain ⟨f0, rfl⟩ : ∃ f0, f = f0 + 1 := ⟨f - 1, by have := HF.out.1; omega⟩
      have hd := HD.out
      rw [splitV_some hf] at hd
      obtain ⟨hxi, hdr, hlt⟩ := drop_cons hd
      obtain ⟨fn, tmps, assign, body, hy, hR⟩ := hY X i _ wr HJ.out hxi
      dsimp only at hy
      have hn0 := HF.out.2
      have hm := HC.out.2.1
      have hjc : (j : Int) ≤ (cap' : Int) := by omega
      have hw0 : IntKind.i64.wrap ((j : Int) + 0) = (j : Int) := by rw [Int.add_zero]; exact IntWalk.i64_in _ (by omega)
      have hw1 : IntKind.i64.wrap (j : Int) = (j : Int) := IntWalk.i64_in _ (by omega)
      have HDR := Aside0.mk hdr
      have HFF := Aside0.mk hf
      clear hd hf hidx hdr hf'
      gi_wp2_with (refine ⟨trivial, ?_⟩; gi_at_call 145; refine (callsIn_wide.2 HI.out).mono ?_; rintro e w' ⟨rfl, rfl⟩)
      refine hR.mono ?_
      rintro e W' (⟨rfl, hJ', hk⟩ | ⟨rfl, hJx', _⟩)
      · have hs' := hk.boxed Hs.out (HX.out _ (.inl rfl))
        have hp' := hk.boxed Hp.out (HX.out _ (.inr (.inl rfl)))
        have hq' := hk.boxed Hq.out (HX.out _ (.inr (.inr (.inl rfl))))
        have hl' := hk.boxed Hl.out (HX.out _ (.inr (.inr (.inr rfl))))
        have hb' := HB.out.trans (hk.below HB.out.size)
        have hsc' := hs'.cell
        have hsf' := hs'.frozen
        have hpc' := hp'.cell
        have hj1 : (j : Int) + 1 ≤ (bs'.length : Int) := by omega
        have hw2 : IntKind.i64.wrap ((j : Int) + 1) = (j : Int) + 1 := IntWalk.i64_in _ (by omega)
        have hcs := hs'.cell
        have HS' := Aside0.mk hs'
        have HP' := Aside0.mk hp'
        have HQ' := Aside0.mk hq'
        have HL' := Aside0.mk hl'
        have HB' := Aside0.mk hb'
        have HJ' := Aside0.mk hJ'
        clear hk hs' hp' hq' hl' hb' hJ'
        gi_wp2
        have hadd : (fun x : Addr => ({ block := x.block, off := x.off + (j + 1) } : Addr)) = fun x => x.add (j + 1) := by
          funext x
          unfold Addr.add
          rw [if_neg (by omega)]
        rw [hadd]
        have hCB : CB w0 (if cap' = j + 1 then A' else A'.map (·.add (j + 1))) (bs'.drop (j + 1)) := by
          by_cases hc : cap' = j + 1
          · rw [if_pos hc]
            have : bs'.drop (j + 1) = [] := List.drop_eq_nil_of_le (by have := HF.out.2; omega)
            rw [this]
            exact CB.nil
          · rw [if_neg hc]
            exact HC.out.drop (j + 1)
        have hdl : (bs'.drop (j + 1)).length = bs'.length - (j + 1) := List.length_drop
        have hdr' := HDR.out
        generalize (if cap' = j + 1 then A' else A'.map (·.add (j + 1))) = A2 at *
        have hJ2 := hJ _ _ _ _ HJ'.out (stepX_set (HX.out _ (.inl rfl)) (.slice A2 (bs'.length - (j + 1)) (cap' - (j + 1))))
        rw [GrowX_none (size_set _ _ _)] at hJ2
        have hset : ∀ {b : Nat} {t : TypeId} {v u : Value}, Boxed W' b t v → Bs ≠ b → Boxed (W'.setCell ⟨Bs, 0, none⟩ u) b t v := fun h hne => h.kept (grownBy_setCell' _ _ _) (fun e => hne (by injection e with e; exact e.symm))
        refine ⟨⟨X, i + 1, f0, A2, bs'.drop (j + 1), cap' - (j + 1), ⟨hJ2⟩, HX, ⟨by have := HF.out; omega, by have := HF.out; omega⟩, ⟨hdr'⟩, ⟨hCB⟩, ⟨HB'.out.trans ((Below.refl _ _).grown (grownBy_setCell' _ _ _) (HB'.out.size) (fun k e => by injection e with e; omega))⟩, ⟨by rw [hdl]; exact HS'.out.set _⟩, ⟨hset HP'.out hne.1⟩, ⟨hset HQ'.out hne.2.1⟩, ⟨hset HL'.out hne.2.2⟩⟩, ?_⟩
        rw [(HS'.out.set _).cell]
        have := Hs.out.cell
        rw [this]
        show bs'.length - (j + 1) < bs'.length
        omega
      · gi_wp2
        refine bodyPost_ret (results_none rfl _ _ _) rfl ?_
        exact ⟨⟨_, rfl⟩, .inr ⟨X, i + 1, by omega, hJx'⟩⟩
end Go.Proofs.YtcdhhaedgohlgaaGreatDoor.P
end

section
namespace Go.Proofs
open Go.Shelf
def Tryz.lays7n32_ren : Go.Shelf.Ren := ⟨fun | 32 => 171 | 49 => 201 | n => n, fun | 30 => 41 | 21 => 21 | 3 => 3 | 0 => 0 | 5 => 5 | 4 => 4 | 33 => 175 | 66 => 213 | 25 => 144 | 69 => 216 | 68 => 215 | n => n, fun | 2 => 3 | 3 => 4 | n => n⟩
theorem Tryz.lays7n32 : Go.Proofs.Lays7.n32 Tryz.prog Tryz.lays7n32_ren := {
  mixed := by kernel_rfl
  f32 := Tryz.func171.trans (congrArg some (by kernel_rfl))
  f49 := Tryz.func201.trans (congrArg some (by kernel_rfl))
  t0 := Tryz.underlying0
  a0 := Tryz.isAgg0
  z0 := Tryz.sizeOf0
  v0 := Tryz.zeroValue0
  i0 := by kernel_rfl
  t3 := Tryz.underlying3
  a3 := Tryz.isAgg3
  z3 := Tryz.sizeOf3
  v3 := Tryz.zeroValue3
  i3 := by kernel_rfl
  t4 := Tryz.underlying4
  a4 := Tryz.isAgg4
  z4 := Tryz.sizeOf4
  v4 := Tryz.zeroValue4
  i4 := by kernel_rfl
  t5 := Tryz.underlying5
  a5 := Tryz.isAgg5
  z5 := Tryz.sizeOf5
  v5 := Tryz.zeroValue5
  i5 := by kernel_rfl
  t21 := Tryz.underlying21
  a21 := Tryz.isAgg21
  z21 := Tryz.sizeOf21
  v21 := Tryz.zeroValue21
  i21 := by kernel_rfl
  t25 := Tryz.underlying144
  a25 := Tryz.isAgg144
  z25 := Tryz.sizeOf144
  v25 := Tryz.zeroValue144
  i25 := by kernel_rfl
  t30 := Tryz.underlying41
  a30 := Tryz.isAgg41
  z30 := Tryz.sizeOf41
  v30 := Tryz.zeroValue41
  i30 := by kernel_rfl
  t33 := Tryz.underlying175
  a33 := Tryz.isAgg175
  z33 := Tryz.sizeOf175
  v33 := Tryz.zeroValue175
  i33 := by kernel_rfl
  t66 := Tryz.underlying213
  a66 := Tryz.isAgg213
  z66 := Tryz.sizeOf213
  t68 := Tryz.underlying215
  a68 := Tryz.isAgg215
  z68 := Tryz.sizeOf215
  v68 := Tryz.zeroValue215
  i68 := by kernel_rfl
  t69 := Tryz.underlying216
  a69 := Tryz.isAgg216
  z69 := Tryz.sizeOf216
  v69 := Tryz.zeroValue216
  i69 := by kernel_rfl
  g2 := by kernel_rfl
  g3 := by kernel_rfl }
end Go.Proofs
end

section
namespace Go.Proofs.YtcdhhaedgohlgaaGreatDoor.P
open Go.RowKit Go.Shelf Go.Proofs.YtcdhhaedgohlgaaGreatDoorW.PrintWords Go.Proofs.YtcdhhaedgohlgaaGreatDoorW.PrintLast Go.Proofs.YtcdhhaedgohlgaaGreatDoorW.PrintMore
set_option linter.unusedVariables false
set_option linter.unusedSimpArgs false
set_option maxRecDepth 100000
attribute [local go_sem] Oper.semAt_some

def isSp (b : UInt8) : Bool := b == 32 || b == 9 || b == 13
def isSpR (r : Nat) : Bool := r == 32 || r == 9 || r == 13

theorem get_list (bs : List UInt8) (i : Nat) : (⟨bs.toArray⟩ : ByteArray).get! i = bs.getD i 0 := by
  show (bs.toArray)[i]! = _
  simp [List.getD_eq_getElem?_getD, Array.getElem!_eq_getD, Array.getD_eq_getD_getElem?]
  rfl

theorem dec_ascii (bs : List UInt8) (h : 0 < bs.length) (ha : (bs.getD 0 0).toNat < 128) : Lib.decodeGo ⟨bs.toArray⟩ = ((bs.getD 0 0).toNat, 1) := by
  unfold Lib.decodeGo
  rw [if_neg (by show ¬ bs.toArray.size = 0; simp; intro e; subst e; simp at h), Lib.decode_at, get_list]
  unfold Lib.decodeN
  rw [if_pos ha]
theorem dec_big (bs : List UInt8) (h : 0 < bs.length) (ha : ¬ (bs.getD 0 0).toNat < 128) : 128 ≤ (Lib.decodeGo ⟨bs.toArray⟩).1 ∧ 1 ≤ (Lib.decodeGo ⟨bs.toArray⟩).2 ∧ (Lib.decodeGo ⟨bs.toArray⟩).2 ≤ bs.length ∧ ∀ j, j < (Lib.decodeGo ⟨bs.toArray⟩).2 → 128 ≤ (bs.getD j 0).toNat := by
  unfold Lib.decodeGo
  have hs : (⟨bs.toArray⟩ : ByteArray).size = bs.length := by show bs.toArray.size = _; simp
  rw [if_neg (by rw [hs]; omega), Lib.decode_at, get_list, get_list, get_list, get_list, hs]
  have h0 := UInt8.toNat_lt (bs.getD 0 0)
  generalize hb0 : (bs.getD 0 0).toNat = b0 at *
  generalize hb1 : (bs.getD (0 + 1) 0).toNat = b1 at *
  generalize hb2 : (bs.getD (0 + 2) 0).toNat = b2 at *
  generalize hb3 : (bs.getD (0 + 3) 0).toNat = b3 at *
  have hj : ∀ j, j < 4 → (bs.getD j 0).toNat = if j = 0 then b0 else if j = 1 then b1 else if j = 2 then b2 else b3 := by
    intro j hj
    rcases (by omega : j = 0 ∨ j = 1 ∨ j = 2 ∨ j = 3) with rfl | rfl | rfl | rfl
    · simpa using hb0
    · simpa using hb1
    · simpa using hb2
    · simpa using hb3
  unfold Lib.decodeN
  rw [if_neg ha]
  repeat' split
  all_goals refine ⟨by simp only; omega, by simp, by simp only; omega, fun j hjj => ?_⟩
  all_goals
    simp only at hjj
    rw [hj j (by omega)]
    repeat' split
    all_goals omega

/-- One field: where it lies, what it holds. -/
def fieldX (A : Option Addr) (bs : List UInt8) (s i : Nat) : Value × List UInt8 := (.slice (A.map (·.add s)) (i - s) (i - s), (bs.drop s).take (i - s))
/-- The fields, byte by byte: at place i, the rest r; the field under way. -/
def fieldsV (A : Option Addr) (bs : List UInt8) : List UInt8 → Nat → Option Nat → List (Value × List UInt8)
  | [], i, some s => [fieldX A bs s i]
  | [], _, none => []
  | b :: r, i, st => if isSp b then (match st with | some s => fieldX A bs s i :: fieldsV A bs r (i + 1) none | none => fieldsV A bs r (i + 1) none) else fieldsV A bs r (i + 1) (some (st.getD i))

theorem fieldsV_skip (A : Option Addr) (bs : List UInt8) : ∀ (r1 r2 : List UInt8) (i : Nat) (st : Option Nat), r1 ≠ [] → (∀ b ∈ r1, isSp b = false) → fieldsV A bs (r1 ++ r2) i st = fieldsV A bs r2 (i + r1.length) (some (st.getD i))
  | [], _, _, _, h, _ => absurd rfl h
  | b :: r1, r2, i, st, _, h => by
    have hb := h b (List.mem_cons_self ..)
    rw [List.cons_append]
    show (if isSp b then _ else _) = _
    rw [hb, if_neg (by simp)]
    by_cases hr : r1 = []
    · subst hr; rfl
    · rw [fieldsV_skip A bs r1 r2 (i + 1) (some (st.getD i)) hr (fun c hc => h c (List.mem_cons_of_mem _ hc))]
      show fieldsV A bs r2 (i + 1 + r1.length) (some (st.getD i)) = fieldsV A bs r2 (i + (r1.length + 1)) (some (st.getD i))
      rw [show i + 1 + r1.length = i + (r1.length + 1) by omega]

theorem sp135 (r : Nat) (w : World) : Calls Tryz.prog 135 #[.int .i32 (r : Int)] w fun e w' => e = .returned (.bool (isSpR r)) ∧ ∃ q, w' = w.drewN q := by
  unfold isSpR
  by_cases h1 : r = 32
  · subst h1
    go_enter Tryz.func135, Tryz.ntmps135
    go_wp2
    go_ret
    exact ⟨rfl, by first | exact ⟨0, rfl⟩ | exact ⟨_, rfl⟩⟩
  · have d1 : ((r : Int) == 32) = false := beq_eq_false_iff_ne.2 (by omega)
    have e1 : (r == 32) = false := beq_eq_false_iff_ne.2 h1
    by_cases h2 : r = 9
    · subst h2
      go_enter Tryz.func135, Tryz.ntmps135
      go_wp2
      go_ret
      exact ⟨rfl, by first | exact ⟨0, rfl⟩ | exact ⟨_, rfl⟩⟩
    · have d2 : ((r : Int) == 9) = false := beq_eq_false_iff_ne.2 (by omega)
      have e2 : (r == 9) = false := beq_eq_false_iff_ne.2 h2
      rw [e1, e2]
      by_cases h3 : r = 13
      · subst h3
        go_enter Tryz.func135, Tryz.ntmps135
        go_wp2
        go_ret
        exact ⟨rfl, by first | exact ⟨0, rfl⟩ | exact ⟨_, rfl⟩⟩
      · have d3 : ((r : Int) == 13) = false := beq_eq_false_iff_ne.2 (by omega)
        have e3 : (r == 13) = false := beq_eq_false_iff_ne.2 h3
        rw [e3]
        go_enter Tryz.func135, Tryz.ntmps135
        go_wp2
        go_ret
        exact ⟨rfl, by first | exact ⟨0, rfl⟩ | exact ⟨_, rfl⟩⟩

theorem addP (b o j : Nat) : (⟨b, o, none⟩ : Addr).add j = ⟨b, o + j, none⟩ := by
  unfold Addr.add
  split
  · rename_i h; subst h; rfl
  · rfl

theorem decode171 (bs : List UInt8) (b off cap : Nat) (w : World) (hT : Lib.Utf8Tabs 3 4 w) (h : CB w (some ⟨b, off, none⟩) bs) :
    Calls Tryz.prog 171 #[.slice (some ⟨b, off, none⟩) bs.length cap] w fun e w' => e = .returned (.tuple #[.int .i32 (Lib.decodeGo ⟨bs.toArray⟩).1, .int .i64 (Lib.decodeGo ⟨bs.toArray⟩).2]) ∧ Below w.heap.size w w' := by
  have hs : (⟨bs.toArray⟩ : ByteArray).size = bs.length := by show bs.toArray.size = _; simp
  have := Any7.utf8_DecodeRune Tryz.lays7n32 ⟨bs.toArray⟩ b off cap w hT (fun j hj => by
    rw [hs] at hj
    obtain ⟨ad, e, hx⟩ := h.at_ j hj
    injection e with e
    subst e
    rw [addP] at hx
    rw [hx, get_list]
    simp [List.getD_eq_getElem?_getD, hj])
  rw [hs] at this
  exact this

theorem below_step_X {X : Nat → Prop} {W W' : World} (h : Below W.heap.size W W') : StepX X W W' := ⟨h.os, h.tape, h.output, h.size, fun k hk _ => h.block k hk⟩

theorem isSp_iff (b : UInt8) : isSp b = isSpR b.toNat := by
  unfold isSp isSpR
  have h : ∀ c : UInt8, (b == c) = (b.toNat == c.toNat) := by
    intro c
    cases h : b == c with
    | true => have := beq_iff_eq.1 h; subst this; simp
    | false =>
      have h1 : b ≠ c := beq_eq_false_iff_ne.1 h
      exact (beq_eq_false_iff_ne.2 (fun e => h1 (UInt8.toNat_inj.1 e))).symm
  rw [h, h, h]
  rfl
theorem dec_facts (bs : List UInt8) (h : 0 < bs.length) :
    (isSpR (Lib.decodeGo ⟨bs.toArray⟩).1 = true → (Lib.decodeGo ⟨bs.toArray⟩).2 = 1 ∧ isSp (bs.getD 0 0) = true) ∧
    (isSpR (Lib.decodeGo ⟨bs.toArray⟩).1 = false → 1 ≤ (Lib.decodeGo ⟨bs.toArray⟩).2 ∧ (Lib.decodeGo ⟨bs.toArray⟩).2 ≤ bs.length ∧ ∀ x ∈ bs.take (Lib.decodeGo ⟨bs.toArray⟩).2, isSp x = false) := by
  by_cases ha : (bs.getD 0 0).toNat < 128
  · rw [dec_ascii bs h ha]
    refine ⟨fun hs => ⟨rfl, by rw [isSp_iff]; exact hs⟩, fun hs => ⟨Nat.le_refl _, h, fun x hx => ?_⟩⟩
    cases bs with
    | nil => simp at h
    | cons b bs =>
      simp at hx
      subst hx
      rw [isSp_iff]
      exact hs
  · obtain ⟨h1, h2, h3, h4⟩ := dec_big bs h ha
    have hr : isSpR (Lib.decodeGo ⟨bs.toArray⟩).1 = false := by
      unfold isSpR
      rw [beq_eq_false_iff_ne.2 (by omega), beq_eq_false_iff_ne.2 (by omega), beq_eq_false_iff_ne.2 (by omega)]
      rfl
    refine ⟨fun hs => (by rw [hr] at hs; cases hs), fun _ => ⟨h2, h3, fun x hx => ?_⟩⟩
    obtain ⟨j, hj, rfl⟩ := List.getElem_of_mem hx
    rw [List.length_take] at hj
    have h5 := h4 j (by omega)
    rw [List.getElem_take, isSp_iff]
    have e : bs.getD j 0 = bs[j] := by simp [List.getD_eq_getElem?_getD, show j < bs.length by omega]
    rw [e] at h5
    unfold isSpR
    rw [beq_eq_false_iff_ne.2 (by omega), beq_eq_false_iff_ne.2 (by omega), beq_eq_false_iff_ne.2 (by omega)]
    rfl

def stI : Option Nat → Int
  | some s => s
  | none => -1

set_option maxHeartbeats 4000000 in
theorem fields_iter (n : Nat) (hn : 1 ≤ n) (w0 w : World) (hL : Laid w0) (Bs Bf : Nat) (A : Option Addr) (bs : List UInt8) (cap : Nat) (hB : Below w0.heap.size w0 w) (hC : CB w0 A bs) (hcap : bs.length ≤ cap)
    (hs : Boxed w Bs 41 (.slice A bs.length cap)) (hf : Boxed w Bf 150 (.func (.func 135) #[] #[])) :
    IterK Fence.wide n Tryz.prog 170 #[.pointer (some ⟨Bs, 0, none⟩), .pointer (some ⟨Bf, 0, none⟩)] (fun x : Value × List UInt8 => #[x.1]) (fieldsV A bs bs 0 none) w0.heap.size (fun k => k = Bs ∨ k = Bf) w := by
  intro l J Jx W hk hJ hJx hY h0
  have HB := Aside0.mk (hB.trans (hk.below hB.size))
  have Hs := Aside0.mk (hk.boxed hs (.inl rfl))
  have Hf := Aside0.mk (hk.boxed hf (.inr rfl))
  have hm := hC.2.1
  have HC := Aside0.mk hC
  have HL := Aside0.mk hL
  have HJ0 := Aside0.mk h0
  clear hk hs hf hB hC hL h0
  refine callsIn_of_wp Tryz.func170 rfl trivial ?_ rfl
  simp only [Tryz.ntmps170, List.size_toArray, List.length_cons, List.length_nil, Nat.reduceAdd, Nat.reduceSub, Array.replicate_succ, Array.replicate_zero, List.push_toArray, List.append_toArray, List.nil_append, List.cons_append]
  gi_wp2
  gi_loopw [4, 5] (fun s4 s5 wr => ∃ (X : Nat → Prop) (c i : Nat) (st : Option Nat), s5 = .int .i64 i ∧ s4 = .int .i64 (stI st) ∧ i ≤ bs.length ∧ (∀ s, st = some s → s < i) ∧ Aside0 (c ≤ (fieldsV A bs bs 0 none).length) ∧ Aside0 (J X c wr) ∧ Aside0 (∀ k, (k = Bs ∨ k = Bf) → X k) ∧ Aside0 ((fieldsV A bs bs 0 none).drop c = fieldsV A bs (bs.drop i) i st) ∧ Aside0 (Below w0.heap.size w0 wr) ∧ Aside0 (Boxed wr Bs 41 (.slice A bs.length cap)) ∧ Aside0 (Boxed wr Bf 150 (.func (.func 135) #[] #[])))
    (fun _ s5 _ => bs.length - (intOf s5).toNat)
  case atStart => exact ⟨_, 0, 0, none, rfl, rfl, Nat.zero_le _, (fun s h => by cases h), ⟨Nat.zero_le _⟩, HJ0, ⟨fun k hk => hk⟩, ⟨rfl⟩, HB, Hs, Hf⟩
  case round =>
    clear HJ0 HB Hs Hf
    obtain ⟨X, c, i, st, rfl, rfl, hile, hst, HCL, HJ, HX, HD, HB, Hs, Hf⟩ := hrel
    have hsc := Hs.out.cell
    have hfc := Hf.out.cell
    have J1 : ∀ (w1 : World) (q : Nat), Below wr.heap.size wr w1 → J (GrowX X wr w1) c (w1.drewN q) := by
      intro w1 q hb
      have h1 := hJ _ _ _ _ HJ.out (below_step_X hb)
      have h2 := hJ _ _ _ _ h1 (stepX_drew q)
      rw [GrowX_none (W := w1) (W' := w1.drewN q) rfl] at h2
      exact h2
    by_cases hi : i < bs.length
    · have hiz : (i : Int) < (bs.length : Int) := by omega
      have hci : ¬ cap = i := by omega
      obtain ⟨ad, e1, hx0⟩ := HC.out.at_ i hi
      obtain ⟨b, off, sp⟩ := ad
      have hsp : sp = none := by
        obtain ⟨ad0, e0, hx1⟩ := HC.out.at_ 0 (by omega)
        rw [e1] at e0
        injection e0 with e0
        subst e0
        have := World.cell?_spot hx1
        simpa [Addr.add] using this
      subst hsp
      subst e1
      have hdl : (bs.drop i).length = bs.length - i := List.length_drop
      have hCd := (HC.out.below HB.out).drop i
      have hadd : (some (⟨b, off, none⟩ : Addr)).map (·.add i) = some ⟨b, off + i, none⟩ := by show some (Addr.add _ i) = _; rw [addP]
      rw [hadd] at hCd
      have HDE := Aside0.mk (decode171 (bs.drop i) b (off + i) (cap - i) wr (HL.out.utf HB.out) hCd)
      rw [hdl] at HDE
      have hfacts := dec_facts (bs.drop i) (by rw [hdl]; omega)
      generalize hdd : Lib.decodeGo ⟨(bs.drop i).toArray⟩ = dd at *
      obtain ⟨r, sz⟩ := dd
      dsimp only at hfacts
      have hspr := fun W => Aside0.mk (sp135 r W)
      have hdg : (bs.drop i).getD 0 0 = bs.getD i 0 := by simp [List.getD_eq_getElem?_getD]
      clear hCd hx0 hdd
      have hd := HD.out
      cases hsp : isSpR r with
      | true =>
        obtain ⟨rfl, hb⟩ := hfacts.1 hsp
        rw [hdg] at hb
        clear hfacts
        have hcons : bs.drop i = bs.getD i 0 :: bs.drop (i + 1) := by
          rw [List.drop_eq_getElem_cons hi]
          simp [List.getD_eq_getElem?_getD, hi]
        rw [hcons] at hd
        cases st with
        | none =>
          replace hd : (fieldsV (some ⟨b, off, none⟩) bs bs 0 none).drop c = fieldsV (some ⟨b, off, none⟩) bs (bs.drop (i + 1)) (i + 1) none := by
            rw [hd]; show (if isSp (bs.getD i 0) then _ else _) = _; rw [hb]; rfl
          have HD2 := Aside0.mk hd
          clear hd hb hcons hdg HD
          gi_wp2_with (refine ⟨trivial, ?_⟩; first | (gi_at_call 171; refine (callsIn_wide.2 HDE.out).mono ?_; rintro e w1 ⟨rfl, hb1⟩; have HB1 := Aside0.mk hb1; have hsc1 := pw_cell_below hb1 hsc; have hfc1 := pw_cell_below hb1 hfc; clear hb1) | (gi_at_call 135; refine (callsIn_wide.2 (hspr _).out).mono ?_; rintro e w2 ⟨rfl, q2, rfl⟩; rw [hsp]; have HJ1 := Aside0.mk (J1 w1 q2 HB1.out)))
          refine ⟨⟨_, c, i + 1, none, by go_num, rfl, by omega, (fun s h => by cases h), HCL, HJ1, ⟨fun k hk => .inl (HX.out k hk)⟩, HD2, ⟨pw_below_drewN (HB.out.trans (HB1.out.mono HB.out.size)) _⟩, ⟨(HB1.out.block _ Hs.out.lt).trans Hs.out⟩, ⟨(HB1.out.block _ Hf.out.lt).trans Hf.out⟩⟩, ?_⟩
          simp [intOf]
          omega
        | some s =>
          have hsi := hst s rfl
          replace hd : (fieldsV (some ⟨b, off, none⟩) bs bs 0 none).drop c = (.slice (some ⟨b, off + s, none⟩) (i - s) (i - s), (bs.drop s).take (i - s)) :: fieldsV (some ⟨b, off, none⟩) bs (bs.drop (i + 1)) (i + 1) none := by
            rw [hd]; show (if isSp (bs.getD i 0) then _ else _) = _; rw [hb]; show fieldX _ _ _ _ :: _ = _
            unfold fieldX
            show (Value.slice (some (Addr.add _ s)) _ _, _) :: _ = _
            rw [addP]
          obtain ⟨hxi, hdr, hlt⟩ := drop_cons hd
          have HD2 := Aside0.mk hdr
          have hs0 : (0 : Int) ≤ (s : Int) := by omega
          have hs1 : (s : Int) ≤ (i : Int) := by omega
          have hic : (i : Int) ≤ (cap : Int) := by omega
          have hne : ¬ i = s := by omega
          have hstI : stI (some s) = (s : Int) := rfl
          rw [hstI]
          clear hd hb hcons hdg HD hdr
          gi_wp2_with (refine ⟨trivial, ?_⟩; first | (gi_at_call 171; refine (callsIn_wide.2 HDE.out).mono ?_; rintro e w1 ⟨rfl, hb1⟩; have HB1 := Aside0.mk hb1; have hsc1 := pw_cell_below hb1 hsc; have hfc1 := pw_cell_below hb1 hfc; clear hb1) | (gi_at_call 135; refine (callsIn_wide.2 (hspr _).out).mono ?_; rintro e w2 ⟨rfl, q2, rfl⟩; rw [hsp]; have HJ1 := Aside0.mk (J1 w1 q2 HB1.out); obtain ⟨fn, tmps, assign, body, hy, hR⟩ := hY _ c _ _ HJ1.out hxi; dsimp only at hy))
          refine hR.mono ?_
          rintro e W' (⟨rfl, hJ', hk⟩ | ⟨rfl, hJx', _⟩)
          · have HBw : Aside0 (Below w0.heap.size w0 (w1.drewN q2)) := ⟨pw_below_drewN (HB.out.trans (HB1.out.mono HB.out.size)) _⟩
            have hs' := hk.boxed (b := Bs) ((HB1.out.block _ Hs.out.lt).trans Hs.out) (.inl (HX.out _ (.inl rfl)))
            have hf' := hk.boxed (b := Bf) ((HB1.out.block _ Hf.out.lt).trans Hf.out) (.inl (HX.out _ (.inr rfl)))
            have HB' : Aside0 (Below w0.heap.size w0 W') := ⟨HBw.out.trans (hk.below HBw.out.size)⟩
            have HS' := Aside0.mk hs'
            have HF' := Aside0.mk hf'
            have HJ' := Aside0.mk hJ'
            clear hk hs' hf' hJ'
            gi_wp2
            refine ⟨⟨_, c + 1, i + 1, none, by go_num, rfl, by omega, (fun s h => by cases h), ⟨by omega⟩, HJ', ⟨fun k hk => .inl (HX.out k hk)⟩, HD2, HB', HS', HF'⟩, ?_⟩
            simp [intOf]
            omega
          · gi_wp2
            refine bodyPost_ret (results_none rfl _ _ _) rfl ?_
            exact ⟨⟨_, rfl⟩, .inr ⟨_, c + 1, by omega, hJx'⟩⟩
      | false =>
        obtain ⟨hz1, hz2, hz3⟩ := hfacts.2 hsp
        rw [hdl] at hz2
        have hw1 : IntKind.i64.wrap ((i : Int) + (sz : Int)) = ((i + sz : Nat) : Int) := by rw [IntWalk.i64_in _ (by omega)]; omega
        have hsplit : bs.drop i = (bs.drop i).take sz ++ bs.drop (i + sz) := by
          rw [← List.drop_drop, List.take_append_drop]
        have htl : ((bs.drop i).take sz).length = sz := by rw [List.length_take, hdl]; omega
        replace hd : (fieldsV (some ⟨b, off, none⟩) bs bs 0 none).drop c = fieldsV (some ⟨b, off, none⟩) bs (bs.drop (i + sz)) (i + sz) (some (st.getD i)) := by
          rw [hd, hsplit, fieldsV_skip _ _ _ _ _ _ (by intro e; rw [e] at htl; simp at htl; omega) hz3, htl]
        have HD2 := Aside0.mk hd
        clear hd hfacts hsplit htl hz3 HD hdg
        cases st with
        | none =>
          have hstI : stI none = -1 := rfl
          rw [hstI]
          gi_wp2_with (refine ⟨trivial, ?_⟩; first | (gi_at_call 171; refine (callsIn_wide.2 HDE.out).mono ?_; rintro e w1 ⟨rfl, hb1⟩; have HB1 := Aside0.mk hb1; have hsc1 := pw_cell_below hb1 hsc; have hfc1 := pw_cell_below hb1 hfc; clear hb1) | (gi_at_call 135; refine (callsIn_wide.2 (hspr _).out).mono ?_; rintro e w2 ⟨rfl, q2, rfl⟩; rw [hsp]; have HJ1 := Aside0.mk (J1 w1 q2 HB1.out)))
          refine ⟨⟨_, c, i + sz, some i, by go_num, rfl, by omega, (fun s h => by injection h with h; omega), HCL, HJ1, ⟨fun k hk => .inl (HX.out k hk)⟩, HD2, ⟨pw_below_drewN (HB.out.trans (HB1.out.mono HB.out.size)) _⟩, ⟨(HB1.out.block _ Hs.out.lt).trans Hs.out⟩, ⟨(HB1.out.block _ Hf.out.lt).trans Hf.out⟩⟩, ?_⟩
          simp [intOf]
          omega
        | some s =>
          have hsi := hst s rfl
          have hstI : stI (some s) = (s : Int) := rfl
          have hs0 : ¬ (s : Int) < 0 := by omega
          rw [hstI]
          gi_wp2_with (refine ⟨trivial, ?_⟩; first | (gi_at_call 171; refine (callsIn_wide.2 HDE.out).mono ?_; rintro e w1 ⟨rfl, hb1⟩; have HB1 := Aside0.mk hb1; have hsc1 := pw_cell_below hb1 hsc; have hfc1 := pw_cell_below hb1 hfc; clear hb1) | (gi_at_call 135; refine (callsIn_wide.2 (hspr _).out).mono ?_; rintro e w2 ⟨rfl, q2, rfl⟩; rw [hsp]; have HJ1 := Aside0.mk (J1 w1 q2 HB1.out)))
          refine ⟨⟨_, c, i + sz, some s, by go_num, rfl, by omega, (fun s h => by injection h with h; omega), HCL, HJ1, ⟨fun k hk => .inl (HX.out k hk)⟩, HD2, ⟨pw_below_drewN (HB.out.trans (HB1.out.mono HB.out.size)) _⟩, ⟨(HB1.out.block _ Hs.out.lt).trans Hs.out⟩, ⟨(HB1.out.block _ Hf.out.lt).trans Hf.out⟩⟩, ?_⟩
          simp [intOf]
          omega
    · obtain rfl : i = bs.length := by omega
      have hd := HD.out
      rw [List.drop_length] at hd
      cases st with
      | none =>
        have hlen : c = (fieldsV A bs bs 0 none).length := by
          have := congrArg List.length hd
          rw [List.length_drop] at this
          have h0 : (fieldsV A bs [] bs.length none).length = 0 := rfl
          have := HCL.out
          omega
        have hstI : stI none = -1 := rfl
        rw [hstI]
        have HJF : Aside0 (J X (fieldsV A bs bs 0 none).length wr) := ⟨by rw [← hlen]; exact HJ.out⟩
        clear hd HD hlen
        gi_wp2
        go_end0
        exact ⟨⟨_, rfl⟩, .inl ⟨_, HJF.out⟩⟩
      | some s =>
        have hsi := hst s rfl
        have hstI : stI (some s) = (s : Int) := rfl
        obtain ⟨ad, e1, hx0⟩ := HC.out.at_ 0 (by omega)
        obtain ⟨b, off, sp⟩ := ad
        have hsp : sp = none := by
          have := World.cell?_spot hx0
          simpa [Addr.add] using this
        subst hsp
        subst e1
        replace hd : (fieldsV (some ⟨b, off, none⟩) bs bs 0 none).drop c = [(.slice (some ⟨b, off + s, none⟩) (bs.length - s) (bs.length - s), (bs.drop s).take (bs.length - s))] := by
          rw [hd]; show [fieldX _ _ _ _] = _
          unfold fieldX
          show [(Value.slice (some (Addr.add _ s)) _ _, _)] = _
          rw [addP]
        obtain ⟨hxi, _, hlt⟩ := drop_cons hd
        have hlen : c + 1 = (fieldsV (some ⟨b, off, none⟩) bs bs 0 none).length := by
          have := congrArg List.length hd
          rw [List.length_drop] at this
          simp at this
          omega
        have hs0 : (0 : Int) ≤ (s : Int) := by omega
        have hs1 : (s : Int) ≤ (bs.length : Int) := by omega
        have hic : (bs.length : Int) ≤ (cap : Int) := by omega
        have hne : ¬ bs.length = s := by omega
        rw [hstI]
        obtain ⟨fn, tmps, assign, body, hy, hR⟩ := hY _ c _ wr HJ.out hxi
        dsimp only at hy
        clear hd HD hx0
        gi_wp2
        refine hR.mono ?_
        rintro e W' (⟨rfl, hJ', hk⟩ | ⟨rfl, hJx', _⟩)
        · rw [hlen] at hJ'
          gi_wp2
          go_end0
          exact ⟨⟨_, rfl⟩, .inl ⟨_, hJ'⟩⟩
        · gi_wp2
          go_end0
          exact ⟨⟨_, rfl⟩, .inr ⟨_, c + 1, by omega, hJx'⟩⟩
end Go.Proofs.YtcdhhaedgohlgaaGreatDoor.P
end

section
namespace Go.Proofs.YtcdhhaedgohlgaaGreatDoor.P
open Go.RowKit Go.Shelf Go.Proofs.YtcdhhaedgohlgaaGreatDoorW.PrintWords Go.Proofs.YtcdhhaedgohlgaaGreatDoorW.PrintLast Go.Proofs.YtcdhhaedgohlgaaGreatDoorW.PrintMore
set_option linter.unusedVariables false
set_option linter.unusedSimpArgs false
set_option maxRecDepth 100000
attribute [local go_sem] Oper.semAt_some

def addrOf : Value → Option Addr
  | .slice A _ _ => A
  | _ => none
def lineWords (x : Value × List UInt8) : List (Value × List UInt8) := if x.2.head? = some 99 then [] else fieldsV (addrOf x.1) x.2 x.2 0 none
def wordsV (A : Option Addr) (cap : Nat) (bs : List UInt8) : List (Value × List UInt8) := (splitV bs.length A cap bs).flatMap lineWords

theorem split169 (A1 A2 : Option Addr) (n1 c1 n2 c2 : Nat) (w : World) : Calls Tryz.prog 169 #[.slice A1 n1 c1, .slice A2 n2 c2, .int .i64 0] w fun e w' => e = .returned (.func (.func 200) #[] #[.pointer (some ⟨w.heap.size + 1, 0, none⟩), .pointer (some ⟨w.heap.size, 0, none⟩), .pointer (some ⟨w.heap.size + 1 + 1, 0, none⟩)]) ∧
    w' = ((w.alloc (.cells #[.slice A1 n1 c1] 41)).alloc (.cells #[.slice A2 n2 c2] 41)).alloc (.cells #[.int .i64 0] 3) := by
  go_enter Tryz.func169, Tryz.ntmps169
  go_wp2
  go_ret
  exact ⟨rfl, rfl⟩
theorem split133 (A1 A2 : Option Addr) (n1 c1 n2 c2 : Nat) (w : World) : Calls Tryz.prog 133 #[.slice A1 n1 c1, .slice A2 n2 c2] w fun e w' => e = .returned (.func (.func 200) #[] #[.pointer (some ⟨w.heap.size + 1, 0, none⟩), .pointer (some ⟨w.heap.size, 0, none⟩), .pointer (some ⟨w.heap.size + 1 + 1, 0, none⟩)]) ∧
    w' = ((w.alloc (.cells #[.slice A1 n1 c1] 41)).alloc (.cells #[.slice A2 n2 c2] 41)).alloc (.cells #[.int .i64 0] 3) := by
  have h := Aside0.mk (split169 A1 A2 n1 c1 n2 c2 w)
  go_enter Tryz.func133, Tryz.ntmps133
  go_wp2_with (go_at_call 169; refine (h.out).mono ?_; rintro e w' ⟨rfl, rfl⟩)
  go_ret
  exact ⟨rfl, rfl⟩
theorem fields134 (A1 : Option Addr) (n1 c1 : Nat) (w : World) : Calls Tryz.prog 134 #[.slice A1 n1 c1, .func (.func 135) #[] #[]] w fun e w' => e = .returned (.func (.func 170) #[] #[.pointer (some ⟨w.heap.size, 0, none⟩), .pointer (some ⟨w.heap.size + 1, 0, none⟩)]) ∧
    w' = (w.alloc (.cells #[.slice A1 n1 c1] 41)).alloc (.cells #[.func (.func 135) #[] #[]] 150) := by
  go_enter Tryz.func134, Tryz.ntmps134
  go_wp2
  go_ret
  exact ⟨rfl, rfl⟩

theorem splitV_spec (w : World) : ∀ (f : Nat) (A : Option Addr) (cap : Nat) (bs : List UInt8), bs.length ≤ cap → CB w A bs → ∀ x ∈ splitV f A cap bs, ∃ A', x.1 = .slice A' x.2.length x.2.length ∧ CB w A' x.2
  | 0, A, cap, bs, _, hC, x, hx => by
    have : x = (.slice A bs.length bs.length, bs) := by simpa [splitV] using hx
    subst this
    exact ⟨A, rfl, hC⟩
  | f + 1, A, cap, bs, hcap, hC, x, hx => by
    cases hf : bs.findIdx? (· == 10) with
    | none =>
      rw [splitV_none hf] at hx
      have : x = (.slice A bs.length bs.length, bs) := by simpa using hx
      subst this
      exact ⟨A, rfl, hC⟩
    | some i =>
      rw [splitV_some hf] at hx
      have hi : i < bs.length := (List.findIdx?_eq_some_iff_getElem.1 hf).1
      rcases List.mem_cons.1 hx with rfl | hx
      · have hl : (bs.take i).length = i := by rw [List.length_take]; omega
        exact ⟨A, by show Value.slice A i i = _; rw [hl], hC.take i⟩
      · refine splitV_spec w f _ _ _ (by rw [List.length_drop]; omega) ?_ x hx
        by_cases hc : cap = i + 1
        · rw [if_pos hc]
          have : bs.drop (i + 1) = [] := List.drop_eq_nil_of_le (by omega)
          rw [this]
          exact CB.nil
        · rw [if_neg hc]
          exact hC.drop (i + 1)

theorem roundIn_any {m m' : Nat} {P : Program} {l l1 l2 : Nat} {f : FuncId} {tmps : Array Value} {assign body : Code} {w : World} {R : Ending → World → Prop} (h : RoundIn Fence.wide m P l f tmps assign body w R) : RoundIn ((Fence.wide.inRound l1).inRound l2) m' P l f tmps assign body w R :=
  ⟨h.1, fun c cs _ => h.2 c cs (fun d hd => by cases hd)⟩

theorem cnt_succ {α β : Type} (f : α → List β) (L : List α) (i : Nat) (x : α) (h : L[i]? = some x) : ((L.take (i + 1)).flatMap f).length = ((L.take i).flatMap f).length + (f x).length := by
  rw [List.take_add_one, h, List.flatMap_append]
  simp
theorem flat_at {α β : Type} (f : α → List β) (L : List α) (i : Nat) (x : α) (h : L[i]? = some x) (j : Nat) (y : β) (hj : (f x)[j]? = some y) : (L.flatMap f)[((L.take i).flatMap f).length + j]? = some y := by
  obtain ⟨hi, hx⟩ := List.getElem?_eq_some_iff.1 h
  have e : L = L.take i ++ x :: L.drop (i + 1) := by
    rw [← hx, ← List.drop_eq_getElem_cons hi, List.take_append_drop]
  have e2 : L.flatMap f = (L.take i).flatMap f ++ (f x ++ (L.drop (i + 1)).flatMap f) := by
    conv => lhs; rw [e]
    rw [List.flatMap_append, List.flatMap_cons]
  rw [e2, List.getElem?_append_right (by omega), Nat.add_sub_cancel_left]
  obtain ⟨hjl, _⟩ := List.getElem?_eq_some_iff.1 hj
  rw [List.getElem?_append_left hjl]
  exact hj

set_option maxHeartbeats 4000000 in
theorem words_iter (n : Nat) (hn : 6 ≤ n) (w0 w : World) (hL : Laid w0) (Bb : Nat) (A : Option Addr) (bs : List UInt8) (cap : Nat) (hB : Below w0.heap.size w0 w) (hC : CB w0 A bs) (hcap : bs.length ≤ cap)
    (hb : Boxed w Bb 41 (.slice A bs.length cap)) (hge : w0.heap.size ≤ Bb) :
    IterK Fence.wide n Tryz.prog 132 #[.pointer (some ⟨Bb, 0, none⟩)] (fun x : Value × List UInt8 => #[x.1]) (wordsV A cap bs) w0.heap.size (fun k => k = Bb) w := by
  intro l J Jx W hk hJ hJx hY h0
  have HB := Aside0.mk (hB.trans (hk.below hB.size))
  have Hb := Aside0.mk (hk.boxed hb rfl)
  have hm := hC.2.1
  have HC := Aside0.mk hC
  have HL := Aside0.mk hL
  have HJ0 := Aside0.mk h0
  have hbc := Hb.out.cell
  clear hk hb hB hC hL h0
  have hbc1 : (W.alloc (.cells #[.func (.yield l) #[] #[]] 50)).cell? ⟨Bb, 0, none⟩ = some (.slice A bs.length cap) := pw_cell_below ((Below.refl _ _).alloc (Nat.le_refl _) _) hbc
  have hro : Fence.wide.round = none := rfl
  have h1 : 1 ≤ n := by omega
  refine callsIn_of_wp_marks Tryz.func132 rfl trivial ?_ hro
  simp only [Tryz.ntmps132, List.size_toArray, List.length_cons, List.length_nil, Nat.reduceAdd, Nat.reduceSub, Array.replicate_succ, Array.replicate_zero, List.push_toArray, List.append_toArray, List.nil_append, List.cons_append]
  gi_wp2_with (refine ⟨trivial, ?_⟩; gi_at_call 133; refine (callsIn_wide.2 (split133 _ _ _ _ _ _ _)).mono ?_; rintro e w1 ⟨rfl, rfl⟩)
  generalize hN1 : W.heap.size = N1
  obtain ⟨W5, hW5⟩ : ∃ W5, W5 = (((((W.alloc (.cells #[.func (.yield l) #[] #[]] 50)).alloc (.cells #[.int .u8 10] 5)).alloc (.cells #[.slice A bs.length cap] 41)).alloc (.cells #[.slice (some ⟨N1 + 1, 0, none⟩) 1 1] 41)).alloc (.cells #[.int .i64 0] 3)) := ⟨_, rfl⟩
  rw [← hW5]
  have hs5 : W5.heap.size = N1 + 5 := by rw [hW5, ← hN1]; simp
  have hb0 : Boxed W5 N1 50 (.func (.yield l) #[] #[]) := by rw [hW5, ← hN1]; exact ((((Boxed.new W 50 _).alloc _).alloc _).alloc _).alloc _
  have hb1 : Boxed W5 (N1 + 1) 5 (.int .u8 10) := by
    rw [hW5, ← hN1]
    have := Boxed.new (W.alloc (.cells #[.func (.yield l) #[] #[]] 50)) 5 (.int .u8 10)
    rw [World.size_alloc] at this
    exact ((this.alloc _).alloc _).alloc _
  have hb2 : Boxed W5 (N1 + 1 + 1) 41 (.slice A bs.length cap) := by
    rw [hW5, ← hN1]
    have := Boxed.new ((W.alloc (.cells #[.func (.yield l) #[] #[]] 50)).alloc (.cells #[.int .u8 10] 5)) 41 (.slice A bs.length cap)
    rw [World.size_alloc, World.size_alloc] at this
    exact (this.alloc _).alloc _
  have hb3 : Boxed W5 (N1 + 1 + 1 + 1) 41 (.slice (some ⟨N1 + 1, 0, none⟩) 1 1) := by
    rw [hW5, ← hN1]
    have := Boxed.new (((W.alloc (.cells #[.func (.yield l) #[] #[]] 50)).alloc (.cells #[.int .u8 10] 5)).alloc (.cells #[.slice A bs.length cap] 41)) 41 (.slice (some ⟨W.heap.size + 1, 0, none⟩) 1 1)
    rw [World.size_alloc, World.size_alloc, World.size_alloc] at this
    exact this.alloc _
  have hb4 : Boxed W5 (N1 + 1 + 1 + 1 + 1) 3 (.int .i64 0) := by
    rw [hW5, ← hN1]
    have := Boxed.new ((((W.alloc (.cells #[.func (.yield l) #[] #[]] 50)).alloc (.cells #[.int .u8 10] 5)).alloc (.cells #[.slice A bs.length cap] 41)).alloc (.cells #[.slice (some ⟨W.heap.size + 1, 0, none⟩) 1 1] 41)) 3 (.int .i64 0)
    rw [World.size_alloc, World.size_alloc, World.size_alloc, World.size_alloc] at this
    exact this
  have hB5 : Below W.heap.size W W5 := by
    rw [hW5]
    exact ((((((Below.refl _ _).alloc (Nat.le_refl _) _).alloc (by simp) _).alloc (by simp; omega) _).alloc (by simp; omega) _).alloc (by simp; omega) _)
  have hB05 : Below w0.heap.size w0 W5 := HB.out.trans (hB5.mono HB.out.size)
  have hn0 : w0.heap.size ≤ N1 := by rw [← hN1]; exact HB.out.size
  have hJ5 := hJ _ _ _ _ HJ0.out (below_step_X hB5)
  have hBbl : Bb < N1 := by rw [← hN1]; exact Hb.out.lt
  rw [hN1] at hB5
  clear HB Hb HJ0 hbc hbc1
  refine wpIn_rangeX (I := fun X i W' => ∃ Y, J Y (((splitV bs.length A cap bs).take i).flatMap lineWords).length W' ∧ (∀ k, X k → Y k) ∧ (∀ k, Y k → w0.heap.size ≤ k) ∧ Y N1 ∧ ¬ X N1 ∧ Below w0.heap.size w0 W' ∧ Boxed W' N1 50 (.func (.yield l) #[] #[]))
    (Ix := fun c X i W' => c = .ret ∧ ∃ Y j, j ≤ (wordsV A cap bs).length ∧ Jx Y j W' ∧ (∀ k, X k → Y k))
    (Ax := fun i a' X W' => ∃ x, (splitV bs.length A cap bs)[i]? = some x ∧ a' = { tmps := #[.func (.yield l) #[] #[], .pointer (some ⟨Bb, 0, none⟩), .pointer (some ⟨N1, 0, none⟩), x.1, undef, .slice A bs.length cap, .slice (some ⟨N1 + 1, 0, none⟩) 1 1, .func (.func 200) #[] #[.pointer (some ⟨N1 + 1 + 1 + 1, 0, none⟩), .pointer (some ⟨N1 + 1 + 1, 0, none⟩), .pointer (some ⟨N1 + 1 + 1 + 1 + 1, 0, none⟩)], x.1, undef, undef, undef, undef, undef, undef, undef, undef, undef, undef, undef, undef, undef, undef, undef, undef], defers := [] })
    hro h1 rfl trivial (enters_of Tryz.func200 (by kernel_rfl) rfl) (by omega) ?hX0 (split_iter (n - 1) (by omega) w0 W5 (N1 + 1 + 1) (N1 + 1 + 1 + 1) (N1 + 1 + 1 + 1 + 1) (N1 + 1) A bs cap hB05 HC.out hcap hb2 hb3 hb4 hb1 (by omega) (by omega)) (fun _ => rfl) ?hI ?hIx ?h0 ?hAx ?hassign ?hbody ?hdone ?hstop
  case hX0 => intro k hk; omega
  case hI =>
    rintro X i A1 A2 ⟨Y, h1, h2, h3, h4, h5, h6, h7⟩ hst
    refine ⟨_, hJ _ _ _ _ h1 (hst.mono h2), fun k hk => hk.elim (fun h => .inl (h2 k h)) .inr, fun k hk => hk.elim (h3 k) (fun h => by have := h6.size; omega), .inl h4, ?_, ?_, (hst.keep N1 h7.lt h5).trans h7⟩
    · rintro (h | h)
      · exact h5 h
      · have := h7.lt; omega
    · exact ⟨hst.os.trans h6.os, hst.tape.trans h6.tape, hst.output.trans h6.output, Nat.le_trans h6.size hst.size, fun k hk => (hst.keep k (by have := h6.size; omega) (fun h => by have := h3 k (h2 k h); omega)).trans (h6.block k hk)⟩
  case hIx =>
    rintro c X i A1 A2 ⟨hc, Y, j, hj, h1, h2⟩ hst
    exact ⟨hc, _, j, hj, hJx _ _ _ _ h1 (hst.mono h2), fun k hk => hk.elim (fun h => .inl (h2 k h)) .inr⟩
  case h0 =>
    refine ⟨_, hJ5, fun k hk => .inr ⟨by omega, by omega⟩, fun k hk => hk.elim (fun h => by omega) (fun h => by omega), .inr ⟨by omega, by omega⟩, by omega, hB05, hb0⟩
  case hAx => exact fun i a' X A1 A2 h _ => h
  case hassign =>
    intro l1 X i x Wr K hx hi hK
    gi_wp2
    exact hK _ _ (KeepX.refl _ _ _) hi ⟨x, hx, rfl⟩
  case hbody =>
    rintro l1 X i x a' Wr hx hl1 hXl ⟨r, hr⟩ ⟨Y, hJY, hXY, hYn, hYB, hXB, hBW, hBox⟩ ⟨x', hx', rfl⟩
    obtain rfl : x' = x := by rw [hx] at hx'; injection hx' with h; exact h.symm
    clear hx'
    obtain ⟨v, seg⟩ := x'
    obtain ⟨A', hv, hCx⟩ := splitV_spec w0 bs.length A cap bs hcap HC.out (v, seg) (List.mem_of_getElem? hx)
    replace hv : v = .slice A' seg.length seg.length := hv
    replace hCx : CB w0 A' seg := hCx
    subst hv
    have hcnt := cnt_succ lineWords _ i _ hx
    have hflat := flat_at lineWords _ i _ hx
    have hm2 := hCx.2.1
    have HCX := Aside0.mk hCx
    have HX := Aside0.mk hx
    have HJY := Aside0.mk hJY
    have HXY := Aside0.mk hXY
    have HYN := Aside0.mk hYn
    have HBW := Aside0.mk hBW
    have HBOX := Aside0.mk hBox
    have HCNT := Aside0.mk hcnt
    have HFLAT := Aside0.mk hflat
    have HR := Aside0.mk hr
    have HH0 := Aside0.mk (fun (h : 0 < seg.length) => (hCx.below hBW).at_ 0 h)
    have HHD := Aside0.mk (show seg.head? = some 99 ↔ ∃ h : 0 < seg.length, seg[0] = 99 from by cases seg <;> simp)
    clear hCx hx hJY hXY hYn hBW hBox hcnt hflat hr
    have h1' : 1 ≤ n - 1 - 1 := by omega
    by_cases hc : seg.head? = some 99
    · obtain ⟨h0, hc0⟩ := HHD.out.1 hc
      obtain ⟨ad, rfl, hx0⟩ := HH0.out h0
      rw [hc0] at hx0
      replace hx0 : Wr.cell? ad = some (.int .u8 99) := hx0
      have hz : (0 : Int) < (seg.length : Int) := by omega
      have HC1 := Aside0.mk hc
      clear hc hc0
      gi_wp2
      refine ⟨KeepX.refl _ _ _, Y, ?_, HXY.out, HYN.out, hYB, hXB, HBW.out, HBOX.out⟩
      have e0 : (lineWords (.slice (some ad) seg.length seg.length, seg)).length = 0 := by unfold lineWords; rw [if_pos HC1.out]; rfl
      have e1 := HCNT.out
      rw [e0] at e1
      rw [e1]
      exact HJY.out
    · have hlw : lineWords (.slice A' seg.length seg.length, seg) = fieldsV A' seg seg 0 none := by unfold lineWords; rw [if_neg hc]; rfl
      have HLW := Aside0.mk hlw
      have hN1r : N1 < Wr.heap.size := HBOX.out.lt
      clear hlw
      rcases Nat.eq_zero_or_pos seg.length with h0 | h0
      · obtain rfl : seg = [] := List.eq_nil_of_length_eq_zero h0
        clear hc
        gi_wp2_with (refine ⟨trivial, ?_⟩; gi_at_call 134; refine (CallsIn.inRound l1 (callsIn_wide.2 (fields134 _ _ _ _))).mono ?_; rintro e w1 ⟨rfl, rfl⟩)
        generalize hM : Wr.heap.size = M
        obtain ⟨Wi, hWi⟩ : ∃ Wi, Wi = (Wr.alloc (.cells #[.slice A' 0 0] 41)).alloc (.cells #[.func (.func 135) #[] #[]] 150) := ⟨_, rfl⟩
        rw [← hWi]
        have hsi : Wi.heap.size = M + 2 := by rw [hWi, ← hM]; simp
        have hbi : Below Wr.heap.size Wr Wi := by rw [hWi]; exact ((Below.refl _ _).alloc (Nat.le_refl _) _).alloc (by simp) _
        have hx1 : Boxed Wi M 41 (.slice A' 0 0) := by rw [hWi, ← hM]; exact (Boxed.new Wr 41 _).alloc _
        have hx2 : Boxed Wi (M + 1) 150 (.func (.func 135) #[] #[]) := by
          rw [hWi, ← hM]
          have := Boxed.new (Wr.alloc (.cells #[.slice A' 0 0] 41)) 150 (.func (.func 135) #[] #[])
          rw [World.size_alloc] at this
          exact this
        have hn0r : w0.heap.size ≤ M := by rw [← hM]; exact HBW.out.size
        have hri : Wi.heap[l1]? = some (.loop r) := (hbi.block l1 (Array.getElem?_eq_some_iff.1 HR.out).1).trans HR.out
        have hJi := hJ _ _ _ _ HJY.out (below_step_X (X := Y) hbi)
        have hbwi : Below w0.heap.size w0 Wi := HBW.out.trans (hbi.mono HBW.out.size)
        have hbxi : Boxed Wi N1 50 (.func (.yield l) #[] #[]) := (hbi.block N1 HBOX.out.lt).trans HBOX.out
        have hkpi : KeepX w0.heap.size X Wr Wi := ⟨hbi.os, hbi.tape, hbi.output, hbi.size, fun k hk _ => hbi.block k hk⟩
        rw [hM] at hbi hN1r
        refine wpIn_rangeXN (l₀ := l1) (r₀ := r) (I := fun X2 j W2 => ∃ Y2, J Y2 ((((splitV bs.length A cap bs).take i).flatMap lineWords).length + j) W2 ∧ (∀ k, X2 k → Y2 k) ∧ (∀ k, X k → Y2 k) ∧ (∀ k, Y2 k → w0.heap.size ≤ k) ∧ Y2 N1 ∧ (∀ k, X2 k → M ≤ k) ∧ Below w0.heap.size w0 W2 ∧ Boxed W2 N1 50 (.func (.yield l) #[] #[]) ∧ KeepX w0.heap.size X Wr W2)
          (Ix := fun c X2 j W2 => c = .ret ∧ ∃ Y2 jj, jj ≤ (wordsV A cap bs).length ∧ Jx Y2 jj W2 ∧ (∀ k, X2 k → Y2 k) ∧ (∀ k, X k → Y2 k) ∧ (∀ k, X2 k → M ≤ k) ∧ KeepX w0.heap.size X Wr W2)
          (Ax := fun j a' X2 W2 => ∃ y, (fieldsV (A') [] [] 0 none)[j]? = some y ∧ a' = { tmps := #[.func (.yield l) #[] #[], .pointer (some ⟨Bb, 0, none⟩), .pointer (some ⟨N1, 0, none⟩), .slice A' 0 0, y.1, .slice A bs.length cap, .slice (some ⟨N1 + 1, 0, none⟩) 1 1, .func (.func 200) #[] #[.pointer (some ⟨N1 + 1 + 1 + 1, 0, none⟩), .pointer (some ⟨N1 + 1 + 1, 0, none⟩), .pointer (some ⟨N1 + 1 + 1 + 1 + 1, 0, none⟩)], .slice A' 0 0, .slice A' 0 0, .int .i64 0, .bool false, .bool false, undef, undef, undef, undef, .bool false, .slice A' 0 0, .func (.func 170) #[] #[.pointer (some ⟨M, 0, none⟩), .pointer (some ⟨M + 1, 0, none⟩)], y.1, undef, undef, undef, undef], defers := [] })
          rfl hri h1' rfl trivial (enters_of Tryz.func170 (by kernel_rfl) rfl) (by omega) ?hX02 ((fields_iter (n - 1 - 1 - 1) (by omega) w0 Wi HL.out M (M + 1) (A') [] [].length hbwi HCX.out (Nat.le_refl _) hx1 hx2).inRound l1) (fun _ => rfl) ?hI2 ?hIx2 ?h02 ?hAx2 ?hassign2 ?hbody2 ?hdone2 ?hstop2
        case hX02 => intro k hk; omega
        case hI2 =>
          rintro X2 j B1 B2 ⟨Y2, g1, g2, g3, g4, g5, g6, g7, g8, g9⟩ hst
          have hs7 := g9.size
          refine ⟨_, hJ _ _ _ _ g1 (hst.mono g2), fun k hk => hk.elim (fun h => .inl (g2 k h)) .inr, fun k hk => .inl (g3 k hk), fun k hk => hk.elim (g4 k) (fun h => by omega), .inl g5, fun k hk => hk.elim (g6 k) (fun h => by omega), ?_, (hst.keep N1 g8.lt (fun h => by have := g6 N1 h; omega)).trans g8, ?_⟩
          · exact ⟨hst.os.trans g7.os, hst.tape.trans g7.tape, hst.output.trans g7.output, Nat.le_trans g7.size hst.size, fun k hk => (hst.keep k (by have := g7.size; omega) (fun h => by have := g4 k (g2 k h); omega)).trans (g7.block k hk)⟩
          · exact ⟨hst.os.trans g9.os, hst.tape.trans g9.tape, hst.output.trans g9.output, Nat.le_trans g9.size hst.size, fun k hk hx => (hst.keep k (by omega) (fun h => by have := g6 k h; omega)).trans (g9.keep k hk hx)⟩
        case hIx2 =>
          rintro c X2 j B1 B2 ⟨hc, Y2, jj, hj, g1, g2, g3, g6, g9⟩ hst
          have hs7 := g9.size
          exact ⟨hc, _, jj, hj, hJx _ _ _ _ g1 (hst.mono g2), fun k hk => hk.elim (fun h => .inl (g2 k h)) .inr, fun k hk => .inl (g3 k hk), fun k hk => hk.elim (g6 k) (fun h => by omega), ⟨hst.os.trans g9.os, hst.tape.trans g9.tape, hst.output.trans g9.output, Nat.le_trans g9.size hst.size, fun k hk hx => (hst.keep k (by omega) (fun h => by have := g6 k h; omega)).trans (g9.keep k hk hx)⟩⟩
        case h02 =>
          exact ⟨_, hJi, fun k hk => .inr ⟨by omega, by omega⟩, fun k hk => .inl (HXY.out k hk), fun k hk => hk.elim (HYN.out k) (fun h => by omega), .inl hYB, fun k hk => by omega, hbwi, hbxi, hkpi⟩
        case hAx2 => exact fun j a' X2 B1 B2 h _ => h
        case hassign2 =>
          intro l2 X2 j y W2 K hy hi hK
          gi_wp2
          exact hK _ _ (KeepX.refl _ _ _) hi ⟨y, hy, rfl⟩
        case hbody2 =>
          rintro l2 X2 j y a'' W2 hy hl2 hX2l ⟨r2, hr2⟩ ⟨Y2, g1, g2, g3, g4, g5, g6, g7, g8, g9⟩ ⟨y', hy', rfl⟩
          obtain rfl : y' = y := by rw [hy] at hy'; injection hy' with h; exact h.symm
          have hbc := g8.cell
          obtain ⟨fn, tmps, assign, body, hyy, hRR⟩ := hY Y2 _ y' W2 g1 (HFLAT.out j y' (by rw [HLW.out]; exact hy))
          try dsimp only at hyy
          have hlt : (((splitV bs.length A cap bs).take i).flatMap lineWords).length + j < (wordsV A cap bs).length := (List.getElem?_eq_some_iff.1 (HFLAT.out j y' (by rw [HLW.out]; exact hy))).1
          have G := Aside0.mk (And.intro g2 (And.intro g3 (And.intro g4 (And.intro g5 (And.intro g6 (And.intro g7 (And.intro g8 g9)))))))
          have HLT := Aside0.mk hlt
          clear g1 g2 g3 g4 g5 g6 g7 g8 g9 hy hy' hr2 hlt
          gi_wp2
          refine ⟨fun _ => by omega, (roundIn_any hRR).mono ?_⟩
          rintro e W' (⟨rfl, hJ', hk⟩ | ⟨rfl, hJx', hk⟩)
          · obtain ⟨g2, g3, g4, g5, g6, g7, g8, g9⟩ := G.out
            gi_wp2
            exact ⟨hk.mono (Nat.le_refl _) g2, Y2, hJ', g2, g3, g4, g5, g6, g7.trans (hk.below g7.size), hk.boxed g8 g5, g9.trans (hk.mono (Nat.le_refl _) g3)⟩
          · obtain ⟨g2, g3, g4, g5, g6, g7, g8, g9⟩ := G.out
            gi_wp2
            exact ⟨hk.mono (Nat.le_refl _) g2, rfl, Y2, _, HLT.out, hJx', g2, g3, g6, g9.trans (hk.mono (Nat.le_refl _) g3)⟩
        case hdone2 =>
          rintro X2 W2 ⟨Y2, g1, g2, g3, g4, g5, g6, g7, g8, g9⟩
          gi_wp2
          refine ⟨g9, Y2, ?_, g3, g4, g5, hXB, g7, g8⟩
          have e1 := HCNT.out
          rw [HLW.out] at e1
          rw [e1]
          exact g1
        case hstop2 =>
          rintro X2 c j W2 ⟨rfl, Y2, jj, hj, g1, g2, g3, g6, g9⟩
          gi_wp2
          exact ⟨g9, rfl, Y2, jj, hj, g1, g3⟩
      · obtain ⟨ad, rfl, hx0⟩ := HH0.out h0
        replace hx0 : Wr.cell? ad = some (.int .u8 (seg[0].toNat : Int)) := hx0
        have hne : ((seg[0].toNat : Int) == 99) = false := beq_eq_false_iff_ne.2 (fun e => hc (HHD.out.2 ⟨h0, UInt8.toNat_inj.1 (by show seg[0].toNat = 99; omega)⟩))
        have hz : (0 : Int) < (seg.length : Int) := by omega
        generalize (seg[0].toNat : Int) = b0 at *
        clear hc
        gi_wp2_with (refine ⟨trivial, ?_⟩; gi_at_call 134; refine (CallsIn.inRound l1 (callsIn_wide.2 (fields134 _ _ _ _))).mono ?_; rintro e w1 ⟨rfl, rfl⟩)
        generalize hM : Wr.heap.size = M
        obtain ⟨Wi, hWi⟩ : ∃ Wi, Wi = (Wr.alloc (.cells #[.slice (some ad) seg.length seg.length] 41)).alloc (.cells #[.func (.func 135) #[] #[]] 150) := ⟨_, rfl⟩
        rw [← hWi]
        have hsi : Wi.heap.size = M + 2 := by rw [hWi, ← hM]; simp
        have hbi : Below Wr.heap.size Wr Wi := by rw [hWi]; exact ((Below.refl _ _).alloc (Nat.le_refl _) _).alloc (by simp) _
        have hx1 : Boxed Wi M 41 (.slice (some ad) seg.length seg.length) := by rw [hWi, ← hM]; exact (Boxed.new Wr 41 _).alloc _
        have hx2 : Boxed Wi (M + 1) 150 (.func (.func 135) #[] #[]) := by
          rw [hWi, ← hM]
          have := Boxed.new (Wr.alloc (.cells #[.slice (some ad) seg.length seg.length] 41)) 150 (.func (.func 135) #[] #[])
          rw [World.size_alloc] at this
          exact this
        have hn0r : w0.heap.size ≤ M := by rw [← hM]; exact HBW.out.size
        have hri : Wi.heap[l1]? = some (.loop r) := (hbi.block l1 (Array.getElem?_eq_some_iff.1 HR.out).1).trans HR.out
        have hJi := hJ _ _ _ _ HJY.out (below_step_X (X := Y) hbi)
        have hbwi : Below w0.heap.size w0 Wi := HBW.out.trans (hbi.mono HBW.out.size)
        have hbxi : Boxed Wi N1 50 (.func (.yield l) #[] #[]) := (hbi.block N1 HBOX.out.lt).trans HBOX.out
        have hkpi : KeepX w0.heap.size X Wr Wi := ⟨hbi.os, hbi.tape, hbi.output, hbi.size, fun k hk _ => hbi.block k hk⟩
        rw [hM] at hbi hN1r
        refine wpIn_rangeXN (l₀ := l1) (r₀ := r) (I := fun X2 j W2 => ∃ Y2, J Y2 ((((splitV bs.length A cap bs).take i).flatMap lineWords).length + j) W2 ∧ (∀ k, X2 k → Y2 k) ∧ (∀ k, X k → Y2 k) ∧ (∀ k, Y2 k → w0.heap.size ≤ k) ∧ Y2 N1 ∧ (∀ k, X2 k → M ≤ k) ∧ Below w0.heap.size w0 W2 ∧ Boxed W2 N1 50 (.func (.yield l) #[] #[]) ∧ KeepX w0.heap.size X Wr W2)
          (Ix := fun c X2 j W2 => c = .ret ∧ ∃ Y2 jj, jj ≤ (wordsV A cap bs).length ∧ Jx Y2 jj W2 ∧ (∀ k, X2 k → Y2 k) ∧ (∀ k, X k → Y2 k) ∧ (∀ k, X2 k → M ≤ k) ∧ KeepX w0.heap.size X Wr W2)
          (Ax := fun j a' X2 W2 => ∃ y, (fieldsV (some ad) seg seg 0 none)[j]? = some y ∧ a' = { tmps := #[.func (.yield l) #[] #[], .pointer (some ⟨Bb, 0, none⟩), .pointer (some ⟨N1, 0, none⟩), .slice (some ad) seg.length seg.length, y.1, .slice A bs.length cap, .slice (some ⟨N1 + 1, 0, none⟩) 1 1, .func (.func 200) #[] #[.pointer (some ⟨N1 + 1 + 1 + 1, 0, none⟩), .pointer (some ⟨N1 + 1 + 1, 0, none⟩), .pointer (some ⟨N1 + 1 + 1 + 1 + 1, 0, none⟩)], .slice (some ad) seg.length seg.length, .slice (some ad) seg.length seg.length, .int .i64 seg.length, .bool true, .bool true, .slice (some ad) seg.length seg.length, .pointer (some ad), .int .u8 b0, .bool false, .bool false, .slice (some ad) seg.length seg.length, .func (.func 170) #[] #[.pointer (some ⟨M, 0, none⟩), .pointer (some ⟨M + 1, 0, none⟩)], y.1, undef, undef, undef, undef], defers := [] })
          rfl hri h1' rfl trivial (enters_of Tryz.func170 (by kernel_rfl) rfl) (by omega) ?hX02 ((fields_iter (n - 1 - 1 - 1) (by omega) w0 Wi HL.out M (M + 1) (some ad) seg seg.length hbwi HCX.out (Nat.le_refl _) hx1 hx2).inRound l1) (fun _ => rfl) ?hI2 ?hIx2 ?h02 ?hAx2 ?hassign2 ?hbody2 ?hdone2 ?hstop2
        case hX02 => intro k hk; omega
        case hI2 =>
          rintro X2 j B1 B2 ⟨Y2, g1, g2, g3, g4, g5, g6, g7, g8, g9⟩ hst
          have hs7 := g9.size
          refine ⟨_, hJ _ _ _ _ g1 (hst.mono g2), fun k hk => hk.elim (fun h => .inl (g2 k h)) .inr, fun k hk => .inl (g3 k hk), fun k hk => hk.elim (g4 k) (fun h => by omega), .inl g5, fun k hk => hk.elim (g6 k) (fun h => by omega), ?_, (hst.keep N1 g8.lt (fun h => by have := g6 N1 h; omega)).trans g8, ?_⟩
          · exact ⟨hst.os.trans g7.os, hst.tape.trans g7.tape, hst.output.trans g7.output, Nat.le_trans g7.size hst.size, fun k hk => (hst.keep k (by have := g7.size; omega) (fun h => by have := g4 k (g2 k h); omega)).trans (g7.block k hk)⟩
          · exact ⟨hst.os.trans g9.os, hst.tape.trans g9.tape, hst.output.trans g9.output, Nat.le_trans g9.size hst.size, fun k hk hx => (hst.keep k (by omega) (fun h => by have := g6 k h; omega)).trans (g9.keep k hk hx)⟩
        case hIx2 =>
          rintro c X2 j B1 B2 ⟨hc, Y2, jj, hj, g1, g2, g3, g6, g9⟩ hst
          have hs7 := g9.size
          exact ⟨hc, _, jj, hj, hJx _ _ _ _ g1 (hst.mono g2), fun k hk => hk.elim (fun h => .inl (g2 k h)) .inr, fun k hk => .inl (g3 k hk), fun k hk => hk.elim (g6 k) (fun h => by omega), ⟨hst.os.trans g9.os, hst.tape.trans g9.tape, hst.output.trans g9.output, Nat.le_trans g9.size hst.size, fun k hk hx => (hst.keep k (by omega) (fun h => by have := g6 k h; omega)).trans (g9.keep k hk hx)⟩⟩
        case h02 =>
          exact ⟨_, hJi, fun k hk => .inr ⟨by omega, by omega⟩, fun k hk => .inl (HXY.out k hk), fun k hk => hk.elim (HYN.out k) (fun h => by omega), .inl hYB, fun k hk => by omega, hbwi, hbxi, hkpi⟩
        case hAx2 => exact fun j a' X2 B1 B2 h _ => h
        case hassign2 =>
          intro l2 X2 j y W2 K hy hi hK
          gi_wp2
          exact hK _ _ (KeepX.refl _ _ _) hi ⟨y, hy, rfl⟩
        case hbody2 =>
          rintro l2 X2 j y a'' W2 hy hl2 hX2l ⟨r2, hr2⟩ ⟨Y2, g1, g2, g3, g4, g5, g6, g7, g8, g9⟩ ⟨y', hy', rfl⟩
          obtain rfl : y' = y := by rw [hy] at hy'; injection hy' with h; exact h.symm
          have hbc := g8.cell
          obtain ⟨fn, tmps, assign, body, hyy, hRR⟩ := hY Y2 _ y' W2 g1 (HFLAT.out j y' (by rw [HLW.out]; exact hy))
          try dsimp only at hyy
          have hlt : (((splitV bs.length A cap bs).take i).flatMap lineWords).length + j < (wordsV A cap bs).length := (List.getElem?_eq_some_iff.1 (HFLAT.out j y' (by rw [HLW.out]; exact hy))).1
          have G := Aside0.mk (And.intro g2 (And.intro g3 (And.intro g4 (And.intro g5 (And.intro g6 (And.intro g7 (And.intro g8 g9)))))))
          have HLT := Aside0.mk hlt
          clear g1 g2 g3 g4 g5 g6 g7 g8 g9 hy hy' hr2 hlt
          gi_wp2
          refine ⟨fun _ => by omega, (roundIn_any hRR).mono ?_⟩
          rintro e W' (⟨rfl, hJ', hk⟩ | ⟨rfl, hJx', hk⟩)
          · obtain ⟨g2, g3, g4, g5, g6, g7, g8, g9⟩ := G.out
            gi_wp2
            exact ⟨hk.mono (Nat.le_refl _) g2, Y2, hJ', g2, g3, g4, g5, g6, g7.trans (hk.below g7.size), hk.boxed g8 g5, g9.trans (hk.mono (Nat.le_refl _) g3)⟩
          · obtain ⟨g2, g3, g4, g5, g6, g7, g8, g9⟩ := G.out
            gi_wp2
            exact ⟨hk.mono (Nat.le_refl _) g2, rfl, Y2, _, HLT.out, hJx', g2, g3, g6, g9.trans (hk.mono (Nat.le_refl _) g3)⟩
        case hdone2 =>
          rintro X2 W2 ⟨Y2, g1, g2, g3, g4, g5, g6, g7, g8, g9⟩
          gi_wp2
          refine ⟨g9, Y2, ?_, g3, g4, g5, hXB, g7, g8⟩
          have e1 := HCNT.out
          rw [HLW.out] at e1
          rw [e1]
          exact g1
        case hstop2 =>
          rintro X2 c j W2 ⟨rfl, Y2, jj, hj, g1, g2, g3, g6, g9⟩
          gi_wp2
          exact ⟨g9, rfl, Y2, jj, hj, g1, g3⟩
  case hdone =>
    rintro D X W' hD hXD ⟨Y, h1, h2, h3, h4, h5, h6, h7⟩ hK
    gi_wp2
    have hJ2 := hJ _ _ _ _ h1 (stepX_putObj (.deferred none) (h2 D hXD))
    rw [GrowX_none World.putObj_size, List.take_length] at hJ2
    refine ⟨by simp, .inl ⟨_, _, rfl, run_takeDeferred hK, ?_⟩⟩
    exact ⟨_, results_none rfl _ _ _, ⟨_, rfl⟩, .inl ⟨Y, hJ2⟩⟩
  case hstop =>
    rintro D X c i W' hD hXD ⟨rfl, Y, j, hj, h1, h2⟩ hK
    gi_wp2
    have hJ2 := hJx _ _ _ _ h1 (stepX_putObj (.deferred none) (h2 D hXD))
    rw [GrowX_none World.putObj_size] at hJ2
    refine ⟨by simp, .inl ⟨_, _, rfl, run_takeDeferred hK, ?_⟩⟩
    exact ⟨_, results_none rfl _ _ _, ⟨_, rfl⟩, .inr ⟨Y, j, hj, hJ2⟩⟩
end Go.Proofs.YtcdhhaedgohlgaaGreatDoor.P
end

section
namespace Go.Proofs.YtcdhhaedgohlgaaGreatDoor.P
open Go.RowKit Go.Proofs.YtcdhhaedgohlgaaGreatDoorW.PrintWords Go.Proofs.YtcdhhaedgohlgaaGreatDoorW.PrintLast Go.Proofs.YtcdhhaedgohlgaaGreatDoorW.PrintMore
attribute [local go_sem] max2_int min2_int max_two min_two max_three min_three max_four min_four   -- for this text's walks alone
set_option linter.unusedVariables false
set_option linter.unusedSimpArgs false

mutual
def cnf_number.j0 : Nat → List Int → Int → Bool → Option (Int × Bool)
  | 0, _, _, _ => none
  | k + 1, x0, x2, x4 => if x4 = true then (if 1 ≤ (x0.length : Int) then (cnf_number.j1 k (x0.drop 1) x2 x4) else (none)) else (cnf_number.j1 k x0 x2 x4)
def cnf_number.j1 : Nat → List Int → Int → Bool → Option (Int × Bool)
  | 0, _, _, _ => none
  | k + 1, x0, x2, x4 => if (x0.length : Int) = 0 then (cnf_number.j2 k x0 x2 x4 true) else (if (x0.length : Int) > 10 then (cnf_number.j2 k x0 x2 x4 true) else (if 0 < (x0.length : Int) then (if (rd x0 0) = 48 then (if x4 = true then (cnf_number.j2 k x0 x2 x4 true) else (cnf_number.j2 k x0 x2 x4 (decide ((x0.length : Int) > 1)))) else (cnf_number.j2 k x0 x2 x4 false)) else (none)))
def cnf_number.j2 : Nat → List Int → Int → Bool → Bool → Option (Int × Bool)
  | 0, _, _, _, _ => none
  | k + 1, x0, x2, x4, x40 => if x40 = true then (some (0, false)) else (cnf_number.l0 k x2 x4 x0 (x0.length : Int) 0)
def cnf_number.l0 : Nat → Int → Bool → List Int → Int → Int → Option (Int × Bool)
  | 0, _, _, _, _, _ => none
  | k + 1, x2, x4, x41, x42, x43 => if x43 < x42 then (if 0 ≤ x43 then (if x43 < (x41.length : Int) then (if (rd x41 x43) < 48 then (some (0, false)) else (if (rd x41 x43) > 57 then (some (0, false)) else (cnf_number.l0 k (wrap64 ((wrap64 (10 * x2)) + (((rd x41 x43) - 48) % 256))) x4 x41 x42 (wrap64 (x43 + 1))))) else (none)) else (none)) else (if x4 = true then (some (wrap64 (-x2), true)) else (some (x2, true)))
end
def cnf_number.f (k : Nat) (l0 : List Int) : Option (Int × Bool) := if (l0.length : Int) > 0 then (if 0 < (l0.length : Int) then (cnf_number.j0 k l0 0 ((rd l0 0) == 45)) else (none)) else (cnf_number.j0 k l0 0 false)
set_option maxHeartbeats 8000000 in
set_option maxRecDepth 100000 in
theorem cnf_number.calls (k : Nat) (P0_ : Nat → Prop) (A0 : Option Addr) (c0 : Nat) (l0 : List Int) (r1 : Int) (r2 : Bool) (w : World) (hs0 : Kd.V (Kd.int .u8) 5 w w.heap.size (fun k_ => P0_ k_) (.slice A0 l0.length c0) l0) (h : cnf_number.f k l0 = some (r1, r2)) :
    Calls Tryz.prog 95 #[.slice A0 l0.length c0] w fun e w' => e = .returned (.tuple #[.int .i64 r1, .bool r2]) ∧ Below w.heap.size w w' := by
  have HO0 := Aside0.mk (show Kd.V (Kd.int .u8) 5 w w.heap.size (fun k_ => (P0_ k_ ∨ w.heap.size ≤ k_)) (.slice A0 l0.length c0) l0 from Kd.V_mono hs0 (fun k_ hk => .inl hk))
  have HB := Aside0.mk (Below.refl w.heap.size w)
  have H : (if (l0.length : Int) > 0 then (if 0 < (l0.length : Int) then (cnf_number.j0 k l0 0 ((rd l0 0) == 45)) else (none)) else (cnf_number.j0 k l0 0 false)) = some (r1, r2) := h
  clear h
  have HC2 := Aside0.mk H
  clear H
  go_enter Tryz.func95, Tryz.ntmps95
  go_upto_region 1 with (fail)
  go_cut [4] (fun v4 wc => ∃ (kq : Nat) (x4_1 : Bool), v4 = .bool x4_1 ∧ Aside0 (cnf_number.j0 kq l0 0 x4_1 = some (r1, r2)) ∧ Aside0 (kq ≤ k) ∧ Aside0 (Kd.V (Kd.int .u8) 5 wc w.heap.size (fun k_ => (P0_ k_ ∨ w.heap.size ≤ k_)) (.slice A0 l0.length c0) l0) ∧ Aside0 (Below w.heap.size w wc))
  case first =>
    have H := HC2.out
    clear HC2
    by_cases c3 : (l0.length : Int) > 0
    · rw [if_pos c3] at H
      have c3b0 : decide (0 < (l0.length : Int)) = true := decide_eq_true c3
      have c3b1 : decide (0 < l0.length) = true := decide_eq_true (by omega)
      clear c3
      (first | rw [c3b0] | (simp only [i64_w, i32_w]; rw [c3b0]) | skip)
      by_cases c4 : 0 < (l0.length : Int)
      · rw [if_pos c4] at H
        have c4b0 : decide (0 < (l0.length : Int)) = true := decide_eq_true c4
        have c4b1 : decide (0 < l0.length) = true := decide_eq_true (by omega)
        clear c4
        have H' := Aside0.mk H
        clear H
        have p146 : 0 ≤ (0 : Int) := (by omega)
        have q146 : 0 < (l0.length : Int) := of_decide_eq_true (by first | (with_reducible assumption) | assumption)
        obtain ⟨ad146, e146, hx146_0⟩ := Kd.at_int (Kd.V_reads' HO0.out).2.2 0 p146 q146
        cases e146
        have qi146 : (0 < l0.length) = True := eq_true (by omega)
        (try rw [show ((0 : Int)).toNat = 0 from rfl] at hx146_0)
        (try rw [Addr.add_zero'] at hx146_0)
        replace p146 := eq_true p146
        replace q146 := eq_true q146
        go_wp2
        go_meet
        case rel => exact ⟨_, (((rd l0 0) == 45)), (by first | rfl | (simp; done) | (simp [*]; done)), H', ⟨by first | omega | exact Nat.le_refl _⟩, ⟨by (with_reducible repeat (first | apply Kd.V_alloc | apply Kd.V_drewN | apply Kd.V_drew)); exact HO0.out⟩, ⟨by repeat (first | (with_reducible first | exact HB.out | apply below_alloc | apply pw_below_drewN | apply below_drew1) | exact HB.out)⟩⟩
      · rw [if_neg c4] at H
        exact absurd H (by simp)
    · rw [if_neg c3] at H
      have c3b0 : decide (0 < (l0.length : Int)) = false := decide_eq_false c3
      have c3b1 : decide (0 < l0.length) = false := decide_eq_false (by omega)
      clear c3
      (first | rw [c3b0] | (simp only [i64_w, i32_w]; rw [c3b0]) | skip)
      have H' := Aside0.mk H
      clear H
      go_wp2
      go_meet
      case rel => exact ⟨_, (false), (by first | rfl | (simp; done) | (simp [*]; done)), H', ⟨by first | omega | exact Nat.le_refl _⟩, ⟨by (with_reducible repeat (first | apply Kd.V_alloc | apply Kd.V_drewN | apply Kd.V_drew)); exact HO0.out⟩, ⟨by repeat (first | (with_reducible first | exact HB.out | apply below_alloc | apply pw_below_drewN | apply below_drew1) | exact HB.out)⟩⟩
  case rest =>
    clear HC2
    try clear p1
    try clear q1
    try clear hx1
    try clear qi1
    try clear p2
    try clear c3
    try clear c3b0
    try clear c3b1
    try clear c4
    try clear c4b0
    try clear c4b1
    try clear hx146_0
    try clear p146
    try clear q146
    obtain ⟨kq, x4_1, rfl, HA, HJ1, HO_0, HB⟩ := hcut
    cases kq with
    | zero => exact absurd HA.out (by simp [cnf_number.j0])
    | succ kj1 =>
      have H := HA.out
      clear HA
      simp only [cnf_number.j0] at H
      have HC5 := Aside0.mk H
      clear H
      go_upto_if 16 with (fail)
      go_cut [0] (fun v0 wc => ∃ (kq : Nat) (x0_4 : List Int), Aside0 (cnf_number.j1 kq x0_4 0 x4_1 = some (r1, r2)) ∧ Aside0 (kq ≤ kj1) ∧ Aside0 (Kd.V (Kd.int .u8) 5 wc w.heap.size (fun k_ => (P0_ k_ ∨ w.heap.size ≤ k_)) v0 x0_4) ∧ Aside0 (Below w.heap.size w wc))
      case first =>
        have H := HC5.out
        clear HC5
        by_cases c6 : x4_1 = true
        · subst c6
          have H1 : (if 1 ≤ (l0.length : Int) then (cnf_number.j1 kj1 (l0.drop 1) 0 true) else (none)) = some (r1, r2) := by rw [if_pos rfl] at H; exact H
          clear H
          have H := H1
          clear H1
          by_cases c7 : 1 ≤ (l0.length : Int)
          · rw [if_pos c7] at H
            have c7b0 := eq_true c7
            have c7b1 : decide (1 ≤ (l0.length : Int)) = true := decide_eq_true c7
            clear c7
            obtain ⟨y147, hy147⟩ : ∃ y_ : List Int, y_ = (l0.drop 1) := ⟨_, rfl⟩
            replace H : (cnf_number.j1 kj1 y147 0 true) = some (r1, r2) := by first | (rw [hy147]; with_reducible exact H) | (have H2_ := (Option.bind_some _ _).symm.trans H; rw [hy147]; with_reducible exact H2_) | (have H2_ := (Option.bind_some _ _).symm.trans H; with_reducible exact H2_) | with_reducible exact H | (rw [hy147]; exact H) | exact H
            have Ny147 := Aside0.mk hy147
            clear hy147
            have H' := Aside0.mk H
            clear H
            have q8 : (1 : Int) ≤ ((l0.length : Int) : Int) := of_decide_eq_true (by first | (with_reducible assumption) | assumption)
            obtain ⟨i08, hi08, _, hsz8, _⟩ := info_parts info5
            have hroom8 : l0.length ≤ c0 := (Kd.V_reads' HO_0.out).2.1
            have hC8 : Kd.F (Kd.int .u8) _ _ A0 l0.length l0 := (Kd.V_at (base := w.heap.size) HO_0.out).2.2
            have hcut8 := cut_from (P := Tryz.prog) 41 5 .i64 Tryz.underlying41 hi08 1 hsz8 A0 l0.length c0 1 (by omega) q8
            have hr8 := Kd.F_cut (m := (1 : Int).toNat) (c := c0) hC8 (by omega) hroom8
            obtain ⟨A8, hA8⟩ : ∃ A1, A1 = (if c0 = (1 : Int).toNat then A0 else (A0 : Option Addr).map (·.add ((1 : Int).toNat * 1))) := ⟨_, rfl⟩
            obtain ⟨c8, hc8⟩ : ∃ c1, c1 = c0 - (1 : Int).toNat := ⟨_, rfl⟩
            have hy8 : y147.length = l0.length - (1 : Int).toNat := (by rw [Ny147.out, List.length_drop] <;> omega)
            rw [show (l0).drop (1 : Int).toNat = y147 from Ny147.out.symm] at hr8
            replace hr8 : Kd.F (Kd.int .u8) _ _ A8 y147.length y147 := (by rw [hA8]; exact hr8)
            rw [← hy8, ← hA8, ← hc8] at hcut8
            have HO151 := Aside0.mk (show Kd.V (Kd.int .u8) 5 _ w.heap.size _ (.slice A8 y147.length c8) y147 from Kd.V_mk (by rw [hy8, hc8]; exact Nat.sub_le_sub_right hroom8 _) hr8)
            have HC151 := Aside0.mk (show y147.length ≤ c8 from by rw [hy8, hc8]; exact Nat.sub_le_sub_right hroom8 _)
            clear hr8 hC8 hroom8 hi08 hsz8 hc8
            have KY8 := Aside0.mk hy8
            have KA8 := Aside0.mk hA8
            clear hy8 hA8
            replace q8 := eq_true q8
            go_wp2
            go_meet
            case rel => exact ⟨_, (y147), H', ⟨by have := HJ1.out; first | omega | exact Nat.le_refl _⟩, ⟨by (with_reducible repeat (first | apply Kd.V_alloc | apply Kd.V_drewN | apply Kd.V_drew)); exact HO151.out⟩, ⟨by repeat (first | (with_reducible first | exact HB.out | apply below_alloc | apply pw_below_drewN | apply below_drew1) | exact HB.out)⟩⟩
          · rw [if_neg c7] at H
            exact absurd H (by simp)
        · replace c6 := Bool.eq_false_iff.mpr c6
          subst c6
          have H1 : (cnf_number.j1 kj1 l0 0 false) = some (r1, r2) := by rw [if_neg (show ¬ (false = true) by decide)] at H; exact H
          clear H
          have H := H1
          clear H1
          have H' := Aside0.mk H
          clear H
          go_wp2
          go_meet
          case rel => exact ⟨_, (l0), H', ⟨by have := HJ1.out; first | omega | exact Nat.le_refl _⟩, ⟨by (with_reducible repeat (first | apply Kd.V_alloc | apply Kd.V_drewN | apply Kd.V_drew)); exact HO_0.out⟩, ⟨by repeat (first | (with_reducible first | exact HB.out | apply below_alloc | apply pw_below_drewN | apply below_drew1) | exact HB.out)⟩⟩
      case rest =>
        clear HC5
        try clear c1
        try clear p1
        try clear q1
        try clear hx1
        try clear qi1
        try clear p2
        try clear c3
        try clear c3b0
        try clear c3b1
        try clear c4
        try clear c4b0
        try clear c4b1
        try clear c6
        try clear c7
        try clear c7b0
        try clear c7b1
        try clear c8
        try clear q8
        try clear hx146_0
        try clear p1
        try clear p146
        try clear p2
        try clear q1
        try clear q146
        try clear q8
        obtain ⟨kq, x0_4, HA, HJ4, HO_0, HB⟩ := hcut
        cases kq with
        | zero => exact absurd HA.out (by simp [cnf_number.j1])
        | succ kj4 =>
          have H := HA.out
          clear HA
          simp only [cnf_number.j1] at H
          have HC9 := Aside0.mk H
          clear H
          go_upto_region 4 with (fail)
          go_cut [40] (fun v40 wc => ∃ (kq : Nat) (x40_8 : Bool), v40 = .bool x40_8 ∧ Aside0 (cnf_number.j2 kq x0_4 0 x4_1 x40_8 = some (r1, r2)) ∧ Aside0 (kq ≤ kj4) ∧ Aside0 (Kd.V (Kd.int .u8) 5 wc w.heap.size (fun k_ => (P0_ k_ ∨ w.heap.size ≤ k_)) u0 x0_4) ∧ Aside0 (Below w.heap.size w wc))
          case first =>
            have H := HC9.out
            clear HC9
            by_cases c10 : (x0_4.length : Int) = 0
            · rw [if_pos c10] at H
              have c10b0 : ((x0_4.length : Int) == 0) = true := beq_iff_eq.mpr c10
              have c10b1 : ((x0_4.length : Int) != 0) = false := bne_eq_false_iff_eq.mpr c10
              clear c10
              (first | rw [c10b0] | (simp only [i64_w, i32_w]; rw [c10b0]) | skip)
              have H' := Aside0.mk H
              clear H
              obtain ⟨Ao11, co11, eo11⟩ := Kd.V_slice HO_0.out
              subst eo11
              go_wp2
              go_meet
              case rel => exact ⟨_, (true), (by first | rfl | (simp; done) | (simp [*]; done)), H', ⟨by have := HJ1.out; have := HJ4.out; first | omega | exact Nat.le_refl _⟩, ⟨by (with_reducible repeat (first | apply Kd.V_alloc | apply Kd.V_drewN | apply Kd.V_drew)); exact HO_0.out⟩, ⟨by repeat (first | (with_reducible first | exact HB.out | apply below_alloc | apply pw_below_drewN | apply below_drew1) | exact HB.out)⟩⟩
            · rw [if_neg c10] at H
              have c10b0 : ((x0_4.length : Int) == 0) = false := beq_eq_false_iff_ne.mpr c10
              have c10b1 : ((x0_4.length : Int) != 0) = true := bne_iff_ne.mpr c10
              have c10b2 : ¬ (x0_4 = []) := fun h_ => c10 (by rw [h_]; rfl)
              (first | rw [c10b0] | (simp only [i64_w, i32_w]; rw [c10b0]) | skip)
              by_cases c12 : (x0_4.length : Int) > 10
              · rw [if_pos c12] at H
                have c12b0 : decide (10 < (x0_4.length : Int)) = true := decide_eq_true c12
                have c12b1 : decide (10 < x0_4.length) = true := decide_eq_true (by omega)
                clear c12
                have H' := Aside0.mk H
                clear H
                obtain ⟨Ao13, co13, eo13⟩ := Kd.V_slice HO_0.out
                subst eo13
                go_wp2
                go_meet
                case rel => exact ⟨_, (true), (by first | rfl | (simp; done) | (simp [*]; done)), H', ⟨by have := HJ1.out; have := HJ4.out; first | omega | exact Nat.le_refl _⟩, ⟨by (with_reducible repeat (first | apply Kd.V_alloc | apply Kd.V_drewN | apply Kd.V_drew)); exact HO_0.out⟩, ⟨by repeat (first | (with_reducible first | exact HB.out | apply below_alloc | apply pw_below_drewN | apply below_drew1) | exact HB.out)⟩⟩
              · rw [if_neg c12] at H
                have c12b0 : decide (10 < (x0_4.length : Int)) = false := decide_eq_false c12
                have c12b1 : decide (10 < x0_4.length) = false := decide_eq_false (by omega)
                clear c12
                by_cases c14 : 0 < (x0_4.length : Int)
                · rw [if_pos c14] at H
                  have c14b0 : decide (0 < (x0_4.length : Int)) = true := decide_eq_true c14
                  have c14b1 : decide (0 < x0_4.length) = true := decide_eq_true (by omega)
                  clear c14
                  by_cases c15 : (rd x0_4 0) = 48
                  · rw [if_pos c15] at H
                    have c15b0 : ((rd x0_4 0) == 48) = true := beq_iff_eq.mpr c15
                    have c15b1 : ((rd x0_4 0) != 48) = false := bne_eq_false_iff_eq.mpr c15
                    clear c15
                    by_cases c16 : x4_1 = true
                    · subst c16
                      have H1 : (cnf_number.j2 kj4 x0_4 0 true true) = some (r1, r2) := by rw [if_pos rfl] at H; exact H
                      clear H
                      have H := H1
                      clear H1
                      have H' := Aside0.mk H
                      clear H
                      obtain ⟨Ao17, co17, eo17⟩ := Kd.V_slice HO_0.out
                      subst eo17
                      have p152 : 0 ≤ (0 : Int) := (by omega)
                      have q152 : 0 < (x0_4.length : Int) := of_decide_eq_true (by first | (with_reducible assumption) | assumption)
                      obtain ⟨ad152, e152, hx152_0⟩ := Kd.at_int (Kd.V_reads' HO_0.out).2.2 0 p152 q152
                      cases e152
                      have qi152 : (0 < x0_4.length) = True := eq_true (by omega)
                      (try rw [show ((0 : Int)).toNat = 0 from rfl] at hx152_0)
                      (try rw [Addr.add_zero'] at hx152_0)
                      replace p152 := eq_true p152
                      replace q152 := eq_true q152
                      go_wp2
                      go_meet
                      case rel => exact ⟨_, (true), (by first | rfl | (simp; done) | (simp [*]; done)), H', ⟨by have := HJ1.out; have := HJ4.out; first | omega | exact Nat.le_refl _⟩, ⟨by (with_reducible repeat (first | apply Kd.V_alloc | apply Kd.V_drewN | apply Kd.V_drew)); exact HO_0.out⟩, ⟨by repeat (first | (with_reducible first | exact HB.out | apply below_alloc | apply pw_below_drewN | apply below_drew1) | exact HB.out)⟩⟩
                    · replace c16 := Bool.eq_false_iff.mpr c16
                      subst c16
                      have H1 : (cnf_number.j2 kj4 x0_4 0 false (decide ((x0_4.length : Int) > 1))) = some (r1, r2) := by rw [if_neg (show ¬ (false = true) by decide)] at H; exact H
                      clear H
                      have H := H1
                      clear H1
                      have H' := Aside0.mk H
                      clear H
                      obtain ⟨Ao18, co18, eo18⟩ := Kd.V_slice HO_0.out
                      subst eo18
                      have p152 : 0 ≤ (0 : Int) := (by omega)
                      have q152 : 0 < (x0_4.length : Int) := of_decide_eq_true (by first | (with_reducible assumption) | assumption)
                      obtain ⟨ad152, e152, hx152_0⟩ := Kd.at_int (Kd.V_reads' HO_0.out).2.2 0 p152 q152
                      cases e152
                      have qi152 : (0 < x0_4.length) = True := eq_true (by omega)
                      (try rw [show ((0 : Int)).toNat = 0 from rfl] at hx152_0)
                      (try rw [Addr.add_zero'] at hx152_0)
                      replace p152 := eq_true p152
                      replace q152 := eq_true q152
                      go_wp2
                      go_meet
                      case rel => exact ⟨_, (decide ((x0_4.length : Int) > 1)), (by first | rfl | (simp; done) | (simp [*]; done)), H', ⟨by have := HJ1.out; have := HJ4.out; first | omega | exact Nat.le_refl _⟩, ⟨by (with_reducible repeat (first | apply Kd.V_alloc | apply Kd.V_drewN | apply Kd.V_drew)); exact HO_0.out⟩, ⟨by repeat (first | (with_reducible first | exact HB.out | apply below_alloc | apply pw_below_drewN | apply below_drew1) | exact HB.out)⟩⟩
                  · rw [if_neg c15] at H
                    have c15b0 : ((rd x0_4 0) == 48) = false := beq_eq_false_iff_ne.mpr c15
                    have c15b1 : ((rd x0_4 0) != 48) = true := bne_iff_ne.mpr c15
                    have H' := Aside0.mk H
                    clear H
                    obtain ⟨Ao19, co19, eo19⟩ := Kd.V_slice HO_0.out
                    subst eo19
                    have p152 : 0 ≤ (0 : Int) := (by omega)
                    have q152 : 0 < (x0_4.length : Int) := of_decide_eq_true (by first | (with_reducible assumption) | assumption)
                    obtain ⟨ad152, e152, hx152_0⟩ := Kd.at_int (Kd.V_reads' HO_0.out).2.2 0 p152 q152
                    cases e152
                    have qi152 : (0 < x0_4.length) = True := eq_true (by omega)
                    (try rw [show ((0 : Int)).toNat = 0 from rfl] at hx152_0)
                    (try rw [Addr.add_zero'] at hx152_0)
                    replace p152 := eq_true p152
                    replace q152 := eq_true q152
                    go_wp2
                    go_meet
                    case rel => exact ⟨_, (false), (by first | rfl | (simp; done) | (simp [*]; done)), H', ⟨by have := HJ1.out; have := HJ4.out; first | omega | exact Nat.le_refl _⟩, ⟨by (with_reducible repeat (first | apply Kd.V_alloc | apply Kd.V_drewN | apply Kd.V_drew)); exact HO_0.out⟩, ⟨by repeat (first | (with_reducible first | exact HB.out | apply below_alloc | apply pw_below_drewN | apply below_drew1) | exact HB.out)⟩⟩
                · rw [if_neg c14] at H
                  exact absurd H (by simp)
          case rest =>
            clear HC9
            try clear c1
            try clear p1
            try clear q1
            try clear hx1
            try clear qi1
            try clear p2
            try clear c3
            try clear c3b0
            try clear c3b1
            try clear c4
            try clear c4b0
            try clear c4b1
            try clear c6
            try clear c7
            try clear c7b0
            try clear c7b1
            try clear c8
            try clear q8
            try clear c9
            try clear c10
            try clear c10b0
            try clear c10b1
            try clear c10b2
            try clear c12
            try clear c12b0
            try clear c12b1
            try clear c14
            try clear c14b0
            try clear c14b1
            try clear p14
            try clear q14
            try clear hx14
            try clear qi14
            try clear c15
            try clear c15b0
            try clear c15b1
            try clear p15
            try clear q15
            try clear hx15
            try clear qi15
            try clear c16
            try clear hx146_0
            try clear hx152_0
            try clear p1
            try clear p146
            try clear p152
            try clear p2
            try clear q1
            try clear q146
            try clear q152
            try clear q8
            obtain ⟨kq, x40_8, rfl, HA, HJ8, HO_0, HB⟩ := hcut
            cases kq with
            | zero => exact absurd HA.out (by simp [cnf_number.j2])
            | succ kj8 =>
              have H := HA.out
              clear HA
              simp only [cnf_number.j2] at H
              by_cases c20 : x40_8 = true
              · subst c20
                have H1 : (some (0, false)) = some (r1, r2) := by rw [if_pos rfl] at H; exact H
                clear H
                have H := H1
                clear H1
                simp only [Option.some.injEq, Prod.mk.injEq] at H
                obtain ⟨rfl, rfl⟩ := H
                go_wp2
                go_ret2
                exact ⟨by first | rfl | (simp [errW_none, errW_some] <;> rfl) | (simp [*, errW_none, errW_some] <;> rfl), by repeat (first | (with_reducible first | exact HB.out | apply below_alloc | apply pw_below_drewN | apply below_drew1) | exact HB.out)⟩
              · replace c20 := Bool.eq_false_iff.mpr c20
                subst c20
                have H1 : (cnf_number.l0 kj8 0 x4_1 x0_4 (x0_4.length : Int) 0) = some (r1, r2) := by rw [if_neg (show ¬ (false = true) by decide)] at H; exact H
                clear H
                have H := H1
                clear H1
                have H' := Aside0.mk H
                clear H
                obtain ⟨Ao21, co21, eo21⟩ := Kd.V_slice HO_0.out
                subst eo21
                go_wp2
                go_loopg [2, 43] kj8 (fun kq v2 v43 w' => ∃ (x2_4 : Int) (x43_4 : Int), v2 = .int .i64 x2_4 ∧ v43 = .int .i64 x43_4 ∧ Aside0 (cnf_number.l0 kq x2_4 x4_1 x0_4 (x0_4.length : Int) x43_4 = some (r1, r2)) ∧ Aside0 (kq ≤ kj8) ∧ Aside0 (Kd.V (Kd.int .u8) 5 w' w.heap.size (fun k_ => (P0_ k_ ∨ w.heap.size ≤ k_)) (.slice Ao21 x0_4.length co21) x0_4) ∧ Aside0 (Below w.heap.size w w'))
                case atStart => exact ⟨(0), (0), (by first | rfl | (simp; done) | (simp [*]; done)), (by first | rfl | (simp; done) | (simp [*]; done)), H', ⟨Nat.le_refl _⟩, ⟨by (with_reducible repeat (first | apply Kd.V_alloc | apply Kd.V_drewN | apply Kd.V_drew)); exact HO_0.out⟩, ⟨by repeat (first | (with_reducible first | exact HB.out | apply below_alloc | apply pw_below_drewN | apply below_drew1) | exact HB.out)⟩⟩
                case round =>
                  clear H'
                  try clear c1
                  try clear p1
                  try clear q1
                  try clear hx1
                  try clear qi1
                  try clear c2
                  try clear p2
                  try clear c3
                  try clear c3b0
                  try clear c3b1
                  try clear c4
                  try clear c4b0
                  try clear c4b1
                  try clear c6
                  try clear c7
                  try clear c7b0
                  try clear c7b1
                  try clear c8
                  try clear q8
                  try clear c9
                  try clear c10
                  try clear c10b0
                  try clear c10b1
                  try clear c10b2
                  try clear c12
                  try clear c12b0
                  try clear c12b1
                  try clear c14
                  try clear c14b0
                  try clear c14b1
                  try clear p14
                  try clear q14
                  try clear hx14
                  try clear qi14
                  try clear c15
                  try clear c15b0
                  try clear c15b1
                  try clear p15
                  try clear q15
                  try clear hx15
                  try clear qi15
                  try clear c16
                  try clear c20
                  try clear hx146_0
                  try clear hx152_0
                  try clear p1
                  try clear p14
                  try clear p146
                  try clear p15
                  try clear p152
                  try clear p2
                  try clear q1
                  try clear q14
                  try clear q146
                  try clear q15
                  try clear q152
                  try clear q8
                  obtain ⟨x2_4, x43_4, rfl, rfl, HA, HK4, HO_41, HB⟩ := hrel
                  cases gk with
                  | zero => exact absurd HA.out (by simp [cnf_number.l0])
                  | succ k4 =>
                    have H := HA.out
                    clear HA
                    simp only [cnf_number.l0] at H
                    by_cases c22 : x43_4 < (x0_4.length : Int)
                    · rw [if_pos c22] at H
                      have c22b0 : decide (x43_4 < (x0_4.length : Int)) = true := decide_eq_true c22
                      clear c22
                      by_cases c23 : 0 ≤ x43_4
                      · rw [if_pos c23] at H
                        have c23b0 : decide (0 ≤ x43_4) = true := decide_eq_true c23
                        clear c23
                        by_cases c24 : x43_4 < (x0_4.length : Int)
                        · rw [if_pos c24] at H
                          have c24b0 : decide (x43_4 < (x0_4.length : Int)) = true := decide_eq_true c24
                          clear c24
                          by_cases c25 : (rd x0_4 x43_4) < 48
                          · rw [if_pos c25] at H
                            have c25b0 : decide ((rd x0_4 x43_4) < 48) = true := decide_eq_true c25
                            clear c25
                            simp only [Option.some.injEq, Prod.mk.injEq] at H
                            obtain ⟨rfl, rfl⟩ := H
                            have p153 : 0 ≤ (x43_4 : Int) := of_decide_eq_true (by first | (with_reducible assumption) | assumption)
                            have q153 : x43_4 < (x0_4.length : Int) := of_decide_eq_true (by first | (with_reducible assumption) | assumption)
                            obtain ⟨ad153, e153, hx153_0⟩ := Kd.at_int (Kd.V_reads' HO_41.out).2.2 x43_4 p153 q153
                            cases e153
                            replace p153 := eq_true p153
                            replace q153 := eq_true q153
                            go_wp2
                            go_ret2
                            exact ⟨by first | rfl | (simp [errW_none, errW_some] <;> rfl) | (simp [*, errW_none, errW_some] <;> rfl), by repeat (first | (with_reducible first | exact HB.out | apply below_alloc | apply pw_below_drewN | apply below_drew1) | exact HB.out)⟩
                          · rw [if_neg c25] at H
                            have c25b0 : decide ((rd x0_4 x43_4) < 48) = false := decide_eq_false c25
                            clear c25
                            by_cases c26 : (rd x0_4 x43_4) > 57
                            · rw [if_pos c26] at H
                              have c26b0 : decide (57 < (rd x0_4 x43_4)) = true := decide_eq_true c26
                              clear c26
                              simp only [Option.some.injEq, Prod.mk.injEq] at H
                              obtain ⟨rfl, rfl⟩ := H
                              have p153 : 0 ≤ (x43_4 : Int) := of_decide_eq_true (by first | (with_reducible assumption) | assumption)
                              have q153 : x43_4 < (x0_4.length : Int) := of_decide_eq_true (by first | (with_reducible assumption) | assumption)
                              obtain ⟨ad153, e153, hx153_0⟩ := Kd.at_int (Kd.V_reads' HO_41.out).2.2 x43_4 p153 q153
                              cases e153
                              replace p153 := eq_true p153
                              replace q153 := eq_true q153
                              go_wp2
                              go_ret2
                              exact ⟨by first | rfl | (simp [errW_none, errW_some] <;> rfl) | (simp [*, errW_none, errW_some] <;> rfl), by repeat (first | (with_reducible first | exact HB.out | apply below_alloc | apply pw_below_drewN | apply below_drew1) | exact HB.out)⟩
                            · rw [if_neg c26] at H
                              have c26b0 : decide (57 < (rd x0_4 x43_4)) = false := decide_eq_false c26
                              clear c26
                              have H' := Aside0.mk H
                              clear H
                              have p153 : 0 ≤ (x43_4 : Int) := of_decide_eq_true (by first | (with_reducible assumption) | assumption)
                              have q153 : x43_4 < (x0_4.length : Int) := of_decide_eq_true (by first | (with_reducible assumption) | assumption)
                              obtain ⟨ad153, e153, hx153_0⟩ := Kd.at_int (Kd.V_reads' HO_41.out).2.2 x43_4 p153 q153
                              cases e153
                              replace p153 := eq_true p153
                              replace q153 := eq_true q153
                              go_wp2
                              go_roundg k4
                              case measure => have := HJ1.out; have := HJ4.out; have := HJ8.out; have := HK4.out; omega
                              case rel => exact ⟨(wrap64 ((wrap64 (10 * x2_4)) + (((rd x0_4 x43_4) - 48) % 256))), (wrap64 (x43_4 + 1)), (by first | rfl | (simp; done) | (simp [*]; done)), (by first | rfl | (simp; done) | (simp [*]; done)), H', ⟨by have := HJ1.out; have := HJ4.out; have := HJ8.out; have := HK4.out; omega⟩, ⟨by (with_reducible repeat (first | apply Kd.V_alloc | apply Kd.V_drewN | apply Kd.V_drew)); exact HO_41.out⟩, ⟨by repeat (first | (with_reducible first | exact HB.out | apply below_alloc | apply pw_below_drewN | apply below_drew1) | exact HB.out)⟩⟩
                        · rw [if_neg c24] at H
                          exact absurd H (by simp)
                      · rw [if_neg c23] at H
                        exact absurd H (by simp)
                    · rw [if_neg c22] at H
                      have c22b0 : decide (x43_4 < (x0_4.length : Int)) = false := decide_eq_false c22
                      clear c22
                      by_cases c27 : x4_1 = true
                      · subst c27
                        have H1 : (some (wrap64 (-x2_4), true)) = some (r1, r2) := by rw [if_pos rfl] at H; exact H
                        clear H
                        have H := H1
                        clear H1
                        simp only [Option.some.injEq, Prod.mk.injEq] at H
                        obtain ⟨rfl, rfl⟩ := H
                        go_wp2
                        go_ret2
                        exact ⟨by first | rfl | (simp [errW_none, errW_some] <;> rfl) | (simp [*, errW_none, errW_some] <;> rfl), by repeat (first | (with_reducible first | exact HB.out | apply below_alloc | apply pw_below_drewN | apply below_drew1) | exact HB.out)⟩
                      · replace c27 := Bool.eq_false_iff.mpr c27
                        subst c27
                        have H1 : (some (x2_4, true)) = some (r1, r2) := by rw [if_neg (show ¬ (false = true) by decide)] at H; exact H
                        clear H
                        have H := H1
                        clear H1
                        simp only [Option.some.injEq, Prod.mk.injEq] at H
                        obtain ⟨rfl, rfl⟩ := H
                        go_wp2
                        go_ret2
                        exact ⟨by first | rfl | (simp [errW_none, errW_some] <;> rfl) | (simp [*, errW_none, errW_some] <;> rfl), by repeat (first | (with_reducible first | exact HB.out | apply below_alloc | apply pw_below_drewN | apply below_drew1) | exact HB.out)⟩

end Go.Proofs.YtcdhhaedgohlgaaGreatDoor.P
end

section
namespace Go.Proofs.YtcdhhaedgohlgaaGreatDoor.P
open Go.RowKit Go.Shelf Go.Proofs.YtcdhhaedgohlgaaGreatDoorW.PrintWords Go.Proofs.YtcdhhaedgohlgaaGreatDoorW.PrintLast Go.Proofs.YtcdhhaedgohlgaaGreatDoorW.PrintMore
set_option linter.unusedVariables false
set_option linter.unusedSimpArgs false
set_option maxRecDepth 100000

def isDig (b : UInt8) : Bool := decide (48 ≤ b.toNat) && decide (b.toNat ≤ 57)
def decV (l : List UInt8) (n : Int) : Int := l.foldl (fun n b => 10 * n + ((b.toNat : Int) - 48)) n
/-- What stands behind a minus. -/
def absV (minus : Bool) (r : List UInt8) : Int × Bool :=
  if r = [] ∨ 10 < r.length ∨ (r.head? = some 48 ∧ (minus = true ∨ 1 < r.length)) ∨ r.all isDig = false then (0, false) else (if minus then -decV r 0 else decV r 0, true)
def numV (bs : List UInt8) : Int × Bool := if bs.head? = some 45 then absV true bs.tail else absV false bs

def p10 : Nat → Int
  | 0 => 1
  | i + 1 => 10 * p10 i
theorem p10_le (i : Nat) (h : i ≤ 10) : p10 i ≤ 10000000000 := by
  have : ∀ i : Fin 11, p10 i.1 ≤ 10000000000 := by decide
  exact this ⟨i, by omega⟩
theorem p10_succ (i : Nat) : p10 (i + 1) = 10 * p10 i := rfl
theorem p10_step {n q : Int} {d : Int} (h : n < q) (hd : d ≤ 9) : 10 * n + d < 10 * q := by omega
theorem n_small {n q : Int} (h : n < q) (h2 : q ≤ 10000000000) : n < 10000000000 := by omega

theorem l0_step (k : Nat) (x2 : Int) (x4 : Bool) (x41 : List Int) (x42 x43 : Int) : cnf_number.l0 (k + 1) x2 x4 x41 x42 x43 = if x43 < x42 then (if 0 ≤ x43 then (if x43 < (x41.length : Int) then (if (rd x41 x43) < 48 then (some (0, false)) else (if (rd x41 x43) > 57 then (some (0, false)) else (cnf_number.l0 k (wrap64 ((wrap64 (10 * x2)) + (((rd x41 x43) - 48) % 256))) x4 x41 x42 (wrap64 (x43 + 1))))) else (none)) else (none)) else (if x4 = true then (some (wrap64 (-x2), true)) else (some (x2, true))) := by
  rw [cnf_number.l0]

theorem l0_num (x4 : Bool) (bs : List UInt8) (hl : bs.length ≤ 10) : ∀ (r : List UInt8) (i : Nat) (n : Int) (k : Nat), bs.drop i = r → r.length < k → 0 ≤ n → n < p10 i → i ≤ bs.length →
    cnf_number.l0 k n x4 (bytesI bs) ((bytesI bs).length : Int) (i : Int) = some (if r.all isDig = true then (if x4 then -decV r n else decV r n, true) else (0, false))
  | [], i, n, 0, hd, hk, h0, h1, hi => by simp at hk
  | b :: r, i, n, 0, hd, hk, h0, h1, hi => by simp at hk
  | [], i, n, k + 1, hd, hk, h0, h1, hi => by
    have hil : i = bs.length := by
      have := congrArg List.length hd
      rw [List.length_drop] at this
      simp at this
      omega
    have hn := n_small h1 (p10_le i (by omega))
    clear h1
    rw [l0_step]
    rw [bytesI_length, if_neg (by omega)]
    have hw : wrap64 (-n) = -n := by unfold wrap64; omega
    cases x4 <;> simp [decV, hw]
  | b :: r, i, n, k + 1, hd, hk, h0, h1, hi => by
    have hil : i < bs.length := by
      rcases Nat.lt_or_ge i bs.length with h | h
      · exact h
      · rw [List.drop_eq_nil_of_le h] at hd; cases hd
    rw [List.drop_eq_getElem_cons hil] at hd
    injection hd with hb hr
    have hrd : rd (bytesI bs) (i : Int) = (b.toNat : Int) := by unfold rd; rw [Int.toNat_natCast, bytesI_getD bs i hil, hb]
    have hlt := UInt8.toNat_lt b
    have hn := n_small h1 (p10_le i (by omega))
    have hstep := fun (h : (b.toNat : Int) - 48 ≤ 9) => p10_step h1 h
    rw [← p10_succ] at hstep
    clear h1
    rw [l0_step]
    rw [hrd, bytesI_length, if_pos (by omega), if_pos (by omega), if_pos (by omega)]
    rw [List.all_cons]
    by_cases hd1 : (b.toNat : Int) < 48
    · rw [if_pos hd1]
      have : isDig b = false := by unfold isDig; rw [decide_eq_false (by omega)]; rfl
      rw [this]; rfl
    · rw [if_neg hd1]
      by_cases hd2 : (b.toNat : Int) > 57
      · rw [if_pos hd2]
        have : isDig b = false := by unfold isDig; rw [decide_eq_false (p := b.toNat ≤ 57) (by omega)]; simp
        rw [this]; rfl
      · rw [if_neg hd2]
        have hdg : isDig b = true := by unfold isDig; rw [decide_eq_true (by omega), decide_eq_true (by omega)]; rfl
        have e0 : (0 : Int) ≤ 10 * n + ((b.toNat : Int) - 48) := by omega
        have e1 := hstep (by omega)
        have e2 : i + 1 ≤ bs.length := hil
        have ih := l0_num x4 bs hl r (i + 1) (10 * n + ((b.toNat : Int) - 48)) k hr (by simpa using hk) e0 e1 e2
        rw [bytesI_length] at ih
        have hw1 : wrap64 (10 * n) = 10 * n := by unfold wrap64; omega
        have hw2 : ((b.toNat : Int) - 48) % 256 = (b.toNat : Int) - 48 := by omega
        have hw3 : wrap64 (10 * n + ((b.toNat : Int) - 48)) = 10 * n + ((b.toNat : Int) - 48) := by unfold wrap64; omega
        have hw4 : wrap64 ((i : Int) + 1) = ((i + 1 : Nat) : Int) := by unfold wrap64; omega
        rw [hw1, hw2, hw3, hw4, hdg, Bool.true_and]
        rw [ih]
        rfl

theorem rd_head (b : UInt8) (r : List UInt8) : rd (bytesI (b :: r)) 0 = (b.toNat : Int) := rfl
theorem byte_eq (b : UInt8) (n : Nat) (hn : n < 256) : (b.toNat : Int) = (n : Int) ↔ b = UInt8.ofNat n := by
  constructor
  · intro h
    apply UInt8.toNat_inj.1
    rw [UInt8.toNat_ofNat_of_lt' (by omega)]
    omega
  · rintro rfl
    rw [UInt8.toNat_ofNat_of_lt' (by omega)]

theorem j1_abs (x4 : Bool) (r : List UInt8) (k : Nat) (hk : r.length < k) : cnf_number.j1 (k + 2) (bytesI r) 0 x4 = some (absV x4 r) := by
  rw [cnf_number.j1, cnf_number.j2, cnf_number.j2, cnf_number.j2, bytesI_length]
  unfold absV
  cases r with
  | nil => rfl
  | cons b r =>
    rw [if_neg (by simp; omega)]
    by_cases h10 : (b :: r).length > 10
    · have hor : (b :: r) = [] ∨ 10 < (b :: r).length ∨ ((b :: r).head? = some 48 ∧ (x4 = true ∨ 1 < (b :: r).length)) ∨ (b :: r).all isDig = false := .inr (.inl h10)
      rw [if_pos (by omega), if_pos rfl, if_pos hor]
    · rw [if_neg (by omega), if_pos (by simp), rd_head]
      have hl0 := l0_num x4 (b :: r) (by omega) (b :: r) 0 0 k rfl hk (by omega) (by decide) (by omega)
      rw [bytesI_length] at hl0
      replace hl0 : cnf_number.l0 k 0 x4 (bytesI (b :: r)) ((b :: r).length : Int) 0 = _ := hl0
      have hb := byte_eq b 48 (by omega)
      have hlast : ∀ (P : Prop) [Decidable P], ¬ P → (if P then some ((0 : Int), false) else cnf_number.l0 k 0 x4 (bytesI (b :: r)) ((b :: r).length : Int) 0) = some (if (b :: r) = [] ∨ 10 < (b :: r).length ∨ P ∨ (b :: r).all isDig = false then (0, false) else (if x4 then -decV (b :: r) 0 else decV (b :: r) 0, true)) := by
        intro P _ hP
        rw [if_neg hP, hl0]
        cases ha : (b :: r).all isDig with
        | true =>
          have hnot : ¬ ((b :: r) = [] ∨ 10 < (b :: r).length ∨ P ∨ true = false) := by
            rintro (h | h | h | h)
            · cases h
            · omega
            · exact hP h
            · cases h
          rw [if_pos rfl, if_neg hnot]
        | false => rw [if_neg (by simp), if_pos (.inr (.inr (.inr rfl)))]
      by_cases h48 : (b.toNat : Int) = 48
      · rw [if_pos h48]
        have hbe : b = 48 := hb.1 h48
        cases x4 with
        | true =>
          rw [if_pos rfl, if_pos rfl, if_pos (.inr (.inr (.inl ⟨by rw [hbe]; rfl, .inl rfl⟩)))]
        | false =>
          rw [if_neg (by simp)]
          by_cases h1 : 1 < (b :: r).length
          · rw [if_pos (by simp only [decide_eq_true_eq]; omega), if_pos (.inr (.inr (.inl ⟨by rw [hbe]; rfl, .inr h1⟩)))]
          · rw [if_neg (by simp only [decide_eq_true_eq]; omega)]
            have hP : ¬ ((b :: r).head? = some 48 ∧ (false = true ∨ 1 < (b :: r).length)) := by simp at h1 ⊢; intro _; exact h1
            have := hlast _ hP
            rw [if_neg hP] at this
            exact this
      · rw [if_neg h48, if_neg (by simp)]
        have hP : ¬ ((b :: r).head? = some 48 ∧ (x4 = true ∨ 1 < (b :: r).length)) := by
          rintro ⟨h, _⟩
          injection h with h
          exact h48 (hb.2 h)
        have := hlast _ hP
        rw [if_neg hP] at this
        exact this

theorem number_f (bs : List UInt8) : cnf_number.f (bs.length + 4) (bytesI bs) = some (numV bs) := by
  unfold cnf_number.f numV
  rw [bytesI_length]
  cases bs with
  | nil =>
    rw [if_neg (by simp), if_neg (by simp)]
    rw [cnf_number.j0, if_neg (by simp)]
    exact j1_abs false [] 1 (by simp)
  | cons b r =>
    rw [if_pos (by simp), if_pos (by simp), rd_head]
    have hb := byte_eq b 45 (by omega)
    rw [show (b :: r).length + 4 = ((b :: r).length + 1 + 2) + 1 by omega, cnf_number.j0]
    by_cases h45 : (b.toNat : Int) = 45
    · have hbe : b = 45 := hb.1 h45
      rw [if_pos (by simpa using h45), if_pos (by rw [bytesI_length]; simp; omega), if_pos (by rw [hbe]; rfl)]
      have : ((b.toNat : Int) == 45) = true := by simpa using h45
      rw [this]
      exact j1_abs true r _ (by simp; omega)
    · have : ((b.toNat : Int) == 45) = false := by simpa using h45
      rw [this, if_neg (by simp), if_neg (by intro h; injection h with h; exact h45 (hb.2 h))]
      exact j1_abs false (b :: r) _ (by omega)

theorem CB.same {w w' : World} {A : Option Addr} {bs : List UInt8} (h : CB w A bs) (hk : ∀ k, k < w.heap.size → w'.heap[k]? = w.heap[k]?) : CB w' A bs := by
  refine CB.mk_ h.2.1 (fun hn => ?_)
  obtain ⟨ad, e, hc⟩ := h.some_ hn
  refine ⟨ad, e, fun i hi => ?_⟩
  have := hc i hi
  rw [World.cell?_of_block (hk _ (World.block_lt_of_cell? w _ this))]
  exact this
theorem number95 (A : Option Addr) (bs : List UInt8) (c : Nat) (w : World) (hc : bs.length ≤ c) (h : CB w A bs) :
    Calls Tryz.prog 95 #[.slice A bs.length c] w fun e w' => e = .returned (.tuple #[.int .i64 (numV bs).1, .bool (numV bs).2]) ∧ Below w.heap.size w w' := by
  have hV : Kd.V (Kd.int .u8) 5 w w.heap.size (fun _ => True) (.slice A (bytesI bs).length c) (bytesI bs) := ⟨A, c, rfl, by rw [bytesI_length]; exact hc, fun W' hW => by
    have := h.same (fun k hk => hW k trivial hk)
    rw [bytesI_length]
    exact this⟩
  have := cnf_number.calls (bs.length + 4) (fun _ => True) A c (bytesI bs) (numV bs).1 (numV bs).2 w hV (number_f bs)
  rw [bytesI_length] at this
  exact this

theorem fieldX_spec {w : World} {A : Option Addr} {bs : List UInt8} (h : CB w A bs) (s i : Nat) (hs : s < i) (hi : i ≤ bs.length) : ∃ A', (fieldX A bs s i).1 = .slice A' (fieldX A bs s i).2.length (fieldX A bs s i).2.length ∧ CB w A' (fieldX A bs s i).2 ∧ 0 < (fieldX A bs s i).2.length := by
  have hl : ((bs.drop s).take (i - s)).length = i - s := by rw [List.length_take, List.length_drop]; omega
  refine ⟨A.map (·.add s), ?_, (h.drop s).take (i - s), ?_⟩
  · show Value.slice _ (i - s) (i - s) = .slice _ ((bs.drop s).take (i - s)).length ((bs.drop s).take (i - s)).length
    rw [hl]
  · show 0 < ((bs.drop s).take (i - s)).length
    rw [hl]; omega
theorem fieldsV_spec {w : World} {A : Option Addr} {bs : List UInt8} (h : CB w A bs) : ∀ (r : List UInt8) (i : Nat) (st : Option Nat), bs.drop i = r → i ≤ bs.length → (∀ s, st = some s → s < i) → ∀ x ∈ fieldsV A bs r i st, ∃ A', x.1 = .slice A' x.2.length x.2.length ∧ CB w A' x.2 ∧ 0 < x.2.length
  | [], i, none, hd, hi, hs, x, hx => by cases hx
  | [], i, some s, hd, hi, hs, x, hx => by
    rcases List.mem_cons.1 hx with rfl | hx
    · exact fieldX_spec h s i (hs s rfl) hi
    · cases hx
  | b :: r, i, st, hd, hi, hs, x, hx => by
    have hil : i < bs.length := by
      rcases Nat.lt_or_ge i bs.length with h | h
      · exact h
      · rw [List.drop_eq_nil_of_le h] at hd; cases hd
    have hd' : bs.drop (i + 1) = r := by
      rw [List.drop_eq_getElem_cons hil] at hd
      injection hd
    cases st with
    | none =>
      replace hx : x ∈ (if isSp b then fieldsV A bs r (i + 1) none else fieldsV A bs r (i + 1) (some i)) := hx
      cases hb : isSp b with
      | true =>
        rw [hb, if_pos rfl] at hx
        exact fieldsV_spec h r (i + 1) none hd' hil (fun s e => by cases e) x hx
      | false =>
        rw [hb, if_neg (by simp)] at hx
        exact fieldsV_spec h r (i + 1) _ hd' hil (fun s e => by injection e with e; omega) x hx
    | some s =>
      have hsi := hs s rfl
      replace hx : x ∈ (if isSp b then fieldX A bs s i :: fieldsV A bs r (i + 1) none else fieldsV A bs r (i + 1) (some s)) := hx
      cases hb : isSp b with
      | true =>
        rw [hb, if_pos rfl] at hx
        rcases List.mem_cons.1 hx with rfl | hx
        · exact fieldX_spec h s i hsi hi
        · exact fieldsV_spec h r (i + 1) none hd' hil (fun s e => by cases e) x hx
      | false =>
        rw [hb, if_neg (by simp)] at hx
        exact fieldsV_spec h r (i + 1) _ hd' hil (fun s e => by injection e with e; omega) x hx
theorem wordsV_spec {w : World} {A : Option Addr} {bs : List UInt8} {cap : Nat} (h : CB w A bs) (hc : bs.length ≤ cap) : ∀ x ∈ wordsV A cap bs, ∃ A', x.1 = .slice A' x.2.length x.2.length ∧ CB w A' x.2 ∧ 0 < x.2.length := by
  intro x hx
  obtain ⟨y, hy, hx⟩ := List.mem_flatMap.1 hx
  obtain ⟨A', hv, hC⟩ := splitV_spec w bs.length A cap bs hc h y hy
  unfold lineWords at hx
  split at hx
  · cases hx
  · rw [hv] at hx
    exact fieldsV_spec hC y.2 0 none rfl (Nat.zero_le _) (fun s e => by cases e) x hx

theorem words94 (A1 : Option Addr) (n1 c1 : Nat) (w : World) : Calls Tryz.prog 94 #[.slice A1 n1 c1] w fun e w' => e = .returned (.func (.func 132) #[] #[.pointer (some ⟨w.heap.size, 0, none⟩)]) ∧ w' = w.alloc (.cells #[.slice A1 n1 c1] 41) := by
  go_enter Tryz.func94, Tryz.ntmps94
  go_wp2
  go_ret
  exact ⟨rfl, rfl⟩
end Go.Proofs.YtcdhhaedgohlgaaGreatDoor.P
end

section
namespace Go.Proofs.YtcdhhaedgohlgaaGreatDoor.P
set_option linter.unusedVariables false

def okAt (i : Nat) (w : List UInt8) : Bool := if i = 0 then w == [112] else if i = 1 then w == [99, 110, 102] else if i < 4 then (numV w).2 && decide (0 ≤ (numV w).1) else (numV w).2
def numsV (ws : List (List UInt8)) : List Int := (ws.drop 2).map fun w => (numV w).1
def okAll (ws : List (List UInt8)) : Prop := ∀ i w, ws[i]? = some w → okAt i w = true

/-- The clauses between zeros; none: the last is not closed. -/
def clausesOf : Nat → List Int → Option (List (List Int))
  | 0, _ => some []
  | f + 1, l => if l = [] then some [] else match l.findIdx? (· == 0) with
    | none => none
    | some e => (clausesOf f (l.drop (e + 1))).map fun r => l.take e :: r
instance (ws : List (List UInt8)) : Decidable (okAll ws) := decidable_of_iff (∀ i : Fin ws.length, okAt i.1 ws[i.1] = true) ⟨fun h i w hw => by
    obtain ⟨hi, hx⟩ := List.getElem?_eq_some_iff.1 hw
    rw [← hx]; exact h ⟨i, hi⟩, fun h i => h i.1 _ (List.getElem?_eq_getElem i.2)⟩
/-- What Get makes of the words. -/
def getV (ws : List (List UInt8)) : Int × List (List Int) × Int :=
  if ¬ okAll ws ∨ ws.length < 4 then (0, [], 11)
  else if (numsV ws).getD 0 0 > 65536 ∨ (numsV ws).getD 1 0 > 65536 then (0, [], 2)
  else match clausesOf (numsV ws).length ((numsV ws).drop 2) with
    | none => (0, [], 11)
    | some L => if (L.length : Int) ≠ (numsV ws).getD 1 0 then (0, [], 11) else if checkV ((numsV ws).getD 0 0) L ≠ 0 then (0, [], checkV ((numsV ws).getD 0 0) L) else ((numsV ws).getD 0 0, L, 0)
theorem getV_bad {ws : List (List UInt8)} {i : Nat} {u : List UInt8} (h : ws[i]? = some u) (ho : okAt i u = false) : getV ws = (0, [], 11) := by
  unfold getV
  rw [if_pos (.inl (fun hk => by have := hk i u h; rw [ho] at this; cases this))]
end Go.Proofs.YtcdhhaedgohlgaaGreatDoor.P
end

section
namespace Go.Proofs.YtcdhhaedgohlgaaGreatDoor.P
open Go.RowKit Go.Proofs.YtcdhhaedgohlgaaGreatDoorW.PrintWords Go.Proofs.YtcdhhaedgohlgaaGreatDoorW.PrintLast Go.Proofs.YtcdhhaedgohlgaaGreatDoorW.PrintMore
set_option linter.unusedVariables false

def idxI (l : List Int) (x : Int) : Int := match l.findIdx? (· == x) with | none => -1 | some i => i

theorem index_exact (l : List Int) (x : Int) (hl : l.length < 9223372036854775807) : ∀ n i k, i + n = l.length → n < k → slices_Index_int_int.l0 k l x (l.length : Int) (i : Int) = some (match (l.drop i).findIdx? (· == x) with | none => -1 | some j => ((i + j : Nat) : Int))
  | 0, i, k + 1, hi, hk => by
    unfold slices_Index_int_int.l0
    rw [if_neg (by omega), List.drop_eq_nil_of_le (by omega)]
    rfl
  | n + 1, i, k + 1, hi, hk => by
    unfold slices_Index_int_int.l0
    have hlt : i < l.length := by omega
    rw [if_pos (by omega), if_pos (by omega), if_pos (by omega)]
    have hr : rd l (i : Int) = l[i] := by unfold rd; simp [List.getD_eq_getElem?_getD, hlt]
    rw [hr, List.drop_eq_getElem_cons hlt, List.findIdx?_cons]
    by_cases e : x = l[i]
    · have : (l[i] == x) = true := beq_iff_eq.2 e.symm
      rw [if_pos e, this]
      simp
    · have : (l[i] == x) = false := beq_eq_false_iff_ne.2 (fun h => e h.symm)
      have hw : wrap64 ((i : Int) + 1) = ((i + 1 : Nat) : Int) := by unfold wrap64; omega
      rw [if_neg e, this, hw]
      clear hw
      rw [index_exact l x hl n (i + 1) k (by omega) (by omega)]
      cases h : (l.drop (i + 1)).findIdx? (· == x) with
      | none => simp
      | some j =>
        show some (((i + 1 + j : Nat) : Int)) = some (((i + (j + 1) : Nat) : Int))
        rw [show i + 1 + j = i + (j + 1) by omega]

theorem Index_int (A0 : Option Addr) (c0 : Nat) (l0 : List Int) (x : Int) (w : World) (hl : l0.length < 9223372036854775807) (hr0 : Kd.C (Kd.int .i64) w A0 l0.length l0) (hc0 : l0.length ≤ c0) :
    Calls Tryz.prog 96 #[.slice A0 l0.length c0, .int .i64 x] w fun e w' => e = .returned (.int .i64 (idxI l0 x)) ∧ ∃ q, w' = w.drewN q := by
  refine (slices_Index_int_int.calls (l0.length + 1) A0 c0 l0 x (idxI l0 x) w hr0 hc0 ?_).mono fun _ _ ⟨h1, h2⟩ => ⟨h1, h2.out⟩
  unfold slices_Index_int_int.f
  have h := index_exact l0 x hl l0.length 0 (l0.length + 1) (by omega) (by omega)
  rw [show ((0 : Nat) : Int) = 0 from rfl] at h
  rw [h, List.drop_zero]
  unfold idxI
  cases l0.findIdx? (· == x) with
  | none => rfl
  | some j => simp

/-- A row of ints read: what lies behind its first k. -/
theorem C_drop_int {w : World} {g off : Nat} {l : List Int} (h : Kd.C (Kd.int .i64) w (some ⟨g, off, none⟩) l.length l) (k : Nat) : Kd.C (Kd.int .i64) w (some ⟨g, off + k, none⟩) (l.drop k).length (l.drop k) := by
  refine ⟨rfl, by rw [List.length_drop]; have := h.2.1; omega, fun hn => ⟨_, rfl, fun j p hj => ?_⟩⟩
  rw [List.length_drop] at hn
  obtain ⟨hjl, hp⟩ := List.getElem?_eq_some_iff.1 hj
  rw [List.length_drop] at hjl
  rw [List.getElem_drop] at hp
  obtain ⟨ad, e, hx⟩ := Kd.at_int h ((k + j : Nat) : Int) (by omega) (by omega)
  injection e with e
  subst e
  rw [Int.toNat_natCast, addP] at hx
  have hr : rd l ((k + j : Nat) : Int) = p := by unfold rd; rw [Int.toNat_natCast, ← hp]; simp [List.getD_eq_getElem?_getD, show k + j < l.length by omega]
  rw [hr] at hx
  refine ⟨[.int .i64 p], rfl, rfl, fun i u hi => ?_⟩
  cases i with
  | zero =>
    injection hi with hi
    subst hi
    show w.cell? (Addr.add ⟨g, off + k, none⟩ (j * 1 + 0)) = _
    rw [Nat.mul_one, Nat.add_zero, addP, Nat.add_assoc]
    exact hx
  | succ i => simp at hi
end Go.Proofs.YtcdhhaedgohlgaaGreatDoor.P
end

section
namespace Go.Proofs.YtcdhhaedgohlgaaGreatDoor.P
open Go.RowKit Go.Shelf Go Go.Proofs.YtcdhhaedgohlgaaGreatDoorW.PrintWords Go.Proofs.YtcdhhaedgohlgaaGreatDoorW.PrintLast Go.Proofs.YtcdhhaedgohlgaaGreatDoorW.PrintMore
set_option maxRecDepth 100000
def sr : Code → Code | .seq _ b => b | c => c
def sl : Code → Code | .seq a _ => a | c => c
def blk : Code → Code | .block _ c => c | c => c
noncomputable def rest40 : Code := sr (sr (sr (sr (sr (sr (sr (sr (Tryz.f40.body.getD .skip))))))))
noncomputable def loop40 : Code := blk (sr (sl rest40))
noncomputable def behind40 : Code := sr rest40
theorem C_move {w w' : World} {g : Nat} {l : List Int} (h : Kd.C (Kd.int .i64) w (some ⟨g, 0, none⟩) l.length l) (hk : w'.heap[g]? = w.heap[g]?) : Kd.C (Kd.int .i64) w' (some ⟨g, 0, none⟩) l.length l := by
  refine ⟨rfl, h.2.1, fun hn => ?_⟩
  obtain ⟨ad, e, hc⟩ := h.2.2 hn
  injection e with e
  subst e
  refine ⟨_, rfl, fun j p hj => ?_⟩
  obtain ⟨c, h1, h2, h3⟩ := hc j p hj
  refine ⟨c, h1, h2, fun i u hi => ?_⟩
  have := h3 i u hi
  rw [addP] at this ⊢
  rw [World.cell?_of_block (a := ⟨g, 0 + (j * (Kd.int IntKind.i64).sz + i), none⟩) hk]
  exact this

theorem clausesOf_none {f : Nat} {l : List Int} (hl : 0 < f) (h : l.findIdx? (· == 0) = none) : clausesOf f l = if l = [] then some [] else none := by
  cases f with
  | zero => omega
  | succ f =>
    rw [clausesOf]
    split
    · rfl
    · rw [h]
theorem C_take_int {w : World} {A : Option Addr} {l : List Int} (h : Kd.C (Kd.int .i64) w A l.length l) (k : Nat) (hk : k ≤ l.length) : Kd.C (Kd.int .i64) w A (l.take k).length (l.take k) := by
  refine ⟨rfl, by rw [List.length_take]; have := h.2.1; omega, fun hn => ?_⟩
  rw [List.length_take] at hn
  obtain ⟨ad, e, hc⟩ := h.2.2 (by omega)
  refine ⟨ad, e, fun j p hj => hc j p ?_⟩
  rw [List.getElem?_take] at hj
  split at hj
  · exact hj
  · cases hj

/-- What stands between two rounds of the last loop: m numbers are used up, Lacc is made. -/
structure GetL (m0 D G g : Nat) (N0 : Int) (l : List Int) (W0 : World) (m : Nat) (A2 : Option Addr) (c2 : Nat) (Lacc : List (List Int)) (vL : Value) (wr : World) : Prop where
  os : wr.os = W0.os
  tape : wr.tape = W0.tape
  output : wr.output = W0.output
  size : W0.heap.size ≤ wr.heap.size
  old : ∀ k, k < G → k ≠ m0 + 2 → wr.heap[k]? = W0.heap[k]?
  addr : A2 = some ⟨g, m, none⟩ ∨ l.drop m = []
  cap : (l.drop m).length ≤ c2
  lbox : Boxed wr (m0 + 2) 25 (.slice A2 (l.drop m).length c2)
  cbox : wr.heap[G]? = some (.cells #[.int .i64 N0, vL] 24 (0, 0))
  acc : Kd.S (Kd.slice 3 (Kd.int .i64)) 25 wr (G + 1) (fun _ => True) vL Lacc
  few : Lacc.length ≤ m ∧ m ≤ l.length
  cl : ∃ f, (l.drop m).length ≤ f ∧ clausesOf l.length (l.drop 2) = (clausesOf f (l.drop m)).map (Lacc ++ ·)

theorem GetL.next {m0 D G g : Nat} {N0 : Int} {l : List Int} {W0 : World} {m : Nat} {A2 : Option Addr} {c2 : Nat} {Lacc LN : List (List Int)} {vL v2 : Value} {wr w2 : World} {j n3 c3 : Nat} {A3 : Option Addr} {rest cn : List Int}
    (h : GetL m0 D G g N0 l W0 m A2 c2 Lacc vL wr) (hg : m0 + 5 ≤ g ∧ g < G) (hGs : G < W0.heap.size) (hr : rest = l.drop m) (hcn : cn = rest.take j) (hLN : LN = Lacc ++ [cn]) (hjl : j < rest.length) (hf : rest.findIdx? (· == 0) = some j) (hB : Below (G + 1) wr w2)
    (hS : Kd.S (Kd.slice 3 (Kd.int .i64)) 25 w2 (G + 1) (fun _ => True) v2 LN) (hn3 : n3 = rest.length - (j + 1)) (hc3 : n3 ≤ c3) (hA : A3 = A2.map (fun x => { block := x.block, off := x.off + (j + 1) }) ∨ n3 = 0) :
    GetL m0 D G g N0 l W0 (m + (j + 1)) A3 c3 LN v2 ((w2.setCell ⟨G, 1, none⟩ v2).setCell ⟨m0 + 1 + 1, 0, none⟩ (.slice A3 n3 c3)) := by
  have hlen : (l.drop (m + (j + 1))).length = n3 := by rw [hn3, hr, List.length_drop, List.length_drop]; omega
  have hml : (l.drop m).length = l.length - m := List.length_drop
  have hGw : G < wr.heap.size := Nat.lt_of_lt_of_le hGs h.size
  have hold : ∀ k, k < G + 1 → w2.heap[k]? = wr.heap[k]? := fun k hk => hB.block k hk
  have hs : ((w2.setCell ⟨G, 1, none⟩ v2).setCell ⟨m0 + 1 + 1, 0, none⟩ (.slice A3 n3 c3)).heap.size = w2.heap.size := by
    have sz : ∀ (W : World) (a : Addr) (v : Value), (W.setCell a v).heap.size = W.heap.size := fun W a v => by show (W.heap.modify _ _).size = _; rw [Array.size_modify]
    rw [sz, sz]
  have oth : ∀ (W : World) (b o k : Nat) (v : Value), k ≠ b → (W.setCell ⟨b, o, none⟩ v).heap[k]? = W.heap[k]? := fun W b o k v hk => Below.heap_setCell _ _ _ k hk
  refine ⟨hB.os.trans h.os, hB.tape.trans h.tape, hB.output.trans h.output, by rw [hs]; exact Nat.le_trans h.size hB.size, fun k hk hne => ?_, ?_, by rw [hlen]; exact hc3, ?_, ?_, ?_, ?_, ?_⟩
  · rw [oth _ _ _ _ _ hne, oth _ _ _ _ _ (by omega), hold k (by omega)]
    exact h.old k hk hne
  · rcases hA with hA | hA
    · rcases h.addr with h2 | h2
      · left
        rw [hA, h2]
        rfl
      · exfalso
        rw [hr, h2] at hjl
        simp at hjl
    · right
      exact List.eq_nil_of_length_eq_zero (by omega)
  · rw [hlen]
    have hb : Boxed (w2.setCell ⟨G, 1, none⟩ v2) (m0 + 1 + 1) 25 (.slice A2 (l.drop m).length c2) := (oth _ _ _ _ _ (by omega)).trans ((hold _ (by omega)).trans h.lbox)
    exact hb.set _
  · rw [oth _ _ _ _ _ (by omega)]
    have hc := (hold G (by omega)).trans h.cbox
    obtain ⟨hlt, hk⟩ := Array.getElem?_eq_some_iff.1 hc
    show (w2.heap.modify G _)[G]? = _
    rw [Array.getElem?_eq_getElem (by rw [Array.size_modify]; exact hlt), Array.getElem_modify_self, hk]
    rfl
  · exact Kd.S_mono (Kd.S_far (p := ⟨m0 + 1 + 1, 0, none⟩) (Kd.S_far (p := ⟨G, 1, none⟩) (Kd.S_bound hS) (fun k hk => by have := hk.2.1; show k ≠ G; omega) v2) (fun k hk => by have := hk.2.1; show k ≠ m0 + 1 + 1; omega) _) (fun _ _ => trivial)
  · have := h.few
    rw [hLN, List.length_append, List.length_singleton]
    rw [hr] at hjl
    omega
  · obtain ⟨f, hfl, hcl⟩ := h.cl
    rw [← hr] at hfl hcl
    cases f with
    | zero => omega
    | succ f =>
      refine ⟨f, by rw [hlen]; omega, ?_⟩
      have hne : ¬ rest = [] := fun e => by rw [e] at hjl; simp at hjl
      rw [hcl, clausesOf, if_neg hne, hf]
      have hd : l.drop (m + (j + 1)) = rest.drop (j + 1) := by rw [hr, List.drop_drop]
      rw [hd, hLN, hcn]
      show Option.map _ (Option.map _ (clausesOf f (rest.drop (j + 1)))) = _
      cases clausesOf f (rest.drop (j + 1)) with
      | none => rfl
      | some r => simp

set_option maxHeartbeats 4000000 in
theorem loop40_wp (m0 D G g : Nat) (N0 N1 : Int) (l : List Int) (W0 : World) (m1 : Nat) (A1 : Option Addr) (c1 : Nat) (W1 : World) (v0 v1 v5 v6 v7 v8 v11 v12 v13 v14 v15 v16 v17 v18 v19 v20 v21 v22 v23 v24 v25 v26 v27 v28 v29 v30 v31 v32 v33 v34 v35 v36 v37 v38 v39 v40 v41 v42 v43 v44 v45 v46 v47 v48 v49 v50 v51 v52 v53 v54 v55 v56 v57 v58 v59 v60 v61 v62 v63 v64 v65 v66 v67 v68 v69 v70 v71 v72 v73 v74 v75 v76 v77 v78 v79 v80 v81 v82 v83 v84 v85 v86 v87 v88 v89 v90 v91 v92 v93 v94 v95 v96 v97 v98 v99 v100 v101 v102 v103 v104 v105 v106 v107 v108 v109 : Value) (K : Act → World → Prop) (Q' : Exit → Act → World → Prop)
    (h0 : GetL m0 D G g N0 l W0 m1 A1 c1 [] (.slice none 0 0) W1) (hg : m0 + 5 ≤ g ∧ g < G) (hl : l.length ≤ 4194304) (hC : Kd.C (Kd.int .i64) W0 (some ⟨g, 0, none⟩) l.length l) (hGs : G < W0.heap.size)
    (hc0 : W0.heap[m0]? = some (.cells #[.int .i64 0, .slice none 0 0] 24 (0, 0))) (he0 : Boxed W0 (m0 + 1) 32 (.int .i64 0))
    (hK : ∀ (m : Nat) (A2 : Option Addr) (c2 : Nat) (Lacc : List (List Int)) (vL : Value) (wr : World) (u11 u76 u77 u78 u79 u80 u81 u82 u83 u84 u85 u86 u87 u88 u89 u90 u91 u92 u93 u94 u95 u96 : Value), GetL m0 D G g N0 l W0 m A2 c2 Lacc vL wr → clausesOf l.length (l.drop 2) = some Lacc → K { tmps := #[v0, v1, .pointer (some ⟨m0, 0, none⟩), .pointer (some ⟨m0 + 1, 0, none⟩), .pointer (some ⟨m0 + 1 + 1, 0, none⟩), v5, v6, v7, v8, .pointer (some ⟨G, 0, none⟩), .int .i64 N1, u11, v12, v13, v14, v15, v16, v17, v18, v19, v20, v21, v22, v23, v24, v25, v26, v27, v28, v29, v30, v31, v32, v33, v34, v35, v36, v37, v38, v39, v40, v41, v42, v43, v44, v45, v46, v47, v48, v49, v50, v51, v52, v53, v54, v55, v56, v57, v58, v59, v60, v61, v62, v63, v64, v65, v66, v67, v68, v69, v70, v71, v72, v73, v74, v75, u76, u77, u78, u79, u80, u81, u82, u83, u84, u85, u86, u87, u88, u89, u90, u91, u92, u93, u94, u95, u96, v97, v98, v99, v100, v101, v102, v103, v104, v105, v106, v107, v108, v109], defers := [{ target := .collected D, args := #[] }] } wr)
    (hret : ∀ (m : Nat) (A2 : Option Addr) (c2 : Nat) (Lacc : List (List Int)) (vL : Value) (wr : World) (q : Nat) (tmps : Array Value), GetL m0 D G g N0 l W0 m A2 c2 Lacc vL wr → clausesOf l.length (l.drop 2) = none → tmps.getD 2 undef = .pointer (some ⟨m0, 0, none⟩) → tmps.getD 3 undef = .pointer (some ⟨m0 + 1, 0, none⟩) →
      Q' .ret { tmps := tmps, defers := [{ target := .collected D, args := #[] }] } ((((wr.drewN q).setCell ⟨m0, 0, none⟩ (.int .i64 0)).setCell ⟨m0, 1, none⟩ (.slice none 0 0)).setCell ⟨m0 + 1, 0, none⟩ (.int .i64 11))) :
    loop40.wp Tryz.prog (Exit.inBlock 3 (Exit.then K Q')) { tmps := #[v0, v1, .pointer (some ⟨m0, 0, none⟩), .pointer (some ⟨m0 + 1, 0, none⟩), .pointer (some ⟨m0 + 1 + 1, 0, none⟩), v5, v6, v7, v8, .pointer (some ⟨G, 0, none⟩), .int .i64 N1, v11, v12, v13, v14, v15, v16, v17, v18, v19, v20, v21, v22, v23, v24, v25, v26, v27, v28, v29, v30, v31, v32, v33, v34, v35, v36, v37, v38, v39, v40, v41, v42, v43, v44, v45, v46, v47, v48, v49, v50, v51, v52, v53, v54, v55, v56, v57, v58, v59, v60, v61, v62, v63, v64, v65, v66, v67, v68, v69, v70, v71, v72, v73, v74, v75, v76, v77, v78, v79, v80, v81, v82, v83, v84, v85, v86, v87, v88, v89, v90, v91, v92, v93, v94, v95, v96, v97, v98, v99, v100, v101, v102, v103, v104, v105, v106, v107, v108, v109], defers := [{ target := .collected D, args := #[] }] } W1 := by
  have HK := Aside0.mk hK
  have HRET := Aside0.mk hret
  clear hK hret
  simp only [loop40, rest40, Tryz.f40, sr, sl, blk, Option.getD]
  go_loopg [11] (l.drop m1).length (fun gg s11 wr => ∃ (m : Nat) (A2 : Option Addr) (c2 : Nat) (Lacc : List (List Int)) (vL : Value), (l.drop m).length ≤ gg ∧ Aside0 (GetL m0 D G g N0 l W0 m A2 c2 Lacc vL wr))
  case atStart => exact ⟨m1, A1, c1, [], _, Nat.le_refl _, ⟨h0⟩⟩
  case round =>
    clear h0
    obtain ⟨m, A2, c2, Lacc, vL, hgg, HS⟩ := hrel
    have hlc : wr.cell? ⟨m0 + 1 + 1, 0, none⟩ = some (.slice A2 (l.drop m).length c2) := HS.out.lbox.cell
    obtain ⟨rest, hrest⟩ : ∃ rest, rest = l.drop m := ⟨_, rfl⟩
    have HR := Aside0.mk hrest
    rw [← hrest] at hlc hgg
    clear hrest
    by_cases hz : 0 < rest.length
    · have hzz : (0 : Int) < (rest.length : Int) := by omega
      have hrl : rest.length ≤ 4194304 := by rw [HR.out, List.length_drop]; omega
      have hCR : Kd.C (Kd.int .i64) wr A2 rest.length rest := by
        have h1 := C_drop_int (C_move hC (HS.out.old g hg.2 (by omega))) m
        rcases HS.out.addr with h2 | h2
        · rw [h2, HR.out]
          have h3 : (⟨g, m, none⟩ : Addr) = ⟨g, 0 + m, none⟩ := by rw [Nat.zero_add]
          rw [h3]; exact h1
        · rw [← HR.out] at h2
          rw [h2] at hz
          simp at hz
      have HI := Aside0.mk (Index_int A2 c2 rest 0 wr (by omega) hCR (by rw [HR.out]; exact HS.out.cap))
      have hc := (HS.out.old m0 (by omega) (by omega)).trans hc0
      have he := (HS.out.old (m0 + 1) (by omega) (by omega)).trans he0
      have hcv : wr.cell? ⟨G, 1, none⟩ = some vL := by simp [World.cell?, HS.out.cbox]
      have hgc0 : wr.cell? ⟨G, 0, none⟩ = some (.int .i64 N0) := by simp [World.cell?, HS.out.cbox]
      have hgf : wr.frozen? ⟨G, 1, none⟩ = false := by simp [World.frozen?, HS.out.cbox]
      have hk0 : wr.cell? ⟨m0, 0, none⟩ = some (.int .i64 0) := by simp [World.cell?, hc]
      have hk1 : wr.cell? ⟨m0, 1, none⟩ = some (.slice none 0 0) := by simp [World.cell?, hc]
      have hf0 : wr.frozen? ⟨m0, 0, none⟩ = false := by simp [World.frozen?, hc]
      have hf1 : wr.frozen? ⟨m0, 1, none⟩ = false := by simp [World.frozen?, hc]
      have hec : wr.cell? ⟨m0 + 1, 0, none⟩ = some (.int .i64 0) := Boxed.cell he
      have hef : wr.frozen? ⟨m0 + 1, 0, none⟩ = false := Boxed.frozen he
      have hlf : wr.frozen? ⟨m0 + 1 + 1, 0, none⟩ = false := HS.out.lbox.frozen
      clear hc he
      cases hf : rest.findIdx? (· == 0) with
      | none =>
        have hix : idxI rest 0 = -1 := by unfold idxI; rw [hf]
        rw [hix] at HI
        have HFN := Aside0.mk hf
        clear hf hix
        go_wp2_with (go_at_call 96; refine (HI.out).mono ?_; rintro e w' ⟨rfl, q, rfl⟩)
        refine HRET.out m A2 c2 Lacc vL wr q _ HS.out ?_ rfl rfl
        obtain ⟨f, hfl, hcl⟩ := HS.out.cl
        rw [← HR.out] at hfl hcl
        have hne : rest ≠ [] := fun e => by rw [e] at hz; simp at hz
        rw [hcl, clausesOf_none (by omega) HFN.out, if_neg hne]
        rfl
      | some j => 
        have hix : idxI rest 0 = (j : Int) := by unfold idxI; rw [hf]
        rw [hix] at HI
        have HFN := Aside0.mk hf
        clear hf hix
        go_wp2_with (go_at_call 96; refine (HI.out).mono ?_; rintro e w' ⟨rfl, q, rfl⟩)
        obtain ⟨hjl, hjz, hjf⟩ := List.findIdx?_eq_some_iff_getElem.1 HFN.out
        have hj0 : (0 : Int) ≤ (j : Int) := by omega
        have hj1 : (j : Int) < (rest.length : Int) := by omega
        have hcc : rest.length ≤ c2 := by rw [HR.out]; exact HS.out.cap
        have hj2 : (j : Int) ≤ (c2 : Int) := by omega
        have htl : (rest.take j).length = j := by rw [List.length_take]; omega
        have HCL : Aside0 (∀ W, Below wr.heap.size wr W → Calls Tryz.prog 62 #[.slice A2 j c2] W fun e w' => ∃ v, e = .returned v ∧ RI w' W.heap.size v (rest.take j) ∧ Below W.heap.size W w') := ⟨fun W hb => by
          have := Clone_int A2 c2 (rest.take j) W (C_take_int (Kd.C_below hCR hb) j (by omega)) (by omega) (by omega)
          rw [htl] at this
          exact this⟩
        have HJ := Aside0.mk (And.intro hjl htl)
        obtain ⟨cn, hcn⟩ : ∃ cn, cn = rest.take j := ⟨_, rfl⟩
        rw [← hcn] at HCL
        have HCN := Aside0.mk hcn
        clear hcn
        clear hjz hjf htl hjl HI
        have hGw : G < wr.heap.size := Nat.lt_of_lt_of_le hGs HS.out.size
        have hmw : m0 + 1 + 1 < wr.heap.size := by omega
        have hmg : m0 + 1 + 1 < G + 1 := by omega
        have hmne : ¬ (m0 + 1 + 1 = G) := by omega
        have hmne2 : ¬ (G = m0 + 1 + 1) := by omega
        have HVL : Aside0 (∀ k, vL.ownBlock = some k → k < wr.heap.size) := ⟨fun k hk => by
          obtain ⟨inner, ho⟩ := Kd.R_own (Kd.S_R HS.out.acc)
          exact own_lt ho k hk⟩
        have hj3 : (j : Int) + 1 ≤ (rest.length : Int) := by omega
        have hj4 : (j : Int) + 1 ≤ (c2 : Int) := by omega
        have hj5 : (0 : Int) ≤ (j : Int) + 1 := by omega
        all_goals
         refine wp_region_noPanic ?_
         go_region_law
           (first
             | (go_simp; go_at_call 62; refine (HCL.out _ ?a1).mono ?_; (case a1 => repeat (first | exact Below.refl _ _ | refine pw_below_drewN ?_ _ | refine below_drew ?_)); rintro e w1 ⟨vq, rfl, hRq, hbq⟩; obtain ⟨Aq, cq, rfl⟩ := Kd.R_slice hRq; have hcv1 : w1.cell? ⟨G, 1, none⟩ = some vL := pw_cell_below hbq (by simpa using hcv); have hlc1 : w1.cell? ⟨m0 + 1 + 1, 0, none⟩ = some (.slice A2 rest.length c2) := pw_cell_below hbq (by simpa using hlc); have hcva : ∀ o, (w1.alloc o).cell? ⟨G, 1, none⟩ = some vL := fun o => pw_cell_below (below_alloc (Below.refl _ _) o) hcv1; have HRQ := Aside0.mk hRq; have HBQ := Aside0.mk hbq; have HSQ := Aside0.mk (Kd.S_elder' (v := .slice Aq cn.length cq) (by (with_reducible repeat (first | apply Kd.S_alloc | apply Kd.S_drewN | apply Kd.S_drew)); exact HS.out.acc) (Kd.R_base hRq) hbq); have HBW : Aside0 (Below wr.heap.size wr w1) := ⟨below_step (by repeat (first | exact Below.refl _ _ | refine pw_below_drewN ?_ _ | refine below_drew ?_)) hbq⟩; have HBASE : Aside0 (∀ k, (Value.slice Aq cn.length cq).ownBlock = some k → wr.heap.size ≤ k) := ⟨Kd.R_base hRq⟩; clear hRq hbq)
             | ((refine Kd.S_append_step (w0 := wr) (Kd.slice 3 (Kd.int .i64)) (G + 1) (by rfl) (.tmp 85) (.tmp 90) 22 25 (.slice none 0 0) 24 (by rfl) Tryz.underlying22 info25 rfl (by decide) (by decide) vL Lacc cn [.slice Aq cn.length cq] (fun _ => True) (fun k => some k = (Value.slice Aq cn.length cq).ownBlock) (by rfl) (by rfl) ?b1 ?b2 ?b3 ?b4 ?b5 ?b6 ?b7 ?_); (case b1 => exact ⟨_, rfl, Kd.R_lower (Kd.R_tight rfl HRQ.out) (by exact hGw)⟩); (case b2 => exact fun k hk => ⟨trivial, fun e => by have h1 := HBASE.out k hk.symm; have h2 := HVL.out k e.symm; omega⟩); (case b3 => exact fun _ _ => trivial); (case b4 => exact Kd.S_mono HSQ.out (fun k hk => ⟨trivial, fun e => hk.2 e⟩)); (case b5 => exact HBW.out.mono (by exact hGw)); (case b6 => exact Nat.le_trans hGw HBW.out.size); (case b7 => have := HS.out.few; omega); intro v2 w2 hS2 hB2 hG2 hat2; clear hG2 hat2; obtain ⟨LN, hLN⟩ : ∃ LN, LN = Lacc ++ [cn] := ⟨_, rfl⟩; rw [← hLN] at hS2; obtain ⟨Av, cv, rfl⟩ := Kd.S_slice hS2; have HLN := Aside0.mk hLN; clear hLN; have hcv2 : w2.cell? ⟨G, 1, none⟩ = some vL := (hB2.cell (p := ⟨G, 1, none⟩) (Nat.lt_succ_self _)).trans hcv; have hgf2 : w2.frozen? ⟨G, 1, none⟩ = false := (hB2.frozen (p := ⟨G, 1, none⟩) (Nat.lt_succ_self _)).trans hgf; have hlc2 : w2.cell? ⟨m0 + 1 + 1, 0, none⟩ = some (.slice A2 rest.length c2) := (hB2.cell (p := ⟨m0 + 1 + 1, 0, none⟩) hmg).trans hlc; have hlf2 : w2.frozen? ⟨m0 + 1 + 1, 0, none⟩ = false := (hB2.frozen (p := ⟨m0 + 1 + 1, 0, none⟩) hmg).trans hlf; have HS2 := Aside0.mk hS2; have HB2 := Aside0.mk hB2; clear hS2 hB2))
         all_goals refine NoPanic.normal ?_
         all_goals clear hcv hgc0 hlc hgf hlf
         all_goals go_wp2
         all_goals go_roundg (rest.length - (j + 1))
         all_goals first
           | (case measure => omega)
           | skip
         all_goals
           refine ⟨m + (j + 1), _, _, LN, _, ?_, ⟨GetL.next HS.out hg hGs HR.out HCN.out HLN.out HJ.out.1 HFN.out HB2.out HS2.out rfl ?_ ?_⟩⟩
           · rw [← List.drop_drop, ← HR.out, List.length_drop]; exact Nat.le_refl _
           · omega
           · first
             | exact .inl rfl
             | (right; omega)
    · have hzz : ¬ (0 : Int) < (rest.length : Int) := by omega
      go_wp2
      have hn : l.drop m = [] := by
        rw [← HR.out]
        exact List.eq_nil_of_length_eq_zero (by omega)
      refine HK.out m A2 c2 Lacc vL wr _ _ _ _ _ _ _ _ _ _ _ _ _ _ _ _ _ _ _ _ _ _ HS.out ?_
      obtain ⟨f, hfl, hcl⟩ := HS.out.cl
      rw [hcl, hn]
      cases f <;> simp [clausesOf]
end Go.Proofs.YtcdhhaedgohlgaaGreatDoor.P
end

section
namespace Go.Proofs.YtcdhhaedgohlgaaGreatDoor.P
open Go.RowKit Go.Shelf Go Go.Proofs.YtcdhhaedgohlgaaGreatDoorW.PrintWords Go.Proofs.YtcdhhaedgohlgaaGreatDoorW.PrintLast Go.Proofs.YtcdhhaedgohlgaaGreatDoorW.PrintMore
set_option maxRecDepth 100000
set_option linter.unusedVariables false

set_option maxHeartbeats 4000000 in
theorem behind40_wp (m0 D G g : Nat) (N0 N1 : Int) (l : List Int) (W0 : World) (m : Nat) (A2 : Option Addr) (c2 : Nat) (Lacc : List (List Int)) (vL : Value) (wr : World) (v0 v1 v5 v6 v7 v8 v11 v12 v13 v14 v15 v16 v17 v18 v19 v20 v21 v22 v23 v24 v25 v26 v27 v28 v29 v30 v31 v32 v33 v34 v35 v36 v37 v38 v39 v40 v41 v42 v43 v44 v45 v46 v47 v48 v49 v50 v51 v52 v53 v54 v55 v56 v57 v58 v59 v60 v61 v62 v63 v64 v65 v66 v67 v68 v69 v70 v71 v72 v73 v74 v75 v76 v77 v78 v79 v80 v81 v82 v83 v84 v85 v86 v87 v88 v89 v90 v91 v92 v93 v94 v95 v96 v97 v98 v99 v100 v101 v102 v103 v104 v105 v106 v107 v108 v109 : Value) (Q : Exit → Act → World → Prop)
    (hS : GetL m0 D G g N0 l W0 m A2 c2 Lacc vL wr) (hg : m0 + 5 ≤ g ∧ g < G) (hGs : G < W0.heap.size) (hl : l.length ≤ 4194304)
    (hc0 : W0.heap[m0]? = some (.cells #[.int .i64 0, .slice none 0 0] 24 (0, 0))) (he0 : Boxed W0 (m0 + 1) 32 (.int .i64 0))
    (hz : ∀ (tmps : Array Value) (w1 : World) (e : Int), Below wr.heap.size wr w1 → ((e = 11 ∧ (Lacc.length : Int) ≠ N1) ∨ ((Lacc.length : Int) = N1 ∧ e = checkV N0 Lacc ∧ e ≠ 0)) → tmps.getD 2 undef = .pointer (some ⟨m0, 0, none⟩) → tmps.getD 3 undef = .pointer (some ⟨m0 + 1, 0, none⟩) →
      Q .ret { tmps := tmps, defers := [{ target := .collected D, args := #[] }] } (((w1.setCell ⟨m0, 0, none⟩ (.int .i64 0)).setCell ⟨m0, 1, none⟩ (.slice none 0 0)).setCell ⟨m0 + 1, 0, none⟩ (.int .i64 e)))
    (hok : ∀ (tmps : Array Value) (w1 : World), Below wr.heap.size wr w1 → (Lacc.length : Int) = N1 → checkV N0 Lacc = 0 → tmps.getD 2 undef = .pointer (some ⟨m0, 0, none⟩) → tmps.getD 3 undef = .pointer (some ⟨m0 + 1, 0, none⟩) →
      Q .ret { tmps := tmps, defers := [{ target := .collected D, args := #[] }] } (((w1.setCell ⟨m0, 0, none⟩ (.int .i64 N0)).setCell ⟨m0, 1, none⟩ vL).setCell ⟨m0 + 1, 0, none⟩ (.int .i64 0))) :
    behind40.wp Tryz.prog Q { tmps := #[v0, v1, .pointer (some ⟨m0, 0, none⟩), .pointer (some ⟨m0 + 1, 0, none⟩), .pointer (some ⟨m0 + 1 + 1, 0, none⟩), v5, v6, v7, v8, .pointer (some ⟨G, 0, none⟩), .int .i64 N1, v11, v12, v13, v14, v15, v16, v17, v18, v19, v20, v21, v22, v23, v24, v25, v26, v27, v28, v29, v30, v31, v32, v33, v34, v35, v36, v37, v38, v39, v40, v41, v42, v43, v44, v45, v46, v47, v48, v49, v50, v51, v52, v53, v54, v55, v56, v57, v58, v59, v60, v61, v62, v63, v64, v65, v66, v67, v68, v69, v70, v71, v72, v73, v74, v75, v76, v77, v78, v79, v80, v81, v82, v83, v84, v85, v86, v87, v88, v89, v90, v91, v92, v93, v94, v95, v96, v97, v98, v99, v100, v101, v102, v103, v104, v105, v106, v107, v108, v109], defers := [{ target := .collected D, args := #[] }] } wr := by
  obtain ⟨AL, cL, rfl, hcl, hrd⟩ := Kd.S_reads hS.acc
  have HZ := Aside0.mk hz
  have HOK := Aside0.mk hok
  have hc := (hS.old m0 (by omega) (by omega)).trans hc0
  have he : Boxed wr (m0 + 1) 32 (.int .i64 0) := (hS.old (m0 + 1) (by omega) (by omega)).trans he0
  have hlen : Lacc.length ≤ 4194304 := by have := hS.few; omega
  have hk0 : wr.cell? ⟨m0, 0, none⟩ = some (.int .i64 0) := by simp [World.cell?, hc]
  have hk1 : wr.cell? ⟨m0, 1, none⟩ = some (.slice none 0 0) := by simp [World.cell?, hc]
  have hf0 : wr.frozen? ⟨m0, 0, none⟩ = false := by simp [World.frozen?, hc]
  have hf1 : wr.frozen? ⟨m0, 1, none⟩ = false := by simp [World.frozen?, hc]
  have hec : wr.cell? ⟨m0 + 1, 0, none⟩ = some (.int .i64 0) := he.cell
  have hef : wr.frozen? ⟨m0 + 1, 0, none⟩ = false := he.frozen
  have hg0 : wr.cell? ⟨G, 0, none⟩ = some (.int .i64 N0) := by simp [World.cell?, hS.cbox]
  have hg1 : wr.cell? ⟨G, 1, none⟩ = some (.slice AL Lacc.length cL) := by simp [World.cell?, hS.cbox]
  have hs := hS.size
  have HCK := Aside0.mk (cnf_Check.calls N0 AL cL Lacc (checkV N0 Lacc) wr hrd hcl rfl)
  have HS := Aside0.mk hS
  clear hz hok hc he hrd hcl hc0 he0 hS
  simp only [behind40, rest40, Tryz.f40, sr, sl, blk, Option.getD]
  by_cases hn : (Lacc.length : Int) = N1
  · have hnb : ((Lacc.length : Int) != N1) = false := by simp [hn]
    have HN := Aside0.mk hn
    clear hn
    by_cases hcz : checkV N0 Lacc = 0
    · have HCZ := Aside0.mk hcz
      rw [hcz] at HCK
      clear hcz
      go_wp2_with (go_at_call 26; refine (HCK.out).mono ?_; rintro e w1 ⟨rfl, hb⟩; have b0 := pw_cell_below hb hk0; have b1 := pw_cell_below hb hk1; have b2 := pw_cell_below hb hec; have b3 := pw_cell_below hb hg0; have b4 := pw_cell_below hb hg1; have c0 : w1.frozen? ⟨m0, 0, none⟩ = false := (hb.frozen (p := ⟨m0, 0, none⟩) (by show m0 < _; omega)).trans hf0; have c1 : w1.frozen? ⟨m0, 1, none⟩ = false := (hb.frozen (p := ⟨m0, 1, none⟩) (by show m0 < _; omega)).trans hf1; have c2 : w1.frozen? ⟨m0 + 1, 0, none⟩ = false := (hb.frozen (p := ⟨m0 + 1, 0, none⟩) (by show m0 + 1 < _; omega)).trans hef; have HB := Aside0.mk hb; clear hb)
      exact HOK.out _ w1 HB.out HN.out HCZ.out rfl rfl
    · have HCZ := Aside0.mk hcz
      generalize hcv : checkV N0 Lacc = cz at *
      have HCV := Aside0.mk hcv
      have hczb : (cz != 0) = true := by simp [hcz]
      have hcze : (cz == 0) = false := by simp [hcz]
      clear hcz hcv
      go_wp2_with (go_at_call 26; refine (HCK.out).mono ?_; rintro e w1 ⟨rfl, hb⟩; have b0 := pw_cell_below hb hk0; have b1 := pw_cell_below hb hk1; have b2 := pw_cell_below hb hec; have b3 := pw_cell_below hb hg0; have b4 := pw_cell_below hb hg1; have c0 : w1.frozen? ⟨m0, 0, none⟩ = false := (hb.frozen (p := ⟨m0, 0, none⟩) (by show m0 < _; omega)).trans hf0; have c1 : w1.frozen? ⟨m0, 1, none⟩ = false := (hb.frozen (p := ⟨m0, 1, none⟩) (by show m0 < _; omega)).trans hf1; have c2 : w1.frozen? ⟨m0 + 1, 0, none⟩ = false := (hb.frozen (p := ⟨m0 + 1, 0, none⟩) (by show m0 + 1 < _; omega)).trans hef; have HB := Aside0.mk hb; clear hb)
      exact HZ.out _ w1 cz HB.out (.inr ⟨HN.out, rfl, HCZ.out⟩) rfl rfl
  · have hnb : ((Lacc.length : Int) != N1) = true := by simp [hn]
    have HN := Aside0.mk hn
    clear hn
    go_wp2
    exact HZ.out _ wr 11 (Below.refl _ _) (.inl ⟨rfl, HN.out⟩) rfl rfl
end Go.Proofs.YtcdhhaedgohlgaaGreatDoor.P
end

section
namespace Go.Proofs.YtcdhhaedgohlgaaGreatDoor.P
open Go.RowKit Go.Shelf Go.Proofs.YtcdhhaedgohlgaaGreatDoorW.PrintWords Go.Proofs.YtcdhhaedgohlgaaGreatDoorW.PrintLast Go.Proofs.YtcdhhaedgohlgaaGreatDoorW.PrintMore
set_option linter.unusedVariables false
set_option linter.unusedSimpArgs false
set_option maxRecDepth 100000
attribute [local go_sem] Oper.semAt_some

theorem wpListIn_append_at {F : Fence} {n : Nat} {P : Program} (w : World) {ops : Array Oper} {rest : List Oper} {o : Oper} {a : Act} {Q : Exit → Act → World → Prop}
    (hg : o.guard = none) (s x : Operand) (t : TypeId) (hop : o.op = Op.call { callee := Callee.builtin Builtin.append, args := #[s, x], argTypes := #[t, t] })
    (base : Nat) (e : TypeId) (i : TypeInfo) (z : Value) (size bytes : Nat) (h1 : P.underlying t = some (.slice e)) (h2 : P.info? e = some i) (h3 : i.zero = some z) (h4 : i.size = size) (h5 : i.bytes = bytes) (h6 : z.cells.size = size) (h7 : 0 < size)
    (v : Value) (k : Nat) (xs : List Value) (hs : a.eval s = v) (hown : w.ownsRow base e size v k xs) (ad : Addr) (m c : Nat) (news : List Value) (hx : a.eval x = .slice (some ad) m c) (hn : news.length = m * size)
    (hc : ∀ j u, news[j]? = some u → w.cell? (ad.add j) = some u) (h1c : ∀ u ∈ news, u.oneCell' = true) (b1 : k + m ≤ maxLen) (b2 : (k + m) * bytes ≤ 140737488355328) (b3 : base ≤ w.heap.size)
    (hK : ∀ v' w', w'.ownsRow base e size v' (k + m) (xs ++ news) → w.grownBy w' v.ownBlock → (v'.ownBlock = v.ownBlock ∨ v'.ownBlock = some w.heap.size) → wpListIn F n P ops Q rest (a.put o.dst v') w') :
    wpListIn F n P ops Q (o :: rest) a w := by
  refine wpListIn_plain hg fun K hK' => ?_
  obtain ⟨v', w', hrun, r1, r2, _, r3⟩ := run_append_own_at (P := P) w base t o.type e i z size bytes h1 h2 h3 h4 h5 h6 h7 v k xs hown ad m c news hn hc h1c b1 b2 b3
  unfold Oper.wpIn
  refine ⟨?_, ?_⟩
  · simp [Oper.about, hop, resolve, Target.leads, Sem.run_pure]
  · rw [Oper.semAt_plain F _ _ (by rw [hop]; intro c hc'; cases hc')]
    simp [execOp, hop, resolve, invoke, builtin, hs, hx, hrun, Result.andThen]
    exact hK' _ _ (hK v' w' r1 r2 r3)

/-- What stands in the loop's cells when i words are read. -/
structure GetI (w0 : World) (ws : List (List UInt8)) (X : Nat → Prop) (i : Nat) (W : World) : Prop where
  below : Below w0.heap.size w0 W
  apart : ∀ k, X k → w0.heap.size + 4 ≤ k
  c : W.heap[w0.heap.size]? = some (.cells #[.int .i64 0, .slice none 0 0] 24 (0, 0))
  e : Boxed W (w0.heap.size + 1) 32 (.int .i64 0)
  at_ : Boxed W (w0.heap.size + 3) 3 (.int .i64 i)
  ok : ∀ j u, j < i → ws[j]? = some u → okAt j u = true
  fin : ∀ k, X k → k < W.heap.size
  fin5 : w0.heap.size + 5 ≤ W.heap.size
  row : ∃ v, Boxed W (w0.heap.size + 2) 25 v ∧ W.ownsRow (w0.heap.size + 5) 3 1 v (numsV (ws.take i)).length ((numsV (ws.take i)).map (Value.int .i64)) ∧ (∀ k, v.ownBlock = some k → ¬ X k)

theorem GetI.cell0 {w0 : World} {ws : List (List UInt8)} {X : Nat → Prop} {i : Nat} {W : World} (h : GetI w0 ws X i W) : W.cell? ⟨w0.heap.size, 0, none⟩ = some (.int .i64 0) := by simp [World.cell?, h.c]
theorem GetI.cell1 {w0 : World} {ws : List (List UInt8)} {X : Nat → Prop} {i : Nat} {W : World} (h : GetI w0 ws X i W) : W.cell? ⟨w0.heap.size, 1, none⟩ = some (.slice none 0 0) := by simp [World.cell?, h.c]
theorem GetI.froz0 {w0 : World} {ws : List (List UInt8)} {X : Nat → Prop} {i : Nat} {W : World} (h : GetI w0 ws X i W) : W.frozen? ⟨w0.heap.size, 0, none⟩ = false := by simp [World.frozen?, h.c]
theorem GetI.froz1 {w0 : World} {ws : List (List UInt8)} {X : Nat → Prop} {i : Nat} {W : World} (h : GetI w0 ws X i W) : W.frozen? ⟨w0.heap.size, 1, none⟩ = false := by simp [World.frozen?, h.c]
theorem GetI.closed (w0 : World) (ws : List (List UInt8)) : ClosedX (GetI w0 ws) := by
  rintro X i A B ⟨h1, h2, h3, h4, h5, h6, h10, h11, v, h7, h8, h9⟩ hst
  have hsz := (Array.getElem?_eq_some_iff.1 h3).1
  have hk : ∀ k, k < A.heap.size → ¬ w0.heap.size + 4 ≤ k → B.heap[k]? = A.heap[k]? := fun k hk hx => hst.keep k hk (fun h => hx (h2 k h))
  refine ⟨⟨hst.os.trans h1.os, hst.tape.trans h1.tape, hst.output.trans h1.output, Nat.le_trans h1.size hst.size, fun k hk' => (hk k (by omega) (by omega)).trans (h1.block k hk')⟩, ?_, (hk _ hsz (by omega)).trans h3, (hk _ h4.lt (by omega)).trans h4, (hk _ h5.lt (by omega)).trans h5, h6, fun k h => h.elim (fun h => Nat.lt_of_lt_of_le (h10 k h) hst.size) (fun h => h.2), Nat.le_trans h11 hst.size, v, (hk _ h7.lt (by omega)).trans h7, ?_, ?_⟩
  · rintro k (h | h)
    · exact h2 k h
    · have := h5.lt; omega
  · exact own_move h8 (fun k e => by
      obtain ⟨cells, hc⟩ := own_typed h8 k e
      exact hst.keep k (Array.getElem?_eq_some_iff.1 hc).1 (h9 k e))
  · rintro k e (h | h)
    · exact h9 k e h
    · obtain ⟨cells, hc⟩ := own_typed h8 k e
      have := (Array.getElem?_eq_some_iff.1 hc).1
      omega

theorem conv_CB {w : World} {A : Option Addr} {u : List UInt8} (c : Nat) (h : CB w A u) (hp : 0 < u.length) : (convert 41 9 (.slice A u.length c)).run Tryz.prog w = .ok (.string ⟨u.toArray⟩) w := by
  obtain ⟨ad, rfl, hc⟩ := h.some_ hp
  exact run_convert_bytes_back w 41 9 5 ad c u Tryz.underlying41 Tryz.underlying5 Tryz.underlying9 (fun j hj => hc j hj)

theorem heap_set_same {w : World} {b : Nat} {cs : Array Value} {t : TypeId} (h : w.heap[b]? = some (.cells cs t (0, 0))) (o : Nat) (v : Value) : (w.setCell ⟨b, o, none⟩ v).heap[b]? = some (.cells (cs.setIfInBounds o v) t (0, 0)) := by
  obtain ⟨hlt, hk⟩ := Array.getElem?_eq_some_iff.1 h
  show (w.heap.modify b _)[b]? = _
  rw [Array.getElem?_eq_getElem (by rw [Array.size_modify]; exact hlt), Array.getElem_modify_self, hk]
  rfl
theorem heap_set_other {w : World} {b k o : Nat} (v : Value) (h : k ≠ b) : (w.setCell ⟨b, o, none⟩ v).heap[k]? = w.heap[k]? := Below.heap_setCell _ _ _ k h
theorem below_set_from {B : Nat} {w0 w : World} (h : Below B w0 w) {b o : Nat} (v : Value) (hb : B ≤ b) : Below B w0 (w.setCell ⟨b, o, none⟩ v) :=
  ⟨h.os, h.tape, h.output, by rw [size_set]; exact h.size, fun k hk => (heap_set_other v (by omega)).trans (h.block k hk)⟩
theorem keepX_set {n₀ : Nat} {X : Nat → Prop} {A B : World} (h : KeepX n₀ X A B) {b o : Nat} (v : Value) (hb : n₀ ≤ b) (hX : ¬ X b) : KeepX n₀ X A (B.setCell ⟨b, o, none⟩ v) :=
  ⟨h.os, h.tape, h.output, by rw [size_set]; exact h.size, fun k hk hx => (heap_set_other v (fun e => by
    subst e
    rcases hx with hx | hx
    · omega
    · exact hX hx)).trans (h.keep k hk hx)⟩
theorem keepX_below {n₀ : Nat} {X : Nat → Prop} {A B : World} (h : Below A.heap.size A B) : KeepX n₀ X A B := ⟨h.os, h.tape, h.output, h.size, fun k hk _ => h.block k hk⟩

/-- What stands in the cells where the return is taken in the loop. -/
structure GetX (w0 : World) (ws : List (List UInt8)) (X : Nat → Prop) (W : World) : Prop where
  below : Below w0.heap.size w0 W
  apart : ∀ k, X k → w0.heap.size + 4 ≤ k
  c : W.heap[w0.heap.size]? = some (.cells #[.int .i64 0, .slice none 0 0] 24 (0, 0))
  e : Boxed W (w0.heap.size + 1) 32 (.int .i64 11)
  bad : ∃ i u, ws[i]? = some u ∧ okAt i u = false
  sz : w0.heap.size + 4 ≤ W.heap.size
theorem GetX.closed (w0 : World) (ws : List (List UInt8)) : ClosedX (fun X _ W => GetX w0 ws X W) := by
  rintro X i A B ⟨h1, h2, h3, h4, h5, h6⟩ hst
  have hsz := (Array.getElem?_eq_some_iff.1 h3).1
  have hk : ∀ k, k < A.heap.size → ¬ w0.heap.size + 4 ≤ k → B.heap[k]? = A.heap[k]? := fun k hk hx => hst.keep k hk (fun h => hx (h2 k h))
  refine ⟨⟨hst.os.trans h1.os, hst.tape.trans h1.tape, hst.output.trans h1.output, Nat.le_trans h1.size hst.size, fun k hk' => (hk k (by omega) (by omega)).trans (h1.block k hk')⟩, ?_, (hk _ hsz (by omega)).trans h3, (hk _ h4.lt (by omega)).trans h4, h5, Nat.le_trans h6 hst.size⟩
  rintro k (h | h)
  · exact h2 k h
  · omega

/-- The return out of the loop: a word is wrong. -/
theorem GetI.fail {w0 : World} {ws : List (List UInt8)} {X X1 : Nat → Prop} {i : Nat} {u : List UInt8} {W w1 : World} (h : GetI w0 ws X1 i w1) (hX : ∀ k, X k → X1 k) (hk : KeepX w0.heap.size X W w1) (hu : ws[i]? = some u) (ho : okAt i u = false) :
    KeepX w0.heap.size X W (((w1.setCell ⟨w0.heap.size, 0, none⟩ (.int .i64 0)).setCell ⟨w0.heap.size, 1, none⟩ (.slice none 0 0)).setCell ⟨w0.heap.size + 1, 0, none⟩ (.int .i64 11)) ∧
    GetX w0 ws X (((w1.setCell ⟨w0.heap.size, 0, none⟩ (.int .i64 0)).setCell ⟨w0.heap.size, 1, none⟩ (.slice none 0 0)).setCell ⟨w0.heap.size + 1, 0, none⟩ (.int .i64 11)) := by
  have hx0 : ¬ X w0.heap.size := fun hx => by have := h.apart _ (hX _ hx); omega
  have hx1 : ¬ X (w0.heap.size + 1) := fun hx => by have := h.apart _ (hX _ hx); omega
  have hc2 := heap_set_same (heap_set_same h.c 0 (.int .i64 0)) 1 (.slice none 0 0)
  refine ⟨keepX_set (keepX_set (keepX_set hk _ (Nat.le_refl _) hx0) _ (Nat.le_refl _) hx0) _ (by omega) hx1, below_set_from (below_set_from (below_set_from h.below _ (Nat.le_refl _)) _ (Nat.le_refl _)) _ (by omega), fun k hk => h.apart k (hX k hk), ?_, ?_, ⟨i, u, hu, ho⟩, ?_⟩
  · rw [heap_set_other _ (by omega)]
    exact hc2
  · have he : Boxed ((w1.setCell ⟨w0.heap.size, 0, none⟩ (.int .i64 0)).setCell ⟨w0.heap.size, 1, none⟩ (.slice none 0 0)) (w0.heap.size + 1) 32 (.int .i64 0) := by
      exact (heap_set_other _ (by omega)).trans ((heap_set_other _ (by omega)).trans h.e)
    exact he.set _
  · rw [size_set, size_set, size_set]
    have := h.at_.lt
    omega
/-- A word is right, and no number is kept (the first two). -/
theorem GetI.next {w0 : World} {ws : List (List UInt8)} {X X1 : Nat → Prop} {i : Nat} {u : List UInt8} {W w1 : World} (h : GetI w0 ws X1 i w1) (hX : ∀ k, X k → X1 k) (hk : KeepX w0.heap.size X W w1) (hu : ws[i]? = some u) (ho : okAt i u = true) (hi : i < 2) :
    KeepX w0.heap.size X W (w1.setCell ⟨w0.heap.size + 3, 0, none⟩ (.int .i64 ((i + 1 : Nat) : Int))) ∧ GetI w0 ws X (i + 1) (w1.setCell ⟨w0.heap.size + 3, 0, none⟩ (.int .i64 ((i + 1 : Nat) : Int))) := by
  have hx3 : ¬ X (w0.heap.size + 3) := fun hx => by have := h.apart _ (hX _ hx); omega
  obtain ⟨v, hv, hr, hn⟩ := h.row
  have hnil : numsV (ws.take i) = [] := by unfold numsV; rw [List.drop_eq_nil_of_le (by rw [List.length_take]; omega)]; rfl
  have hnil2 : numsV (ws.take (i + 1)) = [] := by unfold numsV; rw [List.drop_eq_nil_of_le (by rw [List.length_take]; omega)]; rfl
  refine ⟨keepX_set hk _ (by omega) hx3, below_set_from h.below _ (by omega), fun k hk => h.apart k (hX k hk), (heap_set_other _ (by omega)).trans h.c, (heap_set_other _ (by omega)).trans h.e, h.at_.set _, ?_, fun k hk => by rw [size_set]; exact h.fin k (hX k hk), by rw [size_set]; exact h.fin5, v, (heap_set_other _ (by omega)).trans hv, ?_, fun k e hx => hn k e (hX k hx)⟩
  · intro j t hj ht
    by_cases e : j = i
    · subst e
      rw [hu] at ht
      injection ht with ht
      rw [← ht]; exact ho
    · exact h.ok j t (by omega) ht
  · rw [hnil2]
    rw [hnil] at hr
    exact own_move hr (fun k e => heap_set_other _ (fun e' => by have := own_base hr k e; omega))

theorem GetI.kept {w0 : World} {ws : List (List UInt8)} {X : Nat → Prop} {i : Nat} {w1 w2 : World} {v : Value} {tmp : Obj} {k : Nat} {xs : List Value} (h : GetI w0 ws X i w1) (hr : w1.ownsRow (w0.heap.size + 5) 3 1 v k xs) (hg : (w1.alloc tmp).grownBy w2 v.ownBlock) :
    ∀ (b : Nat) (t : TypeId) (u : Value), Boxed w1 b t u → b < w0.heap.size + 5 → Boxed w2 b t u := by
  intro b t u hb hlt
  have hsa : (w1.alloc tmp).heap.size = w1.heap.size + 1 := by simp
  have := hb.lt
  exact ((hg.block b (by omega) (fun e => by have := own_base hr b e.symm; omega)).trans (Below.heap_alloc w1 tmp b this)).trans hb
theorem numsV_succ {ws : List (List UInt8)} {i : Nat} {u : List UInt8} (hu : ws[i]? = some u) (hi : 2 ≤ i) : numsV (ws.take (i + 1)) = numsV (ws.take i) ++ [(numV u).1] := by
  have hl := (List.getElem?_eq_some_iff.1 hu).1
  unfold numsV
  rw [List.take_add_one, hu, List.drop_append_of_le_length (by rw [List.length_take]; omega), List.map_append]
  rfl
/-- A word is right, and its number is kept. -/
theorem GetI.push {w0 : World} {ws : List (List UInt8)} {X X1 : Nat → Prop} {i : Nat} {u : List UInt8} {W w1 w2 : World} {v v' : Value} {tmp : Obj} (h : GetI w0 ws X1 i w1) (hX : ∀ k, X k → X1 k) (hk : KeepX w0.heap.size X W w1) (hu : ws[i]? = some u) (ho : okAt i u = true) (hi : 2 ≤ i)
    (hv : Boxed w1 (w0.heap.size + 2) 25 v) (hr : w1.ownsRow (w0.heap.size + 5) 3 1 v (numsV (ws.take i)).length ((numsV (ws.take i)).map (Value.int .i64))) (hn : ∀ k, v.ownBlock = some k → ¬ X1 k)
    (hown : w2.ownsRow (w0.heap.size + 5) 3 1 v' ((numsV (ws.take i)).length + 1) ((numsV (ws.take i)).map (Value.int .i64) ++ [.int .i64 (numV u).1])) (hg : (w1.alloc tmp).grownBy w2 v.ownBlock) (hat : v'.ownBlock = v.ownBlock ∨ v'.ownBlock = some (w1.alloc tmp).heap.size) :
    KeepX w0.heap.size X W ((w2.setCell ⟨w0.heap.size + 2, 0, none⟩ v').setCell ⟨w0.heap.size + 3, 0, none⟩ (.int .i64 ((i + 1 : Nat) : Int))) ∧ GetI w0 ws X (i + 1) ((w2.setCell ⟨w0.heap.size + 2, 0, none⟩ v').setCell ⟨w0.heap.size + 3, 0, none⟩ (.int .i64 ((i + 1 : Nat) : Int))) := by
  have hx2 : ¬ X (w0.heap.size + 2) := fun hx => by have := h.apart _ (hX _ hx); omega
  have hx3 : ¬ X (w0.heap.size + 3) := fun hx => by have := h.apart _ (hX _ hx); omega
  have hsa : (w1.alloc tmp).heap.size = w1.heap.size + 1 := by simp
  have hs2 : w1.heap.size ≤ w2.heap.size := by have := hg.size; omega
  have old : ∀ k, k < w1.heap.size → some k ≠ v.ownBlock → w2.heap[k]? = w1.heap[k]? := fun k hk hne => (hg.block k (by omega) hne).trans (Below.heap_alloc w1 tmp k hk)
  have hne : ∀ k, k < w0.heap.size + 5 → some k ≠ v.ownBlock := fun k hk e => by have := own_base hr k e.symm; omega
  have hlt3 := h.at_.lt
  have hvX : ∀ k, v'.ownBlock = some k → ¬ X k := by
    intro k e hx
    rcases hat with e2 | e2
    · exact hn k (by rw [← e2]; exact e) (hX k hx)
    · have := h.fin k (hX k hx)
      rw [e2] at e
      injection e with e
      omega
  have hkX : KeepX w0.heap.size X w1 w2 := ⟨hg.os, hg.tape, hg.output, hs2, fun k hk hx => old k hk (fun e => by
    rcases hx with hx | hx
    · exact hne k (by omega) e
    · exact hn k e.symm (hX k hx))⟩
  have hB2 : Below w0.heap.size w0 w2 := ⟨hg.os.trans h.below.os, hg.tape.trans h.below.tape, hg.output.trans h.below.output, Nat.le_trans h.below.size hs2, fun k hk => (old k (by have := h.below.size; omega) (hne k (by omega))).trans (h.below.block k hk)⟩
  have hb0 := (old _ (by omega) (hne w0.heap.size (by omega))).trans h.c
  have hb1 : Boxed w2 (w0.heap.size + 1) 32 (.int .i64 0) := (old _ (by omega) (hne _ (by omega))).trans h.e
  have hb2 : Boxed w2 (w0.heap.size + 2) 25 v := (old _ (by omega) (hne _ (by omega))).trans hv
  have hb3 : Boxed w2 (w0.heap.size + 3) 3 (.int .i64 i) := (old _ (by omega) (hne _ (by omega))).trans h.at_
  have hb3' : Boxed (w2.setCell ⟨w0.heap.size + 2, 0, none⟩ v') (w0.heap.size + 3) 3 (.int .i64 i) := (heap_set_other _ (by omega)).trans hb3
  refine ⟨keepX_set (keepX_set (hk.trans hkX) _ (by omega) hx2) _ (by omega) hx3, below_set_from (below_set_from hB2 _ (by omega)) _ (by omega), fun k hk => h.apart k (hX k hk), (heap_set_other _ (by omega)).trans ((heap_set_other _ (by omega)).trans hb0), (heap_set_other _ (by omega)).trans ((heap_set_other _ (by omega)).trans hb1), hb3'.set _, ?_, fun k hk => by rw [size_set, size_set]; exact Nat.lt_of_lt_of_le (h.fin k (hX k hk)) hs2, by rw [size_set, size_set]; exact Nat.le_trans h.fin5 hs2, v', (heap_set_other _ (by omega)).trans (hb2.set v'), ?_, hvX⟩
  · intro j t hj ht
    by_cases e : j = i
    · subst e
      rw [hu] at ht
      injection ht with ht
      rw [← ht]; exact ho
    · exact h.ok j t (by omega) ht
  · rw [numsV_succ hu hi, List.length_append, List.map_append]
    exact own_move hown (fun k e => by
      have := own_base hown k e
      rw [heap_set_other _ (by omega), heap_set_other _ (by omega)])

theorem fieldsV_len (A : Option Addr) (bs : List UInt8) : ∀ (r : List UInt8) (i : Nat) (st : Option Nat), (fieldsV A bs r i st).length ≤ r.length + (if st.isSome then 1 else 0)
  | [], i, none => Nat.le_refl _
  | [], i, some s => Nat.le_refl _
  | b :: r, i, none => by
    show (if isSp b then fieldsV A bs r (i + 1) none else fieldsV A bs r (i + 1) (some i)).length ≤ _
    have h1 := fieldsV_len A bs r (i + 1) none
    have h2 := fieldsV_len A bs r (i + 1) (some i)
    simp at h1 h2 ⊢
    split <;> omega
  | b :: r, i, some s => by
    show (if isSp b then fieldX A bs s i :: fieldsV A bs r (i + 1) none else fieldsV A bs r (i + 1) (some s)).length ≤ _
    have h1 := fieldsV_len A bs r (i + 1) none
    have h2 := fieldsV_len A bs r (i + 1) (some s)
    simp at h1 h2 ⊢
    split
    · simp; omega
    · omega
theorem lineWords_len (x : Value × List UInt8) : (lineWords x).length ≤ x.2.length := by
  unfold lineWords
  split
  · simp
  · have := fieldsV_len (addrOf x.1) x.2 x.2 0 none
    simpa using this
theorem wordsV_len' : ∀ (f : Nat) (A : Option Addr) (cap : Nat) (bs : List UInt8), ((splitV f A cap bs).flatMap lineWords).length ≤ bs.length
  | 0, A, cap, bs => by
    have := lineWords_len (.slice A bs.length bs.length, bs)
    simpa [splitV] using this
  | f + 1, A, cap, bs => by
    cases hf : bs.findIdx? (· == 10) with
    | none =>
      rw [splitV_none hf]
      have := lineWords_len (.slice A bs.length bs.length, bs)
      simpa using this
    | some i =>
      rw [splitV_some hf, List.flatMap_cons, List.length_append]
      have hi : i < bs.length := (List.findIdx?_eq_some_iff_getElem.1 hf).1
      have h1 := lineWords_len (.slice A i i, bs.take i)
      have h2 := wordsV_len' f (if cap = i + 1 then A else A.map (·.add (i + 1))) (cap - (i + 1)) (bs.drop (i + 1))
      have h3 : (bs.take i).length ≤ i := by rw [List.length_take]; omega
      rw [List.length_drop] at h2
      have h4 : (lineWords (.slice A i i, bs.take i)).length ≤ (bs.take i).length := h1
      omega
theorem wordsV_len (A : Option Addr) (cap : Nat) (bs : List UInt8) : (wordsV A cap bs).length ≤ bs.length := wordsV_len' _ _ _ _

theorem results_40 (tmps : Array Value) (w : World) (g2 g3 : Nat) (cs : Array Value) (e : Int) (h2 : tmps.getD 2 undef = .pointer (some ⟨g2, 0, none⟩)) (h3 : tmps.getD 3 undef = .pointer (some ⟨g3, 0, none⟩)) (hc : w.heap[g2]? = some (.cells cs 24 (0, 0))) (hs : cs.size = 2) (he : Boxed w g3 32 (.int .i64 e)) :
    (results Tryz.f40 tmps).run Tryz.prog w = .ok (.tuple #[.agg cs, .int .i64 e]) w := by
  have hr : Tryz.f40.results = #[.cell 2 24, .cell 3 32] := rfl
  have h2' : tmps[2]?.getD undef = .pointer (some ⟨g2, 0, none⟩) := by simpa using h2
  have h3' : tmps[3]?.getD undef = .pointer (some ⟨g3, 0, none⟩) := by simpa using h3
  have hl := run_loadVar_row (P := Tryz.prog) w g2 24 24 cs (0, 0) _ hc Tryz.underlying24 rfl (by rw [hs]; kernel_rfl)
  have hec := he.cell
  have hl2 : (loadVar 32 ⟨g3, 0, none⟩).run Tryz.prog w = .ok (.int .i64 e) w := by
    have ha := Tryz.isAgg32 w
    simp [go_sem, loadVar, ha, hec]
  simp [results, hr, h2', h3', asAddr, hl, hl2, Result.andThen]

theorem wrap_succ (i : Nat) (h : i < 4194304) : wrap64 ((i : Int) + 1) = ((i + 1 : Nat) : Int) := by unfold wrap64; omega

/-- What the call must end in. -/
def GetPost (ws : List (List UInt8)) (w0 : World) (e : Ending) (w' : World) : Prop := ∃ v, e = .returned (.tuple #[.agg #[.int .i64 (getV ws).1, v], .int .i64 (getV ws).2.2]) ∧ Kd.S (Kd.slice 3 (Kd.int .i64)) 25 w' w0.heap.size (fun _ => True) v (getV ws).2.1 ∧ Below w0.heap.size w0 w'
theorem below_putObj {B : Nat} {w0 w : World} (h : Below B w0 w) (D : Nat) (o : Obj) (hD : B ≤ D) : Below B w0 (w.putObj D o) := ⟨h.os, h.tape, h.output, by rw [World.putObj_size]; exact h.size, fun k hk => (World.putObj_heap_other (by omega)).trans (h.block k hk)⟩

/-- The return: the two result cells hold the answer. -/
theorem fin40 {n : Nat} {tmps : Array Value} {D : Nat} {w0 Wf : World} {ws : List (List UInt8)} {v : Value} (h2 : tmps.getD 2 undef = .pointer (some ⟨w0.heap.size, 0, none⟩)) (h3 : tmps.getD 3 undef = .pointer (some ⟨w0.heap.size + 1, 0, none⟩)) (hK : Wf.heap[D]? = some (.deferred (some []))) (hD : w0.heap.size + 2 ≤ D)
    (hc : Wf.heap[w0.heap.size]? = some (.cells #[.int .i64 (getV ws).1, v] 24 (0, 0))) (he : Boxed Wf (w0.heap.size + 1) 32 (.int .i64 (getV ws).2.2)) (hS : Kd.S (Kd.slice 3 (Kd.int .i64)) 25 (Wf.putObj D (.deferred none)) w0.heap.size (fun _ => True) v (getV ws).2.1) (hB : Below w0.heap.size w0 Wf) :
    bodyPostM Fence.wide n Tryz.prog Tryz.f40 (GetPost ws w0) .ret { tmps := tmps, defers := [{ target := .collected D, args := #[] }] } Wf := by
  refine ⟨by simp, .inl ⟨_, _, rfl, run_takeDeferred hK, ?_⟩⟩
  exact ⟨_, results_40 _ _ w0.heap.size (w0.heap.size + 1) _ _ h2 h3 ((World.putObj_heap_other (by omega)).trans hc) rfl ((World.putObj_heap_other (by omega)).trans he), v, rfl, hS, below_putObj hB D _ (by omega)⟩
/-- The same where an error is answered, with the zero value. -/
theorem GetI.zero {n : Nat} {tmps : Array Value} {D : Nat} {w0 W' : World} {ws : List (List UInt8)} (h2 : tmps.getD 2 undef = .pointer (some ⟨w0.heap.size, 0, none⟩)) (h3 : tmps.getD 3 undef = .pointer (some ⟨w0.heap.size + 1, 0, none⟩)) (hK : W'.heap[D]? = some (.deferred (some []))) (hD : w0.heap.size + 5 ≤ D)
    (hB : Below w0.heap.size w0 W') (hc : W'.heap[w0.heap.size]? = some (.cells #[.int .i64 0, .slice none 0 0] 24 (0, 0))) (he : Boxed W' (w0.heap.size + 1) 32 (.int .i64 0)) (e : Int) (hv : getV ws = (0, [], e)) :
    bodyPostM Fence.wide n Tryz.prog Tryz.f40 (GetPost ws w0) .ret { tmps := tmps, defers := [{ target := .collected D, args := #[] }] } (((W'.setCell ⟨w0.heap.size, 0, none⟩ (.int .i64 0)).setCell ⟨w0.heap.size, 1, none⟩ (.slice none 0 0)).setCell ⟨w0.heap.size + 1, 0, none⟩ (.int .i64 e)) := by
  have hc2 := heap_set_same (heap_set_same hc 0 (.int .i64 0)) 1 (.slice none 0 0)
  refine fin40 (v := .slice none 0 0) h2 h3 ?_ (by omega) ?_ ?_ ?_ ?_
  · rw [heap_set_other _ (by omega), heap_set_other _ (by omega), heap_set_other _ (by omega)]; exact hK
  · rw [hv, heap_set_other _ (by omega)]; exact hc2
  · rw [hv]
    have he2 : Boxed ((W'.setCell ⟨w0.heap.size, 0, none⟩ (.int .i64 0)).setCell ⟨w0.heap.size, 1, none⟩ (.slice none 0 0)) (w0.heap.size + 1) 32 (.int .i64 0) := (heap_set_other _ (by omega)).trans ((heap_set_other _ (by omega)).trans he)
    exact he2.set _
  · rw [hv]; exact Kd.S_nil _ _ _ _ _
  · exact below_set_from (below_set_from (below_set_from hB _ (Nat.le_refl _)) _ (Nat.le_refl _)) _ (by omega)
end Go.Proofs.YtcdhhaedgohlgaaGreatDoor.P
end
