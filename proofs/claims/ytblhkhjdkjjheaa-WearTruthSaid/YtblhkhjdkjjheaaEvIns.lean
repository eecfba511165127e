/- slices.Insert of the library at elements of four cells, one new element (own work; after the walks of the guide's shelf). -/
import Derived.Test.YtblhkhjdkjjheaaChecked
import Derived.WalkKit
import Derived.Lib.Walk
import Derived.Lib.SliceRun
import Derived.Lib.JoinLaws
import Derived.Lib.AppendZeros
import Derived.Lib.AppendZerosOnto
import Derived.Lib.Overlaps
import Derived.Laws.Externs
import Derived.Laws.IdiomCopy
import Derived.Laws.CopyRow
import Derived.Shelf.RegionOpenPlain
import Derived.Shelf.Spec.SlicesInsert
import Derived.Test.YtblhkhjdkjjheaaEvLp
set_option linter.unusedVariables false
set_option linter.unusedSimpArgs false
set_option linter.unnecessarySimpa false
set_option linter.unusedSectionVars false
set_option linter.unusedVariables false
set_option linter.unusedSimpArgs false
namespace Go.Proofs
open Go.Shelf Go.RowKit Go.Lib
variable {P : Program}
structure Hid (p : Prop) : Prop where
  out : p

theorem run_copy_rowN (w : World) (dT sT ty elem : TypeId) (size : Nat) (g o dLen dCap : Nat) (a : Addr) (sLen sCap : Nat) (cur : Array Value) (t : TypeId) (cs : List Value)
    (hu : P.underlying dT = some (.slice elem)) (hs : (P.info? elem).map (·.size) = some size)
    (hg : w.heap[g]? = some (.cells cur t (0, 0))) (hn : cs.length = Nat.min sLen dLen * size)
    (hsrc : ∀ j v, cs[j]? = some v → w.cell? (a.add j) = some v) (hfit : o + cs.length ≤ cur.size) (h1 : ∀ v ∈ cs, v.oneCell' = true) :
    (Builtin.copy_ #[dT, sT] ty #[.slice (some ⟨g, o, none⟩) dLen dCap, .slice (some a) sLen sCap]).run P w =
      .ok (goInt (Nat.min sLen dLen)) (w.setRow g (cur.toList.take o ++ cs ++ cur.toList.drop (o + cs.length)).toArray) := by
  have hl := run_loadCells_list (P := P) w a cs hsrc
  have hst := run_storeCells_at P g o t cs 0 cur w hg (by simpa using hfit) h1
  cases hq : P.info? elem with
  | none => simp [hq] at hs
  | some i =>
    have hi : i.size = size := by simpa [hq] using hs
    simp [Builtin.copy_, run_underlying hu, Builtin.lenOf, Builtin.firstCells, sizeOf, typeInfo, hq, hi, ← hn, hl, hst]

theorem run_overlaps_apart2 (w : World) (tS tR e : TypeId) (ht : P.underlying tS = some (.slice e)) (size : Nat) (hz : ∀ w, (Go.sizeOf e).run P w = .ok size w)
    (a b : Addr) (la ca lb cb : Nat) (hne : a.block ≠ b.block) (tA tB : TypeId) (kA kB : Nat)
    (hsa : w.shape? a.block = some (tA, kA)) (hsb : w.shape? b.block = some (tB, kB)) (hkA : kA ≠ 0)
    (hfb : w.frozen? b = false) (hfe : w.frozen? { block := b.block, off := kB } = false) :
    (Extern.SlicesOverlaps.overlaps #[tS, tS] #[tR] #[.slice (some a) la ca, .slice (some b) lb cb]).run P w = .ok (.bool false) w := by
  have hnb : (a.block != b.block) = true := by simpa using hne
  have hnb' : (a.block == b.block) = false := by simpa using hne
  change Sem.run P (α := Value) (do
    let some t := (#[tS, tS] : Array TypeId)[0]? | stuck "slices.overlaps: no parameter types"
    let .slice elem ← underlying t | stuck "slices.overlaps: slice type expected"
    let size ← sizeOf elem
    match (some a : Option Addr), (some b : Option Addr) with
    | some a, some b =>
      if la = 0 ∨ lb = 0 ∨ size = 0 then pure (Value.bool false)
      else if a.block != b.block && (← frozen a) && (← frozen b) then unsupported .addressObserved
      else do
        if a.block != b.block then do
          noView a; noView b
          if ← mayBeOne a b then return Value.bool ((← choose (.extern "sameAddr.stringBytes" 2)) == 1)
        pure (Value.bool (a.block == b.block && a.off < b.off + lb * size && b.off < a.off + la * size))
    | _, _ => pure (Value.bool false)) w = _
  by_cases h0 : la = 0 ∨ lb = 0 ∨ size = 0
  · simp [run_underlying ht, hz, h0]
  · cases kA with
    | zero => exact absurd rfl hkA
    | succ kA =>
      cases hfa : w.frozen? a with
      | false => 
        cases hfa2 : w.frozen? { block := a.block, off := kA + 1 } <;> simp [run_underlying ht, hz, h0, hnb, hnb', frozen, noView, viewAt, mayBeOne, stringish, shape, Sem.run, hsa, hsb, hfb, hfe, hfa, hfa2]
      | true => simp [run_underlying ht, hz, h0, hnb, hnb', frozen, noView, viewAt, mayBeOne, stringish, shape, Sem.run, hsa, hsb, hfb, hfe, hfa]

set_option maxHeartbeats 4000000 in
set_option maxRecDepth 100000 in
theorem ins_shift (b n c i vb vo vc : Nat) (cc : Array Value) (t tv : TypeId) (kv : Nat) (w : World) (hi : i < n) (hroom : n + 1 ≤ c) (hc63 : c ≤ 9223372036854775807) (hvb : vb ≠ b)
    (hb : w.heap[b]? = some (.cells cc t (0, 0))) (hv : w.shape? vb = some (tv, kv)) (hkv : kv ≠ 0) (hcc : cc.size = c * 4)
    (src vs : List Value) (hsl : src.length = (n - i) * 4) (hvl : vs.length = 4) (hsrc : ∀ j v, src[j]? = some v → w.cell? ⟨b, i * 4 + j, none⟩ = some v) (hvs : ∀ j v, vs[j]? = some v → w.cell? ⟨vb, vo + j, none⟩ = some v)
    (h1c : ∀ v ∈ src, v.oneCell' = true) (h1v : ∀ v ∈ vs, v.oneCell' = true) :
    Calls Try.prog 36 #[.slice (some ⟨b, 0, none⟩) n c, .int .i64 i, .slice (some ⟨vb, vo, none⟩) 1 vc] w fun e w' =>
      e = .returned (.slice (some ⟨b, 0, none⟩) (n + 1) c) ∧ ∃ R1 : Array Value, R1 = (cc.toList.take ((i + 1) * 4) ++ src ++ cc.toList.drop ((i + 1) * 4 + src.length)).toArray ∧
        w' = (w.drew.setRow b R1).setRow b (R1.toList.take (i * 4) ++ vs ++ R1.toList.drop (i * 4 + vs.length)).toArray := by
  have t29 := Try.underlying29
  have t27 := Try.underlying27
  have t3 := Try.underlying3
  have t4 := Try.underlying4
  have u29 := run_underlying Try.underlying29
  have u27 := run_underlying Try.underlying27
  have u3 := run_underlying Try.underlying3
  have u4 := run_underlying Try.underlying4
  have hz2 : ¬ ((i : Int) = (n : Int)) := by omega
  have mixed := Checked.mixed Try.checked
  have hw1 : IntKind.i64.wrap ((i : Int) + 1) = (i : Int) + 1 := by rw [IntKind.wrap_i64]; omega
  have hw2 : IntKind.i64.wrap ((n : Int) + 1) = (n : Int) + 1 := by rw [IntKind.wrap_i64]; omega
  have hs27 : (Try.prog.info? 27).map (·.size) = some 4 := by kernel_rfl
  have hz27 : ∀ w, (Go.sizeOf 27).run Try.prog w = .ok 4 w := fun w => by
    obtain ⟨i0, h0, h1⟩ := Option.map_eq_some_iff.1 hs27
    simp [sizeOf, typeInfo, h0, h1]
  have hov : ∀ lb cb, (callFunc 49 #[.slice (some ⟨vb, vo, none⟩) 1 vc, .slice (some ⟨b, (i + 1) * 4, none⟩) lb cb]).run Try.prog w = .ok (.value (.bool false)) w := fun lb cb => by
    rw [run_callFunc_extern Try.func49 (by kernel_rfl) (by kernel_rfl) (by kernel_rfl) (e := Extern.SlicesOverlaps.overlaps #[29, 29] #[4]) (by kernel_rfl),
      run_overlaps_apart2 w 29 4 27 Try.underlying29 4 hz27 ⟨vb, vo, none⟩ ⟨b, (i + 1) * 4, none⟩ 1 vc lb cb hvb tv t kv cc.size hv (by simp [World.shape?, hb]) hkv (by simp [World.frozen?, hb]) (by simp [World.frozen?, hb])]
    rfl
  obtain ⟨R1, hR1⟩ : ∃ R1 : Array Value, R1 = (cc.toList.take ((i + 1) * 4) ++ src ++ cc.toList.drop ((i + 1) * 4 + src.length)).toArray := ⟨_, rfl⟩
  have hR1s : R1.size = cc.size := by
    rw [hR1]
    simp
    omega
  have hcp1 : ∀ ty dc sc, (Builtin.copy_ #[29, 29] ty #[.slice (some ⟨b, (i + 1) * 4, none⟩) (n - i) dc, .slice (some ⟨b, i * 4, none⟩) (n + 1 - i) sc]).run Try.prog w.drew = .ok (goInt ((n - i : Nat) : Int)) (w.drew.setRow b R1) := fun ty dc sc => by
    have hm : Nat.min (n + 1 - i) (n - i) = n - i := by simp only [Nat.min_def]; split <;> omega
    have := run_copy_rowN (P := Try.prog) w.drew 29 29 ty 27 4 b ((i + 1) * 4) (n - i) dc ⟨b, i * 4, none⟩ (n + 1 - i) sc cc t src Try.underlying29 hs27 hb (by rw [hm, hsl])
      (fun j v hj => by rw [Addr.add_lit]; exact hsrc j v hj) (by omega) h1c
    rw [hm, ← hR1] at this
    exact this
  obtain ⟨W1, hW1⟩ : ∃ W1, W1 = w.drew.setRow b R1 := ⟨_, rfl⟩
  rw [← hW1] at hcp1
  have hb1 : W1.heap[b]? = some (.cells R1 t (0, 0)) := by rw [hW1]; exact setRow_heap _ _ _ _ _ _ hb
  have hv1 : ∀ j v, vs[j]? = some v → W1.cell? ⟨vb, vo + j, none⟩ = some v := fun j v hj => by
    have := hvs j v hj
    rw [hW1]
    simp only [World.cell?] at this ⊢
    rw [setRow_other _ _ _ _ hvb]
    exact this
  have hcp2 : ∀ ty dc, (Builtin.copy_ #[29, 29] ty #[.slice (some ⟨b, i * 4, none⟩) (n + 1 - i) dc, .slice (some ⟨vb, vo, none⟩) 1 vc]).run Try.prog W1 = .ok (goInt 1) (W1.setRow b (R1.toList.take (i * 4) ++ vs ++ R1.toList.drop (i * 4 + vs.length)).toArray) := fun ty dc => by
    have hm : Nat.min 1 (n + 1 - i) = 1 := by simp only [Nat.min_def]; split <;> omega
    have := run_copy_rowN (P := Try.prog) W1 29 29 ty 27 4 b (i * 4) (n + 1 - i) dc ⟨vb, vo, none⟩ 1 vc R1 t vs Try.underlying29 hs27 hb1 (by rw [hm, hvl])
      (fun j v hj => by rw [Addr.add_lit]; exact hv1 j v hj) (by omega) h1v
    rw [hm] at this
    exact this
  have X : Hid (R1 = (cc.toList.take ((i + 1) * 4) ++ src ++ cc.toList.drop ((i + 1) * 4 + src.length)).toArray ∧ W1 = w.drew.setRow b R1) := ⟨hR1, hW1⟩
  clear hR1 hW1
  have hin : i ≤ n := by omega
  have hq1 : (0 : Int) ≤ (i : Int) + 1 := by omega
  have hq2 : ¬ (c = i + 1) := by omega
  have hq3 : (i : Int) ≤ (n : Int) + 1 := by omega
  have hq4 : ¬ (c = i) := by omega
  have hq5 : i ≤ n + 1 := by omega
  go_enter Try.func36, Try.ntmps36
  go_wp2_with (simp only [hov])
  go_region_law_o (refine step_copy_runI rfl _ _ 29 29 rfl _ _ (by simp [Act.eval, Act.put]) (by simp [Act.eval, Act.put]) (hcp1 _ _ _) ?_)
  go_wp2_with (at_builtin; refine wpList_copy_runI _ rfl _ _ 29 29 rfl _ _ rfl rfl (hcp2 _ _) ?_)
  go_ret
  exact ⟨rfl, R1, X.out.1, by rw [X.out.2, hvl, List.append_assoc]⟩

set_option maxHeartbeats 4000000 in
set_option maxRecDepth 100000 in
theorem ins_grow (b n c i vb vo vc : Nat) (cc : Array Value) (t : TypeId) (w : World) (hi : i < n) (hnc : n ≤ c) (hroom : c < n + 1) (hbig : (n + 1) * 32 ≤ 140737488355328) (hvb : vb ≠ b)
    (hb : w.heap[b]? = some (.cells cc t (0, 0))) (hcc : cc.size = c * 4)
    (olds src vs : List Value) (hol : olds.length = i * 4) (hsl : src.length = (n - i) * 4) (hvl : vs.length = 4) (holds : ∀ j v, olds[j]? = some v → w.cell? ⟨b, j, none⟩ = some v) (hsrc : ∀ j v, src[j]? = some v → w.cell? ⟨b, i * 4 + j, none⟩ = some v) (hvs : ∀ j v, vs[j]? = some v → w.cell? ⟨vb, vo + j, none⟩ = some v)
    (h1c : ∀ v ∈ src, v.oneCell' = true) (h1v : ∀ v ∈ vs, v.oneCell' = true) :
    Calls Try.prog 36 #[.slice (some ⟨b, 0, none⟩) n c, .int .i64 i, .slice (some ⟨vb, vo, none⟩) 1 vc] w fun e w' =>
      ∃ (g : Nat) (ROW R1 : Array Value), n + 1 ≤ g ∧ g ≤ maxLen ∧ ROW.size = g * 4 ∧ ROW.toList.take (i * 4) = olds ∧ R1 = (ROW.toList.take (i * 4) ++ vs ++ ROW.toList.drop (i * 4 + vs.length)).toArray ∧
        e = .returned (.slice (some ⟨w.heap.size, 0, none⟩) (n + 1) g) ∧
        w' = ((w.alloc (.cells ROW 27)).drew.setRow w.heap.size R1).drew.setRow w.heap.size (R1.toList.take ((i + 1) * 4) ++ src ++ R1.toList.drop ((i + 1) * 4 + src.length)).toArray := by
  have t29 := Try.underlying29
  have t27 := Try.underlying27
  have t3 := Try.underlying3
  have t4 := Try.underlying4
  have u29 := run_underlying Try.underlying29
  have u27 := run_underlying Try.underlying27
  have u3 := run_underlying Try.underlying3
  have u4 := run_underlying Try.underlying4
  have hz2 : ¬ ((i : Int) = (n : Int)) := by omega
  have hz3 : (c : Int) < (n : Int) + 1 := by omega
  have mixed := Checked.mixed Try.checked
  have hinf : (Try.prog.info? 27).map (fun i => (i.zero, i.size, i.bytes)) = some (some (.agg #[.int .i64 0, .int .i64 0, .int .i64 0, .int .i64 0]), 4, 32) := by kernel_rfl
  obtain ⟨i0, hi0, hz0, hzs, hzb⟩ := info_parts hinf
  have hs27 : (Try.prog.info? 27).map (·.size) = some 4 := by rw [hi0]; simp [hzs]
  have hbw : b < w.heap.size := by
    have := (Array.getElem?_eq_some_iff.1 hb).1
    exact this
  have hvw : vb < w.heap.size := block_lt_of_cell (hvs 0 _ (List.getElem?_eq_getElem (by omega)))
  have hold : (Builtin.firstCells i0.size i (.slice (some ⟨b, 0, none⟩) i c)).run Try.prog w.drew = .ok olds.toArray w.drew := by
    rw [hzs]
    exact run_firstCells_some w.drew 4 i ⟨b, 0, none⟩ i c olds hol (fun j v hj => by rw [Addr.add_lit, Nat.zero_add]; exact holds j v hj)
  have hkk : (n : Int) + 1 - (i : Int) = ((n + 1 - i : Nat) : Int) := by omega
  have hik : i + (n + 1 - i) = n + 1 := by omega
  obtain ⟨G, hG⟩ : ∃ G, G = grownCap w (n + 1) c 27 := ⟨_, rfl⟩
  obtain ⟨ROW, hROW⟩ : ∃ ROW : Array Value, ROW = olds.toArray ++ Builtin.zeroCells (Value.agg #[.int .i64 0, .int .i64 0, .int .i64 0, .int .i64 0]).cells (n + 1 - i) ++ Builtin.zeroCells (Value.agg #[.int .i64 0, .int .i64 0, .int .i64 0, .int .i64 0]).cells (G - (n + 1)) := ⟨_, rfl⟩
  have hrz : ∀ ty, (Builtin.append_ #[29, 3] ty #[.slice (some ⟨b, 0, none⟩) i c, .int .i64 ((n : Int) + 1 - (i : Int))]).run Try.prog w =
      .ok (.slice (some ⟨w.heap.size, 0, none⟩) (n + 1) G) (w.drew.alloc (.cells ROW 27)) := fun ty => by
    have h := Lib.run_append_grow_zeros w 29 3 ty 27 i0 _ .i64 .i64 Try.underlying29 Try.underlying3 hi0 hz0 (some ⟨b, 0, none⟩) i c olds hold (n + 1 - i) (by omega) (by omega) (by omega) (by omega) (by rw [hzb]; omega) (by rw [hzb, hik]; exact growslice_fits hroom hbig)
    rw [hik] at h
    rw [hkk, hROW, hG]
    exact h
  have hGn : n + 1 ≤ G := by rw [hG]; exact grownCap_ge w _ _ _
  have hGm : G ≤ maxLen := by rw [hG]; exact grownCap_le_maxLen w (n + 1) c 27 (by unfold maxLen; omega)
  have hzc : ∀ k, (Builtin.zeroCells (Value.agg #[.int .i64 0, .int .i64 0, .int .i64 0, .int .i64 0]).cells k).size = k * 4 := fun k => by
    simp [Builtin.zeroCells, Value.cells]
  have hRs : ROW.size = G * 4 := by
    rw [hROW, Array.size_append, Array.size_append, hzc, hzc]
    simp only [List.size_toArray, hol]
    omega
  have hRt : ROW.toList.take (i * 4) = olds := by
    rw [hROW]
    simp only [Array.toList_append, List.append_assoc]
    rw [List.take_append_of_le_length (by simp [hol])]
    rw [List.take_of_length_le (by simp [hol])]
  obtain ⟨W1, hW1⟩ : ∃ W1, W1 = (w.alloc (.cells ROW 27)).drew := ⟨_, rfl⟩
  have hrz : ∀ ty, (Builtin.append_ #[29, 3] ty #[.slice (some ⟨b, 0, none⟩) i c, .int .i64 ((n : Int) + 1 - (i : Int))]).run Try.prog w = .ok (.slice (some ⟨w.heap.size, 0, none⟩) (n + 1) G) W1 := fun ty => by rw [hrz ty, hW1]; rfl
  obtain ⟨q, hq⟩ : ∃ q, q = w.heap.size := ⟨_, rfl⟩
  rw [← hq] at hrz
  have hb1 : W1.heap[q]? = some (.cells ROW 27 (0, 0)) := by rw [hW1, hq]; exact heap_alloc_new w _
  have hold1 : ∀ k, k < w.heap.size → W1.heap[k]? = w.heap[k]? := fun k hk => by rw [hW1]; exact heap_alloc_old w _ hk
  have hvq : vb ≠ q := by omega
  have hbq : b ≠ q := by omega
  have hv1 : ∀ j v, vs[j]? = some v → W1.cell? ⟨vb, vo + j, none⟩ = some v := fun j v hj => by
    have := hvs j v hj
    simp only [World.cell?] at this ⊢
    rw [hold1 vb hvw]
    exact this
  obtain ⟨R1, hR1⟩ : ∃ R1 : Array Value, R1 = (ROW.toList.take (i * 4) ++ vs ++ ROW.toList.drop (i * 4 + vs.length)).toArray := ⟨_, rfl⟩
  have hR1s : R1.size = ROW.size := by
    rw [hR1]
    simp
    omega
  have hcp1 : ∀ ty dc, (Builtin.copy_ #[29, 29] ty #[.slice (some ⟨q, i * 4, none⟩) (n + 1 - i) dc, .slice (some ⟨vb, vo, none⟩) 1 vc]).run Try.prog W1 = .ok (goInt 1) (W1.setRow q R1) := fun ty dc => by
    have hm : Nat.min 1 (n + 1 - i) = 1 := by simp only [Nat.min_def]; split <;> omega
    have := run_copy_rowN (P := Try.prog) W1 29 29 ty 27 4 q (i * 4) (n + 1 - i) dc ⟨vb, vo, none⟩ 1 vc ROW 27 vs Try.underlying29 hs27 hb1 (by rw [hm, hvl])
      (fun j v hj => by rw [Addr.add_lit]; exact hv1 j v hj) (by omega) h1v
    rw [hm, ← hR1] at this
    exact this
  obtain ⟨W2, hW2⟩ : ∃ W2, W2 = W1.setRow q R1 := ⟨_, rfl⟩
  rw [← hW2] at hcp1
  have hb2 : W2.heap[q]? = some (.cells R1 27 (0, 0)) := by rw [hW2]; exact setRow_heap _ _ _ _ _ _ hb1
  have hs2 : ∀ j v, src[j]? = some v → W2.cell? ⟨b, i * 4 + j, none⟩ = some v := fun j v hj => by
    have := hsrc j v hj
    simp only [World.cell?] at this ⊢
    rw [hW2, setRow_other _ _ _ _ hbq, hold1 b hbw]
    exact this
  have hcp2 : ∀ ty dc sc, (Builtin.copy_ #[29, 29] ty #[.slice (some ⟨q, (i + 1) * 4, none⟩) (n - i) dc, .slice (some ⟨b, i * 4, none⟩) (n - i) sc]).run Try.prog W2.drew = .ok (goInt ((n - i : Nat) : Int)) (W2.drew.setRow q (R1.toList.take ((i + 1) * 4) ++ src ++ R1.toList.drop ((i + 1) * 4 + src.length)).toArray) := fun ty dc sc => by
    have hm : Nat.min (n - i) (n - i) = n - i := by simp
    have := run_copy_rowN (P := Try.prog) W2.drew 29 29 ty 27 4 q ((i + 1) * 4) (n - i) dc ⟨b, i * 4, none⟩ (n - i) sc R1 27 src Try.underlying29 hs27 hb2 (by rw [hm, hsl])
      (fun j v hj => by rw [Addr.add_lit]; exact hs2 j v hj) (by omega) h1c
    rw [hm] at this
    exact this
  have X : Hid (R1 = (ROW.toList.take (i * 4) ++ vs ++ ROW.toList.drop (i * 4 + vs.length)).toArray ∧ W1 = (w.alloc (.cells ROW 27)).drew ∧ W2 = W1.setRow q R1 ∧ q = w.heap.size ∧ n + 1 ≤ G ∧ G ≤ maxLen ∧ ROW.size = G * 4 ∧ ROW.toList.take (i * 4) = olds) := ⟨hR1, hW1, hW2, hq, hGn, hGm, hRs, hRt⟩
  have hw1 : IntKind.i64.wrap ((i : Int) + 1) = (i : Int) + 1 := by rw [IntKind.wrap_i64]; omega
  have hw2 : IntKind.i64.wrap ((n : Int) + 1) = (n : Int) + 1 := by rw [IntKind.wrap_i64]; omega
  have hw3 : IntKind.i64.wrap ((n : Int) + 1 - (i : Int)) = (n : Int) + 1 - (i : Int) := by rw [IntKind.wrap_i64]; omega
  have hin : i ≤ n := by omega
  have hq1 : (0 : Int) ≤ (i : Int) + 1 := by omega
  have hq2 : ¬ (G = i + 1) := by omega
  have hq3 : (i : Int) ≤ (n : Int) + 1 := by omega
  have hq4 : ¬ (c = i) := by omega
  have hq5 : i ≤ n + 1 := by omega
  have hq6 : ¬ (G = i) := by omega
  have hq7 : i ≤ c := by omega
  clear hR1 hW1 hW2 hq hGn hGm hRs hRt hG hROW hzc hR1s hkk hik hold hb1 hb2 hold1 hs2 hv1
  go_enter Try.func36, Try.ntmps36
  go_wp2_with (first
    | (at_builtin; refine Lib.wpList_append_run _ rfl _ _ _ _ rfl _ _ rfl rfl _ _ (hrz _) ?_)
    | (at_builtin; refine wpList_copy_runI _ rfl _ _ 29 29 rfl _ _ rfl rfl (hcp1 _ _) ?_))
  go_region_law_o (refine step_copy_runI rfl _ _ 29 29 rfl _ _ (by simp [Act.eval, Act.put]) (by simp [Act.eval, Act.put]) (hcp2 _ _ _) ?_)
  go_wp2
  go_ret
  obtain ⟨x1, x2, x3, x4, x5, x6, x7, x8⟩ := X.out
  refine ⟨G, ROW, R1, x5, x6, x7, x8, x1, by rw [x4]; rfl, ?_⟩
  rw [← x4, ← x2, ← x3]
  simp [hvl, hsl, List.append_assoc]
end Go.Proofs
namespace Go.Ev
open Go Go.Proofs
section
variable {W : Nat → Prop} {ρ : Rho} {F : Fz} {w w' : World}
theorem ins_post {els : List (List AVal)} {r : List AVal} (hH : HRel W ρ [⟨27, 4, els, true, false, 0⟩] F w) {i n : Nat} (hn : els.length = n) (hi : i < n) (hrl : r.length = 4)
    {B cap : Nat} {R : Array Value} (hcap : n + 1 ≤ cap) (hcm : cap ≤ maxLen) (hR : R.size = cap * 4) (hB : B = (ρ 0).blk ∨ B = w.heap.size)
    (hobj : w'.heap[B]? = some (.cells R 27 (0, 0))) (hoth : ∀ k, k < w.heap.size → k ≠ B → w'.heap[k]? = w.heap[k]?) (hsz : w.heap.size ≤ w'.heap.size)
    (hos : w'.os = w.os) (htp : w'.tape = w.tape) (hout : w'.output = w.output)
    (hcells : ∀ (j : Nat) (row : List AVal) (c : Nat) x, (els.take i ++ (r :: els.drop i))[j]? = some row → row[c]? = some x → ∃ x', R[j * 4 + c]? = some x' ∧ MRel F w x x') :
    Post W ρ [⟨27, 4, els, true, false, 0⟩] F w (.sl 0 0 (n + 1) 1) [⟨27, 4, els.take i ++ (r :: els.drop i), true, false, 1⟩] (.slice (some ⟨B, 0, none⟩) (n + 1) cap) w' := by
  obtain ⟨cc, t, fr, hB0⟩ := hH.blk 0 _ rfl rfl
  obtain ⟨hfr, hW0, hoff, hsize, hnF, htt⟩ := hB0.own rfl
  have hlt0 : (ρ 0).blk < w.heap.size := (Array.getElem?_eq_some_iff.1 hB0.obj).1
  have hWB : W B := by
    rcases hB with rfl | rfl
    · exact hW0
    · exact hH.new _ (Nat.le_refl _)
  have hFne : ∀ b o, F b o → b < w.heap.size ∧ b ≠ B := fun b o hf => by
    have h2 := hH.frz b o hf
    have hlt : b < w.heap.size := by
      obtain ⟨v, hv⟩ := Option.isSome_iff_exists.1 h2
      exact block_lt_of_cell hv
    refine ⟨hlt, ?_⟩
    rcases hB with rfl | rfl
    · rintro rfl; exact hnF o hf
    · omega
  have hcF : ∀ b o, F b o → w'.cell? ⟨b, o, none⟩ = w.cell? ⟨b, o, none⟩ := fun b o hf => by
    obtain ⟨h2, h3⟩ := hFne b o hf
    simp only [World.cell?, hoth b h2 h3]
  let ρ' : Rho := fun id => if id = 0 then ⟨B, 0, cap * 4⟩ else ρ id
  have hρ0 : ρ' 0 = ⟨B, 0, cap * 4⟩ := rfl
  have hA : Adv W ρ [⟨27, 4, els, true, false, 0⟩] F w ρ' [⟨27, 4, els.take i ++ (r :: els.drop i), true, false, 1⟩] F w' := by
    refine ⟨⟨hos, htp, hout, hsz, fun k hk hWk => hoth k hk (fun e => hWk (e ▸ hWB)), hcF⟩, ?_, fun _ _ h => h, fun _ _ h => .inl h, ?_⟩
    · intro id b hb
      match id, hb with
      | 0, hb => cases hb; exact ⟨_, rfl, rfl, by simp, fun h => by cases h⟩
    · intro id b' hb' hg
      match id, hb' with
      | 0, _ => rw [hρ0]; exact hWB
  have hel : (els.take i ++ (r :: els.drop i)).length = n + 1 := by simp; omega
  have hrows : ∀ (j : Nat) row, (els.take i ++ (r :: els.drop i))[j]? = some row → row.length = 4 := fun j row hj => by
    have := List.mem_of_getElem? hj
    simp only [List.mem_append, List.mem_cons] at this
    rcases this with h | rfl | h
    · obtain ⟨k, hk⟩ := List.getElem?_of_mem (List.mem_of_mem_take h)
      exact hB0.rows k row hk
    · exact hrl
    · obtain ⟨k, hk⟩ := List.getElem?_of_mem (List.mem_of_mem_drop h)
      exact hB0.rows k row hk
  refine ⟨ρ', F, hA, ⟨?_, ?_, fun b o hf => by rw [hcF b o hf]; exact hH.frz b o hf, fun k hk => hH.new k (by omega)⟩, ?_⟩
  · intro id b hb hd
    match id, hb with
    | 0, hb =>
      cases hb
      refine ⟨R, 27, (0, 0), ⟨by rw [hρ0]; exact hobj, by rw [hρ0]; simp [hR], ?_, hrows, ?_, ?_, fun h => by cases h⟩⟩
      · show (els.take i ++ (r :: els.drop i)).length * 4 ≤ cap * 4
        rw [hel]; omega
      · intro j row c x hj hc
        obtain ⟨x', h2, h3⟩ := hcells j row c x hj hc
        refine ⟨x', ?_, h3.adv (fun _ _ h => h) hcF⟩
        show R[0 + (j * 4 + c)]? = _
        rw [Nat.zero_add]; exact h2
      · intro _
        refine ⟨rfl, hWB, rfl, hR.symm, fun o hf => (hFne B o hf).2 rfl, fun _ => rfl⟩
  · intro id id' b b' hb hb' hd hd' ho hne
    match id, id', hb, hb' with
    | 0, 0, _, _ => exact absurd rfl hne
  · refine .val (.cell (.sl 0 0 (n + 1) 1 ⟨B, 0, none⟩ cap _ rfl rfl (Nat.le_refl _) hcap rfl hcm fun _ => ⟨.inr (by rw [hρ0]; simp), by rw [hρ0]; simp, ?_⟩))
    show 0 + (n + 1) ≤ (els.take i ++ (r :: els.drop i)).length
    rw [hel]; omega
end
end Go.Ev

