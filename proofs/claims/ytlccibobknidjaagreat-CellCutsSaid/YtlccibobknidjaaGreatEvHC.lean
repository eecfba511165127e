/- Own work: a part of the proof. -/
import Derived.Shelf.SlSortCmp.WholeK
import Derived.Test.YtlccibobknidjaaGreatEvSp7
import Derived.Test.YtlccibobknidjaaGreatEvE9
import Derived.KernelRfl
import Derived.Test.YtlccibobknidjaaGreatEvDG
set_option linter.unusedVariables false
set_option linter.unusedSimpArgs false
set_option linter.unnecessarySimpa false
set_option linter.unusedSectionVars false
namespace Go.Ev.L
open Go Go.Ev Go.Sort Go.Proofs
section
variable {α : Type} [Inhabited α] {P : Program} {G : Nat → List Value} {g : FuncId} {S : Sum} {t : Ty α} {enc : α → List Value} {cf : α → α → Int}
theorem fe1 (hc : j7 P G g S) (hS : ∀ x y, (S [.agg (t.row x), .agg (t.row y)] []).run = some (i (cf x y), [])) (hG : ∀ n, G n = []) (he : ∀ x, t.row x = (enc x).map .v) (k blk off size : Nat) (w : World) :
  CmpLays P g #[] enc k cf blk off size w := by
 intro m os dk _ x y
 generalize sortWorldK enc k w blk off m dk os = w0
 have hrow : ∀ (z : α), ca5 (fun _ => ⟨0, 0, 0⟩) [] (fun _ _ => False) w0 (.agg (t.row z)) (.agg (enc z).toArray) := fun z => by
  refine .agg _ _ (by rw [he]; simp) fun i u u' hu hu' => ?_
  rw [he, List.getElem?_map] at hu
  have hu' : (enc z)[i]? = some u' := by simpa using hu'
  rw [hu'] at hu
  injection hu with hu
  subst hu
  exact .v _
 obtain ⟨_, h⟩ := hc _ _ _ _ (hS x y) (fun k => w0.heap.size ≤ k) (fun _ => ⟨0, 0, 0⟩) (fun _ _ => False) w0 [.agg (enc x).toArray, .agg (enc y).toArray]
  ⟨fun id b hb => by simp at hb, fun id id' b b' hb => by simp at hb, fun b o hf => hf.elim, fun k hk => hk⟩ rfl
  (fun i u u' hu hu' => by
   match i, hu, hu' with
   | 0, hu, hu' => cases hu; cases hu'; exact .val (hrow x)
   | 1, hu, hu' => cases hu; cases hu'; exact .val (hrow y))
  (fun n c v hv => by rw [hG] at hv; simp at hv)
 refine h.mono fun e w' ⟨r', h1, ρ', F', h2, h3, h4⟩ => ?_
 have h5 := ca0 h4
 subst h5
 refine ⟨h1, w'.drawn - w0.drawn, w'.heap.extract w0.heap.size w'.heap.size, ?_⟩
 have hd := h2.ext.drawn
 have hs := h2.ext.size
 have hheap : w'.heap = w0.heap ++ w'.heap.extract w0.heap.size w'.heap.size := by
  apply Array.ext_getElem?
  intro j
  rcases Nat.lt_or_ge j w0.heap.size with hj | hj
  ·rw [Array.getElem?_append_left hj, h2.ext.block j hj (by omega)]
  ·rw [Array.getElem?_append_right hj, Array.getElem?_extract]
   have e : w0.heap.size + (j - w0.heap.size) = j := by omega
   rw [e]
   split
   ·rfl
   ·rw [Array.getElem?_eq_none (by omega)]
 obtain ⟨hp, tp, dr, os', out⟩ := w'
 have e1 := h2.ext.os; have e2 := h2.ext.tape; have e3 := h2.ext.output
 simp only at e1 e2 e3 hd hheap
 subst e1 e2 e3
 unfold grow World.drewN
 simp only
 congr 1
 omega
noncomputable def Sd8 (t : Ty α) (g : Nat) (et : Nat) (srt : List α → List α) : Sum := fun args blks => match args, blks with
 | [.sl 0 0 n 0, .fn g' []], [⟨et', es', el, true, false, 0⟩] =>
  Bool.rec (motive := fun _ => DT (b7 × List b8)) .fail (.guard (Bool.and (Nat.ble n room) (Bool.and (Nat.ble n (len el)) (okS t el 0 n))) (.ret (.v (.tuple #[]), [⟨et', es', app (bL t (srt (slR t el 0 n))) (g9 el n), true, false, 0⟩])))
   (Bool.and (Nat.beq g' g) (Bool.and (Nat.beq et' et) (Nat.beq es' t.es)))
 | _, _ => .fail
theorem Xb0 (l : List α) (j : Nat) (h : j < l.length) : l.toArray[j]! = l[j] := by
 rw [getElem!_pos l.toArray j (by simpa using h)]
 simp
theorem fe2 {f : FuncId} {et : Nat} {srt : List α → List α} (hcall : xb6 P f) (hes : 0 < t.es) (he : ∀ x, t.row x = (enc x).map .v) (hx : ∀ r, t.ok r = true → r = t.row (t.rd r)) (h1 : ∀ x, ∀ v ∈ enc x, v.oneCell' = true)
  (hlen : ∀ l, (srt l).length = l.length) (hcl : ∀ blk off size w, CmpLays P g #[] enc t.es cf blk off size w)
  (hcon : ∀ (blk cap : Nat) (d : Array α) (w : World), (∀ off size, CmpLays P g #[] enc t.es cf blk off size w) → HoldsK enc t.es w blk 0 d → blk < w.heap.size → d.size < 4611686018427387904 →
   Calls P f #[.slice (some ⟨blk, 0, none⟩) d.size cap, .func (.func g) #[] #[]] w fun e w' => e = .returned (.tuple #[]) ∧ ∃ n os, w' = sortWorldK enc t.es w blk 0 n (srt d.toList).toArray os) :
  j7 P G f (Sd8 t g et srt) := by
 intro args blks r out hr W ρ F w args' hH hl hargs hG
 refine ⟨hcall, ?_⟩
 unfold Sd8 at hr
 split at hr
 case h_2 => cases hr
 rename_i n g' et' es' el
 cases hb0 : Bool.and (Nat.beq g' g) (Bool.and (Nat.beq et' et) (Nat.beq es' t.es)) with
 | false => rw [hb0] at hr; cases hr
 | true =>
 rw [hb0] at hr
 rw [Bool.and_eq_true, Bool.and_eq_true] at hb0
 have q1 := Nat.eq_of_beq_eq_true hb0.1; have q2 := Nat.eq_of_beq_eq_true hb0.2.1; have q3 := Nat.eq_of_beq_eq_true hb0.2.2
 subst q1 q2 q3
 obtain ⟨hg0, hr⟩ := DT.run_guard_some hr
 rw [Bool.and_eq_true, Bool.and_eq_true] at hg0
 have hroom : n ≤ room := Nat.le_of_ble_eq_true hg0.1
 have hn := Nat.le_of_ble_eq_true hg0.2.1
 rw [m8] at hn
 have hok := hg0.2.2
 injection hr with hr; injection hr with p1 p2; subst p1 p2
 match args', hl with
 | [v0, v1], _ =>
 obtain ⟨a, cap, b, rfl, hb, hd, _, hncap, hspot, hcap, hq⟩ := Ba1 (hargs 0 _ _ rfl rfl)
 obtain ⟨vs1, rfl, hvs1, _⟩ := ob9 (hargs 1 _ _ rfl rfl)
 have hvs1 : vs1 = #[] := Array.eq_empty_of_size_eq_zero (by simpa using hvs1.symm)
 subst hvs1
 have hb : b = ⟨et', t.es, el, true, false, 0⟩ := by simpa using hb.symm
 subst hb
 obtain ⟨ha, hsz, hne⟩ := hq rfl
 have ha : a = ⟨(ρ 0).blk, (ρ 0).off + 0 * t.es, none⟩ := ha.resolve_left fun h => by omega
 obtain ⟨cc, tt, fr, hB⟩ := hH.blk 0 _ rfl rfl
 obtain ⟨hfr, hW, hoff, hsize, hnF, het⟩ := hB.own rfl
 subst hfr
 rw [hoff, Nat.zero_mul, Nat.add_zero] at ha
 subst ha
 generalize hbk : (ρ 0).blk = blk at *
 -- the rows as data
 have hrow : ∀ j, j < n → m0 el j = (enc (gL t (slR t el 0 n) j)).map .v := fun j hj => by
  have h2 : t.ok (m0 el (0 + j)) = true := List.all_eq_true.1 hok j (by simpa using hj)
  rw [Nat.zero_add] at h2
  rw [← he, slR, wd3 t _ hj, Nat.zero_add]
  exact hx _ h2
 have hld : (slR t el 0 n).length = n := wd2 ..
 have hk : ∀ x, (enc x).length = t.es := fun x => by have := t.h0 x; rw [m8, he] at this; simpa using this
 have hlt : blk < w.heap.size := by
  have := hB.obj
  rcases Nat.lt_or_ge blk w.heap.size with h | h
  ·exact h
  ·rw [hbk, Array.getElem?_eq_none h] at this; cases this
 have hobj : w.heap[blk]? = some (.cells cc tt (0, 0)) := by rw [← hbk]; exact hB.obj
 have hgd : ∀ (l : List α) (j : Nat) (h : j < l.length), gL t l j = l[j] := fun l j h => by simp [gL, List.getD_eq_getElem?_getD, List.getElem?_eq_getElem h]
 have hdm : ∀ q, q < n * t.es → q / t.es < n ∧ q % t.es < t.es ∧ (q / t.es) * t.es + q % t.es = q := fun q hq => ⟨Nat.div_lt_of_lt_mul (by rw [Nat.mul_comm]; exact hq), Nat.mod_lt _ hes, Nat.div_add_mod' q t.es⟩
 have hrowAt : ∀ j, j < el.length → el[j]? = some (m0 el j) := fun j hj => by
  unfold m0; rw [A0, List.getElem?_eq_getElem hj]
 have hH0 : HoldsK enc t.es w blk 0 (slR t el 0 n).toArray := by
  intro q hq
  have hq : q < n * t.es := by rw [size_flatK] at hq; simpa [hld] using hq
  obtain ⟨e1, e2, e3⟩ := hdm q hq
  rw [get_flatK _ _ _ _ (by simpa [hld] using hq), Xb0 _ _ (by rw [hld]; exact e1), ← hgd _ _ (by rw [hld]; exact e1)]
  have hcx : (m0 el (q / t.es))[q % t.es]? = some (.v ((enc (gL t (slR t el 0 n) (q / t.es)))[q % t.es]!)) := by
   rw [hrow _ e1, List.getElem?_map, List.getElem?_eq_getElem (by rw [hk]; exact e2), getElem!_pos _ _ (by rw [hk]; exact e2)]
   rfl
  obtain ⟨x', h5, h6⟩ := hB.cell (q / t.es) _ (q % t.es) _ (hrowAt _ (by omega)) hcx
  have h6 : x' = (enc (gL t (slR t el 0 n) (q / t.es)))[q % t.es]! := by cases h6; rfl
  subst h6
  rw [hoff] at h5
  simp only [e3, Nat.zero_add] at h5
  constructor
  ·simp only [World.cell?, hobj, Nat.zero_add]
   simpa using h5
  ·simp [World.frozen?, hobj]
 have hds : (slR t el 0 n).toArray.size = n := by simpa using hld
 have hmax : n < 4611686018427387904 := by unfold room at hroom; omega
 have hcalls := hcon blk cap (slR t el 0 n).toArray w (fun off size => hcl blk off size w) hH0 hlt (by rw [hds]; exact hmax)
 rw [hds] at hcalls
 refine hcalls.mono fun e w' ⟨h5, m, os, h6⟩ => ⟨_, h5, ρ, F, ?_⟩
 generalize hsd : srt (slR t el 0 n) = sd at *
 have hsl : sd.length = n := by rw [← hsd, hlen, hld]
 have h6 : w' = grow (mapBlock (Sort.ahead w m) blk (putCells id 0 (flatK enc t.es sd.toArray))) os := h6
 have hw'size : w'.heap.size = w.heap.size + os.size := by rw [h6]; simp [mapBlock]
 have hold : ∀ k, k < w.heap.size → k ≠ blk → w'.heap[k]? = w.heap[k]? := fun k h7 h8 => by
  rw [h6]
  simp only [grow, mapBlock]
  rw [Array.getElem?_append_left (by simpa using h7), Array.getElem?_modify]
  simp [Ne.symm h8]
 have hnew : w'.heap[blk]? = some (.cells (putCells id 0 (flatK enc t.es sd.toArray) cc) tt (0, 0)) := by
  rw [h6]
  simp only [grow, mapBlock]
  rw [Array.getElem?_append_left (by simpa using hlt), Array.getElem?_modify]
  simp [hobj, onCells]
 have hcells : ∀ b o, F b o → w'.cell? ⟨b, o, none⟩ = w.cell? ⟨b, o, none⟩ := fun b o hf => by
  have h7 : b ≠ blk := fun h8 => hnF o (h8 ▸ hf)
  have := ob6 (hH.frz b o hf)
  simp only [World.cell?, hold b this h7]
 have hpc : ∀ q, q < cc.size → (putCells id 0 (flatK enc t.es sd.toArray) cc)[q]? = if q < n * t.es then some ((enc sd.toArray[q / t.es]!)[q % t.es]!) else cc[q]? := fun q hq => by
  simp only [putCells, Array.getElem?_mapIdx, Array.getElem?_eq_getElem hq, Option.map_some, size_flatK, Nat.zero_le, true_and, Nat.zero_add, Nat.sub_zero, id]
  have : sd.toArray.size = n := by simpa using hsl
  rw [this]
  split
  ·next h7 => rw [get_flatK _ _ _ _ (by rw [this]; exact h7)]
  ·rfl
 have hel : (app (bL t sd) (g9 el n)).length = el.length := by
  rw [D6, List.length_append, ← m8 (bL t sd), K1, hsl, H8, List.length_drop]
  omega
 have hnrow : ∀ (j : Nat) r, (app (bL t sd) (g9 el n))[j]? = some r → (j < n ∧ r = t.row (gL t sd j)) ∨ (n ≤ j ∧ el[j]? = some r) := fun j r hr => by
  have hlb : (bL t sd).length = n := by rw [← m8, K1, hsl]
  rw [D6] at hr
  rcases Nat.lt_or_ge j n with h7 | h7
  ·rw [List.getElem?_append_left (by omega)] at hr
   left
   refine ⟨h7, ?_⟩
   unfold bL at hr
   rw [o6, List.getElem?_map, List.getElem?_eq_getElem (by omega)] at hr
   injection hr with hr
   rw [← hr, hgd sd j (by omega)]
  ·rw [List.getElem?_append_right (by omega), hlb, H8, List.getElem?_drop] at hr
   right
   exact ⟨h7, by rw [← hr]; congr 1; omega⟩
 have hcs : el.length * t.es ≤ cc.size := by have := hB.len; rw [hsize] at this; exact this
 refine ⟨⟨⟨?_, ?_, ?_, by omega, fun k h7 h8 => hold k h7 fun h9 => h8 (h9 ▸ hW), hcells, ?_⟩, fun id b hb => ?_, fun _ _ h => h, fun _ _ h => .inl h, fun id b' hb' hn' => ?_⟩, ⟨fun id b hb hd' => ?_, fun id id' b b' hb hb' h7 h8 h9 h10 => ?_, fun b o hf => by rw [hcells b o hf]; exact hH.frz b o hf, fun k hk' => hH.new k (by omega)⟩, .ofv _⟩
 ·rw [h6]; rfl
 ·rw [h6]; rfl
 ·rw [h6]; rfl
 ·rw [h6]; exact Nat.le_add_right _ _
 ·match id, hb with
  | 0, hb =>
   cases hb
   exact ⟨_, rfl, rfl, Nat.le_refl _, fun _ => ⟨rfl, rfl, by simp only [hel]; exact Nat.le_refl _⟩⟩
 ·match id, hb' with
  | 0, hb' => cases hb'; exact absurd rfl (hn' ⟨et', t.es, el, true, false, 0⟩ rfl)
 ·match id, hb with
  | 0, hb =>
   cases hb
   refine ⟨_, tt, (0, 0), by rw [hbk]; exact hnew, ?_, ?_, ?_, ?_, fun _ => ⟨rfl, by rw [hbk]; exact hW, hoff, ?_, by rw [hbk]; exact hnF, het⟩, fun h => by cases h⟩
   ·rw [hoff, hsize]; simp [putCells]
   ·simp only [hel]; exact hB.len
   ·intro j r hr
    rcases hnrow j r hr with ⟨_, h8⟩ | ⟨_, h8⟩
    ·rw [h8, ← m8]; exact t.h0 _
    ·exact hB.rows j r h8
   ·intro j r c x hr hc
    rw [hoff, Nat.zero_add]
    rcases hnrow j r hr with ⟨h7, h8⟩ | ⟨h7, h8⟩
    ·subst h8
     have hclt : c < t.es := by
      have := (List.getElem?_eq_some_iff.1 hc).1
      rw [← m8, t.h0] at this
      exact this
     have hq : j * t.es + c < n * t.es := by
      have := Nat.mul_le_mul_right t.es (show j + 1 ≤ n from h7)
      rw [Nat.add_mul, Nat.one_mul] at this
      omega
     have hqn : n * t.es ≤ el.length * t.es := Nat.mul_le_mul_right _ hn
     have e1 : (j * t.es + c) / t.es = j := by rw [Nat.mul_comm, Nat.mul_add_div hes, Nat.div_eq_of_lt hclt, Nat.add_zero]
     have e2 : (j * t.es + c) % t.es = c := by rw [Nat.mul_comm, Nat.mul_add_mod, Nat.mod_eq_of_lt hclt]
     rw [he, List.getElem?_map, List.getElem?_eq_getElem (by rw [hk]; exact hclt)] at hc
     injection hc with hc
     subst hc
     refine ⟨(enc (gL t sd j))[c]'(by rw [hk]; exact hclt), ?_, .v _ (h1 _ _ (List.getElem_mem _))⟩
     rw [hpc _ (Nat.lt_of_lt_of_le hq (Nat.le_trans hqn hcs)), if_pos hq, e1, e2, Xb0 _ _ (by omega), hgd sd j (by omega), getElem!_pos _ _ (by rw [hk]; exact hclt)]
    ·obtain ⟨x', h9, h10⟩ := hB.cell j r c x h8 hc
     rw [hoff, Nat.zero_add] at h9
     have hq : ¬ j * t.es + c < n * t.es := by
      have := Nat.mul_le_mul_right t.es h7
      omega
     have hlt' : j * t.es + c < cc.size := (Array.getElem?_eq_some_iff.1 h9).1
     exact ⟨x', by rw [hpc _ hlt', if_neg hq]; exact h9, h10.adv (fun _ _ h => h) hcells⟩
   ·rw [hsize]; simp [putCells]
 ·match id, hb, id', hb' with
  | 0, hb, 0, hb' => exact absurd rfl h10
end
end Go.Ev.L
namespace Go.Proofs
open Go.Shelf
shelf_lay_g SlLaysF0.n6 Slsf 6 at Tryz 103 as Ce.sortLay
end Go.Proofs
namespace Go.Ev.Ce
open Go Go.Ev Go.Ev.L Go.Proofs Go.Sort
def cb8 (x y : Int) : Int := if x < y then -1 else if x > y then 1 else 0
def fa7 (x y : Pln) : Int :=
 if cb8 x.n.x y.n.x = 0 then if cb8 x.n.y y.n.y = 0 then if cb8 x.n.z y.n.z = 0 then cb8 x.b y.b else cb8 x.n.z y.n.z else cb8 x.n.y y.n.y else cb8 x.n.x y.n.x
theorem oc1 (x y : Int) : cb8 x y < 0 ↔ x < y := by unfold cb8; split <;> (try split) <;> omega
theorem Wc4 (x y : Int) : cb8 x y = 0 ↔ x = y := by unfold cb8; split <;> (try split) <;> omega
def LtP (x y : Pln) : Prop := x.n.x < y.n.x ∨ x.n.x = y.n.x ∧ (x.n.y < y.n.y ∨ x.n.y = y.n.y ∧ (x.n.z < y.n.z ∨ x.n.z = y.n.z ∧ x.b < y.b))
instance (x y : Pln) : Decidable (LtP x y) := by unfold LtP; exact inferInstance
theorem Wc5 (x y : Pln) : fa7 x y < 0 ↔ LtP x y := by
 have h1 := oc1 x.n.x y.n.x; have h2 := Wc4 x.n.x y.n.x
 have h3 := oc1 x.n.y y.n.y; have h4 := Wc4 x.n.y y.n.y
 have h5 := oc1 x.n.z y.n.z; have h6 := Wc4 x.n.z y.n.z
 have h7 := oc1 x.b y.b
 unfold fa7 LtP
 split
 ·split
  ·split <;> omega
  ·omega
 ·omega
theorem Ya0 (x y : Pln) : ltOf fa7 x y = decide (LtP x y) := by
 unfold ltOf
 rw [decide_eq_decide]
 exact Wc5 x y
theorem Ce9 : SWO (ltOf fa7) where
 irrefl x := by rw [Ya0]; simp [LtP]
 trans x y z h1 h2 := by rw [Ya0, decide_eq_true_eq] at *; unfold LtP at *; omega
 ntrans x y z h1 h2 := by rw [Ya0, decide_eq_false_iff_not] at *; unfold LtP at *; omega
theorem De0 (x y : Pln) (h1 : ltOf fa7 x y = false) (h2 : ltOf fa7 y x = false) : x = y := by
 rw [Ya0, decide_eq_false_iff_not] at *
 unfold LtP at *
 obtain ⟨⟨a, b, c⟩, d⟩ := x; obtain ⟨⟨a', b', c'⟩, d'⟩ := y
 simp only at *
 have : a = a' ∧ b = b' ∧ c = c' ∧ d = d' := by omega
 obtain ⟨rfl, rfl, rfl, rfl⟩ := this
 rfl
theorem kd7 (x y : Int) : za2 x y = some (i (cb8 x y), []) := by
 unfold za2 cb8
 simp only [Ya8, decide_eq_true_eq]
 split <;> (try split) <;> rfl
theorem fe3 (x y : Int) : ja7 x y = cb8 x y := by unfold ja7; rw [kd7]; rfl
theorem fe4 (x y : Int) : ja8 x y = true := by unfold ja8; rw [kd7]; rfl
theorem Ac7 (x y : Pln) : pa5 x y = some (i (fa7 x y), []) := by
 unfold pa5 fa7
 simp only [fe3, fe4, Ya8, beq_iff_eq, if_true]
 repeat' (first | rfl | split)
theorem De1 (x y : Pln) : Aa4 x y = fa7 x y := by unfold Aa4; rw [Ac7]; rfl
theorem De2 (x y : Pln) : Aa5 x y = true := by unfold Aa5; rw [Ac7]; rfl
theorem De3 (x y : Pln) : (Ua1 [.agg (tP.row x), .agg (tP.row y)] []).run = some (i (fa7 x y), []) := by
 have : (Ua1 [.agg (tP.row x), .agg (tP.row y)] []).run = sel (Aa5 x y) (some (i (Aa4 x y), [])) none := by kernel_rfl
 rw [this, De2, De1]
def ac7 (p : Pln) : List Value := [.int .i64 p.n.x, .int .i64 p.n.y, .int .i64 p.n.z, .int .i64 p.b]
instance : Inhabited Pln := ⟨⟨⟨0, 0, 0⟩, 0⟩⟩
def ub9 (l : List Pln) : List Pln := l.mergeSort fun x y => !ltOf fa7 y x
theorem Nc2 (l : List Pln) : (ub9 l).length = l.length := List.length_mergeSort l
noncomputable def Da7 : Sum := Sd8 tP 104 50 ub9
theorem Sd9 : Ce.sortLay_ren.f 6 = 103 := by kernel_rfl
theorem Nc3 : Ce.sortLay_ren.t 24 = 50 := by kernel_rfl
set_option maxRecDepth 100000 in
theorem lb3 : j7 prog G 103 Da7 := by
 refine fe2 (enc := ac7) (cf := fa7) ⟨_, Tryz.func103, by kernel_rfl, of_decide_eq_true (by kernel_rfl)⟩ (by decide) (fun _ => rfl) (fun r h => Ka0 (n := 4) h) (fun x v hv => ?_) Nc2
  (fun blk off size w => fe1 ec2 De3 (fun _ => rfl) (fun _ => rfl) _ _ _ _ _) (fun blk cap d w hcl hH hb hs => ?_)
 ·simp [ac7] at hv
  rcases hv with rfl | rfl | rfl | rfl <;> rfl
 ·have eg : ∀ args w, (callFunc 104 args).run Tryz.prog w = .ok (.enter 104 args) w := enters_of Tryz.func104 (by kernel_rfl) rfl
  have := AnyQ.slices_SortFunc Ce.sortLay 4 (by rw [Nc3]; exact Tryz.isAgg50) (by rw [Nc3]; exact Tryz.sizeOf50) ac7 (fun _ => rfl) (fun x v hv => by simp [ac7] at hv; rcases hv with rfl | rfl | rfl | rfl <;> rfl) fa7 Ce9 104 #[] blk 0 cap d w eg (hcl 0 d.size) hH hb hs
  rw [Sd9] at this
  refine this.mono fun e w' ⟨h1, d', n, os, h2, h3, h4⟩ => ⟨h1, n, os, ?_⟩
  have h5 := sorted_unique_holds Ce9 De0 d d' h2 h3
  rw [h4]
  show _ = sortWorldK ac7 4 w blk 0 n (d.toList.mergeSort fun x y => !ltOf fa7 y x).toArray os
  rw [← h5]
end Go.Ev.Ce
section
namespace Go.Ev.Ce
open Go Go.Ev Go.Ev.L Go.Proofs
set_option maxRecDepth 100000
noncomputable def vb6 : List (Nat × Sum) := []
theorem tb9 : l5 prog G vb6 := trivial
structure ia2 where
 alt : Nat
 ns0 : Nat
 eh0 : List (List b7)
noncomputable def M8 {α : Type} (kk : ia2 → α) (x : Pln × List Pln) : α := (sl (Nat.beq (len (o7 (fun k => (tP).row (gL tP (x.1 :: x.2) k)) (List.range (List.length x.2 + 1)))) 0) (kk ⟨1, 0, []⟩) (sl (Nat.beq 0 0 && Nat.ble ((0 + (len (o7 (fun k => (tP).row (gL tP (x.1 :: x.2) k)) (List.range (List.length x.2 + 1))))) * 32) room) (kk ⟨1, (0 + (len (o7 (fun k => (tP).row (gL tP (x.1 :: x.2) k)) (List.range (List.length x.2 + 1))))), (app [] (o7 (fun k => (tP).row (gL tP (x.1 :: x.2) k)) (List.range (List.length x.2 + 1))))⟩) (kk ⟨0, 0, []⟩)))
noncomputable def ia3 (x : Pln × List Pln) : ia2 := M8 (fun r => r) x
noncomputable def ra2 (r : ia2) : DT (b7 × List b8) := (.ite (Nat.beq r.alt 1) (.ret ((.sl 0 0 r.ns0 0), [⟨50, 4, r.eh0, true, false, 0⟩])) .fail)
theorem Db1 {α β : Type} (F : α → β) (kk : ia2 → α) (x : Pln × List Pln) : F (M8 kk x) = M8 (fun r => F (kk r)) x := by unfold M8; (repeat' apply n7 (f := F)) <;> rfl
noncomputable def Qa9 : Sum := ia6 (we4 tP) (fun x => ra2 (ia3 x))
theorem vb7 : j7 prog G 100 Qa9 := Fb1 (bd Ie0 tb9) fun x => s9 (Eq.trans (b := M8 (fun r => (ra2 r).run) x) (by kernel_rfl) (Db1 (fun r => (ra2 r).run) (fun r => r) x).symm)
noncomputable def Wc6 : List (Nat × Sum) := [(20, Da4), (18, qa2), (100, Qa9), (99, xa0), (103, Da7), (105, Ha9)]
theorem Hc6 : l5 prog G Wc6 := ⟨Ga9, ua1, vb7, cb1, lb3, ob0, trivial⟩
noncomputable def Ra0 (x : Pln × List Pln) : Option (b7 × List b8) := let t1 := (R2 (rt tP (x.1 :: x.2))); let t2 := (V0 (rt tP (x.1 :: x.2))); let t3 := (ia3 (hC tP (fun k => (tP).row (gL tP (x.1 :: x.2) k)), tC tP (List.length x.2) (fun k => (tP).row (gL tP (x.1 :: x.2) k)))); let t4 := (T0 ⟨t3.ns0, t3.eh0, (rt tX t2)⟩); let t5 := (ba5 ⟨t4.ns0, (app (bL tP (ub9 (slR tP t4.eh0 0 t4.ns0))) (g9 t4.eh0 t4.ns0))⟩); (sl (okE tP (x.1 :: x.2)) (sl (F9 (rt tP (x.1 :: x.2))) (sl (!t1) (some ((.v (.slice none 0 0)), [])) (sl (okE tP (x.1 :: x.2)) (sl (I5 (rt tP (x.1 :: x.2))) (sl (okL tP (List.length x.2 + 1) (fun k => (tP).row (gL tP (x.1 :: x.2) k))) (sl (Nat.beq t3.alt 1) (sl ((cnE tX t2) && true) (sl (Nat.beq t4.alt 1) (sl (Bool.and (Nat.ble t4.ns0 room) (Bool.and (Nat.ble t4.ns0 (len t4.eh0)) (okS tP t4.eh0 0 t4.ns0))) (sl (Nat.beq t5.alt 1) (some ((.sl 0 0 t5.ns0 0), [⟨50, 4, t5.eh0, true, false, 0⟩])) none) none) none) none) none) none) none) none)) none) none)
noncomputable def Db2 (x : Pln × List Pln) : List Pln := O4 (one (r1L tP)) (Ra0 x)
noncomputable def Db3 (x : Pln × List Pln) : Bool := okO (one (r1L tP)) (Ra0 x)
noncomputable def ic4 : Sum := ia6 (we4 tP) (fun x => .guard (Db3 x) (.ret ((one (r1L tP)).enc (Db2 x), [])))
theorem Wc7 : j7 prog G 25 ic4 := Ba4 (bd b25 Hc6) (one (r1L tP)) (o := Ra0) fun x => s9 (by kernel_rfl)
noncomputable def mc5 : List (Nat × Sum) := [(81, Wb9), (18, qa2), (17, nb8), (25, ic4), (26, zc2), (20, Da4), (28, zc9), (22, Ub8), (31, tb4), (33, lb1), (15, rb7)]
theorem ec5 : l5 prog G mc5 := ⟨Hc5, ua1, Wb1, Wc7, id8, Ga9, kd3, Fc4, Lb1, Cb9, Kb4, trivial⟩
noncomputable def va2  : Option (b7 × List b8) := let t1 := tb6; let t2 := (V0 [(⟨(⟨1, 0, 0⟩ : V3), t1.d9⟩ : Pln), (⟨(⟨(-1), 0, 0⟩ : V3), t1.N2⟩ : Pln), (⟨(⟨0, 1, 0⟩ : V3), t1.N3⟩ : Pln), (⟨(⟨0, (-1), 0⟩ : V3), t1.N4⟩ : Pln), (⟨(⟨0, 0, 1⟩ : V3), t1.N5⟩ : Pln), (⟨(⟨0, 0, (-1)⟩ : V3), t1.N6⟩ : Pln)]); let t3 := (V0 [(⟨(⟨(-1), 0, 0⟩ : V3), 0⟩ : Pln), (⟨(⟨0, (-1), 0⟩ : V3), 0⟩ : Pln), (⟨(⟨0, 0, (-1)⟩ : V3), 0⟩ : Pln), (⟨(⟨2, 3, 4⟩ : V3), 1⟩ : Pln)]); let t4 := (la9 (rt tX t2) [(⟨1, 1, 1, 1⟩ : Pt), (⟨1, 1, 0, 1⟩ : Pt), (⟨1, 0, 1, 1⟩ : Pt), (⟨1, 0, 0, 1⟩ : Pt), (⟨0, 1, 1, 1⟩ : Pt), (⟨0, 1, 0, 1⟩ : Pt), (⟨0, 0, 1, 1⟩ : Pt), (⟨0, 0, 0, 1⟩ : Pt)]); let t5 := (la9 (rt tX t3) [(⟨0, 0, 0, 1⟩ : Pt), (⟨0, 0, 1, 4⟩ : Pt), (⟨0, 1, 0, 3⟩ : Pt), (⟨1, 0, 0, 2⟩ : Pt)]); let t6 := (Db2 ((⟨(⟨1, 0, 0⟩ : V3), t1.d9⟩ : Pln), [(⟨(⟨(-1), 0, 0⟩ : V3), t1.N2⟩ : Pln), (⟨(⟨0, 1, 0⟩ : V3), t1.N3⟩ : Pln), (⟨(⟨0, (-1), 0⟩ : V3), t1.N4⟩ : Pln), (⟨(⟨0, 0, 1⟩ : V3), t1.N5⟩ : Pln), (⟨(⟨0, 0, (-1)⟩ : V3), t1.N6⟩ : Pln), (⟨(⟨1, 0, 0⟩ : V3), t1.d9⟩ : Pln), (⟨(⟨1, 1, 1⟩ : V3), 3⟩ : Pln), (⟨(⟨1, 0, 0⟩ : V3), 7⟩ : Pln)])); let t7 := (sb9 (rt tP t6) [(⟨(⟨(-1), 0, 0⟩ : V3), t1.N2⟩ : Pln), (⟨(⟨0, (-1), 0⟩ : V3), t1.N4⟩ : Pln), (⟨(⟨0, 0, (-1)⟩ : V3), t1.N6⟩ : Pln), (⟨(⟨0, 0, 1⟩ : V3), t1.N5⟩ : Pln), (⟨(⟨0, 1, 0⟩ : V3), t1.N3⟩ : Pln), (⟨(⟨1, 0, 0⟩ : V3), t1.d9⟩ : Pln)]); let t8 := (R2 []); let t9 := (R2 [(⟨(⟨1, 0, 0⟩ : V3), t1.d9⟩ : Pln), (⟨(⟨(-1), 0, 0⟩ : V3), t1.N2⟩ : Pln), (⟨(⟨0, 1, 0⟩ : V3), t1.N3⟩ : Pln), (⟨(⟨0, (-1), 0⟩ : V3), t1.N4⟩ : Pln), (⟨(⟨0, 0, 1⟩ : V3), t1.N5⟩ : Pln), (⟨(⟨0, 0, (-1)⟩ : V3), t1.N6⟩ : Pln), (⟨(⟨(-1), 0, 0⟩ : V3), (-1)⟩ : Pln)]); let t10 := (cb4 [(⟨(⟨1, 0, 0⟩ : V3), t1.d9⟩ : Pln), (⟨(⟨(-1), 0, 0⟩ : V3), t1.N2⟩ : Pln), (⟨(⟨0, 1, 0⟩ : V3), t1.N3⟩ : Pln), (⟨(⟨0, (-1), 0⟩ : V3), t1.N4⟩ : Pln), (⟨(⟨0, 0, 1⟩ : V3), t1.N5⟩ : Pln), (⟨(⟨0, 0, (-1)⟩ : V3), t1.N6⟩ : Pln)] (⟨1, 0, 0⟩ : V3)); let t11 := (cb4 [(⟨(⟨1, 0, 0⟩ : V3), t1.d9⟩ : Pln), (⟨(⟨(-1), 0, 0⟩ : V3), t1.N2⟩ : Pln), (⟨(⟨0, 1, 0⟩ : V3), t1.N3⟩ : Pln), (⟨(⟨0, (-1), 0⟩ : V3), t1.N4⟩ : Pln), (⟨(⟨0, 0, 1⟩ : V3), t1.N5⟩ : Pln), (⟨(⟨0, 0, (-1)⟩ : V3), t1.N6⟩ : Pln)] (⟨2, 0, 0⟩ : V3)); let t12 := (Wa0 [(⟨(⟨(-1), 0, 0⟩ : V3), 0⟩ : Pln), (⟨(⟨0, (-1), 0⟩ : V3), 0⟩ : Pln), (⟨(⟨0, 0, (-1)⟩ : V3), 0⟩ : Pln), (⟨(⟨2, 3, 4⟩ : V3), 1⟩ : Pln)]); let t13 := (J1 [(⟨(⟨1, 0, 0⟩ : V3), t1.d9⟩ : Pln), (⟨(⟨(-1), 0, 0⟩ : V3), t1.N2⟩ : Pln), (⟨(⟨0, 1, 0⟩ : V3), t1.N3⟩ : Pln), (⟨(⟨0, (-1), 0⟩ : V3), t1.N4⟩ : Pln), (⟨(⟨0, 0, 1⟩ : V3), t1.N5⟩ : Pln), (⟨(⟨0, 0, (-1)⟩ : V3), t1.N6⟩ : Pln)] [(⟨(⟨(-1), 0, 0⟩ : V3), (-1)⟩ : Pln)]); let t14 := (J1 [(⟨(⟨1, 0, 0⟩ : V3), t1.d9⟩ : Pln), (⟨(⟨(-1), 0, 0⟩ : V3), t1.N2⟩ : Pln), (⟨(⟨0, 1, 0⟩ : V3), t1.N3⟩ : Pln), (⟨(⟨0, (-1), 0⟩ : V3), t1.N4⟩ : Pln), (⟨(⟨0, 0, 1⟩ : V3), t1.N5⟩ : Pln), (⟨(⟨0, 0, (-1)⟩ : V3), t1.N6⟩ : Pln)] [(⟨(⟨(-1), (-1), 0⟩ : V3), (-1)⟩ : Pln)]); let t15 := (F8 [(⟨(⟨1, 0, 0⟩ : V3), t1.d9⟩ : Pln), (⟨(⟨(-1), 0, 0⟩ : V3), t1.N2⟩ : Pln), (⟨(⟨0, 1, 0⟩ : V3), t1.N3⟩ : Pln), (⟨(⟨0, (-1), 0⟩ : V3), t1.N4⟩ : Pln), (⟨(⟨0, 0, 1⟩ : V3), t1.N5⟩ : Pln), (⟨(⟨0, 0, (-1)⟩ : V3), t1.N6⟩ : Pln)] [(⟨(⟨1, 1, 1⟩ : V3), 3⟩ : Pln)]); let t16 := (F8 [(⟨(⟨1, 0, 0⟩ : V3), t1.d9⟩ : Pln), (⟨(⟨(-1), 0, 0⟩ : V3), t1.N2⟩ : Pln), (⟨(⟨0, 1, 0⟩ : V3), t1.N3⟩ : Pln), (⟨(⟨0, (-1), 0⟩ : V3), t1.N4⟩ : Pln), (⟨(⟨0, 0, 1⟩ : V3), t1.N5⟩ : Pln), (⟨(⟨0, 0, (-1)⟩ : V3), t1.N6⟩ : Pln)] [(⟨(⟨1, 1, 1⟩ : V3), 2⟩ : Pln)]); let t17 := (Ga3 [(⟨(⟨0, 0, 0⟩ : V3), 0⟩ : Pln)]); (sl (I5 [(⟨(⟨1, 0, 0⟩ : V3), t1.d9⟩ : Pln), (⟨(⟨(-1), 0, 0⟩ : V3), t1.N2⟩ : Pln), (⟨(⟨0, 1, 0⟩ : V3), t1.N3⟩ : Pln), (⟨(⟨0, (-1), 0⟩ : V3), t1.N4⟩ : Pln), (⟨(⟨0, 0, 1⟩ : V3), t1.N5⟩ : Pln), (⟨(⟨0, 0, (-1)⟩ : V3), t1.N6⟩ : Pln)]) (sl (I5 [(⟨(⟨(-1), 0, 0⟩ : V3), 0⟩ : Pln), (⟨(⟨0, (-1), 0⟩ : V3), 0⟩ : Pln), (⟨(⟨0, 0, (-1)⟩ : V3), 0⟩ : Pln), (⟨(⟨2, 3, 4⟩ : V3), 1⟩ : Pln)]) (sl (okE tX t2) (sl (ma0 (rt tX t2) [(⟨1, 1, 1, 1⟩ : Pt), (⟨1, 1, 0, 1⟩ : Pt), (⟨1, 0, 1, 1⟩ : Pt), (⟨1, 0, 0, 1⟩ : Pt), (⟨0, 1, 1, 1⟩ : Pt), (⟨0, 1, 0, 1⟩ : Pt), (⟨0, 0, 1, 1⟩ : Pt), (⟨0, 0, 0, 1⟩ : Pt)]) (sl (!t4) (some ((b false), [])) (sl (okE tX t3) (sl (ma0 (rt tX t3) [(⟨0, 0, 0, 1⟩ : Pt), (⟨0, 0, 1, 4⟩ : Pt), (⟨0, 1, 0, 3⟩ : Pt), (⟨1, 0, 0, 2⟩ : Pt)]) (sl (!t5) (some ((b false), [])) (sl (Db3 ((⟨(⟨1, 0, 0⟩ : V3), t1.d9⟩ : Pln), [(⟨(⟨(-1), 0, 0⟩ : V3), t1.N2⟩ : Pln), (⟨(⟨0, 1, 0⟩ : V3), t1.N3⟩ : Pln), (⟨(⟨0, (-1), 0⟩ : V3), t1.N4⟩ : Pln), (⟨(⟨0, 0, 1⟩ : V3), t1.N5⟩ : Pln), (⟨(⟨0, 0, (-1)⟩ : V3), t1.N6⟩ : Pln), (⟨(⟨1, 0, 0⟩ : V3), t1.d9⟩ : Pln), (⟨(⟨1, 1, 1⟩ : V3), 3⟩ : Pln), (⟨(⟨1, 0, 0⟩ : V3), 7⟩ : Pln)])) (sl (okE tP t6) (sl (tb0 (rt tP t6) [(⟨(⟨(-1), 0, 0⟩ : V3), t1.N2⟩ : Pln), (⟨(⟨0, (-1), 0⟩ : V3), t1.N4⟩ : Pln), (⟨(⟨0, 0, (-1)⟩ : V3), t1.N6⟩ : Pln), (⟨(⟨0, 0, 1⟩ : V3), t1.N5⟩ : Pln), (⟨(⟨0, 1, 0⟩ : V3), t1.N3⟩ : Pln), (⟨(⟨1, 0, 0⟩ : V3), t1.d9⟩ : Pln)]) (sl (!t7) (some ((b false), [])) (sl (F9 []) (sl (!t8) (some ((b false), [])) (sl (F9 [(⟨(⟨1, 0, 0⟩ : V3), t1.d9⟩ : Pln), (⟨(⟨(-1), 0, 0⟩ : V3), t1.N2⟩ : Pln), (⟨(⟨0, 1, 0⟩ : V3), t1.N3⟩ : Pln), (⟨(⟨0, (-1), 0⟩ : V3), t1.N4⟩ : Pln), (⟨(⟨0, 0, 1⟩ : V3), t1.N5⟩ : Pln), (⟨(⟨0, 0, (-1)⟩ : V3), t1.N6⟩ : Pln), (⟨(⟨(-1), 0, 0⟩ : V3), (-1)⟩ : Pln)]) (sl t9 (some ((b false), [])) (sl (cb5 [(⟨(⟨1, 0, 0⟩ : V3), t1.d9⟩ : Pln), (⟨(⟨(-1), 0, 0⟩ : V3), t1.N2⟩ : Pln), (⟨(⟨0, 1, 0⟩ : V3), t1.N3⟩ : Pln), (⟨(⟨0, (-1), 0⟩ : V3), t1.N4⟩ : Pln), (⟨(⟨0, 0, 1⟩ : V3), t1.N5⟩ : Pln), (⟨(⟨0, 0, (-1)⟩ : V3), t1.N6⟩ : Pln)] (⟨1, 0, 0⟩ : V3)) (sl (!t10) (some ((b false), [])) (sl (cb5 [(⟨(⟨1, 0, 0⟩ : V3), t1.d9⟩ : Pln), (⟨(⟨(-1), 0, 0⟩ : V3), t1.N2⟩ : Pln), (⟨(⟨0, 1, 0⟩ : V3), t1.N3⟩ : Pln), (⟨(⟨0, (-1), 0⟩ : V3), t1.N4⟩ : Pln), (⟨(⟨0, 0, 1⟩ : V3), t1.N5⟩ : Pln), (⟨(⟨0, 0, (-1)⟩ : V3), t1.N6⟩ : Pln)] (⟨2, 0, 0⟩ : V3)) (sl t11 (some ((b false), [])) (sl (Wa1 [(⟨(⟨(-1), 0, 0⟩ : V3), 0⟩ : Pln), (⟨(⟨0, (-1), 0⟩ : V3), 0⟩ : Pln), (⟨(⟨0, 0, (-1)⟩ : V3), 0⟩ : Pln), (⟨(⟨2, 3, 4⟩ : V3), 1⟩ : Pln)]) (sl (!((t12.1.x == 0) && ((t12.1.y == 0) && ((t12.1.z == 0) && true)))) (some ((b false), [])) (sl (!((t12.2.1.x == 1) && ((t12.2.1.y == 1) && ((t12.2.1.z == 1) && true)))) (some ((b false), [])) (sl (!t12.2.2) (some ((b false), [])) (sl (f8 [(⟨(⟨1, 0, 0⟩ : V3), t1.d9⟩ : Pln), (⟨(⟨(-1), 0, 0⟩ : V3), t1.N2⟩ : Pln), (⟨(⟨0, 1, 0⟩ : V3), t1.N3⟩ : Pln), (⟨(⟨0, (-1), 0⟩ : V3), t1.N4⟩ : Pln), (⟨(⟨0, 0, 1⟩ : V3), t1.N5⟩ : Pln), (⟨(⟨0, 0, (-1)⟩ : V3), t1.N6⟩ : Pln)] [(⟨(⟨(-1), 0, 0⟩ : V3), (-1)⟩ : Pln)]) (sl t13 (sl (f8 [(⟨(⟨1, 0, 0⟩ : V3), t1.d9⟩ : Pln), (⟨(⟨(-1), 0, 0⟩ : V3), t1.N2⟩ : Pln), (⟨(⟨0, 1, 0⟩ : V3), t1.N3⟩ : Pln), (⟨(⟨0, (-1), 0⟩ : V3), t1.N4⟩ : Pln), (⟨(⟨0, 0, 1⟩ : V3), t1.N5⟩ : Pln), (⟨(⟨0, 0, (-1)⟩ : V3), t1.N6⟩ : Pln)] [(⟨(⟨(-1), (-1), 0⟩ : V3), (-1)⟩ : Pln)]) (sl (!t14) (sl (b9 [(⟨(⟨1, 0, 0⟩ : V3), t1.d9⟩ : Pln), (⟨(⟨(-1), 0, 0⟩ : V3), t1.N2⟩ : Pln), (⟨(⟨0, 1, 0⟩ : V3), t1.N3⟩ : Pln), (⟨(⟨0, (-1), 0⟩ : V3), t1.N4⟩ : Pln), (⟨(⟨0, 0, 1⟩ : V3), t1.N5⟩ : Pln), (⟨(⟨0, 0, (-1)⟩ : V3), t1.N6⟩ : Pln)] [(⟨(⟨1, 1, 1⟩ : V3), 3⟩ : Pln)]) (sl t15 (sl (b9 [(⟨(⟨1, 0, 0⟩ : V3), t1.d9⟩ : Pln), (⟨(⟨(-1), 0, 0⟩ : V3), t1.N2⟩ : Pln), (⟨(⟨0, 1, 0⟩ : V3), t1.N3⟩ : Pln), (⟨(⟨0, (-1), 0⟩ : V3), t1.N4⟩ : Pln), (⟨(⟨0, 0, 1⟩ : V3), t1.N5⟩ : Pln), (⟨(⟨0, 0, (-1)⟩ : V3), t1.N6⟩ : Pln)] [(⟨(⟨1, 1, 1⟩ : V3), 2⟩ : Pln)]) (sl (!t16) (sl (Ga4 [(⟨(⟨0, 0, 0⟩ : V3), 0⟩ : Pln)]) (some ((b (t17 == 12)), [])) none) (some ((b false), []))) none) (some ((b false), []))) none) (some ((b false), []))) none) (some ((b false), []))) none)))) none)) none)) none)) none)) none)) none) none) none)) none) none)) none) none) none) none)
noncomputable def Ia4  : Bool := O4 (one r1B) va2
noncomputable def Ia5  : Bool := okO (one r1B) va2
noncomputable def Db4 : Sum := bd6  (.guard Ia5 (.ret ((one r1B).enc Ia4, [])))
theorem mc6 : j7 prog G 13 Db4 := Ee9 (bd b13 ec5) (one r1B) (o := va2) (s9 (by kernel_rfl))
end Go.Ev.Ce
end
namespace Go.Ev.Ce
open Go Go.Ev Go.Ev.L Go.Proofs
noncomputable def onc (X : List Pt) (p : Pln) : Nat := X.countP fun x => rm p x == 0
noncomputable def keep (X : List Pt) (p : Pln) : Bool := !decide ((onc X p : Int) < 3)
theorem Ac8 (p : Pln) (X : List Pt) (hX : X.length ≤ 1000000000) : ja4 ⟨p.n.x, p.n.y, p.n.z, p.b, X⟩ = ⟨1, !keep X p, X⟩ := by
 have h := Fb3 (step := ma1 ⟨X, (X.length : Int), X, p.n.x, p.n.y, p.n.z, p.b⟩) (mk := fun j (n : Nat) => (⟨(n : Int), (j : Int)⟩ : L8)) (f := fun n x => if rm p x == 0 then n + 1 else n) (fin := 1) tX X (fun j n => n ≤ j) hX
  (fun j n hj hi => by
   have hW : W ((n : Int) + 1) = ((n + 1 : Nat) : Int) := by rw [Y0 (by omega) (by omega)]; omega
   refine ⟨?_, by show (if rm p (gL tX X j) == 0 then n + 1 else n) ≤ j + 1; split <;> omega⟩
   simp only [ma1, ia1, Int.toNat_natCast, Tc6, hW, n8 hj (show X.length ≤ 4611686018427387904 by omega)]
   rw [btD (l0 hj), bt (e8 hj)]
   cases rm p (gL tX X j) == 0 <;> rfl)
  (fun n _ => by simp only [ma1, ia1]; rw [bfD (v8 (Nat.lt_irrefl _))]) 0 (Nat.zero_le _) 0 (Nat.le_refl _)
 have h := h.1
 have e : ∀ (l : List Pt) (n : Nat), l.foldl (fun n x => if rm p x == 0 then n + 1 else n) n = n + l.countP fun x => rm p x == 0 := by
  intro l
  induction l with
  | nil => intro n; rfl
  | cons x l ih =>
   intro n
   rw [List.foldl_cons, ih, List.countP_cons]
   split <;> omega
 rw [List.drop_zero, e, Nat.zero_add] at h
 unfold ja4 qa4 keep onc
 simp only [l8, l6]
 rw [show (⟨0, 0⟩ : L8) = ⟨((0 : Nat) : Int), ((0 : Nat) : Int)⟩ from rfl, h]
 show qa3.mk 1 (decide _) X = qa3.mk 1 (!(!(decide _))) X
 rw [Bool.not_not]
theorem fe5 (l : List Pln) (X : List Pt) (hl : l.length ≤ 1000000000) (hX : X.length ≤ 1000000000) : S7 ⟨l.length, bL tP l, X⟩ = ⟨1, if l.any (fun p => !keep X p) then ((l.findIdx (fun p => !keep X p) : Nat) : Int) else -1, X⟩ := by
 have h := Va2 (step := E8 ⟨l.length, (l.length : Int), bL tP l⟩) (mk := fun j => (⟨(j : Int), X⟩ : o4)) (c := fun p => !keep X p) (u := 1) (fin := 2) tP l hl
  (fun j hj => by
   simp only [E8, C0, Int.toNat_natCast, l8, l6, oc0 hj, Wb6 hj, Ac8 _ _ hX, n8 hj (show l.length ≤ 4611686018427387904 by omega)]
   rw [btD (l0 hj), bt (e8 hj)]
   rfl)
  (by simp only [E8, C0]; rw [bfD (v8 (Nat.lt_irrefl _))]) 0 (Nat.zero_le _)
 rw [List.drop_zero] at h
 unfold S7 D1
 simp only [l8, l6]
 rw [show (⟨0, X⟩ : o4) = ⟨((0 : Nat) : Int), X⟩ from rfl, h]
 cases ha : l.any fun p => !keep X p with
 | false => rfl
 | true =>
  have hf : l.findIdx (fun p => !keep X p) < l.length := by
   rw [List.any_eq_true] at ha
   obtain ⟨p, hp, hc⟩ := ha
   exact List.findIdx_lt_length_of_exists ⟨p, hp, hc⟩
  simp only [if_true, Nat.zero_add, Int.toNat_natCast, Wb6 hf, Ac8 _ _ hX, l8]
  rfl
theorem Xb1 {α : Type} (c : α → Bool) : ∀ l : List α, (l.take (l.findIdx c)).filter (fun x => !c x) = l.take (l.findIdx c)
 | [] => rfl
 | x :: l => by
  rw [List.findIdx_cons]
  cases h : c x with
  | true => rfl
  | false =>
   simp only [cond_false, List.take_succ_cons, List.filter_cons, h, Bool.not_false, if_true]
   rw [Xb1 c l]
theorem td8 {α : Type} (l : List α) (j : Nat) (h : j < l.length) : l.take (j + 1) = l.take j ++ [l[j]] := by rw [List.take_succ_eq_append_getElem h]
theorem Wc8 {α : Type} (t : Ty α) {l : List α} {j : Nat} (h : j < l.length) : l.take (j + 1) = l.take j ++ [gL t l j] := by rw [td8 l j h, Na9 t h]
theorem ec6 {α : Type} (t : Ty α) {l r : List α} {j : Nat} (h : l.drop j = r.drop j) : gL t l j = gL t r j := by
 have h1 := Vb3 t l j 0
 have h2 := Vb3 t r j 0
 rw [Nat.add_zero] at h1 h2
 rw [← h1, ← h2, h]
theorem Xb2 {α : Type} {l r : List α} {j : Nat} (h : l.drop j = r.drop j) (k : Nat) : l.drop (j + k) = r.drop (j + k) := by rw [← List.drop_drop, ← List.drop_drop, h]
structure Del (l : List Pln) (f : Pln → Bool) (cur : List Pln) (m j : Nat) : Prop where
 len : cur.length = l.length
 t : cur.take m = (l.take j).filter f
 d : cur.drop j = l.drop j
 le : m ≤ j
 lm : m ≤ l.length
theorem kd8 (l : List Pln) (X : List Pt) (hl : l.length ≤ 1000000000) (hX : X.length ≤ 1000000000) (m j : Nat) (cur : List Pln) (hd : Del l (keep X) cur m j) :
  ∃ t s, lp (z8 ⟨l.length⟩) ⟨(m : Int), (j : Int), bL tP cur, X⟩ = (t, s) ∧ (t = 1 ∧ ∃ m' cur' k, s = ⟨((m' : Nat) : Int), ((k : Nat) : Int), bL tP cur', X⟩ ∧ Del l (keep X) cur' m' k ∧ l.length ≤ k) := by
 refine ia0 (step := z8 ⟨l.length⟩) (mk := fun j (x : Nat × List Pln) => (⟨(x.1 : Int), (j : Int), bL tP x.2, X⟩ : p7)) l.length (fun j x => Del l (keep X) x.2 x.1 j) (fun t s => t = 1 ∧ ∃ m' cur' k, s = ⟨((m' : Nat) : Int), ((k : Nat) : Int), bL tP cur', X⟩ ∧ Del l (keep X) cur' m' k ∧ l.length ≤ k) hl (fun j x hj hx => ?_) (fun j x hj hx => ?_) j (m, cur) hd
 ·obtain ⟨m, cur⟩ := x
  obtain ⟨h1, h2, h3, h4, h5⟩ := hx
  simp only at h1 h2 h3 h4 h5
  have hjc : j < cur.length := by omega
  have hmc : m < cur.length := by omega
  have hg : gL tP cur j = gL tP l j := ec6 tP h3
  have hWm : W ((m : Int) + 1) = ((m + 1 : Nat) : Int) := by rw [Y0 (by omega) (by omega)]; omega
  have hb : Nat.blt m cur.length = true := by rw [Nat.blt_eq]; exact hmc
  have hrow : m0 (bL tP cur) m = tP.row (gL tP cur m) := ca6 tP hmc
  have sp : ∀ (v : Pln) (x1 x2 x3 x4 : Int), T6 (tP.row v) 0 [i x1, i x2, i x3, i x4] = tP.row ⟨⟨x1, x2, x3⟩, x4⟩ := fun _ _ _ _ _ => rfl
  have rl : ∀ v : Pln, Nat.ble (0 + 4) (len (tP.row v)) = true := fun _ => rfl
  simp only [z8, C3, Int.toNat_natCast, l8, l6, oc0 hjc, Wb6 hjc, Ac8 _ _ hX, n8 hj (show l.length ≤ 4611686018427387904 by omega), hWm]
  rw [btD (l0 hj), bt (e8 hj)]
  simp only [Nat.zero_add, hrow, K1, hb, sp, zb2, e8 (show m < l.length by omega), hg]
  have ht := Wc8 tP hj
  have hd1 : cur.drop (j + 1) = l.drop (j + 1) := Xb2 h3 1
  cases hk : keep X (gL tP l j) with
  | true =>
   refine .nx ⟨(m + 1, cur.set m (gL tP l j)), rfl, ⟨by rw [List.length_set]; exact h1, ?_, ?_, by omega, by show m + 1 ≤ l.length; omega⟩⟩
   ·show (cur.set m (gL tP l j)).take (m + 1) = _
    rw [ht, List.filter_append, List.take_succ_eq_append_getElem (by rw [List.length_set]; exact hmc), List.getElem_set_self, List.take_set_of_le (Nat.le_refl _), h2, List.filter_cons, hk, if_pos rfl, List.filter_nil]
   ·show (cur.set m (gL tP l j)).drop (j + 1) = _
    rw [List.drop_set_of_lt (by omega), hd1]
  | false =>
   refine .nx ⟨(m, cur), rfl, ⟨h1, ?_, hd1, by omega, h5⟩⟩
   show cur.take m = _
   rw [ht, List.filter_append, h2, List.filter_cons, hk, if_neg (by simp), List.filter_nil, List.append_nil]
 ·obtain ⟨m, cur⟩ := x
  refine ⟨1, ?_, rfl, m, cur, j, rfl, hx, hj⟩
  simp only [z8, C3]
  rw [bfD (by omega)]
theorem zd9 (l : List Pln) (n : Nat) : I6 (bL tP l) n = bL tP (l.take n) := by unfold bL; rw [H7, o6, o6, List.map_take]
theorem Wc9 (l : List Pln) (n : Nat) : g9 (bL tP l) n = bL tP (l.drop n) := by unfold bL; rw [H8, o6, o6, List.map_drop]
theorem Ad0 (n : Nat) : List.replicate n [i 0, i 0, i 0, i 0] = bL tP (List.replicate n ⟨⟨0, 0, 0⟩, 0⟩) := by unfold bL; rw [o6, List.map_replicate]; rfl
theorem Gd8 (l : List Pln) (X : List Pt) (hl : l.length ≤ 1000000000) (hX : X.length ≤ 1000000000) :
  ∃ m r, T0 ⟨l.length, bL tP l, X⟩ = ⟨1, m, bL tP r, X⟩ ∧ m ≤ r.length ∧ r.take m = l.filter (keep X) ∧ r.length = l.length := by
 unfold T0 D2
 simp only [l8, l6, fe5 l X hl hX]
 cases ha : l.any fun p => !keep X p with
 | false =>
  refine ⟨l.length, l, rfl, Nat.le_refl _, ?_, rfl⟩
  rw [List.take_length]
  symm
  rw [List.filter_eq_self]
  intro p hp
  have := List.any_eq_false.1 ha p hp
  simpa using this
 | true =>
  have hf : l.findIdx (fun p => !keep X p) < l.length := by
   rw [List.any_eq_true] at ha
   obtain ⟨p, hp, hc⟩ := ha
   exact List.findIdx_lt_length_of_exists ⟨p, hp, hc⟩
  have hk : keep X (gL tP l (l.findIdx fun p => !keep X p)) = false := by
   have := List.findIdx_getElem (xs := l) (p := fun p => !keep X p) (w := hf)
   rw [Na9 tP hf]
   simpa using this
  have ht := Xb1 (fun p => !keep X p) l
  simp only [Bool.not_not] at ht
  generalize hF : l.findIdx (fun p => !keep X p) = F at *
  have hW : W ((F : Int) + 1) = ((F + 1 : Nat) : Int) := n8 hf (by omega)
  have hne : ((F : Int) == -1) = false := by rw [beq_eq_false_iff_ne]; omega
  obtain ⟨t, s, e1, rfl, m, cur, k, e2, e3, e4⟩ := kd8 l X hl hX F (F + 1) l ⟨rfl, by rw [Wc8 tP hf, List.filter_append, ht, List.filter_cons, hk, if_neg (by simp), List.filter_nil, List.append_nil], rfl, by omega, by omega⟩
  have hm : m ≤ l.length := e3.lm
  have hin : inB (m : Int) (l.length + 1) = true := e8 (by omega)
  have hfin : cur.take m = l.filter (keep X) := by rw [e3.t, List.take_of_length_le e4]
  simp only [if_true, hW, hne, e1, e2, Int.toNat_natCast, hin, Nat.zero_add, Nat.sub_zero]
  refine ⟨m, cur.take m ++ (List.replicate (l.length - m) ⟨⟨0, 0, 0⟩, 0⟩ ++ cur.drop (m + (l.length - m))), ?_, ?_, ?_, ?_⟩
  ·rw [zd9, Ad0, Wc9, Ja9, Ja9]
   rfl
  ·rw [List.length_append, List.length_append, List.length_take, List.length_replicate, e3.len]; omega
  ·rw [List.take_append_of_le_length (by rw [List.length_take, e3.len]; omega), List.take_take, Nat.min_self, hfin]
  ·rw [List.length_append, List.length_append, List.length_take, List.length_replicate, List.length_drop, e3.len]; omega
def eqP (x y : Pln) : Bool := x.n.x == y.n.x && (x.n.y == y.n.y && (x.n.z == y.n.z && (x.b == y.b && true)))
theorem Xc0 (x y : Pln) : eqP x y = true ↔ x = y := by
 unfold eqP
 simp only [Bool.and_true, Bool.and_eq_true, beq_iff_eq]
 refine ⟨fun ⟨h1, h2, h3, h4⟩ => ?_, fun h => by subst h; exact ⟨rfl, rfl, rfl, rfl⟩⟩
 obtain ⟨⟨x1, x2, x3⟩, x4⟩ := x
 obtain ⟨⟨y1, y2, y3⟩, y4⟩ := y
 simp only at h1 h2 h3 h4
 subst h1 h2 h3 h4
 rfl
def ddF : Pln → List Pln → List Pln
 | _, [] => []
 | a, x :: l => if eqP x a then ddF x l else x :: ddF x l
def dd : List Pln → List Pln
 | [] => []
 | x :: l => x :: ddF x l
structure Cmp (l : List Pln) (n : Nat) (cur : List Pln) (m j : Nat) (R : List Pln) : Prop where
 len : cur.length = l.length
 t : cur.take m ++ ddF (gL tP l (j - 1)) ((l.take n).drop j) = R
 d : cur.drop (j - 1) = l.drop (j - 1)
 le : m + 1 ≤ j
theorem Xc1 (l : List Pln) (n o : Nat) (hn : n ≤ l.length) (hl : l.length ≤ 1000000000) (ho : o < n) (m : Nat) (cur : List Pln) (R : List Pln) (hd : Cmp l n cur m (o + 1) R) :
  ∃ t s, lp (p6 ⟨n, 0 + o, n - o⟩) ⟨(m : Int), ((1 : Nat) : Int), bL tP cur⟩ = (t, s) ∧ (t = 1 ∧ ∃ m' cur' k, s = ⟨((m' : Nat) : Int), k, bL tP cur'⟩ ∧ cur'.length = l.length ∧ cur'.take m' = R ∧ m' ≤ n) := by
 refine ia0 (step := p6 ⟨n, 0 + o, n - o⟩) (mk := fun j (x : Nat × List Pln) => (⟨(x.1 : Int), (j : Int), bL tP x.2⟩ : o8)) (n - o) (fun j x => Cmp l n x.2 x.1 (o + j) R ∧ 1 ≤ j ∧ x.1 ≤ n) (fun t s => t = 1 ∧ ∃ m' cur' k, s = ⟨((m' : Nat) : Int), k, bL tP cur'⟩ ∧ cur'.length = l.length ∧ cur'.take m' = R ∧ m' ≤ n) (by omega) (fun j x hj hx => ?_) (fun j x hj hx => ?_) 1 (m, cur) ⟨hd, Nat.le_refl _, by have := hd.le; show m ≤ n; omega⟩
 ·obtain ⟨m, cur⟩ := x
  obtain ⟨⟨h1, h2, h3, h4⟩, hj1, hmn⟩ := hx
  simp only at h1 h2 h3 h4 hmn
  have hoj : o + j < n := by omega
  have hjc : o + j < cur.length := by omega
  have hjc' : o + (j - 1) < cur.length := by omega
  have hmc : m < cur.length := by omega
  have hg' : gL tP cur (o + (j - 1)) = gL tP l (o + j - 1) := by rw [show o + (j - 1) = o + j - 1 by omega]; exact ec6 tP h3
  have hd1 : cur.drop (o + j) = l.drop (o + j) := by have := Xb2 h3 1; rw [show o + j - 1 + 1 = o + j by omega] at this; exact this
  have hg : gL tP cur (o + j) = gL tP l (o + j) := ec6 tP hd1
  have hWm : W ((m : Int) + 1) = ((m + 1 : Nat) : Int) := by rw [Y0 (by omega) (by omega)]; omega
  have hWj : W ((j : Int) - 1) = ((j - 1 : Nat) : Int) := by rw [Y0 (by omega) (by omega)]; omega
  have hb : Nat.blt m cur.length = true := by rw [Nat.blt_eq]; exact hmc
  have hrow : m0 (bL tP cur) m = tP.row (gL tP cur m) := ca6 tP hmc
  have sp : ∀ (v : Pln) (x1 x2 x3 x4 : Int), T6 (tP.row v) 0 [i x1, i x2, i x3, i x4] = tP.row ⟨⟨x1, x2, x3⟩, x4⟩ := fun _ _ _ _ _ => rfl
  have rl : ∀ v : Pln, Nat.ble 4 (len (tP.row v)) = true := fun _ => rfl
  simp only [p6, I0, Int.toNat_natCast, Nat.zero_add, hWj, qd2 tP hjc, qd2 tP hjc', qd1 tP hjc, qd1 tP hjc', n8 hj (show n - o ≤ 4611686018427387904 by omega), hWm, hg, hg', hrow, K1, hb, sp, rl, zb2, e8 (show m < n by omega)]
  rw [btD (l0 hj)]
  simp only [e8 hj, e8 (show j - 1 < n - o by omega), n5, Bool.and_self]
  rw [show ((gL tP l (o + j)).n.x == (gL tP l (o + j - 1)).n.x && ((gL tP l (o + j)).n.y == (gL tP l (o + j - 1)).n.y && ((gL tP l (o + j)).n.z == (gL tP l (o + j - 1)).n.z && ((gL tP l (o + j)).b == (gL tP l (o + j - 1)).b && true)))) = eqP (gL tP l (o + j)) (gL tP l (o + j - 1)) from rfl]
  have hcons : (l.take n).drop (o + j) = gL tP l (o + j) :: (l.take n).drop (o + (j + 1)) := by
   rw [List.drop_eq_getElem_cons (by rw [List.length_take]; omega), List.getElem_take, Na9 tP (by omega)]
   rfl
  rw [hcons] at h2
  have hlast : o + (j + 1) - 1 = o + j := by omega
  unfold ddF at h2
  cases he : eqP (gL tP l (o + j)) (gL tP l (o + j - 1)) with
  | true =>
   rw [he] at h2
   simp only [if_true] at h2
   refine .nx ⟨(m, cur), rfl, ⟨⟨h1, ?_, ?_, by show m + 1 ≤ o + (j + 1); omega⟩, by omega, hmn⟩⟩
   ·rw [hlast]; exact h2
   ·rw [hlast]; exact hd1
  | false =>
   rw [he] at h2
   simp only [Bool.false_eq_true, if_false] at h2
   refine .nx ⟨(m + 1, cur.set m (gL tP l (o + j))), rfl, ⟨⟨by rw [List.length_set]; exact h1, ?_, ?_, by show m + 1 + 1 ≤ o + (j + 1); omega⟩, by omega, by show m + 1 ≤ n; omega⟩⟩
   ·rw [hlast]
    show (cur.set m (gL tP l (o + j))).take (m + 1) ++ _ = R
    rw [List.take_succ_eq_append_getElem (by rw [List.length_set]; exact hmc), List.getElem_set_self, List.take_set_of_le (Nat.le_refl _), List.append_assoc]
    exact h2
   ·rw [hlast]
    show (cur.set m (gL tP l (o + j))).drop (o + j) = _
    rw [List.drop_set_of_lt (by omega), hd1]
 ·obtain ⟨m, cur⟩ := x
  obtain ⟨⟨h1, h2, h3, h4⟩, hj1, hmn⟩ := hx
  simp only at h1 h2 h3 h4 hmn
  refine ⟨1, ?_, rfl, m, cur, _, rfl, h1, ?_, hmn⟩
  ·simp only [p6, I0]
   rw [bfD (by omega)]
  ·rw [List.drop_eq_nil_of_le (by rw [List.length_take]; omega)] at h2
   unfold ddF at h2
   rw [List.append_nil] at h2
   exact h2
theorem td9 (l : List Pln) (n : Nat) (hn : n ≤ l.length) (hl : l.length ≤ 1000000000) :
  ∃ m r, ba5 ⟨n, bL tP l⟩ = ⟨1, m, bL tP r⟩ ∧ m ≤ r.length ∧ r.take m = dd (l.take n) := by
 unfold ba5 J0
 simp only
 by_cases h2 : (n : Int) < 2
 ·rw [btD h2]
  refine ⟨n, l, rfl, hn, ?_⟩
  have : n = 0 ∨ n = 1 := by omega
  rcases this with rfl | rfl
  ·rfl
  ·cases l with
   | nil => rfl
   | cons x l => rfl
 ·rw [bfD h2]
  have h1n : 1 ≤ n := by omega
  have hI : ∀ j, j < n → 1 ≤ j → l.take j ++ ddF (gL tP l (j - 1)) ((l.take n).drop j) = dd (l.take n) →
    (eqP (gL tP l j) (gL tP l (j - 1)) = true → Cmp l n l j (j + 1) (dd (l.take n))) ∧ (eqP (gL tP l j) (gL tP l (j - 1)) = false → l.take (j + 1) ++ ddF (gL tP l (j + 1 - 1)) ((l.take n).drop (j + 1)) = dd (l.take n)) := by
   intro j hj hj1 hR
   have hcons : (l.take n).drop j = gL tP l j :: (l.take n).drop (j + 1) := by
    rw [List.drop_eq_getElem_cons (by rw [List.length_take]; omega), List.getElem_take, Na9 tP (by omega)]
   rw [hcons] at hR
   unfold ddF at hR
   constructor
   ·intro he
    rw [he] at hR
    simp only [if_true] at hR
    exact ⟨rfl, hR, rfl, Nat.le_refl _⟩
   ·intro he
    rw [he] at hR
    simp only [Bool.false_eq_true, if_false] at hR
    rw [Wc8 tP (show j < l.length by omega), List.append_assoc]
    exact hR
  have inner : ∀ k, k < n → 1 ≤ k → Cmp l n l k (k + 1) (dd (l.take n)) → ∃ m' cur' k', lp (p6 ⟨n, 0 + k, n - k⟩) ⟨(k : Int), 1, bL tP l⟩ = (1, ⟨((m' : Nat) : Int), k', bL tP cur'⟩) ∧ cur'.length = l.length ∧ cur'.take m' = dd (l.take n) ∧ m' ≤ n := by
   intro k hk hk1 hc
   obtain ⟨t, s, e1, rfl, m', cur', k', rfl, e2, e3, e4⟩ := Xc1 l n k hn hl hk k l _ hc
   exact ⟨m', cur', k', e1, e2, e3, e4⟩
  have key := ia0 (step := J4 ⟨n, bL tP l⟩) (mk := fun j (_ : Unit) => (⟨(j : Int)⟩ : p9)) n (fun j _ => 1 ≤ j ∧ j ≤ n ∧ l.take j ++ ddF (gL tP l (j - 1)) ((l.take n).drop j) = dd (l.take n))
   (fun t s => (t = 1 ∧ ∃ k : Nat, s = ⟨(k : Int)⟩ ∧ k < n ∧ 1 ≤ k ∧ Cmp l n l k (k + 1) (dd (l.take n))) ∨ (t = 2 ∧ l.take n = dd (l.take n))) (by omega) (fun j x hj hx => ?_) (fun j x hj hx => ?_) 1 () ⟨Nat.le_refl _, h1n, by
    cases l with
    | nil => simp only [List.length_nil] at hn; omega
    | cons x l =>
     cases n with
     | zero => omega
     | succ n => rfl⟩
  ·obtain ⟨t, s, e1, e2⟩ := key
   rw [show (⟨1⟩ : p9) = ⟨((1 : Nat) : Int)⟩ from rfl, e1]
   rcases e2 with ⟨rfl, k, rfl, hk, hk1, hc⟩ | ⟨rfl, he⟩
   ·obtain ⟨m', cur', k', e2, e3, e4, e5⟩ := inner k hk hk1 hc
    simp only [Int.toNat_natCast, e2]
    simp only [Nat.zero_add, Nat.sub_zero]
    refine ⟨m', cur'.take m' ++ (List.replicate (n - m') ⟨⟨0, 0, 0⟩, 0⟩ ++ cur'.drop (m' + (n - m'))), ?_, ?_, ?_⟩
    ·rw [zd9, Ad0, Wc9, Ja9, Ja9]
     rfl
    ·rw [List.length_append, List.length_take, e3]; omega
    ·rw [List.take_append_of_le_length (by rw [List.length_take, e3]; omega), List.take_take, Nat.min_self, e4]
   ·exact ⟨n, l, rfl, hn, he⟩
  ·obtain ⟨hj1, hjn, hR⟩ := hx
   obtain ⟨i1, i2⟩ := hI j hj hj1 hR
   have hWj : W ((j : Int) - 1) = ((j - 1 : Nat) : Int) := by rw [Y0 (by omega) (by omega)]; omega
   have hjl : j < l.length := by omega
   have hjl' : j - 1 < l.length := by omega
   simp only [J4, I1, Int.toNat_natCast, hWj, oc0 hjl, oc0 hjl', Wb6 hjl, Wb6 hjl', n8 hj (show n ≤ 4611686018427387904 by omega)]
   rw [btD (l0 hj), bt (e8 hj), bt (e8 (show j - 1 < n by omega)), bt (e8 (show j < n + 1 by omega))]
   simp only [n5]
   rw [show ((gL tP l j).n.x == (gL tP l (j - 1)).n.x && ((gL tP l j).n.y == (gL tP l (j - 1)).n.y && ((gL tP l j).n.z == (gL tP l (j - 1)).n.z && ((gL tP l j).b == (gL tP l (j - 1)).b && true)))) = eqP (gL tP l j) (gL tP l (j - 1)) from rfl]
   cases he : eqP (gL tP l j) (gL tP l (j - 1)) with
   | false => exact .nx ⟨(), rfl, by omega, by omega, i2 he⟩
   | true =>
    obtain ⟨m', cur', k', e2, e3, e4, e5⟩ := inner j hj hj1 (i1 he)
    rw [e2]
    simp only [e8 (show m' < n + 1 by omega)]
    exact .ex (.inl ⟨rfl, j, rfl, hj, hj1, i1 he⟩)
  ·obtain ⟨hj1, hjn, hR⟩ := hx
   refine ⟨2, ?_, .inr ⟨rfl, ?_⟩⟩
   ·simp only [J4, I1]
    rw [bfD (by omega)]
   ·have : j = n := by omega
    subst this
    rw [List.drop_eq_nil_of_le (by rw [List.length_take]; omega)] at hR
    unfold ddF at hR
    rw [List.append_nil] at hR
    exact hR
theorem Td0 (l : List Pln) (n : Nat) (hn : n ≤ l.length) : slR tP (bL tP l) 0 n = l.take n := sc3 tP (by rw [List.length_take]; omega) fun k hk => by
 rw [Nat.zero_add, ca6 tP (by omega)]
 congr 1
 simp [gL, List.getD_eq_getElem?_getD, List.getElem?_take, hk]
theorem Td1 (l : List Pln) (n : Nat) (hn : n ≤ l.length) : okS tP (bL tP l) 0 n = true := pb9 tP (f := fun k => gL tP l k) fun k hk => by rw [Nat.zero_add, ca6 tP (by omega)]
noncomputable def lean (c : List Pln) : List Pln := if ful c then dd (ub9 (c.filter (keep (pts c)))) else []
theorem Ad1 (p : Pln) (c : List Pln) (hc : c.length ≤ 1000000) : Rd (one (r1L tP)) (Ra0 (p, c)) (fun r => r = lean (p :: c)) := by
 have hl : (p :: c).length ≤ 1000000000 := by simp only [List.length_cons]; omega
 have hX := nc9 (p :: c)
 unfold Ra0 lean
 simp only [l8, K0, l6, we2, we3, sb1 hl, sb2 hl, nb6 hl, nb7 hl]
 cases hf : ful (p :: c) with
 | false => exact ⟨_, [], rfl, rfl, rfl⟩
 | true =>
  have ec : o7 (fun k => tP.row (gL tP (p :: c) k)) (List.range (c.length + 1)) = bL tP (p :: c) := Na8 tP (p :: c)
  have hcl : ia3 (p, c) = ⟨1, (p :: c).length, bL tP (p :: c)⟩ := by
   unfold ia3 M8
   simp only [ec, K1]
   have z : Nat.beq (p :: c).length 0 = false := rfl
   have r : Nat.ble ((0 + (p :: c).length) * 32) room = true := X5 (by simp only [List.length_cons]; omega)
   rw [z, r, Nat.zero_add]
   rfl
  obtain ⟨m, r, e1, e2, e3, e4⟩ := Gd8 (p :: c) (pts (p :: c)) hl (by omega)
  have hm : m ≤ (p :: c).length := by
   have h1 := congrArg List.length e3
   have h2 := List.length_filter_le (keep (pts (p :: c))) (p :: c)
   rw [List.length_take] at h1
   omega
  have hs : (ub9 (r.take m)).length = m := by rw [Nc2, List.length_take]; omega
  have hrows : app (bL tP (ub9 (r.take m))) (g9 (bL tP r) m) = bL tP (ub9 (r.take m) ++ r.drop m) := by rw [Wc9, Ja9]
  have hok : okL tP (c.length + 1) (fun k => tP.row (gL tP (p :: c) k)) = true := pb9 tP (f := fun k => gL tP (p :: c) k) fun _ _ => rfl
  simp only [hcl, e1, Td0 r m e2, Td1 r m e2, hrows, hok]
  obtain ⟨m2, r2, k1, k2, k3⟩ := td9 (ub9 (r.take m) ++ r.drop m) m (by rw [List.length_append, hs]; omega) (by rw [List.length_append, hs, List.length_drop, e4]; omega)
  rw [k1, K1]
  have q1 : Nat.ble m room = true := by rw [Nat.ble_eq]; unfold room; simp only [List.length_cons] at hm; omega
  have q2 : Nat.ble m r.length = true := by rw [Nat.ble_eq]; exact e2
  rw [q1, q2]
  have hfin : r2.take m2 = dd (ub9 ((p :: c).filter (keep (pts (p :: c))))) := by
   rw [k3, List.take_append_of_le_length (by rw [hs]; omega), List.take_of_length_le (by rw [hs]; omega), e3]
  exact re7 k2 rfl hfin
theorem re8 (p : Pln) (c : List Pln) (hc : c.length ≤ 1000000) : Db2 (p, c) = lean (p :: c) := (Ad1 p c hc).p
theorem re9 (p : Pln) (c : List Pln) (hc : c.length ≤ 1000000) : Db3 (p, c) = true := (Ad1 p c hc).g
end Go.Ev.Ce
namespace Go.Ev.Ce
open Go Go.Ev Go.Ev.L Go.Proofs Go.Sort
theorem ud0 (l : List Pln) : List.Perm (ub9 l) l := List.mergeSort_perm l _
theorem Gd9 (x y z : Pln) (h1 : (!ltOf fa7 y x) = true) (h2 : (!ltOf fa7 z y) = true) : (!ltOf fa7 z x) = true := by
 simp only [Bool.not_eq_true', Ya0, decide_eq_false_iff_not] at *
 unfold LtP at *
 omega
theorem Hd0 (x y : Pln) : ((!ltOf fa7 y x) || !ltOf fa7 x y) = true := by
 simp only [Bool.or_eq_true, Bool.not_eq_true', Ya0, decide_eq_false_iff_not]
 unfold LtP
 omega
theorem Xc2 (l : List Pln) : (ub9 l).Pairwise fun x y => (!ltOf fa7 y x) = true := List.pairwise_mergeSort Gd9 Hd0 l
theorem Xc3 {l r : List Pln} (hp : List.Perm r l) (hs : r.Pairwise fun x y => (!ltOf fa7 y x) = true) : ub9 l = r :=
 List.Perm.eq_of_pairwise (fun x y _ _ h1 h2 => De0 x y (by simpa using h2) (by simpa using h1)) (Xc2 l) hs ((ud0 l).trans hp.symm)
instance : DecidableEq Pln := fun x y => decidable_of_iff _ (Xc0 x y)
def U6 : List Pln := [⟨⟨1, 0, 0⟩, 1⟩, ⟨⟨-1, 0, 0⟩, 0⟩, ⟨⟨0, 1, 0⟩, 1⟩, ⟨⟨0, -1, 0⟩, 0⟩, ⟨⟨0, 0, 1⟩, 1⟩, ⟨⟨0, 0, -1⟩, 0⟩]
def U8 : List Pln := [⟨⟨-1, 0, 0⟩, 0⟩, ⟨⟨0, 1, 0⟩, 1⟩, ⟨⟨0, -1, 0⟩, 0⟩, ⟨⟨0, 0, 1⟩, 1⟩, ⟨⟨0, 0, -1⟩, 0⟩, ⟨⟨1, 0, 0⟩, 1⟩, ⟨⟨1, 1, 1⟩, 3⟩, ⟨⟨1, 0, 0⟩, 7⟩]
def C4 : List Pln := [⟨⟨-1, 0, 0⟩, 0⟩, ⟨⟨0, -1, 0⟩, 0⟩, ⟨⟨0, 0, -1⟩, 0⟩, ⟨⟨2, 3, 4⟩, 1⟩]
def U7 : List Pln := [⟨⟨1, 0, 0⟩, 1⟩, ⟨⟨-1, 0, 0⟩, 0⟩, ⟨⟨0, 1, 0⟩, 1⟩, ⟨⟨0, -1, 0⟩, 0⟩, ⟨⟨0, 0, 1⟩, 1⟩, ⟨⟨0, 0, -1⟩, 0⟩, ⟨⟨-1, 0, 0⟩, -1⟩]
def LU : List Pln := [⟨⟨-1, 0, 0⟩, 0⟩, ⟨⟨0, -1, 0⟩, 0⟩, ⟨⟨0, 0, -1⟩, 0⟩, ⟨⟨0, 0, 1⟩, 1⟩, ⟨⟨0, 1, 0⟩, 1⟩, ⟨⟨1, 0, 0⟩, 1⟩]
def PU : List Pt := [⟨1, 1, 1, 1⟩, ⟨1, 1, 0, 1⟩, ⟨1, 0, 1, 1⟩, ⟨1, 0, 0, 1⟩, ⟨0, 1, 1, 1⟩, ⟨0, 1, 0, 1⟩, ⟨0, 0, 1, 1⟩, ⟨0, 0, 0, 1⟩]
def PC : List Pt := [⟨0, 0, 0, 1⟩, ⟨0, 0, 1, 4⟩, ⟨0, 1, 0, 3⟩, ⟨1, 0, 0, 2⟩]
theorem se0 : pts U6 = PU := by kernel_rfl
theorem se1 : pts C4 = PC := by kernel_rfl
theorem se2 : ful [] = true := by kernel_rfl
theorem se3 : ful U7 = false := by kernel_rfl
theorem se4 : has U6 ⟨1, 0, 0⟩ = true := by kernel_rfl
theorem se5 : has U6 ⟨2, 0, 0⟩ = false := by kernel_rfl
theorem De4 : bnd C4 = (⟨0, 0, 0⟩, ⟨1, 1, 1⟩, true) := by kernel_rfl
theorem De5 : apart U6 [⟨⟨-1, 0, 0⟩, -1⟩] = true := by kernel_rfl
theorem De6 : apart U6 [⟨⟨-1, -1, 0⟩, -1⟩] = false := by kernel_rfl
theorem De7 : Ac6 U6 [⟨⟨1, 1, 1⟩, 3⟩] = true := by kernel_rfl
theorem De8 : Ac6 U6 [⟨⟨1, 1, 1⟩, 2⟩] = false := by kernel_rfl
theorem De9 : chk [⟨⟨0, 0, 0⟩, 0⟩] = 12 := by kernel_rfl
theorem Ee0 : (⟨⟨1, 0, 0⟩, 1⟩ :: U8).filter (keep (pts (⟨⟨1, 0, 0⟩, 1⟩ :: U8))) = [⟨⟨1, 0, 0⟩, 1⟩, ⟨⟨-1, 0, 0⟩, 0⟩, ⟨⟨0, 1, 0⟩, 1⟩, ⟨⟨0, -1, 0⟩, 0⟩, ⟨⟨0, 0, 1⟩, 1⟩, ⟨⟨0, 0, -1⟩, 0⟩, ⟨⟨1, 0, 0⟩, 1⟩] := by kernel_rfl
theorem se6 : ful (⟨⟨1, 0, 0⟩, 1⟩ :: U8) = true := by kernel_rfl
theorem se7 : lean (⟨⟨1, 0, 0⟩, 1⟩ :: U8) = LU := by
 unfold lean
 rw [se6, if_pos rfl, Ee0, Xc3 (r := [⟨⟨-1, 0, 0⟩, 0⟩, ⟨⟨0, -1, 0⟩, 0⟩, ⟨⟨0, 0, -1⟩, 0⟩, ⟨⟨0, 0, 1⟩, 1⟩, ⟨⟨0, 1, 0⟩, 1⟩, ⟨⟨1, 0, 0⟩, 1⟩, ⟨⟨1, 0, 0⟩, 1⟩])]
 ·rfl
 ·exact List.isPerm_iff.1 (by kernel_rfl)
 ·exact of_decide_eq_true (by kernel_rfl)
theorem fe6 : tb6 = ⟨1, 0, 1, 0, 1, 0⟩ := by kernel_rfl
theorem Nc4 : va2 = some (b true, []) := by
 have le : ∀ {c : List Pln}, c.length ≤ 100 → c.length ≤ 1000000000 := fun h => by omega
 have le' : ∀ {c : List Pln}, c.length ≤ 100 → c.length ≤ 100000000 := fun h => by omega
 have u : U6.length ≤ 100 := by decide
 have u7 : U7.length ≤ 100 := by decide
 have u8 : U8.length ≤ 1000000 := by decide
 have c4 : C4.length ≤ 100 := by decide
 have n0 : ([] : List Pln).length ≤ 100 := by decide
 have o1 : ∀ p : Pln, [p].length ≤ 100 := fun _ => (by decide : 1 ≤ 100)
 unfold va2
 rw [fe6]
 simp only [l8, K0]
 rw [show ([⟨⟨1, 0, 0⟩, 1⟩, ⟨⟨-1, 0, 0⟩, 0⟩, ⟨⟨0, 1, 0⟩, 1⟩, ⟨⟨0, -1, 0⟩, 0⟩, ⟨⟨0, 0, 1⟩, 1⟩, ⟨⟨0, 0, -1⟩, 0⟩, ⟨⟨-1, 0, 0⟩, -1⟩] : List Pln) = U7 from rfl,
  show ([⟨⟨-1, 0, 0⟩, 0⟩, ⟨⟨0, 1, 0⟩, 1⟩, ⟨⟨0, -1, 0⟩, 0⟩, ⟨⟨0, 0, 1⟩, 1⟩, ⟨⟨0, 0, -1⟩, 0⟩, ⟨⟨1, 0, 0⟩, 1⟩, ⟨⟨1, 1, 1⟩, 3⟩, ⟨⟨1, 0, 0⟩, 7⟩] : List Pln) = U8 from rfl,
  show ([⟨⟨1, 0, 0⟩, 1⟩, ⟨⟨-1, 0, 0⟩, 0⟩, ⟨⟨0, 1, 0⟩, 1⟩, ⟨⟨0, -1, 0⟩, 0⟩, ⟨⟨0, 0, 1⟩, 1⟩, ⟨⟨0, 0, -1⟩, 0⟩] : List Pln) = U6 from rfl,
  show ([⟨⟨-1, 0, 0⟩, 0⟩, ⟨⟨0, -1, 0⟩, 0⟩, ⟨⟨0, 0, -1⟩, 0⟩, ⟨⟨2, 3, 4⟩, 1⟩] : List Pln) = C4 from rfl,
  show ([⟨⟨-1, 0, 0⟩, 0⟩, ⟨⟨0, -1, 0⟩, 0⟩, ⟨⟨0, 0, -1⟩, 0⟩, ⟨⟨0, 0, 1⟩, 1⟩, ⟨⟨0, 1, 0⟩, 1⟩, ⟨⟨1, 0, 0⟩, 1⟩] : List Pln) = LU from rfl]
 simp only [nb6 (le u), nb7 (le u), nb6 (le c4), nb7 (le c4), se0, se1, re8 _ U8 u8, re9 _ U8 u8, se7, sb1 (le n0), sb2 (le n0), se2, sb1 (le u7), sb2 (le u7), se3,
  Ce7 (le u), Ce8 (le u), se4, se5, ee1 (le c4), ee2 (le c4), De4, tb7 (le' u) (le' (o1 _)), tb8 (le' u) (le' (o1 _)), De5, De6, Ia2 (le u) (le (o1 _)), Ia3 (le u) (le (o1 _)), De7, De8,
  yd0 _ (le (o1 _)), yd1 _ (le (o1 _)), De9]
 rw [show ([⟨1, 1, 1, 1⟩, ⟨1, 1, 0, 1⟩, ⟨1, 0, 1, 1⟩, ⟨1, 0, 0, 1⟩, ⟨0, 1, 1, 1⟩, ⟨0, 1, 0, 1⟩, ⟨0, 0, 1, 1⟩, ⟨0, 0, 0, 1⟩] : List Pt) = PU from rfl,
  show ([⟨0, 0, 0, 1⟩, ⟨0, 0, 1, 4⟩, ⟨0, 1, 0, 3⟩, ⟨1, 0, 0, 2⟩] : List Pt) = PC from rfl]
 simp only [Wb3 PU (by decide), Wb4 PU (by decide), Wb3 PC (by decide), Wb4 PC (by decide), re2 LU (by decide), re3 LU (by decide)]
 rfl
theorem Td2 : Ia4 = true := by unfold Ia4; rw [Nc4]; rfl
theorem Td3 : Ia5 = true := by unfold Ia5; rw [Nc4]; rfl
end Go.Ev.Ce
section
namespace Go.Ev.Ce
open Go Go.Ev Go.Ev.L Go.Proofs
set_option maxRecDepth 100000
structure le4 where
 c9 : List Pln
 f9 : Int
 c7 : Int
 g7 : Int
 d9 : Int
structure le5 where
 is5 : Int
structure Td4 where
 ic7 : List Pln
 Ee7 : List Pt
structure Td5 where
 is6 : Int
end Go.Ev.Ce
end
section
namespace Go.Ev.Ce
open Go Go.Ev Go.Ev.L Go.Proofs
set_option maxRecDepth 100000
structure Ib5 where
structure Db5 where
structure Db6 where
structure Ib6 where
 alt : Nat
structure ec7 where
structure Xb3 where
structure Xb4 where
structure ec8 where
 alt : Nat
structure Hc7 where
structure Hc8 where
 alt : Nat
structure Bc9 where
 j6 : List Pt
structure oc2 where
 j6 : List Pt
structure oc3 where
structure Cc0 where
 alt : Nat
 j6 : List Pt
structure Ac9 where
 j6 : List Pt
structure Bc0 where
 alt : Nat
 j6 : List Pt
structure Nc5 where
structure Nc6 where
structure Yc2 where
structure Yc3 where
end Go.Ev.Ce
end
section
namespace Go.Ev.Ce
open Go Go.Ev Go.Ev.L Go.Proofs
set_option maxRecDepth 100000
structure Td6 where
 is1 : Int
structure Td7 where
 ph : Nat
 is7 : Int
 g8 : List Int
 c7 : Int
 ns6 : Nat
 eh1 : List (List b7)
structure fe7 where
 c9 : List Pln
 Ua7 : List Pt
 is5 : Int
 Ee8 : List Pln
structure fe8 where
 ph : Nat
 is6 : Int
 is7 : Int
structure fe9 where
structure ge0 where
 ph : Nat
 c9 : List Pln
 Ua7 : List Pt
 is5 : Int
 Ee8 : List Pln
end Go.Ev.Ce
end
namespace Go.Ev.Ce
open Go Go.Ev Go.Ev.L Go.Proofs
theorem ge1 (p q : Pln) : ja1 p q = some (i (fa7 p q), []) := by
 have key : ∃ t s, lp (F7 ⟨p.n.x, p.n.y, p.n.z, p.b, q.n.x, q.n.y, q.n.z, q.b⟩) ⟨0⟩ = (t, s) ∧ ((t = 1 ∧ fa7 p q = -1) ∨ (t = 2 ∧ fa7 p q = 1) ∨ (t = 3 ∧ fa7 p q = 0)) := by
  refine ia0 (step := F7 ⟨p.n.x, p.n.y, p.n.z, p.b, q.n.x, q.n.y, q.n.z, q.b⟩) (mk := fun j (_ : Unit) => (⟨(j : Int)⟩ : L6)) 4
   (fun j _ => (1 ≤ j → p.n.x = q.n.x) ∧ (2 ≤ j → p.n.y = q.n.y) ∧ (3 ≤ j → p.n.z = q.n.z) ∧ (4 ≤ j → p.b = q.b))
   (fun t s => (t = 1 ∧ fa7 p q = -1) ∨ (t = 2 ∧ fa7 p q = 1) ∨ (t = 3 ∧ fa7 p q = 0)) (by omega) (fun j x hj hI => ?_) (fun j x hj hI => ?_) 0 () ⟨by omega, by omega, by omega, by omega⟩
  ·have hn := n8 hj (show 4 ≤ 4611686018427387904 by omega)
   simp only [F7, Q0, Int.toNat_natCast, hn]
   have hlt : (j : Int) < 4 := by omega
   have hin := e8 hj
   have g : ∀ x1 x2 x3 x4 : Int, ((Nat.ble ((0 + (j * 1)) + 1) 4) && (Q6 [(CK.int .i64)] (g9 [(i x1), (i x2), (i x3), (i x4)] (0 + (j * 1))))) = true := by
    intro x1 x2 x3 x4
    match j, hj with
    | 0, _ => rfl
    | 1, _ => rfl
    | 2, _ => rfl
    | 3, _ => rfl
   rw [btD hlt]
   simp only [hin, g, n5]
   obtain ⟨i1, i2, i3, i4⟩ := hI
   match j, hj with
   | 0, _ =>
    show Nx (sl (decide (p.n.x < q.n.x)) _ (sl (decide (p.n.x > q.n.x)) _ _)) _ _
    refine Nx.sl (fun h => .ex ?_) fun h => Nx.sl (fun h' => .ex ?_) fun h' => .nx ⟨(), rfl, ?_⟩ <;> simp only [decide_eq_true_eq, decide_eq_false_iff_not] at h
    ·left; exact ⟨rfl, by simp [fa7, cb8, h]⟩
    ·right; left; simp only [decide_eq_true_eq] at h'; exact ⟨rfl, by simp [fa7, cb8, h, h']⟩
    ·simp only [decide_eq_false_iff_not] at h'; exact ⟨by omega, by omega, by omega, by omega⟩
   | 1, _ =>
    have j1 := i1 (by omega)
    show Nx (sl (decide (p.n.y < q.n.y)) _ (sl (decide (p.n.y > q.n.y)) _ _)) _ _
    refine Nx.sl (fun h => .ex ?_) fun h => Nx.sl (fun h' => .ex ?_) fun h' => .nx ⟨(), rfl, ?_⟩ <;> simp only [decide_eq_true_eq, decide_eq_false_iff_not] at h
    ·left; exact ⟨rfl, by simp [fa7, cb8, h, j1]⟩
    ·right; left; simp only [decide_eq_true_eq] at h'; exact ⟨rfl, by simp [fa7, cb8, h, h', j1]⟩
    ·simp only [decide_eq_false_iff_not] at h'; exact ⟨fun _ => j1, by omega, by omega, by omega⟩
   | 2, _ =>
    have j1 := i1 (by omega); have j2 := i2 (by omega)
    show Nx (sl (decide (p.n.z < q.n.z)) _ (sl (decide (p.n.z > q.n.z)) _ _)) _ _
    refine Nx.sl (fun h => .ex ?_) fun h => Nx.sl (fun h' => .ex ?_) fun h' => .nx ⟨(), rfl, ?_⟩ <;> simp only [decide_eq_true_eq, decide_eq_false_iff_not] at h
    ·left; exact ⟨rfl, by simp [fa7, cb8, h, j1, j2]⟩
    ·right; left; simp only [decide_eq_true_eq] at h'; exact ⟨rfl, by simp [fa7, cb8, h, h', j1, j2]⟩
    ·simp only [decide_eq_false_iff_not] at h'; exact ⟨fun _ => j1, fun _ => j2, by omega, by omega⟩
   | 3, _ =>
    have j1 := i1 (by omega); have j2 := i2 (by omega); have j3 := i3 (by omega)
    show Nx (sl (decide (p.b < q.b)) _ (sl (decide (p.b > q.b)) _ _)) _ _
    refine Nx.sl (fun h => .ex ?_) fun h => Nx.sl (fun h' => .ex ?_) fun h' => .nx ⟨(), rfl, ?_⟩ <;> simp only [decide_eq_true_eq, decide_eq_false_iff_not] at h
    ·left; exact ⟨rfl, by simp [fa7, cb8, h, j1, j2, j3]⟩
    ·right; left; simp only [decide_eq_true_eq] at h'; exact ⟨rfl, by simp [fa7, cb8, h, h', j1, j2, j3]⟩
    ·simp only [decide_eq_false_iff_not] at h'; exact ⟨fun _ => j1, fun _ => j2, fun _ => j3, by omega⟩
  ·simp only [F7, Q0]
   rw [bfD (by omega)]
   obtain ⟨i1, i2, i3, i4⟩ := hI
   have j1 := i1 (by omega); have j2 := i2 (by omega); have j3 := i3 (by omega); have j4 := i4 (by omega)
   exact ⟨_, rfl, .inr (.inr ⟨rfl, by simp [fa7, cb8, j1, j2, j3, j4]⟩)⟩
 obtain ⟨t, s, h1, h2⟩ := key
 unfold ja1
 simp only
 rw [h1]
 rcases h2 with ⟨rfl, e⟩ | ⟨rfl, e⟩ | ⟨rfl, e⟩ <;> rw [e] <;> rfl
theorem se8 (p q : Pln) : ja2 p q = fa7 p q := by unfold ja2; rw [ge1]; rfl
def atP (x : List Pln) (y : Pln) : Nat := x.findIdx fun p => !decide (fa7 p y < 0)
noncomputable def ins (x : List Pln) (y : Pln) : List Pln := if (atP x y < x.length ∧ eqP (gL tP x (atP x y)) y = true) then x else vb5 x y (atP x y)
def cb9 (l : List Pln) : Prop := l.Pairwise LtP
theorem Hd1 {x y z : Pln} (h1 : LtP x y) (h2 : LtP y z) : LtP x z := by unfold LtP at *; omega
theorem ge2 (x : Pln) : ¬ LtP x x := by unfold LtP; omega
theorem ge3 (x y : Pln) : LtP x y ∨ x = y ∨ LtP y x := by
 by_cases h1 : LtP x y
 ·exact .inl h1
 ·by_cases h2 : LtP y x
  ·exact .inr (.inr h2)
  ·refine .inr (.inl ?_)
   unfold LtP at h1 h2
   have e1 : x.n.x = y.n.x := by omega
   have e2 : x.n.y = y.n.y := by omega
   have e3 : x.n.z = y.n.z := by omega
   have e4 : x.b = y.b := by omega
   cases x with | mk n b => cases y with | mk m c => cases n; cases m; simp_all
def fb5 : List Pln → Pln → List Pln
 | [], y => [y]
 | a :: l, y => if fa7 a y < 0 then a :: fb5 l y else if eqP a y then a :: l else y :: a :: l
theorem Td8 (y : Pln) : ∀ x, ins x y = fb5 x y
 | [] => rfl
 | a :: l => by
  have ih := Td8 y l
  unfold fb5
  by_cases h : fa7 a y < 0
  ·rw [if_pos h, ← ih]
   have e : atP (a :: l) y = atP l y + 1 := by unfold atP; rw [List.findIdx_cons]; simp [h]
   unfold ins
   rw [e]
   have e2 : gL tP (a :: l) (atP l y + 1) = gL tP l (atP l y) := rfl
   rw [e2]
   simp only [List.length_cons, Nat.add_lt_add_iff_right]
   split
   ·rfl
   ·rfl
  ·rw [if_neg h]
   have e : atP (a :: l) y = 0 := by unfold atP; rw [List.findIdx_cons]; simp [h]
   unfold ins
   rw [e]
   have e2 : gL tP (a :: l) 0 = a := rfl
   rw [e2]
   simp only [List.length_cons, Nat.zero_lt_succ, true_and]
   split
   ·rfl
   ·rfl
theorem ob1 (y p : Pln) : ∀ x, p ∈ fb5 x y ↔ p = y ∨ p ∈ x
 | [] => by simp [fb5]
 | a :: l => by
  unfold fb5
  have ih := ob1 y p l
  split
  ·simp only [List.mem_cons, ih]
   constructor
   ·rintro (h | h | h)
    ·exact .inr (.inl h)
    ·exact .inl h
    ·exact .inr (.inr h)
   ·rintro (h | h | h)
    ·exact .inr (.inl h)
    ·exact .inl h
    ·exact .inr (.inr h)
  ·split
   ·rename_i h
    rw [Xc0] at h
    subst h
    simp only [List.mem_cons]
    constructor
    ·exact fun h => .inr h
    ·rintro (h | h)
     ·exact .inl h
     ·exact h
   ·simp only [List.mem_cons]
theorem Xb5 (y : Pln) : ∀ {x}, cb9 x → cb9 (fb5 x y)
 | [], _ => List.pairwise_singleton _ _
 | a :: l, h => by
  obtain ⟨h1, h2⟩ := List.pairwise_cons.1 h
  unfold fb5
  split
  ·rename_i hc
   rw [Wc5] at hc
   refine List.pairwise_cons.2 ⟨fun p hp => ?_, Xb5 y h2⟩
   rcases (ob1 y p l).1 hp with e | hp
   ·subst e; exact hc
   ·exact h1 p hp
  ·rename_i hc
   rw [Wc5] at hc
   split
   ·exact h
   ·rename_i hne
    have hlt : LtP y a := by
     rcases ge3 y a with h | h | h
     ·exact h
     ·exact absurd ((Xc0 _ _).2 h.symm) hne
     ·exact absurd h hc
    refine List.pairwise_cons.2 ⟨fun p hp => ?_, h⟩
    rcases List.mem_cons.1 hp with e | hp
    ·subst e; exact hlt
    ·exact Hd1 hlt (h1 p hp)
end Go.Ev.Ce
namespace Go.Ev.Ce
open Go Go.Ev Go.Ev.L Go.Proofs
theorem Ad2 {σ : Type} {step : σ → Stp σ} {s : σ} {t : Nat} (h : step s = .exit t) : lp step s = (t, s) := by rw [Ld1]; exact sc0 h
end Go.Ev.Ce
namespace Go.Ev.Ce
def rmZ (p : Pln) (x : Pt) : Int := p.b * x.pw - (p.n.x * x.px + p.n.y * x.py + p.n.z * x.pz)
structure Inr (r : List Pln) (x : Pt) : Prop where
 w : 0 < x.pw
 h : ∀ p ∈ r, 0 ≤ rmZ p x
def fa8 (p : Pln) : Pln := ⟨⟨-p.n.x, -p.n.y, -p.n.z⟩, -p.b⟩
theorem za4 (p : Pln) (x : Pt) : rmZ (fa8 p) x = -rmZ p x := by unfold rmZ fa8; grind
structure Cn (r : List Pln) (x : Pt) : Prop extends Inr r x where
 c : ∃ p q s, p ∈ r ∧ q ∈ r ∧ s ∈ r ∧ mw p q s ≠ 0 ∧ rmZ p x = 0 ∧ rmZ q x = 0 ∧ rmZ s x = 0
def Bdd (r : List Pln) : Prop := ∀ d : V3, d ≠ ⟨0, 0, 0⟩ → ∃ p ∈ r, 0 < dot p.n d
def go (x : Pt) (q : Pln) (d : V3) : Pt := ⟨x.px * dot q.n d + rmZ q x * d.x, x.py * dot q.n d + rmZ q x * d.y, x.pz * dot q.n d + rmZ q x * d.z, x.pw * dot q.n d⟩
theorem kd9 (p q : Pln) (x : Pt) (d : V3) : rmZ p (go x q d) = dot q.n d * rmZ p x - rmZ q x * dot p.n d := by simp only [rmZ, go, dot]; grind
theorem Na3 {a b c : Int} (hc : 0 < c) (h : a * c ≤ b * c) : a ≤ b := Int.le_of_mul_le_mul_right h hc
theorem first (x : Pt) (d : V3) : ∀ r : List Pln, (∀ p ∈ r, 0 ≤ rmZ p x) → (∃ p ∈ r, 0 < dot p.n d) → ∃ q ∈ r, 0 < dot q.n d ∧ ∀ p ∈ r, 0 < dot p.n d → rmZ q x * dot p.n d ≤ rmZ p x * dot q.n d
 | [], _, h => by obtain ⟨p, hp, _⟩ := h; cases hp
 | a :: r, hx, h => by
  by_cases hr : ∃ p ∈ r, 0 < dot p.n d
  ·obtain ⟨q, hq, h1, h2⟩ := first x d r (fun p hp => hx p (List.mem_cons_of_mem _ hp)) hr
   by_cases ha : 0 < dot a.n d
   ·by_cases hc : rmZ q x * dot a.n d ≤ rmZ a x * dot q.n d
    ·refine ⟨q, List.mem_cons_of_mem _ hq, h1, fun p hp h3 => ?_⟩
     rcases List.mem_cons.1 hp with rfl | hp
     ·exact hc
     ·exact h2 p hp h3
    ·refine ⟨a, List.mem_cons_self, ha, fun p hp h3 => ?_⟩
     rcases List.mem_cons.1 hp with rfl | hp
     ·exact Int.le_refl _
     ·have h4 := h2 p hp h3
      have h5 : rmZ a x * dot q.n d < rmZ q x * dot a.n d := by omega
      have h6 := Int.mul_le_mul_of_nonneg_right h4 (Int.le_of_lt ha)
      have h7 := Int.mul_lt_mul_of_pos_right h5 h3
      have e1 : rmZ q x * dot p.n d * dot a.n d = rmZ q x * dot a.n d * dot p.n d := by grind
      have e2 : rmZ a x * dot q.n d * dot p.n d = rmZ a x * dot p.n d * dot q.n d := by grind
      have e3 : rmZ p x * dot q.n d * dot a.n d = rmZ p x * dot a.n d * dot q.n d := by grind
      refine Na3 h1 ?_
      omega
   ·refine ⟨q, List.mem_cons_of_mem _ hq, h1, fun p hp h3 => ?_⟩
    rcases List.mem_cons.1 hp with rfl | hp
    ·exact absurd h3 ha
    ·exact h2 p hp h3
  ·have ha : 0 < dot a.n d := by
    obtain ⟨p, hp, h3⟩ := h
    rcases List.mem_cons.1 hp with rfl | hp
    ·exact h3
    ·exact absurd ⟨p, hp, h3⟩ hr
   refine ⟨a, List.mem_cons_self, ha, fun p hp h3 => ?_⟩
   rcases List.mem_cons.1 hp with rfl | hp
   ·exact Int.le_refl _
   ·exact absurd ⟨p, hp, h3⟩ hr
theorem step {r : List Pln} {x : Pt} (hx : Inr r x) (d : V3) (h : ∃ p ∈ r, 0 < dot p.n d) : ∃ q ∈ r, 0 < dot q.n d ∧ Inr r (go x q d) := by
 obtain ⟨q, hq, h1, h2⟩ := first x d r hx.h h
 refine ⟨q, hq, h1, ⟨Int.mul_pos hx.w h1, fun p hp => ?_⟩⟩
 rw [kd9]
 have h3 := hx.h p hp
 have h4 := hx.h q hq
 by_cases h5 : 0 < dot p.n d
 ·have := h2 p hp h5
  have e : rmZ p x * dot q.n d = dot q.n d * rmZ p x := Int.mul_comm _ _
  omega
 ·have h6 := Int.mul_nonneg (Int.le_of_lt h1) h3
  have h7 : rmZ q x * dot p.n d ≤ 0 := Int.mul_nonpos_of_nonneg_of_nonpos h4 (by omega)
  omega
theorem Td9 {h q : Pln} {x : Pt} {d : V3} (h1 : 0 ≤ rmZ q x) (h2 : 0 ≤ dot h.n d) : rmZ h (go x q d) * x.pw ≤ rmZ h x * (go x q d).pw ∨ x.pw ≤ 0 := by
 rcases Int.lt_or_le 0 x.pw with hw | hw
 ·left
  rw [kd9]
  have := Int.mul_nonneg h1 h2
  have h3 := Int.mul_nonneg this (Int.le_of_lt hw)
  have e : rmZ h x * (go x q d).pw = dot q.n d * rmZ h x * x.pw := by unfold go; grind
  have e2 : (dot q.n d * rmZ h x - rmZ q x * dot h.n d) * x.pw = dot q.n d * rmZ h x * x.pw - rmZ q x * dot h.n d * x.pw := by grind
  omega
 ·exact .inr hw
def neg (d : V3) : V3 := ⟨-d.x, -d.y, -d.z⟩
theorem Ad3 (a d : V3) : dot a (neg d) = -dot a d := by unfold dot neg; grind
theorem se9 {d : V3} (h : d ≠ ⟨0, 0, 0⟩) : neg d ≠ ⟨0, 0, 0⟩ := fun h' => h (by
 cases d; unfold neg at h'; simp only [V3.mk.injEq] at h' ⊢; omega)
theorem turn (h : Pln) {d : V3} (hd : d ≠ ⟨0, 0, 0⟩) : ∃ e, e ≠ (⟨0, 0, 0⟩ : V3) ∧ 0 ≤ dot h.n e ∧ ∀ a, dot a d = 0 → dot a e = 0 := by
 by_cases h1 : 0 ≤ dot h.n d
 ·exact ⟨d, hd, h1, fun _ h => h⟩
 ·exact ⟨neg d, se9 hd, by rw [Ad3]; omega, fun a h => by rw [Ad3, h]; rfl⟩
theorem Ne3 {n : V3} (hn : n ≠ ⟨0, 0, 0⟩) : ∃ d, d ≠ (⟨0, 0, 0⟩ : V3) ∧ dot n d = 0 := by
 by_cases h : n.x = 0 ∧ n.y = 0
 ·exact ⟨⟨1, 0, 0⟩, by simp, by unfold dot; simp [h.1]⟩
 ·refine ⟨⟨n.y, -n.x, 0⟩, fun h' => h ?_, by unfold dot; grind⟩
  simp only [V3.mk.injEq] at h'
  omega
theorem V3.ext' {a b : V3} (h1 : a.x = b.x) (h2 : a.y = b.y) (h3 : a.z = b.z) : a = b := by cases a; cases b; simp_all
theorem Ud0 {m n d : V3} (hm : m ≠ ⟨0, 0, 0⟩) (h1 : dot m d = 0) (h2 : dot n d ≠ 0) : i6 m n ≠ ⟨0, 0, 0⟩ := fun h => by
 unfold i6 at h
 simp only [V3.mk.injEq] at h
 obtain ⟨c1, c2, c3⟩ := h
 unfold dot at h1 h2
 have e1 : m.x * (n.x * d.x + n.y * d.y + n.z * d.z) = 0 := by grind
 have e2 : m.y * (n.x * d.x + n.y * d.y + n.z * d.z) = 0 := by grind
 have e3 : m.z * (n.x * d.x + n.y * d.y + n.z * d.z) = 0 := by grind
 have k : ∀ {a : Int}, a * (n.x * d.x + n.y * d.y + n.z * d.z) = 0 → a = 0 := fun h => (Int.mul_eq_zero.1 h).resolve_right h2
 exact hm (V3.ext' (k e1) (k e2) (k e3))
theorem ld0 (a b : V3) : dot a (i6 a b) = 0 := by unfold dot i6; grind
theorem ld1 (a b : V3) : dot b (i6 a b) = 0 := by unfold dot i6; grind
theorem Ud1 {p q : Pln} {x : Pt} {d : V3} (h : rmZ p x = 0) (h' : dot p.n d = 0) : rmZ p (go x q d) = 0 := by rw [kd9, h, h']; simp
theorem Ud2 (q : Pln) (x : Pt) (d : V3) : rmZ q (go x q d) = 0 := by rw [kd9]; grind
theorem Ee1 {q : Pln} {d : V3} (h : 0 < dot q.n d) : q.n ≠ ⟨0, 0, 0⟩ := fun h' => by rw [h'] at h; unfold dot at h; simp at h
theorem le6 {a b c u v w : Int} (hu : 0 < u) (hv : 0 < v) (hw : 0 < w) (h1 : a * v ≤ b * u) (h2 : b * w ≤ c * v) : a * w ≤ c * u := by
 have h3 := Int.mul_le_mul_of_nonneg_right h1 (Int.le_of_lt hw)
 have h4 := Int.mul_le_mul_of_nonneg_right h2 (Int.le_of_lt hu)
 have e1 : a * v * w = a * w * v := by grind
 have e2 : b * u * w = b * w * u := by grind
 have e3 : c * v * u = c * u * v := by grind
 exact Na3 hv (by omega)
theorem te0 {r : List Pln} (hb : Bdd r) (h : Pln) {x : Pt} (hx : Inr r x) : ∃ v, Cn r v ∧ rmZ h v * x.pw ≤ rmZ h x * v.pw := by
 obtain ⟨d0, n0, p0, _⟩ := turn h (d := ⟨1, 0, 0⟩) (by simp)
 obtain ⟨q1, m1, k1, i1⟩ := step hx d0 (hb d0 n0)
 have l1 := (Td9 (h := h) (x := x) (hx.h q1 m1) p0).resolve_right (by have := hx.w; omega)
 obtain ⟨e1, ne1, he1⟩ := Ne3 (Ee1 k1)
 obtain ⟨d1, n1, p1, z1⟩ := turn h ne1
 obtain ⟨q2, m2, k2, i2⟩ := step i1 d1 (hb d1 n1)
 have l2 := (Td9 (h := h) (x := go x q1 d0) (i1.h q2 m2) p1).resolve_right (by have := i1.w; omega)
 have hc := Ud0 (Ee1 k1) (z1 _ he1) (n := q2.n) (by omega)
 obtain ⟨d2, n2, p2, z2⟩ := turn h hc
 obtain ⟨q3, m3, k3, i3⟩ := step i2 d2 (hb d2 n2)
 have l3 := (Td9 (h := h) (x := go (go x q1 d0) q2 d1) (i2.h q3 m3) p2).resolve_right (by have := i2.w; omega)
 have a1 : rmZ q1 (go (go x q1 d0) q2 d1) = 0 := Ud1 (Ud2 _ _ _) (z1 _ he1)
 refine ⟨_, ⟨i3, q3, q1, q2, m3, m1, m2, fun h0 => ?_, Ud2 _ _ _, Ud1 a1 (z2 _ (ld0 _ _)), Ud1 (Ud2 _ _ _) (z2 _ (ld1 _ _))⟩, ?_⟩
 ·have : dot q3.n d2 = 0 := z2 _ h0
  omega
 ·exact le6 i3.w i2.w hx.w l3 (le6 i2.w i1.w hx.w l2 l1)
theorem Aa8 {r : List Pln} (hb : Bdd r) {h : Pln} (hv : ∀ v, Cn r v → 0 ≤ rmZ h v) {x : Pt} (hx : Inr r x) : 0 ≤ rmZ h x := by
 obtain ⟨v, h1, h2⟩ := te0 hb h hx
 have h3 := Int.mul_nonneg (hv v h1) (Int.le_of_lt hx.w)
 exact Na3 h1.w (by rw [Int.zero_mul]; omega)
def mid (x y : Pt) : Pt := ⟨x.px * y.pw + y.px * x.pw, x.py * y.pw + y.py * x.pw, x.pz * y.pw + y.pz * x.pw, 2 * (x.pw * y.pw)⟩
theorem Ud3 (p : Pln) (x y : Pt) : rmZ p (mid x y) = rmZ p x * y.pw + rmZ p y * x.pw := by unfold rmZ mid; grind
theorem Inr.mid {r : List Pln} {x y : Pt} (hx : Inr r x) (hy : Inr r y) : Inr r (mid x y) := ⟨by unfold Ce.mid; exact Int.mul_pos (by decide) (Int.mul_pos hx.w hy.w), fun p hp => by
 rw [Ud3]
 exact Int.add_nonneg (Int.mul_nonneg (hx.h p hp) (Int.le_of_lt hy.w)) (Int.mul_nonneg (hy.h p hp) (Int.le_of_lt hx.w))⟩
def Xc4 (r : List Pln) : Prop := ∃ x : Pt, 0 < x.pw ∧ ∀ p ∈ r, 0 < rmZ p x
theorem Ad4 {r : List Pln} : ∀ (l : List Pln), (∀ p ∈ l, p ∈ r) → (∃ x, Inr r x) → (∀ p ∈ l, ∃ v, Inr r v ∧ 0 < rmZ p v) → ∃ x, Inr r x ∧ ∀ p ∈ l, 0 < rmZ p x
 | [], _, h, _ => by obtain ⟨x, h⟩ := h; exact ⟨x, h, fun p hp => by cases hp⟩
 | a :: l, hl, h, hv => by
  obtain ⟨x, h1, h2⟩ := Ad4 l (fun p hp => hl p (List.mem_cons_of_mem _ hp)) h (fun p hp => hv p (List.mem_cons_of_mem _ hp))
  obtain ⟨y, h3, h4⟩ := hv a List.mem_cons_self
  refine ⟨mid x y, h1.mid h3, fun p hp => ?_⟩
  rw [Ud3]
  rcases List.mem_cons.1 hp with rfl | hp
  ·have := Int.mul_nonneg (h1.h p (hl p List.mem_cons_self)) (Int.le_of_lt h3.w)
   have := Int.mul_pos h4 h1.w
   omega
  ·have := Int.mul_pos (h2 p hp) h3.w
   have := Int.mul_nonneg (h3.h p (hl p (List.mem_cons_of_mem _ hp))) (Int.le_of_lt h1.w)
   omega
theorem Ud4 {r : List Pln} (hb : Bdd r) (h0 : r ≠ []) : Xc4 r ↔ ∀ p ∈ r, ∃ v, Cn r v ∧ 0 < rmZ p v := by
 constructor
 ·intro ⟨x, hw, hx⟩ p hp
  by_cases h : ∃ v, Cn r v ∧ 0 < rmZ p v
  ·exact h
  ·have hx' : Inr r x := ⟨hw, fun q hq => Int.le_of_lt (hx q hq)⟩
   have := Aa8 hb (h := fa8 p) (fun v hv => by
    rw [za4]
    have : ¬ 0 < rmZ p v := fun h' => h ⟨v, hv, h'⟩
    omega) hx'
   rw [za4] at this
   have := hx p hp
   omega
 ·intro h
  obtain ⟨p, hp⟩ := List.exists_mem_of_ne_nil r h0
  obtain ⟨v, hv, _⟩ := h p hp
  obtain ⟨x, h1, h2⟩ := Ad4 r (fun _ h => h) ⟨v, hv.toInr⟩ fun p hp => by
   obtain ⟨v, hv, h⟩ := h p hp
   exact ⟨v, hv.toInr, h⟩
  exact ⟨x, h1.w, h2⟩
structure Eqv (x v : Pt) : Prop where
 e1 : x.px * v.pw = v.px * x.pw
 e2 : x.py * v.pw = v.py * x.pw
 e3 : x.pz * v.pw = v.pz * x.pw
theorem Eqv.rm {x v : Pt} (h : Eqv x v) (p : Pln) : rmZ p x * v.pw = rmZ p v * x.pw := by
 obtain ⟨e1, e2, e3⟩ := h
 unfold rmZ
 grind
theorem Eqv.inr {r : List Pln} {x v : Pt} (h : Eqv x v) (hw : 0 < x.pw) (hv : Inr r v) : Inr r x := ⟨hw, fun p hp => by
 have := h.rm p
 have h2 := Int.mul_nonneg (hv.h p hp) (Int.le_of_lt hw)
 exact Na3 hv.w (by rw [Int.zero_mul]; omega)⟩
end Go.Ev.Ce
namespace Go.Ev.Ce
open Go Go.Ev Go.Ev.L Go.Proofs
theorem Xc5 {p : Pln} {x : Pt} (hp : Bd p) (hx : Okx x) : rm p x = rmZ p x := by
 unfold rm rmZ
 obtain ⟨w1, w2, ⟨a1, a2⟩, ⟨a3, a4⟩, a5, a6⟩ := hx
 have h0 := mb hp.b1 hp.b2 (show -600000000000 ≤ x.pw by omega) w2
 have h1 := mb hp.x1 hp.x2 a1 a2
 have h2 := mb hp.y1 hp.y2 a3 a4
 have h3 := mb hp.z1 hp.z2 a5 a6
 exact Y0 (by omega) (by omega)
theorem Ad5 {r : List Pln} (hb : Bds r) {x : Pt} (hx : Okx x) : inn r x = true ↔ Inr r x := by
 unfold inn
 rw [List.all_eq_true]
 constructor
 ·intro h
  refine ⟨hx.w1, fun p hp => ?_⟩
  have := h p hp
  rw [Xc5 (hb p hp) hx] at this
  simpa using this
 ·intro h p hp
  rw [Xc5 (hb p hp) hx]
  simpa using h.h p hp
theorem le7 {p q s : Pln} (h : (mpt p q s).2 = true) : mw p q s ≠ 0 ∧ ∃ k : Int, k ≠ 0 ∧ k * (mpt p q s).1.px = (mv p q s).x ∧ k * (mpt p q s).1.py = (mv p q s).y ∧ k * (mpt p q s).1.pz = (mv p q s).z ∧ k * (mpt p q s).1.pw = mw p q s := by
 unfold mpt at h ⊢
 by_cases h0 : mw p q s = 0
 ·rw [if_pos h0] at h; cases h
 refine ⟨h0, ?_⟩
 have hg := wc3 (v := mv p q s) h0
 have dv : ∀ {x : Int}, (gc (mv p q s) (mw p q s)) ∣ x → gc (mv p q s) (mw p q s) * Int.tdiv x (gc (mv p q s) (mw p q s)) = x := fun h => Int.mul_tdiv_cancel' h
 have d1 : gc (mv p q s) (mw p q s) ∣ (mv p q s).x := by
  rw [← Int.dvd_natAbs]; exact Int.natCast_dvd_natCast.2 (Nat.dvd_trans (Nat.gcd_dvd_left _ _) (Nat.gcd_dvd_left _ _))
 have d2 : gc (mv p q s) (mw p q s) ∣ (mv p q s).y := by
  rw [← Int.dvd_natAbs]; exact Int.natCast_dvd_natCast.2 (Nat.dvd_trans (Nat.gcd_dvd_left _ _) (Nat.gcd_dvd_right _ _))
 have d3 : gc (mv p q s) (mw p q s) ∣ (mv p q s).z := by
  rw [← Int.dvd_natAbs]; exact Int.natCast_dvd_natCast.2 (Nat.dvd_trans (Nat.gcd_dvd_right _ _) (Nat.gcd_dvd_left _ _))
 have d4 : gc (mv p q s) (mw p q s) ∣ mw p q s := by
  rw [← Int.dvd_natAbs]; exact Int.natCast_dvd_natCast.2 (Nat.dvd_trans (Nat.gcd_dvd_right _ _) (Nat.gcd_dvd_right _ _))
 rw [if_neg h0]
 by_cases h1 : mw p q s < 0
 ·rw [if_pos h1]
  have e : ∀ {x : Int}, (gc (mv p q s) (mw p q s)) ∣ x → -(gc (mv p q s) (mw p q s)) * Int.tdiv (-x) (gc (mv p q s) (mw p q s)) = x := fun {x} h => by
   rw [Int.neg_mul, dv ((Int.dvd_neg).2 h), Int.neg_neg]
  exact ⟨-(gc (mv p q s) (mw p q s)), by omega, e d1, e d2, e d3, e d4⟩
 ·rw [if_neg h1]
  exact ⟨gc (mv p q s) (mw p q s), by omega, dv d1, dv d2, dv d3, dv d4⟩
theorem Ud5 {p q s : Pln} (h : (mpt p q s).2 = true) : rmZ p (mpt p q s).1 = 0 ∧ rmZ q (mpt p q s).1 = 0 ∧ rmZ s (mpt p q s).1 = 0 := by
 obtain ⟨_, k, hk, e1, e2, e3, e4⟩ := le7 h
 generalize (mpt p q s).1 = x at *
 have f : ∀ a : Pln, a.b * mw p q s - (a.n.x * (mv p q s).x + a.n.y * (mv p q s).y + a.n.z * (mv p q s).z) = 0 → rmZ a x = 0 := fun a ha => by
  rw [← e1, ← e2, ← e3, ← e4] at ha
  have : k * rmZ a x = 0 := by rw [← ha]; unfold rmZ; grind
  exact (Int.mul_eq_zero.1 this).resolve_left hk
 refine ⟨f p ?_, f q ?_, f s ?_⟩ <;> (simp only [mw, mv, dot, i6]; grind)
theorem ge4 {p q s : Pln} (h : mw p q s ≠ 0) : (mpt p q s).2 = true := by
 unfold mpt
 rw [if_neg h]
 split <;> rfl
theorem Ud6 {p q s : Pln} {x : Pt} (h1 : rmZ p x = 0) (h2 : rmZ q x = 0) (h3 : rmZ s x = 0) : mw p q s * x.px = (mv p q s).x * x.pw ∧ mw p q s * x.py = (mv p q s).y * x.pw ∧ mw p q s * x.pz = (mv p q s).z * x.pw := by
 have i1 : (mv p q s).x * x.pw - mw p q s * x.px = (i6 q.n s.n).x * rmZ p x + (i6 s.n p.n).x * rmZ q x + (i6 p.n q.n).x * rmZ s x := by simp only [mw, mv, dot, i6, rmZ]; grind
 have i2 : (mv p q s).y * x.pw - mw p q s * x.py = (i6 q.n s.n).y * rmZ p x + (i6 s.n p.n).y * rmZ q x + (i6 p.n q.n).y * rmZ s x := by simp only [mw, mv, dot, i6, rmZ]; grind
 have i3 : (mv p q s).z * x.pw - mw p q s * x.pz = (i6 q.n s.n).z * rmZ p x + (i6 s.n p.n).z * rmZ q x + (i6 p.n q.n).z * rmZ s x := by simp only [mw, mv, dot, i6, rmZ]; grind
 rw [h1, h2, h3] at i1 i2 i3
 simp only [Int.mul_zero, Int.add_zero] at i1 i2 i3
 omega
theorem te1 {p q s : Pln} {x v : Pt} (h : mw p q s ≠ 0) (h1 : rmZ p x = 0) (h2 : rmZ q x = 0) (h3 : rmZ s x = 0) (k1 : rmZ p v = 0) (k2 : rmZ q v = 0) (k3 : rmZ s v = 0) : Eqv x v := by
 obtain ⟨a1, a2, a3⟩ := Ud6 h1 h2 h3
 obtain ⟨c1, c2, c3⟩ := Ud6 k1 k2 k3
 have f : ∀ {a c m : Int}, mw p q s * a = m * x.pw → mw p q s * c = m * v.pw → a * v.pw = c * x.pw := fun {a c m} ha hc => by
  have : mw p q s * (a * v.pw - c * x.pw) = 0 := by grind
  have := (Int.mul_eq_zero.1 this).resolve_left h
  omega
 exact ⟨f a1 c1, f a2 c2, f a3 c3⟩
theorem Hd2 {r : List Pln} {p q : Pln} {out : List Pt} {s : Pln} {x : Pt} (h : x ∈ out) : x ∈ ua3 r p q out s := by
 unfold ua3
 split
 ·exact List.mem_append_left _ h
 ·exact h
theorem Bc1 {r : List Pln} {p q : Pln} {x : Pt} : ∀ {l : List Pln} {out : List Pt}, x ∈ out → x ∈ bb2 r p q l out
 | [], _, h => h
 | s :: l, out, h => Bc1 (l := l) (out := ua3 r p q out s) (Hd2 h)
theorem Xb6 {r : List Pln} {p : Pln} {x : Pt} : ∀ {l : List Pln} {out : List Pt}, x ∈ out → x ∈ bb3 r p l out
 | [], _, h => h
 | _ :: l, _, h => Xb6 (l := l) (Bc1 h)
theorem ld2 {r : List Pln} {x : Pt} : ∀ {l : List Pln} {out : List Pt}, x ∈ out → x ∈ Fc6 r l out
 | [], _, h => h
 | _ :: l, _, h => ld2 (l := l) (Xb6 h)
theorem Hd3 {r : List Pln} {p q : Pln} {out : List Pt} {s : Pln} (h1 : (mpt p q s).2 = true) (h2 : inn r (mpt p q s).1 = true) : (mpt p q s).1 ∈ ua3 r p q out s := by
 unfold ua3
 rw [h1, h2]
 cases h : Bb7 out (mpt p q s).1 with
 | true => simpa using (Pd7 _ _).1 h
 | false => simp
theorem Bc2 {r : List Pln} {p q s : Pln} (h1 : (mpt p q s).2 = true) (h2 : inn r (mpt p q s).1 = true) : ∀ {l : List Pln} {out : List Pt}, s ∈ l → (mpt p q s).1 ∈ bb2 r p q l out
 | [], _, h => by cases h
 | t :: l, out, h => by
  show _ ∈ bb2 r p q l (ua3 r p q out t)
  rcases List.mem_cons.1 h with rfl | h
  ·exact Bc1 (Hd3 h1 h2)
  ·exact Bc2 h1 h2 h
structure Hit (r : List Pln) (Q : Pt → Prop) (p q s : Pln) : Prop where
 h1 : (mpt p q s).2 = true
 h2 : inn r (mpt p q s).1 = true
 h3 : Q (mpt p q s).1
theorem ld3 {r : List Pln} {Q : Pt → Prop} {p q s : Pln} (hq : Hit r Q p q s) (hs : Hit r Q p s q) (hne : q ≠ s) : ∀ {l : List Pln} {out : List Pt}, q ∈ l → s ∈ l → ∃ x ∈ bb3 r p l out, Q x
 | [], _, h, _ => by cases h
 | t :: l, out, hql, hsl => by
  show ∃ x ∈ bb3 r p l (bb2 r p t l out), Q x
  rcases List.mem_cons.1 hql with rfl | h1
  ·have h2 := (List.mem_cons.1 hsl).resolve_left fun h => hne h.symm
   exact ⟨_, Xb6 (Bc2 hq.h1 hq.h2 h2), hq.h3⟩
  ·rcases List.mem_cons.1 hsl with rfl | h2
   ·exact ⟨_, Xb6 (Bc2 hs.h1 hs.h2 h1), hs.h3⟩
   ·exact ld3 hq hs hne (l := l) h1 h2
theorem ld4 {r : List Pln} {Q : Pt → Prop} {p q s : Pln} (H : ∀ a c d, (a = p ∨ a = q ∨ a = s) → (c = p ∨ c = q ∨ c = s) → (d = p ∨ d = q ∨ d = s) → a ≠ c → c ≠ d → a ≠ d → Hit r Q a c d) (h1 : p ≠ q) (h2 : q ≠ s) (h3 : p ≠ s) :
  ∀ {l : List Pln} {out : List Pt}, p ∈ l → q ∈ l → s ∈ l → ∃ x ∈ Fc6 r l out, Q x
 | [], _, h, _, _ => by cases h
 | t :: l, out, hp, hq, hs => by
  have fin : ∀ {a c d : Pln} {out : List Pt}, (a = p ∨ a = q ∨ a = s) → (c = p ∨ c = q ∨ c = s) → (d = p ∨ d = q ∨ d = s) → a ≠ c → c ≠ d → a ≠ d → c ∈ l → d ∈ l → ∃ x ∈ Fc6 r l (bb3 r a l out), Q x := fun ha hc hd n1 n2 n3 m1 m2 => by
   obtain ⟨x, hx, hQ⟩ := ld3 (H _ _ _ ha hc hd n1 n2 n3) (H _ _ _ ha hd hc n3 n2.symm n1) n2 (out := _) m1 m2
   exact ⟨x, ld2 hx, hQ⟩
  show ∃ x ∈ Fc6 r l (bb3 r t l out), Q x
  rcases List.mem_cons.1 hp with rfl | hp'
  ·exact fin (.inl rfl) (.inr (.inl rfl)) (.inr (.inr rfl)) h1 h2 h3 ((List.mem_cons.1 hq).resolve_left (Ne.symm h1)) ((List.mem_cons.1 hs).resolve_left (Ne.symm h3))
  ·rcases List.mem_cons.1 hq with rfl | hq'
   ·exact fin (.inr (.inl rfl)) (.inl rfl) (.inr (.inr rfl)) (Ne.symm h1) h3 h2 hp' ((List.mem_cons.1 hs).resolve_left (Ne.symm h2))
   ·rcases List.mem_cons.1 hs with rfl | hs'
    ·exact fin (.inr (.inr rfl)) (.inl rfl) (.inr (.inl rfl)) (Ne.symm h3) h1 (Ne.symm h2) hp' hq'
    ·exact ld4 H h1 h2 h3 hp' hq' hs'
theorem Ee2 {p q s : Pln} (h : mw p q s ≠ 0) : p ≠ q ∧ q ≠ s ∧ p ≠ s := by
 refine ⟨fun e => h ?_, fun e => h ?_, fun e => h ?_⟩ <;> (subst e; simp only [mw, dot, i6]; grind)
theorem ud1 {r : List Pln} (hb : Bds r) : ∀ x ∈ cor r, Cn r x := yd9 fun p hp q hq s hs h hi => by
 obtain ⟨w1, w2, w3, w4, w5⟩ := sd4 (hb p hp) (hb q hq) (hb s hs) h
 obtain ⟨e1, e2, e3⟩ := Ud5 h
 exact ⟨(Ad5 hb ⟨w1, w5, w2, w3, w4⟩).1 hi, p, q, s, hp, hq, hs, (le7 h).1, e1, e2, e3⟩
theorem te2 {r : List Pln} (hb : Bds r) {v : Pt} (hv : Cn r v) : ∃ x ∈ cor r, Eqv x v := by
 obtain ⟨p, q, s, hp, hq, hs, hw, e1, e2, e3⟩ := hv.c
 obtain ⟨n1, n2, n3⟩ := Ee2 hw
 refine ld4 (fun a c d ha hc hd m1 m2 m3 => ?_) n1 n2 n3 hp hq hs
 have hm : ∀ {a}, (a = p ∨ a = q ∨ a = s) → a ∈ r ∧ rmZ a v = 0 := fun h => by
  rcases h with rfl | rfl | rfl
  ·exact ⟨hp, e1⟩
  ·exact ⟨hq, e2⟩
  ·exact ⟨hs, e3⟩
 have hw' : mw a c d ≠ 0 := by
  have k : mw a c d = mw p q s ∨ mw a c d = -mw p q s := by
   rcases ha with rfl | rfl | rfl <;> rcases hc with rfl | rfl | rfl <;> rcases hd with rfl | rfl | rfl <;> first | exact absurd rfl m1 | exact absurd rfl m2 | exact absurd rfl m3 | exact .inl rfl | (left; simp only [mw, dot, i6]; grind; done) | (right; simp only [mw, dot, i6]; grind; done)
  rcases k with k | k <;> omega
 have h := ge4 hw'
 obtain ⟨w1, w2, w3, w4, w5⟩ := sd4 (hb a (hm ha).1) (hb c (hm hc).1) (hb d (hm hd).1) h
 obtain ⟨f1, f2, f3⟩ := Ud5 h
 have he := te1 hw' f1 f2 f3 (hm ha).2 (hm hc).2 (hm hd).2
 exact ⟨h, (Ad5 hb ⟨w1, w5, w2, w3, w4⟩).2 (he.inr w1 hv.toInr), he⟩
theorem ub0 (c : List Pln) : Bdd (c ++ ws) := fun d hd => by
 have k : ∀ {n : V3} {m : Int}, (⟨n, m⟩ : Pln) ∈ ws → 0 < dot n d → ∃ p ∈ c ++ ws, 0 < dot p.n d := fun h h' => ⟨_, List.mem_append_right _ h, h'⟩
 by_cases h1 : 0 < d.x
 ·exact k (n := ⟨1, 0, 0⟩) (m := 24) (by simp [ws]) (by unfold dot; simp; omega)
 by_cases h2 : d.x < 0
 ·exact k (n := ⟨-1, 0, 0⟩) (m := 24) (by simp [ws]) (by unfold dot; simp; omega)
 by_cases h3 : 0 < d.y
 ·exact k (n := ⟨0, 1, 0⟩) (m := 24) (by simp [ws]) (by unfold dot; simp; omega)
 by_cases h4 : d.y < 0
 ·exact k (n := ⟨0, -1, 0⟩) (m := 24) (by simp [ws]) (by unfold dot; simp; omega)
 by_cases h5 : 0 < d.z
 ·exact k (n := ⟨0, 0, 1⟩) (m := 24) (by simp [ws]) (by unfold dot; simp; omega)
 by_cases h6 : d.z < 0
 ·exact k (n := ⟨0, 0, -1⟩) (m := 24) (by simp [ws]) (by unfold dot; simp; omega)
 exact absurd (V3.ext' (by show d.x = 0; omega) (by show d.y = 0; omega) (by show d.z = 0; omega)) hd
theorem Xc6 {r : List Pln} (hb : Bds r) {p : Pln} (hp : Bd p) : pos (cor r) p = true ↔ ∃ v, Cn r v ∧ 0 < rmZ p v := by
 unfold pos
 rw [List.any_eq_true]
 constructor
 ·rintro ⟨x, hx, h⟩
  rw [Xc5 hp (hb8 hb x hx)] at h
  exact ⟨x, ud1 hb x hx, by simpa using h⟩
 ·rintro ⟨v, hv, h⟩
  obtain ⟨x, hx, he⟩ := te2 hb hv
  refine ⟨x, hx, ?_⟩
  rw [Xc5 hp (hb8 hb x hx)]
  have h1 := he.rm p
  have h2 := Int.mul_pos h (hb8 hb x hx).w1
  have : 0 < rmZ p x := Int.lt_of_mul_lt_mul_right (by rw [Int.zero_mul]; omega : 0 * v.pw < rmZ p x * v.pw) (Int.le_of_lt hv.w)
  simpa using this
theorem ob2 {r : List Pln} (hb : Bds r) (hd : Bdd r) (h0 : r ≠ []) : xc3 r = true ↔ Xc4 r := by
 rw [Ud4 hd h0]
 unfold xc3
 rw [List.all_eq_true]
 exact ⟨fun h p hp => (Xc6 hb (hb p hp)).1 (h p hp), fun h p hp => (Xc6 hb (hb p hp)).2 (h p hp)⟩
end Go.Ev.Ce
namespace Go.Ev.Ce
def dv (z v : Pt) : V3 := ⟨v.px * z.pw - z.px * v.pw, v.py * z.pw - z.py * v.pw, v.pz * z.pw - z.pz * v.pw⟩
theorem Ud7 {r : List Pln} (hb : Bdd r) (hB : Xc4 r) {h : Pln} (hn : h.n ≠ ⟨0, 0, 0⟩) : ¬ ∀ x, Inr r x → rmZ h x = 0 := fun H => by
 obtain ⟨x, hw, hx⟩ := hB
 have hi : Inr r x := ⟨hw, fun p hp => Int.le_of_lt (hx p hp)⟩
 obtain ⟨q, hq, h1, h2⟩ := step hi h.n (hb h.n hn)
 have h3 := H _ h2
 rw [kd9, H _ hi] at h3
 have h4 := hx q hq
 have h5 : 0 < dot h.n h.n := by
  have k : ∀ a : Int, a ≠ 0 → 0 < a * a := fun a ha => by
   rcases Int.lt_or_gt_of_ne ha with h | h
   ·exact Int.mul_pos_of_neg_of_neg h h
   ·exact Int.mul_pos h h
  have k0 : ∀ a : Int, 0 ≤ a * a := fun a => by
   by_cases h : a = 0
   ·subst h; decide
   ·exact Int.le_of_lt (k a h)
  have a1 := k0 h.n.x; have a2 := k0 h.n.y; have a3 := k0 h.n.z
  unfold dot
  by_cases c1 : h.n.x = 0
  ·by_cases c2 : h.n.y = 0
   ·have := k h.n.z (fun c3 => hn (V3.ext' c1 c2 c3)); omega
   ·have := k _ c2; omega
  ·have := k _ c1; omega
 have := Int.mul_pos h4 h5
 omega
end Go.Ev.Ce
namespace Go.Ev.Ce
open Go Go.Ev Go.Ev.L Go.Proofs
theorem ge5 (x : List Pln) (y : Pln) : fb5 x y ≠ [] := by
 intro h
 have := (ob1 y y x).2 (.inl rfl)
 rw [h] at this
 cases this
theorem ob3 (y : Pln) : ∀ x : List Pln, (fb5 x y).length ≤ x.length + 1
 | [] => Nat.le_refl _
 | a :: l => by
  have := ob3 y l
  unfold fb5
  split
  ·simp only [List.length_cons]; omega
  ·split <;> simp only [List.length_cons] <;> omega
def phP (out : List Pln) : Nat := match out with
 | [] => 0
 | _ :: _ => 1
end Go.Ev.Ce
namespace Go.Ev.Ce
open Go Go.Ev Go.Ev.L Go.Proofs
def vb8 (p : Pln) (v : V3) : Int := if okp p && inV v then (if dot p.n v - p.b < 0 then -1 else if dot p.n v - p.b > 0 then 1 else 0) else 0
theorem te3 {p : Pln} {v : V3} (hp : Bd p) (hv : inV v = true) : Sm 331776 (dot p.n v) := by
 obtain ⟨⟨a1, a2⟩, ⟨a3, a4⟩, a5, a6⟩ := (Wb5 v).1 hv
 have r1 := mb hp.x1 hp.x2 a1 a2; have r2 := mb hp.y1 hp.y2 a3 a4; have r3 := mb hp.z1 hp.z2 a5 a6
 unfold Sm dot
 omega
theorem ge6 (p : Pln) (v : V3) : Ca1 p v = some (i (vb8 p v), []) := by
 unfold Ca1 vb8
 simp only [gd4, wc8, zd3, jd5]
 cases hp : okp p with
 | false => rfl
 | true =>
  cases hv : inV v with
  | false => rfl
  | true =>
   have hb := La2 hp
   have hd := te3 hb hv
   have e : pa9 p.n v = dot p.n v := by
    unfold pa9
    simp only [Za0, zb4]
    exact ra8 (hd.mono (by omega))
   have e2 : W (dot p.n v - p.b) = dot p.n v - p.b := Y0 (by have := hd.1; have := hb.b2; omega) (by have := hd.2; have := hb.b1; omega)
   rw [e, e2]
   by_cases h1 : dot p.n v - p.b < 0
   ·simp only [Bool.and_self, if_true, h1, decide_true]; rfl
   ·by_cases h2 : dot p.n v - p.b > 0
    ·simp only [Bool.and_self, if_true, h1, h2, decide_true, decide_false, if_false]; rfl
    ·simp only [Bool.and_self, if_true, h1, h2, decide_false, if_false]; rfl
theorem Ud8 (p : Pln) (v : V3) : La6 p v = vb8 p v := by unfold La6; rw [ge6]; rfl
theorem ld5 {p : Pln} {v : V3} (hp : okp p = true) (hv : inV v = true) : vb8 p v > 0 ↔ dot p.n v > p.b := by
 unfold vb8
 rw [hp, hv]
 simp only [Bool.and_self, if_true]
 split
 ·omega
 ·split <;> omega
theorem Hd4 {p : Pln} {v : V3} (hp : okp p = true) (hv : inV v = true) : vb8 p v = 0 ↔ dot p.n v = p.b := by
 unfold vb8
 rw [hp, hv]
 simp only [Bool.and_self, if_true]
 split
 ·omega
 ·split <;> omega
theorem te4 (v : V3) : g3 v ∣ v.x ∧ g3 v ∣ v.y ∧ g3 v ∣ v.z := by
 unfold g3
 refine ⟨?_, ?_, ?_⟩ <;> rw [← Int.dvd_natAbs] <;> apply Int.natCast_dvd_natCast.2
 ·exact Nat.dvd_trans (Nat.gcd_dvd_left _ _) (Nat.gcd_dvd_left _ _)
 ·exact Nat.dvd_trans (Nat.gcd_dvd_left _ _) (Nat.gcd_dvd_right _ _)
 ·exact Nat.gcd_dvd_right _ _
theorem te5 (v : V3) (h : g3 v ≠ 0) : g3 ⟨Int.tdiv v.x (g3 v), Int.tdiv v.y (g3 v), Int.tdiv v.z (g3 v)⟩ = 1 := by
 generalize hg : g3 v = g at *
 have h0 : 0 ≤ g := hg ▸ dc8 v
 obtain ⟨n, rfl⟩ : ∃ n : Nat, g = n := ⟨g.toNat, by omega⟩
 have hn : 0 < n := by omega
 have hgn : Nat.gcd (Nat.gcd v.x.natAbs v.y.natAbs) v.z.natAbs = n := by unfold g3 at hg; omega
 have d1 : n ∣ Nat.gcd v.x.natAbs v.y.natAbs := hgn ▸ Nat.gcd_dvd_left _ _
 have d3 : n ∣ v.z.natAbs := hgn ▸ Nat.gcd_dvd_right _ _
 have d4 : n ∣ v.x.natAbs := Nat.dvd_trans d1 (Nat.gcd_dvd_left _ _)
 have d5 : n ∣ v.y.natAbs := Nat.dvd_trans d1 (Nat.gcd_dvd_right _ _)
 unfold g3
 simp only [Int.natAbs_tdiv, Int.natAbs_natCast]
 show ((Nat.gcd (Nat.gcd (v.x.natAbs / n) (v.y.natAbs / n)) (v.z.natAbs / n) : Nat) : Int) = 1
 rw [Nat.gcd_div d4 d5, Nat.gcd_div d1 d3, hgn, Nat.div_self hn]
 rfl
structure Thr (a b c : V3) (p : Pln) : Prop where
 ok : okp p = true
 k : ∃ g : Int, 0 < g ∧ g * p.n.x = (i6 (sub b a) (sub c a)).x ∧ g * p.n.y = (i6 (sub b a) (sub c a)).y ∧ g * p.n.z = (i6 (sub b a) (sub c a)).z
 o : p.b = dot p.n a
theorem Wa8 {a b c : V3} (h : (fa1 a b c).2 = true) : (inV a = true ∧ inV b = true ∧ inV c = true) ∧ Thr a b c (fa1 a b c).1 := by
 unfold fa1 at h ⊢
 cases ha : inV a with
 | false => rw [ha] at h; cases h
 | true =>
  cases hb : inV b with
  | false => rw [ha, hb] at h; cases h
  | true =>
   cases hc : inV c with
   | false => rw [ha, hb, hc] at h; cases h
   | true =>
    rw [ha, hb, hc] at h
    simp only [Bool.and_self, if_true] at h ⊢
    obtain ⟨_, k1, k2, k3⟩ := Kb9 ha hb hc
    generalize hn : i6 (sub b a) (sub c a) = n at *
    by_cases h0 : g3 n = 0
    ·rw [if_pos h0] at h; cases h
    ·rw [if_neg h0]
     have hp := dc8 n
     obtain ⟨d1, d2, d3⟩ := te4 n
     have q1 := D4 (g := g3 n) k1 (by omega)
     have q2 := D4 (g := g3 n) k2 (by omega)
     have q3 := D4 (g := g3 n) k3 (by omega)
     refine ⟨⟨trivial, trivial, trivial⟩, ⟨?_, ⟨g3 n, by omega, by rw [hn]; exact Int.mul_tdiv_cancel' d1, by rw [hn]; exact Int.mul_tdiv_cancel' d2, by rw [hn]; exact Int.mul_tdiv_cancel' d3⟩, rfl⟩⟩
     obtain ⟨⟨a1, a2⟩, ⟨a3, a4⟩, a5, a6⟩ := (Wb5 a).1 ha
     have r1 := mb q1.1 q1.2 a1 a2; have r2 := mb q2.1 q2.2 a3 a4; have r3 := mb q3.1 q3.2 a5 a6
     unfold okp
     rw [te5 n h0]
     simp only [List.all_cons, List.all_nil, Bool.and_true, Bool.and_eq_true, Wa2, beq_self_eq_true, true_and, and_true]
     refine ⟨⟨q1, q2, q3⟩, ?_⟩
     unfold Sm dot
     simp only
     omega
theorem ge7 (a b c : V3) : Bd (fa1 a b c).1 := by
 cases h : (fa1 a b c).2 with
 | true => exact La2 (Wa8 h).2.ok
 | false =>
  have : (fa1 a b c).1 = ⟨⟨0, 0, 0⟩, 0⟩ := by
   unfold fa1 at h ⊢
   split
   ·rename_i hc
    rw [if_pos hc] at h
    split
    ·rfl
    ·rename_i h0; rw [if_neg h0] at h; cases h
   ·rfl
  rw [this]
  constructor <;> simp
theorem Ud9 {p : Pln} (h : Bd p) : La5 p = fa8 p := by
 unfold La5 wa1 fa8
 simp only
 have := h.x1; have := h.x2; have := h.y1; have := h.y2; have := h.z1; have := h.z2; have := h.b1; have := h.b2
 rw [Y0 (by omega) (by omega), Y0 (by omega) (by omega), Y0 (by omega) (by omega), Y0 (by omega) (by omega)]
 simp only [Int.zero_sub]
theorem db0 {p : Pln} (h : okp p = true) : okp (fa8 p) = true := by
 unfold okp fa8 g3 at *
 simp only [List.all_cons, List.all_nil, Bool.and_true, Bool.and_eq_true, Wa2, Int.natAbs_neg] at h ⊢
 obtain ⟨⟨h1, h2, h3⟩, h4, h5⟩ := h
 exact ⟨⟨h1.neg, h2.neg, h3.neg⟩, h4, h5.neg⟩
noncomputable def Vd0 (l : List V3) (p : Pln) : Bool := l.any fun v => vb8 p v != 0
noncomputable def nf (l : List V3) (a c k : Nat) : Bool := (fa1 (gL tV l a) (gL tV l c) (gL tV l k)).2 && Vd0 l (fa1 (gL tV l a) (gL tV l c) (gL tV l k)).1
noncomputable def nf2 (l : List V3) (a c : Nat) : Bool := (List.range c).any (nf l a c)
noncomputable def nf1 (l : List V3) (a : Nat) : Bool := (List.range a).any (nf2 l a)
noncomputable def nf0 (l : List V3) : Bool := (List.range l.length).any (nf1 l)
theorem ud2 {σ : Type} {step : σ → Stp σ} {mk : Nat → σ} (n : Nat) (c : Nat → Bool) (u fin : Nat) (hn : n ≤ 1000000000) (h : ∀ j, j < n → step (mk j) = sl (c j) (.exit u) (.next (mk (j + 1)))) (hf : step (mk n) = .exit fin) :
  ∃ j, lp step (mk 0) = (if (List.range n).any c then u else fin, mk j) := by
 have key := ia0 (step := step) (mk := fun j (_ : Unit) => mk j) n (fun j _ => j ≤ n ∧ ∀ i, i < j → c i = false) (fun t s => t = (if (List.range n).any c then u else fin) ∧ ∃ j, s = mk j) hn
  (fun j _ hj hi => by
   rw [h j hj]
   refine Nx.sl (fun hc => .ex ⟨?_, j, rfl⟩) (fun hc => .nx ⟨(), rfl, by omega, fun i hi' => ?_⟩)
   ·rw [if_pos (List.any_eq_true.2 ⟨j, List.mem_range.2 hj, hc⟩)]
   ·by_cases e : i = j
    ·rw [e]; exact hc
    ·exact hi.2 i (by omega))
  (fun j _ hj hi => by
   have e : j = n := by omega
   subst e
   refine ⟨fin, hf, ?_, j, rfl⟩
   rw [if_neg fun hh => ?_]
   obtain ⟨i, hi1, hi2⟩ := List.any_eq_true.1 hh
   rw [hi.2 i (List.mem_range.1 hi1)] at hi2
   cases hi2) 0 () ⟨by omega, by omega⟩
 obtain ⟨t, s, h1, rfl, j, rfl⟩ := key
 exact ⟨j, h1⟩
theorem Vd1 (l : List V3) (x1 x2 x3 : Int) (okb : Bool) (p : Pln) (hl : l.length ≤ 1000000000) : ∃ t s, lp (A4 ⟨l, x1, x2, x3, okb, p.n.x, p.n.y, p.n.z, p.b⟩) ⟨0⟩ = (t, s) ∧ (((okb && Vd0 l p) = true ∧ t = 1) ∨ ((okb && Vd0 l p) = false ∧ (t = 2 ∨ t = 3))) := by
 cases okb with
 | false =>
  cases l with
  | nil =>
   refine ⟨3, ⟨0⟩, ?_, .inr ⟨rfl, .inr rfl⟩⟩
   exact Ad2 (step := A4 ⟨[], x1, x2, x3, false, p.n.x, p.n.y, p.n.z, p.b⟩) rfl
  | cons v l =>
   refine ⟨2, ⟨0⟩, ?_, .inr ⟨rfl, .inl rfl⟩⟩
   refine Ad2 (step := A4 ⟨v :: l, x1, x2, x3, false, p.n.x, p.n.y, p.n.z, p.b⟩) ?_
   simp only [A4, W7]
   rw [btD (by simp only [List.length_cons]; omega)]
   rfl
 | true =>
  have h := Ra6 (step := A4 ⟨l, x1, x2, x3, true, p.n.x, p.n.y, p.n.z, p.b⟩) (mk := fun j => (⟨(j : Int)⟩ : aa6)) (c := fun v => vb8 p v != 0) (u := 1) (fin := 3) tV l hl
   (fun j hj => by
    simp only [A4, W7, Vc7, Ud8, Int.toNat_natCast, n8 hj (show l.length ≤ 4611686018427387904 by omega)]
    rw [btD (l0 hj), bt (e8 hj)]
    rfl)
   (by simp only [A4, W7]; rw [bfD (v8 (Nat.lt_irrefl _))]) 0 (Nat.zero_le _)
  rw [List.drop_zero] at h
  have h : (lp (A4 ⟨l, x1, x2, x3, true, p.n.x, p.n.y, p.n.z, p.b⟩) ⟨0⟩).1 = _ := h
  cases hlp : lp (A4 ⟨l, x1, x2, x3, true, p.n.x, p.n.y, p.n.z, p.b⟩) ⟨0⟩ with
  | mk t s =>
  rw [hlp] at h
  refine ⟨t, s, rfl, ?_⟩
  simp only at h
  rw [h]
  unfold Vd0
  cases hh : l.any fun v => vb8 p v != 0 with
  | true => exact .inl ⟨rfl, rfl⟩
  | false => exact .inr ⟨rfl, .inr rfl⟩
theorem Vd2 (l : List V3) (hl : l.length ≤ 1000000000) (a c : Nat) (ha : a < l.length) (hc : c < a) : ∃ j, lp (O1 ⟨(a : Int), (c : Int)⟩) ⟨l, 0⟩ = (if nf2 l a c then 1 else 2, ⟨l, ((j : Nat) : Int)⟩) :=
 ud2 (step := O1 ⟨(a : Int), (c : Int)⟩) (mk := fun j => (⟨l, (j : Int)⟩ : aa7)) c (nf l a c) 1 2 (by omega)
  (fun j hj => by
   simp only [O1, da9, nb9, Da6, Int.toNat_natCast, l8, l6, n8 hj (show c ≤ 4611686018427387904 by omega)]
   rw [btD (l0 hj), bt (e8 ha), bt (e8 (show c < l.length by omega)), bt (e8 (show j < l.length by omega)), n5]
   obtain ⟨t, s, h1, h2⟩ := Vd1 l (a : Int) (c : Int) (j : Int) (fa1 (gL tV l a) (gL tV l c) (gL tV l j)).2 (fa1 (gL tV l a) (gL tV l c) (gL tV l j)).1 hl
   rw [h1]
   unfold nf
   rcases h2 with ⟨e, rfl⟩ | ⟨e, rfl | rfl⟩ <;> rw [e] <;> rfl)
  (by simp only [O1, da9]; rw [bfD (v8 (Nat.lt_irrefl _))])
theorem Vd3 (l : List V3) (hl : l.length ≤ 1000000000) (a : Nat) (ha : a < l.length) : ∃ j, lp (O2 ⟨(a : Int)⟩) ⟨l, 0⟩ = (if nf1 l a then 1 else 2, ⟨l, ((j : Nat) : Int)⟩) :=
 ud2 (step := O2 ⟨(a : Int)⟩) (mk := fun j => (⟨l, (j : Int)⟩ : aa8)) a (nf2 l a) 1 2 (by omega)
  (fun j hj => by
   obtain ⟨j', h1⟩ := Vd2 l hl a j ha hj
   simp only [O2, ea0, l8, l6, n8 hj (show a ≤ 4611686018427387904 by omega)]
   rw [btD (l0 hj), h1]
   cases nf2 l a j <;> rfl)
  (by simp only [O2, ea0]; rw [bfD (v8 (Nat.lt_irrefl _))])
theorem ge8 (l : List V3) (hl : l.length ≤ 1000000000) : Ca2 l = some (b (!nf0 l), []) := by
 obtain ⟨j, h⟩ := ud2 (step := O3 ⟨⟩) (mk := fun j => (⟨l, (j : Int)⟩ : aa9)) l.length (nf1 l) 1 2 hl
  (fun j hj => by
   obtain ⟨j', h1⟩ := Vd3 l hl j hj
   simp only [O3, ea1, l8, l6, n8 hj (show l.length ≤ 4611686018427387904 by omega)]
   rw [btD (l0 hj), h1]
   cases nf1 l j <;> rfl)
  (by simp only [O3, ea1]; rw [bfD (v8 (Nat.lt_irrefl _))])
 have h : lp (O3 ⟨⟩) ⟨l, 0⟩ = (if nf0 l then 1 else 2, ⟨l, ((j : Nat) : Int)⟩) := h
 unfold Ca2
 simp only [l8, l6]
 rw [h]
 cases nf0 l <;> rfl
theorem te6 (l : List V3) (hl : l.length ≤ 1000000000) : Ca3 l = !nf0 l := by unfold Ca3; rw [ge8 l hl]; rfl
noncomputable def ec9 (l : List V3) : Int := if (l.length : Int) > 48 then 2 else if l.all inV then (if nf0 l then 0 else 11) else 3
theorem ud3 (l : List V3) (hl : l.length ≤ 1000000000) : ua4 l = some (i (ec9 l), []) := by
 have h := Ra6 (step := W8 ⟨l⟩) (mk := fun j => (⟨(j : Int)⟩ : K2)) (c := fun v => !inV v) (u := 1) (fin := 2) tV l hl
  (fun j hj => by
   simp only [W8, Y6, Int.toNat_natCast, zd3, jd5, n8 hj (show l.length ≤ 4611686018427387904 by omega)]
   rw [btD (l0 hj), bt (e8 hj), n5])
  (by simp only [W8, Y6]; rw [bfD (v8 (Nat.lt_irrefl _))]) 0 (Nat.zero_le _)
 rw [List.drop_zero] at h
 have e : (l.any fun v => !inV v) = !l.all inV := by rw [List.not_all_eq_any_not]
 unfold ua4 ec9
 simp only [l8, l6, K0, td4 l hl, te6 l hl]
 rw [show (⟨0⟩ : K2) = ⟨((0 : Nat) : Int)⟩ from rfl, h, e]
 by_cases h48 : (l.length : Int) > 48
 ·rw [if_pos h48, btD h48]
 ·rw [if_neg h48, bfD h48]
  cases l.all inV with
  | false => rfl
  | true => cases nf0 l <;> rfl
theorem Hd5 (l : List V3) (hl : l.length ≤ 1000000000) : Qa4 l = ec9 l := by unfold Qa4; rw [ud3 l hl]; rfl
def hold (p : Pln) (l : List V3) : Bool := !l.any fun v => decide (vb8 p v > 0)
theorem Vd4 (p : Pln) (l : List V3) (hl : l.length ≤ 1000000000) : ua5 p l = some (b (hold p l), []) := by
 have h := Ra6 (step := W9 ⟨l, p.n.x, p.n.y, p.n.z, p.b⟩) (mk := fun j => (⟨(j : Int)⟩ : K3)) (c := fun v => decide (vb8 p v > 0)) (u := 1) (fin := 2) tV l hl
  (fun j hj => by
   simp only [W9, Y7, Int.toNat_natCast, Ud8, Vc7, n8 hj (show l.length ≤ 4611686018427387904 by omega)]
   rw [btD (l0 hj), bt (e8 hj), n5])
  (by simp only [W9, Y7]; rw [bfD (v8 (Nat.lt_irrefl _))]) 0 (Nat.zero_le _)
 rw [List.drop_zero] at h
 unfold ua5 hold
 simp only [l8, l6]
 rw [show (⟨0⟩ : K3) = ⟨((0 : Nat) : Int)⟩ from rfl, h]
 cases l.any fun v => decide (vb8 p v > 0) <;> rfl
theorem ge9 (p : Pln) (l : List V3) (hl : l.length ≤ 1000000000) : na2 p l = hold p l := by unfold na2; rw [Vd4 p l hl]; rfl
end Go.Ev.Ce
namespace Go.Ev.Ce
open Go Go.Ev Go.Ev.L Go.Proofs
theorem ud4 (x : List Pln) (y : Pln) (hx : x.length ≤ 1000000) : Rd (one (r1L tP)) (La8 x y) (fun r => r = ins x y) := by
  have h := Va2 (step := V1 ⟨x, y.n.x, y.n.y, y.n.z, y.b⟩) (mk := fun j => (⟨(j : Int)⟩ : X0)) (c := fun p => !decide (fa7 p y < 0)) (u := 1) (fin := 2) tP x (by omega)
    (fun j hj => by
      simp only [V1, ja3, Int.toNat_natCast, Sd2, se8, n8 hj (show x.length ≤ 4611686018427387904 by omega)]
      rw [btD (l0 hj), bt (e8 hj), n5]
      show sl (decide (fa7 (gL tP x j) y < 0)) _ _ = _
      cases decide (fa7 (gL tP x j) y < 0) <;> rfl)
    (by simp only [V1, ja3]; rw [bfD (v8 (Nat.lt_irrefl _))]) 0 (Nat.zero_le _)
  rw [List.drop_zero] at h
  have key : ∃ t, lp (V1 ⟨x, y.n.x, y.n.y, y.n.z, y.b⟩) ⟨0⟩ = (t, ⟨((atP x y : Nat) : Int)⟩) ∧ (t = 1 ∨ t = 2) := by
    rw [show (⟨0⟩ : X0) = ⟨((0 : Nat) : Int)⟩ from rfl, h]
    split
    · exact ⟨1, by rw [Nat.zero_add]; rfl, .inl rfl⟩
    · rename_i hn
      refine ⟨2, ?_, .inr rfl⟩
      have : atP x y = x.length := by
        unfold atP
        rw [List.findIdx_eq_length]
        intro p hp
        cases hb : (!decide (fa7 p y < 0)) with
        | false => rfl
        | true => exact absurd (List.any_eq_true.2 ⟨p, hp, hb⟩) hn
      rw [this]
  obtain ⟨t, h1, h2⟩ := key
  have h3 : atP x y ≤ x.length := List.findIdx_le_length
  have hdef : ins x y = if (atP x y < x.length ∧ eqP (gL tP x (atP x y)) y = true) then x else vb5 x y (atP x y) := rfl
  generalize atP x y = n at *
  have hlo : inB (n : Int) (x.length + 1) = true := e8 (by omega)
  have hd : (bL tP (x.take n)).length = n := by rw [← m8, K1, List.length_take]; omega
  have hlen : (vb5 x y n).length = x.length + 1 := by unfold vb5; simp only [List.length_append, List.length_cons, List.length_take, List.length_drop]; omega
  have lt : len (bL tP (x.take n)) = n := by rw [m8]; exact hd
  have ld : len (bL tP (x.drop n)) = x.length - n := by rw [K1, List.length_drop]
  have b1 : (Nat.beq 1 1 && Nat.ble ((1 + (x.length - n)) * 32) room) = true := by rw [X5 (by omega)]; rfl
  have b2 : (Nat.beq 0 0 && Nat.ble ((0 + n) * 32) room) = true := by rw [X5 (by omega)]; rfl
  have e0 : app [] (bL tP (x.take n)) = bL tP (x.take n) := rfl
  have b3 : (Nat.beq (0 + n) n && Nat.ble (((0 + n) + 1) * 32) room) = true := by rw [X5 (by omega), Nat.zero_add, Nat.beq_refl]; rfl
  have l3 : len (bL tP (x.take n ++ [y])) = n + 1 := by rw [K1, List.length_append, List.length_take]; simp only [List.length_singleton]; omega
  have b4 : (Nat.beq ((0 + n) + 1) (n + 1) && Nat.ble ((((0 + n) + 1) + (x.length - n)) * 32) room) = true := by rw [X5 (by omega), Nat.zero_add, Nat.beq_refl]; rfl
  have z0 : ∀ {k : Nat}, Nat.beq k 0 = true → k = 0 := fun {k} h => Nat.eq_of_beq_eq_true h
  have fin : ins x y = vb5 x y n → ∀ m r, m = x.length + 1 → r = bL tP (vb5 x y n) → Rd (one (r1L tP)) (some (.sl 0 0 m 0, [⟨50, 4, r, true, false, 0⟩])) (fun r => r = ins x y) :=
    fun hq m r hm hr => Vc8 (by rw [hlen]; exact hm) hr hq.symm
  have tail : ins x y = vb5 x y n → Rd (one (r1L tP)) (sl (Nat.beq n 0) (sl (Nat.beq (x.length - n) 0) (some ((.sl 0 0 1 0), [⟨50, 4, [[(i y.n.x), (i y.n.y), (i y.n.z), (i y.b)]], true, false, 0⟩]))
      (some ((.sl 0 0 (1 + (x.length - n)) 0), [⟨50, 4, (app [[(i y.n.x), (i y.n.y), (i y.n.z), (i y.b)]] (bL tP (x.drop n))), true, false, 0⟩])))
      (sl (Nat.beq (x.length - n) 0) (some ((.sl 0 0 ((0 + n) + 1) 0), [⟨50, 4, bL tP (x.take n ++ [y]), true, false, 0⟩]))
        (some ((.sl 0 0 (((0 + n) + 1) + (x.length - n)) 0), [⟨50, 4, (app (bL tP (x.take n ++ [y])) (bL tP (x.drop n))), true, false, 0⟩])))) (fun r => r = ins x y) := fun hq => by
    refine Rd.sl (fun q1 => Rd.sl (fun q2 => ?_) (fun q2 => ?_)) (fun q1 => Rd.sl (fun q2 => ?_) (fun q2 => ?_))
    · have := z0 q1; have := z0 q2
      refine fin hq _ _ (by omega) ?_
      have : x = [] := List.eq_nil_of_length_eq_zero (by omega)
      subst this
      rw [show n = 0 by omega]; rfl
    · have := z0 q1; subst this
      exact fin hq _ _ (by omega) rfl
    · have := z0 q2
      refine fin hq _ _ (by omega) ?_
      unfold vb5
      rw [show x.drop n = [] from List.drop_eq_nil_of_le (by omega)]
    · refine fin hq _ _ (by omega) ?_
      rw [Ja9]
      unfold vb5
      rw [List.append_assoc]; rfl
  unfold La8
  simp only [l8, l6]
  rw [h1]
  simp only [Int.toNat_natCast, zc4 x n h3, zc5, lt, ld, b1, b2, e0, b3, Cb6, l3, b4, hlo, n5]
  have main : Rd (one (r1L tP)) (sl (decide ((n : Int) < (x.length : Int))) (sl (inB (n : Int) x.length) (sl (((gL tP x n).n.x == y.n.x) && (((gL tP x n).n.y == y.n.y) && (((gL tP x n).n.z == y.n.z) && (((gL tP x n).b == y.b) && true)))) (some (eL tP x, []))
      (sl (Nat.beq n 0) (sl (Nat.beq (x.length - n) 0) (some ((.sl 0 0 1 0), [⟨50, 4, [[(i y.n.x), (i y.n.y), (i y.n.z), (i y.b)]], true, false, 0⟩]))
      (some ((.sl 0 0 (1 + (x.length - n)) 0), [⟨50, 4, (app [[(i y.n.x), (i y.n.y), (i y.n.z), (i y.b)]] (bL tP (x.drop n))), true, false, 0⟩])))
      (sl (Nat.beq (x.length - n) 0) (some ((.sl 0 0 ((0 + n) + 1) 0), [⟨50, 4, bL tP (x.take n ++ [y]), true, false, 0⟩]))
        (some ((.sl 0 0 (((0 + n) + 1) + (x.length - n)) 0), [⟨50, 4, (app (bL tP (x.take n ++ [y])) (bL tP (x.drop n))), true, false, 0⟩]))))) none)
      (sl (Nat.beq n 0) (sl (Nat.beq (x.length - n) 0) (some ((.sl 0 0 1 0), [⟨50, 4, [[(i y.n.x), (i y.n.y), (i y.n.z), (i y.b)]], true, false, 0⟩]))
      (some ((.sl 0 0 (1 + (x.length - n)) 0), [⟨50, 4, (app [[(i y.n.x), (i y.n.y), (i y.n.z), (i y.b)]] (bL tP (x.drop n))), true, false, 0⟩])))
      (sl (Nat.beq (x.length - n) 0) (some ((.sl 0 0 ((0 + n) + 1) 0), [⟨50, 4, bL tP (x.take n ++ [y]), true, false, 0⟩]))
        (some ((.sl 0 0 (((0 + n) + 1) + (x.length - n)) 0), [⟨50, 4, (app (bL tP (x.take n ++ [y])) (bL tP (x.drop n))), true, false, 0⟩]))))) (fun r => r = ins x y) := by
    by_cases hn : n < x.length
    · rw [btD (l0 hn), bt (e8 hn)]
      exact Rd.sl (fun q => ⟨_, x, rfl, yd4 tP x, by rw [hdef, if_pos ⟨hn, q⟩]⟩) fun q => tail (by
        rw [hdef, if_neg fun h => ?_]
        have h := h.2
        rw [show eqP (gL tP x n) y = false from q] at h
        cases h)
    · rw [bfD (v8 hn)]
      exact tail (by rw [hdef, if_neg fun h => hn h.1])
  rcases h2 with rfl | rfl
  · exact main
  · exact main
theorem Vd5 (x : List Pln) (y : Pln) (hx : x.length ≤ 1000000) : D0 x y = fb5 x y := (ud4 x y hx).p.trans (Td8 y x)
noncomputable def hb9 (l : List V3) (a c : Nat) (out : List Pln) (k : Nat) : List Pln :=
  if (fa1 (gL tV l a) (gL tV l c) (gL tV l k)).2 then
    (if hold (fa8 (fa1 (gL tV l a) (gL tV l c) (gL tV l k)).1) l then fb5 (if hold (fa1 (gL tV l a) (gL tV l c) (gL tV l k)).1 l then fb5 out (fa1 (gL tV l a) (gL tV l c) (gL tV l k)).1 else out) (fa8 (fa1 (gL tV l a) (gL tV l c) (gL tV l k)).1)
     else (if hold (fa1 (gL tV l a) (gL tV l c) (gL tV l k)).1 l then fb5 out (fa1 (gL tV l a) (gL tV l c) (gL tV l k)).1 else out))
  else out
noncomputable def F2 (l : List V3) (a : Nat) (out : List Pln) (c : Nat) : List Pln := (List.range c).foldl (hb9 l a c) out
noncomputable def F1 (l : List V3) (out : List Pln) (a : Nat) : List Pln := (List.range a).foldl (F2 l a) out
noncomputable def F0 (l : List V3) : List Pln := (List.range l.length).foldl (F1 l) []
theorem Gb7 (x : List Pln) (y : Pln) : phP (fb5 x y) = 1 := by
  cases h : fb5 x y with
  | nil => exact absurd h (ge5 _ _)
  | cons _ _ => rfl
theorem fc0 (l : List V3) (a c : Nat) (out : List Pln) (k : Nat) : (hb9 l a c out k).length ≤ out.length + 2 := by
  unfold hb9
  split
  · split
    · refine Nat.le_trans (ob3 _ _) ?_
      split
      · have := ob3 (fa1 (gL tV l a) (gL tV l c) (gL tV l k)).1 out; omega
      · omega
    · split
      · have := ob3 (fa1 (gL tV l a) (gL tV l c) (gL tV l k)).1 out; omega
      · omega
  · omega
theorem B1 {τ : Type} (f : τ → Nat → τ) (a : τ) (n : Nat) : (List.range (n + 1)).foldl f a = f ((List.range n).foldl f a) n := by
  rw [List.range_succ, List.foldl_append]; rfl
theorem Xb7 {f : List Pln → Nat → List Pln} {m : Nat} (h : ∀ o k, (f o k).length ≤ o.length + m) (o : List Pln) : ∀ n, ((List.range n).foldl f o).length ≤ o.length + m * n
  | 0 => Nat.le_refl _
  | n + 1 => by
    rw [B1]
    have h1 := h ((List.range n).foldl f o) n
    have h2 := Xb7 h o n
    rw [Nat.mul_succ]
    omega
theorem Ee3 (l : List V3) (hl : l.length ≤ 48) (a c : Nat) (ha : a < l.length) (hc : c < a) (out : List Pln) (ho : out.length ≤ 900000) :
    ∃ j, lp (Q1 ⟨l, (a : Int), (c : Int)⟩) ⟨phP out, 0, out⟩ = (phP (F2 l a out c) + 1, ⟨phP (F2 l a out c), ((j : Nat) : Int), F2 l a out c⟩) := by
  have key := ia0 (step := Q1 ⟨l, (a : Int), (c : Int)⟩) (mk := fun j (o : List Pln) => (⟨phP o, (j : Int), o⟩ : s5)) c (fun j o => j ≤ c ∧ o = (List.range j).foldl (hb9 l a c) out) (fun t s => t = phP (F2 l a out c) + 1 ∧ ∃ j : Nat, s = ⟨phP (F2 l a out c), (j : Int), F2 l a out c⟩) (by omega)
    (fun j o hj hi => by
      obtain ⟨_, hi⟩ := hi
      have hlen : o.length ≤ 990000 := by
        rw [hi]
        have := Xb7 (fc0 l a c) out j
        omega
      have hn := n8 hj (show c ≤ 4611686018427387904 by omega)
      have hh : ∀ p, ca3 p l = true := fun p => zd5 p l (by omega)
      have hp : ∀ p, na2 p l = hold p l := fun p => ge9 p l (by omega)
      have hg1 : ∀ y, ga3 o y = true := fun y => zd6 o y (by omega)
      have hq1 : ∀ y, D0 o y = fb5 o y := fun y => Vd5 o y (by omega)
      have hg2 : ∀ y z, ga3 (fb5 o y) z = true := fun y z => zd6 _ z (by have := ob3 y o; omega)
      have hq2 : ∀ y z, D0 (fb5 o y) z = fb5 (fb5 o y) z := fun y z => Vd5 _ z (by have := ob3 y o; omega)
      have hfl : La5 (fa1 (gL tV l a) (gL tV l c) (gL tV l j)).1 = fa8 (fa1 (gL tV l a) (gL tV l c) (gL tV l j)).1 := Ud9 (ge7 _ _ _)
      have fin : ∀ {s : s5}, s = ⟨phP (hb9 l a c o j), ((j + 1 : Nat) : Int), hb9 l a c o j⟩ → Nx (.next s) (fun t => t = phP (F2 l a out c) + 1 ∧ ∃ j' : Nat, (⟨phP o, (j : Int), o⟩ : s5) = ⟨phP (F2 l a out c), (j' : Int), F2 l a out c⟩)
          (fun s => ∃ o', s = (⟨phP o', ((j + 1 : Nat) : Int), o'⟩ : s5) ∧ (j + 1 ≤ c ∧ o' = (List.range (j + 1)).foldl (hb9 l a c) out)) := fun {s} hs =>
        .nx ⟨_, hs, by omega, by rw [B1, ← hi]⟩
      clear hi
      unfold hb9 at fin
      generalize hT : fa1 (gL tV l a) (gL tV l c) (gL tV l j) = T at *
      have hb1 : inB (a : Int) l.length = true := e8 ha
      have hb2 : inB (c : Int) l.length = true := e8 (by omega)
      have hb3 : inB (j : Int) l.length = true := e8 (by omega)
      cases o with
      | nil =>
        show Nx (E2 Stp.next Stp.exit Stp.fail _ _) _ _
        simp only [E2, nb9, Da6, Int.toNat_natCast, l8, K0, hT, hh, hp, hfl, hg1, hq1, hg2, hq2, hn, hb1, hb2, hb3]
        rw [btD (l0 hj)]
        cases h2 : T.2 with
        | false => exact fin (by rw [h2]; rfl)
        | true =>
          cases h3 : hold T.1 l with
          | false =>
            cases h4 : hold (fa8 T.1) l with
            | false => exact fin (by rw [h2, h3, h4]; rfl)
            | true => exact fin (by rw [h2, h3, h4]; simp only [if_true, if_false, Gb7, Bool.false_eq_true])
          | true =>
            cases h4 : hold (fa8 T.1) l with
            | false => exact fin (by rw [h2, h3, h4]; simp only [if_true, if_false, Gb7, Bool.false_eq_true])
            | true => exact fin (by rw [h2, h3, h4]; simp only [if_true, Gb7])
      | cons q o =>
        show Nx (E3 Stp.next Stp.exit Stp.fail _ _) _ _
        simp only [E3, nb9, Da6, Int.toNat_natCast, l8, K0, hT, hh, hp, hfl, hg1, hq1, hg2, hq2, hn, hb1, hb2, hb3]
        rw [btD (l0 hj)]
        cases h2 : T.2 with
        | false => exact fin (by rw [h2]; rfl)
        | true =>
          cases h3 : hold T.1 l with
          | false =>
            cases h4 : hold (fa8 T.1) l with
            | false => exact fin (by rw [h2, h3, h4]; rfl)
            | true => exact fin (by rw [h2, h3, h4]; simp only [if_true, if_false, Gb7, Bool.false_eq_true])
          | true =>
            cases h4 : hold (fa8 T.1) l with
            | false => exact fin (by rw [h2, h3, h4]; simp only [if_true, if_false, Gb7, Bool.false_eq_true])
            | true => exact fin (by rw [h2, h3, h4]; simp only [if_true, Gb7]))
    (fun j o hj hi => by
      obtain ⟨h1, hi⟩ := hi
      have e : j = c := by omega
      subst e
      have hF : o = F2 l a out j := hi
      rw [← hF]
      cases o with
      | nil =>
        refine ⟨1, ?_, rfl, j, rfl⟩
        show E2 Stp.next Stp.exit Stp.fail _ _ = _
        simp only [E2]
        rw [bfD (v8 (Nat.lt_irrefl _))]
      | cons q o =>
        refine ⟨2, ?_, rfl, j, rfl⟩
        show E3 Stp.next Stp.exit Stp.fail _ _ = _
        simp only [E3]
        rw [bfD (v8 (Nat.lt_irrefl _))]) 0 out ⟨Nat.zero_le _, rfl⟩
  obtain ⟨t, s, h1, rfl, j, rfl⟩ := key
  exact ⟨j, h1⟩
theorem Ee4 (l : List V3) (hl : l.length ≤ 48) (a : Nat) (ha : a < l.length) (out : List Pln) (ho : out.length ≤ 800000) :
    ∃ j, lp (Q3 ⟨(a : Int)⟩) ⟨phP out, l, 0, out⟩ = (phP (F1 l out a) + 1, ⟨phP (F1 l out a), l, ((j : Nat) : Int), F1 l out a⟩) := by
  have hL2 : ∀ o k, k ≤ 48 → (F2 l a o k).length ≤ o.length + 96 := fun o k hk => by have := Xb7 (fc0 l a k) o k; show ((List.range k).foldl (hb9 l a k) o).length ≤ _; omega
  have hpre : ∀ j, j ≤ a → ((List.range j).foldl (F2 l a) out).length ≤ out.length + 96 * j := by
    intro j
    induction j with
    | zero => intro _; exact Nat.le_refl _
    | succ j ih =>
      intro h
      rw [B1]
      have := ih (by omega)
      have := hL2 ((List.range j).foldl (F2 l a) out) j (by omega)
      omega
  have key := ia0 (step := Q3 ⟨(a : Int)⟩) (mk := fun j (o : List Pln) => (⟨phP o, l, (j : Int), o⟩ : s6)) a (fun j o => j ≤ a ∧ o = (List.range j).foldl (F2 l a) out) (fun t s => t = phP (F1 l out a) + 1 ∧ ∃ j : Nat, s = ⟨phP (F1 l out a), l, (j : Int), F1 l out a⟩) (by omega)
    (fun j o hj hi => by
      obtain ⟨hja, hi⟩ := hi
      have hlen : o.length ≤ 900000 := by rw [hi]; have := hpre j hja; omega
      have hn := n8 hj (show a ≤ 4611686018427387904 by omega)
      obtain ⟨j', e1⟩ := Ee3 l hl a j ha hj o hlen
      have fin : ∀ {s : s6}, s = ⟨phP (F2 l a o j), l, ((j + 1 : Nat) : Int), F2 l a o j⟩ → Nx (.next s) (fun t => t = phP (F1 l out a) + 1 ∧ ∃ j' : Nat, (⟨phP o, l, (j : Int), o⟩ : s6) = ⟨phP (F1 l out a), l, (j' : Int), F1 l out a⟩)
          (fun s => ∃ o', s = (⟨phP o', l, ((j + 1 : Nat) : Int), o'⟩ : s6) ∧ (j + 1 ≤ a ∧ o' = (List.range (j + 1)).foldl (F2 l a) out)) := fun {s} hs =>
        .nx ⟨_, hs, by omega, by rw [B1, ← hi]⟩
      clear hi
      generalize hF : F2 l a o j = R at *
      cases o with
      | nil =>
        show Nx (E4 Stp.next Stp.exit Stp.fail _ _) _ _
        simp only [E4, l8, l6, hn]
        have e1 : lp (Q1 ⟨l, (a : Int), (j : Int)⟩) ⟨0, 0, []⟩ = _ := e1
        rw [btD (l0 hj), e1]
        cases R with
        | nil => exact fin rfl
        | cons q R => exact fin rfl
      | cons q o =>
        show Nx (E5 Stp.next Stp.exit Stp.fail _ _) _ _
        simp only [E5, l8, l6, hn]
        have e1 : lp (Q1 ⟨l, (a : Int), (j : Int)⟩) ⟨1, 0, q :: o⟩ = _ := e1
        rw [btD (l0 hj), e1]
        cases R with
        | nil => exact fin rfl
        | cons q R => exact fin rfl)
    (fun j o hj hi => by
      obtain ⟨h1, hi⟩ := hi
      have e : j = a := by omega
      subst e
      have hF : o = F1 l out j := hi
      rw [← hF]
      cases o with
      | nil =>
        refine ⟨1, ?_, rfl, j, rfl⟩
        show E4 Stp.next Stp.exit Stp.fail _ _ = _
        simp only [E4]
        rw [bfD (v8 (Nat.lt_irrefl _))]
      | cons q o =>
        refine ⟨2, ?_, rfl, j, rfl⟩
        show E5 Stp.next Stp.exit Stp.fail _ _ = _
        simp only [E5]
        rw [bfD (v8 (Nat.lt_irrefl _))]) 0 out ⟨Nat.zero_le _, rfl⟩
  obtain ⟨t, s, h1, rfl, j, rfl⟩ := key
  exact ⟨j, h1⟩
theorem Ee5 (l : List V3) (hl : l.length ≤ 48) :
    ∃ j, lp (la6 ⟨⟩) ⟨0, l, 0, []⟩ = (phP (F0 l) + 1, ⟨phP (F0 l), l, ((j : Nat) : Int), F0 l⟩) := by
  have hL2 : ∀ a o k, k ≤ 48 → (F2 l a o k).length ≤ o.length + 96 := fun a o k hk => by have := Xb7 (fc0 l a k) o k; show ((List.range k).foldl (hb9 l a k) o).length ≤ _; omega
  have hL1 : ∀ o a, a ≤ 48 → ∀ j, j ≤ a → ((List.range j).foldl (F2 l a) o).length ≤ o.length + 96 * j := by
    intro o a ha j
    induction j with
    | zero => intro _; exact Nat.le_refl _
    | succ j ih =>
      intro h
      rw [B1]
      have := ih (by omega)
      have := hL2 a ((List.range j).foldl (F2 l a) o) j (by omega)
      omega
  have hpre : ∀ j, j ≤ l.length → ((List.range j).foldl (F1 l) []).length ≤ 5000 * j := by
    intro j
    induction j with
    | zero => intro _; exact Nat.le_refl _
    | succ j ih =>
      intro h
      rw [B1]
      have := ih (by omega)
      have : (F1 l ((List.range j).foldl (F1 l) []) j).length ≤ _ := hL1 ((List.range j).foldl (F1 l) []) j (by omega) j (Nat.le_refl _)
      omega
  have key := ia0 (step := la6 ⟨⟩) (mk := fun j (o : List Pln) => (⟨phP o, l, (j : Int), o⟩ : v7)) l.length (fun j o => j ≤ l.length ∧ o = (List.range j).foldl (F1 l) []) (fun t s => t = phP (F0 l) + 1 ∧ ∃ j : Nat, s = ⟨phP (F0 l), l, (j : Int), F0 l⟩) (by omega)
    (fun j o hj hi => by
      obtain ⟨hja, hi⟩ := hi
      have hlen : o.length ≤ 800000 := by rw [hi]; have := hpre j hja; omega
      have hn := n8 hj (show l.length ≤ 4611686018427387904 by omega)
      obtain ⟨j', e1⟩ := Ee4 l hl j hj o hlen
      have fin : ∀ {s : v7}, s = ⟨phP (F1 l o j), l, ((j + 1 : Nat) : Int), F1 l o j⟩ → Nx (.next s) (fun t => t = phP (F0 l) + 1 ∧ ∃ j' : Nat, (⟨phP o, l, (j : Int), o⟩ : v7) = ⟨phP (F0 l), l, (j' : Int), F0 l⟩)
          (fun s => ∃ o', s = (⟨phP o', l, ((j + 1 : Nat) : Int), o'⟩ : v7) ∧ (j + 1 ≤ l.length ∧ o' = (List.range (j + 1)).foldl (F1 l) [])) := fun {s} hs =>
        .nx ⟨_, hs, by omega, by rw [B1, ← hi]⟩
      clear hi
      generalize hF : F1 l o j = R at *
      cases o with
      | nil =>
        show Nx (E6 Stp.next Stp.exit Stp.fail ⟨⟩ _) _ _
        simp only [E6, l8, l6, hn]
        have e1 : lp (Q3 ⟨(j : Int)⟩) ⟨0, l, 0, []⟩ = _ := e1
        rw [btD (l0 hj), e1]
        cases R with
        | nil => exact fin rfl
        | cons q R => exact fin rfl
      | cons q o =>
        show Nx (E7 Stp.next Stp.exit Stp.fail ⟨⟩ _) _ _
        simp only [E7, l8, l6, hn]
        have e1 : lp (Q3 ⟨(j : Int)⟩) ⟨1, l, 0, q :: o⟩ = _ := e1
        rw [btD (l0 hj), e1]
        cases R with
        | nil => exact fin rfl
        | cons q R => exact fin rfl)
    (fun j o hj hi => by
      obtain ⟨h1, hi⟩ := hi
      have e : j = l.length := by omega
      subst e
      have hF : o = F0 l := hi
      rw [← hF]
      cases o with
      | nil =>
        refine ⟨1, ?_, rfl, _, rfl⟩
        show E6 Stp.next Stp.exit Stp.fail ⟨⟩ _ = _
        simp only [E6]
        rw [bfD (v8 (Nat.lt_irrefl _))]
      | cons q o =>
        refine ⟨2, ?_, rfl, _, rfl⟩
        show E7 Stp.next Stp.exit Stp.fail ⟨⟩ _ = _
        simp only [E7]
        rw [bfD (v8 (Nat.lt_irrefl _))]) 0 [] ⟨Nat.zero_le _, rfl⟩
  obtain ⟨t, s, h1, rfl, j, rfl⟩ := key
  exact ⟨j, h1⟩
noncomputable def fc1 (l : List V3) : List Pln × Int := if ec9 l = 0 then (F0 l, 0) else ([], ec9 l)
theorem Vd6 (l : List V3) (hl : l.length ≤ 48) : Rd (two (r1L tP) r1I) (ua6 l) (fun r => r = fc1 l) := by
  obtain ⟨j, e1⟩ := Ee5 l hl
  have hb : l.length ≤ 1000000000 := by omega
  unfold ua6 fc1
  simp only [l8, l6, K0, Mc9 l hb, Hd5 l hb, n5]
  rw [e1]
  by_cases h0 : ec9 l = 0
  · rw [if_pos h0, show (ec9 l != 0) = false by rw [h0]; rfl, ca8]
    cases hF : F0 l with
    | nil => exact ⟨_, ([], 0), rfl, rfl, rfl⟩
    | cons q o => exact ⟨_, (q :: o, 0), rfl, Sd4 (q :: o) 0, rfl⟩
  · rw [if_neg h0, show (ec9 l != 0) = true by simpa using h0, n5]
    exact ⟨_, ([], ec9 l), rfl, rfl, rfl⟩
theorem Vd7 (l : List V3) (hl : l.length ≤ 48) : Qa6 l = fc1 l := (Vd6 l hl).p
end Go.Ev.Ce
namespace Go.Ev.Ce
open Go Go.Ev Go.Ev.L Go.Proofs
theorem ld6 {c : List Pln} (hf : ful c = true) : (chk c == 0) = true ∧ Bds (c ++ ws) ∧ Xc4 (c ++ ws) := by
 unfold ful at hf
 rw [Bool.and_eq_true] at hf
 have hb := (Na0 hf.1).1
 exact ⟨hf.1, hb, (ob2 hb (ub0 c) (by simp [ws])).1 hf.2⟩
def ipt (v : V3) : Pt := ⟨v.x, v.y, v.z, 1⟩
theorem te7 {v : V3} (h : inV v = true) : ∀ p ∈ ws, 0 ≤ rmZ p (ipt v) := by
 obtain ⟨⟨a1, a2⟩, ⟨a3, a4⟩, a5, a6⟩ := (Wb5 v).1 h
 intro p hp
 simp only [ws, List.mem_cons, List.not_mem_nil, or_false] at hp
 rcases hp with rfl | rfl | rfl | rfl | rfl | rfl <;> simp only [rmZ, ipt] <;> omega
theorem Ad6 {c : List Pln} {x : Pt} (hb : ∀ p ∈ c, Bd p) (hx : Okx x) : inn c x = true ↔ ∀ p ∈ c, 0 ≤ rmZ p x := by
 unfold inn
 rw [List.all_eq_true]
 refine ⟨fun h p hp => ?_, fun h p hp => ?_⟩
 ·have := h p hp
  rw [Xc5 (hb p hp) hx] at this
  simpa using this
 ·rw [Xc5 (hb p hp) hx]
  simpa using h p hp
end Go.Ev.Ce
namespace Go.Ev.Ce
open Go Go.Ev Go.Ev.L Go.Proofs
theorem ud5 {p : Pln} (h : okp p = true) : g3 p.n = 1 := by
 unfold okp at h
 simp only [Bool.and_eq_true, beq_iff_eq] at h
 exact h.2.1
theorem Ad7 {p : Pln} (h : okp p = true) : p.n ≠ ⟨0, 0, 0⟩ := fun e => by
 have := ud5 h
 rw [e] at this
 revert this
 decide
theorem Vd8 (c : Int) (n : V3) : g3 ⟨c * n.x, c * n.y, c * n.z⟩ = c.natAbs * g3 n := by
 unfold g3
 simp only [Int.natAbs_mul, Nat.gcd_mul_left]
 rw [Int.natCast_mul]
theorem Vd9 {m n : V3} (hm : g3 m = 1) (hn : g3 n = 1) (h : i6 m n = ⟨0, 0, 0⟩) : n = m ∨ n = neg m := by
 unfold i6 at h
 simp only [V3.mk.injEq] at h
 obtain ⟨c1, c2, c3⟩ := h
 have k : ∀ {c d : Int}, c * m.x = d * n.x → c * m.y = d * n.y → c * m.z = d * n.z → c.natAbs = d.natAbs := fun {c d} e1 e2 e3 => by
  have a1 := Vd8 c m
  have a2 := Vd8 d n
  rw [e1, e2, e3, a2, hm, hn] at a1
  omega
 have ax := k (c := n.x) (d := m.x) (by grind) (by grind) (by grind)
 have ay := k (c := n.y) (d := m.y) (by grind) (by grind) (by grind)
 have az := k (c := n.z) (d := m.z) (by grind) (by grind) (by grind)
 have sg : ∀ {a c : Int}, a.natAbs = c.natAbs → a = c ∨ a = -c := fun h => by omega
 -- the sign of one component that is not zero is that of all
 have go : ∀ {s u t v : Int}, u ≠ 0 → s * v = u * t → s = u → t = v := fun {s u t v} hu h e => by
  subst e
  exact (Int.eq_of_mul_eq_mul_left hu h).symm
 have gn : ∀ {s u t v : Int}, u ≠ 0 → s * v = u * t → s = -u → t = -v := fun {s u t v} hu h e => by
  subst e
  have : u * t = u * (-v) := by rw [← h]; grind
  exact Int.eq_of_mul_eq_mul_left hu this
 by_cases hx : m.x = 0
 ·have hx' : n.x = 0 := by omega
  by_cases hy : m.y = 0
  ·have hy' : n.y = 0 := by omega
   rcases sg az with e | e
   ·exact .inl (V3.ext' (by omega) (by omega) e)
   ·exact .inr (V3.ext' (by show n.x = -m.x; omega) (by show n.y = -m.y; omega) e)
  ·rcases sg ay with e | e
   ·exact .inl (V3.ext' (by omega) e (go hy (by grind) e))
   ·exact .inr (V3.ext' (by show n.x = -m.x; omega) e (gn hy (by grind) e))
 ·rcases sg ax with e | e
  ·exact .inl (V3.ext' e (go hx (by grind) e) (go hx (by grind) e))
  ·exact .inr (V3.ext' e (gn hx (by grind) e) (gn hx (by grind) e))
structure Ne4 (l : List V3) : Prop where
 h : ∃ a c k v, a ∈ l ∧ c ∈ l ∧ k ∈ l ∧ v ∈ l ∧ dot (i6 (sub c a) (sub k a)) (sub v a) ≠ 0
theorem gLm {l : List V3} {j : Nat} (h : j < l.length) : gL tV l j ∈ l := sc7 tV h
theorem te8 {l : List V3} (hf : nf0 l = true) : Ne4 l := by
 unfold nf0 at hf
 obtain ⟨a, ha, hf⟩ := List.any_eq_true.1 hf
 unfold nf1 at hf
 obtain ⟨c, hc, hf⟩ := List.any_eq_true.1 hf
 unfold nf2 at hf
 obtain ⟨k, hk, hf⟩ := List.any_eq_true.1 hf
 rw [List.mem_range] at ha hc hk
 unfold nf at hf
 rw [Bool.and_eq_true] at hf
 obtain ⟨h1, h2⟩ := hf
 obtain ⟨⟨i1, i2, i3⟩, ⟨ok, ⟨g, hg, e1, e2, e3⟩, o⟩⟩ := Wa8 h1
 unfold Vd0 at h2
 obtain ⟨v, hv, h2⟩ := List.any_eq_true.1 h2
 generalize (fa1 (gL tV l a) (gL tV l c) (gL tV l k)).1 = p at *
 refine ⟨_, _, _, v, gLm ha, gLm (show c < l.length by omega), gLm (show k < l.length by omega), hv, fun h0 => ?_⟩
 have hs : vb8 p v ≠ 0 := by simpa using h2
 have hiv : inV v = true := by
  cases hi : inV v with
  | true => rfl
  | false => exact absurd (by unfold vb8; rw [ok, hi]; rfl) hs
 apply hs
 rw [Hd4 ok hiv, o]
 have : g * (dot p.n v - dot p.n (gL tV l a)) = dot (i6 (sub (gL tV l c) (gL tV l a)) (sub (gL tV l k) (gL tV l a))) (sub v (gL tV l a)) := by
  unfold dot
  rw [← e1, ← e2, ← e3]
  unfold sub
  grind
 rw [h0] at this
 have := (Int.mul_eq_zero.1 this).resolve_left (by omega)
 omega
theorem ld7 {a c k v n : V3} (hd : dot (i6 (sub c a) (sub k a)) (sub v a) ≠ 0) (hn : n ≠ ⟨0, 0, 0⟩) (h1 : dot n c = dot n a) (h2 : dot n k = dot n a) (h3 : dot n v = dot n a) : False := by
 generalize hD : dot (i6 (sub c a) (sub k a)) (sub v a) = D at *
 have q1 : dot n (sub c a) = 0 := by unfold dot sub at *; grind
 have q2 : dot n (sub k a) = 0 := by unfold dot sub at *; grind
 have q3 : dot n (sub v a) = 0 := by unfold dot sub at *; grind
 generalize sub c a = p at *
 generalize sub k a = q at *
 generalize sub v a = r at *
 have i1 : D * n.x = (i6 q r).x * dot n p + (i6 r p).x * dot n q + (i6 p q).x * dot n r := by rw [← hD]; simp only [dot, i6]; grind
 have i2 : D * n.y = (i6 q r).y * dot n p + (i6 r p).y * dot n q + (i6 p q).y * dot n r := by rw [← hD]; simp only [dot, i6]; grind
 have i3 : D * n.z = (i6 q r).z * dot n p + (i6 r p).z * dot n q + (i6 p q).z * dot n r := by rw [← hD]; simp only [dot, i6]; grind
 rw [q1, q2, q3] at i1 i2 i3
 have z : ∀ {x : Int}, D * x = 0 → x = 0 := fun h => (Int.mul_eq_zero.1 h).resolve_left hd
 exact hn (V3.ext' (z (by omega)) (z (by omega)) (z (by omega)))
theorem Bc3 {p : Pln} {l : List V3} (hp : okp p = true) (hl : l.all inV = true) : hold p l = true ↔ ∀ v ∈ l, dot p.n v ≤ p.b := by
 unfold hold
 rw [Bool.not_eq_true', ← Bool.not_eq_true, List.any_eq_true]
 constructor
 ·intro h v hv
  have h1 : ¬ vb8 p v > 0 := fun h' => h ⟨v, hv, by simpa using h'⟩
  rw [ld5 hp (List.all_eq_true.1 hl v hv)] at h1
  omega
 ·rintro h ⟨v, hv, h1⟩
  have h1 : vb8 p v > 0 := by simpa using h1
  rw [ld5 hp (List.all_eq_true.1 hl v hv)] at h1
  have := h v hv
  omega
structure Fct (l : List V3) (p : Pln) : Prop where
 ok : okp p = true
 hd : hold p l = true
theorem Hd6 (p : Pln) : fa8 (fa8 p) = p := by
 unfold fa8
 simp only [Int.neg_neg]
theorem Wd0 (p : Pln) (v : V3) : dot (fa8 p).n v = -dot p.n v := by unfold dot fa8; grind
theorem Wd1 {l : List V3} (hf : nf0 l = true) {p : Pln} (hp : okp p = true) : ∃ v ∈ l, dot p.n v ≠ p.b := by
 obtain ⟨a, c, k, v, ha, hc, hk, hv, hd⟩ := te8 hf
 by_cases h1 : dot p.n a = p.b
 ·by_cases h2 : dot p.n c = p.b
  ·by_cases h3 : dot p.n k = p.b
   ·by_cases h4 : dot p.n v = p.b
    ·exact (ld7 hd (Ad7 hp) (h2.trans h1.symm) (h3.trans h1.symm) (h4.trans h1.symm)).elim
    ·exact ⟨v, hv, h4⟩
   ·exact ⟨k, hk, h3⟩
  ·exact ⟨c, hc, h2⟩
 ·exact ⟨a, ha, h1⟩
theorem Bc4 {l : List V3} (hl : l.all inV = true) (hf : nf0 l = true) {u w x x' : V3} (hx : x ∈ l) (hx' : x' ∈ l) {p p' : Pln} (h : Thr u w x p) (h' : Thr u w x' p') (hh : hold p l = true) (hh' : hold p' l = true) : p = p' := by
 obtain ⟨ok, ⟨g, hg, e1, e2, e3⟩, o⟩ := h
 obtain ⟨ok', ⟨g', hg', f1, f2, f3⟩, o'⟩ := h'
 have b1 := (Bc3 ok hl).1 hh
 have b2 := (Bc3 ok' hl).1 hh'
 have k1 := b1 x' hx'
 have k2 := b2 x hx
 have d1 : g * (dot p.n x' - dot p.n u) = dot (i6 (sub w u) (sub x u)) (sub x' u) := by
  unfold dot; rw [← e1, ← e2, ← e3]; unfold sub; grind
 have d2 : g' * (dot p'.n x - dot p'.n u) = -dot (i6 (sub w u) (sub x u)) (sub x' u) := by
  have : g' * (dot p'.n x - dot p'.n u) = dot (i6 (sub w u) (sub x' u)) (sub x u) := by
   unfold dot; rw [← f1, ← f2, ← f3]; unfold sub; grind
  rw [this]; simp only [dot, i6]; grind
 have m1 : g * (dot p.n x' - dot p.n u) ≤ 0 := Int.mul_nonpos_of_nonneg_of_nonpos (by omega) (by omega)
 have m2 : g' * (dot p'.n x - dot p'.n u) ≤ 0 := Int.mul_nonpos_of_nonneg_of_nonpos (by omega) (by omega)
 have hD : dot (i6 (sub w u) (sub x u)) (sub x' u) = 0 := by omega
 have hc : i6 p.n p'.n = ⟨0, 0, 0⟩ := by
  generalize sub w u = d at *
  generalize sub x u = y at *
  generalize sub x' u = y' at *
  have c1 : g * g' * (i6 p.n p'.n).x = d.x * dot (i6 d y) y' := by
   have : g * g' * (i6 p.n p'.n).x = (g * p.n.y) * (g' * p'.n.z) - (g * p.n.z) * (g' * p'.n.y) := by simp only [i6]; grind
   rw [this, e2, e3, f2, f3]; simp only [dot, i6]; grind
  have c2 : g * g' * (i6 p.n p'.n).y = d.y * dot (i6 d y) y' := by
   have : g * g' * (i6 p.n p'.n).y = (g * p.n.z) * (g' * p'.n.x) - (g * p.n.x) * (g' * p'.n.z) := by simp only [i6]; grind
   rw [this, e1, e3, f1, f3]; simp only [dot, i6]; grind
  have c3 : g * g' * (i6 p.n p'.n).z = d.z * dot (i6 d y) y' := by
   have : g * g' * (i6 p.n p'.n).z = (g * p.n.x) * (g' * p'.n.y) - (g * p.n.y) * (g' * p'.n.x) := by simp only [i6]; grind
   rw [this, e1, e2, f1, f2]; simp only [dot, i6]; grind
  rw [hD, Int.mul_zero] at c1 c2 c3
  have hgg : g * g' ≠ 0 := Int.ne_of_gt (Int.mul_pos hg hg')
  exact V3.ext' ((Int.mul_eq_zero.1 c1).resolve_left hgg) ((Int.mul_eq_zero.1 c2).resolve_left hgg) ((Int.mul_eq_zero.1 c3).resolve_left hgg)
 rcases Vd9 (ud5 ok) (ud5 ok') hc with e | e
 ·cases p with | mk n b => cases p' with | mk n' b' =>
  simp only at e o o'
  subst e
  rw [o, o']
 ·exfalso
  obtain ⟨v, hv, hne⟩ := Wd1 hf ok
  have q1 := b1 v hv
  have q2 := b2 v hv
  rw [o', e] at q2
  have s : ∀ z : V3, dot (neg p.n) z = -dot p.n z := fun z => by unfold dot neg; grind
  rw [s, s] at q2
  omega
theorem Hd7 (l : List V3) (a c k : Nat) (out : List Pln) (p : Pln) : p ∈ hb9 l a c out k ↔ p ∈ out ∨ ((fa1 (gL tV l a) (gL tV l c) (gL tV l k)).2 = true ∧
  ((p = (fa1 (gL tV l a) (gL tV l c) (gL tV l k)).1 ∧ hold p l = true) ∨ (p = fa8 (fa1 (gL tV l a) (gL tV l c) (gL tV l k)).1 ∧ hold p l = true))) := by
 unfold hb9
 generalize fa1 (gL tV l a) (gL tV l c) (gL tV l k) = T
 cases h2 : T.2 with
 | false => simp
 | true =>
  simp only [if_true]
  cases h4 : hold (fa8 T.1) l with
  | false =>
   simp only [Bool.false_eq_true, if_false]
   cases h3 : hold T.1 l with
   | false =>
    simp only [Bool.false_eq_true, if_false]
    constructor
    ·exact fun h => .inl h
    ·rintro (h | ⟨_, ⟨rfl, h⟩ | ⟨rfl, h⟩⟩)
     ·exact h
     ·rw [h3] at h; cases h
     ·rw [h4] at h; cases h
   | true =>
    simp only [if_true, ob1]
    constructor
    ·rintro (rfl | h)
     ·exact .inr ⟨trivial, .inl ⟨rfl, h3⟩⟩
     ·exact .inl h
    ·rintro (h | ⟨_, ⟨rfl, h⟩ | ⟨rfl, h⟩⟩)
     ·exact .inr h
     ·exact .inl rfl
     ·rw [h4] at h; cases h
  | true =>
   simp only [if_true, ob1]
   cases h3 : hold T.1 l with
   | false =>
    simp only [Bool.false_eq_true, if_false]
    constructor
    ·rintro (rfl | h)
     ·exact .inr ⟨trivial, .inr ⟨rfl, h4⟩⟩
     ·exact .inl h
    ·rintro (h | ⟨_, ⟨rfl, h⟩ | ⟨rfl, h⟩⟩)
     ·exact .inr h
     ·rw [h3] at h; cases h
     ·exact .inl rfl
   | true =>
    simp only [if_true, ob1]
    constructor
    ·rintro (rfl | rfl | h)
     ·exact .inr ⟨trivial, .inr ⟨rfl, h4⟩⟩
     ·exact .inr ⟨trivial, .inl ⟨rfl, h3⟩⟩
     ·exact .inl h
    ·rintro (h | ⟨_, ⟨rfl, h⟩ | ⟨rfl, h⟩⟩)
     ·exact .inr (.inr h)
     ·exact .inr (.inl rfl)
     ·exact .inl rfl
theorem Xb8 {f : List Pln → Nat → List Pln} {Q : Nat → Pln → Prop} (h : ∀ o k p, p ∈ f o k ↔ p ∈ o ∨ Q k p) (o : List Pln) (p : Pln) : ∀ n, p ∈ (List.range n).foldl f o ↔ p ∈ o ∨ ∃ k, k < n ∧ Q k p
 | 0 => by simp
 | n + 1 => by
  rw [B1, h, Xb8 h o p n]
  constructor
  ·rintro ((h | ⟨k, hk, h⟩) | h)
   ·exact .inl h
   ·exact .inr ⟨k, by omega, h⟩
   ·exact .inr ⟨n, by omega, h⟩
  ·rintro (h | ⟨k, hk, h⟩)
   ·exact .inl (.inl h)
   ·by_cases e : k = n
    ·subst e; exact .inr h
    ·exact .inl (.inr ⟨k, by omega, h⟩)
def Fq (l : List V3) (a c k : Nat) (p : Pln) : Prop := (fa1 (gL tV l a) (gL tV l c) (gL tV l k)).2 = true ∧
  ((p = (fa1 (gL tV l a) (gL tV l c) (gL tV l k)).1 ∧ hold p l = true) ∨ (p = fa8 (fa1 (gL tV l a) (gL tV l c) (gL tV l k)).1 ∧ hold p l = true))
theorem Wd2 (l : List V3) (a c : Nat) (out : List Pln) (p : Pln) : p ∈ F2 l a out c ↔ p ∈ out ∨ ∃ k, k < c ∧ Fq l a c k p := Xb8 (fun o k p => Hd7 l a c k o p) out p c
theorem te9 (l : List V3) (a : Nat) (out : List Pln) (p : Pln) : p ∈ F1 l out a ↔ p ∈ out ∨ ∃ c, c < a ∧ ∃ k, k < c ∧ Fq l a c k p := Xb8 (fun o c p => Wd2 l a c o p) out p a
theorem ue0 (l : List V3) (p : Pln) : p ∈ F0 l ↔ ∃ a, a < l.length ∧ ∃ c, c < a ∧ ∃ k, k < c ∧ Fq l a c k p := by
 have := Xb8 (fun o a p => te9 l a o p) [] p l.length
 simpa [F0] using this
theorem Hd8 {l : List V3} {a c : Nat} {out : List Pln} {k : Nat} (h : cb9 out) : cb9 (hb9 l a c out k) := by
 unfold hb9
 split
 ·split
  ·refine Xb5 _ ?_
   split
   ·exact Xb5 _ h
   ·exact h
  ·split
   ·exact Xb5 _ h
   ·exact h
 ·exact h
theorem Db7 {f : List Pln → Nat → List Pln} (h : ∀ o k, cb9 o → cb9 (f o k)) {o : List Pln} (ho : cb9 o) : ∀ n, cb9 ((List.range n).foldl f o)
 | 0 => ho
 | n + 1 => by rw [B1]; exact h _ _ (Db7 h ho n)
theorem ud6 {l : List V3} {a c : Nat} {out : List Pln} (h : cb9 out) : cb9 (F2 l a out c) := Db7 (fun _ _ h => Hd8 h) h c
theorem ue1 {l : List V3} {a : Nat} {out : List Pln} (h : cb9 out) : cb9 (F1 l out a) := Db7 (fun _ _ h => ud6 h) h a
theorem Hd9 {l : List Pln} (h : cb9 l) : l.Nodup := List.Pairwise.imp (fun {x y} (h : LtP x y) (e : x = y) => ge2 y (e ▸ h)) h
theorem ue2 {l : List V3} (hl : l.all inV = true) (hf : nf0 l = true) {a c : Nat} (ha : a < l.length) (hc : c < a) {out : List Pln} (ho : cb9 out) : (F2 l a out c).length ≤ out.length + 2 := by
 have hk : ∀ k, k < c → gL tV l k ∈ l := fun k hk => gLm (show k < l.length by omega)
 -- the two that there may be
 have one : ∃ P, ∀ k, k < c → ∀ p, (fa1 (gL tV l a) (gL tV l c) (gL tV l k)).2 = true → p = (fa1 (gL tV l a) (gL tV l c) (gL tV l k)).1 → hold p l = true → p = P := by
  by_cases h : ∃ k, k < c ∧ (fa1 (gL tV l a) (gL tV l c) (gL tV l k)).2 = true ∧ hold (fa1 (gL tV l a) (gL tV l c) (gL tV l k)).1 l = true
  ·obtain ⟨k0, h1, h2, h3⟩ := h
   refine ⟨(fa1 (gL tV l a) (gL tV l c) (gL tV l k0)).1, fun k hk1 p h4 h5 h6 => ?_⟩
   subst h5
   exact Bc4 hl hf (hk k hk1) (hk k0 h1) (Wa8 h4).2 (Wa8 h2).2 h6 h3
  ·exact ⟨⟨⟨0, 0, 0⟩, 0⟩, fun k hk1 p h4 h5 h6 => (h ⟨k, hk1, h4, h5 ▸ h6⟩).elim⟩
 have two : ∃ Q, ∀ k, k < c → ∀ p, (fa1 (gL tV l a) (gL tV l c) (gL tV l k)).2 = true → p = fa8 (fa1 (gL tV l a) (gL tV l c) (gL tV l k)).1 → hold p l = true → p = Q := by
  -- through the same points in the other order
  have sw : ∀ {x : V3} {p : Pln}, Thr (gL tV l a) (gL tV l c) x p → Thr (gL tV l c) (gL tV l a) x (fa8 p) := fun {x p} h => by
   obtain ⟨ok, ⟨g, hg, e1, e2, e3⟩, o⟩ := h
   have on : dot p.n (gL tV l c) = dot p.n (gL tV l a) := by
    have : g * (dot p.n (gL tV l c) - dot p.n (gL tV l a)) = 0 := by
     have : g * (dot p.n (gL tV l c) - dot p.n (gL tV l a)) = dot (i6 (sub (gL tV l c) (gL tV l a)) (sub x (gL tV l a))) (sub (gL tV l c) (gL tV l a)) := by
      unfold dot; rw [← e1, ← e2, ← e3]; unfold sub; grind
     rw [this]; simp only [dot, i6]; grind
    have := (Int.mul_eq_zero.1 this).resolve_left (by omega)
    omega
   refine ⟨db0 ok, ⟨g, hg, ?_, ?_, ?_⟩, ?_⟩
   ·show g * -p.n.x = _
    rw [Int.mul_neg, e1]; simp only [i6, sub]; grind
   ·show g * -p.n.y = _
    rw [Int.mul_neg, e2]; simp only [i6, sub]; grind
   ·show g * -p.n.z = _
    rw [Int.mul_neg, e3]; simp only [i6, sub]; grind
   ·rw [Wd0, on, ← o]; rfl
  by_cases h : ∃ k, k < c ∧ (fa1 (gL tV l a) (gL tV l c) (gL tV l k)).2 = true ∧ hold (fa8 (fa1 (gL tV l a) (gL tV l c) (gL tV l k)).1) l = true
  ·obtain ⟨k0, h1, h2, h3⟩ := h
   refine ⟨fa8 (fa1 (gL tV l a) (gL tV l c) (gL tV l k0)).1, fun k hk1 p h4 h5 h6 => ?_⟩
   subst h5
   exact Bc4 hl hf (hk k hk1) (hk k0 h1) (sw (Wa8 h4).2) (sw (Wa8 h2).2) h6 h3
  ·exact ⟨⟨⟨0, 0, 0⟩, 0⟩, fun k hk1 p h4 h5 h6 => (h ⟨k, hk1, h4, h5 ▸ h6⟩).elim⟩
 obtain ⟨P, hP⟩ := one
 obtain ⟨Q, hQ⟩ := two
 have hs : F2 l a out c ⊆ out ++ [P, Q] := fun p hp => by
  rcases (Wd2 l a c out p).1 hp with h | ⟨k, hk1, h1, ⟨h2, h3⟩ | ⟨h2, h3⟩⟩
  ·exact List.mem_append_left _ h
  ·rw [hP k hk1 p h1 h2 h3]; simp
  ·rw [hQ k hk1 p h1 h2 h3]; simp
 have := List.Nodup.length_le_of_subset (Hd9 (ud6 ho)) hs
 simpa using this
theorem he0 (l : List V3) (a : Nat) (out : List Pln) : F2 l a out 0 = out := rfl
theorem Wd3 {l : List V3} (hl : l.all inV = true) (hf : nf0 l = true) {a : Nat} (ha : a < l.length) {out : List Pln} (ho : cb9 out) : ∀ n, n ≤ a → ((List.range n).foldl (F2 l a) out).length ≤ out.length + 2 * (n - 1)
 | 0, _ => by simp
 | 1, _ => by
  show (F2 l a out 0).length ≤ _
  rw [he0]; omega
 | n + 2, h => by
  rw [B1]
  have h1 := Wd3 hl hf ha ho (n + 1) (by omega)
  have h2 := ue2 hl hf ha (show n + 1 < a by omega) (Db7 (f := F2 l a) (fun _ _ h => ud6 h) ho (n + 1))
  omega
theorem ue3 {l : List V3} (hl : l.all inV = true) (hf : nf0 l = true) (h8 : l.length ≤ 8) : (F0 l).length ≤ 42 := by
 have h : ∀ n, n ≤ l.length → ((List.range n).foldl (F1 l) []).length ≤ (n - 1) * (n - 2) := by
  intro n
  induction n with
  | zero => intro _; exact Nat.le_refl _
  | succ n ih =>
   intro hn
   rw [B1]
   have h1 := ih (by omega)
   have h2 : (F1 l ((List.range n).foldl (F1 l) []) n).length ≤ _ := Wd3 hl hf (show n < l.length by omega) (Db7 (f := F1 l) (fun _ _ h => ue1 h) .nil n) n (Nat.le_refl _)
   match n, hn with
   | 0, _ => simpa using h2
   | 1, _ =>
    have h1 : ((List.range 1).foldl (F1 l) []).length ≤ 0 := h1
    have h2 : (F1 l ((List.range 1).foldl (F1 l) []) 1).length ≤ ((List.range 1).foldl (F1 l) []).length + 2 * (1 - 1) := h2
    show (F1 l ((List.range 1).foldl (F1 l) []) 1).length ≤ 0
    omega
   | 2, _ => simp at h1 h2 ⊢; omega
   | 3, _ => simp at h1 h2 ⊢; omega
   | 4, _ => simp at h1 h2 ⊢; omega
   | 5, _ => simp at h1 h2 ⊢; omega
   | 6, _ => simp at h1 h2 ⊢; omega
   | 7, _ => simp at h1 h2 ⊢; omega
   | n + 8, hn => omega
 have h1 := h l.length (Nat.le_refl _)
 show ((List.range l.length).foldl (F1 l) []).length ≤ 42
 have : ∀ n, n ≤ 8 → (n - 1) * (n - 2) ≤ 42 := by decide
 have := this l.length h8
 omega
theorem Wd4 {l : List V3} {p : Pln} (hp : p ∈ F0 l) : Fct l p := by
 obtain ⟨a, ha, c, hc, k, hk, h1, ⟨h2, h3⟩ | ⟨h2, h3⟩⟩ := (ue0 l p).1 hp
 ·exact ⟨h2 ▸ (Wa8 h1).2.ok, h3⟩
 ·exact ⟨h2 ▸ db0 (Wa8 h1).2.ok, h3⟩
theorem he3 {l : List V3} (hl : l.all inV = true) (hf : nf0 l = true) : Xc4 (F0 l ++ ws) := by
 obtain ⟨a, c, k, v, ha, hc, hk, hv, hd⟩ := te8 hf
 have hin := List.all_eq_true.1 hl
 -- a plane on whose vb8 all te8 lie has their middle within
 have key : ∀ p : Pln, p.n ≠ ⟨0, 0, 0⟩ → dot p.n a ≤ p.b → dot p.n c ≤ p.b → dot p.n k ≤ p.b → dot p.n v ≤ p.b → 0 < rmZ p ⟨a.x + c.x + k.x + v.x, a.y + c.y + k.y + v.y, a.z + c.z + k.z + v.z, 4⟩ := fun p hn h1 h2 h3 h4 => by
  have e : rmZ p ⟨a.x + c.x + k.x + v.x, a.y + c.y + k.y + v.y, a.z + c.z + k.z + v.z, 4⟩ = (p.b - dot p.n a) + (p.b - dot p.n c) + (p.b - dot p.n k) + (p.b - dot p.n v) := by simp only [rmZ, dot]; grind
  rw [e]
  by_cases q : dot p.n a = p.b ∧ dot p.n c = p.b ∧ dot p.n k = p.b ∧ dot p.n v = p.b
  ·obtain ⟨q1, q2, q3, q4⟩ := q
   exact (ld7 hd hn (q2.trans q1.symm) (q3.trans q1.symm) (q4.trans q1.symm)).elim
  ·omega
 refine ⟨⟨a.x + c.x + k.x + v.x, a.y + c.y + k.y + v.y, a.z + c.z + k.z + v.z, 4⟩, by show (0 : Int) < 4; omega, fun p hp => ?_⟩
 rcases List.mem_append.1 hp with h | h
 ·have hF := Wd4 h
  have hb := (Bc3 hF.ok hl).1 hF.hd
  exact key p (Ad7 hF.ok) (hb a ha) (hb c hc) (hb k hk) (hb v hv)
 ·have hw : ∀ x ∈ l, dot p.n x ≤ p.b := fun x hx => by
   have := te7 (hin x hx) p h
   simp only [rmZ, ipt, dot] at this ⊢
   omega
  refine key p ?_ (hw a ha) (hw c hc) (hw k hk) (hw v hv)
  have h1 : ∀ q ∈ ws, okp q = true := List.all_eq_true.1 (by decide)
  exact Ad7 (h1 p h)
end Go.Ev.Ce
