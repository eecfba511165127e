/- Own work: a part of the proof. -/
import Derived.Test.YtlccibobknidjaaGreatEvLs
import Derived.ChangeStays
import Derived.ChangeSame
import Derived.OpenShut
import Derived.RowKit
import Derived.Test.YtlccibobknidjaaGreatEvLt
import Derived.Test.YtlccibobknidjaaGreatEvD0
import Derived.Test.YtlccibobknidjaaGreatEvEB
set_option linter.unusedVariables false
set_option linter.unusedSimpArgs false
set_option linter.unnecessarySimpa false
set_option linter.unusedSectionVars false
namespace Go.Ev
open Go Go.ChangeShapes Go.RowKit
structure Bc2 (w w' : World) : Prop where
 os : w'.os = w.os
 output : w'.output = w.output
 size : w.heap.size ≤ w'.heap.size
 block : ∀ k, k < w.heap.size → w'.heap[k]? = w.heap[k]?
theorem Bc2.kept {w w' : World} (h : Bc2 w w') (may : MemPlace → Prop) : w.keptBut w' may := by
 refine ⟨h.os, h.output, fun i hi => ?_⟩
 rw [h.block i hi]
 cases w.heap[i]? with
 | none => rfl
 | some o => cases o <;> first | exact ⟨rfl, rfl, rfl, fun _ _ => rfl⟩ | exact .inr ⟨rfl, rfl⟩ | rfl
theorem Bc2.frozen {w w' : World} (h : Bc2 w w') (b off : Nat) (hb : b < w.heap.size) : w'.frozen? ⟨b, off, none⟩ = w.frozen? ⟨b, off, none⟩ := by
 simp only [World.frozen?, h.block b hb]
theorem Bc2.cell {w w' : World} (h : Bc2 w w') (b off : Nat) (hb : b < w.heap.size) : w'.cell? ⟨b, off, none⟩ = w.cell? ⟨b, off, none⟩ := by
 simp only [World.cell?, h.block b hb]
theorem Bc2.same {w w' : World} (h : Bc2 w w') (p : MemPlace) (hp : p.block < w.heap.size) : w.sameAt w' p := by
 cases p with
 | cell b off => exact h.cell b off hp
 | map b => exact h.block b hp
theorem Db7 {α β : Type} {f : α → Option β} : ∀ {l : List α} {r : List β}, l.mapM f = some r → r.length = l.length ∧ ∀ (j : Nat) y, r[j]? = some y → ∃ x, l[j]? = some x ∧ f x = some y
 | [], r, h => by
  have : r = [] := by simpa using h.symm
  subst this; simp
 | x :: l, r, h => by
  rw [List.mapM_cons] at h
  obtain ⟨y, h1, h2⟩ := Option.bind_eq_some_iff.1 h
  obtain ⟨r', h3, h4⟩ := Option.bind_eq_some_iff.1 h2
  have : r = y :: r' := by simpa using h4.symm
  subst this
  obtain ⟨g1, g2⟩ := Db7 h3
  refine ⟨by simp [g1], fun j z hz => ?_⟩
  cases j with
  | zero => simp at hz; subst hz; exact ⟨x, rfl, h1⟩
  | succ j => simpa using g2 j z (by simpa using hz)
section
variable {D : Type} {enc : TypeId × Value → D} {P : Program}
theorem Kb7 {T : TypeId → Prop} (K : Kids P T) (hsz : ∀ {t e : TypeId}, T t → P.underlying t = some (.slice e) → 0 < P.cellsOf e) {w w' : World} {sp : Nat → Bool} (hs : Bc2 w w') :
  ∀ {ts : List TypeId} {vs : List Value} {ds : List (DataW D)} {ps : List MemPlace}, (∀ t ∈ ts, T t) → DataW.TrodAll enc P w 0 (fun _ => true) true ts vs ds ps → (∀ p ∈ ps, p.block < w.heap.size) → (∀ p ∈ ps, sp p.block = true) → DataW.TrodAll enc P w' 0 sp true ts vs ds ps
 | [], [], [], _, _, h, _, _ => h
 | t :: ts, v :: vs, d :: ds, ps, ht, h, hlt, hsp => by
  obtain ⟨p, q, ⟨fuel, h1⟩, h2, rfl⟩ := h
  refine ⟨p, q, ⟨fuel, ?_⟩, Kb7 K hsz hs (fun t h => ht t (by simp [h])) h2 (fun x hx => hlt x (by simp [hx])) (fun x hx => hsp x (by simp [hx])), rfl⟩
  exact DataW.trod_stays K hsz (fun h => by cases h) (ht t (by simp)) h1 (fun x hx => hs.same x (hlt x (by simp at hx ⊢; exact .inl hx))) (fun x hx => hsp x (by simp at hx ⊢; exact .inl hx))
 | [], _ :: _, _, _, _, h, _, _ => h.elim
 | [], [], _ :: _, _, _, h, _, _ => h.elim
 | _ :: _, [], _, _, _, h, _, _ => h.elim
 | _ :: _, _ :: _, [], _, _, h, _, _ => h.elim
theorem Qd3 {T : TypeId → Prop} (K : Kids P T) (hsz : ∀ {t e : TypeId}, T t → P.underlying t = some (.slice e) → 0 < P.cellsOf e) {f : Func} {s : ChangeSpec} {apart fresh handsOn again : Bool} {W W' : World} {args : Array Value} {ds gs : List (DataW D)} {before : List MemPlace} {tb : TypeId}
  (hT : ∀ t ∈ f.params.toList, T t) (hW : DataW.Whole enc P f.params.toList s.vars apart W args.toList ds gs before) (hv : s.vars = []) (hr : f.resultTypes = #[tb]) (hb : P.underlying tb = some .bool)
  (h1 : (s.fn D ds).results = [.lit (.bool true)]) (h2 : (s.fn D ds).args = ds) (h3 : (s.fn D ds).vars = []) (hs : Bc2 W W') :
  s.post enc P f apart fresh handsOn again W args (.bool true) W' := by
 have hlt := hW.lt
 obtain ⟨pa, pv, hA, hV, hps, hz, hn⟩ := id hW
 rw [hv] at hV
 have hpv : gs = [] ∧ pv = [] := by
  cases gs with
  | nil => exact ⟨rfl, hV⟩
  | cons => exact hV.elim
 obtain ⟨rfl, rfl⟩ := hpv
 rw [← List.append_nil ds] at h1 h3
 have h2 : (s.fn D (ds ++ [])).args = ds := by rw [List.append_nil]; exact h2
 have hpa : before = pa := by rw [hps]; simp
 subst hpa
 have hagain : ∀ sp : Nat → Bool, (∀ p ∈ before, sp p.block = true) → DataW.TrodAll enc P W' 0 sp true f.params.toList args.toList ds before := fun sp h => Kb7 K hsz hs hT hA hlt h
 have hres : ∀ (b : Nat) (sp : Nat → Bool) (hd : Bool), DataW.TrodAll enc P W' b sp hd f.resultTypes.toList ((Value.bool true).resultList f.resultTypes.size) [.lit (.bool true)] [] := fun b sp hd => by
  rw [hr]
  exact ⟨[], [], ⟨1, by simp [DataW.trod, hb, Value.cells, Value.resultList]⟩, rfl, rfl⟩
 have hvars : ∀ sp : Nat → Bool, DataW.TrodVars enc P W' sp s.vars ([] : List (DataW D)) [] := fun sp => by rw [hv]; exact rfl
 have hok : ∀ (j : Nat) (t : TypeId) (r : Value), f.resultTypes[j]? = some t → ((Value.bool true).resultList f.resultTypes.size)[j]? = some r → Value.okWide P W' .any 0 t r := by
  rw [hr]
  intro j t r h4 h5
  cases j with
  | zero =>
   simp at h4
   subst h4
   have : r = .bool true := by simpa [Value.resultList] using h5.symm
   subst this
   exact okWide_bool_mk hb _
  | succ j => simp at h4
 have hag : DataW.TrodAll enc P W' 0 (fun _ => true) true (f.resultTypes.toList ++ f.params.toList) ((Value.bool true).resultList f.resultTypes.size ++ args.toList) (.lit (.bool true) :: ds) before := by
  have := hagain (fun _ => true) (fun _ _ => rfl)
  rw [hr]
  exact ⟨[], before, ⟨1, by simp [DataW.trod, hb, Value.cells, Value.resultList]⟩, this, rfl⟩
 refine ⟨ds, [], before, [], before, [], hW, ?_, ?_, ?_, hs.kept _, fun _ => ?_⟩
 ·rw [h1]; exact hres _ _ _
 ·rw [h2]; exact hagain _ fun p hp => by simpa using hlt p hp
 ·rw [h3]; exact hvars _
 ·refine ⟨hok, .lit (.bool true) :: ds, [], before, ⟨before, [], hag, hvars _, by simp, ?_, ?_⟩, ?_⟩
  ·intro b off hp
   rw [hs.frozen b off (hlt _ hp)]
   exact hz b off (by simpa using hp)
  ·intro ha; simpa using hn ha
  ·intro p hp _; exact hp
variable {w : World} {base : Nat} {spare : Nat → Bool} {held : Bool}
def Hc8 (w : World) : Fz := fun b o => (w.cell? ⟨b, o, none⟩).isSome
theorem le6 {fuel : Nat} {t : TypeId} {k : IntKind} {cs : List Value} {x : DataW D × List MemPlace} (ht : P.underlying t = some (.int k)) (h : DataW.trod enc P w base spare held fuel t cs = some x) :
  ∃ n, cs = [.int k n] ∧ (Lit.int k n).wf = true ∧ x.1 = .lit (.int k n) := by
 cases fuel with
 | zero => cases h
 | succ fuel =>
  match cs, h with
  | [], h => simp [DataW.trod, ht] at h
  | [v], h =>
   cases v with
   | int k' n =>
    simp only [DataW.trod, ht] at h
    split at h
    ·rename_i hk
     obtain ⟨rfl, hw⟩ := hk
     injection h with h; subst h
     exact ⟨n, rfl, hw, rfl⟩
    ·cases h
   | _ => simp [DataW.trod, ht] at h
  | a :: b :: r, h => simp [DataW.trod, ht] at h
theorem Zd9 {fuel : Nat} {t : TypeId} {cs : List Value} {x : DataW D × List MemPlace} (ht : P.underlying t = some .bool) (h : DataW.trod enc P w base spare held fuel t cs = some x) :
  ∃ n, cs = [.bool n] ∧ x.1 = .lit (.bool n) := by
 cases fuel with
 | zero => cases h
 | succ fuel =>
  match cs, h with
  | [], h => simp [DataW.trod, ht] at h
  | [v], h =>
   cases v with
   | bool n =>
    simp only [DataW.trod, ht] at h
    injection h with h; subst h
    exact ⟨n, rfl, rfl⟩
   | _ => simp [DataW.trod, ht] at h
  | a :: b :: r, h => simp [DataW.trod, ht] at h
theorem kd6 {fuel : Nat} {t e : TypeId} {n : Nat} {cs : List Value} {x : DataW D × List MemPlace} (ht : P.underlying t = some (.array n e)) (h : DataW.trod enc P w base spare held fuel t cs = some x) :
  cs.length = P.cellsOf t ∧ ∃ (fuel' : Nat) (xs : List (DataW D × List MemPlace)), xs.length = n ∧ x.1 = .agg (xs.map (·.1)) ∧ ∀ (j : Nat) y, xs[j]? = some y → DataW.trod enc P w base spare held fuel' e ((cs.drop (j * P.cellsOf e)).take (P.cellsOf e)) = some y := by
 cases fuel with
 | zero => cases h
 | succ fuel =>
  unfold DataW.trod at h
  rw [ht] at h
  simp only at h
  split at h
  ·rename_i hl
   obtain ⟨xs, h1, h2⟩ := Option.map_eq_some_iff.1 h
   have hx := Db7 h1
   exact ⟨hl, fuel, xs, by simpa using hx.1, by rw [← h2], fun j y hy => by
    obtain ⟨a, ha, hb⟩ := hx.2 j y hy
    have : j < n := by
     have := (List.getElem?_eq_some_iff.1 hy).1
     rw [hx.1] at this; simpa using this
    rw [List.getElem?_range this] at ha
    injection ha with ha
    subst ha
    exact hb⟩
  ·cases h
theorem Ed9 {fuel : Nat} {t : TypeId} {fs : Array Field} {cs : List Value} {x : DataW D × List MemPlace} (ht : P.underlying t = some (.struct fs)) (h : DataW.trod enc P w base spare held fuel t cs = some x) :
  cs.length = P.cellsOf t ∧ ∃ (fuel' : Nat) (xs : List (DataW D × List MemPlace)), xs.length = fs.size ∧ x.1 = .agg (xs.map (·.1)) ∧ ∀ (j : Nat) f, fs[j]? = some f → ∃ y, xs[j]? = some y ∧ DataW.trod enc P w base spare held fuel' f.type ((cs.drop f.offset).take (P.cellsOf f.type)) = some y := by
 cases fuel with
 | zero => cases h
 | succ fuel =>
  unfold DataW.trod at h
  rw [ht] at h
  simp only at h
  split at h
  ·rename_i hl
   obtain ⟨xs, h1, h2⟩ := Option.map_eq_some_iff.1 h
   have hx := Db7 h1
   refine ⟨hl, fuel, xs, by simpa using hx.1, by rw [← h2], fun j f hf => ?_⟩
   have hj : j < xs.length := by
    rw [hx.1]; simpa using (Array.getElem?_eq_some_iff.1 hf).1
   obtain ⟨a, ha, hb⟩ := hx.2 j _ (List.getElem?_eq_getElem hj)
   have : a = f := by
    have : fs.toList[j]? = some f := by simpa using hf
    exact Option.some.inj (ha.symm.trans this)
   subst this
   exact ⟨_, List.getElem?_eq_getElem hj, hb⟩
  ·cases h
theorem Qd4 {fuel : Nat} {t e : TypeId} {cs : List Value} {x : DataW D × List MemPlace} (ht : P.underlying t = some (.slice e)) (h : DataW.trod enc P w base spare held fuel t cs = some x) :
  cs = [.slice none 0 0] ∨ ∃ (a : Addr) (n cap fuel' : Nat), cs = [.slice (some a) n cap] ∧ n ≤ cap ∧ cap ≤ maxLen ∧ ∀ j, j < n → ∃ row y, w.cells? base (a.add (j * P.cellsOf e)) (P.cellsOf e) = some row ∧ DataW.trod enc P w base spare held fuel' e row = some y := by
 cases fuel with
 | zero => cases h
 | succ fuel =>
  match cs, h with
  | [], h => simp [DataW.trod, ht] at h
  | [v], h =>
   cases v with
   | slice a len cap =>
    cases a with
    | none =>
     simp only [DataW.trod, ht] at h
     split at h <;> first | (rename_i e1; cases e1; done) | skip
     all_goals first | exact .inl rfl | (simp_all; done) | skip
    | some a =>
     refine .inr ?_
     simp only [DataW.trod, ht] at h
     split at h
     ·rename_i hc
      obtain ⟨elems, h1, h2⟩ := Option.bind_eq_some_iff.1 h
      have hx := Db7 h1
      refine ⟨a, len, cap, fuel, rfl, hc.2.1, hc.2.2, fun j hj => ?_⟩
      have hj' : j < elems.length := by rw [hx.1]; simpa using hj
      obtain ⟨i, hi, hb⟩ := hx.2 j _ (List.getElem?_eq_getElem hj')
      rw [List.getElem?_range hj] at hi
      injection hi with hi
      subst hi
      obtain ⟨row, r1, r2⟩ := Option.bind_eq_some_iff.1 hb
      exact ⟨row, _, r1, r2⟩
     ·cases h
   | _ => simp [DataW.trod, ht] at h
  | a :: b :: r, h => simp [DataW.trod, ht] at h
theorem yd0 : ∀ (d : Nat) (t : TypeId) (l : List (Nat × CK)), S8 P d t = some l → ∀ (fuel : Nat) (cs : List Value) (x : DataW D × List MemPlace), DataW.trod enc P w base spare held fuel t cs = some x → ∀ p ∈ l, ua9 cs.toArray p
 | 0, _, _, h, _, _, _, _ => by cases h
 | d + 1, t, l, h, fuel, cs, x, hx => by
  have hpart : ∀ {off n : Nat} {e : TypeId} {l' : List (Nat × CK)} {fuel' : Nat} {y : DataW D × List MemPlace}, wb9 off n (S8 P d e) = some l' → DataW.trod enc P w base spare held fuel' e ((cs.drop off).take n) = some y → ∀ p ∈ l', ua9 cs.toArray p := fun {off n e l' fuel' y} h1 h2 p hp => by
   obtain ⟨l2, g1, g2, rfl⟩ := Ca5 h1
   obtain ⟨q, hq, rfl⟩ := List.mem_map.1 hp
   have := yd0 d e l2 g1 fuel' _ y h2 q hq
   have hlt := g2 q hq
   unfold ua9 at this ⊢
   simp only [List.getElem?_toArray, List.getElem?_take, hlt, if_true, List.getElem?_drop] at this ⊢
   exact this
  have hcat : ∀ {α : Type} (f : α → Option (List (Nat × CK))) (xs : List α) (l : List (Nat × CK)), fa7 (xs.map f) = some l → ∀ p ∈ l, ∃ a ∈ xs, ∃ l', f a = some l' ∧ p ∈ l' := fun {α} f xs => by
   induction xs with
   | nil => intro l h; simp only [List.map_nil, fa7] at h; injection h with h; subst h; simp
   | cons a xs ih =>
    intro l h p hp
    simp only [List.map_cons, fa7] at h
    cases h1 : f a with
    | none => simp [h1] at h
    | some l1 =>
    cases h2 : fa7 (xs.map f) with
    | none => simp [h1, h2] at h
    | some l2 =>
    simp only [h1, h2] at h
    injection h with h; subst h
    rcases List.mem_append.1 hp with hp | hp
    ·exact ⟨a, by simp, l1, h1, hp⟩
    ·obtain ⟨b, hb, r⟩ := ih l2 h2 p hp
     exact ⟨b, by simp [hb], r⟩
  unfold S8 at h
  cases hu : P.underlying t with
  | none => simp [hu] at h
  | some u =>
  cases u with
  | int k =>
   simp only [hu] at h; injection h with h; subst h
   obtain ⟨n, rfl, _, _⟩ := le6 hu hx
   intro p hp; simp at hp; subst hp; exact ⟨n, rfl⟩
  | bool =>
   simp only [hu] at h; injection h with h; subst h
   obtain ⟨n, rfl, _⟩ := Zd9 hu hx
   intro p hp; simp at hp; subst hp; exact ⟨n, rfl⟩
  | struct fs =>
   simp only [hu] at h
   split at h
   ·cases h
   obtain ⟨_, fuel', xs, _, _, hxs⟩ := Ed9 hu hx
   intro p hp
   obtain ⟨f, hf, l', h1, h2⟩ := hcat _ _ _ h p hp
   split at h1
   ·cases h1
   obtain ⟨j, hj⟩ := List.getElem?_of_mem hf
   obtain ⟨y, _, hy⟩ := hxs j f (by simpa using hj)
   have hc : P.cellsOf f.type = szT P f.type := by
    unfold Program.cellsOf szT
    cases P.info? f.type <;> rfl
   rw [hc] at hy
   exact hpart h1 hy p h2
  | array n e =>
   simp only [hu] at h
   split at h
   case isFalse => cases h
   obtain ⟨_, fuel', xs, hn, _, hxs⟩ := kd6 hu hx
   intro p hp
   obtain ⟨j, hj, l', h1, h2⟩ := hcat _ _ _ h p hp
   have hj' : j < xs.length := by rw [hn]; simpa using hj
   have hy := hxs j _ (List.getElem?_eq_getElem hj')
   have hc : P.cellsOf e = szT P e := by
    unfold Program.cellsOf szT
    cases P.info? e <;> rfl
   rw [hc] at hy
   exact hpart h1 hy p h2
  | _ => simp [hu] at h
def ba3 (k : IntKind) (es : Nat) (g : Nat → Int) : List b7 := (List.range es).map fun c => .v (.int k (g c))
def pa7 (k : IntKind) (es : Nat) : List (Nat × CK) := (List.range es).map fun c => (c, .int k)
theorem yd1 {d : Nat} {t : TypeId} {k : IntKind} {es : Nat} (hf : S8 P d t = some (pa7 k es)) {fuel : Nat} {cs : List Value} {x : DataW D × List MemPlace} (hx : DataW.trod enc P w base spare held fuel t cs = some x) (hl : cs.length = es) :
  ∃ g : Nat → Int, ∀ c, c < es → cs[c]? = some (.int k (g c)) := by
 have h := yd0 d t _ hf fuel cs x hx
 have h' : ∀ c, ∃ n : Int, c < es → cs[c]? = some (.int k n) := fun c => by
  by_cases hc : c < es
  ·have := h (c, .int k) (List.mem_map.2 ⟨c, by simpa using hc, rfl⟩)
   obtain ⟨n, hn⟩ := this
   exact ⟨n, fun _ => by simpa using hn⟩
  ·exact ⟨0, fun h => absurd h hc⟩
 exact ⟨fun c => Classical.choose (h' c), fun c hc => Classical.choose_spec (h' c) hc⟩
theorem Qd5 {F : Fz} {w : World} (k : IntKind) (n : Int) : U0 F w (.v (.int k n)) (.int k n) := .v _ rfl
theorem Bc3 {k : IntKind} {es : Nat} {g : Nat → Int} {c : Nat} {x : b7} (h : (ba3 k es g)[c]? = some x) : c < es ∧ x = .v (.int k (g c)) := by
 unfold ba3 at h
 obtain ⟨h1, h2⟩ := Ea4 h
 exact ⟨h1, h2.symm⟩
theorem Kb8 {t e : TypeId} {k : IntKind} {es d : Nat} (ht : P.underlying t = some (.slice e)) (hf : S8 P d e = some (pa7 k es)) (hes : P.cellsOf e = es) (h0 : 0 < es) {fuel : Nat} {cs : List Value} {x : DataW D × List MemPlace} (hx : DataW.trod enc P w 0 spare held fuel t cs = some x) :
  ∃ (v : Value) (n : Nat) (g : Nat → Nat → Int), cs = [v] ∧ n ≤ maxLen ∧ U0 (Hc8 w) w (.tree es n fun j => ba3 k es (g j)) v := by
 rcases Qd4 ht hx with rfl | ⟨a, n, cap, fuel', rfl, hn, hc, hel⟩
 ·exact ⟨_, 0, fun _ _ => 0, rfl, Nat.zero_le _, .nil _ _⟩
 ·rw [hes] at hel
  have hcell : ∀ j, j < n → ∃ g : Nat → Int, ∀ c, c < es → w.cell? ((a.add (j * es)).add c) = some (.int k (g c)) := fun j hj => by
   obtain ⟨row, y, h1, h2⟩ := hel j hj
   unfold World.cells? at h1
   split at h1
   ·obtain ⟨l1, l2⟩ := Db7 h1
    have hl : row.length = es := by simpa using l1
    obtain ⟨g, hg⟩ := yd1 hf h2 hl
    refine ⟨g, fun c hc => ?_⟩
    obtain ⟨i, hi, hi2⟩ := l2 c _ (hg c hc)
    rw [List.getElem?_range hc] at hi
    injection hi with hi
    subst hi
    exact hi2
   ·cases h1
  have hg : ∀ j, ∃ g : Nat → Int, j < n → ∀ c, c < es → w.cell? ((a.add (j * es)).add c) = some (.int k (g c)) := fun j => by
   by_cases hj : j < n
   ·obtain ⟨g, hg⟩ := hcell j hj
    exact ⟨g, fun _ => hg⟩
   ·exact ⟨fun _ => 0, fun h => absurd h hj⟩
  obtain ⟨g, hg⟩ := Classical.axiomOfChoice hg
  have hspot : 0 < n → a.spot = none := fun hn => by
   have := hg 0 hn 0 h0
   simpa [Addr.add] using World.cell?_spot this
  have hw : ∀ j c, j < n → c < es → w.cell? ⟨a.block, a.off + (j * es + c), none⟩ = some (.int k (g j c)) := fun j c hj hc => by
   have := hg j hj c hc
   rw [S9 (hspot (by omega)), S9 rfl] at this
   simpa [Nat.add_assoc] using this
  refine ⟨_, n, g, rfl, Nat.le_trans hn hc, .tree es n _ a cap (fun j c => .int k (g j c)) hspot hn (fun i hi => by simp [ba3]) (fun i c hi hc => ?_) hw fun i c hi hc => ?_⟩
  ·unfold Hc8
   rw [hw i c hi hc]
   rfl
  ·have := (Bc3 (List.getElem?_eq_getElem hc)).2
   rw [this]
   exact Qd5 _ _
theorem Fd0 (w : World) : s5 (fun k => w.heap.size ≤ k) (fun _ => ⟨0, 0, 0⟩) [] (Hc8 w) w :=
 ⟨fun id b h => by simp at h, fun id id' b b' h => by simp at h, fun _ _ h => h, fun _ h => h⟩
theorem Fd1 {G : Nat → List Value} {f : FuncId} {S : Sum} (hS : i5 P G f S) {aargs : List b7} {args : List Value} (hrun : ∃ out, (S aargs []).run = some (b true, out)) (hl : aargs.length = args.length)
  (ha : ∀ (i : Nat) x x', aargs[i]? = some x → args[i]? = some x' → W0 (fun _ => ⟨0, 0, 0⟩) [] (Hc8 w) w x x') (hG : ∀ g (c : Nat) x, (G g)[c]? = some x → x.oneCell' = true ∧ w.cell? ⟨g, c, none⟩ = some x) :
  Calls P f args.toArray w fun e w' => e = .returned (.bool true) ∧ Bc2 w w' := by
 obtain ⟨out, hrun⟩ := hrun
 obtain ⟨_, hc⟩ := hS aargs [] (b true) out hrun (fun k => w.heap.size ≤ k) (fun _ => ⟨0, 0, 0⟩) (Hc8 w) w args (Fd0 w) hl (fun i x x' h1 h2 => .val (ha i x x' h1 h2)) (fun g c x hx => by
  obtain ⟨h1, h2⟩ := hG g c x hx
  exact ⟨h1, by unfold Hc8; rw [h2]; rfl, h2⟩)
 refine hc.mono fun e w' ⟨r', he, ρ', F', hA, hH, hW⟩ => ?_
 have := Z1 hW
 subst this
 exact ⟨he, hA.ext.os, hA.ext.output, hA.ext.size, fun k hk => hA.ext.block k hk (by omega)⟩
theorem ae0 {ρ : Rho} {H : List b8} {F : Fz} {t : TypeId} {k : IntKind} {es d : Nat} {v : Value} {dd : DataW D} {pp : List MemPlace} {bs : Nat} {r : Reach} (hag : agT P t = true) (hf : S8 P d t = some (pa7 k es)) (hes : P.cellsOf t = es)
  (hok : Value.okWide P w r bs t v) (h : DataW.Trod enc P w base spare held t v dd pp) : ∃ g : Nat → Int, W0 ρ H F w (.agg (ba3 k es g)) v := by
 have hv : ∃ cs : Array Value, v = .agg cs ∧ cs.size = P.cellsOf t := by
  unfold agT at hag
  unfold Value.okWide at hok
  split at hag
  ·rename_i fs hu; rw [hu] at hok; obtain ⟨cs, h1, h2, _⟩ := hok; exact ⟨cs, h1, h2⟩
  ·rename_i n e hu; rw [hu] at hok; obtain ⟨cs, h1, h2, _⟩ := hok; exact ⟨cs, h1, h2⟩
  ·cases hag
 obtain ⟨cs, rfl, hsz⟩ := hv
 obtain ⟨fuel, hx⟩ := h
 have hx : DataW.trod enc P w base spare held fuel t cs.toList = some (dd, pp) := hx
 obtain ⟨g, hg⟩ := yd1 hf hx (by simpa [hes] using hsz)
 refine ⟨g, .agg _ _ (by simp [ba3, hsz, hes]) fun c x x' h1 h2 => ?_⟩
 obtain ⟨hc, rfl⟩ := Bc3 h1
 have := hg c hc
 have h3 : some x' = some (.int k (g c)) := by rw [← h2]; simpa using this
 injection h3 with h3
 subst h3
 exact .v _
theorem Fd2 {ρ : Rho} {H : List b8} {t e : TypeId} {k : IntKind} {es d : Nat} {v : Value} {dd : DataW D} {pp : List MemPlace} {bs : Nat} {r : Reach} (ht : P.underlying t = some (.slice e)) (hf : S8 P d e = some (pa7 k es)) (hes : P.cellsOf e = es) (h0 : 0 < es)
  (hok : Value.okWide P w r bs t v) (h : DataW.Trod enc P w 0 spare held t v dd pp) : ∃ (n : Nat) (g : Nat → Nat → Int), n ≤ maxLen ∧ W0 ρ H (Hc8 w) w (.tree es n fun j => ba3 k es (g j)) v := by
 obtain ⟨fuel, hx⟩ := h
 obtain ⟨v', n, g, h1, h2, h3⟩ := Kb8 ht hf hes h0 hx
 have hv : v.cells = #[v] := by
  unfold Value.okWide at hok
  rw [ht] at hok
  cases v with
  | agg cs => exfalso; simp [Cell.okWide, Cell.ok, ht] at hok
  | _ => rfl
 rw [hv] at h1
 have : v = v' := by simpa using h1
 subst this
 exact ⟨n, g, h2, .cell (.mem h3)⟩
theorem ae1 {ρ : Rho} {H : List b8} {t e u : TypeId} {k : IntKind} {es d : Nat} {v : Value} {dd : DataW D} {pp : List MemPlace} {bs : Nat} {r : Reach} (ht : P.underlying t = some (.array 2 e)) (he : P.underlying e = some (.slice u)) (hf : S8 P d u = some (pa7 k es)) (hes : P.cellsOf u = es) (hce : P.cellsOf e = 1) (hct : P.cellsOf t = 2) (h0 : 0 < es)
  (hok : Value.okWide P w r bs t v) (h : DataW.Trod enc P w 0 spare held t v dd pp) : ∃ (m n : Nat) (g j : Nat → Nat → Int), W0 ρ H (Hc8 w) w (.agg [.tree es m fun i => ba3 k es (g i), .tree es n fun i => ba3 k es (j i)]) v := by
 have hv : ∃ cs : Array Value, v = .agg cs ∧ cs.size = P.cellsOf t := by
  unfold Value.okWide at hok
  rw [ht] at hok; obtain ⟨cs, h1, h2, _⟩ := hok; exact ⟨cs, h1, h2⟩
 obtain ⟨cs, rfl, hsz⟩ := hv
 rw [hct] at hsz
 obtain ⟨fuel, hx⟩ := h
 have hx : DataW.trod enc P w 0 spare held fuel t cs.toList = some (dd, pp) := hx
 obtain ⟨_, f1, xs, hl, _, hxs⟩ := kd6 ht hx
 have hp : ∀ i, i < 2 → ∃ (n : Nat) (g : Nat → Nat → Int), ∀ x', cs[i]? = some x' → U0 (Hc8 w) w (.tree es n fun j => ba3 k es (g j)) x' := fun i hi => by
  have hi' : i < xs.length := by omega
  have h1 := hxs i _ (List.getElem?_eq_getElem hi')
  rw [hce] at h1
  obtain ⟨v', n, g, e1, _, e3⟩ := Kb8 he hf hes h0 h1
  refine ⟨n, g, fun x' hx' => ?_⟩
  have e4 := congrArg (fun l => l[0]?) e1
  simp only [List.getElem?_take, List.getElem?_drop, Nat.mul_one, Nat.add_zero, Nat.lt_add_one, if_true, List.getElem?_cons_zero, Array.getElem?_toList] at e4
  have : x' = v' := Option.some.inj (hx'.symm.trans (by simpa using e4))
  subst this
  exact e3
 obtain ⟨m, g, hm⟩ := hp 0 (by omega)
 obtain ⟨n, j, hn⟩ := hp 1 (by omega)
 refine ⟨m, n, g, j, .agg _ _ (by simp [hsz]) fun i x x' hx hx' => ?_⟩
 match i, hx with
 | 0, hx => cases hx; exact .mem (hm x' hx')
 | 1, hx => cases hx; exact .mem (hn x' hx')
end
end Go.Ev
namespace Go.Ev.L
open Go Go.Ev
theorem Qd6 {α : Type} (t : Ty α) (n : Nat) (g : Nat → Nat → Int) (f : (Nat → Int) → α) (h : ∀ j, ba3 .i64 t.es (g j) = t.row (f (g j))) :
  ∃ l, (U3 t).dec (.tree t.es n fun j => ba3 .i64 t.es (g j)) = some l ∧ (U3 t).grd (.tree t.es n fun j => ba3 .i64 t.es (g j)) = true := by
 refine ⟨lsL t n fun j => ba3 .i64 t.es (g j), ?_, ib9 t (f := fun k => f (g k)) fun k _ => h k⟩
 show Bool.rec (motive := fun _ => Option (List α)) none (some (lsL t n fun j => ba3 .i64 t.es (g j))) (Nat.beq t.es t.es) = _
 rw [Nat.beq_refl]
end Go.Ev.L
namespace Go.Ev.L
open Go Go.Ev
def Rdg {α : Type} (c : Cod α) (x : b7) (a : α) : Prop := c.dec x = some a ∧ c.grd x = true
theorem Qd7 {α : Type} (t : Ty α) (n : Nat) (g : Nat → Nat → Int) (f : (Nat → Int) → α) (h : ∀ j, ba3 .i64 t.es (g j) = t.row (f (g j))) : ∃ l, Rdg (U3 t) (.tree t.es n fun j => ba3 .i64 t.es (g j)) l := Qd6 t n g f h
theorem yd2 {α : Type} (t : Ty α) {cs : List b7} (h : t.ok cs = true) : ∃ a, Rdg (N8 t) (.agg cs) a := ⟨t.rd cs, by
 show Bool.rec (motive := fun _ => Option α) none (some (t.rd cs)) (t.ok cs) = _
 rw [h], rfl⟩
section
variable {α β γ δ ε : Type} {c : Cod α} {d : Cod β} {e : Cod γ} {f : Cod δ} {c5 : Cod ε} {x y z w v : b7} {a : α} {b' : β} {g : γ} {j : δ} {m : ε} {r : b7 × List b8}
theorem De7 {k : α → β → γ → DT (b7 × List b8)} (h1 : Rdg c x a) (h2 : Rdg d y b') (h3 : Rdg e z g) (h : (k a b' g).run = some r) : (Zb9 c d e k [x, y, z] []).run = some r := by
 unfold Zb9
 simp only [h1.1, h1.2, h2.1, h2.2, h3.1, h3.2]
 exact h
end
theorem le7 {g p : Bool} (hg : g = true) (hp : p = true) : (DT.guard g (.ret ((one r1B).enc p, ([] : List b8)))).run = some (b true, ([] : List b8)) := by subst hg; subst hp; rfl
end Go.Ev.L
namespace Go.Ev.Ce
open Go Go.Ev Go.Ev.L Go.Proofs
structure LL where
 la : List Int
 lb : List Int
noncomputable def tD : Ty LL where
 es := 2
 row x := [eL tI x.la, eL tI x.lb]
 rd r := ⟨rL tI (hdA r), rL tI (hdA (tlA r))⟩
 ok r := match r with
  | [x, y] => Bool.and ((tLs tI).ok [x]) ((tLs tI).ok [y])
  | _ => false
 cks := [.sl 1, .sl 1]
 d := ⟨[], []⟩
 h0 _ := rfl
 h1 x := by
  show (⟨rt tI x.la, rt tI x.lb⟩ : LL) = x
  rw [l9, l9]
 h2 x := by
  show Bool.and ((tLs tI).ok ((tLs tI).row x.la)) ((tLs tI).ok ((tLs tI).row x.lb)) = true
  rw [(tLs tI).h2, (tLs tI).h2]; rfl
 h3 r h := by
  split at h
  ·rename_i x y
   rw [Bool.and_eq_true] at h
   cases (tLs tI).h3 _ h.1 with
   | cons h1 _ => cases (tLs tI).h3 _ h.2 with
    | cons h2 _ => exact .cons h1 (.cons h2 .nil)
  ·cases h
 h4 _ := rfl
 h5 _ := rfl
theorem yd3 (n : Nat) (g : Nat → Nat → Int) : (tLs tI).ok [.tree 1 n fun j => ba3 .i64 1 (g j)] = true := by
 show Bool.and (Nat.beq 1 1) (okL tI n fun j => ba3 .i64 1 (g j)) = true
 have h : okL tI n (fun j => ba3 .i64 1 (g j)) = true := ib9 tI (f := fun k => g k 0) fun _ _ => rfl
 rw [h]; rfl
theorem ae2 (m n : Nat) (g j : Nat → Nat → Int) : ∃ a, Rdg (N8 tD) (.agg [.tree 1 m fun i => ba3 .i64 1 (g i), .tree 1 n fun i => ba3 .i64 1 (j i)]) a := yd2 tD (by
 show Bool.and _ _ = true
 rw [yd3, yd3]; rfl)
end Go.Ev.Ce
section
namespace Go.Ev.Ce
open Go Go.Ev Go.Ev.L Go.Proofs
set_option maxRecDepth 100000
noncomputable def mc8 : List (Nat × Sum) := [(30, Ob6), (39, Nc0), (82, ic2)]
theorem ec9 : j8 prog G mc8 := ⟨ic1, rd6, Vc6, trivial⟩
structure Ja0 where
 alt : Nat
 b9 : List Pln
 e8 : List Pln
 f0 : List Pln
 f6 : List Pln
noncomputable def ja7 {α : Type} (kk : Ja0 → α) (x : List Int) (y : Q2) (z : List Pln) : α := let t1 := (D9 (rt tI x)); let t2 := (ca9 (rt tP t1) y.a); let t3 := (ca9 (rt tP t2) y.b); let t4 := (Qa6 (rt tP z)); (sl (okE tI x) (sl (tb0 (rt tI x)) (sl (okE tP t1) (sl (ob3 (rt tP t1) y.a) (sl (okE tP t1) (sl (ob3 (rt tP t1) y.a) (sl (okE tP t2) (sl (ob3 (rt tP t2) y.b) (sl (okE tP z) (sl (Cb7 (rt tP z)) (kk ⟨1, t1, t2, t3, t4⟩) (kk ⟨0, [], [], [], []⟩)) (kk ⟨0, [], [], [], []⟩)) (kk ⟨0, [], [], [], []⟩)) (kk ⟨0, [], [], [], []⟩)) (kk ⟨0, [], [], [], []⟩)) (kk ⟨0, [], [], [], []⟩)) (kk ⟨0, [], [], [], []⟩)) (kk ⟨0, [], [], [], []⟩)) (kk ⟨0, [], [], [], []⟩)) (kk ⟨0, [], [], [], []⟩))
noncomputable def Ja1 (x : List Int) (y : Q2) (z : List Pln) : Ja0 := ja7 (fun r => r) x y z
noncomputable def Ua8 (r : Ja0) : DT (b7 × List b8) := (.ite (Nat.beq r.alt 1) (.ret ((.sl 0 0 4 0), [⟨25, 1, [[(eL tP r.b9)], [(eL tP r.e8)], [(eL tP r.f0)], [(eL tP r.f6)]], true, false, 0⟩])) .fail)
theorem Bc4 {α β : Type} (F : α → β) (kk : Ja0 → α) (x : List Int) (y : Q2) (z : List Pln) : F (ja7 kk x y z) = ja7 (fun r => F (kk r)) x y z := by unfold ja7; (repeat' apply m8 (f := F)) <;> rfl
noncomputable def Db8 : Sum := Zb9 (U3 tI) (N8 tQ) (U3 tP) (fun x y z => Ua8 (Ja1 x y z))
theorem mc9 : i5 prog G 14 Db8 := ud0 (bd b14 ec9) fun x y z => r5 (Eq.trans (b := ja7 (fun r => (Ua8 r).run) x y z) (by kernel_rfl) (Bc4 (fun r => (Ua8 r).run) (fun r => r) x y z).symm)
noncomputable def db6 : List (Nat × Sum) := [(13, Db6), (30, Ob6), (14, Db8), (31, tb8), (32, ic5), (33, lb6), (34, Xb9)]
theorem Ib4 : j8 prog G db6 := ⟨mc5, ic1, mc9, Kb5, Xc2, Db1, Hc7, trivial⟩
structure D7 where
 bs7 : Bool
 fa5 : List Pln
 b9 : List Pln
 e8 : List Pln
 f0 : List Pln
 f6 : List Pln
 f8 : List Pln
structure D8 where
 O3 : Int
noncomputable def Db9 (p : D7) (s : D8) : St := ⟨(ra 7 ((b p.bs7) :: ((eL tP p.fa5) :: (ra 13 ((.sl 0 0 5 0) :: ((i 5) :: ((i s.O3) :: (ra 39 [])))))))), [⟨25, 1, [[(eL tP p.b9)], [(eL tP p.e8)], [(eL tP p.f0)], [(eL tP p.f6)], [(eL tP p.f8)]], true, false, 0⟩]⟩
noncomputable def Q8 {α : Type} (k : D8 → α) (e : Nat → α) (z : α) (p : D7) (s : D8) : α := let t1 := (la8 (rt tP p.fa5) (lsL tP (toN (hdA (d8 (d9 [[(eL tP p.b9)], [(eL tP p.e8)], [(eL tP p.f0)], [(eL tP p.f6)], [(eL tP p.f8)]] (0 + s.O3.toNat)) 0))) (toG (hdA (d8 (d9 [[(eL tP p.b9)], [(eL tP p.e8)], [(eL tP p.f0)], [(eL tP p.f6)], [(eL tP p.f8)]] (0 + s.O3.toNat)) 0))))); let t2 := (Ra3 (rt tP p.fa5) (lsL tP (toN (hdA (d8 (d9 [[(eL tP p.b9)], [(eL tP p.e8)], [(eL tP p.f0)], [(eL tP p.f6)], [(eL tP p.f8)]] (0 + s.O3.toNat)) 0))) (toG (hdA (d8 (d9 [[(eL tP p.b9)], [(eL tP p.e8)], [(eL tP p.f0)], [(eL tP p.f6)], [(eL tP p.f8)]] (0 + s.O3.toNat)) 0))))); let t3 := (la8 (lsL tP (toN (hdA (d8 (d9 [[(eL tP p.b9)], [(eL tP p.e8)], [(eL tP p.f0)], [(eL tP p.f6)], [(eL tP p.f8)]] (0 + s.O3.toNat)) 0))) (toG (hdA (d8 (d9 [[(eL tP p.b9)], [(eL tP p.e8)], [(eL tP p.f0)], [(eL tP p.f6)], [(eL tP p.f8)]] (0 + s.O3.toNat)) 0)))) (rt tP p.fa5)); let t4 := (Ra3 (lsL tP (toN (hdA (d8 (d9 [[(eL tP p.b9)], [(eL tP p.e8)], [(eL tP p.f0)], [(eL tP p.f6)], [(eL tP p.f8)]] (0 + s.O3.toNat)) 0))) (toG (hdA (d8 (d9 [[(eL tP p.b9)], [(eL tP p.e8)], [(eL tP p.f0)], [(eL tP p.f6)], [(eL tP p.f8)]] (0 + s.O3.toNat)) 0)))) (rt tP p.fa5)); let t5 := (ga7 (rt tP p.fa5) (lsL tP (toN (hdA (d8 (d9 [[(eL tP p.b9)], [(eL tP p.e8)], [(eL tP p.f0)], [(eL tP p.f6)], [(eL tP p.f8)]] (0 + s.O3.toNat)) 0))) (toG (hdA (d8 (d9 [[(eL tP p.b9)], [(eL tP p.e8)], [(eL tP p.f0)], [(eL tP p.f6)], [(eL tP p.f8)]] (0 + s.O3.toNat)) 0))))); let t6 := (Ia8 (rt tP p.fa5) (lsL tP (toN (hdA (d8 (d9 [[(eL tP p.b9)], [(eL tP p.e8)], [(eL tP p.f0)], [(eL tP p.f6)], [(eL tP p.f8)]] (0 + s.O3.toNat)) 0))) (toG (hdA (d8 (d9 [[(eL tP p.b9)], [(eL tP p.e8)], [(eL tP p.f0)], [(eL tP p.f6)], [(eL tP p.f8)]] (0 + s.O3.toNat)) 0))))); let t7 := (ga7 (lsL tP (toN (hdA (d8 (d9 [[(eL tP p.b9)], [(eL tP p.e8)], [(eL tP p.f0)], [(eL tP p.f6)], [(eL tP p.f8)]] (0 + s.O3.toNat)) 0))) (toG (hdA (d8 (d9 [[(eL tP p.b9)], [(eL tP p.e8)], [(eL tP p.f0)], [(eL tP p.f6)], [(eL tP p.f8)]] (0 + s.O3.toNat)) 0)))) (rt tP p.fa5)); let t8 := (Ia8 (lsL tP (toN (hdA (d8 (d9 [[(eL tP p.b9)], [(eL tP p.e8)], [(eL tP p.f0)], [(eL tP p.f6)], [(eL tP p.f8)]] (0 + s.O3.toNat)) 0))) (toG (hdA (d8 (d9 [[(eL tP p.b9)], [(eL tP p.e8)], [(eL tP p.f0)], [(eL tP p.f6)], [(eL tP p.f8)]] (0 + s.O3.toNat)) 0)))) (rt tP p.fa5)); (sl (decide (s.O3 < 5)) (sl (inB s.O3 5) (sl (((Nat.blt (0 + s.O3.toNat) (len [[(eL tP p.b9)], [(eL tP p.e8)], [(eL tP p.f0)], [(eL tP p.f6)], [(eL tP p.f8)]])) && (Nat.ble (0 + 1) (len (d9 [[(eL tP p.b9)], [(eL tP p.e8)], [(eL tP p.f0)], [(eL tP p.f6)], [(eL tP p.f8)]] (0 + s.O3.toNat))))) && (I0 [(CK.sl 4)] (d8 (d9 [[(eL tP p.b9)], [(eL tP p.e8)], [(eL tP p.f0)], [(eL tP p.f6)], [(eL tP p.f8)]] (0 + s.O3.toNat)) 0))) (sl (okE tP p.fa5) (sl (okL tP (toN (hdA (d8 (d9 [[(eL tP p.b9)], [(eL tP p.e8)], [(eL tP p.f0)], [(eL tP p.f6)], [(eL tP p.f8)]] (0 + s.O3.toNat)) 0))) (toG (hdA (d8 (d9 [[(eL tP p.b9)], [(eL tP p.e8)], [(eL tP p.f0)], [(eL tP p.f6)], [(eL tP p.f8)]] (0 + s.O3.toNat)) 0)))) (sl (la9 (rt tP p.fa5) (lsL tP (toN (hdA (d8 (d9 [[(eL tP p.b9)], [(eL tP p.e8)], [(eL tP p.f0)], [(eL tP p.f6)], [(eL tP p.f8)]] (0 + s.O3.toNat)) 0))) (toG (hdA (d8 (d9 [[(eL tP p.b9)], [(eL tP p.e8)], [(eL tP p.f0)], [(eL tP p.f6)], [(eL tP p.f8)]] (0 + s.O3.toNat)) 0))))) (sl (okE tP p.fa5) (sl (okL tP (toN (hdA (d8 (d9 [[(eL tP p.b9)], [(eL tP p.e8)], [(eL tP p.f0)], [(eL tP p.f6)], [(eL tP p.f8)]] (0 + s.O3.toNat)) 0))) (toG (hdA (d8 (d9 [[(eL tP p.b9)], [(eL tP p.e8)], [(eL tP p.f0)], [(eL tP p.f6)], [(eL tP p.f8)]] (0 + s.O3.toNat)) 0)))) (sl (Ra4 (rt tP p.fa5) (lsL tP (toN (hdA (d8 (d9 [[(eL tP p.b9)], [(eL tP p.e8)], [(eL tP p.f0)], [(eL tP p.f6)], [(eL tP p.f8)]] (0 + s.O3.toNat)) 0))) (toG (hdA (d8 (d9 [[(eL tP p.b9)], [(eL tP p.e8)], [(eL tP p.f0)], [(eL tP p.f6)], [(eL tP p.f8)]] (0 + s.O3.toNat)) 0))))) (sl (!(t1 == t2)) (e 1) (sl (okL tP (toN (hdA (d8 (d9 [[(eL tP p.b9)], [(eL tP p.e8)], [(eL tP p.f0)], [(eL tP p.f6)], [(eL tP p.f8)]] (0 + s.O3.toNat)) 0))) (toG (hdA (d8 (d9 [[(eL tP p.b9)], [(eL tP p.e8)], [(eL tP p.f0)], [(eL tP p.f6)], [(eL tP p.f8)]] (0 + s.O3.toNat)) 0)))) (sl (okE tP p.fa5) (sl (la9 (lsL tP (toN (hdA (d8 (d9 [[(eL tP p.b9)], [(eL tP p.e8)], [(eL tP p.f0)], [(eL tP p.f6)], [(eL tP p.f8)]] (0 + s.O3.toNat)) 0))) (toG (hdA (d8 (d9 [[(eL tP p.b9)], [(eL tP p.e8)], [(eL tP p.f0)], [(eL tP p.f6)], [(eL tP p.f8)]] (0 + s.O3.toNat)) 0)))) (rt tP p.fa5)) (sl (okL tP (toN (hdA (d8 (d9 [[(eL tP p.b9)], [(eL tP p.e8)], [(eL tP p.f0)], [(eL tP p.f6)], [(eL tP p.f8)]] (0 + s.O3.toNat)) 0))) (toG (hdA (d8 (d9 [[(eL tP p.b9)], [(eL tP p.e8)], [(eL tP p.f0)], [(eL tP p.f6)], [(eL tP p.f8)]] (0 + s.O3.toNat)) 0)))) (sl (okE tP p.fa5) (sl (Ra4 (lsL tP (toN (hdA (d8 (d9 [[(eL tP p.b9)], [(eL tP p.e8)], [(eL tP p.f0)], [(eL tP p.f6)], [(eL tP p.f8)]] (0 + s.O3.toNat)) 0))) (toG (hdA (d8 (d9 [[(eL tP p.b9)], [(eL tP p.e8)], [(eL tP p.f0)], [(eL tP p.f6)], [(eL tP p.f8)]] (0 + s.O3.toNat)) 0)))) (rt tP p.fa5)) (sl (!(t3 == t4)) (e 1) (sl (okE tP p.fa5) (sl (okL tP (toN (hdA (d8 (d9 [[(eL tP p.b9)], [(eL tP p.e8)], [(eL tP p.f0)], [(eL tP p.f6)], [(eL tP p.f8)]] (0 + s.O3.toNat)) 0))) (toG (hdA (d8 (d9 [[(eL tP p.b9)], [(eL tP p.e8)], [(eL tP p.f0)], [(eL tP p.f6)], [(eL tP p.f8)]] (0 + s.O3.toNat)) 0)))) (sl (ga8 (rt tP p.fa5) (lsL tP (toN (hdA (d8 (d9 [[(eL tP p.b9)], [(eL tP p.e8)], [(eL tP p.f0)], [(eL tP p.f6)], [(eL tP p.f8)]] (0 + s.O3.toNat)) 0))) (toG (hdA (d8 (d9 [[(eL tP p.b9)], [(eL tP p.e8)], [(eL tP p.f0)], [(eL tP p.f6)], [(eL tP p.f8)]] (0 + s.O3.toNat)) 0))))) (sl (okE tP p.fa5) (sl (okL tP (toN (hdA (d8 (d9 [[(eL tP p.b9)], [(eL tP p.e8)], [(eL tP p.f0)], [(eL tP p.f6)], [(eL tP p.f8)]] (0 + s.O3.toNat)) 0))) (toG (hdA (d8 (d9 [[(eL tP p.b9)], [(eL tP p.e8)], [(eL tP p.f0)], [(eL tP p.f6)], [(eL tP p.f8)]] (0 + s.O3.toNat)) 0)))) (sl (Ia9 (rt tP p.fa5) (lsL tP (toN (hdA (d8 (d9 [[(eL tP p.b9)], [(eL tP p.e8)], [(eL tP p.f0)], [(eL tP p.f6)], [(eL tP p.f8)]] (0 + s.O3.toNat)) 0))) (toG (hdA (d8 (d9 [[(eL tP p.b9)], [(eL tP p.e8)], [(eL tP p.f0)], [(eL tP p.f6)], [(eL tP p.f8)]] (0 + s.O3.toNat)) 0))))) (sl (!(t5 == t6)) (e 1) (sl (okL tP (toN (hdA (d8 (d9 [[(eL tP p.b9)], [(eL tP p.e8)], [(eL tP p.f0)], [(eL tP p.f6)], [(eL tP p.f8)]] (0 + s.O3.toNat)) 0))) (toG (hdA (d8 (d9 [[(eL tP p.b9)], [(eL tP p.e8)], [(eL tP p.f0)], [(eL tP p.f6)], [(eL tP p.f8)]] (0 + s.O3.toNat)) 0)))) (sl (okE tP p.fa5) (sl (ga8 (lsL tP (toN (hdA (d8 (d9 [[(eL tP p.b9)], [(eL tP p.e8)], [(eL tP p.f0)], [(eL tP p.f6)], [(eL tP p.f8)]] (0 + s.O3.toNat)) 0))) (toG (hdA (d8 (d9 [[(eL tP p.b9)], [(eL tP p.e8)], [(eL tP p.f0)], [(eL tP p.f6)], [(eL tP p.f8)]] (0 + s.O3.toNat)) 0)))) (rt tP p.fa5)) (sl (okL tP (toN (hdA (d8 (d9 [[(eL tP p.b9)], [(eL tP p.e8)], [(eL tP p.f0)], [(eL tP p.f6)], [(eL tP p.f8)]] (0 + s.O3.toNat)) 0))) (toG (hdA (d8 (d9 [[(eL tP p.b9)], [(eL tP p.e8)], [(eL tP p.f0)], [(eL tP p.f6)], [(eL tP p.f8)]] (0 + s.O3.toNat)) 0)))) (sl (okE tP p.fa5) (sl (Ia9 (lsL tP (toN (hdA (d8 (d9 [[(eL tP p.b9)], [(eL tP p.e8)], [(eL tP p.f0)], [(eL tP p.f6)], [(eL tP p.f8)]] (0 + s.O3.toNat)) 0))) (toG (hdA (d8 (d9 [[(eL tP p.b9)], [(eL tP p.e8)], [(eL tP p.f0)], [(eL tP p.f6)], [(eL tP p.f8)]] (0 + s.O3.toNat)) 0)))) (rt tP p.fa5)) (sl (!(t7 == t8)) (e 1) (k ⟨(W (s.O3 + 1))⟩)) z) z) z) z) z) z)) z) z) z) z) z) z)) z) z) z) z) z) z)) z) z) z) z) z) z) z) z) (e 2))
noncomputable def L0 (p : D7) (s : D8) : Stp D8 := Q8 .next .exit .fail p s
noncomputable def xa3 : Lo D7 D8 := ⟨En db6, 0, pf5, [1, 1, 1, 0, 1, 4, 4], [7, 8, 22, 23, 24], .p, [⟨(ru2 7 ((.s (.o .bool)) :: ((.s (.c 4 (nL tP))) :: (ru2 13 ((.s (.o (.sl 0 0 (some 0) (some 5)))) :: ((.s (.o (.lit .i64 5))) :: ((.s (.o (.int .i64))) :: (ru2 39 [])))))))), [⟨25, 1, true, (some [[(.c 4 (nL tP))], [(.c 4 (nL tP))], [(.c 4 (nL tP))], [(.c 4 (nL tP))], [(.c 4 (nL tP))]])⟩], fun a H => (⟨(toB (slT a 7)), (rL tP (slT a 8)), (rL tP (slT (rwT (elT H 0) 0) 0)), (rL tP (slT (rwT (elT H 0) 1) 0)), (rL tP (slT (rwT (elT H 0) 2) 0)), (rL tP (slT (rwT (elT H 0) 3) 0)), (rL tP (slT (rwT (elT H 0) 4) 0))⟩, ⟨(toI (slT a 24))⟩)⟩], L0, [(none, fun p s => ⟨[(b false)], []⟩), (some 0, fun p s => ⟨(ra 7 ((b p.bs7) :: ((eL tP p.fa5) :: (ra 13 ((.sl 0 0 5 0) :: ((i 5) :: ((i s.O3) :: ((b (decide (s.O3 < 5))) :: (ra 38 []))))))))), [⟨25, 1, [[(eL tP p.b9)], [(eL tP p.e8)], [(eL tP p.f0)], [(eL tP p.f6)], [(eL tP p.f8)]], true, false, 0⟩]⟩)], Db9⟩
theorem Eb0 : xa3.Ok := Lo.ok [] (by kernel_rfl) .nil rfl (.cons (fun a H => by kernel_rfl) .nil) fun p s => (.of @Q8 (fun F _ _ _ _ _ => by unfold Q8; (repeat' apply m8 (f := F)) <;> rfl) (by kernel_rfl))
noncomputable def fa4 (x : LL) (y : Q2) (z : List Pln) : Option (b7 × List b8) := let t1 := Ia5; let t2 := (D9 (rt tI x.la)); let t3 := (Ja1 (rt tI x.lb) y (rt tP z)); let t4 := (lp (L0 (⟨t1, (rt tP t2), (rt tP t3.b9), (rt tP t3.e8), (rt tP t3.f0), (rt tP t3.f6), (rt tP t2)⟩ : D7)) (⟨0⟩ : D8)); (sl Ia6 (sl (okE tI x.la) (sl (tb0 (rt tI x.la)) (sl (okE tI x.lb) (sl (okE tP z) (sl (Nat.beq t3.alt 1) (sl ((cnE tP t2) && ((cnE tP t3.b9) && ((cnE tP t3.e8) && ((cnE tP t3.f0) && ((cnE tP t3.f6) && ((cnE tP t2) && true)))))) (sl (Nat.beq t4.1 1) (some ((b false), [])) (sl (Nat.beq t4.1 2) (some ((b t1), [])) none)) none) none) none) none) none) none) none)
noncomputable def qa6 (x : LL) (y : Q2) (z : List Pln) : Bool := I6 (one r1B) (fa4 x y z)
noncomputable def qa7 (x : LL) (y : Q2) (z : List Pln) : Bool := okO (one r1B) (fa4 x y z)
noncomputable def Yb2 : Sum := Zb9 (N8 tD) (N8 tQ) (U3 tP) (fun x y z => .guard (qa7 x y z) (.ret ((one r1B).enc (qa6 x y z), [])))
theorem Ob8 : i5 prog G 5 Yb2 := ge5 (bd b5 Ib4) (one r1B) (o := fa4) fun x y z => xa1 (.s .p (.s .p (.s .p (.s (.s .p (.b (.u xa3.ls))) .p)))) [xa3.pr] (by kernel_rfl) (.cons Eb0 .nil) (by kernel_rfl)
end Go.Ev.Ce
end
namespace Go.Ev.Ce
open Go Go.Ev Go.Ev.L Go.Proofs
noncomputable def Hc9 (P : D7) : List (List Pln) := [P.b9, P.e8, P.f0, P.f6, P.f8]
theorem De8 (P : D7) {j : Nat} (h : j < 5) : d9 [[(eL tP P.b9)], [(eL tP P.e8)], [(eL tP P.f0)], [(eL tP P.f6)], [(eL tP P.f8)]] (0 + j) = [eL tP (gL (tLs tP) (Hc9 P) j)] := by
 rw [Nat.zero_add]
 exact Q9 (tLs tP) (l := Hc9 P) h
theorem sd7 (P : D7) (ha : P.fa5.length ≤ 1000000) (hc : ∀ c ∈ Hc9 P, c.length ≤ 1000000) : (lp (L0 P) ⟨0⟩).1 = 2 := by
 have h := Za3 (step := L0 P) (mk := fun j => (⟨(j : Int)⟩ : D8)) (c := fun _ => false) (u := 1) (fin := 2) (tLs tP) (Hc9 P) (by simp [Hc9])
  (fun j hj => by
   have hc1 := hc _ (sc8 (tLs tP) hj)
   have h5 : j < 5 := hj
   have e1 := De8 P h5
   generalize gL (tLs tP) (Hc9 P) j = c at *
   have e2 : lsL tP (toN (hdA (d8 [eL tP c] 0))) (toG (hdA (d8 [eL tP c] 0))) = c := l9 tP c
   have e3 : okL tP (toN (hdA (d8 [eL tP c] 0))) (toG (hdA (d8 [eL tP c] 0))) = true := G3 tP c
   have e4 : I0 [(CK.sl 4)] (d8 [eL tP c] 0) = true := rfl
   have e5 : Nat.ble (0 + 1) (len [eL tP c]) = true := rfl
   have e6 : Nat.blt (0 + j) (len [[(eL tP P.b9)], [(eL tP P.e8)], [(eL tP P.f0)], [(eL tP P.f6)], [(eL tP P.f8)]]) = true := by
    rw [Nat.zero_add, Nat.blt_eq]; exact h5
   have hA : P.fa5.length ≤ 100000000 := by omega
   have hA' : P.fa5.length ≤ 1000000000 := by omega
   have hC : c.length ≤ 100000000 := by omega
   have hC' : c.length ≤ 1000000000 := by omega
   simp only [L0, Q8, Int.toNat_natCast, e1, e2, e3, e4, e5, e6, l9, G3, Wc6 hA hC, Wc7 hA hC, Wc6 hC hA, Wc7 hC hA, kd3 hA hC, kd4 hA hC, kd3 hC hA, kd4 hC hA,
    Ac6 hA' hC', Ac7 hA' hC', Ac6 hC' hA', Ac7 hC' hA', Nc6 hA' hC', Nc7 hA' hC', Nc6 hC' hA', Nc7 hC' hA',
    p6 h5 (by omega), beq_self_eq_true, Bool.and_self, Bool.not_true, o8, xa6]
   rw [btD (show (j : Int) < 5 by omega), bt (f9 h5)])
  (by simp only [L0, Q8]; rw [bfD (show ¬ (((Hc9 P).length : Nat) : Int) < 5 by simp [Hc9])]) 0 (Nat.zero_le _)
 rw [List.drop_zero, show ((Hc9 P).any fun _ => false) = false by simp] at h
 exact h
theorem Fd3 (x : List Int) (y : Q2) (z : List Pln) : Ja1 x y z = ⟨1, D9 x, ca9 (D9 x) y.a, ca9 (ca9 (D9 x) y.a) y.b, Qa6 z⟩ := by
 have h1 := sd1 x
 have h2 := Pd3 (D9 x) y.a (by omega)
 unfold Ja1 ja7
 simp only [l9, G3, Od9, ee4 (D9 x) y.a (by omega), ee4 (ca9 (D9 x) y.a) y.b (by omega), te4, o8]
theorem kd7 (x : LL) (y : Q2) (z : List Pln) : fa4 x y z = some (b true, []) := by
 have hm := sd1 x.la
 have h1 := sd1 x.lb
 have h2 := Pd3 (D9 x.lb) y.a (by omega)
 have h3 := Pd3 (ca9 (D9 x.lb) y.a) y.b (by omega)
 have h4 := te5 z
 have h := sd7 ⟨true, D9 x.la, D9 x.lb, ca9 (D9 x.lb) y.a, ca9 (ca9 (D9 x.lb) y.a) y.b, Qa6 z, D9 x.la⟩ (by show (D9 x.la).length ≤ _; omega) (fun c hc => by
  simp only [Hc9, List.mem_cons, List.not_mem_nil, or_false] at hc
  rcases hc with rfl | rfl | rfl | rfl | rfl <;> omega)
 unfold fa4
 simp only [l9, G3, o2, Qd1, Qd2, Od9, Fd3, h]
 rfl
theorem ae3 (x : LL) (y : Q2) (z : List Pln) : qa6 x y z = true := by unfold qa6; rw [kd7]; rfl
theorem ae4 (x : LL) (y : Q2) (z : List Pln) : qa7 x y z = true := by unfold qa7; rw [kd7]; rfl
end Go.Ev.Ce
