/- Own work: a part of the proof. -/
import Derived.Test.YtlccibobknidjaaGreatEvLs
import Derived.ChangeStays
import Derived.ChangeSame
import Derived.OpenShut
import Derived.RowKit
import Derived.Test.YtlccibobknidjaaGreatEvLt
import Derived.Test.YtlccibobknidjaaGreatEvEC
set_option linter.unusedVariables false
set_option linter.unusedSimpArgs false
set_option linter.unnecessarySimpa false
set_option linter.unusedSectionVars false
namespace Go.Ev
open Go Go.ChangeShapes Go.RowKit
structure zc9 (w w' : World) : Prop where
 os : w'.os = w.os
 output : w'.output = w.output
 size : w.heap.size ≤ w'.heap.size
 block : ∀ k, k < w.heap.size → w'.heap[k]? = w.heap[k]?
theorem zc9.kept {w w' : World} (h : zc9 w w') (may : MemPlace → Prop) : w.keptBut w' may := by
 refine ⟨h.os, h.output, fun i hi => ?_⟩
 rw [h.block i hi]
 cases w.heap[i]? with
 | none => rfl
 | some o => cases o <;> first | exact ⟨rfl, rfl, rfl, fun _ _ => rfl⟩ | exact .inr ⟨rfl, rfl⟩ | rfl
theorem zc9.frozen {w w' : World} (h : zc9 w w') (b off : Nat) (hb : b < w.heap.size) : w'.frozen? ⟨b, off, none⟩ = w.frozen? ⟨b, off, none⟩ := by
 simp only [World.frozen?, h.block b hb]
theorem zc9.cell {w w' : World} (h : zc9 w w') (b off : Nat) (hb : b < w.heap.size) : w'.cell? ⟨b, off, none⟩ = w.cell? ⟨b, off, none⟩ := by
 simp only [World.cell?, h.block b hb]
theorem zc9.same {w w' : World} (h : zc9 w w') (p : MemPlace) (hp : p.block < w.heap.size) : w.sameAt w' p := by
 cases p with
 | cell b off => exact h.cell b off hp
 | map b => exact h.block b hp
theorem Db9 {α β : Type} {f : α → Option β} : ∀ {l : List α} {r : List β}, l.mapM f = some r → r.length = l.length ∧ ∀ (j : Nat) y, r[j]? = some y → ∃ x, l[j]? = some x ∧ f x = some y
 | [], r, h => by
  have : r = [] := by simpa using h.symm
  subst this; simp
 | x :: l, r, h => by
  rw [List.mapM_cons] at h
  obtain ⟨y, h1, h2⟩ := Option.bind_eq_some_iff.1 h
  obtain ⟨r', h3, h4⟩ := Option.bind_eq_some_iff.1 h2
  have : r = y :: r' := by simpa using h4.symm
  subst this
  obtain ⟨g1, g2⟩ := Db9 h3
  refine ⟨by simp [g1], fun j z hz => ?_⟩
  cases j with
  | zero => simp at hz; subst hz; exact ⟨x, rfl, h1⟩
  | succ j => simpa using g2 j z (by simpa using hz)
section
variable {D : Type} {enc : TypeId × Value → D} {P : Program}
theorem Kb4 {T : TypeId → Prop} (K : Kids P T) (hsz : ∀ {t e : TypeId}, T t → P.underlying t = some (.slice e) → 0 < P.cellsOf e) {w w' : World} {sp : Nat → Bool} (hs : zc9 w w') :
  ∀ {ts : List TypeId} {vs : List Value} {ds : List (DataW D)} {ps : List MemPlace}, (∀ t ∈ ts, T t) → DataW.TrodAll enc P w 0 (fun _ => true) true ts vs ds ps → (∀ p ∈ ps, p.block < w.heap.size) → (∀ p ∈ ps, sp p.block = true) → DataW.TrodAll enc P w' 0 sp true ts vs ds ps
 | [], [], [], _, _, h, _, _ => h
 | t :: ts, v :: vs, d :: ds, ps, ht, h, hlt, hsp => by
  obtain ⟨p, q, ⟨fuel, h1⟩, h2, rfl⟩ := h
  refine ⟨p, q, ⟨fuel, ?_⟩, Kb4 K hsz hs (fun t h => ht t (by simp [h])) h2 (fun x hx => hlt x (by simp [hx])) (fun x hx => hsp x (by simp [hx])), rfl⟩
  exact DataW.trod_stays K hsz (fun h => by cases h) (ht t (by simp)) h1 (fun x hx => hs.same x (hlt x (by simp at hx ⊢; exact .inl hx))) (fun x hx => hsp x (by simp at hx ⊢; exact .inl hx))
 | [], _ :: _, _, _, _, h, _, _ => h.elim
 | [], [], _ :: _, _, _, h, _, _ => h.elim
 | _ :: _, [], _, _, _, h, _, _ => h.elim
 | _ :: _, _ :: _, [], _, _, h, _, _ => h.elim
theorem Od9 {T : TypeId → Prop} (K : Kids P T) (hsz : ∀ {t e : TypeId}, T t → P.underlying t = some (.slice e) → 0 < P.cellsOf e) {f : Func} {s : ChangeSpec} {apart fresh handsOn again : Bool} {W W' : World} {args : Array Value} {ds gs : List (DataW D)} {before : List MemPlace} {tb : TypeId}
  (hT : ∀ t ∈ f.params.toList, T t) (hW : DataW.Whole enc P f.params.toList s.vars apart W args.toList ds gs before) (hv : s.vars = []) (hr : f.resultTypes = #[tb]) (hb : P.underlying tb = some .bool)
  (h1 : (s.fn D ds).results = [.lit (.bool true)]) (h2 : (s.fn D ds).args = ds) (h3 : (s.fn D ds).vars = []) (hs : zc9 W W') :
  s.post enc P f apart fresh handsOn again W args (.bool true) W' := by
 have hlt := hW.lt
 obtain ⟨pa, pv, hA, hV, hps, hz, hn⟩ := id hW
 rw [hv] at hV
 have hpv : gs = [] ∧ pv = [] := by
  cases gs with
  | nil => exact ⟨rfl, hV⟩
  | cons => exact hV.elim
 obtain ⟨rfl, rfl⟩ := hpv
 rw [← List.append_nil ds] at h1 h3
 have h2 : (s.fn D (ds ++ [])).args = ds := by rw [List.append_nil]; exact h2
 have hpa : before = pa := by rw [hps]; simp
 subst hpa
 have hagain : ∀ sp : Nat → Bool, (∀ p ∈ before, sp p.block = true) → DataW.TrodAll enc P W' 0 sp true f.params.toList args.toList ds before := fun sp h => Kb4 K hsz hs hT hA hlt h
 have hres : ∀ (b : Nat) (sp : Nat → Bool) (hd : Bool), DataW.TrodAll enc P W' b sp hd f.resultTypes.toList ((Value.bool true).resultList f.resultTypes.size) [.lit (.bool true)] [] := fun b sp hd => by
  rw [hr]
  exact ⟨[], [], ⟨1, by simp [DataW.trod, hb, Value.cells, Value.resultList]⟩, rfl, rfl⟩
 have hvars : ∀ sp : Nat → Bool, DataW.TrodVars enc P W' sp s.vars ([] : List (DataW D)) [] := fun sp => by rw [hv]; exact rfl
 have hok : ∀ (j : Nat) (t : TypeId) (r : Value), f.resultTypes[j]? = some t → ((Value.bool true).resultList f.resultTypes.size)[j]? = some r → Value.okWide P W' .any 0 t r := by
  rw [hr]
  intro j t r h4 h5
  cases j with
  | zero =>
   simp at h4
   subst h4
   have : r = .bool true := by simpa [Value.resultList] using h5.symm
   subst this
   exact okWide_bool_mk hb _
  | succ j => simp at h4
 have hag : DataW.TrodAll enc P W' 0 (fun _ => true) true (f.resultTypes.toList ++ f.params.toList) ((Value.bool true).resultList f.resultTypes.size ++ args.toList) (.lit (.bool true) :: ds) before := by
  have := hagain (fun _ => true) (fun _ _ => rfl)
  rw [hr]
  exact ⟨[], before, ⟨1, by simp [DataW.trod, hb, Value.cells, Value.resultList]⟩, this, rfl⟩
 refine ⟨ds, [], before, [], before, [], hW, ?_, ?_, ?_, hs.kept _, fun _ => ?_⟩
 ·rw [h1]; exact hres _ _ _
 ·rw [h2]; exact hagain _ fun p hp => by simpa using hlt p hp
 ·rw [h3]; exact hvars _
 ·refine ⟨hok, .lit (.bool true) :: ds, [], before, ⟨before, [], hag, hvars _, by simp, ?_, ?_⟩, ?_⟩
  ·intro b off hp
   rw [hs.frozen b off (hlt _ hp)]
   exact hz b off (by simpa using hp)
  ·intro ha; simpa using hn ha
  ·intro p hp _; exact hp
variable {w : World} {base : Nat} {spare : Nat → Bool} {held : Bool}
def jd5 (w : World) : Fz := fun b o => (w.cell? ⟨b, o, none⟩).isSome
theorem ke3 {fuel : Nat} {t : TypeId} {k : IntKind} {cs : List Value} {x : DataW D × List MemPlace} (ht : P.underlying t = some (.int k)) (h : DataW.trod enc P w base spare held fuel t cs = some x) :
  ∃ n, cs = [.int k n] ∧ (Lit.int k n).wf = true ∧ x.1 = .lit (.int k n) := by
 cases fuel with
 | zero => cases h
 | succ fuel =>
  match cs, h with
  | [], h => simp [DataW.trod, ht] at h
  | [v], h =>
   cases v with
   | int k' n =>
    simp only [DataW.trod, ht] at h
    split at h
    ·rename_i hk
     obtain ⟨rfl, hw⟩ := hk
     injection h with h; subst h
     exact ⟨n, rfl, hw, rfl⟩
    ·cases h
   | _ => simp [DataW.trod, ht] at h
  | a :: b :: r, h => simp [DataW.trod, ht] at h
theorem Yd5 {fuel : Nat} {t : TypeId} {cs : List Value} {x : DataW D × List MemPlace} (ht : P.underlying t = some .bool) (h : DataW.trod enc P w base spare held fuel t cs = some x) :
  ∃ n, cs = [.bool n] ∧ x.1 = .lit (.bool n) := by
 cases fuel with
 | zero => cases h
 | succ fuel =>
  match cs, h with
  | [], h => simp [DataW.trod, ht] at h
  | [v], h =>
   cases v with
   | bool n =>
    simp only [DataW.trod, ht] at h
    injection h with h; subst h
    exact ⟨n, rfl, rfl⟩
   | _ => simp [DataW.trod, ht] at h
  | a :: b :: r, h => simp [DataW.trod, ht] at h
theorem Pd0 {fuel : Nat} {t e : TypeId} {n : Nat} {cs : List Value} {x : DataW D × List MemPlace} (ht : P.underlying t = some (.array n e)) (h : DataW.trod enc P w base spare held fuel t cs = some x) :
  cs.length = P.cellsOf t ∧ ∃ (fuel' : Nat) (xs : List (DataW D × List MemPlace)), xs.length = n ∧ x.1 = .agg (xs.map (·.1)) ∧ ∀ (j : Nat) y, xs[j]? = some y → DataW.trod enc P w base spare held fuel' e ((cs.drop (j * P.cellsOf e)).take (P.cellsOf e)) = some y := by
 cases fuel with
 | zero => cases h
 | succ fuel =>
  unfold DataW.trod at h
  rw [ht] at h
  simp only at h
  split at h
  ·rename_i hl
   obtain ⟨xs, h1, h2⟩ := Option.map_eq_some_iff.1 h
   have hx := Db9 h1
   exact ⟨hl, fuel, xs, by simpa using hx.1, by rw [← h2], fun j y hy => by
    obtain ⟨a, ha, hb⟩ := hx.2 j y hy
    have : j < n := by
     have := (List.getElem?_eq_some_iff.1 hy).1
     rw [hx.1] at this; simpa using this
    rw [List.getElem?_range this] at ha
    injection ha with ha
    subst ha
    exact hb⟩
  ·cases h
theorem Dd2 {fuel : Nat} {t : TypeId} {fs : Array Field} {cs : List Value} {x : DataW D × List MemPlace} (ht : P.underlying t = some (.struct fs)) (h : DataW.trod enc P w base spare held fuel t cs = some x) :
  cs.length = P.cellsOf t ∧ ∃ (fuel' : Nat) (xs : List (DataW D × List MemPlace)), xs.length = fs.size ∧ x.1 = .agg (xs.map (·.1)) ∧ ∀ (j : Nat) f, fs[j]? = some f → ∃ y, xs[j]? = some y ∧ DataW.trod enc P w base spare held fuel' f.type ((cs.drop f.offset).take (P.cellsOf f.type)) = some y := by
 cases fuel with
 | zero => cases h
 | succ fuel =>
  unfold DataW.trod at h
  rw [ht] at h
  simp only at h
  split at h
  ·rename_i hl
   obtain ⟨xs, h1, h2⟩ := Option.map_eq_some_iff.1 h
   have hx := Db9 h1
   refine ⟨hl, fuel, xs, by simpa using hx.1, by rw [← h2], fun j f hf => ?_⟩
   have hj : j < xs.length := by
    rw [hx.1]; simpa using (Array.getElem?_eq_some_iff.1 hf).1
   obtain ⟨a, ha, hb⟩ := hx.2 j _ (List.getElem?_eq_getElem hj)
   have : a = f := by
    have : fs.toList[j]? = some f := by simpa using hf
    exact Option.some.inj (ha.symm.trans this)
   subst this
   exact ⟨_, List.getElem?_eq_getElem hj, hb⟩
  ·cases h
theorem Pd1 {fuel : Nat} {t e : TypeId} {cs : List Value} {x : DataW D × List MemPlace} (ht : P.underlying t = some (.slice e)) (h : DataW.trod enc P w base spare held fuel t cs = some x) :
  cs = [.slice none 0 0] ∨ ∃ (a : Addr) (n cap fuel' : Nat), cs = [.slice (some a) n cap] ∧ n ≤ cap ∧ cap ≤ maxLen ∧ ∀ j, j < n → ∃ row y, w.cells? base (a.add (j * P.cellsOf e)) (P.cellsOf e) = some row ∧ DataW.trod enc P w base spare held fuel' e row = some y := by
 cases fuel with
 | zero => cases h
 | succ fuel =>
  match cs, h with
  | [], h => simp [DataW.trod, ht] at h
  | [v], h =>
   cases v with
   | slice a len cap =>
    cases a with
    | none =>
     simp only [DataW.trod, ht] at h
     split at h <;> first | (rename_i e1; cases e1; done) | skip
     all_goals first | exact .inl rfl | (simp_all; done) | skip
    | some a =>
     refine .inr ?_
     simp only [DataW.trod, ht] at h
     split at h
     ·rename_i hc
      obtain ⟨elems, h1, h2⟩ := Option.bind_eq_some_iff.1 h
      have hx := Db9 h1
      refine ⟨a, len, cap, fuel, rfl, hc.2.1, hc.2.2, fun j hj => ?_⟩
      have hj' : j < elems.length := by rw [hx.1]; simpa using hj
      obtain ⟨i, hi, hb⟩ := hx.2 j _ (List.getElem?_eq_getElem hj')
      rw [List.getElem?_range hj] at hi
      injection hi with hi
      subst hi
      obtain ⟨row, r1, r2⟩ := Option.bind_eq_some_iff.1 hb
      exact ⟨row, _, r1, r2⟩
     ·cases h
   | _ => simp [DataW.trod, ht] at h
  | a :: b :: r, h => simp [DataW.trod, ht] at h
theorem wd5 : ∀ (d : Nat) (t : TypeId) (l : List (Nat × CK)), T6 P d t = some l → ∀ (fuel : Nat) (cs : List Value) (x : DataW D × List MemPlace), DataW.trod enc P w base spare held fuel t cs = some x → ∀ p ∈ l, ta7 cs.toArray p
 | 0, _, _, h, _, _, _, _ => by cases h
 | d + 1, t, l, h, fuel, cs, x, hx => by
  have hpart : ∀ {off n : Nat} {e : TypeId} {l' : List (Nat × CK)} {fuel' : Nat} {y : DataW D × List MemPlace}, xb4 off n (T6 P d e) = some l' → DataW.trod enc P w base spare held fuel' e ((cs.drop off).take n) = some y → ∀ p ∈ l', ta7 cs.toArray p := fun {off n e l' fuel' y} h1 h2 p hp => by
   obtain ⟨l2, g1, g2, rfl⟩ := Ba5 h1
   obtain ⟨q, hq, rfl⟩ := List.mem_map.1 hp
   have := wd5 d e l2 g1 fuel' _ y h2 q hq
   have hlt := g2 q hq
   unfold ta7 at this ⊢
   simp only [List.getElem?_toArray, List.getElem?_take, hlt, if_true, List.getElem?_drop] at this ⊢
   exact this
  have hcat : ∀ {α : Type} (f : α → Option (List (Nat × CK))) (xs : List α) (l : List (Nat × CK)), fa5 (xs.map f) = some l → ∀ p ∈ l, ∃ a ∈ xs, ∃ l', f a = some l' ∧ p ∈ l' := fun {α} f xs => by
   induction xs with
   | nil => intro l h; simp only [List.map_nil, fa5] at h; injection h with h; subst h; simp
   | cons a xs ih =>
    intro l h p hp
    simp only [List.map_cons, fa5] at h
    cases h1 : f a with
    | none => simp [h1] at h
    | some l1 =>
    cases h2 : fa5 (xs.map f) with
    | none => simp [h1, h2] at h
    | some l2 =>
    simp only [h1, h2] at h
    injection h with h; subst h
    rcases List.mem_append.1 hp with hp | hp
    ·exact ⟨a, by simp, l1, h1, hp⟩
    ·obtain ⟨b, hb, r⟩ := ih l2 h2 p hp
     exact ⟨b, by simp [hb], r⟩
  unfold T6 at h
  cases hu : P.underlying t with
  | none => simp [hu] at h
  | some u =>
  cases u with
  | int k =>
   simp only [hu] at h; injection h with h; subst h
   obtain ⟨n, rfl, _, _⟩ := ke3 hu hx
   intro p hp; simp at hp; subst hp; exact ⟨n, rfl⟩
  | bool =>
   simp only [hu] at h; injection h with h; subst h
   obtain ⟨n, rfl, _⟩ := Yd5 hu hx
   intro p hp; simp at hp; subst hp; exact ⟨n, rfl⟩
  | struct fs =>
   simp only [hu] at h
   split at h
   ·cases h
   obtain ⟨_, fuel', xs, _, _, hxs⟩ := Dd2 hu hx
   intro p hp
   obtain ⟨f, hf, l', h1, h2⟩ := hcat _ _ _ h p hp
   split at h1
   ·cases h1
   obtain ⟨j, hj⟩ := List.getElem?_of_mem hf
   obtain ⟨y, _, hy⟩ := hxs j f (by simpa using hj)
   have hc : P.cellsOf f.type = szT P f.type := by
    unfold Program.cellsOf szT
    cases P.info? f.type <;> rfl
   rw [hc] at hy
   exact hpart h1 hy p h2
  | array n e =>
   simp only [hu] at h
   split at h
   case isFalse => cases h
   obtain ⟨_, fuel', xs, hn, _, hxs⟩ := Pd0 hu hx
   intro p hp
   obtain ⟨j, hj, l', h1, h2⟩ := hcat _ _ _ h p hp
   have hj' : j < xs.length := by rw [hn]; simpa using hj
   have hy := hxs j _ (List.getElem?_eq_getElem hj')
   have hc : P.cellsOf e = szT P e := by
    unfold Program.cellsOf szT
    cases P.info? e <;> rfl
   rw [hc] at hy
   exact hpart h1 hy p h2
  | _ => simp [hu] at h
def ja1 (k : IntKind) (es : Nat) (g : Nat → Int) : List b7 := (List.range es).map fun c => .v (.int k (g c))
def qa1 (k : IntKind) (es : Nat) : List (Nat × CK) := (List.range es).map fun c => (c, .int k)
theorem wd6 {d : Nat} {t : TypeId} {k : IntKind} {es : Nat} (hf : T6 P d t = some (qa1 k es)) {fuel : Nat} {cs : List Value} {x : DataW D × List MemPlace} (hx : DataW.trod enc P w base spare held fuel t cs = some x) (hl : cs.length = es) :
  ∃ g : Nat → Int, ∀ c, c < es → cs[c]? = some (.int k (g c)) := by
 have h := wd5 d t _ hf fuel cs x hx
 have h' : ∀ c, ∃ n : Int, c < es → cs[c]? = some (.int k n) := fun c => by
  by_cases hc : c < es
  ·have := h (c, .int k) (List.mem_map.2 ⟨c, by simpa using hc, rfl⟩)
   obtain ⟨n, hn⟩ := this
   exact ⟨n, fun _ => by simpa using hn⟩
  ·exact ⟨0, fun h => absurd h hc⟩
 exact ⟨fun c => Classical.choose (h' c), fun c hc => Classical.choose_spec (h' c) hc⟩
theorem Pd2 {F : Fz} {w : World} (k : IntKind) (n : Int) : T9 F w (.v (.int k n)) (.int k n) := .v _ rfl
theorem Ac0 {k : IntKind} {es : Nat} {g : Nat → Int} {c : Nat} {x : b7} (h : (ja1 k es g)[c]? = some x) : c < es ∧ x = .v (.int k (g c)) := by
 unfold ja1 at h
 obtain ⟨h1, h2⟩ := Da8 h
 exact ⟨h1, h2.symm⟩
theorem Gc4 {t e : TypeId} {k : IntKind} {es d : Nat} (ht : P.underlying t = some (.slice e)) (hf : T6 P d e = some (qa1 k es)) (hes : P.cellsOf e = es) (h0 : 0 < es) {fuel : Nat} {cs : List Value} {x : DataW D × List MemPlace} (hx : DataW.trod enc P w 0 spare held fuel t cs = some x) :
  ∃ (v : Value) (n : Nat) (g : Nat → Nat → Int), cs = [v] ∧ n ≤ maxLen ∧ T9 (jd5 w) w (.tree es n fun j => ja1 k es (g j)) v := by
 rcases Pd1 ht hx with rfl | ⟨a, n, cap, fuel', rfl, hn, hc, hel⟩
 ·exact ⟨_, 0, fun _ _ => 0, rfl, Nat.zero_le _, .nil _ _⟩
 ·rw [hes] at hel
  have hcell : ∀ j, j < n → ∃ g : Nat → Int, ∀ c, c < es → w.cell? ((a.add (j * es)).add c) = some (.int k (g c)) := fun j hj => by
   obtain ⟨row, y, h1, h2⟩ := hel j hj
   unfold World.cells? at h1
   split at h1
   ·obtain ⟨l1, l2⟩ := Db9 h1
    have hl : row.length = es := by simpa using l1
    obtain ⟨g, hg⟩ := wd6 hf h2 hl
    refine ⟨g, fun c hc => ?_⟩
    obtain ⟨i, hi, hi2⟩ := l2 c _ (hg c hc)
    rw [List.getElem?_range hc] at hi
    injection hi with hi
    subst hi
    exact hi2
   ·cases h1
  have hg : ∀ j, ∃ g : Nat → Int, j < n → ∀ c, c < es → w.cell? ((a.add (j * es)).add c) = some (.int k (g c)) := fun j => by
   by_cases hj : j < n
   ·obtain ⟨g, hg⟩ := hcell j hj
    exact ⟨g, fun _ => hg⟩
   ·exact ⟨fun _ => 0, fun h => absurd h hj⟩
  obtain ⟨g, hg⟩ := Classical.axiomOfChoice hg
  have hspot : 0 < n → a.spot = none := fun hn => by
   have := hg 0 hn 0 h0
   simpa [Addr.add] using World.cell?_spot this
  have hw : ∀ j c, j < n → c < es → w.cell? ⟨a.block, a.off + (j * es + c), none⟩ = some (.int k (g j c)) := fun j c hj hc => by
   have := hg j hj c hc
   rw [S3 (hspot (by omega)), S3 rfl] at this
   simpa [Nat.add_assoc] using this
  refine ⟨_, n, g, rfl, Nat.le_trans hn hc, .tree es n _ a cap (fun j c => .int k (g j c)) hspot hn (fun i hi => by simp [ja1]) (fun i c hi hc => ?_) hw fun i c hi hc => ?_⟩
  ·unfold jd5
   rw [hw i c hi hc]
   rfl
  ·have := (Ac0 (List.getElem?_eq_getElem hc)).2
   rw [this]
   exact Pd2 _ _
theorem Dd3 (w : World) : q9 (fun k => w.heap.size ≤ k) (fun _ => ⟨0, 0, 0⟩) [] (jd5 w) w :=
 ⟨fun id b h => by simp at h, fun id id' b b' h => by simp at h, fun _ _ h => h, fun _ h => h⟩
theorem Dd4 {G : Nat → List Value} {f : FuncId} {S : Sum} (hS : f6 P G f S) {aargs : List b7} {args : List Value} (hrun : ∃ out, (S aargs []).run = some (b true, out)) (hl : aargs.length = args.length)
  (ha : ∀ (i : Nat) x x', aargs[i]? = some x → args[i]? = some x' → W4 (fun _ => ⟨0, 0, 0⟩) [] (jd5 w) w x x') (hG : ∀ g (c : Nat) x, (G g)[c]? = some x → x.oneCell' = true ∧ w.cell? ⟨g, c, none⟩ = some x) :
  Calls P f args.toArray w fun e w' => e = .returned (.bool true) ∧ zc9 w w' := by
 obtain ⟨out, hrun⟩ := hrun
 obtain ⟨_, hc⟩ := hS aargs [] (b true) out hrun (fun k => w.heap.size ≤ k) (fun _ => ⟨0, 0, 0⟩) (jd5 w) w args (Dd3 w) hl (fun i x x' h1 h2 => .val (ha i x x' h1 h2)) (fun g c x hx => by
  obtain ⟨h1, h2⟩ := hG g c x hx
  exact ⟨h1, by unfold jd5; rw [h2]; rfl, h2⟩)
 refine hc.mono fun e w' ⟨r', he, ρ', F', hA, hH, hW⟩ => ?_
 have := Y5 hW
 subst this
 exact ⟨he, hA.ext.os, hA.ext.output, hA.ext.size, fun k hk => hA.ext.block k hk (by omega)⟩
theorem Yd6 {ρ : Rho} {H : List b8} {F : Fz} {t : TypeId} {k : IntKind} {es d : Nat} {v : Value} {dd : DataW D} {pp : List MemPlace} {bs : Nat} {r : Reach} (hag : agT P t = true) (hf : T6 P d t = some (qa1 k es)) (hes : P.cellsOf t = es)
  (hok : Value.okWide P w r bs t v) (h : DataW.Trod enc P w base spare held t v dd pp) : ∃ g : Nat → Int, W4 ρ H F w (.agg (ja1 k es g)) v := by
 have hv : ∃ cs : Array Value, v = .agg cs ∧ cs.size = P.cellsOf t := by
  unfold agT at hag
  unfold Value.okWide at hok
  split at hag
  ·rename_i fs hu; rw [hu] at hok; obtain ⟨cs, h1, h2, _⟩ := hok; exact ⟨cs, h1, h2⟩
  ·rename_i n e hu; rw [hu] at hok; obtain ⟨cs, h1, h2, _⟩ := hok; exact ⟨cs, h1, h2⟩
  ·cases hag
 obtain ⟨cs, rfl, hsz⟩ := hv
 obtain ⟨fuel, hx⟩ := h
 have hx : DataW.trod enc P w base spare held fuel t cs.toList = some (dd, pp) := hx
 obtain ⟨g, hg⟩ := wd6 hf hx (by simpa [hes] using hsz)
 refine ⟨g, .agg _ _ (by simp [ja1, hsz, hes]) fun c x x' h1 h2 => ?_⟩
 obtain ⟨hc, rfl⟩ := Ac0 h1
 have := hg c hc
 have h3 : some x' = some (.int k (g c)) := by rw [← h2]; simpa using this
 injection h3 with h3
 subst h3
 exact .v _
theorem Mc3 {ρ : Rho} {H : List b8} {t e : TypeId} {k : IntKind} {es d : Nat} {v : Value} {dd : DataW D} {pp : List MemPlace} {bs : Nat} {r : Reach} (ht : P.underlying t = some (.slice e)) (hf : T6 P d e = some (qa1 k es)) (hes : P.cellsOf e = es) (h0 : 0 < es)
  (hok : Value.okWide P w r bs t v) (h : DataW.Trod enc P w 0 spare held t v dd pp) : ∃ (n : Nat) (g : Nat → Nat → Int), n ≤ maxLen ∧ W4 ρ H (jd5 w) w (.tree es n fun j => ja1 k es (g j)) v := by
 obtain ⟨fuel, hx⟩ := h
 obtain ⟨v', n, g, h1, h2, h3⟩ := Gc4 ht hf hes h0 hx
 have hv : v.cells = #[v] := by
  unfold Value.okWide at hok
  rw [ht] at hok
  cases v with
  | agg cs => exfalso; simp [Cell.okWide, Cell.ok, ht] at hok
  | _ => rfl
 rw [hv] at h1
 have : v = v' := by simpa using h1
 subst this
 exact ⟨n, g, h2, .cell (.mem h3)⟩
end
end Go.Ev
namespace Go.Ev.L
open Go Go.Ev
theorem jd6 {α : Type} (t : Ty α) (n : Nat) (g : Nat → Nat → Int) (f : (Nat → Int) → α) (h : ∀ j, ja1 .i64 t.es (g j) = t.row (f (g j))) :
  ∃ l, (T5 t).dec (.tree t.es n fun j => ja1 .i64 t.es (g j)) = some l ∧ (T5 t).grd (.tree t.es n fun j => ja1 .i64 t.es (g j)) = true := by
 refine ⟨lsL t n fun j => ja1 .i64 t.es (g j), ?_, qb1 t (f := fun k => f (g k)) fun k _ => h k⟩
 show Bool.rec (motive := fun _ => Option (List α)) none (some (lsL t n fun j => ja1 .i64 t.es (g j))) (Nat.beq t.es t.es) = _
 rw [Nat.beq_refl]
end Go.Ev.L
namespace Go.Ev.Ce
open Go Go.Ev Go.Ev.L Go.Proofs
theorem Yd7 (n0 : Nat) (g0 : Nat → Nat → Int) (g1 : Nat → Int) (n2 : Nat) (g2 : Nat → Nat → Int) :
  (Ia5 [.tree 1 n0 fun j => ja1 .i64 1 (g0 j), .agg (ja1 .i64 6 g1), .tree 4 n2 fun j => ja1 .i64 4 (g2 j)] []).run = some (b true, []) := by
 obtain ⟨l0, h1, h2⟩ := jd6 tI n0 g0 (fun g => g 0) fun _ => rfl
 obtain ⟨l2, h3, h4⟩ := jd6 tP n2 g2 (fun g => ⟨⟨g 0, g 1, g 2⟩, g 3⟩) fun _ => rfl
 have h5 : (P7 tQ).dec (.agg (ja1 .i64 6 g1)) = some ⟨⟨g1 0, g1 1, g1 2⟩, ⟨g1 3, g1 4, g1 5⟩⟩ := rfl
 have h1 : (T5 tI).dec (.tree 1 n0 fun j => ja1 .i64 1 (g0 j)) = some l0 := h1
 have h2 : (T5 tI).grd (.tree 1 n0 fun j => ja1 .i64 1 (g0 j)) = true := h2
 have h3 : (T5 tP).dec (.tree 4 n2 fun j => ja1 .i64 4 (g2 j)) = some l2 := h3
 have h4 : (T5 tP).grd (.tree 4 n2 fun j => ja1 .i64 4 (g2 j)) = true := h4
 unfold Ia5 ic3
 simp only [h1, h2, h3, h4, h5]
 show (DT.guard true (DT.guard true (DT.guard true (DT.guard (pa5 l0 ⟨⟨g1 0, g1 1, g1 2⟩, ⟨g1 3, g1 4, g1 5⟩⟩ l2) (.ret ((one r1B).enc (pa4 l0 ⟨⟨g1 0, g1 1, g1 2⟩, ⟨g1 3, g1 4, g1 5⟩⟩ l2), []))))) ).run = _
 rw [Yd4, Yd3]
 rfl
end Go.Ev.Ce
