-- Merged by a small program of this claim's maker out of 5 texts.
import Derived.Test.YtllilhgdnepipaaGreatDoorQm

/-
  Contracts of the compares of versions, components and items, by the table.
-/
namespace Go.Proofs.YtllilhgdnepipaaGreatDoor
open Go Go.Avm
set_option linter.unusedSimpArgs false
set_option linter.unusedVariables false

def cmpZ (m n : Int) : Int := if m < n then -1 else if n < m then 1 else 0
def cmpT (m n : ByteArray) : Int := if Op.bytesLess m.toList n.toList = true then -1 else if m.toList = n.toList then 0 else 1
def orZ (a b c : Int) : Int := if a ≠ 0 then a else if b ≠ 0 then b else c
def cmpI (x y : Item) : Int := orZ (cmpZ (classD x.2) (classD y.2)) (cmpT x.2 y.2) (cmpZ x.1 y.1)
def cmpC (xs ys : List Item) : Int := firstFrom (fun i => cmpI (atI xs i) (atI ys i)) (max xs.length ys.length) 0
def cmpP (xs ys : List (List Item)) : Int := firstFrom (fun i => cmpC (atP xs i) (atP ys i)) (max xs.length ys.length) 0
def cmpV (v w : Ver) : Int := orZ (cmpZ v.1 w.1) (cmpP v.2.1 w.2.1) (cmpP v.2.2 w.2.2)

def con130 : Con := con0 130 (fun _ : Int => True) (fun m => [.int .i64 m]) (fun _ => [.bool false]) (fun _ _ _ _ _ => rfl) (fun m _ => okL [] (spec130 m [] _))
def con80 : Con := con0 80 (fun _ : Int × Int => True) (fun p => [.int .i64 p.1, .int .i64 p.2]) (fun p => [.int .i64 (cmpZ p.1 p.2)]) (by rintro ⟨a, b⟩ ⟨c, d⟩ _ _ h; simp at h; rw [h.1, h.2])
  (fun p _ => okL [con130] (spec80 p.1 p.2 [] _ (here0 (dom := fun _ : Int => True) p.1 trivial) (here0 (dom := fun _ : Int => True) p.2 trivial)))
def con154 : Con := con0 154 (fun _ : ByteArray => True) (fun m => [.str m]) (fun _ => [.bool false]) (fun _ _ _ _ _ => rfl) (fun m _ => okL [] (spec154 m [] _))
def con134 : Con := con0 134 (fun _ : ByteArray × ByteArray => True) (fun p => [.str p.1, .str p.2]) (fun p => [.int .i64 (cmpT p.1 p.2)]) (by rintro ⟨a, b⟩ ⟨c, d⟩ _ _ h; simp at h; rw [h.1, h.2])
  (fun p _ => okL [con154] (spec134 p.1 p.2 [] _ (here0 (dom := fun _ : ByteArray => True) p.1 trivial) (here0 (dom := fun _ : ByteArray => True) p.2 trivial)))
def con133 : Con := con0 133 (fun _ : Item => True) (fun x => [encI x]) (fun x => [.int .i64 (classD x.2)]) (by intro a a' _ _ h; simp only [List.cons.injEq, and_true] at h; rw [encI_inj h]) (fun x _ => okL [] (spec133 x.1 x.2 [] _))
def con132 : Con := con0 132 (fun _ : Int × Int × Int => True) (fun p => [.sl [.int .i64 p.1, .int .i64 p.2.1, .int .i64 p.2.2]]) (fun p => [.int .i64 (orZ p.1 p.2.1 p.2.2)]) (by rintro ⟨a, b, c⟩ ⟨a', b', c'⟩ _ _ h; simp at h; simp only [h.1, h.2.1, h.2.2])
  (fun p _ => okL [] (spec132 p.1 p.2.1 p.2.2 [] _))
theorem ok84 (x y : Item) : CallOK E 84 [encI x, encI y] [] [.int .i64 (cmpI x y)] [] :=
  okL [con133, con80, con134, con132] (spec84 x y [] _ (cmpI x y) (classD x.2) (classD y.2) (cmpZ (classD x.2) (classD y.2)) (cmpT x.2 y.2) (cmpZ x.1 y.1)
    (here0 (dom := fun _ : Item => True) x trivial) (here0 (dom := fun _ : Item => True) y trivial)
    (callL_skip (by decide) (here0 (dom := fun _ : Int × Int => True) (classD x.2, classD y.2) trivial))
    (callL_skip (by decide) (callL_skip (by decide) (here0 (dom := fun _ : ByteArray × ByteArray => True) (x.2, y.2) trivial)))
    (callL_skip (by decide) (here0 (dom := fun _ : Int × Int => True) (x.1, y.1) trivial))
    (callL_skip (by decide) (callL_skip (by decide) (callL_skip (by decide) (here0 (dom := fun _ : Int × Int × Int => True) (cmpZ (classD x.2) (classD y.2), cmpT x.2 y.2, cmpZ x.1 y.1) trivial)))))
def con84 : Con := con0 84 (fun _ : Item × Item => True) (fun p => [encI p.1, encI p.2]) (fun p => [.int .i64 (cmpI p.1 p.2)]) (by rintro ⟨a, b⟩ ⟨c, d⟩ _ _ h; simp only [List.cons.injEq, and_true] at h; simp only [encI_inj h.1, encI_inj h.2]) (fun p _ => ok84 p.1 p.2)
theorem ok85 {u : AV} {x : List Item} {i : Int} (h1 : IsL u x) (h2 : 0 ≤ i) : CallOK E 85 [u, .int .i64 i, .agg [.int .i64 0, .str ⟨#[]⟩]] [] [encI (atI x i)] [] := by
  rcases h1 with rfl | ⟨rfl, rfl⟩
  · exact okL [] (spec85 x i h2 [] _)
  · exact okL [] (spec85n i h2 _)
def con85 : Con := con0 85 (fun p : AV × List Item × Int => IsL p.1 p.2.1 ∧ 0 ≤ p.2.2) (fun p => [p.1, .int .i64 p.2.2, .agg [.int .i64 0, .str ⟨#[]⟩]]) (fun p => [encI (atI p.2.1 p.2.2)]) (by
    rintro ⟨u, x, i⟩ ⟨u', x', i'⟩ ⟨h1, _⟩ ⟨h2, _⟩ h
    simp only [List.cons.injEq, AV.int.injEq, true_and, and_true] at h
    obtain ⟨rfl, rfl⟩ := h
    obtain rfl : x = x' := isL_inj h1 h2
    rfl)
  (fun p h => ok85 h.1 h.2)
theorem ok131 {u v : AV} {xs ys : List Item} (hu : IsL u xs) (hv : IsL v ys) (hx : xs.length < 1000000) (hy : ys.length < 1000000) : CallOK E 131 [u, v, .agg [.int .i64 0, .str ⟨#[]⟩], .fn 84 []] [] [.int .i64 (cmpC xs ys)] [] :=
  okL [con85, con84] (spec131 xs ys hu hv hx hy [] _ cmpI (fun u l i h1 h2 => here0 (dom := fun p : AV × List Item × Int => IsL p.1 p.2.1 ∧ 0 ≤ p.2.2) (u, l, i) ⟨h1, h2⟩)
    (fun x y => callL_skip (by decide) (here0 (dom := fun _ : Item × Item => True) (x, y) trivial)))
abbrev DomL (p : AV × AV × List Item × List Item) : Prop := IsL p.1 p.2.2.1 ∧ IsL p.2.1 p.2.2.2 ∧ p.2.2.1.length < 1000000 ∧ p.2.2.2.length < 1000000
def con131 : Con := con0 131 DomL (fun p => [p.1, p.2.1, .agg [.int .i64 0, .str ⟨#[]⟩], .fn 84 []]) (fun p => [.int .i64 (cmpC p.2.2.1 p.2.2.2)]) (by
    rintro ⟨u, v, x, y⟩ ⟨u', v', x', y'⟩ ⟨h1, h2, _⟩ ⟨h3, h4, _⟩ h
    simp only [List.cons.injEq, and_true] at h
    obtain ⟨rfl, rfl⟩ := h
    obtain rfl : x = x' := isL_inj h1 h3
    obtain rfl : y = y' := isL_inj h2 h4
    rfl)
  (fun p h => ok131 h.1 h.2.1 h.2.2.1 h.2.2.2)
def con82 : Con := con0 82 DomL (fun p => [p.1, p.2.1]) (fun p => [.int .i64 (cmpC p.2.2.1 p.2.2.2)]) (by
    rintro ⟨u, v, x, y⟩ ⟨u', v', x', y'⟩ ⟨h1, h2, _⟩ ⟨h3, h4, _⟩ h
    simp only [List.cons.injEq, and_true] at h
    obtain ⟨rfl, rfl⟩ := h
    obtain rfl : x = x' := isL_inj h1 h3
    obtain rfl : y = y' := isL_inj h2 h4
    rfl)
  (fun p h => okL [con131] (spec82g h.1 h.2.1 _ _ (here0 (dom := DomL) p h)))
theorem ok83 {u : AV} {x : List (List Item)} {i : Int} (h1 : IsP u x) (h2 : 0 ≤ i) : CallOK E 83 [u, .int .i64 i, .nilS] [] [atV x i] [] := by
  rcases h1 with rfl | ⟨rfl, rfl⟩
  · exact okL [] (spec83 x i h2 _)
  · exact okL [] (spec83n i h2 _)
def con83 : Con := con0 83 (fun p : AV × List (List Item) × Int => IsP p.1 p.2.1 ∧ 0 ≤ p.2.2) (fun p => [p.1, .int .i64 p.2.2, .nilS]) (fun p => [atV p.2.1 p.2.2]) (by
    rintro ⟨u, x, i⟩ ⟨u', x', i'⟩ ⟨h1, _⟩ ⟨h2, _⟩ h
    simp only [List.cons.injEq, AV.int.injEq, true_and, and_true] at h
    obtain ⟨rfl, rfl⟩ := h
    obtain rfl : x = x' := isP_inj h1 h2
    rfl)
  (fun p h => ok83 h.1 h.2)
abbrev ShortC (xs : List (List Item)) : Prop := xs.length < 1000000 ∧ ∀ x ∈ xs, x.length < 1000000
theorem ShortC.all {xs : List (List Item)} (h : ShortC xs) {x : List Item} (hx : x ∈ xs ∨ x = []) : x.length < 1000000 := by
  rcases hx with hx | rfl
  · exact h.2 x hx
  · decide
abbrev DomP (p : AV × AV × List (List Item) × List (List Item)) : Prop := IsP p.1 p.2.2.1 ∧ IsP p.2.1 p.2.2.2 ∧ ShortC p.2.2.1 ∧ ShortC p.2.2.2
theorem domP_inj {α : Type} (f : List (List Item) → List (List Item) → α) : ∀ p p', DomP p → DomP p' → p.1 = p'.1 → p.2.1 = p'.2.1 → f p.2.2.1 p.2.2.2 = f p'.2.2.1 p'.2.2.2 := by
  rintro ⟨u, v, x, y⟩ ⟨u', v', x', y'⟩ ⟨h1, h2, _⟩ ⟨h3, h4, _⟩ e1 e2
  simp only at e1 e2
  subst e1; subst e2
  obtain rfl : x = x' := isP_inj h1 h3
  obtain rfl : y = y' := isP_inj h2 h4
  rfl
def con81 : Con := con0 81 DomP (fun p => [p.1, p.2.1, .nilS, .fn 82 []]) (fun p => [.int .i64 (cmpP p.2.2.1 p.2.2.2)]) (by
    intro p p' h h' he
    simp only [List.cons.injEq, and_true] at he
    exact domP_inj (fun x y => [AV.int .i64 (cmpP x y)]) p p' h h' he.1 he.2)
  (fun p h => okL [con83, con82] (spec81 p.2.2.1 p.2.2.2 h.1 h.2.1 h.2.2.1.1 h.2.2.2.1 _ cmpC
    (fun u l i h1 h2 => here0 (dom := fun p : AV × List (List Item) × Int => IsP p.1 p.2.1 ∧ 0 ≤ p.2.2) (u, l, i) ⟨h1, h2⟩)
    (fun u v x y h1 h2 h3 h4 => callL_skip (by decide) (here0 (dom := DomL) (u, v, x, y) ⟨h1, h2, h.2.2.1.all h3, h.2.2.2.all h4⟩))))

/-- A version whose lists are not too long. -/
abbrev ShortV (v : Ver) : Prop := ShortC v.2.1 ∧ ShortC v.2.2
def extraA (q : List (List Item)) : AV := if q = [] then .nilS else .sl (q.map encC)
theorem extraA_isP (q : List (List Item)) : IsP (extraA q) q := by
  unfold extraA
  split
  · rename_i h; exact .inr ⟨rfl, h⟩
  · exact .inl rfl
theorem encV_eq (v : Ver) : encV v = .agg [.int .i64 v.1, .sl (v.2.1.map encC), extraA v.2.2] := rfl
theorem plainP {u : AV} {x : List (List Item)} (h : IsP u x) : Plain u := by
  rcases h with rfl | ⟨rfl, _⟩
  · exact plain_sl _
  · exact plain_nilS
theorem ok33 (v w : Ver) (hv : ShortV v) (hw : ShortV w) : CallOK E 33 [encV v, encV w] [] [.int .i64 (cmpV v w)] [] :=
  okL [con80, con81] (spec33 v.1 w.1 (.sl (v.2.1.map encC)) (.sl (w.2.1.map encC)) (extraA v.2.2) (extraA w.2.2) _ (cmpZ v.1 w.1) (cmpP v.2.1 w.2.1) (cmpP v.2.2 w.2.2) (plain_sl _) (plain_sl _) (plainP (extraA_isP _)) (plainP (extraA_isP _))
    (here0 (dom := fun _ : Int × Int => True) (v.1, w.1) trivial)
    (callL_skip (by decide) (here0 (dom := DomP) (_, _, v.2.1, w.2.1) ⟨.inl rfl, .inl rfl, hv.1, hw.1⟩))
    (callL_skip (by decide) (here0 (dom := DomP) (_, _, v.2.2, w.2.2) ⟨extraA_isP _, extraA_isP _, hv.2, hw.2⟩)))
def con33 : Con := con0 33 (fun p : Ver × Ver => ShortV p.1 ∧ ShortV p.2) (fun p => [encV p.1, encV p.2]) (fun p => [.int .i64 (cmpV p.1 p.2)]) (by rintro ⟨a, b⟩ ⟨c, d⟩ _ _ h; simp only [List.cons.injEq, and_true] at h; simp only [encV_inj h.1, encV_inj h.2]) (fun p h => ok33 p.1 p.2 h.1 h.2)
end Go.Proofs.YtllilhgdnepipaaGreatDoor

/-
  What right versions of short texts are, for the machine's bounds.
-/
namespace Go.Proofs.YtllilhgdnepipaaGreatDoor
open Go Go.Avm
set_option linter.unusedSimpArgs false
set_option linter.unusedVariables false

theorem itemT_pos (x : Item) : 1 ≤ (itemT x).length := by
  unfold itemT
  split
  · exact List.length_pos_iff.2 (numT_ne _)
  · rename_i h; exact List.length_pos_iff.2 h
theorem itemsT_len : ∀ r : List Item, r.length ≤ (itemsT r).length
  | [] => Nat.le_refl _
  | x :: r => by
    have := itemsT_len r
    have h1 := itemT_pos x
    simp only [itemsT, List.length_append, List.length_cons]
    omega
theorem itemsT_word : ∀ (r : List Item) (x : Item), x ∈ r → x.2.size ≤ (itemsT r).length
  | [], x, h => by cases h
  | y :: r, x, h => by
    simp only [itemsT, List.length_append]
    rcases List.mem_cons.1 h with rfl | h
    · have : x.2.size ≤ (itemT x).length := by
        unfold itemT
        split
        · rename_i h0
          have : x.2.size = x.2.data.toList.length := rfl
          rw [this, h0]
          exact Nat.zero_le _
        · have : x.2.size = x.2.data.toList.length := rfl
          omega
      omega
    · have := itemsT_word r x h
      omega
theorem right_nums : ∀ (r : List Item) (b : Bool), rightI b r = true → ∀ y ∈ r, 0 ≤ y.1 ∧ y.1 < 1000000000000000000
  | [], _, _, y, h => by cases h
  | x :: r, true, hr, y, h => by
    simp only [rightI, Bool.and_eq_true, decide_eq_true_eq] at hr
    rcases List.mem_cons.1 h with rfl | h
    · omega
    · exact right_nums r false hr.2 y h
  | x :: r, false, hr, y, h => by
    simp only [rightI, Bool.and_eq_true, decide_eq_true_eq] at hr
    rcases List.mem_cons.1 h with rfl | h
    · omega
    · exact right_nums r true hr.2 y h
theorem textC_len {c : List Item} (h : rightC c = true) : c.length ≤ (textC c).length + 1 ∧ (∀ y ∈ c, y.2.size ≤ (textC c).length) ∧ ∀ y ∈ c, 0 ≤ y.1 ∧ y.1 < 1000000000000000000 := by
  unfold rightC at h
  simp only [Bool.and_eq_true, Bool.not_eq_true'] at h
  refine ⟨?_, ?_, right_nums c true h.2⟩
  · cases c with
    | nil => simp
    | cons x r =>
      rw [textC_cons]
      have := itemsT_len r
      simp only [List.length_cons, List.length_append]
      omega
  · intro y hy
    cases c with
    | nil => cases hy
    | cons x r =>
      rw [textC_cons]
      simp only [List.length_append]
      rcases List.mem_cons.1 hy with rfl | hy
      · have h2 := h.2
        simp only [rightI, Bool.and_eq_true, decide_eq_true_eq] at h2
        have : y.2.size = y.2.data.toList.length := rfl
        rw [this, h2.1.1.1]
        exact Nat.zero_le _
      · have := itemsT_word r y hy
        omega
theorem textP_false_len : ∀ r : List (List Item), r.length ≤ (textP false r).length
  | [] => Nat.zero_le _
  | d :: s => by
    have ih := textP_false_len s
    have e : textP false (d :: s) = [46] ++ textC d ++ textP false s := rfl
    rw [e]
    simp only [List.length_append, List.length_cons, List.length_nil]
    omega
theorem textP_len : ∀ (b : Bool) (xs : List (List Item)), xs.length ≤ (textP b xs).length + 1 ∧ ∀ c ∈ xs, (textC c).length ≤ (textP b xs).length
  | b, [] => ⟨Nat.zero_le _, fun c h => by cases h⟩
  | b, c :: r => by
    obtain ⟨h1, h2⟩ := textP_len false r
    have h3 := textP_false_len r
    refine ⟨?_, fun d hd => ?_⟩
    · simp only [textP, List.length_append, List.length_cons]
      omega
    · simp only [textP, List.length_append]
      rcases List.mem_cons.1 hd with rfl | hd
      · omega
      · have := h2 d hd
        omega
theorem textP_ne {ps : List (List Item)} (h : ps ≠ []) (hr : ps.all rightC = true) : textP true ps ≠ [] := by
  intro he
  have := comps_text ps h hr
  rw [he] at this
  simp [comps, compo] at this

/-- What the bounds ask. -/
structure Fit (v : Ver) : Prop where
  e0 : 0 ≤ v.1
  e1 : v.1 < 1000000000000000000
  short : ShortV v
  nums : ∀ c ∈ v.2.1 ++ v.2.2, ∀ y ∈ c, (0 ≤ y.1 ∧ y.1 < 1000000000000000000) ∧ y.2.size < 1000000
  text : (textV v).length < 1000000
  ne : textP true v.2.1 ≠ []
  neq : v.2.2 ≠ [] → textP true v.2.2 ≠ []
theorem right_fit {v : Ver} (h : rightV v = true) (ht : (textV v).length ≤ 40) : Fit v := by
  obtain ⟨e, ps, qs⟩ := v
  unfold rightV at h
  simp only [Bool.and_eq_true, decide_eq_true_eq, Bool.not_eq_true'] at h
  obtain ⟨⟨⟨⟨h1, h2⟩, h3⟩, h4⟩, h5⟩ := h
  have hne : ps ≠ [] := by rintro rfl; simp at h3
  have hp : (textP true ps).length ≤ 40 := by
    simp only [textV, List.length_append] at ht
    omega
  have hq : (textP true qs).length ≤ 40 := by
    by_cases hq : qs = []
    · rw [hq]; simp [textP]
    · simp only [textV, List.length_append, hq, if_false, List.length_cons] at ht
      omega
  have sc : ∀ xs : List (List Item), xs.all rightC = true → (textP true xs).length ≤ 40 → ShortC xs ∧ ∀ c ∈ xs, ∀ y ∈ c, (0 ≤ y.1 ∧ y.1 < 1000000000000000000) ∧ y.2.size < 1000000 := by
    intro xs hr hl
    obtain ⟨k1, k2⟩ := textP_len true xs
    refine ⟨⟨by omega, fun c hc => ?_⟩, fun c hc y hy => ?_⟩
    · have := (textC_len (List.all_eq_true.1 hr c hc)).1
      have := k2 c hc
      omega
    · obtain ⟨_, k3, k4⟩ := textC_len (List.all_eq_true.1 hr c hc)
      have := k2 c hc
      have := k3 y hy
      exact ⟨k4 y hy, by omega⟩
  obtain ⟨s1, s2⟩ := sc ps h4 hp
  obtain ⟨s3, s4⟩ := sc qs h5 hq
  exact ⟨h1, by show e < _; omega, ⟨s1, s3⟩, fun c hc y hy => by
    rcases List.mem_append.1 hc with hc | hc
    · exact s2 c hc y hy
    · exact s4 c hc y hy, by omega, textP_ne hne h4, fun hq => textP_ne hq h5⟩
end Go.Proofs.YtllilhgdnepipaaGreatDoor

/-
  Contracts of the parses and texts of versions, by the table.
-/
namespace Go.Proofs.YtllilhgdnepipaaGreatDoor
open Go Go.Avm
set_option linter.unusedSimpArgs false
set_option linter.unusedVariables false

/-! Parse. -/
abbrev DomC (p : List UInt8 × UInt8) : Prop := Short p.1
theorem domC_inj {α : Type} (f : List UInt8 → UInt8 → α) (p p' : List UInt8 × UInt8) (h : [AV.str (toB p.1), AV.str (toB [p.2])] = [AV.str (toB p'.1), AV.str (toB [p'.2])]) : f p.1 p.2 = f p'.1 p'.2 := by
  simp only [List.cons.injEq, AV.str.injEq, and_true] at h
  have h2 := toB_inj h.2
  simp only [List.cons.injEq, and_true] at h2
  rw [toB_inj h.1, h2]
def con135 : Con := con0 135 DomC (fun p => [.str (toB p.1), .str (toB [p.2])]) (fun p => [.int .i64 (findL p.2.toNat p.1 0)]) (fun p p' _ _ h => domC_inj (fun l (c : UInt8) => [AV.int .i64 (findL c.toNat l 0)]) p p' h)
  (fun p _ => okL [con155] (spec135 p.1 p.2 _ (here0 (dom := fun _ : List UInt8 × UInt8 => True) p trivial)))
def con87 : Con := con0 87 DomC (fun p => [.str (toB p.1), .str (toB [p.2])]) (fun p => cutA p.1 (cutAt p.2.toNat p.1)) (fun p p' _ _ h => domC_inj (fun l (c : UInt8) => cutA l (cutAt c.toNat l)) p p' h)
  (fun p h => okL [con135] (spec87 p.1 p.2 h _ (here0 (dom := DomC) p h)))
def con37 : Con := con0 37 DomC (fun p => [.str (toB p.1), .str (toB [p.2])]) (fun p => cutA p.1 (cutAt p.2.toNat p.1)) (fun p p' _ _ h => domC_inj (fun l (c : UInt8) => cutA l (cutAt c.toNat l)) p p' h)
  (fun p h => okL [con87] (spec37 p.1 p.2 _ (here0 (dom := DomC) p h)))
def con89 : Con := con0 89 Short (fun l => [.str (toB l), .str ⟨#[46, 95, 45]⟩]) (fun l => [.int .i64 (sepI l)]) (by intro a a' _ _ h; simp at h; rw [toB_inj h]) ok89
theorem ok39 (l : List UInt8) (h : Short l) : CallOK E 39 [.str (toB l)] [] (compsA (comps [] l)) [] :=
  okL [con89, con90] (spec39 l h _ (fun r hr => here0 (dom := Short) r hr) (fun r hr => callL_skip (by decide) (here0 (dom := Short) r hr)))
def con39 : Con := con0 39 Short (fun l => [.str (toB l)]) (fun l => compsA (comps [] l)) (by intro a a' _ _ h; simp at h; rw [toB_inj h]) ok39
theorem ok8 (l : List UInt8) (h : Short l) : CallOK E 8 [.str (toB l)] [] (parseA (parseV l)) [] :=
  okL [con36, con37, con38, con39] (spec8 l h _ (fun r hr => here0 (dom := Short) r hr) (fun r c hr => callL_skip (by decide) (here0 (dom := DomC) (r, c) hr))
    (fun r hr => callL_skip (by decide) (callL_skip (by decide) (here0 (dom := Short) r hr)))
    (fun r hr => callL_skip (by decide) (callL_skip (by decide) (callL_skip (by decide) (here0 (dom := Short) r hr)))))
def con8 : Con := con0 8 Short (fun l => [.str (toB l)]) (fun l => parseA (parseV l)) (by intro a a' _ _ h; simp at h; rw [toB_inj h]) ok8

/-! Alike. -/
def con44 : Con := con0 44 DomP (fun p => [p.1, p.2.1]) (fun p => [.bool (decide (p.2.2.1 = p.2.2.2))]) (by
    intro p p' h h' he
    simp only [List.cons.injEq, and_true] at he
    exact domP_inj (fun x y => [AV.bool (decide (x = y))]) p p' h h' he.1 he.2)
  (fun p h => okL [] (spec44 p.2.2.1 p.2.2.2 h.1 h.2.1 h.2.2.1.1 h.2.2.1.2 _))
theorem ok10 (v w : Ver) (hv : ShortV v) (hw : ShortV w) : CallOK E 10 [encV v, encV w] [] [.bool (decide (v = w))] [] := by
  have := okL [con44] (spec10 v.1 w.1 v.2.1 w.2.1 v.2.2 w.2.2 (.inl rfl) (.inl rfl) (extraA_isP _) (extraA_isP _) _
    (here0 (dom := DomP) (_, _, v.2.1, w.2.1) ⟨.inl rfl, .inl rfl, hv.1, hw.1⟩) (here0 (dom := DomP) (_, _, v.2.2, w.2.2) ⟨extraA_isP _, extraA_isP _, hv.2, hw.2⟩))
  exact this
def con10 : Con := con0 10 (fun p : Ver × Ver => ShortV p.1 ∧ ShortV p.2) (fun p => [encV p.1, encV p.2]) (fun p => [.bool (decide (p.1 = p.2))]) (by rintro ⟨a, b⟩ ⟨c, d⟩ _ _ h; simp only [List.cons.injEq, and_true] at h; simp only [encV_inj h.1, encV_inj h.2]) (fun p h => ok10 p.1 p.2 h.1 h.2)
theorem ok10z : CallOK E 10 [zeroV, zeroV] [] [.bool true] [] :=
  okL [con44] (spec10 0 0 [] [] [] [] (.inr ⟨rfl, rfl⟩) (.inr ⟨rfl, rfl⟩) (.inr ⟨rfl, rfl⟩) (.inr ⟨rfl, rfl⟩) _
    (here0 (dom := DomP) (_, _, [], []) ⟨.inr ⟨rfl, rfl⟩, .inr ⟨rfl, rfl⟩, ⟨by decide, by simp⟩, ⟨by decide, by simp⟩⟩) (here0 (dom := DomP) (_, _, [], []) ⟨.inr ⟨rfl, rfl⟩, .inr ⟨rfl, rfl⟩, ⟨by decide, by simp⟩, ⟨by decide, by simp⟩⟩))
def con10z : Con := con0 10 (fun _ : Unit => True) (fun _ => [zeroV, zeroV]) (fun _ => [.bool true]) (fun _ _ _ _ _ => rfl) (fun _ _ => ok10z)

/-! Right. -/
abbrev DomI (x : List Item) : Prop := x.length < 1000000 ∧ ∀ y ∈ x, y.2.size < 1000000
theorem ok52 (x : List Item) (h : DomI x) : CallOK E 52 [.sl (x.map encI)] [] [.bool (rightC x)] [] := okL [con99] (spec52 x h.1 h.2 _ (fun c => here0 (dom := fun _ : Int => True) c trivial))
def con52 : Con := con0 52 DomI (fun x => [.sl (x.map encI)]) (fun x => [.bool (rightC x)]) (by intro a a' _ _ h; simp only [List.cons.injEq, and_true] at h; rw [encC_inj h]) ok52
def con98 : Con := con0 98 (fun n : Nat => n < 2000000) (fun n => [.nilS, .int .i64 (n : Int)]) (fun _ => [.own 8 87 []]) (fun _ _ _ _ _ => rfl) ok98
abbrev DomX (p : AV × List (List Item) × List (List Item)) : Prop := IsP p.1 p.2.2 ∧ p.2.1.length < 1000000 ∧ p.2.2.length < 1000000
def con51 : Con := con0 51 DomX (fun p => [.sl [.sl (p.2.1.map encC), p.1]]) (fun p => [.own 48 87 ((p.2.1 ++ p.2.2).map encC)]) (by
    rintro ⟨u, x, y⟩ ⟨u', x', y'⟩ ⟨h1, _⟩ ⟨h2, _⟩ h
    simp only [List.cons.injEq, AV.sl.injEq, and_true] at h
    obtain ⟨h3, rfl⟩ := h
    obtain rfl : y = y' := isP_inj h1 h2
    obtain rfl : x = x' := map_inj encC_inj h3
    rfl)
  (fun p h => okL [con98] (spec51 p.2.1 p.2.2 h.1 h.2.1 h.2.2 _ 8 (by decide) (fun n hn => here0 (dom := fun n : Nat => n < 2000000) n hn)))
theorem ok13 (v : Ver) (h : Fit v) : CallOK E 13 [encV v] [] [.bool (rightV v)] [] :=
  okL [con51, con52] (spec13 v.1 v.2.1 v.2.2 (extraA_isP v.2.2) h.short.1.1 h.short.2.1 _ (here0 (dom := DomX) (_, v.2.1, v.2.2) ⟨extraA_isP v.2.2, h.short.1.1, h.short.2.1⟩)
    (fun c hc => callL_skip (by decide) (here0 (dom := DomI) c ⟨by
      rcases List.mem_append.1 hc with hc | hc
      · exact h.short.1.2 c hc
      · exact h.short.2.2 c hc, fun y hy => (h.nums c hc y hy).2⟩)))
def con13 : Con := con0 13 Fit (fun v => [encV v]) (fun v => [.bool (rightV v)]) (by intro a a' _ _ h; simp only [List.cons.injEq, and_true] at h; rw [encV_inj h]) ok13

/-! Texts. -/
abbrev NumD (n : Nat) : Prop := n < 1000000000000000000
def con53 : Con := con0 53 NumD (fun n => [.int .i64 (n : Int)]) (fun n => [.str (toB (numT n))]) (by intro a a' _ _ h; simp at h; rw [show a = a' by omega]) (fun n h => okL [] (spec53 n h _))
def con97 : Con := con0 97 NumD (fun n => [.int .i64 (n : Int)]) (fun n => [.str (toB (numT n))]) (by intro a a' _ _ h; simp at h; rw [show a = a' by omega]) ok97
def con47 : Con := con0 47 NumD (fun n => [.int .i64 (n : Int)]) (fun n => [.str (toB (numT n))]) (by intro a a' _ _ h; simp at h; rw [show a = a' by omega]) (fun n h => okL [con97] (spec47 n _ _ (here0 (dom := NumD) n h)))
abbrev DomT (xs : List (List Item)) : Prop := ShortC xs ∧ (∀ c ∈ xs, ∀ y ∈ c, 0 ≤ y.1 ∧ y.1 < 1000000000000000000) ∧ (textP true xs).length < 1000000
theorem ok54 (xs : List (List Item)) (h : DomT xs) : CallOK E 54 [.sl (xs.map encC)] [] [.str (toB (textP true xs))] [] :=
  okL [con53] (spec54 xs h.1.1 (fun c hc => ⟨h.1.2 c hc, h.2.1 c hc⟩) h.2.2 _ (fun n hn => here0 (dom := NumD) n hn))
def con54 : Con := con0 54 DomT (fun xs => [.sl (xs.map encC)]) (fun xs => [.str (toB (textP true xs))]) (by intro a a' _ _ h; simp only [List.cons.injEq, AV.sl.injEq, and_true] at h; rw [map_inj encC_inj h]) ok54
theorem Fit.domT {v : Ver} (h : Fit v) {xs : List (List Item)} (hx : xs = v.2.1 ∨ xs = v.2.2) : DomT xs := by
  have ht := h.text
  rcases hx with rfl | rfl
  · refine ⟨h.short.1, fun c hc y hy => (h.nums c (List.mem_append.2 (.inl hc)) y hy).1, ?_⟩
    simp only [textV, List.length_append] at ht
    omega
  · refine ⟨h.short.2, fun c hc y hy => (h.nums c (List.mem_append.2 (.inr hc)) y hy).1, ?_⟩
    by_cases hq : v.2.2 = []
    · rw [hq]; simp [textP]
    · simp only [textV, List.length_append, hq, if_false, List.length_cons] at ht
      omega
end Go.Proofs.YtllilhgdnepipaaGreatDoor

/-
  Contracts of the Builder's writes and of what writes a version's text, by the table.
-/
namespace Go.Proofs.YtllilhgdnepipaaGreatDoor
open Go Go.Avm
set_option linter.unusedSimpArgs false
set_option linter.unusedVariables false

theorem ok14 (v : Ver) (h : Fit v) : CallOK E 14 [encV v] [] [.str (toB (textV v))] [] :=
  okL [con53, con54] (spec14 v.1 v.2.1 v.2.2 h.e0 h.e1 h.text _ (fun n hn => here0 (dom := NumD) n hn) (fun xs hx => callL_skip (by decide) (here0 (dom := DomT) xs (h.domT hx))))
def con14 : Con := con0 14 Fit (fun v => [encV v]) (fun v => [.str (toB (textV v))]) (by intro a a' _ _ h; simp only [List.cons.injEq, and_true] at h; rw [encV_inj h]) ok14

abbrev BS := Option (List UInt8)
theorem encB_inj {l r : List UInt8} (h : encB l = encB r) : l = r := by
  refine map_inj (fun {x y} hxy => ?_) h
  simp only [AV.int.injEq, true_and] at hxy
  exact UInt8.toNat_inj.1 (by omega)
theorem bld_inj {s s' : BS} (h : bld s = bld s') : s = s' := by
  cases s <;> cases s'
  · rfl
  · simp [bld] at h
  · simp [bld] at h
  · simp only [bld, List.cons.injEq, AV.own.injEq, true_and, and_true] at h
    rw [encB_inj h]
theorem bA_inj {vc vc' : List AV} {s s' : BS} (h : ofB (bA vc (bld s)) = ofB (bA vc' (bld s'))) : vc = vc' ∧ s = s' := by
  have h1 := congrFun h 2500001
  have h2 := congrFun h 7900003
  simp [bA, ofB] at h1 h2
  exact ⟨h1, bld_inj h2⟩
abbrev KillS (vc : List AV) : Prop := ∀ t, vc.map (killV t) = vc

theorem ok96_1 (vc : List AV) (s : BS) : CallOK E 96 [.box 2 7900003 0] (ofB [] :: [ofB (bA vc (bld s))]) [] (ofB [] :: [ofB (bA vc (bld1 s))]) := by
  cases s with
  | none =>
    have := ok96 (ofB [] :: [ofB (bA vc (bld none))]) 1 7900003 .nilP .nilS rfl (by decide) (.inl rfl)
    rw [modR_one, updB_of] at this
    exact this
  | some l =>
    have := ok96 (ofB [] :: [ofB (bA vc (bld (some l)))]) 1 7900003 (.box 0 7900003 0) (.own 15800006003 5 (encB l)) rfl (by decide) (.inr rfl)
    rw [modR_one, updB_of] at this
    exact this
theorem ok96_2 (vc : List AV) (b2 : List (Nat × Option (List AV))) (s : BS) : CallOK E 96 [.box 3 7900003 0] (ofB [] :: [ofB b2, ofB (bA vc (bld s))]) [] (ofB [] :: [ofB b2, ofB (bA vc (bld1 s))]) := by
  cases s with
  | none =>
    have := ok96 (ofB [] :: [ofB b2, ofB (bA vc (bld none))]) 2 7900003 .nilP .nilS rfl (by decide) (.inl rfl)
    have e : modR (ofB [] :: [ofB b2, ofB (bA vc (bld none))]) 2 7900003 [.box 0 7900003 0, .nilS] = ofB [] :: [ofB b2, upd (ofB (bA vc (bld none))) 7900003 (some [.box 0 7900003 0, .nilS])] := rfl
    rw [e, updB_of] at this
    exact this
  | some l =>
    have := ok96 (ofB [] :: [ofB b2, ofB (bA vc (bld (some l)))]) 2 7900003 (.box 0 7900003 0) (.own 15800006003 5 (encB l)) rfl (by decide) (.inr rfl)
    have e : modR (ofB [] :: [ofB b2, ofB (bA vc (bld (some l)))]) 2 7900003 [.box 0 7900003 0, .own 15800006003 5 (encB l)] = ofB [] :: [ofB b2, upd (ofB (bA vc (bld (some l)))) 7900003 (some [.box 0 7900003 0, .own 15800006003 5 (encB l)])] := rfl
    rw [e, updB_of] at this
    exact this
def con96_1 : Con where
  f := 96
  α := List AV × BS
  dom _ := True
  A _ := [.box 2 7900003 0]
  B p := ofB [] :: [ofB (bA p.1 (bld p.2))]
  R p := ([], ofB [] :: [ofB (bA p.1 (bld1 p.2))])
  inj := by
    rintro ⟨vc, s⟩ ⟨vc', s'⟩ _ _ _ h
    simp only [List.cons.injEq, true_and, and_true] at h
    obtain ⟨rfl, rfl⟩ := bA_inj h
    rfl
  ok p _ := ok96_1 p.1 p.2
def con96_2 : Con where
  f := 96
  α := List AV × List (Nat × Option (List AV)) × BS
  dom _ := True
  A _ := [.box 3 7900003 0]
  B p := ofB [] :: [ofB p.2.1, ofB (bA p.1 (bld p.2.2))]
  R p := ([], ofB [] :: [ofB p.2.1, ofB (bA p.1 (bld1 p.2.2))])
  inj := by
    rintro ⟨vc, b, s⟩ ⟨vc', b', s'⟩ _ _ _ h
    simp only [List.cons.injEq, true_and, and_true] at h
    obtain ⟨rfl, rfl⟩ := bA_inj h.2
    simp only [h.1]
  ok p _ := ok96_2 p.1 p.2.1 p.2.2

theorem wrO_some {s : BS} {w : List UInt8} (hw : w ≠ []) : some (bldT s ++ w) = wrO s w := by
  unfold wrO
  rw [if_neg hw]
/-! Writes over a Builder of the frame below. -/
abbrev DomW (p : List AV × BS × List UInt8) : Prop := KillS p.1 ∧ p.2.2 ≠ [] ∧ (bldT p.2.1).length + p.2.2.length < 1000000
def con46_1 : Con where
  f := 46
  α := List AV × BS × List UInt8
  dom := DomW
  A p := [.box 1 7900003 0, .str (toB p.2.2)]
  B p := [ofB (bA p.1 (bld p.2.1))]
  R p := ([.int .i64 p.2.2.length, .nilI], [ofB (bA p.1 (bld (wrO p.2.1 p.2.2)))])
  inj := by
    rintro ⟨vc, s, w⟩ ⟨vc', s', w'⟩ _ _ h1 h
    simp only [List.cons.injEq, true_and, and_true, AV.str.injEq] at h h1
    obtain ⟨rfl, rfl⟩ := bA_inj h
    obtain rfl : w = w' := toB_inj h1
    rfl
  ok p h := by
    have := okL [con96_1] (spec46_1 p.1 h.1 p.2.1 p.2.2 h.2.2 _ (callL_here con96_1 [] (p.1, p.2.1) trivial))
    rw [wrO_some h.2.1] at this
    exact this
abbrev DomY (p : List AV × BS × UInt8) : Prop := KillS p.1 ∧ (bldT p.2.1).length < 1000000
def con48_1 : Con where
  f := 48
  α := List AV × BS × UInt8
  dom := DomY
  A p := [.box 1 7900003 0, .int .u8 (p.2.2.toNat : Int)]
  B p := [ofB (bA p.1 (bld p.2.1))]
  R p := ([.nilI], [ofB (bA p.1 (bld (wrO p.2.1 [p.2.2])))])
  inj := by
    rintro ⟨vc, s, w⟩ ⟨vc', s', w'⟩ _ _ h1 h
    simp only [List.cons.injEq, true_and, and_true, AV.int.injEq] at h h1
    obtain ⟨rfl, rfl⟩ := bA_inj h
    obtain rfl : w = w' := UInt8.toNat_inj.1 (by omega)
    rfl
  ok p h := by
    have := okL [con96_1] (spec48_1 p.1 h.1 p.2.1 p.2.2 h.2 _ (callL_here con96_1 [] (p.1, p.2.1) trivial))
    rw [wrO_some (by simp)] at this
    exact this
abbrev BL := List (Nat × Option (List AV))
abbrev KillB (b : BL) : Prop := ∀ t, killB t b = b
abbrev DomW2 (p : List AV × BL × BS × List UInt8) : Prop := KillS p.1 ∧ KillB p.2.1 ∧ p.2.2.2 ≠ [] ∧ (bldT p.2.2.1).length + p.2.2.2.length < 1000000
def con46_2 : Con where
  f := 46
  α := List AV × BL × BS × List UInt8
  dom := DomW2
  A p := [.box 2 7900003 0, .str (toB p.2.2.2)]
  B p := [ofB p.2.1, ofB (bA p.1 (bld p.2.2.1))]
  R p := ([.int .i64 p.2.2.2.length, .nilI], [ofB p.2.1, ofB (bA p.1 (bld (wrO p.2.2.1 p.2.2.2)))])
  inj := by
    rintro ⟨vc, b, s, w⟩ ⟨vc', b', s', w'⟩ _ _ h1 h
    simp only [List.cons.injEq, true_and, and_true, AV.str.injEq] at h h1
    obtain ⟨rfl, rfl⟩ := bA_inj h.2
    obtain rfl : w = w' := toB_inj h1
    simp only [h.1]
  ok p h := by
    have := okL [con96_2] (spec46_2 p.1 h.1 p.2.1 h.2.1 p.2.2.1 p.2.2.2 h.2.2.2 _ (callL_here con96_2 [] (p.1, p.2.1, p.2.2.1) trivial))
    rw [wrO_some h.2.2.1] at this
    exact this
abbrev DomY2 (p : List AV × BL × BS × UInt8) : Prop := KillS p.1 ∧ KillB p.2.1 ∧ (bldT p.2.2.1).length < 1000000
def con48_2 : Con where
  f := 48
  α := List AV × BL × BS × UInt8
  dom := DomY2
  A p := [.box 2 7900003 0, .int .u8 (p.2.2.2.toNat : Int)]
  B p := [ofB p.2.1, ofB (bA p.1 (bld p.2.2.1))]
  R p := ([.nilI], [ofB p.2.1, ofB (bA p.1 (bld (wrO p.2.2.1 [p.2.2.2])))])
  inj := by
    rintro ⟨vc, b, s, w⟩ ⟨vc', b', s', w'⟩ _ _ h1 h
    simp only [List.cons.injEq, true_and, and_true, AV.int.injEq] at h h1
    obtain ⟨rfl, rfl⟩ := bA_inj h.2
    obtain rfl : w = w' := UInt8.toNat_inj.1 (by omega)
    simp only [h.1]
  ok p h := by
    have := okL [con96_2] (spec48_2 p.1 h.1 p.2.1 h.2.1 p.2.2.1 p.2.2.2 h.2.2 _ (callL_here con96_2 [] (p.1, p.2.1, p.2.2.1) trivial))
    rw [wrO_some (by simp)] at this
    exact this
abbrev DomZ (p : List AV × BS × List (List Item)) : Prop := KillS p.1 ∧ DomT p.2.2 ∧ (bldT p.2.1).length + (textP true p.2.2).length < 1000000
def con49 : Con where
  f := 49
  α := List AV × BS × List (List Item)
  dom := DomZ
  A p := [.box 1 7900003 0, .sl (p.2.2.map encC)]
  B p := [ofB (bA p.1 (bld p.2.1))]
  R p := ([], [ofB (bA p.1 (bld (wrO p.2.1 (textP true p.2.2))))])
  inj := by
    rintro ⟨vc, s, w⟩ ⟨vc', s', w'⟩ _ _ h1 h
    simp only [List.cons.injEq, true_and, and_true, AV.sl.injEq] at h h1
    obtain ⟨rfl, rfl⟩ := bA_inj h
    obtain rfl : w = w' := map_inj encC_inj h1
    rfl
  ok p h := okL [con47, con46_2, con48_2] (spec49 p.1 h.1 p.2.2 p.2.1 h.2.1.1.1 (fun c hc => ⟨h.2.1.1.2 c hc, h.2.1.2.1 c hc⟩) h.2.2 _ (fun n hn => here0 (dom := NumD) n hn)
    (fun b2 hb s w hw hl => callL_skip (by decide) (callL_here con46_2 _ (p.1, b2, s, w) ⟨h.1, hb, hw, hl⟩))
    (fun b2 hb s c hl => callL_skip (by decide) (callL_skip (by decide) (callL_here con48_2 _ (p.1, b2, s, c) ⟨h.1, hb, hl⟩))))

/-! String. -/
def bX (o : Option (List AV)) (cs : List AV) : BL := match o with
  | none => [(7900003, some cs)]
  | some vc => bA vc cs
abbrev DomS (p : Option (List AV) × List UInt8) : Prop := (∀ vc, p.1 = some vc → KillS vc) ∧ p.2 ≠ []
def con50 : Con where
  f := 50
  α := Option (List AV) × List UInt8
  dom := DomS
  A _ := [.box 1 7900003 0]
  B p := [ofB (bX p.1 (bld (some p.2)))]
  R p := ([.str (toB p.2)], [ofB (bX p.1 [.box 0 7900003 0, .any])])
  inj := by
    rintro ⟨o, l⟩ ⟨o', l'⟩ _ _ _ h
    simp only [List.cons.injEq, and_true] at h
    have h1 := congrFun h 2500001
    have h2 := congrFun h 7900003
    cases o <;> cases o' <;> simp [bX, bA, ofB] at h1 h2
    · have := bld_inj h2
      cases this
      rfl
    · have := bld_inj h2
      cases this
      rw [h1]
  ok := by
    rintro ⟨o, l⟩ ⟨h1, h2⟩
    cases o with
    | none =>
      have := ok50 [ofB [(7900003, some (bld (some l)))]] 0 7900003 15800006003 l rfl (by decide) h2
      simp only [killR, kb_of] at this
      have e : killB 15800006003 [(7900003, some (bld (some l)))] = [(7900003, some [.box 0 7900003 0, .any])] := by simp [killB, bld, killV]
      rw [e] at this
      exact this
    | some vc =>
      have := ok50 [ofB (bA vc (bld (some l)))] 0 7900003 15800006003 l rfl (by decide) h2
      simp only [killR, kb_of] at this
      have e : killB 15800006003 (bA vc (bld (some l))) = bA vc [.box 0 7900003 0, .any] := by
        have := h1 vc rfl 15800006003
        simp [killB, bA, bld, killV, this]
      rw [e] at this
      exact this
theorem killS_vc (e : Int) (ps : List (List Item)) {q : AV} (hq : Plain q) : KillS [.int .i64 e, .sl (ps.map encC), q] := by
  intro t
  have := hq.kill t
  simp only [List.map_cons, List.map_nil, this]
  rfl
theorem ok12 (v : Ver) (h : Fit v) : CallOK E 12 [encV v] [] [.str (toB (textV v))] [] :=
  okL [con47, con46_1, con48_1, con49, con50] (spec12 v.1 v.2.1 v.2.2 h.ne h.neq h.e0 h.e1 h.text _
    (fun n hn => here0 (dom := NumD) n hn)
    (fun q s w hq hw hl => callL_skip (by decide) (callL_here con46_1 _ (_, s, w) ⟨killS_vc _ _ hq, hw, hl⟩))
    (fun q s c hq hl => callL_skip (by decide) (callL_skip (by decide) (callL_here con48_1 _ (_, s, c) ⟨killS_vc _ _ hq, hl⟩)))
    (fun q s xs hq hx hl => callL_skip (by decide) (callL_skip (by decide) (callL_skip (by decide) (callL_here con49 _ (_, s, xs) ⟨killS_vc _ _ hq, h.domT hx, hl⟩))))
    (fun q l hq hl => callL_skip (by decide) (callL_skip (by decide) (callL_skip (by decide) (callL_skip (by decide) (callL_here con50 _ (some _, l) ⟨fun vc hv => by cases hv; exact killS_vc _ _ hq, hl⟩)))))
    (fun l hl => callL_skip (by decide) (callL_skip (by decide) (callL_skip (by decide) (callL_skip (by decide) (callL_here con50 _ (none, l) ⟨fun vc hv => (by cases hv), hl⟩))))))
def con12 : Con := con0 12 Fit (fun v => [encV v]) (fun v => [.str (toB (textV v))]) (by intro a a' _ _ h; simp only [List.cons.injEq, and_true] at h; rw [encV_inj h]) ok12
end Go.Proofs.YtllilhgdnepipaaGreatDoor

/-
  The versions that the law's first look compares, and the law VersionParses as a contract.
-/
namespace Go.Proofs.YtllilhgdnepipaaGreatDoor
open Go Go.Avm
set_option linter.unusedSimpArgs false
set_option linter.unusedVariables false

def num (n : Int) : Item := (n, ⟨#[]⟩)
def wrd (l : List UInt8) : Item := (0, toB l)
def V1 : List (List Item) := [[num 1], [num 0, wrd [100, 101, 118]]]
def V2 : List (List Item) := [[num 1], [num 0, wrd [97], num 1]]
def V3 : List (List Item) := [[num 1], [num 0]]
def V4 : List (List Item) := [[num 1], [num 0, wrd [112, 111, 115, 116]]]
def V5 : List (List Item) := [[num 1], [num 1]]
def V6 : List (List Item) := [[num 1], [num 10], [num 3]]
theorem big0 : ¬ big < 0 := by decide
theorem big1 : ¬ big < 1 := by decide
theorem big3 : ¬ big < 3 := by decide
theorem big10 : ¬ big < 10 := by decide
theorem parse1 : parseV [49, 46, 48, 100, 101, 118] = some (0, V1, []) := by
  simp [parseV, parseL, parseR, cutAt, lowL, lowC, comps, compo, items_cons, items_nil, isSep, isLet, dig, runP, smallD, runD, numD, V1, num, wrd, toB, big0, big1, big3, big10]
theorem parse2 : parseV [49, 46, 48, 97, 49] = some (0, V2, []) := by
  simp [parseV, parseL, parseR, cutAt, lowL, lowC, comps, compo, items_cons, items_nil, isSep, isLet, dig, runP, smallD, runD, numD, V2, num, wrd, toB, big0, big1, big3, big10]
theorem parse3 : parseV [49, 46, 48] = some (0, V3, []) := by
  simp [parseV, parseL, parseR, cutAt, lowL, lowC, comps, compo, items_cons, items_nil, isSep, isLet, dig, runP, smallD, runD, numD, V3, num, wrd, toB, big0, big1, big3, big10]
theorem parse4 : parseV [49, 46, 48, 112, 111, 115, 116] = some (0, V4, []) := by
  simp [parseV, parseL, parseR, cutAt, lowL, lowC, comps, compo, items_cons, items_nil, isSep, isLet, dig, runP, smallD, runD, numD, V4, num, wrd, toB, big0, big1, big3, big10]
theorem parse5 : parseV [49, 46, 49] = some (0, V5, []) := by
  simp [parseV, parseL, parseR, cutAt, lowL, lowC, comps, compo, items_cons, items_nil, isSep, isLet, dig, runP, smallD, runD, numD, V5, num, wrd, toB, big0, big1, big3, big10]
theorem parse6 : parseV [49, 46, 49, 48, 46, 51] = some (0, V6, []) := by
  simp [parseV, parseL, parseR, cutAt, lowL, lowC, comps, compo, items_cons, items_nil, isSep, isLet, dig, runP, smallD, runD, numD, V6, num, wrd, toB, big0, big1, big3, big10]
theorem cmpC_eq (xs ys : List Item) : cmpC xs ys = firstFrom (fun i => cmpI (atI xs i) (atI ys i)) (max xs.length ys.length) 0 := rfl
theorem cmp12 : cmpV (0, V1, []) (0, V2, []) = -1 := by simp only [cmpV, cmpP, cmpC_eq, cmpI, cmpT, classD, Lib.toList_data]; decide
theorem cmp23 : cmpV (0, V2, []) (0, V3, []) = -1 := by simp only [cmpV, cmpP, cmpC_eq, cmpI, cmpT, classD, Lib.toList_data]; decide
theorem cmp34 : cmpV (0, V3, []) (0, V4, []) = -1 := by simp only [cmpV, cmpP, cmpC_eq, cmpI, cmpT, classD, Lib.toList_data]; decide
theorem cmp45 : cmpV (0, V4, []) (0, V5, []) = -1 := by simp only [cmpV, cmpP, cmpC_eq, cmpI, cmpT, classD, Lib.toList_data]; decide
theorem cmp21 : cmpV (0, V2, []) (0, V1, []) = 1 := by simp only [cmpV, cmpP, cmpC_eq, cmpI, cmpT, classD, Lib.toList_data]; decide
theorem cmp32 : cmpV (0, V3, []) (0, V2, []) = 1 := by simp only [cmpV, cmpP, cmpC_eq, cmpI, cmpT, classD, Lib.toList_data]; decide
theorem cmp43 : cmpV (0, V4, []) (0, V3, []) = 1 := by simp only [cmpV, cmpP, cmpC_eq, cmpI, cmpT, classD, Lib.toList_data]; decide
theorem cmp54 : cmpV (0, V5, []) (0, V4, []) = 1 := by simp only [cmpV, cmpP, cmpC_eq, cmpI, cmpT, classD, Lib.toList_data]; decide
theorem shortV (p : List (List Item)) (h : p.length < 1000000 ∧ (p.all fun x => decide (x.length < 1000000)) = true) : ShortV (0, p, []) :=
  ⟨⟨h.1, fun x hx => by have := List.all_eq_true.1 h.2 x hx; simpa using this⟩, Nat.zero_lt_succ _, fun x hx => by cases hx⟩
theorem sh1 : ShortV (0, V1, []) := shortV _ (by decide)
theorem sh2 : ShortV (0, V2, []) := shortV _ (by decide)
theorem sh3 : ShortV (0, V3, []) := shortV _ (by decide)
theorem sh4 : ShortV (0, V4, []) := shortV _ (by decide)
theorem sh5 : ShortV (0, V5, []) := shortV _ (by decide)
theorem sh6 : ShortV (0, V6, []) := shortV _ (by decide)
abbrev Dom33 (p : Ver × Ver) : Prop := ShortV p.1 ∧ ShortV p.2
theorem here33 (cs : List Con) {p q : List (List Item)} {n : Int} (hp : ShortV (0, p, [])) (hq : ShortV (0, q, [])) (h : cmpV (0, p, []) (0, q, []) = n) :
    callL (con33 :: cs) 33 [.agg [.int .i64 0, .sl (p.map encC), .nilS], .agg [.int .i64 0, .sl (q.map encC), .nilS]] [] = some ([.int .i64 n], []) := by
  rw [← h]
  exact here0 (dom := Dom33) ((0, p, []), (0, q, [])) ⟨hp, hq⟩
def encV0 (p : List (List Item)) : AV := .agg [.int .i64 0, .sl (p.map encC), .nilS]
theorem ok35 : CallOK E 35 [.sl [encV0 V1, encV0 V2, encV0 V3, encV0 V4, encV0 V5]] [] [.int .i64 4] [] :=
  okL [con33] (spec35 _ _ _ _ _ _ (here33 _ sh2 sh1 cmp21) (here33 _ sh3 sh2 cmp32) (here33 _ sh4 sh3 cmp43) (here33 _ sh5 sh4 cmp54))
def con35 : Con := con0 35 (fun _ : Unit => True) (fun _ => [.sl [encV0 V1, encV0 V2, encV0 V3, encV0 V4, encV0 V5]]) (fun _ => [.int .i64 4]) (fun _ _ _ _ _ => rfl) (fun _ _ => ok35)
theorem c82 : cmpC [num 1] [num 1] = 0 := by simp only [cmpC_eq, cmpI, cmpT, classD, Lib.toList_data]; decide
theorem c84 : cmpI (num 10) (num 1) = 1 := by simp only [cmpI, cmpT, classD, Lib.toList_data]; decide
theorem here82 (cs : List Con) {p q : List Item} {n : Int} (hp : p.length < 1000000) (hq : q.length < 1000000) (h : cmpC p q = n) : callL (con82 :: cs) 82 [encC p, encC q] [] = some ([.int .i64 n], []) := by
  rw [← h]
  exact here0 (dom := DomL) (encC p, encC q, p, q) ⟨.inl rfl, .inl rfl, hp, hq⟩
theorem here84 (cs : List Con) {p q : Item} {n : Int} (h : cmpI p q = n) : callL (con84 :: cs) 84 [encI p, encI q] [] = some ([.int .i64 n], []) := by
  rw [← h]
  exact here0 (dom := fun _ : Item × Item => True) (p, q) trivial
theorem ok34 : CallOK E 34 [encV0 V6, encV0 V5] [] [.bool false] [] :=
  okL [con83, con82, con85, con84] (spec34 [encI (num 1)] [encI (num 10)] [encI (num 3)] [encI (num 1)] [] .any 10 1 ⟨#[]⟩ ⟨#[]⟩ _
    (here0 (dom := fun p : AV × List (List Item) × Int => IsP p.1 p.2.1 ∧ 0 ≤ p.2.2) (.sl (V6.map encC), V6, 0) ⟨.inl rfl, by decide⟩)
    (here0 (dom := fun p : AV × List (List Item) × Int => IsP p.1 p.2.1 ∧ 0 ≤ p.2.2) (.sl (V6.map encC), V6, 1) ⟨.inl rfl, by decide⟩)
    (callL_skip (by decide) (here82 _ (p := [num 1]) (q := [num 1]) (by decide) (by decide) c82))
    (callL_skip (by decide) (callL_skip (by decide) (here0 (dom := fun p : AV × List Item × Int => IsL p.1 p.2.1 ∧ 0 ≤ p.2.2) (encC [num 10], [num 10], 0) ⟨.inl rfl, by decide⟩)))
    (callL_skip (by decide) (callL_skip (by decide) (callL_skip (by decide) (here84 _ (p := num 10) (q := num 1) c84)))))
def con34 : Con := con0 34 (fun _ : Unit => True) (fun _ => [encV0 V6, encV0 V5]) (fun _ => [.bool false]) (fun _ _ _ _ _ => rfl) (fun _ _ => ok34)
theorem here8 (cs : List Con) {l : List UInt8} {p : List (List Item)} (hl : Short l) (h : parseV l = some (0, p, [])) : callL (con8 :: cs) 8 [.str (toB l)] [] = some ([.agg [.int .i64 0, .sl (p.map encC), .nilS], .nilI], []) := by
  have := here0 (cs := cs) (f := 8) (dom := Short) (A := fun l => [.str (toB l)]) (R := fun l => parseA (parseV l)) (inj := by intro a a' _ _ h; simp at h; rw [toB_inj h]) (ok := ok8) l hl
  rw [h] at this
  exact this
theorem ok7 : CallOK E 7 [] [] [.bool true] [] :=
  okL [con8, con33, con34, con35] (spec7 (V1.map encC) (V2.map encC) (V3.map encC) (V4.map encC) (V5.map encC) (V6.map encC) _
    (here8 _ (by decide) parse1) (here8 _ (by decide) parse2) (here8 _ (by decide) parse3) (here8 _ (by decide) parse4) (here8 _ (by decide) parse5) (here8 _ (by decide) parse6)
    (callL_skip (by decide) (here33 _ sh1 sh2 cmp12)) (callL_skip (by decide) (here33 _ sh2 sh3 cmp23)) (callL_skip (by decide) (here33 _ sh3 sh4 cmp34)) (callL_skip (by decide) (here33 _ sh4 sh5 cmp45))
    (callL_skip (by decide) (callL_skip (by decide) (here0 (dom := fun _ : Unit => True) () trivial)))
    (callL_skip (by decide) (callL_skip (by decide) (callL_skip (by decide) (here0 (dom := fun _ : Unit => True) () trivial)))))
def con7 : Con := con0 7 (fun _ : Unit => True) (fun _ => []) (fun _ => [.bool true]) (fun _ _ _ _ _ => rfl) (fun _ _ => ok7)
def con45 : Con := con0 45 (fun p : Nat × Nat => p.1 < 13 ∧ p.2 < 13) (fun p => [.err p.1, .err p.2]) (fun p => [.bool (decide (p.1 = p.2))]) (by rintro ⟨a, b⟩ ⟨c, d⟩ _ _ h; simp at h; simp only [h.1, h.2]) (fun p h => ok45 p.1 p.2 h.1 h.2)
theorem ok11 : CallOK E 11 [.err 0] [] [.int .i64 8] [] := okL [con45] (spec11 _ (fun a b ha hb => here0 (dom := fun p : Nat × Nat => p.1 < 13 ∧ p.2 < 13) (a, b) ⟨ha, hb⟩))
def con11 : Con := con0 11 (fun _ : Unit => True) (fun _ => [.err 0]) (fun _ => [.int .i64 8]) (fun _ _ _ _ _ => rfl) (fun _ _ => ok11)
/-- Same of the same, and of no version. -/
def con10s : Con := con0 10 (fun o : Option Ver => ∀ v, o = some v → ShortV v) (fun o => match o with | none => [zeroV, zeroV] | some v => [encV v, encV v]) (fun _ => [.bool true]) (fun _ _ _ _ _ => rfl) (fun o h => by
  cases o with
  | none => exact ok10z
  | some v =>
    have := ok10 v v (h v rfl) (h v rfl)
    rw [decide_eq_true rfl] at this
    exact this)
theorem here13 (cs : List Con) {v : Ver} (h : Fit v) (hr : rightV v = true) : callL (con13 :: cs) 13 [encV v] [] = some ([.bool true], []) := by
  rw [← hr]
  exact here0 (dom := Fit) v h
/-- The law: true of every text. -/
theorem ok3 (L : List UInt8) : CallOK E 3 [.str (toB L)] [] [.bool true] [] :=
  okL [con7, con8, con9, con10s, con11, con12, con13, con14] (spec3 L _
    (here0 (dom := fun _ : Unit => True) () trivial)
    (fun l hl => callL_skip (by decide) (here0 (dom := Short) l hl))
    (fun l hl => callL_skip (by decide) (callL_skip (by decide) (here0 (dom := Short) l hl)))
    (callL_skip (by decide) (callL_skip (by decide) (callL_skip (by decide) (here0 (dom := fun o : Option Ver => ∀ v, o = some v → ShortV v) none (fun v hv => by cases hv)))))
    (fun v hr ht => callL_skip (by decide) (callL_skip (by decide) (callL_skip (by decide) (here0 (dom := fun o : Option Ver => ∀ v, o = some v → ShortV v) (some v) (fun w hw => by cases hw; exact (right_fit hr ht).short)))))
    (callL_skip (by decide) (callL_skip (by decide) (callL_skip (by decide) (callL_skip (by decide) (here0 (dom := fun _ : Unit => True) () trivial)))))
    (fun v hr ht => callL_skip (by decide) (callL_skip (by decide) (callL_skip (by decide) (callL_skip (by decide) (callL_skip (by decide) (here0 (dom := Fit) v (right_fit hr ht)))))))
    (fun v hr ht => callL_skip (by decide) (callL_skip (by decide) (callL_skip (by decide) (callL_skip (by decide) (callL_skip (by decide) (callL_skip (by decide) (here13 _ (right_fit hr ht) hr)))))))
    (fun v hr ht => callL_skip (by decide) (callL_skip (by decide) (callL_skip (by decide) (callL_skip (by decide) (callL_skip (by decide) (callL_skip (by decide) (callL_skip (by decide) (here0 (dom := Fit) v (right_fit hr ht))))))))))
end Go.Proofs.YtllilhgdnepipaaGreatDoor
