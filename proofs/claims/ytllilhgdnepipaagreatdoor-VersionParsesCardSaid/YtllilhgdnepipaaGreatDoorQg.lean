-- Merged by a small program of this claim's maker out of 4 texts.
import Derived.Test.YtllilhgdnepipaaGreatDoorQf

/-
  The grammar of versions and their texts in plain words, and that a version that a text has is right, its text no longer than forty bytes, and that text read as it. For every text.
-/
namespace Go.Proofs.YtllilhgdnepipaaGreatDoor
open Go Go.Avm
set_option linter.unusedSimpArgs false

/-! The document's grammar of versions, in plain words. -/
def isLet (c : UInt8) : Bool := decide (97 ≤ (c.toNat : Int)) && decide ((c.toNat : Int) ≤ 122)
def isSep (c : UInt8) : Bool := decide (c.toNat = 46) || decide (c.toNat = 95) || decide (c.toNat = 45)
/-- How many bytes of a sort a text begins with. -/
def runP (p : UInt8 → Bool) : List UInt8 → Nat
  | [] => 0
  | c :: l => if p c then runP p l + 1 else 0
theorem runP_le (p : UInt8 → Bool) : ∀ l, runP p l ≤ l.length
  | [] => Nat.le_refl _
  | c :: l => by
    simp only [runP]
    split
    · have := runP_le p l; simp; omega
    · simp
theorem runD_runP : ∀ l, runD l = runP dig l
  | [] => rfl
  | c :: l => by simp only [runD, runP, runD_runP l]
def toB (l : List UInt8) : ByteArray := ⟨⟨l⟩⟩
abbrev big : Int := 9223372036854775807

/-- The items of a component's rest. -/
def items : List UInt8 → Option (List Item)
  | [] => some []
  | c :: l =>
    if isLet c then (items (l.drop (runP isLet l))).map fun r => (0, toB (c :: l.take (runP isLet l))) :: r
    else if dig c then
      if (smallD (c :: l.take (runP dig l)) big).2 then (items (l.drop (runP dig l))).map fun r => ((smallD (c :: l.take (runP dig l)) big).1, toB []) :: r else none
    else none
termination_by l => l.length
decreasing_by all_goals (simp; omega)

/-- A component. -/
def compo : List UInt8 → Option (List Item)
  | [] => none
  | c :: l => if isLet c then (items (c :: l)).map fun r => (0, toB []) :: r else items (c :: l)

/-- Components, one begun. -/
def comps : List UInt8 → List UInt8 → Option (List (List Item))
  | cur, [] => (compo cur).map fun c => [c]
  | cur, c :: l => if isSep c then (compo cur).bind fun x => (comps [] l).map fun r => x :: r else comps (cur ++ [c]) l

def lowC (c : UInt8) : UInt8 := if 65 ≤ c.toNat ∧ c.toNat ≤ 90 then c + 32 else c
def lowL (l : List UInt8) : List UInt8 := l.map lowC

/-- Cut at the first of a byte. -/
def cutAt (c : Int) : List UInt8 → Option (List UInt8 × List UInt8)
  | [] => none
  | x :: l => if (x.toNat : Int) = c then some ([], l) else (cutAt c l).map fun p => (x :: p.1, p.2)

abbrev Ver := Int × List (List Item) × List (List Item)
def parseR (e : Int) (l : List UInt8) : Option Ver :=
  match cutAt 43 l with
  | none => (comps [] l).map fun p => (e, p, [])
  | some (a, r) => (comps [] a).bind fun p => (comps [] r).map fun q => (e, p, q)
def parseL (l : List UInt8) : Option Ver :=
  match cutAt 33 l with
  | none => parseR 0 l
  | some (a, r) => if (smallD a big).2 then parseR (smallD a big).1 r else none
def parseV (l : List UInt8) : Option Ver := if 40 < l.length then none else parseL (lowL l)

/-! Texts. -/
/-- A number's digits. -/
def numT (n : Nat) : List UInt8 := if n < 10 then [UInt8.ofNat (48 + n)] else numT (n / 10) ++ [UInt8.ofNat (48 + n % 10)]
termination_by n
decreasing_by omega

def textI (one : Bool) (first : Bool) (x : Item) : List UInt8 :=
  if x.2.data.toList = [] then (if ¬ first = true ∨ x.1 ≠ 0 ∨ one = true then numT x.1.toNat else []) else x.2.data.toList
def textIs (one : Bool) : Bool → List Item → List UInt8
  | _, [] => []
  | first, x :: r => textI one first x ++ textIs one false r
def textC (c : List Item) : List UInt8 := textIs (decide (c.length = 1)) true c
def textP : Bool → List (List Item) → List UInt8
  | _, [] => []
  | first, c :: r => (if first then [] else [46]) ++ textC c ++ textP false r
def textV (v : Ver) : List UInt8 :=
  (if v.1 ≠ 0 then numT v.1.toNat ++ [33] else []) ++ textP true v.2.1 ++ (if v.2.2 = [] then [] else 43 :: textP true v.2.2)

/-! Right versions. -/
def rightI : Bool → List Item → Bool
  | _, [] => true
  | true, x :: r => decide (x.2.data.toList = []) && decide (0 ≤ x.1) && decide (x.1 ≤ 999999999999999) && rightI false r
  | false, x :: r => !decide (x.2.data.toList = []) && decide (x.1 = 0) && x.2.data.toList.all isLet && rightI true r
def rightC (c : List Item) : Bool := !c.isEmpty && rightI true c
def rightV (v : Ver) : Bool := decide (0 ≤ v.1) && decide (v.1 ≤ 999999999999999) && !v.2.1.isEmpty && v.2.1.all rightC && v.2.2.all rightC
/-! Numbers. -/
theorem numT_small {n : Nat} (h : n < 10) : numT n = [UInt8.ofNat (48 + n)] := by rw [numT, if_pos h]
theorem numT_big {n : Nat} (h : ¬ n < 10) : numT n = numT (n / 10) ++ [UInt8.ofNat (48 + n % 10)] := by rw [numT, if_neg h]
theorem digit_nat {k : Nat} (h : k < 10) : (UInt8.ofNat (48 + k)).toNat = 48 + k := by
  rw [UInt8.toNat_ofNat']
  omega
theorem numT_ind {P : Nat → Prop} (h0 : ∀ n, n < 10 → P n) (h1 : ∀ n, ¬ n < 10 → P (n / 10) → P n) (n : Nat) : P n := by
  induction n using Nat.strongRecOn with
  | _ n ih =>
    by_cases h : n < 10
    · exact h0 n h
    · exact h1 n h (ih _ (by omega))
theorem numT_dig (n : Nat) : ∀ c ∈ numT n, dig c = true := by
  refine numT_ind (P := fun n => ∀ c ∈ numT n, dig c = true) (fun n h => ?_) (fun n h ih => ?_) n
  · rw [numT_small h]
    intro c hc
    simp only [List.mem_singleton] at hc
    subst hc
    simp [dig]; omega
  · rw [numT_big h]
    intro c hc
    rcases List.mem_append.1 hc with hc | hc
    · exact ih c hc
    · simp only [List.mem_singleton] at hc
      subst hc
      have hk : n % 10 < 10 := Nat.mod_lt _ (by omega)
      simp [dig]; omega
theorem numT_ne (n : Nat) : numT n ≠ [] := by
  by_cases h : n < 10
  · rw [numT_small h]; simp
  · rw [numT_big h]; simp
theorem numD_append : ∀ (l r : List UInt8) (n : Int), numD (l ++ r) n = numD r (numD l n)
  | [], r, n => rfl
  | c :: l, r, n => by simp only [List.cons_append, numD, numD_append l r]
theorem numD_numT (n : Nat) : numD (numT n) 0 = n := by
  refine numT_ind (P := fun n => numD (numT n) 0 = n) (fun n h => ?_) (fun n h ih => ?_) n
  · rw [numT_small h]
    simp only [numD, digit_nat h]; omega
  · rw [numT_big h, numD_append, ih]
    have hk : n % 10 < 10 := Nat.mod_lt _ (by omega)
    simp only [numD, digit_nat hk]; omega
theorem runP_all {p : UInt8 → Bool} : ∀ {l : List UInt8}, (∀ c ∈ l, p c = true) → runP p l = l.length
  | [], _ => rfl
  | c :: l, h => by
    simp only [runP, h c (by simp), if_true, List.length_cons, runP_all (fun x hx => h x (List.mem_cons_of_mem _ hx))]
theorem runP_append {p : UInt8 → Bool} : ∀ {l : List UInt8} (r : List UInt8), (∀ c ∈ l, p c = true) → (∀ c s, r = c :: s → p c = false) → runP p (l ++ r) = l.length
  | [], r, _, h2 => by
    cases r with
    | nil => rfl
    | cons c s => simp [runP, h2 c s rfl]
  | c :: l, r, h, h2 => by
    simp only [List.cons_append, runP, h c (by simp), if_true, List.length_cons, runP_append r (fun x hx => h x (List.mem_cons_of_mem _ hx)) h2]
theorem runP_take {p : UInt8 → Bool} : ∀ (l : List UInt8), ∀ c ∈ l.take (runP p l), p c = true
  | [], c, h => by simp [runP] at h
  | x :: l, c, h => by
    simp only [runP] at h
    split at h
    · rename_i hx
      rw [List.take_succ_cons] at h
      rcases List.mem_cons.1 h with rfl | h
      · exact hx
      · exact runP_take l c h
    · simp at h
theorem runP_drop {p : UInt8 → Bool} : ∀ (l : List UInt8) (c : UInt8) (s : List UInt8), l.drop (runP p l) = c :: s → p c = false
  | [], c, s, h => by simp [runP] at h
  | x :: l, c, s, h => by
    simp only [runP] at h
    split at h
    · rw [List.drop_succ_cons] at h
      exact runP_drop l c s h
    · rename_i hx
      simp only [List.drop_zero, List.cons.injEq] at h
      rw [← h.1]
      simpa using hx

/-- Digits' number: at least nought, below the power of ten. -/
theorem numD_lt : ∀ (l : List UInt8) (n : Int), (∀ c ∈ l, dig c = true) → 0 ≤ n → 0 ≤ numD l n ∧ numD l n < (n + 1) * 10 ^ l.length
  | [], n, _, h0 => by simp [numD]; omega
  | c :: l, n, h, h0 => by
    have hc := h c (by simp)
    simp only [dig, Bool.and_eq_true, decide_eq_true_eq] at hc
    obtain ⟨h1, h2⟩ := numD_lt l (n * 10 + ((c.toNat : Int) - 48)) (fun x hx => h x (List.mem_cons_of_mem _ hx)) (by omega)
    refine ⟨h1, Int.lt_of_lt_of_le h2 ?_⟩
    rw [List.length_cons, Int.pow_succ, Int.mul_comm (10 ^ l.length) 10, ← Int.mul_assoc]
    exact Int.mul_le_mul_of_nonneg_right (by omega) (Int.pow_nonneg (by omega))

theorem numT_len (n : Nat) : ∀ k, 0 < k → n < 10 ^ k → (numT n).length ≤ k := by
  refine numT_ind (P := fun n => ∀ k, 0 < k → n < 10 ^ k → (numT n).length ≤ k) (fun n h => ?_) (fun n h ih => ?_) n
  · intro k hk _
    rw [numT_small h]; simp; omega
  · intro k hk hn
    rw [numT_big h, List.length_append, List.length_singleton]
    match k, hk with
    | 1, _ => omega
    | k + 2, _ =>
      have : n < 10 ^ (k + 1) * 10 := by rw [← Nat.pow_succ]; exact hn
      have := ih (k + 1) (by omega) (by omega)
      omega

theorem small_of {l : List UInt8} (h : (smallD l big).2 = true) : l ≠ [] ∧ l.length ≤ 15 ∧ (∀ c ∈ l, dig c = true) ∧ (smallD l big).1 = numD l 0 ∧ 0 ≤ numD l 0 ∧ numD l 0 ≤ 999999999999999 ∧
    (numT (numD l 0).toNat).length ≤ l.length := by
  unfold smallD at h ⊢
  split at h
  · exact absurd h (by simp)
  · rename_i h1
    rw [if_neg h1]
    split at h
    · exact absurd h (by simp)
    · rename_i h2
      rw [if_neg h2]
      have hr : runP dig l = l.length := by rw [← runD_runP]; omega
      have hall : ∀ c ∈ l, dig c = true := by
        have := runP_take (p := dig) l
        rwa [hr, List.take_length] at this
      obtain ⟨b1, b2⟩ := numD_lt l 0 hall (by omega)
      have hp : (10 : Int) ^ l.length ≤ 10 ^ 15 := by
        have := Nat.pow_le_pow_right (n := 10) (by omega) (show l.length ≤ 15 by omega)
        have e1 : ((10 ^ l.length : Nat) : Int) = (10 : Int) ^ l.length := Int.natCast_pow 10 _
        have e2 : ((10 ^ 15 : Nat) : Int) = (10 : Int) ^ 15 := Int.natCast_pow 10 _
        rw [← e1, ← e2]
        omega
      have hp2 : (10 : Int) ^ 15 = 1000000000000000 := by decide
      refine ⟨by rintro rfl; simp at h1, by omega, hall, rfl, b1, by omega, ?_⟩
      refine numT_len _ _ (by omega) ?_
      have e1 : ((10 ^ l.length : Nat) : Int) = (10 : Int) ^ l.length := Int.natCast_pow 10 _
      have : ((numD l 0).toNat : Int) < ((10 ^ l.length : Nat) : Int) := by rw [e1]; omega
      omega
theorem small_numT {n : Int} (h0 : 0 ≤ n) (h1 : n ≤ 999999999999999) : smallD (numT n.toNat) big = (n, true) := by
  have hl : (numT n.toNat).length ≤ 15 := numT_len _ 15 (by omega) (by have : (10 : Nat) ^ 15 = 1000000000000000 := by decide
                                                                       omega)
  have hd := numD_numT n.toNat
  have hr : runD (numT n.toNat) = (numT n.toNat).length := by rw [runD_runP]; exact runP_all (numT_dig _)
  have hne : (numT n.toNat).length ≠ 0 := by
    intro h; exact numT_ne _ (List.eq_nil_of_length_eq_zero h)
  unfold smallD
  rw [if_neg (by omega), hd, if_neg (by unfold big; omega)]
  congr 1
  omega
/-! Items. -/
theorem items_nil : items [] = some [] := by rw [items]
theorem items_cons (c : UInt8) (l : List UInt8) : items (c :: l) =
    if isLet c then (items (l.drop (runP isLet l))).map fun r => (0, toB (c :: l.take (runP isLet l))) :: r
    else if dig c then
      if (smallD (c :: l.take (runP dig l)) big).2 then (items (l.drop (runP dig l))).map fun r => ((smallD (c :: l.take (runP dig l)) big).1, toB []) :: r else none
    else none := by rw [items]
theorem let_not_dig {c : UInt8} (h : isLet c = true) : dig c = false := by
  simp only [isLet, Bool.and_eq_true, decide_eq_true_eq] at h
  simp only [dig, Bool.and_eq_false_iff, decide_eq_false_iff_not]
  omega
theorem dig_not_let {c : UInt8} (h : dig c = true) : isLet c = false := by
  cases hc : isLet c with
  | false => rfl
  | true => rw [let_not_dig hc] at h; exact absurd h (by simp)

/-- An item's text. -/
def itemT (x : Item) : List UInt8 := if x.2.data.toList = [] then numT x.1.toNat else x.2.data.toList
def itemsT : List Item → List UInt8
  | [] => []
  | x :: r => itemT x ++ itemsT r

theorem itemT_word (n : Int) (c : UInt8) (l : List UInt8) : itemT (n, toB (c :: l)) = c :: l := by
  unfold itemT
  split
  · rename_i h; exact absurd h (by show ¬ (c :: l = []); simp)
  · rfl
theorem itemT_num (n : Int) : itemT (n, toB []) = numT n.toNat := by
  unfold itemT
  split
  · rfl
  · rename_i h; exact absurd rfl h

/-- What begins with a byte of a sort, if with any. -/
def Begins (p : UInt8 → Bool) (l : List UInt8) : Prop := ∀ c s, l = c :: s → p c = true

theorem toB_list (l : List UInt8) : (toB l).data.toList = l := rfl

/-- The items that a text has: right, by turns, and no longer. -/
theorem items_right : ∀ (n : Nat) (l : List UInt8) (r : List Item), l.length ≤ n → items l = some r →
    (Begins dig l → rightI true r = true) ∧ (Begins isLet l → rightI false r = true) ∧ (itemsT r).length ≤ l.length ∧ (l ≠ [] → r ≠ [])
  | n, [], r, _, h => by
    rw [items_nil] at h
    cases h
    exact ⟨fun _ => rfl, fun _ => rfl, by simp [itemsT], fun h => absurd rfl h⟩
  | n + 1, c :: l, r, hn, h => by
    rw [items_cons] at h
    split at h
    · rename_i hc
      simp only [Option.map_eq_some_iff] at h
      obtain ⟨r', hr', rfl⟩ := h
      have hle := runP_le isLet l
      obtain ⟨i1, i2, i3, _⟩ := items_right n _ r' (by simp at hn ⊢; omega) hr'
      have hw : (c :: l.take (runP isLet l)).all isLet = true := by
        rw [List.all_eq_true]
        intro x hx
        rcases List.mem_cons.1 hx with rfl | hx
        · exact hc
        · exact runP_take l x hx
      refine ⟨fun hb => ?_, fun _ => ?_, ?_, fun _ => by simp⟩
      · have := hb c l rfl
        rw [let_not_dig hc] at this
        exact absurd this (by simp)
      · have hnext : rightI true r' = true := by
          cases hd : l.drop (runP isLet l) with
          | nil =>
            rw [hd, items_nil] at hr'
            cases hr'; rfl
          | cons x s =>
            refine i1 fun c' s' he => ?_
            have hx : isLet c' = false := runP_drop l c' s' he
            rw [he, items_cons, hx] at hr'
            simp only [Bool.false_eq_true, if_false] at hr'
            split at hr'
            · assumption
            · exact absurd hr' (by simp)
        simp only [rightI, toB_list, hw, hnext]
        simp
      · simp only [itemsT, itemT_word]
        simp at i3 ⊢
        omega
    · split at h
      · rename_i hnl hc
        split at h
        · rename_i hs
          simp only [Option.map_eq_some_iff] at h
          obtain ⟨r', hr', rfl⟩ := h
          have hle := runP_le dig l
          obtain ⟨i1, i2, i3, _⟩ := items_right n _ r' (by simp at hn ⊢; omega) hr'
          obtain ⟨_, _, _, s4, s5, s6, s7⟩ := small_of hs
          refine ⟨fun _ => ?_, fun hb => ?_, ?_, fun _ => by simp⟩
          · have hnext : rightI false r' = true := by
              cases hd : l.drop (runP dig l) with
              | nil =>
                rw [hd, items_nil] at hr'
                cases hr'; rfl
              | cons x s =>
                refine i2 fun c' s' he => ?_
                have hx : dig c' = false := runP_drop l c' s' he
                rw [he, items_cons, hx] at hr'
                simp only [Bool.false_eq_true, if_false] at hr'
                split at hr'
                · assumption
                · exact absurd hr' (by simp)
            simp only [rightI, toB_list, hnext, s4]
            simp [s5, s6]
          · have := hb c l rfl
            exact absurd this (by simpa using hnl)
          · simp only [itemsT, itemT_num, s4]
            simp at i3 s7 ⊢
            omega
        · exact absurd h (by simp)
      · exact absurd h (by simp)

theorem toB_inv (b : ByteArray) : toB b.data.toList = b := rfl

/-- The text of right items is read as they. -/
theorem items_text : ∀ (r : List Item), (rightI true r = true → items (itemsT r) = some r ∧ Begins dig (itemsT r)) ∧ (rightI false r = true → items (itemsT r) = some r ∧ Begins isLet (itemsT r))
  | [] => ⟨fun _ => ⟨items_nil, fun c s h => by simp [itemsT] at h⟩, fun _ => ⟨items_nil, fun c s h => by simp [itemsT] at h⟩⟩
  | (n, w) :: r => by
    obtain ⟨ih1, ih2⟩ := items_text r
    constructor
    · intro h
      simp only [rightI, Bool.and_eq_true, decide_eq_true_eq] at h
      obtain ⟨⟨⟨hw, h0⟩, h1⟩, hr⟩ := h
      obtain ⟨j1, j2⟩ := ih2 hr
      have hT : itemsT ((n, w) :: r) = numT n.toNat ++ itemsT r := by simp only [itemsT, itemT, hw, if_true]
      rw [hT]
      have hwe : w = toB [] := by rw [← toB_inv w, hw]
      have hd := numT_dig n.toNat
      cases hnt : numT n.toNat with
      | nil => exact absurd hnt (numT_ne _)
      | cons c l =>
        rw [hnt] at hd
        have hc := hd c (by simp)
        refine ⟨?_, fun c' s' he => by simp only [List.cons_append, List.cons.injEq] at he; rw [← he.1]; exact hc⟩
        rw [List.cons_append, items_cons, dig_not_let hc, hc]
        have hrun : runP dig (l ++ itemsT r) = l.length := runP_append _ (fun x hx => hd x (List.mem_cons_of_mem _ hx)) (fun c' s' he => let_not_dig (j2 c' s' he))
        have hs := small_numT h0 h1
        rw [hnt] at hs
        simp only [Bool.false_eq_true, if_false, if_true, hrun, List.take_left', List.drop_left', hs, j1, Option.map_some, hwe]
    · intro h
      simp only [rightI, Bool.and_eq_true, decide_eq_true_eq, Bool.not_eq_true', decide_eq_false_iff_not] at h
      obtain ⟨⟨⟨hw, h0⟩, h1⟩, hr⟩ := h
      obtain ⟨j1, j2⟩ := ih1 hr
      have hT : itemsT ((n, w) :: r) = w.data.toList ++ itemsT r := by simp only [itemsT, itemT, hw, if_false]
      rw [hT]
      rw [List.all_eq_true] at h1
      cases hnt : w.data.toList with
      | nil => exact absurd hnt hw
      | cons c l =>
        rw [hnt] at h1
        have hc := h1 c (by simp)
        refine ⟨?_, fun c' s' he => by simp only [List.cons_append, List.cons.injEq] at he; rw [← he.1]; exact hc⟩
        rw [List.cons_append, items_cons, hc]
        have hrun : runP isLet (l ++ itemsT r) = l.length := runP_append _ (fun x hx => h1 x (List.mem_cons_of_mem _ hx)) (fun c' s' he => dig_not_let (j2 c' s' he))
        have hwe : toB (c :: l) = w := by rw [← hnt, toB_inv]
        simp only [if_true, hrun, List.take_left', List.drop_left', j1, Option.map_some, hwe, h0]
/-! Components. -/
theorem textIs_false (one : Bool) : ∀ r : List Item, textIs one false r = itemsT r
  | [] => rfl
  | x :: r => by
    simp only [textIs, itemsT, textIs_false one r, textI, itemT]
    simp
theorem textC_cons (x : Item) (r : List Item) : textC (x :: r) = textI (decide (r = [])) true x ++ itemsT r := by
  have e : decide ((x :: r).length = 1) = decide (r = []) := by cases r <;> simp
  simp only [textC, textIs, textIs_false, e]
theorem toB_nil : toB [] = ⟨#[]⟩ := rfl
theorem compo_right {l : List UInt8} {c : List Item} (h : compo l = some c) : rightC c = true ∧ (textC c).length ≤ l.length := by
  cases l with
  | nil => simp [compo] at h
  | cons x l =>
    simp only [compo] at h
    split at h
    · rename_i hx
      simp only [Option.map_eq_some_iff] at h
      obtain ⟨r, hr, rfl⟩ := h
      obtain ⟨_, h2, h3, h4⟩ := items_right _ _ r (Nat.le_refl _) hr
      have hrne := h4 (by simp)
      have hri := h2 (fun c s he => by simp only [List.cons.injEq] at he; rw [← he.1]; exact hx)
      constructor
      · simp only [rightC, rightI, toB_list, hri]
        simp
      · rw [textC_cons]
        simp only [textI, toB_list, hrne]
        simpa using h3
    · rename_i hx
      obtain ⟨h1, _, h3, h4⟩ := items_right _ _ c (Nat.le_refl _) h
      have hcne := h4 (by simp)
      have hd : Begins dig (x :: l) := by
        intro c' s he
        simp only [List.cons.injEq] at he
        rw [← he.1]
        rw [items_cons] at h
        simp only [hx] at h
        split at h
        · rename_i hh; exact absurd hh (by simp)
        · split at h
          · assumption
          · exact absurd h (by simp)
      have hri := h1 hd
      cases c with
      | nil => exact absurd rfl hcne
      | cons y r =>
        refine ⟨by simp only [rightC, hri]; simp, ?_⟩
        rw [textC_cons]
        simp only [itemsT, List.length_append] at h3 ⊢
        have : (textI (decide (r = [])) true y).length ≤ (itemT y).length := by
          simp only [textI, itemT]
          split
          · split <;> simp
          · exact Nat.le_refl _
        omega
theorem compo_text {c : List Item} (h : rightC c = true) : compo (textC c) = some c ∧ ∀ x ∈ textC c, dig x = true ∨ isLet x = true := by
  simp only [rightC, Bool.and_eq_true, Bool.not_eq_true', List.isEmpty_eq_false_iff] at h
  obtain ⟨hne, h⟩ := h
  have hbytes : ∀ (r : List Item) (b : Bool), rightI b r = true → ∀ x ∈ itemsT r, dig x = true ∨ isLet x = true := by
    intro r
    induction r with
    | nil => intro b _ x hx; simp [itemsT] at hx
    | cons y r ih =>
      intro b hb x hx
      simp only [itemsT, List.mem_append] at hx
      cases b with
      | true =>
        simp only [rightI, Bool.and_eq_true, decide_eq_true_eq] at hb
        rcases hx with hx | hx
        · simp only [itemT, hb.1.1.1, if_true] at hx
          exact .inl (numT_dig _ x hx)
        · exact ih _ hb.2 x hx
      | false =>
        simp only [rightI, Bool.and_eq_true, decide_eq_true_eq, Bool.not_eq_true', decide_eq_false_iff_not] at hb
        rcases hx with hx | hx
        · simp only [itemT, hb.1.1.1, if_false] at hx
          exact .inr (List.all_eq_true.1 hb.1.2 x hx)
        · exact ih _ hb.2 x hx
  cases c with
  | nil => exact absurd rfl hne
  | cons y r =>
    have h0 := h
    simp only [rightI, Bool.and_eq_true, decide_eq_true_eq] at h
    obtain ⟨⟨⟨hw, g0⟩, g1⟩, hr⟩ := h
    rw [textC_cons]
    by_cases hp : y.1 ≠ 0 ∨ r = []
    · have e : textI (decide (r = [])) true y ++ itemsT r = itemsT (y :: r) := by
        simp only [textI, itemsT, itemT, hw, if_true]
        rw [if_pos (by rcases hp with hp | hp <;> simp [hp])]
      rw [e]
      obtain ⟨j1, j2⟩ := (items_text (y :: r)).1 h0
      refine ⟨?_, hbytes (y :: r) true h0⟩
      cases ht : itemsT (y :: r) with
      | nil =>
        have e2 : itemsT (y :: r) = numT y.1.toNat ++ itemsT r := by simp only [itemsT, itemT, hw, if_true]
        rw [e2] at ht
        exact absurd (List.append_eq_nil_iff.1 ht).1 (numT_ne _)
      | cons x s =>
        rw [ht] at j1 j2
        simp only [compo, dig_not_let (j2 x s rfl)]
        exact j1
    · have hy : y.1 = 0 := Classical.byContradiction fun h => hp (.inl h)
      have hrne : r ≠ [] := fun h => hp (.inr h)
      have e : textI (decide (r = [])) true y ++ itemsT r = itemsT r := by
        simp only [textI, hw, if_true]
        rw [if_neg (by simp [hy, hrne])]
        rfl
      rw [e]
      obtain ⟨j1, j2⟩ := (items_text r).2 hr
      refine ⟨?_, hbytes r false hr⟩
      cases ht : itemsT r with
      | nil =>
        rw [ht, items_nil] at j1
        cases j1
        exact absurd rfl hrne
      | cons x s =>
        rw [ht] at j1 j2
        have hx := j2 x s rfl
        simp only [compo, hx, if_true, j1, Option.map_some]
        congr 2
        obtain ⟨n, w⟩ := y
        simp only at hy hw
        rw [hy, ← toB_inv w, hw]

theorem sep_not {x : UInt8} (h : dig x = true ∨ isLet x = true) : isSep x = false := by
  simp only [dig, isLet, Bool.and_eq_true, decide_eq_true_eq] at h
  simp only [isSep, Bool.or_eq_false_iff, decide_eq_false_iff_not]
  omega
theorem comps_run : ∀ (t cur rest : List UInt8), (∀ x ∈ t, isSep x = false) → comps cur (t ++ rest) = comps (cur ++ t) rest
  | [], cur, rest, _ => by simp
  | x :: t, cur, rest, h => by
    simp only [List.cons_append, comps, h x (by simp), Bool.false_eq_true, if_false]
    rw [comps_run t (cur ++ [x]) rest (fun y hy => h y (List.mem_cons_of_mem _ hy)), List.append_assoc]
    rfl
theorem comps_text : ∀ (ps : List (List Item)), ps ≠ [] → ps.all rightC = true → comps [] (textP true ps) = some ps
  | [], h, _ => absurd rfl h
  | c :: ps, _, h => by
    simp only [List.all_cons, Bool.and_eq_true] at h
    obtain ⟨h1, h2⟩ := h
    obtain ⟨j1, j2⟩ := compo_text h1
    simp only [textP, if_true, List.nil_append]
    rw [comps_run _ _ _ (fun x hx => sep_not (j2 x hx)), List.nil_append]
    cases ps with
    | nil => simp only [textP, comps, j1, Option.map_some]
    | cons d ps =>
      have ih := comps_text (d :: ps) (by simp) h2
      simp only [textP, if_true, List.nil_append] at ih
      have hs : isSep 46 = true := rfl
      simp only [textP, Bool.false_eq_true, if_false, List.cons_append, List.nil_append, comps, hs, if_true, j1, Option.bind_some, ih, Option.map_some]
theorem comps_right : ∀ (l cur : List UInt8) (ps : List (List Item)), comps cur l = some ps → ps ≠ [] ∧ ps.all rightC = true ∧ (textP true ps).length ≤ cur.length + l.length
  | [], cur, ps, h => by
    simp only [comps, Option.map_eq_some_iff] at h
    obtain ⟨c, hc, rfl⟩ := h
    obtain ⟨h1, h2⟩ := compo_right hc
    refine ⟨by simp, by simp [h1], ?_⟩
    simp only [textP, if_true]
    simpa using h2
  | x :: l, cur, ps, h => by
    simp only [comps] at h
    split at h
    · simp only [Option.bind_eq_some_iff, Option.map_eq_some_iff] at h
      obtain ⟨c, hc, r, hr, rfl⟩ := h
      obtain ⟨h1, h2⟩ := compo_right hc
      obtain ⟨i1, i2, i3⟩ := comps_right l [] r hr
      refine ⟨by simp, by simp [h1, i2], ?_⟩
      cases r with
      | nil => exact absurd rfl i1
      | cons d r =>
        simp only [textP, if_true, Bool.false_eq_true, if_false, List.length_append, List.length_cons, List.length_nil] at i3 ⊢
        omega
    · obtain ⟨i1, i2, i3⟩ := comps_right l _ ps h
      exact ⟨i1, i2, by simp at i3 ⊢; omega⟩
theorem textP_bytes : ∀ (ps : List (List Item)) (b : Bool), ps.all rightC = true → ∀ x ∈ textP b ps, dig x = true ∨ isLet x = true ∨ x.toNat = 46
  | [], _, _, x, hx => by simp [textP] at hx
  | c :: ps, b, h, x, hx => by
    simp only [List.all_cons, Bool.and_eq_true] at h
    simp only [textP, List.mem_append] at hx
    rcases hx with (hx | hx) | hx
    · cases b with
      | true => simp at hx
      | false => simp only [Bool.false_eq_true, if_false, List.mem_singleton] at hx; subst hx; exact .inr (.inr rfl)
    · rcases (compo_text h.1).2 x hx with h | h
      · exact .inl h
      · exact .inr (.inl h)
    · exact textP_bytes ps _ h.2 x hx

/-! Cut. -/
theorem cutAt_none {c : Int} : ∀ {l : List UInt8}, (∀ x ∈ l, (x.toNat : Int) ≠ c) → cutAt c l = none
  | [], _ => rfl
  | x :: l, h => by
    simp only [cutAt]
    rw [if_neg (h x (by simp)), cutAt_none (fun y hy => h y (List.mem_cons_of_mem _ hy))]
    rfl
theorem cutAt_some {c : Int} {y : UInt8} (hy : (y.toNat : Int) = c) (r : List UInt8) : ∀ {l : List UInt8}, (∀ x ∈ l, (x.toNat : Int) ≠ c) → cutAt c (l ++ y :: r) = some (l, r)
  | [], _ => by simp [cutAt, hy]
  | x :: l, h => by
    simp only [List.cons_append, cutAt]
    rw [if_neg (h x (by simp)), cutAt_some hy r (fun y hy => h y (List.mem_cons_of_mem _ hy))]
    rfl
theorem cutAt_len {c : Int} : ∀ {l a r : List UInt8}, cutAt c l = some (a, r) → a.length + 1 + r.length = l.length
  | [], _, _, h => by simp [cutAt] at h
  | x :: l, a, r, h => by
    simp only [cutAt] at h
    split at h
    · cases h; simp; omega
    · simp only [Option.map_eq_some_iff] at h
      obtain ⟨⟨a', r'⟩, h1, h2⟩ := h
      cases h2
      have := cutAt_len h1
      simp at this ⊢
      omega

/-! Versions. -/
theorem parseR_right {e : Int} {l : List UInt8} {v : Ver} (h : parseR e l = some v) : v.1 = e ∧ v.2.1 ≠ [] ∧ v.2.1.all rightC = true ∧ v.2.2.all rightC = true ∧
    (textP true v.2.1 ++ (if v.2.2 = [] then [] else 43 :: textP true v.2.2)).length ≤ l.length := by
  unfold parseR at h
  split at h
  · simp only [Option.map_eq_some_iff] at h
    obtain ⟨p, hp, rfl⟩ := h
    obtain ⟨h1, h2, h3⟩ := comps_right _ _ _ hp
    exact ⟨rfl, h1, h2, rfl, by simpa using h3⟩
  · rename_i a r hc
    simp only [Option.bind_eq_some_iff, Option.map_eq_some_iff] at h
    obtain ⟨p, hp, q, hq, rfl⟩ := h
    obtain ⟨h1, h2, h3⟩ := comps_right _ _ _ hp
    obtain ⟨g1, g2, g3⟩ := comps_right _ _ _ hq
    have := cutAt_len hc
    refine ⟨rfl, h1, h2, g2, ?_⟩
    simp only [g1, if_false, List.length_append, List.length_cons]
    simp at h3 g3
    omega
theorem parse_right {s : List UInt8} {v : Ver} (h : parseV s = some v) : rightV v = true ∧ (textV v).length ≤ 40 := by
  unfold parseV at h
  split at h
  · exact absurd h (by simp)
  · rename_i hlen
    have hll : (lowL s).length = s.length := by simp [lowL]
    unfold parseL at h
    split at h
    · obtain ⟨h1, h2, h3, h4, h5⟩ := parseR_right h
      constructor
      · simp [rightV, h1, h2, h3, h4]
      · simp only [textV, h1]
        simp only [ne_eq, not_true_eq_false, if_false, List.nil_append]
        omega
    · rename_i a r hc
      split at h
      · rename_i hs
        obtain ⟨_, _, _, s4, s5, s6, s7⟩ := small_of hs
        obtain ⟨h1, h2, h3, h4, h5⟩ := parseR_right h
        rw [s4] at h1
        have := cutAt_len hc
        constructor
        · simp [rightV, h1, h2, h3, h4, s5, s6]
        · simp only [textV, h1]
          rw [List.append_assoc, List.length_append]
          split
          · simp only [List.length_append, List.length_singleton]; simp at h5; omega
          · simp only [List.length_nil]; omega
      · exact absurd h (by simp)

theorem low_id {x : UInt8} (h : ¬ (65 ≤ x.toNat ∧ x.toNat ≤ 90)) : lowC x = x := by simp [lowC, h]
theorem lowL_id {l : List UInt8} (h : ∀ x ∈ l, ¬ (65 ≤ x.toNat ∧ x.toNat ≤ 90)) : lowL l = l := by
  unfold lowL
  exact (List.map_congr_left (f := lowC) (g := id) (fun x hx => low_id (h x hx))).trans (List.map_id l)
theorem plain_byte {x : UInt8} (h : dig x = true ∨ isLet x = true ∨ x.toNat = 46) : ¬ (65 ≤ x.toNat ∧ x.toNat ≤ 90) ∧ x.toNat ≠ 43 ∧ x.toNat ≠ 33 := by
  simp only [dig, isLet, Bool.and_eq_true, decide_eq_true_eq] at h
  omega

theorem parseR_text {e : Int} {ps qs : List (List Item)} (h1 : ps ≠ []) (h2 : ps.all rightC = true) (h3 : qs.all rightC = true) :
    parseR e (textP true ps ++ (if qs = [] then [] else 43 :: textP true qs)) = some (e, ps, qs) := by
  have hps : ∀ x ∈ textP true ps, (x.toNat : Int) ≠ 43 := fun x hx => by have := (plain_byte (textP_bytes ps true h2 x hx)).2.1; omega
  by_cases hq : qs = []
  · subst hq
    simp only [if_true, List.append_nil]
    unfold parseR
    rw [cutAt_none hps]
    simp only [comps_text ps h1 h2, Option.map_some]
  · simp only [hq, if_false]
    unfold parseR
    rw [cutAt_some (by rfl) _ hps]
    simp only [comps_text ps h1 h2, comps_text qs hq h3, Option.bind_some, Option.map_some]

/-- A right version's text is read as it. -/
theorem parse_text {v : Ver} (h : rightV v = true) (hl : (textV v).length ≤ 40) : parseV (textV v) = some v := by
  simp only [rightV, Bool.and_eq_true, decide_eq_true_eq, Bool.not_eq_true', List.isEmpty_eq_false_iff] at h
  obtain ⟨⟨⟨⟨h0, h1⟩, h2⟩, h3⟩, h4⟩ := h
  obtain ⟨e, ps, qs⟩ := v
  simp only at h0 h1 h2 h3 h4
  have hrest : ∀ x ∈ textP true ps ++ (if qs = [] then [] else 43 :: textP true qs), ¬ (65 ≤ x.toNat ∧ x.toNat ≤ 90) ∧ x.toNat ≠ 33 := by
    intro x hx
    rcases List.mem_append.1 hx with hx | hx
    · have := plain_byte (textP_bytes ps true h3 x hx); exact ⟨this.1, this.2.2⟩
    · split at hx
      · simp at hx
      · rcases List.mem_cons.1 hx with rfl | hx
        · decide
        · have := plain_byte (textP_bytes qs true h4 x hx); exact ⟨this.1, this.2.2⟩
  have hnum : ∀ x ∈ numT e.toNat, ¬ (65 ≤ x.toNat ∧ x.toNat ≤ 90) ∧ x.toNat ≠ 33 := by
    intro x hx
    have := plain_byte (.inl (numT_dig _ x hx)); exact ⟨this.1, this.2.2⟩
  have hlow : lowL (textV (e, ps, qs)) = textV (e, ps, qs) := by
    refine lowL_id fun x hx => ?_
    simp only [textV, List.append_assoc] at hx
    rcases List.mem_append.1 hx with hx | hx
    · split at hx
      · rcases List.mem_append.1 hx with hx | hx
        · exact (hnum x hx).1
        · simp only [List.mem_singleton] at hx
          subst hx
          decide
      · simp at hx
    · exact (hrest x hx).1
  unfold parseV
  rw [if_neg (by omega), hlow]
  unfold parseL
  simp only [textV, List.append_assoc]
  by_cases he : e = 0
  · subst he
    simp only [ne_eq, not_true_eq_false, if_false, List.nil_append]
    rw [cutAt_none (fun x hx => by have := (hrest x hx).2; omega)]
    exact parseR_text h2 h3 h4
  · simp only [ne_eq, he, not_false_eq_true, if_true, List.append_assoc, List.cons_append, List.nil_append]
    rw [cutAt_some (by rfl) _ (fun x hx => by have := (hnum x hx).2; omega)]
    simp only [small_numT h0 h1, if_true]
    exact parseR_text h2 h3 h4

end Go.Proofs.YtllilhgdnepipaaGreatDoor

/-
  What Lower computes, the document's and the program's, as the abstract machine runs them. For texts of fewer than a million bytes; the callee's answer is handed in.
-/
namespace Go.Proofs.YtllilhgdnepipaaGreatDoor
open Go Go.Avm
set_option linter.unusedSimpArgs false

/-- The first so many bytes lowered. -/
def lowTo (i : Nat) (l : List UInt8) : List UInt8 := (l.take i).map lowC ++ l.drop i
theorem lowTo_zero (l : List UInt8) : lowTo 0 l = l := by simp [lowTo]
theorem lowTo_all (l : List UInt8) {i : Nat} (h : l.length ≤ i) : lowTo i l = lowL l := by
  simp [lowTo, lowL, List.take_of_length_le h, List.drop_eq_nil_of_le h]
theorem lowTo_length (l : List UInt8) (i : Nat) : (lowTo i l).length = l.length := by simp [lowTo]; omega
theorem lowTo_get (l : List UInt8) {i : Nat} (h : i < l.length) : (lowTo i l)[i]'(by rw [lowTo_length]; exact h) = l[i] := by
  simp only [lowTo]
  rw [List.getElem_append_right (by simp; omega)]
  simp only [List.length_map, List.length_take, List.getElem_drop]
  congr 1
  omega
theorem lowTo_succ (l : List UInt8) {i : Nat} (h : i < l.length) : lowTo (i + 1) l = (lowTo i l).set i (lowC l[i]) := by
  have ht : ((l.take i).map lowC).length = i := by simp; omega
  simp only [lowTo]
  rw [List.set_append_right (h := by rw [ht]; exact Nat.le_refl _), ht, Nat.sub_self, List.drop_eq_getElem_cons h, List.set_cons_zero, List.take_succ_eq_append_getElem h, List.map_append]
  simp
theorem lowTo_same (l : List UInt8) {i : Nat} (h : i < l.length) (hc : lowC l[i] = l[i]) : lowTo (i + 1) l = lowTo i l := by
  rw [lowTo_succ l h, hc]
  have := lowTo_get l h
  rw [← this]
  exact List.set_getElem_self _

theorem lowC_up {c : UInt8} (h2 : 65 ≤ (c.toNat : Int)) (h3 : (c.toNat : Int) ≤ 90) : ((lowC c).toNat : Int) = c.toNat + 32 := by
  have e : lowC c = c + 32 := by simp only [lowC]; rw [if_pos (by omega)]
  rw [e, UInt8.toNat_add]
  have : (32 : UInt8).toNat = 32 := rfl
  omega
theorem lowC_not {c : UInt8} (h : ¬ (65 ≤ (c.toNat : Int) ∧ (c.toNat : Int) ≤ 90)) : lowC c = c := by
  simp only [lowC]; rw [if_neg (by omega)]

theorem spec40 (b : ByteArray) (hb : b.size < 1000000) (call : Rec) : body E call iterL 40 [.str b] [] = some ([.str (toB (lowL b.data.toList))], []) := by
  have hsz : b.data.toList.length = b.size := by simp
  have hbid : bid 5 6 = 500006 := rfl
  have hz : encB b.data.toList = encB (lowTo (Int.toNat 0) b.data.toList) := by rw [show Int.toNat 0 = 0 from rfl, lowTo_zero]
  rw [body_eq fn40 (c := Tryz.f40.body.get!) rfl]
  simp (config := {decide := true}) only [go_sem, Tryz.f40, Option.get!, ↓reduceIte, decide_true, decide_false, List.all_cons, List.all_nil, Bool.and_true, headId, hbid]
  rw [hz, loopE_run (I := fun i : Int => st [(3, .bs 0 500006 b.size), (8, .int .i64 b.size), (9, .int .i64 i)] [(500006, some (encB (lowTo i.toNat b.data.toList)))] [])
    (R := fun i : Int => some (Ex.exit 0, st [(3, .bs 0 500006 b.size), (8, .int .i64 b.size), (9, .int .i64 b.size), (10, .bool false)] [(500006, some (encB (lowL b.data.toList)))] []))
    (Inv := fun i => 0 ≤ i ∧ i ≤ b.size) (μ := fun i => (b.size - i).toNat) ?step 0 (by simp)]
  case step =>
    rintro i ⟨h0, h1⟩ ih
    rw [loopE_eq]
    by_cases h : i < b.size
    · have hlt : i.toNat < b.data.toList.length := by omega
      have hg := encB_get (lowTo i.toNat b.data.toList) i.toNat (by rw [lowTo_length]; exact hlt)
      rw [lowTo_get _ hlt] at hg
      have hin : 0 ≤ i ∧ i < (b.size : Int) := ⟨h0, h⟩
      have hle : i.toNat + 1 ≤ (lowTo i.toNat b.data.toList).length := by rw [lowTo_length]; omega
      have e : (i + 1).toNat = i.toNat + 1 := by omega
      by_cases h2 : 65 ≤ (b.data.toList[i.toNat].toNat : Int)
      · by_cases h3 : (b.data.toList[i.toNat].toNat : Int) ≤ 90
        · have hset := encB_set (lowTo i.toNat b.data.toList) i.toNat (lowC b.data.toList[i.toNat]) (by omega)
          rw [lowC_up h2 h3, ← lowTo_succ _ hlt, ← e] at hset
          have hw : IntKind.u8.wrap ((b.data.toList[i.toNat].toNat : Int) + 32) = (b.data.toList[i.toNat].toNat : Int) + 32 := wrap_u8 (by omega) (by omega)
          simp (config := {decide := true}) only [go_sem, ↓reduceIte, decide_true, decide_false, List.all_cons, List.all_nil, Bool.and_true, headId, h, hin, and_self, Nat.mul_one, Nat.zero_add, hg, h2, h3, hle, hw, hset]
          rw [wrap_succ h0 h (by omega), ih (i + 1) (by omega) (by omega)]
        · simp (config := {decide := true}) only [go_sem, ↓reduceIte, decide_true, decide_false, List.all_cons, List.all_nil, Bool.and_true, headId, h, hin, and_self, Nat.mul_one, Nat.zero_add, hg, h2, h3]
          rw [wrap_succ h0 h (by omega), ← lowTo_same _ hlt (lowC_not (by omega)), ← e, ih (i + 1) (by omega) (by omega)]
      · simp (config := {decide := true}) only [go_sem, ↓reduceIte, decide_true, decide_false, List.all_cons, List.all_nil, Bool.and_true, headId, h, hin, and_self, Nat.mul_one, Nat.zero_add, hg, h2]
        rw [wrap_succ h0 h (by omega), ← lowTo_same _ hlt (lowC_not (by omega)), ← e, ih (i + 1) (by omega) (by omega)]
    · have hi : i = b.size := by omega
      subst hi
      simp (config := {decide := true}) only [go_sem, ↓reduceIte, decide_true, decide_false, List.all_cons, List.all_nil, Bool.and_true, headId, h]
      rw [lowTo_all _ (by omega)]
  have hfin := fun (s : S) (d : Option Nat) => convT2_enc (s := s) (d := d) b.size (lowL b.data.toList) (by simp [lowL])
  simp (config := {decide := true}) only [go_sem, ↓reduceIte, List.all_cons, List.all_nil, Bool.and_true, hfin]
  rfl

theorem spec36 (b : ByteArray) (hb : b.size < 1000000) (call : Rec) (h86 : ∀ c, call 86 [.int .u8 c] [] = some ([.bool (decide (65 ≤ c ∧ c ≤ 90))], [])) : body E call iterL 36 [.str b] [] = some ([.str (toB (lowL b.data.toList))], []) := by
  have hsz : b.data.toList.length = b.size := by simp
  have hbid : bid 5 7 = 500007 := rfl
  have hz : encB b.data.toList = encB (lowTo (Int.toNat 0) b.data.toList) := by rw [show Int.toNat 0 = 0 from rfl, lowTo_zero]
  rw [body_eq fn36 (c := Tryz.f36.body.get!) rfl]
  simp (config := {decide := true}) only [go_sem, Tryz.f36, Option.get!, ↓reduceIte, decide_true, decide_false, List.all_cons, List.all_nil, Bool.and_true, headId, hbid]
  rw [hz, loopE_run (I := fun i : Int => st [(3, .bs 0 500007 b.size), (8, .bs 0 500007 b.size), (9, .int .i64 b.size), (10, .int .i64 i)] [(500007, some (encB (lowTo i.toNat b.data.toList)))] [])
    (R := fun i : Int => some (Ex.exit 0, st [(3, .bs 0 500007 b.size), (8, .bs 0 500007 b.size), (9, .int .i64 b.size), (10, .int .i64 b.size), (11, .bool false)] [(500007, some (encB (lowL b.data.toList)))] []))
    (Inv := fun i => 0 ≤ i ∧ i ≤ b.size) (μ := fun i => (b.size - i).toNat) ?step 0 (by simp)]
  case step =>
    rintro i ⟨h0, h1⟩ ih
    rw [loopE_eq]
    by_cases h : i < b.size
    · have hlt : i.toNat < b.data.toList.length := by omega
      have hg := encB_get (lowTo i.toNat b.data.toList) i.toNat (by rw [lowTo_length]; exact hlt)
      rw [lowTo_get _ hlt] at hg
      have hin : 0 ≤ i ∧ i < (b.size : Int) := ⟨h0, h⟩
      have hle : i.toNat + 1 ≤ (lowTo i.toNat b.data.toList).length := by rw [lowTo_length]; omega
      have e : (i + 1).toNat = i.toNat + 1 := by omega
      by_cases h2 : 65 ≤ (b.data.toList[i.toNat].toNat : Int) ∧ (b.data.toList[i.toNat].toNat : Int) ≤ 90
      · have hset := encB_set (lowTo i.toNat b.data.toList) i.toNat (lowC b.data.toList[i.toNat]) (by omega)
        rw [lowC_up h2.1 h2.2, ← lowTo_succ _ hlt, ← e] at hset
        have hw0 : IntKind.u8.wrap ((b.data.toList[i.toNat].toNat : Int) - 65) = (b.data.toList[i.toNat].toNat : Int) - 65 := wrap_u8 (by omega) (by omega)
        have hw : IntKind.u8.wrap ((b.data.toList[i.toNat].toNat : Int) - 65 + 97) = (b.data.toList[i.toNat].toNat : Int) + 32 := by rw [wrap_u8 (by omega) (by omega)]; omega
        simp (config := {decide := true}) only [go_sem, ↓reduceIte, decide_true, decide_false, List.all_cons, List.all_nil, Bool.and_true, headId, h, hin, and_self, Nat.mul_one, Nat.zero_add, hg, h86, h2, hle, hw0, hw, hset]
        rw [wrap_succ h0 h (by omega), ih (i + 1) (by omega) (by omega)]
      · simp (config := {decide := true}) only [go_sem, ↓reduceIte, decide_true, decide_false, List.all_cons, List.all_nil, Bool.and_true, headId, h, hin, and_self, Nat.mul_one, Nat.zero_add, hg, h86, h2]
        rw [wrap_succ h0 h (by omega), ← lowTo_same _ hlt (lowC_not h2), ← e, ih (i + 1) (by omega) (by omega)]
    · have hi : i = b.size := by omega
      subst hi
      simp (config := {decide := true}) only [go_sem, ↓reduceIte, decide_true, decide_false, List.all_cons, List.all_nil, Bool.and_true, headId, h]
      rw [lowTo_all _ (by omega)]
  have hfin := fun (s : S) (d : Option Nat) => convT2_enc (s := s) (d := d) b.size (lowL b.data.toList) (by simp [lowL])
  simp (config := {decide := true}) only [go_sem, ↓reduceIte, List.all_cons, List.all_nil, Bool.and_true, hfin]
  rfl
end Go.Proofs.YtllilhgdnepipaaGreatDoor

/-
  What version.component computes, as the abstract machine runs it. For texts of fewer than a million bytes; the callees' answers are handed in.
-/
namespace Go.Proofs.YtllilhgdnepipaaGreatDoor
open Go Go.Avm
set_option linter.unusedSimpArgs false

theorem toB_size (l : List UInt8) : (toB l).size = l.length := rfl
theorem toB_toList (l : List UInt8) : (toB l).toList = l := by rw [ByteArray.toList_eq]; rfl
theorem toB_idx {l : List UInt8} {i : Int} (h0 : 0 ≤ i) (h : i.toNat < l.length) : sIdx (toB l) i = some l[i.toNat] := by
  have hlt : i.toNat < (toB l).size := h
  have : sIdx (toB l) i = some (toB l)[i.toNat] := by simp [sIdx, h0, hlt]
  exact this
theorem toB_extract (l : List UInt8) (a b : Nat) : (toB l).extract a b = toB ((l.take b).drop a) := by
  apply ByteArray.ext
  apply Array.ext'
  simp [toB, List.drop_take]
theorem toB_append (l r : List UInt8) : toB l ++ toB r = toB (l ++ r) := by
  apply ByteArray.ext
  apply Array.ext'
  simp [toB]
theorem toB_cut {l : List UInt8} {a b : Int} (h0 : 0 ≤ a) (h1 : a ≤ b) (h2 : b ≤ l.length) : cutS (toB l) (some a) (some b) = some (.str (toB ((l.take b.toNat).drop a.toNat))) := by
  rw [cutS_of h0 h1 (by rw [toB_size]; exact h2), toB_extract]

def isLetI (c : Int) : Bool := decide (97 ≤ c ∧ c ≤ 122)
def isDigI (c : Int) : Bool := decide (48 ≤ c ∧ c ≤ 57)
theorem isLetI_eq (c : UInt8) : isLetI (c.toNat : Int) = isLet c := by simp [isLetI, isLet]
theorem isDigI_eq (c : UInt8) : isDigI (c.toNat : Int) = dig c := by simp [isDigI, dig]

/-- The answer of component. -/
def compoA : Option (List Item) → List AV
  | none => [.own 4 122 [], .bool false]
  | some r => [.own 8 122 (r.map encI), .bool true]

theorem u8_lt (c : UInt8) : (c.toNat : Int) < 256 := by have := c.toNat_lt; omega

/-- What the loop over a component's items leads to. -/
def itemsX (acc : List Item) : Option (List Item) → Option (Ex × S)
  | none => some (Ex.ret, st [(2, .own 4 122 []), (3, .bool false)] [] [])
  | some r => some (Ex.exit 0, st [(0, .str (toB [])), (4, .own 8 122 ((acc ++ r).map encI)), (20, .bool false)] [] [])

set_option maxHeartbeats 1000000 in
theorem spec90 (l : List UInt8) (hb : l.length < 1000000) (call : Rec) (h99 : ∀ c, call 99 [.int .u8 c] [] = some ([.bool (isLetI c)], [])) (h141 : ∀ c, call 141 [.int .u8 c] [] = some ([.bool (isDigI c)], []))
    (h38 : ∀ r : List UInt8, r.length < 1000000 → call 38 [.str (toB r)] [] = some ([.int .i64 (smallD r big).1, .bool (smallD r big).2], [])) :
    body E call iterL 90 [.str (toB l)] [] = some (compoA (compo l), []) := by
  rw [body_eq fn90 (c := Tryz.f90.body.get!) rfl]
  have hnil : (⟨#[]⟩ : ByteArray).toList = [] := toB_toList []
  cases l with
  | nil =>
    have hbb : (([] : List UInt8) == []) = true := rfl
    simp (config := {decide := true}) only [go_sem, Tryz.f90, Option.get!, ↓reduceIte, decide_true, decide_false, List.all_cons, List.all_nil, Bool.and_true, headId, toB_toList, hnil, hbb, compo, compoA]
  | cons c0 l0 =>
    have hi0 : ∀ (c : UInt8) (l : List UInt8), sIdx (toB (c :: l)) 0 = some c := fun c l => toB_idx (l := c :: l) (i := 0) (by omega) (by simp)
    have hne : ∀ (c : UInt8) (l : List UInt8), ((c :: l : List UInt8) == []) = false := fun _ _ => rfl
    have happ : ∀ (s : S) (d : Nat) (xs : List Item) (n : Int) (w : ByteArray), xs.length < 2000000 → app3 s d 122 ⟨.struct [(0, 3), (1, 9)], 2, 24, [AV.int IntKind.i64 0, AV.str ⟨#[]⟩]⟩ [AV.agg [.int .i64 n, .str w]] (.own 8 122 (xs.map encI)) =
        some ((s.kill 8).put (some d) (.own 8 122 ((xs ++ [(n, w)]).map encI))) := by
      intro s d xs n w hx
      rw [app3_own]
      · rw [List.map_append]; rfl
      · refine ⟨by decide, ?_, ?_, rfl⟩ <;> simp <;> omega
    have happ0 := fun s d n w => happ s d [] n w (by simp)
    simp only [List.map_nil, List.nil_append, List.map_cons] at happ0
    rcases Bool.eq_false_or_eq_true (isLet c0) with hc0 | hc0
    all_goals
      simp (config := {decide := true}) only [go_sem, Tryz.f90, Option.get!, ↓reduceIte, decide_true, decide_false, List.all_cons, List.all_nil, Bool.and_true, headId, toB_toList, hne, hnil, hi0, Option.map_some, h99, isLetI_eq, hc0, happ0, Nat.reduceMul]
      obtain ⟨acc, hacc, hl, hz⟩ : ∃ acc : List Item, acc = (if isLet c0 = true then [(0, toB [])] else []) ∧ acc.length ≤ 1 ∧ (if isLet c0 = true then AV.own 8 122 [encI (0, ⟨#[]⟩)] else AV.own 8 122 []) = .own 8 122 (acc.map encI) := by
        rw [hc0]
        first
          | exact ⟨[(0, toB [])], rfl, Nat.le_refl _, rfl⟩
          | exact ⟨[], rfl, by simp, rfl⟩
      simp only [hc0, if_true, Bool.false_eq_true, if_false] at hz
      rw [hz, loopE_run (I := fun p : List UInt8 × List Item => st [(0, .str (toB p.1)), (4, .own 8 122 (p.2.map encI))] [] [])
        (R := fun p => itemsX p.2 (items p.1)) (Inv := fun p => p.1.length < 1000000 ∧ p.1.length + p.2.length ≤ 1000001) (μ := fun p => p.1.length) ?step (c0 :: l0, acc) (by simp at hb ⊢; omega)]
      case step =>
        rintro ⟨s, r⟩ hinv ih
        simp only at hinv ih ⊢
        rw [loopE_eq]
        cases s with
        | nil =>
          have hbb : (([] : List UInt8) == []) = true := rfl
          simp (config := {decide := true}) only [go_sem, ↓reduceIte, decide_true, decide_false, List.all_cons, List.all_nil, Bool.and_true, headId, toB_toList, hnil, hbb, Bool.not_true]
          rw [items_nil]
          simp only [itemsX, List.append_nil]
        | cons c s =>
          simp (config := {decide := true}) only [go_sem, ↓reduceIte, decide_true, decide_false, List.all_cons, List.all_nil, Bool.and_true, headId, toB_toList, hnil, hne, hi0, Option.map_some, h99, isLetI_eq]
          have hi00 := hi0 c s
          have hlen : (c :: s).length = s.length + 1 := rfl
          generalize hL : c :: s = L at hi00 hlen hinv ih ⊢
          by_cases hc : isLet c = true
          · simp (config := {decide := true}) only [go_sem, ↓reduceIte, decide_true, decide_false, List.all_cons, List.all_nil, Bool.and_true, headId, hc]
            rw [loopE_run (I := fun n : Int => st [(0, .str (toB L)), (4, .own 8 122 (r.map encI)), (5, .fn 99 []), (6, .int .i64 n)] [] [])
              (R := fun n : Int => some (Ex.exit 2, st [(0, .str (toB L)), (4, .own 8 122 (r.map encI)), (5, .fn 99 []), (6, .int .i64 (n + runP isLet (L.drop n.toNat))), (34, .bool false)] [] []))
              (Inv := fun n => 0 ≤ n ∧ n ≤ L.length) (μ := fun n => (L.length - n).toNat) ?step 0 (by omega)]
            case step =>
              rintro n ⟨h0, h1⟩ ih2
              rw [loopE_eq]
              by_cases h : n < (L.length : Int)
              · have hlt : n.toNat < L.length := by omega
                have hs := toB_idx h0 hlt
                rw [List.drop_eq_getElem_cons hlt]
                generalize L[n.toNat] = x at hs
                by_cases hx : isLet x = true
                · simp (config := {decide := true}) only [go_sem, ↓reduceIte, decide_true, decide_false, List.all_cons, List.all_nil, Bool.and_true, headId, toB_size, h, hs, Option.map_some, h99, isLetI_eq, hx]
                  rw [wrap_succ h0 h (by omega), ih2 (n + 1) (by omega) (by omega)]
                  have e : (n + 1).toNat = n.toNat + 1 := by omega
                  simp only [runP, hx, e, if_true]
                  have e3 : n + 1 + (runP isLet (L.drop (n.toNat + 1)) : Int) = n + ((runP isLet (L.drop (n.toNat + 1)) + 1 : Nat) : Int) := by omega
                  rw [e3]
                · simp (config := {decide := true}) only [go_sem, ↓reduceIte, decide_true, decide_false, List.all_cons, List.all_nil, Bool.and_true, headId, toB_size, h, hs, Option.map_some, h99, isLetI_eq, hx]
                  simp [runP, hx]
              · simp (config := {decide := true}) only [go_sem, ↓reduceIte, decide_true, decide_false, List.all_cons, List.all_nil, Bool.and_true, headId, toB_size, h]
                rw [List.drop_eq_nil_of_le (by omega)]
                simp [runP]
            have hfin : (0 : Int) + (runP isLet (L.drop (Int.toNat 0)) : Int) = runP isLet L := by simp
            rw [hfin]
            have hrun : runP isLet L = runP isLet s + 1 := by rw [← hL]; simp only [runP, hc, if_true]
            have hle := runP_le isLet s
            have hn0 : ¬ ((runP isLet L : Int) = 0) := by omega
            have hcut := toB_cut (l := L) (a := ((0 : Nat) : Int)) (b := runP isLet L) (by omega) (by omega) (by omega)
            have hcut2 := toB_cut (l := L) (a := runP isLet L) (b := L.length) (by omega) (by omega) (by omega)
            simp only [Int.toNat_natCast, List.drop_zero, List.take_length] at hcut hcut2
            simp (config := {decide := true}) only [go_sem, ↓reduceIte, decide_true, decide_false, List.all_cons, List.all_nil, Bool.and_true, headId, hn0, toB_size, hcut, hcut2, hi00, h141, isDigI_eq, let_not_dig hc, Option.map_some]
            rw [happ _ _ _ _ _ (by omega)]
            have e1 : L.take (runP isLet L) = c :: s.take (runP isLet s) := by rw [← hL, hL, hrun, ← hL]; rfl
            have e2 : L.drop (runP isLet L) = s.drop (runP isLet s) := by rw [hrun, ← hL]; rfl
            have e3 : items L = (items (s.drop (runP isLet s))).map fun r => (0, toB (c :: s.take (runP isLet s))) :: r := by rw [← hL, items_cons, if_pos hc]
            simp (config := {decide := true}) only [go_sem, ↓reduceIte, decide_true, decide_false, List.all_cons, List.all_nil, Bool.and_true, headId, e1, toB_size, hcut2]
            have hl1 : (L.drop (runP isLet L)).length < L.length := by rw [List.length_drop]; omega
            have := ih (L.drop (runP isLet L), r ++ [(0, toB (c :: s.take (runP isLet s)))]) (by simp only [List.length_append, List.length_singleton]; omega) hl1
            simp only at this
            rw [this, e3, e2]
            cases items (s.drop (runP isLet s)) with
            | none => rfl
            | some q => simp only [itemsX, Option.map_some, List.append_assoc, List.singleton_append]
          · simp (config := {decide := true}) only [go_sem, ↓reduceIte, decide_true, decide_false, List.all_cons, List.all_nil, Bool.and_true, headId, hc]
            rw [loopE_run (I := fun n : Int => st [(0, .str (toB L)), (4, .own 8 122 (r.map encI)), (5, .fn 141 []), (6, .int .i64 n)] [] [])
              (R := fun n : Int => some (Ex.exit 2, st [(0, .str (toB L)), (4, .own 8 122 (r.map encI)), (5, .fn 141 []), (6, .int .i64 (n + runP dig (L.drop n.toNat))), (34, .bool false)] [] []))
              (Inv := fun n => 0 ≤ n ∧ n ≤ L.length) (μ := fun n => (L.length - n).toNat) ?step 0 (by omega)]
            case step =>
              rintro n ⟨h0, h1⟩ ih2
              rw [loopE_eq]
              by_cases h : n < (L.length : Int)
              · have hlt : n.toNat < L.length := by omega
                have hs := toB_idx h0 hlt
                rw [List.drop_eq_getElem_cons hlt]
                generalize L[n.toNat] = x at hs
                by_cases hx : dig x = true
                · simp (config := {decide := true}) only [go_sem, ↓reduceIte, decide_true, decide_false, List.all_cons, List.all_nil, Bool.and_true, headId, toB_size, h, hs, Option.map_some, h141, isDigI_eq, hx]
                  rw [wrap_succ h0 h (by omega), ih2 (n + 1) (by omega) (by omega)]
                  have e : (n + 1).toNat = n.toNat + 1 := by omega
                  simp only [runP, hx, e, if_true]
                  have e3 : n + 1 + (runP dig (L.drop (n.toNat + 1)) : Int) = n + ((runP dig (L.drop (n.toNat + 1)) + 1 : Nat) : Int) := by omega
                  rw [e3]
                · simp (config := {decide := true}) only [go_sem, ↓reduceIte, decide_true, decide_false, List.all_cons, List.all_nil, Bool.and_true, headId, toB_size, h, hs, Option.map_some, h141, isDigI_eq, hx]
                  simp [runP, hx]
              · simp (config := {decide := true}) only [go_sem, ↓reduceIte, decide_true, decide_false, List.all_cons, List.all_nil, Bool.and_true, headId, toB_size, h]
                rw [List.drop_eq_nil_of_le (by omega)]
                simp [runP]
            have hfin : (0 : Int) + (runP dig (L.drop (Int.toNat 0)) : Int) = runP dig L := by simp
            rw [hfin]
            by_cases hd : dig c = true
            · have hrun : runP dig L = runP dig s + 1 := by rw [← hL]; simp only [runP, hd, if_true]
              have hle := runP_le dig s
              have hn0 : ¬ ((runP dig L : Int) = 0) := by omega
              have hcut := toB_cut (l := L) (a := ((0 : Nat) : Int)) (b := runP dig L) (by omega) (by omega) (by omega)
              have hcut2 := toB_cut (l := L) (a := runP dig L) (b := L.length) (by omega) (by omega) (by omega)
              simp only [Int.toNat_natCast, List.drop_zero, List.take_length] at hcut hcut2
              have e1 : L.take (runP dig L) = c :: s.take (runP dig s) := by rw [← hL, hL, hrun, ← hL]; rfl
              have e2 : L.drop (runP dig L) = s.drop (runP dig s) := by rw [hrun, ← hL]; rfl
              have e3 : items L = if (smallD (c :: s.take (runP dig s)) big).2 then (items (s.drop (runP dig s))).map fun r => ((smallD (c :: s.take (runP dig s)) big).1, toB []) :: r else none := by
                rw [← hL, items_cons, if_neg hc, if_pos hd]
              rw [e1] at hcut
              have hs38 := h38 (c :: s.take (runP dig s)) (by simp only [List.length_cons, List.length_take]; omega)
              generalize hsm : smallD (c :: s.take (runP dig s)) big = sm at e3 hs38
              obtain ⟨num, ok⟩ := sm
              simp only at e3 hs38
              cases ok with
              | false =>
                simp (config := {decide := true}) only [go_sem, ↓reduceIte, decide_true, decide_false, List.all_cons, List.all_nil, Bool.and_true, headId, hn0, toB_size, hcut, hi00, h141, isDigI_eq, hd, Option.map_some, hs38, Bool.not_false]
                rw [e3]
                rfl
              | true =>
                simp (config := {decide := true}) only [go_sem, ↓reduceIte, decide_true, decide_false, List.all_cons, List.all_nil, Bool.and_true, headId, hn0, toB_size, hcut, hi00, h141, isDigI_eq, hd, Option.map_some, hs38, Bool.not_true]
                rw [happ _ _ _ _ _ (by omega)]
                simp (config := {decide := true}) only [go_sem, ↓reduceIte, decide_true, decide_false, List.all_cons, List.all_nil, Bool.and_true, headId, toB_size, hcut2]
                have hl1 : (L.drop (runP dig L)).length < L.length := by rw [List.length_drop]; omega
                have := ih (L.drop (runP dig L), r ++ [(num, toB [])]) (by simp only [List.length_append, List.length_singleton]; omega) hl1
                simp only at this
                have hnil2 : toB [] = ⟨#[]⟩ := rfl
                rw [hnil2] at this e3
                rw [this, e3, e2]
                simp only [if_true]
                cases items (s.drop (runP dig s)) with
                | none => rfl
                | some q => simp only [itemsX, Option.map_some, List.append_assoc, List.singleton_append]
            · have hrun : runP dig L = 0 := by rw [← hL]; simp only [runP]; rw [if_neg hd]
              have hn0 : ((runP dig L : Int) = 0) := by omega
              have e3 : items L = none := by rw [← hL, items_cons, if_neg hc, if_neg hd]
              simp (config := {decide := true}) only [go_sem, ↓reduceIte, decide_true, decide_false, List.all_cons, List.all_nil, Bool.and_true, headId, hn0]
              rw [e3]
              rfl
      simp (config := {decide := true}) only [go_sem, ↓reduceIte, decide_true, decide_false, List.all_cons, List.all_nil, Bool.and_true, compo, hc0]
      cases items (c0 :: l0) with
      | none => simp (config := {decide := true}) only [go_sem, ↓reduceIte, decide_true, decide_false, List.all_cons, List.all_nil, Bool.and_true, itemsX, Option.map_none, compoA]
      | some q =>
        simp (config := {decide := true}) only [go_sem, ↓reduceIte, decide_true, decide_false, List.all_cons, List.all_nil, Bool.and_true, itemsX, Option.map_some, compoA]
        rw [hacc, hc0]
        rfl
end Go.Proofs.YtllilhgdnepipaaGreatDoor

/-
  What version.components computes, as the abstract machine runs it. For texts of fewer than a million bytes; the callees' answers are handed in.
-/
namespace Go.Proofs.YtllilhgdnepipaaGreatDoor
open Go Go.Avm
set_option linter.unusedSimpArgs false

/-- How many bytes stand ahead of the first that parts. -/
def sepN (l : List UInt8) : Nat := runP (fun c => !isSep c) l
theorem sepN_le (l : List UInt8) : sepN l ≤ l.length := runP_le _ l
def sepI (l : List UInt8) : Int := if sepN l < l.length then sepN l else -1

theorem comps_sep : ∀ (l cur : List UInt8), comps cur l = if sepN l < l.length then (compo (cur ++ l.take (sepN l))).bind fun x => (comps [] (l.drop (sepN l + 1))).map fun r => x :: r else (compo (cur ++ l)).map fun c => [c]
  | [], cur => by simp [comps, sepN, runP]
  | c :: l, cur => by
    by_cases h : isSep c = true
    · have e : sepN (c :: l) = 0 := by simp [sepN, runP, h]
      rw [e, if_pos (by simp)]
      simp only [comps, h, if_true, List.take_zero, List.append_nil, Nat.zero_add, List.drop_succ_cons, List.drop_zero]
    · have e : sepN (c :: l) = sepN l + 1 := by simp [sepN, runP, h]
      simp only [comps, h, if_false, e, List.length_cons, Nat.add_lt_add_iff_right, List.take_succ_cons, List.drop_succ_cons]
      rw [comps_sep l (cur ++ [c])]
      simp only [List.append_assoc, List.singleton_append]
      rfl

/-- The answer of components. -/
def compsA : Option (List (List Item)) → List AV
  | none => [.own 4 87 [], .bool false]
  | some r => [.own 8 87 (r.map encC), .bool true]

def compsX (acc : List (List Item)) : Option (List (List Item)) → Option (Ex × S)
  | none => some (Ex.ret, st [(2, .own 4 87 []), (3, .bool false)] [] [])
  | some r => some (Ex.ret, st [(2, .own 8 87 ((acc ++ r).map encC)), (3, .bool true)] [] [])

theorem spec39 (l : List UInt8) (hb : l.length < 1000000) (call : Rec)
    (h89 : ∀ r : List UInt8, r.length < 1000000 → call 89 [.str (toB r), .str ⟨#[46, 95, 45]⟩] [] = some ([.int .i64 (sepI r)], []))
    (h90 : ∀ r : List UInt8, r.length < 1000000 → call 90 [.str (toB r)] [] = some (compoA (compo r), [])) :
    body E call iterL 39 [.str (toB l)] [] = some (compsA (comps [] l), []) := by
  rw [body_eq fn39 (c := Tryz.f39.body.get!) rfl]
  have happ : ∀ (s : S) (d : Nat) (xs : List (List Item)) (x : List Item) (bt : Nat) (z : List AV), xs.length < 2000000 → bt ≤ 24 → app3 s d 87 ⟨.slice 122, 1, bt, z⟩ [.sl (x.map encI)] (.own 8 87 (xs.map encC)) =
      some ((s.kill 8).put (some d) (.own 8 87 ((xs ++ [x]).map encC))) := by
    intro s d xs x bt z hx hbt
    rw [app3_own]
    · rw [List.map_append]; rfl
    · refine ⟨Nat.zero_lt_one, ?_, ?_, rfl⟩
      · simp only [List.length_map, List.length_singleton]
        have : (xs.length + 1) * bt ≤ (xs.length + 1) * 24 := Nat.mul_le_mul_left _ hbt
        omega
      · simp; omega
  simp (config := {decide := true}) only [go_sem, Tryz.f39, Option.get!, ↓reduceIte, decide_true, decide_false, List.all_cons, List.all_nil, Bool.and_true, headId, Nat.reduceMul]
  have hz : AV.own 8 87 [] = .own 8 87 (([] : List (List Item)).map encC) := rfl
  rw [hz, loopE_run (I := fun p : List UInt8 × List (List Item) => st [(0, .str (toB p.1)), (4, .own 8 87 (p.2.map encC))] [] [])
    (R := fun p => compsX p.2 (comps [] p.1)) (Inv := fun p => p.1.length < 1000000 ∧ p.1.length + p.2.length ≤ 1000001) (μ := fun p => p.1.length) ?step (l, []) (by simp; omega)]
  case step =>
    rintro ⟨s, r⟩ ⟨hinv, hinv2⟩ ih
    simp only at hinv hinv2 ih ⊢
    rw [loopE_eq]
    have hs89 := h89 s hinv
    have hsep := comps_sep s []
    by_cases hlt : sepN s < s.length
    · have hi : sepI s = sepN s := if_pos hlt
      rw [if_pos hlt] at hsep
      rw [hi] at hs89
      have hge : 0 ≤ (sepN s : Int) := by omega
      have hcut := toB_cut (l := s) (a := ((0 : Nat) : Int)) (b := sepN s) (by omega) (by omega) (by omega)
      simp only [Int.toNat_natCast, List.drop_zero, List.nil_append] at hcut hsep
      have hs90 := h90 (s.take (sepN s)) (by rw [List.length_take]; omega)
      cases hc : compo (s.take (sepN s)) with
      | none =>
        rw [hc] at hsep hs90
        simp only [compoA] at hs90
        simp (config := {decide := true}) only [go_sem, ↓reduceIte, decide_true, decide_false, List.all_cons, List.all_nil, Bool.and_true, headId, hs89, hge, toB_size, hcut, hs90, Bool.not_false]
        rw [hsep]
        rfl
      | some x =>
        rw [hc] at hsep hs90
        simp only [compoA] at hs90
        have hnl : ¬ (sepN s : Int) < 0 := by omega
        have hw : IntKind.i64.wrap ((sepN s : Int) + 1) = (sepN s + 1 : Nat) := by rw [wrap_small (by omega) (by omega)]; rfl
        have hcut2 := toB_cut (l := s) (a := ((sepN s + 1 : Nat) : Int)) (b := s.length) (by omega) (by omega) (by omega)
        simp only [Int.toNat_natCast, List.take_length] at hcut2
        simp (config := {decide := true}) only [go_sem, ↓reduceIte, decide_true, decide_false, List.all_cons, List.all_nil, Bool.and_true, headId, hs89, hge, toB_size, hcut, hs90, Bool.not_true]
        rw [happ _ _ _ _ _ _ (by omega) (by omega)]
        simp (config := {decide := true}) only [go_sem, ↓reduceIte, decide_true, decide_false, List.all_cons, List.all_nil, Bool.and_true, headId, hnl, hw, toB_size, hcut2]
        have := ih (s.drop (sepN s + 1), r ++ [x]) (by simp only [List.length_drop, List.length_append, List.length_singleton]; omega) (by simp only [List.length_drop]; omega)
        simp only at this
        rw [this, hsep]
        simp only [Option.bind_some]
        cases comps [] (s.drop (sepN s + 1)) with
        | none => rfl
        | some q => simp only [compsX, Option.map_some, List.append_assoc, List.singleton_append]
    · have hi : sepI s = -1 := if_neg hlt
      rw [if_neg hlt] at hsep
      rw [hi] at hs89
      have hge : ¬ 0 ≤ (-1 : Int) := by omega
      have hs90 := h90 s hinv
      simp only [List.nil_append] at hsep
      cases hc : compo s with
      | none =>
        rw [hc] at hsep hs90
        simp only [compoA] at hs90
        simp (config := {decide := true}) only [go_sem, ↓reduceIte, decide_true, decide_false, List.all_cons, List.all_nil, Bool.and_true, headId, hs89, hge, toB_size, hs90, Bool.not_false]
        rw [hsep]
        rfl
      | some x =>
        rw [hc] at hsep hs90
        simp only [compoA] at hs90
        simp (config := {decide := true}) only [go_sem, ↓reduceIte, decide_true, decide_false, List.all_cons, List.all_nil, Bool.and_true, headId, hs89, hge, toB_size, hs90, Bool.not_true]
        rw [happ _ _ _ _ _ _ (by omega) (by omega)]
        simp (config := {decide := true}) only [go_sem, ↓reduceIte, decide_true, decide_false, List.all_cons, List.all_nil, Bool.and_true, headId]
        rw [hsep]
        rfl
  simp (config := {decide := true}) only [go_sem, ↓reduceIte, decide_true, decide_false, List.all_cons, List.all_nil, Bool.and_true]
  cases comps [] l with
  | none => simp (config := {decide := true}) only [go_sem, ↓reduceIte, decide_true, decide_false, List.all_cons, List.all_nil, Bool.and_true, compsX, compsA]
  | some q => simp (config := {decide := true}) only [go_sem, ↓reduceIte, decide_true, decide_false, List.all_cons, List.all_nil, Bool.and_true, compsX, compsA]
end Go.Proofs.YtllilhgdnepipaaGreatDoor
