-- Merged by a small program of this claim's maker out of 13 texts.
import Derived.Test.YtllilhgdnepipaaGreatDoorQe

/-
  What some functions of this program compute, as the abstract machine runs them: find (the document's answer). For every input that its statement names.
-/
namespace Go.Proofs.YtllilhgdnepipaaGreatDoor
open Go Go.Avm
set_option linter.unusedSimpArgs false

/-- Where a byte stands first, from a place on. -/
def findL (c : Int) : List UInt8 → Int → Int
  | [], _ => -1
  | x :: l, i => if (x.toNat : Int) = c then i else findL c l (i + 1)

theorem findL_ge (c : Int) : ∀ (l : List UInt8) (i : Int), 0 ≤ i → findL c l i = -1 ∨ i ≤ findL c l i
  | [], i, _ => .inl rfl
  | x :: l, i, h => by
    simp only [findL]
    split
    · exact .inr (Int.le_refl _)
    · rcases findL_ge c l (i + 1) (by omega) with h1 | h1
      · exact .inl h1
      · exact .inr (by omega)

theorem drop_bytes (b : ByteArray) {i : Nat} (h : i < b.size) : b.data.toList.drop i = b[i] :: b.data.toList.drop (i + 1) := by
  have hl : i < b.data.toList.length := by simpa using h
  rw [List.drop_eq_getElem_cons hl]
  rfl

theorem wrap_succ {i : Int} {m : Nat} (h0 : 0 ≤ i) (h1 : i < m) (h2 : m < 9223372036854775807) : IntKind.i64.wrap (i + 1) = i + 1 := by
  rw [IntKind.wrap_i64]
  omega

theorem spec41 (b : ByteArray) (hb : b.size < 1000000) (c : Int) (rest : List BX) (call : Rec) : body E call iterL 41 [.str b, .int .u8 c] rest = some ([.int .i64 (findL c b.data.toList 0)], rest) := by
  rw [body_eq fn41 (c := Tryz.f41.body.get!) rfl]
  simp (config := {decide := true}) only [go_sem, Tryz.f41, Option.get!, ↓reduceIte, decide_true, decide_false, List.all_cons, List.all_nil, Bool.and_true, headId]
  rw [loopE_run (I := fun i : Int => st [(0, .str b), (1, .int .u8 c), (5, .int .i64 i)] [] rest)
    (R := fun i : Int => some (if findL c (b.data.toList.drop i.toNat) i = -1 then (Ex.exit 0, st [(0, AV.str b), (1, AV.int IntKind.u8 c), (5, AV.int IntKind.i64 b.size), (9, AV.bool false)] [] rest)
      else (Ex.ret, st [(4, .int .i64 (findL c (b.data.toList.drop i.toNat) i))] [] rest)))
    (Inv := fun i => 0 ≤ i ∧ i ≤ b.size) (μ := fun i => (b.size - i).toNat) ?step 0 (by simp)]
  case step =>
    rintro i ⟨h0, h1⟩ ih
    rw [loopE_eq]
    by_cases h : i < b.size
    · have hlt : i.toNat < b.size := by omega
      have hs : sIdx b i = some b[i.toNat] := by simp [sIdx, h0, hlt]
      by_cases h2 : (b[i.toNat].toNat : Int) = c
      · simp (config := {decide := true}) only [go_sem, ↓reduceIte, decide_true, decide_false, List.all_cons, List.all_nil, Bool.and_true, headId, h, hs, Option.map_some, h2]
        rw [drop_bytes b hlt]
        have hne : i ≠ -1 := by omega
        simp [findL, h2, hne]
      · simp (config := {decide := true}) only [go_sem, ↓reduceIte, decide_true, decide_false, List.all_cons, List.all_nil, Bool.and_true, headId, h, hs, Option.map_some, h2]
        rw [wrap_succ h0 h (by omega), ih (i + 1) (by omega) (by omega), drop_bytes b hlt]
        have e : (i + 1).toNat = i.toNat + 1 := by omega
        simp only [findL, if_neg h2, e]
    · simp (config := {decide := true}) only [go_sem, ↓reduceIte, decide_true, decide_false, List.all_cons, List.all_nil, Bool.and_true, headId, h]
      have e : i = b.size := by omega
      subst e
      have e2 : b.data.toList.drop (b.size : Int).toNat = [] := List.drop_eq_nil_of_le (by simp)
      rw [e2]
      simp [findL]
  have hfin : Int.toNat 0 = 0 := rfl
  rw [hfin, List.drop_zero]
  by_cases h : findL c b.data.toList 0 = -1
  · simp (config := {decide := true}) only [go_sem, ↓reduceIte, h, List.all_cons, List.all_nil, Bool.and_true]
  · simp (config := {decide := true}) only [go_sem, ↓reduceIte, h, List.all_cons, List.all_nil, Bool.and_true]
end Go.Proofs.YtllilhgdnepipaaGreatDoor

/-
  What the tests of one byte compute, as the abstract machine runs them. For every input.
-/
namespace Go.Proofs.YtllilhgdnepipaaGreatDoor
open Go Go.Avm
set_option linter.unusedSimpArgs false

theorem spec86 (c : Int) (rest : List BX) (call : Rec) : body E call iterL 86 [.int .u8 c] rest = some ([.bool (decide (65 ≤ c ∧ c ≤ 90))], rest) := by
  rw [body_eq fn86 (c := Tryz.f86.body.get!) rfl]
  by_cases h : 65 ≤ c
  · simp (config := {decide := true}) only [go_sem, Tryz.f86, Option.get!, ↓reduceIte, h, decide_true, decide_false, List.all_cons, List.all_nil, Bool.and_true, true_and]
  · simp (config := {decide := true}) only [go_sem, Tryz.f86, Option.get!, ↓reduceIte, h, decide_true, decide_false, List.all_cons, List.all_nil, Bool.and_true, false_and]

theorem spec92 (c : Int) (rest : List BX) (call : Rec) : body E call iterL 92 [.int .u8 c] rest = some ([.bool (decide (48 ≤ c ∧ c ≤ 57))], rest) := by
  rw [body_eq fn92 (c := Tryz.f92.body.get!) rfl]
  by_cases h : 48 ≤ c
  · simp (config := {decide := true}) only [go_sem, Tryz.f92, Option.get!, ↓reduceIte, h, decide_true, decide_false, List.all_cons, List.all_nil, Bool.and_true, true_and]
  · simp (config := {decide := true}) only [go_sem, Tryz.f92, Option.get!, ↓reduceIte, h, decide_true, decide_false, List.all_cons, List.all_nil, Bool.and_true, false_and]

theorem spec93 (c : Int) (rest : List BX) (call : Rec) : body E call iterL 93 [.int .u8 c] rest = some ([.bool (decide (97 ≤ c ∧ c ≤ 122))], rest) := by
  rw [body_eq fn93 (c := Tryz.f93.body.get!) rfl]
  by_cases h : 97 ≤ c
  · simp (config := {decide := true}) only [go_sem, Tryz.f93, Option.get!, ↓reduceIte, h, decide_true, decide_false, List.all_cons, List.all_nil, Bool.and_true, true_and]
  · simp (config := {decide := true}) only [go_sem, Tryz.f93, Option.get!, ↓reduceIte, h, decide_true, decide_false, List.all_cons, List.all_nil, Bool.and_true, false_and]

theorem spec99 (c : Int) (rest : List BX) (call : Rec) : body E call iterL 99 [.int .u8 c] rest = some ([.bool (decide (97 ≤ c ∧ c ≤ 122))], rest) := by
  rw [body_eq fn99 (c := Tryz.f99.body.get!) rfl]
  by_cases h : 97 ≤ c
  · simp (config := {decide := true}) only [go_sem, Tryz.f99, Option.get!, ↓reduceIte, h, decide_true, decide_false, List.all_cons, List.all_nil, Bool.and_true, true_and]
  · simp (config := {decide := true}) only [go_sem, Tryz.f99, Option.get!, ↓reduceIte, h, decide_true, decide_false, List.all_cons, List.all_nil, Bool.and_true, false_and]

theorem spec141 (c : Int) (rest : List BX) (call : Rec) : body E call iterL 141 [.int .u8 c] rest = some ([.bool (decide (48 ≤ c ∧ c ≤ 57))], rest) := by
  rw [body_eq fn141 (c := Tryz.f141.body.get!) rfl]
  by_cases h : 48 ≤ c
  · simp (config := {decide := true}) only [go_sem, Tryz.f141, Option.get!, ↓reduceIte, h, decide_true, decide_false, List.all_cons, List.all_nil, Bool.and_true, true_and]
  · simp (config := {decide := true}) only [go_sem, Tryz.f141, Option.get!, ↓reduceIte, h, decide_true, decide_false, List.all_cons, List.all_nil, Bool.and_true, false_and]

end Go.Proofs.YtllilhgdnepipaaGreatDoor

/-
  How many digits stand at a place, as the abstract machine runs it (ints.digits). For texts of fewer than a million bytes.
-/
namespace Go.Proofs.YtllilhgdnepipaaGreatDoor
open Go Go.Avm
set_option linter.unusedSimpArgs false

def dig (c : UInt8) : Bool := decide (48 ≤ (c.toNat : Int)) && decide ((c.toNat : Int) ≤ 57)
/-- How many digits a text begins with. -/
def runD : List UInt8 → Nat
  | [] => 0
  | c :: l => if dig c then runD l + 1 else 0

theorem drop_end (b : ByteArray) {i : Int} (h : ¬ i < b.size) (h0 : 0 ≤ i) : b.data.toList.drop i.toNat = [] := List.drop_eq_nil_of_le (by simp; omega)

theorem spec136 (b : ByteArray) (hb : b.size < 1000000) (i0 : Int) (hi : 0 ≤ i0) (rest : List BX) (call : Rec) :
    body E call iterL 136 [.str b, .int .i64 i0] rest = some ([.int .i64 (i0 + runD (b.data.toList.drop i0.toNat))], rest) := by
  rw [body_eq fn136 (c := Tryz.f136.body.get!) rfl]
  simp (config := {decide := true}) only [go_sem, Tryz.f136, Option.get!, ↓reduceIte, decide_true, decide_false, List.all_cons, List.all_nil, Bool.and_true, headId]
  rw [loopE_run (I := fun i : Int => st [(0, .str b), (1, .int .i64 i)] [] rest)
    (R := fun i : Int => some (Ex.exit 0, st [(0, AV.str b), (1, AV.int IntKind.i64 (i + runD (b.data.toList.drop i.toNat))), (20, AV.bool false)] [] rest))
    (Inv := fun i => 0 ≤ i) (μ := fun i => (b.size - i).toNat) ?step i0 hi]
  case step =>
    intro i h0 ih
    rw [loopE_eq]
    by_cases h : i < b.size
    · have hlt : i.toNat < b.size := by omega
      have hs : sIdx b i = some b[i.toNat] := by simp [sIdx, h0, hlt]
      rw [drop_bytes b hlt]
      by_cases h2 : 48 ≤ (b[i.toNat].toNat : Int)
      · by_cases h3 : (b[i.toNat].toNat : Int) ≤ 57
        · simp (config := {decide := true}) only [go_sem, ↓reduceIte, decide_true, decide_false, List.all_cons, List.all_nil, Bool.and_true, headId, h, hs, Option.map_some, h2, h3]
          rw [wrap_succ h0 h (by omega), ih (i + 1) (by omega) (by omega)]
          have e : (i + 1).toNat = i.toNat + 1 := by omega
          have hd : dig b[i.toNat] = true := by simp [dig, h2, h3]
          simp only [runD, hd, e, if_true]
          have e3 : i + 1 + (runD (b.data.toList.drop (i.toNat + 1)) : Int) = i + ((runD (b.data.toList.drop (i.toNat + 1)) + 1 : Nat) : Int) := by omega
          rw [e3]
        · simp (config := {decide := true}) only [go_sem, ↓reduceIte, decide_true, decide_false, List.all_cons, List.all_nil, Bool.and_true, headId, h, hs, Option.map_some, h2, h3]
          have hd : dig b[i.toNat] = false := by simp [dig, h3]
          simp [runD, hd]
      · simp (config := {decide := true}) only [go_sem, ↓reduceIte, decide_true, decide_false, List.all_cons, List.all_nil, Bool.and_true, headId, h, hs, Option.map_some, h2]
        have hd : dig b[i.toNat] = false := by simp [dig, h2]
        simp [runD, hd]
    · simp (config := {decide := true}) only [go_sem, ↓reduceIte, decide_true, decide_false, List.all_cons, List.all_nil, Bool.and_true, headId, h]
      rw [drop_end b h h0]
      simp [runD]
  simp (config := {decide := true}) only [go_sem, ↓reduceIte, List.all_cons, List.all_nil, Bool.and_true]
end Go.Proofs.YtllilhgdnepipaaGreatDoor

/-
  The number of a text's digits, as the abstract machine runs it (ints.Small). For texts of fewer than a million bytes; the callee's answer is handed in.
-/
namespace Go.Proofs.YtllilhgdnepipaaGreatDoor
open Go Go.Avm
set_option linter.unusedSimpArgs false

/-- The number of digits, onto what was read. -/
def numD : List UInt8 → Int → Int
  | [], n => n
  | c :: l, n => numD l (n * 10 + ((c.toNat : Int) - 48))

/-- What Small answers. -/
def smallD (l : List UInt8) (most : Int) : Int × Bool :=
  if l.length < 1 ∨ 15 < l.length ∨ runD l ≠ l.length then (0, false) else if most < numD l 0 then (0, false) else (numD l 0, true)

theorem runD_le : ∀ l : List UInt8, runD l ≤ l.length
  | [] => Nat.le_refl _
  | c :: l => by
    simp only [runD]
    split
    · have := runD_le l; simp; omega
    · simp

theorem runD_all : ∀ {l : List UInt8}, runD l = l.length → ∀ c ∈ l, dig c = true
  | [], _, c, hc => by simp at hc
  | x :: l, h, c, hc => by
    simp only [runD] at h
    split at h
    · rename_i hd
      have h' : runD l = l.length := by simp at h; exact h
      rcases List.mem_cons.1 hc with rfl | hc
      · exact hd
      · exact runD_all h' c hc
    · simp at h

theorem dig_bounds {c : UInt8} (h : dig c = true) : 48 ≤ (c.toNat : Int) ∧ (c.toNat : Int) ≤ 57 := by
  simpa [dig] using h

theorem wrap_small {n : Int} (h0 : -9223372036854775808 ≤ n) (h1 : n ≤ 9223372036854775807) : IntKind.i64.wrap n = n := by
  rw [IntKind.wrap_i64]
  omega

theorem wrap_u8 {n : Int} (h0 : 0 ≤ n) (h1 : n < 256) : IntKind.u8.wrap n = n := by
  simp only [IntKind.wrap]
  first | omega | (simp [IntKind.bits, IntKind.signed]; omega)

theorem dig_get {b : ByteArray} (h3 : runD b.data.toList = b.size) {i : Nat} (hi : i < b.size) : 48 ≤ (b[i].toNat : Int) ∧ (b[i].toNat : Int) ≤ 57 := by
  have hl : runD b.data.toList = b.data.toList.length := by rw [h3]; simp
  refine dig_bounds (runD_all hl b[i] ?_)
  have : b.data.toList[i]'(by simpa using hi) = b[i] := rfl
  rw [← this]
  exact List.getElem_mem _

theorem spec88 (b : ByteArray) (hb : b.size < 1000000) (most : Int) (rest : List BX) (call : Rec) (hc : call 136 [.str b, .int .i64 0] [] = some ([.int .i64 (runD b.data.toList)], [])) :
    body E call iterL 88 [.str b, .int .i64 most] rest = some ([.int .i64 (smallD b.data.toList most).1, .bool (smallD b.data.toList most).2], rest) := by
  have hlen : b.data.toList.length = b.size := by simp
  rw [body_eq fn88 (c := Tryz.f88.body.get!) rfl]
  by_cases h1 : (b.size : Int) < 1
  · have e : smallD b.data.toList most = (0, false) := by unfold smallD; rw [if_pos (.inl (by omega))]
    rw [e]
    simp (config := {decide := true}) only [go_sem, Tryz.f88, Option.get!, ↓reduceIte, decide_true, decide_false, List.all_cons, List.all_nil, Bool.and_true, headId, h1]
  by_cases h2 : (15 : Int) < b.size
  · have e : smallD b.data.toList most = (0, false) := by unfold smallD; rw [if_pos (.inr (.inl (by omega)))]
    rw [e]
    simp (config := {decide := true}) only [go_sem, Tryz.f88, Option.get!, ↓reduceIte, decide_true, decide_false, List.all_cons, List.all_nil, Bool.and_true, headId, h1, h2]
  by_cases h3 : runD b.data.toList = b.size
  · have h3' : (runD b.data.toList : Int) = b.size := by omega
    rw [h3'] at hc
    simp (config := {decide := true}) only [go_sem, Tryz.f88, Option.get!, ↓reduceIte, decide_true, decide_false, List.all_cons, List.all_nil, Bool.and_true, headId, h1, h2, hc, ne_eq]
    rw [loopE_run (I := fun p : Int × Int => st [(0, .str b), (1, .int .i64 most), (6, .int .i64 p.2), (24, .int .i64 b.size), (25, .int .i64 p.1)] [] rest)
      (R := fun p : Int × Int => some (Ex.exit 0, st [(0, .str b), (1, .int .i64 most), (6, .int .i64 (numD (b.data.toList.drop p.1.toNat) p.2)), (24, .int .i64 b.size), (25, .int .i64 b.size), (26, .bool false)] [] rest))
      (Inv := fun p => 0 ≤ p.1 ∧ p.1 ≤ b.size ∧ 0 ≤ p.2 ∧ p.2 < 10 ^ p.1.toNat) (μ := fun p => (b.size - p.1).toNat) ?step (0, 0) (by simp)]
    case step =>
      rintro ⟨i, n⟩ ⟨h0, hi, hn0, hn⟩ ih
      simp only at h0 hi hn0 hn ih ⊢
      rw [loopE_eq]
      by_cases h : i < b.size
      · have hlt : i.toNat < b.size := by omega
        have hs : sIdx b i = some b[i.toNat] := by simp [sIdx, h0, hlt]
        obtain ⟨d1, d2⟩ := dig_get h3 hlt
        have hpn : (10 : Nat) ^ i.toNat ≤ 10 ^ 14 := Nat.pow_le_pow_right (by omega) (by omega)
        have hp : (10 : Int) ^ i.toNat ≤ 100000000000000 := by
          have e1 : ((10 ^ i.toNat : Nat) : Int) = (10 : Int) ^ i.toNat := Int.natCast_pow 10 i.toNat
          rw [← e1]
          have : (10 : Nat) ^ 14 = 100000000000000 := by decide
          omega
        have hsucc : (10 : Int) ^ (i.toNat + 1) = 10 ^ i.toNat * 10 := Int.pow_succ 10 i.toNat
        have e : (i + 1).toNat = i.toNat + 1 := by omega
        simp (config := {decide := true}) only [go_sem, ↓reduceIte, decide_true, decide_false, List.all_cons, List.all_nil, Bool.and_true, headId, h, hs, Option.map_some]
        rw [wrap_succ h0 h (by omega), wrap_u8 (by omega) (by omega), wrap_small (n := n * 10) (by omega) (by omega), wrap_small (n := (b[i.toNat].toNat : Int) - 48) (by omega) (by omega), wrap_small (by omega) (by omega)]
        have := ih (i + 1, n * 10 + ((b[i.toNat].toNat : Int) - 48)) ⟨by omega, by omega, by omega, by rw [e, hsucc]; omega⟩ (by omega)
        simp only at this
        rw [this, drop_bytes b hlt, e]
        rfl
      · simp (config := {decide := true}) only [go_sem, ↓reduceIte, decide_true, decide_false, List.all_cons, List.all_nil, Bool.and_true, headId, h]
        have e : i = b.size := by omega
        rw [drop_end b h h0, e]
        rfl
    have hfin : (Int.toNat 0) = 0 := rfl
    simp only [hfin, List.drop_zero]
    by_cases h4 : most < numD b.data.toList 0
    · have e : smallD b.data.toList most = (0, false) := by
        unfold smallD
        rw [if_neg (by rw [hlen]; omega), if_pos h4]
      rw [e]
      simp (config := {decide := true}) only [go_sem, ↓reduceIte, decide_true, decide_false, List.all_cons, List.all_nil, Bool.and_true, headId, h4]
    · have e : smallD b.data.toList most = (numD b.data.toList 0, true) := by
        unfold smallD
        rw [if_neg (by rw [hlen]; omega), if_neg h4]
      rw [e]
      simp (config := {decide := true}) only [go_sem, ↓reduceIte, decide_true, decide_false, List.all_cons, List.all_nil, Bool.and_true, headId, h4]
  · have e : smallD b.data.toList most = (0, false) := by unfold smallD; rw [if_pos (.inr (.inr (by rw [hlen]; exact h3)))]
    have h3' : ¬ (runD b.data.toList : Int) = b.size := by omega
    rw [e]
    simp (config := {decide := true}) only [go_sem, Tryz.f88, Option.get!, ↓reduceIte, decide_true, decide_false, List.all_cons, List.all_nil, Bool.and_true, headId, h1, h2, hc, ne_eq, h3', not_false_eq_true]
end Go.Proofs.YtllilhgdnepipaaGreatDoor

/-
  What version's number, class and cmp.Compare of numbers compute, as the abstract machine runs them. The callees' answers are handed in.
-/
namespace Go.Proofs.YtllilhgdnepipaaGreatDoor
open Go Go.Avm
set_option linter.unusedSimpArgs false

theorem spec38 (b : ByteArray) (rest : List BX) (call : Rec) (r : Int × Bool) (hc : call 88 [.str b, .int .i64 9223372036854775807] [] = some ([.int .i64 r.1, .bool r.2], [])) :
    body E call iterL 38 [.str b] rest = some ([.int .i64 r.1, .bool r.2], rest) := by
  rw [body_eq fn38 (c := Tryz.f38.body.get!) rfl]
  simp (config := {decide := true}) only [go_sem, Tryz.f38, Option.get!, ↓reduceIte, decide_true, decide_false, List.all_cons, List.all_nil, Bool.and_true, headId, hc]
/-- The place of an item's sort. -/
def classD (w : ByteArray) : Int :=
  if (w.toList == (⟨#[100, 101, 118]⟩ : ByteArray).toList) = true then 0 else if (w.toList == (⟨#[]⟩ : ByteArray).toList) = true then 2 else if (w.toList == (⟨#[112, 111, 115, 116]⟩ : ByteArray).toList) = true then 3 else 1

theorem spec133 (n : Int) (w : ByteArray) (rest : List BX) (call : Rec) :
    body E call iterL 133 [.agg [.int .i64 n, .str w]] rest = some ([.int .i64 (classD w)], rest) := by
  rw [body_eq fn133 (c := Tryz.f133.body.get!) rfl]
  simp (config := {decide := true}) only [go_sem, Tryz.f133, Option.get!, ↓reduceIte, decide_true, decide_false, List.all_cons, List.all_nil, Bool.and_true, headId]
  unfold classD
  split
  · rfl
  · split
    · rfl
    · split <;> rfl
theorem spec80 (m n : Int) (rest : List BX) (call : Rec) (h1 : call 130 [.int .i64 m] [] = some ([.bool false], [])) (h2 : call 130 [.int .i64 n] [] = some ([.bool false], [])) :
    body E call iterL 80 [.int .i64 m, .int .i64 n] rest = some ([.int .i64 (if m < n then -1 else if n < m then 1 else 0)], rest) := by
  rw [body_eq fn80 (c := Tryz.f80.body.get!) rfl]
  by_cases h3 : m < n <;> by_cases h4 : n < m <;>
    simp (config := {decide := true}) only [go_sem, Tryz.f80, Option.get!, ↓reduceIte, decide_true, decide_false, List.all_cons, List.all_nil, Bool.and_true, headId, h1, h2, h3, h4]
theorem spec130 (m : Int) (rest : List BX) (call : Rec) :
    body E call iterL 130 [.int .i64 m] rest = some ([.bool false], rest) := by
  rw [body_eq fn130 (c := Tryz.f130.body.get!) rfl]
  simp (config := {decide := true}) only [go_sem, Tryz.f130, Option.get!, ↓reduceIte, decide_true, decide_false, List.all_cons, List.all_nil, Bool.and_true, headId]
  simp
end Go.Proofs.YtllilhgdnepipaaGreatDoor

/-
  What cmp.Compare of texts and version.at of items compute, as the abstract machine runs them. The callees' answers are handed in.
-/
namespace Go.Proofs.YtllilhgdnepipaaGreatDoor
open Go Go.Avm
set_option linter.unusedSimpArgs false

theorem spec154 (m : ByteArray) (rest : List BX) (call : Rec) :
    body E call iterL 154 [.str m] rest = some ([.bool false], rest) := by
  rw [body_eq fn154 (c := Tryz.f154.body.get!) rfl]
  simp (config := {decide := true}) only [go_sem, Tryz.f154, Option.get!, ↓reduceIte, decide_true, decide_false, List.all_cons, List.all_nil, Bool.and_true, headId]
  simp
theorem spec134 (m n : ByteArray) (rest : List BX) (call : Rec) (h1 : call 154 [.str m] [] = some ([.bool false], [])) (h2 : call 154 [.str n] [] = some ([.bool false], [])) :
    body E call iterL 134 [.str m, .str n] rest = some ([.int .i64 (if Op.bytesLess m.toList n.toList = true then -1 else if m.toList = n.toList then 0 else 1)], rest) := by
  rw [body_eq fn134 (c := Tryz.f134.body.get!) rfl]
  by_cases h3 : Op.bytesLess m.toList n.toList = true
  · simp (config := {decide := true}) only [go_sem, Tryz.f134, Option.get!, ↓reduceIte, decide_true, decide_false, List.all_cons, List.all_nil, Bool.and_true, headId, h1, h2, h3]
  · by_cases h4 : m.toList = n.toList
    · simp (config := {decide := true}) only [go_sem, Tryz.f134, Option.get!, ↓reduceIte, decide_true, decide_false, List.all_cons, List.all_nil, Bool.and_true, headId, h1, h2, h3, Bool.false_or]
      simp [h4]
    · simp (config := {decide := true}) only [go_sem, Tryz.f134, Option.get!, ↓reduceIte, decide_true, decide_false, List.all_cons, List.all_nil, Bool.and_true, headId, h1, h2, h3, Bool.false_or]
      simp [h4]
abbrev Item := Int × ByteArray
def encI (x : Item) : AV := .agg [.int .i64 x.1, .str x.2]
def atI (l : List Item) (i : Int) : Item := l.getD i.toNat (0, ⟨#[]⟩)
theorem spec85 (xs : List Item) (i : Int) (h0 : 0 ≤ i) (rest : List BX) (call : Rec) :
    body E call iterL 85 [.sl (xs.map encI), .int .i64 i, .agg [.int .i64 0, .str ⟨#[]⟩]] rest = some ([encI (atI xs i)], rest) := by
  rw [body_eq fn85 (c := Tryz.f85.body.get!) rfl]
  by_cases h3 : i < (xs.length : Int)
  · have hlt : i.toNat < xs.length := by omega
    have hy : (xs.map encI)[i.toNat]? = some (encI xs[i.toNat]) := by simp [hlt]
    have ha := iAddrL_of (sz := 2) h0 hy rfl
    have hat : atI xs i = xs[i.toNat] := by simp [atI, List.getD, hlt]
    simp (config := {decide := true}) only [go_sem, Tryz.f85, Option.get!, ↓reduceIte, decide_true, decide_false, List.all_cons, List.all_nil, Bool.and_true, headId, h3, List.length_map, ha, encI, hat, segFrom, and_self, and_true]
  · have hat : atI xs i = (0, ⟨#[]⟩) := by simp [atI, List.getD, List.getElem?_eq_none (show xs.length ≤ i.toNat by omega)]
    simp (config := {decide := true}) only [go_sem, Tryz.f85, Option.get!, ↓reduceIte, decide_true, decide_false, List.all_cons, List.all_nil, Bool.and_true, headId, h3, List.length_map, hat, encI, segFrom]
end Go.Proofs.YtllilhgdnepipaaGreatDoor

/-
  What compareItems and cmp.Or of three numbers compute, as the abstract machine runs them. The callees' answers are handed in.
-/
namespace Go.Proofs.YtllilhgdnepipaaGreatDoor
open Go Go.Avm
set_option linter.unusedSimpArgs false

theorem spec84 (x y : Item) (rest : List BX) (call : Rec) (c : Int) (cx cy c1 c2 c3 : Int)
    (h1 : call 133 [encI x] [] = some ([.int .i64 cx], [])) (h2 : call 133 [encI y] [] = some ([.int .i64 cy], []))
    (h3 : call 80 [.int .i64 cx, .int .i64 cy] [] = some ([.int .i64 c1], [])) (h4 : call 134 [.str x.2, .str y.2] [] = some ([.int .i64 c2], [])) (h5 : call 80 [.int .i64 x.1, .int .i64 y.1] [] = some ([.int .i64 c3], []))
    (h6 : call 132 [.sl [.int .i64 c1, .int .i64 c2, .int .i64 c3]] [] = some ([.int .i64 c], [])) :
    body E call iterL 84 [encI x, encI y] rest = some ([.int .i64 c], rest) := by
  rw [body_eq fn84 (c := Tryz.f84.body.get!) rfl]
  simp only [encI] at h1 h2 ⊢
  simp (config := {decide := true}) only [go_sem, Tryz.f84, Option.get!, ↓reduceIte, decide_true, decide_false, List.all_cons, List.all_nil, Bool.and_true, headId, h1, h2, h3, h4, h5, h6, and_self, and_true, Bool.and_self, Bool.true_and, beq_self_eq_true]
theorem spec132 (a b c : Int) (rest : List BX) (call : Rec) :
    body E call iterL 132 [.sl [.int .i64 a, .int .i64 b, .int .i64 c]] rest = some ([.int .i64 (if a ≠ 0 then a else if b ≠ 0 then b else c)], rest) := by
  have w1 : IntKind.i64.wrap (0 + 1) = 1 := by decide
  have w2 : IntKind.i64.wrap (1 + 1) = 2 := by decide
  have w3 : IntKind.i64.wrap (2 + 1) = 3 := by decide
  have a0 : ∀ a b c : Int, iAddrL 1 0 [.int .i64 a, .int .i64 b, .int .i64 c] = some (.el [.int .i64 a]) := fun _ _ _ => rfl
  have a1 : ∀ a b c : Int, iAddrL 1 1 [.int .i64 a, .int .i64 b, .int .i64 c] = some (.el [.int .i64 b]) := fun _ _ _ => rfl
  have a2 : ∀ a b c : Int, iAddrL 1 2 [.int .i64 a, .int .i64 b, .int .i64 c] = some (.el [.int .i64 c]) := fun _ _ _ => rfl
  rw [body_eq fn132 (c := Tryz.f132.body.get!) rfl]
  by_cases ha : a = 0 <;> by_cases hb : b = 0 <;> by_cases hc : c = 0 <;>
  simp (config := {decide := true}) only [go_sem, Tryz.f132, Option.get!, ↓reduceIte, decide_true, decide_false, List.all_cons, List.all_nil, Bool.and_true, headId, loopE_eq, ha, hb, hc, a0, a1, a2, w1, w2, w3, ne_eq, not_false_eq_true, not_true_eq_false]
end Go.Proofs.YtllilhgdnepipaaGreatDoor

/-
  What compareComponents computes, as the abstract machine runs it. The callee's answer is handed in.
-/
namespace Go.Proofs.YtllilhgdnepipaaGreatDoor
open Go Go.Avm
set_option linter.unusedSimpArgs false

theorem spec82 (xs ys : List Item) (rest : List BX) (call : Rec) (c : Int)
    (h : call 131 [.sl (xs.map encI), .sl (ys.map encI), .agg [.int .i64 0, .str ⟨#[]⟩], .fn 84 []] [] = some ([.int .i64 c], [])) :
    body E call iterL 82 [.sl (xs.map encI), .sl (ys.map encI)] rest = some ([.int .i64 c], rest) := by
  rw [body_eq fn82 (c := Tryz.f82.body.get!) rfl]
  simp (config := {decide := true}) only [go_sem, Tryz.f82, Option.get!, ↓reduceIte, decide_true, decide_false, List.all_cons, List.all_nil, Bool.and_true, headId, h]
end Go.Proofs.YtllilhgdnepipaaGreatDoor

/-
  What rows computes of two lists of items, nil or not, as the abstract machine runs it (version.rows). For lists of fewer than a million items; the callees' answers are handed in.
-/
namespace Go.Proofs.YtllilhgdnepipaaGreatDoor
open Go Go.Avm
set_option linter.unusedSimpArgs false

/-- The first that is not 0. -/
def firstFrom (p : Int → Int) : Nat → Int → Int
  | 0, _ => 0
  | n + 1, i => if p i = 0 then firstFrom p n (i + 1) else p i

def zeroI : AV := .agg [.int .i64 0, .str ⟨#[]⟩]

/-- A row of items as a value: nil, if it is empty, perhaps. -/
def IsL (u : AV) (xs : List Item) : Prop := u = .sl (xs.map encI) ∨ (u = .nilS ∧ xs = [])

theorem IsL.len {u : AV} {xs : List Item} (h : IsL u xs) : lenO (some ⟨.slice 122, 1, 24, [.nilS]⟩) (some u) = some (.int .i64 xs.length) := by
  rcases h with rfl | ⟨rfl, rfl⟩
  · simp [lenO]
  · rfl
theorem IsL.strip {u : AV} {xs : List Item} (h : IsL u xs) : u.strip = u := by rcases h with rfl | ⟨rfl, rfl⟩ <;> rfl
theorem IsL.dat {u : AV} {xs : List Item} (h : IsL u xs) : u.data = true := by rcases h with rfl | ⟨rfl, rfl⟩ <;> rfl
theorem IsL.san {u : AV} {xs : List Item} (h : IsL u xs) (bs : List Nat) : Go.Avm.san bs u = u := by rcases h with rfl | ⟨rfl, rfl⟩ <;> rfl

theorem spec131 {u v : AV} (xs ys : List Item) (hu : IsL u xs) (hv : IsL v ys) (hx : xs.length < 1000000) (hy : ys.length < 1000000) (rest : List BX) (call : Rec) (cmp : Item → Item → Int)
    (hat : ∀ (u : AV) (l : List Item) (i : Int), IsL u l → 0 ≤ i → call 85 [u, .int .i64 i, .agg [.int .i64 0, .str ⟨#[]⟩]] [] = some ([encI (atI l i)], []))
    (hcmp : ∀ x y : Item, call 84 [encI x, encI y] [] = some ([.int .i64 (cmp x y)], [])) :
    body E call iterL 131 [u, v, .agg [.int .i64 0, .str ⟨#[]⟩], .fn 84 []] rest =
      some ([.int .i64 (firstFrom (fun i => cmp (atI xs i) (atI ys i)) (max xs.length ys.length) 0)], rest) := by
  have hm : (if (ys.length : Int) > xs.length then (ys.length : Int) else xs.length) = ((max xs.length ys.length : Nat) : Int) := by
    split <;> omega
  generalize hM : max xs.length ys.length = M at hm ⊢
  have hMb : M < 1000000 := by omega
  simp only [encI] at hat hcmp
  have k1 := hu.len
  have k2 := hv.len
  have k3 := hu.strip
  have k4 := hv.strip
  have k5 := hu.dat
  have k6 := hv.dat
  have k7 := hu.san
  have k8 := hv.san
  rw [body_eq fn131 (c := Tryz.f131.body.get!) rfl]
  simp (config := {decide := true}) only [go_sem, Tryz.f131, Option.get!, ↓reduceIte, decide_true, decide_false, List.all_cons, List.all_nil, Bool.and_true, headId, k1, k2, k3, k4, k5, k6, k7, k8, List.length_map, hm]
  rw [loopE_run (I := fun i : Int => st [(0, u), (1, v), (3, .fn 84 []), (6, .box 0 (bid 122 6) 0), (15, .int .i64 M), (16, .int .i64 i)] [(12200006, some [.int .i64 0, .str ⟨#[]⟩])] rest)
    (R := fun i : Int => some (if firstFrom (fun i => cmp (atI xs i) (atI ys i)) (M - i.toNat) i = 0
      then (Ex.exit 0, st [(0, u), (1, v), (3, .fn 84 []), (6, .box 0 (bid 122 6) 0), (15, .int .i64 M), (16, .int .i64 M), (17, .bool false)] [(12200006, some [.int .i64 0, .str ⟨#[]⟩])] rest)
      else (Ex.ret, st [(8, .int .i64 (firstFrom (fun i => cmp (atI xs i) (atI ys i)) (M - i.toNat) i))] [] rest)))
    (Inv := fun i => 0 ≤ i ∧ i ≤ M) (μ := fun i => (M - i).toNat) ?step 0 (by simp)]
  case step =>
    rintro i ⟨h0, h1⟩ ih
    rw [loopE_eq]
    by_cases h : i < (M : Int)
    · have hn : M - i.toNat = (M - (i + 1).toNat) + 1 := by omega
      have ha := hat u xs i hu h0
      have hb := hat v ys i hv h0
      have hc := hcmp (atI xs i) (atI ys i)
      by_cases h2 : cmp (atI xs i) (atI ys i) = 0
      · simp (config := {decide := true}) only [go_sem, ↓reduceIte, decide_true, decide_false, List.all_cons, List.all_nil, Bool.and_true, headId, k1, k2, k3, k4, k5, k6, k7, k8, h, ha, hb, hc, h2, ne_eq, not_true_eq_false, segFrom, and_self, and_true]
        rw [wrap_succ h0 h (by omega), ih (i + 1) (by omega) (by omega)]
        simp only [hn, firstFrom, h2, if_true]
      · simp (config := {decide := true}) only [go_sem, ↓reduceIte, decide_true, decide_false, List.all_cons, List.all_nil, Bool.and_true, headId, k1, k2, k3, k4, k5, k6, k7, k8, h, ha, hb, hc, h2, ne_eq, not_false_eq_true, segFrom, and_self, and_true]
        rw [hn]
        simp only [firstFrom, h2, if_false]
    · simp (config := {decide := true}) only [go_sem, ↓reduceIte, decide_true, decide_false, List.all_cons, List.all_nil, Bool.and_true, headId, k1, k2, k3, k4, k5, k6, k7, k8, h]
      have e : i = M := by omega
      subst e
      simp [firstFrom]
  have hfin : M - Int.toNat 0 = M := by simp
  rw [hfin]
  by_cases h : firstFrom (fun i => cmp (atI xs i) (atI ys i)) M 0 = 0
  · simp (config := {decide := true}) only [go_sem, ↓reduceIte, h, List.all_cons, List.all_nil, Bool.and_true]
  · simp (config := {decide := true}) only [go_sem, ↓reduceIte, h, List.all_cons, List.all_nil, Bool.and_true]
end Go.Proofs.YtllilhgdnepipaaGreatDoor

/-
  What version.at computes of a list of components, as the abstract machine runs it. For every list.
-/
namespace Go.Proofs.YtllilhgdnepipaaGreatDoor
open Go Go.Avm
set_option linter.unusedSimpArgs false

def encC (l : List Item) : AV := .sl (l.map encI)
theorem spec83 (xs : List (List Item)) (i : Int) (h0 : 0 ≤ i) (call : Rec) :
    body E call iterL 83 [.sl (xs.map encC), .int .i64 i, .nilS] [] = some ([if h : i.toNat < xs.length then encC xs[i.toNat] else .nilS], []) := by
  rw [body_eq fn83 (c := Tryz.f83.body.get!) rfl]
  by_cases h3 : i < (xs.length : Int)
  · have hlt : i.toNat < xs.length := by omega
    have hy : (xs.map encC)[i.toNat]? = some (encC xs[i.toNat]) := by simp [hlt]
    have ha := iAddrL_of (sz := 1) h0 hy rfl
    simp (config := {decide := true}) only [go_sem, Tryz.f83, Option.get!, ↓reduceIte, decide_true, decide_false, List.all_cons, List.all_nil, Bool.and_true, headId, h3, List.length_map, ha, encC, hlt, dite_true]
  · have hlt : ¬ i.toNat < xs.length := by omega
    simp (config := {decide := true}) only [go_sem, Tryz.f83, Option.get!, ↓reduceIte, decide_true, decide_false, List.all_cons, List.all_nil, Bool.and_true, headId, h3, List.length_map, hlt, dite_false]
theorem spec85n (i : Int) (h0 : 0 ≤ i) (call : Rec) :
    body E call iterL 85 [.nilS, .int .i64 i, .agg [.int .i64 0, .str ⟨#[]⟩]] [] = some ([encI (0, ⟨#[]⟩)], []) := by
  rw [body_eq fn85 (c := Tryz.f85.body.get!) rfl]
  have h3 : ¬ i < 0 := by omega
  simp (config := {decide := true}) only [go_sem, Tryz.f85, Option.get!, ↓reduceIte, decide_true, decide_false, List.all_cons, List.all_nil, Bool.and_true, headId, h3, encI, segFrom]
theorem spec83n (i : Int) (h0 : 0 ≤ i) (call : Rec) :
    body E call iterL 83 [.nilS, .int .i64 i, .nilS] [] = some ([.nilS], []) := by
  rw [body_eq fn83 (c := Tryz.f83.body.get!) rfl]
  have h3 : ¬ i < 0 := by omega
  simp (config := {decide := true}) only [go_sem, Tryz.f83, Option.get!, ↓reduceIte, decide_true, decide_false, List.all_cons, List.all_nil, Bool.and_true, headId, h3, segFrom]

theorem spec82g {u v : AV} {xs ys : List Item} (hu : IsL u xs) (hv : IsL v ys) (call : Rec) (c : Int)
    (h : call 131 [u, v, .agg [.int .i64 0, .str ⟨#[]⟩], .fn 84 []] [] = some ([.int .i64 c], [])) :
    body E call iterL 82 [u, v] [] = some ([.int .i64 c], []) := by
  have k3 := hu.strip
  have k4 := hv.strip
  have k5 := hu.dat
  have k6 := hv.dat
  have k7 := hu.san
  have k8 := hv.san
  rw [body_eq fn82 (c := Tryz.f82.body.get!) rfl]
  simp (config := {decide := true}) only [go_sem, Tryz.f82, Option.get!, ↓reduceIte, decide_true, decide_false, List.all_cons, List.all_nil, Bool.and_true, headId, h, k3, k4, k5, k6, k7, k8]
end Go.Proofs.YtllilhgdnepipaaGreatDoor

/-
  What version.Compare computes, as the abstract machine runs it. The callees' answers are handed in.
-/
namespace Go.Proofs.YtllilhgdnepipaaGreatDoor
open Go Go.Avm
set_option linter.unusedSimpArgs false

/-- A value that no machinery of the machine touches. -/
structure Plain (u : AV) : Prop where
  strip : u.strip = u
  data : u.data = true
  one : u.one = true
  san : ∀ bs, Go.Avm.san bs u = u
  shift : ∀ m, AV.shift m u = u
  kill : ∀ m, killV m u = u
  cells : u.cells = [u]
theorem plain_sl (xs : List AV) : Plain (.sl xs) := ⟨rfl, rfl, rfl, fun _ => rfl, fun _ => rfl, fun _ => rfl, rfl⟩
theorem plain_nilS : Plain .nilS := ⟨rfl, rfl, rfl, fun _ => rfl, fun _ => rfl, fun _ => rfl, rfl⟩
theorem spec33 (a b : Int) (u v u' v' : AV) (call : Rec) (c0 c1 c2 : Int) (hu : Plain u) (hv : Plain v) (hu' : Plain u') (hv' : Plain v')
    (h0 : call 80 [.int .i64 a, .int .i64 b] [] = some ([.int .i64 c0], []))
    (h1 : call 81 [u, v, .nilS, .fn 82 []] [] = some ([.int .i64 c1], [])) (h2 : call 81 [u', v', .nilS, .fn 82 []] [] = some ([.int .i64 c2], [])) :
    body E call iterL 33 [.agg [.int .i64 a, u, u'], .agg [.int .i64 b, v, v']] [] = some ([.int .i64 (if c0 ≠ 0 then c0 else if c1 ≠ 0 then c1 else c2)], []) := by
  rw [body_eq fn33 (c := Tryz.f33.body.get!) rfl]
  by_cases e0 : c0 = 0 <;> by_cases e1 : c1 = 0 <;>
  simp (config := {decide := true}) only [go_sem, Tryz.f33, Option.get!, ↓reduceIte, decide_true, decide_false, List.all_cons, List.all_nil, Bool.and_true, Bool.and_self, headId, h0, h1, h2, e0, e1, ne_eq, not_true_eq_false, not_false_eq_true,
    hu.strip, hu.data, hu.one, hu.san, hu.shift, hu.kill, hu.cells, hv.strip, hv.data, hv.one, hv.san, hv.shift, hv.kill, hv.cells, hu'.strip, hu'.data, hu'.one, hu'.san, hu'.shift, hu'.kill, hu'.cells, hv'.strip, hv'.data, hv'.one, hv'.san, hv'.shift, hv'.kill, hv'.cells]
end Go.Proofs.YtllilhgdnepipaaGreatDoor

/-
  What rows computes of two lists of components, nil or not, as the abstract machine runs it (version.rows). For lists of fewer than a million; the callees' answers are handed in.
-/
namespace Go.Proofs.YtllilhgdnepipaaGreatDoor
open Go Go.Avm
set_option linter.unusedSimpArgs false

/-- A row of components as a value. -/
def IsP (u : AV) (xs : List (List Item)) : Prop := u = .sl (xs.map encC) ∨ (u = .nilS ∧ xs = [])
theorem IsP.len {u : AV} {xs : List (List Item)} (h : IsP u xs) : lenO (some ⟨.slice 87, 1, 24, [.nilS]⟩) (some u) = some (.int .i64 xs.length) := by
  rcases h with rfl | ⟨rfl, rfl⟩
  · simp [lenO]
  · rfl
theorem IsP.strip {u : AV} {xs : List (List Item)} (h : IsP u xs) : u.strip = u := by rcases h with rfl | ⟨rfl, rfl⟩ <;> rfl
theorem IsP.dat {u : AV} {xs : List (List Item)} (h : IsP u xs) : u.data = true := by rcases h with rfl | ⟨rfl, rfl⟩ <;> rfl
theorem IsP.san {u : AV} {xs : List (List Item)} (h : IsP u xs) (bs : List Nat) : Go.Avm.san bs u = u := by rcases h with rfl | ⟨rfl, rfl⟩ <;> rfl

def atV (xs : List (List Item)) (i : Int) : AV := if h : i.toNat < xs.length then encC xs[i.toNat] else .nilS
def atP (xs : List (List Item)) (i : Int) : List Item := xs.getD i.toNat []
theorem atV_isL (xs : List (List Item)) (i : Int) : IsL (atV xs i) (atP xs i) := by
  unfold atV atP
  split
  · rename_i h
    have : xs.getD i.toNat [] = xs[i.toNat] := by simp [List.getD, h]
    rw [this]
    exact .inl rfl
  · rename_i h
    exact .inr ⟨rfl, by simp [List.getD, List.getElem?_eq_none (show xs.length ≤ i.toNat by omega)]⟩
theorem atP_mem (xs : List (List Item)) (i : Int) : atP xs i ∈ xs ∨ atP xs i = [] := by
  unfold atP
  by_cases h : i.toNat < xs.length
  · exact .inl (by rw [show xs.getD i.toNat [] = xs[i.toNat] by simp [List.getD, h]]; exact List.getElem_mem h)
  · exact .inr (by simp [List.getD, List.getElem?_eq_none (show xs.length ≤ i.toNat by omega)])
theorem atV_put (xs : List (List Item)) (i : Int) (s : S) (dr : Bool) (d : Option Nat) : s.putRes dr d [atV xs i] = s.put d (atV xs i) := by
  unfold atV
  split <;> rfl

theorem spec81 {u v : AV} (xs ys : List (List Item)) (hu : IsP u xs) (hv : IsP v ys) (hx : xs.length < 1000000) (hy : ys.length < 1000000) (call : Rec) (cmp : List Item → List Item → Int)
    (hat : ∀ (u : AV) (l : List (List Item)) (i : Int), IsP u l → 0 ≤ i → call 83 [u, .int .i64 i, .nilS] [] = some ([atV l i], []))
    (hcmp : ∀ (u v : AV) (x y : List Item), IsL u x → IsL v y → (x ∈ xs ∨ x = []) → (y ∈ ys ∨ y = []) → call 82 [u, v] [] = some ([.int .i64 (cmp x y)], [])) :
    body E call iterL 81 [u, v, .nilS, .fn 82 []] [] =
      some ([.int .i64 (firstFrom (fun i => cmp (atP xs i) (atP ys i)) (max xs.length ys.length) 0)], []) := by
  have hm : (if (ys.length : Int) > xs.length then (ys.length : Int) else xs.length) = ((max xs.length ys.length : Nat) : Int) := by
    split <;> omega
  generalize hM : max xs.length ys.length = M at hm ⊢
  have hMb : M < 1000000 := by omega
  have k1 := hu.len
  have k2 := hv.len
  have k3 := hu.strip
  have k4 := hv.strip
  have k5 := hu.dat
  have k6 := hv.dat
  have k7 := hu.san
  have k8 := hv.san
  rw [body_eq fn81 (c := Tryz.f81.body.get!) rfl]
  simp (config := {decide := true}) only [go_sem, Tryz.f81, Option.get!, ↓reduceIte, decide_true, decide_false, List.all_cons, List.all_nil, Bool.and_true, headId, k1, k2, k3, k4, k5, k6, k7, k8, List.length_map, hm]
  rw [loopE_run (I := fun i : Int => st [(0, u), (1, v), (2, .nilS), (3, .fn 82 []), (15, .int .i64 M), (16, .int .i64 i)] [] [])
    (R := fun i : Int => some (if firstFrom (fun i => cmp (atP xs i) (atP ys i)) (M - i.toNat) i = 0
      then (Ex.exit 0, st [(0, u), (1, v), (2, .nilS), (3, .fn 82 []), (15, .int .i64 M), (16, .int .i64 M), (17, .bool false)] [] [])
      else (Ex.ret, st [(8, .int .i64 (firstFrom (fun i => cmp (atP xs i) (atP ys i)) (M - i.toNat) i))] [] [])))
    (Inv := fun i => 0 ≤ i ∧ i ≤ M) (μ := fun i => (M - i).toNat) ?step 0 (by simp)]
  case step =>
    rintro i ⟨h0, h1⟩ ih
    rw [loopE_eq]
    by_cases h : i < (M : Int)
    · have hn : M - i.toNat = (M - (i + 1).toNat) + 1 := by omega
      have ha := hat u xs i hu h0
      have hb := hat v ys i hv h0
      have hc := hcmp (atV xs i) (atV ys i) (atP xs i) (atP ys i) (atV_isL xs i) (atV_isL ys i) (atP_mem xs i) (atP_mem ys i)
      have j1 := (atV_isL xs i).strip
      have j2 := (atV_isL ys i).strip
      have j3 := (atV_isL xs i).dat
      have j4 := (atV_isL ys i).dat
      have j5 := (atV_isL xs i).san
      have j6 := (atV_isL ys i).san
      have j7 := atV_put xs i
      have j8 := atV_put ys i
      by_cases h2 : cmp (atP xs i) (atP ys i) = 0
      · simp (config := {decide := true}) only [go_sem, ↓reduceIte, decide_true, decide_false, List.all_cons, List.all_nil, Bool.and_true, headId, k1, k2, k3, k4, k5, k6, k7, k8, h, ha, hb, hc, h2, j1, j2, j3, j4, j5, j6, j7, j8, ne_eq, not_true_eq_false, segFrom, and_self, and_true]
        rw [wrap_succ h0 h (by omega), ih (i + 1) (by omega) (by omega)]
        simp only [hn, firstFrom, h2, if_true]
      · simp (config := {decide := true}) only [go_sem, ↓reduceIte, decide_true, decide_false, List.all_cons, List.all_nil, Bool.and_true, headId, k1, k2, k3, k4, k5, k6, k7, k8, h, ha, hb, hc, h2, j1, j2, j3, j4, j5, j6, j7, j8, ne_eq, not_false_eq_true, segFrom, and_self, and_true]
        rw [hn]
        simp only [firstFrom, h2, if_false]
    · simp (config := {decide := true}) only [go_sem, ↓reduceIte, decide_true, decide_false, List.all_cons, List.all_nil, Bool.and_true, headId, k1, k2, k3, k4, k5, k6, k7, k8, h]
      have e : i = M := by omega
      subst e
      simp [firstFrom]
  have hfin : M - Int.toNat 0 = M := by simp
  rw [hfin]
  by_cases h : firstFrom (fun i => cmp (atP xs i) (atP ys i)) M 0 = 0
  · simp (config := {decide := true}) only [go_sem, ↓reduceIte, h, List.all_cons, List.all_nil, Bool.and_true]
  · simp (config := {decide := true}) only [go_sem, ↓reduceIte, h, List.all_cons, List.all_nil, Bool.and_true]
end Go.Proofs.YtllilhgdnepipaaGreatDoor

/-
  What the document's run and Small compute, as the abstract machine runs them. For texts of fewer than a million bytes; the callee's answer is handed in.
-/
namespace Go.Proofs.YtllilhgdnepipaaGreatDoor
open Go Go.Avm
set_option linter.unusedSimpArgs false

theorem wrap_id {n : Int} (h0 : 0 ≤ n) (h1 : n < 2000000) : IntKind.i64.wrap n = n := wrap_small (by omega) (by omega)

theorem spec91 (b : ByteArray) (hb : b.size < 1000000) (call : Rec) :
    body E call iterL 91 [.str b, .int .i64 0] [] = some ([.int .i64 (runD b.data.toList)], []) := by
  rw [body_eq fn91 (c := Tryz.f91.body.get!) rfl]
  simp (config := {decide := true}) only [go_sem, Tryz.f91, Option.get!, ↓reduceIte, decide_true, decide_false, List.all_cons, List.all_nil, Bool.and_true, headId]
  rw [loopE_run (I := fun i : Int => st [(0, .str b), (1, .int .i64 0), (5, .int .i64 i)] [] [])
    (R := fun i : Int => some (Ex.exit 0, st [(0, AV.str b), (1, .int .i64 0), (5, AV.int IntKind.i64 (i + runD (b.data.toList.drop i.toNat))), (27, AV.bool false)] [] []))
    (Inv := fun i => 0 ≤ i ∧ i ≤ b.size) (μ := fun i => (b.size - i).toNat) ?step 0 (by simp)]
  case step =>
    rintro i ⟨h0, h9⟩ ih
    rw [loopE_eq]
    have hw : IntKind.i64.wrap (0 + i) = i := by rw [Int.zero_add]; exact wrap_id h0 (by omega)
    by_cases h : i < b.size
    · have hlt : i.toNat < b.size := by omega
      have hs : sIdx b i = some b[i.toNat] := by simp [sIdx, h0, hlt]
      rw [drop_bytes b hlt]
      by_cases h2 : 48 ≤ (b[i.toNat].toNat : Int)
      · by_cases h3 : (b[i.toNat].toNat : Int) ≤ 57
        · simp (config := {decide := true}) only [go_sem, ↓reduceIte, decide_true, decide_false, List.all_cons, List.all_nil, Bool.and_true, headId, hw, h, hs, Option.map_some, h2, h3]
          rw [wrap_succ h0 h (by omega), ih (i + 1) (by omega) (by omega)]
          have e : (i + 1).toNat = i.toNat + 1 := by omega
          have hd : dig b[i.toNat] = true := by simp [dig, h2, h3]
          simp only [runD, hd, e, if_true]
          have e3 : i + 1 + (runD (b.data.toList.drop (i.toNat + 1)) : Int) = i + ((runD (b.data.toList.drop (i.toNat + 1)) + 1 : Nat) : Int) := by omega
          rw [e3]
        · simp (config := {decide := true}) only [go_sem, ↓reduceIte, decide_true, decide_false, List.all_cons, List.all_nil, Bool.and_true, headId, hw, h, hs, Option.map_some, h2, h3]
          have hd : dig b[i.toNat] = false := by simp [dig, h3]
          simp [runD, hd]
      · simp (config := {decide := true}) only [go_sem, ↓reduceIte, decide_true, decide_false, List.all_cons, List.all_nil, Bool.and_true, headId, hw, h, hs, Option.map_some, h2]
        have hd : dig b[i.toNat] = false := by simp [dig, h2]
        simp [runD, hd]
    · simp (config := {decide := true}) only [go_sem, ↓reduceIte, decide_true, decide_false, List.all_cons, List.all_nil, Bool.and_true, headId, hw, h]
      rw [drop_end b h h0]
      simp [runD]
  have hfin : (Int.toNat 0) = 0 := rfl
  simp (config := {decide := true}) only [go_sem, ↓reduceIte, List.all_cons, List.all_nil, Bool.and_true, hfin, List.drop_zero, Int.zero_add]

theorem toList_empty {b : ByteArray} (h : b.size ≠ 0) : (b.toList == (⟨#[]⟩ : ByteArray).toList) = false := by
  have hl : b.data.toList.length = b.size := by simp
  rw [ByteArray.toList_eq, ByteArray.toList_eq]
  cases hl' : b.data.toList with
  | nil => rw [hl'] at hl; simp at hl; omega
  | cons c l => rfl

theorem empty_of {b : ByteArray} (h : b.size = 0) : b = ⟨#[]⟩ := by
  cases b with
  | mk d =>
    have : d = #[] := Array.eq_empty_of_size_eq_zero h
    subst this
    rfl

/-- What the document's Small answers. -/
def smallR (l : List UInt8) (most : Int) : Int :=
  if l.length < 1 ∨ 15 < l.length ∨ runD l ≠ l.length then -1 else if most < numD l 0 then -1 else numD l 0

theorem spec42 (b : ByteArray) (hb : b.size < 1000000) (most : Int) (call : Rec) (hc : call 91 [.str b, .int .i64 0] [] = some ([.int .i64 (runD b.data.toList)], [])) :
    body E call iterL 42 [.str b, .int .i64 most] [] = some ([.int .i64 (smallR b.data.toList most)], []) := by
  have hlen : b.data.toList.length = b.size := by simp
  rw [body_eq fn42 (c := Tryz.f42.body.get!) rfl]
  by_cases h1 : b.size = 0
  · have e : smallR b.data.toList most = -1 := by unfold smallR; rw [if_pos (.inl (by omega))]
    rw [e]
    have hb := empty_of h1
    subst hb
    have hbb : ((⟨#[]⟩ : ByteArray).toList == (⟨#[]⟩ : ByteArray).toList) = true := beq_self_eq_true _
    simp (config := {decide := true}) only [go_sem, Tryz.f42, Option.get!, ↓reduceIte, decide_true, decide_false, List.all_cons, List.all_nil, Bool.and_true, headId, hbb]
  have he := toList_empty h1
  by_cases h2 : (15 : Int) < b.size
  · have e : smallR b.data.toList most = -1 := by unfold smallR; rw [if_pos (.inr (.inl (by omega)))]
    rw [e]
    simp (config := {decide := true}) only [go_sem, Tryz.f42, Option.get!, ↓reduceIte, decide_true, decide_false, List.all_cons, List.all_nil, Bool.and_true, headId, he, h2]
  have hle := runD_le b.data.toList
  by_cases h3 : runD b.data.toList = b.size
  · have h3' : (runD b.data.toList : Int) = b.size := by omega
    have hnl : ¬ (b.size : Int) < b.size := by omega
    rw [h3'] at hc
    simp (config := {decide := true}) only [go_sem, Tryz.f42, Option.get!, ↓reduceIte, decide_true, decide_false, List.all_cons, List.all_nil, Bool.and_true, headId, he, h2, hc, hnl]
    rw [loopE_run (I := fun p : Int × Int => st [(0, .str b), (1, .int .i64 most), (5, .int .i64 p.2), (6, .int .i64 p.1)] [] [])
      (R := fun p : Int × Int => some (Ex.exit 0, st [(0, .str b), (1, .int .i64 most), (5, .int .i64 (numD (b.data.toList.drop p.1.toNat) p.2)), (6, .int .i64 b.size), (24, .bool false)] [] []))
      (Inv := fun p => 0 ≤ p.1 ∧ p.1 ≤ b.size ∧ 0 ≤ p.2 ∧ p.2 < 10 ^ p.1.toNat) (μ := fun p => (b.size - p.1).toNat) ?step (0, 0) (by simp)]
    case step =>
      rintro ⟨i, n⟩ ⟨h0, hi, hn0, hn⟩ ih
      simp only at h0 hi hn0 hn ih ⊢
      rw [loopE_eq]
      by_cases h : i < b.size
      · have hlt : i.toNat < b.size := by omega
        have hs : sIdx b i = some b[i.toNat] := by simp [sIdx, h0, hlt]
        obtain ⟨d1, d2⟩ := dig_get h3 hlt
        have hpn : (10 : Nat) ^ i.toNat ≤ 10 ^ 14 := Nat.pow_le_pow_right (by omega) (by omega)
        have hp : (10 : Int) ^ i.toNat ≤ 100000000000000 := by
          have e1 : ((10 ^ i.toNat : Nat) : Int) = (10 : Int) ^ i.toNat := Int.natCast_pow 10 i.toNat
          rw [← e1]
          have : (10 : Nat) ^ 14 = 100000000000000 := by decide
          omega
        have hsucc : (10 : Int) ^ (i.toNat + 1) = 10 ^ i.toNat * 10 := Int.pow_succ 10 i.toNat
        have e : (i + 1).toNat = i.toNat + 1 := by omega
        simp (config := {decide := true}) only [go_sem, ↓reduceIte, decide_true, decide_false, List.all_cons, List.all_nil, Bool.and_true, headId, h, hs, Option.map_some]
        rw [wrap_succ h0 h (by omega), wrap_u8 (by omega) (by omega), wrap_small (n := 10 * n) (by omega) (by omega), wrap_small (n := (b[i.toNat].toNat : Int) - 48) (by omega) (by omega), wrap_small (by omega) (by omega), Int.mul_comm 10 n]
        have := ih (i + 1, n * 10 + ((b[i.toNat].toNat : Int) - 48)) ⟨by omega, by omega, by omega, by rw [e, hsucc]; omega⟩ (by omega)
        simp only at this
        rw [this, drop_bytes b hlt, e]
        rfl
      · simp (config := {decide := true}) only [go_sem, ↓reduceIte, decide_true, decide_false, List.all_cons, List.all_nil, Bool.and_true, headId, h]
        have e : i = b.size := by omega
        rw [drop_end b h h0, e]
        rfl
    have hfin : (Int.toNat 0) = 0 := rfl
    simp only [hfin, List.drop_zero]
    by_cases h4 : most < numD b.data.toList 0
    · have e : smallR b.data.toList most = -1 := by
        unfold smallR
        rw [if_neg (by rw [hlen]; omega), if_pos h4]
      rw [e]
      simp (config := {decide := true}) only [go_sem, ↓reduceIte, decide_true, decide_false, List.all_cons, List.all_nil, Bool.and_true, headId, h4]
    · have e : smallR b.data.toList most = numD b.data.toList 0 := by
        unfold smallR
        rw [if_neg (by rw [hlen]; omega), if_neg h4]
      rw [e]
      simp (config := {decide := true}) only [go_sem, ↓reduceIte, decide_true, decide_false, List.all_cons, List.all_nil, Bool.and_true, headId, h4]
  · have e : smallR b.data.toList most = -1 := by unfold smallR; rw [if_pos (.inr (.inr (by rw [hlen]; exact h3)))]
    have h3' : (runD b.data.toList : Int) < b.size := by omega
    rw [e]
    simp (config := {decide := true}) only [go_sem, Tryz.f42, Option.get!, ↓reduceIte, decide_true, decide_false, List.all_cons, List.all_nil, Bool.and_true, headId, he, h2, hc, h3']
end Go.Proofs.YtllilhgdnepipaaGreatDoor
