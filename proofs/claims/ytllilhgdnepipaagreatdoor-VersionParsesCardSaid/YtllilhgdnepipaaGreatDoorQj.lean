-- Merged by a small program of this claim's maker out of 4 texts.
import Derived.Test.YtllilhgdnepipaaGreatDoorQi

/-
  What the Builder's writes and ints.Text compute, as the abstract machine runs them, over a Builder that a frame below holds. For texts of fewer than a million bytes; the callees' answers are handed in.
-/
namespace Go.Proofs.YtllilhgdnepipaaGreatDoor
open Go Go.Avm
set_option linter.unusedSimpArgs false

/-- The variables of Text's frame: the version, the Builder. -/
def bA (vc : List AV) (cs : List AV) : List (Nat × Option (List AV)) := [(2500001, some vc), (7900003, some cs)]
/-- A Builder's cells: nothing written yet; so many bytes written. -/
def bld : Option (List UInt8) → List AV
  | none => [.nilP, .nilS]
  | some l => [.box 0 7900003 0, .own 15800006003 5 (encB l)]
/-- The same behind copyCheck. -/
def bld1 : Option (List UInt8) → List AV
  | none => [.box 0 7900003 0, .nilS]
  | some l => [.box 0 7900003 0, .own 15800006003 5 (encB l)]
def bldT : Option (List UInt8) → List UInt8
  | none => []
  | some l => l

theorem spec47 (n : Int) (t : List UInt8) (call : Rec) (h97 : call 97 [.int .i64 n] [] = some ([.str (toB t)], [])) : body E call iterL 47 [.int .i64 n] [] = some ([.str (toB t)], []) := by
  rw [body_eq fn47 (c := Tryz.f47.body.get!) rfl]
  simp (config := {decide := true}) only [go_sem, ↓reduceIte, decide_true, decide_false, List.all_cons, List.all_nil, Bool.and_true, headId, Tryz.f47, Option.get!, h97]

theorem spec46_1 (vc : List AV) (hvc : ∀ t, vc.map (killV t) = vc) (s : Option (List UInt8)) (w : List UInt8) (hl : (bldT s).length + w.length < 1000000) (call : Rec)
    (h96 : call 96 [.box 2 7900003 0] (ofB [] :: [ofB (bA vc (bld s))]) = some ([], ofB [] :: [ofB (bA vc (bld1 s))])) :
    body E call iterL 46 [.box 1 7900003 0, .str (toB w)] [ofB (bA vc (bld s))] = some ([.int .i64 w.length, .nilI], [ofB (bA vc (bld (some (bldT s ++ w))))]) := by
  have hl' : (toB w).data.toList = w := rfl
  rw [body_eq fn46 (c := Tryz.f46.body.get!) rfl]
  cases s with
  | none =>
    simp only [bld1, bld, bA, bldT, List.nil_append] at h96 hl ⊢
    simp (config := {decide := true}) only [go_sem, ↓reduceIte, decide_true, decide_false, List.all_cons, List.all_nil, Bool.and_true, headId, Tryz.f46, Option.get!, bld1, bld, bA, bldT, h96, lookR_zero, lookR_one, srcT_str, hl', app_bytes_nil _ _ _ _ (show w.length < 100000000 by simp at hl; omega), kb_of, hvc, Nat.reduceMul, Nat.reduceAdd, Nat.reduceSub, updB_of, modR_zero, modR_one, setB_st1, setB_st2, look_st1, look_st2, toB_size, encB_length]
  | some l =>
    simp only [bld1, bld, bA, bldT] at h96 hl ⊢
    simp (config := {decide := true}) only [go_sem, ↓reduceIte, decide_true, decide_false, List.all_cons, List.all_nil, Bool.and_true, headId, Tryz.f46, Option.get!, bld1, bld, bA, bldT, h96, lookR_zero, lookR_one, srcT_str, hl', app_bytes _ _ _ _ _ _ (show l.length + w.length < 100000000 by omega), kb_of, hvc, Nat.reduceMul, Nat.reduceAdd, Nat.reduceSub, updB_of, modR_zero, modR_one, setB_st1, setB_st2, look_st1, look_st2, toB_size, encB_length]

theorem spec46_2 (vc : List AV) (hvc : ∀ t, vc.map (killV t) = vc) (b2 : List (Nat × Option (List AV))) (hb2 : ∀ t, killB t b2 = b2) (s : Option (List UInt8)) (w : List UInt8) (hl : (bldT s).length + w.length < 1000000) (call : Rec)
    (h96 : call 96 [.box 3 7900003 0] (ofB [] :: [ofB b2, ofB (bA vc (bld s))]) = some ([], ofB [] :: [ofB b2, ofB (bA vc (bld1 s))])) :
    body E call iterL 46 [.box 2 7900003 0, .str (toB w)] [ofB b2, ofB (bA vc (bld s))] = some ([.int .i64 w.length, .nilI], [ofB b2, ofB (bA vc (bld (some (bldT s ++ w))))]) := by
  have hl' : (toB w).data.toList = w := rfl
  rw [body_eq fn46 (c := Tryz.f46.body.get!) rfl]
  cases s with
  | none =>
    simp only [bld1, bld, bA, bldT, List.nil_append] at h96 hl ⊢
    simp (config := {decide := true}) only [go_sem, ↓reduceIte, decide_true, decide_false, List.all_cons, List.all_nil, Bool.and_true, headId, Tryz.f46, Option.get!, bld1, bld, bA, bldT, h96, lookR_zero, lookR_one, srcT_str, hl', app_bytes_nil _ _ _ _ (show w.length < 100000000 by simp at hl; omega), kb_of, hvc, hb2, Nat.reduceMul, Nat.reduceAdd, Nat.reduceSub, updB_of, modR_zero, modR_one, setB_st1, setB_st2, look_st1, look_st2, toB_size, encB_length]
  | some l =>
    simp only [bld1, bld, bA, bldT] at h96 hl ⊢
    simp (config := {decide := true}) only [go_sem, ↓reduceIte, decide_true, decide_false, List.all_cons, List.all_nil, Bool.and_true, headId, Tryz.f46, Option.get!, bld1, bld, bA, bldT, h96, lookR_zero, lookR_one, srcT_str, hl', app_bytes _ _ _ _ _ _ (show l.length + w.length < 100000000 by omega), kb_of, hvc, hb2, Nat.reduceMul, Nat.reduceAdd, Nat.reduceSub, updB_of, modR_zero, modR_one, setB_st1, setB_st2, look_st1, look_st2, toB_size, encB_length]

theorem spec48_1 (vc : List AV) (hvc : ∀ t, vc.map (killV t) = vc) (s : Option (List UInt8)) (c : UInt8) (hl : (bldT s).length < 1000000) (call : Rec)
    (h96 : call 96 [.box 2 7900003 0] (ofB [] :: [ofB (bA vc (bld s))]) = some ([], ofB [] :: [ofB (bA vc (bld1 s))])) :
    body E call iterL 48 [.box 1 7900003 0, .int .u8 (c.toNat : Int)] [ofB (bA vc (bld s))] = some ([.nilI], [ofB (bA vc (bld (some (bldT s ++ [c]))))]) := by
  rw [body_eq fn48 (c := Tryz.f48.body.get!) rfl]
  cases s with
  | none =>
    have happ : ∀ (s : S) (dd : Nat) (z : List AV), app3 s dd 5 ⟨.int .u8, 1, 1, z⟩ [.int .u8 (c.toNat : Int)] .nilS = some ((s.kill (tokS dd)).put (some dd) (.own (tokS dd) 5 (encB [c]))) := fun s dd z => app_bytes_nil s dd z [c] (by simp)
    simp only [bld1, bld, bA, bldT, List.nil_append] at h96 hl ⊢
    simp (config := {decide := true}) only [go_sem, ↓reduceIte, decide_true, decide_false, List.all_cons, List.all_nil, Bool.and_true, headId, Tryz.f48, Option.get!, bld1, bld, bA, bldT, h96, lookR_zero, lookR_one, happ, kb_of, hvc, Nat.reduceMul, Nat.reduceAdd, Nat.reduceSub, updB_of, modR_zero, modR_one, setB_st1, setB_st2, look_st1, look_st2]
  | some l =>
    simp only [bldT] at hl
    have happ : ∀ (s : S) (dd tk : Nat) (z : List AV), app3 s dd 5 ⟨.int .u8, 1, 1, z⟩ [.int .u8 (c.toNat : Int)] (.own tk 5 (encB l)) = some ((s.kill tk).put (some dd) (.own tk 5 (encB (l ++ [c])))) := fun s dd tk z => app_bytes s dd tk z l [c] (by simp; omega)
    simp only [bld1, bld, bA, bldT] at h96 hl ⊢
    simp (config := {decide := true}) only [go_sem, ↓reduceIte, decide_true, decide_false, List.all_cons, List.all_nil, Bool.and_true, headId, Tryz.f48, Option.get!, bld1, bld, bA, bldT, h96, lookR_zero, lookR_one, happ, kb_of, hvc, Nat.reduceMul, Nat.reduceAdd, Nat.reduceSub, updB_of, modR_zero, modR_one, setB_st1, setB_st2, look_st1, look_st2]

theorem spec48_2 (vc : List AV) (hvc : ∀ t, vc.map (killV t) = vc) (b2 : List (Nat × Option (List AV))) (hb2 : ∀ t, killB t b2 = b2) (s : Option (List UInt8)) (c : UInt8) (hl : (bldT s).length < 1000000) (call : Rec)
    (h96 : call 96 [.box 3 7900003 0] (ofB [] :: [ofB b2, ofB (bA vc (bld s))]) = some ([], ofB [] :: [ofB b2, ofB (bA vc (bld1 s))])) :
    body E call iterL 48 [.box 2 7900003 0, .int .u8 (c.toNat : Int)] [ofB b2, ofB (bA vc (bld s))] = some ([.nilI], [ofB b2, ofB (bA vc (bld (some (bldT s ++ [c]))))]) := by
  rw [body_eq fn48 (c := Tryz.f48.body.get!) rfl]
  cases s with
  | none =>
    have happ : ∀ (s : S) (dd : Nat) (z : List AV), app3 s dd 5 ⟨.int .u8, 1, 1, z⟩ [.int .u8 (c.toNat : Int)] .nilS = some ((s.kill (tokS dd)).put (some dd) (.own (tokS dd) 5 (encB [c]))) := fun s dd z => app_bytes_nil s dd z [c] (by simp)
    simp only [bld1, bld, bA, bldT, List.nil_append] at h96 hl ⊢
    simp (config := {decide := true}) only [go_sem, ↓reduceIte, decide_true, decide_false, List.all_cons, List.all_nil, Bool.and_true, headId, Tryz.f48, Option.get!, bld1, bld, bA, bldT, h96, lookR_zero, lookR_one, happ, kb_of, hvc, hb2, Nat.reduceMul, Nat.reduceAdd, Nat.reduceSub, updB_of, modR_zero, modR_one, setB_st1, setB_st2, look_st1, look_st2]
  | some l =>
    simp only [bldT] at hl
    have happ : ∀ (s : S) (dd tk : Nat) (z : List AV), app3 s dd 5 ⟨.int .u8, 1, 1, z⟩ [.int .u8 (c.toNat : Int)] (.own tk 5 (encB l)) = some ((s.kill tk).put (some dd) (.own tk 5 (encB (l ++ [c])))) := fun s dd tk z => app_bytes s dd tk z l [c] (by simp; omega)
    simp only [bld1, bld, bA, bldT] at h96 hl ⊢
    simp (config := {decide := true}) only [go_sem, ↓reduceIte, decide_true, decide_false, List.all_cons, List.all_nil, Bool.and_true, headId, Tryz.f48, Option.get!, bld1, bld, bA, bldT, h96, lookR_zero, lookR_one, happ, kb_of, hvc, hb2, Nat.reduceMul, Nat.reduceAdd, Nat.reduceSub, updB_of, modR_zero, modR_one, setB_st1, setB_st2, look_st1, look_st2]

end Go.Proofs.YtllilhgdnepipaaGreatDoor

/-
  What version.write computes, as the abstract machine runs it, over a Builder that the frame below holds. For texts of fewer than a million bytes; the callees' answers are handed in.
-/
namespace Go.Proofs.YtllilhgdnepipaaGreatDoor
open Go Go.Avm
set_option linter.unusedSimpArgs false
set_option linter.unusedVariables false

/-- A Builder behind a write; behind none if there is nothing to write. -/
def wrO (s : Option (List UInt8)) (t : List UInt8) : Option (List UInt8) := if t = [] then s else some (bldT s ++ t)
theorem wrO_append (s : Option (List UInt8)) (a b : List UInt8) : wrO (wrO s a) b = wrO s (a ++ b) := by
  unfold wrO
  by_cases ha : a = [] <;> by_cases hb : b = [] <;> simp [ha, hb, bldT]
theorem wrO_len (s : Option (List UInt8)) (a : List UInt8) : (bldT (wrO s a)).length = (bldT s).length + a.length := by
  unfold wrO
  by_cases ha : a = [] <;> simp [ha, bldT]

set_option maxHeartbeats 1000000 in
theorem spec49 (vc : List AV) (hvc : ∀ t, vc.map (killV t) = vc) (xs : List (List Item)) (s0 : Option (List UInt8)) (hx : xs.length < 1000000) (hxx : ∀ c ∈ xs, c.length < 1000000 ∧ ∀ y ∈ c, 0 ≤ y.1 ∧ y.1 < 1000000000000000000)
    (ht : (bldT s0).length + (textP true xs).length < 1000000) (call : Rec)
    (h47 : ∀ n : Nat, n < 1000000000000000000 → call 47 [.int .i64 (n : Int)] [] = some ([.str (toB (numT n))], []))
    (h46 : ∀ b2 : List (Nat × Option (List AV)), (∀ t, killB t b2 = b2) → ∀ (s : Option (List UInt8)) (w : List UInt8), w ≠ [] → (bldT s).length + w.length < 1000000 →
      call 46 [.box 2 7900003 0, .str (toB w)] [ofB b2, ofB (bA vc (bld s))] = some ([.int .i64 w.length, .nilI], [ofB b2, ofB (bA vc (bld (wrO s w)))]))
    (h48 : ∀ b2 : List (Nat × Option (List AV)), (∀ t, killB t b2 = b2) → ∀ (s : Option (List UInt8)) (c : UInt8), (bldT s).length < 1000000 →
      call 48 [.box 2 7900003 0, .int .u8 (c.toNat : Int)] [ofB b2, ofB (bA vc (bld s))] = some ([.nilI], [ofB b2, ofB (bA vc (bld (wrO s [c])))])) :
    body E call iterL 49 [.box 1 7900003 0, .sl (xs.map encC)] [ofB (bA vc (bld s0))] = some ([], [ofB (bA vc (bld (wrO s0 (textP true xs))))]) := by
  have hnil : (⟨#[]⟩ : ByteArray).toList = [] := toB_toList []
  have hbid : bid 122 7 = 12200007 := rfl
  have hlist : ∀ l : List UInt8, (toB l).data.toList = l := fun _ => rfl
  rw [body_eq fn49 (c := Tryz.f49.body.get!) rfl]
  simp (config := {decide := true}) only [go_sem, ↓reduceIte, decide_true, decide_false, List.all_cons, List.all_nil, Bool.and_true, headId, Tryz.f49, Option.get!, List.length_map]
  have hz : ∀ r, st [(0, .box 1 7900003 0), (8, .sl (xs.map encC)), (9, AV.int .i64 xs.length), (10, AV.int .i64 0)] [] r = st [(0, .box 1 7900003 0), (8, .sl (xs.map encC)), (9, AV.int .i64 xs.length), (10, AV.int .i64 ((0 : Nat) : Int))] [] r := fun _ => rfl
  rw [hz, loopE_run (I := fun p : Nat × Option (List UInt8) => st [(0, .box 1 7900003 0), (8, .sl (xs.map encC)), (9, AV.int .i64 xs.length), (10, AV.int .i64 (p.1 : Int))] [] [ofB (bA vc (bld p.2))])
    (R := fun p => some (Ex.exit 0, st [(0, .box 1 7900003 0), (8, .sl (xs.map encC)), (9, AV.int .i64 xs.length), (10, AV.int .i64 xs.length), (11, .bool false)] [] [ofB (bA vc (bld (wrO p.2 (textP (decide (p.1 = 0)) (xs.drop p.1)))))]))
    (Inv := fun p => p.1 ≤ xs.length ∧ (bldT p.2).length + (textP (decide (p.1 = 0)) (xs.drop p.1)).length < 1000000) (μ := fun p => xs.length - p.1) ?step (0, s0) (by simpa using ht)]
  case step =>
    rintro ⟨i, s⟩ ⟨hi, hs⟩ ih
    simp only at hi hs ih ⊢
    rw [loopE_eq]
    by_cases h : i < xs.length
    · have h' : (i : Int) < xs.length := by omega
      have hat := encC_at h
      obtain ⟨hcl, hcy⟩ := hxx xs[i] (List.getElem_mem h)
      rw [List.drop_eq_getElem_cons h] at hs ⊢
      generalize xs[i] = c at hat hs hcl hcy
      have hi1 : decide (i + 1 = 0) = false := decide_eq_false (by omega)
      by_cases hi0 : 0 < (i : Int)
      · have hd : decide (i = 0) = false := decide_eq_false (by omega)
        rw [hd] at hs ⊢
        have hs48 := h48 [] (fun _ => rfl) s 46 (by omega)
        rw [show ((46 : UInt8).toNat : Int) = 46 from rfl] at hs48
        simp (config := {decide := true}) only [go_sem, ↓reduceIte, decide_true, decide_false, List.all_cons, List.all_nil, Bool.and_true, headId, h', hat, hi0, List.length_map, hs48, Nat.reduceAdd]
        have hT : wrO s (textP false (c :: xs.drop (i + 1))) = wrO (wrO (wrO s [46]) (textC c)) (textP false (xs.drop (i + 1))) := by
          rw [wrO_append, wrO_append]
          simp only [textP, Bool.false_eq_true, if_false, List.append_assoc]
        have hs1 : (bldT (wrO s [46])).length + (textC c).length + (textP false (xs.drop (i + 1))).length < 1000000 := by
          rw [wrO_len]
          simp only [textP, Bool.false_eq_true, if_false, List.length_append] at hs
          omega
        generalize wrO s [46] = s1 at hT hs1 ⊢
        have hz2 : ∀ (l : List (Nat × AV)) r, st (l ++ [(21, AV.int .i64 0)]) [] r = st (l ++ [(21, AV.int .i64 ((0 : Nat) : Int))]) [] r := fun _ _ => rfl
        have hz3 := hz2 [(0, .box 1 7900003 0), (5, .sl (c.map encI)), (8, .sl (xs.map encC)), (9, AV.int .i64 xs.length), (10, AV.int .i64 (i : Int)), (19, .sl (c.map encI)), (20, .int .i64 c.length)] [ofB (bA vc (bld s1))]
        simp only [List.cons_append, List.nil_append] at hz3
        rw [hz3, loopE_run (I := fun p : Nat × Option (List UInt8) => st [(0, .box 1 7900003 0), (5, .sl (c.map encI)), (8, .sl (xs.map encC)), (9, AV.int .i64 xs.length), (10, AV.int .i64 (i : Int)), (19, .sl (c.map encI)), (20, .int .i64 c.length), (21, AV.int .i64 (p.1 : Int))] [] [ofB (bA vc (bld p.2))])
          (R := fun p => some (Ex.exit 2, st [(0, .box 1 7900003 0), (5, .sl (c.map encI)), (8, .sl (xs.map encC)), (9, AV.int .i64 xs.length), (10, AV.int .i64 (i : Int)), (19, .sl (c.map encI)), (20, .int .i64 c.length), (21, AV.int .i64 c.length), (22, .bool false)] [] [ofB (bA vc (bld (wrO p.2 (textIs (decide (c.length = 1)) (decide (p.1 = 0)) (c.drop p.1)))))]))
          (Inv := fun p => p.1 ≤ c.length ∧ (bldT p.2).length + (textIs (decide (c.length = 1)) (decide (p.1 = 0)) (c.drop p.1)).length < 1000000) (μ := fun p => c.length - p.1) ?step (0, s1) ⟨Nat.zero_le _, by rw [textC] at hs1; simp only [decide_true, List.drop_zero]; omega⟩]
        case step =>
          rintro ⟨k, s2⟩ ⟨hk, hs2⟩ ih2
          simp only at hk hs2 ih2 ⊢
          rw [loopE_eq]
          by_cases hkl : k < c.length
          · have hkl' : (k : Int) < c.length := by omega
            have hca := encI_at hkl
            obtain ⟨hy0, hy1⟩ := hcy c[k] (List.getElem_mem hkl)
            rw [List.drop_eq_getElem_cons hkl] at hs2 ⊢
            generalize c[k] = it at hca hs2 hy0 hy1
            obtain ⟨n, w⟩ := it
            have hwt : w = toB w.data.toList := rfl
            generalize w.data.toList = wl at hwt
            subst hwt
            simp only at hca hy0 hy1
            have hk1 : decide (k + 1 = 0) = false := decide_eq_false (by omega)
            simp only [textIs] at hs2 ⊢
            have hih := fun t ht => ih2 (k + 1, t) ⟨by simp only; omega, ht⟩ (by simp only; omega)
            simp only [hk1] at hih
            have hn53 : n = ((n.toNat : Nat) : Int) := by omega
            have hs53 := h47 n.toNat (by omega)
            rw [← hn53] at hs53
            have hwr : ∀ t u : List UInt8, t ≠ [] → (bldT s2).length + (t ++ u).length < 1000000 → (bldT s2).length + t.length < 1000000 ∧ (bldT (wrO s2 t)).length + u.length < 1000000 := by
              intro t u hne h
              rw [List.length_append] at h
              refine ⟨by omega, ?_⟩
              rw [wrO_len]
              omega
            rw [← wrO_append]
            by_cases hwl : wl = []
            · subst hwl
              have hwb : (([] : List UInt8) == []) = true := rfl
              have hempty : (toB [] : ByteArray).data.toList = [] := rfl
              by_cases g1 : 0 < (k : Int)
              · have hI : textI (decide (c.length = 1)) (decide (k = 0)) (n, toB []) = numT n.toNat := by simp only [textI, hempty, if_true]; rw [if_pos (by simp; omega)]
                rw [hI] at hs2 ⊢
                obtain ⟨q1, q2⟩ := hwr _ _ (numT_ne _) hs2
                have hs46 := h46 [(12200007, some [AV.int .i64 n, AV.str (toB [])])] (fun _ => rfl) s2 (numT n.toNat) (numT_ne _) q1
                simp (config := {decide := true}) only [go_sem, ↓reduceIte, decide_true, decide_false, List.all_cons, List.all_nil, Bool.and_true, headId, hbid, hkl', hca, segFrom, and_self, and_true, hnil, toB_toList, hwb, g1, List.length_map, hs53, hs46, Bool.not_true, Nat.reduceAdd, wrap_nat (show k < 9000000 by omega)]
                rw [hih _ q2]
              · by_cases g2 : n = 0
                · by_cases g3 : (c.length : Int) = 1
                  · have hI : textI (decide (c.length = 1)) (decide (k = 0)) (n, toB []) = numT n.toNat := by simp only [textI, hempty, if_true]; rw [if_pos (by simp; omega)]
                    rw [hI] at hs2 ⊢
                    obtain ⟨q1, q2⟩ := hwr _ _ (numT_ne _) hs2
                    have hs46 := h46 [(12200007, some [AV.int .i64 n, AV.str (toB [])])] (fun _ => rfl) s2 (numT n.toNat) (numT_ne _) q1
                    simp (config := {decide := true}) only [go_sem, ↓reduceIte, decide_true, decide_false, List.all_cons, List.all_nil, Bool.and_true, headId, hbid, hkl', hca, segFrom, and_self, and_true, hnil, toB_toList, hwb, g1, decide_eq_false (show ¬ n ≠ 0 by omega), decide_eq_true g3, List.length_map, hs53, hs46, Bool.not_true, Nat.reduceAdd, wrap_nat (show k < 9000000 by omega)]
                    rw [hih _ q2]
                  · have hI : textI (decide (c.length = 1)) (decide (k = 0)) (n, toB []) = [] := by
                      simp only [textI, hempty, if_true]; rw [if_neg (by simp; omega)]
                    rw [hI] at hs2 ⊢
                    simp only [List.nil_append] at hs2
                    simp (config := {decide := true}) only [go_sem, ↓reduceIte, decide_true, decide_false, List.all_cons, List.all_nil, Bool.and_true, headId, hbid, hkl', hca, segFrom, and_self, and_true, hnil, toB_toList, hwb, g1, decide_eq_false (show ¬ n ≠ 0 by omega), decide_eq_false g3, List.length_map, Bool.not_true, wrap_nat (show k < 9000000 by omega)]
                    rw [hih _ hs2]
                    rfl
                · have hI : textI (decide (c.length = 1)) (decide (k = 0)) (n, toB []) = numT n.toNat := by simp only [textI, hempty, if_true]; rw [if_pos (by simp [g2])]
                  rw [hI] at hs2 ⊢
                  obtain ⟨q1, q2⟩ := hwr _ _ (numT_ne _) hs2
                  have hs46 := h46 [(12200007, some [AV.int .i64 n, AV.str (toB [])])] (fun _ => rfl) s2 (numT n.toNat) (numT_ne _) q1
                  simp (config := {decide := true}) only [go_sem, ↓reduceIte, decide_true, decide_false, List.all_cons, List.all_nil, Bool.and_true, headId, hbid, hkl', hca, segFrom, and_self, and_true, hnil, toB_toList, hwb, g1, decide_eq_true (show n ≠ 0 from g2), List.length_map, hs53, hs46, Bool.not_true, Nat.reduceAdd, wrap_nat (show k < 9000000 by omega)]
                  rw [hih _ q2]
            · have hwb : (wl == []) = false := by rw [beq_eq_false_iff_ne]; exact hwl
              have hI : textI (decide (c.length = 1)) (decide (k = 0)) (n, toB wl) = wl := by
                simp only [textI, hlist, hwl, if_false]
              rw [hI] at hs2 ⊢
              obtain ⟨q1, q2⟩ := hwr _ _ hwl hs2
              have hs46 := h46 [(12200007, some [AV.int .i64 n, AV.str (toB wl)])] (fun _ => rfl) s2 wl hwl q1
              simp (config := {decide := true}) only [go_sem, ↓reduceIte, decide_true, decide_false, List.all_cons, List.all_nil, Bool.and_true, headId, hbid, hkl', hca, segFrom, and_self, and_true, hnil, toB_toList, hwb, List.length_map, hs46, Bool.not_false, Nat.reduceAdd, wrap_nat (show k < 9000000 by omega)]
              rw [hih _ q2]
          · have hkl' : ¬ (k : Int) < c.length := by omega
            have hke : k = c.length := by omega
            subst hke
            simp (config := {decide := true}) only [go_sem, ↓reduceIte, decide_true, decide_false, List.all_cons, List.all_nil, Bool.and_true, headId, hkl']
            rw [List.drop_length]
            rfl
        simp (config := {decide := true}) only [go_sem, ↓reduceIte, decide_true, decide_false, List.all_cons, List.all_nil, Bool.and_true, headId, List.drop_zero, wrap_nat (show i < 9000000 by omega)]
        have hle1 : (bldT (wrO s1 (textC c))).length + (textP false (xs.drop (i + 1))).length < 1000000 := by
          have := wrO_len s1 (textC c)
          omega
        have := ih (i + 1, wrO s1 (textC c)) ⟨by simp only; omega, by simp only [hi1]; exact hle1⟩ (by simp only; omega)
        simp only [hi1] at this
        rw [show textIs (decide (c.length = 1)) true c = textC c from rfl, this, hT]
      · have hd : decide (i = 0) = true := decide_eq_true (by omega)
        rw [hd] at hs ⊢
        simp (config := {decide := true}) only [go_sem, ↓reduceIte, decide_true, decide_false, List.all_cons, List.all_nil, Bool.and_true, headId, h', hat, hi0, List.length_map]
        have hT : wrO s (textP true (c :: xs.drop (i + 1))) = wrO (wrO s (textC c)) (textP false (xs.drop (i + 1))) := by
          rw [wrO_append]
          simp only [textP, if_true, List.nil_append]
        have hs1 : (bldT s).length + (textC c).length + (textP false (xs.drop (i + 1))).length < 1000000 := by
          simp only [textP, if_true, List.nil_append, List.length_append] at hs
          omega
        generalize s = s1 at hT hs1 ⊢
        have hz2 : ∀ (l : List (Nat × AV)) r, st (l ++ [(21, AV.int .i64 0)]) [] r = st (l ++ [(21, AV.int .i64 ((0 : Nat) : Int))]) [] r := fun _ _ => rfl
        have hz3 := hz2 [(0, .box 1 7900003 0), (5, .sl (c.map encI)), (8, .sl (xs.map encC)), (9, AV.int .i64 xs.length), (10, AV.int .i64 (i : Int)), (19, .sl (c.map encI)), (20, .int .i64 c.length)] [ofB (bA vc (bld s1))]
        simp only [List.cons_append, List.nil_append] at hz3
        rw [hz3, loopE_run (I := fun p : Nat × Option (List UInt8) => st [(0, .box 1 7900003 0), (5, .sl (c.map encI)), (8, .sl (xs.map encC)), (9, AV.int .i64 xs.length), (10, AV.int .i64 (i : Int)), (19, .sl (c.map encI)), (20, .int .i64 c.length), (21, AV.int .i64 (p.1 : Int))] [] [ofB (bA vc (bld p.2))])
          (R := fun p => some (Ex.exit 2, st [(0, .box 1 7900003 0), (5, .sl (c.map encI)), (8, .sl (xs.map encC)), (9, AV.int .i64 xs.length), (10, AV.int .i64 (i : Int)), (19, .sl (c.map encI)), (20, .int .i64 c.length), (21, AV.int .i64 c.length), (22, .bool false)] [] [ofB (bA vc (bld (wrO p.2 (textIs (decide (c.length = 1)) (decide (p.1 = 0)) (c.drop p.1)))))]))
          (Inv := fun p => p.1 ≤ c.length ∧ (bldT p.2).length + (textIs (decide (c.length = 1)) (decide (p.1 = 0)) (c.drop p.1)).length < 1000000) (μ := fun p => c.length - p.1) ?step (0, s1) ⟨Nat.zero_le _, by rw [textC] at hs1; simp only [decide_true, List.drop_zero]; omega⟩]
        case step =>
          rintro ⟨k, s2⟩ ⟨hk, hs2⟩ ih2
          simp only at hk hs2 ih2 ⊢
          rw [loopE_eq]
          by_cases hkl : k < c.length
          · have hkl' : (k : Int) < c.length := by omega
            have hca := encI_at hkl
            obtain ⟨hy0, hy1⟩ := hcy c[k] (List.getElem_mem hkl)
            rw [List.drop_eq_getElem_cons hkl] at hs2 ⊢
            generalize c[k] = it at hca hs2 hy0 hy1
            obtain ⟨n, w⟩ := it
            have hwt : w = toB w.data.toList := rfl
            generalize w.data.toList = wl at hwt
            subst hwt
            simp only at hca hy0 hy1
            have hk1 : decide (k + 1 = 0) = false := decide_eq_false (by omega)
            simp only [textIs] at hs2 ⊢
            have hih := fun t ht => ih2 (k + 1, t) ⟨by simp only; omega, ht⟩ (by simp only; omega)
            simp only [hk1] at hih
            have hn53 : n = ((n.toNat : Nat) : Int) := by omega
            have hs53 := h47 n.toNat (by omega)
            rw [← hn53] at hs53
            have hwr : ∀ t u : List UInt8, t ≠ [] → (bldT s2).length + (t ++ u).length < 1000000 → (bldT s2).length + t.length < 1000000 ∧ (bldT (wrO s2 t)).length + u.length < 1000000 := by
              intro t u hne h
              rw [List.length_append] at h
              refine ⟨by omega, ?_⟩
              rw [wrO_len]
              omega
            rw [← wrO_append]
            by_cases hwl : wl = []
            · subst hwl
              have hwb : (([] : List UInt8) == []) = true := rfl
              have hempty : (toB [] : ByteArray).data.toList = [] := rfl
              by_cases g1 : 0 < (k : Int)
              · have hI : textI (decide (c.length = 1)) (decide (k = 0)) (n, toB []) = numT n.toNat := by simp only [textI, hempty, if_true]; rw [if_pos (by simp; omega)]
                rw [hI] at hs2 ⊢
                obtain ⟨q1, q2⟩ := hwr _ _ (numT_ne _) hs2
                have hs46 := h46 [(12200007, some [AV.int .i64 n, AV.str (toB [])])] (fun _ => rfl) s2 (numT n.toNat) (numT_ne _) q1
                simp (config := {decide := true}) only [go_sem, ↓reduceIte, decide_true, decide_false, List.all_cons, List.all_nil, Bool.and_true, headId, hbid, hkl', hca, segFrom, and_self, and_true, hnil, toB_toList, hwb, g1, List.length_map, hs53, hs46, Bool.not_true, Nat.reduceAdd, wrap_nat (show k < 9000000 by omega)]
                rw [hih _ q2]
              · by_cases g2 : n = 0
                · by_cases g3 : (c.length : Int) = 1
                  · have hI : textI (decide (c.length = 1)) (decide (k = 0)) (n, toB []) = numT n.toNat := by simp only [textI, hempty, if_true]; rw [if_pos (by simp; omega)]
                    rw [hI] at hs2 ⊢
                    obtain ⟨q1, q2⟩ := hwr _ _ (numT_ne _) hs2
                    have hs46 := h46 [(12200007, some [AV.int .i64 n, AV.str (toB [])])] (fun _ => rfl) s2 (numT n.toNat) (numT_ne _) q1
                    simp (config := {decide := true}) only [go_sem, ↓reduceIte, decide_true, decide_false, List.all_cons, List.all_nil, Bool.and_true, headId, hbid, hkl', hca, segFrom, and_self, and_true, hnil, toB_toList, hwb, g1, decide_eq_false (show ¬ n ≠ 0 by omega), decide_eq_true g3, List.length_map, hs53, hs46, Bool.not_true, Nat.reduceAdd, wrap_nat (show k < 9000000 by omega)]
                    rw [hih _ q2]
                  · have hI : textI (decide (c.length = 1)) (decide (k = 0)) (n, toB []) = [] := by
                      simp only [textI, hempty, if_true]; rw [if_neg (by simp; omega)]
                    rw [hI] at hs2 ⊢
                    simp only [List.nil_append] at hs2
                    simp (config := {decide := true}) only [go_sem, ↓reduceIte, decide_true, decide_false, List.all_cons, List.all_nil, Bool.and_true, headId, hbid, hkl', hca, segFrom, and_self, and_true, hnil, toB_toList, hwb, g1, decide_eq_false (show ¬ n ≠ 0 by omega), decide_eq_false g3, List.length_map, Bool.not_true, wrap_nat (show k < 9000000 by omega)]
                    rw [hih _ hs2]
                    rfl
                · have hI : textI (decide (c.length = 1)) (decide (k = 0)) (n, toB []) = numT n.toNat := by simp only [textI, hempty, if_true]; rw [if_pos (by simp [g2])]
                  rw [hI] at hs2 ⊢
                  obtain ⟨q1, q2⟩ := hwr _ _ (numT_ne _) hs2
                  have hs46 := h46 [(12200007, some [AV.int .i64 n, AV.str (toB [])])] (fun _ => rfl) s2 (numT n.toNat) (numT_ne _) q1
                  simp (config := {decide := true}) only [go_sem, ↓reduceIte, decide_true, decide_false, List.all_cons, List.all_nil, Bool.and_true, headId, hbid, hkl', hca, segFrom, and_self, and_true, hnil, toB_toList, hwb, g1, decide_eq_true (show n ≠ 0 from g2), List.length_map, hs53, hs46, Bool.not_true, Nat.reduceAdd, wrap_nat (show k < 9000000 by omega)]
                  rw [hih _ q2]
            · have hwb : (wl == []) = false := by rw [beq_eq_false_iff_ne]; exact hwl
              have hI : textI (decide (c.length = 1)) (decide (k = 0)) (n, toB wl) = wl := by
                simp only [textI, hlist, hwl, if_false]
              rw [hI] at hs2 ⊢
              obtain ⟨q1, q2⟩ := hwr _ _ hwl hs2
              have hs46 := h46 [(12200007, some [AV.int .i64 n, AV.str (toB wl)])] (fun _ => rfl) s2 wl hwl q1
              simp (config := {decide := true}) only [go_sem, ↓reduceIte, decide_true, decide_false, List.all_cons, List.all_nil, Bool.and_true, headId, hbid, hkl', hca, segFrom, and_self, and_true, hnil, toB_toList, hwb, List.length_map, hs46, Bool.not_false, Nat.reduceAdd, wrap_nat (show k < 9000000 by omega)]
              rw [hih _ q2]
          · have hkl' : ¬ (k : Int) < c.length := by omega
            have hke : k = c.length := by omega
            subst hke
            simp (config := {decide := true}) only [go_sem, ↓reduceIte, decide_true, decide_false, List.all_cons, List.all_nil, Bool.and_true, headId, hkl']
            rw [List.drop_length]
            rfl
        simp (config := {decide := true}) only [go_sem, ↓reduceIte, decide_true, decide_false, List.all_cons, List.all_nil, Bool.and_true, headId, List.drop_zero, wrap_nat (show i < 9000000 by omega)]
        have hle1 : (bldT (wrO s1 (textC c))).length + (textP false (xs.drop (i + 1))).length < 1000000 := by
          have := wrO_len s1 (textC c)
          omega
        have := ih (i + 1, wrO s1 (textC c)) ⟨by simp only; omega, by simp only [hi1]; exact hle1⟩ (by simp only; omega)
        simp only [hi1] at this
        rw [show textIs (decide (c.length = 1)) true c = textC c from rfl, this, hT]
    · have h' : ¬ (i : Int) < xs.length := by omega
      have hie : i = xs.length := by omega
      subst hie
      simp (config := {decide := true}) only [go_sem, ↓reduceIte, decide_true, decide_false, List.all_cons, List.all_nil, Bool.and_true, headId, h']
      rw [List.drop_length]
      rfl
  simp (config := {decide := true}) only [go_sem, ↓reduceIte, decide_true, decide_false, List.all_cons, List.all_nil, Bool.and_true, headId, List.drop_zero]
end Go.Proofs.YtllilhgdnepipaaGreatDoor

/-
  What the texts of versions compute, the document's and the program's, as the abstract machine runs them. For right versions whose text has fewer than a million bytes; the callees' answers are handed in.
-/
namespace Go.Proofs.YtllilhgdnepipaaGreatDoor
open Go Go.Avm
set_option linter.unusedSimpArgs false

theorem add_const (l : List UInt8) (c : UInt8) (x y : Operand) (t : TypeId) (h : l.length < 2000000) : binO E .add t x y (some (.str (toB l))) (some (.str ⟨#[c]⟩)) = some (.str (toB (l ++ [c]))) := by
  have h1 : (⟨#[c]⟩ : ByteArray).size = 1 := rfl
  rw [bin_sadd _ _ (by rw [toB_size, h1]; omega)]
  exact congrArg (fun b => some (AV.str b)) (toB_append l [c])
theorem const_add (l : List UInt8) (c : UInt8) (x y : Operand) (t : TypeId) (h : l.length < 2000000) : binO E .add t x y (some (.str ⟨#[c]⟩)) (some (.str (toB l))) = some (.str (toB (c :: l))) := by
  have h1 : (⟨#[c]⟩ : ByteArray).size = 1 := rfl
  rw [bin_sadd _ _ (by rw [toB_size, h1]; omega)]
  exact congrArg (fun b => some (AV.str b)) (toB_append [c] l)
theorem add_toB (l r : List UInt8) (x y : Operand) (t : TypeId) (h : l.length + r.length < 4000000) : binO E .add t x y (some (.str (toB l))) (some (.str (toB r))) = some (.str (toB (l ++ r))) := by
  rw [bin_sadd _ _ (by rw [toB_size, toB_size]; omega), toB_append]
theorem nil_add (r : List UInt8) (x y : Operand) (t : TypeId) (h : r.length < 4000000) : binO E .add t x y (some (.str ⟨#[]⟩)) (some (.str (toB r))) = some (.str (toB r)) := add_toB [] r x y t (by simp; omega)

theorem spec14 (e : Int) (ps qs : List (List Item)) (h0 : 0 ≤ e) (h1 : e < 1000000000000000000) (ht : (textV (e, ps, qs)).length < 1000000) (call : Rec)
    (h53 : ∀ n : Nat, n < 1000000000000000000 → call 53 [.int .i64 (n : Int)] [] = some ([.str (toB (numT n))], []))
    (h54 : ∀ xs : List (List Item), xs = ps ∨ xs = qs → call 54 [.sl (xs.map encC)] [] = some ([.str (toB (textP true xs))], [])) :
    body E call iterL 14 [encV (e, ps, qs)] [] = some ([.str (toB (textV (e, ps, qs)))], []) := by
  have hbid : bid 25 1 = 2500001 := rfl
  have hp := h54 ps (.inl rfl)
  have hq := h54 qs (.inr rfl)
  have hn53 : e = ((e.toNat : Nat) : Int) := by omega
  have hs53 := h53 e.toNat (by omega)
  rw [← hn53] at hs53
  rw [body_eq fn14 (c := Tryz.f14.body.get!) rfl]
  by_cases g1 : 0 < e
  · have hne : e ≠ 0 := by omega
    by_cases g2 : qs = []
    · simp only [textV, hne, ne_eq, not_false_eq_true, if_true, g2, List.append_nil, List.length_append, List.length_singleton] at ht ⊢
      simp (config := {decide := true}) only [go_sem, ↓reduceIte, decide_true, decide_false, List.all_cons, List.all_nil, Bool.and_true, headId, Tryz.f14, Option.get!, encV, hbid, g1, hs53, hp, add_const _ _ _ _ _ (show (numT e.toNat).length < 2000000 by omega), add_toB _ _ _ _ _ (show (numT e.toNat ++ [33]).length + (textP true ps).length < 4000000 by rw [List.length_append]; simp; omega), List.length_map]
    · have g2' : 0 < (qs.length : Int) := by
        have : qs.length ≠ 0 := fun h => g2 (List.eq_nil_of_length_eq_zero h)
        omega
      simp only [textV, hne, ne_eq, not_false_eq_true, if_true, g2, if_false, List.length_append, List.length_singleton, List.length_cons] at ht ⊢
      simp (config := {decide := true}) only [go_sem, ↓reduceIte, decide_true, decide_false, List.all_cons, List.all_nil, Bool.and_true, headId, Tryz.f14, Option.get!, encV, hbid, g1, g2, g2', hs53, hp, hq, add_const _ _ _ _ _ (show (numT e.toNat).length < 2000000 by omega), add_toB _ _ _ _ _ (show (numT e.toNat ++ [33]).length + (textP true ps).length < 4000000 by rw [List.length_append]; simp; omega), List.length_map,
        const_add _ _ _ _ _ (show (textP true qs).length < 2000000 by omega), add_toB _ _ _ _ _ (show (numT e.toNat ++ [33] ++ textP true ps).length + (43 :: textP true qs).length < 4000000 by simp; omega)]
  · have he : e = 0 := by omega
    subst he
    by_cases g2 : qs = []
    · simp only [textV, ne_eq, not_true_eq_false, if_false, g2, if_true, List.append_nil, List.nil_append] at ht ⊢
      simp (config := {decide := true}) only [go_sem, ↓reduceIte, decide_true, decide_false, List.all_cons, List.all_nil, Bool.and_true, headId, Tryz.f14, Option.get!, encV, hbid, hp, nil_add _ _ _ _ (show (textP true ps).length < 4000000 by omega), List.length_map]
    · have g2' : 0 < (qs.length : Int) := by
        have : qs.length ≠ 0 := fun h => g2 (List.eq_nil_of_length_eq_zero h)
        omega
      simp only [textV, ne_eq, not_true_eq_false, if_false, g2, List.nil_append, List.length_append, List.length_cons] at ht ⊢
      simp (config := {decide := true}) only [go_sem, ↓reduceIte, decide_true, decide_false, List.all_cons, List.all_nil, Bool.and_true, headId, Tryz.f14, Option.get!, encV, hbid, g2, g2', hp, hq, nil_add _ _ _ _ (show (textP true ps).length < 4000000 by omega), List.length_map,
        const_add _ _ _ _ _ (show (textP true qs).length < 2000000 by omega), add_toB _ _ _ _ _ (show (textP true ps).length + (43 :: textP true qs).length < 4000000 by simp; omega)]

theorem spec12 (e : Int) (ps qs : List (List Item)) (hps : textP true ps ≠ []) (hqs : qs ≠ [] → textP true qs ≠ []) (h0 : 0 ≤ e) (h1 : e < 1000000000000000000) (ht : (textV (e, ps, qs)).length < 1000000) (call : Rec)
    (h47 : ∀ n : Nat, n < 1000000000000000000 → call 47 [.int .i64 (n : Int)] [] = some ([.str (toB (numT n))], []))
    (h46 : ∀ (q : AV) (s : Option (List UInt8)) (w : List UInt8), Plain q → w ≠ [] → (bldT s).length + w.length < 1000000 →
      call 46 [.box 1 7900003 0, .str (toB w)] [ofB (bA [.int .i64 e, .sl (ps.map encC), q] (bld s))] = some ([.int .i64 w.length, .nilI], [ofB (bA [.int .i64 e, .sl (ps.map encC), q] (bld (wrO s w)))]))
    (h48 : ∀ (q : AV) (s : Option (List UInt8)) (c : UInt8), Plain q → (bldT s).length < 1000000 →
      call 48 [.box 1 7900003 0, .int .u8 (c.toNat : Int)] [ofB (bA [.int .i64 e, .sl (ps.map encC), q] (bld s))] = some ([.nilI], [ofB (bA [.int .i64 e, .sl (ps.map encC), q] (bld (wrO s [c])))]))
    (h49 : ∀ (q : AV) (s : Option (List UInt8)) (xs : List (List Item)), Plain q → xs = ps ∨ xs = qs → (bldT s).length + (textP true xs).length < 1000000 →
      call 49 [.box 1 7900003 0, .sl (xs.map encC)] [ofB (bA [.int .i64 e, .sl (ps.map encC), q] (bld s))] = some ([], [ofB (bA [.int .i64 e, .sl (ps.map encC), q] (bld (wrO s (textP true xs))))]))
    (h50 : ∀ (q : AV) (l : List UInt8), Plain q → l ≠ [] →
      call 50 [.box 1 7900003 0] [ofB (bA [.int .i64 e, .sl (ps.map encC), q] (bld (some l)))] = some ([.str (toB l)], [ofB (bA [.int .i64 e, .sl (ps.map encC), q] [.box 0 7900003 0, .any])]))
    (h50' : ∀ (l : List UInt8), l ≠ [] →
      call 50 [.box 1 7900003 0] [ofB [(7900003, some (bld (some l)))]] = some ([.str (toB l)], [ofB [(7900003, some [.box 0 7900003 0, .any])]])) :
    body E call iterL 12 [encV (e, ps, qs)] [] = some ([.str (toB (textV (e, ps, qs)))], []) := by
  have hbid : bid 25 1 = 2500001 := rfl
  have hbid3 : bid 79 3 = 7900003 := rfl
  have hn47 : e = ((e.toNat : Nat) : Int) := by omega
  have hs47 := h47 e.toNat (by omega)
  rw [← hn47] at hs47
  have hbA : ∀ (vc cs : List AV), ofB [(2500001, some vc), (7900003, some cs)] = ofB (bA vc cs) := fun _ _ => rfl
  rw [body_eq fn12 (c := Tryz.f12.body.get!) rfl]
  have h33 : ((33 : UInt8).toNat : Int) = 33 := rfl
  have h43 : ((43 : UInt8).toNat : Int) = 43 := rfl
  have hqs' : ¬ qs = [] → textP true qs ≠ [] := hqs
  have hkq : ∀ t, (qs.map encC).map (killV t) = (qs.map encC).map (killV t) := fun _ => rfl
  by_cases g2 : qs = []
  · by_cases g1 : e = 0
    · subst g1
      simp only [textV, ne_eq, not_true_eq_false, if_false, g2, if_true, if_false, List.append_nil, List.nil_append, List.length_append, List.length_singleton, List.length_cons] at ht ⊢
      have c3 := h49 .nilS none ps plain_nilS (.inl rfl) (by simp [bldT]; omega)
      have c6 := h50 .nilS (textP true ps) plain_nilS (by simp [hps])
      simp only [bA, bld, wrO, bldT, numT_ne, hps, if_false, List.nil_append, List.cons_ne_nil, List.append_assoc, List.cons_append, decide_false, Bool.false_eq_true] at c3 c6
      simp (config := {decide := true}) only [go_sem, ↓reduceIte, decide_true, decide_false, List.all_cons, List.all_nil, Bool.and_true, headId, Tryz.f12, Option.get!, encV, hbid, hbid3, ne_eq, not_true_eq_false, List.length_map, c3, c6, Nat.reduceAdd, List.append_assoc, List.cons_append, List.nil_append]
    · have hne0 : ¬ e = 0 := g1
      simp only [textV, hne0, ne_eq, not_false_eq_true, if_true, g2, if_true, if_false, List.append_nil, List.nil_append, List.length_append, List.length_singleton, List.length_cons] at ht ⊢
      have c1 := h46 .nilS none (numT e.toNat) plain_nilS (numT_ne _) (by simp [bldT]; omega)
      have c2 := h48 .nilS (some (numT e.toNat)) 33 plain_nilS (by simp only [bldT]; omega)
      have c3 := h49 .nilS (some (numT e.toNat ++ [33])) ps plain_nilS (.inl rfl) (by simp only [bldT, List.length_append, List.length_singleton]; omega)
      have c6 := h50 .nilS (numT e.toNat ++ [33] ++ textP true ps) plain_nilS (by simp [hps])
      simp only [bA, bld, wrO, bldT, numT_ne, hps, if_false, List.nil_append, List.cons_ne_nil, List.append_assoc, List.cons_append, h33, decide_false, Bool.false_eq_true] at c1 c2 c3 c6
      simp (config := {decide := true}) only [go_sem, ↓reduceIte, decide_true, decide_false, List.all_cons, List.all_nil, Bool.and_true, headId, Tryz.f12, Option.get!, encV, hbid, hbid3, ne_eq, not_false_eq_true, hne0, hs47, List.length_map, c1, c2, c3, c6, Nat.reduceAdd, List.append_assoc, List.cons_append, List.nil_append]
  · have g2' : 0 < (qs.length : Int) := by
      have : qs.length ≠ 0 := fun h => g2 (List.eq_nil_of_length_eq_zero h)
      omega
    by_cases g1 : e = 0
    · subst g1
      simp only [textV, ne_eq, not_true_eq_false, if_false, g2, if_false, List.append_nil, List.nil_append, List.length_append, List.length_singleton, List.length_cons] at ht ⊢
      have c3 := h49 (.sl (qs.map encC)) none ps (plain_sl _) (.inl rfl) (by simp [bldT]; omega)
      have c4 := h48 (.sl (qs.map encC)) (some (textP true ps)) 43 (plain_sl _) (by simp only [bldT, List.length_append, List.length_singleton]; omega)
      have c5 := h49 (.sl (qs.map encC)) (some ((textP true ps) ++ [43])) qs (plain_sl _) (.inr rfl) (by simp only [bldT, List.length_append, List.length_singleton]; omega)
      have c6 := h50' (((textP true ps) ++ [43]) ++ textP true qs) (by simp [hps])
      simp only [bA, bld, wrO, bldT, numT_ne, hps, hqs' g2, if_false, List.nil_append, List.cons_ne_nil, List.append_assoc, List.cons_append, h43, decide_false, Bool.false_eq_true] at c3 c4 c5 c6
      simp (config := {decide := true}) only [go_sem, ↓reduceIte, decide_true, decide_false, List.all_cons, List.all_nil, Bool.and_true, headId, Tryz.f12, Option.get!, encV, hbid, hbid3, ne_eq, not_true_eq_false, g2, g2', List.length_map, c3, c4, c5, c6, Nat.reduceAdd, List.append_assoc, List.cons_append, List.nil_append]
    · have hne0 : ¬ e = 0 := g1
      simp only [textV, hne0, ne_eq, not_false_eq_true, if_true, g2, if_false, List.append_nil, List.nil_append, List.length_append, List.length_singleton, List.length_cons] at ht ⊢
      have c1 := h46 (.sl (qs.map encC)) none (numT e.toNat) (plain_sl _) (numT_ne _) (by simp [bldT]; omega)
      have c2 := h48 (.sl (qs.map encC)) (some (numT e.toNat)) 33 (plain_sl _) (by simp only [bldT]; omega)
      have c3 := h49 (.sl (qs.map encC)) (some (numT e.toNat ++ [33])) ps (plain_sl _) (.inl rfl) (by simp only [bldT, List.length_append, List.length_singleton]; omega)
      have c4 := h48 (.sl (qs.map encC)) (some (numT e.toNat ++ [33] ++ textP true ps)) 43 (plain_sl _) (by simp only [bldT, List.length_append, List.length_singleton]; omega)
      have c5 := h49 (.sl (qs.map encC)) (some ((numT e.toNat ++ [33] ++ textP true ps) ++ [43])) qs (plain_sl _) (.inr rfl) (by simp only [bldT, List.length_append, List.length_singleton]; omega)
      have c6 := h50' (((numT e.toNat ++ [33] ++ textP true ps) ++ [43]) ++ textP true qs) (by simp [hps])
      simp only [bA, bld, wrO, bldT, numT_ne, hps, hqs' g2, if_false, List.nil_append, List.cons_ne_nil, List.append_assoc, List.cons_append, h33, h43, decide_false, Bool.false_eq_true] at c1 c2 c3 c4 c5 c6
      simp (config := {decide := true}) only [go_sem, ↓reduceIte, decide_true, decide_false, List.all_cons, List.all_nil, Bool.and_true, headId, Tryz.f12, Option.get!, encV, hbid, hbid3, ne_eq, not_false_eq_true, hne0, hs47, g2, g2', List.length_map, c1, c2, c3, c4, c5, c6, Nat.reduceAdd, List.append_assoc, List.cons_append, List.nil_append]
end Go.Proofs.YtllilhgdnepipaaGreatDoor

/-
  What Num, alive and the law VersionParses compute, as the abstract machine runs them. The callees' answers are handed in.
-/
namespace Go.Proofs.YtllilhgdnepipaaGreatDoor
open Go Go.Avm
set_option linter.unusedSimpArgs false
set_option linter.unusedVariables false

@[go_sem] theorem globE (n : Nat) (h : n < 13) : E.glob n = some [.err n] := by
  have : n = 0 ∨ n = 1 ∨ n = 2 ∨ n = 3 ∨ n = 4 ∨ n = 5 ∨ n = 6 ∨ n = 7 ∨ n = 8 ∨ n = 9 ∨ n = 10 ∨ n = 11 ∨ n = 12 := by omega
  rcases this with rfl | rfl | rfl | rfl | rfl | rfl | rfl | rfl | rfl | rfl | rfl | rfl | rfl <;> rfl

theorem spec11 (call : Rec) (h45 : ∀ a b : Nat, a < 13 → b < 13 → call 45 [.err a, .err b] [] = some ([.bool (decide (a = b))], [])) : body E call iterL 11 [.err 0] [] = some ([.int .i64 8], []) := by
  have a0 : iAddrL 1 0 [.err 1, .err 2, .err 3, .err 4, .err 5, .err 6, .err 7, .err 0, .err 8, .err 9, .err 10, .err 11, .err 12] = some (.el [.err 1]) := iAddrL_of (n := 0) (y := .err 1) (by decide) rfl rfl
  have a1 : iAddrL 1 1 [.err 1, .err 2, .err 3, .err 4, .err 5, .err 6, .err 7, .err 0, .err 8, .err 9, .err 10, .err 11, .err 12] = some (.el [.err 2]) := iAddrL_of (n := 1) (y := .err 2) (by decide) rfl rfl
  have a2 : iAddrL 1 2 [.err 1, .err 2, .err 3, .err 4, .err 5, .err 6, .err 7, .err 0, .err 8, .err 9, .err 10, .err 11, .err 12] = some (.el [.err 3]) := iAddrL_of (n := 2) (y := .err 3) (by decide) rfl rfl
  have a3 : iAddrL 1 3 [.err 1, .err 2, .err 3, .err 4, .err 5, .err 6, .err 7, .err 0, .err 8, .err 9, .err 10, .err 11, .err 12] = some (.el [.err 4]) := iAddrL_of (n := 3) (y := .err 4) (by decide) rfl rfl
  have a4 : iAddrL 1 4 [.err 1, .err 2, .err 3, .err 4, .err 5, .err 6, .err 7, .err 0, .err 8, .err 9, .err 10, .err 11, .err 12] = some (.el [.err 5]) := iAddrL_of (n := 4) (y := .err 5) (by decide) rfl rfl
  have a5 : iAddrL 1 5 [.err 1, .err 2, .err 3, .err 4, .err 5, .err 6, .err 7, .err 0, .err 8, .err 9, .err 10, .err 11, .err 12] = some (.el [.err 6]) := iAddrL_of (n := 5) (y := .err 6) (by decide) rfl rfl
  have a6 : iAddrL 1 6 [.err 1, .err 2, .err 3, .err 4, .err 5, .err 6, .err 7, .err 0, .err 8, .err 9, .err 10, .err 11, .err 12] = some (.el [.err 7]) := iAddrL_of (n := 6) (y := .err 7) (by decide) rfl rfl
  have a7 : iAddrL 1 7 [.err 1, .err 2, .err 3, .err 4, .err 5, .err 6, .err 7, .err 0, .err 8, .err 9, .err 10, .err 11, .err 12] = some (.el [.err 0]) := iAddrL_of (n := 7) (y := .err 0) (by decide) rfl rfl
  have w0 : IntKind.i64.wrap (0 + 1) = 1 := by decide
  have w1 : IntKind.i64.wrap (1 + 1) = 2 := by decide
  have w2 : IntKind.i64.wrap (2 + 1) = 3 := by decide
  have w3 : IntKind.i64.wrap (3 + 1) = 4 := by decide
  have w4 : IntKind.i64.wrap (4 + 1) = 5 := by decide
  have w5 : IntKind.i64.wrap (5 + 1) = 6 := by decide
  have w6 : IntKind.i64.wrap (6 + 1) = 7 := by decide
  have w7 : IntKind.i64.wrap (7 + 1) = 8 := by decide
  have i0 := h45 0 1 (by decide) (by decide)
  have i1 := h45 0 2 (by decide) (by decide)
  have i2 := h45 0 3 (by decide) (by decide)
  have i3 := h45 0 4 (by decide) (by decide)
  have i4 := h45 0 5 (by decide) (by decide)
  have i5 := h45 0 6 (by decide) (by decide)
  have i6 := h45 0 7 (by decide) (by decide)
  have i7 := h45 0 0 (by decide) (by decide)
  have hl : ((0 + 1 + 1 + 1 + 1 + 1 + 1 + 1 + 1 + 1 + 1 + 1 + 1 + 1 : Nat) : Int) = 13 := rfl
  rw [body_eq fn11 (c := Tryz.f11.body.get!) rfl]
  simp (config := {decide := true}) only [go_sem, ↓reduceIte, decide_true, decide_false, List.all_cons, List.all_nil, Bool.and_true, headId, Tryz.f11, Option.get!, loopE_eq, hl, a0, w0, i0, a1, w1, i1, a2, w2, i2, a3, w3, i3, a4, w4, i4, a5, w5, i5, a6, w6, i6, a7, w7, i7, List.range, List.range.loop, Bool.or_true, Bool.or_self, Bool.or_false]

theorem spec7 (p1 p2 p3 p4 p5 p6 : List AV) (call : Rec)
    (h81 : call 8 [.str ⟨#[49, 46, 48, 100, 101, 118]⟩] [] = some ([.agg [.int .i64 0, .sl p1, .nilS], .nilI], []))
    (h82 : call 8 [.str ⟨#[49, 46, 48, 97, 49]⟩] [] = some ([.agg [.int .i64 0, .sl p2, .nilS], .nilI], []))
    (h83 : call 8 [.str ⟨#[49, 46, 48]⟩] [] = some ([.agg [.int .i64 0, .sl p3, .nilS], .nilI], []))
    (h84 : call 8 [.str ⟨#[49, 46, 48, 112, 111, 115, 116]⟩] [] = some ([.agg [.int .i64 0, .sl p4, .nilS], .nilI], []))
    (h85 : call 8 [.str ⟨#[49, 46, 49]⟩] [] = some ([.agg [.int .i64 0, .sl p5, .nilS], .nilI], []))
    (h86 : call 8 [.str ⟨#[49, 46, 49, 48, 46, 51]⟩] [] = some ([.agg [.int .i64 0, .sl p6, .nilS], .nilI], []))
    (h331 : call 33 [.agg [.int .i64 0, .sl p1, .nilS], .agg [.int .i64 0, .sl p2, .nilS]] [] = some ([.int .i64 (-1)], []))
    (h332 : call 33 [.agg [.int .i64 0, .sl p2, .nilS], .agg [.int .i64 0, .sl p3, .nilS]] [] = some ([.int .i64 (-1)], []))
    (h333 : call 33 [.agg [.int .i64 0, .sl p3, .nilS], .agg [.int .i64 0, .sl p4, .nilS]] [] = some ([.int .i64 (-1)], []))
    (h334 : call 33 [.agg [.int .i64 0, .sl p4, .nilS], .agg [.int .i64 0, .sl p5, .nilS]] [] = some ([.int .i64 (-1)], []))
    (h34 : call 34 [.agg [.int .i64 0, .sl p6, .nilS], .agg [.int .i64 0, .sl p5, .nilS]] [] = some ([.bool false], []))
    (h35 : call 35 [.sl [.agg [.int .i64 0, .sl p1, .nilS], .agg [.int .i64 0, .sl p2, .nilS], .agg [.int .i64 0, .sl p3, .nilS], .agg [.int .i64 0, .sl p4, .nilS], .agg [.int .i64 0, .sl p5, .nilS]]] [] = some ([.int .i64 4], [])) :
    body E call iterL 7 [] [] = some ([.bool true], []) := by
  have a0 : iAddrL 1 0 [.str ⟨#[49, 46, 48, 100, 101, 118]⟩, .str ⟨#[49, 46, 48, 97, 49]⟩, .str ⟨#[49, 46, 48]⟩, .str ⟨#[49, 46, 48, 112, 111, 115, 116]⟩, .str ⟨#[49, 46, 49]⟩] = some (.el [.str ⟨#[49, 46, 48, 100, 101, 118]⟩]) := iAddrL_of (n := 0) (y := .str ⟨#[49, 46, 48, 100, 101, 118]⟩) (by decide) rfl rfl
  have a1 : iAddrL 1 1 [.str ⟨#[49, 46, 48, 100, 101, 118]⟩, .str ⟨#[49, 46, 48, 97, 49]⟩, .str ⟨#[49, 46, 48]⟩, .str ⟨#[49, 46, 48, 112, 111, 115, 116]⟩, .str ⟨#[49, 46, 49]⟩] = some (.el [.str ⟨#[49, 46, 48, 97, 49]⟩]) := iAddrL_of (n := 1) (y := .str ⟨#[49, 46, 48, 97, 49]⟩) (by decide) rfl rfl
  have a2 : iAddrL 1 2 [.str ⟨#[49, 46, 48, 100, 101, 118]⟩, .str ⟨#[49, 46, 48, 97, 49]⟩, .str ⟨#[49, 46, 48]⟩, .str ⟨#[49, 46, 48, 112, 111, 115, 116]⟩, .str ⟨#[49, 46, 49]⟩] = some (.el [.str ⟨#[49, 46, 48]⟩]) := iAddrL_of (n := 2) (y := .str ⟨#[49, 46, 48]⟩) (by decide) rfl rfl
  have a3 : iAddrL 1 3 [.str ⟨#[49, 46, 48, 100, 101, 118]⟩, .str ⟨#[49, 46, 48, 97, 49]⟩, .str ⟨#[49, 46, 48]⟩, .str ⟨#[49, 46, 48, 112, 111, 115, 116]⟩, .str ⟨#[49, 46, 49]⟩] = some (.el [.str ⟨#[49, 46, 48, 112, 111, 115, 116]⟩]) := iAddrL_of (n := 3) (y := .str ⟨#[49, 46, 48, 112, 111, 115, 116]⟩) (by decide) rfl rfl
  have a4 : iAddrL 1 4 [.str ⟨#[49, 46, 48, 100, 101, 118]⟩, .str ⟨#[49, 46, 48, 97, 49]⟩, .str ⟨#[49, 46, 48]⟩, .str ⟨#[49, 46, 48, 112, 111, 115, 116]⟩, .str ⟨#[49, 46, 49]⟩] = some (.el [.str ⟨#[49, 46, 49]⟩]) := iAddrL_of (n := 4) (y := .str ⟨#[49, 46, 49]⟩) (by decide) rfl rfl
  have b0 : iAddrL 3 0 [.agg [.int .i64 0, .sl p1, .nilS], .agg [.int .i64 0, .sl p2, .nilS], .agg [.int .i64 0, .sl p3, .nilS], .agg [.int .i64 0, .sl p4, .nilS], .agg [.int .i64 0, .sl p5, .nilS]] = some (.el [.int .i64 0, .sl p1, .nilS]) := iAddrL_of (n := 0) (y := .agg [.int .i64 0, .sl p1, .nilS]) (by decide) rfl rfl
  have b1 : iAddrL 3 1 [.agg [.int .i64 0, .sl p1, .nilS], .agg [.int .i64 0, .sl p2, .nilS], .agg [.int .i64 0, .sl p3, .nilS], .agg [.int .i64 0, .sl p4, .nilS], .agg [.int .i64 0, .sl p5, .nilS]] = some (.el [.int .i64 0, .sl p2, .nilS]) := iAddrL_of (n := 1) (y := .agg [.int .i64 0, .sl p2, .nilS]) (by decide) rfl rfl
  have b2 : iAddrL 3 2 [.agg [.int .i64 0, .sl p1, .nilS], .agg [.int .i64 0, .sl p2, .nilS], .agg [.int .i64 0, .sl p3, .nilS], .agg [.int .i64 0, .sl p4, .nilS], .agg [.int .i64 0, .sl p5, .nilS]] = some (.el [.int .i64 0, .sl p3, .nilS]) := iAddrL_of (n := 2) (y := .agg [.int .i64 0, .sl p3, .nilS]) (by decide) rfl rfl
  have b3 : iAddrL 3 3 [.agg [.int .i64 0, .sl p1, .nilS], .agg [.int .i64 0, .sl p2, .nilS], .agg [.int .i64 0, .sl p3, .nilS], .agg [.int .i64 0, .sl p4, .nilS], .agg [.int .i64 0, .sl p5, .nilS]] = some (.el [.int .i64 0, .sl p4, .nilS]) := iAddrL_of (n := 3) (y := .agg [.int .i64 0, .sl p4, .nilS]) (by decide) rfl rfl
  have b4 : iAddrL 3 4 [.agg [.int .i64 0, .sl p1, .nilS], .agg [.int .i64 0, .sl p2, .nilS], .agg [.int .i64 0, .sl p3, .nilS], .agg [.int .i64 0, .sl p4, .nilS], .agg [.int .i64 0, .sl p5, .nilS]] = some (.el [.int .i64 0, .sl p5, .nilS]) := iAddrL_of (n := 4) (y := .agg [.int .i64 0, .sl p5, .nilS]) (by decide) rfl rfl
  have w0 : IntKind.i64.wrap (0 + 1) = 1 := by decide
  have w1 : IntKind.i64.wrap (1 + 1) = 2 := by decide
  have w2 : IntKind.i64.wrap (2 + 1) = 3 := by decide
  have w3 : IntKind.i64.wrap (3 + 1) = 4 := by decide
  have w4 : IntKind.i64.wrap (4 + 1) = 5 := by decide
  have m1 : IntKind.i64.wrap (1 - 1) = 0 := by decide
  have m2 : IntKind.i64.wrap (2 - 1) = 1 := by decide
  have m3 : IntKind.i64.wrap (3 - 1) = 2 := by decide
  have m4 : IntKind.i64.wrap (4 - 1) = 3 := by decide
  have hl : ((0 + 1 + 1 + 1 + 1 + 1 : Nat) : Int) = 5 := rfl
  have hb4 : bid 25 4 = 2500004 := rfl
  have hb7 : bid 25 7 = 2500007 := rfl
  have hb9 : bid 25 9 = 2500009 := rfl
  have happ : ∀ (s : S) (d : Nat) (xs : List AV) (p : List AV), xs.length < 1000 → app3 s d 25 ⟨.struct [(0, 3), (1, 23), (2, 23)], 3, 56, [AV.int .i64 0, .nilS, .nilS]⟩ [.agg [.int .i64 0, .sl p, .nilS]] (.own 22 25 xs) =
      some ((s.kill 22).put (some d) (.own 22 25 (xs ++ [.agg [.int .i64 0, .sl p, .nilS]]))) := by
    intro s d xs p hx
    rw [app3_own]
    refine ⟨by decide, ?_, ?_, rfl⟩ <;> simp <;> omega
  have happ1 := fun s d => happ s d [] p1 (by simp)
  have happ2 := fun s d => happ s d [.agg [.int .i64 0, .sl p1, .nilS]] p2 (by simp)
  have happ3 := fun s d => happ s d [.agg [.int .i64 0, .sl p1, .nilS], .agg [.int .i64 0, .sl p2, .nilS]] p3 (by simp)
  have happ4 := fun s d => happ s d [.agg [.int .i64 0, .sl p1, .nilS], .agg [.int .i64 0, .sl p2, .nilS], .agg [.int .i64 0, .sl p3, .nilS]] p4 (by simp)
  have happ5 := fun s d => happ s d [.agg [.int .i64 0, .sl p1, .nilS], .agg [.int .i64 0, .sl p2, .nilS], .agg [.int .i64 0, .sl p3, .nilS], .agg [.int .i64 0, .sl p4, .nilS]] p5 (by simp)
  simp only [List.cons_append, List.nil_append] at happ1 happ2 happ3 happ4 happ5
  rw [body_eq fn7 (c := Tryz.f7.body.get!) rfl]
  simp (config := {decide := true}) only [go_sem, ↓reduceIte, decide_true, decide_false, List.all_cons, List.all_nil, Bool.and_true, headId, Tryz.f7, Option.get!, loopE_eq, hl, hb4, hb7, hb9, a0, b0, w0, happ1, h81, a1, b1, w1, happ2, h82, a2, b2, w2, happ3, h83, a3, b3, w3, happ4, h84, a4, b4, w4, happ5, h85, h86, m1, h331, m2, h332, m3, h333, m4, h334, h34, h35, List.range, List.range.loop, Bool.or_true, Bool.or_self, Bool.or_false, Nat.reduceMul, Bool.not_false, and_self, and_true, Bool.and_self]

theorem spec35 (p1 p2 p3 p4 p5 : List AV) (call : Rec)
    (h331 : call 33 [.agg [.int .i64 0, .sl p2, .nilS], .agg [.int .i64 0, .sl p1, .nilS]] [] = some ([.int .i64 1], []))
    (h332 : call 33 [.agg [.int .i64 0, .sl p3, .nilS], .agg [.int .i64 0, .sl p2, .nilS]] [] = some ([.int .i64 1], []))
    (h333 : call 33 [.agg [.int .i64 0, .sl p4, .nilS], .agg [.int .i64 0, .sl p3, .nilS]] [] = some ([.int .i64 1], []))
    (h334 : call 33 [.agg [.int .i64 0, .sl p5, .nilS], .agg [.int .i64 0, .sl p4, .nilS]] [] = some ([.int .i64 1], [])) :
    body E call iterL 35 [.sl [.agg [.int .i64 0, .sl p1, .nilS], .agg [.int .i64 0, .sl p2, .nilS], .agg [.int .i64 0, .sl p3, .nilS], .agg [.int .i64 0, .sl p4, .nilS], .agg [.int .i64 0, .sl p5, .nilS]]] [] = some ([.int .i64 4], []) := by
  have b0 : iAddrL 3 0 [.agg [.int .i64 0, .sl p1, .nilS], .agg [.int .i64 0, .sl p2, .nilS], .agg [.int .i64 0, .sl p3, .nilS], .agg [.int .i64 0, .sl p4, .nilS], .agg [.int .i64 0, .sl p5, .nilS]] = some (.el [.int .i64 0, .sl p1, .nilS]) := iAddrL_of (n := 0) (y := .agg [.int .i64 0, .sl p1, .nilS]) (by decide) rfl rfl
  have b1 : iAddrL 3 1 [.agg [.int .i64 0, .sl p1, .nilS], .agg [.int .i64 0, .sl p2, .nilS], .agg [.int .i64 0, .sl p3, .nilS], .agg [.int .i64 0, .sl p4, .nilS], .agg [.int .i64 0, .sl p5, .nilS]] = some (.el [.int .i64 0, .sl p2, .nilS]) := iAddrL_of (n := 1) (y := .agg [.int .i64 0, .sl p2, .nilS]) (by decide) rfl rfl
  have b2 : iAddrL 3 2 [.agg [.int .i64 0, .sl p1, .nilS], .agg [.int .i64 0, .sl p2, .nilS], .agg [.int .i64 0, .sl p3, .nilS], .agg [.int .i64 0, .sl p4, .nilS], .agg [.int .i64 0, .sl p5, .nilS]] = some (.el [.int .i64 0, .sl p3, .nilS]) := iAddrL_of (n := 2) (y := .agg [.int .i64 0, .sl p3, .nilS]) (by decide) rfl rfl
  have b3 : iAddrL 3 3 [.agg [.int .i64 0, .sl p1, .nilS], .agg [.int .i64 0, .sl p2, .nilS], .agg [.int .i64 0, .sl p3, .nilS], .agg [.int .i64 0, .sl p4, .nilS], .agg [.int .i64 0, .sl p5, .nilS]] = some (.el [.int .i64 0, .sl p4, .nilS]) := iAddrL_of (n := 3) (y := .agg [.int .i64 0, .sl p4, .nilS]) (by decide) rfl rfl
  have b4 : iAddrL 3 4 [.agg [.int .i64 0, .sl p1, .nilS], .agg [.int .i64 0, .sl p2, .nilS], .agg [.int .i64 0, .sl p3, .nilS], .agg [.int .i64 0, .sl p4, .nilS], .agg [.int .i64 0, .sl p5, .nilS]] = some (.el [.int .i64 0, .sl p5, .nilS]) := iAddrL_of (n := 4) (y := .agg [.int .i64 0, .sl p5, .nilS]) (by decide) rfl rfl
  have w0 : IntKind.i64.wrap (0 + 1) = 1 := by decide
  have w1 : IntKind.i64.wrap (1 + 1) = 2 := by decide
  have w2 : IntKind.i64.wrap (2 + 1) = 3 := by decide
  have w3 : IntKind.i64.wrap (3 + 1) = 4 := by decide
  have w4 : IntKind.i64.wrap (4 + 1) = 5 := by decide
  have hl : ((0 + 1 + 1 + 1 + 1 + 1 : Nat) : Int) = 5 := rfl
  have hb5 : bid 25 5 = 2500005 := rfl
  rw [body_eq fn35 (c := Tryz.f35.body.get!) rfl]
  simp (config := {decide := true}) only [go_sem, ↓reduceIte, decide_true, decide_false, List.all_cons, List.all_nil, Bool.and_true, headId, Tryz.f35, Option.get!, loopE_eq, hl, hb5, b0, w0, b1, w1, b2, w2, b3, w3, b4, w4, h331, h332, h333, h334, Bool.or_true, Bool.or_self, Bool.or_false, and_self, and_true, Bool.and_self]

theorem spec34 (q1 q2 q3 r1 r2 : List AV) (x : AV) (n m : Int) (u w : ByteArray) (call : Rec)
    (h83 : call 83 [.sl [.sl q1, .sl q2, .sl q3], .int .i64 0, .nilS] [] = some ([.sl q1], []))
    (h83' : call 83 [.sl [.sl q1, .sl q2, .sl q3], .int .i64 1, .nilS] [] = some ([.sl q2], []))
    (h82 : call 82 [.sl q1, .sl r1] [] = some ([.int .i64 0], []))
    (h85 : call 85 [.sl q2, .int .i64 0, .agg [.int .i64 0, .str ⟨#[]⟩]] [] = some ([.agg [.int .i64 n, .str u]], []))
    (h84 : call 84 [.agg [.int .i64 n, .str u], .agg [.int .i64 m, .str w]] [] = some ([.int .i64 1], [])) :
    body E call iterL 34 [.agg [.int .i64 0, .sl [.sl q1, .sl q2, .sl q3], .nilS], .agg [.int .i64 0, .sl [.sl r1, .sl [.agg [.int .i64 m, .str w]]], .nilS]] [] = some ([.bool false], []) := by
  have hb2 : bid 25 2 = 2500002 := rfl
  have hb3 : bid 25 3 = 2500003 := rfl
  have hb9 : bid 122 9 = 12200009 := rfl
  have hl : ((0 + 1 + 1 : Nat) : Int) = 2 := rfl
  have hl1 : ((0 + 1 : Nat) : Int) = 1 := rfl
  have m1 : IntKind.i64.wrap (2 - 1) = 1 := by decide
  have w0 : IntKind.i64.wrap (0 + 1) = 1 := by decide
  have b0 : iAddrL 1 0 [.sl r1, .sl [.agg [.int .i64 m, .str w]]] = some (.el [.sl r1]) := iAddrL_of (n := 0) (y := .sl r1) (by decide) rfl rfl
  have b1 : iAddrL 1 1 [.sl r1, .sl [.agg [.int .i64 m, .str w]]] = some (.el [.sl [.agg [.int .i64 m, .str w]]]) := iAddrL_of (n := 1) (y := .sl [.agg [.int .i64 m, .str w]]) (by decide) rfl rfl
  have c0 : iAddrL 2 0 [.agg [.int .i64 m, .str w]] = some (.el [.int .i64 m, .str w]) := iAddrL_of (n := 0) (y := .agg [.int .i64 m, .str w]) (by decide) rfl rfl
  rw [body_eq fn34 (c := Tryz.f34.body.get!) rfl]
  simp (config := {decide := true}) only [go_sem, ↓reduceIte, decide_true, decide_false, List.all_cons, List.all_nil, Bool.and_true, headId, Tryz.f34, Option.get!, loopE_eq, hl, hl1, hb2, hb3, hb9, m1, w0, b0, b1, c0, h83, h83', h82, h85, h84, and_self, and_true, Bool.and_self, segFrom]

theorem spec3 (L : List UInt8) (call : Rec) (h7 : call 7 [] [] = some ([.bool true], []))
    (h8 : ∀ l : List UInt8, l.length < 1000000 → call 8 [.str (toB l)] [] = some (parseA (parseV l), []))
    (h9 : ∀ l : List UInt8, l.length < 1000000 → call 9 [.str (toB l)] [] = some (verA (parseV l), []))
    (h10z : call 10 [zeroV, zeroV] [] = some ([.bool true], []))
    (h10 : ∀ v : Ver, rightV v = true → (textV v).length ≤ 40 → call 10 [encV v, encV v] [] = some ([.bool true], []))
    (h11 : call 11 [.err 0] [] = some ([.int .i64 8], []))
    (h12 : ∀ v : Ver, rightV v = true → (textV v).length ≤ 40 → call 12 [encV v] [] = some ([.str (toB (textV v))], []))
    (h13 : ∀ v : Ver, rightV v = true → (textV v).length ≤ 40 → call 13 [encV v] [] = some ([.bool true], []))
    (h14 : ∀ v : Ver, rightV v = true → (textV v).length ≤ 40 → call 14 [encV v] [] = some ([.str (toB (textV v))], [])) :
    body E call iterL 3 [.str (toB L)] [] = some ([.bool true], []) := by
  have hb3 : bid 25 3 = 2500003 := rfl
  have hb5 : bid 25 5 = 2500005 := rfl
  have hb8 : bid 25 8 = 2500008 := rfl
  rw [body_eq fn3 (c := Tryz.f3.body.get!) rfl]
  by_cases hL : (500 : Int) < L.length
  · simp (config := {decide := true}) only [go_sem, ↓reduceIte, decide_true, decide_false, List.all_cons, List.all_nil, Bool.and_true, headId, Tryz.f3, Option.get!, h7, hL, toB_size, Bool.not_true]
  · have q8 := h8 L (by omega)
    have q9 := h9 L (by omega)
    cases hp : parseV L with
    | none =>
      rw [hp] at q8 q9
      simp only [parseA, verA, zeroV] at q8 q9 h10z
      simp (config := {decide := true}) only [go_sem, ↓reduceIte, decide_true, decide_false, List.all_cons, List.all_nil, Bool.and_true, headId, Tryz.f3, Option.get!, h7, hL, toB_size, Bool.not_true, Bool.not_false, q8, q9, hb3, hb5, hb8, h10z, h11, and_self, and_true, Bool.and_self, Bool.or_true, Bool.or_self, Bool.or_false]
    | some v =>
      obtain ⟨hr, ht⟩ := parse_right hp
      have hback := parse_text hr ht
      have q8' := h8 (textV v) (by omega)
      have q10 := h10 v hr ht
      have q12 := h12 v hr ht
      have q13 := h13 v hr ht
      have q14 := h14 v hr ht
      have hself : (textV v == textV v) = true := beq_self_eq_true _
      rw [hback] at q8'
      rw [hp] at q8 q9
      generalize textV v = T at q8' q12 q14 hself
      obtain ⟨e, ps, qs⟩ := v
      by_cases hq : qs = []
      · simp only [parseA, verA, encV, hq, if_true] at q8 q9 q8' q10 q12 q13 q14
        simp (config := {decide := true}) only [go_sem, ↓reduceIte, decide_true, decide_false, List.all_cons, List.all_nil, Bool.and_true, headId, Tryz.f3, Option.get!, h7, hL, toB_size, toB_toList, Bool.not_true, Bool.not_false, q8, q9, q10, q12, q13, q14, q8', hself, hb3, hb5, hb8, and_self, and_true, Bool.and_self, Bool.or_true, Bool.or_self, Bool.or_false]
      · simp only [parseA, verA, encV, hq, if_false] at q8 q9 q8' q10 q12 q13 q14
        simp (config := {decide := true}) only [go_sem, ↓reduceIte, decide_true, decide_false, List.all_cons, List.all_nil, Bool.and_true, headId, Tryz.f3, Option.get!, h7, hL, toB_size, toB_toList, Bool.not_true, Bool.not_false, q8, q9, q10, q12, q13, q14, q8', hself, hb3, hb5, hb8, and_self, and_true, Bool.and_self, Bool.or_true, Bool.or_self, Bool.or_false]
end Go.Proofs.YtllilhgdnepipaaGreatDoor
