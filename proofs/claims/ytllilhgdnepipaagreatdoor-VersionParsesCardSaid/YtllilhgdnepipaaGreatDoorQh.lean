-- Merged by a small program of this claim's maker out of 4 texts.
import Derived.Test.YtllilhgdnepipaaGreatDoorQg

/-
  What the document's Components computes, as the abstract machine runs it. For texts of fewer than a million bytes; the callees' answers are handed in.
-/
namespace Go.Proofs.YtllilhgdnepipaaGreatDoor
open Go Go.Avm
set_option linter.unusedSimpArgs false

theorem wrap_nat {n : Nat} (h : n < 9000000) : IntKind.i64.wrap ((n : Int) + 1) = ((n + 1 : Nat) : Int) := by rw [wrap_small (by omega) (by omega)]; rfl
theorem toB_idxN {l : List UInt8} {i : Nat} (h : i < l.length) : sIdx (toB l) (i : Int) = some l[i] := toB_idx (by omega) (by omega)
theorem toB_cutN {l : List UInt8} {a b : Nat} (h1 : a ≤ b) (h2 : b ≤ l.length) : cutS (toB l) (some (a : Int)) (some (b : Int)) = some (.str (toB ((l.take b).drop a))) :=
  toB_cut (by omega) (by omega) (by omega)

/-- A byte that no version has. -/
def badB (c : UInt8) : Bool := !isSep c && !dig c && !isLet c
theorem items_good : ∀ (n : Nat) (l : List UInt8) (r : List Item), l.length ≤ n → items l = some r → ∀ x ∈ l, dig x = true ∨ isLet x = true
  | n, [], r, _, _, x, hx => by simp at hx
  | n + 1, c :: l, r, hn, h, x, hx => by
    have split : ∀ (p : UInt8 → Bool), x ∈ l → x ∈ l.take (runP p l) ∨ x ∈ l.drop (runP p l) := by
      intro p hm
      rw [← List.take_append_drop (runP p l) l] at hm
      exact List.mem_append.1 hm
    rw [items_cons] at h
    split at h
    · rename_i hc
      simp only [Option.map_eq_some_iff] at h
      obtain ⟨r', hr', _⟩ := h
      rcases List.mem_cons.1 hx with rfl | hx
      · exact .inr hc
      · rcases split isLet hx with hx | hx
        · exact .inr (runP_take l x hx)
        · exact items_good n _ r' (by simp at hn ⊢; omega) hr' x hx
    · split at h
      · rename_i hc
        split at h
        · simp only [Option.map_eq_some_iff] at h
          obtain ⟨r', hr', _⟩ := h
          rcases List.mem_cons.1 hx with rfl | hx
          · exact .inl hc
          · rcases split dig hx with hx | hx
            · exact .inl (runP_take l x hx)
            · exact items_good n _ r' (by simp at hn ⊢; omega) hr' x hx
        · exact absurd h (by simp)
      · exact absurd h (by simp)
theorem compo_good {l : List UInt8} {r : List Item} (h : compo l = some r) : ∀ x ∈ l, dig x = true ∨ isLet x = true := by
  cases l with
  | nil => intro x hx; simp at hx
  | cons c l =>
    simp only [compo] at h
    split at h
    · simp only [Option.map_eq_some_iff] at h
      obtain ⟨r', hr', _⟩ := h
      exact items_good _ _ r' (Nat.le_refl _) hr'
    · exact items_good _ _ r (Nat.le_refl _) h
theorem comps_bad {c : UInt8} (h1 : dig c = false) (h2 : isLet c = false) : ∀ (l cur : List UInt8), c ∈ cur → comps cur l = none
  | [], cur, hm => by
    cases hc : compo cur with
    | none => simp only [comps, hc, Option.map_none]
    | some r => rcases compo_good hc c hm with h | h <;> simp_all
  | x :: l, cur, hm => by
    simp only [comps]
    split
    · cases hc : compo cur with
      | none => rfl
      | some r => rcases compo_good hc c hm with h | h <;> simp_all
    · exact comps_bad h1 h2 l _ (List.mem_append_left _ hm)
theorem runP_same {p q : UInt8 → Bool} : ∀ {l : List UInt8}, (∀ x ∈ l, p x = q x) → runP p l = runP q l
  | [], _ => rfl
  | x :: l, h => by simp only [runP, h x (by simp), runP_same (fun y hy => h y (List.mem_cons_of_mem _ hy))]
theorem small_R (l : List UInt8) : smallR l 1000000000000000 = if (smallD l big).2 = true then (smallD l big).1 else -1 := by
  cases hs : (smallD l big).2 with
  | true =>
    obtain ⟨s1, s2, s3, s4, s5, s6, _⟩ := small_of hs
    have hr : runD l = l.length := by rw [runD_runP]; exact runP_all s3
    have hne : l.length ≠ 0 := fun h => s1 (List.eq_nil_of_length_eq_zero h)
    unfold smallR
    rw [if_neg (by omega), if_neg (by omega), if_pos rfl, s4]
  | false =>
    rw [if_neg (by simp)]
    unfold smallD at hs
    unfold smallR
    split at hs
    · rename_i h; rw [if_pos h]
    · rename_i h
      rw [if_neg h]
      split at hs
      · rename_i h2
        rw [if_pos (by unfold big at h2; omega)]
      · exact absurd hs (by simp)

/-- What the loop over a component's items leads to. -/
def itemsY (f : List Item → Option (Ex × S)) (acc : List Item) : Option (List Item) → Option (Ex × S)
  | none => some (Ex.ret, st [(2, .own 4 87 []), (3, .bool false)] [] [])
  | some r => f (acc ++ r)

/-- What the loop over the components leads to. -/
def compsY (L : List UInt8) (acc : List (List Item)) : Option (List (List Item)) → Option (Ex × S)
  | none => some (Ex.ret, st [(2, .own 4 87 []), (3, .bool false)] [] [])
  | some r => some (Ex.exit 0, st [(0, .str (toB L)), (4, .own 24 87 ((acc ++ r).map encC)), (5, .int .i64 ((L.length + 1 : Nat) : Int)), (6, .int .i64 ((L.length + 1 : Nat) : Int)), (16, .bool false)] [] [])

set_option maxHeartbeats 2000000 in
theorem spec43 (L : List UInt8) (hb : L.length < 1000000) (call : Rec) (h92 : ∀ c, call 92 [.int .u8 c] [] = some ([.bool (isDigI c)], [])) (h93 : ∀ c, call 93 [.int .u8 c] [] = some ([.bool (isLetI c)], []))
    (h42 : ∀ r : List UInt8, r.length < 1000000 → call 42 [.str (toB r), .int .i64 1000000000000000] [] = some ([.int .i64 (smallR r 1000000000000000)], [])) :
    body E call iterL 43 [.str (toB L)] [] = some (match comps [] L with | none => [.own 4 87 [], .bool false] | some r => [.own 24 87 (r.map encC), .bool true], []) := by
  rw [body_eq fn43 (c := Tryz.f43.body.get!) rfl]
  have hnil : (⟨#[]⟩ : ByteArray).toList = [] := toB_toList []
  have hi0 : ∀ (c : UInt8) (l : List UInt8), sIdx (toB (c :: l)) 0 = some c := fun c l => toB_idx (l := c :: l) (i := 0) (by omega) (by simp)
  have hne : ∀ (c : UInt8) (l : List UInt8), ((c :: l : List UInt8) == []) = false := fun _ _ => rfl
  have happ : ∀ (s : S) (d : Nat) (xs : List Item) (n : Int) (w : ByteArray), xs.length < 2000000 → app3 s d 122 ⟨.struct [(0, 3), (1, 9)], 2, 24, [AV.int IntKind.i64 0, AV.str ⟨#[]⟩]⟩ [AV.agg [.int .i64 n, .str w]] (.own 122 122 (xs.map encI)) =
      some ((s.kill 122).put (some d) (.own 122 122 ((xs ++ [(n, w)]).map encI))) := by
    intro s d xs n w hx
    rw [app3_own]
    · rw [List.map_append]; rfl
    · refine ⟨by decide, ?_, ?_, rfl⟩ <;> simp <;> omega
  have happ0 := fun s d n w => happ s d [] n w (by simp)
  simp only [List.map_nil, List.nil_append, List.map_cons] at happ0
  have happ2 : ∀ (s : S) (d : Nat) (xs : List (List Item)) (x : List Item), xs.length < 2000000 → app3 s d 87 ⟨.slice 122, 1, 24, [.nilS]⟩ [.sl (x.map encI)] (.own 24 87 (xs.map encC)) =
      some ((s.kill 24).put (some d) (.own 24 87 ((xs ++ [x]).map encC))) := by
    intro s d xs x hx
    rw [app3_own]
    · rw [List.map_append]; rfl
    · refine ⟨by decide, ?_, ?_, rfl⟩ <;> simp <;> omega
  simp (config := {decide := true}) only [go_sem, Tryz.f43, Option.get!, ↓reduceIte, decide_true, decide_false, List.all_cons, List.all_nil, Bool.and_true, headId, Nat.reduceMul]
  have hz : st [(0, AV.str (toB L)), (4, .own 24 87 []), (5, .int .i64 0), (6, .int .i64 0)] [] [] = st [(0, AV.str (toB L)), (4, .own 24 87 (([] : List (List Item)).map encC)), (5, .int .i64 ((0 : Nat) : Int)), (6, .int .i64 ((0 : Nat) : Int))] [] [] := rfl
  rw [hz, loopE_run (I := fun p : Nat × Nat × List (List Item) => st [(0, .str (toB L)), (4, .own 24 87 (p.2.2.map encC)), (5, .int .i64 (p.1 : Int)), (6, .int .i64 (p.2.1 : Int))] [] [])
    (R := fun p => compsY L p.2.2 (if p.2.1 ≤ L.length then comps ((L.take p.2.1).drop p.1) (L.drop p.2.1) else some []))
    (Inv := fun p => p.1 ≤ p.2.1 ∧ p.2.1 ≤ L.length + 1 ∧ p.2.2.length ≤ p.2.1 ∧ (L.length < p.2.1 → p.1 = L.length + 1) ∧ ∀ x ∈ (L.take p.2.1).drop p.1, dig x = true ∨ isLet x = true) (μ := fun p => L.length + 1 - p.2.1) ?step (0, 0, []) (by simp)]
  case step =>
    rintro ⟨fr, i, out⟩ ⟨hfi, hil, hol, hend, hgood⟩ ih
    simp only at hfi hil hol hend hgood ih ⊢
    rw [loopE_eq]
    by_cases hle : i ≤ L.length
    · have hle' : (i : Int) ≤ (L.length : Int) := by omega
      rw [if_pos hle]
      have hcut := toB_cutN (l := L) (a := fr) (b := i) hfi hle
      by_cases hlt : i < L.length
      · have hlt' : (i : Int) < (L.length : Int) := by omega
        have hs := toB_idxN hlt
        have hdr : L.drop i = L[i] :: L.drop (i + 1) := List.drop_eq_getElem_cons hlt
        have htk : (L.take (i + 1)).drop fr = (L.take i).drop fr ++ [L[i]] := by
          rw [List.take_succ_eq_append_getElem hlt, List.drop_append_of_le_length (by rw [List.length_take]; omega)]
        generalize L[i] = c at hs hdr htk
        by_cases hsep : isSep c = true
        · have hcomps : comps ((L.take i).drop fr) (L.drop i) = (compo ((L.take i).drop fr)).bind fun x => (if i + 1 ≤ L.length then comps ((L.take (i + 1)).drop (i + 1)) (L.drop (i + 1)) else some []).map fun r => x :: r := by
            rw [if_pos (by omega), hdr]
            simp only [comps, hsep, if_true]
            have : (L.take (i + 1)).drop (i + 1) = [] := by simp
            rw [this]
          simp only [isSep, Bool.or_eq_true, decide_eq_true_eq] at hsep
          by_cases h46 : (c.toNat : Int) = 46
          · clear hsep htk
            cases hC : (L.take i).drop fr with
            | nil =>
              rw [hC] at hcut hcomps
              have hbb : (([] : List UInt8) == []) = true := rfl
              simp (config := {decide := true}) only [go_sem, ↓reduceIte, decide_true, decide_false, List.all_cons, List.all_nil, Bool.and_true, headId, toB_size, hle', hlt', hs, Option.map_some, h46, hcut, hnil, toB_toList, hbb]
              rw [hcomps]
              rfl
            | cons c0 s0 =>
              rw [hC] at hcut hcomps hgood
              have hi00 := hi0 c0 s0
              have hClen : (c0 :: s0).length ≤ L.length := by rw [← hC]; simp only [List.length_drop, List.length_take]; omega
              have hcompo : compo (c0 :: s0) = if isLet c0 then (items (c0 :: s0)).map fun r => (0, toB []) :: r else items (c0 :: s0) := rfl
              have hbb := hne c0 s0
              generalize c0 :: s0 = C at hcut hcomps hgood hi00 hClen hcompo hbb
              have hgC := hgood
              rcases Bool.eq_false_or_eq_true (isLet c0) with hc0 | hc0
              all_goals
                simp (config := {decide := true}) only [go_sem, ↓reduceIte, decide_true, decide_false, List.all_cons, List.all_nil, Bool.and_true, headId, toB_size, hle', hlt', hs, Option.map_some, h46, hcut, hnil, toB_toList, hbb, hi00, Option.map_some, h93, isLetI_eq, hc0, happ0, Nat.reduceMul, wrap_nat (show i < 9000000 by omega)]
                obtain ⟨acc0, hacc0, hal, hz⟩ : ∃ acc : List Item, acc = (if isLet c0 = true then [(0, toB [])] else []) ∧ acc.length ≤ 1 ∧
                    (if isLet c0 = true then st [(0, AV.str (toB L)), (4, .own 24 87 (out.map encC)), (5, .int .i64 ((i + 1 : Nat) : Int)), (6, .int .i64 (i : Int)), (7, .str (toB C)), (8, AV.own 122 122 [encI (0, ⟨#[]⟩)]), (9, .int .i64 0)] [] []
                     else st [(0, AV.str (toB L)), (4, .own 24 87 (out.map encC)), (5, .int .i64 ((i + 1 : Nat) : Int)), (6, .int .i64 (i : Int)), (7, .str (toB C)), (8, AV.own 122 122 []), (9, .int .i64 0)] [] []) =
                    st [(0, AV.str (toB L)), (4, .own 24 87 (out.map encC)), (5, .int .i64 ((i + 1 : Nat) : Int)), (6, .int .i64 (i : Int)), (7, .str (toB C)), (8, .own 122 122 (acc.map encI)), (9, .int .i64 ((0 : Nat) : Int))] [] [] := by
                  rw [hc0]
                  first
                    | exact ⟨[(0, toB [])], rfl, Nat.le_refl _, rfl⟩
                    | exact ⟨[], rfl, by simp, rfl⟩
                simp only [hc0, if_true, Bool.false_eq_true, if_false] at hz
                rw [hz, loopE_run (I := fun p : Nat × List Item => st [(0, .str (toB L)), (4, .own 24 87 (out.map encC)), (5, .int .i64 ((i + 1 : Nat) : Int)), (6, .int .i64 (i : Int)), (7, .str (toB C)), (8, .own 122 122 (p.2.map encI)), (9, .int .i64 (p.1 : Int))] [] [])
                  (R := fun p => itemsY (fun r => some (Ex.exit 2, st [(0, .str (toB L)), (4, .own 24 87 (out.map encC)), (5, .int .i64 ((i + 1 : Nat) : Int)), (6, .int .i64 (i : Int)), (7, .str (toB C)), (8, .own 122 122 (r.map encI)), (9, .int .i64 (C.length : Int)), (72, .bool false)] [] [])) p.2 (items (C.drop p.1)))
                  (Inv := fun p => p.1 ≤ C.length ∧ p.2.length ≤ p.1 + 1) (μ := fun p => C.length - p.1) ?step (0, acc0) (by simp only; omega)]
                case step =>
                  rintro ⟨k, acc⟩ ⟨hk, hacc⟩ ih2
                  simp only at hk hacc ih2 ⊢
                  rw [loopE_eq]
                  by_cases hkl : k < C.length
                  · have hkl' : (k : Int) < (C.length : Int) := by omega
                    have hsk := toB_idxN hkl
                    have hgk := hgC C[k] (List.getElem_mem hkl)
                    have hdr : C.drop k = C[k] :: C.drop (k + 1) := List.drop_eq_getElem_cons hkl
                    generalize C[k] = c at hsk hgk hdr
                    simp (config := {decide := true}) only [go_sem, ↓reduceIte, decide_true, decide_false, List.all_cons, List.all_nil, Bool.and_true, headId, toB_size, hkl']
                    rw [loopE_run (I := fun n : Nat => st [(0, .str (toB L)), (4, .own 24 87 (out.map encC)), (5, .int .i64 ((i + 1 : Nat) : Int)), (6, .int .i64 (i : Int)), (7, .str (toB C)), (8, .own 122 122 (acc.map encI)), (9, .int .i64 (k : Int)), (10, .int .i64 (n : Int))] [] [])
                      (R := fun n : Nat => some (Ex.exit 4, st [(0, .str (toB L)), (4, .own 24 87 (out.map encC)), (5, .int .i64 ((i + 1 : Nat) : Int)), (6, .int .i64 (i : Int)), (7, .str (toB C)), (8, .own 122 122 (acc.map encI)), (9, .int .i64 (k : Int)), (10, .int .i64 ((n + runP (fun x => dig x == dig c) (C.drop n) : Nat) : Int)), (88, .bool false)] [] []))
                      (Inv := fun n => n ≤ C.length) (μ := fun n => C.length - n) ?step k hk]
                    case step =>
                      rintro n hn ih3
                      rw [loopE_eq]
                      by_cases hnl : n < C.length
                      · have hnl' : (n : Int) < (C.length : Int) := by omega
                        have hsn := toB_idxN hnl
                        rw [List.drop_eq_getElem_cons hnl]
                        generalize C[n] = x at hsn
                        by_cases hx : (dig x == dig c) = true
                        · simp (config := {decide := true}) only [go_sem, ↓reduceIte, decide_true, decide_false, List.all_cons, List.all_nil, Bool.and_true, headId, toB_size, hnl', hsn, hsk, Option.map_some, h92, isDigI_eq, hx]
                          rw [wrap_nat (by omega), ih3 (n + 1) (by omega) (by omega)]
                          simp only [runP, hx, if_true]
                          have e3 : n + 1 + runP (fun x => dig x == dig c) (C.drop (n + 1)) = n + (runP (fun x => dig x == dig c) (C.drop (n + 1)) + 1) := by omega
                          rw [e3]
                        · simp (config := {decide := true}) only [go_sem, ↓reduceIte, decide_true, decide_false, List.all_cons, List.all_nil, Bool.and_true, headId, toB_size, hnl', hsn, hsk, Option.map_some, h92, isDigI_eq, hx]
                          simp [runP, hx]
                      · have hnl' : ¬ (n : Int) < (C.length : Int) := by omega
                        simp (config := {decide := true}) only [go_sem, ↓reduceIte, decide_true, decide_false, List.all_cons, List.all_nil, Bool.and_true, headId, toB_size, hnl']
                        rw [List.drop_eq_nil_of_le (by omega)]
                        simp [runP]
                    rw [hdr]
                    have hp1 : runP (fun x => dig x == dig c) (c :: C.drop (k + 1)) = runP (fun x => dig x == dig c) (C.drop (k + 1)) + 1 := by simp [runP]
                    have hgd : ∀ x ∈ C.drop (k + 1), dig x = true ∨ isLet x = true := fun x hx => hgC x (List.mem_of_mem_drop hx)
                    have hrl := runP_le (fun x => dig x == dig c) (C.drop (k + 1))
                    have hsame : runP (fun x => dig x == dig c) (C.drop (k + 1)) = if dig c = true then runP dig (C.drop (k + 1)) else runP isLet (C.drop (k + 1)) := by
                      rcases hgk with hcd | hcl
                      · rw [if_pos hcd]
                        exact runP_same (fun x _ => by simp [hcd])
                      · have hcd := let_not_dig hcl
                        rw [if_neg (by rw [hcd]; simp)]
                        exact runP_same (fun x hx => by
                          rcases hgd x hx with h | h
                          · rw [h, hcd, dig_not_let h]; rfl
                          · rw [let_not_dig h, hcd, h]; rfl)
                    rw [List.length_drop] at hrl
                    generalize runP (fun x => dig x == dig c) (C.drop (k + 1)) = M at hp1 hrl hsame
                    generalize runP (fun x => dig x == dig c) (c :: C.drop (k + 1)) = N at hp1
                    have hcutk := toB_cutN (l := C) (a := k) (b := k + N) (by omega) (by omega)
                    have htk : (C.take (k + N)).drop k = c :: (C.drop (k + 1)).take M := by
                      rw [List.drop_take, hdr, hp1]
                      have : k + (M + 1) - k = M + 1 := by omega
                      rw [this, List.take_succ_cons]
                    have hdk : C.drop (k + N) = (C.drop (k + 1)).drop M := by
                      rw [List.drop_drop, hp1]
                      congr 1
                      omega
                    rw [htk] at hcutk
                    rw [items_cons]
                    have hih := fun y => ih2 (k + N, acc ++ [y]) (by simp only [List.length_append, List.length_singleton]; omega) (by simp only; omega)
                    simp only [hdk] at hih
                    have hMl : (c :: (C.drop (k + 1)).take M).length < 1000000 := by simp only [List.length_cons, List.length_take, List.length_drop]; omega
                    rcases hgk with hcd | hcl
                    · rw [if_pos hcd] at hsame
                      rw [dig_not_let hcd, hcd, ← hsame]
                      have hs42 := h42 _ hMl
                      rw [small_R] at hs42
                      cases hsm : (smallD (c :: (C.drop (k + 1)).take M) big).2 with
                      | false =>
                        rw [hsm] at hs42
                        simp only [Bool.false_eq_true, if_false] at hs42
                        simp (config := {decide := true}) only [go_sem, ↓reduceIte, decide_true, decide_false, List.all_cons, List.all_nil, Bool.and_true, headId, toB_size, hsk, Option.map_some, h92, isDigI_eq, hcd, hcutk, hs42]
                        rfl
                      | true =>
                        obtain ⟨_, _, _, s4, s5, _, _⟩ := small_of hsm
                        rw [hsm] at hs42
                        simp only [if_true] at hs42
                        have hnn : ¬ (smallD (c :: (C.drop (k + 1)).take M) big).1 < 0 := by omega
                        simp (config := {decide := true}) only [go_sem, ↓reduceIte, decide_true, decide_false, List.all_cons, List.all_nil, Bool.and_true, headId, toB_size, hsk, Option.map_some, h92, isDigI_eq, hcd, hcutk, hs42, hnn]
                        rw [happ _ _ _ _ _ (by omega)]
                        simp (config := {decide := true}) only [go_sem, ↓reduceIte, decide_true, decide_false, List.all_cons, List.all_nil, Bool.and_true, headId]
                        have := hih ((smallD (c :: (C.drop (k + 1)).take M) big).1, toB [])
                        have hnil2 : toB [] = ⟨#[]⟩ := rfl
                        rw [hnil2] at this ⊢
                        rw [this]
                        cases items ((C.drop (k + 1)).drop M) with
                        | none => rfl
                        | some q => simp only [itemsY, Option.map_some, List.append_assoc, List.singleton_append]
                    · have hcd := let_not_dig hcl
                      rw [if_neg (by rw [hcd]; simp)] at hsame
                      rw [hcl, ← hsame]
                      simp (config := {decide := true}) only [go_sem, ↓reduceIte, decide_true, decide_false, List.all_cons, List.all_nil, Bool.and_true, headId, toB_size, hsk, Option.map_some, h92, isDigI_eq, hcd, hcutk]
                      rw [happ _ _ _ _ _ (by omega)]
                      simp (config := {decide := true}) only [go_sem, ↓reduceIte, decide_true, decide_false, List.all_cons, List.all_nil, Bool.and_true, headId]
                      rw [hih]
                      cases items ((C.drop (k + 1)).drop M) with
                      | none => rfl
                      | some q => simp only [itemsY, Option.map_some, List.append_assoc, List.singleton_append]
                  · have hkl' : ¬ (k : Int) < (C.length : Int) := by omega
                    have hke : k = C.length := by omega
                    subst hke
                    simp (config := {decide := true}) only [go_sem, ↓reduceIte, decide_true, decide_false, List.all_cons, List.all_nil, Bool.and_true, headId, toB_size, hkl']
                    rw [List.drop_length, items_nil]
                    simp only [itemsY, List.append_nil]

                rw [List.drop_zero]
                rw [hc0] at hcompo hacc0
                simp only [if_true, Bool.false_eq_true, if_false] at hcompo hacc0
                cases hit : items C with
                | none =>
                  rw [hit] at hcompo
                  simp (config := {decide := true}) only [go_sem, ↓reduceIte, decide_true, decide_false, List.all_cons, List.all_nil, Bool.and_true, headId, itemsY]
                  rw [hcomps, hcompo]
                  rfl
                | some q =>
                  rw [hit] at hcompo
                  have hcq : compo C = some (acc0 ++ q) := by rw [hcompo, hacc0]; rfl
                  simp (config := {decide := true}) only [go_sem, ↓reduceIte, decide_true, decide_false, List.all_cons, List.all_nil, Bool.and_true, headId, itemsY]
                  rw [happ2 _ _ _ _ (by omega)]
                  simp (config := {decide := true}) only [go_sem, ↓reduceIte, decide_true, decide_false, List.all_cons, List.all_nil, Bool.and_true, headId, wrap_nat (show i < 9000000 by omega)]
                  have := ih (i + 1, i + 1, out ++ [acc0 ++ q]) ⟨Nat.le_refl _, by simp only; omega, by simp only [List.length_append, List.length_singleton]; omega, by simp only; omega, by simp⟩ (by simp only; omega)
                  simp only at this
                  rw [this, hcomps, hcq]
                  cases (if i + 1 ≤ L.length then comps ((L.take (i + 1)).drop (i + 1)) (L.drop (i + 1)) else some []) with
                  | none => rfl
                  | some w => simp only [compsY, Option.bind_some, Option.map_some, List.append_assoc, List.singleton_append]

          · by_cases h95 : (c.toNat : Int) = 95
            · clear hsep htk
              cases hC : (L.take i).drop fr with
              | nil =>
                rw [hC] at hcut hcomps
                have hbb : (([] : List UInt8) == []) = true := rfl
                simp (config := {decide := true}) only [go_sem, ↓reduceIte, decide_true, decide_false, List.all_cons, List.all_nil, Bool.and_true, headId, toB_size, hle', hlt', hs, Option.map_some, h95, hcut, hnil, toB_toList, hbb]
                rw [hcomps]
                rfl
              | cons c0 s0 =>
                rw [hC] at hcut hcomps hgood
                have hi00 := hi0 c0 s0
                have hClen : (c0 :: s0).length ≤ L.length := by rw [← hC]; simp only [List.length_drop, List.length_take]; omega
                have hcompo : compo (c0 :: s0) = if isLet c0 then (items (c0 :: s0)).map fun r => (0, toB []) :: r else items (c0 :: s0) := rfl
                have hbb := hne c0 s0
                generalize c0 :: s0 = C at hcut hcomps hgood hi00 hClen hcompo hbb
                have hgC := hgood
                rcases Bool.eq_false_or_eq_true (isLet c0) with hc0 | hc0
                all_goals
                  simp (config := {decide := true}) only [go_sem, ↓reduceIte, decide_true, decide_false, List.all_cons, List.all_nil, Bool.and_true, headId, toB_size, hle', hlt', hs, Option.map_some, h95, hcut, hnil, toB_toList, hbb, hi00, Option.map_some, h93, isLetI_eq, hc0, happ0, Nat.reduceMul, wrap_nat (show i < 9000000 by omega)]
                  obtain ⟨acc0, hacc0, hal, hz⟩ : ∃ acc : List Item, acc = (if isLet c0 = true then [(0, toB [])] else []) ∧ acc.length ≤ 1 ∧
                      (if isLet c0 = true then st [(0, AV.str (toB L)), (4, .own 24 87 (out.map encC)), (5, .int .i64 ((i + 1 : Nat) : Int)), (6, .int .i64 (i : Int)), (7, .str (toB C)), (8, AV.own 122 122 [encI (0, ⟨#[]⟩)]), (9, .int .i64 0)] [] []
                       else st [(0, AV.str (toB L)), (4, .own 24 87 (out.map encC)), (5, .int .i64 ((i + 1 : Nat) : Int)), (6, .int .i64 (i : Int)), (7, .str (toB C)), (8, AV.own 122 122 []), (9, .int .i64 0)] [] []) =
                      st [(0, AV.str (toB L)), (4, .own 24 87 (out.map encC)), (5, .int .i64 ((i + 1 : Nat) : Int)), (6, .int .i64 (i : Int)), (7, .str (toB C)), (8, .own 122 122 (acc.map encI)), (9, .int .i64 ((0 : Nat) : Int))] [] [] := by
                    rw [hc0]
                    first
                      | exact ⟨[(0, toB [])], rfl, Nat.le_refl _, rfl⟩
                      | exact ⟨[], rfl, by simp, rfl⟩
                  simp only [hc0, if_true, Bool.false_eq_true, if_false] at hz
                  rw [hz, loopE_run (I := fun p : Nat × List Item => st [(0, .str (toB L)), (4, .own 24 87 (out.map encC)), (5, .int .i64 ((i + 1 : Nat) : Int)), (6, .int .i64 (i : Int)), (7, .str (toB C)), (8, .own 122 122 (p.2.map encI)), (9, .int .i64 (p.1 : Int))] [] [])
                    (R := fun p => itemsY (fun r => some (Ex.exit 2, st [(0, .str (toB L)), (4, .own 24 87 (out.map encC)), (5, .int .i64 ((i + 1 : Nat) : Int)), (6, .int .i64 (i : Int)), (7, .str (toB C)), (8, .own 122 122 (r.map encI)), (9, .int .i64 (C.length : Int)), (72, .bool false)] [] [])) p.2 (items (C.drop p.1)))
                    (Inv := fun p => p.1 ≤ C.length ∧ p.2.length ≤ p.1 + 1) (μ := fun p => C.length - p.1) ?step (0, acc0) (by simp only; omega)]
                  case step =>
                    rintro ⟨k, acc⟩ ⟨hk, hacc⟩ ih2
                    simp only at hk hacc ih2 ⊢
                    rw [loopE_eq]
                    by_cases hkl : k < C.length
                    · have hkl' : (k : Int) < (C.length : Int) := by omega
                      have hsk := toB_idxN hkl
                      have hgk := hgC C[k] (List.getElem_mem hkl)
                      have hdr : C.drop k = C[k] :: C.drop (k + 1) := List.drop_eq_getElem_cons hkl
                      generalize C[k] = c at hsk hgk hdr
                      simp (config := {decide := true}) only [go_sem, ↓reduceIte, decide_true, decide_false, List.all_cons, List.all_nil, Bool.and_true, headId, toB_size, hkl']
                      rw [loopE_run (I := fun n : Nat => st [(0, .str (toB L)), (4, .own 24 87 (out.map encC)), (5, .int .i64 ((i + 1 : Nat) : Int)), (6, .int .i64 (i : Int)), (7, .str (toB C)), (8, .own 122 122 (acc.map encI)), (9, .int .i64 (k : Int)), (10, .int .i64 (n : Int))] [] [])
                        (R := fun n : Nat => some (Ex.exit 4, st [(0, .str (toB L)), (4, .own 24 87 (out.map encC)), (5, .int .i64 ((i + 1 : Nat) : Int)), (6, .int .i64 (i : Int)), (7, .str (toB C)), (8, .own 122 122 (acc.map encI)), (9, .int .i64 (k : Int)), (10, .int .i64 ((n + runP (fun x => dig x == dig c) (C.drop n) : Nat) : Int)), (88, .bool false)] [] []))
                        (Inv := fun n => n ≤ C.length) (μ := fun n => C.length - n) ?step k hk]
                      case step =>
                        rintro n hn ih3
                        rw [loopE_eq]
                        by_cases hnl : n < C.length
                        · have hnl' : (n : Int) < (C.length : Int) := by omega
                          have hsn := toB_idxN hnl
                          rw [List.drop_eq_getElem_cons hnl]
                          generalize C[n] = x at hsn
                          by_cases hx : (dig x == dig c) = true
                          · simp (config := {decide := true}) only [go_sem, ↓reduceIte, decide_true, decide_false, List.all_cons, List.all_nil, Bool.and_true, headId, toB_size, hnl', hsn, hsk, Option.map_some, h92, isDigI_eq, hx]
                            rw [wrap_nat (by omega), ih3 (n + 1) (by omega) (by omega)]
                            simp only [runP, hx, if_true]
                            have e3 : n + 1 + runP (fun x => dig x == dig c) (C.drop (n + 1)) = n + (runP (fun x => dig x == dig c) (C.drop (n + 1)) + 1) := by omega
                            rw [e3]
                          · simp (config := {decide := true}) only [go_sem, ↓reduceIte, decide_true, decide_false, List.all_cons, List.all_nil, Bool.and_true, headId, toB_size, hnl', hsn, hsk, Option.map_some, h92, isDigI_eq, hx]
                            simp [runP, hx]
                        · have hnl' : ¬ (n : Int) < (C.length : Int) := by omega
                          simp (config := {decide := true}) only [go_sem, ↓reduceIte, decide_true, decide_false, List.all_cons, List.all_nil, Bool.and_true, headId, toB_size, hnl']
                          rw [List.drop_eq_nil_of_le (by omega)]
                          simp [runP]
                      rw [hdr]
                      have hp1 : runP (fun x => dig x == dig c) (c :: C.drop (k + 1)) = runP (fun x => dig x == dig c) (C.drop (k + 1)) + 1 := by simp [runP]
                      have hgd : ∀ x ∈ C.drop (k + 1), dig x = true ∨ isLet x = true := fun x hx => hgC x (List.mem_of_mem_drop hx)
                      have hrl := runP_le (fun x => dig x == dig c) (C.drop (k + 1))
                      have hsame : runP (fun x => dig x == dig c) (C.drop (k + 1)) = if dig c = true then runP dig (C.drop (k + 1)) else runP isLet (C.drop (k + 1)) := by
                        rcases hgk with hcd | hcl
                        · rw [if_pos hcd]
                          exact runP_same (fun x _ => by simp [hcd])
                        · have hcd := let_not_dig hcl
                          rw [if_neg (by rw [hcd]; simp)]
                          exact runP_same (fun x hx => by
                            rcases hgd x hx with h | h
                            · rw [h, hcd, dig_not_let h]; rfl
                            · rw [let_not_dig h, hcd, h]; rfl)
                      rw [List.length_drop] at hrl
                      generalize runP (fun x => dig x == dig c) (C.drop (k + 1)) = M at hp1 hrl hsame
                      generalize runP (fun x => dig x == dig c) (c :: C.drop (k + 1)) = N at hp1
                      have hcutk := toB_cutN (l := C) (a := k) (b := k + N) (by omega) (by omega)
                      have htk : (C.take (k + N)).drop k = c :: (C.drop (k + 1)).take M := by
                        rw [List.drop_take, hdr, hp1]
                        have : k + (M + 1) - k = M + 1 := by omega
                        rw [this, List.take_succ_cons]
                      have hdk : C.drop (k + N) = (C.drop (k + 1)).drop M := by
                        rw [List.drop_drop, hp1]
                        congr 1
                        omega
                      rw [htk] at hcutk
                      rw [items_cons]
                      have hih := fun y => ih2 (k + N, acc ++ [y]) (by simp only [List.length_append, List.length_singleton]; omega) (by simp only; omega)
                      simp only [hdk] at hih
                      have hMl : (c :: (C.drop (k + 1)).take M).length < 1000000 := by simp only [List.length_cons, List.length_take, List.length_drop]; omega
                      rcases hgk with hcd | hcl
                      · rw [if_pos hcd] at hsame
                        rw [dig_not_let hcd, hcd, ← hsame]
                        have hs42 := h42 _ hMl
                        rw [small_R] at hs42
                        cases hsm : (smallD (c :: (C.drop (k + 1)).take M) big).2 with
                        | false =>
                          rw [hsm] at hs42
                          simp only [Bool.false_eq_true, if_false] at hs42
                          simp (config := {decide := true}) only [go_sem, ↓reduceIte, decide_true, decide_false, List.all_cons, List.all_nil, Bool.and_true, headId, toB_size, hsk, Option.map_some, h92, isDigI_eq, hcd, hcutk, hs42]
                          rfl
                        | true =>
                          obtain ⟨_, _, _, s4, s5, _, _⟩ := small_of hsm
                          rw [hsm] at hs42
                          simp only [if_true] at hs42
                          have hnn : ¬ (smallD (c :: (C.drop (k + 1)).take M) big).1 < 0 := by omega
                          simp (config := {decide := true}) only [go_sem, ↓reduceIte, decide_true, decide_false, List.all_cons, List.all_nil, Bool.and_true, headId, toB_size, hsk, Option.map_some, h92, isDigI_eq, hcd, hcutk, hs42, hnn]
                          rw [happ _ _ _ _ _ (by omega)]
                          simp (config := {decide := true}) only [go_sem, ↓reduceIte, decide_true, decide_false, List.all_cons, List.all_nil, Bool.and_true, headId]
                          have := hih ((smallD (c :: (C.drop (k + 1)).take M) big).1, toB [])
                          have hnil2 : toB [] = ⟨#[]⟩ := rfl
                          rw [hnil2] at this ⊢
                          rw [this]
                          cases items ((C.drop (k + 1)).drop M) with
                          | none => rfl
                          | some q => simp only [itemsY, Option.map_some, List.append_assoc, List.singleton_append]
                      · have hcd := let_not_dig hcl
                        rw [if_neg (by rw [hcd]; simp)] at hsame
                        rw [hcl, ← hsame]
                        simp (config := {decide := true}) only [go_sem, ↓reduceIte, decide_true, decide_false, List.all_cons, List.all_nil, Bool.and_true, headId, toB_size, hsk, Option.map_some, h92, isDigI_eq, hcd, hcutk]
                        rw [happ _ _ _ _ _ (by omega)]
                        simp (config := {decide := true}) only [go_sem, ↓reduceIte, decide_true, decide_false, List.all_cons, List.all_nil, Bool.and_true, headId]
                        rw [hih]
                        cases items ((C.drop (k + 1)).drop M) with
                        | none => rfl
                        | some q => simp only [itemsY, Option.map_some, List.append_assoc, List.singleton_append]
                    · have hkl' : ¬ (k : Int) < (C.length : Int) := by omega
                      have hke : k = C.length := by omega
                      subst hke
                      simp (config := {decide := true}) only [go_sem, ↓reduceIte, decide_true, decide_false, List.all_cons, List.all_nil, Bool.and_true, headId, toB_size, hkl']
                      rw [List.drop_length, items_nil]
                      simp only [itemsY, List.append_nil]

                  rw [List.drop_zero]
                  rw [hc0] at hcompo hacc0
                  simp only [if_true, Bool.false_eq_true, if_false] at hcompo hacc0
                  cases hit : items C with
                  | none =>
                    rw [hit] at hcompo
                    simp (config := {decide := true}) only [go_sem, ↓reduceIte, decide_true, decide_false, List.all_cons, List.all_nil, Bool.and_true, headId, itemsY]
                    rw [hcomps, hcompo]
                    rfl
                  | some q =>
                    rw [hit] at hcompo
                    have hcq : compo C = some (acc0 ++ q) := by rw [hcompo, hacc0]; rfl
                    simp (config := {decide := true}) only [go_sem, ↓reduceIte, decide_true, decide_false, List.all_cons, List.all_nil, Bool.and_true, headId, itemsY]
                    rw [happ2 _ _ _ _ (by omega)]
                    simp (config := {decide := true}) only [go_sem, ↓reduceIte, decide_true, decide_false, List.all_cons, List.all_nil, Bool.and_true, headId, wrap_nat (show i < 9000000 by omega)]
                    have := ih (i + 1, i + 1, out ++ [acc0 ++ q]) ⟨Nat.le_refl _, by simp only; omega, by simp only [List.length_append, List.length_singleton]; omega, by simp only; omega, by simp⟩ (by simp only; omega)
                    simp only at this
                    rw [this, hcomps, hcq]
                    cases (if i + 1 ≤ L.length then comps ((L.take (i + 1)).drop (i + 1)) (L.drop (i + 1)) else some []) with
                    | none => rfl
                    | some w => simp only [compsY, Option.bind_some, Option.map_some, List.append_assoc, List.singleton_append]

            · have h45 : (c.toNat : Int) = 45 := by omega
              clear hsep htk
              cases hC : (L.take i).drop fr with
              | nil =>
                rw [hC] at hcut hcomps
                have hbb : (([] : List UInt8) == []) = true := rfl
                simp (config := {decide := true}) only [go_sem, ↓reduceIte, decide_true, decide_false, List.all_cons, List.all_nil, Bool.and_true, headId, toB_size, hle', hlt', hs, Option.map_some, h45, hcut, hnil, toB_toList, hbb]
                rw [hcomps]
                rfl
              | cons c0 s0 =>
                rw [hC] at hcut hcomps hgood
                have hi00 := hi0 c0 s0
                have hClen : (c0 :: s0).length ≤ L.length := by rw [← hC]; simp only [List.length_drop, List.length_take]; omega
                have hcompo : compo (c0 :: s0) = if isLet c0 then (items (c0 :: s0)).map fun r => (0, toB []) :: r else items (c0 :: s0) := rfl
                have hbb := hne c0 s0
                generalize c0 :: s0 = C at hcut hcomps hgood hi00 hClen hcompo hbb
                have hgC := hgood
                rcases Bool.eq_false_or_eq_true (isLet c0) with hc0 | hc0
                all_goals
                  simp (config := {decide := true}) only [go_sem, ↓reduceIte, decide_true, decide_false, List.all_cons, List.all_nil, Bool.and_true, headId, toB_size, hle', hlt', hs, Option.map_some, h45, hcut, hnil, toB_toList, hbb, hi00, Option.map_some, h93, isLetI_eq, hc0, happ0, Nat.reduceMul, wrap_nat (show i < 9000000 by omega)]
                  obtain ⟨acc0, hacc0, hal, hz⟩ : ∃ acc : List Item, acc = (if isLet c0 = true then [(0, toB [])] else []) ∧ acc.length ≤ 1 ∧
                      (if isLet c0 = true then st [(0, AV.str (toB L)), (4, .own 24 87 (out.map encC)), (5, .int .i64 ((i + 1 : Nat) : Int)), (6, .int .i64 (i : Int)), (7, .str (toB C)), (8, AV.own 122 122 [encI (0, ⟨#[]⟩)]), (9, .int .i64 0)] [] []
                       else st [(0, AV.str (toB L)), (4, .own 24 87 (out.map encC)), (5, .int .i64 ((i + 1 : Nat) : Int)), (6, .int .i64 (i : Int)), (7, .str (toB C)), (8, AV.own 122 122 []), (9, .int .i64 0)] [] []) =
                      st [(0, AV.str (toB L)), (4, .own 24 87 (out.map encC)), (5, .int .i64 ((i + 1 : Nat) : Int)), (6, .int .i64 (i : Int)), (7, .str (toB C)), (8, .own 122 122 (acc.map encI)), (9, .int .i64 ((0 : Nat) : Int))] [] [] := by
                    rw [hc0]
                    first
                      | exact ⟨[(0, toB [])], rfl, Nat.le_refl _, rfl⟩
                      | exact ⟨[], rfl, by simp, rfl⟩
                  simp only [hc0, if_true, Bool.false_eq_true, if_false] at hz
                  rw [hz, loopE_run (I := fun p : Nat × List Item => st [(0, .str (toB L)), (4, .own 24 87 (out.map encC)), (5, .int .i64 ((i + 1 : Nat) : Int)), (6, .int .i64 (i : Int)), (7, .str (toB C)), (8, .own 122 122 (p.2.map encI)), (9, .int .i64 (p.1 : Int))] [] [])
                    (R := fun p => itemsY (fun r => some (Ex.exit 2, st [(0, .str (toB L)), (4, .own 24 87 (out.map encC)), (5, .int .i64 ((i + 1 : Nat) : Int)), (6, .int .i64 (i : Int)), (7, .str (toB C)), (8, .own 122 122 (r.map encI)), (9, .int .i64 (C.length : Int)), (72, .bool false)] [] [])) p.2 (items (C.drop p.1)))
                    (Inv := fun p => p.1 ≤ C.length ∧ p.2.length ≤ p.1 + 1) (μ := fun p => C.length - p.1) ?step (0, acc0) (by simp only; omega)]
                  case step =>
                    rintro ⟨k, acc⟩ ⟨hk, hacc⟩ ih2
                    simp only at hk hacc ih2 ⊢
                    rw [loopE_eq]
                    by_cases hkl : k < C.length
                    · have hkl' : (k : Int) < (C.length : Int) := by omega
                      have hsk := toB_idxN hkl
                      have hgk := hgC C[k] (List.getElem_mem hkl)
                      have hdr : C.drop k = C[k] :: C.drop (k + 1) := List.drop_eq_getElem_cons hkl
                      generalize C[k] = c at hsk hgk hdr
                      simp (config := {decide := true}) only [go_sem, ↓reduceIte, decide_true, decide_false, List.all_cons, List.all_nil, Bool.and_true, headId, toB_size, hkl']
                      rw [loopE_run (I := fun n : Nat => st [(0, .str (toB L)), (4, .own 24 87 (out.map encC)), (5, .int .i64 ((i + 1 : Nat) : Int)), (6, .int .i64 (i : Int)), (7, .str (toB C)), (8, .own 122 122 (acc.map encI)), (9, .int .i64 (k : Int)), (10, .int .i64 (n : Int))] [] [])
                        (R := fun n : Nat => some (Ex.exit 4, st [(0, .str (toB L)), (4, .own 24 87 (out.map encC)), (5, .int .i64 ((i + 1 : Nat) : Int)), (6, .int .i64 (i : Int)), (7, .str (toB C)), (8, .own 122 122 (acc.map encI)), (9, .int .i64 (k : Int)), (10, .int .i64 ((n + runP (fun x => dig x == dig c) (C.drop n) : Nat) : Int)), (88, .bool false)] [] []))
                        (Inv := fun n => n ≤ C.length) (μ := fun n => C.length - n) ?step k hk]
                      case step =>
                        rintro n hn ih3
                        rw [loopE_eq]
                        by_cases hnl : n < C.length
                        · have hnl' : (n : Int) < (C.length : Int) := by omega
                          have hsn := toB_idxN hnl
                          rw [List.drop_eq_getElem_cons hnl]
                          generalize C[n] = x at hsn
                          by_cases hx : (dig x == dig c) = true
                          · simp (config := {decide := true}) only [go_sem, ↓reduceIte, decide_true, decide_false, List.all_cons, List.all_nil, Bool.and_true, headId, toB_size, hnl', hsn, hsk, Option.map_some, h92, isDigI_eq, hx]
                            rw [wrap_nat (by omega), ih3 (n + 1) (by omega) (by omega)]
                            simp only [runP, hx, if_true]
                            have e3 : n + 1 + runP (fun x => dig x == dig c) (C.drop (n + 1)) = n + (runP (fun x => dig x == dig c) (C.drop (n + 1)) + 1) := by omega
                            rw [e3]
                          · simp (config := {decide := true}) only [go_sem, ↓reduceIte, decide_true, decide_false, List.all_cons, List.all_nil, Bool.and_true, headId, toB_size, hnl', hsn, hsk, Option.map_some, h92, isDigI_eq, hx]
                            simp [runP, hx]
                        · have hnl' : ¬ (n : Int) < (C.length : Int) := by omega
                          simp (config := {decide := true}) only [go_sem, ↓reduceIte, decide_true, decide_false, List.all_cons, List.all_nil, Bool.and_true, headId, toB_size, hnl']
                          rw [List.drop_eq_nil_of_le (by omega)]
                          simp [runP]
                      rw [hdr]
                      have hp1 : runP (fun x => dig x == dig c) (c :: C.drop (k + 1)) = runP (fun x => dig x == dig c) (C.drop (k + 1)) + 1 := by simp [runP]
                      have hgd : ∀ x ∈ C.drop (k + 1), dig x = true ∨ isLet x = true := fun x hx => hgC x (List.mem_of_mem_drop hx)
                      have hrl := runP_le (fun x => dig x == dig c) (C.drop (k + 1))
                      have hsame : runP (fun x => dig x == dig c) (C.drop (k + 1)) = if dig c = true then runP dig (C.drop (k + 1)) else runP isLet (C.drop (k + 1)) := by
                        rcases hgk with hcd | hcl
                        · rw [if_pos hcd]
                          exact runP_same (fun x _ => by simp [hcd])
                        · have hcd := let_not_dig hcl
                          rw [if_neg (by rw [hcd]; simp)]
                          exact runP_same (fun x hx => by
                            rcases hgd x hx with h | h
                            · rw [h, hcd, dig_not_let h]; rfl
                            · rw [let_not_dig h, hcd, h]; rfl)
                      rw [List.length_drop] at hrl
                      generalize runP (fun x => dig x == dig c) (C.drop (k + 1)) = M at hp1 hrl hsame
                      generalize runP (fun x => dig x == dig c) (c :: C.drop (k + 1)) = N at hp1
                      have hcutk := toB_cutN (l := C) (a := k) (b := k + N) (by omega) (by omega)
                      have htk : (C.take (k + N)).drop k = c :: (C.drop (k + 1)).take M := by
                        rw [List.drop_take, hdr, hp1]
                        have : k + (M + 1) - k = M + 1 := by omega
                        rw [this, List.take_succ_cons]
                      have hdk : C.drop (k + N) = (C.drop (k + 1)).drop M := by
                        rw [List.drop_drop, hp1]
                        congr 1
                        omega
                      rw [htk] at hcutk
                      rw [items_cons]
                      have hih := fun y => ih2 (k + N, acc ++ [y]) (by simp only [List.length_append, List.length_singleton]; omega) (by simp only; omega)
                      simp only [hdk] at hih
                      have hMl : (c :: (C.drop (k + 1)).take M).length < 1000000 := by simp only [List.length_cons, List.length_take, List.length_drop]; omega
                      rcases hgk with hcd | hcl
                      · rw [if_pos hcd] at hsame
                        rw [dig_not_let hcd, hcd, ← hsame]
                        have hs42 := h42 _ hMl
                        rw [small_R] at hs42
                        cases hsm : (smallD (c :: (C.drop (k + 1)).take M) big).2 with
                        | false =>
                          rw [hsm] at hs42
                          simp only [Bool.false_eq_true, if_false] at hs42
                          simp (config := {decide := true}) only [go_sem, ↓reduceIte, decide_true, decide_false, List.all_cons, List.all_nil, Bool.and_true, headId, toB_size, hsk, Option.map_some, h92, isDigI_eq, hcd, hcutk, hs42]
                          rfl
                        | true =>
                          obtain ⟨_, _, _, s4, s5, _, _⟩ := small_of hsm
                          rw [hsm] at hs42
                          simp only [if_true] at hs42
                          have hnn : ¬ (smallD (c :: (C.drop (k + 1)).take M) big).1 < 0 := by omega
                          simp (config := {decide := true}) only [go_sem, ↓reduceIte, decide_true, decide_false, List.all_cons, List.all_nil, Bool.and_true, headId, toB_size, hsk, Option.map_some, h92, isDigI_eq, hcd, hcutk, hs42, hnn]
                          rw [happ _ _ _ _ _ (by omega)]
                          simp (config := {decide := true}) only [go_sem, ↓reduceIte, decide_true, decide_false, List.all_cons, List.all_nil, Bool.and_true, headId]
                          have := hih ((smallD (c :: (C.drop (k + 1)).take M) big).1, toB [])
                          have hnil2 : toB [] = ⟨#[]⟩ := rfl
                          rw [hnil2] at this ⊢
                          rw [this]
                          cases items ((C.drop (k + 1)).drop M) with
                          | none => rfl
                          | some q => simp only [itemsY, Option.map_some, List.append_assoc, List.singleton_append]
                      · have hcd := let_not_dig hcl
                        rw [if_neg (by rw [hcd]; simp)] at hsame
                        rw [hcl, ← hsame]
                        simp (config := {decide := true}) only [go_sem, ↓reduceIte, decide_true, decide_false, List.all_cons, List.all_nil, Bool.and_true, headId, toB_size, hsk, Option.map_some, h92, isDigI_eq, hcd, hcutk]
                        rw [happ _ _ _ _ _ (by omega)]
                        simp (config := {decide := true}) only [go_sem, ↓reduceIte, decide_true, decide_false, List.all_cons, List.all_nil, Bool.and_true, headId]
                        rw [hih]
                        cases items ((C.drop (k + 1)).drop M) with
                        | none => rfl
                        | some q => simp only [itemsY, Option.map_some, List.append_assoc, List.singleton_append]
                    · have hkl' : ¬ (k : Int) < (C.length : Int) := by omega
                      have hke : k = C.length := by omega
                      subst hke
                      simp (config := {decide := true}) only [go_sem, ↓reduceIte, decide_true, decide_false, List.all_cons, List.all_nil, Bool.and_true, headId, toB_size, hkl']
                      rw [List.drop_length, items_nil]
                      simp only [itemsY, List.append_nil]

                  rw [List.drop_zero]
                  rw [hc0] at hcompo hacc0
                  simp only [if_true, Bool.false_eq_true, if_false] at hcompo hacc0
                  cases hit : items C with
                  | none =>
                    rw [hit] at hcompo
                    simp (config := {decide := true}) only [go_sem, ↓reduceIte, decide_true, decide_false, List.all_cons, List.all_nil, Bool.and_true, headId, itemsY]
                    rw [hcomps, hcompo]
                    rfl
                  | some q =>
                    rw [hit] at hcompo
                    have hcq : compo C = some (acc0 ++ q) := by rw [hcompo, hacc0]; rfl
                    simp (config := {decide := true}) only [go_sem, ↓reduceIte, decide_true, decide_false, List.all_cons, List.all_nil, Bool.and_true, headId, itemsY]
                    rw [happ2 _ _ _ _ (by omega)]
                    simp (config := {decide := true}) only [go_sem, ↓reduceIte, decide_true, decide_false, List.all_cons, List.all_nil, Bool.and_true, headId, wrap_nat (show i < 9000000 by omega)]
                    have := ih (i + 1, i + 1, out ++ [acc0 ++ q]) ⟨Nat.le_refl _, by simp only; omega, by simp only [List.length_append, List.length_singleton]; omega, by simp only; omega, by simp⟩ (by simp only; omega)
                    simp only at this
                    rw [this, hcomps, hcq]
                    cases (if i + 1 ≤ L.length then comps ((L.take (i + 1)).drop (i + 1)) (L.drop (i + 1)) else some []) with
                    | none => rfl
                    | some w => simp only [compsY, Option.bind_some, Option.map_some, List.append_assoc, List.singleton_append]

        · have hcc : comps ((L.take i).drop fr) (L.drop i) = comps ((L.take (i + 1)).drop fr) (L.drop (i + 1)) := by
            rw [hdr, htk]
            simp only [comps, hsep, if_false]
            rfl
          simp only [isSep, Bool.or_eq_true, decide_eq_true_eq] at hsep
          have n46 : ¬ (c.toNat : Int) = 46 := by omega
          have n95 : ¬ (c.toNat : Int) = 95 := by omega
          have n45 : ¬ (c.toNat : Int) = 45 := by omega
          have hgo : ∀ (_ : dig c = true ∨ isLet c = true), ∀ x ∈ (L.take (i + 1)).drop fr, dig x = true ∨ isLet x = true := by
            intro h x hx
            rw [htk] at hx
            rcases List.mem_append.1 hx with hx | hx
            · exact hgood x hx
            · rw [List.mem_singleton.1 hx]; exact h
          by_cases hcd : dig c = true
          · simp (config := {decide := true}) only [go_sem, ↓reduceIte, decide_true, decide_false, List.all_cons, List.all_nil, Bool.and_true, headId, toB_size, hle', hlt', hs, Option.map_some, n46, n95, n45, h92, isDigI_eq, hcd, Bool.not_true, wrap_nat (show i < 9000000 by omega), ne_eq, not_false_eq_true]
            have := ih (fr, i + 1, out) ⟨by simp only; omega, by simp only; omega, by simp only; omega, by simp only; omega, hgo (.inl hcd)⟩ (by simp only; omega)
            simp only at this
            rw [this, if_pos (by omega), hcc]
          · by_cases hcl : isLet c = true
            · simp (config := {decide := true}) only [go_sem, ↓reduceIte, decide_true, decide_false, List.all_cons, List.all_nil, Bool.and_true, headId, toB_size, hle', hlt', hs, Option.map_some, n46, n95, n45, h92, h93, isDigI_eq, isLetI_eq, hcd, hcl, Bool.not_true, Bool.not_false, wrap_nat (show i < 9000000 by omega), ne_eq, not_false_eq_true]
              have := ih (fr, i + 1, out) ⟨by simp only; omega, by simp only; omega, by simp only; omega, by simp only; omega, hgo (.inr hcl)⟩ (by simp only; omega)
              simp only at this
              rw [this, if_pos (by omega), hcc]
            · simp (config := {decide := true}) only [go_sem, ↓reduceIte, decide_true, decide_false, List.all_cons, List.all_nil, Bool.and_true, headId, toB_size, hle', hlt', hs, Option.map_some, n46, n95, n45, h92, h93, isDigI_eq, isLetI_eq, hcd, hcl, Bool.not_true, Bool.not_false, ne_eq, not_false_eq_true]
              rw [hcc, comps_bad (by simpa using hcd) (by simpa using hcl) _ _ (by rw [htk]; simp)]
              rfl
      · have hlt' : ¬ (i : Int) < (L.length : Int) := by omega
        have hcomps : comps ((L.take i).drop fr) (L.drop i) = (compo ((L.take i).drop fr)).bind fun x => (if i + 1 ≤ L.length then comps ((L.take (i + 1)).drop (i + 1)) (L.drop (i + 1)) else some []).map fun r => x :: r := by
          rw [if_neg (by omega), List.drop_eq_nil_of_le (show L.length ≤ i by omega)]
          simp only [comps, Option.map_some]
          cases compo ((L.take i).drop fr) <;> rfl
        cases hC : (L.take i).drop fr with
        | nil =>
          rw [hC] at hcut hcomps
          have hbb : (([] : List UInt8) == []) = true := rfl
          simp (config := {decide := true}) only [go_sem, ↓reduceIte, decide_true, decide_false, List.all_cons, List.all_nil, Bool.and_true, headId, toB_size, hle', hlt', hcut, hnil, toB_toList, hbb]
          rw [hcomps]
          rfl
        | cons c0 s0 =>
          rw [hC] at hcut hcomps hgood
          have hi00 := hi0 c0 s0
          have hClen : (c0 :: s0).length ≤ L.length := by rw [← hC]; simp only [List.length_drop, List.length_take]; omega
          have hcompo : compo (c0 :: s0) = if isLet c0 then (items (c0 :: s0)).map fun r => (0, toB []) :: r else items (c0 :: s0) := rfl
          have hbb := hne c0 s0
          generalize c0 :: s0 = C at hcut hcomps hgood hi00 hClen hcompo hbb
          have hgC := hgood
          rcases Bool.eq_false_or_eq_true (isLet c0) with hc0 | hc0
          all_goals
            simp (config := {decide := true}) only [go_sem, ↓reduceIte, decide_true, decide_false, List.all_cons, List.all_nil, Bool.and_true, headId, toB_size, hle', hlt', hcut, hnil, toB_toList, hbb, hi00, Option.map_some, h93, isLetI_eq, hc0, happ0, Nat.reduceMul, wrap_nat (show i < 9000000 by omega)]
            obtain ⟨acc0, hacc0, hal, hz⟩ : ∃ acc : List Item, acc = (if isLet c0 = true then [(0, toB [])] else []) ∧ acc.length ≤ 1 ∧
                (if isLet c0 = true then st [(0, AV.str (toB L)), (4, .own 24 87 (out.map encC)), (5, .int .i64 ((i + 1 : Nat) : Int)), (6, .int .i64 (i : Int)), (7, .str (toB C)), (8, AV.own 122 122 [encI (0, ⟨#[]⟩)]), (9, .int .i64 0)] [] []
                 else st [(0, AV.str (toB L)), (4, .own 24 87 (out.map encC)), (5, .int .i64 ((i + 1 : Nat) : Int)), (6, .int .i64 (i : Int)), (7, .str (toB C)), (8, AV.own 122 122 []), (9, .int .i64 0)] [] []) =
                st [(0, AV.str (toB L)), (4, .own 24 87 (out.map encC)), (5, .int .i64 ((i + 1 : Nat) : Int)), (6, .int .i64 (i : Int)), (7, .str (toB C)), (8, .own 122 122 (acc.map encI)), (9, .int .i64 ((0 : Nat) : Int))] [] [] := by
              rw [hc0]
              first
                | exact ⟨[(0, toB [])], rfl, Nat.le_refl _, rfl⟩
                | exact ⟨[], rfl, by simp, rfl⟩
            simp only [hc0, if_true, Bool.false_eq_true, if_false] at hz
            rw [hz, loopE_run (I := fun p : Nat × List Item => st [(0, .str (toB L)), (4, .own 24 87 (out.map encC)), (5, .int .i64 ((i + 1 : Nat) : Int)), (6, .int .i64 (i : Int)), (7, .str (toB C)), (8, .own 122 122 (p.2.map encI)), (9, .int .i64 (p.1 : Int))] [] [])
              (R := fun p => itemsY (fun r => some (Ex.exit 2, st [(0, .str (toB L)), (4, .own 24 87 (out.map encC)), (5, .int .i64 ((i + 1 : Nat) : Int)), (6, .int .i64 (i : Int)), (7, .str (toB C)), (8, .own 122 122 (r.map encI)), (9, .int .i64 (C.length : Int)), (72, .bool false)] [] [])) p.2 (items (C.drop p.1)))
              (Inv := fun p => p.1 ≤ C.length ∧ p.2.length ≤ p.1 + 1) (μ := fun p => C.length - p.1) ?step (0, acc0) (by simp only; omega)]
            case step =>
              rintro ⟨k, acc⟩ ⟨hk, hacc⟩ ih2
              simp only at hk hacc ih2 ⊢
              rw [loopE_eq]
              by_cases hkl : k < C.length
              · have hkl' : (k : Int) < (C.length : Int) := by omega
                have hsk := toB_idxN hkl
                have hgk := hgC C[k] (List.getElem_mem hkl)
                have hdr : C.drop k = C[k] :: C.drop (k + 1) := List.drop_eq_getElem_cons hkl
                generalize C[k] = c at hsk hgk hdr
                simp (config := {decide := true}) only [go_sem, ↓reduceIte, decide_true, decide_false, List.all_cons, List.all_nil, Bool.and_true, headId, toB_size, hkl']
                rw [loopE_run (I := fun n : Nat => st [(0, .str (toB L)), (4, .own 24 87 (out.map encC)), (5, .int .i64 ((i + 1 : Nat) : Int)), (6, .int .i64 (i : Int)), (7, .str (toB C)), (8, .own 122 122 (acc.map encI)), (9, .int .i64 (k : Int)), (10, .int .i64 (n : Int))] [] [])
                  (R := fun n : Nat => some (Ex.exit 4, st [(0, .str (toB L)), (4, .own 24 87 (out.map encC)), (5, .int .i64 ((i + 1 : Nat) : Int)), (6, .int .i64 (i : Int)), (7, .str (toB C)), (8, .own 122 122 (acc.map encI)), (9, .int .i64 (k : Int)), (10, .int .i64 ((n + runP (fun x => dig x == dig c) (C.drop n) : Nat) : Int)), (88, .bool false)] [] []))
                  (Inv := fun n => n ≤ C.length) (μ := fun n => C.length - n) ?step k hk]
                case step =>
                  rintro n hn ih3
                  rw [loopE_eq]
                  by_cases hnl : n < C.length
                  · have hnl' : (n : Int) < (C.length : Int) := by omega
                    have hsn := toB_idxN hnl
                    rw [List.drop_eq_getElem_cons hnl]
                    generalize C[n] = x at hsn
                    by_cases hx : (dig x == dig c) = true
                    · simp (config := {decide := true}) only [go_sem, ↓reduceIte, decide_true, decide_false, List.all_cons, List.all_nil, Bool.and_true, headId, toB_size, hnl', hsn, hsk, Option.map_some, h92, isDigI_eq, hx]
                      rw [wrap_nat (by omega), ih3 (n + 1) (by omega) (by omega)]
                      simp only [runP, hx, if_true]
                      have e3 : n + 1 + runP (fun x => dig x == dig c) (C.drop (n + 1)) = n + (runP (fun x => dig x == dig c) (C.drop (n + 1)) + 1) := by omega
                      rw [e3]
                    · simp (config := {decide := true}) only [go_sem, ↓reduceIte, decide_true, decide_false, List.all_cons, List.all_nil, Bool.and_true, headId, toB_size, hnl', hsn, hsk, Option.map_some, h92, isDigI_eq, hx]
                      simp [runP, hx]
                  · have hnl' : ¬ (n : Int) < (C.length : Int) := by omega
                    simp (config := {decide := true}) only [go_sem, ↓reduceIte, decide_true, decide_false, List.all_cons, List.all_nil, Bool.and_true, headId, toB_size, hnl']
                    rw [List.drop_eq_nil_of_le (by omega)]
                    simp [runP]
                rw [hdr]
                have hp1 : runP (fun x => dig x == dig c) (c :: C.drop (k + 1)) = runP (fun x => dig x == dig c) (C.drop (k + 1)) + 1 := by simp [runP]
                have hgd : ∀ x ∈ C.drop (k + 1), dig x = true ∨ isLet x = true := fun x hx => hgC x (List.mem_of_mem_drop hx)
                have hrl := runP_le (fun x => dig x == dig c) (C.drop (k + 1))
                have hsame : runP (fun x => dig x == dig c) (C.drop (k + 1)) = if dig c = true then runP dig (C.drop (k + 1)) else runP isLet (C.drop (k + 1)) := by
                  rcases hgk with hcd | hcl
                  · rw [if_pos hcd]
                    exact runP_same (fun x _ => by simp [hcd])
                  · have hcd := let_not_dig hcl
                    rw [if_neg (by rw [hcd]; simp)]
                    exact runP_same (fun x hx => by
                      rcases hgd x hx with h | h
                      · rw [h, hcd, dig_not_let h]; rfl
                      · rw [let_not_dig h, hcd, h]; rfl)
                rw [List.length_drop] at hrl
                generalize runP (fun x => dig x == dig c) (C.drop (k + 1)) = M at hp1 hrl hsame
                generalize runP (fun x => dig x == dig c) (c :: C.drop (k + 1)) = N at hp1
                have hcutk := toB_cutN (l := C) (a := k) (b := k + N) (by omega) (by omega)
                have htk : (C.take (k + N)).drop k = c :: (C.drop (k + 1)).take M := by
                  rw [List.drop_take, hdr, hp1]
                  have : k + (M + 1) - k = M + 1 := by omega
                  rw [this, List.take_succ_cons]
                have hdk : C.drop (k + N) = (C.drop (k + 1)).drop M := by
                  rw [List.drop_drop, hp1]
                  congr 1
                  omega
                rw [htk] at hcutk
                rw [items_cons]
                have hih := fun y => ih2 (k + N, acc ++ [y]) (by simp only [List.length_append, List.length_singleton]; omega) (by simp only; omega)
                simp only [hdk] at hih
                have hMl : (c :: (C.drop (k + 1)).take M).length < 1000000 := by simp only [List.length_cons, List.length_take, List.length_drop]; omega
                rcases hgk with hcd | hcl
                · rw [if_pos hcd] at hsame
                  rw [dig_not_let hcd, hcd, ← hsame]
                  have hs42 := h42 _ hMl
                  rw [small_R] at hs42
                  cases hsm : (smallD (c :: (C.drop (k + 1)).take M) big).2 with
                  | false =>
                    rw [hsm] at hs42
                    simp only [Bool.false_eq_true, if_false] at hs42
                    simp (config := {decide := true}) only [go_sem, ↓reduceIte, decide_true, decide_false, List.all_cons, List.all_nil, Bool.and_true, headId, toB_size, hsk, Option.map_some, h92, isDigI_eq, hcd, hcutk, hs42]
                    rfl
                  | true =>
                    obtain ⟨_, _, _, s4, s5, _, _⟩ := small_of hsm
                    rw [hsm] at hs42
                    simp only [if_true] at hs42
                    have hnn : ¬ (smallD (c :: (C.drop (k + 1)).take M) big).1 < 0 := by omega
                    simp (config := {decide := true}) only [go_sem, ↓reduceIte, decide_true, decide_false, List.all_cons, List.all_nil, Bool.and_true, headId, toB_size, hsk, Option.map_some, h92, isDigI_eq, hcd, hcutk, hs42, hnn]
                    rw [happ _ _ _ _ _ (by omega)]
                    simp (config := {decide := true}) only [go_sem, ↓reduceIte, decide_true, decide_false, List.all_cons, List.all_nil, Bool.and_true, headId]
                    have := hih ((smallD (c :: (C.drop (k + 1)).take M) big).1, toB [])
                    have hnil2 : toB [] = ⟨#[]⟩ := rfl
                    rw [hnil2] at this ⊢
                    rw [this]
                    cases items ((C.drop (k + 1)).drop M) with
                    | none => rfl
                    | some q => simp only [itemsY, Option.map_some, List.append_assoc, List.singleton_append]
                · have hcd := let_not_dig hcl
                  rw [if_neg (by rw [hcd]; simp)] at hsame
                  rw [hcl, ← hsame]
                  simp (config := {decide := true}) only [go_sem, ↓reduceIte, decide_true, decide_false, List.all_cons, List.all_nil, Bool.and_true, headId, toB_size, hsk, Option.map_some, h92, isDigI_eq, hcd, hcutk]
                  rw [happ _ _ _ _ _ (by omega)]
                  simp (config := {decide := true}) only [go_sem, ↓reduceIte, decide_true, decide_false, List.all_cons, List.all_nil, Bool.and_true, headId]
                  rw [hih]
                  cases items ((C.drop (k + 1)).drop M) with
                  | none => rfl
                  | some q => simp only [itemsY, Option.map_some, List.append_assoc, List.singleton_append]
              · have hkl' : ¬ (k : Int) < (C.length : Int) := by omega
                have hke : k = C.length := by omega
                subst hke
                simp (config := {decide := true}) only [go_sem, ↓reduceIte, decide_true, decide_false, List.all_cons, List.all_nil, Bool.and_true, headId, toB_size, hkl']
                rw [List.drop_length, items_nil]
                simp only [itemsY, List.append_nil]

            rw [List.drop_zero]
            rw [hc0] at hcompo hacc0
            simp only [if_true, Bool.false_eq_true, if_false] at hcompo hacc0
            cases hit : items C with
            | none =>
              rw [hit] at hcompo
              simp (config := {decide := true}) only [go_sem, ↓reduceIte, decide_true, decide_false, List.all_cons, List.all_nil, Bool.and_true, headId, itemsY]
              rw [hcomps, hcompo]
              rfl
            | some q =>
              rw [hit] at hcompo
              have hcq : compo C = some (acc0 ++ q) := by rw [hcompo, hacc0]; rfl
              simp (config := {decide := true}) only [go_sem, ↓reduceIte, decide_true, decide_false, List.all_cons, List.all_nil, Bool.and_true, headId, itemsY]
              rw [happ2 _ _ _ _ (by omega)]
              simp (config := {decide := true}) only [go_sem, ↓reduceIte, decide_true, decide_false, List.all_cons, List.all_nil, Bool.and_true, headId, wrap_nat (show i < 9000000 by omega)]
              have := ih (i + 1, i + 1, out ++ [acc0 ++ q]) ⟨Nat.le_refl _, by simp only; omega, by simp only [List.length_append, List.length_singleton]; omega, by simp only; omega, by simp⟩ (by simp only; omega)
              simp only at this
              rw [this, hcomps, hcq]
              cases (if i + 1 ≤ L.length then comps ((L.take (i + 1)).drop (i + 1)) (L.drop (i + 1)) else some []) with
              | none => rfl
              | some w => simp only [compsY, Option.bind_some, Option.map_some, List.append_assoc, List.singleton_append]

    · have hle' : ¬ (i : Int) ≤ (L.length : Int) := by omega
      simp (config := {decide := true}) only [go_sem, ↓reduceIte, decide_true, decide_false, List.all_cons, List.all_nil, Bool.and_true, headId, toB_size, hle']
      rw [if_neg hle]
      have e1 := hend (by omega)
      have e2 : i = L.length + 1 := by omega
      subst e1 e2
      simp only [compsY, List.append_nil]
  have hfin : (if (0 : Nat) ≤ L.length then comps ((L.take 0).drop 0) (L.drop 0) else some []) = comps [] L := by
    rw [if_pos (Nat.zero_le _)]; simp
  simp only [hfin]
  cases comps [] L with
  | none => simp (config := {decide := true}) only [go_sem, ↓reduceIte, decide_true, decide_false, List.all_cons, List.all_nil, Bool.and_true, headId, compsY]
  | some q => simp (config := {decide := true}) only [go_sem, ↓reduceIte, decide_true, decide_false, List.all_cons, List.all_nil, Bool.and_true, headId, compsY, List.nil_append]
end Go.Proofs.YtllilhgdnepipaaGreatDoor

/-
  What the document's Parse of a version computes, as the abstract machine runs it. For texts of fewer than a million bytes; the callees' answers are handed in.
-/
namespace Go.Proofs.YtllilhgdnepipaaGreatDoor
open Go Go.Avm
set_option linter.unusedSimpArgs false

/-- Where it is found, what stands around it. -/
theorem find_cut (c : Int) : ∀ (l : List UInt8) (k : Nat), (cutAt c l = none → findL c l k = -1) ∧ ∀ a r, cutAt c l = some (a, r) → findL c l k = ((k + a.length : Nat) : Int) ∧ l.take a.length = a ∧ l.drop (a.length + 1) = r ∧ a.length < l.length
  | [], k => ⟨fun _ => rfl, fun a r h => by simp [cutAt] at h⟩
  | x :: l, k => by
    obtain ⟨ih1, ih2⟩ := find_cut c l (k + 1)
    simp only [cutAt, findL]
    by_cases h : (x.toNat : Int) = c
    · simp only [h, if_true]
      refine ⟨fun h => by simp at h, fun a r h => ?_⟩
      simp only [Option.some.injEq, Prod.mk.injEq] at h
      obtain ⟨rfl, rfl⟩ := h
      exact ⟨rfl, rfl, rfl, by simp⟩
    · simp only [h, if_false]
      have e : (k : Int) + 1 = ((k + 1 : Nat) : Int) := rfl
      refine ⟨fun h => ?_, fun a r h => ?_⟩
      · rw [Option.map_eq_none_iff] at h
        rw [e]; exact ih1 h
      · simp only [Option.map_eq_some_iff, Prod.mk.injEq, Prod.exists] at h
        obtain ⟨a', r', h1, rfl, rfl⟩ := h
        obtain ⟨g1, g2, g3, g4⟩ := ih2 a' r' h1
        refine ⟨by rw [e, g1]; simp; omega, by simp [g2], by simpa using g3, by simpa using g4⟩

/-- A version as a value. -/
def encV (v : Ver) : AV := .agg [.int .i64 v.1, .sl (v.2.1.map encC), if v.2.2 = [] then .nilS else .sl (v.2.2.map encC)]
def zeroV : AV := .agg [.int .i64 0, .nilS, .nilS]
def verA : Option Ver → List AV
  | none => [zeroV, .bool false]
  | some v => [encV v, .bool true]

theorem spec9 (L : List UInt8) (hb : L.length < 1000000) (call : Rec)
    (h40 : ∀ l : List UInt8, l.length < 1000000 → call 40 [.str (toB l)] [] = some ([.str (toB (lowL l))], []))
    (h41 : ∀ (l : List UInt8) (c : Int), l.length < 1000000 → call 41 [.str (toB l), .int .u8 c] [] = some ([.int .i64 (findL c l 0)], []))
    (h42 : ∀ r : List UInt8, r.length < 1000000 → call 42 [.str (toB r), .int .i64 1000000000000000] [] = some ([.int .i64 (smallR r 1000000000000000)], []))
    (h43 : ∀ l : List UInt8, l.length < 1000000 → call 43 [.str (toB l)] [] = some (match comps [] l with | none => [.own 4 87 [], .bool false] | some r => [.own 24 87 (r.map encC), .bool true], [])) :
    body E call iterL 9 [.str (toB L)] [] = some (verA (parseV L), []) := by
  have hb2 : bid 25 2 = 2500002 := rfl
  have hb4 : bid 25 4 = 2500004 := rfl
  have hb5 : bid 25 5 = 2500005 := rfl
  rw [body_eq fn9 (c := Tryz.f9.body.get!) rfl]
  by_cases h1 : 40 < L.length
  · have h1' : (40 : Int) < L.length := by omega
    have e : parseV L = none := by unfold parseV; rw [if_pos h1]
    rw [e]
    simp (config := {decide := true}) only [go_sem, Tryz.f9, Option.get!, ↓reduceIte, decide_true, decide_false, List.all_cons, List.all_nil, Bool.and_true, headId, hb2, hb4, hb5, toB_size, h1']
    rfl
  · have h1' : ¬ (40 : Int) < L.length := by omega
    have e : parseV L = parseL (lowL L) := by unfold parseV; rw [if_neg h1]
    have hs40 := h40 L hb
    have hlen : (lowL L).length = L.length := by simp [lowL]
    rw [e]
    generalize lowL L = l at hlen hs40
    have hs33 := h41 l 33 (by omega)
    cases hc33 : cutAt 33 l with
    | none =>
      have hf := (find_cut 33 l 0).1 hc33
      have hn33 : ¬ 0 ≤ (-1 : Int) := by omega
      have hp : parseL l = parseR 0 l := by unfold parseL; rw [hc33]
      rw [show findL 33 l 0 = -1 from hf] at hs33
      rw [hp]
      have hs43 := h41 l 43 (by omega)
      cases hc43 : cutAt 43 l with
      | none =>
        have hf := (find_cut 43 l 0).1 hc43
        have hf' : ¬ 0 ≤ (-1 : Int) := by omega
        have hp : parseR 0 l = (comps [] l).map fun p => (0, p, []) := by unfold parseR; rw [hc43]
        rw [show findL 43 l 0 = -1 from hf] at hs43
        have hsA := h43 l (by omega)
        rw [hp]
        cases hcA : comps [] l with
        | none =>
          rw [hcA] at hsA
          simp only at hsA
          simp (config := {decide := true}) only [go_sem, ↓reduceIte, decide_true, decide_false, List.all_cons, List.all_nil, Bool.and_true, headId, Tryz.f9, Option.get!, hb2, hb4, hb5, toB_size, h1', hs40, hs33, hn33, hs43, hf', hsA, Bool.not_false]
          rfl
        | some p =>
          rw [hcA] at hsA
          simp only at hsA
          simp (config := {decide := true}) only [go_sem, ↓reduceIte, decide_true, decide_false, List.all_cons, List.all_nil, Bool.and_true, headId, Tryz.f9, Option.get!, hb2, hb4, hb5, toB_size, h1', hs40, hs33, hn33, hs43, hf', hsA, Bool.not_true]
          rfl
      | some ar =>
        obtain ⟨a, r⟩ := ar
        obtain ⟨g1, g2, g3, g4⟩ := (find_cut 43 l 0).2 a r hc43
        have hf : findL 43 l 0 = (a.length : Int) := by have := g1; simpa using this
        have hf' : 0 ≤ (a.length : Int) := by omega
        have hp : parseR 0 l = (comps [] a).bind fun p => (comps [] r).map fun q => (0, p, q) := by unfold parseR; rw [hc43]
        have hal : a.length + 1 + r.length = l.length := cutAt_len hc43
        have hw := wrap_nat (n := a.length) (by omega)
        have hcutA := toB_cutN (l := l) (a := 0) (b := a.length) (by omega) (by omega)
        have hcutR := toB_cutN (l := l) (a := a.length + 1) (b := l.length) (by omega) (by omega)
        rw [List.drop_zero, g2] at hcutA
        rw [List.take_length, g3] at hcutR
        rw [hf] at hs43
        have hsR := h43 r (by omega)
        have hsA := h43 a (by omega)
        rw [hp]
        cases hcR : comps [] r with
        | none =>
          rw [hcR] at hsR
          simp only at hsR
          simp (config := {decide := true}) only [go_sem, ↓reduceIte, decide_true, decide_false, List.all_cons, List.all_nil, Bool.and_true, headId, Tryz.f9, Option.get!, hb2, hb4, hb5, toB_size, h1', hs40, hs33, hn33, hs43, hf', hw, hcutR, hsR, Bool.not_false]
          cases comps [] a <;> rfl
        | some q =>
          rw [hcR] at hsR
          simp only at hsR
          have hqne := (comps_right _ _ _ hcR).1
          cases hcA : comps [] a with
          | none =>
            rw [hcA] at hsA
            simp only at hsA
            simp (config := {decide := true}) only [go_sem, ↓reduceIte, decide_true, decide_false, List.all_cons, List.all_nil, Bool.and_true, headId, Tryz.f9, Option.get!, hb2, hb4, hb5, toB_size, h1', hs40, hs33, hn33, hs43, hf', hw, hcutR, hsR, Bool.not_true, hcutA, hsA, Bool.not_false]
            rfl
          | some p =>
            rw [hcA] at hsA
            simp only at hsA
            simp (config := {decide := true}) only [go_sem, ↓reduceIte, decide_true, decide_false, List.all_cons, List.all_nil, Bool.and_true, headId, Tryz.f9, Option.get!, hb2, hb4, hb5, toB_size, h1', hs40, hs33, hn33, hs43, hf', hw, hcutR, hsR, Bool.not_true, hcutA, hsA]
            simp only [Option.bind_some, Option.map_some, verA, encV, hqne, if_false]

    | some ar =>
      obtain ⟨a0, r0⟩ := ar
      obtain ⟨k1, k2, k3, k4⟩ := (find_cut 33 l 0).2 a0 r0 hc33
      have hf33 : findL 33 l 0 = (a0.length : Int) := by have := k1; simpa using this
      have hn33 : 0 ≤ (a0.length : Int) := by omega
      have hp : parseL l = if (smallD a0 big).2 then parseR (smallD a0 big).1 r0 else none := by unfold parseL; rw [hc33]
      have hal0 : a0.length + 1 + r0.length = l.length := cutAt_len hc33
      have hw0 := wrap_nat (n := a0.length) (by omega)
      have hcutA0 := toB_cutN (l := l) (a := 0) (b := a0.length) (by omega) (by omega)
      have hcutR0 := toB_cutN (l := l) (a := a0.length + 1) (b := l.length) (by omega) (by omega)
      rw [List.drop_zero, k2] at hcutA0
      rw [List.take_length, k3] at hcutR0
      rw [hf33] at hs33
      have hs42 := h42 a0 (by omega)
      rw [small_R] at hs42
      rw [hp]
      cases hsm : (smallD a0 big).2 with
      | false =>
        rw [hsm] at hs42
        simp only [Bool.false_eq_true, if_false] at hs42
        simp (config := {decide := true}) only [go_sem, ↓reduceIte, decide_true, decide_false, List.all_cons, List.all_nil, Bool.and_true, headId, Tryz.f9, Option.get!, hb2, hb4, hb5, toB_size, h1', hs40, hs33, hn33, hcutA0, hs42]
        rfl
      | true =>
        obtain ⟨_, _, _, s4, s5, _, _⟩ := small_of hsm
        rw [hsm] at hs42
        simp only [if_true] at hs42
        have hnn : ¬ (smallD a0 big).1 < 0 := by omega
        generalize (smallD a0 big).1 = e0 at hs42 hnn
        simp only [if_true]
        have hs43 := h41 r0 43 (by omega)
        cases hc43 : cutAt 43 r0 with
        | none =>
          have hf := (find_cut 43 r0 0).1 hc43
          have hf' : ¬ 0 ≤ (-1 : Int) := by omega
          have hp : parseR e0 r0 = (comps [] r0).map fun p => (e0, p, []) := by unfold parseR; rw [hc43]
          rw [show findL 43 r0 0 = -1 from hf] at hs43
          have hsA := h43 r0 (by omega)
          rw [hp]
          cases hcA : comps [] r0 with
          | none =>
            rw [hcA] at hsA
            simp only at hsA
            simp (config := {decide := true}) only [go_sem, ↓reduceIte, decide_true, decide_false, List.all_cons, List.all_nil, Bool.and_true, headId, Tryz.f9, Option.get!, hb2, hb4, hb5, toB_size, h1', hs40, hs33, hn33, hcutA0, hs42, hnn, hw0, hcutR0, hs43, hf', hsA, Bool.not_false]
            rfl
          | some p =>
            rw [hcA] at hsA
            simp only at hsA
            simp (config := {decide := true}) only [go_sem, ↓reduceIte, decide_true, decide_false, List.all_cons, List.all_nil, Bool.and_true, headId, Tryz.f9, Option.get!, hb2, hb4, hb5, toB_size, h1', hs40, hs33, hn33, hcutA0, hs42, hnn, hw0, hcutR0, hs43, hf', hsA, Bool.not_true]
            rfl
        | some ar =>
          obtain ⟨a, r⟩ := ar
          obtain ⟨g1, g2, g3, g4⟩ := (find_cut 43 r0 0).2 a r hc43
          have hf : findL 43 r0 0 = (a.length : Int) := by have := g1; simpa using this
          have hf' : 0 ≤ (a.length : Int) := by omega
          have hp : parseR e0 r0 = (comps [] a).bind fun p => (comps [] r).map fun q => (e0, p, q) := by unfold parseR; rw [hc43]
          have hal : a.length + 1 + r.length = r0.length := cutAt_len hc43
          have hw := wrap_nat (n := a.length) (by omega)
          have hcutA := toB_cutN (l := r0) (a := 0) (b := a.length) (by omega) (by omega)
          have hcutR := toB_cutN (l := r0) (a := a.length + 1) (b := r0.length) (by omega) (by omega)
          rw [List.drop_zero, g2] at hcutA
          rw [List.take_length, g3] at hcutR
          rw [hf] at hs43
          have hsR := h43 r (by omega)
          have hsA := h43 a (by omega)
          rw [hp]
          cases hcR : comps [] r with
          | none =>
            rw [hcR] at hsR
            simp only at hsR
            simp (config := {decide := true}) only [go_sem, ↓reduceIte, decide_true, decide_false, List.all_cons, List.all_nil, Bool.and_true, headId, Tryz.f9, Option.get!, hb2, hb4, hb5, toB_size, h1', hs40, hs33, hn33, hcutA0, hs42, hnn, hw0, hcutR0, hs43, hf', hw, hcutR, hsR, Bool.not_false]
            cases comps [] a <;> rfl
          | some q =>
            rw [hcR] at hsR
            simp only at hsR
            have hqne := (comps_right _ _ _ hcR).1
            cases hcA : comps [] a with
            | none =>
              rw [hcA] at hsA
              simp only at hsA
              simp (config := {decide := true}) only [go_sem, ↓reduceIte, decide_true, decide_false, List.all_cons, List.all_nil, Bool.and_true, headId, Tryz.f9, Option.get!, hb2, hb4, hb5, toB_size, h1', hs40, hs33, hn33, hcutA0, hs42, hnn, hw0, hcutR0, hs43, hf', hw, hcutR, hsR, Bool.not_true, hcutA, hsA, Bool.not_false]
              rfl
            | some p =>
              rw [hcA] at hsA
              simp only at hsA
              simp (config := {decide := true}) only [go_sem, ↓reduceIte, decide_true, decide_false, List.all_cons, List.all_nil, Bool.and_true, headId, Tryz.f9, Option.get!, hb2, hb4, hb5, toB_size, h1', hs40, hs33, hn33, hcutA0, hs42, hnn, hw0, hcutR0, hs43, hf', hw, hcutR, hsR, Bool.not_true, hcutA, hsA]
              simp only [Option.bind_some, Option.map_some, verA, encV, hqne, if_false]

end Go.Proofs.YtllilhgdnepipaaGreatDoor

/-
  What strings.Cut at one byte computes, as the abstract machine runs it. For texts of fewer than a million bytes; the callees' answers are handed in.
-/
namespace Go.Proofs.YtllilhgdnepipaaGreatDoor
open Go Go.Avm
set_option linter.unusedSimpArgs false

theorem spec155 (l : List UInt8) (c : Int) (call : Rec) (n : Int) (h171 : call 171 [.str (toB l), .int .u8 c] [] = some ([.int .i64 n], [])) :
    body E call iterL 155 [.str (toB l), .int .u8 c] [] = some ([.int .i64 n], []) := by
  rw [body_eq fn155 (c := Tryz.f155.body.get!) rfl]
  simp (config := {decide := true}) only [go_sem, Tryz.f155, Option.get!, ↓reduceIte, decide_true, decide_false, List.all_cons, List.all_nil, Bool.and_true, headId, h171]

theorem spec135 (l : List UInt8) (c : UInt8) (call : Rec) (h155 : call 155 [.str (toB l), .int .u8 (c.toNat : Int)] [] = some ([.int .i64 (findL c.toNat l 0)], [])) :
    body E call iterL 135 [.str (toB l), .str (toB [c])] [] = some ([.int .i64 (findL c.toNat l 0)], []) := by
  have hi0 : sIdx (toB [c]) 0 = some c := toB_idx (l := [c]) (i := 0) (by omega) (by simp)
  rw [body_eq fn135 (c := Tryz.f135.body.get!) rfl]
  by_cases h : [c] = l
  · have hb : (([c] : List UInt8) == l) = true := by rw [h]; exact beq_self_eq_true _
    have hf : findL c.toNat l 0 = 0 := by rw [← h]; simp [findL]
    rw [hf]
    simp (config := {decide := true}) only [go_sem, Tryz.f135, Option.get!, ↓reduceIte, decide_true, decide_false, List.all_cons, List.all_nil, Bool.and_true, headId, toB_size, toB_toList, hb]
  · have hb : (([c] : List UInt8) == l) = false := by rw [beq_eq_false_iff_ne]; exact h
    simp (config := {decide := true}) only [go_sem, Tryz.f135, Option.get!, ↓reduceIte, decide_true, decide_false, List.all_cons, List.all_nil, Bool.and_true, headId, toB_size, toB_toList, hb, hi0, Option.map_some, h155]

def cutA (l : List UInt8) : Option (List UInt8 × List UInt8) → List AV
  | none => [.str (toB l), .str ⟨#[]⟩, .bool false]
  | some (a, r) => [.str (toB a), .str (toB r), .bool true]

theorem spec87 (l : List UInt8) (c : UInt8) (hb : l.length < 1000000) (call : Rec) (h135 : call 135 [.str (toB l), .str (toB [c])] [] = some ([.int .i64 (findL c.toNat l 0)], [])) :
    body E call iterL 87 [.str (toB l), .str (toB [c])] [] = some (cutA l (cutAt c.toNat l), []) := by
  rw [body_eq fn87 (c := Tryz.f87.body.get!) rfl]
  cases hc : cutAt (c.toNat : Int) l with
  | none =>
    have hf := (find_cut c.toNat l 0).1 hc
    have hn : ¬ 0 ≤ (-1 : Int) := by omega
    rw [show findL c.toNat l 0 = -1 from hf] at h135
    simp (config := {decide := true}) only [go_sem, Tryz.f87, Option.get!, ↓reduceIte, decide_true, decide_false, List.all_cons, List.all_nil, Bool.and_true, headId, toB_size, h135, hn, cutA]
  | some ar =>
    obtain ⟨a, r⟩ := ar
    obtain ⟨g1, g2, g3, g4⟩ := (find_cut c.toNat l 0).2 a r hc
    have hf : findL c.toNat l 0 = (a.length : Int) := by have := g1; simpa using this
    have hn : 0 ≤ (a.length : Int) := by omega
    have hw := wrap_nat (n := a.length) (by omega)
    have hcutA := toB_cutN (l := l) (a := 0) (b := a.length) (by omega) (by omega)
    have hcutR := toB_cutN (l := l) (a := a.length + 1) (b := l.length) (by omega) (by omega)
    rw [List.drop_zero, g2] at hcutA
    rw [List.take_length, g3] at hcutR
    rw [hf] at h135
    have h01 : ((0 + 1 : Nat) : Int) = 1 := rfl
    simp (config := {decide := true}) only [go_sem, Tryz.f87, Option.get!, ↓reduceIte, decide_true, decide_false, List.all_cons, List.all_nil, Bool.and_true, headId, toB_size, h135, hn, cutA, hcutA, h01, hw, hcutR]

theorem spec37 (l : List UInt8) (c : UInt8) (call : Rec) (h87 : call 87 [.str (toB l), .str (toB [c])] [] = some (cutA l (cutAt c.toNat l), [])) :
    body E call iterL 37 [.str (toB l), .str (toB [c])] [] = some (cutA l (cutAt c.toNat l), []) := by
  rw [body_eq fn37 (c := Tryz.f37.body.get!) rfl]
  cases hc : cutAt (c.toNat : Int) l with
  | none =>
    rw [hc] at h87
    simp only [cutA] at h87
    simp (config := {decide := true}) only [go_sem, Tryz.f37, Option.get!, ↓reduceIte, decide_true, decide_false, List.all_cons, List.all_nil, Bool.and_true, headId, h87, cutA]
  | some ar =>
    obtain ⟨a, r⟩ := ar
    rw [hc] at h87
    simp only [cutA] at h87
    simp (config := {decide := true}) only [go_sem, Tryz.f37, Option.get!, ↓reduceIte, decide_true, decide_false, List.all_cons, List.all_nil, Bool.and_true, headId, h87, cutA]
end Go.Proofs.YtllilhgdnepipaaGreatDoor

/-
  What version.Parse computes, as the abstract machine runs it. For texts of fewer than a million bytes; the callees' answers are handed in.
-/
namespace Go.Proofs.YtllilhgdnepipaaGreatDoor
open Go Go.Avm
set_option linter.unusedSimpArgs false

def parseA : Option Ver → List AV
  | none => [zeroV, .err 0]
  | some v => [encV v, .nilI]

theorem spec8 (L : List UInt8) (hb : L.length < 1000000) (call : Rec)
    (h36 : ∀ l : List UInt8, l.length < 1000000 → call 36 [.str (toB l)] [] = some ([.str (toB (lowL l))], []))
    (h37 : ∀ (l : List UInt8) (c : UInt8), l.length < 1000000 → call 37 [.str (toB l), .str (toB [c])] [] = some (cutA l (cutAt c.toNat l), []))
    (h38 : ∀ r : List UInt8, r.length < 1000000 → call 38 [.str (toB r)] [] = some ([.int .i64 (smallD r big).1, .bool (smallD r big).2], []))
    (h39 : ∀ l : List UInt8, l.length < 1000000 → call 39 [.str (toB l)] [] = some (compsA (comps [] l), [])) :
    body E call iterL 8 [.str (toB L)] [] = some (parseA (parseV L), []) := by
  have hb2 : bid 25 2 = 2500002 := rfl
  have hb4 : bid 25 4 = 2500004 := rfl
  have h33 : ∀ l : List UInt8, l.length < 1000000 → call 37 [.str (toB l), .str ⟨#[33]⟩] [] = some (cutA l (cutAt 33 l), []) := fun l h => h37 l 33 h
  have h43 : ∀ l : List UInt8, l.length < 1000000 → call 37 [.str (toB l), .str ⟨#[43]⟩] [] = some (cutA l (cutAt 43 l), []) := fun l h => h37 l 43 h
  rw [body_eq fn8 (c := Tryz.f8.body.get!) rfl]
  by_cases h0 : L.length < 1
  · have h0' : (L.length : Int) < 1 := by omega
    have hL : L = [] := List.eq_nil_of_length_eq_zero (by omega)
    have e : parseV L = none := by
      subst hL
      rfl
    rw [e]
    simp (config := {decide := true}) only [go_sem, ↓reduceIte, decide_true, decide_false, List.all_cons, List.all_nil, Bool.and_true, headId, Tryz.f8, Option.get!, hb2, hb4, toB_size, h0']
    rfl
  have h0' : ¬ (L.length : Int) < 1 := by omega
  by_cases h1 : 40 < L.length
  · have h1' : (40 : Int) < L.length := by omega
    have e : parseV L = none := by unfold parseV; rw [if_pos h1]
    rw [e]
    simp (config := {decide := true}) only [go_sem, ↓reduceIte, decide_true, decide_false, List.all_cons, List.all_nil, Bool.and_true, headId, Tryz.f8, Option.get!, hb2, hb4, toB_size, h0', h1']
    rfl
  · have h1' : ¬ (40 : Int) < L.length := by omega
    have e : parseV L = parseL (lowL L) := by unfold parseV; rw [if_neg h1]
    have hs36 := h36 L hb
    have hlen : (lowL L).length = L.length := by simp [lowL]
    rw [e]
    generalize lowL L = l at hlen hs36
    have hs33 := h33 l (by omega)
    cases hc33 : cutAt 33 l with
    | none =>
      have hp : parseL l = parseR 0 l := by unfold parseL; rw [hc33]
      rw [hc33] at hs33
      simp only [cutA] at hs33
      rw [hp]
      have hs43 := h43 l (by omega)
      cases hc43 : cutAt 43 l with
      | none =>
        have hp : parseR 0 l = (comps [] l).map fun p => (0, p, []) := by unfold parseR; rw [hc43]
        rw [hc43] at hs43
        simp only [cutA] at hs43
        have hsA := h39 l (by omega)
        rw [hp]
        cases hcA : comps [] l with
        | none =>
          rw [hcA] at hsA
          simp only [compsA] at hsA
          simp (config := {decide := true}) only [go_sem, ↓reduceIte, decide_true, decide_false, List.all_cons, List.all_nil, Bool.and_true, headId, Tryz.f8, Option.get!, hb2, hb4, toB_size, h1', h0', hs36, hs33, hs43, hsA, Bool.not_false]
          rfl
        | some p =>
          rw [hcA] at hsA
          simp only [compsA] at hsA
          simp (config := {decide := true}) only [go_sem, ↓reduceIte, decide_true, decide_false, List.all_cons, List.all_nil, Bool.and_true, headId, Tryz.f8, Option.get!, hb2, hb4, toB_size, h1', h0', hs36, hs33, hs43, hsA, Bool.not_true]
          rfl
      | some ar =>
        obtain ⟨a, r⟩ := ar
        have hp : parseR 0 l = (comps [] a).bind fun p => (comps [] r).map fun q => (0, p, q) := by unfold parseR; rw [hc43]
        have hal : a.length + 1 + r.length = l.length := cutAt_len hc43
        rw [hc43] at hs43
        simp only [cutA] at hs43
        have hsR := h39 r (by omega)
        have hsA := h39 a (by omega)
        rw [hp]
        cases hcA : comps [] a with
        | none =>
          rw [hcA] at hsA
          simp only [compsA] at hsA
          simp (config := {decide := true}) only [go_sem, ↓reduceIte, decide_true, decide_false, List.all_cons, List.all_nil, Bool.and_true, headId, Tryz.f8, Option.get!, hb2, hb4, toB_size, h1', h0', hs36, hs33, hs43, hsA, Bool.not_false]
          rfl
        | some p =>
          rw [hcA] at hsA
          simp only [compsA] at hsA
          cases hcR : comps [] r with
          | none =>
            rw [hcR] at hsR
            simp only [compsA] at hsR
            simp (config := {decide := true}) only [go_sem, ↓reduceIte, decide_true, decide_false, List.all_cons, List.all_nil, Bool.and_true, headId, Tryz.f8, Option.get!, hb2, hb4, toB_size, h1', h0', hs36, hs33, hs43, hsA, Bool.not_true, hsR, Bool.not_false]
            rfl
          | some q =>
            rw [hcR] at hsR
            simp only [compsA] at hsR
            have hqne := (comps_right _ _ _ hcR).1
            simp (config := {decide := true}) only [go_sem, ↓reduceIte, decide_true, decide_false, List.all_cons, List.all_nil, Bool.and_true, headId, Tryz.f8, Option.get!, hb2, hb4, toB_size, h1', h0', hs36, hs33, hs43, hsA, Bool.not_true, hsR]
            simp only [Option.bind_some, Option.map_some, parseA, encV, hqne, if_false]

    | some ar =>
      obtain ⟨a0, r0⟩ := ar
      have hp : parseL l = if (smallD a0 big).2 then parseR (smallD a0 big).1 r0 else none := by unfold parseL; rw [hc33]
      have hal0 : a0.length + 1 + r0.length = l.length := cutAt_len hc33
      rw [hc33] at hs33
      simp only [cutA] at hs33
      have hs38 := h38 a0 (by omega)
      rw [hp]
      cases hsm : (smallD a0 big).2 with
      | false =>
        rw [hsm] at hs38
        simp (config := {decide := true}) only [go_sem, ↓reduceIte, decide_true, decide_false, List.all_cons, List.all_nil, Bool.and_true, headId, Tryz.f8, Option.get!, hb2, hb4, toB_size, h1', h0', hs36, hs33, hs38, Bool.not_false]
        rfl
      | true =>
        rw [hsm] at hs38
        generalize (smallD a0 big).1 = e0 at hs38
        simp only [if_true]
        have hs43 := h43 r0 (by omega)
        cases hc43 : cutAt 43 r0 with
        | none =>
          have hp : parseR e0 r0 = (comps [] r0).map fun p => (e0, p, []) := by unfold parseR; rw [hc43]
          rw [hc43] at hs43
          simp only [cutA] at hs43
          have hsA := h39 r0 (by omega)
          rw [hp]
          cases hcA : comps [] r0 with
          | none =>
            rw [hcA] at hsA
            simp only [compsA] at hsA
            simp (config := {decide := true}) only [go_sem, ↓reduceIte, decide_true, decide_false, List.all_cons, List.all_nil, Bool.and_true, headId, Tryz.f8, Option.get!, hb2, hb4, toB_size, h1', h0', hs36, hs33, hs38, Bool.not_true, hs43, hsA, Bool.not_false]
            rfl
          | some p =>
            rw [hcA] at hsA
            simp only [compsA] at hsA
            simp (config := {decide := true}) only [go_sem, ↓reduceIte, decide_true, decide_false, List.all_cons, List.all_nil, Bool.and_true, headId, Tryz.f8, Option.get!, hb2, hb4, toB_size, h1', h0', hs36, hs33, hs38, Bool.not_true, hs43, hsA, Bool.not_true]
            rfl
        | some ar =>
          obtain ⟨a, r⟩ := ar
          have hp : parseR e0 r0 = (comps [] a).bind fun p => (comps [] r).map fun q => (e0, p, q) := by unfold parseR; rw [hc43]
          have hal : a.length + 1 + r.length = r0.length := cutAt_len hc43
          rw [hc43] at hs43
          simp only [cutA] at hs43
          have hsR := h39 r (by omega)
          have hsA := h39 a (by omega)
          rw [hp]
          cases hcA : comps [] a with
          | none =>
            rw [hcA] at hsA
            simp only [compsA] at hsA
            simp (config := {decide := true}) only [go_sem, ↓reduceIte, decide_true, decide_false, List.all_cons, List.all_nil, Bool.and_true, headId, Tryz.f8, Option.get!, hb2, hb4, toB_size, h1', h0', hs36, hs33, hs38, Bool.not_true, hs43, hsA, Bool.not_false]
            rfl
          | some p =>
            rw [hcA] at hsA
            simp only [compsA] at hsA
            cases hcR : comps [] r with
            | none =>
              rw [hcR] at hsR
              simp only [compsA] at hsR
              simp (config := {decide := true}) only [go_sem, ↓reduceIte, decide_true, decide_false, List.all_cons, List.all_nil, Bool.and_true, headId, Tryz.f8, Option.get!, hb2, hb4, toB_size, h1', h0', hs36, hs33, hs38, Bool.not_true, hs43, hsA, Bool.not_true, hsR, Bool.not_false]
              rfl
            | some q =>
              rw [hcR] at hsR
              simp only [compsA] at hsR
              have hqne := (comps_right _ _ _ hcR).1
              simp (config := {decide := true}) only [go_sem, ↓reduceIte, decide_true, decide_false, List.all_cons, List.all_nil, Bool.and_true, headId, Tryz.f8, Option.get!, hb2, hb4, toB_size, h1', h0', hs36, hs33, hs38, Bool.not_true, hs43, hsA, Bool.not_true, hsR]
              simp only [Option.bind_some, Option.map_some, parseA, encV, hqne, if_false]

end Go.Proofs.YtllilhgdnepipaaGreatDoor
