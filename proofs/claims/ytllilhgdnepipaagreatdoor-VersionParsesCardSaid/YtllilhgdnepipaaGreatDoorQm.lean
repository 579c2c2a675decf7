-- Merged by a small program of this claim's maker out of 5 texts.
import Derived.Test.YtllilhgdnepipaaGreatDoorQl
import Derived.Deep.LoopGhost
import Derived.Sort.Grow
import Derived.Lib.UnsafeStr

/-
  strings.IndexAny of the three bytes that part a version: where the first of them stands, for every text of fewer than a million bytes, whatever its bytes.
-/
namespace Go.Proofs.YtllilhgdnepipaaGreatDoor
open Go Go.Avm Go.RowKit
set_option linter.unusedSimpArgs false
set_option linter.unusedVariables false

theorem get_at' (s : ByteArray) (j : Nat) (h : j < s.size) : s.get! j = s[j]'h := by
  simp [ByteArray.get!, getElem!_pos, h]
  rfl

/-- What is read at a byte beyond ASCII: so many bytes, all of them beyond ASCII; a rune that is the error's or a high one. -/
theorem dec_step (s : ByteArray) (i : Nat) (h : i < s.size) (ha : 128 ≤ (s[i]'h).toNat) :
    1 ≤ (Utf8.decode s i).2 ∧ i + (Utf8.decode s i).2 ≤ s.size ∧ (∀ j (hj : j < s.size), i ≤ j → j < i + (Utf8.decode s i).2 → 128 ≤ (s[j]'hj).toNat) ∧ ((Utf8.decode s i).1 = 65533 ∨ HighR (Utf8.decode s i).1) := by
  have h0 : 128 ≤ (s.get! i).toNat := by rw [get_at' s i h]; exact ha
  have key : ∀ k, i + k < s.size → (s.get! (i + k)).toNat / 64 = 2 → ∀ (hj : i + k < s.size), 128 ≤ (s[i + k]'hj).toNat := by
    intro k hk h2 hj
    rw [get_at' s (i + k) hj] at h2
    omega
  have all1 : ∀ n, (∀ k, 1 ≤ k → k < n → i + k < s.size ∧ (s.get! (i + k)).toNat / 64 = 2) → ∀ j (hj : j < s.size), i ≤ j → j < i + n → 128 ≤ (s[j]'hj).toNat := by
    intro n hn j hj h1 h2
    by_cases he : j = i
    · subst he; exact ha
    · obtain ⟨k, rfl⟩ : ∃ k, j = i + k := ⟨j - i, by omega⟩
      obtain ⟨h3, h4⟩ := hn k (by omega) (by omega)
      exact key k h3 h4 hj
  have hlt : ∀ k, (s.get! (i + k)).toNat < 256 := fun k => (s.get! (i + k)).toNat_lt
  have l0 := hlt 0; have l1 := hlt 1; have l2 := hlt 2; have l3 := hlt 3
  have hn : ¬ (s.get! (i + 0)).toNat < 128 := by rw [Nat.add_zero]; omega
  have one : (∀ j (hj : j < s.size), i ≤ j → j < i + 1 → 128 ≤ (s[j]'hj).toNat) := all1 1 (fun k h1 h2 => by omega)
  have err : 1 ≤ (Utf8.runeError, 1).2 ∧ i + (Utf8.runeError, 1).2 ≤ s.size ∧ (∀ j (hj : j < s.size), i ≤ j → j < i + (Utf8.runeError, 1).2 → 128 ≤ (s[j]'hj).toNat) ∧ ((Utf8.runeError, 1).1 = 65533 ∨ HighR (Utf8.runeError, 1).1) :=
    ⟨Nat.le_refl _, by simp only; omega, one, .inl rfl⟩
  have conv : ∀ c : Nat, 128 ≤ c → (c < 55296 ∨ (57343 < c ∧ c ≤ 1114111)) → c = 65533 ∨ HighR c := fun c h1 h2 => by
    by_cases he : c = 65533
    · exact .inl he
    · exact .inr ⟨h1, he, h2⟩
  have hvalid : ∀ c : Nat, Utf8.valid (c : Int) = true → c < 55296 ∨ (57343 < c ∧ c ≤ 1114111) := fun c hc => by
    simp [Utf8.valid] at hc
    omega
  simp only [Utf8.decode, hn, if_false]
  split
  · rename_i h1
    simp only [Bool.and_eq_true, beq_iff_eq, decide_eq_true_eq] at h1
    split
    · rename_i h2
      refine ⟨by simp, by simp only; omega, all1 2 (fun k k1 k2 => by
        rcases (by omega : k = 1) with rfl
        exact h1.2), conv _ h2 (by simp only; omega)⟩
    · exact err
  · split
    · rename_i h1
      simp only [Bool.and_eq_true, beq_iff_eq, decide_eq_true_eq] at h1
      split
      · rename_i h2
        simp only [Bool.and_eq_true, decide_eq_true_eq] at h2
        refine ⟨by simp, by simp only; omega, all1 3 (fun k k1 k2 => by
          rcases (by omega : k = 1 ∨ k = 2) with rfl | rfl
          · exact h1.1.2
          · exact h1.2), conv _ (by omega) (hvalid _ h2.2)⟩
      · exact err
    · split
      · rename_i h1
        simp only [Bool.and_eq_true, beq_iff_eq, decide_eq_true_eq] at h1
        split
        · rename_i h2
          simp only [Bool.and_eq_true, decide_eq_true_eq] at h2
          refine ⟨by simp, by simp only; omega, all1 4 (fun k k1 k2 => by
            rcases (by omega : k = 1 ∨ k = 2 ∨ k = 3) with rfl | rfl | rfl
            · exact h1.1.1.2
            · exact h1.1.2
            · exact h1.2), conv _ (by omega) (hvalid _ h2.2)⟩
        · exact err
      · exact err

/-- The iterator's block, and what was before it. -/
def AtIt (w wx : World) (s : ByteArray) (i : Nat) : Prop := Grows w wx ∧ wx.heap[w.heap.size]? = some (.stringIter s i) ∧ w.heap.size < wx.heap.size

theorem iter_size (w : World) (s : ByteArray) (i : Nat) : (w.iter s i).heap.size = w.heap.size + 1 := by
  show (w.heap.push _).size = _
  rw [Array.size_push]

theorem at_iter (w : World) (s : ByteArray) : AtIt w (w.iter s 0) s 0 := by
  refine ⟨⟨by rw [iter_size]; omega, rfl, rfl, rfl, fun g hg => ?_⟩, World.iter_heap w s 0, by rw [iter_size]; omega⟩
  show (w.heap.push _)[g]? = _
  rw [Array.getElem?_push_lt hg]
  simp [hg]

theorem at_next {P : Program} {w wx : World} {s : ByteArray} {i : Nat} (H : AtIt w wx s i) (h : i < s.size) :
    ∃ wy, (∀ ty, (Instr.next (.pointer (some ⟨w.heap.size, 0, none⟩)) true ty).run P wx = .ok (.tuple #[.bool true, .int .i64 i, .int .i32 (Utf8.decode s i).1]) wy) ∧ AtIt w wy s (i + (Utf8.decode s i).2) := by
  obtain ⟨h1, h2, h3⟩ := H
  refine ⟨{ wx with heap := wx.heap.setIfInBounds w.heap.size (.stringIter s (i + (Utf8.decode s i).2)) }, fun ty => ?_, ⟨by simpa using h1.size, h1.os, h1.tape, h1.output, fun g hg => ?_⟩, ?_, by simpa using h3⟩
  · simp only [Instr.next, getObj, setObj, Sem.run_bind, Sem.run, h2, Result.andThen, h, if_true]
    simp [goInt]
  · show (wx.heap.setIfInBounds _ _)[g]? = _
    rw [Array.getElem?_setIfInBounds_ne (by omega)]
    exact h1.old g hg
  · show (wx.heap.setIfInBounds _ _)[w.heap.size]? = _
    simp [h3]

theorem at_end {P : Program} {w wx : World} {s : ByteArray} {i : Nat} (H : AtIt w wx s i) (h : ¬ i < s.size) (ty : TypeId) :
    (Instr.next (.pointer (some ⟨w.heap.size, 0, none⟩)) true ty).run P wx = .ok (.tuple #[.bool false]) wx := by
  simp [Instr.next, getObj, Sem.run, H.2.1, h]

theorem at_grow {w wx wy : World} {s : ByteArray} {i : Nat} (H : AtIt w wx s i) (hg : Grows wx wy) : AtIt w wy s i := by
  obtain ⟨h1, h2, h3⟩ := H
  refine ⟨⟨Nat.le_trans h1.size hg.size, hg.os.trans h1.os, hg.tape.trans h1.tape, hg.output.trans h1.output, fun g hlt => ?_⟩, ?_, Nat.lt_of_lt_of_le h3 hg.size⟩
  · rw [hg.old g (by omega)]; exact h1.old g hlt
  · rw [hg.old _ h3]; exact h2

/-- IndexRune at what is read at a place. -/
theorem ir_any (w : World) (hcall : ∀ r, HighR r → ∀ wx, Grows w wx → Calls Tryz.prog 137 #[.string seps, .int .i32 (r : Int)] wx fun e w' => e = .returned (.int .i64 (-1)) ∧ Grows wx w')
    (s : ByteArray) (i : Nat) (h : i < s.size) (wx : World) (hg : Grows w wx) :
    Calls Tryz.prog 137 #[.string seps, .int .i32 ((Utf8.decode s i).1 : Int)] wx fun e w' => ∃ n : Int, e = .returned (.int .i64 n) ∧ (0 ≤ n ↔ isSep (s[i]'h) = true) ∧ Grows wx w' := by
  by_cases ha : (s[i]'h).toNat < 128
  · rw [decode_ascii s i h ha]
    generalize s[i]'h = x at ha
    refine Calls.mono (Tryz.strings_IndexRune_ascii seps (x.toNat : Int) wx (by omega) (by omega)) (fun e w' he => ?_)
    obtain ⟨rfl, rfl⟩ := he
    refine ⟨_, rfl, ?_, Grows.refl _⟩
    have hx : ((x.toNat : Int)).toNat.toUInt8 = x := by simp
    rw [hx]
    have hl : seps.data.toList = [46, 95, 45] := rfl
    rw [hl]
    by_cases h1 : x = 46
    · subst h1; decide
    · by_cases h2 : x = 95
      · subst h2; decide
      · by_cases h3 : x = 45
        · subst h3; decide
        · have b1 : ((46 : UInt8) == x) = false := by simpa using Ne.symm h1
          have b2 : ((95 : UInt8) == x) = false := by simpa using Ne.symm h2
          have b3 : ((45 : UInt8) == x) = false := by simpa using Ne.symm h3
          have c1 : ¬ x.toNat = 46 := fun e => h1 (UInt8.toNat_inj.1 e)
          have c2 : ¬ x.toNat = 95 := fun e => h2 (UInt8.toNat_inj.1 e)
          have c3 : ¬ x.toNat = 45 := fun e => h3 (UInt8.toNat_inj.1 e)
          simp [Lib.indexByte, b1, b2, b3, isSep, c1, c2, c3]
  · obtain ⟨_, _, _, hd⟩ := dec_step s i h (by omega)
    have hns : isSep (s[i]'h) = false := by
      simp only [isSep, Bool.or_eq_false_iff, decide_eq_false_iff_not]
      omega
    rcases hd with hd | hd
    · rw [hd]
      refine Calls.mono (ir_err wx) (fun e w' he => ?_)
      obtain ⟨rfl, pos, rfl⟩ := he
      refine ⟨-1, rfl, by simp [hns], ⟨by rw [iter_size]; omega, rfl, rfl, rfl, fun g hg => ?_⟩⟩
      show (wx.heap.push _)[g]? = _
      rw [Array.getElem?_push_lt hg]
      simp [hg]
    · refine Calls.mono (hcall _ hd wx hg) (fun e w' he => ?_)
      obtain ⟨rfl, hg'⟩ := he
      exact ⟨-1, rfl, by simp [hns], hg'⟩
end Go.Proofs.YtllilhgdnepipaaGreatDoor

/-
  strings.IndexAny of the three bytes that part a version, at texts of at most eight bytes and at longer ones.
-/
namespace Go.Proofs.YtllilhgdnepipaaGreatDoor
open Go Go.Avm Go.RowKit
set_option linter.unusedSimpArgs false
set_option linter.unusedVariables false

theorem sepI_none {s : ByteArray} (h : ∀ j (hj : j < s.size), isSep (s[j]'hj) = false) : sepI s.data.toList = -1 := by
  have : sepN s.data.toList = s.data.toList.length := by
    refine runP_all (fun c hc => ?_)
    obtain ⟨j, hj, rfl⟩ := List.getElem_of_mem hc
    have := h j (by simpa using hj)
    have e : s.data.toList[j] = s[j]'(by simpa using hj) := rfl
    rw [e, this]
    rfl
  unfold sepI
  rw [if_neg (by omega)]
theorem sepI_some {s : ByteArray} {i : Nat} (hi : i < s.size) (h : ∀ j (hj : j < s.size), j < i → isSep (s[j]'hj) = false) (hs : isSep (s[i]'hi) = true) : sepI s.data.toList = i := by
  have hl : i < s.data.toList.length := by simpa using hi
  have hN : sepN s.data.toList = i := by
    have hsplit : s.data.toList = s.data.toList.take i ++ s.data.toList.drop i := (List.take_append_drop i _).symm
    have ht : ∀ c ∈ s.data.toList.take i, (fun c => !isSep c) c = true := by
      intro c hc
      obtain ⟨j, hj, rfl⟩ := List.getElem_of_mem hc
      rw [List.length_take] at hj
      have := h j (by omega) (by omega)
      rw [List.getElem_take]
      have e : s.data.toList[j] = s[j]'(by omega) := rfl
      rw [e]
      show (!isSep _) = true
      rw [this]
      rfl
    have hd : ∀ c t, s.data.toList.drop i = c :: t → (fun c => !isSep c) c = false := by
      intro c t he
      rw [List.drop_eq_getElem_cons hl] at he
      simp only [List.cons.injEq] at he
      have e : s.data.toList[i] = s[i]'hi := rfl
      rw [← he.1, e]
      show (!isSep _) = false
      rw [hs]
      rfl
    have := runP_append (p := fun c => !isSep c) _ ht hd
    rw [← hsplit] at this
    unfold sepN
    rw [this, List.length_take]
    omega
  unfold sepI
  rw [hN, if_pos hl]

set_option maxRecDepth 1000000 in
set_option maxHeartbeats 8000000 in
theorem ia_short (s : ByteArray) (w : World) (h8 : s.size ≤ 8) (hcall : ∀ r, HighR r → ∀ wx, Grows w wx → Calls Tryz.prog 137 #[.string seps, .int .i32 (r : Int)] wx fun e w' => e = .returned (.int .i64 (-1)) ∧ Grows wx w') :
    Calls Tryz.prog 89 #[.string s, .string seps] w fun e w' => e = .returned (.int .i64 (sepI s.data.toList)) ∧ Grows w w' := by
  have hemp : seps.toList.isEmpty = false := by rw [Lib.toList_data]; rfl
  have hn1 : ((seps.size : Int) == 1) = false := rfl
  have h8z : ¬ (8 : Int) < (s.size : Int) := by omega
  go_enter Tryz.func89, Tryz.ntmps89
  go_wp2
  go_loopg [9, 10] s.size (fun g _ _ wx => ∃ i : Nat, i + g = s.size ∧ AtIt w wx s i ∧ ∀ j (hj : j < s.size), j < i → isSep (s[j]'hj) = false)
  case atStart => exact ⟨0, by omega, at_iter w s, fun j _ h => by omega⟩
  case round =>
    obtain ⟨i, hig, hat, hno⟩ := hrel
    have HN : Aside (∀ j (hj : j < s.size), j < i → isSep (s[j]'hj) = false) := hno
    have HA : Aside (AtIt w wr s i) := hat
    cases gk with
    | zero =>
      have hnx := at_end (P := Tryz.prog) hat (show ¬ i < s.size by omega)
      clear hno hat
      go_wp2
      go_ret
      exact ⟨by rw [sepI_none (fun j hj => HN.out j hj (by omega))]; rfl, HA.out.1⟩
    | succ g =>
      have hi : i < s.size := by omega
      obtain ⟨wy, hnx, hay⟩ := at_next (P := Tryz.prog) hat hi
      have hir := fun wx hg => ir_any w hcall s i hi wx hg
      have hds := fun ha => dec_step s i hi ha
      have hda := fun ha => decode_ascii s i hi ha
      have HS : Aside (∀ n : Int, (0 ≤ n ↔ isSep (s[i]'hi) = true) → isSep (s[i]'hi) = true → sepI s.data.toList = i) := fun n _ h => sepI_some hi hno h
      clear hno hat
      go_wp2_with (go_at_call 137; refine (hir _ hay.1).mono ?_; rintro e w' ⟨n, rfl, hn, hg⟩)
      · have h0 : isSep (s[i]'hi) = true := by assumption
        go_ret
        exact ⟨by rw [HS.out n hn h0]; rfl, (at_grow hay hg).1⟩
      · have hns : isSep (s[i]'hi) = false := by
          first
            | assumption
            | (have h0 : ¬ isSep (s[i]'hi) = true := by assumption
               simpa using h0)
        have hwid : 1 ≤ (Utf8.decode s i).2 ∧ i + (Utf8.decode s i).2 ≤ s.size ∧ ∀ j (hj : j < s.size), i ≤ j → j < i + (Utf8.decode s i).2 → isSep (s[j]'hj) = false := by
          by_cases ha : (s[i]'hi).toNat < 128
          · rw [hda ha]
            refine ⟨Nat.le_refl _, hi, fun j hj h1 h2 => ?_⟩
            obtain rfl : j = i := by simp only at h2; omega
            exact hns
          · obtain ⟨d1, d2, d3, _⟩ := hds (by omega)
            refine ⟨d1, d2, fun j hj h1 h2 => ?_⟩
            have := d3 j hj h1 h2
            simp only [isSep, Bool.or_eq_false_iff, decide_eq_false_iff_not]
            omega
        obtain ⟨w1, w2, w3⟩ := hwid
        go_roundg (s.size - (i + (Utf8.decode s i).2))
        case measure => omega
        case rel =>
          refine ⟨i + (Utf8.decode s i).2, by omega, at_grow hay hg, fun j hj hlt => ?_⟩
          by_cases hji : j < i
          · exact HN.out j hj hji
          · exact w3 j hj (by omega) hlt
end Go.Proofs.YtllilhgdnepipaaGreatDoor

/-
  The contracts of strings.IndexAny (of the bytes that part a version) and strconv.Itoa (of numbers from nought on), for the abstract machine.
-/
namespace Go.Proofs.YtllilhgdnepipaaGreatDoor
open Go Go.Avm Go.RowKit
set_option linter.unusedSimpArgs false
set_option linter.unusedVariables false

/-- A call of data from within, later. -/
theorem start_data {G : Nat → Value} {h0 : Gh} {w wx : World} {args args' : List AV} {rest : List BX} {vals vals' : Array Value} (hst : Avm.Start E G h0 w args rest vals) (hg : Grows w wx) (hlen : args'.length = vals'.size)
    (hargs : ∀ (j : Nat) (c : AV) (v : Value), args'[j]? = some c → vals'[j]? = some v → Rep E.P G ⟨h0.x, fun _ _ => none, fun _ => none⟩ wx c v) : Avm.Start E G ⟨h0.x, fun _ _ => none, fun _ => none⟩ wx args' [] vals' :=
  { len := hlen
    args := hargs
    boxes := fun d i cs hl => by simp [lookR] at hl
    none0 := fun d i _ => rfl
    m0 := fun _ => rfl
    rows := fun t g h1 => by simp at h1
    rinj := fun t t' g h1 => by simp at h1
    inj := fun d i d' i' g h1 => by simp at h1
    mlt := fun d i g h1 => by simp at h1
    glob := fun g cs hgl => RepD.mono (fun ad u h1 h2 => ⟨hg.cell h1, h2⟩) (hst.glob g cs hgl)
    ifaces := hst.ifaces
    err := hst.err.mono (fun b h1 _ _ => ⟨hg.old b h1, Nat.lt_of_lt_of_le h1 hg.size, fun _ _ he => (by cases he), fun _ he => (by cases he)⟩) }

/-- A contract of data, used in a walk. -/
theorem calls_of_ok {f : FuncId} {args : List AV} {r : AV} (hok : CallOK E f args [] [r] []) (hf : ∃ fn, E.P.funcs[f]? = some fn ∧ (fn.name == "runtime.NumGoroutine") = false ∧ fn.body.isSome = true) {G : Nat → Value} {x : Ext} {w : World} {vals : Array Value}
    (hst : Avm.Start E G ⟨x, fun _ _ => none, fun _ => none⟩ w args [] vals) : Calls E.P f vals w fun e w' => ∃ v, e = .returned v ∧ (∃ h', Rep E.P G h' w' r v) ∧ Grows w w' := by
  obtain ⟨fn, h1, h2, h3⟩ := hf
  have hn' : fn.name ≠ "runtime.NumGoroutine" := by simpa using h2
  obtain ⟨c, hc⟩ := Option.isSome_iff_exists.1 h3
  have henter : (callFunc f vals).run E.P w = .ok (.enter f vals) w := by simp [callFunc, h1, hn', hc]
  rcases hok G _ w vals hst with ⟨_, h⟩ | ⟨v, w', h, _⟩
  · refine Calls.mono h (fun e w' he => ?_)
    cases e with
    | returned v =>
      obtain ⟨h', hp⟩ := he
      exact ⟨v, rfl, ⟨h', hp.out.1⟩, ⟨hp.hsize, hp.os, hp.tape, hp.output, fun g hg => hp.kept g hg (by simp) (by simp)⟩⟩
    | panicked c => exact he.elim
    | outgrown => exact he.elim
  · rw [henter] at h; cases h

theorem indexAny_sep : ∀ l : List UInt8, Lib.indexAny l [46, 95, 45] = sepI l
  | [] => rfl
  | c :: l => by
    have ih := indexAny_sep l
    have hcon : ([46, 95, 45] : List UInt8).contains c = isSep c := by
      by_cases h1 : c = 46
      · subst h1; rfl
      · by_cases h2 : c = 95
        · subst h2; rfl
        · by_cases h3 : c = 45
          · subst h3; rfl
          · have c1 : ¬ c.toNat = 46 := fun e => h1 (UInt8.toNat_inj.1 e)
            have c2 : ¬ c.toNat = 95 := fun e => h2 (UInt8.toNat_inj.1 e)
            have c3 : ¬ c.toNat = 45 := fun e => h3 (UInt8.toNat_inj.1 e)
            simp [isSep, h1, h2, h3, c1, c2, c3]
    simp only [Lib.indexAny, hcon, ih]
    unfold sepI
    have hle := sepN_le l
    cases hs : isSep c with
    | true =>
      have : sepN (c :: l) = 0 := by simp [sepN, runP, hs]
      rw [this]
      simp
    | false =>
      have hN : sepN (c :: l) = sepN l + 1 := by simp [sepN, runP, hs]
      rw [hN]
      by_cases hlt : sepN l < l.length
      · have h1 : ((sepN l : Int) == -1) = false := by rw [beq_eq_false_iff_ne]; omega
        have h2 : sepN l + 1 < (c :: l).length := by simp; omega
        simp only [hlt, if_true, h1, Bool.false_eq_true, if_false, h2]
        rfl
      · have h2 : ¬ sepN l + 1 < (c :: l).length := by simp; omega
        simp only [hlt, if_false, h2]
        rfl

theorem grows_alloc (w : World) (o : Obj) : Grows w (w.alloc o) :=
  ⟨by show w.heap.size ≤ (w.heap.push o).size; rw [Array.size_push]; omega, rfl, rfl, rfl, fun g hg => heap_old w o hg⟩
theorem Grows.trans {a b c : World} (h1 : Grows a b) (h2 : Grows b c) : Grows a c :=
  ⟨Nat.le_trans h1.size h2.size, h2.os.trans h1.os, h2.tape.trans h1.tape, h2.output.trans h1.output, fun g hg => (h2.old g (Nat.lt_of_lt_of_le hg h1.size)).trans (h1.old g hg)⟩

theorem ok89 (l : List UInt8) (hl : Short l) : CallOK E 89 [.str (toB l), .str ⟨#[46, 95, 45]⟩] [] [.int .i64 (sepI l)] [] := by
  refine ok_of_calls rfl ⟨_, Tryz.func89, by kernel_rfl, by kernel_rfl⟩ (fun G h0 w vals hst => ?_)
  have hv := arr2 hst.len (start_str hst (j := 0) rfl) (start_str hst (j := 1) rfl)
  subst hv
  by_cases h8 : l.length ≤ 8
  · refine Calls.mono (ia_short (toB l) w h8 (fun r hr wx hg => ?_)) (fun e w' he => ?_)
    · have hs : Avm.Start E G ⟨h0.x, fun _ _ => none, fun _ => none⟩ wx [.str ⟨#[46, 95, 45]⟩, .int .i32 (r : Int)] [] #[.string seps, .int .i32 (r : Int)] :=
        start_data hst hg rfl (fun j c v h1 h2 => by
          match j with
          | 0 => simp at h1 h2; subst h1; subst h2; exact RepD.str _
          | 1 => simp at h1 h2; subst h1; subst h2; exact RepD.int _ _
          | j + 2 => simp at h1)
      refine Calls.mono (calls_of_ok (ok137 r hr) ⟨_, Tryz.func137, by kernel_rfl, by kernel_rfl⟩ hs) (fun e w' he => ?_)
      obtain ⟨v, rfl, ⟨h', hrep⟩, hg'⟩ := he
      rw [rep_int hrep]
      exact ⟨rfl, hg'⟩
    · obtain ⟨rfl, hg⟩ := he
      exact ⟨_, rfl, RepD.int _ _, hg⟩
  · have hlong := Tryz.strings_IndexAny_long (fun w => by kernel_rfl) (toB l) ⟨#[46, 95, 45]⟩ w (by decide) (by show 8 < l.length; omega) (by show l.length < _; have : l.length < 1000000 := hl; omega) (by decide) (fun j b hb => by
      match j with
      | 0 => simp at hb; subst hb; decide
      | 1 => simp at hb; subst hb; decide
      | 2 => simp at hb; subst hb; decide
      | j + 3 => simp at hb)
    refine Calls.mono hlong (fun e w' he => ?_)
    obtain ⟨rfl, rfl⟩ := he
    exact ⟨_, rfl, by rw [show (toB l).data.toList = l from rfl, indexAny_sep]; exact RepD.int _ _, (grows_alloc _ _).trans (grows_alloc _ _)⟩

theorem decDigits_numT (n : Nat) : Lib.decDigits n = numT n := by
  refine numT_ind (P := fun n => Lib.decDigits n = numT n) (fun n h => ?_) (fun n h ih => ?_) n
  · rw [Lib.decDigits, dif_pos h, numT_small h]
  · rw [Lib.decDigits, dif_neg h, numT_big h, ih]

theorem ok97 (n : Nat) (hn : n < 1000000000000000000) : CallOK E 97 [.int .i64 (n : Int)] [] [.str (toB (numT n))] [] := by
  refine ok_of_calls rfl ⟨_, Tryz.func97, by kernel_rfl, by kernel_rfl⟩ (fun G h0 w vals hst => ?_)
  have hv := arr1 hst.len (start_int hst (j := 0) rfl)
  subst hv
  have htab : Lib.TabIs Tryz.prog w "internal/strconv.uint64pow10" .u64 Lib.pow10Tab := by
    obtain ⟨h1, _⟩ := hst.err.blk 14 (by show 14 ∈ ([14] : List Nat); simp)
    obtain ⟨t, fz, h1⟩ := (show pinP 14 (w.heap[14]?) from h1) rfl
    unfold Lib.TabIs World.var?
    have hg : Tryz.prog.globalNamed "internal/strconv.uint64pow10" = some 14 := by kernel_rfl
    rw [hg, Option.bind_some, h1]
  refine Calls.mono (Tryz.strconv_Itoa (n : Int) (by omega) (by omega) w htab) (fun e w' he => ?_)
  obtain ⟨rfl, k, os, rfl⟩ := he
  refine ⟨_, rfl, ?_, ⟨by simp [Sort.grow, World.drewN], rfl, rfl, rfl, fun g hg => ?_⟩⟩
  · have : (⟨(Lib.itoa (n : Int)).toArray⟩ : ByteArray) = toB (numT n) := by
      unfold Lib.itoa
      rw [if_neg (by omega), Int.toNat_natCast, decDigits_numT]
      rfl
    rw [this]
    exact RepD.str _
  · show (w.heap ++ os)[g]? = w.heap[g]?
    rw [Array.getElem?_append_left hg]
end Go.Proofs.YtllilhgdnepipaaGreatDoor

/-
  The contracts of slices.Grow (of a row of components), the Builder's copyCheck and String, for the abstract machine.
-/
namespace Go.Proofs.YtllilhgdnepipaaGreatDoor
open Go Go.Avm Go.RowKit
set_option linter.unusedSimpArgs false
set_option linter.unusedVariables false

/-! slices.Grow of the nil row. -/
theorem ok98 (n : Nat) (hn : n < 2000000) : CallOK E 98 [.nilS, .int .i64 (n : Int)] [] [.own 8 87 []] [] := by
  intro G h0 w vals hst
  have hv0 : vals[0]? = some (.slice none 0 0) := by
    cases hv : vals[0]? with
    | none =>
      have hsz := hst.len
      rw [Array.getElem?_eq_none_iff] at hv
      simp at hsz
      omega
    | some v =>
      have := hst.args 0 _ _ rfl hv
      cases this
      rfl
  have hv := arr2 hst.len hv0 (start_int hst (j := 1) rfl)
  subst hv
  have henter : (callFunc 98 #[.slice none 0 0, .int .i64 (n : Int)]).run E.P w = .ok (.enter 98 #[.slice none 0 0, .int .i64 (n : Int)]) w := by
    have h1 : Tryz.f98.name ≠ "runtime.NumGoroutine" := by
      have : (Tryz.f98.name == "runtime.NumGoroutine") = false := by kernel_rfl
      simpa using this
    have h2 : Tryz.f98.body.isSome = true := by kernel_rfl
    obtain ⟨c, hc⟩ := Option.isSome_iff_exists.1 h2
    have hf : E.P.funcs[98]? = some Tryz.f98 := Tryz.func98
    simp [callFunc, hf, h1, hc]
  refine .inl ⟨henter, ?_⟩
  by_cases h0n : n = 0
  · subst h0n
    refine Calls.mono (Any8.slices_Grow_room Tryz.grow98 none 0 0 0 w (Nat.le_refl _) (by omega) (by omega) (by omega)) (fun e w' he => ?_)
    obtain ⟨rfl, he⟩ := he
    subst he
    exact ⟨h0, post_grow hst (Grows.refl w') ⟨⟨RepD.sl0 none 0, .inl ⟨rfl, rfl⟩⟩, rfl⟩⟩
  · obtain ⟨i0, hi0, hi1⟩ := Option.map_eq_some_iff.1 (show (Tryz.prog.info? 87).map (fun i => (i.zero, i.size, i.bytes)) = some (some (.slice none 0 0), 1, 24) by kernel_rfl)
    simp only [Prod.mk.injEq] at hi1
    obtain ⟨z1, z2, z3⟩ := hi1
    refine Calls.mono (Any8.slices_Grow_grow Tryz.grow98 i0 (.slice none 0 0) hi0 z1 (by omega) none 0 0 n [] w (Nat.le_refl _) (by omega) (by rw [z3]; omega) (by omega) (by simp) (fun _ => rfl) (fun a ha => by cases ha)) (fun e w' he => ?_)
    obtain ⟨rfl, rfl⟩ := he
    have hg : ∀ g, g < w.heap.size → upd h0.x w.heap.size (some 0) g = h0.x g := fun g hlt => by
      unfold upd
      rw [if_neg (by omega)]
    have hcap := grownCap_le_maxLen w (0 + n) 0 87 (by unfold maxLen; omega)
    have hge := grownCap_ge w (0 + n) 0 87
    obtain ⟨cp, hcp⟩ : ∃ cp, cp = grownCap w (0 + n) 0 87 := ⟨_, rfl⟩
    have hcp' : grownCap w (0 + n) 0 (Tryz.grow98_ren.t 25) = cp := hcp.symm
    rw [hcp']
    rw [← hcp] at hcap hge
    refine ⟨⟨upd h0.x w.heap.size (some 0), h0.m, upd h0.r 8 (some w.heap.size)⟩, ?_⟩
    exact
    { hsize := by show w.heap.size ≤ (w.drew.heap.push _).size; rw [Array.size_push]; exact Nat.le_succ _
      os := rfl
      tape := rfl
      output := rfl
      kept := fun g h1 _ _ => heap_old w.drew _ h1
      xold := fun g h1 _ => hg g h1
      froz := fun ad u h1 h2 => by
        have hlt := cell_lt h1
        refine ⟨?_, fun k hk => h2 k ?_⟩
        · unfold World.cell? at h1 ⊢
          rw [heap_old w.drew _ hlt]
          exact h1
        · have := hg _ hlt
          exact this.symm.trans hk
      outer := fun _ _ => rfl
      boxes := fun d i cs hl => by simp [lookR] at hl
      none0 := hst.none0
      rows := fun t g h1 => by
        by_cases ht : t = 8
        · subst ht
          simp only [upd, if_true, Option.some.injEq] at h1
          subst h1
          exact ⟨.inl (Nat.le_refl _), by show _ < (w.drew.heap.push _).size; rw [Array.size_push]; exact Nat.lt_succ_self _, fun d i he => absurd (hst.mlt d i _ he) (Nat.lt_irrefl _)⟩
        · simp only [upd, if_neg ht] at h1
          obtain ⟨k1, k2⟩ := hst.rows t g h1
          exact ⟨.inr ⟨t, h1⟩, by show _ < (w.drew.heap.push _).size; rw [Array.size_push]; exact Nat.lt_succ_of_lt k1, k2⟩
      rinj := fun t t' g h1 h2 => by
        by_cases ht : t = 8 <;> by_cases ht' : t' = 8
        · rw [ht, ht']
        · subst ht
          simp only [upd, if_true, if_neg ht', Option.some.injEq] at h1 h2
          subst h1
          exact absurd (hst.rows t' _ h2).1 (Nat.lt_irrefl _)
        · subst ht'
          simp only [upd, if_true, if_neg ht, Option.some.injEq] at h1 h2
          subst h2
          exact absurd (hst.rows t _ h1).1 (Nat.lt_irrefl _)
        · simp only [upd, if_neg ht, if_neg ht'] at h1 h2
          exact hst.rinj t t' g h1 h2
      out := ⟨⟨RepD.sl0 _ _, .inr ⟨w.heap.size, cp, _, i0, rfl, heap_new w.drew _, hi0, by simp [size_zeroCells, z2, Value.cells]; omega, Nat.zero_le _, hcap, by simp [upd], by simp [upd], fun y hy => by cases hy⟩⟩, rfl⟩ }

/-! The Builder's copyCheck. -/
set_option maxRecDepth 100000 in
set_option maxHeartbeats 1000000 in
theorem walk96_used (b : Nat) (w : World) (h0 : w.cell? ⟨b, 0, none⟩ = some (.pointer (some ⟨b, 0, none⟩))) :
    Calls Tryz.prog 96 #[.pointer (some ⟨b, 0, none⟩)] w fun e w' => e = .returned (.tuple #[]) ∧ w' = w := by
  obtain ⟨j, hj, _⟩ := Option.map_eq_some_iff.1 (show (Tryz.prog.info? 79).map (·.size) = some 2 by kernel_rfl)
  go_enter Tryz.func96, Tryz.ntmps96
  go_wp2
  rw [Lib.run_neq_ptr_same w _ (show Tryz.prog.underlying 76 = some (.pointer 79) by kernel_rfl) hj]
  go_wp2
  go_end0
  exact ⟨rfl, rfl⟩

set_option maxRecDepth 100000 in
set_option maxHeartbeats 1000000 in
theorem walk96_fresh (b : Nat) (w : World) (h0 : w.cell? ⟨b, 0, none⟩ = some (.pointer none)) (hsh : w.shape? b = some (79, 2)) (hfz : w.frozen? ⟨b, 0, none⟩ = false) :
    Calls Tryz.prog 96 #[.pointer (some ⟨b, 0, none⟩)] w fun e w' => e = .returned (.tuple #[]) ∧ w' = w.setCell ⟨b, 0, none⟩ (.pointer (some ⟨b, 0, none⟩)) := by
  obtain ⟨j, hj, hjs⟩ := Option.map_eq_some_iff.1 (show (Tryz.prog.info? 79).map (·.size) = some 2 by kernel_rfl)
  have u76 : Tryz.prog.underlying 76 = some (.pointer 79) := by kernel_rfl
  have u174 : Tryz.prog.underlying 174 = some .unsafePointer := by kernel_rfl
  go_enter Tryz.func96, Tryz.ntmps96
  go_wp2
  rw [Lib.run_to_unsafe w ⟨b, 0, none⟩ u76 u174 hj (by rw [hjs]; decide) hsh (Nat.zero_lt_succ 1)]
  simp only [Result.andThen]
  rw [Oper.upon_value]
  go_wp2
  rw [run_callFunc_extern Tryz.func142 (by kernel_rfl) (by kernel_rfl) (by kernel_rfl) (e := Extern.AbiNoEscape.same) (by kernel_rfl)]
  rw [Lib.run_noEscape]
  simp only [Result.andThen]
  rw [Oper.upon_value]
  go_wp2
  rw [Lib.run_from_unsafe w ⟨b, 0, none⟩ u174 u76 hj hsh (by kernel_rfl)]
  simp only [Result.andThen]
  rw [Oper.upon_value]
  go_wp2
  go_end0
  exact ⟨rfl, rfl⟩
end Go.Proofs.YtllilhgdnepipaaGreatDoor

/-
  The contracts of the Builder's copyCheck and String, for the abstract machine.
-/
namespace Go.Proofs.YtllilhgdnepipaaGreatDoor
open Go Go.Avm Go.RowKit
set_option linter.unusedSimpArgs false
set_option linter.unusedVariables false

theorem lookR_modR {R : List BX} {d i : Nat} {cs0 : List AV} (hl : lookR R d i = some cs0) (cs : List AV) (d' i' : Nat) : lookR (modR R d i cs) d' i' = if d' = d ∧ i' = i then some cs else lookR R d' i' := by
  have hsome : (R[d]?).isSome = true := by
    unfold lookR at hl
    cases hr : R[d]? with
    | none => rw [hr] at hl; cases hl
    | some f => rfl
  rw [← modR_eq]
  exact lookR_modify R d i cs d' i' hsome
theorem lookR_killR (t : Nat) : ∀ (R : List BX) (d i : Nat), lookR (killR t R) d i = (lookR R d i).map (List.map (killV t))
  | [], d, i => by simp [killR, lookR]
  | f :: r, 0, i => rfl
  | f :: r, d + 1, i => lookR_killR t r d i

theorem vals1 {G : Nat → Value} {h0 : Gh} {w : World} {R : List BX} {vals : Array Value} {d i : Nat} (hst : Avm.Start E G h0 w [.box d i 0] R vals) : ∃ g, h0.m d i = some g ∧ vals = #[.pointer (some ⟨g, 0, none⟩)] := by
  cases hv : vals[0]? with
  | none =>
    have hsz := hst.len
    rw [Array.getElem?_eq_none_iff] at hv
    simp at hsz
    omega
  | some v =>
    obtain ⟨g, h1, rfl⟩ := hst.args 0 _ _ rfl hv
    exact ⟨g, h1, arr1 hst.len hv⟩

theorem enters (n : Nat) (fn : Func) (vals : Array Value) (w : World) (hf : E.P.funcs[n]? = some fn) (h1 : (fn.name == "runtime.NumGoroutine") = false) (h2 : fn.body.isSome = true) : (callFunc n vals).run E.P w = .ok (.enter n vals) w := by
  have hn' : fn.name ≠ "runtime.NumGoroutine" := by simpa using h1
  obtain ⟨c, hc⟩ := Option.isSome_iff_exists.1 h2
  simp [callFunc, hf, hn', hc]

/-! copyCheck. -/
theorem ok96 (R : List BX) (d i : Nat) (c0 buf : AV) (hl : lookR R d i = some [c0, buf]) (hi : i / 100000 = 79) (hc : c0 = .nilP ∨ c0 = .box 0 i 0) : CallOK E 96 [.box (d + 1) i 0] R [] (modR R d i [.box 0 i 0, buf]) := by
  intro G h0 w vals hst
  obtain ⟨g, hg, rfl⟩ := vals1 hst
  refine .inl ⟨enters 96 _ _ w Tryz.func96 (by kernel_rfl) (by kernel_rfl), ?_⟩
  obtain ⟨g', vs, T, fz, hg', ⟨hblk, hfz, hT, hlen⟩, hx, _, hrep⟩ := hst.boxes d i _ hl
  rw [hg] at hg'
  cases hg'
  rw [hi] at hT
  subst hT
  have hlen2 : vs.length = 2 := by
    rcases hlen with h | h
    · exact h.symm
    · exact absurd h (by have : E.P.underlying 79 = Tryz.prog.underlying 79 := rfl; rw [this]; intro h; have h2 : (match Tryz.prog.underlying 79 with | some (.int .u8) => true | _ => false) = false := by kernel_rfl
                         rw [h] at h2; cases h2)
  obtain ⟨v0, v1, rfl⟩ : ∃ v0 v1, vs = [v0, v1] := by
    match vs, hlen2 with
    | [v0, v1], _ => exact ⟨v0, v1, rfl⟩
  have hr0 := (hrep 0 _ _ rfl rfl).1
  have hr1 := hrep 1 _ _ rfl rfl
  have hc0 : w.cell? ⟨g, 0, none⟩ = some v0 := by rw [Lib.cell_of_heap hblk]; rfl
  have hmg : ∀ d' i', h0.m d' i' = some g → d' = d + 1 ∧ i' = i := fun d' i' h => hst.inj _ _ _ _ _ h hg
  have hself : Rep E.P G (h0.sh (d + 1)) w (.box 0 i 0) (.pointer (some ⟨g, 0, none⟩)) := ⟨g, by show h0.m (d + 1 + 0) i = some g; exact hg, rfl⟩
  rcases hc with rfl | rfl
  · have hv0 : v0 = .pointer none := by cases hr0; rfl
    subst hv0
    have hsh : w.shape? g = some (79, 2) := by simp [World.shape?, hblk]
    have hfr : w.frozen? ⟨g, 0, none⟩ = false := by
      rcases fz with ⟨lo, hi'⟩
      simp only [World.frozen?, hblk]
      rcases hfz with h | h
      · cases h; rfl
      · have : ¬ lo ≤ 0 := by simp at h; omega
        simp [this]
    refine Calls.mono (walk96_fresh g w hc0 hsh hfr) (fun e w' he => ?_)
    obtain ⟨rfl, rfl⟩ := he
    have hset : w.setCell ⟨g, 0, none⟩ (.pointer (some ⟨g, 0, none⟩)) = w.setRow g [.pointer (some ⟨g, 0, none⟩), v1].toArray := by
      unfold World.setCell World.setRow
      congr 1
      apply Array.ext_getElem?
      intro k
      rw [Array.getElem?_modify, Array.getElem?_modify]
      split
      · rename_i hk
        subst hk
        rw [hblk]
        rfl
      · rfl
    rw [hset]
    have hSt : Stp h0 h0 w (w.setRow g [.pointer (some ⟨g, 0, none⟩), v1].toArray) none := by
      refine ⟨fun ad u h1 h2 => ?_, fun _ _ _ h1 => h1, fun t g' _ h2 => ?_⟩
      · have hne : ad.block ≠ g := by
          rintro rfl
          exact absurd (h2 0 hx) (Nat.not_lt_zero _)
        exact ⟨by rw [cell_setRow_other w g _ ad hne]; exact h1, h2⟩
      · have hne : g' ≠ g := by rintro rfl; exact (hst.rows t g' h2).2 _ _ hg
        exact ⟨setRow_other w g g' _ hne, h2, rfl⟩
    refine ⟨h0, ?_⟩
    exact
    { hsize := by rw [setRow_size]; exact Nat.le_refl _
      os := rfl
      tape := rfl
      output := rfl
      kept := fun g' h1 h2 h3 => setRow_other w g g' _ (by rintro rfl; exact h2 d i hg)
      xold := fun _ _ _ => rfl
      froz := hSt.cell
      outer := fun _ _ => rfl
      boxes := fun d' i' cs hl' => by
        rw [lookR_modR hl] at hl'
        split at hl'
        · rename_i he
          obtain ⟨rfl, rfl⟩ := he
          simp only [Option.some.injEq] at hl'
          subst hl'
          refine ⟨g, _, 79, fz, hg, ⟨setRow_heap w g _ _ 79 _ hblk, by simpa using hfz, hi.symm, .inl rfl⟩, hx, Nat.le_refl _, fun j c u hj hu => ?_⟩
          match j with
          | 0 =>
            simp at hj hu
            subst hj; subst hu
            exact ⟨⟨g, by show h0.m (d' + 1 + 0) i' = some g; exact hg, rfl⟩, rfl⟩
          | 1 =>
            simp at hj hu
            subst hj; subst hu
            exact ⟨Rep.stp (hSt.sh _) hr1.1, hr1.2⟩
          | j + 2 => simp at hj
        · rename_i he
          have := BoxOK.stp hSt (hst.boxes d' i' cs hl') (fun g' hg' => ⟨setRow_other w g g' _ (by rintro rfl; have := hmg _ _ hg'; exact he ⟨by omega, this.2⟩), rfl⟩)
          rwa [map_killO_none] at this
      none0 := fun d' i' hl' => by
        rw [lookR_modR hl] at hl'
        split at hl'
        · cases hl'
        · exact hst.none0 d' i' hl'
      rows := fun t g' h1 => ⟨.inr ⟨t, h1⟩, by rw [setRow_size]; exact (hst.rows t g' h1).1, (hst.rows t g' h1).2⟩
      rinj := hst.rinj
      out := ⟨[], rfl, rfl, fun j c u h1 _ => by simp at h1⟩ }
  · have hv0 : v0 = .pointer (some ⟨g, 0, none⟩) := by
      obtain ⟨g2, k1, k2⟩ := hr0
      have k1 : h0.m (d + 1 + 0) i = some g2 := k1
      rw [Nat.add_zero, hg] at k1
      cases k1
      exact k2
    subst hv0
    refine Calls.mono (walk96_used g w hc0) (fun e w' he => ?_)
    obtain ⟨rfl, he⟩ := he
    subst he
    have hS : Stp h0 h0 w' w' none := ⟨fun ad u h1 h2 => ⟨h1, h2⟩, fun _ _ _ h => h, fun t g _ h => ⟨rfl, h, rfl⟩⟩
    refine ⟨h0, ?_⟩
    exact
    { hsize := Nat.le_refl _
      os := rfl
      tape := rfl
      output := rfl
      kept := fun _ _ _ _ => rfl
      xold := fun _ _ _ => rfl
      froz := hS.cell
      outer := fun _ _ => rfl
      boxes := fun d' i' cs hl' => by
        rw [lookR_modR hl] at hl'
        split at hl'
        · rename_i he
          obtain ⟨rfl, rfl⟩ := he
          simp only [Option.some.injEq] at hl'
          subst hl'
          exact hst.boxes _ _ _ hl
        · exact hst.boxes d' i' cs hl'
      none0 := fun d' i' hl' => by
        rw [lookR_modR hl] at hl'
        split at hl'
        · cases hl'
        · exact hst.none0 d' i' hl'
      rows := fun t g' h1 => ⟨.inr ⟨t, h1⟩, hst.rows t g' h1⟩
      rinj := hst.rinj
      out := ⟨[], rfl, rfl, fun j c u h1 _ => by simp at h1⟩ }

/-! String. -/
set_option maxRecDepth 100000 in
set_option maxHeartbeats 2000000 in
theorem walk50 (b g cap : Nat) (cur : Array Value) (l : List UInt8) (w : World) (h0 : l ≠ []) (hc1 : w.cell? ⟨b, 1, none⟩ = some (.slice (some ⟨g, 0, none⟩) l.length cap)) (hg : w.heap[g]? = some (.cells cur 5 (0, 0)))
    (hcap : l.length ≤ cap) (hcm : cap ≤ maxLen) (hcs : l.length ≤ cur.size) (hcell : ∀ j x, l[j]? = some x → w.cell? ((⟨g, 0, none⟩ : Addr).add j) = some (.int .u8 x.toNat)) :
    Calls Tryz.prog 50 #[.pointer (some ⟨b, 0, none⟩)] w fun e w' => e = .returned (.string ⟨l.toArray⟩) ∧ w' = w.drew.freeze ⟨g, 0, none⟩ l.length := by
  have hl0 : l.length ≠ 0 := by simpa using h0
  have c1 : w.drew.cell? ⟨b, 1, none⟩ = some (.slice (some ⟨g, 0, none⟩) l.length cap) := hc1
  have hSD : (Builtin.unsafeSliceData_ #[77] 133 #[.slice (some ⟨g, 0, none⟩) l.length cap]).run Tryz.prog w.drew = .ok (.pointer (some ⟨g, 0, none⟩)) w.drew :=
    Lib.run_unsafeSliceData_row _ _ _ _ _ _ (by omega)
  have hUS : (Builtin.unsafeString_ #[133, 3] 9 #[.pointer (some ⟨g, 0, none⟩), .int .i64 l.length]).run Tryz.prog w.drew = .ok (.string ⟨l.toArray⟩) (w.drew.freeze ⟨g, 0, none⟩ l.length) := by
    refine Lib.run_unsafeString_row w.drew 133 3 9 5 (by kernel_rfl) (by kernel_rfl) g cur.size (by have hg' : w.drew.heap[g]? = some (.cells cur 5 (0, 0)) := hg; simp [World.shape?, hg']) l h0 hcs (by unfold maxLen at hcm; omega) ?_
    exact hcell
  go_enter Tryz.func50, Tryz.ntmps50
  go_wp2
  go_region
  all_goals (go_wp2; go_ret; exact ⟨rfl, rfl⟩)

theorem encB_get (l : List UInt8) (j : Nat) (x : UInt8) (h : l[j]? = some x) : (encB l)[j]? = some (.int .u8 (x.toNat : Int)) := by simp [encB, h]

theorem ok50 (R : List BX) (d i t : Nat) (l : List UInt8) (hl : lookR R d i = some [.box 0 i 0, .own t 5 (encB l)]) (hi : i / 100000 = 79) (h0 : l ≠ []) : CallOK E 50 [.box (d + 1) i 0] R [.str (toB l)] (killR t R) := by
  intro G hh w vals hst
  obtain ⟨b, hb, rfl⟩ := vals1 hst
  refine .inl ⟨enters 50 _ _ w Tryz.func50 (by kernel_rfl) (by kernel_rfl), ?_⟩
  obtain ⟨b', vs, T, fz, hb', ⟨hblk, hfz, hT, hlen⟩, hx, hlen2, hrep⟩ := hst.boxes d i _ hl
  rw [hb] at hb'
  cases hb'
  obtain ⟨v0, v1, vr, rfl⟩ : ∃ v0 v1 vr, vs = v0 :: v1 :: vr := by
    match vs, hlen2 with
    | v0 :: v1 :: vr, _ => exact ⟨v0, v1, vr, rfl⟩
    | [_], h => simp at h
    | [], h => simp at h
  obtain ⟨hrd, hown⟩ := (hrep 1 _ _ rfl rfl).1
  have hne : encB l ≠ [] := by simpa [encB] using h0
  rcases hown with ⟨h, _⟩ | ⟨g, cap, cs, inf, e1, e2, e3, e4, e5, e6, e7, e8, e9⟩
  · exact absurd h hne
  · subst e1
    have e7 : hh.r t = some g := e7
    have hinf : inf.size = 1 := by
      have h1 : (Tryz.prog.info? 5).map (·.size) = some 1 := by kernel_rfl
      have h2 : Tryz.prog.info? 5 = some inf := e3
      rw [h2] at h1
      simpa using h1
    have hll : (encB l).length = l.length := encB_length l
    rw [hll] at e5 e8 hrd hblk
    rw [hinf, Nat.mul_one] at e4 e8
    have hc1 : w.cell? ⟨b, 1, none⟩ = some (.slice (some ⟨g, 0, none⟩) l.length cap) := by rw [Lib.cell_of_heap hblk]; rfl
    have hcell : ∀ j x, l[j]? = some x → w.cell? ((⟨g, 0, none⟩ : Addr).add j) = some (.int .u8 x.toNat) := by
      intro j x hj
      have hjl : (encB l)[j]? = some (.int .u8 (x.toNat : Int)) := encB_get l j x hj
      generalize hvv : (Value.slice (some (⟨g, 0, none⟩ : Addr)) l.length cap) = vv at hrd
      generalize hxs : encB l = xs at hrd hjl
      cases hrd with
      | sl0 => simp at hjl
      | sl _ ad c sz f k1 k2 k3 k4 =>
        have hsz : sz = 1 := (k2 j _ hjl).symm
        subst hsz
        have k5 := (k3 j 0 _ _ hjl rfl).1
        have k6 := k4 j 0 _ _ hjl rfl
        have k7 : f j 0 = .int .u8 (x.toNat : Int) := by
          generalize f j 0 = y at k6
          cases k6
          rfl
        rw [k7] at k5
        simp only [Value.slice.injEq, Option.some.injEq] at hvv
        rw [hvv.1]
        simpa using k5
    have hlt : g < w.heap.size := by
      rcases Nat.lt_or_ge g w.heap.size with h | h
      · exact h
      · rw [Array.getElem?_eq_none h] at e2; cases e2
    refine Calls.mono (walk50 b g cap cs l w h0 hc1 e2 e5 e6 (by omega) hcell) (fun e w' he => ?_)
    obtain ⟨rfl, rfl⟩ := he
    have hl0 : l.length ≠ 0 := by simpa using h0
    have hheap : ∀ k, (w.drew.freeze ⟨g, 0, none⟩ l.length).heap[k]? = if k = g then some (.cells cs 5 (0, l.length)) else w.heap[k]? := by
      intro k
      unfold World.freeze
      rw [if_neg hl0]
      show (w.heap.modify g _)[k]? = _
      rw [Array.getElem?_modify]
      by_cases hk : g = k
      · subst hk
        rw [if_pos rfl, if_pos rfl, e2]
        simp
      · rw [if_neg hk, if_neg (Ne.symm hk)]
    have hold : ∀ k, k ≠ g → (w.drew.freeze ⟨g, 0, none⟩ l.length).heap[k]? = w.heap[k]? := fun k hk => by rw [hheap, if_neg hk]
    have hsize : (w.drew.freeze ⟨g, 0, none⟩ l.length).heap.size = w.heap.size := by
      unfold World.freeze
      rw [if_neg hl0]
      show (w.heap.modify g _).size = _
      simp
    have hcl : ∀ ad u, w.cell? ad = some u → (w.drew.freeze ⟨g, 0, none⟩ l.length).cell? ad = some u := by
      intro ad u h
      unfold World.cell? at h ⊢
      by_cases hk : ad.block = g
      · rw [hheap, if_pos hk]
        rw [hk, e2] at h
        exact h
      · rw [hold _ hk]
        exact h
    have hno : ∀ d' i', hh.m d' i' ≠ some g := fun d' i' => (hst.rows t g e7).2 d' i'
    have hrt : ∀ t' g', upd hh.r t none t' = some g' → t' ≠ t ∧ hh.r t' = some g' := by
      intro t' g' h
      unfold upd at h
      split at h
      · cases h
      · rename_i hne; exact ⟨hne, h⟩
    have hSt : Stp hh ⟨hh.x, hh.m, upd hh.r t none⟩ w (w.drew.freeze ⟨g, 0, none⟩ l.length) (some t) := by
      refine ⟨fun ad u h1 h2 => ⟨hcl ad u h1, h2⟩, fun _ _ _ h1 => h1, fun t' g' hne h2 => ?_⟩
      have hne' : t' ≠ t := fun e => hne (by rw [e])
      have hgg : g' ≠ g := by
        rintro rfl
        exact hne' (hst.rinj _ _ _ h2 e7)
      exact ⟨hold g' hgg, by show upd hh.r t none t' = some g'; unfold upd; rw [if_neg hne']; exact h2, rfl⟩
    refine ⟨⟨hh.x, hh.m, upd hh.r t none⟩, ?_⟩
    exact
    { hsize := by rw [hsize]; exact Nat.le_refl _
      os := by unfold World.freeze; rw [if_neg hl0]; rfl
      tape := by unfold World.freeze; rw [if_neg hl0]; rfl
      output := by unfold World.freeze; rw [if_neg hl0]; rfl
      kept := fun g' h1 h2 h3 => hold g' (by rintro rfl; exact h3 t e7)
      xold := fun _ _ _ => rfl
      froz := hSt.cell
      outer := fun _ _ => rfl
      boxes := fun d' i' cs' hl' => by
        rw [lookR_killR, Option.map_eq_some_iff] at hl'
        obtain ⟨cs0, k1, rfl⟩ := hl'
        exact BoxOK.stp (tk := some t) hSt (hst.boxes d' i' cs0 k1) (fun g' hg' => ⟨hold g' (by rintro rfl; exact hno _ _ hg'), rfl⟩)
      none0 := fun d' i' hl' => by
        rw [lookR_killR, Option.map_eq_none_iff] at hl'
        exact hst.none0 d' i' hl'
      rows := fun t' g' h1 => by
        obtain ⟨_, k2⟩ := hrt t' g' h1
        exact ⟨.inr ⟨t', k2⟩, by rw [hsize]; exact (hst.rows t' g' k2).1, (hst.rows t' g' k2).2⟩
      rinj := fun t1 t2 g' h1 h2 => hst.rinj _ _ _ (hrt t1 g' h1).2 (hrt t2 g' h2).2
      out := ⟨RepD.str _, rfl⟩ }
end Go.Proofs.YtllilhgdnepipaaGreatDoor
