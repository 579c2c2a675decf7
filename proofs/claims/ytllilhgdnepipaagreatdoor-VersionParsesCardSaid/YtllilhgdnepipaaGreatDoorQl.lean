-- Merged by a small program of this claim's maker out of 5 texts.
import Derived.Test.YtllilhgdnepipaaGreatDoorQj
import Derived.Test.YtllilhgdnepipaaGreatDoorQf
import Derived.Laws.Externs
import Derived.Lib.Bytealg
import Derived.WalkKit
import Derived.LaidEql
import Derived.Stop.Asserts
import Derived.RowKitTokens
import Derived.Test.YtllilhgdnepipaaGreatDoorQk
import Derived.Laws.RangeAny
import Derived.Lib.Walk
import Derived.Laws.Runes
import Derived.WalkMore

/-
  Contracts as a table: what a function's body proof asks of its callees is looked up in a list of contracts that are proved.
-/
namespace Go.Proofs.YtllilhgdnepipaaGreatDoor
open Go Go.Avm
set_option linter.unusedSimpArgs false

/-- A contract: for the arguments and frames of a family, these results. -/
structure Con where
  f : Nat
  α : Type
  dom : α → Prop
  A : α → List AV
  B : α → List BX
  R : α → List AV × List BX
  inj : ∀ a a', dom a → dom a' → A a = A a' → B a = B a' → R a = R a'
  ok : ∀ a, dom a → CallOK E f (A a) (B a) (R a).1 (R a).2

open Classical in
/-- What a contract answers. -/
noncomputable def Con.ans (c : Con) (args : List AV) (rest : List BX) : Option (List AV × List BX) :=
  if h : ∃ a, c.dom a ∧ c.A a = args ∧ c.B a = rest then some (c.R h.choose) else none
theorem Con.ans_eq (c : Con) (a : c.α) (h : c.dom a) : c.ans (c.A a) (c.B a) = some (c.R a) := by
  have hex : ∃ a', c.dom a' ∧ c.A a' = c.A a ∧ c.B a' = c.B a := ⟨a, h, rfl, rfl⟩
  simp only [Con.ans]
  rw [dif_pos hex]
  obtain ⟨h1, h2, h3⟩ := hex.choose_spec
  exact congrArg some (c.inj _ _ h1 h h2 h3)
theorem Con.ans_ok (c : Con) {args : List AV} {rest : List BX} {rs : List AV} {rest' : List BX} (h : c.ans args rest = some (rs, rest')) : CallOK E c.f args rest rs rest' := by
  simp only [Con.ans] at h
  split at h
  · rename_i hex
    obtain ⟨h1, h2, h3⟩ := hex.choose_spec
    have := c.ok _ h1
    rw [h2, h3] at this
    simp only [Option.some.injEq] at h
    rw [h] at this
    exact this
  · exact absurd h (by simp)

noncomputable def callL : List Con → Rec
  | [], _, _, _ => none
  | c :: cs, f, args, rest => if f = c.f then c.ans args rest else callL cs f args rest
theorem callL_ok : ∀ (cs : List Con) (f : FuncId) (args : List AV) (rest : List BX) (rs : List AV) (rest' : List BX), callL cs f args rest = some (rs, rest') → CallOK E f args rest rs rest'
  | [], _, _, _, _, _, h => by simp [callL] at h
  | c :: cs, f, args, rest, rs, rest', h => by
    simp only [callL] at h
    split at h
    · rename_i hf
      subst hf
      exact c.ans_ok h
    · exact callL_ok cs f args rest rs rest' h
theorem callL_here (c : Con) (cs : List Con) (a : c.α) (h : c.dom a) : callL (c :: cs) c.f (c.A a) (c.B a) = some (c.R a) := by
  simp only [callL, if_true]
  exact c.ans_eq a h
theorem callL_skip {c : Con} {cs : List Con} {f : FuncId} {args : List AV} {rest : List BX} {r : Option (List AV × List BX)} (hf : f ≠ c.f) (h : callL cs f args rest = r) : callL (c :: cs) f args rest = r := by
  simp only [callL, if_neg hf]
  exact h

/-- From a body's proof to a contract. -/
theorem okL (cs : List Con) {f : FuncId} {args rs : List AV} {rest rest' : List BX} (h : body E (callL cs) iterL f args rest = some (rs, rest')) : CallOK E f args rest rs rest' :=
  body_sound E_ok (callL_ok cs) h

theorem toB_inj {l r : List UInt8} (h : toB l = toB r) : l = r := congrArg (fun b : ByteArray => b.data.toList) h
theorem encI_inj {x y : Item} (h : encI x = encI y) : x = y := by
  obtain ⟨a, b⟩ := x
  obtain ⟨c, d⟩ := y
  simp [encI] at h
  simp [h]
theorem map_inj {α β : Type} {f : α → β} (hf : ∀ {x y}, f x = f y → x = y) : ∀ {l r : List α}, l.map f = r.map f → l = r
  | [], [], _ => rfl
  | [], _ :: _, h => by simp at h
  | _ :: _, [], h => by simp at h
  | x :: l, y :: r, h => by
    simp only [List.map_cons, List.cons.injEq] at h
    rw [hf h.1, map_inj hf h.2]
theorem encC_inj {x y : List Item} (h : encC x = encC y) : x = y := by
  simp only [encC, AV.sl.injEq] at h
  exact map_inj encI_inj h
theorem isP_inj {u : AV} {x y : List (List Item)} (h1 : IsP u x) (h2 : IsP u y) : x = y := by
  rcases h1 with rfl | ⟨rfl, rfl⟩ <;> rcases h2 with h2 | ⟨h2, rfl⟩
  · simp only [AV.sl.injEq] at h2; exact map_inj encC_inj h2
  · exact absurd h2 (by simp)
  · exact absurd h2 (by simp)
  · rfl
theorem isL_inj {u : AV} {x y : List Item} (h1 : IsL u x) (h2 : IsL u y) : x = y := by
  rcases h1 with rfl | ⟨rfl, rfl⟩ <;> rcases h2 with h2 | ⟨h2, rfl⟩
  · simp only [encC, AV.sl.injEq] at h2; exact map_inj encI_inj h2
  · exact absurd h2 (by simp [encC])
  · exact absurd h2 (by simp [encC])
  · rfl
theorem encV_inj {v w : Ver} (h : encV v = encV w) : v = w := by
  obtain ⟨e, p, q⟩ := v
  obtain ⟨e', p', q'⟩ := w
  simp only [encV, AV.agg.injEq, List.cons.injEq, AV.int.injEq, true_and, AV.sl.injEq, and_true] at h
  obtain ⟨h1, h2, h3⟩ := h
  rw [h1, map_inj encC_inj h2]
  by_cases hq : q = [] <;> by_cases hq' : q' = [] <;> simp only [hq, hq', if_true, if_false, AV.sl.injEq, reduceCtorEq] at h3
  · rw [hq, hq']
  · rw [map_inj encC_inj h3]

/-! Functions of one byte. -/
/-- A contract of functions that take data and leave nothing. -/
def con0 (f : Nat) {α : Type} (dom : α → Prop) (A : α → List AV) (R : α → List AV) (inj : ∀ a a', dom a → dom a' → A a = A a' → R a = R a') (ok : ∀ a, dom a → CallOK E f (A a) [] (R a) []) : Con :=
  ⟨f, α, dom, A, fun _ => [], fun a => (R a, []), fun a a' h h' he _ => by rw [inj a a' h h' he], ok⟩
theorem here0 {f : Nat} {α : Type} {dom : α → Prop} {A : α → List AV} {R : α → List AV} {inj : ∀ a a', dom a → dom a' → A a = A a' → R a = R a'} {ok : ∀ a, dom a → CallOK E f (A a) [] (R a) []} {cs : List Con} (a : α) (h : dom a) :
    callL (con0 f dom A R inj ok :: cs) f (A a) [] = some (R a, []) := callL_here (con0 f dom A R inj ok) cs a h

theorem ok86 (c : Int) : CallOK E 86 [.int .u8 c] [] [.bool (decide (65 ≤ c ∧ c ≤ 90))] [] := okL [] (spec86 c [] _)
theorem ok92 (c : Int) : CallOK E 92 [.int .u8 c] [] [.bool (isDigI c)] [] := okL [] (spec92 c [] _)
theorem ok93 (c : Int) : CallOK E 93 [.int .u8 c] [] [.bool (isLetI c)] [] := okL [] (spec93 c [] _)
theorem ok99 (c : Int) : CallOK E 99 [.int .u8 c] [] [.bool (isLetI c)] [] := okL [] (spec99 c [] _)
theorem ok141 (c : Int) : CallOK E 141 [.int .u8 c] [] [.bool (isDigI c)] [] := okL [] (spec141 c [] _)
def con86 : Con := con0 86 (fun _ : Int => True) (fun c => [.int .u8 c]) (fun c => [.bool (decide (65 ≤ c ∧ c ≤ 90))]) (by intro a a' _ _ h; simp at h; rw [h]) (fun c _ => ok86 c)
def con92 : Con := con0 92 (fun _ : Int => True) (fun c => [.int .u8 c]) (fun c => [.bool (isDigI c)]) (by intro a a' _ _ h; simp at h; rw [h]) (fun c _ => ok92 c)
def con93 : Con := con0 93 (fun _ : Int => True) (fun c => [.int .u8 c]) (fun c => [.bool (isLetI c)]) (by intro a a' _ _ h; simp at h; rw [h]) (fun c _ => ok93 c)
def con99 : Con := con0 99 (fun _ : Int => True) (fun c => [.int .u8 c]) (fun c => [.bool (isLetI c)]) (by intro a a' _ _ h; simp at h; rw [h]) (fun c _ => ok99 c)
def con141 : Con := con0 141 (fun _ : Int => True) (fun c => [.int .u8 c]) (fun c => [.bool (isDigI c)]) (by intro a a' _ _ h; simp at h; rw [h]) (fun c _ => ok141 c)

/-! Numbers. -/
abbrev Short (l : List UInt8) : Prop := l.length < 1000000
theorem ok136 (l : List UInt8) (h : Short l) : CallOK E 136 [.str (toB l), .int .i64 0] [] [.int .i64 (runD l)] [] := okL [] (by
  have := spec136 (toB l) h 0 (by omega) [] (callL [])
  rw [Int.zero_add] at this
  exact this)
def con136 : Con := con0 136 Short (fun l => [.str (toB l), .int .i64 0]) (fun l => [.int .i64 (runD l)]) (by intro a a' _ _ h; simp at h; rw [toB_inj h]) ok136
theorem ok88 (l : List UInt8) (most : Int) (h : Short l) : CallOK E 88 [.str (toB l), .int .i64 most] [] [.int .i64 (smallD l most).1, .bool (smallD l most).2] [] :=
  okL [con136] (spec88 (toB l) h most [] _ (here0 (dom := Short) l h))
def con88 : Con := con0 88 Short (fun l => [.str (toB l), .int .i64 big]) (fun l => [.int .i64 (smallD l big).1, .bool (smallD l big).2]) (by intro a a' _ _ h; simp at h; rw [toB_inj h]) (fun l h => ok88 l big h)
theorem ok38 (l : List UInt8) (h : Short l) : CallOK E 38 [.str (toB l)] [] [.int .i64 (smallD l big).1, .bool (smallD l big).2] [] :=
  okL [con88] (spec38 (toB l) [] _ (smallD l big) (here0 (dom := Short) l h))
def con38 : Con := con0 38 Short (fun l => [.str (toB l)]) (fun l => [.int .i64 (smallD l big).1, .bool (smallD l big).2]) (by intro a a' _ _ h; simp at h; rw [toB_inj h]) ok38
theorem ok91 (l : List UInt8) (h : Short l) : CallOK E 91 [.str (toB l), .int .i64 0] [] [.int .i64 (runD l)] [] := okL [] (spec91 (toB l) h _)
def con91 : Con := con0 91 Short (fun l => [.str (toB l), .int .i64 0]) (fun l => [.int .i64 (runD l)]) (by intro a a' _ _ h; simp at h; rw [toB_inj h]) ok91
theorem ok42 (l : List UInt8) (most : Int) (h : Short l) : CallOK E 42 [.str (toB l), .int .i64 most] [] [.int .i64 (smallR l most)] [] :=
  okL [con91] (spec42 (toB l) h most _ (here0 (dom := Short) l h))
def con42 : Con := con0 42 Short (fun l => [.str (toB l), .int .i64 1000000000000000]) (fun l => [.int .i64 (smallR l 1000000000000000)]) (by intro a a' _ _ h; simp at h; rw [toB_inj h]) (fun l h => ok42 l _ h)

/-! Texts. -/
theorem ok41 (l : List UInt8) (c : Int) (h : Short l) : CallOK E 41 [.str (toB l), .int .u8 c] [] [.int .i64 (findL c l 0)] [] := okL [] (spec41 (toB l) h c [] _)
def con41 : Con := con0 41 (fun p : List UInt8 × Int => Short p.1) (fun p => [.str (toB p.1), .int .u8 p.2]) (fun p => [.int .i64 (findL p.2 p.1 0)]) (by rintro ⟨a, c⟩ ⟨a', c'⟩ _ _ h; simp at h; simp only [toB_inj h.1, h.2]) (fun p h => ok41 p.1 p.2 h)
theorem ok40 (l : List UInt8) (h : Short l) : CallOK E 40 [.str (toB l)] [] [.str (toB (lowL l))] [] := okL [] (spec40 (toB l) h _)
def con40 : Con := con0 40 Short (fun l => [.str (toB l)]) (fun l => [.str (toB (lowL l))]) (by intro a a' _ _ h; simp at h; rw [toB_inj h]) ok40
theorem ok36 (l : List UInt8) (h : Short l) : CallOK E 36 [.str (toB l)] [] [.str (toB (lowL l))] [] := okL [con86] (spec36 (toB l) h _ (fun c => here0 (dom := fun _ : Int => True) c trivial))
def con36 : Con := con0 36 Short (fun l => [.str (toB l)]) (fun l => [.str (toB (lowL l))]) (by intro a a' _ _ h; simp at h; rw [toB_inj h]) ok36
theorem ok90 (l : List UInt8) (h : Short l) : CallOK E 90 [.str (toB l)] [] (compoA (compo l)) [] :=
  okL [con99, con141, con38] (spec90 l h _ (fun c => here0 (dom := fun _ : Int => True) c trivial) (fun c => callL_skip (by decide) (here0 (dom := fun _ : Int => True) c trivial))
    (fun r hr => callL_skip (by decide) (callL_skip (by decide) (here0 (dom := Short) r hr))))
def con90 : Con := con0 90 Short (fun l => [.str (toB l)]) (fun l => compoA (compo l)) (by intro a a' _ _ h; simp at h; rw [toB_inj h]) ok90
/-- What the document's Components answers. -/
def compsB : Option (List (List Item)) → List AV
  | none => [.own 4 87 [], .bool false]
  | some r => [.own 24 87 (r.map encC), .bool true]
theorem ok43 (l : List UInt8) (h : Short l) : CallOK E 43 [.str (toB l)] [] (compsB (comps [] l)) [] :=
  okL [con92, con93, con42] (spec43 l h _ (fun c => here0 (dom := fun _ : Int => True) c trivial) (fun c => callL_skip (by decide) (here0 (dom := fun _ : Int => True) c trivial))
    (fun r hr => callL_skip (by decide) (callL_skip (by decide) (here0 (dom := Short) r hr))))
def con43 : Con := con0 43 Short (fun l => [.str (toB l)]) (fun l => compsB (comps [] l)) (by intro a a' _ _ h; simp at h; rw [toB_inj h]) ok43
theorem ok9 (l : List UInt8) (h : Short l) : CallOK E 9 [.str (toB l)] [] (verA (parseV l)) [] :=
  okL [con40, con41, con42, con43] (spec9 l h _ (fun r hr => here0 (dom := Short) r hr) (fun r c hr => callL_skip (by decide) (here0 (dom := fun p : List UInt8 × Int => Short p.1) (r, c) hr))
    (fun r hr => callL_skip (by decide) (callL_skip (by decide) (here0 (dom := Short) r hr)))
    (fun r hr => callL_skip (by decide) (callL_skip (by decide) (callL_skip (by decide) (here0 (dom := Short) r hr)))))
def con9 : Con := con0 9 Short (fun l => [.str (toB l)]) (fun l => verA (parseV l)) (by intro a a' _ _ h; simp at h; rw [toB_inj h]) ok9
end Go.Proofs.YtllilhgdnepipaaGreatDoor

/-
  Contracts that the abstract machine does not run: what a call leaves that writes nothing old; IndexByteString (an entry of the model's), errors.Is of two of the document's errors.
-/
namespace Go.Proofs.YtllilhgdnepipaaGreatDoor
open Go Go.Avm Go.RowKit
set_option linter.unusedSimpArgs false
set_option linter.unusedVariables false

/-- Memory has only grown. -/
structure Grows (w w' : World) : Prop where
  size : w.heap.size ≤ w'.heap.size
  os : w'.os = w.os
  tape : w'.tape = w.tape
  output : w'.output = w.output
  old : ∀ g, g < w.heap.size → w'.heap[g]? = w.heap[g]?

theorem Grows.refl (w : World) : Grows w w := ⟨Nat.le_refl _, rfl, rfl, rfl, fun _ _ => rfl⟩

theorem Grows.cell {w w' : World} (H : Grows w w') {ad : Addr} {u : Value} (h : w.cell? ad = some u) : w'.cell? ad = some u := by
  have hlt := cell_lt h
  have := H.old _ hlt
  unfold World.cell? at h ⊢
  rw [this]
  exact h

/-- What such a call leaves. -/
theorem post_grow {G : Nat → Value} {h0 : Gh} {w w' : World} {args : List AV} {rest : List BX} {vals : Array Value} {rs : List AV} {v : Value} (hst : Avm.Start E G h0 w args rest vals) (hg : Grows w w') (hout : OutV E.P G h0 w' rs v) :
    Post E G h0 w rs rest h0 v w' := by
  have hStp : Stp h0 h0 w w' none := ⟨fun ad u h1 h2 => ⟨hg.cell h1, h2⟩, fun _ _ _ h => h, fun t g _ h => ⟨hg.old g (hst.rows t g h).1, h, rfl⟩⟩
  exact
  { hsize := hg.size
    os := hg.os
    tape := hg.tape
    output := hg.output
    kept := fun g h1 _ _ => hg.old g h1
    xold := fun _ _ _ => rfl
    froz := fun ad u h1 h2 => ⟨hg.cell h1, h2⟩
    outer := fun _ _ => rfl
    boxes := fun d i cs hl => by
      have := BoxOK.stp hStp (hst.boxes d i cs hl) (fun g hm => ⟨hg.old g (hst.mlt _ _ g hm), rfl⟩)
      rw [map_killO_none] at this
      exact this
    none0 := hst.none0
    rows := fun t g h1 => ⟨.inr ⟨t, h1⟩, Nat.lt_of_lt_of_le (hst.rows t g h1).1 hg.size, (hst.rows t g h1).2⟩
    rinj := hst.rinj
    out := hout }

/-- A call's contract in the model's words, for arguments that are data. -/
theorem ok_of_calls {f : FuncId} {args : List AV} {r : AV} (hd : r.strip.data = true) (hf : ∃ fn, E.P.funcs[f]? = some fn ∧ (fn.name == "runtime.NumGoroutine") = false ∧ fn.body.isSome = true)
    (H : ∀ (G : Nat → Value) (h0 : Gh) (w : World) (vals : Array Value), Avm.Start E G h0 w args [] vals → Calls E.P f vals w fun e w' => ∃ v, e = .returned v ∧ Rep E.P G h0 w' r v ∧ Grows w w') : CallOK E f args [] [r] [] := by
  intro G h0 w vals hst
  refine .inl ⟨?_, ?_⟩
  · obtain ⟨fn, h1, h2, h3⟩ := hf
    have hn' : fn.name ≠ "runtime.NumGoroutine" := by simpa using h2
    obtain ⟨c, hc⟩ := Option.isSome_iff_exists.1 h3
    simp [callFunc, h1, hn', hc]
  · refine Calls.mono (H G h0 w vals hst) (fun e w' he => ?_)
    obtain ⟨v, rfl, hr, hg⟩ := he
    exact ⟨h0, post_grow hst hg ⟨hr, hd⟩⟩

theorem start_str {G : Nat → Value} {h0 : Gh} {w : World} {args : List AV} {vals : Array Value} (hst : Avm.Start E G h0 w args [] vals) {j : Nat} {b : ByteArray} (hj : args[j]? = some (.str b)) : vals[j]? = some (.string b) := by
  have hlt : j < args.length := by
    by_cases h : j < args.length
    · exact h
    · rw [List.getElem?_eq_none (by omega)] at hj; cases hj
  cases hv : vals[j]? with
  | none =>
    have hsz := hst.len
    rw [Array.getElem?_eq_none_iff] at hv
    omega
  | some v => rw [rep_str (hst.args j _ _ hj hv)]
theorem start_int {G : Nat → Value} {h0 : Gh} {w : World} {args : List AV} {vals : Array Value} (hst : Avm.Start E G h0 w args [] vals) {j : Nat} {k : IntKind} {n : Int} (hj : args[j]? = some (.int k n)) : vals[j]? = some (.int k n) := by
  have hlt : j < args.length := by
    by_cases h : j < args.length
    · exact h
    · rw [List.getElem?_eq_none (by omega)] at hj; cases hj
  cases hv : vals[j]? with
  | none =>
    have hsz := hst.len
    rw [Array.getElem?_eq_none_iff] at hv
    omega
  | some v => rw [rep_int (hst.args j _ _ hj hv)]
theorem start_err {G : Nat → Value} {h0 : Gh} {w : World} {args : List AV} {vals : Array Value} (hst : Avm.Start E G h0 w args [] vals) {j : Nat} {n : Nat} (hj : args[j]? = some (.err n)) : vals[j]? = some (G n) := by
  have hlt : j < args.length := by
    by_cases h : j < args.length
    · exact h
    · rw [List.getElem?_eq_none (by omega)] at hj; cases hj
  cases hv : vals[j]? with
  | none =>
    have hsz := hst.len
    rw [Array.getElem?_eq_none_iff] at hv
    omega
  | some v => rw [rep_err (hst.args j _ _ hj hv)]
theorem arr1 {vals : Array Value} {a : Value} (hl : 1 = vals.size) (h : vals[0]? = some a) : vals = #[a] := by
  apply Array.ext_getElem?
  intro i
  match i with
  | 0 => rw [h]; rfl
  | i + 1 => rw [Array.getElem?_eq_none (by omega), Array.getElem?_eq_none (by simp)]
theorem arr2 {vals : Array Value} {a b : Value} (hl : 2 = vals.size) (h : vals[0]? = some a) (h' : vals[1]? = some b) : vals = #[a, b] := by
  apply Array.ext_getElem?
  intro i
  match i with
  | 0 => rw [h]; rfl
  | 1 => rw [h']; rfl
  | i + 2 => rw [Array.getElem?_eq_none (by omega), Array.getElem?_eq_none (by simp)]

/-! internal/bytealg.IndexByteString. -/
theorem indexByte_find (c : UInt8) : ∀ (l : List UInt8) (k : Nat), findL c.toNat l k = if Lib.indexByte l c = -1 then -1 else k + Lib.indexByte l c
  | [], k => by simp [findL, Lib.indexByte]
  | x :: l, k => by
    have ih := indexByte_find c l (k + 1)
    simp only [findL, Lib.indexByte]
    by_cases h : x = c
    · subst h; simp
    · have h1 : ¬ (x.toNat : Int) = c.toNat := fun e => h (UInt8.toNat_inj.1 (by omega))
      have h2 : (x == c) = false := by simpa using h
      simp only [h1, h2, if_false, Bool.false_eq_true]
      have e : (k : Int) + 1 = ((k + 1 : Nat) : Int) := rfl
      rw [e, ih]
      by_cases h3 : Lib.indexByte l c = -1
      · simp [h3]
      · have h4 : (Lib.indexByte l c == -1) = false := by simpa using h3
        have hge : -1 ≤ Lib.indexByte l c := by
          clear ih e
          clear h1 h2 h3 h4
          induction l with
          | nil => simp [Lib.indexByte]
          | cons y l ih2 => simp only [Lib.indexByte]; split <;> first | omega | (split <;> omega)
        simp only [h3, if_false, h4, Bool.false_eq_true]
        rw [if_neg (by omega)]
        omega
theorem ok171 (l : List UInt8) (c : UInt8) : CallOK E 171 [.str (toB l), .int .u8 (c.toNat : Int)] [] [.int .i64 (findL c.toNat l 0)] [] := by
  intro G h0 w vals hst
  have hv := arr2 hst.len (start_str hst (j := 0) rfl) (start_int hst (j := 1) rfl)
  subst hv
  have hrun := run_callFunc_extern (P := E.P) Tryz.func171 (by kernel_rfl) (by kernel_rfl) (by kernel_rfl) (e := Extern.BytealgIndexByte.indexByte) (by kernel_rfl) #[.string (toB l), .int .u8 (c.toNat : Int)] w
  rw [Lib.run_indexByteString] at hrun
  have hc : ((c.toNat : Int)).toNat.toUInt8 = c := by simp
  rw [hc] at hrun
  have he : findL c.toNat l 0 = Lib.indexByte l c := by
    have := indexByte_find c l 0
    rw [show ((0 : Nat) : Int) = 0 from rfl] at this
    rw [this]
    split
    · rename_i h; rw [h]
    · omega
  rw [he]
  exact .inr ⟨_, w, hrun, h0, post_grow hst (Grows.refl w) ⟨RepD.int _ _, rfl⟩⟩
end Go.Proofs.YtllilhgdnepipaaGreatDoor

/-
  errors.Is of two of the document's errors: true of the same one, false of two. (Lines of the worked proof of errors.Is, turned to this program.)
-/
namespace Go.Proofs.YtllilhgdnepipaaGreatDoor
open Go Go.Avm Go.RowKit Go.Extern.Stop Go.Stop Go.Extern
set_option linter.unusedSimpArgs false
set_option linter.unusedVariables false

theorem isTypeOf (v : Value) (w : World) : (Extern.ReflectliteType.typeOf #[.iface 218 v]).run Tryz.prog w = .ok (.iface 165 (.agg #[.pointer (some ⟨19, 218, none⟩)])) w := by kernel_rfl
/-- The model's entry for the method Comparable. -/
def cmpEntry : Array Value → Sem Value := Extern.ReflectliteType.method fun t => do Go.Extern.Rtype.noPackHeld "Comparable" t; pure (.bool (← typeInfo t).comparable)
theorem isComparable (w : World) : (cmpEntry #[.agg #[.pointer (some ⟨19, 218, none⟩)]]).run Tryz.prog w = .ok (.bool true) w := by kernel_rfl
theorem isMethodComparable (v : Value) (w : World) : (Go.method 352 165 v "Comparable").run Tryz.prog w = .ok (206, v) w := by kernel_rfl
theorem isComp : (Tryz.prog.info? 218).map (·.comparable) = some true := by kernel_rfl
theorem isSize : (Tryz.prog.info? 241).map (·.size) = some 1 := by kernel_rfl
theorem noIsE (v : Value) (xT : TypeId) (w : World) : (Instr.typeAssert (.iface 218 v) xT 167 true).run Tryz.prog w = .ok (.tuple #[.nilIface, .bool false]) w := run_typeAssert_lacksB Tryz.underlying167 (by kernel_rfl) (by kernel_rfl) v xT w
theorem noUnwrapE (v : Value) (xT : TypeId) (w : World) : (Instr.typeAssert (.iface 218 v) xT 170 true).run Tryz.prog w = .ok (.tuple #[.nilIface, .bool false]) w := run_typeAssert_lacksB Tryz.underlying170 (by kernel_rfl) (by kernel_rfl) v xT w
theorem noUnwrapsE (v : Value) (xT : TypeId) (w : World) : (Instr.typeAssert (.iface 218 v) xT 172 true).run Tryz.prog w = .ok (.tuple #[.nilIface, .bool false]) w := run_typeAssert_lacksB Tryz.underlying172 (by kernel_rfl) (by kernel_rfl) v xT w

set_option maxRecDepth 100000 in
theorem is_same (a : Addr) (w : World) :
    Calls Tryz.prog 45 #[.iface 218 (.pointer (some a)), .iface 218 (.pointer (some a))] w fun e w' => e = .returned (.bool true) ∧ w' = w := by
  obtain ⟨i, hi, hcmp⟩ := Option.map_eq_some_iff.1 isComp
  obtain ⟨j, hj, hjs⟩ := Option.map_eq_some_iff.1 isSize
  have h8 := @run_callFunc_extern Tryz.prog 94 _ Extern.ReflectliteType.typeOf Tryz.func94 (by kernel_rfl) (by kernel_rfl) (by kernel_rfl) (by kernel_rfl)
  have h32 := @run_callFunc_extern Tryz.prog 206 _ cmpEntry Tryz.func206 (by kernel_rfl) (by kernel_rfl) (by kernel_rfl) (by kernel_rfl)
  have tT := isTypeOf
  have cT := isComparable
  have mR := isMethodComparable
  have heq := run_eql_iface_ptr_same (P := Tryz.prog) w a Tryz.underlying27 Tryz.underlying218 hi hcmp hj
  go_enter Tryz.func45, Tryz.ntmps45
  go_wp2
  refine wp_loop_rounds 1 ?_
  rw [rounds_succ]
  go_wp2
  go_ret
  exact ⟨rfl, rfl⟩

set_option maxRecDepth 100000 in
theorem is_other (a b : Addr) (ca cb : Array Value) (ta tb : TypeId) (w : World) (hne : a ≠ b) (ha : w.heap[a.block]? = some (.cells ca ta (0, 0))) (hb : w.heap[b.block]? = some (.cells cb tb (0, 0))) :
    Calls Tryz.prog 45 #[.iface 218 (.pointer (some a)), .iface 218 (.pointer (some b))] w fun e w' => e = .returned (.bool false) ∧ w' = w := by
  obtain ⟨i, hi, hcmp⟩ := Option.map_eq_some_iff.1 isComp
  obtain ⟨j, hj, hjs⟩ := Option.map_eq_some_iff.1 isSize
  have h8 := @run_callFunc_extern Tryz.prog 94 _ Extern.ReflectliteType.typeOf Tryz.func94 (by kernel_rfl) (by kernel_rfl) (by kernel_rfl) (by kernel_rfl)
  have h32 := @run_callFunc_extern Tryz.prog 206 _ cmpEntry Tryz.func206 (by kernel_rfl) (by kernel_rfl) (by kernel_rfl) (by kernel_rfl)
  have tT := isTypeOf
  have cT := isComparable
  have mR := isMethodComparable
  have nE := noIsE
  have uE := noUnwrapE
  have vE := noUnwrapsE
  have heq := run_eql_iface_ptr_other (P := Tryz.prog) w Tryz.underlying27 Tryz.underlying218 hi hcmp hj (by rw [hjs]; decide) hne ha hb
  go_enter Tryz.func45, Tryz.ntmps45
  go_wp2
  refine wp_loop_rounds 1 ?_
  rw [rounds_succ]
  go_wp2
  go_ret
  exact ⟨rfl, rfl⟩

theorem ok45 (a b : Nat) (ha : a < 13) (hb : b < 13) : CallOK E 45 [.err a, .err b] [] [.bool (decide (a = b))] [] := by
  refine ok_of_calls rfl ⟨_, Tryz.func45, by kernel_rfl, by kernel_rfl⟩ (fun G h0 w vals hst => ?_)
  have hv := arr2 hst.len (start_err hst (j := 0) rfl) (start_err hst (j := 1) rfl)
  subst hv
  have hga : (E.glob a).isSome = true := by rw [globE a ha]; rfl
  have hgb : (E.glob b).isSome = true := by rw [globE b hb]; rfl
  obtain ⟨x, c, t, h1, h2, _⟩ := hst.err.err a hga
  obtain ⟨y, c', t', h3, h4, _⟩ := hst.err.err b hgb
  have h1 : G a = .iface 218 (.pointer (some x)) := h1
  have h3 : G b = .iface 218 (.pointer (some y)) := h3
  rw [h1, h3]
  by_cases hab : a = b
  · subst hab
    rw [h1] at h3
    simp only [Value.iface.injEq, Value.pointer.injEq, Option.some.injEq, true_and] at h3
    subst h3
    refine Calls.mono (is_same x w) (fun e w' he => ?_)
    obtain ⟨rfl, rfl⟩ := he
    exact ⟨_, rfl, by rw [decide_eq_true rfl]; exact RepD.bool _, Grows.refl _⟩
  · have hxy : x ≠ y := by
      rintro rfl
      exact hab (hst.err.ne a b hga hgb (h1.trans h3.symm))
    refine Calls.mono (is_other x y c c' t t' w hxy h2 h4) (fun e w' he => ?_)
    obtain ⟨rfl, rfl⟩ := he
    exact ⟨_, rfl, by rw [decide_eq_false hab]; exact RepD.bool _, Grows.refl _⟩
end Go.Proofs.YtllilhgdnepipaaGreatDoor

/-
  strings.IndexRune of a rune beyond ASCII in the three bytes that part a version: nowhere.
-/
namespace Go.Proofs.YtllilhgdnepipaaGreatDoor
open Go Go.Avm Go.RowKit
set_option linter.unusedSimpArgs false
set_option linter.unusedVariables false

def seps : ByteArray := ⟨#[46, 95, 45]⟩

set_option maxRecDepth 100000 in
set_option maxHeartbeats 4000000 in
theorem ir_err (w : World) : Calls Tryz.prog 137 #[.string seps, .int .i32 65533] w fun e w' => e = .returned (.int .i64 (-1)) ∧ ∃ pos, w' = w.iter seps pos := by
  have n0 : ∀ ty, (Instr.next (.pointer (some ⟨w.heap.size, 0, none⟩)) true ty).run Tryz.prog (w.iter seps 0) = .ok (.tuple #[.bool true, .int .i64 0, .int .i32 46]) (w.iter seps 1) := fun ty => run_next_ascii (P := Tryz.prog) w seps 0 ty (by decide) (by decide)
  have n1 : ∀ ty, (Instr.next (.pointer (some ⟨w.heap.size, 0, none⟩)) true ty).run Tryz.prog (w.iter seps 1) = .ok (.tuple #[.bool true, .int .i64 1, .int .i32 95]) (w.iter seps 2) := fun ty => run_next_ascii (P := Tryz.prog) w seps 1 ty (by decide) (by decide)
  have n2 : ∀ ty, (Instr.next (.pointer (some ⟨w.heap.size, 0, none⟩)) true ty).run Tryz.prog (w.iter seps 2) = .ok (.tuple #[.bool true, .int .i64 2, .int .i32 45]) (w.iter seps 3) := fun ty => run_next_ascii (P := Tryz.prog) w seps 2 ty (by decide) (by decide)
  have n3 := fun ty => run_next_end (P := Tryz.prog) w seps 3 ty (by decide)
  go_enter Tryz.func137, Tryz.ntmps137
  go_wp2
  refine wp_loop_rounds 4 ?_
  rw [rounds_succ]
  go_wp2
  rw [rounds_succ]
  go_wp2
  rw [rounds_succ]
  go_wp2
  rw [rounds_succ]
  go_wp2
  go_ret
  exact ⟨rfl, _, rfl⟩
theorem call171 (s : ByteArray) (c : Int) (w : World) : (callFunc 171 #[.string s, .int .u8 c]).run Tryz.prog w = .ok (.value (.int .i64 (Lib.indexByte s.data.toList c.toNat.toUInt8))) w := by
  rw [run_callFunc_extern (P := Tryz.prog) Tryz.func171 (by kernel_rfl) (by kernel_rfl) (by kernel_rfl) (e := Extern.BytealgIndexByte.indexByte) (by kernel_rfl), Lib.run_indexByteString]
  rfl

theorem ib159 (s : ByteArray) (c : Int) (w : World) : Calls Tryz.prog 159 #[.string s, .int .u8 c] w fun e w' => e = .returned (.int .i64 (Lib.indexByte s.data.toList c.toNat.toUInt8)) ∧ w' = w := by
  have h := call171 s c w
  go_enter Tryz.func159, Tryz.ntmps159
  go_wp2
  go_ret
  exact ⟨rfl, rfl⟩

end Go.Proofs.YtllilhgdnepipaaGreatDoor

/-
  strings.IndexRune of a valid rune beyond ASCII in the three bytes that part a version, as the abstract machine runs it.
-/
namespace Go.Proofs.YtllilhgdnepipaaGreatDoor
open Go Go.Avm
set_option linter.unusedSimpArgs false

theorem spec159 (l : List UInt8) (c : Int) (call : Rec) (n : Int) (h155 : call 155 [.str (toB l), .int .u8 c] [] = some ([.int .i64 n], [])) :
    body E call iterL 159 [.str (toB l), .int .u8 c] [] = some ([.int .i64 n], []) := by
  rw [body_eq fn159 (c := Tryz.f159.body.get!) rfl]
  simp (config := {decide := true}) only [go_sem, ↓reduceIte, decide_true, decide_false, List.all_cons, List.all_nil, Bool.and_true, headId, Tryz.f159, Option.get!, h155]

theorem spec160 (r : Nat) (hr : r < 55296 ∨ (57343 < r ∧ r ≤ 1114111)) (call : Rec) : body E call iterL 160 [.int .i32 (r : Int)] [] = some ([.bool true], []) := by
  have g0 : 0 ≤ (r : Int) := by omega
  rw [body_eq fn160 (c := Tryz.f160.body.get!) rfl]
  by_cases h1 : (r : Int) < 55296
  · simp (config := {decide := true}) only [go_sem, ↓reduceIte, decide_true, decide_false, List.all_cons, List.all_nil, Bool.and_true, headId, Tryz.f160, Option.get!, g0, h1]
  · have h2 : (57343 : Int) < r := by omega
    have h3 : (r : Int) ≤ 1114111 := by omega
    simp (config := {decide := true}) only [go_sem, ↓reduceIte, decide_true, decide_false, List.all_cons, List.all_nil, Bool.and_true, headId, Tryz.f160, Option.get!, g0, h1, h2, h3]

theorem encode_list (r : Nat) (h0 : 128 ≤ r) (hr : r < 55296 ∨ (57343 < r ∧ r ≤ 1114111)) : ∃ (p : List UInt8) (c : UInt8), Utf8.encode (r : Int) = toB (p ++ [c]) ∧ 128 ≤ c.toNat ∧ (p.length = 1 ∨ p.length = 2 ∨ p.length = 3) := by
  have hv : Utf8.valid (r : Int) = true := by simp [Utf8.valid]; omega
  have hl : 128 ≤ (UInt8.ofNat (128 + r % 64)).toNat := by simp; omega
  simp only [Utf8.encode, hv, if_true, Int.toNat_natCast]
  rw [if_neg (by omega)]
  split
  · exact ⟨[_], _, rfl, hl, .inl rfl⟩
  · split
    · exact ⟨[_, _], _, rfl, hl, .inr (.inl rfl)⟩
    · exact ⟨[_, _, _], _, rfl, hl, .inr (.inr rfl)⟩

theorem findL_high (c : UInt8) (h : 128 ≤ c.toNat) : findL c.toNat [45] 0 = -1 ∧ findL c.toNat [] 0 = -1 := by
  refine ⟨?_, rfl⟩
  simp only [findL]
  rw [if_neg (by have : (45 : UInt8).toNat = 45 := rfl
                 omega)]

theorem spec137 (r : Nat) (h0 : 128 ≤ r) (hne : r ≠ 65533) (hr : r < 55296 ∨ (57343 < r ∧ r ≤ 1114111)) (call : Rec) (h160 : call 160 [.int .i32 (r : Int)] [] = some ([.bool true], []))
    (h159 : ∀ (l : List UInt8) (c : UInt8), call 159 [.str (toB l), .int .u8 (c.toNat : Int)] [] = some ([.int .i64 (findL c.toNat l 0)], [])) :
    body E call iterL 137 [.str ⟨#[46, 95, 45]⟩, .int .i32 (r : Int)] [] = some ([.int .i64 (-1)], []) := by
  obtain ⟨p, c, he, hc, hp⟩ := encode_list r h0 hr
  obtain ⟨f1, f2⟩ := findL_high c hc
  have g0 : 0 ≤ (r : Int) := by omega
  have g1 : ¬ (r : Int) < 128 := by omega
  have g2 : ¬ (r : Int) = 65533 := by omega
  have hsz : ((⟨#[46, 95, 45]⟩ : ByteArray).size : Int) = 3 := rfl
  have hsz2 : ((#[46, 95, 45] : Array UInt8).size : Int) = 3 := rfl
  have hse : ((toB (p ++ [c])).size : Int) = p.length + 1 := by rw [toB_size]; simp
  have hlast : ∀ i : Int, i = p.length → sIdx (toB (p ++ [c])) i = some c := by
    intro i hi
    subst hi
    rw [toB_idxN (by simp)]
    simp
  have i1 : sIdx ⟨#[46, 95, 45]⟩ 1 = some 95 := rfl
  have i2 : sIdx ⟨#[46, 95, 45]⟩ 2 = some 45 := rfl
  have c2 : cutS ⟨#[46, 95, 45]⟩ (some 2) (some 3) = some (.str (toB [45])) := toB_cut (l := [46, 95, 45]) (a := 2) (b := 3) (by decide) (by decide) (by decide)
  have c3 : cutS ⟨#[46, 95, 45]⟩ (some 3) (some 3) = some (.str (toB [])) := toB_cut (l := [46, 95, 45]) (a := 3) (b := 3) (by decide) (by decide) (by decide)
  have w1 : IntKind.i64.wrap (1 + 1) = 2 := by decide
  have w2 : IntKind.i64.wrap (2 + 1) = 3 := by decide
  have e95 : ((95 : UInt8).toNat : Int) = 95 := rfl
  have e45 : ((45 : UInt8).toNat : Int) = 45 := rfl
  have n95 : ¬ (95 : Int) = c.toNat := by omega
  have n45 : ¬ (45 : Int) = c.toNat := by omega
  rw [body_eq fn137 (c := Tryz.f137.body.get!) rfl]
  rcases hp with hp | hp | hp
  · have hw : IntKind.i64.wrap ((p.length : Int) + 1 - 1) = 1 := by rw [hp]; decide
    have l1 := hlast 1 (by omega)
    simp (config := {decide := true}) only [go_sem, ↓reduceIte, decide_true, decide_false, List.all_cons, List.all_nil, Bool.and_true, headId, Tryz.f137, Option.get!, g0, g1, g2, h160, Bool.not_true, he, hse, hw, loopE_eq, hsz, hsz2, i1, i2, l1, Option.map_some, e95, e45, n95, n45, ne_eq, not_false_eq_true, w1, w2, c2, c3, h159, f1, f2]
  · have hw : IntKind.i64.wrap ((p.length : Int) + 1 - 1) = 2 := by rw [hp]; decide
    have l1 := hlast 2 (by omega)
    simp (config := {decide := true}) only [go_sem, ↓reduceIte, decide_true, decide_false, List.all_cons, List.all_nil, Bool.and_true, headId, Tryz.f137, Option.get!, g0, g1, g2, h160, Bool.not_true, he, hse, hw, loopE_eq, hsz, hsz2, i1, i2, l1, Option.map_some, e95, e45, n95, n45, ne_eq, not_false_eq_true, w1, w2, c2, c3, h159, f1, f2]
  · have hw : IntKind.i64.wrap ((p.length : Int) + 1 - 1) = 3 := by rw [hp]; decide
    simp (config := {decide := true}) only [go_sem, ↓reduceIte, decide_true, decide_false, List.all_cons, List.all_nil, Bool.and_true, headId, Tryz.f137, Option.get!, g0, g1, g2, h160, Bool.not_true, he, hse, hw, loopE_eq, hsz, hsz2]

theorem ok171u (l : List UInt8) (c : UInt8) : CallOK E 171 [.str (toB l), .int .u8 (c.toNat : Int)] [] [.int .i64 (findL c.toNat l 0)] [] := ok171 l c
def con171 : Con := con0 171 (fun _ : List UInt8 × UInt8 => True) (fun p => [.str (toB p.1), .int .u8 (p.2.toNat : Int)]) (fun p => [.int .i64 (findL p.2.toNat p.1 0)]) (by
  rintro ⟨l, c⟩ ⟨l', c'⟩ _ _ h
  simp at h
  rw [toB_inj h.1, show c = c' from UInt8.toNat_inj.1 (by omega)]) (fun p _ => ok171 p.1 p.2)
theorem ok155 (l : List UInt8) (c : UInt8) : CallOK E 155 [.str (toB l), .int .u8 (c.toNat : Int)] [] [.int .i64 (findL c.toNat l 0)] [] :=
  okL [con171] (spec155 l c.toNat _ _ (here0 (dom := fun _ : List UInt8 × UInt8 => True) (l, c) trivial))
def con155 : Con := con0 155 (fun _ : List UInt8 × UInt8 => True) (fun p => [.str (toB p.1), .int .u8 (p.2.toNat : Int)]) (fun p => [.int .i64 (findL p.2.toNat p.1 0)]) (by
  rintro ⟨l, c⟩ ⟨l', c'⟩ _ _ h
  simp at h
  rw [toB_inj h.1, show c = c' from UInt8.toNat_inj.1 (by omega)]) (fun p _ => ok155 p.1 p.2)
theorem ok159 (l : List UInt8) (c : UInt8) : CallOK E 159 [.str (toB l), .int .u8 (c.toNat : Int)] [] [.int .i64 (findL c.toNat l 0)] [] :=
  okL [con155] (spec159 l c.toNat _ _ (here0 (dom := fun _ : List UInt8 × UInt8 => True) (l, c) trivial))
def con159 : Con := con0 159 (fun _ : List UInt8 × UInt8 => True) (fun p => [.str (toB p.1), .int .u8 (p.2.toNat : Int)]) (fun p => [.int .i64 (findL p.2.toNat p.1 0)]) (by
  rintro ⟨l, c⟩ ⟨l', c'⟩ _ _ h
  simp at h
  rw [toB_inj h.1, show c = c' from UInt8.toNat_inj.1 (by omega)]) (fun p _ => ok159 p.1 p.2)
/-- A rune that is neither ASCII nor the error's. -/
def HighR (r : Nat) : Prop := 128 ≤ r ∧ r ≠ 65533 ∧ (r < 55296 ∨ (57343 < r ∧ r ≤ 1114111))
def con160 : Con := con0 160 HighR (fun r => [.int .i32 (r : Int)]) (fun _ => [.bool true]) (fun _ _ _ _ _ => rfl) (fun r h => okL [] (spec160 r h.2.2 _))
theorem ok137 (r : Nat) (h : HighR r) : CallOK E 137 [.str ⟨#[46, 95, 45]⟩, .int .i32 (r : Int)] [] [.int .i64 (-1)] [] :=
  okL [con160, con159] (spec137 r h.1 h.2.1 h.2.2 _ (here0 (dom := HighR) r h) (fun l c => callL_skip (by decide) (here0 (dom := fun _ : List UInt8 × UInt8 => True) (l, c) trivial)))
end Go.Proofs.YtllilhgdnepipaaGreatDoor
