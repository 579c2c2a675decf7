-- Merged by a small program of this claim's maker out of 3 texts.
import Derived.Test.YtllilhgdnepipaaGreatDoorQn
import Derived.LaidLaws
import Derived.Lib.LaidTab
import Derived.RowKit
import Derived.Test.YtllilhgdnepipaaGreatDoorTie
import Derived.Test.YtllilhgdnepipaaGreatDoorCards
import Derived.Stop.LaidErr
import Derived.Lay
import Derived.MakeChecks
import Derived.WalkKit
import Derived.ProofKit
import Derived.Handy
import Derived.ChangeSame
import Derived.ChangeVars
import Derived.JoinedOf
import Derived.LaidHandle
import Derived.ChangeMaps5
import Derived.SevenTiedAt
import Derived.Below

/-
  From the row's condition on the listed variables to what the abstract machine's start asks: sentinels, of whatever program.
-/
namespace Go.Avm
set_option linter.unusedSimpArgs false
set_option linter.unusedVariables false

/-- A listed sentinel: its name, its text, its number. -/
structure Sent where
  name : String
  text : List UInt8
  g : Nat
def Sent.laid (nm : String) (x : Sent) : String × DataW Unit := (x.name, .iface nm (.ptr (.agg [.lit (.string x.text)])))

theorem row_one (a : Addr) : MemPlace.row a 1 = [MemPlace.cell a.block a.off] := rfl

theorem sents {P : Program} {W : World} {nm : String} {ti tp te ts : TypeId} {ms : Array (String × TypeId)} {f : Field} (hi : P.underlying ti = some (.interface ms)) (hrow : ∀ u, P.typeName? 3 u = some nm → u = tp)
    (hp : P.underlying tp = some (.pointer te)) (he : P.underlying te = some (.struct #[f])) (hft : f.type = ts) (hfo : f.offset = 0) (hs : P.underlying ts = some .string) (hc : P.cellsOf te = 1) (hcs : P.cellsOf ts = 1) :
    ∀ (l : List Sent) (ps : List MemPlace), (∀ x ∈ l, P.globalNamed x.name = some x.g ∧ (P.globals[x.g]?).map (·.type) = some ti) → DataW.LaidVars P W (l.map (Sent.laid nm)) ps →
      (∀ b off, MemPlace.cell b off ∈ ps → (∃ c t, W.heap[b]? = some (.cells c t (0, 0))) ∧ ∀ u v, W.cell? ⟨b, off, none⟩ = some (.iface u v) → Value.okWide P W .any 0 u v) →
      ∃ xs : List Addr, xs.length = l.length ∧ (xs.map fun a => MemPlace.cell a.block a.off).Sublist ps ∧
        ∀ (i : Nat) (x : Sent) (a : Addr), l[i]? = some x → xs[i]? = some a → W.var? P x.name = some #[.iface tp (.pointer (some a))] ∧ ∃ c t, W.heap[a.block]? = some (.cells c t (0, 0))
  | [], ps, _, _, _ => ⟨[], rfl, List.nil_sublist _, fun i x a h _ => by simp at h⟩
  | x :: l, ps, hg, h, hrows => by
    obtain ⟨g0, t0, cs0, f0, p0, q0, hg0, ht0, hv0, hd0, hq, e0⟩ := h
    obtain ⟨k1, k2⟩ := hg x (List.mem_cons_self ..)
    obtain rfl := Option.some.inj (k1.symm.trans hg0)
    obtain rfl := Option.some.inj (k2.symm.trans ht0)
    subst e0
    obtain ⟨l0⟩ := cs0
    have ok0 : ∀ u v, l0 = [.iface u v] → Value.okWide P W .any 0 u v := fun u v e => by
      subst e
      exact (hrows x.g 0 (by simp [MemPlace.row])).2 u v (by simpa using World.var?_cell hg0 hv0 0)
    obtain ⟨a0, s0, rfl, hc0, hs0, hz0, rfl⟩ := errorString_of_trod hi hrow hp he hft hfo hs hc hcs hd0 ok0
    obtain ⟨xs, h1, h2, h3⟩ := sents hi hrow hp he hft hfo hs hc hcs l q0 (fun y hy => hg y (List.mem_cons_of_mem _ hy)) hq (fun b off hm => hrows b off (List.mem_append_right _ hm))
    refine ⟨a0 :: xs, by simp [h1], ?_, fun i y a hy ha => ?_⟩
    · rw [List.map_cons, row_one, List.append_assoc]
      exact (List.Sublist.cons_cons _ h2).trans (List.sublist_append_right _ _)
    · cases i with
      | zero =>
        simp at hy ha
        subst hy; subst ha
        exact ⟨hv0, (hrows a0.block a0.off (by simp [row_one])).1⟩
      | succ i => exact h3 i y a (by simpa using hy) (by simpa using ha)
end Go.Avm

/-
  From the row's condition to the abstract machine's start: the document's thirteen errors and the table of powers.
-/
namespace Go.Proofs.YtllilhgdnepipaaGreatDoor
open Go Go.Avm Go.RowKit
set_option linter.unusedSimpArgs false
set_option linter.unusedVariables false

def sentL : List Sent := [Sent.mk "haversack/api.ErrSyntax" [104, 97, 118, 101, 114, 115, 97, 99, 107, 58, 32, 115, 121, 110, 116, 97, 120] 1, Sent.mk "haversack/api.ErrDepth" [104, 97, 118, 101, 114, 115, 97, 99, 107, 58, 32, 100, 101, 112, 116, 104] 2, Sent.mk "haversack/api.ErrSize" [104, 97, 118, 101, 114, 115, 97, 99, 107, 58, 32, 115, 105, 122, 101] 3, Sent.mk "haversack/api.ErrNumber" [104, 97, 118, 101, 114, 115, 97, 99, 107, 58, 32, 110, 117, 109, 98, 101, 114] 4, Sent.mk "haversack/api.ErrKey" [104, 97, 118, 101, 114, 115, 97, 99, 107, 58, 32, 107, 101, 121] 5, Sent.mk "haversack/api.ErrType" [104, 97, 118, 101, 114, 115, 97, 99, 107, 58, 32, 116, 121, 112, 101] 6, Sent.mk "haversack/api.ErrName" [104, 97, 118, 101, 114, 115, 97, 99, 107, 58, 32, 110, 97, 109, 101] 7, Sent.mk "haversack/api.ErrVersion" [104, 97, 118, 101, 114, 115, 97, 99, 107, 58, 32, 118, 101, 114, 115, 105, 111, 110] 0, Sent.mk "haversack/api.ErrSpec" [104, 97, 118, 101, 114, 115, 97, 99, 107, 58, 32, 115, 112, 101, 99] 8, Sent.mk "haversack/api.ErrRange" [104, 97, 118, 101, 114, 115, 97, 99, 107, 58, 32, 114, 97, 110, 103, 101] 9, Sent.mk "haversack/api.ErrNone" [104, 97, 118, 101, 114, 115, 97, 99, 107, 58, 32, 110, 111, 110, 101] 10, Sent.mk "haversack/api.ErrLimit" [104, 97, 118, 101, 114, 115, 97, 99, 107, 58, 32, 108, 105, 109, 105, 116] 11, Sent.mk "haversack/api.ErrTwice" [104, 97, 118, 101, 114, 115, 97, 99, 107, 58, 32, 116, 119, 105, 99, 101] 12]
def sentP (g : Nat) : Nat := if g = 0 then 7 else if g < 8 then g - 1 else g

theorem sentL_len : sentL.length = 13 := rfl
theorem sentP_g : ∀ g, g < 13 → ∃ x, sentL[sentP g]? = some x ∧ x.g = g := by
  intro g hg
  have : g = 0 ∨ g = 1 ∨ g = 2 ∨ g = 3 ∨ g = 4 ∨ g = 5 ∨ g = 6 ∨ g = 7 ∨ g = 8 ∨ g = 9 ∨ g = 10 ∨ g = 11 ∨ g = 12 := by omega
  rcases this with rfl | rfl | rfl | rfl | rfl | rfl | rfl | rfl | rfl | rfl | rfl | rfl | rfl <;> exact ⟨_, rfl, rfl⟩
theorem sentP_inj {g g' : Nat} (h : g < 13) (h' : g' < 13) (he : sentP g = sentP g') : g = g' := by
  unfold sentP at he
  split at he <;> split at he <;> (try split at he) <;> (try split at he) <;> omega
theorem sentP_lt {g : Nat} (h : g < 13) : sentP g < 13 := by
  unfold sentP
  split
  · omega
  · split <;> omega
theorem glob_lt {g : Nat} {cs : List AV} (h : E.glob g = some cs) : g < 13 ∧ cs = [.err g] := by
  have key : ∀ (l : List (Nat × List AV)), (∀ p ∈ l, p.1 < 13 ∧ p.2 = [.err p.1]) → l.lookup g = some cs → g < 13 ∧ cs = [.err g] := by
    intro l
    induction l with
    | nil => intro _ h; simp at h
    | cons p l ih =>
      intro hp h
      obtain ⟨a, b⟩ := p
      rw [List.lookup_cons] at h
      split at h
      · rename_i he
        have he : g = a := by simpa using he
        simp only [Option.some.injEq] at h
        subst h
        have := hp (a, b) (List.mem_cons_self ..)
        rw [he]
        exact this
      · exact ih (fun q hq => hp q (List.mem_cons_of_mem _ hq)) h
  refine key globL ?_ h
  intro p hp
  simp only [globL, List.mem_cons, List.mem_nil_iff, or_false] at hp
  rcases hp with rfl | rfl | rfl | rfl | rfl | rfl | rfl | rfl | rfl | rfl | rfl | rfl | rfl <;> exact ⟨by decide, rfl⟩

theorem laid_eq : Rows.versionParsesRow.laid = ("math/bits.deBruijn32tab", Rows.laid_math_bits_deBruijn32tab) :: ("math/bits.deBruijn64tab", Rows.laid_math_bits_deBruijn64tab) :: ("internal/strconv.uint64pow10", Lib.tabData .u64 Lib.pow10Tab) ::
    sentL.map (Sent.laid "*errors.errorString") := by kernel_rfl

theorem errS : "*" ++ "errors.errorString" = "*errors.errorString" := by decide
theorem errRow (u : TypeId) (h : Tryz.prog.typeName? 3 u = some "*errors.errorString") : u = 218 :=
  typeName_ptr_named (nm := "errors.errorString") (by rw [errS]; kernel_rfl) (by kernel_rfl) (by decide) u (by rw [errS]; exact h)

theorem heap_of_var {P : Program} {w : World} {n : String} {g : Nat} {cs : Array Value} (hg : P.globalNamed n = some g) (h : w.var? P n = some cs) : ∃ t fz, w.heap[g]? = some (.cells cs t fz) := by
  unfold World.var? at h
  rw [hg, Option.bind_some] at h
  split at h
  · rename_i c t fz he
    simp only [Option.some.injEq] at h
    subst h
    exact ⟨t, fz, he⟩
  · cases h

theorem sent_glob : ∀ x ∈ sentL, Tryz.prog.globalNamed x.name = some x.g ∧ (Tryz.prog.globals[x.g]?).map (·.type) = some 27 := by
  intro x hx
  simp only [sentL, List.mem_cons, List.mem_nil_iff, or_false] at hx
  rcases hx with rfl | rfl | rfl | rfl | rfl | rfl | rfl | rfl | rfl | rfl | rfl | rfl | rfl <;> exact ⟨by kernel_rfl, by kernel_rfl⟩

/-- The world in which the row's call begins, as the machine sees it. -/
theorem start_laid {W : World} (h : laidMet Tryz.prog Rows.versionParsesRow.laid W) {args : List AV} {vals : Array Value} (hlen : args.length = vals.size)
    (hargs : ∀ (G : Nat → Value) (j : Nat) (c : AV) (v : Value), args[j]? = some c → vals[j]? = some v → Rep E.P G ⟨fun _ => none, fun _ _ => none, fun _ => none⟩ W c v) :
    ∃ G : Nat → Value, Avm.Start E G ⟨fun _ => none, fun _ _ => none, fun _ => none⟩ W args [] vals := by
  rw [laid_eq] at h
  have h3 := h.tail.tail
  have g14 : Tryz.prog.globalNamed "internal/strconv.uint64pow10" = some 14 := by kernel_rfl
  have hT := Lib.tabIs_of_head g14 (show (Tryz.prog.globals[14]?).map (·.type) = some 208 by kernel_rfl) Tryz.underlying208 Tryz.underlying200 (by kernel_rfl) (by kernel_rfl) h3
  obtain ⟨t14, fz14, hb14⟩ := heap_of_var g14 hT
  obtain ⟨ps, hv, hnd, hrows⟩ := h3.tail
  obtain ⟨xs, h1, h2, h4⟩ := sents Tryz.underlying27 errRow Tryz.underlying218 Tryz.underlying241 rfl rfl Tryz.underlying9 (by kernel_rfl) (by kernel_rfl) sentL ps sent_glob hv hrows
  have hasnd : (xs.map fun a => MemPlace.cell a.block a.off).Nodup := hnd.sublist h2
  have hlen13 : xs.length = 13 := h1
  let ad : Nat → Addr := fun g => xs.getD (sentP g) ⟨0, 0, none⟩
  have had : ∀ g, g < 13 → xs[sentP g]? = some (ad g) := fun g hg => by
    have hlt : sentP g < xs.length := by rw [hlen13]; exact sentP_lt hg
    simp [ad, List.getD, hlt]
  have hne : ∀ g g', g < 13 → g' < 13 → ad g = ad g' → g = g' := by
    intro g g' hg hg' he
    have e1 := had g hg
    have e2 := had g' hg'
    rw [← he] at e2
    obtain ⟨l1, e1⟩ := List.getElem?_eq_some_iff.1 e1
    obtain ⟨l2, e2⟩ := List.getElem?_eq_some_iff.1 e2
    have k1 : (xs.map fun a => MemPlace.cell a.block a.off)[sentP g]'(by simpa using l1) = (xs.map fun a => MemPlace.cell a.block a.off)[sentP g']'(by simpa using l2) := by
      rw [List.getElem_map, List.getElem_map, e1, e2]
    rcases Nat.lt_trichotomy (sentP g) (sentP g') with h | h | h
    · exact absurd k1 (List.pairwise_iff_getElem.1 hasnd _ _ _ _ h)
    · exact sentP_inj hg hg' h
    · exact absurd k1.symm (List.pairwise_iff_getElem.1 hasnd _ _ _ _ h)
  refine ⟨fun g => .iface 218 (.pointer (some (ad g))), ?_⟩
  exact
  { len := hlen
    args := fun j c v h1 h2 => hargs _ j c v h1 h2
    boxes := fun d i cs hl => by simp [lookR] at hl
    none0 := fun _ _ _ => rfl
    m0 := fun _ => rfl
    rows := fun t g h => by cases h
    rinj := fun t t' g h => by cases h
    inj := fun d i d' i' g h => by cases h
    mlt := fun d i g h => by cases h
    glob := fun g cs hg => by
      obtain ⟨hlt, rfl⟩ := glob_lt hg
      obtain ⟨x, hx, hxg⟩ := sentP_g g hlt
      obtain ⟨k1, _⟩ := h4 _ x _ hx (had g hlt)
      have k2 := (sent_glob x (List.mem_of_getElem? hx)).1
      rw [hxg] at k2
      have k3 : W.cell? ⟨g, 0, none⟩ = some (.iface 218 (.pointer (some (ad g)))) := by simpa using World.var?_cell k2 k1 0
      refine RepD.el _ _ (fun _ => .iface 218 (.pointer (some (ad g)))) (fun j u hj => ?_) (fun j u hj => ?_)
      · match j with
        | 0 => exact ⟨k3, fun n hn => by cases hn⟩
        | j + 1 => simp at hj
      · match j with
        | 0 =>
          simp at hj
          subst hj
          exact RepD.err (G := fun g => .iface 218 (.pointer (some (ad g)))) g
        | j + 1 => simp at hj
    ifaces := fun g => ⟨_, _, rfl⟩
    err :=
    { blk := fun b hb => by
        have hb : b ∈ [14] := hb
        rw [List.mem_singleton] at hb
        subst hb
        refine ⟨fun _ => ⟨t14, fz14, hb14⟩, ?_, fun _ _ h => (by cases h), fun _ h => (by cases h)⟩
        exact (Array.getElem?_eq_some_iff.1 hb14).1
      err := fun g hg => by
        obtain ⟨cs, hcs⟩ := Option.isSome_iff_exists.1 hg
        obtain ⟨hlt, _⟩ := glob_lt hcs
        obtain ⟨x, hx, _⟩ := sentP_g g hlt
        obtain ⟨_, c, t, hb⟩ := h4 _ x _ hx (had g hlt)
        exact ⟨ad g, c, t, rfl, hb, fun _ _ h => (by cases h), fun _ h => (by cases h)⟩
      ne := fun g g' hg hg' he => by
        obtain ⟨cs, hcs⟩ := Option.isSome_iff_exists.1 hg
        obtain ⟨cs', hcs'⟩ := Option.isSome_iff_exists.1 hg'
        simp only [Value.iface.injEq, Value.pointer.injEq, Option.some.injEq, true_and] at he
        exact hne g g' (glob_lt hcs).1 (glob_lt hcs').1 he } }
end Go.Proofs.YtllilhgdnepipaaGreatDoor

/-
  THE ROW AND THE TIED CARD of VersionParses.
-/
namespace Go.Proofs.YtllilhgdnepipaaGreatDoor
open Go Go.Avm Go.RowKit Go.ChangeShapes Go.WideShapes Go.ChangeAt Go.ChangeMaps
set_option linter.unusedSimpArgs false
set_option linter.unusedVariables false

theorem law3 (s : ByteArray) (W : World) (h : laidMet Tryz.prog Rows.versionParsesRow.laid W) : Calls Tryz.prog 3 #[.string s] W fun e W' => e = .returned (.bool true) ∧ Below W.heap.size W W' := by
  obtain ⟨G, hst⟩ := start_laid h (args := [.str (toB s.data.toList)]) (vals := #[.string s]) rfl (fun G j c v h1 h2 => by
    match j with
    | 0 =>
      simp at h1 h2
      subst h1; subst h2
      rw [toB_inv]
      exact RepD.str s
    | j + 1 => simp at h1)
  refine Calls.mono (calls_of_ok (ok3 s.data.toList) ⟨_, Tryz.func3, by kernel_rfl, by kernel_rfl⟩ hst) (fun e w' he => ?_)
  obtain ⟨v, rfl, ⟨h', hrep⟩, hg⟩ := he
  rw [rep_bool hrep]
  exact ⟨rfl, hg.os, hg.tape, hg.output, hg.size, fun k hk => hg.old k hk⟩

theorem own3 : ownKnob Tryz.prog.godebug = none := by kernel_rfl
theorem plain3 (w : World) : laidMetH Tryz.prog Rows.versionParsesRow.laid w = laidMet Tryz.prog Rows.versionParsesRow.laid w := MakeChecks.laidMetH_plain _ _ _ (by kernel_rfl)
set_option maxRecDepth 100000 in
theorem lifted3 (os : Os) (started : os.Started) (H : Type) (enc : TypeId × Value → H) :
    ReturnsInHanded {} Tryz.checked os 3 .any (fun w args => (Rows.versionParsesSpec.pre enc Tryz.prog Tryz.f3 [] false w args ∧ laidMetH Tryz.prog Rows.versionParsesRow.laid w) ∧ sizedMet enc Tryz.prog Tryz.f3 (OpenSpec.ofChange Rows.versionParsesSpec) false w args)
      (Rows.versionParsesSpec.post enc Tryz.prog Tryz.f3 false true false false) := by
  refine returnsInHanded_of_change_and (C := Tryz.checked) (X := fun w _ => laidMetH Tryz.prog Rows.versionParsesRow.laid w) (fun _ _ _ hh h => h.of_heap hh) own3 started (by kernel_rfl) Tryz.func3
    (ChangeSpec.witness_shaped (enc := enc) (C := Tryz.checked) (os := os) (X := fun w _ => laidMetH Tryz.prog Rows.versionParsesRow.laid w) false (World.laidAll Tryz.prog os Rows.versionParsesRow.laid) #[.string .empty] 8 (World.laidAll_os _ _ _)
      (World.shaped_of_ZipB (by kernel_rfl) (by kernel_rfl)) (by kernel_rfl) (by kernel_rfl) (by kernel_rfl)
      (by rw [plain3]; exact laidMet_laidAll _ (by kernel_rfl) (by kernel_rfl))) ?_
  intro W base args ds gs before hval0 hW _ _ hX _
  have hval : ∀ (j : Nat) t v, Tryz.f3.params[j]? = some t → args[j]? = some v → Value.okWide Tryz.prog W .any base t v := hval0
  have hW' := hW
  obtain ⟨p, q, hA0, hV, rfl, _, _⟩ := hW
  have hA : DataW.TrodAll enc Tryz.prog W 0 (fun _ => true) true Tryz.f3.params.toList args.toList ds p := hA0
  rw [Tryz.params3] at hA hval
  obtain ⟨v0, d0, rfl, rfl, h0⟩ := trodAll_one hA
  obtain ⟨rfl, rfl⟩ := trodVars_none hV
  obtain ⟨x, rfl, rfl, rfl, wx⟩ := open_string Tryz.underlying9 (hval 0 9 v0 rfl rfl) h0
  simp only [List.append_nil] at hW'
  have hX' : laidMetH Tryz.prog Rows.versionParsesRow.laid W := hX
  rw [plain3] at hX'
  refine (law3 x W hX').mono fun e W' ⟨he, hb⟩ => ?_
  subst he
  exact ⟨_, rfl, _, _, _, [], [], [], hW', trodAll_mk1 (shut_bool Tryz.underlying4 _), trodAll_mk1 (shut_string Tryz.underlying9 wx), rfl, hb.frame _, fun h => by cases h⟩

theorem versionParses_said : Rows.VersionParsesSaid :=
  OpenClaim.holds_of_wide 3 Tryz.f3 rfl rfl rfl rfl rfl rfl rfl ⟨rfl, rfl, rfl, rfl, rfl⟩ rfl rfl rfl rfl rfl (by kernel_rfl) Tryz.func3 (by kernel_rfl)
    (of_decide_eq_true (by kernel_rfl)) (by unfold Func.isWrapper; first | (rw [if_pos (by decide +kernel)]; kernel_rfl) | (rw [if_neg (by decide +kernel)]; exact ⟨rfl, rfl⟩))
    (fun os started H enc _ => lifted3 os started H enc)
theorem versionParses_card : Rows.VersionParsesCardSaid :=
  Claim7.holds_tied_plain_at .later [] [.data, .data, .data, .sentinel, .sentinel, .sentinel, .sentinel, .sentinel, .sentinel, .sentinel, .sentinel, .sentinel, .sentinel, .sentinel, .sentinel, .sentinel] true
    (true, "ec9ba74af96c62a25d16d24d514e175b22fedee2a51ec42bf4b89245ab5e3701") true versionParses_said (fun _ h => by cases h) (by kernel_rfl) (fun _ h => by cases h) versionParses_row_tie rfl ⟨rfl, rfl⟩ (by kernel_rfl) rfl
    (fun f fn hf hfn => by
      obtain rfl : f = 3 := Option.some.inj ((show Tryz.prog.funcNamed "haversack/haversacklaw07.VersionParses" = some 3 by kernel_rfl).symm.trans hf) |>.symm
      obtain rfl : fn = Tryz.f3 := (Option.some.inj (Tryz.func3.symm.trans hfn)).symm
      exact ⟨by kernel_rfl, fun j t ht => by
        rw [Tryz.params3] at ht
        have hm : t ∈ [9] := by simpa using Array.mem_of_getElem? ht
        have hall : ([9].all fun u => !Tryz.prog.wantsStandIn u) = true := by kernel_rfl
        exact (show Tryz.prog.wantsStandIn t = false by simpa using List.all_eq_true.1 hall t hm)⟩)
    (by kernel_rfl)
#print axioms versionParses_card
end Go.Proofs.YtllilhgdnepipaaGreatDoor
