-- Merged by a small program of this claim's maker out of 5 texts.
import Derived.Test.YtllilhgdnepipaaGreatDoorQh

/-
  What the document's sameRows and Same compute, as the abstract machine runs them. For lists of fewer than a million; the callees' answers are handed in.
-/
namespace Go.Proofs.YtllilhgdnepipaaGreatDoor
open Go Go.Avm
set_option linter.unusedSimpArgs false

theorem IsP.at_ {u : AV} {xs : List (List Item)} (h : IsP u xs) {i : Nat} (hi : i < xs.length) : iAddr2 ⟨.slice 122, 1, 24, [.nilS]⟩ (i : Int) u = some (.el [.sl (xs[i].map encI)]) := by
  rcases h with rfl | ⟨rfl, rfl⟩
  · have hy : (xs.map encC)[(i : Int).toNat]? = some (encC xs[i]) := by simp [hi]
    exact iAddrL_of (sz := 1) (by omega) hy rfl
  · simp at hi
theorem encI_at {x : List Item} {k : Nat} (hk : k < x.length) : iAddrL 2 (k : Int) (x.map encI) = some (.el [.int .i64 x[k].1, .str x[k].2]) := by
  have hy : (x.map encI)[(k : Int).toNat]? = some (encI x[k]) := by simp [hk]
  exact iAddrL_of (sz := 2) (by omega) hy rfl
theorem str_beq (a b : ByteArray) : (a.toList == b.toList) = decide (a = b) := by
  rw [ByteArray.toList_eq, ByteArray.toList_eq]
  by_cases h : a = b
  · subst h; simp
  · have : ¬ a.data.toList = b.data.toList := fun e => h (ByteArray.ext (Array.ext' e))
    rw [beq_eq_false_iff_ne.2 this, decide_eq_false h]
theorem item_eq (x y : Item) : ((x.1 == y.1) && (x.2.toList == y.2.toList)) = decide (x = y) := by
  rw [str_beq]
  obtain ⟨a, b⟩ := x
  obtain ⟨c, d⟩ := y
  by_cases h1 : a = c <;> by_cases h2 : b = d <;> simp [h1, h2]
theorem eqOk122 : E.eqOk 122 = true := by rfl

theorem spec44 {u v : AV} (xs ys : List (List Item)) (hu : IsP u xs) (hv : IsP v ys) (hx : xs.length < 1000000) (hxx : ∀ x ∈ xs, x.length < 1000000) (call : Rec) :
    body E call iterL 44 [u, v] [] = some ([.bool (decide (xs = ys))], []) := by
  have k1 := hu.len
  have k2 := hv.len
  have k3 := hu.strip
  have k4 := hv.strip
  have k5 := hu.dat
  have k6 := hv.dat
  have k7 := hu.san
  have k8 := hv.san
  rw [body_eq fn44 (c := Tryz.f44.body.get!) rfl]
  by_cases hl : xs.length = ys.length
  · have hl' : (xs.length : Int) = ys.length := by omega
    simp (config := {decide := true}) only [go_sem, Tryz.f44, Option.get!, ↓reduceIte, decide_true, decide_false, List.all_cons, List.all_nil, Bool.and_true, headId, k1, k2, k3, k4, k5, k6, k7, k8, hl', ne_eq, not_true_eq_false]
    have hz : st [(0, u), (1, v), (13, AV.int .i64 ys.length), (14, AV.int .i64 0)] [] [] = st [(0, u), (1, v), (13, AV.int .i64 ys.length), (14, AV.int .i64 ((0 : Nat) : Int))] [] [] := rfl
    rw [hz, loopE_run (I := fun i : Nat => st [(0, u), (1, v), (13, AV.int .i64 ys.length), (14, AV.int .i64 (i : Int))] [] [])
      (R := fun i => if xs.drop i = ys.drop i then some (Ex.exit 0, st [(0, u), (1, v), (13, AV.int .i64 ys.length), (14, AV.int .i64 ys.length), (15, .bool false)] [] []) else some (Ex.ret, st [(4, .bool false)] [] []))
      (Inv := fun i => i ≤ ys.length) (μ := fun i => ys.length - i) ?step 0 (Nat.zero_le _)]
    case step =>
      intro i hi ih
      rw [loopE_eq]
      by_cases h : i < ys.length
      · have h' : (i : Int) < ys.length := by omega
        have hx' : i < xs.length := by omega
        have ha := hu.at_ hx'
        have hb := hv.at_ h
        have hlx := hxx xs[i] (List.getElem_mem hx')
        rw [List.drop_eq_getElem_cons h, List.drop_eq_getElem_cons hx']
        generalize xs[i] = x at ha hlx
        generalize ys[i] = y at hb
        by_cases h2 : x.length = y.length
        · have h2' : (x.length : Int) = y.length := by omega
          simp (config := {decide := true}) only [go_sem, ↓reduceIte, decide_true, decide_false, List.all_cons, List.all_nil, Bool.and_true, headId, k1, k2, k3, k4, k5, k6, k7, k8, h', ha, hb, h2', List.length_map, ne_eq, not_true_eq_false]
          have hz2 : ∀ l : List (Nat × AV), st (l ++ [(33, AV.int .i64 0)]) [] [] = st (l ++ [(33, AV.int .i64 ((0 : Nat) : Int))]) [] [] := fun _ => rfl
          have hz3 := hz2 [(0, u), (1, v), (5, AV.int .i64 (i : Int)), (13, AV.int .i64 ys.length), (14, AV.int .i64 (i : Int)), (32, AV.int .i64 y.length)]
          simp only [List.cons_append, List.nil_append] at hz3
          rw [hz3, loopE_run (I := fun k : Nat => st [(0, u), (1, v), (5, AV.int .i64 (i : Int)), (13, AV.int .i64 ys.length), (14, AV.int .i64 (i : Int)), (32, AV.int .i64 y.length), (33, AV.int .i64 (k : Int))] [] [])
            (R := fun k => if x.drop k = y.drop k then some (Ex.exit 2, st [(0, u), (1, v), (5, AV.int .i64 (i : Int)), (13, AV.int .i64 ys.length), (14, AV.int .i64 (i : Int)), (32, AV.int .i64 y.length), (33, AV.int .i64 y.length), (34, .bool false)] [] []) else some (Ex.ret, st [(4, .bool false)] [] []))
            (Inv := fun k => k ≤ y.length) (μ := fun k => y.length - k) ?step 0 (Nat.zero_le _)]
          case step =>
            intro k hk ih2
            rw [loopE_eq]
            by_cases hky : k < y.length
            · have hky' : (k : Int) < y.length := by omega
              have hkx : k < x.length := by omega
              have hca := encI_at hkx
              have hcb := encI_at hky
              rw [List.drop_eq_getElem_cons hky, List.drop_eq_getElem_cons hkx]
              generalize x[k] = p at hca
              generalize y[k] = q at hcb
              have hde := item_eq p q
              by_cases hpq : p = q
              · simp (config := {decide := true}) only [go_sem, ↓reduceIte, decide_true, decide_false, List.all_cons, List.all_nil, Bool.and_true, headId, k1, k2, k3, k4, k5, k6, k7, k8, h', ha, hb, hky', hca, hcb, segFrom, and_self, and_true, eqOk122, hde, decide_eq_true hpq, Bool.not_true, wrap_nat (show k < 9000000 by omega)]
                rw [ih2 (k + 1) (by omega) (by omega)]
                simp only [List.cons.injEq, hpq, true_and]
              · simp (config := {decide := true}) only [go_sem, ↓reduceIte, decide_true, decide_false, List.all_cons, List.all_nil, Bool.and_true, headId, k1, k2, k3, k4, k5, k6, k7, k8, h', ha, hb, hky', hca, hcb, segFrom, and_self, and_true, eqOk122, hde, decide_eq_false hpq, Bool.not_false]
                rw [if_neg (by simp [hpq])]
            · have hky' : ¬ (k : Int) < y.length := by omega
              have hke : k = y.length := by omega
              subst hke
              simp (config := {decide := true}) only [go_sem, ↓reduceIte, decide_true, decide_false, List.all_cons, List.all_nil, Bool.and_true, headId, k1, k2, k3, k4, k5, k6, k7, k8, hky']
              rw [if_pos (by rw [List.drop_length, List.drop_eq_nil_of_le (by omega)])]
          by_cases hxy : x = y
          · simp (config := {decide := true}) only [go_sem, ↓reduceIte, decide_true, decide_false, List.all_cons, List.all_nil, Bool.and_true, headId, k1, k2, k3, k4, k5, k6, k7, k8, List.drop_zero, hxy, wrap_nat (show i < 9000000 by omega)]
            rw [ih (i + 1) (by omega) (by omega)]
            simp only [List.cons.injEq, true_and]
          · simp (config := {decide := true}) only [go_sem, ↓reduceIte, decide_true, decide_false, List.all_cons, List.all_nil, Bool.and_true, headId, k1, k2, k3, k4, k5, k6, k7, k8, List.drop_zero, hxy]
            rw [if_neg (by simp [hxy])]
        · have h2' : ¬ (x.length : Int) = y.length := by omega
          simp (config := {decide := true}) only [go_sem, ↓reduceIte, decide_true, decide_false, List.all_cons, List.all_nil, Bool.and_true, headId, k1, k2, k3, k4, k5, k6, k7, k8, h', ha, hb, h2', List.length_map, ne_eq, not_false_eq_true]
          rw [if_neg (by simp only [List.cons.injEq]; exact fun h => h2 (by rw [h.1]))]
      · have h' : ¬ (i : Int) < ys.length := by omega
        have hie : i = ys.length := by omega
        subst hie
        simp (config := {decide := true}) only [go_sem, ↓reduceIte, decide_true, decide_false, List.all_cons, List.all_nil, Bool.and_true, headId, k1, k2, k3, k4, k5, k6, k7, k8, h']
        rw [if_pos (by rw [List.drop_length, List.drop_eq_nil_of_le (by omega)])]
    by_cases hxy : xs = ys
    · simp (config := {decide := true}) only [go_sem, ↓reduceIte, decide_true, decide_false, List.all_cons, List.all_nil, Bool.and_true, headId, k1, k2, k3, k4, k5, k6, k7, k8, List.drop_zero, hxy]
    · simp (config := {decide := true}) only [go_sem, ↓reduceIte, decide_true, decide_false, List.all_cons, List.all_nil, Bool.and_true, headId, k1, k2, k3, k4, k5, k6, k7, k8, List.drop_zero, hxy]
  · have hl' : ¬ (xs.length : Int) = ys.length := by omega
    have hne : ¬ xs = ys := fun h => hl (by rw [h])
    simp (config := {decide := true}) only [go_sem, Tryz.f44, Option.get!, ↓reduceIte, decide_true, decide_false, List.all_cons, List.all_nil, Bool.and_true, headId, k1, k2, k3, k4, k5, k6, k7, k8, hl', ne_eq, not_false_eq_true, hne]
end Go.Proofs.YtllilhgdnepipaaGreatDoor

/-
  What the document's Same and the program's rightComponent compute, as the abstract machine runs them. For lists and words of fewer than a million; the callees' answers are handed in.
-/
namespace Go.Proofs.YtllilhgdnepipaaGreatDoor
open Go Go.Avm
set_option linter.unusedSimpArgs false

theorem IsP.plain {u : AV} {xs : List (List Item)} (h : IsP u xs) : Plain u := by
  rcases h with rfl | ⟨rfl, rfl⟩
  · exact plain_sl _
  · exact plain_nilS

theorem spec10 {u v u' v' : AV} (e e' : Int) (p q p' q' : List (List Item)) (hu : IsP u p) (hv : IsP v q) (hu' : IsP u' p') (hv' : IsP v' q') (call : Rec)
    (h44 : call 44 [u, v] [] = some ([.bool (decide (p = q))], [])) (h44' : call 44 [u', v'] [] = some ([.bool (decide (p' = q'))], [])) :
    body E call iterL 10 [.agg [.int .i64 e, u, u'], .agg [.int .i64 e', v, v']] [] = some ([.bool (decide ((e, p, p') = (e', q, q')))], []) := by
  have hu := hu.plain
  have hv := hv.plain
  have hu' := hu'.plain
  have hv' := hv'.plain
  rw [body_eq fn10 (c := Tryz.f10.body.get!) rfl]
  by_cases h1 : e = e' <;> by_cases h2 : p = q <;> by_cases h3 : p' = q' <;>
  simp (config := {decide := true}) only [go_sem, Tryz.f10, Option.get!, ↓reduceIte, decide_true, decide_false, List.all_cons, List.all_nil, Bool.and_true, Bool.and_self, headId, h44, h44', h1, h2, h3, Prod.mk.injEq, and_self, and_true, true_and, false_and, and_false,
    hu.strip, hu.data, hu.one, hu.san, hu.shift, hu.kill, hu.cells, hv.strip, hv.data, hv.one, hv.san, hv.shift, hv.kill, hv.cells, hu'.strip, hu'.data, hu'.one, hu'.san, hu'.shift, hu'.kill, hu'.cells, hv'.strip, hv'.data, hv'.one, hv'.san, hv'.shift, hv'.kill, hv'.cells]

theorem spec52 (x : List Item) (hx : x.length < 1000000) (hw : ∀ y ∈ x, y.2.size < 1000000) (call : Rec) (h99 : ∀ c, call 99 [.int .u8 c] [] = some ([.bool (isLetI c)], [])) :
    body E call iterL 52 [.sl (x.map encI)] [] = some ([.bool (rightC x)], []) := by
  have hnil : (⟨#[]⟩ : ByteArray).toList = [] := toB_toList []
  have hbid : bid 122 4 = 12200004 := rfl
  have hlist : ∀ l : List UInt8, (toB l).data.toList = l := fun _ => rfl
  rw [body_eq fn52 (c := Tryz.f52.body.get!) rfl]
  simp (config := {decide := true}) only [go_sem, ↓reduceIte, decide_true, decide_false, List.all_cons, List.all_nil, Bool.and_true, headId, Tryz.f52, Option.get!, List.length_map]
  have hz : st [(0, .sl (x.map encI)), (6, .sl (x.map encI)), (7, AV.int .i64 x.length), (8, AV.int .i64 0)] [] [] = st [(0, .sl (x.map encI)), (6, .sl (x.map encI)), (7, AV.int .i64 x.length), (8, AV.int .i64 ((0 : Nat) : Int))] [] [] := rfl
  rw [hz, loopE_run (I := fun i : Nat => st [(0, .sl (x.map encI)), (6, .sl (x.map encI)), (7, .int .i64 x.length), (8, .int .i64 (i : Int))] [] [])
    (R := fun i => if rightI (decide (i % 2 = 0)) (x.drop i) = true then some (Ex.exit 0, st [(0, .sl (x.map encI)), (6, .sl (x.map encI)), (7, .int .i64 x.length), (8, .int .i64 x.length), (9, .bool false)] [] []) else some (Ex.ret, st [(2, .bool false)] [] []))
    (Inv := fun i => i ≤ x.length) (μ := fun i => x.length - i) ?step 0 (Nat.zero_le _)]
  case step =>
    intro i hi ih
    rw [loopE_eq]
    by_cases h : i < x.length
    · have h' : (i : Int) < x.length := by omega
      have hat := encI_at h
      have hwl := hw x[i] (List.getElem_mem h)
      rw [List.drop_eq_getElem_cons h]
      generalize x[i] = it at hat hwl
      obtain ⟨n, w⟩ := it
      have hwt : w = toB w.data.toList := rfl
      generalize w.data.toList = wl at hwt
      subst hwt
      simp only [toB_size] at hat hwl
      by_cases hev : i % 2 = 0
      · have hmod : (i : Int).tmod 2 = 0 := by rw [Int.tmod_eq_emod_of_nonneg (by omega)]; omega
        have hev1 : ¬ (i + 1) % 2 = 0 := by omega
        rw [decide_eq_true hev]
        simp only [rightI, hlist]
        by_cases g1 : wl = []
        · have g1' : (wl == []) = true := by rw [g1]; rfl
          by_cases g2 : n < 0
          · simp (config := {decide := true}) only [go_sem, ↓reduceIte, decide_true, decide_false, List.all_cons, List.all_nil, Bool.and_true, headId, hbid, h', hat, segFrom, and_self, and_true, bin_rem _ _ _ (show (2 : Int) ≠ 0 by decide), hmod, hnil, toB_toList, g1', g2, Bool.not_true]
            rw [if_neg (by simp; omega)]
          · by_cases g3 : 999999999999999 < n
            · simp (config := {decide := true}) only [go_sem, ↓reduceIte, decide_true, decide_false, List.all_cons, List.all_nil, Bool.and_true, headId, hbid, h', hat, segFrom, and_self, and_true, bin_rem _ _ _ (show (2 : Int) ≠ 0 by decide), hmod, hnil, toB_toList, g1', g2, g3, Bool.not_true]
              rw [if_neg (by simp; omega)]
            · simp (config := {decide := true}) only [go_sem, ↓reduceIte, decide_true, decide_false, List.all_cons, List.all_nil, Bool.and_true, headId, hbid, h', hat, segFrom, and_self, and_true, bin_rem _ _ _ (show (2 : Int) ≠ 0 by decide), hmod, hnil, toB_toList, g1', g2, g3, Bool.not_true, wrap_nat (show i < 9000000 by omega)]
              rw [ih (i + 1) (by omega) (by omega), decide_eq_false hev1, g1]
              have q2 : decide (0 ≤ n) = true := decide_eq_true (by omega)
              have q3 : decide (n ≤ 999999999999999) = true := decide_eq_true (by omega)
              simp only [q2, q3, decide_true, Bool.true_and]
        · have g1' : (wl == []) = false := by rw [beq_eq_false_iff_ne]; exact g1
          simp (config := {decide := true}) only [go_sem, ↓reduceIte, decide_true, decide_false, List.all_cons, List.all_nil, Bool.and_true, headId, hbid, h', hat, segFrom, and_self, and_true, bin_rem _ _ _ (show (2 : Int) ≠ 0 by decide), hmod, hnil, toB_toList, g1', Bool.not_false]
          rw [if_neg (by simp [g1])]
      · have hmod : (i : Int).tmod 2 = 1 := by rw [Int.tmod_eq_emod_of_nonneg (by omega)]; omega
        have hev1 : (i + 1) % 2 = 0 := by omega
        rw [decide_eq_false hev]
        simp only [rightI, hlist]
        by_cases g1 : wl = []
        · have g1' : (wl == []) = true := by rw [g1]; rfl
          simp (config := {decide := true}) only [go_sem, ↓reduceIte, decide_true, decide_false, List.all_cons, List.all_nil, Bool.and_true, headId, hbid, h', hat, segFrom, and_self, and_true, bin_rem _ _ _ (show (2 : Int) ≠ 0 by decide), hmod, hnil, toB_toList, g1']
          rw [if_neg (by simp [g1])]
        · have g1' : (wl == []) = false := by rw [beq_eq_false_iff_ne]; exact g1
          by_cases g2 : n = 0
          · simp (config := {decide := true}) only [go_sem, ↓reduceIte, decide_true, decide_false, List.all_cons, List.all_nil, Bool.and_true, headId, hbid, h', hat, segFrom, and_self, and_true, bin_rem _ _ _ (show (2 : Int) ≠ 0 by decide), hmod, hnil, toB_toList, g1', g2, ne_eq, not_true_eq_false, toB_size]
            have hz2 : ∀ l : List (Nat × AV), ∀ b, st (l ++ [(40, AV.int .i64 0)]) b [] = st (l ++ [(40, AV.int .i64 ((0 : Nat) : Int))]) b [] := fun _ _ => rfl
            have hz3 := hz2 [(0, .sl (x.map encI)), (4, .box 0 12200004 0), (6, .sl (x.map encI)), (7, .int .i64 x.length), (8, .int .i64 (i : Int)), (39, AV.int .i64 wl.length)] [(12200004, some [AV.int .i64 0, AV.str (toB wl)])]
            simp only [List.cons_append, List.nil_append] at hz3
            rw [hz3, loopE_run (I := fun j : Nat => st [(0, .sl (x.map encI)), (4, .box 0 12200004 0), (6, .sl (x.map encI)), (7, .int .i64 x.length), (8, .int .i64 (i : Int)), (39, AV.int .i64 wl.length), (40, AV.int .i64 (j : Int))] [(12200004, some [AV.int .i64 0, AV.str (toB wl)])] [])
              (R := fun j => if (wl.drop j).all isLet = true then some (Ex.exit 2, st [(0, .sl (x.map encI)), (4, .box 0 12200004 0), (6, .sl (x.map encI)), (7, .int .i64 x.length), (8, .int .i64 (i : Int)), (39, AV.int .i64 wl.length), (40, AV.int .i64 wl.length), (41, .bool false)] [(12200004, some [AV.int .i64 0, AV.str (toB wl)])] []) else some (Ex.ret, st [(2, .bool false)] [] []))
              (Inv := fun j => j ≤ wl.length) (μ := fun j => wl.length - j) ?step 0 (Nat.zero_le _)]
            case step =>
              intro j hj ih2
              rw [loopE_eq]
              by_cases hjl : j < wl.length
              · have hjl' : (j : Int) < wl.length := by omega
                have hsj := toB_idxN hjl
                rw [List.drop_eq_getElem_cons hjl]
                generalize wl[j] = c at hsj
                by_cases hc : isLet c = true
                · simp (config := {decide := true}) only [go_sem, ↓reduceIte, decide_true, decide_false, List.all_cons, List.all_nil, Bool.and_true, headId, hjl', hsj, Option.map_some, h99, isLetI_eq, hc, Bool.not_true, wrap_nat (show j < 9000000 by omega)]
                  rw [ih2 (j + 1) (by omega) (by omega)]
                  simp only [List.all_cons, hc, Bool.true_and]
                · simp (config := {decide := true}) only [go_sem, ↓reduceIte, decide_true, decide_false, List.all_cons, List.all_nil, Bool.and_true, headId, hjl', hsj, Option.map_some, h99, isLetI_eq, hc, Bool.not_false]
                  rw [if_neg (by simp [hc])]
              · have hjl' : ¬ (j : Int) < wl.length := by omega
                have hje : j = wl.length := by omega
                subst hje
                simp (config := {decide := true}) only [go_sem, ↓reduceIte, decide_true, decide_false, List.all_cons, List.all_nil, Bool.and_true, headId, hjl']
                rw [if_pos (by rw [List.drop_length]; rfl)]
            rw [List.drop_zero]
            by_cases hall : wl.all isLet = true
            · simp (config := {decide := true}) only [go_sem, ↓reduceIte, decide_true, decide_false, List.all_cons, List.all_nil, Bool.and_true, headId, hall, wrap_nat (show i < 9000000 by omega)]
              rw [ih (i + 1) (by omega) (by omega), decide_eq_true hev1]
              simp only [decide_eq_false g1, Bool.not_false, Bool.true_and]
            · simp (config := {decide := true}) only [go_sem, ↓reduceIte, decide_true, decide_false, List.all_cons, List.all_nil, Bool.and_true, headId, hall]
              rw [if_neg (by simp [hall])]
          · simp (config := {decide := true}) only [go_sem, ↓reduceIte, decide_true, decide_false, List.all_cons, List.all_nil, Bool.and_true, headId, hbid, h', hat, segFrom, and_self, and_true, bin_rem _ _ _ (show (2 : Int) ≠ 0 by decide), hmod, hnil, toB_toList, g1', g2, ne_eq, not_false_eq_true]
            rw [if_neg (by simp [g2])]
    · have h' : ¬ (i : Int) < x.length := by omega
      have hie : i = x.length := by omega
      subst hie
      simp (config := {decide := true}) only [go_sem, ↓reduceIte, decide_true, decide_false, List.all_cons, List.all_nil, Bool.and_true, headId, h']
      rw [if_pos (by rw [List.drop_length]; cases decide (x.length % 2 = 0) <;> rfl)]
  simp only [List.drop_zero, decide_true]
  by_cases hr : rightI true x = true
  · simp (config := {decide := true}) only [go_sem, ↓reduceIte, decide_true, decide_false, List.all_cons, List.all_nil, Bool.and_true, headId, hr, List.length_map]
    simp only [rightC, hr, Bool.and_true]
    cases x <;> simp
  · simp (config := {decide := true}) only [go_sem, ↓reduceIte, decide_true, decide_false, List.all_cons, List.all_nil, Bool.and_true, headId, hr]
    simp only [rightC, hr, Bool.and_false]
end Go.Proofs.YtllilhgdnepipaaGreatDoor

/-
  What slices.Concat of two rows and version.Right compute, as the abstract machine runs them. For lists of fewer than a million; the callees' answers are handed in.
-/
namespace Go.Proofs.YtllilhgdnepipaaGreatDoor
open Go Go.Avm
set_option linter.unusedSimpArgs false

theorem all_encC (ys : List (List Item)) : (ys.map encC).all (AV.elemOk 1) = true := by
  rw [List.all_map, List.all_eq_true]
  intro y _
  rfl
theorem app_rows (s : S) (d tk : Nat) (xs ys : List (List Item)) (hx : xs.length < 1000000) (hy : ys.length < 1000000) : app3 s d 87 ⟨.slice 122, 1, 24, [.nilS]⟩ (ys.map encC) (.own tk 87 (xs.map encC)) =
    some ((s.kill tk).put (some d) (.own tk 87 ((xs ++ ys).map encC))) := by
  rw [app3_own]
  · rw [List.map_append]
  · refine ⟨by decide, ?_, ?_, all_encC ys⟩ <;> simp <;> omega

theorem spec51 {v : AV} (xs ys : List (List Item)) (hv : IsP v ys) (hx : xs.length < 1000000) (hy : ys.length < 1000000) (call : Rec) (t : Nat) (ht : t % 2 = 0)
    (h98 : ∀ n : Nat, n < 2000000 → call 98 [.nilS, .int .i64 (n : Int)] [] = some ([.own t 87 []], [])) :
    body E call iterL 51 [.sl [.sl (xs.map encC), v]] [] = some ([.own 48 87 ((xs ++ ys).map encC)], []) := by
  have ht2 : (t % 2 = 1) = False := by simp; omega
  have hw1 : IntKind.i64.wrap (0 + (xs.length : Int)) = xs.length := by rw [Int.zero_add]; exact wrap_small (by omega) (by omega)
  have hw2 : IntKind.i64.wrap ((xs.length : Int) + ys.length) = ((xs.length + ys.length : Nat) : Int) := by rw [wrap_small (by omega) (by omega)]; rfl
  have hn1 : ¬ (xs.length : Int) < 0 := by omega
  have hn2 : ¬ ((xs.length + ys.length : Nat) : Int) < 0 := by omega
  have ha0 : ∀ v : AV, iAddrL 1 0 [.sl (xs.map encC), v] = some (.el [.sl (xs.map encC)]) := fun v => iAddrL_of (n := 0) (y := .sl (xs.map encC)) (sz := 1) (by omega) rfl rfl
  have ha1 : iAddrL 1 1 [.sl (xs.map encC), .sl (ys.map encC)] = some (.el [.sl (ys.map encC)]) := iAddrL_of (n := 1) (y := .sl (ys.map encC)) (sz := 1) (by omega) rfl rfl
  have ha2 : iAddrL 1 1 [.sl (xs.map encC), .nilS] = some (.el [.nilS]) := iAddrL_of (n := 1) (y := .nilS) (sz := 1) (by omega) rfl rfl
  have hs98 := h98 (xs.length + ys.length) (by omega)
  have hz : AV.own 48 87 [] = .own 48 87 (([] : List (List Item)).map encC) := rfl
  have happ1 := fun s d => app_rows s d 48 [] xs (by simp) hx
  have happ2 := fun s d => app_rows s d 48 xs ys hx hy
  simp only [List.map_nil, List.nil_append] at happ1
  have w01 : IntKind.i64.wrap (0 + 1) = 1 := by decide
  have w12 : IntKind.i64.wrap (1 + 1) = 2 := by decide
  have l2 : ((0 + 1 + 1 : Nat) : Int) = 2 := rfl
  rw [body_eq fn51 (c := Tryz.f51.body.get!) rfl]
  rcases hv with rfl | ⟨rfl, rfl⟩
  · simp (config := {decide := true}) only [go_sem, Tryz.f51, Option.get!, ↓reduceIte, decide_true, decide_false, List.all_cons, List.all_nil, Bool.and_true, headId, loopE_eq, ha0, ha1, hw1, hw2, hn1, hn2, List.length_map, hs98, ht2, happ1, happ2, w01, w12, l2, Nat.reduceMul]
  · have hw3 : IntKind.i64.wrap ((xs.length : Int) + 0) = xs.length := by rw [Int.add_zero]; exact wrap_small (by omega) (by omega)
    have hs98 := h98 xs.length (by omega)
    have happ3 := fun s d => app_rows s d 48 xs [] hx (by simp)
    simp only [List.map_nil, List.append_nil] at happ3
    simp (config := {decide := true}) only [go_sem, Tryz.f51, Option.get!, ↓reduceIte, decide_true, decide_false, List.all_cons, List.all_nil, Bool.and_true, headId, loopE_eq, ha0, ha2, hw1, hw3, hn1, List.length_map, hs98, ht2, happ1, happ3, w01, w12, l2, Nat.reduceMul]

theorem encC_at {x : List (List Item)} {k : Nat} (hk : k < x.length) : iAddrL 1 (k : Int) (x.map encC) = some (.el [.sl (x[k].map encI)]) := by
  have hy : (x.map encC)[(k : Int).toNat]? = some (encC x[k]) := by simp [hk]
  exact iAddrL_of (sz := 1) (by omega) hy rfl

theorem spec13 {v : AV} (e : Int) (ps qs : List (List Item)) (hv : IsP v qs) (hx : ps.length < 1000000) (hy : qs.length < 1000000) (call : Rec)
    (h51 : call 51 [.sl [.sl (ps.map encC), v]] [] = some ([.own 48 87 ((ps ++ qs).map encC)], []))
    (h52 : ∀ c ∈ ps ++ qs, call 52 [.sl (c.map encI)] [] = some ([.bool (rightC c)], [])) :
    body E call iterL 13 [.agg [.int .i64 e, .sl (ps.map encC), v]] [] = some ([.bool (rightV (e, ps, qs))], []) := by
  have hp := hv.plain
  have hbid : bid 25 1 = 2500001 := rfl
  rw [body_eq fn13 (c := Tryz.f13.body.get!) rfl]
  by_cases g0 : e < 0
  · simp (config := {decide := true}) only [go_sem, Tryz.f13, Option.get!, ↓reduceIte, decide_true, decide_false, List.all_cons, List.all_nil, Bool.and_true, Bool.and_self, headId, hbid, hp.strip, hp.data, hp.one, hp.san, hp.shift, hp.kill, hp.cells, g0]
    have : decide (0 ≤ e) = false := decide_eq_false (by omega)
    simp only [rightV, this, Bool.false_and]
  by_cases g1 : 999999999999999 < e
  · simp (config := {decide := true}) only [go_sem, Tryz.f13, Option.get!, ↓reduceIte, decide_true, decide_false, List.all_cons, List.all_nil, Bool.and_true, Bool.and_self, headId, hbid, hp.strip, hp.data, hp.one, hp.san, hp.shift, hp.kill, hp.cells, g0, g1]
    have : decide (e ≤ 999999999999999) = false := decide_eq_false (by omega)
    simp only [rightV, this, Bool.false_and, Bool.and_false]
  by_cases g2 : ps = []
  · have g2' : (ps.length : Int) = 0 := by rw [g2]; rfl
    simp (config := {decide := true}) only [go_sem, Tryz.f13, Option.get!, ↓reduceIte, decide_true, decide_false, List.all_cons, List.all_nil, Bool.and_true, Bool.and_self, headId, hbid, hp.strip, hp.data, hp.one, hp.san, hp.shift, hp.kill, hp.cells, g0, g1, List.length_map, g2']
    simp [rightV, g2]
  have g2' : ¬ (ps.length : Int) = 0 := by
    intro h; exact g2 (List.eq_nil_of_length_eq_zero (by omega))
  simp (config := {decide := true}) only [go_sem, Tryz.f13, Option.get!, ↓reduceIte, decide_true, decide_false, List.all_cons, List.all_nil, Bool.and_true, Bool.and_self, headId, hbid, hp.strip, hp.data, hp.one, hp.san, hp.shift, hp.kill, hp.cells, g0, g1, List.length_map, g2', h51, Nat.reduceMul]
  have hrl : (ps ++ qs).length < 2000000 := by rw [List.length_append]; omega
  have hrv : rightV (e, ps, qs) = (ps ++ qs).all rightC := by
    have q1 : decide (0 ≤ e) = true := decide_eq_true (by omega)
    have q2 : decide (e ≤ 999999999999999) = true := decide_eq_true (by omega)
    have q3 : ps.isEmpty = false := by rw [List.isEmpty_eq_false_iff]; exact g2
    simp only [rightV, q1, q2, q3, Bool.not_false, Bool.true_and, List.all_append]
  rw [hrv]
  generalize ps ++ qs = rows at h52 hrl
  have hz : st [(24, AV.own 48 87 (rows.map encC)), (25, AV.int .i64 rows.length), (26, AV.int .i64 0)] [] [] = st [(24, AV.own 48 87 (rows.map encC)), (25, AV.int .i64 rows.length), (26, AV.int .i64 ((0 : Nat) : Int))] [] [] := rfl
  rw [hz, loopE_run (I := fun i : Nat => st [(24, AV.own 48 87 (rows.map encC)), (25, AV.int .i64 rows.length), (26, AV.int .i64 (i : Int))] [] [])
    (R := fun i => if (rows.drop i).all rightC = true then some (Ex.exit 0, st [(24, AV.own 48 87 (rows.map encC)), (25, AV.int .i64 rows.length), (26, AV.int .i64 rows.length), (27, .bool false)] [] []) else some (Ex.ret, st [(2, .bool false)] [] []))
    (Inv := fun i => i ≤ rows.length) (μ := fun i => rows.length - i) ?step 0 (Nat.zero_le _)]
  case step =>
    intro i hi ih
    rw [loopE_eq]
    by_cases h : i < rows.length
    · have h' : (i : Int) < rows.length := by omega
      have hat := encC_at h
      have hc := h52 rows[i] (List.getElem_mem h)
      rw [List.drop_eq_getElem_cons h]
      generalize rows[i] = c at hat hc
      by_cases hr : rightC c = true
      · rw [hr] at hc
        simp (config := {decide := true}) only [go_sem, ↓reduceIte, decide_true, decide_false, List.all_cons, List.all_nil, Bool.and_true, headId, h', hat, hc, Bool.not_true, wrap_nat (show i < 9000000 by omega)]
        rw [ih (i + 1) (by omega) (by omega)]
        simp only [List.all_cons, hr, Bool.true_and]
      · have hr' : rightC c = false := by simpa using hr
        rw [hr'] at hc
        simp (config := {decide := true}) only [go_sem, ↓reduceIte, decide_true, decide_false, List.all_cons, List.all_nil, Bool.and_true, headId, h', hat, hc, Bool.not_false, hr', Bool.false_and]
    · have h' : ¬ (i : Int) < rows.length := by omega
      have hie : i = rows.length := by omega
      subst hie
      simp (config := {decide := true}) only [go_sem, ↓reduceIte, decide_true, decide_false, List.all_cons, List.all_nil, Bool.and_true, headId, h']
      rw [if_pos (by rw [List.drop_length]; rfl)]
  rw [List.drop_zero]
  by_cases hr : rows.all rightC = true
  · simp (config := {decide := true}) only [go_sem, ↓reduceIte, decide_true, decide_false, List.all_cons, List.all_nil, Bool.and_true, headId, hr]
  · simp (config := {decide := true}) only [go_sem, ↓reduceIte, decide_true, decide_false, List.all_cons, List.all_nil, Bool.and_true, headId, hr]
end Go.Proofs.YtllilhgdnepipaaGreatDoor

/-
  What the document's texts of numbers and of components compute, as the abstract machine runs them. For numbers from nought on; the callees' answers are handed in.
-/
namespace Go.Proofs.YtllilhgdnepipaaGreatDoor
open Go Go.Avm
set_option linter.unusedSimpArgs false

/-- A number's digits ahead of others. -/
def numS (n : Nat) (s : List UInt8) : List UInt8 := if n = 0 ∧ s ≠ [] then s else numT n ++ s
theorem numS_step (n : Nat) (s : List UInt8) (h : 0 < n ∨ s = []) : numS n s = numS (n / 10) (UInt8.ofNat (48 + n % 10) :: s) := by
  have e : numS n s = numT n ++ s := by unfold numS; rw [if_neg (by intro h2; rcases h with h | h; omega; exact h2.2 h)]
  rw [e]
  unfold numS
  by_cases h1 : n < 10
  · rw [numT_small h1, if_pos ⟨by omega, by simp⟩]
    have : n % 10 = n := by omega
    rw [this]
    rfl
  · rw [numT_big h1, if_neg (by omega)]
    simp
theorem conv1 (k : Nat) (hk : k < 10) (b : Nat) (z : List AV) : convL [AV.int .u8 ((48 + k : Nat) : Int)] (some ⟨.int .u8, 1, b, z⟩) = some (.str (toB [UInt8.ofNat (48 + k)])) := by
  have h : [AV.int .u8 ((48 + k : Nat) : Int)] = encB [UInt8.ofNat (48 + k)] := by simp only [encB, List.map_cons, List.map_nil, digit_nat hk]
  rw [h, convL_enc]
  rfl

theorem spec53 (n0 : Nat) (hn : n0 < 1000000000000000000) (call : Rec) : body E call iterL 53 [.int .i64 (n0 : Int)] [] = some ([.str (toB (numT n0))], []) := by
  have hnil : (⟨#[]⟩ : ByteArray).toList = [] := toB_toList []
  have hneg : ¬ (n0 : Int) < 0 := by omega
  rw [body_eq fn53 (c := Tryz.f53.body.get!) rfl]
  simp (config := {decide := true}) only [go_sem, ↓reduceIte, decide_true, decide_false, List.all_cons, List.all_nil, Bool.and_true, headId, Tryz.f53, Option.get!, hneg]
  have hz : AV.str ⟨#[]⟩ = .str (toB []) := rfl
  rw [hz, loopE_run (I := fun p : Nat × List UInt8 => st [(0, .int .i64 (p.1 : Int)), (4, .str (toB p.2))] [] [])
    (R := fun p => some (Ex.exit 2, st [(0, .int .i64 0), (4, .str (toB (numS p.1 p.2))), (26, .bool false)] [] []))
    (Inv := fun p => p.2.length + p.1 ≤ n0 + 1 ∧ p.1 ≤ n0) (μ := fun p => 2 * p.1 + (if p.2 = [] then 1 else 0)) ?step (n0, []) (by simp)]
  case step =>
    rintro ⟨n, s⟩ ⟨h1, h2⟩ ih
    simp only at h1 h2 ih ⊢
    rw [loopE_eq]
    by_cases hgo : 0 < n ∨ s = []
    · have hk : n % 10 < 10 := Nat.mod_lt _ (by omega)
      have hmod : (n : Int).tmod 10 = ((n % 10 : Nat) : Int) := by rw [Int.tmod_eq_emod_of_nonneg (by omega)]; rfl
      have hdiv : (n : Int).tdiv 10 = ((n / 10 : Nat) : Int) := by rw [Int.tdiv_eq_ediv_of_nonneg (by omega)]; rfl
      have hw : IntKind.i64.wrap ((n / 10 : Nat) : Int) = ((n / 10 : Nat) : Int) := wrap_small (by omega) (by omega)
      have hw2 : IntKind.i64.wrap (48 + ((n % 10 : Nat) : Int)) = ((48 + n % 10 : Nat) : Int) := by rw [wrap_small (by omega) (by omega)]; rfl
      have hw3 : IntKind.u8.wrap ((48 + n % 10 : Nat) : Int) = ((48 + n % 10 : Nat) : Int) := wrap_u8 (by omega) (by omega)
      have hadd := fun (x y : Operand) (t : TypeId) => bin_sadd (E := E) (t := t) (x := x) (y := y) (toB [UInt8.ofNat (48 + n % 10)]) (toB s) (by rw [toB_size, toB_size]; simp; omega)
      simp only [toB_append, List.singleton_append] at hadd
      have hgo' : (decide (0 < (n : Int)) = true ∨ (s == []) = true) := by
        rcases hgo with h | h
        · exact .inl (decide_eq_true (by omega))
        · right; rw [h]; rfl
      have := ih (n / 10, UInt8.ofNat (48 + n % 10) :: s) (by
        constructor
        · rcases hgo with h | h
          · simp only [List.length_cons]; omega
          · subst h; simp only [List.length_cons, List.length_nil]; omega
        · simp only; omega) (by
        rcases hgo with h | h
        · simp only [reduceCtorEq, if_false]; omega
        · subst h; simp only [reduceCtorEq, if_false, if_true]; omega)
      simp only at this
      rw [numS_step n s hgo]
      by_cases hn0 : 0 < (n : Int)
      · simp (config := {decide := true}) only [go_sem, ↓reduceIte, decide_true, decide_false, List.all_cons, List.all_nil, Bool.and_true, headId, hn0, hnil, toB_toList, bin_rem _ _ _ (show (10 : Int) ≠ 0 by decide), bin_quo _ _ _ (show (10 : Int) ≠ 0 by decide), hmod, hdiv, hw, hw2, hw3, conv1 _ hk, hadd, this]
      · have hs0 : s = [] := by rcases hgo with h | h; omega; exact h
        subst hs0
        have hsb : (([] : List UInt8) == []) = true := rfl
        simp (config := {decide := true}) only [go_sem, ↓reduceIte, decide_true, decide_false, List.all_cons, List.all_nil, Bool.and_true, headId, hn0, hnil, toB_toList, hsb, bin_rem _ _ _ (show (10 : Int) ≠ 0 by decide), bin_quo _ _ _ (show (10 : Int) ≠ 0 by decide), hmod, hdiv, hw, hw2, hw3, conv1 _ hk, hadd, this]
    · have hn0 : n = 0 := by omega
      have hs0 : s ≠ [] := fun h => hgo (.inr h)
      have hsb : (s == []) = false := by rw [beq_eq_false_iff_ne]; exact hs0
      subst hn0
      have hng : ¬ (0 : Int) < ((0 : Nat) : Int) := by omega
      simp (config := {decide := true}) only [go_sem, ↓reduceIte, decide_true, decide_false, List.all_cons, List.all_nil, Bool.and_true, headId, hng, hnil, toB_toList, hsb]
      have e : numS 0 s = s := by unfold numS; rw [if_pos ⟨rfl, hs0⟩]
      rw [e]
      rfl
  have e : numS n0 [] = numT n0 := by unfold numS; rw [if_neg (by simp)]; simp
  simp (config := {decide := true}) only [go_sem, ↓reduceIte, decide_true, decide_false, List.all_cons, List.all_nil, Bool.and_true, headId, e]
end Go.Proofs.YtllilhgdnepipaaGreatDoor

/-
  What the document's text of components computes, as the abstract machine runs it. For texts of fewer than a million bytes; the callees' answers are handed in.
-/
namespace Go.Proofs.YtllilhgdnepipaaGreatDoor
open Go Go.Avm
set_option linter.unusedSimpArgs false

theorem spec54 (xs : List (List Item)) (hx : xs.length < 1000000) (hxx : ∀ c ∈ xs, c.length < 1000000 ∧ ∀ y ∈ c, 0 ≤ y.1 ∧ y.1 < 1000000000000000000) (ht : (textP true xs).length < 1000000) (call : Rec)
    (h53 : ∀ n : Nat, n < 1000000000000000000 → call 53 [.int .i64 (n : Int)] [] = some ([.str (toB (numT n))], [])) :
    body E call iterL 54 [.sl (xs.map encC)] [] = some ([.str (toB (textP true xs))], []) := by
  have hnil : (⟨#[]⟩ : ByteArray).toList = [] := toB_toList []
  have hbid : bid 122 7 = 12200007 := rfl
  have hlist : ∀ l : List UInt8, (toB l).data.toList = l := fun _ => rfl
  rw [body_eq fn54 (c := Tryz.f54.body.get!) rfl]
  simp (config := {decide := true}) only [go_sem, ↓reduceIte, decide_true, decide_false, List.all_cons, List.all_nil, Bool.and_true, headId, Tryz.f54, Option.get!, List.length_map]
  have hz : st [(3, AV.str ⟨#[]⟩), (8, .sl (xs.map encC)), (9, AV.int .i64 xs.length), (10, AV.int .i64 0)] [] [] = st [(3, AV.str (toB [])), (8, .sl (xs.map encC)), (9, AV.int .i64 xs.length), (10, AV.int .i64 ((0 : Nat) : Int))] [] [] := rfl
  rw [hz, loopE_run (I := fun p : Nat × List UInt8 => st [(3, AV.str (toB p.2)), (8, .sl (xs.map encC)), (9, AV.int .i64 xs.length), (10, AV.int .i64 (p.1 : Int))] [] [])
    (R := fun p => some (Ex.exit 0, st [(3, AV.str (toB (p.2 ++ textP (decide (p.1 = 0)) (xs.drop p.1)))), (8, .sl (xs.map encC)), (9, AV.int .i64 xs.length), (10, AV.int .i64 xs.length), (11, .bool false)] [] []))
    (Inv := fun p => p.1 ≤ xs.length ∧ p.2.length + (textP (decide (p.1 = 0)) (xs.drop p.1)).length < 1000000) (μ := fun p => xs.length - p.1) ?step (0, []) (by simpa using ht)]
  case step =>
    rintro ⟨i, s⟩ ⟨hi, hs⟩ ih
    simp only at hi hs ih ⊢
    rw [loopE_eq]
    by_cases h : i < xs.length
    · have h' : (i : Int) < xs.length := by omega
      have hat := encC_at h
      obtain ⟨hcl, hcy⟩ := hxx xs[i] (List.getElem_mem h)
      rw [List.drop_eq_getElem_cons h] at hs ⊢
      generalize xs[i] = c at hat hs hcl hcy
      have hi1 : decide (i + 1 = 0) = false := decide_eq_false (by omega)
      by_cases hi0 : 0 < (i : Int)
      · have hd : decide (i = 0) = false := decide_eq_false (by omega)
        rw [hd] at hs ⊢
        have hadd : ∀ (x y : Operand) (t : TypeId), binO E .add t x y (some (.str (toB s))) (some (.str ⟨#[46]⟩)) = some (.str (toB (s ++ [46]))) := fun x y t => by
          rw [bin_sadd _ _ (by have h1 : (⟨#[46]⟩ : ByteArray).size = 1 := rfl; rw [toB_size, h1]; omega)]
          exact congrArg (fun b => some (AV.str b)) (toB_append s [46])
        simp (config := {decide := true}) only [go_sem, ↓reduceIte, decide_true, decide_false, List.all_cons, List.all_nil, Bool.and_true, headId, h', hat, hi0, List.length_map, hadd]
        have hT : s ++ textP false (c :: xs.drop (i + 1)) = (s ++ [46]) ++ textC c ++ textP false (xs.drop (i + 1)) := by simp only [textP, Bool.false_eq_true, if_false, List.append_assoc]
        have hs1 : (s ++ [46]).length + (textC c).length + (textP false (xs.drop (i + 1))).length < 1000000 := by
          have := congrArg List.length hT
          simp only [List.length_append] at this ⊢
          omega
        generalize s ++ [46] = s1 at hT hs1
        have hz2 : ∀ l : List (Nat × AV), st (l ++ [(21, AV.int .i64 0)]) [] [] = st (l ++ [(21, AV.int .i64 ((0 : Nat) : Int))]) [] [] := fun _ => rfl
        have hz3 := hz2 [(3, AV.str (toB s1)), (5, .sl (c.map encI)), (8, .sl (xs.map encC)), (9, AV.int .i64 xs.length), (10, AV.int .i64 (i : Int)), (19, .sl (c.map encI)), (20, .int .i64 c.length)]
        simp only [List.cons_append, List.nil_append] at hz3
        rw [hz3, loopE_run (I := fun p : Nat × List UInt8 => st [(3, AV.str (toB p.2)), (5, .sl (c.map encI)), (8, .sl (xs.map encC)), (9, AV.int .i64 xs.length), (10, AV.int .i64 (i : Int)), (19, .sl (c.map encI)), (20, .int .i64 c.length), (21, AV.int .i64 (p.1 : Int))] [] [])
          (R := fun p => some (Ex.exit 2, st [(3, AV.str (toB (p.2 ++ textIs (decide (c.length = 1)) (decide (p.1 = 0)) (c.drop p.1)))), (5, .sl (c.map encI)), (8, .sl (xs.map encC)), (9, AV.int .i64 xs.length), (10, AV.int .i64 (i : Int)), (19, .sl (c.map encI)), (20, .int .i64 c.length), (21, AV.int .i64 c.length), (22, .bool false)] [] []))
          (Inv := fun p => p.1 ≤ c.length ∧ p.2.length + (textIs (decide (c.length = 1)) (decide (p.1 = 0)) (c.drop p.1)).length < 1000000) (μ := fun p => c.length - p.1) ?step (0, s1) ⟨Nat.zero_le _, by rw [textC] at hs1; simp only [decide_true, List.drop_zero]; omega⟩]
        case step =>
          rintro ⟨k, s2⟩ ⟨hk, hs2⟩ ih2
          simp only at hk hs2 ih2 ⊢
          rw [loopE_eq]
          by_cases hkl : k < c.length
          · have hkl' : (k : Int) < c.length := by omega
            have hca := encI_at hkl
            obtain ⟨hy0, hy1⟩ := hcy c[k] (List.getElem_mem hkl)
            rw [List.drop_eq_getElem_cons hkl] at hs2 ⊢
            generalize c[k] = it at hca hs2 hy0 hy1
            obtain ⟨n, w⟩ := it
            have hwt : w = toB w.data.toList := rfl
            generalize w.data.toList = wl at hwt
            subst hwt
            simp only at hca hy0 hy1
            have hk1 : decide (k + 1 = 0) = false := decide_eq_false (by omega)
            simp only [textIs] at hs2 ⊢
            have hih := fun t ht => ih2 (k + 1, t) ⟨by simp only; omega, ht⟩ (by simp only; omega)
            simp only [hk1] at hih
            have hn53 : n = ((n.toNat : Nat) : Int) := by omega
            have hs53 := h53 n.toNat (by omega)
            rw [← hn53] at hs53
            by_cases hwl : wl = []
            · subst hwl
              have hwb : (([] : List UInt8) == []) = true := rfl
              have hadd1 := fun (h : (s2 ++ numT n.toNat).length < 2000000) (x y : Operand) (t : TypeId) => bin_sadd (E := E) (t := t) (x := x) (y := y) (toB s2) (toB (numT n.toNat)) (by rw [toB_size, toB_size]; simp at h; omega)
              have hadd2 := fun (h : (s2 ++ numT n.toNat).length < 2000000) (x y : Operand) (t : TypeId) => bin_sadd (E := E) (t := t) (x := x) (y := y) (toB (s2 ++ numT n.toNat)) (toB []) (by rw [toB_size, toB_size]; simp at h ⊢; omega)
              simp only [toB_append, List.append_nil] at hadd1 hadd2
              have hprint : ∀ (_ : textI (decide (c.length = 1)) (decide (k = 0)) (n, toB []) = numT n.toNat), (s2 ++ numT n.toNat).length < 2000000 ∧ s2 ++ (textI (decide (c.length = 1)) (decide (k = 0)) (n, toB []) ++ textIs (decide (c.length = 1)) false (c.drop (k + 1))) = (s2 ++ numT n.toNat) ++ textIs (decide (c.length = 1)) false (c.drop (k + 1)) ∧ (s2 ++ numT n.toNat).length + (textIs (decide (c.length = 1)) false (c.drop (k + 1))).length < 1000000 := by
                intro hI
                rw [hI] at hs2 ⊢
                simp only [List.length_append] at hs2 ⊢
                exact ⟨by omega, by rw [List.append_assoc], by omega⟩
              have hempty : (toB [] : ByteArray).data.toList = [] := rfl
              by_cases g1 : 0 < (k : Int)
              · obtain ⟨q1, q2, q3⟩ := hprint (by simp only [textI, hempty, if_true]; rw [if_pos (by simp; omega)])
                rw [q2]
                simp (config := {decide := true}) only [go_sem, ↓reduceIte, decide_true, decide_false, List.all_cons, List.all_nil, Bool.and_true, headId, hbid, hkl', hca, segFrom, and_self, and_true, hnil, toB_toList, hwb, g1, List.length_map, hadd1 q1, hadd2 q1, hs53, wrap_nat (show k < 9000000 by omega)]
                rw [hih _ q3]
              · by_cases g2 : n = 0
                · by_cases g3 : (c.length : Int) = 1
                  · obtain ⟨q1, q2, q3⟩ := hprint (by simp only [textI, hempty, if_true]; rw [if_pos (by simp; omega)])
                    rw [q2]
                    simp (config := {decide := true}) only [go_sem, ↓reduceIte, decide_true, decide_false, List.all_cons, List.all_nil, Bool.and_true, headId, hbid, hkl', hca, segFrom, and_self, and_true, hnil, toB_toList, hwb, g1, decide_eq_false (show ¬ n ≠ 0 by omega), decide_eq_true g3, List.length_map, hadd1 q1, hadd2 q1, hs53, wrap_nat (show k < 9000000 by omega)]
                    rw [hih _ q3]
                  · have hI : textI (decide (c.length = 1)) (decide (k = 0)) (n, toB []) = [] := by
                      simp only [textI, hempty, if_true]; rw [if_neg (by simp; omega)]
                    rw [hI] at hs2 ⊢
                    have hadd0 := fun (x y : Operand) (t : TypeId) => bin_sadd (E := E) (t := t) (x := x) (y := y) (toB s2) (toB []) (by rw [toB_size, toB_size]; simp at hs2 ⊢; omega)
                    simp only [toB_append, List.append_nil] at hadd0
                    simp only [List.nil_append] at hs2 ⊢
                    simp (config := {decide := true}) only [go_sem, ↓reduceIte, decide_true, decide_false, List.all_cons, List.all_nil, Bool.and_true, headId, hbid, hkl', hca, segFrom, and_self, and_true, hnil, toB_toList, hwb, g1, decide_eq_false (show ¬ n ≠ 0 by omega), decide_eq_false g3, List.length_map, hadd0, wrap_nat (show k < 9000000 by omega)]
                    rw [hih _ hs2]
                · obtain ⟨q1, q2, q3⟩ := hprint (by simp only [textI, hempty, if_true]; rw [if_pos (by simp [g2])])
                  rw [q2]
                  simp (config := {decide := true}) only [go_sem, ↓reduceIte, decide_true, decide_false, List.all_cons, List.all_nil, Bool.and_true, headId, hbid, hkl', hca, segFrom, and_self, and_true, hnil, toB_toList, hwb, g1, g2, ne_eq, not_false_eq_true, List.length_map, hadd1 q1, hadd2 q1, hs53, wrap_nat (show k < 9000000 by omega)]
                  rw [hih _ q3]
            · have hwb : (wl == []) = false := by rw [beq_eq_false_iff_ne]; exact hwl
              have hI : textI (decide (c.length = 1)) (decide (k = 0)) (n, toB wl) = wl := by
                simp only [textI, hlist, hwl, if_false]
              rw [hI] at hs2 ⊢
              simp only [List.length_append] at hs2
              have hadd0 := fun (x y : Operand) (t : TypeId) => bin_sadd (E := E) (t := t) (x := x) (y := y) (toB s2) (toB wl) (by rw [toB_size, toB_size]; omega)
              simp only [toB_append] at hadd0
              simp (config := {decide := true}) only [go_sem, ↓reduceIte, decide_true, decide_false, List.all_cons, List.all_nil, Bool.and_true, headId, hbid, hkl', hca, segFrom, and_self, and_true, hnil, toB_toList, hwb, List.length_map, hadd0, wrap_nat (show k < 9000000 by omega)]
              rw [hih _ (by simp only [List.length_append]; omega), List.append_assoc]
          · have hkl' : ¬ (k : Int) < c.length := by omega
            have hke : k = c.length := by omega
            subst hke
            simp (config := {decide := true}) only [go_sem, ↓reduceIte, decide_true, decide_false, List.all_cons, List.all_nil, Bool.and_true, headId, hkl']
            rw [List.drop_length]
            simp only [textIs, List.append_nil]
        simp (config := {decide := true}) only [go_sem, ↓reduceIte, decide_true, decide_false, List.all_cons, List.all_nil, Bool.and_true, headId, List.drop_zero, wrap_nat (show i < 9000000 by omega)]
        have := ih (i + 1, s1 ++ textC c) ⟨by simp only; omega, by simp only [hi1, List.length_append]; omega⟩ (by simp only; omega)
        simp only [hi1] at this
        rw [show textIs (decide (c.length = 1)) true c = textC c from rfl, this, hT]
      · have hd : decide (i = 0) = true := decide_eq_true (by omega)
        rw [hd] at hs ⊢
        simp (config := {decide := true}) only [go_sem, ↓reduceIte, decide_true, decide_false, List.all_cons, List.all_nil, Bool.and_true, headId, h', hat, hi0, List.length_map]
        have hT : s ++ textP true (c :: xs.drop (i + 1)) = s ++ textC c ++ textP false (xs.drop (i + 1)) := by simp only [textP, if_true, List.nil_append, List.append_assoc]
        have hs1 : s.length + (textC c).length + (textP false (xs.drop (i + 1))).length < 1000000 := by
          have := congrArg List.length hT
          simp only [List.length_append] at this ⊢
          omega
        generalize s = s1 at hT hs1 ⊢
        have hz2 : ∀ l : List (Nat × AV), st (l ++ [(21, AV.int .i64 0)]) [] [] = st (l ++ [(21, AV.int .i64 ((0 : Nat) : Int))]) [] [] := fun _ => rfl
        have hz3 := hz2 [(3, AV.str (toB s1)), (5, .sl (c.map encI)), (8, .sl (xs.map encC)), (9, AV.int .i64 xs.length), (10, AV.int .i64 (i : Int)), (19, .sl (c.map encI)), (20, .int .i64 c.length)]
        simp only [List.cons_append, List.nil_append] at hz3
        rw [hz3, loopE_run (I := fun p : Nat × List UInt8 => st [(3, AV.str (toB p.2)), (5, .sl (c.map encI)), (8, .sl (xs.map encC)), (9, AV.int .i64 xs.length), (10, AV.int .i64 (i : Int)), (19, .sl (c.map encI)), (20, .int .i64 c.length), (21, AV.int .i64 (p.1 : Int))] [] [])
          (R := fun p => some (Ex.exit 2, st [(3, AV.str (toB (p.2 ++ textIs (decide (c.length = 1)) (decide (p.1 = 0)) (c.drop p.1)))), (5, .sl (c.map encI)), (8, .sl (xs.map encC)), (9, AV.int .i64 xs.length), (10, AV.int .i64 (i : Int)), (19, .sl (c.map encI)), (20, .int .i64 c.length), (21, AV.int .i64 c.length), (22, .bool false)] [] []))
          (Inv := fun p => p.1 ≤ c.length ∧ p.2.length + (textIs (decide (c.length = 1)) (decide (p.1 = 0)) (c.drop p.1)).length < 1000000) (μ := fun p => c.length - p.1) ?step (0, s1) ⟨Nat.zero_le _, by rw [textC] at hs1; simp only [decide_true, List.drop_zero]; omega⟩]
        case step =>
          rintro ⟨k, s2⟩ ⟨hk, hs2⟩ ih2
          simp only at hk hs2 ih2 ⊢
          rw [loopE_eq]
          by_cases hkl : k < c.length
          · have hkl' : (k : Int) < c.length := by omega
            have hca := encI_at hkl
            obtain ⟨hy0, hy1⟩ := hcy c[k] (List.getElem_mem hkl)
            rw [List.drop_eq_getElem_cons hkl] at hs2 ⊢
            generalize c[k] = it at hca hs2 hy0 hy1
            obtain ⟨n, w⟩ := it
            have hwt : w = toB w.data.toList := rfl
            generalize w.data.toList = wl at hwt
            subst hwt
            simp only at hca hy0 hy1
            have hk1 : decide (k + 1 = 0) = false := decide_eq_false (by omega)
            simp only [textIs] at hs2 ⊢
            have hih := fun t ht => ih2 (k + 1, t) ⟨by simp only; omega, ht⟩ (by simp only; omega)
            simp only [hk1] at hih
            have hn53 : n = ((n.toNat : Nat) : Int) := by omega
            have hs53 := h53 n.toNat (by omega)
            rw [← hn53] at hs53
            by_cases hwl : wl = []
            · subst hwl
              have hwb : (([] : List UInt8) == []) = true := rfl
              have hadd1 := fun (h : (s2 ++ numT n.toNat).length < 2000000) (x y : Operand) (t : TypeId) => bin_sadd (E := E) (t := t) (x := x) (y := y) (toB s2) (toB (numT n.toNat)) (by rw [toB_size, toB_size]; simp at h; omega)
              have hadd2 := fun (h : (s2 ++ numT n.toNat).length < 2000000) (x y : Operand) (t : TypeId) => bin_sadd (E := E) (t := t) (x := x) (y := y) (toB (s2 ++ numT n.toNat)) (toB []) (by rw [toB_size, toB_size]; simp at h ⊢; omega)
              simp only [toB_append, List.append_nil] at hadd1 hadd2
              have hprint : ∀ (_ : textI (decide (c.length = 1)) (decide (k = 0)) (n, toB []) = numT n.toNat), (s2 ++ numT n.toNat).length < 2000000 ∧ s2 ++ (textI (decide (c.length = 1)) (decide (k = 0)) (n, toB []) ++ textIs (decide (c.length = 1)) false (c.drop (k + 1))) = (s2 ++ numT n.toNat) ++ textIs (decide (c.length = 1)) false (c.drop (k + 1)) ∧ (s2 ++ numT n.toNat).length + (textIs (decide (c.length = 1)) false (c.drop (k + 1))).length < 1000000 := by
                intro hI
                rw [hI] at hs2 ⊢
                simp only [List.length_append] at hs2 ⊢
                exact ⟨by omega, by rw [List.append_assoc], by omega⟩
              have hempty : (toB [] : ByteArray).data.toList = [] := rfl
              by_cases g1 : 0 < (k : Int)
              · obtain ⟨q1, q2, q3⟩ := hprint (by simp only [textI, hempty, if_true]; rw [if_pos (by simp; omega)])
                rw [q2]
                simp (config := {decide := true}) only [go_sem, ↓reduceIte, decide_true, decide_false, List.all_cons, List.all_nil, Bool.and_true, headId, hbid, hkl', hca, segFrom, and_self, and_true, hnil, toB_toList, hwb, g1, List.length_map, hadd1 q1, hadd2 q1, hs53, wrap_nat (show k < 9000000 by omega)]
                rw [hih _ q3]
              · by_cases g2 : n = 0
                · by_cases g3 : (c.length : Int) = 1
                  · obtain ⟨q1, q2, q3⟩ := hprint (by simp only [textI, hempty, if_true]; rw [if_pos (by simp; omega)])
                    rw [q2]
                    simp (config := {decide := true}) only [go_sem, ↓reduceIte, decide_true, decide_false, List.all_cons, List.all_nil, Bool.and_true, headId, hbid, hkl', hca, segFrom, and_self, and_true, hnil, toB_toList, hwb, g1, decide_eq_false (show ¬ n ≠ 0 by omega), decide_eq_true g3, List.length_map, hadd1 q1, hadd2 q1, hs53, wrap_nat (show k < 9000000 by omega)]
                    rw [hih _ q3]
                  · have hI : textI (decide (c.length = 1)) (decide (k = 0)) (n, toB []) = [] := by
                      simp only [textI, hempty, if_true]; rw [if_neg (by simp; omega)]
                    rw [hI] at hs2 ⊢
                    have hadd0 := fun (x y : Operand) (t : TypeId) => bin_sadd (E := E) (t := t) (x := x) (y := y) (toB s2) (toB []) (by rw [toB_size, toB_size]; simp at hs2 ⊢; omega)
                    simp only [toB_append, List.append_nil] at hadd0
                    simp only [List.nil_append] at hs2 ⊢
                    simp (config := {decide := true}) only [go_sem, ↓reduceIte, decide_true, decide_false, List.all_cons, List.all_nil, Bool.and_true, headId, hbid, hkl', hca, segFrom, and_self, and_true, hnil, toB_toList, hwb, g1, decide_eq_false (show ¬ n ≠ 0 by omega), decide_eq_false g3, List.length_map, hadd0, wrap_nat (show k < 9000000 by omega)]
                    rw [hih _ hs2]
                · obtain ⟨q1, q2, q3⟩ := hprint (by simp only [textI, hempty, if_true]; rw [if_pos (by simp [g2])])
                  rw [q2]
                  simp (config := {decide := true}) only [go_sem, ↓reduceIte, decide_true, decide_false, List.all_cons, List.all_nil, Bool.and_true, headId, hbid, hkl', hca, segFrom, and_self, and_true, hnil, toB_toList, hwb, g1, g2, ne_eq, not_false_eq_true, List.length_map, hadd1 q1, hadd2 q1, hs53, wrap_nat (show k < 9000000 by omega)]
                  rw [hih _ q3]
            · have hwb : (wl == []) = false := by rw [beq_eq_false_iff_ne]; exact hwl
              have hI : textI (decide (c.length = 1)) (decide (k = 0)) (n, toB wl) = wl := by
                simp only [textI, hlist, hwl, if_false]
              rw [hI] at hs2 ⊢
              simp only [List.length_append] at hs2
              have hadd0 := fun (x y : Operand) (t : TypeId) => bin_sadd (E := E) (t := t) (x := x) (y := y) (toB s2) (toB wl) (by rw [toB_size, toB_size]; omega)
              simp only [toB_append] at hadd0
              simp (config := {decide := true}) only [go_sem, ↓reduceIte, decide_true, decide_false, List.all_cons, List.all_nil, Bool.and_true, headId, hbid, hkl', hca, segFrom, and_self, and_true, hnil, toB_toList, hwb, List.length_map, hadd0, wrap_nat (show k < 9000000 by omega)]
              rw [hih _ (by simp only [List.length_append]; omega), List.append_assoc]
          · have hkl' : ¬ (k : Int) < c.length := by omega
            have hke : k = c.length := by omega
            subst hke
            simp (config := {decide := true}) only [go_sem, ↓reduceIte, decide_true, decide_false, List.all_cons, List.all_nil, Bool.and_true, headId, hkl']
            rw [List.drop_length]
            simp only [textIs, List.append_nil]
        simp (config := {decide := true}) only [go_sem, ↓reduceIte, decide_true, decide_false, List.all_cons, List.all_nil, Bool.and_true, headId, List.drop_zero, wrap_nat (show i < 9000000 by omega)]
        have := ih (i + 1, s1 ++ textC c) ⟨by simp only; omega, by simp only [hi1, List.length_append]; omega⟩ (by simp only; omega)
        simp only [hi1] at this
        rw [show textIs (decide (c.length = 1)) true c = textC c from rfl, this, hT]
    · have h' : ¬ (i : Int) < xs.length := by omega
      have hie : i = xs.length := by omega
      subst hie
      simp (config := {decide := true}) only [go_sem, ↓reduceIte, decide_true, decide_false, List.all_cons, List.all_nil, Bool.and_true, headId, h']
      rw [List.drop_length]
      simp only [textP, List.append_nil]
  simp (config := {decide := true}) only [go_sem, ↓reduceIte, decide_true, decide_false, List.all_cons, List.all_nil, Bool.and_true, headId, List.nil_append, List.drop_zero]
end Go.Proofs.YtllilhgdnepipaaGreatDoor
