-- Merged by a small program of this claim's maker out of 3 texts.
import Derived.Test.YtllilhgdnepipaaGreatDoorQa
import Derived.Laws.OwnMore
import Derived.Lib.ConvBytes

/-
  The abstract machine, part 8: each operation that makes or writes memory leads a state to the machine's next state.
-/
namespace Go.Avm
set_option linter.unusedVariables false
set_option linter.unusedSimpArgs false

def overwV (vs : List Value) (off : Nat) (us : List Value) : List Value := vs.take off ++ us ++ vs.drop (off + us.length)

section
variable {E : Env} {G : Nat → Value} {W0 : World} {h0 h h' : Gh} {n : Nat} {s s' : S} {a : Act} {w w' : World}

/-- What an operation that is no call must do. -/
def Goes (E : Env) (G : Nat → Value) (W0 : World) (h0 : Gh) (n : Nat) (s' : S) (o : Oper) (a : Act) (w : World) : Prop :=
  ∃ h' w', (∃ u, (execOp a.eval o).run E.P w = .ok (.value u) w' ∧ Sim E G W0 h0 n h' s' (a.put o.dst u) w') ∨
    ((execOp a.eval o).run E.P w = .ok .skip w' ∧ Sim E G W0 h0 n h' s' (a.put o.dst undef) w')

theorem goes_load (hE : E.Ok) {call : Rec} {draw : Bool} {o : Oper} {t : TypeId} {x : Operand} (ho : o.op = .load t x) (H : Sim E G W0 h0 n h s a w)
    (hd : ∀ d, o.dst = some d → d < n) (hs : stepOp E call draw o s = some s') : Goes E G W0 h0 n s' o a w := by
  simp only [stepOp, ho] at hs
  split at hs
  · rename_i i hi
    simp only [Option.bind_eq_some_iff] at hs
    obtain ⟨v, hv, hs⟩ := hs
    have hr := ev_sound H.ctx hv
    split at hs
    · rename_i cs
      simp only [Option.bind_eq_some_iff, Option.some.injEq] at hs
      obtain ⟨c, hc, rfl⟩ := hs
      have hr' : RepD G h.x w (.el cs) (a.eval x) := hr
      obtain ⟨ad, had⟩ := el_ptr hr'
      rw [had] at hr'
      obtain ⟨u, h1, h2⟩ := loadA_el hE hi hr' hc
      exact ⟨h, w, .inl ⟨u, by simp [execOp, ho, had, h1], H.put h2 hd⟩⟩
    · rename_i d j off
      simp only [Option.bind_eq_some_iff, Option.some.injEq] at hs
      obtain ⟨cs, hcs, c, hc, rfl⟩ := hs
      obtain ⟨g, hg, hpt⟩ := hr
      obtain ⟨u, h1, h2⟩ := loadA_box hE hi hg (H.boxes d j cs hcs) hc
      exact ⟨h, w, .inl ⟨u, by simp [execOp, ho, hpt, h1], H.put h2 hd⟩⟩
    · simp at hs
  · simp at hs

theorem Sim.kill (H : Sim E G W0 h0 n h s a w) (t : Nat) : Sim E G W0 h0 n h (s.kill t) a w :=
  Sim.grow (tk := some t) H ⟨fun _ _ h1 h2 => ⟨h1, h2⟩, fun _ _ _ h1 => h1, fun _ _ _ h2 => ⟨rfl, h2, rfl⟩⟩ (fun _ _ _ _ => ⟨rfl, rfl⟩) (fun _ _ _ _ => rfl) (fun _ _ _ => rfl) rfl rfl rfl rfl (Nat.le_refl _) H.rows H.rinj

/-- A name is given up, its row with it. -/
theorem Sim.dropTok (H : Sim E G W0 h0 n h s a w) (t : Nat) : Sim E G W0 h0 n { h with r := upd h.r t none } (s.kill t) a w := by
  have hsub : ∀ t' g, upd h.r t none t' = some g → h.r t' = some g := by
    intro t' g h1
    simp only [upd] at h1
    split at h1
    · cases h1
    · exact h1
  refine Sim.grow (tk := some t) H ⟨fun _ _ h1 h2 => ⟨h1, h2⟩, fun _ _ _ h1 => h1, fun t' g hne h2 => ⟨rfl, ?_, rfl⟩⟩ (fun _ _ _ _ => ⟨rfl, rfl⟩) (fun _ _ _ _ => rfl) (fun _ _ _ => rfl) rfl rfl rfl rfl (Nat.le_refl _)
    (fun t' g h1 => H.rows t' g (hsub t' g h1)) (fun t1 t2 g h1 h2 => H.rinj _ _ _ (hsub _ _ h1) (hsub _ _ h2))
  have hne' : t' ≠ t := fun e => hne (by rw [e])
  show upd h.r t none t' = some g
  simpa [upd, hne'] using h2

theorem Sim.giveRow (H : Sim E G W0 h0 n h s a w) {t g : Nat} (h1 : W0.heap.size ≤ g ∨ ∃ t', h0.r t' = some g) (h2 : g < w.heap.size) (h3 : ∀ d i, h.m d i ≠ some g) (h4 : ∀ t', h.r t' ≠ some g) :
    Sim E G W0 h0 n { h with r := upd h.r t (some g) } (s.kill t) a w := by
  refine Sim.grow (tk := some t) H ⟨fun _ _ k1 k2 => ⟨k1, k2⟩, fun _ _ _ k1 => k1, fun t' g' hne k2 => ⟨rfl, ?_, rfl⟩⟩ (fun _ _ _ _ => ⟨rfl, rfl⟩) (fun _ _ _ _ => rfl) (fun _ _ _ => rfl) rfl rfl rfl rfl (Nat.le_refl _) ?_ ?_
  · have hne' : t' ≠ t := fun e => hne (by rw [e])
    show upd h.r t (some g) t' = some g'
    simpa [upd, hne'] using k2
  · intro t' g' k1
    have k1 : (if t' = t then some g else h.r t') = some g' := k1
    split at k1
    · cases k1; exact ⟨h1, h2, h3⟩
    · exact H.rows t' g' k1
  · intro t1 t2 g' k1 k2
    have k1 : (if t1 = t then some g else h.r t1) = some g' := k1
    have k2 : (if t2 = t then some g else h.r t2) = some g' := k2
    split at k1 <;> split at k2
    · simp_all
    · cases k1; exact absurd k2 (h4 _)
    · cases k2; exact absurd k1 (h4 _)
    · exact H.rinj _ _ _ k1 k2

theorem tokB_odd (s : S) (d i off : Nat) (e : TypeId) (xs : List AV) : AV.tokOk (.own (s.tokB d i off) e xs) = true := by
  simp only [AV.tokOk, S.tokB]
  simp

theorem run_storeCells_fz {P : Program} (g o : Nat) (t : TypeId) (fz : Nat × Nat) : ∀ (vs : List Value) (i : Nat) (cur : Array Value) (w : World), w.heap[g]? = some (.cells cur t fz) → (fz = (0, 0) ∨ cur.size ≤ fz.1) → o + i + vs.length ≤ cur.size →
    (∀ v ∈ vs, v.oneCell' = true) → (storeCells ⟨g, o, none⟩ vs i).run P w = .ok () (w.setRow g (cur.toList.take (o + i) ++ vs ++ cur.toList.drop (o + i + vs.length)).toArray)
  | [], i, cur, w, hg, _, _, _ => by
    simp only [storeCells, List.append_nil, List.length_nil, Nat.add_zero, List.take_append_drop, Array.toArray_toList]
    rw [setRow_self w g cur t fz hg]
    rfl
  | v :: rest, i, cur, w, hg, hf, hl, h1 => by
    have hi : o + i < cur.size := by simp at hl; omega
    have hadd : (⟨g, o, none⟩ : Addr).add i = ⟨g, o + i, none⟩ := by unfold Addr.add; split <;> simp_all
    have hcell : w.cell? ⟨g, o + i, none⟩ = some cur[o + i] := by simp [World.cell?, hg, hi]
    have hfro : w.frozen? ⟨g, o + i, none⟩ = false := by
      simp only [World.frozen?, hg]
      rcases hf with rfl | hf
      · simp
      · simp; omega
    have hst : (store ((⟨g, o, none⟩ : Addr).add i) v).run P w = .ok () (w.setRow g (cur.setIfInBounds (o + i) v)) := by
      rw [hadd, run_store P w _ v _ (h1 v (by simp)), hcell]
      simp [hfro, setCell_eq_setRow w g (o + i) cur t fz v hg]
    have ih := run_storeCells_fz (P := P) g o t fz rest (i + 1) (cur.setIfInBounds (o + i) v) (w.setRow g (cur.setIfInBounds (o + i) v)) (setRow_heap w g cur _ t _ hg) (by simpa using hf) (by simp at hl ⊢; omega) (fun x hx => h1 x (by simp [hx]))
    simp only [storeCells, Sem.run_bind, hst, Result.andThen_ok, ih, setRow_setRow]
    congr 3
    have e := list_seg_step cur.toList (o + i) v rest (by simp at hl ⊢; omega)
    simpa [Array.toList_setIfInBounds, Nat.add_assoc] using e

/-- A store whose value's cells are known. -/
theorem store_core (hE : E.Ok) {o : Oper} {t : TypeId} {x y : Operand} (ho : o.op = .store t x y) {i : TyI} (hi : E.ty t = some i) (hdst : o.dst = none) {h1 : Gh} {s1 : S} (H : Sim E G W0 h0 n h1 s1 a w) {d j off : Nat} {cs vc : List AV}
    (hpt : ∃ g, h1.m d j = some g ∧ a.eval x = .pointer (some ⟨g, off, none⟩)) (hcs : s1.look d j = some cs) (hlen : vc.length = (a.eval y).cells.size) (hsz : vc.length = i.sz) (hfit : off + vc.length ≤ cs.length)
    (hone : ∀ u ∈ (a.eval y).cells.toList, u.oneCell' = true) (hrep : ∀ (k : Nat) (c : AV) (u : Value), vc[k]? = some c → (a.eval y).cells[k]? = some u → Rep E.P G (h1.sh d) w c u ∧ c.tokOk = true) :
    Goes E G W0 h0 n (s1.setB d j (overw cs off vc)) o a w := by
  obtain ⟨g, hg, hpt⟩ := hpt
  obtain ⟨g', vs, T, fz, hm, ⟨hb, hfz, hT⟩, hx, hl, hr⟩ := H.boxes d j cs hcs
  rw [hg] at hm
  cases hm
  have hfitU : off + (a.eval y).cells.toList.length ≤ vs.length := by simp; omega
  have hrun := run_storeCells_fz (P := E.P) g off T fz (a.eval y).cells.toList 0 vs.toArray w hb (by simpa using hfz) (by simp at hfitU ⊢; omega) hone
  simp only [Nat.add_zero] at hrun
  have hrunS : (execOp a.eval o).run E.P w = .ok .skip (w.setRow g (overwV vs off (a.eval y).cells.toList).toArray) := by
    have hszr := (hE.ty t i hi).sizeOf
    have hne : (a.eval y).cells.size = i.sz := by omega
    simp [execOp, ho, hpt, Instr.storeAt, Instr.sureAddr, storeVar, hszr, hne, hrun, overwV]
  have hput : a.put o.dst undef = a := by rw [hdst]; rfl
  refine ⟨h1, _, .inr ⟨hrunS, ?_⟩⟩
  rw [hput]
  refine H.setBox hfz ⟨hT.1, hT.2.imp (fun e => by rw [overw, overwV, overw_length hfit, overw_length hfitU]; exact e) id⟩ (by rw [overwV, overw_length hfitU]) hcs hg hb hx (by rw [overw, overwV, overw_length hfit, overw_length hfitU]; exact hl) (fun k c u hk hu => ?_)
  rw [overw, overw_get hfit] at hk
  rw [overwV, overw_get hfitU] at hu
  have e1 : (a.eval y).cells.toList.length = vc.length := by simp [hlen]
  rw [e1] at hu
  split at hk
  · rename_i hlt; rw [if_pos hlt] at hu; exact hr k c u hk hu
  · rename_i hge
    rw [if_neg hge] at hu
    split at hk
    · rename_i hlt2
      rw [if_pos hlt2] at hu
      exact hrep (k - off) c u hk (by simpa using hu)
    · rename_i hge2; rw [if_neg hge2] at hu; exact hr k c u hk hu

theorem killV_look (s : S) (t d i : Nat) : (s.kill t).look d i = (s.look d i).map (List.map (killV t)) := killO_look s (some t) d i

theorem cells_tok {v : AV} (hone : v.cells.all AV.one = true) (hn : ∀ t e xs, v ≠ .own t e xs) (hagg : ∀ cs, v = .agg cs → cs.all AV.tokOk = true) : ∀ c ∈ v.cells, c.tokOk = true := by
  intro c hc
  cases v with
  | agg cs => exact List.all_eq_true.1 (hagg cs rfl) c hc
  | own t e xs => exact absurd rfl (hn t e xs)
  | _ => simp [AV.cells] at hc; subst hc; rfl

theorem repD_tok {x : Ext} {c : AV} {u : Value} (H : RepD G x w c u) : c.tokOk = true := by cases H <;> rfl

theorem goes_store (hE : E.Ok) {call : Rec} {draw : Bool} {o : Oper} {t : TypeId} {x y : Operand} (ho : o.op = .store t x y) (H : Sim E G W0 h0 n h s a w)
    (hs : stepOp E call draw o s = some s') : Goes E G W0 h0 n s' o a w := by
  simp only [stepOp, ho] at hs
  split at hs
  · rename_i i hdst hi
    simp only [Option.bind_eq_some_iff] at hs
    obtain ⟨p, hp, v, hv, hs⟩ := hs
    have hrp := ev_sound H.ctx hp
    have hrv := ev_sound H.ctx hv
    split at hs
    · rename_i d j off
      split at hs
      · rename_i tk e xs
        split at hs
        · simp at hs
        · simp only [Option.bind_eq_some_iff] at hs
          obtain ⟨cs, hcs, hs⟩ := hs
          split at hs
          · rename_i hcond
            simp only [Option.some.injEq] at hs
            subst hs
            obtain ⟨hrd, hown⟩ := hrv
            have hsl : (a.eval y).cells = #[a.eval y] ∧ (a.eval y).oneCell' = true := by
              generalize a.eval y = u at hrd
              cases hrd <;> exact ⟨rfl, rfl⟩
            have fin : ∀ h1 : Gh, Sim E G W0 h0 n h1 ((s.kill tk).kill (s.tokB d j off)) a w → h1.m = h.m → h1.x = h.x → (OwnOK E.P h1 w (s.tokB d j off) e xs (a.eval y)) →
                Goes E G W0 h0 n (((s.kill tk).kill (s.tokB d j off)).setB d j (overw cs off [.own (s.tokB d j off) e xs])) o a w := by
              intro h1 H1 hm1 hx1 ho1
              refine store_core hE ho hi hdst H1 ?_ hcs (by rw [hsl.1]; rfl) (by simp [hcond.1]) (by simp; omega) (by rw [hsl.1]; intro u hu; simp at hu; subst hu; exact hsl.2) (fun k c u hk hu => ?_)
              · obtain ⟨g, k1, k2⟩ := hrp
                exact ⟨g, by rw [hm1]; exact k1, k2⟩
              · rw [hsl.1] at hu
                cases k with
                | zero =>
                  simp at hk hu
                  subst hk
                  subst hu
                  exact ⟨⟨by show RepD G h1.x w _ _; rw [hx1]; exact hrd, ho1⟩, tokB_odd s d j off e xs⟩
                | succ k => simp at hk
            rcases hown with hnil | ⟨g, cap, cs0, inf, e1, e2, e3, e4, e5, e6, e7, e8, e9⟩
            · exact fin h ((H.kill tk).kill _) rfl rfl (.inl hnil)
            · obtain ⟨k1, k2, k3⟩ := H.rows tk g e7
              have H2 := (H.dropTok tk).giveRow (t := s.tokB d j off) (g := g) k1 k2 k3 (fun t' ht' => by
                have ht' : upd h.r tk none t' = some g := ht'
                simp only [upd] at ht'
                split at ht'
                · cases ht'
                · rename_i hne; exact hne (H.rinj _ _ _ ht' e7))
              refine fin _ H2 rfl rfl (.inr ⟨g, cap, cs0, inf, e1, e2, e3, e4, e5, e6, ?_, e8, e9⟩)
              show upd _ _ _ _ = _
              simp [upd]
          · simp at hs
      · rename_i hno
        simp only [Option.bind_eq_some_iff] at hs
        obtain ⟨cs, hcs, hs⟩ := hs
        split at hs
        · rename_i hcond
          obtain ⟨hone, hsz, hfit, hdd⟩ := hcond
          simp only [Option.some.injEq] at hs
          subst hs
          obtain ⟨hcl, hcr⟩ := rep_cells H.ifaces hone hrv
          have h1 : ∀ u ∈ (a.eval y).cells.toList, u.oneCell' = true := by
            intro u hu
            obtain ⟨k, hk, rfl⟩ := List.getElem_of_mem hu
            have hk' : k < v.cells.length := by rw [hcl]; simpa using hk
            refine rep_one H.ifaces (List.all_eq_true.1 hone v.cells[k] (List.getElem_mem _)) (hcr k v.cells[k] _ (by simp) ?_)
            simp at hk
            simp [hk]
          have htok : ∀ c ∈ v.cells, c.tokOk = true := by
            cases v with
            | agg vs0 =>
              obtain ⟨us, hu1, hu2, hu3⟩ := rep_agg hrv
              intro c hc
              obtain ⟨k, hk, rfl⟩ := List.getElem_of_mem hc
              have hk2 : k < vs0.length := hk
              exact repD_tok (hu3 k vs0[k] us[k] (by simp) (by simp))
            | own t e xs => exact absurd rfl (hno t e xs)
            | _ => intro c hc; simp [AV.cells] at hc; subst hc; rfl
          refine store_core hE ho hi hdst H hrp hcs hcl hsz hfit h1 (fun k c u hk hu => ⟨?_, htok c (List.mem_of_getElem? hk)⟩)
          rcases hdd with rfl | hdat
          · rw [sh_zero]; exact hcr k c u hk hu
          · obtain ⟨_, k2⟩ := repD_cells H.ifaces hdat (rep_data hdat hrv)
            exact rep_of_repD_scalar (h := h.sh d) (k2 k c u hk hu)
        · simp at hs
    · simp at hs
  · simp at hs

theorem addM_box (h : Gh) (d g : Nat) : (h.addM d g).m 0 d = some g := by
  show (if 0 = 0 ∧ d = d then some g else h.m 0 d) = some g
  simp

theorem goes_new {P : Program} {h' : Gh} (o : Oper) (u : Value) (hrun : (execOp a.eval o).run E.P w = .ok (.value u) w') {v : AV} {s1 : S} {dst : Option Nat} (hdst : o.dst = dst)
    (H : Sim E G W0 h0 n h' s1 a w') (hr : Rep E.P G h' w' v u) (hd : ∀ d, o.dst = some d → d < n) : Goes E G W0 h0 n (s1.put dst v) o a w := by
  subst hdst
  exact ⟨h', w', .inl ⟨u, hrun, H.put hr hd⟩⟩

theorem bid_div (t d : Nat) : bid t d / 100000 = t := by
  unfold bid
  omega

theorem goes_alloc (hE : E.Ok) {call : Rec} {draw : Bool} {o : Oper} {t : TypeId} (ho : o.op = .alloc t) (H : Sim E G W0 h0 n h s a w)
    (hd : ∀ d, o.dst = some d → d < n) (hs : stepOp E call draw o s = some s') : Goes E G W0 h0 n s' o a w := by
  simp only [stepOp, ho] at hs
  split at hs
  · rename_i d i hdst hi
    split at hs
    · rename_i hnone
      simp only [Option.some.injEq] at hs
      subst hs
      obtain ⟨z, hz, hzl, hzl2, hzr⟩ := (hE.ty t i hi).zeroValue
      have hnew := H.newBox (T := t) hnone (cs := i.zero) (vs := z.cells.toList) ⟨(bid_div t d).symm, .inl (by simp; omega)⟩ (by simp; omega) (fun j c u hj hu => by
        have := hzr j c u hj (by simpa using hu)
        exact ⟨rep_of_repD_scalar this.rep, repD_tok (G := G) (x := h.x) (w := w) this.rep⟩)
      refine goes_new (P := E.P) o (.pointer (some ⟨w.heap.size, 0, none⟩)) ?_ hdst hnew ⟨w.heap.size, addM_box _ _ _, rfl⟩ hd
      simp [execOp, ho, Instr.alloc, hz, newVar, newRow]
    · simp at hs
  · simp at hs

theorem strip_one {v : AV} (h : v.cells.all AV.one = true) : v.strip.cells.all AV.one = true := by
  cases v <;> first | exact h | rfl

theorem strip_tok {P : Program} {v : AV} {u : Value} (H : Rep P G h w v.strip u) : ∀ c ∈ v.strip.cells, c.tokOk = true := by
  generalize hv : v.strip = v0 at H
  have hn : ∀ t e xs, v0 ≠ .own t e xs := by rw [← hv]; exact strip_not_own v
  cases v0 with
  | agg vs0 =>
    obtain ⟨us, hu1, hu2, hu3⟩ := rep_agg H
    intro c hc
    obtain ⟨k, hk, rfl⟩ := List.getElem_of_mem hc
    have hk2 : k < vs0.length := hk
    exact repD_tok (hu3 k vs0[k] us[k] (by simp) (by simp))
  | own t e xs => exact absurd rfl (hn t e xs)
  | _ => intro c hc; simp [AV.cells] at hc; subst hc; rfl

theorem goes_box (hE : E.Ok) {call : Rec} {draw : Bool} {o : Oper} {t : TypeId} {x : Operand} (ho : o.op = .box t x) (H : Sim E G W0 h0 n h s a w)
    (hd : ∀ d, o.dst = some d → d < n) (hs : stepOp E call draw o s = some s') : Goes E G W0 h0 n s' o a w := by
  simp only [stepOp, ho] at hs
  split at hs
  · rename_i d hdst
    split at hs
    · rename_i hnone
      simp only [Option.bind_eq_some_iff] at hs
      obtain ⟨v, hv, hs⟩ := hs
      split at hs
      · rename_i hone
        simp only [Option.some.injEq] at hs
        subst hs
        obtain ⟨hcl, hcr⟩ := rep_cells H.ifaces (strip_one hone) (rep_strip (ev_sound H.ctx hv))
        have hnew := H.newBox (T := t) hnone (cs := v.strip.cells) (vs := (a.eval x).cells.toList) ⟨(bid_div t d).symm, .inl (by simp; omega)⟩ (by simp; omega) (fun j c u hj hu => ⟨hcr j c u hj (by simpa using hu), strip_tok (rep_strip (ev_sound H.ctx hv)) c (List.mem_of_getElem? hj)⟩)
        refine goes_new (P := E.P) o (.pointer (some ⟨w.heap.size, 0, none⟩)) ?_ hdst hnew ⟨w.heap.size, addM_box _ _ _, rfl⟩ hd
        simp [execOp, ho, Instr.box, newVar, newRow]
      · simp at hs
    · simp at hs
  · simp at hs

theorem goes_nil (hE : E.Ok) {call : Rec} {draw : Bool} {o : Oper} (ho : o.op = .assign (.const (.slice none 0 0))) (H : Sim E G W0 h0 n h s a w)
    (hd : ∀ d, o.dst = some d → d < n) (hs : stepOp E call draw o s = some s') : Goes E G W0 h0 n s' o a w := by
  have hrun : (execOp a.eval o).run E.P w = .ok (.value (.slice none 0 0)) w := by simp [execOp, ho, Act.eval]
  have hN : Goes E G W0 h0 n (s.put o.dst .nilS) o a w := ⟨h, w, .inl ⟨_, hrun, H.put (v := .nilS) (u := .slice none 0 0) RepD.nilS hd⟩⟩
  simp only [stepOp, ho] at hs
  split at hs
  · rename_i d hdst
    split at hs
    · rename_i e _ _ _ _
      simp only [Option.some.injEq] at hs
      subst hs
      exact goes_new (P := E.P) o _ hrun hdst (H.kill (tokS d)) ⟨.sl0 _ _, .inl ⟨rfl, rfl⟩⟩ hd
    · simp only [Option.some.injEq] at hs; subst hs; exact hN
  · simp only [Option.some.injEq] at hs; subst hs; exact hN

/-- The elements of a slice that is read, cell by cell. -/
theorem row_list {x : Ext} (hif : ∀ g, ∃ T u, G g = .iface T u) {ys : List AV} {A : Option Addr} {c sz : Nat} (H : RepD G x w (.sl ys) (.slice A ys.length c)) (hall : ∀ y ∈ ys, y.cells.length = sz) (hne : ys ≠ []) :
    ∃ (ad : Addr) (news : List Value), A = some ad ∧ news.length = ys.length * sz ∧ (∀ k u, news[k]? = some u → w.cell? (ad.add k) = some u) ∧
      (∀ (i j : Nat) (y cc : AV), ys[i]? = some y → y.cells[j]? = some cc → ∃ v, news[i * sz + j]? = some v ∧ RepD G x w cc v) ∧
      ((∀ y ∈ ys, y.cells.all AV.one = true) → ∀ u ∈ news, u.oneCell' = true) := by
  generalize hn : ys.length = m at H
  cases H with
  | sl0 => exact absurd rfl hne
  | sl _ ad c sz' f hl hs hc hr =>
    have h0 : ys[0]? = some (ys[0]'(List.length_pos_iff.2 hne)) := by simp
    have hsz : sz' = sz := by rw [← hs 0 _ h0, hall _ (List.getElem_mem _)]
    subst hsz
    have hpos : ∀ k, k < ys.length * sz' → 0 < sz' := fun k hk => by
      rcases Nat.eq_zero_or_pos sz' with h | h
      · rw [h] at hk; simp at hk
      · exact h
    have hdec : ∀ k, k < ys.length * sz' → ∃ y cc, ys[k / sz']? = some y ∧ y.cells[k % sz']? = some cc ∧ k / sz' * sz' + k % sz' = k := by
      intro k hk
      have hp := hpos k hk
      have h1 : k / sz' < ys.length := (Nat.div_lt_iff_lt_mul hp).2 hk
      have h2 : k % sz' < sz' := Nat.mod_lt _ hp
      have hy : ys[k / sz']? = some ys[k / sz'] := by simp
      have hyl := hall ys[k / sz'] (List.getElem_mem _)
      exact ⟨_, ys[k / sz'].cells[k % sz'], hy, by simp, by rw [Nat.mul_comm]; exact Nat.div_add_mod k sz'⟩
    refine ⟨ad, (List.range (ys.length * sz')).map fun k => f (k / sz') (k % sz'), rfl, by simp, fun k u hk => ?_, fun i j y cc hi hj => ?_, fun hone u hu => ?_⟩
    · rw [List.getElem?_map, Option.map_eq_some_iff] at hk
      obtain ⟨k', hk', rfl⟩ := hk
      have hlt : k < ys.length * sz' := by have := (List.getElem?_eq_some_iff.1 hk').1; simpa using this
      rw [List.getElem?_range hlt] at hk'
      cases hk'
      obtain ⟨y, cc, hy, hcc, he⟩ := hdec k hlt
      have := (hc _ _ y cc hy hcc).1
      rwa [he] at this
    · have h1 : i < ys.length := (List.getElem?_eq_some_iff.1 hi).1
      have h2 : j < sz' := by have := (List.getElem?_eq_some_iff.1 hj).1; rwa [hall y (List.mem_of_getElem? hi)] at this
      have hlt : i * sz' + j < ys.length * sz' := by
        have : (i + 1) * sz' ≤ ys.length * sz' := Nat.mul_le_mul_right _ h1
        rw [Nat.add_mul] at this
        omega
      refine ⟨f i j, ?_, hr i j y cc hi hj⟩
      rw [List.getElem?_map, List.getElem?_range hlt, Option.map_some]
      congr 1
      have hp : 0 < sz' := by omega
      have e1 : (i * sz' + j) / sz' = i := by rw [Nat.mul_comm, Nat.mul_add_div hp, Nat.div_eq_of_lt h2]; rfl
      have e2 : (i * sz' + j) % sz' = j := by rw [Nat.mul_comm, Nat.mul_add_mod, Nat.mod_eq_of_lt h2]
      rw [e1, e2]
    · rw [List.mem_map] at hu
      obtain ⟨k, hk, rfl⟩ := hu
      rw [List.mem_range] at hk
      obtain ⟨y, cc, hy, hcc, he⟩ := hdec k hk
      have h1 := List.all_eq_true.1 (hone y (List.mem_of_getElem? hy)) cc (List.mem_of_getElem? hcc)
      exact rep_one (P := default) (h := ⟨x, fun _ _ => none, fun _ => none⟩) hif h1 (rep_of_repD_scalar (h := ⟨x, fun _ _ => none, fun _ => none⟩) (hr _ _ y cc hy hcc))

/-- A source of cells: a slice that is read, or a string. -/
structure Src (P : Program) (w : World) (u : TypeId) (size n : Nat) (y : Value) (news : List Value) : Prop where
  und : (∃ e, P.underlying u = some (.slice e)) ∨ P.underlying u = some .string
  len : ∀ w, (Builtin.lenOf y).run P w = .ok n w
  cells : (Builtin.firstCells size n y).run P w = .ok news.toArray w
  cellsD : (Builtin.firstCells size n y).run P w.drew = .ok news.toArray w.drew

theorem append_room {P : Program} {t u ty e : TypeId} {i : TypeInfo} (ht : P.underlying t = some (.slice e)) (hi : P.info? e = some i) {y : Value} {m : Nat} {news : List Value} (hS : Src P w u i.size m y news)
    (g sLen sCap : Nat) (cur : Array Value) (hg : w.heap[g]? = some (.cells cur e (0, 0))) (h1 : ∀ u ∈ news, u.oneCell' = true) (hroom : sLen + m ≤ sCap) (hfit : sLen * i.size + news.length ≤ cur.size) :
    (Builtin.append_ #[t, u] ty #[.slice (some ⟨g, 0, none⟩) sLen sCap, y]).run P w =
      .ok (.slice (some ⟨g, 0, none⟩) (sLen + m) sCap) (w.setRow g (cur.toList.take (sLen * i.size) ++ news ++ cur.toList.drop (sLen * i.size + news.length)).toArray) := by
  have hst := run_storeCells_at P g (sLen * i.size) e news 0 cur w hg (by simpa using hfit) h1
  simp only [Nat.add_zero] at hst
  have hl := hS.len w
  have hf := hS.cells
  rcases hS.und with ⟨_, hd1⟩ | hd1 <;> simp [Builtin.append_, run_underlying ht, run_underlying hd1, sizeOf, typeInfo, hi, hl, hroom, hf, Addr.add_lit, hst]

theorem append_zero {P : Program} {t u ty e : TypeId} {i : TypeInfo} (ht : P.underlying t = some (.slice e)) (hi : P.info? e = some i) {y : Value} (hS : Src P w u i.size 0 y []) (base : Option Addr) (m c : Nat) (hm : m ≤ c) :
    (Builtin.append_ #[t, u] ty #[.slice base m c, y]).run P w = .ok (.slice base m c) w := by
  have hl := hS.len w
  have hf := hS.cells
  rcases hS.und with ⟨_, hd1⟩ | hd1 <;> cases base <;> simp [Builtin.append_, run_underlying ht, run_underlying hd1, sizeOf, typeInfo, hi, hl, hm, hf, storeCells]

theorem append_nil {P : Program} {t u ty e : TypeId} {i : TypeInfo} {z : Value} (ht : P.underlying t = some (.slice e)) (hi : P.info? e = some i) (hz : i.zero = some z) {y : Value} {n : Nat} {news : List Value} (hS : Src P w u i.size n y news)
    (h0 : 0 < n) (h63 : (n : Int) ≤ 9223372036854775807) (h48 : n * i.bytes ≤ 281474976710656) :
    (Builtin.append_ #[t, u] ty #[.slice none 0 0, y]).run P w =
      .ok (.slice (some ⟨w.heap.size, 0, none⟩) n (grownCap w n 0 e)) (w.drew.alloc (.cells (news.toArray ++ Builtin.zeroCells z.cells (grownCap w n 0 e - n)) e)) := by
  have hn : n ≠ 0 := by omega
  have h63' : ¬ (9223372036854775807 < (n : Int)) := by omega
  have h48' : ¬ (281474976710656 < Builtin.nextslicecap n 0 * i.bytes) := by rw [nextslicecap_zero h0]; omega
  have hl := hS.len w
  have hf := hS.cellsD
  rcases hS.und with ⟨_, hd1⟩ | hd1 <;> simp [Builtin.append_, run_underlying ht, run_underlying hd1, sizeOf, typeInfo, zeroValue, hi, hz, hl, hn, h63', h48', Question.forced, run_firstCells_none, hf, newRow, grownCap]

theorem append_grow {P : Program} {t u ty e : TypeId} {i : TypeInfo} {z : Value} (ht : P.underlying t = some (.slice e)) (hi : P.info? e = some i) (hz : i.zero = some z) {y : Value} {n : Nat} {news : List Value} (hS : Src P w u i.size n y news)
    (b : Addr) (sLen sCap : Nat) (olds : List Value) (hlo : olds.length = sLen * i.size) (holds : ∀ j v, olds[j]? = some v → w.cell? (b.add j) = some v)
    (hg : sCap < sLen + n) (h63 : ((sLen + n : Nat) : Int) ≤ 9223372036854775807) (hfit : Builtin.nextslicecap (sLen + n) sCap * i.bytes ≤ 281474976710656) :
    (Builtin.append_ #[t, u] ty #[.slice (some b) sLen sCap, y]).run P w =
      .ok (.slice (some ⟨w.heap.size, 0, none⟩) (sLen + n) (grownCap w (sLen + n) sCap e))
        (w.drew.alloc (.cells (olds.toArray ++ news.toArray ++ Builtin.zeroCells z.cells (grownCap w (sLen + n) sCap e - (sLen + n))) e)) := by
  have hn : ¬ (sLen + n ≤ sCap) := by omega
  have h63' : ¬ (9223372036854775807 < ((sLen : Int) + (n : Int))) := by omega
  have h48' : ¬ (281474976710656 < Builtin.nextslicecap (sLen + n) sCap * i.bytes) := by omega
  have hfo := run_firstCells_some (P := P) w.drew i.size sLen b sLen sCap olds hlo (by simpa using holds)
  have hl := hS.len w
  have hf := hS.cellsD
  rcases hS.und with ⟨_, hd1⟩ | hd1 <;>
      (simp [Builtin.append_, run_underlying ht, run_underlying hd1, sizeOf, typeInfo, zeroValue, hi, hz, hl, hn, h63', h48', Question.forced, hf, hfo, newRow, grownCap]
       congr 2
       apply Array.ext'
       simp [List.append_assoc])

theorem elemOk_len {sz : Nat} {y : AV} (h : AV.elemOk sz y = true) : y.cells.length = sz := by
  simp only [AV.elemOk, Bool.and_eq_true, beq_iff_eq] at h
  exact h.1
theorem elemOk_one {sz : Nat} {y : AV} (h : AV.elemOk sz y = true) : y.cells.all AV.one = true := by
  simp only [AV.elemOk, Bool.and_eq_true, beq_iff_eq] at h
  exact h.2

theorem sz_cells {P : Program} {t : TypeId} {i : TyI} (h : TyOk P t i) : ∃ (inf : TypeInfo) (z : Value), P.info? t = some inf ∧ inf.size = i.sz ∧ inf.bytes = i.bytes ∧ inf.zero = some z ∧ z.cells.size = i.sz := by
  obtain ⟨inf, z, h1, h2, h3, h4, h5, h6, _⟩ := h.info
  exact ⟨inf, z, h1, h2, h3, h4, by omega⟩

/-- What is appended, as the model takes it. -/
theorem src_sound (hE : E.Ok) (hif : ∀ g, ∃ T u, G g = .iface T u) {t u e : TypeId} {ei : TyI} (hei : E.ty e = some ei) (ht : ∃ e', E.P.underlying t = some (.slice e')) {b : AV} {y : Value} (hb : Rep E.P G h w b y)
    {ys : List AV} (hys : srcA E t u b = some ys) (hok : ys.all (AV.elemOk ei.sz) = true) :
    ∃ news : List Value, Src E.P w u ei.sz ys.length y news ∧ news.length = ys.length * ei.sz ∧
      (∀ (i j : Nat) (q cc : AV), ys[i]? = some q → q.cells[j]? = some cc → ∃ v, news[i * ei.sz + j]? = some v ∧ RepD G h.x w cc v) ∧ ∀ u ∈ news, u.oneCell' = true := by
  unfold srcA at hys
  split at hys
  · rename_i hut
    subst hut
    obtain ⟨A, c, hA, hlc, hrep⟩ := rep_elems hb hys
    by_cases hne : ys = []
    · subst hne
      refine ⟨[], ⟨.inl ht, fun w => by simp [hA, Builtin.lenOf], ?_, ?_⟩, by simp, by simp, by simp⟩
      · rw [hA]; cases A <;> simp [Builtin.firstCells, loadCells, loadCellsFrom]
      · rw [hA]; cases A <;> simp [Builtin.firstCells, loadCells, loadCellsFrom]
    · rw [hA] at hrep
      obtain ⟨ad, news, rfl, hnl, hn1, hn2, hn3⟩ := row_list hif hrep (fun q hq => elemOk_len (List.all_eq_true.1 hok q hq)) hne
      refine ⟨news, ⟨.inl ht, fun w => by simp [hA, Builtin.lenOf], ?_, ?_⟩, hnl, hn2, hn3 (fun q hq => elemOk_one (List.all_eq_true.1 hok q hq))⟩
      · rw [hA]; exact run_firstCells_some w _ _ _ _ _ news hnl hn1
      · rw [hA]; exact run_firstCells_some w.drew _ _ _ _ _ news hnl hn1
  · split at hys
    · rename_i s hu
      simp only [Option.some.injEq] at hys
      subst hys
      have hy := rep_str hb
      have hund : E.P.underlying u = some .string := und_of hE hu
      have hsz : s.size = 0 ∨ ei.sz = 1 := by
        cases hd : s.data.toList with
        | nil => left; have := congrArg List.length hd; simpa using this
        | cons c l =>
          right
          rw [hd] at hok
          have := elemOk_len (List.all_eq_true.1 hok _ List.mem_cons_self)
          simpa [AV.cells] using this.symm
      have hlen : (s.data.toList.map fun c => AV.int .u8 c.toNat).length = s.size := by simp
      have hcells : ∀ w', (Builtin.firstCells ei.sz s.size (.string s)).run E.P w' = .ok (s.data.toList.map fun c => Value.int .u8 c.toNat).toArray w' := by
        intro w'
        have hx : (Array.map (fun b : UInt8 => Value.int IntKind.u8 (b.toNat : Int)) (s.extract 0 s.size).data) = (s.data.toList.map fun c => Value.int .u8 c.toNat).toArray := by
          have : s.extract 0 s.size = s := by
            apply ByteArray.ext
            simp
          rw [this]
          apply Array.ext'
          simp
        simp only [Builtin.firstCells, Sem.run_pure]
        rw [hx]
      refine ⟨s.data.toList.map fun c => Value.int .u8 c.toNat, ⟨.inr hund, fun w => by simp [hy, Builtin.lenOf], by rw [hy, hlen]; exact hcells w, by rw [hy, hlen]; exact hcells w.drew⟩, ?_, ?_, ?_⟩
      · rw [hlen]
        rcases hsz with h0 | h1
        · simp [h0]
        · simp [h1]
      · intro i j q cc hi hj
        rw [List.getElem?_map, Option.map_eq_some_iff] at hi
        obtain ⟨c0, hc0, rfl⟩ := hi
        cases j with
        | zero =>
          simp only [AV.cells, List.getElem?_cons_zero, Option.some.injEq] at hj
          subst hj
          have h1 : ei.sz = 1 := by
            rcases hsz with h0 | h1
            · have := (List.getElem?_eq_some_iff.1 hc0).1
              simp at this
              omega
            · exact h1
          refine ⟨.int .u8 c0.toNat, ?_, .int _ _⟩
          rw [h1, Nat.mul_one, Nat.add_zero, List.getElem?_map, hc0]
          rfl
        | succ j => simp [AV.cells] at hj
      · intro u hu
        obtain ⟨c0, _, rfl⟩ := List.mem_map.1 hu
        rfl
    · simp at hys

/-- append onto nothing: a new row. -/
theorem goes_append_new (hE : E.Ok) {o : Oper} {x y : Operand} {t u e : TypeId} {ei : TyI} (ho : o.op = .call ⟨.builtin .append, #[x, y], #[t, u]⟩) (H : Sim E G W0 h0 n h s a w)
    (hd : ∀ d, o.dst = some d → d < n) {d : Nat} (hdst : o.dst = some d) (ht : E.P.underlying t = some (.slice e)) (hei : E.ty e = some ei)
    {ys : List AV} (hx : a.eval x = .slice none 0 0) {news : List Value} (hS : Src E.P w u ei.sz ys.length (a.eval y) news) (hnl : news.length = ys.length * ei.sz)
    (hn2 : ∀ (i j : Nat) (q cc : AV), ys[i]? = some q → q.cells[j]? = some cc → ∃ v, news[i * ei.sz + j]? = some v ∧ RepD G h.x w cc v)
    (hpos : 0 < ei.sz) (hby : ys.length * ei.bytes ≤ 140737488355328) (hlen : ys.length ≤ 4611686018427387904) (hok : ys.all (AV.elemOk ei.sz) = true) (tk : Nat) :
    Goes E G W0 h0 n ((s.kill tk).put (some d) (.own tk e ys)) o a w := by
  obtain ⟨inf, z, hi1, hi2, hi3, hz, hzs⟩ := sz_cells (hE.ty e ei hei)
  by_cases hne : ys = []
  · subst hne
    refine goes_new (P := E.P) o (.slice none 0 0) ?_ hdst (H.kill tk) ⟨.sl0 _ _, .inl ⟨rfl, rfl⟩⟩ hd
    have hnil : news = [] := List.eq_nil_of_length_eq_zero (by simpa using hnl)
    subst hnil
    rw [← hi2] at hS
    have := append_zero (P := E.P) (ty := o.type) ht hi1 (by simpa using hS) none 0 0 (Nat.le_refl _)
    simp [execOp, ho, resolve, invoke, builtin, hx, this]
  · have hlp : 0 < ys.length := List.length_pos_iff.2 hne
    have hrun := append_nil (P := E.P) (ty := o.type) ht hi1 hz (by rw [hi2]; exact hS) hlp (by omega) (by rw [hi3]; omega)
    have hge := grownCap_ge w ys.length 0 e
    have hcm := grownCap_le_maxLen w ys.length 0 e (by simp only [maxLen]; omega)
    obtain ⟨hSt, hS⟩ := Sim.newRow H.drew tk (ys.length * ei.sz) (news.toArray ++ Builtin.zeroCells z.cells (grownCap w ys.length 0 e - ys.length)) e
    refine goes_new (P := E.P) o (.slice (some ⟨w.heap.size, 0, none⟩) ys.length (grownCap w ys.length 0 e)) ?_ hdst hS ?_ hd
    · simp only [execOp, ho, resolve, invoke, builtin, hx, Sem.run_bind, Sem.run_pure, Result.andThen_ok, List.map_toArray, List.map_cons, List.map_nil, hrun]
      rfl
    · refine rep_own (i := inf) (heap_new w.drew _) hi1 ?_ hge hcm ?_ ?_ (fun q hq => by rw [hi2]; exact elemOk_len (List.all_eq_true.1 hok q hq)) (fun k j q cc hk hj => ?_)
      · simp only [Array.size_append, List.size_toArray, size_zeroCells, hzs, hnl, hi2, ← Nat.add_mul]
        congr 1
        omega
      · show upd h.r tk (some w.heap.size) tk = _
        simp [upd]
      · show upd h.x w.heap.size (some (ys.length * ei.sz)) w.heap.size = _
        simp [upd, hi2]
      · obtain ⟨v, hv, hrv⟩ := hn2 k j q cc hk hj
        have hrv' : RepD G h.x w.drew cc v := RepD.mono (w := w) (w' := w.drew) (fun ad u h1 h2 => ⟨h1, h2⟩) hrv
        refine ⟨v, ?_, RepD.mono hSt.cell hrv'⟩
        rw [hi2, Array.getElem?_append_left (by have := (List.getElem?_eq_some_iff.1 hv).1; simpa using this)]
        simpa using hv

theorem goes_append (hE : E.Ok) {call : Rec} {draw : Bool} {o : Oper} {x y : Operand} {t u : TypeId} (ho : o.op = .call ⟨.builtin .append, #[x, y], #[t, u]⟩) (H : Sim E G W0 h0 n h s a w)
    (hd : ∀ d, o.dst = some d → d < n) (hs : stepOp E call draw o s = some s') : Goes E G W0 h0 n s' o a w := by
  simp only [stepOp, ho] at hs
  split at hs
  · simp at hs
  · rename_i hcond
    split at hs
    · rename_i d e sz0 by0 z0 hdst ht0
      have ht : E.P.underlying t = some (.slice e) := (hE.ty t _ ht0).und
      split at hs
      · rename_i ei hei
        simp only [Option.bind_eq_some_iff] at hs
        obtain ⟨p, hp, q, hq, ys, hys, hs⟩ := hs
        have hrx := ev_sound H.ctx hp
        have hry := ev_sound H.ctx hq
        have hsrc := fun (hok : ys.all (AV.elemOk ei.sz) = true) => src_sound hE H.ifaces hei ⟨_, ht⟩ hry hys hok
        split at hs
        · rename_i tk ea xs
          split at hs
          · rename_i hc
            obtain ⟨rfl, hpos, hby, hlen, hok⟩ := hc
            simp only [Option.some.injEq] at hs
            subst hs
            obtain ⟨hrd, hown⟩ := hrx
            obtain ⟨news, hS, hnl, hn2, hone⟩ := hsrc hok
            rcases hown with ⟨rfl, hnil⟩ | ⟨g, cap, cs, inf', hv, hb, hi', hcs, hle, hmax, hr, hx, hall⟩
            · exact goes_append_new hE ho H hd hdst ht hei hnil hS hnl hn2 hpos (by simpa using hby) (by simpa using hlen) hok tk
            · obtain ⟨inf, z, hi1, hi2, hi3, hz, hzs⟩ := sz_cells (hE.ty ea ei hei)
              rw [hi1] at hi'
              have hinf := Option.some.inj hi'
              subst hinf
              by_cases hne : ys = []
              · subst hne
                have hnil : news = [] := List.eq_nil_of_length_eq_zero (by simpa using hnl)
                subst hnil
                rw [← hi2] at hS
                have hrun := append_zero (P := E.P) (ty := o.type) ht hi1 (by simpa using hS) (some ⟨g, 0, none⟩) xs.length cap hle
                refine goes_new (P := E.P) o (.slice (some ⟨g, 0, none⟩) xs.length cap) ?_ hdst (H.kill tk) ?_ hd
                · simp [execOp, ho, resolve, invoke, builtin, hv, hrun]
                · rw [List.append_nil]
                  exact ⟨hv ▸ hrd, .inr ⟨g, cap, cs, inf, rfl, hb, hi1, hcs, hle, hmax, hr, hx, hall⟩⟩
              · -- the old elements
                have hold : ∀ (k j : Nat) (q cc : AV), xs[k]? = some q → q.cells[j]? = some cc → ∃ v, cs[k * inf.size + j]? = some v ∧ RepD G h.x w cc v ∧ k * inf.size + j < xs.length * inf.size := by
                  intro k j q cc hk hj
                  rw [hv] at hrd
                  have hxne : xs ≠ [] := by rintro rfl; simp at hk
                  obtain ⟨ad', olds, he, hol, ho1, ho2, _⟩ := row_list H.ifaces hrd hall hxne
                  cases he
                  obtain ⟨v, hv1, hv2⟩ := ho2 k j q cc hk hj
                  have hcell := ho1 _ _ hv1
                  rw [Addr.add_lit] at hcell
                  have hlt : k * inf.size + j < olds.length := (List.getElem?_eq_some_iff.1 hv1).1
                  refine ⟨v, ?_, hv2, by rw [hol] at hlt; exact hlt⟩
                  simpa [World.cell?, hb] using hcell
                have hszxy : ∀ q ∈ xs ++ ys, q.cells.length = inf.size := by
                  intro q hq
                  rcases List.mem_append.1 hq with hq | hq
                  · exact hall q hq
                  · rw [hi2]; exact elemOk_len (List.all_eq_true.1 hok q hq)
                have hnl' : news.length = ys.length * inf.size := by rw [hnl, hi2]
                by_cases hroom : xs.length + ys.length ≤ cap
                · have hfit : xs.length * inf.size + news.length ≤ cs.size := by rw [hnl', hcs, ← Nat.add_mul]; exact Nat.mul_le_mul_right _ hroom
                  have hrun := append_room (P := E.P) (ty := o.type) ht hi1 (by rw [hi2]; exact hS) g xs.length cap cs hb hone hroom hfit
                  have hfitL : xs.length * inf.size + news.length ≤ cs.toList.length := by simpa using hfit
                  obtain ⟨hSt, hS⟩ := Sim.rowIn H (k' := (xs ++ ys).length * inf.size) (new := (cs.toList.take (xs.length * inf.size) ++ news ++ cs.toList.drop (xs.length * inf.size + news.length)).toArray) hr hb hx
                    (Nat.mul_le_mul_right _ (by simp)) (fun j hj => by
                      rw [List.getElem?_toArray, overw_get hfitL, if_pos hj]
                      simp)
                  refine goes_new (P := E.P) o (.slice (some ⟨g, 0, none⟩) (xs ++ ys).length cap) ?_ hdst hS ?_ hd
                  · simp only [execOp, ho, resolve, invoke, builtin, hv, Sem.run_bind, Sem.run_pure, Result.andThen_ok, List.map_toArray, List.map_cons, List.map_nil, hrun, List.length_append]
                  · refine rep_own (i := inf) (setRow_heap w g cs _ ea (0, 0) hb) hi1 ?_ (by rw [List.length_append]; exact hroom) hmax hr ?_ hszxy (fun k j q cc hk hj => ?_)
                    · have := overw_length hfitL
                      simp only [List.size_toArray]
                      rw [this]
                      simpa using hcs
                    · show upd h.x g _ g = _
                      simp [upd]
                    · rw [List.getElem?_toArray, overw_get hfitL]
                      by_cases hk2 : k < xs.length
                      · rw [List.getElem?_append_left hk2] at hk
                        obtain ⟨v, h1, h2, h3⟩ := hold k j q cc hk hj
                        rw [if_pos h3]
                        exact ⟨v, by simpa using h1, RepD.mono hSt.cell h2⟩
                      · rw [List.getElem?_append_right (by omega)] at hk
                        obtain ⟨v, h1, h2⟩ := hn2 _ j q cc hk hj
                        have hlt := (List.getElem?_eq_some_iff.1 h1).1
                        rw [← hi2] at h1 hlt
                        have he : k * inf.size + j = xs.length * inf.size + ((k - xs.length) * inf.size + j) := by
                          rw [← Nat.add_assoc, ← Nat.add_mul]
                          congr 2
                          omega
                        rw [he, if_neg (by omega), if_pos (by omega), Nat.add_sub_cancel_left]
                        exact ⟨v, h1, RepD.mono hSt.cell h2⟩
                · have hxpos : xs ≠ [] ∨ xs = [] := by by_cases h : xs = [] <;> simp [h]
                  have hholds : ∀ (j : Nat) (v : Value), (cs.toList.take (xs.length * inf.size))[j]? = some v → w.cell? ((⟨g, 0, none⟩ : Addr).add j) = some v := by
                    intro j v hj
                    rw [List.getElem?_take] at hj
                    split at hj
                    · rw [Addr.add_lit]
                      simpa [World.cell?, hb] using hj
                    · simp at hj
                  have hlo : (cs.toList.take (xs.length * inf.size)).length = xs.length * inf.size := by
                    have hcsl : cs.toList.length = cap * inf.size := by simpa using hcs
                    rw [List.length_take, hcsl]
                    exact Nat.min_eq_left (Nat.mul_le_mul_right _ hle)
                  have hrun := append_grow (P := E.P) (ty := o.type) ht hi1 hz (by rw [hi2]; exact hS) ⟨g, 0, none⟩ xs.length cap _ hlo hholds (by omega) (by omega) (growslice_fits (by omega) (by rw [hi3]; exact hby))
                  have hge := grownCap_ge w (xs.length + ys.length) cap ea
                  have hcm := grownCap_le_maxLen w (xs.length + ys.length) cap ea (by simp only [maxLen]; omega)
                  obtain ⟨hSt, hS⟩ := Sim.newRow H.drew tk ((xs ++ ys).length * inf.size) ((cs.toList.take (xs.length * inf.size)).toArray ++ news.toArray ++ Builtin.zeroCells z.cells (grownCap w (xs.length + ys.length) cap ea - (xs.length + ys.length))) ea
                  refine goes_new (P := E.P) o (.slice (some ⟨w.heap.size, 0, none⟩) (xs ++ ys).length (grownCap w (xs.length + ys.length) cap ea)) ?_ hdst hS ?_ hd
                  · simp only [execOp, ho, resolve, invoke, builtin, hv, Sem.run_bind, Sem.run_pure, Result.andThen_ok, List.map_toArray, List.map_cons, List.map_nil, hrun, List.length_append]
                    rfl
                  · refine rep_own (i := inf) (heap_new w.drew _) hi1 ?_ (by rw [List.length_append]; exact hge) hcm ?_ ?_ hszxy (fun k j q cc hk hj => ?_)
                    · simp only [Array.size_append, List.size_toArray, size_zeroCells, hzs, hlo, hnl', ← hi2, ← Nat.add_mul]
                      congr 1
                      omega
                    · show upd h.r tk (some w.heap.size) tk = _
                      simp [upd]
                    · show upd h.x w.heap.size _ w.heap.size = _
                      simp [upd]
                    · have hlist : (cs.toList.take (xs.length * inf.size)).toArray ++ news.toArray ++ Builtin.zeroCells z.cells (grownCap w (xs.length + ys.length) cap ea - (xs.length + ys.length)) =
                          (cs.toList.take (xs.length * inf.size) ++ news ++ (Builtin.zeroCells z.cells (grownCap w (xs.length + ys.length) cap ea - (xs.length + ys.length))).toList).toArray := by
                        apply Array.ext'
                        simp
                      have hlist' : ∀ (k : Nat) (v : Value), (cs.toList.take (xs.length * inf.size) ++ (news ++ (Builtin.zeroCells z.cells (grownCap w (xs.length + ys.length) cap ea - (xs.length + ys.length))).toList))[k]? = some v →
                          ((cs.toList.take (xs.length * inf.size)).toArray ++ news.toArray ++ Builtin.zeroCells z.cells (grownCap w (xs.length + ys.length) cap ea - (xs.length + ys.length)))[k]? = some v := by
                        intro k v hk
                        rw [hlist, List.getElem?_toArray, List.append_assoc]
                        exact hk
                      have hmono : ∀ {cc v}, RepD G h.x w cc v → RepD G h.x w.drew cc v := fun hh => RepD.mono (w := w) (w' := w.drew) (fun ad u h1 h2 => ⟨h1, h2⟩) hh
                      by_cases hk2 : k < xs.length
                      · rw [List.getElem?_append_left hk2] at hk
                        obtain ⟨v, h1, h2, h3⟩ := hold k j q cc hk hj
                        refine ⟨v, hlist' _ _ ?_, RepD.mono hSt.cell (hmono h2)⟩
                        rw [List.getElem?_append_left (by rw [hlo]; exact h3), List.getElem?_take, if_pos h3]
                        simpa using h1
                      · rw [List.getElem?_append_right (by omega)] at hk
                        obtain ⟨v, h1, h2⟩ := hn2 _ j q cc hk hj
                        have hlt := (List.getElem?_eq_some_iff.1 h1).1
                        rw [← hi2] at h1 hlt
                        have he : k * inf.size + j = xs.length * inf.size + ((k - xs.length) * inf.size + j) := by
                          rw [← Nat.add_assoc, ← Nat.add_mul]
                          congr 2
                          omega
                        refine ⟨v, hlist' _ _ ?_, RepD.mono hSt.cell (hmono h2)⟩
                        rw [he, List.getElem?_append_right (by rw [hlo]; omega), hlo, Nat.add_sub_cancel_left, List.getElem?_append_left hlt]
                        exact h1
          · simp at hs
        · split at hs
          · rename_i hc
            obtain ⟨hpos, hby, hlen, hok⟩ := hc
            simp only [Option.some.injEq] at hs
            subst hs
            have hx0 : a.eval x = .slice none 0 0 := by
              have hr' : RepD G h.x w .nilS (a.eval x) := hrx
              generalize a.eval x = v at hr'
              cases hr'
              rfl
            obtain ⟨news, hS, hnl, hn2, hone⟩ := hsrc hok
            exact goes_append_new hE ho H hd hdst ht hei hx0 hS hnl hn2 hpos hby hlen hok (tokS d)
          · simp at hs
        · simp at hs
      · simp at hs
    · simp at hs
end
end Go.Avm

/-
  The abstract machine, part 9: rows that are written out or made with room; every operation that is no call.
-/
namespace Go.Avm
set_option linter.unusedVariables false
set_option linter.unusedSimpArgs false

theorem fill_row (sz : Nat) : ∀ (vs : List Value) (k : Nat) (pre rest : List Value) (us : Array Value), us.toList = pre ++ rest → pre.length = k * sz → rest.length = vs.length * sz → (∀ v ∈ vs, v.cells.size = sz) →
    ∃ r, Instr.fill (fun i => some (i * sz, sz)) us ((vs.zipIdx k).map fun p => (p.2, p.1)) = some r ∧ r.toList = pre ++ vs.flatMap (fun v => v.cells.toList)
  | [], k, pre, rest, us, hu, hp, hr, _ => by
    have : rest = [] := List.eq_nil_of_length_eq_zero (by simpa using hr)
    subst this
    exact ⟨us, rfl, by simpa using hu⟩
  | v :: vs, k, pre, rest, us, hu, hp, hr, hall => by
    have hv : v.cells.size = sz := hall v List.mem_cons_self
    have hlen : us.size = pre.length + rest.length := by rw [← Array.length_toList, hu, List.length_append]
    have hr' : rest.length = vs.length * sz + sz := by rw [hr, List.length_cons, Nat.add_mul, Nat.one_mul]
    have harr : (v.cells.zipIdx.foldl (fun cs (c, j) => cs.setIfInBounds (k * sz + j) c) us).toList = (pre ++ v.cells.toList) ++ rest.drop sz := by
      have := foldl_zip v.cells.toList 0 (k * sz) us (by simp; omega)
      rw [← Array.foldl_toList, Array.toList_zipIdx]
      simp only [Nat.add_zero] at this
      rw [this, hu, ← hp, List.take_left']
      · rw [List.drop_append]
        have e : pre.length + v.cells.toList.length - pre.length = sz := by simp [hv]
        rw [e, List.drop_eq_nil_of_le (by omega)]
        simp
      · rfl
    obtain ⟨r, h1, h2⟩ := fill_row sz vs (k + 1) (pre ++ v.cells.toList) (rest.drop sz) (v.cells.zipIdx.foldl (fun cs (c, j) => cs.setIfInBounds (k * sz + j) c) us) harr
      (by rw [List.length_append, hp, Array.length_toList, hv, Nat.add_mul, Nat.one_mul]) (by rw [List.length_drop, hr']; omega) (fun q hq => hall q (List.mem_cons_of_mem _ hq))
    refine ⟨r, ?_, by rw [h2]; simp⟩
    simp only [List.zipIdx_cons, List.map_cons, Instr.fill]
    rw [if_neg]
    · exact h1
    · have : k * sz + v.cells.size ≤ us.size := by omega
      simp [hv]
      omega

theorem flat_get {α β : Type} {f : α → List β} {sz : Nat} : ∀ (l : List α) (i j : Nat) (y : α) (c : β), (∀ y ∈ l, (f y).length = sz) → l[i]? = some y → (f y)[j]? = some c → (l.flatMap f)[i * sz + j]? = some c
  | [], i, j, y, c, _, hi, _ => by simp at hi
  | a :: l, 0, j, y, c, hall, hi, hj => by
    simp only [List.getElem?_cons_zero, Option.some.injEq] at hi
    subst hi
    rw [List.flatMap_cons, Nat.zero_mul, Nat.zero_add, List.getElem?_append_left (List.getElem?_eq_some_iff.1 hj).1]
    exact hj
  | a :: l, i + 1, j, y, c, hall, hi, hj => by
    have h1 : (f a).length = sz := hall a List.mem_cons_self
    rw [List.flatMap_cons, List.getElem?_append_right (by rw [h1, Nat.add_mul]; omega)]
    have := flat_get l i j y c (fun q hq => hall q (List.mem_cons_of_mem _ hq)) (by simpa using hi) hj
    rw [h1]
    have e : (i + 1) * sz + j - sz = i * sz + j := by rw [Nat.add_mul]; omega
    rw [e]
    exact this

theorem range_swap {α : Type} : ∀ (l : List (Nat × α)) (k : Nat), l.map (·.1) = List.range' k l.length → l = ((l.map (·.2)).zipIdx k).map fun p => (p.2, p.1)
  | [], k, _ => rfl
  | p :: l, k, h => by
    simp only [List.map_cons, List.length_cons, List.range'_succ, List.cons.injEq] at h
    obtain ⟨h1, h2⟩ := h
    have := range_swap l (k + 1) h2
    simp only [List.map_cons, List.zipIdx_cons]
    rw [← this, ← h1]

section
variable {E : Env} {G : Nat → Value} {W0 : World} {h0 h h' : Gh} {n : Nat} {s s' : S} {a : Act} {w w' : World}

theorem goes_buildSlice (hE : E.Ok) {call : Rec} {draw : Bool} {o : Oper} {t : TypeId} {m : Nat} {ps : Array (Nat × Operand)} (ho : o.op = .buildSlice t m ps) (H : Sim E G W0 h0 n h s a w)
    (hd : ∀ d, o.dst = some d → d < n) (hs : stepOp E call draw o s = some s') : Goes E G W0 h0 n s' o a w := by
  simp only [stepOp, ho] at hs
  split at hs
  · rename_i d e sz0 by0 z0 hdst ht0
    have ht : E.P.underlying t = some (.slice e) := (hE.ty t _ ht0).und
    split at hs
    · rename_i ei hei
      simp only [Option.bind_eq_some_iff] at hs
      obtain ⟨l, hl, hs⟩ := hs
      split at hs
      · rename_i hc
        obtain ⟨hidx, hlen, hok, hpos, hbig⟩ := hc
        simp only [Option.some.injEq] at hs
        subst hs
        obtain ⟨inf, z, hi1, hi2, hi3, hz, hzs⟩ := sz_cells (hE.ty e ei hei)
        obtain ⟨hpl, hpr⟩ := partsA_sound H.ctx hl
        have hok' : ∀ p ∈ l, p.2.data = true ∧ p.2.elemOk ei.sz = true := fun p hp => by
          have := List.all_eq_true.1 hok p hp
          simpa using this
        -- the parts as values
        have hparts : (ps.toList.map fun (p : Nat × Operand) => (p.1, a.eval p.2)) = ((ps.toList.map fun p => a.eval p.2).zipIdx 0).map fun p => (p.2, p.1) := by
          have hm : (ps.toList.map fun (p : Nat × Operand) => (p.1, a.eval p.2)).map (·.1) = List.range' 0 (ps.toList.map fun (p : Nat × Operand) => (p.1, a.eval p.2)).length := by
            have e1 : (ps.toList.map fun (p : Nat × Operand) => (p.1, a.eval p.2)).map (·.1) = l.map (·.1) := by
              apply List.ext_getElem?
              intro j
              rw [List.map_map, List.getElem?_map, List.getElem?_map]
              cases hj : ps.toList[j]? with
              | none =>
                have : l.length ≤ j := by have := List.getElem?_eq_none_iff.1 hj; omega
                rw [List.getElem?_eq_none this]; rfl
              | some p =>
                have hlt : j < l.length := by have := (List.getElem?_eq_some_iff.1 hj).1; omega
                have := (hpr j l[j] p (by simp) hj).1
                simp [this, hlt]
            rw [e1, hidx, List.range_eq_range', List.length_map, ← hpl, hlen]
          have := range_swap _ 0 hm
          rw [List.map_map] at this
          exact this
        have hcs : ∀ (j : Nat) (q : Nat × AV) (p : Nat × Operand), l[j]? = some q → ps.toList[j]? = some p → q.2.cells.length = (a.eval p.2).cells.size ∧
            ∀ (k : Nat) (c : AV) (y : Value), q.2.cells[k]? = some c → (a.eval p.2).cells[k]? = some y → RepD G h.x w c y := by
          intro j q p hq hp
          have hq' := hok' q (List.mem_of_getElem? hq)
          exact repD_cells H.ifaces hq'.1 (rep_data hq'.1 (hpr j q p hq hp).2)
        have hvs : ∀ v ∈ (ps.toList.map fun p => a.eval p.2), v.cells.size = ei.sz := by
          intro v hv
          obtain ⟨j, hj, rfl⟩ := List.getElem_of_mem hv
          have hj' : j < ps.toList.length := by simpa using hj
          have hjl : j < l.length := by omega
          have := (hcs j l[j] ps.toList[j] (by simp) (by simp)).1
          rw [List.getElem_map, ← this]
          exact elemOk_len (hok' _ (List.getElem_mem _)).2
        have hmlen : (ps.toList.map fun p => a.eval p.2).length = m := by rw [List.length_map, ← hpl, hlen]
        obtain ⟨r, hr1, hr2⟩ := fill_row ei.sz (ps.toList.map fun p => a.eval p.2) 0 [] (Array.map (fun j => z.cells[j % z.cells.size]!) (Array.range (m * ei.sz))).toList
          (Array.map (fun j => z.cells[j % z.cells.size]!) (Array.range (m * ei.sz))) rfl (by simp) (by simp [hmlen]) hvs
        rw [← hparts] at hr1
        have hrl : r.size = m * ei.sz := by
          have e1 : r.toList.length = (ps.toList.map fun p => a.eval p.2).length * ei.sz := by
            rw [hr2]
            simp only [List.nil_append]
            generalize (ps.toList.map fun p => a.eval p.2) = L at hvs
            clear hmlen hr1 hr2 hparts
            induction L with
            | nil => simp
            | cons q L ih => rw [List.flatMap_cons, List.length_append, ih (fun v hv => hvs v (List.mem_cons_of_mem _ hv)), Array.length_toList, hvs q List.mem_cons_self, List.length_cons, Nat.add_mul]; omega
          rw [hmlen] at e1
          simpa using e1
        have hxlen : (l.map (·.2)).length = m := by simp [hlen]
        have hmax : m ≤ maxLen := by
          have : m ≤ m * ei.sz := Nat.le_mul_of_pos_right m hpos
          simp only [maxLen]; omega
        have hrun : (execOp a.eval o).run E.P w = .ok (.value (.slice (some ⟨w.heap.size, 0, none⟩) m m)) (w.alloc (.cells r e)) := by
          have hb : ¬ (2 ^ 24 < m * ei.sz) := by omega
          have hr1' : Instr.fill (fun i => some (i * ei.sz, ei.sz)) (Array.map (fun j => z.cells[j % z.cells.size]!) (Array.range (m * ei.sz))) (ps.map fun (p : Nat × Operand) => (p.1, a.eval p.2)).toList = some r := by simpa using hr1
          by_cases hm0 : m * ei.sz = 0
          · have e0 : Array.map (fun j => z.cells[j % z.cells.size]!) (Array.range (m * ei.sz)) = #[] := by rw [hm0]; simp [Array.range_zero']
            rw [e0] at hr1'
            have e2 : Array.map (fun _ => (default : Value)) (Array.range 0) = #[] := by simp [Array.range_zero']
            simp only [Array.toList_map] at hr1'
            simp [execOp, ho, Instr.buildSlice, run_underlying ht, sizeOf, typeInfo, hi1, hi2, hm0, newRow]
            rw [e2, hr1']
            simp
          · simp [execOp, ho, Instr.buildSlice, run_underlying ht, sizeOf, typeInfo, zeroValue, hi1, hi2, hz, hb, hm0, newRow] at hr1' ⊢
            simp [hr1']
        have hcell : ∀ {h' : Gh} {w' : World} {tk : Option Nat}, Stp h h' w w' tk → ∀ (k j : Nat) (y c : AV), (l.map (·.2))[k]? = some y → y.cells[j]? = some c → ∃ v, r[k * inf.size + j]? = some v ∧ RepD G h'.x w' c v := by
          intro h' w' tk hSt k j y c hk hj
          rw [List.getElem?_map, Option.map_eq_some_iff] at hk
          obtain ⟨q, hq, rfl⟩ := hk
          have hkl : k < l.length := (List.getElem?_eq_some_iff.1 hq).1
          have hkp : k < ps.toList.length := by omega
          obtain ⟨hc1, hc2⟩ := hcs k q ps.toList[k] hq (by simp)
          have hjl : j < (a.eval ps.toList[k].2).cells.size := by rw [← hc1]; exact (List.getElem?_eq_some_iff.1 hj).1
          refine ⟨(a.eval ps.toList[k].2).cells[j], ?_, RepD.mono hSt.cell (hc2 j c _ hj (by simp))⟩
          have := flat_get (f := fun v : Value => v.cells.toList) (sz := ei.sz) (ps.toList.map fun p => a.eval p.2) k j (a.eval ps.toList[k].2) ((a.eval ps.toList[k].2).cells[j]) (fun y hy => by simpa using hvs y hy) (by rw [List.getElem?_map, List.getElem?_eq_getElem hkp]; rfl) (by simp)
          rw [hi2, ← Array.getElem?_toList, hr2]
          rw [List.nil_append]
          exact this
        have hszs : ∀ y ∈ l.map (·.2), y.cells.length = inf.size := by
          intro y hy
          obtain ⟨p, hp, rfl⟩ := List.mem_map.1 hy
          rw [hi2]; exact elemOk_len (hok' p hp).2
        cases draw with
        | false =>
          obtain ⟨hSt, hS⟩ := Sim.newRow H (tokS d) (m * ei.sz) r e
          refine goes_new (P := E.P) o _ hrun hdst hS ?_ hd
          have key := rep_own (P := E.P) (G := G) (h' := h.addR (tokS d) w.heap.size (m * ei.sz)) (w' := w.alloc (.cells r e)) (t := tokS d) (g := w.heap.size) (cap := m) (e := e) (xs := l.map (·.2)) (cs := r) (i := inf) (heap_new w _) hi1 (by rw [hrl, hi2]) (by rw [hxlen]; exact Nat.le_refl _) hmax
            (by show upd h.r (tokS d) (some w.heap.size) (tokS d) = _; simp [upd]) (by show upd h.x w.heap.size (some (m * ei.sz)) w.heap.size = _; simp [upd, hi2, hxlen]) hszs (hcell hSt)
          rw [hxlen] at key
          exact key
        | true =>
          obtain ⟨hSt, hS⟩ := Sim.newFrozen H (m * ei.sz) r e
          refine goes_new (P := E.P) o _ hrun hdst hS ?_ hd
          have key := rep_own (P := E.P) (G := G) (h' := ⟨upd h.x w.heap.size (some (m * ei.sz)), h.m, upd h.r 0 (some w.heap.size)⟩) (w' := w.alloc (.cells r e)) (t := 0) (g := w.heap.size) (cap := m) (e := e) (xs := l.map (·.2)) (cs := r) (i := inf) (heap_new w _) hi1 (by rw [hrl, hi2]) (by rw [hxlen]; exact Nat.le_refl _) hmax
            (by show upd h.r 0 (some w.heap.size) 0 = _; simp [upd]) (by show upd h.x w.heap.size (some (m * ei.sz)) w.heap.size = _; simp [upd, hi2, hxlen]) hszs (hcell hSt)
          rw [hxlen] at key
          exact key.1
      · simp at hs
    · simp at hs
  · simp at hs

theorem flat_rep {α : Type} (l : List α) (hl : 0 < l.length) : ∀ (n j : Nat), ((List.replicate n l).flatten)[j]? = if j < n * l.length then l[j % l.length]? else none
  | 0, j => by simp
  | n + 1, j => by
    rw [List.replicate_succ, List.flatten_cons]
    by_cases h : j < l.length
    · rw [List.getElem?_append_left h, if_pos (by rw [Nat.add_mul]; omega), Nat.mod_eq_of_lt h]
    · rw [List.getElem?_append_right (by omega), flat_rep l hl n]
      have e : j % l.length = (j - l.length) % l.length := by
        rw [Nat.mod_eq_sub_mod (by omega)]
      rw [e]
      by_cases h2 : j - l.length < n * l.length
      · rw [if_pos h2, if_pos (by rw [Nat.add_mul]; omega)]
      · rw [if_neg h2, if_neg (by rw [Nat.add_mul]; omega)]

theorem goes_makeSlice (hE : E.Ok) {call : Rec} {draw : Bool} {o : Oper} {t : TypeId} {x y : Operand} (ho : o.op = .makeSlice t x y) (H : Sim E G W0 h0 n h s a w)
    (hd : ∀ d, o.dst = some d → d < n) (hs : stepOp E call draw o s = some s') : Goes E G W0 h0 n s' o a w := by
  simp only [stepOp, ho] at hs
  split at hs
  · simp at hs
  split at hs
  · rename_i d e sz0 by0 z0 hdst ht0
    have ht : E.P.underlying t = some (.slice e) := (hE.ty t _ ht0).und
    split at hs
    · rename_i ei hei
      simp only [Option.bind_eq_some_iff] at hs
      obtain ⟨p, hp, q, hq, hs⟩ := hs
      split at hs
      · rename_i kl ml kc c
        split at hs
        · rename_i hc
          obtain ⟨h0', h63, hby, hpos⟩ := hc
          obtain ⟨inf, z0, hi1, hi2, hi3, hz0, hzl, hzl2, hzr⟩ := (hE.ty e ei hei).info
          have hzs : z0.cells.size = ei.sz := by omega
          have hx := rep_int (ev_sound H.ctx hp)
          have hy := rep_int (ev_sound H.ctx hq)
          split at hs
          · rename_i hm0
            simp only [Option.some.injEq] at hs
            subst hs
            subst hm0
            have hrun := run_make (P := E.P) w t e inf z0 ht hi1 hz0 kl kc 0 c (Int.le_refl _) h0' (by rw [hi3]; exact hby) h63
            obtain ⟨hSt, hS⟩ := Sim.newRow H (tokS d) 0 (madeCells z0.cells (c.toNat * inf.size)) e
            refine goes_new (P := E.P) o (.slice (some ⟨w.heap.size, 0, none⟩) 0 c.toNat) ?_ hdst hS ?_ hd
            · simp [execOp, ho, hx, hy, hrun]
            · have key := rep_own (P := E.P) (G := G) (h' := h.addR (tokS d) w.heap.size 0) (w' := w.alloc (.cells (madeCells z0.cells (c.toNat * inf.size)) e)) (t := tokS d) (g := w.heap.size) (cap := c.toNat) (e := e) (xs := []) (cs := madeCells z0.cells (c.toNat * inf.size)) (i := inf) (heap_new w _) hi1 (size_madeCells _ _) (Nat.zero_le _) (by simp only [maxLen]; omega)
                (by show upd h.r (tokS d) (some w.heap.size) (tokS d) = _; simp [upd]) (by show upd h.x w.heap.size (some 0) w.heap.size = _; simp [upd])
                (by simp) (by simp)
              exact key
          · split at hs
            · rename_i hmn
              subst hmn
              split at hs
              · rename_i hnone
                simp only [Option.some.injEq] at hs
                subst hs
                have hrun := run_make (P := E.P) w t e inf z0 ht hi1 hz0 kl kc ml ml h0' (Int.le_refl _) (by rw [hi3]; exact hby) h63
                have hszc : (madeCells z0.cells (ml.toNat * inf.size)).size = ml.toNat * ei.sz := by rw [size_madeCells, hi2]
                have hmk : ((List.replicate ml.toNat ei.zero).flatten).length = (madeCells z0.cells (ml.toNat * inf.size)).toList.length := by
                  have e1 : (madeCells z0.cells (ml.toNat * inf.size)).toList.length = ml.toNat * ei.sz := by rw [Array.length_toList, hszc]
                  have : ((List.replicate ml.toNat ei.zero).flatten).length = ml.toNat * ei.sz := by
                    rw [List.length_flatten, List.map_replicate, List.sum_replicate_nat, hzl2]
                  omega
                have hnew := H.newBox (T := e) hnone (cs := (List.replicate ml.toNat ei.zero).flatten) (vs := (madeCells z0.cells (ml.toNat * inf.size)).toList) ⟨(bid_div e d).symm, .inl hmk⟩ (by omega) (fun j cc u hj hu => by
                  rw [flat_rep ei.zero (by omega)] at hj
                  split at hj
                  · rename_i hlt
                    have hu' : z0.cells[j % z0.cells.size]? = some u := by
                      have hj2 : j < ml.toNat * inf.size := by rw [hi2]; rw [hzl2] at hlt; exact hlt
                      have hmod : j % z0.cells.size < z0.cells.size := Nat.mod_lt _ (by omega)
                      simp only [madeCells, Array.toList_map, List.getElem?_map, Array.getElem?_toList] at hu
                      rw [Array.getElem?_range, if_pos hj2] at hu
                      simp only [Option.map_some, Option.some.injEq] at hu
                      rw [getElem!_pos z0.cells _ hmod] at hu
                      rw [← hu]
                      simp
                    rw [hzl] at hj
                    have := hzr (j % z0.cells.size) cc u hj hu'
                    exact ⟨rep_of_repD_scalar this.rep, repD_tok (G := G) (x := h.x) (w := w) this.rep⟩
                  · simp at hj)
                refine goes_new (P := E.P) o (.slice (some ⟨w.heap.size, 0, none⟩) ml.toNat ml.toNat) ?_ hdst hnew ⟨w.heap.size, ml.toNat, addM_box _ _ _, Nat.le_refl _, rfl⟩ hd
                simp [execOp, ho, hx, hy, hrun]
              · simp at hs
            · simp at hs
        · simp at hs
      · simp at hs
    · simp at hs
  · simp at hs

theorem goes_convert (hE : E.Ok) {call : Rec} {draw : Bool} {o : Oper} {src dst : TypeId} {x : Operand} (ho : o.op = .convert src dst x) (H : Sim E G W0 h0 n h s a w)
    (hd : ∀ d, o.dst = some d → d < n) (hs : stepOp E call draw o s = some s') : Goes E G W0 h0 n s' o a w := by
  simp only [stepOp, ho] at hs
  split at hs
  · rename_i d e b hdst hde hev
    split at hs
    · rename_i hcond
      simp only [Bool.and_eq_true] at hcond
      obtain ⟨hu8, hsrc⟩ := hcond
      obtain ⟨si, hsi⟩ := Option.isSome_iff_exists.1 hsrc
      obtain ⟨hue, _⟩ := isU8_und hE hu8
      have hud : E.P.underlying dst = some (.slice e) := und_of hE hde
      have hus : ∃ u, E.P.underlying src = some u := by
        have hu1 := (hE.ty src si hsi).und
        cases hd1 : si.d <;> simp only [hd1, Und] at hu1 <;> first | exact ⟨_, hu1⟩ | (obtain ⟨x, y, z, hu1⟩ := hu1; exact ⟨_, hu1⟩) | (obtain ⟨x, y⟩ := hu1; first | exact ⟨_, y⟩ | exact ⟨_, y.1⟩)
      obtain ⟨u, hus⟩ := hus
      split at hs
      · rename_i hnone
        simp only [Option.some.injEq] at hs
        subst hs
        have hrun := Lib.run_convert_string_bytes (P := E.P) w src dst e b hus hud hue
        have hst := rep_str (ev_sound H.ctx hev)
        have hcl : (Lib.bytesCells w e b).size = b.size + (grownCap w b.size 0 e - b.size) := by simp [Lib.bytesCells]
        have hnew := H.newBoxW (w' := Lib.bytesWorld w e b) (T := e) hnone (cs := b.data.toList.map fun c => AV.int .u8 c.toNat) (vs := (Lib.bytesCells w e b).toList) (fz := ((Lib.bytesCells w e b).size, (Lib.bytesCells w e b).size + 1)) ⟨(bid_div e d).symm, .inr hue⟩
          (by
            have e1 : (Lib.bytesCells w e b).toList.length = (Lib.bytesCells w e b).size := Array.length_toList
            have e2 : (b.data.toList.map fun c => AV.int .u8 c.toNat).length = b.size := by simp
            omega) (Lib.bytesWorld_size w e b) (fun g hg => Lib.bytesWorld_at_old w e b g hg) (by rw [Array.toArray_toList]; exact Lib.bytesWorld_at_new w e b)
          (.inr (by simp)) rfl rfl rfl (fun j c v hj hv => by
            rw [List.getElem?_map, Option.map_eq_some_iff] at hj
            obtain ⟨c0, hc0, rfl⟩ := hj
            refine ⟨?_, rfl⟩
            have hlt : j < b.data.size := by have := (List.getElem?_eq_some_iff.1 hc0).1; simpa using this
            have hv' : v = .int .u8 c0.toNat := by
              rw [Array.getElem?_toList] at hv
              simp only [Lib.bytesCells] at hv
              rw [Array.getElem?_append_left (by simpa using hlt)] at hv
              rw [Array.getElem?_map] at hv
              have : b.data[j]? = some c0 := by simpa using hc0
              rw [this] at hv
              simpa using hv.symm
            rw [hv']
            exact mk_int _ _ _)
        refine goes_new (P := E.P) o (.slice (some ⟨w.heap.size, 0, none⟩) b.size (grownCap w b.size 0 e)) ?_ hdst hnew ⟨w.heap.size, _, addM_box _ _ _, ?_, rfl⟩ hd
        · simp [execOp, ho, hst, hrun]
        · exact grownCap_ge w b.size 0 e
      · simp at hs
    · simp at hs
  · rename_i k i m hde hev
    split at hs
    · rename_i e hse
      split at hs
      · rename_i hu8
        simp only [Option.bind_eq_some_iff] at hs
        obtain ⟨cs, hcs, hs⟩ := hs
        split at hs
        · rename_i hfit
          simp only [Option.bind_eq_some_iff, Option.some.injEq] at hs
          obtain ⟨ns, hns, rfl⟩ := hs
          obtain ⟨hue, _⟩ := isU8_und hE hu8
          have hud : E.P.underlying dst = some .string := und_of hE hde
          have hus : E.P.underlying src = some (.slice e) := und_of hE hse
          obtain ⟨g, cap, hg, hmc, hA⟩ := ev_sound H.ctx hev
          obtain ⟨g', vs, T, fz, k1, ⟨k2, _, _⟩, k3, k4, k5⟩ := H.boxes k i cs hcs
          rw [hg] at k1
          cases k1
          have hxs := intsA_get hns
          have hlen : ns.length = m := by
            have := congrArg List.length hxs
            simp at this
            omega
          have hld : (loadCells ⟨g, 0, none⟩ m).run E.P w = .ok (ns.map (Value.int .u8)).toArray w := by
            have := run_loadCells_list (P := E.P) w ⟨g, 0, none⟩ (ns.map (Value.int .u8)) (fun j v hj => by
              rw [List.getElem?_map, Option.map_eq_some_iff] at hj
              obtain ⟨z, hz, rfl⟩ := hj
              have hjm : j < m := by have := (List.getElem?_eq_some_iff.1 hz).1; omega
              have h1 : cs[j]? = some (.int .u8 z) := by
                have h2 : (cs.take m)[j]? = some (.int .u8 z) := by rw [hxs, List.getElem?_map, hz]; rfl
                rwa [List.getElem?_take_of_lt hjm] at h2
              have hjv : j < vs.length := by omega
              have h3 := rep_int (k5 j _ vs[j] h1 (by simp)).1
              rw [Addr.add_lit]
              simp [World.cell?, k2, hjv, h3])
            rw [List.length_map, hlen] at this
            exact this
          have hgo := run_bytesToString (P := E.P) w ⟨g, 0, none⟩ m cap ns hld
          refine ⟨h, w, .inl ⟨.string (pushAll ns), ?_, H.put (mk_str _ _) hd⟩⟩
          simp only [execOp, ho, Sem.run_bind, Go.convert, run_underlying hus, run_underlying hud, hA, Result.andThen_ok]
          simp [run_underlying hue, hgo, pushAll]
        · simp at hs
      · simp at hs
    · simp at hs
  · simp only [Option.bind_eq_some_iff, Option.some.injEq] at hs
    obtain ⟨v, hv, rfl⟩ := hs
    obtain ⟨u, h1, h2⟩ := valOp_sound hE H.ctx (o := o) (by rw [ho]; exact hv)
    exact ⟨h, w, .inl ⟨u, h1, H.put h2 hd⟩⟩
end
end Go.Avm

/-
  The abstract machine, part 10: one operation, a call among them, leads a state to the machine's next state.
-/
namespace Go.Avm
set_option linter.unusedVariables false
set_option linter.unusedSimpArgs false

/-- What a call finds. -/
structure Start (E : Env) (G : Nat → Value) (h : Gh) (w : World) (args : List AV) (rest : List BX) (vals : Array Value) : Prop where
  len : args.length = vals.size
  args : ∀ (j : Nat) (c : AV) (v : Value), args[j]? = some c → vals[j]? = some v → Rep E.P G h w c v
  boxes : ∀ d i cs, lookR rest d i = some cs → BoxOK E.P G h w (d + 1) i cs
  none0 : ∀ d i, lookR rest d i = none → h.m (d + 1) i = none
  m0 : ∀ i, h.m 0 i = none
  rows : ∀ t g, h.r t = some g → g < w.heap.size ∧ ∀ d i, h.m d i ≠ some g
  rinj : ∀ t t' g, h.r t = some g → h.r t' = some g → t = t'
  inj : ∀ d i d' i' g, h.m d i = some g → h.m d' i' = some g → d = d' ∧ i = i'
  mlt : ∀ d i g, h.m d i = some g → g < w.heap.size
  glob : ∀ g cs, E.glob g = some cs → RepD G h.x w (.el cs) (.pointer (some ⟨g, 0, none⟩))
  ifaces : ∀ g, ∃ T u, G g = .iface T u
  err : Pins E G h w

def OutV (P : Program) (G : Nat → Value) (h : Gh) (w : World) : List AV → Value → Prop
  | [r], v => Rep P G h w r v ∧ r.strip.data = true
  | rs, v => ∃ vs : List Value, v = .tuple vs.toArray ∧ rs.length = vs.length ∧ ∀ (j : Nat) (c : AV) (u : Value), rs[j]? = some c → vs[j]? = some u → RepD G h.x w c.strip u

/-- What it leaves. -/
structure Post (E : Env) (G : Nat → Value) (h0 : Gh) (w : World) (rs : List AV) (rest' : List BX) (h' : Gh) (v : Value) (w' : World) : Prop where
  hsize : w.heap.size ≤ w'.heap.size
  os : w'.os = w.os
  tape : w'.tape = w.tape
  output : w'.output = w.output
  kept : ∀ g, g < w.heap.size → (∀ d i, h0.m (d + 1) i ≠ some g) → (∀ t, h0.r t ≠ some g) → w'.heap[g]? = w.heap[g]?
  xold : ∀ g, g < w.heap.size → (∀ t, h0.r t ≠ some g) → h'.x g = h0.x g
  froz : ∀ ad u, w.cell? ad = some u → St h0.x ad → w'.cell? ad = some u ∧ St h'.x ad
  outer : ∀ d i, h'.m (d + 1) i = h0.m (d + 1) i
  boxes : ∀ d i cs, lookR rest' d i = some cs → BoxOK E.P G h' w' (d + 1) i cs
  none0 : ∀ d i, lookR rest' d i = none → h0.m (d + 1) i = none
  rows : ∀ t g, h'.r t = some g → (w.heap.size ≤ g ∨ ∃ t', h0.r t' = some g) ∧ g < w'.heap.size ∧ ∀ d i, h'.m d i ≠ some g
  rinj : ∀ t t' g, h'.r t = some g → h'.r t' = some g → t = t'
  out : OutV E.P G h' w' rs v

/-- A call of a function with a body, or of one that the model has no body for. -/
def CallsX (P : Program) (f : FuncId) (vals : Array Value) (w : World) (R : Value → World → Prop) : Prop :=
  ((callFunc f vals).run P w = .ok (.enter f vals) w ∧ Calls P f vals w fun | .returned v, w' => R v w' | _, _ => False) ∨
  ∃ v w', (callFunc f vals).run P w = .ok (.value v) w' ∧ R v w'

def CallOK (E : Env) (f : FuncId) (args : List AV) (rest : List BX) (rs : List AV) (rest' : List BX) : Prop :=
  ∀ (G : Nat → Value) (h0 : Gh) (w : World) (vals : Array Value), Start E G h0 w args rest vals → CallsX E.P f vals w fun v w' => ∃ h', Post E G h0 w rs rest' h' v w'

/-- A function's contract. -/
def SpecOK (E : Env) (f : FuncId) (g : List AV → List BX → Option (List AV × List BX)) : Prop := ∀ args rest rs rest', g args rest = some (rs, rest') → CallOK E f args rest rs rest'

section
variable {E : Env} {G : Nat → Value} {W0 : World} {h0 h h' : Gh} {n : Nat} {s s' : S} {a : Act} {w w' : World}

def Moves (E : Env) (G : Nat → Value) (W0 : World) (h0 : Gh) (n : Nat) (s' : S) (o : Oper) (a : Act) (w : World) : Prop :=
  ∀ (next : Act → World → Prop) (Q : Exit → Act → World → Prop), (∀ h' a' w', Sim E G W0 h0 n h' s' a' w' → next a' w') → o.wp E.P a w next Q

theorem Goes.moves {o : Oper} (H : Goes E G W0 h0 n s' o a w) : Moves E G W0 h0 n s' o a w := by
  intro next Q hn
  obtain ⟨h', w', ⟨u, h1, h2⟩ | ⟨h1, h2⟩⟩ := H
  · unfold Oper.wp
    rw [h1]
    exact hn _ _ _ h2
  · unfold Oper.wp
    rw [h1]
    exact hn _ _ _ h2

theorem stepOp_goes (hE : E.Ok) {call : Rec} {draw : Bool} {o : Oper} (hnc : ∀ f xs ts, o.op ≠ .call ⟨.value f, xs, ts⟩) (H : Sim E G W0 h0 n h s a w)
    (hd : ∀ d, o.dst = some d → d < n) (hs : stepOp E call draw o s = some s') : Goes E G W0 h0 n s' o a w := by
  have hs0 := hs
  unfold stepOp at hs
  split at hs
  · rename_i heq; exact goes_nil hE heq H hd hs0
  · rename_i heq; exact goes_load hE heq H hd hs0
  · rename_i heq; exact goes_store hE heq H hs0
  · rename_i heq; exact goes_alloc hE heq H hd hs0
  · rename_i heq; exact goes_box hE heq H hd hs0
  · rename_i heq; exact goes_buildSlice hE heq H hd hs0
  · rename_i heq; exact goes_makeSlice hE heq H hd hs0
  · rename_i heq; exact goes_append hE heq H hd hs0
  · rename_i heq; exact absurd heq (hnc _ _ _)
  · rename_i heq; exact goes_convert hE heq H hd hs0
  · simp only [Option.bind_eq_some_iff, Option.some.injEq] at hs
    obtain ⟨v, hv, rfl⟩ := hs
    obtain ⟨u, h1, h2⟩ := valOp_sound hE H.ctx hv
    exact ⟨h, w, .inl ⟨u, h1, H.put h2 hd⟩⟩

/-- Values that are no row of one's own are seen the same whoever looks. -/
theorem rep_same {P : Program} {c : AV} {v : Value} (hn : ∀ t e xs, c ≠ .own t e xs) (hx : h'.x = h.x) (hm : ∀ d i, h'.m d i = h.m d i) (H : Rep P G h w c v) : Rep P G h' w c v := by
  have hmm : h'.m = h.m := by funext d i; exact hm d i
  cases c with
  | own t e xs => exact absurd rfl (hn _ _ _)
  | box d i off => obtain ⟨g, h1, h2⟩ := H; exact ⟨g, by rw [hm]; exact h1, h2⟩
  | bs d i n => obtain ⟨g, cap, h1, h2⟩ := H; exact ⟨g, cap, by rw [hm]; exact h1, h2⟩
  | fn f caps =>
    obtain ⟨vs, h1, h2, h3⟩ := H
    exact ⟨vs, h1, h2, fun j c u hj hu => by rw [hx, hmm]; exact h3 j c u hj hu⟩
  | _ => show RepD G h'.x w _ v; rw [hx]; exact H

/-- The caller's state behind a call. -/
theorem Sim.called (H : Sim E G W0 h0 n h s a w) {s2 : S} (hslots : ∀ i, Rep E.P G h' w' (s2.fr i) (a.tmps.getD i undef)) (hos : w'.os = w.os) (htape : w'.tape = w.tape) (hout : w'.output = w.output)
    (hsz : w.heap.size ≤ w'.heap.size) (hcell : ∀ ad u, w.cell? ad = some u → St h.x ad → w'.cell? ad = some u ∧ St h'.x ad)
    (hkept : ∀ g, g < W0.heap.size → (∀ d i, h0.m (d + 1) i ≠ some g) → (∀ t, h0.r t ≠ some g) → w'.heap[g]? = w.heap[g]? ∧ h'.x g = h.x g)
    (hxW : ∀ g, g < W0.heap.size → (∀ t, h0.r t ≠ some g) → h'.x g = h.x g)
    (hrows : ∀ t g, h'.r t = some g → (W0.heap.size ≤ g ∨ ∃ t', h0.r t' = some g) ∧ g < w'.heap.size ∧ ∀ d i, h.m d i ≠ some g) (hrinj : ∀ t t' g, h'.r t = some g → h'.r t' = some g → t = t')
    (hm : h'.m = h.m) (hboxes : ∀ d i cs, s2.look d i = some cs → BoxOK E.P G h' w' d i cs) (hnone : ∀ d i, s2.look d i = none → h.m d i = none) :
    Sim E G W0 h0 n h' s2 a w' :=
  { defers := H.defers
    size := H.size
    slots := hslots
    boxes := hboxes
    none0 := fun d i hi => by rw [hm]; exact hnone d i hi
    outer := fun d i => by rw [hm]; exact H.outer d i
    inj := by rw [hm]; exact H.inj
    base := by rw [hm]; exact H.base
    mlt := fun d i g h1 => Nat.lt_of_lt_of_le (H.mlt d i g (by rw [← hm]; exact h1)) hsz
    rows := fun t g h1 => by rw [hm]; exact hrows t g h1
    rinj := hrinj
    os := hos.trans H.os
    tape := htape.trans H.tape
    output := hout.trans H.output
    hsize := Nat.le_trans H.hsize hsz
    kept := fun g h1 h2 h3 => (hkept g h1 h2 h3).1.trans (H.kept g h1 h2 h3)
    xold := fun g h1 h2 => (hxW g h1 h2).trans (H.xold g h1 h2)
    froz := fun ad u h1 h2 => by
      obtain ⟨h3, h4⟩ := H.froz ad u h1 h2
      exact hcell ad u h3 h4
    glob := fun g cs hg => RepD.mono hcell (H.glob g cs hg)
    ifaces := H.ifaces
    err0 := H.err0 }

theorem putRes_other {s : S} {draw : Bool} {dst : Option Nat} {v : AV} (hn : ∀ t e xs, v ≠ .own t e xs) : s.putRes draw dst [v] = s.put dst v := by
  cases v <;> first | rfl | exact absurd rfl (hn _ _ _)

theorem rep_data_x {P : Program} {c : AV} {v : Value} (hd : c.data = true) (hx : h'.x = h.x) (H : Rep P G h w c v) : Rep P G h' w c v :=
  rep_of_data (by rw [hx]; exact rep_data hd H) hd

/-- A result comes back. -/
theorem Sim.result (H : Sim E G W0 h0 n h s a w) {hc : Gh} {rs : List AV} {v : Value} (hout : OutV E.P G hc w rs v) (hx : hc.x = h.x)
    (hrow : ∀ t g, t % 2 = 0 → hc.r t = some g → (W0.heap.size ≤ g ∨ ∃ t', h0.r t' = some g) ∧ g < w.heap.size ∧ (∀ d i, h.m d i ≠ some g) ∧ ∀ t', h.r t' ≠ some g) {draw : Bool} {dst : Option Nat} (hd : ∀ d, dst = some d → d < n) :
    ∃ h2, Sim E G W0 h0 n h2 (s.putRes draw dst rs) (a.put dst v) w := by
  have hmany : ∀ rs : List AV, (∃ vs : List Value, v = .tuple vs.toArray ∧ rs.length = vs.length ∧ ∀ (j : Nat) (c : AV) (u : Value), rs[j]? = some c → vs[j]? = some u → RepD G hc.x w c.strip u) →
      Rep E.P G h w (.tup (rs.map AV.strip)) v := by
    rintro rs ⟨vs, rfl, hl, hr⟩
    refine RepD.tup _ vs (by simpa using hl) (fun j c u hj hu => ?_)
    rw [List.getElem?_map, Option.map_eq_some_iff] at hj
    obtain ⟨c0, hc0, rfl⟩ := hj
    rw [← hx]
    exact hr j c0 u hc0 hu
  match rs, hout with
  | [], ho => exact ⟨h, H.put (hmany [] ho) hd⟩
  | [r], ho =>
    obtain ⟨hr, hdat⟩ := ho
    by_cases hown : ∃ t e xs, r = .own t e xs
    · obtain ⟨t, e, xs, rfl⟩ := hown
      have hsl : Rep E.P G h w (.sl xs) v := by have := hr.1; rw [hx] at this; exact this
      match draw, dst, hd with
      | true, dst, hd => exact ⟨h, H.put hsl hd⟩
      | false, none, hd => exact ⟨h, H.put hsl hd⟩
      | false, some d, hd =>
        show ∃ h2, Sim E G W0 h0 n h2 (if t % 2 = 1 then s.put (some d) (.sl xs) else (s.kill (tokS d)).put (some d) (.own (tokS d) e xs)) (a.put (some d) v) w
        split
        · exact ⟨h, H.put hsl hd⟩
        · rename_i hpar
          obtain ⟨h1, h2⟩ := hr
          rw [hx] at h1
          rcases h2 with h2 | ⟨g, cap, cs, i, e1, e2, e3, e4, e5, e6, e7, e8, e9⟩
          · exact ⟨h, (H.kill (tokS d)).put (v := .own (tokS d) e xs) ⟨h1, .inl h2⟩ hd⟩
          · obtain ⟨k1, k2, k3, k4⟩ := hrow t g (by omega) e7
            refine ⟨_, (H.giveRow (t := tokS d) k1 k2 k3 k4).put (v := .own (tokS d) e xs) ⟨h1, .inr ⟨g, cap, cs, i, e1, e2, e3, e4, e5, e6, ?_, ?_, e9⟩⟩ hd⟩
            · show upd h.r (tokS d) (some g) (tokS d) = some g
              simp [upd]
            · show h.x g = _
              rw [← hx]; exact e8
    · have hn : ∀ t e xs, r ≠ .own t e xs := fun t e xs he => hown ⟨t, e, xs, he⟩
      rw [putRes_other hn]
      have hst : r.strip = r := by cases r <;> first | rfl | exact absurd rfl (hn _ _ _)
      rw [hst] at hdat
      exact ⟨h, H.put (rep_data_x hdat hx.symm hr) hd⟩
  | r1 :: r2 :: rs, ho =>
    have he : s.putRes draw dst (r1 :: r2 :: rs) = s.put dst (.tup ((r1 :: r2 :: rs).map AV.strip)) := by cases r1 <;> rfl
    rw [he]
    exact ⟨h, H.put (hmany _ ho) hd⟩

theorem shift_rep {P : Program} {hc : Gh} {c : AV} {v : Value} (hn : ∀ t e xs, c ≠ .own t e xs) (hx : hc.x = h.x) (hm : ∀ d i, hc.m (d + 1) i = h.m d i) (H : Rep P G h w c v) : Rep P G hc w (c.shift 1) v := by
  cases c with
  | own t e xs => exact absurd rfl (hn _ _ _)
  | box d i off => obtain ⟨g, h1, h2⟩ := H; exact ⟨g, by rw [hm]; exact h1, h2⟩
  | bs d i n => obtain ⟨g, cap, h1, h2⟩ := H; exact ⟨g, cap, by rw [hm]; exact h1, h2⟩
  | fn f caps =>
    obtain ⟨vs, h1, h2, h3⟩ := H
    refine ⟨vs, h1, by simp [h2], fun j c u hj hu => ?_⟩
    rw [List.getElem?_map, Option.map_eq_some_iff] at hj
    obtain ⟨c0, hc0, rfl⟩ := hj
    have := h3 j c0 u hc0 hu
    cases c0 <;> first
      | (obtain ⟨g, h4, h5⟩ := this; exact ⟨g, by rw [hm]; exact h4, h5⟩)
      | (have h6 : RepD G h.x w _ u := this; rw [← hx] at h6; exact h6)
      | exact this
  | _ => show RepD G hc.x w _ v; rw [hx]; exact H

theorem argsA_strip {ρ : Operand → Option AV} : ∀ {ps : List Operand} {l : List AV}, argsA ρ ps = some l → ∀ c ∈ l, ∀ t e xs, c ≠ .own t e xs
  | [], l, hl, c, hc => by simp [argsA] at hl; subst hl; simp at hc
  | x :: r, l, hl, c, hc => by
    simp only [argsA, Option.bind_eq_some_iff] at hl
    obtain ⟨v, hv, l', hl', heq⟩ := hl
    simp only [Option.some.injEq] at heq
    subst heq
    rcases List.mem_cons.1 hc with rfl | hc
    · exact strip_not_own v
    · exact argsA_strip hl' c hc

/-- The arguments of a call, captured variables behind them. -/
theorem call_args (H : Sim E G W0 h0 n h s a w) {f : Operand} {xs : Array Operand} {g : FuncId} {caps l : List AV} (hf : E.ev s.fr f = some (.fn g caps)) (hl : argsA (E.ev s.fr) xs.toList = some l) :
    ∃ vals : Array Value, (∀ o : Oper, ∀ ts, o.op = .call ⟨.value f, xs, ts⟩ → (execOp a.eval o).run E.P w = (callFunc g vals).run E.P w) ∧
      (l ++ caps).length = vals.size ∧ (∀ (j : Nat) (c : AV) (v : Value), (l ++ caps)[j]? = some c → vals[j]? = some v → Rep E.P G h w c v ∧ ∀ t e xs, c ≠ .own t e xs) := by
  obtain ⟨vs, h1, h2, h3⟩ := ev_sound H.ctx hf
  obtain ⟨h4, h5⟩ := argsA_sound H.ctx hl
  refine ⟨xs.map a.eval ++ vs.toArray, fun o ts ho => ?_, by simp [h4, h2], fun j c v hj hv => ?_⟩
  · simp only [execOp, ho, resolve, h1, Deferred.ofValue, Sem.run_bind, Sem.run_pure, Result.andThen_ok, invoke]
    simp
  · have h4' : l.length = xs.size := by simpa using h4
    by_cases hlt : j < l.length
    · rw [List.getElem?_append_left hlt] at hj
      rw [Array.getElem?_append_left (by simp; omega)] at hv
      simp only [Array.getElem?_map, Option.map_eq_some_iff] at hv
      obtain ⟨p, hp, rfl⟩ := hv
      exact ⟨h5 j c p hj (by simpa using hp), argsA_strip hl c (List.mem_of_getElem? hj)⟩
    · rw [List.getElem?_append_right (by omega)] at hj
      rw [Array.getElem?_append_right (by simp; omega)] at hv
      have hv' : vs[j - l.length]? = some v := by simpa [h4] using hv
      have hc := h3 _ c v hj hv'
      refine ⟨?_, fun t e xs he => by subst he; exact hc⟩
      cases c <;> first
        | exact hc.elim
        | exact hc
        | (obtain ⟨e1, e2⟩ := hc; subst e1; exact ⟨[], e2, rfl, by simp⟩)

/-- Either way of a call ends with the rest of the walk. -/
theorem wp_callsX {o : Oper} {f : Operand} {xs : Array Operand} {ts : Array TypeId} {g : FuncId} {vals : Array Value} (ho : o.op = .call ⟨.value f, xs, ts⟩)
    (hrun : ∀ o : Oper, ∀ ts, o.op = .call ⟨.value f, xs, ts⟩ → (execOp a.eval o).run E.P w = (callFunc g vals).run E.P w) {R : Value → World → Prop} (hX : CallsX E.P g vals w R)
    {next : Act → World → Prop} {Q : Exit → Act → World → Prop} (hn : ∀ v w', R v w' → next (a.put o.dst v) w') : o.wp E.P a w next Q := by
  unfold Oper.wp
  rw [hrun o ts ho]
  rcases hX with ⟨h1, h2⟩ | ⟨v, w', h1, h2⟩
  · rw [h1, Oper.upon_enter]
    refine Calls.mono h2 (fun e w' he => ?_)
    cases e with
    | returned v => exact hn v w' he
    | panicked c => exact False.elim he
    | outgrown => exact he.elim
  · rw [h1, Oper.upon_value]
    exact hn v w' h2

theorem moves_call (hE : E.Ok) {call : Rec} (hcall : ∀ f args rest rs rest', call f args rest = some (rs, rest') → CallOK E f args rest rs rest') {draw : Bool} {o : Oper} {f : Operand} {xs : Array Operand} {ts : Array TypeId}
    (ho : o.op = .call ⟨.value f, xs, ts⟩) (H : Sim E G W0 h0 n h s a w) (hd : ∀ d, o.dst = some d → d < n) (hs : stepOp E call draw o s = some s') : Moves E G W0 h0 n s' o a w := by
  simp only [stepOp, ho] at hs
  simp only [Option.bind_eq_some_iff] at hs
  obtain ⟨fv, hfv, hs⟩ := hs
  have hbx : ∀ d i g, h.m d i = some g → h.x g = some 0 := by
    intro d i g hm
    cases hl : s.look d i with
    | none => rw [H.none0 d i hl] at hm; cases hm
    | some cs =>
      obtain ⟨g', vs, T, fz, k1, k2, k3, _⟩ := H.boxes d i cs hl
      rw [hm] at k1
      cases k1
      exact k3
  split at hs
  · rename_i g caps
    simp only [Option.bind_eq_some_iff] at hs
    obtain ⟨l, hl, hs⟩ := hs
    obtain ⟨vals, hrun, hlen, hargs⟩ := call_args H hfv hl
    split at hs
    · -- data alone
      rename_i hdat
      simp only [Option.bind_eq_some_iff] at hs
      obtain ⟨⟨rs, rest'⟩, hc, hs⟩ := hs
      simp only at hs
      split at hs
      · rename_i hemp
        simp only [Option.some.injEq] at hs
        subst hs
        have hok := hcall _ _ _ _ _ hc
        intro next Q hnext
        have hst : Start E G ⟨h.x, fun _ _ => none, fun _ => none⟩ w (l ++ caps) [] vals :=
          { len := hlen
            args := fun j c v hj hv => rep_data_x (h := h) (h' := ⟨h.x, fun _ _ => none, fun _ => none⟩) (List.all_eq_true.1 hdat c (List.mem_of_getElem? hj)) rfl (hargs j c v hj hv).1
            boxes := fun d i cs hl => by simp [lookR] at hl
            none0 := fun d i _ => rfl
            m0 := fun _ => rfl
            rows := fun t g h1 => by simp at h1
            rinj := fun t t' g h1 => by simp at h1
            inj := fun d i d' i' g h1 => by simp at h1
            mlt := fun d i g h1 => by simp at h1
            glob := H.glob
            ifaces := H.ifaces
            err := H.pins.mono (fun b h1 _ _ => ⟨rfl, h1, fun _ _ he => (by cases he), fun _ he => (by cases he)⟩) }
        refine wp_callsX ho hrun (hok G _ w vals hst) (fun v w' ⟨h', hp⟩ => ?_)
        have hkept : ∀ g, g < w.heap.size → w'.heap[g]? = w.heap[g]? := fun g hg => hp.kept g hg (by simp) (by simp)
        have hxo : ∀ g, g < w.heap.size → h'.x g = h.x g := fun g hg => hp.xold g hg (by simp)
        have hStp : Stp h ⟨h'.x, h.m, h.r⟩ w w' none := by
          refine ⟨fun ad u h1 h2 => hp.froz ad u h1 h2, fun _ _ _ h1 => h1, fun t g _ h1 => ?_⟩
          have hlt := (H.rows t g h1).2.1
          exact ⟨hkept g hlt, h1, hxo g hlt⟩
        have hS2 : Sim E G W0 h0 n ⟨h'.x, h.m, h.r⟩ s a w' := by
          refine Sim.called H (fun i => Rep.stp hStp (H.slots i)) hp.os hp.tape hp.output hp.hsize hp.froz
            (fun g hg _ _ => ⟨hkept g (Nat.lt_of_lt_of_le hg H.hsize), hxo g (Nat.lt_of_lt_of_le hg H.hsize)⟩) (fun g hg _ => hxo g (Nat.lt_of_lt_of_le hg H.hsize))
            (fun t g hg => ⟨(H.rows t g hg).1, Nat.lt_of_lt_of_le (H.rows t g hg).2.1 hp.hsize, (H.rows t g hg).2.2⟩) H.rinj rfl (fun d i cs hl => ?_) H.none0
          have := BoxOK.stp hStp (H.boxes d i cs hl) (fun g hg => ⟨hkept g (H.mlt d i g hg), hxo g (H.mlt d i g hg)⟩)
          rwa [map_killO_none] at this
        obtain ⟨h2, hS3⟩ := hS2.result (hc := h') (rs := rs) (v := v) hp.out rfl (fun t g _ hg => by
          obtain ⟨k1, k2, k3⟩ := hp.rows t g hg
          have k1 : w.heap.size ≤ g := by
            rcases k1 with k1 | ⟨t', k1⟩
            · exact k1
            · simp at k1
          refine ⟨.inl (Nat.le_trans H.hsize k1), k2, fun d i he => ?_, fun t' he => ?_⟩
          · have := H.mlt d i g he; omega
          · have := (H.rows t' g he).2.1; omega) (draw := draw) (dst := o.dst) hd
        exact hnext _ _ _ hS3
      · simp at hs
    · split at hs
      · simp at hs
      · rename_i hndat hndraw
        simp only [Option.bind_eq_some_iff] at hs
        obtain ⟨⟨rs, rest'⟩, hc, hs⟩ := hs
        simp only at hs
        split at hs
        · rename_i bx' rest''
          simp only [Option.some.injEq] at hs
          subst hs
          have hok := hcall _ _ _ _ _ hc
          intro next Q hnext
          have hlk : ∀ d i, lookR (s.bx :: s.rest) d i = s.look d i := fun _ _ => rfl
          let hc0 : Gh := ⟨h.x, fun d i => if d = 0 then none else h.m (d - 1) i, fun t => if t % 2 = 1 then h.r t else none⟩
          have hcm : ∀ d i, hc0.m (d + 1) i = h.m d i := fun d i => by show (if d + 1 = 0 then none else h.m (d + 1 - 1) i) = _; simp
          have hcr : ∀ t g, hc0.r t = some g → h.r t = some g ∧ t % 2 = 1 := by
            intro t g hg
            have hg : (if t % 2 = 1 then h.r t else none) = some g := hg
            split at hg
            · rename_i hp; exact ⟨hg, hp⟩
            · cases hg
          have hst : Start E G hc0 w ((l ++ caps).map (AV.shift 1)) (s.bx :: s.rest) vals :=
            { len := by rw [List.length_map]; exact hlen
              args := fun j c v hj hv => by
                rw [List.getElem?_map, Option.map_eq_some_iff] at hj
                obtain ⟨c0, hc0', rfl⟩ := hj
                obtain ⟨k1, k2⟩ := hargs j c0 v hc0' hv
                exact shift_rep (h := h) (hc := hc0) k2 rfl hcm k1
              boxes := fun d i cs hl => by
                obtain ⟨g, vs, T, fz, k2, k3, k4, k5, k6⟩ := H.boxes d i cs hl
                refine ⟨g, vs, T, fz, by rw [hcm]; exact k2, k3, k4, k5, fun j c u hj hu => ?_⟩
                obtain ⟨k7, k8⟩ := k6 j c u hj hu
                refine ⟨?_, k8⟩
                by_cases hown : ∃ t e xs, c = .own t e xs
                · obtain ⟨t, e, xs, rfl⟩ := hown
                  have hodd : t % 2 = 1 := by simpa [AV.tokOk] using k8
                  obtain ⟨m1, m2⟩ := k7
                  refine ⟨m1, ?_⟩
                  rcases m2 with m2 | ⟨g, cap, cs, i, e1, e2, e3, e4, e5, e6, e7, e8, e9⟩
                  · exact .inl m2
                  · exact .inr ⟨g, cap, cs, i, e1, e2, e3, e4, e5, e6, by show (if t % 2 = 1 then h.r t else none) = some g; rw [if_pos hodd]; exact e7, e8, e9⟩
                · exact rep_same (h := h.sh d) (h' := hc0.sh (d + 1)) (fun t e xs he => hown ⟨t, e, xs, he⟩) rfl (fun d' i' => by
                    show hc0.m (d + 1 + d') i' = h.m (d + d') i'
                    rw [show d + 1 + d' = (d + d') + 1 by omega, hcm]) k7
              none0 := fun d i hl => by rw [hcm]; exact H.none0 d i hl
              m0 := fun _ => rfl
              rows := fun t g hg => by
                obtain ⟨k1, k2⟩ := hcr t g hg
                refine ⟨(H.rows t g k1).2.1, fun d i he => ?_⟩
                cases d with
                | zero => cases he
                | succ d => rw [hcm] at he; exact (H.rows t g k1).2.2 d i he
              rinj := fun t t' g h1 h2 => H.rinj t t' g (hcr t g h1).1 (hcr t' g h2).1
              inj := fun d i d' i' g h1 h2 => by
                cases d with
                | zero => cases h1
                | succ d =>
                  cases d' with
                  | zero => cases h2
                  | succ d' =>
                    rw [hcm] at h1 h2
                    have := H.inj d i d' i' g h1 h2
                    exact ⟨by omega, this.2⟩
              mlt := fun d i g h1 => by
                cases d with
                | zero => cases h1
                | succ d => rw [hcm] at h1; exact H.mlt d i g h1
              glob := H.glob
              ifaces := H.ifaces
              err := H.pins.mono (fun b h1 h2 h3 => ⟨rfl, h1, fun d i he => (by
                cases d with
                | zero => cases he
                | succ d => rw [hcm] at he; exact h2 d i he), fun t he => h3 t (hcr t b he).1⟩) }
          refine wp_callsX ho hrun (hok G hc0 w vals hst) (fun v w' ⟨h', hp⟩ => ?_)
          have hmo : ∀ d i, h'.m (d + 1) i = h.m d i := fun d i => by rw [hp.outer]; exact hcm d i
          have hkept : ∀ g, g < w.heap.size → (∀ d i, h.m d i ≠ some g) → (∀ t, hc0.r t ≠ some g) → w'.heap[g]? = w.heap[g]? := fun g hg hno hnr => hp.kept g hg (fun d i => by rw [hcm]; exact hno d i) hnr
          have hxo : ∀ g, g < w.heap.size → (∀ t, hc0.r t ≠ some g) → h'.x g = h.x g := fun g hg hnr => hp.xold g hg hnr
          let h2 : Gh := ⟨h'.x, h.m, fun t => if t % 2 = 1 then h'.r t else h.r t⟩
          have hr2 : ∀ t g, h2.r t = some g → (t % 2 = 1 ∧ h'.r t = some g) ∨ (t % 2 = 0 ∧ h.r t = some g) := by
            intro t g hg
            have hg : (if t % 2 = 1 then h'.r t else h.r t) = some g := hg
            split at hg
            · rename_i hp; exact .inl ⟨hp, hg⟩
            · rename_i hp; exact .inr ⟨by omega, hg⟩
          have heven : ∀ t g, t % 2 = 0 → h.r t = some g → ∀ t', hc0.r t' ≠ some g := by
            intro t g hp hg t' ht'
            obtain ⟨k1, k2⟩ := hcr t' g ht'
            have := H.rinj _ _ _ hg k1
            omega
          have holdrow : ∀ t g, h'.r t = some g → (W0.heap.size ≤ g ∨ ∃ t', h0.r t' = some g) ∧ g < w'.heap.size ∧ ∀ d i, h.m d i ≠ some g := by
            intro t g hg
            obtain ⟨k1, k2, k3⟩ := hp.rows t g hg
            refine ⟨?_, k2, fun d i he => k3 (d + 1) i (by rw [hmo]; exact he)⟩
            rcases k1 with k1 | ⟨t', k1⟩
            · exact .inl (Nat.le_trans H.hsize k1)
            · exact (H.rows t' g (hcr t' g k1).1).1
          have hcross : ∀ t t' g, h'.r t = some g → t' % 2 = 0 → h.r t' = some g → False := by
            intro t t' g h1 h3 h4
            rcases (hp.rows t g h1).1 with k1 | ⟨t'', k1⟩
            · have := (H.rows t' g h4).2.1; omega
            · exact heven t' g h3 h4 t'' k1
          have hS2 : Sim E G W0 h0 n h2 { fr := fun i => dropB (s.fr i), bx := bx', rest := rest'' } a w' := by
            refine Sim.called H (fun i => ?_) hp.os hp.tape hp.output hp.hsize hp.froz (fun g hg hno hnr => ?_) (fun g hg hnr => ?_) (fun t g hg => ?_) (fun t t' g h1 h3 => ?_) rfl (fun d i cs hl => ?_) (fun d i hl => ?_)
            · -- slots
              show Rep E.P G h2 w' (dropB (s.fr i)) _
              have hsl := H.slots i
              cases hf : s.fr i with
              | own t e xs =>
                rw [hf] at hsl
                simp only [dropB]
                split
                · exact rep_any _
                · rename_i hpar
                  obtain ⟨m1, m2⟩ := hsl
                  refine ⟨RepD.mono hp.froz m1, ?_⟩
                  rcases m2 with m2 | ⟨g, cap, cs, i, e1, e2, e3, e4, e5, e6, e7, e8, e9⟩
                  · exact .inl m2
                  · obtain ⟨k1, k2, k3⟩ := H.rows t g e7
                    have hno := heven t g (by omega) e7
                    exact .inr ⟨g, cap, cs, i, e1, (hkept g k2 k3 hno).trans e2, e3, e4, e5, e6, by show (if t % 2 = 1 then h'.r t else h.r t) = some g; rw [if_neg hpar]; exact e7, (hxo g k2 hno).trans e8, e9⟩
              | _ =>
                rw [hf] at hsl
                have hn : ∀ t e xs, s.fr i ≠ .own t e xs := by rw [hf]; simp
                have h3 := Rep.stp (h := ⟨h.x, h.m, fun _ => none⟩) (h' := ⟨h'.x, h.m, fun _ => none⟩) (w := w) (w' := w') (tk := none) ⟨hp.froz, fun _ _ _ k => k, fun t g _ k => by cases k⟩
                  (rep_same (h := h) (h' := ⟨h.x, h.m, fun _ => none⟩) (by rw [hf] at hn; exact hn) rfl (fun _ _ => rfl) hsl)
                exact rep_same (h := ⟨h'.x, h.m, fun _ => none⟩) (h' := h2) (by rw [hf] at hn; exact hn) rfl (fun _ _ => rfl) h3
            · have hlt : g < w.heap.size := Nat.lt_of_lt_of_le hg H.hsize
              have h4 : ∀ t, hc0.r t ≠ some g := fun t ht => by
                rcases (H.rows t g (hcr t g ht).1).1 with k | ⟨t', k⟩
                · omega
                · exact hnr t' k
              refine ⟨hkept g hlt (fun d i he => ?_) h4, hxo g hlt h4⟩
              cases d with
              | zero => have := H.base i g he; omega
              | succ d => rw [H.outer] at he; exact hno d i he
            · have hlt : g < w.heap.size := Nat.lt_of_lt_of_le hg H.hsize
              exact hxo g hlt (fun t ht => by
                rcases (H.rows t g (hcr t g ht).1).1 with k | ⟨t', k⟩
                · omega
                · exact hnr t' k)
            · rcases hr2 t g hg with ⟨_, k⟩ | ⟨_, k⟩
              · exact holdrow t g k
              · obtain ⟨k1, k2, k3⟩ := H.rows t g k
                exact ⟨k1, Nat.lt_of_lt_of_le k2 hp.hsize, k3⟩
            · rcases hr2 t g h1 with ⟨p1, k1⟩ | ⟨p1, k1⟩ <;> rcases hr2 t' g h3 with ⟨p2, k2⟩ | ⟨p2, k2⟩
              · exact hp.rinj _ _ _ k1 k2
              · exact (hcross t t' g k1 p2 k2).elim
              · exact (hcross t' t g k2 p1 k1).elim
              · exact H.rinj _ _ _ k1 k2
            · obtain ⟨g, vs, T, fz, k2, k3, k4, k5, k6⟩ := hp.boxes d i cs hl
              refine ⟨g, vs, T, fz, by rw [← hmo]; exact k2, k3, k4, k5, fun j c u hj hu => ?_⟩
              obtain ⟨k7, k8⟩ := k6 j c u hj hu
              refine ⟨?_, k8⟩
              by_cases hown : ∃ t e xs, c = .own t e xs
              · obtain ⟨t, e, xs, rfl⟩ := hown
                have hodd : t % 2 = 1 := by simpa [AV.tokOk] using k8
                obtain ⟨m1, m2⟩ := k7
                refine ⟨m1, ?_⟩
                rcases m2 with m2 | ⟨g, cap, cs, i, e1, e2, e3, e4, e5, e6, e7, e8, e9⟩
                · exact .inl m2
                · exact .inr ⟨g, cap, cs, i, e1, e2, e3, e4, e5, e6, by show (if t % 2 = 1 then h'.r t else h.r t) = some g; rw [if_pos hodd]; exact e7, e8, e9⟩
              · exact rep_same (h := h'.sh (d + 1)) (h' := h2.sh d) (fun t e xs he => hown ⟨t, e, xs, he⟩) rfl (fun d' i' => by
                  show h.m (d + d') i' = h'.m (d + 1 + d') i'
                  rw [show d + 1 + d' = (d + d') + 1 by omega, hmo]) k7
            · have := hp.none0 d i hl
              rwa [hcm] at this
          obtain ⟨h3, hS3⟩ := hS2.result (hc := h') (rs := rs) (v := v) hp.out rfl (fun t g hpar hg => by
            obtain ⟨k1, k2, k3⟩ := holdrow t g hg
            refine ⟨k1, k2, k3, fun t' ht' => ?_⟩
            rcases hr2 t' g ht' with ⟨p1, k4⟩ | ⟨p1, k4⟩
            · have := hp.rinj _ _ _ hg k4; omega
            · exact hcross t t' g hg p1 k4) (draw := draw) (dst := o.dst) hd
          exact hnext _ _ _ hS3
        · simp at hs
  · simp at hs

/-- One operation. -/
theorem stepOp_moves (hE : E.Ok) {call : Rec} (hcall : ∀ f args rest rs rest', call f args rest = some (rs, rest') → CallOK E f args rest rs rest') {draw : Bool} {o : Oper}
    (H : Sim E G W0 h0 n h s a w) (hd : ∀ d, o.dst = some d → d < n) (hs : stepOp E call draw o s = some s') : Moves E G W0 h0 n s' o a w := by
  by_cases hc : ∃ f xs ts, o.op = .call ⟨.value f, xs, ts⟩
  · obtain ⟨f, xs, ts, ho⟩ := hc
    exact moves_call hE hcall ho H hd hs
  · exact (stepOp_goes hE (fun f xs ts he => hc ⟨f, xs, ts, he⟩) H hd hs).moves

theorem wanted_of_bool (H : Sim E G W0 h0 n h s a w) {ops : Array Oper} {o : Oper} {j g : Nat} {want b : Bool} (hg : o.guard = some (j, want)) (hj : (ops[j]?).bind (·.dst) = some g) (hb : s.fr g = .bool b) :
    Region.wanted o (yielded ops a.tmps) = decide (b = want) := by
  have h1 := H.slots g
  rw [hb] at h1
  have h2 := rep_bool h1
  have h3 : a.tmps[g]? = some (.bool b) := by
    simp only [Array.getD_eq_getD_getElem?] at h2
    cases he : a.tmps[g]? with
    | none => rw [he] at h2; simp [undef] at h2
    | some v => rw [he] at h2; simpa using h2
  have h4 : yielded ops a.tmps j = some b := by unfold yielded; rw [hj]; simp [h3]
  simp only [Region.wanted, hg, h4]
  by_cases hbw : b = want <;> simp [hbw]

theorem rep_undef (P : Program) : Rep P G h w (.tup []) undef := RepD.tup [] [] rfl (by simp)

theorem wanted_of_tup (H : Sim E G W0 h0 n h s a w) {ops : Array Oper} {o : Oper} {j g : Nat} {want : Bool} {vs : List AV} (hg : o.guard = some (j, want)) (hj : (ops[j]?).bind (·.dst) = some g) (hb : s.fr g = .tup vs) :
    Region.wanted o (yielded ops a.tmps) = false := by
  have h1 := H.slots g
  rw [hb] at h1
  have h1 : RepD G h.x w (.tup vs) (a.tmps.getD g undef) := h1
  generalize hv : a.tmps.getD g undef = v at h1
  cases h1 with
  | tup _ us hl hr =>
    have h4 : yielded ops a.tmps j = none := by
      unfold yielded
      rw [hj]
      simp only [Array.getD_eq_getD_getElem?] at hv
      cases he : a.tmps[g]? with
      | none => simp [he]
      | some v => rw [he] at hv; simp at hv; simp [he, hv]
    simp [Region.wanted, hg, h4]

/-- One operation of a region, its guard looked at. -/
theorem stepReg_op (hE : E.Ok) {call : Rec} (hcall : ∀ f args rest rs rest', call f args rest = some (rs, rest') → CallOK E f args rest rs rest') {draw : Bool} {ops : Array Oper} {i : Nat} {o : Oper} (hi : ops[i]? = some o)
    (H : Sim E G W0 h0 n h s a w) (hd : ∀ d, o.dst = some d → d < n) (hs : stepReg E call draw ops o s = some s') {Q : Exit → Act → World → Prop} {K : Act → World → Prop}
    (hK : ∀ h' a' w', Sim E G W0 h0 n h' s' a' w' → K a' w') : wpOp E.P ops Q i K a w := by
  unfold wpOp
  simp only [hi]
  unfold stepReg at hs
  split at hs
  · rename_i hg
    have : Region.wanted o (yielded ops a.tmps) = true := by simp [Region.wanted, hg]
    rw [if_pos this]
    exact .inl (stepOp_moves hE hcall H hd hs K Q hK)
  · rename_i j want hg
    split at hs
    · rename_i g hj
      split at hs
      · rename_i b hb
        have hw := wanted_of_bool H (ops := ops) hg hj hb
        split at hs
        · rename_i hbw
          rw [if_pos (by rw [hw]; simpa using hbw)]
          exact .inl (stepOp_moves hE hcall H hd hs K Q hK)
        · rename_i hbw
          rw [if_neg (by rw [hw]; simpa using hbw)]
          simp only [Option.some.injEq] at hs
          subst hs
          exact hK _ _ _ (H.put (rep_undef _) hd)
      · rename_i vs hb
        rw [if_neg (by rw [wanted_of_tup H (ops := ops) hg hj hb]; simp)]
        simp only [Option.some.injEq] at hs
        subst hs
        exact hK _ _ _ (H.put (rep_undef _) hd)
      · simp at hs
    · simp at hs
end
end Go.Avm
