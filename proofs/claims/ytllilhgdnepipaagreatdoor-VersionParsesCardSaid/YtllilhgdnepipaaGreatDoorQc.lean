-- Merged by a small program of this claim's maker out of 4 texts.
import Derived.Test.YtllilhgdnepipaaGreatDoorQb
import Derived.Scope

/-
  The abstract machine, part 11: in a region whose order is drawn the operations may change places (as the check of the region's table says).
-/
namespace Go.Avm
set_option linter.unusedVariables false
set_option linter.unusedSimpArgs false

section
variable {E : Env} {call : Rec}

theorem partsA_congr {ρ ρ' : Operand → Option AV} : ∀ (ps : List (Nat × Operand)), (∀ p ∈ ps, ρ p.2 = ρ' p.2) → partsA ρ ps = partsA ρ' ps
  | [], _ => rfl
  | (i, x) :: r, h => by simp only [partsA]; rw [h (i, x) List.mem_cons_self, partsA_congr r (fun p hp => h p (List.mem_cons_of_mem _ hp))]

theorem argsA_congr {ρ ρ' : Operand → Option AV} : ∀ (ps : List Operand), (∀ p ∈ ps, ρ p = ρ' p) → argsA ρ ps = argsA ρ' ps
  | [], _ => rfl
  | x :: r, h => by simp only [argsA]; rw [h x List.mem_cons_self, argsA_congr r (fun p hp => h p (List.mem_cons_of_mem _ hp))]

theorem mapM_congr' {ρ ρ' : Operand → Option AV} : ∀ (ps : List Operand), (∀ p ∈ ps, ρ p = ρ' p) → ps.mapM ρ = ps.mapM ρ'
  | [], _ => rfl
  | x :: r, h => by simp only [List.mapM_cons]; rw [h x List.mem_cons_self, mapM_congr' r (fun p hp => h p (List.mem_cons_of_mem _ hp))]

theorem valOp_congr {ρ ρ' : Operand → Option AV} (op : Op) (h : ∀ x ∈ op.operands, ρ x = ρ' x) : valOp E ρ op = valOp E ρ' op := by
  have hps : ∀ ps : Array (Nat × Operand), (∀ x ∈ (ps.toList.map (·.2)).toArray, ρ x = ρ' x) → partsA ρ ps.toList = partsA ρ' ps.toList := fun ps hp =>
    partsA_congr _ fun p hm => hp p.2 (by simpa using ⟨p.1, by simpa using hm⟩)
  cases op with
  | build t ps => simp only [valOp, hps ps (by simpa [Op.operands] using h)]
  | makeFunc fn first caps =>
    have hc : caps.toList.mapM ρ = caps.toList.mapM ρ' := mapM_congr' _ fun p hp => h p (by simp [Op.operands]; exact .inr (by simpa using hp))
    unfold valOp
    split <;> simp_all
  | slice t x lo hi mx =>
    have hx : ρ x = ρ' x := h x (by simp [Op.operands])
    have hlo : boundA ρ 0 lo = boundA ρ' 0 lo := by
      cases lo with
      | none => rfl
      | some y => simp only [boundA]; rw [h y (by simp [Op.operands])]
    have hhi : ∀ d, boundA ρ d hi = boundA ρ' d hi := by
      intro d
      cases hi with
      | none => rfl
      | some y => simp only [boundA]; rw [h y (by simp [Op.operands])]
    cases mx with
    | none => simp only [valOp, hx, hlo, hhi]
    | some _ => rfl
  | call c =>
    obtain ⟨callee, args, ats⟩ := c
    cases callee with
    | value f => rfl
    | invoke r m => rfl
    | builtin b =>
      have ha : ∀ x ∈ args, ρ x = ρ' x := fun x hx => h x (by simp [Op.operands, Call.operands, hx])
      obtain ⟨al⟩ := args
      cases b <;> try rfl
      case max =>
        match al with
        | [x, y] => simp only [valOp]; rw [ha x (by simp), ha y (by simp)]
        | [] => rfl
        | [_] => rfl
        | _ :: _ :: _ :: _ => rfl
      case min =>
        match al with
        | [x, y] => simp only [valOp]; rw [ha x (by simp), ha y (by simp)]
        | [] => rfl
        | [_] => rfl
        | _ :: _ :: _ :: _ => rfl
      obtain ⟨tl⟩ := ats
      match al, tl with
      | [x], [t] => simp only [valOp]; rw [ha x (by simp)]
      | [], _ => rfl
      | _ :: _ :: _, _ => rfl
      | [_], [] => rfl
      | [_], _ :: _ :: _ => rfl
  | pick c a b => simp only [Op.operands, valOp] at h ⊢; rw [h c (by simp), h a (by simp), h b (by simp)]
  | binOp op t x y t' => simp only [Op.operands, valOp] at h ⊢; rw [h x (by simp), h y (by simp)]
  | indexAddr t x i => simp only [Op.operands, valOp] at h ⊢; rw [h x (by simp), h i (by simp)]
  | index t x i => simp only [Op.operands, valOp] at h ⊢; rw [h x (by simp), h i (by simp)]
  | move x => simp only [Op.operands, valOp] at h ⊢; rw [h x (by simp)]
  | assign x => simp only [Op.operands, valOp] at h ⊢; rw [h x (by simp)]
  | unOp op t x => simp only [Op.operands, valOp] at h ⊢; rw [h x (by simp)]
  | convert t t' x => simp only [Op.operands, valOp] at h ⊢; rw [h x (by simp)]
  | nilCheck x => simp only [Op.operands, valOp] at h ⊢; rw [h x (by simp)]
  | fieldAddr t x f => simp only [Op.operands, valOp] at h ⊢; rw [h x (by simp)]
  | field t x f => simp only [Op.operands, valOp] at h ⊢; rw [h x (by simp)]
  | extract x i => simp only [Op.operands, valOp] at h ⊢; rw [h x (by simp)]
  | _ => rfl

def resV : List AV → AV
  | [.own _ _ xs] => .sl xs
  | [v] => v
  | rs => .tup (rs.map AV.strip)

theorem putRes_draw (s : S) (dst : Option Nat) (rs : List AV) : s.putRes true dst rs = s.put dst (resV rs) := by
  match rs with
  | [] => rfl
  | [v] => cases v <;> rfl
  | a :: b :: r => cases a <;> rfl

def setBx (bx : BX) (d j : Nat) (cs : List AV) : BX := match d with
  | 0 => upd bx j (some cs)
  | _ + 1 => bx
def setRest (rest : List BX) (d j : Nat) (cs : List AV) : List BX := match d with
  | 0 => rest
  | d + 1 => rest.modify d (fun f => upd f j (some cs))

/-- What an operation does where the order is drawn: the variables behind it and the value of its slot. -/
def eff (E : Env) (call : Rec) (ρ : Operand → Option AV) (o : Oper) (bx : BX) (rest : List BX) : Option (BX × List BX × AV) :=
  match o.op with
  | .assign (.const (.slice none 0 0)) => some (bx, rest, .nilS)
  | .load t x => match E.ty t with
    | some i => (ρ x).bind fun v => match v with
      | .el cs => (loadA i cs 0).bind fun v => some (bx, rest, v)
      | .box d j off => (lookR (bx :: rest) d j).bind fun cs => (loadA i cs off).bind fun v => some (bx, rest, v.shift d)
      | _ => none
    | none => none
  | .store t x y => match o.dst, E.ty t with
    | none, some i => (ρ x).bind fun p => (ρ y).bind fun v => match p with
      | .box d j off => match v with
        | .own .. => none
        | v => (lookR (bx :: rest) d j).bind fun cs =>
          if v.cells.all AV.one = true ∧ v.cells.length = i.sz ∧ off + v.cells.length ≤ cs.length ∧ (d = 0 ∨ v.data = true) then some (setBx bx d j (overw cs off v.cells), setRest rest d j (overw cs off v.cells), .any) else none
      | _ => none
    | _, _ => none
  | .alloc t => match o.dst, E.ty t with
    | some d, some i => match bx (bid t d) with
      | none => some (upd bx (bid t d) (some i.zero), rest, .box 0 (bid t d) 0)
      | some _ => none
    | _, _ => none
  | .box t x => match o.dst with
    | some d => match bx (bid t d) with
      | none => (ρ x).bind fun v => if v.cells.all AV.one = true then some (upd bx (bid t d) (some v.strip.cells), rest, .box 0 (bid t d) 0) else none
      | some _ => none
    | none => none
  | .buildSlice t n ps => match o.dst, E.ty t with
    | some d, some ⟨.slice e, _, _, _⟩ => match E.ty e with
      | some ei => (partsA ρ ps.toList).bind fun l =>
          if l.map (·.1) = List.range n ∧ l.length = n ∧ (l.all fun p => p.2.data && p.2.elemOk ei.sz) = true ∧ 0 < ei.sz ∧ n * ei.sz ≤ 16777216
          then some (bx, rest, .sl (l.map (·.2))) else none
      | none => none
    | _, _ => none
  | .makeSlice .. => none
  | .call ⟨.builtin .append, ⟨[_, _]⟩, ⟨[_, _]⟩⟩ => none
  | .call ⟨.value f, xs, _⟩ => (ρ f).bind fun fv => match fv with
    | .fn g caps => (argsA ρ xs.toList).bind fun l =>
        if (l ++ caps).all AV.data = true then (call g (l ++ caps) []).bind fun r => if r.2.isEmpty then some (bx, rest, resV r.1) else none else none
    | _ => none
  | .convert src dst x => (valOp E ρ (.convert src dst x)).bind fun v => some (bx, rest, v)
  | op => (valOp E ρ op).bind fun v => some (bx, rest, v)

def S.eff (s : S) (dst : Option Nat) (r : BX × List BX × AV) : S := ({ s with bx := r.1, rest := r.2.1 } : S).put dst r.2.2

theorem stepOp_eff (o : Oper) (s : S) : stepOp E call true o s = (eff E call (E.ev s.fr) o s.bx s.rest).map (s.eff o.dst) := by
  unfold stepOp Avm.eff
  split
  · rename_i heq; simp only [heq]; cases o.dst <;> rfl
  · rename_i t x heq
    simp only [heq]
    cases hty : E.ty t with
    | none => rfl
    | some i =>
      simp only []
      cases E.ev s.fr x with
      | none => rfl
      | some v =>
        simp only [Option.bind_some]
        cases v <;> try rfl
        · rename_i d j off
          simp only [S.look]
          cases lookR (s.bx :: s.rest) d j with
          | none => rfl
          | some cs => simp only [Option.bind_some]; cases loadA i cs off <;> rfl
        · rename_i cs
          simp only []; cases loadA i cs 0 <;> rfl
  · rename_i t x y heq
    simp only [heq]
    cases hd : o.dst <;> cases hty : E.ty t <;> try rfl
    rename_i i
    simp only []
    cases E.ev s.fr x with
    | none => rfl
    | some p =>
      simp only [Option.bind_some]
      cases E.ev s.fr y with
      | none => rfl
      | some v =>
        simp only [Option.bind_some]
        cases p <;> try rfl
        rename_i d j off
        have hgen : ∀ v : AV, ((s.look d j).bind fun cs => if v.cells.all AV.one = true ∧ v.cells.length = i.sz ∧ off + v.cells.length ≤ cs.length ∧ (d = 0 ∨ v.data = true) then some (s.setB d j (overw cs off v.cells)) else none) =
            ((lookR (s.bx :: s.rest) d j).bind fun cs => if v.cells.all AV.one = true ∧ v.cells.length = i.sz ∧ off + v.cells.length ≤ cs.length ∧ (d = 0 ∨ v.data = true) then
              some (setBx s.bx d j (overw cs off v.cells), setRest s.rest d j (overw cs off v.cells), AV.any) else none).map (s.eff none) := by
          intro v
          simp only [S.look]
          cases lookR (s.bx :: s.rest) d j with
          | none => rfl
          | some cs =>
            simp only [Option.bind_some]
            split
            · cases d <;> rfl
            · rfl
        cases v <;> first | rfl | exact hgen _
  · rename_i t heq
    simp only [heq]
    cases hd : o.dst <;> cases hty : E.ty t <;> try rfl
    rename_i d i
    simp only []
    cases s.bx (bid t d) <;> rfl
  · rename_i t x heq
    simp only [heq]
    cases hd : o.dst <;> try rfl
    rename_i d
    simp only []
    cases s.bx (bid t d) with
    | some _ => rfl
    | none =>
      simp only []
      cases E.ev s.fr x with
      | none => rfl
      | some v => simp only [Option.bind_some]; split <;> rfl
  · rename_i t n ps heq
    simp only [heq]
    cases hd : o.dst with
    | none => rfl
    | some d =>
      cases hty : E.ty t with
      | none => rfl
      | some ti =>
        obtain ⟨td, tsz, tby, tz⟩ := ti
        cases td <;> try rfl
        rename_i e
        simp only []
        cases E.ty e with
        | none => rfl
        | some ei =>
          simp only []
          cases partsA (E.ev s.fr) ps.toList with
          | none => rfl
          | some l => simp only [Option.bind_some]; split <;> rfl
  · rename_i heq; simp only [heq]; rfl
  · rename_i heq; simp only [heq]; simp
  · rename_i f xs ts heq
    simp only [heq]
    cases E.ev s.fr f with
    | none => rfl
    | some fv =>
      simp only [Option.bind_some]
      cases fv <;> try rfl
      rename_i g caps
      simp only []
      cases argsA (E.ev s.fr) xs.toList with
      | none => rfl
      | some l =>
        simp only [Option.bind_some]
        split
        · cases call g (l ++ caps) [] with
          | none => rfl
          | some r =>
            simp only [Option.bind_some]
            split
            · rw [putRes_draw]; rfl
            · rfl
        · rfl
  · rename_i src dst x heq
    simp only [heq]
    have hv : ∀ z : Option AV, (z.bind fun v => some (s.put o.dst v)) = (z.bind fun v => some (s.bx, s.rest, v)).map (s.eff o.dst) := by intro z; cases z <;> rfl
    exact hv _
  · rename_i h1 h2 h3 h4 h5 h6 h7 h8 h9 h10
    split
    · rename_i he; exact absurd he h1
    · rename_i he; exact absurd he (h2 _ _)
    · rename_i he; exact absurd he (h3 _ _ _)
    · rename_i he; exact absurd he (h4 _)
    · rename_i he; exact absurd he (h5 _ _)
    · rename_i he; exact absurd he (h6 _ _ _)
    · rename_i he; exact absurd he (h7 _ _ _)
    · rename_i he; exact absurd he (h8 _ _ _ _)
    · rename_i he; exact absurd he (h9 _ _ _)
    · rename_i he; exact absurd he (h10 _ _ _)
    · cases valOp E (E.ev s.fr) o.op <;> rfl

theorem eff_congr {ρ ρ' : Operand → Option AV} (o : Oper) (bx : BX) (rest : List BX) (h : ∀ x ∈ o.op.operands, ρ x = ρ' x) : eff E call ρ o bx rest = eff E call ρ' o bx rest := by
  unfold eff
  split
  · rfl
  · rename_i t x heq; rw [heq] at h; rw [h x (by simp [Op.operands])]
  · rename_i t x y heq; rw [heq] at h; rw [h x (by simp [Op.operands]), h y (by simp [Op.operands])]
  · rfl
  · rename_i t x heq; rw [heq] at h; rw [h x (by simp [Op.operands])]
  · rename_i t n ps heq
    rw [heq] at h
    have hps : partsA ρ ps.toList = partsA ρ' ps.toList := partsA_congr _ fun p hm => h p.2 (by simp [Op.operands]; exact ⟨p.1, by simpa using hm⟩)
    rw [hps]
  · rfl
  · rfl
  · rename_i f xs ts heq
    rw [heq] at h
    rw [h f (by simp [Op.operands, Call.operands]), argsA_congr xs.toList (fun p hp => h p (by simp [Op.operands, Call.operands]; exact .inr (by simpa using hp)))]
  · rename_i src dst x heq; rw [heq] at h; rw [valOp_congr _ h]
  · rw [valOp_congr o.op h]
end
end Go.Avm

/-
  The abstract machine, part 12: a region, its order drawn or not.
-/
namespace Go.Avm
set_option linter.unusedVariables false
set_option linter.unusedSimpArgs false

section
variable {E : Env} {call : Rec} {ops : Array Oper}

def reg (E : Env) (call : Rec) (ops : Array Oper) (fr : Nat → AV) (o : Oper) (bx : BX) (rest : List BX) : Option (BX × List BX × AV) :=
  match o.guard with
  | none => eff E call (E.ev fr) o bx rest
  | some (j, want) => match (ops[j]?).bind (·.dst) with
    | some g => match fr g with
      | .bool b => if b = want then eff E call (E.ev fr) o bx rest else some (bx, rest, .tup [])
      | .tup _ => some (bx, rest, .tup [])
      | _ => none
    | none => none

theorem stepReg_eff (o : Oper) (s : S) : stepReg E call true ops o s = (reg E call ops s.fr o s.bx s.rest).map (s.eff o.dst) := by
  unfold stepReg reg
  cases hg : o.guard with
  | none => exact stepOp_eff o s
  | some jw =>
    obtain ⟨j, want⟩ := jw
    simp only []
    cases hd : (ops[j]?).bind (·.dst) with
    | none => rfl
    | some g =>
      simp only []
      cases hb : s.fr g <;> try rfl
      simp only []
      split
      · exact stepOp_eff o s
      · rfl

theorem ev_congr {fr fr' : Nat → AV} {x : Operand} (h : ∀ t, x = .tmp t → fr t = fr' t) : E.ev fr x = E.ev fr' x := by
  cases x with
  | tmp t => simp only [Env.ev]; rw [h t rfl]
  | _ => rfl

theorem reg_congr {fr fr' : Nat → AV} (o : Oper) (bx : BX) (rest : List BX) (h : ∀ t ∈ o.looksAt ops, fr t = fr' t) : reg E call ops fr o bx rest = reg E call ops fr' o bx rest := by
  have he : eff E call (E.ev fr) o bx rest = eff E call (E.ev fr') o bx rest := eff_congr o bx rest fun x hx => ev_congr fun t ht => h t (by
    subst ht
    exact List.mem_append_left _ (List.mem_filterMap.2 ⟨.tmp t, by simpa using hx, rfl⟩))
  unfold reg
  cases hg : o.guard with
  | none => exact he
  | some jw =>
    obtain ⟨j, want⟩ := jw
    simp only []
    cases hd : (ops[j]?).bind (·.dst) with
    | none => rfl
    | some g =>
      simp only []
      rw [h g (List.mem_append_right _ (by rw [hg]; simp [hd])), he]

theorem eff_val {fr : Nat → AV} {o : Oper} {bx : BX} {rest : List BX} {r : BX × List BX × AV} (hc : cls o.op = .val ∨ cls o.op = .cl) (h : eff E call (E.ev fr) o bx rest = some r) :
    r.1 = bx ∧ r.2.1 = rest ∧ ∀ bx2 rest2, eff E call (E.ev fr) o bx2 rest2 = some (bx2, rest2, r.2.2) := by
  unfold eff at h ⊢
  split at h
  · rename_i heq; cases h; simp [heq]
  · rename_i t x heq
    simp only [heq] at hc ⊢
    cases x <;> simp [cls] at hc
    rename_i g
    simp only [Env.ev] at h ⊢
    cases hty : E.ty t with
    | none => simp [hty] at h
    | some i =>
      simp only [hty] at h ⊢
      cases hgl : E.glob g with
      | none => simp [hgl] at h
      | some cs =>
        simp only [hgl, Option.map_some, Option.bind_some] at h ⊢
        cases hl : loadA i cs 0 with
        | none => simp [hl] at h
        | some v => simp [hl] at h; subst h; simp [hl]
  · rename_i heq; simp [heq, cls] at hc
  · rename_i heq; simp [heq, cls] at hc
  · rename_i heq; simp [heq, cls] at hc
  · rename_i t n ps heq
    split at h
    · split at h
      · simp only [Option.bind_eq_some_iff] at h
        obtain ⟨l, hl, h⟩ := h
        split at h
        · rename_i hcond
          cases h
          simp [hl, hcond]
        · simp at h
      · simp at h
    · simp at h
  · simp at h
  · simp at h
  · rename_i f xs ts heq
    simp only [heq] at hc ⊢
    cases hf : E.ev fr f with
    | none => simp [hf] at h
    | some fv =>
      simp only [hf, Option.bind_some] at h ⊢
      cases fv <;> try (simp at h; done)
      rename_i g caps
      simp only [] at h ⊢
      cases hl : argsA (E.ev fr) xs.toList with
      | none => simp [hl] at h
      | some l =>
        simp only [hl, Option.bind_some] at h ⊢
        split at h
        · rename_i hd
          simp only [if_pos hd]
          cases hr : call g (l ++ caps) [] with
          | none => simp [hr] at h
          | some rr =>
            simp only [hr, Option.bind_some] at h ⊢
            split at h
            · rename_i he; cases h; simp [he]
            · simp at h
        · simp at h
  · rename_i src dst x heq
    cases hv : valOp E (E.ev fr) (.convert src dst x) with
    | none => simp [hv] at h
    | some v => simp [hv] at h; subst h; simp
  · cases hv : valOp E (E.ev fr) o.op with
    | none => simp [hv] at h
    | some v => simp [hv] at h; subst h; simp

theorem eff_rd {fr : Nat → AV} {o : Oper} {bx : BX} {rest : List BX} {r : BX × List BX × AV} (hc : cls o.op = .rd) (h : eff E call (E.ev fr) o bx rest = some r) : r.1 = bx ∧ r.2.1 = rest := by
  unfold eff at h
  split at h <;> rename_i heq <;> try (simp [heq, cls] at hc; done)
  · rename_i t x
    cases hty : E.ty t with
    | none => simp [hty] at h
    | some i =>
      simp only [hty, Option.bind_eq_some_iff] at h
      obtain ⟨v, hv, h⟩ := h
      cases v <;> try (simp at h; done)
      · simp only [Option.bind_eq_some_iff, Option.some.injEq] at h
        obtain ⟨cs, _, c, _, rfl⟩ := h
        exact ⟨rfl, rfl⟩
      · simp only [Option.bind_eq_some_iff, Option.some.injEq] at h
        obtain ⟨c, _, rfl⟩ := h
        exact ⟨rfl, rfl⟩
  all_goals first
    | (simp at h; done)
    | (cases hv : valOp E (E.ev fr) o.op with
       | none => simp [hv] at h
       | some v => simp [hv] at h; subst h; simp)
    | skip

theorem reg_val {fr : Nat → AV} {o : Oper} {bx : BX} {rest : List BX} {r : BX × List BX × AV} (hc : cls o.op = .val ∨ cls o.op = .cl) (h : reg E call ops fr o bx rest = some r) :
    r.1 = bx ∧ r.2.1 = rest ∧ ∀ bx2 rest2, reg E call ops fr o bx2 rest2 = some (bx2, rest2, r.2.2) := by
  unfold reg at h ⊢
  split at h
  · exact eff_val hc h
  · split at h
    · split at h
      · split at h
        · rename_i hb; simp only [hb, if_pos]; exact eff_val hc h
        · rename_i hb; cases h; simp [hb]
      · cases h; simp
      · simp at h
    · simp at h

theorem reg_rd {fr : Nat → AV} {o : Oper} {bx : BX} {rest : List BX} {r : BX × List BX × AV} (hc : cls o.op = .rd) (h : reg E call ops fr o bx rest = some r) : r.1 = bx ∧ r.2.1 = rest := by
  unfold reg at h
  split at h
  · exact eff_rd hc h
  · split at h
    · split at h
      · split at h
        · exact eff_rd hc h
        · cases h; exact ⟨rfl, rfl⟩
      · cases h; exact ⟨rfl, rfl⟩
      · simp at h
    · simp at h

theorem eff_fr (s : S) (dst : Option Nat) (r : BX × List BX × AV) (t : Nat) (h : dst ≠ some t) : (s.eff dst r).fr t = s.fr t := by
  cases dst with
  | none => rfl
  | some d => simp only [S.eff, S.put, upd]; rw [if_neg (fun e => h (by rw [e]))]

theorem eff_comm (s : S) {d d' : Option Nat} (b1 b2 b3 : BX) (r1 r2 r3 : List BX) (v v' : AV) (hne : ∀ t, d = some t → d' ≠ some t) :
    (s.eff d (b1, r1, v)).eff d' (b2, r2, v') = (s.eff d' (b3, r3, v')).eff d (b2, r2, v) := by
  cases d with
  | none => cases d' <;> rfl
  | some i =>
    cases d' with
    | none => rfl
    | some j =>
      have hij : i ≠ j := fun e => hne i rfl (by rw [e])
      simp only [S.eff, S.put, S.mk.injEq, and_true, and_self]
      funext t
      simp only [upd]
      by_cases h1 : t = i
      · subst h1; simp [hij]
      · by_cases h2 : t = j
        · subst h2; simp [h1]
        · simp [h1, h2]

theorem eff_bx (s : S) (d : Option Nat) (r : BX × List BX × AV) : (s.eff d r).bx = r.1 := by cases d <;> rfl
theorem eff_rest (s : S) (d : Option Nat) (r : BX × List BX × AV) : (s.eff d r).rest = r.2.1 := by cases d <;> rfl

/-- Two neighbours change places. -/
theorem swap {x y : Oper} (hap : x.apart ops y = true) (hc : clsOk (cls x.op) (cls y.op) = true) {s s1 s2 : S} (h1 : stepReg E call true ops x s = some s1) (h2 : stepReg E call true ops y s1 = some s2) :
    ∃ s3, stepReg E call true ops y s = some s3 ∧ stepReg E call true ops x s3 = some s2 := by
  obtain ⟨a1, a2, a3⟩ := Oper.apart_spec hap
  rw [stepReg_eff, Option.map_eq_some_iff] at h1
  obtain ⟨⟨bx1, rest1, vx⟩, hx, rfl⟩ := h1
  rw [stepReg_eff, Option.map_eq_some_iff] at h2
  obtain ⟨⟨bx2, rest2, vy⟩, hy, rfl⟩ := h2
  rw [eff_bx, eff_rest] at hy
  have hy' : reg E call ops s.fr y bx1 rest1 = some (bx2, rest2, vy) := by
    rw [← hy]
    exact reg_congr y _ _ fun t ht => (eff_fr s _ _ t (fun e => a1 t e ht)).symm
  have hxs : ∀ r b rs, reg E call ops (s.eff y.dst r).fr x b rs = reg E call ops s.fr x b rs := fun r b rs => reg_congr x _ _ fun t ht => eff_fr s _ _ t (fun e => a3 t e ht)
  have hA : (cls y.op = .val ∨ cls y.op = .cl) → ∃ s3, stepReg E call true ops y s = some s3 ∧ stepReg E call true ops x s3 = some ((s.eff x.dst (bx1, rest1, vx)).eff y.dst (bx2, rest2, vy)) := by
    intro hcy
    obtain ⟨e1, e2, e3⟩ := reg_val hcy hy'
    simp only at e1 e2 e3
    subst e1 e2
    refine ⟨s.eff y.dst (s.bx, s.rest, vy), by rw [stepReg_eff, e3]; rfl, ?_⟩
    rw [stepReg_eff, hxs, eff_bx, eff_rest, hx]
    simp only [Option.map_some, Option.some.injEq]
    exact (eff_comm s bx2 bx2 s.bx rest2 rest2 s.rest vx vy a2).symm
  have hB : (cls x.op = .val ∨ cls x.op = .cl) → ∃ s3, stepReg E call true ops y s = some s3 ∧ stepReg E call true ops x s3 = some ((s.eff x.dst (bx1, rest1, vx)).eff y.dst (bx2, rest2, vy)) := by
    intro hcx
    obtain ⟨e1, e2, e3⟩ := reg_val hcx hx
    simp only at e1 e2 e3
    subst e1 e2
    refine ⟨s.eff y.dst (bx2, rest2, vy), by rw [stepReg_eff, hy']; rfl, ?_⟩
    rw [stepReg_eff, hxs, eff_bx, eff_rest, e3]
    simp only [Option.map_some, Option.some.injEq]
    exact (eff_comm s _ bx2 bx2 _ rest2 rest2 vx vy a2).symm
  have hC : cls x.op = .rd → cls y.op = .rd → ∃ s3, stepReg E call true ops y s = some s3 ∧ stepReg E call true ops x s3 = some ((s.eff x.dst (bx1, rest1, vx)).eff y.dst (bx2, rest2, vy)) := by
    intro hcx hcy
    obtain ⟨e1, e2⟩ := reg_rd hcx hx
    obtain ⟨e3, e4⟩ := reg_rd hcy hy'
    simp only at e1 e2 e3 e4
    subst e1 e2 e3 e4
    refine ⟨s.eff y.dst (s.bx, s.rest, vy), by rw [stepReg_eff, hy']; rfl, ?_⟩
    rw [stepReg_eff, hxs, eff_bx, eff_rest, hx]
    simp only [Option.map_some, Option.some.injEq]
    exact (eff_comm s _ _ _ _ _ _ vx vy a2).symm
  cases hcx : cls x.op <;> cases hcy : cls y.op <;> simp only [hcx, hcy, clsOk, Bool.false_eq_true] at hc <;> first
    | exact hA (.inl hcy)
    | exact hA (.inr hcy)
    | exact hB (.inl hcx)
    | exact hB (.inr hcx)
    | exact hC hcx hcy

def runI (E : Env) (call : Rec) (draw : Bool) (ops : Array Oper) : List Nat → S → Option S
  | [], s => some s
  | i :: r, s => match ops[i]? with
    | none => none
    | some o => (stepReg E call draw ops o s).bind (runI E call draw ops r)

theorem runI_of {draw : Bool} : ∀ (is : List Nat) (os : List Oper) (s : S), is.map (fun i => ops[i]?) = os.map some → runI E call draw ops is s = runReg E call draw ops os s
  | [], [], s, _ => rfl
  | [], _ :: _, s, h => by simp at h
  | _ :: _, [], s, h => by simp at h
  | i :: is, o :: os, s, h => by
    simp only [List.map_cons, List.cons.injEq] at h
    simp only [runI, runReg, h.1]
    congr 1
    funext s'
    exact runI_of is os s' h.2

theorem runI_range {draw : Bool} (s : S) : runI E call draw ops (List.range ops.size) s = runReg E call draw ops ops.toList s := by
  refine runI_of _ _ s ?_
  apply List.ext_getElem?
  intro j
  simp only [List.getElem?_map]
  by_cases hj : j < ops.size
  · simp [hj]
  · simp [hj]

theorem bubble {i : Nat} {oi : Oper} (hi : ops[i]? = some oi) {R2 : List Nat} {s' : S} : ∀ (R1 : List Nat) (s : S),
    (∀ j ∈ R1, ∃ oj, ops[j]? = some oj ∧ oj.apart ops oi = true ∧ clsOk (cls oj.op) (cls oi.op) = true) → runI E call true ops (R1 ++ i :: R2) s = some s' →
    ∃ s1, stepReg E call true ops oi s = some s1 ∧ runI E call true ops (R1 ++ R2) s1 = some s'
  | [], s, _, h => by
    simp only [List.nil_append, runI, hi, Option.bind_eq_some_iff] at h
    obtain ⟨s1, h1, h2⟩ := h
    exact ⟨s1, h1, h2⟩
  | j :: R1, s, hR, h => by
    obtain ⟨oj, hj, hap, hc⟩ := hR j List.mem_cons_self
    simp only [List.cons_append, runI, hj, Option.bind_eq_some_iff] at h
    obtain ⟨sj, h1, h2⟩ := h
    obtain ⟨s1, h3, h4⟩ := bubble hi R1 sj (fun k hk => hR k (List.mem_cons_of_mem _ hk)) h2
    obtain ⟨s3, h5, h6⟩ := swap hap hc h1 h3
    refine ⟨s3, h5, ?_⟩
    simp only [List.cons_append, runI, hj, h6, Option.bind_some, h4]

/-! The masks. -/
def maskOf (acc : List Nat) (o : Oper) : Nat := o.after.toList.foldl (fun s e => if Region.binds .any e then s ||| 2 ^ e.on ||| acc.getD e.on 0 else s) 0

theorem masks_eq (l : List Oper) : masks l = l.foldl (fun acc o => acc ++ [maskOf acc o]) [] := rfl

theorem masks_snoc (l : List Oper) (o : Oper) : masks (l ++ [o]) = masks l ++ [maskOf (masks l) o] := by
  simp only [masks_eq, List.foldl_append, List.foldl_cons, List.foldl_nil]

theorem snoc_ind {α : Type} {M : List α → Prop} (h0 : M []) (h1 : ∀ l a, M l → M (l ++ [a])) (l : List α) : M l := by
  have : ∀ k : List α, M k.reverse := by
    intro k
    induction k with
    | nil => exact h0
    | cons a k ih => rw [List.reverse_cons]; exact h1 _ _ ih
  have h2 := this l.reverse
  rwa [List.reverse_reverse] at h2

theorem masks_len (l : List Oper) : (masks l).length = l.length := by
  induction l using snoc_ind with
  | h0 => rfl
  | h1 l o ih => rw [masks_snoc]; simp [ih]

theorem masks_take (l : List Oper) : ∀ i, (masks l).take i = masks (l.take i) := by
  induction l using snoc_ind with
  | h0 => intro i; simp [masks]
  | h1 l o ih =>
    intro i
    rw [masks_snoc]
    by_cases h : i ≤ l.length
    · rw [List.take_append_of_le_length (by rw [masks_len]; exact h), List.take_append_of_le_length h, ih]
    · rw [List.take_of_length_le (by simp [masks_len]; omega), List.take_of_length_le (by simp; omega), masks_snoc]

theorem masks_get (l : List Oper) (i : Nat) (o : Oper) (h : l[i]? = some o) : (masks l).getD i 0 = maskOf (masks (l.take i)) o := by
  have hlt : i < l.length := (List.getElem?_eq_some_iff.1 h).1
  have h1 : (masks l).take (i + 1) = masks (l.take i) ++ [maskOf (masks (l.take i)) o] := by
    rw [masks_take, List.take_add_one, h]
    exact masks_snoc _ _
  have h2 : ((masks l).take (i + 1))[i]? = some (maskOf (masks (l.take i)) o) := by
    rw [h1, List.getElem?_append_right (by rw [masks_len]; simp; omega)]
    simp [masks_len, Nat.min_eq_left (Nat.le_of_lt hlt)]
  rw [List.getElem?_take_of_lt (by omega)] at h2
  simp [List.getD, h2]

theorem or_fold {α : Type} (b : α → Bool) (p : α → Nat) (g : α → Nat) (j : Nat) : ∀ (l : List α) (s : Nat), (l.foldl (fun s e => if b e then s ||| 2 ^ p e ||| g e else s) s).testBit j = true →
    s.testBit j = true ∨ ∃ e ∈ l, b e = true ∧ (j = p e ∨ (g e).testBit j = true)
  | [], s, h => .inl h
  | e :: l, s, h => by
    simp only [List.foldl_cons] at h
    rcases or_fold b p g j l _ h with h1 | ⟨e', he', hb, hr⟩
    · split at h1
      · rename_i hb
        simp only [Nat.testBit_or, Bool.or_eq_true, Nat.testBit_two_pow, decide_eq_true_eq] at h1
        rcases h1 with (h1 | h1) | h1
        · exact .inl h1
        · exact .inr ⟨e, List.mem_cons_self, hb, .inl h1.symm⟩
        · exact .inr ⟨e, List.mem_cons_self, hb, .inr h1⟩
      · exact .inl h1
    · exact .inr ⟨e', List.mem_cons_of_mem _ he', hb, hr⟩

theorem mask_closed {L : Nat → Prop} (hdep : ∀ i o, ops[i]? = some o → ∀ e ∈ o.after, Region.binds .any e = true → e.on < i)
    (hcl : ∀ i o, ops[i]? = some o → L i → ∀ e ∈ o.after, Region.binds .any e = true → L e.on) :
    ∀ (m i : Nat) (o : Oper), i < m → ops[i]? = some o → (∀ e ∈ o.after, Region.binds .any e = true → L e.on) → ∀ j, ((masks ops.toList).getD i 0).testBit j = true → L j
  | 0, i, o, hm, _, _, _, _ => by omega
  | m + 1, i, o, hm, hi, hd, j, hb => by
    rw [masks_get _ i o (by simpa using hi)] at hb
    rcases or_fold _ _ _ j _ _ hb with h0 | ⟨e, he, hbi, hr⟩
    · simp at h0
    · have he' : e ∈ o.after := by simpa using he
      have hlt := hdep i o hi e he' hbi
      have hL := hd e he' hbi
      rcases hr with rfl | hr
      · exact hL
      · have hin : i < ops.size := (Array.getElem?_eq_some_iff.1 hi).1
        have he2 : ops[e.on]? = some (ops[e.on]'(by omega)) := by simp
        refine mask_closed hdep hcl m e.on _ (by omega) he2 (fun e2 h2 h3 => hcl e.on _ he2 hL e2 h2 h3) j ?_
        rw [← masks_take] at hr
        rw [List.getD, List.getElem?_take_of_lt hlt] at hr
        exact hr

theorem drawOk_spec (h : drawOk ops = true) : (∀ i o, ops[i]? = some o → ∀ e ∈ o.after, Region.binds .any e = true → e.on < i) ∧
    ∀ i j oi oj, i < j → ops[i]? = some oi → ops[j]? = some oj → ((masks ops.toList).getD j 0).testBit i = true ∨ (oi.apart ops oj = true ∧ clsOk (cls oi.op) (cls oj.op) = true) := by
  unfold drawOk at h
  simp only [Bool.and_eq_true, List.all_eq_true, List.mem_range] at h
  obtain ⟨h1, h2⟩ := h
  refine ⟨fun i o hi e he hb => ?_, fun i j oi oj hij hi hj => ?_⟩
  · have := h1 i (Array.getElem?_eq_some_iff.1 hi).1
    simp only [hi, Option.map_some, Option.getD_some, List.all_eq_true] at this
    have := this e (by simpa using he)
    simpa [hb] using this
  · have := h2 j (Array.getElem?_eq_some_iff.1 hj).1 i hij
    simpa [hi, hj] using this

section
variable {G : Nat → Value} {W0 : World} {h0 h : Gh} {n : Nat} {Q : Exit → Act → World → Prop}

theorem filter_split {p : Nat → Bool} {i : Nat} {l R1 R2 : List Nat} (hl : l.Nodup) (he : l.filter p = R1 ++ i :: R2) : l.filter (fun k => p k && decide (k ≠ i)) = R1 ++ R2 := by
  have hnd : (R1 ++ i :: R2).Nodup := by rw [← he]; exact hl.filter _
  have h1 : l.filter (fun k => p k && decide (k ≠ i)) = (l.filter p).filter (fun k => decide (k ≠ i)) := by rw [List.filter_filter]; congr 1; funext k; rw [Bool.and_comm]
  rw [h1, he, List.filter_append, List.filter_cons]
  have hn1 : i ∉ R1 := fun hm => (List.nodup_append.1 hnd).2.2 i hm i List.mem_cons_self rfl
  have hn2 : i ∉ R2 := (List.nodup_cons.1 (List.nodup_append.1 hnd).2.1).1
  have e1 : R1.filter (fun k => decide (k ≠ i)) = R1 := List.filter_eq_self.2 fun k hk => by simp; rintro rfl; exact hn1 hk
  have e2 : R2.filter (fun k => decide (k ≠ i)) = R2 := List.filter_eq_self.2 fun k hk => by simp; rintro rfl; exact hn2 hk
  rw [e1, e2]
  simp

theorem any_sound (hE : E.Ok) (hcall : ∀ f args rest rs rest', call f args rest = some (rs, rest') → CallOK E f args rest rs rest') (hdraw : drawOk ops = true)
    (hdst : ∀ o ∈ ops, ∀ d, o.dst = some d → d < n) {s' : S} (hQ : ∀ h' a' w', Sim E G W0 h0 n h' s' a' w' → Q .normal a' w') :
    ∀ (fuel : Nat) (listed : Array Bool) (R : List Nat) (s : S) (h : Gh) (a : Act) (w : World), R = (List.range ops.size).filter (fun i => !listed.getD i true) → listed.size = ops.size →
      (∀ i o, ops[i]? = some o → listed.getD i false = true → ∀ e ∈ o.after, Region.binds .any e = true → listed.getD e.on false = true) →
      runI E call true ops R s = some s' → Sim E G W0 h0 n h s a w → R.length ≤ fuel → wpAny E.P .any ops Q fuel listed a w := by
  obtain ⟨hdep, hpair⟩ := drawOk_spec hdraw
  intro fuel
  induction fuel with
  | zero =>
    intro listed R s h a w hR hsz hcl hrun hS hlen
    have hnil : R = [] := List.eq_nil_of_length_eq_zero (by omega)
    rw [hnil] at hrun
    simp only [runI, Option.some.injEq] at hrun
    subst hrun
    refine ⟨?_, hQ _ _ _ hS⟩
    rw [List.eq_nil_iff_forall_not_mem]
    intro i hi
    obtain ⟨h1, o, ho, _⟩ := mem_ready.1 hi
    have : i ∈ R := by rw [hR, List.mem_filter, List.mem_range]; exact ⟨(Array.getElem?_eq_some_iff.1 ho).1, by rw [h1]; rfl⟩
    rw [hnil] at this
    simp at this
  | succ fuel ih =>
    intro listed R s h a w hR hsz hcl hrun hS hlen
    have hTF : ∀ k, k < ops.size → listed.getD k true = listed.getD k false := fun k hk => by simp [hsz, hk]
    refine ⟨fun hnone => ?_, fun i hi => ?_⟩
    · have hnil : R = [] := by
        cases hRc : R with
        | nil => rfl
        | cons i R' =>
          exfalso
          have hmem : i ∈ R := by rw [hRc]; exact List.mem_cons_self
          rw [hR, List.mem_filter, List.mem_range] at hmem
          obtain ⟨hilt, hun⟩ := hmem
          have hsorted : (i :: R').Pairwise (· < ·) := by rw [← hRc, hR]; exact List.pairwise_lt_range.filter _
          have hleast : ∀ k, k < i → listed.getD k false = true := by
            intro k hk
            rw [← hTF k (by omega)]
            cases hlk : listed.getD k true with
            | true => rfl
            | false =>
              have hkR : k ∈ R := by rw [hR, List.mem_filter, List.mem_range]; exact ⟨by omega, by rw [hlk]; rfl⟩
              rw [hRc] at hkR
              rcases List.mem_cons.1 hkR with rfl | hk2
              · omega
              · have := (List.pairwise_cons.1 hsorted).1 k hk2
                omega
          have hready : i ∈ Region.ready .any ops listed := mem_ready.2 ⟨by simpa using hun, ops[i], by simp [hilt], fun e he hb => hleast _ (hdep i _ (by simp [hilt]) e he hb)⟩
          rw [hnone] at hready
          simp at hready
      rw [hnil] at hrun
      simp only [runI, Option.some.injEq] at hrun
      subst hrun
      exact hQ _ _ _ hS
    · obtain ⟨hun, oi, hoi, hdeps⟩ := mem_ready.1 hi
      have hilt : i < ops.size := (Array.getElem?_eq_some_iff.1 hoi).1
      have hmem : i ∈ R := by rw [hR, List.mem_filter, List.mem_range]; exact ⟨hilt, by rw [hun]; rfl⟩
      obtain ⟨R1, R2, hsplit⟩ := List.append_of_mem hmem
      have hsorted : (R1 ++ i :: R2).Pairwise (· < ·) := by rw [← hsplit, hR]; exact List.pairwise_lt_range.filter _
      have hunl : ∀ k ∈ R, k < ops.size ∧ listed.getD k true = false := by
        intro k hk
        rw [hR, List.mem_filter, List.mem_range] at hk
        exact ⟨hk.1, by simpa using hk.2⟩
      have hfree : ∀ j ∈ R1, ∃ oj, ops[j]? = some oj ∧ oj.apart ops oi = true ∧ clsOk (cls oj.op) (cls oi.op) = true := by
        intro j hj
        obtain ⟨hjl, hju⟩ := hunl j (by rw [hsplit]; exact List.mem_append_left _ hj)
        have hji : j < i := (List.pairwise_append.1 hsorted).2.2 j hj i List.mem_cons_self
        refine ⟨ops[j], by simp [hjl], ?_⟩
        rcases hpair j i ops[j] oi hji (by simp [hjl]) hoi with hbit | hok
        · exfalso
          have hL := mask_closed (ops := ops) (L := fun k => listed.getD k false = true) hdep (fun k o hk hl => hcl k o hk hl) (i + 1) i oi (by omega) hoi hdeps j hbit
          rw [← hTF j hjl, hju] at hL
          cases hL
        · exact hok
      rw [hsplit] at hrun
      obtain ⟨s1, h1, h2⟩ := bubble hoi R1 s hfree hrun
      refine stepReg_op hE hcall hoi hS (fun d hd => hdst oi (Array.mem_of_getElem? hoi) d hd) h1 (fun h' a' w' hS' => ?_)
      refine ih (listed.setIfInBounds i true) (R1 ++ R2) s1 h' a' w' ?_ (by simpa using hsz) ?_ h2 hS' ?_
      · rw [← filter_split (p := fun k => !listed.getD k true) (i := i) List.nodup_range (by rw [← hR]; exact hsplit)]
        apply List.filter_congr
        intro k hk
        rw [List.mem_range] at hk
        by_cases hki : k = i
        · subst hki; simp [hsz, hk]
        · rw [getD_set_ne true (Ne.symm hki)]; simp [hki]
      · intro k o hk hl e he hb
        by_cases hki : k = i
        · subst hki
          rw [hoi] at hk
          cases hk
          exact getD_set_true (hdeps e he hb)
        · rw [getD_set_ne false (Ne.symm hki)] at hl
          exact getD_set_true (hcl k o hk hl e he hb)
      · rw [hsplit] at hlen
        simp at hlen ⊢
        omega

theorem ops_sound (hE : E.Ok) (hcall : ∀ f args rest rs rest', call f args rest = some (rs, rest') → CallOK E f args rest rs rest')
    (hdst : ∀ o ∈ ops, ∀ d, o.dst = some d → d < n) {draw : Bool} {s' : S} (hQ : ∀ h' a' w', Sim E G W0 h0 n h' s' a' w' → Q .normal a' w') :
    ∀ (R : List Nat) (s : S) (h : Gh) (a : Act) (w : World), runI E call draw ops R s = some s' → Sim E G W0 h0 n h s a w → wpOps E.P ops Q R a w
  | [], s, h, a, w, hr, hS => by
    simp only [runI, Option.some.injEq] at hr
    subst hr
    exact hQ _ _ _ hS
  | i :: R, s, h, a, w, hr, hS => by
    rw [wpOps_cons]
    simp only [runI] at hr
    cases ho : ops[i]? with
    | none => simp [ho] at hr
    | some o =>
      simp only [ho, Option.bind_eq_some_iff] at hr
      obtain ⟨s1, h1, h2⟩ := hr
      exact stepReg_op hE hcall ho hS (fun d hd => hdst o (Array.mem_of_getElem? ho) d hd) h1 (fun h' a' w' hS' => ops_sound hE hcall hdst hQ R s1 h' a' w' h2 hS')

/-- A region. -/
theorem region_sound (hE : E.Ok) (hcall : ∀ f args rest rs rest', call f args rest = some (rs, rest') → CallOK E f args rest rs rest') {id : Nat} {draw : Bool}
    (hok : ((ops.all fun o => match o.dst with | some d => decide (d < n) | none => true) && (!draw || drawOk ops)) = true) {s s' : S} {a : Act} {w : World}
    (hS : Sim E G W0 h0 n h s a w) (hr : runReg E call draw ops ops.toList s = some s') (hQ : ∀ h' a' w', Sim E G W0 h0 n h' s' a' w' → Q .normal a' w') : (Code.region id ops draw).wp E.P Q a w := by
  simp only [Bool.and_eq_true, Bool.or_eq_true, Bool.not_eq_true'] at hok
  obtain ⟨hd, hdr⟩ := hok
  have hdst : ∀ o ∈ ops, ∀ d, o.dst = some d → d < n := by
    intro o ho d hod
    have := Array.all_eq_true_iff_forall_mem.1 hd o ho
    rw [hod] at this
    simpa using this
  rw [← runI_range] at hr
  cases draw with
  | false => exact wp_region (ops_sound hE hcall hdst hQ _ s h a w hr hS)
  | true =>
    refine wp_region_any hE.mixed (any_sound hE hcall (by simpa using hdr) hdst hQ ops.size _ (List.range ops.size) s h a _ ?_ (by simp) ?_ hr hS.drew (by simp))
    · symm
      rw [List.filter_eq_self]
      intro k hk
      rw [List.mem_range] at hk
      simp [hk]
    · intro i o hi hl
      have := (Array.getElem?_eq_some_iff.1 hi).1
      simp [this] at hl
end
end
end Go.Avm

/-
  The abstract machine, part 13: whole bodies: what the machine computes, the model computes.
-/
namespace Go.Avm
set_option linter.unusedVariables false
set_option linter.unusedSimpArgs false

/-! Rounds. -/
theorem iter_succ {g : S → Option (Ex × S)} : ∀ (n : Nat) (s : S) (r : Ex × S), iter n g s = some r → iter (n + 1) g s = some r
  | 0, s, r, h => by simp [iter] at h
  | n + 1, s, r, h => by
    rw [iter] at h ⊢
    simp only [Option.bind_eq_some_iff] at h ⊢
    obtain ⟨r1, h1, h2⟩ := h
    refine ⟨r1, h1, ?_⟩
    cases hx : r1.1 <;> simp only [hx] at h2 ⊢
    · exact iter_succ n _ r h2
    · exact h2
    · exact h2

theorem iter_le {g : S → Option (Ex × S)} {n m : Nat} (hnm : n ≤ m) {s : S} {r : Ex × S} (h : iter n g s = some r) : iter m g s = some r := by
  induction hnm with
  | refl => exact h
  | step _ ih => exact iter_succ _ s r ih

theorem iterL_some {g : S → Option (Ex × S)} {s : S} {r : Ex × S} : iterL g s = some r ↔ ∃ n, iter n g s = some r := by
  unfold iterL
  constructor
  · intro h
    split at h
    · rename_i hex
      obtain ⟨n, hn⟩ := hex.choose_spec
      simp only [Option.some.injEq] at h
      exact ⟨n, by rw [hn, h]⟩
    · simp at h
  · rintro ⟨n, hn⟩
    have hex : ∃ r n, iter n g s = some r := ⟨r, n, hn⟩
    rw [dif_pos hex]
    obtain ⟨m, hm⟩ := hex.choose_spec
    have h1 := iter_le (Nat.le_max_left n m) hn
    have h2 := iter_le (Nat.le_max_right n m) hm
    rw [h1] at h2
    exact h2.symm

theorem iterL_eq (g : S → Option (Ex × S)) (s : S) : iterL g s = (g s).bind fun r => match r.1 with
    | .normal => iterL g r.2
    | x => some (x, r.2) := by
  cases hg : g s with
  | none =>
    rw [Option.bind_none]
    cases hi : iterL g s with
    | none => rfl
    | some r =>
      obtain ⟨n, hn⟩ := iterL_some.1 hi
      cases n with
      | zero => simp [iter] at hn
      | succ n => simp [iter, hg] at hn
  | some r =>
    rw [Option.bind_some]
    obtain ⟨x, s1⟩ := r
    cases x with
    | normal =>
      simp only []
      cases h1 : iterL g s1 with
      | some r =>
        obtain ⟨n, hn⟩ := iterL_some.1 h1
        exact iterL_some.2 ⟨n + 1, by simp [iter, hg, hn]⟩
      | none =>
        cases h2 : iterL g s with
        | none => rfl
        | some r =>
          obtain ⟨n, hn⟩ := iterL_some.1 h2
          cases n with
          | zero => simp [iter] at hn
          | succ n =>
            simp [iter, hg] at hn
            rw [iterL_some.2 ⟨n, hn⟩] at h1
            cases h1
    | exit id => exact iterL_some.2 ⟨1, by simp [iter, hg]⟩
    | ret => exact iterL_some.2 ⟨1, by simp [iter, hg]⟩

theorem ofL_map (ks : List Nat) (F : Nat → AV) (i : Nat) : ofL (ks.map fun k => (k, F k)) i = if i ∈ ks then F i else .any := by
  induction ks with
  | nil => rfl
  | cons k ks ih =>
    simp only [List.map_cons, ofL, ih, List.mem_cons]
    by_cases h : i = k
    · subst h; simp
    · simp [h]

theorem ofB_map (ks : List Nat) (F : Nat → Option (List AV)) (i : Nat) : ofB (ks.map fun k => (k, F k)) i = if i ∈ ks then F i else none := by
  induction ks with
  | nil => rfl
  | cons k ks ih =>
    simp only [List.map_cons, ofB, ih, List.mem_cons]
    by_cases h : i = k
    · subst h; simp
    · simp [h]

section
variable {E : Env} {call : Rec} {G : Nat → Value} {W0 : World} {h0 h : Gh} {n : Nat} {s : S} {a : Act} {w : World}

def Gh.cut (h : Gh) (bs : List Nat) : Gh := { h with m := fun d i => if d = 0 ∧ i ∉ bs then none else h.m d i }

theorem san_rep {P : Program} {bs : List Nat} {v : AV} {u : Value} (H : Rep P G h w v u) : Rep P G (h.cut bs) w (san bs v) u := by
  cases v with
  | box d i off =>
    cases d with
    | succ d => obtain ⟨g, h1, h2⟩ := H; exact ⟨g, by simp [Gh.cut, h1], h2⟩
    | zero =>
      simp only [san]
      split
      · rename_i hc
        obtain ⟨g, h1, h2⟩ := H
        exact ⟨g, by simp [Gh.cut, h1]; simpa using hc, h2⟩
      · exact rep_any _
  | bs d i n =>
    cases d with
    | succ d => obtain ⟨g, cap, h1, h2⟩ := H; exact ⟨g, cap, by simp [Gh.cut, h1], h2⟩
    | zero =>
      simp only [san]
      split
      · rename_i hc
        obtain ⟨g, cap, h1, h2⟩ := H
        exact ⟨g, cap, by simp [Gh.cut, h1]; simpa using hc, h2⟩
      · exact rep_any _
  | fn f caps =>
    simp only [san]
    split
    · rename_i hc
      obtain ⟨vs, h1, h2, h3⟩ := H
      refine ⟨vs, h1, h2, fun j c u hj hu => ?_⟩
      have h4 := h3 j c u hj hu
      have h5 := List.all_eq_true.1 hc c (List.mem_of_getElem? hj)
      cases c <;> try exact h4
      rename_i d i off
      obtain ⟨g, h6, h7⟩ := h4
      refine ⟨g, ?_, h7⟩
      cases d with
      | succ d => simpa [Gh.cut] using h6
      | zero => simp only [san1] at h5; simp [Gh.cut, h6]; simpa using h5
    · exact rep_any _
  | own t e xs => exact H
  | _ => exact H

theorem san_tok {bs : List Nat} {c : AV} (h : c.tokOk = true) : (san bs c).tokOk = true := by
  cases c with
  | box d i off => cases d with
    | zero => simp only [san]; split <;> rfl
    | succ d => rfl
  | bs d i n => cases d with
    | zero => simp only [san]; split <;> rfl
    | succ d => rfl
  | fn f caps => simp only [san]; split <;> rfl
  | own t e xs => exact h
  | _ => rfl

theorem Sim.tidy (H : Sim E G W0 h0 n h s a w) (k : Option (List Nat × List Nat)) : ∃ h', Sim E G W0 h0 n h' (s.tidy k) a w := by
  cases k with
  | none => exact ⟨h, H⟩
  | some kb =>
    obtain ⟨ks, bs⟩ := kb
    refine ⟨h.cut bs, ?_⟩
    have hsub : ∀ d i g, (h.cut bs).m d i = some g → h.m d i = some g := by
      intro d i g hm
      have hm : (if d = 0 ∧ i ∉ bs then none else h.m d i) = some g := hm
      split at hm
      · cases hm
      · exact hm
    have hS : ∀ d, (h.cut bs).sh (d + 1) = { h.sh (d + 1) with m := fun d' i => h.m (d + 1 + d') i } := by
      intro d
      simp only [Gh.sh, Gh.cut, Gh.mk.injEq, true_and, and_true]
      funext d' i
      rw [if_neg (by omega)]
    exact
    { defers := H.defers
      size := H.size
      slots := fun i => by
        show Rep E.P G (h.cut bs) w (ofL (ks.map fun k => (k, san bs (s.fr k))) i) _
        rw [ofL_map]
        split
        · exact san_rep (H.slots i)
        · exact rep_any _
      boxes := fun d i cs hl => by
        cases d with
        | zero =>
          have hl : ofB (bs.map fun i => (i, (s.bx i).map (List.map (san bs)))) i = some cs := by simpa [S.look, lookR, S.tidy] using hl
          rw [ofB_map] at hl
          split at hl
          · rename_i hi
            rw [Option.map_eq_some_iff] at hl
            obtain ⟨cs0, hcs0, rfl⟩ := hl
            obtain ⟨g, vs, T, fz, k1, k2, k3, k4, k5⟩ := H.boxes 0 i cs0 (by simpa [S.look, lookR] using hcs0)
            refine ⟨g, vs, T, fz, by simp [Gh.cut, k1, hi], ⟨k2.1, k2.2.1, k2.2.2.1, by simpa using k2.2.2.2⟩, k3, by simpa using k4, fun j c u hj hu => ?_⟩
            rw [List.getElem?_map, Option.map_eq_some_iff] at hj
            obtain ⟨c0, hc0, rfl⟩ := hj
            obtain ⟨k6, k7⟩ := k5 j c0 u hc0 hu
            rw [sh_zero] at k6 ⊢
            exact ⟨san_rep k6, san_tok k7⟩
          · cases hl
        | succ d =>
          obtain ⟨g, vs, T, fz, k1, k2, k3, k4, k5⟩ := H.boxes (d + 1) i cs (by simpa [S.look, lookR, S.tidy] using hl)
          refine ⟨g, vs, T, fz, by simp [Gh.cut, k1], k2, k3, k4, fun j c u hj hu => ?_⟩
          have := k5 j c u hj hu
          rw [hS]
          exact this
      none0 := fun d i hl => by
        show (if d = 0 ∧ i ∉ bs then none else h.m d i) = none
        split
        · rfl
        · rename_i hc
          cases d with
          | zero =>
            have hi : i ∈ bs := by simpa using hc
            have hl : ofB (bs.map fun i => (i, (s.bx i).map (List.map (san bs)))) i = none := by simpa [S.look, lookR, S.tidy] using hl
            rw [ofB_map, if_pos hi] at hl
            exact H.none0 0 i (by simpa [S.look, lookR] using hl)
          | succ d => exact H.none0 (d + 1) i (by simpa [S.look, lookR, S.tidy] using hl)
      outer := fun d i => by
        show (if d + 1 = 0 ∧ i ∉ bs then none else h.m (d + 1) i) = _
        rw [if_neg (by omega)]
        exact H.outer d i
      inj := fun d i d' i' g h1 h2 => H.inj d i d' i' g (hsub _ _ _ h1) (hsub _ _ _ h2)
      base := fun i g h1 => H.base i g (hsub _ _ _ h1)
      mlt := fun d i g h1 => H.mlt d i g (hsub _ _ _ h1)
      rows := fun t g h1 => by
        obtain ⟨k1, k2, k3⟩ := H.rows t g h1
        exact ⟨k1, k2, fun d i he => k3 d i (hsub _ _ _ he)⟩
      rinj := H.rinj
      os := H.os
      tape := H.tape
      output := H.output
      hsize := H.hsize
      kept := H.kept
      xold := H.xold
      froz := H.froz
      glob := H.glob
      ifaces := H.ifaces
      err0 := H.err0 }

def Ex.out : Ex → Exit
  | .normal => .normal
  | .exit id => .exit id
  | .ret => .ret

theorem least {p : Nat → Prop} (h : ∃ m, p m) : ∃ m, p m ∧ ∀ k, p k → m ≤ k := by
  obtain ⟨m, hm⟩ := h
  induction m using Nat.strongRecOn with
  | ind m ih =>
    by_cases hk : ∃ k, k < m ∧ p k
    · obtain ⟨k, h1, h2⟩ := hk
      exact ih k h1 h2
    · exact ⟨m, hm, fun k hp => by
        rcases Nat.lt_or_ge k m with h1 | h1
        · exact absurd ⟨k, h1, hp⟩ hk
        · exact h1⟩

theorem exec_sound (hE : E.Ok) (hcall : ∀ f args rest rs rest', call f args rest = some (rs, rest') → CallOK E f args rest rs rest') (f : FuncId) :
    ∀ (c : Code), codeOk n c = true → ∀ (s : S) (h : Gh) (a : Act) (w : World) (r : Ex × S) (Q : Exit → Act → World → Prop), Sim E G W0 h0 n h s a w → exec E call iterL f c s = some r →
      (∀ h' a' w', Sim E G W0 h0 n h' r.2 a' w' → Q r.1.out a' w') → c.wp E.P Q a w := by
  intro c
  induction c with
  | skip =>
    intro _ s h a w r Q hS hr hQ
    simp only [exec, Option.some.injEq] at hr
    subst hr
    exact wp_skip (hQ _ _ _ hS)
  | region id ops draw =>
    intro hok s h a w r Q hS hr hQ
    simp only [exec, Option.bind_eq_some_iff, Option.some.injEq] at hr
    obtain ⟨s', h1, rfl⟩ := hr
    refine region_sound hE hcall (by rw [codeOk] at hok; exact hok) hS h1 (fun h' a' w' hS' => ?_)
    obtain ⟨h2, hS2⟩ := hS'.tidy (E.keep f id)
    exact hQ _ _ _ hS2
  | seq x y ihx ihy =>
    intro hok s h a w r Q hS hr hQ
    simp only [codeOk, Bool.and_eq_true] at hok
    simp only [exec, Option.bind_eq_some_iff] at hr
    obtain ⟨r1, h1, h2⟩ := hr
    refine wp_seq (ihx hok.1 s h a w r1 _ hS h1 (fun h' a' w' hS' => ?_))
    cases hx : r1.1 <;> simp only [hx] at h2
    · exact ihy hok.2 _ _ _ _ r Q hS' h2 hQ
    · simp only [Option.some.injEq] at h2; subst h2; exact hQ _ _ _ hS'
    · simp only [Option.some.injEq] at h2; subst h2; exact hQ _ _ _ hS'
  | cond c x y ihx ihy =>
    intro hok s h a w r Q hS hr hQ
    simp only [codeOk, Bool.and_eq_true] at hok
    simp only [exec] at hr
    split at hr
    · rename_i t hev
      refine wp_cond (t := t) (rep_bool (ev_sound hS.ctx hev)) ?_
      cases t with
      | true => exact ihx hok.1 s h a w r Q hS (by simpa using hr) hQ
      | false => exact ihy hok.2 s h a w r Q hS (by simpa using hr) hQ
    · simp at hr
  | block id c ih =>
    intro hok s h a w r Q hS hr hQ
    simp only [codeOk] at hok
    simp only [exec, Option.bind_eq_some_iff] at hr
    obtain ⟨r1, h1, h2⟩ := hr
    refine wp_block (ih hok s h a w r1 _ hS h1 (fun h' a' w' hS' => ?_))
    cases hx : r1.1 <;> simp only [hx] at h2
    · simp only [Option.some.injEq] at h2; subst h2; simpa [Ex.out, Exit.inBlock] using hQ _ _ _ hS'
    · rename_i j
      simp only [Ex.out, Exit.inBlock]
      split at h2
      · rename_i hj
        simp only [Option.some.injEq] at h2
        subst h2
        subst hj
        simpa [Ex.out] using hQ _ _ _ hS'
      · rename_i hj
        simp only [Option.some.injEq] at h2
        subst h2
        simpa [Ex.out, hj] using hQ _ _ _ hS'
    · simp only [Option.some.injEq] at h2; subst h2; simpa [Ex.out, Exit.inBlock] using hQ _ _ _ hS'
  | loop c ih =>
    intro hok s h a w r Q hS hr hQ
    simp only [codeOk] at hok
    simp only [exec] at hr
    obtain ⟨m, hm⟩ := iterL_some.1 hr
    obtain ⟨h1, hS1⟩ := hS.tidy (E.keepL f (headId c))
    generalize hg : (fun s => (exec E call iterL f c s).map (tidyN (E.keepL f (headId c)))) = g at hm
    let M : Act → World → Nat → Prop := fun a w m => ∃ h s, Sim E G W0 h0 n h s a w ∧ iter m g s = some r
    classical
    refine wp_loop (fun a w => ∃ m, M a w m) (fun a w => if hx : ∃ m, M a w m then (least hx).choose else 0) ⟨m, h1, _, hS1, hm⟩ (fun a w hI => ?_)
    obtain ⟨hM, hmin⟩ := (least hI).choose_spec
    have hμ : (if hx : ∃ m, M a w m then (least hx).choose else 0) = (least hI).choose := dif_pos hI
    generalize (least hI).choose = m1 at hM hmin hμ
    obtain ⟨h2, s2, hS2, hm2⟩ := hM
    cases m1 with
    | zero => simp [iter] at hm2
    | succ m2 =>
      simp only [iter, Option.bind_eq_some_iff] at hm2
      obtain ⟨r1, hr1, hm2⟩ := hm2
      rw [← hg] at hr1
      simp only [Option.map_eq_some_iff] at hr1
      obtain ⟨r2, hr2, rfl⟩ := hr1
      refine ih hok s2 h2 a w r2 _ hS2 hr2 (fun h' a' w' hS' => ?_)
      obtain ⟨x, s3⟩ := r2
      cases x with
      | normal =>
        simp only [tidyN] at hm2
        obtain ⟨h3, hS3⟩ := Sim.tidy hS' (E.keepL f (headId c))
        have hM' : M a' w' m2 := ⟨h3, _, hS3, hm2⟩
        have hI' : ∃ m, M a' w' m := ⟨m2, hM'⟩
        refine ⟨hI', ?_⟩
        rw [hμ, dif_pos hI']
        have := (least hI').choose_spec.2 m2 hM'
        omega
      | exit id =>
        simp only [tidyN, Option.some.injEq] at hm2
        subst hm2
        exact hQ _ _ _ hS'
      | ret =>
        simp only [tidyN, Option.some.injEq] at hm2
        subst hm2
        exact hQ _ _ _ hS'
  | exit id =>
    intro _ s h a w r Q hS hr hQ
    simp only [exec, Option.some.injEq] at hr
    subst hr
    exact wp_exit (hQ _ _ _ hS)
  | ret =>
    intro _ s h a w r Q hS hr hQ
    simp only [exec, Option.some.injEq] at hr
    subst hr
    exact wp_ret (hQ _ _ _ hS)
  | scope c ih =>
    intro hok s h a w r Q hS hr hQ
    simp only [codeOk] at hok
    simp only [exec] at hr
    refine wp_scope_straight (ih hok s h a w r _ hS hr (fun h' a' w' hS' => ?_))
    have := hQ h' a' w' hS'
    cases hx : r.1 <;> (rw [hx] at this; exact this)
  | label l =>
    intro _ s h a w r Q hS hr hQ
    simp only [exec, Option.some.injEq] at hr
    subst hr
    exact wp_label (hQ _ _ _ hS)
  | _ => intro _ s h a w r Q hS hr hQ; simp [exec] at hr

def resOne (ts : Array Value) (rv : ResultVar) : Sem Value :=
  match rv with
  | .tmp t => pure (ts.getD t undef)
  | .cell c t => do loadVar t (← asAddr (ts.getD c undef))

theorem res_sound (hE : E.Ok) (H : Sim E G W0 h0 n h s a w) : ∀ (l : List ResultVar) (rs : List AV), resA E s l = some rs →
    ∃ vs : List Value, (l.mapM (resOne a.tmps)).run E.P w = .ok vs w ∧
      rs.length = vs.length ∧ ∀ (j : Nat) (c : AV) (u : Value), rs[j]? = some c → vs[j]? = some u → Rep E.P G h w c u
  | [], rs, hr => by simp [resA] at hr; subst hr; exact ⟨[], by simp, rfl, by simp⟩
  | .tmp t :: l, rs, hr => by
    simp only [resA, Option.bind_eq_some_iff, Option.some.injEq] at hr
    obtain ⟨rs', h1, rfl⟩ := hr
    obtain ⟨vs, h2, h3, h4⟩ := res_sound hE H l rs' h1
    refine ⟨a.tmps.getD t undef :: vs, by simp only [List.mapM_cons, resOne, Sem.run_bind, Sem.run_pure, h2, Result.andThen_ok], by simp [h3], fun j c u hj hu => ?_⟩
    cases j with
    | zero => simp at hj hu; subst hj; subst hu; simpa using H.slots t
    | succ j => exact h4 j c u (by simpa using hj) (by simpa using hu)
  | .cell b t :: l, rs, hr => by
    simp only [resA] at hr
    split at hr
    · rename_i j off i hb hi
      simp only [Option.bind_eq_some_iff, Option.some.injEq] at hr
      obtain ⟨cs, hcs, v, hv, rs', h1, rfl⟩ := hr
      obtain ⟨vs, h2, h3, h4⟩ := res_sound hE H l rs' h1
      have hs := H.slots b
      rw [hb] at hs
      obtain ⟨g, hg, hpt⟩ := hs
      obtain ⟨u, hu1, hu2⟩ := loadA_box hE hi hg (H.boxes 0 j cs (by simpa [S.look, lookR] using hcs)) hv
      have hld : (loadVar t ⟨g, off, none⟩).run E.P w = .ok u w := by simpa [Instr.loadAt, Instr.sureAddr] using hu1
      have hasad : ∀ w', (asAddr (Value.pointer (some ⟨g, off, none⟩))).run E.P w' = .ok ⟨g, off, none⟩ w' := fun w' => by simp [asAddr]
      refine ⟨u :: vs, by simp only [List.mapM_cons, resOne, Sem.run_bind, hpt, hasad, Sem.run_pure, hld, h2, Result.andThen_ok], by simp [h3], fun k c y hj hu => ?_⟩
      cases k with
      | zero =>
        simp at hj hu
        subst hj
        subst hu
        have hz : ∀ v : AV, v.shift 0 = v := by
          have h1 : ∀ v : AV, v.shift1 0 = v := by intro v; cases v <;> rfl
          intro v
          cases v with
          | fn f caps => simp only [AV.shift]; congr 1; rw [List.map_congr_left (fun c _ => h1 c), List.map_id']
          | _ => rfl
        rwa [hz] at hu2
      | succ k => exact h4 k c y (by simpa using hj) (by simpa using hu)
    · simp at hr

/-- A function. -/
theorem body_sound (hE : E.Ok) (hcall : ∀ f args rest rs rest', call f args rest = some (rs, rest') → CallOK E f args rest rs rest') {f : FuncId} {args rs : List AV} {rest rest' : List BX}
    (hb : body E call iterL f args rest = some (rs, rest')) : CallOK E f args rest rs rest' := by
  simp only [body, Option.bind_eq_some_iff] at hb
  obtain ⟨fn, hfn, c, hc, ⟨x, s'⟩, hx, hb⟩ := hb
  obtain ⟨hf, hname, hcode⟩ := hE.fns f fn hfn
  intro G h0 w vals hst
  refine .inl ⟨?_, ?_⟩
  · have hn' : fn.name ≠ "runtime.NumGoroutine" := by simpa using hname
    simp [callFunc, hf, hn', hc]
  refine Calls.mono (R := fun | .returned v, w' => ∃ h', Post E G h0 w rs rest' h' v w' | _, _ => False) ?_ (fun e w' he => he)
  refine calls_of_wp hf hc ?_
  have hS : Sim E G w h0 fn.ntmps h0 ⟨fun i => args.getD i .any, fun _ => none, rest⟩ { tmps := vals ++ Array.replicate (fn.ntmps - vals.size) undef, defers := [] } w :=
    { defers := rfl
      size := by simp; omega
      slots := fun i => by
        show Rep E.P G h0 w (args.getD i .any) _
        by_cases hi : i < args.length
        · have h1 : args[i]? = some args[i] := by simp
          have hiv : i < vals.size := by rw [← hst.len]; exact hi
          have h2 := hst.args i args[i] vals[i] h1 (by simp [hiv])
          have e1 : args.getD i .any = args[i] := by simp [List.getD, hi]
          have e2 : (vals ++ Array.replicate (fn.ntmps - vals.size) undef).getD i undef = vals[i] := by
            rw [Array.getD_eq_getD_getElem?, Array.getElem?_append_left hiv]
            simp [hiv]
          rw [e1]
          simp only [e2]
          exact h2
        · have e1 : args.getD i .any = .any := by simp [List.getD, List.getElem?_eq_none (by omega : args.length ≤ i)]
          rw [e1]
          exact rep_any _
      boxes := fun d i cs hl => by
        cases d with
        | zero => simp [S.look, lookR] at hl
        | succ d => exact hst.boxes d i cs (by simpa [S.look, lookR] using hl)
      none0 := fun d i hl => by
        cases d with
        | zero => exact hst.m0 i
        | succ d => exact hst.none0 d i (by simpa [S.look, lookR] using hl)
      outer := fun _ _ => rfl
      inj := hst.inj
      base := fun i g h1 => by rw [hst.m0] at h1; cases h1
      mlt := hst.mlt
      rows := fun t g h1 => ⟨.inr ⟨t, h1⟩, hst.rows t g h1⟩
      rinj := hst.rinj
      os := rfl
      tape := rfl
      output := rfl
      hsize := Nat.le_refl _
      kept := fun _ _ _ _ => rfl
      xold := fun _ _ _ => rfl
      froz := fun _ _ h1 h2 => ⟨h1, h2⟩
      glob := hst.glob
      ifaces := hst.ifaces
      err0 := hst.err }
  refine exec_sound hE hcall f c (hcode c hc) _ _ _ _ _ _ hS hx (fun h' a' w' hS' => ?_)
  have hfin : (resA E s' fn.results.toList).bind (fun rs => if rs.all resOk then some (rs, s'.rest) else none) = some (rs, rest') →
      a'.defers = [] ∧ ∃ v, (results fn a'.tmps).run E.P w' = .ok v w' ∧ ∃ h', Post E G h0 w rs rest' h' v w' := by
    intro hb
    simp only [Option.bind_eq_some_iff] at hb
    obtain ⟨rs', hrs, hb⟩ := hb
    split at hb
    · rename_i hall
      simp only [Option.some.injEq, Prod.mk.injEq] at hb
      obtain ⟨rfl, rfl⟩ := hb
      obtain ⟨vs, h1, h2, h3⟩ := res_sound hE hS' _ _ hrs
      refine ⟨hS'.defers, if h : vs.toArray.size = 1 then vs.toArray[0] else .tuple vs.toArray, ?_, h', ?_⟩
      · show ((do let vs ← fn.results.mapM (resOne a'.tmps); pure (if h : vs.size = 1 then vs[0] else .tuple vs)) : Sem Value).run E.P w' = _
        rw [Array.mapM_eq_mapM_toList]
        simp only [Sem.run_bind, Sem.run_map, h1, Result.andThen_ok, Sem.run_pure]
      · have hout : OutV E.P G h' w' rs' (if h : vs.toArray.size = 1 then vs.toArray[0] else .tuple vs.toArray) := by
          match rs', vs, h2 with
          | [r], [v], _ =>
            have hr := List.all_eq_true.1 hall r List.mem_cons_self
            exact ⟨h3 0 r v rfl rfl, hr⟩
          | [], [], _ => exact ⟨[], rfl, rfl, by simp⟩
          | r1 :: r2 :: rs, v1 :: v2 :: vs, h2 =>
            refine ⟨v1 :: v2 :: vs, by simp, h2, fun j c u hj hu => ?_⟩
            exact rep_strip_data (h3 j c u hj hu) (List.all_eq_true.1 hall c (List.mem_of_getElem? hj))
        exact
        { hsize := hS'.hsize
          os := hS'.os
          tape := hS'.tape
          output := hS'.output
          kept := hS'.kept
          xold := hS'.xold
          outer := hS'.outer
          boxes := fun d i cs hl => hS'.boxes (d + 1) i cs (by simpa [S.look, lookR] using hl)
          none0 := fun d i hl => by rw [← hS'.outer]; exact hS'.none0 (d + 1) i (by simpa [S.look, lookR] using hl)
          froz := hS'.froz
          rows := hS'.rows
          rinj := hS'.rinj
          out := hout }
    · simp at hb
  cases x with
  | normal => exact hfin hb
  | ret => exact hfin hb
  | exit id => simp at hb
end
end Go.Avm

/-
  The abstract machine, part 14: an environment out of tables, and the check that the tables fit the program.
-/
namespace Go.Avm
set_option linter.unusedVariables false
set_option linter.unusedSimpArgs false

structure Tabs where
  ty : List (Nat × TyI)
  fns : List Nat
  glob : List (Nat × List AV)
  eq : List Nat
  keep : List (Nat × List (Nat × List Nat × List Nat))
  keepL : List (Nat × List (Nat × List Nat × List Nat))

def Tabs.env (T : Tabs) (P : Program) (errT : TypeId) (pinB : List Nat) (pinP : Nat → Option Obj → Prop) : Env :=
  { P := P
    ty := fun t => T.ty.lookup t
    fns := fun f => if T.fns.contains f then P.funcs[f]? else none
    glob := fun g => T.glob.lookup g
    eqOk := fun t => T.eq.contains t
    keep := fun f id => (T.keep.lookup f).bind (·.lookup id)
    keepL := fun f id => (T.keepL.lookup f).bind (·.lookup id)
    errT := errT
    pinB := pinB
    pinP := pinP }

def zeroOk : AV → Value → Bool
  | .any, _ => true
  | .bool false, .bool false => true
  | .int k n, .int k' n' => k == k' && n == 0 && n' == 0
  | .str s, .string s' => s.data.toList.isEmpty && s'.data.toList.isEmpty
  | .nilI, .nilIface => true
  | .nilF, .nilFunc => true
  | .nilS, .slice none 0 0 => true
  | .nilP, .pointer none => true
  | _, _ => false

def undOk (P : Program) (t : TypeId) (d : TyD) : Bool :=
  match d, P.underlying t with
  | .int k, some (.int k') => k == k'
  | .bool, some .bool => true
  | .str, some .string => true
  | .slice e, some (.slice e') => e == e'
  | .struct fs, some (.struct fields) => fields.toList.map (fun f => (f.offset, f.type)) == fs
  | .arr n e, some (.array n' e') => n == n' && e == e'
  | .iface, some (.interface _) => true
  | .func, some (.func ..) => true
  | .ptr e, some (.pointer e') => e == e'
  | .other, some _ => true
  | _, _ => false

def zerosOk : List AV → List Value → Bool
  | [], [] => true
  | c :: cs, u :: us => zeroOk c u && zerosOk cs us
  | _, _ => false

def tyOk (P : Program) (t : TypeId) (i : TyI) : Bool :=
  (match P.info? t with
   | some inf => inf.size == i.sz && inf.bytes == i.bytes && (match inf.zero with
     | some z => i.zero.length == i.sz && zerosOk i.zero z.cells.toList
     | none => false)
   | none => false) && undOk P t i.d

def fnOk (P : Program) (f : FuncId) : Bool :=
  match P.funcs[f]? with
  | some fn => !(fn.name == "runtime.NumGoroutine") && (match fn.body with
    | some c => codeOk fn.ntmps c
    | none => true)
  | none => false

def eqOkB (P : Program) (t : TypeId) : Bool :=
  !P.stoodInHeld t && !P.eqGuardType P.depth t && (match P.underlying t with
    | some (.struct fields) => fields.toList.all fun f => f.name != "_"
    | _ => true)

def closedOk (T : List (Nat × TyI)) : Bool := T.all fun p => match p.2.d with
  | .struct fs => fs.all fun q => (T.lookup q.2).isSome
  | _ => true

theorem lookup_mem {β : Type} {l : List (Nat × β)} {k : Nat} {v : β} (h : l.lookup k = some v) : (k, v) ∈ l := by
  induction l with
  | nil => simp at h
  | cons p l ih =>
    obtain ⟨a, b⟩ := p
    rw [List.lookup_cons] at h
    split at h
    · rename_i he
      have : k = a := by simpa using he
      subst this
      simp only [Option.some.injEq] at h
      subst h
      exact List.mem_cons_self
    · exact List.mem_cons_of_mem _ (ih h)

theorem zeroOk_sound {c : AV} {u : Value} (h : zeroOk c u = true) : ZeroC c u := by
  unfold zeroOk at h
  split at h <;> first
    | constructor
    | (rename_i k n k' n'
       simp only [Bool.and_eq_true, beq_iff_eq] at h
       obtain ⟨⟨rfl, rfl⟩, rfl⟩ := h
       constructor)
    | (rename_i s s'
       simp only [Bool.and_eq_true, List.isEmpty_iff] at h
       obtain ⟨h1, h2⟩ := h
       have e1 : s = ⟨#[]⟩ := by cases s with | mk d => cases d with | mk l => simp at h1; subst h1; rfl
       have e2 : s' = ⟨#[]⟩ := by cases s' with | mk d => cases d with | mk l => simp at h2; subst h2; rfl
       subst e1
       subst e2
       constructor)
    | simp at h

theorem zerosOk_sound : ∀ {cs : List AV} {us : List Value}, zerosOk cs us = true → cs.length = us.length ∧ ∀ (j : Nat) (c : AV) (u : Value), cs[j]? = some c → us[j]? = some u → ZeroC c u
  | [], [], _ => ⟨rfl, by simp⟩
  | c :: cs, u :: us, h => by
    simp only [zerosOk, Bool.and_eq_true] at h
    obtain ⟨h1, h2⟩ := zerosOk_sound h.2
    refine ⟨by simp [h1], fun j c' u' hj hu => ?_⟩
    cases j with
    | zero => simp at hj hu; subst hj; subst hu; exact zeroOk_sound h.1
    | succ j => exact h2 j c' u' (by simpa using hj) (by simpa using hu)
  | [], _ :: _, h => by simp [zerosOk] at h
  | _ :: _, [], h => by simp [zerosOk] at h

theorem tyOk_sound {P : Program} {t : TypeId} {i : TyI} (h : tyOk P t i = true) : TyOk P t i := by
  simp only [tyOk, Bool.and_eq_true] at h
  obtain ⟨h1, h2⟩ := h
  refine ⟨?_, ?_⟩
  · split at h1
    · rename_i inf hinf
      simp only [Bool.and_eq_true, beq_iff_eq] at h1
      obtain ⟨⟨k1, k2⟩, k3⟩ := h1
      split at k3
      · rename_i z hz
        simp only [Bool.and_eq_true, beq_iff_eq] at k3
        obtain ⟨k4, k5⟩ := k3
        obtain ⟨k6, k7⟩ := zerosOk_sound k5
        exact ⟨inf, z, hinf, k1, k2, hz, by rw [k6]; simp, k4, fun j c u hj hu => k7 j c u hj (by simpa using hu)⟩
      · simp at k3
    · simp at h1
  · unfold undOk at h2
    split at h2 <;> rename_i hd hu <;> first
      | (simp only [beq_iff_eq] at h2; subst h2; rw [hd]; exact hu)
      | (rw [hd]; exact hu)
      | (rw [hd]; exact ⟨_, hu⟩)
      | (rw [hd]; exact ⟨_, _, _, hu⟩)
      | (simp only [beq_iff_eq] at h2; rw [hd]; exact ⟨_, hu, h2⟩)
      | (simp only [Bool.and_eq_true, beq_iff_eq] at h2; obtain ⟨rfl, rfl⟩ := h2; rw [hd]; exact hu)
      | simp at h2

theorem Tabs.env_ok {T : Tabs} {P : Program} (h1 : (T.ty.all fun p => tyOk P p.1 p.2) = true) (h2 : (T.fns.all fun f => fnOk P f) = true) (h3 : P.follows .mixedOrders = true) (h4 : (T.eq.all fun t => eqOkB P t) = true)
    (h5 : closedOk T.ty = true) {errT : TypeId} {pinB : List Nat} {pinP : Nat → Option Obj → Prop} : (T.env P errT pinB pinP).Ok where
  ty := fun t i hi => tyOk_sound (List.all_eq_true.1 h1 (t, i) (lookup_mem hi))
  fns := fun f fn hf => by
    have hf : (if T.fns.contains f then P.funcs[f]? else none) = some fn := hf
    split at hf
    · rename_i hc
      have hk := List.all_eq_true.1 h2 f (by simpa using hc)
      simp only [fnOk, hf, Bool.and_eq_true, Bool.not_eq_true'] at hk
      refine ⟨hf, hk.1, fun c hc => ?_⟩
      have := hk.2
      rw [hc] at this
      exact this
    · simp at hf
  mixed := h3
  eqs := fun t ht => by
    have hm : t ∈ T.eq := by simpa [Tabs.env] using ht
    have hk := List.all_eq_true.1 h4 t hm
    simp only [eqOkB, Bool.and_eq_true, Bool.not_eq_true'] at hk
    refine ⟨hk.1.1, hk.1.2, fun fields hu f hf => ?_⟩
    have hu : P.underlying t = some (.struct fields) := hu
    have := hk.2
    rw [hu] at this
    have := List.all_eq_true.1 this f (by simpa using hf)
    simpa using this
  closed := fun t i fs hi hd p hp => by
    have hk := List.all_eq_true.1 h5 (t, i) (lookup_mem hi)
    simp only [hd] at hk
    exact List.all_eq_true.1 hk p hp
end Go.Avm
