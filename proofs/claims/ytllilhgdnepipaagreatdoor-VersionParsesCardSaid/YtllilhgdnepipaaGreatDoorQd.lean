-- Merged by a small program of this claim's maker out of 6 texts.
import Derived.Test.YtllilhgdnepipaaGreatDoorQc

/-
  The abstract machine, part 15: the machine's steps as equations that a simplifier can follow (states in a normal form, nothing under a binder).
-/
namespace Go.Avm
set_option linter.unusedVariables false
set_option linter.unusedSimpArgs false

section
variable {E : Env} {call : Rec} {f : FuncId} {dr : Bool} {ops : Array Oper}

/-- A state in its normal form: slots, variables, outer variables. -/
def st (l : List (Nat × AV)) (b : List (Nat × Option (List AV))) (rest : List BX) : S := ⟨ofL l, ofB b, rest⟩

def initL : List AV → Nat → List (Nat × AV)
  | [], _ => []
  | a :: r, i => (i, a) :: initL r (i + 1)

theorem ofL_init : ∀ (args : List AV) (k i : Nat), ofL (initL args k) i = if k ≤ i then args.getD (i - k) .any else .any
  | [], k, i => by simp [initL, ofL]
  | a :: r, k, i => by
    simp only [initL, ofL, ofL_init r (k + 1) i]
    by_cases h : i = k
    · subst h; simp
    · by_cases h2 : k ≤ i
      · have h3 : k + 1 ≤ i := by omega
        have h4 : i - k = (i - (k + 1)) + 1 := by omega
        rw [if_neg h, if_pos h3, if_pos h2, h4]
        simp [List.getD]
      · rw [if_neg h, if_neg (by omega), if_neg h2]

theorem init_st (args : List AV) (rest : List BX) : (⟨fun i => args.getD i .any, fun _ => none, rest⟩ : S) = st (initL args 0) [] rest := by
  simp only [st, S.mk.injEq, and_true]
  refine ⟨?_, rfl⟩
  funext i
  rw [ofL_init]
  simp

def putO (s : S) (d : Option Nat) : Option AV → Option S
  | some v => some (s.put d v)
  | none => none

def runO (E : Env) (call : Rec) (dr : Bool) (ops : Array Oper) : List Oper → Option S → Option S
  | [], x => x
  | _ :: _, none => none
  | o :: r, some s => runO E call dr ops r (stepReg E call dr ops o s)

theorem runO_none (l : List Oper) : runO E call dr ops l none = none := by cases l <;> rfl

theorem runReg_eq : ∀ (l : List Oper) (s : S), runReg E call dr ops l s = runO E call dr ops l (some s)
  | [], s => rfl
  | o :: r, s => by
    simp only [runReg, runO]
    cases stepReg E call dr ops o s with
    | none => rw [runO_none]; rfl
    | some s' => exact runReg_eq r s'

theorem runO_nil (x : Option S) : runO E call dr ops [] x = x := by cases x <;> rfl
theorem runO_cons (o : Oper) (r : List Oper) (s : S) : runO E call dr ops (o :: r) (some s) = runO E call dr ops r (stepReg E call dr ops o s) := rfl
theorem runO_ite (c : Prop) [Decidable c] (l : List Oper) (x y : Option S) : runO E call dr ops l (if c then x else y) = if c then runO E call dr ops l x else runO E call dr ops l y := by split <;> rfl

/-- The guard looked at. -/
def guardO (E : Env) (call : Rec) (dr : Bool) (o : Oper) (s : S) (want : Bool) : AV → Option S
  | .bool b => if b = want then stepOp E call dr o s else some (s.put o.dst (.tup []))
  | .tup _ => some (s.put o.dst (.tup []))
  | _ => none

/-- The slot of an operation of the region. -/
def dstFrom (k : Nat) : List Oper → Nat → Option Nat
  | [], _ => none
  | o :: r, j => if j = k then o.dst else dstFrom (k + 1) r j

theorem dstFrom_eq : ∀ (l : List Oper) (k j : Nat), k ≤ j → dstFrom k l j = (l[j - k]?).bind (·.dst)
  | [], k, j, _ => by simp [dstFrom]
  | o :: r, k, j, h => by
    simp only [dstFrom]
    by_cases hj : j = k
    · subst hj; simp
    · rw [if_neg hj, dstFrom_eq r (k + 1) j (by omega)]
      have : j - k = (j - (k + 1)) + 1 := by omega
      rw [this]
      rfl

def guardD (E : Env) (call : Rec) (dr : Bool) (o : Oper) (s : S) (want : Bool) : Option Nat → Option S
  | some g => guardO E call dr o s want (s.fr g)
  | none => none

theorem stepReg_plain (d : Option Nat) (op : Op) (ty : TypeId) (pos : String) (aft : Array Edge) (s : S) :
    stepReg E call dr ops ⟨d, op, ty, pos, aft, none⟩ s = stepOp E call dr ⟨d, op, ty, pos, aft, none⟩ s := rfl
theorem stepReg_guard (d : Option Nat) (op : Op) (ty : TypeId) (pos : String) (aft : Array Edge) (j : Nat) (want : Bool) (s : S) :
    stepReg E call dr ops ⟨d, op, ty, pos, aft, some (j, want)⟩ s = guardD E call dr ⟨d, op, ty, pos, aft, some (j, want)⟩ s want (dstFrom 0 ops.toList j) := by
  rw [dstFrom_eq _ 0 j (Nat.zero_le _)]
  unfold stepReg guardD guardO
  simp only [Nat.sub_zero, Array.getElem?_toList]
  rfl
theorem guardD_some (o : Oper) (s : S) (want : Bool) (g : Nat) : guardD E call dr o s want (some g) = guardO E call dr o s want (s.fr g) := rfl
theorem guardO_bool (o : Oper) (s : S) (want b : Bool) : guardO E call dr o s want (.bool b) = if b = want then stepOp E call dr o s else some (s.put o.dst (.tup [])) := rfl
theorem guardO_tup (o : Oper) (s : S) (want : Bool) (vs : List AV) : guardO E call dr o s want (.tup vs) = some (s.put o.dst (.tup [])) := rfl

theorem step_val {o : Oper} {s : S} (hnot : match o.op with
      | .assign (.const (.slice none 0 0)) | .load .. | .store .. | .alloc _ | .box .. | .buildSlice .. | .makeSlice .. | .call ⟨.builtin .append, ⟨[_, _]⟩, ⟨[_, _]⟩⟩ | .call ⟨.value _, _, _⟩ | .convert .. => False
      | _ => True) : stepOp E call dr o s = putO s o.dst (valOp E (E.ev s.fr) o.op) := by
  unfold stepOp
  split <;> rename_i heq <;> first
    | (rw [heq] at hnot; exact hnot.elim)
    | skip
  cases valOp E (E.ev s.fr) o.op <;> rfl

theorem put_st (l : List (Nat × AV)) (b : List (Nat × Option (List AV))) (rest : List BX) (d : Nat) (v : AV) : (st l b rest).put (some d) v = st ((d, v) :: l) b rest := rfl
theorem put_none (s : S) (v : AV) : s.put none v = s := rfl
theorem fr_st (l : List (Nat × AV)) (b : List (Nat × Option (List AV))) (rest : List BX) : (st l b rest).fr = ofL l := rfl
theorem bx_st (l : List (Nat × AV)) (b : List (Nat × Option (List AV))) (rest : List BX) : (st l b rest).bx = ofB b := rfl
theorem rest_st (l : List (Nat × AV)) (b : List (Nat × Option (List AV))) (rest : List BX) : (st l b rest).rest = rest := rfl
theorem putO_some (s : S) (d : Option Nat) (v : AV) : putO s d (some v) = some (s.put d v) := rfl

def killL (t : Nat) : List (Nat × AV) → List (Nat × AV)
  | [] => []
  | (k, v) :: l => (k, killV t v) :: killL t l
def killB (t : Nat) : List (Nat × Option (List AV)) → List (Nat × Option (List AV))
  | [] => []
  | (k, v) :: l => (k, v.map (List.map (killV t))) :: killB t l

theorem ofL_kill (t : Nat) : ∀ (l : List (Nat × AV)) (i : Nat), killV t (ofL l i) = ofL (killL t l) i
  | [], i => rfl
  | (k, v) :: l, i => by
    simp only [ofL, killL]
    split
    · rfl
    · exact ofL_kill t l i
theorem ofB_kill (t : Nat) : ∀ (l : List (Nat × Option (List AV))) (i : Nat), (ofB l i).map (List.map (killV t)) = ofB (killB t l) i
  | [], i => rfl
  | (k, v) :: l, i => by
    simp only [ofB, killB]
    split
    · rfl
    · exact ofB_kill t l i
theorem kill_st (l : List (Nat × AV)) (b : List (Nat × Option (List AV))) (rest : List BX) (t : Nat) :
    (st l b rest).kill t = st (killL t l) (killB t b) (rest.map fun f i => (f i).map (List.map (killV t))) := by
  simp only [st, S.kill, S.mk.injEq, and_true]
  exact ⟨funext fun i => ofL_kill t l i, funext fun i => ofB_kill t b i⟩

theorem setB_st (l : List (Nat × AV)) (b : List (Nat × Option (List AV))) (rest : List BX) (i : Nat) (cs : List AV) : (st l b rest).setB 0 i cs = st l ((i, some cs) :: b) rest := by
  simp only [st, S.setB, S.mk.injEq, and_true, true_and]
  funext j
  rfl
theorem look_st (l : List (Nat × AV)) (b : List (Nat × Option (List AV))) (rest : List BX) (i : Nat) : (st l b rest).look 0 i = ofB b i := rfl
theorem look_st_succ (l : List (Nat × AV)) (b : List (Nat × Option (List AV))) (rest : List BX) (d i : Nat) : (st l b rest).look (d + 1) i = lookR rest d i := rfl

def tidL (bs : List Nat) (l : List (Nat × AV)) : List Nat → List (Nat × AV)
  | [] => []
  | k :: ks => (k, san bs (ofL l k)) :: tidL bs l ks
def tidB (bs0 : List Nat) (b : List (Nat × Option (List AV))) : List Nat → List (Nat × Option (List AV))
  | [] => []
  | k :: ks => (k, (ofB b k).map (List.map (san bs0))) :: tidB bs0 b ks

theorem tidL_eq (bs : List Nat) (l : List (Nat × AV)) : ∀ ks, ks.map (fun k => (k, san bs (ofL l k))) = tidL bs l ks
  | [] => rfl
  | k :: ks => by simp only [List.map_cons, tidL, tidL_eq bs l ks]
theorem tidB_eq (bs : List Nat) (b : List (Nat × Option (List AV))) : ∀ ks, ks.map (fun k => (k, (ofB b k).map (List.map (san bs)))) = tidB bs b ks
  | [] => rfl
  | k :: ks => by simp only [List.map_cons, tidB, tidB_eq bs b ks]

theorem tidy_st (l : List (Nat × AV)) (b : List (Nat × Option (List AV))) (rest : List BX) (ks bs : List Nat) : (st l b rest).tidy (some (ks, bs)) = st (tidL bs l ks) (tidB bs b bs) rest := by
  simp only [st, S.tidy, S.mk.injEq, and_true]
  exact ⟨by rw [← tidL_eq], by rw [← tidB_eq]⟩

/-! Code. -/
def regK (k : Option (List Nat × List Nat)) : Option S → Option (Ex × S)
  | some s => some (.normal, s.tidy k)
  | none => none

noncomputable def seqK (E : Env) (call : Rec) (f : FuncId) (b : Code) : Option (Ex × S) → Option (Ex × S)
  | some (.normal, s) => exec E call iterL f b s
  | x => x

def blockK (id : Nat) : Option (Ex × S) → Option (Ex × S)
  | some (.exit j, s) => if j = id then some (.normal, s) else some (.exit j, s)
  | x => x

/-- A loop from its head on, the state already tidied. -/
noncomputable def loopE (E : Env) (call : Rec) (f : FuncId) (c : Code) (s : S) : Option (Ex × S) := iterL (fun s => (exec E call iterL f c s).map (tidyN (E.keepL f (headId c)))) s

noncomputable def loopK (E : Env) (call : Rec) (f : FuncId) (c : Code) : Option (Ex × S) → Option (Ex × S)
  | some (.normal, s) => loopE E call f c (s.tidy (E.keepL f (headId c)))
  | x => x

theorem exec_skip (s : S) : exec E call iterL f .skip s = some (.normal, s) := rfl
theorem exec_region (id : Nat) (s : S) : exec E call iterL f (.region id ops dr) s = regK (E.keep f id) (runO E call dr ops ops.toList (some s)) := by
  rw [exec, runReg_eq]
  cases runO E call dr ops ops.toList (some s) <;> rfl
theorem exec_seq (a b : Code) (s : S) : exec E call iterL f (.seq a b) s = seqK E call f b (exec E call iterL f a s) := by
  rw [exec]
  cases exec E call iterL f a s with
  | none => rfl
  | some r =>
    obtain ⟨x, s'⟩ := r
    cases x <;> rfl
theorem exec_block (id : Nat) (c : Code) (s : S) : exec E call iterL f (.block id c) s = blockK id (exec E call iterL f c s) := by
  rw [exec]
  cases exec E call iterL f c s with
  | none => rfl
  | some r =>
    obtain ⟨x, s'⟩ := r
    cases x <;> rfl
theorem exec_loop (c : Code) (s : S) : exec E call iterL f (.loop c) s = loopE E call f c (s.tidy (E.keepL f (headId c))) := rfl
theorem exec_exit (id : Nat) (s : S) : exec E call iterL f (.exit id) s = some (.exit id, s) := rfl
theorem exec_scope (c : Code) (s : S) : exec E call iterL f (.scope c) s = exec E call iterL f c s := rfl
theorem exec_label (l : Nat) (s : S) : exec E call iterL f (.label l) s = some (.normal, s) := rfl
theorem exec_ret (s : S) : exec E call iterL f .ret s = some (.ret, s) := rfl

/-- A branch, taken when its condition is known. -/
noncomputable def condE (E : Env) (call : Rec) (f : FuncId) (a b : Code) (s : S) : Option AV → Option (Ex × S)
  | some (.bool t) => if t = true then exec E call iterL f a s else exec E call iterL f b s
  | _ => none
theorem exec_cond (c : Operand) (a b : Code) (s : S) : exec E call iterL f (.cond c a b) s = condE E call f a b s (E.ev s.fr c) := by
  rw [exec]
  cases E.ev s.fr c with
  | none => rfl
  | some v => cases v <;> rfl
theorem condE_bool (a b : Code) (s : S) (t : Bool) : condE E call f a b s (some (.bool t)) = if t = true then exec E call iterL f a s else exec E call iterL f b s := rfl

theorem seqK_normal (b : Code) (s : S) : seqK E call f b (some (.normal, s)) = exec E call iterL f b s := rfl
theorem seqK_exit (b : Code) (i : Nat) (s : S) : seqK E call f b (some (.exit i, s)) = some (.exit i, s) := rfl
theorem seqK_ret (b : Code) (s : S) : seqK E call f b (some (.ret, s)) = some (.ret, s) := rfl
theorem seqK_ite (c : Prop) [Decidable c] (b : Code) (x y : Option (Ex × S)) : seqK E call f b (if c then x else y) = if c then seqK E call f b x else seqK E call f b y := by split <;> rfl
theorem blockK_normal (id : Nat) (s : S) : blockK id (some (.normal, s)) = some (.normal, s) := rfl
theorem blockK_exit (id i : Nat) (s : S) : blockK id (some (.exit i, s)) = if i = id then some (.normal, s) else some (.exit i, s) := rfl
theorem blockK_ret (id : Nat) (s : S) : blockK id (some (.ret, s)) = some (.ret, s) := rfl
theorem blockK_ite (c : Prop) [Decidable c] (id : Nat) (x y : Option (Ex × S)) : blockK id (if c then x else y) = if c then blockK id x else blockK id y := by split <;> rfl
theorem loopK_normal (c : Code) (s : S) : loopK E call f c (some (.normal, s)) = loopE E call f c (s.tidy (E.keepL f (headId c))) := rfl
theorem loopK_exit (c : Code) (i : Nat) (s : S) : loopK E call f c (some (.exit i, s)) = some (.exit i, s) := rfl
theorem loopK_ret (c : Code) (s : S) : loopK E call f c (some (.ret, s)) = some (.ret, s) := rfl
theorem loopK_ite (d : Prop) [Decidable d] (c : Code) (x y : Option (Ex × S)) : loopK E call f c (if d then x else y) = if d then loopK E call f c x else loopK E call f c y := by split <;> rfl
theorem regK_some (k : Option (List Nat × List Nat)) (s : S) : regK k (some s) = some (.normal, s.tidy k) := rfl
theorem regK_ite (c : Prop) [Decidable c] (k : Option (List Nat × List Nat)) (x y : Option S) : regK k (if c then x else y) = if c then regK k x else regK k y := by split <;> rfl

theorem loopE_eq (c : Code) (s : S) : loopE E call f c s = loopK E call f c (exec E call iterL f c s) := by
  unfold loopE
  rw [iterL_eq]
  cases exec E call iterL f c s with
  | none => rfl
  | some r =>
    obtain ⟨x, s'⟩ := r
    cases x <;> rfl

/-- A loop by induction on a measure. -/
theorem loopE_ind {c : Code} {α : Type} (I : α → S) (R : α → Option (Ex × S)) (μ : α → Nat)
    (step : ∀ a, (∀ a', μ a' < μ a → loopE E call f c (I a') = R a') → loopE E call f c (I a) = R a) (a : α) : loopE E call f c (I a) = R a := by
  have : ∀ n a, μ a < n → loopE E call f c (I a) = R a := by
    intro n
    induction n with
    | zero => intro a h; omega
    | succ n ih => intro a h; exact step a (fun a' h' => ih a' (by omega))
  exact this (μ a + 1) a (by omega)

/-- A loop by induction on a measure, with what holds at its head. -/
theorem loopE_run {c : Code} {α : Type} (I : α → S) (R : α → Option (Ex × S)) (Inv : α → Prop) (μ : α → Nat)
    (step : ∀ a, Inv a → (∀ a', Inv a' → μ a' < μ a → loopE E call f c (I a') = R a') → loopE E call f c (I a) = R a) (a : α) (ha : Inv a) : loopE E call f c (I a) = R a := by
  have : ∀ n a, Inv a → μ a < n → loopE E call f c (I a) = R a := by
    intro n
    induction n with
    | zero => intro a _ h; omega
    | succ n ih => intro a ha h; exact step a ha (fun a' ha' h' => ih a' ha' (by omega))
  exact this (μ a + 1) a ha (by omega)

/-! What comes out. -/
noncomputable def outK (s : S) : Option (List AV) → Option (List AV × List BX)
  | some l => if l.all resOk = true then some (l, s.rest) else none
  | none => none
theorem outK_some (s : S) (l : List AV) : outK s (some l) = if l.all resOk = true then some (l, s.rest) else none := rfl

noncomputable def bodyK (E : Env) (rs : List ResultVar) : Option (Ex × S) → Option (List AV × List BX)
  | some (.exit _, _) => none
  | some (_, s) => outK s (resA E s rs)
  | none => none

theorem body_eq {fn : Func} {c : Code} (hf : E.fns f = some fn) (hc : fn.body = some c) (args : List AV) (rest : List BX) :
    body E call iterL f args rest = bodyK E fn.results.toList (exec E call iterL f c (st (initL args 0) [] rest)) := by
  simp only [body, hf, hc, Option.bind_some, init_st]
  cases exec E call iterL f c (st (initL args 0) [] rest) with
  | none => rfl
  | some r =>
    obtain ⟨x, s⟩ := r
    have h : ∀ o : Option (List AV), (o.bind fun l => if l.all resOk = true then some (l, s.rest) else none) = outK s o := by intro o; cases o <;> rfl
    cases x <;> first | rfl | exact h _
theorem bodyK_ite (c : Prop) [Decidable c] (rs : List ResultVar) (x y : Option (Ex × S)) : bodyK E rs (if c then x else y) = if c then bodyK E rs x else bodyK E rs y := by split <;> rfl
theorem bodyK_normal (rs : List ResultVar) (s : S) : bodyK E rs (some (.normal, s)) = outK s (resA E s rs) := rfl
theorem bodyK_ret (rs : List ResultVar) (s : S) : bodyK E rs (some (.ret, s)) = outK s (resA E s rs) := rfl
def consO (v : AV) : Option (List AV) → Option (List AV)
  | some l => some (v :: l)
  | none => none
theorem resA_nil (s : S) : resA E s [] = some [] := rfl
theorem resA_tmp (s : S) (t : Nat) (r : List ResultVar) : resA E s (.tmp t :: r) = consO (s.fr t) (resA E s r) := by
  simp only [resA]
  cases resA E s r <;> rfl
theorem consO_some (v : AV) (l : List AV) : consO v (some l) = some (v :: l) := rfl
end
end Go.Avm

/-
  The abstract machine, part 16: each operation as an equation of its own.
-/
namespace Go.Avm
set_option linter.unusedVariables false
set_option linter.unusedSimpArgs false

section
variable {E : Env} {call : Rec} {f : FuncId} {dr : Bool} {d : Option Nat} {ty : TypeId} {pos : String} {aft : Array Edge} {g : Option (Nat × Bool)} {s : S}

/-! Operands. -/
theorem ev_tmp (fr : Nat → AV) (t : Nat) : E.ev fr (.tmp t) = some (fr t) := rfl
theorem ev_bool (fr : Nat → AV) (b : Bool) : E.ev fr (.const (.bool b)) = some (.bool b) := rfl
theorem ev_int (fr : Nat → AV) (k : IntKind) (n : Int) : E.ev fr (.const (.int k n)) = some (.int k n) := rfl
theorem ev_str (fr : Nat → AV) (b : ByteArray) : E.ev fr (.const (.string b)) = some (.str b) := rfl
theorem ev_nilI (fr : Nat → AV) : E.ev fr (.const .nilIface) = some .nilI := rfl
theorem ev_nilF (fr : Nat → AV) : E.ev fr (.const .nilFunc) = some .nilF := rfl
theorem ev_nilS (fr : Nat → AV) : E.ev fr (.const (.slice none 0 0)) = some .nilS := rfl
theorem ev_nilP (fr : Nat → AV) : E.ev fr (.const (.pointer none)) = some .nilP := rfl
theorem ev_global (fr : Nat → AV) (x : Nat) : E.ev fr (.global x) = (E.glob x).map .el := rfl
theorem ev_func (fr : Nat → AV) (x : Nat) : E.ev fr (.func x) = some (.fn x []) := rfl

theorem ofL_cons (k : Nat) (v : AV) (l : List (Nat × AV)) (i : Nat) : ofL ((k, v) :: l) i = if i = k then v else ofL l i := rfl
theorem ofB_cons (k : Nat) (v : Option (List AV)) (l : List (Nat × Option (List AV))) (i : Nat) : ofB ((k, v) :: l) i = if i = k then v else ofB l i := rfl
theorem ofL_nil (i : Nat) : ofL [] i = .any := rfl
theorem ofB_nil (i : Nat) : ofB [] i = none := rfl

/-! Plain operations. -/
theorem step_move (x : Operand) : stepOp E call dr ⟨d, .move x, ty, pos, aft, g⟩ s = putO s d (E.ev s.fr x) := step_val trivial
theorem step_assign_tmp (t : Nat) : stepOp E call dr ⟨d, .assign (.tmp t), ty, pos, aft, g⟩ s = putO s d (some (s.fr t)) := step_val trivial
theorem step_assign_bool (b : Bool) : stepOp E call dr ⟨d, .assign (.const (.bool b)), ty, pos, aft, g⟩ s = putO s d (some (.bool b)) := step_val trivial
theorem step_assign_int (k : IntKind) (n : Int) : stepOp E call dr ⟨d, .assign (.const (.int k n)), ty, pos, aft, g⟩ s = putO s d (some (.int k n)) := step_val trivial
theorem step_assign_str (b : ByteArray) : stepOp E call dr ⟨d, .assign (.const (.string b)), ty, pos, aft, g⟩ s = putO s d (some (.str b)) := step_val trivial
theorem step_assign_nilI : stepOp E call dr ⟨d, .assign (.const .nilIface), ty, pos, aft, g⟩ s = putO s d (some .nilI) := step_val trivial
theorem step_assign_nilF : stepOp E call dr ⟨d, .assign (.const .nilFunc), ty, pos, aft, g⟩ s = putO s d (some .nilF) := step_val trivial
theorem step_assign_nilP : stepOp E call dr ⟨d, .assign (.const (.pointer none)), ty, pos, aft, g⟩ s = putO s d (some .nilP) := step_val trivial
theorem step_assign_func (x : Nat) : stepOp E call dr ⟨d, .assign (.func x), ty, pos, aft, g⟩ s = putO s d (some (.fn x [])) := step_val trivial

/-- A nil slice in a slot of a slice's type: a row of one's own to come. -/
def nilO (s : S) (d : Nat) : Option TyI → Option S
  | some ⟨.slice e, _, _, _⟩ => some ((s.kill (tokS d)).put (some d) (.own (tokS d) e []))
  | _ => some (s.put (some d) .nilS)
theorem step_assign_nilS (d : Nat) : stepOp E call false ⟨some d, .assign (.const (.slice none 0 0)), ty, pos, aft, g⟩ s = nilO s d (E.ty ty) := by
  unfold stepOp nilO
  simp only []
  cases E.ty ty with
  | none => rfl
  | some i =>
    obtain ⟨dd, a, b, z⟩ := i
    cases dd <;> rfl
theorem step_assign_nilS_draw : stepOp E call true ⟨d, .assign (.const (.slice none 0 0)), ty, pos, aft, g⟩ s = putO s d (some .nilS) := by
  unfold stepOp
  rfl
theorem nilO_slice (s : S) (d : Nat) (e : TypeId) (a b : Nat) (z : List AV) : nilO s d (some ⟨.slice e, a, b, z⟩) = some ((s.kill (tokS d)).put (some d) (.own (tokS d) e [])) := rfl

def pickO : Option AV → Option AV → Option AV → Option AV
  | some (.bool t), a, b => if t then a else b
  | _, _, _ => none
theorem step_pick (c a b : Operand) : stepOp E call dr ⟨d, .pick c a b, ty, pos, aft, g⟩ s = putO s d (pickO (E.ev s.fr c) (E.ev s.fr a) (E.ev s.fr b)) := by
  rw [step_val trivial]
  congr 1
  simp only [valOp]
  cases E.ev s.fr c with
  | none => rfl
  | some v => cases v <;> rfl
theorem pickO_bool (t : Bool) (a b : AV) : pickO (some (.bool t)) (some a) (some b) = some (if t then a else b) := by cases t <;> rfl

def binO (E : Env) (op : BinOp) (t : TypeId) (x y : Operand) : Option AV → Option AV → Option AV
  | some a, some b => binA E op t x y a b
  | _, _ => none
theorem step_bin (op : BinOp) (t t' : TypeId) (x y : Operand) : stepOp E call dr ⟨d, .binOp op t x y t', ty, pos, aft, g⟩ s = putO s d (binO E op t x y (E.ev s.fr x) (E.ev s.fr y)) := by
  rw [step_val trivial]
  congr 1
  simp only [valOp]
  cases E.ev s.fr x <;> cases E.ev s.fr y <;> rfl
section
variable {t : TypeId} {x y : Operand}
theorem bin_add (k : IntKind) (m n : Int) : binO E .add t x y (some (.int k m)) (some (.int k n)) = some (.int k (k.wrap (m + n))) := by simp [binO, binA]
theorem bin_sub (k : IntKind) (m n : Int) : binO E .sub t x y (some (.int k m)) (some (.int k n)) = some (.int k (k.wrap (m - n))) := by simp [binO, binA]
theorem bin_mul (k : IntKind) (m n : Int) : binO E .mul t x y (some (.int k m)) (some (.int k n)) = some (.int k (k.wrap (m * n))) := by simp [binO, binA]
theorem bin_quo (k : IntKind) (m n : Int) (h : n ≠ 0) : binO E .quo t x y (some (.int k m)) (some (.int k n)) = some (.int k (k.wrap (m.tdiv n))) := by simp [binO, binA, h]
theorem bin_rem (k : IntKind) (m n : Int) (h : n ≠ 0) : binO E .rem t x y (some (.int k m)) (some (.int k n)) = some (.int k (m.tmod n)) := by simp [binO, binA, h]
theorem bin_eql (k : IntKind) (m n : Int) : binO E .eql t x y (some (.int k m)) (some (.int k n)) = some (.bool (decide (m = n))) := by simp [binO, binA]; rfl
theorem bin_neq (k : IntKind) (m n : Int) : binO E .neq t x y (some (.int k m)) (some (.int k n)) = some (.bool (decide (m ≠ n))) := by simp [binO, binA]; rfl
theorem bin_lss (k : IntKind) (m n : Int) : binO E .lss t x y (some (.int k m)) (some (.int k n)) = some (.bool (decide (m < n))) := by simp [binO, binA]
theorem bin_leq (k : IntKind) (m n : Int) : binO E .leq t x y (some (.int k m)) (some (.int k n)) = some (.bool (decide (m ≤ n))) := by simp [binO, binA]
theorem bin_gtr (k : IntKind) (m n : Int) : binO E .gtr t x y (some (.int k m)) (some (.int k n)) = some (.bool (decide (n < m))) := by simp [binO, binA]
theorem bin_geq (k : IntKind) (m n : Int) : binO E .geq t x y (some (.int k m)) (some (.int k n)) = some (.bool (decide (n ≤ m))) := by simp [binO, binA]
theorem bin_seql (p q : ByteArray) : binO E .eql t x y (some (.str p)) (some (.str q)) = some (.bool (p.toList == q.toList)) := rfl
theorem bin_sneq (p q : ByteArray) : binO E .neq t x y (some (.str p)) (some (.str q)) = some (.bool (!(p.toList == q.toList))) := rfl
theorem bin_slss (p q : ByteArray) : binO E .lss t x y (some (.str p)) (some (.str q)) = some (.bool (Op.bytesLess p.toList q.toList)) := rfl
theorem bin_sgtr (p q : ByteArray) : binO E .gtr t x y (some (.str p)) (some (.str q)) = some (.bool (!(Op.bytesLess p.toList q.toList || p.toList == q.toList))) := rfl
theorem bin_sadd (p q : ByteArray) (h : p.size + q.size ≤ 9223372036854775807) : binO E .add t x y (some (.str p)) (some (.str q)) = some (.str (p ++ q)) := by simp [binO, binA, h]
end
theorem step_not (t : TypeId) (x : Operand) (b : Bool) (h : E.ev s.fr x = some (.bool b)) : stepOp E call dr ⟨d, .unOp .not t x, ty, pos, aft, g⟩ s = some (s.put d (.bool !b)) := by
  rw [step_val trivial]
  simp [valOp, h, unA, putO]

/-! What a value loses where variables are dropped: nothing, mostly. -/
theorem san_any (bs : List Nat) : san bs .any = .any := rfl
theorem san_bool (bs : List Nat) (b : Bool) : san bs (.bool b) = .bool b := rfl
theorem san_int (bs : List Nat) (k : IntKind) (n : Int) : san bs (.int k n) = .int k n := rfl
theorem san_str (bs : List Nat) (b : ByteArray) : san bs (.str b) = .str b := rfl
theorem san_nilI (bs : List Nat) : san bs .nilI = .nilI := rfl
theorem san_nilF (bs : List Nat) : san bs .nilF = .nilF := rfl
theorem san_nilS (bs : List Nat) : san bs .nilS = .nilS := rfl
theorem san_nilP (bs : List Nat) : san bs .nilP = .nilP := rfl
theorem san_err (bs : List Nat) (n : Nat) : san bs (.err n) = .err n := rfl
theorem san_fn (bs : List Nat) (x : Nat) : san bs (.fn x []) = .fn x [] := rfl
theorem san_fn_cons (bs : List Nat) (x : Nat) (c : AV) (cs : List AV) : san bs (.fn x (c :: cs)) = if (c :: cs).all (san1 bs) then .fn x (c :: cs) else .any := rfl
theorem san_box (bs : List Nat) (i o : Nat) : san bs (.box 0 i o) = if bs.contains i then .box 0 i o else .any := rfl
theorem san_box_succ (bs : List Nat) (d i o : Nat) : san bs (.box (d + 1) i o) = .box (d + 1) i o := rfl
theorem san_bs (bs : List Nat) (i n : Nat) : san bs (.bs 0 i n) = if bs.contains i then .bs 0 i n else .any := rfl
theorem san_el (bs : List Nat) (cs : List AV) : san bs (.el cs) = .el cs := rfl
theorem san_sl (bs : List Nat) (cs : List AV) : san bs (.sl cs) = .sl cs := rfl
theorem san_own (bs : List Nat) (t : Nat) (e : TypeId) (cs : List AV) : san bs (.own t e cs) = .own t e cs := rfl
theorem san_agg (bs : List Nat) (cs : List AV) : san bs (.agg cs) = .agg cs := rfl
theorem san_tup (bs : List Nat) (cs : List AV) : san bs (.tup cs) = .tup cs := rfl
theorem san_ite (bs : List Nat) (c : Prop) [Decidable c] (a b : AV) : san bs (if c then a else b) = if c then san bs a else san bs b := by split <;> rfl

theorem res_bool (b : Bool) : resOk (.bool b) = true := rfl
theorem res_int (k : IntKind) (n : Int) : resOk (.int k n) = true := rfl
theorem res_str (b : ByteArray) : resOk (.str b) = true := rfl
theorem res_nilI : resOk .nilI = true := rfl
theorem res_nilF : resOk .nilF = true := rfl
theorem res_nilS : resOk .nilS = true := rfl
theorem res_err (n : Nat) : resOk (.err n) = true := rfl
theorem res_sl (xs : List AV) : resOk (.sl xs) = true := rfl
theorem res_own (t : Nat) (e : TypeId) (xs : List AV) : resOk (.own t e xs) = true := rfl
theorem res_agg (xs : List AV) : resOk (.agg xs) = true := rfl
theorem res_fn (x : Nat) : resOk (.fn x []) = true := rfl
end
end Go.Avm

/-
  The abstract machine, part 17: the operations that read and write variables, and calls, as equations.
-/
namespace Go.Avm
set_option linter.unusedVariables false
set_option linter.unusedSimpArgs false

section
variable {E : Env} {call : Rec} {f : FuncId} {dr : Bool} {d : Option Nat} {ty : TypeId} {pos : String} {aft : Array Edge} {g : Option (Nat × Bool)} {s : S}

/-! Lists by place, as a simplifier counts. -/
def getFrom {α : Type} (k : Nat) : List α → Nat → Option α
  | [], _ => none
  | c :: cs, j => if j = k then some c else getFrom (k + 1) cs j
theorem getFrom_eq {α : Type} : ∀ (l : List α) (k j : Nat), k ≤ j → getFrom k l j = l[j - k]?
  | [], k, j, _ => by simp [getFrom]
  | c :: cs, k, j, h => by
    simp only [getFrom]
    by_cases hj : j = k
    · subst hj; simp
    · rw [if_neg hj, getFrom_eq cs (k + 1) j (by omega)]
      have : j - k = (j - (k + 1)) + 1 := by omega
      rw [this]
      rfl
theorem get_from {α : Type} (l : List α) (j : Nat) : l[j]? = getFrom 0 l j := by rw [getFrom_eq l 0 j (Nat.zero_le _), Nat.sub_zero]

def dropFrom (k : Nat) : List AV → Nat → List AV
  | [], _ => []
  | c :: cs, n => if k < n then dropFrom (k + 1) cs n else c :: cs
theorem dropFrom_eq : ∀ (l : List AV) (k n : Nat), k ≤ n → dropFrom k l n = l.drop (n - k)
  | [], k, n, _ => by simp [dropFrom]
  | c :: cs, k, n, h => by
    simp only [dropFrom]
    by_cases hk : k < n
    · rw [if_pos hk, dropFrom_eq cs (k + 1) n (by omega)]
      have : n - k = (n - (k + 1)) + 1 := by omega
      rw [this]
      rfl
    · rw [if_neg hk]
      have : n - k = 0 := by omega
      rw [this]
      rfl
theorem drop_from (l : List AV) (n : Nat) : l.drop n = dropFrom 0 l n := by rw [dropFrom_eq l 0 n (Nat.zero_le _), Nat.sub_zero]

def setAt (k : Nat) : List AV → Nat → AV → List AV
  | [], _, _ => []
  | c :: cs, j, v => (if j = k then v else c) :: setAt (k + 1) cs j v
theorem setAt_len : ∀ (l : List AV) (k j : Nat) (v : AV), (setAt k l j v).length = l.length
  | [], _, _, _ => rfl
  | c :: cs, k, j, v => by simp [setAt, setAt_len cs]
theorem setAt_get : ∀ (l : List AV) (k j : Nat) (v : AV) (i : Nat), (setAt k l j v)[i]? = if j = k + i ∧ i < l.length then some v else l[i]?
  | [], k, j, v, i => by simp [setAt]
  | c :: cs, k, j, v, 0 => by simp [setAt]; split <;> rfl
  | c :: cs, k, j, v, i + 1 => by
    simp only [setAt, List.getElem?_cons_succ, setAt_get cs (k + 1) j v i, List.length_cons]
    have : (j = k + 1 + i ∧ i < cs.length) ↔ (j = k + (i + 1) ∧ i + 1 < cs.length + 1) := by omega
    simp only [this]
theorem overw_one {cs : List AV} {j : Nat} (v : AV) (h : j < cs.length) : overw cs j [v] = setAt 0 cs j v := by
  apply List.ext_getElem?
  intro i
  rw [overw, overw_get (by simp; omega), setAt_get]
  by_cases h1 : i < j
  · rw [if_pos h1, if_neg (by omega)]
  · rw [if_neg h1]
    by_cases h2 : i = j
    · subst h2
      simp [h]
    · rw [if_neg (by simp; omega), if_neg (by omega)]

/-! Loads. -/
def loadB (s : S) (d : Option Nat) (i : TyI) (k off : Nat) : Option (List AV) → Option S
  | some cs => putO s d ((loadA i cs off).map (AV.shift k))
  | none => none
def loadS (s : S) (d : Option Nat) : Option TyI → Option AV → Option S
  | some i, some (.el cs) => putO s d (loadA i cs 0)
  | some i, some (.box k j off) => loadB s d i k off (s.look k j)
  | _, _ => none
theorem step_load (t : TypeId) (x : Operand) : stepOp E call dr ⟨d, .load t x, ty, pos, aft, g⟩ s = loadS s d (E.ty t) (E.ev s.fr x) := by
  unfold stepOp loadS
  simp only []
  cases E.ty t with
  | none => rfl
  | some i =>
    cases E.ev s.fr x with
    | none => rfl
    | some v =>
      cases v <;> try rfl
      · rename_i k j off
        show ((s.look k j).bind fun cs => (loadA i cs off).bind fun v => some (s.put d (v.shift k))) = loadB s d i k off (s.look k j)
        cases s.look k j with
        | none => rfl
        | some cs =>
          show ((loadA i cs off).bind fun v => some (s.put d (v.shift k))) = putO s d ((loadA i cs off).map (AV.shift k))
          cases loadA i cs off <;> rfl
      · rename_i cs
        show ((loadA i cs 0).bind fun v => some (s.put d v)) = putO s d (loadA i cs 0)
        cases loadA i cs 0 <;> rfl
theorem loadS_el (i : TyI) (cs : List AV) : loadS s d (some i) (some (.el cs)) = putO s d (loadA i cs 0) := rfl
theorem loadS_box (i : TyI) (k j off : Nat) : loadS s d (some i) (some (.box k j off)) = loadB s d i k off (s.look k j) := rfl
theorem loadB_some (i : TyI) (k off : Nat) (cs : List AV) : loadB s d i k off (some cs) = putO s d ((loadA i cs off).map (AV.shift k)) := rfl
section
variable {a b : Nat} {z : List AV} {cs : List AV} {off : Nat}
theorem loadA_int (k : IntKind) : loadA ⟨.int k, a, b, z⟩ cs off = getFrom 0 cs off := by rw [← get_from]; rfl
theorem loadA_bool : loadA ⟨.bool, a, b, z⟩ cs off = getFrom 0 cs off := by rw [← get_from]; rfl
theorem loadA_str : loadA ⟨.str, a, b, z⟩ cs off = getFrom 0 cs off := by rw [← get_from]; rfl
theorem loadA_slice (e : TypeId) : loadA ⟨.slice e, a, b, z⟩ cs off = getFrom 0 cs off := by rw [← get_from]; rfl
theorem loadA_iface : loadA ⟨.iface, a, b, z⟩ cs off = getFrom 0 cs off := by rw [← get_from]; rfl
theorem loadA_func : loadA ⟨.func, a, b, z⟩ cs off = getFrom 0 cs off := by rw [← get_from]; rfl
theorem loadA_ptr (e : TypeId) : loadA ⟨.ptr e, a, b, z⟩ cs off = getFrom 0 cs off := by rw [← get_from]; rfl
theorem loadA_whole (fs : List (Nat × TypeId)) (hl : cs.length = a) (hd : (cs.all fun c => c.strip.data) = true) : loadA ⟨.struct fs, a, b, z⟩ cs 0 = some (.agg (cs.map AV.strip)) := by
  simp only [loadA, List.drop_zero]
  rw [List.take_of_length_le (by omega), if_pos ⟨by omega, hd⟩]
end

/-! Variables. -/
def allocS (s : S) (d : Nat) (n : Nat) : Option TyI → Option (List AV) → Option S
  | some i, none => some ((s.setB 0 n i.zero).put (some d) (.box 0 n 0))
  | _, _ => none
theorem step_alloc (d : Nat) (t : TypeId) : stepOp E call dr ⟨some d, .alloc t, ty, pos, aft, g⟩ s = allocS s d (bid t d) (E.ty t) (s.bx (bid t d)) := by
  unfold stepOp allocS
  simp only []
  cases E.ty t with
  | none => rfl
  | some i =>
    simp only []
    cases s.bx (bid t d) <;> rfl
theorem allocS_none (d n : Nat) (i : TyI) : allocS s d n (some i) none = some ((s.setB 0 n i.zero).put (some d) (.box 0 n 0)) := rfl

def boxS (s : S) (d n : Nat) : Option (List AV) → Option AV → Option S
  | none, some v => if v.cells.all AV.one = true then some ((s.setB 0 n v.strip.cells).put (some d) (.box 0 n 0)) else none
  | _, _ => none
theorem step_box (d : Nat) (t : TypeId) (x : Operand) : stepOp E call dr ⟨some d, .box t x, ty, pos, aft, g⟩ s = boxS s d (bid t d) (s.bx (bid t d)) (E.ev s.fr x) := by
  unfold stepOp boxS
  simp only []
  cases s.bx (bid t d) with
  | some _ => rfl
  | none => cases E.ev s.fr x <;> rfl
theorem boxS_none (d n : Nat) (v : AV) : boxS s d n none (some v) = if v.cells.all AV.one = true then some ((s.setB 0 n v.strip.cells).put (some d) (.box 0 n 0)) else none := rfl

/-! Stores. -/
def storeV (s : S) (i : TyI) (d j off : Nat) (v : AV) : Option (List AV) → Option S
  | some cs => if v.cells.all AV.one = true ∧ v.cells.length = i.sz ∧ off + v.cells.length ≤ cs.length ∧ (d = 0 ∨ v.data = true) then some (s.setB d j (overw cs off v.cells)) else none
  | none => none
def storeW (s : S) (i : TyI) (d j off nm : Nat) (e : TypeId) (xs : List AV) : Option (List AV) → Option S
  | some cs => if i.sz = 1 ∧ off < cs.length then some (s.setB d j (overw cs off [.own nm e xs])) else none
  | none => none
def storeS (s : S) (dr : Bool) : Option TyI → Option AV → Option AV → Option S
  | some i, some (.box d j off), some v => match v with
    | .own tk e xs => if dr then none else storeW ((s.kill tk).kill (s.tokB d j off)) i d j off (s.tokB d j off) e xs (((s.kill tk).kill (s.tokB d j off)).look d j)
    | v => storeV s i d j off v (s.look d j)
  | _, _, _ => none
theorem step_store (t : TypeId) (x y : Operand) : stepOp E call dr ⟨none, .store t x y, ty, pos, aft, g⟩ s = storeS s dr (E.ty t) (E.ev s.fr x) (E.ev s.fr y) := by
  unfold stepOp storeS
  simp only []
  cases E.ty t with
  | none => rfl
  | some i =>
    cases E.ev s.fr x with
    | none => rfl
    | some p =>
      cases E.ev s.fr y with
      | none => cases p <;> rfl
      | some v =>
        cases p <;> try rfl
        rename_i dd j off
        have h1 : ∀ v : AV, ((s.look dd j).bind fun cs => if v.cells.all AV.one = true ∧ v.cells.length = i.sz ∧ off + v.cells.length ≤ cs.length ∧ (dd = 0 ∨ v.data = true) then some (s.setB dd j (overw cs off v.cells)) else none) = storeV s i dd j off v (s.look dd j) := by
          intro v
          cases s.look dd j <;> rfl
        cases v <;> first
          | exact h1 _
          | (rename_i tk e xs
             show (if dr then none else (((s.kill tk).kill (s.tokB dd j off)).look dd j).bind fun cs => if i.sz = 1 ∧ off < cs.length then some ((((s.kill tk).kill (s.tokB dd j off))).setB dd j (overw cs off [.own (s.tokB dd j off) e xs])) else none) =
               if dr then none else storeW ((s.kill tk).kill (s.tokB dd j off)) i dd j off (s.tokB dd j off) e xs (((s.kill tk).kill (s.tokB dd j off)).look dd j)
             cases ((s.kill tk).kill (s.tokB dd j off)).look dd j <;> rfl)

/-! Calls. -/
def consV : Option AV → Option (List AV) → Option (List AV)
  | some v, some l => some (v.strip :: l)
  | _, _ => none
theorem argsA_nil (ρ : Operand → Option AV) : argsA ρ [] = some [] := rfl
theorem argsA_cons (ρ : Operand → Option AV) (x : Operand) (r : List Operand) : argsA ρ (x :: r) = consV (ρ x) (argsA ρ r) := by
  simp only [argsA]
  cases ρ x <;> cases argsA ρ r <;> rfl
theorem consV_some (v : AV) (l : List AV) : consV (some v) (some l) = some (v.strip :: l) := rfl

def retS (s : S) (dr : Bool) (d : Option Nat) : Option (List AV × List BX) → Option S
  | some (rs, []) => some (s.putRes dr d rs)
  | _ => none
def retB (s : S) (dr : Bool) (d : Option Nat) : Option (List AV × List BX) → Option S
  | some (rs, bx :: rest) => some (S.putRes ⟨fun i => dropB (s.fr i), bx, rest⟩ dr d rs)
  | _ => none
def callD (call : Rec) (dr : Bool) (d : Option Nat) (s : S) (x : FuncId) (caps : List AV) : Option (List AV) → Option S
  | some l => if (l ++ caps).all AV.data = true then retS s dr d (call x (l ++ caps) []) else if dr then none else retB s dr d (call x ((l ++ caps).map (AV.shift 1)) (s.bx :: s.rest))
  | none => none
def callV (E : Env) (call : Rec) (dr : Bool) (d : Option Nat) (s : S) (xs : List Operand) : Option AV → Option S
  | some (.fn x caps) => callD call dr d s x caps (argsA (E.ev s.fr) xs)
  | _ => none
theorem step_call (fx : Operand) (xs : List Operand) (ts : Array TypeId) : stepOp E call dr ⟨d, .call ⟨.value fx, ⟨xs⟩, ts⟩, ty, pos, aft, g⟩ s = callV E call dr d s xs (E.ev s.fr fx) := by
  unfold stepOp callV
  simp only []
  cases E.ev s.fr fx with
  | none => rfl
  | some v =>
    cases v <;> try rfl
    rename_i x caps
    show ((argsA (E.ev s.fr) xs).bind fun l => if (l ++ caps).all AV.data = true then (call x (l ++ caps) []).bind fun r => if r.2.isEmpty then some (s.putRes dr d r.1) else none else
      if dr then none else (call x ((l ++ caps).map (AV.shift 1)) (s.bx :: s.rest)).bind fun r => match r.2 with
        | bx' :: rest' => some (S.putRes ⟨fun i => dropB (s.fr i), bx', rest'⟩ dr d r.1)
        | [] => none) = callD call dr d s x caps (argsA (E.ev s.fr) xs)
    cases argsA (E.ev s.fr) xs with
    | none => rfl
    | some l =>
      simp only [Option.bind_some, callD]
      split
      · cases call x (l ++ caps) [] with
        | none => rfl
        | some r => obtain ⟨rs, rest⟩ := r; cases rest <;> rfl
      · split
        · rfl
        · cases call x ((l ++ caps).map (AV.shift 1)) (s.bx :: s.rest) with
          | none => rfl
          | some r => obtain ⟨rs, rest⟩ := r; cases rest <;> rfl
theorem callV_fn (xs : List Operand) (x : FuncId) (caps : List AV) : callV E call dr d s xs (some (.fn x caps)) = callD call dr d s x caps (argsA (E.ev s.fr) xs) := rfl
theorem callD_some (x : FuncId) (caps l : List AV) : callD call dr d s x caps (some l) = if (l ++ caps).all AV.data = true then retS s dr d (call x (l ++ caps) []) else if dr then none else retB s dr d (call x ((l ++ caps).map (AV.shift 1)) (s.bx :: s.rest)) := rfl
theorem retS_some (rs : List AV) : retS s dr d (some (rs, [])) = some (s.putRes dr d rs) := rfl
theorem retB_some (rs : List AV) (bx : BX) (rest : List BX) : retB s dr d (some (rs, bx :: rest)) = some (S.putRes ⟨fun i => dropB (s.fr i), bx, rest⟩ dr d rs) := rfl
end
end Go.Avm

/-
  The abstract machine, part 18: places, parts, slices, texts, rows as equations.
-/
namespace Go.Avm
set_option linter.unusedVariables false
set_option linter.unusedSimpArgs false

section
variable {E : Env} {call : Rec} {f : FuncId} {dr : Bool} {d : Option Nat} {ty : TypeId} {pos : String} {aft : Array Edge} {g : Option (Nat × Bool)} {s : S}

/-! A field's place. -/
def fAddr3 (off : Nat) : Option TyI → Option AV → Option AV
  | some fi, some (.box d i o) => if fi.sz = 0 then none else some (.box d i (o + off))
  | some fi, some (.el cs) => if fi.sz = 0 then none else some (.el (cs.drop off))
  | _, _ => none
def fAddr2 (E : Env) : Option (Nat × TypeId) → Option AV → Option AV
  | some (off, ft), v => fAddr3 off (E.ty ft) v
  | none, _ => none
def fAddr1 (E : Env) (fd : Nat) : Option TyI → Option AV → Option AV
  | some ⟨.struct fs, _, _, _⟩, v => fAddr2 E (getFrom 0 fs fd) v
  | _, _ => none
theorem step_fieldAddr (t : TypeId) (x : Operand) (fd : Nat) : stepOp E call dr ⟨d, .fieldAddr t x fd, ty, pos, aft, g⟩ s = putO s d (fAddr1 E fd (E.ty t) (E.ev s.fr x)) := by
  rw [step_val trivial]
  congr 1
  simp only [valOp]
  cases E.ty t with
  | none => rfl
  | some i =>
    obtain ⟨dd, a, b, z⟩ := i
    cases dd <;> try rfl
    rename_i fs
    simp only [fAddr1, get_from]
    cases getFrom 0 fs fd with
    | none => rfl
    | some p =>
      obtain ⟨off, ft⟩ := p
      simp only [fAddr2]
      cases E.ty ft with
      | none => rfl
      | some fi =>
        simp only []
        split
        · rename_i h0
          cases E.ev s.fr x with
          | none => rfl
          | some v => cases v <;> first | rfl | (simp only [fAddr3, if_pos h0])
        · rename_i h0
          cases E.ev s.fr x with
          | none => rfl
          | some v => cases v <;> first | rfl | (simp only [fAddr3, if_neg h0]; rfl)
theorem fAddr1_struct (fd : Nat) (fs : List (Nat × TypeId)) (a b : Nat) (z : List AV) (v : Option AV) : fAddr1 E fd (some ⟨.struct fs, a, b, z⟩) v = fAddr2 E (getFrom 0 fs fd) v := rfl
theorem fAddr2_some (off : Nat) (ft : TypeId) (v : Option AV) : fAddr2 E (some (off, ft)) v = fAddr3 off (E.ty ft) v := rfl
theorem fAddr3_box (off : Nat) (fi : TyI) (k i o : Nat) : fAddr3 off (some fi) (some (.box k i o)) = if fi.sz = 0 then none else some (.box k i (o + off)) := rfl
theorem fAddr3_el (off : Nat) (fi : TyI) (cs : List AV) : fAddr3 off (some fi) (some (.el cs)) = if fi.sz = 0 then none else some (.el (cs.drop off)) := rfl

/-! An element's place. -/
def iAddrL (sz : Nat) (n : Int) (xs : List AV) : Option AV := (lIdx xs n).bind fun y => if y.cells.length = sz then some (.el y.cells) else none
def iAddr2 (ei : TyI) (n : Int) : AV → Option AV
  | .bs d j m => if 0 ≤ n ∧ n < m then some (.box d j (n.toNat * ei.sz)) else none
  | .sl xs => iAddrL ei.sz n xs
  | .own _ _ xs => iAddrL ei.sz n xs
  | .nilS => iAddrL ei.sz n []
  | _ => none
def iAddrE (n : Int) (v : AV) : Option TyI → Option AV
  | some ei => iAddr2 ei n v
  | none => none
def iAddr1 (E : Env) : Option TyI → Option AV → Option AV → Option AV
  | some ⟨.slice e, _, _, _⟩, some v, some (.int _ n) => iAddrE n v (E.ty e)
  | _, _, _ => none
theorem step_indexAddr_slice (t : TypeId) (x i : Operand) {e : TypeId} {a b : Nat} {z : List AV} (ht : E.ty t = some ⟨.slice e, a, b, z⟩) :
    stepOp E call dr ⟨d, .indexAddr t x i, ty, pos, aft, g⟩ s = putO s d (iAddr1 E (some ⟨.slice e, a, b, z⟩) (E.ev s.fr x) (E.ev s.fr i)) := by
  rw [step_val trivial]
  congr 1
  simp only [valOp]
  cases E.ev s.fr x with
  | none => rfl
  | some v =>
    cases E.ev s.fr i with
    | none => rfl
    | some iv =>
      cases iv <;> try rfl
      simp only [Option.bind_some, ht, iAddr1]
      cases E.ty e with
      | none => rfl
      | some ei => cases v <;> rfl
theorem iAddr1_slice (e : TypeId) (a b : Nat) (z : List AV) (v : AV) (k : IntKind) (n : Int) : iAddr1 E (some ⟨.slice e, a, b, z⟩) (some v) (some (.int k n)) = iAddrE n v (E.ty e) := rfl
theorem iAddrE_some (n : Int) (v : AV) (ei : TyI) : iAddrE n v (some ei) = iAddr2 ei n v := rfl
theorem iAddr2_bs (ei : TyI) (n : Int) (k j m : Nat) : iAddr2 ei n (.bs k j m) = if 0 ≤ n ∧ n < m then some (.box k j (n.toNat * ei.sz)) else none := rfl
theorem iAddr2_sl (ei : TyI) (n : Int) (xs : List AV) : iAddr2 ei n (.sl xs) = iAddrL ei.sz n xs := rfl
theorem iAddr2_own (ei : TyI) (n : Int) (t : Nat) (e : TypeId) (xs : List AV) : iAddr2 ei n (.own t e xs) = iAddrL ei.sz n xs := rfl
theorem iAddrL_of {sz : Nat} {n : Int} {xs : List AV} {y : AV} (h0 : 0 ≤ n) (h1 : xs[n.toNat]? = some y) (h2 : y.cells.length = sz) : iAddrL sz n xs = some (.el y.cells) := by
  simp [iAddrL, lIdx, h0, h1, h2]

/-! A byte of a text. -/
def idxS : Option TyI → Option AV → Option AV → Option AV
  | some ⟨.str, _, _, _⟩, some (.str b), some (.int _ n) => (sIdx b n).map fun c => .int .u8 c.toNat
  | _, _, _ => none
theorem step_index_str (t : TypeId) (x i : Operand) {a b : Nat} {z : List AV} (ht : E.ty t = some ⟨.str, a, b, z⟩) :
    stepOp E call dr ⟨d, .index t x i, ty, pos, aft, g⟩ s = putO s d (idxS (some ⟨.str, a, b, z⟩) (E.ev s.fr x) (E.ev s.fr i)) := by
  rw [step_val trivial]
  congr 1
  simp only [valOp]
  cases E.ev s.fr x with
  | none => rfl
  | some v =>
    cases E.ev s.fr i with
    | none => cases v <;> rfl
    | some iv =>
      cases iv <;> try (cases v <;> rfl)
      simp only [Option.bind_some, ht]
      cases v <;> try rfl
      rename_i k n bb
      simp only [idxS]
      cases sIdx bb n <;> rfl
theorem idxS_of {a b : Nat} {z : List AV} {bs : ByteArray} {k : IntKind} {n : Int} {c : UInt8} (h : sIdx bs n = some c) : idxS (some ⟨.str, a, b, z⟩) (some (.str bs)) (some (.int k n)) = some (.int .u8 c.toNat) := by
  simp [idxS, h]

/-! Lengths. -/
def lenO : Option TyI → Option AV → Option AV
  | some ⟨.str, _, _, _⟩, some (.str b) => some (.int .i64 b.size)
  | some ⟨.slice _, _, _, _⟩, some (.bs _ _ m) => some (.int .i64 m)
  | some ⟨.slice _, _, _, _⟩, some (.sl xs) => some (.int .i64 xs.length)
  | some ⟨.slice _, _, _, _⟩, some (.own _ _ xs) => some (.int .i64 xs.length)
  | some ⟨.slice _, _, _, _⟩, some .nilS => some (.int .i64 0)
  | _, _ => none
theorem step_len (t : TypeId) (x : Operand) : stepOp E call dr ⟨d, .call ⟨.builtin .len, ⟨[x]⟩, ⟨[t]⟩⟩, ty, pos, aft, g⟩ s = putO s d (lenO (E.ty t) (E.ev s.fr x)) := by
  rw [step_val trivial]
  congr 1
  simp only [valOp]
  cases E.ev s.fr x with
  | none => cases E.ty t with
    | none => rfl
    | some i => obtain ⟨dd, a, b, z⟩ := i; cases dd <;> rfl
  | some v =>
    cases E.ty t with
    | none => rfl
    | some i => obtain ⟨dd, a, b, z⟩ := i; cases dd <;> cases v <;> rfl
theorem lenO_str (a b : Nat) (z : List AV) (x : ByteArray) : lenO (some ⟨.str, a, b, z⟩) (some (.str x)) = some (.int .i64 x.size) := rfl
theorem lenO_bs (e : TypeId) (a b : Nat) (z : List AV) (k i m : Nat) : lenO (some ⟨.slice e, a, b, z⟩) (some (.bs k i m)) = some (.int .i64 m) := rfl
theorem lenO_sl (e : TypeId) (a b : Nat) (z : List AV) (xs : List AV) : lenO (some ⟨.slice e, a, b, z⟩) (some (.sl xs)) = some (.int .i64 xs.length) := rfl
theorem lenO_own (e : TypeId) (a b : Nat) (z : List AV) (t : Nat) (e' : TypeId) (xs : List AV) : lenO (some ⟨.slice e, a, b, z⟩) (some (.own t e' xs)) = some (.int .i64 xs.length) := rfl
theorem lenO_nil (e : TypeId) (a b : Nat) (z : List AV) : lenO (some ⟨.slice e, a, b, z⟩) (some .nilS) = some (.int .i64 0) := rfl

/-! The results of a call. -/
def extO (i : Nat) : Option AV → Option AV
  | some (.tup vs) => getFrom 0 vs i
  | _ => none
theorem step_extract (x : Operand) (i : Nat) : stepOp E call dr ⟨d, .extract x i, ty, pos, aft, g⟩ s = putO s d (extO i (E.ev s.fr x)) := by
  rw [step_val trivial]
  congr 1
  simp only [valOp]
  cases E.ev s.fr x with
  | none => rfl
  | some v => cases v <;> first | rfl | exact get_from _ _
theorem extO_tup (i : Nat) (vs : List AV) : extO i (some (.tup vs)) = getFrom 0 vs i := rfl

/-! A part of a text, of a row. -/
def lowO : Option (Option AV) → Option Int
  | none => some 0
  | some (some (.int _ n)) => some n
  | _ => none
def highO (m : Nat) : Option (Option AV) → Option Int
  | none => some m
  | some (some (.int _ n)) => some n
  | _ => none
def cutS (b : ByteArray) : Option Int → Option Int → Option AV
  | some l, some h => if 0 ≤ l ∧ l ≤ h ∧ h ≤ b.size then some (.str (b.extract l.toNat h.toNat)) else none
  | _, _ => none
def cutL (sz : Nat) (xs : List AV) : Option Int → Option Int → Option AV
  | some l, some h => if 0 ≤ l ∧ l ≤ h ∧ h ≤ xs.length ∧ (xs.all fun y => y.cells.length == sz) = true then some (.sl ((xs.take h.toNat).drop l.toNat)) else none
  | _, _ => none
theorem boundA_eq (ρ : Operand → Option AV) (m : Nat) (x : Option Operand) : boundA ρ m x = highO m (x.map ρ) := by
  cases x with
  | none => rfl
  | some y =>
    simp only [boundA, Option.map_some]
    cases ρ y with
    | none => rfl
    | some v => cases v <;> rfl
def sliceS (E : Env) (lo hi : Option (Option AV)) : Option TyI → Option AV → Option AV
  | some ⟨.str, _, _, _⟩, some (.str b) => cutS b (highO 0 lo) (highO b.size hi)
  | _, _ => none
theorem step_slice_str (t : TypeId) (x : Operand) (lo hi : Option Operand) {a b : Nat} {z : List AV} (ht : E.ty t = some ⟨.str, a, b, z⟩) :
    stepOp E call dr ⟨d, .slice t x lo hi none, ty, pos, aft, g⟩ s = putO s d (sliceS E (lo.map (E.ev s.fr)) (hi.map (E.ev s.fr)) (some ⟨.str, a, b, z⟩) (E.ev s.fr x)) := by
  rw [step_val trivial]
  congr 1
  simp only [valOp]
  cases E.ev s.fr x with
  | none => rfl
  | some v =>
    simp only [Option.bind_some, ht]
    cases v <;> try rfl
    rename_i bb
    simp only [boundA_eq, sliceS]
    cases highO 0 (lo.map (E.ev s.fr)) <;> cases highO bb.size (hi.map (E.ev s.fr)) <;> rfl
theorem sliceS_str (a b : Nat) (z : List AV) (x : ByteArray) (lo hi : Option (Option AV)) : sliceS E lo hi (some ⟨.str, a, b, z⟩) (some (.str x)) = cutS x (highO 0 lo) (highO x.size hi) := rfl
theorem highO_none (m : Nat) : highO m none = some (m : Int) := rfl
theorem highO_some (m : Nat) (k : IntKind) (n : Int) : highO m (some (some (.int k n))) = some n := rfl
theorem cutS_of {b : ByteArray} {l h : Int} (h0 : 0 ≤ l) (h1 : l ≤ h) (h2 : h ≤ b.size) : cutS b (some l) (some h) = some (.str (b.extract l.toNat h.toNat)) := by
  simp [cutS, h0, h1, h2]
end
end Go.Avm

/-
  The abstract machine, part 19: structs and rows that are made, as equations.
-/
namespace Go.Avm
set_option linter.unusedVariables false
set_option linter.unusedSimpArgs false

section
variable {E : Env} {call : Rec} {f : FuncId} {dr : Bool} {d : Option Nat} {ty : TypeId} {pos : String} {aft : Array Edge} {g : Option (Nat × Bool)} {s : S}

def orV : Option AV → AV → AV
  | some v, _ => v
  | none, c => c
theorem orV_some (v c : AV) : orV (some v) c = v := rfl
theorem orV_none (c : AV) : orV none c = c := rfl
def overwAt (k : Nat) : List AV → Nat → List AV → List AV
  | [], _, _ => []
  | c :: cs, off, vs => (if k < off then c else orV (getFrom off vs k) c) :: overwAt (k + 1) cs off vs
theorem overwAt_get : ∀ (cs : List AV) (k off : Nat) (vs : List AV) (i : Nat), (overwAt k cs off vs)[i]? = (cs[i]?).map fun c => if k + i < off then c else orV (vs[k + i - off]?) c
  | [], k, off, vs, i => by simp [overwAt]
  | c :: cs, k, off, vs, 0 => by
    simp only [overwAt, List.getElem?_cons_zero, Option.map_some, Nat.add_zero]
    split
    · rfl
    · rename_i h; rw [getFrom_eq vs off k (by omega)]
  | c :: cs, k, off, vs, i + 1 => by
    simp only [overwAt, List.getElem?_cons_succ, overwAt_get cs (k + 1) off vs i]
    rw [show k + 1 + i = k + (i + 1) by omega]
theorem overw_at {cs vs : List AV} {off : Nat} (h : off + vs.length ≤ cs.length) : overw cs off vs = overwAt 0 cs off vs := by
  apply List.ext_getElem?
  intro i
  rw [overw, overw_get h, overwAt_get]
  simp only [Nat.zero_add]
  by_cases h1 : i < off
  · rw [if_pos h1]
    cases hc : cs[i]? with
    | none => rfl
    | some c => simp [h1]
  · rw [if_neg h1]
    by_cases h2 : i < off + vs.length
    · rw [if_pos h2]
      have hi : i < cs.length := by omega
      have hv : i - off < vs.length := by omega
      rw [List.getElem?_eq_getElem hi, List.getElem?_eq_getElem hv]
      simp [h1, orV]
    · rw [if_neg h2]
      have hv : vs[i - off]? = none := List.getElem?_eq_none (by omega)
      rw [hv]
      cases cs[i]? with
      | none => rfl
      | some c => simp [h1, orV]

def consP (i : Nat) : Option AV → Option (List (Nat × AV)) → Option (List (Nat × AV))
  | some v, some l => some ((i, v.strip) :: l)
  | _, _ => none
theorem partsA_nil (ρ : Operand → Option AV) : partsA ρ [] = some [] := rfl
theorem partsA_cons (ρ : Operand → Option AV) (i : Nat) (x : Operand) (r : List (Nat × Operand)) : partsA ρ ((i, x) :: r) = consP i (ρ x) (partsA ρ r) := by
  simp only [partsA]
  cases ρ x <;> cases partsA ρ r <;> rfl
theorem consP_some (i : Nat) (v : AV) (l : List (Nat × AV)) : consP i (some v) (some l) = some ((i, v.strip) :: l) := rfl

def fill3 (E : Env) (fs : List (Nat × TypeId)) (cs : List AV) (v : AV) (r : List (Nat × AV)) (off : Nat) : Option TyI → Option (List AV)
  | some ti => if v.cells.length = ti.sz ∧ off + v.cells.length ≤ cs.length ∧ v.data = true then fillA E fs (overwAt 0 cs off v.cells) r else none
  | none => none
def fill2 (E : Env) (fs : List (Nat × TypeId)) (cs : List AV) (v : AV) (r : List (Nat × AV)) : Option (Nat × TypeId) → Option (List AV)
  | some (off, t) => fill3 E fs cs v r off (E.ty t)
  | none => none
theorem fillA_nil (fs : List (Nat × TypeId)) (cs : List AV) : fillA E fs cs [] = some cs := rfl
theorem fillA_cons (fs : List (Nat × TypeId)) (cs : List AV) (i : Nat) (v : AV) (r : List (Nat × AV)) : fillA E fs cs ((i, v) :: r) = fill2 E fs cs v r (getFrom 0 fs i) := by
  simp only [fillA, get_from]
  cases getFrom 0 fs i with
  | none => rfl
  | some p =>
    obtain ⟨off, t⟩ := p
    simp only [fill2]
    cases E.ty t with
    | none => rfl
    | some ti =>
      simp only [fill3]
      split
      · rename_i h; rw [overw_at h.2.1]
      · rfl
theorem fill2_some (fs : List (Nat × TypeId)) (cs : List AV) (v : AV) (r : List (Nat × AV)) (off : Nat) (t : TypeId) : fill2 E fs cs v r (some (off, t)) = fill3 E fs cs v r off (E.ty t) := rfl
theorem fill3_some (fs : List (Nat × TypeId)) (cs : List AV) (v : AV) (r : List (Nat × AV)) (off : Nat) (ti : TyI) : fill3 E fs cs v r off (some ti) =
    if v.cells.length = ti.sz ∧ off + v.cells.length ≤ cs.length ∧ v.data = true then fillA E fs (overwAt 0 cs off v.cells) r else none := rfl

def aggO : Option (List AV) → Option AV
  | some cs => some (.agg cs)
  | none => none
theorem aggO_some (cs : List AV) : aggO (some cs) = some (.agg cs) := rfl
def bld2 (E : Env) (fs : List (Nat × TypeId)) (z : List AV) : Option (List (Nat × AV)) → Option AV
  | some l => aggO (fillA E fs z l)
  | none => none
theorem bld2_some (fs : List (Nat × TypeId)) (z : List AV) (l : List (Nat × AV)) : bld2 E fs z (some l) = aggO (fillA E fs z l) := rfl
theorem step_build (t : TypeId) (ps : List (Nat × Operand)) {fs : List (Nat × TypeId)} {a b : Nat} {z : List AV} (ht : E.ty t = some ⟨.struct fs, a, b, z⟩) :
    stepOp E call dr ⟨d, .build t ⟨ps⟩, ty, pos, aft, g⟩ s = putO s d (bld2 E fs z (partsA (E.ev s.fr) ps)) := by
  rw [step_val trivial]
  congr 1
  simp only [valOp, ht]
  cases partsA (E.ev s.fr) ps with
  | none => rfl
  | some l =>
    simp only [Option.bind_some, bld2]
    cases fillA E fs z l <;> rfl

/-! Rows. -/
def bsl3 (s : S) (dr : Bool) (d n : Nat) (e : TypeId) (l : List (Nat × AV)) : Option TyI → Option S
  | some ei => if l.map (·.1) = List.range n ∧ l.length = n ∧ (l.all fun p => p.2.data && p.2.elemOk ei.sz) = true ∧ 0 < ei.sz ∧ n * ei.sz ≤ 16777216
      then some (if dr then s.put (some d) (.sl (l.map (·.2))) else (s.kill (tokS d)).put (some d) (.own (tokS d) e (l.map (·.2)))) else none
  | none => none
def bsl2 (E : Env) (s : S) (dr : Bool) (d n : Nat) (e : TypeId) : Option (List (Nat × AV)) → Option S
  | some l => bsl3 s dr d n e l (E.ty e)
  | none => none
theorem step_buildSlice (d : Nat) (t : TypeId) (n : Nat) (ps : List (Nat × Operand)) {e : TypeId} {a b : Nat} {z : List AV} (ht : E.ty t = some ⟨.slice e, a, b, z⟩) :
    stepOp E call dr ⟨some d, .buildSlice t n ⟨ps⟩, ty, pos, aft, g⟩ s = bsl2 E s dr d n e (partsA (E.ev s.fr) ps) := by
  unfold stepOp bsl2
  simp only [ht]
  cases hE : E.ty e with
  | none => cases partsA (E.ev s.fr) ps <;> rfl
  | some ei => cases partsA (E.ev s.fr) ps <;> rfl

def app3 (s : S) (d : Nat) (e : TypeId) (ei : TyI) (ys : List AV) : AV → Option S
  | .own tk ea xs => if ea = e ∧ 0 < ei.sz ∧ (xs.length + ys.length) * ei.bytes ≤ 140737488355328 ∧ xs.length + ys.length ≤ 4611686018427387904 ∧ (ys.all (AV.elemOk ei.sz)) = true
      then some ((s.kill tk).put (some d) (.own tk e (xs ++ ys))) else none
  | .nilS => if 0 < ei.sz ∧ ys.length * ei.bytes ≤ 140737488355328 ∧ ys.length ≤ 4611686018427387904 ∧ (ys.all (AV.elemOk ei.sz)) = true
      then some ((s.kill (tokS d)).put (some d) (.own (tokS d) e ys)) else none
  | _ => none
def app2 (s : S) (d : Nat) (e : TypeId) : Option TyI → Option AV → Option (List AV) → Option S
  | some ei, some a, some ys => app3 s d e ei ys a
  | _, _, _ => none
def srcO (E : Env) (t u : TypeId) : Option AV → Option (List AV)
  | some b => srcA E t u b
  | none => none
theorem step_append (d : Nat) (t u : TypeId) (x y : Operand) {e : TypeId} {a b : Nat} {z : List AV} (ht : E.ty t = some ⟨.slice e, a, b, z⟩) :
    stepOp E call false ⟨some d, .call ⟨.builtin .append, ⟨[x, y]⟩, ⟨[t, u]⟩⟩, ty, pos, aft, g⟩ s = app2 s d e (E.ty e) (E.ev s.fr x) (srcO E t u (E.ev s.fr y)) := by
  unfold stepOp app2
  simp only [ht, Bool.false_eq_true, if_false]
  cases E.ty e with
  | none => rfl
  | some ei =>
    cases E.ev s.fr x with
    | none => rfl
    | some p =>
      cases E.ev s.fr y with
      | none => cases p <;> rfl
      | some q =>
        simp only [Option.bind_some, srcO]
        cases srcA E t u q with
        | none => rfl
        | some ys => cases p <;> rfl
theorem srcO_sl (t : TypeId) (xs : List AV) : srcO E t t (some (.sl xs)) = some xs := by simp [srcO, srcA, AV.elems]
theorem srcO_own (t : TypeId) (k : Nat) (e : TypeId) (xs : List AV) : srcO E t t (some (.own k e xs)) = some xs := by simp [srcO, srcA, AV.elems]
theorem srcO_nil (t : TypeId) : srcO E t t (some .nilS) = some [] := by simp [srcO, srcA, AV.elems]
theorem app2_some (d : Nat) (e : TypeId) (ei : TyI) (a : AV) (ys : List AV) : app2 s d e (some ei) (some a) (some ys) = app3 s d e ei ys a := rfl
theorem app3_own (d : Nat) (e : TypeId) (ei : TyI) (tk : Nat) (xs ys : List AV) (h : 0 < ei.sz ∧ (xs.length + ys.length) * ei.bytes ≤ 140737488355328 ∧ xs.length + ys.length ≤ 4611686018427387904 ∧ (ys.all (AV.elemOk ei.sz)) = true) :
    app3 s d e ei ys (.own tk e xs) = some ((s.kill tk).put (some d) (.own tk e (xs ++ ys))) := by unfold app3; exact if_pos ⟨rfl, h⟩
theorem app3_nil (d : Nat) (e : TypeId) (ei : TyI) (ys : List AV) (h : 0 < ei.sz ∧ ys.length * ei.bytes ≤ 140737488355328 ∧ ys.length ≤ 4611686018427387904 ∧ (ys.all (AV.elemOk ei.sz)) = true) :
    app3 s d e ei ys .nilS = some ((s.kill (tokS d)).put (some d) (.own (tokS d) e ys)) := by unfold app3; exact if_pos h

/-! Small ones. -/
def notO : Option AV → Option AV
  | some (.bool b) => some (.bool !b)
  | _ => none
theorem step_un_not (t : TypeId) (x : Operand) : stepOp E call dr ⟨d, .unOp .not t x, ty, pos, aft, g⟩ s = putO s d (notO (E.ev s.fr x)) := by
  rw [step_val trivial]
  congr 1
  simp only [valOp]
  cases E.ev s.fr x with
  | none => rfl
  | some v => cases v <;> rfl
theorem notO_bool (b : Bool) : notO (some (.bool b)) = some (.bool !b) := rfl
def nilcO : Option AV → Option AV
  | some (.box d i off) => some (.box d i off)
  | some (.el cs) => some (.el cs)
  | _ => none
theorem step_nilCheck (x : Operand) : stepOp E call dr ⟨d, .nilCheck x, ty, pos, aft, g⟩ s = putO s d (nilcO (E.ev s.fr x)) := by
  rw [step_val trivial]
  congr 1
  simp only [valOp]
  cases E.ev s.fr x with
  | none => rfl
  | some v => cases v <;> rfl
theorem nilcO_box (k i off : Nat) : nilcO (some (.box k i off)) = some (.box k i off) := rfl
theorem nilcO_el (cs : List AV) : nilcO (some (.el cs)) = some (.el cs) := rfl
def maxO : Option AV → Option AV → Option AV
  | some (.int k m), some (.int _ n) => some (.int k (if n > m then n else m))
  | _, _ => none
theorem step_max (x y : Operand) (ts : Array TypeId) : stepOp E call dr ⟨d, .call ⟨.builtin .max, ⟨[x, y]⟩, ts⟩, ty, pos, aft, g⟩ s = putO s d (maxO (E.ev s.fr x) (E.ev s.fr y)) := by
  rw [step_val trivial]
  congr 1
  simp only [valOp]
  cases E.ev s.fr x with
  | none => rfl
  | some v =>
    cases E.ev s.fr y with
    | none => cases v <;> rfl
    | some v' => cases v <;> cases v' <;> rfl
theorem maxO_int (k k' : IntKind) (m n : Int) : maxO (some (.int k m)) (some (.int k' n)) = some (.int k (if n > m then n else m)) := rfl

/-! The same, by what the type is. -/
def idxK (E : Env) (ρ : Operand → Option AV) (t : TypeId) (x i : Operand) : Option TyI → Option AV
  | some ⟨.str, a, b, z⟩ => idxS (some ⟨.str, a, b, z⟩) (ρ x) (ρ i)
  | _ => valOp E ρ (.index t x i)
theorem step_index (t : TypeId) (x i : Operand) : stepOp E call dr ⟨d, .index t x i, ty, pos, aft, g⟩ s = putO s d (idxK E (E.ev s.fr) t x i (E.ty t)) := by
  cases h : E.ty t with
  | none => exact step_val trivial
  | some ti =>
    obtain ⟨dd, a, b, z⟩ := ti
    cases dd <;> first | exact step_index_str t x i h | exact step_val trivial
theorem idxK_str (ρ : Operand → Option AV) (t : TypeId) (x i : Operand) (a b : Nat) (z : List AV) : idxK E ρ t x i (some ⟨.str, a, b, z⟩) = idxS (some ⟨.str, a, b, z⟩) (ρ x) (ρ i) := rfl
theorem idxS_str (a b : Nat) (z : List AV) (bs : ByteArray) (k : IntKind) (n : Int) : idxS (some ⟨.str, a, b, z⟩) (some (.str bs)) (some (.int k n)) = (sIdx bs n).map fun c => .int .u8 c.toNat := rfl

def iAddrK (E : Env) (ρ : Operand → Option AV) (t : TypeId) (x i : Operand) : Option TyI → Option AV
  | some ⟨.slice e, a, b, z⟩ => iAddr1 E (some ⟨.slice e, a, b, z⟩) (ρ x) (ρ i)
  | _ => valOp E ρ (.indexAddr t x i)
theorem step_indexAddr (t : TypeId) (x i : Operand) : stepOp E call dr ⟨d, .indexAddr t x i, ty, pos, aft, g⟩ s = putO s d (iAddrK E (E.ev s.fr) t x i (E.ty t)) := by
  cases h : E.ty t with
  | none => exact step_val trivial
  | some ti =>
    obtain ⟨dd, a, b, z⟩ := ti
    cases dd <;> first | exact step_indexAddr_slice t x i h | exact step_val trivial
theorem iAddrK_slice (ρ : Operand → Option AV) (t : TypeId) (x i : Operand) (e : TypeId) (a b : Nat) (z : List AV) : iAddrK E ρ t x i (some ⟨.slice e, a, b, z⟩) = iAddr1 E (some ⟨.slice e, a, b, z⟩) (ρ x) (ρ i) := rfl

def sliceV (E : Env) (e : TypeId) (lo hi : Option (Option AV)) (xs : List AV) : Option TyI → Option AV
  | some ei => cutL ei.sz xs (highO 0 lo) (highO xs.length hi)
  | none => none
def sliceL (E : Env) (e : TypeId) (lo hi : Option (Option AV)) : Option AV → Option AV
  | some (.sl xs) => sliceV E e lo hi xs (E.ty e)
  | some (.own _ _ xs) => sliceV E e lo hi xs (E.ty e)
  | some .nilS => sliceV E e lo hi [] (E.ty e)
  | _ => none
def sliceK (E : Env) (lo hi : Option (Option AV)) (v : Option AV) : Option TyI → Option AV
  | some ⟨.str, a, b, z⟩ => sliceS E lo hi (some ⟨.str, a, b, z⟩) v
  | some ⟨.slice e, _, _, _⟩ => sliceL E e lo hi v
  | _ => none
theorem step_slice (t : TypeId) (x : Operand) (lo hi : Option Operand) : stepOp E call dr ⟨d, .slice t x lo hi none, ty, pos, aft, g⟩ s = putO s d (sliceK E (lo.map (E.ev s.fr)) (hi.map (E.ev s.fr)) (E.ev s.fr x) (E.ty t)) := by
  cases h : E.ty t with
  | none =>
    rw [step_val trivial]
    congr 1
    simp only [valOp, h]
    cases E.ev s.fr x <;> rfl
  | some ti =>
    obtain ⟨dd, a, b, z⟩ := ti
    have hnone : ∀ (hd : ∀ e, dd ≠ .slice e) (hd2 : dd ≠ .str), stepOp E call dr ⟨d, .slice t x lo hi none, ty, pos, aft, g⟩ s = putO s d (sliceK E (lo.map (E.ev s.fr)) (hi.map (E.ev s.fr)) (E.ev s.fr x) (some ⟨dd, a, b, z⟩)) := by
      intro hd hd2
      rw [step_val trivial]
      congr 1
      simp only [valOp, h]
      cases E.ev s.fr x with
      | none => cases dd <;> first | rfl | exact absurd rfl (hd _) | exact absurd rfl hd2
      | some v => cases dd <;> first | rfl | exact absurd rfl (hd _) | exact absurd rfl hd2
    cases dd with
    | str => exact step_slice_str t x lo hi h
    | slice e =>
      rw [step_val trivial]
      congr 1
      simp only [valOp, h]
      cases E.ev s.fr x with
      | none => rfl
      | some v =>
        simp only [Option.bind_some, sliceK]
        have key : ∀ xs : List AV, (match E.ty e with
            | some ei => (boundA (E.ev s.fr) 0 lo).bind fun l => (boundA (E.ev s.fr) xs.length hi).bind fun h =>
                if 0 ≤ l ∧ l ≤ h ∧ h ≤ xs.length ∧ (xs.all fun y => y.cells.length == ei.sz) = true then some (AV.sl ((xs.take h.toNat).drop l.toNat)) else none
            | none => none) = sliceV E e (lo.map (E.ev s.fr)) (hi.map (E.ev s.fr)) xs (E.ty e) := by
          intro xs
          cases E.ty e with
          | none => rfl
          | some ei =>
            simp only [boundA_eq, sliceV]
            cases highO 0 (lo.map (E.ev s.fr)) <;> cases highO xs.length (hi.map (E.ev s.fr)) <;> rfl
        have hn : (match E.ty e with | some ei => (none : Option AV) | none => none) = none := by cases E.ty e <;> rfl
        cases v <;> first
          | exact key _
          | (simp only [AV.elems, Option.bind_none]; exact hn)
    | _ => exact hnone (by simp) (by simp)
theorem sliceK_str (lo hi : Option (Option AV)) (v : Option AV) (a b : Nat) (z : List AV) : sliceK E lo hi v (some ⟨.str, a, b, z⟩) = sliceS E lo hi (some ⟨.str, a, b, z⟩) v := rfl
theorem sliceK_slice (lo hi : Option (Option AV)) (v : Option AV) (e : TypeId) (a b : Nat) (z : List AV) : sliceK E lo hi v (some ⟨.slice e, a, b, z⟩) = sliceL E e lo hi v := rfl
theorem sliceL_sl (e : TypeId) (lo hi : Option (Option AV)) (xs : List AV) : sliceL E e lo hi (some (.sl xs)) = sliceV E e lo hi xs (E.ty e) := rfl
theorem sliceL_own (e : TypeId) (lo hi : Option (Option AV)) (t : Nat) (e' : TypeId) (xs : List AV) : sliceL E e lo hi (some (.own t e' xs)) = sliceV E e lo hi xs (E.ty e) := rfl
theorem sliceL_nil (e : TypeId) (lo hi : Option (Option AV)) : sliceL E e lo hi (some .nilS) = sliceV E e lo hi [] (E.ty e) := rfl
theorem sliceV_some (e : TypeId) (lo hi : Option (Option AV)) (xs : List AV) (ei : TyI) : sliceV E e lo hi xs (some ei) = cutL ei.sz xs (highO 0 lo) (highO xs.length hi) := rfl

def buildK (E : Env) (ρ : Operand → Option AV) (t : TypeId) (ps : List (Nat × Operand)) : Option TyI → Option AV
  | some ⟨.struct fs, _, _, z⟩ => bld2 E fs z (partsA ρ ps)
  | _ => valOp E ρ (.build t ⟨ps⟩)
theorem step_buildK (t : TypeId) (ps : List (Nat × Operand)) : stepOp E call dr ⟨d, .build t ⟨ps⟩, ty, pos, aft, g⟩ s = putO s d (buildK E (E.ev s.fr) t ps (E.ty t)) := by
  cases h : E.ty t with
  | none => exact step_val trivial
  | some ti =>
    obtain ⟨dd, a, b, z⟩ := ti
    cases dd <;> first | exact step_build t ps h | exact step_val trivial
theorem buildK_struct (ρ : Operand → Option AV) (t : TypeId) (ps : List (Nat × Operand)) (fs : List (Nat × TypeId)) (a b : Nat) (z : List AV) : buildK E ρ t ps (some ⟨.struct fs, a, b, z⟩) = bld2 E fs z (partsA ρ ps) := rfl

def bslK (E : Env) (call : Rec) (dr : Bool) (s : S) (o : Oper) (d n : Nat) (ps : List (Nat × Operand)) : Option TyI → Option S
  | some ⟨.slice e, _, _, _⟩ => bsl2 E s dr d n e (partsA (E.ev s.fr) ps)
  | _ => stepOp E call dr o s
theorem step_bsl (d : Nat) (t : TypeId) (n : Nat) (ps : List (Nat × Operand)) : stepOp E call dr ⟨some d, .buildSlice t n ⟨ps⟩, ty, pos, aft, g⟩ s = bslK E call dr s ⟨some d, .buildSlice t n ⟨ps⟩, ty, pos, aft, g⟩ d n ps (E.ty t) := by
  cases h : E.ty t with
  | none => rfl
  | some ti =>
    obtain ⟨dd, a, b, z⟩ := ti
    cases dd <;> first | exact step_buildSlice d t n ps h | rfl
theorem bslK_slice (o : Oper) (d n : Nat) (ps : List (Nat × Operand)) (e : TypeId) (a b : Nat) (z : List AV) : bslK E call dr s o d n ps (some ⟨.slice e, a, b, z⟩) = bsl2 E s dr d n e (partsA (E.ev s.fr) ps) := rfl
theorem bsl2_some (d n : Nat) (e : TypeId) (l : List (Nat × AV)) : bsl2 E s dr d n e (some l) = bsl3 s dr d n e l (E.ty e) := rfl

def appK (E : Env) (call : Rec) (s : S) (o : Oper) (d : Nat) (t u : TypeId) (x y : Operand) : Option TyI → Option S
  | some ⟨.slice e, _, _, _⟩ => app2 s d e (E.ty e) (E.ev s.fr x) (srcO E t u (E.ev s.fr y))
  | _ => stepOp E call false o s
theorem step_app (d : Nat) (t u : TypeId) (x y : Operand) : stepOp E call false ⟨some d, .call ⟨.builtin .append, ⟨[x, y]⟩, ⟨[t, u]⟩⟩, ty, pos, aft, g⟩ s =
    appK E call s ⟨some d, .call ⟨.builtin .append, ⟨[x, y]⟩, ⟨[t, u]⟩⟩, ty, pos, aft, g⟩ d t u x y (E.ty t) := by
  cases h : E.ty t with
  | none => rfl
  | some ti =>
    obtain ⟨dd, a, b, z⟩ := ti
    cases dd <;> first | exact step_append d t u x y h | rfl
theorem appK_slice (o : Oper) (d : Nat) (t u : TypeId) (x y : Operand) (e : TypeId) (a b : Nat) (z : List AV) : appK E call s o d t u x y (some ⟨.slice e, a, b, z⟩) = app2 s d e (E.ty e) (E.ev s.fr x) (srcO E t u (E.ev s.fr y)) := rfl

/-! Conversions. -/
/-- A text's bytes as cells. -/
def encB (l : List UInt8) : List AV := l.map fun c => .int .u8 c.toNat

def convB2 (s : S) (d : Nat) (e : TypeId) (b : ByteArray) : Option (List AV) → Option S
  | none => some ((s.setB 0 (bid e d) (encB b.data.toList)).put (some d) (.bs 0 (bid e d) b.size))
  | some _ => none
def convB (s : S) (d : Nat) (e : TypeId) (b : ByteArray) : Option TyI → Option S
  | some ⟨.int .u8, 1, _, _⟩ => convB2 s d e b (s.bx (bid e d))
  | _ => none
def convT2 (s : S) (d : Option Nat) (n : Nat) : Option (List AV) → Option S
  | some cs => if n ≤ cs.length then (intsA (cs.take n)).bind fun ns => some (s.put d (.str (pushAll ns))) else none
  | none => none
def convT (s : S) (d : Option Nat) (n : Nat) (cs : Option (List AV)) : Option TyI → Option S
  | some ⟨.int .u8, 1, _, _⟩ => convT2 s d n cs
  | _ => none
def convX (E : Env) (call : Rec) (s : S) (o : Oper) (e : TypeId) (b : ByteArray) : Bool → Option Nat → Option S
  | false, some d => convB s d e b (E.ty e)
  | dr, _ => stepOp E call dr o s
def convY (E : Env) (call : Rec) (s : S) (o : Oper) (d : Option Nat) (e : TypeId) (k i n : Nat) : Bool → Option S
  | false => convT s d n (s.look k i) (E.ty e)
  | dr => stepOp E call dr o s
def convL (xs : List AV) : Option TyI → Option AV
  | some ⟨.int .u8, 1, _, _⟩ => (intsA xs).bind fun ns => some (.str (pushAll ns))
  | _ => none
def convK (E : Env) (call : Rec) (s : S) (o : Oper) (dr : Bool) (d : Option Nat) : Option TyI → Option TyI → Option AV → Option S
  | some ⟨.int k, _, _, _⟩, some _, some (.int _ n) => putO s d (some (.int k (k.wrap n)))
  | some ⟨.str, _, _, _⟩, some ⟨.str, _, _, _⟩, some (.str b) => putO s d (some (.str b))
  | some ⟨.slice e, _, _, _⟩, some _, some (.str b) => convX E call s o e b dr d
  | some ⟨.str, _, _, _⟩, some ⟨.slice e, _, _, _⟩, some (.bs k i n) => convY E call s o d e k i n dr
  | some ⟨.str, _, _, _⟩, some ⟨.slice e, _, _, _⟩, some (.own _ _ xs) => putO s d (convL xs (E.ty e))
  | some ⟨.str, _, _, _⟩, some ⟨.slice e, _, _, _⟩, some (.sl xs) => putO s d (convL xs (E.ty e))
  | some ⟨.str, _, _, _⟩, some ⟨.int _, _, _, _⟩, some (.int _ n) => putO s d (some (.str (Utf8.encode n)))
  | _, _, _ => stepOp E call dr o s
theorem isU8_eq (e : TypeId) : isU8 E e = match E.ty e with
  | some ⟨.int .u8, 1, _, _⟩ => true
  | _ => false := rfl
theorem step_convert (src dst : TypeId) (x : Operand) : stepOp E call dr ⟨d, .convert src dst x, ty, pos, aft, g⟩ s = convK E call s ⟨d, .convert src dst x, ty, pos, aft, g⟩ dr d (E.ty dst) (E.ty src) (E.ev s.fr x) := by
  unfold convK
  split
  · rename_i k a b z si m n h1 h2 h3
    unfold stepOp
    simp only [h1, h2, h3, Option.map_some]
    cases dr <;> cases d <;> (simp only [valOp, h1, h2, h3, Option.bind_some, convA, Option.map_some]; rfl)
  · rename_i a b z a' b' z' m h1 h2 h3
    unfold stepOp
    simp only [h1, h2, h3, Option.map_some]
    cases dr <;> cases d <;> (simp only [valOp, h1, h2, h3, Option.bind_some, convA, Option.map_some]; rfl)
  · rename_i e a b z si bb h1 h2 h3
    cases dr with
    | true => rfl
    | false =>
      cases d with
      | none => rfl
      | some d' =>
        unfold stepOp convX convB
        simp only [h1, h2, h3, Option.map_some, isU8_eq, Option.isSome_some, Bool.and_true]
        cases he : E.ty e with
        | none => rfl
        | some ei =>
          obtain ⟨dd, sz, by', zz⟩ := ei
          cases dd with
          | int k =>
            cases k <;> try rfl
            rcases sz with _ | _ | sz <;> try rfl
          | _ => rfl
  · rename_i a b z e a' b' z' k i n h1 h2 h3
    cases dr with
    | true => rfl
    | false =>
      unfold stepOp convY convT
      simp only [h1, h2, h3, Option.map_some, isU8_eq]
      cases he : E.ty e with
      | none => rfl
      | some ei =>
        obtain ⟨dd, sz, by', zz⟩ := ei
        cases dd with
        | int k' =>
          cases k' <;> try rfl
          rcases sz with _ | _ | sz <;> try rfl
          simp only [if_true, convT2]
          cases s.look k i <;> rfl
        | _ => rfl
  · rename_i a b z e a' b' z' t e' xs h1 h2 h3
    have key : stepOp E call dr ⟨d, .convert src dst x, ty, pos, aft, g⟩ s = putO s d (if isU8 E e then (intsA xs).bind fun ns => some (.str (pushAll ns)) else none) := by
      unfold stepOp
      simp only [h1, h2, h3, Option.map_some]
      have hv : valOp E (E.ev s.fr) (.convert src dst x) = if isU8 E e then (intsA xs).bind fun ns => some (.str (pushAll ns)) else none := by
        simp only [valOp, h3, Option.bind_some, convA, h1, h2, Option.map_some, AV.elems]
      rw [hv]
      cases dr <;> cases d <;> (cases (if isU8 E e then (intsA xs).bind fun ns => some (AV.str (pushAll ns)) else none) <;> rfl)
    rw [key, isU8_eq]
    unfold convL
    cases he : E.ty e with
    | none => rfl
    | some ei =>
      obtain ⟨dd, sz, by', zz⟩ := ei
      cases dd with
      | int k' =>
        cases k' <;> try rfl
        rcases sz with _ | _ | sz <;> rfl
      | _ => rfl
  · rename_i a b z e a' b' z' xs h1 h2 h3
    have key : stepOp E call dr ⟨d, .convert src dst x, ty, pos, aft, g⟩ s = putO s d (if isU8 E e then (intsA xs).bind fun ns => some (.str (pushAll ns)) else none) := by
      unfold stepOp
      simp only [h1, h2, h3, Option.map_some]
      have hv : valOp E (E.ev s.fr) (.convert src dst x) = if isU8 E e then (intsA xs).bind fun ns => some (.str (pushAll ns)) else none := by
        simp only [valOp, h3, Option.bind_some, convA, h1, h2, Option.map_some, AV.elems]
      rw [hv]
      cases dr <;> cases d <;> (cases (if isU8 E e then (intsA xs).bind fun ns => some (AV.str (pushAll ns)) else none) <;> rfl)
    rw [key, isU8_eq]
    unfold convL
    cases he : E.ty e with
    | none => rfl
    | some ei =>
      obtain ⟨dd, sz, by', zz⟩ := ei
      cases dd with
      | int k' =>
        cases k' <;> try rfl
        rcases sz with _ | _ | sz <;> rfl
      | _ => rfl
  · rename_i a b z k a' b' z' m n h1 h2 h3
    unfold stepOp
    simp only [h1, h2, h3, Option.map_some]
    cases dr <;> cases d <;> (simp only [valOp, h1, h2, h3, Option.bind_some, convA, Option.map_some]; rfl)
  · rfl
theorem convK_rune (o : Oper) (a b a' b' : Nat) (z z' : List AV) (k m : IntKind) (n : Int) : convK E call s o dr d (some ⟨.str, a, b, z⟩) (some ⟨.int k, a', b', z'⟩) (some (.int m n)) = some (s.put d (.str (Utf8.encode n))) := rfl
theorem convK_int (o : Oper) (k : IntKind) (a b : Nat) (z : List AV) (si : TyI) (m : IntKind) (n : Int) : convK E call s o dr d (some ⟨.int k, a, b, z⟩) (some si) (some (.int m n)) = some (s.put d (.int k (k.wrap n))) := rfl
theorem convK_str (o : Oper) (a b a' b' : Nat) (z z' : List AV) (x : ByteArray) : convK E call s o dr d (some ⟨.str, a, b, z⟩) (some ⟨.str, a', b', z'⟩) (some (.str x)) = some (s.put d (.str x)) := rfl
theorem convK_toB (o : Oper) (dd a b : Nat) (z : List AV) (e : TypeId) (si : TyI) (x : ByteArray) : convK E call s o false (some dd) (some ⟨.slice e, a, b, z⟩) (some si) (some (.str x)) = convB s dd e x (E.ty e) := rfl
theorem convB_u8 (dd b : Nat) (z : List AV) (e : TypeId) (x : ByteArray) : convB s dd e x (some ⟨.int .u8, 1, b, z⟩) = convB2 s dd e x (s.bx (bid e dd)) := rfl
theorem convB2_none (dd : Nat) (e : TypeId) (x : ByteArray) : convB2 s dd e x none = some ((s.setB 0 (bid e dd) (encB x.data.toList)).put (some dd) (.bs 0 (bid e dd) x.size)) := rfl
theorem convK_toT (o : Oper) (a b a' b' : Nat) (z z' : List AV) (e : TypeId) (k i n : Nat) : convK E call s o false d (some ⟨.str, a, b, z⟩) (some ⟨.slice e, a', b', z'⟩) (some (.bs k i n)) = convT s d n (s.look k i) (E.ty e) := rfl
theorem convK_ownT (o : Oper) (a b a' b' : Nat) (z z' : List AV) (e e' : TypeId) (t : Nat) (xs : List AV) : convK E call s o dr d (some ⟨.str, a, b, z⟩) (some ⟨.slice e, a', b', z'⟩) (some (.own t e' xs)) = putO s d (convL xs (E.ty e)) := rfl
theorem convK_slT (o : Oper) (a b a' b' : Nat) (z z' : List AV) (e : TypeId) (xs : List AV) : convK E call s o dr d (some ⟨.str, a, b, z⟩) (some ⟨.slice e, a', b', z'⟩) (some (.sl xs)) = putO s d (convL xs (E.ty e)) := rfl
theorem convT_u8 (n b : Nat) (z : List AV) (e : TypeId) (cs : Option (List AV)) : convT s d n cs (some ⟨.int .u8, 1, b, z⟩) = convT2 s d n cs := rfl
theorem intsA_enc : ∀ l : List UInt8, intsA (encB l) = some (l.map fun c => (c.toNat : Int))
  | [] => rfl
  | c :: l => by
    have := intsA_enc l
    unfold encB at this ⊢
    simp only [List.map_cons, intsA, this, Option.map_some]
theorem pushAll_enc (l : List UInt8) : pushAll (l.map fun c => (c.toNat : Int)) = ⟨⟨l⟩⟩ := by
  have key : ∀ (l : List UInt8) (acc : ByteArray), (l.map fun c => (c.toNat : Int)).foldl (fun r n => r.push (UInt8.ofNat n.toNat)) acc = ⟨⟨acc.data.toList ++ l⟩⟩ := by
    intro l
    induction l with
    | nil => intro acc; simp
    | cons c l ih =>
      intro acc
      simp only [List.map_cons, List.foldl_cons]
      rw [ih]
      simp [ByteArray.push]
  exact key l ByteArray.empty
theorem convL_enc (b : Nat) (z : List AV) (l : List UInt8) : convL (encB l) (some ⟨.int .u8, 1, b, z⟩) = some (.str ⟨⟨l⟩⟩) := by
  simp only [convL, intsA_enc, Option.bind_some, pushAll_enc]
/-- Bytes that lie in a variable, as a text. -/
theorem convT2_enc (n : Nat) (l : List UInt8) (h : n = l.length) : convT2 s d n (some (encB l)) = some (s.put d (.str ⟨⟨l⟩⟩)) := by
  have hl : (encB l).length = l.length := by simp [encB]
  subst h
  simp only [convT2]
  rw [if_pos (by omega), ← hl, List.take_length, intsA_enc, Option.bind_some, pushAll_enc]
theorem encB_get (l : List UInt8) (j : Nat) (h : j < l.length) : getFrom 0 (encB l) j = some (.int .u8 l[j].toNat) := by
  rw [← get_from]
  simp [encB, h]
theorem encB_set (l : List UInt8) (j : Nat) (c : UInt8) (h : j < l.length) : overwAt 0 (encB l) j [.int .u8 c.toNat] = encB (l.set j c) := by
  rw [← overw_at (by simp [encB]; omega), overw]
  rw [List.set_eq_take_append_cons_drop, if_pos h]
  simp [encB]
theorem encB_length (l : List UInt8) : (encB l).length = l.length := by simp [encB]
/-- Of a row of bytes nothing goes with its owner. -/
theorem encB_kill (t : Nat) (l : List UInt8) : (encB l).map (killV t) = encB l := by simp [encB, killV, Function.comp_def]
theorem encB_san (bs : List Nat) (l : List UInt8) : (encB l).map (san bs) = encB l := by simp [encB, san, Function.comp_def]

/-! Comparisons that ask for the type. -/
def beqO : Option TyI → Bool → Option AV
  | some ⟨.bool, _, _, _⟩, r => some (.bool r)
  | _, _ => none
theorem bin_beql (t : TypeId) (x y : Operand) (p q : Bool) : binO E .eql t x y (some (.bool p)) (some (.bool q)) = beqO (E.ty t) (p == q) := by
  simp only [binO, binA]
  cases E.ty t with
  | none => rfl
  | some i => obtain ⟨d, a, b, z⟩ := i; cases d <;> rfl
theorem bin_bneq (t : TypeId) (x y : Operand) (p q : Bool) : binO E .neq t x y (some (.bool p)) (some (.bool q)) = beqO (E.ty t) (!(p == q)) := by
  simp only [binO, binA]
  cases E.ty t with
  | none => rfl
  | some i => obtain ⟨d, a, b, z⟩ := i; cases d <;> rfl
theorem beqO_some (a b : Nat) (z : List AV) (r : Bool) : beqO (some ⟨.bool, a, b, z⟩) r = some (.bool r) := rfl
def ieqO : Option TyI → Bool → Option AV
  | some ⟨.iface, _, _, _⟩, r => some (.bool r)
  | _, _ => none
theorem bin_ieql (t : TypeId) (x y : Operand) (n : Nat) : binO E .eql t x y (some (.err n)) (some .nilI) = ieqO (E.ty t) false := by
  simp only [binO, binA]
  cases E.ty t with
  | none => rfl
  | some i => obtain ⟨d, a, b, z⟩ := i; cases d <;> rfl
theorem bin_ineq (t : TypeId) (x y : Operand) (n : Nat) : binO E .neq t x y (some (.err n)) (some .nilI) = ieqO (E.ty t) true := by
  simp only [binO, binA]
  cases E.ty t with
  | none => rfl
  | some i => obtain ⟨d, a, b, z⟩ := i; cases d <;> rfl
def ieqC (c : Bool) (i : Option TyI) (r : Bool) : Option AV := if c = true then ieqO i r else none
theorem bin_ieql_nil (t : TypeId) (x y : Operand) : binO E .eql t x y (some .nilI) (some .nilI) = ieqC (isConst x || isConst y) (E.ty t) true := by
  simp only [binO, binA, ieqC]
  cases (isConst x || isConst y) <;> cases E.ty t with
  | none => rfl
  | some i => obtain ⟨d, a, b, z⟩ := i; cases d <;> rfl
theorem bin_ineq_nil (t : TypeId) (x y : Operand) : binO E .neq t x y (some .nilI) (some .nilI) = ieqC (isConst x || isConst y) (E.ty t) false := by
  simp only [binO, binA, ieqC]
  cases (isConst x || isConst y) <;> cases E.ty t with
  | none => rfl
  | some i => obtain ⟨d, a, b, z⟩ := i; cases d <;> rfl
theorem ieqC_true (i : Option TyI) (r : Bool) : ieqC true i r = ieqO i r := rfl
theorem ieqO_some (a b : Nat) (z : List AV) (r : Bool) : ieqO (some ⟨.iface, a, b, z⟩) r = some (.bool r) := rfl
theorem isConst_tmp (t : Nat) : isConst (.tmp t) = false := rfl
theorem isConst_const (v : Value) : isConst (.const v) = true := rfl
/-- Structs, field by field. -/
def seqO (E : Env) (c : Bool) (cs ds : List AV) : Option TyI → Option Bool
  | some ⟨.struct fs, _, _, _⟩ => if c = true then eqFs E fs cs ds else none
  | _ => none
def seqB : Option Bool → Option AV
  | some b => some (.bool b)
  | none => none
def seqN : Option Bool → Option AV
  | some b => some (.bool (!b))
  | none => none
theorem bin_geql (t : TypeId) (x y : Operand) (cs ds : List AV) : binO E .eql t x y (some (.agg cs)) (some (.agg ds)) = seqB (seqO E (E.eqOk t) cs ds (E.ty t)) := by
  simp only [binO, binA, seqO]
  cases E.ty t with
  | none => rfl
  | some i =>
    obtain ⟨d, a, b, z⟩ := i
    cases d <;> try rfl
    simp only [Option.map_some]
    split
    · rename_i fs h; cases eqFs E fs cs ds <;> rfl
    · rfl
theorem bin_gneq (t : TypeId) (x y : Operand) (cs ds : List AV) : binO E .neq t x y (some (.agg cs)) (some (.agg ds)) = seqN (seqO E (E.eqOk t) cs ds (E.ty t)) := by
  simp only [binO, binA, seqO]
  cases E.ty t with
  | none => rfl
  | some i =>
    obtain ⟨d, a, b, z⟩ := i
    cases d <;> try rfl
    simp only [Option.map_some]
    split
    · rename_i fs h; cases eqFs E fs cs ds <;> rfl
    · rfl
theorem seqO_some (cs ds : List AV) (fs : List (Nat × TypeId)) (a b : Nat) (z : List AV) : seqO E true cs ds (some ⟨.struct fs, a, b, z⟩) = eqFs E fs cs ds := rfl
theorem seqB_some (b : Bool) : seqB (some b) = some (.bool b) := rfl
theorem seqN_some (b : Bool) : seqN (some b) = some (.bool (!b)) := rfl
/-- Does the rest of the fields count? -/
def eqAnd (r : Option Bool) : Option Bool → Option Bool
  | some true => r
  | some false => some false
  | none => none
def eqF1 (E : Env) (r : List (Nat × TypeId)) (cs ds : List AV) (off : Nat) : Option TyI → Option Bool
  | some i => eqAnd (eqFs E r cs ds) (eqC2 i.d (getFrom 0 cs off) (getFrom 0 ds off))
  | none => none
where eqC2 (d : TyD) : Option AV → Option AV → Option Bool
  | some a, some b => eqCell d a b
  | _, _ => none
theorem eqFs_nil (cs ds : List AV) : eqFs E [] cs ds = some true := rfl
theorem eqFs_cons (off : Nat) (t : TypeId) (r : List (Nat × TypeId)) (cs ds : List AV) : eqFs E ((off, t) :: r) cs ds = eqF1 E r cs ds off (E.ty t) := by
  simp only [eqFs, eqF1, ← get_from]
  cases E.ty t with
  | none => rfl
  | some i =>
    simp only [eqF1]
    cases cs[off]? <;> cases ds[off]? <;> try rfl
    simp only [Option.bind_some, eqF1.eqC2]
    rename_i a b
    cases eqCell i.d a b with
    | none => rfl
    | some e => cases e <;> rfl
theorem eqF1_some (r : List (Nat × TypeId)) (cs ds : List AV) (off : Nat) (d : TyD) (a b : Nat) (z : List AV) : eqF1 E r cs ds off (some ⟨d, a, b, z⟩) = eqAnd (eqFs E r cs ds) (eqF1.eqC2 d (getFrom 0 cs off) (getFrom 0 ds off)) := rfl
theorem eqC2_int (k k' k'' : IntKind) (m n : Int) : eqF1.eqC2 (.int k) (some (.int k' m)) (some (.int k'' n)) = if k' = k'' then some (m == n) else none := rfl
theorem eqC2_str (p q : ByteArray) : eqF1.eqC2 .str (some (.str p)) (some (.str q)) = some (p.toList == q.toList) := rfl
theorem eqC2_bool (p q : Bool) : eqF1.eqC2 .bool (some (.bool p)) (some (.bool q)) = some (p == q) := rfl
theorem eqAnd_some (r : Bool) (b : Bool) : eqAnd (some r) (some b) = some (b && r) := by cases b <;> rfl

/-! Variables of the frames below. -/
def kb (t : Nat) (f : BX) : BX := fun i => (f i).map (List.map (killV t))
def killR (t : Nat) : List BX → List BX
  | [] => []
  | f :: r => kb t f :: killR t r
theorem killR_eq (t : Nat) : ∀ r : List BX, (r.map fun f i => (f i).map (List.map (killV t))) = killR t r
  | [] => rfl
  | f :: r => by simp only [List.map_cons, killR, killR_eq t r]; rfl
theorem kb_of (t : Nat) (b : List (Nat × Option (List AV))) : kb t (ofB b) = ofB (killB t b) := funext fun i => ofB_kill t b i
theorem kill_stR (l : List (Nat × AV)) (b : List (Nat × Option (List AV))) (rest : List BX) (t : Nat) : (st l b rest).kill t = st (killL t l) (killB t b) (killR t rest) := by
  rw [kill_st, killR_eq]
def updB : List (Nat × Option (List AV)) → Nat → Option (List AV) → List (Nat × Option (List AV))
  | [], i, v => [(i, v)]
  | (j, w) :: b, i, v => if i = j then (j, v) :: b else (j, w) :: updB b i v
theorem updB_of : ∀ (b : List (Nat × Option (List AV))) (i : Nat) (v : Option (List AV)), upd (ofB b) i v = ofB (updB b i v)
  | [], i, v => rfl
  | (j, w) :: b, i, v => by
    funext k
    have ih := congrFun (updB_of b i v) k
    by_cases hij : i = j
    · subst hij
      simp only [updB, if_true, ofB, upd]
      split <;> rfl
    · simp only [updB, hij, if_false, ofB, ← ih]
      simp only [upd, ofB]
      by_cases hk : k = i
      · subst hk; simp [hij]
      · simp [hk]
def modR : List BX → Nat → Nat → List AV → List BX
  | [], _, _, _ => []
  | f :: r, 0, i, cs => upd f i (some cs) :: r
  | f :: r, d + 1, i, cs => f :: modR r d i cs
theorem modR_eq : ∀ (r : List BX) (d i : Nat) (cs : List AV), r.modify d (fun f => upd f i (some cs)) = modR r d i cs
  | [], d, i, cs => by simp [modR]
  | f :: r, 0, i, cs => by simp [modR]
  | f :: r, d + 1, i, cs => by simp [modR, modR_eq r d i cs]
theorem setB_st_succ (l : List (Nat × AV)) (b : List (Nat × Option (List AV))) (rest : List BX) (d i : Nat) (cs : List AV) : (st l b rest).setB (d + 1) i cs = st l b (modR rest d i cs) := by
  simp only [st, S.setB, modR_eq]
theorem setB_st1 (l : List (Nat × AV)) (b : List (Nat × Option (List AV))) (rest : List BX) (i : Nat) (cs : List AV) : (st l b rest).setB 1 i cs = st l b (modR rest 0 i cs) := setB_st_succ l b rest 0 i cs
theorem setB_st2 (l : List (Nat × AV)) (b : List (Nat × Option (List AV))) (rest : List BX) (i : Nat) (cs : List AV) : (st l b rest).setB 2 i cs = st l b (modR rest 1 i cs) := setB_st_succ l b rest 1 i cs
theorem look_st1 (l : List (Nat × AV)) (b : List (Nat × Option (List AV))) (rest : List BX) (i : Nat) : (st l b rest).look 1 i = lookR rest 0 i := rfl
theorem look_st2 (l : List (Nat × AV)) (b : List (Nat × Option (List AV))) (rest : List BX) (i : Nat) : (st l b rest).look 2 i = lookR rest 1 i := rfl
theorem lookR_zero (f : BX) (r : List BX) (i : Nat) : lookR (f :: r) 0 i = f i := rfl
theorem lookR_one (f g : BX) (r : List BX) (i : Nat) : lookR (f :: g :: r) 1 i = g i := rfl
theorem modR_zero (f : BX) (r : List BX) (i : Nat) (cs : List AV) : modR (f :: r) 0 i cs = upd f i (some cs) :: r := rfl
theorem modR_one (f g : BX) (r : List BX) (i : Nat) (cs : List AV) : modR (f :: g :: r) 1 i cs = f :: upd g i (some cs) :: r := rfl
theorem tokB_st (l : List (Nat × AV)) (b : List (Nat × Option (List AV))) (rest : List BX) (d i off : Nat) : (st l b rest).tokB d i off = 2 * ((rest.length - d) * 10000000 + i * 1000 + off) + 1 := rfl
theorem tokB_st0 (l : List (Nat × AV)) (b : List (Nat × Option (List AV))) (i off : Nat) : (st l b []).tokB 0 i off = 2 * (i * 1000 + off) + 1 := by
  rw [tokB_st]; simp
theorem tokB_st1 (l : List (Nat × AV)) (b : List (Nat × Option (List AV))) (f : BX) (i off : Nat) : (st l b [f]).tokB 1 i off = 2 * (i * 1000 + off) + 1 := by
  rw [tokB_st]; simp
theorem tokB_st2 (l : List (Nat × AV)) (b : List (Nat × Option (List AV))) (f g : BX) (i off : Nat) : (st l b [f, g]).tokB 2 i off = 2 * (i * 1000 + off) + 1 := by
  rw [tokB_st]; simp
theorem retS_st (l : List (Nat × AV)) (b : List (Nat × Option (List AV))) (rest : List BX) (bx : BX) (r : List BX) : (⟨fun i => dropB ((st l b rest).fr i), bx, r⟩ : S) = ⟨fun i => dropB (ofL l i), bx, r⟩ := rfl
def dropL : List (Nat × AV) → List (Nat × AV)
  | [] => []
  | (k, v) :: l => (k, dropB v) :: dropL l
theorem ofL_drop : ∀ (l : List (Nat × AV)) (i : Nat), dropB (ofL l i) = ofL (dropL l) i
  | [], i => rfl
  | (k, v) :: l, i => by
    simp only [ofL, dropL]
    split
    · rfl
    · exact ofL_drop l i
/-- A call that was handed a variable comes back. -/
theorem retB_st (l : List (Nat × AV)) (b : List (Nat × Option (List AV))) (rest : List BX) (rs : List AV) (b' : List (Nat × Option (List AV))) (r : List BX) :
    retB (st l b rest) dr d (some (rs, ofB b' :: r)) = some ((st (dropL l) b' r).putRes dr d rs) := by
  have e : (⟨fun i => dropB ((st l b rest).fr i), ofB b', r⟩ : S) = st (dropL l) b' r := by
    simp only [st, S.mk.injEq, and_true, true_and]
    exact funext fun i => ofL_drop l i
  simp only [retB, e]
/-- What is appended: a text's bytes. -/
def srcT (b : ByteArray) : Option TyI → Option (List AV)
  | some ⟨.str, _, _, _⟩ => some (encB b.data.toList)
  | _ => none
theorem srcO_str (t u : TypeId) (b : ByteArray) : srcO E t u (some (.str b)) = if u = t then none else srcT b (E.ty u) := by
  simp only [srcO, srcA]
  split
  · rfl
  · cases E.ty u with
    | none => rfl
    | some i => obtain ⟨dd, a, bb, z⟩ := i; cases dd <;> rfl
theorem srcT_str (b : ByteArray) (a n : Nat) (z : List AV) : srcT b (some ⟨.str, a, n, z⟩) = some (encB b.data.toList) := rfl
theorem all_encB (l : List UInt8) : (encB l).all (AV.elemOk 1) = true := by
  simp only [encB, List.all_map, List.all_eq_true]
  intro c _
  rfl
theorem app_bytes (s : S) (dd tk : Nat) (z : List AV) (xs ys : List UInt8) (h : xs.length + ys.length < 100000000) : app3 s dd 5 ⟨.int .u8, 1, 1, z⟩ (encB ys) (.own tk 5 (encB xs)) = some ((s.kill tk).put (some dd) (.own tk 5 (encB (xs ++ ys)))) := by
  rw [app3_own]
  · simp only [encB, List.map_append]
  · refine ⟨Nat.zero_lt_one, ?_, ?_, all_encB ys⟩ <;> simp only [encB_length] <;> omega
theorem app_bytes_nil (s : S) (dd : Nat) (z : List AV) (ys : List UInt8) (h : ys.length < 100000000) : app3 s dd 5 ⟨.int .u8, 1, 1, z⟩ (encB ys) .nilS = some ((s.kill (tokS dd)).put (some dd) (.own (tokS dd) 5 (encB ys))) := by
  rw [app3_nil]
  refine ⟨Nat.zero_lt_one, ?_, ?_, all_encB ys⟩ <;> simp only [encB_length] <;> omega

/-! A struct out of a variable; a result that lies in a variable. -/
def segFrom (k : Nat) : List AV → Nat → Nat → List AV
  | [], _, _ => []
  | c :: cs, off, n => if k < off then segFrom (k + 1) cs off n else if k < off + n then c :: segFrom (k + 1) cs off n else []
theorem segFrom_eq : ∀ (cs : List AV) (k off n : Nat), segFrom k cs off n = (cs.drop (off - k)).take (n - (k - off))
  | [], k, off, n => by simp [segFrom]
  | c :: cs, k, off, n => by
    simp only [segFrom]
    by_cases h1 : k < off
    · rw [if_pos h1, segFrom_eq cs (k + 1) off n]
      have e : off - k = (off - (k + 1)) + 1 := by omega
      have e2 : k + 1 - off = 0 := by omega
      have e3 : k - off = 0 := by omega
      rw [e, e2, e3]
      rfl
    · rw [if_neg h1]
      have e : off - k = 0 := by omega
      rw [e, List.drop_zero]
      by_cases h2 : k < off + n
      · rw [if_pos h2, segFrom_eq cs (k + 1) off n]
        have e2 : off - (k + 1) = 0 := by omega
        have e3 : n - (k - off) = (n - (k + 1 - off)) + 1 := by omega
        rw [e2, e3, List.drop_zero]
        rfl
      · rw [if_neg h2]
        have e3 : n - (k - off) = 0 := by omega
        rw [e3]
        rfl
theorem loadA_seg (fs : List (Nat × TypeId)) (a b : Nat) (z cs : List AV) (off : Nat) : loadA ⟨.struct fs, a, b, z⟩ cs off =
    if off + a ≤ cs.length ∧ ((segFrom 0 cs off a).all fun c => c.strip.data) = true then some (.agg ((segFrom 0 cs off a).map AV.strip)) else none := by
  have e : segFrom 0 cs off a = (cs.drop off).take a := by rw [segFrom_eq]; simp
  rw [e]
  rfl

def resC (E : Env) (s : S) (r : List ResultVar) : Option TyI → AV → Option (List AV)
  | some i, .box 0 j off => resD (s.bx j) i off (resA E s r)
  | _, _ => none
where resD (b : Option (List AV)) (i : TyI) (off : Nat) (l : Option (List AV)) : Option (List AV) := b.bind fun cs => (loadA i cs off).bind fun v => l.bind fun l => some (v :: l)
theorem resA_cell (s : S) (a : Nat) (t : TypeId) (r : List ResultVar) : resA E s (.cell a t :: r) = resC E s r (E.ty t) (s.fr a) := by
  simp only [resA]
  cases s.fr a with
  | box d j off => cases d <;> cases E.ty t <;> rfl
  | _ => cases E.ty t <;> rfl
theorem resC_box (s : S) (r : List ResultVar) (i : TyI) (j off : Nat) : resC E s r (some i) (.box 0 j off) = resC.resD (s.bx j) i off (resA E s r) := rfl
def resE (l : Option (List AV)) : Option AV → Option (List AV)
  | some v => consO v l
  | none => none
theorem resD_some (cs : List AV) (i : TyI) (off : Nat) (l : Option (List AV)) : resC.resD (some cs) i off l = resE l (loadA i cs off) := by
  simp only [resC.resD, Option.bind_some]
  cases loadA i cs off with
  | none => rfl
  | some v => cases l <;> rfl
theorem resE_some (l : Option (List AV)) (v : AV) : resE l (some v) = consO v l := rfl

/-! What is stored. -/
theorem storeV_some (i : TyI) (k j off : Nat) (v : AV) (cs : List AV) : storeV s i k j off v (some cs) =
    if v.cells.all AV.one = true ∧ v.cells.length = i.sz ∧ off + v.cells.length ≤ cs.length ∧ (k = 0 ∨ v.data = true) then some (s.setB k j (overwAt 0 cs off v.cells)) else none := by
  simp only [storeV]
  split
  · rename_i h; rw [overw_at h.2.2.1]
  · rfl
theorem storeS_bool (i : TyI) (k j off : Nat) (b : Bool) : storeS s dr (some i) (some (.box k j off)) (some (.bool b)) = storeV s i k j off (.bool b) (s.look k j) := rfl
theorem storeS_int (i : TyI) (k j off : Nat) (kk : IntKind) (n : Int) : storeS s dr (some i) (some (.box k j off)) (some (.int kk n)) = storeV s i k j off (.int kk n) (s.look k j) := rfl
theorem storeS_str (i : TyI) (k j off : Nat) (b : ByteArray) : storeS s dr (some i) (some (.box k j off)) (some (.str b)) = storeV s i k j off (.str b) (s.look k j) := rfl
theorem storeS_nilI (i : TyI) (k j off : Nat)  : storeS s dr (some i) (some (.box k j off)) (some (.nilI)) = storeV s i k j off (.nilI) (s.look k j) := rfl
theorem storeS_nilF (i : TyI) (k j off : Nat)  : storeS s dr (some i) (some (.box k j off)) (some (.nilF)) = storeV s i k j off (.nilF) (s.look k j) := rfl
theorem storeS_nilS (i : TyI) (k j off : Nat)  : storeS s dr (some i) (some (.box k j off)) (some (.nilS)) = storeV s i k j off (.nilS) (s.look k j) := rfl
theorem storeS_nilP (i : TyI) (k j off : Nat)  : storeS s dr (some i) (some (.box k j off)) (some (.nilP)) = storeV s i k j off (.nilP) (s.look k j) := rfl
theorem storeS_err (i : TyI) (k j off : Nat) (n : Nat) : storeS s dr (some i) (some (.box k j off)) (some (.err n)) = storeV s i k j off (.err n) (s.look k j) := rfl
theorem storeS_sl (i : TyI) (k j off : Nat) (xs : List AV) : storeS s dr (some i) (some (.box k j off)) (some (.sl xs)) = storeV s i k j off (.sl xs) (s.look k j) := rfl
theorem storeS_agg (i : TyI) (k j off : Nat) (xs : List AV) : storeS s dr (some i) (some (.box k j off)) (some (.agg xs)) = storeV s i k j off (.agg xs) (s.look k j) := rfl
theorem storeS_el (i : TyI) (k j off : Nat) (xs : List AV) : storeS s dr (some i) (some (.box k j off)) (some (.el xs)) = storeV s i k j off (.el xs) (s.look k j) := rfl
theorem storeS_box (i : TyI) (k j off : Nat) (d' i' o' : Nat) : storeS s dr (some i) (some (.box k j off)) (some (.box d' i' o')) = storeV s i k j off (.box d' i' o') (s.look k j) := rfl
theorem storeS_fn (i : TyI) (k j off : Nat) (x : Nat) : storeS s dr (some i) (some (.box k j off)) (some (.fn x [])) = storeV s i k j off (.fn x []) (s.look k j) := rfl
theorem storeS_own (i : TyI) (k j off tk : Nat) (e : TypeId) (xs : List AV) : storeS s false (some i) (some (.box k j off)) (some (.own tk e xs)) =
    storeW ((s.kill tk).kill (s.tokB k j off)) i k j off (s.tokB k j off) e xs (((s.kill tk).kill (s.tokB k j off)).look k j) := rfl
theorem storeW_some (i : TyI) (k j off nm : Nat) (e : TypeId) (xs cs : List AV) : storeW s i k j off nm e xs (some cs) =
    if i.sz = 1 ∧ off < cs.length then some (s.setB k j (overwAt 0 cs off [.own nm e xs])) else none := by
  simp only [storeW]
  split
  · rename_i h; rw [overw_at (by simp; omega)]
  · rfl

theorem bsl3_some (d n : Nat) (e : TypeId) (l : List (Nat × AV)) (ei : TyI) : bsl3 s dr d n e l (some ei) =
    if l.map (·.1) = List.range n ∧ l.length = n ∧ (l.all fun p => p.2.data && p.2.elemOk ei.sz) = true ∧ 0 < ei.sz ∧ n * ei.sz ≤ 16777216
      then some (if dr = true then s.put (some d) (.sl (l.map (·.2))) else (s.kill (tokS d)).put (some d) (.own (tokS d) e (l.map (·.2)))) else none := rfl
theorem elemOk_eq (sz : Nat) (v : AV) : AV.elemOk sz v = (v.cells.length == sz && v.cells.all AV.one) := rfl
end
end Go.Avm

/-
  The abstract machine, part 20: the equations' set for the simplifier.
-/
namespace Go.Avm
theorem strip_bool (b : Bool) : AV.strip (.bool b) = .bool b := rfl
theorem data_bool (b : Bool) : AV.data (.bool b) = true := rfl
theorem one_bool (b : Bool) : AV.one (.bool b) = true := rfl
theorem cells_bool (b : Bool) : AV.cells (.bool b) = [.bool b] := rfl
theorem shift_bool (b : Bool) (m : Nat) : AV.shift m (.bool b) = .bool b := rfl
theorem dropB_bool (b : Bool) : dropB (.bool b) = .bool b := rfl
theorem kill_bool (b : Bool) (m : Nat) : killV m (.bool b) = .bool b := rfl
theorem putRes_bool (b : Bool) (s : S) (dr : Bool) (dst : Option Nat) : S.putRes s dr dst [.bool b] = s.put dst (.bool b) := rfl
theorem strip_int (k : IntKind) (n : Int) : AV.strip (.int k n) = .int k n := rfl
theorem data_int (k : IntKind) (n : Int) : AV.data (.int k n) = true := rfl
theorem one_int (k : IntKind) (n : Int) : AV.one (.int k n) = true := rfl
theorem cells_int (k : IntKind) (n : Int) : AV.cells (.int k n) = [.int k n] := rfl
theorem shift_int (k : IntKind) (n : Int) (m : Nat) : AV.shift m (.int k n) = .int k n := rfl
theorem dropB_int (k : IntKind) (n : Int) : dropB (.int k n) = .int k n := rfl
theorem kill_int (k : IntKind) (n : Int) (m : Nat) : killV m (.int k n) = .int k n := rfl
theorem putRes_int (k : IntKind) (n : Int) (s : S) (dr : Bool) (dst : Option Nat) : S.putRes s dr dst [.int k n] = s.put dst (.int k n) := rfl
theorem strip_str (b : ByteArray) : AV.strip (.str b) = .str b := rfl
theorem data_str (b : ByteArray) : AV.data (.str b) = true := rfl
theorem one_str (b : ByteArray) : AV.one (.str b) = true := rfl
theorem cells_str (b : ByteArray) : AV.cells (.str b) = [.str b] := rfl
theorem shift_str (b : ByteArray) (m : Nat) : AV.shift m (.str b) = .str b := rfl
theorem dropB_str (b : ByteArray) : dropB (.str b) = .str b := rfl
theorem kill_str (b : ByteArray) (m : Nat) : killV m (.str b) = .str b := rfl
theorem putRes_str (b : ByteArray) (s : S) (dr : Bool) (dst : Option Nat) : S.putRes s dr dst [.str b] = s.put dst (.str b) := rfl
theorem strip_nilI  : AV.strip (.nilI) = .nilI := rfl
theorem data_nilI  : AV.data (.nilI) = true := rfl
theorem one_nilI  : AV.one (.nilI) = true := rfl
theorem cells_nilI  : AV.cells (.nilI) = [.nilI] := rfl
theorem shift_nilI  (m : Nat) : AV.shift m (.nilI) = .nilI := rfl
theorem dropB_nilI  : dropB (.nilI) = .nilI := rfl
theorem kill_nilI  (m : Nat) : killV m (.nilI) = .nilI := rfl
theorem putRes_nilI  (s : S) (dr : Bool) (dst : Option Nat) : S.putRes s dr dst [.nilI] = s.put dst (.nilI) := rfl
theorem strip_nilF  : AV.strip (.nilF) = .nilF := rfl
theorem data_nilF  : AV.data (.nilF) = true := rfl
theorem one_nilF  : AV.one (.nilF) = true := rfl
theorem cells_nilF  : AV.cells (.nilF) = [.nilF] := rfl
theorem shift_nilF  (m : Nat) : AV.shift m (.nilF) = .nilF := rfl
theorem dropB_nilF  : dropB (.nilF) = .nilF := rfl
theorem kill_nilF  (m : Nat) : killV m (.nilF) = .nilF := rfl
theorem putRes_nilF  (s : S) (dr : Bool) (dst : Option Nat) : S.putRes s dr dst [.nilF] = s.put dst (.nilF) := rfl
theorem strip_nilS  : AV.strip (.nilS) = .nilS := rfl
theorem data_nilS  : AV.data (.nilS) = true := rfl
theorem one_nilS  : AV.one (.nilS) = true := rfl
theorem cells_nilS  : AV.cells (.nilS) = [.nilS] := rfl
theorem shift_nilS  (m : Nat) : AV.shift m (.nilS) = .nilS := rfl
theorem dropB_nilS  : dropB (.nilS) = .nilS := rfl
theorem kill_nilS  (m : Nat) : killV m (.nilS) = .nilS := rfl
theorem putRes_nilS  (s : S) (dr : Bool) (dst : Option Nat) : S.putRes s dr dst [.nilS] = s.put dst (.nilS) := rfl
theorem strip_nilP  : AV.strip (.nilP) = .nilP := rfl
theorem data_nilP  : AV.data (.nilP) = true := rfl
theorem one_nilP  : AV.one (.nilP) = true := rfl
theorem cells_nilP  : AV.cells (.nilP) = [.nilP] := rfl
theorem shift_nilP  (m : Nat) : AV.shift m (.nilP) = .nilP := rfl
theorem dropB_nilP  : dropB (.nilP) = .nilP := rfl
theorem kill_nilP  (m : Nat) : killV m (.nilP) = .nilP := rfl
theorem putRes_nilP  (s : S) (dr : Bool) (dst : Option Nat) : S.putRes s dr dst [.nilP] = s.put dst (.nilP) := rfl
theorem strip_err (n : Nat) : AV.strip (.err n) = .err n := rfl
theorem data_err (n : Nat) : AV.data (.err n) = true := rfl
theorem one_err (n : Nat) : AV.one (.err n) = true := rfl
theorem cells_err (n : Nat) : AV.cells (.err n) = [.err n] := rfl
theorem shift_err (n : Nat) (m : Nat) : AV.shift m (.err n) = .err n := rfl
theorem dropB_err (n : Nat) : dropB (.err n) = .err n := rfl
theorem kill_err (n : Nat) (m : Nat) : killV m (.err n) = .err n := rfl
theorem putRes_err (n : Nat) (s : S) (dr : Bool) (dst : Option Nat) : S.putRes s dr dst [.err n] = s.put dst (.err n) := rfl
theorem strip_sl (xs : List AV) : AV.strip (.sl xs) = .sl xs := rfl
theorem data_sl (xs : List AV) : AV.data (.sl xs) = true := rfl
theorem one_sl (xs : List AV) : AV.one (.sl xs) = true := rfl
theorem cells_sl (xs : List AV) : AV.cells (.sl xs) = [.sl xs] := rfl
theorem shift_sl (xs : List AV) (m : Nat) : AV.shift m (.sl xs) = .sl xs := rfl
theorem dropB_sl (xs : List AV) : dropB (.sl xs) = .sl xs := rfl
theorem kill_sl (xs : List AV) (m : Nat) : killV m (.sl xs) = .sl xs := rfl
theorem putRes_sl (xs : List AV) (s : S) (dr : Bool) (dst : Option Nat) : S.putRes s dr dst [.sl xs] = s.put dst (.sl xs) := rfl
theorem strip_agg (xs : List AV) : AV.strip (.agg xs) = .agg xs := rfl
theorem data_agg (xs : List AV) : AV.data (.agg xs) = true := rfl
theorem one_agg (xs : List AV) : AV.one (.agg xs) = false := rfl
theorem cells_agg (xs : List AV) : AV.cells (.agg xs) = xs := rfl
theorem shift_agg (xs : List AV) (m : Nat) : AV.shift m (.agg xs) = .agg xs := rfl
theorem dropB_agg (xs : List AV) : dropB (.agg xs) = .agg xs := rfl
theorem kill_agg (xs : List AV) (m : Nat) : killV m (.agg xs) = .agg xs := rfl
theorem putRes_agg (xs : List AV) (s : S) (dr : Bool) (dst : Option Nat) : S.putRes s dr dst [.agg xs] = s.put dst (.agg xs) := rfl
theorem strip_el (xs : List AV) : AV.strip (.el xs) = .el xs := rfl
theorem data_el (xs : List AV) : AV.data (.el xs) = true := rfl
theorem one_el (xs : List AV) : AV.one (.el xs) = true := rfl
theorem cells_el (xs : List AV) : AV.cells (.el xs) = [.el xs] := rfl
theorem shift_el (xs : List AV) (m : Nat) : AV.shift m (.el xs) = .el xs := rfl
theorem dropB_el (xs : List AV) : dropB (.el xs) = .el xs := rfl
theorem kill_el (xs : List AV) (m : Nat) : killV m (.el xs) = .el xs := rfl
theorem putRes_el (xs : List AV) (s : S) (dr : Bool) (dst : Option Nat) : S.putRes s dr dst [.el xs] = s.put dst (.el xs) := rfl
theorem strip_tup (xs : List AV) : AV.strip (.tup xs) = .tup xs := rfl
theorem data_tup (xs : List AV) : AV.data (.tup xs) = true := rfl
theorem one_tup (xs : List AV) : AV.one (.tup xs) = false := rfl
theorem cells_tup (xs : List AV) : AV.cells (.tup xs) = [.tup xs] := rfl
theorem shift_tup (xs : List AV) (m : Nat) : AV.shift m (.tup xs) = .tup xs := rfl
theorem dropB_tup (xs : List AV) : dropB (.tup xs) = .tup xs := rfl
theorem kill_tup (xs : List AV) (m : Nat) : killV m (.tup xs) = .tup xs := rfl
theorem putRes_tup (xs : List AV) (s : S) (dr : Bool) (dst : Option Nat) : S.putRes s dr dst [.tup xs] = s.put dst (.tup xs) := rfl
theorem strip_own (t : Nat) (e : TypeId) (xs : List AV) : AV.strip (.own t e xs) = .sl xs := rfl
theorem data_own (t : Nat) (e : TypeId) (xs : List AV) : AV.data (.own t e xs) = false := rfl
theorem one_own (t : Nat) (e : TypeId) (xs : List AV) : AV.one (.own t e xs) = true := rfl
theorem cells_own (t : Nat) (e : TypeId) (xs : List AV) : AV.cells (.own t e xs) = [.own t e xs] := rfl
theorem shift_own (t : Nat) (e : TypeId) (xs : List AV) (m : Nat) : AV.shift m (.own t e xs) = .own t e xs := rfl
theorem dropB_own (t : Nat) (e : TypeId) (xs : List AV) : dropB (.own t e xs) = if t % 2 = 1 then .any else .own t e xs := Eq.trans rfl rfl
theorem strip_box (d i o : Nat) : AV.strip (.box d i o) = .box d i o := rfl
theorem data_box (d i o : Nat) : AV.data (.box d i o) = false := rfl
theorem one_box (d i o : Nat) : AV.one (.box d i o) = true := rfl
theorem cells_box (d i o : Nat) : AV.cells (.box d i o) = [.box d i o] := rfl
theorem shift_box (d i o : Nat) (m : Nat) : AV.shift m (.box d i o) = .box (d + m) i o := rfl
theorem dropB_box (d i o : Nat) : dropB (.box d i o) = .box d i o := rfl
theorem kill_box (d i o : Nat) (m : Nat) : killV m (.box d i o) = .box d i o := rfl
theorem putRes_box (d i o : Nat) (s : S) (dr : Bool) (dst : Option Nat) : S.putRes s dr dst [.box d i o] = s.put dst (.box d i o) := rfl
theorem strip_bs (d i o : Nat) : AV.strip (.bs d i o) = .bs d i o := rfl
theorem data_bs (d i o : Nat) : AV.data (.bs d i o) = false := rfl
theorem one_bs (d i o : Nat) : AV.one (.bs d i o) = true := rfl
theorem cells_bs (d i o : Nat) : AV.cells (.bs d i o) = [.bs d i o] := rfl
theorem shift_bs (d i o : Nat) (m : Nat) : AV.shift m (.bs d i o) = .bs (d + m) i o := rfl
theorem dropB_bs (d i o : Nat) : dropB (.bs d i o) = .bs d i o := rfl
theorem kill_bs (d i o : Nat) (m : Nat) : killV m (.bs d i o) = .bs d i o := rfl
theorem putRes_bs (d i o : Nat) (s : S) (dr : Bool) (dst : Option Nat) : S.putRes s dr dst [.bs d i o] = s.put dst (.bs d i o) := rfl
theorem strip_fn (x : Nat) : AV.strip (.fn x []) = .fn x [] := rfl
theorem data_fn (x : Nat) : AV.data (.fn x []) = true := rfl
theorem one_fn (x : Nat) : AV.one (.fn x []) = true := rfl
theorem cells_fn (x : Nat) : AV.cells (.fn x []) = [.fn x []] := rfl
theorem shift_fn (x : Nat) (m : Nat) : AV.shift m (.fn x []) = .fn x [] := rfl
theorem dropB_fn (x : Nat) : dropB (.fn x []) = .fn x [] := rfl
theorem kill_fn (x : Nat) (m : Nat) : killV m (.fn x []) = .fn x [] := rfl
theorem kill_own (m t : Nat) (e : TypeId) (xs : List AV) : killV m (.own t e xs) = if t = m then .any else .own t e xs := Eq.trans rfl rfl
theorem kill_any (m : Nat) : killV m .any = .any := rfl
theorem dropB_any : dropB .any = .any := rfl
theorem putRes_own (s : S) (d t : Nat) (e : TypeId) (xs : List AV) : S.putRes s false (some d) [.own t e xs] = if t % 2 = 1 then s.put (some d) (.sl xs) else (s.kill (tokS d)).put (some d) (.own (tokS d) e xs) := Eq.trans rfl rfl
theorem putRes_own_draw (s : S) (d : Option Nat) (t : Nat) (e : TypeId) (xs : List AV) : S.putRes s true d [.own t e xs] = s.put d (.sl xs) := rfl
theorem putRes_none (s : S) (dr : Bool) (d : Option Nat) : S.putRes s dr d [] = s.put d (.tup []) := rfl
theorem putRes_two (s : S) (dr : Bool) (d : Option Nat) (a b : AV) (r : List AV) : S.putRes s dr d (a :: b :: r) = s.put d (.tup ((a :: b :: r).map AV.strip)) := by cases a <;> rfl
attribute [go_sem] strip_bool data_bool one_bool cells_bool shift_bool dropB_bool kill_bool putRes_bool strip_int data_int one_int cells_int shift_int dropB_int kill_int putRes_int strip_str data_str one_str cells_str shift_str dropB_str kill_str putRes_str strip_nilI data_nilI one_nilI cells_nilI shift_nilI dropB_nilI kill_nilI putRes_nilI strip_nilF data_nilF one_nilF cells_nilF shift_nilF dropB_nilF kill_nilF putRes_nilF strip_nilS data_nilS one_nilS cells_nilS shift_nilS dropB_nilS kill_nilS putRes_nilS strip_nilP data_nilP one_nilP cells_nilP shift_nilP dropB_nilP kill_nilP putRes_nilP strip_err data_err one_err cells_err shift_err dropB_err kill_err putRes_err strip_sl data_sl one_sl cells_sl shift_sl dropB_sl kill_sl putRes_sl strip_agg data_agg one_agg cells_agg shift_agg dropB_agg kill_agg putRes_agg strip_el data_el one_el cells_el shift_el dropB_el kill_el putRes_el strip_tup data_tup one_tup cells_tup shift_tup dropB_tup kill_tup putRes_tup strip_own data_own one_own cells_own shift_own dropB_own strip_box data_box one_box cells_box shift_box dropB_box kill_box putRes_box strip_bs data_bs one_bs cells_bs shift_bs dropB_bs kill_bs putRes_bs strip_fn data_fn one_fn cells_fn shift_fn dropB_fn kill_fn kill_own kill_any dropB_any putRes_own putRes_own_draw putRes_none putRes_two
attribute [go_sem] runO_nil runO_cons runO_ite stepReg_plain stepReg_guard guardD_some guardO_bool guardO_tup put_st put_none fr_st bx_st rest_st putO_some setB_st look_st tidy_st exec_skip exec_region exec_seq exec_block exec_loop exec_exit exec_scope exec_label exec_ret exec_cond condE_bool seqK_normal seqK_exit seqK_ret seqK_ite blockK_normal blockK_exit blockK_ret blockK_ite loopK_normal loopK_exit loopK_ret loopK_ite regK_some regK_ite outK_some bodyK_ite bodyK_normal bodyK_ret resA_nil resA_tmp consO_some ev_tmp ev_bool ev_int ev_str ev_nilI ev_nilF ev_nilS ev_nilP ev_global ev_func ofL_cons ofB_cons ofL_nil ofB_nil step_move step_assign_tmp step_assign_bool step_assign_int step_assign_str step_assign_nilI step_assign_nilF step_assign_nilP step_assign_func step_assign_nilS step_assign_nilS_draw nilO_slice step_pick pickO_bool step_bin bin_add bin_sub bin_mul bin_eql bin_neq bin_lss bin_leq bin_gtr bin_geq bin_seql bin_sneq bin_slss bin_sgtr san_any san_bool san_int san_str san_nilI san_nilF san_nilS san_nilP san_err san_fn san_fn_cons san_box san_box_succ san_bs san_el san_sl san_own san_agg san_tup san_ite res_bool res_int res_str res_nilI res_nilF res_nilS res_err res_sl res_own res_agg res_fn step_load loadS_el loadS_box loadB_some loadA_int loadA_bool loadA_str loadA_slice loadA_iface loadA_func loadA_ptr step_alloc allocS_none step_box boxS_none step_store argsA_nil argsA_cons consV_some step_call callV_fn callD_some retS_some step_fieldAddr fAddr1_struct fAddr2_some fAddr3_box fAddr3_el iAddr1_slice iAddrE_some iAddr2_bs iAddr2_sl iAddr2_own step_len lenO_str lenO_bs lenO_sl lenO_own lenO_nil step_extract extO_tup sliceS_str highO_none highO_some orV_some orV_none partsA_nil partsA_cons consP_some fillA_nil fillA_cons fill2_some fill3_some aggO_some bld2_some srcO_sl srcO_own srcO_nil app2_some step_un_not notO_bool step_nilCheck nilcO_box nilcO_el step_max maxO_int step_index idxK_str idxS_str step_indexAddr iAddrK_slice step_slice sliceK_str sliceK_slice sliceL_sl sliceL_own sliceL_nil sliceV_some step_buildK buildK_struct step_bsl bslK_slice bsl2_some step_app appK_slice step_convert convK_rune convK_int convK_str convK_toB convB_u8 convB2_none convK_toT convK_ownT convK_slT convT_u8 convL_enc encB_length encB_kill encB_san bin_beql bin_bneq beqO_some bin_ieql bin_ineq bin_ieql_nil bin_ineq_nil ieqC_true ieqO_some isConst_tmp isConst_const bin_geql bin_gneq seqO_some seqB_some seqN_some eqFs_nil eqFs_cons eqF1_some eqC2_int eqC2_str eqC2_bool eqAnd_some kb_of kill_stR updB_of setB_st1 setB_st2 look_st1 look_st2 lookR_zero lookR_one modR_zero modR_one tokB_st0 tokB_st1 tokB_st2 retB_st srcO_str srcT_str loadA_seg resA_cell resC_box resD_some resE_some storeV_some storeS_bool storeS_int storeS_str storeS_nilI storeS_nilF storeS_nilS storeS_nilP storeS_err storeS_sl storeS_agg storeS_el storeS_box storeS_fn storeS_own storeW_some bsl3_some elemOk_eq
attribute [go_sem] initL dropL killR updB killL killB tidL tidB dstFrom overwAt getFrom List.cons_append List.nil_append List.append_nil List.map_cons List.map_nil Option.map_some Option.map_none List.length_cons List.length_nil tokS segFrom
end Go.Avm
