/-
  '==' AND '!=' OF STRUCTS, in the pure runs of the abstract machine.
-/
import Derived.Test.YtbhpblokoecoaaaAbV1
import Derived.Laws.StructEq
namespace Go.Ab
open Go
theorem pr_bind {α β : Type} (P : Program) (s : Sem α) (k : α → Sem β) : pureRun P (s >>= k) = (pureRun P s).bind fun a => pureRun P (k a) := by
  show pureRun P (s.bind k) = _
  induction s with
  | pure a => rfl
  | program k2 ih => simpa [Sem.bind, pureRun] using ih P
  | _ => simp [Sem.bind, pureRun]
section
variable {P : Program}
theorem pr_pure {α : Type} (a : α) : pureRun P (pure a : Sem α) = some a := rfl
theorem pr_program : pureRun P program = some P := rfl
theorem pr_underlying {t : TypeId} {d : TypeDesc} (h : P.underlying t = some d) : pureRun P (underlying t) = some d := by
  unfold underlying
  rw [pr_bind, pr_program, Option.bind_some, h]; rfl
def notAgg : TypeDesc → Bool | .struct _ => false | .array _ _ => false | _ => true
theorem pr_isAgg {t : TypeId} {d : TypeDesc} (h : P.underlying t = some d) (hd : notAgg d = true) : pureRun P (isAgg t) = some false := by
  unfold isAgg
  rw [pr_bind, pr_underlying h, Option.bind_some]
  cases d <;> first | rfl | cases hd
theorem pr_part {t : TypeId} {d : TypeDesc} {cs : Array Value} {off : Nat} {v : Value} (h : P.underlying t = some d) (hd : notAgg d = true) (hv : cs[off]? = some v) : pureRun P (part t cs off) = some v := by
  unfold part
  rw [pr_bind, pr_isAgg h hd, Option.bind_some, hv]; rfl
theorem pr_equalIn_struct (d : Nat) (t : TypeId) (xs ys : Array Value) (ht : P.underlying t = some (.struct (P.fieldsOf t))) (hp : P.stoodInHeld t = false) :
    pureRun P (Op.equalIn (d + 1) t (.agg xs) (.agg ys)) = pureRun P (Op.eqFields d xs ys (P.fieldsOf t).toList) := by
  simp only [Op.equalIn, pr_bind, pr_underlying ht, Option.bind_some, pr_program, hp, Bool.false_eq_true, if_false]
  rw [← Array.forIn_toList]
  generalize (P.fieldsOf t).toList = fs
  clear ht
  induction fs with
  | nil => rfl
  | cons f fs ih =>
    simp only [List.forIn_cons, Op.eqFields, pr_bind]
    split
    · simp only [pr_bind]
      cases pureRun P (part f.type xs f.offset) with
      | none => rfl
      | some a =>
        simp only [Option.bind_some]
        cases pureRun P (part f.type ys f.offset) with
        | none => rfl
        | some b =>
          simp only [Option.bind_some]
          cases pureRun P (Op.equalIn d f.type a b) with
          | none => rfl
          | some r =>
            cases r
            · rfl
            · simp only [Option.bind_some, Bool.not_true, Bool.false_eq_true, if_false, pr_pure]
              exact ih
    · simp only [pr_pure, Option.bind_some]
      exact ih
def scEq : Value → Value → Option Bool
  | .int k a, .int k' b => if k = k' then some (a == b) else none
  | .bool a, .bool b => some (a == b)
  | .string a, .string b => some (a.toList == b.toList)
  | _, _ => none
def fits : TypeDesc → Value → Bool
  | .int _, .int _ _ => true
  | .bool, .bool _ => true
  | .string, .string _ => true
  | _, _ => false
theorem pr_equalIn_sc {d : Nat} {t : TypeId} {D : TypeDesc} {x y : Value} {b : Bool} (h : P.underlying t = some D) (hf : fits D x = true) (he : scEq x y = some b) : pureRun P (Op.equalIn (d + 1) t x y) = some b := by
  cases x <;> cases D <;> simp only [fits, Bool.false_eq_true] at hf <;> cases y <;> simp only [scEq] at he <;> try cases he
  · simp [Op.equalIn, pr_bind, pr_underlying h, pr_pure]
  · split at he
    · rename_i hk; subst hk
      simp only [Option.some.injEq] at he; subst he
      simp [Op.equalIn, pr_bind, pr_underlying h, pr_pure]
    · cases he
  · simp [Op.equalIn, pr_bind, pr_underlying h, pr_pure, beq_toListBytes]
def eqL (P : Program) (xs ys : Array Value) : List Field → Option Bool
  | [] => some true
  | f :: fs => if f.name ≠ "_" then match P.underlying f.type, xs[f.offset]?, ys[f.offset]? with
    | some D, some x, some y => if fits D x then (scEq x y).bind fun b => (eqL P xs ys fs).map (b && ·) else none
    | _, _, _ => none
    else none
theorem pr_eqFields {d : Nat} {xs ys : Array Value} : ∀ {fs : List Field} {b : Bool}, eqL P xs ys fs = some b → pureRun P (Op.eqFields (d + 1) xs ys fs) = some b
  | [], b, h => by simp [eqL] at h; subst h; rfl
  | f :: fs, b, h => by
    unfold eqL at h
    split at h
    · rename_i hn
      split at h
      · rename_i D x y hD hx hy
        split at h
        · rename_i hf
          simp only [Option.bind_eq_some_iff, Option.map_eq_some_iff] at h
          obtain ⟨b1, h1, b2, h2, rfl⟩ := h
          have hd : notAgg D = true := by cases D <;> cases x <;> simp [fits] at hf <;> rfl
          simp only [Op.eqFields]
          rw [if_pos hn]
          simp only [pr_bind, pr_part hD hd hx, pr_part hD hd hy, Option.bind_some, pr_equalIn_sc hD hf h1]
          cases b1
          · rfl
          · simpa using pr_eqFields h2
        · cases h
      · cases h
    · cases h
theorem bin_eqlStruct {t : TypeId} {x y : Operand} {xs ys : Array Value} {fs : Array Field} {b : Bool} (hf : P.underlying t = some (.struct fs)) (hp : P.stoodInHeld t = false) (hm : P.eqGuardType P.depth t = false) (he : eqL P xs ys fs.toList = some b) : binV P .eql t x y (.agg xs) (.agg ys) = some (.bool b) := by
  have e : P.fieldsOf t = fs := by unfold Program.fieldsOf; rw [hf]
  unfold binV
  have e1 : pureRun P (eqGuard .eql t x y (.agg xs) (.agg ys)) = some () := by simp [eqGuard, pr_bind, pr_program, hm, pr_pure]
  rw [pr_bind, e1, Option.bind_some]
  simp only [binOp, Op.equal, Op.maxDepth]
  rw [pr_bind, pr_equalIn_struct 9999 t xs ys (by rw [e]; exact hf) hp, e, pr_eqFields he]; rfl
theorem bin_neqStruct {t : TypeId} {x y : Operand} {xs ys : Array Value} {fs : Array Field} {b : Bool} (hf : P.underlying t = some (.struct fs)) (hp : P.stoodInHeld t = false) (hm : P.eqGuardType P.depth t = false) (he : eqL P xs ys fs.toList = some b) : binV P .neq t x y (.agg xs) (.agg ys) = some (.bool (!b)) := by
  have e : P.fieldsOf t = fs := by unfold Program.fieldsOf; rw [hf]
  unfold binV
  have e1 : pureRun P (eqGuard .neq t x y (.agg xs) (.agg ys)) = some () := by simp [eqGuard, pr_bind, pr_program, hm, pr_pure]
  rw [pr_bind, e1, Option.bind_some]
  simp only [binOp, Op.equal, Op.maxDepth]
  rw [pr_bind, pr_equalIn_struct 9999 t xs ys (by rw [e]; exact hf) hp, e, pr_eqFields he]; rfl
end
end Go.Ab
