/-
  EACH KIND OF OPERATION, but for stores, appends and calls.
-/
import Derived.Test.YtbhpblokoecoaaaAbOps
namespace Go.Ab
open Go
section
variable {C : Cx} {E : Env} {w : World} {S : St} {a : Act} {β : Id → Option Loc} {F : Id → List Nat}
variable {next : Act → World → Prop} {Q : Exit → Act → World → Prop}
def inB (S : St) (e : Eff) : Prop := e.sw.all (fun y => decide (y.1 < S.n)) = true
theorem ok_val (h : SR C E w S a β F) {o : Oper} {s : Sem Value} {v : Value} {x : AV} {rd : List Id} (hd : inB S (put o x rd []))
    (ho : execOp a.eval o = (do pure (Next.value (← s)))) (hr : s.run C.P w = .ok v w) (hx : R w (Im E w F) β [] v x)
    (hn : ∀ a' w', Nx C E (S.app (put o x rd [])) a' w' → next a' w') : o.wp C.P a w next Q :=
  wp_val (by rw [ho]; exact run_v hr) (hn _ _ ⟨β, F, h.val o rd hx hd⟩)
theorem ok_ret (h : SR C E w S a β F) {o : Oper} {v : Value} {x : AV} (hd : inB S (put o x [] [])) (ho : execOp a.eval o = pure (Next.value v)) (hx : R w (Im E w F) β [] v x)
    (hn : ∀ a' w', Nx C E (S.app (put o x [] [])) a' w' → next a' w') : o.wp C.P a w next Q :=
  wp_val (v := v) (w' := w) (by rw [ho]; rfl) (hn _ _ ⟨β, F, h.val o [] hx hd⟩)
theorem ret_inv {o : Oper} {v : AV} {e : Eff} (h : ret o v = some e) : e = put o v [] [] := by
  simp [ret] at h; exact h.symm
theorem retV_inv {o : Oper} {v : Option Value} {e : Eff} (h : retV o v = some e) : ∃ u, v = some u ∧ isSc u = true ∧ e = put o (.val u) [] [] := by
  cases v with
  | none => simp [retV] at h
  | some u =>
    simp only [retV] at h
    split at h
    · exact ⟨u, rfl, ‹_›, ret_inv h⟩
    · cases h
theorem ok_move (h : SR C E w S a β F) {o : Oper} {x : Operand} (ho : o.op = .move x ∨ o.op = .assign x) {e : Eff} (he : ret o (un true (S.get C x)) = some e) (hd : inB S e)
    (hn : ∀ a' w', Nx C E (S.app e) a' w' → next a' w') : o.wp C.P a w next Q := by
  have := ret_inv he; subst this
  exact ok_ret h hd (v := a.eval x) (by rcases ho with ho | ho <;> simp [execOp, ho]) (h.getU x) hn
theorem ok_pick (h : SR C E w S a β F) {o : Oper} {c x y : Operand} (ho : o.op = .pick c x y) {e : Eff}
    (he : evPick o (un true (S.get C c)) (un (true && boolOf (un true (S.get C c))) (S.get C x)) (un (true && !boolOf (un true (S.get C c))) (S.get C y)) = some e) (hd : inB S e)
    (hn : ∀ a' w', Nx C E (S.app e) a' w' → next a' w') : o.wp C.P a w next Q := by
  have hc := h.getU c
  generalize un true (S.get C c) = cv at *
  unfold evPick at he
  split at he
  · rename_i b
    obtain ⟨_, hv⟩ := hc.val_inv
    simp only [boolOf, Bool.true_and] at he
    have key : ∀ z, (b = true → un true (S.get C x) = z) → (b = false → un true (S.get C y) = z) → e = put o z [] [] → o.wp C.P a w next Q := by
      intro z h1 h2 hz
      subst hz
      refine ok_val h (s := do pure (if ← asBool (a.eval c) then a.eval x else a.eval y)) (v := if b then a.eval x else a.eval y) hd (by simp [execOp, ho]) (by simp [hv, asBool]) ?_ hn
      cases b
      · rw [← h2 rfl]; exact h.getU y
      · rw [← h1 rfl]; exact h.getU x
    split at he
    · rename_i p q hp hq
      refine key (.val (.bool (if b then p else q))) (fun hb => ?_) (fun hb => ?_) (ret_inv he)
      · subst hb; simpa using hp
      · subst hb; simpa using hq
    · refine key _ (fun hb => ?_) (fun hb => ?_) (ret_inv he)
      · subst hb; simp
      · subst hb; simp
  · cases he
theorem run_eqNil1 {t ti : TypeId} {ms : Array (String × TypeId)} {xi : Value} (hu : C.P.underlying t = some (.interface ms)) : (Op.equal t (.iface ti xi) .nilIface).run C.P w = .ok false w := by
  show (Op.equalIn (9999 + 1) t (.iface ti xi) .nilIface).run C.P w = _
  unfold Op.equalIn
  rw [Sem.run_bind, run_und hu]; rfl
theorem run_eqNil2 {t ti : TypeId} {ms : Array (String × TypeId)} {xi : Value} (hu : C.P.underlying t = some (.interface ms)) : (Op.equal t .nilIface (.iface ti xi)).run C.P w = .ok false w := by
  show (Op.equalIn (9999 + 1) t .nilIface (.iface ti xi)).run C.P w = _
  unfold Op.equalIn
  rw [Sem.run_bind, run_und hu]; rfl
theorem R.nn_inv {I : Nat → Prop} {f : List Nat} {v : Value} (h : R w I β f v .nn) : ∃ t x, v = .iface t x := by
  cases h; exact ⟨_, _, rfl⟩
theorem ok_bin (h : SR C E w S a β F) {o : Oper} {op : BinOp} {t u : TypeId} {x y : Operand} (ho : o.op = .binOp op t x y u) {e : Eff}
    (he : evBin C o op t x y (un true (S.get C x)) (un true (S.get C y)) = some e) (hd : inB S e) (hn : ∀ a' w', Nx C E (S.app e) a' w' → next a' w') : o.wp C.P a w next Q := by
  have hx := h.getU x
  have hy := h.getU y
  have tv : ∀ {v : Value} {c : AV} {z : Value}, R w (Im E w F) β [] v c → toVal c = some z → v = z := by
    intro v c z hr hz
    have tl : ∀ {as : List AV} {f : List Nat} {vs zs : List Value}, RL w (Im E w F) β f vs as → toVals as = some zs → vs = zs := by
      intro as
      induction as with
      | nil => intro f vs zs h1 h2; simp [toVals] at h2; subst h2; exact h1.nil_inv.2
      | cons c as ih =>
        intro f vs zs h1 h2
        obtain ⟨f1, f2, v, vs', rfl, rfl, h3, h4⟩ := h1.cons_inv
        cases c with
        | val z =>
          simp only [toVals, Option.map_eq_some_iff] at h2
          obtain ⟨zs', h5, rfl⟩ := h2
          rw [h3.val_inv.2, ih h4 h5]
        | _ => simp [toVals] at h2
    cases c with
    | val z' => simp [toVal] at hz; subst hz; exact hr.val_inv.2
    | agg cs =>
      simp only [toVal, Option.map_eq_some_iff] at hz
      obtain ⟨zs, h1, rfl⟩ := hz
      obtain ⟨vs, rfl, h2⟩ := hr.agg_inv
      rw [tl h2 h1]
    | _ => simp [toVal] at hz
  unfold evBin at he
  split at he
  · rename_i va vb ha hb
    obtain ⟨r, h1, h2, rfl⟩ := retV_inv he
    refine ok_val h (s := do eqGuard op t x y (a.eval x) (a.eval y); binOp op t (a.eval x) (a.eval y)) (v := r) hd (by simp [execOp, ho]) ?_ (.val h2) hn
    rw [tv hx ha, tv hy hb]
    exact pureRun_run h1
  · split at he
    · rename_i ms r hu hc
      obtain rfl := ret_inv he
      have hrun : (do eqGuard op t x y (a.eval x) (a.eval y); binOp op t (a.eval x) (a.eval y) : Sem Value).run C.P w = .ok (.bool r) w := by
        generalize un true (S.get C x) = xv at *
        generalize un true (S.get C y) = yv at *
        generalize a.eval x = v1 at *
        generalize a.eval y = v2 at *
        unfold nilCmp at hc
        split at hc
        · obtain ⟨ti, xi, rfl⟩ := hx.nn_inv
          obtain rfl := hy.val_inv.2
          simp only [Option.some.injEq] at hc; subst hc
          show (do pure (.bool (← Op.equal t (.iface ti xi) .nilIface)) : Sem Value).run C.P w = _
          rw [Sem.run_bind, run_eqNil1 hu]; rfl
        · obtain ⟨ti, xi, rfl⟩ := hy.nn_inv
          obtain rfl := hx.val_inv.2
          simp only [Option.some.injEq] at hc; subst hc
          show (do pure (.bool (← Op.equal t .nilIface (.iface ti xi))) : Sem Value).run C.P w = _
          rw [Sem.run_bind, run_eqNil2 hu]; rfl
        · obtain ⟨ti, xi, rfl⟩ := hx.nn_inv
          obtain rfl := hy.val_inv.2
          simp only [Option.some.injEq] at hc; subst hc
          show (do pure (.bool (!(← Op.equal t (.iface ti xi) .nilIface))) : Sem Value).run C.P w = _
          rw [Sem.run_bind, run_eqNil1 hu]; rfl
        · obtain ⟨ti, xi, rfl⟩ := hy.nn_inv
          obtain rfl := hx.val_inv.2
          simp only [Option.some.injEq] at hc; subst hc
          show (do pure (.bool (!(← Op.equal t .nilIface (.iface ti xi)))) : Sem Value).run C.P w = _
          rw [Sem.run_bind, run_eqNil2 hu]; rfl
        · cases hc
      exact ok_val h (s := do eqGuard op t x y (a.eval x) (a.eval y); binOp op t (a.eval x) (a.eval y)) (v := .bool r) hd (by simp [execOp, ho]) hrun (.val rfl) hn
    · cases he
theorem ok_iface (h : SR C E w S a β F) {o : Oper} {t : TypeId} {x : Operand} (ho : o.op = .makeInterface t x) {e : Eff}
    (he : evIface C o t (un true (S.get C x)) = some e) (hd : inB S e) (hn : ∀ a' w', Nx C E (S.app e) a' w' → next a' w') : o.wp C.P a w next Q := by
  have hx := h.getU x
  unfold evIface at he
  split at he
  · cases he
  · rename_i dd hne hu
    have hrun : (Instr.makeInterface t (a.eval x)).run C.P w = .ok (.iface t (a.eval x)) w := by
      unfold Instr.makeInterface
      rw [Sem.run_bind, run_und hu]
      cases dd <;> first | rfl | exact (hne _ rfl).elim
    have key : ∀ v, v = AV.nn ∨ (v = .val (.iface t (a.eval x)) ∧ isSc (.iface t (a.eval x)) = true) → ret o v = some e → o.wp C.P a w next Q := by
      intro v hv hr
      obtain rfl := ret_inv hr
      refine ok_val h (s := Instr.makeInterface t (a.eval x)) (v := .iface t (a.eval x)) hd (by simp [execOp, ho]) hrun ?_ hn
      rcases hv with rfl | ⟨rfl, hs⟩
      · exact .nn
      · exact .val hs
    split at he
    · rename_i va hva
      rw [hva] at hx
      obtain rfl := hx.val_inv.2
      split at he
      · rename_i hs
        exact key _ (.inr ⟨rfl, hs⟩) he
      · exact key _ (.inl rfl) he
    · exact key _ (.inl rfl) he
  · cases he
theorem ok_un (h : SR C E w S a β F) {o : Oper} {op : UnOp} {t : TypeId} {x : Operand} (ho : o.op = .unOp op t x) {e : Eff}
    (he : evUn C o op (un true (S.get C x)) = some e) (hd : inB S e) (hn : ∀ a' w', Nx C E (S.app e) a' w' → next a' w') : o.wp C.P a w next Q := by
  have hx := h.getU x
  unfold evUn at he
  split at he
  · rename_i va hva
    rw [hva] at hx
    obtain ⟨r, h1, h2, rfl⟩ := retV_inv he
    refine ok_val h (s := Op.unary op (a.eval x)) (v := r) hd (by simp [execOp, ho]) ?_ (.val h2) hn
    rw [hx.val_inv.2]
    exact pureRun_run h1
  · cases he
theorem ok_conv0 (h : SR C E w S a β F) {o : Oper} {s t : TypeId} {x : Operand} (ho : o.op = .convert s t x) {e : Eff}
    (he : evConv0 C o s t (un true (S.get C x)) = some e) (hd : inB S e) (hn : ∀ a' w', Nx C E (S.app e) a' w' → next a' w') : o.wp C.P a w next Q := by
  have hx := h.getU x
  unfold evConv0 at he
  split at he
  · rename_i va hva
    rw [hva] at hx
    obtain ⟨r, h1, h2, rfl⟩ := retV_inv he
    refine ok_val h (s := convert s t (a.eval x)) (v := r) hd (by simp [execOp, ho]) ?_ (.val h2) hn
    rw [hx.val_inv.2]
    exact pureRun_run h1
  · cases he
theorem ok_nil (h : SR C E w S a β F) {o : Oper} {x : Operand} (ho : o.op = .nilCheck x) {e : Eff}
    (he : evNil o (un true (S.get C x)) = some e) (hd : inB S e) (hn : ∀ a' w', Nx C E (S.app e) a' w' → next a' w') : o.wp C.P a w next Q := by
  have hx := h.getU x
  generalize un true (S.get C x) = xv at *
  unfold evNil at he
  split at he
  · have := ret_inv he; subst this
    obtain ⟨_, b, p, vs, hv, _⟩ := hx.vp_inv
    exact ok_ret h hd (v := a.eval x) (by simp [execOp, ho, hv]) hx hn
  · have := ret_inv he; subst this
    obtain ⟨_, b, p, sz, n, _, hv⟩ := hx.mp_inv
    exact ok_ret h hd (v := a.eval x) (by simp [execOp, ho, hv]) hx hn
  · have := ret_inv he; subst this
    obtain ⟨_, vs, cs, hv, _⟩ := hx.fn_inv
    exact ok_ret h hd (v := a.eval x) (by simp [execOp, ho, hv]) hx hn
  · cases he
theorem RL.ofMap (h : SR C E w S a β F) : ∀ l : List Operand, RL w (Im E w F) β [] (l.map a.eval) (l.map fun x => un true (S.get C x))
  | [] => .nil
  | x :: l => R.cons (f1 := []) (f2 := []) (h.getU x) (RL.ofMap h l)
theorem ok_makeFunc (h : SR C E w S a β F) {o : Oper} {k : Fn} {x y : Array Operand} (ho : o.op = .makeFunc k x y) {e : Eff}
    (he : ret o (.fn k (x.toList.map fun x => un true (S.get C x)) (y.toList.map fun x => un true (S.get C x))) = some e) (hd : inB S e) (hn : ∀ a' w', Nx C E (S.app e) a' w' → next a' w') : o.wp C.P a w next Q := by
  have := ret_inv he; subst this
  refine ok_val h (s := Instr.makeFunc k (x.map a.eval) (y.map a.eval)) (v := .func k (x.map a.eval) (y.map a.eval)) hd (by simp [execOp, ho]) rfl ?_ hn
  have e1 : x.map a.eval = ⟨x.toList.map a.eval⟩ := by apply Array.ext'; simp
  have e2 : y.map a.eval = ⟨y.toList.map a.eval⟩ := by apply Array.ext'; simp
  rw [e1, e2]
  exact .fn (RL.ofMap h _) (RL.ofMap h _)
theorem RL.get {w : World} {I : Nat → Prop} {β : Id → Option Loc} {as : List AV} : ∀ {f : List Nat} {vs : List Value} {i : Nat} {x : AV}, RL w I β f vs as → as[i]? = some x → ∃ v g, vs[i]? = some v ∧ R w I β g v x ∧ (f = [] → g = []) := by
  induction as with
  | nil => intro f vs i x _ hi; simp at hi
  | cons c as ih =>
    intro f vs i x h hi
    obtain ⟨f1, f2, v, vs', rfl, rfl, h1, h2⟩ := h.cons_inv
    cases i with
    | zero => simp at hi; subst hi; exact ⟨v, f1, by simp, h1, fun e => (List.append_eq_nil_iff.1 e).1⟩
    | succ i =>
      obtain ⟨v', g, h3, h4, h5⟩ := ih h2 (by simpa using hi)
      exact ⟨v', g, by simpa using h3, h4, fun e => h5 (List.append_eq_nil_iff.1 e).2⟩
theorem ok_extract (h : SR C E w S a β F) {o : Oper} {x : Operand} {i : Nat} (ho : o.op = .extract x i) {e : Eff}
    (he : evExtract o (un true (S.get C x)) i = some e) (hd : inB S e) (hn : ∀ a' w', Nx C E (S.app e) a' w' → next a' w') : o.wp C.P a w next Q := by
  have hx := h.getU x
  generalize un true (S.get C x) = xv at *
  unfold evExtract at he
  split at he
  · rename_i l
    split at he
    · rename_i y hy
      have := ret_inv he; subst this
      obtain ⟨vs, hv, hl⟩ := hx.tup_inv
      obtain ⟨u, g, h1, h2, h3⟩ := hl.get (f := []) hy
      have := h3 rfl; subst this
      refine ok_val h (s := Instr.extract (a.eval x) i) (v := u) hd (by simp [execOp, ho]) ?_ h2 hn
      rw [hv]
      simp [Instr.extract, h1]
    · cases he
  · cases he
theorem fieldC_inv {s : TypeId} {i off n : Nat} {b : Bool} (h : fieldC C s i = some (off, n, b)) : ∃ fields fl, C.P.underlying s = some (.struct fields) ∧ fields[i]? = some fl ∧ fl.offset = off ∧ sizeC C fl.type = some n ∧ isAggC C fl.type = some b := by
  unfold fieldC at h
  split at h
  · rename_i fields hu
    split at h
    · rename_i fl hf
      split at h
      · rename_i n' b' h1 h2
        simp at h
        obtain ⟨rfl, rfl, rfl⟩ := h
        exact ⟨fields, fl, hu, hf, rfl, h1, h2⟩
      · cases h
    · cases h
  · cases h
theorem run_fieldAt {s : TypeId} {i : Nat} {fields : Array Field} {fl : Field} {n b p : Nat} (hu : C.P.underlying s = some (.struct fields)) (hf : fields[i]? = some fl) (hn : sizeC C fl.type = some n) (h0 : 0 < n) :
    (Instr.fieldAt s (.pointer (some ⟨b, p, none⟩)) i).run C.P w = .ok (.pointer (some ⟨b, p + fl.offset, none⟩)) w := by
  have h1 : (fieldPlace ⟨b, p, none⟩ fl).run C.P w = .ok ⟨b, p + fl.offset, none⟩ w := by
    unfold fieldPlace
    rw [Sem.run_bind, run_size hn, Result.andThen_ok, if_neg (by omega), add_none]; rfl
  unfold Instr.fieldAt
  rw [Sem.run_bind, run_und hu, Result.andThen_ok]
  simp only [hf]
  simp [Instr.sureAddr, h1]
theorem ok_fieldAddr (h : SR C E w S a β F) {o : Oper} {s : TypeId} {x : Operand} {i : Nat} (ho : o.op = .fieldAddr s x i) {e : Eff}
    (he : evFieldAddr C o s i (un true (S.get C x)) = some e) (hd : inB S e) (hn : ∀ a' w', Nx C E (S.app e) a' w' → next a' w') : o.wp C.P a w next Q := by
  have hx := h.getU x
  generalize un true (S.get C x) = xv at *
  unfold evFieldAddr at he
  split at he
  · rename_i off n b hf
    obtain ⟨fields, fl, hu, hfl, rfl, hs, _⟩ := fieldC_inv hf
    split at he
    · split at he
      · rename_i cells hc
        have := ret_inv he; subst this
        obtain ⟨_, b, p, vs, hv, hI, hcl, hl⟩ := hx.vp_inv
        refine ok_val h (s := Instr.fieldAt s (a.eval x) i) hd (by simp [execOp, ho]) (by rw [hv]; exact run_fieldAt hu hfl hs hc.1) (.vp hI (hcl.drop fl.offset) ?_) hn
        obtain ⟨f1, f2, f3, e0, _, _, h3⟩ := hl.split3 fl.offset 0 (by omega)
        have : f3 = [] := by
          have := List.append_eq_nil_iff.1 e0.symm
          exact (List.append_eq_nil_iff.1 this.2).2
        subst this
        simpa using h3
      · cases he
    · split at he
      · rename_i id row off' h0
        have := ret_inv he; subst this
        obtain ⟨_, b, p, sz, n', hb, hv⟩ := hx.mp_inv
        refine ok_val h (s := Instr.fieldAt s (a.eval x) i) hd (by simp [execOp, ho]) (by rw [hv]; exact run_fieldAt hu hfl hs h0) ?_ hn
        rw [Nat.add_assoc (p + row * sz)]
        exact .mp hb
      · cases he
    · cases he
  · cases he
theorem ok_field (h : SR C E w S a β F) {o : Oper} {s : TypeId} {x : Operand} {i : Nat} (ho : o.op = .field s x i) {e : Eff}
    (he : evField C o s i (un true (S.get C x)) = some e) (hd : inB S e) (hn : ∀ a' w', Nx C E (S.app e) a' w' → next a' w') : o.wp C.P a w next Q := by
  have hx := h.getU x
  generalize un true (S.get C x) = xv at *
  unfold evField at he
  split at he
  · rename_i off n b hf
    obtain ⟨fields, fl, hu, hfl, rfl, hs, hb⟩ := fieldC_inv hf
    split at he
    · split at he
      · rename_i cells hc
        simp only [Option.map_eq_some_iff] at he
        obtain ⟨y, hy, rfl⟩ := he
        obtain ⟨vs, hv, hl⟩ := hx.agg_inv
        obtain ⟨f1, f2, f3, e0, _, h2, _⟩ := hl.split3 fl.offset n hc
        have : f2 = [] := by
          have := List.append_eq_nil_iff.1 e0.symm
          exact (List.append_eq_nil_iff.1 this.2).1
        subst this
        obtain ⟨u, hr, hu1, hu2⟩ := mkV_sound h2 hy
        refine ok_val h (s := Instr.field s (a.eval x) i) (v := u) hd (by simp [execOp, ho]) ?_ hr hn
        have hlen := hl.length
        unfold Instr.field
        rw [Sem.run_bind, run_und hu, Result.andThen_ok]
        simp only [hfl, hv]
        have hpart : (part fl.type ⟨vs⟩ fl.offset).run C.P w = .ok u w := by
          unfold part
          rw [Sem.run_bind, run_isA hb, Result.andThen_ok]
          cases b
          · have hu2 := hu2 rfl
            have : (⟨vs⟩ : Array Value)[fl.offset]? = some u := by
              have h3 : ((vs.drop fl.offset).take n)[0]? = some u := by rw [hu2]; rfl
              rw [List.getElem?_take] at h3
              split at h3
              · simpa using h3
              · cases h3
            simp only [Bool.false_eq_true, if_false]
            rw [this]; rfl
          · have hu1 := hu1 rfl
            subst hu1
            simp only [if_true]
            rw [Sem.run_bind, run_size hs, Result.andThen_ok]
            have e3 : (⟨vs⟩ : Array Value).extract fl.offset (fl.offset + n) = ⟨(vs.drop fl.offset).take n⟩ := by
              apply Array.ext'
              simp
            rw [e3]; rfl
        simp [asAgg, hpart]
      · cases he
    · cases he
  · cases he
theorem asInt_inv {v : Value} {xv : AV} {n : Int} {I : Nat → Prop} {β : Id → Option Loc} {f : List Nat} (h : R w I β f v xv) (hi : intOfV xv = some n) : ∃ k, v = .int k n := by
  unfold intOfV at hi
  split at hi
  · obtain ⟨_, rfl⟩ := h.val_inv
    simp at hi; subst hi
    exact ⟨_, rfl⟩
  · cases hi
end
end Go.Ab
