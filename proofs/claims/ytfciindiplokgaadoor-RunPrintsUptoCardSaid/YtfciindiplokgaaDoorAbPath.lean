/-
  A function that tells the last element's place.
-/
import Derived.Test.YtfciindiplokgaaDoorAbOps8
import Derived.Deep.Quiet
import Derived.Test.YtfciindiplokgaaDoorAbV2
namespace Go.Ab
open Go
section
variable {P : Program} {ops : Array Oper} {Q : Act → Prop} {a : Act} {w : World}
theorem Oper.wp_value {o : Oper} {next : Act → World → Prop} {Q : Exit → Act → World → Prop} {w' : World} {v : Value} (h : (execOp a.eval o).run P w = .ok (.value v) w') (k : next (a.put o.dst v) w') : o.wp P a w next Q := by
  unfold Go.Oper.wp
  rw [h]
  exact k
theorem wpQ_at {C : World → Prop} {l : List Oper} {a' : Act} (h : a = a') (k : wpQuiet P ops C Q l a') : wpQuiet P ops C Q l a := by subst h; exact k
theorem wpQ_cons {o : Oper} {rest : List Oper} {v : Value} (hg : o.guard = none) (h : ∀ n, (execOp a.eval o).run P (w.drewN n) = .ok (.value v) (w.drewN n))
    (k : wpQuiet P ops (fun w' => ∃ n, w' = w.drewN n) Q rest (a.put o.dst v)) : wpQuiet P ops (fun w' => ∃ n, w' = w.drewN n) Q (o :: rest) a := by
  unfold wpQuiet
  rw [if_pos (by unfold Region.wanted; rw [hg])]
  refine ⟨v, ?_, k⟩
  rintro w' ⟨n, rfl⟩
  unfold Oper.quietAt
  rw [h n]
  exact ⟨rfl, rfl⟩
end
def cxOf (P : Program) : Cx := { P := P, glob := fun _ => none, ext := fun _ => none, lend := fun _ => [], frz := fun _ => [], live := fun _ _ => [], ah := fun _ _ => [] }
section
variable {P : Program} {k : FuncId} {fn : Func} {S T e tp t1 t2 t3 ti : TypeId} {fi : Nat} {fields : Array Field} {fl : Field} {sz : Nat}
variable {p0 p1 p2 p3 p4 p5 p6 p7 p8 p9 p10 p11 p12 : String} {f0 f1 f2 f3 f4 f5 f6 f7 f8 f9 f10 f11 f12 : Array Edge}
def pathOps (S T tp t1 t2 t3 ti : TypeId) (fi : Nat) (p1 p2 p3 p4 p5 p6 p7 p8 p9 p10 p11 p12 : String) (f1 f2 f3 f4 f5 f6 f7 f8 f9 f10 f11 f12 : Array Edge) : List Oper :=
  [⟨some 3, .move (.tmp 0), tp, p1, f1, none⟩, ⟨some 4, .nilCheck (.tmp 3), t1, p2, f2, none⟩, ⟨some 5, .fieldAddr S (.tmp 4) fi, t1, p3, f3, none⟩, ⟨some 6, .load T (.tmp 5), T, p4, f4, none⟩,
   ⟨some 7, .move (.tmp 0), tp, p5, f5, none⟩, ⟨some 8, .nilCheck (.tmp 7), t1, p6, f6, none⟩, ⟨some 9, .fieldAddr S (.tmp 8) fi, t1, p7, f7, none⟩, ⟨some 10, .load T (.tmp 9), T, p8, f8, none⟩,
   ⟨some 11, .call ⟨.builtin .len, ⟨[.tmp 10]⟩, ⟨[T]⟩⟩, ti, p9, f9, none⟩, ⟨some 12, .binOp .sub ti (.tmp 11) (.const (.int .i64 1)) ti, ti, p10, f10, none⟩, ⟨some 13, .indexAddr T (.tmp 6) (.tmp 12), t2, p11, f11, none⟩, ⟨some 2, .assign (.tmp 13), t3, p12, f12, none⟩]
theorem path_does (hm : P.follows .mixedOrders = true) (hS : P.underlying S = some (.struct fields)) (hfl : fields[fi]? = some fl) (hT : fl.type = T) (hu : P.underlying T = some (.slice e)) (hs1 : (P.info? T).map (·.size) = some 1) (hse : (P.info? e).map (·.size) = some sz)
    (hti : P.underlying ti = some (.int .i64))
    (hf : P.funcs[k]? = some fn) (hn : fn.ntmps = 14) (hres : fn.results = ⟨[.tmp 2]⟩)
    (hb : fn.body = some (.seq (.region 0 ⟨[⟨some 2, .assign (.const (.pointer none)), t3, p0, f0, none⟩]⟩ false)
      (.seq (.region 1 (pathOps S T tp t1 t2 t3 ti fi p1 p2 p3 p4 p5 p6 p7 p8 p9 p10 p11 p12 f1 f2 f3 f4 f5 f6 f7 f8 f9 f10 f11 f12).toArray true) .ret)))
    (hB : Region.lexB .any (pathOps S T tp t1 t2 t3 ti fi p1 p2 p3 p4 p5 p6 p7 p8 p9 p10 p11 p12 f1 f2 f3 f4 f5 f6 f7 f8 f9 f10 f11 f12).toArray = true)
    {w : World} {b o b2 o2 len cap : Nat} (hc : w.cell? ⟨b, o + fl.offset, none⟩ = some (.slice (some ⟨b2, o2, none⟩) len cap)) (h0 : 0 < len) (hx : len ≤ maxRows) :
    Does P k #[.pointer (some ⟨b, o, none⟩)] w fun v w' => (∃ n, w' = w.drewN n) ∧ v = .pointer (some ⟨b2, o2 + (len - 1) * sz, none⟩) := by
  refine .inl ⟨_, _, hf, hb, ?_⟩
  refine calls_of_wp hf hb ?_
  have hund : (cxOf P).P.underlying T = some (.slice e) := hu
  rw [hn]
  rw [show (#[.pointer (some ⟨b, o, none⟩)] ++ Array.replicate (14 - (#[.pointer (some ⟨b, o, none⟩)] : Array Value).size) undef : Array Value) = ⟨[.pointer (some ⟨b, o, none⟩), undef, undef, undef, undef, undef, undef, undef, undef, undef, undef, undef, undef, undef]⟩ from rfl]
  refine wp_seq (wp_region ?_)
  refine (show wpOps P _ _ [0] _ _ from ?_)
  refine .inl ?_
  refine Go.Ab.Oper.wp_value (w' := w) (v := .pointer none) rfl ?_
  refine (show Code.wp P _ _ _ _ from ?_)
  refine wp_seq ?_
  refine wp_region_quiet_lit hm hB ?_
  have e6 : ∀ n, (loadVar T ⟨b, o + fl.offset, none⟩).run P (w.drewN n) = .ok (.slice (some ⟨b2, o2, none⟩) len cap) (w.drewN n) := fun n => by
    refine run_loadV (C := cxOf P) (b := false) (n := 1) (vs := [.slice (some ⟨b2, o2, none⟩) len cap]) ?_ hs1 ?_ rfl (fun h => by cases h) (fun _ => rfl)
    · show (P.underlying T).map _ = _
      rw [hu]; rfl
    · intro j v hj
      cases j with
      | zero => simp only [List.getElem?_cons_zero, Option.some.injEq] at hj; subst hj; exact hc
      | succ j => simp at hj
  have e5 : ∀ n, (Instr.fieldAt S (.pointer (some ⟨b, o, none⟩)) fi).run P (w.drewN n) = .ok (.pointer (some ⟨b, o + fl.offset, none⟩)) (w.drewN n) := fun n =>
    run_fieldAt (C := cxOf P) (n := 1) hS hfl (by rw [hT]; exact hs1) (by omega)
  refine wpQ_at (a' := ⟨⟨[.pointer (some ⟨b, o, none⟩), undef, .pointer none, undef, undef, undef, undef, undef, undef, undef, undef, undef, undef, undef]⟩, []⟩) rfl ?_
  refine wpQ_cons (v := .pointer (some ⟨b, o, none⟩)) rfl (fun n => rfl) ?_
  refine wpQ_at (a' := ⟨⟨[.pointer (some ⟨b, o, none⟩), undef, .pointer none, .pointer (some ⟨b, o, none⟩), undef, undef, undef, undef, undef, undef, undef, undef, undef, undef]⟩, []⟩) rfl ?_
  refine wpQ_cons (v := .pointer (some ⟨b, o, none⟩)) rfl (fun n => rfl) ?_
  refine wpQ_at (a' := ⟨⟨[.pointer (some ⟨b, o, none⟩), undef, .pointer none, .pointer (some ⟨b, o, none⟩), .pointer (some ⟨b, o, none⟩), undef, undef, undef, undef, undef, undef, undef, undef, undef]⟩, []⟩) rfl ?_
  refine wpQ_cons (v := .pointer (some ⟨b, o + fl.offset, none⟩)) rfl (fun n => run_v (e5 n)) ?_
  refine wpQ_at (a' := ⟨⟨[.pointer (some ⟨b, o, none⟩), undef, .pointer none, .pointer (some ⟨b, o, none⟩), .pointer (some ⟨b, o, none⟩), .pointer (some ⟨b, o + fl.offset, none⟩), undef, undef, undef, undef, undef, undef, undef, undef]⟩, []⟩) rfl ?_
  refine wpQ_cons (v := .slice (some ⟨b2, o2, none⟩) len cap) rfl (fun n => run_v (e6 n)) ?_
  refine wpQ_at (a' := ⟨⟨[.pointer (some ⟨b, o, none⟩), undef, .pointer none, .pointer (some ⟨b, o, none⟩), .pointer (some ⟨b, o, none⟩), .pointer (some ⟨b, o + fl.offset, none⟩), .slice (some ⟨b2, o2, none⟩) len cap, undef, undef, undef, undef, undef, undef, undef]⟩, []⟩) rfl ?_
  refine wpQ_cons (v := .pointer (some ⟨b, o, none⟩)) rfl (fun n => rfl) ?_
  refine wpQ_at (a' := ⟨⟨[.pointer (some ⟨b, o, none⟩), undef, .pointer none, .pointer (some ⟨b, o, none⟩), .pointer (some ⟨b, o, none⟩), .pointer (some ⟨b, o + fl.offset, none⟩), .slice (some ⟨b2, o2, none⟩) len cap, .pointer (some ⟨b, o, none⟩), undef, undef, undef, undef, undef, undef]⟩, []⟩) rfl ?_
  refine wpQ_cons (v := .pointer (some ⟨b, o, none⟩)) rfl (fun n => rfl) ?_
  refine wpQ_at (a' := ⟨⟨[.pointer (some ⟨b, o, none⟩), undef, .pointer none, .pointer (some ⟨b, o, none⟩), .pointer (some ⟨b, o, none⟩), .pointer (some ⟨b, o + fl.offset, none⟩), .slice (some ⟨b2, o2, none⟩) len cap, .pointer (some ⟨b, o, none⟩), .pointer (some ⟨b, o, none⟩), undef, undef, undef, undef, undef]⟩, []⟩) rfl ?_
  refine wpQ_cons (v := .pointer (some ⟨b, o + fl.offset, none⟩)) rfl (fun n => run_v (e5 n)) ?_
  refine wpQ_at (a' := ⟨⟨[.pointer (some ⟨b, o, none⟩), undef, .pointer none, .pointer (some ⟨b, o, none⟩), .pointer (some ⟨b, o, none⟩), .pointer (some ⟨b, o + fl.offset, none⟩), .slice (some ⟨b2, o2, none⟩) len cap, .pointer (some ⟨b, o, none⟩), .pointer (some ⟨b, o, none⟩), .pointer (some ⟨b, o + fl.offset, none⟩), undef, undef, undef, undef]⟩, []⟩) rfl ?_
  refine wpQ_cons (v := .slice (some ⟨b2, o2, none⟩) len cap) rfl (fun n => run_v (e6 n)) ?_
  refine wpQ_at (a' := ⟨⟨[.pointer (some ⟨b, o, none⟩), undef, .pointer none, .pointer (some ⟨b, o, none⟩), .pointer (some ⟨b, o, none⟩), .pointer (some ⟨b, o + fl.offset, none⟩), .slice (some ⟨b2, o2, none⟩) len cap, .pointer (some ⟨b, o, none⟩), .pointer (some ⟨b, o, none⟩), .pointer (some ⟨b, o + fl.offset, none⟩), .slice (some ⟨b2, o2, none⟩) len cap, undef, undef, undef]⟩, []⟩) rfl ?_
  refine wpQ_cons (v := .int .i64 len) rfl (fun n => ?_) ?_
  · refine (resolve_builtin (C := cxOf P) rfl rfl).trans (run_v ?_)
    rw [map_args (l := [.tmp 10]) rfl]
    refine (show (Builtin.len_ ⟨[T]⟩ ti #[Value.slice (some ⟨b2, o2, none⟩) len cap]).run (cxOf P).P _ = _ from ?_)
    simp [Builtin.len_, run_und (C := cxOf P) hund, goInt]
  refine wpQ_at (a' := ⟨⟨[.pointer (some ⟨b, o, none⟩), undef, .pointer none, .pointer (some ⟨b, o, none⟩), .pointer (some ⟨b, o, none⟩), .pointer (some ⟨b, o + fl.offset, none⟩), .slice (some ⟨b2, o2, none⟩) len cap, .pointer (some ⟨b, o, none⟩), .pointer (some ⟨b, o, none⟩), .pointer (some ⟨b, o + fl.offset, none⟩), .slice (some ⟨b2, o2, none⟩) len cap, .int .i64 len, undef, undef]⟩, []⟩) rfl ?_
  refine wpQ_cons (v := .int .i64 (len - 1 : Int)) rfl (fun n => run_v (pureRun_run ?_)) ?_
  · have e : binV P .sub ti (.tmp 11) (.const (.int .i64 1)) (.int .i64 (len : Int)) (.int .i64 1) = some (.int .i64 (IntKind.i64.wrap ((len : Int) - 1))) := bin_sub
    rw [show IntKind.i64.wrap ((len : Int) - 1) = (len : Int) - 1 by
      unfold maxRows at hx
      simp only [IntKind.wrap, IntKind.bits, IntKind.signed]; simp; split <;> omega] at e
    exact e
  refine wpQ_at (a' := ⟨⟨[.pointer (some ⟨b, o, none⟩), undef, .pointer none, .pointer (some ⟨b, o, none⟩), .pointer (some ⟨b, o, none⟩), .pointer (some ⟨b, o + fl.offset, none⟩), .slice (some ⟨b2, o2, none⟩) len cap, .pointer (some ⟨b, o, none⟩), .pointer (some ⟨b, o, none⟩), .pointer (some ⟨b, o + fl.offset, none⟩), .slice (some ⟨b2, o2, none⟩) len cap, .int .i64 len, .int .i64 (len - 1 : Int), undef]⟩, []⟩) rfl ?_
  refine wpQ_cons (v := .pointer (some ⟨b2, o2 + (len - 1) * sz, none⟩)) rfl (fun n => run_v ?_) ?_
  · have := run_indexAt (C := cxOf P) (w := w.drewN n) (t := T) (e := e) (k := .i64) (i := (len - 1 : Int)) (b := b2) (p := o2) (len := len) (cap := cap) (n := sz) hu hse (by omega) (by omega)
    rw [show ((len : Int) - 1).toNat = len - 1 by omega] at this
    exact this
  refine wpQ_at (a' := ⟨⟨[.pointer (some ⟨b, o, none⟩), undef, .pointer none, .pointer (some ⟨b, o, none⟩), .pointer (some ⟨b, o, none⟩), .pointer (some ⟨b, o + fl.offset, none⟩), .slice (some ⟨b2, o2, none⟩) len cap, .pointer (some ⟨b, o, none⟩), .pointer (some ⟨b, o, none⟩), .pointer (some ⟨b, o + fl.offset, none⟩), .slice (some ⟨b2, o2, none⟩) len cap, .int .i64 len, .int .i64 (len - 1 : Int), .pointer (some ⟨b2, o2 + (len - 1) * sz, none⟩)]⟩, []⟩) rfl ?_
  refine wpQ_cons (v := .pointer (some ⟨b2, o2 + (len - 1) * sz, none⟩)) rfl (fun n => rfl) ?_
  refine wpQ_at (a' := ⟨⟨[.pointer (some ⟨b, o, none⟩), undef, .pointer (some ⟨b2, o2 + (len - 1) * sz, none⟩), .pointer (some ⟨b, o, none⟩), .pointer (some ⟨b, o, none⟩), .pointer (some ⟨b, o + fl.offset, none⟩), .slice (some ⟨b2, o2, none⟩) len cap, .pointer (some ⟨b, o, none⟩), .pointer (some ⟨b, o, none⟩), .pointer (some ⟨b, o + fl.offset, none⟩), .slice (some ⟨b2, o2, none⟩) len cap, .int .i64 len, .int .i64 (len - 1 : Int), .pointer (some ⟨b2, o2 + (len - 1) * sz, none⟩)]⟩, []⟩) rfl ?_
  refine wpQuiet_nil ?_
  rintro w' ⟨n, rfl⟩
  refine (show Code.wp P _ _ _ _ from ?_)
  refine wp_ret ⟨rfl, .pointer (some ⟨b2, o2 + (len - 1) * sz, none⟩), ?_, _, rfl, ⟨n, rfl⟩, rfl⟩
  simp [results, hres]
theorem path_sound (hm : P.follows .mixedOrders = true) (hS : P.underlying S = some (.struct fields)) (hfl : fields[fi]? = some fl) (hT : fl.type = T) (hu : P.underlying T = some (.slice e)) (hs1 : (P.info? T).map (·.size) = some 1) (hse : (P.info? e).map (·.size) = some sz)
    (hti : P.underlying ti = some (.int .i64))
    (hf : P.funcs[k]? = some fn) (hn : fn.ntmps = 14) (hres : fn.results = ⟨[.tmp 2]⟩)
    (hb : fn.body = some (.seq (.region 0 ⟨[⟨some 2, .assign (.const (.pointer none)), t3, p0, f0, none⟩]⟩ false)
      (.seq (.region 1 (pathOps S T tp t1 t2 t3 ti fi p1 p2 p3 p4 p5 p6 p7 p8 p9 p10 p11 p12 f1 f2 f3 f4 f5 f6 f7 f8 f9 f10 f11 f12).toArray true) .ret)))
    (hB : Region.lexB .any (pathOps S T tp t1 t2 t3 ti fi p1 p2 p3 p4 p5 p6 p7 p8 p9 p10 p11 p12 f1 f2 f3 f4 f5 f6 f7 f8 f9 f10 f11 f12).toArray = true) : PathSound P k (fl.offset, sz) :=
  fun w b o b2 o2 len cap hc h0 hx _ => path_does hm hS hfl hT hu hs1 hse hti hf hn hres hb hB hc h0 hx
end
end Go.Ab
