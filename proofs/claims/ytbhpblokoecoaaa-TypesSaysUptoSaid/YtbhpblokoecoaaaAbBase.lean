/-
  A MACHINE OVER ABSTRACT VALUES, computable: what the model's code comes to where data is read as values. No program, no statement stands here.
-/
import Derived.Deep.Quiet
namespace Go.Ab
open Go
abbrev Id := List Nat
inductive AV where
  | val (v : Value)
  | sl (rows : List (List AV))
  | vp (cells : List AV)
  | snil
  | rs (id : Id) (off len : Nat)
  | mp (id : Id) (row off : Nat)
  | fn (f : Fn) (first caps : List AV)
  | agg (cells : List AV)
  | tup (vs : List AV)
  | own (rows : List (List AV)) (len : Nat)
  | ownp (cells : List AV)
  | gv (g : Bool) (x : AV)
  | nn
  | mr (id : Id)
  | om (rows : List (List AV))
  | im (rows : List (List AV))
  | junk
  deriving Inhabited
abbrev Rows := List (List AV)
structure St where
  n : Nat
  t : Nat → AV
  h : Id → Option (Option Rows)
structure Eff where
  sw : List (Nat × AV)
  rd : List Id
  wr : List (Id × Option Rows)
def upd {α β : Type} [DecidableEq α] (f : α → β) (k : α) (v : β) : α → β := fun j => if j = k then v else f j
def updS (t : Nat → AV) : List (Nat × AV) → Nat → AV
  | [] => t
  | (i, v) :: l => upd (updS t l) i v
def updH (h : Id → Option (Option Rows)) : List (Id × Option Rows) → Id → Option (Option Rows)
  | [] => h
  | (i, r) :: l => upd (updH h l) i (some r)
def St.app (s : St) (e : Eff) : St := { n := s.n, t := updS s.t e.sw, h := updH s.h e.wr }
def isSc : Value → Bool
  | .bool _ | .int _ _ | .float _ _ | .string _ | .pointer none | .nilFunc | .nilIface | .map none | .iface _ (.int _ _) | .iface _ (.string _) | .iface _ (.bool _) => true
  | _ => false
def pureRun {α : Type} (P : Program) : Sem α → Option α
  | .pure a => some a
  | .program k => pureRun P (k P)
  | _ => none
structure Cx where
  P : Program
  glob : Nat → Option (List AV)
  ext : FuncId → Option (List AV → Option (AV × List AV))
  lend : FuncId → List Nat
  modes : FuncId → List Nat := fun _ => []
  shr : FuncId → Nat → Bool := fun _ _ => false
  frz : FuncId → List Nat
  live : FuncId → Nat → List Nat
  ah : FuncId → Nat → List (Nat × Nat)
  cutR : FuncId → Nat → Option (Bool × List Nat) := fun _ _ => none
  cutB : FuncId → Nat → Option (Bool × List Nat) := fun _ _ => none
  cutS : FuncId → Nat → Option (Bool × List Nat) := fun _ _ => none
  path : FuncId → Option (Nat × Nat) := fun _ => none
  zsl : FuncId → Nat → List Nat := fun _ _ => []
  iter : FuncId → Option (List AV → Option (List (List AV))) := fun _ => none
def St.get (C : Cx) (s : St) : Operand → AV
  | .tmp t => s.t t
  | .const v => if isSc v then .val v else match v with | .slice none 0 0 => .snil | _ => .junk
  | .global g => match C.glob g with | some cs => .vp cs | none => .junk
  | .func f => .fn (.func f) [] []
def un (g : Bool) : AV → AV
  | .gv g' x => if !g || g' then x else .junk
  | x => x
def toVals : List AV → Option (List Value)
  | [] => some []
  | .val v :: l => (toVals l).map (v :: ·)
  | _ :: _ => none
def toVal : AV → Option Value
  | .val v => some v
  | .agg cs => (toVals cs).map fun vs => .agg ⟨vs⟩
  | _ => none
def ofVal (v : Value) : Option AV := if isSc v then some (.val v) else match v with | .slice none 0 0 => some .snil | _ => none
def ofVals : List Value → Option (List AV)
  | [] => some []
  | v :: l => match ofVal v with
    | some a => (ofVals l).map (a :: ·)
    | none => none
def zeroC (C : Cx) (t : TypeId) : Option (List AV) :=
  match (C.P.info? t).bind (·.zero) with
  | some v => ofVals v.cells.toList
  | none => none
def ofMem (v : Value) : Option AV := if isSc v then some (.val v) else match v with | .slice none 0 0 => some (.own [] 0) | _ => none
def ofMems : List Value → Option (List AV)
  | [] => some []
  | v :: l => match ofMem v with
    | some a => (ofMems l).map (a :: ·)
    | none => none
def zeroM (C : Cx) (t : TypeId) : Option (List AV) :=
  match (C.P.info? t).bind (·.zero) with
  | some v => ofMems v.cells.toList
  | none => none
def sizeC (C : Cx) (t : TypeId) : Option Nat := (C.P.info? t).map (·.size)
def isAggC (C : Cx) (t : TypeId) : Option Bool := (C.P.underlying t).map fun | .struct _ => true | .array _ _ => true | _ => false
def nz : AV → AV
  | .snil => .sl []
  | x => x
def nzL (l : List AV) : List AV := l.map nz
def AV.cell : AV → Bool
  | .val _ | .sl _ | .vp _ | .snil | .rs _ _ _ | .mp _ _ _ | .fn _ _ _ | .nn | .mr _ | .im _ => true
  | _ => false
def cellsOfV (isA : Bool) : AV → Option (List AV)
  | .agg cs => if isA && cs.all AV.cell then some cs else none
  | x => if !isA && x.cell then some [x] else none
def mkV (isA : Bool) (cs : List AV) : Option AV := if isA then some (.agg cs) else match cs with | [c] => some c | _ => none
def unpackC (p : Id) : Nat → List AV → List AV × List (Id × Option Rows)
  | _, [] => ([], [])
  | j, c :: cs =>
    match c with
    | .own rows len => (.rs (j :: p) 0 len :: (unpackC p (j + 1) cs).1, (j :: p, some rows) :: (unpackC p (j + 1) cs).2)
    | .ownp cells => (.mp (j :: p) 0 0 :: (unpackC p (j + 1) cs).1, (j :: p, some [cells]) :: (unpackC p (j + 1) cs).2)
    | .om rows => (.mr (j :: p) :: (unpackC p (j + 1) cs).1, (j :: p, some rows) :: (unpackC p (j + 1) cs).2)
    | .agg _ => (.junk :: (unpackC p (j + 1) cs).1, (unpackC p (j + 1) cs).2)
    | .tup _ => (.junk :: (unpackC p (j + 1) cs).1, (unpackC p (j + 1) cs).2)
    | c => (c :: (unpackC p (j + 1) cs).1, (unpackC p (j + 1) cs).2)
def impL (p : Id) : Nat → List AV → List AV × List (Id × Option Rows)
  | _, [] => ([], [])
  | j, c :: cs =>
    match c with
    | .own rows len => (.rs (j :: p) 0 len :: (impL p (j + 1) cs).1, (j :: p, some rows) :: (impL p (j + 1) cs).2)
    | .ownp cells => (.mp (j :: p) 0 0 :: (impL p (j + 1) cs).1, (j :: p, some [cells]) :: (impL p (j + 1) cs).2)
    | .om rows => (.mr (j :: p) :: (impL p (j + 1) cs).1, (j :: p, some rows) :: (impL p (j + 1) cs).2)
    | .agg l => (.agg (unpackC (j :: p) 0 l).1 :: (impL p (j + 1) cs).1, (unpackC (j :: p) 0 l).2 ++ (impL p (j + 1) cs).2)
    | .tup _ => (.junk :: (impL p (j + 1) cs).1, (impL p (j + 1) cs).2)
    | c => (c :: (impL p (j + 1) cs).1, (impL p (j + 1) cs).2)
def imp (p : Id) : AV → AV × List (Id × Option Rows)
  | .own rows len => (.rs p 0 len, [(p, some rows)])
  | .ownp cells => (.mp p 0 0, (p, some [(unpackC p 0 cells).1]) :: (unpackC p 0 cells).2)
  | .om rows => (.mr p, [(p, some rows)])
  | .agg l => (.agg (unpackC p 0 l).1, (unpackC p 0 l).2)
  | .tup l => (.tup (impL p 0 l).1, (impL p 0 l).2)
  | x => (x, [])
mutual
def flat : AV → Bool
  | .rs _ _ _ | .mp _ _ _ | .gv _ _ | .snil | .mr _ => false
  | .own rows _ => flatR rows
  | .ownp cells => flatL cells
  | .agg cells => flatL cells
  | .tup vs => flatL vs
  | .fn _ first caps => flatL first && flatL caps
  | _ => true
def flatL : List AV → Bool
  | [] => true
  | c :: cs => flat c && flatL cs
def flatR : List (List AV) → Bool
  | [] => true
  | r :: rs => flatL r && flatR rs
end
mutual
def imm : AV → Bool
  | .rs _ _ _ | .mp _ _ _ | .gv _ _ | .snil | .own _ _ | .ownp _ | .mr _ | .om _ | .junk => false
  | .agg cells => immL cells
  | .tup vs => immL vs
  | .fn _ first caps => immL first && immL caps
  | _ => true
def immL : List AV → Bool
  | [] => true
  | c :: cs => imm c && immL cs
end
def immR (rows : Rows) : Bool := rows.all immL
def foldC (p : AV → Option (AV × List Id)) : List AV → Option (List AV × List Id)
  | [] => some ([], [])
  | c :: cs => (p c).bind fun x => (foldC p cs).map fun y => (x.1 :: y.1, x.2 ++ y.2)
def foldR (p : List AV → Option (List AV × List Id)) : Rows → Option (Rows × List Id)
  | [] => some ([], [])
  | r :: rs => (p r).bind fun x => (foldR p rs).map fun y => (x.1 :: y.1, x.2 ++ y.2)
def pkC (p : AV → Option (AV × List Id)) (cs : List AV) : Option (List AV × List Id) := if flatL cs then some (cs, []) else foldC p cs
def pkR (p : AV → Option (AV × List Id)) (rs : Rows) : Option (Rows × List Id) := if flatR rs then some (rs, []) else foldR (pkC p) rs
def pk (L : Id → Option (Option Rows)) : Nat → AV → Option (AV × List Id)
  | 0, _ => none
  | n + 1, a =>
    match a with
    | .rs id off len => match L id with
      | some (some rs) => if off = 0 ∧ len ≤ rs.length then (pkR (pk L n) rs).map fun x => (.own x.1 len, id :: x.2) else none
      | _ => none
    | .mp id row off => match L id with
      | some (some [cs]) => if row = 0 ∧ off = 0 then (pkC (pk L n) cs).map fun x => (.ownp x.1, id :: x.2) else none
      | _ => none
    | .mr id => match L id with
      | some (some rs) => some (.om rs, [id])
      | _ => none
    | .snil => some (.own [] 0, [])
    | .agg cs => (pkC (pk L n) cs).map fun x => (.agg x.1, x.2)
    | .tup cs => (pkC (pk L n) cs).map fun x => (.tup x.1, x.2)
    | .fn f a b => if immL a && immL b then some (.fn f a b, []) else none
    | .gv _ _ => some (.junk, [])
    | .own rs len => if flatR rs then some (.own rs len, []) else none
    | .ownp cs => if flatL cs then some (.ownp cs, []) else none
    | a => some (a, [])
def bwC (p : AV → Option (AV × List Id)) (cs : List AV) : Option (List AV × List Id) := if immL cs then some (cs, []) else foldC p cs
def bwR (p : AV → Option (AV × List Id)) (rs : Rows) : Option (Rows × List Id) := if immR rs then some (rs, []) else foldR (bwC p) rs
def bw (L : Id → Option (Option Rows)) : Nat → AV → Option (AV × List Id)
  | 0, _ => none
  | n + 1, a =>
    match a with
    | .rs id off len => match L id with
      | some (some rs) => if off + len ≤ rs.length then (bwR (bw L n) ((rs.drop off).take len)).map fun x => (.sl x.1, id :: x.2) else none
      | _ => none
    | .mp id row off => match L id with
      | some (some rs) => match rs[row]? with
        | some r => if off ≤ r.length then (bwC (bw L n) (r.drop off)).map fun x => (.vp x.1, id :: x.2) else none
        | none => none
      | _ => none
    | .mr id => match L id with
      | some (some rs) => some (.im rs, [id])
      | _ => none
    | .om rs => some (.im rs, [])
    | .own rs len => (bwR (bw L n) (rs.take len)).map fun x => (.sl x.1, x.2)
    | .ownp cs => (bwC (bw L n) cs).map fun x => (.vp x.1, x.2)
    | .snil => some (.sl [], [])
    | .agg cs => (bwC (bw L n) cs).map fun x => (.agg x.1, x.2)
    | .tup cs => (bwC (bw L n) cs).map fun x => (.tup x.1, x.2)
    | .fn f a b => (bwC (bw L n) a).bind fun x => (bwC (bw L n) b).map fun y => (.fn f x.1 y.1, x.2 ++ y.2)
    | .gv _ _ => some (.junk, [])
    | a => some (a, [])
def bwL (L : Id → Option (Option Rows)) (as : List AV) : Option (List AV × List Id) := foldC (bw L 9) as
def put (o : Oper) (v : AV) (rd : List Id) (wr : List (Id × Option Rows)) : Eff :=
  { sw := match o.dst with | some d => [(d, v)] | none => [], rd, wr }
def fresh (L : Id → Option (Option Rows)) (l : List (Id × Option Rows)) : Bool := l.all fun x => (L x.1).isNone
def placesL (C : Cx) : List Field → Option (List (Nat × Nat × Bool))
  | [] => some []
  | f :: l => match sizeC C f.type, isAggC C f.type, placesL C l with
    | some n, some b, some r => some ((f.offset, n, b) :: r)
    | _, _, _ => none
def placesC (C : Cx) (t : TypeId) : Option (List (Nat × Nat × Bool)) :=
  match C.P.underlying t with
  | some (.struct fields) => placesL C fields.toList
  | _ => none
def fillC (place : List (Nat × Nat × Bool)) (cells : List AV) : List (Nat × AV) → Option (List AV)
  | [] => some cells
  | (i, v) :: rest =>
    match place[i]? with
    | none => none
    | some (off, n, b) =>
      match cellsOfV b v with
      | none => none
      | some cs => if cs.length = n ∧ off + n ≤ cells.length then fillC place (cells.take off ++ cs ++ cells.drop (off + n)) rest else none
def fillRows (n : Nat) (b : Bool) (rows : Rows) : List (Nat × AV) → Option Rows
  | [] => some rows
  | (i, v) :: rest =>
    match cellsOfV b v with
    | none => none
    | some cs => if cs.length = n ∧ i < rows.length then fillRows n b (rows.set i cs) rest else none
def intOfV : AV → Option Int
  | .val (.int _ n) => some n
  | _ => none
def goI (n : Int) : AV := .val (.int .i64 n)
def maxRows : Nat := 4294967296
def rowsOf (L : Id → Option (Option Rows)) : AV → Option (Rows × List Id)
  | .sl rows => some (rows, [])
  | .snil => some ([], [])
  | .rs id off len => match L id with
    | some (some rs) => if off + len ≤ rs.length then some ((rs.drop off).take len, [id]) else none
    | _ => none
  | _ => none
def rowCell (rows : Rows) : Bool := rows.all (·.all AV.cell)
def disj (a b : List Id) : Bool := a.all fun x => !b.contains x
def nodupB : List Id → Bool
  | [] => true
  | x :: l => !l.contains x && nodupB l
mutual
def mine : AV → Bool
  | .val _ | .junk | .snil | .nn | .om _ => true
  | .own rows _ => mineR rows
  | .ownp cells => mineL cells
  | .agg cells => mineL cells
  | .tup vs => mineL vs
  | _ => false
def mineL : List AV → Bool
  | [] => true
  | c :: cs => mine c && mineL cs
def mineR : List (List AV) → Bool
  | [] => true
  | r :: rs => mineL r && mineR rs
end
mutual
def fz : AV → AV
  | .own rows len => .sl ((fzR rows).take len)
  | .ownp cells => .vp (fzL cells)
  | .om rows => .im rows
  | .agg cells => .agg (fzL cells)
  | .tup vs => .tup (fzL vs)
  | x => x
def fzL : List AV → List AV
  | [] => []
  | c :: cs => fz c :: fzL cs
def fzR : List (List AV) → List (List AV)
  | [] => []
  | r :: rs => fzL r :: fzR rs
end
def inFrz (C : Cx) (f : FuncId) (d : Option Nat) : Bool := match d with | some d => (C.frz f).contains d | none => false
def callC (C : Cx) (f : FuncId) (call : FuncId → List AV → Option (AV × List AV)) (S : St) (o : Oper) (fv : AV) (args : List AV) : Option Eff :=
  match fv with
  | .fn (.func k) first caps =>
    match bwL S.h (first ++ args ++ caps), o.dst with
    | some (as, seen), some d =>
      match call k as with
      | some (r, []) =>
        if !seen.isEmpty && !mine r then none else
        if fresh S.h (imp [d] (if inFrz C f o.dst then fz r else r)).2 then some (put o (imp [d] (if inFrz C f o.dst then fz r else r)).1 seen (imp [d] (if inFrz C f o.dst then fz r else r)).2) else none
      | _ => none
    | _, _ => none
  | _ => none
def takes (C : Cx) : Operand → Bool
  | .func k => !(C.modes k).isEmpty
  | _ => false
def takeL (L : Id → Option (Option Rows)) : List Nat → List AV → Option (List AV × List Id × List Id × List Id)
  | _, [] => some ([], [], [], [])
  | ms, a :: l => (takeL L ms.tail l).bind fun y =>
    match ms.headD 0 with
    | 1 => (pk L 9 a).map fun x => (x.1 :: y.1, y.2.1, x.2 ++ y.2.2.1, y.2.2.2)
    | 2 => (pk L 9 a).map fun x => (fz x.1 :: y.1, y.2.1, y.2.2.1, x.2 ++ y.2.2.2)
    | _ => (bw L 9 a).map fun x => (x.1 :: y.1, x.2 ++ y.2.1, y.2.2.1, y.2.2.2)
def relay1 (L : Id → Option (Option Rows)) : AV → AV → Option (List (Id × Option Rows))
  | .mp id 0 0, .ownp cs => match L id with
    | some (some [old]) => if cs.length = old.length then some [(id, some [cs])] else none
    | _ => none
  | .rs id 0 n, .own rows len => match L id with
    | some (some (o1 :: os)) => if len = n ∧ rows.length = n ∧ n = (o1 :: os).length ∧ rows.all (·.length == o1.length) then some [(id, some rows)] else none
    | some (some []) => if len = 0 ∧ rows.length = 0 ∧ n = 0 then some [(id, some [])] else none
    | _ => none
  | .mr id, .om rows => match L id with
    | some (some _) => some [(id, some rows)]
    | _ => none
  | .rs _ _ _, _ => none
  | .mp _ _ _, _ => none
  | .mr _, _ => none
  | .agg _, _ => none
  | _, _ => some []
def relayC (L : Id → Option (Option Rows)) : List AV → List AV → Option (List (Id × Option Rows))
  | [], [] => some []
  | a :: as, b :: bs => match relay1 L a b, relayC L as bs with
    | some x, some y => some (x ++ y)
    | _, _ => none
  | _, _ => none
def relay (L : Id → Option (Option Rows)) : AV → AV → Option (List (Id × Option Rows))
  | .agg as, .agg bs => relayC L as bs
  | a, b => relay1 L a b
def relayL (L : Id → Option (Option Rows)) (args : List AV) : List Nat → List AV → Option (List (Id × Option Rows))
  | [], [] => some []
  | j :: l, b :: bs => match args[j]?, relayL L args l bs with
    | some a, some y => match relay L a b with
      | some x => some (x ++ y)
      | none => none
    | _, _ => none
  | _, _ => none
def callT (C : Cx) (f : FuncId) (call : FuncId → List AV → Option (AV × List AV)) (S : St) (o : Oper) (k : FuncId) (args : List AV) : Option Eff :=
  match takeL S.h (C.modes k) args, o.dst with
  | some (as, seen, tk, fzn), some d =>
    match call k as with
    | some (r, outs) =>
      match relayL S.h args (C.lend k) outs with
      | some back =>
        if nodupB (tk ++ fzn) && disj seen (tk ++ fzn) && (seen.isEmpty || mine r && outs.all mine) && nodupB (back.map (·.1)) && (back.all fun x => tk.contains x.1) &&
          fresh S.h (imp [d] (if inFrz C f o.dst then fz r else r)).2 then
          some (put o (imp [d] (if inFrz C f o.dst then fz r else r)).1 seen ((imp [d] (if inFrz C f o.dst then fz r else r)).2 ++ (back ++ (tk ++ fzn).map fun i => (i, none))))
        else none
      | none => none
    | none => none
  | _, _ => none
def zeroFits (i : TypeInfo) : Bool := match i.zero with | some z => z.cells.size == i.size | none => false
def appTail (S : St) (o : Oper) (d m : Nat) (x : AV) (xs ys : Rows) (i1 i2 : List Id) : Option Eff :=
  match x with
  | .rs id off _ => match S.h id with
    | some (some rows) => if rows.all (·.length == m) && decide (off = 0) && (!(xs ++ ys).isEmpty || rows.isEmpty) then some (put o (.rs [d] 0 (xs.length + ys.length)) (i1 ++ i2) [(id, none), ([d], some (xs ++ ys))]) else none
    | _ => none
  | .snil => some (put o (.rs [d] 0 (xs.length + ys.length)) (i1 ++ i2) [([d], some (xs ++ ys))])
  | _ => none
def appendC (C : Cx) (S : St) (o : Oper) (t : TypeId) (x y : AV) : Option Eff :=
  match C.P.underlying t, o.dst with
  | some (.slice e), some d =>
    match C.P.info? e, rowsOf S.h x, rowsOf S.h y with
    | some i, some (xs, i1), some (ys, i2) =>
      if ys.all (·.length == i.size) && decide (0 < i.size) && decide (i.bytes ≤ 4096) && zeroFits i && decide (xs.length + ys.length ≤ maxRows) && rowCell ys && (S.h [d]).isNone then appTail S o d i.size x xs ys i1 i2 else none
    | _, _, _ => none
  | _, _ => none
def appendZ (C : Cx) (S : St) (o : Oper) (t : TypeId) (x y : AV) : Option Eff :=
  match C.P.underlying t, o.dst, intOfV y with
  | some (.slice e), some d, some n =>
    match C.P.info? e, zeroM C e, rowsOf S.h x with
    | some i, some z, some (xs, i1) =>
      if decide (0 ≤ n ∧ n ≤ 4294967296) && decide (z.length = i.size) && decide (0 < i.size) && decide (i.bytes ≤ 4096) && zeroFits i && decide (xs.length + n.toNat ≤ maxRows) && z.all AV.cell && (S.h [d]).isNone then appTail S o d i.size x xs (List.replicate n.toNat z) i1 [] else none
    | _, _, _ => none
  | _, _, _ => none
def lenS : AV → Option Nat
  | .sl rows => some rows.length
  | .rs _ _ len => some len
  | .snil => some 0
  | _ => none
def lenC : TypeDesc → AV → Option Nat
  | .string, .val (.string s) => some s.size
  | .slice _, x => lenS x
  | _, _ => none
def ret (o : Oper) (v : AV) : Option Eff := some (put o v [] [])
def retV (o : Oper) : Option Value → Option Eff
  | some v => if isSc v then ret o (.val v) else none
  | none => none
def evPick (o : Oper) (c a b : AV) : Option Eff :=
  match c with
  | .val (.bool h) =>
    match a, b with
    | .val (.bool x), .val (.bool y) => ret o (.val (.bool (if h then x else y)))
    | va, vb => ret o (if h then va else vb)
  | _ => none
def zslL (l : List Nat) : Nat → List AV → List AV
  | _, [] => []
  | j, c :: cs => (match c with | .own [] 0 => if l.contains j then .sl [] else c | .snil => if l.contains j then .sl [] else c | c => c) :: zslL l (j + 1) cs
def zslC (l : List Nat) (cs : List AV) : List AV := match l with
  | [] => cs
  | l => zslL l 0 cs
def zslD (C : Cx) (f : FuncId) (o : Oper) (cs : List AV) : List AV := match o.dst with
  | some d => zslC (C.zsl f d) cs
  | none => cs
def boolOf : AV → Bool
  | .val (.bool h) => h
  | _ => false
def evAlloc (C : Cx) (f : FuncId) (S : St) (o : Oper) (t : TypeId) : Option Eff :=
  match zeroM C t, o.dst with
  | some cs, some d => if (S.h [d]).isNone then some (put o (.mp [d] 0 0) [] [([d], some [zslC (C.zsl f d) cs])]) else none
  | _, _ => none
def evBox (C : Cx) (f : FuncId) (S : St) (o : Oper) (t : TypeId) (x : AV) : Option Eff :=
  match isAggC C t, o.dst with
  | some b, some d =>
    match cellsOfV b x with
    | some cs => if inFrz C f o.dst && immL (nzL cs) then ret o (.vp (nzL cs)) else if (S.h [d]).isNone then some (put o (.mp [d] 0 0) [] [([d], some [cs])]) else none
    | none => none
  | _, _ => none
def evBuild (C : Cx) (f : FuncId) (o : Oper) (t : TypeId) (parts : List (Nat × AV)) : Option Eff :=
  match zeroC C t, placesC C t with
  | some z, some pl => match fillC pl (zslD C f o z) parts with
    | some cs => ret o (.agg cs)
    | none => none
  | _, _ => none
def evBuildSlice0 (C : Cx) (f : FuncId) (S : St) (o : Oper) (t : TypeId) (len : Nat) (parts : List (Nat × AV)) : Option Eff :=
  match C.P.underlying t, o.dst with
  | some (.slice e), some d =>
    match zeroC C e, isAggC C e, sizeC C e with
    | some z, some b, some n =>
      if decide (0 < n) && decide (n = z.length) && decide (len * n ≤ 1000) then
        match fillRows n b (List.replicate len z) parts with
        | some rows => if inFrz C f o.dst && immR (rows.map nzL) then ret o (.sl (rows.map nzL)) else if (S.h [d]).isNone then some (put o (.rs [d] 0 len) [] [([d], some rows)]) else none
        | none => none
      else none
    | _, _, _ => none
  | _, _ => none
def buildRows (C : Cx) (t : TypeId) (len : Nat) (parts : List (Nat × AV)) : Option Rows :=
  match C.P.underlying t with
  | some (.slice e) => match zeroC C e, isAggC C e, sizeC C e with
    | some z, some b, some n => if decide (0 < n) && decide (n = z.length) && decide (len * n ≤ 1000) then fillRows n b (List.replicate len z) parts else none
    | _, _, _ => none
  | _ => none
def buildOpen (C : Cx) (f : FuncId) (o : Oper) (t : TypeId) (len : Nat) (parts : List (Nat × AV)) : Bool :=
  inFrz C f o.dst && (match buildRows C t len parts with | some rows => !immR (rows.map nzL) | none => false)
def evBuildF (C : Cx) (S : St) (o : Oper) (t : TypeId) (len : Nat) (parts : List (Nat × AV)) : Option Eff :=
  match buildRows C t len parts, o.dst with
  | some rows, some _ => match pkR (pk S.h 8) rows with
    | some (rows', ids) => if nodupB ids then some (put o (.sl (fzR rows')) ids (ids.map fun i => (i, none))) else none
    | none => none
  | _, _ => none
def evBuildSlice (C : Cx) (f : FuncId) (S : St) (o : Oper) (t : TypeId) (len : Nat) (parts : List (Nat × AV)) : Option Eff :=
  if buildOpen C f o t len parts then evBuildF C S o t len parts else evBuildSlice0 C f S o t len parts
def dstP (o : Oper) : Id := match o.dst with | some d => [d] | none => []
def evLoad (C : Cx) (S : St) (o : Oper) (t : TypeId) (a : AV) : Option Eff :=
  match isAggC C t, sizeC C t with
  | some b, some n =>
    match a with
    | .vp cells => if n ≤ cells.length then (mkV b (cells.take n)).map fun v => put o v [] [] else none
    | .mp id row off =>
      match S.h id with
      | some (some rows) =>
        (rows[row]?).bind fun r =>
          if off + n ≤ r.length then
            if (unpackC (dstP o) 0 ((r.drop off).take n)).2.isEmpty then (mkV b (unpackC (dstP o) 0 ((r.drop off).take n)).1).map fun v => put o v [id] []
            else if fresh S.h (unpackC (dstP o) 0 ((r.drop off).take n)).2 then (mkV b (unpackC (dstP o) 0 ((r.drop off).take n)).1).map fun v => put o v [id] ((id, some (rows.set row (r.take off ++ (unpackC (dstP o) 0 ((r.drop off).take n)).1 ++ r.drop (off + n)))) :: (unpackC (dstP o) 0 ((r.drop off).take n)).2) else none
          else none
      | _ => none
    | _ => none
  | _, _ => none
def frzStore (C : Cx) (f : FuncId) (a : Operand) : Option Nat :=
  match a with
  | .tmp ta => if (C.frz f).contains ta then some ta else none
  | _ => none
def evStore (C : Cx) (f : FuncId) (S : St) (g : Bool) (o : Oper) (t : TypeId) (ao : Operand) (a x : AV) : Option Eff :=
  match isAggC C t, sizeC C t with
  | some b, some n =>
    match a, cellsOfV b x with
    | .mp id row off, some cs =>
      if cs.length ≠ n then none else
      match S.h id with
      | some (some rows) =>
        (rows[row]?).bind fun r =>
          if off + n ≤ r.length then
            match frzStore C f ao with
            | some ta =>
              if decide (off = 0) && decide (n = r.length) && decide (rows.length = 1) && decide (row = 0) && immL (nzL cs) && g && o.dst.isNone then
                some { sw := [(ta, .vp (nzL cs))], rd := [id], wr := [(id, none)] }
              else none
            | none => if o.dst.isNone then some (put o .junk [id] [(id, some (rows.set row (r.take off ++ cs ++ r.drop (off + n))))]) else none
          else none
      | _ => none
    | _, _ => none
  | _, _ => none
def evNil (o : Oper) : AV → Option Eff
  | .vp cs => ret o (.vp cs)
  | .mp id row off => ret o (.mp id row off)
  | .fn (.func k) a b => ret o (.fn (.func k) a b)
  | _ => none
def binV (P : Program) (op : BinOp) (t : TypeId) (x y : Operand) (a b : Value) : Option Value := pureRun P (do eqGuard op t x y a b; binOp op t a b)
def unV (P : Program) (op : UnOp) (a : Value) : Option Value := pureRun P (Op.unary op a)
def convV (P : Program) (src dst : TypeId) (a : Value) : Option Value := pureRun P (convert src dst a)
def maxV (P : Program) (ts : Array TypeId) (t : TypeId) (vs : List Value) : Option Value := pureRun P (Builtin.max_ ts t ⟨vs⟩)
def minV (P : Program) (ts : Array TypeId) (t : TypeId) (vs : List Value) : Option Value := pureRun P (Builtin.min_ ts t ⟨vs⟩)
def nilCmp (op : BinOp) (a b : AV) : Option Bool := match op, a, b with
  | .eql, .nn, .val .nilIface => some false
  | .eql, .val .nilIface, .nn => some false
  | .neq, .nn, .val .nilIface => some true
  | .neq, .val .nilIface, .nn => some true
  | _, _, _ => none
def evBin (C : Cx) (o : Oper) (op : BinOp) (t : TypeId) (x y : Operand) (a b : AV) : Option Eff :=
  match toVal a, toVal b with
  | some a, some b => retV o (binV C.P op t x y a b)
  | _, _ => match C.P.underlying t, nilCmp op a b with
    | some (.interface _), some r => ret o (.val (.bool r))
    | _, _ => none
def evIface (C : Cx) (o : Oper) (t : TypeId) (x : AV) : Option Eff :=
  match C.P.underlying t with
  | some (.interface _) => none
  | some _ => match x with
    | .val v => if isSc (.iface t v) then ret o (.val (.iface t v)) else ret o .nn
    | _ => ret o .nn
  | none => none
def evUn (C : Cx) (o : Oper) (op : UnOp) : AV → Option Eff
  | .val a => retV o (unV C.P op a)
  | _ => none
def evConv0 (C : Cx) (o : Oper) (src dst : TypeId) : AV → Option Eff
  | .val a => retV o (convV C.P src dst a)
  | _ => none
def bytesTo (C : Cx) (src dst : TypeId) : Bool := match C.P.underlying src, C.P.underlying dst with
  | some _, some (.slice e) => match C.P.underlying e with
    | some (.int .u8) => true
    | _ => false
  | _, _ => false
def byteRows (s : ByteArray) : Rows := s.data.toList.map fun b => [.val (.int .u8 b.toNat)]
def evBytes (o : Oper) : AV → Option Eff
  | .val (.string s) => ret o (.sl (byteRows s))
  | _ => none
def evConv (C : Cx) (o : Oper) (src dst : TypeId) (x : AV) : Option Eff := if bytesTo C src dst then evBytes o x else evConv0 C o src dst x
def evMake (C : Cx) (S : St) (o : Oper) (t : TypeId) (l c : AV) : Option Eff :=
  match C.P.underlying t, o.dst, intOfV l, intOfV c with
  | some (.slice e), some d, some l, some c =>
    match zeroM C e, C.P.info? e with
    | some z, some i =>
      if decide (0 < z.length) && decide (i.size = z.length) && decide (i.bytes ≤ 4096) && decide (0 ≤ l ∧ l ≤ c ∧ c ≤ 4294967296 ∧ (0 < l ∨ c = 0)) && (S.h [d]).isNone then
        some (put o (.rs [d] 0 l.toNat) [] [([d], some (List.replicate l.toNat z))])
      else none
    | _, _ => none
  | _, _, _, _ => none
def bounds (lo hi : Option (Option Int)) (len : Nat) : Option (Nat × Nat) :=
  match (match lo with | none => some 0 | some l => l), (match hi with | none => some (len : Int) | some h => h) with
  | some l, some h => if 0 ≤ l ∧ l ≤ h ∧ h ≤ len then some (l.toNat, h.toNat) else none
  | _, _ => none
def evSlice (C : Cx) (S : St) (o : Oper) (t : TypeId) (x : AV) (lo hi : Option (Option Int)) : Option Eff :=
  match C.P.underlying t with
  | some (.slice e) =>
    match x, sizeC C e with
    | .sl rows, some sz => (bounds lo hi rows.length).bind fun b => if 0 < sz ∧ rows.all (·.length == sz) then ret o (.sl ((rows.take b.2).drop b.1)) else none
    | .rs id off len, some sz =>
      match S.h id with
      | some (some rows) => (bounds lo hi len).bind fun b => if off + len ≤ rows.length ∧ 0 < sz ∧ rows.all (·.length == sz) then some (put o (.rs id (off + b.1) (b.2 - b.1)) [id] []) else none
      | _ => none
    | _, _ => none
  | some .string =>
    match x with
    | .val (.string s) => (bounds lo hi s.size).bind fun b => ret o (.val (.string (s.extract b.1 b.2)))
    | _ => none
  | _ => none
def fieldC (C : Cx) (s : TypeId) (i : Nat) : Option (Nat × Nat × Bool) :=
  match C.P.underlying s with
  | some (.struct fields) =>
    match fields[i]? with
    | some fl => match sizeC C fl.type, isAggC C fl.type with
      | some n, some b => some (fl.offset, n, b)
      | _, _ => none
    | none => none
  | _ => none
def evFieldAddr (C : Cx) (o : Oper) (s : TypeId) (i : Nat) (x : AV) : Option Eff :=
  match fieldC C s i with
  | some (off, n, _) => match x with
    | .vp cells => if 0 < n ∧ off ≤ cells.length then ret o (.vp (cells.drop off)) else none
    | .mp id row off' => if 0 < n then ret o (.mp id row (off' + off)) else none
    | _ => none
  | none => none
def evField (C : Cx) (o : Oper) (s : TypeId) (i : Nat) (x : AV) : Option Eff :=
  match fieldC C s i with
  | some (off, n, b) => match x with
    | .agg cells => if off + n ≤ cells.length then (mkV b ((cells.drop off).take n)).map fun v => put o v [] [] else none
    | _ => none
  | none => none
def evIndexAddr (C : Cx) (S : St) (o : Oper) (t : TypeId) (x : AV) (i : Option Int) : Option Eff :=
  match C.P.underlying t, i with
  | some (.slice e), some i =>
    match sizeC C e, x with
    | some n, .sl rows => if 0 ≤ i then (rows[i.toNat]?).bind fun r => if r.length = n ∧ 0 < n then ret o (.vp r) else none else none
    | some n, .rs id off len =>
      if 0 ≤ i ∧ i < len then match S.h id with
        | some (some rows) => (rows[off + i.toNat]?).bind fun r => if r.length = n then some (put o (.mp id (off + i.toNat) 0) [id] []) else none
        | _ => none
      else none
    | _, _ => none
  | some (.array len e), some i =>
    match sizeC C e, x with
    | some n, .vp cells => if 0 ≤ i ∧ i < len ∧ i.toNat * n ≤ cells.length then ret o (.vp (cells.drop (i.toNat * n))) else none
    | some n, .mp id row off => if 0 ≤ i ∧ i < len then ret o (.mp id row (off + i.toNat * n)) else none
    | _, _ => none
  | _, _ => none
def evIndex (C : Cx) (o : Oper) (t : TypeId) (x : AV) (i : Option Int) : Option Eff :=
  match C.P.underlying t, i, x with
  | some .string, some i, .val (.string s) => if 0 ≤ i then (s[i.toNat]?).bind fun b => ret o (.val (.int .u8 b.toNat)) else none
  | some (.array len e), some i, .agg cells =>
    match sizeC C e, isAggC C e with
    | some n, some b => if 0 ≤ i ∧ i < len ∧ (i.toNat + 1) * n ≤ cells.length then (mkV b ((cells.drop (i.toNat * n)).take n)).map fun v => put o v [] [] else none
    | _, _ => none
  | _, _, _ => none
def evExtract (o : Oper) (x : AV) (i : Nat) : Option Eff :=
  match x with
  | .tup vs => match vs[i]? with
    | some v => ret o v
    | none => none
  | _ => none
def evLen (C : Cx) (o : Oper) (ts : Array TypeId) (xs : List AV) : Option Eff :=
  match xs with
  | [x] => match (ts[0]?).bind C.P.underlying with
    | some d => match lenC d x with
      | some n => ret o (goI n)
      | none => none
    | none => none
  | _ => none
def frzE (C : Cx) (f : FuncId) (o : Oper) (e : Eff) : Option Eff :=
  if inFrz C f o.dst then
    match o.dst, e.wr with
    | some d, [(id, none), (d', some rows)] => if d' = [d] ∧ immR rows = true then some (put o (.sl rows) e.rd [(id, none), ([d], none)]) else none
    | some d, [(d', some rows)] => if d' = [d] ∧ immR rows = true then some (put o (.sl rows) e.rd [([d], none)]) else none
    | _, _ => none
  else some e
def evAppend (C : Cx) (S : St) (o : Oper) (ts : Array TypeId) (xs : List AV) : Option Eff :=
  match xs, ts[0]?, (ts[1]?).bind C.P.underlying with
  | [x, y], some t, some (.slice _) => appendC C S o t x y
  | [x, y], some t, some (.int _) => appendZ C S o t x y
  | _, _, _ => none
def pathOf (C : Cx) : Operand → Option (Nat × Nat)
  | .func k => C.path k
  | _ => none
def evLast (S : St) (o : Oper) (p : Nat × Nat) : List AV → Option Eff
  | [.mp id row off] =>
    match S.h id with
    | some (some rows) => match (rows[row]?).bind fun r => r[off + p.1]? with
      | some (.rs id2 off2 len) => match S.h id2 with
        | some (some rows2) => if decide (0 < len) && decide (len ≤ maxRows) && decide (off2 + len ≤ rows2.length) && rows2.all (·.length == p.2) then some (put o (.mp id2 (off2 + (len - 1)) 0) [id, id2] []) else none
        | _ => none
      | _ => none
    | _ => none
  | [.vp cells] =>
    match cells[p.1]? with
    | some (.sl rows) => if decide (rows.length ≤ maxRows) && rows.all (·.length == p.2) then (rows[rows.length - 1]?).map fun r => put o (.vp r) [] [] else none
    | _ => none
  | _ => none
def oneVal : List AV → Bool
  | [.val _] => true
  | _ => false
def evCopy (C : Cx) (S : St) (o : Oper) (ts : Array TypeId) (xs : List AV) : Option Eff :=
  match xs, (ts[0]?).bind C.P.underlying with
  | [x, y], some (.slice e) =>
    match sizeC C e, x, rowsOf S.h y with
    | some 1, .rs id off len, some (ys, i2) =>
      match S.h id with
      | some (some rows) =>
        if ys.all oneVal && rows.all (·.length == 1) && decide (off + len ≤ rows.length) then
          some (put o (goI ((min ys.length len : Nat) : Int)) (id :: i2) [(id, some (rows.take off ++ ys.take (min ys.length len) ++ rows.drop (off + min ys.length len)))])
        else none
      | _ => none
    | _, _, _ => none
  | _, _ => none
def simpleKey : TypeDesc → Bool
  | .int _ | .string | .bool => true
  | _ => false
def mapRows (L : Id → Option (Option Rows)) : AV → Option (Rows × List Id)
  | .mr id => match L id with
    | some (some rows) => some (rows, [id])
    | _ => none
  | .im rows => some (rows, [])
  | .val (.map none) => some ([], [])
  | _ => none
def findM (kind : TypeDesc) (k : Value) : Rows → Option (Option Value)
  | [] => some none
  | [.val k', .val v] :: rs => match Instr.sameNow kind k k' with
    | some true => some (some v)
    | some false => findM kind k rs
    | none => none
  | _ => none
def putM (kind : TypeDesc) (k v : Value) : Rows → Option Rows
  | [] => some [[.val k, .val v]]
  | [.val k', .val v'] :: rs => match Instr.sameNow kind k k' with
    | some true => some ([.val k, .val v] :: rs)
    | some false => (putM kind k v rs).map fun y => [.val k', .val v'] :: y
    | none => none
  | _ => none
def scZero (C : Cx) (t : TypeId) : Option Value := match (C.P.info? t).bind (·.zero) with
  | some v => if isSc v then some v else none
  | none => none
def mapT (C : Cx) (t : TypeId) : Option (TypeDesc × Value) := match C.P.underlying t with
  | some (.map kt et) => match C.P.underlying kt, scZero C et with
    | some kind, some z => if simpleKey kind then some (kind, z) else none
    | _, _ => none
  | _ => none
def evMakeMap (C : Cx) (S : St) (o : Oper) (t : TypeId) (r : Option Operand) : Option Eff :=
  match mapT C t, o.dst with
  | some _, some d => if r.isNone && (S.h [d]).isNone then some (put o (.mr [d]) [] [([d], some [])]) else none
  | _, _ => none
def evLookup (C : Cx) (S : St) (o : Oper) (t : TypeId) (x k : AV) (ok : Bool) : Option Eff :=
  match mapT C t, mapRows S.h x, k with
  | some (kind, z), some (rows, ids), .val kv =>
    (findM kind kv rows).map fun r => put o (if ok then .tup [.val (r.getD z), .val (.bool r.isSome)] else .val (r.getD z)) ids []
  | _, _, _ => none
def evMapUpdate (C : Cx) (S : St) (o : Oper) (t : TypeId) (x k v : AV) : Option Eff :=
  match mapT C t, x, k, v with
  | some (kind, _), .mr id, .val kv, .val vv => match S.h id with
    | some (some rows) => if isSc kv && isSc vv && o.dst.isNone then (putM kind kv vv rows).map fun rows' => put o .junk [id] [(id, some rows')] else none
    | _ => none
  | _, _, _, _ => none
def evOp (C : Cx) (f : FuncId) (call : FuncId → List AV → Option (AV × List AV)) (S : St) (g : Bool) (o : Oper) : Option Eff :=
  match o.op with
  | .move x => ret o (un g (S.get C x))
  | .assign x => ret o (un g (S.get C x))
  | .pick c a b => evPick o (un g (S.get C c)) (un (g && boolOf (un g (S.get C c))) (S.get C a)) (un (g && !boolOf (un g (S.get C c))) (S.get C b))
  | .alloc t => evAlloc C f S o t
  | .box t x => evBox C f S o t (un g (S.get C x))
  | .build t parts => evBuild C f o t (parts.toList.map fun p => (p.1, un g (S.get C p.2)))
  | .buildSlice t len parts => evBuildSlice C f S o t len (parts.toList.map fun p => (p.1, un g (S.get C p.2)))
  | .load t a => evLoad C S o t (un g (S.get C a))
  | .store t a x => evStore C f S g o t a (un g (S.get C a)) (un g (S.get C x))
  | .nilCheck x => evNil o (un g (S.get C x))
  | .binOp op t x y _ => evBin C o op t x y (un g (S.get C x)) (un g (S.get C y))
  | .unOp op _ x => evUn C o op (un g (S.get C x))
  | .convert src dst x => evConv C o src dst (un g (S.get C x))
  | .makeInterface t x => evIface C o t (un g (S.get C x))
  | .makeFunc fn first caps => ret o (.fn fn (first.toList.map fun x => un g (S.get C x)) (caps.toList.map fun x => un g (S.get C x)))
  | .makeSlice t l c => evMake C S o t (un g (S.get C l)) (un g (S.get C c))
  | .slice t x lo hi mx => if mx.isSome then none else evSlice C S o t (un g (S.get C x)) (lo.map fun y => intOfV (un g (S.get C y))) (hi.map fun y => intOfV (un g (S.get C y)))
  | .fieldAddr s x i => evFieldAddr C o s i (un g (S.get C x))
  | .field s x i => evField C o s i (un g (S.get C x))
  | .indexAddr t x i => evIndexAddr C S o t (un g (S.get C x)) (intOfV (un g (S.get C i)))
  | .index t x i => evIndex C o t (un g (S.get C x)) (intOfV (un g (S.get C i)))
  | .extract x i => evExtract o (un g (S.get C x)) i
  | .makeMap t r => evMakeMap C S o t r
  | .lookup t x k ok => evLookup C S o t (un g (S.get C x)) (un g (S.get C k)) ok
  | .mapUpdate t x k v => evMapUpdate C S o t (un g (S.get C x)) (un g (S.get C k)) (un g (S.get C v))
  | .insert t x k v => evMapUpdate C S o t (un g (S.get C x)) (un g (S.get C k)) (un g (S.get C v))
  | .call c =>
    match c.callee with
    | .builtin .len => evLen C o c.argTypes (c.args.toList.map fun x => un g (S.get C x))
    | .builtin .append => (evAppend C S o c.argTypes (c.args.toList.map fun x => un g (S.get C x))).bind (frzE C f o)
    | .builtin .copy => evCopy C S o c.argTypes (c.args.toList.map fun x => un g (S.get C x))
    | .builtin .max => match toVals (c.args.toList.map fun x => un g (S.get C x)) with
      | some vs => retV o (maxV C.P c.argTypes o.type vs)
      | none => none
    | .builtin .min => match toVals (c.args.toList.map fun x => un g (S.get C x)) with
      | some vs => retV o (minV C.P c.argTypes o.type vs)
      | none => none
    | .value fo => match pathOf C fo with | some p => evLast S o p (c.args.toList.map fun x => un g (S.get C x)) | none => if takes C fo then (match fo with | .func k => callT C f call S o k (c.args.toList.map fun x => un g (S.get C x)) | _ => none) else callC C f call S o (un g (S.get C fo)) (c.args.toList.map fun x => un g (S.get C x))
    | _ => none
  | _ => none
def guardC (S : St) (ops : Array Oper) (o : Oper) : Option Bool :=
  match o.guard with
  | none => some true
  | some (j, want) =>
    match (ops[j]?).bind (·.dst) with
    | some d => match S.t d with
      | .val (.bool b) => some (b == want)
      | .gv g (.val (.bool b)) => some (g && (b == want))
      | .gv false _ => some false
      | _ => none
    | none => none
def junkEff (o : Oper) : Eff := put o (.gv false .junk) [] []
def evG (C : Cx) (f : FuncId) (call : FuncId → List AV → Option (AV × List AV)) (S : St) (ops : Array Oper) (o : Oper) : Option Eff :=
  match guardC S ops o with
  | none => none
  | some g =>
    match o.guard with
    | none => evOp C f call S true o
    | some _ =>
      match evOp C f call S g o with
      | some e => if e.wr.isEmpty then some { e with sw := e.sw.map fun x => (x.1, .gv g x.2) } else if g then some e else some (junkEff o)
      | none => if g then none else some (junkEff o)
abbrev HKey := Nat × List Id × List Id
def hkey (i : Nat) (e : Eff) (l : List HKey) : List HKey := if e.rd.isEmpty && e.wr.isEmpty then l else (i, e.rd, e.wr.map (·.1)) :: l
def evOps (C : Cx) (f : FuncId) (call : FuncId → List AV → Option (AV × List AV)) (ops : Array Oper) : Nat → List Oper → St → Option (St × List HKey)
  | _, [], S => some (S, [])
  | i, o :: l, S =>
    (evG C f call S ops o).bind fun e =>
      if e.sw.all fun x => decide (x.1 < S.n) then (evOps C f call ops (i + 1) l (S.app e)).map fun x => (x.1, hkey i e x.2)
      else none
def slotsW (C : Cx) (f : FuncId) (o : Oper) : List Nat :=
  o.dst.toList ++ (match o.op with | .store _ a _ => (frzStore C f a).toList | _ => [])
def slotsOf (ops : Array Oper) (o : Oper) : List Nat :=
  (o.op.operands.toList.filterMap fun | .tmp t => some t | _ => none) ++ (match o.guard with | some (j, _) => (match (ops[j]?).bind (·.dst) with | some d => [d] | none => []) | none => [])
def apartS (C : Cx) (f : FuncId) (ops : Array Oper) (oi oj : Oper) : Bool :=
  ((slotsW C f oi).all fun x => !(slotsOf ops oj).contains x && !(slotsW C f oj).contains x) && ((slotsW C f oj).all fun y => !(slotsOf ops oi).contains y)
def mergeN (a s : List Nat) : List Nat := a.foldl (fun s x => if s.contains x then s else x :: s) s
def aheadOf (ops : Array Oper) : List (List Nat) :=
  ops.toList.foldl (init := []) fun acc o =>
    acc ++ [o.after.toList.foldl (init := []) fun s e => if Region.binds .any e then (if s.contains e.on then s else e.on :: mergeN (acc.getD e.on []) s) else s]
def slotsFree (C : Cx) (f : FuncId) (id : Nat) (ops : Array Oper) : Bool :=
  let b := aheadOf ops
  let l := ops.toList.zipIdx
  Region.noSelect ops && (l.all fun x => l.all fun y => if x.2 < y.2 then (b.getD y.2 []).contains x.2 || apartS C f ops x.1 y.1 else true) &&
  (l.all fun x => x.1.after.all fun e => !Region.binds .any e || decide (e.on < x.2)) && (C.ah f id).all fun p => (b.getD p.2 []).contains p.1
def disjH (a b : HKey) : Bool := (a.2.2.all fun x => !b.2.1.contains x && !b.2.2.contains x) && (b.2.2.all fun x => !a.2.1.contains x)
def heapFree (ah : List (Nat × Nat)) : List HKey → Bool
  | [] => true
  | x :: l => (l.all fun y => ah.contains (x.1, y.1) || disjH x y) && heapFree ah l
def evRegion (C : Cx) (f : FuncId) (call : FuncId → List AV → Option (AV × List AV)) (id : Nat) (ops : Array Oper) (draw : Bool) (S : St) : Option St :=
  (evOps C f call ops 0 ops.toList S).bind fun x => if draw then (if heapFree (C.ah f id) x.2 then some x.1 else none) else some x.1
def firstRegion : Code → Option Nat
  | .region id _ _ => some id
  | .seq a b => match firstRegion a with | some i => some i | none => firstRegion b
  | .cond _ a b => match firstRegion a with | some i => some i | none => firstRegion b
  | .block _ c => firstRegion c
  | .loop c => firstRegion c
  | .scope c => firstRegion c
  | _ => none
def packL (L : Id → Option (Option Rows)) (t : Nat → AV) : List Nat → Option (List AV × List Id)
  | [] => some ([], [])
  | s :: l => (pk L 9 (t s)).bind fun x => (packL L t l).map fun y => (x.1 :: y.1, x.2 ++ y.2)
def renorm (S : St) (slots : List Nat) : Option (List AV) :=
  match packL S.h S.t slots with
  | some (tvs, ids) => if nodupB ids then some tvs else none
  | none => none
def mkSt (n : Nat) : List Nat → List AV → St
  | s :: l, v :: vs =>
    let S := mkSt n l vs
    { n, t := upd S.t s (imp [s] v).1, h := updH S.h (imp [s] v).2 }
  | _, _ => { n, t := fun _ => .junk, h := fun _ => none }
def renI (l : List (Id × Id)) (i : Id) : Option Id := match l with
  | [] => none
  | (o, k) :: l => if o = i then some k else renI l i
def renAc (l : List (Id × Id)) : AV → Option AV
  | .rs i off len => (renI l i).map fun k => .rs k off len
  | .mp i row off => (renI l i).map fun k => .mp k row off
  | .mr i => (renI l i).map fun k => .mr k
  | .snil => some .snil
  | a => if flat a then some a else none
def renAl (l : List (Id × Id)) : List AV → Option (List AV)
  | [] => some []
  | a :: as => match renAc l a, renAl l as with
    | some b, some bs => some (b :: bs)
    | _, _ => none
def renAv (l : List (Id × Id)) : AV → AV
  | .agg cs => match renAl l cs with | some bs => .agg bs | none => .junk
  | .tup cs => match renAl l cs with | some bs => .tup bs | none => .junk
  | a => match renAc l a with | some b => b | none => .junk
def renRs (l : List (Id × Id)) : Rows → Option Rows
  | [] => some []
  | r :: rs => match renAl l r, renRs l rs with
    | some b, some bs => some (b :: bs)
    | _, _ => none
def renRows (l : List (Id × Id)) (rows : Rows) : Option Rows := if flatR rows then some rows else renRs l rows
def collV (L : Id → Option (Option Rows)) : Nat → Id → Nat → List (Id × Id) → List AV → List (Id × Id)
  | 0, _, _, acc, _ => acc
  | _, _, _, acc, [] => acc
  | n + 1, p, j, acc, a :: as =>
    collV L n p (j + 1) (match a with
      | .rs i _ _ => if (renI acc i).isSome then acc else acc ++ [(i, j :: p)]
      | .mr i => if (renI acc i).isSome then acc else acc ++ [(i, j :: p)]
      | .mp i _ _ => if (renI acc i).isSome then acc else match L i with
        | some (some [cs]) => collV L n (j :: p) 0 (acc ++ [(i, j :: p)]) cs
        | _ => acc ++ [(i, j :: p)]
      | .agg cs => collV L n (j :: p) 0 acc cs
      | _ => acc) as
def heapN (L : Id → Option (Option Rows)) (l : List (Id × Id)) : List (Id × Id) → Option (List (Id × Rows))
  | [] => some []
  | (o, k) :: r => match L o, heapN L l r with
    | some (some rows), some y => (renRows l rows).map fun rows' => (k, rows') :: y
    | _, _ => none
def mkT (l : List (Id × Id)) (t : Nat → AV) : List Nat → Nat → AV
  | [] => fun _ => .junk
  | s :: r => upd (mkT l t r) s (renAv l (t s))
def mkH : List (Id × Rows) → Id → Option (Option Rows)
  | [] => fun _ => none
  | (k, rows) :: r => upd (mkH r) k (some (some rows))
def names (S : St) (slots : List Nat) : List (Id × Id) := slots.foldl (fun acc s => collV S.h 40 [s] 0 acc [S.t s]) []
def clC (L : Id → Option (Option Rows)) (keep : Id → Bool) : AV → Option (AV × List Id)
  | .rs i off len => if keep i then some (.rs i off len, []) else pk L 8 (.rs i off len)
  | .mp i row off => if keep i then some (.mp i row off, []) else pk L 8 (.mp i row off)
  | .mr i => if keep i then some (.mr i, []) else pk L 8 (.mr i)
  | .snil => some (.own [] 0, [])
  | a => if flat a then some (a, []) else none
def clRow (L : Id → Option (Option Rows)) (keep : Id → Bool) (r : List AV) : Option (List AV × List Id) := if flatL r then some (r, []) else foldC (clC L keep) r
def close1 (keep : Id → Bool) (S : St) (o : Id) : Option St :=
  match S.h o with
  | some (some rows) =>
    if flatR rows then some S else
    match foldR (clRow S.h keep) rows with
    | some (rows', ids) => if nodupB ids && !ids.contains o then some ⟨S.n, S.t, updH S.h ((o, some rows') :: ids.map fun i => (i, none))⟩ else none
    | none => none
  | _ => none
def closeL (keep : Id → Bool) : List Id → St → Option St
  | [], S => some S
  | o :: l, S => (close1 keep S o).bind (closeL keep l)
def nil1 (S : St) (s : Nat) : St := match S.t s, S.h [s, s] with
  | .snil, none => ⟨S.n, upd S.t s (.rs [s, s] 0 0), upd S.h [s, s] (some (some []))⟩
  | _, _ => S
def nilL : List Nat → St → St
  | [], S => S
  | s :: l, S => nilL l (nil1 S s)
def keepN (l : List (Id × Id)) (i : Id) : Bool := (renI l i).isSome
def normL (l : List (Id × Id)) (slots : List Nat) (S : St) : Option St :=
  if nodupB (l.map (·.1)) && nodupB (l.map (·.2)) then (heapN S.h l l).map fun hl => ⟨S.n, mkT l S.t slots, mkH hl⟩ else none
def normN (S : St) (slots : List Nat) (l : List (Id × Id)) : Option St := (closeL (keepN l) (l.map (·.1)) S).bind (normL l slots)
def norm (S : St) (slots : List Nat) : Option St := normN (nilL slots S) slots (names (nilL slots S) slots)
def cutC (o : Option (Bool × List Nat)) (S : St) : Option St := match o with
  | none => some S
  | some (true, l) => norm S l
  | some (false, l) => (renorm S l).map (mkSt S.n l)
def seqKey (C : Cx) (f : FuncId) (b : Code) : Option (Bool × List Nat) := match firstRegion b with | some i => C.cutS f i | none => none
abbrev LpT := (α : Type) → (α → Option (Exit × St)) → (St → Option α) → α → Option (Exit × St)
def evLoop {α : Type} (g : α → Option (Exit × St)) (rn : St → Option α) : Nat → α → Option (Exit × St)
  | 0, _ => none
  | n + 1, tvs => (g tvs).bind fun x => match x.1 with
    | .normal => (rn x.2).bind (evLoop g rn n)
    | _ => some x
def putPs (t : Nat → AV) : List (Nat × AV) → Nat → AV
  | [] => t
  | (p, v) :: l => putPs (upd t p v) l
def roundSt (S : St) (ps : List Nat) (y : List AV) : Option St := if ps.length = y.length ∧ (ps.all fun p => decide (p < S.n)) = true then some ⟨S.n, putPs S.t (ps.zip y), S.h⟩ else none
def evRange (g : St → Option (Exit × St)) (rn : St → Option St) (ps : List Nat) : List (List AV) → St → Option (Exit × St)
  | [], S => some (.normal, S)
  | y :: ys, S => (roundSt S ps y).bind fun S1 => (g S1).bind fun x => (rn x.2).bind fun S2 => match x.1 with
    | .normal => evRange g rn ps ys S2
    | .ret => some (.ret, S2)
    | .exit i => some (.exit i, S2)
    | _ => none
def rangeKey (assign body : Code) : Option Nat := match firstRegion assign with | some i => some i | none => firstRegion body
def rangeSlots (C : Cx) (f : FuncId) (assign body : Code) : List Nat := match rangeKey assign body with | some i => C.live f i | none => []
def rangeCut (C : Cx) (f : FuncId) (assign body : Code) : Option (Bool × List Nat) := some (match rangeKey assign body with | some i => C.shr f i | none => false, rangeSlots C f assign body)
def rangeOf (C : Cx) (x : AV) : Option (List (List AV)) := match x with
  | .fn (.func k) [] caps => if immL caps then (C.iter k).bind (· caps) else none
  | _ => none
def evCode (C : Cx) (f : FuncId) (call : FuncId → List AV → Option (AV × List AV)) (lp : LpT) : Code → St → Option (Exit × St)
  | .skip, S => some (.normal, S)
  | .label _, S => some (.normal, S)
  | .exit id, S => some (.exit id, S)
  | .ret, S => some (.ret, S)
  | .region id ops draw, S => ((evRegion C f call id ops draw S).bind (cutC (C.cutR f id))).map fun S' => (.normal, S')
  | .seq a b, S => (evCode C f call lp a S).bind fun x => match x.1 with
    | .normal => (cutC (seqKey C f b) x.2).bind (evCode C f call lp b)
    | _ => some x
  | .cond c a b, S => match un true (S.get C c) with
    | .val (.bool t) => if t then evCode C f call lp a S else evCode C f call lp b S
    | _ => none
  | .block id c, S => (evCode C f call lp c S).bind fun x => match (match x.1 with | .exit i => if i = id then .normal else .exit i | e => e : Exit) with
    | .normal => (cutC (C.cutB f id) x.2).map fun S' => (.normal, S')
    | e => some (e, x.2)
  | .loop c, S =>
    let slots := match firstRegion c with | some i => C.live f i | none => []
    if (match firstRegion c with | some i => C.shr f i | none => false) then
      (norm S slots).bind fun S1 => lp St (fun S' => evCode C f call lp c S') (fun S' => norm S' slots) S1
    else (renorm S slots).bind fun tvs => lp (List AV) (fun tvs => evCode C f call lp c (mkSt S.n slots tvs)) (fun S' => renorm S' slots) tvs
  | .rangeFunc g ps assign body, S => (rangeOf C (un true (S.get C g))).bind fun ys => (cutC (rangeCut C f assign body) S).bind
      (evRange (fun S1 => (evCode C f call lp assign S1).bind fun x => match x.1 with | .normal => evCode C f call lp body x.2 | _ => none) (cutC (rangeCut C f assign body)) ps.toList ys)
  | _, _ => none
def resC (C : Cx) (S : St) : ResultVar → Option (AV × List Id)
  | .tmp t => pk S.h 9 (un true (S.t t))
  | .cell a ty =>
    match isAggC C ty, sizeC C ty, un true (S.t a) with
    | some b, some n, .vp cells => if n ≤ cells.length then ((mkV b (cells.take n)).bind (pk S.h 9)) else none
    | some b, some n, .mp id row off =>
      match S.h id with
      | some (some rows) => match rows[row]? with
        | some r => if off + n ≤ r.length then ((mkV b ((r.drop off).take n)).bind (pk S.h 9)).map fun x => (x.1, id :: x.2) else none
        | none => none
      | _ => none
    | _, _, _ => none
def ressC (C : Cx) (S : St) : List ResultVar → Option (List AV × List Id)
  | [] => some ([], [])
  | r :: l => (resC C S r).bind fun x => (ressC C S l).map fun y => (x.1 :: y.1, x.2 ++ y.2)
def finish (C : Cx) (fn : Func) (lend : List Nat) (_args : List AV) (S : St) : Option (AV × List AV) :=
  match ressC C S fn.results.toList, packL S.h S.t lend with
  | some (rs, i1), some (outs, i2) => if nodupB (i1 ++ i2) then some (match rs with | [r] => r | _ => .tup rs, outs) else none
  | _, _ => none
def evBody (C : Cx) (call : FuncId → List AV → Option (AV × List AV)) (lp : LpT) (f : FuncId) (args : List AV) : Option (AV × List AV) :=
  match C.ext f with
  | some g => g args
  | none =>
    match C.P.funcs[f]? with
    | some fn =>
      match fn.body with
      | some c =>
        if args.length ≤ fn.ntmps then
          (evCode C f call lp c (mkSt fn.ntmps (List.range args.length) args)).bind fun x => match x.1 with
            | .normal => finish C fn (C.lend f) args x.2
            | .ret => finish C fn (C.lend f) args x.2
            | _ => none
        else none
      | none => none
    | none => none
def evFn (C : Cx) : Nat → FuncId → List AV → Option (AV × List AV)
  | 0, _, _ => none
  | n + 1, f, args => evBody C (evFn C n) (fun _ g rn => evLoop g rn n) f args
end Go.Ab
