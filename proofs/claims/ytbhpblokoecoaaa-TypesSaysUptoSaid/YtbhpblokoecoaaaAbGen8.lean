/-
  Functions of the program as functions on plain data (written by gen3.py).
-/
/-
  Functions of the program as functions on plain data (written by gen3.py).
-/
/-
  Functions of the program as functions on plain data (written by gen3.py).
-/
/-
  Functions of the program as functions on plain data (written by gen3.py).
-/
import Derived.Test.YtbhpblokoecoaaaAbGen4
namespace Go.Ab
open Go Go.Proofs
noncomputable def types_typer_statement_J1 (y1 : Bool) : Option Int :=
 if (!y1) then
 (some 8)
 else
 (some 0)
noncomputable def types_typer_statement_L1 (a0 : XTypes_typer) (a1 : Int) (x1 : XApi_Node) (y3 : Int) (y10 : Bool) (y11 : Int) : Option (Lp (Bool × Int) Bool) :=
 if (decide (y11 < (x1.Kids.length : Int))) then
 ((if y10 then
 ((types_typer_kid a0 a1 y11).bind fun x2 =>
 some (x2 == y3))
 else
 (some false)).bind fun p1 =>
 some (.next (p1, (w64 (y11 + 1)))))
 else
 (some (.out y10))
noncomputable def types_typer_statement_J3 (a0 : XTypes_typer) (a1 : Int) (x1 : XApi_Node) (y3 : Int) : Option Int :=
 (Loop (fun (s : (Bool × Int)) => types_typer_statement_L1 a0 a1 x1 y3 s.1 s.2) (true, 0)).bind fun v1 =>
 types_typer_statement_J1 v1
noncomputable def types_typer_statement_J5 (a0 : XTypes_typer) (a1 : Int) (x1 : XApi_Node) (y13 : Bool) : Option Int :=
 if y13 then
 ((types_typer_kid a0 a1 0).bind fun x11 =>
 types_typer_statement_J1 (x11 == 1))
 else
 (if (x1.Kind == 23) then
 ((if (if ((x1.Kids.length : Int) == 0) then (a0.fn.N == 0) else false) then
 (some true)
 else
 (if (if ((x1.Kids.length : Int) == 1) then (a0.fn.N != 0) else false) then
 ((types_typer_kid a0 a1 0).bind fun x12 =>
 some (x12 == a0.fn.N))
 else
 (some false))).bind fun p3 =>
 types_typer_statement_J1 p3)
 else
 (if (x1.Kind == 21) then
 (if (a0.leave == 0) then
 (some 11)
 else
 (types_typer_statement_J1 true))
 else
 (if (x1.Kind == 22) then
 (if (a0.loops == 0) then
 (some 11)
 else
 (types_typer_statement_J1 true))
 else
 (types_typer_statement_J1 true))))
noncomputable def types_typer_statement_J4 (a0 : XTypes_typer) (a1 : Int) (x1 : XApi_Node) (y12 : Bool) : Option Int :=
 if y12 then
 ((types_typer_kid a0 a1 0).bind fun x3 =>
 (types_scalar x3).bind fun x4 =>
 types_typer_statement_J1 x4)
 else
 (if (x1.Kind == 16) then
 ((types_typer_kid a0 a1 1).bind fun x5 =>
 (types_scalar x5).bind fun x6 =>
 types_typer_statement_J1 x6)
 else
 (if (x1.Kind == 17) then
 (((types_typer_kid a0 a1 1).bind fun x7 =>
 (types_scalar x7).bind fun x8 =>
 if x8 then
 (some true)
 else
 ((idx x1.Kids 1).bind fun x9 =>
 (idx a0.t.Nodes x9).bind fun x10 =>
 some (x10.Kind == 24))).bind fun p2 =>
 types_typer_statement_J1 p2)
 else
 (if (x1.Kind == 18) then
 (types_typer_statement_J5 a0 a1 x1 (x1.Kind == 18))
 else
 (types_typer_statement_J5 a0 a1 x1 (x1.Kind == 19)))))
noncomputable def types_typer_statement_J2 (a0 : XTypes_typer) (a1 : Int) (x1 : XApi_Node) (y2 : Bool) : Option Int :=
 if y2 then
 (if (x1.N == 3) then
 (types_typer_statement_J3 a0 a1 x1 1)
 else
 (types_typer_statement_J3 a0 a1 x1 x1.N))
 else
 (if (x1.Kind == 14) then
 (types_typer_statement_J4 a0 a1 x1 (x1.Kind == 14))
 else
 (types_typer_statement_J4 a0 a1 x1 (x1.Kind == 15)))
noncomputable def types_typer_statement (a0 : XTypes_typer) (a1 : Int) : Option Int :=
 (idx a0.t.Nodes a1).bind fun x1 =>
 if (x1.Kind == 12) then
 (types_typer_statement_J2 a0 a1 x1 (x1.Kind == 12))
 else
 (types_typer_statement_J2 a0 a1 x1 (x1.Kind == 2))
abbrev R_types_typer_statement (r : Int) : AV := (I r)
set_option maxHeartbeats 4000000 in
theorem T_types_typer_statement {nn : Nat} {a0 : XTypes_typer} {a1 : Int} {r : Int} (hF : types_typer_statement a0 a1 = some r) : den cx (nn + 2) 50 [(.vp (cXTypes_typer a0)), (I a1)] = some (R_types_typer_statement r, []) := by
 unfold types_typer_statement at hF
 refine fnA Try.func50 Try.ntmps50 (by exact spine) (sl := [0, 1]) ?_
 refine sr <| pp oAssign <| nl <| sr <| pp oMove <| pp oNil <| pp oFA <| pp oFA <| pp oLd <| pp oMove <| ?_
 refine bb hF fun x1 h1 hF => ?_
 refine pp (oIx h1) <| pp oLdA <| ww oAlloc <| ww oStF <| nl <| sr <| pp oAssign <| nl <| ?_
 refine sjn (r := r) (fun (s : Bool) => mkSt 138 [6] [(B s)]) (fun s => types_typer_statement_J1 s) ?_ ?_
 · refine sr <| pp oFA <| pp oLd <| nl <| bl <| ?_
   refine sjn (r := r) (fun (s : Bool) => mkSt 138 [0, 1, 5, 6, 18, 19] [(.vp (cXTypes_typer a0)), (I a1), (.vp (cXApi_Node x1)), (B true), (I x1.Kind), (B s)]) (fun s => types_typer_statement_J2 a0 a1 x1 s) ?_ ?_
   · refine sr <| pp oEql <| pp oAssign <| nl <| ?_
     refine cd hF (fun hF => ?_) (fun hF => ?_)
     · refine sk <| ?_
       exact qj (x1.Kind == 12) hF cutR'
     · refine rg <| pp oEql <| pp oAssign <| nl <| ?_
       exact qj (x1.Kind == 2) hF cutR'
   · rintro y2 hF
     replace hF : types_typer_statement_J2 a0 a1 x1 y2 = some r := hF
     unfold types_typer_statement_J2 at hF
     refine mk ?_
     refine cd hF (fun hF => ?_) (fun hF => ?_)
     · refine sr <| pp oFA <| pp oLd <| pp oAssign <| nl <| ?_
       refine sjn (r := r) (fun (s : Int) => mkSt 138 [0, 1, 5, 6, 7] [(.vp (cXTypes_typer a0)), (I a1), (.vp (cXApi_Node x1)), (B true), (I s)]) (fun s => types_typer_statement_J3 a0 a1 x1 s) ?_ ?_
       · refine sr <| pp oMove <| pp oEql <| nl <| ?_
         refine cd hF (fun hF => ?_) (fun hF => ?_)
         · refine rg <| pp oAssign <| nl <| ?_
           exact qj 1 hF cutR'
         · refine sk <| ?_
           exact qj x1.N hF cutR'
       · rintro y3 hF
         replace hF : types_typer_statement_J3 a0 a1 x1 y3 = some r := hF
         unfold types_typer_statement_J3 at hF
         refine mk ?_
         refine sr <| pp oFA <| pp oLd <| pp oLenSl <| pp oMove <| nl <| ?_
         refine lp (fun (s : (Bool × Int)) => mkSt 138 [0, 1, 6, 7, 28, 29] [(.vp (cXTypes_typer a0)), (I a1), (B s.1), (I y3), (I (x1.Kids.length : Int)), (I s.2)]) (fun (s : Bool) => mkSt 138 [6] [(B s)]) hF cutR' ?_ ?_
         · rintro ⟨y10, y11⟩ z1 hF
           replace hF : types_typer_statement_L1 a0 a1 x1 y3 y10 y11 = some z1 := hF
           unfold types_typer_statement_L1 at hF
           refine mk ?_
           refine sr <| pp oLss <| nl <| sq <| ?_
           refine cd hF (fun hF => ?_) (fun hF => ?_)
           · refine sk <| qs <| sq <| bl <| sr <| pp oMove <| pp oAssign <| nl <| ?_
             refine rgC (fun (s : Bool) => mkSt 138 [0, 1, 6, 7, 28, 29] [(.vp (cXTypes_typer a0)), (I a1), (B s), (I y3), (I (x1.Kids.length : Int)), (I y11)]) hF (fun z2 hF => ?_) (fun p1 hF => ?_)
             · refine pp oMove <| pp oMove <| ?_
               refine spl (d := 33) hF (fun hF => ?_) (fun hF => ?_)
               · refine pt ar oMove <| pt ar oMove <| pt ar oMove <| ?_
                 refine bb hF fun x2 h2 hF => ?_
                 refine pt ar (oCallZ (T_types_typer_kid h2)) <| pt ar oMove <| pt ar oEql <| pp oPickT <| pp oAssign <| ?_
                 obtain rfl := inj hF
                 exact nlC cutR'
               · refine no fun u1 k1 hk1 => ?_
                 refine no fun u2 k2 hk2 => ?_
                 refine no fun u3 k3 hk3 => ?_
                 refine no fun u4 k4 hk4 => ?_
                 refine no fun u5 k5 hk5 => ?_
                 refine no fun u6 k6 hk6 => ?_
                 refine pp oPickF <| pp oAssign <| ?_
                 obtain rfl := inj hF
                 exact nlC cutR'
             · refine qmk ?_
               refine qb <| qs <| rg <| pp oAdd <| pp oMove <| nl <| ?_
               exact ln hF cutR'
           · refine ex <| qsE <| ?_
             exact lx hF cutR'
         · intro v1 hF
           refine qmk ?_
           refine qb <| ?_
           exact qj v1 hF cutR'
     · refine sjn (r := r) (fun (s : Bool) => mkSt 138 [0, 1, 5, 6, 18, 42] [(.vp (cXTypes_typer a0)), (I a1), (.vp (cXApi_Node x1)), (B true), (I x1.Kind), (B s)]) (fun s => types_typer_statement_J4 a0 a1 x1 s) ?_ ?_
       · refine sr <| pp oEql <| pp oAssign <| nl <| ?_
         refine cd hF (fun hF => ?_) (fun hF => ?_)
         · refine sk <| ?_
           exact qj (x1.Kind == 14) hF cutR'
         · refine rg <| pp oEql <| pp oAssign <| nl <| ?_
           exact qj (x1.Kind == 15) hF cutR'
       · rintro y12 hF
         replace hF : types_typer_statement_J4 a0 a1 x1 y12 = some r := hF
         unfold types_typer_statement_J4 at hF
         refine mk ?_
         refine cd hF (fun hF => ?_) (fun hF => ?_)
         · refine rg <| pp oMove <| pp oMove <| ?_
           refine bb hF fun x3 h3 hF => ?_
           refine pp (oCallZ (T_types_typer_kid h3)) <| ?_
           refine bb hF fun x4 h4 hF => ?_
           refine pp (oCallZ (T_types_scalar h4)) <| pp oAssign <| nl <| qb <| ?_
           exact qj x4 hF cutR'
         · refine sr <| pp oEql <| pp oAssign <| nl <| ?_
           refine cd hF (fun hF => ?_) (fun hF => ?_)
           · refine rg <| pp oMove <| pp oMove <| ?_
             refine bb hF fun x5 h5 hF => ?_
             refine pp (oCallZ (T_types_typer_kid h5)) <| ?_
             refine bb hF fun x6 h6 hF => ?_
             refine pp (oCallZ (T_types_scalar h6)) <| pp oAssign <| nl <| qb <| ?_
             exact qj x6 hF cutR'
           · refine sr <| pp oEql <| pp oAssign <| nl <| ?_
             refine cd hF (fun hF => ?_) (fun hF => ?_)
             · refine rgC (fun (s : Bool) => mkSt 138 [6] [(B s)]) hF (fun z3 hF => ?_) (fun p2 hF => ?_)
               · refine pp oMove <| pp oMove <| ?_
                 refine bb hF fun x7 h7 hF => ?_
                 refine pp (oCallZ (T_types_typer_kid h7)) <| ?_
                 refine bb hF fun x8 h8 hF => ?_
                 refine pp (oCallZ (T_types_scalar h8)) <| pp oMove <| ?_
                 refine spl (d := 61) hF (fun hF => ?_) (fun hF => ?_)
                 · refine no fun u7 k7 hk7 => ?_
                   refine no fun u8 k8 hk8 => ?_
                   refine no fun u9 k9 hk9 => ?_
                   refine no fun u10 k10 hk10 => ?_
                   refine no fun u11 k11 hk11 => ?_
                   refine no fun u12 k12 hk12 => ?_
                   refine no fun u13 k13 hk13 => ?_
                   refine no fun u14 k14 hk14 => ?_
                   refine no fun u15 k15 hk15 => ?_
                   refine no fun u16 k16 hk16 => ?_
                   refine no fun u17 k17 hk17 => ?_
                   refine no fun u18 k18 hk18 => ?_
                   refine no fun u19 k19 hk19 => ?_
                   refine pp oPickT <| pp oAssign <| ?_
                   obtain rfl := inj hF
                   exact nlCD (hf := rok) cutR'
                 · refine pt ar oMove <| pt ar oNil <| pt ar oFA <| pt ar oFA <| pt ar oLd <| pt ar oFA <| pt ar oLd <| ?_
                   refine bb hF fun x9 h9 hF => ?_
                   refine pt ar (oIx h9) <| pt ar oLd <| ?_
                   refine bb hF fun x10 h10 hF => ?_
                   refine pt ar (oIx h10) <| pt ar oFA <| pt ar oLd <| pt ar oEql <| pp oPickF <| pp oAssign <| ?_
                   obtain rfl := inj hF
                   exact nlCD cutR'
               · refine qmk ?_
                 refine qb <| ?_
                 exact qj p2 hF cutR'
             · refine sjn (r := r) (fun (s : Bool) => mkSt 138 [0, 1, 5, 6, 18, 76] [(.vp (cXTypes_typer a0)), (I a1), (.vp (cXApi_Node x1)), (B true), (I x1.Kind), (B s)]) (fun s => types_typer_statement_J5 a0 a1 x1 s) ?_ ?_
               · refine sr <| pp oEql <| pp oAssign <| nl <| ?_
                 refine cd hF (fun hF => ?_) (fun hF => ?_)
                 · refine sk <| ?_
                   exact qj (x1.Kind == 18) hF cutR'
                 · refine rg <| pp oEql <| pp oAssign <| nl <| ?_
                   exact qj (x1.Kind == 19) hF cutR'
               · rintro y13 hF
                 replace hF : types_typer_statement_J5 a0 a1 x1 y13 = some r := hF
                 unfold types_typer_statement_J5 at hF
                 refine mk ?_
                 refine cd hF (fun hF => ?_) (fun hF => ?_)
                 · refine rg <| pp oMove <| pp oMove <| ?_
                   refine bb hF fun x11 h11 hF => ?_
                   refine pp (oCallZ (T_types_typer_kid h11)) <| pp oEql <| pp oAssign <| nl <| qb <| ?_
                   exact qj (x11 == 1) hF cutR'
                 · refine sr <| pp oEql <| pp oAssign <| nl <| ?_
                   refine cd hF (fun hF => ?_) (fun hF => ?_)
                   · refine rgC (fun (s : Bool) => mkSt 138 [6] [(B s)]) hF (fun z4 hF => ?_) (fun p3 hF => ?_)
                     · refine pp oFA <| pp oLd <| pp oLenSl <| pp oEql <| pp oMove <| pg ar oMove <| pg ar oNil <| pg ar oFA <| pg ar oFA <| pg ar oLd <| pg ar oEql <| pp oPick <| pp oMove <| ?_
                       refine spl (d := 97) hF (fun hF => ?_) (fun hF => ?_)
                       · refine no fun u20 k20 hk20 => ?_
                         refine no fun u21 k21 hk21 => ?_
                         refine no fun u22 k22 hk22 => ?_
                         refine no fun u23 k23 hk23 => ?_
                         refine no fun u24 k24 hk24 => ?_
                         refine no fun u25 k25 hk25 => ?_
                         refine no fun u26 k26 hk26 => ?_
                         refine no fun u27 k27 hk27 => ?_
                         refine no fun u28 k28 hk28 => ?_
                         refine no fun u29 k29 hk29 => ?_
                         refine no fun u30 k30 hk30 => ?_
                         refine no fun u31 k31 hk31 => ?_
                         refine no fun u32 k32 hk32 => ?_
                         refine no fun u33 k33 hk33 => ?_
                         refine no fun u34 k34 hk34 => ?_
                         refine no fun u35 k35 hk35 => ?_
                         refine no fun u36 k36 hk36 => ?_
                         refine no fun u37 k37 hk37 => ?_
                         refine no fun u38 k38 hk38 => ?_
                         refine no fun u39 k39 hk39 => ?_
                         refine no fun u40 k40 hk40 => ?_
                         refine no fun u41 k41 hk41 => ?_
                         refine no fun u42 k42 hk42 => ?_
                         refine pp oPickT <| pp oAssign <| ?_
                         obtain rfl := inj hF
                         exact nlCD (hf := rok) cutR'
                       · refine pt ar oFA <| pt ar oLd <| pt ar oLenSl <| pt ar oEql <| pt ar oMove <| pg ar oMove <| pg ar oNil <| pg ar oFA <| pg ar oFA <| pg ar oLd <| pg ar oNeq <| pt ar oPick <| pt ar oMove <| ?_
                         refine splG (d := 110) hF (fun hF => ?_) (fun hF => ?_)
                         · refine pt ar oMove <| pt ar oMove <| ?_
                           refine bb hF fun x12 h12 hF => ?_
                           refine pt ar (oCallZ (T_types_typer_kid h12)) <| pt ar oMove <| pt ar oNil <| pt ar oFA <| pt ar oFA <| pt ar oLd <| pt ar oEql <| pt ar oPickT <| pp oPickF <| pp oAssign <| ?_
                           obtain rfl := inj hF
                           exact nlCD cutR'
                         · refine no fun u43 k43 hk43 => ?_
                           refine no fun u44 k44 hk44 => ?_
                           refine no fun u45 k45 hk45 => ?_
                           refine no fun u46 k46 hk46 => ?_
                           refine no fun u47 k47 hk47 => ?_
                           refine no fun u48 k48 hk48 => ?_
                           refine no fun u49 k49 hk49 => ?_
                           refine no fun u50 k50 hk50 => ?_
                           refine no fun u51 k51 hk51 => ?_
                           refine pt ar oPickF <| pp oPickF <| pp oAssign <| ?_
                           obtain rfl := inj hF
                           exact nlCD (hf := rok) cutR'
                     · refine qmk ?_
                       refine qb <| ?_
                       exact qj p3 hF cutR'
                   · refine sr <| pp oEql <| pp oAssign <| nl <| ?_
                     refine cd hF (fun hF => ?_) (fun hF => ?_)
                     · refine sr <| pp oMove <| pp oNil <| pp oFA <| pp oLd <| pp oEql <| nl <| ?_
                       refine cd hF (fun hF => ?_) (fun hF => ?_)
                       · refine sr <| pp oAssign <| nl <| rt <| qbR <| qjR <| ?_
                         obtain rfl := inj hF
                         exact fin1
                       · refine sk <| qb <| ?_
                         exact qj true hF cutR'
                     · refine sr <| pp oEql <| pp oAssign <| nl <| ?_
                       refine cd hF (fun hF => ?_) (fun hF => ?_)
                       · refine sr <| pp oMove <| pp oNil <| pp oFA <| pp oLd <| pp oEql <| nl <| ?_
                         refine cd hF (fun hF => ?_) (fun hF => ?_)
                         · refine sr <| pp oAssign <| nl <| rt <| qbR <| qjR <| ?_
                           obtain rfl := inj hF
                           exact fin1
                         · refine sk <| qb <| ?_
                           exact qj true hF cutR'
                       · refine sk <| qb <| ?_
                         exact qj true hF cutR'
 · rintro y1 hF
   replace hF : types_typer_statement_J1 y1 = some r := hF
   unfold types_typer_statement_J1 at hF
   refine mk ?_
   refine sq <| sr <| pp oMove <| pp oNot <| nl <| ?_
   refine cd hF (fun hF => ?_) (fun hF => ?_)
   · refine sr <| pp oAssign <| nl <| rt <| qsR <| ?_
     obtain rfl := inj hF
     exact fin1
   · refine sk <| qs <| sr <| pp oAssign <| nl <| rt <| ?_
     obtain rfl := inj hF
     exact fin1
noncomputable def slices_Equal_int_int_L1 (a0 : (List Int)) (a1 : (List Int)) (y5 : Int) : Option (Lp Int (Br Unit Bool)) :=
 if (decide (y5 < (a0.length : Int))) then
 ((idx a0 y5).bind fun x1 =>
 (idx a1 y5).bind fun x2 =>
 if (x1 != x2) then
 (some (.out (.ret false)))
 else
 (some (.next (w64 (y5 + 1)))))
 else
 (some (.out (.brk ())))
noncomputable def slices_Equal_int_int (a0 : (List Int)) (a1 : (List Int)) : Option Bool :=
 if ((a0.length : Int) != (a1.length : Int)) then
 (some false)
 else
 ((Loop (fun (s : Int) => slices_Equal_int_int_L1 a0 a1 s) 0).bind (Br.go (fun _ =>
 some true) (fun r1 => some r1)))
abbrev R_slices_Equal_int_int (r : Bool) : AV := (B r)
def RR_slices_Equal_int_int (r : Bool) (x : Exit × St) : Prop := x.1 = .ret ∧ Fin cx [.tmp 4] [] (R_slices_Equal_int_int r) [] x
set_option maxHeartbeats 4000000 in
theorem T_slices_Equal_int_int {nn : Nat} {a0 : (List Int)} {a1 : (List Int)} {r : Bool} (hF : slices_Equal_int_int a0 a1 = some r) : den cx (nn + 1) 99 [(.sl ((a0).map cInt_i64)), (.sl ((a1).map cInt_i64))] = some (R_slices_Equal_int_int r, []) := by
 unfold slices_Equal_int_int at hF
 refine fnA Try.func99 Try.ntmps99 (by exact spine) (sl := [0, 1]) ?_
 refine sr <| pp oAssign <| nl <| sq <| sr <| pp oMove <| pp oLenSl <| pp oMove <| pp oLenSl <| pp oNeq <| nl <| ?_
 refine cd hF (fun hF => ?_) (fun hF => ?_)
 · refine sr <| pp oAssign <| nl <| rt <| qsR <| ?_
   obtain rfl := inj hF
   exact fin1
 · refine sk <| qs <| sq <| sr <| pp oMove <| pp oLenSl <| pp oMove <| nl <| ?_
   refine lpR (fun (s : Int) => mkSt 26 [0, 1, 12, 13] [(.sl ((a0).map cInt_i64)), (.sl ((a1).map cInt_i64)), (I (a0.length : Int)), (I s)]) (fun (s : Unit) => mkSt 26 [] []) RR_slices_Equal_int_int hF cutR' ?_ ?_ ?_
   · rintro y5 z1 hF
     replace hF : slices_Equal_int_int_L1 a0 a1 y5 = some z1 := hF
     unfold slices_Equal_int_int_L1 at hF
     refine mk ?_
     refine sr <| pp oLss <| nl <| sq <| ?_
     refine cd hF (fun hF => ?_) (fun hF => ?_)
     · refine sk <| qs <| sq <| bl <| sr <| pp oMove <| pp oAssign <| nl <| srD <| pp oMove <| pp oMove <| ?_
       refine bb hF fun x1 h1 hF => ?_
       refine pp (oIx h1) <| pp oLd <| pp oMove <| pp oMove <| ?_
       refine bb hF fun x2 h2 hF => ?_
       refine pp (oIx h2) <| pp oLd <| pp oNeq <| nlD <| ?_
       refine cd hF (fun hF => ?_) (fun hF => ?_)
       · refine sr <| pp oAssign <| nl <| rt <| qbR <| qsR <| ?_
         exact lr hF ⟨rfl, fin1⟩
       · refine sk <| qb <| qs <| rg <| pp oAdd <| pp oMove <| nl <| ?_
         exact ln hF cutR'
     · refine ex <| qsE <| ?_
       exact lxR hF cutR'
   · intro _ hF
     refine qmk ?_
     refine qs <| sr <| pp oAssign <| nl <| rt <| ?_
     obtain rfl := inj hF
     exact fin1
   · rintro r1 hF ⟨xe, xs⟩ ⟨hxe, hfin⟩
     obtain rfl : xe = Exit.ret := hxe
     obtain rfl := inj hF
     refine qbR <| qsR <| ?_
     exact hfin
noncomputable def types_typer_call_L1 (a0 : XTypes_typer) (a1 : Int) (x1 : XApi_Node) (y10 : (List Int)) (y11 : Int) : Option (Lp ((List Int) × Int) (List Int)) :=
 if (decide (y11 < (x1.Kids.length : Int))) then
 ((types_typer_kid a0 a1 y11).bind fun x2 =>
 (app y10 ([x2] : List Int)).bind fun x3 =>
 some (.next (x3, (w64 (y11 + 1)))))
 else
 (some (.out y10))
noncomputable def types_typer_call_J1 (a0 : XTypes_typer) (a1 : Int) (x1 : XApi_Node) (y1 : (List Int)) (y2 : Int) : Option (Int × Bool) :=
 (Loop (fun (s : ((List Int) × Int)) => types_typer_call_L1 a0 a1 x1 s.1 s.2) ([], 0)).bind fun v1 =>
 (slices_Equal_int_int y1 v1).bind fun x4 =>
 some (y2, x4)
noncomputable def types_typer_call_R2 (y17 : (Int × XApi_Node)) (y18 : (List Int)) : Option (Rg (List Int) Unit) :=
 if (y17.2.Kind == 4) then
 ((app y18 ([y17.2.N] : List Int)).bind fun x9 =>
 some (.go x9))
 else
 (some (.go y18))
noncomputable def types_typer_call (a0 : XTypes_typer) (a1 : Int) : Option (Int × Bool) :=
 (idx a0.t.Nodes a1).bind fun x1 =>
 (idx a0.names a1).bind fun x5 =>
 if (decide (0 ≤ x5)) then
 ((idx a0.t.Nodes x5).bind fun x6 =>
 (ast_Kids a0.t x5).bind fun x7 =>
 (kidsOf XApi_Node.Kids x7.1.Nodes x7.2).bind fun x8 =>
 (RangeL (fun (y17 : (Int × XApi_Node)) (s : (List Int)) => types_typer_call_R2 y17 s) x8 ([] : List Int)).bind (Rg.on (fun (s : (List Int)) =>
 (types_typer_call_J1 a0 a1 x1 s x6.N)) (fun _ => none) (fun _ => none)))
 else
 (if (x1.Text.toList == (ByteArray.mk #[112, 114, 105, 110, 116]).toList) then
 (types_typer_call_J1 a0 a1 x1 ([1] : List Int) 1)
 else
 (types_typer_call_J1 a0 a1 x1 ([] : List Int) 1))
abbrev R_types_typer_call (r : (Int × Bool)) : AV := (.tup [(I r.1), (B r.2)])
set_option maxHeartbeats 4000000 in
theorem T_types_typer_call {nn : Nat} {a0 : XTypes_typer} {a1 : Int} {r : (Int × Bool)} (hF : types_typer_call a0 a1 = some r) : den cx (nn + 2) 78 [(.vp (cXTypes_typer a0)), (I a1)] = some (R_types_typer_call r, []) := by
 unfold types_typer_call at hF
 refine fnA Try.func78 Try.ntmps78 (by exact spine) (sl := [0, 1]) ?_
 refine sr <| pp oAssign <| pp oAssign <| nl <| sr <| pp oMove <| pp oNil <| pp oFA <| pp oFA <| pp oLd <| pp oMove <| ?_
 refine bb hF fun x1 h1 hF => ?_
 refine pp (oIx h1) <| pp oLdA <| ww oAlloc <| ww oStF <| nl <| sr <| ww oBSM <| ww oAlloc <| ww oStR <| pp oAssign <| nl <| ?_
 refine sjn (r := r) (fun (s : ((List Int) × Int)) => mkSt 81 [0, 1, 6, 7, 8] [(.vp (cXTypes_typer a0)), (I a1), (.vp (cXApi_Node x1)), (.ownp [(.own ((s.1).map cInt_i64) (s.1).length)]), (I s.2)]) (fun s => types_typer_call_J1 a0 a1 x1 s.1 s.2) ?_ ?_
 · refine sr <| pp oMove <| pp oNil <| pp oFA <| pp oLd <| pp oMove <| ?_
   refine bb hF fun x5 h5 hF => ?_
   refine pp (oIx h5) <| pp oLd <| pp oAssign <| nl <| bl <| sr <| pp oMove <| pp oGeq <| pp oAssign <| nl <| ?_
   refine cd hF (fun hF => ?_) (fun hF => ?_)
   · refine sr <| pp oMove <| pp oNil <| pp oFA <| pp oFA <| pp oLd <| pp oMove <| ?_
     refine bb hF fun x6 h6 hF => ?_
     refine pp (oIx h6) <| pp oFA <| pp oLd <| pp oAssign <| nl <| sr <| pp oMove <| pp oNil <| pp oFA <| pp oLdA <| pp oMove <| ?_
     refine bb hF fun x7 h7 hF => ?_
     refine pp (oCallZ (T_ast_Kids h7)) <| nl <| bl <| ?_
     refine bb hF fun x8 h8 hF => ?_
     refine rng2 (fun (s : (List Int)) => mkSt 81 [0, 1, 6, 7, 8] [(.vp (cXTypes_typer a0)), (I a1), (.vp (cXApi_Node x1)), (.ownp [(.own ((s).map cInt_i64) (s).length)]), (I x6.N)]) (fun (_ : Unit) => mkSt 0 [] []) 0 (enc := (kidE cXApi_Node)) hF (by exact kidsR (by rfl) h8) cutR' (fun _ => rfl) (fun _ => rfl) (by rfl) ?_ ?_ ?_ ?_
     · rintro y17 y18 z2 hF
       replace hF : types_typer_call_R2 y17 y18 = some z2 := hF
       unfold types_typer_call_R2 at hF
       refine rmk ?_
       refine rg <| ww oAlloc <| ww oStF <| nl <| rga <| bl <| sr <| pp oFA <| pp oLd <| pp oEql <| nl <| ?_
       refine cd hF (fun hF => ?_) (fun hF => ?_)
       · refine rg <| rr oLdR <| pp oFA <| pp oLd <| pp oBSF <| ?_
         refine bb hF fun x9 h9 hF => ?_
         refine ww (oApp h9) <| ww oStR <| nl <| qb <| ?_
         exact rgo hF cutR'
       · refine sk <| qb <| ?_
         exact rgo hF cutR'
     · intro s hF
       refine qmk ?_
       refine qb <| qb <| ?_
       exact qj (s, x6.N) hF cutR'
     · exact fun _ hF => by cases hF
     · exact fun _ hF => by cases hF
   · refine sr <| pp oFA <| pp oLd <| pp oEqlS <| pp oAssign <| nl <| ?_
     refine cd hF (fun hF => ?_) (fun hF => ?_)
     · refine rg <| ww oBSM <| ww oStR <| nl <| qb <| ?_
       exact qj (([1] : List Int), 1) hF cutR'
     · refine sk <| qb <| ?_
       exact qj (([] : List Int), 1) hF cutR'
 · rintro ⟨y1, y2⟩ hF
   replace hF : types_typer_call_J1 a0 a1 x1 y1 y2 = some r := hF
   unfold types_typer_call_J1 at hF
   refine mk ?_
   refine sr <| pp oAssign <| nl <| sq <| sr <| pp oFA <| pp oLd <| pp oLenSl <| pp oMove <| nl <| ?_
   refine lp (fun (s : ((List Int) × Int)) => mkSt 81 [0, 1, 7, 8, 12, 65, 66] [(.vp (cXTypes_typer a0)), (I a1), (.ownp [(.own ((y1).map cInt_i64) (y1).length)]), (I y2), (.own ((s.1).map cInt_i64) (s.1).length), (I (x1.Kids.length : Int)), (I s.2)]) (fun (s : (List Int)) => mkSt 81 [7, 8, 12] [(.ownp [(.own ((y1).map cInt_i64) (y1).length)]), (I y2), (.own ((s).map cInt_i64) (s).length)]) hF cutR' ?_ ?_
   · rintro ⟨y10, y11⟩ z1 hF
     replace hF : types_typer_call_L1 a0 a1 x1 y10 y11 = some z1 := hF
     unfold types_typer_call_L1 at hF
     refine mk ?_
     refine sr <| pp oLss <| nl <| sq <| ?_
     refine cd hF (fun hF => ?_) (fun hF => ?_)
     · refine sk <| qs <| sq <| bl <| sr <| pp oMove <| pp oAssign <| nl <| rg <| pp oMove <| pp oMove <| pp oMove <| pp oMove <| ?_
       refine bb hF fun x2 h2 hF => ?_
       refine pp (oCallZ (T_types_typer_kid h2)) <| pp oBSF <| ?_
       refine bb hF fun x3 h3 hF => ?_
       refine ww (oApp h3) <| pp oAssign <| nl <| qb <| qs <| rg <| pp oAdd <| pp oMove <| nl <| ?_
       exact ln hF cutR'
     · refine ex <| qsE <| ?_
       exact lx hF cutR'
   · intro v1 hF
     refine qmk ?_
     refine qs <| sr <| pp oMove <| rr oLdR <| pp oMove <| ?_
     refine bb hF fun x4 h4 hF => ?_
     refine rr (oCall (T_slices_Equal_int_int h4)) <| pp oAssign <| pp oAssign <| nl <| rt <| ?_
     obtain rfl := inj hF
     exact finT
noncomputable def types_typer_place (a0 : XTypes_typer) (a1 : Int) : Option Bool :=
 (idx a0.t.Nodes a1).bind fun x1 =>
 if (x1.Kind == 32) then
 ((idx a0.names a1).bind fun x2 =>
 (idx a0.t.Nodes x2).bind fun x3 =>
 some (x3.N != 3))
 else
 (if (x1.Kind == 34) then
 (some true)
 else
 (if (x1.Kind == 35) then
 (some (x1.Text.toList == (ByteArray.mk #[42]).toList))
 else
 (some false)))
abbrev R_types_typer_place (r : Bool) : AV := (B r)
set_option maxHeartbeats 4000000 in
theorem T_types_typer_place {nn : Nat} {a0 : XTypes_typer} {a1 : Int} {r : Bool} (hF : types_typer_place a0 a1 = some r) : den cx (nn + 1) 81 [(.vp (cXTypes_typer a0)), (I a1)] = some (R_types_typer_place r, []) := by
 unfold types_typer_place at hF
 refine fnA Try.func81 Try.ntmps81 (by exact spine) (sl := [0, 1]) ?_
 refine sr <| pp oAssign <| nl <| sq <| sr <| pp oMove <| pp oNil <| pp oFA <| pp oFA <| pp oLd <| pp oMove <| ?_
 refine bb hF fun x1 h1 hF => ?_
 refine pp (oIx h1) <| pp oLdA <| ww oAlloc <| ww oStF <| nl <| sr <| pp oFA <| pp oLd <| nl <| bl <| sr <| pp oEql <| pp oAssign <| nl <| ?_
 refine cd hF (fun hF => ?_) (fun hF => ?_)
 · refine srD <| pp oMove <| pp oNil <| pp oFA <| pp oFA <| pp oLd <| pp oMove <| pp oNil <| pp oFA <| pp oLd <| pp oMove <| ?_
   refine bb hF fun x2 h2 hF => ?_
   refine pp (oIx h2) <| pp oLd <| ?_
   refine bb hF fun x3 h3 hF => ?_
   refine pp (oIx h3) <| pp oFA <| pp oLd <| pp oNeq <| pp oAssign <| nlD <| rt <| qbR <| qsR <| ?_
   obtain rfl := inj hF
   exact fin1
 · refine sr <| pp oEql <| pp oAssign <| nl <| ?_
   refine cd hF (fun hF => ?_) (fun hF => ?_)
   · refine sr <| pp oAssign <| nl <| rt <| qbR <| qsR <| ?_
     obtain rfl := inj hF
     exact fin1
   · refine sr <| pp oEql <| pp oAssign <| nl <| ?_
     refine cd hF (fun hF => ?_) (fun hF => ?_)
     · refine sr <| pp oFA <| pp oLd <| pp oEqlS <| pp oAssign <| nl <| rt <| qbR <| qsR <| ?_
       obtain rfl := inj hF
       exact fin1
     · refine sk <| qb <| qs <| sr <| pp oAssign <| nl <| rt <| ?_
       obtain rfl := inj hF
       exact fin1
noncomputable def types_typer_one_J1 (a0 : XTypes_typer) (x1 : XApi_Node) (x2 : Int) (y1 : Bool) : Option (Int × Bool) :=
 if y1 then
 (some (1, (x2 == 1)))
 else
 (if (x1.Text.toList == (ByteArray.mk #[33]).toList) then
 ((types_scalar x2).bind fun x3 =>
 some (1, x3))
 else
 (if (x1.Text.toList == (ByteArray.mk #[42]).toList) then
 (some (1, (x2 == 2)))
 else
 ((idx x1.Kids 0).bind fun x4 =>
 (idx a0.t.Nodes x4).bind fun x5 =>
 (if (x5.Kind == 32) then
 ((idx x1.Kids 0).bind fun x6 =>
 (idx a0.names x6).bind fun x7 =>
 (idx a0.t.Nodes x7).bind fun x8 =>
 some (x8.Kind == 2))
 else
 (some false)).bind fun p1 =>
 (if (x2 == 1) then
 ((idx x1.Kids 0).bind fun x9 =>
 (types_typer_place a0 x9).bind fun x10 =>
 some (if x10 then (if (x5.Kind != 32) then true else p1) else false))
 else
 (some false)).bind fun p2 =>
 some (2, p2))))
noncomputable def types_typer_one (a0 : XTypes_typer) (a1 : Int) : Option (Int × Bool) :=
 (idx a0.t.Nodes a1).bind fun x1 =>
 (types_typer_kid a0 a1 0).bind fun x2 =>
 if (x1.Text.toList == (ByteArray.mk #[45]).toList) then
 (types_typer_one_J1 a0 x1 x2 (x1.Text.toList == (ByteArray.mk #[45]).toList))
 else
 (types_typer_one_J1 a0 x1 x2 (x1.Text.toList == (ByteArray.mk #[126]).toList))
abbrev R_types_typer_one (r : (Int × Bool)) : AV := (.tup [(I r.1), (B r.2)])
set_option maxHeartbeats 4000000 in
theorem T_types_typer_one {nn : Nat} {a0 : XTypes_typer} {a1 : Int} {r : (Int × Bool)} (hF : types_typer_one a0 a1 = some r) : den cx (nn + 2) 79 [(.vp (cXTypes_typer a0)), (I a1)] = some (R_types_typer_one r, []) := by
 unfold types_typer_one at hF
 refine fnA Try.func79 Try.ntmps79 (by exact spine) (sl := [0, 1]) ?_
 refine sr <| pp oAssign <| pp oAssign <| nl <| sr <| pp oMove <| pp oNil <| pp oFA <| pp oFA <| pp oLd <| pp oMove <| ?_
 refine bb hF fun x1 h1 hF => ?_
 refine pp (oIx h1) <| pp oLdA <| ww oAlloc <| ww oStF <| nl <| sr <| pp oMove <| pp oMove <| ?_
 refine bb hF fun x2 h2 hF => ?_
 refine pp (oCallZ (T_types_typer_kid h2)) <| pp oAssign <| nl <| sq <| sr <| pp oFA <| pp oLd <| nl <| bl <| ?_
 refine sjn (r := r) (fun (s : Bool) => mkSt 89 [0, 6, 7, 22, 23] [(.vp (cXTypes_typer a0)), (.vp (cXApi_Node x1)), (I x2), (AV.val (.string x1.Text)), (B s)]) (fun s => types_typer_one_J1 a0 x1 x2 s) ?_ ?_
 · refine sr <| pp oEqlS <| pp oAssign <| nl <| ?_
   refine cd hF (fun hF => ?_) (fun hF => ?_)
   · refine sk <| ?_
     exact qj (x1.Text.toList == (ByteArray.mk #[45]).toList) hF cutR'
   · refine rg <| pp oEqlS <| pp oAssign <| nl <| ?_
     exact qj (x1.Text.toList == (ByteArray.mk #[126]).toList) hF cutR'
 · rintro y1 hF
   replace hF : types_typer_one_J1 a0 x1 x2 y1 = some r := hF
   unfold types_typer_one_J1 at hF
   refine mk ?_
   refine cd hF (fun hF => ?_) (fun hF => ?_)
   · refine sr <| pp oMove <| pp oEql <| pp oAssign <| pp oAssign <| nl <| rt <| qbR <| qsR <| ?_
     obtain rfl := inj hF
     exact finT
   · refine sr <| pp oEqlS <| pp oAssign <| nl <| ?_
     refine cd hF (fun hF => ?_) (fun hF => ?_)
     · refine sr <| pp oMove <| ?_
       refine bb hF fun x3 h3 hF => ?_
       refine pp (oCall (T_types_scalar h3)) <| pp oAssign <| pp oAssign <| nl <| rt <| qbR <| qsR <| ?_
       obtain rfl := inj hF
       exact finT
     · refine sr <| pp oEqlS <| pp oAssign <| nl <| ?_
       refine cd hF (fun hF => ?_) (fun hF => ?_)
       · refine sr <| pp oMove <| pp oEql <| pp oAssign <| pp oAssign <| nl <| rt <| qbR <| qsR <| ?_
         obtain rfl := inj hF
         exact finT
       · refine sk <| qb <| qs <| srD <| pp oMove <| pp oNil <| pp oFA <| pp oFA <| pp oLd <| pp oFA <| pp oLd <| ?_
         refine bb hF fun x4 h4 hF => ?_
         refine pp (oIx h4) <| pp oLd <| ?_
         refine bb hF fun x5 h5 hF => ?_
         refine pp (oIx h5) <| pp oLdA <| ww oAlloc <| ww oStF <| nlD <| ?_
         refine srC (fun (s : Bool) => mkSt 89 [0, 6, 7, 8, 9] [(.vp (cXTypes_typer a0)), (.vp (cXApi_Node x1)), (I x2), (.vp (cXApi_Node x5)), (B s)]) hF (fun z2 hF => ?_) (fun p1 hF => ?_)
         · refine pp oFA <| pp oLd <| pp oEql <| pp oMove <| ?_
           refine spl (d := 50) hF (fun hF => ?_) (fun hF => ?_)
           · refine pt ar oMove <| pt ar oNil <| pt ar oFA <| pt ar oFA <| pt ar oLd <| pt ar oMove <| pt ar oNil <| pt ar oFA <| pt ar oLd <| pt ar oFA <| pt ar oLd <| ?_
             refine bb hF fun x6 h6 hF => ?_
             refine pt ar (oIx h6) <| pt ar oLd <| ?_
             refine bb hF fun x7 h7 hF => ?_
             refine pt ar (oIx h7) <| pt ar oLd <| ?_
             refine bb hF fun x8 h8 hF => ?_
             refine pt ar (oIx h8) <| pt ar oFA <| pt ar oLd <| pt ar oEql <| pp oPickT <| pp oAssign <| ?_
             obtain rfl := inj hF
             exact nlCD cutR'
           · refine no fun u1 k1 hk1 => ?_
             refine no fun u2 k2 hk2 => ?_
             refine no fun u3 k3 hk3 => ?_
             refine no fun u4 k4 hk4 => ?_
             refine no fun u5 k5 hk5 => ?_
             refine no fun u6 k6 hk6 => ?_
             refine no fun u7 k7 hk7 => ?_
             refine no fun u8 k8 hk8 => ?_
             refine no fun u9 k9 hk9 => ?_
             refine no fun u10 k10 hk10 => ?_
             refine no fun u11 k11 hk11 => ?_
             refine no fun u12 k12 hk12 => ?_
             refine no fun u13 k13 hk13 => ?_
             refine no fun u14 k14 hk14 => ?_
             refine no fun u15 k15 hk15 => ?_
             refine no fun u16 k16 hk16 => ?_
             refine no fun u17 k17 hk17 => ?_
             refine no fun u18 k18 hk18 => ?_
             refine no fun u19 k19 hk19 => ?_
             refine pp oPickF <| pp oAssign <| ?_
             obtain rfl := inj hF
             exact nlCD (hf := rok) cutR'
         · refine mk ?_
           refine srC (fun (s : Bool) => mkSt 89 [4, 5] [(I 2), (B s)]) hF (fun z1 hF => ?_) (fun p2 hF => ?_)
           · refine pp oMove <| pp oEql <| pp oMove <| ?_
             refine spl (d := 73) hF (fun hF => ?_) (fun hF => ?_)
             · refine pt ar oMove <| pt ar oFA <| pt ar oLd <| ?_
               refine bb hF fun x9 h9 hF => ?_
               refine pt ar (oIx h9) <| pt ar oLd <| ?_
               refine bb hF fun x10 h10 hF => ?_
               refine pt ar (oCall (T_types_typer_place h10)) <| pp oPickT <| pp oMove <| pg ar oFA <| pg ar oLd <| pg ar oNeq <| pg ar oMove <| pg ar oMove <| pg ar oPick <| pp oPick <| pp oAssign <| pp oAssign <| ?_
               obtain rfl := inj hF
               exact nlC cutR'
             · refine no fun u20 k20 hk20 => ?_
               refine no fun u21 k21 hk21 => ?_
               refine no fun u22 k22 hk22 => ?_
               refine no fun u23 k23 hk23 => ?_
               refine no fun u24 k24 hk24 => ?_
               refine no fun u25 k25 hk25 => ?_
               refine pp oPickF <| pp oMove <| ?_
               refine no fun u26 k26 hk26 => ?_
               refine no fun u27 k27 hk27 => ?_
               refine no fun u28 k28 hk28 => ?_
               refine no fun u29 k29 hk29 => ?_
               refine no fun u30 k30 hk30 => ?_
               refine no fun u31 k31 hk31 => ?_
               refine pp oPickF <| pp oAssign <| pp oAssign <| ?_
               obtain rfl := inj hF
               exact nlC cutR'
           · refine mk ?_
             refine rt <| ?_
             obtain rfl := inj hF
             exact finT
noncomputable def types_two_J1 (a0 : ByteArray) (a1 : Int) (a2 : Int) (y1 : Bool) : Option (Int × Bool) :=
 if y1 then
 (some (2, true))
 else
 (if (if (if (a0.toList == (ByteArray.mk #[45]).toList) then (a1 == 2) else false) then (a2 == 2) else false) then
 (some (1, true))
 else
 (some (0, false)))
noncomputable def types_two (a0 : ByteArray) (a1 : Int) (a2 : Int) : Option (Int × Bool) :=
 (ast_TwoOf a0).bind fun x1 =>
 if (decide (12 ≤ x1.1.Op)) then
 ((types_scalar a1).bind fun x2 =>
 some (1, (if x2 then (a1 == a2) else false)))
 else
 (if (if (a1 == 1) then (a2 == 1) else false) then
 (some (1, true))
 else
 (if (if (if (a0.toList == (ByteArray.mk #[43]).toList) then (a1 == 2) else false) then (a2 == 1) else false) then
 (types_two_J1 a0 a1 a2 (if (if (a0.toList == (ByteArray.mk #[43]).toList) then (a1 == 2) else false) then (a2 == 1) else false))
 else
 (if (if (if (a0.toList == (ByteArray.mk #[43]).toList) then (a1 == 1) else false) then (a2 == 2) else false) then
 (types_two_J1 a0 a1 a2 (if (if (a0.toList == (ByteArray.mk #[43]).toList) then (a1 == 1) else false) then (a2 == 2) else false))
 else
 (types_two_J1 a0 a1 a2 (if (if (a0.toList == (ByteArray.mk #[45]).toList) then (a1 == 2) else false) then (a2 == 1) else false)))))
abbrev R_types_two (r : (Int × Bool)) : AV := (.tup [(I r.1), (B r.2)])
set_option maxHeartbeats 4000000 in
theorem T_types_two {nn : Nat} {a0 : ByteArray} {a1 : Int} {a2 : Int} {r : (Int × Bool)} (hF : types_two a0 a1 a2 = some r) : den cx (nn + 2) 80 [(AV.val (.string a0)), (I a1), (I a2)] = some (R_types_two r, []) := by
 unfold types_two at hF
 refine fnA Try.func80 Try.ntmps80 (by exact spine) (sl := [0, 1, 2]) ?_
 refine sr <| pp oAssign <| pp oAssign <| nl <| sr <| pp oMove <| pp oEql <| pp oMove <| pg ar oMove <| pg ar oEql <| pp oPick <| pp oAssign <| nl <| sr <| ?_
 refine pp oMove <| ?_
 refine bb hF fun x1 h1 hF => ?_
 refine pp (oCallZ (T_ast_TwoOf h1)) <| pp oMove <| pp oExt <| pp oExt <| ww oAlloc <| ww oStF <| pp oAssign <| nl <| sr <| pp oFA <| pp oLd <| pp oAssign <| nl <| sq <| ?_
 refine bl <| sr <| pp oMove <| pp oGeq <| pp oAssign <| nl <| ?_
 refine cd hF (fun hF => ?_) (fun hF => ?_)
 · refine sr <| pp oMove <| ?_
   refine bb hF fun x2 h2 hF => ?_
   refine pp (oCall (T_types_scalar h2)) <| pp oMove <| pg ar oMove <| pg ar oMove <| pg ar oEql <| pp oPick <| pp oAssign <| pp oAssign <| nl <| rt <| qbR <| qsR <| ?_
   obtain rfl := inj hF
   exact finT
 · refine sr <| pp oMove <| pp oAssign <| nl <| ?_
   refine cd hF (fun hF => ?_) (fun hF => ?_)
   · refine sr <| pp oAssign <| pp oAssign <| nl <| rt <| qbR <| qsR <| ?_
     obtain rfl := inj hF
     exact finT
   · refine sjn (r := r) (fun (s : Bool) => mkSt 79 [0, 1, 2, 37] [(AV.val (.string a0)), (I a1), (I a2), (B s)]) (fun s => types_two_J1 a0 a1 a2 s) ?_ ?_
     · refine sr <| pp oMove <| pp oEqlS <| pp oMove <| pg ar oMove <| pg ar oEql <| pp oPick <| pp oMove <| pg ar oMove <| pg ar oEql <| pp oPick <| pp oAssign <| nl <| ?_
       refine cd hF (fun hF => ?_) (fun hF => ?_)
       · refine sk <| ?_
         exact qj (if (if (a0.toList == (ByteArray.mk #[43]).toList) then (a1 == 2) else false) then (a2 == 1) else false) hF cutR'
       · refine sr <| pp oMove <| pp oEqlS <| pp oMove <| pg ar oMove <| pg ar oEql <| pp oPick <| pp oMove <| pg ar oMove <| pg ar oEql <| pp oPick <| pp oAssign <| nl <| ?_
         refine cd hF (fun hF => ?_) (fun hF => ?_)
         · refine sk <| ?_
           exact qj (if (if (a0.toList == (ByteArray.mk #[43]).toList) then (a1 == 1) else false) then (a2 == 2) else false) hF cutR'
         · refine rg <| pp oMove <| pp oEqlS <| pp oMove <| pg ar oMove <| pg ar oEql <| pp oPick <| pp oMove <| pg ar oMove <| pg ar oEql <| pp oPick <| pp oAssign <| nl <| ?_
           exact qj (if (if (a0.toList == (ByteArray.mk #[45]).toList) then (a1 == 2) else false) then (a2 == 1) else false) hF cutR'
     · rintro y1 hF
       replace hF : types_two_J1 a0 a1 a2 y1 = some r := hF
       unfold types_two_J1 at hF
       refine mk ?_
       refine cd hF (fun hF => ?_) (fun hF => ?_)
       · refine sr <| pp oAssign <| pp oAssign <| nl <| rt <| qbR <| qsR <| ?_
         obtain rfl := inj hF
         exact finT
       · refine sr <| pp oMove <| pp oEqlS <| pp oMove <| pg ar oMove <| pg ar oEql <| pp oPick <| pp oMove <| pg ar oMove <| pg ar oEql <| pp oPick <| pp oAssign <| nl <| ?_
         refine cd hF (fun hF => ?_) (fun hF => ?_)
         · refine sr <| pp oAssign <| pp oAssign <| nl <| rt <| qbR <| qsR <| ?_
           obtain rfl := inj hF
           exact finT
         · refine sk <| qb <| qs <| sr <| pp oAssign <| pp oAssign <| nl <| rt <| ?_
           obtain rfl := inj hF
           exact finT
noncomputable def types_typer_expr (a0 : XTypes_typer) (a1 : Int) : Option (Int × Bool) :=
 (idx a0.t.Nodes a1).bind fun x1 =>
 if (x1.Kind == 31) then
 (some (1, true))
 else
 (if (x1.Kind == 32) then
 ((idx a0.names a1).bind fun x2 =>
 (idx a0.t.Nodes x2).bind fun x3 =>
 if (x3.N != 3) then
 (some (x3.N, true))
 else
 (some (2, true)))
 else
 (if (x1.Kind == 33) then
 ((types_typer_call a0 a1).bind fun x4 =>
 some (x4.1, x4.2))
 else
 (if (x1.Kind == 34) then
 (((types_typer_kid a0 a1 0).bind fun x5 =>
 if (x5 == 2) then
 ((types_typer_kid a0 a1 1).bind fun x6 =>
 some (x6 == 1))
 else
 (some false)).bind fun p1 =>
 some (1, p1))
 else
 (if (x1.Kind == 35) then
 ((types_typer_one a0 a1).bind fun x7 =>
 some (x7.1, x7.2))
 else
 (if (x1.Kind == 36) then
 ((types_typer_kid a0 a1 0).bind fun x8 =>
 (types_typer_kid a0 a1 1).bind fun x9 =>
 (types_two x1.Text x8 x9).bind fun x10 =>
 some (x10.1, x10.2))
 else
 (if (x1.Kind == 37) then
 (((types_typer_kid a0 a1 0).bind fun x11 =>
 (types_scalar x11).bind fun x12 =>
 if x12 then
 ((types_typer_kid a0 a1 1).bind fun x13 =>
 (types_scalar x13).bind fun x14 =>
 some x14)
 else
 (some false)).bind fun p2 =>
 some (1, p2))
 else
 (if (x1.Kind == 38) then
 (((types_typer_kid a0 a1 1).bind fun x15 =>
 (types_typer_kid a0 a1 0).bind fun x16 =>
 (types_scalar x16).bind fun x17 =>
 if x17 then
 ((types_typer_kid a0 a1 1).bind fun x18 =>
 (types_scalar x18).bind fun x19 =>
 if x19 then
 ((types_typer_kid a0 a1 1).bind fun x20 =>
 (types_typer_kid a0 a1 2).bind fun x21 =>
 some (x15, (x20 == x21)))
 else
 (some (x15, false)))
 else
 (some (x15, false))).bind fun p3 =>
 some (p3.1, p3.2))
 else
 (if (x1.Kind == 40) then
 ((types_typer_kid a0 a1 0).bind fun x22 =>
 (idx x1.Kids 0).bind fun x23 =>
 (types_typer_place a0 x23).bind fun x24 =>
 some (x22, x24))
 else
 ((types_typer_kid a0 a1 0).bind fun x25 =>
 (types_typer_kid a0 a1 1).bind fun x26 =>
 if (x1.Text.toList != (ByteArray.mk #[61]).toList) then
 ((sslc x1.Text none (some (w64 ((x1.Text.size : Int) - 1)))).bind fun x27 =>
 (types_two x27 x25 x26).bind fun x28 =>
 (if (if x28.2 then (x28.1 == x25) else false) then
 ((idx x1.Kids 0).bind fun x29 =>
 (types_typer_place a0 x29).bind fun x30 =>
 some x30)
 else
 (some false)).bind fun p4 =>
 some (x25, p4))
 else
 (((types_scalar x25).bind fun x31 =>
 if (if x31 then (x25 == x26) else false) then
 ((idx x1.Kids 0).bind fun x32 =>
 (types_typer_place a0 x32).bind fun x33 =>
 some x33)
 else
 (some false)).bind fun p5 =>
 some (x25, p5)))))))))))
abbrev R_types_typer_expr (r : (Int × Bool)) : AV := (.tup [(I r.1), (B r.2)])
set_option maxHeartbeats 4000000 in
theorem T_types_typer_expr {nn : Nat} {a0 : XTypes_typer} {a1 : Int} {r : (Int × Bool)} (hF : types_typer_expr a0 a1 = some r) : den cx (nn + 3) 51 [(.vp (cXTypes_typer a0)), (I a1)] = some (R_types_typer_expr r, []) := by
 unfold types_typer_expr at hF
 refine fnA Try.func51 Try.ntmps51 (by exact spine) (sl := [0, 1]) ?_
 refine sr <| pp oAssign <| pp oAssign <| nl <| sr <| pp oMove <| pp oNil <| pp oFA <| pp oFA <| pp oLd <| pp oMove <| ?_
 refine bb hF fun x1 h1 hF => ?_
 refine pp (oIx h1) <| pp oLdA <| ww oAlloc <| ww oStF <| nl <| sq <| sr <| pp oFA <| pp oLd <| nl <| bl <| sr <| pp oEql <| pp oAssign <| ?_
 refine nl <| ?_
 refine cd hF (fun hF => ?_) (fun hF => ?_)
 · refine sr <| pp oAssign <| pp oAssign <| nl <| rt <| qbR <| qsR <| ?_
   obtain rfl := inj hF
   exact finT
 · refine sr <| pp oEql <| pp oAssign <| nl <| ?_
   refine cd hF (fun hF => ?_) (fun hF => ?_)
   · refine sq <| srD <| pp oMove <| pp oNil <| pp oFA <| pp oFA <| pp oLd <| pp oMove <| pp oNil <| pp oFA <| pp oLd <| pp oMove <| ?_
     refine bb hF fun x2 h2 hF => ?_
     refine pp (oIx h2) <| pp oLd <| ?_
     refine bb hF fun x3 h3 hF => ?_
     refine pp (oIx h3) <| pp oFA <| pp oLd <| pp oAssign <| nlD <| sr <| pp oMove <| pp oNeq <| nl <| ?_
     refine cd hF (fun hF => ?_) (fun hF => ?_)
     · refine sr <| pp oMove <| pp oAssign <| pp oAssign <| nl <| rt <| qsR <| qbR <| qsR <| ?_
       obtain rfl := inj hF
       exact finT
     · refine sk <| qs <| sr <| pp oAssign <| pp oAssign <| nl <| rt <| qbR <| qsR <| ?_
       obtain rfl := inj hF
       exact finT
   · refine sr <| pp oEql <| pp oAssign <| nl <| ?_
     refine cd hF (fun hF => ?_) (fun hF => ?_)
     · refine sr <| pp oMove <| pp oMove <| ?_
       refine bb hF fun x4 h4 hF => ?_
       refine pp (oCall (T_types_typer_call h4)) <| pp oExt <| pp oExt <| pp oAssign <| pp oAssign <| nl <| rt <| qbR <| qsR <| ?_
       obtain rfl := inj hF
       exact finT
     · refine sr <| pp oEql <| pp oAssign <| nl <| ?_
       refine cd hF (fun hF => ?_) (fun hF => ?_)
       · refine srC (fun (s : Bool) => mkSt 183 [4, 5] [(I 1), (B s)]) hF (fun z1 hF => ?_) (fun p1 hF => ?_)
         · refine pp oMove <| pp oMove <| ?_
           refine bb hF fun x5 h5 hF => ?_
           refine pp (oCallZ (T_types_typer_kid h5)) <| pp oEql <| pp oMove <| ?_
           refine spl (d := 57) hF (fun hF => ?_) (fun hF => ?_)
           · refine pt ar oMove <| pt ar oMove <| ?_
             refine bb hF fun x6 h6 hF => ?_
             refine pt ar (oCallZ (T_types_typer_kid h6)) <| pt ar oEql <| pp oPickT <| pp oAssign <| pp oAssign <| ?_
             obtain rfl := inj hF
             exact nlC cutR'
           · refine no fun u1 k1 hk1 => ?_
             refine no fun u2 k2 hk2 => ?_
             refine no fun u3 k3 hk3 => ?_
             refine no fun u4 k4 hk4 => ?_
             refine pp oPickF <| pp oAssign <| pp oAssign <| ?_
             obtain rfl := inj hF
             exact nlC cutR'
         · refine mk ?_
           refine rt <| qbR <| qsR <| ?_
           obtain rfl := inj hF
           exact finT
       · refine sr <| pp oEql <| pp oAssign <| nl <| ?_
         refine cd hF (fun hF => ?_) (fun hF => ?_)
         · refine sr <| pp oMove <| pp oMove <| ?_
           refine bb hF fun x7 h7 hF => ?_
           refine pp (oCall (T_types_typer_one h7)) <| pp oExt <| pp oExt <| pp oAssign <| pp oAssign <| nl <| rt <| qbR <| qsR <| ?_
           obtain rfl := inj hF
           exact finT
         · refine sr <| pp oEql <| pp oAssign <| nl <| ?_
           refine cd hF (fun hF => ?_) (fun hF => ?_)
           · refine srD <| pp oFA <| pp oLd <| pp oMove <| pp oMove <| ?_
             refine bb hF fun x8 h8 hF => ?_
             refine pp (oCallZ (T_types_typer_kid h8)) <| pp oMove <| pp oMove <| ?_
             refine bb hF fun x9 h9 hF => ?_
             refine pp (oCallZ (T_types_typer_kid h9)) <| ?_
             refine bb hF fun x10 h10 hF => ?_
             refine pp (oCall (T_types_two h10)) <| pp oExt <| pp oExt <| pp oAssign <| pp oAssign <| nlD <| rt <| qbR <| qsR <| ?_
             obtain rfl := inj hF
             exact finT
           · refine sr <| pp oEql <| pp oAssign <| nl <| ?_
             refine cd hF (fun hF => ?_) (fun hF => ?_)
             · refine srC (fun (s : Bool) => mkSt 183 [4, 5] [(I 1), (B s)]) hF (fun z2 hF => ?_) (fun p2 hF => ?_)
               · refine pp oMove <| pp oMove <| ?_
                 refine bb hF fun x11 h11 hF => ?_
                 refine pp (oCallZ (T_types_typer_kid h11)) <| ?_
                 refine bb hF fun x12 h12 hF => ?_
                 refine pp (oCall (T_types_scalar h12)) <| pp oMove <| ?_
                 refine spl (d := 89) hF (fun hF => ?_) (fun hF => ?_)
                 · refine pt ar oMove <| pt ar oMove <| ?_
                   refine bb hF fun x13 h13 hF => ?_
                   refine pt ar (oCallZ (T_types_typer_kid h13)) <| ?_
                   refine bb hF fun x14 h14 hF => ?_
                   refine pt ar (oCall (T_types_scalar h14)) <| pp oPickT <| pp oAssign <| pp oAssign <| ?_
                   obtain rfl := inj hF
                   exact nlC cutR'
                 · refine no fun u5 k5 hk5 => ?_
                   refine no fun u6 k6 hk6 => ?_
                   refine no fun u7 k7 hk7 => ?_
                   refine no fun u8 k8 hk8 => ?_
                   refine pp oPickF <| pp oAssign <| pp oAssign <| ?_
                   obtain rfl := inj hF
                   exact nlC cutR'
               · refine mk ?_
                 refine rt <| qbR <| qsR <| ?_
                 obtain rfl := inj hF
                 exact finT
             · refine sr <| pp oEql <| pp oAssign <| nl <| ?_
               refine cd hF (fun hF => ?_) (fun hF => ?_)
               · refine srC (fun (s : (Int × Bool)) => mkSt 183 [4, 5] [(I s.1), (B s.2)]) hF (fun z3 hF => ?_) (fun p3 hF => ?_)
                 · refine pp oMove <| pp oMove <| ?_
                   refine bb hF fun x15 h15 hF => ?_
                   refine pp (oCall (T_types_typer_kid h15)) <| pp oMove <| pp oMove <| ?_
                   refine bb hF fun x16 h16 hF => ?_
                   refine pp (oCallZ (T_types_typer_kid h16)) <| ?_
                   refine bb hF fun x17 h17 hF => ?_
                   refine pp (oCall (T_types_scalar h17)) <| pp oMove <| ?_
                   refine spl (d := 104) hF (fun hF => ?_) (fun hF => ?_)
                   · refine pt ar oMove <| pt ar oMove <| ?_
                     refine bb hF fun x18 h18 hF => ?_
                     refine pt ar (oCallZ (T_types_typer_kid h18)) <| ?_
                     refine bb hF fun x19 h19 hF => ?_
                     refine pt ar (oCall (T_types_scalar h19)) <| pp oPickT <| pp oMove <| ?_
                     refine spl (d := 110) hF (fun hF => ?_) (fun hF => ?_)
                     · refine pt ar oMove <| pt ar oMove <| ?_
                       refine bb hF fun x20 h20 hF => ?_
                       refine pt ar (oCallZ (T_types_typer_kid h20)) <| pt ar oMove <| pt ar oMove <| ?_
                       refine bb hF fun x21 h21 hF => ?_
                       refine pt ar (oCallZ (T_types_typer_kid h21)) <| pt ar oEql <| pp oPickT <| pp oAssign <| pp oAssign <| ?_
                       obtain rfl := inj hF
                       exact nlC cutR'
                     · refine no fun u9 k9 hk9 => ?_
                       refine no fun u10 k10 hk10 => ?_
                       refine no fun u11 k11 hk11 => ?_
                       refine no fun u12 k12 hk12 => ?_
                       refine no fun u13 k13 hk13 => ?_
                       refine no fun u14 k14 hk14 => ?_
                       refine no fun u15 k15 hk15 => ?_
                       refine pp oPickF <| pp oAssign <| pp oAssign <| ?_
                       obtain rfl := inj hF
                       exact nlC cutR'
                   · refine no fun u16 k16 hk16 => ?_
                     refine no fun u17 k17 hk17 => ?_
                     refine no fun u18 k18 hk18 => ?_
                     refine no fun u19 k19 hk19 => ?_
                     refine pp oPickF <| pp oMove <| ?_
                     refine no fun u20 k20 hk20 => ?_
                     refine no fun u21 k21 hk21 => ?_
                     refine no fun u22 k22 hk22 => ?_
                     refine no fun u23 k23 hk23 => ?_
                     refine no fun u24 k24 hk24 => ?_
                     refine no fun u25 k25 hk25 => ?_
                     refine no fun u26 k26 hk26 => ?_
                     refine pp oPickF <| pp oAssign <| pp oAssign <| ?_
                     obtain rfl := inj hF
                     exact nlC cutR'
                 · refine mk ?_
                   refine rt <| qbR <| qsR <| ?_
                   obtain rfl := inj hF
                   exact finT
               · refine sr <| pp oEql <| pp oAssign <| nl <| ?_
                 refine cd hF (fun hF => ?_) (fun hF => ?_)
                 · refine srD <| pp oMove <| pp oMove <| ?_
                   refine bb hF fun x22 h22 hF => ?_
                   refine pp (oCall (T_types_typer_kid h22)) <| pp oMove <| pp oFA <| pp oLd <| ?_
                   refine bb hF fun x23 h23 hF => ?_
                   refine pp (oIx h23) <| pp oLd <| ?_
                   refine bb hF fun x24 h24 hF => ?_
                   refine pp (oCall (T_types_typer_place h24)) <| pp oAssign <| pp oAssign <| nlD <| rt <| qbR <| qsR <| ?_
                   obtain rfl := inj hF
                   exact finT
                 · refine sk <| qb <| qs <| sr <| pp oMove <| pp oMove <| ?_
                   refine bb hF fun x25 h25 hF => ?_
                   refine pp (oCall (T_types_typer_kid h25)) <| pp oMove <| pp oMove <| ?_
                   refine bb hF fun x26 h26 hF => ?_
                   refine pp (oCallZ (T_types_typer_kid h26)) <| pp oAssign <| pp oAssign <| nl <| sq <| sr <| pp oFA <| pp oLd <| pp oNeqS <| nl <| ?_
                   refine cd hF (fun hF => ?_) (fun hF => ?_)
                   · refine sr <| pp oFA <| pp oLd <| pp oFA <| pp oLd <| pp oLenS <| pp oSub <| ?_
                     refine bb hF fun x27 h27 hF => ?_
                     refine pp (oSlcS h27) <| pp oMove <| pp oMove <| ?_
                     refine bb hF fun x28 h28 hF => ?_
                     refine pp (oCall (T_types_two h28)) <| pp oMove <| pp oExt <| pp oExt <| pp oAssign <| pp oAssign <| nl <| ?_
                     refine srC (fun (s : Bool) => mkSt 183 [4, 5] [(I x25), (B s)]) hF (fun z4 hF => ?_) (fun p4 hF => ?_)
                     · refine pp oMove <| pp oMove <| pp oMove <| pg ar oMove <| pg ar oMove <| pg ar oEql <| pp oPick <| pp oMove <| ?_
                       refine spl (d := 159) hF (fun hF => ?_) (fun hF => ?_)
                       · refine pt ar oMove <| pt ar oFA <| pt ar oLd <| ?_
                         refine bb hF fun x29 h29 hF => ?_
                         refine pt ar (oIx h29) <| pt ar oLd <| ?_
                         refine bb hF fun x30 h30 hF => ?_
                         refine pt ar (oCall (T_types_typer_place h30)) <| pp oPickT <| pp oAssign <| pp oAssign <| ?_
                         obtain rfl := inj hF
                         exact nlC cutR'
                       · refine no fun u27 k27 hk27 => ?_
                         refine no fun u28 k28 hk28 => ?_
                         refine no fun u29 k29 hk29 => ?_
                         refine no fun u30 k30 hk30 => ?_
                         refine no fun u31 k31 hk31 => ?_
                         refine no fun u32 k32 hk32 => ?_
                         refine pp oPickF <| pp oAssign <| pp oAssign <| ?_
                         obtain rfl := inj hF
                         exact nlC cutR'
                     · refine mk ?_
                       refine rt <| qsR <| ?_
                       obtain rfl := inj hF
                       exact finT
                   · refine sk <| qs <| ?_
                     refine srC (fun (s : Bool) => mkSt 183 [4, 5] [(I x25), (B s)]) hF (fun z5 hF => ?_) (fun p5 hF => ?_)
                     · refine pp oMove <| pp oMove <| ?_
                       refine bb hF fun x31 h31 hF => ?_
                       refine pp (oCall (T_types_scalar h31)) <| pp oMove <| pg ar oMove <| pg ar oMove <| pg ar oEql <| pp oPick <| pp oMove <| ?_
                       refine spl (d := 175) hF (fun hF => ?_) (fun hF => ?_)
                       · refine pt ar oMove <| pt ar oFA <| pt ar oLd <| ?_
                         refine bb hF fun x32 h32 hF => ?_
                         refine pt ar (oIx h32) <| pt ar oLd <| ?_
                         refine bb hF fun x33 h33 hF => ?_
                         refine pt ar (oCall (T_types_typer_place h33)) <| pp oPickT <| pp oAssign <| pp oAssign <| ?_
                         obtain rfl := inj hF
                         exact nlC cutR'
                       · refine no fun u33 k33 hk33 => ?_
                         refine no fun u34 k34 hk34 => ?_
                         refine no fun u35 k35 hk35 => ?_
                         refine no fun u36 k36 hk36 => ?_
                         refine no fun u37 k37 hk37 => ?_
                         refine no fun u38 k38 hk38 => ?_
                         refine pp oPickF <| pp oAssign <| pp oAssign <| ?_
                         obtain rfl := inj hF
                         exact nlC cutR'
                     · refine mk ?_
                       refine rt <| ?_
                       obtain rfl := inj hF
                       exact finT
end Go.Ab
namespace Go.Ab
open Go Go.Proofs
noncomputable def types_typer_walk_L1 (rc : XTypes_typer → Int → Option (XApi_Fault × XTypes_typer)) (x1 : XApi_Node) (y10 : XTypes_typer) (y11 : Int) : Option (Lp (XTypes_typer × Int) (Br XTypes_typer (XApi_Fault × XTypes_typer))) :=
 if (decide (y11 < (x1.Kids.length : Int))) then
 ((idx x1.Kids y11).bind fun x2 =>
 (rc y10 x2).bind fun x3 =>
 if (!((x3.1.Code == 0) && ((x3.1.At == 0) && true))) then
 (some (.out (.ret (x3.1, x3.2))))
 else
 (some (.next (x3.2, (w64 (y11 + 1))))))
 else
 (some (.out (.brk y10)))
noncomputable def types_typer_walk_J2 (a1 : Int) (x1 : XApi_Node) (y12 : XTypes_typer) : Option (XApi_Fault × XTypes_typer) :=
 (ast_Expression x1.Kind).bind fun x4 =>
 if (!x4) then
 ((types_typer_statement y12 a1).bind fun x5 =>
 if (x5 != 0) then
 ((core_Fault x5 a1).bind fun x6 =>
 some (x6, y12))
 else
 (some ((XApi_Fault.mk 0 0), y12)))
 else
 ((types_typer_expr y12 a1).bind fun x7 =>
 if (!x7.2) then
 ((core_Fault 8 a1).bind fun x8 =>
 some (x8, y12))
 else
 ((idx y12.of_ a1).bind fun x9 =>
 some ((XApi_Fault.mk 0 0), (XTypes_typer.mk y12.t y12.names (List.set y12.of_ ((a1) : Int).toNat x7.1) y12.fn y12.loops y12.leave))))
noncomputable def types_typer_walk_J1 (rc : XTypes_typer → Int → Option (XApi_Fault × XTypes_typer)) (a1 : Int) (x1 : XApi_Node) (y1 : XTypes_typer) : Option (XApi_Fault × XTypes_typer) :=
 (Loop (fun (s : (XTypes_typer × Int)) => types_typer_walk_L1 rc x1 s.1 s.2) (y1, 0)).bind (Br.go (fun v1 =>
 if (if (if (x1.Kind == 15) then true else (x1.Kind == 16)) then true else (x1.Kind == 17)) then
 (types_typer_walk_J2 a1 x1 (XTypes_typer.mk v1.t v1.names v1.of_ v1.fn (w64 (v1.loops - 1)) (w64 (v1.leave - 1))))
 else
 (if (x1.Kind == 18) then
 (types_typer_walk_J2 a1 x1 (XTypes_typer.mk v1.t v1.names v1.of_ v1.fn v1.loops (w64 (v1.leave - 1))))
 else
 (types_typer_walk_J2 a1 x1 v1))) (fun r1 => some r1))
noncomputable def types_typer_walk_B (rc : XTypes_typer → Int → Option (XApi_Fault × XTypes_typer)) (a0 : XTypes_typer) (a1 : Int) : Option (XApi_Fault × XTypes_typer) :=
 (idx a0.t.Nodes a1).bind fun x1 =>
 if (x1.Kind == 3) then
 (types_typer_walk_J1 rc a1 x1 (XTypes_typer.mk a0.t a0.names a0.of_ x1 a0.loops a0.leave))
 else
 (if (if (if (x1.Kind == 15) then true else (x1.Kind == 16)) then true else (x1.Kind == 17)) then
 (types_typer_walk_J1 rc a1 x1 (XTypes_typer.mk a0.t a0.names a0.of_ a0.fn (w64 (a0.loops + 1)) (w64 (a0.leave + 1))))
 else
 (if (x1.Kind == 18) then
 (types_typer_walk_J1 rc a1 x1 (XTypes_typer.mk a0.t a0.names a0.of_ a0.fn a0.loops (w64 (a0.leave + 1))))
 else
 (types_typer_walk_J1 rc a1 x1 a0)))
noncomputable def types_typer_walk : Nat → XTypes_typer → Int → Option (XApi_Fault × XTypes_typer)
 | 0 => fun _ _ => none
 | m + 1 => types_typer_walk_B (types_typer_walk m)
abbrev R_types_typer_walk (r : (XApi_Fault × XTypes_typer)) : AV := (.agg (cXApi_Fault r.1))
def RR_types_typer_walk (r : (XApi_Fault × XTypes_typer)) (x : Exit × St) : Prop := x.1 = .ret ∧ Fin cx [.cell 4 27] [0] (R_types_typer_walk r) [(.ownp (cXTypes_typer_SIIOIIIe r.2))] x
set_option maxHeartbeats 4000000 in
theorem T_types_typer_walk_B {nn : Nat} {rc : XTypes_typer → Int → Option (XApi_Fault × XTypes_typer)} (ih : ∀ {a0 : XTypes_typer} {a1 : Int} {r : (XApi_Fault × XTypes_typer)}, rc a0 a1 = some r → den cx (nn + 3) 29 [(.ownp (cXTypes_typer_SIIOIIIe a0)), (I a1)] = some (R_types_typer_walk r, [(.ownp (cXTypes_typer_SIIOIIIe r.2))])) {a0 : XTypes_typer} {a1 : Int} {r : (XApi_Fault × XTypes_typer)} (hF : types_typer_walk_B rc a0 a1 = some r) : den cx (nn + 4) 29 [(.ownp (cXTypes_typer_SIIOIIIe a0)), (I a1)] = some (R_types_typer_walk r, [(.ownp (cXTypes_typer_SIIOIIIe r.2))]) := by
 unfold types_typer_walk_B at hF
 refine fnA Try.func29 Try.ntmps29 (by exact spine) (sl := [0, 1]) ?_
 refine sr <| ww oAlloc <| nl <| sr <| pp oMove <| pp oNil <| pp oFAM <| pp oFAM <| rr oLdR <| pp oMove <| ?_
 refine bb hF fun x1 h1 hF => ?_
 refine pp (oIx h1) <| pp oLdA <| ww oAlloc <| ww oStF <| nl <| sr <| pp oFA <| pp oLd <| pp oEql <| pp oMove <| pg ar oFA <| pg ar oLd <| pg ar oEql <| pp oPick <| ?_
 refine pp oMove <| pg ar oFA <| pg ar oLd <| pg ar oEql <| pp oPick <| pp oAssign <| nl <| ?_
 refine sjn (r := r) (fun (s : XTypes_typer) => mkSt 142 [0, 1, 4, 5, 6] [(.ownp (cXTypes_typer_SIIOIIIe s)), (I a1), (.ownp (cXApi_Fault (XApi_Fault.mk 0 0))), (.vp (cXApi_Node x1)), (B (if (if (x1.Kind == 15) then true else (x1.Kind == 16)) then true else (x1.Kind == 17)))]) (fun s => types_typer_walk_J1 rc a1 x1 s) ?_ ?_
 · refine bl <| sr <| pp oFA <| pp oLd <| pp oEql <| pp oAssign <| nl <| ?_
   refine cd hF (fun hF => ?_) (fun hF => ?_)
   · refine rg <| pp oMove <| pp oLdA <| pp oNil <| pp oFAM <| ww oStR <| nl <| qb <| ?_
     exact qj (XTypes_typer.mk a0.t a0.names a0.of_ x1 a0.loops a0.leave) hF cutR'
   · refine sr <| pp oMove <| pp oAssign <| nl <| ?_
     refine cd hF (fun hF => ?_) (fun hF => ?_)
     · refine sr <| pp oMove <| pp oNil <| pp oFAM <| rr oLdR <| pp oAdd <| pp oNil <| pp oFAM <| ww oStR <| nl <| rg <| pp oMove <| pp oNil <| pp oFAM <| ?_
       refine rr oLdR <| pp oAdd <| pp oNil <| pp oFAM <| ww oStR <| nl <| qb <| ?_
       exact qj (XTypes_typer.mk a0.t a0.names a0.of_ a0.fn (w64 (a0.loops + 1)) (w64 (a0.leave + 1))) hF cutR'
     · refine sr <| pp oFA <| pp oLd <| pp oEql <| pp oAssign <| nl <| ?_
       refine cd hF (fun hF => ?_) (fun hF => ?_)
       · refine rg <| pp oMove <| pp oNil <| pp oFAM <| rr oLdR <| pp oAdd <| pp oNil <| pp oFAM <| ww oStR <| nl <| qb <| ?_
         exact qj (XTypes_typer.mk a0.t a0.names a0.of_ a0.fn a0.loops (w64 (a0.leave + 1))) hF cutR'
       · refine sk <| qb <| ?_
         exact qj a0 hF cutR'
 · rintro y1 hF
   replace hF : types_typer_walk_J1 rc a1 x1 y1 = some r := hF
   unfold types_typer_walk_J1 at hF
   refine mk ?_
   refine sq <| sr <| pp oFA <| pp oLd <| pp oLenSl <| pp oMove <| nl <| ?_
   refine lpR (fun (s : (XTypes_typer × Int)) => mkSt 142 [0, 1, 4, 5, 6, 70, 71, 72] [(.ownp (cXTypes_typer_SIIOIIIe s.1)), (I a1), (.ownp (cXApi_Fault (XApi_Fault.mk 0 0))), (.vp (cXApi_Node x1)), (B (if (if (x1.Kind == 15) then true else (x1.Kind == 16)) then true else (x1.Kind == 17))), (.sl ((x1.Kids).map cInt_i64)), (I (x1.Kids.length : Int)), (I s.2)]) (fun (s : XTypes_typer) => mkSt 142 [0, 1, 4, 5, 6] [(.ownp (cXTypes_typer_SIIOIIIe s)), (I a1), (.ownp (cXApi_Fault (XApi_Fault.mk 0 0))), (.vp (cXApi_Node x1)), (B (if (if (x1.Kind == 15) then true else (x1.Kind == 16)) then true else (x1.Kind == 17)))]) RR_types_typer_walk hF cutR' ?_ ?_ ?_
   · rintro ⟨y10, y11⟩ z1 hF
     replace hF : types_typer_walk_L1 rc x1 y10 y11 = some z1 := hF
     unfold types_typer_walk_L1 at hF
     refine mk ?_
     refine sr <| pp oLss <| nl <| sq <| ?_
     refine cd hF (fun hF => ?_) (fun hF => ?_)
     · refine sk <| qs <| sq <| bl <| sr <| ?_
       refine bb hF fun x2 h2 hF => ?_
       refine pp (oIx h2) <| pp oLd <| pp oAssign <| nl <| sr <| pp oMove <| pp oMove <| ?_
       refine bb hF fun x3 h3 hF => ?_
       refine ww (oCallT (ih h3)) <| ww oAlloc <| ww oStF <| nl <| sr <| pp oLdA <| pp oBuild <| pp (oStq (eq27_neq ..)) <| nl <| ?_
       refine cd hF (fun hF => ?_) (fun hF => ?_)
       · refine sr <| pp oLdA <| ww oStR <| nl <| rt <| qbR <| qsR <| ?_
         exact lr hF ⟨rfl, fin1⟩
       · refine sk <| qb <| qs <| rg <| pp oAdd <| pp oMove <| nl <| ?_
         exact ln hF cutR'
     · refine ex <| qsE <| ?_
       exact lxR hF cutR'
   · intro v1 hF
     refine qmk ?_
     refine qs <| ?_
     refine sjn (r := r) (fun (s : XTypes_typer) => mkSt 142 [0, 1, 4, 5] [(.ownp (cXTypes_typer_SIIOIIIe s)), (I a1), (.ownp (cXApi_Fault (XApi_Fault.mk 0 0))), (.vp (cXApi_Node x1))]) (fun s => types_typer_walk_J2 a1 x1 s) ?_ ?_
     · refine bl <| sr <| pp oMove <| pp oAssign <| nl <| ?_
       refine cd hF (fun hF => ?_) (fun hF => ?_)
       · refine sr <| pp oMove <| pp oNil <| pp oFAM <| rr oLdR <| pp oSub <| pp oNil <| pp oFAM <| ww oStR <| nl <| rg <| pp oMove <| pp oNil <| pp oFAM <| ?_
         refine rr oLdR <| pp oSub <| pp oNil <| pp oFAM <| ww oStR <| nl <| qb <| ?_
         exact qj (XTypes_typer.mk v1.t v1.names v1.of_ v1.fn (w64 (v1.loops - 1)) (w64 (v1.leave - 1))) hF cutR'
       · refine sr <| pp oFA <| pp oLd <| pp oEql <| pp oAssign <| nl <| ?_
         refine cd hF (fun hF => ?_) (fun hF => ?_)
         · refine rg <| pp oMove <| pp oNil <| pp oFAM <| rr oLdR <| pp oSub <| pp oNil <| pp oFAM <| ww oStR <| nl <| qb <| ?_
           exact qj (XTypes_typer.mk v1.t v1.names v1.of_ v1.fn v1.loops (w64 (v1.leave - 1))) hF cutR'
         · refine sk <| qb <| ?_
           exact qj v1 hF cutR'
     · rintro y12 hF
       replace hF : types_typer_walk_J2 a1 x1 y12 = some r := hF
       unfold types_typer_walk_J2 at hF
       refine mk ?_
       refine sq <| sr <| pp oFA <| pp oLd <| ?_
       refine bb hF fun x4 h4 hF => ?_
       refine pp (oCallZ (T_ast_Expression h4)) <| pp oNot <| nl <| ?_
       refine cd hF (fun hF => ?_) (fun hF => ?_)
       · refine sq <| sr <| pp oMove <| pp oMove <| ?_
         refine bb hF fun x5 h5 hF => ?_
         refine rr (oCallZ (T_types_typer_statement h5)) <| pp oAssign <| nl <| sr <| pp oMove <| pp oNeq <| nl <| ?_
         refine cd hF (fun hF => ?_) (fun hF => ?_)
         · refine sr <| pp oMove <| pp oMove <| ?_
           refine bb hF fun x6 h6 hF => ?_
           refine pp (oCall (T_core_Fault h6)) <| ww oStR <| nl <| rt <| qsR <| qsR <| ?_
           obtain rfl := inj hF
           exact fin1
         · refine sk <| qs <| sr <| pp oBuild <| ww oStR <| nl <| rt <| qsR <| ?_
           obtain rfl := inj hF
           exact fin1
       · refine sk <| qs <| sr <| pp oMove <| pp oMove <| ?_
         refine bb hF fun x7 h7 hF => ?_
         refine rr (oCallZ (T_types_typer_expr h7)) <| pp oMove <| pp oExt <| pp oExt <| pp oAssign <| pp oAssign <| nl <| sq <| sr <| pp oMove <| pp oNot <| nl <| ?_
         refine cd hF (fun hF => ?_) (fun hF => ?_)
         · refine sr <| pp oMove <| ?_
           refine bb hF fun x8 h8 hF => ?_
           refine pp (oCall (T_core_Fault h8)) <| ww oStR <| nl <| rt <| qsR <| ?_
           obtain rfl := inj hF
           exact fin1
         · refine sk <| qs <| sr <| pp oMove <| pp oNil <| pp oFAM <| rr oLdR <| pp oMove <| pp oMove <| ?_
           refine bb hF fun x9 h9 hF => ?_
           refine rr (oIxM h9) <| ww (oStL (idx_nat h9) x7.1) <| nl <| sr <| pp oBuild <| ww oStR <| nl <| rt <| ?_
           obtain rfl := inj hF
           exact fin1
   · rintro r1 hF ⟨xe, xs⟩ ⟨hxe, hfin⟩
     obtain rfl : xe = Exit.ret := hxe
     obtain rfl := inj hF
     refine qbR <| qsR <| ?_
     exact hfin
theorem T_types_typer_walk : ∀ {fu nn : Nat} {a0 : XTypes_typer} {a1 : Int} {r : (XApi_Fault × XTypes_typer)} (hF : types_typer_walk fu a0 a1 = some r), den cx (fu + nn + 4) 29 [(.ownp (cXTypes_typer_SIIOIIIe a0)), (I a1)] = some (R_types_typer_walk r, [(.ownp (cXTypes_typer_SIIOIIIe r.2))])
 | 0, _, _, _, _, hF => by cases hF
 | m + 1, nn, _, _, _, hF => by
  rw [show m + 1 + nn + 4 = m + nn + 1 + 4 by omega]
  refine T_types_typer_walk_B (nn := m + nn + 1) (rc := types_typer_walk m) (fun h => ?_) hF
  have := T_types_typer_walk (nn := nn) h
  rwa [show m + nn + 4 = m + nn + 1 + 3 by omega] at this
noncomputable def types_Of_R1 (a0 : XApi_Tree) (x3 : (XApi_Fault × XTypes_typer)) (y21 : (Int × XApi_Node)) : Option (Rg Unit (Sum (XApi_Tree × Int × Int × (List XApi_Node) × (List Int) × (List Int) × Int × ByteArray × Int × Int × (List Int) × Int × Int × Int) (XApi_Tree × (List Int) × (List XApi_Node) × (List Int) × Int × ByteArray × Int × Int × (List Int) × Int × Int × Int))) :=
 if (if (y21.2.Kind == 3) then (y21.2.Text.toList == (ByteArray.mk #[109, 97, 105, 110]).toList) else false) then
 (if (decide (1 < (y21.2.Kids.length : Int))) then
 ((idx a0.Nodes (w64 ((a0.Nodes.length : Int) - 1))).bind fun x7 =>
 (idx x7.Kids y21.1).bind fun x8 =>
 (core_Fault 5 x8).bind fun x9 =>
 some (.ret (.inl (a0, x9.Code, x9.At, x3.2.t.Nodes, x3.2.names, x3.2.of_, x3.2.fn.Kind, x3.2.fn.Text, x3.2.fn.N, x3.2.fn.Size, x3.2.fn.Kids, x3.2.fn.At, x3.2.loops, x3.2.leave))))
 else
 (some (.ret (.inr (a0, x3.2.of_, x3.2.t.Nodes, x3.2.names, x3.2.fn.Kind, x3.2.fn.Text, x3.2.fn.N, x3.2.fn.Size, x3.2.fn.Kids, x3.2.fn.At, x3.2.loops, x3.2.leave)))))
 else
 (some (.go ()))
noncomputable def types_Of (fu : Nat) (a0 : XApi_Tree) : Option ((List Int) × XApi_Fault) :=
 (scope_Names fu a0).bind fun x1 =>
 if (!((x1.2.Code == 0) && ((x1.2.At == 0) && true))) then
 (some ([], x1.2))
 else
 ((mks (a0.Nodes.length : Int) (0 : Int)).bind fun x2 =>
 (types_typer_walk fu (XTypes_typer.mk a0 x1.1 x2 (XApi_Node.mk 0 (ByteArray.mk #[]) 0 0 [] 0) 0 0) (w64 ((a0.Nodes.length : Int) - 1))).bind fun x3 =>
 if (!((x3.1.Code == 0) && ((x3.1.At == 0) && true))) then
 (some ([], x3.1))
 else
 ((ast_Kids a0 (w64 ((a0.Nodes.length : Int) - 1))).bind fun x4 =>
 (kidsOf XApi_Node.Kids x4.1.Nodes x4.2).bind fun x6 =>
 (RangeL (fun (y21 : (Int × XApi_Node)) (s : Unit) => types_Of_R1 a0 x3 y21) x6 ()).bind (Rg.on (fun (s : Unit) =>
 ((core_Fault 6 0).bind fun x10 =>
 some ([], x10))) (Sum.elim (fun (s : (XApi_Tree × Int × Int × (List XApi_Node) × (List Int) × (List Int) × Int × ByteArray × Int × Int × (List Int) × Int × Int × Int)) =>
 (some ([], (XApi_Fault.mk s.2.1 s.2.2.1)))) (fun (s : (XApi_Tree × (List Int) × (List XApi_Node) × (List Int) × Int × ByteArray × Int × Int × (List Int) × Int × Int × Int)) =>
 (some (s.2.1, (XApi_Fault.mk 0 0))))) (fun _ => none))))
abbrev R_types_Of (r : ((List Int) × XApi_Fault)) : AV := (.tup [(.own ((r.1).map cInt_i64) (r.1).length), (.agg (cXApi_Fault r.2))])
set_option maxHeartbeats 4000000 in
theorem T_types_Of {fu nn : Nat} {a0 : XApi_Tree} {r : ((List Int) × XApi_Fault)} (hF : types_Of fu a0 = some r) : den cx (fu + nn + 7) 9 [(.agg (cXApi_Tree a0))] = some (R_types_Of r, []) := by
 unfold types_Of at hF
 refine fnA Try.func9 Try.ntmps9 (by exact spine) (sl := [0]) ?_
 refine sr <| pp oBoxF <| ww oAlloc <| ww oAlloc <| nl <| sr <| pp oLdA <| ?_
 refine bb hF fun x1 h1 hF => ?_
 refine pp (oCallZ (dnE (T_scope_Names (fu := fu) (nn := nn + 0) h1) (by omega))) <| pp oMove <| pp oExt <| pp oExt <| ww oAlloc <| pp oAssign <| ww oStF <| nl <| sq <| sr <| pp oLdA <| pp oBuild <| pp (oStq (eq27_neq ..)) <| nl <| ?_
 refine cd hF (fun hF => ?_) (fun hF => ?_)
 · refine srD <| pp oLdA <| ww oStR <| ww oStR <| nlD <| rt <| qsR <| ?_
   obtain rfl := inj hF
   exact finT
 · refine sk <| qs <| srD <| pp oLdA <| pp oMove <| pp oFA <| pp oLd <| pp oLenSl <| ?_
   refine bb hF fun x2 h2 hF => ?_
   refine ww (oMake (c := cInt_i64) h2 rfl) <| pp oBuildZ <| ww oBoxM <| ww oAlloc <| ww oStR <| nlD <| sq <| sr <| rr oLdR <| pp oFA <| pp oLd <| pp oLenSl <| pp oSub <| ?_
   refine bb hF fun x3 h3 hF => ?_
   refine ww (oCallT (dnE (T_types_typer_walk (fu := fu) (nn := nn + 2) h3) (by omega))) <| ww oAlloc <| ww oStF <| nl <| sr <| pp oLdA <| pp oBuild <| pp (oStq (eq27_neq ..)) <| nl <| ?_
   refine cd hF (fun hF => ?_) (fun hF => ?_)
   · refine srD <| pp oLdA <| ww oStR <| ww oStR <| nlD <| rt <| qsR <| ?_
     obtain rfl := inj hF
     exact finT
   · refine sk <| qs <| sq <| sr <| pp oLdA <| pp oFA <| pp oLd <| pp oLenSl <| pp oSub <| ?_
     refine bb hF fun x4 h4 hF => ?_
     refine pp (oCallZ (T_ast_Kids h4)) <| nl <| bl <| ?_
     refine bb hF fun x6 h6 hF => ?_
     refine rng2 (fun (s : Unit) => stN 76 [(1, (.vp (cXApi_Tree a0))), (2, (.mp [0, 2] 0 0)), (3, (.mp [0, 3] 0 0)), (6, (.mp [0, 6] 0 0))] [([0, 2], [[(.own (([] : List Int).map cInt_i64) ([] : List Int).length)]]), ([0, 3], [[(I 0), (I 0)]]), ([0, 6], [[(.mp [0, 0, 6] 0 0)]]), ([0, 0, 6], [[(.sl ((x3.2.t.Nodes).map cXApi_Node)), (.sl ((x3.2.names).map cInt_i64)), (.own ((x3.2.of_).map cInt_i64) (x3.2.of_).length), (I x3.2.fn.Kind), (AV.val (.string x3.2.fn.Text)), (I x3.2.fn.N), (I x3.2.fn.Size), (.sl ((x3.2.fn.Kids).map cInt_i64)), (I x3.2.fn.At), (I x3.2.loops), (I x3.2.leave)]])]) (Sum.elim (fun (s : (XApi_Tree × Int × Int × (List XApi_Node) × (List Int) × (List Int) × Int × ByteArray × Int × Int × (List Int) × Int × Int × Int)) => stN 76 [(1, (.vp (cXApi_Tree s.1))), (2, (.mp [0, 2] 0 0)), (3, (.mp [0, 3] 0 0)), (6, (.mp [0, 6] 0 0))] [([0, 2], [[(.own (([] : List Int).map cInt_i64) ([] : List Int).length)]]), ([0, 3], [[(I s.2.1), (I s.2.2.1)]]), ([0, 6], [[(.mp [0, 0, 6] 0 0)]]), ([0, 0, 6], [[(.sl ((s.2.2.2.1).map cXApi_Node)), (.sl ((s.2.2.2.2.1).map cInt_i64)), (.own ((s.2.2.2.2.2.1).map cInt_i64) (s.2.2.2.2.2.1).length), (I s.2.2.2.2.2.2.1), (AV.val (.string s.2.2.2.2.2.2.2.1)), (I s.2.2.2.2.2.2.2.2.1), (I s.2.2.2.2.2.2.2.2.2.1), (.sl ((s.2.2.2.2.2.2.2.2.2.2.1).map cInt_i64)), (I s.2.2.2.2.2.2.2.2.2.2.2.1), (I s.2.2.2.2.2.2.2.2.2.2.2.2.1), (I s.2.2.2.2.2.2.2.2.2.2.2.2.2)]])]) (fun (s : (XApi_Tree × (List Int) × (List XApi_Node) × (List Int) × Int × ByteArray × Int × Int × (List Int) × Int × Int × Int)) => stN 76 [(1, (.vp (cXApi_Tree s.1))), (2, (.mp [0, 2] 0 0)), (3, (.mp [0, 3] 0 0)), (6, (.mp [0, 6] 0 0))] [([0, 2], [[(.rs [0, 0, 2] 0 s.2.1.length)]]), ([0, 0, 2], (s.2.1).map cInt_i64), ([0, 3], [[(I 0), (I 0)]]), ([0, 6], [[(.mp [0, 0, 6] 0 0)]]), ([0, 0, 6], [[(.sl ((s.2.2.1).map cXApi_Node)), (.sl ((s.2.2.2.1).map cInt_i64)), (.rs [0, 0, 2] 0 s.2.1.length), (I s.2.2.2.2.1), (AV.val (.string s.2.2.2.2.2.1)), (I s.2.2.2.2.2.2.1), (I s.2.2.2.2.2.2.2.1), (.sl ((s.2.2.2.2.2.2.2.2.1).map cInt_i64)), (I s.2.2.2.2.2.2.2.2.2.1), (I s.2.2.2.2.2.2.2.2.2.2.1), (I s.2.2.2.2.2.2.2.2.2.2.2)]])])) 0 (enc := (kidE cXApi_Node)) hF (by exact kidsR (by rfl) h6) cutN' (fun _ => rfl) (fun _ => rfl) (by rfl) ?_ ?_ ?_ ?_
     · rintro y21 _ z1 hF
       replace hF : types_Of_R1 a0 x3 y21 = some z1 := hF
       unfold types_Of_R1 at hF
       refine rstm ?_
       refine sr <| pp oAssign <| nl <| rg <| ww oAlloc <| ww oStF <| nl <| rga <| bl <| sr <| pp oFA <| pp oLd <| pp oEql <| pp oMove <| ?_
       refine pg ar oFA <| pg ar oLd <| pg ar oEqlS <| pp oPick <| nl <| ?_
       refine cd hF (fun hF => ?_) (fun hF => ?_)
       · refine sq <| sr <| pp oFA <| pp oLd <| pp oLenSl <| pp oGtr <| nl <| ?_
         refine cd hF (fun hF => ?_) (fun hF => ?_)
         · refine sr <| pp oFA <| pp oLd <| pp oFA <| pp oLd <| pp oLenSl <| pp oSub <| ?_
           refine bb hF fun x7 h7 hF => ?_
           refine pp (oIx h7) <| pp oFA <| pp oLd <| pp oMove <| ?_
           refine bb hF fun x8 h8 hF => ?_
           refine pp (oIx h8) <| pp oLd <| ?_
           refine bb hF fun x9 h9 hF => ?_
           refine pp (oCall (T_core_Fault h9)) <| ww oStR <| ww oStR <| nl <| rt <| qsR <| qbR <| ?_
           exact rgr hF cutN'
         · refine sk <| qs <| sr <| rr oLdR <| pp oNil <| pp oFAM <| ww oLdX <| pp oBuild <| ww oStR <| ww oStR <| nl <| rt <| qbR <| ?_
           exact rgr hF cutN'
       · refine sk <| qb <| ?_
         exact rgo hF cutN'
     · intro s hF
       refine qst <| qb <| qs <| sr <| ?_
       refine bb hF fun x10 h10 hF => ?_
       refine pp (oCall (T_core_Fault h10)) <| ww oStR <| ww oStR <| nl <| rt <| ?_
       obtain rfl := inj hF
       exact finT
     · rintro (s | s) hF
       · refine qst <| qbR <| qsR <| ?_
         obtain rfl := inj hF
         exact finT
       · refine qst <| qbR <| qsR <| ?_
         obtain rfl := inj hF
         exact finT
     · exact fun _ hF => by cases hF
noncomputable def ref1_Typing_call_L1 (a1 : XApi_Tree) (a3 : (List Int)) (x5 : XApi_Node) (y6 : Int) : Option (Lp Int (Br Unit Int)) :=
 if (decide (y6 < (a3.length : Int))) then
 ((idx a3 y6).bind fun x6 =>
 (idx x5.Kids y6).bind fun x7 =>
 (idx a1.Nodes x7).bind fun x8 =>
 if (x6 != x8.N) then
 (some (.out (.ret (-1))))
 else
 (some (.next (w64 (y6 + 1)))))
 else
 (some (.out (.brk ())))
noncomputable def ref1_Typing_call (a0 : XTurneryref1_Typing) (a1 : XApi_Tree) (a2 : Int) (a3 : (List Int)) : Option Int :=
 (idx a0.Names a2).bind fun x1 =>
 if (decide (x1 < 0)) then
 (((idx a1.Nodes a2).bind fun x2 =>
 if (if (x2.Text.toList == (ByteArray.mk #[114, 101, 97, 100]).toList) then ((a3.length : Int) == 0) else false) then
 (some true)
 else
 ((idx a1.Nodes a2).bind fun x3 =>
 if (if (x3.Text.toList == (ByteArray.mk #[112, 114, 105, 110, 116]).toList) then ((a3.length : Int) == 1) else false) then
 ((idx a3 0).bind fun x4 =>
 some (x4 == 1))
 else
 (some false))).bind fun p1 =>
 if p1 then
 (some 1)
 else
 (some (-1)))
 else
 ((idx a1.Nodes x1).bind fun x5 =>
 if ((a3.length : Int) != (w64 ((x5.Kids.length : Int) - 1))) then
 (some (-1))
 else
 ((Loop (fun (s : Int) => ref1_Typing_call_L1 a1 a3 x5 s) 0).bind (Br.go (fun _ =>
 (idx a1.Nodes x1).bind fun x9 =>
 some x9.N) (fun r1 => some r1))))
abbrev R_ref1_Typing_call (r : Int) : AV := (I r)
def RR_ref1_Typing_call (r : Int) (x : Exit × St) : Prop := x.1 = .ret ∧ Fin cx [.tmp 8] [] (R_ref1_Typing_call r) [] x
set_option maxHeartbeats 4000000 in
theorem T_ref1_Typing_call {nn : Nat} {a0 : XTurneryref1_Typing} {a1 : XApi_Tree} {a2 : Int} {a3 : (List Int)} {r : Int} (hF : ref1_Typing_call a0 a1 a2 a3 = some r) : den cx (nn + 1) 82 [(.agg (cXTurneryref1_Typing a0)), (.agg (cXApi_Tree a1)), (I a2), (.sl ((a3).map cInt_i64))] = some (R_ref1_Typing_call r, []) := by
 unfold ref1_Typing_call at hF
 refine fnA Try.func82 Try.ntmps82 (by exact spine) (sl := [0, 1, 2, 3]) ?_
 refine sr <| pp oBoxF <| pp oBoxF <| pp oAssign <| nl <| sr <| pp oFA <| pp oLd <| pp oMove <| ?_
 refine bb hF fun x1 h1 hF => ?_
 refine pp (oIx h1) <| pp oLd <| pp oAssign <| nl <| sq <| sr <| pp oMove <| pp oLss <| nl <| ?_
 refine cd hF (fun hF => ?_) (fun hF => ?_)
 · refine sq <| ?_
   refine srC (fun (s : Bool) => mkSt 89 [50] [(B s)]) hF (fun z1 hF => ?_) (fun p1 hF => ?_)
   · refine pp oFA <| pp oLd <| pp oMove <| ?_
     refine bb hF fun x2 h2 hF => ?_
     refine pp (oIx h2) <| pp oFA <| pp oLd <| pp oEqlS <| pp oMove <| pg ar oMove <| pg ar oLenSl <| pg ar oEql <| pp oPick <| pp oMove <| ?_
     refine spl (d := 31) hF (fun hF => ?_) (fun hF => ?_)
     · refine no fun u1 k1 hk1 => ?_
       refine no fun u2 k2 hk2 => ?_
       refine no fun u3 k3 hk3 => ?_
       refine no fun u4 k4 hk4 => ?_
       refine no fun u5 k5 hk5 => ?_
       refine no fun u6 k6 hk6 => ?_
       refine no fun u7 k7 hk7 => ?_
       refine no fun u8 k8 hk8 => ?_
       refine no fun u9 k9 hk9 => ?_
       refine no fun u10 k10 hk10 => ?_
       refine no fun u11 k11 hk11 => ?_
       refine no fun u12 k12 hk12 => ?_
       refine no fun u13 k13 hk13 => ?_
       refine no fun u14 k14 hk14 => ?_
       refine no fun u15 k15 hk15 => ?_
       refine no fun u16 k16 hk16 => ?_
       refine no fun u17 k17 hk17 => ?_
       refine no fun u18 k18 hk18 => ?_
       refine pp oPickT <| ?_
       obtain rfl := inj hF
       exact nlC cutR'
     · refine pt ar oFA <| pt ar oLd <| pt ar oMove <| ?_
       refine bb hF fun x3 h3 hF => ?_
       refine pt ar (oIx h3) <| pt ar oFA <| pt ar oLd <| pt ar oEqlS <| pt ar oMove <| pg ar oMove <| pg ar oLenSl <| pg ar oEql <| pt ar oPick <| pt ar oMove <| ?_
       refine splG (d := 44) hF (fun hF => ?_) (fun hF => ?_)
       · refine pt ar oMove <| ?_
         refine bb hF fun x4 h4 hF => ?_
         refine pt ar (oIx h4) <| pt ar oLd <| pt ar oEql <| pt ar oPickT <| pp oPickF <| ?_
         obtain rfl := inj hF
         exact nlC cutR'
       · refine no fun u19 k19 hk19 => ?_
         refine no fun u20 k20 hk20 => ?_
         refine no fun u21 k21 hk21 => ?_
         refine no fun u22 k22 hk22 => ?_
         refine pt ar oPickF <| pp oPickF <| ?_
         obtain rfl := inj hF
         exact nlC cutR'
   · refine mk ?_
     refine cd hF (fun hF => ?_) (fun hF => ?_)
     · refine sr <| pp oAssign <| nl <| rt <| qsR <| qsR <| ?_
       obtain rfl := inj hF
       exact fin1
     · refine sk <| qs <| sr <| pp oAssign <| nl <| rt <| qsR <| ?_
       obtain rfl := inj hF
       exact fin1
 · refine sk <| qs <| sr <| pp oFA <| pp oLd <| pp oMove <| ?_
   refine bb hF fun x5 h5 hF => ?_
   refine pp (oIx h5) <| pp oFA <| pp oLd <| pp oAssign <| nl <| sq <| sr <| pp oMove <| pp oLenSl <| pp oMove <| pp oLenSl <| pp oSub <| pp oNeq <| nl <| ?_
   refine cd hF (fun hF => ?_) (fun hF => ?_)
   · refine sr <| pp oAssign <| nl <| rt <| qsR <| ?_
     obtain rfl := inj hF
     exact fin1
   · refine sk <| qs <| sq <| sr <| pp oAssign <| nl <| ?_
     refine lpR (fun (s : Int) => mkSt 89 [3, 5, 9, 10, 11] [(.sl ((a3).map cInt_i64)), (.vp (cXApi_Tree a1)), (I x1), (.sl ((x5.Kids).map cInt_i64)), (I s)]) (fun (s : Unit) => mkSt 89 [5, 9] [(.vp (cXApi_Tree a1)), (I x1)]) RR_ref1_Typing_call hF cutR' ?_ ?_ ?_
     · rintro y6 z2 hF
       replace hF : ref1_Typing_call_L1 a1 a3 x5 y6 = some z2 := hF
       unfold ref1_Typing_call_L1 at hF
       refine mk ?_
       refine sq <| sr <| pp oMove <| pp oMove <| pp oLenSl <| pp oLss <| nl <| ?_
       refine cd hF (fun hF => ?_) (fun hF => ?_)
       · refine sk <| qs <| sq <| bl <| srD <| pp oMove <| pp oMove <| ?_
         refine bb hF fun x6 h6 hF => ?_
         refine pp (oIx h6) <| pp oLd <| pp oFA <| pp oLd <| pp oMove <| pp oMove <| ?_
         refine bb hF fun x7 h7 hF => ?_
         refine pp (oIx h7) <| pp oLd <| ?_
         refine bb hF fun x8 h8 hF => ?_
         refine pp (oIx h8) <| pp oFA <| pp oLd <| pp oNeq <| nlD <| ?_
         refine cd hF (fun hF => ?_) (fun hF => ?_)
         · refine sr <| pp oAssign <| nl <| rt <| qbR <| qsR <| ?_
           exact lr hF ⟨rfl, fin1⟩
         · refine sk <| qb <| qs <| rg <| pp oMove <| pp oAdd <| pp oAssign <| nl <| ?_
           exact ln hF cutR'
       · refine ex <| qsE <| ?_
         exact lxR hF cutR'
     · intro _ hF
       refine qmk ?_
       refine qs <| sr <| pp oFA <| pp oLd <| pp oMove <| ?_
       refine bb hF fun x9 h9 hF => ?_
       refine pp (oIx h9) <| pp oFA <| pp oLd <| pp oAssign <| nl <| rt <| ?_
       obtain rfl := inj hF
       exact fin1
     · rintro r1 hF ⟨xe, xs⟩ ⟨hxe, hfin⟩
       obtain rfl : xe = Exit.ret := hxe
       obtain rfl := inj hF
       refine qbR <| qsR <| ?_
       exact hfin
noncomputable def ref1_scalar (a0 : Int) : Option Bool :=
 some (if (a0 == 1) then true else (a0 == 2))
abbrev R_ref1_scalar (r : Bool) : AV := (B r)
set_option maxHeartbeats 4000000 in
theorem T_ref1_scalar {nn : Nat} {a0 : Int} {r : Bool} (hF : ref1_scalar a0 = some r) : den cx (nn + 1) 85 [(I a0)] = some (R_ref1_scalar r, []) := by
 unfold ref1_scalar at hF
 refine fnA Try.func85 Try.ntmps85 (by exact spine) (sl := [0]) ?_
 refine sr <| pp oAssign <| nl <| sr <| pp oMove <| pp oEql <| pp oMove <| pg ar oMove <| pg ar oEql <| pp oPick <| pp oAssign <| nl <| rt <| ?_
 obtain rfl := inj hF
 exact fin1
noncomputable def ref1_Put (a0 : XApi_Tree) (a1 : (List Int)) (a2 : Int) : Option Bool :=
 (idx a0.Nodes a2).bind fun x1 =>
 if (x1.Kind == 32) then
 ((idx a1 a2).bind fun x2 =>
 (idx a0.Nodes x2).bind fun x3 =>
 some (x3.N != 3))
 else
 (some (if (x1.Kind == 34) then true else (if (x1.Kind == 35) then (x1.Text.toList == (ByteArray.mk #[42]).toList) else false)))
abbrev R_ref1_Put (r : Bool) : AV := (B r)
set_option maxHeartbeats 4000000 in
theorem T_ref1_Put {nn : Nat} {a0 : XApi_Tree} {a1 : (List Int)} {a2 : Int} {r : Bool} (hF : ref1_Put a0 a1 a2 = some r) : den cx (nn + 1) 86 [(.agg (cXApi_Tree a0)), (.sl ((a1).map cInt_i64)), (I a2)] = some (R_ref1_Put r, []) := by
 unfold ref1_Put at hF
 refine fnA Try.func86 Try.ntmps86 (by exact spine) (sl := [0, 1, 2]) ?_
 refine sr <| pp oBoxF <| pp oAssign <| nl <| sr <| pp oFA <| pp oLd <| pp oMove <| ?_
 refine bb hF fun x1 h1 hF => ?_
 refine pp (oIx h1) <| pp oLdA <| ww oAlloc <| ww oStF <| nl <| sq <| sr <| pp oFA <| pp oLd <| pp oEql <| nl <| ?_
 refine cd hF (fun hF => ?_) (fun hF => ?_)
 · refine srD <| pp oFA <| pp oLd <| pp oMove <| pp oMove <| ?_
   refine bb hF fun x2 h2 hF => ?_
   refine pp (oIx h2) <| pp oLd <| ?_
   refine bb hF fun x3 h3 hF => ?_
   refine pp (oIx h3) <| pp oFA <| pp oLd <| pp oNeq <| pp oAssign <| nlD <| rt <| qsR <| ?_
   obtain rfl := inj hF
   exact fin1
 · refine sk <| qs <| sr <| pp oFA <| pp oLd <| pp oEql <| pp oMove <| pg ar oFA <| pg ar oLd <| pg ar oEql <| pg ar oMove <| pg ar oFA <| pg ar oLd <| pg ar oEqlS <| ?_
   refine pg ar oPick <| pp oPick <| pp oAssign <| nl <| rt <| ?_
   obtain rfl := inj hF
   exact fin1
noncomputable def ref1_Typing_ahead_J3 (y3 : Bool) (y4 : Int) : Option Int :=
 if y3 then
 (some y4)
 else
 (some (-1))
noncomputable def ref1_Typing_ahead_J2 (a0 : XTurneryref1_Typing) (a1 : XApi_Tree) (a3 : Int) (x1 : XApi_Node) (x3 : Int) (y2 : Bool) : Option Int :=
 if (x1.Text.toList == (ByteArray.mk #[38]).toList) then
 ((if (a3 == 1) then
 ((ref1_Put a1 a0.Names x3).bind fun x4 =>
 some x4)
 else
 (some false)).bind fun p1 =>
 (if p1 then
 ((idx a1.Nodes x3).bind fun x5 =>
 some (x5.Kind == 32))
 else
 (some false)).bind fun p2 =>
 if p2 then
 ((idx a0.Names x3).bind fun x6 =>
 (idx a1.Nodes x6).bind fun x7 =>
 ref1_Typing_ahead_J3 (x7.Kind == 2) 2)
 else
 (ref1_Typing_ahead_J3 p1 2))
 else
 (ref1_Typing_ahead_J3 y2 1)
noncomputable def ref1_Typing_ahead_J1 (a0 : XTurneryref1_Typing) (a1 : XApi_Tree) (a3 : Int) (x1 : XApi_Node) (x3 : Int) (y1 : Bool) : Option Int :=
 if (x1.Text.toList == (ByteArray.mk #[42]).toList) then
 (ref1_Typing_ahead_J2 a0 a1 a3 x1 x3 (a3 == 2))
 else
 (ref1_Typing_ahead_J2 a0 a1 a3 x1 x3 y1)
noncomputable def ref1_Typing_ahead (a0 : XTurneryref1_Typing) (a1 : XApi_Tree) (a2 : Int) (a3 : Int) : Option Int :=
 (idx a1.Nodes a2).bind fun x1 =>
 (idx a1.Nodes a2).bind fun x2 =>
 (idx x2.Kids 0).bind fun x3 =>
 if (x1.Text.toList == (ByteArray.mk #[33]).toList) then
 ((ref1_scalar a3).bind fun x8 =>
 ref1_Typing_ahead_J1 a0 a1 a3 x1 x3 x8)
 else
 (ref1_Typing_ahead_J1 a0 a1 a3 x1 x3 (a3 == 1))
abbrev R_ref1_Typing_ahead (r : Int) : AV := (I r)
set_option maxHeartbeats 4000000 in
theorem T_ref1_Typing_ahead {nn : Nat} {a0 : XTurneryref1_Typing} {a1 : XApi_Tree} {a2 : Int} {a3 : Int} {r : Int} (hF : ref1_Typing_ahead a0 a1 a2 a3 = some r) : den cx (nn + 2) 83 [(.agg (cXTurneryref1_Typing a0)), (.agg (cXApi_Tree a1)), (I a2), (I a3)] = some (R_ref1_Typing_ahead r, []) := by
 unfold ref1_Typing_ahead at hF
 refine fnA Try.func83 Try.ntmps83 (by exact spine) (sl := [0, 1, 2, 3]) ?_
 refine sr <| pp oBoxF <| pp oBoxF <| pp oAssign <| nl <| sr <| pp oFA <| pp oLd <| pp oMove <| ?_
 refine bb hF fun x1 h1 hF => ?_
 refine pp (oIx h1) <| pp oFA <| pp oLd <| pp oAssign <| nl <| sr <| pp oFA <| pp oLd <| pp oMove <| ?_
 refine bb hF fun x2 h2 hF => ?_
 refine pp (oIx h2) <| pp oFA <| pp oLd <| ?_
 refine bb hF fun x3 h3 hF => ?_
 refine pp (oIx h3) <| pp oLd <| pp oAssign <| nl <| sr <| pp oMove <| pp oEql <| pp oAssign <| nl <| sr <| pp oAssign <| nl <| ?_
 refine sjn (r := r) (fun (s : Bool) => mkSt 71 [3, 4, 5, 9, 10, 11, 12] [(I a3), (.vp (cXTurneryref1_Typing a0)), (.vp (cXApi_Tree a1)), (AV.val (.string x1.Text)), (I x3), (B s), (I 1)]) (fun s => ref1_Typing_ahead_J1 a0 a1 a3 x1 x3 s) ?_ ?_
 · refine sr <| pp oMove <| pp oEqlS <| nl <| ?_
   refine cd hF (fun hF => ?_) (fun hF => ?_)
   · refine rg <| pp oMove <| ?_
     refine bb hF fun x8 h8 hF => ?_
     refine pp (oCallZ (T_ref1_scalar h8)) <| pp oAssign <| nl <| ?_
     exact qj x8 hF cutR'
   · refine sk <| ?_
     exact qj (a3 == 1) hF cutR'
 · rintro y1 hF
   replace hF : ref1_Typing_ahead_J1 a0 a1 a3 x1 x3 y1 = some r := hF
   unfold ref1_Typing_ahead_J1 at hF
   refine mk ?_
   refine sjn (r := r) (fun (s : Bool) => mkSt 71 [3, 4, 5, 9, 10, 11, 12] [(I a3), (.vp (cXTurneryref1_Typing a0)), (.vp (cXApi_Tree a1)), (AV.val (.string x1.Text)), (I x3), (B s), (I 1)]) (fun s => ref1_Typing_ahead_J2 a0 a1 a3 x1 x3 s) ?_ ?_
   · refine sr <| pp oMove <| pp oEqlS <| nl <| ?_
     refine cd hF (fun hF => ?_) (fun hF => ?_)
     · refine rg <| pp oMove <| pp oEql <| pp oAssign <| nl <| ?_
       exact qj (a3 == 2) hF cutR'
     · refine sk <| ?_
       exact qj y1 hF cutR'
   · rintro y2 hF
     replace hF : ref1_Typing_ahead_J2 a0 a1 a3 x1 x3 y2 = some r := hF
     unfold ref1_Typing_ahead_J2 at hF
     refine mk ?_
     refine sjn (r := r) (fun (s : (Bool × Int)) => mkSt 71 [11, 12] [(B s.1), (I s.2)]) (fun s => ref1_Typing_ahead_J3 s.1 s.2) ?_ ?_
     · refine sr <| pp oMove <| pp oEqlS <| nl <| ?_
       refine cd hF (fun hF => ?_) (fun hF => ?_)
       · refine sr <| pp oAssign <| nl <| ?_
         refine srC (fun (s : Bool) => mkSt 71 [4, 5, 10, 11, 12] [(.vp (cXTurneryref1_Typing a0)), (.vp (cXApi_Tree a1)), (I x3), (B s), (I 2)]) hF (fun z2 hF => ?_) (fun p1 hF => ?_)
         · refine pp oMove <| pp oEql <| pp oMove <| ?_
           refine spl (d := 41) hF (fun hF => ?_) (fun hF => ?_)
           · refine pt ar oLdA <| pt ar oFA <| pt ar oLd <| pt ar oMove <| ?_
             refine bb hF fun x4 h4 hF => ?_
             refine pt ar (oCallZ (T_ref1_Put h4)) <| pp oPickT <| pp oAssign <| ?_
             obtain rfl := inj hF
             exact nlC cutR'
           · refine no fun u1 k1 hk1 => ?_
             refine no fun u2 k2 hk2 => ?_
             refine no fun u3 k3 hk3 => ?_
             refine no fun u4 k4 hk4 => ?_
             refine no fun u5 k5 hk5 => ?_
             refine pp oPickF <| pp oAssign <| ?_
             obtain rfl := inj hF
             exact nlC cutR'
         · refine mk ?_
           refine srC (fun (s : Bool) => mkSt 71 [4, 5, 10, 11, 12, 57] [(.vp (cXTurneryref1_Typing a0)), (.vp (cXApi_Tree a1)), (I x3), (B p1), (I 2), (B s)]) hF (fun z1 hF => ?_) (fun p2 hF => ?_)
           · refine pp oMove <| pp oMove <| ?_
             refine spl (d := 49) hF (fun hF => ?_) (fun hF => ?_)
             · refine pt ar oFA <| pt ar oLd <| pt ar oMove <| ?_
               refine bb hF fun x5 h5 hF => ?_
               refine pt ar (oIx h5) <| pt ar oFA <| pt ar oLd <| pt ar oEql <| pp oPickT <| ?_
               obtain rfl := inj hF
               exact nlC cutR'
             · refine no fun u6 k6 hk6 => ?_
               refine no fun u7 k7 hk7 => ?_
               refine no fun u8 k8 hk8 => ?_
               refine no fun u9 k9 hk9 => ?_
               refine no fun u10 k10 hk10 => ?_
               refine no fun u11 k11 hk11 => ?_
               refine no fun u12 k12 hk12 => ?_
               refine pp oPickF <| ?_
               obtain rfl := inj hF
               exact nlC cutR'
           · refine mk ?_
             refine cd hF (fun hF => ?_) (fun hF => ?_)
             · refine rgD <| pp oFA <| pp oLd <| pp oFA <| pp oLd <| pp oMove <| ?_
               refine bb hF fun x6 h6 hF => ?_
               refine pp (oIx h6) <| pp oLd <| ?_
               refine bb hF fun x7 h7 hF => ?_
               refine pp (oIx h7) <| pp oFA <| pp oLd <| pp oEql <| pp oAssign <| nlD <| ?_
               exact qj ((x7.Kind == 2), 2) hF cutR'
             · refine sk <| ?_
               exact qj (p1, 2) hF cutR'
       · refine sk <| ?_
         exact qj (y2, 1) hF cutR'
     · rintro ⟨y3, y4⟩ hF
       replace hF : ref1_Typing_ahead_J3 y3 y4 = some r := hF
       unfold ref1_Typing_ahead_J3 at hF
       refine mk ?_
       refine sq <| sr <| pp oMove <| nl <| ?_
       refine cd hF (fun hF => ?_) (fun hF => ?_)
       · refine sr <| pp oMove <| pp oAssign <| nl <| rt <| qsR <| ?_
         obtain rfl := inj hF
         exact fin1
       · refine sk <| qs <| sr <| pp oAssign <| nl <| rt <| ?_
         obtain rfl := inj hF
         exact fin1
noncomputable def ref1_sum (a0 : ByteArray) (a1 : Int) (a2 : Int) : Option Int :=
 (ref1_among ([(ByteArray.mk #[61, 61]), (ByteArray.mk #[33, 61]), (ByteArray.mk #[60]), (ByteArray.mk #[60, 61]), (ByteArray.mk #[62]), (ByteArray.mk #[62, 61])] : List ByteArray) a0).bind fun x1 =>
 if x1 then
 ((ref1_scalar a1).bind fun x2 =>
 if (if x2 then (a1 == a2) else false) then
 (some 1)
 else
 (some (-1)))
 else
 (if (if (a1 == 1) then (a2 == 1) else false) then
 (some 1)
 else
 (if (if (if (a0.toList == (ByteArray.mk #[43]).toList) then (if (if (a1 == 2) then (a2 == 1) else false) then true else (if (a1 == 1) then (a2 == 2) else false)) else false) then true else (if (if (a0.toList == (ByteArray.mk #[45]).toList) then (a1 == 2) else false) then (a2 == 1) else false)) then
 (some 2)
 else
 (if (if (if (a0.toList == (ByteArray.mk #[45]).toList) then (a1 == 2) else false) then (a2 == 2) else false) then
 (some 1)
 else
 (some (-1)))))
abbrev R_ref1_sum (r : Int) : AV := (I r)
set_option maxHeartbeats 4000000 in
theorem T_ref1_sum {nn : Nat} {a0 : ByteArray} {a1 : Int} {a2 : Int} {r : Int} (hF : ref1_sum a0 a1 a2 = some r) : den cx (nn + 2) 84 [(AV.val (.string a0)), (I a1), (I a2)] = some (R_ref1_sum r, []) := by
 unfold ref1_sum at hF
 refine fnA Try.func84 Try.ntmps84 (by exact spine) (sl := [0, 1, 2]) ?_
 refine sr <| pp oAssign <| nl <| sq <| sr <| pp oBSF <| pp oMove <| ?_
 refine bb hF fun x1 h1 hF => ?_
 refine pp (oCallZ (T_ref1_among h1)) <| nl <| ?_
 refine cd hF (fun hF => ?_) (fun hF => ?_)
 · refine sq <| sr <| pp oMove <| ?_
   refine bb hF fun x2 h2 hF => ?_
   refine pp (oCallZ (T_ref1_scalar h2)) <| pp oMove <| pg ar oMove <| pg ar oMove <| pg ar oEql <| pp oPick <| nl <| ?_
   refine cd hF (fun hF => ?_) (fun hF => ?_)
   · refine sr <| pp oAssign <| nl <| rt <| qsR <| qsR <| ?_
     obtain rfl := inj hF
     exact fin1
   · refine sk <| qs <| sr <| pp oAssign <| nl <| rt <| qsR <| ?_
     obtain rfl := inj hF
     exact fin1
 · refine sk <| qs <| sq <| sr <| pp oMove <| pp oEql <| pp oMove <| pg ar oMove <| pg ar oEql <| pp oPick <| nl <| ?_
   refine cd hF (fun hF => ?_) (fun hF => ?_)
   · refine sr <| pp oAssign <| nl <| rt <| qsR <| ?_
     obtain rfl := inj hF
     exact fin1
   · refine sk <| qs <| sq <| sr <| pp oMove <| pp oEqlS <| pp oMove <| pg ar oMove <| pg ar oEql <| pg ar oMove <| pg ar oMove <| pg ar oEql <| pg ar oPick <| pg ar oMove <| ?_
     refine pg ar oMove <| pg ar oEql <| pg ar oMove <| pg ar oMove <| pg ar oEql <| pg ar oPick <| pg ar oPick <| pp oPick <| pp oMove <| pg ar oMove <| pg ar oEqlS <| pg ar oMove <| pg ar oMove <| pg ar oEql <| ?_
     refine pg ar oPick <| pg ar oMove <| pg ar oMove <| pg ar oEql <| pg ar oPick <| pp oPick <| nl <| ?_
     refine cd hF (fun hF => ?_) (fun hF => ?_)
     · refine sr <| pp oAssign <| nl <| rt <| qsR <| ?_
       obtain rfl := inj hF
       exact fin1
     · refine sk <| qs <| sq <| sr <| pp oMove <| pp oEqlS <| pp oMove <| pg ar oMove <| pg ar oEql <| pp oPick <| pp oMove <| pg ar oMove <| pg ar oEql <| pp oPick <| ?_
       refine nl <| ?_
       refine cd hF (fun hF => ?_) (fun hF => ?_)
       · refine sr <| pp oAssign <| nl <| rt <| qsR <| ?_
         obtain rfl := inj hF
         exact fin1
       · refine sk <| qs <| sr <| pp oAssign <| nl <| rt <| ?_
         obtain rfl := inj hF
         exact fin1
end Go.Ab
namespace Go.Ab
open Go Go.Proofs
noncomputable def ref1_Typing_expr_L1 (a0 : XTurneryref1_Typing) (x1 : XApi_Node) (y7 : (List Int)) (y8 : Int) : Option (Lp ((List Int) × Int) (List Int)) :=
 if (decide (y8 < (x1.Kids.length : Int))) then
 ((idx x1.Kids y8).bind fun x2 =>
 (idx a0.Of x2).bind fun x3 =>
 (app y7 ([x3] : List Int)).bind fun x4 =>
 some (.next (x4, (w64 (y8 + 1)))))
 else
 (some (.out y7))
noncomputable def ref1_Typing_expr_J1  : Option Int :=
 some (-1)
noncomputable def ref1_Typing_expr (a0 : XTurneryref1_Typing) (a1 : XApi_Tree) (a2 : Int) : Option Int :=
 (idx a1.Nodes a2).bind fun x1 =>
 (Loop (fun (s : ((List Int) × Int)) => ref1_Typing_expr_L1 a0 x1 s.1 s.2) ([], 0)).bind fun v1 =>
 if (x1.Kind == 31) then
 (some 1)
 else
 (if (x1.Kind == 32) then
 ((idx a0.Names a2).bind fun x5 =>
 (idx a1.Nodes x5).bind fun x6 =>
 if (x6.N == 3) then
 (some 2)
 else
 (some x6.N))
 else
 (if (x1.Kind == 33) then
 ((ref1_Typing_call a0 a1 a2 v1).bind fun x7 =>
 some x7)
 else
 ((if (x1.Kind == 34) then
 ((idx v1 0).bind fun x8 =>
 if (x8 == 2) then
 ((idx v1 1).bind fun x9 =>
 some (x9 == 1))
 else
 (some false))
 else
 (some false)).bind fun p1 =>
 if p1 then
 (some 1)
 else
 (if (x1.Kind == 35) then
 ((idx v1 0).bind fun x10 =>
 (ref1_Typing_ahead a0 a1 a2 x10).bind fun x11 =>
 some x11)
 else
 (if (x1.Kind == 36) then
 ((idx v1 0).bind fun x12 =>
 (idx v1 1).bind fun x13 =>
 (ref1_sum x1.Text x12 x13).bind fun x14 =>
 some x14)
 else
 ((if (x1.Kind == 37) then
 ((idx v1 0).bind fun x15 =>
 (ref1_scalar x15).bind fun x16 =>
 if x16 then
 ((idx v1 1).bind fun x17 =>
 (ref1_scalar x17).bind fun x18 =>
 some x18)
 else
 (some false))
 else
 (some false)).bind fun p2 =>
 if p2 then
 (some 1)
 else
 ((if (x1.Kind == 38) then
 ((idx v1 0).bind fun x19 =>
 (ref1_scalar x19).bind fun x20 =>
 if x20 then
 ((idx v1 1).bind fun x21 =>
 (ref1_scalar x21).bind fun x22 =>
 if x22 then
 ((idx v1 1).bind fun x23 =>
 (idx v1 2).bind fun x24 =>
 some (x23 == x24))
 else
 (some false))
 else
 (some false))
 else
 (some false)).bind fun p3 =>
 if p3 then
 ((idx v1 1).bind fun x25 =>
 some x25)
 else
 ((if (x1.Kind == 40) then
 ((idx x1.Kids 0).bind fun x26 =>
 (ref1_Put a1 a0.Names x26).bind fun x27 =>
 some x27)
 else
 (some false)).bind fun p4 =>
 if p4 then
 ((idx v1 0).bind fun x28 =>
 some x28)
 else
 ((if (x1.Kind == 39) then
 ((idx x1.Kids 0).bind fun x29 =>
 (ref1_Put a1 a0.Names x29).bind fun x30 =>
 some x30)
 else
 (some false)).bind fun p5 =>
 if p5 then
 (if (x1.Text.toList == (ByteArray.mk #[61]).toList) then
 (((idx v1 0).bind fun x31 =>
 (ref1_scalar x31).bind fun x32 =>
 if x32 then
 ((idx v1 0).bind fun x33 =>
 (idx v1 1).bind fun x34 =>
 some (x33 == x34))
 else
 (some false)).bind fun p6 =>
 if p6 then
 ((idx v1 0).bind fun x35 =>
 some x35)
 else
 (some (-1)))
 else
 ((sslc x1.Text none (some (w64 ((x1.Text.size : Int) - 1)))).bind fun x36 =>
 (idx v1 0).bind fun x37 =>
 (idx v1 1).bind fun x38 =>
 (ref1_sum x36 x37 x38).bind fun x39 =>
 (idx v1 0).bind fun x40 =>
 if (x39 == x40) then
 ((idx v1 0).bind fun x41 =>
 some x41)
 else
 (ref1_Typing_expr_J1)))
 else
 (ref1_Typing_expr_J1))))))))))
abbrev R_ref1_Typing_expr (r : Int) : AV := (I r)
set_option maxHeartbeats 4000000 in
theorem T_ref1_Typing_expr {nn : Nat} {a0 : XTurneryref1_Typing} {a1 : XApi_Tree} {a2 : Int} {r : Int} (hF : ref1_Typing_expr a0 a1 a2 = some r) : den cx (nn + 3) 53 [(.agg (cXTurneryref1_Typing a0)), (.agg (cXApi_Tree a1)), (I a2)] = some (R_ref1_Typing_expr r, []) := by
 unfold ref1_Typing_expr at hF
 refine fnA Try.func53 Try.ntmps53 (by exact spine) (sl := [0, 1, 2]) ?_
 refine sr <| pp oBoxF <| pp oBoxF <| pp oAssign <| nl <| sr <| pp oFA <| pp oLd <| pp oMove <| ?_
 refine bb hF fun x1 h1 hF => ?_
 refine pp (oIx h1) <| pp oLdA <| ww oAlloc <| ww oStF <| nl <| sr <| pp oAssign <| nl <| sq <| sr <| pp oAssign <| nl <| ?_
 refine lp (fun (s : ((List Int) × Int)) => mkSt 210 [2, 3, 4, 7, 8, 9] [(I a2), (.vp (cXTurneryref1_Typing a0)), (.vp (cXApi_Tree a1)), (.vp (cXApi_Node x1)), (.own ((s.1).map cInt_i64) (s.1).length), (I s.2)]) (fun (s : (List Int)) => mkSt 210 [2, 3, 4, 7, 8] [(I a2), (.vp (cXTurneryref1_Typing a0)), (.vp (cXApi_Tree a1)), (.vp (cXApi_Node x1)), (.own ((s).map cInt_i64) (s).length)]) hF cutR' ?_ ?_
 · rintro ⟨y7, y8⟩ z1 hF
   replace hF : ref1_Typing_expr_L1 a0 x1 y7 y8 = some z1 := hF
   unfold ref1_Typing_expr_L1 at hF
   refine mk ?_
   refine sq <| sr <| pp oMove <| pp oFA <| pp oLd <| pp oLenSl <| pp oLss <| nl <| ?_
   refine cd hF (fun hF => ?_) (fun hF => ?_)
   · refine sk <| qs <| sq <| bl <| rgD <| pp oMove <| pp oFA <| pp oLd <| pp oFA <| pp oLd <| pp oMove <| ?_
     refine bb hF fun x2 h2 hF => ?_
     refine pp (oIx h2) <| pp oLd <| ?_
     refine bb hF fun x3 h3 hF => ?_
     refine pp (oIx h3) <| pp oLd <| pp oBSF <| ?_
     refine bb hF fun x4 h4 hF => ?_
     refine ww (oApp h4) <| pp oAssign <| nlD <| qb <| qs <| rg <| pp oMove <| pp oAdd <| pp oAssign <| nl <| ?_
     exact ln hF cutR'
   · refine ex <| qsE <| ?_
     exact lx hF cutR'
 · intro v1 hF
   refine qmk ?_
   refine qs <| sq <| sr <| pp oFA <| pp oLd <| pp oEql <| nl <| ?_
   refine cd hF (fun hF => ?_) (fun hF => ?_)
   · refine sr <| pp oAssign <| nl <| rt <| qsR <| ?_
     obtain rfl := inj hF
     exact fin1
   · refine sk <| qs <| sq <| sr <| pp oFA <| pp oLd <| pp oEql <| nl <| ?_
     refine cd hF (fun hF => ?_) (fun hF => ?_)
     · refine srD <| pp oFA <| pp oLd <| pp oFA <| pp oLd <| pp oMove <| ?_
       refine bb hF fun x5 h5 hF => ?_
       refine pp (oIx h5) <| pp oLd <| ?_
       refine bb hF fun x6 h6 hF => ?_
       refine pp (oIx h6) <| pp oFA <| pp oLd <| pp oAssign <| nlD <| sq <| sr <| pp oMove <| pp oEql <| nl <| ?_
       refine cd hF (fun hF => ?_) (fun hF => ?_)
       · refine sr <| pp oAssign <| nl <| rt <| qsR <| qsR <| ?_
         obtain rfl := inj hF
         exact fin1
       · refine sk <| qs <| sr <| pp oMove <| pp oAssign <| nl <| rt <| qsR <| ?_
         obtain rfl := inj hF
         exact fin1
     · refine sk <| qs <| sq <| sr <| pp oFA <| pp oLd <| pp oEql <| nl <| ?_
       refine cd hF (fun hF => ?_) (fun hF => ?_)
       · refine sr <| pp oLdA <| pp oLdA <| pp oMove <| pp oMove <| ?_
         refine bb hF fun x7 h7 hF => ?_
         refine rr (oCall (T_ref1_Typing_call h7)) <| pp oAssign <| nl <| rt <| qsR <| ?_
         obtain rfl := inj hF
         exact fin1
       · refine sk <| qs <| sq <| ?_
         refine srC (fun (s : Bool) => mkSt 210 [2, 3, 4, 7, 8, 76] [(I a2), (.vp (cXTurneryref1_Typing a0)), (.vp (cXApi_Tree a1)), (.vp (cXApi_Node x1)), (.own ((v1).map cInt_i64) (v1).length), (B s)]) hF (fun z7 hF => ?_) (fun p1 hF => ?_)
         · refine pp oFA <| pp oLd <| pp oEql <| pp oMove <| ?_
           refine spl (d := 65) hF (fun hF => ?_) (fun hF => ?_)
           · refine pt ar oMove <| ?_
             refine bb hF fun x8 h8 hF => ?_
             refine rt_ ar (oIxM h8) <| rt_ ar (oLdM (idx_nat h8)) <| pt ar oEql <| pp oPickT <| pp oMove <| ?_
             refine spl (d := 71) hF (fun hF => ?_) (fun hF => ?_)
             · refine pt ar oMove <| ?_
               refine bb hF fun x9 h9 hF => ?_
               refine rt_ ar (oIxM h9) <| rt_ ar (oLdM (idx_nat h9)) <| pt ar oEql <| pp oPickT <| ?_
               obtain rfl := inj hF
               exact nlC cutR'
             · refine no fun u1 k1 hk1 => ?_
               refine no fun u2 k2 hk2 => ?_
               refine no fun u3 k3 hk3 => ?_
               refine no fun u4 k4 hk4 => ?_
               refine pp oPickF <| ?_
               obtain rfl := inj hF
               exact nlC cutR'
           · refine no fun u5 k5 hk5 => ?_
             refine no fun u6 k6 hk6 => ?_
             refine no fun u7 k7 hk7 => ?_
             refine no fun u8 k8 hk8 => ?_
             refine pp oPickF <| pp oMove <| ?_
             refine no fun u9 k9 hk9 => ?_
             refine no fun u10 k10 hk10 => ?_
             refine no fun u11 k11 hk11 => ?_
             refine no fun u12 k12 hk12 => ?_
             refine pp oPickF <| ?_
             obtain rfl := inj hF
             exact nlC cutR'
         · refine mk ?_
           refine cd hF (fun hF => ?_) (fun hF => ?_)
           · refine sr <| pp oAssign <| nl <| rt <| qsR <| ?_
             obtain rfl := inj hF
             exact fin1
           · refine sk <| qs <| sq <| sr <| pp oFA <| pp oLd <| pp oEql <| nl <| ?_
             refine cd hF (fun hF => ?_) (fun hF => ?_)
             · refine srD <| pp oLdA <| pp oLdA <| pp oMove <| pp oMove <| ?_
               refine bb hF fun x10 h10 hF => ?_
               refine rr (oIxM h10) <| rr (oLdM (idx_nat h10)) <| ?_
               refine bb hF fun x11 h11 hF => ?_
               refine pp (oCall (T_ref1_Typing_ahead h11)) <| pp oAssign <| nlD <| rt <| qsR <| ?_
               obtain rfl := inj hF
               exact fin1
             · refine sk <| qs <| sq <| sr <| pp oFA <| pp oLd <| pp oEql <| nl <| ?_
               refine cd hF (fun hF => ?_) (fun hF => ?_)
               · refine srD <| pp oFA <| pp oLd <| pp oMove <| ?_
                 refine bb hF fun x12 h12 hF => ?_
                 refine rr (oIxM h12) <| rr (oLdM (idx_nat h12)) <| pp oMove <| ?_
                 refine bb hF fun x13 h13 hF => ?_
                 refine rr (oIxM h13) <| rr (oLdM (idx_nat h13)) <| ?_
                 refine bb hF fun x14 h14 hF => ?_
                 refine pp (oCall (T_ref1_sum h14)) <| pp oAssign <| nlD <| rt <| qsR <| ?_
                 obtain rfl := inj hF
                 exact fin1
               · refine sk <| qs <| sq <| ?_
                 refine srC (fun (s : Bool) => mkSt 210 [3, 4, 7, 8, 113] [(.vp (cXTurneryref1_Typing a0)), (.vp (cXApi_Tree a1)), (.vp (cXApi_Node x1)), (.own ((v1).map cInt_i64) (v1).length), (B s)]) hF (fun z6 hF => ?_) (fun p2 hF => ?_)
                 · refine pp oFA <| pp oLd <| pp oEql <| pp oMove <| ?_
                   refine spl (d := 102) hF (fun hF => ?_) (fun hF => ?_)
                   · refine pt ar oMove <| ?_
                     refine bb hF fun x15 h15 hF => ?_
                     refine rt_ ar (oIxM h15) <| rt_ ar (oLdM (idx_nat h15)) <| ?_
                     refine bb hF fun x16 h16 hF => ?_
                     refine pt ar (oCallZ (T_ref1_scalar h16)) <| pp oPickT <| pp oMove <| ?_
                     refine spl (d := 108) hF (fun hF => ?_) (fun hF => ?_)
                     · refine pt ar oMove <| ?_
                       refine bb hF fun x17 h17 hF => ?_
                       refine rt_ ar (oIxM h17) <| rt_ ar (oLdM (idx_nat h17)) <| ?_
                       refine bb hF fun x18 h18 hF => ?_
                       refine pt ar (oCallZ (T_ref1_scalar h18)) <| pp oPickT <| ?_
                       obtain rfl := inj hF
                       exact nlC cutR'
                     · refine no fun u13 k13 hk13 => ?_
                       refine no fun u14 k14 hk14 => ?_
                       refine no fun u15 k15 hk15 => ?_
                       refine no fun u16 k16 hk16 => ?_
                       refine pp oPickF <| ?_
                       obtain rfl := inj hF
                       exact nlC cutR'
                   · refine no fun u17 k17 hk17 => ?_
                     refine no fun u18 k18 hk18 => ?_
                     refine no fun u19 k19 hk19 => ?_
                     refine no fun u20 k20 hk20 => ?_
                     refine pp oPickF <| pp oMove <| ?_
                     refine no fun u21 k21 hk21 => ?_
                     refine no fun u22 k22 hk22 => ?_
                     refine no fun u23 k23 hk23 => ?_
                     refine no fun u24 k24 hk24 => ?_
                     refine pp oPickF <| ?_
                     obtain rfl := inj hF
                     exact nlC cutR'
                 · refine mk ?_
                   refine cd hF (fun hF => ?_) (fun hF => ?_)
                   · refine sr <| pp oAssign <| nl <| rt <| qsR <| ?_
                     obtain rfl := inj hF
                     exact fin1
                   · refine sk <| qs <| sq <| ?_
                     refine srC (fun (s : Bool) => mkSt 210 [3, 4, 7, 8, 137] [(.vp (cXTurneryref1_Typing a0)), (.vp (cXApi_Tree a1)), (.vp (cXApi_Node x1)), (.own ((v1).map cInt_i64) (v1).length), (B s)]) hF (fun z5 hF => ?_) (fun p3 hF => ?_)
                     · refine pp oFA <| pp oLd <| pp oEql <| pp oMove <| ?_
                       refine spl (d := 117) hF (fun hF => ?_) (fun hF => ?_)
                       · refine pt ar oMove <| ?_
                         refine bb hF fun x19 h19 hF => ?_
                         refine rt_ ar (oIxM h19) <| rt_ ar (oLdM (idx_nat h19)) <| ?_
                         refine bb hF fun x20 h20 hF => ?_
                         refine pt ar (oCallZ (T_ref1_scalar h20)) <| pp oPickT <| pp oMove <| ?_
                         refine spl (d := 123) hF (fun hF => ?_) (fun hF => ?_)
                         · refine pt ar oMove <| ?_
                           refine bb hF fun x21 h21 hF => ?_
                           refine rt_ ar (oIxM h21) <| rt_ ar (oLdM (idx_nat h21)) <| ?_
                           refine bb hF fun x22 h22 hF => ?_
                           refine pt ar (oCallZ (T_ref1_scalar h22)) <| pp oPickT <| pp oMove <| ?_
                           refine spl (d := 129) hF (fun hF => ?_) (fun hF => ?_)
                           · refine pt ar oMove <| ?_
                             refine bb hF fun x23 h23 hF => ?_
                             refine rt_ ar (oIxM h23) <| rt_ ar (oLdM (idx_nat h23)) <| pt ar oMove <| ?_
                             refine bb hF fun x24 h24 hF => ?_
                             refine rt_ ar (oIxM h24) <| rt_ ar (oLdM (idx_nat h24)) <| pt ar oEql <| pp oPickT <| ?_
                             obtain rfl := inj hF
                             exact nlCD cutR'
                           · refine no fun u25 k25 hk25 => ?_
                             refine no fun u26 k26 hk26 => ?_
                             refine no fun u27 k27 hk27 => ?_
                             refine no fun u28 k28 hk28 => ?_
                             refine no fun u29 k29 hk29 => ?_
                             refine no fun u30 k30 hk30 => ?_
                             refine no fun u31 k31 hk31 => ?_
                             refine pp oPickF <| ?_
                             obtain rfl := inj hF
                             exact nlCD (hf := rok) cutR'
                         · refine no fun u32 k32 hk32 => ?_
                           refine no fun u33 k33 hk33 => ?_
                           refine no fun u34 k34 hk34 => ?_
                           refine no fun u35 k35 hk35 => ?_
                           refine pp oPickF <| pp oMove <| ?_
                           refine no fun u36 k36 hk36 => ?_
                           refine no fun u37 k37 hk37 => ?_
                           refine no fun u38 k38 hk38 => ?_
                           refine no fun u39 k39 hk39 => ?_
                           refine no fun u40 k40 hk40 => ?_
                           refine no fun u41 k41 hk41 => ?_
                           refine no fun u42 k42 hk42 => ?_
                           refine pp oPickF <| ?_
                           obtain rfl := inj hF
                           exact nlCD (hf := rok) cutR'
                       · refine no fun u43 k43 hk43 => ?_
                         refine no fun u44 k44 hk44 => ?_
                         refine no fun u45 k45 hk45 => ?_
                         refine no fun u46 k46 hk46 => ?_
                         refine pp oPickF <| pp oMove <| ?_
                         refine no fun u47 k47 hk47 => ?_
                         refine no fun u48 k48 hk48 => ?_
                         refine no fun u49 k49 hk49 => ?_
                         refine no fun u50 k50 hk50 => ?_
                         refine pp oPickF <| pp oMove <| ?_
                         refine no fun u51 k51 hk51 => ?_
                         refine no fun u52 k52 hk52 => ?_
                         refine no fun u53 k53 hk53 => ?_
                         refine no fun u54 k54 hk54 => ?_
                         refine no fun u55 k55 hk55 => ?_
                         refine no fun u56 k56 hk56 => ?_
                         refine no fun u57 k57 hk57 => ?_
                         refine pp oPickF <| ?_
                         obtain rfl := inj hF
                         exact nlCD (hf := rok) cutR'
                     · refine mk ?_
                       refine cd hF (fun hF => ?_) (fun hF => ?_)
                       · refine sr <| pp oMove <| ?_
                         refine bb hF fun x25 h25 hF => ?_
                         refine rr (oIxM h25) <| rr (oLdM (idx_nat h25)) <| pp oAssign <| nl <| rt <| qsR <| ?_
                         obtain rfl := inj hF
                         exact fin1
                       · refine sk <| qs <| sq <| ?_
                         refine srC (fun (s : Bool) => mkSt 210 [3, 4, 7, 8, 153] [(.vp (cXTurneryref1_Typing a0)), (.vp (cXApi_Tree a1)), (.vp (cXApi_Node x1)), (.own ((v1).map cInt_i64) (v1).length), (B s)]) hF (fun z4 hF => ?_) (fun p4 hF => ?_)
                         · refine pp oFA <| pp oLd <| pp oEql <| pp oMove <| ?_
                           refine spl (d := 144) hF (fun hF => ?_) (fun hF => ?_)
                           · refine pt ar oLdA <| pt ar oFA <| pt ar oLd <| pt ar oFA <| pt ar oLd <| ?_
                             refine bb hF fun x26 h26 hF => ?_
                             refine pt ar (oIx h26) <| pt ar oLd <| ?_
                             refine bb hF fun x27 h27 hF => ?_
                             refine pt ar (oCallZ (T_ref1_Put h27)) <| pp oPickT <| ?_
                             obtain rfl := inj hF
                             exact nlCD cutR'
                           · refine no fun u58 k58 hk58 => ?_
                             refine no fun u59 k59 hk59 => ?_
                             refine no fun u60 k60 hk60 => ?_
                             refine no fun u61 k61 hk61 => ?_
                             refine no fun u62 k62 hk62 => ?_
                             refine no fun u63 k63 hk63 => ?_
                             refine no fun u64 k64 hk64 => ?_
                             refine no fun u65 k65 hk65 => ?_
                             refine pp oPickF <| ?_
                             obtain rfl := inj hF
                             exact nlCD (hf := rok) cutR'
                         · refine mk ?_
                           refine cd hF (fun hF => ?_) (fun hF => ?_)
                           · refine sr <| pp oMove <| ?_
                             refine bb hF fun x28 h28 hF => ?_
                             refine rr (oIxM h28) <| rr (oLdM (idx_nat h28)) <| pp oAssign <| nl <| rt <| qsR <| ?_
                             obtain rfl := inj hF
                             exact fin1
                           · refine sk <| qs <| ?_
                             refine sjn (r := r) (fun (s : Unit) => mkSt 210 [] []) (fun _ => ref1_Typing_expr_J1) ?_ ?_
                             · refine srC (fun (s : Bool) => mkSt 210 [7, 8, 169] [(.vp (cXApi_Node x1)), (.own ((v1).map cInt_i64) (v1).length), (B s)]) hF (fun z3 hF => ?_) (fun p5 hF => ?_)
                               · refine pp oFA <| pp oLd <| pp oEql <| pp oMove <| ?_
                                 refine spl (d := 160) hF (fun hF => ?_) (fun hF => ?_)
                                 · refine pt ar oLdA <| pt ar oFA <| pt ar oLd <| pt ar oFA <| pt ar oLd <| ?_
                                   refine bb hF fun x29 h29 hF => ?_
                                   refine pt ar (oIx h29) <| pt ar oLd <| ?_
                                   refine bb hF fun x30 h30 hF => ?_
                                   refine pt ar (oCallZ (T_ref1_Put h30)) <| pp oPickT <| ?_
                                   obtain rfl := inj hF
                                   exact nlCD cutR'
                                 · refine no fun u66 k66 hk66 => ?_
                                   refine no fun u67 k67 hk67 => ?_
                                   refine no fun u68 k68 hk68 => ?_
                                   refine no fun u69 k69 hk69 => ?_
                                   refine no fun u70 k70 hk70 => ?_
                                   refine no fun u71 k71 hk71 => ?_
                                   refine no fun u72 k72 hk72 => ?_
                                   refine no fun u73 k73 hk73 => ?_
                                   refine pp oPickF <| ?_
                                   obtain rfl := inj hF
                                   exact nlCD (hf := rok) cutR'
                               · refine mk ?_
                                 refine cd hF (fun hF => ?_) (fun hF => ?_)
                                 · refine sq <| sr <| pp oFA <| pp oLd <| pp oEqlS <| nl <| ?_
                                   refine cd hF (fun hF => ?_) (fun hF => ?_)
                                   · refine sq <| ?_
                                     refine srC (fun (s : Bool) => mkSt 210 [8, 185] [(.own ((v1).map cInt_i64) (v1).length), (B s)]) hF (fun z2 hF => ?_) (fun p6 hF => ?_)
                                     · refine pp oMove <| ?_
                                       refine bb hF fun x31 h31 hF => ?_
                                       refine rr (oIxM h31) <| rr (oLdM (idx_nat h31)) <| ?_
                                       refine bb hF fun x32 h32 hF => ?_
                                       refine pp (oCallZ (T_ref1_scalar h32)) <| pp oMove <| ?_
                                       refine spl (d := 177) hF (fun hF => ?_) (fun hF => ?_)
                                       · refine pt ar oMove <| ?_
                                         refine bb hF fun x33 h33 hF => ?_
                                         refine rt_ ar (oIxM h33) <| rt_ ar (oLdM (idx_nat h33)) <| pt ar oMove <| ?_
                                         refine bb hF fun x34 h34 hF => ?_
                                         refine rt_ ar (oIxM h34) <| rt_ ar (oLdM (idx_nat h34)) <| pt ar oEql <| pp oPickT <| ?_
                                         obtain rfl := inj hF
                                         exact nlCD cutR'
                                       · refine no fun u74 k74 hk74 => ?_
                                         refine no fun u75 k75 hk75 => ?_
                                         refine no fun u76 k76 hk76 => ?_
                                         refine no fun u77 k77 hk77 => ?_
                                         refine no fun u78 k78 hk78 => ?_
                                         refine no fun u79 k79 hk79 => ?_
                                         refine no fun u80 k80 hk80 => ?_
                                         refine pp oPickF <| ?_
                                         obtain rfl := inj hF
                                         exact nlCD (hf := rok) cutR'
                                     · refine mk ?_
                                       refine cd hF (fun hF => ?_) (fun hF => ?_)
                                       · refine sr <| pp oMove <| ?_
                                         refine bb hF fun x35 h35 hF => ?_
                                         refine rr (oIxM h35) <| rr (oLdM (idx_nat h35)) <| pp oAssign <| nl <| rt <| qsR <| qsR <| qjR <| ?_
                                         obtain rfl := inj hF
                                         exact fin1
                                       · refine sk <| qs <| sr <| pp oAssign <| nl <| rt <| qsR <| qjR <| ?_
                                         obtain rfl := inj hF
                                         exact fin1
                                   · refine sk <| qs <| srD <| pp oFA <| pp oLd <| pp oFA <| pp oLd <| pp oLenS <| pp oSub <| ?_
                                     refine bb hF fun x36 h36 hF => ?_
                                     refine pp (oSlcS h36) <| pp oMove <| ?_
                                     refine bb hF fun x37 h37 hF => ?_
                                     refine rr (oIxM h37) <| rr (oLdM (idx_nat h37)) <| pp oMove <| ?_
                                     refine bb hF fun x38 h38 hF => ?_
                                     refine rr (oIxM h38) <| rr (oLdM (idx_nat h38)) <| ?_
                                     refine bb hF fun x39 h39 hF => ?_
                                     refine pp (oCallZ (T_ref1_sum h39)) <| pp oMove <| ?_
                                     refine bb hF fun x40 h40 hF => ?_
                                     refine rr (oIxM h40) <| rr (oLdM (idx_nat h40)) <| pp oEql <| nlD <| ?_
                                     refine cd hF (fun hF => ?_) (fun hF => ?_)
                                     · refine sr <| pp oMove <| ?_
                                       refine bb hF fun x41 h41 hF => ?_
                                       refine rr (oIxM h41) <| rr (oLdM (idx_nat h41)) <| pp oAssign <| nl <| rt <| qjR <| ?_
                                       obtain rfl := inj hF
                                       exact fin1
                                     · refine sk <| ?_
                                       exact qj () hF cutR'
                                 · refine sk <| ?_
                                   exact qj () hF cutR'
                             · rintro _ hF
                               replace hF : ref1_Typing_expr_J1 = some r := hF
                               unfold ref1_Typing_expr_J1 at hF
                               refine mk ?_
                               refine sr <| pp oAssign <| nl <| rt <| ?_
                               obtain rfl := inj hF
                               exact fin1
noncomputable def ref1_Typing_statement_L1 (a0 : XTurneryref1_Typing) (x1 : XApi_Node) (y7 : (List Int)) (y8 : Int) : Option (Lp ((List Int) × Int) (List Int)) :=
 if (decide (y8 < (x1.Kids.length : Int))) then
 ((idx x1.Kids y8).bind fun x2 =>
 (idx a0.Of x2).bind fun x3 =>
 (app y7 ([x3] : List Int)).bind fun x4 =>
 some (.next (x4, (w64 (y8 + 1)))))
 else
 (some (.out y7))
noncomputable def ref1_Typing_statement_J6 (a0 : XTurneryref1_Typing) (x1 : XApi_Node) (y14 : Bool) : Option Int :=
 if (if (if (x1.Kind == 21) then (a0.Leave == 0) else false) then true else (if (x1.Kind == 22) then (a0.Loops == 0) else false)) then
 (some 11)
 else
 (if (!y14) then
 (some 8)
 else
 (some 0))
noncomputable def ref1_Typing_statement_J5 (a0 : XTurneryref1_Typing) (x1 : XApi_Node) (v1 : (List Int)) (y13 : Bool) : Option Int :=
 if (x1.Kind == 23) then
 ((if (if ((v1.length : Int) == 0) then (a0.Tells == 0) else false) then
 (some true)
 else
 (if (if ((v1.length : Int) == 1) then (a0.Tells != 0) else false) then
 ((idx v1 0).bind fun x5 =>
 some (x5 == a0.Tells))
 else
 (some false))).bind fun p1 =>
 ref1_Typing_statement_J6 a0 x1 p1)
 else
 (ref1_Typing_statement_J6 a0 x1 y13)
noncomputable def ref1_Typing_statement_J4 (a0 : XTurneryref1_Typing) (x1 : XApi_Node) (v1 : (List Int)) (y12 : Bool) : Option Int :=
 if (if (x1.Kind == 18) then true else (x1.Kind == 19)) then
 ((idx v1 0).bind fun x6 =>
 ref1_Typing_statement_J5 a0 x1 v1 (x6 == 1))
 else
 (ref1_Typing_statement_J5 a0 x1 v1 y12)
noncomputable def ref1_Typing_statement_J3 (a0 : XTurneryref1_Typing) (a1 : XApi_Tree) (x1 : XApi_Node) (v1 : (List Int)) (y11 : Bool) : Option Int :=
 if (x1.Kind == 17) then
 (((idx v1 1).bind fun x7 =>
 (ref1_scalar x7).bind fun x8 =>
 if x8 then
 (some true)
 else
 ((idx x1.Kids 1).bind fun x9 =>
 (idx a1.Nodes x9).bind fun x10 =>
 some (x10.Kind == 24))).bind fun p2 =>
 ref1_Typing_statement_J4 a0 x1 v1 p2)
 else
 (ref1_Typing_statement_J4 a0 x1 v1 y11)
noncomputable def ref1_Typing_statement_J2 (a0 : XTurneryref1_Typing) (a1 : XApi_Tree) (x1 : XApi_Node) (v1 : (List Int)) (y10 : Bool) : Option Int :=
 if (x1.Kind == 16) then
 ((idx v1 1).bind fun x11 =>
 (ref1_scalar x11).bind fun x12 =>
 ref1_Typing_statement_J3 a0 a1 x1 v1 x12)
 else
 (ref1_Typing_statement_J3 a0 a1 x1 v1 y10)
noncomputable def ref1_Typing_statement_J1 (a0 : XTurneryref1_Typing) (a1 : XApi_Tree) (x1 : XApi_Node) (v1 : (List Int)) (y9 : Bool) : Option Int :=
 if (if (x1.Kind == 14) then true else (x1.Kind == 15)) then
 ((idx v1 0).bind fun x13 =>
 (ref1_scalar x13).bind fun x14 =>
 ref1_Typing_statement_J2 a0 a1 x1 v1 x14)
 else
 (ref1_Typing_statement_J2 a0 a1 x1 v1 y9)
noncomputable def ref1_Typing_statement_L2 (x1 : XApi_Node) (v1 : (List Int)) (y21 : Bool) (y22 : Int) : Option (Lp (Bool × Int) Bool) :=
 if (decide (y22 < (v1.length : Int))) then
 ((if y21 then
 ((idx v1 y22).bind fun x15 =>
 if (x15 == x1.N) then
 (some true)
 else
 (if (x1.N == 3) then
 ((idx v1 y22).bind fun x16 =>
 some (x16 == 1))
 else
 (some false)))
 else
 (some false)).bind fun p3 =>
 some (.next (p3, (w64 (y22 + 1)))))
 else
 (some (.out y21))
noncomputable def ref1_Typing_statement (a0 : XTurneryref1_Typing) (a1 : XApi_Tree) (a2 : Int) : Option Int :=
 (idx a1.Nodes a2).bind fun x1 =>
 (Loop (fun (s : ((List Int) × Int)) => ref1_Typing_statement_L1 a0 x1 s.1 s.2) ([], 0)).bind fun v1 =>
 if (if (x1.Kind == 12) then true else (x1.Kind == 2)) then
 ((Loop (fun (s : (Bool × Int)) => ref1_Typing_statement_L2 x1 v1 s.1 s.2) (true, 0)).bind fun v2 =>
 ref1_Typing_statement_J1 a0 a1 x1 v1 v2)
 else
 (ref1_Typing_statement_J1 a0 a1 x1 v1 true)
abbrev R_ref1_Typing_statement (r : Int) : AV := (I r)
set_option maxHeartbeats 4000000 in
theorem T_ref1_Typing_statement {nn : Nat} {a0 : XTurneryref1_Typing} {a1 : XApi_Tree} {a2 : Int} {r : Int} (hF : ref1_Typing_statement a0 a1 a2 = some r) : den cx (nn + 2) 54 [(.agg (cXTurneryref1_Typing a0)), (.agg (cXApi_Tree a1)), (I a2)] = some (R_ref1_Typing_statement r, []) := by
 unfold ref1_Typing_statement at hF
 refine fnA Try.func54 Try.ntmps54 (by exact spine) (sl := [0, 1, 2]) ?_
 refine sr <| pp oBoxF <| pp oBoxF <| pp oAssign <| nl <| sr <| pp oFA <| pp oLd <| pp oMove <| ?_
 refine bb hF fun x1 h1 hF => ?_
 refine pp (oIx h1) <| pp oLdA <| ww oAlloc <| ww oStF <| nl <| sr <| pp oAssign <| nl <| sr <| pp oAssign <| nl <| sq <| sr <| pp oAssign <| ?_
 refine nl <| ?_
 refine lp (fun (s : ((List Int) × Int)) => mkSt 171 [3, 4, 7, 8, 9, 10] [(.vp (cXTurneryref1_Typing a0)), (.vp (cXApi_Tree a1)), (.vp (cXApi_Node x1)), (B true), (.own ((s.1).map cInt_i64) (s.1).length), (I s.2)]) (fun (s : (List Int)) => mkSt 171 [3, 4, 7, 8, 9] [(.vp (cXTurneryref1_Typing a0)), (.vp (cXApi_Tree a1)), (.vp (cXApi_Node x1)), (B true), (.own ((s).map cInt_i64) (s).length)]) hF cutR' ?_ ?_
 · rintro ⟨y7, y8⟩ z1 hF
   replace hF : ref1_Typing_statement_L1 a0 x1 y7 y8 = some z1 := hF
   unfold ref1_Typing_statement_L1 at hF
   refine mk ?_
   refine sq <| sr <| pp oMove <| pp oFA <| pp oLd <| pp oLenSl <| pp oLss <| nl <| ?_
   refine cd hF (fun hF => ?_) (fun hF => ?_)
   · refine sk <| qs <| sq <| bl <| rgD <| pp oMove <| pp oFA <| pp oLd <| pp oFA <| pp oLd <| pp oMove <| ?_
     refine bb hF fun x2 h2 hF => ?_
     refine pp (oIx h2) <| pp oLd <| ?_
     refine bb hF fun x3 h3 hF => ?_
     refine pp (oIx h3) <| pp oLd <| pp oBSF <| ?_
     refine bb hF fun x4 h4 hF => ?_
     refine ww (oApp h4) <| pp oAssign <| nlD <| qb <| qs <| rg <| pp oMove <| pp oAdd <| pp oAssign <| nl <| ?_
     exact ln hF cutR'
   · refine ex <| qsE <| ?_
     exact lx hF cutR'
 · intro v1 hF
   refine qmk ?_
   refine qs <| ?_
   refine sjn (r := r) (fun (s : Bool) => mkSt 171 [3, 4, 7, 8, 9] [(.vp (cXTurneryref1_Typing a0)), (.vp (cXApi_Tree a1)), (.vp (cXApi_Node x1)), (B s), (.own ((v1).map cInt_i64) (v1).length)]) (fun s => ref1_Typing_statement_J1 a0 a1 x1 v1 s) ?_ ?_
   · refine sr <| pp oFA <| pp oLd <| pp oEql <| pp oMove <| pg ar oFA <| pg ar oLd <| pg ar oEql <| pp oPick <| nl <| ?_
     refine cd hF (fun hF => ?_) (fun hF => ?_)
     · refine sr <| pp oAssign <| nl <| ?_
       refine lp (fun (s : (Bool × Int)) => mkSt 171 [3, 4, 7, 8, 9, 11] [(.vp (cXTurneryref1_Typing a0)), (.vp (cXApi_Tree a1)), (.vp (cXApi_Node x1)), (B s.1), (.own ((v1).map cInt_i64) (v1).length), (I s.2)]) (fun (s : Bool) => mkSt 171 [3, 4, 7, 8, 9] [(.vp (cXTurneryref1_Typing a0)), (.vp (cXApi_Tree a1)), (.vp (cXApi_Node x1)), (B s), (.own ((v1).map cInt_i64) (v1).length)]) hF cutR' ?_ ?_
       · rintro ⟨y21, y22⟩ z4 hF
         replace hF : ref1_Typing_statement_L2 x1 v1 y21 y22 = some z4 := hF
         unfold ref1_Typing_statement_L2 at hF
         refine mk ?_
         refine sq <| sr <| pp oMove <| pp oMove <| pp (oLenRs (m := v1.length)) <| pp oLss <| nl <| ?_
         refine cd hF (fun hF => ?_) (fun hF => ?_)
         · refine sk <| qs <| sq <| bl <| ?_
           refine rgC (fun (s : Bool) => mkSt 171 [3, 4, 7, 8, 9, 11] [(.vp (cXTurneryref1_Typing a0)), (.vp (cXApi_Tree a1)), (.vp (cXApi_Node x1)), (B s), (.own ((v1).map cInt_i64) (v1).length), (I y22)]) hF (fun z5 hF => ?_) (fun p3 hF => ?_)
           · refine pp oMove <| pp oMove <| ?_
             refine spl (d := 51) hF (fun hF => ?_) (fun hF => ?_)
             · refine pt ar oMove <| pt ar oMove <| ?_
               refine bb hF fun x15 h15 hF => ?_
               refine rt_ ar (oIxM h15) <| rt_ ar (oLdM (idx_nat h15)) <| pt ar oFA <| pt ar oLd <| pt ar oEql <| pt ar oMove <| ?_
               refine splG (d := 59) hF (fun hF => ?_) (fun hF => ?_)
               · refine no fun u33 k33 hk33 => ?_
                 refine no fun u34 k34 hk34 => ?_
                 refine no fun u35 k35 hk35 => ?_
                 refine no fun u36 k36 hk36 => ?_
                 refine no fun u37 k37 hk37 => ?_
                 refine no fun u38 k38 hk38 => ?_
                 refine no fun u39 k39 hk39 => ?_
                 refine no fun u40 k40 hk40 => ?_
                 refine no fun u41 k41 hk41 => ?_
                 refine no fun u42 k42 hk42 => ?_
                 refine pt ar oPickT <| pp oPickT <| pp oAssign <| ?_
                 obtain rfl := inj hF
                 exact nlCD (hf := rok) cutR'
               · refine pt ar oFA <| pt ar oLd <| pt ar oEql <| pt ar oMove <| ?_
                 refine splG (d := 63) hF (fun hF => ?_) (fun hF => ?_)
                 · refine pt ar oMove <| pt ar oMove <| ?_
                   refine bb hF fun x16 h16 hF => ?_
                   refine rt_ ar (oIxM h16) <| rt_ ar (oLdM (idx_nat h16)) <| pt ar oEql <| pt ar oPickT <| pt ar oPickF <| pp oPickT <| pp oAssign <| ?_
                   obtain rfl := inj hF
                   exact nlCD cutR'
                 · refine no fun u43 k43 hk43 => ?_
                   refine no fun u44 k44 hk44 => ?_
                   refine no fun u45 k45 hk45 => ?_
                   refine no fun u46 k46 hk46 => ?_
                   refine no fun u47 k47 hk47 => ?_
                   refine pt ar oPickF <| pt ar oPickF <| pp oPickT <| pp oAssign <| ?_
                   obtain rfl := inj hF
                   exact nlCD (hf := rok) cutR'
             · refine no fun u48 k48 hk48 => ?_
               refine no fun u49 k49 hk49 => ?_
               refine no fun u50 k50 hk50 => ?_
               refine no fun u51 k51 hk51 => ?_
               refine no fun u52 k52 hk52 => ?_
               refine no fun u53 k53 hk53 => ?_
               refine no fun u54 k54 hk54 => ?_
               refine no fun u55 k55 hk55 => ?_
               refine no fun u56 k56 hk56 => ?_
               refine no fun u57 k57 hk57 => ?_
               refine no fun u58 k58 hk58 => ?_
               refine no fun u59 k59 hk59 => ?_
               refine no fun u60 k60 hk60 => ?_
               refine no fun u61 k61 hk61 => ?_
               refine no fun u62 k62 hk62 => ?_
               refine no fun u63 k63 hk63 => ?_
               refine no fun u64 k64 hk64 => ?_
               refine no fun u65 k65 hk65 => ?_
               refine no fun u66 k66 hk66 => ?_
               refine pp oPickF <| pp oAssign <| ?_
               obtain rfl := inj hF
               exact nlCD (hf := rok) cutR'
           · refine qmk ?_
             refine qb <| qs <| rg <| pp oMove <| pp oAdd <| pp oAssign <| nl <| ?_
             exact ln hF cutR'
         · refine ex <| qsE <| ?_
           exact lx hF cutR'
       · intro v2 hF
         refine qmk ?_
         exact qj v2 hF cutR'
     · refine sk <| ?_
       exact qj true hF cutR'
   · rintro y9 hF
     replace hF : ref1_Typing_statement_J1 a0 a1 x1 v1 y9 = some r := hF
     unfold ref1_Typing_statement_J1 at hF
     refine mk ?_
     refine sjn (r := r) (fun (s : Bool) => mkSt 171 [3, 4, 7, 8, 9] [(.vp (cXTurneryref1_Typing a0)), (.vp (cXApi_Tree a1)), (.vp (cXApi_Node x1)), (B s), (.own ((v1).map cInt_i64) (v1).length)]) (fun s => ref1_Typing_statement_J2 a0 a1 x1 v1 s) ?_ ?_
     · refine sr <| pp oFA <| pp oLd <| pp oEql <| pp oMove <| pg ar oFA <| pg ar oLd <| pg ar oEql <| pp oPick <| nl <| ?_
       refine cd hF (fun hF => ?_) (fun hF => ?_)
       · refine rg <| pp oMove <| ?_
         refine bb hF fun x13 h13 hF => ?_
         refine rr (oIxM h13) <| rr (oLdM (idx_nat h13)) <| ?_
         refine bb hF fun x14 h14 hF => ?_
         refine pp (oCallZ (T_ref1_scalar h14)) <| pp oAssign <| nl <| ?_
         exact qj x14 hF cutR'
       · refine sk <| ?_
         exact qj y9 hF cutR'
     · rintro y10 hF
       replace hF : ref1_Typing_statement_J2 a0 a1 x1 v1 y10 = some r := hF
       unfold ref1_Typing_statement_J2 at hF
       refine mk ?_
       refine sjn (r := r) (fun (s : Bool) => mkSt 171 [3, 4, 7, 8, 9] [(.vp (cXTurneryref1_Typing a0)), (.vp (cXApi_Tree a1)), (.vp (cXApi_Node x1)), (B s), (.own ((v1).map cInt_i64) (v1).length)]) (fun s => ref1_Typing_statement_J3 a0 a1 x1 v1 s) ?_ ?_
       · refine sr <| pp oFA <| pp oLd <| pp oEql <| nl <| ?_
         refine cd hF (fun hF => ?_) (fun hF => ?_)
         · refine rg <| pp oMove <| ?_
           refine bb hF fun x11 h11 hF => ?_
           refine rr (oIxM h11) <| rr (oLdM (idx_nat h11)) <| ?_
           refine bb hF fun x12 h12 hF => ?_
           refine pp (oCallZ (T_ref1_scalar h12)) <| pp oAssign <| nl <| ?_
           exact qj x12 hF cutR'
         · refine sk <| ?_
           exact qj y10 hF cutR'
       · rintro y11 hF
         replace hF : ref1_Typing_statement_J3 a0 a1 x1 v1 y11 = some r := hF
         unfold ref1_Typing_statement_J3 at hF
         refine mk ?_
         refine sjn (r := r) (fun (s : Bool) => mkSt 171 [3, 7, 8, 9] [(.vp (cXTurneryref1_Typing a0)), (.vp (cXApi_Node x1)), (B s), (.own ((v1).map cInt_i64) (v1).length)]) (fun s => ref1_Typing_statement_J4 a0 x1 v1 s) ?_ ?_
         · refine sr <| pp oFA <| pp oLd <| pp oEql <| nl <| ?_
           refine cd hF (fun hF => ?_) (fun hF => ?_)
           · refine rgC (fun (s : Bool) => mkSt 171 [3, 7, 8, 9] [(.vp (cXTurneryref1_Typing a0)), (.vp (cXApi_Node x1)), (B s), (.own ((v1).map cInt_i64) (v1).length)]) hF (fun z3 hF => ?_) (fun p2 hF => ?_)
             · refine pp oMove <| ?_
               refine bb hF fun x7 h7 hF => ?_
               refine rr (oIxM h7) <| rr (oLdM (idx_nat h7)) <| ?_
               refine bb hF fun x8 h8 hF => ?_
               refine pp (oCallZ (T_ref1_scalar h8)) <| pp oMove <| ?_
               refine spl (d := 98) hF (fun hF => ?_) (fun hF => ?_)
               · refine no fun u23 k23 hk23 => ?_
                 refine no fun u24 k24 hk24 => ?_
                 refine no fun u25 k25 hk25 => ?_
                 refine no fun u26 k26 hk26 => ?_
                 refine no fun u27 k27 hk27 => ?_
                 refine no fun u28 k28 hk28 => ?_
                 refine no fun u29 k29 hk29 => ?_
                 refine no fun u30 k30 hk30 => ?_
                 refine no fun u31 k31 hk31 => ?_
                 refine no fun u32 k32 hk32 => ?_
                 refine pp oPickT <| pp oAssign <| ?_
                 obtain rfl := inj hF
                 exact nlCD (hf := rok) cutR'
               · refine pt ar oFA <| pt ar oLd <| pt ar oFA <| pt ar oLd <| ?_
                 refine bb hF fun x9 h9 hF => ?_
                 refine pt ar (oIx h9) <| pt ar oLd <| ?_
                 refine bb hF fun x10 h10 hF => ?_
                 refine pt ar (oIx h10) <| pt ar oFA <| pt ar oLd <| pt ar oEql <| pp oPickF <| pp oAssign <| ?_
                 obtain rfl := inj hF
                 exact nlCD cutR'
             · refine qmk ?_
               exact qj p2 hF cutR'
           · refine sk <| ?_
             exact qj y11 hF cutR'
         · rintro y12 hF
           replace hF : ref1_Typing_statement_J4 a0 x1 v1 y12 = some r := hF
           unfold ref1_Typing_statement_J4 at hF
           refine mk ?_
           refine sjn (r := r) (fun (s : Bool) => mkSt 171 [3, 7, 8, 9] [(.vp (cXTurneryref1_Typing a0)), (.vp (cXApi_Node x1)), (B s), (.own ((v1).map cInt_i64) (v1).length)]) (fun s => ref1_Typing_statement_J5 a0 x1 v1 s) ?_ ?_
           · refine sr <| pp oFA <| pp oLd <| pp oEql <| pp oMove <| pg ar oFA <| pg ar oLd <| pg ar oEql <| pp oPick <| nl <| ?_
             refine cd hF (fun hF => ?_) (fun hF => ?_)
             · refine rg <| pp oMove <| ?_
               refine bb hF fun x6 h6 hF => ?_
               refine rr (oIxM h6) <| rr (oLdM (idx_nat h6)) <| pp oEql <| pp oAssign <| nl <| ?_
               exact qj (x6 == 1) hF cutR'
             · refine sk <| ?_
               exact qj y12 hF cutR'
           · rintro y13 hF
             replace hF : ref1_Typing_statement_J5 a0 x1 v1 y13 = some r := hF
             unfold ref1_Typing_statement_J5 at hF
             refine mk ?_
             refine sjn (r := r) (fun (s : Bool) => mkSt 171 [3, 7, 8] [(.vp (cXTurneryref1_Typing a0)), (.vp (cXApi_Node x1)), (B s)]) (fun s => ref1_Typing_statement_J6 a0 x1 s) ?_ ?_
             · refine sr <| pp oFA <| pp oLd <| pp oEql <| nl <| ?_
               refine cd hF (fun hF => ?_) (fun hF => ?_)
               · refine rgC (fun (s : Bool) => mkSt 171 [3, 7, 8] [(.vp (cXTurneryref1_Typing a0)), (.vp (cXApi_Node x1)), (B s)]) hF (fun z2 hF => ?_) (fun p1 hF => ?_)
                 · refine pp oMove <| pp (oLenRs (m := v1.length)) <| pp oEql <| pp oMove <| pg ar oFA <| pg ar oLd <| pg ar oEql <| pp oPick <| pp oMove <| ?_
                   refine spl (d := 133) hF (fun hF => ?_) (fun hF => ?_)
                   · refine no fun u1 k1 hk1 => ?_
                     refine no fun u2 k2 hk2 => ?_
                     refine no fun u3 k3 hk3 => ?_
                     refine no fun u4 k4 hk4 => ?_
                     refine no fun u5 k5 hk5 => ?_
                     refine no fun u6 k6 hk6 => ?_
                     refine no fun u7 k7 hk7 => ?_
                     refine no fun u8 k8 hk8 => ?_
                     refine no fun u9 k9 hk9 => ?_
                     refine no fun u10 k10 hk10 => ?_
                     refine no fun u11 k11 hk11 => ?_
                     refine no fun u12 k12 hk12 => ?_
                     refine no fun u13 k13 hk13 => ?_
                     refine no fun u14 k14 hk14 => ?_
                     refine no fun u15 k15 hk15 => ?_
                     refine no fun u16 k16 hk16 => ?_
                     refine pp oPickT <| pp oAssign <| ?_
                     obtain rfl := inj hF
                     exact nlCD (hf := rok) cutR'
                   · refine pt ar oMove <| pt ar (oLenRs (m := v1.length)) <| pt ar oEql <| pt ar oMove <| pg ar oFA <| pg ar oLd <| pg ar oNeq <| pt ar oPick <| pt ar oMove <| ?_
                     refine splG (d := 142) hF (fun hF => ?_) (fun hF => ?_)
                     · refine pt ar oMove <| ?_
                       refine bb hF fun x5 h5 hF => ?_
                       refine rt_ ar (oIxM h5) <| rt_ ar (oLdM (idx_nat h5)) <| pt ar oFA <| pt ar oLd <| pt ar oEql <| pt ar oPickT <| pp oPickF <| pp oAssign <| ?_
                       obtain rfl := inj hF
                       exact nlCD cutR'
                     · refine no fun u17 k17 hk17 => ?_
                       refine no fun u18 k18 hk18 => ?_
                       refine no fun u19 k19 hk19 => ?_
                       refine no fun u20 k20 hk20 => ?_
                       refine no fun u21 k21 hk21 => ?_
                       refine no fun u22 k22 hk22 => ?_
                       refine pt ar oPickF <| pp oPickF <| pp oAssign <| ?_
                       obtain rfl := inj hF
                       exact nlCD (hf := rok) cutR'
                 · refine qmk ?_
                   exact qj p1 hF cutR'
               · refine sk <| ?_
                 exact qj y13 hF cutR'
             · rintro y14 hF
               replace hF : ref1_Typing_statement_J6 a0 x1 y14 = some r := hF
               unfold ref1_Typing_statement_J6 at hF
               refine mk ?_
               refine sq <| sr <| pp oFA <| pp oLd <| pp oEql <| pp oMove <| pg ar oFA <| pg ar oLd <| pg ar oEql <| pp oPick <| pp oMove <| pg ar oFA <| pg ar oLd <| pg ar oEql <| ?_
               refine pg ar oMove <| pg ar oFA <| pg ar oLd <| pg ar oEql <| pg ar oPick <| pp oPick <| nl <| ?_
               refine cd hF (fun hF => ?_) (fun hF => ?_)
               · refine sr <| pp oAssign <| nl <| rt <| qsR <| ?_
                 obtain rfl := inj hF
                 exact fin1
               · refine sk <| qs <| sq <| sr <| pp oMove <| pp oNot <| nl <| ?_
                 refine cd hF (fun hF => ?_) (fun hF => ?_)
                 · refine sr <| pp oAssign <| nl <| rt <| qsR <| ?_
                   obtain rfl := inj hF
                   exact fin1
                 · refine sk <| qs <| sr <| pp oAssign <| nl <| rt <| ?_
                   obtain rfl := inj hF
                   exact fin1
noncomputable def ref1_Typing_look_L1 (rc : XTurneryref1_Typing → XApi_Tree → Int → Option XTurneryref1_Typing) (a1 : XApi_Tree) (x1 : XApi_Node) (y12 : XTurneryref1_Typing) (y13 : Int) : Option (Lp (XTurneryref1_Typing × Int) XTurneryref1_Typing) :=
 if (if (decide (y13 < (x1.Kids.length : Int))) then (y12.Bad.Code == 0) else false) then
 ((idx x1.Kids y13).bind fun x2 =>
 (rc y12 a1 x2).bind fun x3 =>
 some (.next (x3, (w64 (y13 + 1)))))
 else
 (some (.out y12))
noncomputable def ref1_Typing_look_J4 (y14 : XTurneryref1_Typing) : Option XTurneryref1_Typing :=
 some y14
noncomputable def ref1_Typing_look_J3 (rc : XTurneryref1_Typing → XApi_Tree → Int → Option XTurneryref1_Typing) (a0 : XTurneryref1_Typing) (a1 : XApi_Tree) (a2 : Int) (x1 : XApi_Node) (y3 : XTurneryref1_Typing) : Option XTurneryref1_Typing :=
 (Loop (fun (s : (XTurneryref1_Typing × Int)) => ref1_Typing_look_L1 rc a1 x1 s.1 s.2) (y3, 0)).bind fun v1 =>
 if (v1.Bad.Code != 0) then
 (some (XTurneryref1_Typing.mk v1.Names v1.Of v1.Tells a0.Loops a0.Leave v1.Bad))
 else
 ((ref1_Expression x1.Kind).bind fun x4 =>
 if x4 then
 ((ref1_Typing_expr (XTurneryref1_Typing.mk v1.Names v1.Of v1.Tells a0.Loops a0.Leave v1.Bad) a1 a2).bind fun x5 =>
 if (decide (x5 < 0)) then
 ((ref1_fault 8 a2).bind fun x6 =>
 some (XTurneryref1_Typing.mk v1.Names v1.Of v1.Tells a0.Loops a0.Leave x6))
 else
 ((idx v1.Of a2).bind fun x7 =>
 some (XTurneryref1_Typing.mk v1.Names (List.set v1.Of ((a2) : Int).toNat x5) v1.Tells a0.Loops a0.Leave v1.Bad)))
 else
 ((ref1_Typing_statement (XTurneryref1_Typing.mk v1.Names v1.Of v1.Tells a0.Loops a0.Leave v1.Bad) a1 a2).bind fun x8 =>
 if (x8 != 0) then
 ((ref1_fault x8 a2).bind fun x9 =>
 ref1_Typing_look_J4 (XTurneryref1_Typing.mk v1.Names v1.Of v1.Tells a0.Loops a0.Leave x9))
 else
 (ref1_Typing_look_J4 (XTurneryref1_Typing.mk v1.Names v1.Of v1.Tells a0.Loops a0.Leave v1.Bad))))
noncomputable def ref1_Typing_look_J2 (rc : XTurneryref1_Typing → XApi_Tree → Int → Option XTurneryref1_Typing) (a0 : XTurneryref1_Typing) (a1 : XApi_Tree) (a2 : Int) (x1 : XApi_Node) (y2 : XTurneryref1_Typing) : Option XTurneryref1_Typing :=
 if (x1.Kind == 18) then
 (ref1_Typing_look_J3 rc a0 a1 a2 x1 (XTurneryref1_Typing.mk y2.Names y2.Of y2.Tells y2.Loops (w64 (y2.Leave + 1)) y2.Bad))
 else
 (ref1_Typing_look_J3 rc a0 a1 a2 x1 y2)
noncomputable def ref1_Typing_look_J1 (rc : XTurneryref1_Typing → XApi_Tree → Int → Option XTurneryref1_Typing) (a0 : XTurneryref1_Typing) (a1 : XApi_Tree) (a2 : Int) (x1 : XApi_Node) (y1 : XTurneryref1_Typing) : Option XTurneryref1_Typing :=
 if (if (if (x1.Kind == 15) then true else (x1.Kind == 16)) then true else (x1.Kind == 17)) then
 (ref1_Typing_look_J2 rc a0 a1 a2 x1 (XTurneryref1_Typing.mk y1.Names y1.Of y1.Tells (w64 (y1.Loops + 1)) (w64 (y1.Leave + 1)) y1.Bad))
 else
 (ref1_Typing_look_J2 rc a0 a1 a2 x1 y1)
noncomputable def ref1_Typing_look_B (rc : XTurneryref1_Typing → XApi_Tree → Int → Option XTurneryref1_Typing) (a0 : XTurneryref1_Typing) (a1 : XApi_Tree) (a2 : Int) : Option XTurneryref1_Typing :=
 (idx a1.Nodes a2).bind fun x1 =>
 if (x1.Kind == 3) then
 (ref1_Typing_look_J1 rc a0 a1 a2 x1 (XTurneryref1_Typing.mk a0.Names a0.Of x1.N a0.Loops a0.Leave a0.Bad))
 else
 (ref1_Typing_look_J1 rc a0 a1 a2 x1 a0)
noncomputable def ref1_Typing_look : Nat → XTurneryref1_Typing → XApi_Tree → Int → Option XTurneryref1_Typing
 | 0 => fun _ _ _ => none
 | m + 1 => ref1_Typing_look_B (ref1_Typing_look m)
abbrev R_ref1_Typing_look (r : XTurneryref1_Typing) : AV := (.agg (cXTurneryref1_Typing_SIOIIIIe r))
set_option maxHeartbeats 4000000 in
theorem T_ref1_Typing_look_B {nn : Nat} {rc : XTurneryref1_Typing → XApi_Tree → Int → Option XTurneryref1_Typing} (ih : ∀ {a0 : XTurneryref1_Typing} {a1 : XApi_Tree} {a2 : Int} {r : XTurneryref1_Typing}, rc a0 a1 a2 = some r → den cx (nn + 3) 30 [(.agg (cXTurneryref1_Typing_SIOIIIIe a0)), (.agg (cXApi_Tree a1)), (I a2)] = some (R_ref1_Typing_look r, [])) {a0 : XTurneryref1_Typing} {a1 : XApi_Tree} {a2 : Int} {r : XTurneryref1_Typing} (hF : ref1_Typing_look_B rc a0 a1 a2 = some r) : den cx (nn + 4) 30 [(.agg (cXTurneryref1_Typing_SIOIIIIe a0)), (.agg (cXApi_Tree a1)), (I a2)] = some (R_ref1_Typing_look r, []) := by
 unfold ref1_Typing_look_B at hF
 refine fnA Try.func30 Try.ntmps30 (by exact spine) (sl := [0, 1, 2]) ?_
 refine sr <| ww oBoxM <| pp oBoxF <| ww oAlloc <| nl <| sr <| pp oFA <| pp oLd <| pp oMove <| ?_
 refine bb hF fun x1 h1 hF => ?_
 refine pp (oIx h1) <| pp oLdA <| ww oAlloc <| ww oStF <| nl <| sr <| pp oFAM <| rr oLdR <| pp oAssign <| nl <| sr <| pp oFAM <| rr oLdR <| pp oAssign <| ?_
 refine nl <| ?_
 refine sjn (r := r) (fun (s : XTurneryref1_Typing) => mkSt 116 [2, 3, 4, 6, 7, 8, 9] [(I a2), (.ownp (cXTurneryref1_Typing_SIOIIIIe s)), (.vp (cXApi_Tree a1)), (.ownp (cXTurneryref1_Typing_SOOIIIIe (XTurneryref1_Typing.mk [] [] 0 0 0 (XApi_Fault.mk 0 0)))), (.vp (cXApi_Node x1)), (I a0.Loops), (I a0.Leave)]) (fun s => ref1_Typing_look_J1 rc a0 a1 a2 x1 s) ?_ ?_
 · refine sr <| pp oFA <| pp oLd <| pp oEql <| nl <| ?_
   refine cd hF (fun hF => ?_) (fun hF => ?_)
   · refine rg <| pp oFA <| pp oLd <| pp oFAM <| ww oStR <| nl <| ?_
     exact qj (XTurneryref1_Typing.mk a0.Names a0.Of x1.N a0.Loops a0.Leave a0.Bad) hF cutR'
   · refine sk <| ?_
     exact qj a0 hF cutR'
 · rintro y1 hF
   replace hF : ref1_Typing_look_J1 rc a0 a1 a2 x1 y1 = some r := hF
   unfold ref1_Typing_look_J1 at hF
   refine mk ?_
   refine sjn (r := r) (fun (s : XTurneryref1_Typing) => mkSt 116 [2, 3, 4, 6, 7, 8, 9] [(I a2), (.ownp (cXTurneryref1_Typing_SIOIIIIe s)), (.vp (cXApi_Tree a1)), (.ownp (cXTurneryref1_Typing_SOOIIIIe (XTurneryref1_Typing.mk [] [] 0 0 0 (XApi_Fault.mk 0 0)))), (.vp (cXApi_Node x1)), (I a0.Loops), (I a0.Leave)]) (fun s => ref1_Typing_look_J2 rc a0 a1 a2 x1 s) ?_ ?_
   · refine sr <| pp oFA <| pp oLd <| pp oEql <| pp oMove <| pg ar oFA <| pg ar oLd <| pg ar oEql <| pp oPick <| pp oMove <| pg ar oFA <| pg ar oLd <| pg ar oEql <| pp oPick <| ?_
     refine nl <| ?_
     refine cd hF (fun hF => ?_) (fun hF => ?_)
     · refine sr <| pp oFAM <| rr oLdR <| pp oAdd <| pp oFAM <| ww oStR <| nl <| rg <| pp oFAM <| rr oLdR <| pp oAdd <| pp oFAM <| ww oStR <| nl <| ?_
       exact qj (XTurneryref1_Typing.mk y1.Names y1.Of y1.Tells (w64 (y1.Loops + 1)) (w64 (y1.Leave + 1)) y1.Bad) hF cutR'
     · refine sk <| ?_
       exact qj y1 hF cutR'
   · rintro y2 hF
     replace hF : ref1_Typing_look_J2 rc a0 a1 a2 x1 y2 = some r := hF
     unfold ref1_Typing_look_J2 at hF
     refine mk ?_
     refine sjn (r := r) (fun (s : XTurneryref1_Typing) => mkSt 116 [2, 3, 4, 6, 7, 8, 9] [(I a2), (.ownp (cXTurneryref1_Typing_SIOIIIIe s)), (.vp (cXApi_Tree a1)), (.ownp (cXTurneryref1_Typing_SOOIIIIe (XTurneryref1_Typing.mk [] [] 0 0 0 (XApi_Fault.mk 0 0)))), (.vp (cXApi_Node x1)), (I a0.Loops), (I a0.Leave)]) (fun s => ref1_Typing_look_J3 rc a0 a1 a2 x1 s) ?_ ?_
     · refine sr <| pp oFA <| pp oLd <| pp oEql <| nl <| ?_
       refine cd hF (fun hF => ?_) (fun hF => ?_)
       · refine rg <| pp oFAM <| rr oLdR <| pp oAdd <| pp oFAM <| ww oStR <| nl <| ?_
         exact qj (XTurneryref1_Typing.mk y2.Names y2.Of y2.Tells y2.Loops (w64 (y2.Leave + 1)) y2.Bad) hF cutR'
       · refine sk <| ?_
         exact qj y2 hF cutR'
     · rintro y3 hF
       replace hF : ref1_Typing_look_J3 rc a0 a1 a2 x1 y3 = some r := hF
       unfold ref1_Typing_look_J3 at hF
       refine mk ?_
       refine sq <| sr <| pp oAssign <| nl <| ?_
       refine lp (fun (s : (XTurneryref1_Typing × Int)) => mkSt 116 [2, 3, 4, 6, 7, 8, 9, 10] [(I a2), (.ownp (cXTurneryref1_Typing_SIOIIIIe s.1)), (.vp (cXApi_Tree a1)), (.ownp (cXTurneryref1_Typing_SOOIIIIe (XTurneryref1_Typing.mk [] [] 0 0 0 (XApi_Fault.mk 0 0)))), (.vp (cXApi_Node x1)), (I a0.Loops), (I a0.Leave), (I s.2)]) (fun (s : XTurneryref1_Typing) => mkSt 116 [2, 3, 4, 6, 7, 8, 9] [(I a2), (.ownp (cXTurneryref1_Typing_SIOIIIIe s)), (.vp (cXApi_Tree a1)), (.ownp (cXTurneryref1_Typing_SOOIIIIe (XTurneryref1_Typing.mk [] [] 0 0 0 (XApi_Fault.mk 0 0)))), (.vp (cXApi_Node x1)), (I a0.Loops), (I a0.Leave)]) hF cutR' ?_ ?_
       · rintro ⟨y12, y13⟩ z1 hF
         replace hF : ref1_Typing_look_L1 rc a1 x1 y12 y13 = some z1 := hF
         unfold ref1_Typing_look_L1 at hF
         refine mk ?_
         refine sq <| sr <| pp oMove <| pp oFA <| pp oLd <| pp oLenSl <| pp oLss <| pp oMove <| pg ar oFAM <| pg ar oFAM <| rgd ar oLdR <| pg ar oEql <| pp oPick <| nl <| ?_
         refine cd hF (fun hF => ?_) (fun hF => ?_)
         · refine sk <| qs <| sq <| bl <| rgD <| rr oLdRA <| pp oLdA <| pp oFA <| pp oLd <| pp oMove <| ?_
           refine bb hF fun x2 h2 hF => ?_
           refine pp (oIx h2) <| pp oLd <| ?_
           refine bb hF fun x3 h3 hF => ?_
           refine ww (oCallT (ih h3)) <| ww oStR <| nlD <| qb <| qs <| rg <| pp oMove <| pp oAdd <| pp oAssign <| nl <| ?_
           exact ln hF cutR'
         · refine ex <| qsE <| ?_
           exact lx hF cutR'
       · intro v1 hF
         refine qmk ?_
         refine qs <| sr <| pp oMove <| pp oFAM <| ww oStR <| nl <| sr <| pp oMove <| pp oFAM <| ww oStR <| nl <| sq <| sr <| pp oFAM <| ?_
         refine pp oFAM <| rr oLdR <| pp oNeq <| nl <| ?_
         refine cd hF (fun hF => ?_) (fun hF => ?_)
         · refine sr <| rr oLdRA <| ww oStR <| nl <| rt <| qsR <| ?_
           obtain rfl := inj hF
           exact fin1
         · refine sk <| qs <| sq <| sr <| pp oFA <| pp oLd <| ?_
           refine bb hF fun x4 h4 hF => ?_
           refine pp (oCallZ (T_ref1_Expression h4)) <| nl <| ?_
           refine cd hF (fun hF => ?_) (fun hF => ?_)
           · refine sr <| rr oLdRA <| pp oLdA <| pp oMove <| ?_
             refine bb hF fun x5 h5 hF => ?_
             refine rr (oCall (T_ref1_Typing_expr h5)) <| pp oAssign <| nl <| sq <| sr <| pp oMove <| pp oLss <| nl <| ?_
             refine cd hF (fun hF => ?_) (fun hF => ?_)
             · refine sr <| pp oMove <| ?_
               refine bb hF fun x6 h6 hF => ?_
               refine pp (oCall (T_ref1_fault h6)) <| pp oFAM <| ww oStR <| nl <| sr <| rr oLdRA <| ww oStR <| nl <| rt <| qsR <| qsR <| ?_
               obtain rfl := inj hF
               exact fin1
             · refine sk <| qs <| sr <| pp oFAM <| rr oLdR <| pp oMove <| pp oMove <| ?_
               refine bb hF fun x7 h7 hF => ?_
               refine rr (oIxM h7) <| ww (oStL (idx_nat h7) x5) <| nl <| sr <| rr oLdRA <| ww oStR <| nl <| rt <| qsR <| ?_
               obtain rfl := inj hF
               exact fin1
           · refine sk <| qs <| sr <| rr oLdRA <| pp oLdA <| pp oMove <| ?_
             refine bb hF fun x8 h8 hF => ?_
             refine rr (oCallZ (T_ref1_Typing_statement h8)) <| pp oAssign <| nl <| ?_
             refine sjn (r := r) (fun (s : XTurneryref1_Typing) => mkSt 116 [3, 6] [(.ownp (cXTurneryref1_Typing_SIOIIIIe s)), (.ownp (cXTurneryref1_Typing_SOOIIIIe (XTurneryref1_Typing.mk [] [] 0 0 0 (XApi_Fault.mk 0 0))))]) (fun s => ref1_Typing_look_J4 s) ?_ ?_
             · refine sr <| pp oMove <| pp oNeq <| nl <| ?_
               refine cd hF (fun hF => ?_) (fun hF => ?_)
               · refine rg <| pp oMove <| pp oMove <| ?_
                 refine bb hF fun x9 h9 hF => ?_
                 refine pp (oCall (T_ref1_fault h9)) <| pp oFAM <| ww oStR <| nl <| ?_
                 exact qj (XTurneryref1_Typing.mk v1.Names v1.Of v1.Tells a0.Loops a0.Leave x9) hF cutR'
               · refine sk <| ?_
                 exact qj (XTurneryref1_Typing.mk v1.Names v1.Of v1.Tells a0.Loops a0.Leave v1.Bad) hF cutR'
             · rintro y14 hF
               replace hF : ref1_Typing_look_J4 y14 = some r := hF
               unfold ref1_Typing_look_J4 at hF
               refine mk ?_
               refine sr <| rr oLdRA <| ww oStR <| nl <| rt <| ?_
               obtain rfl := inj hF
               exact fin1
theorem T_ref1_Typing_look : ∀ {fu nn : Nat} {a0 : XTurneryref1_Typing} {a1 : XApi_Tree} {a2 : Int} {r : XTurneryref1_Typing} (hF : ref1_Typing_look fu a0 a1 a2 = some r), den cx (fu + nn + 4) 30 [(.agg (cXTurneryref1_Typing_SIOIIIIe a0)), (.agg (cXApi_Tree a1)), (I a2)] = some (R_ref1_Typing_look r, [])
 | 0, _, _, _, _, _, hF => by cases hF
 | m + 1, nn, _, _, _, _, hF => by
  rw [show m + 1 + nn + 4 = m + nn + 1 + 4 by omega]
  refine T_ref1_Typing_look_B (nn := m + nn + 1) (rc := ref1_Typing_look m) (fun h => ?_) hF
  have := T_ref1_Typing_look (nn := nn) h
  rwa [show m + nn + 4 = m + nn + 1 + 3 by omega] at this
end Go.Ab
namespace Go.Ab
open Go Go.Proofs
noncomputable def ref1_Main_L1 (a0 : XApi_Tree) (x1 : XApi_Node) (y4 : Int) : Option (Lp Int (Br Unit Int)) :=
 if (decide (y4 < (x1.Kids.length : Int))) then
 (((idx x1.Kids y4).bind fun x2 =>
 (idx a0.Nodes x2).bind fun x3 =>
 if (x3.Kind == 3) then
 ((idx x1.Kids y4).bind fun x4 =>
 (idx a0.Nodes x4).bind fun x5 =>
 some (x5.Text.toList == (ByteArray.mk #[109, 97, 105, 110]).toList))
 else
 (some false)).bind fun p1 =>
 if p1 then
 ((idx x1.Kids y4).bind fun x6 =>
 some (.out (.ret x6)))
 else
 (some (.next (w64 (y4 + 1)))))
 else
 (some (.out (.brk ())))
noncomputable def ref1_Main (a0 : XApi_Tree) : Option Int :=
 (idx a0.Nodes (w64 ((a0.Nodes.length : Int) - 1))).bind fun x1 =>
 (Loop (fun (s : Int) => ref1_Main_L1 a0 x1 s) 0).bind (Br.go (fun _ =>
 some (-1)) (fun r1 => some r1))
abbrev R_ref1_Main (r : Int) : AV := (I r)
def RR_ref1_Main (r : Int) (x : Exit × St) : Prop := x.1 = .ret ∧ Fin cx [.tmp 2] [] (R_ref1_Main r) [] x
set_option maxHeartbeats 4000000 in
theorem T_ref1_Main {nn : Nat} {a0 : XApi_Tree} {r : Int} (hF : ref1_Main a0 = some r) : den cx (nn + 1) 31 [(.agg (cXApi_Tree a0))] = some (R_ref1_Main r, []) := by
 unfold ref1_Main at hF
 refine fnA Try.func31 Try.ntmps31 (by exact spine) (sl := [0]) ?_
 refine sr <| pp oBoxF <| pp oAssign <| nl <| sr <| pp oFA <| pp oLd <| pp oFA <| pp oLd <| pp oLenSl <| pp oSub <| ?_
 refine bb hF fun x1 h1 hF => ?_
 refine pp (oIx h1) <| pp oFA <| pp oLd <| pp oAssign <| nl <| sq <| sr <| pp oAssign <| nl <| ?_
 refine lpR (fun (s : Int) => mkSt 46 [1, 3, 4] [(.vp (cXApi_Tree a0)), (.sl ((x1.Kids).map cInt_i64)), (I s)]) (fun (s : Unit) => mkSt 46 [] []) RR_ref1_Main hF cutR' ?_ ?_ ?_
 · rintro y4 z1 hF
   replace hF : ref1_Main_L1 a0 x1 y4 = some z1 := hF
   unfold ref1_Main_L1 at hF
   refine mk ?_
   refine sq <| sr <| pp oMove <| pp oMove <| pp oLenSl <| pp oLss <| nl <| ?_
   refine cd hF (fun hF => ?_) (fun hF => ?_)
   · refine sk <| qs <| sq <| bl <| ?_
     refine srC (fun (s : Bool) => mkSt 46 [1, 3, 4, 41] [(.vp (cXApi_Tree a0)), (.sl ((x1.Kids).map cInt_i64)), (I y4), (B s)]) hF (fun z2 hF => ?_) (fun p1 hF => ?_)
     · refine pp oFA <| pp oLd <| pp oMove <| pp oMove <| ?_
       refine bb hF fun x2 h2 hF => ?_
       refine pp (oIx h2) <| pp oLd <| ?_
       refine bb hF fun x3 h3 hF => ?_
       refine pp (oIx h3) <| pp oFA <| pp oLd <| pp oEql <| pp oMove <| ?_
       refine spl (d := 30) hF (fun hF => ?_) (fun hF => ?_)
       · refine pt ar oFA <| pt ar oLd <| pt ar oMove <| pt ar oMove <| ?_
         refine bb hF fun x4 h4 hF => ?_
         refine pt ar (oIx h4) <| pt ar oLd <| ?_
         refine bb hF fun x5 h5 hF => ?_
         refine pt ar (oIx h5) <| pt ar oFA <| pt ar oLd <| pt ar oEqlS <| pp oPickT <| ?_
         obtain rfl := inj hF
         exact nlCD cutR'
       · refine no fun u1 k1 hk1 => ?_
         refine no fun u2 k2 hk2 => ?_
         refine no fun u3 k3 hk3 => ?_
         refine no fun u4 k4 hk4 => ?_
         refine no fun u5 k5 hk5 => ?_
         refine no fun u6 k6 hk6 => ?_
         refine no fun u7 k7 hk7 => ?_
         refine no fun u8 k8 hk8 => ?_
         refine no fun u9 k9 hk9 => ?_
         refine no fun u10 k10 hk10 => ?_
         refine pp oPickF <| ?_
         obtain rfl := inj hF
         exact nlCD (hf := rok) cutR'
     · refine mk ?_
       refine cd hF (fun hF => ?_) (fun hF => ?_)
       · refine sr <| pp oMove <| pp oMove <| ?_
         refine bb hF fun x6 h6 hF => ?_
         refine pp (oIx h6) <| pp oLd <| pp oAssign <| nl <| rt <| qbR <| qsR <| ?_
         exact lr hF ⟨rfl, fin1⟩
       · refine sk <| qb <| qs <| rg <| pp oMove <| pp oAdd <| pp oAssign <| nl <| ?_
         exact ln hF cutR'
   · refine ex <| qsE <| ?_
     exact lxR hF cutR'
 · intro _ hF
   refine qmk ?_
   refine qs <| sr <| pp oAssign <| nl <| rt <| ?_
   obtain rfl := inj hF
   exact fin1
 · rintro r1 hF ⟨xe, xs⟩ ⟨hxe, hfin⟩
   obtain rfl : xe = Exit.ret := hxe
   obtain rfl := inj hF
   refine qbR <| qsR <| ?_
   exact hfin
noncomputable def ref1_Types (fu : Nat) (a0 : XApi_Tree) : Option ((List Int) × XApi_Fault) :=
 (ref1_Names fu a0).bind fun x1 =>
 if (x1.2.Code != 0) then
 (some ([], x1.2))
 else
 ((mks (a0.Nodes.length : Int) (0 : Int)).bind fun x2 =>
 (ref1_Typing_look fu (XTurneryref1_Typing.mk x1.1 x2 0 0 0 (XApi_Fault.mk 0 0)) a0 (w64 ((a0.Nodes.length : Int) - 1))).bind fun x3 =>
 if (x3.Bad.Code != 0) then
 (some ([], x3.Bad))
 else
 ((ref1_Main a0).bind fun x4 =>
 if (decide (x4 < 0)) then
 ((ref1_fault 6 0).bind fun x5 =>
 some ([], x5))
 else
 ((idx a0.Nodes x4).bind fun x6 =>
 if (decide (1 < (x6.Kids.length : Int))) then
 ((ref1_fault 5 x4).bind fun x7 =>
 some ([], x7))
 else
 (some (x3.Of, (XApi_Fault.mk 0 0))))))
abbrev R_ref1_Types (r : ((List Int) × XApi_Fault)) : AV := (.tup [(.own ((r.1).map cInt_i64) (r.1).length), (.agg (cXApi_Fault r.2))])
set_option maxHeartbeats 4000000 in
theorem T_ref1_Types {fu nn : Nat} {a0 : XApi_Tree} {r : ((List Int) × XApi_Fault)} (hF : ref1_Types fu a0 = some r) : den cx (fu + nn + 7) 10 [(.agg (cXApi_Tree a0))] = some (R_ref1_Types r, []) := by
 unfold ref1_Types at hF
 refine fnA Try.func10 Try.ntmps10 (by exact spine) (sl := [0]) ?_
 refine sr <| pp oBoxF <| pp oAssign <| ww oAlloc <| nl <| sr <| pp oLdA <| ?_
 refine bb hF fun x1 h1 hF => ?_
 refine pp (oCallZ (dnE (T_ref1_Names (fu := fu) (nn := nn + 0) h1) (by omega))) <| pp oMove <| pp oExt <| pp oExt <| ww oAlloc <| pp oAssign <| ww oStF <| nl <| sq <| sr <| pp oFA <| pp oLd <| pp oNeq <| nl <| ?_
 refine cd hF (fun hF => ?_) (fun hF => ?_)
 · refine srD <| pp oLdA <| pp oAssign <| ww oStR <| nlD <| rt <| qsR <| ?_
   obtain rfl := inj hF
   exact finT
 · refine sk <| qs <| sr <| pp oMove <| pp oFA <| pp oLd <| pp oLenSl <| ?_
   refine bb hF fun x2 h2 hF => ?_
   refine ww (oMake (c := cInt_i64) h2 rfl) <| pp oBuild <| ww oAlloc <| ww oStR <| nl <| sr <| rr oLdRA <| pp oLdA <| pp oFA <| pp oLd <| pp oLenSl <| pp oSub <| ?_
   refine bb hF fun x3 h3 hF => ?_
   refine ww (oCallT (dnE (T_ref1_Typing_look (fu := fu) (nn := nn + 2) h3) (by omega))) <| ww oStR <| nl <| sq <| sr <| pp oFAM <| pp oFAM <| rr oLdR <| pp oNeq <| nl <| ?_
   refine cd hF (fun hF => ?_) (fun hF => ?_)
   · refine srD <| pp oFAM <| rr oLdRA <| pp oAssign <| ww oStR <| nlD <| rt <| qsR <| ?_
     obtain rfl := inj hF
     exact finT
   · refine sk <| qs <| sr <| pp oLdA <| ?_
     refine bb hF fun x4 h4 hF => ?_
     refine pp (oCallZ (T_ref1_Main h4)) <| pp oAssign <| nl <| sq <| sr <| pp oMove <| pp oLss <| nl <| ?_
     refine cd hF (fun hF => ?_) (fun hF => ?_)
     · refine sr <| ?_
       refine bb hF fun x5 h5 hF => ?_
       refine pp (oCall (T_ref1_fault h5)) <| pp oAssign <| ww oStR <| nl <| rt <| qsR <| ?_
       obtain rfl := inj hF
       exact finT
     · refine sk <| qs <| sq <| sr <| pp oFA <| pp oLd <| pp oMove <| ?_
       refine bb hF fun x6 h6 hF => ?_
       refine pp (oIx h6) <| pp oFA <| pp oLd <| pp oLenSl <| pp oGtr <| nl <| ?_
       refine cd hF (fun hF => ?_) (fun hF => ?_)
       · refine sr <| pp oMove <| ?_
         refine bb hF fun x7 h7 hF => ?_
         refine pp (oCall (T_ref1_fault h7)) <| pp oAssign <| ww oStR <| nl <| rt <| qsR <| ?_
         obtain rfl := inj hF
         exact finT
       · refine sk <| qs <| sr <| pp oFAM <| rr oLdR <| pp oBuild <| pp oAssign <| ww oStR <| nl <| rt <| ?_
         obtain rfl := inj hF
         exact finT
noncomputable def law1_TypesSays (fu : Nat) (a0 : XApi_Tree) : Option Bool :=
 if (decide (700 < (a0.Nodes.length : Int))) then
 (some true)
 else
 ((types_Of fu a0).bind fun x1 =>
 (ref1_Types fu a0).bind fun x2 =>
 (if ((x1.2.Code == x2.2.Code) && ((x1.2.At == x2.2.At) && true)) then
 ((same_Ints x1.1 x2.1).bind fun x3 =>
 some x3)
 else
 (some false)).bind fun p1 =>
 some p1)
abbrev R_law1_TypesSays (r : Bool) : AV := (B r)
set_option maxHeartbeats 4000000 in
theorem T_law1_TypesSays {fu nn : Nat} {a0 : XApi_Tree} {r : Bool} (hF : law1_TypesSays fu a0 = some r) : den cx (fu + nn + 8) 4 [(.agg (cXApi_Tree a0))] = some (R_law1_TypesSays r, []) := by
 unfold law1_TypesSays at hF
 refine fnA Try.func4 Try.ntmps4 (by exact spine) (sl := [0]) ?_
 refine sr <| pp oBoxF <| pp oAssign <| nl <| sq <| sr <| pp oFA <| pp oLd <| pp oLenSl <| pp oGtr <| nl <| ?_
 refine cd hF (fun hF => ?_) (fun hF => ?_)
 · refine sr <| pp oAssign <| nl <| rt <| qsR <| ?_
   obtain rfl := inj hF
   exact fin1
 · refine sk <| qs <| sr <| pp oLdA <| ?_
   refine bb hF fun x1 h1 hF => ?_
   refine pp (oCallZ (dnE (T_types_Of (fu := fu) (nn := nn + 0) h1) (by omega))) <| pp oMove <| pp oExt <| pp oExt <| ww oAlloc <| pp oAssign <| ww oStF <| nl <| sr <| pp oLdA <| ?_
   refine bb hF fun x2 h2 hF => ?_
   refine pp (oCallZ (dnE (T_ref1_Types (fu := fu) (nn := nn + 0) h2) (by omega))) <| pp oMove <| pp oExt <| pp oExt <| ww oAlloc <| pp oAssign <| ww oStF <| nl <| ?_
   refine srC (fun (s : Bool) => mkSt 29 [2] [(B s)]) hF (fun z1 hF => ?_) (fun p1 hF => ?_)
   · refine pp oLdA <| pp oLdA <| pp (oStq (eq27_eql ..)) <| pp oMove <| ?_
     refine spl (d := 24) hF (fun hF => ?_) (fun hF => ?_)
     · refine pt ar oMove <| pt ar oMove <| ?_
       refine bb hF fun x3 h3 hF => ?_
       refine pt ar (oCall (T_same_Ints h3)) <| pp oPickT <| pp oAssign <| ?_
       obtain rfl := inj hF
       exact nlC cutR'
     · refine no fun u1 k1 hk1 => ?_
       refine no fun u2 k2 hk2 => ?_
       refine no fun u3 k3 hk3 => ?_
       refine pp oPickF <| pp oAssign <| ?_
       obtain rfl := inj hF
       exact nlC cutR'
   · refine mk ?_
     refine rt <| ?_
     obtain rfl := inj hF
     exact fin1
end Go.Ab
