/-
  Functions of the program as functions on plain data (written by gen3.py).
-/
import Derived.Test.YtkgjhnmpcnjooaaDoorAbGen4
namespace Go.Ab
open Go Go.Proofs
variable [MM]
/-! turnery/turnerylaw1.TokenBlank -/
noncomputable def law1_TokenBlank_L1 (a2 : ByteArray) (y7 : Int) : Option (Lp Int (Br Unit Bool)) :=
 if (decide (y7 < (a2.size : Int))) then
 (((sidx a2 y7).bind fun x4 =>
 if ((x4.toNat : Int) == 42) then
 (some true)
 else
 ((sidx a2 y7).bind fun x5 =>
 some ((x5.toNat : Int) == 47))).bind fun p2 =>
 if p2 then
 (some (.out (.ret true)))
 else
 (some (.next (w64 (y7 + 1)))))
 else
 (some (.out (.brk ())))
noncomputable def law1_TokenBlank (a0 : ByteArray) (a1 : Int) (a2 : ByteArray) : Option Bool :=
 (law1_tokenFact).bind fun x1 =>
 if (!x1) then
 (some false)
 else
 ((token_Scan a0).bind fun x2 =>
 (if (x2.2.Code != 0) then
 (some true)
 else
 ((law1_in a1 0 (w64 ((x2.1.length : Int) - 1))).bind fun x3 =>
 some (if (!x3) then true else (decide (1900 < (w64 ((a0.size : Int) + (a2.size : Int)))))))).bind fun p1 =>
 if p1 then
 (some (if (x2.2.Code == 0) then true else ((x2.1.length : Int) == 0)))
 else
 ((Loop (fun (s : Int) => law1_TokenBlank_L1 a2 s) 0).bind (Br.go (fun _ =>
 (idx x2.1 a1).bind fun x6 =>
 (law1_in x6.At 0 (a0.size : Int)).bind fun x7 =>
 if (!x7) then
 (some false)
 else
 ((sslc a0 none (some x6.At)).bind fun x8 =>
 (catS x8 (ByteArray.mk #[32, 47, 42])).bind fun x9 =>
 (catS x9 a2).bind fun x10 =>
 (catS x10 (ByteArray.mk #[42, 47, 32])).bind fun x11 =>
 (sslc a0 (some x6.At) none).bind fun x12 =>
 (catS x11 x12).bind fun x13 =>
 (token_Scan x13).bind fun x14 =>
 (if (x14.2.Code == 0) then
 ((law1_bare x14.1).bind fun x15 =>
 (law1_bare x2.1).bind fun x16 =>
 (same_Tokens x15 x16).bind fun x17 =>
 some x17)
 else
 (some false)).bind fun p3 =>
 some p3)) (fun r1 => some r1))))
abbrev R_law1_TokenBlank (r : Bool) : AV := (B r)
def RR_law1_TokenBlank (r : Bool) (x : Exit × St) : Prop := x.1 = .ret ∧ Fin cx [.tmp 6] [] (R_law1_TokenBlank r) [] x
set_option maxHeartbeats 4000000 in
theorem T_law1_TokenBlank {nn : Nat} {a0 : ByteArray} {a1 : Int} {a2 : ByteArray} {r : Bool} (hF : law1_TokenBlank a0 a1 a2 = some r) : den cx (nn + 11) 7 [(AV.val (.string a0)), (I a1), (AV.val (.string a2))] = some (R_law1_TokenBlank r, []) := by
 unfold law1_TokenBlank at hF
 refine fnA Tryd.func7 Tryd.ntmps7 (by exact spine) (sl := [0, 1, 2]) ?_
 refine sr <| pp oAssign <| nl <| sr <| ?_
 refine bb hF fun x1 h1 hF => ?_
 refine pp (oCallZ (T_law1_tokenFact h1)) <| pp oAssign <| nl <| sq <| sr <| pp oMove <| pp oNot <| nl <| ?_
 refine cd hF (fun hF => ?_) (fun hF => ?_)
 · refine sr <| pp oAssign <| nl <| rt <| qsR <| ?_
   obtain rfl := inj hF
   exact fin
 · refine sk <| qs <| sr <| pp oMove <| ?_
   refine bb hF fun x2 h2 hF => ?_
   refine pp (oCallZ (T_token_Scan h2)) <| pp oMove <| pp oExt <| pp oExt <| ww oAlloc <| pp oAssign <| ww oStR <| nl <| sq <| ?_
   refine srC (fun (s : Bool) => mkSt 99 [0, 1, 2, 8, 9, 39] [(AV.val (.string a0)), (I a1), (AV.val (.string a2)), (.sl ((x2.1).map cXApi_Token)), (.ownp (cXApi_Fault x2.2)), (B s)]) hF (fun z4 hF => ?_) (fun p1 hF => ?_)
   · refine pp oFAM <| rr oLdR <| pp oNeq <| pp oMove <| ?_
     refine spl (d := 24) hF (fun hF => ?_) (fun hF => ?_)
     · refine no fun u1 k1 hk1 => ?_
       refine no fun u2 k2 hk2 => ?_
       refine no fun u3 k3 hk3 => ?_
       refine no fun u4 k4 hk4 => ?_
       refine no fun u5 k5 hk5 => ?_
       refine no fun u6 k6 hk6 => ?_
       refine pp oPickT <| pp oMove <| ?_
       refine no fun u7 k7 hk7 => ?_
       refine no fun u8 k8 hk8 => ?_
       refine no fun u9 k9 hk9 => ?_
       refine no fun u10 k10 hk10 => ?_
       refine no fun u11 k11 hk11 => ?_
       refine no fun u12 k12 hk12 => ?_
       refine pp oPickT <| ?_
       obtain rfl := inj hF
       exact nlC cutR'
     · refine pt ar oMove <| pt ar oMove <| pt ar oLenSl <| pt ar oSub <| ?_
       refine bb hF fun x3 h3 hF => ?_
       refine pt ar (oCallZ (T_law1_in h3)) <| pt ar oNot <| pp oPickF <| pp oMove <| pg ar oMove <| pg ar oLenS <| pg ar oMove <| pg ar oLenS <| pg ar oAdd <| pg ar oGtr <| pp oPick <| ?_
       obtain rfl := inj hF
       exact nlC cutR'
   · refine mk ?_
     refine cd hF (fun hF => ?_) (fun hF => ?_)
     · refine sr <| pp oFAM <| rr oLdR <| pp oEql <| pp oMove <| pg ar oMove <| pg ar oLenSl <| pg ar oEql <| pp oPick <| pp oAssign <| nl <| rt <| qsR <| ?_
       obtain rfl := inj hF
       exact fin
     · refine sk <| qs <| sq <| sr <| pp oAssign <| nl <| ?_
       refine lpR (fun (s : Int) => mkSt 99 [0, 1, 2, 8, 9, 10] [(AV.val (.string a0)), (I a1), (AV.val (.string a2)), (.sl ((x2.1).map cXApi_Token)), (.ownp (cXApi_Fault x2.2)), (I s)]) (fun (s : Unit) => mkSt 99 [0, 1, 2, 8, 9] [(AV.val (.string a0)), (I a1), (AV.val (.string a2)), (.sl ((x2.1).map cXApi_Token)), (.ownp (cXApi_Fault x2.2))]) RR_law1_TokenBlank hF cutR' ?_ ?_ ?_
       · rintro y7 z1 hF
         replace hF : law1_TokenBlank_L1 a2 y7 = some z1 := hF
         unfold law1_TokenBlank_L1 at hF
         refine mk ?_
         refine sq <| sr <| pp oMove <| pp oMove <| pp oLenS <| pp oLss <| nl <| ?_
         refine cd hF (fun hF => ?_) (fun hF => ?_)
         · refine sk <| qs <| sq <| bl <| ?_
           refine srC (fun (s : Bool) => mkSt 99 [0, 1, 2, 8, 9, 10, 63] [(AV.val (.string a0)), (I a1), (AV.val (.string a2)), (.sl ((x2.1).map cXApi_Token)), (.ownp (cXApi_Fault x2.2)), (I y7), (B s)]) hF (fun z2 hF => ?_) (fun p2 hF => ?_)
           · refine pp oMove <| pp oMove <| ?_
             refine bb hF fun x4 h4 hF => ?_
             refine pp (oIxS h4) <| pp oEql <| pp oMove <| ?_
             refine spl (d := 58) hF (fun hF => ?_) (fun hF => ?_)
             · refine no fun u13 k13 hk13 => ?_
               refine no fun u14 k14 hk14 => ?_
               refine no fun u15 k15 hk15 => ?_
               refine no fun u16 k16 hk16 => ?_
               refine pp oPickT <| ?_
               obtain rfl := inj hF
               exact nlC cutR'
             · refine pt ar oMove <| pt ar oMove <| ?_
               refine bb hF fun x5 h5 hF => ?_
               refine pt ar (oIxS h5) <| pt ar oEql <| pp oPickF <| ?_
               obtain rfl := inj hF
               exact nlC cutR'
           · refine mk ?_
             refine cd hF (fun hF => ?_) (fun hF => ?_)
             · refine sr <| pp oAssign <| nl <| rt <| qbR <| qsR <| ?_
               exact lr hF ⟨rfl, fin⟩
             · refine sk <| qb <| qs <| rg <| pp oMove <| pp oAdd <| pp oAssign <| nl <| ?_
               exact ln hF cutR'
         · refine ex <| qsE <| ?_
           exact lxR hF cutR'
       · intro _ hF
         refine qmk ?_
         refine qs <| sr <| pp oMove <| pp oMove <| ?_
         refine bb hF fun x6 h6 hF => ?_
         refine pp (oIx h6) <| pp oFA <| pp oLd <| pp oAssign <| nl <| sq <| sr <| pp oMove <| pp oMove <| pp oLenS <| ?_
         refine bb hF fun x7 h7 hF => ?_
         refine pp (oCallZ (T_law1_in h7)) <| pp oNot <| nl <| ?_
         refine cd hF (fun hF => ?_) (fun hF => ?_)
         · refine sr <| pp oAssign <| nl <| rt <| qsR <| ?_
           obtain rfl := inj hF
           exact fin
         · refine sk <| qs <| srD <| pp oMove <| pp oMove <| ?_
           refine bb hF fun x8 h8 hF => ?_
           refine pp (oSlcS h8) <| ?_
           refine bb hF fun x9 h9 hF => ?_
           refine pp (oAddS h9) <| pp oMove <| ?_
           refine bb hF fun x10 h10 hF => ?_
           refine pp (oAddS h10) <| ?_
           refine bb hF fun x11 h11 hF => ?_
           refine pp (oAddS h11) <| pp oMove <| pp oMove <| ?_
           refine bb hF fun x12 h12 hF => ?_
           refine pp (oSlcS h12) <| ?_
           refine bb hF fun x13 h13 hF => ?_
           refine pp (oAddS h13) <| ?_
           refine bb hF fun x14 h14 hF => ?_
           refine pp (oCallZ (T_token_Scan h14)) <| pp oMove <| pp oExt <| pp oExt <| pp oAssign <| ww oStR <| nlD <| ?_
           refine srC (fun (s : Bool) => mkSt 99 [6] [(B s)]) hF (fun z3 hF => ?_) (fun p3 hF => ?_)
           · refine pp oFAM <| rr oLdR <| pp oEql <| pp oMove <| ?_
             refine spl (d := 92) hF (fun hF => ?_) (fun hF => ?_)
             · refine pt ar oMove <| ?_
               refine bb hF fun x15 h15 hF => ?_
               refine pt ar (oCallZ (T_law1_bare h15)) <| pt ar oMove <| ?_
               refine bb hF fun x16 h16 hF => ?_
               refine pt ar (oCallZ (T_law1_bare h16)) <| ?_
               refine bb hF fun x17 h17 hF => ?_
               refine pt ar (oCall (T_same_Tokens h17)) <| pp oPickT <| pp oAssign <| ?_
               obtain rfl := inj hF
               exact nlC cutR'
             · refine no fun u17 k17 hk17 => ?_
               refine no fun u18 k18 hk18 => ?_
               refine no fun u19 k19 hk19 => ?_
               refine no fun u20 k20 hk20 => ?_
               refine no fun u21 k21 hk21 => ?_
               refine pp oPickF <| pp oAssign <| ?_
               obtain rfl := inj hF
               exact nlC cutR'
           · refine mk ?_
             refine rt <| ?_
             obtain rfl := inj hF
             exact fin
       · rintro r1 hF ⟨xe, xs⟩ ⟨hxe, hfin⟩
         obtain rfl : xe = Exit.ret := hxe
         obtain rfl := inj hF
         refine qbR <| qsR <| ?_
         exact hfin

/-! turnery/turnerylaw1.TokenWhole -/
noncomputable def law1_TokenWhole_J1 (y6 : Int) (y7 : Int) : Option (Lp (Int × Int) (Br Unit Bool)) :=
 some (.next (y7, (w64 (y6 + 1))))
noncomputable def law1_TokenWhole_L1 (a0 : ByteArray) (x2 : ((List XApi_Token) × XApi_Fault)) (y5 : Int) (y6 : Int) : Option (Lp (Int × Int) (Br Unit Bool)) :=
 if (decide (y6 < (x2.1.length : Int))) then
 ((idx x2.1 y6).bind fun x3 =>
 ((law1_in x3.At y5 (w64 ((a0.size : Int) - (x3.Text.size : Int)))).bind fun x4 =>
 if (if (!x4) then true else ((x3.Text.size : Int) == 0)) then
 (some true)
 else
 ((sslc a0 (some x3.At) (some (w64 (x3.At + (x3.Text.size : Int))))).bind fun x5 =>
 some (x5.toList != x3.Text.toList))).bind fun p1 =>
 if p1 then
 (some (.out (.ret false)))
 else
 ((token_Scan x3.Text).bind fun x6 =>
 if (if (x6.2.Code != 0) then true else ((x6.1.length : Int) != 1)) then
 (some (.out (.ret false)))
 else
 (if (if (decide ((w64 (x3.At + (x3.Text.size : Int))) < (a0.size : Int))) then (if (x3.Kind == 1) then true else (x3.Kind == 3)) else false) then
 ((sslc a0 (some x3.At) (some (w64 ((w64 (x3.At + (x3.Text.size : Int))) + 1)))).bind fun x7 =>
 (token_Scan x7).bind fun x8 =>
 (if (if (x8.2.Code == 0) then ((x8.1.length : Int) == 1) else false) then
 ((idx x8.1 0).bind fun x9 =>
 some ((w64 (x3.At + (x3.Text.size : Int))), (decide ((x3.Text.size : Int) < (x9.Text.size : Int)))))
 else
 (some ((w64 (x3.At + (x3.Text.size : Int))), false))).bind fun p2 =>
 if p2.2 then
 (some (.out (.ret false)))
 else
 (law1_TokenWhole_J1 y6 p2.1))
 else
 (law1_TokenWhole_J1 y6 (w64 (x3.At + (x3.Text.size : Int)))))))
 else
 (some (.out (.brk ())))
noncomputable def law1_TokenWhole (a0 : ByteArray) : Option Bool :=
 (law1_tokenFact).bind fun x1 =>
 if (!x1) then
 (some false)
 else
 ((token_Scan a0).bind fun x2 =>
 if (x2.2.Code != 0) then
 (some ((x2.1.length : Int) == 0))
 else
 ((Loop (fun (s : (Int × Int)) => law1_TokenWhole_L1 a0 x2 s.1 s.2) (0, 0)).bind (Br.go (fun _ =>
 some true) (fun r1 => some r1))))
abbrev R_law1_TokenWhole (r : Bool) : AV := (B r)
def RR_law1_TokenWhole (r : Bool) (x : Exit × St) : Prop := x.1 = .ret ∧ Fin cx [.tmp 2] [] (R_law1_TokenWhole r) [] x
set_option maxHeartbeats 4000000 in
theorem T_law1_TokenWhole {nn : Nat} {a0 : ByteArray} {r : Bool} (hF : law1_TokenWhole a0 = some r) : den cx (nn + 11) 8 [(AV.val (.string a0))] = some (R_law1_TokenWhole r, []) := by
 unfold law1_TokenWhole at hF
 refine fnA Tryd.func8 Tryd.ntmps8 (by exact spine) (sl := [0]) ?_
 refine sr <| pp oAssign <| nl <| sr <| ?_
 refine bb hF fun x1 h1 hF => ?_
 refine pp (oCallZ (T_law1_tokenFact h1)) <| pp oAssign <| nl <| sq <| sr <| pp oMove <| pp oNot <| nl <| ?_
 refine cd hF (fun hF => ?_) (fun hF => ?_)
 · refine sr <| pp oAssign <| nl <| rt <| qsR <| ?_
   obtain rfl := inj hF
   exact fin
 · refine sk <| qs <| sr <| pp oMove <| ?_
   refine bb hF fun x2 h2 hF => ?_
   refine pp (oCallZ (T_token_Scan h2)) <| pp oMove <| pp oExt <| pp oExt <| ww oAlloc <| pp oAssign <| ww oStF <| nl <| sq <| sr <| pp oFA <| pp oLd <| pp oNeq <| nl <| ?_
   refine cd hF (fun hF => ?_) (fun hF => ?_)
   · refine sr <| pp oMove <| pp oLenSl <| pp oEql <| pp oAssign <| nl <| rt <| qsR <| ?_
     obtain rfl := inj hF
     exact fin
   · refine sk <| qs <| sr <| pp oAssign <| nl <| sq <| sr <| pp oAssign <| nl <| ?_
     refine lpR (fun (s : (Int × Int)) => mkSt 132 [0, 4, 6, 7] [(AV.val (.string a0)), (.sl ((x2.1).map cXApi_Token)), (I s.1), (I s.2)]) (fun (s : Unit) => mkSt 132 [] []) RR_law1_TokenWhole hF cutR' ?_ ?_ ?_
     · rintro ⟨y5, y6⟩ z1 hF
       replace hF : law1_TokenWhole_L1 a0 x2 y5 y6 = some z1 := hF
       unfold law1_TokenWhole_L1 at hF
       refine mk ?_
       refine sq <| sr <| pp oMove <| pp oMove <| pp oLenSl <| pp oLss <| nl <| ?_
       refine cd hF (fun hF => ?_) (fun hF => ?_)
       · refine sk <| qs <| ?_
         refine sjn (r := z1) (fun (s : Int) => mkSt 132 [0, 4, 6, 7] [(AV.val (.string a0)), (.sl ((x2.1).map cXApi_Token)), (I s), (I y6)]) (fun s => law1_TokenWhole_J1 y6 s) ?_ ?_
         · refine bl <| sr <| pp oMove <| pp oMove <| ?_
           refine bb hF fun x3 h3 hF => ?_
           refine pp (oIx h3) <| pp oLdA <| ww oAlloc <| ww oStF <| nl <| sq <| ?_
           refine srC (fun (s : Bool) => mkSt 132 [0, 4, 7, 8, 68] [(AV.val (.string a0)), (.sl ((x2.1).map cXApi_Token)), (I y6), (.vp (cXApi_Token x3)), (B s)]) hF (fun z3 hF => ?_) (fun p1 hF => ?_)
           · refine pp oFA <| pp oLd <| pp oMove <| pp oMove <| pp oLenS <| pp oFA <| pp oLd <| pp oLenS <| pp oSub <| ?_
             refine bb hF fun x4 h4 hF => ?_
             refine pp (oCallZ (T_law1_in h4)) <| pp oNot <| pp oMove <| pg ar oFA <| pg ar oLd <| pg ar oLenS <| pg ar oEql <| pp oPick <| pp oMove <| ?_
             refine spl (d := 54) hF (fun hF => ?_) (fun hF => ?_)
             · refine no fun u1 k1 hk1 => ?_
               refine no fun u2 k2 hk2 => ?_
               refine no fun u3 k3 hk3 => ?_
               refine no fun u4 k4 hk4 => ?_
               refine no fun u5 k5 hk5 => ?_
               refine no fun u6 k6 hk6 => ?_
               refine no fun u7 k7 hk7 => ?_
               refine no fun u8 k8 hk8 => ?_
               refine no fun u9 k9 hk9 => ?_
               refine no fun u10 k10 hk10 => ?_
               refine no fun u11 k11 hk11 => ?_
               refine no fun u12 k12 hk12 => ?_
               refine no fun u13 k13 hk13 => ?_
               refine pp oPickT <| ?_
               obtain rfl := inj hF
               exact nlCD (hf := rok) cutR'
             · refine pt ar oMove <| pt ar oFA <| pt ar oLd <| pt ar oFA <| pt ar oLd <| pt ar oFA <| pt ar oLd <| pt ar oLenS <| pt ar oAdd <| ?_
               refine bb hF fun x5 h5 hF => ?_
               refine pt ar (oSlcS h5) <| pt ar oFA <| pt ar oLd <| pt ar oNeqS <| pp oPickF <| ?_
               obtain rfl := inj hF
               exact nlCD cutR'
           · refine mk ?_
             refine cd hF (fun hF => ?_) (fun hF => ?_)
             · refine sr <| pp oAssign <| nl <| rt <| qsR <| qbR <| qjR <| ?_
               exact lr hF ⟨rfl, fin⟩
             · refine sk <| qs <| sr <| pp oFA <| pp oLd <| pp oFA <| pp oLd <| pp oLenS <| pp oAdd <| pp oAssign <| nl <| sr <| pp oFA <| pp oLd <| ?_
               refine bb hF fun x6 h6 hF => ?_
               refine pp (oCallZ (T_token_Scan h6)) <| pp oMove <| pp oExt <| pp oExt <| ww oAlloc <| pp oAssign <| ww oStF <| nl <| sq <| sr <| pp oFA <| pp oLd <| pp oNeq <| pp oMove <| ?_
               refine pg ar oMove <| pg ar oLenSl <| pg ar oNeq <| pp oPick <| nl <| ?_
               refine cd hF (fun hF => ?_) (fun hF => ?_)
               · refine sr <| pp oAssign <| nl <| rt <| qsR <| qbR <| qjR <| ?_
                 exact lr hF ⟨rfl, fin⟩
               · refine sk <| qs <| sr <| pp oMove <| pp oMove <| pp oLenS <| pp oLss <| pp oMove <| pg ar oFA <| pg ar oLd <| pg ar oEql <| pg ar oMove <| pg ar oFA <| pg ar oLd <| ?_
                 refine pg ar oEql <| pg ar oPick <| pp oPick <| nl <| ?_
                 refine cd hF (fun hF => ?_) (fun hF => ?_)
                 · refine sr <| pp oMove <| pp oFA <| pp oLd <| pp oMove <| pp oAdd <| ?_
                   refine bb hF fun x7 h7 hF => ?_
                   refine pp (oSlcS h7) <| ?_
                   refine bb hF fun x8 h8 hF => ?_
                   refine pp (oCallZ (T_token_Scan h8)) <| pp oMove <| pp oExt <| pp oExt <| ww oAlloc <| pp oAssign <| ww oStF <| nl <| ?_
                   refine srC (fun (s : (Int × Bool)) => mkSt 132 [0, 4, 6, 7, 131] [(AV.val (.string a0)), (.sl ((x2.1).map cXApi_Token)), (I s.1), (I y6), (B s.2)]) hF (fun z2 hF => ?_) (fun p2 hF => ?_)
                   · refine pp oFA <| pp oLd <| pp oEql <| pp oMove <| pg ar oMove <| pg ar oLenSl <| pg ar oEql <| pp oPick <| pp oMove <| ?_
                     refine spl (d := 121) hF (fun hF => ?_) (fun hF => ?_)
                     · refine pt ar oMove <| ?_
                       refine bb hF fun x9 h9 hF => ?_
                       refine pt ar (oIx h9) <| pt ar oFA <| pt ar oLd <| pt ar oLenS <| pt ar oFA <| pt ar oLd <| pt ar oLenS <| pt ar oGtr <| pp oPickT <| ?_
                       obtain rfl := inj hF
                       exact nlCD cutR'
                     · refine no fun u14 k14 hk14 => ?_
                       refine no fun u15 k15 hk15 => ?_
                       refine no fun u16 k16 hk16 => ?_
                       refine no fun u17 k17 hk17 => ?_
                       refine no fun u18 k18 hk18 => ?_
                       refine no fun u19 k19 hk19 => ?_
                       refine no fun u20 k20 hk20 => ?_
                       refine no fun u21 k21 hk21 => ?_
                       refine no fun u22 k22 hk22 => ?_
                       refine pp oPickF <| ?_
                       obtain rfl := inj hF
                       exact nlCD (hf := rok) cutR'
                   · refine mk ?_
                     refine cd hF (fun hF => ?_) (fun hF => ?_)
                     · refine sr <| pp oAssign <| nl <| rt <| qbR <| qjR <| ?_
                       exact lr hF ⟨rfl, fin⟩
                     · refine sk <| qb <| ?_
                       exact qj p2.1 hF cutR'
                 · refine sk <| qb <| ?_
                   exact qj (w64 (x3.At + (x3.Text.size : Int))) hF cutR'
         · rintro y7 hF
           replace hF : law1_TokenWhole_J1 y6 y7 = some z1 := hF
           unfold law1_TokenWhole_J1 at hF
           refine mk ?_
           refine rg <| pp oMove <| pp oAdd <| pp oAssign <| nl <| ?_
           exact ln hF cutR'
       · refine ex <| qsE <| ?_
         exact lxR hF cutR'
     · intro _ hF
       refine qmk ?_
       refine qs <| sr <| pp oAssign <| nl <| rt <| ?_
       obtain rfl := inj hF
       exact fin
     · rintro r1 hF ⟨xe, xs⟩ ⟨hxe, hfin⟩
       obtain rfl : xe = Exit.ret := hxe
       obtain rfl := inj hF
       refine qbR <| qsR <| ?_
       exact hfin

end Go.Ab
