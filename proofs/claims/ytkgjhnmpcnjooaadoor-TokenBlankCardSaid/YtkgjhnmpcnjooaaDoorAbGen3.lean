/-
  Functions of the program as functions on plain data (written by gen3.py).
-/
import Derived.Test.YtkgjhnmpcnjooaaDoorAbGen2
namespace Go.Ab
open Go Go.Proofs
variable [MM]
/-! turnery/token.Scan -/
noncomputable def token_Scan_L1 (a0 : ByteArray) (y5 : (List XApi_Token)) (y6 : Int) : Option (Lp ((List XApi_Token) × Int) (Br Unit ((List XApi_Token) × XApi_Fault))) :=
 (sslc a0 (some y6) none).bind fun x2 =>
 (token_blank x2).bind fun x3 =>
 if (!x3.2) then
 ((core_Fault 1 (w64 (y6 + x3.1))).bind fun x4 =>
 some (.out (.ret ([], x4))))
 else
 (if ((w64 (y6 + x3.1)) == (a0.size : Int)) then
 (some (.out (.ret (y5, (XApi_Fault.mk 0 0)))))
 else
 (if ((y5.length : Int) == 800) then
 ((core_Fault 10 (w64 (y6 + x3.1))).bind fun x5 =>
 some (.out (.ret ([], x5))))
 else
 ((sslc a0 (some (w64 (y6 + x3.1))) none).bind fun x6 =>
 (token_next x6).bind fun x7 =>
 if (x7.2.2 != 0) then
 ((core_Fault x7.2.2 (w64 (y6 + x3.1))).bind fun x8 =>
 some (.out (.ret ([], x8))))
 else
 ((app y5 ([(XApi_Token.mk x7.1.Kind x7.1.Text x7.1.N (w64 (y6 + x3.1)))] : List XApi_Token)).bind fun x9 =>
 some (.next (x9, (w64 ((w64 (y6 + x3.1)) + x7.2.1))))))))
noncomputable def token_Scan (a0 : ByteArray) : Option ((List XApi_Token) × XApi_Fault) :=
 if (decide (2000 < (a0.size : Int))) then
 ((core_Fault 2 0).bind fun x1 =>
 some ([], x1))
 else
 ((Loop (fun (s : ((List XApi_Token) × Int)) => token_Scan_L1 a0 s.1 s.2) ([], 0)).bind (Br.go (fun _ =>
 none) (fun r1 => some r1)))
abbrev R_token_Scan (r : ((List XApi_Token) × XApi_Fault)) : AV := (.tup [(.own ((r.1).map cXApi_Token)), (.agg (cXApi_Fault r.2))])
def RR_token_Scan (r : ((List XApi_Token) × XApi_Fault)) (x : Exit × St) : Prop := x.1 = .ret ∧ Fin cx [.tmp 2, .cell 3 24] [] (R_token_Scan r) [] x
set_option maxHeartbeats 4000000 in
theorem T_token_Scan {nn : Nat} {a0 : ByteArray} {r : ((List XApi_Token) × XApi_Fault)} (hF : token_Scan a0 = some r) : den cx (nn + 8) 9 [(AV.val (.string a0))] = some (R_token_Scan r, []) := by
 unfold token_Scan at hF
 refine fnA Tryd.func9 Tryd.ntmps9 (by exact spine) (sl := [0]) ?_
 refine sr <| pp oAssign <| ww oAlloc <| nl <| sq <| sr <| pp oMove <| pp oLenS <| pp oGtr <| nl <| ?_
 refine cd hF (fun hF => ?_) (fun hF => ?_)
 · refine sr <| ?_
   refine bb hF fun x1 h1 hF => ?_
   refine pp (oCall (T_core_Fault h1)) <| pp oAssign <| ww oStR <| nl <| rt <| qsR <| ?_
   obtain rfl := inj hF
   exact fin
 · refine sk <| qs <| sr <| pp oAssign <| nl <| sr <| pp oAssign <| nl <| ?_
   refine lpR (fun (s : ((List XApi_Token) × Int)) => mkSt 61 [0, 3, 4, 5] [(AV.val (.string a0)), (.ownp (cXApi_Fault (XApi_Fault.mk 0 0))), (.own ((s.1).map cXApi_Token)), (I s.2)]) (fun (s : Unit) => mkSt 61 [] []) RR_token_Scan hF cutR' ?_ ?_ ?_
   · rintro ⟨y5, y6⟩ z1 hF
     replace hF : token_Scan_L1 a0 y5 y6 = some z1 := hF
     unfold token_Scan_L1 at hF
     refine mk ?_
     refine bl <| sr <| pp oMove <| pp oMove <| ?_
     refine bb hF fun x2 h2 hF => ?_
     refine pp (oSlcS h2) <| ?_
     refine bb hF fun x3 h3 hF => ?_
     refine pp (oCallZ (T_token_blank h3)) <| pp oMove <| pp oExt <| pp oExt <| pp oAssign <| pp oAssign <| nl <| sr <| pp oMove <| pp oMove <| pp oAdd <| pp oAssign <| nl <| sq <| ?_
     refine sr <| pp oMove <| pp oNot <| nl <| ?_
     refine cd hF (fun hF => ?_) (fun hF => ?_)
     · refine sr <| pp oMove <| ?_
       refine bb hF fun x4 h4 hF => ?_
       refine pp (oCall (T_core_Fault h4)) <| pp oAssign <| ww oStR <| nl <| rt <| qsR <| qbR <| ?_
       exact lr hF ⟨rfl, fin⟩
     · refine sk <| qs <| sq <| sr <| pp oMove <| pp oMove <| pp oLenS <| pp oEql <| nl <| ?_
       refine cd hF (fun hF => ?_) (fun hF => ?_)
       · refine sr <| pp oMove <| pp oBuild <| pp oAssign <| ww oStR <| nl <| rt <| qsR <| qbR <| ?_
         exact lr hF ⟨rfl, fin⟩
       · refine sk <| qs <| sq <| sr <| pp oMove <| pp (oLenRs (m := y5.length)) <| pp oEql <| nl <| ?_
         refine cd hF (fun hF => ?_) (fun hF => ?_)
         · refine sr <| pp oMove <| ?_
           refine bb hF fun x5 h5 hF => ?_
           refine pp (oCall (T_core_Fault h5)) <| pp oAssign <| ww oStR <| nl <| rt <| qsR <| qbR <| ?_
           exact lr hF ⟨rfl, fin⟩
         · refine sk <| qs <| sr <| pp oMove <| pp oMove <| ?_
           refine bb hF fun x6 h6 hF => ?_
           refine pp (oSlcS h6) <| ?_
           refine bb hF fun x7 h7 hF => ?_
           refine pp (oCall (T_token_next h7)) <| pp oMove <| pp oExt <| pp oExt <| pp oExt <| ww oAlloc <| ww oStR <| pp oAssign <| pp oAssign <| nl <| sq <| sr <| pp oMove <| pp oNeq <| ?_
           refine nl <| ?_
           refine cd hF (fun hF => ?_) (fun hF => ?_)
           · refine sr <| pp oMove <| pp oMove <| ?_
             refine bb hF fun x8 h8 hF => ?_
             refine pp (oCall (T_core_Fault h8)) <| pp oAssign <| ww oStR <| nl <| rt <| qsR <| qbR <| ?_
             exact lr hF ⟨rfl, fin⟩
           · refine sk <| qs <| sr <| pp oMove <| pp oFAM <| ww oStR <| nl <| sr <| pp oMove <| rr oLdRA <| pp oBSF <| ?_
             refine bb hF fun x9 h9 hF => ?_
             refine ww (oApp h9) <| pp oAssign <| nl <| rg <| pp oMove <| pp oMove <| pp oAdd <| pp oAssign <| nl <| qb <| ?_
             exact ln hF cutR'
   · intro _ hF
     cases hF
   · rintro r1 hF ⟨xe, xs⟩ ⟨hxe, hfin⟩
     obtain rfl : xe = Exit.ret := hxe
     obtain rfl := inj hF
     refine qbR <| ?_
     exact hfin

/-! turnery/turneryref1.fault -/

noncomputable def ref1_fault (a0 : Int) (a1 : Int) : Option XApi_Fault :=
 some (XApi_Fault.mk a0 a1)
abbrev R_ref1_fault (r : XApi_Fault) : AV := (.agg (cXApi_Fault r))
set_option maxHeartbeats 4000000 in
theorem T_ref1_fault {nn : Nat} {a0 : Int} {a1 : Int} {r : XApi_Fault} (hF : ref1_fault a0 a1 = some r) : den cx (nn + 1) 20 [(I a0), (I a1)] = some (R_ref1_fault r, []) := by
 unfold ref1_fault at hF
 refine fnA Tryd.func20 Tryd.ntmps20 (by exact spine) (sl := [0, 1]) ?_
 refine sr <| ww oAlloc <| nl <| sr <| pp oMove <| pp oMove <| pp oBuild <| ww oStR <| nl <| rt <| ?_
 obtain rfl := inj hF
 exact fin

/-! turnery/turneryref1.letter -/

noncomputable def ref1_letter (a0 : Int) : Option Bool :=
 some (if (if (if (decide (97 ≤ a0)) then (decide (a0 ≤ 122)) else false) then true else (if (decide (65 ≤ a0)) then (decide (a0 ≤ 90)) else false)) then true else (a0 == 95))
abbrev R_ref1_letter (r : Bool) : AV := (B r)
set_option maxHeartbeats 4000000 in
theorem T_ref1_letter {nn : Nat} {a0 : Int} {r : Bool} (hF : ref1_letter a0 = some r) : den cx (nn + 1) 37 [(AV.val (.int .u8 a0))] = some (R_ref1_letter r, []) := by
 unfold ref1_letter at hF
 refine fnA Tryd.func37 Tryd.ntmps37 (by exact spine) (sl := [0]) ?_
 refine sr <| pp oAssign <| nl <| sr <| pp oMove <| pp oGeq <| pp oMove <| pg ar oMove <| pg ar oLeq <| pp oPick <| pp oMove <| pg ar oMove <| pg ar oGeq <| pg ar oMove <| ?_
 refine pg ar oMove <| pg ar oLeq <| pg ar oPick <| pp oPick <| pp oMove <| pg ar oMove <| pg ar oEql <| pp oPick <| pp oAssign <| nl <| rt <| ?_
 obtain rfl := inj hF
 exact fin

/-! turnery/turneryref1.digit -/

noncomputable def ref1_digit (a0 : Int) : Option Bool :=
 some (if (decide (48 ≤ a0)) then (decide (a0 ≤ 57)) else false)
abbrev R_ref1_digit (r : Bool) : AV := (B r)
set_option maxHeartbeats 4000000 in
theorem T_ref1_digit {nn : Nat} {a0 : Int} {r : Bool} (hF : ref1_digit a0 = some r) : den cx (nn + 1) 38 [(AV.val (.int .u8 a0))] = some (R_ref1_digit r, []) := by
 unfold ref1_digit at hF
 refine fnA Tryd.func38 Tryd.ntmps38 (by exact spine) (sl := [0]) ?_
 refine sr <| pp oAssign <| nl <| sr <| pp oMove <| pp oGeq <| pp oMove <| pg ar oMove <| pg ar oLeq <| pp oPick <| pp oAssign <| nl <| rt <| ?_
 obtain rfl := inj hF
 exact fin

/-! turnery/turneryref1.value -/

noncomputable def ref1_value (a0 : Int) : Option Int :=
 (ref1_digit a0).bind fun x1 =>
 if x1 then
 (some (w64 ((w64 a0) - 48)))
 else
 (if (if (decide (97 ≤ a0)) then (decide (a0 ≤ 102)) else false) then
 (some (w64 ((w64 a0) - 87)))
 else
 (if (if (decide (65 ≤ a0)) then (decide (a0 ≤ 70)) else false) then
 (some (w64 ((w64 a0) - 55)))
 else
 (some (-1))))
abbrev R_ref1_value (r : Int) : AV := (I r)
set_option maxHeartbeats 4000000 in
theorem T_ref1_value {nn : Nat} {a0 : Int} {r : Int} (hF : ref1_value a0 = some r) : den cx (nn + 2) 54 [(AV.val (.int .u8 a0))] = some (R_ref1_value r, []) := by
 unfold ref1_value at hF
 refine fnA Tryd.func54 Tryd.ntmps54 (by exact spine) (sl := [0]) ?_
 refine sr <| pp oAssign <| nl <| sq <| sr <| pp oMove <| ?_
 refine bb hF fun x1 h1 hF => ?_
 refine pp (oCallZ (T_ref1_digit h1)) <| nl <| ?_
 refine cd hF (fun hF => ?_) (fun hF => ?_)
 · refine sr <| pp oMove <| pp oCvt <| pp oSub <| pp oAssign <| nl <| rt <| qsR <| ?_
   obtain rfl := inj hF
   exact fin
 · refine sk <| qs <| sq <| sr <| pp oMove <| pp oGeq <| pp oMove <| pg ar oMove <| pg ar oLeq <| pp oPick <| nl <| ?_
   refine cd hF (fun hF => ?_) (fun hF => ?_)
   · refine sr <| pp oMove <| pp oCvt <| pp oSub <| pp oAssign <| nl <| rt <| qsR <| ?_
     obtain rfl := inj hF
     exact fin
   · refine sk <| qs <| sq <| sr <| pp oMove <| pp oGeq <| pp oMove <| pg ar oMove <| pg ar oLeq <| pp oPick <| nl <| ?_
     refine cd hF (fun hF => ?_) (fun hF => ?_)
     · refine sr <| pp oMove <| pp oCvt <| pp oSub <| pp oAssign <| nl <| rt <| qsR <| ?_
       obtain rfl := inj hF
       exact fin
     · refine sk <| qs <| sr <| pp oAssign <| nl <| rt <| ?_
       obtain rfl := inj hF
       exact fin

/-! turnery/turneryref1.number -/
noncomputable def ref1_number_J2 (y10 : Int) (y11 : Int) (y12 : Bool) : Option (Lp (Int × Bool × Int) (Br (Int × Bool) (Int × Int))) :=
 some (.next (y11, y12, (w64 (y10 + 1))))
noncomputable def ref1_number_L1 (a0 : ByteArray) (y1 : Int) (y8 : Int) (y9 : Bool) (y10 : Int) : Option (Lp (Int × Bool × Int) (Br (Int × Bool) (Int × Int))) :=
 if (decide (y10 < (a0.size : Int))) then
 ((sidx a0 y10).bind fun x1 =>
 (ref1_value (x1.toNat : Int)).bind fun x2 =>
 if (if (decide (x2 < 0)) then true else (decide (y1 ≤ x2))) then
 (some (.out (.ret (0, 2))))
 else
 ((if y9 then
 (some true)
 else
 ((qdiv .i64 (w64 (9223372036854775807 - x2)) y1).bind fun x3 =>
 some (decide (x3 < y8)))).bind fun p1 =>
 if p1 then
 (ref1_number_J2 y10 y8 true)
 else
 (ref1_number_J2 y10 (w64 ((w64 (y8 * y1)) + x2)) y9)))
 else
 (some (.out (.brk (y8, y9))))
noncomputable def ref1_number_J1 (a0 : ByteArray) (y1 : Int) (y2 : Int) : Option (Int × Int) :=
 (Loop (fun (s : (Int × Bool × Int)) => ref1_number_L1 a0 y1 s.1 s.2.1 s.2.2) (0, false, y2)).bind (Br.go (fun v1 =>
 if v1.2 then
 (some (0, 3))
 else
 (some (v1.1, 0))) (fun r1 => some r1))
noncomputable def ref1_number (a0 : ByteArray) : Option (Int × Int) :=
 (if (decide (2 < (a0.size : Int))) then
 ((sidx a0 0).bind fun x4 =>
 if ((x4.toNat : Int) == 48) then
 ((sidx a0 1).bind fun x5 =>
 if ((x5.toNat : Int) == 120) then
 (some true)
 else
 ((sidx a0 1).bind fun x6 =>
 some ((x6.toNat : Int) == 88)))
 else
 (some false))
 else
 (some false)).bind fun p2 =>
 if p2 then
 (ref1_number_J1 a0 16 2)
 else
 ((if (decide (1 < (a0.size : Int))) then
 ((sidx a0 0).bind fun x7 =>
 some ((x7.toNat : Int) == 48))
 else
 (some false)).bind fun p3 =>
 if p3 then
 (some (0, 2))
 else
 (ref1_number_J1 a0 10 0))
abbrev R_ref1_number (r : (Int × Int)) : AV := (.tup [(I r.1), (I r.2)])
def RR_ref1_number (r : (Int × Int)) (x : Exit × St) : Prop := x.1 = .ret ∧ Fin cx [.tmp 2, .tmp 3] [] (R_ref1_number r) [] x
set_option maxHeartbeats 4000000 in
theorem T_ref1_number {nn : Nat} {a0 : ByteArray} {r : (Int × Int)} (hF : ref1_number a0 = some r) : den cx (nn + 3) 39 [(AV.val (.string a0))] = some (R_ref1_number r, []) := by
 unfold ref1_number at hF
 refine fnA Tryd.func39 Tryd.ntmps39 (by exact spine) (sl := [0]) ?_
 refine sr <| pp oAssign <| pp oAssign <| nl <| sr <| pp oAssign <| nl <| sr <| pp oAssign <| nl <| ?_
 refine sjn (r := r) (fun (s : (Int × Int)) => mkSt 70 [0, 4, 5] [(AV.val (.string a0)), (I s.1), (I s.2)]) (fun s => ref1_number_J1 a0 s.1 s.2) ?_ ?_
 · refine srC (fun (s : Bool) => mkSt 70 [0, 4, 5, 27] [(AV.val (.string a0)), (I 10), (I 0), (B s)]) hF (fun z4 hF => ?_) (fun p2 hF => ?_)
   · refine pp oMove <| pp oLenS <| pp oGtr <| pp oMove <| ?_
     refine spl (d := 13) hF (fun hF => ?_) (fun hF => ?_)
     · refine pt ar oMove <| ?_
       refine bb hF fun x4 h4 hF => ?_
       refine pt ar (oIxS h4) <| pt ar oEql <| pp oPickT <| pp oMove <| ?_
       refine spl (d := 18) hF (fun hF => ?_) (fun hF => ?_)
       · refine pt ar oMove <| ?_
         refine bb hF fun x5 h5 hF => ?_
         refine pt ar (oIxS h5) <| pt ar oEql <| pt ar oMove <| ?_
         refine splG (d := 22) hF (fun hF => ?_) (fun hF => ?_)
         · refine no fun u7 k7 hk7 => ?_
           refine no fun u8 k8 hk8 => ?_
           refine no fun u9 k9 hk9 => ?_
           refine pt ar oPickT <| pp oPickT <| ?_
           obtain rfl := inj hF
           exact nlC cutR'
         · refine pt ar oMove <| ?_
           refine bb hF fun x6 h6 hF => ?_
           refine pt ar (oIxS h6) <| pt ar oEql <| pt ar oPickF <| pp oPickT <| ?_
           obtain rfl := inj hF
           exact nlC cutR'
       · refine no fun u10 k10 hk10 => ?_
         refine no fun u11 k11 hk11 => ?_
         refine no fun u12 k12 hk12 => ?_
         refine no fun u13 k13 hk13 => ?_
         refine no fun u14 k14 hk14 => ?_
         refine no fun u15 k15 hk15 => ?_
         refine no fun u16 k16 hk16 => ?_
         refine no fun u17 k17 hk17 => ?_
         refine pp oPickF <| ?_
         obtain rfl := inj hF
         exact nlC cutR'
     · refine no fun u18 k18 hk18 => ?_
       refine no fun u19 k19 hk19 => ?_
       refine no fun u20 k20 hk20 => ?_
       refine pp oPickF <| pp oMove <| ?_
       refine no fun u21 k21 hk21 => ?_
       refine no fun u22 k22 hk22 => ?_
       refine no fun u23 k23 hk23 => ?_
       refine no fun u24 k24 hk24 => ?_
       refine no fun u25 k25 hk25 => ?_
       refine no fun u26 k26 hk26 => ?_
       refine no fun u27 k27 hk27 => ?_
       refine no fun u28 k28 hk28 => ?_
       refine pp oPickF <| ?_
       obtain rfl := inj hF
       exact nlC cutR'
   · refine mk ?_
     refine cd hF (fun hF => ?_) (fun hF => ?_)
     · refine sr <| pp oAssign <| nl <| rg <| pp oAssign <| nl <| ?_
       exact qj (16, 2) hF cutR'
     · refine srC (fun (s : Bool) => mkSt 70 [0, 4, 5, 35] [(AV.val (.string a0)), (I 10), (I 0), (B s)]) hF (fun z3 hF => ?_) (fun p3 hF => ?_)
       · refine pp oMove <| pp oLenS <| pp oGtr <| pp oMove <| ?_
         refine spl (d := 31) hF (fun hF => ?_) (fun hF => ?_)
         · refine pt ar oMove <| ?_
           refine bb hF fun x7 h7 hF => ?_
           refine pt ar (oIxS h7) <| pt ar oEql <| pp oPickT <| ?_
           obtain rfl := inj hF
           exact nlC cutR'
         · refine no fun u29 k29 hk29 => ?_
           refine no fun u30 k30 hk30 => ?_
           refine no fun u31 k31 hk31 => ?_
           refine pp oPickF <| ?_
           obtain rfl := inj hF
           exact nlC cutR'
       · refine mk ?_
         refine cd hF (fun hF => ?_) (fun hF => ?_)
         · refine sr <| pp oAssign <| pp oAssign <| nl <| rt <| qjR <| ?_
           obtain rfl := inj hF
           exact fin
         · refine sk <| ?_
           exact qj (10, 0) hF cutR'
 · rintro ⟨y1, y2⟩ hF
   replace hF : ref1_number_J1 a0 y1 y2 = some r := hF
   unfold ref1_number_J1 at hF
   refine mk ?_
   refine sr <| pp oAssign <| nl <| sr <| pp oAssign <| nl <| sq <| sr <| pp oMove <| pp oAssign <| nl <| ?_
   refine lpR (fun (s : (Int × Bool × Int)) => mkSt 70 [0, 4, 6, 7, 8] [(AV.val (.string a0)), (I y1), (I s.1), (B s.2.1), (I s.2.2)]) (fun (s : (Int × Bool)) => mkSt 70 [6, 7] [(I s.1), (B s.2)]) RR_ref1_number hF cutR' ?_ ?_ ?_
   · rintro ⟨y8, y9, y10⟩ z1 hF
     replace hF : ref1_number_L1 a0 y1 y8 y9 y10 = some z1 := hF
     unfold ref1_number_L1 at hF
     refine mk ?_
     refine sq <| sr <| pp oMove <| pp oMove <| pp oLenS <| pp oLss <| nl <| ?_
     refine cd hF (fun hF => ?_) (fun hF => ?_)
     · refine sk <| qs <| ?_
       refine sjn (r := z1) (fun (s : (Int × Bool)) => mkSt 70 [0, 4, 6, 7, 8] [(AV.val (.string a0)), (I y1), (I s.1), (B s.2), (I y10)]) (fun s => ref1_number_J2 y10 s.1 s.2) ?_ ?_
       · refine bl <| sr <| pp oMove <| pp oMove <| ?_
         refine bb hF fun x1 h1 hF => ?_
         refine pp (oIxS h1) <| ?_
         refine bb hF fun x2 h2 hF => ?_
         refine pp (oCallZ (T_ref1_value h2)) <| pp oAssign <| nl <| sq <| sr <| pp oMove <| pp oLss <| pp oMove <| pg ar oMove <| pg ar oMove <| pg ar oGeq <| pp oPick <| nl <| ?_
         refine cd hF (fun hF => ?_) (fun hF => ?_)
         · refine sr <| pp oAssign <| pp oAssign <| nl <| rt <| qsR <| qbR <| qjR <| ?_
           exact lr hF ⟨rfl, fin⟩
         · refine sk <| qs <| ?_
           refine srC (fun (s : Bool) => mkSt 70 [0, 4, 6, 7, 8, 9, 62] [(AV.val (.string a0)), (I y1), (I y8), (B y9), (I y10), (I x2), (B s)]) hF (fun z2 hF => ?_) (fun p1 hF => ?_)
           · refine pp oMove <| pp oMove <| ?_
             refine spl (d := 55) hF (fun hF => ?_) (fun hF => ?_)
             · refine no fun u1 k1 hk1 => ?_
               refine no fun u2 k2 hk2 => ?_
               refine no fun u3 k3 hk3 => ?_
               refine no fun u4 k4 hk4 => ?_
               refine no fun u5 k5 hk5 => ?_
               refine no fun u6 k6 hk6 => ?_
               refine pp oPickT <| ?_
               obtain rfl := inj hF
               exact nlC cutR'
             · refine pt ar oMove <| pt ar oMove <| pt ar oSub <| pt ar oMove <| ?_
               refine bb hF fun x3 h3 hF => ?_
               refine pt ar (oQuo h3) <| pt ar oGtr <| pp oPickF <| ?_
               obtain rfl := inj hF
               exact nlC cutR'
           · refine mk ?_
             refine cd hF (fun hF => ?_) (fun hF => ?_)
             · refine rg <| pp oAssign <| nl <| qb <| ?_
               exact qj (y8, true) hF cutR'
             · refine rg <| pp oMove <| pp oMove <| pp oMul <| pp oMove <| pp oAdd <| pp oAssign <| nl <| qb <| ?_
               exact qj ((w64 ((w64 (y8 * y1)) + x2)), y9) hF cutR'
       · rintro ⟨y11, y12⟩ hF
         replace hF : ref1_number_J2 y10 y11 y12 = some z1 := hF
         unfold ref1_number_J2 at hF
         refine mk ?_
         refine rg <| pp oMove <| pp oAdd <| pp oAssign <| nl <| ?_
         exact ln hF cutR'
     · refine ex <| qsE <| ?_
       exact lxR hF cutR'
   · intro v1 hF
     refine qmk ?_
     refine qs <| sq <| sr <| pp oMove <| nl <| ?_
     refine cd hF (fun hF => ?_) (fun hF => ?_)
     · refine sr <| pp oAssign <| pp oAssign <| nl <| rt <| qsR <| ?_
       obtain rfl := inj hF
       exact fin
     · refine sk <| qs <| sr <| pp oMove <| pp oAssign <| pp oAssign <| nl <| rt <| ?_
       obtain rfl := inj hF
       exact fin
   · rintro r1 hF ⟨xe, xs⟩ ⟨hxe, hfin⟩
     obtain rfl : xe = Exit.ret := hxe
     obtain rfl := inj hF
     refine qbR <| qsR <| ?_
     exact hfin

/-! turnery/turneryref1.among -/
noncomputable def ref1_among_L1 (a0 : (List ByteArray)) (a1 : ByteArray) (y4 : Int) : Option (Lp Int (Br Unit Bool)) :=
 if (decide (y4 < (a0.length : Int))) then
 ((idx a0 y4).bind fun x1 =>
 if (x1.toList == a1.toList) then
 (some (.out (.ret true)))
 else
 (some (.next (w64 (y4 + 1)))))
 else
 (some (.out (.brk ())))
noncomputable def ref1_among (a0 : (List ByteArray)) (a1 : ByteArray) : Option Bool :=
 (Loop (fun (s : Int) => ref1_among_L1 a0 a1 s) 0).bind (Br.go (fun _ =>
 some false) (fun r1 => some r1))
abbrev R_ref1_among (r : Bool) : AV := (B r)
def RR_ref1_among (r : Bool) (x : Exit × St) : Prop := x.1 = .ret ∧ Fin cx [.tmp 4] [] (R_ref1_among r) [] x
set_option maxHeartbeats 4000000 in
theorem T_ref1_among {nn : Nat} {a0 : (List ByteArray)} {a1 : ByteArray} {r : Bool} (hF : ref1_among a0 a1 = some r) : den cx (nn + 1) 55 [(.sl ((a0).map cStr)), (AV.val (.string a1))] = some (R_ref1_among r, []) := by
 unfold ref1_among at hF
 refine fnA Tryd.func55 Tryd.ntmps55 (by exact spine) (sl := [0, 1]) ?_
 refine sr <| pp oAssign <| nl <| sq <| sr <| pp oAssign <| nl <| ?_
 refine lpR (fun (s : Int) => mkSt 18 [0, 1, 5] [(.sl ((a0).map cStr)), (AV.val (.string a1)), (I s)]) (fun (s : Unit) => mkSt 18 [] []) RR_ref1_among hF cutR' ?_ ?_ ?_
 · rintro y4 z1 hF
   replace hF : ref1_among_L1 a0 a1 y4 = some z1 := hF
   unfold ref1_among_L1 at hF
   refine mk ?_
   refine sq <| sr <| pp oMove <| pp oMove <| pp oLenSl <| pp oLss <| nl <| ?_
   refine cd hF (fun hF => ?_) (fun hF => ?_)
   · refine sk <| qs <| sq <| bl <| sr <| pp oMove <| pp oMove <| ?_
     refine bb hF fun x1 h1 hF => ?_
     refine pp (oIx h1) <| pp oLd <| pp oMove <| pp oEqlS <| nl <| ?_
     refine cd hF (fun hF => ?_) (fun hF => ?_)
     · refine sr <| pp oAssign <| nl <| rt <| qbR <| qsR <| ?_
       exact lr hF ⟨rfl, fin⟩
     · refine sk <| qb <| qs <| rg <| pp oMove <| pp oAdd <| pp oAssign <| nl <| ?_
       exact ln hF cutR'
   · refine ex <| qsE <| ?_
     exact lxR hF cutR'
 · intro _ hF
   refine qmk ?_
   refine qs <| sr <| pp oAssign <| nl <| rt <| ?_
   obtain rfl := inj hF
   exact fin
 · rintro r1 hF ⟨xe, xs⟩ ⟨hxe, hfin⟩
   obtain rfl : xe = Exit.ret := hxe
   obtain rfl := inj hF
   refine qbR <| qsR <| ?_
   exact hfin

/-! turnery/turneryref1.Key -/

noncomputable def ref1_Key (a0 : ByteArray) : Option Bool :=
 (ref1_among ([(ByteArray.mk #[105, 110, 116]), (ByteArray.mk #[118, 111, 105, 100]), (ByteArray.mk #[105, 102]), (ByteArray.mk #[101, 108, 115, 101]), (ByteArray.mk #[119, 104, 105, 108, 101]), (ByteArray.mk #[100, 111]), (ByteArray.mk #[102, 111, 114]), (ByteArray.mk #[115, 119, 105, 116, 99, 104]), (ByteArray.mk #[99, 97, 115, 101]), (ByteArray.mk #[100, 101, 102, 97, 117, 108, 116]), (ByteArray.mk #[98, 114, 101, 97, 107]), (ByteArray.mk #[99, 111, 110, 116, 105, 110, 117, 101]), (ByteArray.mk #[114, 101, 116, 117, 114, 110])] : List ByteArray) a0).bind fun x1 =>
 some x1
abbrev R_ref1_Key (r : Bool) : AV := (B r)
set_option maxHeartbeats 4000000 in
theorem T_ref1_Key {nn : Nat} {a0 : ByteArray} {r : Bool} (hF : ref1_Key a0 = some r) : den cx (nn + 2) 40 [(AV.val (.string a0))] = some (R_ref1_Key r, []) := by
 unfold ref1_Key at hF
 refine fnA Tryd.func40 Tryd.ntmps40 (by exact spine) (sl := [0]) ?_
 refine sr <| pp oAssign <| nl <| sr <| pp oBSF <| pp oMove <| ?_
 refine bb hF fun x1 h1 hF => ?_
 refine pp (oCall (T_ref1_among h1)) <| pp oAssign <| nl <| rt <| ?_
 obtain rfl := inj hF
 exact fin

/-! turnery/turneryref1.in -/

noncomputable def ref1_in (a0 : Int) (a1 : Int) (a2 : Int) : Option Bool :=
 some (if (decide (a1 ≤ a0)) then (decide (a0 ≤ a2)) else false)
abbrev R_ref1_in (r : Bool) : AV := (B r)
set_option maxHeartbeats 4000000 in
theorem T_ref1_in {nn : Nat} {a0 : Int} {a1 : Int} {a2 : Int} {r : Bool} (hF : ref1_in a0 a1 a2 = some r) : den cx (nn + 1) 24 [(I a0), (I a1), (I a2)] = some (R_ref1_in r, []) := by
 unfold ref1_in at hF
 refine fnA Tryd.func24 Tryd.ntmps24 (by exact spine) (sl := [0, 1, 2]) ?_
 refine sr <| pp oAssign <| nl <| sr <| pp oMove <| pp oMove <| pp oGeq <| pp oMove <| pg ar oMove <| pg ar oMove <| pg ar oLeq <| pp oPick <| pp oAssign <| nl <| ?_
 refine rt <| ?_
 obtain rfl := inj hF
 exact fin

/-! turnery/turneryref1.Name -/
noncomputable def ref1_Name_L1 (a0 : ByteArray) (y3 : Int) : Option (Lp Int (Br Unit Bool)) :=
 if (decide (y3 < (a0.size : Int))) then
 (((sidx a0 y3).bind fun x4 =>
 (ref1_letter (x4.toNat : Int)).bind fun x5 =>
 if (!x5) then
 ((sidx a0 y3).bind fun x6 =>
 (ref1_digit (x6.toNat : Int)).bind fun x7 =>
 some (!x7))
 else
 (some false)).bind fun p2 =>
 if p2 then
 (some (.out (.ret false)))
 else
 (some (.next (w64 (y3 + 1)))))
 else
 (some (.out (.brk ())))
noncomputable def ref1_Name (a0 : ByteArray) : Option Bool :=
 ((ref1_in (a0.size : Int) 1 12).bind fun x1 =>
 if (!x1) then
 (some true)
 else
 ((sidx a0 0).bind fun x2 =>
 (ref1_digit (x2.toNat : Int)).bind fun x3 =>
 some x3)).bind fun p1 =>
 if p1 then
 (some false)
 else
 ((Loop (fun (s : Int) => ref1_Name_L1 a0 s) 0).bind (Br.go (fun _ =>
 some true) (fun r1 => some r1)))
abbrev R_ref1_Name (r : Bool) : AV := (B r)
def RR_ref1_Name (r : Bool) (x : Exit × St) : Prop := x.1 = .ret ∧ Fin cx [.tmp 2] [] (R_ref1_Name r) [] x
set_option maxHeartbeats 4000000 in
theorem T_ref1_Name {nn : Nat} {a0 : ByteArray} {r : Bool} (hF : ref1_Name a0 = some r) : den cx (nn + 2) 41 [(AV.val (.string a0))] = some (R_ref1_Name r, []) := by
 unfold ref1_Name at hF
 refine fnA Tryd.func41 Tryd.ntmps41 (by exact spine) (sl := [0]) ?_
 refine sr <| pp oAssign <| nl <| sq <| ?_
 refine srC (fun (s : Bool) => mkSt 31 [0, 12] [(AV.val (.string a0)), (B s)]) hF (fun z3 hF => ?_) (fun p1 hF => ?_)
 · refine pp oMove <| pp oLenS <| ?_
   refine bb hF fun x1 h1 hF => ?_
   refine pp (oCallZ (T_ref1_in h1)) <| pp oNot <| pp oMove <| ?_
   refine spl (d := 8) hF (fun hF => ?_) (fun hF => ?_)
   · refine no fun u1 k1 hk1 => ?_
     refine no fun u2 k2 hk2 => ?_
     refine no fun u3 k3 hk3 => ?_
     refine pp oPickT <| ?_
     obtain rfl := inj hF
     exact nlC cutR'
   · refine pt ar oMove <| ?_
     refine bb hF fun x2 h2 hF => ?_
     refine pt ar (oIxS h2) <| ?_
     refine bb hF fun x3 h3 hF => ?_
     refine pt ar (oCallZ (T_ref1_digit h3)) <| pp oPickF <| ?_
     obtain rfl := inj hF
     exact nlC cutR'
 · refine mk ?_
   refine cd hF (fun hF => ?_) (fun hF => ?_)
   · refine sr <| pp oAssign <| nl <| rt <| qsR <| ?_
     obtain rfl := inj hF
     exact fin
   · refine sk <| qs <| sq <| sr <| pp oAssign <| nl <| ?_
     refine lpR (fun (s : Int) => mkSt 31 [0, 3] [(AV.val (.string a0)), (I s)]) (fun (s : Unit) => mkSt 31 [] []) RR_ref1_Name hF cutR' ?_ ?_ ?_
     · rintro y3 z1 hF
       replace hF : ref1_Name_L1 a0 y3 = some z1 := hF
       unfold ref1_Name_L1 at hF
       refine mk ?_
       refine sq <| sr <| pp oMove <| pp oMove <| pp oLenS <| pp oLss <| nl <| ?_
       refine cd hF (fun hF => ?_) (fun hF => ?_)
       · refine sk <| qs <| sq <| bl <| ?_
         refine srC (fun (s : Bool) => mkSt 31 [0, 3, 30] [(AV.val (.string a0)), (I y3), (B s)]) hF (fun z2 hF => ?_) (fun p2 hF => ?_)
         · refine pp oMove <| pp oMove <| ?_
           refine bb hF fun x4 h4 hF => ?_
           refine pp (oIxS h4) <| ?_
           refine bb hF fun x5 h5 hF => ?_
           refine pp (oCallZ (T_ref1_letter h5)) <| pp oNot <| pp oMove <| ?_
           refine spl (d := 24) hF (fun hF => ?_) (fun hF => ?_)
           · refine pt ar oMove <| pt ar oMove <| ?_
             refine bb hF fun x6 h6 hF => ?_
             refine pt ar (oIxS h6) <| ?_
             refine bb hF fun x7 h7 hF => ?_
             refine pt ar (oCallZ (T_ref1_digit h7)) <| pt ar oNot <| pp oPickT <| ?_
             obtain rfl := inj hF
             exact nlC cutR'
           · refine no fun u4 k4 hk4 => ?_
             refine no fun u5 k5 hk5 => ?_
             refine no fun u6 k6 hk6 => ?_
             refine no fun u7 k7 hk7 => ?_
             refine no fun u8 k8 hk8 => ?_
             refine pp oPickF <| ?_
             obtain rfl := inj hF
             exact nlC cutR'
         · refine mk ?_
           refine cd hF (fun hF => ?_) (fun hF => ?_)
           · refine sr <| pp oAssign <| nl <| rt <| qbR <| qsR <| ?_
             exact lr hF ⟨rfl, fin⟩
           · refine sk <| qb <| qs <| rg <| pp oMove <| pp oAdd <| pp oAssign <| nl <| ?_
             exact ln hF cutR'
       · refine ex <| qsE <| ?_
         exact lxR hF cutR'
     · intro _ hF
       refine qmk ?_
       refine qs <| sr <| pp oAssign <| nl <| rt <| ?_
       obtain rfl := inj hF
       exact fin
     · rintro r1 hF ⟨xe, xs⟩ ⟨hxe, hfin⟩
       obtain rfl : xe = Exit.ret := hxe
       obtain rfl := inj hF
       refine qbR <| qsR <| ?_
       exact hfin

/-! turnery/turneryref1.quoted -/
noncomputable def ref1_quoted_J1  : Option (Int × Int) :=
 some (0, 0)
noncomputable def ref1_quoted (a0 : ByteArray) : Option (Int × Int) :=
 (if (decide (2 < (a0.size : Int))) then
 ((sidx a0 2).bind fun x1 =>
 if ((x1.toNat : Int) == 39) then
 ((sidx a0 1).bind fun x2 =>
 if (decide (32 ≤ (x2.toNat : Int))) then
 ((sidx a0 1).bind fun x3 =>
 if (decide ((x3.toNat : Int) < 127)) then
 ((sidx a0 1).bind fun x4 =>
 if ((x4.toNat : Int) != 92) then
 ((sidx a0 1).bind fun x5 =>
 some ((x5.toNat : Int) != 39))
 else
 (some false))
 else
 (some false))
 else
 (some false))
 else
 (some false))
 else
 (some false)).bind fun p1 =>
 if p1 then
 ((sidx a0 1).bind fun x6 =>
 some ((w64 (x6.toNat : Int)), 3))
 else
 ((if (decide (3 < (a0.size : Int))) then
 ((sidx a0 3).bind fun x7 =>
 if ((x7.toNat : Int) == 39) then
 ((sidx a0 1).bind fun x8 =>
 some ((x8.toNat : Int) == 92))
 else
 (some false))
 else
 (some false)).bind fun p2 =>
 if p2 then
 ((sidx a0 2).bind fun x9 =>
 if ((x9.toNat : Int) == 110) then
 (some (10, 4))
 else
 ((sidx a0 2).bind fun x10 =>
 if ((x10.toNat : Int) == 48) then
 (some (0, 4))
 else
 (((sidx a0 2).bind fun x11 =>
 if ((x11.toNat : Int) == 92) then
 (some true)
 else
 ((sidx a0 2).bind fun x12 =>
 some ((x12.toNat : Int) == 39))).bind fun p3 =>
 if p3 then
 ((sidx a0 2).bind fun x13 =>
 some ((w64 (x13.toNat : Int)), 4))
 else
 (ref1_quoted_J1))))
 else
 (ref1_quoted_J1))
abbrev R_ref1_quoted (r : (Int × Int)) : AV := (.tup [(I r.1), (I r.2)])
set_option maxHeartbeats 4000000 in
theorem T_ref1_quoted {nn : Nat} {a0 : ByteArray} {r : (Int × Int)} (hF : ref1_quoted a0 = some r) : den cx (nn + 1) 42 [(AV.val (.string a0))] = some (R_ref1_quoted r, []) := by
 unfold ref1_quoted at hF
 refine fnA Tryd.func42 Tryd.ntmps42 (by exact spine) (sl := [0]) ?_
 refine sr <| pp oAssign <| pp oAssign <| nl <| sq <| ?_
 refine srC (fun (s : Bool) => mkSt 65 [0, 31] [(AV.val (.string a0)), (B s)]) hF (fun z3 hF => ?_) (fun p1 hF => ?_)
 · refine pp oMove <| pp oLenS <| pp oGtr <| pp oMove <| ?_
   refine spl (d := 7) hF (fun hF => ?_) (fun hF => ?_)
   · refine pt ar oMove <| ?_
     refine bb hF fun x1 h1 hF => ?_
     refine pt ar (oIxS h1) <| pt ar oEql <| pp oPickT <| pp oMove <| ?_
     refine spl (d := 12) hF (fun hF => ?_) (fun hF => ?_)
     · refine pt ar oMove <| ?_
       refine bb hF fun x2 h2 hF => ?_
       refine pt ar (oIxS h2) <| pt ar oGeq <| pp oPickT <| pp oMove <| ?_
       refine spl (d := 17) hF (fun hF => ?_) (fun hF => ?_)
       · refine pt ar oMove <| ?_
         refine bb hF fun x3 h3 hF => ?_
         refine pt ar (oIxS h3) <| pt ar oLss <| pp oPickT <| pp oMove <| ?_
         refine spl (d := 22) hF (fun hF => ?_) (fun hF => ?_)
         · refine pt ar oMove <| ?_
           refine bb hF fun x4 h4 hF => ?_
           refine pt ar (oIxS h4) <| pt ar oNeq <| pp oPickT <| pp oMove <| ?_
           refine spl (d := 27) hF (fun hF => ?_) (fun hF => ?_)
           · refine pt ar oMove <| ?_
             refine bb hF fun x5 h5 hF => ?_
             refine pt ar (oIxS h5) <| pt ar oNeq <| pp oPickT <| ?_
             obtain rfl := inj hF
             exact nlC cutR'
           · refine no fun u1 k1 hk1 => ?_
             refine no fun u2 k2 hk2 => ?_
             refine no fun u3 k3 hk3 => ?_
             refine pp oPickF <| ?_
             obtain rfl := inj hF
             exact nlC cutR'
         · refine no fun u4 k4 hk4 => ?_
           refine no fun u5 k5 hk5 => ?_
           refine no fun u6 k6 hk6 => ?_
           refine pp oPickF <| pp oMove <| ?_
           refine no fun u7 k7 hk7 => ?_
           refine no fun u8 k8 hk8 => ?_
           refine no fun u9 k9 hk9 => ?_
           refine pp oPickF <| ?_
           obtain rfl := inj hF
           exact nlC cutR'
       · refine no fun u10 k10 hk10 => ?_
         refine no fun u11 k11 hk11 => ?_
         refine no fun u12 k12 hk12 => ?_
         refine pp oPickF <| pp oMove <| ?_
         refine no fun u13 k13 hk13 => ?_
         refine no fun u14 k14 hk14 => ?_
         refine no fun u15 k15 hk15 => ?_
         refine pp oPickF <| pp oMove <| ?_
         refine no fun u16 k16 hk16 => ?_
         refine no fun u17 k17 hk17 => ?_
         refine no fun u18 k18 hk18 => ?_
         refine pp oPickF <| ?_
         obtain rfl := inj hF
         exact nlC cutR'
     · refine no fun u19 k19 hk19 => ?_
       refine no fun u20 k20 hk20 => ?_
       refine no fun u21 k21 hk21 => ?_
       refine pp oPickF <| pp oMove <| ?_
       refine no fun u22 k22 hk22 => ?_
       refine no fun u23 k23 hk23 => ?_
       refine no fun u24 k24 hk24 => ?_
       refine pp oPickF <| pp oMove <| ?_
       refine no fun u25 k25 hk25 => ?_
       refine no fun u26 k26 hk26 => ?_
       refine no fun u27 k27 hk27 => ?_
       refine pp oPickF <| pp oMove <| ?_
       refine no fun u28 k28 hk28 => ?_
       refine no fun u29 k29 hk29 => ?_
       refine no fun u30 k30 hk30 => ?_
       refine pp oPickF <| ?_
       obtain rfl := inj hF
       exact nlC cutR'
   · refine no fun u31 k31 hk31 => ?_
     refine no fun u32 k32 hk32 => ?_
     refine no fun u33 k33 hk33 => ?_
     refine pp oPickF <| pp oMove <| ?_
     refine no fun u34 k34 hk34 => ?_
     refine no fun u35 k35 hk35 => ?_
     refine no fun u36 k36 hk36 => ?_
     refine pp oPickF <| pp oMove <| ?_
     refine no fun u37 k37 hk37 => ?_
     refine no fun u38 k38 hk38 => ?_
     refine no fun u39 k39 hk39 => ?_
     refine pp oPickF <| pp oMove <| ?_
     refine no fun u40 k40 hk40 => ?_
     refine no fun u41 k41 hk41 => ?_
     refine no fun u42 k42 hk42 => ?_
     refine pp oPickF <| pp oMove <| ?_
     refine no fun u43 k43 hk43 => ?_
     refine no fun u44 k44 hk44 => ?_
     refine no fun u45 k45 hk45 => ?_
     refine pp oPickF <| ?_
     obtain rfl := inj hF
     exact nlC cutR'
 · refine mk ?_
   refine cd hF (fun hF => ?_) (fun hF => ?_)
   · refine sr <| pp oMove <| ?_
     refine bb hF fun x6 h6 hF => ?_
     refine pp (oIxS h6) <| pp oCvt <| pp oAssign <| pp oAssign <| nl <| rt <| qsR <| ?_
     obtain rfl := inj hF
     exact fin
   · refine sk <| qs <| ?_
     refine sjn (r := r) (fun (s : Unit) => mkSt 65 [] []) (fun _ => ref1_quoted_J1) ?_ ?_
     · refine srC (fun (s : Bool) => mkSt 65 [0, 47] [(AV.val (.string a0)), (B s)]) hF (fun z2 hF => ?_) (fun p2 hF => ?_)
       · refine pp oMove <| pp oLenS <| pp oGtr <| pp oMove <| ?_
         refine spl (d := 38) hF (fun hF => ?_) (fun hF => ?_)
         · refine pt ar oMove <| ?_
           refine bb hF fun x7 h7 hF => ?_
           refine pt ar (oIxS h7) <| pt ar oEql <| pp oPickT <| pp oMove <| ?_
           refine spl (d := 43) hF (fun hF => ?_) (fun hF => ?_)
           · refine pt ar oMove <| ?_
             refine bb hF fun x8 h8 hF => ?_
             refine pt ar (oIxS h8) <| pt ar oEql <| pp oPickT <| ?_
             obtain rfl := inj hF
             exact nlC cutR'
           · refine no fun u46 k46 hk46 => ?_
             refine no fun u47 k47 hk47 => ?_
             refine no fun u48 k48 hk48 => ?_
             refine pp oPickF <| ?_
             obtain rfl := inj hF
             exact nlC cutR'
         · refine no fun u49 k49 hk49 => ?_
           refine no fun u50 k50 hk50 => ?_
           refine no fun u51 k51 hk51 => ?_
           refine pp oPickF <| pp oMove <| ?_
           refine no fun u52 k52 hk52 => ?_
           refine no fun u53 k53 hk53 => ?_
           refine no fun u54 k54 hk54 => ?_
           refine pp oPickF <| ?_
           obtain rfl := inj hF
           exact nlC cutR'
       · refine mk ?_
         refine cd hF (fun hF => ?_) (fun hF => ?_)
         · refine sq <| sr <| pp oMove <| ?_
           refine bb hF fun x9 h9 hF => ?_
           refine pp (oIxS h9) <| pp oEql <| nl <| ?_
           refine cd hF (fun hF => ?_) (fun hF => ?_)
           · refine sr <| pp oAssign <| pp oAssign <| nl <| rt <| qsR <| qjR <| ?_
             obtain rfl := inj hF
             exact fin
           · refine sk <| qs <| sq <| sr <| pp oMove <| ?_
             refine bb hF fun x10 h10 hF => ?_
             refine pp (oIxS h10) <| pp oEql <| nl <| ?_
             refine cd hF (fun hF => ?_) (fun hF => ?_)
             · refine sr <| pp oAssign <| pp oAssign <| nl <| rt <| qsR <| qjR <| ?_
               obtain rfl := inj hF
               exact fin
             · refine sk <| qs <| ?_
               refine srC (fun (s : Bool) => mkSt 65 [0, 61] [(AV.val (.string a0)), (B s)]) hF (fun z1 hF => ?_) (fun p3 hF => ?_)
               · refine pp oMove <| ?_
                 refine bb hF fun x11 h11 hF => ?_
                 refine pp (oIxS h11) <| pp oEql <| pp oMove <| ?_
                 refine spl (d := 57) hF (fun hF => ?_) (fun hF => ?_)
                 · refine no fun u55 k55 hk55 => ?_
                   refine no fun u56 k56 hk56 => ?_
                   refine no fun u57 k57 hk57 => ?_
                   refine pp oPickT <| ?_
                   obtain rfl := inj hF
                   exact nlC cutR'
                 · refine pt ar oMove <| ?_
                   refine bb hF fun x12 h12 hF => ?_
                   refine pt ar (oIxS h12) <| pt ar oEql <| pp oPickF <| ?_
                   obtain rfl := inj hF
                   exact nlC cutR'
               · refine mk ?_
                 refine cd hF (fun hF => ?_) (fun hF => ?_)
                 · refine sr <| pp oMove <| ?_
                   refine bb hF fun x13 h13 hF => ?_
                   refine pp (oIxS h13) <| pp oCvt <| pp oAssign <| pp oAssign <| nl <| rt <| qjR <| ?_
                   obtain rfl := inj hF
                   exact fin
                 · refine sk <| ?_
                   exact qj () hF cutR'
         · refine sk <| ?_
           exact qj () hF cutR'
     · rintro _ hF
       replace hF : ref1_quoted_J1 = some r := hF
       unfold ref1_quoted_J1 at hF
       refine mk ?_
       refine sr <| pp oAssign <| pp oAssign <| nl <| rt <| ?_
       obtain rfl := inj hF
       exact fin

/-! turnery/turneryref1.sign -/

noncomputable def ref1_sign (a0 : ByteArray) : Option Bool :=
 (ref1_among ([(ByteArray.mk #[60, 60, 61]), (ByteArray.mk #[62, 62, 61]), (ByteArray.mk #[60, 60]), (ByteArray.mk #[62, 62]), (ByteArray.mk #[60, 61]), (ByteArray.mk #[62, 61]), (ByteArray.mk #[61, 61]), (ByteArray.mk #[33, 61]), (ByteArray.mk #[38, 38]), (ByteArray.mk #[124, 124]), (ByteArray.mk #[43, 61]), (ByteArray.mk #[45, 61]), (ByteArray.mk #[42, 61]), (ByteArray.mk #[47, 61]), (ByteArray.mk #[37, 61]), (ByteArray.mk #[38, 61]), (ByteArray.mk #[94, 61]), (ByteArray.mk #[124, 61]), (ByteArray.mk #[43, 43]), (ByteArray.mk #[45, 45]), (ByteArray.mk #[43]), (ByteArray.mk #[45]), (ByteArray.mk #[42]), (ByteArray.mk #[47]), (ByteArray.mk #[37]), (ByteArray.mk #[38]), (ByteArray.mk #[124]), (ByteArray.mk #[94]), (ByteArray.mk #[126]), (ByteArray.mk #[33]), (ByteArray.mk #[60]), (ByteArray.mk #[62]), (ByteArray.mk #[61]), (ByteArray.mk #[63]), (ByteArray.mk #[58]), (ByteArray.mk #[59]), (ByteArray.mk #[44]), (ByteArray.mk #[40]), (ByteArray.mk #[41]), (ByteArray.mk #[91]), (ByteArray.mk #[93]), (ByteArray.mk #[123]), (ByteArray.mk #[125])] : List ByteArray) a0).bind fun x1 =>
 some x1
abbrev R_ref1_sign (r : Bool) : AV := (B r)
set_option maxHeartbeats 4000000 in
theorem T_ref1_sign {nn : Nat} {a0 : ByteArray} {r : Bool} (hF : ref1_sign a0 = some r) : den cx (nn + 2) 43 [(AV.val (.string a0))] = some (R_ref1_sign r, []) := by
 unfold ref1_sign at hF
 refine fnA Tryd.func43 Tryd.ntmps43 (by exact spine) (sl := [0]) ?_
 refine sr <| pp oAssign <| nl <| sr <| pp oBSF <| pp oMove <| ?_
 refine bb hF fun x1 h1 hF => ?_
 refine pp (oCall (T_ref1_among h1)) <| pp oAssign <| nl <| rt <| ?_
 obtain rfl := inj hF
 exact fin

/-! turnery/turneryref1.next -/
noncomputable def ref1_next_L1 (a0 : ByteArray) (y4 : Int) : Option (Lp Int Int) :=
 (if (decide (y4 < (a0.size : Int))) then
 ((sidx a0 y4).bind fun x5 =>
 (ref1_letter (x5.toNat : Int)).bind fun x6 =>
 if x6 then
 (some true)
 else
 ((sidx a0 y4).bind fun x7 =>
 (ref1_digit (x7.toNat : Int)).bind fun x8 =>
 some x8))
 else
 (some false)).bind fun p2 =>
 if p2 then
 (some (.next (w64 (y4 + 1))))
 else
 (some (.out y4))
noncomputable def ref1_next_L2 (a0 : ByteArray) (y8 : Int) : Option (Lp Int (Br Unit (XApi_Token × Int × Int))) :=
 if (decide (0 < y8)) then
 ((if (decide (y8 ≤ (a0.size : Int))) then
 ((sslc a0 none (some y8)).bind fun x18 =>
 (ref1_sign x18).bind fun x19 =>
 some x19)
 else
 (some false)).bind fun p3 =>
 if p3 then
 ((sslc a0 none (some y8)).bind fun x20 =>
 some (.out (.ret ((XApi_Token.mk 4 x20 0 0), y8, 0))))
 else
 (some (.next (w64 (y8 - 1)))))
 else
 (some (.out (.brk ())))
noncomputable def ref1_next (a0 : ByteArray) : Option (XApi_Token × Int × Int) :=
 ((sidx a0 0).bind fun x1 =>
 (ref1_letter (x1.toNat : Int)).bind fun x2 =>
 if x2 then
 (some true)
 else
 ((sidx a0 0).bind fun x3 =>
 (ref1_digit (x3.toNat : Int)).bind fun x4 =>
 some x4)).bind fun p1 =>
 if p1 then
 ((Loop (fun (s : Int) => ref1_next_L1 a0 s) 0).bind fun v1 =>
 (sslc a0 none (some v1)).bind fun x9 =>
 (sidx a0 0).bind fun x10 =>
 (ref1_digit (x10.toNat : Int)).bind fun x11 =>
 if x11 then
 ((ref1_number x9).bind fun x12 =>
 some ((XApi_Token.mk 2 x9 x12.1 0), v1, x12.2))
 else
 ((ref1_Key x9).bind fun x13 =>
 if x13 then
 (some ((XApi_Token.mk 3 x9 0 0), v1, 0))
 else
 ((ref1_Name x9).bind fun x14 =>
 if (!x14) then
 (some ((XApi_Token.mk 0 (ByteArray.mk #[]) 0 0), 0, 12))
 else
 (some ((XApi_Token.mk 1 x9 0 0), v1, 0)))))
 else
 ((sidx a0 0).bind fun x15 =>
 if ((x15.toNat : Int) == 39) then
 ((ref1_quoted a0).bind fun x16 =>
 if (x16.2 == 0) then
 (some ((XApi_Token.mk 0 (ByteArray.mk #[]) 0 0), 0, 1))
 else
 ((sslc a0 none (some x16.2)).bind fun x17 =>
 some ((XApi_Token.mk 2 x17 x16.1 0), x16.2, 0)))
 else
 ((Loop (fun (s : Int) => ref1_next_L2 a0 s) 3).bind (Br.go (fun _ =>
 some ((XApi_Token.mk 0 (ByteArray.mk #[]) 0 0), 0, 1)) (fun r1 => some r1))))
abbrev R_ref1_next (r : (XApi_Token × Int × Int)) : AV := (.tup [(.agg (cXApi_Token r.1)), (I r.2.1), (I r.2.2)])
def RR_ref1_next (r : (XApi_Token × Int × Int)) (x : Exit × St) : Prop := x.1 = .ret ∧ Fin cx [.cell 2 36, .tmp 3, .tmp 4] [] (R_ref1_next r) [] x
set_option maxHeartbeats 4000000 in
theorem T_ref1_next {nn : Nat} {a0 : ByteArray} {r : (XApi_Token × Int × Int)} (hF : ref1_next a0 = some r) : den cx (nn + 4) 21 [(AV.val (.string a0))] = some (R_ref1_next r, []) := by
 unfold ref1_next at hF
 refine fnA Tryd.func21 Tryd.ntmps21 (by exact spine) (sl := [0]) ?_
 refine sr <| ww oAlloc <| pp oAssign <| pp oAssign <| nl <| sq <| ?_
 refine srC (fun (s : Bool) => mkSt 103 [0, 2, 19] [(AV.val (.string a0)), (.ownp (cXApi_Token (XApi_Token.mk 0 (ByteArray.mk #[]) 0 0))), (B s)]) hF (fun z5 hF => ?_) (fun p1 hF => ?_)
 · refine pp oMove <| ?_
   refine bb hF fun x1 h1 hF => ?_
   refine pp (oIxS h1) <| ?_
   refine bb hF fun x2 h2 hF => ?_
   refine pp (oCallZ (T_ref1_letter h2)) <| pp oMove <| ?_
   refine spl (d := 15) hF (fun hF => ?_) (fun hF => ?_)
   · refine no fun u1 k1 hk1 => ?_
     refine no fun u2 k2 hk2 => ?_
     refine no fun u3 k3 hk3 => ?_
     refine pp oPickT <| ?_
     obtain rfl := inj hF
     exact nlC cutR'
   · refine pt ar oMove <| ?_
     refine bb hF fun x3 h3 hF => ?_
     refine pt ar (oIxS h3) <| ?_
     refine bb hF fun x4 h4 hF => ?_
     refine pt ar (oCallZ (T_ref1_digit h4)) <| pp oPickF <| ?_
     obtain rfl := inj hF
     exact nlC cutR'
 · refine mk ?_
   refine cd hF (fun hF => ?_) (fun hF => ?_)
   · refine sr <| pp oAssign <| nl <| sq <| ?_
     refine lp (fun (s : Int) => mkSt 103 [0, 2, 5] [(AV.val (.string a0)), (.ownp (cXApi_Token (XApi_Token.mk 0 (ByteArray.mk #[]) 0 0))), (I s)]) (fun (s : Int) => mkSt 103 [0, 2, 5] [(AV.val (.string a0)), (.ownp (cXApi_Token (XApi_Token.mk 0 (ByteArray.mk #[]) 0 0))), (I s)]) hF cutR' ?_ ?_
     · rintro y4 z1 hF
       replace hF : ref1_next_L1 a0 y4 = some z1 := hF
       unfold ref1_next_L1 at hF
       refine mk ?_
       refine sq <| ?_
       refine srC (fun (s : Bool) => mkSt 103 [0, 2, 5, 35] [(AV.val (.string a0)), (.ownp (cXApi_Token (XApi_Token.mk 0 (ByteArray.mk #[]) 0 0))), (I y4), (B s)]) hF (fun z2 hF => ?_) (fun p2 hF => ?_)
       · refine pp oMove <| pp oMove <| pp oLenS <| pp oLss <| pp oMove <| ?_
         refine spl (d := 24) hF (fun hF => ?_) (fun hF => ?_)
         · refine pt ar oMove <| pt ar oMove <| ?_
           refine bb hF fun x5 h5 hF => ?_
           refine pt ar (oIxS h5) <| ?_
           refine bb hF fun x6 h6 hF => ?_
           refine pt ar (oCallZ (T_ref1_letter h6)) <| pt ar oMove <| ?_
           refine splG (d := 29) hF (fun hF => ?_) (fun hF => ?_)
           · refine no fun u4 k4 hk4 => ?_
             refine no fun u5 k5 hk5 => ?_
             refine no fun u6 k6 hk6 => ?_
             refine no fun u7 k7 hk7 => ?_
             refine pt ar oPickT <| pp oPickT <| ?_
             obtain rfl := inj hF
             exact nlC cutR'
           · refine pt ar oMove <| pt ar oMove <| ?_
             refine bb hF fun x7 h7 hF => ?_
             refine pt ar (oIxS h7) <| ?_
             refine bb hF fun x8 h8 hF => ?_
             refine pt ar (oCallZ (T_ref1_digit h8)) <| pt ar oPickF <| pp oPickT <| ?_
             obtain rfl := inj hF
             exact nlC cutR'
         · refine no fun u8 k8 hk8 => ?_
           refine no fun u9 k9 hk9 => ?_
           refine no fun u10 k10 hk10 => ?_
           refine no fun u11 k11 hk11 => ?_
           refine no fun u12 k12 hk12 => ?_
           refine no fun u13 k13 hk13 => ?_
           refine no fun u14 k14 hk14 => ?_
           refine no fun u15 k15 hk15 => ?_
           refine no fun u16 k16 hk16 => ?_
           refine no fun u17 k17 hk17 => ?_
           refine pp oPickF <| ?_
           obtain rfl := inj hF
           exact nlC cutR'
       · refine mk ?_
         refine cd hF (fun hF => ?_) (fun hF => ?_)
         · refine sk <| qs <| bl <| rg <| pp oMove <| pp oAdd <| pp oAssign <| nl <| qb <| ?_
           exact ln hF cutR'
         · refine ex <| qsE <| ?_
           exact lx hF cutR'
     · intro v1 hF
       refine qmk ?_
       refine qs <| sr <| pp oMove <| pp oMove <| ?_
       refine bb hF fun x9 h9 hF => ?_
       refine pp (oSlcS h9) <| pp oAssign <| nl <| sq <| sr <| pp oMove <| ?_
       refine bb hF fun x10 h10 hF => ?_
       refine pp (oIxS h10) <| ?_
       refine bb hF fun x11 h11 hF => ?_
       refine pp (oCallZ (T_ref1_digit h11)) <| nl <| ?_
       refine cd hF (fun hF => ?_) (fun hF => ?_)
       · refine sr <| pp oMove <| ?_
         refine bb hF fun x12 h12 hF => ?_
         refine pp (oCall (T_ref1_number h12)) <| pp oMove <| pp oExt <| pp oExt <| pp oAssign <| pp oAssign <| nl <| sr <| pp oMove <| pp oMove <| pp oBuild <| pp oMove <| pp oMove <| ww oStR <| ?_
         refine pp oAssign <| pp oAssign <| nl <| rt <| qsR <| qsR <| ?_
         obtain rfl := inj hF
         exact fin
       · refine sk <| qs <| sq <| sr <| pp oMove <| ?_
         refine bb hF fun x13 h13 hF => ?_
         refine pp (oCallZ (T_ref1_Key h13)) <| nl <| ?_
         refine cd hF (fun hF => ?_) (fun hF => ?_)
         · refine sr <| pp oMove <| pp oBuild <| pp oMove <| ww oStR <| pp oAssign <| pp oAssign <| nl <| rt <| qsR <| qsR <| ?_
           obtain rfl := inj hF
           exact fin
         · refine sk <| qs <| sq <| sr <| pp oMove <| ?_
           refine bb hF fun x14 h14 hF => ?_
           refine pp (oCallZ (T_ref1_Name h14)) <| pp oNot <| nl <| ?_
           refine cd hF (fun hF => ?_) (fun hF => ?_)
           · refine sr <| pp oBuild <| ww oStR <| pp oAssign <| pp oAssign <| nl <| rt <| qsR <| qsR <| ?_
             obtain rfl := inj hF
             exact fin
           · refine sk <| qs <| sr <| pp oMove <| pp oBuild <| pp oMove <| ww oStR <| pp oAssign <| pp oAssign <| nl <| rt <| qsR <| ?_
             obtain rfl := inj hF
             exact fin
   · refine sk <| qs <| sq <| sr <| pp oMove <| ?_
     refine bb hF fun x15 h15 hF => ?_
     refine pp (oIxS h15) <| pp oEql <| nl <| ?_
     refine cd hF (fun hF => ?_) (fun hF => ?_)
     · refine sr <| pp oMove <| ?_
       refine bb hF fun x16 h16 hF => ?_
       refine pp (oCall (T_ref1_quoted h16)) <| pp oMove <| pp oExt <| pp oExt <| pp oAssign <| pp oAssign <| nl <| sq <| sr <| pp oMove <| pp oEql <| nl <| ?_
       refine cd hF (fun hF => ?_) (fun hF => ?_)
       · refine sr <| pp oBuild <| ww oStR <| pp oAssign <| pp oAssign <| nl <| rt <| qsR <| qsR <| ?_
         obtain rfl := inj hF
         exact fin
       · refine sk <| qs <| sr <| pp oMove <| pp oMove <| ?_
         refine bb hF fun x17 h17 hF => ?_
         refine pp (oSlcS h17) <| pp oMove <| pp oBuild <| pp oMove <| ww oStR <| pp oAssign <| pp oAssign <| nl <| rt <| qsR <| ?_
         obtain rfl := inj hF
         exact fin
     · refine sk <| qs <| sq <| sr <| pp oAssign <| nl <| ?_
       refine lpR (fun (s : Int) => mkSt 103 [0, 2, 11] [(AV.val (.string a0)), (.ownp (cXApi_Token (XApi_Token.mk 0 (ByteArray.mk #[]) 0 0))), (I s)]) (fun (s : Unit) => mkSt 103 [2] [(.ownp (cXApi_Token (XApi_Token.mk 0 (ByteArray.mk #[]) 0 0)))]) RR_ref1_next hF cutR' ?_ ?_ ?_
       · rintro y8 z3 hF
         replace hF : ref1_next_L2 a0 y8 = some z3 := hF
         unfold ref1_next_L2 at hF
         refine mk ?_
         refine sq <| sr <| pp oMove <| pp oGtr <| nl <| ?_
         refine cd hF (fun hF => ?_) (fun hF => ?_)
         · refine sk <| qs <| sq <| bl <| ?_
           refine srC (fun (s : Bool) => mkSt 103 [0, 2, 11, 96] [(AV.val (.string a0)), (.ownp (cXApi_Token (XApi_Token.mk 0 (ByteArray.mk #[]) 0 0))), (I y8), (B s)]) hF (fun z4 hF => ?_) (fun p3 hF => ?_)
           · refine pp oMove <| pp oMove <| pp oLenS <| pp oLeq <| pp oMove <| ?_
             refine spl (d := 91) hF (fun hF => ?_) (fun hF => ?_)
             · refine pt ar oMove <| pt ar oMove <| ?_
               refine bb hF fun x18 h18 hF => ?_
               refine pt ar (oSlcS h18) <| ?_
               refine bb hF fun x19 h19 hF => ?_
               refine pt ar (oCallZ (T_ref1_sign h19)) <| pp oPickT <| ?_
               obtain rfl := inj hF
               exact nlC cutR'
             · refine no fun u18 k18 hk18 => ?_
               refine no fun u19 k19 hk19 => ?_
               refine no fun u20 k20 hk20 => ?_
               refine no fun u21 k21 hk21 => ?_
               refine pp oPickF <| ?_
               obtain rfl := inj hF
               exact nlC cutR'
           · refine mk ?_
             refine cd hF (fun hF => ?_) (fun hF => ?_)
             · refine sr <| pp oMove <| pp oMove <| ?_
               refine bb hF fun x20 h20 hF => ?_
               refine pp (oSlcS h20) <| pp oBuild <| pp oMove <| ww oStR <| pp oAssign <| pp oAssign <| nl <| rt <| qbR <| qsR <| ?_
               exact lr hF ⟨rfl, fin⟩
             · refine sk <| qb <| qs <| rg <| pp oMove <| pp oSub <| pp oAssign <| nl <| ?_
               exact ln hF cutR'
         · refine ex <| qsE <| ?_
           exact lxR hF cutR'
       · intro _ hF
         refine qmk ?_
         refine qs <| sr <| pp oBuild <| ww oStR <| pp oAssign <| pp oAssign <| nl <| rt <| ?_
         obtain rfl := inj hF
         exact fin
       · rintro r1 hF ⟨xe, xs⟩ ⟨hxe, hfin⟩
         obtain rfl : xe = Exit.ret := hxe
         obtain rfl := inj hF
         refine qbR <| qsR <| ?_
         exact hfin

end Go.Ab
